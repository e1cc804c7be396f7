/- Texts of the proofs, part 4: what the functions that they reach do, walked; no conditions beyond those that each states. -/
import Derived.Lib.Hide
import Derived.Deep.RegionHeld
import Derived.Test.YtmjccpfchhnfhaaGreatZkc3329a6c2b
set_option linter.unusedVariables false
set_option linter.unusedSimpArgs false
set_option maxRecDepth 100000
set_option maxHeartbeats 8000000
namespace Go.Proofs.YtmjccpfchhnfhaaGreat
theorem k01 {p q:Prop} (k:q) (h:q→p:=by
 have h5:=(hA1 q hqA)
 rw[Bool.and_eq_true,List.all_eq_true] at h5;have h6:=Fz (L:=L) h.sh ops.size q.1 j (h5.2 j hj) fun o' ho'=>by rw[h2] at ho';cases ho';exact h3
 intro kk0;revert h6;revert h5;exact kk0):p:=h k
theorem k86 {p q:Prop} (k:q) (h:q→p:=by
 have hlt:q.1<ops.size:=by have:=hA1 q hqA;simp at this;exact this.1
 have h2:ops[q.1]? = some ops[q.1]:=Array.getElem?_eq_getElem hlt;have h3:=hA3 q hqA;rw[h2] at h3;intro kk0;revert h3;revert h2;revert hlt;exact kk0):p:=h k
theorem kVh {p q:Prop} (k:q) (h:q→p:=by
 obtain⟨h1,o,h2,h3⟩:=mem_ready.1 hi;have hlt:q.1<ops.size:=(Array.getElem?_eq_some_iff.1 h2).1;have hltL:q.1<L.size:=by rw[h.sz];exact hlt
 obtain⟨xs,hxa,hx⟩:=h.xs;intro kk0;revert hx;revert hxa;revert xs;revert hltL;revert hlt;revert h3;revert h2;revert o;revert h1;exact kk0):p:=h k
theorem kwS {p q:Prop} (k:q) (h:q→p:=by
 have h0:m=0:=by omega
 have h1:(A.filter fun q=>!L.getD q.1 true).length=0:=by omega
 intro kk0;revert h1;revert h0;exact kk0):p:=h k
theorem kzR {p q:Prop} (k:q) (h:q→p:=by
 have h6:=Fz (L:=L) h.sh ops.size i q0.1 h5' fun o' ho'=>by rw[h2] at ho';cases ho';exact h3
 have h7:q0.1<L.size:=by rw[h.sz];have:=hA1 q0 hq0;simp at this;exact this.1
 intro kk0;revert h7;revert h6;exact kk0):p:=h k
theorem myp {p:Prop} (h:p:=by
 obtain⟨o',h9,h10⟩:=jZ h8;have hlt:=(Array.getElem?_eq_some_iff.1 h9).1
 have e:ops.getD q.2 default=o':=by obtain⟨e1,e2⟩:=Array.getElem?_eq_some_iff.1 h9;simp [e1,e2]
 show a.tmps.getD _ undef=_;rw[e,h10];rfl):p:=h
theorem m74 {p:Prop} (h:p:=by
 unfold fillA;rw[j4];intro q hq;have h8:(q.1,q.2)∈fX ops:=tB_in hT hq;exact myp):p:=h
theorem mCZ {p:Prop} (h:p:=by
 have hlt:=(Array.getElem?_eq_some_iff.1 hj).1;simp [hlt] at hl):p:=h
theorem meD {p:Prop} (h:p:=by
 intro q hq;unfold cfB at hA;rw[Bool.and_eq_true,Bool.and_eq_true,Bool.and_eq_true,List.all_eq_true] at hA;have:=hA.1.1.1 q hq;simp at this;simp [this.1]):p:=h
theorem mG9 {p:Prop} (h:p:=by
 have:(A.filter fun q=>!(Array.replicate ops.size false).getD q.1 true)=A:=by rw[List.filter_eq_self];exact meD
 rw[this];omega):p:=h
theorem mJL {p:Prop} (h:p:=by
 obtain⟨q,hqA,hqi⟩:=List.any_eq_true.1 h4;exact⟨q,hqA,by simpa using hqi⟩):p:=h
theorem mM8 {p:Prop} (h:p:=by
 have g:∀x:Nat×List Nat,(!L.getD x.1 true)=((!(L.setIfInBounds q.1 true).getD x.1 true)||(x.1==q.1))∧((!(L.setIfInBounds q.1 true).getD x.1 true)&&(x.1==q.1))=false:=fun x=>by
  by_cases hij:q.1=x.1
  ·rw[←hij,h1];simp [hltL]
  ·rw[getD_set_ne true hij];have e:(x.1==q.1)=false:=by simpa using fun e=>hij e.symm
   rw[e];simp
 exact gK _ _ _ g A):p:=h
theorem mNB {p:Prop} (h:p:=by
 have:=hA4.1 (y.1,y.1) (List.mem_map.2 ⟨y,hy,rfl⟩);rw[beq_iff_eq] at he;simp [he,hxq] at this):p:=h
theorem mT4 {p:Prop} (h:p:=by
 apply Classical.byContradiction;intro hn
 exact hq fun q hqA=>by
  cases hv:L.getD q.1 true with
  | true=>rfl
  | false=>exact absurd ⟨q,hqA,hv⟩ hn):p:=h
theorem mXl {p:Prop} (h:p:=by
 refine⟨fun hr=>?_,step⟩;obtain⟨i,hi⟩:=hor _ q0 hq0 rfl hL0;rw[hr] at hi;cases hi):p:=h
theorem mct {p:Prop} (h:p:=by
 obtain⟨o',h9,h10⟩:=jZ h8;rw[e,h2] at h9;cases h9;rw[hd] at h10;cases h10):p:=h
theorem mf4 {p:Prop} (h:p:=by
 exact⟨q.1,mem_ready.2 ⟨hL,_,h2,hall⟩⟩):p:=h
theorem mfD {p:Prop} (h:p:=by
 show (R.getD j SP.any).p (if j=q.1 then v else xs j) w';by_cases hij:q.1=j
 ·subst hij;rw[if_pos rfl];exact hv
 ·rw[if_neg (fun e=>hij e.symm)];rw[getD_set_ne false hij] at hl;exact(R.getD j SP.any).st _ _ _ (hx j hj hl) hf'):p:=h
theorem mft {p:Prop} (h:p:=by
 have h4:=hq q hqA;have h5:q.1<ops.size:=by have:=hA1 q hqA;simp at this;exact this.1
 have h6:q.1<L.size:=by rw[h.sz];exact h5
 simp [h6] at h4 ⊢;exact h4):p:=h
theorem mi1 {p:Prop} (h:p:=by
 apply Array.ext
 ·rw[h.sz];simp [bitsOf]
 ·intro i h1 h2;have h3:i<ops.size:=by rw[←h.sz];exact h1
  have e1:=Lj ops.size A i true h3;simp only[h2,Array.getD_eq_getD_getElem?,Array.getElem?_eq_getElem,Option.getD_some] at e1;rw[e1];cases hl:L[i] with
  | true=>
   obtain⟨q,hqA,hqi⟩:=h.on i h3 (by simp [h1,hl]);exact(List.any_eq_true.2 ⟨q,hqA,by simp [hqi]⟩).symm
  | false=>
   cases hn:A.any fun q=>q.1==i with
   | false=>rfl
   | true=>
    obtain⟨q,hqA,hqi⟩:=List.any_eq_true.1 hn;have:=hq q hqA;rw[beq_iff_eq] at hqi;rw[hqi] at this;simp [h1,hl] at this):p:=h
theorem mih {p:Prop} (h:p:=by
 refine k01 ?_;intro h5 h6
 have h7:j<ops.size:=by
  rcases Nat.lt_or_ge j L.size with h' | h'
  ·rw[←h.sz];exact h'
  ·simp [Array.getElem?_eq_none h'] at h6
 exact hx j h7 h6):p:=h
theorem mjX {p:Prop} (h:p:=by
 have e1:(A.filter fun x=>!L.getD x.1 true).length=(A.filter fun x=>!(L.setIfInBounds q.1 true).getD x.1 true).length+(A.filter fun x=>x.1==q.1).length:=by clear hall hend done hA1 hA2 hin;exact mM8
 have e2:(A.filter fun x=>x.1==q.1).length=1:=by
  clear e1 hall hend done hA1 hA2 hin hor hA3 ih h hf hq hq0;clear hT
  induction A with
  | nil=>cases hqA
  | cons x r ihr=>
   rw[List.map_cons] at hA4;unfold gY at hA4;rw[Bool.and_eq_true,List.all_eq_true] at hA4;rw[List.filter_cons];by_cases hxq:x.1=q.1
   ·have e:(r.filter fun x=>x.1==q.1)=[]:=List.filter_eq_nil_iff.2 fun y hy he=>by exact mNB
    simp [hxq,e]
   ·rcases List.mem_cons.1 hqA with e | hm
    ·exact absurd (by rw[e]) hxq
    ·simp [hxq];exact ihr hA4.2 hm
 omega):p:=h
theorem mk7 {p:Prop} (h:p:=by
 intro j oj hj hl e he hb;by_cases hij:q.1=j
 ·subst hij;rw[h2] at hj;cases hj;exact getD_set_true (h3 e he hb)
 ·rw[getD_set_ne true hij] at hl;exact getD_set_true (h.sh j oj hj hl e he hb)):p:=h
theorem mmb {p:Prop} (h:p:=by
 intro j hj hl;by_cases hij:q.1=j
 ·exact⟨q,hqA,hij⟩
 ·rw[getD_set_ne false hij] at hl;exact h.on j hj hl):p:=h
theorem mn6 {p:Prop} (h:p:=by
 have h1:(A.filter fun q=>!L.getD q.1 true).length=0:=by rw[List.length_eq_zero_iff,List.filter_eq_nil_iff];intro q hqA;simp [hq q hqA]
 have h2:m=fuel+1:=by omega
 rw[←h2];exact done L a w h hq):p:=h
theorem msJ {p:Prop} (h:p:=by
 by_cases h:j<ops.size
 ·simp [h]
 ·simp [h]):p:=h
theorem mwU {p:Prop} (h:p:=by
 obtain⟨e,he,hb,hne⟩:∃e∈(ops[q.1]).after,Region.binds md e=true∧L.getD e.on false=false:=by
  apply Classical.byContradiction;intro hn
  exact hall fun e he hb=>by
   cases hv:L.getD e.on false with
   | true=>rfl
   | false=>exact absurd ⟨e,he,hb,hv⟩ hn
 have h4:=Array.all_eq_true_iff_forall_mem.1 h3 e he;rw[hb] at h4;simp only[Bool.not_true,Bool.false_or,Bool.and_eq_true,decide_eq_true_eq] at h4;obtain⟨x,hxA,hx⟩:=List.any_eq_true.1 h4.2;rw[beq_iff_eq] at hx;have hls:e.on<L.size:=by rw[h.sz,←hx];have:=hA1 x hxA;simp at this;exact this.1
 refine ihn e.on (by omega) x hxA hx ?_;rw[hx];simp [hls] at hne ⊢;exact hne):p:=h
theorem mx2 {p:Prop} (h:p:=by
 obtain⟨h1,o,h2,h3⟩:=mem_ready.1 hi;have hlt:i<ops.size:=(Array.getElem?_eq_some_iff.1 h2).1;have h4:=hA2 i (List.mem_range.2 hlt);rw[Bool.or_eq_true] at h4;rcases h4 with h4 | h4
 ·exact mJL
 ·have h5:=List.all_eq_true.1 h4 q0 hq0
  have h5':ancB md ops ops.size i q0.1=true:=by
   rw[Bool.or_eq_true] at h5;rcases h5 with h5 | h5
   ·have h6:=h.el q0.1 (by simpa using h5);rw[hL0] at h6;cases h6
   ·exact h5
  refine kzR ?_;intro h6 h7;simp [h7] at h6 hL0;rw[hL0] at h6;cases h6):p:=h
theorem myZ {p:Prop} (h:p:=by
 have eL:L=bitsOf ops.size A:=by exact mi1
 obtain⟨xs,hxa,hx⟩:=h.xs;rw[eL,hxa];refine hend xs w h.fr fun q hqA=>hx q.1 ?_ ?_
 ·have:=hA1 q hqA;simp at this;exact this.1
 ·exact mft):p:=h
theorem sA {α:Type} (l:List α) (i:Nat) (x:α):l.toArray.setIfInBounds i x=(l.set i x).toArray:=List.setIfInBounds_toArray ..
theorem sB {α:Type} (x y:α) (l:List α) (i:Nat):(x :: l).set (i+1) y=x :: l.set i y:=List.set_cons_succ ..
theorem sC {α:Type} (x y:α) (l:List α):(x :: l).set 0 y=y :: l:=List.set_cons_zero ..
theorem gA {α:Type} (l:List α) (i:Nat) (h:i<l.toArray.size):l.toArray[i]=l[i]'(by simpa using h):=List.getElem_toArray ..
theorem gB {α:Type} (x:α) (l:List α) (h:0<(x :: l).length):(x :: l)[0]=x:=List.getElem_cons_zero ..
theorem gC {α:Type} (x:α) (l:List α) (i:Nat) (h:i+1<(x :: l).length):(x :: l)[i+1]=l[i]'(by simpa using h):=List.getElem_cons_succ ..
section
variable {P:Program} {ops:Array Oper} {Q:Exit→Act→World→Prop} {md:Region.Mode} {K:Nat→Obj→Prop}
structure SP (K:Nat→Obj→Prop) where
 p:Value→World→Prop
 st:∀v w w',p v w→Fr K w w'→p v w'
def SP.any {K:Nat→Obj→Prop}:SP K:=⟨fun _ _=>True,fun _ _ _ h _=>h⟩
def SP.eq {K:Nat→Obj→Prop} (c:Value):SP K:=⟨fun v _=>v=c,fun _ _ _ h _=>h⟩
def fillL:List (Nat×Nat)→(Nat→Value)→Array Value→Array Value
 | [],_,t=>t
 | (d,j) :: r,xs,t=>fillL r xs (t.setIfInBounds d (xs j))
def fillA (T:List (Nat×Nat)) (a:Act) (xs:Nat→Value):Act:={ a with tmps:=fillL T xs a.tmps }
theorem mK:∀(T:List (Nat×Nat)) (xs:Nat→Value) (t:Array Value),(fillL T xs t).size=t.size
 | [],_,_=>rfl
 | (d,j) :: r,xs,t=>by rw[fillL,mK r];simp
theorem qZ:∀(T:List (Nat×Nat)) (xs:Nat→Value) (t:Array Value) (d:Nat) (v:Value),(∀q∈T,q.1≠d)→fillL T xs (t.setIfInBounds d v)=(fillL T xs t).setIfInBounds d v
 | [],_,_,_,_,_=>rfl
 | (d,j) :: r,xs,t,e,v,h=>by have h1:d≠e:=h (d,j) (List.mem_cons_self ..);rw[fillL,fillL,Array.setIfInBounds_comm _ _ (Ne.symm h1),qZ r xs _ e v (fun q hq=>h q (List.mem_cons_of_mem _ hq))]
theorem fy:∀(T:List (Nat×Nat)) (xs ys:Nat→Value) (t:Array Value),(∀q∈T,xs q.2=ys q.2)→fillL T xs t=fillL T ys t
 | [],_,_,_,_=>rfl
 | (d,j) :: r,xs,ys,t,h=>by rw[fillL,fillL,h (d,j) (List.mem_cons_self ..),fy r xs ys _ fun q hq=>h q (List.mem_cons_of_mem _ hq)]
def gY:List (Nat×Nat)→Bool
 | []=>true
 | (d,j) :: r=>r.all (fun q=>q.1 != d&&q.2 != j)&&gY r
theorem gw:∀(T:List (Nat×Nat)) (xs:Nat→Value) (t:Array Value) (d j:Nat) (v:Value),gY T=true→(d,j)∈T→
 fillL T (fun k=>if k=j then v else xs k) t=(fillL T xs t).setIfInBounds d v
 | [],_,_,_,_,_,_,h=>by cases h
 | (e,i) :: r,xs,t,d,j,v,ho,hm=>by
  unfold gY at ho;rw[Bool.and_eq_true,List.all_eq_true] at ho;have hx:∀q∈r,q.1≠e∧q.2≠i:=fun q hq=>by simpa using ho.1 q hq
  rcases List.mem_cons.1 hm with h | h
  ·cases h;rw[fillL,fillL,if_pos rfl,qZ r _ _ _ _ (fun q hq=>(hx q hq).1),qZ r _ _ _ _ (fun q hq=>(hx q hq).1),Array.setIfInBounds_setIfInBounds];rw[fy r _ xs _ fun q hq=>if_neg (hx q hq).2]
  ·have hji:i≠j:=fun e=>(hx _ h).2 e.symm
   rw[fillL,fillL,if_neg hji,gw r xs _ d j v ho.2 h]
theorem j4:∀(T:List (Nat×Nat)) (xs:Nat→Value) (t:Array Value),(∀q∈T,xs q.2=t.getD q.1 undef)→fillL T xs t=t
 | [],_,_,_=>rfl
 | (d,j) :: r,xs,t,h=>by
  have e:t.setIfInBounds d (xs j)=t:=by
   apply Array.ext
   ·simp
   ·intro i h1 h2;rw[Array.getElem_setIfInBounds h2];split
    ·rename_i he;subst he;rw[h (d,j) (List.mem_cons_self ..)];simp [h2]
    ·rfl
  rw[fillL,e];exact j4 r xs t fun q hq=>h q (List.mem_cons_of_mem _ hq)
def fX (ops:Array Oper):List (Nat×Nat):=(ops.toList.zipIdx).filterMap fun q=>q.1.dst.map fun d=>(d,q.2)
theorem j3 {i d:Nat} {o:Oper} (h:ops[i]? = some o) (hd:o.dst=some d):(d,i)∈fX ops:=by
 unfold fX;rw[List.mem_filterMap];refine⟨(o,i),?_,by simp [hd]⟩;rw[List.mem_zipIdx_iff_getElem?];simpa using h
theorem jZ {i d:Nat} (h:(d,i)∈fX ops):∃o,ops[i]? = some o∧o.dst=some d:=by
 unfold fX at h;rw[List.mem_filterMap] at h;obtain⟨⟨o,k⟩,hm,he⟩:=h;rw[List.mem_zipIdx_iff_getElem?] at hm;cases hd:o.dst with
 | none=>simp [hd] at he
 | some d'=>
  simp [hd] at he;obtain⟨rfl,rfl⟩:=he;exact⟨o,by simpa using hm,hd⟩
def tB (ops:Array Oper) (A:List (Nat×List Nat)) (T:List (Nat×Nat)):Bool:=T.all (fun q=>(fX ops).contains q)&&(fX ops).all fun q=>T.contains q||!(A.any fun p=>p.1==q.2)
theorem tB_in {A:List (Nat×List Nat)} {T:List (Nat×Nat)} (h:tB ops A T=true) {q:Nat×Nat} (hq:q∈T):q∈fX ops:=by
 unfold tB at h;rw[Bool.and_eq_true,List.all_eq_true] at h;exact List.contains_iff_mem.1 (h.1 q hq)
theorem tB_of {A:List (Nat×List Nat)} {T:List (Nat×Nat)} (h:tB ops A T=true) {q:Nat×Nat} (hq:q∈fX ops) {p:Nat×List Nat} (hp:p∈A) (e:p.1=q.2):q∈T:=by
 unfold tB at h;rw[Bool.and_eq_true,List.all_eq_true,List.all_eq_true] at h;have h2:=h.2 q hq;rw[Bool.or_eq_true] at h2;rcases h2 with h2 | h2
 ·exact List.contains_iff_mem.1 h2
 ·rw[List.any_eq_true.2 ⟨p,hp,by simp [e]⟩] at h2;cases h2
def ancB (md:Region.Mode) (ops:Array Oper):Nat→Nat→Nat→Bool
 | 0,_,_=>false
 | f+1,i,j=>match ops[i]? with
  | some o=>o.after.any fun e=>Region.binds md e&&(e.on==j||ancB md ops f e.on j)
  | none=>false
theorem Fz {L:Array Bool} (hs:∀(j:Nat) oj,ops[j]? = some oj→L.getD j true=true→∀e∈oj.after,Region.binds md e=true→L.getD e.on false=true):∀(f i j:Nat),ancB md ops f i j=true→
 (∀o,ops[i]? = some o→∀e∈o.after,Region.binds md e=true→L.getD e.on false=true)→L.getD j false=true
 | 0,_,_,h,_=>by cases h
 | f+1,i,j,h,hi=>by
  unfold ancB at h;cases ho:ops[i]? with
  | none=>rw[ho] at h;cases h
  | some o=>
   rw[ho] at h;obtain⟨e,he,hb⟩:=Array.any_eq_true'.1 h;simp only[Bool.and_eq_true,Bool.or_eq_true,beq_iff_eq] at hb;have h1:=hi o ho e he hb.1;rcases hb.2 with h2 | h2
   ·rw[←h2];exact h1
   ·refine Fz hs f e.on j h2 fun o' ho' e' he' hb'=>hs e.on o' ho' ?_ e' he' hb'
    rcases Nat.lt_or_ge e.on L.size with hl | hl
    ·simp [hl] at h1 ⊢;exact h1
    ·simp [Array.getElem?_eq_none hl] at h1
theorem gK {α:Type} (p r s:α→Bool) (h:∀x,p x=(r x||s x)∧(r x&&s x)=false):∀l:List α,(l.filter p).length=(l.filter r).length+(l.filter s).length
 | []=>rfl
 | x :: l=>by
  have ih:=gK p r s h l;obtain⟨h1,h2⟩:=h x;rw[List.filter_cons,List.filter_cons,List.filter_cons,h1];cases ha:r x <;> cases hb:s x
  ·simpa using ih
  ·simp;omega
  ·simp;omega
  ·rw[ha,hb] at h2;cases h2
def CfStep (P:Program) (ops:Array Oper) (Q:Exit→Act→World→Prop) (K:Nat→Obj→Prop) (T:List (Nat×Nat)) (a:Act) (w0:World) (R:List (SP K)) (anc:List Nat) (i:Nat):Prop:=
 ∀o,ops[i]? = some o→∀(xs:Nat→Value) (w:World),Fr K w0 w→(∀j∈anc,(R.getD j SP.any).p (xs j) w)→
  ∀K':Act→World→Prop,Shut (∀a' v w',a'=(fillA T a xs).put o.dst v→Fr K w w'→(R.getD i SP.any).p v w'→K' a' w')→
   if Region.wanted o (yielded ops (fillA T a xs).tmps)=true then Oper.wp P o (fillA T a xs) w K' Q else K' ((fillA T a xs).put o.dst undef) w
def bY (P:Program) (ops:Array Oper) (Q:Exit→Act→World→Prop) (K:Nat→Obj→Prop) (T:List (Nat×Nat)) (a:Act) (w0:World) (R:List (SP K)):List (Nat×List Nat)→Prop
 | []=>True
 | (i,anc) :: r=>CfStep P ops Q K T a w0 R anc i∧bY P ops Q K T a w0 R r
theorem bY.nil {T:List (Nat×Nat)} {a:Act} {w0:World} {R:List (SP K)}:bY P ops Q K T a w0 R []:=trivial
theorem bY.cons {T:List (Nat×Nat)} {a:Act} {w0:World} {R:List (SP K)} {i:Nat} {anc:List Nat} {r:List (Nat×List Nat)} {o:Oper} (ho:ops[i]? = some o)
  (h:∀(xs:Nat→Value) (w:World),Fr K w0 w→(∀j∈anc,(R.getD j SP.any).p (xs j) w)→
   ∀K':Act→World→Prop,Shut (∀a' v w',a'=(fillA T a xs).put o.dst v→Fr K w w'→(R.getD i SP.any).p v w'→K' a' w')→
    if Region.wanted o (yielded ops (fillA T a xs).tmps)=true then Oper.wp P o (fillA T a xs) w K' Q else K' ((fillA T a xs).put o.dst undef) w)
  (hr:bY P ops Q K T a w0 R r):bY P ops Q K T a w0 R ((i,anc) :: r):=⟨fun o' ho'=>by rw[ho] at ho';cases ho';exact h,hr⟩
theorem bY.get {T:List (Nat×Nat)} {a:Act} {w0:World} {R:List (SP K)}:∀(A:List (Nat×List Nat)),bY P ops Q K T a w0 R A→∀q∈A,CfStep P ops Q K T a w0 R q.2 q.1
 | [],_,_,h=>by cases h
 | (i,anc) :: r,h,q,hq=>by
  rcases List.mem_cons.1 hq with rfl | hq
  ·exact h.1
  ·exact bY.get r h.2 q hq
def cfB (md:Region.Mode) (ops:Array Oper) (A:List (Nat×List Nat)) (E:List Nat:=[]):Bool:=
 (A.all fun q=>decide (q.1<ops.size)&&q.2.all fun j=>ancB md ops ops.size q.1 j) &&
 (A.all fun q=>match ops[q.1]? with
  | some o=>o.after.all fun e=>!Region.binds md e||(decide (e.on<q.1)&&A.any fun x=>x.1==e.on)
  | none=>false)&&gY (A.map fun q=>(q.1,q.1)) &&
 ((List.range ops.size).all fun j=>(A.any fun q=>q.1==j)||A.all fun q=>E.contains q.1||ancB md ops ops.size j q.1)
def bitsOf (n:Nat) (A:List (Nat×List Nat)):Array Bool:=((List.range n).map fun j=>A.any fun q=>q.1==j).toArray
theorem Lj (n:Nat) (A:List (Nat×List Nat)) (j:Nat) (b:Bool) (h:j<n):(bitsOf n A).getD j b=A.any fun q=>q.1==j:=by
 unfold bitsOf;simp [h]
structure CfInv (md:Region.Mode) (ops:Array Oper) (K:Nat→Obj→Prop) (T:List (Nat×Nat)) (a0:Act) (w0:World) (R:List (SP K)) (A:List (Nat×List Nat)) (E:List Nat) (L:Array Bool) (a:Act) (w:World):Prop where
 el:∀e∈E,L.getD e true=true
 sz:L.size=ops.size
 fr:Fr K w0 w
 sh:∀(j:Nat) oj,ops[j]? = some oj→L.getD j true=true→∀e∈oj.after,Region.binds md e=true→L.getD e.on false=true
 on:∀j,j<ops.size→L.getD j false=true→∃q∈A,q.1=j
 xs:∃xs:Nat→Value,a=fillA T a0 xs∧∀j,j<ops.size→L.getD j false=true→(R.getD j SP.any).p (xs j) w
theorem Fv {E:List Nat} {T:List (Nat×Nat)} {a0:Act} {w0:World} {R:List (SP K)} {A:List (Nat×List Nat)} (hT:tB ops A T=true) (ho:gY T=true) (hA:cfB md ops A E=true)
 (hall:bY P ops Q K T a0 w0 R A) (m:Nat)
 (hend:∀xs w,Fr K w0 w→(∀q∈A,(R.getD q.1 SP.any).p (xs q.1) w)→wpAny P md ops Q m (bitsOf ops.size A) (fillA T a0 xs) w):
 ∀(fuel:Nat) (L:Array Bool) (a:Act) (w:World),CfInv md ops K T a0 w0 R A E L a w→fuel=m+(A.filter fun q=>!L.getD q.1 true).length→(L.size=ops.size)→wpAny P md ops Q fuel L a w:=by
 unfold cfB at hA;rw[Bool.and_eq_true,Bool.and_eq_true,Bool.and_eq_true,List.all_eq_true,List.all_eq_true,List.all_eq_true] at hA;obtain⟨⟨⟨hA1,hA3⟩,hA4⟩,hA2⟩:=hA
 have done:∀(L:Array Bool) (a:Act) (w:World),CfInv md ops K T a0 w0 R A E L a w→(∀q∈A,L.getD q.1 true=true)→wpAny P md ops Q m L a w:=fun L a w h hq=>by exact myZ
 intro fuel
 induction fuel with
 | zero=>
  intro L a w h hf _;refine kwS ?_;intro h0 h1;rw[h0] at done;refine done L a w h fun q hq=>?_
  have h2:=List.length_eq_zero_iff.1 h1;rw[List.filter_eq_nil_iff] at h2;simpa using h2 q hq
 | succ fuel ih=>
  intro L a w h hf hsz;by_cases hq:∀q∈A,L.getD q.1 true=true
  ·exact mn6
  ·obtain⟨q0,hq0,hL0⟩:∃q∈A,L.getD q.1 true=false:=by exact mT4
   have hin:∀i∈Region.ready md ops L,∃q∈A,q.1=i:=fun i hi=>by exact mx2
   have hor:∀n,∀q∈A,q.1=n→L.getD q.1 true=false→∃i,i∈Region.ready md ops L:=fun n=>by
    induction n using Nat.strongRecOn with
    | ind n ihn=>
     intro q hqA hqn hL;refine k86 ?_;intro hlt h2 h3;by_cases hall:∀e∈(ops[q.1]).after,Region.binds md e=true→L.getD e.on false=true
     ·exact mf4
     ·exact mwU
   have step:∀i∈Region.ready md ops L,wpOp P ops Q i (wpAny P md ops Q fuel (L.setIfInBounds i true)) a w:=fun i hi=>by
    obtain⟨q,hqA,rfl⟩:=hin i hi;refine kVh ?_;intro h1 o h2 h3 hlt hltL xs hxa hx
    have hst:=bY.get A hall q hqA o h2 xs w h.fr (fun j hj=>by exact mih)
    refine wpOp_step h2 fun K' hK=>?_
    rw[hxa];refine hst K' fun a' v w' ha' hf' hv=>hK _ _ ?_
    subst ha';refine ih _ _ _ ⟨fun e he=>(by by_cases h9:q.1=e;(· rw[←h9];simp [hltL]);(· rw[getD_set_ne true h9];exact h.el e he)),by simpa using h.sz,h.fr.trans hf',?_,?_,?_⟩ ?_ (by simpa using h.sz)
    ·exact mk7
    ·exact mmb
    ·refine⟨fun k=>if k=q.1 then v else xs k,?_,fun j hj hl=>?_⟩
     ·cases hd:o.dst with
      | none=>
       show fillA T a0 xs=_;unfold fillA;rw[fy T xs (fun k=>if k=q.1 then v else xs k)];intro p hp
       have hne:p.2≠q.1:=fun e=>by have h8:(p.1,p.2)∈fX ops:=tB_in hT hp;exact mct
       show xs p.2=if p.2=q.1 then v else xs p.2
       rw[if_neg hne]
      | some d=>
       show ({ fillA T a0 xs with tmps:=(fillA T a0 xs).tmps.setIfInBounds d v }:Act)=_;unfold fillA;rw[gw T xs a0.tmps d q.1 v ho (tB_of hT (j3 h2 hd) hqA rfl)]
     ·exact mfD
    ·exact mjX
   exact mXl
theorem fZ {id:Nat} {a:Act} {w:World} (hm:P.follows .mixedOrders=true) (T:List (Nat×Nat)) (A:List (Nat×List Nat)) (R:List (SP K)) (m:Nat) (hT:tB ops A T=true) (ho:gY T=true) (hA:cfB .any ops A=true) (hn:A.length+m=ops.size)
 (hall:bY P ops Q K T a w.drew R A)
 (hend:∀xs w',Fr K w.drew w'→(∀q∈A,(R.getD q.1 SP.any).p (xs q.1) w')→wpAny P .any ops Q m (bitsOf ops.size A) (fillA T a xs) w'):(Code.region id ops true).wp P Q a w:=by
 refine wp_region_any hm ?_
 have hrep:∀j,(Array.replicate ops.size false).getD j false=false:=fun j=>by exact msJ
 refine Fv (E:=[]) hT ho hA hall m hend _ _ _ _ ⟨fun e he=>(by cases he),by simp,Fr.refl _ _,fun j oj hj hl=>?_,fun j hj hl=>?_,fun j=>(a.tmps.getD ((ops.getD j default).dst.getD 0) undef),?_,fun j hj hl=>?_⟩ ?_ (by simp)
 ·exact mCZ
 ·rw[hrep] at hl;cases hl
 ·exact m74
 ·rw[hrep] at hl;cases hl
 ·exact mG9
theorem wpR {id:Nat} {a:Act} {w:World} (T:List (Nat×Nat)) (A:List (Nat×List Nat)) (R:List (SP (fun(_:Nat) (_:Obj)=>True))) (m:Nat) (hn:A.length+m=ops.size)
 (hall:bY P ops Q (fun(_:Nat) (_:Obj)=>True) T a w.drew R A)
 (hend:∀xs w',Fr (fun(_:Nat) (_:Obj)=>True) w.drew w'→(∀q∈A,(R.getD q.1 SP.any).p (xs q.1) w')→wpAny P .any ops Q m (bitsOf ops.size A) (fillA T a xs) w') (hm:P.follows .mixedOrders=true:=by kernel_rfl) (hT:tB ops A T=true:=by kernel_rfl) (ho:gY T=true:=by kernel_rfl) (hA:cfB .any ops A=true:=by kernel_rfl):(Code.region id ops true).wp P Q a w:=
 fZ hm T A R m hT ho hA hn hall hend
theorem m6 {id:Nat} {a:Act} {w:World} (hm:P.follows .mixedOrders=true) (T:List (Nat×Nat)) (A:List (Nat×List Nat)) (R:List (SP K)) (hT:tB ops A T=true) (ho:gY T=true) (hA:cfB .any ops A=true) (hn:A.length=ops.size)
 (hall:bY P ops Q K T a w.drew R A)
 (hr:Region.ready .any ops (bitsOf ops.size A)=[])
 (hend:∀xs w',Fr K w.drew w'→(∀q∈A,(R.getD q.1 SP.any).p (xs q.1) w')→Q .normal (fillA T a xs) w'):(Code.region id ops true).wp P Q a w:=
 fZ hm T A R 0 hT ho hA (by omega) hall fun xs w' hf h=>⟨hr,hend xs w' hf h⟩
theorem L4 {id:Nat} {a:Act} {w:World} (T:List (Nat×Nat)) (A:List (Nat×List Nat)) (R:List (SP (fun(_:Nat) (_:Obj)=>True))) (hn:A.length=ops.size)
 (hall:bY P ops Q (fun(_:Nat) (_:Obj)=>True) T a w.drew R A)
  (hend:∀xs w',Fr (fun(_:Nat) (_:Obj)=>True) w.drew w'→(∀q∈A,(R.getD q.1 SP.any).p (xs q.1) w')→Q .normal (fillA T a xs) w') (hm:P.follows .mixedOrders=true:=by kernel_rfl) (hT:tB ops A T=true:=by kernel_rfl) (ho:gY T=true:=by kernel_rfl) (hA:cfB .any ops A=true:=by kernel_rfl) (hr:Region.ready .any ops (bitsOf ops.size A)=[]:=by kernel_rfl):(Code.region id ops true).wp P Q a w:=
 m6 hm T A R hT ho hA hn hall hr hend
theorem cY {id:Nat} {a:Act} {w:World} {ot:Oper} {vt:Value} (t:Nat) (ht:ops[t]? = some ot) (hs:Region.noSelect ops=true) (hfr:Region.free .any ops (Array.replicate ops.size false) t=true) (hrd:(Region.ready .any ops (Array.replicate ops.size false)).contains t=true)
 (hQ:∀c a w,Q (.panic c) (a.put ot.dst vt) w→Q (.panic c) a w) (hy:Yields P ops ot vt a)
 (hm:P.follows .mixedOrders=true) (T:List (Nat×Nat)) (A:List (Nat×List Nat)) (R:List (SP K)) (m:Nat) (hT:tB ops A T=true) (ho:gY T=true) (hA:cfB .any ops A [t]=true) (hn:A.length+m=ops.size) (hRt:∀w',(R.getD t SP.any).p vt w') (hAt:(A.any fun q=>q.1==t)=true) (d:Nat) (hd:ot.dst=some d) (hds:d<a.tmps.size)
 (hall:bY P ops Q K T (a.put (some d) vt) w.drew R A)
 (hend:∀xs w',Fr K w.drew w'→(∀q∈A,(R.getD q.1 SP.any).p (xs q.1) w')→wpAny P .any ops Q m (bitsOf ops.size A) (fillA T (a.put (some d) vt) xs) w'):(Code.region id ops true).wp P Q a w:=by
 refine wp_region_any hm ?_;have htl:t<ops.size:=(Array.getElem?_eq_some_iff.1 ht).1;rw[←hd] at hall hend
 have hrep:∀j,(Array.replicate ops.size false).getD j false=false:=fun j=>by exact msJ
 obtain⟨f,hf⟩:∃f,ops.size=f+1:=⟨ops.size-1,by omega⟩
 have hgo:wpAny P .any ops Q f ((Array.replicate ops.size false).setIfInBounds t true) (a.put ot.dst vt) w.drew:=by
  have hbit:∀j,((Array.replicate ops.size false).setIfInBounds t true).getD j false=true→j=t:=fun j h=>by
   by_cases e:t=j
   ·exact e.symm
   ·rw[getD_set_ne false e,hrep] at h;cases h
  refine Fv (E:=[t]) hT ho hA hall m hend _ _ _ _ ⟨fun e he=>?_,by simp,Fr.refl _ _,fun j oj hj hl=>?_,fun j hj hl=>?_,fun j=>((a.put ot.dst vt).tmps.getD ((ops.getD j default).dst.getD 0) undef),?_,fun j hj hl=>?_⟩ ?_ (by simp)
  ·rw[List.mem_singleton.1 he];simp [htl]
  ·by_cases e:t=j
   ·subst e;rw[ht] at hj;cases hj;obtain⟨_,o,h1,h2⟩:=mem_ready.1 (List.contains_iff_mem.1 hrd);rw[ht] at h1;cases h1;exact fun e he hb=>by have:=h2 e he hb;rw[hrep] at this;cases this
   ·have hlt:=(Array.getElem?_eq_some_iff.1 hj).1;rw[getD_set_ne true e] at hl;simp [hlt] at hl
  ·obtain⟨q,hq,hqt⟩:=List.any_eq_true.1 hAt;exact⟨q,hq,by rw[hbit j hl];simpa using hqt⟩
  ·unfold fillA;rw[j4];intro q hq;have h8:(q.1,q.2)∈fX ops:=tB_in hT hq;obtain⟨o',h9,h10⟩:=jZ h8
   have e:ops.getD q.2 default=o':=by obtain⟨e1,e2⟩:=Array.getElem?_eq_some_iff.1 h9;simp [e1,e2]
   show (a.put ot.dst vt).tmps.getD _ undef=_;rw[e,h10];rfl
  ·rw[hbit j hl]
   have e:ops.getD t default=ot:=by obtain⟨e1,e2⟩:=Array.getElem?_eq_some_iff.1 ht;simp [e1,e2]
   have e2:(a.put ot.dst vt).tmps.getD d undef=vt:=by rw[hd];show (a.tmps.setIfInBounds d vt).getD d undef=vt;simp [hds]
   show (R.getD t SP.any).p ((a.put ot.dst vt).tmps.getD ((ops.getD t default).dst.getD 0) undef) _;rw[e,hd];show (R.getD t SP.any).p ((a.put (some d) vt).tmps.getD d undef) _;rw[←hd,e2];exact hRt _
  ·have e1:(A.filter fun q=>!((Array.replicate ops.size false).setIfInBounds t true).getD q.1 true).length+(A.filter fun q=>q.1==t).length=A.length:=by
    have g:∀x:Nat×List Nat,(decide (x.1<ops.size))=((!((Array.replicate ops.size false).setIfInBounds t true).getD x.1 true)||(x.1==t))∧((!((Array.replicate ops.size false).setIfInBounds t true).getD x.1 true)&&(x.1==t))=false:=fun x=>by
     by_cases e:t=x.1
     ·rw[←e];simp [htl]
     ·rw[getD_set_ne true e];have e':(x.1==t)=false:=by simpa using fun h=>e h.symm
      rw[e'];by_cases hx:x.1<ops.size <;> simp [hx]
    have:=gK _ _ _ g A;rw[←this,List.filter_eq_self.2];exact meD
   have e2:(A.filter fun q=>q.1==t).length=1:=by
    unfold cfB at hA;rw[Bool.and_eq_true,Bool.and_eq_true,Bool.and_eq_true] at hA;have hA4:=hA.1.2;obtain⟨q,hqA,hqt⟩:=List.any_eq_true.1 hAt;rw[beq_iff_eq] at hqt;clear hall hend hA e1 hn hAt;clear hT
    induction A with
    | nil=>cases hqA
    | cons x r ihr=>
     rw[List.map_cons] at hA4;unfold gY at hA4;rw[Bool.and_eq_true,List.all_eq_true] at hA4;rw[List.filter_cons];by_cases hxq:x.1=t
     ·have e:(r.filter fun x=>x.1==t)=[]:=List.filter_eq_nil_iff.2 fun y hy he=>by exact mNB
      simp [hxq,e]
     ·rcases List.mem_cons.1 hqA with e | hm
      ·exact absurd (by rw[←e];exact hqt) hxq
      ·simp [hxq];exact ihr hA4.2 hm
   omega
 show wpAny P .any ops Q ops.size (Array.replicate ops.size false) a w.drew
 conv=>arg 5;rw[hf]
 exact wpAny_take ht hs hfr hrd hQ hy hgo
theorem JQ {L:Array Bool} {a:Act} {w:World} {o:Oper} (i:Nat) (hr:Region.ready md ops L=[i]) (hr2:Region.ready md ops (L.setIfInBounds i true)=[]) (ho:ops[i]? = some o)
 (h:∀K':Act→World→Prop,Shut (∀a' w',Q .normal a' w'→K' a' w')→if Region.wanted o (yielded ops a.tmps)=true then Oper.wp P o a w K' Q else K' (a.put o.dst undef) w):wpAny P md ops Q 1 L a w:=by
 refine⟨fun e=>(by rw[hr] at e;cases e),fun j hj=>?_⟩;rw[hr] at hj;obtain rfl:=List.mem_singleton.1 hj;exact wpOp_step ho fun K' hK=>h K' fun a' w' hq=>hK a' w' ⟨hr2,hq⟩
theorem dv {L:Array Bool} {a:Act} {w:World} {o:Oper} {m:Nat} (i:Nat) (hr:Region.ready md ops L=[i]) (ho:ops[i]? = some o)
 (h:∀K':Act→World→Prop,Shut (∀a' w',wpAny P md ops Q m (L.setIfInBounds i true) a' w'→K' a' w')→if Region.wanted o (yielded ops a.tmps)=true then Oper.wp P o a w K' Q else K' (a.put o.dst undef) w):wpAny P md ops Q (m+1) L a w:=by
 refine⟨fun e=>(by rw[hr] at e;cases e),fun j hj=>?_⟩;rw[hr] at hj;obtain rfl:=List.mem_singleton.1 hj;exact wpOp_step ho fun K' hK=>h K' fun a' w' hq=>hK a' w' hq
theorem wpN {L:Array Bool} {a:Act} {w:World} {o:Oper} {m:Nat} (i:Nat) (ho:ops[i]? = some o)
 (h:∀K':Act→World→Prop,Shut (∀a' w',wpAny P md ops Q m (L.setIfInBounds i true) a' w'→K' a' w')→if Region.wanted o (yielded ops a.tmps)=true then Oper.wp P o a w K' Q else K' (a.put o.dst undef) w) (hr:Region.ready md ops L=[i]:=by kernel_rfl):wpAny P md ops Q (m+1) L a w:=dv i hr ho h
theorem wpAny_fin {L:Array Bool} {a:Act} {w:World} (hr:Region.ready md ops L=[]) (h:Q .normal a w):wpAny P md ops Q 0 L a w:=⟨hr,h⟩
theorem wpF {L:Array Bool} {a:Act} {w:World} (h:Q .normal a w) (hr:Region.ready md ops L=[]:=by kernel_rfl):wpAny P md ops Q 0 L a w:=⟨hr,h⟩
def ckLook:List (Nat×Value)→Nat→Option Value
 | [],_=>none
 | (i,v) :: r,j=>match i==j with
  | true=>some v
  | false=>ckLook r j
def ckEqs (V:List (Nat×Value)) (xs:Nat→Value):List Nat→Prop
 | []=>True
 | j :: r=>match ckLook V j with
  | some v=>xs j=v∧ckEqs V xs r
  | none=>ckEqs V xs r
def ckU:List (Nat×SP K)→Nat→SP K
 | [],_=>SP.any
 | (i,s) :: r,j=>match i==j with
  | true=>s
  | false=>ckU r j
def ckS (V:List (Nat×Value)) (U:List (Nat×SP K)) (j:Nat):SP K:=match ckLook V j with
 | some v=>SP.eq v
 | none=>ckU U j
def ckR (V:List (Nat×Value)) (U:List (Nat×SP K)):Nat→Nat→List (SP K)
 | 0,_=>[]
 | n+1,i=>ckS V U i :: ckR V U n (i+1)
def ckB (V:List (Nat×Value)) (n:Nat):Bool:=V.all fun q=>Nat.blt q.1 n
theorem qk (V:List (Nat×Value)) (U:List (Nat×SP K)):∀(n i j:Nat),j<n→(ckR V U n i).getD j SP.any=ckS V U (i+j)
 | 0,_,_,h=>by omega
 | n+1,i,0,_=>rfl
 | n+1,i,j+1,h=>by unfold ckR;rw[List.getD_cons_succ,qk V U n (i+1) j (by omega)];congr 1;omega
theorem j_ {n:Nat}:∀(V:List (Nat×Value)) (j:Nat) (v:Value),ckB V n=true→ckLook V j=some v→j<n
 | [],_,_,_,h=>by cases h
 | (i,x) :: r,j,v,hb,h=>by
  unfold ckB at hb;rw[List.all_cons,Bool.and_eq_true] at hb;unfold ckLook at h;cases e:i==j with
  | true=>rw[←eq_of_beq e];exact Nat.ble_eq.mp hb.1
  | false=>rw[e] at h;exact j_ r j v hb.2 h
theorem xq {V:List (Nat×Value)} {U:List (Nat×SP K)} {n:Nat} (hb:ckB V n=true) {xs:Nat→Value} {w:World}:∀(anc:List Nat),(∀j∈anc,((ckR V U n 0).getD j SP.any).p (xs j) w)→ckEqs V xs anc
 | [],_=>trivial
 | j :: r,h=>by
  have ih:=xq hb r fun k hk=>h k (List.mem_cons_of_mem _ hk)
  unfold ckEqs;cases el:ckLook V j with
  | none=>exact ih
  | some v=>
   have h1:=h j (List.mem_cons_self ..);rw[qk V U n 0 j (j_ V j v hb el),Nat.zero_add] at h1;unfold ckS at h1;rw[el] at h1;exact⟨h1,ih⟩
theorem bY.k {V:List (Nat×Value)} {U:List (Nat×SP K)} {n:Nat} {T:List (Nat×Nat)} {a:Act} {w0:World} {i:Nat} {anc:List Nat} {r:List (Nat×List Nat)} {o:Oper} (ho:ops[i]? = some o) (hb:ckB V n=true)
  (h:∀(xs:Nat→Value) (w:World),Fr K w0 w→(∀j∈anc,((ckR V U n 0).getD j SP.any).p (xs j) w)→ckEqs V xs anc→
   ∀K':Act→World→Prop,Shut (∀a' v w',a'=(fillA T a xs).put o.dst v→Fr K w w'→((ckR V U n 0).getD i SP.any).p v w'→K' a' w')→
    if Region.wanted o (yielded ops (fillA T a xs).tmps)=true then Oper.wp P o (fillA T a xs) w K' Q else K' ((fillA T a xs).put o.dst undef) w)
  (hr:bY P ops Q K T a w0 (ckR V U n 0) r):bY P ops Q K T a w0 (ckR V U n 0) ((i,anc) :: r):=
 bY.cons ho (fun xs w hf hA K' hK=>h xs w hf hA (xq hb anc hA) K' hK) hr
theorem bY.p {V:List (Nat×Value)} {U:List (Nat×SP K)} {n:Nat} {T:List (Nat×Nat)} {a:Act} {w0:World} {i:Nat} {anc:List Nat} {r:List (Nat×List Nat)} {o:Oper} (ho:ops[i]? = some o) (hb:ckB V n=true)
  (h:∀(xs:Nat→Value) (w:World),Go.RowKit.Hid (Fr K w0 w)→(∀j∈anc,((ckR V U n 0).getD j SP.any).p (xs j) w)→ckEqs V xs anc→
   ∀K':Act→World→Prop,Shut (∀a' v w',a'=(fillA T a xs).put o.dst v→Fr K w w'→((ckR V U n 0).getD i SP.any).p v w'→K' a' w')→
    if Region.wanted o (yielded ops (fillA T a xs).tmps)=true then Oper.wp P o (fillA T a xs) w K' Q else K' ((fillA T a xs).put o.dst undef) w)
  (hr:bY P ops Q K T a w0 (ckR V U n 0) r):bY P ops Q K T a w0 (ckR V U n 0) ((i,anc) :: r):=bY.k ho hb (fun xs w hf=>h xs w (Go.Lib.hid hf)) hr
theorem bY.kk {V:List (Nat×Value)} {U:List (Nat×SP K)} {n:Nat} {T:List (Nat×Nat)} {a:Act} {w0:World} {i:Nat} {anc:List Nat} {r:List (Nat×List Nat)} {o:Oper} {v:Value} (ho:ops[i]? = some o) (hb:ckB V n=true) (hv:ckLook V i=some v)
 (h:∀(xs:Nat→Value) (w:World),Fr K w0 w→ckEqs V xs anc→∀K':Act→World→Prop,Shut (∀a',a'=(fillA T a xs).put o.dst v→K' a' w)→
  if Region.wanted o (yielded ops (fillA T a xs).tmps)=true then Oper.wp P o (fillA T a xs) w K' Q else K' ((fillA T a xs).put o.dst undef) w)
 (hr:bY P ops Q K T a w0 (ckR V U n 0) r):bY P ops Q K T a w0 (ckR V U n 0) ((i,anc) :: r):=
 bY.k ho hb (fun xs w hf hA hE K' hK=>h xs w hf hE K' fun a' ha=>hK _ _ _ ha (Fr.refl _ _) (by rw[qk V U n 0 i (j_ V i v hb hv),Nat.zero_add];unfold ckS;rw[hv];rfl)) hr
theorem bY.q {V:List (Nat×Value)} {U:List (Nat×SP K)} {n:Nat} {T:List (Nat×Nat)} {a:Act} {w0:World} {i:Nat} {anc:List Nat} {r:List (Nat×List Nat)} {o:Oper} {v:Value} (ho:ops[i]? = some o) (hb:ckB V n=true) (hv:ckLook V i=some v)
 (h:∀(xs:Nat→Value) (w:World),Go.RowKit.Hid (Fr K w0 w)→ckEqs V xs anc→∀K':Act→World→Prop,Shut (∀a',a'=(fillA T a xs).put o.dst v→K' a' w)→
  if Region.wanted o (yielded ops (fillA T a xs).tmps)=true then Oper.wp P o (fillA T a xs) w K' Q else K' ((fillA T a xs).put o.dst undef) w)
 (hr:bY P ops Q K T a w0 (ckR V U n 0) r):bY P ops Q K T a w0 (ckR V U n 0) ((i,anc) :: r):=bY.kk ho hb hv (fun xs w hf=>h xs w (Go.Lib.hid hf)) hr
theorem ckEnd {V:List (Nat×Value)} {U:List (Nat×SP K)} {n:Nat} {A:List (Nat×List Nat)} {xs:Nat→Value} {w:World} (hb:ckB V n=true) (hA:∀q∈A,((ckR V U n 0).getD q.1 SP.any).p (xs q.1) w):ckEqs V xs (A.map (·.1)):=
 xq hb _ fun j hj=>by obtain⟨q,hq,rfl⟩:=List.mem_map.1 hj;exact hA q hq
end
end Go.Proofs.YtmjccpfchhnfhaaGreat
