/- Texts of the proofs, part 5: what the functions that they reach do, walked; no conditions beyond those that each states. -/
import Derived.Lib.Hide
import Derived.Test.YtmjccpfchhnfhaaGreatZka68f0f7fd1
set_option linter.unusedVariables false
set_option linter.unusedSimpArgs false
set_option maxRecDepth 100000
set_option maxHeartbeats 8000000
namespace Go.Proofs.YtmjccpfchhnfhaaGreat
open Go.RowKit
theorem mLB {p:Prop} (h:p:=by
 exact⟨g 0 _ rfl,g 1 _ rfl,g 2 _ rfl,g 3 _ rfl,g 4 _ rfl,g 5 _ rfl,g 6 _ rfl,g 7 _ rfl,g 8 _ rfl,g 9 _ rfl⟩):p:=h
section
variable {P:Program} {ops:Array Oper} {Q:Exit→Act→World→Prop} {md:Region.Mode} {K:Nat→Obj→Prop}
theorem kY:∀(A:List (Nat×List Nat)),gY (A.map fun q=>(q.1,q.1))=true→∀q∈A,(A.filter fun x=>x.1==q.1).length=1
 | [],_,q,h=>by cases h
 | x :: r,h,q,hq=>by
  rw[List.map_cons] at h;unfold gY at h;rw[Bool.and_eq_true,List.all_eq_true] at h;rw[List.filter_cons];by_cases hxq:x.1=q.1
  ·have e:(r.filter fun x=>x.1==q.1)=[]:=List.filter_eq_nil_iff.2 fun y hy he=>by have:=h.1 (y.1,y.1) (List.mem_map.2 ⟨y,hy,rfl⟩);rw[beq_iff_eq] at he;simp [he,hxq] at this
   simp [hxq,e]
  ·rcases List.mem_cons.1 hq with e | hm
   ·exact absurd (by rw[e]) hxq
   ·simp [hxq];exact kY r h.2 q hm
def flB (md:Region.Mode) (ops:Array Oper) (A:List (Nat×List Nat)) (E:List Nat):Bool:=
 E.all fun e=>match ops[e]? with
  | some o=>(o.after.all fun x=>!Region.binds md x||A.any fun q=>q.1==x.on&&!E.contains q.1) &&
   ((List.range ops.size).all fun j=>(j==e||A.any fun q=>q.1==j&&!E.contains q.1)||match ops[j]? with
    | some oj=>oj.after.any (fun x=>Region.binds md x&&x.on==e)||o.apart ops oj
    | none=>true)&&o.dst.isSome
  | none=>false
def FlAll (P:Program) (ops:Array Oper) (K:Nat→Obj→Prop) (T:List (Nat×Nat)) (a:Act) (w0:World) (R:List (SP K)) (A:List (Nat×List Nat)) (E:List Nat):List Nat→Prop
 | []=>True
 | e :: r=>(∀oe,ops[e]? = some oe→∀(xs:Nat→Value) (w:World),Fr K w0 w→(∀q∈A,E.contains q.1=false→(R.getD q.1 SP.any).p (xs q.1) w)→∃v,Yields P ops oe v (fillA T a xs)∧(R.getD e SP.any).p v w)∧FlAll P ops K T a w0 R A E r
theorem FlAll.nil {T:List (Nat×Nat)} {a:Act} {w0:World} {R:List (SP K)} {A:List (Nat×List Nat)} {E:List Nat}:FlAll P ops K T a w0 R A E []:=trivial
theorem FlAll.cons {T:List (Nat×Nat)} {a:Act} {w0:World} {R:List (SP K)} {A:List (Nat×List Nat)} {E r:List Nat} {e:Nat} {o:Oper} (ho:ops[e]? = some o)
 (h:∀(xs:Nat→Value) (w:World),Fr K w0 w→(∀q∈A,E.contains q.1=false→(R.getD q.1 SP.any).p (xs q.1) w)→∃v,Yields P ops o v (fillA T a xs)∧(R.getD e SP.any).p v w)
 (hr:FlAll P ops K T a w0 R A E r):FlAll P ops K T a w0 R A E (e :: r):=⟨fun o' ho'=>by rw[ho] at ho';cases ho';exact h,hr⟩
theorem FlAll.get {T:List (Nat×Nat)} {a:Act} {w0:World} {R:List (SP K)} {A:List (Nat×List Nat)} {E:List Nat}:∀(F:List Nat),FlAll P ops K T a w0 R A E F→∀e∈F,∀oe,ops[e]? = some oe→∀(xs:Nat→Value) (w:World),Fr K w0 w→(∀q∈A,E.contains q.1=false→(R.getD q.1 SP.any).p (xs q.1) w)→∃v,Yields P ops oe v (fillA T a xs)∧(R.getD e SP.any).p v w
 | [],_,_,h=>by cases h
 | f :: r,h,e,he=>by
  rcases List.mem_cons.1 he with rfl | he
  ·exact h.1
  ·exact FlAll.get r h.2 e he
theorem L5 {E:List Nat} {T:List (Nat×Nat)} {a0:Act} {w0:World} {R:List (SP K)} {A:List (Nat×List Nat)} (hT:fX ops=T) (ho:gY T=true) (hA:cfB md ops A E=true) (hE:flB md ops A E=true) (hsel:Region.noSelect ops=true) (hQ:∀c (d:Tmp) v a w,Q (.panic c) (a.put (some d) v) w→Q (.panic c) a w)
 (hall:bY P ops Q K T a0 w0 R A) (hfl:FlAll P ops K T a0 w0 R A E E) (m:Nat)
 (hend:∀xs w,Fr K w0 w→(∀q∈A,(R.getD q.1 SP.any).p (xs q.1) w)→wpAny P md ops Q m (bitsOf ops.size A) (fillA T a0 xs) w):
 ∀(fuel:Nat) (L:Array Bool) (a:Act) (w:World),CfInv md ops K T a0 w0 R A [] L a w→fuel=m+(A.filter fun q=>!L.getD q.1 true).length→(L.size=ops.size)→wpAny P md ops Q fuel L a w:=by
 unfold cfB at hA;rw[Bool.and_eq_true,Bool.and_eq_true,Bool.and_eq_true,List.all_eq_true,List.all_eq_true,List.all_eq_true] at hA;obtain⟨⟨⟨hA1,hA3⟩,hA4⟩,hA2⟩:=hA
 have done:∀(L:Array Bool) (a:Act) (w:World),CfInv md ops K T a0 w0 R A [] L a w→(∀q∈A,L.getD q.1 true=true)→wpAny P md ops Q m L a w:=fun L a w h hq=>by exact myZ
 intro fuel
 induction fuel with
 | zero=>
  intro L a w h hf _;refine kwS ?_;intro h0 h1;rw[h0] at done;refine done L a w h fun q hq=>?_
  have h2:=List.length_eq_zero_iff.1 h1;rw[List.filter_eq_nil_iff] at h2;simpa using h2 q hq
 | succ fuel ih=>
  intro L a w h hf hsz;by_cases hq:∀q∈A,L.getD q.1 true=true
  ·exact mn6
  ·by_cases hq2:∃q∈A,L.getD q.1 true=false∧E.contains q.1=false
   rotate_left
   ·obtain⟨q0,hq0,hL0⟩:∃q∈A,L.getD q.1 true=false:=by exact mT4
    have hrest:∀q∈A,E.contains q.1=false→L.getD q.1 true=true:=fun q hqA hqE=>by
     cases hv:L.getD q.1 true with
     | true=>rfl
     | false=>exact absurd ⟨q,hqA,hv,hqE⟩ hq2
    have hqE:E.contains q0.1=true:=by
     cases hv:E.contains q0.1 with
     | true=>rfl
     | false=>exact absurd ⟨q0,hq0,hL0,hv⟩ hq2
    have hlt:q0.1<ops.size:=by have:=hA1 q0 hq0;simp at this;exact this.1
    have hltL:q0.1<L.size:=by rw[h.sz];exact hlt
    have h2:ops[q0.1]? = some ops[q0.1]:=Array.getElem?_eq_getElem hlt;have hmem:q0.1∈E:=by simpa using hqE
    unfold flB at hE;rw[List.all_eq_true] at hE;have h3:=hE q0.1 hmem;rw[h2] at h3;simp only[Bool.and_eq_true] at h3;obtain⟨⟨h3a,h3b⟩,h3c⟩:=h3;obtain⟨xs,hxa,hx⟩:=h.xs
    have hfree:Region.free md ops L q0.1=true:=by
     unfold Region.free;rw[h2];simp only[];rw[List.all_eq_true];intro j hj;have h5:=List.all_eq_true.1 h3b j hj;rw[Bool.or_eq_true] at h5;rcases h5 with h5 | h5
     ·rw[Bool.or_eq_true] at h5;rcases h5 with h5 | h5
      ·rw[h5];simp
      ·obtain⟨x,hxA,hxx⟩:=List.any_eq_true.1 h5;simp only[Bool.and_eq_true,beq_iff_eq,Bool.not_eq_true'] at hxx;have:=hrest x hxA hxx.2;rw[hxx.1] at this;rw[this];simp
     ·rw[Bool.or_eq_true];exact .inr h5
    have hready:(Region.ready md ops L).contains q0.1=true:=by
     rw[List.contains_iff_mem];refine mem_ready.2 ⟨hL0,_,h2,fun e he hb=>?_⟩;have h5:=Array.all_eq_true_iff_forall_mem.1 h3a e he;rw[hb] at h5;simp only[Bool.not_true,Bool.false_or] at h5;obtain⟨x,hxA,hxx⟩:=List.any_eq_true.1 h5;simp only[Bool.and_eq_true,beq_iff_eq,Bool.not_eq_true'] at hxx;have h6:=hrest x hxA hxx.2;have hls:x.1<L.size:=by rw[h.sz];have:=hA1 x hxA;simp at this;exact this.1
     rw[hxx.1] at h6 hls;simp [hls] at h6 ⊢;exact h6
    obtain⟨v,hyv,hpv⟩:=FlAll.get E hfl q0.1 hmem _ h2 xs w h.fr (fun q hqA hqE2=>by
     have h6:=hrest q hqA hqE2;have h7:q.1<ops.size:=by have:=hA1 q hqA;simp at this;exact this.1
     have h8:q.1<L.size:=by rw[h.sz];exact h7
     refine hx q.1 h7 ?_;simp [h8] at h6 ⊢;exact h6)
    obtain⟨d,hd⟩:=Option.isSome_iff_exists.1 h3c;rw[hxa];refine wpAny_take h2 hsel hfree hready (fun c a w h9=>hQ c d v a w (by rw[hd] at h9;exact h9)) hyv ?_;refine ih _ _ _ ⟨fun e he=>(by cases he),by simpa using h.sz,h.fr,?_,?_,?_⟩ ?_ (by simpa using h.sz)
    ·intro j oj hj hl e he hb;by_cases hij:q0.1=j
     ·subst hij;rw[h2] at hj;cases hj;refine getD_set_true ?_;obtain⟨_,o9,h9,h10⟩:=mem_ready.1 (List.contains_iff_mem.1 hready);rw[h2] at h9;cases h9;exact h10 e he hb
     ·rw[getD_set_ne true hij] at hl;exact getD_set_true (h.sh j oj hj hl e he hb)
    ·intro j hj hl;by_cases hij:q0.1=j
     ·exact⟨q0,hq0,hij⟩
     ·rw[getD_set_ne false hij] at hl;exact h.on j hj hl
    ·refine⟨fun k=>if k=q0.1 then v else xs k,?_,fun j hj hl=>?_⟩
     ·rw[hd];show ({ fillA T a0 xs with tmps:=(fillA T a0 xs).tmps.setIfInBounds d v }:Act)=_;unfold fillA;rw[gw T xs a0.tmps d q0.1 v ho (hT▸j3 h2 hd)]
     ·show (R.getD j SP.any).p (if j=q0.1 then v else xs j) w;by_cases hij:q0.1=j
      ·subst hij;rw[if_pos rfl];exact hpv
      ·rw[if_neg (fun e=>hij e.symm)];rw[getD_set_ne false hij] at hl;exact hx j hj hl
    ·have e1:(A.filter fun x=>!L.getD x.1 true).length=(A.filter fun x=>!(L.setIfInBounds q0.1 true).getD x.1 true).length+(A.filter fun x=>x.1==q0.1).length:=by
      have g:∀x:Nat×List Nat,(!L.getD x.1 true)=((!(L.setIfInBounds q0.1 true).getD x.1 true)||(x.1==q0.1))∧((!(L.setIfInBounds q0.1 true).getD x.1 true)&&(x.1==q0.1))=false:=fun x=>by
       by_cases hij:q0.1=x.1
       ·rw[←hij,hL0];simp [hltL]
       ·rw[getD_set_ne true hij];have e:(x.1==q0.1)=false:=by simpa using fun e=>hij e.symm
        rw[e];simp
      exact gK _ _ _ g A
     have e2:=kY A hA4 q0 hq0;omega
   obtain⟨q0,hq0,hL0,hE0⟩:=hq2
   have hin:∀i∈Region.ready md ops L,∃q∈A,q.1=i:=fun i hi=>by
    obtain⟨h1,o,h2,h3⟩:=mem_ready.1 hi;have hlt:i<ops.size:=(Array.getElem?_eq_some_iff.1 h2).1;have h4:=hA2 i (List.mem_range.2 hlt);rw[Bool.or_eq_true] at h4;rcases h4 with h4 | h4
    ·exact mJL
    ·have h5:=List.all_eq_true.1 h4 q0 hq0
     have h5':ancB md ops ops.size i q0.1=true:=by
      rw[Bool.or_eq_true] at h5;rcases h5 with h5 | h5
      ·rw[hE0] at h5;cases h5
      ·exact h5
     refine kzR ?_;intro h6 h7;simp [h7] at h6 hL0;rw[hL0] at h6;cases h6
   have hor:∀n,∀q∈A,q.1=n→L.getD q.1 true=false→∃i,i∈Region.ready md ops L:=fun n=>by
    induction n using Nat.strongRecOn with
    | ind n ihn=>
     intro q hqA hqn hL;refine k86 ?_;intro hlt h2 h3;by_cases hall:∀e∈(ops[q.1]).after,Region.binds md e=true→L.getD e.on false=true
     ·exact mf4
     ·exact mwU
   have step:∀i∈Region.ready md ops L,wpOp P ops Q i (wpAny P md ops Q fuel (L.setIfInBounds i true)) a w:=fun i hi=>by
    obtain⟨q,hqA,rfl⟩:=hin i hi;refine kVh ?_;intro h1 o h2 h3 hlt hltL xs hxa hx
    have hst:=bY.get A hall q hqA o h2 xs w h.fr (fun j hj=>by exact mih)
    refine wpOp_step h2 fun K' hK=>?_
    rw[hxa];refine hst K' fun a' v w' ha' hf' hv=>hK _ _ ?_
    subst ha';refine ih _ _ _ ⟨fun e he=>(by by_cases h9:q.1=e;(· rw[←h9];simp [hltL]);(· rw[getD_set_ne true h9];exact h.el e he)),by simpa using h.sz,h.fr.trans hf',?_,?_,?_⟩ ?_ (by simpa using h.sz)
    ·exact mk7
    ·exact mmb
    ·refine⟨fun k=>if k=q.1 then v else xs k,?_,fun j hj hl=>?_⟩
     ·cases hd:o.dst with
      | none=>
       show fillA T a0 xs=_;unfold fillA;rw[fy T xs (fun k=>if k=q.1 then v else xs k)];intro p hp
       have hne:p.2≠q.1:=fun e=>by
        have h8:(p.1,p.2)∈fX ops:=by rw[hT];exact hp
        exact mct
       show xs p.2=if p.2=q.1 then v else xs p.2
       rw[if_neg hne]
      | some d=>
       show ({ fillA T a0 xs with tmps:=(fillA T a0 xs).tmps.setIfInBounds d v }:Act)=_;unfold fillA;rw[gw T xs a0.tmps d q.1 v ho (hT▸j3 h2 hd)]
     ·exact mfD
    ·have e1:(A.filter fun x=>!L.getD x.1 true).length=(A.filter fun x=>!(L.setIfInBounds q.1 true).getD x.1 true).length+(A.filter fun x=>x.1==q.1).length:=by clear hall hend done hA1 hA2 hin hfl hE;exact mM8
     have e2:=kY A hA4 q hqA;omega
   exact mXl
theorem g_ {id:Nat} {a:Act} {w:World} (hm:P.follows .mixedOrders=true) (T:List (Nat×Nat)) (A:List (Nat×List Nat)) (R:List (SP K)) (E:List Nat) (m:Nat) (hT:fX ops=T) (ho:gY T=true) (hA:cfB .any ops A E=true) (hE:flB .any ops A E=true) (hsel:Region.noSelect ops=true) (hQ:∀c (d:Tmp) v a w,Q (.panic c) (a.put (some d) v) w→Q (.panic c) a w) (hn:A.length+m=ops.size)
 (hall:bY P ops Q K T a w.drew R A) (hfl:FlAll P ops K T a w.drew R A E E)
 (hend:∀xs w',Fr K w.drew w'→(∀q∈A,(R.getD q.1 SP.any).p (xs q.1) w')→wpAny P .any ops Q m (bitsOf ops.size A) (fillA T a xs) w'):(Code.region id ops true).wp P Q a w:=by
 refine wp_region_any hm ?_
 have hrep:∀j,(Array.replicate ops.size false).getD j false=false:=fun j=>by exact msJ
 refine L5 hT ho hA hE hsel hQ hall hfl m hend _ _ _ _ ⟨fun e he=>(by cases he),by simp,Fr.refl _ _,fun j oj hj hl=>?_,fun j hj hl=>?_,fun j=>(a.tmps.getD ((ops.getD j default).dst.getD 0) undef),?_,fun j hj hl=>?_⟩ ?_ (by simp)
 ·exact mCZ
 ·rw[hrep] at hl;cases hl
 ·unfold fillA;rw[j4];intro q hq;have h8:(q.1,q.2)∈fX ops:=by rw[hT];exact hq
  exact myp
 ·rw[hrep] at hl;cases hl
 ·exact mG9
end
theorem khT {p q:Prop} (k:q) (h:q→p:=by
 have gl:decide (n.tm<m.tm)=true:=decide_eq_true hf;intro kk0;revert gl;exact kk0):p:=h k
theorem mid {p:Prop} (h:p:=by
 skip
 go_simp;exact hK _ _ _ rfl ((Fr.refl _ _).alloc _) ⟨_,rfl,bZ _ _,SB⟩):p:=h
def tL:Nat→Nat→(Nat→Value)→List (Nat×Value)→List Value
 | 0,_,_,_=>[]
 | n+1,i,f,[]=>f i :: tL n (i+1) f []
 | n+1,i,f,q :: r=>bif i==q.1 then q.2 :: tL n (i+1) f r else f i :: tL n (i+1) f (q :: r)
def tU (n:Nat) (f:Nat→Value) (l:List (Nat×Value)):Array Value:=(tL n 0 f l).toArray
theorem cw {P:Program} {c:Code} {Q:Exit→Act→World→Prop} {a:Act} {w:World} {n:Nat} {l:List (Nat×Value)} (H:∀f:Nat→Value,Code.wp P c Q { tmps:=tU n f l,defers:=[] } w)
 (h:a={ tmps:=tU n (fun i=>a.tmps.getD i (.bool false)) l,defers:=[] }):Code.wp P c Q a w:=by
 rw[h];exact H _
theorem L_ {K:Act→World→Prop} {a:Act} {w:World} {n:Nat} {l:List (Nat×Value)} (H:∀fu:Nat→Value,K { tmps:=tU n fu l,defers:=[] } w) (h:a={ tmps:=tU n (fun i=>a.tmps.getD i (.bool false)) l,defers:=[] }):K a w:=by
 rw[h];exact H _
section
variable {P:Program} {ops:Array Oper} {Q:Exit→Act→World→Prop} {md:Region.Mode}
def CjStep (P:Program) (ops:Array Oper) (Q:Exit→Act→World→Prop) (T:List (Nat×Nat)) (a:Act) (J:(Nat→Bool)→(Nat→Value)→World→Prop) (anc:List Nat) (i:Nat):Prop:=
 ∀o,ops[i]? = some o→∀(d:Nat→Bool) (xs:Nat→Value) (w:World),d i=false→(∀j∈anc,d j=true)→J d xs w→
  ∀K':Act→World→Prop,Shut (∀a' v w',a'=(fillA T a xs).put o.dst v→J (fun k=>if k=i then true else d k) (fun k=>if k=i then v else xs k) w'→K' a' w')→
   if Region.wanted o (yielded ops (fillA T a xs).tmps)=true then Oper.wp P o (fillA T a xs) w K' Q else K' ((fillA T a xs).put o.dst undef) w
def jz (P:Program) (ops:Array Oper) (Q:Exit→Act→World→Prop) (T:List (Nat×Nat)) (a:Act) (J:(Nat→Bool)→(Nat→Value)→World→Prop):List (Nat×List Nat)→Prop
 | []=>True
 | (i,anc) :: r=>CjStep P ops Q T a J anc i∧jz P ops Q T a J r
theorem jz.nil {T:List (Nat×Nat)} {a:Act} {J:(Nat→Bool)→(Nat→Value)→World→Prop}:jz P ops Q T a J []:=trivial
theorem jz.cons {T:List (Nat×Nat)} {a:Act} {J:(Nat→Bool)→(Nat→Value)→World→Prop} {i:Nat} {anc:List Nat} {r:List (Nat×List Nat)} {o:Oper} (ho:ops[i]? = some o)
  (h:∀(d:Nat→Bool) (xs:Nat→Value) (w:World),d i=false→(∀j∈anc,d j=true)→J d xs w→
   ∀K':Act→World→Prop,Shut (∀a' v w',a'=(fillA T a xs).put o.dst v→J (fun k=>if k=i then true else d k) (fun k=>if k=i then v else xs k) w'→K' a' w')→if Region.wanted o (yielded ops (fillA T a xs).tmps)=true then Oper.wp P o (fillA T a xs) w K' Q else K' ((fillA T a xs).put o.dst undef) w)
  (hr:jz P ops Q T a J r):jz P ops Q T a J ((i,anc) :: r):=⟨fun o' ho'=>by rw[ho] at ho';cases ho';exact h,hr⟩
theorem jz.get {T:List (Nat×Nat)} {a:Act} {J:(Nat→Bool)→(Nat→Value)→World→Prop}:∀(A:List (Nat×List Nat)),jz P ops Q T a J A→∀q∈A,CjStep P ops Q T a J q.2 q.1
 | [],_,_,h=>by cases h
 | (i,anc) :: r,h,q,hq=>by
  rcases List.mem_cons.1 hq with rfl | hq
  ·exact h.1
  ·exact jz.get r h.2 q hq
structure CjInv (md:Region.Mode) (ops:Array Oper) (T:List (Nat×Nat)) (a0:Act) (J:(Nat→Bool)→(Nat→Value)→World→Prop) (A:List (Nat×List Nat)) (E:List Nat) (L:Array Bool) (a:Act) (w:World):Prop where
 el:∀e∈E,L.getD e true=true
 sz:L.size=ops.size
 sh:∀(j:Nat) oj,ops[j]? = some oj→L.getD j true=true→∀e∈oj.after,Region.binds md e=true→L.getD e.on false=true
 on:∀j,j<ops.size→L.getD j false=true→∃q∈A,q.1=j
 xs:∃xs:Nat→Value,a=fillA T a0 xs∧J (fun j=>L.getD j false) xs w
theorem wpAny_cj {E:List Nat} {T:List (Nat×Nat)} {a0:Act} {J:(Nat→Bool)→(Nat→Value)→World→Prop} {A:List (Nat×List Nat)} (hT:tB ops A T=true) (ho:gY T=true) (hA:cfB md ops A E=true)
 (hall:jz P ops Q T a0 J A) (m:Nat)
 (hend:∀d xs w,(∀q∈A,d q.1=true)→J d xs w→wpAny P md ops Q m (bitsOf ops.size A) (fillA T a0 xs) w):
 ∀(fuel:Nat) (L:Array Bool) (a:Act) (w:World),CjInv md ops T a0 J A E L a w→fuel=m+(A.filter fun q=>!L.getD q.1 true).length→(L.size=ops.size)→wpAny P md ops Q fuel L a w:=by
 unfold cfB at hA;rw[Bool.and_eq_true,Bool.and_eq_true,Bool.and_eq_true,List.all_eq_true,List.all_eq_true,List.all_eq_true] at hA;obtain⟨⟨⟨hA1,hA3⟩,hA4⟩,hA2⟩:=hA
 have done:∀(L:Array Bool) (a:Act) (w:World),CjInv md ops T a0 J A E L a w→(∀q∈A,L.getD q.1 true=true)→wpAny P md ops Q m L a w:=fun L a w h hq=>by
  have eL:L=bitsOf ops.size A:=by exact mi1
  obtain⟨xs,hxa,hx⟩:=h.xs;rw[eL,hxa];refine hend _ xs w (fun q hqA=>?_) hx
  ·exact mft
 intro fuel
 induction fuel with
 | zero=>
  intro L a w h hf _;refine kwS ?_;intro h0 h1;rw[h0] at done;refine done L a w h fun q hq=>?_
  have h2:=List.length_eq_zero_iff.1 h1;rw[List.filter_eq_nil_iff] at h2;simpa using h2 q hq
 | succ fuel ih=>
  intro L a w h hf hsz;by_cases hq:∀q∈A,L.getD q.1 true=true
  ·exact mn6
  ·obtain⟨q0,hq0,hL0⟩:∃q∈A,L.getD q.1 true=false:=by exact mT4
   have hin:∀i∈Region.ready md ops L,∃q∈A,q.1=i:=fun i hi=>by exact mx2
   have hor:∀n,∀q∈A,q.1=n→L.getD q.1 true=false→∃i,i∈Region.ready md ops L:=fun n=>by
    induction n using Nat.strongRecOn with
    | ind n ihn=>
     intro q hqA hqn hL;refine k86 ?_;intro hlt h2 h3;by_cases hall:∀e∈(ops[q.1]).after,Region.binds md e=true→L.getD e.on false=true
     ·exact mf4
     ·exact mwU
   have step:∀i∈Region.ready md ops L,wpOp P ops Q i (wpAny P md ops Q fuel (L.setIfInBounds i true)) a w:=fun i hi=>by
    obtain⟨q,hqA,rfl⟩:=hin i hi;refine kVh ?_;intro h1 o h2 h3 hlt hltL xs hxa hx
    have hst:=jz.get A hall q hqA o h2 (fun j=>L.getD j false) xs w (by simp [hltL] at h1 ⊢;exact h1) (fun j hj=>by refine k01 ?_;intro h5 h6;exact h6) hx
    refine wpOp_step h2 fun K' hK=>?_
    rw[hxa];refine hst K' fun a' v w' ha' hv=>hK _ _ ?_
    subst ha';refine ih _ _ _ ⟨fun e he=>(by by_cases h9:q.1=e;(· rw[←h9];simp [hltL]);(· rw[getD_set_ne true h9];exact h.el e he)),by simpa using h.sz,?_,?_,?_⟩ ?_ (by simpa using h.sz)
    ·exact mk7
    ·exact mmb
    ·refine⟨fun k=>if k=q.1 then v else xs k,?_,?_⟩
     ·cases hd:o.dst with
      | none=>
       show fillA T a0 xs=_;unfold fillA;rw[fy T xs (fun k=>if k=q.1 then v else xs k)];intro p hp
       have hne:p.2≠q.1:=fun e=>by have h8:(p.1,p.2)∈fX ops:=tB_in hT hp;exact mct
       show xs p.2=if p.2=q.1 then v else xs p.2
       rw[if_neg hne]
      | some d=>
       show ({ fillA T a0 xs with tmps:=(fillA T a0 xs).tmps.setIfInBounds d v }:Act)=_;unfold fillA;rw[gw T xs a0.tmps d q.1 v ho (tB_of hT (j3 h2 hd) hqA rfl)]
     ·have e:(fun k=>(L.setIfInBounds q.1 true).getD k false)=fun k=>if k=q.1 then true else L.getD k false:=by
       funext k;by_cases hk:q.1=k
       ·subst hk;rw[if_pos rfl];simp [hltL]
       ·rw[if_neg (fun e=>hk e.symm),getD_set_ne false hk]
      rw[e];exact hv
    ·exact mjX
   exact mXl
theorem xw {id:Nat} {a:Act} {w:World} (hm:P.follows .mixedOrders=true) (T:List (Nat×Nat)) (A:List (Nat×List Nat)) (J:(Nat→Bool)→(Nat→Value)→World→Prop) (m:Nat) (hT:tB ops A T=true) (ho:gY T=true) (hA:cfB .any ops A=true) (hn:A.length+m=ops.size)
 (h0:∀xs,J (fun _=>false) xs w.drew) (hall:jz P ops Q T a J A)
 (hend:∀d xs w',(∀q∈A,d q.1=true)→J d xs w'→wpAny P .any ops Q m (bitsOf ops.size A) (fillA T a xs) w'):(Code.region id ops true).wp P Q a w:=by
 refine wp_region_any hm ?_
 have hrep:∀j,(Array.replicate ops.size false).getD j false=false:=fun j=>by exact msJ
 refine wpAny_cj (E:=[]) hT ho hA hall m hend _ _ _ _ ⟨fun e he=>(by cases he),by simp,fun j oj hj hl=>?_,fun j hj hl=>?_,fun j=>(a.tmps.getD ((ops.getD j default).dst.getD 0) undef),?_,?_⟩ ?_ (by simp)
 ·exact mCZ
 ·rw[hrep] at hl;cases hl
 ·exact m74
 ·have e:(fun j=>(Array.replicate ops.size false).getD j false)=fun _=>false:=funext hrep
  rw[e];exact h0 _
 ·exact mG9
structure JJ (V:List (Nat×Value)) (s1 s2:Nat) (w0:World) (p1:Value→World→Prop) (p2:Value→Value→World→Prop) (d:Nat→Bool) (xs:Nat→Value) (w:World):Prop where
 k:∀j v,ckLook V j=some v→d j=true→xs j=v
 a:d s1=false→w=w0
 b:d s1=true→d s2=false→p1 (xs s1) w
 c:d s2=true→p2 (xs s1) (xs s2) w
 e:d s2=true→d s1=true
section
variable {V:List (Nat×Value)} {s1 s2:Nat} {w0 w w':World} {p1:Value→World→Prop} {p2:Value→Value→World→Prop} {d:Nat→Bool} {xs:Nat→Value} {i:Nat} {v:Value}
theorem JJ.eqs (h:JJ V s1 s2 w0 p1 p2 d xs w):∀(anc:List Nat),(∀j∈anc,d j=true)→ckEqs V xs anc
 | [],_=>trivial
 | j :: r,hd=>by
  have ih:=h.eqs r fun k hk=>hd k (List.mem_cons_of_mem _ hk)
  unfold ckEqs;cases el:ckLook V j with
  | none=>exact ih
  | some v=>exact⟨h.k j v el (hd j (List.mem_cons_self ..)),ih⟩
theorem JJ.all (h:JJ V s1 s2 w0 p1 p2 d xs w) {R:World→Prop} (h0:R w0) (h1:∀v w,p1 v w→R w) (h2:∀v u w,p2 v u w→R w):R w:=by
 cases e1:d s1 with
 | false=>rw[h.a e1];exact h0
 | true=>
  cases e2:d s2 with
  | false=>exact h1 _ _ (h.b e1 e2)
  | true=>exact h2 _ _ _ (h.c e2)
theorem JJ.known (h:JJ V s1 s2 w0 p1 p2 d xs w) (h1:s1≠i) (h2:s2≠i) (hv:ckLook V i=some v):JJ V s1 s2 w0 p1 p2 (fun k=>if k=i then true else d k) (fun k=>if k=i then v else xs k) w:=by
 refine⟨fun j u hu hd=>?_,fun hd=>?_,fun hd hd2=>?_,fun hd=>?_,fun hd=>?_⟩
 ·show (if j=i then v else xs j)=u;have hd':(if j=i then true else d j)=true:=hd;by_cases e:j=i
  ·rw[if_pos e];rw[e,hv] at hu;injection hu
  ·rw[if_neg e] at hd' ⊢;exact h.k j u hu hd'
 ·have hd':(if s1=i then true else d s1)=false:=hd;rw[if_neg h1] at hd';exact h.a hd'
 ·have hd':(if s1=i then true else d s1)=true:=hd;have hd2':(if s2=i then true else d s2)=false:=hd2;rw[if_neg h1] at hd';rw[if_neg h2] at hd2';show p1 (if s1=i then v else xs s1) w;rw[if_neg h1];exact h.b hd' hd2'
 ·have hd':(if s2=i then true else d s2)=true:=hd;rw[if_neg h2] at hd';show p2 (if s1=i then v else xs s1) (if s2=i then v else xs s2) w;rw[if_neg h1,if_neg h2];exact h.c hd'
 ·have hd':(if s2=i then true else d s2)=true:=hd;rw[if_neg h2] at hd';show (if s1=i then true else d s1)=true;rw[if_neg h1];exact h.e hd'
theorem JJ.one (h:JJ V s1 s2 w0 p1 p2 d xs w) (h12:s1≠s2) (hd1:d s1=false) (hV:ckLook V s1=none) (hp:p1 v w'):JJ V s1 s2 w0 p1 p2 (fun k=>if k=s1 then true else d k) (fun k=>if k=s1 then v else xs k) w':=by
 have hd2:d s2=false:=by
  cases hh:d s2 with
  | false=>rfl
  | true=>have:=h.e hh;rw[hd1] at this;cases this
 have no:∀{R:Prop},(if s2=s1 then true else d s2)=true→R:=fun hd=>by rw[if_neg (Ne.symm h12),hd2] at hd;cases hd
 refine⟨fun j u hu hd=>?_,fun hd=>?_,fun _ _=>?_,fun hd=>no hd,fun hd=>no hd⟩
 ·show (if j=s1 then v else xs j)=u;have hd':(if j=s1 then true else d j)=true:=hd;by_cases e:j=s1
  ·rw[e,hV] at hu;cases hu
  ·rw[if_neg e] at hd' ⊢;exact h.k j u hu hd'
 ·have hd':(if s1=s1 then true else d s1)=false:=hd;rw[if_pos rfl] at hd';cases hd'
 ·show p1 (if s1=s1 then v else xs s1) w';rw[if_pos rfl];exact hp
theorem JJ.two (h:JJ V s1 s2 w0 p1 p2 d xs w) (h12:s1≠s2) (hd1:d s1=true) (hV:ckLook V s2=none) (hp:p2 (xs s1) v w'):JJ V s1 s2 w0 p1 p2 (fun k=>if k=s2 then true else d k) (fun k=>if k=s2 then v else xs k) w':=by
 refine⟨fun j u hu hd=>?_,fun hd=>?_,fun _ hd=>?_,fun _=>?_,fun _=>?_⟩
 ·show (if j=s2 then v else xs j)=u;have hd':(if j=s2 then true else d j)=true:=hd;by_cases e:j=s2
  ·rw[e,hV] at hu;cases hu
  ·rw[if_neg e] at hd' ⊢;exact h.k j u hu hd'
 ·have hd':(if s1=s2 then true else d s1)=false:=hd;rw[if_neg h12,hd1] at hd';cases hd'
 ·have hd':(if s2=s2 then true else d s2)=false:=hd;rw[if_pos rfl] at hd';cases hd'
 ·show p2 (if s1=s2 then v else xs s1) (if s2=s2 then v else xs s2) w';rw[if_neg h12,if_pos rfl];exact hp
 ·show (if s1=s2 then true else d s1)=true;rw[if_neg h12];exact hd1
theorem jz.kk {T:List (Nat×Nat)} {a:Act} {anc:List Nat} {r:List (Nat×List Nat)} {o:Oper} (ho:ops[i]? = some o) (hv:ckLook V i=some v) (h1:s1≠i) (h2:s2≠i)
  (h:∀(d:Nat→Bool) (xs:Nat→Value) (w:World),JJ V s1 s2 w0 p1 p2 d xs w→ckEqs V xs anc→∀K':Act→World→Prop,Shut (∀a',a'=(fillA T a xs).put o.dst v→K' a' w)→
    if Region.wanted o (yielded ops (fillA T a xs).tmps)=true then Oper.wp P o (fillA T a xs) w K' Q else K' ((fillA T a xs).put o.dst undef) w)
  (hr:jz P ops Q T a (JJ V s1 s2 w0 p1 p2) r):jz P ops Q T a (JJ V s1 s2 w0 p1 p2) ((i,anc) :: r):=
 ⟨fun o' ho'=>by
  rw[ho] at ho'
  cases ho'
  intro d xs w hd ha hJ K' hK
  exact h d xs w hJ (hJ.eqs anc ha) K' fun a' e=>hK a' v w e (hJ.known h1 h2 hv),hr⟩
end
end
section
variable {P:Program} {ops:Array Oper} {Q:Exit→Act→World→Prop} {K:Nat→Obj→Prop}
def dirB (md:Region.Mode) (ops:Array Oper) (i j:Nat):Bool:=match ops[i]? with
 | some o=>o.after.any fun e=>Region.binds md e&&e.on==j
 | none=>false
theorem Hz {md:Region.Mode} {i j:Nat} (h:dirB md ops i j=true):ancB md ops ops.size i j=true:=by
 unfold dirB at h;cases ho:ops[i]? with
 | none=>rw[ho] at h;cases h
 | some o=>
  rw[ho] at h;have hi:=(Array.getElem?_eq_some_iff.1 ho).1;obtain⟨f,hf⟩:∃f,ops.size=f+1:=⟨ops.size-1,by omega⟩
  rw[hf];unfold ancB;rw[ho];obtain⟨e,he,hb⟩:=Array.any_eq_true'.1 h;rw[Bool.and_eq_true] at hb;exact Array.any_eq_true'.2 ⟨e,he,by rw[Bool.and_eq_true,Bool.or_eq_true];exact⟨hb.1,.inl hb.2⟩⟩
def cfD (md:Region.Mode) (ops:Array Oper) (A:List (Nat×List Nat)):Bool:=
 (A.all fun q=>decide (q.1<ops.size)&&q.2.all fun j=>dirB md ops q.1 j) &&
 (A.all fun q=>match ops[q.1]? with
  | some o=>o.after.all fun e=>!Region.binds md e||(decide (e.on<q.1)&&A.any fun x=>x.1==e.on)
  | none=>false)&&gY (A.map fun q=>(q.1,q.1)) &&
 ((List.range ops.size).all fun j=>(A.any fun q=>q.1==j)||A.all fun q=>dirB md ops j q.1)
theorem FV {md:Region.Mode} {A:List (Nat×List Nat)} (h:cfD md ops A=true):cfB md ops A=true:=by
 unfold cfD at h;unfold cfB;rw[Bool.and_eq_true,Bool.and_eq_true,Bool.and_eq_true] at h ⊢;obtain⟨⟨⟨h1,h2⟩,h3⟩,h4⟩:=h;refine⟨⟨⟨List.all_eq_true.2 fun q hq=>?_,h2⟩,h3⟩,List.all_eq_true.2 fun j hj=>?_⟩
 ·have:=List.all_eq_true.1 h1 q hq;rw[Bool.and_eq_true] at this ⊢;exact⟨this.1,List.all_eq_true.2 fun j hj=>Hz (List.all_eq_true.1 this.2 j hj)⟩
 ·have:=List.all_eq_true.1 h4 j hj;rw[Bool.or_eq_true] at this ⊢;rcases this with h | h
  ·exact .inl h
  ·exact .inr (List.all_eq_true.2 fun q hq=>by rw[Bool.or_eq_true];exact .inr (Hz (List.all_eq_true.1 h q hq)))
def jY:List (Nat×Nat)→Nat→Option Nat
 | [],_=>none
 | (d,i) :: r,j=>match i==j with
  | true=>some d
  | false=>jY r j
theorem Hj:∀(T:List (Nat×Nat)) (j d:Nat),jY T j=some d→(d,j)∈T
 | [],_,_,h=>by cases h
 | (e,i) :: r,j,d,h=>by
  unfold jY at h;cases hij:i==j with
  | true=>
   rw[hij] at h;cases h;rw[eq_of_beq hij];exact List.mem_cons_self ..
  | false=>
   rw[hij] at h;exact List.mem_cons_of_mem _ (Hj r j d h)
def tmEqs (T:List (Nat×Nat)) (V:List (Nat×Value)) (A:Act):List Nat→Prop
 | []=>True
 | j :: r=>match ckLook V j with
  | some v=>match jY T j with
   | some d=>A.tmps[d]? = some v∧tmEqs T V A r
   | none=>tmEqs T V A r
  | none=>tmEqs T V A r
def dJ (A:Act):List (Nat×Value)→Prop
 | []=>True
 | (d,v) :: r=>A.tmps[d]? = some v∧dJ A r
theorem N6 (T:List (Nat×Nat)) (xs:Nat→Value) (t:Array Value) (d j:Nat) (ho:gY T=true) (hm:(d,j)∈T) (hd:d<t.size):(fillL T xs t)[d]? = some (xs j):=by
 have h:=gw T xs t d j (xs j) ho hm
 have e:(fun k=>if k=j then xs j else xs k)=xs:=by
  funext k;by_cases q:k=j
  ·rw[if_pos q,q]
  ·rw[if_neg q]
 rw[e] at h;rw[h,Array.getElem?_setIfInBounds,if_pos rfl,if_pos (by rw[mK];exact hd)]
theorem zz:∀(T:List (Nat×Nat)) (xs:Nat→Value) (t:Array Value) (d:Nat),(∀q∈T,q.1≠d)→(fillL T xs t)[d]? = t[d]?
 | [],_,_,_,_=>rfl
 | (e,j) :: r,xs,t,d,h=>by rw[fillL,zz r xs _ d fun q hq=>h q (List.mem_cons_of_mem _ hq),Array.getElem?_setIfInBounds,if_neg (h (e,j) (List.mem_cons_self ..))]
def tmB (T:List (Nat×Nat)) (E:List (Nat×Value)) (n:Nat):Bool:=gY T&&(T.all (fun q=>q.1.blt n)&&E.all fun e=>T.all fun q=>!(q.1==e.1))
theorem vZ {T:List (Nat×Nat)} {V:List (Nat×Value)} {U:List (Nat×SP K)} {n s:Nat} {E:List (Nat×Value)} {a:Act} {xs:Nat→Value} {w:World} (hb:ckB V n=true) (ht:tmB T E s=true) (hs:a.tmps.size=s):∀(anc:List Nat),(∀j∈anc,((ckR V U n 0).getD j SP.any).p (xs j) w)→tmEqs T V (fillA T a xs) anc
 | [],_=>trivial
 | j :: r,h=>by
  have ih:=vZ hb ht hs r fun k hk=>h k (List.mem_cons_of_mem _ hk)
  unfold tmEqs;cases el:ckLook V j with
  | none=>exact ih
  | some v=>
   dsimp only;cases ed:jY T j with
   | none=>exact ih
   | some d=>
    refine⟨?_,ih⟩;have h1:=h j (List.mem_cons_self ..);rw[qk V U n 0 j (j_ V j v hb el),Nat.zero_add] at h1;unfold ckS at h1;rw[el] at h1;unfold tmB at ht;rw[Bool.and_eq_true,Bool.and_eq_true,List.all_eq_true] at ht;have hm:=Hj T j d ed;show (fillL T xs a.tmps)[d]? = some v;rw[N6 T xs a.tmps d j ht.1 hm (by rw[hs];exact(by simpa using ht.2.1 _ hm))];exact congrArg some h1
theorem wX {T:List (Nat×Nat)} {s:Nat} {a:Act} {xs:Nat→Value}:∀{E:List (Nat×Value)},tmB T E s=true→dJ a E→dJ (fillA T a xs) E
 | [],_,_=>trivial
 | (d,v) :: r,ht,h=>by unfold tmB at ht;rw[Bool.and_eq_true,Bool.and_eq_true,List.all_cons,Bool.and_eq_true,List.all_eq_true] at ht;refine⟨?_,wX (s:=s) (by unfold tmB;rw[Bool.and_eq_true,Bool.and_eq_true];exact⟨ht.1,List.all_eq_true.2 ht.2.1,ht.2.2.2⟩) h.2⟩;show (fillL T xs a.tmps)[d]? = some v;rw[zz T xs a.tmps d fun q hq e=>by have:=(List.all_eq_true.1 ht.2.2.1) q hq;simp [e] at this];exact h.1
theorem bY.kt {V:List (Nat×Value)} {U:List (Nat×SP K)} {n s:Nat} {T:List (Nat×Nat)} {E:List (Nat×Value)} {a:Act} {w0:World} {i:Nat} {anc:List Nat} {r:List (Nat×List Nat)} {o:Oper} {v:Value} (ht:tmB T E s=true) (hs:a.tmps.size=s) (he:dJ a E) (ho:ops[i]? = some o) (hb:ckB V n=true) (hv:ckLook V i=some v)
 (h:∀(A:Act) (w:World),Fr K w0 w→tmEqs T V A anc→dJ A E→∀K':Act→World→Prop,Shut (∀a' w',a'=A.put o.dst v→Fr K w w'→K' a' w')→
  if Region.wanted o (yielded ops A.tmps)=true then Oper.wp P o A w K' Q else K' (A.put o.dst undef) w)
 (hr:bY P ops Q K T a w0 (ckR V U n 0) r):bY P ops Q K T a w0 (ckR V U n 0) ((i,anc) :: r):=
 bY.k ho hb (fun xs w hf hA hE K' hK=>h (fillA T a xs) w hf (vZ hb ht hs anc hA) (wX ht he) K' fun a' w' ha hF=>hK _ _ _ ha hF (by rw[qk V U n 0 i (j_ V i v hb hv),Nat.zero_add];unfold ckS;rw[hv];rfl)) hr
theorem bY.w {V:List (Nat×Value)} {U:List (Nat×SP K)} {n s:Nat} {T:List (Nat×Nat)} {E:List (Nat×Value)} {a:Act} {w0:World} {i:Nat} {anc:List Nat} {r:List (Nat×List Nat)} {o:Oper} {v:Value} (ht:tmB T E s=true) (hs:a.tmps.size=s) (he:dJ a E) (ho:ops[i]? = some o) (hb:ckB V n=true) (hv:ckLook V i=some v)
 (h:∀(A:Act) (w:World),Go.RowKit.Hid (Fr K w0 w)→tmEqs T V A anc→dJ A E→∀K':Act→World→Prop,Shut (∀a' w',a'=A.put o.dst v→Fr K w w'→K' a' w')→
  if Region.wanted o (yielded ops A.tmps)=true then Oper.wp P o A w K' Q else K' (A.put o.dst undef) w)
 (hr:bY P ops Q K T a w0 (ckR V U n 0) r):bY P ops Q K T a w0 (ckR V U n 0) ((i,anc) :: r):=bY.kt ht hs he ho hb hv (fun A w hf=>h A w (Go.Lib.hid hf)) hr
theorem tmEnd {V:List (Nat×Value)} {U:List (Nat×SP K)} {n s:Nat} {T:List (Nat×Nat)} {E:List (Nat×Value)} {a:Act} {A:List (Nat×List Nat)} {xs:Nat→Value} {w:World} (ht:tmB T E s=true) (hs:a.tmps.size=s) (he:dJ a E) (hb:ckB V n=true) (l:List Nat) (hl:l.all (fun j=>A.any fun q=>q.1==j)=true) (hA:∀q∈A,((ckR V U n 0).getD q.1 SP.any).p (xs q.1) w):tmEqs T V (fillA T a xs) l∧dJ (fillA T a xs) E∧(fillA T a xs).tmps.size=s∧(fillA T a xs).defers=a.defers:=
 ⟨vZ hb ht hs l fun j hj=>by
  obtain⟨q,hq,e⟩:=List.any_eq_true.1 (List.all_eq_true.1 hl j hj)
  rw[←eq_of_beq e]
  exact hA q hq,wX ht he,by show (fillL T xs a.tmps).size=s;rw[mK,hs],rfl⟩
theorem tJ {a:Act} {d:Nat} {v:Value}:∀{E:List (Nat×Value)},dJ a E→(E.all fun e=>!(d==e.1))=true→dJ { a with tmps:=a.tmps.setIfInBounds d v } E
 | [],_,_=>trivial
 | (e,u) :: r,h,hn=>by rw[List.all_cons,Bool.and_eq_true] at hn;refine⟨?_,tJ h.2 hn.2⟩;show (a.tmps.setIfInBounds d v)[e]? = some u;rw[Array.getElem?_setIfInBounds,if_neg (by simpa using hn.1)];exact h.1
theorem Nk {a:Act} {d:Nat} {v:Value} {E:List (Nat×Value)} (h:dJ a E) (hs:d<a.tmps.size) (hn:(E.all fun e=>!(d==e.1))=true):dJ { a with tmps:=a.tmps.setIfInBounds d v } ((d,v) :: E):=
 ⟨by show (a.tmps.setIfInBounds d v)[d]? = some v;rw[Array.getElem?_setIfInBounds,if_pos rfl,if_pos hs],tJ h hn⟩
end
end Go.Proofs.YtmjccpfchhnfhaaGreat
