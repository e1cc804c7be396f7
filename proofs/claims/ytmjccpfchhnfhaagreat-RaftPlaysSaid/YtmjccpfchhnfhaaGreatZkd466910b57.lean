/- Texts of the proofs, part 10: what the functions that they reach do, walked; no conditions beyond those that each states. -/
import Derived.Deep.Slices
import Derived.Deep.Fields
import Derived.ChangeSame
import Derived.ProofKit
import Derived.Test.YtmjccpfchhnfhaaGreatProg
import Derived.Deep.QuietTactic
import Derived.BigQuiet
import Derived.Test.YtmjccpfchhnfhaaGreatZka9b63f769b
set_option linter.unusedVariables false
set_option linter.unusedSimpArgs false
set_option maxRecDepth 100000
set_option maxHeartbeats 8000000
namespace Go.Proofs.YtmjccpfchhnfhaaGreat
open Go.RowKit
section
open Go.ChangeShapes Go.WideShapes
def Rd (P:Program) (w:World) (t:TypeId) (cs:List Value):Prop:=
 ∃(H:Type) (enc:TypeId×Value→H) (sp:Nat→Bool) (held:Bool) (fuel:Nat) (x:DataW H×List MemPlace),DataW.trod enc P w 0 sp held fuel t cs=some x
theorem Rd.of {H:Type} {enc:TypeId×Value→H} {P:Program} {w:World} {sp:Nat→Bool} {held:Bool} {t:TypeId} {v:Value} {d:DataW H} {p:List MemPlace} (h:DataW.Trod enc P w 0 sp held t v d p):Rd P w t v.cells.toList:=by
 obtain⟨fuel,hf⟩:=h;exact⟨H,enc,sp,held,fuel,_,hf⟩
section
variable {P:Program} {w:World} {t e:TypeId} {cs:List Value}
theorem Rd.int {k:IntKind} (ht:P.underlying t=some (.int k)) (h:Rd P w t cs):∃n,cs=[.int k n]∧(Lit.int k n).wf=true:=by
 obtain⟨H,enc,sp,held,fuel,x,h⟩:=h;obtain⟨n,h1,_,h2⟩:=DataW.trod_int ht h;exact⟨n,h1,h2⟩
theorem Rd.bool (ht:P.underlying t=some .bool) (h:Rd P w t cs):∃b,cs=[.bool b]:=by
 obtain⟨H,enc,sp,held,fuel,x,h⟩:=h;obtain⟨n,h1,_⟩:=DataW.trod_bool ht h;exact⟨n,h1⟩
theorem Rd.slice {sz:Nat} (ht:P.underlying t=some (.slice e)) (hs:P.cellsOf e=sz) (h:Rd P w t cs):
 ∃a len cap,cs=[.slice a len cap]∧len≤cap∧cap≤maxLen∧(a=none→cap=0)∧
  ∀i,i<len→∃ad cs',a=some ad∧cs'.length=sz∧(∀j,j<sz→w.cell? (ad.add (i*sz+j))=cs'[j]?)∧Rd P w e cs':=by
 obtain⟨H,enc,sp,held,fuel,x,h⟩:=h;rcases Go.Deep.open_slice ht h with⟨rfl,_⟩ | ⟨a,len,cap,m,n,D,Pl,rfl,_,hl,hm,hmm,_,hi⟩
 ·exact⟨none,0,0,rfl,Nat.le_refl _,by simp,fun _=>rfl,fun i hi=>by omega⟩
 ·refine⟨some a,len,cap,rfl,hl,hm,(fun e=>by cases e),fun i hil=>?_⟩;have him:i<m:=by rw[hmm];split <;> omega
  obtain⟨cs',hc,ht'⟩:=hi i him;obtain⟨_,hcl,hat⟩:=World.cells?_some hc;refine⟨a,cs',rfl,by omega,fun j hj=>?_,H,enc,sp,held,n,_,ht'⟩;rw[←hat j (by omega),Go.Deep.add_add,hs]
theorem Rd.struct {fs:Array Field} {sz:Nat} (ht:P.underlying t=some (.struct fs)) (hs:P.cellsOf t=sz) (h:Rd P w t cs):
 cs.length=sz∧∀(i:Nat) (f:Field),fs[i]? = some f→Rd P w f.type (List.take (P.cellsOf f.type) (List.drop f.offset cs)):=by
 obtain⟨H,enc,sp,held,fuel,x,h⟩:=h;obtain⟨xs,n,_,_,hl,hx,hf⟩:=DataW.trod_struct ht h;refine⟨by omega,fun i f hi=>?_⟩;have h1:=hf i f hi
 have hlt:i<xs.length:=by have:=(Array.getElem?_eq_some_iff.1 hi).1;omega
 rw[List.getElem?_eq_getElem hlt] at h1;exact⟨H,enc,sp,held,n,_,h1⟩
end
theorem list2 {α:Type} {l:List α} (h:l.length=2):∃a b,l=[a,b]:=by match l,h with | [a,b],_=>exact⟨a,b,rfl⟩
theorem B6 (b off k:Nat):Addr.add ⟨b,off,none⟩ k=⟨b,off+k,none⟩:=by
 unfold Addr.add;split
 ·subst k;rfl
 ·rfl
theorem My {w:World} {ad:Addr} {v:Value} (h:w.cell? (ad.add 0)=some v):∃b off,ad=⟨b,off,none⟩:=by
 have:=B_ h;obtain⟨b,off,sp⟩:=ad;simp [Addr.add] at this;exact⟨b,off,by rw[this]⟩
end
theorem kKm {p q:Prop} (k:q) (h:q→p:=by
 obtain⟨N,hN⟩:∃N,N=zs.length:=⟨_,rfl⟩
 have HN:=zH hN;intro kk0;revert HN;revert hN;revert N;exact kk0):p:=h k
theorem kP7 {p q:Prop} (k:q) (h:q→p:=by
 have l1:k<zs.length:=by rw[←HN.out];exact hlt
 have g1:=H.cell l1;intro kk0;revert g1;revert l1;exact kk0):p:=h k
theorem mnD {p:Prop} (h:p:=by
 have:=HT.out;rw[List.take_of_length_le (by have:=HN.out;omega)] at this;rw[this];rfl):p:=h
theorem Fr.drewN {K:Nat→Obj→Prop} {a w:World} (h:Fr K a w) (n:Nat):Fr K a (w.drewN n):=by
 induction n generalizing w with
 | zero=>exact h
 | succ n ih=>exact(ih h).drew
theorem NY {α:Type} {p:Nat→α→Prop}:∀n:Nat,(∀i,i<n→∃x,p i x)→∃l:List α,l.length=n∧∀i,(h:i<l.length)→p i l[i]
 | 0,_=>⟨[],rfl,fun i h=>absurd h (Nat.not_lt_zero i)⟩
 | n+1,h=>by
  obtain⟨l,hl,hp⟩:=NY n fun i hi=>h i (by omega)
  obtain⟨x,hx⟩:=h n (by omega);refine⟨l++[x],by simp [hl],fun i hi=>?_⟩;rw[List.length_append,List.length_singleton] at hi;by_cases h1:i<l.length
  ·rw[List.getElem_append_left h1];exact hp i h1
  ·obtain rfl:i=l.length:=by omega
   rw[List.getElem_append_right (Nat.le_refl _)];simp only[Nat.sub_self,List.getElem_cons_zero];rw[hl];exact hx
def NumsAt (q:IntKind) (K:Nat→Obj→Prop) (w:World) (v:Value) (zs:List Int):Prop:=
 ∃a cap,v=.slice a zs.length cap∧(zs=[]∨∃b off o,a=some ⟨b,off,none⟩∧w.heap[b]? = some o∧K b o∧∀i,(h:i<zs.length)→w.cell? ⟨b,off+i,none⟩=some (.int q zs[i]))
abbrev IntsAt:=NumsAt .i64
theorem NumsAt.fr {q:IntKind} {K K':Nat→Obj→Prop} {w w':World} {v:Value} {zs:List Int} (h:NumsAt q K w v zs) (hf:Fr K' w w') (hk:∀c o,K c o→K' c o):NumsAt q K w' v zs:=by
 obtain⟨a,cap,hv,h⟩:=h;refine⟨a,cap,hv,?_⟩;rcases h with h | ⟨b,off,o,ha,hb,hkb,hc⟩
 ·exact .inl h
 ·refine .inr ⟨b,off,o,ha,hf.keep _ _ hb (hk _ _ hkb),hkb,fun i hi=>hf.cell (fun o' e=>?_) (hc i hi)⟩;have e':w.heap[b]? = some o':=e;rw[hb] at e';cases e';exact hk _ _ hkb
theorem NumsAt.tt {q:IntKind} {K:Nat→Obj→Prop} {w w':World} {v:Value} {zs:List Int} (h:NumsAt q K w v zs) (hf:FT w w'):NumsAt q K w' v zs:=h.fr hf fun _ _ _=>trivial
theorem NumsAt.mono {q:IntKind} {K K':Nat→Obj→Prop} {w:World} {v:Value} {zs:List Int} (h:NumsAt q K w v zs) (hk:∀c o,K c o→K' c o):NumsAt q K' w v zs:=by
 obtain⟨a,cap,hv,h⟩:=h;refine⟨a,cap,hv,?_⟩;rcases h with h | ⟨b,off,o,ha,hb,hkb,hc⟩
 ·exact .inl h
 ·exact .inr ⟨b,off,o,ha,hb,hk _ _ hkb,hc⟩
theorem NumsAt.form {q:IntKind} {K:Nat→Obj→Prop} {w:World} {v:Value} {zs:List Int} (h:NumsAt q K w v zs):∃a cap,v=.slice a zs.length cap:=by
 obtain⟨a,cap,hv,_⟩:=h;exact⟨a,cap,hv⟩
theorem NumsAt.len {q:IntKind} {K:Nat→Obj→Prop} {w:World} {a:Option Addr} {n c:Nat} {zs:List Int} (h:NumsAt q K w (.slice a n c) zs):n=zs.length:=by
 obtain⟨a',cap,hv,_⟩:=h;cases hv;rfl
theorem NumsAt.addr {q:IntKind} {K:Nat→Obj→Prop} {w:World} {a:Option Addr} {n c:Nat} {zs:List Int} (h:NumsAt q K w (.slice a n c) zs) (hn:0<zs.length):∃b off,a=some ⟨b,off,none⟩:=by
 obtain⟨a',cap,hv,h⟩:=h;cases hv;rcases h with h | ⟨b,off,_,ha,_⟩
 ·subst h;simp at hn
 ·exact⟨b,off,ha⟩
theorem NumsAt.cell {q:IntKind} {K:Nat→Obj→Prop} {w:World} {b off n c:Nat} {zs:List Int} (h:NumsAt q K w (.slice (some ⟨b,off,none⟩) n c) zs) {i:Nat} (hi:i<zs.length):w.cell? ⟨b,off+i,none⟩=some (.int q zs[i]):=by
 obtain⟨a',cap,hv,h⟩:=h;cases hv;rcases h with h | ⟨b',off',_,ha,_,_,hc⟩
 ·subst h;simp at hi
 ·cases ha;exact hc i hi
theorem Rd.nums {q:IntKind} {P:Program} {w:World} {t e:TypeId} {v:Value} (ht:P.underlying t=some (.slice e)) (he:P.underlying e=some (.int q)) (hs:P.cellsOf e=1) (h:Rd P w t [v]):
 ∃zs,NumsAt q (fun b _=>b<w.heap.size) w v zs∧zs.length≤maxLen∧∀x∈zs,(Lit.int q x).wf=true:=by
 obtain⟨a,len,cap,hv,hl,hm,hn,hc⟩:=h.slice ht hs;obtain rfl:v=.slice a len cap:=by simpa using hv
 obtain⟨bs,hbl,hb⟩:=NY (p:=fun i (x:Int)=>(Lit.int q x).wf=true∧∃ad,a=some ad∧w.cell? (ad.add i)=some (.int q x)) len fun i hi=>by obtain⟨ad,cs',ha,_,hj,hr⟩:=hc i hi;obtain⟨n,rfl,hw⟩:=hr.int he;refine⟨n,hw,ad,ha,?_⟩;have e1:=hj 0 (by omega);rw[Nat.mul_one,Nat.add_zero] at e1;exact e1
 refine⟨bs,⟨a,cap,by rw[hbl],?_⟩,by omega,fun x hx=>by obtain⟨i,hi,rfl⟩:=List.mem_iff_getElem.1 hx;exact(hb i hi).1⟩;by_cases h0:bs=[]
 ·exact .inl h0
 ·have hp:0<bs.length:=List.length_pos_iff.2 h0;obtain⟨_,ad,ha,e0⟩:=hb 0 hp;obtain⟨b,off,rfl⟩:=My e0;have hlt:=xz e0;have hlt':b<w.heap.size:=by simpa [B6] using hlt
  refine .inr ⟨b,off,w.heap[b],ha,Array.getElem?_eq_getElem hlt',hlt',fun i hi=>?_⟩;obtain⟨_,ad',ha',e1⟩:=hb i hi;rw[ha] at ha';cases ha';rw[B6] at e1;exact e1
theorem M_:Tryz.prog.cellsOf 3=1:=by kernel_rfl
theorem Rd.is {w:World} {v:Value} (h:Rd Tryz.prog w 22 [v]):∃zs,IntsAt (fun b _=>b<w.heap.size) w v zs∧zs.length≤maxLen∧∀x∈zs,(Lit.int .i64 x).wf=true:=Rd.nums Tryz.underlying22 Tryz.underlying3 M_ h
def jK (zs:List Int) (n:Int):Bool:=zs.contains n
theorem wJ {zs:List Int} {n:Int}:jK zs n=true↔n∈zs:=by unfold jK;simp
theorem k_ (zs:List Int) (k:Nat) (hk:k<zs.length) (n:Int):jK (zs.take (k+1)) n=(jK (zs.take k) n||(n==zs[k])):=by
 have e:zs.take (k+1)=zs.take k++[zs[k]]:=List.take_succ_eq_append_getElem hk;rw[e];unfold jK;generalize zs.take k=l;generalize zs[k]=u;clear e hk
 induction l with
 | nil=>simp only[List.nil_append,List.contains_cons,List.contains_nil,Bool.or_false,Bool.false_or]
 | cons x l ih=>simp only[List.cons_append,List.contains_cons,ih,Bool.or_assoc]
theorem lY {zs:List Int} {k:Nat} {n:Int} (h:jK (zs.take k) n=true):jK zs n=true:=wJ.2 (List.mem_of_mem_take (wJ.1 h))
theorem tK (zs:List Int) (n:Int):jK (zs.take 0) n=false:=by simp [jK]
theorem has_nil (w:World) (a:Option Addr) (c:Nat) (n:Int):Calls Tryz.prog 115 #[.slice a 0 c,.int .i64 n] w fun e w'=>e=.returned (.bool false)∧w=w':=by
 go_enter Tryz.func115,Tryz.ntmps115
 go_wp2;go_loop [5] (fun i=>i=.int .i64 0) (fun _=>0)
 case atStart=>exact rfl
 case round=>exact m7q
theorem has_loop {K:Nat→Obj→Prop} (w:World) (b off c:Nat) (zs:List Int) (n:Int) (h:IntsAt K w (.slice (some ⟨b,off,none⟩) zs.length c) zs) (hm:zs.length≤9223372036854775807):
 Calls Tryz.prog 115 #[.slice (some ⟨b,off,none⟩) zs.length c,.int .i64 n] w fun e w'=>e=.returned (.bool (jK zs n))∧w=w':=by
 have H:=zH h;clear h;refine kKm ?_;intro N hN HN;rw[←hN] at hm ⊢;clear hN;go_enter Tryz.func115,Tryz.ntmps115
 go_wp2;go_loop [5] (fun i=>∃k:Nat,k≤N∧i=.int .i64 k∧jK (zs.take k) n=false) (fun i=>N-(intOf i).toNat)
 case atStart=>exact⟨0,Nat.zero_le _,rfl,tK _ _⟩
 case round=>
  obtain⟨k,hk,rfl,ht⟩:=hrel;have HT:=zH ht;clear ht;by_cases hlt:k<N
  ·refine kP7 ?_;intro l1 g1;have HC:=zH (k_ zs k l1 n);generalize hu:zs[k]=u at g1 HC;clear hu l1;go_wp2
   ·go_ret;have he:(u==n)=true:=by assumption
    refine⟨?_,rfl⟩;have:jK (zs.take (k+1)) n=true:=by rw[HC.out];simp at he;simp [he]
    rw[lY this];rfl
   ·have he:(u==n)=false:=by assumption
    go_round
    case rel=>refine⟨k+1,by omega,by go_num,?_⟩;rw[HC.out,HT.out];simp at he ⊢;exact fun e=>he e.symm
    case measure=>simp [intOf];omega
  ·go_wp2;go_ret;refine⟨?_,rfl⟩;exact mnD
theorem lK {K:Nat→Obj→Prop} (w:World) (v:Value) (zs:List Int) (n:Int) (h:IntsAt K w v zs) (hm:zs.length≤maxLen):
 Calls Tryz.prog 115 #[v,.int .i64 n] w fun e w'=>e=.returned (.bool (jK zs n))∧w=w':=by
 obtain⟨a,c,rfl⟩:=h.form;by_cases h0:zs.length=0
 ·have e1:=List.length_eq_zero_iff.1 h0;subst e1;exact(has_nil w a c n).mono fun e w' ⟨he,hw⟩=>⟨he,hw⟩
 ·obtain⟨b,off,rfl⟩:=h.addr (by omega);exact has_loop w b off c zs n h (by unfold maxLen at hm;omega)
theorem Nj (w:World) (a:Option Addr) (c:Nat) (n:Int):Calls Tryz.prog 124 #[.slice a 0 c,.int .i64 n] w fun e w'=>e=.returned (.int .i64 (-1))∧w=w':=by
 go_enter Tryz.func124,Tryz.ntmps124
 go_wp2;go_loop [8] (fun i=>i=.int .i64 0) (fun _=>0)
 case atStart=>exact rfl
 case round=>exact m7q
theorem KK {K:Nat→Obj→Prop} (w:World) (b off c:Nat) (zs:List Int) (n:Int) (h:IntsAt K w (.slice (some ⟨b,off,none⟩) zs.length c) zs) (hm:zs.length≤9223372036854775807):
 Calls Tryz.prog 124 #[.slice (some ⟨b,off,none⟩) zs.length c,.int .i64 n] w fun e w'=>(∃r,e=.returned (.int .i64 r)∧jK zs n=decide (0≤r))∧w=w':=by
 have H:=zH h;clear h;refine kKm ?_;intro N hN HN;rw[←hN] at hm ⊢;clear hN;go_enter Tryz.func124,Tryz.ntmps124
 go_wp2;go_loop [8] (fun i=>∃k:Nat,k≤N∧i=.int .i64 k∧jK (zs.take k) n=false) (fun i=>N-(intOf i).toNat)
 case atStart=>exact⟨0,Nat.zero_le _,rfl,tK _ _⟩
 case round=>
  obtain⟨k,hk,rfl,ht⟩:=hrel;have HT:=zH ht;clear ht;by_cases hlt:k<N
  ·refine kP7 ?_;intro l1 g1;have HC:=zH (k_ zs k l1 n);generalize hu:zs[k]=u at g1 HC;clear hu l1;go_wp2
   ·go_ret;have he:(n==u)=true:=by assumption
    refine⟨⟨_,rfl,?_⟩,rfl⟩;have:jK (zs.take (k+1)) n=true:=by rw[HC.out];simp at he;simp [he]
    rw[lY this];simp
   ·have he:(n==u)=false:=by assumption
    go_round
    case rel=>refine⟨k+1,by omega,by go_num,?_⟩;rw[HC.out,HT.out,he];rfl
    case measure=>simp [intOf];omega
  ·go_wp2;go_ret;refine⟨⟨_,rfl,?_⟩,rfl⟩;exact mnD
theorem fQ {K:Nat→Obj→Prop} (w:World) (v:Value) (zs:List Int) (n:Int) (h:IntsAt K w v zs) (hm:zs.length≤maxLen):
 Calls Tryz.prog 94 #[v,.int .i64 n] w fun e w'=>e=.returned (.bool (jK zs n))∧w=w':=by
 have hi:Calls Tryz.prog 124 #[v,.int .i64 n] w fun e w'=>(∃r,e=.returned (.int .i64 r)∧jK zs n=decide (0≤r))∧w=w':=by
  obtain⟨a,c,rfl⟩:=h.form;by_cases h0:zs.length=0
  ·have e1:=List.length_eq_zero_iff.1 h0;subst e1;exact(Nj w a c n).mono fun e w' ⟨he,hw⟩=>⟨⟨_,he,rfl⟩,hw⟩
  ·obtain⟨b,off,rfl⟩:=h.addr (by omega);exact KK w b off c zs n h (by unfold maxLen at hm;omega)
 have HI:=zH hi;clear hi h hm;go_enter Tryz.func94,Tryz.ntmps94
 go_wp2_with fail
 with_reducible refine HI.out.mono ?_
 rintro e1 w1 ⟨⟨r,rfl,hr⟩,rfl⟩;have HR:=zH hr;clear hr HI;go_wp2;go_ret;refine⟨?_,rfl⟩;rw[HR.out];rfl
theorem nums_len (w:World) (a1 a2:Option Addr) (n1 n2 c1 c2:Nat) (hn:¬n1=n2):Calls Tryz.prog 22 #[.slice a1 n1 c1,.slice a2 n2 c2] w fun e w'=>e=.returned (.bool false)∧w=w':=by
 have hq:((n1:Int) != n2)=true:=by simp;omega
 clear hn;go_enter Tryz.func22,Tryz.ntmps22
 exact m6T
theorem nums_nil (w:World) (a1 a2:Option Addr) (c1 c2:Nat):Calls Tryz.prog 22 #[.slice a1 0 c1,.slice a2 0 c2] w fun e w'=>e=.returned (.bool true)∧w=w':=by
 go_enter Tryz.func22,Tryz.ntmps22
 go_wp2;go_loop [5] (fun i=>i=.int .i64 0) (fun _=>0)
 case atStart=>exact rfl
 case round=>exact m7q
theorem NZ (w:World) (b1 b2 o1 o2 n c1 c2:Nat) (x y:List Int) {K K':Nat→Obj→Prop} (hx:IntsAt K w (.slice (some ⟨b1,o1,none⟩) n c1) x) (hy:IntsAt K' w (.slice (some ⟨b2,o2,none⟩) n c2) y) (hm:n≤9223372036854775807):
 Calls Tryz.prog 22 #[.slice (some ⟨b1,o1,none⟩) n c1,.slice (some ⟨b2,o2,none⟩) n c2] w fun e w'=>e=.returned (.bool (decide (x=y)))∧FT w w':=by
 have h1:=hx.len;have h2:=hy.len;have HX:=zH hx;have HY:=zH hy;have H1:=zH h1;have H2:=zH h2;clear hx hy h1 h2;go_enter Tryz.func22,Tryz.ntmps22
 go_wp2;go_loopw [5] (fun i wr=>∃k:Nat,k≤n∧i=.int .i64 k∧x.take k=y.take k∧∃j,wr=w.drewN j) (fun i _=>n-(intOf i).toNat)
 case atStart=>exact⟨0,Nat.zero_le _,rfl,rfl,0,rfl⟩
 case round=>
  obtain⟨k,hk,rfl,ht,j,rfl⟩:=hrel;have HT:=zH ht;clear ht;by_cases hlt:k<n
  ·refine k9v ?_;intro g1 g2 l1 l2;generalize hu:x[k]=u at g1;generalize hv:y[k]=v at g2;have HU:=zH hu;have HV:=zH hv;clear hu hv;go_wp2;go_quiet (fail)
   go_wp2
   ·go_ret;have hne:(u != v)=true:=by assumption
    refine⟨?_,(Fr.refl _ _).drewN _ |>.drewN _⟩;exact m28
   ·have heq:(u != v)=false:=by assumption
    go_roundw
    case rel=>exact mEe
    case measure=>simp [intOf];omega
  ·go_wp2;go_ret
   have e1:x=y:=by exact meX
   exact⟨by simp [e1],(Fr.refl _ _).drewN _⟩
theorem tZ (w:World) (v1 v2:Value) (x y:List Int) {K K':Nat→Obj→Prop} (hx:IntsAt K w v1 x) (hy:IntsAt K' w v2 y) (hm:x.length≤maxLen):
 Calls Tryz.prog 22 #[v1,v2] w fun e w'=>e=.returned (.bool (decide (x=y)))∧FT w w':=by
 obtain⟨a1,c1,rfl⟩:=hx.form;obtain⟨a2,c2,rfl⟩:=hy.form;by_cases hl:x.length=y.length
 ·by_cases h0:x.length=0
  ·have e1:=List.length_eq_zero_iff.1 h0;have e2:=List.length_eq_zero_iff.1 (hl▸h0);subst e1 e2;exact(nums_nil w a1 a2 c1 c2).mono fun e w' ⟨he,hw⟩=>⟨he,hw▸Fr.refl _ _⟩
  ·obtain⟨b1,o1,rfl⟩:=hx.addr (by omega);obtain⟨b2,o2,rfl⟩:=hy.addr (by omega);rw[←hl] at hy ⊢;exact NZ w b1 b2 o1 o2 _ c1 c2 x y hx hy (by unfold maxLen at hm;omega)
 ·refine(nums_len w a1 a2 _ _ c1 c2 hl).mono fun e w' ⟨he,hw⟩=>⟨?_,hw▸Fr.refl _ _⟩
  rw[he,show decide (x=y)=false from by simp;exact fun e=>hl (by rw[e])]
def majI (n:Nat):Int:=(n:Int) / 2+1
theorem zW (w:World) (a:Option Addr) (n c:Nat) (hm:n≤9223372036854775807):Calls Tryz.prog 112 #[.slice a n c] w fun e w'=>e=.returned (.int .i64 (majI n))∧w=w':=by
 have e1:(n:Int).tdiv 2=(n:Int) / 2:=Int.tdiv_eq_ediv_of_nonneg (by omega);go_enter Tryz.func112,Tryz.ntmps112
 go_wp2;go_ret;refine⟨?_,rfl⟩;unfold majI;congr 1
def cntI (c s:List Int):Nat:=c.countP fun x=>jK s x
theorem Bx (c s:List Int) (k:Nat) (hk:k<c.length):cntI (c.take (k+1)) s=cntI (c.take k) s+(jK s c[k]).toNat:=by
 have e:c.take (k+1)=c.take k++[c[k]]:=List.take_succ_eq_append_getElem hk;rw[e];unfold cntI;rw[List.countP_append];cases h:jK s c[k] <;> simp [h]
theorem PW (w:World) (a:Option Addr) (c:Nat) (v:Value):Calls Tryz.prog 125 #[.slice a 0 c,v] w fun e w'=>e=.returned (.int .i64 0)∧w=w':=by
 go_enter Tryz.func125,Tryz.ntmps125
 go_wp2;go_loop [5,10] (fun r i=>r=.int .i64 0∧i=.int .i64 0) (fun _ _=>0)
 case atStart=>exact⟨rfl,rfl⟩
 case round=>obtain⟨rfl,rfl⟩:=hrel;exact m6T
theorem Lz {K K':Nat→Obj→Prop} (w:World) (b off c:Nat) (v:Value) (zs s:List Int) (h:IntsAt K w (.slice (some ⟨b,off,none⟩) zs.length c) zs) (hs:IntsAt K' w v s) (hm:zs.length≤9223372036854775807) (hms:s.length≤maxLen):
 Calls Tryz.prog 125 #[.slice (some ⟨b,off,none⟩) zs.length c,v] w fun e w'=>e=.returned (.int .i64 (cntI zs s:Nat))∧w=w':=by
 have H:=zH h;have HS:=zH hs;have HM:=zH hms;clear h hs hms;refine kKm ?_;intro N hN HN;rw[←hN] at hm ⊢;clear hN;go_enter Tryz.func125,Tryz.ntmps125
 go_wp2;go_loop [5,10] (fun r i=>∃k m:Nat,k≤N∧i=.int .i64 k∧r=.int .i64 m∧m≤k∧cntI (zs.take k) s=m) (fun _ i=>N-(intOf i).toNat)
 case atStart=>exact⟨0,0,Nat.zero_le _,rfl,rfl,Nat.le_refl _,rfl⟩
 case round=>
  obtain⟨k,m,hk,rfl,rfl,hmk,ht⟩:=hrel;have HT:=zH ht;clear ht;by_cases hlt:k<N
  ·refine kP7 ?_;intro l1 g1;have HC:=zH (Bx zs s k l1);generalize hu:zs[k]=u at g1 HC;clear hu l1;go_wp2_with fail
   with_reducible refine(fQ w v s u HS.out HM.out).mono ?_
   rintro e1 w1 ⟨rfl,rfl⟩;generalize hb:jK s u=bb at HC;clear hb;cases bb
   ·go_wp2;go_round
    case rel=>exact⟨k+1,m,by omega,by go_num,rfl,by omega,by rw[HC.out,HT.out];rfl⟩
    case measure=>simp [intOf];omega
   ·go_wp2;go_round
    case rel=>exact⟨k+1,m+1,by omega,by go_num,by go_num,by omega,by rw[HC.out,HT.out];rfl⟩
    case measure=>simp [intOf];omega
  ·go_wp2;go_ret;refine⟨?_,rfl⟩;exact mnD
theorem D1 {K K':Nat→Obj→Prop} (w:World) (v1 v:Value) (zs s:List Int) (h:IntsAt K w v1 zs) (hs:IntsAt K' w v s) (hm:zs.length≤maxLen) (hms:s.length≤maxLen):
 Calls Tryz.prog 125 #[v1,v] w fun e w'=>e=.returned (.int .i64 (cntI zs s:Nat))∧w=w':=by
 obtain⟨a,c,rfl⟩:=h.form;by_cases h0:zs.length=0
 ·have e1:=List.length_eq_zero_iff.1 h0;subst e1;exact(PW w a c v).mono fun e w' ⟨he,hw⟩=>⟨he,hw⟩
 ·obtain⟨b,off,rfl⟩:=h.addr (by omega);exact Lz w b off c v zs s h hs (by unfold maxLen at hm;omega) hms
def mV (c y:List Int):Bool:=decide (majI c.length≤(cntI c y:Int))
theorem m5 {K K':Nat→Obj→Prop} (w:World) (v1 v:Value) (zs s:List Int) (h:IntsAt K w v1 zs) (hs:IntsAt K' w v s) (hm:zs.length≤maxLen) (hms:s.length≤maxLen):
 Calls Tryz.prog 96 #[v1,v] w fun e w'=>e=.returned (.bool (mV zs s))∧w=w':=by
 have HC:=zH (D1 w v1 v zs s h hs hm hms);obtain⟨a,c,rfl⟩:=h.form;have HJ:=zH (zW w a zs.length c (by unfold maxLen at hm;omega));have HM:Hid (mV zs s=decide (majI zs.length≤(cntI zs s:Int))):=rfl;generalize majI zs.length=mj at HJ HM;generalize cntI zs s=cn at HC HM;clear h hs hm hms;go_enter Tryz.func96,Tryz.ntmps96
 go_wp2_with fail
 with_reducible refine HC.out.mono ?_
 rintro e1 w1 ⟨rfl,rfl⟩;go_wp2_with fail
 with_reducible refine HJ.out.mono ?_
 rintro e1 w1 ⟨rfl,rfl⟩;go_wp2;go_ret;refine⟨?_,rfl⟩;rw[HM.out];rfl
theorem m6l {p:Prop} (h:p:=by
 go_wp2;go_ret;refine⟨?_,rfl⟩;rw[HT.out,HC.out,show decide (u≤15)=false from by simp;omega,Bool.false_and,Bool.and_false];rfl):p:=h
theorem mQR {p:Prop} (h:p:=by
 go_wp2;go_ret;refine⟨?_,rfl⟩;rw[HT.out,HC.out,show decide (l<u)=false from by simp;omega];rfl):p:=h
theorem mXS {p:Prop} (h:p:=by
 go_wp2;go_ret;refine⟨?_,rfl⟩;have:=HT.out;rw[List.drop_eq_nil_of_le (by have:=HN.out;omega)] at this;rw[this];rfl):p:=h
theorem GY (zs:List Int) (k:Nat) (hk:k<zs.length) (l:Int):rgt l (zs.drop k)=(decide (l<zs[k])&&(decide (zs[k]≤15)&&rgt zs[k] (zs.drop (k+1)))):=by
 rw[List.drop_eq_getElem_cons hk];rfl
theorem tQ {zs:List Int} (h:0<zs.length):dV zs=rgt (-1) zs:=by
 unfold dV;cases zs with
 | nil=>simp at h
 | cons x r=>simp
theorem Jv (w:World) (a:Option Addr) (c:Nat):Calls Tryz.prog 47 #[.slice a 0 c] w fun e w'=>e=.returned (.bool false)∧w=w':=by
 go_enter Tryz.func47,Tryz.ntmps47
 go_wp2;go_loop [4] (fun i=>i=.int .i64 0) (fun _=>0)
 case atStart=>exact rfl
 case round=>exact m7q
theorem Cv {K:Nat→Obj→Prop} (w:World) (b off c:Nat) (zs:List Int) (h:IntsAt K w (.slice (some ⟨b,off,none⟩) zs.length c) zs) (hm:zs.length≤9223372036854775807) (h0:0<zs.length):
 Calls Tryz.prog 47 #[.slice (some ⟨b,off,none⟩) zs.length c] w fun e w'=>e=.returned (.bool (dV zs))∧w=w':=by
 rw[tQ h0];have H:=zH h;clear h;refine kKm ?_;intro N hN HN;rw[←hN] at hm h0 ⊢;clear hN;obtain⟨R,hR⟩:∃R,R=rgt (-1) zs:=⟨_,rfl⟩
 have HR:=zH hR;rw[←hR];clear hR;go_enter Tryz.func47,Tryz.ntmps47
 go_wp2;go_loop [3,4] (fun r i=>∃(k:Nat) (l:Int),k≤N∧i=.int .i64 k∧r=.int .i64 l∧R=rgt l (zs.drop k)) (fun _ i=>N-(intOf i).toNat)
 case atStart=>exact⟨0,-1,Nat.zero_le _,rfl,rfl,HR⟩
 case round=>
  obtain⟨k,l,hk,rfl,rfl,ht⟩:=hrel;have HT:=zH ht;clear ht;by_cases hlt:k<N
  ·refine kP7 ?_;intro l1 g1;have HC:=zH (GY zs k l1 l);generalize hu:zs[k]=u at g1 HC;clear hu l1;by_cases c1:u≤l
   ·exact mQR
   ·by_cases c2:u>15
    ·exact m6l
    ·go_wp2;go_round
     case rel=>refine⟨k+1,u,by omega,by go_num,rfl,?_⟩;rw[HT.out,HC.out,show decide (l<u)=true from by simp;omega,show decide (u≤15)=true from by simp;omega];rfl
     case measure=>simp [intOf];omega
  ·exact mXS
theorem yq {K:Nat→Obj→Prop} (w:World) (v:Value) (zs:List Int) (h:IntsAt K w v zs) (hm:zs.length≤maxLen):
 Calls Tryz.prog 47 #[v] w fun e w'=>e=.returned (.bool (dV zs))∧w=w':=by
 obtain⟨a,c,rfl⟩:=h.form;by_cases h0:zs.length=0
 ·have e1:=List.length_eq_zero_iff.1 h0;subst e1;exact(Jv w a c).mono fun e w' ⟨he,hw⟩=>⟨he,hw⟩
 ·obtain⟨b,off,rfl⟩:=h.addr (by omega);exact Cv w b off c zs h (by unfold maxLen at hm;omega) (by omega)
theorem M6 (w:World) (a:Option Addr) (c:Nat):Calls Tryz.prog 92 #[.slice a 0 c] w fun e w'=>e=.returned (.bool false)∧w=w':=by
 go_enter Tryz.func92,Tryz.ntmps92
 go_wp2;go_loop [7] (fun i=>i=.int .i64 0) (fun _=>0)
 case atStart=>exact rfl
 case round=>exact m7q
theorem Jy {K:Nat→Obj→Prop} (w:World) (b off c:Nat) (zs:List Int) (h:IntsAt K w (.slice (some ⟨b,off,none⟩) zs.length c) zs) (hm:zs.length≤9223372036854775807) (h0:0<zs.length):
 Calls Tryz.prog 92 #[.slice (some ⟨b,off,none⟩) zs.length c] w fun e w'=>e=.returned (.bool (dV zs))∧w=w':=by
 rw[tQ h0];have H:=zH h;clear h;refine kKm ?_;intro N hN HN;rw[←hN] at hm h0 ⊢;clear hN;obtain⟨R,hR⟩:∃R,R=rgt (-1) zs:=⟨_,rfl⟩
 have HR:=zH hR;rw[←hR];clear hR;go_enter Tryz.func92,Tryz.ntmps92
 go_wp2;go_loop [7] (fun i=>∃(k:Nat) (l:Int),k≤N∧i=.int .i64 k∧-1≤l∧(k=0→l=-1)∧(∀j,k=j+1→∃h:j<zs.length,zs[j]=l)∧R=rgt l (zs.drop k)) (fun i=>N-(intOf i).toNat)
 case atStart=>exact⟨0,-1,Nat.zero_le _,rfl,by omega,fun _=>rfl,fun j h=>by omega,HR.out⟩
 case round=>
  obtain⟨k,l,hk,rfl,hl,hk0,hkj,ht⟩:=hrel;have HT:=zH ht;have HK:=zH hk0;have HJ:=zH hkj;clear ht hk0 hkj;by_cases hlt:k<N
  ·refine kP7 ?_;intro l1 g1;have HC:=zH (GY zs k l1 l);have HU:=zH (rfl:zs[k]=zs[k]);generalize hu:zs[k]=u at g1 HC
   have HV:Hid (∀j,k+1=j+1→∃h:j<zs.length,zs[j]=u):=fun j hj=>by
    obtain rfl:k=j:=by omega
    exact⟨l1,hu⟩
   clear hu HU;by_cases c1:u<0
   ·exact mQR
   ·by_cases c2:u≥16
    ·exact m6l
    ·have e2:decide (u≤15)=true:=by simp;omega
     have E2:=zH e2;clear e2;rcases k with _ | j
     ·have hl0:=HK rfl;replace g1:w.cell? ⟨b,off,none⟩=some (.int .i64 u):=g1;go_wp2;go_round
      case rel=>refine⟨1,u,by omega,by go_num,by omega,fun h=>by omega,HV.out,?_⟩;rw[HT.out,HC.out,show decide (l<u)=true from by simp;omega,E2.out];rfl
      case measure=>simp [intOf];omega
     ·obtain⟨lj,ej⟩:=HJ j rfl;have g2:=H.cell lj;rw[ej] at g2;clear ej lj;by_cases c3:u≤l
      ·exact mQR
      ·go_wp2;go_round
       case rel=>refine⟨j+1+1,u,by omega,by go_num,by omega,fun h=>by omega,HV.out,?_⟩;rw[HT.out,HC.out,show decide (l<u)=true from by simp;omega,E2.out];rfl
       case measure=>simp [intOf];omega
  ·exact mXS
theorem Cw {K:Nat→Obj→Prop} (w:World) (v:Value) (zs:List Int) (h:IntsAt K w v zs) (hm:zs.length≤maxLen):
 Calls Tryz.prog 92 #[v] w fun e w'=>e=.returned (.bool (dV zs))∧w=w':=by
 obtain⟨a,c,rfl⟩:=h.form;by_cases h0:zs.length=0
 ·have e1:=List.length_eq_zero_iff.1 h0;subst e1;exact(M6 w a c).mono fun e w' ⟨he,hw⟩=>⟨he,hw⟩
 ·obtain⟨b,off,rfl⟩:=h.addr (by omega);exact Jy w b off c zs h (by unfold maxLen at hm;omega) (by omega)
theorem m35 {p:Prop} (h:p:=by
 rcases h.2 with⟨rfl,e⟩ | ⟨g,cap,_,rfl,_⟩
 ·exact⟨none,0,by rw[e]⟩
 ·exact⟨_,_,rfl⟩):p:=h
def B9 (x:Int):Value:=.int .i64 x
theorem wZ:(Tryz.prog.info? 3).map (fun i=>(i.zero,i.size,i.bytes))=some (some (.int .i64 0),1,8):=by kernel_rfl
def RowI (w:World) (B:Nat) (v:Value) (zs:List Int):Prop:=w.ownsRow B 3 1 v zs.length (zs.map B9)
theorem d_ {w:World} {B:Nat} {v:Value} {n:Nat} {xs:List Value} {e:TypeId} {s:Nat} (h:w.ownsRow B e s v n xs):∀k,v.ownBlock=some k→B≤k:=by
 intro k hk;rcases h.2 with⟨rfl,_⟩ | ⟨g,cap,_,rfl,hg,_⟩
 ·cases hk
 ·cases hk;exact hg
theorem RowI.tt {w w':World} {B:Nat} {v:Value} {zs:List Int} (h:RowI w B v zs) (hf:FT w w'):RowI w' B v zs:=bK h hf fun _ _ _ _=>trivial
theorem RowI.ints {w:World} {B:Nat} {v:Value} {zs:List Int} (h:RowI w B v zs):IntsAt (fun b _=>B≤b) w v zs:=by
 obtain⟨h1,h2⟩:=h;rcases h2 with⟨hv,hn⟩ | ⟨g,cap,cur,hv,hg,hh,hn,hc,hs,ht⟩
 ·have e:=List.length_eq_zero_iff.1 hn;subst e hv;exact⟨_,_,rfl,.inl rfl⟩
 ·refine⟨_,cap,hv,.inr ⟨g,0,_,rfl,hh,hg,fun i hi=>?_⟩⟩;have e1:cur.toList[i]? = (zs.map B9)[i]?:=by rw[←ht,List.getElem?_take,if_pos (by omega)]
  have e2:cur[i]? = some (B9 zs[i]):=by rw[←Array.getElem?_toList,e1];simp [hi]
  rw[Nat.zero_add];exact bQ hh e2
theorem RowI.nil (w:World) (B:Nat):RowI w B (.slice none 0 0) []:=⟨rfl,.inl ⟨rfl,rfl⟩⟩
theorem RowI.form {w:World} {B:Nat} {v:Value} {zs:List Int} (h:RowI w B v zs):∃a c,v=.slice a zs.length c:=by
 exact m35
theorem NumsAt.src {K:Nat→Obj→Prop} {w:World} {v:Value} {zs:List Int} (h:IntsAt K w v zs) (h0:0<zs.length):sX w 1 v zs.length (zs.map B9):=by
 obtain⟨a,cap,rfl,h⟩:=h;rcases h with rfl | ⟨b,off,o,rfl,hb,hk,hc⟩
 ·simp at h0
 ·refine .inr ⟨_,cap,rfl,by simp,fun j u hu=>?_,fun u hu=>?_⟩
  ·have hj:j<zs.length:=by
    rcases Nat.lt_or_ge j zs.length with h1 | h1
    ·exact h1
    ·rw[List.getElem?_eq_none (by simpa using h1)] at hu;cases hu
   have hu':u=B9 zs[j]:=by exact mur
   rw[hu',B6];exact hc j hj
  ·obtain⟨x,_,rfl⟩:=List.mem_map.1 hu;rfl
theorem gZ {K0:Nat→Obj→Prop} {ops:Array Oper} {rest:List Oper} {o:Oper} {a:Act} {Q:Exit→Act→World→Prop} (W0 W:World) (hF:Hid (FT W0 W)) (hgd:o.guard=none) (s x:Operand)
 (ho:o.op=.call { callee:=.builtin .append,args:=#[s,x],argTypes:=#[22,22] }) (v:Value) (xs:List Int) (hs:a.eval s=v) (hown:Hid (RowI W W0.heap.size v xs))
 (vx:Value) (bs:List Int) (hx:a.eval x=vx) (hb:Hid (IntsAt K0 W vx bs)) (h0:0<bs.length) (r:List Int) (hr:Hid (xs++bs=r)) (hn:r.length≤2000000)
 (h:∀a' c' w',Hid (RowI w' W0.heap.size (.slice a' r.length c') r)→Hid (FT W0 w')→wpList Tryz.prog ops Q rest (a.put o.dst (.slice a' r.length c')) w'):
 wpList Tryz.prog ops Q (o :: rest) a W:=by
 obtain⟨i0,hi,hz0,hz1,hz2⟩:=info_parts wZ;have hr:=hr;subst hr;rw[List.length_append] at hn;refine cj W hgd s x 22 ho W0.heap.size 3 i0 (.int .i64 0) 1 8 Tryz.underlying22 hi hz0 hz1 hz2 rfl (by decide) v xs.length (xs.map B9) hs hown.out vx bs.length (bs.map B9) hx (hb.out.src h0) (by unfold maxLen;omega) (by omega) hF.out.size ?_;intro v' w' h1 h2 _;rw[←List.map_append,←List.length_append] at h1;obtain⟨a',c',rfl⟩:=RowI.form h1;exact h a' c' w' h1 (hF.grown_new h2 (d_ hown))
theorem tY {K:Nat→Obj→Prop} (w:World) (v:Value) (zs:List Int) (h:IntsAt K w v zs) (h0:0<zs.length) (hm:zs.length≤2000000):
 Calls Tryz.prog 100 #[v] w fun e w'=>(∃v,e=.returned v∧RowI w' w.heap.size v zs)∧FT w w':=by
 obtain⟨a,c,rfl⟩:=h.form;obtain⟨b,off,rfl⟩:=h.addr h0;have hq:=fun(w:World) (a:Option Addr) (n c n' c':Nat)=>Lib.run_eql_slice_nil (P:=Tryz.prog) w 22 3 a n c n' c' Tryz.underlying22
 have hown:Hid (RowI (w.alloc (.cells #[] 3)) w.heap.size (.slice (some ⟨w.heap.size,0,none⟩) 0 0) []):=World.ownsRow_lit w #[] 0 (Nat.le_refl _) (by simp) rfl;have hsrc:=zH (h.tt ((Fr.refl _ _).alloc (.cells #[] 3)));have HF:=zH ((Fr.refl (fun _ _=>True) w).alloc (.cells #[] 3));have H0:=zH h0;clear h h0;go_enter Tryz.func100,Tryz.ntmps100
 go_wp2_with (at_builtin;refine gZ w _ HF rfl _ _ rfl _ [] rfl hown _ zs rfl hsrc H0.out zs rfl hm ?_)
 intro a1 c1 w1 O1 F1;go_wp2;go_ret;exact⟨⟨_,rfl,O1⟩,F1⟩
theorem m2h {p:Prop} (h:p:=by
 exact gW W s x t ho B e i z size bytes ht hi hz hsize hby hzs hsz v n _ hs hown _ ys.length _ _ hx hl hc ho1 (by unfold maxLen;omega) (by omega) hB hcont):p:=h
theorem mLO {p:Prop} (h:p:=by
 obtain⟨g,c,rfl⟩:=j1 q1;exact h g c w' (by rw[List.flatMap_append];exact q1) q2 q3):p:=h
theorem mdb {p:Prop} (h:p:=by
 have e0:=List.length_eq_zero_iff.1 h0;subst e0;have hrun:=fk (P:=P) (w:=W) B t o.type e i size ht hi v n _ hown ax cx;unfold Oper.wp execOp;simp only[List.length_nil] at hx;simp only[ho,resolve,invoke,builtin,Sem.run_bind,Sem.run_pure,Result.andThen_ok,List.map_toArray,List.map_cons,List.map_nil,hs,hx,hrun];exact hcont v W (by simpa using hown) ⟨rfl,rfl,rfl,Nat.le_refl _,fun _ _ _=>rfl⟩ (.inl rfl)):p:=h
def RowsAt {α:Type} (K:Nat→Obj→Prop) (w:World) (v:Value) (k:Nat) (enc:α→List Value) (xs:List α):Prop:=
 ∃a c,v=.slice a xs.length c∧xs.length≤c∧(xs=[]∨∃b off o,a=some ⟨b,off,none⟩∧w.heap[b]? = some o∧K b o∧∀i,(h:i<xs.length)→∀j u,(enc xs[i])[j]? = some u→w.cell? ⟨b,off+i*k+j,none⟩=some u)
section
variable {α:Type} {K:Nat→Obj→Prop} {w w':World} {v:Value} {k:Nat} {enc:α→List Value} {xs:List α}
theorem RowsAt.fr {K':Nat→Obj→Prop} (h:RowsAt K w v k enc xs) (hf:Fr K' w w') (hk:∀c o,w.heap[c]? = some o→K c o→K' c o):RowsAt K w' v k enc xs:=by
 obtain⟨a,c,hv,hc,h⟩:=h;refine⟨a,c,hv,hc,?_⟩;rcases h with h | ⟨b,off,o,ha,ho,hb,h⟩
 ·exact .inl h
 ·exact .inr ⟨b,off,o,ha,hf.keep _ _ ho (hk _ _ ho hb),hb,fun i hi j u hu=>hf.cell (fun o' ho'=>by have e:o'=o:=Option.some.inj (ho'.symm.trans ho);subst e;exact hk _ _ ho' hb) (h i hi j u hu)⟩
theorem RowsAt.mono {K':Nat→Obj→Prop} (h:RowsAt K w v k enc xs) (hk:∀c o,w.heap[c]? = some o→K c o→K' c o):RowsAt K' w v k enc xs:=by
 obtain⟨a,c,hv,hc,h⟩:=h;refine⟨a,c,hv,hc,?_⟩;rcases h with h | ⟨b,off,o,ha,ho,hb,h⟩
 ·exact .inl h
 ·exact .inr ⟨b,off,o,ha,ho,hk _ _ ho hb,h⟩
theorem RowsAt.tt (h:RowsAt K w v k enc xs) (hf:FT w w'):RowsAt K w' v k enc xs:=h.fr hf fun _ _ _ _=>trivial
theorem RowsAt.form (h:RowsAt K w v k enc xs):∃a c,v=.slice a xs.length c∧xs.length≤c:=by
 obtain⟨a,c,hv,hc,_⟩:=h;exact⟨a,c,hv,hc⟩
theorem RowsAt.nil (K:Nat→Obj→Prop) (w:World) (k:Nat) (enc:α→List Value):RowsAt K w (.slice none 0 0) k enc []:=⟨none,0,rfl,Nat.le_refl _,.inl rfl⟩
theorem RowsAt.spot {a:Option Addr} {n c:Nat} (h:RowsAt K w (.slice a n c) k enc xs) (h0:0<xs.length):∃b off o,a=some ⟨b,off,none⟩∧w.heap[b]? = some o∧K b o∧∀i,(h:i<xs.length)→∀j u,(enc xs[i])[j]? = some u→w.cell? ⟨b,off+i*k+j,none⟩=some u:=by
 obtain⟨a',c',e,_,h⟩:=h;cases e;rcases h with h | h
 ·rw[h] at h0;cases h0
 ·exact h
theorem nZ (hk:∀x,(enc x).length=k):∀(xs:List α) (i:Nat) (h:i<xs.length) (j:Nat) (u:Value),(enc xs[i])[j]? = some u→(xs.flatMap enc)[i*k+j]? = some u
 | x :: xs,0,_,j,u,hu=>by rw[List.flatMap_cons,List.getElem?_append_left (by rw[Nat.zero_mul,Nat.zero_add];exact(List.getElem?_eq_some_iff.1 hu).1),Nat.zero_mul,Nat.zero_add];exact hu
 | x :: xs,i+1,h,j,u,hu=>by
  have ih:=nZ hk xs i (by simpa using h) j u hu;rw[List.flatMap_cons,List.getElem?_append_right (by rw[hk];have:=Nat.add_mul i 1 k;rw[Nat.one_mul] at this;omega),hk];have e:(i+1)*k+j-k=i*k+j:=by have:=Nat.add_mul i 1 k;rw[Nat.one_mul] at this;omega
  rw[e];exact ih
theorem kx (hk:∀x,(enc x).length=k):∀(xs:List α),(xs.flatMap enc).length=xs.length*k
 | []=>by simp
 | x :: xs=>by rw[List.flatMap_cons,List.length_append,hk,kx hk xs,List.length_cons,Nat.succ_mul];omega
theorem RowsAt.of_own {B:Nat} {t:TypeId} (hk:∀x,(enc x).length=k) (h:w.ownsRow B t k v xs.length (xs.flatMap enc)) (hK:∀c cs,v.ownBlock=some c→K c (.cells cs t (0,0))):RowsAt K w v k enc xs:=by
 have h0:=h;rcases h.2 with⟨hv,h0⟩ | ⟨g,cap,cur,hv,hb,hg,hnc,_,_,ht⟩
 ·exact⟨none,0,by rw[hv,h0],by omega,.inl (List.length_eq_zero_iff.1 h0)⟩
 ·refine⟨_,cap,hv,hnc,.inr ⟨g,0,_,rfl,hg,hK g _ (by rw[hv];rfl),fun i hi j u hu=>?_⟩⟩;have k1:=h0.cells (g:=g) (by rw[hv];rfl) _ u (nZ hk xs i hi j u hu);rw[Addr.add_lit,Nat.zero_add] at k1;rw[Nat.zero_add];exact k1
end
theorem flat_of {α:Type} {enc:α→List Value} {k:Nat} (hk:∀x,(enc x).length=k) (h0:0<k) (xs:List α) (j:Nat) (u:Value) (h:(xs.flatMap enc)[j]? = some u):∃(hi:j / k<xs.length),(enc xs[j / k])[j % k]? = some u:=by
 obtain⟨hj,_⟩:=List.getElem?_eq_some_iff.1 h;rw[kx hk] at hj;have hi:j / k<xs.length:=(Nat.div_lt_iff_lt_mul h0).2 hj;refine⟨hi,?_⟩;have ht:j % k<(enc xs[j / k]).length:=by rw[hk];exact Nat.mod_lt _ h0
 have hg:=nZ hk xs (j / k) hi (j % k) _ (List.getElem?_eq_getElem ht);rw[Nat.mul_comm,Nat.div_add_mod,h] at hg;rw[List.getElem?_eq_getElem ht,←hg]
theorem RowsAt.src {α:Type} {enc:α→List Value} {k:Nat} {K:Nat→Obj→Prop} {w:World} {ad:Addr} {n c:Nat} {xs:List α} (hk:∀x,(enc x).length=k) (h0:0<k) (h1:∀x,∀u∈enc x,u.oneCell'=true) (h:RowsAt K w (.slice (some ad) n c) k enc xs):sX w k (.slice (some ad) n c) n (xs.flatMap enc):=by
 have hn:n=xs.length:=by obtain⟨a,c,e,_⟩:=h.form;cases e;rfl
 subst hn;refine .inr ⟨ad,c,rfl,kx hk xs,fun j u hu=>?_,fun u hu=>?_⟩
 ·obtain⟨hi,ht⟩:=flat_of hk h0 xs j u hu;obtain⟨b,off,o,e,_,_,hc⟩:=h.spot (Nat.lt_of_le_of_lt (Nat.zero_le _) hi);cases e;have:=hc _ hi _ _ ht;rw[Nat.add_assoc,Nat.mul_comm,Nat.div_add_mod] at this;unfold Addr.add;split
  ·subst j;exact this
  ·exact this
 ·obtain⟨x,_,hx⟩:=List.mem_flatMap.1 hu;exact h1 x u hx
theorem jQ {α:Type} {enc:α→List Value} {k:Nat} {w:World} {B:Nat} {e:TypeId} {v:Value} {xs:List α} (h:w.ownsRow B e k v xs.length (xs.flatMap enc)) (hk:∀x,(enc x).length=k):RowsAt (fun c o=>B≤c∧∃cs,o=.cells cs e (0,0)) w v k enc xs:=by
 rcases h.2 with⟨rfl,h0⟩ | ⟨g,cap,cur,rfl,hb,hg,hn,_,hc,ht⟩
 ·rw[List.length_eq_zero_iff] at h0;subst h0;exact RowsAt.nil _ _ _ _
 ·refine⟨_,cap,rfl,hn,.inr ⟨g,0,_,rfl,hg,⟨hb,cur,rfl⟩,fun i hi j u hu=>?_⟩⟩;have h1:=nZ hk xs i hi j u hu;rw[←ht,List.getElem?_take] at h1;split at h1
  ·rw[Nat.zero_add];exact bQ hg (by simpa using h1)
  ·cases h1
theorem fk {P:Program} {w:World} (base:Nat) (t ty e:TypeId) (i:TypeInfo) (size:Nat) (ht:P.underlying t=some (.slice e)) (hi:P.info? e=some i)
 (v:Value) (n:Nat) (xs:List Value) (hown:w.ownsRow base e size v n xs) (ad:Option Addr) (c:Nat):(Builtin.append_ #[t,t] ty #[v,.slice ad 0 c]).run P w=.ok v w:=by
 rcases hown.2 with⟨rfl,rfl⟩ | ⟨g,cap,cur,rfl,_,_,hnc,_⟩
 ·cases ad <;> simp [Builtin.append_,run_underlying ht,sizeOf,typeInfo,hi,Builtin.lenOf,Builtin.firstCells,loadCells,loadCellsFrom]
 ·cases ad <;> simp [Builtin.append_,run_underlying ht,sizeOf,typeInfo,hi,Builtin.lenOf,Builtin.firstCells,hnc,storeCells,loadCells,loadCellsFrom]
theorem gV {α:Type} {enc:α→List Value} {P:Program} {K0:Nat→Obj→Prop} {o:Oper} {a:Act} {K:Act→World→Prop} {Q:Exit→Act→World→Prop} (W:World) (s x:Operand) (t e:TypeId)
 (ho:o.op=.call { callee:=.builtin .append,args:=#[s,x],argTypes:=#[t,t] }) (B:Nat) (hB:B≤W.heap.size) (i:TypeInfo) (z:Value) (size bytes:Nat) (ht:P.underlying t=some (.slice e)) (hi:P.info? e=some i) (hz:i.zero=some z)
 (hsize:i.size=size) (hby:i.bytes=bytes) (hzs:z.cells.size=size) (hsz:0<size) (hb32:bytes≤64) (hk:∀x,(enc x).length=size) (h1:∀x,∀u∈enc x,u.oneCell'=true)
 (v:Value) (n:Nat) (T:List α) (hs:a.eval s=v) (hown:W.ownsRow B e size v n (T.flatMap enc)) (vx:Value) (ys:List α) (hx:a.eval x=vx) (hvx:RowsAt K0 W vx size enc ys)
 (R:List α) (hR:T++ys=R) (N:Nat) (hN:n+ys.length=N) (hn:N≤1000000)
 (h:∀g c w',w'.ownsRow B e size (.slice g N c) N (R.flatMap enc)→W.grownBy w' v.ownBlock→OwnNext W v (.slice g N c)→K (a.put o.dst (.slice g N c)) w'):o.wp P a W K Q:=by
 subst hR hN
 have hcont:∀v' w',w'.ownsRow B e size v' (n+ys.length) (T.flatMap enc++ys.flatMap enc)→W.grownBy w' v.ownBlock→OwnNext W v v'→K (a.put o.dst v') w':=fun v' w' q1 q2 q3=>by exact mLO
 obtain⟨ax,cx,rfl,_⟩:=hvx.form;by_cases h0:ys.length=0
 ·exact mdb
 ·obtain⟨b,off,ob,rfl,_⟩:=hvx.spot (by omega);rcases RowsAt.src hk hsz h1 hvx with⟨he,_⟩ | ⟨ad,c,he,hl,hc,ho1⟩
  ·cases he
  ·cases he;have hbb:(n+ys.length)*bytes≤1000000*64:=Nat.mul_le_mul hn hb32;exact m2h
def Mw (a:Option Addr) (cap n s:Nat):Option Addr:=if cap=n then a else a.map (·.add (n*s))
theorem sy {P:Program} {t e:TypeId} (s:Nat) (ht:P.underlying t=some (.slice e)) (hs:(sizeOf e).run P=fun w=>.ok s w) (w:World) (a:Option Addr) (len cap n:Nat) (k:IntKind) (h:n≤cap):
 (Instr.slice t (.slice a len cap) none (some (.int k n)) none).run P w=.ok (.slice a n cap) w:=by
 have h0:(0:Int)≤n∧(n:Int)≤cap:=by omega
 simp only[Instr.slice,Sem.run_bind,run_underlying ht,Result.andThen,Instr.sliceBounds,Instr.sliceBound,asIntOf,Sem.run_pure,h0,and_self,↓reduceIte,hs];cases a <;> simp [Addr.add]
theorem mZ {P:Program} {t e:TypeId} (s:Nat) (ht:P.underlying t=some (.slice e)) (hs:(sizeOf e).run P=fun w=>.ok s w) (w:World) (a:Option Addr) (len cap n:Nat) (k:IntKind) (h:n≤len):
 (Instr.slice t (.slice a len cap) (some (.int k n)) none none).run P w=.ok (.slice (Mw a cap n s) (len-n) (cap-n)) w:=by
 have h0:(0:Int)≤n∧(n:Int)≤len:=by omega
 simp only[Instr.slice,Sem.run_bind,run_underlying ht,Result.andThen,Instr.sliceBounds,Instr.sliceBound,asIntOf,Sem.run_pure,h0,and_self,↓reduceIte,hs];simp [Mw]
section
variable {α:Type} {K:Nat→Obj→Prop} {w:World} {k:Nat} {enc:α→List Value} {xs:List α} {a:Option Addr} {n c:Nat}
theorem RowsAt.takeS (h:RowsAt K w (.slice a n c) k enc xs) {m:Nat} (hm:m≤xs.length):RowsAt K w (.slice a m c) k enc (xs.take m):=by
 obtain⟨a',c',e,hc,h⟩:=h;cases e;refine⟨a,c,by rw[List.length_take,Nat.min_eq_left hm],by rw[List.length_take];omega,?_⟩;rcases h with h | ⟨b,off,o,e,ho,hb,h⟩
 ·exact .inl (by rw[h,List.take_nil])
 ·cases e;refine .inr ⟨b,off,o,rfl,ho,hb,fun i hi j u hu=>?_⟩;have hi':i<xs.length:=by rw[List.length_take] at hi;omega
  rw[List.getElem_take] at hu;exact h i hi' j u hu
theorem RowsAt.dropS (h:RowsAt K w (.slice a n c) k enc xs) {m:Nat} (hm:m≤xs.length):RowsAt K w (.slice (Mw a c m k) (n-m) (c-m)) k enc (xs.drop m):=by
 obtain⟨a',c',e,hc,h⟩:=h;cases e;refine⟨_,c-m,by rw[List.length_drop],by rw[List.length_drop];omega,?_⟩;rcases h with h | ⟨b,off,o,e,ho,hb,h⟩
 ·exact .inl (by rw[h,List.drop_nil])
 ·cases e;by_cases hcm:c=m
  ·exact .inl (List.eq_nil_of_length_eq_zero (by rw[List.length_drop];omega))
  ·refine .inr ⟨b,off+m*k,o,?_,ho,hb,fun i hi j u hu=>?_⟩
   ·unfold Mw;rw[if_neg hcm];simp only[Option.map_some,Option.some.injEq];unfold Addr.add;split
    ·rename_i q;rw[q];rfl
    ·rfl
   ·have hi':m+i<xs.length:=by rw[List.length_drop] at hi;omega
    rw[List.getElem_drop] at hu;have:=h (m+i) hi' j u hu;rw[Nat.add_mul] at this;rw[show off+m*k+i*k+j=off+(m*k+i*k)+j from by omega];exact this
end
theorem DX {w:World} {B g n cap size:Nat} {t:TypeId} {xs:List Value} (h:w.ownsRow B t size (.slice (some ⟨g,0,none⟩) n cap) n xs) (i:Nat) (v:Value):(w.setCell ⟨g,i,none⟩ v).ownsRow B t size (.slice (some ⟨g,0,none⟩) n cap) n (xs.set i v):=by
 rcases h with⟨hl,⟨e,_⟩ | ⟨g',cap',cur,e,hB,hg,h1,h2,h3,h4⟩⟩
 ·cases e
 ·cases e;refine⟨by rw[List.length_set];exact hl,.inr ⟨g,cap,cur.setIfInBounds i v,rfl,hB,bJ hg v,h1,h2,by rw[Array.size_setIfInBounds];exact h3,?_⟩⟩;rw[Array.toList_setIfInBounds,List.take_set,h4]
end Go.Proofs.YtmjccpfchhnfhaaGreat
