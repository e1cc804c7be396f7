/- Texts of the proofs, part 1: what the functions that they reach do, walked; no conditions beyond those that each states. -/
import Derived.Deep.RegionHeld
set_option linter.unusedVariables false
set_option linter.unusedSimpArgs false
set_option maxRecDepth 100000
set_option maxHeartbeats 8000000
namespace Go.Proofs.YtmjccpfchhnfhaaGreat
section
variable {P:Program} {ops:Array Oper} {Q:Exit→Act→World→Prop} {md:Region.Mode} {S1 S0:World→Prop} {k:Nat}
def SK (S1 S0:World→Prop) (k:Nat) (L:Array Bool) (w:World):Prop:=S1 w∧(L.getD k true=false→S0 w)
def Shuts (md:Region.Mode) (ops:Array Oper) (L:Array Bool):Prop:=∀(j:Nat) oj,ops[j]? = some oj→L.getD j true=true→∀e∈oj.after,Region.binds md e=true→L.getD e.on false=true
theorem Shuts.step {L:Array Bool} {i:Nat} (h:Shuts md ops L) (hr:i∈Region.ready md ops L):Shuts md ops (L.setIfInBounds i true):=fun j oj hj hl e he hb=>by
 by_cases hij:i=j
 ·subst hij;obtain⟨_,o,ho,hall⟩:=mem_ready.1 hr;rw[hj] at ho;cases ho;exact getD_set_true (hall e he hb)
 ·rw[getD_set_ne true hij] at hl;exact getD_set_true (h j oj hj hl e he hb)
theorem Shuts.back {L:Array Bool} {p q:Nat} {oq:Oper} (h:Shuts md ops L) (hq:ops[q]? = some oq) (he:oq.after.any (fun e=>Region.binds md e&&e.on==p)=true) (hp:L.getD p true=false):L.getD q true=false:=by
 cases hl:L.getD q true with
 | false=>rfl
 | true=>
  obtain⟨e,hm,hb⟩:=Array.any_eq_true'.1 he;simp only[Bool.and_eq_true,beq_iff_eq] at hb;have:=h q oq hq hl e hm hb.1;rw[hb.2] at this;rcases Nat.lt_or_ge p L.size with h' | h'
  ·simp [h'] at hp this;rw[hp] at this;cases this
  ·simp [Array.getElem?_eq_none h'] at hp
def Hk (md:Region.Mode) (ops:Array Oper):List Nat→Bool
 | []=>true
 | [_]=>true
 | p :: q :: l=>(match ops[q]? with | some o=>o.after.any (fun e=>Region.binds md e&&e.on==p) | none=>false)&&Hk md ops (q :: l)
theorem Shuts.chain {L:Array Bool} (h:Shuts md ops L):∀(l:List Nat) (p:Nat),Hk md ops (p :: l)=true→L.getD p true=false→L.getD ((p :: l).getLast (by simp)) true=false
 | [],p,_,hp=>hp
 | q :: l,p,hc,hp=>by
  unfold Hk at hc;rw[Bool.and_eq_true] at hc;cases ho:ops[q]? with
  | none=>rw[ho] at hc;simp at hc
  | some o=>
   rw[ho] at hc;rw[List.getLast_cons (by simp)];exact Shuts.chain h l q hc.2 (h.back ho hc.1 hp)
def wpAnyK (P:Program) (md:Region.Mode) (ops:Array Oper) (Q:Exit→Act→World→Prop) (S1 S0:World→Prop) (k:Nat):Nat→Array Bool→Act→World→Prop
 | 0,L,a,w=>Region.ready md ops L=[]∧Q .normal a w
 | fuel+1,L,a,w=>(Region.ready md ops L=[]→Q .normal a w)∧
  ∀i∈Region.ready md ops L,wpOp P ops Q i (fun a' w'=>SK S1 S0 k (L.setIfInBounds i true) w'∧wpAnyK P md ops Q S1 S0 k fuel (L.setIfInBounds i true) a' w') a w
theorem wpAnyK.any:∀(fuel:Nat) (L:Array Bool) (a:Act) (w:World),wpAnyK P md ops Q S1 S0 k fuel L a w→wpAny P md ops Q fuel L a w
 | 0,_,_,_,h=>h
 | fuel+1,_,_,_,h=>⟨h.1,fun i hi=>wpOp_mono (fun a' w' h'=>wpAnyK.any fuel _ a' w' h'.2) (h.2 i hi)⟩
theorem wpAnyK.first {i:Nat} {oi:Oper} {v:Value} {T:World→Prop} (hi:ops[i]? = some oi) (hsel:∀(j:Nat) (o:Oper) cs b,ops[j]? = some o→o.op≠.select cs b) (hki:k≠i)
 (hQ:∀c a w,Q (.panic c) (a.put oi.dst v) w→Q (.panic c) a w) (hT:∀L w,Shuts md ops L→L.getD i true=false→SK S1 S0 k L w→T w):
 ∀(fuel:Nat) (L:Array Bool) (a:Act) (w:World),Shuts md ops L→
  (∀j oj,ops[j]? = some oj→j≠i→L.getD j true=false→(∀e∈oj.after,Region.binds md e=true→e.on≠i)→oi.apart ops oj=true)→
  i∈Region.ready md ops L→YieldsIf P ops T oi v a→SK S1 S0 k L w→
  wpAnyK P md ops Q S1 S0 k fuel (L.setIfInBounds i true) (a.put oi.dst v) w→wpAnyK P md ops Q S1 S0 k (fuel+1) L a w:=by
 have hset:∀L w,SK S1 S0 k L w→SK S1 S0 k (L.setIfInBounds i true) w:=fun L w h=>⟨h.1,fun e=>h.2 (by rw[getD_set_ne true (Ne.symm hki)] at e;exact e)⟩
 have hget:∀L w,SK S1 S0 k (L.setIfInBounds i true) w→SK S1 S0 k L w:=fun L w h=>⟨h.1,fun e=>h.2 (by rw[getD_set_ne true (Ne.symm hki)];exact e)⟩
 intro fuel
 induction fuel with
 | zero=>
  intro L a w hs _ hr hy hS H;refine⟨fun h=>(by rw[h] at hr;cases hr),fun j hj=>?_⟩;by_cases hji:j=i
  ·subst hji;exact hy.wpOp hi (hT L w hs (mem_ready.1 hj).1 hS) ⟨hset _ _ hS,H⟩
  ·have:=ready_mono hj hji;rw[H.1] at this;cases this
 | succ fuel ih=>
  intro L a w hs hfree hr hy hS H;have hiun:=(mem_ready.1 hr).1;refine⟨fun h=>(by rw[h] at hr;cases hr),fun j hj=>?_⟩;by_cases hji:j=i
  ·subst hji;exact hy.wpOp hi (hT L w hs hiun hS) ⟨hset _ _ hS,H⟩
  ·have h1:=H.2 j (ready_mono hj hji);obtain⟨hjun,oj,hoj,hall⟩:=mem_ready.1 hj
   have hnot:∀e∈oj.after,Region.binds md e=true→e.on≠i:=fun e he hb heq=>by
    have q1:=hall e he hb;rw[heq] at q1;rcases Nat.lt_or_ge i L.size with h' | h'
    ·simp [h'] at hiun q1;rw[hiun] at q1;cases q1
    ·simp [Array.getElem?_eq_none h'] at q1
   have h2:=wpOp_putIf hoj (hfree j oj hoj hji hjun hnot) (fun cs b=>hsel i oi cs b hi) (fun cs b=>hsel j oj cs b hoj) hQ hy h1;refine wpOp_mono (fun a' w' h3=>?_) h2;obtain⟨y3,s3,r3⟩:=h3;rw[Array.setIfInBounds_comm _ _ (Ne.symm hji)] at s3 r3;refine⟨hget _ _ s3,ih (L.setIfInBounds j true) a' w' (hs.step hj) (fun m om hm hmi hun hno=>?_) (ready_mono hr (Ne.symm hji)) y3 (hget _ _ s3) r3⟩;refine hfree m om hm hmi ?_ hno;by_cases hjm:j=m
   ·subst hjm;exact hjun
   ·rw[getD_set_ne true hjm] at hun;exact hun
def M3 (md:Region.Mode) (ops:Array Oper) (L:Array Bool):Bool:=
 (List.range ops.size).all fun j=>match ops[j]? with
  | some o=>!L.getD j true||o.after.all fun e=>!Region.binds md e||L.getD e.on false
  | none=>true
theorem Shuts.of {L:Array Bool} (h:M3 md ops L=true):Shuts md ops L:=fun j oj hj hl e he hb=>by
 have h1:=List.all_eq_true.1 h j (List.mem_range.2 (Array.getElem?_eq_some_iff.1 hj).1);simp only[hj,hl,Bool.not_true,Bool.false_or] at h1;have h2:=Array.all_eq_true_iff_forall_mem.1 h1 e he;simp only[hb,Bool.not_true,Bool.false_or] at h2;exact h2
theorem kX {i:Nat} {oi:Oper} {v:Value} {fuel:Nat} {L:Array Bool} {a:Act} {w:World} (hi:ops[i]? = some oi) (hki:(k==i)=false)
 (hs:Region.noSelect ops=true) (hu:M3 md ops L=true) (hf:Region.free md ops L i=true) (hr:(Region.ready md ops L).contains i=true)
 (hQ:∀c a w,Q (.panic c) (a.put oi.dst v) w→Q (.panic c) a w) (hy:YieldsIf P ops S1 oi v a) (h1:S1 w) (h0:S0 w)
 (h:wpAnyK P md ops Q S1 S0 k fuel (L.setIfInBounds i true) (a.put oi.dst v) w):wpAnyK P md ops Q S1 S0 k (fuel+1) L a w:=
 wpAnyK.first (T:=S1) hi (Region.noSelect_spec hs) (by simpa using hki) hQ (fun _ _ _ _ h=>h.1) fuel L a w (Shuts.of hu) (Region.free_spec hi hf) (by simpa using hr) hy ⟨h1,fun _=>h0⟩ h
theorem mW {i:Nat} {oi:Oper} {v:Value} {fuel:Nat} {L:Array Bool} {a:Act} {w:World} (l:List Nat) (hi:ops[i]? = some oi) (hki:(k==i)=false)
 (hc:Hk md ops (i :: l)=true) (hl:(i :: l).getLast (by simp)=k)
 (hs:Region.noSelect ops=true) (hu:M3 md ops L=true) (hf:Region.free md ops L i=true) (hr:(Region.ready md ops L).contains i=true)
 (hQ:∀c a w,Q (.panic c) (a.put oi.dst v) w→Q (.panic c) a w) (hy:YieldsIf P ops S0 oi v a) (h1:S1 w) (h0:S0 w)
 (h:wpAnyK P md ops Q S1 S0 k fuel (L.setIfInBounds i true) (a.put oi.dst v) w):wpAnyK P md ops Q S1 S0 k (fuel+1) L a w:=
 wpAnyK.first (T:=S0) hi (Region.noSelect_spec hs) (by simpa using hki) hQ (fun L w hs h0 h=>h.2 (by rw[←hl];exact hs.chain l i hc h0)) fuel L a w (Shuts.of hu) (Region.free_spec hi hf) (by simpa using hr) hy ⟨h1,fun _=>h0⟩ h
def cJ (P:Program) (md:Region.Mode) (ops:Array Oper) (Q:Exit→Act→World→Prop) (S1 S0:World→Prop) (k:Nat) (fuel:Nat) (L:Array Bool) (a:Act) (w:World) (rs:List Nat):Prop:=
 ∀i∈rs,wpOp P ops Q i (fun a' w'=>SK S1 S0 k (L.setIfInBounds i true) w'∧wpAnyK P md ops Q S1 S0 k fuel (L.setIfInBounds i true) a' w') a w
theorem cJ.nil {fuel:Nat} {L:Array Bool} {a:Act} {w:World}:cJ P md ops Q S1 S0 k fuel L a w []:=fun _ h=>by cases h
theorem cJ.cons {fuel:Nat} {L:Array Bool} {a:Act} {w:World} {i:Nat} {o:Oper} {rs:List Nat} (ho:ops[i]? = some o)
 (h:∀K':Act→World→Prop,Shut (∀a w,S1 w→((k==i)=false→S0 w)→wpAnyK P md ops Q S1 S0 k fuel (L.setIfInBounds i true) a w→K' a w)→if Region.wanted o (yielded ops a.tmps)=true then Oper.wp P o a w K' Q else K' (a.put o.dst undef) w)
 (hL:L.getD i true=false) (hs:cJ P md ops Q S1 S0 k fuel L a w rs):cJ P md ops Q S1 S0 k fuel L a w (i :: rs):=fun j hj=>by
 rcases List.mem_cons.1 hj with rfl | hj
 ·refine wpOp_step ho (fun K' hK=>h K' (fun a w h1 h0 hW=>?_))
  have hSK:SK S1 S0 k (L.setIfInBounds j true) w:=⟨h1,fun e=>by
   by_cases hkj:k=j
   ·subst hkj
    have hlt:k<L.size:=by
     rcases Nat.lt_or_ge k L.size with h' | h'
     ·exact h'
     ·simp [Array.getElem?_eq_none h'] at hL
    simp [hlt] at e
   ·rw[getD_set_ne true (Ne.symm hkj)] at e;exact h0 (by simpa using hkj)⟩
  exact hK a w ⟨hSK,hW⟩
 ·exact hs j hj
theorem dQ {rs:List Nat} {fuel:Nat} {L:Array Bool} {a:Act} {w:World} (hr:Region.ready md ops L=rs) (hne:rs≠[])
 (h:cJ P md ops Q S1 S0 k fuel L a w rs):wpAnyK P md ops Q S1 S0 k (fuel+1) L a w:=⟨fun h0=>absurd (hr▸h0) hne,hr▸h⟩
theorem nK {L:Array Bool} {a:Act} {w:World} (hr:Region.ready md ops L=[]) (h:Q .normal a w):∀fuel,wpAnyK P md ops Q S1 S0 k fuel L a w
 | 0=>⟨hr,h⟩
 | _+1=>⟨fun _=>h,by rw[hr];simp⟩
theorem nX {id:Nat} {a:Act} {w:World} (hm:P.follows .mixedOrders=true)
 (h:wpAnyK P .any ops Q S1 S0 k ops.size (Array.replicate ops.size false) a w.drew):(Code.region id ops true).wp P Q a w:=
 wp_region_any hm (wpAnyK.any _ _ _ _ h)
end
end Go.Proofs.YtmjccpfchhnfhaaGreat
