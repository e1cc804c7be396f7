/- Texts of the proofs, part 8: what the functions that they reach do, walked; no conditions beyond those that each states. -/
import Derived.Deep.QuietTactic
import Derived.BigQuiet
import Derived.Test.YtmjccpfchhnfhaaGreatZka9b63f769b
set_option linter.unusedVariables false
set_option linter.unusedSimpArgs false
set_option maxRecDepth 100000
set_option maxHeartbeats 8000000
namespace Go.Proofs.YtmjccpfchhnfhaaGreat
open Go.RowKit
theorem B3 {a b:UInt8}:((a.toNat:Int) != (b.toNat:Int))=(a != b):=by
 rw[Bool.eq_iff_iff,bne_iff_ne,bne_iff_ne];exact⟨fun h e=>h (by rw[e]),fun h e=>h (UInt8.toNat_inj.1 (by omega))⟩
theorem same_len (w:World) (a1 a2:Option Addr) (n1 n2 c1 c2:Nat) (hn:¬n1=n2):Calls Tryz.prog 39 #[.slice a1 n1 c1,.slice a2 n2 c2] w fun e w'=>e=.returned (.bool false)∧w=w':=by
 have hq:((n1:Int) != n2)=true:=by simp;omega
 clear hn;go_enter Tryz.func39,Tryz.ntmps39
 exact m6T
theorem same_nil (w:World) (a1 a2:Option Addr) (c1 c2:Nat):Calls Tryz.prog 39 #[.slice a1 0 c1,.slice a2 0 c2] w fun e w'=>e=.returned (.bool true)∧w=w':=by
 go_enter Tryz.func39,Tryz.ntmps39
 go_wp2;go_loop [5] (fun i=>i=.int .i64 0) (fun _=>0)
 case atStart=>exact rfl
 case round=>exact m7q
theorem M5 (w:World) (b1 b2 o1 o2 n c1 c2:Nat) (x y:List UInt8) {K K':Nat→Obj→Prop} (hx:BytesAt K w (.slice (some ⟨b1,o1,none⟩) n c1) x) (hy:BytesAt K' w (.slice (some ⟨b2,o2,none⟩) n c2) y) (hm:n≤9223372036854775807):
 Calls Tryz.prog 39 #[.slice (some ⟨b1,o1,none⟩) n c1,.slice (some ⟨b2,o2,none⟩) n c2] w fun e w'=>e=.returned (.bool (decide (x=y)))∧∃k,w'=w.drewN k:=by
 have h1:=hx.len;have h2:=hy.len;have HX:=zH hx;have HY:=zH hy;have H1:=zH h1;have H2:=zH h2;clear hx hy h1 h2;go_enter Tryz.func39,Tryz.ntmps39
 go_wp2;go_loopw [5] (fun i wr=>∃k:Nat,k≤n∧i=.int .i64 k∧x.take k=y.take k∧∃j,wr=w.drewN j) (fun i _=>n-(intOf i).toNat)
 case atStart=>exact⟨0,Nat.zero_le _,rfl,rfl,0,rfl⟩
 case round=>
  obtain⟨k,hk,rfl,ht,j,rfl⟩:=hrel;have HT:=zH ht;clear ht;by_cases hlt:k<n
  ·refine k9v ?_;intro g1 g2 l1 l2;generalize hu:x[k]=u at g1;generalize hv:y[k]=v at g2;have HU:=zH hu;have HV:=zH hv;clear hu hv;unfold qy at g1 g2;go_wp2;go_quiet (fail)
   go_wp2
   ·go_ret;have hne:(↑u.toNat != (↑v.toNat:Int))=true:=by assumption
    rw[B3] at hne;refine⟨?_,j+nq,World.drewN_drewN _ _ _⟩;exact m28
   ·have heq:(↑u.toNat != (↑v.toNat:Int))=false:=by assumption
    rw[B3] at heq;go_roundw
    case rel=>exact mEe
    case measure=>simp [intOf];omega
  ·go_wp2;go_ret
   have e1:x=y:=by exact meX
   exact⟨by simp [e1],_,rfl⟩
theorem mQ (w:World) (v1 v2:Value) (x y:List UInt8) {K K':Nat→Obj→Prop} (hx:BytesAt K w v1 x) (hy:BytesAt K' w v2 y) (hm:x.length≤9223372036854775807):
 Calls Tryz.prog 39 #[v1,v2] w fun e w'=>e=.returned (.bool (decide (x=y)))∧∃k,w'=w.drewN k:=by
 obtain⟨a1,c1,rfl⟩:=hx.form;obtain⟨a2,c2,rfl⟩:=hy.form;by_cases hl:x.length=y.length
 ·by_cases h0:x.length=0
  ·have e1:=List.length_eq_zero_iff.1 h0;have e2:=List.length_eq_zero_iff.1 (hl▸h0);subst e1 e2;exact(same_nil w a1 a2 c1 c2).mono fun e w' ⟨he,hw⟩=>⟨he,0,hw.symm⟩
  ·obtain⟨b1,o1,rfl⟩:=hx.addr (by omega);obtain⟨b2,o2,rfl⟩:=hy.addr (by omega);rw[←hl] at hy ⊢;exact M5 w b1 b2 o1 o2 _ c1 c2 x y hx hy hm
 ·refine(same_len w a1 a2 _ _ c1 c2 hl).mono fun e w' ⟨he,hw⟩=>⟨?_,0,hw.symm⟩
  rw[he,show decide (x=y)=false from by simp;exact fun e=>hl (by rw[e])]
end Go.Proofs.YtmjccpfchhnfhaaGreat
