/- Texts of the proofs, part 2: what the functions that they reach do, walked; no conditions beyond those that each states. -/
import Derived.WalkKit
set_option linter.unusedVariables false
set_option linter.unusedSimpArgs false
set_option maxRecDepth 100000
set_option maxHeartbeats 8000000
namespace Go.Proofs.YtmjccpfchhnfhaaGreat
section
variable {P:Program} {Q:Exit→Act→World→Prop} {a:Act} {w:World}
theorem gk {b:Frame} {k:List Item} {cs:List Frame} {c:Code}:
 step P (lone (b.at a (.code (.scope c) :: k)) cs w)=.next (lone (b.at a (.code c :: .inScope c :: k)) cs w):=
 step_lone_go (by simp [stepG,stepG.exec,Frame.at])
theorem yK {b:Frame} {k:List Item} {cs:List Frame} {c:Code}:step P (lone (b.at a (.inScope c :: k)) cs w)=.next (lone (b.at a k) cs w):=
 step_lone_go (by simp [stepG,stepG.exec,Frame.at])
def zK (Q:Exit→Act→World→Prop):Exit→Act→World→Prop
 | .goto _,_,_=>False
 | e,a,w=>Q e a w
theorem Fk {c:Code} (h:c.wp P (zK Q) a w):(Code.scope c).wp P Q a w:=by
 intro b k cs;obtain⟨e,a₁,w₁,hq,harr⟩:=h b (.inScope c :: k) cs;cases e with
 | normal=>exact⟨.normal,a₁,w₁,hq,.head gk (Steps.trans harr (.one yK))⟩
 | exit id=>exact⟨.exit id,a₁,w₁,hq,fun k' hk=>.head gk (harr k' (by simp [exitTo,hk]))⟩
 | goto l=>exact hq.elim
 | ret=>exact⟨_,a₁,w₁,hq,.of_steps (.one gk) harr⟩
 | panic ch=>exact⟨_,a₁,w₁,hq,.of_steps (.one gk) harr⟩
 | outgrown=>exact⟨_,a₁,w₁,hq,.of_steps (b:=b) (k:=k) (cs:=cs) (e:=.outgrown) (.one gk) harr⟩
theorem v_ {a:Act} {w:World}:zK Q .normal a w=Q .normal a w:=rfl
theorem tX {a:Act} {w:World}:zK Q .ret a w=Q .ret a w:=rfl
theorem DY {id:Nat} {a:Act} {w:World}:zK Q (.exit id) a w=Q (.exit id) a w:=rfl
theorem zJ {ch:List PanicEntry} {a:Act} {w:World}:zK Q (.panic ch) a w=Q (.panic ch) a w:=rfl
end
end Go.Proofs.YtmjccpfchhnfhaaGreat
