/- Texts of the proofs, part 2: what the functions that they reach do, walked; no conditions beyond those that each states. -/
import Derived.WalkKit
set_option linter.unusedVariables false
set_option linter.unusedSimpArgs false
/- A statement list with labels: walked where no goto is met. -/
namespace Go.Proofs.Ytmjccpfchhnfhaa
section
variable {P : Program} {Q : Exit → Act → World → Prop} {a : Act} {w : World}
theorem step_scope {b : Frame} {k : List Item} {cs : List Frame} {c : Code} :
  step P (lone (b.at a (.code (.scope c) :: k)) cs w) = .next (lone (b.at a (.code c :: .inScope c :: k)) cs w) :=
 step_lone_go (by simp [stepG, stepG.exec, Frame.at])
theorem step_inScope {b : Frame} {k : List Item} {cs : List Frame} {c : Code} : step P (lone (b.at a (.inScope c :: k)) cs w) = .next (lone (b.at a k) cs w) :=
 step_lone_go (by simp [stepG, stepG.exec, Frame.at])
def noGoto (Q : Exit → Act → World → Prop) : Exit → Act → World → Prop
 | .goto _, _, _ => False
 | e, a, w => Q e a w
theorem wp_scope {c : Code} (h : c.wp P (noGoto Q) a w) : (Code.scope c).wp P Q a w := by
 intro b k cs
 obtain ⟨e, a₁, w₁, hq, harr⟩ := h b (.inScope c :: k) cs
 cases e with
 | normal => exact ⟨.normal, a₁, w₁, hq, .head step_scope (Steps.trans harr (.one step_inScope))⟩
 | exit id => exact ⟨.exit id, a₁, w₁, hq, fun k' hk => .head step_scope (harr k' (by simp [exitTo, hk]))⟩
 | goto l => exact hq.elim
 | ret => exact ⟨_, a₁, w₁, hq, .of_steps (.one step_scope) harr⟩
 | panic ch => exact ⟨_, a₁, w₁, hq, .of_steps (.one step_scope) harr⟩
 | outgrown => exact ⟨_, a₁, w₁, hq, .of_steps (b := b) (k := k) (cs := cs) (e := .outgrown) (.one step_scope) harr⟩
theorem noGoto_normal {a : Act} {w : World} : noGoto Q .normal a w = Q .normal a w := rfl
theorem noGoto_ret {a : Act} {w : World} : noGoto Q .ret a w = Q .ret a w := rfl
theorem noGoto_exit {id : Nat} {a : Act} {w : World} : noGoto Q (.exit id) a w = Q (.exit id) a w := rfl
theorem noGoto_panic {ch : List PanicEntry} {a : Act} {w : World} : noGoto Q (.panic ch) a w = Q (.panic ch) a w := rfl
end
end Go.Proofs.Ytmjccpfchhnfhaa
