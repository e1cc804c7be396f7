/- Texts of the proofs, part 19: what the functions that they reach do, walked; no conditions beyond those that each states. -/
import Derived.Deep.RegionHeld3
import Derived.Test.YtcpbmempfeloaaaDoorZz2f6b89e21b
set_option linter.unusedVariables false
set_option linter.unusedSimpArgs false
/- Package disk: Copy. -/
namespace Go.Proofs.YtcpbmempfeloaaaDoor
open Go.RowKit

theorem own_base {w : World} {B B' : Nat} {e : TypeId} {size : Nat} {v : Value} {n : Nat} {xs : List Value} (h : w.ownsRow B e size v n xs) (hb : B' ≤ B) : w.ownsRow B' e size v n xs := by
  obtain ⟨a, b⟩ := h
  refine ⟨a, ?_⟩
  rcases b with h | ⟨g, cap, cur, h1, h2, h3⟩
  · exact .inl h
  · exact .inr ⟨g, cap, cur, h1, Nat.le_trans hb h2, h3⟩
theorem own_le {w : World} {B : Nat} {e : TypeId} {size : Nat} {v : Value} {n : Nat} {xs : List Value} (h : w.ownsRow B e size v n xs) {c : Nat} (hc : v.ownBlock = some c) : B ≤ c := by
  rcases h.2 with ⟨rfl, _⟩ | ⟨g, cap, cur, rfl, hb, _⟩
  · cases hc
  · cases hc; exact hb

end Go.Proofs.YtcpbmempfeloaaaDoor
