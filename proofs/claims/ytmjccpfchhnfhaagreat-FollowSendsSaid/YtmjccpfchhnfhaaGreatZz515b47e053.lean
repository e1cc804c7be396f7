/- Texts of the proofs, part 16: what the functions that they reach do, walked; no conditions beyond those that each states. -/
import Derived.Test.YtmjccpfchhnfhaaGreatZzb914901a82
set_option linter.unusedVariables false
set_option linter.unusedSimpArgs false
/- The document's logs: Append (printed by dappend.py). -/
namespace Go.Proofs.YtmjccpfchhnfhaaGreat
open Go.RowKit
set_option linter.unusedVariables false
set_option linter.unusedSimpArgs false
theorem EsAt.of_own [Old] {X : Nat → Prop} {w : World} {B : Nat} {g : Option Addr} {m c : Nat} {xs : List EV} (h : w.ownsRow B 85 3 (.slice g m c) xs.length (xs.flatMap encE)) (hX : ∀ c, X c → c < B) (hd : ∀ x ∈ xs, BytesAt (RO X) w (.slice x.a x.d.length x.c) x.d ∧ x.d.length ≤ 9223372036854775807) : EsAt X w (.slice g m c) xs :=
 ⟨(rows_own h encE_len).mono fun c o _ q => ⟨fun hc => by have := hX c hc; have := q.1; omega, by obtain ⟨cs, e⟩ := q.2; exact .inr ⟨cs, _, _, e, by decide⟩⟩, (fun n' c' e => by
  rcases h.2 with ⟨e1, e2⟩ | ⟨g', cap, cur, e1, _⟩
  ·rw [Value.slice.injEq] at e e1
   omega
  ·rw [Value.slice.injEq] at e e1
   rw [e.1] at e1
   cases e1.1), hd⟩
end Go.Proofs.YtmjccpfchhnfhaaGreat
