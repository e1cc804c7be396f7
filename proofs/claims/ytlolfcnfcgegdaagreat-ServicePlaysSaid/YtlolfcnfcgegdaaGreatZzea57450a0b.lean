/- Texts of the proofs, part 5: what the functions that they reach do, walked; no conditions beyond those that each states. -/
import Derived.Deep.RegionHeld3
import Derived.Test.YtlolfcnfcgegdaaGreatZz58de66472a
set_option linter.unusedVariables false
set_option linter.unusedSimpArgs false
/- Package locks: the small functions; where a client stands. -/
namespace Go.Proofs.YtlolfcnfcgegdaaGreat
open Go.RowKit
set_option linter.unusedVariables false
set_option linter.unusedSimpArgs false

theorem node_yes (w : World) (c : Nat) (h : c < 16) : Calls Tryz.prog 111 #[.int .i64 (c : Nat)] w fun e w' => e = .returned (.bool true) ∧ w = w' := by
  have h1 : (c : Int) < 16 := by omega
  go_enter Tryz.func111, Tryz.ntmps111
  go_wp2
  go_ret
  exact ⟨rfl, rfl⟩
theorem node_no (w : World) (c : Nat) (h : ¬ c < 16) : Calls Tryz.prog 111 #[.int .i64 (c : Nat)] w fun e w' => e = .returned (.bool false) ∧ w = w' := by
  have h1 : decide ((c : Int) < 16) = false := by simp; omega
  go_enter Tryz.func111, Tryz.ntmps111
  go_wp2
  go_ret
  exact ⟨rfl, rfl⟩
theorem there_yes (w : World) (c : Nat) (h : c < 4) : Calls Tryz.prog 91 #[.int .i64 (c : Nat)] w fun e w' => e = .returned (.bool true) ∧ w = w' := by
  have h1 : (c : Int) < 4 := by omega
  go_enter Tryz.func91, Tryz.ntmps91
  go_wp2
  go_ret
  exact ⟨rfl, rfl⟩
theorem there_no (w : World) (c : Nat) (h : ¬ c < 4) : Calls Tryz.prog 91 #[.int .i64 (c : Nat)] w fun e w' => e = .returned (.bool false) ∧ w = w' := by
  have h1 : decide ((c : Int) < 4) = false := by simp; omega
  go_enter Tryz.func91, Tryz.ntmps91
  go_wp2
  go_ret
  exact ⟨rfl, rfl⟩
theorem mode_yes (w : World) (m : Nat) (h : m = 1 ∨ m = 2) : Calls Tryz.prog 112 #[.int .i64 (m : Nat)] w fun e w' => e = .returned (.bool true) ∧ w = w' := by
  rcases h with rfl | rfl
  · go_enter Tryz.func112, Tryz.ntmps112
    go_wp2
    go_ret
    exact ⟨rfl, rfl⟩
  · go_enter Tryz.func112, Tryz.ntmps112
    go_wp2
    go_ret
    exact ⟨rfl, rfl⟩
theorem mode_no (w : World) (m : Nat) (h : ¬ (m = 1 ∨ m = 2)) : Calls Tryz.prog 112 #[.int .i64 (m : Nat)] w fun e w' => e = .returned (.bool false) ∧ w = w' := by
  have h1 : ((m : Int) == 1) = false := by simp; omega
  have h2 : ((m : Int) == 2) = false := by simp; omega
  go_enter Tryz.func112, Tryz.ntmps112
  go_wp2
  go_ret
  exact ⟨rfl, rfl⟩
theorem right_calls (w : World) (c r : Nat) : Calls Tryz.prog 96 #[.int .i64 (c : Nat), .int .i64 (r : Nat)] w fun e w' => e = .returned (.int .i64 (rightM c r : Nat)) ∧ w = w' := by
  by_cases hc : c < 16
  · have N := Lib.hid (node_yes w c hc)
    by_cases hr : r < 4
    · have T := Lib.hid (there_yes w r hr)
      have E : Hid (rightM c r = 0) := by show _ = _; unfold rightM; rw [if_neg (by omega), if_neg (by omega)]
      clear hc hr
      go_enter Tryz.func96, Tryz.ntmps96
      go_wp2_with fail
      (with_reducible refine N.out.mono ?_)
      rintro e w1 ⟨rfl, rfl⟩
      go_wp2_with fail
      (with_reducible refine T.out.mono ?_)
      rintro e w1 ⟨rfl, rfl⟩
      go_wp2
      go_ret
      exact ⟨by rw [E.out]; rfl, rfl⟩
    · have T := Lib.hid (there_no w r hr)
      have E : Hid (rightM c r = 93) := by show _ = _; unfold rightM; rw [if_neg (by omega), if_pos (by omega)]
      clear hc hr
      go_enter Tryz.func96, Tryz.ntmps96
      go_wp2_with fail
      (with_reducible refine N.out.mono ?_)
      rintro e w1 ⟨rfl, rfl⟩
      go_wp2_with fail
      (with_reducible refine T.out.mono ?_)
      rintro e w1 ⟨rfl, rfl⟩
      go_wp2
      go_ret
      exact ⟨by rw [E.out]; rfl, rfl⟩
  · have N := Lib.hid (node_no w c hc)
    have E : Hid (rightM c r = 31) := by show _ = _; unfold rightM; rw [if_pos (by omega)]
    clear hc
    go_enter Tryz.func96, Tryz.ntmps96
    go_wp2_with fail
    (with_reducible refine N.out.mono ?_)
    rintro e w1 ⟨rfl, rfl⟩
    go_wp2
    go_ret
    exact ⟨by rw [E.out]; rfl, rfl⟩
def vH (h : Ho) : Value := .agg #[.int .i64 (h.c : Nat), .int .i64 (h.m : Nat), .int .u64 (h.t : Nat), .int .u64 (h.u : Nat)]
def vW (h : Wa) : Value := .agg #[.int .i64 (h.c : Nat), .int .i64 (h.m : Nat)]
theorem holder_calls (w : World) (h : Ho) : Calls Tryz.prog 116 #[vH h] w fun e w' => e = .returned (.int .i64 (h.c : Nat)) ∧ Fr (fun _ _ => True) w w' := by
  unfold vH
  go_enter Tryz.func116, Tryz.ntmps116
  go_wp2
  go_ret
  exact ⟨rfl, (Fr.refl _ _).alloc _⟩
theorem waiter_calls (w : World) (h : Wa) : Calls Tryz.prog 118 #[vW h] w fun e w' => e = .returned (.int .i64 (h.c : Nat)) ∧ Fr (fun _ _ => True) w w' := by
  unfold vW
  go_enter Tryz.func118, Tryz.ntmps118
  go_wp2
  go_ret
  exact ⟨rfl, (Fr.refl _ _).alloc _⟩
theorem until_calls (w : World) (bt now : Nat) (hc : w.cell? ⟨bt, 0, none⟩ = some (.int .u64 (now : Nat))) (hn : now ≤ topM) : Calls Tryz.prog 90 #[.pointer (some ⟨bt, 0, none⟩)] w fun e w' => e = .returned (.int .u64 (untilM now : Nat)) ∧ w = w' := by
  have hn' : now ≤ 18446744073709551615 := by rw [topM_eq] at hn; exact hn
  by_cases h : 18446744073709551605 < now
  · have h1 : (18446744073709551605 : Int) < now := by omega
    have E : Hid (untilM now = 18446744073709551615) := by show _ = _; unfold untilM; rw [topM_eq, if_pos (by omega)]
    clear hn hn' h
    go_enter Tryz.func90, Tryz.ntmps90
    go_wp2
    go_ret
    exact ⟨by rw [E.out]; rfl, rfl⟩
  · have h1 : decide ((18446744073709551605 : Int) < now) = false := by simp; omega
    have E : Hid (untilM now = now + 10) := by show _ = _; unfold untilM; rw [topM_eq, if_neg (by omega)]
    have hw : IntKind.u64.wrap ((now : Int) + 10) = (now : Int) + 10 := by rw [IntKind.wrap_u64]; omega
    clear hn hn' h
    go_enter Tryz.func90, Tryz.ntmps90
    go_wp2
    go_ret
    exact ⟨by rw [E.out]; rfl, rfl⟩
end Go.Proofs.YtlolfcnfcgegdaaGreat
