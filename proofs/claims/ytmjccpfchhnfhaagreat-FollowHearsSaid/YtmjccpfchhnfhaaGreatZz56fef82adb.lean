/- Texts of the proofs, part 14: what the functions that they reach do, walked; no conditions beyond those that each states. -/
import Derived.ArgAppend
import Derived.Test.YtmjccpfchhnfhaaGreatZz464efab125
set_option linter.unusedVariables false
set_option linter.unusedSimpArgs false
/- The document's logs: Hint. -/
namespace Go.Proofs.YtmjccpfchhnfhaaGreat
open Go.RowKit
set_option linter.unusedVariables false
set_option linter.unusedSimpArgs false
def bkD (l : Lg) (own P k : Nat) : Nat := l.down own (min (k - 1) (P - 1))
theorem bkD_zero (l : Lg) (own P : Nat) : bkD l own P 0 = l.base := by unfold bkD; rw [show min (0 - 1) (P - 1) = 0 by omega]; rfl
theorem bkD_up {l : Lg} {own P k : Nat} (hk : k < P) (h : (l.term (l.base + k)).1 ≠ own) : bkD l own P (k + 1) = l.base + k := by
 unfold bkD
 rw [show min (k + 1 - 1) (P - 1) = k by omega]
 cases k with
 | zero => rfl
 | succ k => unfold Lg.down; rw [if_neg h]
theorem bkD_same {l : Lg} {own P k : Nat} (hk : k < P) (h : (l.term (l.base + k)).1 = own) : bkD l own P (k + 1) = bkD l own P k := by
 unfold bkD
 cases k with
 | zero => rfl
 | succ k =>
  rw [show min (k + 1 + 1 - 1) (P - 1) = k + 1 by omega, show min (k + 1 - 1) (P - 1) = k by omega]
  conv => lhs; unfold Lg.down
  rw [if_pos h]
theorem bkD_past {l : Lg} {own P k : Nat} (hk : ¬ k < P) : bkD l own P (k + 1) = bkD l own P k := by
 unfold bkD
 rw [show min (k + 1 - 1) (P - 1) = min (k - 1) (P - 1) by omega]
theorem bkD_end {l : Lg} {own P n : Nat} (hP : 1 ≤ P) (hn : P ≤ n) (h : (l.term (l.base + P)).1 = own) : bkD l own P (n + 1) = l.down own P := by
 unfold bkD
 obtain ⟨q, rfl⟩ : ∃ q, P = q + 1 := ⟨P - 1, by omega⟩
 rw [show min (n + 1 - 1) (q + 1 - 1) = q by omega]
 conv => rhs; unfold Lg.down
 rw [if_pos h]
set_option maxRecDepth 100000 in
set_option maxHeartbeats 2000000 in
theorem dhint_calls {K : Nat → Obj → Prop} (w : World) (b bt p : Nat) (a : Option Addr) (n c : Nat) (xs : List EV) (hx : RowsAt K w (.slice a n c) 3 encE xs) (h : b + n < 18446744073709551616) (hn : n ≤ 2000000) :
    Calls Tryz.prog 57 #[vL9 b bt (.slice a n c), .int .u64 (p : Nat)] w fun e w' => e = .returned (.int .u64 ((lgE b bt xs).hint p : Nat)) ∧ Fr (fun _ _ => True) w w' := by
  have hnl := hx.len'
  obtain ⟨W1, hW1, F1, X1, CC⟩ := lbox9 w b bt (.slice a n c)
  obtain ⟨x0, x1, x2⟩ := CC.out W1 (Fr.refl _ _)
  have LC := Lib.hid (dlst_calls W1 b bt a n c h)
  have TC := Lib.hid (fun W (f : Fr (fun _ _ => True) W1 W) i => dterm_calls W b bt i a n c xs ((hx.tt F1.out).tt f) h hn)
  unfold Lg.hint
  rw [lgE_last, ← hnl]
  show Calls _ _ _ _ fun e w' => e = .returned (.int .u64 ((if min p (b + n) ≤ b then b else (lgE b bt xs).down ((lgE b bt xs).term (min p (b + n))).1 (min p (b + n) - b) : Nat) : Int)) ∧ _
  have hbase : (lgE b bt xs).base = b := rfl
  generalize lgE b bt xs = LG at TC hbase ⊢
  have HB := Lib.hid hbase
  obtain ⟨l, hl⟩ : ∃ l, b + n = l := ⟨_, rfl⟩
  rw [hl] at LC ⊢
  obtain ⟨m, hm⟩ : ∃ m, min p l = m := ⟨_, rfl⟩
  rw [hm]
  unfold vL9 at LC TC ⊢
  clear hx hbase hnl
  by_cases hmb : m ≤ b
  · rw [if_pos hmb]
    by_cases hc : p ≤ l
    all_goals
      first
        | (have g1 : (p : Int) ≤ (l : Int) := by omega
           have g2 : (p : Int) ≤ (b : Int) := by omega)
        | (have g1 : ¬ (p : Int) ≤ (l : Int) := by omega
           have g2 : (l : Int) ≤ (b : Int) := by omega)
      clear hc hmb hl hm h
      go_enter Tryz.func57, Tryz.ntmps57
      go_wp2_with fail
      try rw [hW1]
      (with_reducible refine LC.out.mono ?_)
      rintro e w2 ⟨rfl, f2⟩
      have F2 := Lib.hid (F1.out.trans f2)
      obtain ⟨y0, y1, y2⟩ := CC.out w2 f2
      clear f2 LC x0 x1 x2
      go_wp2
      go_ret
      exact ⟨rfl, F2.out⟩
  · rw [if_neg hmb]
    obtain ⟨own, hown⟩ : ∃ o, (LG.term m).1 = o := ⟨_, rfl⟩
    obtain ⟨ok, hok⟩ : ∃ o, (LG.term m).2 = o := ⟨_, rfl⟩
    rw [hown]
    obtain ⟨P, hP⟩ : ∃ P, m - b = P := ⟨_, rfl⟩
    rw [hP]
    have HE : Hid (bkD LG own P (n + 1) = LG.down own P) := bkD_end (by omega) (by omega) (by rw [HB.out, show b + P = m by omega]; exact hown)
    rw [← HE.out]
    have HMP : Hid (m = b + P ∧ P ≤ n ∧ 1 ≤ P) := ⟨by omega, by omega, by omega⟩
    have TM := Lib.hid (fun W f => TC.out W f m)
    rw [hown, hok] at TM
    have hn64 : b + n < 18446744073709551616 := h
    have gmb : ¬ (m : Int) ≤ (b : Int) := by omega
    by_cases hc : p ≤ l
    all_goals
      first
        | (have g1 : (p : Int) ≤ (l : Int) := by omega
           obtain rfl : m = p := by omega)
        | (have g1 : ¬ (p : Int) ≤ (l : Int) := by omega
           obtain rfl : m = l := by omega)
      clear hc hmb hl hm h hown hok hP
      go_enter Tryz.func57, Tryz.ntmps57
      go_wp2_with fail
      try rw [hW1]
      (with_reducible refine LC.out.mono ?_)
      rintro e w2 ⟨rfl, f2⟩
      have F2 := Lib.hid f2
      obtain ⟨y0, y1, y2⟩ := CC.out w2 f2
      have TM2 := Lib.hid (TM.out w2 f2)
      clear f2 LC TM x0 x1 x2
      go_wp2_with fail
      (with_reducible refine TM2.out.mono ?_)
      rintro e w3 ⟨rfl, f3⟩
      have F3 := Lib.hid (F2.out.trans f3)
      obtain ⟨x0, x1, x2⟩ := CC.out w3 F3.out
      clear f3 TM2 y0 y1 y2
      go_wp2
      clear x0 x1 x2
      go_loopw [8, 9] (fun o j wr => ∃ (k : Nat), j = .int .i64 (k : Nat) ∧ k ≤ n + 1 ∧ o = .int .u64 (bkD LG own P k : Nat) ∧ Hid (Fr (fun _ _ => True) W1 wr)) (fun _ j _ => n + 1 - (intOf j).toNat)
      case atStart => exact ⟨0, rfl, Nat.zero_le _, by rw [bkD_zero, HB.out], F3.out⟩
      case round =>
        obtain ⟨k, rfl, hk, rfl, HF⟩ := hrel
        obtain ⟨x0, x1, x2⟩ := CC.out wr HF.out
        by_cases hlt : k ≤ n
        · have hltI : (k : Int) ≤ (n : Int) := by omega
          have w2' : IntKind.u64.wrap (k : Int) = (k : Int) := by rw [IntKind.wrap_u64]; omega
          obtain ⟨i, hi⟩ : ∃ i, b + k = i := ⟨_, rfl⟩
          have w3' : IntKind.u64.wrap ((b : Int) + (k : Int)) = (i : Int) := by rw [IntKind.wrap_u64]; omega
          have TD := Lib.hid (TC.out wr HF.out i)
          obtain ⟨T, hT⟩ : ∃ T, LG.term i = T := ⟨_, rfl⟩
          rw [hT] at TD
          obtain ⟨T1, T2⟩ := T
          dsimp only at TD
          have UP : Hid (k < P → T1 ≠ own → bkD LG own P (k + 1) = i) := fun h1 h2 => by rw [bkD_up h1 (by rw [HB.out, hi, hT]; exact h2), HB.out]; exact hi
          have SM : Hid (k < P → T1 = own → bkD LG own P (k + 1) = bkD LG own P k) := fun h1 h2 => bkD_same h1 (by rw [HB.out, hi, hT]; exact h2)
          have HI : Hid (b + k = i) := hi
          obtain ⟨B0, hB0⟩ : ∃ B0, bkD LG own P k = B0 := ⟨_, rfl⟩
          have PA : Hid (¬ k < P → bkD LG own P (k + 1) = B0) := fun h1 => by rw [bkD_past h1]; exact hB0
          rw [hB0] at SM ⊢
          clear hT hi hB0
          go_wp2_with fail
          (with_reducible refine TD.out.mono ?_)
          rintro e w5 ⟨rfl, f5⟩
          have F5 := Lib.hid (HF.out.trans f5)
          clear f5 TD TC
          by_cases hkP : k < P
          · have g2 : decide (i < m) = true := by have := HI.out; have := HMP.out.1; simp; omega
            by_cases ho : T1 = own
            · have g3 : ((T1 : Int) != (own : Int)) = false := by simp; omega
              have E := Lib.hid (SM.out hkP ho)
              clear UP SM PA hkP ho x0 x1 x2
              go_wp2
              go_roundw
              case rel => exact ⟨k + 1, by go_num, by omega, by rw [E.out], F5.out⟩
              case measure => simp [intOf]; omega
            · have g3 : ((T1 : Int) != (own : Int)) = true := by simp; omega
              have E := Lib.hid (UP.out hkP ho)
              clear UP SM PA hkP ho x0 x1 x2
              go_wp2
              go_roundw
              case rel => exact ⟨k + 1, by go_num, by omega, by rw [E.out], F5.out⟩
              case measure => simp [intOf]; omega
          · have g2 : decide (i < m) = false := by have := HI.out; have := HMP.out.1; simp; omega
            have E := Lib.hid (PA.out hkP)
            clear UP SM PA hkP x0 x1 x2
            go_wp2
            go_roundw
            case rel => exact ⟨k + 1, by go_num, by omega, by rw [E.out], F5.out⟩
            case measure => simp [intOf]; omega
        · have hge : ¬ (k : Int) ≤ (n : Int) := by omega
          obtain rfl : k = n + 1 := by omega
          obtain ⟨B0, hB0⟩ : ∃ B0, bkD LG own P (n + 1) = B0 := ⟨_, rfl⟩
          have HB0 := Lib.hid hB0
          rw [hB0]
          clear hB0 HE
          go_wp2
          go_ret
          exact ⟨by rw [HB0.out]; rfl, F1.out.trans HF.out⟩
end Go.Proofs.YtmjccpfchhnfhaaGreat
