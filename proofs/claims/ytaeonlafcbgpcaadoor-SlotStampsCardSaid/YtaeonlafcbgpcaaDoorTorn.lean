/- Law 5: SlotTorn, walked. -/
import Derived.Test.YtaeonlafcbgpcaaDoorAwake5
import Derived.Test.YtaeonlafcbgpcaaDoorStampLaw
namespace Go.Proofs.YtaeonlafcbgpcaaDoor
open Go.RowKit

/-- An append of bytes to a row of the function's own, at a step of a region that draws its order. -/
theorem step_append_bytes {K0 : Nat → Obj → Prop} {ops : Array Oper} {o : Oper} {a : Act} {K : Act → World → Prop} {Q : Exit → Act → World → Prop} {E : Prop} (W : World) (hgd : o.guard = none) (s x : Operand)
    (ho : o.op = .call { callee := .builtin .append, args := #[s, x], argTypes := #[23, 23] }) (B : Nat) (hB : B ≤ W.heap.size) (v : Value) (n : Nat) (xs : List UInt8) (hs : a.eval s = v) (hown : W.ownsRow B 5 1 v n (xs.map byteV))
    (ad : Addr) (m c : Nat) (bs : List UInt8) (hx : a.eval x = .slice (some ad) m c) (hb : BytesAt K0 W (.slice (some ad) m c) bs) (hn : n + m ≤ 2000000)
    (h : ∀ v' w', w'.ownsRow B 5 1 v' (n + m) ((xs ++ bs).map byteV) → W.grownBy w' v.ownBlock → K (a.put o.dst v') w') :
    if Region.wanted o (yielded ops a.tmps) = true then Oper.wp Tryd.prog o a W K Q else E := by
  have hw : Region.wanted o (yielded ops a.tmps) = true := by simp [Region.wanted, hgd]
  rw [if_pos hw]
  obtain ⟨i0, hi, hz0, hz1, hz2⟩ := info_parts info_u8
  have hl := hb.len
  rcases hb.src with ⟨he, _⟩ | ⟨ad', c', he, h1, h2, h3⟩
  · cases he
  · cases he
    refine wp_append_own W s x 23 ho B 5 i0 (.int .u8 0) 1 1 Tryd.underlying23 hi hz0 hz1 hz2 rfl (by decide) v n (xs.map byteV) hs hown ad bs.length c (bs.map byteV) (by rw [← hl]; exact hx) h1 h2 h3 (by unfold maxLen; omega) (by omega) hB ?_
    intro v' w' h4 h5 _
    rw [← hl] at h4
    exact h v' w' (by rw [List.map_append]; exact h4) h5

/-- The early way out. -/
def tornOut (s m : Nat) (one two : List UInt8) (cut : Int) : Prop := 43 < one.length ∨ 43 < two.length ∨ cut < 0 ∨ 64 < cut ∨ s = m ∨ s = 0 ∨ m = 0

set_option maxRecDepth 100000 in
set_option maxHeartbeats 2000000 in
theorem torn_out {K1 K2 : Nat → Obj → Prop} (w : World) (s m : Nat) (a1 a2 : Option Addr) (l1 l2 c1 c2 : Nat) (one two : List UInt8) (cut : Int) (h1 : BytesAt K1 w (.slice a1 l1 c1) one) (h2 : BytesAt K2 w (.slice a2 l2 c2) two) (ht : TabOK w) (hs : s < 4294967296) (hm : m < 4294967296) (ho : tornOut s m one two cut) :
    Calls Tryd.prog 4 #[.int .u32 (s : Nat), .int .u32 (m : Nat), .slice a1 l1 c1, .slice a2 l2 c2, .int .i64 cut] w fun e w' => e = .returned (.bool true) ∧ Fr (fun _ _ => True) w w' := by
  have e1 := h1.len
  have e2 := h2.len
  have HT := Lib.hid ht
  have H1 := Lib.hid h1
  have H2 := Lib.hid h2
  have L1 := Lib.hid e1
  have L2 := Lib.hid e2
  have HO := Lib.hid ho
  clear h1 h2 ht e1 e2 ho
  go_enter Tryd.func4, Tryd.ntmps4
  go_wp2_with fail
  (with_reducible refine (awake_calls _ HT.out).mono ?_)
  rintro e w1 ⟨rfl, f1⟩
  have F1 := Lib.hid f1
  clear f1
  go_wp2_with fail
  (with_reducible refine (stamp_any _ s _ _ (by rfl) (by rfl) _ one (H1.out.tt F1.out) (HT.out.tt F1.out) hs).mono ?_)
  rintro e w2 ⟨hx, f2⟩
  have F2 := Lib.hid (F1.out.tt f2)
  clear f2
  rcases hx with ⟨hb1, rfl⟩ | ⟨hb1, a4, c4, rfl, b4⟩
  · have q1 : (43 : Int) < l1 := by have := L1.out; omega
    clear HO hb1
    go_wp2_with fail
    (with_reducible refine (stamp_any _ m _ _ (by rfl) (by rfl) _ two (H2.out.tt F2.out) (HT.out.tt F2.out) hm).mono ?_)
    rintro e w3 ⟨hx, f3⟩
    rcases hx with ⟨hb2, rfl⟩ | ⟨hb2, a5, c5, rfl, b5⟩
    · have F3 := Lib.hid (F2.out.tt f3)
      clear f3 hb2
      go_wp2
      go_ret
      exact ⟨rfl, F3.out⟩
    · have F3 := Lib.hid (F2.out.tt f3)
      clear f3 hb2 b5
      go_wp2
      go_ret
      exact ⟨rfl, F3.out⟩
  · have q1 : (l1 : Int) ≤ 43 := by have := L1.out; omega
    clear b4
    go_wp2_with fail
    (with_reducible refine (stamp_any _ m _ _ (by rfl) (by rfl) _ two (H2.out.tt F2.out) (HT.out.tt F2.out) hm).mono ?_)
    rintro e w3 ⟨hx, f3⟩
    rcases hx with ⟨hb2, rfl⟩ | ⟨hb2, a5, c5, rfl, b5⟩
    · have q2 : (43 : Int) < l2 := by have := L2.out; omega
      have F3 := Lib.hid (F2.out.tt f3)
      clear f3 hb2 HO
      go_wp2
      go_ret
      exact ⟨rfl, F3.out⟩
    · have q2 : (l2 : Int) ≤ 43 := by have := L2.out; omega
      have F3 := Lib.hid (F2.out.tt f3)
      clear f3 b5
      have hO : cut < 0 ∨ 64 < cut ∨ (0 ≤ cut ∧ cut ≤ 64 ∧ ((s : Int) == m) = true) ∨ (0 ≤ cut ∧ cut ≤ 64 ∧ ((s : Int) == m) = false ∧ ((s : Int) == 0) = true) ∨ (0 ≤ cut ∧ cut ≤ 64 ∧ ((s : Int) == m) = false ∧ ((s : Int) == 0) = false ∧ ((m : Int) == 0) = true) := by
        have := HO.out
        unfold tornOut at this
        simp only [beq_iff_eq, beq_eq_false_iff_ne]
        omega
      clear HO hb1 hb2
      rcases hO with h | h | ⟨ha, hb, h⟩ | ⟨ha, hb, hc, h⟩ | ⟨ha, hb, hc, hd, h⟩
      all_goals
        go_wp2
        go_ret
        exact ⟨rfl, F3.out⟩
end Go.Proofs.YtaeonlafcbgpcaaDoor
