/- The references: the sum, walked. -/
import Derived.Test.YtaeonlafcbgpcaaDoorRef02
import Derived.Laws.BitsAllLaws
namespace Go.Proofs.YtaeonlafcbgpcaaDoor
open Go.RowKit
set_option linter.unusedVariables false

theorem and1 (x : Nat) : x &&& 1 = x % 2 := Nat.and_two_pow_sub_one_eq_mod x 1
theorem low_xor : ∀ t z : Nat, t < 2 → z < 2 → t ^^^ z = (t + z) % 2 := by
  intro t z ht hz
  have h1 : t = 0 ∨ t = 1 := by omega
  have h2 : z = 0 ∨ z = 1 := by omega
  rcases h1 with rfl | rfl <;> rcases h2 with rfl | rfl <;> rfl
/-- One bit, in the walk's spelling. -/
theorem bit_facts (x : Nat) (c : UInt8) (q : Nat) (hx : x < 4294967296) : ∃ y z t l : Nat, ((c.toNat : Int) / 2 ^ q = (y : Int)) ∧ bits .and .u8 (y : Int) 1 = (z : Int) ∧ z < 2 ∧ bits .and .u32 (x : Int) 1 = (t : Int) ∧ t < 2 ∧ bits .xor .u32 (t : Int) (z : Int) = (l : Int) ∧ Hid (l = (x % 2 + (c.toNat / 2 ^ q) % 2) % 2) := by
  have hc := c.toNat_lt
  have hy : c.toNat / 2 ^ q < 256 := Nat.lt_of_le_of_lt (Nat.div_le_self _ _) (by omega)
  have h1 : x % 2 < 2 := Nat.mod_lt _ (by decide)
  have h2 : c.toNat / 2 ^ q % 2 < 2 := Nat.mod_lt _ (by decide)
  refine ⟨c.toNat / 2 ^ q, c.toNat / 2 ^ q % 2, x % 2, (x % 2 + (c.toNat / 2 ^ q) % 2) % 2, by simp, ?_, h2, ?_, h1, ?_, rfl⟩
  · rw [← and1]; exact u8_and_nat _ 1 hy (by decide)
  · rw [← and1]; exact u32_and_nat _ 1 hx (by decide)
  · rw [← low_xor _ _ h1 h2]; exact u32_xor_nat _ _ (by omega) (by omega)
theorem poly_facts (x : Nat) (hx : x < 4294967296) : ∃ y : Nat, bits .xor .u32 ((x : Int) / 2) 3988292384 = (y : Int) ∧ Hid (y = (x / 2) ^^^ 3988292384) :=
  ⟨_, by have := u32_xor_nat (x / 2) 3988292384 (by omega) (by decide); exact this, rfl⟩

set_option maxRecDepth 100000 in
set_option maxHeartbeats 1000000 in
theorem sum02_calls {K : Nat → Obj → Prop} (w : World) (v : Value) (bs : List UInt8) (h : BytesAt K w v bs) (hm : bs.length ≤ 140737488355328) :
    Calls Tryd.prog 43 #[v] w fun e w' => e = .returned (.int .u32 (sumOf bs : Nat)) ∧ w = w' := by
  obtain ⟨a, cap, rfl⟩ := h.form
  have HB := Lib.hid h
  clear h
  generalize hn : bs.length = n at hm
  have HN := Lib.hid hn
  clear hn
  go_enter Tryd.func43, Tryd.ntmps43
  go_wp2
  go_loop [3, 4] (fun s i => ∃ k : Nat, k ≤ n ∧ i = .int .i64 k ∧ s = .int .u32 (crc (bs.take k) : Nat)) (fun _ i => n - (intOf i).toNat)
  case atStart => exact ⟨0, Nat.zero_le _, rfl, rfl⟩
  case round =>
    obtain ⟨k, hk, rfl, rfl⟩ := hrel
    have hlt0 := crc_lt (bs.take k)
    by_cases hlt : k < n
    · have hkl : k < bs.length := by have := HN.out; omega
      have hb' : BytesAt K w (.slice a n cap) bs := by have := HB.out; rwa [HN.out] at this
      obtain ⟨b, off, rfl⟩ := hb'.addr (by omega)
      have g := hb'.cell hkl
      unfold byteV at g
      clear hb'
      have hst : Hid (crc (bs.take (k + 1)) = step8 (crc (bs.take k)) bs[k]) := by
        rw [List.take_succ_eq_append_getElem hkl, crc, List.foldl_append]; rfl
      generalize crc (bs.take k) = s at hst hlt0
      generalize bs[k] = c at g hst
      go_wp2
      go_loop [3, 5] (fun x j => ∃ q : Nat, q ≤ 8 ∧ j = .int .i64 q ∧ x = .int .u32 (bitS s c q : Nat)) (fun _ j => 8 - (intOf j).toNat)
      case atStart => exact ⟨0, Nat.zero_le _, rfl, by rw [bitS_zero]⟩
      case round =>
        obtain ⟨q, hq, rfl, rfl⟩ := hrel
        have hl := bitS_lt s c hlt0 q
        have HS := Lib.hid (bitS_succ s c q)
        by_cases hq8 : q < 8
        · generalize bitS s c q = x at hl HS
          obtain ⟨y, z, t, l, e1, e2, hz, e3, ht, e4, HL⟩ := bit_facts x c q hl
          obtain ⟨p, e5, HP⟩ := poly_facts x hl
          have e6 : (z : Int) % 4294967296 = z := by omega
          by_cases h1 : l = 1
          · subst h1
            go_wp2
            go_round
            case rel => exact ⟨q + 1, by omega, by go_num, by rw [HS.out, if_pos HL.out.symm, ← HP.out]⟩
            case measure => simp [intOf]; omega
          · have e7 : ((l : Int) == 1) = false := by simp; omega
            go_wp2
            go_round
            case rel => exact ⟨q + 1, by omega, by go_num, by rw [HS.out, if_neg (fun e => h1 (HL.out.trans e)), Nat.xor_zero]; go_num⟩
            case measure => simp [intOf]; omega
        · obtain rfl : q = 8 := by omega
          have H8 := Lib.hid (bitS_eight s c)
          generalize bitS s c 8 = x at hl HS H8
          go_wp2
          go_round
          case rel => exact ⟨k + 1, by omega, by go_num, by rw [hst.out, ← H8.out]⟩
          case measure => simp [intOf]; omega
    · have hk' : k = n := by omega
      have e2 : Hid (crc (bs.take k) = crc bs) := by rw [List.take_of_length_le (by have := HN.out; omega)]; rfl
      generalize crc (bs.take k) = s at e2 hlt0
      go_wp2
      go_ret
      refine ⟨?_, rfl⟩
      rw [sumOf, ← e2.out]
      go_num
end Go.Proofs.YtaeonlafcbgpcaaDoor
