/- Texts of the proofs, part 10: what the functions that they reach do, walked; no conditions beyond those that each states. -/
import Derived.Test.YtcpbmempfeloaaaDoorZz5a21edcbe0
set_option linter.unusedVariables false
set_option linter.unusedSimpArgs false
/- The references: Of; the sum bit by bit. -/
namespace Go.Proofs.YtcpbmempfeloaaaDoor
open Go.RowKit

def zz (x : Nat) : Nat := (x / 2) ^^^ (if x % 2 = 1 then 3988292384 else 0)
theorem mod2_xor (a b : Nat) : (a ^^^ b) % 2 = (a % 2 + b % 2) % 2 := by
  have h := Nat.testBit_xor a b 0
  rw [Nat.testBit_zero, Nat.testBit_zero, Nat.testBit_zero] at h
  rcases Nat.mod_two_eq_zero_or_one a with ha | ha <;> rcases Nat.mod_two_eq_zero_or_one b with hb | hb <;> rcases Nat.mod_two_eq_zero_or_one (a ^^^ b) with hc | hc <;> simp [ha, hb, hc] at h ⊢
theorem div2_xor (a b : Nat) : (a ^^^ b) / 2 = (a / 2) ^^^ (b / 2) := by
  have := Nat.shiftRight_xor_distrib (a := a) (b := b) (i := 1)
  simpa [Nat.shiftRight_succ] using this
theorem xor_swap (a b c d : Nat) : (a ^^^ b) ^^^ (c ^^^ d) = (a ^^^ c) ^^^ (b ^^^ d) := by
  rw [Nat.xor_assoc, ← Nat.xor_assoc b c d, Nat.xor_comm b c, Nat.xor_assoc c b d, ← Nat.xor_assoc a c]
theorem zz_xor (a b : Nat) : zz (a ^^^ b) = zz a ^^^ zz b := by
  unfold zz
  rw [div2_xor, mod2_xor, xor_swap]
  congr 1
  rcases Nat.mod_two_eq_zero_or_one a with ha | ha <;> rcases Nat.mod_two_eq_zero_or_one b with hb | hb <;> simp [ha, hb]
theorem zz_two (m : Nat) : zz (m * 2) = m := by
  unfold zz
  rw [Nat.mul_mod_left, if_neg (by decide), Nat.mul_div_cancel _ (by decide), Nat.xor_zero]
theorem split16 (s : Nat) : s = (s / 16 * 16) ^^^ (s % 16) := by
  apply Nat.eq_of_testBit_eq
  intro i
  rw [Nat.testBit_xor, show (16 : Nat) = 2 ^ 4 from rfl, Nat.testBit_mul_two_pow, Nat.testBit_mod_two_pow, Nat.testBit_div_two_pow]
  by_cases h : i < 4
  · simp [h, Nat.not_le.2 h]
  · have h' : 4 ≤ i := by omega
    simp [h, h']
theorem zz_low : ∀ l, l < 16 → zz (zz (zz (zz l))) = tb l := by decide +kernel
theorem zz4 (s : Nat) : zz (zz (zz (zz s))) = nib s := by
  have h := split16 s
  have h2 : s / 16 * 16 = (s / 16 * 2 * 2 * 2) * 2 := by omega
  rw [h2] at h
  have e : zz (zz (zz (zz s))) = zz (zz (zz (zz (s / 16 * 2 * 2 * 2 * 2 ^^^ s % 16)))) := by rw [← h]
  rw [e, zz_xor, zz_two, zz_xor, zz_two, zz_xor, zz_two, zz_xor, zz_two, zz_low _ (Nat.mod_lt _ (by decide))]
  rfl
/-- The sum of a byte, behind so many bits. -/
def zzN (x : Nat) : Nat → Nat
  | 0 => x
  | k + 1 => zz (zzN x k)
theorem zz8 (s : Nat) (c : UInt8) : zzN (s ^^^ c.toNat) 8 = step8 s c := by
  show zz (zz (zz (zz (zz (zz (zz (zz (s ^^^ c.toNat)))))))) = _
  rw [zz4, zz4]; rfl
/-- What the bits of a byte make of a sum: behind k of them. -/
def bitS (s : Nat) (c : UInt8) (k : Nat) : Nat := zzN (s ^^^ c.toNat) k ^^^ (c.toNat / 2 ^ k)
theorem bitS_zero (s : Nat) (c : UInt8) : bitS s c 0 = s := by
  unfold bitS zzN
  rw [Nat.pow_zero, Nat.div_one, Nat.xor_assoc, Nat.xor_self, Nat.xor_zero]
theorem bitS_eight (s : Nat) (c : UInt8) : bitS s c 8 = step8 s c := by
  unfold bitS
  rw [zz8, Nat.div_eq_of_lt (by have := c.toNat_lt; omega), Nat.xor_zero]
theorem bitS_succ (s : Nat) (c : UInt8) (k : Nat) : bitS s c (k + 1) = (bitS s c k / 2) ^^^ (if (bitS s c k % 2 + (c.toNat / 2 ^ k) % 2) % 2 = 1 then 3988292384 else 0) := by
  unfold bitS
  rw [div2_xor, mod2_xor, zzN, zz, Nat.pow_succ, ← Nat.div_div_eq_div_mul, Nat.xor_assoc, Nat.xor_comm _ (c.toNat / 2 ^ k / 2), ← Nat.xor_assoc]
  congr 1
  have : ((zzN (s ^^^ c.toNat) k % 2 + c.toNat / 2 ^ k % 2) % 2 + c.toNat / 2 ^ k % 2) % 2 = zzN (s ^^^ c.toNat) k % 2 := by omega
  rw [this]
theorem zz_lt {x : Nat} (h : x < 4294967296) : zz x < 4294967296 := xor_u32_lt (by omega) (by split <;> decide)
theorem bitS_lt (s : Nat) (c : UInt8) (hs : s < 4294967296) (k : Nat) : bitS s c k < 4294967296 := by
  have hc := c.toNat_lt
  have h1 : ∀ k, zzN (s ^^^ c.toNat) k < 4294967296 := by
    intro k
    induction k with
    | zero => exact xor_u32_lt hs (by omega)
    | succ k ih => exact zz_lt ih
  exact xor_u32_lt (h1 k) (Nat.lt_of_le_of_lt (Nat.div_le_self _ _) (by omega))

end Go.Proofs.YtcpbmempfeloaaaDoor
