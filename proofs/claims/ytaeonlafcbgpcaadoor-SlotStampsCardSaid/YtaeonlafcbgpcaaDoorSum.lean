/- Package check: the sum of bytes. -/
import Derived.Test.YtaeonlafcbgpcaaDoorBytes
namespace Go.Proofs.YtaeonlafcbgpcaaDoor
open Go.RowKit

def tbl : List Nat := [0, 498536548, 997073096, 651767980, 1994146192, 1802195444, 1303535960, 1342533948, 3988292384, 4027552580, 3604390888, 3412177804, 2607071920, 2262029012, 2685067896, 3183342108]
def tb (i : Nat) : Nat := tbl.getD i 0
/-- The table stands in block 0. -/
def TabOK (w : World) : Prop := ∀ i, i < 16 → w.cell? ⟨0, i, none⟩ = some (.int .u32 (tb i : Nat))

def nib (s : Nat) : Nat := (s / 16) ^^^ tb (s % 16)
def step8 (s : Nat) (c : UInt8) : Nat := nib (nib (s ^^^ c.toNat))
def crc (l : List UInt8) : Nat := l.foldl step8 4294967295
def sumOf (l : List UInt8) : Nat := 4294967295 - crc l

theorem xor_u32_lt {a b : Nat} (ha : a < 4294967296) (hb : b < 4294967296) : a ^^^ b < 4294967296 := Nat.xor_lt_two_pow (n := 32) ha hb
theorem tb_lt (i : Nat) (h : i < 16) : tb i < 4294967296 := by
  have : ∀ j, j < 16 → tb j < 4294967296 := by decide
  exact this i h
theorem nib_lt {s : Nat} (h : s < 4294967296) : nib s < 4294967296 := xor_u32_lt (by omega) (tb_lt _ (by omega))
theorem step8_lt {s : Nat} (h : s < 4294967296) (c : UInt8) : step8 s c < 4294967296 := nib_lt (nib_lt (xor_u32_lt h (by have := UInt8.toNat_lt c; omega)))
theorem crc_lt : ∀ l : List UInt8, crc l < 4294967296 := by
  intro l
  unfold crc
  have : ∀ (l : List UInt8) (s : Nat), s < 4294967296 → l.foldl step8 s < 4294967296 := by
    intro l
    induction l with
    | nil => intro s h; exact h
    | cons c r ih => intro s h; exact ih _ (step8_lt h c)
  exact this l _ (by decide)

theorem and15 (x : Nat) : x &&& 15 = x % 16 := Nat.and_two_pow_sub_one_eq_mod x 4
/-- One half byte, in the walk's spelling. -/
theorem nib_facts (w : World) (ht : TabOK w) (x : Nat) (hx : x < 4294967296) : ∃ i t y : Nat, bits .and .u32 (x : Int) 15 = (i : Int) ∧ (i : Int) < 16 ∧ w.cell? ⟨0, i, none⟩ = some (.int .u32 (t : Int)) ∧ bits .xor .u32 ((x : Int) / 16) (t : Int) = (y : Int) ∧ y < 4294967296 ∧ Hid (y = nib x) := by
  refine ⟨x % 16, tb (x % 16), nib x, ?_, by omega, ht _ (by omega), ?_, nib_lt hx, rfl⟩
  · have := u32_and_nat x 15 hx (by decide)
    rw [and15] at this
    exact this
  · have := u32_xor_nat (x / 16) (tb (x % 16)) (by omega) (tb_lt _ (by omega))
    exact this
theorem xor_facts (s : Nat) (c : UInt8) (hs : s < 4294967296) : ∃ x : Nat, bits .xor .u32 (s : Int) ((c.toNat : Int) % 4294967296) = (x : Int) ∧ x < 4294967296 ∧ Hid (x = s ^^^ c.toNat) := by
  have hc := UInt8.toNat_lt c
  refine ⟨s ^^^ c.toNat, ?_, xor_u32_lt hs (by omega), rfl⟩
  rw [show ((c.toNat : Int) % 4294967296) = ((c.toNat : Nat) : Int) from by omega]
  exact u32_xor_nat s c.toNat hs (by omega)

theorem xor_all (s : Nat) (hs : s < 4294967296) : 4294967295 ^^^ s = 4294967295 - s := by
  have h : (BitVec.allOnes 32 ^^^ BitVec.ofNat 32 s).toNat = (~~~(BitVec.ofNat 32 s)).toNat := by rw [BitVec.allOnes_xor]
  rw [BitVec.toNat_xor, BitVec.toNat_not, BitVec.toNat_allOnes, BitVec.toNat_ofNat, Nat.mod_eq_of_lt hs] at h
  exact h
theorem not_u32 (s : Nat) (hs : s < 4294967296) : bits .xor .u32 IntKind.u32.max (s : Int) = ((4294967295 - s : Nat) : Int) := by
  have := u32_xor_nat 4294967295 s (by decide) hs
  rw [xor_all s hs] at this
  exact this

set_option maxRecDepth 100000 in
set_option maxHeartbeats 1000000 in
theorem sum_calls {K : Nat → Obj → Prop} (w : World) (v : Value) (bs : List UInt8) (ht : TabOK w) (h : BytesAt K w v bs) (hm : bs.length ≤ 140737488355328) :
    Calls Tryd.prog 41 #[v] w fun e w' => e = .returned (.int .u32 (sumOf bs : Nat)) ∧ w = w' := by
  obtain ⟨a, cap, rfl⟩ := h.form
  have HB := Lib.hid h
  have HT := Lib.hid ht
  clear h ht
  generalize hn : bs.length = n at hm
  have HN := Lib.hid hn
  clear hn
  go_enter Tryd.func41, Tryd.ntmps41
  go_wp2
  go_loop [3, 8] (fun s i => ∃ k : Nat, k ≤ n ∧ i = .int .i64 k ∧ s = .int .u32 (crc (bs.take k) : Nat)) (fun _ i => n - (intOf i).toNat)
  case atStart => exact ⟨0, Nat.zero_le _, rfl, rfl⟩
  case round =>
    obtain ⟨k, hk, rfl, rfl⟩ := hrel
    have hlt0 := crc_lt (bs.take k)
    by_cases hlt : k < n
    · have hkl : k < bs.length := by have := HN.out; omega
      have hb' : BytesAt K w (.slice a n cap) bs := by have := HB.out; rwa [HN.out] at this
      obtain ⟨b, off, rfl⟩ := hb'.addr (by omega)
      have g := hb'.cell hkl
      unfold byteV at g
      clear hb'
      have hst : Hid (crc (bs.take (k + 1)) = step8 (crc (bs.take k)) bs[k]) := by
        rw [List.take_succ_eq_append_getElem hkl, crc, List.foldl_append]; rfl
      generalize crc (bs.take k) = s at hst hlt0
      generalize hc : bs[k] = c at g hst
      have HC := Lib.hid hc
      clear hc
      obtain ⟨x0, e0, l0, X0⟩ := xor_facts s c hlt0
      obtain ⟨i1, t1, x1, a1, b1, c1, d1, l1, X1⟩ := nib_facts w HT.out x0 l0
      obtain ⟨i2, t2, x2, a2, b2, c2, d2, l2, X2⟩ := nib_facts w HT.out x1 l1
      have hfin : Hid (x2 = step8 s c) := by unfold step8; rw [← X0.out, ← X1.out]; exact X2.out
      go_wp2
      go_round
      case rel => exact ⟨k + 1, by omega, by go_num, by rw [hst.out, ← hfin.out]⟩
      case measure => simp [intOf]; omega
    · have hk' : k = n := by omega
      have e2 : Hid (crc (bs.take k) = crc bs) := by rw [List.take_of_length_le (by have := HN.out; omega)]; rfl
      generalize crc (bs.take k) = s at e2 hlt0
      go_wp2
      go_ret
      refine ⟨?_, rfl⟩
      rw [sumOf, ← e2.out, ← not_u32 s hlt0]
      rfl
end Go.Proofs.YtaeonlafcbgpcaaDoor
