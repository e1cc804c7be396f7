/- Package disk: Write, whole. -/
import Derived.Test.YtaeonlafcbgpcaaDoorDiskWrite
namespace Go.Proofs.YtaeonlafcbgpcaaDoor
open Go.RowKit

def Dk.write (D : Dk) (i : Int) (b : List UInt8) : Int × Dk :=
  if ¬ (0 ≤ i ∧ i < D.sure.length) then (40, D) else if 64 < b.length then (2, D) else if D.burn.down then (43, D.burn) else (0, D.put i.toNat (pad b))

theorem Dsk.wide {w : World} {bd : Nat} {F : Nat → Prop} {D : Dk} (h : Dsk w bd F D) (n : Nat) : Dsk w bd (fun c => F c ∨ n ≤ c) D := h.mono fun _ h => .inl h

set_option maxRecDepth 100000 in
theorem write_out (w : World) (bd : Nat) (F : Nat → Prop) (D : Dk) (i : Int) (a : Option Addr) (len cap : Nat) (h : Dsk w bd F D) (hi : ¬ (0 ≤ i ∧ i < D.sure.length)) :
    Calls Tryd.prog 51 #[.pointer (some ⟨bd, 0, none⟩), .int .i64 i, .slice a len cap] w fun e w' => e = .returned (.int .i64 40) ∧ w = w' := by
  have hc := has_calls w bd F D i h
  rw [show decide (0 ≤ i ∧ i < (D.sure.length : Int)) = false from by simpa using hi] at hc
  have HC := Lib.hid hc
  clear hc h hi
  go_enter Tryd.func51, Tryd.ntmps51
  go_wp2_with fail
  (with_reducible refine HC.out.mono ?_)
  rintro e w1 ⟨rfl, rfl⟩
  go_wp2
  go_ret
  exact ⟨rfl, rfl⟩

set_option maxRecDepth 100000 in
theorem write_long (w : World) (bd : Nat) (F : Nat → Prop) (D : Dk) (i : Int) (a : Option Addr) (len cap : Nat) (h : Dsk w bd F D) (hi : 0 ≤ i ∧ i < D.sure.length) (hl : 64 < len) :
    Calls Tryd.prog 51 #[.pointer (some ⟨bd, 0, none⟩), .int .i64 i, .slice a len cap] w fun e w' => e = .returned (.int .i64 2) ∧ w = w' := by
  have hc := has_calls w bd F D i h
  rw [show decide (0 ≤ i ∧ i < (D.sure.length : Int)) = true from by simpa using hi] at hc
  have HC := Lib.hid hc
  have hl' : (64 : Int) < len := by omega
  clear hc h hi
  go_enter Tryd.func51, Tryd.ntmps51
  go_wp2_with fail
  (with_reducible refine HC.out.mono ?_)
  rintro e w1 ⟨rfl, rfl⟩
  go_wp2
  go_ret
  exact ⟨rfl, rfl⟩

set_option maxRecDepth 100000 in
theorem write_down (w : World) (bd : Nat) (F : Nat → Prop) (D : Dk) (i : Int) (a : Option Addr) (len cap : Nat) (h : Dsk w bd F D) (hi : 0 ≤ i ∧ i < D.sure.length) (hl : len ≤ 64) (hd : D.burn.down = true) :
    Calls Tryd.prog 51 #[.pointer (some ⟨bd, 0, none⟩), .int .i64 i, .slice a len cap] w fun e w' => e = .returned (.int .i64 43) ∧ Dsk w' bd F D.burn ∧ Fr (fun c _ => c ≠ bd) w w' := by
  have hc := has_calls w bd F D i h
  rw [show decide (0 ≤ i ∧ i < (D.sure.length : Int)) = true from by simpa using hi] at hc
  have HC := Lib.hid hc
  have hl' : (len : Int) ≤ 64 := by omega
  have hdn := done_disk w bd F D h
  rw [hd] at hdn
  have HD := Lib.hid hdn
  clear hc h hi hdn
  go_enter Tryd.func51, Tryd.ntmps51
  go_wp2_with fail
  (with_reducible refine HC.out.mono ?_)
  rintro e w1 ⟨rfl, rfl⟩
  go_wp2_with fail
  (with_reducible refine HD.out.mono ?_)
  rintro e w1 ⟨rfl, d1, f1⟩
  have D1 := Lib.hid d1
  have F1 := Lib.hid f1
  clear d1 f1
  go_wp2
  go_ret
  exact ⟨rfl, D1.out, F1.out⟩

/-- disk.Write. -/
theorem write_calls {K : Nat → Obj → Prop} (w : World) (bd : Nat) (F : Nat → Prop) (D : Dk) (i : Int) (v : Value) (b : List UInt8) (h : Dsk w bd F D) (hb : BytesAt K w v b) (hK : ∀ c o, w.heap[c]? = some o → K c o → ¬ F c) (hq : D.pend.length < 1000000) :
    Calls Tryd.prog 51 #[.pointer (some ⟨bd, 0, none⟩), .int .i64 i, v] w fun e w' => e = .returned (.int .i64 (D.write i b).1) ∧ Dsk w' bd (fun c => F c ∨ w.heap.size ≤ c) (D.write i b).2 ∧ Fr (fun c _ => ¬ F c) w w' := by
  obtain ⟨a, cap, rfl⟩ := hb.form
  have hFb : F bd := by obtain ⟨_, _, _, _, h1, _⟩ := h; exact h1
  unfold Dk.write
  by_cases hi : 0 ≤ i ∧ i < D.sure.length
  · rw [if_neg (by simpa using hi)]
    by_cases hl : 64 < b.length
    · rw [if_pos hl]
      exact (write_long w bd F D i a b.length cap h hi hl).mono fun e w' ⟨he, hw⟩ => ⟨he, hw ▸ h.wide _, hw ▸ Fr.refl _ _⟩
    · rw [if_neg hl]
      cases hd : D.burn.down with
      | true =>
        exact (write_down w bd F D i a b.length cap h hi (by omega) hd).mono fun e w' ⟨he, hd, hf⟩ => ⟨he, hd.wide _, hf.mono fun c _ hc e => hc (e ▸ hFb)⟩
      | false =>
        obtain ⟨k, rfl⟩ := Int.eq_ofNat_of_zero_le hi.1
        have hk : k < D.seen.length := by have := h.wf.len; omega
        have := write_main w bd F D k a b.length cap b h hk hb (fun c o hc hk e => hK c o hc hk (e ▸ hFb)) (by omega) hd hq
        simpa using this
  · rw [if_pos hi]
    exact (write_out w bd F D i a b.length cap h hi).mono fun e w' ⟨he, hw⟩ => ⟨he, hw ▸ h.wide _, hw ▸ Fr.refl _ _⟩

end Go.Proofs.YtaeonlafcbgpcaaDoor
