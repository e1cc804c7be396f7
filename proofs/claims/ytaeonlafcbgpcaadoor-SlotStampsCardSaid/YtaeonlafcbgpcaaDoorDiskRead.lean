/- Package disk: Read. -/
import Derived.Test.YtaeonlafcbgpcaaDoorDiskNew
import Derived.Test.YtaeonlafcbgpcaaDoorChunk
namespace Go.Proofs.YtaeonlafcbgpcaaDoor
open Go.RowKit

theorem flatS_eq (l : List (List UInt8)) : flatS l = (l.map (·.map byteV)).flatten := by
  unfold flatS; rw [List.map_flatten]
theorem mem64 {l : List (List UInt8)} (h : ∀ x ∈ l, x.length = 64) : ∀ x ∈ l.map (·.map byteV), x.length = 64 := by
  intro x hx
  obtain ⟨y, hy, rfl⟩ := List.mem_map.1 hx
  rw [List.length_map]; exact h y hy
/-- A disk's row: where it lies. -/
theorem row_form {w : World} {e : TypeId} {v : Value} {l : List (List UInt8)} (h : w.ownsRow 0 e 64 v l.length (flatS l)) (h1 : 0 < l.length) : ∃ g cap, v = .slice (some ⟨g, 0, none⟩) l.length cap ∧ l.length ≤ cap ∧ g < w.heap.size := by
  rcases h.2 with ⟨_, h0⟩ | ⟨g, cap, cur, hv, hb, hg, hc, _⟩
  · omega
  · exact ⟨g, cap, hv, hc, lt_of_some hg⟩
theorem sec_range {w : World} {e : TypeId} {g cap : Nat} {l : List (List UInt8)} (h : w.ownsRow 0 e 64 (.slice (some ⟨g, 0, none⟩) l.length cap) l.length (flatS l)) (hl : ∀ x ∈ l, x.length = 64) (i : Nat) (hi : i < l.length) : w.rangeAt g (i * 64) (l[i].map byteV) := by
  rw [flatS_eq] at h
  have := row_range h (mem64 hl) i (by simpa using hi) (by decide)
  simpa using this
theorem sec_set {w : World} {e : TypeId} {g cap : Nat} {l : List (List UInt8)} (h : w.ownsRow 0 e 64 (.slice (some ⟨g, 0, none⟩) l.length cap) l.length (flatS l)) (hl : ∀ x ∈ l, x.length = 64) (i : Nat) (hi : i < l.length) (x : List UInt8) (hx : x.length = 64) :
    (w.setCells g (i * 64) (x.map byteV)).ownsRow 0 e 64 (.slice (some ⟨g, 0, none⟩) l.length cap) l.length (flatS (l.set i x)) := by
  rw [flatS_eq] at h ⊢
  have := row_set h (mem64 hl) i (by simpa using hi) (by decide) (x.map byteV) (by rw [List.length_map]; exact hx)
  rwa [List.map_set]
theorem BytesAt.of_range {w : World} {g o : Nat} {bs : List UInt8} (h : w.rangeAt g o (bs.map byteV)) (hn : bs.length = 64) : BytesAt (fun _ _ => True) w (.slice (some ⟨g, o, none⟩) 64 64) bs := by
  have hc : ∀ i, (hi : i < bs.length) → w.cell? ⟨g, o + i, none⟩ = some (byteV bs[i]) := fun i hi => h i _ (by rw [List.getElem?_map, List.getElem?_eq_getElem hi]; rfl)
  have hl : g < w.heap.size := cell_lt (hc 0 (by omega))
  exact ⟨_, 64, by rw [hn], by omega, (fun e => by cases e), .inr ⟨g, o, w.heap[g], rfl, Array.getElem?_eq_getElem hl, trivial, hc⟩⟩

set_option maxRecDepth 100000 in
theorem read_out (w : World) (bd : Nat) (F : Nat → Prop) (D : Dk) (i : Int) (h : Dsk w bd F D) (hi : ¬ (0 ≤ i ∧ i < D.sure.length)) :
    Calls Tryd.prog 59 #[.pointer (some ⟨bd, 0, none⟩), .int .i64 i] w fun e w' => e = .returned (.tuple #[.slice none 0 0, .int .i64 40]) ∧ w = w' := by
  have hc := has_calls w bd F D i h
  rw [show decide (0 ≤ i ∧ i < (D.sure.length : Int)) = false from by simpa using hi] at hc
  have HC := Lib.hid hc
  clear hc h hi
  go_enter Tryd.func59, Tryd.ntmps59
  go_wp2_with fail
  (with_reducible refine HC.out.mono ?_)
  rintro e w1 ⟨rfl, rfl⟩
  go_wp2
  go_ret2
  exact ⟨rfl, rfl⟩

set_option maxRecDepth 100000 in
theorem read_in (w : World) (bd : Nat) (F : Nat → Prop) (D : Dk) (k : Nat) (i : Int) (hz : i = k) (h : Dsk w bd F D) (hi : k < D.seen.length) :
    Calls Tryd.prog 59 #[.pointer (some ⟨bd, 0, none⟩), .int .i64 i] w fun e w' => (∃ a cap, e = .returned (.tuple #[.slice a 64 cap, .int .i64 0]) ∧ BytesAt (New w.heap.size) w' (.slice a 64 cap) D.seen[k]) ∧ Fr (fun _ _ => True) w w' := by
  subst hz
  have hc := has_calls w bd F D k h
  have hwf := h.wf
  rw [show decide (0 ≤ (k : Int) ∧ (k : Int) < (D.sure.length : Int)) = true from by have := hwf.len; simp; omega] at hc
  have HC := Lib.hid hc
  obtain ⟨vs, vu, vp, h, _⟩ := h
  obtain ⟨g, cap, rfl, hcap, hgl⟩ := row_form h.seen (by omega)
  have c0 := cell_mk (i := 0) h.top rfl
  have hr := sec_range h.seen hwf.s64 k hi
  have h64 : D.seen[k].length = 64 := hwf.s64 _ (List.getElem_mem hi)
  have hb := BytesAt.of_range hr h64
  have hcl := clone_calls w _ _ hb (by omega)
  rw [h64] at hcl
  have HCL := Lib.hid hcl
  have hlen : (D.seen.length : Int) ≤ 512 := by have := hwf.max; have := hwf.len; omega
  clear hcl hb hr h hc h64 hwf
  go_enter Tryd.func59, Tryd.ntmps59
  go_wp2_with fail
  (with_reducible refine HC.out.mono ?_)
  rintro e w1 ⟨rfl, rfl⟩
  go_wp2_with fail
  (with_reducible refine HCL.out.mono ?_)
  rintro e w2 ⟨a, c, rfl, b2, f2⟩
  have B2 := Lib.hid b2
  have F2 := Lib.hid f2
  clear b2 f2
  go_wp2
  go_ret2
  exact ⟨⟨_, _, rfl, B2.out⟩, F2.out⟩
end Go.Proofs.YtaeonlafcbgpcaaDoor
