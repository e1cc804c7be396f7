/- Texts of the proofs, part 11: what the functions that they reach do, walked; no conditions beyond those that each states. -/
import Derived.BigRegion
import Derived.Test.YtcpbmempfeloaaaDoorZze992a95962
set_option linter.unusedVariables false
set_option linter.unusedSimpArgs false
/- Package disk: New. -/
namespace Go.Proofs.YtcpbmempfeloaaaDoor
open Go.RowKit

def zsec (n : Nat) : Array Value := (List.replicate (n * 64) (.int .u8 0)).toArray
def Dk.new (n : Nat) : Dk := ⟨List.replicate n (List.replicate 64 0), List.replicate n (List.replicate 64 0), [], -1, false⟩
theorem flat_zero (n : Nat) : flatS (List.replicate n (List.replicate 64 0)) = List.replicate (n * 64) (.int .u8 0) := by
  unfold flatS
  rw [List.flatten_replicate_replicate, List.map_replicate]
  rfl
theorem Dk.new_ok (n : Nat) (h1 : 1 ≤ n) (h2 : n ≤ 512) : (Dk.new n).ok := by
  refine ⟨by simp [Dk.new], by simp [Dk.new, h1], by simp [Dk.new, h2], ?_, ?_, by simp [Dk.new], by simp [Dk.new], by simp [Dk.new], by simp [Dk.new]⟩
  · intro x hx; rw [(List.mem_replicate.1 hx).2]; simp
  · intro x hx; rw [(List.mem_replicate.1 hx).2]; simp

theorem info_sector : (Tryd.prog.info? 105).map (fun i => (i.zero, i.size, i.bytes)) = some (some (.agg (Array.replicate 64 (.int .u8 0))), 64, 64) := by kernel_rfl
theorem made_same (v : Value) (m k : Nat) (hm : 0 < m) : madeCells (Array.replicate m v) k = (List.replicate k v).toArray := by
  apply Array.ext_getElem?
  intro i
  by_cases hi : i < k
  · have h : i % m < m := Nat.mod_lt _ hm
    simp [madeCells, hi, h]
  · simp [madeCells, hi]
theorem make_sectors (w : World) (n : Nat) (z : Int) (hz : z = n) (h2 : n ≤ 512) : (Instr.makeSlice 100 (.int .i64 z) (.int .i64 z)).run Tryd.prog w = .ok (.slice (some ⟨w.heap.size, 0, none⟩) n n) (w.alloc (.cells (zsec n) 105 (0, 0))) := by
  subst hz
  obtain ⟨i0, hi, hz0, hz1, hz2⟩ := info_parts info_sector
  have hr := run_make (P := Tryd.prog) w 100 105 i0 (.agg (Array.replicate 64 (.int .u8 0))) Tryd.underlying100 hi hz0 .i64 .i64 n n (by omega) (Int.le_refl _) (by rw [hz2]; omega) (by omega)
  simp only [Int.toNat_natCast] at hr
  rw [hr, hz1]
  have e : madeCells (Value.agg (Array.replicate 64 (.int .u8 0))).cells (n * 64) = zsec n := made_same _ 64 _ (by decide)
  rw [e]

/-- A new disk in memory. -/
theorem dsk_new {w' : World} (n bd gs gu : Nat) (B : Nat) (h1 : 1 ≤ n) (h2 : n ≤ 512) (hs : w'.heap[gs]? = some (.cells (zsec n) 105 (0, 0))) (hu : w'.heap[gu]? = some (.cells (zsec n) 105 (0, 0))) (hne : gs ≠ gu)
    (ht : w'.heap[bd]? = some (.cells #[.slice (some ⟨gs, 0, none⟩) n n, .slice (some ⟨gu, 0, none⟩) n n, .slice none 0 0, .int .i64 (-1), .bool false] 103 (0, 0))) (b1 : B ≤ gs) (b2 : B ≤ gu) (b3 : B ≤ bd) : Dsk w' bd (fun b => B ≤ b) (Dk.new n) := by
  have own : ∀ g, w'.heap[g]? = some (.cells (zsec n) 105 (0, 0)) → w'.ownsRow 0 105 64 (.slice (some ⟨g, 0, none⟩) n n) (List.replicate n (List.replicate 64 (0 : UInt8))).length (flatS (List.replicate n (List.replicate 64 0))) := by
    intro g hg
    rw [flat_zero, List.length_replicate]
    exact ⟨by simp, .inr ⟨g, n, _, rfl, Nat.zero_le _, hg, Nat.le_refl _, by unfold maxLen; omega, by simp [zsec], by simp [zsec]⟩⟩
  refine ⟨_, _, _, ⟨ht, own gs hs, own gu hu, ⟨rfl, .inl ⟨rfl, rfl⟩⟩, ?_, Dk.new_ok n h1 h2⟩, b3, ?_, ?_, ?_⟩
  · intro b e e'
    simp only [Value.ownBlock, Option.some.injEq] at e e'
    exact hne (e.trans e'.symm)
  · intro b e; simp only [Value.ownBlock, Option.some.injEq] at e; omega
  · intro b e; simp only [Value.ownBlock, Option.some.injEq] at e; omega
  · intro b e; cases e

set_option maxRecDepth 100000 in
theorem new_calls (w : World) (n : Nat) (z : Int) (hz : z = n) (h1 : 1 ≤ n) (h2 : n ≤ 512) :
    Calls Tryd.prog 22 #[.int .i64 z] w fun e w' => (∃ bd, e = .returned (.tuple #[.pointer (some ⟨bd, 0, none⟩), .int .i64 0]) ∧ Dsk w' bd (fun b => w.heap.size ≤ b) (Dk.new n)) ∧ Fr (fun _ _ => True) w w' := by
  have hmk := fun (W : World) => make_sectors W n z hz h2
  have z1 : 1 ≤ z := by omega
  have z2 : z ≤ 512 := by omega
  have HZ := Lib.hid hz
  clear hz
  go_enter Tryd.func22, Tryd.ntmps22
  go_wp2
  go_region
  all_goals go_wp2
  all_goals go_ret2
  · exact ⟨⟨w.heap.size + 1 + 1, rfl, dsk_new n _ w.heap.size (w.heap.size + 1) w.heap.size h1 h2 (heap_alloc_lt (heap_alloc_lt (heap_alloc_new w _) _) _) (heap_alloc_lt (heap_alloc_at (by simp) _) _) (by omega) (heap_alloc_at (by simp) _) (by omega) (by omega) (by omega)⟩, ((((Fr.refl _ _).alloc _).alloc _).alloc _).drew⟩
  · exact ⟨⟨w.heap.size + 1 + 1, rfl, dsk_new n _ (w.heap.size + 1) w.heap.size w.heap.size h1 h2 (heap_alloc_lt (heap_alloc_at (by simp) _) _) (heap_alloc_lt (heap_alloc_lt (heap_alloc_new w _) _) _) (by omega) (heap_alloc_at (by simp) _) (by omega) (by omega) (by omega)⟩, ((((Fr.refl _ _).alloc _).alloc _).alloc _).drew⟩
end Go.Proofs.YtcpbmempfeloaaaDoor
/- Package disk: Read. -/
namespace Go.Proofs.YtcpbmempfeloaaaDoor
open Go.RowKit

theorem flatS_eq (l : List (List UInt8)) : flatS l = (l.map (·.map byteV)).flatten := by
  unfold flatS; rw [List.map_flatten]
theorem mem64 {l : List (List UInt8)} (h : ∀ x ∈ l, x.length = 64) : ∀ x ∈ l.map (·.map byteV), x.length = 64 := by
  intro x hx
  obtain ⟨y, hy, rfl⟩ := List.mem_map.1 hx
  rw [List.length_map]; exact h y hy
/-- A disk's row: where it lies. -/
theorem row_form {w : World} {e : TypeId} {v : Value} {l : List (List UInt8)} (h : w.ownsRow 0 e 64 v l.length (flatS l)) (h1 : 0 < l.length) : ∃ g cap, v = .slice (some ⟨g, 0, none⟩) l.length cap ∧ l.length ≤ cap ∧ g < w.heap.size := by
  rcases h.2 with ⟨_, h0⟩ | ⟨g, cap, cur, hv, hb, hg, hc, _⟩
  · omega
  · exact ⟨g, cap, hv, hc, lt_of_some hg⟩
theorem sec_range {w : World} {e : TypeId} {g cap : Nat} {l : List (List UInt8)} (h : w.ownsRow 0 e 64 (.slice (some ⟨g, 0, none⟩) l.length cap) l.length (flatS l)) (hl : ∀ x ∈ l, x.length = 64) (i : Nat) (hi : i < l.length) : w.rangeAt g (i * 64) (l[i].map byteV) := by
  rw [flatS_eq] at h
  have := row_range h (mem64 hl) i (by simpa using hi) (by decide)
  simpa using this
theorem sec_set {w : World} {e : TypeId} {g cap : Nat} {l : List (List UInt8)} (h : w.ownsRow 0 e 64 (.slice (some ⟨g, 0, none⟩) l.length cap) l.length (flatS l)) (hl : ∀ x ∈ l, x.length = 64) (i : Nat) (hi : i < l.length) (x : List UInt8) (hx : x.length = 64) :
    (w.setCells g (i * 64) (x.map byteV)).ownsRow 0 e 64 (.slice (some ⟨g, 0, none⟩) l.length cap) l.length (flatS (l.set i x)) := by
  rw [flatS_eq] at h ⊢
  have := row_set h (mem64 hl) i (by simpa using hi) (by decide) (x.map byteV) (by rw [List.length_map]; exact hx)
  rwa [List.map_set]
theorem BytesAt.of_range {w : World} {g o : Nat} {bs : List UInt8} (h : w.rangeAt g o (bs.map byteV)) (hn : bs.length = 64) : BytesAt (fun _ _ => True) w (.slice (some ⟨g, o, none⟩) 64 64) bs := by
  have hc : ∀ i, (hi : i < bs.length) → w.cell? ⟨g, o + i, none⟩ = some (byteV bs[i]) := fun i hi => h i _ (by rw [List.getElem?_map, List.getElem?_eq_getElem hi]; rfl)
  have hl : g < w.heap.size := cell_lt (hc 0 (by omega))
  exact ⟨_, 64, by rw [hn], by omega, (fun e => by cases e), .inr ⟨g, o, w.heap[g], rfl, Array.getElem?_eq_getElem hl, trivial, hc⟩⟩

set_option maxRecDepth 100000 in
theorem read_out (w : World) (bd : Nat) (F : Nat → Prop) (D : Dk) (i : Int) (h : Dsk w bd F D) (hi : ¬ (0 ≤ i ∧ i < D.sure.length)) :
    Calls Tryd.prog 102 #[.pointer (some ⟨bd, 0, none⟩), .int .i64 i] w fun e w' => e = .returned (.tuple #[.slice none 0 0, .int .i64 40]) ∧ w = w' := by
  have hc := has_calls w bd F D i h
  rw [show decide (0 ≤ i ∧ i < (D.sure.length : Int)) = false from by simpa using hi] at hc
  have HC := Lib.hid hc
  clear hc h hi
  go_enter Tryd.func102, Tryd.ntmps102
  go_wp2_with fail
  (with_reducible refine HC.out.mono ?_)
  rintro e w1 ⟨rfl, rfl⟩
  go_wp2
  go_ret2
  exact ⟨rfl, rfl⟩

set_option maxRecDepth 100000 in
theorem read_in (w : World) (bd : Nat) (F : Nat → Prop) (D : Dk) (k : Nat) (i : Int) (hz : i = k) (h : Dsk w bd F D) (hi : k < D.seen.length) :
    Calls Tryd.prog 102 #[.pointer (some ⟨bd, 0, none⟩), .int .i64 i] w fun e w' => (∃ a cap, e = .returned (.tuple #[.slice a 64 cap, .int .i64 0]) ∧ BytesAt (New w.heap.size) w' (.slice a 64 cap) D.seen[k]) ∧ Fr (fun _ _ => True) w w' := by
  subst hz
  have hc := has_calls w bd F D k h
  have hwf := h.wf
  rw [show decide (0 ≤ (k : Int) ∧ (k : Int) < (D.sure.length : Int)) = true from by have := hwf.len; simp; omega] at hc
  have HC := Lib.hid hc
  obtain ⟨vs, vu, vp, h, _⟩ := h
  obtain ⟨g, cap, rfl, hcap, hgl⟩ := row_form h.seen (by omega)
  have c0 := cell_mk (i := 0) h.top rfl
  have hr := sec_range h.seen hwf.s64 k hi
  have h64 : D.seen[k].length = 64 := hwf.s64 _ (List.getElem_mem hi)
  have hb := BytesAt.of_range hr h64
  have hcl := clone_calls w _ _ hb (by omega)
  rw [h64] at hcl
  have HCL := Lib.hid hcl
  have hlen : (D.seen.length : Int) ≤ 512 := by have := hwf.max; have := hwf.len; omega
  clear hcl hb hr h hc h64 hwf
  go_enter Tryd.func102, Tryd.ntmps102
  go_wp2_with fail
  (with_reducible refine HC.out.mono ?_)
  rintro e w1 ⟨rfl, rfl⟩
  go_wp2_with fail
  (with_reducible refine HCL.out.mono ?_)
  rintro e w2 ⟨a, c, rfl, b2, f2⟩
  have B2 := Lib.hid b2
  have F2 := Lib.hid f2
  clear b2 f2
  go_wp2
  go_ret2
  exact ⟨⟨_, _, rfl, B2.out⟩, F2.out⟩
end Go.Proofs.YtcpbmempfeloaaaDoor
