/- Package disk: New. -/
import Derived.Test.YtaeonlafcbgpcaaDoorDisk
import Derived.BigRegion
namespace Go.Proofs.YtaeonlafcbgpcaaDoor
open Go.RowKit

def zsec (n : Nat) : Array Value := (List.replicate (n * 64) (.int .u8 0)).toArray
def Dk.new (n : Nat) : Dk := ⟨List.replicate n (List.replicate 64 0), List.replicate n (List.replicate 64 0), [], -1, false⟩
theorem flat_zero (n : Nat) : flatS (List.replicate n (List.replicate 64 0)) = List.replicate (n * 64) (.int .u8 0) := by
  unfold flatS
  rw [List.flatten_replicate_replicate, List.map_replicate]
  rfl
theorem Dk.new_ok (n : Nat) (h1 : 1 ≤ n) (h2 : n ≤ 512) : (Dk.new n).ok := by
  refine ⟨by simp [Dk.new], by simp [Dk.new, h1], by simp [Dk.new, h2], ?_, ?_, by simp [Dk.new], by simp [Dk.new], by simp [Dk.new], by simp [Dk.new]⟩
  · intro x hx; rw [(List.mem_replicate.1 hx).2]; simp
  · intro x hx; rw [(List.mem_replicate.1 hx).2]; simp

theorem info_sector : (Tryd.prog.info? 93).map (fun i => (i.zero, i.size, i.bytes)) = some (some (.agg (Array.replicate 64 (.int .u8 0))), 64, 64) := by kernel_rfl
theorem made_same (v : Value) (m k : Nat) (hm : 0 < m) : madeCells (Array.replicate m v) k = (List.replicate k v).toArray := by
  apply Array.ext_getElem?
  intro i
  by_cases hi : i < k
  · have h : i % m < m := Nat.mod_lt _ hm
    simp [madeCells, hi, h]
  · simp [madeCells, hi]
theorem make_sectors (w : World) (n : Nat) (z : Int) (hz : z = n) (h2 : n ≤ 512) : (Instr.makeSlice 88 (.int .i64 z) (.int .i64 z)).run Tryd.prog w = .ok (.slice (some ⟨w.heap.size, 0, none⟩) n n) (w.alloc (.cells (zsec n) 93 (0, 0))) := by
  subst hz
  obtain ⟨i0, hi, hz0, hz1, hz2⟩ := info_parts info_sector
  have hr := run_make (P := Tryd.prog) w 88 93 i0 (.agg (Array.replicate 64 (.int .u8 0))) Tryd.underlying88 hi hz0 .i64 .i64 n n (by omega) (Int.le_refl _) (by rw [hz2]; omega) (by omega)
  simp only [Int.toNat_natCast] at hr
  rw [hr, hz1]
  have e : madeCells (Value.agg (Array.replicate 64 (.int .u8 0))).cells (n * 64) = zsec n := made_same _ 64 _ (by decide)
  rw [e]

/-- A new disk in memory. -/
theorem dsk_new {w' : World} (n bd gs gu : Nat) (B : Nat) (h1 : 1 ≤ n) (h2 : n ≤ 512) (hs : w'.heap[gs]? = some (.cells (zsec n) 93 (0, 0))) (hu : w'.heap[gu]? = some (.cells (zsec n) 93 (0, 0))) (hne : gs ≠ gu)
    (ht : w'.heap[bd]? = some (.cells #[.slice (some ⟨gs, 0, none⟩) n n, .slice (some ⟨gu, 0, none⟩) n n, .slice none 0 0, .int .i64 (-1), .bool false] 91 (0, 0))) (b1 : B ≤ gs) (b2 : B ≤ gu) (b3 : B ≤ bd) : Dsk w' bd (fun b => B ≤ b) (Dk.new n) := by
  have own : ∀ g, w'.heap[g]? = some (.cells (zsec n) 93 (0, 0)) → w'.ownsRow 0 93 64 (.slice (some ⟨g, 0, none⟩) n n) (List.replicate n (List.replicate 64 (0 : UInt8))).length (flatS (List.replicate n (List.replicate 64 0))) := by
    intro g hg
    rw [flat_zero, List.length_replicate]
    exact ⟨by simp, .inr ⟨g, n, _, rfl, Nat.zero_le _, hg, Nat.le_refl _, by unfold maxLen; omega, by simp [zsec], by simp [zsec]⟩⟩
  refine ⟨_, _, _, ⟨ht, own gs hs, own gu hu, ⟨rfl, .inl ⟨rfl, rfl⟩⟩, ?_, Dk.new_ok n h1 h2⟩, b3, ?_, ?_, ?_⟩
  · intro b e e'
    simp only [Value.ownBlock, Option.some.injEq] at e e'
    exact hne (e.trans e'.symm)
  · intro b e; simp only [Value.ownBlock, Option.some.injEq] at e; omega
  · intro b e; simp only [Value.ownBlock, Option.some.injEq] at e; omega
  · intro b e; cases e

set_option maxRecDepth 100000 in
theorem new_calls (w : World) (n : Nat) (z : Int) (hz : z = n) (h1 : 1 ≤ n) (h2 : n ≤ 512) :
    Calls Tryd.prog 26 #[.int .i64 z] w fun e w' => (∃ bd, e = .returned (.tuple #[.pointer (some ⟨bd, 0, none⟩), .int .i64 0]) ∧ Dsk w' bd (fun b => w.heap.size ≤ b) (Dk.new n)) ∧ Fr (fun _ _ => True) w w' := by
  have hmk := fun (W : World) => make_sectors W n z hz h2
  have z1 : 1 ≤ z := by omega
  have z2 : z ≤ 512 := by omega
  have HZ := Lib.hid hz
  clear hz
  go_enter Tryd.func26, Tryd.ntmps26
  go_wp2
  go_region
  all_goals go_wp2
  all_goals go_ret2
  · exact ⟨⟨w.heap.size + 1 + 1, rfl, dsk_new n _ w.heap.size (w.heap.size + 1) w.heap.size h1 h2 (heap_alloc_lt (heap_alloc_lt (heap_alloc_new w _) _) _) (heap_alloc_lt (heap_alloc_at (by simp) _) _) (by omega) (heap_alloc_at (by simp) _) (by omega) (by omega) (by omega)⟩, ((((Fr.refl _ _).alloc _).alloc _).alloc _).drew⟩
  · exact ⟨⟨w.heap.size + 1 + 1, rfl, dsk_new n _ (w.heap.size + 1) w.heap.size w.heap.size h1 h2 (heap_alloc_lt (heap_alloc_at (by simp) _) _) (heap_alloc_lt (heap_alloc_lt (heap_alloc_new w _) _) _) (by omega) (heap_alloc_at (by simp) _) (by omega) (by omega) (by omega)⟩, ((((Fr.refl _ _).alloc _).alloc _).alloc _).drew⟩
end Go.Proofs.YtaeonlafcbgpcaaDoor
