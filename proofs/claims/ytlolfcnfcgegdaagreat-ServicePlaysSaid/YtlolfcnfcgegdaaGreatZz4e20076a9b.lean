/- Texts of the proofs, part 25: what the functions that they reach do, walked; no conditions beyond those that each states. -/
import Derived.Shelf.Slices.In.SortNone
import Derived.Sort.OwnSortedInts
import Derived.Test.YtlolfcnfcgegdaaGreatZz5501101ea0
set_option linter.unusedVariables false
set_option linter.unusedSimpArgs false
/- slices.Sort of a row of ints of one's own. -/
namespace Go.Proofs.YtlolfcnfcgegdaaGreat
open Go.RowKit
set_option linter.unusedVariables false
set_option linter.unusedSimpArgs false

def srt (l : List Int) : List Int := l.mergeSort fun x y => decide (x ≤ y)
theorem srt_perm (l : List Int) : (srt l).Perm l := List.mergeSort_perm _ _
theorem srt_len (l : List Int) : (srt l).length = l.length := (srt_perm l).length_eq
theorem srt_nil : srt [] = [] := by simp [srt]
theorem srt_sorted (l : List Int) : (srt l).Pairwise (· ≤ ·) := by
  have := List.pairwise_mergeSort (le := fun (x y : Int) => decide (x ≤ y)) (fun a b c h1 h2 => by simp at *; omega) (fun a b => by simp; omega) l
  exact this.imp fun h => by simpa using h
theorem sorted_perm : ∀ {a b : List Int}, a.Pairwise (· ≤ ·) → b.Pairwise (· ≤ ·) → a.Perm b → a = b
  | [], b, _, _, h => by rw [List.nil_perm] at h; exact h.symm
  | x :: a, b, ha, hb, h => by
    cases b with
    | nil => exact absurd h (by simp)
    | cons y b =>
      have h1 := List.pairwise_cons.1 ha
      have h2 := List.pairwise_cons.1 hb
      have e : x = y := by
        have m1 : x ∈ y :: b := h.mem_iff.1 (by simp)
        have m2 : y ∈ x :: a := h.mem_iff.2 (by simp)
        rcases List.mem_cons.1 m1 with e | m1
        · exact e
        · rcases List.mem_cons.1 m2 with e | m2
          · exact e.symm
          · have := h1.1 y m2; have := h2.1 x m1; omega
      subst e
      rw [sorted_perm h1.2 h2.2 ((List.perm_cons x).1 h)]
theorem srt_congr {a b : List Int} (h : a.Perm b) : srt a = srt b := sorted_perm (srt_sorted a) (srt_sorted b) ((srt_perm a).trans (h.trans (srt_perm b).symm))
theorem sorti_calls (w : World) (B : Nat) (v : Value) (zs : List Int) (h : RowI w B v zs) (hm : zs.length ≤ 2000000) :
    Calls Tryz.prog 82 #[v] w fun e w' => e = .returned (.tuple #[]) ∧ RowI w' B v (srt zs) ∧ w.grownBy w' v.ownBlock := by
  rcases h.2 with ⟨rfl, h0⟩ | ⟨g, cap, cur, rfl, hg, hh, hn, hc, hs, ht⟩
  · have e := List.length_eq_zero_iff.1 h0
    subst e
    exact (Any.slices_Sort_int_none Tryz.lays189 none 0 w).mono fun e w' ⟨he, hw⟩ => ⟨he, hw ▸ srt_nil.symm ▸ RowI.nil _ _, hw ▸ ⟨rfl, rfl, rfl, Nat.le_refl _, fun _ _ _ => rfl⟩⟩
  · rw [Nat.mul_one] at ht
    have ht' : cur.toList.take zs.length = zs.map (Value.int .i64) := ht
    have hH := holds_of_blockI hh ht'
    refine (Any.slices_Sort_int Tryz.lays189 g 0 cap zs w hH (lt_of_some hh) (by omega)).mono fun e w' ⟨he, n, os, hw⟩ => ⟨he, ?_, hw ▸ grownBy_sortedI _⟩
    rw [hw]
    have := ownsRow_sortedI (n := n) (os := os) (ts := srt zs) (srt_len zs) hg hh hn hc hs
    unfold RowI
    rw [srt_len]
    exact this
end Go.Proofs.YtlolfcnfcgegdaaGreat
