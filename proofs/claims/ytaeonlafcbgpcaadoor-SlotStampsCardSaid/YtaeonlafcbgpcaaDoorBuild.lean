/- A slice literal of one element of many cells. -/
import Derived.Test.YtaeonlafcbgpcaaDoorChunk
namespace Go.Proofs.YtaeonlafcbgpcaaDoor
open Go.RowKit

theorem fold_sets : ∀ (l : List Value) (k : Nat) (init : Array Value), (l.zipIdx k).foldl (fun cs x => cs.setIfInBounds (0 + x.2) x.1) init = setsA init k l
  | [], _, _ => rfl
  | v :: l, k, init => by
    rw [List.zipIdx_cons, List.foldl_cons, fold_sets l (k + 1), setsA, Nat.zero_add]
theorem setsA_all (init cells : Array Value) (h : init.size = cells.size) : setsA init 0 cells.toList = cells := by
  apply Array.ext_getElem?
  intro j
  rw [setsA_get _ _ _ _ (by simp; omega)]
  by_cases hj : j < cells.size
  · rw [if_pos (by simp [hj])]
    simp
  · rw [if_neg (by simp; omega), Array.getElem?_eq_none (by omega), Array.getElem?_eq_none (by omega)]

def shutBs (t : TypeId) (n : Nat) (ps : Array (Nat × Value)) : Sem Value := Instr.buildSlice t n ps
theorem build_one {P : Program} (W : World) (t elem : TypeId) (n : Nat) (cells z : Array Value) (ht : P.underlying t = some (.slice elem)) (hs : (P.info? elem).map (fun i => (i.zero, i.size)) = some (some (.agg z), n)) (hc : cells.size = n) (h0 : 0 < n) (hn : n ≤ 16777216) :
    (Instr.buildSlice t 1 #[(0, .agg cells)]).run P W = .ok (.slice (some ⟨W.heap.size, 0, none⟩) 1 1) (W.alloc (.cells cells elem (0, 0))) := by
  have e1 : ∀ init : Array Value, init.size = cells.size → Array.foldl (fun cs (x : Value × Nat) => cs.setIfInBounds (0 + x.2) x.1) init cells.zipIdx = cells := fun init hi => by
    rw [← Array.foldl_toList, Array.toList_zipIdx, fold_sets]
    exact setsA_all init cells hi
  cases hq : P.info? elem with
  | none => simp [hq] at hs
  | some i =>
    simp only [hq, Option.map_some, Option.some.injEq, Prod.mk.injEq] at hs
    obtain ⟨hz, hsz⟩ := hs
    have hzv : (zeroValue elem).run P W = .ok (.agg z) W := by
      simp [zeroValue, typeInfo, hq, hz]
    have hso : (sizeOf elem).run P W = .ok n W := by simp [sizeOf, typeInfo, hq, hsz]
    unfold Instr.buildSlice
    simp only [Sem.run_bind, run_underlying ht, Result.andThen_ok, hso, Nat.one_mul]
    rw [if_neg (by omega), if_neg (by omega)]
    simp only [Sem.run_bind, hzv, Result.andThen_ok, Sem.run_pure]
    have e2 : Instr.fill (fun i => some (i * n, n)) ((Array.range n).map fun x => z[x % z.size]!) [(0, Value.agg cells)] = some cells := by
      simp only [Instr.fill, Value.cells, hc, Nat.zero_mul]
      rw [if_neg (by simp)]
      exact congrArg some (e1 _ (by simp [hc]))
    simp only [Value.cells]
    rw [e2]
    rfl
end Go.Proofs.YtaeonlafcbgpcaaDoor
