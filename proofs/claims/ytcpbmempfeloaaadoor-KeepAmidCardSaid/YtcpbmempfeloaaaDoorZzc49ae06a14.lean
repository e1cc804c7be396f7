/- Texts of the proofs, part 4: what the functions that they reach do, walked; no conditions beyond those that each states. -/
import Derived.Deep.MidRow
import Derived.Test.YtcpbmempfeloaaaDoorZzbf542581f7
set_option linter.unusedVariables false
set_option linter.unusedSimpArgs false
/- Rows of elements of many cells: read and written at a place. -/
namespace Go.Proofs.YtcpbmempfeloaaaDoor
open Go.RowKit

section
variable {α : Type} {m : Nat}
theorem chunk_length : ∀ (l : List (List α)), (∀ x ∈ l, x.length = m) → l.flatten.length = l.length * m
  | [], _ => by simp
  | x :: l, h => by
    rw [List.flatten_cons, List.length_append, h x (by simp), chunk_length l fun y hy => h y (by simp [hy]), List.length_cons, Nat.succ_mul, Nat.add_comm]
theorem chunk_take : ∀ (l : List (List α)) (i : Nat), (∀ x ∈ l, x.length = m) → l.flatten.take (i * m) = (l.take i).flatten
  | [], _, _ => by simp
  | x :: l, 0, _ => by simp
  | x :: l, i + 1, h => by
    have hx := h x (by simp)
    have e : (i + 1) * m = x.length + i * m := by rw [Nat.succ_mul, hx, Nat.add_comm]
    rw [List.flatten_cons, e, List.take_length_add_append, chunk_take l i fun y hy => h y (by simp [hy]), List.take_succ_cons, List.flatten_cons]
theorem chunk_drop : ∀ (l : List (List α)) (i : Nat), (∀ x ∈ l, x.length = m) → l.flatten.drop (i * m) = (l.drop i).flatten
  | [], _, _ => by simp
  | x :: l, 0, _ => by simp
  | x :: l, i + 1, h => by
    have hx := h x (by simp)
    have e : (i + 1) * m = x.length + i * m := by rw [Nat.succ_mul, hx, Nat.add_comm]
    rw [List.flatten_cons, e, List.drop_length_add_append, chunk_drop l i fun y hy => h y (by simp [hy]), List.drop_succ_cons]
theorem chunk_get (l : List (List α)) (i : Nat) (h : ∀ x ∈ l, x.length = m) (hi : i < l.length) : (l.flatten.drop (i * m)).take m = l[i] := by
  have hx : l[i].length = m := h _ (List.getElem_mem hi)
  rw [chunk_drop l i h, List.drop_eq_getElem_cons hi, List.flatten_cons, List.take_append_of_le_length (by omega), List.take_of_length_le (by omega)]
theorem chunk_set (l : List (List α)) (i : Nat) (x : List α) (h : ∀ x ∈ l, x.length = m) (hi : i < l.length) :
    (l.set i x).flatten = l.flatten.take (i * m) ++ (x ++ l.flatten.drop (i * m + m)) := by
  rw [chunk_take l i h, show i * m + m = (i + 1) * m from by rw [Nat.succ_mul], chunk_drop l (i + 1) h, List.set_eq_take_append_cons_drop, if_pos hi]
  simp
end

/-- Cells from o on are written. -/
def setsA (cur : Array Value) (o : Nat) : List Value → Array Value
  | [] => cur
  | v :: vs => setsA (cur.setIfInBounds o v) (o + 1) vs
theorem setsA_size (vs : List Value) : ∀ (cur : Array Value) (o : Nat), (setsA cur o vs).size = cur.size := by
  induction vs with
  | nil => intro cur o; rfl
  | cons v vs ih => intro cur o; rw [setsA, ih]; simp
theorem setsA_get (vs : List Value) : ∀ (cur : Array Value) (o j : Nat), o + vs.length ≤ cur.size → (setsA cur o vs)[j]? = if o ≤ j ∧ j < o + vs.length then vs[j - o]? else cur[j]? := by
  induction vs with
  | nil => intro cur o j _; rw [if_neg (by simp only [List.length_nil]; omega)]; rfl
  | cons v vs ih =>
    intro cur o j h
    simp only [List.length_cons] at h ⊢
    rw [setsA, ih _ _ _ (by simp; omega), Array.getElem?_setIfInBounds]
    by_cases h1 : o + 1 ≤ j ∧ j < o + 1 + vs.length
    · rw [if_pos h1, if_pos (by omega), show j - o = (j - (o + 1)) + 1 from by omega, List.getElem?_cons_succ]
    · rw [if_neg h1]
      by_cases h2 : o = j
      · subst h2
        rw [if_pos rfl, if_pos (by omega), if_pos (by omega)]
        simp
      · rw [if_neg h2, if_neg (by omega)]
theorem splice_get {α : Type} (L x : List α) (o j : Nat) (h : o + x.length ≤ L.length) : (L.take o ++ (x ++ L.drop (o + x.length)))[j]? = if o ≤ j ∧ j < o + x.length then x[j - o]? else L[j]? := by
  have hl : (L.take o).length = o := by rw [List.length_take]; omega
  by_cases h1 : j < o
  · rw [List.getElem?_append_left (by omega), if_neg (by omega), List.getElem?_take, if_pos h1]
  · rw [List.getElem?_append_right (by omega), hl]
    by_cases h2 : j < o + x.length
    · rw [if_pos (by omega), List.getElem?_append_left (by omega)]
    · rw [if_neg (by omega), List.getElem?_append_right (by omega), List.getElem?_drop]
      congr 1
      omega
theorem heap_setCells_same (vs : List Value) : ∀ {w : World} {g o : Nat} {cur : Array Value} {t : TypeId} {fz : Nat × Nat}, w.heap[g]? = some (.cells cur t fz) → (w.setCells g o vs).heap[g]? = some (.cells (setsA cur o vs) t fz) := by
  induction vs with
  | nil => intro w g o cur t fz h; exact h
  | cons v vs ih => intro w g o cur t fz h; exact ih (heap_setCell_same h v)
theorem heap_setCells_ne (vs : List Value) : ∀ {w : World} {g o k : Nat}, k ≠ g → (w.setCells g o vs).heap[k]? = w.heap[k]? := by
  induction vs with
  | nil => intro w g o k h; rfl
  | cons v vs ih => intro w g o k h; exact (ih h).trans (heap_setCell_ne h v)
theorem Fr.setCells {K : Nat → Obj → Prop} {a w : World} (h : Fr K a w) {g : Nat} (hp : ∀ o, a.heap[g]? = some o → ¬ K g o) (o : Nat) (vs : List Value) : Fr K a (w.setCells g o vs) := by
  induction vs generalizing w o with
  | nil => exact h
  | cons v vs ih => exact ih (h.setCell (p := ⟨g, o, none⟩) hp v) (o + 1)

/-- A row of elements of m cells each. -/
theorem row_range {w : World} {B : Nat} {e : TypeId} {m n : Nat} {g cap : Nat} {l : List (List Value)} (h : w.ownsRow B e m (.slice (some ⟨g, 0, none⟩) n cap) n l.flatten) (hl : ∀ x ∈ l, x.length = m) (i : Nat) (hi : i < l.length) (hm : 0 < m) : w.rangeAt g (i * m) l[i] := by
  intro j v hv
  have hn : n * m = l.length * m := by rw [← chunk_length l hl]; exact h.1.symm
  have hn' : n = l.length := Nat.eq_of_mul_eq_mul_right hm hn
  have hj : j < l[i].length := by
    rcases Nat.lt_or_ge j l[i].length with h1 | h1
    · exact h1
    · rw [List.getElem?_eq_none h1] at hv; cases hv
  have hx : l[i].length = m := hl _ (List.getElem_mem hi)
  have hb : i * m + j < n * m := by
    have : (i + 1) * m ≤ n * m := Nat.mul_le_mul_right _ (by omega)
    rw [Nat.succ_mul] at this
    omega
  rw [h.cellAt _ hb]
  have e1 := chunk_get l i hl hi
  rw [← e1, List.getElem?_take, if_pos (by omega), List.getElem?_drop] at hv
  exact hv
theorem row_there {w : World} {B : Nat} {e : TypeId} {m n : Nat} {g cap : Nat} {xs : List Value} (h : w.ownsRow B e m (.slice (some ⟨g, 0, none⟩) n cap) n xs) (i : Nat) (hi : i < n) : w.there g (i * m) m := by
  intro j hj
  have hb : i * m + j < n * m := by
    have : (i + 1) * m ≤ n * m := Nat.mul_le_mul_right _ (by omega)
    rw [Nat.succ_mul] at this
    omega
  have h1 := h.1
  refine ⟨?_, h.frozenAt _⟩
  rw [h.cellAt _ hb, List.getElem?_eq_getElem (by omega)]
  rfl
theorem row_set {w : World} {B : Nat} {e : TypeId} {m n : Nat} {g cap : Nat} {l : List (List Value)} (h : w.ownsRow B e m (.slice (some ⟨g, 0, none⟩) n cap) n l.flatten) (hl : ∀ x ∈ l, x.length = m) (i : Nat) (hi : i < l.length) (hm : 0 < m) (x : List Value) (hx : x.length = m) :
    (w.setCells g (i * m) x).ownsRow B e m (.slice (some ⟨g, 0, none⟩) n cap) n (l.set i x).flatten := by
  have hn : n * m = l.length * m := by rw [← chunk_length l hl]; exact h.1.symm
  have hn' : n = l.length := Nat.eq_of_mul_eq_mul_right hm hn
  have hb : i * m + m ≤ n * m := by
    have : (i + 1) * m ≤ n * m := Nat.mul_le_mul_right _ (by omega)
    rwa [Nat.succ_mul] at this
  have hl' : ∀ y ∈ l.set i x, y.length = m := fun y hy => by
    rcases List.mem_or_eq_of_mem_set hy with h1 | h1
    · exact hl y h1
    · rw [h1]; exact hx
  obtain ⟨h1, h2⟩ := h
  refine ⟨by rw [chunk_length _ hl', List.length_set, hn'], ?_⟩
  rcases h2 with ⟨h2, _⟩ | ⟨g', cap', cur, hv, hB, hg, hnc, hcm, hs, ht⟩
  · cases h2
  · cases hv
    refine .inr ⟨g, cap, setsA cur (i * m) x, rfl, hB, heap_setCells_same x hg, hnc, hcm, by rw [setsA_size]; exact hs, ?_⟩
    have hcs : n * m ≤ cur.size := by rw [hs]; exact Nat.mul_le_mul_right _ hnc
    have hcl : n * m ≤ cur.toList.length := by simpa using hcs
    rw [chunk_set l i x hl hi, ← ht]
    apply List.ext_getElem?
    intro j
    have hA : (setsA cur (i * m) x).toList[j]? = if i * m ≤ j ∧ j < i * m + m then x[j - i * m]? else cur.toList[j]? := by
      rw [Array.getElem?_toList, setsA_get x cur _ _ (by omega), hx, Array.getElem?_toList (xs := cur)]
    have hS := splice_get (cur.toList.take (n * m)) x (i * m) j (by rw [List.length_take, hx]; omega)
    rw [hx] at hS
    rw [hS, List.getElem?_take, List.getElem?_take, hA]
    by_cases h1 : i * m ≤ j ∧ j < i * m + m
    · rw [if_pos h1, if_pos h1, if_pos (by omega)]
    · rw [if_neg h1, if_neg h1]
end Go.Proofs.YtcpbmempfeloaaaDoor
/- A slice literal of one element of many cells. -/
namespace Go.Proofs.YtcpbmempfeloaaaDoor
open Go.RowKit

theorem fold_sets : ∀ (l : List Value) (k : Nat) (init : Array Value), (l.zipIdx k).foldl (fun cs x => cs.setIfInBounds (0 + x.2) x.1) init = setsA init k l
  | [], _, _ => rfl
  | v :: l, k, init => by
    rw [List.zipIdx_cons, List.foldl_cons, fold_sets l (k + 1), setsA, Nat.zero_add]
theorem setsA_all (init cells : Array Value) (h : init.size = cells.size) : setsA init 0 cells.toList = cells := by
  apply Array.ext_getElem?
  intro j
  rw [setsA_get _ _ _ _ (by simp; omega)]
  by_cases hj : j < cells.size
  · rw [if_pos (by simp [hj])]
    simp
  · rw [if_neg (by simp; omega), Array.getElem?_eq_none (by omega), Array.getElem?_eq_none (by omega)]

def shutBs (t : TypeId) (n : Nat) (ps : Array (Nat × Value)) : Sem Value := Instr.buildSlice t n ps
theorem build_one {P : Program} (W : World) (t elem : TypeId) (n : Nat) (cells z : Array Value) (ht : P.underlying t = some (.slice elem)) (hs : (P.info? elem).map (fun i => (i.zero, i.size)) = some (some (.agg z), n)) (hc : cells.size = n) (h0 : 0 < n) (hn : n ≤ 16777216) :
    (Instr.buildSlice t 1 #[(0, .agg cells)]).run P W = .ok (.slice (some ⟨W.heap.size, 0, none⟩) 1 1) (W.alloc (.cells cells elem (0, 0))) := by
  have e1 : ∀ init : Array Value, init.size = cells.size → Array.foldl (fun cs (x : Value × Nat) => cs.setIfInBounds (0 + x.2) x.1) init cells.zipIdx = cells := fun init hi => by
    rw [← Array.foldl_toList, Array.toList_zipIdx, fold_sets]
    exact setsA_all init cells hi
  cases hq : P.info? elem with
  | none => simp [hq] at hs
  | some i =>
    simp only [hq, Option.map_some, Option.some.injEq, Prod.mk.injEq] at hs
    obtain ⟨hz, hsz⟩ := hs
    have hzv : (zeroValue elem).run P W = .ok (.agg z) W := by
      simp [zeroValue, typeInfo, hq, hz]
    have hso : (sizeOf elem).run P W = .ok n W := by simp [sizeOf, typeInfo, hq, hsz]
    unfold Instr.buildSlice
    simp only [Sem.run_bind, run_underlying ht, Result.andThen_ok, hso, Nat.one_mul]
    rw [if_neg (by omega), if_neg (by omega)]
    simp only [Sem.run_bind, hzv, Result.andThen_ok, Sem.run_pure]
    have e2 : Instr.fill (fun i => some (i * n, n)) ((Array.range n).map fun x => z[x % z.size]!) [(0, Value.agg cells)] = some cells := by
      simp only [Instr.fill, Value.cells, hc, Nat.zero_mul]
      rw [if_neg (by simp)]
      exact congrArg some (e1 _ (by simp [hc]))
    simp only [Value.cells]
    rw [e2]
    rfl
end Go.Proofs.YtcpbmempfeloaaaDoor
