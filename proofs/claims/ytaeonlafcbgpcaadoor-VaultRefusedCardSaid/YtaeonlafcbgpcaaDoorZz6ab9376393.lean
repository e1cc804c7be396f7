/- Texts of the proofs, part 1: what the functions that they reach do, walked; no conditions beyond those that each states. -/
import Derived.WalkKit
import Derived.WalkSpells
import Derived.WalkLawsBesides
import Derived.Lib.Hide
import Derived.Maps.OwnOps
import Derived.RangeFuncRecord
import Derived.Laws.AppendOwnNone
import Derived.RangeFuncNested
import Derived.RangeFuncBound
import Derived.RangeFuncCalls
import Derived.RangeFuncLeaves
import Derived.Test.YtaeonlafcbgpcaaDoorProg
import Derived.Deep.AppendLies
import Derived.Deep.RegionLaw
set_option linter.unusedVariables false
set_option linter.unusedSimpArgs false
/- General lemmas of ours: frames between two worlds, maps keyed by integers. -/
namespace Go.Proofs.YtaeonlafcbgpcaaDoor
open Go.RowKit

/-- What a step keeps: every block that K names reads as it read. -/
structure Fr (K : Nat → Obj → Prop) (w w' : World) : Prop where
  os : w'.os = w.os
  tape : w'.tape = w.tape
  output : w'.output = w.output
  size : w.heap.size ≤ w'.heap.size
  keep : ∀ (b : Nat) (o : Obj), w.heap[b]? = some o → K b o → w'.heap[b]? = some o

theorem Fr.refl (K : Nat → Obj → Prop) (w : World) : Fr K w w := ⟨rfl, rfl, rfl, Nat.le_refl _, fun _ _ h _ => h⟩
theorem Fr.trans {K : Nat → Obj → Prop} {a b c : World} (h : Fr K a b) (k : Fr K b c) : Fr K a c :=
  ⟨k.os.trans h.os, k.tape.trans h.tape, k.output.trans h.output, Nat.le_trans h.size k.size, fun i o hi hk => k.keep i o (h.keep i o hi hk) hk⟩
theorem Fr.mono {K K' : Nat → Obj → Prop} {a b : World} (h : Fr K a b) (hK : ∀ i o, K' i o → K i o) : Fr K' a b :=
  ⟨h.os, h.tape, h.output, h.size, fun i o hi hk => h.keep i o hi (hK i o hk)⟩
theorem Fr.tt {K : Nat → Obj → Prop} {a w w' : World} (h : Fr K a w) (hf : Fr (fun _ _ => True) w w') : Fr K a w' := h.trans (hf.mono fun _ _ _ => trivial)
theorem Fr.drew {K : Nat → Obj → Prop} {a w : World} (h : Fr K a w) : Fr K a w.drew := ⟨h.os, h.tape, h.output, h.size, h.keep⟩
theorem lt_of_some {w : World} {b : Nat} {o : Obj} (h : w.heap[b]? = some o) : b < w.heap.size := by
  rcases Nat.lt_or_ge b w.heap.size with h1 | h1
  · exact h1
  · rw [Array.getElem?_eq_none h1] at h; cases h
theorem Fr.alloc {K : Nat → Obj → Prop} {a w : World} (h : Fr K a w) (o : Obj) : Fr K a (w.alloc o) :=
  h.trans ⟨rfl, rfl, rfl, by simp, fun b _ hb _ => by rw [Below.heap_alloc _ _ _ (lt_of_some hb)]; exact hb⟩
theorem Fr.of_grown {K : Nat → Obj → Prop} {w w' : World} {row : Option Nat} (hg : w.grownBy w' row) (hr : ∀ k o, row = some k → w.heap[k]? = some o → ¬ K k o) : Fr K w w' :=
  ⟨hg.os, hg.tape, hg.output, hg.size, fun b o hb hk => by rw [hg.block b (lt_of_some hb) (fun e => hr b o e.symm hb hk)]; exact hb⟩
theorem Fr.of_below {w w' : World} {B : Nat} (h : Below B w w') : Fr (fun b _ => b < B) w w' :=
  ⟨h.os, h.tape, h.output, h.size, fun b o hb hk => by rw [h.block b hk]; exact hb⟩
theorem Fr.below {w w' : World} {B : Nat} (h : Fr (fun b _ => b < B) w w') (hB : B ≤ w.heap.size) : Below B w w' :=
  ⟨h.os, h.tape, h.output, h.size, fun b hb => by
    have hl : b < w.heap.size := Nat.lt_of_lt_of_le hb hB
    have e : w.heap[b]? = some (w.heap[b]) := Array.getElem?_eq_getElem hl
    rw [e]; exact h.keep b _ e hb⟩

/-- Behind an append or a make: the row that may have been written is new since a, or K does not name it. -/
theorem Fr.grown {K : Nat → Obj → Prop} {a w w' : World} {row : Option Nat} (h : Fr K a w) (hg : w.grownBy w' row) (hr : ∀ k o, row = some k → a.heap[k]? = some o → ¬ K k o) : Fr K a w' :=
  ⟨hg.os.trans h.os, hg.tape.trans h.tape, hg.output.trans h.output, Nat.le_trans h.size hg.size, fun b o hb hk => by
    have h1 := h.keep b o hb hk
    rw [hg.block b (lt_of_some h1) (fun e => hr b o e.symm hb hk)]; exact h1⟩
theorem Fr.grown_new {K : Nat → Obj → Prop} {a w w' : World} {row : Option Nat} (h : Fr K a w) (hg : w.grownBy w' row) (hr : ∀ k, row = some k → a.heap.size ≤ k) : Fr K a w' :=
  h.grown hg fun k o e ho => by have := lt_of_some ho; have := hr k e; omega
theorem Fr.setCell {K : Nat → Obj → Prop} {a w : World} (h : Fr K a w) {p : Addr} (hp : ∀ o, a.heap[p.block]? = some o → ¬ K p.block o) (u : Value) : Fr K a (w.setCell p u) :=
  ⟨h.os, h.tape, h.output, by have := h.size; simpa [World.setCell] using this, fun b o hb hk => by
    have h1 := h.keep b o hb hk
    rw [Below.heap_setCell _ _ _ _ (fun e => hp o (e ▸ hb) (e ▸ hk))]; exact h1⟩
theorem Fr.setCell_new {K : Nat → Obj → Prop} {a w : World} (h : Fr K a w) {p : Addr} (hp : a.heap.size ≤ p.block) (u : Value) : Fr K a (w.setCell p u) :=
  h.setCell (fun o ho => by have := lt_of_some ho; omega) u
theorem Fr.putObj {K : Nat → Obj → Prop} {a w : World} (h : Fr K a w) {r : Nat} (hp : ∀ o, a.heap[r]? = some o → ¬ K r o) (x : Obj) : Fr K a (w.putObj r x) :=
  ⟨h.os, h.tape, h.output, by have := h.size; simpa [World.putObj] using this, fun b o hb hk => by
    have h1 := h.keep b o hb hk
    have hne : b ≠ r := fun e => hp o (e ▸ hb) (e ▸ hk)
    rw [World.putObj_heap_other hne]; exact h1⟩

theorem heap_setCell_same {w : World} {b o : Nat} {cs : Array Value} {t : TypeId} {fz : Nat × Nat} (h : w.heap[b]? = some (.cells cs t fz)) (v : Value) : (w.setCell ⟨b, o, none⟩ v).heap[b]? = some (.cells (cs.setIfInBounds o v) t fz) := by
  simp [World.setCell, Array.getElem?_modify, h]
theorem heap_setCell_ne {w : World} {b o k : Nat} (h : k ≠ b) (v : Value) : (w.setCell ⟨b, o, none⟩ v).heap[k]? = w.heap[k]? := Below.heap_setCell w ⟨b, o, none⟩ v k h
theorem heap_alloc_lt {w : World} {k : Nat} {x : Obj} (h : w.heap[k]? = some x) (o : Obj) : (w.alloc o).heap[k]? = some x := by rw [Below.heap_alloc _ _ _ (lt_of_some h)]; exact h
theorem heap_alloc_new (w : World) (o : Obj) : (w.alloc o).heap[w.heap.size]? = some o := by show (w.heap.push o)[w.heap.size]? = _; simp
theorem cell_mk {w : World} {b i : Nat} {cs : Array Value} {t : TypeId} {fz : Nat × Nat} {v : Value} (h : w.heap[b]? = some (.cells cs t fz)) (hc : cs[i]? = some v) : w.cell? ⟨b, i, none⟩ = some v := by
  unfold World.cell?; rw [h]; exact hc
theorem frozen_mk {w : World} {b i : Nat} {cs : Array Value} {t : TypeId} (h : w.heap[b]? = some (.cells cs t (0, 0))) : w.frozen? ⟨b, i, none⟩ = false := by
  unfold World.frozen?; rw [h]; simp
theorem heap_alloc_at {w : World} {n : Nat} (h : w.heap.size = n) (o : Obj) : (w.alloc o).heap[n]? = some o := h ▸ heap_alloc_new w o
theorem size_setCell' (w : World) (a : Addr) (v : Value) : (w.setCell a v).heap.size = w.heap.size := by simp [World.setCell]
theorem size_putObj' (w : World) (r : Nat) (o : Obj) : (w.putObj r o).heap.size = w.heap.size := by simp [World.putObj]
theorem grown_block {W w1 : World} {row : Option Nat} {b : Nat} {o : Obj} (hg : W.grownBy w1 row) (hb : W.heap[b]? = some o) (hne : row ≠ some b) : w1.heap[b]? = some o := by
  rw [hg.block b (lt_of_some hb) (fun e => hne e.symm)]; exact hb
theorem heap_putObj_same {w : World} {b : Nat} {x : Obj} (h : w.heap[b]? = some x) (o : Obj) : (w.putObj b o).heap[b]? = some o := World.putObj_heap_same (lt_of_some h)
theorem heap_putObj_ne {w : World} {b k : Nat} (h : k ≠ b) (o : Obj) : (w.putObj b o).heap[k]? = w.heap[k]? := World.putObj_heap_other h

theorem ownsRow_setCell_ne {w : World} {base : Nat} {e : TypeId} {size : Nat} {v : Value} {n : Nat} {xs : List Value} (h : w.ownsRow base e size v n xs) {p : Addr} (hp : v.ownBlock ≠ some p.block) (u : Value) : (w.setCell p u).ownsRow base e size v n xs := by
  obtain ⟨h1, h2⟩ := h
  refine ⟨h1, ?_⟩
  rcases h2 with h2 | ⟨g, cap, cur, hv, hg, hh, r⟩
  · exact Or.inl h2
  · subst hv
    exact Or.inr ⟨g, cap, cur, rfl, hg, by rw [Below.heap_setCell _ _ _ _ (fun e => hp (by rw [← e]; rfl))]; exact hh, r⟩
theorem ownsRow_fr {K : Nat → Obj → Prop} {w w' : World} {base : Nat} {e : TypeId} {size : Nat} {v : Value} {n : Nat} {xs : List Value} (h : w.ownsRow base e size v n xs) (hf : Fr K w w') (hk : ∀ b o, v.ownBlock = some b → w.heap[b]? = some o → K b o) : w'.ownsRow base e size v n xs := by
  obtain ⟨h1, h2⟩ := h
  refine ⟨h1, ?_⟩
  rcases h2 with h2 | ⟨g, cap, cur, hv, hg, hh, r⟩
  · exact Or.inl h2
  · subst hv
    exact Or.inr ⟨g, cap, cur, rfl, hg, hf.keep _ _ hh (hk g _ rfl hh), r⟩

/-- A map's entries, keyed by integers of one kind. -/
def entriesOf (q : IntKind) (l : List (Int × Value × Nat)) : Array MapEntry := (l.map fun x => ({ key := .int q x.1, val := x.2.1, born := x.2.2 } : MapEntry)).toArray
def look : List (Int × Value × Nat) → Int → Option Value
  | [], _ => none
  | x :: r, n => if x.1 = n then some x.2.1 else look r n
def lay : List (Int × Value × Nat) → Int → Value → Nat → List (Int × Value × Nat)
  | [], n, v, c => [(n, v, c)]
  | x :: r, n, v, c => if x.1 = n then (n, v, x.2.2) :: r else x :: lay r n v c
def drp : List (Int × Value × Nat) → Int → List (Int × Value × Nat)
  | [], _ => []
  | x :: r, n => if x.1 = n then r else x :: drp r n
/-- The map's clock behind a store. -/
def tick (l : List (Int × Value × Nat)) (n : Int) (c : Nat) : Nat := if (look l n).isSome then c else c + 1
/-- Where the key stands. -/
def spot : List (Int × Value × Nat) → Int → Nat
  | [], _ => 0
  | x :: r, n => if x.1 = n then 0 else spot r n + 1

theorem entriesOf_cons (q : IntKind) (x : Int × Value × Nat) (r : List (Int × Value × Nat)) : (entriesOf q (x :: r)).toList = { key := .int q x.1, val := x.2.1, born := x.2.2 } :: (entriesOf q r).toList := rfl
theorem entriesOf_size (q : IntKind) (l : List (Int × Value × Nat)) : (entriesOf q l).size = l.length := by simp [entriesOf]

theorem findNow_int (q q' : IntKind) (n : Int) : ∀ (l : List (Int × Value × Nat)) (i : Nat), Instr.findNow (.int q') (.int q n) (entriesOf q l).toList i = some ((look l n).map fun v => (i + spot l n, v))
  | [], i => rfl
  | x :: r, i => by
    rw [entriesOf_cons]
    simp only [Instr.findNow, Instr.sameNow, look, spot, ↓reduceIte]
    by_cases h : x.1 = n
    · simp [h]
    · have h' : (n == x.1) = false := by rw [beq_eq_false_iff_ne]; exact fun e => h e.symm
      simp only [h', h, ↓reduceIte]
      rw [findNow_int q q' n r (i + 1)]
      simp only [Nat.add_assoc, Nat.add_comm 1]

theorem entries_lay (q : IntKind) (n : Int) (v : Value) (c : Nat) : ∀ (l : List (Int × Value × Nat)), (look l n).isSome = true →
    ((entriesOf q l).modify (spot l n) fun e => { e with key := .int q n, val := v }) = entriesOf q (lay l n v c) := by
  intro l h
  apply Array.toList_inj.1
  rw [Array.toList_modify]
  induction l with
  | nil => simp [look] at h
  | cons x r ih =>
    rw [entriesOf_cons]
    by_cases hx : x.1 = n
    · simp [spot, lay, hx, entriesOf]
    · simp only [look, hx, ↓reduceIte] at h
      simp only [spot, lay, hx, ↓reduceIte, List.modify_succ_cons]
      rw [ih h, entriesOf_cons]

theorem spot_key (q : IntKind) (n : Int) : ∀ (l : List (Int × Value × Nat)), (look l n).isSome = true → ((entriesOf q l)[spot l n]?).map (·.key) = some (.int q n) := by
  intro l h
  rw [← Array.getElem?_toList]
  induction l with
  | nil => simp [look] at h
  | cons x r ih =>
    rw [entriesOf_cons]
    by_cases hx : x.1 = n
    · simp [spot, hx]
    · simp only [look, hx, ↓reduceIte] at h
      simp only [spot, hx, ↓reduceIte, List.getElem?_cons_succ]
      exact ih h

theorem entries_lay_new (q : IntKind) (n : Int) (v : Value) (c : Nat) : ∀ (l : List (Int × Value × Nat)), look l n = none →
    ((entriesOf q l).push { key := .int q n, val := v, born := c }) = entriesOf q (lay l n v c) := by
  intro l h
  apply Array.toList_inj.1
  rw [Array.toList_push]
  induction l with
  | nil => simp [lay, entriesOf]
  | cons x r ih =>
    rw [entriesOf_cons]
    by_cases hx : x.1 = n
    · simp [look, hx] at h
    · simp only [look, hx, ↓reduceIte] at h
      simp only [lay, hx, ↓reduceIte, List.cons_append]
      rw [ih h, entriesOf_cons]

theorem entries_drp (q : IntKind) (n : Int) : ∀ (l : List (Int × Value × Nat)), (look l n).isSome = true →
    ((entriesOf q l).eraseIdxIfInBounds (spot l n)) = entriesOf q (drp l n) := by
  intro l h
  apply Array.toList_inj.1
  rw [Array.toList_eraseIdxIfInBounds]
  induction l with
  | nil => simp [look] at h
  | cons x r ih =>
    rw [entriesOf_cons]
    by_cases hx : x.1 = n
    · simp [spot, drp, hx]
    · simp only [look, hx, ↓reduceIte] at h
      simp only [spot, drp, hx, ↓reduceIte, List.eraseIdx_cons_succ]
      rw [ih h, entriesOf_cons]

section
variable {P : Program} {t k e : TypeId} {q : IntKind} (ht : P.underlying t = some (.map k e)) (hk : P.underlying k = some (.int q))
include hk in
theorem run_checkKey_gen (em : Bool) (m : Nat) (n : Int) (w : World) : (Instr.checkKey em (m + 1) k (.int q n)).run P w = .ok () w := by
  rw [Instr.checkKey]
  simp [run_underlying hk]
include hk in
theorem run_checkKey_int (em : Bool) (n : Int) (w : World) : (Instr.checkKey em 10000 k (.int q n)).run P w = .ok () w := run_checkKey_gen hk em 9999 n w
include hk in
theorem run_findKey_int (n : Int) (l : List (Int × Value × Nat)) (w : World) : (Instr.findKey k (.int q n) (entriesOf q l).toList).run P w = .ok ((look l n).map fun v => (spot l n, v)) w := by
  unfold Instr.findKey
  simp [run_underlying hk, findNow_int]
include ht hk in
theorem run_lookup_int (b : Nat) (n : Int) (l : List (Int × Value × Nat)) (c : Nat) (w : World) (z : Value) (hb : w.heap[b]? = some (.map (entriesOf q l) c)) (hz : (zeroValue e).run P w = .ok z w) :
    (Instr.lookup t (.map (some b)) (.int q n) true).run P w = .ok (.tuple #[(look l n).getD z, .bool (look l n).isSome]) w := by
  unfold Instr.lookup
  cases hl : look l n <;> simp [run_underlying ht, run_getObj_map w b _ c hb, run_checkKey_int hk, run_findKey_int hk, hl, hz]
include ht hk in
theorem run_lookup_int_nil (n : Int) (w : World) (z : Value) (hz : (zeroValue e).run P w = .ok z w) :
    (Instr.lookup t (.map none) (.int q n) true).run P w = .ok (.tuple #[z, .bool false]) w := by
  have h := run_findKey_int (P := P) hk n [] w
  unfold Instr.lookup
  simp [run_underlying ht, run_checkKey_int hk, hz]
  simp [look, entriesOf] at h
  simp [h, hz]
include ht hk in
theorem run_update_int (b : Nat) (n : Int) (v : Value) (l : List (Int × Value × Nat)) (c : Nat) (w : World) (hb : w.heap[b]? = some (.map (entriesOf q l) c)) :
    (Instr.mapUpdate t (.map (some b)) (.int q n) v).run P w = .ok () (w.putObj b (.map (entriesOf q (lay l n v c)) (tick l n c))) := by
  unfold Instr.mapUpdate
  cases hl : look l n with
  | none =>
    simp [run_underlying ht, run_getObj_map w b _ c hb, run_checkKey_int hk, run_findKey_int hk, hl, setObj, Sem.run, hb, World.putObj, entries_lay_new q n v c l hl, tick]
  | some x =>
    have h1 := entries_lay q n v c l (by rw [hl]; rfl)
    have h2 : (((entriesOf q l)[spot l n]?).map (·.key)).getD (.int q n) = .int q n := by
      have := spot_key q n l (by rw [hl]; rfl)
      rw [this]; rfl
    have h3 : Instr.sameBits 10000 (.int q n) (.int q n) = true := by simp [Instr.sameBits]
    have h4 : ∀ W : World, (Instr.keyThatStays (.int q n) (.int q n)).run P W = .ok (.int q n) W := by
      intro W; unfold Instr.keyThatStays; rw [h3]; rfl
    simp only [Sem.run_bind, run_underlying ht, run_getObj_map w b _ c hb, run_checkKey_int hk, run_findKey_int hk, hl, Result.andThen, Option.map_some]
    rw [h2, h4]
    simp [setObj, Sem.run, hb, World.putObj, h1, tick, hl]
include ht hk in
theorem run_delete_int (ty : TypeId) (b : Nat) (n : Int) (l : List (Int × Value × Nat)) (c : Nat) (w : World) (hb : w.heap[b]? = some (.map (entriesOf q l) c)) (hs : (look l n).isSome = true) :
    (Builtin.delete_ #[t, k] ty #[.map (some b), .int q n]).run P w = .ok (.tuple #[]) (w.putObj b (.map (entriesOf q (drp l n)) c)) := by
  unfold Builtin.delete_
  obtain ⟨x, hx⟩ := Option.isSome_iff_exists.1 hs
  simp [run_underlying ht, run_getObj_map w b _ c hb, run_checkKey_int hk, run_findKey_int hk, hx, setObj, Sem.run, hb, World.putObj, ← entries_drp q n l hs]
end

/-- 'm[n] = v' at the operation. -/
theorem wpList_update_int {P : Program} (w : World) {ops : Array Oper} {rest : List Oper} {o : Oper} {a : Act} {Q : Exit → Act → World → Prop} (hg : o.guard = none) (m x v : Operand) (t : TypeId) (hop : o.op = Op.mapUpdate t m x v)
    (k e : TypeId) (q : IntKind) (ht : P.underlying t = some (.map k e)) (hk : P.underlying k = some (.int q)) (b c : Nat) (l : List (Int × Value × Nat)) (n : Int) (val : Value)
    (hm : a.eval m = .map (some b)) (hx : a.eval x = .int q n) (hv : a.eval v = val) (hb : w.heap[b]? = some (.map (entriesOf q l) c))
    (hK : wpList P ops Q rest (a.put o.dst undef) (w.putObj b (.map (entriesOf q (lay l n val c)) (tick l n c)))) : wpList P ops Q (o :: rest) a w := by
  refine wpList_plain hg fun K' hK' => ?_
  have hrun := run_update_int ht hk b n val l c w hb
  unfold Oper.wp
  simp [execOp, hop, hm, hx, hv, hrun, Result.andThen]
  exact hK' _ _ hK

/-- 'delete(m, n)' at the operation, n being there. -/
theorem wpList_delete_int {P : Program} (w : World) {ops : Array Oper} {rest : List Oper} {o : Oper} {a : Act} {Q : Exit → Act → World → Prop} (hg : o.guard = none) (m x : Operand) (t k : TypeId) (hop : o.op = .call { callee := .builtin .delete, args := #[m, x], argTypes := #[t, k] })
    (e : TypeId) (q : IntKind) (ht : P.underlying t = some (.map k e)) (hk : P.underlying k = some (.int q)) (b c : Nat) (l : List (Int × Value × Nat)) (n : Int)
    (hm : a.eval m = .map (some b)) (hx : a.eval x = .int q n) (hb : w.heap[b]? = some (.map (entriesOf q l) c)) (hs : (look l n).isSome = true)
    (hK : wpList P ops Q rest (a.put o.dst (.tuple #[])) (w.putObj b (.map (entriesOf q (drp l n)) c))) : wpList P ops Q (o :: rest) a w := by
  refine wpList_plain hg fun K' hK' => ?_
  have hrun := run_delete_int ht hk o.type b n l c w hb hs
  unfold Oper.wp
  simp [execOp, hop, resolve, invoke, builtin, hm, hx, hrun, Result.andThen]
  exact hK' _ _ hK

/-- A slice from which is appended: nil, or m elements at an address. -/
def SrcAt (w : World) (size : Nat) (x : Value) (m : Nat) (news : List Value) : Prop :=
  (x = .slice none 0 0 ∧ m = 0 ∧ news = []) ∨ ∃ ad c, x = .slice (some ad) m c ∧ news.length = m * size ∧ (∀ j u, news[j]? = some u → w.cell? (ad.add j) = some u) ∧ ∀ u ∈ news, u.oneCell' = true

theorem wpList_append_src {P : Program} (w : World) {ops : Array Oper} {rest : List Oper} {o : Oper} {a : Act} {Q : Exit → Act → World → Prop} (hgd : o.guard = none) (s x : Operand) (t : TypeId)
    (ho : o.op = .call { callee := .builtin .append, args := #[s, x], argTypes := #[t, t] })
    (base : Nat) (e : TypeId) (i : TypeInfo) (z : Value) (size bytes : Nat) (ht : P.underlying t = some (.slice e)) (hi : P.info? e = some i) (hz : i.zero = some z)
    (hsize : i.size = size) (hby : i.bytes = bytes) (hzs : z.cells.size = size) (hsz : 0 < size)
    (v : Value) (n : Nat) (xs : List Value) (hs : a.eval s = v) (hown : w.ownsRow base e size v n xs)
    (vx : Value) (m : Nat) (news : List Value) (hx : a.eval x = vx) (hsrc : SrcAt w size vx m news)
    (h63 : n + m ≤ maxLen) (hbytes : (n + m) * bytes ≤ 140737488355328) (hbase : base ≤ w.heap.size)
    (h : ∀ v' w', w'.ownsRow base e size v' (n + m) (xs ++ news) → w.grownBy w' v.ownBlock → (v' = .slice none 0 0 ↔ v = .slice none 0 0 ∧ m = 0) → wpList P ops Q rest (a.put o.dst v') w') : wpList P ops Q (o :: rest) a w := by
  rcases hsrc with ⟨rfl, rfl, rfl⟩ | ⟨ad, c, rfl, hl, hc, h1⟩
  · exact wpList_append_own_none hgd s x t ho base e i size ht hi v n xs hs hown hx (h v w (by simpa using hown) ⟨rfl, rfl, rfl, Nat.le_refl _, fun _ _ _ => rfl⟩ (by simp))
  · exact wpList_append_own w hgd s x t ho base e i z size bytes ht hi hz hsize hby hzs hsz v n xs hs hown ad m c news hx hl hc h1 h63 hbytes hbase h

/-- A slice of integers that came in (as the shells of proofs have it). -/
def IsRow (k : IntKind) (w : World) (a : Option Addr) (len cap : Nat) (zs : List Int) : Prop :=
  (a = none ∧ len = 0 ∧ cap = 0 ∧ zs = []) ∨
  ∃ x, a = some x ∧ len ≤ cap ∧ cap ≤ maxLen ∧ zs.length = cap ∧ (∀ i, i < zs.length → w.cell? (x.add i) = some (.int k (zs.getD i 0))) ∧ ∀ n ∈ zs, (Lit.int k n).wf = true

theorem cell_lt {w : World} {p : Addr} {v : Value} (h : w.cell? p = some v) : p.block < w.heap.size := by
  unfold World.cell? at h
  cases hb : w.heap[p.block]? with
  | none => rw [hb] at h; cases h
  | some o => exact lt_of_some hb
theorem cell_spot {w : World} {p : Addr} {v : Value} (h : w.cell? p = some v) : p.spot = none := by
  unfold World.cell? at h
  split at h
  · split at h
    · cases h
    · rename_i hs; simpa using hs
  · cases h
theorem Fr.cell {K : Nat → Obj → Prop} {w w' : World} {p : Addr} {v : Value} (h : Fr K w w') (hK : ∀ o, w.heap[p.block]? = some o → K p.block o) (hc : w.cell? p = some v) : w'.cell? p = some v := by
  have hl := cell_lt hc
  have e : w.heap[p.block]? = some (w.heap[p.block]) := Array.getElem?_eq_getElem hl
  rw [World.cell?_of_block (w := w) (a := p) ((h.keep p.block _ e (hK _ e)).trans e.symm)]
  exact hc
theorem Fr.old {w w' : World} {p : Addr} {v : Value} (h : Fr (fun b _ => b < w.heap.size) w w') (hc : w.cell? p = some v) : w'.cell? p = some v := h.cell (fun _ _ => cell_lt hc) hc

theorem IsRow.at {k : IntKind} {w : World} {a : Option Addr} {len cap : Nat} {zs : List Int} (h : IsRow k w a len cap zs) (hl : 0 < len) :
    ∃ b off, a = some ⟨b, off, none⟩ ∧ len ≤ zs.length ∧ ∀ i, i < len → w.cell? ⟨b, off + i, none⟩ = some (.int k (zs.getD i 0)) := by
  rcases h with ⟨_, h, _⟩ | ⟨x, rfl, h1, h2, h3, h4, h5⟩
  · omega
  · have e0 := h4 0 (by omega)
    have hs : x.spot = none := by
      have := cell_spot e0
      simpa [Addr.add] using this
    obtain ⟨b, off, sp⟩ := x
    cases hs
    refine ⟨b, off, rfl, by omega, fun i hi => ?_⟩
    rw [← h4 i (by omega)]
    unfold Addr.add
    split
    · subst i; rfl
    · rfl
theorem IsRow.wf {k : IntKind} {w : World} {a : Option Addr} {len cap : Nat} {zs : List Int} (h : IsRow k w a len cap zs) (i : Nat) (hi : i < len) : (Lit.int k (zs.getD i 0)).wf = true := by
  rcases h with ⟨_, h, _⟩ | ⟨x, rfl, h1, h2, h3, h4, h5⟩
  · omega
  · have hz : i < zs.length := by omega
    rw [List.getD_eq_getElem?_getD, List.getElem?_eq_getElem hz]
    exact h5 _ (List.getElem_mem hz)

end Go.Proofs.YtaeonlafcbgpcaaDoor
/- A range over a function whose rounds are handed what lies in memory: a contract that tells of the world, and the law of the statement. -/
namespace Go.Proofs.YtaeonlafcbgpcaaDoor
open Go.RowKit

/-- Blocks of cells. -/
def KC (_ : Nat) (o : Obj) : Prop := o.isCells = true
theorem Fr.putLoop {w : World} {l : Nat} {o : Obj} (h : w.heap[l]? = some o) (ho : o.isCells = false) (x : Obj) : Fr KC w (w.putObj l x) :=
  (Fr.refl _ _).putObj (fun o' h' hk => by rw [h] at h'; cases h'; rw [KC, ho] at hk; cases hk) x

theorem size_putObj (w : World) (l : Nat) (o : Obj) : (w.putObj l o).heap.size = w.heap.size := by simp [World.putObj]
/-- An iterator: it hands out xs, one behind the other, each in a world where T tells of it; a round keeps the blocks B. -/
def SeqW {α : Type} (F : Fence) (n : Nat) (P : Program) (g : Nat) (lb : Array Value) (encs : α → Array Value) (T : α → World → Prop) (B : Nat → Prop) (S : List α → World → Prop) (w : World) : Prop :=
  ∀ (l : Nat) (J : List α → World → Prop) (W : World), Fr (fun _ _ => True) w W → (∀ pre A A', J pre A → Fr (fun _ _ => True) A A' → J pre A') →
    (∀ pre x W1, J pre W1 → T x W1 → YieldAt F (n - 1) P l (encs x) W1 fun e W' => e = .returned (.bool true) ∧ J (pre ++ [x]) W' ∧ Fr (fun c _ => B c) W1 W') →
    J [] W → CallsIn F n P g (#[.func (.yield l) #[] #[]] ++ lb) W fun e W' => (∃ v, e = .returned v) ∧ ∃ xs, S xs W' ∧ J xs W'

def roundEnd {α : Type} (B : Nat → Prop) (I : List α → World → Prop) (xs : List α) (W : World) : Exit → Act → World → Prop
  | .normal, _, W' => Fr (fun c _ => B c) W W' ∧ I xs W'
  | _, _, _ => False

theorem wpIn_range {F : Fence} {n : Nat} {P : Program} {α : Type} {g : Operand} {ps : Array Tmp} {assign body : Code} {Q : Exit → Act → World → Prop} {a : Act} {w : World}
    (hro : F.round = none) (h1 : 1 ≤ n) {gf : Nat} {lb : Array Value} (hg : a.eval g = .func (.func gf) #[] lb) (hFg : F.fn gf) (eg : ∀ args w, (callFunc gf args).run P w = .ok (.enter gf args) w)
    {encs : α → Array Value} {T : α → World → Prop} {B : Nat → Prop} {S : List α → World → Prop} (hseq : SeqW F (n - 1) P gf lb encs T B S w) (hB : ∀ c, w.heap.size ≤ c → B c)
    (hT : ∀ x A A', T x A → Fr KC A A' → T x A') (hS : ∀ xs A A', S xs A → Fr KC A A' → S xs A') (hps : ∀ x, (encs x).size = ps.size)
    (I : List α → World → Prop) (hI : ∀ xs A A', I xs A → Fr KC A A' → I xs A') (h0 : I [] w) (Ax : α → World → Act → World → Prop)
    (hassign : ∀ (l : Nat) (x : α) (W : World) (K : Act → World → Prop), (∀ a' W', Ax x W a' W' → Fr (fun _ _ => True) W W' → K a' W') →
      assign.wpIn (F.inRound l) (n - 1 - 1) P (Exit.then K (fun _ _ _ => False)) { tmps := (ps.zip (encs x)).foldl (fun t (p, v) => t.setIfInBounds p v) a.tmps, defers := [] } W)
    (hbody : ∀ (l : Nat) (pre : List α) (x : α) (W : World) (a' : Act) (W' Wb : World), Fr (fun c _ => B c) w W → I pre W → T x W → Ax x W a' W' → Fr (fun _ _ => True) W W' → Fr KC W' Wb → body.wpIn (F.inRound l) (n - 1 - 1) P (roundEnd B I (pre ++ [x]) Wb) a' Wb)
    (hdone : ∀ (D : Nat) (xs : List α) (W : World), w.heap.size ≤ D → S xs W → I xs W → W.heap[D]? = some (.deferred (some [])) → Fr (fun c _ => B c) w W → Q .normal { a with defers := { target := .collected D, args := #[] } :: a.defers } W) :
    (Code.rangeFunc g ps assign body).wpIn F n P Q a w := by
  refine wpIn_rangeFunc ?_
  intro fn hfn
  rw [hro]
  obtain ⟨rec, hrec⟩ : ∃ rec : LoopState → Option Code → Loop, rec = fun st pe => { state := st, pending := pe, fn, tmps := a.tmps, params := ps, assign, body, defers := w.heap.size } := ⟨_, rfl⟩
  obtain ⟨W1, hW1⟩ : ∃ W1, (w.alloc (.deferred (some []))).alloc (.loop (rec .ready none)) = W1 := ⟨_, rfl⟩
  have hF1 : Fr (fun _ _ => True) w W1 := by rw [← hW1]; exact ((Fr.refl _ _).alloc _).alloc _
  have hL1 : W1.heap[w.heap.size + 1]? = some (.loop (rec .ready none)) := by
    rw [← hW1]; have := World.alloc_heap_new (w.alloc (.deferred (some []))) (.loop (rec .ready none)); rwa [World.size_alloc] at this
  have hK1 : W1.heap[w.heap.size]? = some (.deferred (some [])) := by
    rw [← hW1]; exact (Below.heap_alloc _ _ _ (by simp)).trans (World.alloc_heap_new w _)
  refine ⟨w.heap.size + 1, [{ target := .collected w.heap.size, args := #[] }], W1, { target := .fn (.func gf) lb, args := #[.func (.yield (w.heap.size + 1)) #[] #[]] }, W1, gf,
    #[.func (.yield (w.heap.size + 1)) #[] #[]] ++ lb, W1, ?_, ?_, ?_, ?_, fun _ => h1, ?_⟩
  · rw [← hW1, hrec]; exact run_enterLoop_outer _ _ _ _ _
  · simp only [resolve, hg]
    simp [go_sem]
  · intro f' hf'; simp [Target.leads] at hf'; subst hf'; exact hFg
  · simp [invoke, go_sem, eg]
  · refine (hseq (w.heap.size + 1)
      (fun pre W => I pre W ∧ W.heap[w.heap.size + 1]? = some (.loop (rec .ready none)) ∧ W.heap[w.heap.size]? = some (.deferred (some [])) ∧ Fr (fun c _ => B c) w W)
      W1 hF1 (fun pre A A' hj hf => ⟨hI _ _ _ hj.1 (hf.mono fun _ _ _ => trivial), hf.keep _ _ hj.2.1 trivial, hf.keep _ _ hj.2.2.1 trivial, hj.2.2.2.trans (hf.mono fun _ _ _ => trivial)⟩)
      ?_ ⟨hI _ _ _ h0 (hF1.mono fun _ _ _ => trivial), hL1, hK1, hF1.mono fun _ _ _ => trivial⟩).mono ?_
    · rintro pre x W ⟨hi, hl, hk, hfw⟩ ht
      have hy := run_yield (P := P) (args := encs x) hl (by rw [hrec]; exact hps x)
      rw [hrec] at hy
      refine ⟨fn, _, assign, body, hy, roundIn_of_wpIn hfn (hassign _ x W _ ?_)⟩
      intro a' Wa hax hfa
      have hla := hfa.keep _ _ hl trivial
      have hka := hfa.keep _ _ hk trivial
      have hlt : w.heap.size + 1 < Wa.heap.size := lt_of_some hla
      refine ⟨_, run_beginRound hla (by rw [hrec]), ?_⟩
      have hl2 : (Wa.putObj (w.heap.size + 1) (.loop { rec .ready none with state := .busy })).heap[w.heap.size + 1]? = some (.loop { rec .ready none with state := .busy }) := World.putObj_heap_same hlt
      have hk2 : (Wa.putObj (w.heap.size + 1) (.loop { rec .ready none with state := .busy })).heap[w.heap.size]? = some (.deferred (some [])) := (World.putObj_heap_other (by omega)).trans hka
      have hc2 : Fr KC Wa (Wa.putObj (w.heap.size + 1) (.loop { rec .ready none with state := .busy })) := Fr.putLoop hla rfl _
      refine wpIn_mono (hbody _ pre x W a' Wa _ hfw hi ht hax hfa hc2) ?_
      rintro e a3 W3 hp
      cases e with
      | normal =>
        obtain ⟨hf3, hi3⟩ := hp
        have hl3 := hf3.keep _ _ hl2 (hB _ (by omega))
        have hk3 := hf3.keep _ _ hk2 (hB _ (by omega))
        have he := run_endRound (P := P) none hl3
        have hs3 := Nat.lt_of_lt_of_le hlt (show Wa.heap.size ≤ W3.heap.size from by have := hf3.size; rwa [size_putObj] at this)
        have el : (W3.putObj (w.heap.size + 1) (.loop (rec .ready none))).heap[w.heap.size + 1]? = some (.loop (rec .ready none)) := World.putObj_heap_same hs3
        have hfr : Fr (fun c _ => B c) W (W3.putObj (w.heap.size + 1) (.loop (rec .ready none))) := by
          refine ⟨hf3.os.trans hfa.os, hf3.tape.trans hfa.tape, hf3.output.trans hfa.output, ?_, fun b o hb hBb => ?_⟩
          · rw [size_putObj]
            have q1 := hfa.size
            have q2 := hf3.size
            rw [size_putObj] at q2
            omega
          · by_cases hbl : b = w.heap.size + 1
            · subst hbl; rw [el, ← hl, hb]
            · rw [World.putObj_heap_other hbl]
              exact hf3.keep b o ((World.putObj_heap_other hbl).trans (hfa.keep b o hb trivial)) hBb
        refine ⟨_, _, he, rfl, ⟨?_, ?_, ?_, ?_⟩, ?_⟩
        · exact hI _ _ _ hi3 (Fr.putLoop hl3 rfl _)
        · rw [hrec] at el ⊢; exact el
        · exact (World.putObj_heap_other (by omega)).trans hk3
        · rw [hrec] at hfr ⊢; exact hfw.trans hfr
        · rw [hrec] at hfr ⊢; exact hfr
      | ret => exact hp.elim
      | exit id => exact hp.elim
      | goto t => exact hp.elim
      | panic ch => exact hp.elim
      | outgrown => exact hp.elim
    · rintro e W2 ⟨⟨v, rfl⟩, xs, hs, hi, hl, hk, hfw⟩
      have hq : Fr KC W2 (W2.putObj (w.heap.size + 1) (.loop { rec .ready none with state := .exhausted })) := Fr.putLoop hl rfl _
      refine ⟨none, _, by have := run_endLoop (P := P) hl (by rw [hrec]; simp); rw [hrec] at this; exact this, ?_⟩
      refine hdone _ xs _ (Nat.le_refl _) ?_ ?_ ((World.putObj_heap_other (by omega)).trans hk) ?_
      · rw [hrec] at hq; exact hS _ _ _ hs hq
      · rw [hrec] at hq; exact hI _ _ _ hi hq
      · exact hfw.putObj (fun o ho => absurd (lt_of_some ho) (by omega)) _
end Go.Proofs.YtaeonlafcbgpcaaDoor
/- Slices of bytes: how they read; slices.Clone. -/
namespace Go.Proofs.YtaeonlafcbgpcaaDoor
open Go.RowKit

/-- A byte in memory. -/
def byteV (b : UInt8) : Value := .int .u8 b.toNat
/-- A slice of bytes that reads as bs, in a block that K names. -/
def BytesAt (K : Nat → Obj → Prop) (w : World) (v : Value) (bs : List UInt8) : Prop :=
  ∃ a cap, v = .slice a bs.length cap ∧ bs.length ≤ cap ∧ (a = none → cap = 0) ∧ (bs = [] ∨ ∃ b off o, a = some ⟨b, off, none⟩ ∧ w.heap[b]? = some o ∧ K b o ∧ ∀ i, (h : i < bs.length) → w.cell? ⟨b, off + i, none⟩ = some (byteV bs[i]))

theorem BytesAt.nil (K : Nat → Obj → Prop) (w : World) : BytesAt K w (.slice none 0 0) [] := ⟨none, 0, rfl, Nat.le_refl _, fun _ => rfl, .inl rfl⟩
theorem BytesAt.fr {K : Nat → Obj → Prop} {w w' : World} {v : Value} {bs : List UInt8} (h : BytesAt K w v bs) (hf : Fr K w w') : BytesAt K w' v bs := by
  obtain ⟨a, cap, hv, hl, hn, h⟩ := h
  refine ⟨a, cap, hv, hl, hn, ?_⟩
  rcases h with h | ⟨b, off, o, ha, hb, hk, hc⟩
  · exact .inl h
  · refine .inr ⟨b, off, o, ha, hf.keep b o hb hk, hk, fun i hi => ?_⟩
    exact hf.cell (fun o' ho => by rw [hb] at ho; cases ho; exact hk) (hc i hi)
theorem BytesAt.mono {K K' : Nat → Obj → Prop} {w : World} {v : Value} {bs : List UInt8} (h : BytesAt K w v bs) (hK : ∀ b o, w.heap[b]? = some o → K b o → K' b o) : BytesAt K' w v bs := by
  obtain ⟨a, cap, hv, hl, hn, h⟩ := h
  refine ⟨a, cap, hv, hl, hn, ?_⟩
  rcases h with h | ⟨b, off, o, ha, hb, hk, hc⟩
  · exact .inl h
  · exact .inr ⟨b, off, o, ha, hb, hK b o hb hk, hc⟩
theorem BytesAt.form {K : Nat → Obj → Prop} {w : World} {v : Value} {bs : List UInt8} (h : BytesAt K w v bs) : ∃ a cap, v = .slice a bs.length cap := by
  obtain ⟨a, cap, hv, _⟩ := h
  exact ⟨a, cap, hv⟩
theorem BytesAt.tt {K : Nat → Obj → Prop} {w w' : World} {v : Value} {bs : List UInt8} (h : BytesAt K w v bs) (hf : Fr (fun _ _ => True) w w') : BytesAt K w' v bs := h.fr (hf.mono fun _ _ _ => trivial)
/-- The cell of a byte. -/
theorem BytesAt.cell {K : Nat → Obj → Prop} {w : World} {b off n cap : Nat} {bs : List UInt8} (h : BytesAt K w (.slice (some ⟨b, off, none⟩) n cap) bs) {i : Nat} (hi : i < bs.length) : w.cell? ⟨b, off + i, none⟩ = some (byteV bs[i]) := by
  obtain ⟨a, cap, hv, hl, hn, h⟩ := h
  rcases h with rfl | ⟨b', off', o, ha, hb, hk, hc⟩
  · simp at hi
  · subst ha; cases hv; exact hc i hi
theorem BytesAt.len {K : Nat → Obj → Prop} {w : World} {a : Option Addr} {n cap : Nat} {bs : List UInt8} (h : BytesAt K w (.slice a n cap) bs) : n = bs.length := by
  obtain ⟨a, cap, hv, _⟩ := h
  cases hv; rfl
theorem BytesAt.addr {K : Nat → Obj → Prop} {w : World} {a : Option Addr} {n cap : Nat} {bs : List UInt8} (h : BytesAt K w (.slice a n cap) bs) (h0 : 0 < bs.length) : ∃ b off, a = some ⟨b, off, none⟩ := by
  obtain ⟨a', cap, hv, hl, hn, h⟩ := h
  rcases h with rfl | ⟨b', off', o, ha, _⟩
  · simp at h0
  · cases hv; exact ⟨_, _, ha⟩

/-- Blocks of bytes that are new since n. -/
def New (n : Nat) (b : Nat) (o : Obj) : Prop := n ≤ b ∧ ∃ cs fz, o = .cells cs 5 fz

theorem info_u8 : (Tryd.prog.info? 5).map (fun i => (i.zero, i.size, i.bytes)) = some (some (.int .u8 0), 1, 1) := by kernel_rfl

/-- An owned row of bytes reads as bytes. -/
theorem BytesAt.of_owns {w : World} {B : Nat} {v : Value} {bs : List UInt8} (h : w.ownsRow B 5 1 v bs.length (bs.map byteV)) : BytesAt (New B) w v bs := by
  obtain ⟨h1, h2⟩ := h
  rcases h2 with ⟨hv, hn⟩ | ⟨g, cap, cur, hv, hg, hh, hn, hc, hs, ht⟩
  · have e := List.length_eq_zero_iff.1 hn
    subst e hv
    exact BytesAt.nil _ _
  · refine ⟨_, cap, hv, hn, (fun e => by cases e), .inr ⟨g, 0, _, rfl, hh, ⟨hg, _, _, rfl⟩, fun i hi => ?_⟩⟩
    have e1 : cur.toList[i]? = (bs.map byteV)[i]? := by rw [← ht, List.getElem?_take, if_pos (by omega)]
    have e2 : cur[i]? = some (byteV bs[i]) := by rw [← Array.getElem?_toList, e1]; simp [hi]
    simp [World.cell?, hh, e2]

theorem cell_of_row {w : World} {b off j : Nat} {cs : Array Value} {e : TypeId} {fz : Nat × Nat} {u : Value} (h : w.heap[b]? = some (.cells cs e fz)) (hc : cs[off + j]? = some u) : w.cell? (Addr.add ⟨b, off, none⟩ j) = some u := by
  unfold Addr.add
  split
  · subst j; simpa [World.cell?, h] using hc
  · simpa [World.cell?, h] using hc

set_option maxRecDepth 100000 in
theorem clone_nil (w : World) : Calls Tryd.prog 46 #[.slice none 0 0] w fun e w' => e = .returned (.slice none 0 0) ∧ w = w' := by
  have hq := fun (w : World) (a : Option Addr) (n c n' c' : Nat) => Lib.run_eql_slice_nil (P := Tryd.prog) w 23 5 a n c n' c' Tryd.underlying23
  go_enter Tryd.func46, Tryd.ntmps46
  go_wp2
  go_ret
  exact ⟨rfl, rfl⟩

theorem BytesAt.src {K : Nat → Obj → Prop} {w : World} {v : Value} {bs : List UInt8} (h : BytesAt K w v bs) : SrcAt w 1 v bs.length (bs.map byteV) := by
  obtain ⟨a, cap, rfl, hl, hn, h⟩ := h
  cases a with
  | none =>
    have := hn rfl
    have e : bs.length = 0 := by omega
    have e' := List.length_eq_zero_iff.1 e
    subst e' this
    exact .inl ⟨rfl, rfl, rfl⟩
  | some ad =>
    refine .inr ⟨ad, cap, rfl, by simp, fun j u hu => ?_, fun u hu => ?_⟩
    · have hj : j < bs.length := by
        rcases Nat.lt_or_ge j bs.length with h1 | h1
        · exact h1
        · rw [List.getElem?_eq_none (by simpa using h1)] at hu; cases hu
      have hu' : u = byteV bs[j] := by
        rw [List.getElem?_map, List.getElem?_eq_getElem hj] at hu
        exact (Option.some.inj hu).symm
      rcases h with rfl | ⟨b, off, o, ha, hb, hk, hc⟩
      · simp at hj
      · cases ha
        rw [hu']
        have e1 := hc j hj
        unfold Addr.add
        split
        · subst j; exact e1
        · exact e1
    · obtain ⟨x, _, rfl⟩ := List.mem_map.1 hu
      rfl

set_option maxRecDepth 100000 in
theorem clone_some {K : Nat → Obj → Prop} (w : World) (ad : Addr) (n cap : Nat) (bs : List UInt8) (h : BytesAt K w (.slice (some ad) n cap) bs) (hm : n ≤ 140737488355328) :
    Calls Tryd.prog 46 #[.slice (some ad) n cap] w fun e w' => ∃ v, e = .returned v ∧ w'.ownsRow w.heap.size 5 1 v n (bs.map byteV) ∧ Fr (fun _ _ => True) w w' := by
  have hq := fun (w : World) (a : Option Addr) (n c n' c' : Nat) => Lib.run_eql_slice_nil (P := Tryd.prog) w 23 5 a n c n' c' Tryd.underlying23
  obtain ⟨i0, hi, hz0, hz1, hz2⟩ := info_parts info_u8
  have hn := h.len
  have hown : (w.alloc (.cells #[] 5)).ownsRow w.heap.size 5 1 (.slice (some ⟨w.heap.size, 0, none⟩) 0 0) 0 [] := World.ownsRow_lit w #[] 0 (Nat.le_refl _) (by simp) rfl
  have hsrc : SrcAt (w.alloc (.cells #[] 5)) 1 (.slice (some ad) n cap) n (bs.map byteV) := by
    have := (h.tt ((Fr.refl _ _).alloc (.cells #[] 5))).src
    rwa [← hn] at this
  clear h hn
  go_enter Tryd.func46, Tryd.ntmps46
  go_wp2_with (at_builtin; refine wpList_append_src _ rfl _ _ 23 rfl w.heap.size 5 i0 (.int .u8 0) 1 1 Tryd.underlying23 hi hz0 hz1 hz2 rfl (by decide) _ 0 [] rfl hown _ n (bs.map byteV) rfl hsrc ?c2 ?c3 ?c4 ?_)
  case c2 => unfold maxLen; omega
  case c3 => omega
  case c4 => simp
  intro v w1 hown1 hg hnil
  go_wp2
  go_ret
  exact ⟨v, rfl, by simpa using hown1, (Fr.alloc (Fr.refl _ _) _).grown_new hg fun k e => by simp [Value.ownBlock] at e; omega⟩

/-- slices.Clone of bytes: the same bytes, in new memory. -/
theorem clone_calls {K : Nat → Obj → Prop} (w : World) (v : Value) (bs : List UInt8) (h : BytesAt K w v bs) (hm : bs.length ≤ 140737488355328) :
    Calls Tryd.prog 46 #[v] w fun e w' => ∃ a cap, e = .returned (.slice a bs.length cap) ∧ BytesAt (New w.heap.size) w' (.slice a bs.length cap) bs ∧ Fr (fun _ _ => True) w w' := by
  obtain ⟨a, cap, rfl, hl, hn, h'⟩ := id h
  cases a with
  | none =>
    have := hn rfl
    have e : bs.length = 0 := by omega
    have e' := List.length_eq_zero_iff.1 e
    subst e' this
    exact (clone_nil w).mono fun e w' ⟨he, hw⟩ => ⟨none, 0, he, BytesAt.nil _ _, hw ▸ Fr.refl _ _⟩
  | some ad =>
    refine (clone_some w ad _ cap bs h hm).mono fun e w' ⟨v, he, ho, hf⟩ => ?_
    have hv := BytesAt.of_owns ho
    obtain ⟨a, cap, rfl⟩ := hv.form
    exact ⟨a, cap, he, hv, hf⟩

end Go.Proofs.YtaeonlafcbgpcaaDoor
/- Package pack: the Writer. -/
namespace Go.Proofs.YtaeonlafcbgpcaaDoor
open Go.RowKit

/-- A number's bytes, the lowest first. -/
def le (n : Nat) : Nat → List UInt8
  | 0 => []
  | k + 1 => UInt8.ofNat n :: le (n / 256) k
theorem le_length (n : Nat) : ∀ k, (le n k).length = k
  | 0 => rfl
  | k + 1 => by rw [le, List.length_cons, le_length]
theorem le_snoc (n : Nat) : ∀ k, le n (k + 1) = le n k ++ [UInt8.ofNat (n / 256 ^ k)]
  | 0 => by simp [le]
  | k + 1 => by
    rw [le, le_snoc (n / 256) k, le, List.cons_append, Nat.div_div_eq_div_mul, Nat.pow_succ, Nat.mul_comm 256]

theorem wrap_byte (m : Nat) : IntKind.u8.wrap (m : Int) = ((UInt8.ofNat m).toNat : Int) := by
  rw [UInt8.toNat_ofNat', IntKind.wrap_u8]
  omega
theorem shr_byte (n k : Nat) : IntKind.u8.wrap ((n : Int) / 2 ^ (8 * (k : Int)).toNat) = ((UInt8.ofNat (n / 256 ^ k)).toNat : Int) := by
  have h1 : (8 * (k : Int)).toNat = 8 * k := by omega
  rw [h1, ← wrap_byte, show (256 : Nat) ^ k = 2 ^ (8 * k) from by rw [Nat.pow_mul]]
  simp

theorem snoc_length {α : Type} (l : List α) (m : α) : (l ++ [m]).length = l.length + 1 := by simp
theorem snoc_map {α β : Type} (f : α → β) (l : List α) (m : α) : (l ++ [m]).map f = l.map f ++ [f m] := by simp

/-- A Writer at bw whose slice v owns the bytes bs. -/
structure WrAt (w : World) (bw : Nat) (v : Value) (bs : List UInt8) : Prop where
  top : w.heap[bw]? = some (.cells #[v] 69 (0, 0))
  own : w.ownsRow 0 5 1 v bs.length (bs.map byteV)
/-- What a Writer's functions leave alone. -/
def KW (bw : Nat) (v : Value) (b : Nat) (_ : Obj) : Prop := b ≠ bw ∧ v.ownBlock ≠ some b

theorem WrAt.ne {w : World} {bw : Nat} {v : Value} {bs : List UInt8} (h : WrAt w bw v bs) : v.ownBlock ≠ some bw := by
  rcases h.own.2 with ⟨rfl, _⟩ | ⟨g, cap, cur, rfl, _, hg, _⟩
  · simp [Value.ownBlock]
  · intro e
    simp only [Value.ownBlock, Option.some.injEq] at e
    rw [e, h.top] at hg
    cases hg

/-- 'append(v, m)' of one byte, at a step of a region that draws its order. -/
theorem step_append_byte {ops : Array Oper} {o : Oper} {a : Act} {K : Act → World → Prop} {Q : Exit → Act → World → Prop} {E : Prop} (W : World) (hgd : o.guard = none) (s x : Operand)
    (ho : o.op = .call { callee := .builtin .append, args := #[s, x], argTypes := #[23, 23] }) (v : Value) (n : Nat) (xs : List Value) (hs : a.eval s = v) (hown : W.ownsRow 0 5 1 v n xs)
    (B : Nat) (m : UInt8) (hx : a.eval x = .slice (some ⟨B, 0, none⟩) 1 1) (hb : W.heap[B]? = some (.cells #[byteV m] 5 (0, 0))) (hn : n ≤ 2000000)
    (h : ∀ g cap w', w'.ownsRow 0 5 1 (.slice (some ⟨g, 0, none⟩) (n + 1) cap) (n + 1) (xs ++ [byteV m]) → W.grownBy w' v.ownBlock → (v.ownBlock = some g ∨ g = W.heap.size) → g < w'.heap.size → K (a.put o.dst (.slice (some ⟨g, 0, none⟩) (n + 1) cap)) w') :
    if Region.wanted o (yielded ops a.tmps) = true then Oper.wp Tryd.prog o a W K Q else E := by
  obtain ⟨i0, hi, hz0, hz1, hz2⟩ := info_parts info_u8
  exact step_append_lies W hgd s x 23 ho 0 5 i0 (.int .u8 0) 1 1 Tryd.underlying23 hi hz0 hz1 hz2 rfl (by decide) v n xs hs hown ⟨B, 0, none⟩ 1 1 [byteV m] hx rfl
    (World.news_of_block hb) (fun u hu => by rw [List.mem_singleton.1 hu]; rfl) (by decide) (by unfold maxLen; omega) (by omega) (Nat.zero_le _) _ rfl h

set_option maxRecDepth 100000 in
set_option maxHeartbeats 1000000 in
theorem wnum_main (w : World) (bw : Nat) (v : Value) (bs : List UInt8) (n : Nat) (size : Nat) (h : WrAt w bw v bs) (h1 : 1 ≤ size) (h8 : size ≤ 8) (hn : n < 18446744073709551616) (hb : bs.length ≤ 1000000) :
    Calls Tryd.prog 38 #[.pointer (some ⟨bw, 0, none⟩), .int .u64 n, .int .i64 size] w fun e w' => e = .returned (.tuple #[]) ∧
      ∃ v', WrAt w' bw v' (bs ++ le n size) ∧ Fr (KW bw v) w w' ∧ (v'.ownBlock = v.ownBlock ∨ ∀ k, v'.ownBlock = some k → w.heap.size ≤ k) := by
  have h1' : (1 : Int) ≤ size := by omega
  have h8' : (size : Int) ≤ 8 := by omega
  have H := Lib.hid h
  clear h
  go_enter Tryd.func38, Tryd.ntmps38
  go_wp2
  go_loopw [14] (fun i wr => ∃ (k : Nat) (v' : Value), k ≤ size ∧ i = .int .i64 k ∧ WrAt wr bw v' (bs ++ le n k) ∧ Fr (KW bw v) w wr ∧ (v'.ownBlock = v.ownBlock ∨ ∀ k, v'.ownBlock = some k → w.heap.size ≤ k)) (fun i _ => size - (intOf i).toNat)
  case atStart => exact ⟨0, v, Nat.zero_le _, rfl, by simpa [le] using H.out, Fr.refl _ _, .inl rfl⟩
  case round =>
    obtain ⟨k, v', hk, rfl, hw, hf, hv⟩ := hrel
    have hcl : (bs ++ le n k).length ≤ 1000008 := by rw [List.length_append, le_length]; omega
    generalize hcur : bs ++ le n k = cur at hw hcl
    have HC := Lib.hid hcur
    clear hcur
    have HW := Lib.hid hw
    have HF := Lib.hid hf
    have HV := Lib.hid hv
    clear hf hv
    by_cases hlt : k < size
    · have hc := cell_mk (i := 0) hw.top rfl
      have hfz := frozen_mk (i := 0) hw.top
      have hbw : bw < wr.heap.size := lt_of_some hw.top
      clear hw
      have e8 : IntKind.i64.wrap (8 * (k : Int)) = 8 * (k : Int) := IntWalk.i64_in _ (by omega)
      have hX := shr_byte n k
      have hle := Lib.hid (le_snoc n k)
      generalize UInt8.ofNat (n / 256 ^ k) = m at hX hle
      go_wp2
      go_region_law ((refine step_append_byte _ rfl _ _ rfl v' _ _ rfl (HW.out.own.alloc _).drew wr.heap.size m rfl (heap_alloc_new wr _) (by omega) ?_; intro g cap w1 hown1 hg1 hat1 hlt1; have t1 := Lib.hid (grown_block hg1 (heap_alloc_lt HW.out.top _) HW.out.ne); have c1 : w1.cell? ⟨bw, 0, none⟩ = some v' := cell_mk t1.out rfl; have f1 : w1.frozen? ⟨bw, 0, none⟩ = false := frozen_mk t1.out))
      all_goals
        have F1 := Lib.hid ((HF.out.alloc _).drew.grown hg1 fun q o e ho hk => by
          rcases HV.out with hv | hv
          · exact hk.2 (hv ▸ e)
          · have := hv q e; have := lt_of_some ho; omega)
        have hgne : g ≠ bw := fun e => by
          rcases hat1 with h | h
          · exact HW.out.ne (e ▸ h)
          · have : g = wr.heap.size + 1 := by simpa using h
            omega
        have hV1 : Hid ((some g : Option Nat) = v.ownBlock ∨ ∀ q, some g = some q → w.heap.size ≤ q) := by
          rcases hat1 with h | h
          · rcases HV.out with hv | hv
            · exact .inl (h.symm.trans hv)
            · exact .inr fun q e => hv q (h.trans e)
          · refine .inr fun q e => ?_
            cases e
            have e1 : g = wr.heap.size + 1 := by simpa using h
            have := HF.out.size
            omega
        have O1 := Lib.hid hown1
        clear hown1 hg1 hat1
        go_wp2
        go_roundw
        case rel =>
          refine ⟨k + 1, _, by omega, by go_num, ⟨heap_setCell_same t1.out _, ?_⟩, F1.out.setCell (fun _ _ h => h.1 rfl) _, hV1.out⟩
          have e1 : bs ++ le n (k + 1) = cur ++ [m] := by rw [hle.out, ← HC.out, List.append_assoc]
          rw [e1, snoc_length, snoc_map]
          exact ownsRow_setCell_ne (p := ⟨bw, 0, none⟩) O1.out (fun e => hgne (Option.some.inj e)) _
        case measure => simp [intOf]; omega
    · obtain rfl : k = size := by omega
      clear hw
      go_wp2
      go_end0
      exact ⟨rfl, v', HC.out ▸ HW.out, HF.out, HV.out⟩
end Go.Proofs.YtaeonlafcbgpcaaDoor
