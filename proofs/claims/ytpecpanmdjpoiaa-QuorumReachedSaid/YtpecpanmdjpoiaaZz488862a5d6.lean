/- Texts of the proofs, part 1: what the functions that they reach do, walked; no conditions beyond those that each states. -/
import Derived.WalkKit
import Derived.WalkSpells
import Derived.WalkLawsBesides
import Derived.Lib.Hide
import Derived.Maps.OwnOps
import Derived.RangeFuncRecord
import Derived.Laws.AppendOwnNone
import Derived.Deep.Slices
import Derived.Deep.Fields
import Derived.ChangeSame
import Derived.ProofKit
import Derived.Test.YtpecpanmdjpoiaaProg
import Derived.Deep.QuietTactic
import Derived.BigQuiet
set_option linter.unusedVariables false
set_option linter.unusedSimpArgs false
/- General lemmas of ours: frames between two worlds, maps keyed by integers. -/
namespace Go.Proofs.Ytpecpanmdjpoiaa
open Go.RowKit

/-- What a step keeps: every block that K names reads as it read. -/
structure Fr (K : Nat → Obj → Prop) (w w' : World) : Prop where
  os : w'.os = w.os
  tape : w'.tape = w.tape
  output : w'.output = w.output
  size : w.heap.size ≤ w'.heap.size
  keep : ∀ (b : Nat) (o : Obj), w.heap[b]? = some o → K b o → w'.heap[b]? = some o

theorem Fr.refl (K : Nat → Obj → Prop) (w : World) : Fr K w w := ⟨rfl, rfl, rfl, Nat.le_refl _, fun _ _ h _ => h⟩
theorem Fr.trans {K : Nat → Obj → Prop} {a b c : World} (h : Fr K a b) (k : Fr K b c) : Fr K a c :=
  ⟨k.os.trans h.os, k.tape.trans h.tape, k.output.trans h.output, Nat.le_trans h.size k.size, fun i o hi hk => k.keep i o (h.keep i o hi hk) hk⟩
theorem Fr.mono {K K' : Nat → Obj → Prop} {a b : World} (h : Fr K a b) (hK : ∀ i o, K' i o → K i o) : Fr K' a b :=
  ⟨h.os, h.tape, h.output, h.size, fun i o hi hk => h.keep i o hi (hK i o hk)⟩
theorem Fr.tt {K : Nat → Obj → Prop} {a w w' : World} (h : Fr K a w) (hf : Fr (fun _ _ => True) w w') : Fr K a w' := h.trans (hf.mono fun _ _ _ => trivial)
theorem Fr.drew {K : Nat → Obj → Prop} {a w : World} (h : Fr K a w) : Fr K a w.drew := ⟨h.os, h.tape, h.output, h.size, h.keep⟩
theorem lt_of_some {w : World} {b : Nat} {o : Obj} (h : w.heap[b]? = some o) : b < w.heap.size := by
  rcases Nat.lt_or_ge b w.heap.size with h1 | h1
  · exact h1
  · rw [Array.getElem?_eq_none h1] at h; cases h
theorem Fr.alloc {K : Nat → Obj → Prop} {a w : World} (h : Fr K a w) (o : Obj) : Fr K a (w.alloc o) :=
  h.trans ⟨rfl, rfl, rfl, by simp, fun b _ hb _ => by rw [Below.heap_alloc _ _ _ (lt_of_some hb)]; exact hb⟩
theorem Fr.of_grown {K : Nat → Obj → Prop} {w w' : World} {row : Option Nat} (hg : w.grownBy w' row) (hr : ∀ k o, row = some k → w.heap[k]? = some o → ¬ K k o) : Fr K w w' :=
  ⟨hg.os, hg.tape, hg.output, hg.size, fun b o hb hk => by rw [hg.block b (lt_of_some hb) (fun e => hr b o e.symm hb hk)]; exact hb⟩
theorem Fr.of_below {w w' : World} {B : Nat} (h : Below B w w') : Fr (fun b _ => b < B) w w' :=
  ⟨h.os, h.tape, h.output, h.size, fun b o hb hk => by rw [h.block b hk]; exact hb⟩
theorem Fr.below {w w' : World} {B : Nat} (h : Fr (fun b _ => b < B) w w') (hB : B ≤ w.heap.size) : Below B w w' :=
  ⟨h.os, h.tape, h.output, h.size, fun b hb => by
    have hl : b < w.heap.size := Nat.lt_of_lt_of_le hb hB
    have e : w.heap[b]? = some (w.heap[b]) := Array.getElem?_eq_getElem hl
    rw [e]; exact h.keep b _ e hb⟩

/-- Behind an append or a make: the row that may have been written is new since a, or K does not name it. -/
theorem Fr.grown {K : Nat → Obj → Prop} {a w w' : World} {row : Option Nat} (h : Fr K a w) (hg : w.grownBy w' row) (hr : ∀ k o, row = some k → a.heap[k]? = some o → ¬ K k o) : Fr K a w' :=
  ⟨hg.os.trans h.os, hg.tape.trans h.tape, hg.output.trans h.output, Nat.le_trans h.size hg.size, fun b o hb hk => by
    have h1 := h.keep b o hb hk
    rw [hg.block b (lt_of_some h1) (fun e => hr b o e.symm hb hk)]; exact h1⟩
theorem Fr.grown_new {K : Nat → Obj → Prop} {a w w' : World} {row : Option Nat} (h : Fr K a w) (hg : w.grownBy w' row) (hr : ∀ k, row = some k → a.heap.size ≤ k) : Fr K a w' :=
  h.grown hg fun k o e ho => by have := lt_of_some ho; have := hr k e; omega
theorem Fr.setCell {K : Nat → Obj → Prop} {a w : World} (h : Fr K a w) {p : Addr} (hp : ∀ o, a.heap[p.block]? = some o → ¬ K p.block o) (u : Value) : Fr K a (w.setCell p u) :=
  ⟨h.os, h.tape, h.output, by have := h.size; simpa [World.setCell] using this, fun b o hb hk => by
    have h1 := h.keep b o hb hk
    rw [Below.heap_setCell _ _ _ _ (fun e => hp o (e ▸ hb) (e ▸ hk))]; exact h1⟩
theorem Fr.setCell_new {K : Nat → Obj → Prop} {a w : World} (h : Fr K a w) {p : Addr} (hp : a.heap.size ≤ p.block) (u : Value) : Fr K a (w.setCell p u) :=
  h.setCell (fun o ho => by have := lt_of_some ho; omega) u
theorem Fr.putObj {K : Nat → Obj → Prop} {a w : World} (h : Fr K a w) {r : Nat} (hp : ∀ o, a.heap[r]? = some o → ¬ K r o) (x : Obj) : Fr K a (w.putObj r x) :=
  ⟨h.os, h.tape, h.output, by have := h.size; simpa [World.putObj] using this, fun b o hb hk => by
    have h1 := h.keep b o hb hk
    have hne : b ≠ r := fun e => hp o (e ▸ hb) (e ▸ hk)
    rw [World.putObj_heap_other hne]; exact h1⟩

theorem heap_setCell_same {w : World} {b o : Nat} {cs : Array Value} {t : TypeId} {fz : Nat × Nat} (h : w.heap[b]? = some (.cells cs t fz)) (v : Value) : (w.setCell ⟨b, o, none⟩ v).heap[b]? = some (.cells (cs.setIfInBounds o v) t fz) := by
  simp [World.setCell, Array.getElem?_modify, h]
theorem heap_setCell_ne {w : World} {b o k : Nat} (h : k ≠ b) (v : Value) : (w.setCell ⟨b, o, none⟩ v).heap[k]? = w.heap[k]? := Below.heap_setCell w ⟨b, o, none⟩ v k h
theorem heap_alloc_lt {w : World} {k : Nat} {x : Obj} (h : w.heap[k]? = some x) (o : Obj) : (w.alloc o).heap[k]? = some x := by rw [Below.heap_alloc _ _ _ (lt_of_some h)]; exact h
theorem heap_alloc_new (w : World) (o : Obj) : (w.alloc o).heap[w.heap.size]? = some o := by show (w.heap.push o)[w.heap.size]? = _; simp
theorem cell_mk {w : World} {b i : Nat} {cs : Array Value} {t : TypeId} {fz : Nat × Nat} {v : Value} (h : w.heap[b]? = some (.cells cs t fz)) (hc : cs[i]? = some v) : w.cell? ⟨b, i, none⟩ = some v := by
  unfold World.cell?; rw [h]; exact hc
theorem frozen_mk {w : World} {b i : Nat} {cs : Array Value} {t : TypeId} (h : w.heap[b]? = some (.cells cs t (0, 0))) : w.frozen? ⟨b, i, none⟩ = false := by
  unfold World.frozen?; rw [h]; simp
theorem heap_alloc_at {w : World} {n : Nat} (h : w.heap.size = n) (o : Obj) : (w.alloc o).heap[n]? = some o := h ▸ heap_alloc_new w o
theorem size_setCell' (w : World) (a : Addr) (v : Value) : (w.setCell a v).heap.size = w.heap.size := by simp [World.setCell]
theorem size_putObj' (w : World) (r : Nat) (o : Obj) : (w.putObj r o).heap.size = w.heap.size := by simp [World.putObj]
theorem grown_block {W w1 : World} {row : Option Nat} {b : Nat} {o : Obj} (hg : W.grownBy w1 row) (hb : W.heap[b]? = some o) (hne : row ≠ some b) : w1.heap[b]? = some o := by
  rw [hg.block b (lt_of_some hb) (fun e => hne e.symm)]; exact hb
theorem heap_putObj_same {w : World} {b : Nat} {x : Obj} (h : w.heap[b]? = some x) (o : Obj) : (w.putObj b o).heap[b]? = some o := World.putObj_heap_same (lt_of_some h)
theorem heap_putObj_ne {w : World} {b k : Nat} (h : k ≠ b) (o : Obj) : (w.putObj b o).heap[k]? = w.heap[k]? := World.putObj_heap_other h

theorem ownsRow_setCell_ne {w : World} {base : Nat} {e : TypeId} {size : Nat} {v : Value} {n : Nat} {xs : List Value} (h : w.ownsRow base e size v n xs) {p : Addr} (hp : v.ownBlock ≠ some p.block) (u : Value) : (w.setCell p u).ownsRow base e size v n xs := by
  obtain ⟨h1, h2⟩ := h
  refine ⟨h1, ?_⟩
  rcases h2 with h2 | ⟨g, cap, cur, hv, hg, hh, r⟩
  · exact Or.inl h2
  · subst hv
    exact Or.inr ⟨g, cap, cur, rfl, hg, by rw [Below.heap_setCell _ _ _ _ (fun e => hp (by rw [← e]; rfl))]; exact hh, r⟩
theorem ownsRow_fr {K : Nat → Obj → Prop} {w w' : World} {base : Nat} {e : TypeId} {size : Nat} {v : Value} {n : Nat} {xs : List Value} (h : w.ownsRow base e size v n xs) (hf : Fr K w w') (hk : ∀ b o, v.ownBlock = some b → w.heap[b]? = some o → K b o) : w'.ownsRow base e size v n xs := by
  obtain ⟨h1, h2⟩ := h
  refine ⟨h1, ?_⟩
  rcases h2 with h2 | ⟨g, cap, cur, hv, hg, hh, r⟩
  · exact Or.inl h2
  · subst hv
    exact Or.inr ⟨g, cap, cur, rfl, hg, hf.keep _ _ hh (hk g _ rfl hh), r⟩

/-- A map's entries, keyed by integers of one kind. -/
def entriesOf (q : IntKind) (l : List (Int × Value × Nat)) : Array MapEntry := (l.map fun x => ({ key := .int q x.1, val := x.2.1, born := x.2.2 } : MapEntry)).toArray
def look : List (Int × Value × Nat) → Int → Option Value
  | [], _ => none
  | x :: r, n => if x.1 = n then some x.2.1 else look r n
def lay : List (Int × Value × Nat) → Int → Value → Nat → List (Int × Value × Nat)
  | [], n, v, c => [(n, v, c)]
  | x :: r, n, v, c => if x.1 = n then (n, v, x.2.2) :: r else x :: lay r n v c
def drp : List (Int × Value × Nat) → Int → List (Int × Value × Nat)
  | [], _ => []
  | x :: r, n => if x.1 = n then r else x :: drp r n
/-- The map's clock behind a store. -/
def tick (l : List (Int × Value × Nat)) (n : Int) (c : Nat) : Nat := if (look l n).isSome then c else c + 1
/-- Where the key stands. -/
def spot : List (Int × Value × Nat) → Int → Nat
  | [], _ => 0
  | x :: r, n => if x.1 = n then 0 else spot r n + 1

theorem entriesOf_cons (q : IntKind) (x : Int × Value × Nat) (r : List (Int × Value × Nat)) : (entriesOf q (x :: r)).toList = { key := .int q x.1, val := x.2.1, born := x.2.2 } :: (entriesOf q r).toList := rfl
theorem entriesOf_size (q : IntKind) (l : List (Int × Value × Nat)) : (entriesOf q l).size = l.length := by simp [entriesOf]

theorem findNow_int (q q' : IntKind) (n : Int) : ∀ (l : List (Int × Value × Nat)) (i : Nat), Instr.findNow (.int q') (.int q n) (entriesOf q l).toList i = some ((look l n).map fun v => (i + spot l n, v))
  | [], i => rfl
  | x :: r, i => by
    rw [entriesOf_cons]
    simp only [Instr.findNow, Instr.sameNow, look, spot, ↓reduceIte]
    by_cases h : x.1 = n
    · simp [h]
    · have h' : (n == x.1) = false := by rw [beq_eq_false_iff_ne]; exact fun e => h e.symm
      simp only [h', h, ↓reduceIte]
      rw [findNow_int q q' n r (i + 1)]
      simp only [Nat.add_assoc, Nat.add_comm 1]

theorem entries_lay (q : IntKind) (n : Int) (v : Value) (c : Nat) : ∀ (l : List (Int × Value × Nat)), (look l n).isSome = true →
    ((entriesOf q l).modify (spot l n) fun e => { e with key := .int q n, val := v }) = entriesOf q (lay l n v c) := by
  intro l h
  apply Array.toList_inj.1
  rw [Array.toList_modify]
  induction l with
  | nil => simp [look] at h
  | cons x r ih =>
    rw [entriesOf_cons]
    by_cases hx : x.1 = n
    · simp [spot, lay, hx, entriesOf]
    · simp only [look, hx, ↓reduceIte] at h
      simp only [spot, lay, hx, ↓reduceIte, List.modify_succ_cons]
      rw [ih h, entriesOf_cons]

theorem spot_key (q : IntKind) (n : Int) : ∀ (l : List (Int × Value × Nat)), (look l n).isSome = true → ((entriesOf q l)[spot l n]?).map (·.key) = some (.int q n) := by
  intro l h
  rw [← Array.getElem?_toList]
  induction l with
  | nil => simp [look] at h
  | cons x r ih =>
    rw [entriesOf_cons]
    by_cases hx : x.1 = n
    · simp [spot, hx]
    · simp only [look, hx, ↓reduceIte] at h
      simp only [spot, hx, ↓reduceIte, List.getElem?_cons_succ]
      exact ih h

theorem entries_lay_new (q : IntKind) (n : Int) (v : Value) (c : Nat) : ∀ (l : List (Int × Value × Nat)), look l n = none →
    ((entriesOf q l).push { key := .int q n, val := v, born := c }) = entriesOf q (lay l n v c) := by
  intro l h
  apply Array.toList_inj.1
  rw [Array.toList_push]
  induction l with
  | nil => simp [lay, entriesOf]
  | cons x r ih =>
    rw [entriesOf_cons]
    by_cases hx : x.1 = n
    · simp [look, hx] at h
    · simp only [look, hx, ↓reduceIte] at h
      simp only [lay, hx, ↓reduceIte, List.cons_append]
      rw [ih h, entriesOf_cons]

theorem entries_drp (q : IntKind) (n : Int) : ∀ (l : List (Int × Value × Nat)), (look l n).isSome = true →
    ((entriesOf q l).eraseIdxIfInBounds (spot l n)) = entriesOf q (drp l n) := by
  intro l h
  apply Array.toList_inj.1
  rw [Array.toList_eraseIdxIfInBounds]
  induction l with
  | nil => simp [look] at h
  | cons x r ih =>
    rw [entriesOf_cons]
    by_cases hx : x.1 = n
    · simp [spot, drp, hx]
    · simp only [look, hx, ↓reduceIte] at h
      simp only [spot, drp, hx, ↓reduceIte, List.eraseIdx_cons_succ]
      rw [ih h, entriesOf_cons]

section
variable {P : Program} {t k e : TypeId} {q : IntKind} (ht : P.underlying t = some (.map k e)) (hk : P.underlying k = some (.int q))
include hk in
theorem run_checkKey_gen (em : Bool) (m : Nat) (n : Int) (w : World) : (Instr.checkKey em (m + 1) k (.int q n)).run P w = .ok () w := by
  rw [Instr.checkKey]
  simp [run_underlying hk]
include hk in
theorem run_checkKey_int (em : Bool) (n : Int) (w : World) : (Instr.checkKey em 10000 k (.int q n)).run P w = .ok () w := run_checkKey_gen hk em 9999 n w
include hk in
theorem run_findKey_int (n : Int) (l : List (Int × Value × Nat)) (w : World) : (Instr.findKey k (.int q n) (entriesOf q l).toList).run P w = .ok ((look l n).map fun v => (spot l n, v)) w := by
  unfold Instr.findKey
  simp [run_underlying hk, findNow_int]
include ht hk in
theorem run_lookup_int (b : Nat) (n : Int) (l : List (Int × Value × Nat)) (c : Nat) (w : World) (z : Value) (hb : w.heap[b]? = some (.map (entriesOf q l) c)) (hz : (zeroValue e).run P w = .ok z w) :
    (Instr.lookup t (.map (some b)) (.int q n) true).run P w = .ok (.tuple #[(look l n).getD z, .bool (look l n).isSome]) w := by
  unfold Instr.lookup
  cases hl : look l n <;> simp [run_underlying ht, run_getObj_map w b _ c hb, run_checkKey_int hk, run_findKey_int hk, hl, hz]
include ht hk in
theorem run_lookup_int_nil (n : Int) (w : World) (z : Value) (hz : (zeroValue e).run P w = .ok z w) :
    (Instr.lookup t (.map none) (.int q n) true).run P w = .ok (.tuple #[z, .bool false]) w := by
  have h := run_findKey_int (P := P) hk n [] w
  unfold Instr.lookup
  simp [run_underlying ht, run_checkKey_int hk, hz]
  simp [look, entriesOf] at h
  simp [h, hz]
include ht hk in
theorem run_update_int (b : Nat) (n : Int) (v : Value) (l : List (Int × Value × Nat)) (c : Nat) (w : World) (hb : w.heap[b]? = some (.map (entriesOf q l) c)) :
    (Instr.mapUpdate t (.map (some b)) (.int q n) v).run P w = .ok () (w.putObj b (.map (entriesOf q (lay l n v c)) (tick l n c))) := by
  unfold Instr.mapUpdate
  cases hl : look l n with
  | none =>
    simp [run_underlying ht, run_getObj_map w b _ c hb, run_checkKey_int hk, run_findKey_int hk, hl, setObj, Sem.run, hb, World.putObj, entries_lay_new q n v c l hl, tick]
  | some x =>
    have h1 := entries_lay q n v c l (by rw [hl]; rfl)
    have h2 : (((entriesOf q l)[spot l n]?).map (·.key)).getD (.int q n) = .int q n := by
      have := spot_key q n l (by rw [hl]; rfl)
      rw [this]; rfl
    have h3 : Instr.sameBits 10000 (.int q n) (.int q n) = true := by simp [Instr.sameBits]
    have h4 : ∀ W : World, (Instr.keyThatStays (.int q n) (.int q n)).run P W = .ok (.int q n) W := by
      intro W; unfold Instr.keyThatStays; rw [h3]; rfl
    simp only [Sem.run_bind, run_underlying ht, run_getObj_map w b _ c hb, run_checkKey_int hk, run_findKey_int hk, hl, Result.andThen, Option.map_some]
    rw [h2, h4]
    simp [setObj, Sem.run, hb, World.putObj, h1, tick, hl]
include ht hk in
theorem run_delete_int (ty : TypeId) (b : Nat) (n : Int) (l : List (Int × Value × Nat)) (c : Nat) (w : World) (hb : w.heap[b]? = some (.map (entriesOf q l) c)) (hs : (look l n).isSome = true) :
    (Builtin.delete_ #[t, k] ty #[.map (some b), .int q n]).run P w = .ok (.tuple #[]) (w.putObj b (.map (entriesOf q (drp l n)) c)) := by
  unfold Builtin.delete_
  obtain ⟨x, hx⟩ := Option.isSome_iff_exists.1 hs
  simp [run_underlying ht, run_getObj_map w b _ c hb, run_checkKey_int hk, run_findKey_int hk, hx, setObj, Sem.run, hb, World.putObj, ← entries_drp q n l hs]
end

/-- 'm[n] = v' at the operation. -/
theorem wpList_update_int {P : Program} (w : World) {ops : Array Oper} {rest : List Oper} {o : Oper} {a : Act} {Q : Exit → Act → World → Prop} (hg : o.guard = none) (m x v : Operand) (t : TypeId) (hop : o.op = Op.mapUpdate t m x v)
    (k e : TypeId) (q : IntKind) (ht : P.underlying t = some (.map k e)) (hk : P.underlying k = some (.int q)) (b c : Nat) (l : List (Int × Value × Nat)) (n : Int) (val : Value)
    (hm : a.eval m = .map (some b)) (hx : a.eval x = .int q n) (hv : a.eval v = val) (hb : w.heap[b]? = some (.map (entriesOf q l) c))
    (hK : wpList P ops Q rest (a.put o.dst undef) (w.putObj b (.map (entriesOf q (lay l n val c)) (tick l n c)))) : wpList P ops Q (o :: rest) a w := by
  refine wpList_plain hg fun K' hK' => ?_
  have hrun := run_update_int ht hk b n val l c w hb
  unfold Oper.wp
  simp [execOp, hop, hm, hx, hv, hrun, Result.andThen]
  exact hK' _ _ hK

/-- 'delete(m, n)' at the operation, n being there. -/
theorem wpList_delete_int {P : Program} (w : World) {ops : Array Oper} {rest : List Oper} {o : Oper} {a : Act} {Q : Exit → Act → World → Prop} (hg : o.guard = none) (m x : Operand) (t k : TypeId) (hop : o.op = .call { callee := .builtin .delete, args := #[m, x], argTypes := #[t, k] })
    (e : TypeId) (q : IntKind) (ht : P.underlying t = some (.map k e)) (hk : P.underlying k = some (.int q)) (b c : Nat) (l : List (Int × Value × Nat)) (n : Int)
    (hm : a.eval m = .map (some b)) (hx : a.eval x = .int q n) (hb : w.heap[b]? = some (.map (entriesOf q l) c)) (hs : (look l n).isSome = true)
    (hK : wpList P ops Q rest (a.put o.dst (.tuple #[])) (w.putObj b (.map (entriesOf q (drp l n)) c))) : wpList P ops Q (o :: rest) a w := by
  refine wpList_plain hg fun K' hK' => ?_
  have hrun := run_delete_int ht hk o.type b n l c w hb hs
  unfold Oper.wp
  simp [execOp, hop, resolve, invoke, builtin, hm, hx, hrun, Result.andThen]
  exact hK' _ _ hK

/-- A slice from which is appended: nil, or m elements at an address. -/
def SrcAt (w : World) (size : Nat) (x : Value) (m : Nat) (news : List Value) : Prop :=
  (x = .slice none 0 0 ∧ m = 0 ∧ news = []) ∨ ∃ ad c, x = .slice (some ad) m c ∧ news.length = m * size ∧ (∀ j u, news[j]? = some u → w.cell? (ad.add j) = some u) ∧ ∀ u ∈ news, u.oneCell' = true

theorem wpList_append_src {P : Program} (w : World) {ops : Array Oper} {rest : List Oper} {o : Oper} {a : Act} {Q : Exit → Act → World → Prop} (hgd : o.guard = none) (s x : Operand) (t : TypeId)
    (ho : o.op = .call { callee := .builtin .append, args := #[s, x], argTypes := #[t, t] })
    (base : Nat) (e : TypeId) (i : TypeInfo) (z : Value) (size bytes : Nat) (ht : P.underlying t = some (.slice e)) (hi : P.info? e = some i) (hz : i.zero = some z)
    (hsize : i.size = size) (hby : i.bytes = bytes) (hzs : z.cells.size = size) (hsz : 0 < size)
    (v : Value) (n : Nat) (xs : List Value) (hs : a.eval s = v) (hown : w.ownsRow base e size v n xs)
    (vx : Value) (m : Nat) (news : List Value) (hx : a.eval x = vx) (hsrc : SrcAt w size vx m news)
    (h63 : n + m ≤ maxLen) (hbytes : (n + m) * bytes ≤ 140737488355328) (hbase : base ≤ w.heap.size)
    (h : ∀ v' w', w'.ownsRow base e size v' (n + m) (xs ++ news) → w.grownBy w' v.ownBlock → (v' = .slice none 0 0 ↔ v = .slice none 0 0 ∧ m = 0) → wpList P ops Q rest (a.put o.dst v') w') : wpList P ops Q (o :: rest) a w := by
  rcases hsrc with ⟨rfl, rfl, rfl⟩ | ⟨ad, c, rfl, hl, hc, h1⟩
  · exact wpList_append_own_none hgd s x t ho base e i size ht hi v n xs hs hown hx (h v w (by simpa using hown) ⟨rfl, rfl, rfl, Nat.le_refl _, fun _ _ _ => rfl⟩ (by simp))
  · exact wpList_append_own w hgd s x t ho base e i z size bytes ht hi hz hsize hby hzs hsz v n xs hs hown ad m c news hx hl hc h1 h63 hbytes hbase h

/-- A slice of integers that came in (as the shells of proofs have it). -/
def IsRow (k : IntKind) (w : World) (a : Option Addr) (len cap : Nat) (zs : List Int) : Prop :=
  (a = none ∧ len = 0 ∧ cap = 0 ∧ zs = []) ∨
  ∃ x, a = some x ∧ len ≤ cap ∧ cap ≤ maxLen ∧ zs.length = cap ∧ (∀ i, i < zs.length → w.cell? (x.add i) = some (.int k (zs.getD i 0))) ∧ ∀ n ∈ zs, (Lit.int k n).wf = true

theorem cell_lt {w : World} {p : Addr} {v : Value} (h : w.cell? p = some v) : p.block < w.heap.size := by
  unfold World.cell? at h
  cases hb : w.heap[p.block]? with
  | none => rw [hb] at h; cases h
  | some o => exact lt_of_some hb
theorem cell_spot {w : World} {p : Addr} {v : Value} (h : w.cell? p = some v) : p.spot = none := by
  unfold World.cell? at h
  split at h
  · split at h
    · cases h
    · rename_i hs; simpa using hs
  · cases h
theorem Fr.cell {K : Nat → Obj → Prop} {w w' : World} {p : Addr} {v : Value} (h : Fr K w w') (hK : ∀ o, w.heap[p.block]? = some o → K p.block o) (hc : w.cell? p = some v) : w'.cell? p = some v := by
  have hl := cell_lt hc
  have e : w.heap[p.block]? = some (w.heap[p.block]) := Array.getElem?_eq_getElem hl
  rw [World.cell?_of_block (w := w) (a := p) ((h.keep p.block _ e (hK _ e)).trans e.symm)]
  exact hc
theorem Fr.old {w w' : World} {p : Addr} {v : Value} (h : Fr (fun b _ => b < w.heap.size) w w') (hc : w.cell? p = some v) : w'.cell? p = some v := h.cell (fun _ _ => cell_lt hc) hc

theorem IsRow.at {k : IntKind} {w : World} {a : Option Addr} {len cap : Nat} {zs : List Int} (h : IsRow k w a len cap zs) (hl : 0 < len) :
    ∃ b off, a = some ⟨b, off, none⟩ ∧ len ≤ zs.length ∧ ∀ i, i < len → w.cell? ⟨b, off + i, none⟩ = some (.int k (zs.getD i 0)) := by
  rcases h with ⟨_, h, _⟩ | ⟨x, rfl, h1, h2, h3, h4, h5⟩
  · omega
  · have e0 := h4 0 (by omega)
    have hs : x.spot = none := by
      have := cell_spot e0
      simpa [Addr.add] using this
    obtain ⟨b, off, sp⟩ := x
    cases hs
    refine ⟨b, off, rfl, by omega, fun i hi => ?_⟩
    rw [← h4 i (by omega)]
    unfold Addr.add
    split
    · subst i; rfl
    · rfl
theorem IsRow.wf {k : IntKind} {w : World} {a : Option Addr} {len cap : Nat} {zs : List Int} (h : IsRow k w a len cap zs) (i : Nat) (hi : i < len) : (Lit.int k (zs.getD i 0)).wf = true := by
  rcases h with ⟨_, h, _⟩ | ⟨x, rfl, h1, h2, h3, h4, h5⟩
  · omega
  · have hz : i < zs.length := by omega
    rw [List.getD_eq_getElem?_getD, List.getElem?_eq_getElem hz]
    exact h5 _ (List.getElem_mem hz)

end Go.Proofs.Ytpecpanmdjpoiaa
/- Arguments that can be read as data: what lies in memory, by the type's shape. -/
namespace Go.Proofs.Ytpecpanmdjpoiaa
open Go.RowKit Go.ChangeShapes Go.WideShapes

/-- The cells can be read as a value of the type. -/
def Rd (P : Program) (w : World) (t : TypeId) (cs : List Value) : Prop :=
  ∃ (H : Type) (enc : TypeId × Value → H) (sp : Nat → Bool) (held : Bool) (fuel : Nat) (x : DataW H × List MemPlace), DataW.trod enc P w 0 sp held fuel t cs = some x

theorem Rd.of {H : Type} {enc : TypeId × Value → H} {P : Program} {w : World} {sp : Nat → Bool} {held : Bool} {t : TypeId} {v : Value} {d : DataW H} {p : List MemPlace} (h : DataW.Trod enc P w 0 sp held t v d p) : Rd P w t v.cells.toList := by
  obtain ⟨fuel, hf⟩ := h
  exact ⟨H, enc, sp, held, fuel, _, hf⟩

section
variable {P : Program} {w : World} {t e : TypeId} {cs : List Value}
theorem Rd.int {k : IntKind} (ht : P.underlying t = some (.int k)) (h : Rd P w t cs) : ∃ n, cs = [.int k n] ∧ (Lit.int k n).wf = true := by
  obtain ⟨H, enc, sp, held, fuel, x, h⟩ := h
  obtain ⟨n, h1, _, h2⟩ := DataW.trod_int ht h
  exact ⟨n, h1, h2⟩
theorem Rd.bool (ht : P.underlying t = some .bool) (h : Rd P w t cs) : ∃ b, cs = [.bool b] := by
  obtain ⟨H, enc, sp, held, fuel, x, h⟩ := h
  obtain ⟨n, h1, _⟩ := DataW.trod_bool ht h
  exact ⟨n, h1⟩
/-- A slice: nil, or len elements of sz cells each. -/
theorem Rd.slice {sz : Nat} (ht : P.underlying t = some (.slice e)) (hs : P.cellsOf e = sz) (h : Rd P w t cs) :
    ∃ a len cap, cs = [.slice a len cap] ∧ len ≤ cap ∧ cap ≤ maxLen ∧ (a = none → cap = 0) ∧
      ∀ i, i < len → ∃ ad cs', a = some ad ∧ cs'.length = sz ∧ (∀ j, j < sz → w.cell? (ad.add (i * sz + j)) = cs'[j]?) ∧ Rd P w e cs' := by
  obtain ⟨H, enc, sp, held, fuel, x, h⟩ := h
  rcases Go.Deep.open_slice ht h with ⟨rfl, _⟩ | ⟨a, len, cap, m, n, D, Pl, rfl, _, hl, hm, hmm, _, hi⟩
  · exact ⟨none, 0, 0, rfl, Nat.le_refl _, by simp, fun _ => rfl, fun i hi => by omega⟩
  · refine ⟨some a, len, cap, rfl, hl, hm, (fun e => by cases e), fun i hil => ?_⟩
    have him : i < m := by rw [hmm]; split <;> omega
    obtain ⟨cs', hc, ht'⟩ := hi i him
    obtain ⟨_, hcl, hat⟩ := World.cells?_some hc
    refine ⟨a, cs', rfl, by omega, fun j hj => ?_, H, enc, sp, held, n, _, ht'⟩
    rw [← hat j (by omega), Go.Deep.add_add, hs]
theorem Rd.struct {fs : Array Field} {sz : Nat} (ht : P.underlying t = some (.struct fs)) (hs : P.cellsOf t = sz) (h : Rd P w t cs) :
    cs.length = sz ∧ ∀ (i : Nat) (f : Field), fs[i]? = some f → Rd P w f.type (List.take (P.cellsOf f.type) (List.drop f.offset cs)) := by
  obtain ⟨H, enc, sp, held, fuel, x, h⟩ := h
  obtain ⟨xs, n, _, _, hl, hx, hf⟩ := DataW.trod_struct ht h
  refine ⟨by omega, fun i f hi => ?_⟩
  have h1 := hf i f hi
  have hlt : i < xs.length := by
    have := (Array.getElem?_eq_some_iff.1 hi).1
    omega
  rw [List.getElem?_eq_getElem hlt] at h1
  exact ⟨H, enc, sp, held, n, _, h1⟩
end

theorem list2 {α : Type} {l : List α} (h : l.length = 2) : ∃ a b, l = [a, b] := by match l, h with | [a, b], _ => exact ⟨a, b, rfl⟩
theorem list3 {α : Type} {l : List α} (h : l.length = 3) : ∃ a b c, l = [a, b, c] := by match l, h with | [a, b, c], _ => exact ⟨a, b, c, rfl⟩
theorem list4 {α : Type} {l : List α} (h : l.length = 4) : ∃ a b c d, l = [a, b, c, d] := by match l, h with | [a, b, c, d], _ => exact ⟨a, b, c, d, rfl⟩
theorem list5 {α : Type} {l : List α} (h : l.length = 5) : ∃ a b c d e, l = [a, b, c, d, e] := by match l, h with | [a, b, c, d, e], _ => exact ⟨a, b, c, d, e, rfl⟩
theorem list6 {α : Type} {l : List α} (h : l.length = 6) : ∃ a b c d e f, l = [a, b, c, d, e, f] := by match l, h with | [a, b, c, d, e, f], _ => exact ⟨a, b, c, d, e, f, rfl⟩

/-- The cell at the place of a field. -/
theorem add_at (b off k : Nat) : Addr.add ⟨b, off, none⟩ k = ⟨b, off + k, none⟩ := by
  unfold Addr.add
  split
  · subst k; rfl
  · rfl
theorem spot_of {w : World} {ad : Addr} {v : Value} (h : w.cell? (ad.add 0) = some v) : ∃ b off, ad = ⟨b, off, none⟩ := by
  have := cell_spot h
  obtain ⟨b, off, sp⟩ := ad
  simp [Addr.add] at this
  exact ⟨b, off, by rw [this]⟩
end Go.Proofs.Ytpecpanmdjpoiaa
/- Slices of ints. -/
namespace Go.Proofs.Ytpecpanmdjpoiaa
open Go.RowKit
set_option linter.unusedVariables false

theorem Fr.drewN {K : Nat → Obj → Prop} {a w : World} (h : Fr K a w) (n : Nat) : Fr K a (w.drewN n) := by
  induction n generalizing w with
  | zero => exact h
  | succ n ih => exact (ih h).drew
/-- A list out of its members. -/
theorem list_of {α : Type} {p : Nat → α → Prop} : ∀ n : Nat, (∀ i, i < n → ∃ x, p i x) → ∃ l : List α, l.length = n ∧ ∀ i, (h : i < l.length) → p i l[i]
  | 0, _ => ⟨[], rfl, fun i h => absurd h (Nat.not_lt_zero i)⟩
  | n + 1, h => by
    obtain ⟨l, hl, hp⟩ := list_of n fun i hi => h i (by omega)
    obtain ⟨x, hx⟩ := h n (by omega)
    refine ⟨l ++ [x], by simp [hl], fun i hi => ?_⟩
    rw [List.length_append, List.length_singleton] at hi
    by_cases h1 : i < l.length
    · rw [List.getElem_append_left h1]; exact hp i h1
    · obtain rfl : i = l.length := by omega
      rw [List.getElem_append_right (Nat.le_refl _)]
      simp only [Nat.sub_self, List.getElem_cons_zero]
      rw [hl]; exact hx

/-- A slice of numbers of one kind that reads as zs, in a block that K names. -/
def NumsAt (q : IntKind) (K : Nat → Obj → Prop) (w : World) (v : Value) (zs : List Int) : Prop :=
  ∃ a cap, v = .slice a zs.length cap ∧ (zs = [] ∨ ∃ b off o, a = some ⟨b, off, none⟩ ∧ w.heap[b]? = some o ∧ K b o ∧ ∀ i, (h : i < zs.length) → w.cell? ⟨b, off + i, none⟩ = some (.int q zs[i]))
abbrev IntsAt := NumsAt .i64
theorem NumsAt.fr {q : IntKind} {K K' : Nat → Obj → Prop} {w w' : World} {v : Value} {zs : List Int} (h : NumsAt q K w v zs) (hf : Fr K' w w') (hk : ∀ c o, K c o → K' c o) : NumsAt q K w' v zs := by
  obtain ⟨a, cap, hv, h⟩ := h
  refine ⟨a, cap, hv, ?_⟩
  rcases h with h | ⟨b, off, o, ha, hb, hkb, hc⟩
  · exact .inl h
  · refine .inr ⟨b, off, o, ha, hf.keep _ _ hb (hk _ _ hkb), hkb, fun i hi => hf.cell (fun o' e => ?_) (hc i hi)⟩
    have e' : w.heap[b]? = some o' := e
    rw [hb] at e'
    cases e'
    exact hk _ _ hkb
theorem NumsAt.tt {q : IntKind} {K : Nat → Obj → Prop} {w w' : World} {v : Value} {zs : List Int} (h : NumsAt q K w v zs) (hf : Fr (fun _ _ => True) w w') : NumsAt q K w' v zs := h.fr hf fun _ _ _ => trivial
theorem NumsAt.mono {q : IntKind} {K K' : Nat → Obj → Prop} {w : World} {v : Value} {zs : List Int} (h : NumsAt q K w v zs) (hk : ∀ c o, K c o → K' c o) : NumsAt q K' w v zs := by
  obtain ⟨a, cap, hv, h⟩ := h
  refine ⟨a, cap, hv, ?_⟩
  rcases h with h | ⟨b, off, o, ha, hb, hkb, hc⟩
  · exact .inl h
  · exact .inr ⟨b, off, o, ha, hb, hk _ _ hkb, hc⟩
theorem NumsAt.form {q : IntKind} {K : Nat → Obj → Prop} {w : World} {v : Value} {zs : List Int} (h : NumsAt q K w v zs) : ∃ a cap, v = .slice a zs.length cap := by
  obtain ⟨a, cap, hv, _⟩ := h
  exact ⟨a, cap, hv⟩
theorem NumsAt.len {q : IntKind} {K : Nat → Obj → Prop} {w : World} {a : Option Addr} {n c : Nat} {zs : List Int} (h : NumsAt q K w (.slice a n c) zs) : n = zs.length := by
  obtain ⟨a', cap, hv, _⟩ := h
  cases hv; rfl
theorem NumsAt.addr {q : IntKind} {K : Nat → Obj → Prop} {w : World} {a : Option Addr} {n c : Nat} {zs : List Int} (h : NumsAt q K w (.slice a n c) zs) (hn : 0 < zs.length) : ∃ b off, a = some ⟨b, off, none⟩ := by
  obtain ⟨a', cap, hv, h⟩ := h
  cases hv
  rcases h with h | ⟨b, off, _, ha, _⟩
  · subst h; simp at hn
  · exact ⟨b, off, ha⟩
theorem NumsAt.cell {q : IntKind} {K : Nat → Obj → Prop} {w : World} {b off n c : Nat} {zs : List Int} (h : NumsAt q K w (.slice (some ⟨b, off, none⟩) n c) zs) {i : Nat} (hi : i < zs.length) : w.cell? ⟨b, off + i, none⟩ = some (.int q zs[i]) := by
  obtain ⟨a', cap, hv, h⟩ := h
  cases hv
  rcases h with h | ⟨b', off', _, ha, _, _, hc⟩
  · subst h; simp at hi
  · cases ha; exact hc i hi
theorem Rd.nums {q : IntKind} {P : Program} {w : World} {t e : TypeId} {v : Value} (ht : P.underlying t = some (.slice e)) (he : P.underlying e = some (.int q)) (hs : P.cellsOf e = 1) (h : Rd P w t [v]) :
    ∃ zs, NumsAt q (fun b _ => b < w.heap.size) w v zs ∧ zs.length ≤ maxLen ∧ ∀ x ∈ zs, (Lit.int q x).wf = true := by
  obtain ⟨a, len, cap, hv, hl, hm, hn, hc⟩ := h.slice ht hs
  obtain rfl : v = .slice a len cap := by simpa using hv
  obtain ⟨bs, hbl, hb⟩ := list_of (p := fun i (x : Int) => (Lit.int q x).wf = true ∧ ∃ ad, a = some ad ∧ w.cell? (ad.add i) = some (.int q x)) len fun i hi => by
    obtain ⟨ad, cs', ha, _, hj, hr⟩ := hc i hi
    obtain ⟨n, rfl, hw⟩ := hr.int he
    refine ⟨n, hw, ad, ha, ?_⟩
    have e1 := hj 0 (by omega)
    rw [Nat.mul_one, Nat.add_zero] at e1
    exact e1
  refine ⟨bs, ⟨a, cap, by rw [hbl], ?_⟩, by omega, fun x hx => by obtain ⟨i, hi, rfl⟩ := List.mem_iff_getElem.1 hx; exact (hb i hi).1⟩
  by_cases h0 : bs = []
  · exact .inl h0
  · have hp : 0 < bs.length := List.length_pos_iff.2 h0
    obtain ⟨_, ad, ha, e0⟩ := hb 0 hp
    obtain ⟨b, off, rfl⟩ := spot_of e0
    have hlt := cell_lt e0
    have hlt' : b < w.heap.size := by simpa [add_at] using hlt
    refine .inr ⟨b, off, w.heap[b], ha, Array.getElem?_eq_getElem hlt', hlt', fun i hi => ?_⟩
    obtain ⟨_, ad', ha', e1⟩ := hb i hi
    rw [ha] at ha'
    cases ha'
    rw [add_at] at e1
    exact e1
theorem size_intc : Try.prog.cellsOf 3 = 1 := by kernel_rfl
theorem Rd.is {w : World} {v : Value} (h : Rd Try.prog w 22 [v]) : ∃ zs, IntsAt (fun b _ => b < w.heap.size) w v zs ∧ zs.length ≤ maxLen ∧ ∀ x ∈ zs, (Lit.int .i64 x).wf = true := Rd.nums Try.underlying22 Try.underlying3 size_intc h

/-- Whether a number is among others. -/
def hasI (zs : List Int) (n : Int) : Bool := zs.contains n
theorem hasI_mem {zs : List Int} {n : Int} : hasI zs n = true ↔ n ∈ zs := by unfold hasI; simp
theorem take_contains (zs : List Int) (k : Nat) (hk : k < zs.length) (n : Int) : hasI (zs.take (k + 1)) n = (hasI (zs.take k) n || (n == zs[k])) := by
  have e : zs.take (k + 1) = zs.take k ++ [zs[k]] := List.take_succ_eq_append_getElem hk
  rw [e]
  unfold hasI
  generalize zs.take k = l
  generalize zs[k] = u
  clear e hk
  induction l with
  | nil => simp only [List.nil_append, List.contains_cons, List.contains_nil, Bool.or_false, Bool.false_or]
  | cons x l ih => simp only [List.cons_append, List.contains_cons, ih, Bool.or_assoc]
theorem contains_take {zs : List Int} {k : Nat} {n : Int} (h : hasI (zs.take k) n = true) : hasI zs n = true := hasI_mem.2 (List.mem_of_mem_take (hasI_mem.1 h))
theorem hasI_take0 (zs : List Int) (n : Int) : hasI (zs.take 0) n = false := by simp [hasI]
theorem hasI_nil (n : Int) : hasI [] n = false := rfl
end Go.Proofs.Ytpecpanmdjpoiaa
/- Numbers among others: slices.Index, slices.Contains, ref10.Has, ref08.Numbers. -/
namespace Go.Proofs.Ytpecpanmdjpoiaa
open Go.RowKit
set_option linter.unusedVariables false

set_option maxRecDepth 100000 in
theorem has_nil (w : World) (a : Option Addr) (c : Nat) (n : Int) : Calls Try.prog 25 #[.slice a 0 c, .int .i64 n] w fun e w' => e = .returned (.bool false) ∧ w = w' := by
  go_enter Try.func25, Try.ntmps25
  go_wp2
  go_loop [5] (fun i => i = .int .i64 0) (fun _ => 0)
  case atStart => exact rfl
  case round =>
    obtain rfl := hrel
    go_wp2
    go_ret
    exact ⟨rfl, rfl⟩

set_option maxRecDepth 100000 in
theorem has_loop {K : Nat → Obj → Prop} (w : World) (b off c : Nat) (zs : List Int) (n : Int) (h : IntsAt K w (.slice (some ⟨b, off, none⟩) zs.length c) zs) (hm : zs.length ≤ 9223372036854775807) :
    Calls Try.prog 25 #[.slice (some ⟨b, off, none⟩) zs.length c, .int .i64 n] w fun e w' => e = .returned (.bool (hasI zs n)) ∧ w = w' := by
  have H := Lib.hid h
  clear h
  obtain ⟨N, hN⟩ : ∃ N, N = zs.length := ⟨_, rfl⟩
  have HN := Lib.hid hN
  rw [← hN] at hm ⊢
  clear hN
  go_enter Try.func25, Try.ntmps25
  go_wp2
  go_loop [5] (fun i => ∃ k : Nat, k ≤ N ∧ i = .int .i64 k ∧ hasI (zs.take k) n = false) (fun i => N - (intOf i).toNat)
  case atStart => exact ⟨0, Nat.zero_le _, rfl, hasI_take0 _ _⟩
  case round =>
    obtain ⟨k, hk, rfl, ht⟩ := hrel
    have HT := Lib.hid ht
    clear ht
    by_cases hlt : k < N
    · have l1 : k < zs.length := by rw [← HN.out]; exact hlt
      have g1 := H.out.cell l1
      have HC := Lib.hid (take_contains zs k l1 n)
      generalize hu : zs[k] = u at g1 HC
      clear hu l1
      go_wp2
      · go_ret
        have he : (u == n) = true := by assumption
        refine ⟨?_, rfl⟩
        have : hasI (zs.take (k + 1)) n = true := by rw [HC.out]; simp at he; simp [he]
        rw [contains_take this]
        rfl
      · have he : (u == n) = false := by assumption
        go_round
        case rel =>
          refine ⟨k + 1, by omega, by go_num, ?_⟩
          rw [HC.out, HT.out]
          simp at he ⊢
          exact fun e => he e.symm
        case measure => simp [intOf]; omega
    · go_wp2
      go_ret
      refine ⟨?_, rfl⟩
      have := HT.out
      rw [List.take_of_length_le (by have := HN.out; omega)] at this
      rw [this]
      rfl
theorem has_calls {K : Nat → Obj → Prop} (w : World) (v : Value) (zs : List Int) (n : Int) (h : IntsAt K w v zs) (hm : zs.length ≤ maxLen) :
    Calls Try.prog 25 #[v, .int .i64 n] w fun e w' => e = .returned (.bool (hasI zs n)) ∧ w = w' := by
  obtain ⟨a, c, rfl⟩ := h.form
  by_cases h0 : zs.length = 0
  · have e1 := List.length_eq_zero_iff.1 h0
    subst e1
    exact (has_nil w a c n).mono fun e w' ⟨he, hw⟩ => ⟨he, hw⟩
  · obtain ⟨b, off, rfl⟩ := h.addr (by omega)
    exact has_loop w b off c zs n h (by unfold maxLen at hm; omega)

end Go.Proofs.Ytpecpanmdjpoiaa
/- Numbers among others: slices.Index, slices.Contains, ref10.Has, ref08.Numbers. -/
namespace Go.Proofs.Ytpecpanmdjpoiaa
open Go.RowKit
set_option linter.unusedVariables false

set_option maxRecDepth 100000 in
theorem index_nil (w : World) (a : Option Addr) (c : Nat) (n : Int) : Calls Try.prog 41 #[.slice a 0 c, .int .i64 n] w fun e w' => e = .returned (.int .i64 (-1)) ∧ w = w' := by
  go_enter Try.func41, Try.ntmps41
  go_wp2
  go_loop [8] (fun i => i = .int .i64 0) (fun _ => 0)
  case atStart => exact rfl
  case round =>
    obtain rfl := hrel
    go_wp2
    go_ret
    exact ⟨rfl, rfl⟩
set_option maxRecDepth 100000 in
theorem index_loop {K : Nat → Obj → Prop} (w : World) (b off c : Nat) (zs : List Int) (n : Int) (h : IntsAt K w (.slice (some ⟨b, off, none⟩) zs.length c) zs) (hm : zs.length ≤ 9223372036854775807) :
    Calls Try.prog 41 #[.slice (some ⟨b, off, none⟩) zs.length c, .int .i64 n] w fun e w' => (∃ r, e = .returned (.int .i64 r) ∧ hasI zs n = decide (0 ≤ r)) ∧ w = w' := by
  have H := Lib.hid h
  clear h
  obtain ⟨N, hN⟩ : ∃ N, N = zs.length := ⟨_, rfl⟩
  have HN := Lib.hid hN
  rw [← hN] at hm ⊢
  clear hN
  go_enter Try.func41, Try.ntmps41
  go_wp2
  go_loop [8] (fun i => ∃ k : Nat, k ≤ N ∧ i = .int .i64 k ∧ hasI (zs.take k) n = false) (fun i => N - (intOf i).toNat)
  case atStart => exact ⟨0, Nat.zero_le _, rfl, hasI_take0 _ _⟩
  case round =>
    obtain ⟨k, hk, rfl, ht⟩ := hrel
    have HT := Lib.hid ht
    clear ht
    by_cases hlt : k < N
    · have l1 : k < zs.length := by rw [← HN.out]; exact hlt
      have g1 := H.out.cell l1
      have HC := Lib.hid (take_contains zs k l1 n)
      generalize hu : zs[k] = u at g1 HC
      clear hu l1
      go_wp2
      · go_ret
        have he : (n == u) = true := by assumption
        refine ⟨⟨_, rfl, ?_⟩, rfl⟩
        have : hasI (zs.take (k + 1)) n = true := by rw [HC.out]; simp at he; simp [he]
        rw [contains_take this]
        simp
      · have he : (n == u) = false := by assumption
        go_round
        case rel =>
          refine ⟨k + 1, by omega, by go_num, ?_⟩
          rw [HC.out, HT.out, he]
          rfl
        case measure => simp [intOf]; omega
    · go_wp2
      go_ret
      refine ⟨⟨_, rfl, ?_⟩, rfl⟩
      have := HT.out
      rw [List.take_of_length_le (by have := HN.out; omega)] at this
      rw [this]
      rfl
set_option maxRecDepth 100000 in
theorem contains_calls {K : Nat → Obj → Prop} (w : World) (v : Value) (zs : List Int) (n : Int) (h : IntsAt K w v zs) (hm : zs.length ≤ maxLen) :
    Calls Try.prog 34 #[v, .int .i64 n] w fun e w' => e = .returned (.bool (hasI zs n)) ∧ w = w' := by
  have hi : Calls Try.prog 41 #[v, .int .i64 n] w fun e w' => (∃ r, e = .returned (.int .i64 r) ∧ hasI zs n = decide (0 ≤ r)) ∧ w = w' := by
    obtain ⟨a, c, rfl⟩ := h.form
    by_cases h0 : zs.length = 0
    · have e1 := List.length_eq_zero_iff.1 h0
      subst e1
      exact (index_nil w a c n).mono fun e w' ⟨he, hw⟩ => ⟨⟨_, he, rfl⟩, hw⟩
    · obtain ⟨b, off, rfl⟩ := h.addr (by omega)
      exact index_loop w b off c zs n h (by unfold maxLen at hm; omega)
  have HI := Lib.hid hi
  clear hi h hm
  go_enter Try.func34, Try.ntmps34
  go_wp2_with fail
  with_reducible refine HI.out.mono ?_
  rintro e1 w1 ⟨⟨r, rfl, hr⟩, rfl⟩
  have HR := Lib.hid hr
  clear hr HI
  go_wp2
  go_ret
  refine ⟨?_, rfl⟩
  rw [HR.out]
  rfl

end Go.Proofs.Ytpecpanmdjpoiaa
/- Numbers among others: slices.Index, slices.Contains, ref10.Has, ref08.Numbers. -/
namespace Go.Proofs.Ytpecpanmdjpoiaa
open Go.RowKit
set_option linter.unusedVariables false

set_option maxRecDepth 100000 in
theorem nums_len (w : World) (a1 a2 : Option Addr) (n1 n2 c1 c2 : Nat) (hn : ¬ n1 = n2) : Calls Try.prog 24 #[.slice a1 n1 c1, .slice a2 n2 c2] w fun e w' => e = .returned (.bool false) ∧ w = w' := by
  have hq : ((n1 : Int) != n2) = true := by simp; omega
  clear hn
  go_enter Try.func24, Try.ntmps24
  go_wp2
  go_ret
  exact ⟨rfl, rfl⟩
set_option maxRecDepth 100000 in
theorem nums_nil (w : World) (a1 a2 : Option Addr) (c1 c2 : Nat) : Calls Try.prog 24 #[.slice a1 0 c1, .slice a2 0 c2] w fun e w' => e = .returned (.bool true) ∧ w = w' := by
  go_enter Try.func24, Try.ntmps24
  go_wp2
  go_loop [5] (fun i => i = .int .i64 0) (fun _ => 0)
  case atStart => exact rfl
  case round =>
    obtain rfl := hrel
    go_wp2
    go_ret
    exact ⟨rfl, rfl⟩
set_option maxRecDepth 100000 in
theorem nums_loop (w : World) (b1 b2 o1 o2 n c1 c2 : Nat) (x y : List Int) {K K' : Nat → Obj → Prop} (hx : IntsAt K w (.slice (some ⟨b1, o1, none⟩) n c1) x) (hy : IntsAt K' w (.slice (some ⟨b2, o2, none⟩) n c2) y) (hm : n ≤ 9223372036854775807) :
    Calls Try.prog 24 #[.slice (some ⟨b1, o1, none⟩) n c1, .slice (some ⟨b2, o2, none⟩) n c2] w fun e w' => e = .returned (.bool (decide (x = y))) ∧ Fr (fun _ _ => True) w w' := by
  have h1 := hx.len
  have h2 := hy.len
  have HX := Lib.hid hx
  have HY := Lib.hid hy
  have H1 := Lib.hid h1
  have H2 := Lib.hid h2
  clear hx hy h1 h2
  go_enter Try.func24, Try.ntmps24
  go_wp2
  go_loopw [5] (fun i wr => ∃ k : Nat, k ≤ n ∧ i = .int .i64 k ∧ x.take k = y.take k ∧ ∃ j, wr = w.drewN j) (fun i _ => n - (intOf i).toNat)
  case atStart => exact ⟨0, Nat.zero_le _, rfl, rfl, 0, rfl⟩
  case round =>
    obtain ⟨k, hk, rfl, ht, j, rfl⟩ := hrel
    have HT := Lib.hid ht
    clear ht
    by_cases hlt : k < n
    · have g1 := HX.out.cell (i := k) (by have := H1.out; omega)
      have g2 := HY.out.cell (i := k) (by have := H2.out; omega)
      have l1 : k < x.length := by have := H1.out; omega
      have l2 : k < y.length := by have := H2.out; omega
      generalize hu : x[k] = u at g1
      generalize hv : y[k] = v at g2
      have HU := Lib.hid hu
      have HV := Lib.hid hv
      clear hu hv
      go_wp2
      go_quiet (fail)
      go_wp2
      · go_ret
        have hne : (u != v) = true := by assumption
        refine ⟨?_, (Fr.refl _ _).drewN _ |>.drewN _⟩
        have e1 : x ≠ y := fun e => by
          have := HU.out; have := HV.out; subst e; simp_all
        simp [e1]
      · have heq : (u != v) = false := by assumption
        go_roundw
        case rel =>
          refine ⟨k + 1, by omega, by go_num, ?_, _, rfl⟩
          rw [List.take_succ_eq_append_getElem l1, List.take_succ_eq_append_getElem l2, HT.out, HU.out, HV.out]
          simp at heq
          rw [heq]
        case measure => simp [intOf]; omega
    · go_wp2
      go_ret
      have e1 : x = y := by
        have := HT.out
        rwa [List.take_of_length_le (by have := H1.out; omega), List.take_of_length_le (by have := H2.out; omega)] at this
      exact ⟨by simp [e1], (Fr.refl _ _).drewN _⟩
theorem nums_calls (w : World) (v1 v2 : Value) (x y : List Int) {K K' : Nat → Obj → Prop} (hx : IntsAt K w v1 x) (hy : IntsAt K' w v2 y) (hm : x.length ≤ maxLen) :
    Calls Try.prog 24 #[v1, v2] w fun e w' => e = .returned (.bool (decide (x = y))) ∧ Fr (fun _ _ => True) w w' := by
  obtain ⟨a1, c1, rfl⟩ := hx.form
  obtain ⟨a2, c2, rfl⟩ := hy.form
  by_cases hl : x.length = y.length
  · by_cases h0 : x.length = 0
    · have e1 := List.length_eq_zero_iff.1 h0
      have e2 := List.length_eq_zero_iff.1 (hl ▸ h0)
      subst e1 e2
      exact (nums_nil w a1 a2 c1 c2).mono fun e w' ⟨he, hw⟩ => ⟨he, hw ▸ Fr.refl _ _⟩
    · obtain ⟨b1, o1, rfl⟩ := hx.addr (by omega)
      obtain ⟨b2, o2, rfl⟩ := hy.addr (by omega)
      rw [← hl] at hy ⊢
      exact nums_loop w b1 b2 o1 o2 _ c1 c2 x y hx hy (by unfold maxLen at hm; omega)
  · refine (nums_len w a1 a2 _ _ c1 c2 hl).mono fun e w' ⟨he, hw⟩ => ⟨?_, hw ▸ Fr.refl _ _⟩
    rw [he, show decide (x = y) = false from by simp; exact fun e => hl (by rw [e])]
end Go.Proofs.Ytpecpanmdjpoiaa
/- Groups, plainly. -/
namespace Go.Proofs.Ytpecpanmdjpoiaa
open Go.RowKit
set_option linter.unusedVariables false

/-- Members go up, from above l to 15. -/
def rgt : Int → List Int → Bool
  | _, [] => true
  | l, x :: r => decide (l < x) && (decide (x ≤ 15) && rgt x r)
def rightQ (c : List Int) : Bool := rgt (-1) c && !c.isEmpty
theorem rgt_all : ∀ {c : List Int} {l : Int}, rgt l c = true → c.Pairwise (· < ·) ∧ ∀ x ∈ c, l < x ∧ x ≤ 15
  | [], l, _ => ⟨List.Pairwise.nil, fun x hx => by cases hx⟩
  | x :: r, l, h => by
    unfold rgt at h
    simp only [Bool.and_eq_true, decide_eq_true_eq] at h
    obtain ⟨h1, h2, h3⟩ := h
    obtain ⟨p, q⟩ := rgt_all h3
    refine ⟨List.Pairwise.cons (fun y hy => (q y hy).1) p, fun y hy => ?_⟩
    rcases List.mem_cons.1 hy with rfl | hy
    · exact ⟨h1, h2⟩
    · have := q y hy; exact ⟨by omega, this.2⟩
theorem rgt_of : ∀ {c : List Int} {l : Int}, c.Pairwise (· < ·) → (∀ x ∈ c, l < x ∧ x ≤ 15) → rgt l c = true
  | [], l, _, _ => rfl
  | x :: r, l, hp, h => by
    obtain ⟨h1, h2⟩ := List.pairwise_cons.1 hp
    unfold rgt
    have := h x (by simp)
    rw [rgt_of h2 fun y hy => ⟨h1 y hy, (h y (by simp [hy])).2⟩]
    simp [this.1, this.2]
theorem sorted_len : ∀ {c : List Int} {l : Int}, rgt l c = true → -1 ≤ l → (c.length : Int) ≤ 15 - l ∨ c = []
  | [], l, _, _ => .inr rfl
  | x :: r, l, h, hl => by
    unfold rgt at h
    simp only [Bool.and_eq_true, decide_eq_true_eq] at h
    obtain ⟨h1, h2, h3⟩ := h
    refine .inl ?_
    rcases sorted_len h3 (by omega) with h4 | h4
    · rw [List.length_cons]; omega
    · subst h4; simp; omega
theorem right_len {c : List Int} (h : rightQ c = true) : 1 ≤ c.length ∧ c.length ≤ 16 := by
  unfold rightQ at h
  simp only [Bool.and_eq_true, Bool.not_eq_true'] at h
  have h0 : c ≠ [] := fun e => by rw [e] at h; simp at h
  have h1 : 0 < c.length := List.length_pos_iff.2 h0
  rcases sorted_len h.1 (by decide) with h2 | h2
  · exact ⟨h1, by omega⟩
  · exact absurd h2 h0

/-- How many members are among some. -/
def cnt (c s : List Int) : Nat := c.countP fun x => s.contains x
def maj (c : List Int) : Nat := c.length / 2 + 1
def agr (c y : List Int) : Bool := decide (maj c ≤ cnt c y)
def addQ (c : List Int) (n : Int) : List Int × Int := if n < 0 ∨ 15 < n then (c, 31) else if c.contains n then (c, 1) else (c.filter (fun x => decide (x < n)) ++ n :: c.filter (fun x => decide (n < x)), 0)
def remQ (c : List Int) (n : Int) : List Int × Int := if c.contains n = false then (c, 41) else if c.length = 1 then (c, 1) else (c.filter fun x => x != n, 0)
def meetQ (a b : List Int) : Bool := decide ((cnt a b : Int) < max 0 ((maj a : Int) - ((a.length : Int) - cnt a b)) + max 0 ((maj b : Int) - ((b.length : Int) - cnt a b)))

/-- How many are below. -/
def pos (c : List Int) (n : Int) : Nat := c.countP fun x => decide (x < n)
theorem pos_split : ∀ {c : List Int} (n : Int), c.Pairwise (· < ·) → c.take (pos c n) = c.filter (fun x => decide (x < n)) ∧ c.drop (pos c n) = c.filter (fun x => decide (n ≤ x))
  | [], n, _ => ⟨rfl, rfl⟩
  | x :: r, n, hp => by
    obtain ⟨h1, h2⟩ := List.pairwise_cons.1 hp
    obtain ⟨i1, i2⟩ := pos_split n h2
    by_cases hx : x < n
    · have e : pos (x :: r) n = pos r n + 1 := by unfold pos; rw [List.countP_cons_of_pos (by simpa using hx)]
      rw [e, List.take_succ_cons, List.drop_succ_cons, i1, i2, List.filter_cons_of_pos (by simpa using hx), List.filter_cons_of_neg (by simp; omega)]
      exact ⟨rfl, rfl⟩
    · have hz : ∀ y ∈ r, ¬ y < n := fun y hy => by have := h1 y hy; omega
      have e : pos (x :: r) n = 0 := by
        unfold pos
        rw [List.countP_eq_zero]
        intro y hy
        rcases List.mem_cons.1 hy with rfl | hy
        · simpa using hx
        · simpa using hz y hy
      rw [e, List.take_zero, List.drop_zero]
      constructor
      · symm
        rw [List.filter_eq_nil_iff]
        intro y hy
        rcases List.mem_cons.1 hy with rfl | hy
        · simpa using hx
        · simpa using hz y hy
      · symm
        rw [List.filter_eq_self]
        intro y hy
        rcases List.mem_cons.1 hy with rfl | hy
        · simp; omega
        · have := hz y hy; simp; omega
end Go.Proofs.Ytpecpanmdjpoiaa
/- Package quorum: Majority, count, Agrees, Meet. -/
namespace Go.Proofs.Ytpecpanmdjpoiaa
open Go.RowKit
set_option linter.unusedVariables false

def majI (n : Nat) : Int := (n : Int) / 2 + 1
set_option maxRecDepth 100000 in
theorem maj_calls (w : World) (a : Option Addr) (n c : Nat) (hm : n ≤ 9223372036854775807) : Calls Try.prog 16 #[.slice a n c] w fun e w' => e = .returned (.int .i64 (majI n)) ∧ w = w' := by
  have e1 : (n : Int).tdiv 2 = (n : Int) / 2 := Int.tdiv_eq_ediv_of_nonneg (by omega)
  go_enter Try.func16, Try.ntmps16
  go_wp2
  go_ret
  refine ⟨?_, rfl⟩
  unfold majI
  congr 1

def cntI (c s : List Int) : Nat := c.countP fun x => hasI s x
theorem cntI_take (c s : List Int) (k : Nat) (hk : k < c.length) : cntI (c.take (k + 1)) s = cntI (c.take k) s + (hasI s c[k]).toNat := by
  have e : c.take (k + 1) = c.take k ++ [c[k]] := List.take_succ_eq_append_getElem hk
  rw [e]
  unfold cntI
  rw [List.countP_append]
  cases h : hasI s c[k] <;> simp [h]
theorem cntI_le (c s : List Int) : cntI c s ≤ c.length := List.countP_le_length
set_option maxRecDepth 100000 in
theorem count_nil (w : World) (a : Option Addr) (c : Nat) (v : Value) : Calls Try.prog 26 #[.slice a 0 c, v] w fun e w' => e = .returned (.int .i64 0) ∧ w = w' := by
  go_enter Try.func26, Try.ntmps26
  go_wp2
  go_loop [5, 10] (fun r i => r = .int .i64 0 ∧ i = .int .i64 0) (fun _ _ => 0)
  case atStart => exact ⟨rfl, rfl⟩
  case round =>
    obtain ⟨rfl, rfl⟩ := hrel
    go_wp2
    go_ret
    exact ⟨rfl, rfl⟩
set_option maxRecDepth 100000 in
theorem count_loop {K K' : Nat → Obj → Prop} (w : World) (b off c : Nat) (v : Value) (zs s : List Int) (h : IntsAt K w (.slice (some ⟨b, off, none⟩) zs.length c) zs) (hs : IntsAt K' w v s) (hm : zs.length ≤ 9223372036854775807) (hms : s.length ≤ maxLen) :
    Calls Try.prog 26 #[.slice (some ⟨b, off, none⟩) zs.length c, v] w fun e w' => e = .returned (.int .i64 (cntI zs s : Nat)) ∧ w = w' := by
  have H := Lib.hid h
  have HS := Lib.hid hs
  have HM := Lib.hid hms
  clear h hs hms
  obtain ⟨N, hN⟩ : ∃ N, N = zs.length := ⟨_, rfl⟩
  have HN := Lib.hid hN
  rw [← hN] at hm ⊢
  clear hN
  go_enter Try.func26, Try.ntmps26
  go_wp2
  go_loop [5, 10] (fun r i => ∃ k m : Nat, k ≤ N ∧ i = .int .i64 k ∧ r = .int .i64 m ∧ m ≤ k ∧ cntI (zs.take k) s = m) (fun _ i => N - (intOf i).toNat)
  case atStart => exact ⟨0, 0, Nat.zero_le _, rfl, rfl, Nat.le_refl _, rfl⟩
  case round =>
    obtain ⟨k, m, hk, rfl, rfl, hmk, ht⟩ := hrel
    have HT := Lib.hid ht
    clear ht
    by_cases hlt : k < N
    · have l1 : k < zs.length := by rw [← HN.out]; exact hlt
      have g1 := H.out.cell l1
      have HC := Lib.hid (cntI_take zs s k l1)
      generalize hu : zs[k] = u at g1 HC
      clear hu l1
      go_wp2_with fail
      with_reducible refine (contains_calls w v s u HS.out HM.out).mono ?_
      rintro e1 w1 ⟨rfl, rfl⟩
      generalize hb : hasI s u = bb at HC
      clear hb
      cases bb
      · go_wp2
        go_round
        case rel => exact ⟨k + 1, m, by omega, by go_num, rfl, by omega, by rw [HC.out, HT.out]; rfl⟩
        case measure => simp [intOf]; omega
      · go_wp2
        go_round
        case rel => exact ⟨k + 1, m + 1, by omega, by go_num, by go_num, by omega, by rw [HC.out, HT.out]; rfl⟩
        case measure => simp [intOf]; omega
    · go_wp2
      go_ret
      refine ⟨?_, rfl⟩
      have := HT.out
      rw [List.take_of_length_le (by have := HN.out; omega)] at this
      rw [this]
      rfl
theorem count_calls {K K' : Nat → Obj → Prop} (w : World) (v1 v : Value) (zs s : List Int) (h : IntsAt K w v1 zs) (hs : IntsAt K' w v s) (hm : zs.length ≤ maxLen) (hms : s.length ≤ maxLen) :
    Calls Try.prog 26 #[v1, v] w fun e w' => e = .returned (.int .i64 (cntI zs s : Nat)) ∧ w = w' := by
  obtain ⟨a, c, rfl⟩ := h.form
  by_cases h0 : zs.length = 0
  · have e1 := List.length_eq_zero_iff.1 h0
    subst e1
    exact (count_nil w a c v).mono fun e w' ⟨he, hw⟩ => ⟨he, hw⟩
  · obtain ⟨b, off, rfl⟩ := h.addr (by omega)
    exact count_loop w b off c v zs s h hs (by unfold maxLen at hm; omega) hms

def agrI (c y : List Int) : Bool := decide (majI c.length ≤ (cntI c y : Int))
set_option maxRecDepth 100000 in
theorem agrees_calls {K K' : Nat → Obj → Prop} (w : World) (v1 v : Value) (zs s : List Int) (h : IntsAt K w v1 zs) (hs : IntsAt K' w v s) (hm : zs.length ≤ maxLen) (hms : s.length ≤ maxLen) :
    Calls Try.prog 14 #[v1, v] w fun e w' => e = .returned (.bool (agrI zs s)) ∧ w = w' := by
  have HC := Lib.hid (count_calls w v1 v zs s h hs hm hms)
  obtain ⟨a, c, rfl⟩ := h.form
  have HJ := Lib.hid (maj_calls w a zs.length c (by unfold maxLen at hm; omega))
  have HM : Hid (agrI zs s = decide (majI zs.length ≤ (cntI zs s : Int))) := rfl
  generalize majI zs.length = mj at HJ HM
  generalize cntI zs s = cn at HC HM
  clear h hs hm hms
  go_enter Try.func14, Try.ntmps14
  go_wp2_with fail
  with_reducible refine HC.out.mono ?_
  rintro e1 w1 ⟨rfl, rfl⟩
  go_wp2_with fail
  with_reducible refine HJ.out.mono ?_
  rintro e1 w1 ⟨rfl, rfl⟩
  go_wp2
  go_ret
  refine ⟨?_, rfl⟩
  rw [HM.out]
  rfl

def meetI (a b : List Int) : Bool := decide ((cntI a b : Int) < max 0 (majI a.length - ((a.length : Int) - cntI a b)) + max 0 (majI b.length - ((b.length : Int) - cntI a b)))
set_option maxRecDepth 100000 in
theorem meet_calls {K K' : Nat → Obj → Prop} (w : World) (v1 v : Value) (zs s : List Int) (h : IntsAt K w v1 zs) (hs : IntsAt K' w v s) (hm : zs.length ≤ 20) (hms : s.length ≤ 20) :
    Calls Try.prog 11 #[v1, v] w fun e w' => e = .returned (.bool (meetI zs s)) ∧ w = w' := by
  have hl := cntI_le zs s
  have HC := Lib.hid (count_calls w v1 v zs s h hs (by unfold maxLen; omega) (by unfold maxLen; omega))
  obtain ⟨a, c, rfl⟩ := h.form
  obtain ⟨a', c', rfl⟩ := hs.form
  have HJ := Lib.hid (maj_calls w a zs.length c (by omega))
  have HJ' := Lib.hid (maj_calls w a' s.length c' (by omega))
  have HM : Hid (meetI zs s = decide ((cntI zs s : Int) < max 0 (majI zs.length - ((zs.length : Int) - cntI zs s)) + max 0 (majI s.length - ((s.length : Int) - cntI zs s)))) := rfl
  have hj1 : 0 ≤ majI zs.length ∧ majI zs.length ≤ 20 := by unfold majI; omega
  have hj2 : 0 ≤ majI s.length ∧ majI s.length ≤ 20 := by unfold majI; omega
  clear h hs
  generalize majI zs.length = mj at HJ HM hj1
  generalize majI s.length = mj' at HJ' HM hj2
  generalize cntI zs s = cn at HC HM hl
  generalize zs.length = n at HJ HC HM hm hl ⊢
  generalize s.length = n' at HJ' HC HM hms ⊢
  go_enter Try.func11, Try.ntmps11
  go_wp2_with fail
  with_reducible refine HC.out.mono ?_
  rintro e1 w1 ⟨rfl, rfl⟩
  go_wp2_with fail
  with_reducible refine HJ.out.mono ?_
  rintro e1 w1 ⟨rfl, rfl⟩
  go_wp2_with fail
  all_goals
    with_reducible refine HJ'.out.mono ?_
    rintro e1 w1 ⟨rfl, rfl⟩
    go_wp2
  all_goals
    go_ret
    refine ⟨?_, rfl⟩
    rw [HM.out]
    refine congrArg (fun b => Ending.returned (Value.bool b)) (decide_eq_decide.2 ?_)
    omega
end Go.Proofs.Ytpecpanmdjpoiaa
