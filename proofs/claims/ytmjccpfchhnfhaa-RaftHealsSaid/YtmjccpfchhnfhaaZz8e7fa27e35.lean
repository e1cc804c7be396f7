/- Texts of the proofs, part 12: what the functions that they reach do, walked; no conditions beyond those that each states. -/
import Derived.Test.YtmjccpfchhnfhaaZzd082a3abd3
import Derived.Test.YtmjccpfchhnfhaaZz9d5f1e675e
set_option linter.unusedVariables false
set_option linter.unusedSimpArgs false
/- Rows of elements that are read; rows of one's own (printed by rows.py). -/
namespace Go.Proofs.Ytmjccpfchhnfhaa
open Go.RowKit
set_option linter.unusedVariables false
set_option linter.unusedSimpArgs false
def RowsAt {α : Type} (K : Nat → Obj → Prop) (w : World) (v : Value) (k : Nat) (enc : α → List Value) (xs : List α) : Prop :=
 ∃ a c, v = .slice a xs.length c ∧ xs.length ≤ c ∧ (xs = [] ∨ ∃ b off o, a = some ⟨b, off, none⟩ ∧ w.heap[b]? = some o ∧ K b o ∧ ∀ i, (h : i < xs.length) → ∀ j u, (enc xs[i])[j]? = some u → w.cell? ⟨b, off + i * k + j, none⟩ = some u)
section
variable {α : Type} {K : Nat → Obj → Prop} {w w' : World} {v : Value} {k : Nat} {enc : α → List Value} {xs : List α}
theorem RowsAt.fr {K' : Nat → Obj → Prop} (h : RowsAt K w v k enc xs) (hf : Fr K' w w') (hk : ∀ c o, w.heap[c]? = some o → K c o → K' c o) : RowsAt K w' v k enc xs := by
 obtain ⟨a, c, hv, hc, h⟩ := h
 refine ⟨a, c, hv, hc, ?_⟩
 rcases h with h | ⟨b, off, o, ha, ho, hb, h⟩
 ·exact .inl h
 ·exact .inr ⟨b, off, o, ha, hf.keep _ _ ho (hk _ _ ho hb), hb, fun i hi j u hu => hf.cell (fun o' ho' => by have e : o' = o := Option.some.inj (ho'.symm.trans ho); subst e; exact hk _ _ ho' hb) (h i hi j u hu)⟩
theorem RowsAt.mono {K' : Nat → Obj → Prop} (h : RowsAt K w v k enc xs) (hk : ∀ c o, w.heap[c]? = some o → K c o → K' c o) : RowsAt K' w v k enc xs := by
 obtain ⟨a, c, hv, hc, h⟩ := h
 refine ⟨a, c, hv, hc, ?_⟩
 rcases h with h | ⟨b, off, o, ha, ho, hb, h⟩
 ·exact .inl h
 ·exact .inr ⟨b, off, o, ha, ho, hk _ _ ho hb, h⟩
theorem RowsAt.tt (h : RowsAt K w v k enc xs) (hf : FT w w') : RowsAt K w' v k enc xs := h.fr hf fun _ _ _ _ => trivial
theorem RowsAt.form (h : RowsAt K w v k enc xs) : ∃ a c, v = .slice a xs.length c ∧ xs.length ≤ c := by
 obtain ⟨a, c, hv, hc, _⟩ := h
 exact ⟨a, c, hv, hc⟩
theorem RowsAt.nil (K : Nat → Obj → Prop) (w : World) (k : Nat) (enc : α → List Value) : RowsAt K w (.slice none 0 0) k enc [] := ⟨none, 0, rfl, Nat.le_refl _, .inl rfl⟩
theorem RowsAt.spot {a : Option Addr} {n c : Nat} (h : RowsAt K w (.slice a n c) k enc xs) (h0 : 0 < xs.length) : ∃ b off o, a = some ⟨b, off, none⟩ ∧ w.heap[b]? = some o ∧ K b o ∧ ∀ i, (h : i < xs.length) → ∀ j u, (enc xs[i])[j]? = some u → w.cell? ⟨b, off + i * k + j, none⟩ = some u := by
 obtain ⟨a', c', e, _, h⟩ := h
 cases e
 rcases h with h | h
 ·rw [h] at h0; cases h0
 ·exact h
theorem flat_get (hk : ∀ x, (enc x).length = k) : ∀ (xs : List α) (i : Nat) (h : i < xs.length) (j : Nat) (u : Value), (enc xs[i])[j]? = some u → (xs.flatMap enc)[i * k + j]? = some u
 | x :: xs, 0, _, j, u, hu => by
  rw [List.flatMap_cons, List.getElem?_append_left (by rw [Nat.zero_mul, Nat.zero_add]; exact (List.getElem?_eq_some_iff.1 hu).1), Nat.zero_mul, Nat.zero_add]
  exact hu
 | x :: xs, i + 1, h, j, u, hu => by
  have ih := flat_get hk xs i (by simpa using h) j u hu
  rw [List.flatMap_cons, List.getElem?_append_right (by rw [hk]; have := Nat.add_mul i 1 k; rw [Nat.one_mul] at this; omega), hk]
  have e : (i + 1) * k + j - k = i * k + j := by have := Nat.add_mul i 1 k; rw [Nat.one_mul] at this; omega
  rw [e]
  exact ih
theorem flat_length (hk : ∀ x, (enc x).length = k) : ∀ (xs : List α), (xs.flatMap enc).length = xs.length * k
 | [] => by simp
 | x :: xs => by rw [List.flatMap_cons, List.length_append, hk, flat_length hk xs, List.length_cons, Nat.succ_mul]; omega
theorem RowsAt.of_own {B : Nat} {t : TypeId} (hk : ∀ x, (enc x).length = k) (h : w.ownsRow B t k v xs.length (xs.flatMap enc)) (hK : ∀ c cs, v.ownBlock = some c → K c (.cells cs t (0, 0))) : RowsAt K w v k enc xs := by
 have h0 := h
 rcases h.2 with ⟨hv, h0⟩ | ⟨g, cap, cur, hv, hb, hg, hnc, _, _, ht⟩
 ·exact ⟨none, 0, by rw [hv, h0], by omega, .inl (List.length_eq_zero_iff.1 h0)⟩
 ·refine ⟨_, cap, hv, hnc, .inr ⟨g, 0, _, rfl, hg, hK g _ (by rw [hv]; rfl), fun i hi j u hu => ?_⟩⟩
  have k1 := h0.cells (g := g) (by rw [hv]; rfl) _ u (flat_get hk xs i hi j u hu)
  rw [Addr.add_lit, Nat.zero_add] at k1
  rw [Nat.zero_add]
  exact k1
end
theorem flat_of {α : Type} {enc : α → List Value} {k : Nat} (hk : ∀ x, (enc x).length = k) (h0 : 0 < k) (xs : List α) (j : Nat) (u : Value) (h : (xs.flatMap enc)[j]? = some u) : ∃ (hi : j / k < xs.length), (enc xs[j / k])[j % k]? = some u := by
 obtain ⟨hj, _⟩ := List.getElem?_eq_some_iff.1 h
 rw [flat_length hk] at hj
 have hi : j / k < xs.length := (Nat.div_lt_iff_lt_mul h0).2 hj
 refine ⟨hi, ?_⟩
 have ht : j % k < (enc xs[j / k]).length := by rw [hk]; exact Nat.mod_lt _ h0
 have hg := flat_get hk xs (j / k) hi (j % k) _ (List.getElem?_eq_getElem ht)
 rw [Nat.mul_comm, Nat.div_add_mod, h] at hg
 rw [List.getElem?_eq_getElem ht, ← hg]
theorem RowsAt.src {α : Type} {enc : α → List Value} {k : Nat} {K : Nat → Obj → Prop} {w : World} {ad : Addr} {n c : Nat} {xs : List α} (hk : ∀ x, (enc x).length = k) (h0 : 0 < k) (h1 : ∀ x, ∀ u ∈ enc x, u.oneCell' = true) (h : RowsAt K w (.slice (some ad) n c) k enc xs) : SrcAt w k (.slice (some ad) n c) n (xs.flatMap enc) := by
 have hn : n = xs.length := by
  obtain ⟨a, c, e, _⟩ := h.form
  cases e; rfl
 subst hn
 refine .inr ⟨ad, c, rfl, flat_length hk xs, fun j u hu => ?_, fun u hu => ?_⟩
 ·obtain ⟨hi, ht⟩ := flat_of hk h0 xs j u hu
  obtain ⟨b, off, o, e, _, _, hc⟩ := h.spot (Nat.lt_of_le_of_lt (Nat.zero_le _) hi)
  cases e
  have := hc _ hi _ _ ht
  rw [Nat.add_assoc, Nat.mul_comm, Nat.div_add_mod] at this
  unfold Addr.add
  split
  ·subst j; exact this
  ·exact this
 ·obtain ⟨x, _, hx⟩ := List.mem_flatMap.1 hu
  exact h1 x u hx
theorem rows_own {α : Type} {enc : α → List Value} {k : Nat} {w : World} {B : Nat} {e : TypeId} {v : Value} {xs : List α} (h : w.ownsRow B e k v xs.length (xs.flatMap enc)) (hk : ∀ x, (enc x).length = k) : RowsAt (fun c o => B ≤ c ∧ ∃ cs, o = .cells cs e (0, 0)) w v k enc xs := by
 rcases h.2 with ⟨rfl, h0⟩ | ⟨g, cap, cur, rfl, hb, hg, hn, _, hc, ht⟩
 ·rw [List.length_eq_zero_iff] at h0
  subst h0
  exact RowsAt.nil _ _ _ _
 ·refine ⟨_, cap, rfl, hn, .inr ⟨g, 0, _, rfl, hg, ⟨hb, cur, rfl⟩, fun i hi j u hu => ?_⟩⟩
  have h1 := flat_get hk xs i hi j u hu
  rw [← ht, List.getElem?_take] at h1
  split at h1
  ·rw [Nat.zero_add]
   exact cell_mk hg (by simpa using h1)
  ·cases h1
theorem run_append_zero {P : Program} {w : World} (base : Nat) (t ty e : TypeId) (i : TypeInfo) (size : Nat) (ht : P.underlying t = some (.slice e)) (hi : P.info? e = some i)
  (v : Value) (n : Nat) (xs : List Value) (hown : w.ownsRow base e size v n xs) (ad : Option Addr) (c : Nat) : (Builtin.append_ #[t, t] ty #[v, .slice ad 0 c]).run P w = .ok v w := by
 rcases hown.2 with ⟨rfl, rfl⟩ | ⟨g, cap, cur, rfl, _, _, hnc, _⟩
 ·cases ad <;> simp [Builtin.append_, run_underlying ht, sizeOf, typeInfo, hi, Builtin.lenOf, Builtin.firstCells, loadCells, loadCellsFrom]
 ·cases ad <;> simp [Builtin.append_, run_underlying ht, sizeOf, typeInfo, hi, Builtin.lenOf, Builtin.firstCells, hnc, storeCells, loadCells, loadCellsFrom]
theorem wp_append_rows {α : Type} {enc : α → List Value} {P : Program} {K0 : Nat → Obj → Prop} {o : Oper} {a : Act} {K : Act → World → Prop} {Q : Exit → Act → World → Prop} (W : World) (s x : Operand) (t e : TypeId)
  (ho : o.op = .call { callee := .builtin .append, args := #[s, x], argTypes := #[t, t] }) (B : Nat) (hB : B ≤ W.heap.size) (i : TypeInfo) (z : Value) (size bytes : Nat) (ht : P.underlying t = some (.slice e)) (hi : P.info? e = some i) (hz : i.zero = some z)
  (hsize : i.size = size) (hby : i.bytes = bytes) (hzs : z.cells.size = size) (hsz : 0 < size) (hb32 : bytes ≤ 64) (hk : ∀ x, (enc x).length = size) (h1 : ∀ x, ∀ u ∈ enc x, u.oneCell' = true)
  (v : Value) (n : Nat) (T : List α) (hs : a.eval s = v) (hown : W.ownsRow B e size v n (T.flatMap enc)) (vx : Value) (ys : List α) (hx : a.eval x = vx) (hvx : RowsAt K0 W vx size enc ys)
  (R : List α) (hR : T ++ ys = R) (N : Nat) (hN : n + ys.length = N) (hn : N ≤ 1000000)
  (h : ∀ g c w', w'.ownsRow B e size (.slice g N c) N (R.flatMap enc) → W.grownBy w' v.ownBlock → OwnNext W v (.slice g N c) → K (a.put o.dst (.slice g N c)) w') : o.wp P a W K Q := by
 subst hR hN
 have hcont : ∀ v' w', w'.ownsRow B e size v' (n + ys.length) (T.flatMap enc ++ ys.flatMap enc) → W.grownBy w' v.ownBlock → OwnNext W v v' → K (a.put o.dst v') w' := fun v' w' q1 q2 q3 => by
  obtain ⟨g, c, rfl⟩ := own_form q1
  exact h g c w' (by rw [List.flatMap_append]; exact q1) q2 q3
 obtain ⟨ax, cx, rfl, _⟩ := hvx.form
 by_cases h0 : ys.length = 0
 ·have e0 := List.length_eq_zero_iff.1 h0
  subst e0
  have hrun := run_append_zero (P := P) (w := W) B t o.type e i size ht hi v n _ hown ax cx
  unfold Oper.wp execOp
  simp only [List.length_nil] at hx
  simp only [ho, resolve, invoke, builtin, Sem.run_bind, Sem.run_pure, Result.andThen_ok, List.map_toArray, List.map_cons, List.map_nil, hs, hx, hrun]
  exact hcont v W (by simpa using hown) ⟨rfl, rfl, rfl, Nat.le_refl _, fun _ _ _ => rfl⟩ (.inl rfl)
 ·obtain ⟨b, off, ob, rfl, _⟩ := hvx.spot (by omega)
  rcases RowsAt.src hk hsz h1 hvx with ⟨he, _⟩ | ⟨ad, c, he, hl, hc, ho1⟩
  ·cases he
  ·cases he
   have hbb : (n + ys.length) * bytes ≤ 1000000 * 64 := Nat.mul_le_mul hn hb32
   exact wp_append_own2 W s x t ho B e i z size bytes ht hi hz hsize hby hzs hsz v n _ hs hown _ ys.length _ _ hx hl hc ho1 (by unfold maxLen; omega) (by omega) hB hcont
def subS (a : Option Addr) (cap n s : Nat) : Option Addr := if cap = n then a else a.map (·.add (n * s))
theorem run_sliceS {P : Program} {t e : TypeId} (s : Nat) (ht : P.underlying t = some (.slice e)) (hs : (sizeOf e).run P = fun w => .ok s w) (w : World) (a : Option Addr) (len cap n : Nat) (k : IntKind) (h : n ≤ cap) :
  (Instr.slice t (.slice a len cap) none (some (.int k n)) none).run P w = .ok (.slice a n cap) w := by
 have h0 : (0 : Int) ≤ n ∧ (n : Int) ≤ cap := by omega
 simp only [Instr.slice, Sem.run_bind, run_underlying ht, Result.andThen, Instr.sliceBounds, Instr.sliceBound, asIntOf, Sem.run_pure, h0, and_self, ↓reduceIte, hs]
 cases a <;> simp [Addr.add]
theorem run_sliceF {P : Program} {t e : TypeId} (s : Nat) (ht : P.underlying t = some (.slice e)) (hs : (sizeOf e).run P = fun w => .ok s w) (w : World) (a : Option Addr) (len cap n : Nat) (k : IntKind) (h : n ≤ len) :
  (Instr.slice t (.slice a len cap) (some (.int k n)) none none).run P w = .ok (.slice (subS a cap n s) (len - n) (cap - n)) w := by
 have h0 : (0 : Int) ≤ n ∧ (n : Int) ≤ len := by omega
 simp only [Instr.slice, Sem.run_bind, run_underlying ht, Result.andThen, Instr.sliceBounds, Instr.sliceBound, asIntOf, Sem.run_pure, h0, and_self, ↓reduceIte, hs]
 simp [subS]
section
variable {α : Type} {K : Nat → Obj → Prop} {w : World} {k : Nat} {enc : α → List Value} {xs : List α} {a : Option Addr} {n c : Nat}
theorem RowsAt.takeS (h : RowsAt K w (.slice a n c) k enc xs) {m : Nat} (hm : m ≤ xs.length) : RowsAt K w (.slice a m c) k enc (xs.take m) := by
 obtain ⟨a', c', e, hc, h⟩ := h
 cases e
 refine ⟨a, c, by rw [List.length_take, Nat.min_eq_left hm], by rw [List.length_take]; omega, ?_⟩
 rcases h with h | ⟨b, off, o, e, ho, hb, h⟩
 ·exact .inl (by rw [h, List.take_nil])
 ·cases e
  refine .inr ⟨b, off, o, rfl, ho, hb, fun i hi j u hu => ?_⟩
  have hi' : i < xs.length := by rw [List.length_take] at hi; omega
  rw [List.getElem_take] at hu
  exact h i hi' j u hu
theorem RowsAt.dropS (h : RowsAt K w (.slice a n c) k enc xs) {m : Nat} (hm : m ≤ xs.length) : RowsAt K w (.slice (subS a c m k) (n - m) (c - m)) k enc (xs.drop m) := by
 obtain ⟨a', c', e, hc, h⟩ := h
 cases e
 refine ⟨_, c - m, by rw [List.length_drop], by rw [List.length_drop]; omega, ?_⟩
 rcases h with h | ⟨b, off, o, e, ho, hb, h⟩
 ·exact .inl (by rw [h, List.drop_nil])
 ·cases e
  by_cases hcm : c = m
  ·exact .inl (List.eq_nil_of_length_eq_zero (by rw [List.length_drop]; omega))
  ·refine .inr ⟨b, off + m * k, o, ?_, ho, hb, fun i hi j u hu => ?_⟩
   ·unfold subS
    rw [if_neg hcm]
    simp only [Option.map_some, Option.some.injEq]
    unfold Addr.add
    split
    ·rename_i q; rw [q]; rfl
    ·rfl
   ·have hi' : m + i < xs.length := by rw [List.length_drop] at hi; omega
    rw [List.getElem_drop] at hu
    have := h (m + i) hi' j u hu
    rw [Nat.add_mul] at this
    rw [show off + m * k + i * k + j = off + (m * k + i * k) + j from by omega]
    exact this
end
theorem own_setCell {w : World} {B g n cap size : Nat} {t : TypeId} {xs : List Value} (h : w.ownsRow B t size (.slice (some ⟨g, 0, none⟩) n cap) n xs) (i : Nat) (v : Value) : (w.setCell ⟨g, i, none⟩ v).ownsRow B t size (.slice (some ⟨g, 0, none⟩) n cap) n (xs.set i v) := by
 rcases h with ⟨hl, ⟨e, _⟩ | ⟨g', cap', cur, e, hB, hg, h1, h2, h3, h4⟩⟩
 ·cases e
 ·cases e
  refine ⟨by rw [List.length_set]; exact hl, .inr ⟨g, cap, cur.setIfInBounds i v, rfl, hB, heap_setCell_same hg v, h1, h2, by rw [Array.size_setIfInBounds]; exact h3, ?_⟩⟩
  rw [Array.toList_setIfInBounds, List.take_set, h4]
end Go.Proofs.Ytmjccpfchhnfhaa
/- Terms: Last, has, Entry, Term, LastTerm. -/
namespace Go.Proofs.Ytmjccpfchhnfhaa
open Go.RowKit
set_option linter.unusedVariables false
set_option linter.unusedSimpArgs false
structure EV where
 t : Nat
 k : Int
 a : Option Addr
 c : Nat
 d : List UInt8
 deriving Inhabited
abbrev EV.v (x : EV) : Value := .slice x.a x.d.length x.c
def encE (x : EV) : List Value := [.int .u64 (x.t : Nat), .int .i64 x.k, .slice x.a x.d.length x.c]
def vE (x : EV) : Value := .agg #[.int .u64 (x.t : Nat), .int .i64 x.k, .slice x.a x.d.length x.c]
theorem encE_len (x : EV) : (encE x).length = 3 := rfl
theorem RowsAt.e3 {K : Nat → Obj → Prop} {w : World} {b off : Nat} {xs : List EV} (h : ∀ i, (h : i < xs.length) → ∀ j u, (encE xs[i])[j]? = some u → w.cell? ⟨b, off + i * 3 + j, none⟩ = some u) (i : Nat) (hi : i < xs.length) :
  w.cell? ⟨b, off + i * 3, none⟩ = some (.int .u64 (xs[i].t : Nat)) ∧ w.cell? ⟨b, off + i * 3 + 1, none⟩ = some (.int .i64 xs[i].k) ∧ w.cell? ⟨b, off + i * 3 + 2, none⟩ = some (.slice xs[i].a xs[i].d.length xs[i].c) :=
 ⟨h i hi 0 _ rfl, h i hi 1 _ rfl, h i hi 2 _ rfl⟩
def vL (b bt : Nat) (v : Value) : Value := .agg #[.int .u64 (b : Nat), .int .u64 (bt : Nat), v]
set_option maxRecDepth 100000 in
theorem tlast_calls (w : World) (b bt : Nat) (a : Option Addr) (n c : Nat) (h : b + n < 18446744073709551616) :
  Calls Try.prog 31 #[vL b bt (.slice a n c)] w fun e w' => e = .returned (.int .u64 (b + n : Nat)) ∧ FT w w' := by
 obtain ⟨W1, hW1⟩ : ∃ W, w.alloc (.cells #[.int .u64 (b : Nat), .int .u64 (bt : Nat), .slice a n c] 37 (0, 0)) = W := ⟨_, rfl⟩
 have F1 : Hid (FT w W1) := hW1 ▸ (Fr.refl _ _).alloc _
 have X1 : Hid (W1.heap[w.heap.size]? = some (.cells #[.int .u64 (b : Nat), .int .u64 (bt : Nat), .slice a n c] 37 (0, 0))) := hW1 ▸ heap_alloc_new w _
 have x0 := cell_mk (i := 0) X1 rfl
 have x2 := cell_mk (i := 2) X1 rfl
 have hn : IntKind.u64.wrap (n : Int) = n := by rw [IntKind.wrap_u64]; omega
 have hs : IntKind.u64.wrap ((b : Int) + n) = ((b + n : Nat) : Int) := by rw [IntKind.wrap_u64]; omega
 clear h
 unfold vL
 go_enter Try.func31, Try.ntmps31
 go_wp2
 go_ret
 exact ⟨rfl, F1⟩
set_option maxRecDepth 100000 in
theorem thas_calls (w : World) (b bt i : Nat) (a : Option Addr) (n c : Nat) (h : b + n < 18446744073709551616) :
  Calls Try.prog 51 #[vL b bt (.slice a n c), .int .u64 (i : Nat)] w fun e w' => e = .returned (.bool (decide (b < i ∧ i ≤ b + n))) ∧ FT w w' := by
 obtain ⟨W1, hW1⟩ : ∃ W, w.alloc (.cells #[.int .u64 (b : Nat), .int .u64 (bt : Nat), .slice a n c] 37 (0, 0)) = W := ⟨_, rfl⟩
 have F1 : Hid (FT w W1) := hW1 ▸ (Fr.refl _ _).alloc _
 have X1 : Hid (W1.heap[w.heap.size]? = some (.cells #[.int .u64 (b : Nat), .int .u64 (bt : Nat), .slice a n c] 37 (0, 0))) := hW1 ▸ heap_alloc_new w _
 have x0 := cell_mk (i := 0) X1 rfl
 have x1 := cell_mk (i := 1) X1 rfl
 have x2 := cell_mk (i := 2) X1 rfl
 by_cases h0 : b < i
 ·have h0I : (b : Int) < i := by omega
  have LC := Lib.hid (tlast_calls W1 b bt a n c h)
  unfold vL at LC ⊢
  obtain ⟨l, hl⟩ : ∃ l, b + n = l := ⟨_, rfl⟩
  rw [hl] at LC h ⊢
  by_cases h1 : i ≤ l
  ·have h1I : (i : Int) ≤ (l : Nat) := by omega
   have e : decide (b < i ∧ i ≤ l) = true := by simp; omega
   rw [e]
   clear h h0 e
   go_enter Try.func51, Try.ntmps51
   go_wp2_with fail
   try rw [hW1]
   (with_reducible refine LC.out.mono ?_)
   rintro e w2 ⟨rfl, f2⟩
   have F2 := Lib.hid (F1.trans f2)
   clear f2 LC
   go_wp2
   go_ret
   exact ⟨rfl, F2⟩
  ·have h1I : ¬ (i : Int) ≤ (l : Nat) := by omega
   have e : decide (b < i ∧ i ≤ l) = false := by simp; omega
   rw [e]
   clear h h0 e
   go_enter Try.func51, Try.ntmps51
   go_wp2_with fail
   try rw [hW1]
   (with_reducible refine LC.out.mono ?_)
   rintro e w2 ⟨rfl, f2⟩
   have F2 := Lib.hid (F1.trans f2)
   clear f2 LC
   go_wp2
   go_ret
   exact ⟨rfl, F2⟩
 ·have h0I : ¬ (b : Int) < i := by omega
  have e : decide (b < i ∧ i ≤ b + n) = false := by simp; omega
  rw [e]
  unfold vL
  clear h h0 e
  go_enter Try.func51, Try.ntmps51
  go_wp2
  try rw [hW1]
  go_ret
  exact ⟨rfl, F1⟩
def zEV : EV := ⟨0, 0, none, 0, []⟩
theorem set3 {w : World} {g : Nat} {t : TypeId} {a0 a1 a2 : Value} (h : w.heap[g]? = some (.cells #[a0, a1, a2] t (0, 0))) (v0 v1 v2 : Value) :
  ∃ W, (((w.setCell ⟨g, 0, none⟩ v0).setCell ⟨g, 1, none⟩ v1).setCell ⟨g, 2, none⟩ v2) = W ∧ W.heap[g]? = some (.cells #[v0, v1, v2] t (0, 0)) ∧ Fr (fun c _ => c ≠ g) w W :=
 ⟨_, rfl, heap_setCell_same (o := 2) (heap_setCell_same (o := 1) (heap_setCell_same (o := 0) h v0) v1) v2, (((Fr.refl _ _).setCell (fun _ _ h => h rfl) _).setCell (fun _ _ h => h rfl) _).setCell (fun _ _ h => h rfl) _⟩
set_option maxRecDepth 100000 in
theorem tentry_no (w : World) (b bt i : Nat) (a : Option Addr) (n c : Nat) (h : b + n < 18446744073709551616) (hi : ¬ (b < i ∧ i ≤ b + n)) :
  Calls Try.prog 24 #[vL b bt (.slice a n c), .int .u64 (i : Nat)] w fun e w' => e = .returned (.tuple #[vE zEV, .bool false]) ∧ FT w w' := by
 obtain ⟨W1, hW1⟩ : ∃ W, w.alloc (.cells #[.int .u64 (b : Nat), .int .u64 (bt : Nat), .slice a n c] 37 (0, 0)) = W := ⟨_, rfl⟩
 have F1 : Hid (FT w W1) := hW1 ▸ (Fr.refl _ _).alloc _
 have X1 : Hid (W1.heap[w.heap.size]? = some (.cells #[.int .u64 (b : Nat), .int .u64 (bt : Nat), .slice a n c] 37 (0, 0))) := hW1 ▸ heap_alloc_new w _
 obtain ⟨W2, hW2⟩ : ∃ W, W1.alloc (.cells #[.int .u64 0, .int .i64 0, .slice none 0 0] 68 (0, 0)) = W := ⟨_, rfl⟩
 have F2 : Hid (FT W1 W2) := hW2 ▸ (Fr.refl _ _).alloc _
 have X2 : Hid (W2.heap[W1.heap.size]? = some (.cells #[.int .u64 0, .int .i64 0, .slice none 0 0] 68 (0, 0))) := hW2 ▸ heap_alloc_new W1 _
 have XL : Hid (W2.heap[w.heap.size]? = some (.cells #[.int .u64 (b : Nat), .int .u64 (bt : Nat), .slice a n c] 37 (0, 0))) := F2.keep _ _ X1 trivial
 have x0 := cell_mk (i := 0) XL rfl
 have x1 := cell_mk (i := 1) XL rfl
 have x2 := cell_mk (i := 2) XL rfl
 have HCL := Lib.hid (thas_calls W2 b bt i a n c h)
 rw [show decide (b < i ∧ i ≤ b + n) = false by simp; omega] at HCL
 unfold vL at HCL ⊢
 have FW := Lib.hid (F1.trans F2)
 have NS : Hid (w.heap.size ≤ W1.heap.size) := F1.size
 clear h hi
 unfold vE zEV
 go_enter Try.func24, Try.ntmps24
 go_wp2_with fail
 try rw [hW1]
 try rw [hW2]
 (with_reducible refine HCL.out.mono ?_)
 rintro e w3 ⟨rfl, f3⟩
 have F3 := Lib.hid (FW.trans f3)
 have X3 : Hid (w3.heap[W1.heap.size]? = some (.cells #[.int .u64 0, .int .i64 0, .slice none 0 0] 68 (0, 0))) := f3.keep _ _ X2 trivial
 have x0 := cell_mk (i := 0) (f3.keep _ _ XL trivial) rfl
 have x2 := cell_mk (i := 2) (f3.keep _ _ XL trivial) rfl
 have q0 := cell_mk (i := 0) X3 rfl
 have q1 := cell_mk (i := 1) X3 rfl
 have q2 := cell_mk (i := 2) X3 rfl
 have y0 := frozen_mk (i := 0) X3
 have y1 := frozen_mk (i := 1) X3
 have y2 := frozen_mk (i := 2) X3
 obtain ⟨WZ, hWZ, TZ, FZ⟩ := set3 X3 (.int .u64 0) (.int .i64 0) (.slice none 0 0)
 have p0 := cell_mk (i := 0) TZ rfl
 have p1 := cell_mk (i := 1) TZ rfl
 have p2 := cell_mk (i := 2) TZ rfl
 have FZH := Lib.hid FZ
 clear TZ FZ f3 HCL
 go_wp2
 try rw [hWZ]
 refine bodyPost_ret (v := .tuple #[.agg #[.int .u64 0, .int .i64 0, .slice none 0 0], .bool false]) (by simp [results, Try.results24, go_sem, *]) rfl ⟨rfl, ?_⟩
 try rw [hWZ]
 exact Fr.within ((F3.out.tT).trans (FZH.out.mono fun c _ h e => by have := h.2; have := NS.out; omega))
set_option maxRecDepth 100000 in
theorem tentry_yes {K : Nat → Obj → Prop} (w : World) (b bt i k : Nat) (a : Option Addr) (n c : Nat) (xs : List EV) (hx : RowsAt K w (.slice a n c) 3 encE xs) (hn : xs.length = n) (h : b + n < 18446744073709551616) (hk : k < xs.length) (hi : i = b + 1 + k) :
  Calls Try.prog 24 #[vL b bt (.slice a n c), .int .u64 (i : Nat)] w fun e w' => e = .returned (.tuple #[vE (xs[k]), .bool true]) ∧ FT w w' := by
 obtain ⟨W1, hW1⟩ : ∃ W, w.alloc (.cells #[.int .u64 (b : Nat), .int .u64 (bt : Nat), .slice a n c] 37 (0, 0)) = W := ⟨_, rfl⟩
 have F1 : Hid (FT w W1) := hW1 ▸ (Fr.refl _ _).alloc _
 have X1 : Hid (W1.heap[w.heap.size]? = some (.cells #[.int .u64 (b : Nat), .int .u64 (bt : Nat), .slice a n c] 37 (0, 0))) := hW1 ▸ heap_alloc_new w _
 obtain ⟨W2, hW2⟩ : ∃ W, W1.alloc (.cells #[.int .u64 0, .int .i64 0, .slice none 0 0] 68 (0, 0)) = W := ⟨_, rfl⟩
 have F2 : Hid (FT W1 W2) := hW2 ▸ (Fr.refl _ _).alloc _
 have X2 : Hid (W2.heap[W1.heap.size]? = some (.cells #[.int .u64 0, .int .i64 0, .slice none 0 0] 68 (0, 0))) := hW2 ▸ heap_alloc_new W1 _
 have XL : Hid (W2.heap[w.heap.size]? = some (.cells #[.int .u64 (b : Nat), .int .u64 (bt : Nat), .slice a n c] 37 (0, 0))) := F2.keep _ _ X1 trivial
 have x0 := cell_mk (i := 0) XL rfl
 have x1 := cell_mk (i := 1) XL rfl
 have x2 := cell_mk (i := 2) XL rfl
 have HCL := Lib.hid (thas_calls W2 b bt i a n c h)
 rw [show decide (b < i ∧ i ≤ b + n) = true by simp; omega] at HCL
 unfold vL at HCL ⊢
 have FW := Lib.hid (F1.trans F2)
 have NS : Hid (w.heap.size ≤ W1.heap.size) := F1.size
 have HX := Lib.hid hx
 obtain ⟨m, hm⟩ : ∃ m, 1 + k = m := ⟨_, rfl⟩
 have s1 : IntKind.u64.wrap ((i : Int) - b) = (m : Int) := by rw [IntKind.wrap_u64]; omega
 have s2 : IntKind.u64.wrap ((m : Int) - 1) = (k : Int) := by rw [IntKind.wrap_u64]; omega
 clear hm
 have kI : (k : Int) < n := by omega
 have k0 : (0 : Int) ≤ (k : Int) := by omega
 obtain ⟨bx, off, o, rfl, _, _, hcl⟩ := hx.spot (by omega)
 have hcs := RowsAt.e3 (K := K) hcl k hk
 obtain ⟨x, hxx⟩ : ∃ x, xs[k] = x := ⟨_, rfl⟩
 rw [hxx] at hcs ⊢
 have HCS := Lib.hid hcs
 unfold vE
 clear h hi hk hx hcl hcs hxx hn
 go_enter Try.func24, Try.ntmps24
 go_wp2_with fail
 try rw [hW1]
 try rw [hW2]
 (with_reducible refine HCL.out.mono ?_)
 rintro e w3 ⟨rfl, f3⟩
 have F3 := Lib.hid (FW.trans f3)
 have X3 : Hid (w3.heap[W1.heap.size]? = some (.cells #[.int .u64 0, .int .i64 0, .slice none 0 0] 68 (0, 0))) := f3.keep _ _ X2 trivial
 have x0 := cell_mk (i := 0) (f3.keep _ _ XL trivial) rfl
 have x2 := cell_mk (i := 2) (f3.keep _ _ XL trivial) rfl
 have q0 := cell_mk (i := 0) X3 rfl
 have q1 := cell_mk (i := 1) X3 rfl
 have q2 := cell_mk (i := 2) X3 rfl
 have y0 := frozen_mk (i := 0) X3
 have y1 := frozen_mk (i := 1) X3
 have y2 := frozen_mk (i := 2) X3
 obtain ⟨WZ, hWZ, TZ, FZ⟩ := set3 X3 (.int .u64 (x.t : Nat)) (.int .i64 x.k) (.slice x.a x.d.length x.c)
 have p0 := cell_mk (i := 0) TZ rfl
 have p1 := cell_mk (i := 1) TZ rfl
 have p2 := cell_mk (i := 2) TZ rfl
 have FZH := Lib.hid FZ
 have e0 := F3.cell (fun _ _ => trivial) HCS.1
 have e1 := F3.cell (fun _ _ => trivial) HCS.2.1
 have e2 := F3.cell (fun _ _ => trivial) HCS.2.2
 clear TZ FZ f3 HCL
 go_wp2
 try rw [hWZ]
 refine bodyPost_ret (v := .tuple #[.agg #[.int .u64 (x.t : Nat), .int .i64 x.k, .slice x.a x.d.length x.c], .bool true]) (by simp [results, Try.results24, go_sem, *]) rfl ⟨rfl, ?_⟩
 try rw [hWZ]
 exact Fr.within ((F3.out.tT).trans (FZH.out.mono fun c _ h e => by have := h.2; have := NS.out; omega))
end Go.Proofs.Ytmjccpfchhnfhaa
/- Entries, plainly, for the layers of terms, elect and follow. -/
namespace Go.Proofs.Ytmjccpfchhnfhaa
structure En where
 t : Nat
 k : Int
 d : List UInt8
 deriving DecidableEq, Inhabited
def EV.en (x : EV) : En := ⟨x.t, x.k, x.d⟩
end Go.Proofs.Ytmjccpfchhnfhaa
/- Logs, plainly: what terms' functions do. -/
namespace Go.Proofs.Ytmjccpfchhnfhaa
set_option linter.unusedVariables false
set_option linter.unusedSimpArgs false
structure Lg where
 base : Nat
 bt : Nat
 es : List En
 deriving DecidableEq, Inhabited
namespace Lg
def last (l : Lg) : Nat := l.base + l.es.length
def has (l : Lg) (i : Nat) : Bool := decide (l.base < i ∧ i ≤ l.last)
def entry (l : Lg) (i : Nat) : Option En := if l.has i then l.es[i - l.base - 1]? else none
def term (l : Lg) (i : Nat) : Nat × Bool := if i = l.base then (l.bt, true) else match l.entry i with
 | some x => (x.t, true)
 | none => (0, false)
def lastT (l : Lg) : Nat := (l.es.getLast?.map (·.t)).getD l.bt
def newer (l : Lg) (t i : Nat) : Bool := decide (l.lastT < t) || (decide (t = l.lastT) && decide (l.last ≤ i))
def add (l : Lg) (x : En) : Lg := { l with es := l.es ++ [x] }
def slice (l : Lg) (i most : Nat) : List En := if l.has i then (l.es.drop (i - l.base - 1)).take most else []
def fits (l : Lg) (p pt n : Nat) : Int := if l.last < p then 60 else if p < l.base then (if p + n ≤ l.base then 61 else 0) else if (l.term p).1 = pt then 0 else 60
def lay (l : Lg) : Nat → List En → Lg
 | _, [] => l
 | p, x :: xs => if l.term (p + 1) = (x.t, true) then lay l (p + 1) xs else { l with es := l.es.take (p - l.base) ++ x :: xs }
def append (l : Lg) (p pt : Nat) (es : List En) : Lg × Int :=
 if l.fits p pt es.length ≠ 0 then (l, l.fits p pt es.length) else if p < l.base then (l.lay l.base (es.drop (l.base - p)), 0) else (l.lay p es, 0)
def down (l : Lg) (own : Nat) : Nat → Nat
 | 0 => l.base
 | k + 1 => if (l.term (l.base + (k + 1))).1 = own then down l own k else l.base + (k + 1)
def hint (l : Lg) (p : Nat) : Nat := if min p l.last ≤ l.base then l.base else l.down (l.term (min p l.last)).1 (min p l.last - l.base)
theorem has_iff {l : Lg} {i : Nat} : l.has i = true ↔ l.base < i ∧ i ≤ l.last := by unfold has; simp
theorem entry_some {l : Lg} {i : Nat} (h : l.base < i ∧ i ≤ l.last) : ∃ h' : i - l.base - 1 < l.es.length, l.entry i = some (l.es[i - l.base - 1]'h') := by
 have hl : i - l.base - 1 < l.es.length := by unfold last at h; omega
 refine ⟨hl, ?_⟩
 unfold entry
 rw [if_pos (has_iff.2 h), List.getElem?_eq_getElem hl]
theorem entry_none {l : Lg} {i : Nat} (h : ¬ (l.base < i ∧ i ≤ l.last)) : l.entry i = none := by
 unfold entry
 rw [if_neg (fun k => h (has_iff.1 k))]
theorem term_base (l : Lg) : l.term l.base = (l.bt, true) := by unfold term; rw [if_pos rfl]
theorem term_in {l : Lg} {i : Nat} (h : l.base < i ∧ i ≤ l.last) : ∃ h' : i - l.base - 1 < l.es.length, l.term i = ((l.es[i - l.base - 1]'h').t, true) := by
 obtain ⟨h', e⟩ := entry_some h
 refine ⟨h', ?_⟩
 unfold term
 rw [if_neg (by omega), e]
theorem term_out {l : Lg} {i : Nat} (h : i < l.base ∨ l.last < i) : l.term i = (0, false) := by
 unfold term
 rw [if_neg (by unfold last at h; omega), entry_none (by omega)]
theorem term_is {l : Lg} {i : Nat} : (l.term i).2 = true ↔ l.base ≤ i ∧ i ≤ l.last := by
 by_cases h0 : i = l.base
 ·subst h0
  rw [term_base]
  unfold last
  simp
 ·by_cases h : l.base < i ∧ i ≤ l.last
  ·obtain ⟨_, e⟩ := term_in h
   rw [e]
   simp
   omega
  ·rw [term_out (by omega)]
   simp
   omega
theorem lay_base (l : Lg) : ∀ (es : List En) (p : Nat), (l.lay p es).base = l.base ∧ (l.lay p es).bt = l.bt
 | [], p => ⟨rfl, rfl⟩
 | x :: xs, p => by
  unfold lay
  split
  ·exact lay_base l xs (p + 1)
  ·exact ⟨rfl, rfl⟩
theorem append_base (l : Lg) (p pt : Nat) (es : List En) : (l.append p pt es).1.base = l.base ∧ (l.append p pt es).1.bt = l.bt := by
 unfold append
 split
 ·exact ⟨rfl, rfl⟩
 ·split <;> exact lay_base _ _ _
theorem down_le (l : Lg) (own : Nat) : ∀ k, l.base ≤ l.down own k ∧ l.down own k ≤ l.base + k
 | 0 => ⟨Nat.le_refl _, Nat.le_refl _⟩
 | k + 1 => by
  unfold down
  split
  ·have := down_le l own k; omega
  ·omega
end Lg
structure Nd where
 me : Int
 vote : Int
 role : Int
 ld : Int
 conf : List Int
 yes : List Int
 tm : Nat
 commit : Nat
 log : Lg
 heard : Bool
 next : List Nat
 mat : List Nat
 deriving DecidableEq, Inhabited
structure Ms where
 kind : Int
 src : Int
 dst : Int
 tm : Nat
 index : Nat
 prev : Nat
 commit : Nat
 ok : Bool
 data : List UInt8
 es : List En
 deriving DecidableEq, Inhabited
def zMs : Ms := ⟨0, 0, 0, 0, 0, 0, 0, false, [], []⟩
namespace Nd
def new (me : Int) (conf : List Int) : Nd := ⟨me, -1, 0, -1, conf, [], 0, 0, ⟨0, 0, []⟩, false, List.replicate 16 0, List.replicate 16 0⟩
def follow (n : Nd) (t : Nat) (ld : Int) : Nd := if n.tm < t then { n with tm := t, vote := -1, role := 0, ld := ld, yes := [] } else { n with role := 0, ld := ld, yes := [] }
def others (n : Nd) : List Int := n.conf.filter fun m => decide (m ≠ n.me)
def lead (n : Nd) : Nd := { n with role := 3, ld := n.me, yes := [], log := n.log.add ⟨n.tm, 0, []⟩, next := List.replicate 16 (n.log.last + 1), mat := (List.replicate 16 0).set n.me.toNat (n.log.last + 1) }
def toAll (n : Nd) (m : Ms) : List Ms := n.others.map fun x => { m with src := n.me, dst := x }
end Nd
end Go.Proofs.Ytmjccpfchhnfhaa
