/- Texts of the proofs, part 31: what the functions that they reach do, walked; no conditions beyond those that each states. -/
import Derived.Test.YtlolfcnfcgegdaaGreatZz249462be0e
set_option linter.unusedVariables false
set_option linter.unusedSimpArgs false
/- The document's locks: what a step leaves; appends of lists that are read. -/
namespace Go.Proofs.YtlolfcnfcgegdaaGreat
open Go.RowKit
set_option linter.unusedVariables false
set_option linter.unusedSimpArgs false

def tabC (now last : Value) (hv wv : Nat → Value) : Obj := .cells #[now, last, hv 0, hv 1, hv 2, hv 3, wv 0, wv 1, wv 2, wv 3] 77 (0, 0)
def updV (f : Nat → Value) (i : Nat) (v : Value) : Nat → Value := fun j => if j = i then v else f j
section
variable {w : World} {bt : Nat} {now last : Value} {hv wv : Nat → Value}
theorem tabC_setW (h : w.heap[bt]? = some (tabC now last hv wv)) {i : Nat} (hi : i < 4) (v : Value) : (w.setCell ⟨bt, 6 + i, none⟩ v).heap[bt]? = some (tabC now last hv (updV wv i v)) := by
  rw [heap_setCell_same h v]
  match i, hi with
  | 0, _ => rfl
  | 1, _ => rfl
  | 2, _ => rfl
  | 3, _ => rfl
theorem tabC_setH (h : w.heap[bt]? = some (tabC now last hv wv)) {i : Nat} (hi : i < 4) (v : Value) : (w.setCell ⟨bt, 2 + i, none⟩ v).heap[bt]? = some (tabC now last (updV hv i v) wv) := by
  rw [heap_setCell_same h v]
  match i, hi with
  | 0, _ => rfl
  | 1, _ => rfl
  | 2, _ => rfl
  | 3, _ => rfl
theorem tabC_setN (h : w.heap[bt]? = some (tabC now last hv wv)) (v : Value) : (w.setCell ⟨bt, 0, none⟩ v).heap[bt]? = some (tabC v last hv wv) := by
  rw [heap_setCell_same h v]; rfl
theorem tabC_setL (h : w.heap[bt]? = some (tabC now last hv wv)) (v : Value) : (w.setCell ⟨bt, 1, none⟩ v).heap[bt]? = some (tabC now v hv wv) := by
  rw [heap_setCell_same h v]; rfl
theorem tabC_cells (t : w.heap[bt]? = some (tabC now last hv wv)) : w.cell? ⟨bt, 0, none⟩ = some now ∧ w.cell? ⟨bt, 1, none⟩ = some last ∧ w.frozen? ⟨bt, 0, none⟩ = false ∧ w.frozen? ⟨bt, 1, none⟩ = false ∧ ∀ i, i < 4 → w.cell? ⟨bt, 2 + i, none⟩ = some (hv i) ∧ w.cell? ⟨bt, 6 + i, none⟩ = some (wv i) ∧ w.frozen? ⟨bt, 2 + i, none⟩ = false ∧ w.frozen? ⟨bt, 6 + i, none⟩ = false := by
  refine ⟨cell_mk t rfl, cell_mk t rfl, frozen_mk t, frozen_mk t, fun i hi => ?_⟩
  match i, hi with
  | 0, _ => exact ⟨cell_mk t rfl, cell_mk t rfl, frozen_mk t, frozen_mk t⟩
  | 1, _ => exact ⟨cell_mk t rfl, cell_mk t rfl, frozen_mk t, frozen_mk t⟩
  | 2, _ => exact ⟨cell_mk t rfl, cell_mk t rfl, frozen_mk t, frozen_mk t⟩
  | 3, _ => exact ⟨cell_mk t rfl, cell_mk t rfl, frozen_mk t, frozen_mk t⟩
theorem updV_same {f : Nat → Value} {i : Nat} {v : Value} : updV f i v i = v := by unfold updV; rw [if_pos rfl]
theorem updV_ne {f : Nat → Value} {i j : Nat} {v : Value} (h : j ≠ i) : updV f i v j = f j := by unfold updV; rw [if_neg h]
end
/-- A row of one's own is read. -/
theorem rows_own {α : Type} {enc : α → List Value} {k : Nat} {w : World} {B : Nat} {e : TypeId} {v : Value} {xs : List α} (h : w.ownsRow B e k v xs.length (xs.flatMap enc)) (hk : ∀ x, (enc x).length = k) : RowsAt (fun c o => B ≤ c ∧ ∃ cs, o = .cells cs e (0, 0)) w v k enc xs := by
  rcases h.2 with ⟨rfl, h0⟩ | ⟨g, cap, cur, rfl, hb, hg, hn, _, hc, ht⟩
  · rw [List.length_eq_zero_iff] at h0
    subst h0
    exact RowsAt.nil _ _ _ _
  · refine ⟨_, cap, rfl, hn, .inr ⟨g, 0, _, rfl, hg, ⟨hb, cur, rfl⟩, fun i hi j u hu => ?_⟩⟩
    have h1 := flat_get hk xs i hi j u hu
    rw [← ht, List.getElem?_take] at h1
    split at h1
    · rw [Nat.zero_add]
      exact cell_mk hg (by simpa using h1)
    · cases h1
/-- Only the table's block is written; what is new among its own is new. -/
structure Kg (bt : Nat) (G G' : Nat → Prop) (w w' : World) : Prop where
  fr : Fr (fun c _ => c ≠ bt) w w'
  new : ∀ c, ¬ G c → G' c → w.heap.size ≤ c
theorem Kg.same {bt : Nat} (G : Nat → Prop) {w w' : World} (h : Fr (fun _ _ => True) w w') : Kg bt G G w w' := ⟨h.mono fun _ _ _ => trivial, fun _ h k => absurd k h⟩
theorem Kg.refl {bt : Nat} (G : Nat → Prop) (w : World) : Kg bt G G w w := .same G (Fr.refl _ _)
theorem Kg.trans {bt : Nat} {G G' G'' : Nat → Prop} {a b c : World} (h : Kg bt G G' a b) (k : Kg bt G' G'' b c) : Kg bt G G'' a c :=
  ⟨h.fr.trans k.fr, fun x hx hx2 => by
    by_cases q : G' x
    · exact h.new x hx q
    · exact Nat.le_trans h.fr.size (k.new x q hx2)⟩
theorem Kg.pre {bt : Nat} {G G' : Nat → Prop} {a b c : World} (f : Fr (fun c _ => c ≠ bt) a b) (k : Kg bt G G' b c) : Kg bt G G' a c := ⟨f.trans k.fr, fun x h h2 => Nat.le_trans f.size (k.new x h h2)⟩
section
variable {n : Nat} {G : Nat → Prop} {w W : World} {bt : Nat} {hv wv hv' wv' : Nat → Value} {L L' : Lk}
/-- The table behind a write of its block, its rows old or new ones. -/
theorem DR.new (h : DR n G w bt hv wv L) (hn : n ≤ w.heap.size) (f : Fr (fun c _ => c < w.heap.size ∧ c ≠ bt) w W) (ht : W.heap[bt]? = some (tabC (.int .u64 (L'.now : Nat)) (.int .u64 (L'.last : Nat)) hv' wv'))
    (hh : ∀ i, i < 4 → RowsAt (fun c _ => G c ∧ c ≠ bt) w (hv' i) 4 encH (L'.rg i).hs ∨ W.ownsRow w.heap.size 112 4 (hv' i) (L'.rg i).hs.length ((L'.rg i).hs.flatMap encH))
    (hw : ∀ i, i < 4 → RowsAt (fun c _ => G c ∧ c ≠ bt) w (wv' i) 2 encW (L'.rg i).ws ∨ W.ownsRow w.heap.size 114 2 (wv' i) (L'.rg i).ws.length ((L'.rg i).ws.flatMap encW)) (hok : L'.ok) :
    ∃ G', DRE n G' W bt L' ∧ Kg bt G G' w W := by
  have hb := lt_of_some h.top
  have d := h.put (L' := L') (hv' := hv') (wv' := wv') (G' := fun c => G c ∨ (w.heap.size ≤ c ∧ ∃ cs t fz, W.heap[c]? = some (.cells cs t fz) ∧ tyD t)) f ht (fun c hc => .inl hc)
    (fun c hc => hc.imp id fun q => ⟨by omega, q.1, q.2⟩)
  refine ⟨_, ⟨_, _, (d ?_ ?_ hok).1⟩, Fr.within (f.mono fun c o hc => ⟨hc.2, hc.1⟩), fun c h1 h2 => h2.elim (fun q => absurd q h1) fun q => q.1⟩
  all_goals intro i hi
  · rcases hh i hi with q | q
    · exact DR.rows (fun c hc => .inl hc) f q
    · exact (rows_own q encH_len).mono fun c o ho hc => ⟨.inr ⟨hc.1, by obtain ⟨cs, rfl⟩ := hc.2; exact ⟨_, _, _, ho, .inr (.inl rfl)⟩⟩, by have := hc.1; omega⟩
  · rcases hw i hi with q | q
    · exact DR.rows (fun c hc => .inl hc) f q
    · exact (rows_own q encW_len).mono fun c o ho hc => ⟨.inr ⟨hc.1, by obtain ⟨cs, rfl⟩ := hc.2; exact ⟨_, _, _, ho, .inr (.inr rfl)⟩⟩, by have := hc.1; omega⟩
end

/-- An append of nothing to a row of one's own. -/
theorem run_append_zero {P : Program} {w : World} (base : Nat) (t ty e : TypeId) (i : TypeInfo) (size : Nat) (ht : P.underlying t = some (.slice e)) (hi : P.info? e = some i)
    (v : Value) (n : Nat) (xs : List Value) (hown : w.ownsRow base e size v n xs) (ad : Option Addr) (c : Nat) : (Builtin.append_ #[t, t] ty #[v, .slice ad 0 c]).run P w = .ok v w := by
  rcases hown.2 with ⟨rfl, rfl⟩ | ⟨g, cap, cur, rfl, _, _, hnc, _⟩
  · cases ad <;> simp [Builtin.append_, run_underlying ht, sizeOf, typeInfo, hi, Builtin.lenOf, Builtin.firstCells, loadCells, loadCellsFrom]
  · cases ad <;> simp [Builtin.append_, run_underlying ht, sizeOf, typeInfo, hi, Builtin.lenOf, Builtin.firstCells, hnc, storeCells, loadCells, loadCellsFrom]
theorem wp_append_rows {α : Type} {enc : α → List Value} {P : Program} {K0 : Nat → Obj → Prop} {o : Oper} {a : Act} {K : Act → World → Prop} {Q : Exit → Act → World → Prop} (W : World) (s x : Operand) (t e : TypeId)
    (ho : o.op = .call { callee := .builtin .append, args := #[s, x], argTypes := #[t, t] }) (B : Nat) (hB : B ≤ W.heap.size) (i : TypeInfo) (z : Value) (size bytes : Nat) (ht : P.underlying t = some (.slice e)) (hi : P.info? e = some i) (hz : i.zero = some z)
    (hsize : i.size = size) (hby : i.bytes = bytes) (hzs : z.cells.size = size) (hsz : 0 < size) (hb32 : bytes ≤ 32) (hk : ∀ x, (enc x).length = size) (h1 : ∀ x, ∀ u ∈ enc x, u.oneCell' = true)
    (v : Value) (n : Nat) (T : List α) (hs : a.eval s = v) (hown : W.ownsRow B e size v n (T.flatMap enc)) (vx : Value) (ys : List α) (hx : a.eval x = vx) (hvx : RowsAt K0 W vx size enc ys)
    (R : List α) (hR : T ++ ys = R) (N : Nat) (hN : n + ys.length = N) (hn : N ≤ 1000000)
    (h : ∀ g c w', w'.ownsRow B e size (.slice g N c) N (R.flatMap enc) → W.grownBy w' v.ownBlock → OwnNext W v (.slice g N c) → K (a.put o.dst (.slice g N c)) w') : o.wp P a W K Q := by
  subst hR hN
  have hcont : ∀ v' w', w'.ownsRow B e size v' (n + ys.length) (T.flatMap enc ++ ys.flatMap enc) → W.grownBy w' v.ownBlock → OwnNext W v v' → K (a.put o.dst v') w' := fun v' w' q1 q2 q3 => by
    obtain ⟨g, c, rfl⟩ := own_form q1
    exact h g c w' (by rw [List.flatMap_append]; exact q1) q2 q3
  obtain ⟨ax, cx, rfl, _⟩ := hvx.form
  by_cases h0 : ys.length = 0
  · have e0 := List.length_eq_zero_iff.1 h0
    subst e0
    have hrun := run_append_zero (P := P) (w := W) B t o.type e i size ht hi v n _ hown ax cx
    unfold Oper.wp execOp
    simp only [List.length_nil] at hx
    simp only [ho, resolve, invoke, builtin, Sem.run_bind, Sem.run_pure, Result.andThen_ok, List.map_toArray, List.map_cons, List.map_nil, hs, hx, hrun]
    exact hcont v W (by simpa using hown) ⟨rfl, rfl, rfl, Nat.le_refl _, fun _ _ _ => rfl⟩ (.inl rfl)
  · obtain ⟨b, off, ob, rfl, _⟩ := hvx.spot (by omega)
    rcases RowsAt.src hk hsz h1 hvx with ⟨he, _⟩ | ⟨ad, c, he, hl, hc, ho1⟩
    · cases he
    · cases he
      have hbb : (n + ys.length) * bytes ≤ 1000000 * 32 := Nat.mul_le_mul hn hb32
      exact wp_append_own2 W s x t ho B e i z size bytes ht hi hz hsize hby hzs hsz v n _ hs hown _ ys.length _ _ hx hl hc ho1 (by unfold maxLen; omega) (by omega) hB hcont
/-- An append of a list of holds, at a step of a region that draws its order. -/
theorem step_append_hos {K0 : Nat → Obj → Prop} {ops : Array Oper} {o : Oper} {a : Act} {K : Act → World → Prop} {Q : Exit → Act → World → Prop} {E : Prop} (W : World) (hgd : o.guard = none) (s x : Operand)
    (ho : o.op = .call { callee := .builtin .append, args := #[s, x], argTypes := #[60, 60] }) (B : Nat) (hB : B ≤ W.heap.size) (v : Value) (n : Nat) (T : List Ho) (hs : a.eval s = v) (hown : Hid (W.ownsRow B 112 4 v n (T.flatMap encH)))
    (vx : Value) (ys : List Ho) (hx : a.eval x = vx) (hvx : Hid (RowsAt K0 W vx 4 encH ys)) (R : List Ho) (hR : Hid (T ++ ys = R)) (N : Nat) (hN : Hid (n + ys.length = N)) (hn : N ≤ 1000000)
    (h : ∀ g c w', Hid (w'.ownsRow B 112 4 (.slice g N c) N (R.flatMap encH)) → Hid (W.grownBy w' v.ownBlock) → Hid (OwnNext W v (.slice g N c)) → K (a.put o.dst (.slice g N c)) w') :
    if Region.wanted o (yielded ops a.tmps) = true then Oper.wp Tryz.prog o a W K Q else E := by
  have hw : Region.wanted o (yielded ops a.tmps) = true := by simp [Region.wanted, hgd]
  rw [if_pos hw]
  obtain ⟨i0, hi, hz0, hz1, hz2⟩ := info_parts info_ho
  exact wp_append_rows W s x 60 112 ho B hB i0 _ 4 32 Tryz.underlying60 hi hz0 hz1 hz2 rfl (by decide) (by decide) encH_len encH_one v n T hs hown.out vx ys hx hvx.out R hR.out N hN.out hn h
/-- An append of a list of wants, at a step of a region that draws its order. -/
theorem step_append_was {K0 : Nat → Obj → Prop} {ops : Array Oper} {o : Oper} {a : Act} {K : Act → World → Prop} {Q : Exit → Act → World → Prop} {E : Prop} (W : World) (hgd : o.guard = none) (s x : Operand)
    (ho : o.op = .call { callee := .builtin .append, args := #[s, x], argTypes := #[61, 61] }) (B : Nat) (hB : B ≤ W.heap.size) (v : Value) (n : Nat) (T : List Wa) (hs : a.eval s = v) (hown : Hid (W.ownsRow B 114 2 v n (T.flatMap encW)))
    (vx : Value) (ys : List Wa) (hx : a.eval x = vx) (hvx : Hid (RowsAt K0 W vx 2 encW ys)) (R : List Wa) (hR : Hid (T ++ ys = R)) (N : Nat) (hN : Hid (n + ys.length = N)) (hn : N ≤ 1000000)
    (h : ∀ g c w', Hid (w'.ownsRow B 114 2 (.slice g N c) N (R.flatMap encW)) → Hid (W.grownBy w' v.ownBlock) → Hid (OwnNext W v (.slice g N c)) → K (a.put o.dst (.slice g N c)) w') :
    if Region.wanted o (yielded ops a.tmps) = true then Oper.wp Tryz.prog o a W K Q else E := by
  have hw : Region.wanted o (yielded ops a.tmps) = true := by simp [Region.wanted, hgd]
  rw [if_pos hw]
  obtain ⟨i0, hi, hz0, hz1, hz2⟩ := info_parts info_wa
  exact wp_append_rows W s x 61 114 ho B hB i0 _ 2 16 Tryz.underlying61 hi hz0 hz1 hz2 rfl (by decide) (by decide) encW_len encW_one v n T hs hown.out vx ys hx hvx.out R hR.out N hN.out hn h
/-- One element in a block of its own. -/
theorem rows_oneH {w : World} {b : Nat} {y : Ho} (h : w.heap[b]? = some (.cells #[.int .i64 (y.c : Nat), .int .i64 (y.m : Nat), .int .u64 (y.t : Nat), .int .u64 (y.u : Nat)] 112 (0, 0))) : RowsAt (fun c _ => c = b) w (.slice (some ⟨b, 0, none⟩) 1 1) 4 encH [y] := by
  refine ⟨_, 1, rfl, Nat.le_refl _, .inr ⟨b, 0, _, rfl, h, rfl, fun i hi j u hu => ?_⟩⟩
  have : i = 0 := by simpa using hi
  subst this
  rcases j with _ | _ | _ | _ | j
  · cases hu; exact cell_mk h rfl
  · cases hu; exact cell_mk h rfl
  · cases hu; exact cell_mk h rfl
  · cases hu; exact cell_mk h rfl
  · cases hu
theorem rows_oneW {w : World} {b : Nat} {y : Wa} (h : w.heap[b]? = some (.cells #[.int .i64 (y.c : Nat), .int .i64 (y.m : Nat)] 114 (0, 0))) : RowsAt (fun c _ => c = b) w (.slice (some ⟨b, 0, none⟩) 1 1) 2 encW [y] := by
  refine ⟨_, 1, rfl, Nat.le_refl _, .inr ⟨b, 0, _, rfl, h, rfl, fun i hi j u hu => ?_⟩⟩
  have : i = 0 := by simpa using hi
  subst this
  rcases j with _ | _ | j
  · cases hu; exact cell_mk h rfl
  · cases hu; exact cell_mk h rfl
  · cases hu
/-- An element's block, behind an append to a row elsewhere. -/
theorem rows_past {α : Type} {enc : α → List Value} {k b : Nat} {w w' : World} {v vx : Value} {ys : List α} (h : RowsAt (fun c _ => c = b) w vx k enc ys) (g : w.grownBy w' v.ownBlock) (hne : v.ownBlock ≠ some b) : RowsAt (fun c _ => c = b) w' vx k enc ys :=
  h.fr (K' := fun c _ => v.ownBlock ≠ some c) ((Fr.refl _ w).grown g (fun k o e _ hk => hk e)) fun c o _ hc => hc ▸ hne
theorem own_ltv {w : World} {B : Nat} {e : TypeId} {s : Nat} {v : Value} {n : Nat} {xs : List Value} (h : w.ownsRow B e s v n xs) {b : Nat} (hb : w.heap.size ≤ b) : v.ownBlock ≠ some b := fun e => by
  obtain ⟨cur, hc⟩ := own_tag h e
  have := lt_of_some hc
  omega
end Go.Proofs.YtlolfcnfcgegdaaGreat
/- The document's locks: a step of give where something is given (printed by dgive19.py). -/
namespace Go.Proofs.YtlolfcnfcgegdaaGreat
open Go.RowKit
set_option linter.unusedVariables false
set_option linter.unusedSimpArgs false

/-- Where a slice begins that is cut at n, elements of s cells. -/
def subS (a : Option Addr) (cap n s : Nat) : Option Addr := if cap = n then a else a.map (·.add (n * s))
theorem run_sliceS {P : Program} {t e : TypeId} (s : Nat) (ht : P.underlying t = some (.slice e)) (hs : (sizeOf e).run P = fun w => .ok s w) (w : World) (a : Option Addr) (len cap n : Nat) (k : IntKind) (h : n ≤ cap) :
    (Instr.slice t (.slice a len cap) none (some (.int k n)) none).run P w = .ok (.slice a n cap) w := by
  have h0 : (0 : Int) ≤ n ∧ (n : Int) ≤ cap := by omega
  simp only [Instr.slice, Sem.run_bind, run_underlying ht, Result.andThen, Instr.sliceBounds, Instr.sliceBound, asIntOf, Sem.run_pure, h0, and_self, ↓reduceIte, hs]
  cases a <;> simp [Addr.add]
theorem run_sliceF {P : Program} {t e : TypeId} (s : Nat) (ht : P.underlying t = some (.slice e)) (hs : (sizeOf e).run P = fun w => .ok s w) (w : World) (a : Option Addr) (len cap n : Nat) (k : IntKind) (h : n ≤ len) :
    (Instr.slice t (.slice a len cap) (some (.int k n)) none none).run P w = .ok (.slice (subS a cap n s) (len - n) (cap - n)) w := by
  have h0 : (0 : Int) ≤ n ∧ (n : Int) ≤ len := by omega
  simp only [Instr.slice, Sem.run_bind, run_underlying ht, Result.andThen, Instr.sliceBounds, Instr.sliceBound, asIntOf, Sem.run_pure, h0, and_self, ↓reduceIte, hs]
  simp [subS]
theorem size_ho : (sizeOf 112).run Tryz.prog = fun w => .ok 4 w := by kernel_rfl
theorem size_wa : (sizeOf 114).run Tryz.prog = fun w => .ok 2 w := by kernel_rfl
section
variable {α : Type} {K : Nat → Obj → Prop} {w : World} {k : Nat} {enc : α → List Value} {xs : List α} {a : Option Addr} {n c : Nat}
theorem RowsAt.takeS (h : RowsAt K w (.slice a n c) k enc xs) {m : Nat} (hm : m ≤ xs.length) : RowsAt K w (.slice a m c) k enc (xs.take m) := by
  obtain ⟨a', c', e, hc, h⟩ := h
  cases e
  refine ⟨a, c, by rw [List.length_take, Nat.min_eq_left hm], by rw [List.length_take]; omega, ?_⟩
  rcases h with h | ⟨b, off, o, e, ho, hb, h⟩
  · exact .inl (by rw [h, List.take_nil])
  · cases e
    refine .inr ⟨b, off, o, rfl, ho, hb, fun i hi j u hu => ?_⟩
    have hi' : i < xs.length := by rw [List.length_take] at hi; omega
    rw [List.getElem_take] at hu
    exact h i hi' j u hu
theorem RowsAt.dropS (h : RowsAt K w (.slice a n c) k enc xs) {m : Nat} (hm : m ≤ xs.length) : RowsAt K w (.slice (subS a c m k) (n - m) (c - m)) k enc (xs.drop m) := by
  obtain ⟨a', c', e, hc, h⟩ := h
  cases e
  refine ⟨_, c - m, by rw [List.length_drop], by rw [List.length_drop]; omega, ?_⟩
  rcases h with h | ⟨b, off, o, e, ho, hb, h⟩
  · exact .inl (by rw [h, List.drop_nil])
  · cases e
    by_cases hcm : c = m
    · exact .inl (List.eq_nil_of_length_eq_zero (by rw [List.length_drop]; omega))
    · refine .inr ⟨b, off + m * k, o, ?_, ho, hb, fun i hi j u hu => ?_⟩
      · unfold subS
        rw [if_neg hcm]
        simp only [Option.map_some, Option.some.injEq]
        unfold Addr.add
        split
        · rename_i q; rw [q]; rfl
        · rfl
      · have hi' : m + i < xs.length := by rw [List.length_drop] at hi; omega
        rw [List.getElem_drop] at hu
        have := h (m + i) hi' j u hu
        rw [Nat.add_mul] at this
        rw [show off + m * k + i * k + j = off + (m * k + i * k) + j from by omega]
        exact this
end
theorem rows_lt {α : Type} {enc : α → List Value} {k b : Nat} {w : World} {vx : Value} {y : α} (h : RowsAt (fun c _ => c = b) w vx k enc [y]) : b < w.heap.size := by
  obtain ⟨a, c, rfl, _⟩ := h.form
  obtain ⟨b', off, o, rfl, ho, rfl, _⟩ := h.spot (by simp)
  exact lt_of_some ho
set_option maxRecDepth 100000 in
set_option maxHeartbeats 40000000 in
theorem dgive_yes {n : Nat} {G : Nat → Prop} (w : World) (bt r : Nat) (L L' : Lk) (h : DRE n G w bt L) (hr : r < 4) (hn : giveS L r = some L') (hnw : n ≤ w.heap.size) :
    Calls Tryz.prog 107 #[.pointer (some ⟨bt, 0, none⟩), .int .i64 (r : Nat)] w fun e w' => e = .returned (.bool true) ∧ ∃ G', DRE n G' w' bt L' ∧ Kg bt G G' w w' := by
  obtain ⟨hv, wv, h⟩ := h
  obtain ⟨c0, c1, _, _, cc⟩ := h.cells w (Fr.refl _ _)
  obtain ⟨cc0, cc1, _, _⟩ := cc r hr
  have HR := h.hr r hr
  have WR := h.wr r hr
  have ho := h.ok.rg r
  have hok' := giveS_ok h.ok hr hn
  have n4 := ho.h4
  have n4' := ho.w4
  have hlast := topM_eq ▸ h.ok.last
  have hnow := h.ok.now
  have hrI : (r : Int) < 4 := by omega
  have hlr : r < L.rs.length := by rw [h.ok.four]; exact hr
  obtain ⟨ah, ch, eh, _⟩ := HR.form
  obtain ⟨aw, cw, ew, hcw⟩ := WR.form
  rw [eh] at cc0 HR
  rw [ew] at cc1 WR
  have HH := Lib.hid HR
  have HW := Lib.hid WR
  have DRH := Lib.hid h
  have HMC := Lib.hid ho.hc
  have WMC := Lib.hid ho.wc
  unfold giveS at hn
  have EV := Lib.hid eh
  have EWV := Lib.hid ew
  obtain ⟨hs, hhs⟩ : ∃ hs, (L.rg r).hs = hs := ⟨_, rfl⟩
  obtain ⟨ws, hws⟩ : ∃ ws, (L.rg r).ws = ws := ⟨_, rfl⟩
  obtain ⟨l, hl⟩ : ∃ l, L.last = l := ⟨_, rfl⟩
  obtain ⟨now, hnowE⟩ : ∃ l, L.now = l := ⟨_, rfl⟩
  have HHS := Lib.hid hhs
  have HWS := Lib.hid hws
  rw [hhs] at cc0 HR HH n4 hn HMC EV
  rw [hws] at cc1 WR HW n4' hn WMC EWV hcw
  rw [hl] at c1 hlast hn
  rw [hnowE] at c0 hn hnow
  have HRX := Lib.hid hr
  clear cc HR WR eh ew ho hhs hws
  cases ws with
  | nil => cases hn
  | cons x xs =>
    dsimp only at hn
    split at hn
    case isFalse => cases hn
    rename_i hcond
    obtain ⟨h4, hbm, hlm⟩ := hcond
    have EL' := Lib.hid (Option.some.inj hn)
    obtain ⟨k, hk⟩ : ∃ k, (x :: xs).length = k := ⟨_, rfl⟩
    have hk0 : ((k : Int) == 0) = false := by rw [List.length_cons] at hk; simp; omega
    have HKK := Lib.hid hk
    rw [hk] at cc1 HW n4' EWV hcw
    have hk1 : 1 ≤ k := by rw [List.length_cons] at hk; omega
    have KX : Hid (k - 1 = xs.length) := by show _ = _; rw [← hk, List.length_cons]; omega
    clear hk hn
    have h4I : ¬ (4 : Int) ≤ hs.length := by omega
    have hlI : ((l : Int) == 18446744073709551615) = false := by rw [topM_eq] at hlm; simp; omega
    have hwl : IntKind.u64.wrap ((l : Int) + 1) = (l : Int) + 1 := by rw [topM_eq] at hlm; rw [IntKind.wrap_u64]; omega
    have hxm := (WMC.out x (by simp)).2
    have hkI : (0 : Int) < (k : Int) := by omega
    have SP := HW.out
    rw [← HKK.out] at SP
    obtain ⟨b, off, o, rfl, _, _, hcl⟩ := SP.spot (by simp)
    have hcs := RowsAt.w2 (K := fun _ _ => True) hcl 0 (by simp)
    simp only [List.getElem_cons_zero, Nat.zero_mul, Nat.add_zero] at hcs
    obtain ⟨k0, k1⟩ := hcs
    clear hcl SP
    obtain ⟨W3, hW3⟩ : ∃ W, w.alloc (.cells #[.int .i64 0, .int .i64 0] 114 (0, 0)) = W := ⟨_, rfl⟩
    have FA : Hid (Fr (fun _ _ => True) w W3) := hW3 ▸ (Fr.refl _ _).alloc _
    have XA : Hid (W3.heap[w.heap.size]? = some (.cells #[.int .i64 0, .int .i64 0] 114 (0, 0))) := hW3 ▸ heap_alloc_new w _
    have q0 := cell_mk (i := 0) XA.out rfl
    have q1 := cell_mk (i := 1) XA.out rfl
    have z0 := frozen_mk (i := 0) XA.out
    have z1 := frozen_mk (i := 1) XA.out
    obtain ⟨v3, hWZ, TZ, FZ⟩ := set2 XA.out (.int .i64 (x.c : Nat)) (.int .i64 (x.m : Nat))
    have FV : Hid (Fr (fun _ _ => True) w v3) := Lib.hid (Fr.within ((FA.out.mono fun _ _ _ => trivial).trans (FZ.mono fun c _ h e => by have := h.2; omega)))
    have D3 := Lib.hid (DRH.out.tt FV.out)
    have T3 := Lib.hid TZ
    have NBT : Hid (w.heap.size ≠ bt) := by have := lt_of_some DRH.out.top; show _ ≠ _; omega
    clear FA XA TZ FZ h
    go_enter Tryz.func107, Tryz.ntmps107
    go_upto_region 4 with fail
    try rw [hWZ]
    clear hWZ hW3 q0 q1 z0 z1 k0 k1 c0 c1 cc0 cc1
    obtain ⟨bh, hbh⟩ : ∃ m, w.heap.size = m := ⟨_, rfl⟩
    rw [hbh] at T3 NBT ⊢
    have HBH := Lib.hid hbh
    clear hbh
    have e1 := cell_mk (i := 1) T3.out rfl
    have cc0 : v3.cell? ⟨bt, 2 + r, none⟩ = some (.slice ah hs.length ch) := EV.out ▸ ((D3.out.cells v3 (Fr.refl _ _)).2.2.2.2 r HRX.out).1
    have BC : Hid (∀ k, Calls Tryz.prog 121 #[.slice ah hs.length ch, .int .i64 (x.m : Nat)] (v3.drewN k) fun e w' => e = .returned (.bool true) ∧ w' = v3.drewN k) := Lib.hid fun k => (dbears_calls (v3.drewN k) ah ch hs x.m ((HH.out.tt FV.out).tt ((Fr.refl _ _).drewN k)) (by omega) hxm fun y hy => (HMC.out y hy).2.1).mono fun e w' ⟨h1, h2⟩ => ⟨by rw [h1, hbm], h2.symm⟩
    clear hxm
    go_quiet ((go_at_call 121; exact Calls.quiet_of_same (BC.out _)))
    clear e1 cc0 BC
    have FQ : Hid (∀ k, Fr (fun _ _ => True) v3 (v3.drewN k)) := Lib.hid fun k => (Fr.refl _ _).drewN k
    generalize hw4 : v3.drewN _ = w4
    have FV4 : Hid (Fr (fun _ _ => True) v3 w4) := hw4 ▸ FQ.out _
    clear hw4 FQ
    have F4 := Lib.hid (FV.out.trans FV4.out)
    have D4 := Lib.hid (D3.out.tt FV4.out)
    have T4 := Lib.hid (FV4.out.keep _ _ T3.out trivial)
    clear D3 FV T3 FV4
    have cc1 : w4.cell? ⟨bt, 6 + r, none⟩ = some (.slice (some ⟨b, off, none⟩) k cw) := EWV.out ▸ ((D4.out.cells w4 (Fr.refl _ _)).2.2.2.2 r HRX.out).2.1
    have zz1 := ((D4.out.cells w4 (Fr.refl _ _)).2.2.2.2 r HRX.out).2.2.2
    have hsl : ∀ W, (Instr.slice 61 (.slice (some ⟨b, off, none⟩) k cw) (some (.int .i64 1)) none none).run Tryz.prog W = .ok (.slice (subS (some ⟨b, off, none⟩) cw 1 2) (k - 1) (cw - 1)) W := fun W => run_sliceF 2 Tryz.underlying61 size_wa W (some ⟨b, off, none⟩) k cw 1 .i64 hk1
    obtain ⟨ax, hax⟩ : ∃ v, subS (some ⟨b, off, none⟩) cw 1 2 = v := ⟨_, rfl⟩
    obtain ⟨kx, hkx⟩ : ∃ v, k - 1 = v := ⟨_, rfl⟩
    obtain ⟨cx, hcx⟩ : ∃ v, cw - 1 = v := ⟨_, rfl⟩
    rw [hax, hkx, hcx] at hsl
    have VX : Hid (RowsAt (fun c _ => G c ∧ c ≠ bt) w (.slice ax kx cx) 2 encW xs) := by
      have q := HW.out.dropS (m := 1) (by simp)
      rw [hax, hkx, hcx] at q
      exact q
    clear hax hkx hcx
    go_upto_region 7 with fail
    go_region
    have FW : Hid (Fr (fun c _ => c ≠ bt) w4 (w4.setCell ⟨bt, 6 + r, none⟩ (.slice ax kx cx)).drew) := ((Fr.refl _ _).setCell (fun _ _ h => h rfl) _).drew
    have TW : Hid ((w4.setCell ⟨bt, 6 + r, none⟩ (.slice ax kx cx)).drew.heap[bt]? = some (tabC (.int .u64 (now : Nat)) (.int .u64 (l : Nat)) hv (updV wv r (.slice ax kx cx)))) := by
      have t := D4.out.top
      rw [hl, hnowE] at t
      exact tabC_setW (w := w4) t hr _
    generalize (w4.setCell ⟨bt, 6 + r, none⟩ (.slice ax kx cx)).drew = w6 at FW TW ⊢
    clear hsl cc1 zz1
    obtain ⟨t0, t1, _, u1, _⟩ := tabC_cells TW.out
    go_upto_region 9 with fail
    clear u1 t1 t0
    obtain ⟨w5, hw5⟩ : ∃ W, w6.setCell ⟨bt, 1, none⟩ (.int .u64 ((l : Int) + 1)) = W := ⟨_, rfl⟩
    rw [hw5]
    have FL : Hid (Fr (fun c _ => c ≠ bt) w6 w5) := hw5 ▸ (Fr.refl _ _).setCell (fun _ _ h => h rfl) _
    have T5 : Hid (w5.heap[bt]? = some (tabC (.int .u64 (now : Nat)) (.int .u64 ((l : Int) + 1)) hv (updV wv r (.slice ax kx cx)))) := hw5 ▸ tabC_setL TW.out _
    have FB : Hid (Fr (fun c _ => c ≠ bt) w w5) := ((F4.out.mono fun _ _ _ => trivial).trans FW.out).trans FL.out
    have B5 : Hid (w5.heap[bh]? = some (.cells #[.int .i64 (x.c : Nat), .int .i64 (x.m : Nat)] 114 (0, 0))) := FL.out.keep _ _ (FW.out.keep _ _ T4.out NBT.out) NBT.out
    have SS : Hid (∀ W, Fr (fun _ _ => True) w5 W → W.cell? ⟨bh, 0, none⟩ = some (.int .i64 (x.c : Nat)) ∧ W.cell? ⟨bh, 1, none⟩ = some (.int .i64 (x.m : Nat)) ∧ W.cell? ⟨bt, 1, none⟩ = some (.int .u64 ((l : Int) + 1)) ∧ W.cell? ⟨bt, 2 + r, none⟩ = some (.slice ah hs.length ch)) := fun W f => by
      have t := f.keep _ _ B5.out trivial
      obtain ⟨_, q1, _, _, qq⟩ := tabC_cells (f.keep _ _ T5.out trivial)
      exact ⟨cell_mk t rfl, cell_mk t rfl, q1, by rw [← EV.out]; exact (qq r HRX.out).1⟩
    have SZ : Hid (∀ W, Fr (fun _ _ => True) w5 W → W.frozen? ⟨bt, 2 + r, none⟩ = false) := fun W f => ((tabC_cells (f.keep _ _ T5.out trivial)).2.2.2.2 r HRX.out).2.2.1
    have RH : Hid (∀ W, Fr (fun _ _ => True) w5 W → RowsAt (fun c _ => G c ∧ c ≠ bt) W (.slice ah hs.length ch) 4 encH hs) := fun W f => (HH.out.fr FB.out (fun c o _ hc => hc.2)).tt f
    obtain ⟨u, hu⟩ : ∃ u, untilM now = u := ⟨_, rfl⟩
    have UC : Hid (∀ W, Fr (fun _ _ => True) w5 W → Calls Tryz.prog 80 #[.pointer (some ⟨bt, 0, none⟩)] W fun e w' => e = .returned (.int .u64 (u : Nat)) ∧ W = w') := fun W f => by
      rw [← hu]
      exact duntil_calls W bt now (tabC_cells (f.keep _ _ T5.out trivial)).1 hnow
    rw [hu] at EL'
    have F5 : Hid (Fr (fun _ _ => True) w5 w5.drew) := (Fr.refl _ _).drew
    have hsB : hs.length ≤ 1000000 := by omega
    have hsB1 : hs.length + 1 ≤ 1000000 := by omega
    have FIN : Hid (∀ g c W, W.ownsRow w5.heap.size 112 4 (.slice g (hs.length + 1) c) (hs.length + 1) ((hs ++ [(⟨x.c, x.m, l + 1, u⟩ : Ho)]).flatMap encH) → Fr (fun _ _ => True) w5 W → ∃ G', DRE n G' (W.setCell ⟨bt, 2 + r, none⟩ (.slice g (hs.length + 1) c)) bt L' ∧ Kg bt G G' w (W.setCell ⟨bt, 2 + r, none⟩ (.slice g (hs.length + 1) c))) := fun g c W o f => by
      have fw : Fr (fun c _ => c ≠ bt) w (W.setCell ⟨bt, 2 + r, none⟩ (.slice g (hs.length + 1) c)) := (FB.out.trans (f.mono fun _ _ _ => trivial)).setCell (fun _ _ h => h rfl) _
      have ht := tabC_setH (f.keep _ _ T5.out trivial) HRX.out (.slice g (hs.length + 1) c)
      have hob : (Value.slice g (hs.length + 1) c).ownBlock ≠ some bt := fun e => by
        have h1 := own_new o _ e
        have h2 := lt_of_some T5.out
        omega
      have ow := own_basew (ownsRow_setCell_ne (p := ⟨bt, 2 + r, none⟩) o hob (.slice g (hs.length + 1) c)) fun k e => Nat.le_trans FB.out.size (own_new o k e)
      refine DR.new DRH.out hnw (fw.mono fun c _ h => h.2) (L' := L') (by rw [← EL'.out]; exact ht) (fun i hi => ?_) (fun i hi => ?_) hok'
      · by_cases hir : i = r
        · subst hir
          refine .inr ?_
          rw [← EL'.out, rg_set hlr, if_pos rfl, updV_same, List.length_append]
          exact ow
        · refine .inl ?_
          rw [← EL'.out, rg_set hlr, if_neg hir, updV_ne hir]
          exact DRH.out.hr i hi
      · refine .inl ?_
        by_cases hir : i = r
        · subst hir
          rw [← EL'.out, rg_set hlr, if_pos rfl, updV_same]
          exact VX.out
        · rw [← EL'.out, rg_set hlr, if_neg hir, updV_ne hir]
          exact DRH.out.wr i hi
    clear hw5 hok' hlr hcw DRH EV HMC n4 HH hlast hl hnow hnowE HHS WMC HWS h4 hbm hlm hu EL' n4' hk0 HKK hk1 KX hlI hwl hkI EWV HW HBH F4 D4 T4 VX FW TW FL FB B5 NBT h4I hnw
    refine wp_region_heldK (S1 := fun _ => True) (S0 := fun W => W.cell? ⟨bh, 0, none⟩ = some (.int .i64 (x.c : Nat)) ∧ W.cell? ⟨bh, 1, none⟩ = some (.int .i64 (x.m : Nat)) ∧ W.cell? ⟨bt, 1, none⟩ = some (.int .u64 ((l : Int) + 1)) ∧ W.cell? ⟨bt, 2 + r, none⟩ = some (.slice ah hs.length ch)) (k := 26) (by kernel_rfl) ?_
    refine wpAnyK_take (i := 0) (v := ?v1) rfl (by rfl) (by kernel_rfl) (by kernel_rfl) (by kernel_rfl) (by kernel_rfl) (fun _ _ _ h => h) (Or.inl ⟨by rfl, ?hy1⟩) trivial (SS.out _ F5.out) ?rest1
    case hy1 => (intro w hSw; (try dsimp only at hSw); (try simp only [List.getElem_toArray, List.getElem_cons_zero, List.getElem_cons_succ]); go_simp; try with_reducible rfl)
    try simp only [List.getElem_toArray, List.getElem_cons_zero, List.getElem_cons_succ, Act.put, List.setIfInBounds_toArray, List.set_cons_zero, List.set_cons_succ]
    refine wpAnyK_take (i := 1) (v := ?v2) rfl (by rfl) (by kernel_rfl) (by kernel_rfl) (by kernel_rfl) (by kernel_rfl) (fun _ _ _ h => h) (Or.inl ⟨by rfl, ?hy2⟩) trivial (SS.out _ F5.out) ?rest2
    case hy2 => (intro w hSw; (try dsimp only at hSw); (try simp only [List.getElem_toArray, List.getElem_cons_zero, List.getElem_cons_succ]); go_simp; try with_reducible rfl)
    try simp only [List.getElem_toArray, List.getElem_cons_zero, List.getElem_cons_succ, Act.put, List.setIfInBounds_toArray, List.set_cons_zero, List.set_cons_succ]
    refine wpAnyK_take (i := 3) (v := ?v3) rfl (by rfl) (by kernel_rfl) (by kernel_rfl) (by kernel_rfl) (by kernel_rfl) (fun _ _ _ h => h) (Or.inl ⟨by rfl, ?hy3⟩) trivial (SS.out _ F5.out) ?rest3
    case hy3 => (intro w hSw; (try dsimp only at hSw); (try simp only [List.getElem_toArray, List.getElem_cons_zero, List.getElem_cons_succ]); go_simp; try with_reducible rfl)
    try simp only [List.getElem_toArray, List.getElem_cons_zero, List.getElem_cons_succ, Act.put, List.setIfInBounds_toArray, List.set_cons_zero, List.set_cons_succ]
    refine wpAnyK_take (i := 4) (v := ?v4) rfl (by rfl) (by kernel_rfl) (by kernel_rfl) (by kernel_rfl) (by kernel_rfl) (fun _ _ _ h => h) (Or.inl ⟨by rfl, ?hy4⟩) trivial (SS.out _ F5.out) ?rest4
    case hy4 => (intro w hSw; (try dsimp only at hSw); (try simp only [List.getElem_toArray, List.getElem_cons_zero, List.getElem_cons_succ]); go_simp; try with_reducible rfl)
    try simp only [List.getElem_toArray, List.getElem_cons_zero, List.getElem_cons_succ, Act.put, List.setIfInBounds_toArray, List.set_cons_zero, List.set_cons_succ]
    refine wpAnyK_take (i := 5) (v := ?v5) rfl (by rfl) (by kernel_rfl) (by kernel_rfl) (by kernel_rfl) (by kernel_rfl) (fun _ _ _ h => h) (Or.inl ⟨by rfl, ?hy5⟩) trivial (SS.out _ F5.out) ?rest5
    case hy5 => (intro w hSw; (try dsimp only at hSw); (try simp only [List.getElem_toArray, List.getElem_cons_zero, List.getElem_cons_succ]); go_simp; try with_reducible rfl)
    try simp only [List.getElem_toArray, List.getElem_cons_zero, List.getElem_cons_succ, Act.put, List.setIfInBounds_toArray, List.set_cons_zero, List.set_cons_succ]
    refine wpAnyK_take (i := 6) (v := ?v6) rfl (by rfl) (by kernel_rfl) (by kernel_rfl) (by kernel_rfl) (by kernel_rfl) (fun _ _ _ h => h) (Or.inl ⟨by rfl, ?hy6⟩) trivial (SS.out _ F5.out) ?rest6
    case hy6 => (intro w hSw; (try dsimp only at hSw); (try simp only [List.getElem_toArray, List.getElem_cons_zero, List.getElem_cons_succ]); go_simp; try with_reducible rfl)
    try simp only [List.getElem_toArray, List.getElem_cons_zero, List.getElem_cons_succ, Act.put, List.setIfInBounds_toArray, List.set_cons_zero, List.set_cons_succ]
    refine wpAnyK_take (i := 7) (v := ?v7) rfl (by rfl) (by kernel_rfl) (by kernel_rfl) (by kernel_rfl) (by kernel_rfl) (fun _ _ _ h => h) (Or.inl ⟨by rfl, ?hy7⟩) trivial (SS.out _ F5.out) ?rest7
    case hy7 => (intro w hSw; (try dsimp only at hSw); (try simp only [List.getElem_toArray, List.getElem_cons_zero, List.getElem_cons_succ]); go_simp; try with_reducible rfl)
    try simp only [List.getElem_toArray, List.getElem_cons_zero, List.getElem_cons_succ, Act.put, List.setIfInBounds_toArray, List.set_cons_zero, List.set_cons_succ]
    refine wpAnyK_take0 (i := 8) (v := ?v8) [9, 22, 26] rfl (by rfl) (by kernel_rfl) (by rfl) (by kernel_rfl) (by kernel_rfl) (by kernel_rfl) (by kernel_rfl) (fun _ _ _ h => h) (Or.inl ⟨by rfl, ?hy8⟩) trivial (SS.out _ F5.out) ?rest8
    case hy8 => (intro w hSw; (try dsimp only at hSw); (try simp only [List.getElem_toArray, List.getElem_cons_zero, List.getElem_cons_succ]); go_simp; try with_reducible rfl)
    try simp only [List.getElem_toArray, List.getElem_cons_zero, List.getElem_cons_succ, Act.put, List.setIfInBounds_toArray, List.set_cons_zero, List.set_cons_succ]
    refine wpAnyK_take (i := 10) (v := ?v9) rfl (by rfl) (by kernel_rfl) (by kernel_rfl) (by kernel_rfl) (by kernel_rfl) (fun _ _ _ h => h) (Or.inl ⟨by rfl, ?hy9⟩) trivial (SS.out _ F5.out) ?rest9
    case hy9 => (intro w hSw; (try dsimp only at hSw); (try simp only [List.getElem_toArray, List.getElem_cons_zero, List.getElem_cons_succ]); go_simp; try with_reducible rfl)
    try simp only [List.getElem_toArray, List.getElem_cons_zero, List.getElem_cons_succ, Act.put, List.setIfInBounds_toArray, List.set_cons_zero, List.set_cons_succ]
    refine wpAnyK_take0 (i := 11) (v := ?v10) [20, 21, 22, 26] rfl (by rfl) (by kernel_rfl) (by rfl) (by kernel_rfl) (by kernel_rfl) (by kernel_rfl) (by kernel_rfl) (fun _ _ _ h => h) (Or.inl ⟨by rfl, ?hy10⟩) trivial (SS.out _ F5.out) ?rest10
    case hy10 => (intro w hSw; (try dsimp only at hSw); (try simp only [List.getElem_toArray, List.getElem_cons_zero, List.getElem_cons_succ]); go_simp; try with_reducible rfl)
    try simp only [List.getElem_toArray, List.getElem_cons_zero, List.getElem_cons_succ, Act.put, List.setIfInBounds_toArray, List.set_cons_zero, List.set_cons_succ]
    refine wpAnyK_take (i := 12) (v := ?v11) rfl (by rfl) (by kernel_rfl) (by kernel_rfl) (by kernel_rfl) (by kernel_rfl) (fun _ _ _ h => h) (Or.inl ⟨by rfl, ?hy11⟩) trivial (SS.out _ F5.out) ?rest11
    case hy11 => (intro w hSw; (try dsimp only at hSw); (try simp only [List.getElem_toArray, List.getElem_cons_zero, List.getElem_cons_succ]); go_simp; try with_reducible rfl)
    try simp only [List.getElem_toArray, List.getElem_cons_zero, List.getElem_cons_succ, Act.put, List.setIfInBounds_toArray, List.set_cons_zero, List.set_cons_succ]
    refine wpAnyK_take0 (i := 13) (v := ?v12) [20, 21, 22, 26] rfl (by rfl) (by kernel_rfl) (by rfl) (by kernel_rfl) (by kernel_rfl) (by kernel_rfl) (by kernel_rfl) (fun _ _ _ h => h) (Or.inl ⟨by rfl, ?hy12⟩) trivial (SS.out _ F5.out) ?rest12
    case hy12 => (intro w hSw; (try dsimp only at hSw); (try simp only [List.getElem_toArray, List.getElem_cons_zero, List.getElem_cons_succ]); go_simp; try with_reducible rfl)
    try simp only [List.getElem_toArray, List.getElem_cons_zero, List.getElem_cons_succ, Act.put, List.setIfInBounds_toArray, List.set_cons_zero, List.set_cons_succ]
    refine wpAnyK_take (i := 14) (v := ?v13) rfl (by rfl) (by kernel_rfl) (by kernel_rfl) (by kernel_rfl) (by kernel_rfl) (fun _ _ _ h => h) (Or.inl ⟨by rfl, ?hy13⟩) trivial (SS.out _ F5.out) ?rest13
    case hy13 => (intro w hSw; (try dsimp only at hSw); (try simp only [List.getElem_toArray, List.getElem_cons_zero, List.getElem_cons_succ]); go_simp; try with_reducible rfl)
    try simp only [List.getElem_toArray, List.getElem_cons_zero, List.getElem_cons_succ, Act.put, List.setIfInBounds_toArray, List.set_cons_zero, List.set_cons_succ]
    refine wpAnyK_take (i := 15) (v := ?v14) rfl (by rfl) (by kernel_rfl) (by kernel_rfl) (by kernel_rfl) (by kernel_rfl) (fun _ _ _ h => h) (Or.inl ⟨by rfl, ?hy14⟩) trivial (SS.out _ F5.out) ?rest14
    case hy14 => (intro w hSw; (try dsimp only at hSw); (try simp only [List.getElem_toArray, List.getElem_cons_zero, List.getElem_cons_succ]); go_simp; try with_reducible rfl)
    try simp only [List.getElem_toArray, List.getElem_cons_zero, List.getElem_cons_succ, Act.put, List.setIfInBounds_toArray, List.set_cons_zero, List.set_cons_succ]
    refine wpAnyK_take (i := 16) (v := ?v15) rfl (by rfl) (by kernel_rfl) (by kernel_rfl) (by kernel_rfl) (by kernel_rfl) (fun _ _ _ h => h) (Or.inl ⟨by rfl, ?hy15⟩) trivial (SS.out _ F5.out) ?rest15
    case hy15 => (intro w hSw; (try dsimp only at hSw); (try simp only [List.getElem_toArray, List.getElem_cons_zero, List.getElem_cons_succ]); go_simp; try with_reducible rfl)
    try simp only [List.getElem_toArray, List.getElem_cons_zero, List.getElem_cons_succ, Act.put, List.setIfInBounds_toArray, List.set_cons_zero, List.set_cons_succ]
    refine wpAnyK_take0 (i := 17) (v := ?v16) [20, 21, 22, 26] rfl (by rfl) (by kernel_rfl) (by rfl) (by kernel_rfl) (by kernel_rfl) (by kernel_rfl) (by kernel_rfl) (fun _ _ _ h => h) (Or.inl ⟨by rfl, ?hy16⟩) trivial (SS.out _ F5.out) ?rest16
    case hy16 => (intro w hSw; (try dsimp only at hSw); (try simp only [List.getElem_toArray, List.getElem_cons_zero, List.getElem_cons_succ]); go_simp; try with_reducible rfl)
    try simp only [List.getElem_toArray, List.getElem_cons_zero, List.getElem_cons_succ, Act.put, List.setIfInBounds_toArray, List.set_cons_zero, List.set_cons_succ]
    refine wpAnyK_take (i := 18) (v := ?v17) rfl (by rfl) (by kernel_rfl) (by kernel_rfl) (by kernel_rfl) (by kernel_rfl) (fun _ _ _ h => h) (Or.inl ⟨by rfl, ?hy17⟩) trivial (SS.out _ F5.out) ?rest17
    case hy17 => (intro w hSw; (try dsimp only at hSw); (try simp only [List.getElem_toArray, List.getElem_cons_zero, List.getElem_cons_succ]); go_simp; try with_reducible rfl)
    try simp only [List.getElem_toArray, List.getElem_cons_zero, List.getElem_cons_succ, Act.put, List.setIfInBounds_toArray, List.set_cons_zero, List.set_cons_succ]
    refine wpAnyK_take (i := 23) (v := ?v18) rfl (by rfl) (by kernel_rfl) (by kernel_rfl) (by kernel_rfl) (by kernel_rfl) (fun _ _ _ h => h) (Or.inl ⟨by rfl, ?hy18⟩) trivial (SS.out _ F5.out) ?rest18
    case hy18 => (intro w hSw; (try dsimp only at hSw); (try simp only [List.getElem_toArray, List.getElem_cons_zero, List.getElem_cons_succ]); go_simp; try with_reducible rfl)
    try simp only [List.getElem_toArray, List.getElem_cons_zero, List.getElem_cons_succ, Act.put, List.setIfInBounds_toArray, List.set_cons_zero, List.set_cons_succ]
    refine wpAnyK_take (i := 24) (v := ?v19) rfl (by rfl) (by kernel_rfl) (by kernel_rfl) (by kernel_rfl) (by kernel_rfl) (fun _ _ _ h => h) (Or.inl ⟨by rfl, ?hy19⟩) trivial (SS.out _ F5.out) ?rest19
    case hy19 => (intro w hSw; (try dsimp only at hSw); (try simp only [List.getElem_toArray, List.getElem_cons_zero, List.getElem_cons_succ]); go_simp; try with_reducible rfl)
    try simp only [List.getElem_toArray, List.getElem_cons_zero, List.getElem_cons_succ, Act.put, List.setIfInBounds_toArray, List.set_cons_zero, List.set_cons_succ]
    refine wpAnyK_ready (rs := [2]) (by kernel_rfl) (by simp) ?_
    refine AllReadyK.cons rfl (fun K hK => ?_) (by kernel_rfl) ?_
    · obtain ⟨W1, hW1⟩ : ∃ W, w5.drew.alloc (.cells #[] 112 (0, 0)) = W := ⟨_, rfl⟩
      have F1 : Hid (Fr (fun _ _ => True) w5 W1) := hW1 ▸ F5.out.alloc _
      obtain ⟨g1, hg1⟩ : ∃ g, w5.drew.heap.size = g := ⟨_, rfl⟩
      have E1 : Hid (W1.ownsRow w5.heap.size 112 4 (.slice (some ⟨g1, 0, none⟩) 0 0) 0 (([] : List Ho).flatMap encH)) := hW1 ▸ hg1 ▸ World.ownsRow_lit w5.drew #[] 0 F5.out.size (by decide) rfl
      (try simp only [List.getElem_toArray, List.getElem_cons_zero, List.getElem_cons_succ])
      go_simp
      try rw [hW1]
      try rw [hg1]
      (try simp only [Act.put, List.setIfInBounds_toArray, List.set_cons_zero, List.set_cons_succ])
      refine hK.out _ _ trivial (fun _ => SS.out _ F1.out) ?_
      clear hK K
      clear hW1 hg1
      refine wpAnyK_ready (rs := [9]) (by kernel_rfl) (by simp) ?_
      refine AllReadyK.cons rfl (fun K hK => ?_) (by kernel_rfl) ?_
      · refine step_append_hos W1 rfl _ _ rfl w5.heap.size F1.out.size _ 0 [] rfl E1 _ hs rfl (RH.out _ F1.out) hs (Lib.hid rfl) hs.length (Lib.hid (Nat.zero_add _)) hsB ?_
        intro g2 c2 W2 E2 G2 O2
        have F2 : Hid (Fr (fun _ _ => True) w5 W2) := F1.out.grown_new G2.out (own_new E1.out)
        (try simp only [Act.put, List.setIfInBounds_toArray, List.set_cons_zero, List.set_cons_succ])
        refine hK.out _ _ trivial (fun _ => SS.out _ F2.out) ?_
        clear hK K
        clear G2 O2
        refine wpAnyK_ready (rs := [19]) (by kernel_rfl) (by simp) ?_
        refine AllReadyK.cons rfl (fun K hK => ?_) (by kernel_rfl) ?_
        · (try simp only [List.getElem_toArray, List.getElem_cons_zero, List.getElem_cons_succ])
          go_simp
          (with_reducible refine (UC.out _ F2.out).mono ?_)
          rintro e w9 ⟨rfl, rfl⟩
          (try simp only [Act.put, List.setIfInBounds_toArray, List.set_cons_zero, List.set_cons_succ])
          refine hK.out _ _ trivial (fun _ => SS.out _ F2.out) ?_
          clear hK K
          refine wpAnyK_take (i := 20) (v := ?v20) rfl (by rfl) (by kernel_rfl) (by kernel_rfl) (by kernel_rfl) (by kernel_rfl) (fun _ _ _ h => h) (Or.inl ⟨by rfl, ?hy20⟩) trivial (SS.out _ F2.out) ?rest20
          case hy20 => (intro w hSw; (try dsimp only at hSw); (try simp only [List.getElem_toArray, List.getElem_cons_zero, List.getElem_cons_succ]); go_simp; try with_reducible rfl)
          try simp only [List.getElem_toArray, List.getElem_cons_zero, List.getElem_cons_succ, Act.put, List.setIfInBounds_toArray, List.set_cons_zero, List.set_cons_succ]
          refine wpAnyK_ready (rs := [21]) (by kernel_rfl) (by simp) ?_
          refine AllReadyK.cons rfl (fun K hK => ?_) (by kernel_rfl) ?_
          · obtain ⟨W4, hW4⟩ : ∃ W, W2.alloc (.cells #[.int .i64 (x.c : Nat), .int .i64 (x.m : Nat), .int .u64 ((l : Int) + 1), .int .u64 (u : Nat)] 112 (0, 0)) = W := ⟨_, rfl⟩
            have A4 : Hid (Fr (fun _ _ => True) W2 W4) := hW4 ▸ (Fr.refl _ _).alloc _
            have F4 : Hid (Fr (fun _ _ => True) w5 W4) := Lib.hid (F2.out.trans A4.out)
            obtain ⟨g4, hg4⟩ : ∃ g, W2.heap.size = g := ⟨_, rfl⟩
            have T4 : Hid (RowsAt (fun c _ => c = g4) W4 (.slice (some ⟨g4, 0, none⟩) 1 1) 4 encH [⟨x.c, x.m, l + 1, u⟩]) := hW4 ▸ hg4 ▸ rows_oneH (heap_alloc_new W2 _)
            have L4 : Hid (g4 < W4.heap.size) := rows_lt T4.out
            have N4 : Hid ((Value.slice g2 hs.length c2).ownBlock ≠ some g4) := own_ltv E2.out (Nat.le_of_eq hg4)
            have E4 := Lib.hid (own_tt E2.out A4.out)
            (try simp only [List.getElem_toArray, List.getElem_cons_zero, List.getElem_cons_succ])
            go_simp
            try rw [hW4]
            try rw [hg4]
            (try simp only [Act.put, List.setIfInBounds_toArray, List.set_cons_zero, List.set_cons_succ])
            refine hK.out _ _ trivial (fun _ => SS.out _ F4.out) ?_
            clear hK K
            clear hW4 hg4 A4
            refine wpAnyK_ready (rs := [22]) (by kernel_rfl) (by simp) ?_
            refine AllReadyK.cons rfl (fun K hK => ?_) (by kernel_rfl) ?_
            · refine step_append_hos W4 rfl _ _ rfl w5.heap.size F4.out.size _ hs.length hs rfl E4 _ [⟨x.c, x.m, l + 1, u⟩] rfl T4 (hs ++ [⟨x.c, x.m, l + 1, u⟩]) (Lib.hid rfl) (hs.length + 1) (Lib.hid rfl) hsB1 ?_
              intro g9 c9 W9 O9 G9 _
              have F9 : Hid (Fr (fun _ _ => True) w5 W9) := F4.out.grown_new G9.out (own_new E4.out)
              (try simp only [Act.put, List.setIfInBounds_toArray, List.set_cons_zero, List.set_cons_succ])
              refine hK.out _ _ trivial (fun _ => SS.out _ F9.out) ?_
              clear hK K
              refine wpAnyK_take (i := 25) (v := ?v21) rfl (by rfl) (by kernel_rfl) (by kernel_rfl) (by kernel_rfl) (by kernel_rfl) (fun _ _ _ h => h) (Or.inl ⟨by rfl, ?hy21⟩) trivial (SS.out _ F9.out) ?rest21
              case hy21 => (intro w hSw; (try dsimp only at hSw); (try simp only [List.getElem_toArray, List.getElem_cons_zero, List.getElem_cons_succ]); go_simp; try with_reducible rfl)
              try simp only [List.getElem_toArray, List.getElem_cons_zero, List.getElem_cons_succ, Act.put, List.setIfInBounds_toArray, List.set_cons_zero, List.set_cons_succ]
              refine wpAnyK_ready (rs := [26]) (by kernel_rfl) (by simp) ?_
              refine AllReadyK.cons rfl (fun K hK => ?_) (by kernel_rfl) ?_
              · have z9 := (SZ.out _ F9.out)
                have k9 := (SS.out _ F9.out).2.2.2
                (try simp only [List.getElem_toArray, List.getElem_cons_zero, List.getElem_cons_succ])
                go_simp
                refine hK.out _ _ trivial (fun h => absurd h (by decide)) ?_
                clear hK K
                refine wpAnyK_done (by kernel_rfl) ?_ _
                go_wp2
                go_ret
                exact ⟨rfl, FIN.out g9 c9 W9 O9.out F9.out⟩
              exact AllReadyK.nil
            exact AllReadyK.nil
          exact AllReadyK.nil
        exact AllReadyK.nil
      exact AllReadyK.nil
    exact AllReadyK.nil
end Go.Proofs.YtlolfcnfcgegdaaGreat
/- The document's locks: a list is put; all. -/
namespace Go.Proofs.YtlolfcnfcgegdaaGreat
open Go.RowKit
set_option linter.unusedVariables false
set_option linter.unusedSimpArgs false

section
variable {n r : Nat} {G : Nat → Prop} {w W : World} {bt : Nat} {hv wv : Nat → Value} {L : Lk} {v : Value}
/-- A new list of holds is stored. -/
theorem DR.putH {xs : List Ho} (h : DR n G w bt hv wv L) (hn : n ≤ w.heap.size) (f : Fr (fun _ _ => True) w W) (o : W.ownsRow w.heap.size 112 4 v xs.length (xs.flatMap encH)) (hr : r < 4) (hok : Rgn.ok ⟨xs, (L.rg r).ws⟩) :
    ∃ G', DRE n G' (W.setCell ⟨bt, 2 + r, none⟩ v) bt (L.put r ⟨xs, (L.rg r).ws⟩) ∧ Kg bt G G' w (W.setCell ⟨bt, 2 + r, none⟩ v) := by
  have hlr : r < L.rs.length := by rw [h.ok.four]; exact hr
  have fw : Fr (fun c _ => c ≠ bt) w (W.setCell ⟨bt, 2 + r, none⟩ v) := (f.mono fun _ _ _ => trivial).setCell (fun _ _ h => h rfl) _
  have t := f.keep _ _ h.top trivial
  have ht := tabC_setH (w := W) t hr v
  have hob : v.ownBlock ≠ some bt := fun e => by
    have h1 := own_new o _ e
    have h2 := lt_of_some h.top
    omega
  have ow := ownsRow_setCell_ne (p := ⟨bt, 2 + r, none⟩) o hob v
  refine DR.new h hn (fw.mono fun c _ h => h.2) (L' := L.put r ⟨xs, (L.rg r).ws⟩) ht (fun i hi => ?_) (fun i hi => ?_) (h.ok.put hok h.ok.now h.ok.last)
  · by_cases hir : i = r
    · subst hir
      refine .inr ?_
      rw [put_rg hlr, if_pos rfl, updV_same]
      exact ow
    · refine .inl ?_
      rw [put_rg hlr, if_neg hir, updV_ne hir]
      exact h.hr i hi
  · refine .inl ?_
    by_cases hir : i = r
    · subst hir
      rw [put_rg hlr, if_pos rfl]
      exact h.wr i hi
    · rw [put_rg hlr, if_neg hir]
      exact h.wr i hi
/-- A new list of wants is stored. -/
theorem DR.putW {xs : List Wa} (h : DR n G w bt hv wv L) (hn : n ≤ w.heap.size) (f : Fr (fun _ _ => True) w W) (o : W.ownsRow w.heap.size 114 2 v xs.length (xs.flatMap encW)) (hr : r < 4) (hok : Rgn.ok ⟨(L.rg r).hs, xs⟩) :
    ∃ G', DRE n G' (W.setCell ⟨bt, 6 + r, none⟩ v) bt (L.put r ⟨(L.rg r).hs, xs⟩) ∧ Kg bt G G' w (W.setCell ⟨bt, 6 + r, none⟩ v) := by
  have hlr : r < L.rs.length := by rw [h.ok.four]; exact hr
  have fw : Fr (fun c _ => c ≠ bt) w (W.setCell ⟨bt, 6 + r, none⟩ v) := (f.mono fun _ _ _ => trivial).setCell (fun _ _ h => h rfl) _
  have t := f.keep _ _ h.top trivial
  have ht := tabC_setW (w := W) t hr v
  have hob : v.ownBlock ≠ some bt := fun e => by
    have h1 := own_new o _ e
    have h2 := lt_of_some h.top
    omega
  have ow := ownsRow_setCell_ne (p := ⟨bt, 6 + r, none⟩) o hob v
  refine DR.new h hn (fw.mono fun c _ h => h.2) (L' := L.put r ⟨(L.rg r).hs, xs⟩) ht (fun i hi => ?_) (fun i hi => ?_) (h.ok.put hok h.ok.now h.ok.last)
  · refine .inl ?_
    by_cases hir : i = r
    · subst hir
      rw [put_rg hlr, if_pos rfl]
      exact h.hr i hi
    · rw [put_rg hlr, if_neg hir]
      exact h.hr i hi
  · by_cases hir : i = r
    · subst hir
      refine .inr ?_
      rw [put_rg hlr, if_pos rfl, updV_same]
      exact ow
    · refine .inl ?_
      rw [put_rg hlr, if_neg hir, updV_ne hir]
      exact h.wr i hi
end
theorem DRE.four {n : Nat} {G : Nat → Prop} {w : World} {bt : Nat} {L : Lk} (h : DRE n G w bt L) : L.rs.length = 4 := by
  obtain ⟨hv, wv, h⟩ := h
  exact h.ok.four
theorem DRE.okk {n : Nat} {G : Nat → Prop} {w : World} {bt : Nat} {L : Lk} (h : DRE n G w bt L) : L.ok := by
  obtain ⟨hv, wv, h⟩ := h
  exact h.ok
def wlen (w : World) (bt r : Nat) : Nat := match w.cell? ⟨bt, 6 + r, none⟩ with
  | some (.slice _ n _) => n
  | _ => 0
theorem DRE.wlen {n : Nat} {G : Nat → Prop} {w : World} {bt r : Nat} {L : Lk} (h : DRE n G w bt L) (hr : r < 4) : wlen w bt r = (L.rg r).ws.length := by
  obtain ⟨hv, wv, h⟩ := h
  have c := ((h.cells w (Fr.refl _ _)).2.2.2.2 r hr).2.1
  obtain ⟨a, cp, e, _⟩ := (h.wr r hr).form
  unfold Go.Proofs.YtlolfcnfcgegdaaGreat.wlen
  rw [c, e]
set_option maxRecDepth 100000 in
/-- all. -/
theorem dall_calls {n : Nat} {G : Nat → Prop} (w : World) (bt r : Nat) (L : Lk) (h : DRE n G w bt L) (hr : r < 4) (hnw : n ≤ w.heap.size) :
    Calls Tryz.prog 77 #[.pointer (some ⟨bt, 0, none⟩), .int .i64 (r : Nat)] w fun e w' => e = .returned (.tuple #[]) ∧ ∃ G', DRE n G' w' bt (L.give r) ∧ Kg bt G G' w w' := by
  have HR := Lib.hid hr
  have HN := Lib.hid hnw
  have HD := Lib.hid h
  obtain ⟨GG, hGG⟩ : ∃ x, L.give r = x := ⟨_, rfl⟩
  have HG0 := Lib.hid hGG
  rw [hGG]
  clear h hr hnw hGG
  go_enter Tryz.func77, Tryz.ntmps77
  go_wp2
  go_loopw [4] (fun _ wr => ∃ (M : Lk) (Q : Nat → Prop), Hid (M.give r = GG) ∧ Hid (DRE n Q wr bt M) ∧ Hid (Kg bt G Q w wr)) (fun _ wr => wlen wr bt r)
  case atStart => exact ⟨L, G, HG0.out, HD.out, Kg.refl _ _⟩
  case round =>
    obtain ⟨M, Q, HG, HT, HK⟩ := hrel
    have HZ : Hid (n ≤ wr.heap.size) := Lib.hid (Nat.le_trans HN.out HK.out.fr.size)
    have HLR : Hid (r < M.rs.length) := by show _ < _; rw [HT.out.four]; exact HR.out
    cases hs : giveS M r with
    | none =>
      have GC := Lib.hid (dgive_no wr bt r M HT.out HR.out hs)
      have EE : Hid (GG = M) := by show _ = _; rw [← HG.out, giveS_none HLR.out hs]
      go_wp2_with fail
      (with_reducible refine GC.out.mono ?_)
      rintro e w1 ⟨rfl, f1⟩
      have F1 := Lib.hid f1
      clear f1 GC
      go_wp2
      rw [EE.out]
      exact bodyPost_ret (results_none rfl _ _ _) rfl ⟨rfl, Q, HT.out.tt F1.out, HK.out.trans (Kg.same _ F1.out)⟩
    | some M' =>
      have GC := Lib.hid (dgive_yes wr bt r M M' HT.out HR.out hs HZ.out)
      obtain ⟨e1, e2⟩ := giveS_some HLR.out hs
      have EE : Hid (M'.give r = GG) := by show _ = _; rw [← HG.out, e1]
      have EW := Lib.hid e2
      clear e1 e2
      go_wp2_with fail
      (with_reducible refine GC.out.mono ?_)
      rintro e w1 ⟨rfl, Q1, d1, k1⟩
      have D1 := Lib.hid d1
      have K1 := Lib.hid (HK.out.trans k1)
      clear d1 k1 GC
      go_wp2
      go_roundw
      case rel => exact ⟨M', Q1, EE.out, D1.out, K1.out⟩
      case measure => rw [D1.out.wlen HR.out, HT.out.wlen HR.out]; exact EW.out
end Go.Proofs.YtlolfcnfcgegdaaGreat
