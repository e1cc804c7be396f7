/- Texts of the proofs, part 14: what the functions that they reach do, walked; no conditions beyond those that each states. -/
import Derived.Deep.Slices
import Derived.Deep.Fields
import Derived.ChangeSame
import Derived.ProofKit
import Derived.Deep.QuietTactic
import Derived.BigQuiet
import Derived.Test.YtlolfcnfcgegdaaGreatZz0f6e8b6d6a
set_option linter.unusedVariables false
set_option linter.unusedSimpArgs false
/- Arguments that can be read as data: what lies in memory, by the type's shape. -/
namespace Go.Proofs.YtlolfcnfcgegdaaGreat
open Go.RowKit Go.ChangeShapes Go.WideShapes

/-- The cells can be read as a value of the type. -/
def Rd (P : Program) (w : World) (t : TypeId) (cs : List Value) : Prop :=
  ∃ (H : Type) (enc : TypeId × Value → H) (sp : Nat → Bool) (held : Bool) (fuel : Nat) (x : DataW H × List MemPlace), DataW.trod enc P w 0 sp held fuel t cs = some x

theorem Rd.of {H : Type} {enc : TypeId × Value → H} {P : Program} {w : World} {sp : Nat → Bool} {held : Bool} {t : TypeId} {v : Value} {d : DataW H} {p : List MemPlace} (h : DataW.Trod enc P w 0 sp held t v d p) : Rd P w t v.cells.toList := by
  obtain ⟨fuel, hf⟩ := h
  exact ⟨H, enc, sp, held, fuel, _, hf⟩

section
variable {P : Program} {w : World} {t e : TypeId} {cs : List Value}
theorem Rd.int {k : IntKind} (ht : P.underlying t = some (.int k)) (h : Rd P w t cs) : ∃ n, cs = [.int k n] ∧ (Lit.int k n).wf = true := by
  obtain ⟨H, enc, sp, held, fuel, x, h⟩ := h
  obtain ⟨n, h1, _, h2⟩ := DataW.trod_int ht h
  exact ⟨n, h1, h2⟩
theorem Rd.bool (ht : P.underlying t = some .bool) (h : Rd P w t cs) : ∃ b, cs = [.bool b] := by
  obtain ⟨H, enc, sp, held, fuel, x, h⟩ := h
  obtain ⟨n, h1, _⟩ := DataW.trod_bool ht h
  exact ⟨n, h1⟩
/-- A slice: nil, or len elements of sz cells each. -/
theorem Rd.slice {sz : Nat} (ht : P.underlying t = some (.slice e)) (hs : P.cellsOf e = sz) (h : Rd P w t cs) :
    ∃ a len cap, cs = [.slice a len cap] ∧ len ≤ cap ∧ cap ≤ maxLen ∧ (a = none → cap = 0) ∧
      ∀ i, i < len → ∃ ad cs', a = some ad ∧ cs'.length = sz ∧ (∀ j, j < sz → w.cell? (ad.add (i * sz + j)) = cs'[j]?) ∧ Rd P w e cs' := by
  obtain ⟨H, enc, sp, held, fuel, x, h⟩ := h
  rcases Go.Deep.open_slice ht h with ⟨rfl, _⟩ | ⟨a, len, cap, m, n, D, Pl, rfl, _, hl, hm, hmm, _, hi⟩
  · exact ⟨none, 0, 0, rfl, Nat.le_refl _, by simp, fun _ => rfl, fun i hi => by omega⟩
  · refine ⟨some a, len, cap, rfl, hl, hm, (fun e => by cases e), fun i hil => ?_⟩
    have him : i < m := by rw [hmm]; split <;> omega
    obtain ⟨cs', hc, ht'⟩ := hi i him
    obtain ⟨_, hcl, hat⟩ := World.cells?_some hc
    refine ⟨a, cs', rfl, by omega, fun j hj => ?_, H, enc, sp, held, n, _, ht'⟩
    rw [← hat j (by omega), Go.Deep.add_add, hs]
theorem Rd.struct {fs : Array Field} {sz : Nat} (ht : P.underlying t = some (.struct fs)) (hs : P.cellsOf t = sz) (h : Rd P w t cs) :
    cs.length = sz ∧ ∀ (i : Nat) (f : Field), fs[i]? = some f → Rd P w f.type (List.take (P.cellsOf f.type) (List.drop f.offset cs)) := by
  obtain ⟨H, enc, sp, held, fuel, x, h⟩ := h
  obtain ⟨xs, n, _, _, hl, hx, hf⟩ := DataW.trod_struct ht h
  refine ⟨by omega, fun i f hi => ?_⟩
  have h1 := hf i f hi
  have hlt : i < xs.length := by
    have := (Array.getElem?_eq_some_iff.1 hi).1
    omega
  rw [List.getElem?_eq_getElem hlt] at h1
  exact ⟨H, enc, sp, held, n, _, h1⟩
end

theorem list2 {α : Type} {l : List α} (h : l.length = 2) : ∃ a b, l = [a, b] := by match l, h with | [a, b], _ => exact ⟨a, b, rfl⟩
theorem list3 {α : Type} {l : List α} (h : l.length = 3) : ∃ a b c, l = [a, b, c] := by match l, h with | [a, b, c], _ => exact ⟨a, b, c, rfl⟩
theorem list4 {α : Type} {l : List α} (h : l.length = 4) : ∃ a b c d, l = [a, b, c, d] := by match l, h with | [a, b, c, d], _ => exact ⟨a, b, c, d, rfl⟩
theorem list5 {α : Type} {l : List α} (h : l.length = 5) : ∃ a b c d e, l = [a, b, c, d, e] := by match l, h with | [a, b, c, d, e], _ => exact ⟨a, b, c, d, e, rfl⟩
theorem list6 {α : Type} {l : List α} (h : l.length = 6) : ∃ a b c d e f, l = [a, b, c, d, e, f] := by match l, h with | [a, b, c, d, e, f], _ => exact ⟨a, b, c, d, e, f, rfl⟩

/-- The cell at the place of a field. -/
theorem add_at (b off k : Nat) : Addr.add ⟨b, off, none⟩ k = ⟨b, off + k, none⟩ := by
  unfold Addr.add
  split
  · subst k; rfl
  · rfl
theorem spot_of {w : World} {ad : Addr} {v : Value} (h : w.cell? (ad.add 0) = some v) : ∃ b off, ad = ⟨b, off, none⟩ := by
  have := cell_spot h
  obtain ⟨b, off, sp⟩ := ad
  simp [Addr.add] at this
  exact ⟨b, off, by rw [this]⟩
end Go.Proofs.YtlolfcnfcgegdaaGreat
/- Slices of ints (beside bytes). -/
namespace Go.Proofs.YtlolfcnfcgegdaaGreat
open Go.RowKit
set_option linter.unusedVariables false

/-- A list out of its members. -/
theorem list_ofI {α : Type} {p : Nat → α → Prop} : ∀ n : Nat, (∀ i, i < n → ∃ x, p i x) → ∃ l : List α, l.length = n ∧ ∀ i, (h : i < l.length) → p i l[i]
  | 0, _ => ⟨[], rfl, fun i h => absurd h (Nat.not_lt_zero i)⟩
  | n + 1, h => by
    obtain ⟨l, hl, hp⟩ := list_ofI n fun i hi => h i (by omega)
    obtain ⟨x, hx⟩ := h n (by omega)
    refine ⟨l ++ [x], by simp [hl], fun i hi => ?_⟩
    rw [List.length_append, List.length_singleton] at hi
    by_cases h1 : i < l.length
    · rw [List.getElem_append_left h1]; exact hp i h1
    · obtain rfl : i = l.length := by omega
      rw [List.getElem_append_right (Nat.le_refl _)]
      simp only [Nat.sub_self, List.getElem_cons_zero]
      rw [hl]; exact hx

/-- A slice of numbers of one kind that reads as zs, in a block that K names. -/
def NumsAt (q : IntKind) (K : Nat → Obj → Prop) (w : World) (v : Value) (zs : List Int) : Prop :=
  ∃ a cap, v = .slice a zs.length cap ∧ (zs = [] ∨ ∃ b off o, a = some ⟨b, off, none⟩ ∧ w.heap[b]? = some o ∧ K b o ∧ ∀ i, (h : i < zs.length) → w.cell? ⟨b, off + i, none⟩ = some (.int q zs[i]))
abbrev IntsAt := NumsAt .i64
theorem NumsAt.fr {q : IntKind} {K K' : Nat → Obj → Prop} {w w' : World} {v : Value} {zs : List Int} (h : NumsAt q K w v zs) (hf : Fr K' w w') (hk : ∀ c o, K c o → K' c o) : NumsAt q K w' v zs := by
  obtain ⟨a, cap, hv, h⟩ := h
  refine ⟨a, cap, hv, ?_⟩
  rcases h with h | ⟨b, off, o, ha, hb, hkb, hc⟩
  · exact .inl h
  · refine .inr ⟨b, off, o, ha, hf.keep _ _ hb (hk _ _ hkb), hkb, fun i hi => hf.cell (fun o' e => ?_) (hc i hi)⟩
    have e' : w.heap[b]? = some o' := e
    rw [hb] at e'
    cases e'
    exact hk _ _ hkb
theorem NumsAt.tt {q : IntKind} {K : Nat → Obj → Prop} {w w' : World} {v : Value} {zs : List Int} (h : NumsAt q K w v zs) (hf : Fr (fun _ _ => True) w w') : NumsAt q K w' v zs := h.fr hf fun _ _ _ => trivial
theorem NumsAt.mono {q : IntKind} {K K' : Nat → Obj → Prop} {w : World} {v : Value} {zs : List Int} (h : NumsAt q K w v zs) (hk : ∀ c o, K c o → K' c o) : NumsAt q K' w v zs := by
  obtain ⟨a, cap, hv, h⟩ := h
  refine ⟨a, cap, hv, ?_⟩
  rcases h with h | ⟨b, off, o, ha, hb, hkb, hc⟩
  · exact .inl h
  · exact .inr ⟨b, off, o, ha, hb, hk _ _ hkb, hc⟩
theorem NumsAt.form {q : IntKind} {K : Nat → Obj → Prop} {w : World} {v : Value} {zs : List Int} (h : NumsAt q K w v zs) : ∃ a cap, v = .slice a zs.length cap := by
  obtain ⟨a, cap, hv, _⟩ := h
  exact ⟨a, cap, hv⟩
theorem NumsAt.len {q : IntKind} {K : Nat → Obj → Prop} {w : World} {a : Option Addr} {n c : Nat} {zs : List Int} (h : NumsAt q K w (.slice a n c) zs) : n = zs.length := by
  obtain ⟨a', cap, hv, _⟩ := h
  cases hv; rfl
theorem NumsAt.addr {q : IntKind} {K : Nat → Obj → Prop} {w : World} {a : Option Addr} {n c : Nat} {zs : List Int} (h : NumsAt q K w (.slice a n c) zs) (hn : 0 < zs.length) : ∃ b off, a = some ⟨b, off, none⟩ := by
  obtain ⟨a', cap, hv, h⟩ := h
  cases hv
  rcases h with h | ⟨b, off, _, ha, _⟩
  · subst h; simp at hn
  · exact ⟨b, off, ha⟩
theorem NumsAt.cell {q : IntKind} {K : Nat → Obj → Prop} {w : World} {b off n c : Nat} {zs : List Int} (h : NumsAt q K w (.slice (some ⟨b, off, none⟩) n c) zs) {i : Nat} (hi : i < zs.length) : w.cell? ⟨b, off + i, none⟩ = some (.int q zs[i]) := by
  obtain ⟨a', cap, hv, h⟩ := h
  cases hv
  rcases h with h | ⟨b', off', _, ha, _, _, hc⟩
  · subst h; simp at hi
  · cases ha; exact hc i hi
theorem Rd.nums {q : IntKind} {P : Program} {w : World} {t e : TypeId} {v : Value} (ht : P.underlying t = some (.slice e)) (he : P.underlying e = some (.int q)) (hs : P.cellsOf e = 1) (h : Rd P w t [v]) :
    ∃ zs, NumsAt q (fun b _ => b < w.heap.size) w v zs ∧ zs.length ≤ maxLen ∧ ∀ x ∈ zs, (Lit.int q x).wf = true := by
  obtain ⟨a, len, cap, hv, hl, hm, hn, hc⟩ := h.slice ht hs
  obtain rfl : v = .slice a len cap := by simpa using hv
  obtain ⟨bs, hbl, hb⟩ := list_ofI (p := fun i (x : Int) => (Lit.int q x).wf = true ∧ ∃ ad, a = some ad ∧ w.cell? (ad.add i) = some (.int q x)) len fun i hi => by
    obtain ⟨ad, cs', ha, _, hj, hr⟩ := hc i hi
    obtain ⟨n, rfl, hw⟩ := hr.int he
    refine ⟨n, hw, ad, ha, ?_⟩
    have e1 := hj 0 (by omega)
    rw [Nat.mul_one, Nat.add_zero] at e1
    exact e1
  refine ⟨bs, ⟨a, cap, by rw [hbl], ?_⟩, by omega, fun x hx => by obtain ⟨i, hi, rfl⟩ := List.mem_iff_getElem.1 hx; exact (hb i hi).1⟩
  by_cases h0 : bs = []
  · exact .inl h0
  · have hp : 0 < bs.length := List.length_pos_iff.2 h0
    obtain ⟨_, ad, ha, e0⟩ := hb 0 hp
    obtain ⟨b, off, rfl⟩ := spot_of e0
    have hlt := cell_lt e0
    have hlt' : b < w.heap.size := by simpa [add_at] using hlt
    refine .inr ⟨b, off, w.heap[b], ha, Array.getElem?_eq_getElem hlt', hlt', fun i hi => ?_⟩
    obtain ⟨_, ad', ha', e1⟩ := hb i hi
    rw [ha] at ha'
    cases ha'
    rw [add_at] at e1
    exact e1
theorem size_intc : Tryz.prog.cellsOf 3 = 1 := by kernel_rfl
theorem Rd.is {w : World} {v : Value} (h : Rd Tryz.prog w 106 [v]) : ∃ zs, IntsAt (fun b _ => b < w.heap.size) w v zs ∧ zs.length ≤ maxLen ∧ ∀ x ∈ zs, (Lit.int .i64 x).wf = true := Rd.nums Tryz.underlying106 Tryz.underlying3 size_intc h

/-- Whether a number is among others. -/
def hasI (zs : List Int) (n : Int) : Bool := zs.contains n
theorem hasI_mem {zs : List Int} {n : Int} : hasI zs n = true ↔ n ∈ zs := by unfold hasI; simp
theorem take_contains (zs : List Int) (k : Nat) (hk : k < zs.length) (n : Int) : hasI (zs.take (k + 1)) n = (hasI (zs.take k) n || (n == zs[k])) := by
  have e : zs.take (k + 1) = zs.take k ++ [zs[k]] := List.take_succ_eq_append_getElem hk
  rw [e]
  unfold hasI
  generalize zs.take k = l
  generalize zs[k] = u
  clear e hk
  induction l with
  | nil => simp only [List.nil_append, List.contains_cons, List.contains_nil, Bool.or_false, Bool.false_or]
  | cons x l ih => simp only [List.cons_append, List.contains_cons, ih, Bool.or_assoc]
theorem contains_take {zs : List Int} {k : Nat} {n : Int} (h : hasI (zs.take k) n = true) : hasI zs n = true := hasI_mem.2 (List.mem_of_mem_take (hasI_mem.1 h))
theorem hasI_take0 (zs : List Int) (n : Int) : hasI (zs.take 0) n = false := by simp [hasI]
theorem hasI_nil (n : Int) : hasI [] n = false := rfl
end Go.Proofs.YtlolfcnfcgegdaaGreat
/- Rows of ints of the function's own (beside bytes). -/
namespace Go.Proofs.YtlolfcnfcgegdaaGreat
open Go.RowKit
set_option linter.unusedVariables false

def intV (x : Int) : Value := .int .i64 x
theorem info_int : (Tryz.prog.info? 3).map (fun i => (i.zero, i.size, i.bytes)) = some (some (.int .i64 0), 1, 8) := by kernel_rfl
/-- A row of ints of the function's own. -/
def RowI (w : World) (B : Nat) (v : Value) (zs : List Int) : Prop := w.ownsRow B 3 1 v zs.length (zs.map intV)
theorem RowI.tt {w w' : World} {B : Nat} {v : Value} {zs : List Int} (h : RowI w B v zs) (hf : Fr (fun _ _ => True) w w') : RowI w' B v zs := ownsRow_fr h hf fun _ _ _ _ => trivial
theorem RowI.ints {w : World} {B : Nat} {v : Value} {zs : List Int} (h : RowI w B v zs) : IntsAt (fun b _ => B ≤ b) w v zs := by
  obtain ⟨h1, h2⟩ := h
  rcases h2 with ⟨hv, hn⟩ | ⟨g, cap, cur, hv, hg, hh, hn, hc, hs, ht⟩
  · have e := List.length_eq_zero_iff.1 hn
    subst e hv
    exact ⟨_, _, rfl, .inl rfl⟩
  · refine ⟨_, cap, hv, .inr ⟨g, 0, _, rfl, hh, hg, fun i hi => ?_⟩⟩
    have e1 : cur.toList[i]? = (zs.map intV)[i]? := by rw [← ht, List.getElem?_take, if_pos (by omega)]
    have e2 : cur[i]? = some (intV zs[i]) := by rw [← Array.getElem?_toList, e1]; simp [hi]
    rw [Nat.zero_add]
    exact cell_mk hh e2
theorem RowI.nil (w : World) (B : Nat) : RowI w B (.slice none 0 0) [] := ⟨rfl, .inl ⟨rfl, rfl⟩⟩
theorem RowI.form {w : World} {B : Nat} {v : Value} {zs : List Int} (h : RowI w B v zs) : ∃ a c, v = .slice a zs.length c := by
  rcases h.2 with ⟨rfl, e⟩ | ⟨g, cap, _, rfl, _⟩
  · exact ⟨none, 0, by rw [e]⟩
  · exact ⟨_, _, rfl⟩
theorem NumsAt.src {K : Nat → Obj → Prop} {w : World} {v : Value} {zs : List Int} (h : IntsAt K w v zs) (h0 : 0 < zs.length) : SrcAt w 1 v zs.length (zs.map intV) := by
  obtain ⟨a, cap, rfl, h⟩ := h
  rcases h with rfl | ⟨b, off, o, rfl, hb, hk, hc⟩
  · simp at h0
  · refine .inr ⟨_, cap, rfl, by simp, fun j u hu => ?_, fun u hu => ?_⟩
    · have hj : j < zs.length := by
        rcases Nat.lt_or_ge j zs.length with h1 | h1
        · exact h1
        · rw [List.getElem?_eq_none (by simpa using h1)] at hu; cases hu
      have hu' : u = intV zs[j] := by
        rw [List.getElem?_map, List.getElem?_eq_getElem hj] at hu
        exact (Option.some.inj hu).symm
      rw [hu', add_at]
      exact hc j hj
    · obtain ⟨x, _, rfl⟩ := List.mem_map.1 hu
      rfl
theorem NumsAt.lit1 (w : World) (x : Int) : IntsAt (fun _ _ => True) (w.alloc (.cells #[.int .i64 x] 3 (0, 0))) (.slice (some ⟨w.heap.size, 0, none⟩) 1 1) [x] := by
  refine ⟨_, 1, rfl, .inr ⟨w.heap.size, 0, _, rfl, heap_alloc_new _ _, trivial, fun i hi => ?_⟩⟩
  obtain rfl : i = 0 := by simpa using hi
  exact cell_mk (heap_alloc_new _ _) rfl

/-- An append of ints to a row of the function's own. -/
theorem wpList_append_ints {K0 : Nat → Obj → Prop} {ops : Array Oper} {rest : List Oper} {o : Oper} {a : Act} {Q : Exit → Act → World → Prop} (W0 W : World) (hF : Hid (Fr (fun _ _ => True) W0 W)) (hgd : o.guard = none) (s x : Operand)
    (ho : o.op = .call { callee := .builtin .append, args := #[s, x], argTypes := #[106, 106] }) (v : Value) (xs : List Int) (hs : a.eval s = v) (hown : Hid (RowI W W0.heap.size v xs))
    (vx : Value) (bs : List Int) (hx : a.eval x = vx) (hb : Hid (IntsAt K0 W vx bs)) (h0 : 0 < bs.length) (r : List Int) (hr : Hid (xs ++ bs = r)) (hn : r.length ≤ 2000000)
    (h : ∀ a' c' w', Hid (RowI w' W0.heap.size (.slice a' r.length c') r) → Hid (Fr (fun _ _ => True) W0 w') → wpList Tryz.prog ops Q rest (a.put o.dst (.slice a' r.length c')) w') :
    wpList Tryz.prog ops Q (o :: rest) a W := by
  obtain ⟨i0, hi, hz0, hz1, hz2⟩ := info_parts info_int
  have hr := hr.out
  subst hr
  rw [List.length_append] at hn
  refine wpList_append_src W hgd s x 106 ho W0.heap.size 3 i0 (.int .i64 0) 1 8 Tryz.underlying106 hi hz0 hz1 hz2 rfl (by decide) v xs.length (xs.map intV) hs hown.out vx bs.length (bs.map intV) hx (hb.out.src h0) (by unfold maxLen; omega) (by omega) hF.out.size ?_
  intro v' w' h1 h2 _
  rw [← List.map_append, ← List.length_append] at h1
  obtain ⟨a', c', rfl⟩ := RowI.form h1
  exact h a' c' w' h1 (hF.out.grown_new h2 (own_new hown.out))


theorem NumsAt.mk' {q : IntKind} {K : Nat → Obj → Prop} {w : World} {g off c : Nat} {zs : List Int} (hK : ∀ o, K g o) (h : ∀ k u, zs[k]? = some u → w.cell? ⟨g, off + k, none⟩ = some (.int q u)) : NumsAt q K w (.slice (some ⟨g, off, none⟩) zs.length c) zs := by
  refine ⟨_, c, rfl, ?_⟩
  cases hz : zs with
  | nil => exact .inl rfl
  | cons x r =>
    rw [← hz]
    have h0 := h 0 x (by rw [hz]; rfl)
    have hl : g < w.heap.size := cell_lt h0
    refine .inr ⟨g, off, w.heap[g], rfl, Array.getElem?_eq_getElem hl, hK _, fun i hi => h i _ (List.getElem?_eq_getElem hi)⟩

/-- A list with one more at a place. -/

theorem RowI.parts {w : World} {B : Nat} {v : Value} {zs : List Int} (h : RowI w B v zs) (h0 : 0 < zs.length) : ∃ g cap cur, v = .slice (some ⟨g, 0, none⟩) zs.length cap ∧ B ≤ g ∧ w.heap[g]? = some (.cells cur 3 (0, 0)) ∧ zs.length ≤ cap ∧ cap ≤ maxLen ∧ cur.size = cap ∧ ∀ k, k < zs.length → w.cell? ⟨g, k, none⟩ = (zs[k]?).map intV := by
  obtain ⟨h1, h2⟩ := h
  rcases h2 with ⟨hv, hn⟩ | ⟨g, cap, cur, hv, hg, hh, hn, hc, hs, ht⟩
  · omega
  · refine ⟨g, cap, cur, hv, hg, hh, hn, hc, by omega, fun k hk => ?_⟩
    have e1 : cur.toList[k]? = (zs.map intV)[k]? := by rw [← ht, List.getElem?_take, if_pos (by omega)]
    have e2 : cur[k]? = some (intV zs[k]) := by rw [← Array.getElem?_toList, e1]; simp [hk]
    rw [cell_mk hh e2, List.getElem?_eq_getElem hk]; rfl

end Go.Proofs.YtlolfcnfcgegdaaGreat
/- Numbers among others: slices.Index, slices.Contains, ref10.Has, ref08.Numbers. -/
namespace Go.Proofs.YtlolfcnfcgegdaaGreat
open Go.RowKit
set_option linter.unusedVariables false

end Go.Proofs.YtlolfcnfcgegdaaGreat
