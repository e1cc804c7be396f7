/- Texts of the proofs, part 8: what the functions that they reach do, walked; no conditions beyond those that each states. -/
import Derived.Deep.Slices
import Derived.Deep.Fields
import Derived.ChangeSame
import Derived.ProofKit
import Derived.Deep.QuietTactic
import Derived.BigQuiet
import Derived.OpenShut
import Derived.StillTailTactics
import Derived.Test.YtkaikckehkcfhaaZz34c121139c
set_option linter.unusedVariables false
set_option linter.unusedSimpArgs false
/- Arguments that can be read as data: what lies in memory, by the type's shape. -/
namespace Go.Proofs.Ytkaikckehkcfhaa
open Go.RowKit Go.ChangeShapes Go.WideShapes

/-- The cells can be read as a value of the type. -/
def Rd (P : Program) (w : World) (t : TypeId) (cs : List Value) : Prop :=
  ∃ (H : Type) (enc : TypeId × Value → H) (sp : Nat → Bool) (held : Bool) (fuel : Nat) (x : DataW H × List MemPlace), DataW.trod enc P w 0 sp held fuel t cs = some x

theorem Rd.of {H : Type} {enc : TypeId × Value → H} {P : Program} {w : World} {sp : Nat → Bool} {held : Bool} {t : TypeId} {v : Value} {d : DataW H} {p : List MemPlace} (h : DataW.Trod enc P w 0 sp held t v d p) : Rd P w t v.cells.toList := by
  obtain ⟨fuel, hf⟩ := h
  exact ⟨H, enc, sp, held, fuel, _, hf⟩

section
variable {P : Program} {w : World} {t e : TypeId} {cs : List Value}
theorem Rd.int {k : IntKind} (ht : P.underlying t = some (.int k)) (h : Rd P w t cs) : ∃ n, cs = [.int k n] ∧ (Lit.int k n).wf = true := by
  obtain ⟨H, enc, sp, held, fuel, x, h⟩ := h
  obtain ⟨n, h1, _, h2⟩ := DataW.trod_int ht h
  exact ⟨n, h1, h2⟩
theorem Rd.bool (ht : P.underlying t = some .bool) (h : Rd P w t cs) : ∃ b, cs = [.bool b] := by
  obtain ⟨H, enc, sp, held, fuel, x, h⟩ := h
  obtain ⟨n, h1, _⟩ := DataW.trod_bool ht h
  exact ⟨n, h1⟩
/-- A slice: nil, or len elements of sz cells each. -/
theorem Rd.slice {sz : Nat} (ht : P.underlying t = some (.slice e)) (hs : P.cellsOf e = sz) (h : Rd P w t cs) :
    ∃ a len cap, cs = [.slice a len cap] ∧ len ≤ cap ∧ cap ≤ maxLen ∧ (a = none → cap = 0) ∧
      ∀ i, i < len → ∃ ad cs', a = some ad ∧ cs'.length = sz ∧ (∀ j, j < sz → w.cell? (ad.add (i * sz + j)) = cs'[j]?) ∧ Rd P w e cs' := by
  obtain ⟨H, enc, sp, held, fuel, x, h⟩ := h
  rcases Go.Deep.open_slice ht h with ⟨rfl, _⟩ | ⟨a, len, cap, m, n, D, Pl, rfl, _, hl, hm, hmm, _, hi⟩
  · exact ⟨none, 0, 0, rfl, Nat.le_refl _, by simp, fun _ => rfl, fun i hi => by omega⟩
  · refine ⟨some a, len, cap, rfl, hl, hm, (fun e => by cases e), fun i hil => ?_⟩
    have him : i < m := by rw [hmm]; split <;> omega
    obtain ⟨cs', hc, ht'⟩ := hi i him
    obtain ⟨_, hcl, hat⟩ := World.cells?_some hc
    refine ⟨a, cs', rfl, by omega, fun j hj => ?_, H, enc, sp, held, n, _, ht'⟩
    rw [← hat j (by omega), Go.Deep.add_add, hs]
theorem Rd.struct {fs : Array Field} {sz : Nat} (ht : P.underlying t = some (.struct fs)) (hs : P.cellsOf t = sz) (h : Rd P w t cs) :
    cs.length = sz ∧ ∀ (i : Nat) (f : Field), fs[i]? = some f → Rd P w f.type (List.take (P.cellsOf f.type) (List.drop f.offset cs)) := by
  obtain ⟨H, enc, sp, held, fuel, x, h⟩ := h
  obtain ⟨xs, n, _, _, hl, hx, hf⟩ := DataW.trod_struct ht h
  refine ⟨by omega, fun i f hi => ?_⟩
  have h1 := hf i f hi
  have hlt : i < xs.length := by
    have := (Array.getElem?_eq_some_iff.1 hi).1
    omega
  rw [List.getElem?_eq_getElem hlt] at h1
  exact ⟨H, enc, sp, held, n, _, h1⟩
end

theorem list2 {α : Type} {l : List α} (h : l.length = 2) : ∃ a b, l = [a, b] := by match l, h with | [a, b], _ => exact ⟨a, b, rfl⟩
theorem list3 {α : Type} {l : List α} (h : l.length = 3) : ∃ a b c, l = [a, b, c] := by match l, h with | [a, b, c], _ => exact ⟨a, b, c, rfl⟩
theorem list4 {α : Type} {l : List α} (h : l.length = 4) : ∃ a b c d, l = [a, b, c, d] := by match l, h with | [a, b, c, d], _ => exact ⟨a, b, c, d, rfl⟩
theorem list5 {α : Type} {l : List α} (h : l.length = 5) : ∃ a b c d e, l = [a, b, c, d, e] := by match l, h with | [a, b, c, d, e], _ => exact ⟨a, b, c, d, e, rfl⟩
theorem list6 {α : Type} {l : List α} (h : l.length = 6) : ∃ a b c d e f, l = [a, b, c, d, e, f] := by match l, h with | [a, b, c, d, e, f], _ => exact ⟨a, b, c, d, e, f, rfl⟩

/-- The cell at the place of a field. -/
theorem add_at (b off k : Nat) : Addr.add ⟨b, off, none⟩ k = ⟨b, off + k, none⟩ := by
  unfold Addr.add
  split
  · subst k; rfl
  · rfl
theorem spot_of {w : World} {ad : Addr} {v : Value} (h : w.cell? (ad.add 0) = some v) : ∃ b off, ad = ⟨b, off, none⟩ := by
  have := cell_spot h
  obtain ⟨b, off, sp⟩ := ad
  simp [Addr.add] at this
  exact ⟨b, off, by rw [this]⟩
end Go.Proofs.Ytkaikckehkcfhaa
/- Slices of ints (beside bytes). -/
namespace Go.Proofs.Ytkaikckehkcfhaa
open Go.RowKit
set_option linter.unusedVariables false

/-- A list out of its members. -/
theorem list_ofI {α : Type} {p : Nat → α → Prop} : ∀ n : Nat, (∀ i, i < n → ∃ x, p i x) → ∃ l : List α, l.length = n ∧ ∀ i, (h : i < l.length) → p i l[i]
  | 0, _ => ⟨[], rfl, fun i h => absurd h (Nat.not_lt_zero i)⟩
  | n + 1, h => by
    obtain ⟨l, hl, hp⟩ := list_ofI n fun i hi => h i (by omega)
    obtain ⟨x, hx⟩ := h n (by omega)
    refine ⟨l ++ [x], by simp [hl], fun i hi => ?_⟩
    rw [List.length_append, List.length_singleton] at hi
    by_cases h1 : i < l.length
    · rw [List.getElem_append_left h1]; exact hp i h1
    · obtain rfl : i = l.length := by omega
      rw [List.getElem_append_right (Nat.le_refl _)]
      simp only [Nat.sub_self, List.getElem_cons_zero]
      rw [hl]; exact hx

/-- A slice of numbers of one kind that reads as zs, in a block that K names. -/
def NumsAt (q : IntKind) (K : Nat → Obj → Prop) (w : World) (v : Value) (zs : List Int) : Prop :=
  ∃ a cap, v = .slice a zs.length cap ∧ (zs = [] ∨ ∃ b off o, a = some ⟨b, off, none⟩ ∧ w.heap[b]? = some o ∧ K b o ∧ ∀ i, (h : i < zs.length) → w.cell? ⟨b, off + i, none⟩ = some (.int q zs[i]))
abbrev IntsAt := NumsAt .i64
theorem NumsAt.fr {q : IntKind} {K K' : Nat → Obj → Prop} {w w' : World} {v : Value} {zs : List Int} (h : NumsAt q K w v zs) (hf : Fr K' w w') (hk : ∀ c o, K c o → K' c o) : NumsAt q K w' v zs := by
  obtain ⟨a, cap, hv, h⟩ := h
  refine ⟨a, cap, hv, ?_⟩
  rcases h with h | ⟨b, off, o, ha, hb, hkb, hc⟩
  · exact .inl h
  · refine .inr ⟨b, off, o, ha, hf.keep _ _ hb (hk _ _ hkb), hkb, fun i hi => hf.cell (fun o' e => ?_) (hc i hi)⟩
    have e' : w.heap[b]? = some o' := e
    rw [hb] at e'
    cases e'
    exact hk _ _ hkb
theorem NumsAt.tt {q : IntKind} {K : Nat → Obj → Prop} {w w' : World} {v : Value} {zs : List Int} (h : NumsAt q K w v zs) (hf : Fr (fun _ _ => True) w w') : NumsAt q K w' v zs := h.fr hf fun _ _ _ => trivial
theorem NumsAt.mono {q : IntKind} {K K' : Nat → Obj → Prop} {w : World} {v : Value} {zs : List Int} (h : NumsAt q K w v zs) (hk : ∀ c o, K c o → K' c o) : NumsAt q K' w v zs := by
  obtain ⟨a, cap, hv, h⟩ := h
  refine ⟨a, cap, hv, ?_⟩
  rcases h with h | ⟨b, off, o, ha, hb, hkb, hc⟩
  · exact .inl h
  · exact .inr ⟨b, off, o, ha, hb, hk _ _ hkb, hc⟩
theorem NumsAt.form {q : IntKind} {K : Nat → Obj → Prop} {w : World} {v : Value} {zs : List Int} (h : NumsAt q K w v zs) : ∃ a cap, v = .slice a zs.length cap := by
  obtain ⟨a, cap, hv, _⟩ := h
  exact ⟨a, cap, hv⟩
theorem NumsAt.len {q : IntKind} {K : Nat → Obj → Prop} {w : World} {a : Option Addr} {n c : Nat} {zs : List Int} (h : NumsAt q K w (.slice a n c) zs) : n = zs.length := by
  obtain ⟨a', cap, hv, _⟩ := h
  cases hv; rfl
theorem NumsAt.addr {q : IntKind} {K : Nat → Obj → Prop} {w : World} {a : Option Addr} {n c : Nat} {zs : List Int} (h : NumsAt q K w (.slice a n c) zs) (hn : 0 < zs.length) : ∃ b off, a = some ⟨b, off, none⟩ := by
  obtain ⟨a', cap, hv, h⟩ := h
  cases hv
  rcases h with h | ⟨b, off, _, ha, _⟩
  · subst h; simp at hn
  · exact ⟨b, off, ha⟩
theorem NumsAt.cell {q : IntKind} {K : Nat → Obj → Prop} {w : World} {b off n c : Nat} {zs : List Int} (h : NumsAt q K w (.slice (some ⟨b, off, none⟩) n c) zs) {i : Nat} (hi : i < zs.length) : w.cell? ⟨b, off + i, none⟩ = some (.int q zs[i]) := by
  obtain ⟨a', cap, hv, h⟩ := h
  cases hv
  rcases h with h | ⟨b', off', _, ha, _, _, hc⟩
  · subst h; simp at hi
  · cases ha; exact hc i hi
theorem Rd.nums {q : IntKind} {P : Program} {w : World} {t e : TypeId} {v : Value} (ht : P.underlying t = some (.slice e)) (he : P.underlying e = some (.int q)) (hs : P.cellsOf e = 1) (h : Rd P w t [v]) :
    ∃ zs, NumsAt q (fun b _ => b < w.heap.size) w v zs ∧ zs.length ≤ maxLen ∧ ∀ x ∈ zs, (Lit.int q x).wf = true := by
  obtain ⟨a, len, cap, hv, hl, hm, hn, hc⟩ := h.slice ht hs
  obtain rfl : v = .slice a len cap := by simpa using hv
  obtain ⟨bs, hbl, hb⟩ := list_ofI (p := fun i (x : Int) => (Lit.int q x).wf = true ∧ ∃ ad, a = some ad ∧ w.cell? (ad.add i) = some (.int q x)) len fun i hi => by
    obtain ⟨ad, cs', ha, _, hj, hr⟩ := hc i hi
    obtain ⟨n, rfl, hw⟩ := hr.int he
    refine ⟨n, hw, ad, ha, ?_⟩
    have e1 := hj 0 (by omega)
    rw [Nat.mul_one, Nat.add_zero] at e1
    exact e1
  refine ⟨bs, ⟨a, cap, by rw [hbl], ?_⟩, by omega, fun x hx => by obtain ⟨i, hi, rfl⟩ := List.mem_iff_getElem.1 hx; exact (hb i hi).1⟩
  by_cases h0 : bs = []
  · exact .inl h0
  · have hp : 0 < bs.length := List.length_pos_iff.2 h0
    obtain ⟨_, ad, ha, e0⟩ := hb 0 hp
    obtain ⟨b, off, rfl⟩ := spot_of e0
    have hlt := cell_lt e0
    have hlt' : b < w.heap.size := by simpa [add_at] using hlt
    refine .inr ⟨b, off, w.heap[b], ha, Array.getElem?_eq_getElem hlt', hlt', fun i hi => ?_⟩
    obtain ⟨_, ad', ha', e1⟩ := hb i hi
    rw [ha] at ha'
    cases ha'
    rw [add_at] at e1
    exact e1
theorem size_intc : Try.prog.cellsOf 3 = 1 := by kernel_rfl
theorem Rd.is {w : World} {v : Value} (h : Rd Try.prog w 54 [v]) : ∃ zs, IntsAt (fun b _ => b < w.heap.size) w v zs ∧ zs.length ≤ maxLen ∧ ∀ x ∈ zs, (Lit.int .i64 x).wf = true := Rd.nums Try.underlying54 Try.underlying3 size_intc h

/-- Whether a number is among others. -/
def hasI (zs : List Int) (n : Int) : Bool := zs.contains n
theorem hasI_mem {zs : List Int} {n : Int} : hasI zs n = true ↔ n ∈ zs := by unfold hasI; simp
theorem take_contains (zs : List Int) (k : Nat) (hk : k < zs.length) (n : Int) : hasI (zs.take (k + 1)) n = (hasI (zs.take k) n || (n == zs[k])) := by
  have e : zs.take (k + 1) = zs.take k ++ [zs[k]] := List.take_succ_eq_append_getElem hk
  rw [e]
  unfold hasI
  generalize zs.take k = l
  generalize zs[k] = u
  clear e hk
  induction l with
  | nil => simp only [List.nil_append, List.contains_cons, List.contains_nil, Bool.or_false, Bool.false_or]
  | cons x l ih => simp only [List.cons_append, List.contains_cons, ih, Bool.or_assoc]
theorem contains_take {zs : List Int} {k : Nat} {n : Int} (h : hasI (zs.take k) n = true) : hasI zs n = true := hasI_mem.2 (List.mem_of_mem_take (hasI_mem.1 h))
theorem hasI_take0 (zs : List Int) (n : Int) : hasI (zs.take 0) n = false := by simp [hasI]
theorem hasI_nil (n : Int) : hasI [] n = false := rfl
end Go.Proofs.Ytkaikckehkcfhaa
/- Rows of ints of the function's own (beside bytes). -/
namespace Go.Proofs.Ytkaikckehkcfhaa
open Go.RowKit
set_option linter.unusedVariables false

def intV (x : Int) : Value := .int .i64 x
theorem info_int : (Try.prog.info? 3).map (fun i => (i.zero, i.size, i.bytes)) = some (some (.int .i64 0), 1, 8) := by kernel_rfl
/-- A row of ints of the function's own. -/
def RowI (w : World) (B : Nat) (v : Value) (zs : List Int) : Prop := w.ownsRow B 3 1 v zs.length (zs.map intV)
theorem RowI.tt {w w' : World} {B : Nat} {v : Value} {zs : List Int} (h : RowI w B v zs) (hf : Fr (fun _ _ => True) w w') : RowI w' B v zs := ownsRow_fr h hf fun _ _ _ _ => trivial
theorem RowI.ints {w : World} {B : Nat} {v : Value} {zs : List Int} (h : RowI w B v zs) : IntsAt (fun b _ => B ≤ b) w v zs := by
  obtain ⟨h1, h2⟩ := h
  rcases h2 with ⟨hv, hn⟩ | ⟨g, cap, cur, hv, hg, hh, hn, hc, hs, ht⟩
  · have e := List.length_eq_zero_iff.1 hn
    subst e hv
    exact ⟨_, _, rfl, .inl rfl⟩
  · refine ⟨_, cap, hv, .inr ⟨g, 0, _, rfl, hh, hg, fun i hi => ?_⟩⟩
    have e1 : cur.toList[i]? = (zs.map intV)[i]? := by rw [← ht, List.getElem?_take, if_pos (by omega)]
    have e2 : cur[i]? = some (intV zs[i]) := by rw [← Array.getElem?_toList, e1]; simp [hi]
    rw [Nat.zero_add]
    exact cell_mk hh e2
theorem RowI.nil (w : World) (B : Nat) : RowI w B (.slice none 0 0) [] := ⟨rfl, .inl ⟨rfl, rfl⟩⟩
theorem RowI.form {w : World} {B : Nat} {v : Value} {zs : List Int} (h : RowI w B v zs) : ∃ a c, v = .slice a zs.length c := by
  rcases h.2 with ⟨rfl, e⟩ | ⟨g, cap, _, rfl, _⟩
  · exact ⟨none, 0, by rw [e]⟩
  · exact ⟨_, _, rfl⟩
theorem NumsAt.src {K : Nat → Obj → Prop} {w : World} {v : Value} {zs : List Int} (h : IntsAt K w v zs) (h0 : 0 < zs.length) : SrcAt w 1 v zs.length (zs.map intV) := by
  obtain ⟨a, cap, rfl, h⟩ := h
  rcases h with rfl | ⟨b, off, o, rfl, hb, hk, hc⟩
  · simp at h0
  · refine .inr ⟨_, cap, rfl, by simp, fun j u hu => ?_, fun u hu => ?_⟩
    · have hj : j < zs.length := by
        rcases Nat.lt_or_ge j zs.length with h1 | h1
        · exact h1
        · rw [List.getElem?_eq_none (by simpa using h1)] at hu; cases hu
      have hu' : u = intV zs[j] := by
        rw [List.getElem?_map, List.getElem?_eq_getElem hj] at hu
        exact (Option.some.inj hu).symm
      rw [hu', add_at]
      exact hc j hj
    · obtain ⟨x, _, rfl⟩ := List.mem_map.1 hu
      rfl
theorem NumsAt.lit1 (w : World) (x : Int) : IntsAt (fun _ _ => True) (w.alloc (.cells #[.int .i64 x] 3 (0, 0))) (.slice (some ⟨w.heap.size, 0, none⟩) 1 1) [x] := by
  refine ⟨_, 1, rfl, .inr ⟨w.heap.size, 0, _, rfl, heap_alloc_new _ _, trivial, fun i hi => ?_⟩⟩
  obtain rfl : i = 0 := by simpa using hi
  exact cell_mk (heap_alloc_new _ _) rfl

/-- An append of ints to a row of the function's own. -/
theorem wpList_append_ints {K0 : Nat → Obj → Prop} {ops : Array Oper} {rest : List Oper} {o : Oper} {a : Act} {Q : Exit → Act → World → Prop} (W0 W : World) (hF : Hid (Fr (fun _ _ => True) W0 W)) (hgd : o.guard = none) (s x : Operand)
    (ho : o.op = .call { callee := .builtin .append, args := #[s, x], argTypes := #[54, 54] }) (v : Value) (xs : List Int) (hs : a.eval s = v) (hown : Hid (RowI W W0.heap.size v xs))
    (vx : Value) (bs : List Int) (hx : a.eval x = vx) (hb : Hid (IntsAt K0 W vx bs)) (h0 : 0 < bs.length) (r : List Int) (hr : Hid (xs ++ bs = r)) (hn : r.length ≤ 2000000)
    (h : ∀ a' c' w', Hid (RowI w' W0.heap.size (.slice a' r.length c') r) → Hid (Fr (fun _ _ => True) W0 w') → wpList Try.prog ops Q rest (a.put o.dst (.slice a' r.length c')) w') :
    wpList Try.prog ops Q (o :: rest) a W := by
  obtain ⟨i0, hi, hz0, hz1, hz2⟩ := info_parts info_int
  have hr := hr.out
  subst hr
  rw [List.length_append] at hn
  refine wpList_append_src W hgd s x 54 ho W0.heap.size 3 i0 (.int .i64 0) 1 8 Try.underlying54 hi hz0 hz1 hz2 rfl (by decide) v xs.length (xs.map intV) hs hown.out vx bs.length (bs.map intV) hx (hb.out.src h0) (by unfold maxLen; omega) (by omega) hF.out.size ?_
  intro v' w' h1 h2 _
  rw [← List.map_append, ← List.length_append] at h1
  obtain ⟨a', c', rfl⟩ := RowI.form h1
  exact h a' c' w' h1 (hF.out.grown_new h2 (own_new hown.out))


theorem NumsAt.mk' {q : IntKind} {K : Nat → Obj → Prop} {w : World} {g off c : Nat} {zs : List Int} (hK : ∀ o, K g o) (h : ∀ k u, zs[k]? = some u → w.cell? ⟨g, off + k, none⟩ = some (.int q u)) : NumsAt q K w (.slice (some ⟨g, off, none⟩) zs.length c) zs := by
  refine ⟨_, c, rfl, ?_⟩
  cases hz : zs with
  | nil => exact .inl rfl
  | cons x r =>
    rw [← hz]
    have h0 := h 0 x (by rw [hz]; rfl)
    have hl : g < w.heap.size := cell_lt h0
    refine .inr ⟨g, off, w.heap[g], rfl, Array.getElem?_eq_getElem hl, hK _, fun i hi => h i _ (List.getElem?_eq_getElem hi)⟩

/-- A list with one more at a place. -/

theorem RowI.parts {w : World} {B : Nat} {v : Value} {zs : List Int} (h : RowI w B v zs) (h0 : 0 < zs.length) : ∃ g cap cur, v = .slice (some ⟨g, 0, none⟩) zs.length cap ∧ B ≤ g ∧ w.heap[g]? = some (.cells cur 3 (0, 0)) ∧ zs.length ≤ cap ∧ cap ≤ maxLen ∧ cur.size = cap ∧ ∀ k, k < zs.length → w.cell? ⟨g, k, none⟩ = (zs[k]?).map intV := by
  obtain ⟨h1, h2⟩ := h
  rcases h2 with ⟨hv, hn⟩ | ⟨g, cap, cur, hv, hg, hh, hn, hc, hs, ht⟩
  · omega
  · refine ⟨g, cap, cur, hv, hg, hh, hn, hc, by omega, fun k hk => ?_⟩
    have e1 : cur.toList[k]? = (zs.map intV)[k]? := by rw [← ht, List.getElem?_take, if_pos (by omega)]
    have e2 : cur[k]? = some (intV zs[k]) := by rw [← Array.getElem?_toList, e1]; simp [hk]
    rw [cell_mk hh e2, List.getElem?_eq_getElem hk]; rfl

end Go.Proofs.Ytkaikckehkcfhaa
/- Numbers among others: slices.Index, slices.Contains, ref10.Has, ref08.Numbers. -/
namespace Go.Proofs.Ytkaikckehkcfhaa
open Go.RowKit
set_option linter.unusedVariables false

set_option maxRecDepth 100000 in
theorem nums_len (w : World) (a1 a2 : Option Addr) (n1 n2 c1 c2 : Nat) (hn : ¬ n1 = n2) : Calls Try.prog 22 #[.slice a1 n1 c1, .slice a2 n2 c2] w fun e w' => e = .returned (.bool false) ∧ w = w' := by
  have hq : ((n1 : Int) != n2) = true := by simp; omega
  clear hn
  go_enter Try.func22, Try.ntmps22
  go_wp2
  go_ret
  exact ⟨rfl, rfl⟩
set_option maxRecDepth 100000 in
theorem nums_nil (w : World) (a1 a2 : Option Addr) (c1 c2 : Nat) : Calls Try.prog 22 #[.slice a1 0 c1, .slice a2 0 c2] w fun e w' => e = .returned (.bool true) ∧ w = w' := by
  go_enter Try.func22, Try.ntmps22
  go_wp2
  go_loop [5] (fun i => i = .int .i64 0) (fun _ => 0)
  case atStart => exact rfl
  case round =>
    obtain rfl := hrel
    go_wp2
    go_ret
    exact ⟨rfl, rfl⟩
set_option maxRecDepth 100000 in
theorem nums_loop (w : World) (b1 b2 o1 o2 n c1 c2 : Nat) (x y : List Int) {K K' : Nat → Obj → Prop} (hx : IntsAt K w (.slice (some ⟨b1, o1, none⟩) n c1) x) (hy : IntsAt K' w (.slice (some ⟨b2, o2, none⟩) n c2) y) (hm : n ≤ 9223372036854775807) :
    Calls Try.prog 22 #[.slice (some ⟨b1, o1, none⟩) n c1, .slice (some ⟨b2, o2, none⟩) n c2] w fun e w' => e = .returned (.bool (decide (x = y))) ∧ Fr (fun _ _ => True) w w' := by
  have h1 := hx.len
  have h2 := hy.len
  have HX := Lib.hid hx
  have HY := Lib.hid hy
  have H1 := Lib.hid h1
  have H2 := Lib.hid h2
  clear hx hy h1 h2
  go_enter Try.func22, Try.ntmps22
  go_wp2
  go_loopw [5] (fun i wr => ∃ k : Nat, k ≤ n ∧ i = .int .i64 k ∧ x.take k = y.take k ∧ ∃ j, wr = w.drewN j) (fun i _ => n - (intOf i).toNat)
  case atStart => exact ⟨0, Nat.zero_le _, rfl, rfl, 0, rfl⟩
  case round =>
    obtain ⟨k, hk, rfl, ht, j, rfl⟩ := hrel
    have HT := Lib.hid ht
    clear ht
    by_cases hlt : k < n
    · have g1 := HX.out.cell (i := k) (by have := H1.out; omega)
      have g2 := HY.out.cell (i := k) (by have := H2.out; omega)
      have l1 : k < x.length := by have := H1.out; omega
      have l2 : k < y.length := by have := H2.out; omega
      generalize hu : x[k] = u at g1
      generalize hv : y[k] = v at g2
      have HU := Lib.hid hu
      have HV := Lib.hid hv
      clear hu hv
      go_wp2
      go_quiet (fail)
      go_wp2
      · go_ret
        have hne : (u != v) = true := by assumption
        refine ⟨?_, (Fr.refl _ _).drewN _ |>.drewN _⟩
        have e1 : x ≠ y := fun e => by
          have := HU.out; have := HV.out; subst e; simp_all
        simp [e1]
      · have heq : (u != v) = false := by assumption
        go_roundw
        case rel =>
          refine ⟨k + 1, by omega, by go_num, ?_, _, rfl⟩
          rw [List.take_succ_eq_append_getElem l1, List.take_succ_eq_append_getElem l2, HT.out, HU.out, HV.out]
          simp at heq
          rw [heq]
        case measure => simp [intOf]; omega
    · go_wp2
      go_ret
      have e1 : x = y := by
        have := HT.out
        rwa [List.take_of_length_le (by have := H1.out; omega), List.take_of_length_le (by have := H2.out; omega)] at this
      exact ⟨by simp [e1], (Fr.refl _ _).drewN _⟩
theorem nums_calls (w : World) (v1 v2 : Value) (x y : List Int) {K K' : Nat → Obj → Prop} (hx : IntsAt K w v1 x) (hy : IntsAt K' w v2 y) (hm : x.length ≤ maxLen) :
    Calls Try.prog 22 #[v1, v2] w fun e w' => e = .returned (.bool (decide (x = y))) ∧ Fr (fun _ _ => True) w w' := by
  obtain ⟨a1, c1, rfl⟩ := hx.form
  obtain ⟨a2, c2, rfl⟩ := hy.form
  by_cases hl : x.length = y.length
  · by_cases h0 : x.length = 0
    · have e1 := List.length_eq_zero_iff.1 h0
      have e2 := List.length_eq_zero_iff.1 (hl ▸ h0)
      subst e1 e2
      exact (nums_nil w a1 a2 c1 c2).mono fun e w' ⟨he, hw⟩ => ⟨he, hw ▸ Fr.refl _ _⟩
    · obtain ⟨b1, o1, rfl⟩ := hx.addr (by omega)
      obtain ⟨b2, o2, rfl⟩ := hy.addr (by omega)
      rw [← hl] at hy ⊢
      exact nums_loop w b1 b2 o1 o2 _ c1 c2 x y hx hy (by unfold maxLen at hm; omega)
  · refine (nums_len w a1 a2 _ _ c1 c2 hl).mono fun e w' ⟨he, hw⟩ => ⟨?_, hw ▸ Fr.refl _ _⟩
    rw [he, show decide (x = y) = false from by simp; exact fun e => hl (by rw [e])]
end Go.Proofs.Ytkaikckehkcfhaa
/- An argument that is a slice of bytes. -/
namespace Go.Proofs.Ytkaikckehkcfhaa
open Go.RowKit

theorem list_of {α : Type} {p : Nat → α → Prop} : ∀ n : Nat, (∀ i, i < n → ∃ x, p i x) → ∃ l : List α, l.length = n ∧ ∀ i, (h : i < l.length) → p i l[i]
  | 0, _ => ⟨[], rfl, fun i h => by simp at h⟩
  | n + 1, h => by
    obtain ⟨l, hl, hp⟩ := list_of n fun i hi => h i (by omega)
    obtain ⟨x, hx⟩ := h n (by omega)
    refine ⟨l ++ [x], by simp [hl], fun i hi => ?_⟩
    by_cases hc : i < l.length
    · rw [List.getElem_append_left hc]; exact hp i hc
    · have : i = n := by simp at hi; omega
      subst this
      rw [List.getElem_append_right (by omega)]
      simpa [hl] using hx

theorem Rd.bytes {P : Program} {w : World} {t e : TypeId} {v : Value} (ht : P.underlying t = some (.slice e)) (he : P.underlying e = some (.int .u8)) (hs : P.cellsOf e = 1) (h : Rd P w t [v]) :
    ∃ bs, BytesAt (fun b _ => b < w.heap.size) w v bs ∧ bs.length ≤ maxLen := by
  obtain ⟨a, len, cap, hv, hl, hm, hn, hc⟩ := h.slice ht hs
  obtain rfl : v = .slice a len cap := by simpa using hv
  obtain ⟨bs, hbl, hb⟩ := list_of (p := fun i (x : UInt8) => ∃ ad, a = some ad ∧ w.cell? (ad.add i) = some (byteV x)) len fun i hi => by
    obtain ⟨ad, cs', ha, _, hj, hr⟩ := hc i hi
    obtain ⟨n, rfl, hw⟩ := hr.int he
    obtain ⟨h0, h1⟩ := bounds_u8 hw
    refine ⟨UInt8.ofNat n.toNat, ad, ha, ?_⟩
    have e1 := hj 0 (by omega)
    rw [Nat.mul_one, Nat.add_zero] at e1
    rw [e1, byteV, UInt8.toNat_ofNat']
    show some (Value.int .u8 n) = _
    congr 2
    omega
  refine ⟨bs, ⟨a, cap, by rw [hbl], by omega, hn, ?_⟩, by omega⟩
  by_cases h0 : bs = []
  · exact .inl h0
  · have hp : 0 < bs.length := List.length_pos_iff.2 h0
    obtain ⟨ad, ha, e0⟩ := hb 0 hp
    obtain ⟨b, off, rfl⟩ := spot_of e0
    have hlt := cell_lt e0
    have hlt' : b < w.heap.size := by simpa [add_at] using hlt
    refine .inr ⟨b, off, w.heap[b], ha, Array.getElem?_eq_getElem hlt', hlt', fun i hi => ?_⟩
    obtain ⟨ad', ha', e1⟩ := hb i hi
    rw [ha] at ha'
    cases ha'
    rw [add_at] at e1
    exact e1

end Go.Proofs.Ytkaikckehkcfhaa
/- The walk of SessionApart. -/
namespace Go.Proofs.Ytkaikckehkcfhaa
open Go.RowKit

theorem find_app (M : MT) (n c s : Int) (r : List UInt8) (h : n ≠ c) : findM (M ++ [(n, s, r)]) c = findM M c := by
  simp [findM, List.find?_append, h]
theorem find_open (M : MT) (n c : Int) (h : n ≠ c) : findM (openM M n).2 c = findM M c := by
  unfold openM
  split
  · rfl
  · split
    · rfl
    · split
      · rfl
      · exact find_app M n c 0 [] h
theorem find_set (n c s : Int) (bs : List UInt8) (h : n ≠ c) : ∀ M : MT, findM (setM M n s bs) c = findM M c
  | [] => rfl
  | x :: M => by
    have ih := find_set n c s bs h M
    simp only [findM, setM, List.map_cons, List.find?_cons] at ih ⊢
    by_cases hx : x.1 = n
    · have : ¬ x.1 = c := fun e => h (hx.symm.trans e)
      simp only [hx, ↓reduceIte, h, decide_false]
      exact ih
    · simp only [hx, ↓reduceIte]
      split
      · rfl
      · exact ih
theorem find_done (M : MT) (n c s : Int) (bs : List UInt8) (h : n ≠ c) : findM (doneM M n s bs).2 c = findM M c := by
  unfold doneM
  split
  · rfl
  · split
    · exact find_set n c s bs h M
    · rfl
theorem find_filter (n c : Int) (h : n ≠ c) : ∀ M : MT, findM (M.filter fun x => !decide (x.1 = n)) c = findM M c
  | [] => rfl
  | x :: M => by
    have ih := find_filter n c h M
    simp only [findM, List.filter_cons, List.find?_cons] at ih ⊢
    by_cases hx : x.1 = n
    · have : ¬ x.1 = c := fun e => h (hx.symm.trans e)
      simp only [hx, decide_true, Bool.not_true, Bool.false_eq_true, ↓reduceIte, h, decide_false]
      exact ih
    · simp only [hx, decide_false, Bool.not_false, ↓reduceIte, List.find?_cons]
      split
      · rfl
      · exact ih
theorem find_close (M : MT) (n c : Int) (h : n ≠ c) : findM (closeM M n).2 c = findM M c := by
  unfold closeM
  split
  · exact find_filter n c h M
  · rfl

theorem ask_found {M : MT} {c d : Int} (hf : findM M c = some (c, d, rep d)) (h : 0 < d) : askM M c d = (rep d, true, 0) := by simp [askM, hf, h]
theorem ask_next {M : MT} {c d : Int} (hf : findM M c = some (c, d, rep d)) : askM M c (d + 1) = ([], false, 0) := by
  simp only [askM, hf]
  rw [if_neg (by omega), askCode, if_neg (by omega), if_neg (by omega)]

/-- What the walk reads of the i-th call. -/
def OpAt (w : World) (b off i : Nat) (x y z : Int) (v : Value) (bs : List UInt8) : Prop :=
  w.cell? ⟨b, off + i * 4, none⟩ = some (.int .i64 x) ∧ w.cell? ⟨b, off + i * 4 + 1, none⟩ = some (.int .i64 y) ∧ w.cell? ⟨b, off + i * 4 + 2, none⟩ = some (.int .u32 z) ∧ w.cell? ⟨b, off + i * 4 + 3, none⟩ = some v ∧
    0 ≤ z ∧ z < 4294967296 ∧ BytesAt (fun b _ => b < w.heap.size) w v bs
set_option maxRecDepth 100000 in
theorem ops_at {w : World} {a : Option Addr} {len cap : Nat} (h : Rd Try.prog w 36 [.slice a len cap]) (hl : 0 < len) :
    ∃ b off, a = some ⟨b, off, none⟩ ∧ ∀ i, i < len → ∃ x y z v bs, OpAt w b off i x y z v bs := by
  obtain ⟨a', len', cap', hv, _, _, _, hc⟩ := h.slice (sz := 4) Try.underlying36 (by kernel_rfl)
  obtain ⟨rfl, rfl, rfl⟩ : a = a' ∧ len = len' ∧ cap = cap' := by simpa using hv
  have key : ∀ i, i < len → ∃ ad x y z v bs, a = some ad ∧ w.cell? (ad.add (i * 4)) = some (.int .i64 x) ∧ w.cell? (ad.add (i * 4 + 1)) = some (.int .i64 y) ∧ w.cell? (ad.add (i * 4 + 2)) = some (.int .u32 z) ∧ w.cell? (ad.add (i * 4 + 3)) = some v ∧ 0 ≤ z ∧ z < 4294967296 ∧ BytesAt (fun b _ => b < w.heap.size) w v bs := by
    intro i hi
    obtain ⟨ad, cs, ha, hcl, hat, hr⟩ := hc i hi
    obtain ⟨_, hf⟩ := hr.struct (sz := 4) Try.underlying38 (by kernel_rfl)
    obtain ⟨c0, c1, c2, c3, rfl⟩ := list4 hcl
    obtain ⟨x, hx, _⟩ := (show Rd Try.prog w 3 [c0] from hf 0 _ rfl).int Try.underlying3
    obtain ⟨y, hy, _⟩ := (show Rd Try.prog w 3 [c1] from hf 1 _ rfl).int Try.underlying3
    obtain ⟨z, hz, hzw⟩ := (show Rd Try.prog w 30 [c2] from hf 2 _ rfl).int Try.underlying30
    obtain ⟨bs, hb, _⟩ := (show Rd Try.prog w 31 [c3] from hf 3 _ rfl).bytes Try.underlying31 Try.underlying5 (by kernel_rfl)
    obtain ⟨z0, z1⟩ := bounds_u32 hzw
    have hx' : c0 = .int .i64 x := by injection hx
    have hy' : c1 = .int .i64 y := by injection hy
    have hz' : c2 = .int .u32 z := by injection hz
    subst hx' hy' hz'
    exact ⟨ad, x, y, z, c3, bs, ha, hat 0 (by omega), hat 1 (by omega), hat 2 (by omega), hat 3 (by omega), z0, by omega, hb⟩
  obtain ⟨ad, x, y, z, v, bs, ha, e0, _⟩ := key 0 hl
  rw [Nat.zero_mul] at e0
  obtain ⟨b, off, rfl⟩ := spot_of e0
  refine ⟨b, off, ha, fun i hi => ?_⟩
  obtain ⟨ad', x, y, z, v, bs, ha', e0, e1, e2, e3, h4⟩ := key i hi
  rw [ha] at ha'
  cases ha'
  simp only [add_at] at e0 e1 e2 e3
  exact ⟨x, y, z, v, bs, e0, e1, e2, e3, h4⟩


set_option maxRecDepth 100000 in
set_option maxHeartbeats 1000000 in
theorem apart_short (a : Option Addr) (len cap : Nat) (c d : Int) (w : World) (h : c < 0 ∨ 15 < c ∨ 80 < len ∨ d < 1 ∨ 20 < d) :
    Calls Try.prog 4 #[.slice a len cap, .int .i64 c, .int .i64 d] w fun e w' => e = .returned (.bool true) ∧ Below w.heap.size w w' := by
  go_enter Try.func4, Try.ntmps4
  go_wp2_with fail
  (with_reducible refine (awake_calls _).mono ?_)
  rintro e w1 ⟨rfl, f1⟩
  have F1 := Lib.hid f1
  clear f1
  go_wp2_with fail
  have hB : w.heap.size ≤ w1.heap.size := F1.out.size
  by_cases hc : c < 0 ∨ 15 < c
  · (with_reducible refine (open_calls _ w.heap.size w1.heap.size [] c (TabM.new w1 _ hB) (by simp; omega) 31 [] (open_out hc)).mono ?_)
    rintro e w2 ⟨rfl, t2, f2⟩
    have F2 := Lib.hid ((F1.out.alloc _).kt f2)
    clear t2 f2 h
    rcases hc with hc | hc
    · go_wp2
      go_ret
      exact ⟨rfl, F2.out.below (Nat.le_refl _)⟩
    · go_wp2
      go_ret
      exact ⟨rfl, F2.out.below (Nat.le_refl _)⟩
  · have h0 : 0 ≤ c := by omega
    have h1 : c ≤ 15 := by omega
    have h' : (80 : Int) < len ∨ d < 1 ∨ 20 < d := by omega
    (with_reducible refine (open_calls _ w.heap.size w1.heap.size [] c (TabM.new w1 _ hB) (by simp; omega) 0 _ (open_in h0 h1)).mono ?_)
    rintro e w2 ⟨rfl, t2, f2⟩
    have F2 := Lib.hid ((F1.out.alloc _).kt f2)
    clear t2 f2 h hc
    rcases h' with h | h | h
    · go_wp2
      go_ret
      exact ⟨rfl, F2.out.below (Nat.le_refl _)⟩
    · by_cases hl : (80 : Int) < len
      · go_wp2
        go_ret
        exact ⟨rfl, F2.out.below (Nat.le_refl _)⟩
      · go_wp2
        go_ret
        exact ⟨rfl, F2.out.below (Nat.le_refl _)⟩
    · by_cases hl : (80 : Int) < len
      · go_wp2
        go_ret
        exact ⟨rfl, F2.out.below (Nat.le_refl _)⟩
      · by_cases hl' : d < 1
        · omega
        · go_wp2
          go_ret
          exact ⟨rfl, F2.out.below (Nat.le_refl _)⟩

set_option maxRecDepth 100000 in
set_option maxHeartbeats 1000000 in
theorem apart_main (a : Option Addr) (len cap : Nat) (c d : Int) (w : World) (h : Rd Try.prog w 36 [.slice a len cap]) (h0 : 0 ≤ c) (h1 : c ≤ 15) (h2 : (len : Int) ≤ 80) (h3 : 1 ≤ d) (h4 : d ≤ 20) :
    Calls Try.prog 4 #[.slice a len cap, .int .i64 c, .int .i64 d] w fun e w' => e = .returned (.bool true) ∧ Below w.heap.size w w' := by
  have HR := Lib.hid h
  clear h
  go_enter Try.func4, Try.ntmps4
  go_wp2_with fail
  (with_reducible refine (awake_calls _).mono ?_)
  rintro e w1 ⟨rfl, f1⟩
  have F1 := Lib.hid f1
  clear f1
  go_wp2_with fail
  have hB : w.heap.size ≤ w1.heap.size := F1.out.size
  (with_reducible refine (open_calls _ w.heap.size w1.heap.size [] c (TabM.new w1 _ hB) (by simp; omega) 0 _ (open_in h0 h1)).mono ?_)
  rintro e w2 ⟨rfl, t2, f2⟩
  have F2 := Lib.hid ((F1.out.alloc _).kt f2)
  have T2 := Lib.hid t2
  clear t2 f2 F1 hB
  go_wp2
  go_loopw [10] (fun i wr => ∃ (k : Int), 0 ≤ k ∧ k ≤ d ∧ i = .int .i64 (k + 1) ∧ TabM wr w.heap.size w1.heap.size [(c, k, rep k)] ∧ Fr (fun b _ => b < w.heap.size) w wr) (fun i _ => (d + 1 - intOf i).toNat)
  case atStart => exact ⟨0, by omega, by omega, rfl, T2.out, F2.out⟩
  case round =>
    obtain ⟨k, hk0, hk, rfl, ht, hf⟩ := hrel
    have T := Lib.hid ht
    have F := Lib.hid hf
    clear ht hf T2 F2
    by_cases hlt : k < d
    · go_wp2_with fail
      have er : rep (k + 1) = [UInt8.ofNat (k + 1).toNat] := by rw [rep, if_neg (by omega)]
      have hD := done_next (c := c) (rep k) hk0 [UInt8.ofNat (k + 1).toNat] (by simp)
      (with_reducible refine (done_calls _ _ _ _ c (k + 1) _ [UInt8.ofNat (k + 1).toNat] (T.out.fr ((Fr.refl _ _).alloc _)) (by omega) (by omega) (BytesAt.lit1 wr _ (k + 1) (by rw [UInt8.toNat_ofNat']; omega)) 0 _ hD).mono ?_)
      rintro e w4 ⟨rfl, t4, f4⟩
      rw [← er] at t4
      have F4 := Lib.hid ((F.out.alloc _).kt f4)
      have T4 := Lib.hid t4
      clear t4 f4 er hD
      go_wp2
      go_roundw
      case rel => exact ⟨k + 1, by omega, by omega, rfl, T4.out, F4.out⟩
      case measure => simp [intOf]; omega
    · have hkd : k = d := by omega
      subst hkd
      clear hlt
      go_wp2
      go_loopw [11] (fun i wr => ∃ (j : Nat) (M : MT), j ≤ len ∧ i = .int .i64 j ∧ findM M c = some (c, k, rep k) ∧ TabM wr w.heap.size w1.heap.size M ∧ Fr (fun b _ => b < w.heap.size) w wr) (fun i _ => len - (intOf i).toNat)
      case atStart => exact ⟨0, [(c, k, rep k)], Nat.zero_le _, rfl, find_one c k _, T.out, F.out⟩
      case round =>
        obtain ⟨j, M, hj, rfl, hfind, ht, hf⟩ := hrel
        clear T F
        have T := Lib.hid ht
        have F := Lib.hid hf
        have FM := Lib.hid hfind
        clear ht hf hfind
        by_cases hlt : j < len
        · obtain ⟨b, off, rfl, hops⟩ := ops_at HR.out (by omega)
          obtain ⟨x, y, z, v, bs, e0, e1, e2, e3, hz0, hz1, hbs⟩ := hops j hlt
          have BS := Lib.hid (hbs.fr F.out)
          have g0 := F.out.old e0
          have g1 := F.out.old e1
          have g2 := F.out.old e2
          have g3 := F.out.old e3
          clear hops e0 e1 e2 e3 hbs
          by_cases hy : y = c
          · subst hy
            go_wp2
            go_roundw
            case rel => exact ⟨j + 1, M, by omega, by go_num, FM.out, T.out, F.out⟩
            case measure => simp [intOf]; omega
          · have hyc : (y == c) = false := by simp [hy]
            have HY := Lib.hid hy
            clear hy
            by_cases hx1 : x = 1
            · subst hx1
              go_wp2_with fail
              (with_reducible refine (open_calls _ w.heap.size w1.heap.size M y T.out (F.out.size) _ _ rfl).mono ?_)
              rintro e w3 ⟨rfl, t3, f3⟩
              have F3 := Lib.hid (F.out.kt f3)
              have T3 := Lib.hid t3
              clear t3 f3 g0 g1 g2 g3
              go_wp2
              go_roundw
              case rel => exact ⟨j + 1, _, by omega, by go_num, (find_open M y c HY.out).trans FM.out, T3.out, F3.out⟩
              case measure => simp [intOf]; omega
            · have hx1' : (x == 1) = false := by simp [hx1]
              by_cases hx2 : x = 2
              · subst hx2
                clear hx1 hx1'
                go_wp2_with fail
                (with_reducible refine (close_calls _ w.heap.size w1.heap.size M y T.out _ _ rfl).mono ?_)
                rintro e w3 ⟨rfl, t3, f3⟩
                have F3 := Lib.hid (F.out.kt f3)
                have T3 := Lib.hid t3
                clear t3 f3 g0 g1 g2 g3
                go_wp2
                go_roundw
                case rel => exact ⟨j + 1, _, by omega, by go_num, (find_close M y c HY.out).trans FM.out, T3.out, F3.out⟩
                case measure => simp [intOf]; omega
              · have hx2' : (x == 2) = false := by simp [hx2]
                by_cases hx4 : x = 4
                · subst hx4
                  clear hx1 hx1' hx2 hx2'
                  obtain ⟨a', cap', rfl⟩ := BS.out.form
                  go_wp2_with fail
                  go_still_tail 16, (by kernel_rfl)
                  go_wp2_with fail
                  (with_reducible refine (done_calls _ w.heap.size w1.heap.size M y z _ bs (T.out.fr (Fr.refl _ _).drew) hz0 hz1 (BS.out.tt (Fr.refl _ _).drew) _ _ rfl).mono ?_)
                  rintro e w3 ⟨rfl, t3, f3⟩
                  have F3 := Lib.hid (F.out.drew.kt f3)
                  have T3 := Lib.hid t3
                  clear t3 f3 g0 g1 g2 g3
                  go_wp2
                  go_roundw
                  case rel => exact ⟨j + 1, _, by omega, by go_num, (find_done M y c z bs HY.out).trans FM.out, T3.out, F3.out⟩
                  case measure => simp [intOf]; omega
                · have hx4' : (x == 4) = false := by simp [hx4]
                  clear hx1 hx2 hx4
                  go_wp2
                  go_roundw
                  case rel => exact ⟨j + 1, M, by omega, by go_num, FM.out, T.out, F.out⟩
                  case measure => simp [intOf]; omega
        · have hn := ask_next FM.out
          have ha := ask_found FM.out (by omega)
          go_wp2_with fail
          (with_reducible refine (ask_calls _ _ _ _ c k T.out hk0 (by omega) _ true 0 ha).mono ?_)
          rintro e w3 ⟨a3, c3, rfl, b3, t3, f3⟩
          have F3 := Lib.hid (F.out.tt f3)
          have T3 := Lib.hid t3
          have e1 := rep_len (d := k) (by omega)
          rw [e1] at b3 ⊢
          have B3 := Lib.hid b3
          clear t3 f3 b3 e1 ha T F
          go_wp2_with fail
          (with_reducible refine (ask_calls _ _ _ _ c (k + 1) T3.out (by omega) (by omega) _ false 0 hn).mono ?_)
          rintro e w4 ⟨a4, c4, rfl, b4, t4, f4⟩
          have F4 := Lib.hid (F3.out.tt f4)
          have B4 := Lib.hid (B3.out.tt f4)
          clear t4 f4 b4 hn
          go_wp2_with fail
          have er : rep k = [UInt8.ofNat k.toNat] := by rw [rep, if_neg (by omega)]
          (with_reducible refine (same_calls _ _ _ (rep k) [UInt8.ofNat k.toNat] (B4.out.tt ((Fr.refl _ _).alloc _)) (BytesAt.lit1 w4 _ k (by rw [UInt8.toNat_ofNat']; omega)) (by have := rep_short k; omega)).mono ?_)
          rintro e w5 ⟨rfl, n5, rfl⟩
          rw [show decide (rep k = [UInt8.ofNat k.toNat]) = true from decide_eq_true er]
          clear er
          go_wp2
          go_ret
          exact ⟨rfl, ((F4.out.alloc _).drewN n5).below (Nat.le_refl _)⟩
theorem apart_walk (a : Option Addr) (len cap : Nat) (c d : Int) (w : World) (h : Rd Try.prog w 36 [.slice a len cap]) :
    Calls Try.prog 4 #[.slice a len cap, .int .i64 c, .int .i64 d] w fun e w' => e = .returned (.bool true) ∧ Below w.heap.size w w' := by
  by_cases hc : c < 0 ∨ 15 < c ∨ 80 < len ∨ d < 1 ∨ 20 < d
  · exact apart_short a len cap c d w hc
  · exact apart_main a len cap c d w h (by omega) (by omega) (by omega) (by omega) (by omega)

end Go.Proofs.Ytkaikckehkcfhaa
