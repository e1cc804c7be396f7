/- Texts of the proofs, part 29: what the functions that they reach do, walked; no conditions beyond those that each states. -/
import Derived.Test.YtlolfcnfcgegdaaGreatZz518d373cda
set_option linter.unusedVariables false
set_option linter.unusedSimpArgs false
/- The locks: what is packed is unpacked. -/
namespace Go.Proofs.YtlolfcnfcgegdaaGreat
open Go.RowKit
set_option linter.unusedVariables false
set_option linter.unusedSimpArgs false

theorem seen_nodup {l : List Int} (h : l.Nodup) {j : Nat} (hj : j < l.length) : hasI (l.take j) l[j] = false := hasI_false.2 fun q => by
  obtain ⟨i, hi, e⟩ := List.mem_take_iff_getElem.1 q
  have := List.pairwise_iff_getElem.1 h i j (by omega) hj (by omega)
  exact this e
theorem check_of {r : Rgn} (h : r.ok) (he : exR r.hs) : checkM r = true := by
  have hn : (r.hs.map cI ++ r.ws.map cW).Nodup := by
    have em : r.hs.map cI ++ r.ws.map cW = (r.hs.map (·.c) ++ r.ws.map (·.c)).map fun n => ((n : Nat) : Int) := by
      rw [List.map_append, List.map_map, List.map_map]; rfl
    rw [em]
    exact List.Pairwise.map _ (fun a b h e => h (by have e2 : ((a : Nat) : Int) = ((b : Nat) : Int) := e; omega)) h.nd
  have hl : (r.hs.map cI ++ r.ws.map cW).length = r.hs.length + r.ws.length := by simp
  refine check_yes h.h4 h.w4 (fun j hj => ?_) fun j hj => ?_
  · have h1 := h.hc _ (List.getElem_mem hj)
    have e : (r.hs.map cI ++ r.ws.map cW)[j]'(by omega) = cI r.hs[j] := by rw [List.getElem_append_left (by simpa using hj)]; simp
    have h2 := seen_nodup hn (j := j) (by omega)
    rw [e, List.take_append_of_le_length (by simp; omega), ← List.map_take] at h2
    unfold okH
    rw [getD_at hj, h2, decide_eq_true h1.1, decide_eq_true h1.2.1]
    by_cases q : 1 < r.hs.length
    · rw [decide_eq_false (he q _ (List.getElem_mem hj))]; simp
    · rw [decide_eq_false q]; simp
  · have h1 := h.wc _ (List.getElem_mem hj)
    have e : (r.hs.map cI ++ r.ws.map cW)[r.hs.length + j]'(by omega) = cW r.ws[j] := by rw [List.getElem_append_right (by simp)]; simp
    have e2 : (r.hs.map cI ++ r.ws.map cW).take (r.hs.length + j) = r.hs.map cI ++ (r.ws.take j).map cW := by
      rw [List.take_append, List.take_of_length_le (by simp), List.length_map, List.map_take]
      congr 2
      omega
    have h2 := seen_nodup hn (j := r.hs.length + j) (by omega)
    rw [e, e2] at h2
    unfold okW
    rw [getD_at hj, h2, decide_eq_true h1.1, decide_eq_true h1.2]
    rfl
theorem rgU_pack {R : Rgn} {rest : List UInt8} {tk : List Int} {L : Lk} (r : Nat) (h : R.ok) (he : exR R.hs) (ht : ∀ x ∈ R.hs, 0 < x.t ∧ x.t ≤ L.last) (hn : (tk ++ R.hs.map fun h => tI h.t).Nodup) :
    rgU ⟨(rgB R ++ rest, false), true, tk, L⟩ r = ⟨(rest, false), true, tk ++ R.hs.map (fun h => tI h.t), L.put r R⟩ := by
  obtain ⟨hs, ws⟩ := R
  have h4 := h.h4
  have w4 := h.w4
  dsimp only at h4 w4 he ht hn
  have e1 : rgH ⟨(rgB ⟨hs, ws⟩ ++ rest, false), true, tk, L⟩ = ⟨(le ws.length 1 ++ (ws.flatMap waB ++ rest), false), true, tk ++ hs.map (fun h => tI h.t), hs⟩ := by
    unfold rgH rgB
    simp only [List.append_assoc]
    rw [num2_le (by omega)]
    dsimp only
    rw [hsU_pack L.last _ hs tk [] (fun x hx => by
      have a := h.hc x hx
      have b := ht x hx
      exact ⟨by omega, by rcases a.2.1 with q | q <;> omega, a.2.2.1, a.2.2.2, b.1, b.2⟩) hn]
    rfl
  have e2 : rgW ⟨(rgB ⟨hs, ws⟩ ++ rest, false), true, tk, L⟩ = ((rest, false), ws) := by
    unfold rgW
    rw [e1]
    dsimp only
    rw [num2_le (by omega)]
    dsimp only
    rw [wsU_pack rest ws [] fun x hx => by
      have a := h.wc x hx
      exact ⟨by omega, by rcases a.2 with q | q <;> omega⟩]
    rfl
  unfold rgU
  rw [e1, e2]
  dsimp only
  rw [check_of h he]
  rfl
theorem lk_pack {L : Lk} (h : L.ok) (h2 : L.ok2) : lkU (lkB L) = (0, L) := by
  obtain ⟨now, last, rs⟩ := L
  obtain ⟨r0, r1, r2, r3, rfl⟩ := list4 h.four
  have hn := topM_eq ▸ h.now
  have hl := topM_eq ▸ h.last
  dsimp only at hn hl
  have o := h.rs
  have x := h2.ex
  have p := h2.pos
  have d := h2.nd
  dsimp only at o x p d
  have g0 : (⟨now, last, [r0, r1, r2, r3]⟩ : Lk).rg 0 = r0 := rfl
  have g1 : (⟨now, last, [r0, r1, r2, r3]⟩ : Lk).rg 1 = r1 := rfl
  have g2 : (⟨now, last, [r0, r1, r2, r3]⟩ : Lk).rg 2 = r2 := rfl
  have g3 : (⟨now, last, [r0, r1, r2, r3]⟩ : Lk).rg 3 = r3 := rfl
  have eb : lkB ⟨now, last, [r0, r1, r2, r3]⟩ = le now 8 ++ (le last 8 ++ (rgB r0 ++ (rgB r1 ++ (rgB r2 ++ (rgB r3 ++ []))))) := by
    show (((((le now 8 ++ le last 8) ++ rgB r0) ++ rgB r1) ++ rgB r2) ++ rgB r3) = _
    simp
  have d' : (((tkR r0 ++ tkR r1) ++ tkR r2) ++ tkR r3).Nodup := by
    have : [r0, r1, r2, r3].flatMap tkR = ((tkR r0 ++ tkR r1) ++ tkR r2) ++ tkR r3 := by simp
    rw [← this]; exact d
  have dI : ∀ l : List Nat, l.Nodup → (l.map tI).Nodup := fun l hl => List.Pairwise.map _ (fun a b h e => h (by unfold tI at e; omega)) hl
  have eT : ∀ r : Rgn, r.hs.map (fun h => tI h.t) = (tkR r).map tI := fun r => by unfold tkR; rw [List.map_map]; rfl
  have pT : ∀ r ∈ [r0, r1, r2, r3], ∀ h ∈ r.hs, 0 < h.t ∧ h.t ≤ last := fun r hr h hh => p h.t (List.mem_flatMap.2 ⟨r, hr, List.mem_map_of_mem (f := fun x : Ho => x.t) hh⟩)
  have u0 : lkU0 (lkB ⟨now, last, [r0, r1, r2, r3]⟩) = ⟨(rgB r0 ++ (rgB r1 ++ (rgB r2 ++ (rgB r3 ++ []))), false), true, [], ⟨now, last, [⟨[], []⟩, ⟨[], []⟩, ⟨[], []⟩, ⟨[], []⟩]⟩⟩ := by
    unfold lkU0
    rw [eb, num2_le (by omega)]
    dsimp only
    rw [num2_le (by omega)]
  have d1 := (List.nodup_append.1 d').1
  have d2 := (List.nodup_append.1 d1).1
  have d3 := (List.nodup_append.1 d2).1
  have s0 : rgsU (lkU0 (lkB ⟨now, last, [r0, r1, r2, r3]⟩)) 1 = ⟨(rgB r1 ++ (rgB r2 ++ (rgB r3 ++ [])), false), true, [] ++ (tkR r0).map tI, ⟨now, last, [r0, ⟨[], []⟩, ⟨[], []⟩, ⟨[], []⟩]⟩⟩ := by
    show rgU (lkU0 _) 0 = _
    rw [u0, rgU_pack 0 (o r0 (by simp)) (x r0 (by simp)) (pT r0 (by simp)) (by rw [List.nil_append, eT]; exact dI _ d3), eT]
    rfl
  have s1 : rgsU (lkU0 (lkB ⟨now, last, [r0, r1, r2, r3]⟩)) 2 = ⟨(rgB r2 ++ (rgB r3 ++ []), false), true, ([] ++ (tkR r0).map tI) ++ (tkR r1).map tI, ⟨now, last, [r0, r1, ⟨[], []⟩, ⟨[], []⟩]⟩⟩ := by
    show rgU (rgsU (lkU0 _) 1) 1 = _
    rw [s0, rgU_pack 1 (o r1 (by simp)) (x r1 (by simp)) (pT r1 (by simp)) (by rw [List.nil_append, eT, ← List.map_append]; exact dI _ d2), eT]
    rfl
  have s2 : rgsU (lkU0 (lkB ⟨now, last, [r0, r1, r2, r3]⟩)) 3 = ⟨(rgB r3 ++ [], false), true, (([] ++ (tkR r0).map tI) ++ (tkR r1).map tI) ++ (tkR r2).map tI, ⟨now, last, [r0, r1, r2, ⟨[], []⟩]⟩⟩ := by
    show rgU (rgsU (lkU0 _) 2) 2 = _
    rw [s1, rgU_pack 2 (o r2 (by simp)) (x r2 (by simp)) (pT r2 (by simp)) (by rw [List.nil_append, eT, ← List.map_append, ← List.map_append]; exact dI _ d1), eT]
    rfl
  have s3 : rgsU (lkU0 (lkB ⟨now, last, [r0, r1, r2, r3]⟩)) 4 = ⟨([], false), true, ((([] ++ (tkR r0).map tI) ++ (tkR r1).map tI) ++ (tkR r2).map tI) ++ (tkR r3).map tI, ⟨now, last, [r0, r1, r2, r3]⟩⟩ := by
    show rgU (rgsU (lkU0 _) 3) 3 = _
    rw [s2, rgU_pack 3 (o r3 (by simp)) (x r3 (by simp)) (pT r3 (by simp)) (by rw [List.nil_append, eT, ← List.map_append, ← List.map_append, ← List.map_append]; exact dI _ d'), eT]
    rfl
  unfold lkU
  rw [s3]
  rfl
end Go.Proofs.YtlolfcnfcgegdaaGreat
/- The sessions' table out of bytes: plainly; a store into a map by its entry. -/
namespace Go.Proofs.YtlolfcnfcgegdaaGreat
open Go.RowKit
set_option linter.unusedVariables false
set_option linter.unusedSimpArgs false

/-- What is known while bytes are read as a table. -/
structure US where
  bs : List UInt8
  sh : Bool
  last : Int
  wrong : Bool
  L : MT
def uC (s : US) : Nat := (numR s.bs s.sh 1).1
def uS (s : US) : Nat := (numR (numR s.bs s.sh 1).2.1 (numR s.bs s.sh 1).2.2 4).1
def uB (s : US) : List UInt8 × List UInt8 × Bool := bytR (numR (numR s.bs s.sh 1).2.1 (numR s.bs s.sh 1).2.2 4).2.1 (numR (numR s.bs s.sh 1).2.1 (numR s.bs s.sh 1).2.2 4).2.2
def uStep (s : US) : US := ⟨(uB s).2.1, (uB s).2.2, uC s, s.wrong || (decide ((uC s : Int) ≤ s.last) || (decide (16 ≤ uC s) || decide (9 < (uB s).1.length))), s.L ++ [((uC s : Int), (uS s : Int), (uB s).1)]⟩
def uRun (s : US) : Nat → US
  | 0 => s
  | k + 1 => uStep (uRun s k)
def uFirst (bs : List UInt8) : US := ⟨(numR bs false 1).2.1, (numR bs false 1).2.2, -1, false, []⟩
def uEnd (bs : List UInt8) : US := uRun (uFirst bs) (numR bs false 1).1
/-- Why there is no table, or 0; the table. -/
def unpM (bs : List UInt8) : Int × MT :=
  if endL (uEnd bs).bs (uEnd bs).sh = 0 ∧ ((uEnd bs).wrong = true ∨ 6 < (numR bs false 1).1) then (1, []) else if endL (uEnd bs).bs (uEnd bs).sh = 0 then (0, (uEnd bs).L) else (endL (uEnd bs).bs (uEnd bs).sh, [])
theorem uStep_len (s : US) : (uStep s).bs.length ≤ s.bs.length := by
  have h1 := numR_len s.bs s.sh 1
  have h2 := numR_len (numR s.bs s.sh 1).2.1 (numR s.bs s.sh 1).2.2 4
  have h3 := (bytR_len (numR (numR s.bs s.sh 1).2.1 (numR s.bs s.sh 1).2.2 4).2.1 (numR (numR s.bs s.sh 1).2.1 (numR s.bs s.sh 1).2.2 4).2.2).1
  unfold uStep uB
  simp only
  omega
theorem uRun_len (s : US) : ∀ k, (uRun s k).bs.length ≤ s.bs.length
  | 0 => Nat.le_refl _
  | k + 1 => Nat.le_trans (uStep_len _) (uRun_len s k)
theorem uC_lt (s : US) : uC s < 256 := by have := numR_lt s.bs s.sh 1; unfold uC; omega
theorem uS_lt (s : US) : uS s < 4294967296 := by have := numR_lt (numR s.bs s.sh 1).2.1 (numR s.bs s.sh 1).2.2 4; unfold uS; omega

/-- The stamps of a map's entries. -/
def Borns (l : List (Int × Value × Nat)) (c : Nat) : Prop := (l.map (·.2.2)).Nodup ∧ ∀ x ∈ l, x.2.2 < c
theorem look_none {l : List (Int × Value × Nat)} {n : Int} : look l n = none ↔ ∀ x ∈ l, x.1 ≠ n := by
  induction l with
  | nil => simp [look]
  | cons x r ih =>
    by_cases h : x.1 = n
    · simp [look, h]
    · simp [look, h, ih]
theorem findIdx_born (q : IntKind) : ∀ (l : List (Int × Value × Nat)) (i : Nat) (x : Int × Value × Nat), (l.map (·.2.2)).Nodup → l[i]? = some x → (entriesOf q l).findIdx? (fun e => (e.born : Int) == (x.2.2 : Int)) = some i := by
  intro l i x hn hi
  obtain ⟨hlt, e⟩ := List.getElem?_eq_some_iff.1 hi
  rw [Array.findIdx?_eq_some_iff_getElem]
  have hsz : i < (entriesOf q l).size := by rw [entriesOf_size]; exact hlt
  have hg : ∀ j (hj : j < (entriesOf q l).size), ((entriesOf q l)[j]).born = (l[j]'(by rw [entriesOf_size] at hj; exact hj)).2.2 := fun j hj => by simp [entriesOf]
  refine ⟨hsz, by rw [hg, e]; simp, fun j hj => ?_⟩
  have hj2 : j < l.length := by omega
  rw [hg j (by rw [entriesOf_size]; omega)]
  have := List.pairwise_iff_getElem.1 (List.pairwise_map.1 hn) j i hj2 hlt hj
  rw [e] at this
  simp only [Bool.not_eq_true, beq_eq_false_iff_ne]
  omega
theorem spot_get {l : List (Int × Value × Nat)} {n : Int} {v : Value} (h : look l n = some v) : ∃ x, l[spot l n]? = some x ∧ x.1 = n ∧ x.2.1 = v := by
  induction l with
  | nil => cases h
  | cons x r ih =>
    by_cases hx : x.1 = n
    · simp only [look, hx, ↓reduceIte, Option.some.injEq] at h
      exact ⟨x, by simp [spot, hx], hx, h⟩
    · simp only [look, hx, ↓reduceIte] at h
      obtain ⟨y, h1, h2⟩ := ih h
      exact ⟨y, by simp [spot, hx, h1], h2⟩
theorem modify_last {α : Type} (f : α → α) (x : α) : ∀ l : List α, (l ++ [x]).modify l.length f = l ++ [f x]
  | [] => rfl
  | y :: l => by simp [List.modify_succ_cons, modify_last f x l]
theorem entries_key (q : IntKind) (n : Int) : ∀ (l : List (Int × Value × Nat)), (look l n).isSome = true → ((entriesOf q l).modify (spot l n) fun e => { e with key := .int q n }) = entriesOf q l := by
  intro l h
  apply Array.toList_inj.1
  rw [Array.toList_modify]
  induction l with
  | nil => simp [look] at h
  | cons x r ih =>
    rw [entriesOf_cons]
    by_cases hx : x.1 = n
    · simp [spot, hx]
    · simp only [look, hx, ↓reduceIte] at h
      simp only [spot, hx, ↓reduceIte, List.modify_succ_cons]
      rw [ih h]
theorem entries_val (q : IntKind) (n : Int) (v : Value) (c : Nat) : ∀ (l : List (Int × Value × Nat)), (look l n).isSome = true → ((entriesOf q l).modify (spot l n) fun e => { e with val := v }) = entriesOf q (lay l n v c) := by
  intro l h
  apply Array.toList_inj.1
  rw [Array.toList_modify]
  induction l with
  | nil => simp [look] at h
  | cons x r ih =>
    rw [entriesOf_cons]
    by_cases hx : x.1 = n
    · simp [spot, lay, hx, entriesOf]
    · simp only [look, hx, ↓reduceIte] at h
      simp only [spot, lay, hx, ↓reduceIte, List.modify_succ_cons]
      rw [ih h, entriesOf_cons]
theorem lay_born (n : Int) (v : Value) (c : Nat) : ∀ (l : List (Int × Value × Nat)), (look l n).isSome = true → (lay l n v c).map (·.2.2) = l.map (·.2.2)
  | [], h => by simp [look] at h
  | x :: r, h => by
    by_cases hx : x.1 = n
    · simp [lay, hx]
    · simp only [look, hx, ↓reduceIte] at h
      simp [lay, hx, lay_born n v c r h]
theorem run_setObj_put {P : Program} {W : World} {bm : Nat} {es : Array MapEntry} {c : Nat} (h : W.heap[bm]? = some (.map es c)) (o : Obj) : (setObj bm o).run P W = .ok () (W.putObj bm o) := by simp [setObj, Sem.run, h, World.putObj]
theorem run_asInt {P : Program} (b : Int) (w : World) : (asInt (.int .i64 b)).run P w = .ok b w := by simp [asInt, asIntOf]
section
variable {P : Program} {t k e : TypeId} {q : IntKind} (ht : P.underlying t = some (.map k e)) (hk : P.underlying k = some (.int q))
include ht hk in
/-- 'm[n] = v', as the entry first and the store behind it. -/
theorem map_store (w : World) (bm : Nat) (n : Int) (v z : Value) (l : List (Int × Value × Nat)) (c : Nat) (hb : w.heap[bm]? = some (.map (entriesOf q l) c)) (hB : Borns l c) (hz : ∀ w : World, (zeroValue e).run P w = .ok z w) :
    ∃ (y : Value) (b : Nat) (l1 l2 : List (Int × Value × Nat)) (c1 : Nat), (Instr.mapEntry t (.map (some bm)) (.int q n)).run P w = .ok (.tuple #[y, .int .i64 (b : Nat)]) (w.putObj bm (.map (entriesOf q l1) c1)) ∧
      (Instr.entryStore t (.map (some bm)) (.int .i64 (b : Nat)) v).run P (w.putObj bm (.map (entriesOf q l1) c1)) = .ok () ((w.putObj bm (.map (entriesOf q l1) c1)).putObj bm (.map (entriesOf q l2) c1)) ∧ Borns l2 c1 ∧ (look l n = none → l2 = l ++ [(n, v, c)] ∧ c1 = c + 1) := by
  cases hl : look l n with
  | none =>
    refine ⟨z, c, l ++ [(n, z, c)], l ++ [(n, v, c)], c + 1, ?_, ?_, ?_, fun _ => ⟨rfl, rfl⟩⟩
    · have e1 := entries_lay_new q n z c l hl
      rw [lay_new n z c l hl] at e1
      unfold Instr.mapEntry
      simp [run_underlying ht, run_getObj_map w bm _ c hb, run_checkKey_int hk, run_findKey_int hk, hl, hz, setObj, Sem.run, hb, World.putObj, e1, goInt]
    · have hp : (w.putObj bm (.map (entriesOf q (l ++ [(n, z, c)])) (c + 1))).heap[bm]? = some (.map (entriesOf q (l ++ [(n, z, c)])) (c + 1)) := heap_putObj_same hb _
      have hn : ((l ++ [(n, z, c)]).map (·.2.2)).Nodup := by
        rw [List.map_append, List.nodup_append]
        refine ⟨hB.1, by simp, fun x hx y hy e => ?_⟩
        obtain ⟨u, hu, rfl⟩ := List.mem_map.1 hx
        have := hB.2 u hu
        simp at hy
        omega
      have hf := findIdx_born q (l ++ [(n, z, c)]) l.length (n, z, c) hn (by simp)
      have hm : (entriesOf q (l ++ [(n, z, c)])).modify l.length (fun e => { e with val := v }) = entriesOf q (l ++ [(n, v, c)]) := by
        apply Array.toList_inj.1
        rw [Array.toList_modify]
        have := modify_last (fun e : MapEntry => { e with val := v }) { key := .int q n, val := z, born := c } (entriesOf q l).toList
        simpa [entriesOf] using this
      unfold Instr.entryStore
      simp only [Sem.run_bind, run_getObj_map _ bm _ _ hp, Result.andThen, run_asInt, hf]
      rw [hm, run_setObj_put hp]
    · constructor
      · rw [List.map_append, List.nodup_append]
        refine ⟨hB.1, by simp, fun x hx y hy e => ?_⟩
        obtain ⟨u, hu, rfl⟩ := List.mem_map.1 hx
        have := hB.2 u hu
        simp at hy
        omega
      · intro x hx
        rcases List.mem_append.1 hx with hx | hx
        · have := hB.2 x hx; omega
        · rw [List.mem_singleton.1 hx]; show c < c + 1; omega
  | some v0 =>
    have hs : (look l n).isSome = true := by rw [hl]; rfl
    obtain ⟨x, hx, hx1, hx2⟩ := spot_get hl
    have hei : (entriesOf q l)[spot l n]? = some { key := .int q x.1, val := x.2.1, born := x.2.2 } := by
      rw [← Array.getElem?_toList]; simp [entriesOf, hx]
    refine ⟨v0, x.2.2, l, lay l n v c, c, ?_, ?_, ?_, fun h => by cases h⟩
    · have h3 : Instr.sameBits 10000 (.int q n) (.int q n) = true := by simp [Instr.sameBits]
      have h4 : ∀ W : World, (Instr.keyThatStays (.int q n) (.int q n)).run P W = .ok (.int q n) W := by
        intro W; unfold Instr.keyThatStays; rw [h3]; rfl
      unfold Instr.mapEntry
      simp only [Sem.run_bind, run_underlying ht, run_getObj_map w bm _ c hb, run_checkKey_int hk, run_findKey_int hk, hl, Result.andThen, Option.map_some, hei, Option.getD_some, hx1, h4]
      simp [setObj, Sem.run, hb, World.putObj, entries_key q n l hs, goInt]
    · have hp : (w.putObj bm (.map (entriesOf q l) c)).heap[bm]? = some (.map (entriesOf q l) c) := heap_putObj_same hb _
      have hf := findIdx_born q l (spot l n) x hB.1 hx
      unfold Instr.entryStore
      simp only [Sem.run_bind, run_getObj_map _ bm _ _ hp, Result.andThen, run_asInt, hf]
      rw [entries_val q n v c l hs, run_setObj_put hp]
    · refine ⟨by rw [lay_born n v c l hs]; exact hB.1, fun y hy => ?_⟩
      have : y.2.2 ∈ (lay l n v c).map (·.2.2) := List.mem_map_of_mem hy
      rw [lay_born n v c l hs] at this
      obtain ⟨u, hu, e⟩ := List.mem_map.1 this
      have := hB.2 u hu
      omega
end
end Go.Proofs.YtlolfcnfcgegdaaGreat
/- The sessions' table out of bytes: the walk. -/
namespace Go.Proofs.YtlolfcnfcgegdaaGreat
open Go.RowKit
set_option linter.unusedVariables false
set_option linter.unusedSimpArgs false

/-- A reader in a world in which other blocks have turned. -/
theorem LR.other {W0 w w' : World} {br : Nat} {bs : List UInt8} {sh : Bool} {K : Nat → Obj → Prop} (h : LR W0 w br bs sh) (hf : Fr K w w') (h1 : ∀ o, K br o) (h2 : ∀ c o, c < W0.heap.size → K c o) : LR W0 w' br bs sh := by
  obtain ⟨v, hv⟩ := h.at'
  refine ⟨h.new, ⟨v, hf.keep _ _ hv.top (h1 _), ?_, hv.off⟩, old_tt h.fr hf h2⟩
  have := (hv.bytes.mono (K' := fun c o => K c o ∧ c < W0.heap.size) fun b o hb hk => ⟨h2 b o hk, hk⟩).fr (hf.mono fun _ _ h => h.1)
  exact this.mono fun _ _ _ h => h.2
theorem BytesAt.notAt {K : Nat → Obj → Prop} {w : World} {v : Value} {bs : List UInt8} {br : Nat} {u : Value} {s : Bool} {fz : Nat × Nat} (h : BytesAt K w v bs) (hbr : w.heap[br]? = some (.cells #[u, .bool s] 146 fz)) (hu : ∃ a n c, u = .slice a n c) : BytesAt (fun b o => K b o ∧ b ≠ br) w v bs := by
  obtain ⟨a, cap, hv, hl, hn, h⟩ := h
  refine ⟨a, cap, hv, hl, hn, ?_⟩
  rcases h with h | ⟨b, off, o, ha, hb, hk, hc⟩
  · exact .inl h
  · by_cases h0 : bs = []
    · exact .inl h0
    · refine .inr ⟨b, off, o, ha, hb, ⟨hk, fun e => ?_⟩, hc⟩
      subst e
      have hp : 0 < bs.length := List.length_pos_iff.2 h0
      have c0 := hc 0 hp
      obtain ⟨ua, un, uc, rfl⟩ := hu
      rw [hbr] at hb
      cases hb
      simp only [World.cell?, hbr] at c0
      have hlt : off + 0 < 2 := by
        rcases Nat.lt_or_ge (off + 0) 2 with q | q
        · exact q
        · rw [Array.getElem?_eq_none (by simpa using q)] at c0; cases c0
      have : off = 0 ∨ off = 1 := by omega
      rcases this with rfl | rfl <;> simp [byteV] at c0
theorem Tab.other {w w' : World} {B bt : Nat} {mv : Option Nat} {c : Nat} {R : List Rec} {br : Nat} {u : Value} {s : Bool} (h : Tab w B bt mv c R) (hbr : w.heap[br]? = some (.cells #[u, .bool s] 146 (0, 0))) (hu : ∃ a n c, u = .slice a n c) (hf : Fr (fun b _ => b ≠ br) w w') : Tab w' B bt mv c R := by
  have hne : ∀ b o, w.heap[b]? = some o → (∀ cs fz, o ≠ .cells cs 146 fz) → b ≠ br := fun b o hb ho e => by
    subst e; rw [hbr] at hb; cases hb; exact ho _ _ rfl
  refine ⟨hf.keep _ _ h.top (hne _ _ h.top fun cs fz e => by cases e), h.le, h.nil, fun bm e => ⟨(h.map bm e).1, hf.keep _ _ (h.map bm e).2 (hne _ _ (h.map bm e).2 fun cs fz e => by cases e)⟩, fun r hr => ?_, h.keys, h.blks, h.borns, h.old⟩
  have ho := h.each r hr
  refine ⟨ho.le, hf.keep _ _ ho.cells (hne _ _ ho.cells fun cs fz e => by cases e), ho.lo, ho.hi, ?_, ho.short⟩
  exact ((ho.bytes.notAt hbr hu).fr (hf.mono fun _ _ h => h.2)).mono fun _ _ _ h => h.1
/-- A session more, with its last number and answer. -/
theorem Tab.addx {w w' : World} {B bt bm be : Nat} {c : Nat} {R : List Rec} {n s : Int} {v : Value} {bs : List UInt8} (h : Tab w B bt (some bm) c R) (hn : findR R n = none) (hB : B ≤ be) (hbe : w.heap.size ≤ be) (h0 : 0 ≤ s) (h9 : s < 4294967296) (hb : BytesAt (KU B) w' v bs) (hl : bs.length ≤ 9)
    (hf : Fr (fun b _ => b ≠ bm) w w') (h1 : w'.heap[be]? = some (.cells #[.int .u32 s, v] 109 (0, 0))) (h2 : w'.heap[bm]? = some (.map (entriesOf .i64 (R.map Rec.ent ++ [(n, .pointer (some ⟨be, 0, none⟩), c)])) (c + 1))) :
    Tab w' B bt (some bm) (c + 1) (R ++ [⟨n, be, c, s, v, bs⟩]) := by
  have hm := h.map bm rfl
  have hnb : ∀ b cs t fz, w.heap[b]? = some (.cells cs t fz) → b ≠ bm := fun b cs t fz hb e => by rw [e, hm.2] at hb; cases hb
  refine ⟨hf.keep _ _ h.top (hnb _ _ _ _ h.top), h.le, (fun e => by cases e), fun b e => ?_, fun r hr => ?_, ?_, ?_, ?_, ?_⟩
  · cases e
    refine ⟨hm.1, ?_⟩
    rw [h2, List.map_append]
    rfl
  · rcases List.mem_append.1 hr with hr | hr
    · have ho := h.each r hr
      refine ho.fr hf (hnb _ _ _ _ ho.cells) (fun b o hb hk e => ?_)
      rw [e, hm.2] at hb
      cases hb
      rcases hk with hk | ⟨_, _, e'⟩
      · have := hm.1; omega
      · cases e'
    · rw [List.mem_singleton.1 hr]
      exact ⟨hB, h1, h0, h9, hb, hl⟩
  · rw [List.map_append, List.nodup_append]
    refine ⟨h.keys, by simp, fun x hx y hy e => ?_⟩
    simp only [List.map_cons, List.map_nil, List.mem_singleton] at hy
    obtain ⟨r, hr, rfl⟩ := List.mem_map.1 hx
    have : ¬ decide (r.key = n) = true := List.find?_eq_none.1 hn r hr
    exact this (by simp [e, hy])
  · rw [List.map_append, List.nodup_append]
    refine ⟨h.blks, by simp, fun x hx y hy e => ?_⟩
    simp only [List.map_cons, List.map_nil, List.mem_singleton] at hy
    obtain ⟨r, hr, rfl⟩ := List.mem_map.1 hx
    have := lt_of_some (h.each r hr).cells
    omega
  · rw [List.map_append, List.nodup_append]
    refine ⟨h.borns, by simp, fun x hx y hy e => ?_⟩
    simp only [List.map_cons, List.map_nil, List.mem_singleton] at hy
    obtain ⟨r, hr, rfl⟩ := List.mem_map.1 hx
    have := h.old r hr
    omega
  · intro r hr
    rcases List.mem_append.1 hr with hr | hr
    · have := h.old r hr; omega
    · rw [List.mem_singleton.1 hr]; show c < c + 1; omega
/-- The table while bytes are read: its map's entries; while nothing is wrong, its sessions. -/
structure Half (B : Nat) (W0 w : World) (bt bm : Nat) (wrong : Bool) (last : Int) (L : MT) : Prop where
  top : w.heap[bt]? = some (.cells #[.map (some bm)] 59 (0, 0))
  new : W0.heap.size ≤ bt ∧ W0.heap.size ≤ bm
  base : B ≤ W0.heap.size
  map : ∃ l c, w.heap[bm]? = some (.map (entriesOf .i64 l) c) ∧ Borns l c ∧ (wrong = false → ∃ R, l = R.map Rec.ent ∧ Tab w B bt (some bm) c R ∧ R.map Rec.abs = L ∧ ∀ r ∈ R, r.key ≤ last ∧ W0.heap.size ≤ r.blk)
theorem Half.tt {B : Nat} {W0 w w' : World} {bt bm : Nat} {wr : Bool} {last : Int} {L : MT} (h : Half B W0 w bt bm wr last L) (hf : Fr (fun _ _ => True) w w') : Half B W0 w' bt bm wr last L := by
  obtain ⟨l, c, a, b, d⟩ := h.map
  refine ⟨hf.keep _ _ h.top trivial, h.new, h.base, l, c, hf.keep _ _ a trivial, b, fun e => ?_⟩
  obtain ⟨R, h4, h5, h6, h7⟩ := d e
  exact ⟨R, h4, h5.fr hf, h6, h7⟩
theorem Half.other {B : Nat} {W0 w w' : World} {bt bm br : Nat} {wr : Bool} {last : Int} {L : MT} {bs : List UInt8} {sh : Bool} (h : Half B W0 w bt bm wr last L) (hr : LR W0 w br bs sh) (hf : Fr (fun b _ => b ≠ br) w w') : Half B W0 w' bt bm wr last L := by
  obtain ⟨l, c, a, b, d⟩ := h.map
  obtain ⟨v, hv⟩ := hr.at'
  obtain ⟨va, vc, rfl⟩ := hv.bytes.form
  have hne : ∀ b o, w.heap[b]? = some o → (∀ cs fz, o ≠ .cells cs 146 fz) → b ≠ br := fun b o hb ho e => by
    subst e; rw [hv.top] at hb; cases hb; exact ho _ _ rfl
  refine ⟨hf.keep _ _ h.top (hne _ _ h.top fun cs fz e => by cases e), h.new, h.base, l, c, hf.keep _ _ a (hne _ _ a fun cs fz e => by cases e), b, fun e => ?_⟩
  obtain ⟨R, h4, h5, h6, h7⟩ := d e
  exact ⟨R, h4, h5.other hv.top ⟨_, _, _, rfl⟩ hf, h6, h7⟩
/-- Behind a store. -/
theorem Half.store {B : Nat} {W0 w w2 : World} {bt bm be : Nat} {wr wr' : Bool} {last n s : Int} {L : MT} {v : Value} {bs : List UInt8} (h : Half B W0 w bt bm wr last L) (hx : w2.heap[be]? = some (.cells #[.int .u32 s, v] 109 (0, 0))) (hbe : w.heap.size ≤ be) (hf : Fr (fun _ _ => True) w w2) (h0 : 0 ≤ s) (h9 : s < 4294967296) (hb : BytesAt (KU B) w2 v bs) (hW : Fr (fun _ _ => True) W0 w)
    (hwr : wr' = false → wr = false ∧ last < n ∧ bs.length ≤ 9) :
    ∃ y b l1 l2 c1, (Instr.mapEntry 57 (.map (some bm)) (.int .i64 n)).run Tryz.prog w2 = .ok (.tuple #[y, .int .i64 (b : Nat)]) (w2.putObj bm (.map (entriesOf .i64 l1) c1)) ∧
      (Instr.entryStore 57 (.map (some bm)) (.int .i64 (b : Nat)) (.pointer (some ⟨be, 0, none⟩))).run Tryz.prog (w2.putObj bm (.map (entriesOf .i64 l1) c1)) = .ok () ((w2.putObj bm (.map (entriesOf .i64 l1) c1)).putObj bm (.map (entriesOf .i64 l2) c1)) ∧
      Half B W0 ((w2.putObj bm (.map (entriesOf .i64 l1) c1)).putObj bm (.map (entriesOf .i64 l2) c1)) bt bm wr' n (L ++ [(n, s, bs)]) ∧ Fr (fun c _ => c ≠ bm) w2 ((w2.putObj bm (.map (entriesOf .i64 l1) c1)).putObj bm (.map (entriesOf .i64 l2) c1)) := by
  obtain ⟨l, c, a, b, d⟩ := h.map
  have a2 := hf.keep _ _ a trivial
  have t2 := hf.keep _ _ h.top trivial
  obtain ⟨y, bb, l1, l2, c1, e1, e2, hB, hnew⟩ := map_store Tryz.underlying57 Tryz.underlying3 w2 bm n (.pointer (some ⟨be, 0, none⟩)) (.pointer none) l c a2 b (fun w => by kernel_rfl)
  have F : Fr (fun c _ => c ≠ bm) w2 ((w2.putObj bm (.map (entriesOf .i64 l1) c1)).putObj bm (.map (entriesOf .i64 l2) c1)) := ((Fr.refl _ _).putObj (fun _ _ h => h rfl) _).putObj (fun _ _ h => h rfl) _
  have hp := heap_putObj_same (heap_putObj_same a2 (.map (entriesOf .i64 l1) c1)) (.map (entriesOf .i64 l2) c1)
  have hnt : bt ≠ bm := fun e => by rw [e, a2] at t2; cases t2
  refine ⟨y, bb, l1, l2, c1, e1, e2, ⟨F.keep _ _ t2 hnt, h.new, h.base, l2, c1, hp, hB, fun e => ?_⟩, F⟩
  obtain ⟨h1, hlast, h9b⟩ := hwr e
  obtain ⟨R, rfl, h5, h6, h7⟩ := d h1
  have hfn : findR R n = none := by
    unfold findR
    rw [List.find?_eq_none]
    intro r hr
    have := (h7 r hr).1
    simp; omega
  obtain ⟨rfl, rfl⟩ := hnew (by rw [look_ent, hfn]; rfl)
  refine ⟨R ++ [⟨n, be, c, s, v, bs⟩], by rw [List.map_append]; rfl, ?_, by rw [List.map_append, h6]; rfl, fun r hr => ?_⟩
  · have h5' := h5.fr hf
    have hbl : BytesAt (KU B) ((w2.putObj bm (.map (entriesOf .i64 l1) (c + 1))).putObj bm (.map (entriesOf .i64 (R.map Rec.ent ++ [(n, .pointer (some ⟨be, 0, none⟩), c)])) (c + 1))) v bs := by
      have hm := h5'.map bm rfl
      refine ((hb.mono (K' := fun b o => b ≠ bm ∧ KU B b o) fun b o hb hk => ⟨fun e => ?_, hk⟩).fr (F.mono fun _ _ h => h.1)).mono fun _ _ _ h => h.2
      exact KT.map hm.1 hm.2 o (e ▸ hb) (e ▸ hk.kt)
    have h5w : Tab w B bt (some bm) c R := h5
    refine Tab.addx h5w hfn (Nat.le_trans h.base (Nat.le_trans hW.size hbe)) hbe h0 h9 hbl h9b ((hf.mono fun _ _ _ => trivial).trans F) (F.keep _ _ hx (fun e => ?_)) hp
    have := lt_of_some a
    omega
  · rcases List.mem_append.1 hr with hr | hr
    · have := h7 r hr; exact ⟨by omega, this.2⟩
    · rw [List.mem_singleton.1 hr]; exact ⟨Int.le_refl _, Nat.le_trans hW.size hbe⟩
end Go.Proofs.YtlolfcnfcgegdaaGreat
/- The sessions' table out of bytes: the walk. -/
namespace Go.Proofs.YtlolfcnfcgegdaaGreat
open Go.RowKit
set_option linter.unusedVariables false
set_option linter.unusedSimpArgs false

theorem uStep_eq (s : US) {c sq : Nat} {r1 r2 r3 bb : List UInt8} {s1 s2 s3 : Bool} (h1 : numR s.bs s.sh 1 = (c, r1, s1)) (h2 : numR r1 s1 4 = (sq, r2, s2)) (h3 : bytR r2 s2 = (bb, r3, s3)) :
    uStep s = ⟨r3, s3, c, s.wrong || (decide ((c : Int) ≤ s.last) || (decide (16 ≤ c) || decide (9 < bb.length))), s.L ++ [((c : Int), (sq : Int), bb)]⟩ := by
  unfold uStep uB uC uS
  simp only [h1, h2, h3]
theorem Half.start {w : World} (B : Nat) (hB : B ≤ w.heap.size) (K : Obj) : Half B w (((w.alloc K).alloc (.map #[] 0)).alloc (.cells #[.map (some (w.heap.size + 1))] 59 (0, 0))) (w.heap.size + 2) (w.heap.size + 1) false (-1) [] := by
  have z1 : (w.alloc K).heap.size = w.heap.size + 1 := by simp
  have z2 : ((w.alloc K).alloc (.map #[] 0)).heap.size = w.heap.size + 2 := by simp
  have h2 := heap_alloc_at z2 (.cells #[.map (some (w.heap.size + 1))] 59 (0, 0))
  have h1 := heap_alloc_lt (heap_alloc_at z1 (.map #[] 0)) (.cells #[.map (some (w.heap.size + 1))] 59 (0, 0))
  refine ⟨h2, ⟨by omega, by omega⟩, hB, [], 0, h1, ⟨List.nodup_nil, fun x hx => by cases hx⟩, fun _ => ⟨[], rfl, ?_, rfl, fun r hr => by cases hr⟩⟩
  exact ⟨h2, by omega, (fun e => by cases e), fun b e => by cases e; exact ⟨by omega, h1⟩, (fun r hr => by cases hr), List.nodup_nil, List.nodup_nil, List.nodup_nil, fun r hr => by cases hr⟩
/-- A table all whose blocks are no older than k. -/
def TabN (k : Nat) (w : World) (B bt : Nat) (M : MT) : Prop := ∃ mv c R, Tab w B bt mv c R ∧ R.map Rec.abs = M ∧ k ≤ bt ∧ (∀ b, mv = some b → k ≤ b) ∧ ∀ r ∈ R, k ≤ r.blk
theorem TabN.tab {k : Nat} {w : World} {B bt : Nat} {M : MT} (h : TabN k w B bt M) : TabM w B bt M := by
  obtain ⟨mv, c, R, h1, h2, _⟩ := h
  exact ⟨mv, c, R, h1, h2⟩
theorem Half.tab {B : Nat} {W0 w : World} {bt bm : Nat} {last : Int} {L : MT} (h : Half B W0 w bt bm false last L) : TabN W0.heap.size w B bt L := by
  obtain ⟨l, c, a, b, d⟩ := h.map
  obtain ⟨R, rfl, h5, h6, h7⟩ := d rfl
  exact ⟨some bm, c, R, h5, h6, h.new.1, fun b e => by cases e; exact h.new.2, fun r hr => (h7 r hr).2⟩

set_option maxRecDepth 100000 in
set_option maxHeartbeats 4000000 in
theorem unpack_callsN {K : Nat → Obj → Prop} (B : Nat) (w : World) (hB : B ≤ w.heap.size) (v : Value) (bs : List UInt8) (hb : BytesAt K w v bs) (hm : bs.length ≤ 100000) (code : Int) (M : MT) (hr : unpM bs = (code, M)) :
    Calls Tryz.prog 54 #[v] w fun e w' => ((code ≠ 0 ∧ e = .returned (.tuple #[.pointer none, .int .i64 code])) ∨ (code = 0 ∧ ∃ bt, e = .returned (.tuple #[.pointer (some ⟨bt, 0, none⟩), .int .i64 0]) ∧ TabN w.heap.size w' B bt M)) ∧ Fr (fun _ _ => True) w w' := by
  obtain ⟨a, cap, rfl⟩ := hb.form
  have K0 := Lib.hid (read_calls w a bs.length cap)
  have HLR : Hid (LR w (w.alloc (.cells #[.slice a bs.length cap, .bool false] 146 (0, 0))) w.heap.size bs false) := LR.mk0 (Fr.refl _ _) hb
  have HH := Lib.hid (Half.start (w := w) B hB (.cells #[.slice a bs.length cap, .bool false] 146 (0, 0)))
  obtain ⟨n, q, s0, hn⟩ : ∃ n q s0, numR bs false 1 = (n, q, s0) := ⟨_, _, _, rfl⟩
  have hn256 : n < 256 := by have := numR_lt bs false 1; rw [hn] at this; simpa using this
  have hql : q.length ≤ 100000 := by have := numR_len bs false 1; rw [hn] at this; exact Nat.le_trans this hm
  obtain ⟨S, hS⟩ : ∃ S : US, S = ⟨q, s0, -1, false, []⟩ := ⟨_, rfl⟩
  have HS0 : Hid (uRun S 0 = ⟨q, s0, -1, false, []⟩) := hS
  have HUL : Hid (∀ k, (uRun S k).bs.length ≤ 100000) := fun k => by have := uRun_len S k; rw [hS] at this ⊢; exact Nat.le_trans this hql
  have HUS : Hid (∀ k, uRun S (k + 1) = uStep (uRun S k)) := fun k => rfl
  have HR : Hid ((if endL (uRun S n).bs (uRun S n).sh = 0 ∧ ((uRun S n).wrong = true ∨ 6 < n) then ((1 : Int), ([] : MT)) else if endL (uRun S n).bs (uRun S n).sh = 0 then (0, (uRun S n).L) else (endL (uRun S n).bs (uRun S n).sh, [])) = (code, M)) := by
    have e1 : uFirst bs = S := by rw [hS]; unfold uFirst; rw [hn]
    have := hr
    unfold unpM uEnd at this
    rw [e1, hn] at this
    exact this
  have HN := Lib.hid hn
  clear hb hr hn hS
  have hmm := @run_makeMap Tryz.prog
  go_enter Tryz.func54, Tryz.ntmps54
  go_wp2_with fail
  with_reducible refine K0.out.mono ?_
  rintro e1 w1 ⟨rfl, hw1⟩
  have L1 : Hid (LR w w1 w.heap.size bs false) := hw1 ▸ HLR.out
  have z1 : w1.heap.size = w.heap.size + 1 := by rw [hw1]; simp
  have H3 : Hid (Half B w ((w1.alloc (.map #[] 0)).alloc (.cells #[.map (some (w.heap.size + 1))] 59 (0, 0))) (w.heap.size + 2) (w.heap.size + 1) false (-1) []) := hw1 ▸ HH.out
  have L3 : Hid (LR w ((w1.alloc (.map #[] 0)).alloc (.cells #[.map (some (w.heap.size + 1))] 59 (0, 0))) w.heap.size bs false) := (L1.out.tt ((Fr.refl _ _).alloc _)).tt ((Fr.refl _ _).alloc _)
  clear hw1 HH HLR K0 L1
  obtain ⟨W3, hW3⟩ : ∃ W3, (w1.alloc (.map #[] 0)).alloc (.cells #[.map (some (w.heap.size + 1))] 59 (0, 0)) = W3 := ⟨_, rfl⟩
  rw [hW3] at H3 L3
  have K1 := Lib.hid (lr_number w W3 w.heap.size bs false 1 1 rfl L3.out (by omega) (by omega) (by omega) n q s0 HN.out)
  have z2 : (w1.alloc (.map #[] 0)).heap.size = w.heap.size + 2 := by simp [z1]
  go_wp2_with fail
  clear hW3 hmm
  with_reducible refine K1.out.mono ?_
  rintro e1 w4 ⟨rfl, l4, f4⟩
  have L4 : Hid (LR w w4 w.heap.size (uRun S 0).bs (uRun S 0).sh) := by rw [HS0.out]; exact l4
  have H4 : Hid (Half B w w4 (w.heap.size + 2) (w.heap.size + 1) (uRun S 0).wrong (uRun S 0).last (uRun S 0).L) := by rw [HS0.out]; exact H3.out.other L3.out f4
  clear l4 f4 K1 H3 L3 z1 z2
  generalize w.heap.size + 2 = bt at *
  generalize w.heap.size + 1 = bm at *
  obtain ⟨br, hbr⟩ : ∃ br, br = w.heap.size := ⟨_, rfl⟩
  rw [← hbr] at L4 ⊢
  clear hbr
  go_wp2_with fail
  go_loopw [7, 8, 9, 10, 21] (fun la wg _ _ i wr => ∃ k : Nat, k ≤ n ∧ i = .int .i64 k ∧ la = .int .i64 (uRun S k).last ∧ wg = .bool (uRun S k).wrong ∧ LR w wr br (uRun S k).bs (uRun S k).sh ∧ Half B w wr bt bm (uRun S k).wrong (uRun S k).last (uRun S k).L) (fun _ _ _ _ i _ => n - (intOf i).toNat)
  case atStart => exact ⟨0, Nat.zero_le _, rfl, by rw [HS0.out], by rw [HS0.out], L4.out, H4.out⟩
  case round =>
    obtain ⟨k, hk, rfl, rfl, rfl, hl, hh⟩ := hrel
    have HL := Lib.hid hl
    have HH := Lib.hid hh
    clear hl hh
    by_cases hlt : k < n
    · have HU := Lib.hid (HUS.out k)
      have hub := HUL.out k
      generalize uRun S k = s at *
      obtain ⟨c, r1, s1, h1⟩ : ∃ c r1 s1, numR s.bs s.sh 1 = (c, r1, s1) := ⟨_, _, _, rfl⟩
      obtain ⟨sq, r2, s2, h2⟩ : ∃ sq r2 s2, numR r1 s1 4 = (sq, r2, s2) := ⟨_, _, _, rfl⟩
      obtain ⟨bb, r3, s3, h3⟩ : ∃ bb r3 s3, bytR r2 s2 = (bb, r3, s3) := ⟨_, _, _, rfl⟩
      have hc256 : c < 256 := by have := numR_lt s.bs s.sh 1; rw [h1] at this; simpa using this
      have hsq : sq < 4294967296 := by have := numR_lt r1 s1 4; rw [h2] at this; simpa using this
      have g1 : r1.length ≤ 100000 := by have := numR_len s.bs s.sh 1; rw [h1] at this; exact Nat.le_trans this hub
      have g2 : r2.length ≤ 100000 := by have := numR_len r1 s1 4; rw [h2] at this; exact Nat.le_trans this g1
      have g3 : bb.length ≤ 1000 := by have := (bytR_len r2 s2).2; rw [h3] at this; exact this
      rw [uStep_eq s h1 h2 h3] at HU
      have N1 := Lib.hid h1
      have N2 := Lib.hid h2
      have N3 := Lib.hid h3
      clear h1 h2 h3
      have K1 := Lib.hid (lr_number w wr br s.bs s.sh 1 1 rfl HL.out (by omega) (by omega) (by omega) c r1 s1 N1.out)
      go_wp2_with fail
      with_reducible refine K1.out.mono ?_
      rintro e1 w5 ⟨rfl, l5, f5⟩
      have L5 := Lib.hid l5
      have H5 := Lib.hid (HH.out.other HL.out f5)
      clear l5 f5 K1 HL HH
      have K1 := Lib.hid (lr_number w w5 br r1 s1 4 4 rfl L5.out (by omega) (by omega) (by omega) sq r2 s2 N2.out)
      go_wp2_with fail
      with_reducible refine K1.out.mono ?_
      rintro e1 w6 ⟨rfl, l6, f6⟩
      have L6 := Lib.hid l6
      have H6 := Lib.hid (H5.out.other L5.out f6)
      clear l6 f6 K1 L5 H5
      have K1 := Lib.hid (lr_bytes w w6 br r2 s2 L6.out (by omega) bb r3 s3 N3.out)
      go_wp2_with fail
      with_reducible refine K1.out.mono ?_
      rintro e1 w7 ⟨⟨xa, xc, rfl, hbx⟩, l7, f7⟩
      have L7 := Lib.hid l7
      have H7 := Lib.hid (H6.out.other L6.out f7)
      have B7 := Lib.hid hbx
      have hz7 := f7.size
      clear l7 f7 K1 L6 H6 hbx N1 N2 N3
      obtain ⟨W8, hW8⟩ : ∃ W8, w7.alloc (.cells #[.int .u32 (sq : Int), .slice xa bb.length xc] 109 (0, 0)) = W8 := ⟨_, rfl⟩
      have F8 : Hid (Fr (fun _ _ => True) w7 W8) := hW8 ▸ (Fr.refl _ _).alloc _
      have X8 : Hid (W8.heap[w7.heap.size]? = some (.cells #[.int .u32 (sq : Int), .slice xa bb.length xc] 109 (0, 0))) := hW8 ▸ heap_alloc_new _ _
      have B8 : Hid (BytesAt (KU B) W8 (.slice xa bb.length xc) bb) := (B7.out.mono fun _ _ _ h => KU.new h).tt F8.out
      have L8 := Lib.hid (L7.out.tt F8.out)
      have c8 := cell_mk (i := 1) X8.out rfl
      have t8 : W8.cell? ⟨bt, 0, none⟩ = some (.map (some bm)) := cell_mk (F8.out.keep _ _ H7.out.top trivial) rfl
      obtain ⟨wg', hwg'⟩ : ∃ wg', wg' = (s.wrong || (decide ((c : Int) ≤ s.last) || (decide (16 ≤ c) || decide (9 < bb.length)))) := ⟨_, rfl⟩
      rw [← hwg'] at HU
      obtain ⟨y, b, l1, l2, c1, e1, e2, h9, f9⟩ := H7.out.store (wr' := wg') (n := (c : Int)) (s := (sq : Int)) (bs := bb) X8.out (Nat.le_refl _) F8.out (by omega) (by omega) B8.out L7.out.fr (fun e => by
        rw [e] at hwg'
        have := hwg'.symm
        simp only [Bool.or_eq_false_iff, decide_eq_false_iff_not] at this
        exact ⟨this.1, by omega, by omega⟩)
      have L9 : Hid (LR w ((W8.putObj bm (.map (entriesOf .i64 l1) c1)).putObj bm (.map (entriesOf .i64 l2) c1)) br r3 s3) := L8.out.other f9 (fun o e => by
        obtain ⟨v, hv⟩ := L8.out.at'
        have hm : ∃ es cc, W8.heap[bm]? = some (.map es cc) := by
          obtain ⟨l, cc, a, _⟩ := H7.out.map
          exact ⟨_, _, F8.out.keep _ _ a trivial⟩
        obtain ⟨es, cc, hm⟩ := hm
        have := hv.top
        rw [e, hm] at this
        cases this) (fun q o hq e => by have := H7.out.new.2; omega)
      have H9 := Lib.hid h9
      have HW' := Lib.hid hwg'
      clear h9 f9 hwg' B7 L7 H7 F8 X8 B8 L8
      generalize s.wrong = w0 at *
      generalize s.last = la at *
      have hbl : bb.length ≤ 1000 := g3
      generalize hBL : bb.length = BL at *
      have HBL := Lib.hid hBL
      clear hBL
      have cases5 : (w0 = true ∧ wg' = true) ∨ (w0 = false ∧ (c : Int) ≤ la ∧ wg' = true) ∨ (w0 = false ∧ ¬ (c : Int) ≤ la ∧ (16 : Int) ≤ c ∧ wg' = true) ∨ (w0 = false ∧ ¬ (c : Int) ≤ la ∧ ¬ (16 : Int) ≤ c ∧ (9 : Int) < BL ∧ wg' = true) ∨ (w0 = false ∧ ¬ (c : Int) ≤ la ∧ ¬ (16 : Int) ≤ c ∧ ¬ (9 : Int) < BL ∧ wg' = false) := by
        have hw := HW'.out
        cases w0 with
        | true => exact .inl ⟨rfl, by rw [hw]; rfl⟩
        | false =>
          right
          by_cases q1 : (c : Int) ≤ la
          · exact .inl ⟨rfl, q1, by rw [hw]; simp [q1]⟩
          · right
            by_cases q2 : (16 : Int) ≤ c
            · exact .inl ⟨rfl, q1, q2, by rw [hw]; simp [show 16 ≤ c by omega]⟩
            · right
              by_cases q3 : (9 : Int) < BL
              · exact .inl ⟨rfl, q1, q2, q3, by rw [hw]; simp [show 9 < BL by omega]⟩
              · exact .inr ⟨rfl, q1, q2, q3, by rw [hw]; simp [q1, show ¬ 16 ≤ c by omega, show ¬ 9 < BL by omega]⟩
      clear HW'
      have fin : Hid (∀ W, W = (W8.putObj bm (.map (entriesOf .i64 l1) c1)).putObj bm (.map (entriesOf .i64 l2) c1) → LR w W br (uRun S (k + 1)).bs (uRun S (k + 1)).sh ∧ Half B w W bt bm (uRun S (k + 1)).wrong (uRun S (k + 1)).last (uRun S (k + 1)).L) := fun W e => by
        rw [HU.out, e]; exact ⟨L9.out, H9.out⟩
      have HU1 : Hid ((uRun S (k + 1)).last = (c : Int) ∧ (uRun S (k + 1)).wrong = wg') := by rw [HU.out]; exact ⟨rfl, rfl⟩
      clear HU L9 H9
      rcases cases5 with ⟨rfl, rfl⟩ | ⟨rfl, q1, rfl⟩ | ⟨rfl, q1, q2, rfl⟩ | ⟨rfl, q1, q2, q3, rfl⟩ | ⟨rfl, q1, q2, q3, rfl⟩ <;>
      · go_wp2
        go_roundw
        case rel => exact ⟨k + 1, by omega, by go_num, by rw [HU1.out.1], (by rw [HU1.out.2]; first | done | (congr 1; simp; omega)), fin.out _ rfl⟩
        case measure => simp [intOf]; omega
    · obtain rfl : k = n := by omega
      have hub := HUL.out k
      have K1 := Lib.hid (lr_end w wr br (uRun S k).bs (uRun S k).sh HL.out (by omega))
      have FW := Lib.hid HL.out.fr
      have hre := HR.out
      clear HR HUS HUL HL
      have HEL : endL (uRun S k).bs (uRun S k).sh = 0 ∨ endL (uRun S k).bs (uRun S k).sh = 10 ∨ endL (uRun S k).bs (uRun S k).sh = 11 := by
        unfold endL; split
        · exact .inr (.inl rfl)
        · split
          · exact .inr (.inr rfl)
          · exact .inl rfl
      generalize endL (uRun S k).bs (uRun S k).sh = el at *
      go_wp2_with fail
      with_reducible refine K1.out.mono ?_
      rintro e1 w5 ⟨rfl, rfl⟩
      clear K1
      rcases HEL with rfl | rfl | rfl
      · cases hwr : (uRun S k).wrong with
        | true =>
          rw [hwr] at HH
          rw [if_pos ⟨rfl, .inl hwr⟩] at hre
          obtain ⟨rfl, rfl⟩ := Prod.mk.inj hre
          clear hre hwr
          go_wp2
          go_ret2
          exact ⟨.inl ⟨by decide, rfl⟩, FW.out⟩
        | false =>
          rw [hwr] at HH
          by_cases h6 : (6 : Int) < k
          · rw [if_pos ⟨rfl, .inr (by omega)⟩] at hre
            obtain ⟨rfl, rfl⟩ := Prod.mk.inj hre
            clear hre hwr
            go_wp2
            go_ret2
            exact ⟨.inl ⟨by decide, rfl⟩, FW.out⟩
          · rw [if_neg (by rw [hwr]; simp; omega), if_pos rfl] at hre
            obtain ⟨rfl, rfl⟩ := Prod.mk.inj hre
            have HT := Lib.hid HH.out.tab
            clear hre hwr HH
            go_wp2
            go_ret2
            exact ⟨⟨_, rfl, HT.out⟩, FW.out⟩
      · rw [if_neg (fun h => by have := h.1; simp at this), if_neg (by decide)] at hre
        obtain ⟨rfl, rfl⟩ := Prod.mk.inj hre
        clear hre
        go_wp2
        go_ret2
        exact ⟨.inl ⟨by decide, rfl⟩, FW.out⟩
      · rw [if_neg (fun h => by have := h.1; simp at this), if_neg (by decide)] at hre
        obtain ⟨rfl, rfl⟩ := Prod.mk.inj hre
        clear hre
        go_wp2
        go_ret2
        exact ⟨.inl ⟨by decide, rfl⟩, FW.out⟩
theorem unpack_callsB {K : Nat → Obj → Prop} (B : Nat) (w : World) (hB : B ≤ w.heap.size) (v : Value) (bs : List UInt8) (hb : BytesAt K w v bs) (hm : bs.length ≤ 100000) (code : Int) (M : MT) (hr : unpM bs = (code, M)) :
    Calls Tryz.prog 54 #[v] w fun e w' => ((code ≠ 0 ∧ e = .returned (.tuple #[.pointer none, .int .i64 code])) ∨ (code = 0 ∧ ∃ bt, e = .returned (.tuple #[.pointer (some ⟨bt, 0, none⟩), .int .i64 0]) ∧ TabM w' B bt M)) ∧ Fr (fun _ _ => True) w w' :=
  (unpack_callsN B w hB v bs hb hm code M hr).mono fun e w' ⟨h, f⟩ => ⟨h.imp id fun ⟨h0, bt, h1, h2⟩ => ⟨h0, bt, h1, h2.tab⟩, f⟩
theorem unpack_calls {K : Nat → Obj → Prop} (w : World) (v : Value) (bs : List UInt8) (hb : BytesAt K w v bs) (hm : bs.length ≤ 100000) (code : Int) (M : MT) (hr : unpM bs = (code, M)) :
    Calls Tryz.prog 54 #[v] w fun e w' => ((code ≠ 0 ∧ e = .returned (.tuple #[.pointer none, .int .i64 code])) ∨ (code = 0 ∧ ∃ bt, e = .returned (.tuple #[.pointer (some ⟨bt, 0, none⟩), .int .i64 0]) ∧ TabM w' w.heap.size bt M)) ∧ Fr (fun _ _ => True) w w' := unpack_callsB w.heap.size w (Nat.le_refl _) v bs hb hm code M hr
end Go.Proofs.YtlolfcnfcgegdaaGreat
/- Sessions' tables that are the same but for their order; packed and unpacked (printed by sessrel20.py). -/
namespace Go.Proofs.YtlolfcnfcgegdaaGreat
open Go.RowKit
set_option linter.unusedVariables false
set_option linter.unusedSimpArgs false

/-- A table as it is packed: clients go up. -/
structure Up (M : MT) : Prop where
  up : (M.map (·.1)).Pairwise (· < ·)
  rng : ∀ x ∈ M, 0 ≤ x.1 ∧ x.1 ≤ 15
theorem Up.nodup {M : MT} (h : Up M) : (M.map (·.1)).Nodup := h.up.imp fun q e => by omega
theorem findM_of {M : MT} (h : (M.map (·.1)).Nodup) {x : Int × Int × List UInt8} (hx : x ∈ M) : findM M x.1 = some x := by
  obtain ⟨y, hy, e, e1⟩ := findM_some (List.mem_map_of_mem (f := (·.1)) hx)
  rw [e, nodup_inj h hy hx e1]
theorem Up.sort {M : MT} (h : Up M) : sortM M = M := by
  unfold sortM
  have e : srt (M.map (·.1)) = M.map (·.1) := sorted_perm (srt_sorted _) (h.up.imp fun q => by omega) (srt_perm _)
  rw [e, List.filterMap_map]
  have : ∀ l : MT, (∀ x ∈ l, x ∈ M) → l.filterMap ((fun c => findM M c) ∘ (·.1)) = l := by
    intro l
    induction l with
    | nil => intro _; rfl
    | cons x l ih =>
      intro hl
      have hx : ((fun c => findM M c) ∘ (·.1)) x = some x := findM_of h.nodup (hl x (by simp))
      rw [List.filterMap_cons_some hx, ih fun y hy => hl y (by simp [hy])]
  exact this M fun _ h => h
theorem findM_none_of {M : MT} {c : Int} (h : ∀ x ∈ M, x.1 ≠ c) : findM M c = none := by
  unfold findM; rw [List.find?_eq_none]; intro x hx; simpa using h x hx
theorem srt_lt {l : List Int} (h : l.Nodup) : (srt l).Pairwise (· < ·) := by
  have h1 := srt_sorted l
  have h2 : (srt l).Nodup := (srt_perm l).nodup_iff.2 h
  exact (h1.and h2).imp fun ⟨a, b⟩ => by omega
theorem sortM_keys {M : MT} (h : (M.map (·.1)).Nodup) : (sortM M).map (·.1) = srt (M.map (·.1)) := by
  unfold sortM
  have : ∀ l : List Int, (∀ c ∈ l, c ∈ M.map (·.1)) → (l.filterMap fun c => findM M c).map (·.1) = l := by
    intro l
    induction l with
    | nil => intro _; rfl
    | cons c l ih =>
      intro hl
      obtain ⟨x, _, hx, e⟩ := findM_some (hl c (by simp))
      rw [List.filterMap_cons_some hx, List.map_cons, e, ih fun y hy => hl y (by simp [hy])]
  exact this _ fun c hc => srt_mem.1 hc
theorem sortM_mem {M : MT} (h : (M.map (·.1)).Nodup) (x : Int × Int × List UInt8) : x ∈ sortM M ↔ x ∈ M := by
  unfold sortM
  rw [List.mem_filterMap]
  constructor
  · rintro ⟨c, _, hc⟩; exact (findM_key hc).1
  · intro hx; exact ⟨x.1, srt_mem.2 (List.mem_map_of_mem hx), findM_of h hx⟩
theorem numR_le {x n : Nat} {r : List UInt8} (h : x < 256 ^ n) : numR (le x n ++ r) false n = (x, r, false) := by
  unfold numR
  rw [if_neg (by simp [le_length])]
  rw [List.take_left' (le_length x n), List.drop_left' (le_length x n), ofLE_le1 n x h]
theorem bytR_byt {x r : List UInt8} (h : x.length ≤ 1000) : bytR (byt x ++ r) false = (x, r, false) := by
  have e : byt x = le x.length 2 ++ x := by unfold byt; rw [List.take_of_length_le h]
  have h1 : numR (byt x ++ r) false 2 = (x.length, x ++ r, false) := by rw [e, List.append_assoc]; exact numR_le (by omega)
  unfold bytR
  rw [h1]
  simp only
  rw [if_neg (by simp; omega), List.take_left' rfl, List.drop_left' rfl]
theorem uStep_pack {x : Int × Int × List UInt8} {r : List UInt8} {last : Int} {L : MT} (h1 : last < x.1) (h2 : x.1 ≤ 15) (h0 : 0 ≤ x.1) (h3 : 0 ≤ x.2.1 ∧ x.2.1 < 4294967296) (h4 : x.2.2.length ≤ 9) :
    uStep ⟨entB x ++ r, false, last, false, L⟩ = ⟨r, false, x.1, false, L ++ [x]⟩ := by
  have e1 : numR (entB x ++ r) false 1 = (x.1.toNat, le x.2.1.toNat 4 ++ (byt x.2.2 ++ r), false) := by
    unfold entB; rw [List.append_assoc, List.append_assoc]; exact numR_le (by omega)
  have e2 : numR (le x.2.1.toNat 4 ++ (byt x.2.2 ++ r)) false 4 = (x.2.1.toNat, byt x.2.2 ++ r, false) := numR_le (by omega)
  rw [uStep_eq ⟨entB x ++ r, false, last, false, L⟩ e1 e2 (bytR_byt (by omega))]
  have a : ((x.1.toNat : Nat) : Int) = x.1 := by omega
  have b : ((x.2.1.toNat : Nat) : Int) = x.2.1 := by omega
  rw [a, b]
  simp only [Bool.false_or]
  rw [decide_eq_false (show ¬ x.1 ≤ last by omega), decide_eq_false (show ¬ 16 ≤ x.1.toNat by omega), decide_eq_false (show ¬ 9 < x.2.2.length by omega)]
  rfl
theorem uRun_shift (s : US) : ∀ k, uRun s (k + 1) = uRun (uStep s) k
  | 0 => rfl
  | k + 1 => by show uStep (uRun s (k + 1)) = uStep (uRun (uStep s) k); rw [uRun_shift s k]
theorem uRun_pack : ∀ (M : MT) (last : Int) (L : MT) (r : List UInt8), (M.map (·.1)).Pairwise (· < ·) → (∀ x ∈ M, last < x.1 ∧ 0 ≤ x.1 ∧ x.1 ≤ 15 ∧ 0 ≤ x.2.1 ∧ x.2.1 < 4294967296 ∧ x.2.2.length ≤ 9) →
    ∃ la, uRun ⟨(M.map entB).flatten ++ r, false, last, false, L⟩ M.length = ⟨r, false, la, false, L ++ M⟩
  | [], last, L, r, _, _ => ⟨last, by simp [uRun]⟩
  | x :: M, last, L, r, hp, h => by
    rw [List.map_cons, List.pairwise_cons] at hp
    obtain ⟨a, b, c, d, e, f⟩ := h x (by simp)
    obtain ⟨la, ih⟩ := uRun_pack M x.1 (L ++ [x]) r hp.2 fun y hy => ⟨hp.1 _ (List.mem_map_of_mem hy), (h y (by simp [hy])).2⟩
    refine ⟨la, ?_⟩
    rw [List.length_cons, uRun_shift, List.map_cons, List.flatten_cons, List.append_assoc, uStep_pack a c b ⟨d, e⟩ f, ih]
    simp
theorem unp_pack {M : MT} (h : Up M) (h6 : M.length ≤ 6) (hs : ∀ x ∈ M, 0 ≤ x.2.1 ∧ x.2.1 < 4294967296 ∧ x.2.2.length ≤ 9) : unpM (packL M) = (0, M) := by
  have hn : numR (packL M) false 1 = (M.length, (M.map entB).flatten, false) := numR_le (by omega)
  have hf : uFirst (packL M) = ⟨(M.map entB).flatten ++ [], false, -1, false, []⟩ := by unfold uFirst; rw [hn]; simp
  obtain ⟨la, hr⟩ := uRun_pack M (-1) [] [] h.up fun x hx => by
    have := h.rng x hx; exact ⟨by omega, this.1, this.2, hs x hx⟩
  have he : uEnd (packL M) = ⟨[], false, la, false, M⟩ := by
    unfold uEnd; rw [hf, hn]; simpa using hr
  unfold unpM
  rw [he, hn]
  rw [if_neg (by simp; omega), if_pos (by rfl)]

/-- What stays true of the sessions, besides. -/
structure MS (M : MT) : Prop where
  mf : MF M
  nd : (M.map (·.1)).Nodup
  lim : ∀ x ∈ M, x.2.1 < 4294967296
theorem MS.nil : MS [] := ⟨MF.nil, List.nodup_nil, fun x h => by cases h⟩
theorem openM_nd {M : MT} (h : MS M) (n : Int) : MS (openM M n).2 := by
  refine ⟨h.mf.openM n, ?_, ?_⟩ <;> unfold openM <;> split
  · exact h.nd
  · split
    · exact h.nd
    · split
      · exact h.nd
      · rename_i h2 _
        show ((M ++ [((n, 0, []) : Int × Int × List UInt8)]).map (fun x : Int × Int × List UInt8 => x.1)).Nodup
        rw [List.map_append, List.nodup_append]
        refine ⟨h.nd, by simp, fun x hx y hy e => ?_⟩
        have hy' : y = n := by simpa using hy
        obtain ⟨z, hz, ez⟩ := List.mem_map.1 hx
        refine h2 ?_
        unfold findM
        rw [List.find?_isSome]
        exact ⟨z, hz, by simp [ez, e, hy']⟩
  · exact h.lim
  · split
    · exact h.lim
    · split
      · exact h.lim
      · intro x hx
        rcases List.mem_append.1 hx with hx | hx
        · exact h.lim x hx
        · rw [List.mem_singleton.1 hx]; show (0 : Int) < 4294967296; decide
theorem closeM_nd {M : MT} (h : MS M) (n : Int) : MS (closeM M n).2 := by
  refine ⟨h.mf.closeM n, ?_, ?_⟩ <;> unfold closeM <;> split
  · exact ((List.filter_sublist (l := M)).map (fun x : Int × Int × List UInt8 => x.1)).nodup h.nd
  · exact h.nd
  · exact fun x hx => h.lim x (List.mem_filter.1 hx).1
  · exact h.lim
theorem setM_keys (M : MT) (n s : Int) (b : List UInt8) : (setM M n s b).map (·.1) = M.map (·.1) := by
  unfold setM
  rw [List.map_map]
  refine List.map_congr_left fun x hx => ?_
  show (if x.1 = n then (x.1, s, b) else x).1 = x.1
  split <;> rfl
theorem doneM_nd {M : MT} (h : MS M) (n s : Int) (hs : 0 ≤ s) (hl : s < 4294967296) (b : List UInt8) : MS (doneM M n s b).2 := by
  refine ⟨h.mf.doneM n s hs b, ?_, ?_⟩ <;> unfold doneM <;> split
  · exact h.nd
  · split
    · show ((setM M n s b).map (·.1)).Nodup; rw [setM_keys]; exact h.nd
    · exact h.nd
  · exact h.lim
  · split
    · intro x hx
      obtain ⟨y, hy, rfl⟩ := List.mem_map.1 hx
      split
      · exact hl
      · exact h.lim y hy
    · exact h.lim
theorem MS.act {M : MT} (h : MS M) (L : Lk) (c : Cmd) (ho : c.ok) : MS (actM M L c).2.1 := by
  unfold actM
  split
  · unfold applyC
    split
    · exact h
    · split
      · exact openM_nd h _
      · split
        · exact closeM_nd h _
        · unfold onceM
          split
          · exact h
          · split
            · exact h
            · exact doneM_nd h _ _ (Int.natCast_nonneg _) (by have := ho.s; have e : c.cm.sq = c.sq := rfl; rw [e]; omega) _
  · exact h
theorem perm_find {M N : MT} (p : M.Perm N) (hn : (M.map (·.1)).Nodup) (k : Int) : findM M k = findM N k := by
  have hn2 : (N.map (·.1)).Nodup := (p.map _).nodup_iff.1 hn
  cases hf : findM M k with
  | none =>
    refine (findM_none_of fun x hx e => ?_).symm
    have := findM_of hn (p.mem_iff.2 hx)
    rw [e, hf] at this
    cases this
  | some x =>
    obtain ⟨a, b⟩ := findM_key hf
    rw [← b]
    exact (findM_of hn2 (p.mem_iff.1 a)).symm
theorem perm_ask {M N : MT} (p : M.Perm N) (hn : (M.map (·.1)).Nodup) (k s : Int) : askM M k s = askM N k s := by unfold askM; rw [perm_find p hn]
theorem perm_done {M N : MT} (p : M.Perm N) (hn : (M.map (·.1)).Nodup) (k s : Int) (b : List UInt8) : (doneM M k s b).2.Perm (doneM N k s b).2 := by
  unfold doneM
  rw [perm_find p hn]
  split
  · exact p
  · split
    · exact p.map _
    · exact p
theorem perm_open {M N : MT} (p : M.Perm N) (hn : (M.map (·.1)).Nodup) (k : Int) : (openM M k).1 = (openM N k).1 ∧ (openM M k).2.Perm (openM N k).2 := by
  unfold openM
  rw [perm_find p hn, p.length_eq]
  split
  · exact ⟨rfl, p⟩
  · split
    · exact ⟨rfl, p⟩
    · split
      · exact ⟨rfl, p⟩
      · exact ⟨rfl, p.append_right _⟩
theorem perm_close {M N : MT} (p : M.Perm N) (hn : (M.map (·.1)).Nodup) (k : Int) : (closeM M k).1 = (closeM N k).1 ∧ (closeM M k).2.Perm (closeM N k).2 := by
  unfold closeM
  rw [perm_find p hn]
  split
  · exact ⟨rfl, p.filter _⟩
  · exact ⟨rfl, p⟩
theorem nodup_of_map {α β : Type} (f : α → β) {l : List α} (h : (l.map f).Nodup) : l.Nodup := List.Pairwise.of_map (S := fun a b => a ≠ b) f (fun a b h e => h (by rw [e])) h
/-- The order of the sessions is of no weight. -/
theorem perm_act {M N : MT} (p : M.Perm N) (hn : (M.map (·.1)).Nodup) (L : Lk) (c : Cmd) : (actM M L c).1 = (actM N L c).1 ∧ (actM M L c).2.1.Perm (actM N L c).2.1 ∧ (actM M L c).2.2 = (actM N L c).2.2 := by
  unfold actM
  split
  · unfold applyC
    split
    · exact ⟨rfl, p, rfl⟩
    · split
      · obtain ⟨a, b⟩ := perm_open p hn (c.cm.cl : Nat)
        exact ⟨by rw [a], b, rfl⟩
      · split
        · obtain ⟨a, b⟩ := perm_close p hn (c.cm.cl : Nat)
          exact ⟨by rw [a], b, by rw [a]⟩
        · unfold onceM
          rw [perm_ask p hn]
          split
          · exact ⟨rfl, p, rfl⟩
          · split
            · exact ⟨rfl, p, rfl⟩
            · exact ⟨rfl, perm_done p hn _ _ _, rfl⟩
  · exact ⟨rfl, p, rfl⟩
theorem perm_sort {M N : MT} (p : M.Perm N) (hn : (M.map (·.1)).Nodup) : sortM M = sortM N := by
  unfold sortM
  rw [srt_congr (p.map (·.1))]
  congr 1
  funext k
  exact perm_find p hn k
theorem sort_perm {M : MT} (hn : (M.map (·.1)).Nodup) : (sortM M).Perm M := by
  have h1 : ((sortM M).map (·.1)).Nodup := by rw [sortM_keys hn]; exact (srt_perm _).nodup_iff.2 hn
  exact (List.perm_ext_iff_of_nodup (nodup_of_map _ h1) (nodup_of_map _ hn)).2 fun x => sortM_mem hn x
theorem MS.unp {M : MT} (h : MS M) : unpM (packL (sortM M)) = (0, sortM M) := by
  refine unp_pack ⟨by rw [sortM_keys h.nd]; exact srt_lt h.nd, fun x hx => h.mf.rng x ((sortM_mem h.nd x).1 hx)⟩ (by rw [sortM_len]; exact h.mf.few) fun x hx => ?_
  have hx' := (sortM_mem h.nd x).1 hx
  exact ⟨h.mf.seq x hx', h.lim x hx', h.mf.rep x hx'⟩
theorem MS.perm {M N : MT} (h : MS M) (p : M.Perm N) : MS N :=
  ⟨⟨by rw [← p.length_eq]; exact h.mf.few, fun x hx => h.mf.rng x (p.mem_iff.2 hx), fun x hx => h.mf.seq x (p.mem_iff.2 hx), fun x hx => h.mf.rep x (p.mem_iff.2 hx)⟩, (p.map _).nodup_iff.1 h.nd, fun x hx => h.lim x (p.mem_iff.2 hx)⟩
end Go.Proofs.YtlolfcnfcgegdaaGreat
