/- Texts of the proofs, part 11: what the functions that they reach do, walked; no conditions beyond those that each states. -/
import Derived.Maps.RangeWalk
import Derived.Test.YtkaikckehkcfhaaZze682b9d4ea
set_option linter.unusedVariables false
set_option linter.unusedSimpArgs false
/- The sessions' table: Clients. -/
namespace Go.Proofs.Ytkaikckehkcfhaa
open Go.RowKit Go.ChangeMaps
set_option linter.unusedVariables false
set_option linter.unusedSimpArgs false

/-- The step of a range over a map that is only read. -/
theorem wpList_next_e {P : Program} {ops : Array Oper} {rest : List Oper} {o : Oper} {a : Act} {Q : Exit → Act → World → Prop} (w : World) (hg : o.guard = none) (it : Operand) (hop : o.op = Op.next it false)
    (r bm since c0 : Nat) (seen : Array Nat) (es : Array MapEntry) (clock : Nat) (hit : a.eval it = .pointer (some ⟨r, 0, none⟩))
    (hr : w.heap[r]? = some (.mapIter (some bm) since seen c0)) (hb : w.heap[bm]? = some (.map es clock)) (hold : ∀ x ∈ es.toList, x.born < since) (hsc : since ≤ c0)
    (hDone : (leftOf es seen).size = 0 → wpList P ops Q rest (a.put o.dst (.tuple #[.bool false])) w)
    (hMore : ∀ e ∈ (leftOf es seen).toList, ∀ w1 : World, (w1 = w ∨ w1 = w.drew) → wpList P ops Q rest (a.put o.dst (.tuple #[.bool true, e.key, e.val])) (setBlock w1 r (.mapIter (some bm) since (seen.push e.born) clock))) :
    wpList P ops Q (o :: rest) a w := by
  refine wpList_plain hg fun K' hK' => ?_
  unfold Oper.wp
  rcases run_next_at (P := P) w o.type r bm since c0 seen es clock hr hb hold hsc with ⟨h0, hrun⟩ | ⟨e, he, w1, hw1, hrun⟩
  · simp [execOp, hop, hit, hrun, Result.andThen]
    exact hK' _ _ (hDone h0)
  · simp [execOp, hop, hit, hrun, Result.andThen]
    exact hK' _ _ (hMore e he w1 hw1)
theorem heap_setBlock_ne {w : World} {b k : Nat} (h : k ≠ b) (o : Obj) : (setBlock w b o).heap[k]? = w.heap[k]? := by
  show (w.heap.setIfInBounds b o)[k]? = _
  rw [Array.getElem?_setIfInBounds_ne (Ne.symm h)]
theorem heap_setBlock_same {w : World} {b : Nat} {x : Obj} (h : w.heap[b]? = some x) (o : Obj) : (setBlock w b o).heap[b]? = some o := by
  show (w.heap.setIfInBounds b o)[b]? = _
  have := lt_of_some h
  simp [this]
theorem Fr.setBlock_new {K : Nat → Obj → Prop} {a w : World} (h : Fr K a w) {r : Nat} (hr : a.heap.size ≤ r) (o : Obj) : Fr K a (setBlock w r o) :=
  ⟨h.os, h.tape, h.output, by have := h.size; show _ ≤ (w.heap.setIfInBounds r o).size; simpa using this, fun b x hb hk => by
    have := lt_of_some hb
    rw [heap_setBlock_ne (by omega)]; exact h.keep b x hb hk⟩
theorem setBlock_size (w : World) (r : Nat) (o : Obj) : (setBlock w r o).heap.size = w.heap.size := by show (w.heap.setIfInBounds r o).size = _; simp
def mapE (r : Rec) : MapEntry := { key := .int .i64 r.key, val := .pointer (some ⟨r.blk, 0, none⟩), born := r.born }
theorem entries_mapE (R : List Rec) : (entriesOf .i64 (R.map Rec.ent)).toList = R.map mapE := by simp [entriesOf, Rec.ent, mapE, Function.comp_def]
theorem left_mem {R : List Rec} {seen : Array Nat} {e : MapEntry} (h : e ∈ (leftOf (entriesOf .i64 (R.map Rec.ent)) seen).toList) : ∃ r ∈ R, e = mapE r ∧ ¬ r.born ∈ seen.toList := by
  unfold leftOf at h
  rw [Array.toList_filter, List.mem_filter, entries_mapE] at h
  obtain ⟨r, hr, rfl⟩ := List.mem_map.1 h.1
  refine ⟨r, hr, rfl, fun hs => ?_⟩
  have h2 := h.2
  have : seen.contains (mapE r).born = true := by simp [mapE]; simpa using hs
  rw [this] at h2
  simp at h2
theorem left_none {R : List Rec} {seen : Array Nat} (h : (leftOf (entriesOf .i64 (R.map Rec.ent)) seen).size = 0) : ∀ r ∈ R, r.born ∈ seen.toList := by
  intro r hr
  apply Classical.byContradiction
  intro hn
  have hm : mapE r ∈ (leftOf (entriesOf .i64 (R.map Rec.ent)) seen).toList := by
    unfold leftOf
    rw [Array.toList_filter, List.mem_filter, entries_mapE]
    refine ⟨List.mem_map_of_mem hr, ?_⟩
    have : seen.contains (mapE r).born = false := by
      rw [Bool.eq_false_iff]; intro e; apply hn; simpa [mapE] using e
    rw [this]; rfl
  have : 0 < (leftOf (entriesOf .i64 (R.map Rec.ent)) seen).toList.length := List.length_pos_of_mem hm
  rw [Array.length_toList] at this
  omega

/-- What the loop over the table's map has: those that came. -/
structure Came (w wr : World) (bm c : Nat) (R P : List Rec) (o : Value) : Prop where
  row : RowI wr w.heap.size o (P.map Rec.key)
  iter : ∃ (seen : Array Nat) (c0 : Nat), wr.heap[w.heap.size]? = some (.mapIter (some bm) c seen c0) ∧ seen.toList = P.map Rec.born ∧ c ≤ c0
  sub : ∀ p ∈ P, p ∈ R
  nodup : (P.map Rec.born).Nodup
  apart : o.ownBlock ≠ some w.heap.size
  fr : Fr (fun _ _ => True) w wr
theorem nodup_le : ∀ {l m : List Nat}, l.Nodup → (∀ x ∈ l, x ∈ m) → l.length ≤ m.length
  | [], _, _, _ => Nat.zero_le _
  | x :: l, m, hn, hs => by
    rw [List.nodup_cons] at hn
    have hx : x ∈ m := hs x (by simp)
    have ih := nodup_le (l := l) (m := m.erase x) hn.2 fun y hy => by
      have hne : y ≠ x := fun e => hn.1 (e ▸ hy)
      exact (List.mem_erase_of_ne hne).2 (hs y (by simp [hy]))
    rw [List.length_erase_of_mem hx] at ih
    have := List.length_pos_of_mem hx
    rw [List.length_cons]
    omega
theorem Came.few {w wr : World} {bm c : Nat} {R P : List Rec} {o : Value} (h : Came w wr bm c R P o) : P.length ≤ R.length := by
  have := nodup_le (m := R.map Rec.born) h.nodup fun x hx => by
    obtain ⟨p, hp, rfl⟩ := List.mem_map.1 hx
    exact List.mem_map_of_mem (h.sub p hp)
  simpa using this
/-- All have come: they are the table's, in some order. -/
theorem came_all {R P : List Rec} (hk : (R.map Rec.key).Nodup) (hb : (R.map Rec.born).Nodup) (sub : ∀ p ∈ P, p ∈ R) (nd : (P.map Rec.born).Nodup) (all : ∀ r ∈ R, r.born ∈ P.map Rec.born) : (P.map Rec.key).Perm (R.map Rec.key) := by
  have hP : P.Nodup := (List.pairwise_map.1 nd).imp fun h e => h (by rw [e])
  have hR : R.Nodup := (List.pairwise_map.1 hb).imp fun h e => h (by rw [e])
  refine List.Perm.map _ ((List.perm_ext_iff_of_nodup hP hR).2 fun r => ⟨sub r, fun hr => ?_⟩)
  obtain ⟨p, hp, e⟩ := List.mem_map.1 (all r hr)
  exact nodup_inj hb (sub p hp) hr e ▸ hp
def lenOf : Value → Nat | .slice _ n _ => n | _ => 0
def SeenAll (R : List Rec) (seen : Array Nat) : Prop := ∀ x ∈ R, x.born ∈ seen.toList
def Unseen (R : List Rec) (seen : Array Nat) (x : Rec) : Prop := x ∈ R ∧ ¬ x.born ∈ seen.toList
/-- An append of one int to a row of the function's own. -/
theorem wpList_append_int1 {ops : Array Oper} {rest : List Oper} {o : Oper} {a : Act} {Q : Exit → Act → World → Prop} (w0 W1 : World) (y : Int) (hF : Hid (Fr (fun _ _ => True) w0 W1)) (hgd : o.guard = none) (s x : Operand)
    (ho : o.op = .call { callee := .builtin .append, args := #[s, x], argTypes := #[54, 54] }) (v : Value) (xs : List Int) (hs : a.eval s = v) (hown : Hid (RowI W1 w0.heap.size v xs))
    (hx : a.eval x = .slice (some ⟨W1.heap.size, 0, none⟩) 1 1) (r : List Int) (hr : Hid (xs ++ [y] = r)) (n : Nat) (hn : Hid (r.length = n)) (hm : n ≤ 2000000)
    (h : ∀ a' c' w', Hid (RowI w' w0.heap.size (.slice a' n c') r) → Hid (Fr (fun _ _ => True) w0 w') → Hid (Fr (fun b _ => v.ownBlock ≠ some b) W1 w') → Hid (∀ b, b < W1.heap.size → v.ownBlock ≠ some b → (Value.slice a' n c').ownBlock ≠ some b) → wpList Try.prog ops Q rest (a.put o.dst (.slice a' n c')) w') :
    wpList Try.prog ops Q (o :: rest) a (W1.alloc (.cells #[.int .i64 y] 3 (0, 0))) := by
  obtain ⟨i0, hi, hz0, hz1, hz2⟩ := info_parts info_int
  have hr := hr.out
  have hn := hn.out
  subst hr hn
  have r1 := hown.out
  rw [List.length_append, List.length_singleton] at hm
  have hsrc := (NumsAt.lit1 W1 y).src (by simp)
  refine wpList_append_src2 _ hgd s x 54 ho w0.heap.size 3 i0 (.int .i64 0) 1 8 Try.underlying54 hi hz0 hz1 hz2 rfl (by decide) v xs.length (xs.map intV) hs (r1.tt ((Fr.refl _ _).alloc _)) _ 1 [intV y] hx hsrc (by unfold maxLen; omega) (by omega) (by have := hF.out.size; simp; omega) ?_
  intro v' w' h1 h2 h3
  have e1 : xs.map intV ++ [intV y] = (xs ++ [y]).map intV := by simp
  have e2 : xs.length + 1 = (xs ++ [y]).length := by simp
  rw [e1, e2] at h1
  obtain ⟨a', c', rfl⟩ := RowI.form h1
  exact h a' c' w' h1 ((hF.out.alloc _).grown_new h2 (own_new r1)) (((Fr.refl _ _).alloc _).trans (Fr.of_grown h2 fun k o e _ hne => hne e)) fun b hb hv => h3.ne hv (by simp; omega)
/-- What a step of the range over the table's map leaves. -/
structure Stept (w w' : World) (r bm c : Nat) (seen : Array Nat) (x : Rec) : Prop where
  iter : w'.heap[r]? = some (.mapIter (some bm) c (seen.push x.born) c)
  fr : Fr (fun b _ => b ≠ r) w w'
  size : w'.heap.size = w.heap.size
theorem wpList_next_rec {ops : Array Oper} {rest : List Oper} {o : Oper} {a : Act} {Q : Exit → Act → World → Prop} (w : World) (hg : o.guard = none) (it : Operand) (hop : o.op = Op.next it false)
    (r bm c c0 : Nat) (seen : Array Nat) (R : List Rec) (hit : a.eval it = .pointer (some ⟨r, 0, none⟩))
    (hr : Hid (w.heap[r]? = some (.mapIter (some bm) c seen c0))) (hb : Hid (w.heap[bm]? = some (.map (entriesOf .i64 (R.map Rec.ent)) c))) (hold : Hid (∀ x ∈ R, x.born < c)) (hnd : Hid ((R.map Rec.born).Nodup)) (hsc : c ≤ c0)
    (hDone : Hid (SeenAll R seen) → wpList Try.prog ops Q rest (a.put o.dst (.tuple #[.bool false])) w)
    (hMore : ∀ (x : Rec) (w' : World), Hid (Unseen R seen x) → Hid (Stept w w' r bm c seen x) → (Instr.entry (.pointer (some ⟨r, 0, none⟩))).run Try.prog w' = .ok (.tuple #[.int .i64 x.key, .pointer (some ⟨x.blk, 0, none⟩)]) w' →
      wpList Try.prog ops Q rest (a.put o.dst (.tuple #[.bool true, .int .i64 x.key, .pointer (some ⟨x.blk, 0, none⟩)])) w') :
    wpList Try.prog ops Q (o :: rest) a w := by
  refine wpList_next_e w hg it hop r bm c c0 seen _ c hit hr.out hb.out (fun x hx => ?_) hsc (fun h0 => hDone (left_none h0)) fun e he w1 hw1 => ?_
  · rw [entries_mapE] at hx
    obtain ⟨y, hy, rfl⟩ := List.mem_map.1 hx
    exact hold.out y hy
  · obtain ⟨x, hx, rfl, hs⟩ := left_mem he
    have hne : bm ≠ r := fun e => by have := hb.out; rw [e, hr.out] at this; cases this
    have hh : w1.heap = w.heap := by rcases hw1 with rfl | rfl <;> rfl
    have hr1 : w1.heap[r]? = some (.mapIter (some bm) c seen c0) := by rw [hh]; exact hr.out
    have hi := heap_setBlock_same hr1 (.mapIter (some bm) c (seen.push x.born) c)
    refine hMore x _ ⟨hx, hs⟩ ⟨hi, ⟨?_, ?_, ?_, by rw [setBlock_size, hh]; exact Nat.le_refl _, fun b o hb hk => by rw [heap_setBlock_ne hk, hh]; exact hb⟩, by rw [setBlock_size, hh]⟩ ?_
    · rcases hw1 with rfl | rfl <;> rfl
    · rcases hw1 with rfl | rfl <;> rfl
    · rcases hw1 with rfl | rfl <;> rfl
    · refine run_entry_at (P := Try.prog) _ r bm c seen _ c (mapE x) hi (by rw [heap_setBlock_ne hne, hh]; exact hb.out) (by rw [entries_mapE]; exact List.mem_map_of_mem hx) ?_
      rw [entries_mapE, List.map_map]; exact hnd.out

set_option maxRecDepth 100000 in
set_option maxHeartbeats 2000000 in
theorem clients_some (w : World) (B bt bm c : Nat) (R : List Rec) (h : Tab w B bt (some bm) c R) (hlen : R.length ≤ 1000) :
    Calls Try.prog 21 #[.pointer (some ⟨bt, 0, none⟩)] w fun e w' => (∃ v, e = .returned v ∧ RowI w' w.heap.size v (srt (R.map Rec.key))) ∧ Fr (fun _ _ => True) w w' := by
  have hc := h.cell
  have hm := h.map bm rfl
  have hrg := run_range_map (P := Try.prog) w 25 _ _ bm _ c Try.underlying25 hm.2
  have HM := Lib.hid hm.2
  have HK := Lib.hid h.keys
  have HB := Lib.hid h.borns
  have HO := Lib.hid h.old
  have hbm := lt_of_some hm.2
  clear h hm
  go_enter Try.func21, Try.ntmps21
  go_wp2_with fail
  clear hrg hc
  go_loopw [3, 4] (fun o _ wr => ∃ P, Came w wr bm c R P o) (fun o _ _ => R.length - lenOf o)
  case atStart => exact ⟨[], RowI.nil _ _, ⟨#[], c, heap_alloc_new _ _, rfl, Nat.le_refl _⟩, (fun p hp => by cases hp), List.nodup_nil, by simp [Value.ownBlock], (Fr.refl _ _).alloc _⟩
  case round =>
    obtain ⟨P, hP⟩ := hrel
    have hfew := hP.few
    obtain ⟨a, cap, rfl⟩ := hP.row.form
    obtain ⟨seen, c0, hit, hseen, hc0⟩ := hP.iter
    have HP := Lib.hid hP
    have HI := Lib.hid hit
    have HS := Lib.hid hseen
    have hmb := Lib.hid (hP.fr.keep _ _ HM.out trivial)
    clear hP hit hseen
    rw [List.length_map]
    go_wp2_with (at_next; refine wpList_next_rec _ rfl _ rfl w.heap.size bm c c0 seen R rfl HI hmb HO HB hc0 ?_ ?_)
    · intro hall
      have hal := hall.out
      unfold SeenAll at hal
      rw [HS.out] at hal
      have HP2 := Lib.hid (came_all HK.out HB.out HP.out.sub HP.out.nodup hal)
      clear hall hal
      have K1 := Lib.hid (sorti_calls wr w.heap.size _ _ HP.out.row (by rw [List.length_map]; omega))
      rw [List.length_map, srt_congr HP2.out] at K1
      go_wp2_with fail
      with_reducible refine K1.out.mono ?_
      rintro e1 w1 ⟨rfl, hr, hg⟩
      have HR := Lib.hid hr
      have HF := Lib.hid (HP.out.fr.grown_new hg (by have := own_new HP.out.row; rwa [List.length_map] at this))
      clear hr hg
      go_wp2
      go_ret
      exact ⟨⟨_, rfl, HR.out⟩, HF.out⟩
    · intro x w1 HX ST hen
      have HO1 : Hid (RowI w1 w.heap.size (.slice a P.length cap) (P.map Rec.key)) := by
        have := HP.out.row
        rw [List.length_map] at this
        have ha := HP.out.apart
        rw [List.length_map] at ha
        exact ownsRow_fr this ST.out.fr fun b o hb _ e => ha (by rw [hb, e])
      have F1 : Hid (Fr (fun _ _ => True) w w1) := old_tt HP.out.fr ST.out.fr fun b _ hb => by omega
      have EQ : Hid (P.map Rec.key ++ [x.key] = (P ++ [x]).map Rec.key) := by simp [Hid]
      have LN : Hid (((P ++ [x]).map Rec.key).length = P.length + 1) := by simp [Hid]
      have NDX : Hid (((P ++ [x]).map Rec.born).Nodup) := by
        rw [List.map_append]
        refine List.nodup_append.2 ⟨HP.out.nodup, by simp, fun y hy z hz e => ?_⟩
        have hz : z = x.born := by simpa using hz
        have := HX.out.2
        rw [HS.out] at this
        exact this (by rw [← hz, ← e]; exact hy)
      have SUB : Hid (∀ p ∈ P ++ [x], p ∈ R) := fun p hp => by
        rcases List.mem_append.1 hp with hp | hp
        · exact HP.out.sub p hp
        · rw [List.mem_singleton.1 hp]; exact HX.out.1
      have hltR : P.length < R.length := by
        have := nodup_le (m := R.map Rec.born) NDX.out fun y hy => by
          obtain ⟨p, hp, rfl⟩ := List.mem_map.1 hy
          exact List.mem_map_of_mem (SUB.out p hp)
        simp at this
        omega
      have AP : Hid ((Value.slice a P.length cap).ownBlock ≠ some w.heap.size) := by have := HP.out.apart; rwa [List.length_map] at this
      go_wp2_with (at_builtin; refine wpList_append_int1 w w1 _ F1 rfl _ _ rfl _ _ rfl HO1 rfl _ EQ (P.length + 1) LN (by omega) ?_)
      intro a1 c1 w2 O1 G1 G2 N1
      clear hen
      go_wp2
      go_roundw
      case rel =>
        refine ⟨P ++ [x], by rw [← EQ.out]; exact O1.out, ⟨seen.push x.born, c, ?_, ?_, Nat.le_refl _⟩, ?_, ?_, ?_, G1.out⟩
        · exact G2.out.keep _ _ ST.out.iter AP.out
        · rw [Array.toList_push, HS.out]; simp
        · exact SUB.out
        · exact NDX.out
        · exact N1.out _ (lt_of_some ST.out.iter) AP.out
      case measure => simp [lenOf]; omega
theorem clients_none (w : World) (B bt c : Nat) (R : List Rec) (h : Tab w B bt none c R) :
    Calls Try.prog 21 #[.pointer (some ⟨bt, 0, none⟩)] w fun e w' => (∃ v, e = .returned v ∧ RowI w' w.heap.size v (srt (R.map Rec.key))) ∧ Fr (fun _ _ => True) w w' := by
  have hR := h.nil rfl
  subst hR
  have hc := h.cell
  have hrg := run_range_nilMap (P := Try.prog) w 25 _ _ Try.underlying25
  have hnx := fun ty => run_next_nilMap (P := Try.prog) w ty 0 0 #[]
  clear h
  go_enter Try.func21, Try.ntmps21
  go_wp2_with fail
  clear hrg hc
  go_loopw [3, 4] (fun o _ wr => o = .slice none 0 0 ∧ wr = w.alloc (.mapIter none 0 #[] 0)) (fun o _ _ => 0)
  case atStart => exact ⟨rfl, rfl⟩
  case round =>
    obtain ⟨rfl, rfl⟩ := hrel
    have K1 := Lib.hid (sorti_calls (w.alloc (.mapIter none 0 #[] 0)) w.heap.size (.slice none 0 0) [] (RowI.nil _ _) (by simp))
    go_wp2_with fail
    with_reducible refine K1.out.mono ?_
    rintro e1 w1 ⟨rfl, hr, hg⟩
    have HR := Lib.hid hr
    have HF := Lib.hid (((Fr.refl (fun _ _ => True) w).alloc _).grown_new hg (fun k e => by cases e))
    clear hr hg
    go_wp2
    go_ret
    exact ⟨⟨_, rfl, HR.out⟩, HF.out⟩
theorem clients_calls (w : World) (B bt : Nat) (M : MT) (h : TabM w B bt M) (hlen : M.length ≤ 1000) :
    Calls Try.prog 21 #[.pointer (some ⟨bt, 0, none⟩)] w fun e w' => (∃ v, e = .returned v ∧ RowI w' w.heap.size v (srt (M.map (·.1)))) ∧ Fr (fun _ _ => True) w w' := by
  obtain ⟨mv, c, R, h, rfl⟩ := h
  rw [List.map_map]
  cases mv with
  | none => exact clients_none w B bt c R h
  | some bm => exact clients_some w B bt bm c R h (by simpa using hlen)
end Go.Proofs.Ytkaikckehkcfhaa
/- The sessions' table: Pack. -/
namespace Go.Proofs.Ytkaikckehkcfhaa
open Go.RowKit
set_option linter.unusedVariables false
set_option linter.unusedSimpArgs false

section
variable {P : Program} {t k e : TypeId} {q : IntKind} (ht : P.underlying t = some (.map k e)) (hk : P.underlying k = some (.int q))
include ht hk in
theorem run_lookup_int1 (b : Nat) (n : Int) (l : List (Int × Value × Nat)) (c : Nat) (w : World) (v : Value) (hb : w.heap[b]? = some (.map (entriesOf q l) c)) (hl : look l n = some v) :
    (Instr.lookup t (.map (some b)) (.int q n) false).run P w = .ok v w := by
  unfold Instr.lookup
  simp [run_underlying ht, run_getObj_map w b _ c hb, run_checkKey_int hk, run_findKey_int hk, hl]
end
theorem Tab.lookup1 {w : World} {B bt bm : Nat} {c : Nat} {R : List Rec} (h : Tab w B bt (some bm) c R) {n : Int} {r : Rec} (hr : findR R n = some r) :
    (Instr.lookup 25 (.map (some bm)) (.int .i64 n) false).run Try.prog w = .ok (.pointer (some ⟨r.blk, 0, none⟩)) w := by
  refine run_lookup_int1 Try.underlying25 Try.underlying3 bm n _ c w _ (h.map bm rfl).2 ?_
  rw [look_ent, hr]; rfl

/-- A session's bytes. -/
def entB (x : Int × Int × List UInt8) : List UInt8 := le x.1.toNat 1 ++ (le x.2.1.toNat 4 ++ byt x.2.2)
def packL (L : MT) : List UInt8 := le L.length 1 ++ (L.map entB).flatten
/-- The sessions, by clients. -/
def sortM (M : MT) : MT := (srt (M.map (·.1))).filterMap fun c => findM M c
theorem findM_some {M : MT} {c : Int} (h : c ∈ M.map (·.1)) : ∃ x ∈ M, findM M c = some x ∧ x.1 = c := by
  obtain ⟨y, hy, e⟩ := List.mem_map.1 h
  have : (findM M c).isSome = true := by
    unfold findM; rw [List.find?_isSome]; exact ⟨y, hy, by simpa using e⟩
  obtain ⟨x, hx⟩ := Option.isSome_iff_exists.1 this
  exact ⟨x, List.mem_of_find?_eq_some hx, hx, by simpa using List.find?_some hx⟩
theorem filterMap_all {α β : Type} (f : α → Option β) : ∀ (l : List α), (∀ x ∈ l, (f x).isSome = true) → (l.filterMap f).length = l.length
  | [], _ => rfl
  | x :: l, h => by
    obtain ⟨y, hy⟩ := Option.isSome_iff_exists.1 (h x (by simp))
    rw [List.filterMap_cons_some hy, List.length_cons, filterMap_all f l fun z hz => h z (by simp [hz]), List.length_cons]
theorem srt_mem {l : List Int} {c : Int} : c ∈ srt l ↔ c ∈ l := (srt_perm l).mem_iff
theorem sortM_len (M : MT) : (sortM M).length = M.length := by
  unfold sortM
  rw [filterMap_all _ _ fun c hc => by
    obtain ⟨x, _, hx, _⟩ := findM_some (srt_mem.1 hc)
    rw [hx]; rfl, srt_len, List.length_map]
/-- What is written behind k sessions. -/
def packK (M : MT) (k : Nat) : List UInt8 := le M.length 1 ++ ((((srt (M.map (·.1))).take k).filterMap fun c => findM M c).map entB).flatten
theorem packK_succ (M : MT) (k : Nat) (hk : k < (srt (M.map (·.1))).length) (x : Int × Int × List UInt8) (hx : findM M (srt (M.map (·.1)))[k] = some x) : packK M (k + 1) = packK M k ++ entB x := by
  unfold packK
  rw [List.take_succ_eq_append_getElem hk, List.filterMap_append, List.map_append, List.flatten_append]
  simp [hx]
theorem packK_all (M : MT) : packK M (srt (M.map (·.1))).length = packL (sortM M) := by
  unfold packK packL sortM
  rw [List.take_length]
  have := sortM_len M
  unfold sortM at this
  rw [this]
theorem entB_len (x : Int × Int × List UInt8) : (entB x).length ≤ 1007 := by
  unfold entB
  have := byt_length x.2.2
  simp [le_length]; omega
theorem flat_len (l : List (List UInt8)) (h : ∀ x ∈ l, x.length ≤ 1007) : l.flatten.length ≤ 1007 * l.length := by
  induction l with
  | nil => simp
  | cons x l ih =>
    have h1 := ih fun y hy => h y (by simp [hy])
    have h2 := h x (by simp)
    rw [List.flatten_cons, List.length_append, List.length_cons]
    omega
theorem packK_len (M : MT) (k : Nat) (hM : M.length ≤ 300) : (packK M k).length ≤ 400000 := by
  unfold packK
  rw [List.length_append, le_length]
  have h1 := flat_len ((((srt (M.map (·.1))).take k).filterMap fun c => findM M c).map entB) (fun x hx => by obtain ⟨y, _, rfl⟩ := List.mem_map.1 hx; exact entB_len y)
  have h2 := List.length_filterMap_le (fun c => findM M c) ((srt (M.map (·.1))).take k)
  have h3 : ((srt (M.map (·.1))).take k).length ≤ M.length := by
    rw [List.length_take, srt_len, List.length_map]; omega
  rw [List.length_map] at h1
  omega

set_option maxRecDepth 100000 in
set_option maxHeartbeats 2000000 in
theorem pack_some (w : World) (B bt bm c : Nat) (R : List Rec) (h : Tab w B bt (some bm) c R) (hlen : R.length ≤ 300) (hkey : ∀ r ∈ R, 0 ≤ r.key ∧ r.key ≤ 255) :
    Calls Try.prog 15 #[.pointer (some ⟨bt, 0, none⟩)] w fun e w' => (∃ a cap, e = .returned (.slice a (packL (sortM (R.map Rec.abs))).length cap) ∧ BytesAt (New w.heap.size) w' (.slice a (packL (sortM (R.map Rec.abs))).length cap) (packL (sortM (R.map Rec.abs)))) ∧ Fr (fun _ _ => True) w w' := by
  have HKC := Lib.hid (fun w' (f : Fr (fun _ _ => True) w w') => clients_calls w' B bt (R.map Rec.abs) (TabM.fr ⟨some bm, c, R, h, rfl⟩ f) (by simp; omega))
  have H := Lib.hid h
  have HKY := Lib.hid hkey
  obtain ⟨M, hM⟩ : ∃ M, M = R.map Rec.abs := ⟨_, rfl⟩
  have HM := Lib.hid hM
  have hML : M.length = R.length := by rw [hM, List.length_map]
  have HPL := Lib.hid (fun k => packK_len M k (by omega))
  have HSL : Hid ((srt (M.map (·.1))).length = R.length) := by rw [srt_len, List.length_map, hML]; exact rfl
  have HFI : Hid (∀ z, z ∈ srt (M.map (·.1)) → ∃ r ∈ R, findR R z = some r ∧ findM M z = some r.abs ∧ r.key = z) := fun z hz => by
    obtain ⟨x, _, hx, _⟩ := findM_some (srt_mem.1 hz)
    have hx' := hx
    rw [hM, findM_abs] at hx'
    cases hr : findR R z with
    | none => rw [hr] at hx'; cases hx'
    | some r =>
      rw [hr] at hx'
      refine ⟨r, (findR_mem hr).1, rfl, ?_, (findR_mem hr).2⟩
      rw [hx, ← Option.some.inj hx']
  have HSU : Hid (∀ k, (hk : k < (srt (M.map (·.1))).length) → ∀ x, findM M (srt (M.map (·.1)))[k] = some x → packK M (k + 1) = packK M k ++ entB x) := fun k hk x hx => packK_succ M k hk x hx
  have HPA := Lib.hid (packK_all M)
  have HP0 : Hid (packK M 0 = le R.length 1) := by unfold packK; rw [hML]; simp [Hid]
  rw [← hM] at HKC ⊢
  have hc := h.cell
  have hz := fun ty => h.len ty
  have hlt := lt_of_some h.top
  generalize packL (sortM M) = out at *
  generalize srt (M.map (·.1)) = S at *
  have hRL := hlen
  clear h hkey hM hML
  obtain ⟨N, hN⟩ : ∃ N, N = R.length := ⟨_, rfl⟩
  have HN := Lib.hid hN
  rw [← hN] at hRL hlen HSL HP0 hz
  clear hN
  obtain ⟨W1, hW1⟩ : ∃ W1, w.alloc (.cells #[.slice none 0 0] 71 (0, 0)) = W1 := ⟨_, rfl⟩
  have FW1 : Hid (Fr (fun _ _ => True) w W1) := hW1 ▸ (Fr.refl _ _).alloc _
  have L0 : Hid (LWP (fun c => c < w.heap.size) W1 w.heap.size []) := hW1 ▸ LWP.mk0 w fun c hc => hc
  have K1 := Lib.hid (lwp_number W1 w.heap.size [] N 1 N 1 rfl rfl L0.out (fun c hc => Nat.lt_of_lt_of_le hc FW1.out.size) (by omega) (by omega) (by omega) (by simp))
  have TW1 := Lib.hid (H.out.fr FW1.out)
  have c1 := TW1.out.cell
  have hz1 : ∀ ty, (Builtin.len_ #[25] ty #[.map (some bm)]).run Try.prog W1 = .ok (.int .i64 N) W1 := fun ty => by
    have := TW1.out.len ty
    rwa [← HN.out] at this
  clear hc hz
  go_enter Try.func15, Try.ntmps15
  go_wp2_with fail
  clear hW1
  with_reducible refine K1.out.mono ?_
  rintro e1 w1 ⟨rfl, l1, f1⟩
  rw [List.nil_append, ← HP0.out] at l1
  have L1 := Lib.hid l1
  have F1 : Hid (Fr (fun _ _ => True) w w1) := old_tt FW1.out f1 fun b _ hb => hb
  clear l1 K1 L0 c1 hz1 f1 FW1 TW1
  have K2 := Lib.hid (HKC.out w1 F1.out)
  go_wp2_with fail
  with_reducible refine K2.out.mono ?_
  rintro e1 w2 ⟨⟨v, rfl, hr⟩, f2⟩
  have F2 := Lib.hid (F1.out.trans f2)
  obtain ⟨a, cap, rfl⟩ := hr.form
  have L2 : Hid (∃ Pr : Nat → Prop, LWP Pr w2 w.heap.size (packK M 0) ∧ (∀ c, c < w.heap.size → Pr c) ∧ (∀ c, Pr c → c < w2.heap.size) ∧ IntsAt (fun c _ => Pr c) w2 (.slice a S.length cap) S) := by
    have l2 := (L1.out.more (Pr' := fun c => c < w.heap.size ∨ w1.heap.size ≤ c) fun c hc => hc).tt f2
    refine ⟨fun c => (c < w.heap.size ∨ w1.heap.size ≤ c) ∧ c < w2.heap.size, ?_, fun c hc => ⟨.inl hc, Nat.lt_of_lt_of_le hc F2.out.size⟩, fun c hc => hc.2, ?_⟩
    · obtain ⟨u, hu, hk⟩ := l2.at'
      exact ⟨fun hc => l2.new hc.1, u, hu, fun k e hc => hk k e hc.1⟩
    · obtain ⟨b0, cp, hv, hx⟩ := hr.ints
      refine ⟨b0, cp, hv, ?_⟩
      rcases hx with hx | ⟨b, off, o, ha, hb, hkb, hcc⟩
      · exact .inl hx
      · exact .inr ⟨b, off, o, ha, hb, ⟨.inr hkb, lt_of_some hb⟩, hcc⟩
  clear hr f2 K2 HKC L1 F1
  obtain ⟨Pr, l2, hP0, hP1, i2⟩ := L2.out
  have HP0' := Lib.hid hP0
  have HP1' := Lib.hid hP1
  have LL := Lib.hid l2
  have II := Lib.hid i2
  rw [HSL.out] at II ⊢
  clear L2 l2 hP0 hP1 i2
  go_wp2_with fail
  go_loopw [5, 16] (fun _ i wr => ∃ k : Nat, k ≤ N ∧ i = .int .i64 k ∧ LWP Pr wr w.heap.size (packK M k) ∧ Fr (fun c _ => Pr c) w2 wr) (fun _ i _ => N - (intOf i).toNat)
  case atStart => exact ⟨0, Nat.zero_le _, rfl, LL.out, Fr.refl _ _⟩
  case round =>
    obtain ⟨k, hk, rfl, hl, hf⟩ := hrel
    have HL := Lib.hid hl
    have HF := Lib.hid hf
    have FW : Hid (Fr (fun _ _ => True) w wr) := old_tt F2.out hf fun b _ hb => HP0'.out b hb
    have HPr : Hid (∀ c, Pr c → c < wr.heap.size) := fun c hc => Nat.lt_of_lt_of_le (HP1'.out c hc) hf.size
    clear hl hf
    by_cases hlt : k < N
    · have l1 : k < S.length := by rw [HSL.out]; exact hlt
      have iw := II.out.fr HF.out fun _ _ h => h
      obtain ⟨b0, o0, ha⟩ := iw.addr (by omega)
      subst ha
      have g1 := iw.cell l1
      obtain ⟨r, hrR, hfr, hfm, hkr⟩ := HFI.out _ (List.getElem_mem l1)
      have HSK := Lib.hid (HSU.out k l1 _ hfm)
      have hk0 := HKY.out r hrR
      have ro := H.out.each r hrR
      have lo := ro.lo
      have hi := ro.hi
      obtain ⟨key, hkey⟩ : ∃ key : Nat, r.key = (key : Int) := Int.eq_ofNat_of_zero_le hk0.1
      obtain ⟨sq, hsq⟩ : ∃ sq : Nat, r.seq = (sq : Int) := Int.eq_ofNat_of_zero_le lo
      have hkb : key ≤ 255 := by omega
      have hsb : sq < 4294967296 := by omega
      have EB : Hid (packK M (k + 1) = ((packK M k ++ le key 1) ++ le sq 4) ++ byt r.bs) := Lib.hid (by
        rw [HSK.out]; unfold entB Rec.abs; simp only [hkey, hsq, Int.toNat_natCast, List.append_assoc])
      have TF : Hid (∀ W, Fr (fun _ _ => True) w W → (Instr.lookup 25 (.map (some bm)) (.int .i64 (key : Int)) false).run Try.prog W = .ok (.pointer (some ⟨r.blk, 0, none⟩)) W ∧ W.cell? ⟨bt, 0, none⟩ = some (.map (some bm)) ∧ W.cell? ⟨r.blk, 0, none⟩ = some (.int .u32 (sq : Int)) ∧ W.cell? ⟨r.blk, 1, none⟩ = some r.rv ∧ BytesAt (fun c _ => Pr c) W r.rv r.bs) := fun W f => by
        have tw := H.out.fr f
        have rw' := tw.each r hrR
        have h1 := tw.lookup1 hfr
        have h2 := rw'.c0
        rw [hsq] at h2
        rw [← hkr, hkey] at h1
        exact ⟨h1, tw.cell, h2, rw'.c1, (ro.bytes.mono (K' := fun c _ => Pr c) fun b o hb _ => HP0'.out b (lt_of_some hb)).tt f⟩
      have hbl := ro.short
      have HPK := HPL.out k
      rw [← hkr, hkey] at g1
      clear hrR hfr hfm hkr hk0 HSK ro hkey hsq l1 iw lo hi
      have K1 := Lib.hid (lwp_number wr w.heap.size (packK M k) key 1 key 1 rfl rfl HL.out HPr.out (by omega) (by omega) (by omega) (by omega))
      go_wp2_with fail
      with_reducible refine K1.out.mono ?_
      rintro e1 w3 ⟨rfl, l3, f3⟩
      have L3 := Lib.hid l3
      have F3 := Lib.hid (HF.out.trans f3)
      have FW3 : Hid (Fr (fun _ _ => True) w w3) := old_tt FW.out f3 fun b _ hb => HP0'.out b hb
      have P3 : Hid (∀ c, Pr c → c < w3.heap.size) := fun c hc => Nat.lt_of_lt_of_le (HPr.out c hc) f3.size
      clear l3 f3 K1 HL HF FW HPr g1
      obtain ⟨x1, x2, x3, x4, _⟩ := TF.out w3 FW3.out
      have K1 := Lib.hid (lwp_number w3 w.heap.size (packK M k ++ le key 1) sq 4 sq 4 rfl rfl L3.out P3.out (by omega) (by omega) (by omega) (by simp [le_length]; omega))
      go_wp2_with fail
      with_reducible refine K1.out.mono ?_
      rintro e1 w4 ⟨rfl, l4, f4⟩
      have L4 := Lib.hid l4
      have F4 := Lib.hid (F3.out.trans f4)
      have FW4 : Hid (Fr (fun _ _ => True) w w4) := old_tt FW3.out f4 fun b _ hb => HP0'.out b hb
      have P4 : Hid (∀ c, Pr c → c < w4.heap.size) := fun c hc => Nat.lt_of_lt_of_le (P3.out c hc) f4.size
      clear l4 f4 K1 L3 F3 FW3 P3 x1 x2 x3 x4
      obtain ⟨x1, x2, x3, x4, x5⟩ := TF.out w4 FW4.out
      have K1 := Lib.hid (lwp_bytes w4 w.heap.size ((packK M k ++ le key 1) ++ le sq 4) r.rv r.bs L4.out P4.out x5 (by simp [le_length]; omega) (by omega))
      rw [← EB.out] at K1
      clear x5
      go_wp2_with fail
      with_reducible refine K1.out.mono ?_
      rintro e1 w5 ⟨rfl, l5, f5⟩
      have L5 := Lib.hid l5
      have F5 := Lib.hid (F4.out.trans f5)
      clear l5 f5 K1 L4 F4 FW4 P4 x1 x2 x3 x4
      go_wp2
      go_roundw
      case rel => exact ⟨k + 1, by omega, by go_num, L5.out, F5.out⟩
      case measure => simp [intOf]; omega
    · obtain rfl : k = N := by omega
      have K1 := Lib.hid (lwp_out wr w.heap.size (packK M k) HL.out (by have := HPL.out k; omega))
      rw [show packK M k = out from by rw [← HPA.out, HSL.out]] at K1
      go_wp2_with fail
      with_reducible refine K1.out.mono ?_
      rintro e1 w3 ⟨⟨a3, cap3, rfl, hb⟩, f3⟩
      have B3 : Hid (BytesAt (New w.heap.size) w3 (.slice a3 out.length cap3) out) := hb.mono fun b o _ hk => ⟨by have := hk.1; have := FW.out.size; omega, hk.2⟩
      have FW3 := Lib.hid (FW.out.trans f3)
      clear hb f3 K1
      go_wp2
      go_ret
      exact ⟨⟨_, _, rfl, B3.out⟩, FW3.out⟩

set_option maxRecDepth 100000 in
set_option maxHeartbeats 2000000 in
theorem pack_none (w : World) (B bt c : Nat) (R : List Rec) (h : Tab w B bt none c R) :
    Calls Try.prog 15 #[.pointer (some ⟨bt, 0, none⟩)] w fun e w' => (∃ a cap, e = .returned (.slice a (packL (sortM (R.map Rec.abs))).length cap) ∧ BytesAt (New w.heap.size) w' (.slice a (packL (sortM (R.map Rec.abs))).length cap) (packL (sortM (R.map Rec.abs)))) ∧ Fr (fun _ _ => True) w w' := by
  have hR := h.nil rfl
  subst hR
  have HKC := Lib.hid (fun w' (f : Fr (fun _ _ => True) w w') => clients_none w' B bt c [] (h.fr f))
  have EO : Hid (packL (sortM (([] : List Rec).map Rec.abs)) = le 0 1) := by unfold sortM; simp [srt_nil, packL, Hid]
  generalize packL (sortM (([] : List Rec).map Rec.abs)) = out at *
  obtain ⟨W1, hW1⟩ : ∃ W1, w.alloc (.cells #[.slice none 0 0] 71 (0, 0)) = W1 := ⟨_, rfl⟩
  have FW1 : Hid (Fr (fun _ _ => True) w W1) := hW1 ▸ (Fr.refl _ _).alloc _
  have L0 : Hid (LW w W1 w.heap.size []) := hW1 ▸ LW.mk0 (Fr.refl _ _)
  have K1 := Lib.hid (lw_number w W1 w.heap.size [] 0 1 0 1 rfl rfl L0.out (by omega) (by omega) (by omega) (by simp))
  have TW1 := Lib.hid (h.fr FW1.out)
  have c1 := TW1.out.cell
  have hz1 : ∀ ty, (Builtin.len_ #[25] ty #[.map none]).run Try.prog W1 = .ok (.int .i64 0) W1 := fun ty => TW1.out.len ty
  clear h
  go_enter Try.func15, Try.ntmps15
  go_wp2_with fail
  clear hW1
  with_reducible refine K1.out.mono ?_
  rintro e1 w1 ⟨rfl, l1⟩
  rw [List.nil_append, ← EO.out] at l1
  have L1 := Lib.hid l1
  clear l1 K1 L0 c1 hz1 FW1 TW1
  have K2 := Lib.hid (HKC.out w1 L1.out.fr)
  rw [List.map_nil, srt_nil] at K2
  go_wp2_with fail
  with_reducible refine K2.out.mono ?_
  rintro e1 w2 ⟨⟨v, rfl, hr⟩, f2⟩
  have L2 := Lib.hid (L1.out.tt f2)
  obtain ⟨a, cap, rfl⟩ := hr.form
  rw [List.length_nil]
  clear hr f2 K2 HKC L1
  go_wp2_with fail
  go_loop [5, 16] (fun _ i => i = .int .i64 0) (fun _ i => 0)
  case atStart => exact rfl
  case round =>
    obtain rfl := hrel
    have K1 := Lib.hid (lw_out w w2 w.heap.size out L2.out (by rw [EO.out]; simp [le_length]))
    go_wp2_with fail
    with_reducible refine K1.out.mono ?_
    rintro e1 w3 ⟨⟨a3, cap3, rfl, hb⟩, f3⟩
    have B3 : Hid (BytesAt (New w.heap.size) w3 (.slice a3 out.length cap3) out) := hb.mono fun b o _ hk => ⟨by have := hk.1; have := L2.out.fr.size; omega, hk.2⟩
    have F3 := Lib.hid f3
    clear hb f3 K1
    go_wp2
    go_ret
    exact ⟨⟨_, _, rfl, B3.out⟩, F3.out⟩
theorem pack_calls (w : World) (B bt : Nat) (M : MT) (h : TabM w B bt M) (hlen : M.length ≤ 300) (hkey : ∀ x ∈ M, 0 ≤ x.1 ∧ x.1 ≤ 255) :
    Calls Try.prog 15 #[.pointer (some ⟨bt, 0, none⟩)] w fun e w' => (∃ a cap, e = .returned (.slice a (packL (sortM M)).length cap) ∧ BytesAt (New w.heap.size) w' (.slice a (packL (sortM M)).length cap) (packL (sortM M))) ∧ Fr (fun _ _ => True) w w' := by
  obtain ⟨mv, c, R, h, rfl⟩ := h
  cases mv with
  | none => exact pack_none w B bt c R h
  | some bm => exact pack_some w B bt bm c R h (by simpa using hlen) fun r hr => hkey r.abs (List.mem_map_of_mem hr)
end Go.Proofs.Ytkaikckehkcfhaa
/- The sessions' table out of bytes: plainly; a store into a map by its entry. -/
namespace Go.Proofs.Ytkaikckehkcfhaa
open Go.RowKit
set_option linter.unusedVariables false
set_option linter.unusedSimpArgs false

/-- What is known while bytes are read as a table. -/
structure US where
  bs : List UInt8
  sh : Bool
  last : Int
  wrong : Bool
  L : MT
def uC (s : US) : Nat := (numR s.bs s.sh 1).1
def uS (s : US) : Nat := (numR (numR s.bs s.sh 1).2.1 (numR s.bs s.sh 1).2.2 4).1
def uB (s : US) : List UInt8 × List UInt8 × Bool := bytR (numR (numR s.bs s.sh 1).2.1 (numR s.bs s.sh 1).2.2 4).2.1 (numR (numR s.bs s.sh 1).2.1 (numR s.bs s.sh 1).2.2 4).2.2
def uStep (s : US) : US := ⟨(uB s).2.1, (uB s).2.2, uC s, s.wrong || (decide ((uC s : Int) ≤ s.last) || (decide (16 ≤ uC s) || decide (9 < (uB s).1.length))), s.L ++ [((uC s : Int), (uS s : Int), (uB s).1)]⟩
def uRun (s : US) : Nat → US
  | 0 => s
  | k + 1 => uStep (uRun s k)
def uFirst (bs : List UInt8) : US := ⟨(numR bs false 1).2.1, (numR bs false 1).2.2, -1, false, []⟩
def uEnd (bs : List UInt8) : US := uRun (uFirst bs) (numR bs false 1).1
/-- Why there is no table, or 0; the table. -/
def unpM (bs : List UInt8) : Int × MT :=
  if endL (uEnd bs).bs (uEnd bs).sh = 0 ∧ ((uEnd bs).wrong = true ∨ 6 < (numR bs false 1).1) then (1, []) else if endL (uEnd bs).bs (uEnd bs).sh = 0 then (0, (uEnd bs).L) else (endL (uEnd bs).bs (uEnd bs).sh, [])
theorem uStep_len (s : US) : (uStep s).bs.length ≤ s.bs.length := by
  have h1 := numR_len s.bs s.sh 1
  have h2 := numR_len (numR s.bs s.sh 1).2.1 (numR s.bs s.sh 1).2.2 4
  have h3 := (bytR_len (numR (numR s.bs s.sh 1).2.1 (numR s.bs s.sh 1).2.2 4).2.1 (numR (numR s.bs s.sh 1).2.1 (numR s.bs s.sh 1).2.2 4).2.2).1
  unfold uStep uB
  simp only
  omega
theorem uRun_len (s : US) : ∀ k, (uRun s k).bs.length ≤ s.bs.length
  | 0 => Nat.le_refl _
  | k + 1 => Nat.le_trans (uStep_len _) (uRun_len s k)
theorem uC_lt (s : US) : uC s < 256 := by have := numR_lt s.bs s.sh 1; unfold uC; omega
theorem uS_lt (s : US) : uS s < 4294967296 := by have := numR_lt (numR s.bs s.sh 1).2.1 (numR s.bs s.sh 1).2.2 4; unfold uS; omega

/-- The stamps of a map's entries. -/
def Borns (l : List (Int × Value × Nat)) (c : Nat) : Prop := (l.map (·.2.2)).Nodup ∧ ∀ x ∈ l, x.2.2 < c
theorem look_none {l : List (Int × Value × Nat)} {n : Int} : look l n = none ↔ ∀ x ∈ l, x.1 ≠ n := by
  induction l with
  | nil => simp [look]
  | cons x r ih =>
    by_cases h : x.1 = n
    · simp [look, h]
    · simp [look, h, ih]
theorem findIdx_born (q : IntKind) : ∀ (l : List (Int × Value × Nat)) (i : Nat) (x : Int × Value × Nat), (l.map (·.2.2)).Nodup → l[i]? = some x → (entriesOf q l).findIdx? (fun e => (e.born : Int) == (x.2.2 : Int)) = some i := by
  intro l i x hn hi
  obtain ⟨hlt, e⟩ := List.getElem?_eq_some_iff.1 hi
  rw [Array.findIdx?_eq_some_iff_getElem]
  have hsz : i < (entriesOf q l).size := by rw [entriesOf_size]; exact hlt
  have hg : ∀ j (hj : j < (entriesOf q l).size), ((entriesOf q l)[j]).born = (l[j]'(by rw [entriesOf_size] at hj; exact hj)).2.2 := fun j hj => by simp [entriesOf]
  refine ⟨hsz, by rw [hg, e]; simp, fun j hj => ?_⟩
  have hj2 : j < l.length := by omega
  rw [hg j (by rw [entriesOf_size]; omega)]
  have := List.pairwise_iff_getElem.1 (List.pairwise_map.1 hn) j i hj2 hlt hj
  rw [e] at this
  simp only [Bool.not_eq_true, beq_eq_false_iff_ne]
  omega
theorem spot_get {l : List (Int × Value × Nat)} {n : Int} {v : Value} (h : look l n = some v) : ∃ x, l[spot l n]? = some x ∧ x.1 = n ∧ x.2.1 = v := by
  induction l with
  | nil => cases h
  | cons x r ih =>
    by_cases hx : x.1 = n
    · simp only [look, hx, ↓reduceIte, Option.some.injEq] at h
      exact ⟨x, by simp [spot, hx], hx, h⟩
    · simp only [look, hx, ↓reduceIte] at h
      obtain ⟨y, h1, h2⟩ := ih h
      exact ⟨y, by simp [spot, hx, h1], h2⟩
theorem modify_last {α : Type} (f : α → α) (x : α) : ∀ l : List α, (l ++ [x]).modify l.length f = l ++ [f x]
  | [] => rfl
  | y :: l => by simp [List.modify_succ_cons, modify_last f x l]
theorem entries_key (q : IntKind) (n : Int) : ∀ (l : List (Int × Value × Nat)), (look l n).isSome = true → ((entriesOf q l).modify (spot l n) fun e => { e with key := .int q n }) = entriesOf q l := by
  intro l h
  apply Array.toList_inj.1
  rw [Array.toList_modify]
  induction l with
  | nil => simp [look] at h
  | cons x r ih =>
    rw [entriesOf_cons]
    by_cases hx : x.1 = n
    · simp [spot, hx]
    · simp only [look, hx, ↓reduceIte] at h
      simp only [spot, hx, ↓reduceIte, List.modify_succ_cons]
      rw [ih h]
theorem entries_val (q : IntKind) (n : Int) (v : Value) (c : Nat) : ∀ (l : List (Int × Value × Nat)), (look l n).isSome = true → ((entriesOf q l).modify (spot l n) fun e => { e with val := v }) = entriesOf q (lay l n v c) := by
  intro l h
  apply Array.toList_inj.1
  rw [Array.toList_modify]
  induction l with
  | nil => simp [look] at h
  | cons x r ih =>
    rw [entriesOf_cons]
    by_cases hx : x.1 = n
    · simp [spot, lay, hx, entriesOf]
    · simp only [look, hx, ↓reduceIte] at h
      simp only [spot, lay, hx, ↓reduceIte, List.modify_succ_cons]
      rw [ih h, entriesOf_cons]
theorem lay_born (n : Int) (v : Value) (c : Nat) : ∀ (l : List (Int × Value × Nat)), (look l n).isSome = true → (lay l n v c).map (·.2.2) = l.map (·.2.2)
  | [], h => by simp [look] at h
  | x :: r, h => by
    by_cases hx : x.1 = n
    · simp [lay, hx]
    · simp only [look, hx, ↓reduceIte] at h
      simp [lay, hx, lay_born n v c r h]
theorem run_setObj_put {P : Program} {W : World} {bm : Nat} {es : Array MapEntry} {c : Nat} (h : W.heap[bm]? = some (.map es c)) (o : Obj) : (setObj bm o).run P W = .ok () (W.putObj bm o) := by simp [setObj, Sem.run, h, World.putObj]
theorem run_asInt {P : Program} (b : Int) (w : World) : (asInt (.int .i64 b)).run P w = .ok b w := by simp [asInt, asIntOf]
section
variable {P : Program} {t k e : TypeId} {q : IntKind} (ht : P.underlying t = some (.map k e)) (hk : P.underlying k = some (.int q))
include ht hk in
/-- 'm[n] = v', as the entry first and the store behind it. -/
theorem map_store (w : World) (bm : Nat) (n : Int) (v z : Value) (l : List (Int × Value × Nat)) (c : Nat) (hb : w.heap[bm]? = some (.map (entriesOf q l) c)) (hB : Borns l c) (hz : ∀ w : World, (zeroValue e).run P w = .ok z w) :
    ∃ (y : Value) (b : Nat) (l1 l2 : List (Int × Value × Nat)) (c1 : Nat), (Instr.mapEntry t (.map (some bm)) (.int q n)).run P w = .ok (.tuple #[y, .int .i64 (b : Nat)]) (w.putObj bm (.map (entriesOf q l1) c1)) ∧
      (Instr.entryStore t (.map (some bm)) (.int .i64 (b : Nat)) v).run P (w.putObj bm (.map (entriesOf q l1) c1)) = .ok () ((w.putObj bm (.map (entriesOf q l1) c1)).putObj bm (.map (entriesOf q l2) c1)) ∧ Borns l2 c1 ∧ (look l n = none → l2 = l ++ [(n, v, c)] ∧ c1 = c + 1) := by
  cases hl : look l n with
  | none =>
    refine ⟨z, c, l ++ [(n, z, c)], l ++ [(n, v, c)], c + 1, ?_, ?_, ?_, fun _ => ⟨rfl, rfl⟩⟩
    · have e1 := entries_lay_new q n z c l hl
      rw [lay_new n z c l hl] at e1
      unfold Instr.mapEntry
      simp [run_underlying ht, run_getObj_map w bm _ c hb, run_checkKey_int hk, run_findKey_int hk, hl, hz, setObj, Sem.run, hb, World.putObj, e1, goInt]
    · have hp : (w.putObj bm (.map (entriesOf q (l ++ [(n, z, c)])) (c + 1))).heap[bm]? = some (.map (entriesOf q (l ++ [(n, z, c)])) (c + 1)) := heap_putObj_same hb _
      have hn : ((l ++ [(n, z, c)]).map (·.2.2)).Nodup := by
        rw [List.map_append, List.nodup_append]
        refine ⟨hB.1, by simp, fun x hx y hy e => ?_⟩
        obtain ⟨u, hu, rfl⟩ := List.mem_map.1 hx
        have := hB.2 u hu
        simp at hy
        omega
      have hf := findIdx_born q (l ++ [(n, z, c)]) l.length (n, z, c) hn (by simp)
      have hm : (entriesOf q (l ++ [(n, z, c)])).modify l.length (fun e => { e with val := v }) = entriesOf q (l ++ [(n, v, c)]) := by
        apply Array.toList_inj.1
        rw [Array.toList_modify]
        have := modify_last (fun e : MapEntry => { e with val := v }) { key := .int q n, val := z, born := c } (entriesOf q l).toList
        simpa [entriesOf] using this
      unfold Instr.entryStore
      simp only [Sem.run_bind, run_getObj_map _ bm _ _ hp, Result.andThen, run_asInt, hf]
      rw [hm, run_setObj_put hp]
    · constructor
      · rw [List.map_append, List.nodup_append]
        refine ⟨hB.1, by simp, fun x hx y hy e => ?_⟩
        obtain ⟨u, hu, rfl⟩ := List.mem_map.1 hx
        have := hB.2 u hu
        simp at hy
        omega
      · intro x hx
        rcases List.mem_append.1 hx with hx | hx
        · have := hB.2 x hx; omega
        · rw [List.mem_singleton.1 hx]; show c < c + 1; omega
  | some v0 =>
    have hs : (look l n).isSome = true := by rw [hl]; rfl
    obtain ⟨x, hx, hx1, hx2⟩ := spot_get hl
    have hei : (entriesOf q l)[spot l n]? = some { key := .int q x.1, val := x.2.1, born := x.2.2 } := by
      rw [← Array.getElem?_toList]; simp [entriesOf, hx]
    refine ⟨v0, x.2.2, l, lay l n v c, c, ?_, ?_, ?_, fun h => by cases h⟩
    · have h3 : Instr.sameBits 10000 (.int q n) (.int q n) = true := by simp [Instr.sameBits]
      have h4 : ∀ W : World, (Instr.keyThatStays (.int q n) (.int q n)).run P W = .ok (.int q n) W := by
        intro W; unfold Instr.keyThatStays; rw [h3]; rfl
      unfold Instr.mapEntry
      simp only [Sem.run_bind, run_underlying ht, run_getObj_map w bm _ c hb, run_checkKey_int hk, run_findKey_int hk, hl, Result.andThen, Option.map_some, hei, Option.getD_some, hx1, h4]
      simp [setObj, Sem.run, hb, World.putObj, entries_key q n l hs, goInt]
    · have hp : (w.putObj bm (.map (entriesOf q l) c)).heap[bm]? = some (.map (entriesOf q l) c) := heap_putObj_same hb _
      have hf := findIdx_born q l (spot l n) x hB.1 hx
      unfold Instr.entryStore
      simp only [Sem.run_bind, run_getObj_map _ bm _ _ hp, Result.andThen, run_asInt, hf]
      rw [entries_val q n v c l hs, run_setObj_put hp]
    · refine ⟨by rw [lay_born n v c l hs]; exact hB.1, fun y hy => ?_⟩
      have : y.2.2 ∈ (lay l n v c).map (·.2.2) := List.mem_map_of_mem hy
      rw [lay_born n v c l hs] at this
      obtain ⟨u, hu, e⟩ := List.mem_map.1 this
      have := hB.2 u hu
      omega
end
end Go.Proofs.Ytkaikckehkcfhaa
/- The sessions' table out of bytes: the walk. -/
namespace Go.Proofs.Ytkaikckehkcfhaa
open Go.RowKit
set_option linter.unusedVariables false
set_option linter.unusedSimpArgs false

/-- A reader in a world in which other blocks have turned. -/
theorem LR.other {W0 w w' : World} {br : Nat} {bs : List UInt8} {sh : Bool} {K : Nat → Obj → Prop} (h : LR W0 w br bs sh) (hf : Fr K w w') (h1 : ∀ o, K br o) (h2 : ∀ c o, c < W0.heap.size → K c o) : LR W0 w' br bs sh := by
  obtain ⟨v, hv⟩ := h.at'
  refine ⟨h.new, ⟨v, hf.keep _ _ hv.top (h1 _), ?_, hv.off⟩, old_tt h.fr hf h2⟩
  have := (hv.bytes.mono (K' := fun c o => K c o ∧ c < W0.heap.size) fun b o hb hk => ⟨h2 b o hk, hk⟩).fr (hf.mono fun _ _ h => h.1)
  exact this.mono fun _ _ _ h => h.2
theorem BytesAt.notAt {K : Nat → Obj → Prop} {w : World} {v : Value} {bs : List UInt8} {br : Nat} {u : Value} {s : Bool} {fz : Nat × Nat} (h : BytesAt K w v bs) (hbr : w.heap[br]? = some (.cells #[u, .bool s] 79 fz)) (hu : ∃ a n c, u = .slice a n c) : BytesAt (fun b o => K b o ∧ b ≠ br) w v bs := by
  obtain ⟨a, cap, hv, hl, hn, h⟩ := h
  refine ⟨a, cap, hv, hl, hn, ?_⟩
  rcases h with h | ⟨b, off, o, ha, hb, hk, hc⟩
  · exact .inl h
  · by_cases h0 : bs = []
    · exact .inl h0
    · refine .inr ⟨b, off, o, ha, hb, ⟨hk, fun e => ?_⟩, hc⟩
      subst e
      have hp : 0 < bs.length := List.length_pos_iff.2 h0
      have c0 := hc 0 hp
      obtain ⟨ua, un, uc, rfl⟩ := hu
      rw [hbr] at hb
      cases hb
      simp only [World.cell?, hbr] at c0
      have hlt : off + 0 < 2 := by
        rcases Nat.lt_or_ge (off + 0) 2 with q | q
        · exact q
        · rw [Array.getElem?_eq_none (by simpa using q)] at c0; cases c0
      have : off = 0 ∨ off = 1 := by omega
      rcases this with rfl | rfl <;> simp [byteV] at c0
theorem Tab.other {w w' : World} {B bt : Nat} {mv : Option Nat} {c : Nat} {R : List Rec} {br : Nat} {u : Value} {s : Bool} (h : Tab w B bt mv c R) (hbr : w.heap[br]? = some (.cells #[u, .bool s] 79 (0, 0))) (hu : ∃ a n c, u = .slice a n c) (hf : Fr (fun b _ => b ≠ br) w w') : Tab w' B bt mv c R := by
  have hne : ∀ b o, w.heap[b]? = some o → (∀ cs fz, o ≠ .cells cs 79 fz) → b ≠ br := fun b o hb ho e => by
    subst e; rw [hbr] at hb; cases hb; exact ho _ _ rfl
  refine ⟨hf.keep _ _ h.top (hne _ _ h.top fun cs fz e => by cases e), h.le, h.nil, fun bm e => ⟨(h.map bm e).1, hf.keep _ _ (h.map bm e).2 (hne _ _ (h.map bm e).2 fun cs fz e => by cases e)⟩, fun r hr => ?_, h.keys, h.blks, h.borns, h.old⟩
  have ho := h.each r hr
  refine ⟨ho.le, hf.keep _ _ ho.cells (hne _ _ ho.cells fun cs fz e => by cases e), ho.lo, ho.hi, ?_, ho.short⟩
  exact ((ho.bytes.notAt hbr hu).fr (hf.mono fun _ _ h => h.2)).mono fun _ _ _ h => h.1
/-- A session more, with its last number and answer. -/
theorem Tab.addx {w w' : World} {B bt bm be : Nat} {c : Nat} {R : List Rec} {n s : Int} {v : Value} {bs : List UInt8} (h : Tab w B bt (some bm) c R) (hn : findR R n = none) (hB : B ≤ be) (hbe : w.heap.size ≤ be) (h0 : 0 ≤ s) (h9 : s < 4294967296) (hb : BytesAt (KT B) w' v bs) (hl : bs.length ≤ 9)
    (hf : Fr (fun b _ => b ≠ bm) w w') (h1 : w'.heap[be]? = some (.cells #[.int .u32 s, v] 61 (0, 0))) (h2 : w'.heap[bm]? = some (.map (entriesOf .i64 (R.map Rec.ent ++ [(n, .pointer (some ⟨be, 0, none⟩), c)])) (c + 1))) :
    Tab w' B bt (some bm) (c + 1) (R ++ [⟨n, be, c, s, v, bs⟩]) := by
  have hm := h.map bm rfl
  have hnb : ∀ b cs t fz, w.heap[b]? = some (.cells cs t fz) → b ≠ bm := fun b cs t fz hb e => by rw [e, hm.2] at hb; cases hb
  refine ⟨hf.keep _ _ h.top (hnb _ _ _ _ h.top), h.le, (fun e => by cases e), fun b e => ?_, fun r hr => ?_, ?_, ?_, ?_, ?_⟩
  · cases e
    refine ⟨hm.1, ?_⟩
    rw [h2, List.map_append]
    rfl
  · rcases List.mem_append.1 hr with hr | hr
    · have ho := h.each r hr
      refine ho.fr hf (hnb _ _ _ _ ho.cells) (fun b o hb hk e => ?_)
      rw [e, hm.2] at hb
      cases hb
      rcases hk with hk | ⟨_, _, _, e', _⟩
      · have := hm.1; omega
      · cases e'
    · rw [List.mem_singleton.1 hr]
      exact ⟨hB, h1, h0, h9, hb, hl⟩
  · rw [List.map_append, List.nodup_append]
    refine ⟨h.keys, by simp, fun x hx y hy e => ?_⟩
    simp only [List.map_cons, List.map_nil, List.mem_singleton] at hy
    obtain ⟨r, hr, rfl⟩ := List.mem_map.1 hx
    have : ¬ decide (r.key = n) = true := List.find?_eq_none.1 hn r hr
    exact this (by simp [e, hy])
  · rw [List.map_append, List.nodup_append]
    refine ⟨h.blks, by simp, fun x hx y hy e => ?_⟩
    simp only [List.map_cons, List.map_nil, List.mem_singleton] at hy
    obtain ⟨r, hr, rfl⟩ := List.mem_map.1 hx
    have := lt_of_some (h.each r hr).cells
    omega
  · rw [List.map_append, List.nodup_append]
    refine ⟨h.borns, by simp, fun x hx y hy e => ?_⟩
    simp only [List.map_cons, List.map_nil, List.mem_singleton] at hy
    obtain ⟨r, hr, rfl⟩ := List.mem_map.1 hx
    have := h.old r hr
    omega
  · intro r hr
    rcases List.mem_append.1 hr with hr | hr
    · have := h.old r hr; omega
    · rw [List.mem_singleton.1 hr]; show c < c + 1; omega
/-- The table while bytes are read: its map's entries; while nothing is wrong, its sessions. -/
structure Half (B : Nat) (W0 w : World) (bt bm : Nat) (wrong : Bool) (last : Int) (L : MT) : Prop where
  top : w.heap[bt]? = some (.cells #[.map (some bm)] 27 (0, 0))
  new : W0.heap.size ≤ bt ∧ W0.heap.size ≤ bm
  base : B ≤ W0.heap.size
  map : ∃ l c, w.heap[bm]? = some (.map (entriesOf .i64 l) c) ∧ Borns l c ∧ (wrong = false → ∃ R, l = R.map Rec.ent ∧ Tab w B bt (some bm) c R ∧ R.map Rec.abs = L ∧ ∀ r ∈ R, r.key ≤ last)
theorem Half.tt {B : Nat} {W0 w w' : World} {bt bm : Nat} {wr : Bool} {last : Int} {L : MT} (h : Half B W0 w bt bm wr last L) (hf : Fr (fun _ _ => True) w w') : Half B W0 w' bt bm wr last L := by
  obtain ⟨l, c, a, b, d⟩ := h.map
  refine ⟨hf.keep _ _ h.top trivial, h.new, h.base, l, c, hf.keep _ _ a trivial, b, fun e => ?_⟩
  obtain ⟨R, h4, h5, h6, h7⟩ := d e
  exact ⟨R, h4, h5.fr hf, h6, h7⟩
theorem Half.other {B : Nat} {W0 w w' : World} {bt bm br : Nat} {wr : Bool} {last : Int} {L : MT} {bs : List UInt8} {sh : Bool} (h : Half B W0 w bt bm wr last L) (hr : LR W0 w br bs sh) (hf : Fr (fun b _ => b ≠ br) w w') : Half B W0 w' bt bm wr last L := by
  obtain ⟨l, c, a, b, d⟩ := h.map
  obtain ⟨v, hv⟩ := hr.at'
  obtain ⟨va, vc, rfl⟩ := hv.bytes.form
  have hne : ∀ b o, w.heap[b]? = some o → (∀ cs fz, o ≠ .cells cs 79 fz) → b ≠ br := fun b o hb ho e => by
    subst e; rw [hv.top] at hb; cases hb; exact ho _ _ rfl
  refine ⟨hf.keep _ _ h.top (hne _ _ h.top fun cs fz e => by cases e), h.new, h.base, l, c, hf.keep _ _ a (hne _ _ a fun cs fz e => by cases e), b, fun e => ?_⟩
  obtain ⟨R, h4, h5, h6, h7⟩ := d e
  exact ⟨R, h4, h5.other hv.top ⟨_, _, _, rfl⟩ hf, h6, h7⟩
/-- Behind a store. -/
theorem Half.store {B : Nat} {W0 w w2 : World} {bt bm be : Nat} {wr wr' : Bool} {last n s : Int} {L : MT} {v : Value} {bs : List UInt8} (h : Half B W0 w bt bm wr last L) (hx : w2.heap[be]? = some (.cells #[.int .u32 s, v] 61 (0, 0))) (hbe : w.heap.size ≤ be) (hf : Fr (fun _ _ => True) w w2) (h0 : 0 ≤ s) (h9 : s < 4294967296) (hb : BytesAt (KT B) w2 v bs) (hW : Fr (fun _ _ => True) W0 w)
    (hwr : wr' = false → wr = false ∧ last < n ∧ bs.length ≤ 9) :
    ∃ y b l1 l2 c1, (Instr.mapEntry 25 (.map (some bm)) (.int .i64 n)).run Try.prog w2 = .ok (.tuple #[y, .int .i64 (b : Nat)]) (w2.putObj bm (.map (entriesOf .i64 l1) c1)) ∧
      (Instr.entryStore 25 (.map (some bm)) (.int .i64 (b : Nat)) (.pointer (some ⟨be, 0, none⟩))).run Try.prog (w2.putObj bm (.map (entriesOf .i64 l1) c1)) = .ok () ((w2.putObj bm (.map (entriesOf .i64 l1) c1)).putObj bm (.map (entriesOf .i64 l2) c1)) ∧
      Half B W0 ((w2.putObj bm (.map (entriesOf .i64 l1) c1)).putObj bm (.map (entriesOf .i64 l2) c1)) bt bm wr' n (L ++ [(n, s, bs)]) ∧ Fr (fun c _ => c ≠ bm) w2 ((w2.putObj bm (.map (entriesOf .i64 l1) c1)).putObj bm (.map (entriesOf .i64 l2) c1)) := by
  obtain ⟨l, c, a, b, d⟩ := h.map
  have a2 := hf.keep _ _ a trivial
  have t2 := hf.keep _ _ h.top trivial
  obtain ⟨y, bb, l1, l2, c1, e1, e2, hB, hnew⟩ := map_store Try.underlying25 Try.underlying3 w2 bm n (.pointer (some ⟨be, 0, none⟩)) (.pointer none) l c a2 b (fun w => by kernel_rfl)
  have F : Fr (fun c _ => c ≠ bm) w2 ((w2.putObj bm (.map (entriesOf .i64 l1) c1)).putObj bm (.map (entriesOf .i64 l2) c1)) := ((Fr.refl _ _).putObj (fun _ _ h => h rfl) _).putObj (fun _ _ h => h rfl) _
  have hp := heap_putObj_same (heap_putObj_same a2 (.map (entriesOf .i64 l1) c1)) (.map (entriesOf .i64 l2) c1)
  have hnt : bt ≠ bm := fun e => by rw [e, a2] at t2; cases t2
  refine ⟨y, bb, l1, l2, c1, e1, e2, ⟨F.keep _ _ t2 hnt, h.new, h.base, l2, c1, hp, hB, fun e => ?_⟩, F⟩
  obtain ⟨h1, hlast, h9b⟩ := hwr e
  obtain ⟨R, rfl, h5, h6, h7⟩ := d h1
  have hfn : findR R n = none := by
    unfold findR
    rw [List.find?_eq_none]
    intro r hr
    have := h7 r hr
    simp; omega
  obtain ⟨rfl, rfl⟩ := hnew (by rw [look_ent, hfn]; rfl)
  refine ⟨R ++ [⟨n, be, c, s, v, bs⟩], by rw [List.map_append]; rfl, ?_, by rw [List.map_append, h6]; rfl, fun r hr => ?_⟩
  · have h5' := h5.fr hf
    have hbl : BytesAt (KT B) ((w2.putObj bm (.map (entriesOf .i64 l1) (c + 1))).putObj bm (.map (entriesOf .i64 (R.map Rec.ent ++ [(n, .pointer (some ⟨be, 0, none⟩), c)])) (c + 1))) v bs := by
      have hm := h5'.map bm rfl
      refine ((hb.mono (K' := fun b o => b ≠ bm ∧ KT B b o) fun b o hb hk => ⟨fun e => ?_, hk⟩).fr (F.mono fun _ _ h => h.1)).mono fun _ _ _ h => h.2
      exact KT.map hm.1 hm.2 o (e ▸ hb) (e ▸ hk)
    have h5w : Tab w B bt (some bm) c R := h5
    refine Tab.addx h5w hfn (Nat.le_trans h.base (Nat.le_trans hW.size hbe)) hbe h0 h9 hbl h9b ((hf.mono fun _ _ _ => trivial).trans F) (F.keep _ _ hx (fun e => ?_)) hp
    have := lt_of_some a
    omega
  · rcases List.mem_append.1 hr with hr | hr
    · have := h7 r hr; omega
    · rw [List.mem_singleton.1 hr]; exact Int.le_refl _
end Go.Proofs.Ytkaikckehkcfhaa
