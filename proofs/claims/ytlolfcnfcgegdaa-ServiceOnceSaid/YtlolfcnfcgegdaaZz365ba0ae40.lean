/- Texts of the proofs, part 25: what the functions that they reach do, walked; no conditions beyond those that each states. -/
import Derived.Maps.RangeWalk
import Derived.Test.YtlolfcnfcgegdaaZze60a8fb3bd
set_option linter.unusedVariables false
set_option linter.unusedSimpArgs false
/- The sessions' table: Clients. -/
namespace Go.Proofs.Ytlolfcnfcgegdaa
open Go.RowKit Go.ChangeMaps
set_option linter.unusedVariables false
set_option linter.unusedSimpArgs false

/-- The step of a range over a map that is only read. -/
theorem wpList_next_e {P : Program} {ops : Array Oper} {rest : List Oper} {o : Oper} {a : Act} {Q : Exit → Act → World → Prop} (w : World) (hg : o.guard = none) (it : Operand) (hop : o.op = Op.next it false)
    (r bm since c0 : Nat) (seen : Array Nat) (es : Array MapEntry) (clock : Nat) (hit : a.eval it = .pointer (some ⟨r, 0, none⟩))
    (hr : w.heap[r]? = some (.mapIter (some bm) since seen c0)) (hb : w.heap[bm]? = some (.map es clock)) (hold : ∀ x ∈ es.toList, x.born < since) (hsc : since ≤ c0)
    (hDone : (leftOf es seen).size = 0 → wpList P ops Q rest (a.put o.dst (.tuple #[.bool false])) w)
    (hMore : ∀ e ∈ (leftOf es seen).toList, ∀ w1 : World, (w1 = w ∨ w1 = w.drew) → wpList P ops Q rest (a.put o.dst (.tuple #[.bool true, e.key, e.val])) (setBlock w1 r (.mapIter (some bm) since (seen.push e.born) clock))) :
    wpList P ops Q (o :: rest) a w := by
  refine wpList_plain hg fun K' hK' => ?_
  unfold Oper.wp
  rcases run_next_at (P := P) w o.type r bm since c0 seen es clock hr hb hold hsc with ⟨h0, hrun⟩ | ⟨e, he, w1, hw1, hrun⟩
  · simp [execOp, hop, hit, hrun, Result.andThen]
    exact hK' _ _ (hDone h0)
  · simp [execOp, hop, hit, hrun, Result.andThen]
    exact hK' _ _ (hMore e he w1 hw1)
theorem heap_setBlock_ne {w : World} {b k : Nat} (h : k ≠ b) (o : Obj) : (setBlock w b o).heap[k]? = w.heap[k]? := by
  show (w.heap.setIfInBounds b o)[k]? = _
  rw [Array.getElem?_setIfInBounds_ne (Ne.symm h)]
theorem heap_setBlock_same {w : World} {b : Nat} {x : Obj} (h : w.heap[b]? = some x) (o : Obj) : (setBlock w b o).heap[b]? = some o := by
  show (w.heap.setIfInBounds b o)[b]? = _
  have := lt_of_some h
  simp [this]
theorem Fr.setBlock_new {K : Nat → Obj → Prop} {a w : World} (h : Fr K a w) {r : Nat} (hr : a.heap.size ≤ r) (o : Obj) : Fr K a (setBlock w r o) :=
  ⟨h.os, h.tape, h.output, by have := h.size; show _ ≤ (w.heap.setIfInBounds r o).size; simpa using this, fun b x hb hk => by
    have := lt_of_some hb
    rw [heap_setBlock_ne (by omega)]; exact h.keep b x hb hk⟩
theorem setBlock_size (w : World) (r : Nat) (o : Obj) : (setBlock w r o).heap.size = w.heap.size := by show (w.heap.setIfInBounds r o).size = _; simp
def mapE (r : Rec) : MapEntry := { key := .int .i64 r.key, val := .pointer (some ⟨r.blk, 0, none⟩), born := r.born }
theorem entries_mapE (R : List Rec) : (entriesOf .i64 (R.map Rec.ent)).toList = R.map mapE := by simp [entriesOf, Rec.ent, mapE, Function.comp_def]
theorem left_mem {R : List Rec} {seen : Array Nat} {e : MapEntry} (h : e ∈ (leftOf (entriesOf .i64 (R.map Rec.ent)) seen).toList) : ∃ r ∈ R, e = mapE r ∧ ¬ r.born ∈ seen.toList := by
  unfold leftOf at h
  rw [Array.toList_filter, List.mem_filter, entries_mapE] at h
  obtain ⟨r, hr, rfl⟩ := List.mem_map.1 h.1
  refine ⟨r, hr, rfl, fun hs => ?_⟩
  have h2 := h.2
  have : seen.contains (mapE r).born = true := by simp [mapE]; simpa using hs
  rw [this] at h2
  simp at h2
theorem left_none {R : List Rec} {seen : Array Nat} (h : (leftOf (entriesOf .i64 (R.map Rec.ent)) seen).size = 0) : ∀ r ∈ R, r.born ∈ seen.toList := by
  intro r hr
  apply Classical.byContradiction
  intro hn
  have hm : mapE r ∈ (leftOf (entriesOf .i64 (R.map Rec.ent)) seen).toList := by
    unfold leftOf
    rw [Array.toList_filter, List.mem_filter, entries_mapE]
    refine ⟨List.mem_map_of_mem hr, ?_⟩
    have : seen.contains (mapE r).born = false := by
      rw [Bool.eq_false_iff]; intro e; apply hn; simpa [mapE] using e
    rw [this]; rfl
  have : 0 < (leftOf (entriesOf .i64 (R.map Rec.ent)) seen).toList.length := List.length_pos_of_mem hm
  rw [Array.length_toList] at this
  omega

/-- What the loop over the table's map has: those that came. -/
structure Came (w wr : World) (bm c : Nat) (R P : List Rec) (o : Value) : Prop where
  row : RowI wr w.heap.size o (P.map Rec.key)
  iter : ∃ (seen : Array Nat) (c0 : Nat), wr.heap[w.heap.size]? = some (.mapIter (some bm) c seen c0) ∧ seen.toList = P.map Rec.born ∧ c ≤ c0
  sub : ∀ p ∈ P, p ∈ R
  nodup : (P.map Rec.born).Nodup
  apart : o.ownBlock ≠ some w.heap.size
  fr : Fr (fun _ _ => True) w wr
theorem nodup_le : ∀ {l m : List Nat}, l.Nodup → (∀ x ∈ l, x ∈ m) → l.length ≤ m.length
  | [], _, _, _ => Nat.zero_le _
  | x :: l, m, hn, hs => by
    rw [List.nodup_cons] at hn
    have hx : x ∈ m := hs x (by simp)
    have ih := nodup_le (l := l) (m := m.erase x) hn.2 fun y hy => by
      have hne : y ≠ x := fun e => hn.1 (e ▸ hy)
      exact (List.mem_erase_of_ne hne).2 (hs y (by simp [hy]))
    rw [List.length_erase_of_mem hx] at ih
    have := List.length_pos_of_mem hx
    rw [List.length_cons]
    omega
theorem Came.few {w wr : World} {bm c : Nat} {R P : List Rec} {o : Value} (h : Came w wr bm c R P o) : P.length ≤ R.length := by
  have := nodup_le (m := R.map Rec.born) h.nodup fun x hx => by
    obtain ⟨p, hp, rfl⟩ := List.mem_map.1 hx
    exact List.mem_map_of_mem (h.sub p hp)
  simpa using this
/-- All have come: they are the table's, in some order. -/
theorem came_all {R P : List Rec} (hk : (R.map Rec.key).Nodup) (hb : (R.map Rec.born).Nodup) (sub : ∀ p ∈ P, p ∈ R) (nd : (P.map Rec.born).Nodup) (all : ∀ r ∈ R, r.born ∈ P.map Rec.born) : (P.map Rec.key).Perm (R.map Rec.key) := by
  have hP : P.Nodup := (List.pairwise_map.1 nd).imp fun h e => h (by rw [e])
  have hR : R.Nodup := (List.pairwise_map.1 hb).imp fun h e => h (by rw [e])
  refine List.Perm.map _ ((List.perm_ext_iff_of_nodup hP hR).2 fun r => ⟨sub r, fun hr => ?_⟩)
  obtain ⟨p, hp, e⟩ := List.mem_map.1 (all r hr)
  exact nodup_inj hb (sub p hp) hr e ▸ hp
def lenOf : Value → Nat | .slice _ n _ => n | _ => 0
def SeenAll (R : List Rec) (seen : Array Nat) : Prop := ∀ x ∈ R, x.born ∈ seen.toList
def Unseen (R : List Rec) (seen : Array Nat) (x : Rec) : Prop := x ∈ R ∧ ¬ x.born ∈ seen.toList
/-- An append of one int to a row of the function's own. -/
theorem wpList_append_int1 {ops : Array Oper} {rest : List Oper} {o : Oper} {a : Act} {Q : Exit → Act → World → Prop} (w0 W1 : World) (y : Int) (hF : Hid (Fr (fun _ _ => True) w0 W1)) (hgd : o.guard = none) (s x : Operand)
    (ho : o.op = .call { callee := .builtin .append, args := #[s, x], argTypes := #[109, 109] }) (v : Value) (xs : List Int) (hs : a.eval s = v) (hown : Hid (RowI W1 w0.heap.size v xs))
    (hx : a.eval x = .slice (some ⟨W1.heap.size, 0, none⟩) 1 1) (r : List Int) (hr : Hid (xs ++ [y] = r)) (n : Nat) (hn : Hid (r.length = n)) (hm : n ≤ 2000000)
    (h : ∀ a' c' w', Hid (RowI w' w0.heap.size (.slice a' n c') r) → Hid (Fr (fun _ _ => True) w0 w') → Hid (Fr (fun b _ => v.ownBlock ≠ some b) W1 w') → Hid (∀ b, b < W1.heap.size → v.ownBlock ≠ some b → (Value.slice a' n c').ownBlock ≠ some b) → wpList Try.prog ops Q rest (a.put o.dst (.slice a' n c')) w') :
    wpList Try.prog ops Q (o :: rest) a (W1.alloc (.cells #[.int .i64 y] 3 (0, 0))) := by
  obtain ⟨i0, hi, hz0, hz1, hz2⟩ := info_parts info_int
  have hr := hr.out
  have hn := hn.out
  subst hr hn
  have r1 := hown.out
  rw [List.length_append, List.length_singleton] at hm
  have hsrc := (NumsAt.lit1 W1 y).src (by simp)
  refine wpList_append_src2 _ hgd s x 109 ho w0.heap.size 3 i0 (.int .i64 0) 1 8 Try.underlying109 hi hz0 hz1 hz2 rfl (by decide) v xs.length (xs.map intV) hs (r1.tt ((Fr.refl _ _).alloc _)) _ 1 [intV y] hx hsrc (by unfold maxLen; omega) (by omega) (by have := hF.out.size; simp; omega) ?_
  intro v' w' h1 h2 h3
  have e1 : xs.map intV ++ [intV y] = (xs ++ [y]).map intV := by simp
  have e2 : xs.length + 1 = (xs ++ [y]).length := by simp
  rw [e1, e2] at h1
  obtain ⟨a', c', rfl⟩ := RowI.form h1
  exact h a' c' w' h1 ((hF.out.alloc _).grown_new h2 (own_new r1)) (((Fr.refl _ _).alloc _).trans (Fr.of_grown h2 fun k o e _ hne => hne e)) fun b hb hv => h3.ne hv (by simp; omega)
/-- What a step of the range over the table's map leaves. -/
structure Stept (w w' : World) (r bm c : Nat) (seen : Array Nat) (x : Rec) : Prop where
  iter : w'.heap[r]? = some (.mapIter (some bm) c (seen.push x.born) c)
  fr : Fr (fun b _ => b ≠ r) w w'
  size : w'.heap.size = w.heap.size
theorem wpList_next_rec {ops : Array Oper} {rest : List Oper} {o : Oper} {a : Act} {Q : Exit → Act → World → Prop} (w : World) (hg : o.guard = none) (it : Operand) (hop : o.op = Op.next it false)
    (r bm c c0 : Nat) (seen : Array Nat) (R : List Rec) (hit : a.eval it = .pointer (some ⟨r, 0, none⟩))
    (hr : Hid (w.heap[r]? = some (.mapIter (some bm) c seen c0))) (hb : Hid (w.heap[bm]? = some (.map (entriesOf .i64 (R.map Rec.ent)) c))) (hold : Hid (∀ x ∈ R, x.born < c)) (hnd : Hid ((R.map Rec.born).Nodup)) (hsc : c ≤ c0)
    (hDone : Hid (SeenAll R seen) → wpList Try.prog ops Q rest (a.put o.dst (.tuple #[.bool false])) w)
    (hMore : ∀ (x : Rec) (w' : World), Hid (Unseen R seen x) → Hid (Stept w w' r bm c seen x) → (Instr.entry (.pointer (some ⟨r, 0, none⟩))).run Try.prog w' = .ok (.tuple #[.int .i64 x.key, .pointer (some ⟨x.blk, 0, none⟩)]) w' →
      wpList Try.prog ops Q rest (a.put o.dst (.tuple #[.bool true, .int .i64 x.key, .pointer (some ⟨x.blk, 0, none⟩)])) w') :
    wpList Try.prog ops Q (o :: rest) a w := by
  refine wpList_next_e w hg it hop r bm c c0 seen _ c hit hr.out hb.out (fun x hx => ?_) hsc (fun h0 => hDone (left_none h0)) fun e he w1 hw1 => ?_
  · rw [entries_mapE] at hx
    obtain ⟨y, hy, rfl⟩ := List.mem_map.1 hx
    exact hold.out y hy
  · obtain ⟨x, hx, rfl, hs⟩ := left_mem he
    have hne : bm ≠ r := fun e => by have := hb.out; rw [e, hr.out] at this; cases this
    have hh : w1.heap = w.heap := by rcases hw1 with rfl | rfl <;> rfl
    have hr1 : w1.heap[r]? = some (.mapIter (some bm) c seen c0) := by rw [hh]; exact hr.out
    have hi := heap_setBlock_same hr1 (.mapIter (some bm) c (seen.push x.born) c)
    refine hMore x _ ⟨hx, hs⟩ ⟨hi, ⟨?_, ?_, ?_, by rw [setBlock_size, hh]; exact Nat.le_refl _, fun b o hb hk => by rw [heap_setBlock_ne hk, hh]; exact hb⟩, by rw [setBlock_size, hh]⟩ ?_
    · rcases hw1 with rfl | rfl <;> rfl
    · rcases hw1 with rfl | rfl <;> rfl
    · rcases hw1 with rfl | rfl <;> rfl
    · refine run_entry_at (P := Try.prog) _ r bm c seen _ c (mapE x) hi (by rw [heap_setBlock_ne hne, hh]; exact hb.out) (by rw [entries_mapE]; exact List.mem_map_of_mem hx) ?_
      rw [entries_mapE, List.map_map]; exact hnd.out

set_option maxRecDepth 100000 in
set_option maxHeartbeats 2000000 in
theorem clients_some (w : World) (B bt bm c : Nat) (R : List Rec) (h : Tab w B bt (some bm) c R) (hlen : R.length ≤ 1000) :
    Calls Try.prog 53 #[.pointer (some ⟨bt, 0, none⟩)] w fun e w' => (∃ v, e = .returned v ∧ RowI w' w.heap.size v (srt (R.map Rec.key))) ∧ Fr (fun _ _ => True) w w' := by
  have hc := h.cell
  have hm := h.map bm rfl
  have hrg := run_range_map (P := Try.prog) w 61 _ _ bm _ c Try.underlying61 hm.2
  have HM := Lib.hid hm.2
  have HK := Lib.hid h.keys
  have HB := Lib.hid h.borns
  have HO := Lib.hid h.old
  have hbm := lt_of_some hm.2
  clear h hm
  go_enter Try.func53, Try.ntmps53
  go_wp2_with fail
  clear hrg hc
  go_loopw [3, 4] (fun o _ wr => ∃ P, Came w wr bm c R P o) (fun o _ _ => R.length - lenOf o)
  case atStart => exact ⟨[], RowI.nil _ _, ⟨#[], c, heap_alloc_new _ _, rfl, Nat.le_refl _⟩, (fun p hp => by cases hp), List.nodup_nil, by simp [Value.ownBlock], (Fr.refl _ _).alloc _⟩
  case round =>
    obtain ⟨P, hP⟩ := hrel
    have hfew := hP.few
    obtain ⟨a, cap, rfl⟩ := hP.row.form
    obtain ⟨seen, c0, hit, hseen, hc0⟩ := hP.iter
    have HP := Lib.hid hP
    have HI := Lib.hid hit
    have HS := Lib.hid hseen
    have hmb := Lib.hid (hP.fr.keep _ _ HM.out trivial)
    clear hP hit hseen
    rw [List.length_map]
    go_wp2_with (at_next; refine wpList_next_rec _ rfl _ rfl w.heap.size bm c c0 seen R rfl HI hmb HO HB hc0 ?_ ?_)
    · intro hall
      have hal := hall.out
      unfold SeenAll at hal
      rw [HS.out] at hal
      have HP2 := Lib.hid (came_all HK.out HB.out HP.out.sub HP.out.nodup hal)
      clear hall hal
      have K1 := Lib.hid (sorti_calls wr w.heap.size _ _ HP.out.row (by rw [List.length_map]; omega))
      rw [List.length_map, srt_congr HP2.out] at K1
      go_wp2_with fail
      with_reducible refine K1.out.mono ?_
      rintro e1 w1 ⟨rfl, hr, hg⟩
      have HR := Lib.hid hr
      have HF := Lib.hid (HP.out.fr.grown_new hg (by have := own_new HP.out.row; rwa [List.length_map] at this))
      clear hr hg
      go_wp2
      go_ret
      exact ⟨⟨_, rfl, HR.out⟩, HF.out⟩
    · intro x w1 HX ST hen
      have HO1 : Hid (RowI w1 w.heap.size (.slice a P.length cap) (P.map Rec.key)) := by
        have := HP.out.row
        rw [List.length_map] at this
        have ha := HP.out.apart
        rw [List.length_map] at ha
        exact ownsRow_fr this ST.out.fr fun b o hb _ e => ha (by rw [hb, e])
      have F1 : Hid (Fr (fun _ _ => True) w w1) := old_tt HP.out.fr ST.out.fr fun b _ hb => by omega
      have EQ : Hid (P.map Rec.key ++ [x.key] = (P ++ [x]).map Rec.key) := by simp [Hid]
      have LN : Hid (((P ++ [x]).map Rec.key).length = P.length + 1) := by simp [Hid]
      have NDX : Hid (((P ++ [x]).map Rec.born).Nodup) := by
        rw [List.map_append]
        refine List.nodup_append.2 ⟨HP.out.nodup, by simp, fun y hy z hz e => ?_⟩
        have hz : z = x.born := by simpa using hz
        have := HX.out.2
        rw [HS.out] at this
        exact this (by rw [← hz, ← e]; exact hy)
      have SUB : Hid (∀ p ∈ P ++ [x], p ∈ R) := fun p hp => by
        rcases List.mem_append.1 hp with hp | hp
        · exact HP.out.sub p hp
        · rw [List.mem_singleton.1 hp]; exact HX.out.1
      have hltR : P.length < R.length := by
        have := nodup_le (m := R.map Rec.born) NDX.out fun y hy => by
          obtain ⟨p, hp, rfl⟩ := List.mem_map.1 hy
          exact List.mem_map_of_mem (SUB.out p hp)
        simp at this
        omega
      have AP : Hid ((Value.slice a P.length cap).ownBlock ≠ some w.heap.size) := by have := HP.out.apart; rwa [List.length_map] at this
      go_wp2_with (at_builtin; refine wpList_append_int1 w w1 _ F1 rfl _ _ rfl _ _ rfl HO1 rfl _ EQ (P.length + 1) LN (by omega) ?_)
      intro a1 c1 w2 O1 G1 G2 N1
      clear hen
      go_wp2
      go_roundw
      case rel =>
        refine ⟨P ++ [x], by rw [← EQ.out]; exact O1.out, ⟨seen.push x.born, c, ?_, ?_, Nat.le_refl _⟩, ?_, ?_, ?_, G1.out⟩
        · exact G2.out.keep _ _ ST.out.iter AP.out
        · rw [Array.toList_push, HS.out]; simp
        · exact SUB.out
        · exact NDX.out
        · exact N1.out _ (lt_of_some ST.out.iter) AP.out
      case measure => simp [lenOf]; omega
theorem clients_none (w : World) (B bt c : Nat) (R : List Rec) (h : Tab w B bt none c R) :
    Calls Try.prog 53 #[.pointer (some ⟨bt, 0, none⟩)] w fun e w' => (∃ v, e = .returned v ∧ RowI w' w.heap.size v (srt (R.map Rec.key))) ∧ Fr (fun _ _ => True) w w' := by
  have hR := h.nil rfl
  subst hR
  have hc := h.cell
  have hrg := run_range_nilMap (P := Try.prog) w 61 _ _ Try.underlying61
  have hnx := fun ty => run_next_nilMap (P := Try.prog) w ty 0 0 #[]
  clear h
  go_enter Try.func53, Try.ntmps53
  go_wp2_with fail
  clear hrg hc
  go_loopw [3, 4] (fun o _ wr => o = .slice none 0 0 ∧ wr = w.alloc (.mapIter none 0 #[] 0)) (fun o _ _ => 0)
  case atStart => exact ⟨rfl, rfl⟩
  case round =>
    obtain ⟨rfl, rfl⟩ := hrel
    have K1 := Lib.hid (sorti_calls (w.alloc (.mapIter none 0 #[] 0)) w.heap.size (.slice none 0 0) [] (RowI.nil _ _) (by simp))
    go_wp2_with fail
    with_reducible refine K1.out.mono ?_
    rintro e1 w1 ⟨rfl, hr, hg⟩
    have HR := Lib.hid hr
    have HF := Lib.hid (((Fr.refl (fun _ _ => True) w).alloc _).grown_new hg (fun k e => by cases e))
    clear hr hg
    go_wp2
    go_ret
    exact ⟨⟨_, rfl, HR.out⟩, HF.out⟩
theorem clients_calls (w : World) (B bt : Nat) (M : MT) (h : TabM w B bt M) (hlen : M.length ≤ 1000) :
    Calls Try.prog 53 #[.pointer (some ⟨bt, 0, none⟩)] w fun e w' => (∃ v, e = .returned v ∧ RowI w' w.heap.size v (srt (M.map (·.1)))) ∧ Fr (fun _ _ => True) w w' := by
  obtain ⟨mv, c, R, h, rfl⟩ := h
  rw [List.map_map]
  cases mv with
  | none => exact clients_none w B bt c R h
  | some bm => exact clients_some w B bt bm c R h (by simpa using hlen)
end Go.Proofs.Ytlolfcnfcgegdaa
/- The sessions' table: Pack. -/
namespace Go.Proofs.Ytlolfcnfcgegdaa
open Go.RowKit
set_option linter.unusedVariables false
set_option linter.unusedSimpArgs false

section
variable {P : Program} {t k e : TypeId} {q : IntKind} (ht : P.underlying t = some (.map k e)) (hk : P.underlying k = some (.int q))
include ht hk in
theorem run_lookup_int1p (b : Nat) (n : Int) (l : List (Int × Value × Nat)) (c : Nat) (w : World) (v : Value) (hb : w.heap[b]? = some (.map (entriesOf q l) c)) (hl : look l n = some v) :
    (Instr.lookup t (.map (some b)) (.int q n) false).run P w = .ok v w := by
  unfold Instr.lookup
  simp [run_underlying ht, run_getObj_map w b _ c hb, run_checkKey_int hk, run_findKey_int hk, hl]
end
theorem Tab.lookup1 {w : World} {B bt bm : Nat} {c : Nat} {R : List Rec} (h : Tab w B bt (some bm) c R) {n : Int} {r : Rec} (hr : findR R n = some r) :
    (Instr.lookup 61 (.map (some bm)) (.int .i64 n) false).run Try.prog w = .ok (.pointer (some ⟨r.blk, 0, none⟩)) w := by
  refine run_lookup_int1p Try.underlying61 Try.underlying3 bm n _ c w _ (h.map bm rfl).2 ?_
  rw [look_ent, hr]; rfl

/-- A session's bytes. -/
def entB (x : Int × Int × List UInt8) : List UInt8 := le x.1.toNat 1 ++ (le x.2.1.toNat 4 ++ byt x.2.2)
def packL (L : MT) : List UInt8 := le L.length 1 ++ (L.map entB).flatten
/-- The sessions, by clients. -/
def sortM (M : MT) : MT := (srt (M.map (·.1))).filterMap fun c => findM M c
theorem findM_some {M : MT} {c : Int} (h : c ∈ M.map (·.1)) : ∃ x ∈ M, findM M c = some x ∧ x.1 = c := by
  obtain ⟨y, hy, e⟩ := List.mem_map.1 h
  have : (findM M c).isSome = true := by
    unfold findM; rw [List.find?_isSome]; exact ⟨y, hy, by simpa using e⟩
  obtain ⟨x, hx⟩ := Option.isSome_iff_exists.1 this
  exact ⟨x, List.mem_of_find?_eq_some hx, hx, by simpa using List.find?_some hx⟩
theorem filterMap_all {α β : Type} (f : α → Option β) : ∀ (l : List α), (∀ x ∈ l, (f x).isSome = true) → (l.filterMap f).length = l.length
  | [], _ => rfl
  | x :: l, h => by
    obtain ⟨y, hy⟩ := Option.isSome_iff_exists.1 (h x (by simp))
    rw [List.filterMap_cons_some hy, List.length_cons, filterMap_all f l fun z hz => h z (by simp [hz]), List.length_cons]
theorem srt_mem {l : List Int} {c : Int} : c ∈ srt l ↔ c ∈ l := (srt_perm l).mem_iff
theorem sortM_len (M : MT) : (sortM M).length = M.length := by
  unfold sortM
  rw [filterMap_all _ _ fun c hc => by
    obtain ⟨x, _, hx, _⟩ := findM_some (srt_mem.1 hc)
    rw [hx]; rfl, srt_len, List.length_map]
/-- What is written behind k sessions. -/
def packK (M : MT) (k : Nat) : List UInt8 := le M.length 1 ++ ((((srt (M.map (·.1))).take k).filterMap fun c => findM M c).map entB).flatten
theorem packK_succ (M : MT) (k : Nat) (hk : k < (srt (M.map (·.1))).length) (x : Int × Int × List UInt8) (hx : findM M (srt (M.map (·.1)))[k] = some x) : packK M (k + 1) = packK M k ++ entB x := by
  unfold packK
  rw [List.take_succ_eq_append_getElem hk, List.filterMap_append, List.map_append, List.flatten_append]
  simp [hx]
theorem packK_all (M : MT) : packK M (srt (M.map (·.1))).length = packL (sortM M) := by
  unfold packK packL sortM
  rw [List.take_length]
  have := sortM_len M
  unfold sortM at this
  rw [this]
theorem entB_len (x : Int × Int × List UInt8) : (entB x).length ≤ 1007 := by
  unfold entB
  have := byt_length x.2.2
  simp [le_length]; omega
theorem flat_len (l : List (List UInt8)) (h : ∀ x ∈ l, x.length ≤ 1007) : l.flatten.length ≤ 1007 * l.length := by
  induction l with
  | nil => simp
  | cons x l ih =>
    have h1 := ih fun y hy => h y (by simp [hy])
    have h2 := h x (by simp)
    rw [List.flatten_cons, List.length_append, List.length_cons]
    omega
theorem packK_len (M : MT) (k : Nat) (hM : M.length ≤ 300) : (packK M k).length ≤ 400000 := by
  unfold packK
  rw [List.length_append, le_length]
  have h1 := flat_len ((((srt (M.map (·.1))).take k).filterMap fun c => findM M c).map entB) (fun x hx => by obtain ⟨y, _, rfl⟩ := List.mem_map.1 hx; exact entB_len y)
  have h2 := List.length_filterMap_le (fun c => findM M c) ((srt (M.map (·.1))).take k)
  have h3 : ((srt (M.map (·.1))).take k).length ≤ M.length := by
    rw [List.length_take, srt_len, List.length_map]; omega
  rw [List.length_map] at h1
  omega

set_option maxRecDepth 100000 in
set_option maxHeartbeats 2000000 in
theorem pack_some (w : World) (B bt bm c : Nat) (R : List Rec) (h : Tab w B bt (some bm) c R) (hlen : R.length ≤ 300) (hkey : ∀ r ∈ R, 0 ≤ r.key ∧ r.key ≤ 255) :
    Calls Try.prog 39 #[.pointer (some ⟨bt, 0, none⟩)] w fun e w' => (∃ a cap, e = .returned (.slice a (packL (sortM (R.map Rec.abs))).length cap) ∧ BytesAt (New w.heap.size) w' (.slice a (packL (sortM (R.map Rec.abs))).length cap) (packL (sortM (R.map Rec.abs)))) ∧ Fr (fun _ _ => True) w w' := by
  have HKC := Lib.hid (fun w' (f : Fr (fun _ _ => True) w w') => clients_calls w' B bt (R.map Rec.abs) (TabM.fr ⟨some bm, c, R, h, rfl⟩ f) (by simp; omega))
  have H := Lib.hid h
  have HKY := Lib.hid hkey
  obtain ⟨M, hM⟩ : ∃ M, M = R.map Rec.abs := ⟨_, rfl⟩
  have HM := Lib.hid hM
  have hML : M.length = R.length := by rw [hM, List.length_map]
  have HPL := Lib.hid (fun k => packK_len M k (by omega))
  have HSL : Hid ((srt (M.map (·.1))).length = R.length) := by rw [srt_len, List.length_map, hML]; exact rfl
  have HFI : Hid (∀ z, z ∈ srt (M.map (·.1)) → ∃ r ∈ R, findR R z = some r ∧ findM M z = some r.abs ∧ r.key = z) := fun z hz => by
    obtain ⟨x, _, hx, _⟩ := findM_some (srt_mem.1 hz)
    have hx' := hx
    rw [hM, findM_abs] at hx'
    cases hr : findR R z with
    | none => rw [hr] at hx'; cases hx'
    | some r =>
      rw [hr] at hx'
      refine ⟨r, (findR_mem hr).1, rfl, ?_, (findR_mem hr).2⟩
      rw [hx, ← Option.some.inj hx']
  have HSU : Hid (∀ k, (hk : k < (srt (M.map (·.1))).length) → ∀ x, findM M (srt (M.map (·.1)))[k] = some x → packK M (k + 1) = packK M k ++ entB x) := fun k hk x hx => packK_succ M k hk x hx
  have HPA := Lib.hid (packK_all M)
  have HP0 : Hid (packK M 0 = le R.length 1) := by unfold packK; rw [hML]; simp [Hid]
  rw [← hM] at HKC ⊢
  have hc := h.cell
  have hz := fun ty => h.len ty
  have hlt := lt_of_some h.top
  generalize packL (sortM M) = out at *
  generalize srt (M.map (·.1)) = S at *
  have hRL := hlen
  clear h hkey hM hML
  obtain ⟨N, hN⟩ : ∃ N, N = R.length := ⟨_, rfl⟩
  have HN := Lib.hid hN
  rw [← hN] at hRL hlen HSL HP0 hz
  clear hN
  obtain ⟨W1, hW1⟩ : ∃ W1, w.alloc (.cells #[.slice none 0 0] 80 (0, 0)) = W1 := ⟨_, rfl⟩
  have FW1 : Hid (Fr (fun _ _ => True) w W1) := hW1 ▸ (Fr.refl _ _).alloc _
  have L0 : Hid (LWP (fun c => c < w.heap.size) W1 w.heap.size []) := hW1 ▸ LWP.mk0 w fun c hc => hc
  have K1 := Lib.hid (lwp_number W1 w.heap.size [] N 1 N 1 rfl rfl L0.out (fun c hc => Nat.lt_of_lt_of_le hc FW1.out.size) (by omega) (by omega) (by omega) (by simp))
  have TW1 := Lib.hid (H.out.fr FW1.out)
  have c1 := TW1.out.cell
  have hz1 : ∀ ty, (Builtin.len_ #[61] ty #[.map (some bm)]).run Try.prog W1 = .ok (.int .i64 N) W1 := fun ty => by
    have := TW1.out.len ty
    rwa [← HN.out] at this
  clear hc hz
  go_enter Try.func39, Try.ntmps39
  go_wp2_with fail
  clear hW1
  with_reducible refine K1.out.mono ?_
  rintro e1 w1 ⟨rfl, l1, f1⟩
  rw [List.nil_append, ← HP0.out] at l1
  have L1 := Lib.hid l1
  have F1 : Hid (Fr (fun _ _ => True) w w1) := old_tt FW1.out f1 fun b _ hb => hb
  clear l1 K1 L0 c1 hz1 f1 FW1 TW1
  have K2 := Lib.hid (HKC.out w1 F1.out)
  go_wp2_with fail
  with_reducible refine K2.out.mono ?_
  rintro e1 w2 ⟨⟨v, rfl, hr⟩, f2⟩
  have F2 := Lib.hid (F1.out.trans f2)
  obtain ⟨a, cap, rfl⟩ := hr.form
  have L2 : Hid (∃ Pr : Nat → Prop, LWP Pr w2 w.heap.size (packK M 0) ∧ (∀ c, c < w.heap.size → Pr c) ∧ (∀ c, Pr c → c < w2.heap.size) ∧ IntsAt (fun c _ => Pr c) w2 (.slice a S.length cap) S) := by
    have l2 := (L1.out.more (Pr' := fun c => c < w.heap.size ∨ w1.heap.size ≤ c) fun c hc => hc).tt f2
    refine ⟨fun c => (c < w.heap.size ∨ w1.heap.size ≤ c) ∧ c < w2.heap.size, ?_, fun c hc => ⟨.inl hc, Nat.lt_of_lt_of_le hc F2.out.size⟩, fun c hc => hc.2, ?_⟩
    · obtain ⟨u, hu, hk⟩ := l2.at'
      exact ⟨fun hc => l2.new hc.1, u, hu, fun k e hc => hk k e hc.1⟩
    · obtain ⟨b0, cp, hv, hx⟩ := hr.ints
      refine ⟨b0, cp, hv, ?_⟩
      rcases hx with hx | ⟨b, off, o, ha, hb, hkb, hcc⟩
      · exact .inl hx
      · exact .inr ⟨b, off, o, ha, hb, ⟨.inr hkb, lt_of_some hb⟩, hcc⟩
  clear hr f2 K2 HKC L1 F1
  obtain ⟨Pr, l2, hP0, hP1, i2⟩ := L2.out
  have HP0' := Lib.hid hP0
  have HP1' := Lib.hid hP1
  have LL := Lib.hid l2
  have II := Lib.hid i2
  rw [HSL.out] at II ⊢
  clear L2 l2 hP0 hP1 i2
  go_wp2_with fail
  go_loopw [5, 16] (fun _ i wr => ∃ k : Nat, k ≤ N ∧ i = .int .i64 k ∧ LWP Pr wr w.heap.size (packK M k) ∧ Fr (fun c _ => Pr c) w2 wr) (fun _ i _ => N - (intOf i).toNat)
  case atStart => exact ⟨0, Nat.zero_le _, rfl, LL.out, Fr.refl _ _⟩
  case round =>
    obtain ⟨k, hk, rfl, hl, hf⟩ := hrel
    have HL := Lib.hid hl
    have HF := Lib.hid hf
    have FW : Hid (Fr (fun _ _ => True) w wr) := old_tt F2.out hf fun b _ hb => HP0'.out b hb
    have HPr : Hid (∀ c, Pr c → c < wr.heap.size) := fun c hc => Nat.lt_of_lt_of_le (HP1'.out c hc) hf.size
    clear hl hf
    by_cases hlt : k < N
    · have l1 : k < S.length := by rw [HSL.out]; exact hlt
      have iw := II.out.fr HF.out fun _ _ h => h
      obtain ⟨b0, o0, ha⟩ := iw.addr (by omega)
      subst ha
      have g1 := iw.cell l1
      obtain ⟨r, hrR, hfr, hfm, hkr⟩ := HFI.out _ (List.getElem_mem l1)
      have HSK := Lib.hid (HSU.out k l1 _ hfm)
      have hk0 := HKY.out r hrR
      have ro := H.out.each r hrR
      have lo := ro.lo
      have hi := ro.hi
      obtain ⟨key, hkey⟩ : ∃ key : Nat, r.key = (key : Int) := Int.eq_ofNat_of_zero_le hk0.1
      obtain ⟨sq, hsq⟩ : ∃ sq : Nat, r.seq = (sq : Int) := Int.eq_ofNat_of_zero_le lo
      have hkb : key ≤ 255 := by omega
      have hsb : sq < 4294967296 := by omega
      have EB : Hid (packK M (k + 1) = ((packK M k ++ le key 1) ++ le sq 4) ++ byt r.bs) := Lib.hid (by
        rw [HSK.out]; unfold entB Rec.abs; simp only [hkey, hsq, Int.toNat_natCast, List.append_assoc])
      have TF : Hid (∀ W, Fr (fun _ _ => True) w W → (Instr.lookup 61 (.map (some bm)) (.int .i64 (key : Int)) false).run Try.prog W = .ok (.pointer (some ⟨r.blk, 0, none⟩)) W ∧ W.cell? ⟨bt, 0, none⟩ = some (.map (some bm)) ∧ W.cell? ⟨r.blk, 0, none⟩ = some (.int .u32 (sq : Int)) ∧ W.cell? ⟨r.blk, 1, none⟩ = some r.rv ∧ BytesAt (fun c _ => Pr c) W r.rv r.bs) := fun W f => by
        have tw := H.out.fr f
        have rw' := tw.each r hrR
        have h1 := tw.lookup1 hfr
        have h2 := rw'.c0
        rw [hsq] at h2
        rw [← hkr, hkey] at h1
        exact ⟨h1, tw.cell, h2, rw'.c1, (ro.bytes.mono (K' := fun c _ => Pr c) fun b o hb _ => HP0'.out b (lt_of_some hb)).tt f⟩
      have hbl := ro.short
      have HPK := HPL.out k
      rw [← hkr, hkey] at g1
      clear hrR hfr hfm hkr hk0 HSK ro hkey hsq l1 iw lo hi
      have K1 := Lib.hid (lwp_number wr w.heap.size (packK M k) key 1 key 1 rfl rfl HL.out HPr.out (by omega) (by omega) (by omega) (by omega))
      go_wp2_with fail
      with_reducible refine K1.out.mono ?_
      rintro e1 w3 ⟨rfl, l3, f3⟩
      have L3 := Lib.hid l3
      have F3 := Lib.hid (HF.out.trans f3)
      have FW3 : Hid (Fr (fun _ _ => True) w w3) := old_tt FW.out f3 fun b _ hb => HP0'.out b hb
      have P3 : Hid (∀ c, Pr c → c < w3.heap.size) := fun c hc => Nat.lt_of_lt_of_le (HPr.out c hc) f3.size
      clear l3 f3 K1 HL HF FW HPr g1
      obtain ⟨x1, x2, x3, x4, _⟩ := TF.out w3 FW3.out
      have K1 := Lib.hid (lwp_number w3 w.heap.size (packK M k ++ le key 1) sq 4 sq 4 rfl rfl L3.out P3.out (by omega) (by omega) (by omega) (by simp [le_length]; omega))
      go_wp2_with fail
      with_reducible refine K1.out.mono ?_
      rintro e1 w4 ⟨rfl, l4, f4⟩
      have L4 := Lib.hid l4
      have F4 := Lib.hid (F3.out.trans f4)
      have FW4 : Hid (Fr (fun _ _ => True) w w4) := old_tt FW3.out f4 fun b _ hb => HP0'.out b hb
      have P4 : Hid (∀ c, Pr c → c < w4.heap.size) := fun c hc => Nat.lt_of_lt_of_le (P3.out c hc) f4.size
      clear l4 f4 K1 L3 F3 FW3 P3 x1 x2 x3 x4
      obtain ⟨x1, x2, x3, x4, x5⟩ := TF.out w4 FW4.out
      have K1 := Lib.hid (lwp_bytes w4 w.heap.size ((packK M k ++ le key 1) ++ le sq 4) r.rv r.bs L4.out P4.out x5 (by simp [le_length]; omega) (by omega))
      rw [← EB.out] at K1
      clear x5
      go_wp2_with fail
      with_reducible refine K1.out.mono ?_
      rintro e1 w5 ⟨rfl, l5, f5⟩
      have L5 := Lib.hid l5
      have F5 := Lib.hid (F4.out.trans f5)
      clear l5 f5 K1 L4 F4 FW4 P4 x1 x2 x3 x4
      go_wp2
      go_roundw
      case rel => exact ⟨k + 1, by omega, by go_num, L5.out, F5.out⟩
      case measure => simp [intOf]; omega
    · obtain rfl : k = N := by omega
      have K1 := Lib.hid (lwp_out wr w.heap.size (packK M k) HL.out (by have := HPL.out k; omega))
      rw [show packK M k = out from by rw [← HPA.out, HSL.out]] at K1
      go_wp2_with fail
      with_reducible refine K1.out.mono ?_
      rintro e1 w3 ⟨⟨a3, cap3, rfl, hb⟩, f3⟩
      have B3 : Hid (BytesAt (New w.heap.size) w3 (.slice a3 out.length cap3) out) := hb.mono fun b o _ hk => ⟨by have := hk.1; have := FW.out.size; omega, hk.2⟩
      have FW3 := Lib.hid (FW.out.trans f3)
      clear hb f3 K1
      go_wp2
      go_ret
      exact ⟨⟨_, _, rfl, B3.out⟩, FW3.out⟩

set_option maxRecDepth 100000 in
set_option maxHeartbeats 2000000 in
theorem pack_none (w : World) (B bt c : Nat) (R : List Rec) (h : Tab w B bt none c R) :
    Calls Try.prog 39 #[.pointer (some ⟨bt, 0, none⟩)] w fun e w' => (∃ a cap, e = .returned (.slice a (packL (sortM (R.map Rec.abs))).length cap) ∧ BytesAt (New w.heap.size) w' (.slice a (packL (sortM (R.map Rec.abs))).length cap) (packL (sortM (R.map Rec.abs)))) ∧ Fr (fun _ _ => True) w w' := by
  have hR := h.nil rfl
  subst hR
  have HKC := Lib.hid (fun w' (f : Fr (fun _ _ => True) w w') => clients_none w' B bt c [] (h.fr f))
  have EO : Hid (packL (sortM (([] : List Rec).map Rec.abs)) = le 0 1) := by unfold sortM; simp [srt_nil, packL, Hid]
  generalize packL (sortM (([] : List Rec).map Rec.abs)) = out at *
  obtain ⟨W1, hW1⟩ : ∃ W1, w.alloc (.cells #[.slice none 0 0] 80 (0, 0)) = W1 := ⟨_, rfl⟩
  have FW1 : Hid (Fr (fun _ _ => True) w W1) := hW1 ▸ (Fr.refl _ _).alloc _
  have L0 : Hid (LW w W1 w.heap.size []) := hW1 ▸ LW.mk0 (Fr.refl _ _)
  have K1 := Lib.hid (lw_number w W1 w.heap.size [] 0 1 0 1 rfl rfl L0.out (by omega) (by omega) (by omega) (by simp))
  have TW1 := Lib.hid (h.fr FW1.out)
  have c1 := TW1.out.cell
  have hz1 : ∀ ty, (Builtin.len_ #[61] ty #[.map none]).run Try.prog W1 = .ok (.int .i64 0) W1 := fun ty => TW1.out.len ty
  clear h
  go_enter Try.func39, Try.ntmps39
  go_wp2_with fail
  clear hW1
  with_reducible refine K1.out.mono ?_
  rintro e1 w1 ⟨rfl, l1⟩
  rw [List.nil_append, ← EO.out] at l1
  have L1 := Lib.hid l1
  clear l1 K1 L0 c1 hz1 FW1 TW1
  have K2 := Lib.hid (HKC.out w1 L1.out.fr)
  rw [List.map_nil, srt_nil] at K2
  go_wp2_with fail
  with_reducible refine K2.out.mono ?_
  rintro e1 w2 ⟨⟨v, rfl, hr⟩, f2⟩
  have L2 := Lib.hid (L1.out.tt f2)
  obtain ⟨a, cap, rfl⟩ := hr.form
  rw [List.length_nil]
  clear hr f2 K2 HKC L1
  go_wp2_with fail
  go_loop [5, 16] (fun _ i => i = .int .i64 0) (fun _ i => 0)
  case atStart => exact rfl
  case round =>
    obtain rfl := hrel
    have K1 := Lib.hid (lw_out w w2 w.heap.size out L2.out (by rw [EO.out]; simp [le_length]))
    go_wp2_with fail
    with_reducible refine K1.out.mono ?_
    rintro e1 w3 ⟨⟨a3, cap3, rfl, hb⟩, f3⟩
    have B3 : Hid (BytesAt (New w.heap.size) w3 (.slice a3 out.length cap3) out) := hb.mono fun b o _ hk => ⟨by have := hk.1; have := L2.out.fr.size; omega, hk.2⟩
    have F3 := Lib.hid f3
    clear hb f3 K1
    go_wp2
    go_ret
    exact ⟨⟨_, _, rfl, B3.out⟩, F3.out⟩
theorem pack_calls (w : World) (B bt : Nat) (M : MT) (h : TabM w B bt M) (hlen : M.length ≤ 300) (hkey : ∀ x ∈ M, 0 ≤ x.1 ∧ x.1 ≤ 255) :
    Calls Try.prog 39 #[.pointer (some ⟨bt, 0, none⟩)] w fun e w' => (∃ a cap, e = .returned (.slice a (packL (sortM M)).length cap) ∧ BytesAt (New w.heap.size) w' (.slice a (packL (sortM M)).length cap) (packL (sortM M))) ∧ Fr (fun _ _ => True) w w' := by
  obtain ⟨mv, c, R, h, rfl⟩ := h
  cases mv with
  | none => exact pack_none w B bt c R h
  | some bm => exact pack_some w B bt bm c R h (by simpa using hlen) fun r hr => hkey r.abs (List.mem_map_of_mem hr)
end Go.Proofs.Ytlolfcnfcgegdaa
/- The service: twice is once; two states side by side; Pack. -/
namespace Go.Proofs.Ytlolfcnfcgegdaa
open Go.RowKit
set_option linter.unusedVariables false
set_option linter.unusedSimpArgs false

/-- What stays true of the sessions. -/
structure MF (M : MT) : Prop where
  few : M.length ≤ 6
  rng : ∀ x ∈ M, 0 ≤ x.1 ∧ x.1 ≤ 15
  seq : ∀ x ∈ M, 0 ≤ x.2.1
  rep : ∀ x ∈ M, x.2.2.length ≤ 9
theorem MF.nil : MF [] := ⟨Nat.zero_le _, fun _ h => (by cases h), fun _ h => (by cases h), fun _ h => (by cases h)⟩
theorem MF.openM {M : MT} (h : MF M) (n : Int) : MF (openM M n).2 := by
  unfold Go.Proofs.Ytlolfcnfcgegdaa.openM
  split
  · exact h
  · split
    · exact h
    · split
      · exact h
      · rename_i h1 h2 h3
        refine ⟨by show (M ++ [_]).length ≤ 6; simp; omega, fun x hx => ?_, fun x hx => ?_, fun x hx => ?_⟩ <;>
          rcases List.mem_append.1 hx with hx | hx
        · exact h.rng x hx
        · rw [List.mem_singleton.1 hx]; exact ⟨by show 0 ≤ n; omega, by show n ≤ 15; omega⟩
        · exact h.seq x hx
        · rw [List.mem_singleton.1 hx]; exact Int.le_refl _
        · exact h.rep x hx
        · rw [List.mem_singleton.1 hx]; exact Nat.zero_le _
theorem MF.closeM {M : MT} (h : MF M) (n : Int) : MF (closeM M n).2 := by
  unfold Go.Proofs.Ytlolfcnfcgegdaa.closeM
  split
  · refine ⟨Nat.le_trans (List.length_filter_le _ _) h.few, fun x hx => h.rng x (List.mem_filter.1 hx).1, fun x hx => h.seq x (List.mem_filter.1 hx).1, fun x hx => h.rep x (List.mem_filter.1 hx).1⟩
  · exact h
theorem MF.setM {M : MT} (h : MF M) (n s : Int) (hs : 0 ≤ s) (b : List UInt8) (hb : b.length ≤ 9) : MF (setM M n s b) := by
  unfold Go.Proofs.Ytlolfcnfcgegdaa.setM
  refine ⟨by rw [List.length_map]; exact h.few, fun x hx => ?_, fun x hx => ?_, fun x hx => ?_⟩ <;>
    (obtain ⟨y, hy, rfl⟩ := List.mem_map.1 hx; split)
  · exact h.rng y hy
  · exact h.rng y hy
  · exact hs
  · exact h.seq y hy
  · exact hb
  · exact h.rep y hy
theorem MF.doneM {M : MT} (h : MF M) (n s : Int) (hs : 0 ≤ s) (b : List UInt8) : MF (doneM M n s b).2 := by
  unfold Go.Proofs.Ytlolfcnfcgegdaa.doneM
  split
  · exact h
  · split
    · rename_i h2; exact h.setM n s hs b h2.2
    · exact h
theorem MF.onceM {M : MT} (h : MF M) (L : Lk) (c : Cm) : MF (onceM M L c).2.1 := by
  unfold Go.Proofs.Ytlolfcnfcgegdaa.onceM
  split
  · exact h
  · split
    · exact h
    · exact h.doneM _ _ (Int.natCast_nonneg _) _
theorem MF.actM {M : MT} (h : MF M) (L : Lk) (c : Cmd) : MF (actM M L c).2.1 := by
  unfold Go.Proofs.Ytlolfcnfcgegdaa.actM
  split
  · unfold applyC
    split
    · exact h
    · split
      · exact h.openM _
      · split
        · exact h.closeM _
        · exact h.onceM _ _
  · exact h
theorem rpM_rpB {r : Rp} (hc : r.code < 256) (hv : r.val < 18446744073709551616) : rpM (rpB r) = r := by
  obtain ⟨c, v⟩ := r
  dsimp only at hc hv
  unfold rpM rpB
  have c0 := @cut_app (le c 1) (le v 8 ++ []) 1 (le_length c 1)
  have c1 := @cut_app (le v 8) [] 8 (le_length v 8)
  rw [List.append_nil] at c0
  rw [List.append_nil] at c1
  rw [numR_ge _ 1 (by simp [le_length])]
  dsimp only
  rw [c0.1, c0.2, numR_ge _ 8 (by simp [le_length]), c1.1, ofLE_le1 1 c (by omega), ofLE_le1 8 v (by omega)]
theorem findM_key {M : MT} {n : Int} {x : Int × Int × List UInt8} (h : findM M n = some x) : x ∈ M ∧ x.1 = n :=
  ⟨List.mem_of_find?_eq_some h, by simpa using List.find?_some h⟩
theorem findM_set (n s : Int) (b : List UInt8) : ∀ M : MT, (findM M n).isSome = true → findM (setM M n s b) n = some (n, s, b)
  | [], h => by cases h
  | x :: M, h => by
    have ih := findM_set n s b M
    simp only [findM, setM, List.map_cons, List.find?_cons] at ih h ⊢
    by_cases hx : x.1 = n
    · simp [hx]
    · simp only [hx, ↓reduceIte, decide_false] at h ⊢
      exact ih h
/-- What is asked twice is done once. -/
theorem once_twice {M : MT} {L : Lk} (hM : MF M) (hL : L.ok) (c : Cm) (h0 : (askM M (c.cl : Nat) (c.sq : Nat)).2.2 = 0) : onceM (onceM M L c).2.1 (onceM M L c).2.2 c = onceM M L c := by
  by_cases h1 : (askM M (c.cl : Nat) (c.sq : Nat)).2.1 = true
  · have e : onceM M L c = (rpM (askM M (c.cl : Nat) (c.sq : Nat)).1, M, L) := by unfold onceM; rw [if_neg (fun x => x h0), if_pos h1]
    rw [e]
    dsimp only
    exact e
  · have e : onceM M L c = ((opM L c).1, (doneM M (c.cl : Nat) (c.sq : Nat) (rpB (opM L c).1)).2, (opM L c).2) := by unfold onceM; rw [if_neg (fun x => x h0), if_neg h1]
    obtain ⟨f1, f2⟩ := opM_fits hL c
    have ha : askM (doneM M (c.cl : Nat) (c.sq : Nat) (rpB (opM L c).1)).2 (c.cl : Nat) (c.sq : Nat) = (rpB (opM L c).1, true, 0) := by
      cases hf : findM M (c.cl : Nat) with
      | none => unfold askM at h0; rw [hf] at h0; cases h0
      | some x =>
        unfold askM at h0 h1
        rw [hf] at h0 h1
        dsimp only at h0 h1
        by_cases hq : 0 < ((c.sq : Nat) : Int) ∧ x.2.1 = ((c.sq : Nat) : Int)
        · rw [if_pos hq] at h1; exact absurd rfl h1
        · rw [if_neg hq] at h0
          dsimp only at h0
          unfold askCode at h0
          have hn1 : ¬ ((c.sq : Nat) : Int) ≤ x.2.1 := fun q => by rw [if_pos q] at h0; cases h0
          have hn2 : ((c.sq : Nat) : Int) = x.2.1 + 1 := by
            rw [if_neg hn1] at h0
            by_cases q : ((c.sq : Nat) : Int) = x.2.1 + 1
            · exact q
            · rw [if_pos q] at h0; cases h0
          have hs := hM.seq x (findM_key hf).1
          have hd : (doneM M (c.cl : Nat) (c.sq : Nat) (rpB (opM L c).1)).2 = setM M (c.cl : Nat) (c.sq : Nat) (rpB (opM L c).1) := by
            unfold doneM
            rw [hf]
            dsimp only
            rw [if_pos ⟨hn2, by rw [rpB_len]; exact Nat.le_refl _⟩]
          rw [hd]
          unfold askM
          rw [findM_set _ _ _ _ (by rw [hf]; rfl)]
          dsimp only
          rw [if_pos ⟨by omega, rfl⟩]
    rw [e]
    dsimp only
    generalize hM' : (doneM M (c.cl : Nat) (c.sq : Nat) (rpB (opM L c).1)).2 = M' at ha ⊢
    unfold onceM
    rw [ha]
    dsimp only
    rw [if_neg (fun x => x rfl), if_pos rfl, rpM_rpB f1 f2]
theorem act_twice {M : MT} {L : Lk} (hM : MF M) (hL : L.ok) (c : Cmd) (h3 : 3 ≤ c.op) (h6 : c.op ≤ 6) (h80 : (actM M L c).1.code ≠ 80) (h81 : (actM M L c).1.code ≠ 81) (h60 : (actM M L c).1.code ≠ 60) : actM (actM M L c).2.1 (actM M L c).2.2 c = actM M L c := by
  by_cases hf : c.fine = true
  · have e : ∀ M L, actM M L c = onceM M L c.cm := fun M L => by
      have e1 : c.cm.op = c.op.toNat := rfl
      unfold actM
      rw [if_pos hf]
      unfold applyC
      rw [e1, if_neg (by omega), if_neg (by omega), if_neg (by omega)]
    rw [e] at h80 h81 h60 ⊢
    rw [e]
    refine once_twice hM hL c.cm ?_
    rcases askM_code M (c.cm.cl : Nat) (c.cm.sq : Nat) with q | q | q | q
    · exact q
    · exact absurd (by unfold onceM; rw [if_pos (by rw [q]; decide), q]; rfl) h60
    · exact absurd (by unfold onceM; rw [if_pos (by rw [q]; decide), q]; rfl) h80
    · exact absurd (by unfold onceM; rw [if_pos (by rw [q]; decide), q]; rfl) h81
  · have e : ∀ M L, actM M L c = (⟨1, 0⟩, M, L) := fun M L => by unfold actM; rw [if_neg hf]
    have e1 := e M L
    rw [e1]
    exact e M L
/-- Nothing is of both. -/
def Dis (P1 Q1 P2 Q2 : Nat → Prop) : Prop := ∀ c, U P1 Q1 c → U P2 Q2 c → False
theorem Dis.symm {P1 Q1 P2 Q2 : Nat → Prop} (h : Dis P1 Q1 P2 Q2) : Dis P2 Q2 P1 Q1 := fun c h1 h2 => h c h2 h1
section
variable {n : Nat} {P1 Q1 P2 Q2 P' Q' : Nat → Prop} {w w' : World} {s1 a1 b1 s2 a2 b2 : Nat} {M1 M2 : MT} {L1 L2 : Lk}
theorem SV.out (h : SV n P1 Q1 w s1 a1 b1 M1 L1) {c : Nat} {o : Obj} (ho : w.heap[c]? = some o) (h1 : ¬ KP c o) (h2 : ¬ Qk o) : ¬ U P1 Q1 c := fun hu => hu.elim (h.lk.out ho h1) (h.se.out ho h2)
theorem SV.here (h : SV n P1 Q1 w s1 a1 b1 M1 L1) {c : Nat} (hc : U P1 Q1 c) : c < w.heap.size := by
  rcases hc with hc | hc
  · obtain ⟨o, ho, _⟩ := h.lk.ps hc; exact lt_of_some ho
  · obtain ⟨o, ho, _⟩ := h.se.kind c hc; exact lt_of_some ho
/-- What one does leaves the other one as it was. -/
theorem SV.beside (h1 : SV n P1 Q1 w s1 a1 b1 M1 L1) (h2 : SV n P2 Q2 w s2 a2 b2 M2 L2) (k : Kp (U P1 Q1) (U P' Q') w w') (d : Dis P1 Q1 P2 Q2) : SV n P2 Q2 w' s2 a2 b2 M2 L2 ∧ Dis P' Q' P2 Q2 := by
  refine ⟨h2.frk k.fr fun c o ho hk hu => ?_, fun c hu' hu2 => ?_⟩
  · rcases hk with rfl | hp | hq | hu' | hw
    · have := h2.st
      rw [ho] at this
      cases this
      exact h1.out ho (kp_cells (by decide) (by decide)) (qk_cells (by decide) (by decide)) hu
    · exact d c hu (.inl hp)
    · exact d c hu (.inr hq)
    · rcases hu' with hu' | ⟨_, _, rfl⟩
      · have := h1.low hu; omega
      · exact h1.out ho (kp_cells (by decide) (by decide)) (qk_cells (by decide) (by decide)) hu
    · obtain ⟨_, _, rfl⟩ := hw
      exact h1.out ho (kp_cells (by decide) (by decide)) (qk_cells (by decide) (by decide)) hu
  · by_cases hu : U P1 Q1 c
    · exact d c hu hu2
    · exact k.out c (h2.here hu2) hu hu'
end
/-- The state's bytes. -/
def svB (M : MT) (L : Lk) : List UInt8 := byt (packL (sortM M)) ++ byt (lkB L)
theorem svB_len (M : MT) (L : Lk) : (svB M L).length ≤ 2004 := by
  unfold svB
  have := byt_length (packL (sortM M))
  have := byt_length (lkB L)
  rw [List.length_append]
  omega
set_option maxRecDepth 100000 in
set_option maxHeartbeats 2000000 in
theorem svpack_calls {n : Nat} {P Q : Nat → Prop} (w : World) (bs b1 b2 : Nat) (M : MT) (L : Lk) (h : SV n P Q w bs b1 b2 M L) (hM : MF M) :
    Calls Try.prog 19 #[.pointer (some ⟨bs, 0, none⟩)] w fun e w' => (∃ a cap, e = .returned (.slice a (svB M L).length cap) ∧ BytesAt (New w.heap.size) w' (.slice a (svB M L).length cap) (svB M L)) ∧ Fr (fun _ _ => True) w w' := by
  have H := Lib.hid h
  have ES : Hid (svB M L = ([] ++ byt (packL (sortM M))) ++ byt (lkB L)) := by show _ = _; rw [List.nil_append]; rfl
  have SL := svB_len M L
  have KM := Lib.hid (fun W (f : Fr (fun _ _ => True) w W) => pack_calls W n b1 M (H.out.fr f).se.tm (by have := hM.few; omega) fun x hx => by have := hM.rng x hx; omega)
  have KL := Lib.hid (fun W (f : Fr (fun _ _ => True) w W) => lkpack_calls W b2 L (H.out.fr f).lk)
  have hl1 : (packL (sortM M)).length ≤ 400000 := by
    rw [← packK_all]; exact packK_len M _ (by have := hM.few; omega)
  have hl2 : (lkB L).length ≤ 1000 := by have := lkK_len h.ok 4; show (lkK L 4).length ≤ _; omega
  obtain ⟨X, hX⟩ : ∃ X, packL (sortM M) = X := ⟨_, rfl⟩
  obtain ⟨Y, hY⟩ : ∃ Y, lkB L = Y := ⟨_, rfl⟩
  obtain ⟨Z, hZ⟩ : ∃ Z, svB M L = Z := ⟨_, rfl⟩
  rw [hX] at KM ES hl1
  rw [hY] at KL ES hl2
  rw [hZ] at ES SL ⊢
  clear hX hY hZ h hM
  obtain ⟨W1, hW1⟩ : ∃ W1, w.alloc (.cells #[.slice none 0 0] 80 (0, 0)) = W1 := ⟨_, rfl⟩
  have FW1 : Hid (Fr (fun _ _ => True) w W1) := hW1 ▸ (Fr.refl _ _).alloc _
  have L0 : Hid (LWP (fun c => c < w.heap.size) W1 w.heap.size []) := hW1 ▸ LWP.mk0 w fun c hc => hc
  have S1 := Lib.hid (H.out.fr FW1.out)
  have c0 := cell_mk (i := 0) S1.out.st rfl
  have c1 := cell_mk (i := 1) S1.out.st rfl
  have KM1 := Lib.hid (KM.out W1 FW1.out)
  go_enter Try.func19, Try.ntmps19
  go_wp2_with fail
  clear hW1
  with_reducible refine KM1.out.mono ?_
  rintro e1 w1 ⟨⟨a1, cp1, rfl, hb1⟩, f1⟩
  have F1 := Lib.hid (FW1.out.trans f1)
  have L1 : Hid (LWP (fun c => (c < w.heap.size ∨ W1.heap.size ≤ c) ∧ c < w1.heap.size) w1 w.heap.size []) := by
    have l2 := (L0.out.more (Pr' := fun c => c < w.heap.size ∨ W1.heap.size ≤ c) fun c hc => hc).tt f1
    obtain ⟨u, hu, hk⟩ := l2.at'
    exact ⟨fun hc => l2.new hc.1, u, hu, fun k e hc => hk k e hc.1⟩
  have B1 : Hid (BytesAt (fun c _ => (c < w.heap.size ∨ W1.heap.size ≤ c) ∧ c < w1.heap.size) w1 (.slice a1 X.length cp1) X) := hb1.mono fun c o ho hc => ⟨.inr hc.1, lt_of_some ho⟩
  have K1 := Lib.hid (lwp_bytes w1 w.heap.size [] _ X L1.out (fun c hc => hc.2) B1.out (by simp) (by omega))
  clear hb1 f1 KM1 L0 c0 c1 S1
  go_wp2_with fail
  with_reducible refine K1.out.mono ?_
  rintro e1 w2 ⟨rfl, l2, f2⟩
  have F2 : Hid (Fr (fun _ _ => True) w w2) := old_tt F1.out f2 fun b _ hb => ⟨.inl hb, Nat.lt_of_lt_of_le hb F1.out.size⟩
  have L2 := Lib.hid (l2.more (Pr' := fun c => c < w.heap.size) fun c hc => .inl ⟨.inl hc, Nat.lt_of_lt_of_le hc F1.out.size⟩)
  clear l2 f2 K1 B1 L1 F1 FW1
  have S2 := Lib.hid (H.out.fr F2.out)
  have c0 := cell_mk (i := 0) S2.out.st rfl
  have c1 := cell_mk (i := 1) S2.out.st rfl
  have KL1 := Lib.hid (KL.out w2 F2.out)
  go_wp2_with fail
  with_reducible refine KL1.out.mono ?_
  rintro e1 w3 ⟨⟨a3, cp3, rfl, hb3⟩, f3⟩
  have F3 := Lib.hid (F2.out.trans f3)
  have LX := byt_length X
  have L3 : Hid (LWP (fun c => (c < w.heap.size ∨ w2.heap.size ≤ c) ∧ c < w3.heap.size) w3 w.heap.size ([] ++ byt X)) := by
    have l2 := (L2.out.more (Pr' := fun c => c < w.heap.size ∨ w2.heap.size ≤ c) fun c hc => hc).tt f3
    obtain ⟨u, hu, hk⟩ := l2.at'
    exact ⟨fun hc => l2.new hc.1, u, hu, fun k e hc => hk k e hc.1⟩
  have B3 : Hid (BytesAt (fun c _ => (c < w.heap.size ∨ w2.heap.size ≤ c) ∧ c < w3.heap.size) w3 (.slice a3 Y.length cp3) Y) := hb3.mono fun c o ho hc => ⟨.inr hc.1, lt_of_some ho⟩
  have K1 := Lib.hid (lwp_bytes w3 w.heap.size _ _ Y L3.out (fun c hc => hc.2) B3.out (by rw [List.nil_append]; omega) (by omega))
  rw [← ES.out] at K1
  clear hb3 f3 KL1 L2 c0 c1 S2
  go_wp2_with fail
  with_reducible refine K1.out.mono ?_
  rintro e1 w4 ⟨rfl, l4, f4⟩
  have F4 : Hid (Fr (fun _ _ => True) w w4) := old_tt F3.out f4 fun b _ hb => ⟨.inl hb, Nat.lt_of_lt_of_le hb F3.out.size⟩
  have K4 := Lib.hid (lwp_out w4 w.heap.size Z l4 (by omega))
  clear l4 f4 K1 B3 L3 F3 F2
  go_wp2_with fail
  with_reducible refine K4.out.mono ?_
  rintro e1 w5 ⟨⟨a5, cp5, rfl, hb⟩, f5⟩
  have B5 : Hid (BytesAt (New w.heap.size) w5 (.slice a5 Z.length cp5) Z) := hb.mono fun b o _ hk => ⟨by have := hk.1; have := F4.out.size; omega, hk.2⟩
  have F5 := Lib.hid (F4.out.trans f5)
  clear hb f5 K4
  go_wp2
  go_ret
  exact ⟨⟨_, _, rfl, B5.out⟩, F5.out⟩
end Go.Proofs.Ytlolfcnfcgegdaa
