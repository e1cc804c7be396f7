/- Texts of the proofs, part 26: what the functions that they reach do, walked; no conditions beyond those that each states. -/
import Derived.Maps.RangeWalk
import Derived.Test.YtlolfcnfcgegdaaGreatZz4e20076a9b
set_option linter.unusedVariables false
set_option linter.unusedSimpArgs false
/- The sessions' table: Clients. -/
namespace Go.Proofs.YtlolfcnfcgegdaaGreat
open Go.RowKit Go.ChangeMaps
set_option linter.unusedVariables false
set_option linter.unusedSimpArgs false

/-- The step of a range over a map that is only read. -/
theorem wpList_next_e {P : Program} {ops : Array Oper} {rest : List Oper} {o : Oper} {a : Act} {Q : Exit → Act → World → Prop} (w : World) (hg : o.guard = none) (it : Operand) (hop : o.op = Op.next it false)
    (r bm since c0 : Nat) (seen : Array Nat) (es : Array MapEntry) (clock : Nat) (hit : a.eval it = .pointer (some ⟨r, 0, none⟩))
    (hr : w.heap[r]? = some (.mapIter (some bm) since seen c0)) (hb : w.heap[bm]? = some (.map es clock)) (hold : ∀ x ∈ es.toList, x.born < since) (hsc : since ≤ c0)
    (hDone : (leftOf es seen).size = 0 → wpList P ops Q rest (a.put o.dst (.tuple #[.bool false])) w)
    (hMore : ∀ e ∈ (leftOf es seen).toList, ∀ w1 : World, (w1 = w ∨ w1 = w.drew) → wpList P ops Q rest (a.put o.dst (.tuple #[.bool true, e.key, e.val])) (setBlock w1 r (.mapIter (some bm) since (seen.push e.born) clock))) :
    wpList P ops Q (o :: rest) a w := by
  refine wpList_plain hg fun K' hK' => ?_
  unfold Oper.wp
  rcases run_next_at (P := P) w o.type r bm since c0 seen es clock hr hb hold hsc with ⟨h0, hrun⟩ | ⟨e, he, w1, hw1, hrun⟩
  · simp [execOp, hop, hit, hrun, Result.andThen]
    exact hK' _ _ (hDone h0)
  · simp [execOp, hop, hit, hrun, Result.andThen]
    exact hK' _ _ (hMore e he w1 hw1)
theorem heap_setBlock_ne {w : World} {b k : Nat} (h : k ≠ b) (o : Obj) : (setBlock w b o).heap[k]? = w.heap[k]? := by
  show (w.heap.setIfInBounds b o)[k]? = _
  rw [Array.getElem?_setIfInBounds_ne (Ne.symm h)]
theorem heap_setBlock_same {w : World} {b : Nat} {x : Obj} (h : w.heap[b]? = some x) (o : Obj) : (setBlock w b o).heap[b]? = some o := by
  show (w.heap.setIfInBounds b o)[b]? = _
  have := lt_of_some h
  simp [this]
theorem Fr.setBlock_new {K : Nat → Obj → Prop} {a w : World} (h : Fr K a w) {r : Nat} (hr : a.heap.size ≤ r) (o : Obj) : Fr K a (setBlock w r o) :=
  ⟨h.os, h.tape, h.output, by have := h.size; show _ ≤ (w.heap.setIfInBounds r o).size; simpa using this, fun b x hb hk => by
    have := lt_of_some hb
    rw [heap_setBlock_ne (by omega)]; exact h.keep b x hb hk⟩
theorem setBlock_size (w : World) (r : Nat) (o : Obj) : (setBlock w r o).heap.size = w.heap.size := by show (w.heap.setIfInBounds r o).size = _; simp
def mapE (r : Rec) : MapEntry := { key := .int .i64 r.key, val := .pointer (some ⟨r.blk, 0, none⟩), born := r.born }
theorem entries_mapE (R : List Rec) : (entriesOf .i64 (R.map Rec.ent)).toList = R.map mapE := by simp [entriesOf, Rec.ent, mapE, Function.comp_def]
theorem left_mem {R : List Rec} {seen : Array Nat} {e : MapEntry} (h : e ∈ (leftOf (entriesOf .i64 (R.map Rec.ent)) seen).toList) : ∃ r ∈ R, e = mapE r ∧ ¬ r.born ∈ seen.toList := by
  unfold leftOf at h
  rw [Array.toList_filter, List.mem_filter, entries_mapE] at h
  obtain ⟨r, hr, rfl⟩ := List.mem_map.1 h.1
  refine ⟨r, hr, rfl, fun hs => ?_⟩
  have h2 := h.2
  have : seen.contains (mapE r).born = true := by simp [mapE]; simpa using hs
  rw [this] at h2
  simp at h2
theorem left_none {R : List Rec} {seen : Array Nat} (h : (leftOf (entriesOf .i64 (R.map Rec.ent)) seen).size = 0) : ∀ r ∈ R, r.born ∈ seen.toList := by
  intro r hr
  apply Classical.byContradiction
  intro hn
  have hm : mapE r ∈ (leftOf (entriesOf .i64 (R.map Rec.ent)) seen).toList := by
    unfold leftOf
    rw [Array.toList_filter, List.mem_filter, entries_mapE]
    refine ⟨List.mem_map_of_mem hr, ?_⟩
    have : seen.contains (mapE r).born = false := by
      rw [Bool.eq_false_iff]; intro e; apply hn; simpa [mapE] using e
    rw [this]; rfl
  have : 0 < (leftOf (entriesOf .i64 (R.map Rec.ent)) seen).toList.length := List.length_pos_of_mem hm
  rw [Array.length_toList] at this
  omega

/-- What the loop over the table's map has: those that came. -/
structure Came (w wr : World) (bm c : Nat) (R P : List Rec) (o : Value) : Prop where
  row : RowI wr w.heap.size o (P.map Rec.key)
  iter : ∃ (seen : Array Nat) (c0 : Nat), wr.heap[w.heap.size]? = some (.mapIter (some bm) c seen c0) ∧ seen.toList = P.map Rec.born ∧ c ≤ c0
  sub : ∀ p ∈ P, p ∈ R
  nodup : (P.map Rec.born).Nodup
  apart : o.ownBlock ≠ some w.heap.size
  fr : Fr (fun _ _ => True) w wr
theorem nodup_le : ∀ {l m : List Nat}, l.Nodup → (∀ x ∈ l, x ∈ m) → l.length ≤ m.length
  | [], _, _, _ => Nat.zero_le _
  | x :: l, m, hn, hs => by
    rw [List.nodup_cons] at hn
    have hx : x ∈ m := hs x (by simp)
    have ih := nodup_le (l := l) (m := m.erase x) hn.2 fun y hy => by
      have hne : y ≠ x := fun e => hn.1 (e ▸ hy)
      exact (List.mem_erase_of_ne hne).2 (hs y (by simp [hy]))
    rw [List.length_erase_of_mem hx] at ih
    have := List.length_pos_of_mem hx
    rw [List.length_cons]
    omega
theorem Came.few {w wr : World} {bm c : Nat} {R P : List Rec} {o : Value} (h : Came w wr bm c R P o) : P.length ≤ R.length := by
  have := nodup_le (m := R.map Rec.born) h.nodup fun x hx => by
    obtain ⟨p, hp, rfl⟩ := List.mem_map.1 hx
    exact List.mem_map_of_mem (h.sub p hp)
  simpa using this
/-- All have come: they are the table's, in some order. -/
theorem came_all {R P : List Rec} (hk : (R.map Rec.key).Nodup) (hb : (R.map Rec.born).Nodup) (sub : ∀ p ∈ P, p ∈ R) (nd : (P.map Rec.born).Nodup) (all : ∀ r ∈ R, r.born ∈ P.map Rec.born) : (P.map Rec.key).Perm (R.map Rec.key) := by
  have hP : P.Nodup := (List.pairwise_map.1 nd).imp fun h e => h (by rw [e])
  have hR : R.Nodup := (List.pairwise_map.1 hb).imp fun h e => h (by rw [e])
  refine List.Perm.map _ ((List.perm_ext_iff_of_nodup hP hR).2 fun r => ⟨sub r, fun hr => ?_⟩)
  obtain ⟨p, hp, e⟩ := List.mem_map.1 (all r hr)
  exact nodup_inj hb (sub p hp) hr e ▸ hp
def lenOf : Value → Nat | .slice _ n _ => n | _ => 0
def SeenAll (R : List Rec) (seen : Array Nat) : Prop := ∀ x ∈ R, x.born ∈ seen.toList
def Unseen (R : List Rec) (seen : Array Nat) (x : Rec) : Prop := x ∈ R ∧ ¬ x.born ∈ seen.toList
/-- An append of one int to a row of the function's own. -/
theorem wpList_append_int1 {ops : Array Oper} {rest : List Oper} {o : Oper} {a : Act} {Q : Exit → Act → World → Prop} (w0 W1 : World) (y : Int) (hF : Hid (Fr (fun _ _ => True) w0 W1)) (hgd : o.guard = none) (s x : Operand)
    (ho : o.op = .call { callee := .builtin .append, args := #[s, x], argTypes := #[106, 106] }) (v : Value) (xs : List Int) (hs : a.eval s = v) (hown : Hid (RowI W1 w0.heap.size v xs))
    (hx : a.eval x = .slice (some ⟨W1.heap.size, 0, none⟩) 1 1) (r : List Int) (hr : Hid (xs ++ [y] = r)) (n : Nat) (hn : Hid (r.length = n)) (hm : n ≤ 2000000)
    (h : ∀ a' c' w', Hid (RowI w' w0.heap.size (.slice a' n c') r) → Hid (Fr (fun _ _ => True) w0 w') → Hid (Fr (fun b _ => v.ownBlock ≠ some b) W1 w') → Hid (∀ b, b < W1.heap.size → v.ownBlock ≠ some b → (Value.slice a' n c').ownBlock ≠ some b) → wpList Tryz.prog ops Q rest (a.put o.dst (.slice a' n c')) w') :
    wpList Tryz.prog ops Q (o :: rest) a (W1.alloc (.cells #[.int .i64 y] 3 (0, 0))) := by
  obtain ⟨i0, hi, hz0, hz1, hz2⟩ := info_parts info_int
  have hr := hr.out
  have hn := hn.out
  subst hr hn
  have r1 := hown.out
  rw [List.length_append, List.length_singleton] at hm
  have hsrc := (NumsAt.lit1 W1 y).src (by simp)
  refine wpList_append_src2 _ hgd s x 106 ho w0.heap.size 3 i0 (.int .i64 0) 1 8 Tryz.underlying106 hi hz0 hz1 hz2 rfl (by decide) v xs.length (xs.map intV) hs (r1.tt ((Fr.refl _ _).alloc _)) _ 1 [intV y] hx hsrc (by unfold maxLen; omega) (by omega) (by have := hF.out.size; simp; omega) ?_
  intro v' w' h1 h2 h3
  have e1 : xs.map intV ++ [intV y] = (xs ++ [y]).map intV := by simp
  have e2 : xs.length + 1 = (xs ++ [y]).length := by simp
  rw [e1, e2] at h1
  obtain ⟨a', c', rfl⟩ := RowI.form h1
  exact h a' c' w' h1 ((hF.out.alloc _).grown_new h2 (own_new r1)) (((Fr.refl _ _).alloc _).trans (Fr.of_grown h2 fun k o e _ hne => hne e)) fun b hb hv => h3.ne hv (by simp; omega)
/-- What a step of the range over the table's map leaves. -/
structure Stept (w w' : World) (r bm c : Nat) (seen : Array Nat) (x : Rec) : Prop where
  iter : w'.heap[r]? = some (.mapIter (some bm) c (seen.push x.born) c)
  fr : Fr (fun b _ => b ≠ r) w w'
  size : w'.heap.size = w.heap.size
theorem wpList_next_rec {ops : Array Oper} {rest : List Oper} {o : Oper} {a : Act} {Q : Exit → Act → World → Prop} (w : World) (hg : o.guard = none) (it : Operand) (hop : o.op = Op.next it false)
    (r bm c c0 : Nat) (seen : Array Nat) (R : List Rec) (hit : a.eval it = .pointer (some ⟨r, 0, none⟩))
    (hr : Hid (w.heap[r]? = some (.mapIter (some bm) c seen c0))) (hb : Hid (w.heap[bm]? = some (.map (entriesOf .i64 (R.map Rec.ent)) c))) (hold : Hid (∀ x ∈ R, x.born < c)) (hnd : Hid ((R.map Rec.born).Nodup)) (hsc : c ≤ c0)
    (hDone : Hid (SeenAll R seen) → wpList Tryz.prog ops Q rest (a.put o.dst (.tuple #[.bool false])) w)
    (hMore : ∀ (x : Rec) (w' : World), Hid (Unseen R seen x) → Hid (Stept w w' r bm c seen x) → (Instr.entry (.pointer (some ⟨r, 0, none⟩))).run Tryz.prog w' = .ok (.tuple #[.int .i64 x.key, .pointer (some ⟨x.blk, 0, none⟩)]) w' →
      wpList Tryz.prog ops Q rest (a.put o.dst (.tuple #[.bool true, .int .i64 x.key, .pointer (some ⟨x.blk, 0, none⟩)])) w') :
    wpList Tryz.prog ops Q (o :: rest) a w := by
  refine wpList_next_e w hg it hop r bm c c0 seen _ c hit hr.out hb.out (fun x hx => ?_) hsc (fun h0 => hDone (left_none h0)) fun e he w1 hw1 => ?_
  · rw [entries_mapE] at hx
    obtain ⟨y, hy, rfl⟩ := List.mem_map.1 hx
    exact hold.out y hy
  · obtain ⟨x, hx, rfl, hs⟩ := left_mem he
    have hne : bm ≠ r := fun e => by have := hb.out; rw [e, hr.out] at this; cases this
    have hh : w1.heap = w.heap := by rcases hw1 with rfl | rfl <;> rfl
    have hr1 : w1.heap[r]? = some (.mapIter (some bm) c seen c0) := by rw [hh]; exact hr.out
    have hi := heap_setBlock_same hr1 (.mapIter (some bm) c (seen.push x.born) c)
    refine hMore x _ ⟨hx, hs⟩ ⟨hi, ⟨?_, ?_, ?_, by rw [setBlock_size, hh]; exact Nat.le_refl _, fun b o hb hk => by rw [heap_setBlock_ne hk, hh]; exact hb⟩, by rw [setBlock_size, hh]⟩ ?_
    · rcases hw1 with rfl | rfl <;> rfl
    · rcases hw1 with rfl | rfl <;> rfl
    · rcases hw1 with rfl | rfl <;> rfl
    · refine run_entry_at (P := Tryz.prog) _ r bm c seen _ c (mapE x) hi (by rw [heap_setBlock_ne hne, hh]; exact hb.out) (by rw [entries_mapE]; exact List.mem_map_of_mem hx) ?_
      rw [entries_mapE, List.map_map]; exact hnd.out

set_option maxRecDepth 100000 in
set_option maxHeartbeats 2000000 in
theorem clients_some (w : World) (B bt bm c : Nat) (R : List Rec) (h : Tab w B bt (some bm) c R) (hlen : R.length ≤ 1000) :
    Calls Tryz.prog 49 #[.pointer (some ⟨bt, 0, none⟩)] w fun e w' => (∃ v, e = .returned v ∧ RowI w' w.heap.size v (srt (R.map Rec.key))) ∧ Fr (fun _ _ => True) w w' := by
  have hc := h.cell
  have hm := h.map bm rfl
  have hrg := run_range_map (P := Tryz.prog) w 57 _ _ bm _ c Tryz.underlying57 hm.2
  have HM := Lib.hid hm.2
  have HK := Lib.hid h.keys
  have HB := Lib.hid h.borns
  have HO := Lib.hid h.old
  have hbm := lt_of_some hm.2
  clear h hm
  go_enter Tryz.func49, Tryz.ntmps49
  go_wp2_with fail
  clear hrg hc
  go_loopw [3, 4] (fun o _ wr => ∃ P, Came w wr bm c R P o) (fun o _ _ => R.length - lenOf o)
  case atStart => exact ⟨[], RowI.nil _ _, ⟨#[], c, heap_alloc_new _ _, rfl, Nat.le_refl _⟩, (fun p hp => by cases hp), List.nodup_nil, by simp [Value.ownBlock], (Fr.refl _ _).alloc _⟩
  case round =>
    obtain ⟨P, hP⟩ := hrel
    have hfew := hP.few
    obtain ⟨a, cap, rfl⟩ := hP.row.form
    obtain ⟨seen, c0, hit, hseen, hc0⟩ := hP.iter
    have HP := Lib.hid hP
    have HI := Lib.hid hit
    have HS := Lib.hid hseen
    have hmb := Lib.hid (hP.fr.keep _ _ HM.out trivial)
    clear hP hit hseen
    rw [List.length_map]
    go_wp2_with (at_next; refine wpList_next_rec _ rfl _ rfl w.heap.size bm c c0 seen R rfl HI hmb HO HB hc0 ?_ ?_)
    · intro hall
      have hal := hall.out
      unfold SeenAll at hal
      rw [HS.out] at hal
      have HP2 := Lib.hid (came_all HK.out HB.out HP.out.sub HP.out.nodup hal)
      clear hall hal
      have K1 := Lib.hid (sorti_calls wr w.heap.size _ _ HP.out.row (by rw [List.length_map]; omega))
      rw [List.length_map, srt_congr HP2.out] at K1
      go_wp2_with fail
      with_reducible refine K1.out.mono ?_
      rintro e1 w1 ⟨rfl, hr, hg⟩
      have HR := Lib.hid hr
      have HF := Lib.hid (HP.out.fr.grown_new hg (by have := own_new HP.out.row; rwa [List.length_map] at this))
      clear hr hg
      go_wp2
      go_ret
      exact ⟨⟨_, rfl, HR.out⟩, HF.out⟩
    · intro x w1 HX ST hen
      have HO1 : Hid (RowI w1 w.heap.size (.slice a P.length cap) (P.map Rec.key)) := by
        have := HP.out.row
        rw [List.length_map] at this
        have ha := HP.out.apart
        rw [List.length_map] at ha
        exact ownsRow_fr this ST.out.fr fun b o hb _ e => ha (by rw [hb, e])
      have F1 : Hid (Fr (fun _ _ => True) w w1) := old_tt HP.out.fr ST.out.fr fun b _ hb => by omega
      have EQ : Hid (P.map Rec.key ++ [x.key] = (P ++ [x]).map Rec.key) := by simp [Hid]
      have LN : Hid (((P ++ [x]).map Rec.key).length = P.length + 1) := by simp [Hid]
      have NDX : Hid (((P ++ [x]).map Rec.born).Nodup) := by
        rw [List.map_append]
        refine List.nodup_append.2 ⟨HP.out.nodup, by simp, fun y hy z hz e => ?_⟩
        have hz : z = x.born := by simpa using hz
        have := HX.out.2
        rw [HS.out] at this
        exact this (by rw [← hz, ← e]; exact hy)
      have SUB : Hid (∀ p ∈ P ++ [x], p ∈ R) := fun p hp => by
        rcases List.mem_append.1 hp with hp | hp
        · exact HP.out.sub p hp
        · rw [List.mem_singleton.1 hp]; exact HX.out.1
      have hltR : P.length < R.length := by
        have := nodup_le (m := R.map Rec.born) NDX.out fun y hy => by
          obtain ⟨p, hp, rfl⟩ := List.mem_map.1 hy
          exact List.mem_map_of_mem (SUB.out p hp)
        simp at this
        omega
      have AP : Hid ((Value.slice a P.length cap).ownBlock ≠ some w.heap.size) := by have := HP.out.apart; rwa [List.length_map] at this
      go_wp2_with (at_builtin; refine wpList_append_int1 w w1 _ F1 rfl _ _ rfl _ _ rfl HO1 rfl _ EQ (P.length + 1) LN (by omega) ?_)
      intro a1 c1 w2 O1 G1 G2 N1
      clear hen
      go_wp2
      go_roundw
      case rel =>
        refine ⟨P ++ [x], by rw [← EQ.out]; exact O1.out, ⟨seen.push x.born, c, ?_, ?_, Nat.le_refl _⟩, ?_, ?_, ?_, G1.out⟩
        · exact G2.out.keep _ _ ST.out.iter AP.out
        · rw [Array.toList_push, HS.out]; simp
        · exact SUB.out
        · exact NDX.out
        · exact N1.out _ (lt_of_some ST.out.iter) AP.out
      case measure => simp [lenOf]; omega
theorem clients_none (w : World) (B bt c : Nat) (R : List Rec) (h : Tab w B bt none c R) :
    Calls Tryz.prog 49 #[.pointer (some ⟨bt, 0, none⟩)] w fun e w' => (∃ v, e = .returned v ∧ RowI w' w.heap.size v (srt (R.map Rec.key))) ∧ Fr (fun _ _ => True) w w' := by
  have hR := h.nil rfl
  subst hR
  have hc := h.cell
  have hrg := run_range_nilMap (P := Tryz.prog) w 57 _ _ Tryz.underlying57
  have hnx := fun ty => run_next_nilMap (P := Tryz.prog) w ty 0 0 #[]
  clear h
  go_enter Tryz.func49, Tryz.ntmps49
  go_wp2_with fail
  clear hrg hc
  go_loopw [3, 4] (fun o _ wr => o = .slice none 0 0 ∧ wr = w.alloc (.mapIter none 0 #[] 0)) (fun o _ _ => 0)
  case atStart => exact ⟨rfl, rfl⟩
  case round =>
    obtain ⟨rfl, rfl⟩ := hrel
    have K1 := Lib.hid (sorti_calls (w.alloc (.mapIter none 0 #[] 0)) w.heap.size (.slice none 0 0) [] (RowI.nil _ _) (by simp))
    go_wp2_with fail
    with_reducible refine K1.out.mono ?_
    rintro e1 w1 ⟨rfl, hr, hg⟩
    have HR := Lib.hid hr
    have HF := Lib.hid (((Fr.refl (fun _ _ => True) w).alloc _).grown_new hg (fun k e => by cases e))
    clear hr hg
    go_wp2
    go_ret
    exact ⟨⟨_, rfl, HR.out⟩, HF.out⟩
theorem clients_calls (w : World) (B bt : Nat) (M : MT) (h : TabM w B bt M) (hlen : M.length ≤ 1000) :
    Calls Tryz.prog 49 #[.pointer (some ⟨bt, 0, none⟩)] w fun e w' => (∃ v, e = .returned v ∧ RowI w' w.heap.size v (srt (M.map (·.1)))) ∧ Fr (fun _ _ => True) w w' := by
  obtain ⟨mv, c, R, h, rfl⟩ := h
  rw [List.map_map]
  cases mv with
  | none => exact clients_none w B bt c R h
  | some bm => exact clients_some w B bt bm c R h (by simpa using hlen)
end Go.Proofs.YtlolfcnfcgegdaaGreat
/- slices.Contains at ints and at uint64s; rows of uint64s of one's own (printed by rows_u.py). -/
namespace Go.Proofs.YtlolfcnfcgegdaaGreat
open Go.RowKit
set_option linter.unusedVariables false
set_option linter.unusedSimpArgs false

set_option maxRecDepth 100000 in
theorem index_nil (w : World) (a : Option Addr) (c : Nat) (n : Int) : Calls Tryz.prog 133 #[.slice a 0 c, .int .i64 n] w fun e w' => e = .returned (.int .i64 (-1)) ∧ w = w' := by
  go_enter Tryz.func133, Tryz.ntmps133
  go_wp2
  go_loop [8] (fun i => i = .int .i64 0) (fun _ => 0)
  case atStart => exact rfl
  case round =>
    obtain rfl := hrel
    go_wp2
    go_ret
    exact ⟨rfl, rfl⟩
set_option maxRecDepth 100000 in
theorem index_loop {K : Nat → Obj → Prop} (w : World) (b off c : Nat) (zs : List Int) (n : Int) (h : IntsAt K w (.slice (some ⟨b, off, none⟩) zs.length c) zs) (hm : zs.length ≤ 9223372036854775807) :
    Calls Tryz.prog 133 #[.slice (some ⟨b, off, none⟩) zs.length c, .int .i64 n] w fun e w' => (∃ r, e = .returned (.int .i64 r) ∧ hasI zs n = decide (0 ≤ r)) ∧ w = w' := by
  have H := Lib.hid h
  clear h
  obtain ⟨N, hN⟩ : ∃ N, N = zs.length := ⟨_, rfl⟩
  have HN := Lib.hid hN
  rw [← hN] at hm ⊢
  clear hN
  go_enter Tryz.func133, Tryz.ntmps133
  go_wp2
  go_loop [8] (fun i => ∃ k : Nat, k ≤ N ∧ i = .int .i64 k ∧ hasI (zs.take k) n = false) (fun i => N - (intOf i).toNat)
  case atStart => exact ⟨0, Nat.zero_le _, rfl, hasI_take0 _ _⟩
  case round =>
    obtain ⟨k, hk, rfl, ht⟩ := hrel
    have HT := Lib.hid ht
    clear ht
    by_cases hlt : k < N
    · have l1 : k < zs.length := by rw [← HN.out]; exact hlt
      have g1 := H.out.cell l1
      have HC := Lib.hid (take_contains zs k l1 n)
      generalize hu : zs[k] = u at g1 HC
      clear hu l1
      go_wp2
      · go_ret
        have he : (n == u) = true := by assumption
        refine ⟨⟨_, rfl, ?_⟩, rfl⟩
        have : hasI (zs.take (k + 1)) n = true := by rw [HC.out]; simp at he; simp [he]
        rw [contains_take this]
        simp
      · have he : (n == u) = false := by assumption
        go_round
        case rel =>
          refine ⟨k + 1, by omega, by go_num, ?_⟩
          rw [HC.out, HT.out, he]
          rfl
        case measure => simp [intOf]; omega
    · go_wp2
      go_ret
      refine ⟨⟨_, rfl, ?_⟩, rfl⟩
      have := HT.out
      rw [List.take_of_length_le (by have := HN.out; omega)] at this
      rw [this]
      rfl
set_option maxRecDepth 100000 in
theorem contains_calls {K : Nat → Obj → Prop} (w : World) (v : Value) (zs : List Int) (n : Int) (h : IntsAt K w v zs) (hm : zs.length ≤ maxLen) :
    Calls Tryz.prog 113 #[v, .int .i64 n] w fun e w' => e = .returned (.bool (hasI zs n)) ∧ w = w' := by
  have hi : Calls Tryz.prog 133 #[v, .int .i64 n] w fun e w' => (∃ r, e = .returned (.int .i64 r) ∧ hasI zs n = decide (0 ≤ r)) ∧ w = w' := by
    obtain ⟨a, c, rfl⟩ := h.form
    by_cases h0 : zs.length = 0
    · have e1 := List.length_eq_zero_iff.1 h0
      subst e1
      exact (index_nil w a c n).mono fun e w' ⟨he, hw⟩ => ⟨⟨_, he, rfl⟩, hw⟩
    · obtain ⟨b, off, rfl⟩ := h.addr (by omega)
      exact index_loop w b off c zs n h (by unfold maxLen at hm; omega)
  have HI := Lib.hid hi
  clear hi h hm
  go_enter Tryz.func113, Tryz.ntmps113
  go_wp2_with fail
  with_reducible refine HI.out.mono ?_
  rintro e1 w1 ⟨⟨r, rfl, hr⟩, rfl⟩
  have HR := Lib.hid hr
  clear hr HI
  go_wp2
  go_ret
  refine ⟨?_, rfl⟩
  rw [HR.out]
  rfl


set_option maxRecDepth 100000 in
theorem index_nil_u (w : World) (a : Option Addr) (c : Nat) (n : Int) : Calls Tryz.prog 110 #[.slice a 0 c, .int .u64 n] w fun e w' => e = .returned (.int .i64 (-1)) ∧ w = w' := by
  go_enter Tryz.func110, Tryz.ntmps110
  go_wp2
  go_loop [8] (fun i => i = .int .i64 0) (fun _ => 0)
  case atStart => exact rfl
  case round =>
    obtain rfl := hrel
    go_wp2
    go_ret
    exact ⟨rfl, rfl⟩
set_option maxRecDepth 100000 in
theorem index_loop_u {K : Nat → Obj → Prop} (w : World) (b off c : Nat) (zs : List Int) (n : Int) (h : NumsAt .u64 K w (.slice (some ⟨b, off, none⟩) zs.length c) zs) (hm : zs.length ≤ 9223372036854775807) :
    Calls Tryz.prog 110 #[.slice (some ⟨b, off, none⟩) zs.length c, .int .u64 n] w fun e w' => (∃ r, e = .returned (.int .i64 r) ∧ hasI zs n = decide (0 ≤ r)) ∧ w = w' := by
  have H := Lib.hid h
  clear h
  obtain ⟨N, hN⟩ : ∃ N, N = zs.length := ⟨_, rfl⟩
  have HN := Lib.hid hN
  rw [← hN] at hm ⊢
  clear hN
  go_enter Tryz.func110, Tryz.ntmps110
  go_wp2
  go_loop [8] (fun i => ∃ k : Nat, k ≤ N ∧ i = .int .i64 k ∧ hasI (zs.take k) n = false) (fun i => N - (intOf i).toNat)
  case atStart => exact ⟨0, Nat.zero_le _, rfl, hasI_take0 _ _⟩
  case round =>
    obtain ⟨k, hk, rfl, ht⟩ := hrel
    have HT := Lib.hid ht
    clear ht
    by_cases hlt : k < N
    · have l1 : k < zs.length := by rw [← HN.out]; exact hlt
      have g1 := H.out.cell l1
      have HC := Lib.hid (take_contains zs k l1 n)
      generalize hu : zs[k] = u at g1 HC
      clear hu l1
      go_wp2
      · go_ret
        have he : (n == u) = true := by assumption
        refine ⟨⟨_, rfl, ?_⟩, rfl⟩
        have : hasI (zs.take (k + 1)) n = true := by rw [HC.out]; simp at he; simp [he]
        rw [contains_take this]
        simp
      · have he : (n == u) = false := by assumption
        go_round
        case rel =>
          refine ⟨k + 1, by omega, by go_num, ?_⟩
          rw [HC.out, HT.out, he]
          rfl
        case measure => simp [intOf]; omega
    · go_wp2
      go_ret
      refine ⟨⟨_, rfl, ?_⟩, rfl⟩
      have := HT.out
      rw [List.take_of_length_le (by have := HN.out; omega)] at this
      rw [this]
      rfl
set_option maxRecDepth 100000 in
theorem contains_calls_u {K : Nat → Obj → Prop} (w : World) (v : Value) (zs : List Int) (n : Int) (h : NumsAt .u64 K w v zs) (hm : zs.length ≤ maxLen) :
    Calls Tryz.prog 84 #[v, .int .u64 n] w fun e w' => e = .returned (.bool (hasI zs n)) ∧ w = w' := by
  have hi : Calls Tryz.prog 110 #[v, .int .u64 n] w fun e w' => (∃ r, e = .returned (.int .i64 r) ∧ hasI zs n = decide (0 ≤ r)) ∧ w = w' := by
    obtain ⟨a, c, rfl⟩ := h.form
    by_cases h0 : zs.length = 0
    · have e1 := List.length_eq_zero_iff.1 h0
      subst e1
      exact (index_nil_u w a c n).mono fun e w' ⟨he, hw⟩ => ⟨⟨_, he, rfl⟩, hw⟩
    · obtain ⟨b, off, rfl⟩ := h.addr (by omega)
      exact index_loop_u w b off c zs n h (by unfold maxLen at hm; omega)
  have HI := Lib.hid hi
  clear hi h hm
  go_enter Tryz.func84, Tryz.ntmps84
  go_wp2_with fail
  with_reducible refine HI.out.mono ?_
  rintro e1 w1 ⟨⟨r, rfl, hr⟩, rfl⟩
  have HR := Lib.hid hr
  clear hr HI
  go_wp2
  go_ret
  refine ⟨?_, rfl⟩
  rw [HR.out]
  rfl


def natV (x : Int) : Value := .int .u64 x
theorem info_u64 : (Tryz.prog.info? 31).map (fun i => (i.zero, i.size, i.bytes)) = some (some (.int .u64 0), 1, 8) := by kernel_rfl
/-- A row of ints of the function's own. -/
def RowU (w : World) (B : Nat) (v : Value) (zs : List Int) : Prop := w.ownsRow B 31 1 v zs.length (zs.map natV)
theorem RowU.tt {w w' : World} {B : Nat} {v : Value} {zs : List Int} (h : RowU w B v zs) (hf : Fr (fun _ _ => True) w w') : RowU w' B v zs := ownsRow_fr h hf fun _ _ _ _ => trivial
theorem RowU.ints {w : World} {B : Nat} {v : Value} {zs : List Int} (h : RowU w B v zs) : NumsAt .u64 (fun b _ => B ≤ b) w v zs := by
  obtain ⟨h1, h2⟩ := h
  rcases h2 with ⟨hv, hn⟩ | ⟨g, cap, cur, hv, hg, hh, hn, hc, hs, ht⟩
  · have e := List.length_eq_zero_iff.1 hn
    subst e hv
    exact ⟨_, _, rfl, .inl rfl⟩
  · refine ⟨_, cap, hv, .inr ⟨g, 0, _, rfl, hh, hg, fun i hi => ?_⟩⟩
    have e1 : cur.toList[i]? = (zs.map natV)[i]? := by rw [← ht, List.getElem?_take, if_pos (by omega)]
    have e2 : cur[i]? = some (natV zs[i]) := by rw [← Array.getElem?_toList, e1]; simp [hi]
    rw [Nat.zero_add]
    exact cell_mk hh e2
theorem RowU.nil (w : World) (B : Nat) : RowU w B (.slice none 0 0) [] := ⟨rfl, .inl ⟨rfl, rfl⟩⟩
theorem RowU.form {w : World} {B : Nat} {v : Value} {zs : List Int} (h : RowU w B v zs) : ∃ a c, v = .slice a zs.length c := by
  rcases h.2 with ⟨rfl, e⟩ | ⟨g, cap, _, rfl, _⟩
  · exact ⟨none, 0, by rw [e]⟩
  · exact ⟨_, _, rfl⟩
theorem nums_src_u {K : Nat → Obj → Prop} {w : World} {v : Value} {zs : List Int} (h : NumsAt .u64 K w v zs) (h0 : 0 < zs.length) : SrcAt w 1 v zs.length (zs.map natV) := by
  obtain ⟨a, cap, rfl, h⟩ := h
  rcases h with rfl | ⟨b, off, o, rfl, hb, hk, hc⟩
  · simp at h0
  · refine .inr ⟨_, cap, rfl, by simp, fun j u hu => ?_, fun u hu => ?_⟩
    · have hj : j < zs.length := by
        rcases Nat.lt_or_ge j zs.length with h1 | h1
        · exact h1
        · rw [List.getElem?_eq_none (by simpa using h1)] at hu; cases hu
      have hu' : u = natV zs[j] := by
        rw [List.getElem?_map, List.getElem?_eq_getElem hj] at hu
        exact (Option.some.inj hu).symm
      rw [hu', add_at]
      exact hc j hj
    · obtain ⟨x, _, rfl⟩ := List.mem_map.1 hu
      rfl
theorem nums_lit_u (w : World) (x : Int) : NumsAt .u64 (fun _ _ => True) (w.alloc (.cells #[.int .u64 x] 31 (0, 0))) (.slice (some ⟨w.heap.size, 0, none⟩) 1 1) [x] := by
  refine ⟨_, 1, rfl, .inr ⟨w.heap.size, 0, _, rfl, heap_alloc_new _ _, trivial, fun i hi => ?_⟩⟩
  obtain rfl : i = 0 := by simpa using hi
  exact cell_mk (heap_alloc_new _ _) rfl


/-- An append of one int to a row of the function's own. -/
theorem wpList_append_nat1 {ops : Array Oper} {rest : List Oper} {o : Oper} {a : Act} {Q : Exit → Act → World → Prop} (w0 W1 : World) (y : Int) (hF : Hid (Fr (fun _ _ => True) w0 W1)) (hgd : o.guard = none) (s x : Operand)
    (ho : o.op = .call { callee := .builtin .append, args := #[s, x], argTypes := #[148, 148] }) (v : Value) (xs : List Int) (hs : a.eval s = v) (hown : Hid (RowU W1 w0.heap.size v xs))
    (hx : a.eval x = .slice (some ⟨W1.heap.size, 0, none⟩) 1 1) (r : List Int) (hr : Hid (xs ++ [y] = r)) (n : Nat) (hn : Hid (r.length = n)) (hm : n ≤ 2000000)
    (h : ∀ a' c' w', Hid (RowU w' w0.heap.size (.slice a' n c') r) → Hid (Fr (fun _ _ => True) w0 w') → Hid (Fr (fun b _ => v.ownBlock ≠ some b) W1 w') → Hid (∀ b, b < W1.heap.size → v.ownBlock ≠ some b → (Value.slice a' n c').ownBlock ≠ some b) → wpList Tryz.prog ops Q rest (a.put o.dst (.slice a' n c')) w') :
    wpList Tryz.prog ops Q (o :: rest) a (W1.alloc (.cells #[.int .u64 y] 31 (0, 0))) := by
  obtain ⟨i0, hi, hz0, hz1, hz2⟩ := info_parts info_u64
  have hr := hr.out
  have hn := hn.out
  subst hr hn
  have r1 := hown.out
  rw [List.length_append, List.length_singleton] at hm
  have hsrc := nums_src_u (nums_lit_u W1 y) (by simp)
  refine wpList_append_src2 _ hgd s x 148 ho w0.heap.size 31 i0 (.int .u64 0) 1 8 Tryz.underlying148 hi hz0 hz1 hz2 rfl (by decide) v xs.length (xs.map natV) hs (r1.tt ((Fr.refl _ _).alloc _)) _ 1 [natV y] hx hsrc (by unfold maxLen; omega) (by omega) (by have := hF.out.size; simp; omega) ?_
  intro v' w' h1 h2 h3
  have e1 : xs.map natV ++ [natV y] = (xs ++ [y]).map natV := by simp
  have e2 : xs.length + 1 = (xs ++ [y]).length := by simp
  rw [e1, e2] at h1
  obtain ⟨a', c', rfl⟩ := RowU.form h1
  exact h a' c' w' h1 ((hF.out.alloc _).grown_new h2 (own_new r1)) (((Fr.refl _ _).alloc _).trans (Fr.of_grown h2 fun k o e _ hne => hne e)) fun b hb hv => h3.ne hv (by simp; omega)

end Go.Proofs.YtlolfcnfcgegdaaGreat
/- The locks: check (printed by check19.py). -/
namespace Go.Proofs.YtlolfcnfcgegdaaGreat
open Go.RowKit
set_option linter.unusedVariables false
set_option linter.unusedSimpArgs false

def cI (h : Ho) : Int := ((h.c : Nat) : Int)
def cW (x : Wa) : Int := ((x.c : Nat) : Int)
def okH (r : Rgn) (j : Nat) : Bool := decide ((r.hs.getD j default).c < 16) && decide ((r.hs.getD j default).m = 1 ∨ (r.hs.getD j default).m = 2) && !(hasI ((r.hs.take j).map cI) (cI (r.hs.getD j default))) && !(decide (1 < r.hs.length) && decide ((r.hs.getD j default).m = 2))
def okW (r : Rgn) (j : Nat) : Bool := decide ((r.ws.getD j default).c < 16) && decide ((r.ws.getD j default).m = 1 ∨ (r.ws.getD j default).m = 2) && !(hasI (r.hs.map cI ++ (r.ws.take j).map cW) (cW (r.ws.getD j default)))
def checkM (r : Rgn) : Bool := decide (r.hs.length ≤ 4) && decide (r.ws.length ≤ 4) && (List.range r.hs.length).all (okH r) && (List.range r.ws.length).all (okW r)
theorem check_h {r : Rgn} {j : Nat} (hj : j < r.hs.length) (h : okH r j = false) : checkM r = false := by
  unfold checkM
  have : (List.range r.hs.length).all (okH r) = false := by
    rw [Bool.eq_false_iff]
    intro q
    rw [List.all_eq_true] at q
    rw [q j (List.mem_range.2 hj)] at h
    cases h
  rw [this]
  simp
theorem check_w {r : Rgn} {j : Nat} (hj : j < r.ws.length) (h : okW r j = false) : checkM r = false := by
  unfold checkM
  have : (List.range r.ws.length).all (okW r) = false := by
    rw [Bool.eq_false_iff]
    intro q
    rw [List.all_eq_true] at q
    rw [q j (List.mem_range.2 hj)] at h
    cases h
  rw [this]
  simp
theorem check_yes {r : Rgn} (h4 : r.hs.length ≤ 4) (w4 : r.ws.length ≤ 4) (hh : ∀ j, j < r.hs.length → okH r j = true) (hw : ∀ j, j < r.ws.length → okW r j = true) : checkM r = true := by
  unfold checkM
  rw [decide_eq_true h4, decide_eq_true w4, List.all_eq_true.2 fun j hj => hh j (List.mem_range.1 hj), List.all_eq_true.2 fun j hj => hw j (List.mem_range.1 hj)]
  rfl
theorem check_len {r : Rgn} (h : ¬ (r.hs.length ≤ 4 ∧ r.ws.length ≤ 4)) : checkM r = false := by
  unfold checkM
  by_cases q : r.hs.length ≤ 4
  · rw [decide_eq_false (p := r.ws.length ≤ 4) fun x => h ⟨q, x⟩]; simp
  · rw [decide_eq_false q]; simp
theorem getD_at {α : Type} [Inhabited α] {l : List α} {i : Nat} (hi : i < l.length) : l.getD i default = l[i] := by rw [List.getD_eq_getElem?_getD, List.getElem?_eq_getElem hi]; rfl
theorem take_mapC (hs : List Ho) (i : Nat) (hi : i < hs.length) : (hs.take i).map cI ++ [cI hs[i]] = (hs.take (i + 1)).map cI := by rw [List.take_add_one, List.getElem?_eq_getElem hi, Option.toList_some, List.map_append]; rfl
theorem take_mapW (ws : List Wa) (i : Nat) (hi : i < ws.length) (l : List Int) : (l ++ (ws.take i).map cW) ++ [cW ws[i]] = l ++ (ws.take (i + 1)).map cW := by rw [List.take_add_one, List.getElem?_eq_getElem hi, Option.toList_some, List.map_append, List.append_assoc]; rfl
set_option maxRecDepth 100000 in
set_option maxHeartbeats 4000000 in
theorem check_calls {K K' : Nat → Obj → Prop} (w : World) (bt o : Nat) (ah aw : Option Addr) (ch cw : Nat) (hs : List Ho) (ws : List Wa) (c0 : w.cell? ⟨bt, o, none⟩ = some (.slice ah hs.length ch)) (c1 : w.cell? ⟨bt, o + 1, none⟩ = some (.slice aw ws.length cw)) (hh : RowsAt K w (.slice ah hs.length ch) 4 encH hs) (hw : RowsAt K' w (.slice aw ws.length cw) 2 encW ws) (l1 : hs.length ≤ 1000000) (l2 : ws.length ≤ 1000000) :
    Calls Tryz.prog 85 #[.pointer (some ⟨bt, o, none⟩)] w fun e w' => e = .returned (.bool (checkM ⟨hs, ws⟩)) ∧ Fr (fun _ _ => True) w w' := by
  obtain ⟨ck, hck⟩ : ∃ c, checkM ⟨hs, ws⟩ = c := ⟨_, rfl⟩
  have HCK := Lib.hid hck
  rw [hck]
  have C := Lib.hid (fun W (f : Fr (fun _ _ => True) w W) => (⟨f.cell (fun _ _ => trivial) c0, f.cell (fun _ _ => trivial) c1⟩ : W.cell? ⟨bt, o, none⟩ = some (.slice ah hs.length ch) ∧ W.cell? ⟨bt, o + 1, none⟩ = some (.slice aw ws.length cw)))
  have HH := Lib.hid hh
  have HW := Lib.hid hw
  clear hh hw hck
  by_cases q4 : hs.length ≤ 4
  · by_cases p4 : ws.length ≤ 4
    · have q4I : (hs.length : Int) ≤ 4 := by omega
      have p4I : (ws.length : Int) ≤ 4 := by omega
      have HQ4 := Lib.hid q4
      have HP4 := Lib.hid p4
      clear q4 p4
      go_enter Tryz.func85, Tryz.ntmps85
      go_wp2_with fail
      go_loopw [3, 27] (fun s v27 wz => ∃ i : Nat, i ≤ hs.length ∧ v27 = .int .i64 i ∧ Hid (RowI wz w.heap.size s ((hs.take i).map cI)) ∧ Hid (Fr (fun _ _ => True) w wz) ∧ Hid (∀ j, j < i → okH ⟨hs, ws⟩ j = true)) (fun _ v27 _ => hs.length - (intOf v27).toNat)
      case atStart => exact ⟨0, Nat.zero_le _, rfl, RowI.nil _ _, Fr.refl _ _, fun j hj => absurd hj (Nat.not_lt_zero j)⟩
      case round =>
        obtain ⟨i, hi, rfl, RS, F, G⟩ := hrel
        obtain ⟨sa, sc, rfl⟩ := RS.out.form
        obtain ⟨lens, hlens⟩ : ∃ n, ((hs.take i).map cI).length = n := ⟨_, rfl⟩
        have lensB : lens ≤ 1000000 := by rw [← hlens, List.length_map, List.length_take]; omega
        rw [hlens] at RS ⊢
        obtain ⟨d0, d1⟩ := C.out wr F.out
        clear c0 c1
        by_cases hil : i < hs.length
        · have hilI : (i : Int) < hs.length := by omega
          obtain ⟨b, off, ob, rfl, _, _, hcl⟩ := (HH.out.fr (K' := fun _ _ => True) F.out fun _ _ _ _ => trivial).spot (by omega)
          obtain ⟨x, hx⟩ : ∃ x, hs[i] = x := ⟨_, rfl⟩
          have hcs := RowsAt.h4 (K := fun _ _ => True) hcl i hil
          rw [hx] at hcs
          obtain ⟨k0, k1, k2, k3⟩ := hcs
          have EG : Hid (hs.getD i default = x) := Lib.hid ((getD_at hil).trans hx)
          have ET := Lib.hid (take_mapC hs i hil)
          rw [hx] at ET
          have OKE : Hid (okH ⟨hs, ws⟩ i = (decide (x.c < 16) && decide (x.m = 1 ∨ x.m = 2) && !(hasI ((hs.take i).map cI) (cI x)) && !(decide (1 < hs.length) && decide (x.m = 2)))) := by
            show _ = _
            unfold okH
            dsimp only
            rw [EG.out]
          clear hcl hx
          obtain ⟨W3, hW3⟩ : ∃ W, wr.alloc (.cells #[.int .i64 0, .int .i64 0, .int .u64 0, .int .u64 0] 112 (0, 0)) = W := ⟨_, rfl⟩
          have FA : Hid (Fr (fun _ _ => True) wr W3) := hW3 ▸ (Fr.refl _ _).alloc _
          have XA : Hid (W3.heap[wr.heap.size]? = some (.cells #[.int .i64 0, .int .i64 0, .int .u64 0, .int .u64 0] 112 (0, 0))) := hW3 ▸ heap_alloc_new wr _
          have q0 := cell_mk (i := 0) XA.out rfl
          have z0 := frozen_mk (i := 0) XA.out
          have q1 := cell_mk (i := 1) XA.out rfl
          have z1 := frozen_mk (i := 1) XA.out
          have q2 := cell_mk (i := 2) XA.out rfl
          have z2 := frozen_mk (i := 2) XA.out
          have q3 := cell_mk (i := 3) XA.out rfl
          have z3 := frozen_mk (i := 3) XA.out
          obtain ⟨v3, hWZ, TZ, FZ⟩ := set4 XA.out (.int .i64 (x.c : Nat)) (.int .i64 (x.m : Nat)) (.int .u64 (x.t : Nat)) (.int .u64 (x.u : Nat))
          have FV : Hid (Fr (fun _ _ => True) wr v3) := Lib.hid (Fr.within ((FA.out.mono fun _ _ _ => trivial).trans (FZ.mono fun c _ h e => by have := h.2; omega)))
          have F3 := Lib.hid (F.out.trans FV.out)
          have R3 := Lib.hid (RS.out.tt FV.out)
          have e0 := cell_mk (i := 0) TZ rfl
          have e1 := cell_mk (i := 1) TZ rfl
          have e2 := cell_mk (i := 2) TZ rfl
          have e3 := cell_mk (i := 3) TZ rfl
          obtain ⟨d2, d3⟩ := C.out v3 F3.out
          have NC := Lib.hid (contains_calls v3 (.slice sa lens sc) ((hs.take i).map cI) (cI x) R3.out.ints (by rw [hlens]; unfold maxLen; omega))
          unfold cI at NC
          try dsimp only at NC
          clear FA XA TZ FZ RS F
          by_cases hc16 : x.c < 16
          · have N1 := Lib.hid (node_yes v3 x.c hc16)
            go_wp2_with fail
            try rw [hWZ]
            (with_reducible refine N1.out.mono ?_)
            rintro e w4 ⟨rfl, rfl⟩
            by_cases hm : x.m = 1 ∨ x.m = 2
            · have M1 := Lib.hid (mode_yes v3 x.m hm)
              go_wp2_with fail
              (with_reducible refine M1.out.mono ?_)
              rintro e w4 ⟨rfl, rfl⟩
              obtain ⟨hsn, hhsn⟩ : ∃ b, hasI ((hs.take i).map cI) (cI x) = b := ⟨_, rfl⟩
              have hhsn' := hhsn
              unfold cI at hhsn'
              try dsimp only at hhsn'
              rw [hhsn'] at NC
              rw [hhsn] at OKE
              clear hhsn'
              go_wp2_with fail
              (with_reducible refine NC.out.mono ?_)
              rintro e w4 ⟨rfl, rfl⟩
              cases hsn with
              | true =>
                have hb : ck = false := by
                  rw [← HCK.out]
                  exact check_h hil (by rw [OKE.out]; simp)
                clear HCK
                subst hb
                go_wp2
                go_ret
                exact ⟨rfl, F3.out⟩
              | false =>
                by_cases h1 : (1 : Int) < hs.length
                · by_cases hm2 : x.m = 2
                  · have hm2I : ((x.m : Int) == 2) = true := by simp; omega
                    have hb : ck = false := by
                      rw [← HCK.out]
                      exact check_h hil (by rw [OKE.out, decide_eq_true (p := 1 < hs.length) (by omega), decide_eq_true hm2]; simp)
                    clear HCK hm2
                    subst hb
                    go_wp2
                    go_ret
                    exact ⟨rfl, F3.out⟩
                  · have hm2I : ((x.m : Int) == 2) = false := by simp; omega
                    have hg : Hid (okH ⟨hs, ws⟩ i = true) := by show _ = _; rw [OKE.out, decide_eq_true hc16, decide_eq_true hm, decide_eq_false hm2]; simp
                    clear OKE N1 M1 NC hm hc16 hhsn
                    go_wp2_with (at_builtin; refine wpList_append_int1 w v3 _ F3 rfl _ _ rfl _ _ rfl R3 rfl _ ET (lens + 1) (by show _ = _; rw [← hlens, ← ET.out]; simp) (by omega) ?_)
                    intro a1 c1 w5 O1 G1 G2 N1
                    clear hWZ hW3 q0 q1 q2 q3 z0 z1 z2 z3 e0 e1 e2 e3 d0 d1 d2 d3
                    go_wp2
                    go_roundw
                    case rel =>
                      refine ⟨i + 1, hil, by go_num, ?_, G1.out, fun j hj => ?_⟩
                      · show RowI _ _ _ _; rw [List.map_take]; exact O1.out
                      · by_cases e : j = i
                        · rw [e]; exact hg.out
                        · exact G.out j (by omega)
                    case measure => simp [intOf]; omega
                · have hg : Hid (okH ⟨hs, ws⟩ i = true) := by show _ = _; rw [OKE.out, decide_eq_true hc16, decide_eq_true hm, decide_eq_false (p := 1 < hs.length) (by omega)]; simp
                  clear OKE N1 M1 NC hm hc16 hhsn
                  go_wp2_with (at_builtin; refine wpList_append_int1 w v3 _ F3 rfl _ _ rfl _ _ rfl R3 rfl _ ET (lens + 1) (by show _ = _; rw [← hlens, ← ET.out]; simp) (by omega) ?_)
                  intro a1 c1 w5 O1 G1 G2 N1
                  clear hWZ hW3 q0 q1 q2 q3 z0 z1 z2 z3 e0 e1 e2 e3 d0 d1 d2 d3
                  go_wp2
                  go_roundw
                  case rel =>
                    refine ⟨i + 1, hil, by go_num, ?_, G1.out, fun j hj => ?_⟩
                    · show RowI _ _ _ _; rw [List.map_take]; exact O1.out
                    · by_cases e : j = i
                      · rw [e]; exact hg.out
                      · exact G.out j (by omega)
                  case measure => simp [intOf]; omega
            · have M1 := Lib.hid (mode_no v3 x.m hm)
              go_wp2_with fail
              (with_reducible refine M1.out.mono ?_)
              rintro e w4 ⟨rfl, rfl⟩
              have hb : ck = false := by
                rw [← HCK.out]
                exact check_h hil (by rw [OKE.out, decide_eq_false hm]; simp)
              clear HCK
              subst hb
              go_wp2
              go_ret
              exact ⟨rfl, F3.out⟩
          · have N1 := Lib.hid (node_no v3 x.c hc16)
            go_wp2_with fail
            try rw [hWZ]
            (with_reducible refine N1.out.mono ?_)
            rintro e w4 ⟨rfl, rfl⟩
            have hb : ck = false := by
              rw [← HCK.out]
              exact check_h hil (by rw [OKE.out, decide_eq_false hc16]; simp)
            clear HCK
            subst hb
            go_wp2
            go_ret
            exact ⟨rfl, F3.out⟩
        · have hie : i = hs.length := by omega
          have hge : (hs.length : Int) ≤ i := by omega
          rw [hie, List.take_length] at RS
          rw [hie, List.take_length] at hlens
          have GH : Hid (∀ j, j < hs.length → okH ⟨hs, ws⟩ j = true) := fun j hj => G.out j (by omega)
          clear hie G
          go_wp2_with fail
          go_loopw [3, 71] (fun s v71 wz => ∃ i : Nat, i ≤ ws.length ∧ v71 = .int .i64 i ∧ Hid (RowI wz w.heap.size s (hs.map cI ++ (ws.take i).map cW)) ∧ Hid (Fr (fun _ _ => True) w wz) ∧ Hid (∀ j, j < i → okW ⟨hs, ws⟩ j = true)) (fun _ v71 _ => ws.length - (intOf v71).toNat)
          case atStart => exact ⟨0, Nat.zero_le _, rfl, by show RowI _ _ _ _; rw [List.take_zero, List.map_nil, List.append_nil]; first | exact RS.out | (rw [← hlens] at RS; exact RS.out), F.out, fun j hj => absurd hj (Nat.not_lt_zero j)⟩
          case round =>
            obtain ⟨i2, hi2, rfl, RS2, F2, G2⟩ := hrel
            clear RS F d0 d1 hlens lensB
            obtain ⟨sa, sc, rfl⟩ := RS2.out.form
            obtain ⟨lens, hlens⟩ : ∃ n, (hs.map cI ++ (ws.take i2).map cW).length = n := ⟨_, rfl⟩
            have lensB : lens ≤ 1000000 := by rw [← hlens, List.length_append, List.length_map, List.length_map, List.length_take]; omega
            rw [hlens] at RS2 ⊢
            obtain ⟨d0, d1⟩ := C.out wr F2.out
            by_cases hil : i2 < ws.length
            · have hilI : (i2 : Int) < ws.length := by omega
              obtain ⟨b, off, ob, rfl, _, _, hcl⟩ := (HW.out.fr (K' := fun _ _ => True) F2.out fun _ _ _ _ => trivial).spot (by omega)
              obtain ⟨x, hx⟩ : ∃ x, ws[i2] = x := ⟨_, rfl⟩
              have hcs := RowsAt.w2 (K := fun _ _ => True) hcl i2 hil
              rw [hx] at hcs
              obtain ⟨k0, k1⟩ := hcs
              have EG : Hid (ws.getD i2 default = x) := Lib.hid ((getD_at hil).trans hx)
              have ET := Lib.hid (take_mapW ws i2 hil (hs.map cI))
              rw [hx] at ET
              have OKE : Hid (okW ⟨hs, ws⟩ i2 = (decide (x.c < 16) && decide (x.m = 1 ∨ x.m = 2) && !(hasI (hs.map cI ++ (ws.take i2).map cW) (cW x)))) := by
                show _ = _
                unfold okW
                dsimp only
                rw [EG.out]
              obtain ⟨SE, hSE⟩ : ∃ l, hs.map cI ++ (ws.take i2).map cW = l := ⟨_, rfl⟩
              rw [hSE] at RS2 OKE ET hlens
              clear hcl hx hSE
              obtain ⟨W3, hW3⟩ : ∃ W, wr.alloc (.cells #[.int .i64 0, .int .i64 0] 114 (0, 0)) = W := ⟨_, rfl⟩
              have FA : Hid (Fr (fun _ _ => True) wr W3) := hW3 ▸ (Fr.refl _ _).alloc _
              have XA : Hid (W3.heap[wr.heap.size]? = some (.cells #[.int .i64 0, .int .i64 0] 114 (0, 0))) := hW3 ▸ heap_alloc_new wr _
              have q0 := cell_mk (i := 0) XA.out rfl
              have q1 := cell_mk (i := 1) XA.out rfl
              have z0 := frozen_mk (i := 0) XA.out
              have z1 := frozen_mk (i := 1) XA.out
              obtain ⟨v3, hWZ, TZ, FZ⟩ := set2 XA.out (.int .i64 (x.c : Nat)) (.int .i64 (x.m : Nat))
              have FV : Hid (Fr (fun _ _ => True) wr v3) := Lib.hid (Fr.within ((FA.out.mono fun _ _ _ => trivial).trans (FZ.mono fun c _ h e => by have := h.2; omega)))
              have F3 := Lib.hid (F2.out.trans FV.out)
              have R3 := Lib.hid (RS2.out.tt FV.out)
              have e0 := cell_mk (i := 0) TZ rfl
              have e1 := cell_mk (i := 1) TZ rfl
              obtain ⟨hsn, hhsn⟩ : ∃ b, hasI SE (cW x) = b := ⟨_, rfl⟩
              have NC := Lib.hid (contains_calls v3 (.slice sa lens sc) SE (cW x) R3.out.ints (by rw [hlens]; unfold maxLen; omega))
              rw [hhsn] at NC OKE
              clear hhsn
              unfold cW at NC
              try dsimp only at NC
              clear FA XA TZ FZ RS2 F2
              by_cases hc16 : x.c < 16
              · have N1 := Lib.hid (node_yes v3 x.c hc16)
                go_wp2_with fail
                try rw [hWZ]
                (with_reducible refine N1.out.mono ?_)
                rintro e w4 ⟨rfl, rfl⟩
                by_cases hm : x.m = 1 ∨ x.m = 2
                · have M1 := Lib.hid (mode_yes v3 x.m hm)
                  go_wp2_with fail
                  (with_reducible refine M1.out.mono ?_)
                  rintro e w4 ⟨rfl, rfl⟩
                  go_wp2_with fail
                  (with_reducible refine NC.out.mono ?_)
                  rintro e w4 ⟨rfl, rfl⟩
                  cases hsn with
                  | true =>
                    have hb : ck = false := by
                      rw [← HCK.out]
                      exact check_w hil (by rw [OKE.out]; simp)
                    clear HCK
                    subst hb
                    go_wp2
                    go_ret
                    exact ⟨rfl, F3.out⟩
                  | false =>
                    have hg : Hid (okW ⟨hs, ws⟩ i2 = true) := by show _ = _; rw [OKE.out, decide_eq_true hc16, decide_eq_true hm]; simp
                    clear OKE N1 M1 NC hm hc16
                    go_wp2_with (at_builtin; refine wpList_append_int1 w v3 _ F3 rfl _ _ rfl _ _ rfl R3 rfl _ ET (lens + 1) (by show _ = _; rw [← hlens, ← ET.out]; simp) (by omega) ?_)
                    intro a1 c1 w5 O1 G3 G4 N1
                    clear hWZ hW3 q0 q1 z0 z1 e0 e1 d0 d1
                    go_wp2
                    go_roundw
                    case rel =>
                      refine ⟨i2 + 1, hil, by go_num, by show RowI _ _ _ _; rw [List.map_take]; exact O1.out, G3.out, fun j hj => ?_⟩
                      by_cases e : j = i2
                      · rw [e]; exact hg.out
                      · exact G2.out j (by omega)
                    case measure => simp [intOf]; omega
                · have M1 := Lib.hid (mode_no v3 x.m hm)
                  go_wp2_with fail
                  (with_reducible refine M1.out.mono ?_)
                  rintro e w4 ⟨rfl, rfl⟩
                  have hb : ck = false := by
                    rw [← HCK.out]
                    exact check_w hil (by rw [OKE.out, decide_eq_false hm]; simp)
                  clear HCK
                  subst hb
                  go_wp2
                  go_ret
                  exact ⟨rfl, F3.out⟩
              · have N1 := Lib.hid (node_no v3 x.c hc16)
                go_wp2_with fail
                try rw [hWZ]
                (with_reducible refine N1.out.mono ?_)
                rintro e w4 ⟨rfl, rfl⟩
                have hb : ck = false := by
                  rw [← HCK.out]
                  exact check_w hil (by rw [OKE.out, decide_eq_false hc16]; simp)
                clear HCK
                subst hb
                go_wp2
                go_ret
                exact ⟨rfl, F3.out⟩
            · have hge2 : (ws.length : Int) ≤ i2 := by omega
              have hb : ck = true := by
                rw [← HCK.out]
                exact check_yes HQ4.out HP4.out GH.out fun j hj => G2.out j (by have hj' : j < ws.length := hj; omega)
              clear HCK
              subst hb
              go_wp2
              go_ret
              exact ⟨rfl, F2.out⟩
    · have hb : ck = false := by rw [← HCK.out]; exact check_len fun q => p4 q.2
      subst hb
      have q4I : (hs.length : Int) ≤ 4 := by omega
      have p4I : (4 : Int) < ws.length := by omega
      clear q4 p4 HCK C
      go_enter Tryz.func85, Tryz.ntmps85
      go_wp2
      go_ret
      exact ⟨rfl, Fr.refl _ _⟩
  · have hb : ck = false := by rw [← HCK.out]; exact check_len fun q => q4 q.1
    subst hb
    have q4I : (4 : Int) < hs.length := by omega
    clear q4 HCK C
    go_enter Tryz.func85, Tryz.ntmps85
    go_wp2
    go_ret
    exact ⟨rfl, Fr.refl _ _⟩
end Go.Proofs.YtlolfcnfcgegdaaGreat
