/- Texts of the proofs, part 6: what the functions that they reach do, walked; no conditions beyond those that each states. -/
import Derived.Lib.SliceRun
import Derived.Deep.AppendLies
import Derived.Deep.RegionLaw
import Derived.Test.YtcpbmempfeloaaaDoorZzbb460157c3
set_option linter.unusedVariables false
set_option linter.unusedSimpArgs false
/- slices.Delete at a row of the function's own: what is of no program. -/
namespace Go.Proofs.YtcpbmempfeloaaaDoor
open Go.RowKit
set_option linter.unusedVariables false
set_option linter.unusedSimpArgs false

theorem run_clear_any {P : Program} (w : World) (t e ty : TypeId) (z : Value) (ht : P.underlying t = some (.slice e)) (hv : ∀ w, (zeroValue e).run P w = .ok z w) (b o n c : Nat) (hn : 0 < n)
    (h1 : ∀ u ∈ (Builtin.zeroCells z.cells n).toList, u.oneCell' = true) (hc : ∀ j, j < (Builtin.zeroCells z.cells n).toList.length → (w.cell? ⟨b, o + j, none⟩).isSome = true) (hf : ∀ j, j < (Builtin.zeroCells z.cells n).toList.length → w.frozen? ⟨b, o + j, none⟩ = false) :
    (Builtin.clear_ #[t] ty #[.slice (some ⟨b, o, none⟩) n c]).run P w = .ok (.tuple #[]) (w.setCells b o (Builtin.zeroCells z.cells n).toList) := by
  have hst := run_storeCells_cells (P := P) b o (Builtin.zeroCells z.cells n).toList 0 w (by simpa using hc) (by simpa using hf) h1
  simp only [Nat.add_zero] at hst
  obtain ⟨m, rfl⟩ : ∃ m, n = m + 1 := ⟨n - 1, by omega⟩
  simp [Builtin.clear_, run_underlying ht, hv, hst]
theorem setsA_getL (x : List Value) (cur : Array Value) (o j : Nat) (h : o + x.length ≤ cur.size) : (setsA cur o x)[j]? = if o ≤ j ∧ j < o + x.length then x[j - o]? else cur[j]? := setsA_get x cur o j h
theorem del_nums (i j n s : Nat) (hij : i ≤ j) (hj : j ≤ n) : i * s ≤ j * s ∧ j * s ≤ n * s ∧ (i + (n - j)) * s = i * s + (n * s - j * s) ∧ (j - i) * s = j * s - i * s ∧ (n - j) * s = n * s - j * s ∧ (n - (j - i)) * s = i * s + (n * s - j * s) := by
  refine ⟨Nat.mul_le_mul_right _ hij, Nat.mul_le_mul_right _ hj, by rw [Nat.add_mul, Nat.sub_mul], Nat.sub_mul _ _ _, Nat.sub_mul _ _ _, ?_⟩
  rw [show n - (j - i) = i + (n - j) by omega, Nat.add_mul, Nat.sub_mul]
/-- The row behind what Delete does. -/
theorem own_spliced {w : World} {B : Nat} {e : TypeId} {s g n cap : Nat} {xs : List Value} (h : w.ownsRow B e s (.slice (some ⟨g, 0, none⟩) n cap) n xs) (i j : Nat) (hij : i ≤ j) (hj : j ≤ n) (Z : List Value) (hZ : Z.length = (j - i) * s) :
    ((w.setCells g (i * s) (xs.drop (j * s))).setCells g ((i + (n - j)) * s) Z).ownsRow B e s (.slice (some ⟨g, 0, none⟩) (i + (n - j)) cap) (i + (n - j)) (xs.take (i * s) ++ xs.drop (j * s)) := by
  obtain ⟨hl, h2⟩ := h
  obtain ⟨e1, e2, e3, e4, e5, _⟩ := del_nums i j n s hij hj
  rcases h2 with ⟨h2, _⟩ | ⟨g', cap', cur, hv, hB, hg, hnc, hcm, hs, ht⟩
  · cases h2
  · cases hv
    have hcs : n * s ≤ cur.size := by rw [hs]; exact Nat.mul_le_mul_right _ hnc
    have hnl : (xs.drop (j * s)).length = n * s - j * s := by rw [List.length_drop, hl]
    refine ⟨by rw [List.length_append, List.length_take, hnl, hl, e3]; omega, .inr ⟨g, cap, setsA (setsA cur (i * s) (xs.drop (j * s))) ((i + (n - j)) * s) Z, rfl, hB, heap_setCells_same _ (heap_setCells_same _ hg), by omega, hcm, by rw [setsA_size, setsA_size]; exact hs, ?_⟩⟩
    apply List.ext_getElem?
    intro q
    rw [List.getElem?_take, e3]
    by_cases hq : q < i * s + (n * s - j * s)
    · rw [if_pos hq, Array.getElem?_toList, setsA_getL _ _ _ _ (by rw [setsA_size, hZ]; omega), if_neg (by omega), setsA_getL _ _ _ _ (by omega), hnl]
      by_cases hq2 : q < i * s
      · rw [if_neg (by omega), List.getElem?_append_left (by rw [List.length_take, hl]; omega), List.getElem?_take, if_pos hq2, ← ht, List.getElem?_take, if_pos (by omega), Array.getElem?_toList]
      · rw [if_pos (by omega), List.getElem?_append_right (by rw [List.length_take, hl]; omega), List.length_take, hl, Nat.min_eq_left (by omega)]
    · rw [if_neg hq, List.getElem?_eq_none]
      rw [List.length_append, List.length_take, hnl, hl]; omega
theorem own_frozen {w : World} {B : Nat} {e : TypeId} {s g n cap : Nat} {xs : List Value} (h : w.ownsRow B e s (.slice (some ⟨g, 0, none⟩) n cap) n xs) (q : Nat) (hq : q < n * s) : w.cell? ⟨g, q, none⟩ = xs[q]? ∧ (w.cell? ⟨g, q, none⟩).isSome = true ∧ w.frozen? ⟨g, q, none⟩ = false := by
  have h1 := h.cellAt q hq
  refine ⟨h1, ?_, h.frozenAt q⟩
  rw [h1, List.getElem?_eq_getElem (by rw [h.1]; exact hq)]; rfl
theorem own_cap {w : World} {B : Nat} {e : TypeId} {s g n cap : Nat} {xs : List Value} (h : w.ownsRow B e s (.slice (some ⟨g, 0, none⟩) n cap) n xs) : n ≤ cap ∧ cap ≤ maxLen := by
  rcases h.2 with ⟨h2, _⟩ | ⟨g', cap', cur, hv, hB, hg, hnc, hcm, hs, ht⟩
  · cases h2
  · cases hv; exact ⟨hnc, hcm⟩
/-- A beginning of a row. -/
theorem own_take {w : World} {B : Nat} {e : TypeId} {s g n cap : Nat} {xs : List Value} (h : w.ownsRow B e s (.slice (some ⟨g, 0, none⟩) n cap) n xs) (m : Nat) (hm : m ≤ n) : w.ownsRow B e s (.slice (some ⟨g, 0, none⟩) m cap) m (xs.take (m * s)) := by
  obtain ⟨h1, h2⟩ := h
  have e1 : m * s ≤ n * s := Nat.mul_le_mul_right _ hm
  rcases h2 with ⟨h2, _⟩ | ⟨g', cap', cur, hv, hB, hg, hnc, hcm, hs, ht⟩
  · cases h2
  · cases hv
    exact ⟨by rw [List.length_take, h1]; omega, .inr ⟨g, cap, cur, rfl, hB, hg, by omega, hcm, hs, by rw [← ht, List.take_take, Nat.min_eq_left e1]⟩⟩
end Go.Proofs.YtcpbmempfeloaaaDoor
/- slices.Delete at a row of the function's own, of journal.record. -/
namespace Go.Proofs.YtcpbmempfeloaaaDoor
open Go.RowKit
set_option linter.unusedVariables false
set_option linter.unusedSimpArgs false

theorem delj_info : (Tryd.prog.info? 94).map (fun i => (i.zero, i.size, i.bytes)) = some (some (.agg #[.int .u32 0, .slice none 0 0]), 2, 32) := by kernel_rfl
theorem delj_none (w : World) : Calls Tryd.prog 60 #[.slice none 0 0, .int .i64 0, .int .i64 0] w fun e w' => e = .returned (.slice none 0 0) ∧ w = w' := by
  go_enter Tryd.func60, Tryd.ntmps60
  go_wp2
  go_ret
  exact ⟨rfl, rfl⟩
set_option maxRecDepth 100000 in
theorem delj_same (w : World) (g n cap i : Nat) (hi : i ≤ n) (hn : n ≤ cap) (hc : cap ≤ 9223372036854775807) : Calls Tryd.prog 60 #[.slice (some ⟨g, 0, none⟩) n cap, .int .i64 i, .int .i64 i] w fun e w' => e = .returned (.slice (some ⟨g, 0, none⟩) n cap) ∧ w = w' := by
  go_enter Tryd.func60, Tryd.ntmps60
  go_wp2
  all_goals (go_ret; exact ⟨rfl, rfl⟩)
set_option maxRecDepth 100000 in
set_option maxHeartbeats 4000000 in
theorem delj_some (w : World) (B g n cap i j : Nat) (xs : List Value) (h : w.ownsRow B 94 2 (.slice (some ⟨g, 0, none⟩) n cap) n xs) (h1 : ∀ u ∈ xs, u.oneCell' = true) (hij : i < j) (hj : j ≤ n) (hn : n ≤ 1000000) :
    Calls Tryd.prog 60 #[.slice (some ⟨g, 0, none⟩) n cap, .int .i64 i, .int .i64 j] w fun e w' => e = .returned (.slice (some ⟨g, 0, none⟩) (i + (n - j)) cap) ∧ w'.ownsRow B 94 2 (.slice (some ⟨g, 0, none⟩) (i + (n - j)) cap) (i + (n - j)) (xs.take (i * 2) ++ xs.drop (j * 2)) ∧ Fr (fun c _ => c ≠ g) w w' := by
  obtain ⟨i0, hi0, hz0, hz1, hz2⟩ := info_parts delj_info
  obtain ⟨hnc, hcm⟩ := own_cap h
  have hcm' : cap ≤ 9223372036854775807 := by unfold maxLen at hcm; omega
  obtain ⟨e1, e2, e3, e4, e5, _⟩ := del_nums i j n 2 (Nat.le_of_lt hij) hj
  obtain ⟨A, hA, hsrc⟩ : ∃ A : Addr, (if cap = j then some (⟨g, 0, none⟩ : Addr) else some ⟨g, j * 2, none⟩) = some A ∧ Hid (∀ t u, (xs.drop (j * 2))[t]? = some u → w.drew.cell? (A.add t) = some u) := by
    by_cases hc : cap = j
    · refine ⟨⟨g, 0, none⟩, by simp [hc], fun t u hu => ?_⟩
      have hd : (xs.drop (j * 2)).length = 0 := by rw [List.length_drop, h.1]; omega
      rw [List.length_eq_zero_iff.1 hd] at hu
      simp at hu
    · refine ⟨⟨g, j * 2, none⟩, by simp [hc], fun t u hu => ?_⟩
      have ht : t < n * 2 - j * 2 := by
        have := (List.getElem?_eq_some_iff.1 hu).1
        rw [List.length_drop, h.1] at this
        exact this
      rw [List.getElem?_drop] at hu
      rw [Addr.add_lit]
      exact (own_frozen h (j * 2 + t) (by omega)).1.trans hu
  have s1 : Hid ((xs.drop (j * 2)).length = (n - j) * 2) := by show _ = _; rw [List.length_drop, h.1, e5]
  have s2 : Hid (∀ u ∈ xs.drop (j * 2), u.oneCell' = true) := fun u hu => h1 u (List.mem_of_mem_drop hu)
  have s3 : Hid (∀ t, t < (xs.drop (j * 2)).length → (w.drew.cell? ⟨g, 0 + i * 2 + t, none⟩).isSome = true ∧ w.drew.frozen? ⟨g, 0 + i * 2 + t, none⟩ = false) := fun t ht => by
    rw [s1.out, e5] at ht
    rw [Nat.zero_add]
    exact (own_frozen h (i * 2 + t) (by omega)).2
  have hd : w.drew.ownsRow B 94 2 (.slice (some ⟨g, 0, none⟩) n cap) n xs := h
  obtain ⟨W1, hW1⟩ : ∃ W1, W1 = w.drew.setCells g (0 + i * 2) (xs.drop (j * 2)) := ⟨_, rfl⟩
  have F1 : Hid (Fr (fun c _ => c ≠ g) w W1) := by
    rw [hW1]; exact ((Fr.refl _ w).drew).setCells (fun _ _ hk => hk rfl) _ _
  obtain ⟨Z, hZ⟩ : ∃ Z, Z = (Builtin.zeroCells (Value.cells (.agg #[.int .u32 0, .slice none 0 0])) (n - (i + (n - j)))).toList := ⟨_, rfl⟩
  have hZl : Z.length = (j - i) * 2 := by
    rw [hZ, Array.length_toList, size_zeroCells, show n - (i + (n - j)) = j - i by omega]; rfl
  have hZ1 : ∀ u ∈ Z, u.oneCell' = true := by
    rw [hZ]
    intro u hu
    simp only [Builtin.zeroCells, Array.toList_map, List.mem_map] at hu
    obtain ⟨k, _, rfl⟩ := hu
    have hall : ∀ q, q < 2 → ((Value.cells (.agg #[.int .u32 0, .slice none 0 0]))[q]!).oneCell' = true := by decide
    exact hall _ (Nat.mod_lt _ (by decide))
  have OS : Hid ((W1.setCells g ((i + (n - j)) * 2) Z).ownsRow B 94 2 (.slice (some ⟨g, 0, none⟩) (i + (n - j)) cap) (i + (n - j)) (xs.take (i * 2) ++ xs.drop (j * 2))) := by
    rw [hW1, Nat.zero_add]; exact own_spliced hd i j (Nat.le_of_lt hij) hj Z hZl
  have hcellW : ∀ q, q < n * 2 → (W1.cell? ⟨g, q, none⟩).isSome = true ∧ W1.frozen? ⟨g, q, none⟩ = false := fun q hq => by
    have := own_spliced hd i i (Nat.le_refl _) (by omega) [] (by simp)
    rcases hd.2 with ⟨e, _⟩ | ⟨g', cap', cur, hv, hB, hg, hnc', hcm2, hs, ht⟩
    · cases e
    · cases hv
      have hb : W1.heap[g]? = some (.cells (setsA cur (0 + i * 2) (xs.drop (j * 2))) 94 (0, 0)) := by rw [hW1]; exact heap_setCells_same _ hg
      have hqs : q < (setsA cur (0 + i * 2) (xs.drop (j * 2))).size := by rw [setsA_size, hs]; have := Nat.mul_le_mul_right 2 hnc'; omega
      refine ⟨?_, frozen_mk hb⟩
      rw [cell_mk hb (Array.getElem?_eq_getElem hqs)]; rfl
  have hcl : ∀ ty, (Builtin.clear_ #[90] ty #[.slice (some ⟨g, (i + (n - j)) * 2, none⟩) (n - (i + (n - j))) (cap - (i + (n - j)))]).run Tryd.prog W1 = .ok (.tuple #[]) (W1.setCells g ((i + (n - j)) * 2) Z) := fun ty => by
    rw [hZ]
    refine run_clear_any W1 _ _ ty (.agg #[.int .u32 0, .slice none 0 0]) Tryd.underlying90 Tryd.zeroValue94 g _ _ _ (by omega) (by rw [← hZ]; exact hZ1) (fun q hq => ?_) (fun q hq => ?_)
    · rw [← hZ, hZl] at hq; exact (hcellW _ (by omega)).1
    · rw [← hZ, hZl] at hq; exact (hcellW _ (by omega)).2
  have hW : Hid (W1 = w.drew.setCells g (0 + i * 2) (xs.drop (j * 2))) := hW1
  have F2 : Hid (Fr (fun c _ => c ≠ g) w (W1.setCells g ((i + (n - j)) * 2) Z)) := F1.out.setCells (fun _ _ hk => hk rfl) _ _
  have hic : i ≤ cap := by omega
  have hjc : j ≤ cap := by omega
  clear hW1 h hd hcellW hZ hZl hZ1 e1 e2 e3 e4 e5 h1
  go_enter Tryd.func60, Tryd.ntmps60
  go_wp2_with fail
  go_region_law (refine step_append_room rfl (.tmp 22) (.tmp 25) 90 rfl 94 i0 2 Tryd.underlying90 hi0 hz1 g 0 i cap (by simp [Act.eval, Act.put]) A (n - j) (cap - j) (xs.drop (j * 2)) (by simp [Act.eval, Act.put]) s1.out hsrc.out s2.out (by omega) s3.out ?_; rw [← hW.out])
  all_goals
    go_wp2
    go_ret
    exact ⟨rfl, OS.out, F2.out⟩
/-- slices.Delete at a row of the function's own. -/
theorem delj_calls (w : World) (B : Nat) (v : Value) (n i j : Nat) (xs : List Value) (h : w.ownsRow B 94 2 v n xs) (h1 : ∀ u ∈ xs, u.oneCell' = true) (hij : i ≤ j) (hj : j ≤ n) (hn : n ≤ 1000000) :
    Calls Tryd.prog 60 #[v, .int .i64 i, .int .i64 j] w fun e w' => (∃ v', e = .returned v' ∧ w'.ownsRow B 94 2 v' (i + (n - j)) (xs.take (i * 2) ++ xs.drop (j * 2)) ∧ v'.ownBlock = v.ownBlock) ∧ Fr (fun c _ => v.ownBlock ≠ some c) w w' := by
  rcases id h.2 with ⟨rfl, rfl⟩ | ⟨g, cap, cur, rfl, _⟩
  · obtain rfl : j = 0 := by omega
    obtain rfl : i = 0 := by omega
    refine (delj_none w).mono fun e w' ⟨he, hw⟩ => ?_
    subst hw
    have hx : xs = [] := by have := h.1; simpa using this
    subst hx
    exact ⟨⟨_, he, by simpa using h, rfl⟩, Fr.refl _ _⟩
  · obtain ⟨hnc, hcm⟩ := own_cap h
    by_cases hq : i = j
    · subst hq
      refine (delj_same w g n cap i hj hnc (by unfold maxLen at hcm; omega)).mono fun e w' ⟨he, hw⟩ => ?_
      subst hw
      rw [show i + (n - i) = n by omega, List.take_append_drop]
      exact ⟨⟨_, he, h, rfl⟩, Fr.refl _ _⟩
    · refine (delj_some w B g n cap i j xs h h1 (by omega) hj hn).mono fun e w' ⟨he, ho, hf⟩ => ?_
      exact ⟨⟨_, he, ho, rfl⟩, hf.mono fun c _ hc q => hc (by rw [q]; rfl)⟩
theorem delj_any (w : World) (B : Nat) (v : Value) (n i j : Nat) (iz jz : Int) (hiz : iz = i) (hjz : jz = j) (xs : List Value) (h : w.ownsRow B 94 2 v n xs) (h1 : ∀ u ∈ xs, u.oneCell' = true) (hij : i ≤ j) (hj : j ≤ n) (hn : n ≤ 1000000) :
    Calls Tryd.prog 60 #[v, .int .i64 iz, .int .i64 jz] w fun e w' => (∃ v', e = .returned v' ∧ w'.ownsRow B 94 2 v' (i + (n - j)) (xs.take (i * 2) ++ xs.drop (j * 2)) ∧ v'.ownBlock = v.ownBlock) ∧ Fr (fun c _ => v.ownBlock ≠ some c) w w' := by
  subst hiz hjz
  exact delj_calls w B v n i j xs h h1 hij hj hn
end Go.Proofs.YtcpbmempfeloaaaDoor
