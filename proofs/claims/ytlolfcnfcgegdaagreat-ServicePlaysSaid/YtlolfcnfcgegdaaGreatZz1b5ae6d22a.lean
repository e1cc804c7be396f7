/- Texts of the proofs, part 33: what the functions that they reach do, walked; no conditions beyond those that each states. -/
import Derived.Test.YtlolfcnfcgegdaaGreatZz739875524e
set_option linter.unusedVariables false
set_option linter.unusedSimpArgs false
/- Both tables of sessions, plainly: XRelMD's, beside XUk7 (it lacks what stands there). -/
namespace Go.Proofs.YtlolfcnfcgegdaaGreat
open Go.RowKit
set_option linter.unusedVariables false
set_option linter.unusedSimpArgs false



structure RelMD (M : MT) (D : DT) : Prop where
  rng : ∀ x ∈ M, 0 ≤ x.1 ∧ x.1 ≤ 15
  nodup : (M.map (·.1)).Nodup
  look : ∀ i : Nat, i < 16 → findM M (i : Int) = if D.has i = true then some ((i : Int), ((D.seq i : Nat) : Int), D.rep i) else none
  few : M.length ≤ 6
  small : ∀ x ∈ M, 0 ≤ x.2.1 ∧ x.2.1 < 4294967296 ∧ x.2.2.length ≤ 9
theorem RelMD.start : RelMD [] zDT := ⟨(fun x h => by cases h), List.nodup_nil, fun i _ => rfl, by simp, fun x h => by cases h⟩
theorem entD_mem {D : DT} {k : Nat} {x : Int × Int × List UInt8} : x ∈ entD D k ↔ ∃ i, i < k ∧ D.has i = true ∧ x = ((i : Int), ((D.seq i : Nat) : Int), D.rep i) := by
  unfold entD
  simp only [List.mem_map, List.mem_filter, List.mem_range]
  constructor
  · rintro ⟨i, ⟨h1, h2⟩, rfl⟩; exact ⟨i, h1, h2, rfl⟩
  · rintro ⟨i, h1, h2, rfl⟩; exact ⟨i, ⟨h1, h2⟩, rfl⟩
theorem RelMD.mem {M : MT} {D : DT} (h : RelMD M D) (x : Int × Int × List UInt8) : x ∈ M ↔ x ∈ entD D 16 := by
  rw [entD_mem]
  constructor
  · intro hx
    obtain ⟨a, b⟩ := h.rng x hx
    have hf := findM_of h.nodup hx
    have hl := h.look x.1.toNat (by omega)
    rw [show ((x.1.toNat : Nat) : Int) = x.1 by omega, hf] at hl
    split at hl
    next q => exact ⟨x.1.toNat, by omega, q, by have := Option.some.inj hl; rw [this]; simp; omega⟩
    · cases hl
  · rintro ⟨i, hi, hh, rfl⟩
    have hl := h.look i hi
    rw [if_pos hh] at hl
    exact (findM_key hl).1
theorem entD_up (D : DT) : ∀ k, ((entD D k).map (·.1)).Pairwise (· < ·) ∧ ∀ x ∈ entD D k, 0 ≤ x.1 ∧ x.1 < k
  | 0 => ⟨List.Pairwise.nil, fun x h => by cases h⟩
  | k + 1 => by
    obtain ⟨a, b⟩ := entD_up D k
    rw [entD_succ]
    split
    · refine ⟨?_, fun x hx => ?_⟩
      · rw [List.map_append, List.pairwise_append]
        refine ⟨a, by simp, fun x hx y hy => ?_⟩
        obtain ⟨z, hz, rfl⟩ := List.mem_map.1 hx
        have hy : y = (k : Int) := by simpa using hy
        have := b z hz
        omega
      · rcases List.mem_append.1 hx with hx | hx
        · have := b x hx; omega
        · rw [List.mem_singleton.1 hx]; exact ⟨by show (0 : Int) ≤ (k : Int); omega, by show (k : Int) < ((k + 1 : Nat) : Int); omega⟩
    · rw [List.append_nil]
      exact ⟨a, fun x hx => by have := b x hx; omega⟩
theorem up_perm : ∀ {a b : MT}, (a.map (·.1)).Pairwise (· < ·) → (b.map (·.1)).Pairwise (· < ·) → (∀ x, x ∈ a ↔ x ∈ b) → a = b
  | [], b, _, _, h => by
    cases b with
    | nil => rfl
    | cons y b => exact absurd ((h y).2 (by simp)) (by simp)
  | x :: a, b, ha, hb, h => by
    cases b with
    | nil => exact absurd ((h x).1 (by simp)) (by simp)
    | cons y b =>
      rw [List.map_cons, List.pairwise_cons] at ha hb
      have k1 : ∀ z ∈ a, x.1 < z.1 := fun z hz => ha.1 _ (List.mem_map_of_mem hz)
      have k2 : ∀ z ∈ b, y.1 < z.1 := fun z hz => hb.1 _ (List.mem_map_of_mem hz)
      have e : x = y := by
        rcases List.mem_cons.1 ((h x).1 (by simp)) with e | m1
        · exact e
        · rcases List.mem_cons.1 ((h y).2 (by simp)) with e | m2
          · exact e.symm
          · have := k1 y m2; have := k2 x m1; omega
      subst e
      congr 1
      refine up_perm ha.2 hb.2 fun z => ⟨fun hz => ?_, fun hz => ?_⟩
      · rcases List.mem_cons.1 ((h z).1 (by simp [hz])) with e | q
        · have := k1 z hz; rw [e] at this; omega
        · exact q
      · rcases List.mem_cons.1 ((h z).2 (by simp [hz])) with e | q
        · have := k2 z hz; rw [e] at this; omega
        · exact q
theorem RelMD.sort {M : MT} {D : DT} (h : RelMD M D) : sortM M = entD D 16 := by
  refine up_perm ?_ (entD_up D 16).1 fun x => ?_
  · rw [sortM_keys h.nodup]; exact srt_lt h.nodup
  · rw [sortM_mem h.nodup, h.mem]
theorem cliD_ent (D : DT) (k : Nat) : cliD D k = (entD D k).map (·.1) := by unfold cliD entD; rw [List.map_map]; rfl
theorem RelMD.clients {M : MT} {D : DT} (h : RelMD M D) : srt (M.map (·.1)) = cliD D 16 := by
  rw [cliD_ent, ← h.sort, sortM_keys h.nodup]
theorem RelMD.many {M : MT} {D : DT} (h : RelMD M D) : manyK D 16 = M.length := by rw [← entD_len, ← h.sort, sortM_len]
theorem RelMD.isSome {M : MT} {D : DT} (h : RelMD M D) (c : Int) : (findM M c).isSome = hasD D c := by
  unfold hasD inB
  by_cases hc : 0 ≤ c ∧ c ≤ 15
  · rw [decide_eq_true hc]
    have hl := h.look c.toNat (by omega)
    rw [show ((c.toNat : Nat) : Int) = c by omega] at hl
    rw [hl]
    cases D.has c.toNat <;> rfl
  · rw [decide_eq_false hc]
    rw [findM_none_of fun x hx e => hc (by have := h.rng x hx; omega)]
    rfl
theorem RelMD.at' {M : MT} {D : DT} (h : RelMD M D) {c : Int} (hc : hasD D c = true) : findM M c = some (c, ((D.seq c.toNat : Nat) : Int), D.rep c.toNat) := by
  obtain ⟨i, rfl, hi, hb⟩ := hasD_nat hc
  rw [h.look i hi, if_pos hb]; simp

theorem rel_open {M : MT} {D : DT} (h : RelMD M D) (c : Int) : ∃ code M' D', openM M c = (code, M') ∧ openD D c = (code, D') ∧ RelMD M' D' := by
  unfold openM openD
  rw [h.many, h.isSome]
  by_cases hc : c < 0 ∨ 16 ≤ c
  · have hi : inB c = false := decide_eq_false (by omega)
    rw [if_pos hc, if_pos hi]
    exact ⟨_, _, _, rfl, rfl, h⟩
  · have hi : inB c = true := decide_eq_true (by omega)
    rw [if_neg hc, if_neg (show ¬ inB c = false by rw [hi]; decide), show hasD D c = D.has c.toNat by unfold hasD; rw [hi, Bool.true_and]]
    cases hb : D.has c.toNat with
    | true => exact ⟨_, _, _, rfl, rfl, h⟩
    | false =>
      simp only [Bool.false_eq_true, ↓reduceIte]
      by_cases h6 : 6 ≤ M.length
      · rw [if_pos h6, if_pos h6]; exact ⟨_, _, _, rfl, rfl, h⟩
      · rw [if_neg h6, if_neg h6]
        refine ⟨_, _, _, rfl, rfl, ?_⟩
        obtain ⟨i, rfl⟩ := Int.eq_ofNat_of_zero_le (show 0 ≤ c by omega)
        rw [Int.toNat_natCast] at hb ⊢
        have hi16 : i < 16 := by omega
        have hno : ∀ x ∈ M, x.1 ≠ (i : Int) := fun x hx e => by
          have := findM_of h.nodup hx
          rw [e, h.look i hi16, hb] at this
          cases this
        refine ⟨fun x hx => ?_, ?_, fun j hj => ?_, by simp; omega, fun x hx => ?_⟩
        · rcases List.mem_append.1 hx with hx | hx
          · exact h.rng x hx
          · rw [List.mem_singleton.1 hx]; exact ⟨by show (0 : Int) ≤ (i : Int); omega, by show (i : Int) ≤ 15; omega⟩
        · rw [List.map_append, List.nodup_append]
          refine ⟨h.nodup, by simp, fun x hx y hy e => ?_⟩
          obtain ⟨z, hz, rfl⟩ := List.mem_map.1 hx
          have hy : y = (i : Int) := by simpa using hy
          exact hno z hz (by rw [e, hy])
        · have hap : findM (M ++ [((i : Int), (0 : Int), ([] : List UInt8))]) (j : Int) = (findM M (j : Int)).or (if (i : Int) = (j : Int) then some ((i : Int), (0 : Int), ([] : List UInt8)) else none) := by
            unfold findM
            rw [List.find?_append, List.find?_cons, List.find?_nil]
            by_cases e : (i : Int) = (j : Int) <;> simp [e]
          rw [hap, h.look j hj]
          by_cases e : j = i
          · subst e
            rw [hb]
            simp [upd]
          · simp only [upd, e, ↓reduceIte]
            have e2 : ¬ (i : Int) = (j : Int) := by omega
            rw [if_neg e2]
            cases D.has j <;> rfl
        · rcases List.mem_append.1 hx with hx | hx
          · exact h.small x hx
          · rw [List.mem_singleton.1 hx]; exact ⟨Int.le_refl _, by show (0 : Int) < 4294967296; decide, by simp⟩
theorem findM_filter {M : MT} {c d : Int} : findM (M.filter fun x => !decide (x.1 = c)) d = if d = c then none else findM M d := by
  unfold findM
  rw [List.find?_filter]
  by_cases e : d = c
  · subst e
    rw [if_pos rfl, List.find?_eq_none]
    intro x _
    simp
  · rw [if_neg e]
    congr 1
    funext x
    by_cases q : x.1 = d
    · simp [q, e]
    · simp [q]
theorem rel_close {M : MT} {D : DT} (h : RelMD M D) (c : Int) : ∃ code M' D', closeM M c = (code, M') ∧ closeD D c = (code, D') ∧ RelMD M' D' := by
  unfold closeM closeD
  rw [h.isSome]
  cases hc : hasD D c with
  | false => exact ⟨_, _, _, rfl, rfl, h⟩
  | true =>
    refine ⟨_, _, _, rfl, rfl, ?_⟩
    obtain ⟨i, rfl, hi, hb⟩ := hasD_nat hc
    rw [Int.toNat_natCast]
    refine ⟨fun x hx => h.rng x (List.mem_filter.1 hx).1, h.nodup.sublist (List.filter_sublist.map _), fun j hj => ?_, Nat.le_trans (List.length_filter_le _ _) h.few, fun x hx => h.small x (List.mem_filter.1 hx).1⟩
    rw [findM_filter, h.look j hj]
    by_cases e : j = i
    · subst e; simp [upd]
    · rw [if_neg (by omega)]
      simp [upd, e]
theorem rel_ask {M : MT} {D : DT} (h : RelMD M D) (c : Int) (s : Nat) (hs : s < 4294967296) : askM M c (s : Int) = askD D c s := by
  unfold askM askD
  have hi := h.isSome c
  cases hc : hasD D c with
  | false =>
    rw [hc] at hi
    have : findM M c = none := by cases q : findM M c <;> simp_all
    rw [this, if_pos rfl]
  | true =>
    rw [h.at' hc, if_neg (by decide)]
    simp only
    generalize D.seq c.toNat = q
    by_cases h1 : s = q ∧ s ≠ 0
    · rw [if_pos ⟨by omega, by omega⟩, if_pos h1]
    · rw [if_neg (by omega), if_neg h1]
      unfold askCode
      by_cases h2 : s ≤ q
      · rw [if_pos (by omega), if_pos h2]
      · rw [if_neg (by omega), if_neg h2]
        by_cases h3 : q + 1 < s
        · rw [if_pos (by omega), if_pos h3]
        · rw [if_neg (by omega), if_neg h3]
theorem findM_setM {M : MT} {c d s : Int} {bs : List UInt8} : findM (setM M c s bs) d = (findM M d).map fun x => if x.1 = c then (x.1, s, bs) else x := by
  unfold findM setM
  rw [List.find?_map]
  congr 1
  congr 1
  funext x
  simp only [Function.comp]
  split <;> rfl
theorem rel_done {M : MT} {D : DT} (h : RelMD M D) (c : Int) (s : Nat) (r : List UInt8) (hs : s < 4294967296) : ∃ code M' D', doneM M c (s : Int) r = (code, M') ∧ doneD D c s r = (code, D') ∧ RelMD M' D' := by
  unfold doneM doneD
  have hi := h.isSome c
  cases hc : hasD D c with
  | false =>
    rw [hc] at hi
    have : findM M c = none := by cases q : findM M c <;> simp_all
    rw [this, if_pos rfl]
    exact ⟨_, _, _, rfl, rfl, h⟩
  | true =>
    rw [h.at' hc, if_neg (by decide)]
    simp only
    unfold doneCode
    by_cases h1 : s = D.seq c.toNat + 1
    · by_cases h2 : 9 < r.length
      · rw [if_neg (by omega), if_neg (by omega), if_pos h2, if_neg (by simpa using h1), if_pos h2]
        exact ⟨_, _, _, rfl, rfl, h⟩
      · rw [if_pos ⟨by omega, by omega⟩, if_neg (by simpa using h1), if_neg h2]
        refine ⟨_, _, _, rfl, rfl, ?_⟩
        obtain ⟨i, rfl, hi16, hb⟩ := hasD_nat hc
        rw [Int.toNat_natCast]
        have hk : (setM M (i : Int) (s : Int) r).map (·.1) = M.map (·.1) := by
          unfold setM
          rw [List.map_map]
          refine List.map_congr_left fun x _ => ?_
          simp only [Function.comp]
          split <;> rfl
        refine ⟨fun x hx => ?_, by rw [hk]; exact h.nodup, fun j hj => ?_, by unfold setM; rw [List.length_map]; exact h.few, fun x hx => ?_⟩
        · unfold setM at hx
          obtain ⟨y, hy, rfl⟩ := List.mem_map.1 hx
          have := h.rng y hy
          split <;> exact this
        · rw [findM_setM, h.look j hj]
          by_cases e : j = i
          · subst e; rw [hb]; simp [upd]
          · simp only [upd, e, ↓reduceIte]
            cases D.has j
            · rfl
            · simp; omega
        · unfold setM at hx
          obtain ⟨y, hy, rfl⟩ := List.mem_map.1 hx
          split
          · exact ⟨by show (0 : Int) ≤ (s : Int); omega, by show (s : Int) < 4294967296; omega, by show r.length ≤ 9; omega⟩
          · exact h.small y hy
    · rw [if_neg (by omega), if_pos (by omega), if_pos h1]
      exact ⟨_, _, _, rfl, rfl, h⟩
end Go.Proofs.YtlolfcnfcgegdaaGreat
/- The document's state: sessions and locks; what leave does, plainly. -/
namespace Go.Proofs.YtlolfcnfcgegdaaGreat
open Go.RowKit
set_option linter.unusedVariables false
set_option linter.unusedSimpArgs false

theorem fold_none {c r : Nat} : ∀ (hs : List Ho) (L : Lk), (∀ x ∈ hs, x.c ≠ c) → hs.foldl (fun L h => if h.c = c then (releaseM L c r h.t).2 else L) L = L
  | [], L, _ => rfl
  | x :: xs, L, h => by
    rw [List.foldl_cons, if_neg (h x (by simp))]
    exact fold_none xs L fun y hy => h y (by simp [hy])
/-- A client holds a region once: one release. -/
theorem fold_one {c r : Nat} : ∀ (hs : List Ho) (L : Lk), (hs.map (·.c)).Nodup →
    hs.foldl (fun L h => if h.c = c then (releaseM L c r h.t).2 else L) L = match hI hs c with | some k => (releaseM L c r (hs.getD k default).t).2 | none => L
  | [], L, _ => rfl
  | x :: xs, L, h => by
    rw [List.map_cons, List.nodup_cons] at h
    rw [List.foldl_cons]
    unfold hI
    rw [List.findIdx?_cons]
    by_cases e : x.c = c
    · rw [if_pos e, fold_none xs _ fun y hy q => h.1 (by rw [e, ← q]; exact List.mem_map_of_mem hy)]
      simp [e]
    · rw [if_neg e, fold_one xs L h.2]
      unfold hI
      simp only [e, decide_false, Bool.false_eq_true, if_false]
      cases hq : List.findIdx? (fun h => decide (h.c = c)) xs with
      | none => rfl
      | some k => rfl
/-- One region's step of leave. -/
def rel1 (L : Lk) (c r : Nat) : Lk := match hI (L.rg r).hs c with | some k => (releaseM L c r ((L.rg r).hs.getD k default).t).2 | none => L
theorem leaveR_step {L : Lk} (h : L.ok) (c r : Nat) : leaveR L c r = (cancelM (rel1 L c r) c r).2 := by
  unfold leaveR rel1
  rw [fold_one _ _ (List.nodup_append.1 (h.rg r).nd).1]

/-- The document's state at bd: its sessions at d1, its locks at d2. -/
structure DS (n : Nat) (G : Nat → Prop) (w : World) (bd d1 d2 : Nat) (M : MT) (L : Lk) : Prop where
  top : w.heap[bd]? = some (.cells #[.pointer (some ⟨d1, 0, none⟩), .pointer (some ⟨d2, 0, none⟩)] 49 (0, 0))
  le : n ≤ bd
  ses : ∃ D, D17 w n d1 D ∧ RelMD M D
  lok : DRE n G w d2 L
/-- Only the tables' blocks are written. -/
structure Kh (d1 d2 : Nat) (G G' : Nat → Prop) (w w' : World) : Prop where
  fr : Fr (fun c _ => c ≠ d1 ∧ c ≠ d2) w w'
  new : ∀ c, ¬ G c → G' c → w.heap.size ≤ c
section
variable {n bd d1 d2 : Nat} {G G' G'' : Nat → Prop} {w w' : World} {M M' : MT} {L L' : Lk}
theorem Kh.same (G : Nat → Prop) (f : Fr (fun _ _ => True) w w') : Kh d1 d2 G G w w' := ⟨f.mono fun _ _ _ => trivial, fun _ h k => absurd k h⟩
theorem Kg.kh (k : Kg d2 G G' w w') : Kh d1 d2 G G' w w' := ⟨k.fr.mono fun _ _ h => h.2, k.new⟩
theorem Kh.ses (f : Fr (fun c _ => c ≠ d1) w w') : Kh d1 d2 G G w w' := ⟨f.mono fun _ _ h => h.1, fun _ h k => absurd k h⟩
theorem Kh.trans {w'' : World} (h : Kh d1 d2 G G' w w') (k : Kh d1 d2 G' G'' w' w'') : Kh d1 d2 G G'' w w'' :=
  ⟨h.fr.trans k.fr, fun x hx hx2 => by
    by_cases q : G' x
    · exact h.new x hx q
    · exact Nat.le_trans h.fr.size (k.new x q hx2)⟩
theorem DRE.top' (h : DRE n G w d2 L) : n ≤ d2 ∧ ∃ cs, w.heap[d2]? = some (.cells cs 77 (0, 0)) := by
  obtain ⟨hv, wv, h⟩ := h
  exact ⟨h.lo _ h.gt, _, h.top⟩
theorem DRE.frk {K : Nat → Obj → Prop} (h : DRE n G w d2 L) (f : Fr K w w') (hk : ∀ c o, w.heap[c]? = some o → G c → K c o) : DRE n G w' d2 L := by
  obtain ⟨hv, wv, h⟩ := h
  exact ⟨hv, wv, h.frk f hk⟩
theorem DRE.own (h : DRE n G w d2 L) {c : Nat} (hc : G c) : n ≤ c ∧ ∃ cs t fz, w.heap[c]? = some (.cells cs t fz) ∧ tyD t := by
  obtain ⟨hv, wv, h⟩ := h
  exact ⟨h.lo c hc, h.ge c hc⟩
theorem D17.top' {D : DT} (h : D17 w n d1 D) : n ≤ d1 ∧ ∃ cs, w.heap[d1]? = some (.cells cs 73 (0, 0)) := by
  obtain ⟨cs, vs, h⟩ := h
  exact ⟨h.le, _, h.top⟩
theorem D17.frk {K : Nat → Obj → Prop} {D : DT} (h : D17 w n d1 D) (f : Fr K w w') (hk : ∀ c o, w.heap[c]? = some o → (c = d1 ∨ KD n c o) → K c o) : D17 w' n d1 D := by
  obtain ⟨cs, vs, h⟩ := h
  have f' : Fr (fun c o => K c o ∧ w.heap[c]? = some o) w w' := ⟨f.os, f.tape, f.output, f.size, fun b o hb h => f.keep b o hb h.1⟩
  have f2 : Fr (fun c o => c = d1 ∨ KD n c o) w w' := ⟨f.os, f.tape, f.output, f.size, fun b o hb hq => f.keep b o hb (hk b o hb hq)⟩
  exact ⟨cs, vs, h.fr f2 (fun _ _ => .inl rfl) fun _ _ _ q => .inr q⟩
theorem DS.frk {K : Nat → Obj → Prop} (h : DS n G w bd d1 d2 M L) (f : Fr K w w') (hk : ∀ c o, w.heap[c]? = some o → (c = bd ∨ c = d1 ∨ G c ∨ KD n c o) → K c o) : DS n G w' bd d1 d2 M L := by
  obtain ⟨D, hD, hR⟩ := h.ses
  exact ⟨f.keep _ _ h.top (hk _ _ h.top (.inl rfl)), h.le, ⟨D, hD.frk f fun c o ho q => hk c o ho (q.elim (fun e => .inr (.inl e)) fun e => .inr (.inr (.inr e))), hR⟩, h.lok.frk f fun c o ho q => hk c o ho (.inr (.inr (.inl q)))⟩
theorem DS.tt (h : DS n G w bd d1 d2 M L) (f : Fr (fun _ _ => True) w w') : DS n G w' bd d1 d2 M L := h.frk f fun _ _ _ _ => trivial
theorem DS.setS {D : DT} (h : DS n G w bd d1 d2 M L) (f : Fr (fun c _ => c ≠ d1) w w') (hD : D17 w' n d1 D) (hR : RelMD M' D) : DS n G w' bd d1 d2 M' L := by
  obtain ⟨D0, hD0, _⟩ := h.ses
  obtain ⟨_, cs, h1⟩ := hD0.top'
  refine ⟨f.keep _ _ h.top fun e => ?_, h.le, ⟨D, hD, hR⟩, h.lok.frk f fun c o ho q e => ?_⟩
  · subst e; rw [h.top] at h1; cases h1
  · subst e
    obtain ⟨_, cs2, t, fz, h2, ht⟩ := h.lok.own q
    rw [h2] at h1
    cases h1
    rcases ht with q | q | q <;> exact absurd q (by decide)
theorem DS.setL (h : DS n G w bd d1 d2 M L) (hl : DRE n G' w' d2 L') (k : Kg d2 G G' w w') : DS n G' w' bd d1 d2 M L' := by
  obtain ⟨hn2, cs, h2⟩ := h.lok.top'
  obtain ⟨D, hD, hR⟩ := h.ses
  refine ⟨k.fr.keep _ _ h.top fun e => ?_, h.le, ⟨D, hD.frk k.fr fun c o ho q e => ?_, hR⟩, hl⟩
  · subst e; rw [h.top] at h2; cases h2
  · subst e
    rw [h2] at ho
    cases ho
    rcases q with q | q | ⟨_, _, q⟩
    · subst q
      obtain ⟨_, _, h1⟩ := hD.top'
      rw [h1] at h2; cases h2
    · omega
    · cases q
theorem DS.cells (h : DS n G w bd d1 d2 M L) (W : World) (f : Fr (fun _ _ => True) w W) : W.cell? ⟨bd, 0, none⟩ = some (.pointer (some ⟨d1, 0, none⟩)) ∧ W.cell? ⟨bd, 1, none⟩ = some (.pointer (some ⟨d2, 0, none⟩)) := by
  have t := f.keep _ _ h.top trivial
  exact ⟨cell_mk t rfl, cell_mk t rfl⟩
/-- The sessions' calls. -/
theorem ds_open (w : World) (c : Int) (h : DS n G w bd d1 d2 M L) : Calls Tryz.prog 33 #[.pointer (some ⟨d1, 0, none⟩), .int .i64 c] w fun e w' => e = .returned (.int .i64 (openM M c).1) ∧ DS n G w' bd d1 d2 (openM M c).2 L ∧ Fr (fun x _ => x ≠ d1) w w' := by
  obtain ⟨D, hD, hR⟩ := h.ses
  obtain ⟨code, M', D', e1, e2, hR'⟩ := rel_open hR c
  rw [e1]
  exact (dopen_calls w n d1 D c hD code D' e2).mono fun e w' q => ⟨q.1, h.setS q.2.2 q.2.1 hR', q.2.2⟩
theorem ds_close (w : World) (c : Int) (h : DS n G w bd d1 d2 M L) : Calls Tryz.prog 34 #[.pointer (some ⟨d1, 0, none⟩), .int .i64 c] w fun e w' => e = .returned (.int .i64 (closeM M c).1) ∧ DS n G w' bd d1 d2 (closeM M c).2 L ∧ Fr (fun x _ => x ≠ d1) w w' := by
  obtain ⟨D, hD, hR⟩ := h.ses
  obtain ⟨code, M', D', e1, e2, hR'⟩ := rel_close hR c
  rw [e1]
  exact (dclose_calls w n d1 D c hD code D' e2).mono fun e w' q => ⟨q.1, h.setS q.2.2 q.2.1 hR', q.2.2⟩
theorem ds_ask (w : World) (c : Int) (s : Nat) (hs : s < 4294967296) (h : DS n G w bd d1 d2 M L) : Calls Tryz.prog 37 #[.pointer (some ⟨d1, 0, none⟩), .int .i64 c, .int .u32 (s : Nat)] w fun e w' => (∃ v, e = .returned (.tuple #[v, .bool (askM M c (s : Nat)).2.1, .int .i64 (askM M c (s : Nat)).2.2]) ∧ BytesAt (KD n) w v (askM M c (s : Nat)).1) ∧ w = w' := by
  obtain ⟨D, hD, hR⟩ := h.ses
  have e := rel_ask hR c s hs
  rw [e]
  exact dask_calls w n d1 D c s hD hs _ _ _ rfl
theorem ds_done (w : World) (c : Int) (s : Nat) (v : Value) (b : List UInt8) (hs : s < 4294967296) (hb : BytesAt (KD n) w v b) (hm : b.length ≤ 1000000) (h : DS n G w bd d1 d2 M L) : Calls Tryz.prog 43 #[.pointer (some ⟨d1, 0, none⟩), .int .i64 c, .int .u32 (s : Nat), v] w fun e w' => e = .returned (.int .i64 (doneM M c (s : Nat) b).1) ∧ DS n G w' bd d1 d2 (doneM M c (s : Nat) b).2 L ∧ Fr (fun x _ => x ≠ d1) w w' := by
  obtain ⟨D, hD, hR⟩ := h.ses
  obtain ⟨code, M', D', e1, e2, hR'⟩ := rel_done hR c s b hs
  rw [e1]
  exact (ddone_calls w n d1 D c s v b hD hs hb (by omega) code D' e2).mono fun e w' q => ⟨q.1, h.setS q.2.2 q.2.1 hR', q.2.2⟩
end
end Go.Proofs.YtlolfcnfcgegdaaGreat
/- The document's locks: Acquire where nothing is put (printed by dacq19.py). -/
namespace Go.Proofs.YtlolfcnfcgegdaaGreat
open Go.RowKit
set_option linter.unusedVariables false
set_option linter.unusedSimpArgs false

theorem wI_idx (ws : List Wa) (c : Nat) : idxW (fun h => decide (h.c = c)) ws = match wI ws c with | some i => ((i : Nat) : Int) | none => -1 := rfl
set_option maxRecDepth 100000 in
set_option maxHeartbeats 1000000 in
theorem dacq_bad (w : World) (bt c r m : Nat) (hr : rightM c r ≠ 0) :
    Calls Tryz.prog 39 #[.pointer (some ⟨bt, 0, none⟩), .int .i64 (c : Nat), .int .i64 (r : Nat), .int .i64 (m : Nat)] w fun e w' => e = .returned (.tuple #[.int .u64 0, .int .i64 (rightM c r : Nat)]) ∧ w = w' := by
  have RC := Lib.hid (dright_calls w c r)
  have hne : ((rightM c r : Int) != 0) = true := by simp; omega
  generalize rightM c r = e0 at RC hne ⊢
  clear hr
  go_enter Tryz.func39, Tryz.ntmps39
  go_wp2_with fail
  (with_reducible refine RC.out.mono ?_)
  rintro e w1 ⟨rfl, rfl⟩
  go_wp2
  go_ret2
  exact ⟨rfl, rfl⟩
set_option maxRecDepth 100000 in
set_option maxHeartbeats 1000000 in
theorem dacq_mode (w : World) (bt c r m : Nat) (hr : rightM c r = 0) (hm : ¬ (m = 1 ∨ m = 2)) :
    Calls Tryz.prog 39 #[.pointer (some ⟨bt, 0, none⟩), .int .i64 (c : Nat), .int .i64 (r : Nat), .int .i64 (m : Nat)] w fun e w' => e = .returned (.tuple #[.int .u64 0, .int .i64 91]) ∧ w = w' := by
  have RC := Lib.hid (dright_calls w c r)
  rw [hr] at RC
  have h1 : ((m : Int) != 1) = true := by simp; omega
  have h2 : ((m : Int) != 2) = true := by simp; omega
  clear hr hm
  go_enter Tryz.func39, Tryz.ntmps39
  go_wp2_with fail
  (with_reducible refine RC.out.mono ?_)
  rintro e w1 ⟨rfl, rfl⟩
  go_wp2
  go_ret2
  exact ⟨rfl, rfl⟩
set_option maxRecDepth 100000 in
set_option maxHeartbeats 4000000 in
theorem dacq_hold {n : Nat} {G : Nat → Prop} (w : World) (bt c r m k : Nat) (L : Lk) (h : DRE n G w bt L) (hr : rightM c r = 0) (hm : m = 1 ∨ m = 2) (hi : hI (L.rg r).hs c = some k) (hk : k < (L.rg r).hs.length) :
    Calls Tryz.prog 39 #[.pointer (some ⟨bt, 0, none⟩), .int .i64 (c : Nat), .int .i64 (r : Nat), .int .i64 (m : Nat)] w fun e w' => e = .returned (.tuple (if ((L.rg r).hs[k]).m = m then #[.int .u64 (((L.rg r).hs[k]).t : Nat), .int .i64 0] else #[.int .u64 0, .int .i64 91])) ∧ w = w' := by
  obtain ⟨hv, wv, h⟩ := h
  obtain ⟨_, c1, _, _, cc⟩ := h.cells w (Fr.refl _ _)
  have hr4 : r < 4 := right_r (c := c) (fun q => q hr)
  obtain ⟨cc0, cc1, _, zz1⟩ := cc r hr4
  have RC := Lib.hid (dright_calls w c r)
  rw [hr] at RC
  have hrI : (r : Int) < 4 := by omega
  have HC := Lib.hid (dhold_calls w bt c r L ⟨hv, wv, h⟩ hr4)
  rw [hI_idx, hi] at HC
  dsimp only at HC
  have HR := h.hr r hr4
  obtain ⟨ah, ch, eh, _⟩ := HR.form
  rw [eh] at cc0 HR
  have n4 := (h.ok.rg r).h4
  obtain ⟨b, off, o, rfl, _, _, hcl⟩ := HR.spot (by omega)
  obtain ⟨x, hx⟩ : ∃ x, (L.rg r).hs[k] = x := ⟨_, rfl⟩
  have hcs := RowsAt.h4 (K := fun _ _ => True) hcl k hk
  rw [hx] at hcs ⊢
  have k1 := hcs.2.1
  have k2 := hcs.2.2.1
  have hkI : (k : Int) < (L.rg r).hs.length := by omega
  have hk0 : (0 : Int) ≤ (k : Int) := by omega
  generalize (L.rg r).hs.length = lh at cc0 hkI n4
  clear h cc HR eh hr hr4 hcl hcs hx hk hi cc1 zz1 c1
  have hmm : (((m : Int) != 1) = false) ∨ (((m : Int) != 1) = true ∧ ((m : Int) != 2) = false) := by
    rcases hm with q | q
    · exact .inl (by simp; omega)
    · exact .inr ⟨by simp; omega, by simp; omega⟩
  clear hm
  by_cases hq : x.m = m
  · have hqI : ((x.m : Int) != (m : Int)) = false := by simp; omega
    rw [if_pos hq]
    clear hq
    rcases hmm with h1 | ⟨h1, h2⟩
    · go_enter Tryz.func39, Tryz.ntmps39
      go_wp2_with fail
      (with_reducible refine RC.out.mono ?_)
      rintro e w1 ⟨rfl, rfl⟩
      go_wp2_with fail
      (with_reducible refine HC.out.mono ?_)
      rintro e w1 ⟨rfl, rfl⟩
      go_wp2
      go_ret2
      exact ⟨rfl, rfl⟩
    · go_enter Tryz.func39, Tryz.ntmps39
      go_wp2_with fail
      (with_reducible refine RC.out.mono ?_)
      rintro e w1 ⟨rfl, rfl⟩
      go_wp2_with fail
      (with_reducible refine HC.out.mono ?_)
      rintro e w1 ⟨rfl, rfl⟩
      go_wp2
      go_ret2
      exact ⟨rfl, rfl⟩
  · have hqI : ((x.m : Int) != (m : Int)) = true := by simp; omega
    rw [if_neg hq]
    clear hq
    rcases hmm with h1 | ⟨h1, h2⟩
    · go_enter Tryz.func39, Tryz.ntmps39
      go_wp2_with fail
      (with_reducible refine RC.out.mono ?_)
      rintro e w1 ⟨rfl, rfl⟩
      go_wp2_with fail
      (with_reducible refine HC.out.mono ?_)
      rintro e w1 ⟨rfl, rfl⟩
      go_wp2
      go_ret2
      exact ⟨rfl, rfl⟩
    · go_enter Tryz.func39, Tryz.ntmps39
      go_wp2_with fail
      (with_reducible refine RC.out.mono ?_)
      rintro e w1 ⟨rfl, rfl⟩
      go_wp2_with fail
      (with_reducible refine HC.out.mono ?_)
      rintro e w1 ⟨rfl, rfl⟩
      go_wp2
      go_ret2
      exact ⟨rfl, rfl⟩
set_option maxRecDepth 100000 in
set_option maxHeartbeats 4000000 in
theorem dacq_want {n : Nat} {G : Nat → Prop} (w : World) (bt c r m k : Nat) (L : Lk) (h : DRE n G w bt L) (hr : rightM c r = 0) (hm : m = 1 ∨ m = 2) (hi : hI (L.rg r).hs c = none) (hj : wI (L.rg r).ws c = some k) (hk : k < (L.rg r).ws.length) :
    Calls Tryz.prog 39 #[.pointer (some ⟨bt, 0, none⟩), .int .i64 (c : Nat), .int .i64 (r : Nat), .int .i64 (m : Nat)] w fun e w' => e = .returned (.tuple (if ((L.rg r).ws[k]).m = m then #[.int .u64 0, .int .i64 90] else #[.int .u64 0, .int .i64 91])) ∧ w = w' := by
  obtain ⟨hv, wv, h⟩ := h
  obtain ⟨_, c1, _, _, cc⟩ := h.cells w (Fr.refl _ _)
  have hr4 : r < 4 := right_r (c := c) (fun q => q hr)
  obtain ⟨cc0, cc1, _, zz1⟩ := cc r hr4
  have RC := Lib.hid (dright_calls w c r)
  rw [hr] at RC
  have hrI : (r : Int) < 4 := by omega
  have HC := Lib.hid (dhold_calls w bt c r L ⟨hv, wv, h⟩ hr4)
  rw [hI_idx, hi] at HC
  dsimp only at HC
  have WC := Lib.hid (dwant_calls w bt c r L ⟨hv, wv, h⟩ hr4)
  rw [wI_idx, hj] at WC
  dsimp only at WC
  have WR := h.wr r hr4
  obtain ⟨aw, cw, ew, _⟩ := WR.form
  rw [ew] at cc1 WR
  have n4 := (h.ok.rg r).w4
  obtain ⟨b, off, o, rfl, _, _, hcl⟩ := WR.spot (by omega)
  obtain ⟨x, hx⟩ : ∃ x, (L.rg r).ws[k] = x := ⟨_, rfl⟩
  have hcs := RowsAt.w2 (K := fun _ _ => True) hcl k hk
  rw [hx] at hcs ⊢
  have k1 := hcs.2
  have hkI : (k : Int) < (L.rg r).ws.length := by omega
  have hk0 : (0 : Int) ≤ (k : Int) := by omega
  generalize (L.rg r).ws.length = lh at cc1 hkI n4
  clear h cc WR ew hr hr4 hcl hcs hx hk hi hj cc0 zz1 c1
  have hmm : (((m : Int) != 1) = false) ∨ (((m : Int) != 1) = true ∧ ((m : Int) != 2) = false) := by
    rcases hm with q | q
    · exact .inl (by simp; omega)
    · exact .inr ⟨by simp; omega, by simp; omega⟩
  clear hm
  by_cases hq : x.m = m
  · have hqI : ((x.m : Int) != (m : Int)) = false := by simp; omega
    rw [if_pos hq]
    clear hq
    rcases hmm with h1 | ⟨h1, h2⟩
    · go_enter Tryz.func39, Tryz.ntmps39
      go_wp2_with fail
      (with_reducible refine RC.out.mono ?_)
      rintro e w1 ⟨rfl, rfl⟩
      go_wp2_with fail
      (with_reducible refine HC.out.mono ?_)
      rintro e w1 ⟨rfl, rfl⟩
      go_wp2_with fail
      (with_reducible refine WC.out.mono ?_)
      rintro e w1 ⟨rfl, rfl⟩
      go_wp2
      go_ret2
      exact ⟨rfl, rfl⟩
    · go_enter Tryz.func39, Tryz.ntmps39
      go_wp2_with fail
      (with_reducible refine RC.out.mono ?_)
      rintro e w1 ⟨rfl, rfl⟩
      go_wp2_with fail
      (with_reducible refine HC.out.mono ?_)
      rintro e w1 ⟨rfl, rfl⟩
      go_wp2_with fail
      (with_reducible refine WC.out.mono ?_)
      rintro e w1 ⟨rfl, rfl⟩
      go_wp2
      go_ret2
      exact ⟨rfl, rfl⟩
  · have hqI : ((x.m : Int) != (m : Int)) = true := by simp; omega
    rw [if_neg hq]
    clear hq
    rcases hmm with h1 | ⟨h1, h2⟩
    · go_enter Tryz.func39, Tryz.ntmps39
      go_wp2_with fail
      (with_reducible refine RC.out.mono ?_)
      rintro e w1 ⟨rfl, rfl⟩
      go_wp2_with fail
      (with_reducible refine HC.out.mono ?_)
      rintro e w1 ⟨rfl, rfl⟩
      go_wp2_with fail
      (with_reducible refine WC.out.mono ?_)
      rintro e w1 ⟨rfl, rfl⟩
      go_wp2
      go_ret2
      exact ⟨rfl, rfl⟩
    · go_enter Tryz.func39, Tryz.ntmps39
      go_wp2_with fail
      (with_reducible refine RC.out.mono ?_)
      rintro e w1 ⟨rfl, rfl⟩
      go_wp2_with fail
      (with_reducible refine HC.out.mono ?_)
      rintro e w1 ⟨rfl, rfl⟩
      go_wp2_with fail
      (with_reducible refine WC.out.mono ?_)
      rintro e w1 ⟨rfl, rfl⟩
      go_wp2
      go_ret2
      exact ⟨rfl, rfl⟩
set_option maxRecDepth 100000 in
set_option maxHeartbeats 4000000 in
theorem dacq_full {n : Nat} {G : Nat → Prop} (w : World) (bt c r m : Nat) (L : Lk) (h : DRE n G w bt L) (hr : rightM c r = 0) (hm : m = 1 ∨ m = 2) (hi : hI (L.rg r).hs c = none) (hj : wI (L.rg r).ws c = none) (hf : 4 ≤ (L.rg r).ws.length ∨ L.last = topM) :
    Calls Tryz.prog 39 #[.pointer (some ⟨bt, 0, none⟩), .int .i64 (c : Nat), .int .i64 (r : Nat), .int .i64 (m : Nat)] w fun e w' => e = .returned (.tuple #[.int .u64 0, .int .i64 42]) ∧ w = w' := by
  obtain ⟨hv, wv, h⟩ := h
  obtain ⟨_, c1, _, _, cc⟩ := h.cells w (Fr.refl _ _)
  have hr4 : r < 4 := right_r (c := c) (fun q => q hr)
  obtain ⟨cc0, cc1, _, zz1⟩ := cc r hr4
  have RC := Lib.hid (dright_calls w c r)
  rw [hr] at RC
  have hrI : (r : Int) < 4 := by omega
  have HC := Lib.hid (dhold_calls w bt c r L ⟨hv, wv, h⟩ hr4)
  rw [hI_idx, hi] at HC
  dsimp only at HC
  have WC := Lib.hid (dwant_calls w bt c r L ⟨hv, wv, h⟩ hr4)
  rw [wI_idx, hj] at WC
  dsimp only at WC
  have WR := h.wr r hr4
  obtain ⟨aw, cw, ew, _⟩ := WR.form
  rw [ew] at cc1 WR
  have n4 := (h.ok.rg r).w4
  generalize (L.rg r).ws.length = lh at cc1 n4 hf
  generalize L.last = l at c1 hf
  have hff : (4 : Int) ≤ lh ∨ (¬ (4 : Int) ≤ lh ∧ ((l : Int) == 18446744073709551615) = true) := by
    rw [topM_eq] at hf
    by_cases q : 4 ≤ lh
    · exact .inl (by omega)
    · exact .inr ⟨by omega, by simp; omega⟩
  clear h cc WR ew hr hr4 hi hj cc0 zz1 hf
  have hmm : (((m : Int) != 1) = false) ∨ (((m : Int) != 1) = true ∧ ((m : Int) != 2) = false) := by
    rcases hm with q | q
    · exact .inl (by simp; omega)
    · exact .inr ⟨by simp; omega, by simp; omega⟩
  clear hm
  rcases hmm with h1 | ⟨h1, h2⟩
  · rcases hff with f1 | ⟨f1, f2⟩
    · go_enter Tryz.func39, Tryz.ntmps39
      go_wp2_with fail
      (with_reducible refine RC.out.mono ?_)
      rintro e w1 ⟨rfl, rfl⟩
      go_wp2_with fail
      (with_reducible refine HC.out.mono ?_)
      rintro e w1 ⟨rfl, rfl⟩
      go_wp2_with fail
      (with_reducible refine WC.out.mono ?_)
      rintro e w1 ⟨rfl, rfl⟩
      go_wp2
      go_ret2
      exact ⟨rfl, rfl⟩
    · go_enter Tryz.func39, Tryz.ntmps39
      go_wp2_with fail
      (with_reducible refine RC.out.mono ?_)
      rintro e w1 ⟨rfl, rfl⟩
      go_wp2_with fail
      (with_reducible refine HC.out.mono ?_)
      rintro e w1 ⟨rfl, rfl⟩
      go_wp2_with fail
      (with_reducible refine WC.out.mono ?_)
      rintro e w1 ⟨rfl, rfl⟩
      go_wp2
      go_ret2
      exact ⟨rfl, rfl⟩
  · rcases hff with f1 | ⟨f1, f2⟩
    · go_enter Tryz.func39, Tryz.ntmps39
      go_wp2_with fail
      (with_reducible refine RC.out.mono ?_)
      rintro e w1 ⟨rfl, rfl⟩
      go_wp2_with fail
      (with_reducible refine HC.out.mono ?_)
      rintro e w1 ⟨rfl, rfl⟩
      go_wp2_with fail
      (with_reducible refine WC.out.mono ?_)
      rintro e w1 ⟨rfl, rfl⟩
      go_wp2
      go_ret2
      exact ⟨rfl, rfl⟩
    · go_enter Tryz.func39, Tryz.ntmps39
      go_wp2_with fail
      (with_reducible refine RC.out.mono ?_)
      rintro e w1 ⟨rfl, rfl⟩
      go_wp2_with fail
      (with_reducible refine HC.out.mono ?_)
      rintro e w1 ⟨rfl, rfl⟩
      go_wp2_with fail
      (with_reducible refine WC.out.mono ?_)
      rintro e w1 ⟨rfl, rfl⟩
      go_wp2
      go_ret2
      exact ⟨rfl, rfl⟩
end Go.Proofs.YtlolfcnfcgegdaaGreat
