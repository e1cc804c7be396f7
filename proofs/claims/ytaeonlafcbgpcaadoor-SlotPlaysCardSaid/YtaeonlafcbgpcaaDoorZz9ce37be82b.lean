/- Texts of the proofs, part 12: what the functions that they reach do, walked; no conditions beyond those that each states. -/
import Derived.Test.YtaeonlafcbgpcaaDoorZzcca08107a7
set_option linter.unusedVariables false
set_option linter.unusedSimpArgs false
/- Law 5, plainly: SlotSaved, SlotEither, SlotAmid. -/
namespace Go.Proofs.YtaeonlafcbgpcaaDoor
open Go.RowKit
set_option linter.unusedVariables false

theorem opM_good {D : Dk} (h : D.good) {n : Nat} {w : World} {o : OpV} (ho : o.Lies n w) (hq : D.pend.length < 1000000) : (opM D o).good := by
  unfold opM
  split
  · exact h.saveM _ _ hq
  · split
    · exact h.putM _ _ hq
    · split
      · exact h.crash _
      · split
        · exact h.write _ _ hq
        · split
          · exact h.write _ _ hq
          · split
            · exact h.sync
            · split
              · exact h.fuse _ ho.lo ho.hi
              · exact h
theorem write_len (D : Dk) (i : Int) (b : List UInt8) : (D.write i b).2.sure.length = D.sure.length := by
  unfold Dk.write
  split
  · rfl
  · split
    · rfl
    · split <;> rfl
theorem sync_len (D : Dk) : D.sync.sure.length = D.sure.length := by
  unfold Dk.sync
  split
  · rfl
  · exact laySure_length _ _
theorem putM_len (D : Dk) (i : Int) (b : List UInt8) : (putM D i b).2.sure.length = D.sure.length := by
  unfold putM
  split
  · split
    · rfl
    · split
      · rfl
      · rw [write_len, sync_len]
  · rfl
theorem saveM_len (D : Dk) (i : Int) (b : List UInt8) : (saveM D i b).2.sure.length = D.sure.length := by
  unfold saveM
  split
  · show (putM D i b).2.sync.sure.length = _
    rw [sync_len, putM_len]
  · exact putM_len D i b
theorem opM_len (D : Dk) (o : OpV) : (opM D o).sure.length = D.sure.length := by
  unfold opM
  split
  · exact saveM_len _ _ _
  · split
    · exact putM_len _ _ _
    · split
      · exact layTorn_length _ _ _
      · split
        · exact write_len _ _ _
        · split
          · exact write_len _ _ _
          · split
            · exact sync_len _
            · split <;> rfl
/-- Calls that lie in memory. -/
theorem OpsAt.lies {n : Nat} {w : World} {v : Value} {l : List OpV} (h : OpsAt n w v l) (j : Nat) (hj : j < l.length) : l[j].Lies n w := by
  obtain ⟨_, _, _, h⟩ := h
  rcases h with h | ⟨b, off, _, h⟩
  · subst h; simp at hj
  · exact (h j hj).2.2.2.2.2.2.2
theorem madeD_good {n : Nat} {w : World} {v : Value} {l : List OpV} (h : OpsAt n w v l) (hl : l.length ≤ 30) : (madeD l).good ∧ (madeD l).sure.length = 8 ∧ (madeD l).pend.length ≤ 30 := by
  have key : ∀ j, j ≤ l.length → (madeD (l.take j)).good ∧ (madeD (l.take j)).sure.length = 8 := by
    intro j
    induction j with
    | zero => intro _; exact ⟨Dk.new_good 8 (by decide) (by decide), rfl⟩
    | succ j ih =>
      intro hj
      obtain ⟨h1, h2⟩ := ih (by omega)
      rw [madeD_snoc l j hj]
      have := madeD_pend l j (by omega)
      exact ⟨opM_good h1 (h.lies j hj) (by omega), by rw [opM_len]; exact h2⟩
  have h1 := key l.length (Nat.le_refl _)
  have h2 := madeD_pend l l.length (Nat.le_refl _)
  rw [List.take_length] at h1 h2
  exact ⟨h1.1, h1.2, by omega⟩
theorem opM_clean {D : Dk} (h : Cl D) {n : Nat} {w : World} {o : OpV} (ho : o.Lies n w) (hb : badO o = false) : Cl (opM D o) := by
  have hb' : o.q ≠ 4 ∧ o.q ≠ 5 ∧ (o.q ≠ 7 → o.at'.tmod 2 = 0) := by
    unfold badO at hb
    simp at hb
    exact ⟨hb.1, hb.2.1, hb.2.2⟩
  unfold opM
  split
  · exact h.saveM _ _ (hb'.2.2 (by omega))
  · split
    · exact h.putM _ _ (hb'.2.2 (by omega))
    · split
      · exact h.crash _
      · rw [if_neg hb'.1, if_neg hb'.2.1]
        split
        · exact h.sync
        · split
          · exact h.fuse _ ho.lo ho.hi
          · exact h
theorem madeD_clean {n : Nat} {w : World} {v : Value} {l : List OpV} (h : OpsAt n w v l) (hc : cleanL l = true) : Cl (madeD l) := by
  have hall : ∀ j, (hj : j < l.length) → badO l[j] = false := fun j hj => by
    unfold cleanL at hc
    rw [List.all_eq_true] at hc
    have := hc _ (List.getElem_mem hj)
    simpa using this
  have key : ∀ j, j ≤ l.length → Cl (madeD (l.take j)) := by
    intro j
    induction j with
    | zero => intro _; exact Cl.new
    | succ j ih =>
      intro hj
      rw [madeD_snoc l j hj]
      exact opM_clean (ih (by omega)) (h.lies j hj) (hall j hj)
  have h1 := key l.length (Nat.le_refl _)
  rwa [List.take_length] at h1

theorem rec_le {D : Dk} {k z : Nat} {x : Nat × Nat × List UInt8} (hz : z = k ∨ z = k + 1) (h : secRec D z = some x) : x.2.1 ≤ (lastRec D k).2.1 := by
  rw [lastRec_two]
  rcases hz with rfl | rfl
  · rw [h]
    cases secRec D (z + 1) with
    | none =>
      simp only [lastOf, Option.toList_some, Option.toList_none, List.append_nil, List.nil_append, List.foldl_cons, List.foldl_nil]
      split
      · exact Nat.le_refl _
      · show _ ≤ 0; omega
    | some y =>
      simp only [lastOf, Option.toList_some, List.cons_append, List.nil_append, List.foldl_cons, List.foldl_nil]
      by_cases h1 : 0 < x.2.1
      · by_cases h2 : 0 < y.2.1
        · by_cases h3 : x.2.1 < y.2.1
          · by_cases h4 : y.2.1 < x.2.1
            · omega
            · simp [h1, h2, h3, h4]; try omega
          · by_cases h4 : y.2.1 < x.2.1
            · simp [h1, h2, h3, h4]
            · simp [h1, h2, h3, h4]; try omega
        · have h3 : ¬ x.2.1 < y.2.1 := by omega
          simp [h1, h2, h3]
      · omega
  · rw [h]
    cases secRec D k with
    | none =>
      simp only [lastOf, Option.toList_some, Option.toList_none, List.append_nil, List.nil_append, List.foldl_cons, List.foldl_nil]
      split
      · exact Nat.le_refl _
      · show _ ≤ 0; omega
    | some y =>
      simp only [lastOf, Option.toList_some, List.cons_append, List.nil_append, List.foldl_cons, List.foldl_nil]
      by_cases h1 : 0 < x.2.1
      · by_cases h2 : 0 < y.2.1
        · by_cases h3 : x.2.1 < y.2.1
          · by_cases h4 : y.2.1 < x.2.1
            · omega
            · simp [h1, h2, h3, h4]; try omega
          · by_cases h4 : y.2.1 < x.2.1
            · simp [h1, h2, h3, h4]
            · simp [h1, h2, h3, h4]; try omega
        · have h3 : ¬ x.2.1 < y.2.1 := by omega
          simp [h1, h2, h3]
      · omega
theorem last_new {D : Dk} {k y m : Nat} {b : List UInt8} (hy : y = k ∨ y = k + 1) (h1 : secRec D y = some (y, m, b)) (h0 : 0 < m) (h2 : ∀ x, secRec D (2 * k + 1 - y) = some x → x.2.1 < m) : lastRec D k = (y, m, b) := by
  rw [lastRec_two]
  rcases hy with rfl | rfl
  · rw [show 2 * y + 1 - y = y + 1 by omega] at h2
    rw [h1]
    cases h3 : secRec D (y + 1) with
    | none => simp [lastOf, h0]
    | some x =>
      have := h2 x h3
      simp [lastOf, h0]
      omega
  · rw [show 2 * k + 1 - (k + 1) = k by omega] at h2
    rw [h1]
    cases h3 : secRec D k with
    | none => simp [lastOf, h0]
    | some x =>
      have := h2 x h3
      simp only [lastOf, Option.toList_some, List.cons_append, List.nil_append, List.foldl_cons, List.foldl_nil]
      split
      · simp [this]
      · simp [h0]
theorem burn_id {D : Dk} (hd : D.down = false) (hf : D.fuse < 0) : D.burn = D := by
  unfold Dk.burn
  have h1 : D.fuse - min 1 (max 0 D.fuse) = D.fuse := by omega
  have h2 : (D.down || D.fuse == 0) = D.down := by rw [hd]; simp; omega
  rw [h1, h2]
theorem sync_id {D : Dk} (hd : D.down = false) (hf : D.fuse < 0) : D.sync = { D with sure := laySure D.sure D.pend, pend := [] } := by
  unfold Dk.sync
  rw [burn_id hd hf, if_neg (by rw [hd]; decide)]
theorem write_id {D : Dk} (hd : D.down = false) (hf : D.fuse < 0) {y : Nat} {x : List UInt8} (hy : y < D.sure.length) (hx : x.length = 64) : D.write y x = (0, { D with seen := D.seen.set y x, pend := D.pend ++ [(y, x)] }) := by
  unfold Dk.write
  rw [if_neg (by omega), if_neg (by omega), burn_id hd hf, if_neg (by rw [hd]; decide), Int.toNat_natCast]
  unfold Dk.put
  rw [burn_id hd hf, show pad x = x by unfold pad; rw [hx]; simp]

theorem secRec_seen {D E : Dk} {i : Nat} (h : D.seen.getD i [] = E.seen.getD i []) : secRec D i = secRec E i := by unfold secRec; rw [h]
theorem putM_out {D : Dk} {i : Int} (h : D.right i = false) (b : List UInt8) : putM D i b = (40, D) := by unfold putM; rw [h]; rfl
theorem saveM_ne {D E : Dk} {i c : Int} {b : List UInt8} (h : putM D i b = (c, E)) (hc : c ≠ 0) : saveM D i b = (c, E) := by
  unfold saveM; rw [h, if_neg hc]
/-- SlotSaved. -/
theorem saved_law {D : Dk} (hg : D.good) (h8 : D.sure.length = 8) (i : Int) (b : List UInt8) (zs : List Int) :
    ((saveM { D with fuse := -1 } i b).1 ≠ 0 ∧ (D.down = true ∨ i < 0 ∨ 6 < i ∨ 43 < b.length ∨ (loadM D i).2.1 = 4294967295)) ∨
    ((saveM { D with fuse := -1 } i b).1 = 0 ∧ loadM ((saveM { D with fuse := -1 } i b).2.crash zs) i = (b, (loadM D i).2.1 + 1, 0) ∧ (loadM D i).2.1 + 1 < 4294967296) := by
  obtain ⟨D0, h0⟩ : ∃ D0 : Dk, { D with fuse := -1 } = D0 := ⟨_, rfl⟩
  have hr : ∀ j, D0.right j = D.right j := fun j => by rw [← h0]; rfl
  have hlr : ∀ k, lastRec D0 k = lastRec D k := fun k => by rw [← h0]; rfl
  have hs0 : D0.seen = D.seen := by rw [← h0]
  have hu0 : D0.sure = D.sure := by rw [← h0]
  have hp0 : D0.pend = D.pend := by rw [← h0]
  have hd0 : D0.down = D.down := by rw [← h0]
  have hf0 : D0.fuse = -1 := by rw [← h0]
  rw [h0]
  cases hri : D.right i with
  | false =>
    refine .inl ⟨?_, ?_⟩
    · rw [saveM_ne (putM_out (by rw [hr]; exact hri) b) (by decide)]
      exact (by decide : (40 : Int) ≠ 0)
    · unfold Dk.right at hri
      have := of_decide_eq_false hri
      rw [h8] at this
      omega
  | true =>
    obtain ⟨k, rfl, hk⟩ := right_nat hri
    have e1 : putM D0 k b = (if 43 < b.length then (2, D0) else if (lastRec D k).2.1 = 4294967295 then (42, D0) else D0.sync.write (2 * k + 1 - (lastRec D k).1) (stampB ((lastRec D k).2.1 + 1) 0 b)) := by
      unfold putM; rw [hr, hri, if_pos rfl, Int.toNat_natCast, hlr]
    have el : (loadM D k).2.1 = (lastRec D k).2.1 := by
      unfold loadM
      rw [hri, if_pos rfl, Int.toNat_natCast]
      split <;> simp_all
    rw [el]
    have hbd := lastRec_bound D k
    by_cases hb : 43 < b.length
    · refine .inl ⟨?_, .inr (.inr (.inr (.inl hb)))⟩
      rw [if_pos hb] at e1
      rw [saveM_ne e1 (by decide)]
      exact (by decide : (2 : Int) ≠ 0)
    · rw [if_neg hb] at e1
      by_cases hm : (lastRec D k).2.1 = 4294967295
      · refine .inl ⟨?_, .inr (.inr (.inr (.inr hm)))⟩
        rw [if_pos hm] at e1
        rw [saveM_ne e1 (by decide)]
        exact (by decide : (42 : Int) ≠ 0)
      · rw [if_neg hm] at e1
        obtain ⟨y, hy⟩ : ∃ y : Nat, (2 * (k : Int) + 1 - ((lastRec D k).1 : Nat)) = y := ⟨2 * k + 1 - (lastRec D k).1, by omega⟩
        rw [hy] at e1
        have hyk : y = k ∨ y = k + 1 := by omega
        have hother : 2 * k + 1 - y = (lastRec D k).1 := by omega
        obtain ⟨n, hn⟩ : ∃ n, (lastRec D k).2.1 = n := ⟨_, rfl⟩
        rw [hn] at hm hbd e1 ⊢
        have hn1 : n + 1 < 4294967296 := by omega
        cases hdn : D.down with
        | true =>
          refine .inl ⟨?_, .inl rfl⟩
          have hb1 : D0.burn.down = true := by show (D0.down || _) = true; rw [hd0, hdn]; rfl
          have hs1 : D0.sync = D0.burn := by unfold Dk.sync; rw [if_pos hb1]
          have hb2 : D0.burn.burn.down = true := by show (D0.burn.down || _) = true; rw [hb1]; rfl
          have hw : (D0.sync.write y (stampB (n + 1) 0 b)).1 = 43 := by
            unfold Dk.write
            rw [hs1, if_neg (by show ¬ ¬ (0 ≤ (y : Int) ∧ (y : Int) < D0.sure.length); rw [hu0]; omega), if_neg (by rw [stampB_length _ _ _ (by omega)]; omega), if_pos hb2]
          unfold saveM
          rw [e1, if_neg (by rw [hw]; decide), hw]; decide
        | false =>
          have hs1 := sync_id (D := D0) (by rw [hd0]; exact hdn) (by rw [hf0]; decide)
          have hsl : laySure D0.sure D0.pend = D.seen := by rw [hu0, hp0]; exact hg.seen.symm
          rw [hsl] at hs1
          have hslen : D.seen.length = 8 := by rw [hg.ok.len]; exact h8
          have hw := write_id (D := D0.sync) (y := y) (x := stampB (n + 1) 0 b) (by rw [hs1]; show D0.down = false; rw [hd0]; exact hdn) (by rw [hs1]; show D0.fuse < 0; rw [hf0]; decide) (by rw [hs1]; show y < D.seen.length; omega) (stampB_length _ _ _ (by omega))
          rw [hw] at e1
          obtain ⟨Dp, hDp⟩ : ∃ Dp, ({ D0.sync with seen := D0.sync.seen.set y (stampB (n + 1) 0 b), pend := D0.sync.pend ++ [(y, stampB (n + 1) 0 b)] } : Dk) = Dp := ⟨_, rfl⟩
          rw [hDp] at e1
          have p1 : Dp.down = false := by rw [← hDp, hs1]; show D0.down = false; rw [hd0]; exact hdn
          have p2 : Dp.fuse < 0 := by rw [← hDp, hs1]; show D0.fuse < 0; rw [hf0]; decide
          have p3 : Dp.sure = D.seen := by rw [← hDp, hs1]
          have p4 : Dp.pend = [(y, stampB (n + 1) 0 b)] := by rw [← hDp, hs1]; rfl
          have hs2 := sync_id p1 p2
          rw [p3, p4] at hs2
          have p5 : Dp.sync.down = false := by rw [hs2]; exact p1
          have es : saveM D0 k b = (0, Dp.sync) := by
            unfold saveM
            rw [e1, if_pos rfl]
            show (if Dp.sync.down then (43 : Int) else 0, Dp.sync) = _
            rw [p5]; rfl
          refine .inr ⟨by rw [es], ?_, hn1⟩
          rw [es]
          have hseen : (Dp.sync.crash zs).seen = D.seen.set y (stampB (n + 1) 0 b) := by rw [hs2]; rfl
          have hsure : (Dp.sync.crash zs).sure.length = 8 := by
            show (layTorn zs Dp.sync.sure Dp.sync.pend).length = 8
            rw [layTorn_length, hs2]
            show (D.seen.set y _).length = 8
            rw [List.length_set]; exact hslen
          show loadM (Dp.sync.crash zs) (k : Int) = _
          generalize Dp.sync.crash zs = E at hseen hsure
          have hEr : E.right (k : Int) = true := by unfold Dk.right; rw [hsure]; simp; omega
          have hE1 : secRec E y = some (y, n + 1, b) := secRec_stamp (by rw [hseen]; exact getD_set_same (by omega) _) (by omega) hn1 (by omega)
          have hE2 : ∀ x, secRec E (2 * k + 1 - y) = some x → x.2.1 < n + 1 := fun x hx => by
            have e : secRec E (2 * k + 1 - y) = secRec D (2 * k + 1 - y) := secRec_seen (by rw [hseen]; exact getD_set_other (by omega) _)
            rw [e] at hx
            have := rec_le (k := k) (by omega) hx
            omega
          have hEl := last_new hyk hE1 (by omega) hE2
          unfold loadM
          rw [hEr, if_pos rfl, Int.toNat_natCast, hEl]
          simp
theorem load_of {D : Dk} {k n y : Nat} {b : List UInt8} (hl : D.sure.length = 8) (hk : k + 1 < 8) (h : Pl D.seen k n y b) : loadM D k = if n = 0 then ([], 0, 41) else (b, n, 0) :=
  h.load (by unfold Dk.right; rw [hl]; simp; omega)
theorem put_torn {S : List (List UInt8)} (hS : ∀ x ∈ S, x.length = 64) (h8 : S.length = 8) {k n y : Nat} {b b' : List UInt8} (hk : k + 1 < 8) (hp : Pl S k n y b) (hn : n + 1 < 4294967296) (hb : b'.length ≤ 43) (p : Nat) {E : Dk} (hE : E.seen = S.set y (tear p (stampB (n + 1) 0 b') (S.getD y []))) (hEl : E.sure.length = 8) :
    loadM E k = (if n = 0 then ([], 0, 41) else (b, n, 0)) ∨ loadM E k = (b', n + 1, 0) := by
  rcases hp.tear hS (by omega) hn hb p with h | h
  · rw [← hE] at h
    exact .inl (load_of hEl hk h)
  · have h1 := hp.step (b' := b') (by omega) hn hb
    rw [h] at hE
    rw [← hE] at h1
    refine .inr ?_
    rw [load_of hEl hk h1, if_neg (by omega)]
theorem load_out {D : Dk} {i : Int} (h : D.right i = false) : loadM D i = ([], 0, 40) := by unfold loadM; rw [h]; rfl
theorem even_nat {k : Nat} (h : (k : Int).tmod 2 = 0) : k % 2 = 0 := by
  rw [Int.tmod_eq_emod_of_nonneg (by omega)] at h; omega

/-- SlotEither. -/
theorem either_law {D : Dk} (h : Cl D) (i : Int) (hi : i.tmod 2 = 0) (b : List UInt8) (zs : List Int) (hp : (putM D i b).1 = 0) :
    (loadM ((putM D i b).2.crash zs) i = loadM D i ∨ loadM ((putM D i b).2.crash zs) i = (b, (loadM D i).2.1 + 1, 0)) ∧ (loadM D i).2.1 + 1 < 4294967296 := by
  cases hri : D.right i with
  | false =>
    exfalso
    rw [putM_out hri] at hp
    exact absurd (show (40 : Int) = 0 from hp) (by decide)
  | true =>
    obtain ⟨k, rfl, hk⟩ := right_nat hri
    rw [h.len] at hk
    have he := even_nat hi
    obtain ⟨n, y, b0, pl⟩ := h.seen k he hk
    have hslen : D.seen.length = 8 := by rw [h.good.ok.len]; exact h.len
    have ld := load_of h.len hk pl
    rw [putM_pl h hk pl] at hp ⊢
    have hlt := pl.lt
    by_cases hb : 43 < b.length
    · rw [if_pos hb] at hp; exact absurd (show (2 : Int) = 0 from hp) (by decide)
    · by_cases hm : n = 4294967295
      · rw [if_neg hb, if_pos hm] at hp; exact absurd (show (42 : Int) = 0 from hp) (by decide)
      · rw [if_neg hb, if_neg hm] at hp ⊢
        rcases h.put he hk pl b (by omega) (by omega) with ⟨_, e⟩ | ⟨_, _, e, e1, e2, e3⟩
        · rw [e] at hp; exact absurd (show (43 : Int) = 0 from hp) (by decide)
        · rw [e, ld]
          have hE : ((D.sync.put y (stampB (n + 1) 0 b)).crash zs).seen = D.seen.set y (tear (pickAt zs 0) (stampB (n + 1) 0 b) (D.seen.getD y [])) := by
            show layTorn zs D.sync.sure (D.sync.pend ++ _) = _
            rw [e1, e3]; rfl
          have hEl : ((D.sync.put y (stampB (n + 1) 0 b)).crash zs).sure.length = 8 := by
            show (layTorn zs D.sync.sure _).length = 8
            rw [layTorn_length, e1]; exact hslen
          refine ⟨?_, ?_⟩
          · rcases put_torn h.good.ok.s64 hslen hk pl (by omega) (by omega) _ hE hEl with h1 | h1
            · exact .inl h1
            · refine .inr ?_
              show loadM ((D.sync.put y (stampB (n + 1) 0 b)).crash zs) (k : Int) = _
              rw [h1]
              split <;> simp_all
          · split <;> simp_all
            omega
theorem crash_crash (D : Dk) (zs zs' : List Int) : (D.crash zs).crash zs' = D.crash zs := rfl
theorem load_crash_nil {D : Dk} (hg : D.good) (hp : D.pend = []) (zs : List Int) (i : Int) : loadM (D.crash zs) i = loadM D i := by
  have e1 : (D.crash zs).seen = D.seen := by
    show layTorn zs D.sure D.pend = _
    rw [hg.seen, hp]; rfl
  have e2 : (D.crash zs).sure.length = D.sure.length := layTorn_length _ _ _
  have e3 : (D.crash zs).right i = D.right i := by unfold Dk.right; rw [e2]
  have e4 : ∀ k, lastRec (D.crash zs) k = lastRec D k := fun k => by
    rw [lastRec_two, lastRec_two, secRec_seen (D := D.crash zs) (E := D) (by rw [e1]), secRec_seen (D := D.crash zs) (E := D) (by rw [e1])]
  unfold loadM
  rw [e3, e4]
/-- SlotAmid: of a disk on which nothing is pending. -/
theorem amid_law {D : Dk} (h : Cl D) (hnp : D.pend = []) (i : Int) (hi : i.tmod 2 = 0) (b : List UInt8) (zs : List Int) :
    ((saveM D i b).1 ≠ 0 ∧ loadM ((saveM D i b).2.crash zs) i = loadM D i) ∨ (loadM ((saveM D i b).2.crash zs) i = (b, (loadM D i).2.1 + 1, 0) ∧ (loadM D i).2.1 + 1 < 4294967296) := by
  cases hri : D.right i with
  | false =>
    have e : saveM D i b = (40, D) := saveM_ne (putM_out hri b) (by decide)
    rw [e]
    exact .inl ⟨(by decide : (40 : Int) ≠ 0), load_crash_nil h.good hnp zs i⟩
  | true =>
    obtain ⟨k, rfl, hk⟩ := right_nat hri
    rw [h.len] at hk
    have he := even_nat hi
    obtain ⟨n, y, b0, pl⟩ := h.seen k he hk
    have hslen : D.seen.length = 8 := by rw [h.good.ok.len]; exact h.len
    have ld := load_of h.len hk pl
    have hlt := pl.lt
    have ep := putM_pl h hk pl b
    by_cases hb : 43 < b.length
    · rw [if_pos hb] at ep
      have e : saveM D k b = (2, D) := saveM_ne ep (by decide)
      rw [e]
      exact .inl ⟨(by decide : (2 : Int) ≠ 0), load_crash_nil h.good hnp zs k⟩
    · by_cases hm : n = 4294967295
      · rw [if_neg hb, if_pos hm] at ep
        have e : saveM D k b = (42, D) := saveM_ne ep (by decide)
        rw [e]
        exact .inl ⟨(by decide : (42 : Int) ≠ 0), load_crash_nil h.good hnp zs k⟩
      · rw [if_neg hb, if_neg hm] at ep
        rcases h.put he hk pl b (by omega) (by omega) with ⟨_, e⟩ | ⟨_, _, e, e1, e2, e3⟩
        · rw [e] at ep
          have e' : saveM D k b = (43, D.sync.burn) := saveM_ne ep (by decide)
          rw [e']
          refine .inl ⟨(by decide : (43 : Int) ≠ 0), ?_⟩
          have hpn : D.sync.burn.pend = [] := by
            show D.sync.pend = []
            have := pend_sync D
            rw [hnp] at this
            exact List.length_eq_zero_iff.1 (by simpa using this)
          rw [load_crash_nil h.sync.burn.good hpn]
          have es : D.sync.burn.seen = D.seen := by
            show D.sync.seen = _
            unfold Dk.sync; split <;> rfl
          have hE : Pl D.sync.burn.seen k n y b0 := by rw [es]; exact pl
          rw [load_of h.sync.burn.len hk hE, ld]
        · rw [e] at ep
          have hpY : (D.sync.put y (stampB (n + 1) 0 b)).sure = D.seen := e1
          have hpP : (D.sync.put y (stampB (n + 1) 0 b)).pend = [(y, stampB (n + 1) 0 b)] := by show D.sync.pend ++ _ = _; rw [e3]; rfl
          generalize D.sync.put y (stampB (n + 1) 0 b) = Dp at hpY hpP ep
          have hEl : ∀ s, (Dp.sync.crash s).sure.length = 8 := fun s => by
            show (layTorn s _ _).length = 8
            rw [layTorn_length, sync_len, hpY]; exact hslen
          rw [ld]
          cases hd : Dp.burn.down with
          | true =>
            have hs : Dp.sync = Dp.burn := by unfold Dk.sync; rw [if_pos hd]
            have e' : saveM D k b = (43, Dp.sync) := by
              unfold saveM
              rw [ep, if_pos rfl]
              show (if Dp.sync.down then (43 : Int) else 0, Dp.sync) = _
              rw [show Dp.sync.down = true by rw [hs]; exact hd]; rfl
            rw [e']
            have hE : (Dp.sync.crash zs).seen = D.seen.set y (tear (pickAt zs 0) (stampB (n + 1) 0 b) (D.seen.getD y [])) := by
              rw [hs]
              show layTorn zs Dp.sure Dp.pend = _
              rw [hpY, hpP]; rfl
            rcases put_torn h.good.ok.s64 hslen hk pl (by omega) (by omega) _ hE (hEl zs) with h1 | h1
            · exact .inl ⟨(by decide : (43 : Int) ≠ 0), h1⟩
            · refine .inr ⟨?_, ?_⟩
              · show loadM (Dp.sync.crash zs) (k : Int) = _
                rw [h1]
                split <;> simp_all
              · split <;> simp_all
                omega
          | false =>
            have hs : Dp.sync = { Dp.burn with sure := laySure Dp.sure Dp.pend, pend := [] } := by unfold Dk.sync; rw [if_neg (by rw [hd]; decide)]
            have e' : saveM D k b = (0, Dp.sync) := by
              unfold saveM
              rw [ep, if_pos rfl]
              show (if Dp.sync.down then (43 : Int) else 0, Dp.sync) = _
              rw [show Dp.sync.down = false by rw [hs]; exact hd]; rfl
            rw [e']
            have hE : (Dp.sync.crash zs).seen = D.seen.set y (stampB (n + 1) 0 b) := by
              rw [hs]
              show laySure Dp.sure Dp.pend = _
              rw [hpY, hpP]; rfl
            have h1 := pl.step (b' := b) (by omega) (by omega) (by omega)
            rw [← hE] at h1
            have h2 := load_of (hEl zs) hk h1
            rw [if_neg (by omega)] at h2
            refine .inr ⟨?_, ?_⟩
            · show loadM (Dp.sync.crash zs) (k : Int) = _
              rw [h2]
              split <;> simp_all
            · split <;> simp_all
              omega
end Go.Proofs.YtaeonlafcbgpcaaDoor
/- Law 5: SlotSaved, walked. -/
namespace Go.Proofs.YtaeonlafcbgpcaaDoor
open Go.RowKit
set_option linter.unusedVariables false

theorem IntsAt.mono {K K' : Nat → Obj → Prop} {w : World} {v : Value} {zs : List Int} (h : IntsAt K w v zs) (hk : ∀ c o, K c o → K' c o) : IntsAt K' w v zs := by
  obtain ⟨a, cap, hv, h⟩ := h
  refine ⟨a, cap, hv, ?_⟩
  rcases h with h | ⟨b, off, o, h1, h2, h3, h4⟩
  · exact .inl h
  · exact .inr ⟨b, off, o, h1, h2, hk _ _ h3, h4⟩
theorem OpV.Lies.mono {n m : Nat} {w : World} {o : OpV} (h : o.Lies n w) (hm : n ≤ m) : o.Lies m w := { h with hb := h.hb.mono fun c _ _ h => by omega, hp := h.hp.mono fun c _ h => by omega }
theorem load_len {D : Dk} {i : Int} {b : List UInt8} {n : Nat} {c : Int} (h : loadM D i = (b, n, c)) : b.length ≤ 43 := by
  unfold loadM at h
  split at h
  · split at h
    · cases h; decide
    · cases h; exact (lastRec_bound D _).2.1
  · cases h; decide
theorem OpsAt.mono {n m : Nat} {w : World} {v : Value} {l : List OpV} (h : OpsAt n w v l) (hm : n ≤ m) : OpsAt m w v l := by
  obtain ⟨a, cap, hv, h⟩ := h
  refine ⟨a, cap, hv, ?_⟩
  rcases h with h | ⟨b, off, ha, h⟩
  · exact .inl h
  · refine .inr ⟨b, off, ha, fun i hi => ?_⟩
    obtain ⟨h0, h1, h2, h3, h4, h5, hb, h6⟩ := h i hi
    exact ⟨h0, h1, h2, h3, h4, h5, by omega, h6.mono hm⟩
theorem OpsAt.len {n : Nat} {w : World} {a : Option Addr} {len cap : Nat} {l : List OpV} (h : OpsAt n w (.slice a len cap) l) : len = l.length := by
  obtain ⟨_, _, e, _⟩ := h; cases e; rfl
set_option maxRecDepth 100000 in
theorem saved_long (W : World) (a0 : Option Addr) (len0 cap0 : Nat) (i : Int) (v2 v3 : Value) (ht : TabOK W) (hl : 30 < len0) :
    Calls Tryd.prog 6 #[.slice a0 len0 cap0, .int .i64 i, v2, v3] W fun e w' => e = .returned (.bool true) ∧ Fr (fun _ _ => True) W w' := by
  have AW := Lib.hid (awake_calls W ht)
  clear ht
  go_enter Tryd.func6, Tryd.ntmps6
  go_wp2_with fail
  (with_reducible refine AW.out.mono ?_)
  rintro e w1 ⟨rfl, f1⟩
  have F1 := Lib.hid f1
  clear f1
  go_wp2_with fail
  (with_reducible refine (made_long w1 a0 len0 cap0 hl).mono ?_)
  rintro e w2 ⟨rfl, f2⟩
  have F2 := Lib.hid (F1.out.trans f2)
  clear f2
  go_wp2
  go_ret
  exact ⟨rfl, F2.out⟩

set_option maxRecDepth 100000 in
set_option maxHeartbeats 2000000 in
theorem saved_main (W : World) (a0 : Option Addr) (len0 cap0 : Nat) (i : Int) (a2 : Option Addr) (len2 cap2 : Nat) (a3 : Option Addr) (len3 cap3 : Nat) (l : List OpV) (b : List UInt8) (zs : List Int) (ho : OpsAt W.heap.size W (.slice a0 len0 cap0) l) (hb : BytesAt (fun c _ => c < W.heap.size) W (.slice a2 len2 cap2) b) (hbm : b.length ≤ maxLen) (hz : IntsAt (fun c _ => c < W.heap.size) W (.slice a3 len3 cap3) zs) (ht : TabOK W) (hl : len0 ≤ 30) :
    Calls Tryd.prog 6 #[.slice a0 len0 cap0, .int .i64 i, .slice a2 len2 cap2, .slice a3 len3 cap3] W fun e w' => e = .returned (.bool true) ∧ Fr (fun _ _ => True) W w' := by
  have hln := ho.len
  obtain ⟨hgood, h8, hpd⟩ := madeD_good ho (by omega)
  have law := saved_law hgood h8 i b zs
  obtain ⟨D, hD⟩ : ∃ D, madeD l = D := ⟨_, rfl⟩
  rw [hD] at hgood h8 hpd law
  obtain ⟨ob, n, oc, hld⟩ : ∃ ob n oc, loadM D i = (ob, n, oc) := ⟨_, _, _, rfl⟩
  rw [hld] at law
  obtain ⟨c, E, hsv⟩ : ∃ c E, saveM { D with fuse := -1 } i b = (c, E) := ⟨_, _, rfl⟩
  rw [hsv] at law
  have AW := Lib.hid (awake_calls W ht)
  have HO := Lib.hid ho
  have HB := Lib.hid hb
  have HZ := Lib.hid hz
  have HT := Lib.hid ht
  have LAW := Lib.hid law
  have HD := Lib.hid hD
  have HLD := Lib.hid hld
  have HSV := Lib.hid hsv
  have HPD : Hid (({ D with fuse := -1 } : Dk).pend.length < 1000000) := by show D.pend.length < 1000000; omega
  have h0 : 0 < W.heap.size := by have := cell_lt (ht 0 (by decide)); simpa using this
  have HBL := Lib.hid hb.len
  clear ht ho hb hz law hD hld hsv hgood h8 hpd hln
  go_enter Tryd.func6, Tryd.ntmps6
  go_wp2_with fail
  (with_reducible refine AW.out.mono ?_)
  rintro e w1 ⟨rfl, f1⟩
  have F1 := Lib.hid f1
  have s1 : W.heap.size ≤ w1.heap.size := f1.size
  have TT : Hid (∀ W', Fr (fun c _ => c < w1.heap.size) w1 W' → TabOK W') := fun W' h j hj => h.cell (fun _ _ => Nat.lt_of_lt_of_le h0 s1) (f1.cell (fun _ _ => trivial) (HT.out j hj))
  have BB : Hid (∀ W', Fr (fun c _ => c < w1.heap.size) w1 W' → BytesAt (fun c _ => c < w1.heap.size) W' (.slice a2 len2 cap2) b) := fun W' h => ((HB.out.tt f1).mono fun c _ _ h => by omega).fr h
  have ZZ : Hid (∀ W', Fr (fun c _ => c < w1.heap.size) w1 W' → IntsAt (fun c _ => c < w1.heap.size) W' (.slice a3 len3 cap3) zs) := fun W' h => ((HZ.out.fr f1 fun _ _ _ => trivial).mono fun c _ h => by omega).fr h fun _ _ h => h
  have MC := Lib.hid (made_some w1 a0 len0 cap0 l ((HO.out.fr (f1.mono fun _ _ _ => trivial)).mono s1) (TT.out _ (Fr.refl _ _)) hl)
  clear f1 AW HB HZ HT HO
  go_wp2_with fail
  (with_reducible refine MC.out.mono ?_)
  rintro e w2 ⟨⟨bd, rfl, d2⟩, f2⟩
  rw [HD.out] at d2
  have D2 := Lib.hid d2.inside
  have F2 : Hid (Fr (fun c _ => c < w1.heap.size) w1 w2) := f2.mono fun _ _ _ => trivial
  have s2 : w1.heap.size ≤ w2.heap.size := f2.size
  clear d2 f2 MC
  go_wp2_with fail
  (with_reducible refine (load_calls w2 bd _ D i D2.out (TT.out _ F2.out) _ _ _ HLD.out).mono ?_)
  rintro e w3 ⟨⟨a3', c3', rfl, b3⟩, f3⟩
  have D3 := Lib.hid (D2.out.tt f3)
  have F3 := Lib.hid (F2.out.tt f3)
  have s3 : w2.heap.size ≤ w3.heap.size := f3.size
  clear b3 f3 D2
  go_wp2_with fail
  (with_reducible refine (down_calls w3 bd _ D D3.out).mono ?_)
  rintro e w3' ⟨rfl, rfl⟩
  go_wp2_with fail
  (with_reducible refine (fuse_calls w3 bd _ D (-1) D3.out (by decide) (by decide)).mono ?_)
  rintro e w4 ⟨rfl, d4, f4⟩
  have D4 := Lib.hid d4
  have hbd : Hid (w1.heap.size ≤ bd ∧ bd < w2.heap.size) := d4.fb
  have F4 : Hid (Fr (fun c _ => c < w1.heap.size) w1 w4) := F3.out.trans (f4.mono fun c _ h e => by have := hbd.out.1; omega)
  have SC := save_calls w4 bd _ _ i _ b d4 (BB.out _ F4.out) (TT.out _ F4.out) HPD.out
  have s4 : w3.heap.size ≤ w4.heap.size := f4.size
  rw [HSV.out] at SC
  have SC := Lib.hid SC
  clear d4 f4 D3
  go_wp2_with fail
  (with_reducible refine SC.out.mono ?_)
  rintro e w5 ⟨rfl, d5, f5⟩
  have D5 : Hid (Dsk w5 bd _ E) := d5.inside
  have F5 : Hid (Fr (fun c _ => c < w1.heap.size) w1 w5) := F4.out.trans (f5.mono fun c _ h e => by omega)
  have s5 : w4.heap.size ≤ w5.heap.size := f5.size
  clear d5 f5 D4 SC
  rcases LAW.out with ⟨hc, hw⟩ | ⟨hc, hw, hw2⟩
  · replace hc : (c != 0) = true := by simpa using hc
    replace hw : D.down = true ∨ i < 0 ∨ 6 < i ∨ 43 < b.length ∨ n = 4294967295 := hw
    have HW := Lib.hid hw
    have OUT : Hid (Fr (fun _ _ => True) W w5) := F1.out.trans (Fr.within (F5.out.mono fun _ _ h => h.2))
    clear hw
    cases hdn : D.down with
    | true =>
      clear hdn
      go_wp2
      go_ret
      exact ⟨rfl, OUT.out⟩
    | false =>
      have hw : i < 0 ∨ 6 < i ∨ 43 < b.length ∨ n = 4294967295 := by
        rcases HW.out with h | h
        · rw [hdn] at h; cases h
        · exact h
      have HW := Lib.hid hw
      clear hdn hw
      by_cases q1 : i < 0
      · have q1' : decide (i < 0) = true := by simpa using q1
        go_wp2
        go_ret
        exact ⟨rfl, OUT.out⟩
      · have q1' : decide (i < 0) = false := by simpa using q1
        by_cases q2 : 6 < i
        · have q2' : decide (6 < i) = true := by simpa using q2
          go_wp2
          go_ret
          exact ⟨rfl, OUT.out⟩
        · have q2' : decide (6 < i) = false := by simpa using q2
          by_cases q3 : 43 < len2
          · have q3' : (43 : Int) < len2 := by omega
            go_wp2
            go_ret
            exact ⟨rfl, OUT.out⟩
          · have q3' : ¬ (43 : Int) < len2 := by omega
            have q4 : (((n : Nat) : Int) == 4294967295) = true := by
              have := HW.out
              have := HBL.out
              simp
              omega
            go_wp2
            go_ret
            exact ⟨rfl, OUT.out⟩
  · replace hc : c = 0 := hc
    subst hc
    replace hw : loadM (E.crash zs) i = (b, n + 1, 0) := hw
    replace hw2 : n + 1 < 4294967296 := hw2
    have HW := Lib.hid hw
    have hn : (n : Int) + 1 < 4294967296 := by omega
    clear hw LAW
    go_wp2_with fail
    (with_reducible refine (crash_main w5 bd _ E a3 len3 cap3 zs D5.out (ZZ.out _ F5.out) (fun c _ h h2 => by omega)).mono ?_)
    rintro e w6 ⟨rfl, d6, f6⟩
    have D6 := Lib.hid d6
    have F6 : Hid (Fr (fun c _ => c < w1.heap.size) w1 w6) := F5.out.trans (f6.mono fun c _ h e => by omega)
    clear d6 f6 D5
    go_wp2_with fail
    (with_reducible refine (load_calls w6 bd _ _ i D6.out (TT.out _ F6.out) _ _ _ HW.out).mono ?_)
    rintro e w7 ⟨⟨a7, c7, rfl, b7⟩, f7⟩
    have B7 := Lib.hid b7
    have F7 := Lib.hid (F6.out.tt f7)
    clear b7 f7 D6
    have SM := same_calls w7 (.slice a2 len2 cap2) (.slice a7 b.length c7) b b (BB.out _ F7.out) B7.out (by have := load_len HW.out; omega)
    rw [decide_eq_true rfl] at SM
    have SM := Lib.hid SM
    have cst : (((n + 1 : Nat) : Int)) = (n : Int) + 1 := by omega
    go_wp2_with fail
    (with_reducible refine SM.out.mono ?_)
    rintro e w8 ⟨rfl, k8, hw8⟩
    have F8 : Hid (Fr (fun c _ => c < w1.heap.size) w1 w8) := by rw [hw8]; exact F7.out.drewN k8
    clear hw8
    go_wp2
    go_ret
    exact ⟨rfl, F1.out.trans (Fr.within (F8.out.mono fun _ _ h => h.2))⟩

theorem saved_walk (W : World) (a0 : Option Addr) (len0 cap0 : Nat) (i : Int) (a2 : Option Addr) (len2 cap2 : Nat) (a3 : Option Addr) (len3 cap3 : Nat) (r0 : Rd Tryd.prog W 36 [.slice a0 len0 cap0]) (r2 : Rd Tryd.prog W 23 [.slice a2 len2 cap2]) (r3 : Rd Tryd.prog W 37 [.slice a3 len3 cap3]) (ht : TabOK W) :
    Calls Tryd.prog 6 #[.slice a0 len0 cap0, .int .i64 i, .slice a2 len2 cap2, .slice a3 len3 cap3] W fun e w' => e = .returned (.bool true) ∧ Below W.heap.size W w' := by
  obtain ⟨l, ho, hlm⟩ := ops_of r0
  obtain ⟨b, hb, hbm⟩ := r2.bs
  obtain ⟨zs, hz, _⟩ := r3.is
  by_cases hl : 30 < len0
  · exact (saved_long W a0 len0 cap0 i _ _ ht hl).mono fun e w' ⟨he, hf⟩ => ⟨he, hf.bel⟩
  · exact (saved_main W a0 len0 cap0 i a2 len2 cap2 a3 len3 cap3 l b zs ho hb hbm hz ht (by omega)).mono fun e w' ⟨he, hf⟩ => ⟨he, hf.bel⟩
end Go.Proofs.YtaeonlafcbgpcaaDoor
/- Law 5: SlotEither, walked. -/
namespace Go.Proofs.YtaeonlafcbgpcaaDoor
open Go.RowKit
set_option linter.unusedVariables false

set_option maxRecDepth 100000 in
set_option maxHeartbeats 1000000 in
theorem either_skip (W : World) (a0 : Option Addr) (len0 cap0 : Nat) (i : Int) (v2 v3 : Value) (l : List OpV) (ho : OpsAt W.heap.size W (.slice a0 len0 cap0) l) (hlm : len0 ≤ 9223372036854775807) (ht : TabOK W) (h : 30 < len0 ∨ cleanL l = false ∨ ¬ i.tmod 2 = 0) :
    Calls Tryd.prog 5 #[.slice a0 len0 cap0, .int .i64 i, v2, v3] W fun e w' => e = .returned (.bool true) ∧ Fr (fun _ _ => True) W w' := by
  have AW := Lib.hid (awake_calls W ht)
  have HO := Lib.hid ho
  have HT := Lib.hid ht
  have HH := Lib.hid h
  have h0 : 0 < W.heap.size := by have := cell_lt (ht 0 (by decide)); simpa using this
  clear ht ho h
  go_enter Tryd.func5, Tryd.ntmps5
  go_wp2_with fail
  (with_reducible refine AW.out.mono ?_)
  rintro e w1 ⟨rfl, f1⟩
  have F1 := Lib.hid f1
  have s1 : W.heap.size ≤ w1.heap.size := f1.size
  have HO1 := Lib.hid ((HO.out.fr (f1.mono fun _ _ _ => trivial)).mono s1)
  have T1 := Lib.hid (HT.out.tt f1)
  clear f1 AW HO HT
  by_cases hl : 30 < len0
  · go_wp2_with fail
    (with_reducible refine (made_long w1 a0 len0 cap0 hl).mono ?_)
    rintro e w2 ⟨rfl, f2⟩
    have F2 := Lib.hid (F1.out.trans f2)
    have HO2 := Lib.hid (HO1.out.fr (f2.mono fun _ _ _ => trivial))
    clear f2
    go_wp2_with fail
    (with_reducible refine (clean_calls _ w2 a0 len0 cap0 l HO2.out hlm).mono ?_)
    rintro e w3 ⟨rfl, rfl⟩
    go_wp2
    go_ret
    exact ⟨rfl, F2.out⟩
  · go_wp2_with fail
    (with_reducible refine (made_some w1 a0 len0 cap0 l HO1.out T1.out (by omega)).mono ?_)
    rintro e w2 ⟨⟨bd, rfl, d2⟩, f2⟩
    have F2 := Lib.hid (F1.out.trans f2)
    have HO2 := Lib.hid (HO1.out.fr (f2.mono fun _ _ _ => trivial))
    clear f2 d2
    go_wp2_with fail
    (with_reducible refine (clean_calls _ w2 a0 len0 cap0 l HO2.out hlm).mono ?_)
    rintro e w3 ⟨rfl, rfl⟩
    cases hc : cleanL l with
    | false =>
      clear hc
      go_wp2
      go_ret
      exact ⟨rfl, F2.out⟩
    | true =>
      have hm : (i.tmod 2 != 0) = true := by
        rcases HH.out with h | h | h
        · omega
        · rw [hc] at h; cases h
        · simpa using h
      clear hc
      go_wp2
      go_ret
      exact ⟨rfl, F2.out⟩

set_option maxRecDepth 100000 in
set_option maxHeartbeats 4000000 in
theorem either_main (W : World) (a0 : Option Addr) (len0 cap0 : Nat) (i : Int) (a2 : Option Addr) (len2 cap2 : Nat) (a3 : Option Addr) (len3 cap3 : Nat) (l : List OpV) (b : List UInt8) (zs : List Int) (ho : OpsAt W.heap.size W (.slice a0 len0 cap0) l) (hlm : len0 ≤ 9223372036854775807) (hb : BytesAt (fun c _ => c < W.heap.size) W (.slice a2 len2 cap2) b) (hz : IntsAt (fun c _ => c < W.heap.size) W (.slice a3 len3 cap3) zs) (ht : TabOK W) (hl : len0 ≤ 30) (hcl : cleanL l = true) (hi : i.tmod 2 = 0) :
    Calls Tryd.prog 5 #[.slice a0 len0 cap0, .int .i64 i, .slice a2 len2 cap2, .slice a3 len3 cap3] W fun e w' => e = .returned (.bool true) ∧ Fr (fun _ _ => True) W w' := by
  have hln := ho.len
  obtain ⟨_, _, hpd⟩ := madeD_good ho (by omega)
  have hC := madeD_clean ho hcl
  have law := either_law hC i hi b zs
  obtain ⟨D, hD⟩ : ∃ D, madeD l = D := ⟨_, rfl⟩
  rw [hD] at hC hpd law
  obtain ⟨ob, n, oc, hld⟩ : ∃ ob n oc, loadM D i = (ob, n, oc) := ⟨_, _, _, rfl⟩
  rw [hld] at law
  obtain ⟨c, E, hpt⟩ : ∃ c E, putM D i b = (c, E) := ⟨_, _, rfl⟩
  rw [hpt] at law
  obtain ⟨nb, m, g, hnw⟩ : ∃ nb m g, loadM (E.crash zs) i = (nb, m, g) := ⟨_, _, _, rfl⟩
  have law : c = 0 → (((nb, m, g) = (ob, n, oc) ∨ (nb, m, g) = (b, n + 1, 0)) ∧ n + 1 < 4294967296) := fun hc => by
    have := law hc
    rw [show ((c, E) : Int × Dk).2.crash zs = E.crash zs from rfl, hnw] at this
    exact this
  have hnw2 : loadM ((E.crash zs).crash zs) i = (nb, m, g) := by rw [crash_crash]; exact hnw
  have AW := Lib.hid (awake_calls W ht)
  have HO := Lib.hid ho
  have HB := Lib.hid hb
  have HZ := Lib.hid hz
  have HT := Lib.hid ht
  have LAW := Lib.hid law
  have HD := Lib.hid hD
  have HLD := Lib.hid hld
  have HPT := Lib.hid hpt
  have HNW := Lib.hid hnw
  have HNW2 := Lib.hid hnw2
  have HPD : Hid (D.pend.length < 1000000) := by show D.pend.length < 1000000; omega
  have h0 : 0 < W.heap.size := by have := cell_lt (ht 0 (by decide)); simpa using this
  have hm2 : (i.tmod 2 != 0) = false := by simpa using hi
  have HCL := Lib.hid hcl
  rename_i _ _ lawold
  clear ht ho hb hz law lawold hD hld hpt hnw hnw2 hpd hln hC hi hcl
  go_enter Tryd.func5, Tryd.ntmps5
  go_wp2_with fail
  (with_reducible refine AW.out.mono ?_)
  rintro e w1 ⟨rfl, f1⟩
  have F1 := Lib.hid f1
  have s1 : W.heap.size ≤ w1.heap.size := f1.size
  have TT : Hid (∀ W', Fr (fun c _ => c < w1.heap.size) w1 W' → TabOK W') := fun W' h j hj => h.cell (fun _ _ => Nat.lt_of_lt_of_le h0 s1) (f1.cell (fun _ _ => trivial) (HT.out j hj))
  have BB : Hid (∀ W', Fr (fun c _ => c < w1.heap.size) w1 W' → BytesAt (fun c _ => c < w1.heap.size) W' (.slice a2 len2 cap2) b) := fun W' h => ((HB.out.tt f1).mono fun c _ _ h => by omega).fr h
  have ZZ : Hid (∀ W', Fr (fun c _ => c < w1.heap.size) w1 W' → IntsAt (fun c _ => c < w1.heap.size) W' (.slice a3 len3 cap3) zs) := fun W' h => ((HZ.out.fr f1 fun _ _ _ => trivial).mono fun c _ h => by omega).fr h fun _ _ h => h
  have HO1 := Lib.hid ((HO.out.fr (f1.mono fun _ _ _ => trivial)).mono s1)
  clear f1 AW HB HZ HT HO
  go_wp2_with fail
  (with_reducible refine (made_some w1 a0 len0 cap0 l HO1.out (TT.out _ (Fr.refl _ _)) hl).mono ?_)
  rintro e w2 ⟨⟨bd, rfl, d2⟩, f2⟩
  rw [HD.out] at d2
  have D2 := Lib.hid d2.inside
  have F2 : Hid (Fr (fun c _ => c < w1.heap.size) w1 w2) := f2.mono fun _ _ _ => trivial
  have s2 : w1.heap.size ≤ w2.heap.size := f2.size
  have HO2 := Lib.hid (HO1.out.fr (f2.mono fun _ _ _ => trivial))
  have CC := clean_calls _ w2 a0 len0 cap0 l HO2.out hlm
  rw [HCL.out] at CC
  have CC := Lib.hid CC
  clear d2 f2 HO1
  go_wp2_with fail
  (with_reducible refine CC.out.mono ?_)
  rintro e w2' ⟨rfl, rfl⟩
  clear CC HO2
  go_wp2_with fail
  (with_reducible refine (load_calls w2 bd _ D i D2.out (TT.out _ F2.out) _ _ _ HLD.out).mono ?_)
  rintro e w3 ⟨⟨a3', c3', rfl, b3⟩, f3⟩
  have D3 := Lib.hid (D2.out.tt f3)
  have F3 := Lib.hid (F2.out.tt f3)
  have s3 : w2.heap.size ≤ w3.heap.size := f3.size
  have B3 := Lib.hid (b3.mono (K' := fun c _ => w2.heap.size ≤ c ∧ c < w3.heap.size) fun c o ho h => ⟨h.1, lt_of_some ho⟩)
  have PC := put_calls w3 bd _ _ i _ b D3.out (BB.out _ F3.out) (TT.out _ F3.out) HPD.out
  rw [HPT.out] at PC
  have PC := Lib.hid PC
  clear b3 f3 D2
  go_wp2_with fail
  (with_reducible refine PC.out.mono ?_)
  rintro e w4 ⟨rfl, d4, f4⟩
  have D4 : Hid (Dsk w4 bd _ E) := d4.inside
  have F4 : Hid (Fr (fun c _ => c < w1.heap.size) w1 w4) := F3.out.trans (f4.mono fun c _ h e => by omega)
  have s4 : w3.heap.size ≤ w4.heap.size := f4.size
  have B4 := Lib.hid (B3.out.fr (f4.mono fun c _ h e => by omega))
  clear d4 f4 D3 PC B3
  by_cases hc : c = 0
  · have law := LAW.out hc
    subst hc
    have LW := Lib.hid law.1
    have hn : (n : Int) + 1 < 4294967296 := by have := law.2; omega
    clear law LAW
    go_wp2_with fail
    (with_reducible refine (crash_main w4 bd _ E a3 len3 cap3 zs D4.out (ZZ.out _ F4.out) (fun c _ h h2 => by omega)).mono ?_)
    rintro e w5 ⟨rfl, d5, f5⟩
    have D5 := Lib.hid d5.inside
    have F5 : Hid (Fr (fun c _ => c < w1.heap.size) w1 w5) := F4.out.trans (f5.mono fun c _ h e => by omega)
    have s5 : w4.heap.size ≤ w5.heap.size := f5.size
    have B5 := Lib.hid (B4.out.fr (f5.mono fun c _ h e => by omega))
    clear d5 f5 D4 B4
    go_wp2_with fail
    (with_reducible refine (load_calls w5 bd _ _ i D5.out (TT.out _ F5.out) _ _ _ HNW.out).mono ?_)
    rintro e w6 ⟨⟨a6, c6, rfl, b6⟩, f6⟩
    have D6 := Lib.hid (D5.out.tt f6)
    have F6 := Lib.hid (F5.out.tt f6)
    have s6 : w5.heap.size ≤ w6.heap.size := f6.size
    have B6 := Lib.hid (B5.out.tt f6)
    have N6 := Lib.hid (b6.mono (K' := fun c _ => w5.heap.size ≤ c ∧ c < w6.heap.size) fun c o ho h => ⟨h.1, lt_of_some ho⟩)
    clear b6 f6 D5 B5
    go_wp2_with fail
    (with_reducible refine (crash_main w6 bd _ _ a3 len3 cap3 zs D6.out (ZZ.out _ F6.out) (fun c _ h h2 => by omega)).mono ?_)
    rintro e w7 ⟨rfl, d7, f7⟩
    have D7 := Lib.hid d7
    have F7 : Hid (Fr (fun c _ => c < w1.heap.size) w1 w7) := F6.out.trans (f7.mono fun c _ h e => by omega)
    have s7 : w6.heap.size ≤ w7.heap.size := f7.size
    have B7 := Lib.hid (B6.out.fr (f7.mono fun c _ h e => by omega))
    have N7 := Lib.hid (N6.out.fr (f7.mono fun c _ h e => by omega))
    clear d7 f7 D6 B6 N6
    go_wp2_with fail
    (with_reducible refine (load_calls w7 bd _ _ i D7.out (TT.out _ F7.out) _ _ _ HNW2.out).mono ?_)
    rintro e w8 ⟨⟨a8, c8, rfl, b8⟩, f8⟩
    have F8 := Lib.hid (F7.out.tt f8)
    have B8 := Lib.hid (B7.out.tt f8)
    have N8 := Lib.hid (N7.out.tt f8)
    have A8 := Lib.hid b8
    have hnb := load_len HNW.out
    clear b8 f8 D7 B7 N7
    rcases LW.out with law | law
    · simp only [Prod.mk.injEq] at law
      obtain ⟨e1, e2, e3⟩ := law
      subst e1 e2 e3
      have q1 : (((m : Nat) : Int) == ((m : Nat) : Int) + 1) = false := by simp; omega
      have SM := same_calls w8 _ _ nb nb N8.out B8.out (by omega)
      rw [decide_eq_true rfl] at SM
      have SM := Lib.hid SM
      go_wp2_with fail
      (with_reducible refine SM.out.mono ?_)
      rintro e w9 ⟨rfl, k9, hw9⟩
      have G9 : Hid (Fr (fun _ _ => True) w8 w9) := by rw [hw9]; exact (Fr.refl (fun _ _ => True) w8).drewN k9
      have SM := same_calls w9 _ _ nb nb (A8.out.tt G9.out) (N8.out.tt G9.out) (by omega)
      rw [decide_eq_true rfl] at SM
      have SM := Lib.hid SM
      clear hw9
      go_wp2_with fail
      (with_reducible refine SM.out.mono ?_)
      rintro e w10 ⟨rfl, k10, hw10⟩
      have G10 : Hid (Fr (fun _ _ => True) w8 w10) := by rw [hw10]; exact G9.out.drewN k10
      clear hw10
      go_wp2
      go_ret
      exact ⟨rfl, F1.out.trans (Fr.within ((F8.out.tt G10.out).mono fun _ _ h => h.2))⟩
    · simp only [Prod.mk.injEq] at law
      obtain ⟨e1, e2, e3⟩ := law
      subst e1 e2 e3
      have q1 : (((n : Nat) : Int) + 1 == ((n : Nat) : Int)) = false := by simp; omega
      have cst : (((n + 1 : Nat) : Int)) = (n : Int) + 1 := by omega
      have SM := same_calls w8 _ _ nb nb N8.out (BB.out _ F8.out) (by omega)
      rw [decide_eq_true rfl] at SM
      have SM := Lib.hid SM
      go_wp2_with fail
      (with_reducible refine SM.out.mono ?_)
      rintro e w9 ⟨rfl, k9, hw9⟩
      have G9 : Hid (Fr (fun _ _ => True) w8 w9) := by rw [hw9]; exact (Fr.refl (fun _ _ => True) w8).drewN k9
      have SM := same_calls w9 _ _ nb nb (A8.out.tt G9.out) (N8.out.tt G9.out) (by omega)
      rw [decide_eq_true rfl] at SM
      have SM := Lib.hid SM
      clear hw9
      go_wp2_with fail
      (with_reducible refine SM.out.mono ?_)
      rintro e w10 ⟨rfl, k10, hw10⟩
      have G10 : Hid (Fr (fun _ _ => True) w8 w10) := by rw [hw10]; exact G9.out.drewN k10
      clear hw10
      go_wp2
      go_ret
      exact ⟨rfl, F1.out.trans (Fr.within ((F8.out.tt G10.out).mono fun _ _ h => h.2))⟩
  · have hc' : (c != 0) = true := by simpa using hc
    clear hc LAW
    go_wp2
    go_ret
    exact ⟨rfl, F1.out.trans (Fr.within (F4.out.mono fun _ _ h => h.2))⟩

theorem either_walk (W : World) (a0 : Option Addr) (len0 cap0 : Nat) (i : Int) (a2 : Option Addr) (len2 cap2 : Nat) (a3 : Option Addr) (len3 cap3 : Nat) (r0 : Rd Tryd.prog W 36 [.slice a0 len0 cap0]) (r2 : Rd Tryd.prog W 23 [.slice a2 len2 cap2]) (r3 : Rd Tryd.prog W 37 [.slice a3 len3 cap3]) (ht : TabOK W) :
    Calls Tryd.prog 5 #[.slice a0 len0 cap0, .int .i64 i, .slice a2 len2 cap2, .slice a3 len3 cap3] W fun e w' => e = .returned (.bool true) ∧ Below W.heap.size W w' := by
  obtain ⟨l, ho, hlm⟩ := ops_of r0
  obtain ⟨b, hb, hbm⟩ := r2.bs
  obtain ⟨zs, hz, _⟩ := r3.is
  by_cases h : 30 < len0 ∨ cleanL l = false ∨ ¬ i.tmod 2 = 0
  · exact (either_skip W a0 len0 cap0 i _ _ l ho hlm ht h).mono fun e w' ⟨he, hf⟩ => ⟨he, hf.bel⟩
  · have h1 : ¬ 30 < len0 := fun q => h (.inl q)
    have h2 : cleanL l = true := by
      cases hq : cleanL l with
      | true => rfl
      | false => exact absurd (.inr (.inl hq)) h
    have h3 : i.tmod 2 = 0 := Classical.byContradiction fun q => h (.inr (.inr q))
    exact (either_main W a0 len0 cap0 i a2 len2 cap2 a3 len3 cap3 l b zs ho hlm hb hz ht (by omega) h2 h3).mono fun e w' ⟨he, hf⟩ => ⟨he, hf.bel⟩
end Go.Proofs.YtaeonlafcbgpcaaDoor
/- Law 5: SlotAmid, walked. -/
namespace Go.Proofs.YtaeonlafcbgpcaaDoor
open Go.RowKit
set_option linter.unusedVariables false

theorem load_lt {D : Dk} {i : Int} {b : List UInt8} {n : Nat} {c : Int} (h : loadM D i = (b, n, c)) : n < 4294967296 := by
  unfold loadM at h
  split at h
  · split at h
    · cases h; decide
    · cases h; exact (lastRec_bound D _).1
  · cases h; decide

set_option maxRecDepth 100000 in
set_option maxHeartbeats 1000000 in
theorem amid_skip (W : World) (a0 : Option Addr) (len0 cap0 : Nat) (i : Int) (v2 v3 v4 : Value) (l : List OpV) (ho : OpsAt W.heap.size W (.slice a0 len0 cap0) l) (hlm : len0 ≤ 9223372036854775807) (ht : TabOK W) (h : 30 < len0 ∨ cleanL l = false ∨ ¬ i.tmod 2 = 0) :
    Calls Tryd.prog 7 #[.slice a0 len0 cap0, .int .i64 i, v2, v3, v4] W fun e w' => e = .returned (.bool true) ∧ Fr (fun _ _ => True) W w' := by
  have AW := Lib.hid (awake_calls W ht)
  have HO := Lib.hid ho
  have HT := Lib.hid ht
  have HH := Lib.hid h
  have h0 : 0 < W.heap.size := by have := cell_lt (ht 0 (by decide)); simpa using this
  clear ht ho h
  go_enter Tryd.func7, Tryd.ntmps7
  go_wp2_with fail
  (with_reducible refine AW.out.mono ?_)
  rintro e w1 ⟨rfl, f1⟩
  have F1 := Lib.hid f1
  have s1 : W.heap.size ≤ w1.heap.size := f1.size
  have HO1 := Lib.hid ((HO.out.fr (f1.mono fun _ _ _ => trivial)).mono s1)
  have T1 := Lib.hid (HT.out.tt f1)
  clear f1 AW HO HT
  by_cases hl : 30 < len0
  · go_wp2_with fail
    (with_reducible refine (made_long w1 a0 len0 cap0 hl).mono ?_)
    rintro e w2 ⟨rfl, f2⟩
    have F2 := Lib.hid (F1.out.trans f2)
    have HO2 := Lib.hid (HO1.out.fr (f2.mono fun _ _ _ => trivial))
    clear f2
    go_wp2_with fail
    (with_reducible refine (clean_calls _ w2 a0 len0 cap0 l HO2.out hlm).mono ?_)
    rintro e w3 ⟨rfl, rfl⟩
    go_wp2
    go_ret
    exact ⟨rfl, F2.out⟩
  · go_wp2_with fail
    (with_reducible refine (made_some w1 a0 len0 cap0 l HO1.out T1.out (by omega)).mono ?_)
    rintro e w2 ⟨⟨bd, rfl, d2⟩, f2⟩
    have F2 := Lib.hid (F1.out.trans f2)
    have HO2 := Lib.hid (HO1.out.fr (f2.mono fun _ _ _ => trivial))
    clear f2 d2
    go_wp2_with fail
    (with_reducible refine (clean_calls _ w2 a0 len0 cap0 l HO2.out hlm).mono ?_)
    rintro e w3 ⟨rfl, rfl⟩
    cases hc : cleanL l with
    | false =>
      clear hc
      go_wp2
      go_ret
      exact ⟨rfl, F2.out⟩
    | true =>
      have hm : (i.tmod 2 != 0) = true := by
        rcases HH.out with h | h | h
        · omega
        · rw [hc] at h; cases h
        · simpa using h
      clear hc
      go_wp2
      go_ret
      exact ⟨rfl, F2.out⟩

set_option maxRecDepth 100000 in
set_option maxHeartbeats 4000000 in
theorem amid_main (W : World) (a0 : Option Addr) (len0 cap0 : Nat) (i : Int) (a2 : Option Addr) (len2 cap2 : Nat) (fu : Int) (a3 : Option Addr) (len3 cap3 : Nat) (l : List OpV) (b : List UInt8) (zs : List Int) (ho : OpsAt W.heap.size W (.slice a0 len0 cap0) l) (hlm : len0 ≤ 9223372036854775807) (hb : BytesAt (fun c _ => c < W.heap.size) W (.slice a2 len2 cap2) b) (hz : IntsAt (fun c _ => c < W.heap.size) W (.slice a3 len3 cap3) zs) (ht : TabOK W) (hl : len0 ≤ 30) (hcl : cleanL l = true) (hi : i.tmod 2 = 0) (hf0 : -9223372036854775808 ≤ fu) (hf1 : fu ≤ 9223372036854775807) :
    Calls Tryd.prog 7 #[.slice a0 len0 cap0, .int .i64 i, .slice a2 len2 cap2, .int .i64 fu, .slice a3 len3 cap3] W fun e w' => e = .returned (.bool true) ∧ Fr (fun _ _ => True) W w' := by
  have hln := ho.len
  have hC := madeD_clean ho hcl
  obtain ⟨D, hD⟩ : ∃ D, madeD l = D := ⟨_, rfl⟩
  rw [hD] at hC
  have law := amid_law ((hC.crash []).fuse fu hf0 hf1) rfl i hi b zs
  rw [show loadM ({ D.crash [] with fuse := fu } : Dk) i = loadM (D.crash []) i from rfl] at law
  obtain ⟨ob, n, oc, hld⟩ : ∃ ob n oc, loadM (D.crash []) i = (ob, n, oc) := ⟨_, _, _, rfl⟩
  rw [hld] at law
  have hn32 := load_lt hld
  obtain ⟨c, E, hpt⟩ : ∃ c E, saveM { D.crash [] with fuse := fu } i b = (c, E) := ⟨_, _, rfl⟩
  rw [hpt] at law
  obtain ⟨nb, m, g, hnw⟩ : ∃ nb m g, loadM (E.crash zs) i = (nb, m, g) := ⟨_, _, _, rfl⟩
  replace law : (c ≠ 0 ∧ (nb, m, g) = (ob, n, oc)) ∨ ((nb, m, g) = (b, n + 1, 0) ∧ n + 1 < 4294967296) := by
    rw [show ((c, E) : Int × Dk).2.crash zs = E.crash zs from rfl, hnw] at law
    exact law
  have AW := Lib.hid (awake_calls W ht)
  have HO := Lib.hid ho
  have HB := Lib.hid hb
  have HZ := Lib.hid hz
  have HT := Lib.hid ht
  have LAW := Lib.hid law
  have HD := Lib.hid hD
  have HLD := Lib.hid hld
  have HPT := Lib.hid hpt
  have HNW := Lib.hid hnw
  have HPD : Hid (({ D.crash [] with fuse := fu } : Dk).pend.length < 1000000) := by show (0 : Nat) < 1000000; decide
  have h0 : 0 < W.heap.size := by have := cell_lt (ht 0 (by decide)); simpa using this
  have hm2 : (i.tmod 2 != 0) = false := by simpa using hi
  have HCL := Lib.hid hcl
  clear ht ho hb hz law hD hld hpt hnw hln hC hi hcl
  go_enter Tryd.func7, Tryd.ntmps7
  go_wp2_with fail
  (with_reducible refine AW.out.mono ?_)
  rintro e w1 ⟨rfl, f1⟩
  have F1 := Lib.hid f1
  have s1 : W.heap.size ≤ w1.heap.size := f1.size
  have TT : Hid (∀ W', Fr (fun c _ => c < w1.heap.size) w1 W' → TabOK W') := fun W' h j hj => h.cell (fun _ _ => Nat.lt_of_lt_of_le h0 s1) (f1.cell (fun _ _ => trivial) (HT.out j hj))
  have BB : Hid (∀ W', Fr (fun c _ => c < w1.heap.size) w1 W' → BytesAt (fun c _ => c < w1.heap.size) W' (.slice a2 len2 cap2) b) := fun W' h => ((HB.out.tt f1).mono fun c _ _ h => by omega).fr h
  have ZZ : Hid (∀ W', Fr (fun c _ => c < w1.heap.size) w1 W' → IntsAt (fun c _ => c < w1.heap.size) W' (.slice a3 len3 cap3) zs) := fun W' h => ((HZ.out.fr f1 fun _ _ _ => trivial).mono fun c _ h => by omega).fr h fun _ _ h => h
  have HO1 := Lib.hid ((HO.out.fr (f1.mono fun _ _ _ => trivial)).mono s1)
  clear f1 AW HB HZ HT HO
  go_wp2_with fail
  (with_reducible refine (made_some w1 a0 len0 cap0 l HO1.out (TT.out _ (Fr.refl _ _)) hl).mono ?_)
  rintro e w2 ⟨⟨bd, rfl, d2⟩, f2⟩
  rw [HD.out] at d2
  have D2 := Lib.hid d2.inside
  have F2 : Hid (Fr (fun c _ => c < w1.heap.size) w1 w2) := f2.mono fun _ _ _ => trivial
  have s2 : w1.heap.size ≤ w2.heap.size := f2.size
  have HO2 := Lib.hid (HO1.out.fr (f2.mono fun _ _ _ => trivial))
  have CC := clean_calls _ w2 a0 len0 cap0 l HO2.out hlm
  rw [HCL.out] at CC
  have CC := Lib.hid CC
  have I2 : Hid (IntsAt (fun _ _ => False) w2 (.slice none 0 0) []) := ⟨none, 0, rfl, .inl rfl⟩
  clear d2 f2 HO1
  go_wp2_with fail
  (with_reducible refine CC.out.mono ?_)
  rintro e w2' ⟨rfl, rfl⟩
  clear CC HO2
  go_wp2_with fail
  (with_reducible refine (crash_main w2 bd _ D none 0 0 [] D2.out I2.out (fun _ _ h => h.elim)).mono ?_)
  rintro e w3 ⟨rfl, d3, f3⟩
  have D3 := Lib.hid d3.inside
  have F3 : Hid (Fr (fun c _ => c < w1.heap.size) w1 w3) := F2.out.trans (f3.mono fun c _ h e => by omega)
  have s3 : w2.heap.size ≤ w3.heap.size := f3.size
  clear d3 f3 D2 I2
  go_wp2_with fail
  (with_reducible refine (load_calls w3 bd _ _ i D3.out (TT.out _ F3.out) _ _ _ HLD.out).mono ?_)
  rintro e w4 ⟨⟨a4, c4, rfl, b4⟩, f4⟩
  have D4 := Lib.hid (D3.out.tt f4)
  have F4 := Lib.hid (F3.out.tt f4)
  have s4 : w3.heap.size ≤ w4.heap.size := f4.size
  have B4 := Lib.hid (b4.mono (K' := fun c _ => w3.heap.size ≤ c ∧ c < w4.heap.size) fun c o ho h => ⟨h.1, lt_of_some ho⟩)
  clear b4 f4 D3
  go_wp2_with fail
  (with_reducible refine (fuse_calls w4 bd _ _ fu D4.out hf0 hf1).mono ?_)
  rintro e w5 ⟨rfl, d5, f5⟩
  have hbd : Hid ((((w1.heap.size ≤ bd ∧ bd < w2.heap.size) ∨ w2.heap.size ≤ bd) ∧ bd < w3.heap.size)) := d5.fb
  have F5 : Hid (Fr (fun c _ => c < w1.heap.size) w1 w5) := F4.out.trans (f5.mono fun c _ h e => by have := hbd.out; omega)
  have s5 : w4.heap.size ≤ w5.heap.size := f5.size
  have B5 := Lib.hid (B4.out.fr (f5.mono fun c _ h e => by have := hbd.out; omega))
  have PC := save_calls w5 bd _ _ i _ b d5 (BB.out _ F5.out) (TT.out _ F5.out) HPD.out
  rw [HPT.out] at PC
  have PC := Lib.hid PC
  clear d5 f5 D4 B4
  go_wp2_with fail
  (with_reducible refine PC.out.mono ?_)
  rintro e w6 ⟨rfl, d6, f6⟩
  have D6 : Hid (Dsk w6 bd _ E) := d6.inside
  have F6 : Hid (Fr (fun c _ => c < w1.heap.size) w1 w6) := F5.out.trans (f6.mono fun c _ h e => by omega)
  have s6 : w5.heap.size ≤ w6.heap.size := f6.size
  have B6 := Lib.hid (B5.out.fr (f6.mono fun c _ h e => by omega))
  clear d6 f6 PC B5
  go_wp2_with fail
  (with_reducible refine (crash_main w6 bd _ E a3 len3 cap3 zs D6.out (ZZ.out _ F6.out) (fun c _ h h2 => by omega)).mono ?_)
  rintro e w7 ⟨rfl, d7, f7⟩
  have D7 := Lib.hid d7.inside
  have F7 : Hid (Fr (fun c _ => c < w1.heap.size) w1 w7) := F6.out.trans (f7.mono fun c _ h e => by omega)
  have B7 := Lib.hid (B6.out.fr (f7.mono fun c _ h e => by omega))
  clear d7 f7 D6 B6
  go_wp2_with fail
  (with_reducible refine (load_calls w7 bd _ _ i D7.out (TT.out _ F7.out) _ _ _ HNW.out).mono ?_)
  rintro e w8 ⟨⟨a8, c8, rfl, b8⟩, f8⟩
  have F8 := Lib.hid (F7.out.tt f8)
  have B8 := Lib.hid (B7.out.tt f8)
  have N8 := Lib.hid b8
  have hnb := load_len HNW.out
  clear b8 f8 D7 B7
  rcases LAW.out with ⟨hc, law⟩ | ⟨law, hn⟩
  · simp only [Prod.mk.injEq] at law
    obtain ⟨e1, e2, e3⟩ := law
    subst e1 e2 e3
    replace hc : (c != 0) = true := by simpa using hc
    have SM := same_calls w8 _ _ nb nb N8.out B8.out (by omega)
    rw [decide_eq_true rfl] at SM
    have SM := Lib.hid SM
    clear LAW
    by_cases hmx : m = 4294967295
    · subst hmx
      go_wp2_with fail
      (with_reducible refine SM.out.mono ?_)
      rintro e w9 ⟨rfl, k9, hw9⟩
      have G9 : Hid (Fr (fun _ _ => True) w8 w9) := by rw [hw9]; exact (Fr.refl (fun _ _ => True) w8).drewN k9
      clear hw9
      go_wp2
      go_ret
      exact ⟨rfl, F1.out.trans (Fr.within ((F8.out.tt G9.out).mono fun _ _ h => h.2))⟩
    · have hnI : (m : Int) + 1 < 4294967296 := by omega
      have q1 : (((m : Nat) : Int) == ((m : Nat) : Int) + 1) = false := by simp; omega
      clear hmx
      go_wp2_with fail
      (with_reducible refine SM.out.mono ?_)
      rintro e w9 ⟨rfl, k9, hw9⟩
      have G9 : Hid (Fr (fun _ _ => True) w8 w9) := by rw [hw9]; exact (Fr.refl (fun _ _ => True) w8).drewN k9
      clear hw9
      go_wp2
      go_ret
      exact ⟨rfl, F1.out.trans (Fr.within ((F8.out.tt G9.out).mono fun _ _ h => h.2))⟩
  · simp only [Prod.mk.injEq] at law
    obtain ⟨e1, e2, e3⟩ := law
    subst e1 e2 e3
    have hnI : (n : Int) + 1 < 4294967296 := by omega
    have q1 : (((n : Nat) : Int) + 1 == ((n : Nat) : Int)) = false := by simp; omega
    have cst : (((n + 1 : Nat) : Int)) = (n : Int) + 1 := by omega
    have SM := same_calls w8 _ _ nb nb N8.out (BB.out _ F8.out) (by omega)
    rw [decide_eq_true rfl] at SM
    have SM := Lib.hid SM
    clear LAW
    cases hc : (c != 0) with
    | true =>
      go_wp2_with fail
      (with_reducible refine SM.out.mono ?_)
      rintro e w9 ⟨rfl, k9, hw9⟩
      have G9 : Hid (Fr (fun _ _ => True) w8 w9) := by rw [hw9]; exact (Fr.refl (fun _ _ => True) w8).drewN k9
      clear hw9
      go_wp2
      go_ret
      exact ⟨rfl, F1.out.trans (Fr.within ((F8.out.tt G9.out).mono fun _ _ h => h.2))⟩
    | false =>
      go_wp2_with fail
      (with_reducible refine SM.out.mono ?_)
      rintro e w9 ⟨rfl, k9, hw9⟩
      have G9 : Hid (Fr (fun _ _ => True) w8 w9) := by rw [hw9]; exact (Fr.refl (fun _ _ => True) w8).drewN k9
      clear hw9
      go_wp2
      go_ret
      exact ⟨rfl, F1.out.trans (Fr.within ((F8.out.tt G9.out).mono fun _ _ h => h.2))⟩

theorem amid_walk (W : World) (a0 : Option Addr) (len0 cap0 : Nat) (i : Int) (a2 : Option Addr) (len2 cap2 : Nat) (fu : Int) (a3 : Option Addr) (len3 cap3 : Nat) (r0 : Rd Tryd.prog W 36 [.slice a0 len0 cap0]) (r2 : Rd Tryd.prog W 23 [.slice a2 len2 cap2]) (r3 : Rd Tryd.prog W 37 [.slice a3 len3 cap3]) (hfu : (Lit.int .i64 fu).wf = true) (ht : TabOK W) :
    Calls Tryd.prog 7 #[.slice a0 len0 cap0, .int .i64 i, .slice a2 len2 cap2, .int .i64 fu, .slice a3 len3 cap3] W fun e w' => e = .returned (.bool true) ∧ Below W.heap.size W w' := by
  obtain ⟨l, ho, hlm⟩ := ops_of r0
  obtain ⟨b, hb, hbm⟩ := r2.bs
  obtain ⟨zs, hz, _⟩ := r3.is
  by_cases h : 30 < len0 ∨ cleanL l = false ∨ ¬ i.tmod 2 = 0
  · exact (amid_skip W a0 len0 cap0 i _ _ _ l ho hlm ht h).mono fun e w' ⟨he, hf⟩ => ⟨he, hf.bel⟩
  · have h1 : ¬ 30 < len0 := fun q => h (.inl q)
    have h2 : cleanL l = true := by
      cases hq : cleanL l with
      | true => rfl
      | false => exact absurd (.inr (.inl hq)) h
    have h3 : i.tmod 2 = 0 := Classical.byContradiction fun q => h (.inr (.inr q))
    exact (amid_main W a0 len0 cap0 i a2 len2 cap2 fu a3 len3 cap3 l b zs ho hlm hb hz ht (by omega) h2 h3 (bounds_i64 hfu).1 (bounds_i64 hfu).2).mono fun e w' ⟨he, hf⟩ => ⟨he, hf.bel⟩
end Go.Proofs.YtaeonlafcbgpcaaDoor
