/- Texts of the proofs, part 26: what the functions that they reach do, walked; no conditions beyond those that each states. -/
import Derived.Test.YtcpbmempfeloaaaDoorZz97e3ba2ce4
set_option linter.unusedVariables false
set_option linter.unusedSimpArgs false
/- A disk whose fuse is lit, beside one whose fuse is not; the slot at 1 while a journal at 3 writes. -/
namespace Go.Proofs.YtcpbmempfeloaaaDoor
open Go.RowKit
set_option linter.unusedVariables false
set_option linter.unusedSimpArgs false

def Calm (D : Dk) : Prop := D.down = false ∧ D.fuse < 0
theorem Calm.sync {D : Dk} (h : Calm D) : Calm D.sync := by rw [jsync_id h.1 h.2]; exact h
theorem Calm.write {D : Dk} (h : Calm D) (i : Int) (b : List UInt8) : Calm (D.write i b).2 := by
  unfold Dk.write Dk.put
  rw [jburn_id h.1 h.2]
  split
  · exact h
  · split
    · exact h
    · rw [if_neg (by rw [h.1]; decide)]; exact h
theorem Calm.putM {D : Dk} (h : Calm D) (i : Int) (b : List UInt8) : Calm (putM D i b).2 := by
  unfold Go.Proofs.YtcpbmempfeloaaaDoor.putM
  split
  · split
    · exact h
    · split
      · exact h
      · exact h.sync.write _ _
  · exact h
theorem Calm.saveM {D : Dk} (h : Calm D) (i : Int) (b : List UInt8) : Calm (saveM D i b).2 := by
  unfold Go.Proofs.YtcpbmempfeloaaaDoor.saveM
  split
  · exact (h.putM i b).sync
  · exact h.putM i b
theorem Calm.jzero {J : Jn} : ∀ (k m : Nat) {D : Dk}, Calm D → Calm (jzero J k m D)
  | 0, m, D, h => h
  | k + 1, m, D, h => Calm.jzero k (m - 1) (h.write _ _)
theorem down_sync {D : Dk} (h : D.down = true) : D.sync.down = true := by
  unfold Dk.sync
  rw [if_pos (burn_down h)]
  exact burn_down h
theorem down_write {D : Dk} (h : D.down = true) (i : Int) (b : List UInt8) : (D.write i b).2.down = true := by
  unfold Dk.write
  split
  · exact h
  · split
    · exact h
    · rw [if_pos (burn_down h)]
      exact burn_down h
theorem down_putM {D : Dk} (h : D.down = true) (i : Int) (b : List UInt8) : (putM D i b).2.down = true := by
  unfold Go.Proofs.YtcpbmempfeloaaaDoor.putM
  split
  · split
    · exact h
    · split
      · exact h
      · exact down_write (down_sync h) _ _
  · exact h
theorem down_saveM {D : Dk} (h : D.down = true) (i : Int) (b : List UInt8) : (saveM D i b).2.down = true := by
  unfold Go.Proofs.YtcpbmempfeloaaaDoor.saveM
  split
  · exact down_sync (down_putM h i b)
  · exact down_putM h i b
theorem down_jzero {J : Jn} : ∀ (k m : Nat) {D : Dk}, D.down = true → (jzero J k m D).down = true
  | 0, m, D, h => h
  | k + 1, m, D, h => down_jzero k (m - 1) (down_write h _ _)
theorem save_down {D : Dk} {i : Int} {b : List UInt8} (h : (saveM D i b).2.down = true) : (saveM D i b).1 ≠ 0 := by
  unfold Go.Proofs.YtcpbmempfeloaaaDoor.saveM at h ⊢
  split at h
  · rename_i e
    rw [if_pos e]
    show (if (Go.Proofs.YtcpbmempfeloaaaDoor.putM D i b).2.sync.down = true then (43 : Int) else 0) ≠ 0
    rw [if_pos h]
    decide
  · rename_i e
    rw [if_neg e]
    exact e
theorem write_ne1 (D : Dk) (i : Int) (b : List UInt8) : (D.write i b).1 ≠ 1 := by
  unfold Dk.write
  split
  · exact (by decide : (40 : Int) ≠ 1)
  · split
    · exact (by decide : (2 : Int) ≠ 1)
    · split
      · exact (by decide : (43 : Int) ≠ 1)
      · exact (by decide : (0 : Int) ≠ 1)
theorem save_ne1 (D : Dk) (i : Int) (b : List UInt8) : (saveM D i b).1 ≠ 1 := by
  have h : (Go.Proofs.YtcpbmempfeloaaaDoor.putM D i b).1 ≠ 1 := by
    unfold Go.Proofs.YtcpbmempfeloaaaDoor.putM
    split
    · split
      · exact (by decide : (2 : Int) ≠ 1)
      · split
        · exact (by decide : (42 : Int) ≠ 1)
        · exact write_ne1 _ _ _
    · exact (by decide : (40 : Int) ≠ 1)
  unfold Go.Proofs.YtcpbmempfeloaaaDoor.saveM
  split
  · show (if _ then (43 : Int) else 0) ≠ 1
    split <;> decide
  · exact h

/-- The other one is down, or both are alike but for the fuse. -/
def Sim (D E : Dk) : Prop := E.down = true ∨ ∃ f, -9223372036854775808 ≤ f ∧ f ≤ 9223372036854775807 ∧ E = { D with fuse := f }
theorem burn_fz {D : Dk} (h : Calm D) (f : Int) (h1 : -9223372036854775808 ≤ f) (h2 : f ≤ 9223372036854775807) : ({ D with fuse := f } : Dk).burn.down = true ∨ ∃ g, -9223372036854775808 ≤ g ∧ g ≤ 9223372036854775807 ∧ ({ D with fuse := f } : Dk).burn = { D with fuse := g } := by
  obtain ⟨se, su, pe, fu, dn⟩ := D
  have hd : dn = false := h.1
  subst hd
  by_cases h0 : f = 0
  · subst h0; exact .inl rfl
  · refine .inr ⟨f - min 1 (max 0 f), by omega, by omega, ?_⟩
    unfold Dk.burn
    have : (false || f == 0) = false := by simpa using h0
    dsimp only
    rw [this]
theorem Sim.sync {D E : Dk} (h : Calm D) (s : Sim D E) : Sim D.sync E.sync := by
  rcases s with s | ⟨f, h1, h2, rfl⟩
  · exact .inl (down_sync s)
  · rcases burn_fz h f h1 h2 with b | ⟨g, g1, g2, b⟩
    · refine .inl ?_
      unfold Dk.sync
      rw [if_pos b]
      exact b
    · refine .inr ⟨g, g1, g2, ?_⟩
      rw [jsync_id h.1 h.2]
      unfold Dk.sync
      rw [b, if_neg (by rw [show ({ D with fuse := g } : Dk).down = D.down from rfl, h.1]; decide)]
theorem Sim.write {D E : Dk} (h : Calm D) (s : Sim D E) (i : Int) (x : List UInt8) : Sim (D.write i x).2 (E.write i x).2 ∧ ((E.write i x).2.down = false → (E.write i x).1 = (D.write i x).1) := by
  rcases s with s | ⟨f, h1, h2, rfl⟩
  · exact ⟨.inl (down_write s i x), fun k => by rw [down_write s i x] at k; cases k⟩
  · unfold Dk.write Dk.put
    rw [jburn_id h.1 h.2]
    show Sim (if ¬ (0 ≤ i ∧ i < D.sure.length) then _ else _ : Int × Dk).2 (if ¬ (0 ≤ i ∧ i < D.sure.length) then _ else _ : Int × Dk).2 ∧ ((if ¬ (0 ≤ i ∧ i < D.sure.length) then _ else _ : Int × Dk).2.down = false → (if ¬ (0 ≤ i ∧ i < D.sure.length) then _ else _ : Int × Dk).1 = (if ¬ (0 ≤ i ∧ i < D.sure.length) then _ else _ : Int × Dk).1)
    by_cases c1 : ¬ (0 ≤ i ∧ i < D.sure.length)
    · simp only [if_pos c1]
      exact ⟨.inr ⟨f, h1, h2, rfl⟩, fun _ => trivial⟩
    · simp only [if_neg c1]
      by_cases c2 : 64 < x.length
      · simp only [if_pos c2]
        exact ⟨.inr ⟨f, h1, h2, rfl⟩, fun _ => trivial⟩
      · simp only [if_neg c2]
        rw [if_neg (by rw [h.1]; decide)]
        rcases burn_fz h f h1 h2 with b | ⟨g, g1, g2, b⟩
        · rw [if_pos b]
          exact ⟨.inl b, fun k => by rw [show (43, ({ D with fuse := f } : Dk).burn).2.down = ({ D with fuse := f } : Dk).burn.down from rfl, b] at k; cases k⟩
        · rw [b, if_neg (by rw [show ({ D with fuse := g } : Dk).down = D.down from rfl, h.1]; decide)]
          exact ⟨.inr ⟨g, g1, g2, rfl⟩, fun _ => rfl⟩
theorem Sim.putM {D E : Dk} (h : Calm D) (s : Sim D E) (i : Int) (x : List UInt8) : Sim (putM D i x).2 (putM E i x).2 ∧ ((putM E i x).2.down = false → (putM E i x).1 = (putM D i x).1) := by
  rcases s with s | ⟨f, h1, h2, rfl⟩
  · exact ⟨.inl (down_putM s i x), fun k => by rw [down_putM s i x] at k; cases k⟩
  · have hs : Sim D ({ D with fuse := f } : Dk) := .inr ⟨f, h1, h2, rfl⟩
    have hr : ({ D with fuse := f } : Dk).right i = D.right i := rfl
    have hl : lastRec ({ D with fuse := f } : Dk) i.toNat = lastRec D i.toNat := rfl
    unfold Go.Proofs.YtcpbmempfeloaaaDoor.putM
    rw [hr, hl]
    cases D.right i with
    | false => exact ⟨hs, fun _ => rfl⟩
    | true =>
      simp only [if_true]
      by_cases c1 : 43 < x.length
      · simp only [if_pos c1]
        exact ⟨hs, fun _ => trivial⟩
      · simp only [if_neg c1]
        by_cases c2 : (lastRec D i.toNat).2.1 = 4294967295
        · simp only [if_pos c2]
          exact ⟨hs, fun _ => trivial⟩
        · simp only [if_neg c2]
          exact (hs.sync h).write h.sync _ _
theorem Sim.saveM {D E : Dk} (h : Calm D) (s : Sim D E) (i : Int) (x : List UInt8) : Sim (Go.Proofs.YtcpbmempfeloaaaDoor.saveM D i x).2 (Go.Proofs.YtcpbmempfeloaaaDoor.saveM E i x).2 ∧ ((Go.Proofs.YtcpbmempfeloaaaDoor.saveM E i x).2.down = false → (Go.Proofs.YtcpbmempfeloaaaDoor.saveM E i x).1 = (Go.Proofs.YtcpbmempfeloaaaDoor.saveM D i x).1) := by
  obtain ⟨p1, p2⟩ := s.putM h i x
  have hc := h.putM i x
  by_cases hd : (Go.Proofs.YtcpbmempfeloaaaDoor.saveM E i x).2.down = true
  · exact ⟨.inl hd, fun k => by rw [hd] at k; cases k⟩
  · have hd2 : (Go.Proofs.YtcpbmempfeloaaaDoor.putM E i x).2.down = false := by
      cases e : (Go.Proofs.YtcpbmempfeloaaaDoor.putM E i x).2.down with
      | false => rfl
      | true =>
        refine absurd ?_ hd
        unfold Go.Proofs.YtcpbmempfeloaaaDoor.saveM
        split
        · exact down_sync e
        · exact e
    have hq := p2 hd2
    have p3 := p1.sync hc
    have hcs := hc.sync
    unfold Go.Proofs.YtcpbmempfeloaaaDoor.saveM at hd ⊢
    rw [hq] at hd ⊢
    by_cases c : (Go.Proofs.YtcpbmempfeloaaaDoor.putM D i x).1 = 0
    · simp only [if_pos c] at hd ⊢
      refine ⟨p3, fun k => ?_⟩
      rw [k, hcs.1]
    · simp only [if_neg c] at hd ⊢
      exact ⟨p1, fun _ => hq⟩
theorem Sim.jzero {J : Jn} : ∀ (k m : Nat) {D E : Dk}, Calm D → Sim D E → Sim (jzero J k m D) (jzero J k m E)
  | 0, m, D, E, _, s => s
  | k + 1, m, D, E, h, s => Sim.jzero k (m - 1) (h.write _ _) (s.write h _ _).1

theorem lastOf_inl (z : Nat × Nat × List UInt8) : ∀ l, lastOf z l = z ∨ lastOf z l ∈ l := by
  intro l
  induction l generalizing z with
  | nil => exact .inl rfl
  | cons x l ih =>
    show lastOf (if z.2.1 < x.2.1 then x else z) l = z ∨ lastOf (if z.2.1 < x.2.1 then x else z) l ∈ x :: l
    rcases ih (if z.2.1 < x.2.1 then x else z) with h | h
    · rw [h]
      split
      · exact .inr (by simp)
      · exact .inl rfl
    · exact .inr (by simp [h])
theorem lastRec_le (D : Dk) (k : Nat) : (lastRec D k).1 ≤ k + 1 := by
  rw [lastRec_two]
  have hs : ∀ i, ∀ r ∈ (secRec D i).toList, r.1 = i := fun i r hr => by
    unfold secRec at hr
    split at hr
    · simp at hr
      rw [hr]
    · simp at hr
  rcases lastOf_inl (k + 1, 0, []) ((secRec D k).toList ++ (secRec D (k + 1)).toList) with h | h
  · rw [h]; exact Nat.le_refl _
  · rcases List.mem_append.1 h with h | h
    · rw [hs _ _ h]; omega
    · rw [hs _ _ h]; exact Nat.le_refl _
/-- The slot at 1 is sure to be so; nothing that is pending touches it. -/
structure Q1 (k : Nat) (D : Dk) (m y : Nat) (b : List UInt8) : Prop where
  good : D.good
  len : D.sure.length = 20
  pl : Pl D.sure 1 m y b
  pd : ∀ x ∈ D.pend, 3 ≤ x.1
  few : D.pend.length ≤ k
  k1 : k < 900000
section
variable {k m y : Nat} {b : List UInt8} {D : Dk}
theorem Q1.seen (h : Q1 k D m y b) : Pl D.seen 1 m y b := by
  rw [h.good.seen]
  exact Pl.lay _ h.pl fun x hx => by have := h.pd x hx; omega
theorem Q1.burn (h : Q1 k D m y b) : Q1 k D.burn m y b := ⟨h.good.burn, h.len, h.pl, h.pd, h.few, h.k1⟩
theorem Q1.fuse (h : Q1 k D m y b) (f : Int) (h1 : -9223372036854775808 ≤ f) (h2 : f ≤ 9223372036854775807) : Q1 k { D with fuse := f } m y b := ⟨h.good.fuse f h1 h2, h.len, h.pl, h.pd, h.few, h.k1⟩
theorem Q1.sync (h : Q1 k D m y b) : Q1 k D.sync m y b := by
  have hg := h.good.sync
  have hp := pend_sync D
  have hf := h.few
  rcases sync_sp D with ⟨_, a, b', _⟩ | ⟨_, _, a, b', _⟩
  · exact ⟨hg, by rw [a]; exact h.len, by rw [a]; exact h.pl, by rw [b']; exact h.pd, by omega, h.k1⟩
  · refine ⟨hg, by rw [a, laySure_length]; exact h.len, ?_, ?_, by omega, h.k1⟩
    · rw [a]
      exact Pl.lay _ h.pl fun x hx => by have := h.pd x hx; omega
    · rw [b']
      intro x hx
      cases hx
theorem Q1.write (h : Q1 k D m y b) {i : Int} (hi : 3 ≤ i) (x : List UInt8) (hk : k + 1 < 900000) : Q1 (k + 1) (D.write i x).2 m y b := by
  have hf := h.few
  have hg := h.good.write i x (by omega)
  have hp := pend_write D i x
  have hs : (D.write i x).2.sure = D.sure ∧ ∀ x' ∈ (D.write i x).2.pend, 3 ≤ x'.1 := by
    unfold Dk.write
    split
    · exact ⟨rfl, h.pd⟩
    · split
      · exact ⟨rfl, h.pd⟩
      · split
        · exact ⟨rfl, h.pd⟩
        · refine ⟨rfl, fun x' hx => ?_⟩
          have hx' : x' ∈ D.pend ++ [(i.toNat, pad x)] := hx
          rcases List.mem_append.1 hx' with h1 | h1
          · exact h.pd _ h1
          · rw [List.mem_singleton.1 h1]
            show 3 ≤ i.toNat
            omega
  exact ⟨hg, by rw [hs.1]; exact h.len, by rw [hs.1]; exact h.pl, hs.2, by omega, hk⟩
theorem Q1.mono {k' : Nat} (h : Q1 k D m y b) (hk : k ≤ k') (h1 : k' < 900000) : Q1 k' D m y b := { h with few := Nat.le_trans h.few hk, k1 := h1 }
theorem Q1.putM (h : Q1 k D m y b) (x : List UInt8) (hk : k + 1 < 900000) : Q1 (k + 1) (putM D 3 x).2 m y b := by
  unfold Go.Proofs.YtcpbmempfeloaaaDoor.putM
  split
  · split
    · exact h.mono (by omega) hk
    · split
      · exact h.mono (by omega) hk
      · refine h.sync.write ?_ _ hk
        have := lastRec_le D 3
        show (3 : Int) ≤ 2 * 3 + 1 - ((lastRec D 3).1 : Nat)
        omega
  · exact h.mono (by omega) hk
theorem Q1.saveM (h : Q1 k D m y b) (x : List UInt8) (hk : k + 1 < 900000) : Q1 (k + 1) (saveM D 3 x).2 m y b := by
  unfold Go.Proofs.YtcpbmempfeloaaaDoor.saveM
  split
  · exact (h.putM x hk).sync
  · exact h.putM x hk
theorem Q1.jzero {J : Jn} (hJ : ∀ s, 3 ≤ J.sec s) : ∀ (j i : Nat) {k : Nat} {D : Dk}, Q1 k D m y b → k + j < 900000 → Q1 (k + j) (jzero J j i D) m y b
  | 0, i, k, D, h, _ => h
  | j + 1, i, k, D, h, hk => by
    have := Q1.jzero hJ j (i - 1) (k := k + 1) (h.write (i := (J.sec ((J.first + (i - 1)) % 4294967296) : Nat)) (by have := hJ ((J.first + (i - 1)) % 4294967296); omega) [] (by omega)) (by omega)
    rw [show k + (j + 1) = k + 1 + j from by omega]
    exact this
theorem Q1.crash (h : Q1 k D m y b) (zs : List Int) : Q1 0 (D.crash zs) m y b := by
  have hp : Pl (layTorn zs D.sure D.pend) 1 m y b := Pl.tornAll zs _ 0 h.pl fun x hx => by have := h.pd x hx; omega
  exact ⟨h.good.crash zs, by show (layTorn zs D.sure D.pend).length = 20; rw [layTorn_len]; exact h.len, hp, fun x hx => (by cases hx), Nat.le_refl _, by decide⟩
theorem Q1.jopen (h : Q1 k D m y b) (hk : k + 1 < 900000) {n : Int} {c : Int} {o : Option Jn} {D' : Dk} (e : jopen D 3 n = (c, o, D')) : Q1 (k + 1) D' m y b := by
  have hm := h.mono (Nat.le_succ k) hk
  unfold Go.Proofs.YtcpbmempfeloaaaDoor.jopen at e
  split at e
  · cases e; exact hm
  · split at e
    · cases e; exact hm
    · unfold jopenIn at e
      split at e
      · cases e; exact hm
      · split at e
        · cases e; exact hm
        · dsimp only at e
          have hs := h.saveM (metaB (jslot D 3).1 ((jslot D 3).2.1 + 1) (jslot D 3).2.2.1) hk
          split at e
          · cases e; exact hs
          · cases e; exact hs
/-- What is loaded then. -/
theorem Q1.load (h : Q1 k D m y b) : loadM D 1 = if m = 0 then ([], 0, 41) else (b, m, 0) :=
  h.seen.load (by unfold Dk.right; rw [h.len]; decide)
end
end Go.Proofs.YtcpbmempfeloaaaDoor
/- A crash amid a save of a keeper, plainly. -/
namespace Go.Proofs.YtcpbmempfeloaaaDoor
open Go.RowKit
set_option linter.unusedVariables false
set_option linter.unusedSimpArgs false

/-- How far two lists begin alike. -/
def comm : List En → List En → Nat
  | x :: xs, y :: ys => if x = y then comm xs ys + 1 else 0
  | _, _ => 0
theorem comm_le : ∀ a b : List En, comm a b ≤ a.length ∧ comm a b ≤ b.length ∧ a.take (comm a b) = b.take (comm a b)
  | [], b => by simp [comm]
  | x :: xs, [] => by simp [comm]
  | x :: xs, y :: ys => by
    unfold comm
    split
    · rename_i h
      subst h
      obtain ⟨h1, h2, h3⟩ := comm_le xs ys
      exact ⟨by simp; omega, by simp; omega, by simp [h3]⟩
    · simp
theorem cutN_comm (s : Sta) : ∀ (l : List En) (i : Nat), cutN s (recs (s.base + i) l) i = i + comm l (s.es.drop i)
  | [], i => by simp [recs, cutN, comm]
  | x :: xs, i => by
    show cutN s ((s.base + i + 1, x) :: recs (s.base + i + 1) xs) i = _
    unfold cutN
    by_cases hi : i < s.es.length
    · rw [List.drop_eq_getElem_cons hi]
      unfold comm
      have hg : s.es.getD (s.base + i + 1 - s.base - 1) default = s.es[i] := by
        rw [show s.base + i + 1 - s.base - 1 = i from by omega, List.getD_eq_getElem?_getD, List.getElem?_eq_getElem hi]; rfl
      have hs : sameR (s.base + i + 1, x) s = decide (s.es[i] = x) := by
        unfold sameR
        dsimp only
        rw [hg, decide_eq_true (by omega : s.base < s.base + i + 1), decide_eq_true (by omega : s.base + i + 1 ≤ s.base + s.es.length)]
        rfl
      rw [hs]
      by_cases he : x = s.es[i]
      · rw [if_pos ⟨by show s.base + i + 1 = s.base + 1 + i; omega, by rw [← he]; simp⟩, if_pos he]
        have := cutN_comm s xs (i + 1)
        rw [show s.base + (i + 1) = s.base + i + 1 from by omega] at this
        rw [this]
        omega
      · rw [if_neg he, if_neg (fun k => he (by have := k.2; simp only [decide_eq_true_eq] at this; exact this.symm))]
        rfl
    · rw [List.drop_of_length_le (by omega)]
      have hs : sameR (s.base + i + 1, x) s = false := by
        unfold sameR
        dsimp only
        rw [decide_eq_false (by omega : ¬ s.base + i + 1 ≤ s.base + s.es.length)]
        simp
      rw [if_neg (fun k => by rw [hs] at k; cases k.2)]
      simp [comm]
/-- A disk's slot keeps a state's head. -/
def SlotOf (D : Dk) (s : Sta) : Prop := (∃ m, loadM D 1 = (headB s, m, 0)) ∨ (loadM D 1 = ([], 0, 41) ∧ s.term = 0 ∧ s.vote = -1 ∧ s.base = 0 ∧ s.bt = 0)
theorem Q1.slotOf {k m y : Nat} {b : List UInt8} {D : Dk} {s : Sta} (h : Q1 k D m y b) (hw : s.wf) (hr : s.right = true) (hb : (m = 0 ∧ headB s = headB zSta) ∨ (0 < m ∧ b = headB s)) : SlotOf D s := by
  have hl := h.load
  rcases hb with ⟨h0, h1⟩ | ⟨h0, h1⟩
  · rw [if_pos h0] at hl
    exact .inr ⟨hl, headB_zero hw hr h1⟩
  · rw [if_neg (by omega)] at hl
    exact .inl ⟨m, by rw [← h1]; exact hl⟩
/-- What is found behind a crash: a journal whose records are so, a slot. -/
def FoundK (n : Nat) (zs : List Int) (D1 : Dk) (sl : Sta) (held : List (Nat × En)) : Prop := D1.pend.length ≤ 100 ∧ ∃ J2 D2, jopen (D1.crash zs) 3 n = (0, some J2, D2) ∧ J2.all = held.map recB ∧ SlotOf D2 sl
section
variable {n q : Nat} {K : Ke} {J : Jn} {D : Dk} {s s0 : Sta}
theorem KB.calm (h : KB n q K J D s) : Calm D := ⟨h.ji.up.up, h.ji.up.fz⟩
theorem KB.q1 (h : KB n q K J D s) : ∃ m y b, Q1 0 D m y b ∧ m ≤ q ∧ ((m = 0 ∧ headB s = headB zSta) ∨ (0 < m ∧ b = headB s)) := by
  obtain ⟨m, y, b, hp, hm, hb⟩ := h.sl
  have hpe : D.pend = [] := h.ji.pend
  exact ⟨m, y, b, ⟨h.ji.up.good, h.ji.up.len, hp, (by rw [hpe]; intro x hx; cases hx), (by rw [hpe]; exact Nat.le_refl _), by decide⟩, hm, hb⟩
theorem Pl.congr {S S' : List (List UInt8)} {k m y : Nat} {b : List UInt8} (h : Pl S k m y b) (h1 : S'.getD k [] = S.getD k []) (h2 : S'.getD (k + 1) [] = S.getD (k + 1) []) : Pl S' k m y b := by
  have hy : S'.getD y [] = S.getD y [] := by
    rcases h.yk with e | e
    · rw [e, h1]
    · rw [e, h2]
  have hz : S'.getD (2 * k + 1 - y) [] = S.getD (2 * k + 1 - y) [] := by
    rcases h.yk with e | e
    · rw [e, show 2 * k + 1 - k = k + 1 from by omega, h2]
    · rw [e, show 2 * k + 1 - (k + 1) = k from by omega, h1]
  exact ⟨h.yk, h.lt, by rw [hy]; exact h.also, by rw [hy]; exact h.num, fun e => by rw [h2]; exact h.zero e, fun e => by rw [hz]; exact h.pos e⟩
/-- The disk goes down amid the save of the slot. -/
theorem KI.mark_amid (h : KI n q K J D s0) (hw : s.wf) (hr : s.right = true) (hq : q + 3 < 250) (f : Int) (h1 : -9223372036854775808 ≤ f) (h2 : f ≤ 9223372036854775807) (zs : List Int) (hd : (saveM { D with fuse := f } 1 (headB s)).2.down = true) :
    ∃ sl, (sl = s0 ∨ sl = s) ∧ FoundK n zs (saveM { D with fuse := f } 1 (headB s)).2 sl K.held := by
  obtain ⟨m, y, b, hp, hm, hb⟩ := h.kb.sl
  obtain ⟨m3, y3, h3, h30, hm3⟩ := h.kb.ji.pl
  have hpe : D.pend = [] := h.kb.ji.pend
  have hss : D.seen = D.sure := h.kb.ji.synced.2.1
  have hl20 := h.kb.ji.up.len
  have hbl : (headB s).length ≤ 43 := by rw [headB_len]; decide
  have hsp := save_sp (D := { D with fuse := f }) (z := 1) (b := headB s) hl20 (by show D.seen.length = 20; rw [hss, hl20]) (by decide) (by show Pl D.seen 1 m y b; rw [hss]; exact hp) (by omega) hbl
  have hg := (h.kb.ji.up.good.fuse f h1 h2).saveM 1 (headB s) (by show D.pend.length < 1000000; rw [hpe]; decide)
  have hpd := pend_saveM { D with fuse := f } 1 (headB s)
  generalize (saveM { D with fuse := f } 1 (headB s)).2 = E at hsp hg hpd hd ⊢
  have hlay : laySure D.sure D.pend = D.sure := by rw [hpe]; rfl
  have hst : (E.sure = D.sure ∧ (E.pend = [] ∨ E.pend = [(y, stampB (m + 1) 0 (headB s))])) ∨ (E.sure = D.sure.set y (stampB (m + 1) 0 (headB s)) ∧ E.pend = []) := by
    rcases hsp.2 with ⟨s1, s2⟩ | ⟨_, s1, s2⟩ | ⟨_, s1, s2⟩
    · exact .inl ⟨s1, .inl (by rw [← hpe]; exact s2)⟩
    · exact .inl ⟨by rw [← hlay]; exact s1, s2⟩
    · exact .inr ⟨by rw [← hlay]; exact s1, s2⟩
  have hEl : E.sure.length = 20 := by
    rcases hst with ⟨s1, _⟩ | ⟨s1, _⟩
    · rw [s1, hl20]
    · rw [s1]; simp [hl20]
  obtain ⟨t1, t2, t3⟩ := slot_torn hp h.kb.ji.up.good.ok.u64 hl20 (by decide) (by omega) hbl hst zs
  have hu := crash_up hg hEl zs
  have hJL := h.kb.ji.ring
  obtain ⟨D', eo, hji⟩ := open_ji (q := q) hu (h3.congr (t2 3 (by decide)) (t2 4 (by decide))) h30 hm3 h.kb.ji.n17 (by omega) (hJL.low hl20 t3 fun x hx => t2 x (by omega)) h.kb.ji.eq (by have := h.kb.ji.nq; have := h.kb.ji.heldLen; simp at *; omega)
  have hpE : E.pend.length ≤ 100 := by
    have : E.pend.length ≤ D.pend.length + 1 := hpd
    rw [hpe] at this; simp at this; omega
  have q1 : ∀ {m' y' : Nat} {b' : List UInt8}, Pl (E.crash zs).seen 1 m' y' b' → Q1 1 D' m' y' b' := fun hp' =>
    Q1.jopen (k := 0) ⟨hu.good, hu.len, hp', fun x hx => (by cases hx), Nat.le_refl _, by decide⟩ (by decide) eo
  have hall : (⟨3, n, J.first, J.epoch + 1, J.low, J.held⟩ : Jn).all = K.held.map recB := h.kb.hd
  rcases t1 with t1 | t1
  · exact ⟨s0, .inl rfl, hpE, _, D', eo, hall, (q1 t1).slotOf h.wf h.rt hb⟩
  · exact ⟨s, .inr rfl, hpE, _, D', eo, hall, (q1 t1).slotOf hw hr (.inr ⟨by omega, rfl⟩)⟩
/-- The disk goes down amid a Trim. -/
theorem KB.trim_amid (h : KB n q K J D s) (hw : s.wf) (hr : s.right = true) (hq : q + 3 < 250) (f : Int) (h1 : -9223372036854775808 ≤ f) (h2 : f ≤ 9223372036854775807) (zs : List Int) (k : Nat) (hk : k ≤ J.held.length) :
    FoundK n zs (jtrim J { D with fuse := f } k).2.2 s K.held ∨ FoundK n zs (jtrim J { D with fuse := f } k).2.2 s (K.held.drop k) := by
  obtain ⟨m, y, b, hq1, hm, hb⟩ := h.q1
  obtain ⟨c, J1, D1, J2, D2, e1, e2, e3, e4⟩ := amid_trim h.ji hq f h1 h2 k zs
  have hQ : Q1 1 D1 m y b := by
    have e := congrArg (fun r => r.2.2) e1
    dsimp only at e
    rw [← e]
    unfold jtrim
    split
    · exact (hq1.fuse f h1 h2).mono (by decide) (by decide)
    · unfold jsave
      rw [show ((J.trim (k : Int).toNat).loc : Int) = 3 by show (J.loc : Int) = 3; rw [h.ji.loc]; rfl]
      exact (hq1.fuse f h1 h2).saveM _ (by decide)
  have hS := ((hQ.crash zs).jopen (by decide) e2).slotOf hw hr hb
  rw [e1]
  rcases e3 with ⟨e3, _⟩ | ⟨_, _, e3 | e3⟩
  · exact absurd ⟨by omega, by omega⟩ e3
  · exact .inl ⟨e4, J2, D2, e2, by rw [e3]; exact h.hd, hS⟩
  · refine .inr ⟨e4, J2, D2, e2, ?_, hS⟩
    rw [e3, Int.toNat_natCast, List.map_drop]
    show (J.held.map (·.2)).drop k = _
    rw [h.hd]
/-- The disk goes down amid a Cut. -/
theorem KB.cut_amid (h : KB n q K J D s) (hw : s.wf) (hr : s.right = true) (hq : q + 3 < 250) (f : Int) (h1 : -9223372036854775808 ≤ f) (h2 : f ≤ 9223372036854775807) (zs : List Int) (k : Nat) (hk : k ≤ J.held.length) :
    ∃ m, J.held.length - k ≤ m ∧ m ≤ J.held.length ∧ FoundK n zs (jcut J { D with fuse := f } k).2.2 s (K.held.take m) := by
  obtain ⟨m, y, b, hq1, hm, hb⟩ := h.q1
  obtain ⟨c, J1, D1, J2, D2, e1, e2, e3, e4⟩ := amid_cut h.ji hq f h1 h2 k zs
  have hJs : ∀ s, 3 ≤ J.sec s := fun s => by have := (h.ji.sec s).1; omega
  have hlen := h.ji.heldLen
  have hfw := h.ji.few
  have hn := h.ji.n17
  have hQ : Q1 101 D1 m y b := by
    have e := congrArg (fun r => r.2.2) e1
    dsimp only at e
    rw [← e]
    unfold jcut
    split
    · exact (hq1.fuse f h1 h2).mono (by decide) (by decide)
    · split
      · exact (hq1.fuse f h1 h2).mono (by decide) (by decide)
      · unfold jsave
        rw [show ((J.cut (k : Int).toNat).loc : Int) = 3 by show (J.loc : Int) = 3; rw [h.ji.loc]; rfl]
        refine Q1.saveM (k := 100) (((Q1.jzero hJs (k : Int).toNat J.held.length (hq1.fuse f h1 h2).sync (by simp at *; omega)).sync).mono (by simp at *; omega) (by decide)) _ (by decide)
  have hS := ((hQ.crash zs).jopen (by decide) e2).slotOf hw hr hb
  rw [e1]
  rcases e3 with ⟨e3, _⟩ | ⟨_, _, m2, e5, e6, e3⟩
  · exact absurd ⟨by omega, by omega⟩ e3
  · refine ⟨m2, by rw [Int.toNat_natCast] at e5; exact e5, e6, e4, J2, D2, e2, ?_, hS⟩
    rw [e3, List.map_take]
    show (J.held.map (·.2)).take m2 = _
    rw [h.hd]
end
end Go.Proofs.YtcpbmempfeloaaaDoor
/- A crash amid a save of a keeper, plainly: all of it. -/
namespace Go.Proofs.YtcpbmempfeloaaaDoor
open Go.RowKit
set_option linter.unusedVariables false
set_option linter.unusedSimpArgs false

theorem FoundK.sp {n : Nat} {zs : List Int} {D E : Dk} {sl : Sta} {held : List (Nat × En)} (h : FoundK n zs D sl held) (h1 : E.sure = D.sure) (h2 : E.pend = D.pend) : FoundK n zs E sl held := by
  unfold FoundK at h ⊢
  rw [crash_sp h1 h2, h2]
  exact h
/-- A crash behind appends that are not synced. -/
theorem JI.foundK {n q : Nat} {J : Jn} {D : Dk} {L : List (Nat × List UInt8)} {bs : List (List UInt8)} {s : Sta} {held : List (Nat × En)} {m y : Nat} {b : List UInt8} (h : JI 3 n q J D L bs) (hq : q < 250) (hp : Pl D.sure 1 m y b) (hw : s.wf) (hr : s.right = true) (hb : (m = 0 ∧ headB s = headB zSta) ∨ (0 < m ∧ b = headB s)) (hd : J.held.map (·.2) = held.map recB) (zs : List Int) :
    ∃ mm, L.length ≤ mm ∧ mm ≤ held.length ∧ FoundK n zs D s (held.take mm) := by
  obtain ⟨j, D2, hj, e, _⟩ := h.crash hq zs
  have hl := h.heldLen
  have hlen : J.held.length = held.length := by have := congrArg List.length hd; simpa using this
  have hQ : Q1 100 D m y b := ⟨h.up.good, h.up.len, hp, fun x hx => by have := h.plp x hx; omega, h.pend100, by decide⟩
  refine ⟨L.length + j, by omega, by omega, h.pend100, _, D2, e, ?_, ((hQ.crash zs).jopen (by decide) e).slotOf hw hr hb⟩
  show (L ++ recE J.epoch (bs.take j)).map (·.2) = _
  have : L ++ recE J.epoch (bs.take j) = J.held.take (L.length + j) := by
    rw [h.held, List.take_length_add_append]
    simp [recE, List.map_take]
  rw [this, List.map_take, hd, List.map_take]
section
variable {n q : Nat} {K : Ke} {J : Jn} {D : Dk} {s s0 : Sta}
theorem mark_fz (h : KI n q K J D s0) (hw : s.wf) (hr : s.right = true) (hq : q + 3 < 250) (f : Int) (h1 : -9223372036854775808 ≤ f) (h2 : f ≤ 9223372036854775807) (zs : List Int) :
    ((markK K { D with fuse := f } s).1 ≠ 0 ∧ (markK K { D with fuse := f } s).1 ≠ 1 ∧ ∃ sl, (sl = s0 ∨ sl = s) ∧ FoundK n zs (markK K { D with fuse := f } s).2.2 sl K.held) ∨
    ∃ g, -9223372036854775808 ≤ g ∧ g ≤ 9223372036854775807 ∧ markK K { D with fuse := f } s = ((markK K D s).1, (markK K D s).2.1, { (markK K D s).2.2 with fuse := g }) := by
  unfold markK
  by_cases e : headB s = K.slot
  · rw [if_pos e, if_pos e]
    exact .inr ⟨f, h1, h2, rfl⟩
  · rw [if_neg e, if_neg e]
    have hc := h.kb.calm
    obtain ⟨s1, s2⟩ := (show Sim D ({ D with fuse := f } : Dk) from .inr ⟨f, h1, h2, rfl⟩).saveM hc 1 (headB s)
    have hc2 := hc.saveM 1 (headB s)
    cases hd : (saveM { D with fuse := f } 1 (headB s)).2.down with
    | true =>
      obtain ⟨sl, a, b⟩ := h.mark_amid hw hr hq f h1 h2 zs hd
      exact .inl ⟨save_down hd, save_ne1 _ _ _, sl, a, b⟩
    | false =>
      have hcc := s2 hd
      rcases s1 with s1 | ⟨g, g1, g2, s1⟩
      · rw [hd] at s1; cases s1
      · refine .inr ⟨g, g1, g2, ?_⟩
        dsimp only
        rw [hcc, s1]
theorem trim_fz (h : KB n q K J D s) (hw : s.wf) (hr : s.right = true) (hq : q + 3 < 250) (f : Int) (h1 : -9223372036854775808 ≤ f) (h2 : f ≤ 9223372036854775807) (zs : List Int) :
    ((trimK K J { D with fuse := f } s).1 ≠ 0 ∧ (trimK K J { D with fuse := f } s).1 ≠ 1 ∧ (FoundK n zs (trimK K J { D with fuse := f } s).2.2.2 s K.held ∨ FoundK n zs (trimK K J { D with fuse := f } s).2.2.2 s (K.held.drop (trimN K.held s.base)))) ∨
    ∃ g, -9223372036854775808 ≤ g ∧ g ≤ 9223372036854775807 ∧ trimK K J { D with fuse := f } s = ((trimK K J D s).1, (trimK K J D s).2.1, (trimK K J D s).2.2.1, { (trimK K J D s).2.2.2 with fuse := g }) := by
  have hle := trimN_le K.held s.base
  have hl := h.lens
  unfold trimK
  by_cases e : trimN K.held s.base = 0
  · rw [if_pos e, if_pos e]
    exact .inr ⟨f, h1, h2, rfl⟩
  · rw [if_neg e, if_neg e]
    have hA := h.trim_amid hw hr hq f h1 h2 zs (trimN K.held s.base) (by omega)
    have hk : ¬ (((trimN K.held s.base : Nat) : Int) < 0 ∨ (J.held.length : Int) < (trimN K.held s.base : Nat)) := by omega
    unfold jtrim jsave at hA ⊢
    rw [if_neg hk] at hA
    rw [if_neg hk, if_neg hk]
    dsimp only at hA ⊢
    obtain ⟨s1, s2⟩ := (show Sim D ({ D with fuse := f } : Dk) from .inr ⟨f, h1, h2, rfl⟩).saveM h.calm ((J.trim ((trimN K.held s.base : Nat) : Int).toNat).loc : Nat) (metaB (J.trim ((trimN K.held s.base : Nat) : Int).toNat).first (J.trim ((trimN K.held s.base : Nat) : Int).toNat).epoch (J.trim ((trimN K.held s.base : Nat) : Int).toNat).low)
    generalize metaB (J.trim ((trimN K.held s.base : Nat) : Int).toNat).first (J.trim ((trimN K.held s.base : Nat) : Int).toNat).epoch (J.trim ((trimN K.held s.base : Nat) : Int).toNat).low = B at s1 s2 hA ⊢
    cases hd : (saveM { D with fuse := f } ((J.trim ((trimN K.held s.base : Nat) : Int).toNat).loc : Nat) B).2.down with
    | true => exact .inl ⟨save_down hd, save_ne1 _ _ _, hA⟩
    | false =>
      have hcc := s2 hd
      rcases s1 with s1 | ⟨g, g1, g2, s1⟩
      · rw [hd] at s1; cases s1
      · refine .inr ⟨g, g1, g2, ?_⟩
        rw [hcc, s1]
theorem cut_fz (h : KB n q K J D s) (hw : s.wf) (hr : s.right = true) (hq : q + 3 < 250) (f : Int) (h1 : -9223372036854775808 ≤ f) (h2 : f ≤ 9223372036854775807) (zs : List Int) :
    ((cutK K J { D with fuse := f } s).1 ≠ 0 ∧ (cutK K J { D with fuse := f } s).1 ≠ 1 ∧ ∃ m, cutN s K.held 0 ≤ m ∧ FoundK n zs (cutK K J { D with fuse := f } s).2.2.2 s (K.held.take m)) ∨
    ∃ g, -9223372036854775808 ≤ g ∧ g ≤ 9223372036854775807 ∧ cutK K J { D with fuse := f } s = ((cutK K J D s).1, (cutK K J D s).2.1, (cutK K J D s).2.2.1, { (cutK K J D s).2.2.2 with fuse := g }) := by
  have hl := h.lens
  obtain ⟨p, e1, e2, _, _⟩ := cutN_spec s K.held 0
  rw [Nat.zero_add] at e1
  have hep := h.ji.eq
  unfold cutK
  by_cases e : K.held.length - cutN s K.held 0 = 0
  · rw [if_pos e, if_pos e]
    exact .inr ⟨f, h1, h2, rfl⟩
  · rw [if_neg e, if_neg e]
    obtain ⟨mm, a1, a2, hA⟩ := h.cut_amid hw hr hq f h1 h2 zs (K.held.length - cutN s K.held 0) (by omega)
    have hk : ¬ (((K.held.length - cutN s K.held 0 : Nat) : Int) < 0 ∨ (J.held.length : Int) < (K.held.length - cutN s K.held 0 : Nat)) := by omega
    have hk2 : ¬ J.epoch = 4294967295 := by omega
    unfold jcut jsave at hA ⊢
    rw [if_neg hk, if_neg hk2] at hA
    rw [if_neg hk, if_neg hk2, if_neg hk, if_neg hk2]
    dsimp only at hA ⊢
    have hc1 := h.calm.sync
    have hc2 := Calm.jzero (J := J) ((K.held.length - cutN s K.held 0 : Nat) : Int).toNat J.held.length hc1
    have z1 := (show Sim D ({ D with fuse := f } : Dk) from .inr ⟨f, h1, h2, rfl⟩).sync h.calm
    have z2 := (Sim.jzero (J := J) ((K.held.length - cutN s K.held 0 : Nat) : Int).toNat J.held.length hc1 z1).sync hc2
    obtain ⟨s1, s2⟩ := z2.saveM hc2.sync ((J.cut ((K.held.length - cutN s K.held 0 : Nat) : Int).toNat).loc : Nat) (metaB (J.cut ((K.held.length - cutN s K.held 0 : Nat) : Int).toNat).first (J.cut ((K.held.length - cutN s K.held 0 : Nat) : Int).toNat).epoch (J.cut ((K.held.length - cutN s K.held 0 : Nat) : Int).toNat).low)
    generalize metaB (J.cut ((K.held.length - cutN s K.held 0 : Nat) : Int).toNat).first (J.cut ((K.held.length - cutN s K.held 0 : Nat) : Int).toNat).epoch (J.cut ((K.held.length - cutN s K.held 0 : Nat) : Int).toNat).low = B at s1 s2 hA ⊢
    generalize (jzero J ((K.held.length - cutN s K.held 0 : Nat) : Int).toNat J.held.length ({ D with fuse := f } : Dk).sync).sync = E at s1 s2 hA ⊢
    cases hd : (saveM E ((J.cut ((K.held.length - cutN s K.held 0 : Nat) : Int).toNat).loc : Nat) B).2.down with
    | true => exact .inl ⟨save_down hd, save_ne1 _ _ _, mm, by omega, hA⟩
    | false =>
      have hcc := s2 hd
      rcases s1 with s1 | ⟨g, g1, g2, s1⟩
      · rw [hd] at s1; cases s1
      · refine .inr ⟨g, g1, g2, ?_⟩
        rw [hcc, s1]
theorem addL_fz {L : List (Nat × List UInt8)} {m y : Nat} {b0 : List UInt8} (b : Nat) (hw : s.wf) (hr : s.right = true) (hb : (m = 0 ∧ headB s = headB zSta) ∨ (0 < m ∧ b0 = headB s)) (zs : List Int) : ∀ (xs : List En) (q : Nat) (K : Ke) (J : Jn) (D : Dk) (bs : List (List UInt8)) (f : Int), -9223372036854775808 ≤ f → f ≤ 9223372036854775807 → JI 3 n q J D L bs → Pl D.sure 1 m y b0 → J.held.map (·.2) = K.held.map recB → K.held.length + xs.length ≤ n → (∀ x ∈ xs, badE x = false) → q + xs.length < 250 →
    ((addL b xs K J { D with fuse := f }).1 ≠ 0 ∧ (addL b xs K J { D with fuse := f }).1 ≠ 1 ∧ ∃ mm, L.length ≤ mm ∧ FoundK n zs (addL b xs K J { D with fuse := f }).2.2.2 s ((K.held ++ recs (b + K.held.length) xs).take mm)) ∨
    ∃ J' D' bs' g, -9223372036854775808 ≤ g ∧ g ≤ 9223372036854775807 ∧ addL b xs K J { D with fuse := f } = (0, { K with held := K.held ++ recs (b + K.held.length) xs }, J', { D' with fuse := g }) ∧ JI 3 n (q + xs.length) J' D' L bs' ∧ Pl D'.sure 1 m y b0 ∧ J'.held.map (·.2) = (K.held ++ recs (b + K.held.length) xs).map recB
  | [], q, K, J, D, bs, f, h1, h2, hj, hp, hd, hl, hx, hq => .inr ⟨J, D, bs, f, h1, h2, by simp [addL, recs], hj, hp, by simpa [recs] using hd⟩
  | x :: xs, q, K, J, D, bs, f, h1, h2, hj, hp, hd, hl, hx, hq => by
    rw [List.length_cons] at hl hq
    have hlen : J.held.length = K.held.length := by have := congrArg List.length hd; simpa using this
    have hbl := recB_len (r := (b + 1 + K.held.length, x)) (hx x (by simp))
    obtain ⟨R, hR⟩ : ∃ R, recB (b + 1 + K.held.length, x) = R := ⟨_, rfl⟩
    rw [hR] at hbl
    have hnq := hj.nq
    have hhl := hj.heldLen
    have hjn := hj.jn
    have hc : Calm D := ⟨hj.up.up, hj.up.fz⟩
    have hfull : ¬ (J.held.length = J.n ∨ 4294967295 < J.next) := by unfold Jn.next; omega
    have ejE : ∀ E : Dk, jappend J E R = ((E.write (J.sec J.next) (stampB J.next J.epoch R)).1, { J with held := J.held ++ [(J.epoch, R)] }, (E.write (J.sec J.next) (stampB J.next J.epoch R)).2) := fun E => by
      unfold jappend
      rw [if_neg (by omega), if_neg hfull]
    have er : K.held ++ [(b + 1 + K.held.length, x)] ++ recs (b + (K.held ++ [(b + 1 + K.held.length, x)]).length) xs = K.held ++ recs (b + K.held.length) (x :: xs) := by
      rw [List.append_assoc]
      show K.held ++ ((b + 1 + K.held.length, x) :: _) = K.held ++ ((b + K.held.length + 1, x) :: recs (b + K.held.length + 1) xs)
      rw [List.length_append, List.length_singleton, show b + 1 + K.held.length = b + K.held.length + 1 from by omega, show b + (K.held.length + 1) = b + K.held.length + 1 from by omega]
      rfl
    have hsl := stampB_length J.next J.epoch R hbl
    have hsec := (hj.sec J.next).2
    obtain ⟨s1, s2⟩ := (show Sim D ({ D with fuse := f } : Dk) from .inr ⟨f, h1, h2, rfl⟩).write hc (J.sec J.next) (stampB J.next J.epoch R)
    have hsp := write_sp ({ D with fuse := f } : Dk) (J.sec J.next) (stampB J.next J.epoch R) (by show J.sec J.next < D.sure.length; rw [hj.up.len]; exact hsec) (by omega)
    unfold addL
    rw [hR, ejE]
    dsimp only
    rcases hsp with ⟨w1, w2, w3, w4, _⟩ | ⟨_, w1, w2, _⟩
    · left
      rw [if_pos (by rw [w1]; decide)]
      obtain ⟨mm, m1, m2, m3⟩ := hj.foundK (by omega) hp hw hr hb hd zs
      refine ⟨by show _ ≠ (0 : Int); rw [w1]; decide, by show _ ≠ (1 : Int); rw [w1]; decide, mm, m1, ?_⟩
      rw [List.take_append_of_le_length m2]
      exact m3.sp w3 w4
    · rw [if_neg (by rw [w1]; decide)]
      rcases s1 with s1 | ⟨g, g1, g2, s1⟩
      · rw [w2] at s1; cases s1
      · rcases hj.appends (by omega) R with ⟨a1, a2, a3⟩ | ⟨_, _, a⟩
        · have hp2 := hj.pl1_append (by omega) hp R
          rw [ejE D] at a2 hp2
          dsimp only at a2 hp2
          have := addL_fz b hw hr hb zs xs (q + 1) { K with held := K.held ++ [(b + 1 + K.held.length, x)] } { J with held := J.held ++ [(J.epoch, R)] } (D.write (J.sec J.next) (stampB J.next J.epoch R)).2 _ g g1 g2 a2 hp2
            (by show (J.held ++ _).map _ = (K.held ++ _).map _; rw [List.map_append, List.map_append, hd, ← hR]; rfl) (by show (K.held ++ _).length + _ ≤ _; rw [List.length_append, List.length_singleton]; omega) (fun y hy => hx y (by simp [hy])) (by omega)
          dsimp only at this
          rw [er, ← s1] at this
          rw [List.length_cons, show q + (xs.length + 1) = q + 1 + xs.length from by omega]
          exact this
        · rcases a with a | a
          · omega
          · omega
/-- The list behind what is dropped. -/
def behindS (s0 s : Sta) : List En := s0.es.drop (s.base - s0.base)
theorem held_trim (hb : s0.base ≤ s.base) : (recs s0.base s0.es).drop (trimN (recs s0.base s0.es) s.base) = recs s.base (behindS s0 s) := by
  unfold behindS
  rw [trimN_recs]
  by_cases h : s.base - s0.base ≤ s0.es.length
  · rw [Nat.min_eq_left h, recs_drop _ _ _ h, show s0.base + (s.base - s0.base) = s.base from by omega]
  · rw [Nat.min_eq_right (by omega), List.drop_of_length_le (by rw [recs_len]; exact Nat.le_refl _), List.drop_of_length_le (by omega)]
    rfl
/-- What is found behind a crash amid a save. -/
def AmidH (s0 s sl : Sta) (held : List (Nat × En)) (c : Int) : Prop :=
  (c ≠ 0 ∧ held = recs s0.base s0.es ∧ (sl = s0 ∨ sl = s)) ∨ (sl = s ∧ ((c ≠ 0 ∧ ∃ m, comm (behindS s0 s) s.es ≤ m ∧ held = recs s.base ((behindS s0 s).take m)) ∨ ∃ m, comm (behindS s0 s) s.es ≤ m ∧ held = recs s.base (s.es.take m) ∧ (c = 0 → s.es.length ≤ m)))
/-- A save, the disk going down wherever in it. -/
theorem KI.amid (h : KI n q K J D s0) (hr : s.right = true) (hw : s.wf) (hb : s0.base ≤ s.base) (hn : s.es.length ≤ n) (hq : q + n + 8 < 250) (f : Int) (h1 : -9223372036854775808 ≤ f) (h2 : f ≤ 9223372036854775807) (zs : List Int) :
    ∃ c K1 J1 D1 sl held, saveK n K J { D with fuse := f } s = (c, K1, J1, D1) ∧ c ≠ 1 ∧ FoundK n zs D1 sl held ∧ AmidH s0 s sl held c := by
  have hsv : saveK n K J { D with fuse := f } s = if (stepsK K J { D with fuse := f } s).1 ≠ 0 then stepsK K J { D with fuse := f } s else (if (stepsK K J { D with fuse := f } s).2.2.2.down then 43 else 0, (stepsK K J { D with fuse := f } s).2) := by
    unfold saveK
    rw [if_neg (by rw [hr, h.kb.base]; simp; omega), if_neg (by omega)]
  rw [hsv]
  have OUT : ∀ {x : Int × Ke × Jn × Dk} {sl : Sta} {held : List (Nat × En)}, stepsK K J { D with fuse := f } s = x → x.1 ≠ 0 → x.1 ≠ 1 → FoundK n zs x.2.2.2 sl held → (∀ c : Int, c ≠ 0 → AmidH s0 s sl held c) → ∃ c K1 J1 D1 sl held, (if (stepsK K J { D with fuse := f } s).1 ≠ 0 then stepsK K J { D with fuse := f } s else (if (stepsK K J { D with fuse := f } s).2.2.2.down then 43 else 0, (stepsK K J { D with fuse := f } s).2)) = (c, K1, J1, D1) ∧ c ≠ 1 ∧ FoundK n zs D1 sl held ∧ AmidH s0 s sl held c := fun {x sl held} e x0 x1 hf ha => by
    rw [e, if_pos x0]
    exact ⟨x.1, x.2.1, x.2.2.1, x.2.2.2, sl, held, rfl, x1, hf, ha _ x0⟩
  obtain ⟨k1, k2, k3⟩ := h.mark (s := s) (by omega)
  rcases mark_fz (s := s) h hw hr (by omega) f h1 h2 zs with ⟨m1, m2, sl, m3, m4⟩ | ⟨g, g1, g2, em⟩
  · rw [h.cl] at m4
    exact OUT (x := ((markK K { D with fuse := f } s).1, (markK K { D with fuse := f } s).2.1, J, (markK K { D with fuse := f } s).2.2)) (by unfold stepsK; rw [if_pos m1]) m1 m2 m4 fun c hc => .inl ⟨hc, rfl, m3⟩
  obtain ⟨Km, hKm⟩ : ∃ x, (markK K D s).2.1 = x := ⟨_, rfl⟩
  obtain ⟨Dm, hDm⟩ : ∃ x, (markK K D s).2.2 = x := ⟨_, rfl⟩
  rw [k1, hKm, hDm] at em
  rw [hKm, hDm] at k2
  rw [hKm] at k3
  have hm0 : (markK K { D with fuse := f } s).1 = 0 := by rw [em]
  obtain ⟨t1, t2, t3⟩ := k2.trim (by omega)
  rw [k3, h.cl] at t3
  rw [held_trim hb] at t3
  rcases trim_fz k2 hw hr (by omega) g g1 g2 zs with ⟨m1, m2, m3⟩ | ⟨g', g1', g2', et⟩
  · have est : stepsK K J { D with fuse := f } s = trimK Km J { Dm with fuse := g } s := by
      unfold stepsK
      rw [if_neg (fun k => k hm0), em]
      dsimp only
      rw [if_pos m1]
    rcases m3 with m3 | m3
    · rw [k3, h.cl] at m3
      exact OUT est m1 m2 m3 fun c hc => .inl ⟨hc, rfl, .inr rfl⟩
    · rw [k3, h.cl, held_trim hb] at m3
      refine OUT est m1 m2 m3 fun c hc => .inr ⟨rfl, .inl ⟨hc, (behindS s0 s).length, (comm_le _ _).1, by rw [List.take_length]⟩⟩
  obtain ⟨Kt, hKt⟩ : ∃ x, (trimK Km J Dm s).2.1 = x := ⟨_, rfl⟩
  obtain ⟨Jt, hJt⟩ : ∃ x, (trimK Km J Dm s).2.2.1 = x := ⟨_, rfl⟩
  obtain ⟨Dt, hDt⟩ : ∃ x, (trimK Km J Dm s).2.2.2 = x := ⟨_, rfl⟩
  rw [t1, hKt, hJt, hDt] at et
  rw [hKt, hJt, hDt] at t2
  rw [hKt] at t3
  obtain ⟨c1, c2, c3⟩ := t2.cut (by omega)
  have hcm : cutN s Kt.held 0 = comm (behindS s0 s) s.es := by
    have := cutN_comm s (behindS s0 s) 0
    rw [Nat.add_zero, Nat.zero_add, List.drop_zero] at this
    rw [t3, this]
  have ht0 : (trimK Km J { Dm with fuse := g } s).1 = 0 := by rw [et]
  rcases cut_fz t2 hw hr (by omega) g' g1' g2' zs with ⟨m1, m2, mm, m3, m4⟩ | ⟨g'', g1'', g2'', ec⟩
  · have est : stepsK K J { D with fuse := f } s = cutK Kt Jt { Dt with fuse := g' } s := by
      unfold stepsK
      rw [if_neg (fun k => k hm0), em]
      dsimp only
      rw [if_neg (fun k => k ht0), et]
      dsimp only
      rw [if_pos m1]
    rw [hcm] at m3
    rw [t3, recs_take] at m4
    exact OUT est m1 m2 m4 fun c hc => .inr ⟨rfl, .inl ⟨hc, mm, m3, rfl⟩⟩
  rw [hcm, t3, recs_take] at c3
  obtain ⟨Kc, hKc⟩ : ∃ x, (cutK Kt Jt Dt s).2.1 = x := ⟨_, rfl⟩
  obtain ⟨Jc, hJc⟩ : ∃ x, (cutK Kt Jt Dt s).2.2.1 = x := ⟨_, rfl⟩
  obtain ⟨Dc, hDc⟩ : ∃ x, (cutK Kt Jt Dt s).2.2.2 = x := ⟨_, rfl⟩
  rw [c1, hKc, hJc, hDc] at ec
  rw [hKc, hJc, hDc] at c2
  rw [hKc] at c3
  have hc0 : (cutK Kt Jt { Dt with fuse := g' } s).1 = 0 := by rw [ec]
  have est : stepsK K J { D with fuse := f } s = addK Kc Jc { Dc with fuse := g'' } s := by
    unfold stepsK
    rw [if_neg (fun k => k hm0), em]
    dsimp only
    rw [if_neg (fun k => k ht0), et]
    dsimp only
    rw [if_neg (fun k => k hc0), ec]
  obtain ⟨l1, l2, l3⟩ := comm_le (behindS s0 s) s.es
  obtain ⟨p, hp⟩ : ∃ p, comm (behindS s0 s) s.es = p := ⟨_, rfl⟩
  rw [hp] at c3 l1 l2 l3
  rw [l3] at c3
  have hkl : Kc.held.length = p := by rw [c3, recs_len, List.length_take]; omega
  obtain ⟨m, y, b, hpl, hm, hsl⟩ := c2.sl
  have er : Kc.held ++ recs (s.base + Kc.held.length) (s.es.drop p) = recs s.base s.es := by
    rw [hkl]
    conv => rhs; rw [← List.take_append_drop p s.es, recs_append]
    rw [c3, List.length_take, Nat.min_eq_left l2]
  have hJc := c2.lens
  have hA := addL_fz (L := Jc.held) s.base hw hr hsl zs (s.es.drop p) (q + 1 + 1 + 1) Kc Jc Dc [] g'' g1'' g2'' c2.ji hpl c2.hd (by rw [hkl, List.length_drop]; omega) (fun x hx => right_es hr x (List.mem_of_mem_drop hx)) (by rw [List.length_drop]; omega)
  rw [er] at hA
  rcases hA with ⟨m1, m2, mm, m3, m4⟩ | ⟨J', D', bs', u, u1, u2, ea, j1, j2, j3⟩
  · have est2 : stepsK K J { D with fuse := f } s = addL s.base (s.es.drop p) Kc Jc { Dc with fuse := g'' } := by
      rw [est]
      unfold addK
      rw [hkl, if_pos m1]
    rw [recs_take] at m4
    refine OUT est2 m1 m2 m4 fun c hc => .inr ⟨rfl, .inr ⟨mm, by rw [hp]; omega, rfl, fun k => absurd k hc⟩⟩
  · rw [List.length_drop] at j1
    have hcal : Calm D' := ⟨j1.up.up, j1.up.fz⟩
    by_cases he : s.es.drop p = []
    · -- nothing is appended
      have est2 : stepsK K J { D with fuse := f } s = (0, Kc, Jc, { Dc with fuse := g'' }) := by
        rw [est]
        unfold addK
        rw [hkl, ea]
        dsimp only
        rw [if_neg (fun k => k rfl), if_pos he]
      rw [est2]
      dsimp only
      rw [if_neg (fun k => k rfl)]
      have hdn : ({ Dc with fuse := g'' } : Dk).down = false := c2.calm.1
      obtain ⟨mm, m3, m4, m5⟩ := c2.ji.foundK (by omega) hpl hw hr hsl c2.hd zs
      rw [c3, recs_take] at m5
      have hpe : p = s.es.length := by have := congrArg List.length he; rw [List.length_drop] at this; simp at this; omega
      have hmm : mm = p := by omega
      refine ⟨0, Kc, Jc, { Dc with fuse := g'' }, s, _, ?_, by decide, m5.sp rfl rfl, .inr ⟨rfl, .inr ⟨p, by omega, ?_, fun _ => by omega⟩⟩⟩
      · rw [hdn]; rfl
      · rw [hmm, List.take_take, Nat.min_self]
    · have est2 : stepsK K J { D with fuse := f } s = (0, { Kc with held := recs s.base s.es }, J', ({ D' with fuse := u } : Dk).sync) := by
        rw [est]
        unfold addK
        rw [hkl, ea]
        dsimp only
        rw [if_neg (fun k => k rfl), if_neg he]
      rw [est2]
      dsimp only
      rw [if_neg (fun k => k rfl)]
      have hcs := hcal.sync
      rcases (show Sim D' ({ D' with fuse := u } : Dk) from .inr ⟨u, u1, u2, rfl⟩).sync hcal with hd | ⟨v, v1, v2, ev⟩
      · -- the disk goes down at the last sync
        rcases sync_sp ({ D' with fuse := u } : Dk) with ⟨_, y1, y2, _⟩ | ⟨_, y1, _⟩
        · obtain ⟨mm, m3, m4, m5⟩ := j1.foundK (by omega) j2 hw hr hsl j3 zs
          rw [recs_take] at m5
          refine ⟨43, _, _, _, s, _, by rw [hd]; rfl, by decide, m5.sp y1 y2, .inr ⟨rfl, .inr ⟨mm, by omega, rfl, fun k => by cases k⟩⟩⟩
        · rw [hd] at y1; cases y1
      · have j4 := j1.syncs (by omega)
        have j5 := j1.pl1_sync j2
        obtain ⟨mm, m3, m4, m5⟩ := j4.foundK (by omega) j5 hw hr hsl j3 zs
        have hll : J'.held.length = (recs s.base s.es).length := by have := congrArg List.length j3; simpa using this
        rw [recs_len] at hll
        rw [recs_take] at m5
        rw [recs_len] at m4
        rw [ev]
        refine ⟨0, { Kc with held := recs s.base s.es }, J', { D'.sync with fuse := v }, s, _, Prod.ext (if_neg (by show ¬ D'.sync.down = true; rw [hcs.1]; decide)) rfl, by decide, m5.sp rfl rfl, .inr ⟨rfl, .inr ⟨mm, by omega, rfl, fun _ => by omega⟩⟩⟩
end
end Go.Proofs.YtcpbmempfeloaaaDoor
