/- Texts of the proofs, part 23: what the functions that they reach do, walked; no conditions beyond those that each states. -/
import Derived.Test.YtcpbmempfeloaaaDoorZzfd40dd21f9
set_option linter.unusedVariables false
set_option linter.unusedSimpArgs false
/- Law 6: a crash amid Trim, amid Cut, plainly. -/
namespace Go.Proofs.YtcpbmempfeloaaaDoor
open Go.RowKit
set_option linter.unusedVariables false
set_option linter.unusedSimpArgs false

theorem crash_up {E : Dk} (h : E.good) (hl : E.sure.length = 20) (zs : List Int) : Up (E.crash zs) := ⟨h.crash zs, by show (layTorn zs E.sure E.pend).length = 20; rw [layTorn_len, hl], rfl, by show (-1 : Int) < 0; decide⟩
theorem slot_torn {S0 : List (List UInt8)} {z m y : Nat} {b0 b : List UInt8} (hp : Pl S0 z m y b0) (h64 : ∀ x ∈ S0, x.length = 64) (hl : S0.length = 20) (hz : z + 1 < 20) (hm : m + 1 < 4294967295) (hb : b.length ≤ 43) {E : Dk}
    (he : (E.sure = S0 ∧ (E.pend = [] ∨ E.pend = [(y, stampB (m + 1) 0 b)])) ∨ (E.sure = S0.set y (stampB (m + 1) 0 b) ∧ E.pend = [])) (zs : List Int) :
    (Pl (E.crash zs).seen z m y b0 ∨ Pl (E.crash zs).seen z (m + 1) (2 * z + 1 - y) b) ∧ (∀ x, z + 1 < x → (E.crash zs).seen.getD x [] = S0.getD x []) ∧ (E.crash zs).seen.length = 20 := by
  have hyk := hp.yk
  have hst := hp.step (by rw [hl]; omega) (by omega) hb
  have hcs : (E.crash zs).seen = layTorn zs E.sure E.pend := rfl
  have hset : ∀ X, (∀ x, z + 1 < x → (S0.set y X).getD x [] = S0.getD x []) ∧ (S0.set y X).length = 20 := fun X => ⟨fun x hx => getD_set_other (by omega) _, by simp [hl]⟩
  rcases he with ⟨e1, e2 | e2⟩ | ⟨e1, e2⟩
  · rw [hcs, e1, e2]
    exact ⟨.inl hp, fun x _ => rfl, hl⟩
  · have e3 : (E.crash zs).seen = S0.set y (tear (pickAt zs 0) (stampB (m + 1) 0 b) (S0.getD y [])) := by rw [hcs, e1, e2]; rfl
    rw [e3]
    refine ⟨?_, hset _⟩
    rcases hp.tear h64 (by rw [hl]; omega) (by omega) hb (pickAt zs 0) with h | h
    · exact .inl h
    · rw [h]; exact .inr hst
  · rw [hcs, e1, e2]
    exact ⟨.inr hst, hset _⟩
theorem Rg.low {S S' : List (List UInt8)} {z n f low E : Nat} {L : List (Nat × List UInt8)} (h : Rg S (z + 2) n f low E L) (hl : S.length = 20) (hl' : S'.length = 20) (he : ∀ x, z + 1 < x → S'.getD x [] = S.getD x []) : Rg S' (z + 2) n f low E L :=
  h.congr (by rw [hl, hl']) fun x _ => he _ (by omega)

section
variable {z n q : Nat} {J : Jn} {D : Dk} {L : List (Nat × List UInt8)}
/-- Trim, the disk going down wherever in it. -/
theorem amid_trim (h : JI z n q J D L []) (hq : q + 3 < 250) (fu : Int) (hf1 : -9223372036854775808 ≤ fu) (hf2 : fu ≤ 9223372036854775807) (k : Int) (zs : List Int) :
    ∃ c J1 D1 J2 D2, jtrim J { D with fuse := fu } k = (c, J1, D1) ∧ jopen (D1.crash zs) z n = (0, some J2, D2) ∧ ((¬ (0 ≤ k ∧ k ≤ J.held.length) ∧ c = 1 ∧ J2.all = J.all) ∨ ((0 ≤ k ∧ k ≤ J.held.length) ∧ (c = 0 ∨ c = 43) ∧ (J2.all = J.all ∨ J2.all = J.all.drop k.toNat))) ∧ D1.pend.length ≤ 100 := by
  obtain ⟨hpe, hss, hL⟩ := h.synced
  have hnq := h.nq
  have heq := h.eq
  have hn17 := h.n17
  unfold jtrim
  by_cases hk : k < 0 ∨ (J.held.length : Int) < k
  · rw [if_pos hk]
    obtain ⟨D', e, _⟩ := h.again (by omega) zs
    exact ⟨1, J, _, { J with epoch := J.epoch + 1 }, D', rfl, by rw [crash_sp (D := { D with fuse := fu }) (E := D) rfl rfl]; exact e, .inl ⟨by omega, rfl, rfl⟩, by show D.pend.length ≤ 100; rw [hpe]; decide⟩
  · rw [if_neg hk]
    obtain ⟨m, y, hp, h0, hm⟩ := h.pl
    have hkn : k.toNat ≤ J.held.length := by omega
    have hfm : (J.first + k.toNat) % 4294967296 = J.first + k.toNat := by
      have := h.heldLen
      simp at this
      exact Nat.mod_eq_of_lt (by omega)
    have e : J.trim k.toNat = ⟨z, n, J.first + k.toNat, J.epoch, lastE J.low (J.held.take k.toNat), J.held.drop k.toNat⟩ := by
      unfold Jn.trim
      rw [h.loc, h.jn, hfm]
    have hb : (metaB (J.first + k.toNat) J.epoch (lastE J.low (J.held.take k.toNat))).length ≤ 43 := by rw [metaB_length]; decide
    have hl20 := h.up.len
    have hr := h.ring
    rw [hL] at hr
    have hrt := hr.trim k.toNat hkn
    have hsp := save_sp (D := { D with fuse := fu }) (z := z) (b := metaB (J.first + k.toNat) J.epoch (lastE J.low (J.held.take k.toNat))) hl20 (by show D.seen.length = 20; rw [hss, hl20]) (by omega) (by show Pl D.seen z m y _; rw [hss]; exact hp) (by omega) hb
    have hg := (h.up.good.fuse fu hf1 hf2).saveM z (metaB (J.first + k.toNat) J.epoch (lastE J.low (J.held.take k.toNat))) (by show D.pend.length < 1000000; rw [hpe]; decide)
    have hpd := pend_saveM { D with fuse := fu } z (metaB (J.first + k.toNat) J.epoch (lastE J.low (J.held.take k.toNat)))
    rw [e]
    show ∃ c J1 D1 J2 D2, ((saveM { D with fuse := fu } z (metaB (J.first + k.toNat) J.epoch (lastE J.low (J.held.take k.toNat)))).1, _, (saveM { D with fuse := fu } z (metaB (J.first + k.toNat) J.epoch (lastE J.low (J.held.take k.toNat)))).2) = (c, J1, D1) ∧ _
    obtain ⟨c, E, hE⟩ : ∃ c E, saveM { D with fuse := fu } z (metaB (J.first + k.toNat) J.epoch (lastE J.low (J.held.take k.toNat))) = (c, E) := ⟨_, _, rfl⟩
    rw [hE] at hsp hg hpd ⊢
    obtain ⟨hc, hsp⟩ := hsp
    have hst : (E.sure = D.sure ∧ (E.pend = [] ∨ E.pend = [(y, stampB (m + 1) 0 (metaB (J.first + k.toNat) J.epoch (lastE J.low (J.held.take k.toNat))))])) ∨ (E.sure = D.sure.set y (stampB (m + 1) 0 (metaB (J.first + k.toNat) J.epoch (lastE J.low (J.held.take k.toNat)))) ∧ E.pend = []) := by
      have hlay : laySure D.sure D.pend = D.sure := by rw [hpe]; rfl
      rcases hsp with ⟨s1, s2⟩ | ⟨_, s1, s2⟩ | ⟨_, s1, s2⟩
      · exact .inl ⟨s1, .inl (by rw [← hpe]; exact s2)⟩
      · exact .inl ⟨by rw [← hlay]; exact s1, s2⟩
      · exact .inr ⟨by rw [← hlay]; exact s1, s2⟩
    have hEl : E.sure.length = 20 := by
      rcases hst with ⟨s1, _⟩ | ⟨s1, _⟩
      · rw [s1, hl20]
      · rw [s1]; simp [hl20]
    obtain ⟨t1, t2, t3⟩ := slot_torn hp h.up.good.ok.u64 hl20 (by omega) (by omega) hb hst zs
    have hu := crash_up hg hEl zs
    have hle := hr.mono.le
    have hlt := hrt.mono.le
    have hf1 := hr.f1
    have hl2 := h.heldLen
    simp at hl2
    rcases t1 with t1 | t1
    · obtain ⟨D', eo⟩ := open_any hu t1 h0 (by omega) (by omega) hr.n1 (by omega) (by omega) hle (by omega)
      rw [jheld_rg (hr.low hl20 t3 t2)] at eo
      exact ⟨c, _, E, _, D', rfl, eo, .inr ⟨by omega, hc, .inl rfl⟩, by have : E.pend.length ≤ D.pend.length + 1 := hpd; rw [hpe] at this; simp at this; omega⟩
    · obtain ⟨D', eo⟩ := open_any hu t1 (by omega) (by omega) (by omega) hr.n1 (by omega) (by omega) hlt (by omega)
      rw [jheld_rg (hrt.low hl20 t3 t2)] at eo
      exact ⟨c, _, E, _, D', rfl, eo, .inr ⟨by omega, hc, .inr (by simp [Jn.all, List.map_drop])⟩, by have : E.pend.length ≤ D.pend.length + 1 := hpd; rw [hpe] at this; simp at this; omega⟩
end

/-- The zeros of a Cut, the last one first. -/
def zl (c n f : Nat) : Nat → Nat → List (Nat × List UInt8)
  | _, 0 => []
  | m, k + 1 => (c + (f + (m - 1)) % n, zero64) :: zl c n f (m - 1) k
theorem zl_mem (c n f : Nat) : ∀ k m, ∀ x ∈ zl c n f m k, c ≤ x.1
  | 0, m, x, h => by simp [zl] at h
  | k + 1, m, x, h => by
    rcases List.mem_cons.1 h with rfl | h
    · simp
    · exact zl_mem c n f k (m - 1) x h
theorem zl_len (c n f : Nat) : ∀ k m, (zl c n f m k).length = k
  | 0, m => rfl
  | k + 1, m => by simp [zl, zl_len c n f k (m - 1)]
theorem zl_torn (zs : List Int) (c n f : Nat) : ∀ (k m u : Nat) (S : List (List UInt8)), k ≤ m → m ≤ n → c + n ≤ S.length → ∀ t, t < n →
    (((zl c n f m k).zipIdx u).foldl (tornAt zs) S).getD (c + (f + t) % n) [] = if m - k ≤ t ∧ t < m then tear (pickAt zs (u + (m - 1 - t))) zero64 (S.getD (c + (f + t) % n) []) else S.getD (c + (f + t) % n) []
  | 0, m, u, S, _, _, _, t, _ => by
    rw [if_neg (by omega)]; rfl
  | k + 1, 0, u, S, h, _, _, t, _ => by omega
  | k + 1, m + 1, u, S, hk, hm, hl, t, ht => by
    have hmod : (f + m) % n < n := Nat.mod_lt _ (by omega)
    have e0 : (((zl c n f (m + 1) (k + 1)).zipIdx u).foldl (tornAt zs) S) = ((zl c n f m k).zipIdx (u + 1)).foldl (tornAt zs) (S.set (c + (f + m) % n) (tear (pickAt zs u) zero64 (S.getD (c + (f + m) % n) []))) := rfl
    rw [e0, zl_torn zs c n f k m (u + 1) _ (by omega) (by omega) (by simpa using hl) t ht]
    have hother : t ≠ m → (S.set (c + (f + m) % n) (tear (pickAt zs u) zero64 (S.getD (c + (f + m) % n) []))).getD (c + (f + t) % n) [] = S.getD (c + (f + t) % n) [] := fun hne => by
      refine getD_set_other ?_ _
      rcases Nat.lt_or_ge t m with h1 | h1
      · have := mod_ne (f := f) (i := t) (j := m) (n := n) h1 (by omega); omega
      · have := mod_ne (f := f) (i := m) (j := t) (n := n) (by omega) (by omega); omega
    by_cases h1 : t = m
    · subst h1
      rw [if_neg (by omega), if_pos (by omega), getD_set_same (by omega)]
      congr 2
      omega
    · rw [hother h1]
      by_cases h2 : m - k ≤ t ∧ t < m
      · rw [if_pos h2, if_pos (by omega)]
        congr 2
        omega
      · rw [if_neg h2, if_neg (by omega)]
theorem Rg.cuts {c n f low E : Nat} : ∀ (k : Nat) {S : List (List UInt8)} {H : List (Nat × List UInt8)}, Rg S c n f low E H → k ≤ H.length → Rg (laySure S (zl c n f H.length k)) c n f low E (H.take (H.length - k))
  | 0, S, H, h, _ => by
    rw [Nat.sub_zero, List.take_length]; exact h
  | k + 1, S, H, h, hk => by
    obtain ⟨M, x, rfl, hM⟩ := snoc_of (l := H) (m := H.length - 1) (by omega)
    have h1 := h.cut1
    have h2 := Rg.cuts k h1 (by simp at hk; omega)
    have e : (M ++ [x]).length = M.length + 1 := by simp
    rw [e]
    have e2 : laySure S (zl c n f (M.length + 1) (k + 1)) = laySure (S.set (c + (f + M.length) % n) zero64) (zl c n f M.length k) := rfl
    rw [e2, show (M ++ [x]).take (M.length + 1 - (k + 1)) = M.take (M.length - k) by
      rw [List.take_append_of_le_length (by omega)]; congr 1; omega]
    exact h2
theorem first_pos (p : Nat → Nat) : ∀ (d a b : Nat), b = a + d → ∃ m, a ≤ m ∧ m ≤ b ∧ (∀ t, a ≤ t → t < m → p t = 0) ∧ (m = b ∨ 0 < p m)
  | 0, a, b, h => ⟨b, by omega, Nat.le_refl _, fun t h1 h2 => by omega, .inl rfl⟩
  | d + 1, a, b, h => by
    by_cases hp : 0 < p a
    · exact ⟨a, Nat.le_refl _, by omega, fun t h1 h2 => by omega, .inr hp⟩
    · obtain ⟨m, h1, h2, h3, h4⟩ := first_pos p d (a + 1) b (by omega)
      refine ⟨m, by omega, h2, fun t h5 h6 => ?_, h4⟩
      by_cases ht : t = a
      · subst ht; omega
      · exact h3 t (by omega) h6
theorem torn_none {X : List UInt8} {s e p : Nat} {b : List UInt8} (hX : X = stampB s e b) (hs : s < 256) (he : e < 4294967296) (hb : b.length ≤ 43) (hp : 0 < p) : parseP (tear p zero64 X) = none := by
  subst hX
  have hl : zero64.length = (stampB s e b).length := by rw [stampB_length _ _ _ hb]; rfl
  have h1 := seq_tear p zero64 (stampB s e b) hl
  rw [(st_nums s e b (by omega) he hb).1, zero_nums.1, Nat.zero_mod, Nat.zero_add] at h1
  have h2 : (256 : Nat) ≤ 256 ^ p := by
    have := Nat.pow_le_pow_right (n := 256) (by decide) (show 1 ≤ p by omega)
    omega
  rw [Nat.div_eq_of_lt (by omega), Nat.zero_mul] at h1
  unfold parseP
  rw [if_neg (fun hh => hh.2.1 h1)]
/-- What is found where the last ones are torn by zeros. -/
theorem scan_torn {S S' : List (List UInt8)} {c n f low E i : Nat} {H : List (Nat × List UInt8)} (h : Rg S c n f low E H) (hi : i ≤ H.length) (p : Nat → Nat)
    (hS : ∀ t, t < n → S'.getD (c + (f + t) % n) [] = if H.length - i ≤ t ∧ t < H.length then tear (p t) zero64 (S.getD (c + (f + t) % n) []) else S.getD (c + (f + t) % n) []) :
    ∃ m, H.length - i ≤ m ∧ m ≤ H.length ∧ scanM (fun s => parseP (S'.getD (c + s % n) [])) E n f low = H.take m := by
  obtain ⟨m, h1, h2, h3, h4⟩ := first_pos p i (H.length - i) H.length (by omega)
  have hfew := h.few
  have hfm := h.fm
  have hf1 := h.f1
  have hem := h.em
  have hsame : ∀ t, t < m → S'.getD (c + (f + t) % n) [] = S.getD (c + (f + t) % n) [] := fun t ht => by
    rw [hS t (by omega)]
    split
    · rename_i hh
      rw [h3 t hh.1 ht]; simp [tear]
    · rfl
  refine ⟨m, h1, h2, ?_⟩
  have hlm : (H.take m).length = m := by rw [List.length_take]; omega
  refine scan_chain _ E (H.take m) n f low (by omega) (fun j hj => ?_) (h.mono.take m) (by omega) ?_
  · rw [hlm] at hj
    have hjH : j < H.length := by omega
    have hm := h.mono.mem _ (List.getElem_mem hjH)
    rw [List.getElem_take, hsame j hj, h.laid j hjH, parse_stamp _ _ _ (by omega) (by omega) (by omega) (h.b43 _ (List.getElem_mem hjH))]
  · rw [hlm]
    by_cases hmn : m = n
    · exact .inl hmn
    · refine .inr fun q e b hp hh => ?_
      rcases Nat.lt_or_ge m H.length with hlt | hge
      · have hpm : 0 < p m := by
          rcases h4 with h4 | h4
          · omega
          · exact h4
        have hx := hS m (by omega)
        rw [if_pos ⟨h1, hlt⟩] at hx
        rw [hx] at hp
        have hm := h.mono.mem _ (List.getElem_mem hlt)
        rw [torn_none (h.laid m hlt) (by omega) (by omega) (h.b43 _ (List.getElem_mem hlt)) hpm] at hp
        cases hp
      · obtain rfl : m = H.length := by omega
        have hx := hS H.length (by omega)
        rw [if_neg (by omega)] at hx
        rw [hx] at hp
        refine h.stop ?_
        have hp' := hp
        unfold parseP at hp
        split at hp
        · rename_i hc
          have e1 := (parse_again hp').1
          have e2 := (parse_again hp').2
          rw [List.take_length] at hh
          exact ⟨by omega, by omega, hc.2.2.2.1⟩
        · cases hp
end Go.Proofs.YtcpbmempfeloaaaDoor
/- Law 6: a crash amid Cut, plainly. -/
namespace Go.Proofs.YtcpbmempfeloaaaDoor
open Go.RowKit
set_option linter.unusedVariables false
set_option linter.unusedSimpArgs false

theorem jzero_sp {z n : Nat} (J : Jn) (hz : z + 2 + n ≤ 20) (h1 : 1 ≤ n) (hl : J.loc = z) (hjn : J.n = n) : ∀ (k m : Nat) (D : Dk), D.sure.length = 20 → J.first + m < 4294967296 → k ≤ m →
    ∃ i, i ≤ k ∧ (jzero J k m D).pend = D.pend ++ zl (z + 2) n J.first m i ∧ (jzero J k m D).sure = D.sure ∧ (i < k → (jzero J k m D).down = true) ∧ (D.down = true → i = 0 ∧ (jzero J k m D).down = true)
  | 0, m, D, _, _, _ => ⟨0, Nat.le_refl _, by simp [jzero, zl], rfl, fun h => by omega, fun h => ⟨rfl, h⟩⟩
  | k + 1, m, D, hD, hm, hk => by
    have hsec : J.sec ((J.first + (m - 1)) % 4294967296) = z + 2 + (J.first + (m - 1)) % n := by
      unfold Jn.sec
      rw [hl, hjn, Nat.mod_eq_of_lt (show J.first + (m - 1) < 4294967296 by omega)]
    have hmod : (J.first + (m - 1)) % n < n := Nat.mod_lt _ (by omega)
    rw [jzero_succ, hsec]
    have hw := write_sp D (z + 2 + (J.first + (m - 1)) % n) [] (by omega) (by simp)
    obtain ⟨c, W, hW⟩ : ∃ c W, D.write ((z + 2 + (J.first + (m - 1)) % n : Nat) : Int) [] = (c, W) := ⟨_, _, rfl⟩
    rw [hW] at hw ⊢
    rcases hw with ⟨_, w2, w3, w4, _⟩ | ⟨w0, _, w2, w3, w4, _⟩
    · obtain ⟨i, i1, i2, i3, i4, i5⟩ := jzero_sp J hz h1 hl hjn k (m - 1) W (by rw [w3]; exact hD) (by omega) (by omega)
      obtain ⟨j0, j1⟩ := i5 w2
      subst j0
      refine ⟨0, Nat.zero_le _, ?_, by rw [i3]; exact w3, fun _ => j1, fun _ => ⟨rfl, j1⟩⟩
      rw [i2]
      show W.pend ++ [] = D.pend ++ []
      rw [show W.pend = D.pend from w4]
    · obtain ⟨i, i1, i2, i3, i4, i5⟩ := jzero_sp J hz h1 hl hjn k (m - 1) W (by rw [w3]; exact hD) (by omega) (by omega)
      refine ⟨i + 1, by omega, ?_, by rw [i3]; exact w3, fun h => i4 (by omega), fun h => by rw [w0] at h; cases h⟩
      rw [i2, show W.pend = D.pend ++ [(z + 2 + (J.first + (m - 1)) % n, pad [])] from w4, pad_nil]
      simp [zl]
theorem jzero_good (J : Jn) : ∀ (k m : Nat) (D : Dk), D.good → D.pend.length + k < 1000000 → (jzero J k m D).good ∧ (jzero J k m D).pend.length ≤ D.pend.length + k
  | 0, m, D, h, _ => ⟨h, Nat.le_refl _⟩
  | k + 1, m, D, h, hq => by
    rw [jzero_succ]
    have h1 := h.write (J.sec ((J.first + (m - 1)) % 4294967296) : Nat) [] (by omega)
    have h2 := pend_write D (J.sec ((J.first + (m - 1)) % 4294967296) : Nat) []
    obtain ⟨a, b⟩ := jzero_good J k (m - 1) _ h1 (by omega)
    exact ⟨a, by omega⟩

section
variable {z n q : Nat} {J : Jn} {D : Dk} {L : List (Nat × List UInt8)}
/-- Cut, the disk going down wherever in it. -/
theorem amid_cut (h : JI z n q J D L []) (hq : q + 3 < 250) (fu : Int) (hf1 : -9223372036854775808 ≤ fu) (hf2 : fu ≤ 9223372036854775807) (k : Int) (zs : List Int) :
    ∃ c J1 D1 J2 D2, jcut J { D with fuse := fu } k = (c, J1, D1) ∧ jopen (D1.crash zs) z n = (0, some J2, D2) ∧ ((¬ (0 ≤ k ∧ k ≤ J.held.length) ∧ c = 1 ∧ J2.all = J.all) ∨ ((0 ≤ k ∧ k ≤ J.held.length) ∧ (c = 0 ∨ c = 43) ∧ ∃ m, J.held.length - k.toNat ≤ m ∧ m ≤ J.held.length ∧ J2.all = J.all.take m)) ∧ D1.pend.length ≤ 100 := by
  obtain ⟨hpe, hss, hL⟩ := h.synced
  have hnq := h.nq
  have heq := h.eq
  have hn17 := h.n17
  unfold jcut
  by_cases hk : k < 0 ∨ (J.held.length : Int) < k
  · rw [if_pos hk]
    obtain ⟨D', e, _⟩ := h.again (by omega) zs
    exact ⟨1, J, _, { J with epoch := J.epoch + 1 }, D', rfl, by rw [crash_sp (D := { D with fuse := fu }) (E := D) rfl rfl]; exact e, .inl ⟨by omega, rfl, rfl⟩, by show D.pend.length ≤ 100; rw [hpe]; decide⟩
  · rw [if_neg hk, if_neg (by omega)]
    obtain ⟨m, y, hp, h0, hm⟩ := h.pl
    have hyk := hp.yk
    have hl20 := h.up.len
    have hr := h.ring
    rw [hL] at hr
    have hfew := hr.few
    have hn1 := hr.n1
    have hle := hr.mono.le
    have hf1' := hr.f1
    have hl2 := h.heldLen
    simp at hl2
    obtain ⟨kn, hkn⟩ : ∃ kn, k.toNat = kn := ⟨_, rfl⟩
    rw [hkn]
    have hkH : kn ≤ J.held.length := by omega
    -- the first sync
    have hg0 := (h.up.good.fuse fu hf1 hf2).sync
    have hs0 : ({ D with fuse := fu } : Dk).sync.sure = D.sure ∧ ({ D with fuse := fu } : Dk).sync.pend = [] := by
      rcases sync_sp { D with fuse := fu } with ⟨_, a, b, _⟩ | ⟨_, _, a, b, _⟩
      · exact ⟨a, by rw [b]; exact hpe⟩
      · refine ⟨?_, b⟩
        rw [a]
        show laySure D.sure D.pend = D.sure
        rw [hpe]; rfl
    obtain ⟨Ds, hDs⟩ : ∃ Ds, ({ D with fuse := fu } : Dk).sync = Ds := ⟨_, rfl⟩
    rw [hDs] at hg0 hs0 ⊢
    obtain ⟨s1, s2⟩ := hs0
    -- the zeros
    obtain ⟨i, i1, i2, i3, i4, _⟩ := jzero_sp (z := z) (n := n) J hn17 hn1 h.loc h.jn kn J.held.length Ds (by rw [s1]; exact hl20) (by omega) hkH
    obtain ⟨hgz, hpz⟩ := jzero_good J kn J.held.length Ds hg0 (by rw [s2]; simp; omega)
    obtain ⟨Z, hZ⟩ : ∃ Z, jzero J kn J.held.length Ds = Z := ⟨_, rfl⟩
    rw [hZ] at i2 i3 i4 hgz hpz ⊢
    rw [s2, List.nil_append] at i2
    rw [s1] at i3
    -- the second sync
    have hgs := hgz.sync
    have hsz := sync_sp Z
    have hpzs := pend_sync Z
    obtain ⟨Zs, hZs⟩ : ∃ Zs, Z.sync = Zs := ⟨_, rfl⟩
    rw [hZs] at hgs hsz hpzs ⊢
    have hb : (metaB J.first (J.epoch + 1) J.low).length ≤ 43 := by rw [metaB_length]; decide
    have e : J.cut kn = ⟨z, n, J.first, J.epoch + 1, J.low, J.held.take (J.held.length - kn)⟩ := by
      unfold Jn.cut
      rw [h.loc, h.jn]
    rw [e]
    show ∃ c J1 D1 J2 D2, ((saveM Zs z (metaB J.first (J.epoch + 1) J.low)).1, _, (saveM Zs z (metaB J.first (J.epoch + 1) J.low)).2) = (c, J1, D1) ∧ _
    have hlow : ∀ kk, ∀ x ∈ zl (z + 2) n J.first J.held.length kk, z + 1 < x.1 := fun kk x hx => by
      have := zl_mem (z + 2) n J.first kk J.held.length x hx
      omega
    have hZl : Zs.sure.length = 20 := by
      rcases hsz with ⟨_, a, _⟩ | ⟨_, _, a, _⟩
      · rw [a, i3, hl20]
      · rw [a, laySure_length, i3, hl20]
    have hZp : Pl Zs.seen z m y (metaB J.first J.epoch J.low) := by
      rw [hgs.seen]
      rcases hsz with ⟨_, a, b, _⟩ | ⟨_, _, a, b, _⟩
      · rw [a, b, i2, i3]; exact Pl.lay _ hp (hlow i)
      · rw [a, b, i2, i3]
        have hh := Pl.lay (zl (z + 2) n J.first J.held.length i) hp (hlow i)
        exact hh
    have hsp := save_sp (D := Zs) (z := z) (b := metaB J.first (J.epoch + 1) J.low) hZl (by rw [hgs.ok.len, hZl]) (by omega) hZp (by omega) hb
    have hzq : Zs.pend.length ≤ 20 := by rw [s2] at hpz; simp at hpz; omega
    have hg := hgs.saveM z (metaB J.first (J.epoch + 1) J.low) (by omega)
    have hpd := pend_saveM Zs z (metaB J.first (J.epoch + 1) J.low)
    obtain ⟨c, E, hE⟩ : ∃ c E, saveM Zs z (metaB J.first (J.epoch + 1) J.low) = (c, E) := ⟨_, _, rfl⟩
    rw [hE] at hsp hg hpd ⊢
    obtain ⟨hc, hsp⟩ := hsp
    have hEp : E.pend.length ≤ 100 := by
      replace hpd : E.pend.length ≤ Zs.pend.length + 1 := hpd
      omega
    rcases hsz with ⟨a0, a1, a2, _⟩ | ⟨b0, b1, b2, b3, _⟩
    · -- it is down: the zeros are torn
      rw [i3] at a1
      rw [i2] at a2
      have hEs : E.sure = D.sure ∧ E.pend = zl (z + 2) n J.first J.held.length i := by
        rcases hsp with ⟨p1, p2⟩ | ⟨p0, _⟩ | ⟨p0, _⟩
        · exact ⟨by rw [← a1]; exact p1, by rw [← a2]; exact p2⟩
        · rw [a0] at p0; cases p0
        · rw [a0] at p0; cases p0
      have hu := crash_up hg (by rw [hEs.1]; exact hl20) zs
      have hseen : (E.crash zs).seen = ((zl (z + 2) n J.first J.held.length i).zipIdx 0).foldl (tornAt zs) D.sure := by
        show layTorn zs E.sure E.pend = _
        rw [hEs.1, hEs.2]; rfl
      have hp2 : Pl (E.crash zs).seen z m y (metaB J.first J.epoch J.low) := by
        rw [hseen]; exact Pl.tornAll zs _ 0 hp (hlow i)
      obtain ⟨m2, m3, m4, m5⟩ := scan_torn (S' := (E.crash zs).seen) hr (i := i) (by omega) (fun t => pickAt zs (0 + (J.held.length - 1 - t))) (fun t ht => by
        rw [hseen]
        exact zl_torn zs (z + 2) n J.first i J.held.length 0 D.sure (by omega) hfew (by rw [hl20]; omega) t ht)
      obtain ⟨D', eo⟩ := open_any hu hp2 h0 (by omega) hn17 hn1 (by omega) (by omega) hle (by omega)
      have hj : jheld (E.crash zs) z n J.first J.epoch J.low = J.held.take m2 := m5
      rw [hj] at eo
      refine ⟨c, _, E, _, D', rfl, eo, .inr ⟨by omega, hc, m2, by omega, m4, ?_⟩, hEp⟩
      simp [Jn.all, List.map_take]
    · -- all zeros are laid
      have hi : i = kn := by
        rcases Nat.lt_or_ge i kn with hlt | hge
        · have := i4 hlt
          rw [b0] at this; cases this
        · omega
      subst hi
      rw [i3, i2] at b2
      have hcut := hr.cuts i hkH
      have hS0 : (laySure D.sure (zl (z + 2) n J.first J.held.length i)).length = 20 := by rw [laySure_length, hl20]
      have h64 : ∀ x ∈ laySure D.sure (zl (z + 2) n J.first J.held.length i), x.length = 64 := by
        rw [← b2]; exact hgs.ok.u64
      have hps : Pl (laySure D.sure (zl (z + 2) n J.first J.held.length i)) z m y (metaB J.first J.epoch J.low) := Pl.lay _ hp (hlow i)
      have hst : (E.sure = laySure D.sure (zl (z + 2) n J.first J.held.length i) ∧ (E.pend = [] ∨ E.pend = [(y, stampB (m + 1) 0 (metaB J.first (J.epoch + 1) J.low))])) ∨ (E.sure = (laySure D.sure (zl (z + 2) n J.first J.held.length i)).set y (stampB (m + 1) 0 (metaB J.first (J.epoch + 1) J.low)) ∧ E.pend = []) := by
        have hlay : laySure Zs.sure Zs.pend = laySure D.sure (zl (z + 2) n J.first J.held.length i) := by rw [b3, b2]; rfl
        rcases hsp with ⟨p1, p2⟩ | ⟨_, p1, p2⟩ | ⟨_, p1, p2⟩
        · exact .inl ⟨by rw [← b2]; exact p1, .inl (by rw [← b3]; exact p2)⟩
        · exact .inl ⟨by rw [← hlay]; exact p1, p2⟩
        · exact .inr ⟨by rw [← hlay]; exact p1, p2⟩
      have hEl : E.sure.length = 20 := by
        rcases hst with ⟨p1, _⟩ | ⟨p1, _⟩
        · rw [p1, hS0]
        · rw [p1]; simp [hS0]
      obtain ⟨t1, t2, t3⟩ := slot_torn hps h64 hS0 (by omega) (by omega) hb hst zs
      have hu := crash_up hg hEl zs
      have hm2 : (J.held.take (J.held.length - i)).map (·.2) = J.all.take (J.held.length - i) := by simp [Jn.all, List.map_take]
      rcases t1 with t1 | t1
      · obtain ⟨D', eo⟩ := open_any hu t1 h0 (by omega) hn17 hn1 (by omega) (by omega) hle (by omega)
        rw [jheld_rg (hcut.low hS0 t3 t2)] at eo
        exact ⟨c, _, E, _, D', rfl, eo, .inr ⟨by omega, hc, J.held.length - i, Nat.le_refl _, by omega, hm2⟩, hEp⟩
      · obtain ⟨D', eo⟩ := open_any hu t1 (by omega) (by omega) hn17 hn1 (by omega) (by omega) (by omega) (by omega)
        rw [jheld_rg ((hcut.up (by omega)).1.low hS0 t3 t2)] at eo
        exact ⟨c, _, E, _, D', rfl, eo, .inr ⟨by omega, hc, J.held.length - i, Nat.le_refl _, by omega, hm2⟩, hEp⟩
end
end Go.Proofs.YtcpbmempfeloaaaDoor
