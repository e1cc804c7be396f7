/- Texts of the proofs, part 20: what the functions that they reach do, walked; no conditions beyond those that each states. -/
import Derived.Deep.QuietTactic
import Derived.BigQuiet
import Derived.Test.YtcpbmempfeloaaaDoorZz2a9aced8ab
set_option linter.unusedVariables false
set_option linter.unusedSimpArgs false
/- Clean disks, plainly: what two sectors of one place have, whatever is put, saved, synced and crashed there. -/
namespace Go.Proofs.YtcpbmempfeloaaaDoor
open Go.RowKit

theorem ofLE_torn : ∀ (j : Nat) (u v : List UInt8), u.length = v.length → ofLE (u.take j ++ v.drop j) = ofLE u % 256 ^ j + ofLE v / 256 ^ j * 256 ^ j
  | 0, u, v, _ => by simp [Nat.mod_one]
  | j + 1, [], [], _ => by simp [ofLE]
  | j + 1, [], c :: v, h => by simp at h
  | j + 1, a :: u, [], h => by simp at h
  | j + 1, a :: u, c :: v, h => by
    have ih := ofLE_torn j u v (by simpa using h)
    have ha := a.toNat_lt
    have hc := c.toNat_lt
    rw [List.take_succ_cons, List.drop_succ_cons, List.cons_append, ofLE, ih, ofLE, ofLE, Nat.pow_succ, Nat.mul_comm (256 ^ j) 256, Nat.mod_mul, ← Nat.div_div_eq_div_mul]
    have e1 : (a.toNat + 256 * ofLE u) % 256 = a.toNat := by omega
    have e2 : (a.toNat + 256 * ofLE u) / 256 = ofLE u := by omega
    have e3 : (c.toNat + 256 * ofLE v) / 256 = ofLE v := by omega
    rw [e1, e2, e3, Nat.mul_add]
    have e4 : 256 * (ofLE v / 256 ^ j * 256 ^ j) = ofLE v / 256 ^ j * (256 * 256 ^ j) := by rw [Nat.mul_left_comm]
    omega
theorem torn_get' (U V : List UInt8) (h : U.length = V.length) (q i : Nat) : (U.take q ++ V.drop q)[i]? = if i < q then U[i]? else V[i]? := by
  by_cases hq : q ≤ U.length
  · have hl : (U.take q).length = q := by simp; omega
    by_cases hi : i < q
    · rw [List.getElem?_append_left (by omega), if_pos hi, List.getElem?_take, if_pos hi]
    · rw [List.getElem?_append_right (by omega), if_neg hi, hl, List.getElem?_drop]
      congr 1; omega
  · rw [List.take_of_length_le (by omega), List.drop_of_length_le (by omega), List.append_nil]
    split
    · rfl
    · rw [List.getElem?_eq_none (by omega), List.getElem?_eq_none (by omega)]
theorem tear_sub (p n m : Nat) (A Y : List UInt8) (h : A.length = Y.length) : ((tear p A Y).drop n).take m = ((A.drop n).take m).take (p - n) ++ ((Y.drop n).take m).drop (p - n) := by
  apply List.ext_getElem?
  intro i
  rw [sub_get, torn_get' _ _ (by simp [h]), sub_get, sub_get]
  unfold tear
  rw [torn_get' _ _ h]
  by_cases hm : i < m
  · simp only [if_pos hm]
    by_cases hi : n + i < p
    · rw [if_pos hi, if_pos (by omega)]
    · rw [if_neg hi, if_neg (by omega)]
  · simp only [if_neg hm, ite_self]
theorem again_tear (p : Nat) (A Y : List UInt8) (h : A.length = Y.length) : pAgain (tear p A Y) = pAgain A % 256 ^ (p - 56) + pAgain Y / 256 ^ (p - 56) * 256 ^ (p - 56) := by
  unfold pAgain
  rw [tear_sub p 56 4 A Y h, ofLE_torn _ _ _ (by simp [h])]
theorem also_tear (p : Nat) (A Y : List UInt8) (h : A.length = Y.length) : pAlso (tear p A Y) = pAlso A % 256 ^ (p - 60) + pAlso Y / 256 ^ (p - 60) * 256 ^ (p - 60) := by
  unfold pAlso
  rw [tear_sub p 60 4 A Y h, ofLE_torn _ _ _ (by simp [h])]
/-- A torn number is below the old one, or it is the new one. -/
theorem torn_num (n t j : Nat) (h : (n = 0 ∧ t = 0) ∨ t < n) (hn : n + 1 < 4294967296) :
    (j ≠ 0 ∧ (n + 1) % 256 ^ j + t / 256 ^ j * 256 ^ j = n + 1) ∨ ((n = 0 ∧ (n + 1) % 256 ^ j + t / 256 ^ j * 256 ^ j = 0) ∨ (n + 1) % 256 ^ j + t / 256 ^ j * 256 ^ j < n) := by
  rcases j with _ | _ | _ | _ | j
  · simp [Nat.mod_one]; omega
  · simp; omega
  · simp; omega
  · simp; omega
  · have hj : (4294967296 : Nat) ≤ 256 ^ (j + 1 + 1 + 1 + 1) := by
      have := Nat.pow_le_pow_right (n := 256) (by decide) (show 4 ≤ j + 1 + 1 + 1 + 1 by omega)
      omega
    rw [Nat.mod_eq_of_lt (by omega), Nat.div_eq_of_lt (by omega)]
    omega

/-- Of the place k the last number is n, its bytes b; the sector y is written next. -/
structure Pl (s : List (List UInt8)) (k n y : Nat) (b : List UInt8) : Prop where
  yk : y = k ∨ y = k + 1
  lt : n < 4294967296
  also : pAlso (s.getD y []) = 0
  num : (n = 0 ∧ pAgain (s.getD y []) = 0) ∨ pAgain (s.getD y []) < n
  zero : n = 0 → y = k ∧ b = [] ∧ pAgain (s.getD (k + 1) []) = 0 ∧ pAlso (s.getD (k + 1) []) = 0
  pos : 0 < n → s.getD (2 * k + 1 - y) [] = stampB n 0 b ∧ b.length ≤ 43

theorem getD_set_same {s : List (List UInt8)} {y : Nat} (h : y < s.length) (x : List UInt8) : (s.set y x).getD y [] = x := by
  rw [List.getD_eq_getElem?_getD, List.getElem?_set_self h]; rfl
theorem getD_set_other {s : List (List UInt8)} {y z : Nat} (h : y ≠ z) (x : List UInt8) : (s.set y x).getD z [] = s.getD z [] := by
  rw [List.getD_eq_getElem?_getD, List.getElem?_set_ne h, ← List.getD_eq_getElem?_getD]
theorem getD_64 {s : List (List UInt8)} (h : ∀ x ∈ s, x.length = 64) {y : Nat} (hy : y < s.length) : (s.getD y []).length = 64 := by
  rw [List.getD_eq_getElem?_getD, List.getElem?_eq_getElem hy]
  exact h _ (List.getElem_mem hy)

theorem Pl.step {s : List (List UInt8)} {k n y : Nat} {b b' : List UInt8} (h : Pl s k n y b) (hy : k + 1 < s.length) (hn : n + 1 < 4294967296) (hb : b'.length ≤ 43) : Pl (s.set y (stampB (n + 1) 0 b')) k (n + 1) (2 * k + 1 - y) b' := by
  have hyk := h.yk
  have hlt : y < s.length := by omega
  have hne : y ≠ 2 * k + 1 - y := by omega
  refine ⟨by omega, hn, ?_, ?_, fun e => by omega, fun _ => ⟨?_, hb⟩⟩
  · rw [getD_set_other hne]
    rcases Nat.eq_zero_or_pos n with h0 | h0
    · obtain ⟨e, _, _, h2⟩ := h.zero h0
      rw [show 2 * k + 1 - y = k + 1 by omega]; exact h2
    · rw [(h.pos h0).1]; unfold pAlso; rw [st_also _ _ _ (h.pos h0).2]; decide
  · rw [getD_set_other hne]
    refine .inr ?_
    rcases Nat.eq_zero_or_pos n with h0 | h0
    · obtain ⟨e, _, h2, _⟩ := h.zero h0
      rw [show 2 * k + 1 - y = k + 1 by omega, h2]; omega
    · rw [(h.pos h0).1]; unfold pAgain; rw [st_again _ _ _ (h.pos h0).2, ofLE_le 4 n h.lt]; omega
  · rw [show 2 * k + 1 - (2 * k + 1 - y) = y by omega, getD_set_same hlt]
theorem Pl.stay {s : List (List UInt8)} {k n y : Nat} {b x : List UInt8} (h : Pl s k n y b) (hy : k + 1 < s.length) (ha : pAlso x = 0) (hx : (n = 0 ∧ pAgain x = 0) ∨ pAgain x < n) : Pl (s.set y x) k n y b := by
  have hyk := h.yk
  have hlt : y < s.length := by omega
  refine ⟨h.yk, h.lt, by rw [getD_set_same hlt]; exact ha, by rw [getD_set_same hlt]; exact hx, fun e => ?_, fun e => ?_⟩
  · obtain ⟨e1, e2, e3, e4⟩ := h.zero e
    exact ⟨e1, e2, by rw [getD_set_other (by omega)]; exact e3, by rw [getD_set_other (by omega)]; exact e4⟩
  · rw [getD_set_other (by omega)]; exact h.pos e
theorem Pl.other {s : List (List UInt8)} {k n y z : Nat} {b x : List UInt8} (h : Pl s k n y b) (h1 : z ≠ k) (h2 : z ≠ k + 1) : Pl (s.set z x) k n y b := by
  have hyk := h.yk
  have e : ∀ q, (q = k ∨ q = k + 1) → (s.set z x).getD q [] = s.getD q [] := fun q hq => getD_set_other (by omega) _
  exact ⟨h.yk, h.lt, by rw [e y h.yk]; exact h.also, by rw [e y h.yk]; exact h.num, fun q => by rw [e (k + 1) (.inr rfl)]; exact h.zero q, fun q => by rw [e _ (by omega)]; exact h.pos q⟩

/-- A put that is torn: all as it was, or all is written. -/
theorem Pl.tear {s : List (List UInt8)} {k n y : Nat} {b b' : List UInt8} (h : Pl s k n y b) (hs : ∀ x ∈ s, x.length = 64) (hy : k + 1 < s.length) (hn : n + 1 < 4294967296) (hb : b'.length ≤ 43) (p : Nat) :
    Pl (s.set y (tear p (stampB (n + 1) 0 b') (s.getD y []))) k n y b ∨ tear p (stampB (n + 1) 0 b') (s.getD y []) = stampB (n + 1) 0 b' := by
  have hyk := h.yk
  have hY : (s.getD y []).length = 64 := getD_64 hs (by omega)
  have hA : (stampB (n + 1) 0 b').length = 64 := stampB_length _ _ _ hb
  have aa := st_again (n + 1) 0 b' hb
  have al := st_also (n + 1) 0 b' hb
  have na := h.num
  have ya := h.also
  have hst := fun x => Pl.stay (x := x) h hy
  clear h
  generalize stampB (n + 1) 0 b' = A at hA aa al ⊢
  generalize s.getD y [] = Y at hY na ya ⊢
  have eA : pAgain A = n + 1 := by unfold pAgain; rw [aa, ofLE_le 4 _ hn]
  have eL : pAlso A = 0 := by unfold pAlso; rw [al]; decide
  have h1 := again_tear p A Y (by omega)
  have h2 := also_tear p A Y (by omega)
  rw [eL, ya] at h2
  simp at h2
  rw [eA] at h1
  rcases torn_num n (pAgain Y) (p - 56) na hn with ⟨hj, hr⟩ | hr
  · refine .inr ?_
    rw [hr] at h1
    have i1 : ((_root_.Go.Proofs.YtcpbmempfeloaaaDoor.tear p A Y).drop 56).take 4 = (A.drop 56).take 4 := ofLE_inj _ _ (by simp [_root_.Go.Proofs.YtcpbmempfeloaaaDoor.tear]; omega) (by show pAgain _ = pAgain _; rw [h1, eA])
    have i2 : ((_root_.Go.Proofs.YtcpbmempfeloaaaDoor.tear p A Y).drop 60).take 4 = (A.drop 60).take 4 := ofLE_inj _ _ (by simp [_root_.Go.Proofs.YtcpbmempfeloaaaDoor.tear]; omega) (by show pAlso _ = pAlso _; rw [h2, eL])
    apply List.ext_getElem?
    intro j
    by_cases hj1 : j < 56
    · unfold _root_.Go.Proofs.YtcpbmempfeloaaaDoor.tear
      rw [torn_get' _ _ (by omega), if_pos (by omega)]
    · by_cases hj2 : j < 60
      · have := sub_of i1 (i := j - 56) (by omega)
        rwa [show 56 + (j - 56) = j from by omega] at this
      · by_cases hj3 : j < 64
        · have := sub_of i2 (i := j - 60) (by omega)
          rwa [show 60 + (j - 60) = j from by omega] at this
        · rw [List.getElem?_eq_none (by rw [show (_root_.Go.Proofs.YtcpbmempfeloaaaDoor.tear p A Y).length = 64 from tear_64 p A Y hA hY]; omega), List.getElem?_eq_none (by omega)]
  · exact .inl (hst _ h2 (by rw [h1]; exact hr))

theorem parse_again {l : List UInt8} {s p : Nat} {b : List UInt8} (h : parseP l = some (s, p, b)) : s = pAgain l ∧ p = pAlso l := by
  unfold parseP at h
  split at h
  · rename_i hc
    cases h
    exact ⟨hc.2.2.1, hc.2.2.2.1⟩
  · cases h
theorem lastRec_two (D : Dk) (k : Nat) : lastRec D k = lastOf (k + 1, 0, []) ((secRec D k).toList ++ (secRec D (k + 1)).toList) := by
  unfold lastRec
  rw [recsUpto_succ, recsUpto_succ]
  simp [recsUpto]
theorem secRec_zero {D : Dk} {i : Nat} (h : pAgain (D.seen.getD i []) = 0) : secRec D i = none := by
  cases hs : secRec D i with
  | none => rfl
  | some x =>
    obtain ⟨h1, _⟩ := secRec_some hs
    have := (parse_again h1).1
    have := (parseP_pos h1).1
    omega
theorem secRec_lt {D : Dk} {i n : Nat} (h : pAgain (D.seen.getD i []) < n) : secRec D i = none ∨ ∃ s b, secRec D i = some (i, s, b) ∧ s < n ∧ 0 < s := by
  cases hs : secRec D i with
  | none => exact .inl rfl
  | some x =>
    obtain ⟨h1, h2⟩ := secRec_some hs
    obtain ⟨x1, x2, x3⟩ := x
    have := (parse_again h1).1
    have := (parseP_pos h1).1
    have e : x1 = i := h2
    subst e
    exact .inr ⟨x2, x3, rfl, by simp_all, by simp_all⟩
theorem secRec_stamp {D : Dk} {i n : Nat} {b : List UInt8} (h : D.seen.getD i [] = stampB n 0 b) (h0 : 0 < n) (hn : n < 4294967296) (hb : b.length ≤ 43) : secRec D i = some (i, n, b) := by
  unfold secRec
  rw [h, parse_stamp n 0 b h0 hn (by decide) hb]
  rfl
theorem Pl.last {D : Dk} {k n y : Nat} {b : List UInt8} (h : Pl D.seen k n y b) : lastRec D k = (2 * k + 1 - y, n, b) := by
  rw [lastRec_two]
  rcases Nat.eq_zero_or_pos n with h0 | h0
  · obtain ⟨e, e2, h2, _⟩ := h.zero h0
    have h1 := h.num
    subst h0 e2 e
    rw [secRec_zero (i := y) (by omega), secRec_zero h2]
    show (y + 1, 0, []) = _
    rw [show 2 * y + 1 - y = y + 1 by omega]
  · have h1 : pAgain (D.seen.getD y []) < n := by have := h.num; omega
    obtain ⟨h2, h3⟩ := h.pos h0
    have hx := secRec_stamp h2 h0 h.lt h3
    rcases h.yk with e | e
    · subst e
      rw [show 2 * y + 1 - y = y + 1 by omega] at hx ⊢
      rw [hx]
      rcases secRec_lt h1 with h4 | ⟨s, b1, h4, h5, h6⟩
      · rw [h4]; simp [lastOf, h0]
      · rw [h4]; simp [lastOf, h5, h6]
    · subst e
      rw [show 2 * k + 1 - (k + 1) = k by omega] at hx ⊢
      rw [hx]
      rcases secRec_lt h1 with h4 | ⟨s, b1, h4, h5, h6⟩
      · rw [h4]; simp [lastOf, h0]
      · rw [h4]; simp [lastOf, h0]; omega

/-- All even places are so. -/
def PlAll (s : List (List UInt8)) : Prop := ∀ k, k % 2 = 0 → k + 1 < 8 → ∃ n y b, Pl s k n y b
structure Cl (D : Dk) : Prop where
  len : D.sure.length = 8
  good : D.good
  pl : PlAll D.sure
  pend : D.pend = [] ∨ ∃ k n y b b', k % 2 = 0 ∧ k + 1 < 8 ∧ Pl D.sure k n y b ∧ n + 1 < 4294967296 ∧ b'.length ≤ 43 ∧ D.pend = [(y, stampB (n + 1) 0 b')]

theorem PlAll.set {s : List (List UInt8)} {k n y : Nat} {b b' x : List UInt8} (h : PlAll s) (hl : s.length = 8) (he : k % 2 = 0) (hk : k + 1 < 8) (hp : Pl s k n y b) (hn : n + 1 < 4294967296) (hb : b'.length ≤ 43) (hx : Pl (s.set y x) k n y b ∨ x = stampB (n + 1) 0 b') : PlAll (s.set y x) := by
  intro j hj1 hj2
  by_cases hjk : j = k
  · subst hjk
    rcases hx with hx | hx
    · exact ⟨_, _, _, hx⟩
    · subst hx; exact ⟨_, _, _, hp.step (by omega) hn hb⟩
  · obtain ⟨n', y', b1, h1⟩ := h j hj1 hj2
    have := hp.yk
    exact ⟨n', y', b1, h1.other (by omega) (by omega)⟩
theorem Cl.torn {D : Dk} (h : Cl D) (zs : List Int) : PlAll (layTorn zs D.sure D.pend) := by
  rcases h.pend with hp | ⟨k, n, y, b, b', he, hk, hp, hn, hb, e⟩
  · rw [hp]; exact h.pl
  · rw [e]
    show PlAll (D.sure.set y (tear (pickAt zs 0) (stampB (n + 1) 0 b') (D.sure.getD y [])))
    exact h.pl.set h.len he hk hp hn hb (hp.tear h.good.ok.u64 (by have := h.len; omega) hn hb _)
theorem Cl.laid {D : Dk} (h : Cl D) : PlAll (laySure D.sure D.pend) := by
  rcases h.pend with hp | ⟨k, n, y, b, b', he, hk, hp, hn, hb, e⟩
  · rw [hp]; exact h.pl
  · rw [e]
    show PlAll (D.sure.set y (stampB (n + 1) 0 b'))
    exact h.pl.set h.len he hk hp hn hb (.inr rfl)
theorem Cl.seen {D : Dk} (h : Cl D) : PlAll D.seen := by rw [h.good.seen]; exact h.laid
theorem Cl.crash {D : Dk} (h : Cl D) (zs : List Int) : Cl (D.crash zs) :=
  ⟨by show (layTorn zs D.sure D.pend).length = 8; rw [layTorn_length]; exact h.len, h.good.crash zs, h.torn zs, .inl rfl⟩
theorem Cl.burn {D : Dk} (h : Cl D) : Cl D.burn := ⟨h.len, h.good.burn, h.pl, h.pend⟩
theorem Cl.fuse {D : Dk} (h : Cl D) (n : Int) (h0 : -9223372036854775808 ≤ n) (h1 : n ≤ 9223372036854775807) : Cl { D with fuse := n } := ⟨h.len, h.good.fuse n h0 h1, h.pl, h.pend⟩
theorem Cl.sync {D : Dk} (h : Cl D) : Cl D.sync := by
  have hg := h.good.sync
  unfold Dk.sync at hg ⊢
  split
  · exact h.burn
  · rename_i hd
    rw [if_neg hd] at hg
    exact ⟨by show (laySure D.sure D.pend).length = 8; rw [laySure_length]; exact h.len, hg, h.laid, .inl rfl⟩
theorem stamp_pad (s p : Nat) (b : List UInt8) (h : b.length ≤ 43) : pad (stampB s p b) = stampB s p b := by
  unfold pad; rw [stampB_length s p b h]; simp
/-- What a put to a clean disk does: nothing but to the fuse, or it is pending. -/
theorem Cl.put {D : Dk} (h : Cl D) {k n y : Nat} {b : List UInt8} (he : k % 2 = 0) (hk : k + 1 < 8) (hp : Pl D.seen k n y b) (b' : List UInt8) (hb : b'.length ≤ 43) (hn : n + 1 < 4294967296) :
    (D.sync.burn.down = true ∧ D.sync.write (2 * (k : Int) + 1 - ((2 * k + 1 - y : Nat) : Int)) (stampB (n + 1) 0 b') = (43, D.sync.burn)) ∨
    (D.burn.down = false ∧ D.sync.burn.down = false ∧ D.sync.write (2 * (k : Int) + 1 - ((2 * k + 1 - y : Nat) : Int)) (stampB (n + 1) 0 b') = (0, D.sync.put y (stampB (n + 1) 0 b')) ∧ D.sync.sure = D.seen ∧ D.sync.seen = D.seen ∧ D.sync.pend = []) := by
  have hyk := hp.yk
  have ei : 2 * (k : Int) + 1 - ((2 * k + 1 - y : Nat) : Int) = (y : Int) := by omega
  have hl := h.sync.len
  rw [ei]
  unfold Dk.write
  rw [if_neg (by omega), if_neg (by rw [stampB_length _ _ _ hb]; omega), stamp_pad _ _ _ hb, Int.toNat_natCast]
  cases hd : D.sync.burn.down with
  | true => exact .inl ⟨rfl, by rw [if_pos rfl]⟩
  | false =>
    refine .inr ?_
    have hd1 : D.burn.down = false := by
      cases hq : D.burn.down with
      | false => rfl
      | true =>
        exfalso
        have e : D.sync = D.burn := by unfold Dk.sync; rw [if_pos hq]
        rw [e] at hd
        have : (D.burn.down || D.burn.fuse == 0) = false := hd
        rw [hq] at this; simp at this
    have e : D.sync = { D.burn with sure := laySure D.sure D.pend, pend := [] } := by unfold Dk.sync; rw [if_neg (by rw [hd1]; decide)]
    refine ⟨hd1, rfl, by rw [if_neg (by decide)], ?_, ?_, ?_⟩
    · rw [e]; exact h.good.seen.symm
    · rw [e]; rfl
    · rw [e]
theorem Cl.putY {D : Dk} (h : Cl D) {k n y : Nat} {b b' : List UInt8} (he : k % 2 = 0) (hk : k + 1 < 8) (hp : Pl D.seen k n y b) (hb : b'.length ≤ 43) (hn : n + 1 < 4294967296) (e1 : D.sync.sure = D.seen) (e2 : D.sync.pend = []) : Cl (D.sync.put y (stampB (n + 1) 0 b')) := by
  have hyk := hp.yk
  have hs := h.sync
  have hl := hs.len
  refine ⟨hs.len, hs.good.put y _ (by omega) (stampB_length _ _ _ hb) (by rw [e2]; decide), hs.pl, .inr ⟨k, n, y, b, b', he, hk, ?_, hn, hb, ?_⟩⟩
  · show Pl D.sync.sure k n y b
    rw [e1]; exact hp
  · show D.sync.pend ++ _ = _
    rw [e2]; rfl
theorem Cl.right {D : Dk} (h : Cl D) (i : Int) : D.right i = decide (0 ≤ i ∧ i < 7) := by
  unfold Dk.right; rw [h.len]; rfl
theorem putM_pl {D : Dk} (h : Cl D) {k n y : Nat} {b : List UInt8} (hk : k + 1 < 8) (hp : Pl D.seen k n y b) (b' : List UInt8) :
    putM D k b' = if 43 < b'.length then (2, D) else if n = 4294967295 then (42, D) else D.sync.write (2 * (k : Int) + 1 - ((2 * k + 1 - y : Nat) : Int)) (stampB (n + 1) 0 b') := by
  unfold putM
  rw [h.right, if_pos (by simp; omega), Int.toNat_natCast, hp.last]
theorem Cl.putM {D : Dk} (h : Cl D) (i : Int) (b : List UInt8) (hi : i.tmod 2 = 0) : Cl (putM D i b).2 := by
  cases hr : D.right i with
  | false => unfold Go.Proofs.YtcpbmempfeloaaaDoor.putM; rw [hr]; exact h
  | true =>
    have hr' := hr
    rw [h.right] at hr'
    have hr' := of_decide_eq_true hr'
    obtain ⟨k, rfl⟩ : ∃ k : Nat, i = k := ⟨i.toNat, by omega⟩
    have he : k % 2 = 0 := by
      rw [Int.tmod_eq_emod_of_nonneg (by omega)] at hi; omega
    obtain ⟨n, y, b0, hp⟩ := h.seen k he (by omega)
    rw [putM_pl h (by omega) hp]
    split
    · exact h
    · split
      · exact h
      · have hlt := hp.lt
        rcases h.put he (by omega) hp b (by omega) (by omega) with ⟨_, e⟩ | ⟨_, _, e, e1, _, e2⟩
        · rw [e]; exact h.sync.burn
        · rw [e]; exact h.putY he (by omega) hp (by omega) (by omega) e1 e2
theorem Cl.saveM {D : Dk} (h : Cl D) (i : Int) (b : List UInt8) (hi : i.tmod 2 = 0) : Cl (saveM D i b).2 := by
  unfold Go.Proofs.YtcpbmempfeloaaaDoor.saveM
  split
  · exact (h.putM i b hi).sync
  · exact h.putM i b hi
theorem Cl.new : Cl (Dk.new 8) := by
  refine ⟨rfl, Dk.new_good 8 (by decide) (by decide), fun k hk h8 => ⟨0, k, [], ?_⟩, .inl rfl⟩
  have e : ∀ q, q < 8 → (Dk.new 8).sure.getD q [] = List.replicate 64 0 := fun q hq => by
    show (List.replicate 8 (List.replicate 64 (0 : UInt8))).getD q [] = _
    rw [List.getD_eq_getElem?_getD, List.getElem?_replicate, if_pos hq]; rfl
  have z1 : pAgain (List.replicate 64 0) = 0 := by decide
  have z2 : pAlso (List.replicate 64 0) = 0 := by decide
  refine ⟨.inl rfl, by decide, by rw [e k (by omega)]; exact z2, .inl ⟨rfl, by rw [e k (by omega)]; exact z1⟩, fun _ => ⟨rfl, rfl, by rw [e _ h8]; exact z1, by rw [e _ h8]; exact z2⟩, fun h => by omega⟩
/-- What is loaded. -/
theorem Pl.load {D : Dk} {k n y : Nat} {b : List UInt8} (h : Pl D.seen k n y b) (hr : D.right k = true) : loadM D k = if n = 0 then ([], 0, 41) else (b, n, 0) := by
  unfold loadM
  rw [hr, if_pos rfl, Int.toNat_natCast, h.last]
end Go.Proofs.YtcpbmempfeloaaaDoor
/- A journal's ring, plainly: what is laid there, what a crash leaves of it, what is found again. -/
namespace Go.Proofs.YtcpbmempfeloaaaDoor
open Go.RowKit
set_option linter.unusedVariables false
set_option linter.unusedSimpArgs false

/-- What is found of a ring: P is what stands at a number. -/
def scanM (P : Nat → Option (Nat × Nat × List UInt8)) (ep : Nat) : Nat → Nat → Nat → List (Nat × List UInt8)
  | 0, _, _ => []
  | k + 1, s, low => match P s with
    | some (q, e, b) => if s ≤ 4294967295 ∧ q = s ∧ low ≤ e ∧ e ≤ ep then (e, b) :: scanM P ep k (s + 1) e else []
    | none => []
def lastE (low : Nat) (L : List (Nat × List UInt8)) : Nat := L.foldl (fun _ x => x.1) low
theorem lastE_snoc (low : Nat) (L : List (Nat × List UInt8)) (x : Nat × List UInt8) : lastE low (L ++ [x]) = x.1 := by simp [lastE]
theorem lastE_append (low : Nat) (L M : List (Nat × List UInt8)) : lastE low (L ++ M) = lastE (lastE low L) M := by simp [lastE]
/-- Epochs that do not fall, from low to E. -/
def Mon (E : Nat) : Nat → List (Nat × List UInt8) → Prop
  | low, [] => low ≤ E
  | low, x :: L => low ≤ x.1 ∧ Mon E x.1 L
theorem Mon.append {E : Nat} : ∀ {low : Nat} {L M : List (Nat × List UInt8)}, Mon E low L → Mon E (lastE low L) M → Mon E low (L ++ M)
  | _, [], _, _, h => h
  | _, x :: L, M, h, k => ⟨h.1, Mon.append (low := x.1) h.2 k⟩
theorem Mon.last {E : Nat} : ∀ {low : Nat} {L : List (Nat × List UInt8)}, Mon E low L → lastE low L ≤ E
  | _, [], h => h
  | _, x :: L, h => Mon.last (low := x.1) h.2
theorem Mon.drop {E : Nat} : ∀ {low : Nat} {L : List (Nat × List UInt8)} (k : Nat), Mon E low L → Mon E (lastE low (L.take k)) (L.drop k)
  | _, L, 0, h => by simpa [lastE] using h
  | _, [], k + 1, h => by simpa [lastE] using h
  | _, x :: L, k + 1, h => by simpa [lastE] using Mon.drop (low := x.1) k h.2
theorem Mon.up {E E' : Nat} : ∀ {low : Nat} {L : List (Nat × List UInt8)}, Mon E low L → E ≤ E' → Mon E' low L
  | _, [], h, q => Nat.le_trans h q
  | _, x :: L, h, q => ⟨h.1, Mon.up (low := x.1) h.2 q⟩
theorem Mon.le {E : Nat} : ∀ {low : Nat} {L : List (Nat × List UInt8)}, Mon E low L → low ≤ E
  | _, [], h => h
  | _, x :: L, h => Nat.le_trans h.1 (Mon.le (low := x.1) h.2)
theorem Mon.mem {E : Nat} : ∀ {low : Nat} {L : List (Nat × List UInt8)}, Mon E low L → ∀ x ∈ L, low ≤ x.1 ∧ x.1 ≤ E
  | _, [], h, x, hx => by simp at hx
  | _, y :: L, h, x, hx => by
    rcases List.mem_cons.1 hx with rfl | hx
    · exact ⟨h.1, Mon.le h.2⟩
    · have := Mon.mem (low := y.1) h.2 x hx
      exact ⟨Nat.le_trans h.1 this.1, this.2⟩
theorem Mon.take {E : Nat} : ∀ {low : Nat} {L : List (Nat × List UInt8)} (k : Nat), Mon E low L → Mon E low (L.take k)
  | _, L, 0, h => by simpa [Mon] using h.le
  | _, [], k + 1, h => by simpa using h
  | _, x :: L, k + 1, h => ⟨h.1, Mon.take (low := x.1) k h.2⟩

theorem scan_chain (P : Nat → Option (Nat × Nat × List UInt8)) (E : Nat) : ∀ (L : List (Nat × List UInt8)) (k s low : Nat), L.length ≤ k → (∀ i, (h : i < L.length) → P (s + i) = some (s + i, L[i].1, L[i].2)) → Mon E low L → s + L.length ≤ 4294967295 →
    (L.length = k ∨ ∀ q e b, P (s + L.length) = some (q, e, b) → ¬ (q = s + L.length ∧ lastE low L ≤ e ∧ e ≤ E)) → scanM P E k s low = L
  | [], 0, s, low, _, _, _, _, _ => rfl
  | [], k + 1, s, low, _, _, _, _, hs => by
    rcases hs with hs | hs
    · simp at hs
    · unfold scanM
      split
      · rename_i q e b hp
        have := hs q e b (by simpa using hp)
        rw [if_neg (fun h => this ⟨by simpa using h.2.1, h.2.2.1, h.2.2.2⟩)]
      · rfl
  | x :: L, 0, s, low, hk, _, _, _, _ => by simp at hk
  | x :: L, k + 1, s, low, hk, hp, hm, hb, hs => by
    have h0 := hp 0 (by simp)
    simp at h0
    have hm' : low ≤ x.1 ∧ Mon E x.1 L := hm
    have hE := hm'.2.le
    simp at hb hk
    unfold scanM
    rw [h0]
    simp only
    rw [if_pos (by simp; exact ⟨by omega, hm'.1, hE⟩), scan_chain P E L k (s + 1) x.1 hk (fun i h => by
      have := hp (i + 1) (by simp; omega)
      simpa [Nat.add_assoc, Nat.add_comm 1] using this) hm'.2 (by omega) ?_]
    rcases hs with hs | hs
    · exact .inl (by simpa using hs)
    · refine .inr fun q e b h => ?_
      have := hs q e b (by simpa [Nat.add_assoc, Nat.add_comm 1, Nat.add_left_comm] using h)
      simpa [Nat.add_assoc, Nat.add_comm 1, Nat.add_left_comm, lastE] using this

/-- A sector whose numbers are small. -/
structure Sm (X : List UInt8) : Prop where
  len : X.length = 64
  ep : pEpoch X < 256
  ag : pAgain X < 256
  al : pAlso X < 256
/-- A sector that may look like the number s, in an epoch not below l. -/
def Gh (X : List UInt8) (s l : Nat) : Prop := pAgain X = s ∧ l ≤ pAlso X ∧ pEpoch X = pAlso X

theorem epoch_tear (p : Nat) (A Y : List UInt8) (h : A.length = Y.length) : pEpoch (tear p A Y) = pEpoch A % 256 ^ (p - 4) + pEpoch Y / 256 ^ (p - 4) * 256 ^ (p - 4) := by
  unfold pEpoch
  rw [tear_sub p 4 4 A Y h, ofLE_torn _ _ _ (by simp [h])]
theorem seq_tear (p : Nat) (A Y : List UInt8) (h : A.length = Y.length) : pSeq (tear p A Y) = pSeq A % 256 ^ p + pSeq Y / 256 ^ p * 256 ^ p := by
  have := tear_sub p 0 4 A Y h
  simp at this
  unfold pSeq
  rw [this, ofLE_torn _ _ _ (by simp [h])]
theorem small_tear (a y j : Nat) (ha : a < 256) (hy : y < 256) : a % 256 ^ j + y / 256 ^ j * 256 ^ j = if j = 0 then y else a := by
  rcases j with _ | j
  · simp [Nat.mod_one]
  · have hj : (256 : Nat) ≤ 256 ^ (j + 1) := by
      have := Nat.pow_le_pow_right (n := 256) (by decide) (show 1 ≤ j + 1 by omega)
      omega
    rw [Nat.mod_eq_of_lt (by omega), Nat.div_eq_of_lt (by omega), if_neg (by omega)]
    omega
theorem st_nums (s p : Nat) (b : List UInt8) (hs : s < 4294967296) (hp : p < 4294967296) (hb : b.length ≤ 43) : pSeq (stampB s p b) = s ∧ pEpoch (stampB s p b) = p ∧ pAgain (stampB s p b) = s ∧ pAlso (stampB s p b) = p := by
  refine ⟨by unfold pSeq; rw [st_seq, ofLE_le 4 s hs], by unfold pEpoch; rw [st_epoch, ofLE_le 4 p hp], by unfold pAgain; rw [st_again s p b hb, ofLE_le 4 s hs], by unfold pAlso; rw [st_also s p b hb, ofLE_le 4 p hp]⟩
theorem Sm.stamp (s p : Nat) (b : List UInt8) (hs : s < 256) (hp : p < 256) (hb : b.length ≤ 43) : Sm (stampB s p b) := by
  obtain ⟨_, h1, h2, h3⟩ := st_nums s p b (by omega) (by omega) hb
  exact ⟨stampB_length s p b hb, by omega, by omega, by omega⟩
theorem Sm.tears {A Y : List UInt8} (hA : Sm A) (hY : Sm Y) (p : Nat) : Sm (tear p A Y) ∧ (pEpoch (tear p A Y) = if p ≤ 4 then pEpoch Y else pEpoch A) ∧ (pAgain (tear p A Y) = if p ≤ 56 then pAgain Y else pAgain A) ∧ (pAlso (tear p A Y) = if p ≤ 60 then pAlso Y else pAlso A) := by
  have hl : A.length = Y.length := by rw [hA.len, hY.len]
  have h1 := epoch_tear p A Y hl
  have h2 := again_tear p A Y hl
  have h3 := also_tear p A Y hl
  rw [small_tear _ _ _ hA.ep hY.ep] at h1
  rw [small_tear _ _ _ hA.ag hY.ag] at h2
  rw [small_tear _ _ _ hA.al hY.al] at h3
  have e1 : (pEpoch (tear p A Y) = if p ≤ 4 then pEpoch Y else pEpoch A) := by rw [h1]; congr 1; simp; omega
  have e2 : (pAgain (tear p A Y) = if p ≤ 56 then pAgain Y else pAgain A) := by rw [h2]; congr 1; simp; omega
  have e3 : (pAlso (tear p A Y) = if p ≤ 60 then pAlso Y else pAlso A) := by rw [h3]; congr 1; simp; omega
  refine ⟨⟨tear_64 p A Y hA.len hY.len, ?_, ?_, ?_⟩, e1, e2, e3⟩
  · rw [e1]; split; exact hY.ep; exact hA.ep
  · rw [e2]; split; exact hY.ag; exact hA.ag
  · rw [e3]; split; exact hY.al; exact hA.al
/-- A tear that leaves both numbers at the end new, left all new. -/
theorem tear_whole {A Y : List UInt8} (hA : Sm A) (hY : Sm Y) (p : Nat) (hp : 56 < p) (hl : p ≤ 60 → pAlso Y = pAlso A) : tear p A Y = A := by
  obtain ⟨hT, _, e2, e3⟩ := hA.tears hY p
  rw [if_neg (by omega)] at e2
  have e3' : pAlso (tear p A Y) = pAlso A := by rw [e3]; split; exact hl (by omega); rfl
  have i1 : ((tear p A Y).drop 56).take 4 = (A.drop 56).take 4 := ofLE_inj _ _ (by simp [hT.len, hA.len]) e2
  have i2 : ((tear p A Y).drop 60).take 4 = (A.drop 60).take 4 := ofLE_inj _ _ (by simp [hT.len, hA.len]) e3'
  have hAY : A.length = Y.length := by rw [hA.len, hY.len]
  apply List.ext_getElem?
  intro j
  by_cases hj1 : j < 56
  · unfold tear
    rw [torn_get' _ _ hAY, if_pos (by omega)]
  · by_cases hj2 : j < 60
    · have := sub_of i1 (i := j - 56) (by omega)
      rwa [show 56 + (j - 56) = j from by omega] at this
    · by_cases hj3 : j < 64
      · have := sub_of i2 (i := j - 60) (by omega)
        rwa [show 60 + (j - 60) = j from by omega] at this
      · rw [List.getElem?_eq_none (by rw [hT.len]; omega), List.getElem?_eq_none (by rw [hA.len]; omega)]

/-- A ring of n sectors from c on: L is held, the first number f, the epochs from low to E. -/
structure Rg (S : List (List UInt8)) (c n f low E : Nat) (L : List (Nat × List UInt8)) : Prop where
  n1 : 1 ≤ n
  len : c + n ≤ S.length
  few : L.length ≤ n
  f1 : 1 ≤ f
  fm : f + L.length < 256
  em : E < 256
  laid : ∀ i, (h : i < L.length) → S.getD (c + (f + i) % n) [] = stampB (f + i) L[i].1 L[i].2
  mono : Mon E low L
  b43 : ∀ x ∈ L, x.2.length ≤ 43
  sm : ∀ x, x < n → Sm (S.getD (c + x) [])
  al : ∀ x, x < n → pAlso (S.getD (c + x) []) ≤ E
  stop : ¬ Gh (S.getD (c + (f + L.length) % n) []) (f + L.length) (lastE low L)
/-- Nothing from the number q on is of the epoch E. -/
def Fresh (S : List (List UInt8)) (c n E q : Nat) : Prop := ∀ x, x < n → pAgain (S.getD (c + x) []) < q ∨ pAlso (S.getD (c + x) []) < E

theorem mod_ne {f i j n : Nat} (h : i < j) (hn : j - i < n) : (f + i) % n ≠ (f + j) % n := by
  intro e
  have h1 := Nat.div_add_mod (f + i) n
  have h2 := Nat.div_add_mod (f + j) n
  rw [e] at h1
  have : n * ((f + j) / n) = n * ((f + i) / n) + (j - i) := by omega
  have h3 : (f + i) / n < (f + j) / n := by
    rcases Nat.lt_or_ge ((f + i) / n) ((f + j) / n) with q | q
    · exact q
    · have := Nat.mul_le_mul_left n q; omega
  have h4 := Nat.mul_le_mul_left n (show (f + i) / n + 1 ≤ (f + j) / n from h3)
  rw [Nat.mul_add] at h4
  omega

section
variable {S : List (List UInt8)} {c n f low E : Nat} {L : List (Nat × List UInt8)}
theorem Rg.up (h : Rg S c n f low E L) (hm : E + 1 < 256) : Rg S c n f low (E + 1) L ∧ ∀ q, Fresh S c n (E + 1) q :=
  ⟨{ h with em := hm, mono := h.mono.up (Nat.le_succ _), al := fun x hx => Nat.le_succ_of_le (h.al x hx) }, fun q x hx => .inr (Nat.lt_succ_of_le (h.al x hx))⟩
/-- Another sector of the ring, not held, nor the next one. -/
theorem Rg.other (h : Rg S c n f low E L) (j : Nat) (hj : 0 < j) (hn : L.length + j < n) (X : List UInt8) (hX : Sm X) (ha : pAlso X ≤ E) : Rg (S.set (c + (f + L.length + j) % n) X) c n f low E L := by
  have hm : (f + L.length + j) % n < n := Nat.mod_lt _ (by omega)
  have hlt : c + (f + L.length + j) % n < S.length := by have := h.len; omega
  refine { h with len := by simpa using h.len, laid := fun i hi => ?_, sm := fun x hx => ?_, al := fun x hx => ?_, stop := ?_ }
  · rw [getD_set_other, h.laid i hi]
    have := mod_ne (f := f) (i := i) (j := L.length + j) (n := n) (by omega) (by omega)
    rw [← Nat.add_assoc] at this
    omega
  · by_cases hc : (f + L.length + j) % n = x
    · rw [hc, getD_set_same (by omega)]; exact hX
    · rw [getD_set_other (by omega)]; exact h.sm x hx
  · by_cases hc : (f + L.length + j) % n = x
    · rw [hc, getD_set_same (by omega)]; exact ha
    · rw [getD_set_other (by omega)]; exact h.al x hx
  · rw [getD_set_other]
    · exact h.stop
    · have := mod_ne (f := f) (i := L.length) (j := L.length + j) (n := n) (by omega) (by omega)
      rw [← Nat.add_assoc] at this
      omega
/-- The next sector is written. -/
theorem Rg.app (h : Rg S c n f low E L) (hf : Fresh S c n E (f + L.length)) (hn : L.length < n) (b : List UInt8) (hb : b.length ≤ 43) (hm : f + L.length + 1 < 256) :
    Rg (S.set (c + (f + L.length) % n) (stampB (f + L.length) E b)) c n f low E (L ++ [(E, b)]) ∧ Fresh (S.set (c + (f + L.length) % n) (stampB (f + L.length) E b)) c n E (f + L.length + 1) := by
  have hmm : (f + L.length) % n < n := Nat.mod_lt _ (by omega)
  have hlt : c + (f + L.length) % n < S.length := by have := h.len; omega
  obtain ⟨e1, e2, e3, e4⟩ := st_nums (f + L.length) E b (by omega) (by have := h.em; omega) hb
  have hS := Sm.stamp (f + L.length) E b (by omega) h.em hb
  have hfr : Fresh (S.set (c + (f + L.length) % n) (stampB (f + L.length) E b)) c n E (f + L.length + 1) := fun x hx => by
    by_cases hc : (f + L.length) % n = x
    · rw [hc, getD_set_same (by omega), e3]; exact .inl (by omega)
    · rw [getD_set_other (by omega)]
      rcases hf x hx with q | q
      · exact .inl (by omega)
      · exact .inr q
  refine ⟨⟨h.n1, by simpa using h.len, by simp; omega, h.f1, by simp; omega, h.em, fun i hi => ?_, h.mono.append ⟨h.mono.last, Nat.le_refl _⟩, fun x hx => ?_, fun x hx => ?_, fun x hx => ?_, ?_⟩, hfr⟩
  · by_cases hc : i < L.length
    · rw [getD_set_other (by have := mod_ne (f := f) (i := i) (j := L.length) (n := n) (by omega) (by omega); omega), List.getElem_append_left hc]
      exact h.laid i hc
    · obtain rfl : i = L.length := by simp at hi; omega
      rw [getD_set_same hlt]; simp
  · rcases List.mem_append.1 hx with hx | hx
    · exact h.b43 x hx
    · simp at hx; subst hx; exact hb
  · by_cases hc : (f + L.length) % n = x
    · rw [hc, getD_set_same (by omega)]; exact hS
    · rw [getD_set_other (by omega)]; exact h.sm x hx
  · by_cases hc : (f + L.length) % n = x
    · rw [hc, getD_set_same (by omega), e4]; exact Nat.le_refl _
    · rw [getD_set_other (by omega)]; exact h.al x hx
  · rw [lastE_snoc, List.length_append, List.length_singleton, ← Nat.add_assoc]
    rintro ⟨g1, g2, g3⟩
    rcases hfr _ (Nat.mod_lt (f + L.length + 1) h.n1) with q | q
    · omega
    · have : E ≤ pAlso ((S.set (c + (f + L.length) % n) (stampB (f + L.length) E b)).getD (c + (f + L.length + 1) % n) []) := g2
      omega
/-- The next sector is torn. -/
theorem Rg.torn (h : Rg S c n f low E L) (hf : Fresh S c n E (f + L.length)) (hn : L.length < n) (b : List UInt8) (hb : b.length ≤ 43) (p : Nat) :
    tear p (stampB (f + L.length) E b) (S.getD (c + (f + L.length) % n) []) = stampB (f + L.length) E b ∨ Rg (S.set (c + (f + L.length) % n) (tear p (stampB (f + L.length) E b) (S.getD (c + (f + L.length) % n) []))) c n f low E L := by
  have hmm : (f + L.length) % n < n := Nat.mod_lt _ (by omega)
  have hlt : c + (f + L.length) % n < S.length := by have := h.len; omega
  have hfm := h.fm
  obtain ⟨e1, e2, e3, e4⟩ := st_nums (f + L.length) E b (by omega) (by have := h.em; omega) hb
  have hS := Sm.stamp (f + L.length) E b (by omega) h.em hb
  have hX := h.sm _ hmm
  have hXa := h.al _ hmm
  have hXs := h.stop
  have hXf := hf _ hmm
  generalize hXe : S.getD (c + (f + L.length) % n) [] = X at *
  generalize stampB (f + L.length) E b = A at *
  obtain ⟨hT, t1, t2, t3⟩ := hS.tears hX p
  by_cases hw : tear p A X = A
  · exact .inl hw
  · refine .inr { h with len := by simpa using h.len, laid := fun i hi => ?_, sm := fun x hx => ?_, al := fun x hx => ?_, stop := ?_ }
    · rw [getD_set_other (by have := mod_ne (f := f) (i := i) (j := L.length) (n := n) (by omega) (by omega); omega)]
      exact h.laid i hi
    · by_cases hc : (f + L.length) % n = x
      · rw [hc, getD_set_same (by omega)]; exact hT
      · rw [getD_set_other (by omega)]; exact h.sm x hx
    · by_cases hc : (f + L.length) % n = x
      · rw [hc, getD_set_same (by omega), t3]; split; exact hXa; omega
      · rw [getD_set_other (by omega)]; exact h.al x hx
    · rw [getD_set_same hlt]
      rintro ⟨g1, g2, g3⟩
      rw [t1, t3] at g3
      rw [t2] at g1
      rw [t3] at g2
      by_cases p1 : p ≤ 4
      · rw [if_pos (by omega), if_pos (by omega)] at g3
        rw [if_pos (by omega)] at g1 g2
        exact hXs ⟨g1, g2, g3⟩
      · rw [if_neg p1] at g3
        by_cases p2 : p ≤ 56
        · rw [if_pos (by omega)] at g1 g2 g3
          omega
        · refine hw (tear_whole hS hX p (by omega) fun p3 => ?_)
          rw [if_pos (by omega)] at g3
          omega
end

/-- The writes of records, one behind the other. -/
def pendOf (c n E : Nat) : Nat → List (List UInt8) → List (Nat × List UInt8)
  | _, [] => []
  | s, b :: l => (c + s % n, stampB s E b) :: pendOf c n E (s + 1) l
theorem pendOf_snoc (c n E : Nat) (b : List UInt8) : ∀ (l : List (List UInt8)) (s : Nat), pendOf c n E s (l ++ [b]) = pendOf c n E s l ++ [(c + (s + l.length) % n, stampB (s + l.length) E b)]
  | [], s => by simp [pendOf]
  | a :: l, s => by simp [pendOf, pendOf_snoc c n E b l (s + 1), Nat.add_assoc, Nat.add_comm 1]
theorem pendOf_length (c n E : Nat) : ∀ (l : List (List UInt8)) (s : Nat), (pendOf c n E s l).length = l.length
  | [], s => rfl
  | a :: l, s => by simp [pendOf, pendOf_length c n E l (s + 1)]
def recE (E : Nat) (l : List (List UInt8)) : List (Nat × List UInt8) := l.map fun b => (E, b)

/-- All that was written. -/
theorem Rg.lay {c n f low E : Nat} : ∀ (l : List (List UInt8)) {S : List (List UInt8)} {L : List (Nat × List UInt8)}, Rg S c n f low E L → Fresh S c n E (f + L.length) → L.length + l.length ≤ n → (∀ b ∈ l, b.length ≤ 43) → f + L.length + l.length < 256 →
    Rg (laySure S (pendOf c n E (f + L.length) l)) c n f low E (L ++ recE E l) ∧ Fresh (laySure S (pendOf c n E (f + L.length) l)) c n E (f + L.length + l.length)
  | [], S, L, h, hf, _, _, _ => by simpa [pendOf, laySure, recE] using ⟨h, hf⟩
  | b :: l, S, L, h, hf, hn, hb, hm => by
    simp at hn hm
    obtain ⟨h1, f1⟩ := h.app hf (by omega) b (hb b (by simp)) (by omega)
    have := Rg.lay l h1 (by rw [List.length_append]; exact f1) (by simp; omega) (fun x hx => hb x (by simp [hx])) (by simp; omega)
    have e : f + (L ++ [(E, b)]).length = f + L.length + 1 := by simp; omega
    rw [e] at this
    obtain ⟨a1, a2⟩ := this
    refine ⟨?_, ?_⟩
    · have : L ++ recE E (b :: l) = L ++ [(E, b)] ++ recE E l := by simp [recE]
      rw [this]
      exact a1
    · have : f + L.length + (b :: l).length = f + L.length + 1 + l.length := by simp; omega
      rw [this]; exact a2
/-- Behind one that is lost, all others are ghosts. -/
theorem Rg.ghosts {c n f low E : Nat} (zs : List Int) : ∀ (l : List (List UInt8)) {S : List (List UInt8)} {L : List (Nat × List UInt8)} (j k : Nat), Rg S c n f low E L → 0 < j → L.length + j + l.length ≤ n → (∀ b ∈ l, b.length ≤ 43) → f + L.length + j + l.length < 256 →
    Rg (((pendOf c n E (f + L.length + j) l).zipIdx k).foldl (tornAt zs) S) c n f low E L
  | [], S, L, j, k, h, _, _, _, _ => by simpa [pendOf] using h
  | b :: l, S, L, j, k, h, hj, hn, hb, hm => by
    simp at hn hm
    have hmm : (f + L.length + j) % n < n := Nat.mod_lt _ (by omega)
    have hb1 := hb b (by simp)
    have hS := Sm.stamp (f + L.length + j) E b (by omega) h.em hb1
    obtain ⟨_, _, _, e4⟩ := st_nums (f + L.length + j) E b (by omega) (by have := h.em; omega) hb1
    obtain ⟨hT, _, _, t3⟩ := hS.tears (h.sm _ hmm) (pickAt zs k)
    have h1 := h.other j hj (by omega) _ hT (by rw [t3]; split; exact h.al _ hmm; omega)
    have := Rg.ghosts zs l (j + 1) (k + 1) h1 (by omega) (by omega) (fun x hx => hb x (by simp [hx])) (by omega)
    show Rg (((pendOf c n E (f + L.length + j + 1) l).zipIdx (k + 1)).foldl (tornAt zs) (tornAt zs S ((c + (f + L.length + j) % n, stampB (f + L.length + j) E b), k))) c n f low E L
    exact this
/-- Behind a crash: of what was written the first ones alone. -/
theorem Rg.crash {c n f low E : Nat} (zs : List Int) : ∀ (l : List (List UInt8)) {S : List (List UInt8)} {L : List (Nat × List UInt8)} (k : Nat), Rg S c n f low E L → Fresh S c n E (f + L.length) → L.length + l.length ≤ n → (∀ b ∈ l, b.length ≤ 43) → f + L.length + l.length < 256 →
    ∃ j, j ≤ l.length ∧ Rg (((pendOf c n E (f + L.length) l).zipIdx k).foldl (tornAt zs) S) c n f low E (L ++ recE E (l.take j))
  | [], S, L, k, h, hf, _, _, _ => ⟨0, Nat.le_refl _, by simpa [pendOf, recE] using h⟩
  | b :: l, S, L, k, h, hf, hn, hb, hm => by
    simp at hn hm
    have hb1 := hb b (by simp)
    have e0 : (((pendOf c n E (f + L.length) (b :: l)).zipIdx k).foldl (tornAt zs) S) = ((pendOf c n E (f + L.length + 1) l).zipIdx (k + 1)).foldl (tornAt zs) (S.set (c + (f + L.length) % n) (tear (pickAt zs k) (stampB (f + L.length) E b) (S.getD (c + (f + L.length) % n) []))) := rfl
    rw [e0]
    rcases h.torn hf (by omega) b hb1 (pickAt zs k) with hw | hw
    · rw [hw]
      obtain ⟨h1, f1⟩ := h.app hf (by omega) b hb1 (by omega)
      have e : f + (L ++ [(E, b)]).length = f + L.length + 1 := by simp; omega
      obtain ⟨j, hj, hr⟩ := Rg.crash zs l (k + 1) h1 (by rw [e]; exact f1) (by simp; omega) (fun x hx => hb x (by simp [hx])) (by simp; omega)
      rw [e] at hr
      refine ⟨j + 1, by simp; omega, ?_⟩
      have : L ++ recE E ((b :: l).take (j + 1)) = L ++ [(E, b)] ++ recE E (l.take j) := by simp [recE]
      rw [this]; exact hr
    · refine ⟨0, Nat.zero_le _, ?_⟩
      have := Rg.ghosts zs l 1 (k + 1) hw (by omega) (by omega) (fun x hx => hb x (by simp [hx])) (by omega)
      simpa [recE] using this

section
variable {S : List (List UInt8)} {c n f low E : Nat} {L : List (Nat × List UInt8)}
/-- The first ones are dropped. -/
theorem Rg.trim (h : Rg S c n f low E L) (k : Nat) (hk : k ≤ L.length) : Rg S c n (f + k) (lastE low (L.take k)) E (L.drop k) := by
  have hl : f + k + (L.drop k).length = f + L.length := by simp; omega
  refine ⟨h.n1, h.len, by have := h.few; simp; omega, by have := h.f1; omega, by rw [hl]; exact h.fm, h.em, fun i hi => ?_, h.mono.drop k, fun x hx => h.b43 x (List.mem_of_mem_drop hx), h.sm, h.al, ?_⟩
  · have := h.laid (k + i) (by simp at hi; omega)
    rw [← Nat.add_assoc] at this
    rw [this]; simp
  · rw [hl, ← lastE_append, List.take_append_drop]; exact h.stop
/-- What is found. -/
theorem Rg.scan (h : Rg S c n f low E L) : scanM (fun s => parseP (S.getD (c + s % n) [])) E n f low = L := by
  have h0 := h.fm
  have h1 := h.em
  refine scan_chain _ E L n f low h.few (fun i hi => ?_) h.mono (by omega) ?_
  · have hm := h.mono.mem _ (List.getElem_mem hi)
    rw [h.laid i hi, parse_stamp _ _ _ (by have := h.f1; omega) (by omega) (by omega) (h.b43 _ (List.getElem_mem hi))]
  · refine .inr fun q e b hp ⟨h1, h2, h3⟩ => h.stop ?_
    have hp' := hp
    unfold parseP at hp
    split at hp
    · rename_i hc
      have e1 := (parse_again hp').1
      have e2 := (parse_again hp').2
      exact ⟨by omega, by omega, hc.2.2.2.1⟩
    · cases hp
end
end Go.Proofs.YtcpbmempfeloaaaDoor
/- Package journal: the journal in memory; its small functions. -/
namespace Go.Proofs.YtcpbmempfeloaaaDoor
open Go.RowKit
set_option linter.unusedVariables false

/-- A journal: where it lies, how long its ring is, its numbers, what is held (epoch, bytes). -/
structure Jn where
  loc : Nat
  n : Nat
  first : Nat
  epoch : Nat
  low : Nat
  held : List (Nat × List UInt8)
structure Jn.ok (J : Jn) : Prop where
  n1 : 1 ≤ J.n
  n100 : J.n ≤ 100
  locm : J.loc ≤ 512
  f : J.first < 4294967296
  e : J.epoch < 4294967296
  l : J.low < 4294967296
  few : J.held.length ≤ J.n
  hd : ∀ x ∈ J.held, x.1 < 4294967296 ∧ x.2.length ≤ 43
def cellsJ (T : List (Nat × Value × List UInt8)) : List Value := T.flatMap fun x => [.int .u32 (x.1 : Nat), x.2.1]
/-- The blocks of bytes. -/
def KJ (G : Nat → Prop) (c : Nat) (o : Obj) : Prop := G c ∧ ∃ cs fz, o = .cells cs 5 fz
structure JAt (w : World) (bj bd : Nat) (G : Nat → Prop) (vh : Value) (T : List (Nat × Value × List UInt8)) (J : Jn) : Prop where
  top : w.heap[bj]? = some (.cells #[.pointer (some ⟨bd, 0, none⟩), .int .i64 (J.loc : Nat), .int .i64 (J.n : Nat), .int .u32 (J.first : Nat), .int .u32 (J.epoch : Nat), .int .u32 (J.low : Nat), vh] 92 (0, 0))
  row : w.ownsRow 0 94 2 vh T.length (cellsJ T)
  rb : ∀ c, vh.ownBlock = some c → G c
  tr : J.held = T.map fun x => (x.1, x.2.2)
  bs : ∀ x ∈ T, BytesAt (KJ G) w x.2.1 x.2.2
  gb : G bj
  wf : J.ok
/-- A journal at bj, of the disk at bd, its blocks among G. -/
def Jnl (w : World) (bj bd : Nat) (G : Nat → Prop) (J : Jn) : Prop := ∃ vh T, JAt w bj bd G vh T J

theorem KJ.bytes_fr {K : Nat → Obj → Prop} {G : Nat → Prop} {w w' : World} {v : Value} {bs : List UInt8} (hb : BytesAt (KJ G) w v bs) (hf : Fr K w w') (hk : ∀ c o, w.heap[c]? = some o → G c → (∃ cs fz, o = .cells cs 5 fz) → K c o) : BytesAt (KJ G) w' v bs := by
  have h1 : BytesAt (fun c o => KJ G c o ∧ K c o) w v bs := hb.mono fun c o ho hc => ⟨hc, hk c o ho hc.1 hc.2⟩
  exact (h1.fr (hf.mono fun _ _ h => h.2)).mono fun _ _ _ h => h.1
theorem JAt.ne {w : World} {bj bd : Nat} {G : Nat → Prop} {vh : Value} {T : List (Nat × Value × List UInt8)} {J : Jn} (h : JAt w bj bd G vh T J) : vh.ownBlock ≠ some bj := fun e => by
  obtain ⟨cur, hc⟩ := own_tag h.row e
  rw [h.top] at hc
  cases hc
/-- The journal's own block is written: the rest stays. -/
theorem JAt.turn {w w' : World} {bj bd : Nat} {G : Nat → Prop} {vh : Value} {T : List (Nat × Value × List UInt8)} {J J' : Jn} (h : JAt w bj bd G vh T J) (hf : Fr (fun c _ => c ≠ bj) w w')
    (ht : w'.heap[bj]? = some (.cells #[.pointer (some ⟨bd, 0, none⟩), .int .i64 (J'.loc : Nat), .int .i64 (J'.n : Nat), .int .u32 (J'.first : Nat), .int .u32 (J'.epoch : Nat), .int .u32 (J'.low : Nat), vh] 92 (0, 0))) (h2 : J'.held = J.held) (hw : J'.ok) : JAt w' bj bd G vh T J' :=
  ⟨ht, ownsRow_fr h.row hf fun b o e _ q => h.ne (q ▸ e), h.rb, h2 ▸ h.tr, fun x hx => KJ.bytes_fr (h.bs x hx) hf (fun c o ho _ ⟨cs, fz, e⟩ q => by
    rw [q, h.top, e] at ho
    exact nomatch ho), h.gb, hw⟩
theorem Jnl.mono {w : World} {bj bd : Nat} {G G' : Nat → Prop} {J : Jn} (h : Jnl w bj bd G J) (hg : ∀ c, G c → G' c) : Jnl w bj bd G' J := by
  obtain ⟨vh, T, h⟩ := h
  exact ⟨vh, T, h.top, h.row, fun c e => hg _ (h.rb c e), h.tr, fun x hx => (h.bs x hx).mono fun _ _ _ h => ⟨hg _ h.1, h.2⟩, hg _ h.gb, h.wf⟩
theorem JAt.fr {w w' : World} {bj bd : Nat} {G : Nat → Prop} {vh : Value} {T : List (Nat × Value × List UInt8)} {J : Jn} {K : Nat → Obj → Prop} (h : JAt w bj bd G vh T J) (hf : Fr K w w') (hk : ∀ c o, w.heap[c]? = some o → G c → K c o) : JAt w' bj bd G vh T J :=
  ⟨hf.keep _ _ h.top (hk _ _ h.top h.gb), ownsRow_fr h.row hf fun b o e hb => hk b o hb (h.rb b e), h.rb, h.tr, fun x hx => KJ.bytes_fr (h.bs x hx) hf fun c o ho g _ => hk c o ho g, h.gb, h.wf⟩
theorem Jnl.fr {w w' : World} {bj bd : Nat} {G : Nat → Prop} {J : Jn} {K : Nat → Obj → Prop} (h : Jnl w bj bd G J) (hf : Fr K w w') (hk : ∀ c o, w.heap[c]? = some o → G c → K c o) : Jnl w' bj bd G J := by
  obtain ⟨vh, T, h⟩ := h
  exact ⟨vh, T, h.fr hf hk⟩
theorem Jnl.tt {w w' : World} {bj bd : Nat} {G : Nat → Prop} {J : Jn} (h : Jnl w bj bd G J) (hf : Fr (fun _ _ => True) w w') : Jnl w' bj bd G J := h.fr hf fun _ _ _ _ => trivial
theorem JAt.inside {w : World} {bj bd : Nat} {G : Nat → Prop} {vh : Value} {T : List (Nat × Value × List UInt8)} {J : Jn} (h : JAt w bj bd G vh T J) : JAt w bj bd (fun c => G c ∧ c < w.heap.size) vh T J :=
  ⟨h.top, h.row, fun c e => ⟨h.rb c e, by obtain ⟨_, q⟩ := own_tag h.row e; exact lt_of_some q⟩, h.tr, fun x hx => (h.bs x hx).mono fun c o ho hc => ⟨⟨hc.1, lt_of_some ho⟩, hc.2⟩, ⟨h.gb, lt_of_some h.top⟩, h.wf⟩
theorem Jnl.inside {w : World} {bj bd : Nat} {G : Nat → Prop} {J : Jn} (h : Jnl w bj bd G J) : Jnl w bj bd (fun c => G c ∧ c < w.heap.size) J := by
  obtain ⟨vh, T, h⟩ := h
  exact ⟨vh, T, h.inside⟩
theorem Jnl.wf {w : World} {bj bd : Nat} {G : Nat → Prop} {J : Jn} (h : Jnl w bj bd G J) : J.ok := by
  obtain ⟨vh, T, h⟩ := h
  exact h.wf
theorem JAt.len {w : World} {bj bd : Nat} {G : Nat → Prop} {vh : Value} {T : List (Nat × Value × List UInt8)} {J : Jn} (h : JAt w bj bd G vh T J) : T.length = J.held.length := by rw [h.tr, List.length_map]

/-- Where a record stands. -/
def Jn.sec (J : Jn) (s : Nat) : Nat := J.loc + 2 + s % J.n

set_option maxRecDepth 100000 in
theorem sector_q (w : World) (bj bd : Nat) (G : Nat → Prop) (J : Jn) (s : Nat) (h : Jnl w bj bd G J) (hs : s < 4294967296) :
    Calls Tryd.prog 52 #[.pointer (some ⟨bj, 0, none⟩), .int .u32 (s : Nat)] w fun e w' => e = .returned (.int .i64 (J.sec s : Nat)) ∧ ∃ m, w' = w.drewN m := by
  obtain ⟨vh, T, h⟩ := h
  have c1 := cell_mk (i := 1) h.top rfl
  have c2 := cell_mk (i := 2) h.top rfl
  have n1 := h.wf.n1
  have n2 := h.wf.n100
  have n3 := h.wf.locm
  unfold Jn.sec
  generalize J.loc = l at *
  generalize J.n = n at *
  clear h
  have e0 : (n : Int) % 4294967296 = n := by omega
  have e1 : 0 ≤ (s : Int) % n := Int.emod_nonneg _ (by omega)
  have e2 : (s : Int) % n < n := Int.emod_lt_of_pos _ (by omega)
  go_enter Tryd.func52, Tryd.ntmps52
  go_wp2
  go_region
  all_goals
    go_wp2
    go_ret
    exact ⟨by push_cast; rfl, 1, rfl⟩

set_option maxRecDepth 100000 in
theorem next_q (w : World) (bj bd : Nat) (G : Nat → Prop) (J : Jn) (h : Jnl w bj bd G J) :
    Calls Tryd.prog 49 #[.pointer (some ⟨bj, 0, none⟩)] w fun e w' => e = .returned (.int .u64 ((J.first + J.held.length : Nat) : Int)) ∧ ∃ m, w' = w.drewN m := by
  obtain ⟨vh, T, h⟩ := h
  obtain ⟨a, cap, rfl⟩ := own_form h.row
  have c1 := cell_mk (i := 3) h.top rfl
  have c2 := cell_mk (i := 6) h.top rfl
  rw [h.len] at c2
  have n2 := h.wf.n100
  have n3 := h.wf.few
  have n4 := h.wf.f
  generalize J.first = l at *
  generalize J.held.length = n at *
  clear h
  go_enter Tryd.func49, Tryd.ntmps49
  go_wp2
  go_region
  all_goals
    go_wp2
    go_ret
    exact ⟨by push_cast; rfl, 1, rfl⟩

set_option maxRecDepth 100000 in
theorem jlen_calls (w : World) (bj bd : Nat) (G : Nat → Prop) (J : Jn) (h : Jnl w bj bd G J) :
    Calls Tryd.prog 30 #[.pointer (some ⟨bj, 0, none⟩)] w fun e w' => e = .returned (.int .i64 (J.held.length : Nat)) ∧ w = w' := by
  obtain ⟨vh, T, h⟩ := h
  obtain ⟨a, cap, rfl⟩ := own_form h.row
  have c2 := cell_mk (i := 6) h.top rfl
  rw [h.len] at c2
  clear h
  go_enter Tryd.func30, Tryd.ntmps30
  go_wp2
  go_ret
  exact ⟨rfl, rfl⟩
end Go.Proofs.YtcpbmempfeloaaaDoor
/- Package journal: meta and save. -/
namespace Go.Proofs.YtcpbmempfeloaaaDoor
open Go.RowKit
set_option linter.unusedSimpArgs false
set_option linter.unusedVariables false

def endN (n : Nat) (sh : Bool) : Int := if sh then 10 else if 0 < n then 11 else 0
set_option maxRecDepth 100000 in
theorem rend_top (w : World) (br : Nat) (a : Option Addr) (n cap : Nat) (sh : Bool) (c0 : w.cell? ⟨br, 0, none⟩ = some (.slice a n cap)) (c1 : w.cell? ⟨br, 1, none⟩ = some (.bool sh)) :
    Calls Tryd.prog 101 #[.pointer (some ⟨br, 0, none⟩)] w fun e w' => e = .returned (.int .i64 (endN n sh)) ∧ w = w' := by
  cases sh with
  | true =>
    go_enter Tryd.func101, Tryd.ntmps101
    go_wp2
    go_ret
    exact ⟨rfl, rfl⟩
  | false =>
    by_cases hl : 0 < n
    · have HE : Hid (endN n false = 11) := by unfold endN; rw [if_neg (by decide), if_pos hl]; rfl
      have hl' : (0 : Int) < n := by omega
      go_enter Tryd.func101, Tryd.ntmps101
      go_wp2
      go_ret
      exact ⟨by rw [HE.out]; rfl, rfl⟩
    · have HE : Hid (endN n false = 0) := by unfold endN; rw [if_neg (by decide), if_neg hl]; rfl
      have hl' : (n : Int) ≤ 0 := by omega
      go_enter Tryd.func101, Tryd.ntmps101
      go_wp2
      go_ret
      exact ⟨by rw [HE.out]; rfl, rfl⟩

/-- The slot's numbers: first, epoch, low, whether they are right. -/
def metaM (b : List UInt8) : Nat × Nat × Nat × Bool :=
  let x := numR b false 4
  let y := numR x.2.1 x.2.2 4
  let z := numR y.2.1 y.2.2 4
  (x.1, y.1, z.1, endN z.2.1.length z.2.2 == 0 && decide (0 < x.1) && decide (z.1 ≤ y.1))

set_option maxRecDepth 100000 in
theorem meta_calls {K : Nat → Obj → Prop} (w : World) (bj bd : Nat) (G : Nat → Prop) (J : Jn) (v : Value) (b : List UInt8) (h : Jnl w bj bd G J) (hb : BytesAt K w v b) (hbm : b.length ≤ 1000) (f p l : Nat) (ok : Bool) (hr : metaM b = (f, p, l, ok)) :
    Calls Tryd.prog 56 #[.pointer (some ⟨bj, 0, none⟩), v] w fun e w' => e = .returned (.bool ok) ∧ Jnl w' bj bd G { J with first := f, epoch := p, low := l } ∧ Fr (fun c _ => c ≠ bj) w w' := by
  obtain ⟨va, vc, rfl⟩ := hb.form
  obtain ⟨vh, T, h⟩ := h
  obtain ⟨x, r1, s1, e1⟩ : ∃ x r s, numR b false 4 = (x, r, s) := ⟨_, _, _, rfl⟩
  obtain ⟨y, r2, s2, e2⟩ : ∃ x r s, numR r1 s1 4 = (x, r, s) := ⟨_, _, _, rfl⟩
  obtain ⟨z, r3, s3, e3⟩ : ∃ x r s, numR r2 s2 4 = (x, r, s) := ⟨_, _, _, rfl⟩
  have l1 := numR_len b false 4
  have l2 := numR_len r1 s1 4
  have l3 := numR_len r2 s2 4
  have q1 := numR_lt b false 4
  have q2 := numR_lt r1 s1 4
  have q3 := numR_lt r2 s2 4
  rw [e1] at l1 q1
  rw [e2] at l2 q2
  rw [e3] at l3 q3
  simp only [metaM, e1, e2, e3] at hr
  injection hr with hr1 hr
  injection hr with hr2 hr
  injection hr with hr3 hr4
  subst hr1 hr2 hr3 hr4
  replace q1 : x < 4294967296 := q1
  replace q2 : y < 4294967296 := q2
  replace q3 : z < 4294967296 := q3
  replace l1 : r1.length ≤ b.length := l1
  replace l2 : r2.length ≤ r1.length := l2
  replace l3 : r3.length ≤ r2.length := l3
  have hjl : bj < w.heap.size := lt_of_some h.top
  have HJ := Lib.hid h
  have HB := Lib.hid hb
  clear h hb
  go_enter Tryd.func56, Tryd.ntmps56
  go_wp2_with fail
  (with_reducible refine (read_calls w va b.length vc).mono ?_)
  rintro e w1 ⟨rfl, rfl⟩
  have R1 := Lib.hid (LR.mk0 (Fr.refl _ w) HB.out)
  obtain ⟨W, hW⟩ : ∃ W, w.alloc (.cells #[.slice va b.length vc, .bool false] 185 (0, 0)) = W := ⟨_, rfl⟩
  rw [hW] at R1 ⊢
  clear hW
  go_wp2_with fail
  (with_reducible refine (lr_number w W _ b false 4 4 rfl R1.out (by decide) (by decide) (by omega) x r1 s1 e1).mono ?_)
  rintro e w2 ⟨rfl, h2, f2⟩
  have R2 := Lib.hid h2
  clear h2 f2 R1
  go_wp2_with fail
  (with_reducible refine (lr_number w w2 _ r1 s1 4 4 rfl R2.out (by decide) (by decide) (by omega) y r2 s2 e2).mono ?_)
  rintro e w3 ⟨rfl, h3, f3⟩
  have R3 := Lib.hid h3
  clear h3 f3 R2
  go_wp2_with fail
  (with_reducible refine (lr_number w w3 _ r2 s2 4 4 rfl R3.out (by decide) (by decide) (by omega) z r3 s3 e3).mono ?_)
  rintro e w4 ⟨rfl, h4, f4⟩
  have F4 := Lib.hid h4.fr
  have J4 := HJ.out.top
  replace J4 := F4.out.keep _ _ J4 trivial
  have hne : bj ≠ w.heap.size := by omega
  have z3 := frozen_mk (i := 3) J4
  have z4 := frozen_mk (i := 4) J4
  have z5 := frozen_mk (i := 5) J4
  have y3 : w4.cell? ⟨bj, 3, none⟩ = some (.int .u32 (J.first : Nat)) := cell_mk J4 rfl
  have y4 : w4.cell? ⟨bj, 4, none⟩ = some (.int .u32 (J.epoch : Nat)) := cell_mk J4 rfl
  have y5 : w4.cell? ⟨bj, 5, none⟩ = some (.int .u32 (J.low : Nat)) := cell_mk J4 rfl
  have JJ := Lib.hid J4
  obtain ⟨v4, hv4⟩ := h4.at'
  obtain ⟨va4, vc4, rfl⟩ := hv4.bytes.form
  have T4 := Lib.hid hv4.top
  clear h4 f4 R3 hv4 J4
  go_wp2_with fail
  obtain ⟨W5, hW5⟩ : ∃ W5, ((w4.setCell ⟨bj, 3, none⟩ (.int .u32 x)).setCell ⟨bj, 4, none⟩ (.int .u32 y)).setCell ⟨bj, 5, none⟩ (.int .u32 z) = W5 := ⟨_, rfl⟩
  rw [hW5]
  have top5 : W5.heap[w.heap.size]? = some (.cells #[.slice va4 r3.length vc4, .bool s3] 185 (0, 0)) := by
    rw [← hW5, heap_setCell_ne hne.symm, heap_setCell_ne hne.symm, heap_setCell_ne hne.symm]; exact T4.out
  have jt5 : W5.heap[bj]? = some (.cells #[.pointer (some ⟨bd, 0, none⟩), .int .i64 (J.loc : Nat), .int .i64 (J.n : Nat), .int .u32 (x : Nat), .int .u32 (y : Nat), .int .u32 (z : Nat), vh] 92 (0, 0)) := by
    rw [← hW5]; exact heap_setCell_same (heap_setCell_same (heap_setCell_same JJ.out _) _) _
  have f5 : Fr (fun c _ => c ≠ bj) w W5 := by
    rw [← hW5]; exact (((F4.out.mono fun _ _ _ => trivial).setCell (fun _ _ h => h rfl) _).setCell (fun _ _ h => h rfl) _).setCell (fun _ _ h => h rfl) _
  have c3 : W5.cell? ⟨bj, 3, none⟩ = some (.int .u32 x) := cell_mk jt5 rfl
  have c4 : W5.cell? ⟨bj, 4, none⟩ = some (.int .u32 y) := cell_mk jt5 rfl
  have c5 : W5.cell? ⟨bj, 5, none⟩ = some (.int .u32 z) := cell_mk jt5 rfl
  have d0 : W5.cell? ⟨w.heap.size, 0, none⟩ = some (.slice va4 r3.length vc4) := cell_mk top5 rfl
  have d1 : W5.cell? ⟨w.heap.size, 1, none⟩ = some (.bool s3) := cell_mk top5 rfl
  have JF := Lib.hid (HJ.out.turn (J' := { J with first := x, epoch := y, low := z }) f5 jt5 rfl ⟨HJ.out.wf.n1, HJ.out.wf.n100, HJ.out.wf.locm, q1, q2, q3, HJ.out.wf.few, HJ.out.wf.hd⟩)
  have F5 := Lib.hid f5
  clear hW5 top5 jt5 f5 T4 JJ F4 z3 z4 z5 y3 y4 y5
  have RE : Hid (∀ k, Calls Tryd.prog 101 #[.pointer (some ⟨w.heap.size, 0, none⟩)] (W5.drewN k) fun e w' => e = .returned (.int .i64 (endN r3.length s3)) ∧ w' = W5.drewN k) := fun k => (rend_top (W5.drewN k) w.heap.size va4 r3.length vc4 s3 d0 d1).mono fun _ _ h => ⟨h.1, h.2.symm⟩
  obtain ⟨en, hen⟩ : ∃ en, endN r3.length s3 = en := ⟨_, rfl⟩
  rw [hen] at RE
  have HE := Lib.hid hen
  clear d0 d1 hen
  by_cases h1 : en = 0
  · have h1' : (en == 0) = true := by simpa using h1
    by_cases h2 : x = 0
    · have h2' : decide (0 < x) = false := by simp [h2]
      go_wp2_with fail
      go_quiet ((go_at_call 101; exact Calls.quiet_of_same (RE.out _)))
      go_wp2
      go_ret
      exact ⟨by simp [HE.out, h1, h2], Jnl.tt ⟨vh, T, JF.out⟩ ((Fr.refl _ _).drewN _), F5.out.drewN _⟩
    · have h2' : 0 < x := by omega
      go_wp2_with fail
      go_quiet ((go_at_call 101; exact Calls.quiet_of_same (RE.out _)))
      go_wp2
      go_ret
      exact ⟨by simp [HE.out, h1, h2'], Jnl.tt ⟨vh, T, JF.out⟩ ((Fr.refl _ _).drewN _), F5.out.drewN _⟩
  · have h1' : (en == 0) = false := by simpa using h1
    go_wp2_with fail
    go_quiet ((go_at_call 101; exact Calls.quiet_of_same (RE.out _)))
    go_wp2
    go_ret
    exact ⟨by simp [HE.out, h1], Jnl.tt ⟨vh, T, JF.out⟩ ((Fr.refl _ _).drewN _), F5.out.drewN _⟩
end Go.Proofs.YtcpbmempfeloaaaDoor
