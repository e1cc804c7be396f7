/- Texts of the proofs, part 9: what the functions that they reach do, walked; no conditions beyond those that each states. -/
import Derived.Deep.Slices
import Derived.Deep.Fields
import Derived.ChangeSame
import Derived.ProofKit
import Derived.OpenShut
import Derived.Test.YtaeonlafcbgpcaaDoorZz60f91d3fb3
set_option linter.unusedVariables false
set_option linter.unusedSimpArgs false
/- Clean disks, plainly: what two sectors of one place have, whatever is put, saved, synced and crashed there. -/
namespace Go.Proofs.YtaeonlafcbgpcaaDoor
open Go.RowKit

theorem ofLE_torn : ∀ (j : Nat) (u v : List UInt8), u.length = v.length → ofLE (u.take j ++ v.drop j) = ofLE u % 256 ^ j + ofLE v / 256 ^ j * 256 ^ j
  | 0, u, v, _ => by simp [Nat.mod_one]
  | j + 1, [], [], _ => by simp [ofLE]
  | j + 1, [], c :: v, h => by simp at h
  | j + 1, a :: u, [], h => by simp at h
  | j + 1, a :: u, c :: v, h => by
    have ih := ofLE_torn j u v (by simpa using h)
    have ha := a.toNat_lt
    have hc := c.toNat_lt
    rw [List.take_succ_cons, List.drop_succ_cons, List.cons_append, ofLE, ih, ofLE, ofLE, Nat.pow_succ, Nat.mul_comm (256 ^ j) 256, Nat.mod_mul, ← Nat.div_div_eq_div_mul]
    have e1 : (a.toNat + 256 * ofLE u) % 256 = a.toNat := by omega
    have e2 : (a.toNat + 256 * ofLE u) / 256 = ofLE u := by omega
    have e3 : (c.toNat + 256 * ofLE v) / 256 = ofLE v := by omega
    rw [e1, e2, e3, Nat.mul_add]
    have e4 : 256 * (ofLE v / 256 ^ j * 256 ^ j) = ofLE v / 256 ^ j * (256 * 256 ^ j) := by rw [Nat.mul_left_comm]
    omega
theorem torn_get' (U V : List UInt8) (h : U.length = V.length) (q i : Nat) : (U.take q ++ V.drop q)[i]? = if i < q then U[i]? else V[i]? := by
  by_cases hq : q ≤ U.length
  · have hl : (U.take q).length = q := by simp; omega
    by_cases hi : i < q
    · rw [List.getElem?_append_left (by omega), if_pos hi, List.getElem?_take, if_pos hi]
    · rw [List.getElem?_append_right (by omega), if_neg hi, hl, List.getElem?_drop]
      congr 1; omega
  · rw [List.take_of_length_le (by omega), List.drop_of_length_le (by omega), List.append_nil]
    split
    · rfl
    · rw [List.getElem?_eq_none (by omega), List.getElem?_eq_none (by omega)]
theorem tear_sub (p n m : Nat) (A Y : List UInt8) (h : A.length = Y.length) : ((tear p A Y).drop n).take m = ((A.drop n).take m).take (p - n) ++ ((Y.drop n).take m).drop (p - n) := by
  apply List.ext_getElem?
  intro i
  rw [sub_get, torn_get' _ _ (by simp [h]), sub_get, sub_get]
  unfold tear
  rw [torn_get' _ _ h]
  by_cases hm : i < m
  · simp only [if_pos hm]
    by_cases hi : n + i < p
    · rw [if_pos hi, if_pos (by omega)]
    · rw [if_neg hi, if_neg (by omega)]
  · simp only [if_neg hm, ite_self]
theorem again_tear (p : Nat) (A Y : List UInt8) (h : A.length = Y.length) : pAgain (tear p A Y) = pAgain A % 256 ^ (p - 56) + pAgain Y / 256 ^ (p - 56) * 256 ^ (p - 56) := by
  unfold pAgain
  rw [tear_sub p 56 4 A Y h, ofLE_torn _ _ _ (by simp [h])]
theorem also_tear (p : Nat) (A Y : List UInt8) (h : A.length = Y.length) : pAlso (tear p A Y) = pAlso A % 256 ^ (p - 60) + pAlso Y / 256 ^ (p - 60) * 256 ^ (p - 60) := by
  unfold pAlso
  rw [tear_sub p 60 4 A Y h, ofLE_torn _ _ _ (by simp [h])]
/-- A torn number is below the old one, or it is the new one. -/
theorem torn_num (n t j : Nat) (h : (n = 0 ∧ t = 0) ∨ t < n) (hn : n + 1 < 4294967296) :
    (j ≠ 0 ∧ (n + 1) % 256 ^ j + t / 256 ^ j * 256 ^ j = n + 1) ∨ ((n = 0 ∧ (n + 1) % 256 ^ j + t / 256 ^ j * 256 ^ j = 0) ∨ (n + 1) % 256 ^ j + t / 256 ^ j * 256 ^ j < n) := by
  rcases j with _ | _ | _ | _ | j
  · simp [Nat.mod_one]; omega
  · simp; omega
  · simp; omega
  · simp; omega
  · have hj : (4294967296 : Nat) ≤ 256 ^ (j + 1 + 1 + 1 + 1) := by
      have := Nat.pow_le_pow_right (n := 256) (by decide) (show 4 ≤ j + 1 + 1 + 1 + 1 by omega)
      omega
    rw [Nat.mod_eq_of_lt (by omega), Nat.div_eq_of_lt (by omega)]
    omega

/-- Of the place k the last number is n, its bytes b; the sector y is written next. -/
structure Pl (s : List (List UInt8)) (k n y : Nat) (b : List UInt8) : Prop where
  yk : y = k ∨ y = k + 1
  lt : n < 4294967296
  also : pAlso (s.getD y []) = 0
  num : (n = 0 ∧ pAgain (s.getD y []) = 0) ∨ pAgain (s.getD y []) < n
  zero : n = 0 → y = k ∧ b = [] ∧ pAgain (s.getD (k + 1) []) = 0 ∧ pAlso (s.getD (k + 1) []) = 0
  pos : 0 < n → s.getD (2 * k + 1 - y) [] = stampB n 0 b ∧ b.length ≤ 43

theorem getD_set_same {s : List (List UInt8)} {y : Nat} (h : y < s.length) (x : List UInt8) : (s.set y x).getD y [] = x := by
  rw [List.getD_eq_getElem?_getD, List.getElem?_set_self h]; rfl
theorem getD_set_other {s : List (List UInt8)} {y z : Nat} (h : y ≠ z) (x : List UInt8) : (s.set y x).getD z [] = s.getD z [] := by
  rw [List.getD_eq_getElem?_getD, List.getElem?_set_ne h, ← List.getD_eq_getElem?_getD]
theorem getD_64 {s : List (List UInt8)} (h : ∀ x ∈ s, x.length = 64) {y : Nat} (hy : y < s.length) : (s.getD y []).length = 64 := by
  rw [List.getD_eq_getElem?_getD, List.getElem?_eq_getElem hy]
  exact h _ (List.getElem_mem hy)

theorem Pl.step {s : List (List UInt8)} {k n y : Nat} {b b' : List UInt8} (h : Pl s k n y b) (hy : k + 1 < s.length) (hn : n + 1 < 4294967296) (hb : b'.length ≤ 43) : Pl (s.set y (stampB (n + 1) 0 b')) k (n + 1) (2 * k + 1 - y) b' := by
  have hyk := h.yk
  have hlt : y < s.length := by omega
  have hne : y ≠ 2 * k + 1 - y := by omega
  refine ⟨by omega, hn, ?_, ?_, fun e => by omega, fun _ => ⟨?_, hb⟩⟩
  · rw [getD_set_other hne]
    rcases Nat.eq_zero_or_pos n with h0 | h0
    · obtain ⟨e, _, _, h2⟩ := h.zero h0
      rw [show 2 * k + 1 - y = k + 1 by omega]; exact h2
    · rw [(h.pos h0).1]; unfold pAlso; rw [st_also _ _ _ (h.pos h0).2]; decide
  · rw [getD_set_other hne]
    refine .inr ?_
    rcases Nat.eq_zero_or_pos n with h0 | h0
    · obtain ⟨e, _, h2, _⟩ := h.zero h0
      rw [show 2 * k + 1 - y = k + 1 by omega, h2]; omega
    · rw [(h.pos h0).1]; unfold pAgain; rw [st_again _ _ _ (h.pos h0).2, ofLE_le 4 n h.lt]; omega
  · rw [show 2 * k + 1 - (2 * k + 1 - y) = y by omega, getD_set_same hlt]
theorem Pl.stay {s : List (List UInt8)} {k n y : Nat} {b x : List UInt8} (h : Pl s k n y b) (hy : k + 1 < s.length) (ha : pAlso x = 0) (hx : (n = 0 ∧ pAgain x = 0) ∨ pAgain x < n) : Pl (s.set y x) k n y b := by
  have hyk := h.yk
  have hlt : y < s.length := by omega
  refine ⟨h.yk, h.lt, by rw [getD_set_same hlt]; exact ha, by rw [getD_set_same hlt]; exact hx, fun e => ?_, fun e => ?_⟩
  · obtain ⟨e1, e2, e3, e4⟩ := h.zero e
    exact ⟨e1, e2, by rw [getD_set_other (by omega)]; exact e3, by rw [getD_set_other (by omega)]; exact e4⟩
  · rw [getD_set_other (by omega)]; exact h.pos e
theorem Pl.other {s : List (List UInt8)} {k n y z : Nat} {b x : List UInt8} (h : Pl s k n y b) (h1 : z ≠ k) (h2 : z ≠ k + 1) : Pl (s.set z x) k n y b := by
  have hyk := h.yk
  have e : ∀ q, (q = k ∨ q = k + 1) → (s.set z x).getD q [] = s.getD q [] := fun q hq => getD_set_other (by omega) _
  exact ⟨h.yk, h.lt, by rw [e y h.yk]; exact h.also, by rw [e y h.yk]; exact h.num, fun q => by rw [e (k + 1) (.inr rfl)]; exact h.zero q, fun q => by rw [e _ (by omega)]; exact h.pos q⟩

/-- A put that is torn: all as it was, or all is written. -/
theorem Pl.tear {s : List (List UInt8)} {k n y : Nat} {b b' : List UInt8} (h : Pl s k n y b) (hs : ∀ x ∈ s, x.length = 64) (hy : k + 1 < s.length) (hn : n + 1 < 4294967296) (hb : b'.length ≤ 43) (p : Nat) :
    Pl (s.set y (tear p (stampB (n + 1) 0 b') (s.getD y []))) k n y b ∨ tear p (stampB (n + 1) 0 b') (s.getD y []) = stampB (n + 1) 0 b' := by
  have hyk := h.yk
  have hY : (s.getD y []).length = 64 := getD_64 hs (by omega)
  have hA : (stampB (n + 1) 0 b').length = 64 := stampB_length _ _ _ hb
  have aa := st_again (n + 1) 0 b' hb
  have al := st_also (n + 1) 0 b' hb
  have na := h.num
  have ya := h.also
  have hst := fun x => Pl.stay (x := x) h hy
  clear h
  generalize stampB (n + 1) 0 b' = A at hA aa al ⊢
  generalize s.getD y [] = Y at hY na ya ⊢
  have eA : pAgain A = n + 1 := by unfold pAgain; rw [aa, ofLE_le 4 _ hn]
  have eL : pAlso A = 0 := by unfold pAlso; rw [al]; decide
  have h1 := again_tear p A Y (by omega)
  have h2 := also_tear p A Y (by omega)
  rw [eL, ya] at h2
  simp at h2
  rw [eA] at h1
  rcases torn_num n (pAgain Y) (p - 56) na hn with ⟨hj, hr⟩ | hr
  · refine .inr ?_
    rw [hr] at h1
    have i1 : ((_root_.Go.Proofs.YtaeonlafcbgpcaaDoor.tear p A Y).drop 56).take 4 = (A.drop 56).take 4 := ofLE_inj _ _ (by simp [_root_.Go.Proofs.YtaeonlafcbgpcaaDoor.tear]; omega) (by show pAgain _ = pAgain _; rw [h1, eA])
    have i2 : ((_root_.Go.Proofs.YtaeonlafcbgpcaaDoor.tear p A Y).drop 60).take 4 = (A.drop 60).take 4 := ofLE_inj _ _ (by simp [_root_.Go.Proofs.YtaeonlafcbgpcaaDoor.tear]; omega) (by show pAlso _ = pAlso _; rw [h2, eL])
    apply List.ext_getElem?
    intro j
    by_cases hj1 : j < 56
    · unfold _root_.Go.Proofs.YtaeonlafcbgpcaaDoor.tear
      rw [torn_get' _ _ (by omega), if_pos (by omega)]
    · by_cases hj2 : j < 60
      · have := sub_of i1 (i := j - 56) (by omega)
        rwa [show 56 + (j - 56) = j from by omega] at this
      · by_cases hj3 : j < 64
        · have := sub_of i2 (i := j - 60) (by omega)
          rwa [show 60 + (j - 60) = j from by omega] at this
        · rw [List.getElem?_eq_none (by rw [show (_root_.Go.Proofs.YtaeonlafcbgpcaaDoor.tear p A Y).length = 64 from tear_64 p A Y hA hY]; omega), List.getElem?_eq_none (by omega)]
  · exact .inl (hst _ h2 (by rw [h1]; exact hr))

theorem parse_again {l : List UInt8} {s p : Nat} {b : List UInt8} (h : parseP l = some (s, p, b)) : s = pAgain l ∧ p = pAlso l := by
  unfold parseP at h
  split at h
  · rename_i hc
    cases h
    exact ⟨hc.2.2.1, hc.2.2.2.1⟩
  · cases h
theorem lastRec_two (D : Dk) (k : Nat) : lastRec D k = lastOf (k + 1, 0, []) ((secRec D k).toList ++ (secRec D (k + 1)).toList) := by
  unfold lastRec
  rw [recsUpto_succ, recsUpto_succ]
  simp [recsUpto]
theorem secRec_zero {D : Dk} {i : Nat} (h : pAgain (D.seen.getD i []) = 0) : secRec D i = none := by
  cases hs : secRec D i with
  | none => rfl
  | some x =>
    obtain ⟨h1, _⟩ := secRec_some hs
    have := (parse_again h1).1
    have := (parseP_pos h1).1
    omega
theorem secRec_lt {D : Dk} {i n : Nat} (h : pAgain (D.seen.getD i []) < n) : secRec D i = none ∨ ∃ s b, secRec D i = some (i, s, b) ∧ s < n ∧ 0 < s := by
  cases hs : secRec D i with
  | none => exact .inl rfl
  | some x =>
    obtain ⟨h1, h2⟩ := secRec_some hs
    obtain ⟨x1, x2, x3⟩ := x
    have := (parse_again h1).1
    have := (parseP_pos h1).1
    have e : x1 = i := h2
    subst e
    exact .inr ⟨x2, x3, rfl, by simp_all, by simp_all⟩
theorem secRec_stamp {D : Dk} {i n : Nat} {b : List UInt8} (h : D.seen.getD i [] = stampB n 0 b) (h0 : 0 < n) (hn : n < 4294967296) (hb : b.length ≤ 43) : secRec D i = some (i, n, b) := by
  unfold secRec
  rw [h, parse_stamp n 0 b h0 hn (by decide) hb]
  rfl
theorem Pl.last {D : Dk} {k n y : Nat} {b : List UInt8} (h : Pl D.seen k n y b) : lastRec D k = (2 * k + 1 - y, n, b) := by
  rw [lastRec_two]
  rcases Nat.eq_zero_or_pos n with h0 | h0
  · obtain ⟨e, e2, h2, _⟩ := h.zero h0
    have h1 := h.num
    subst h0 e2 e
    rw [secRec_zero (i := y) (by omega), secRec_zero h2]
    show (y + 1, 0, []) = _
    rw [show 2 * y + 1 - y = y + 1 by omega]
  · have h1 : pAgain (D.seen.getD y []) < n := by have := h.num; omega
    obtain ⟨h2, h3⟩ := h.pos h0
    have hx := secRec_stamp h2 h0 h.lt h3
    rcases h.yk with e | e
    · subst e
      rw [show 2 * y + 1 - y = y + 1 by omega] at hx ⊢
      rw [hx]
      rcases secRec_lt h1 with h4 | ⟨s, b1, h4, h5, h6⟩
      · rw [h4]; simp [lastOf, h0]
      · rw [h4]; simp [lastOf, h5, h6]
    · subst e
      rw [show 2 * k + 1 - (k + 1) = k by omega] at hx ⊢
      rw [hx]
      rcases secRec_lt h1 with h4 | ⟨s, b1, h4, h5, h6⟩
      · rw [h4]; simp [lastOf, h0]
      · rw [h4]; simp [lastOf, h0]; omega

/-- All even places are so. -/
def PlAll (s : List (List UInt8)) : Prop := ∀ k, k % 2 = 0 → k + 1 < 8 → ∃ n y b, Pl s k n y b
structure Cl (D : Dk) : Prop where
  len : D.sure.length = 8
  good : D.good
  pl : PlAll D.sure
  pend : D.pend = [] ∨ ∃ k n y b b', k % 2 = 0 ∧ k + 1 < 8 ∧ Pl D.sure k n y b ∧ n + 1 < 4294967296 ∧ b'.length ≤ 43 ∧ D.pend = [(y, stampB (n + 1) 0 b')]

theorem PlAll.set {s : List (List UInt8)} {k n y : Nat} {b b' x : List UInt8} (h : PlAll s) (hl : s.length = 8) (he : k % 2 = 0) (hk : k + 1 < 8) (hp : Pl s k n y b) (hn : n + 1 < 4294967296) (hb : b'.length ≤ 43) (hx : Pl (s.set y x) k n y b ∨ x = stampB (n + 1) 0 b') : PlAll (s.set y x) := by
  intro j hj1 hj2
  by_cases hjk : j = k
  · subst hjk
    rcases hx with hx | hx
    · exact ⟨_, _, _, hx⟩
    · subst hx; exact ⟨_, _, _, hp.step (by omega) hn hb⟩
  · obtain ⟨n', y', b1, h1⟩ := h j hj1 hj2
    have := hp.yk
    exact ⟨n', y', b1, h1.other (by omega) (by omega)⟩
theorem Cl.torn {D : Dk} (h : Cl D) (zs : List Int) : PlAll (layTorn zs D.sure D.pend) := by
  rcases h.pend with hp | ⟨k, n, y, b, b', he, hk, hp, hn, hb, e⟩
  · rw [hp]; exact h.pl
  · rw [e]
    show PlAll (D.sure.set y (tear (pickAt zs 0) (stampB (n + 1) 0 b') (D.sure.getD y [])))
    exact h.pl.set h.len he hk hp hn hb (hp.tear h.good.ok.u64 (by have := h.len; omega) hn hb _)
theorem Cl.laid {D : Dk} (h : Cl D) : PlAll (laySure D.sure D.pend) := by
  rcases h.pend with hp | ⟨k, n, y, b, b', he, hk, hp, hn, hb, e⟩
  · rw [hp]; exact h.pl
  · rw [e]
    show PlAll (D.sure.set y (stampB (n + 1) 0 b'))
    exact h.pl.set h.len he hk hp hn hb (.inr rfl)
theorem Cl.seen {D : Dk} (h : Cl D) : PlAll D.seen := by rw [h.good.seen]; exact h.laid
theorem Cl.crash {D : Dk} (h : Cl D) (zs : List Int) : Cl (D.crash zs) :=
  ⟨by show (layTorn zs D.sure D.pend).length = 8; rw [layTorn_length]; exact h.len, h.good.crash zs, h.torn zs, .inl rfl⟩
theorem Cl.burn {D : Dk} (h : Cl D) : Cl D.burn := ⟨h.len, h.good.burn, h.pl, h.pend⟩
theorem Cl.fuse {D : Dk} (h : Cl D) (n : Int) (h0 : -9223372036854775808 ≤ n) (h1 : n ≤ 9223372036854775807) : Cl { D with fuse := n } := ⟨h.len, h.good.fuse n h0 h1, h.pl, h.pend⟩
theorem Cl.sync {D : Dk} (h : Cl D) : Cl D.sync := by
  have hg := h.good.sync
  unfold Dk.sync at hg ⊢
  split
  · exact h.burn
  · rename_i hd
    rw [if_neg hd] at hg
    exact ⟨by show (laySure D.sure D.pend).length = 8; rw [laySure_length]; exact h.len, hg, h.laid, .inl rfl⟩
theorem stamp_pad (s p : Nat) (b : List UInt8) (h : b.length ≤ 43) : pad (stampB s p b) = stampB s p b := by
  unfold pad; rw [stampB_length s p b h]; simp
/-- What a put to a clean disk does: nothing but to the fuse, or it is pending. -/
theorem Cl.put {D : Dk} (h : Cl D) {k n y : Nat} {b : List UInt8} (he : k % 2 = 0) (hk : k + 1 < 8) (hp : Pl D.seen k n y b) (b' : List UInt8) (hb : b'.length ≤ 43) (hn : n + 1 < 4294967296) :
    (D.sync.burn.down = true ∧ D.sync.write (2 * (k : Int) + 1 - ((2 * k + 1 - y : Nat) : Int)) (stampB (n + 1) 0 b') = (43, D.sync.burn)) ∨
    (D.burn.down = false ∧ D.sync.burn.down = false ∧ D.sync.write (2 * (k : Int) + 1 - ((2 * k + 1 - y : Nat) : Int)) (stampB (n + 1) 0 b') = (0, D.sync.put y (stampB (n + 1) 0 b')) ∧ D.sync.sure = D.seen ∧ D.sync.seen = D.seen ∧ D.sync.pend = []) := by
  have hyk := hp.yk
  have ei : 2 * (k : Int) + 1 - ((2 * k + 1 - y : Nat) : Int) = (y : Int) := by omega
  have hl := h.sync.len
  rw [ei]
  unfold Dk.write
  rw [if_neg (by omega), if_neg (by rw [stampB_length _ _ _ hb]; omega), stamp_pad _ _ _ hb, Int.toNat_natCast]
  cases hd : D.sync.burn.down with
  | true => exact .inl ⟨rfl, by rw [if_pos rfl]⟩
  | false =>
    refine .inr ?_
    have hd1 : D.burn.down = false := by
      cases hq : D.burn.down with
      | false => rfl
      | true =>
        exfalso
        have e : D.sync = D.burn := by unfold Dk.sync; rw [if_pos hq]
        rw [e] at hd
        have : (D.burn.down || D.burn.fuse == 0) = false := hd
        rw [hq] at this; simp at this
    have e : D.sync = { D.burn with sure := laySure D.sure D.pend, pend := [] } := by unfold Dk.sync; rw [if_neg (by rw [hd1]; decide)]
    refine ⟨hd1, rfl, by rw [if_neg (by decide)], ?_, ?_, ?_⟩
    · rw [e]; exact h.good.seen.symm
    · rw [e]; rfl
    · rw [e]
theorem Cl.putY {D : Dk} (h : Cl D) {k n y : Nat} {b b' : List UInt8} (he : k % 2 = 0) (hk : k + 1 < 8) (hp : Pl D.seen k n y b) (hb : b'.length ≤ 43) (hn : n + 1 < 4294967296) (e1 : D.sync.sure = D.seen) (e2 : D.sync.pend = []) : Cl (D.sync.put y (stampB (n + 1) 0 b')) := by
  have hyk := hp.yk
  have hs := h.sync
  have hl := hs.len
  refine ⟨hs.len, hs.good.put y _ (by omega) (stampB_length _ _ _ hb) (by rw [e2]; decide), hs.pl, .inr ⟨k, n, y, b, b', he, hk, ?_, hn, hb, ?_⟩⟩
  · show Pl D.sync.sure k n y b
    rw [e1]; exact hp
  · show D.sync.pend ++ _ = _
    rw [e2]; rfl
theorem Cl.right {D : Dk} (h : Cl D) (i : Int) : D.right i = decide (0 ≤ i ∧ i < 7) := by
  unfold Dk.right; rw [h.len]; rfl
theorem putM_pl {D : Dk} (h : Cl D) {k n y : Nat} {b : List UInt8} (hk : k + 1 < 8) (hp : Pl D.seen k n y b) (b' : List UInt8) :
    putM D k b' = if 43 < b'.length then (2, D) else if n = 4294967295 then (42, D) else D.sync.write (2 * (k : Int) + 1 - ((2 * k + 1 - y : Nat) : Int)) (stampB (n + 1) 0 b') := by
  unfold putM
  rw [h.right, if_pos (by simp; omega), Int.toNat_natCast, hp.last]
theorem Cl.putM {D : Dk} (h : Cl D) (i : Int) (b : List UInt8) (hi : i.tmod 2 = 0) : Cl (putM D i b).2 := by
  cases hr : D.right i with
  | false => unfold Go.Proofs.YtaeonlafcbgpcaaDoor.putM; rw [hr]; exact h
  | true =>
    have hr' := hr
    rw [h.right] at hr'
    have hr' := of_decide_eq_true hr'
    obtain ⟨k, rfl⟩ : ∃ k : Nat, i = k := ⟨i.toNat, by omega⟩
    have he : k % 2 = 0 := by
      rw [Int.tmod_eq_emod_of_nonneg (by omega)] at hi; omega
    obtain ⟨n, y, b0, hp⟩ := h.seen k he (by omega)
    rw [putM_pl h (by omega) hp]
    split
    · exact h
    · split
      · exact h
      · have hlt := hp.lt
        rcases h.put he (by omega) hp b (by omega) (by omega) with ⟨_, e⟩ | ⟨_, _, e, e1, _, e2⟩
        · rw [e]; exact h.sync.burn
        · rw [e]; exact h.putY he (by omega) hp (by omega) (by omega) e1 e2
theorem Cl.saveM {D : Dk} (h : Cl D) (i : Int) (b : List UInt8) (hi : i.tmod 2 = 0) : Cl (saveM D i b).2 := by
  unfold Go.Proofs.YtaeonlafcbgpcaaDoor.saveM
  split
  · exact (h.putM i b hi).sync
  · exact h.putM i b hi
theorem Cl.new : Cl (Dk.new 8) := by
  refine ⟨rfl, Dk.new_good 8 (by decide) (by decide), fun k hk h8 => ⟨0, k, [], ?_⟩, .inl rfl⟩
  have e : ∀ q, q < 8 → (Dk.new 8).sure.getD q [] = List.replicate 64 0 := fun q hq => by
    show (List.replicate 8 (List.replicate 64 (0 : UInt8))).getD q [] = _
    rw [List.getD_eq_getElem?_getD, List.getElem?_replicate, if_pos hq]; rfl
  have z1 : pAgain (List.replicate 64 0) = 0 := by decide
  have z2 : pAlso (List.replicate 64 0) = 0 := by decide
  refine ⟨.inl rfl, by decide, by rw [e k (by omega)]; exact z2, .inl ⟨rfl, by rw [e k (by omega)]; exact z1⟩, fun _ => ⟨rfl, rfl, by rw [e _ h8]; exact z1, by rw [e _ h8]; exact z2⟩, fun h => by omega⟩
/-- What is loaded. -/
theorem Pl.load {D : Dk} {k n y : Nat} {b : List UInt8} (h : Pl D.seen k n y b) (hr : D.right k = true) : loadM D k = if n = 0 then ([], 0, 41) else (b, n, 0) := by
  unfold loadM
  rw [hr, if_pos rfl, Int.toNat_natCast, h.last]
end Go.Proofs.YtaeonlafcbgpcaaDoor
/- Vaults, plainly: what a vault at place 1, of three sectors, has, whatever is saved, synced and crashed. -/
namespace Go.Proofs.YtaeonlafcbgpcaaDoor
open Go.RowKit
set_option linter.unusedVariables false

theorem numR_le (x k : Nat) (r : List UInt8) (h : x < 256 ^ k) : numR (le x k ++ r) false k = (x, r, false) := by
  unfold numR
  have hl : (le x k ++ r).length = k + r.length := by rw [List.length_append, le_length]
  rw [if_neg (by rw [hl]; simp)]
  have e1 : (le x k ++ r).take k = le x k := by
    have := List.take_left (l₁ := le x k) (l₂ := r)
    rwa [le_length] at this
  have e2 : (le x k ++ r).drop k = r := by
    have := List.drop_left (l₁ := le x k) (l₂ := r)
    rwa [le_length] at this
  rw [e1, e2, ofLE_le k x h]
theorem markOf_markB (a n s : Nat) (ha : a ≤ 1) (hn : n < 4294967296) (hs : s < 65536) : markOf (markB a n s) = some (a, n, s) := by
  unfold markOf markB
  rw [numR_le a 1 _ (by omega)]
  simp only
  rw [numR_le n 4 _ hn]
  simp only
  have := numR_le s 2 [] hs
  rw [List.append_nil] at this
  rw [this]
  simp only
  rw [if_neg]
  simp [endR]
  omega

/-- The area's sectors have a record. -/
def AreaOK (s : List (List UInt8)) (a num : Nat) (rec : List UInt8) : Prop := ∀ j, 43 * j < rec.length → s.getD (3 + a * 3 + j) [] = stampB (j + 1) num (chunkAt rec j)
/-- A vault at place 1, of three sectors: its slot's number n, the sector y that is written next, the area a, the slot's bytes b, the record. -/
structure VS (s : List (List UInt8)) (n y a : Nat) (b rec : List UInt8) : Prop where
  pl : Pl s 1 n y b
  alo : a ≤ 1
  zero : n = 0 → a = 1
  pos : 0 < n → b = markB a n rec.length ∧ rec.length ≤ 129 ∧ AreaOK s a n rec

theorem VS.area {s : List (List UInt8)} {n y a : Nat} {b rec : List UInt8} (h : VS s n y a b rec) {z i : Nat} (hi : i < 3) (hz : z = 3 + (1 - a) * 3 + i) (v : List UInt8) : VS (s.set z v) n y a b rec := by
  have ha := h.alo
  refine ⟨h.pl.other (by omega) (by omega), h.alo, h.zero, fun h0 => ?_⟩
  obtain ⟨h1, h2, h3⟩ := h.pos h0
  refine ⟨h1, h2, fun j hj => ?_⟩
  rw [getD_set_other (by
    have : j < 3 := by omega
    have hc : a = 0 ∨ a = 1 := by omega
    rcases hc with rfl | rfl <;> omega)]
  exact h3 j hj
theorem vload_seen {D E : Dk} (h1 : D.seen = E.seen) (h2 : D.sure.length = E.sure.length) (i n : Int) : vload D i n = vload E i n := by
  have e1 : ∀ j, secRec D j = secRec E j := fun j => by unfold secRec; rw [h1]
  have e2 : ∀ k, lastRec D k = lastRec E k := fun k => by rw [lastRec_two, lastRec_two, e1, e1]
  have e3 : ∀ i, D.right i = E.right i := fun i => by unfold Dk.right; rw [h2]
  have e4 : ∀ i, loadM D i = loadM E i := fun i => by unfold loadM; rw [e2, e3]
  have e5 : ∀ i, readV D i = readV E i := fun i => by unfold readV; rw [e4]
  have e6 : ∀ b m s j, vcol D b m s j = vcol E b m s j := fun b m s j => by
    induction j with
    | zero => rfl
    | succ j ih => rw [vcol, vcol, ih, h1]
  have e7 : vright D i n = vright E i n := by unfold vright; rw [h2]
  unfold vload
  rw [e5, e6, e7]
theorem VS.load {D : Dk} {n y a : Nat} {b rec : List UInt8} (h : VS D.seen n y a b rec) (h20 : D.sure.length = 20) : loadM D 1 = if n = 0 then ([], 0, 41) else (b, n, 0) := by
  have := Pl.load (D := D) (k := 1) h.pl (by unfold Dk.right; rw [h20]; decide)
  exact this
theorem VS.read {D : Dk} {n y a : Nat} {b rec : List UInt8} (h : VS D.seen n y a b rec) (h20 : D.sure.length = 20) : readV D 1 = if n = 0 then (1, 0, 0, false) else (a, n, rec.length, true) := by
  unfold readV
  rw [h.load h20]
  by_cases h0 : n = 0
  · rw [if_pos h0, if_pos h0]; rfl
  · rw [if_neg h0, if_neg h0]
    obtain ⟨h1, h2, _⟩ := h.pos (by omega)
    simp only [if_pos]
    rw [h1, markOf_markB a n _ h.alo h.pl.lt (by omega)]
theorem VS.readA {D : Dk} {n y a : Nat} {b rec : List UInt8} (h : VS D.seen n y a b rec) (h20 : D.sure.length = 20) : (readV D 1).1 = a ∧ (readV D 1).2.1 = n := by
  rw [h.read h20]
  by_cases h0 : n = 0
  · rw [if_pos h0]; exact ⟨(h.zero h0).symm, h0.symm⟩
  · rw [if_neg h0]; exact ⟨rfl, rfl⟩
theorem vright13 {D : Dk} (h20 : D.sure.length = 20) : vright D 1 3 = 0 := by
  unfold vright; rw [h20]; decide
theorem vcol_area {D : Dk} {a n : Nat} {rec : List UInt8} (h : AreaOK D.seen a n rec) (hn : n < 4294967296) (hr : rec.length ≤ 129) : ∀ j, 43 * j < rec.length + 43 → vcol D (3 + a * 3) n rec.length j = some (rec.take (43 * j))
  | 0, _ => by simp [vcol]
  | j + 1, hj => by
    have ih := vcol_area h hn hr j (by omega)
    have hc := chunkAt_len rec j
    rw [vcol, ih, h j (by omega), parse_stamp (j + 1) n _ (by omega) (by omega) hn (by omega)]
    have hl : (rec.take (43 * j)).length = 43 * j := by rw [List.length_take]; omega
    show (if j + 1 = j + 1 ∧ n = n ∧ (chunkAt rec j).length = min 43 (rec.length - (rec.take (43 * j)).length) then some (rec.take (43 * j) ++ chunkAt rec j) else none) = _
    rw [if_pos ⟨rfl, rfl, by rw [hl]; exact hc⟩]
    unfold chunkAt
    rw [← List.take_add]
    congr 2
theorem VS.vload {D : Dk} {n y a : Nat} {b rec : List UInt8} (h : VS D.seen n y a b rec) (h20 : D.sure.length = 20) : vload D 1 3 = if n = 0 then ([], 41) else (rec, 0) := by
  unfold Go.Proofs.YtaeonlafcbgpcaaDoor.vload
  rw [vright13 h20, if_neg (by decide), h.read h20]
  by_cases h0 : n = 0
  · rw [if_pos h0, if_pos h0]; rfl
  · rw [if_neg h0, if_neg h0]
    obtain ⟨_, h2, h3⟩ := h.pos (by omega)
    have e : vroom 3 = 129 := by decide
    rw [e, if_neg (by simp; omega)]
    show (match vcol D (3 + a * 3) n rec.length ((rec.length + 42) / 43) with | some out => (out, (0 : Int)) | none => ([], 41)) = _
    rw [vcol_area h3 h.pl.lt h2 _ (by omega), List.take_of_length_le (by omega)]

/-- The j-th piece's write. -/
def wrE (base num : Nat) (x : List UInt8) (j : Nat) : Nat × List UInt8 := (base + j, stampB (j + 1) num (chunkAt x j))
theorem chunk43 (x : List UInt8) (j : Nat) : (chunkAt x j).length ≤ 43 := by rw [chunkAt_len]; omega
theorem write_cases {D : Dk} {z : Nat} {x : List UInt8} (hz : z < D.sure.length) (hx : x.length = 64) : (D.burn.down = true ∧ D.write (z : Int) x = (43, D.burn)) ∨ (D.burn.down = false ∧ D.write (z : Int) x = (0, D.put z x)) := by
  unfold Dk.write
  rw [if_neg (by omega), if_neg (by omega), Int.toNat_natCast, show pad x = x by unfold pad; rw [hx]; simp]
  cases hd : D.burn.down with
  | true => exact .inl ⟨rfl, by rw [if_pos rfl]⟩
  | false => exact .inr ⟨rfl, by rw [if_neg (by decide)]⟩
theorem burn_down {D : Dk} (h : D.burn.down = false) : D.down = false := by
  have : (D.down || D.fuse == 0) = false := h
  cases hd : D.down with
  | false => rfl
  | true => rw [hd] at this; cases this
theorem vwr_form {D : Dk} (hg : D.good) {base num : Nat} {x : List UInt8} (hq : D.pend.length ≤ 100) : ∀ j, j ≤ 30 → base + j ≤ D.sure.length → (vwr D base num x j).2.good ∧ (vwr D base num x j).2.sure = D.sure ∧
    (((vwr D base num x j).1 = 0 ∧ (vwr D base num x j).2.pend = D.pend ++ (List.range j).map (wrE base num x) ∧ (vwr D base num x j).2.down = D.down) ∨ ((vwr D base num x j).1 = 43 ∧ (vwr D base num x j).2.down = true ∧ ∃ i, i < j ∧ (vwr D base num x j).2.pend = D.pend ++ (List.range i).map (wrE base num x)))
  | 0, _, _ => ⟨hg, rfl, .inl ⟨rfl, by simp [vwr], rfl⟩⟩
  | j + 1, h30, hb => by
    obtain ⟨g, hs, hc⟩ := vwr_form hg (base := base) (num := num) (x := x) hq j (by omega) (by omega)
    rcases hc with ⟨h0, hp, hd⟩ | ⟨h0, hd, i, hi, hp⟩
    · rw [vwr, if_pos h0]
      have hpl : (vwr D base num x j).2.pend.length ≤ 200 := by rw [hp, List.length_append, List.length_map, List.length_range]; omega
      generalize (vwr D base num x j).2 = E at g hs hp hd hpl
      have hr : base + j < E.sure.length := by rw [hs]; omega
      rcases write_cases hr (stampB_length (j + 1) num (chunkAt x j) (chunk43 x j)) with ⟨hbd, e⟩ | ⟨hbd, e⟩
      · rw [e]
        exact ⟨g.burn, hs, .inr ⟨rfl, hbd, j, by omega, hp⟩⟩
      · rw [e]
        refine ⟨g.put _ _ hr (stampB_length _ _ _ (chunk43 x j)) (by omega), hs, .inl ⟨rfl, ?_, ?_⟩⟩
        · show E.pend ++ [_] = _
          rw [hp, List.range_succ, List.map_append, List.append_assoc]
          rfl
        · show E.burn.down = D.down
          rw [hbd, ← hd, burn_down hbd]
    · rw [vwr, if_neg (by rw [h0]; decide)]
      exact ⟨g, hs, .inr ⟨h0, hd, i, by omega, hp⟩⟩
theorem sync_dn {D : Dk} (h : D.down = true) : D.sync = D.burn := by
  unfold Dk.sync
  rw [if_pos]
  show (D.down || _) = true
  rw [h]; rfl
theorem burn_true {D : Dk} (h : D.down = true) : D.burn.down = true := by show (D.down || _) = true; rw [h]; rfl

/-- A put, at a place k of a disk: it is refused, or pending. -/
theorem put_gen {D : Dk} (hg : D.good) {k n y : Nat} {b x : List UInt8} (hk : k + 1 < D.sure.length) (hp : Pl D.seen k n y b) (hx : x.length ≤ 43) (hn : n + 1 < 4294967296) :
    (D.sync.burn.down = true ∧ putM D k x = (43, D.sync.burn)) ∨ (D.burn.down = false ∧ putM D k x = (0, D.sync.put y (stampB (n + 1) 0 x)) ∧ D.sync.sure = D.seen ∧ D.sync.pend = []) := by
  have hyk := hp.yk
  have e1 : putM D k x = D.sync.write ((y : Nat) : Int) (stampB (n + 1) 0 x) := by
    unfold putM
    have hr : D.right (k : Int) = true := by unfold Dk.right; simp; omega
    rw [hr, if_pos rfl, if_neg (by omega), Int.toNat_natCast, hp.last, if_neg (by show ¬ n = 4294967295; omega)]
    have ei : 2 * (k : Int) + 1 - ((2 * k + 1 - y : Nat) : Int) = (y : Int) := by omega
    show D.sync.write (2 * (k : Int) + 1 - ((2 * k + 1 - y : Nat) : Int)) _ = _
    rw [ei]
  have hl : D.sync.sure.length = D.sure.length := by
    unfold Dk.sync
    split
    · rfl
    · exact laySure_length _ _
  rw [e1]
  rcases write_cases (D := D.sync) (z := y) (by rw [hl]; omega) (stampB_length (n + 1) 0 x hx) with ⟨hd, e⟩ | ⟨hd, e⟩
  · exact .inl ⟨hd, e⟩
  · refine .inr ?_
    have hd1 : D.burn.down = false := by
      cases hq : D.burn.down with
      | false => rfl
      | true =>
        exfalso
        have e : D.sync = D.burn := by unfold Dk.sync; rw [if_pos hq]
        rw [e, burn_true hq] at hd
        cases hd
    have e2 : D.sync = { D.burn with sure := laySure D.sure D.pend, pend := [] } := by unfold Dk.sync; rw [if_neg (by rw [hd1]; decide)]
    exact ⟨hd1, e, by rw [e2]; exact hg.seen.symm, by rw [e2]⟩
end Go.Proofs.YtaeonlafcbgpcaaDoor
/- Vaults, plainly: a save. -/
namespace Go.Proofs.YtaeonlafcbgpcaaDoor
open Go.RowKit
set_option linter.unusedVariables false

/-- Writes to the area that does not count. -/
def Side (p : List (Nat × List UInt8)) (a : Nat) : Prop := ∀ e ∈ p, ∃ i, i < 3 ∧ e.1 = 3 + (1 - a) * 3 + i
theorem VS.reset {s : List (List UInt8)} {n y a : Nat} {b rec v : List UInt8} (h : VS s n y a b rec) (hp : Pl (s.set y v) 1 n y b) : VS (s.set y v) n y a b rec := by
  have hy := h.pl.yk
  refine ⟨hp, h.alo, h.zero, fun h0 => ?_⟩
  obtain ⟨h1, h2, h3⟩ := h.pos h0
  exact ⟨h1, h2, fun j hj => by rw [getD_set_other (by omega)]; exact h3 j hj⟩
theorem VS.step {s : List (List UInt8)} {n y a : Nat} {b rec x : List UInt8} (h : VS s n y a b rec) (h20 : s.length = 20) (hn : n + 1 < 4294967296) (hx : x.length ≤ 129) (ha : AreaOK s (1 - a) (n + 1) x) : VS (s.set y (stampB (n + 1) 0 (markB (1 - a) (n + 1) x.length))) (n + 1) (3 - y) (1 - a) (markB (1 - a) (n + 1) x.length) x := by
  have hy := h.pl.yk
  have hp := h.pl.step (b' := markB (1 - a) (n + 1) x.length) (by omega) hn (by rw [markB_length]; decide)
  refine ⟨hp, by omega, fun e => by omega, fun _ => ⟨rfl, hx, fun j hj => ?_⟩⟩
  rw [getD_set_other (by omega)]
  exact ha j hj
theorem VS.foldTorn {n y a : Nat} {b rec : List UInt8} (zs : List Int) (l : List ((Nat × List UInt8) × Nat)) : ∀ s : List (List UInt8), VS s n y a b rec → (∀ e ∈ l, ∃ i, i < 3 ∧ e.1.1 = 3 + (1 - a) * 3 + i) → VS (l.foldl (tornAt zs) s) n y a b rec := by
  induction l with
  | nil => intro s h _; exact h
  | cons e l ih =>
    intro s h hl
    obtain ⟨i, hi, he⟩ := hl e (by simp)
    exact ih (tornAt zs s e) (h.area hi he _) fun e' h' => hl e' (by simp [h'])
theorem VS.torn {s : List (List UInt8)} {n y a : Nat} {b rec : List UInt8} (h : VS s n y a b rec) (zs : List Int) {p : List (Nat × List UInt8)} (hp : Side p a) : VS (layTorn zs s p) n y a b rec :=
  VS.foldTorn zs _ s h fun e he => hp e.1 (by
    have := List.mem_map_of_mem (f := Prod.fst) he
    rwa [List.zipIdx_map_fst] at this)
theorem VS.laid {s : List (List UInt8)} {n y a : Nat} {b rec : List UInt8} (h : VS s n y a b rec) (p : List (Nat × List UInt8)) (hp : Side p a) : VS (laySure s p) n y a b rec := by
  unfold laySure
  induction p generalizing s with
  | nil => exact h
  | cons e p ih =>
    obtain ⟨i, hi, he⟩ := hp e (by simp)
    exact ih (h.area hi he _) fun e' h' => hp e' (by simp [h'])

/-- A disk amid a save of x, or behind one that came to nothing. -/
structure Mid (D : Dk) (n y a : Nat) (b rec x : List UInt8) : Prop where
  vs : VS D.sure n y a b rec
  few : D.pend.length ≤ 10
  pe : Side D.pend a ∨ (D.pend = [(y, stampB (n + 1) 0 (markB (1 - a) (n + 1) x.length))] ∧ x.length ≤ 129 ∧ n + 1 < 4294967296 ∧ AreaOK D.sure (1 - a) (n + 1) x)
theorem Mid.crash {D : Dk} (hg : D.good) (h20 : D.sure.length = 20) {n y a : Nat} {b rec x : List UInt8} (h : Mid D n y a b rec x) (zs : List Int) :
    VS (D.crash zs).sure n y a b rec ∨ VS (D.crash zs).sure (n + 1) (3 - y) (1 - a) (markB (1 - a) (n + 1) x.length) x := by
  show VS (layTorn zs D.sure D.pend) n y a b rec ∨ VS (layTorn zs D.sure D.pend) (n + 1) (3 - y) (1 - a) (markB (1 - a) (n + 1) x.length) x
  rcases h.pe with hp | ⟨hp, hx, hn, ha⟩
  · exact .inl (h.vs.torn zs hp)
  · rw [hp]
    show VS (D.sure.set y (tear (pickAt zs 0) (stampB (n + 1) 0 (markB (1 - a) (n + 1) x.length)) (D.sure.getD y []))) _ _ _ _ _ ∨ VS (D.sure.set y (tear (pickAt zs 0) (stampB (n + 1) 0 (markB (1 - a) (n + 1) x.length)) (D.sure.getD y []))) _ _ _ _ _
    rcases h.vs.pl.tear hg.ok.u64 (by omega) hn (b' := markB (1 - a) (n + 1) x.length) (by rw [markB_length]; decide) (pickAt zs 0) with h1 | h1
    · exact .inl (h.vs.reset h1)
    · rw [h1]; exact .inr (h.vs.step h20 hn hx ha)

theorem write_dn {D : Dk} (h : D.down = true) (i : Int) (b : List UInt8) : (D.write i b).1 ≠ 0 ∧ (D.write i b).2.sure = D.sure ∧ (D.write i b).2.pend = D.pend ∧ (D.write i b).2.down = true := by
  unfold Dk.write
  split
  · exact ⟨(by decide : (40 : Int) ≠ 0), rfl, rfl, h⟩
  · split
    · exact ⟨(by decide : (2 : Int) ≠ 0), rfl, rfl, h⟩
    · rw [if_pos (burn_true h)]
      exact ⟨(by decide : (43 : Int) ≠ 0), rfl, rfl, burn_true h⟩
theorem putM_dn {D : Dk} (h : D.down = true) (i : Int) (b : List UInt8) : (putM D i b).1 ≠ 0 ∧ (putM D i b).2.sure = D.sure ∧ (putM D i b).2.pend = D.pend ∧ (putM D i b).2.down = true := by
  unfold putM
  split
  · split
    · exact ⟨(by decide : (2 : Int) ≠ 0), rfl, rfl, h⟩
    · split
      · exact ⟨(by decide : (42 : Int) ≠ 0), rfl, rfl, h⟩
      · rw [sync_dn h]
        exact write_dn (burn_true h) _ _
  · exact ⟨(by decide : (40 : Int) ≠ 0), rfl, rfl, h⟩
theorem saveM_dn {D : Dk} (h : D.down = true) (i : Int) (b : List UInt8) : (saveM D i b).1 ≠ 0 ∧ (saveM D i b).2.sure = D.sure ∧ (saveM D i b).2.pend = D.pend ∧ (saveM D i b).2.down = true := by
  obtain ⟨h1, h2⟩ := putM_dn h i b
  unfold saveM
  rw [if_neg h1]
  exact ⟨h1, h2⟩
theorem vwr_dn {D : Dk} (h : D.down = true) (base num : Nat) (x : List UInt8) : ∀ j, (vwr D base num x j).2.sure = D.sure ∧ (vwr D base num x j).2.pend = D.pend ∧ (vwr D base num x j).2.down = true
  | 0 => ⟨rfl, rfl, h⟩
  | j + 1 => by
    obtain ⟨h1, h2, h3⟩ := vwr_dn h base num x j
    rw [vwr]
    split
    · obtain ⟨_, w1, w2, w3⟩ := write_dn h3 ((base + j : Nat) : Int) (stampB (j + 1) num (chunkAt x j))
      exact ⟨w1.trans h1, w2.trans h2, w3⟩
    · exact ⟨h1, h2, h3⟩
theorem vsave_dn {D : Dk} (h : D.down = true) (i n : Int) (x : List UInt8) : (vsave D i n x).1 ≠ 0 ∧ (vsave D i n x).2.sure = D.sure ∧ (vsave D i n x).2.pend = D.pend ∧ (vsave D i n x).2.down = true := by
  unfold vsave
  split
  · rename_i h0; exact ⟨h0, rfl, rfl, h⟩
  · split
    · exact ⟨(by decide : (2 : Int) ≠ 0), rfl, rfl, h⟩
    · split
      · exact ⟨(by decide : (42 : Int) ≠ 0), rfl, rfl, h⟩
      · obtain ⟨h1, h2, h3⟩ := vwr_dn h (i.toNat + 2 + (1 - (readV D i).1) * n.toNat) ((readV D i).2.1 + 1) x ((x.length + 42) / 43)
        split
        · rw [sync_dn h3]
          obtain ⟨w0, w1, w2, w3⟩ := saveM_dn (burn_true h3) i (markB (1 - (readV D i).1) ((readV D i).2.1 + 1) x.length)
          exact ⟨w0, w1.trans h1, w2.trans h2, w3⟩
        · rename_i h0; exact ⟨h0, h1, h2, h3⟩
theorem vwr_good {D : Dk} (hg : D.good) (base num : Nat) (x : List UInt8) (hq : D.pend.length ≤ 1000) : ∀ j, j ≤ 30 → (vwr D base num x j).2.good
  | 0, _ => hg
  | j + 1, h => by
    have ih := vwr_good hg base num x hq j (by omega)
    rw [vwr]
    split
    · exact ih.write _ _ (by have := vwr_pend (D := D) (base := base) (num := num) (b := x) j; omega)
    · exact ih
theorem vsave_good {D : Dk} (hg : D.good) (i n : Int) (x : List UInt8) (hq : D.pend.length ≤ 1000) : (vsave D i n x).2.good := by
  unfold vsave
  split
  · exact hg
  · split
    · exact hg
    · rename_i _ hr
      have hr2 := vroom_bd n
      split
      · exact hg
      · have g := vwr_good hg (i.toNat + 2 + (1 - (readV D i).1) * n.toNat) ((readV D i).2.1 + 1) x hq ((x.length + 42) / 43) (by omega)
        have hp := vwr_pend (D := D) (base := i.toNat + 2 + (1 - (readV D i).1) * n.toNat) (num := (readV D i).2.1 + 1) (b := x) ((x.length + 42) / 43)
        split
        · refine g.sync.saveM _ _ (Nat.lt_of_le_of_lt (pend_sync _) (by omega))
        · exact g
theorem laid_area (s : List (List UInt8)) (base num : Nat) (x : List UInt8) : ∀ c, base + c ≤ s.length → ∀ j, j < c → (laySure s ((List.range c).map (wrE base num x))).getD (base + j) [] = stampB (j + 1) num (chunkAt x j)
  | 0, _, j, hj => by omega
  | c + 1, hl, j, hj => by
    rw [List.range_succ, List.map_append, List.map_cons, List.map_nil, laySure_snoc]
    show ((laySure s ((List.range c).map (wrE base num x))).set (base + c) (stampB (c + 1) num (chunkAt x c))).getD (base + j) [] = _
    by_cases hjc : j = c
    · subst hjc
      exact getD_set_same (by rw [laySure_length]; omega) _
    · rw [getD_set_other (by omega)]
      exact laid_area s base num x c (by omega) j (by omega)
theorem side_wr (a num : Nat) (x : List UInt8) (i : Nat) (hi : i ≤ 3) : Side ((List.range i).map (wrE (3 + (1 - a) * 3) num x)) a := by
  intro e he
  obtain ⟨t, ht, rfl⟩ := List.mem_map.1 he
  exact ⟨t, by have := List.mem_range.1 ht; omega, rfl⟩

/-- A save on a disk that is not down and on which nothing is pending. -/
theorem vsave_up {D : Dk} (hg : D.good) (h20 : D.sure.length = 20) (hdn : D.down = false) (hpn : D.pend = []) {n y a : Nat} {b rec : List UInt8} (hv : VS D.sure n y a b rec) (hn : n + 1 < 4294967295) (x : List UInt8) (hx : x.length ≤ 129) :
    ((vsave D 1 3 x).1 ≠ 0 ∧ (vsave D 1 3 x).2.down = true ∧ Mid (vsave D 1 3 x).2 n y a b rec x) ∨ ((vsave D 1 3 x).1 = 0 ∧ (vsave D 1 3 x).2.down = false ∧ (vsave D 1 3 x).2.pend = [] ∧ VS (vsave D 1 3 x).2.sure (n + 1) (3 - y) (1 - a) (markB (1 - a) (n + 1) x.length) x) := by
  have hseen : D.seen = D.sure := by rw [hg.seen, hpn]; rfl
  have hvs : VS D.seen n y a b rec := by rw [hseen]; exact hv
  obtain ⟨r1, r2⟩ := hvs.readA h20
  have ev : vsave D 1 3 x = if (vwr D (3 + (1 - a) * 3) (n + 1) x ((x.length + 42) / 43)).1 = 0 then saveM (vwr D (3 + (1 - a) * 3) (n + 1) x ((x.length + 42) / 43)).2.sync 1 (markB (1 - a) (n + 1) x.length) else vwr D (3 + (1 - a) * 3) (n + 1) x ((x.length + 42) / 43) := by
    unfold vsave
    rw [vright13 h20, if_neg (by decide), if_neg (by rw [show vroom 3 = 129 by decide]; omega), r1, r2, if_neg (by omega)]
    rfl
  rw [ev]
  obtain ⟨c, hc⟩ : ∃ c, (x.length + 42) / 43 = c := ⟨_, rfl⟩
  have hc3 : c ≤ 3 := by omega
  have hcx : x.length ≤ 43 * c := by omega
  rw [hc]
  obtain ⟨g, hs, hcase⟩ := vwr_form hg (base := 3 + (1 - a) * 3) (num := n + 1) (x := x) (by rw [hpn]; decide) c (by omega) (by omega)
  rw [hpn] at hcase
  rcases hcase with ⟨h0, hp, hd⟩ | ⟨h0, hd, i, hi, hp⟩
  · rw [if_pos h0]
    generalize (vwr D (3 + (1 - a) * 3) (n + 1) x c).2 = E at g hs hp hd
    rw [List.nil_append] at hp
    have hside : Side E.pend a := by rw [hp]; exact side_wr a _ x c hc3
    have hfew : E.pend.length ≤ 10 := by rw [hp, List.length_map, List.length_range]; omega
    cases hb : E.burn.down with
    | true =>
      have es : E.sync = E.burn := by unfold Dk.sync; rw [if_pos hb]
      rw [es]
      obtain ⟨w0, w1, w2, w3⟩ := saveM_dn hb 1 (markB (1 - a) (n + 1) x.length)
      refine .inl ⟨w0, w3, ?_, ?_, ?_⟩
      · rw [w1]; show VS E.sure _ _ _ _ _; rw [hs]; exact hv
      · rw [w2]; exact hfew
      · rw [w2]; exact .inl hside
    | false =>
      have es : E.sync = { E.burn with sure := laySure E.sure E.pend, pend := [] } := by unfold Dk.sync; rw [if_neg (by rw [hb]; decide)]
      have gs := g.sync
      have ss : E.sync.sure = laySure D.sure ((List.range c).map (wrE (3 + (1 - a) * 3) (n + 1) x)) := by rw [es]; show laySure E.sure E.pend = _; rw [hs, hp]
      have ps : E.sync.pend = [] := by rw [es]
      have ls : E.sync.sure.length = 20 := by rw [ss, laySure_length]; exact h20
      have vs' : VS E.sync.sure n y a b rec := by rw [ss]; exact hv.laid _ (side_wr a _ x c hc3)
      have ar : AreaOK E.sync.sure (1 - a) (n + 1) x := fun j hj => by
        rw [ss]; exact laid_area D.sure (3 + (1 - a) * 3) (n + 1) x c (by omega) j (by omega)
      generalize E.sync = E' at gs ss ps ls vs' ar
      have hse : E'.seen = E'.sure := by rw [gs.seen, ps]; rfl
      have hml : (markB (1 - a) (n + 1) x.length).length ≤ 43 := by rw [markB_length]; decide
      have hsame : E'.sync.sure = E'.sure ∧ E'.sync.pend = [] := by
        unfold Dk.sync
        split
        · exact ⟨rfl, ps⟩
        · exact ⟨by show laySure E'.sure E'.pend = _; rw [ps]; rfl, rfl⟩
      rcases put_gen gs (k := 1) (x := markB (1 - a) (n + 1) x.length) (by omega) (by rw [hse]; exact vs'.pl) hml (by omega) with ⟨hbd, e⟩ | ⟨hbd, e, e1, e2⟩
      · have e' : saveM E' 1 (markB (1 - a) (n + 1) x.length) = (43, E'.sync.burn) := by
          unfold saveM
          rw [show putM E' 1 (markB (1 - a) (n + 1) x.length) = (43, E'.sync.burn) from e]; rfl
        rw [e']
        refine .inl ⟨(by decide : (43 : Int) ≠ 0), hbd, ?_, ?_, .inl ?_⟩
        · show VS E'.sync.sure _ _ _ _ _; rw [hsame.1]; exact vs'
        · show E'.sync.pend.length ≤ 10; rw [hsame.2]; decide
        · show Side E'.sync.pend a; rw [hsame.2]; intro e he; cases he
      · have hpS : (E'.sync.put y (stampB (n + 1) 0 (markB (1 - a) (n + 1) x.length))).sure = E'.sure := e1.trans hse
        have hpP : (E'.sync.put y (stampB (n + 1) 0 (markB (1 - a) (n + 1) x.length))).pend = [(y, stampB (n + 1) 0 (markB (1 - a) (n + 1) x.length))] := by show E'.sync.pend ++ _ = _; rw [e2]; rfl
        generalize E'.sync.put y (stampB (n + 1) 0 (markB (1 - a) (n + 1) x.length)) = Dp at e hpS hpP
        cases hd2 : Dp.burn.down with
        | true =>
          have es2 : Dp.sync = Dp.burn := by unfold Dk.sync; rw [if_pos hd2]
          have e' : saveM E' 1 (markB (1 - a) (n + 1) x.length) = (43, Dp.burn) := by
            unfold saveM
            rw [show putM E' 1 (markB (1 - a) (n + 1) x.length) = (0, Dp) from e, if_pos rfl]
            show (if Dp.sync.down then (43 : Int) else 0, Dp.sync) = _
            rw [es2, if_pos hd2]
          rw [e']
          refine .inl ⟨(by decide : (43 : Int) ≠ 0), hd2, ?_, ?_, .inr ⟨hpP, hx, by omega, ?_⟩⟩
          · show VS Dp.sure _ _ _ _ _; rw [hpS]; exact vs'
          · show Dp.pend.length ≤ 10; rw [hpP]; simp
          · show AreaOK Dp.sure _ _ _; rw [hpS]; exact ar
        | false =>
          have es2 : Dp.sync = { Dp.burn with sure := laySure Dp.sure Dp.pend, pend := [] } := by unfold Dk.sync; rw [if_neg (by rw [hd2]; decide)]
          have e' : saveM E' 1 (markB (1 - a) (n + 1) x.length) = (0, Dp.sync) := by
            unfold saveM
            rw [show putM E' 1 (markB (1 - a) (n + 1) x.length) = (0, Dp) from e, if_pos rfl]
            show (if Dp.sync.down then (43 : Int) else 0, Dp.sync) = _
            rw [show Dp.sync.down = false by rw [es2]; exact hd2]; rfl
          rw [e']
          refine .inr ⟨rfl, by rw [es2]; exact hd2, by rw [es2], ?_⟩
          have : (0, Dp.sync).2.sure = E'.sure.set y (stampB (n + 1) 0 (markB (1 - a) (n + 1) x.length)) := by
            show Dp.sync.sure = _
            rw [es2]
            show laySure Dp.sure Dp.pend = _
            rw [hpS, hpP]; rfl
          rw [this]
          exact vs'.step ls (by omega) hx ar
  · rw [if_neg (by rw [h0]; decide)]
    refine .inl ⟨by rw [h0]; decide, hd, by rw [hs]; exact hv, ?_, .inl ?_⟩
    · rw [hp, List.nil_append, List.length_map, List.length_range]; omega
    · rw [hp, List.nil_append]; exact side_wr a _ x i (by omega)
end Go.Proofs.YtaeonlafcbgpcaaDoor
/- Arguments that can be read as data: what lies in memory, by the type's shape. -/
namespace Go.Proofs.YtaeonlafcbgpcaaDoor
open Go.RowKit Go.ChangeShapes Go.WideShapes

/-- The cells can be read as a value of the type. -/
def Rd (P : Program) (w : World) (t : TypeId) (cs : List Value) : Prop :=
  ∃ (H : Type) (enc : TypeId × Value → H) (sp : Nat → Bool) (held : Bool) (fuel : Nat) (x : DataW H × List MemPlace), DataW.trod enc P w 0 sp held fuel t cs = some x

theorem Rd.of {H : Type} {enc : TypeId × Value → H} {P : Program} {w : World} {sp : Nat → Bool} {held : Bool} {t : TypeId} {v : Value} {d : DataW H} {p : List MemPlace} (h : DataW.Trod enc P w 0 sp held t v d p) : Rd P w t v.cells.toList := by
  obtain ⟨fuel, hf⟩ := h
  exact ⟨H, enc, sp, held, fuel, _, hf⟩

section
variable {P : Program} {w : World} {t e : TypeId} {cs : List Value}
theorem Rd.int {k : IntKind} (ht : P.underlying t = some (.int k)) (h : Rd P w t cs) : ∃ n, cs = [.int k n] ∧ (Lit.int k n).wf = true := by
  obtain ⟨H, enc, sp, held, fuel, x, h⟩ := h
  obtain ⟨n, h1, _, h2⟩ := DataW.trod_int ht h
  exact ⟨n, h1, h2⟩
theorem Rd.bool (ht : P.underlying t = some .bool) (h : Rd P w t cs) : ∃ b, cs = [.bool b] := by
  obtain ⟨H, enc, sp, held, fuel, x, h⟩ := h
  obtain ⟨n, h1, _⟩ := DataW.trod_bool ht h
  exact ⟨n, h1⟩
/-- A slice: nil, or len elements of sz cells each. -/
theorem Rd.slice {sz : Nat} (ht : P.underlying t = some (.slice e)) (hs : P.cellsOf e = sz) (h : Rd P w t cs) :
    ∃ a len cap, cs = [.slice a len cap] ∧ len ≤ cap ∧ cap ≤ maxLen ∧ (a = none → cap = 0) ∧
      ∀ i, i < len → ∃ ad cs', a = some ad ∧ cs'.length = sz ∧ (∀ j, j < sz → w.cell? (ad.add (i * sz + j)) = cs'[j]?) ∧ Rd P w e cs' := by
  obtain ⟨H, enc, sp, held, fuel, x, h⟩ := h
  rcases Go.Deep.open_slice ht h with ⟨rfl, _⟩ | ⟨a, len, cap, m, n, D, Pl, rfl, _, hl, hm, hmm, _, hi⟩
  · exact ⟨none, 0, 0, rfl, Nat.le_refl _, by simp, fun _ => rfl, fun i hi => by omega⟩
  · refine ⟨some a, len, cap, rfl, hl, hm, (fun e => by cases e), fun i hil => ?_⟩
    have him : i < m := by rw [hmm]; split <;> omega
    obtain ⟨cs', hc, ht'⟩ := hi i him
    obtain ⟨_, hcl, hat⟩ := World.cells?_some hc
    refine ⟨a, cs', rfl, by omega, fun j hj => ?_, H, enc, sp, held, n, _, ht'⟩
    rw [← hat j (by omega), Go.Deep.add_add, hs]
theorem Rd.struct {fs : Array Field} {sz : Nat} (ht : P.underlying t = some (.struct fs)) (hs : P.cellsOf t = sz) (h : Rd P w t cs) :
    cs.length = sz ∧ ∀ (i : Nat) (f : Field), fs[i]? = some f → Rd P w f.type (List.take (P.cellsOf f.type) (List.drop f.offset cs)) := by
  obtain ⟨H, enc, sp, held, fuel, x, h⟩ := h
  obtain ⟨xs, n, _, _, hl, hx, hf⟩ := DataW.trod_struct ht h
  refine ⟨by omega, fun i f hi => ?_⟩
  have h1 := hf i f hi
  have hlt : i < xs.length := by
    have := (Array.getElem?_eq_some_iff.1 hi).1
    omega
  rw [List.getElem?_eq_getElem hlt] at h1
  exact ⟨H, enc, sp, held, n, _, h1⟩
end

theorem list2 {α : Type} {l : List α} (h : l.length = 2) : ∃ a b, l = [a, b] := by match l, h with | [a, b], _ => exact ⟨a, b, rfl⟩
theorem list3 {α : Type} {l : List α} (h : l.length = 3) : ∃ a b c, l = [a, b, c] := by match l, h with | [a, b, c], _ => exact ⟨a, b, c, rfl⟩
theorem list4 {α : Type} {l : List α} (h : l.length = 4) : ∃ a b c d, l = [a, b, c, d] := by match l, h with | [a, b, c, d], _ => exact ⟨a, b, c, d, rfl⟩
theorem list5 {α : Type} {l : List α} (h : l.length = 5) : ∃ a b c d e, l = [a, b, c, d, e] := by match l, h with | [a, b, c, d, e], _ => exact ⟨a, b, c, d, e, rfl⟩
theorem list6 {α : Type} {l : List α} (h : l.length = 6) : ∃ a b c d e f, l = [a, b, c, d, e, f] := by match l, h with | [a, b, c, d, e, f], _ => exact ⟨a, b, c, d, e, f, rfl⟩

/-- The cell at the place of a field. -/
theorem add_at (b off k : Nat) : Addr.add ⟨b, off, none⟩ k = ⟨b, off + k, none⟩ := by
  unfold Addr.add
  split
  · subst k; rfl
  · rfl
theorem spot_of {w : World} {ad : Addr} {v : Value} (h : w.cell? (ad.add 0) = some v) : ∃ b off, ad = ⟨b, off, none⟩ := by
  have := cell_spot h
  obtain ⟨b, off, sp⟩ := ad
  simp [Addr.add] at this
  exact ⟨b, off, by rw [this]⟩
end Go.Proofs.YtaeonlafcbgpcaaDoor
/- An argument that is a slice of bytes. -/
namespace Go.Proofs.YtaeonlafcbgpcaaDoor
open Go.RowKit

theorem list_of {α : Type} {p : Nat → α → Prop} : ∀ n : Nat, (∀ i, i < n → ∃ x, p i x) → ∃ l : List α, l.length = n ∧ ∀ i, (h : i < l.length) → p i l[i]
  | 0, _ => ⟨[], rfl, fun i h => by simp at h⟩
  | n + 1, h => by
    obtain ⟨l, hl, hp⟩ := list_of n fun i hi => h i (by omega)
    obtain ⟨x, hx⟩ := h n (by omega)
    refine ⟨l ++ [x], by simp [hl], fun i hi => ?_⟩
    by_cases hc : i < l.length
    · rw [List.getElem_append_left hc]; exact hp i hc
    · have : i = n := by simp at hi; omega
      subst this
      rw [List.getElem_append_right (by omega)]
      simpa [hl] using hx

theorem Rd.bytes {P : Program} {w : World} {t e : TypeId} {v : Value} (ht : P.underlying t = some (.slice e)) (he : P.underlying e = some (.int .u8)) (hs : P.cellsOf e = 1) (h : Rd P w t [v]) :
    ∃ bs, BytesAt (fun b _ => b < w.heap.size) w v bs ∧ bs.length ≤ maxLen := by
  obtain ⟨a, len, cap, hv, hl, hm, hn, hc⟩ := h.slice ht hs
  obtain rfl : v = .slice a len cap := by simpa using hv
  obtain ⟨bs, hbl, hb⟩ := list_of (p := fun i (x : UInt8) => ∃ ad, a = some ad ∧ w.cell? (ad.add i) = some (byteV x)) len fun i hi => by
    obtain ⟨ad, cs', ha, _, hj, hr⟩ := hc i hi
    obtain ⟨n, rfl, hw⟩ := hr.int he
    obtain ⟨h0, h1⟩ := bounds_u8 hw
    refine ⟨UInt8.ofNat n.toNat, ad, ha, ?_⟩
    have e1 := hj 0 (by omega)
    rw [Nat.mul_one, Nat.add_zero] at e1
    rw [e1, byteV, UInt8.toNat_ofNat']
    show some (Value.int .u8 n) = _
    congr 2
    omega
  refine ⟨bs, ⟨a, cap, by rw [hbl], by omega, hn, ?_⟩, by omega⟩
  by_cases h0 : bs = []
  · exact .inl h0
  · have hp : 0 < bs.length := List.length_pos_iff.2 h0
    obtain ⟨ad, ha, e0⟩ := hb 0 hp
    obtain ⟨b, off, rfl⟩ := spot_of e0
    have hlt := cell_lt e0
    have hlt' : b < w.heap.size := by simpa [add_at] using hlt
    refine .inr ⟨b, off, w.heap[b], ha, Array.getElem?_eq_getElem hlt', hlt', fun i hi => ?_⟩
    obtain ⟨ad', ha', e1⟩ := hb i hi
    rw [ha] at ha'
    cases ha'
    rw [add_at] at e1
    exact e1

end Go.Proofs.YtaeonlafcbgpcaaDoor
