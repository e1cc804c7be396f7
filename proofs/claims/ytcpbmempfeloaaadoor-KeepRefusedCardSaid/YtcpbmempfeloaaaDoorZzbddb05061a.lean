/- Texts of the proofs, part 25: what the functions that they reach do, walked; no conditions beyond those that each states. -/
import Derived.Test.YtcpbmempfeloaaaDoorZzbd05101952
set_option linter.unusedVariables false
set_option linter.unusedSimpArgs false
/- Keep: what is kept; a save of a state that may be. -/
namespace Go.Proofs.YtcpbmempfeloaaaDoor
open Go.RowKit
set_option linter.unusedVariables false
set_option linter.unusedSimpArgs false

theorem headB_len (s : Sta) : (headB s).length = 25 := by simp [headB, le_length]
theorem recB_len {r : Nat × En} (h : badE r.2 = false) : (recB r).length ≤ 43 := by
  unfold badE at h
  simp only [Bool.or_eq_false_iff, decide_eq_false_iff_not] at h
  unfold recB byt
  simp only [List.length_append, le_length, List.length_take]
  omega
/-- All of a keeper but which records it has: a state's head is in the slot. -/
structure KB (n q : Nat) (K : Ke) (J : Jn) (D : Dk) (s : Sta) : Prop where
  ji : JI 3 n q J D J.held []
  sl : ∃ m y b, Pl D.sure 1 m y b ∧ m ≤ q ∧ ((m = 0 ∧ headB s = headB zSta) ∨ (0 < m ∧ b = headB s))
  slot : K.slot = headB s
  base : K.base = s.base
  hd : J.held.map (·.2) = K.held.map recB
/-- A state is kept. -/
structure KI (n q : Nat) (K : Ke) (J : Jn) (D : Dk) (s : Sta) : Prop where
  kb : KB n q K J D s
  cl : K.held = recs s.base s.es
  rt : s.right = true
  wf : s.wf
  ln : s.es.length ≤ n
section
variable {n q : Nat} {K : Ke} {J : Jn} {D : Dk} {s s0 : Sta}
theorem KB.lens (h : KB n q K J D s) : J.held.length = K.held.length := by
  have := congrArg List.length h.hd
  simpa using this
theorem trimN_cons (r : Nat × En) (rs : List (Nat × En)) (c : Nat) : trimN (r :: rs) c = if c < r.1 then 0 else trimN rs c + 1 := by
  unfold trimN
  rw [List.findIdx?_cons]
  by_cases h : c < r.1
  · simp [h]
  · simp only [h, decide_false, Bool.false_eq_true, if_false]
    cases List.findIdx? (fun r : Nat × En => decide (c < r.1)) rs <;> simp
theorem trimN_recs (c : Nat) : ∀ (es : List En) (b : Nat), trimN (recs b es) c = min (c - b) es.length
  | [], b => by simp [recs, trimN]
  | x :: xs, b => by
    show trimN ((b + 1, x) :: recs (b + 1) xs) c = _
    rw [trimN_cons, trimN_recs c xs (b + 1), List.length_cons]
    dsimp only
    split <;> omega
theorem trimN_le (held : List (Nat × En)) (c : Nat) : trimN held c ≤ held.length := by
  unfold trimN
  cases h : held.findIdx? fun r => decide (c < r.1) with
  | none => exact Nat.le_refl _
  | some k =>
    obtain ⟨hk, _⟩ := List.findIdx?_eq_some_iff_getElem.1 h
    exact Nat.le_of_lt hk
theorem cutN_spec (s : Sta) : ∀ (rs : List (Nat × En)) (i : Nat), ∃ p, cutN s rs i = i + p ∧ p ≤ rs.length ∧ rs.take p = recs (s.base + i) ((s.es.drop i).take p) ∧ (p = 0 ∨ i + p ≤ s.es.length)
  | [], i => ⟨0, rfl, Nat.le_refl _, by simp [recs], .inl rfl⟩
  | r :: rs, i => by
    unfold cutN
    by_cases h : r.1 = s.base + 1 + i ∧ sameR r s = true
    · rw [if_pos h]
      obtain ⟨h1, h2⟩ := h
      unfold sameR at h2
      simp only [Bool.and_eq_true, decide_eq_true_eq] at h2
      obtain ⟨⟨h3, h4⟩, h5⟩ := h2
      have hi : i < s.es.length := by omega
      rw [show r.1 - s.base - 1 = i from by omega, List.getD_eq_getElem?_getD, List.getElem?_eq_getElem hi] at h5
      obtain ⟨p, e1, e2, e3, e4⟩ := cutN_spec s rs (i + 1)
      refine ⟨p + 1, by rw [e1]; omega, by rw [List.length_cons]; omega, ?_, .inr (by rcases e4 with e4 | e4 <;> omega)⟩
      rw [List.take_succ_cons, e3, List.drop_eq_getElem_cons hi, List.take_succ_cons]
      show r :: _ = (s.base + i + 1, s.es[i]) :: recs (s.base + i + 1) _
      have er : r = (s.base + i + 1, s.es[i]) := Prod.ext (by omega) (by rw [← h5]; rfl)
      rw [er]
      rfl
    · rw [if_neg h]
      exact ⟨0, rfl, Nat.zero_le _, by simp [recs], .inl rfl⟩
theorem KI.mark (h : KI n q K J D s0) (hq : q + 2 < 250) : (markK K D s).1 = 0 ∧ KB n (q + 1) (markK K D s).2.1 J (markK K D s).2.2 s ∧ (markK K D s).2.1.held = K.held := by
  obtain ⟨m, y, b, hp, hm, hb⟩ := h.kb.sl
  unfold markK
  split
  · rename_i e
    refine ⟨rfl, ⟨h.kb.ji.up1, ⟨m, y, b, hp, by omega, ?_⟩, e.symm, rfl, h.kb.hd⟩, rfl⟩
    rw [h.kb.slot] at e
    rw [e]
    exact hb
  · obtain ⟨s1, s2, s3⟩ := h.kb.ji.slot1 (by omega) hp (by omega) (b1 := headB s) (by rw [headB_len]; decide)
    exact ⟨s1, ⟨s2.up1, ⟨m + 1, _, _, s3, by omega, .inr ⟨by omega, rfl⟩⟩, rfl, rfl, h.kb.hd⟩, rfl⟩
theorem KB.up1 (h : KB n q K J D s) : KB n (q + 1) K J D s := by
  obtain ⟨m, y, b, hp, hm, hb⟩ := h.sl
  exact ⟨h.ji.up1, ⟨m, y, b, hp, by omega, hb⟩, h.slot, h.base, h.hd⟩
theorem KB.trim (h : KB n q K J D s) (hq : q + 2 < 250) : (trimK K J D s).1 = 0 ∧ KB n (q + 1) (trimK K J D s).2.1 (trimK K J D s).2.2.1 (trimK K J D s).2.2.2 s ∧ (trimK K J D s).2.1.held = K.held.drop (trimN K.held s.base) := by
  have hle := trimN_le K.held s.base
  have hl := h.lens
  obtain ⟨m, y, b, hp, hm, hb⟩ := h.sl
  unfold trimK
  split
  · rename_i e
    exact ⟨rfl, h.up1, by rw [e]; rfl⟩
  · rcases h.ji.trims (by omega) (trimN K.held s.base : Nat) with ⟨_, _, t1, t2, t3⟩ | ⟨t, _⟩
    · have hp2 := h.ji.pl1_trim (by omega) hp (trimN K.held s.base : Nat)
      rw [Int.toNat_natCast] at t2 t3
      refine ⟨t1, ⟨by rw [t3]; exact t2, ⟨m, y, b, hp2, by omega, hb⟩, h.slot, h.base, ?_⟩, rfl⟩
      rw [t3]
      show (J.held.drop _).map _ = _
      rw [List.map_drop, h.hd, List.map_drop]
    · exact absurd ⟨by omega, by omega⟩ t
theorem KB.cut (h : KB n q K J D s) (hq : q + 2 < 250) : (cutK K J D s).1 = 0 ∧ KB n (q + 1) (cutK K J D s).2.1 (cutK K J D s).2.2.1 (cutK K J D s).2.2.2 s ∧ (cutK K J D s).2.1.held = K.held.take (cutN s K.held 0) := by
  have hl := h.lens
  obtain ⟨p, e1, e2, e3, e4⟩ := cutN_spec s K.held 0
  rw [Nat.zero_add] at e1
  obtain ⟨m, y, b, hp, hm, hb⟩ := h.sl
  unfold cutK
  split
  · rename_i e
    exact ⟨rfl, h.up1, by rw [List.take_of_length_le (by omega)]⟩
  · rcases h.ji.cuts (by omega) (K.held.length - cutN s K.held 0 : Nat) with ⟨_, _, t1, t2, t3⟩ | ⟨t, _⟩
    · have hp2 := h.ji.pl1_cut (by omega) hp (K.held.length - cutN s K.held 0 : Nat)
      rw [Int.toNat_natCast] at t2 t3
      have ec : J.held.length - (K.held.length - cutN s K.held 0) = cutN s K.held 0 := by omega
      rw [ec] at t2
      have et : (J.cut (K.held.length - cutN s K.held 0)).held = J.held.take (cutN s K.held 0) := by show J.held.take _ = _; rw [ec]
      refine ⟨t1, ⟨by rw [t3, et]; exact t2, ⟨m, y, b, hp2, by omega, hb⟩, h.slot, h.base, ?_⟩, rfl⟩
      rw [t3, et, List.map_take, h.hd]
      show _ = (K.held.take _).map recB
      rw [List.map_take]
    · exact absurd ⟨by omega, by omega⟩ t
theorem addL_ok {L : List (Nat × List UInt8)} {m y : Nat} {b0 : List UInt8} (b : Nat) : ∀ (xs : List En) (q : Nat) (K : Ke) (J : Jn) (D : Dk) (bs : List (List UInt8)), JI 3 n q J D L bs → Pl D.sure 1 m y b0 → J.held.map (·.2) = K.held.map recB → K.held.length + xs.length ≤ n → (∀ x ∈ xs, badE x = false) → q + xs.length < 250 →
    ∃ J' D' bs', addL b xs K J D = (0, { K with held := K.held ++ recs (b + K.held.length) xs }, J', D') ∧ JI 3 n (q + xs.length) J' D' L bs' ∧ Pl D'.sure 1 m y b0 ∧ J'.held.map (·.2) = (K.held ++ recs (b + K.held.length) xs).map recB
  | [], q, K, J, D, bs, hj, hp, hd, hl, hx, hq => ⟨J, D, bs, by simp [addL, recs], hj, hp, by simpa [recs] using hd⟩
  | x :: xs, q, K, J, D, bs, hj, hp, hd, hl, hx, hq => by
    rw [List.length_cons] at hl hq
    have hlen : J.held.length = K.held.length := by have := congrArg List.length hd; simpa using this
    have hb := recB_len (r := (b + 1 + K.held.length, x)) (hx x (by simp))
    rcases hj.appends (by omega) (recB (b + 1 + K.held.length, x)) with ⟨a1, a2, a3⟩ | ⟨_, _, a⟩
    · have hp2 := hj.pl1_append (by omega) hp (recB (b + 1 + K.held.length, x))
      obtain ⟨J', D', bs', e1, e2, e3, e4⟩ := addL_ok b xs (q + 1) { K with held := K.held ++ [(b + 1 + K.held.length, x)] } (jappend J D (recB (b + 1 + K.held.length, x))).2.1 (jappend J D (recB (b + 1 + K.held.length, x))).2.2 _ (by rw [a3]; exact a2) hp2
        (by rw [a3]; show (J.held ++ _).map _ = (K.held ++ _).map _; rw [List.map_append, List.map_append, hd]; rfl) (by show (K.held ++ _).length + _ ≤ _; rw [List.length_append, List.length_singleton]; omega) (fun y hy => hx y (by simp [hy])) (by omega)
      have er : K.held ++ [(b + 1 + K.held.length, x)] ++ recs (b + (K.held ++ [(b + 1 + K.held.length, x)]).length) xs = K.held ++ recs (b + K.held.length) (x :: xs) := by
        rw [List.append_assoc]
        show K.held ++ ((b + 1 + K.held.length, x) :: _) = K.held ++ ((b + K.held.length + 1, x) :: recs (b + K.held.length + 1) xs)
        rw [List.length_append, List.length_singleton, show b + 1 + K.held.length = b + K.held.length + 1 from by omega, show b + (K.held.length + 1) = b + K.held.length + 1 from by omega]
        rfl
      dsimp only at e1 e4
      rw [er] at e1 e4
      refine ⟨J', D', bs', ?_, by rw [List.length_cons, show q + (xs.length + 1) = q + 1 + xs.length from by omega]; exact e2, e3, e4⟩
      unfold addL
      rw [if_neg (fun k => k a1)]
      exact e1
    · rcases a with a | a
      · omega
      · omega
theorem KB.add {p : Nat} (h : KB n q K J D s) (hh : K.held = recs s.base (s.es.take p)) (hp : p ≤ s.es.length) (hn : s.es.length ≤ n) (hb : ∀ x ∈ s.es, badE x = false) (hq : q + n + 2 < 250) :
    (addK K J D s).1 = 0 ∧ KB n (q + n) (addK K J D s).2.1 (addK K J D s).2.2.1 (addK K J D s).2.2.2 s ∧ (addK K J D s).2.1.held = recs s.base s.es := by
  obtain ⟨m, y, b, hpl, hm, hsl⟩ := h.sl
  have hkl : K.held.length = p := by rw [hh, recs_len, List.length_take]; omega
  have hup : ∀ {q q' : Nat} {J : Jn} {D : Dk} {L : List (Nat × List UInt8)} {bs : List (List UInt8)}, q ≤ q' → JI 3 n q J D L bs → JI 3 n q' J D L bs := fun {q q' J D L bs} hle hj => by
    obtain ⟨d, rfl⟩ : ∃ d, q' = q + d := ⟨q' - q, by omega⟩
    clear hle
    induction d with
    | zero => exact hj
    | succ d ih => exact ih.up1
  obtain ⟨J', D', bs', e1, e2, e3, e4⟩ := addL_ok s.base (s.es.drop p) q K J D [] h.ji hpl h.hd (by rw [hkl, List.length_drop]; omega) (fun x hx => hb x (List.mem_of_mem_drop hx)) (by rw [List.length_drop]; omega)
  have er : K.held ++ recs (s.base + K.held.length) (s.es.drop p) = recs s.base s.es := by
    rw [hkl]
    conv => rhs; rw [← List.take_append_drop p s.es, recs_append]
    rw [hh, List.length_take, Nat.min_eq_left hp]
  rw [er] at e1 e4
  rw [List.length_drop] at e2
  unfold addK
  rw [hkl, e1]
  dsimp only
  rw [if_neg (fun k => k rfl)]
  by_cases he : s.es.drop p = []
  · rw [if_pos he]
    have hpe : p = s.es.length := by have := congrArg List.length he; rw [List.length_drop] at this; simp at this; omega
    refine ⟨rfl, ⟨hup (by omega) h.ji, ⟨m, y, b, hpl, by omega, hsl⟩, h.slot, h.base, h.hd⟩, ?_⟩
    rw [hh, hpe, List.take_length]
  · rw [if_neg he]
    refine ⟨rfl, ⟨hup (by omega) (e2.syncs (by omega)), ⟨m, y, b, e2.pl1_sync e3, by omega, hsl⟩, h.slot, h.base, e4⟩, rfl⟩
theorem right_es {s : Sta} (h : s.right = true) : ∀ x ∈ s.es, badE x = false := by
  unfold Sta.right at h
  simp only [Bool.and_eq_true, Bool.not_eq_true', List.any_eq_false] at h
  exact fun x hx => by simpa using h.2 x hx
/-- A save. -/
theorem KI.save (h : KI n q K J D s0) (hr : s.right = true) (hw : s.wf) (hb : s0.base ≤ s.base) (hn : s.es.length ≤ n) (hq : q + n + 8 < 250) :
    ∃ K' J' D', saveK n K J D s = (0, K', J', D') ∧ KI n (q + n + 3) K' J' D' s := by
  obtain ⟨m1, m2, m3⟩ := h.mark (s := s) (by omega)
  obtain ⟨t1, t2, t3⟩ := m2.trim (by omega)
  obtain ⟨c1, c2, c3⟩ := t2.cut (by omega)
  obtain ⟨p, e1, e2, e3, e4⟩ := cutN_spec s (trimK (markK K D s).2.1 J (markK K D s).2.2 s).2.1.held 0
  rw [Nat.zero_add] at e1
  rw [e1, e3, Nat.add_zero, List.drop_zero] at c3
  have hp : p ≤ s.es.length := by rcases e4 with e4 | e4 <;> omega
  obtain ⟨a1, a2, a3⟩ := c2.add c3 hp hn (right_es hr) (by omega)
  have es : stepsK K J D s = addK (cutK (trimK (markK K D s).2.1 J (markK K D s).2.2 s).2.1 (trimK (markK K D s).2.1 J (markK K D s).2.2 s).2.2.1 (trimK (markK K D s).2.1 J (markK K D s).2.2 s).2.2.2 s).2.1 (cutK (trimK (markK K D s).2.1 J (markK K D s).2.2 s).2.1 (trimK (markK K D s).2.1 J (markK K D s).2.2 s).2.2.1 (trimK (markK K D s).2.1 J (markK K D s).2.2 s).2.2.2 s).2.2.1 (cutK (trimK (markK K D s).2.1 J (markK K D s).2.2 s).2.1 (trimK (markK K D s).2.1 J (markK K D s).2.2 s).2.2.1 (trimK (markK K D s).2.1 J (markK K D s).2.2 s).2.2.2 s).2.2.2 s := by
    unfold stepsK
    rw [if_neg (fun k => k m1), if_neg (fun k => k t1), if_neg (fun k => k c1)]
  generalize addK (cutK (trimK (markK K D s).2.1 J (markK K D s).2.2 s).2.1 (trimK (markK K D s).2.1 J (markK K D s).2.2 s).2.2.1 (trimK (markK K D s).2.1 J (markK K D s).2.2 s).2.2.2 s).2.1 (cutK (trimK (markK K D s).2.1 J (markK K D s).2.2 s).2.1 (trimK (markK K D s).2.1 J (markK K D s).2.2 s).2.2.1 (trimK (markK K D s).2.1 J (markK K D s).2.2 s).2.2.2 s).2.2.1 (cutK (trimK (markK K D s).2.1 J (markK K D s).2.2 s).2.1 (trimK (markK K D s).2.1 J (markK K D s).2.2 s).2.2.1 (trimK (markK K D s).2.1 J (markK K D s).2.2 s).2.2.2 s).2.2.2 s = X at es a1 a2 a3
  obtain ⟨x1, x2, x3, x4⟩ := X
  dsimp only at a1 a2 a3
  subst a1
  have hd := a2.ji.up.up
  unfold saveK
  rw [if_neg (by rw [hr, h.kb.base]; simp; omega), if_neg (by omega), es]
  dsimp only
  rw [if_neg (fun k => k rfl), hd]
  refine ⟨x2, x3, x4, rfl, ?_⟩
  rw [show q + n + 3 = q + 1 + 1 + 1 + n from by omega]
  exact ⟨a2, a3, hr, hw, hn⟩
end
end Go.Proofs.YtcpbmempfeloaaaDoor
/- Keep: opened again; what is refused; the laws, plainly. -/
namespace Go.Proofs.YtcpbmempfeloaaaDoor
open Go.RowKit
set_option linter.unusedVariables false
set_option linter.unusedSimpArgs false

/-- A head's numbers. -/
def headP (b : List UInt8) : Nat × Nat × Nat × Nat := (ofLE (b.take 8), ofLE ((b.drop 8).take 1), ofLE ((b.drop 9).take 8), ofLE ((b.drop 17).take 8))
theorem cut_at {l r : List UInt8} {k : Nat} (h : l.length = k) : (l ++ r).take k = l ∧ (l ++ r).drop k = r := by subst h; simp
theorem headP_headB {s : Sta} (h : s.wf) (hv : -1 ≤ s.vote ∧ s.vote < 255) : headP (headB s) = (s.term, (s.vote + 1).toNat, s.base, s.bt) := by
  obtain ⟨h1, h2, h3, _⟩ := h
  unfold headP headB
  have a1 := @cut_at (le s.term 8) (le (s.vote + 1).toNat 1 ++ (le s.base 8 ++ le s.bt 8)) 8 (le_length _ _)
  have a2 := @cut_at (le (s.vote + 1).toNat 1) (le s.base 8 ++ le s.bt 8) 1 (le_length _ _)
  have a3 := @cut_at (le s.base 8) (le s.bt 8) 8 (le_length _ _)
  rw [List.append_assoc, List.append_assoc, a1.1, a1.2, a2.1]
  have d9 : (le s.term 8 ++ (le (s.vote + 1).toNat 1 ++ (le s.base 8 ++ le s.bt 8))).drop 9 = le s.base 8 ++ le s.bt 8 := by
    rw [show 9 = 8 + 1 from rfl, ← List.drop_drop, a1.2, a2.2]
  have d17 : (le s.term 8 ++ (le (s.vote + 1).toNat 1 ++ (le s.base 8 ++ le s.bt 8))).drop 17 = le s.bt 8 := by
    rw [show 17 = 9 + 8 from rfl, ← List.drop_drop, d9, a3.2]
  rw [d9, d17, a3.1, List.take_of_length_le (by rw [le_length]; exact Nat.le_refl _), ofLE_le 8 _ (by omega), ofLE_le 8 _ (by omega), ofLE_le 8 _ (by omega), ofLE_le 1 _ (by omega)]
theorem right_vote {s : Sta} (h : s.right = true) : -1 ≤ s.vote ∧ s.vote < 16 ∧ s.term < 1152921504606846976 ∧ s.base < 1152921504606846976 := by
  unfold Sta.right at h
  simp only [Bool.and_eq_true, decide_eq_true_eq] at h
  exact ⟨h.1.1.2, h.1.2, h.1.1.1.1, h.1.1.1.2⟩
theorem zSta_wf : zSta.wf := ⟨by decide, by decide, by decide, fun x hx => by cases hx⟩
theorem headB_zero {s : Sta} (h : s.wf) (hr : s.right = true) (e : headB s = headB zSta) : s.term = 0 ∧ s.vote = -1 ∧ s.base = 0 ∧ s.bt = 0 := by
  obtain ⟨v1, v2, _⟩ := right_vote hr
  have e1 := headP_headB h ⟨v1, by omega⟩
  rw [e, headP_headB zSta_wf ⟨by decide, by decide⟩] at e1
  simp only [zSta, Prod.mk.injEq] at e1
  obtain ⟨a, b, c, d⟩ := e1
  have : ((-1 : Int) + 1).toNat = 0 := by decide
  omega
section
variable {n q : Nat} {K : Ke} {J : Jn} {D : Dk} {s s0 : Sta}
/-- Opened again, behind any crash. -/
theorem KI.opens (h : KI n q K J D s0) (hq : q + 2 < 250) (zs : List Int) :
    ∃ D', jopen (D.crash zs) 3 n = (0, some { J with epoch := J.epoch + 1 }, D') ∧ KI n (q + 1) K { J with epoch := J.epoch + 1 } D' s0 ∧
      ((∃ m, loadM D' 1 = (headB s0, m, 0)) ∨ (loadM D' 1 = ([], 0, 41) ∧ s0.term = 0 ∧ s0.vote = -1 ∧ s0.base = 0 ∧ s0.bt = 0)) := by
  obtain ⟨D', e1, e2⟩ := h.kb.ji.again (by omega) zs
  obtain ⟨m, y, b, hp, hm, hb⟩ := h.kb.sl
  obtain ⟨m3, y3, h3, h30, hm3⟩ := h.kb.ji.pl
  have hpe : D.pend = [] := h.kb.ji.pend
  have hsure : (D.crash zs).seen = D.sure := by
    show layTorn zs D.sure D.pend = D.sure
    rw [hpe]; rfl
  have hp2 := jopen_pl1 (h.kb.ji.up.crash zs) (by rw [hsure]; exact h3) (by omega) (by rw [hsure]; exact hp) e1
  have hkb : KB n (q + 1) K { J with epoch := J.epoch + 1 } D' s0 := ⟨e2, ⟨m, y, b, hp2, by omega, hb⟩, h.kb.slot, h.kb.base, h.kb.hd⟩
  refine ⟨D', e1, ⟨hkb, h.cl, h.rt, h.wf, h.ln⟩, ?_⟩
  have hr : D'.right 1 = true := by unfold Dk.right; rw [e2.up.len]; decide
  have hld := (e2.pl1 hp2).load hr
  rcases hb with ⟨h0, h1⟩ | ⟨h0, h1⟩
  · rw [if_pos h0] at hld
    exact .inr ⟨hld, headB_zero h.wf h.rt h1⟩
  · rw [if_neg (by omega)] at hld
    exact .inl ⟨m, by rw [← h1]; exact hld⟩
/-- What is refused. -/
theorem save_no {n : Nat} {K : Ke} {J : Jn} {D : Dk} {s : Sta} (h : s.right = false ∨ s.base < K.base ∨ n < s.es.length) : saveK n K J D s = (if s.right = false ∨ s.base < K.base then 1 else 42, K, J, D) := by
  unfold saveK
  by_cases h1 : s.right = false ∨ s.base < K.base
  · rw [if_pos h1, if_pos h1]
  · rw [if_neg h1, if_neg h1, if_pos (by rcases h with h | h | h; exact absurd (.inl h) h1; exact absurd (.inr h) h1; exact h)]
theorem KI.save_or (h : KI n q K J D s0) (hw : s.wf) (hq : q + n + 8 < 250) :
    (∃ K' J' D', saveK n K J D s = (0, K', J', D') ∧ KI n (q + n + 3) K' J' D' s) ∨ (saveK n K J D s = (1, K, J, D) ∨ saveK n K J D s = (42, K, J, D) ∧ n < s.es.length) := by
  by_cases h1 : s.right = false ∨ s.base < K.base
  · have := save_no (J := J) (D := D) (n := n) (by rcases h1 with h1 | h1; exact .inl h1; exact .inr (.inl h1) : s.right = false ∨ s.base < K.base ∨ n < s.es.length)
    rw [if_pos h1] at this
    exact .inr (.inl this)
  · by_cases h2 : n < s.es.length
    · have := save_no (K := K) (J := J) (D := D) (.inr (.inr h2) : s.right = false ∨ s.base < K.base ∨ n < s.es.length)
      rw [if_neg h1] at this
      exact .inr (.inr ⟨this, h2⟩)
    · refine .inl (h.save (by cases hh : s.right with | true => rfl | false => exact absurd (.inl hh) h1) hw ?_ (by omega) hq)
      rw [h.kb.base] at h1
      omega
theorem raise_es (s : Sta) : (raise s).es = s.es ∧ (raise s).base = s.base ∧ (raise s).bt = s.bt ∧ (raise s).term = max s.term (lastT s) ∧ (raise s).vote = if s.term < lastT s then -1 else s.vote := by
  unfold raise
  split
  · refine ⟨rfl, rfl, rfl, ?_, rfl⟩
    show lastT s = _
    omega
  · refine ⟨rfl, rfl, rfl, ?_, rfl⟩
    omega
theorem raise_last (s : Sta) : lastT (raise s) = lastT s := by
  unfold lastT
  rw [(raise_es s).1, (raise_es s).2.2.1]
end
/-- The first keeper. -/
theorem first_ki (n : Nat) (h1 : 1 ≤ n) (h2 : n ≤ 15) : ∃ D, jopen (Dk.new 20) 3 n = (0, some ⟨3, n, 1, 1, 0, []⟩, D) ∧ KI n 1 ⟨headB zSta, 0, []⟩ ⟨3, n, 1, 1, 0, []⟩ D zSta ∧ loadM D 1 = ([], 0, 41) := by
  obtain ⟨D, e1, e2⟩ := new_ji 3 n h1 (by omega)
  have hu : Up (Dk.new 20) := ⟨Dk.new_good 20 (by decide) (by decide), rfl, rfl, by show (-1 : Int) < 0; decide⟩
  have e : ∀ q, q < 20 → (Dk.new 20).seen.getD q [] = zero64 := fun q hq => by
    show (List.replicate 20 (List.replicate 64 (0 : UInt8))).getD q [] = _
    rw [List.getD_eq_getElem?_getD, List.getElem?_replicate, if_pos hq]; rfl
  obtain ⟨z1, z2, z3, z4⟩ := zero_nums
  have hpz : ∀ z, z + 1 < 20 → Pl (Dk.new 20).seen z 0 z [] := fun z hz => ⟨.inl rfl, by decide, by rw [e z (by omega)]; exact z4, .inl ⟨rfl, by rw [e z (by omega)]; exact z3⟩, fun _ => ⟨rfl, rfl, by rw [e _ (by omega)]; exact z3, by rw [e _ (by omega)]; exact z4⟩, fun h => by omega⟩
  have hp := jopen_pl1 hu (hpz 3 (by decide)) (by decide) (hpz 1 (by decide)) e1
  have hr : D.right 1 = true := by unfold Dk.right; rw [e2.up.len]; decide
  have hld := (e2.pl1 hp).load hr
  rw [if_pos rfl] at hld
  exact ⟨D, e1, ⟨⟨e2, ⟨0, 1, [], hp, Nat.zero_le _, .inl ⟨rfl, rfl⟩⟩, rfl, rfl, rfl⟩, rfl, by decide, zSta_wf, Nat.zero_le _⟩, hld⟩
end Go.Proofs.YtcpbmempfeloaaaDoor
