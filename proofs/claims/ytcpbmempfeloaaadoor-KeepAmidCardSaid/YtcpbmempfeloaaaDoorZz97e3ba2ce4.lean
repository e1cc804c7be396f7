/- Texts of the proofs, part 25: what the functions that they reach do, walked; no conditions beyond those that each states. -/
import Derived.Test.YtcpbmempfeloaaaDoorZzdfea11c058
set_option linter.unusedVariables false
set_option linter.unusedSimpArgs false
/- Keep: what is kept; a save of a state that may be. -/
namespace Go.Proofs.YtcpbmempfeloaaaDoor
open Go.RowKit
set_option linter.unusedVariables false
set_option linter.unusedSimpArgs false

theorem headB_len (s : Sta) : (headB s).length = 25 := by simp [headB, le_length]
theorem recB_len {r : Nat × En} (h : badE r.2 = false) : (recB r).length ≤ 43 := by
  unfold badE at h
  simp only [Bool.or_eq_false_iff, decide_eq_false_iff_not] at h
  unfold recB byt
  simp only [List.length_append, le_length, List.length_take]
  omega
/-- All of a keeper but which records it has: a state's head is in the slot. -/
structure KB (n q : Nat) (K : Ke) (J : Jn) (D : Dk) (s : Sta) : Prop where
  ji : JI 3 n q J D J.held []
  sl : ∃ m y b, Pl D.sure 1 m y b ∧ m ≤ q ∧ ((m = 0 ∧ headB s = headB zSta) ∨ (0 < m ∧ b = headB s))
  slot : K.slot = headB s
  base : K.base = s.base
  hd : J.held.map (·.2) = K.held.map recB
/-- A state is kept. -/
structure KI (n q : Nat) (K : Ke) (J : Jn) (D : Dk) (s : Sta) : Prop where
  kb : KB n q K J D s
  cl : K.held = recs s.base s.es
  rt : s.right = true
  wf : s.wf
  ln : s.es.length ≤ n
section
variable {n q : Nat} {K : Ke} {J : Jn} {D : Dk} {s s0 : Sta}
theorem KB.lens (h : KB n q K J D s) : J.held.length = K.held.length := by
  have := congrArg List.length h.hd
  simpa using this
theorem trimN_cons (r : Nat × En) (rs : List (Nat × En)) (c : Nat) : trimN (r :: rs) c = if c < r.1 then 0 else trimN rs c + 1 := by
  unfold trimN
  rw [List.findIdx?_cons]
  by_cases h : c < r.1
  · simp [h]
  · simp only [h, decide_false, Bool.false_eq_true, if_false]
    cases List.findIdx? (fun r : Nat × En => decide (c < r.1)) rs <;> simp
theorem trimN_recs (c : Nat) : ∀ (es : List En) (b : Nat), trimN (recs b es) c = min (c - b) es.length
  | [], b => by simp [recs, trimN]
  | x :: xs, b => by
    show trimN ((b + 1, x) :: recs (b + 1) xs) c = _
    rw [trimN_cons, trimN_recs c xs (b + 1), List.length_cons]
    dsimp only
    split <;> omega
theorem trimN_le (held : List (Nat × En)) (c : Nat) : trimN held c ≤ held.length := by
  unfold trimN
  cases h : held.findIdx? fun r => decide (c < r.1) with
  | none => exact Nat.le_refl _
  | some k =>
    obtain ⟨hk, _⟩ := List.findIdx?_eq_some_iff_getElem.1 h
    exact Nat.le_of_lt hk
theorem cutN_spec (s : Sta) : ∀ (rs : List (Nat × En)) (i : Nat), ∃ p, cutN s rs i = i + p ∧ p ≤ rs.length ∧ rs.take p = recs (s.base + i) ((s.es.drop i).take p) ∧ (p = 0 ∨ i + p ≤ s.es.length)
  | [], i => ⟨0, rfl, Nat.le_refl _, by simp [recs], .inl rfl⟩
  | r :: rs, i => by
    unfold cutN
    by_cases h : r.1 = s.base + 1 + i ∧ sameR r s = true
    · rw [if_pos h]
      obtain ⟨h1, h2⟩ := h
      unfold sameR at h2
      simp only [Bool.and_eq_true, decide_eq_true_eq] at h2
      obtain ⟨⟨h3, h4⟩, h5⟩ := h2
      have hi : i < s.es.length := by omega
      rw [show r.1 - s.base - 1 = i from by omega, List.getD_eq_getElem?_getD, List.getElem?_eq_getElem hi] at h5
      obtain ⟨p, e1, e2, e3, e4⟩ := cutN_spec s rs (i + 1)
      refine ⟨p + 1, by rw [e1]; omega, by rw [List.length_cons]; omega, ?_, .inr (by rcases e4 with e4 | e4 <;> omega)⟩
      rw [List.take_succ_cons, e3, List.drop_eq_getElem_cons hi, List.take_succ_cons]
      show r :: _ = (s.base + i + 1, s.es[i]) :: recs (s.base + i + 1) _
      have er : r = (s.base + i + 1, s.es[i]) := Prod.ext (by omega) (by rw [← h5]; rfl)
      rw [er]
      rfl
    · rw [if_neg h]
      exact ⟨0, rfl, Nat.zero_le _, by simp [recs], .inl rfl⟩
theorem KI.mark (h : KI n q K J D s0) (hq : q + 2 < 250) : (markK K D s).1 = 0 ∧ KB n (q + 1) (markK K D s).2.1 J (markK K D s).2.2 s ∧ (markK K D s).2.1.held = K.held := by
  obtain ⟨m, y, b, hp, hm, hb⟩ := h.kb.sl
  unfold markK
  split
  · rename_i e
    refine ⟨rfl, ⟨h.kb.ji.up1, ⟨m, y, b, hp, by omega, ?_⟩, e.symm, rfl, h.kb.hd⟩, rfl⟩
    rw [h.kb.slot] at e
    rw [e]
    exact hb
  · obtain ⟨s1, s2, s3⟩ := h.kb.ji.slot1 (by omega) hp (by omega) (b1 := headB s) (by rw [headB_len]; decide)
    exact ⟨s1, ⟨s2.up1, ⟨m + 1, _, _, s3, by omega, .inr ⟨by omega, rfl⟩⟩, rfl, rfl, h.kb.hd⟩, rfl⟩
theorem KB.up1 (h : KB n q K J D s) : KB n (q + 1) K J D s := by
  obtain ⟨m, y, b, hp, hm, hb⟩ := h.sl
  exact ⟨h.ji.up1, ⟨m, y, b, hp, by omega, hb⟩, h.slot, h.base, h.hd⟩
theorem KB.trim (h : KB n q K J D s) (hq : q + 2 < 250) : (trimK K J D s).1 = 0 ∧ KB n (q + 1) (trimK K J D s).2.1 (trimK K J D s).2.2.1 (trimK K J D s).2.2.2 s ∧ (trimK K J D s).2.1.held = K.held.drop (trimN K.held s.base) := by
  have hle := trimN_le K.held s.base
  have hl := h.lens
  obtain ⟨m, y, b, hp, hm, hb⟩ := h.sl
  unfold trimK
  split
  · rename_i e
    exact ⟨rfl, h.up1, by rw [e]; rfl⟩
  · rcases h.ji.trims (by omega) (trimN K.held s.base : Nat) with ⟨_, _, t1, t2, t3⟩ | ⟨t, _⟩
    · have hp2 := h.ji.pl1_trim (by omega) hp (trimN K.held s.base : Nat)
      rw [Int.toNat_natCast] at t2 t3
      refine ⟨t1, ⟨by rw [t3]; exact t2, ⟨m, y, b, hp2, by omega, hb⟩, h.slot, h.base, ?_⟩, rfl⟩
      rw [t3]
      show (J.held.drop _).map _ = _
      rw [List.map_drop, h.hd, List.map_drop]
    · exact absurd ⟨by omega, by omega⟩ t
theorem KB.cut (h : KB n q K J D s) (hq : q + 2 < 250) : (cutK K J D s).1 = 0 ∧ KB n (q + 1) (cutK K J D s).2.1 (cutK K J D s).2.2.1 (cutK K J D s).2.2.2 s ∧ (cutK K J D s).2.1.held = K.held.take (cutN s K.held 0) := by
  have hl := h.lens
  obtain ⟨p, e1, e2, e3, e4⟩ := cutN_spec s K.held 0
  rw [Nat.zero_add] at e1
  obtain ⟨m, y, b, hp, hm, hb⟩ := h.sl
  unfold cutK
  split
  · rename_i e
    exact ⟨rfl, h.up1, by rw [List.take_of_length_le (by omega)]⟩
  · rcases h.ji.cuts (by omega) (K.held.length - cutN s K.held 0 : Nat) with ⟨_, _, t1, t2, t3⟩ | ⟨t, _⟩
    · have hp2 := h.ji.pl1_cut (by omega) hp (K.held.length - cutN s K.held 0 : Nat)
      rw [Int.toNat_natCast] at t2 t3
      have ec : J.held.length - (K.held.length - cutN s K.held 0) = cutN s K.held 0 := by omega
      rw [ec] at t2
      have et : (J.cut (K.held.length - cutN s K.held 0)).held = J.held.take (cutN s K.held 0) := by show J.held.take _ = _; rw [ec]
      refine ⟨t1, ⟨by rw [t3, et]; exact t2, ⟨m, y, b, hp2, by omega, hb⟩, h.slot, h.base, ?_⟩, rfl⟩
      rw [t3, et, List.map_take, h.hd]
      show _ = (K.held.take _).map recB
      rw [List.map_take]
    · exact absurd ⟨by omega, by omega⟩ t
theorem addL_ok {L : List (Nat × List UInt8)} {m y : Nat} {b0 : List UInt8} (b : Nat) : ∀ (xs : List En) (q : Nat) (K : Ke) (J : Jn) (D : Dk) (bs : List (List UInt8)), JI 3 n q J D L bs → Pl D.sure 1 m y b0 → J.held.map (·.2) = K.held.map recB → K.held.length + xs.length ≤ n → (∀ x ∈ xs, badE x = false) → q + xs.length < 250 →
    ∃ J' D' bs', addL b xs K J D = (0, { K with held := K.held ++ recs (b + K.held.length) xs }, J', D') ∧ JI 3 n (q + xs.length) J' D' L bs' ∧ Pl D'.sure 1 m y b0 ∧ J'.held.map (·.2) = (K.held ++ recs (b + K.held.length) xs).map recB
  | [], q, K, J, D, bs, hj, hp, hd, hl, hx, hq => ⟨J, D, bs, by simp [addL, recs], hj, hp, by simpa [recs] using hd⟩
  | x :: xs, q, K, J, D, bs, hj, hp, hd, hl, hx, hq => by
    rw [List.length_cons] at hl hq
    have hlen : J.held.length = K.held.length := by have := congrArg List.length hd; simpa using this
    have hb := recB_len (r := (b + 1 + K.held.length, x)) (hx x (by simp))
    rcases hj.appends (by omega) (recB (b + 1 + K.held.length, x)) with ⟨a1, a2, a3⟩ | ⟨_, _, a⟩
    · have hp2 := hj.pl1_append (by omega) hp (recB (b + 1 + K.held.length, x))
      obtain ⟨J', D', bs', e1, e2, e3, e4⟩ := addL_ok b xs (q + 1) { K with held := K.held ++ [(b + 1 + K.held.length, x)] } (jappend J D (recB (b + 1 + K.held.length, x))).2.1 (jappend J D (recB (b + 1 + K.held.length, x))).2.2 _ (by rw [a3]; exact a2) hp2
        (by rw [a3]; show (J.held ++ _).map _ = (K.held ++ _).map _; rw [List.map_append, List.map_append, hd]; rfl) (by show (K.held ++ _).length + _ ≤ _; rw [List.length_append, List.length_singleton]; omega) (fun y hy => hx y (by simp [hy])) (by omega)
      have er : K.held ++ [(b + 1 + K.held.length, x)] ++ recs (b + (K.held ++ [(b + 1 + K.held.length, x)]).length) xs = K.held ++ recs (b + K.held.length) (x :: xs) := by
        rw [List.append_assoc]
        show K.held ++ ((b + 1 + K.held.length, x) :: _) = K.held ++ ((b + K.held.length + 1, x) :: recs (b + K.held.length + 1) xs)
        rw [List.length_append, List.length_singleton, show b + 1 + K.held.length = b + K.held.length + 1 from by omega, show b + (K.held.length + 1) = b + K.held.length + 1 from by omega]
        rfl
      dsimp only at e1 e4
      rw [er] at e1 e4
      refine ⟨J', D', bs', ?_, by rw [List.length_cons, show q + (xs.length + 1) = q + 1 + xs.length from by omega]; exact e2, e3, e4⟩
      unfold addL
      rw [if_neg (fun k => k a1)]
      exact e1
    · rcases a with a | a
      · omega
      · omega
theorem KB.add {p : Nat} (h : KB n q K J D s) (hh : K.held = recs s.base (s.es.take p)) (hp : p ≤ s.es.length) (hn : s.es.length ≤ n) (hb : ∀ x ∈ s.es, badE x = false) (hq : q + n + 2 < 250) :
    (addK K J D s).1 = 0 ∧ KB n (q + n) (addK K J D s).2.1 (addK K J D s).2.2.1 (addK K J D s).2.2.2 s ∧ (addK K J D s).2.1.held = recs s.base s.es := by
  obtain ⟨m, y, b, hpl, hm, hsl⟩ := h.sl
  have hkl : K.held.length = p := by rw [hh, recs_len, List.length_take]; omega
  have hup : ∀ {q q' : Nat} {J : Jn} {D : Dk} {L : List (Nat × List UInt8)} {bs : List (List UInt8)}, q ≤ q' → JI 3 n q J D L bs → JI 3 n q' J D L bs := fun {q q' J D L bs} hle hj => by
    obtain ⟨d, rfl⟩ : ∃ d, q' = q + d := ⟨q' - q, by omega⟩
    clear hle
    induction d with
    | zero => exact hj
    | succ d ih => exact ih.up1
  obtain ⟨J', D', bs', e1, e2, e3, e4⟩ := addL_ok s.base (s.es.drop p) q K J D [] h.ji hpl h.hd (by rw [hkl, List.length_drop]; omega) (fun x hx => hb x (List.mem_of_mem_drop hx)) (by rw [List.length_drop]; omega)
  have er : K.held ++ recs (s.base + K.held.length) (s.es.drop p) = recs s.base s.es := by
    rw [hkl]
    conv => rhs; rw [← List.take_append_drop p s.es, recs_append]
    rw [hh, List.length_take, Nat.min_eq_left hp]
  rw [er] at e1 e4
  rw [List.length_drop] at e2
  unfold addK
  rw [hkl, e1]
  dsimp only
  rw [if_neg (fun k => k rfl)]
  by_cases he : s.es.drop p = []
  · rw [if_pos he]
    have hpe : p = s.es.length := by have := congrArg List.length he; rw [List.length_drop] at this; simp at this; omega
    refine ⟨rfl, ⟨hup (by omega) h.ji, ⟨m, y, b, hpl, by omega, hsl⟩, h.slot, h.base, h.hd⟩, ?_⟩
    rw [hh, hpe, List.take_length]
  · rw [if_neg he]
    refine ⟨rfl, ⟨hup (by omega) (e2.syncs (by omega)), ⟨m, y, b, e2.pl1_sync e3, by omega, hsl⟩, h.slot, h.base, e4⟩, rfl⟩
theorem right_es {s : Sta} (h : s.right = true) : ∀ x ∈ s.es, badE x = false := by
  unfold Sta.right at h
  simp only [Bool.and_eq_true, Bool.not_eq_true', List.any_eq_false] at h
  exact fun x hx => by simpa using h.2 x hx
/-- A save. -/
theorem KI.save (h : KI n q K J D s0) (hr : s.right = true) (hw : s.wf) (hb : s0.base ≤ s.base) (hn : s.es.length ≤ n) (hq : q + n + 8 < 250) :
    ∃ K' J' D', saveK n K J D s = (0, K', J', D') ∧ KI n (q + n + 3) K' J' D' s := by
  obtain ⟨m1, m2, m3⟩ := h.mark (s := s) (by omega)
  obtain ⟨t1, t2, t3⟩ := m2.trim (by omega)
  obtain ⟨c1, c2, c3⟩ := t2.cut (by omega)
  obtain ⟨p, e1, e2, e3, e4⟩ := cutN_spec s (trimK (markK K D s).2.1 J (markK K D s).2.2 s).2.1.held 0
  rw [Nat.zero_add] at e1
  rw [e1, e3, Nat.add_zero, List.drop_zero] at c3
  have hp : p ≤ s.es.length := by rcases e4 with e4 | e4 <;> omega
  obtain ⟨a1, a2, a3⟩ := c2.add c3 hp hn (right_es hr) (by omega)
  have es : stepsK K J D s = addK (cutK (trimK (markK K D s).2.1 J (markK K D s).2.2 s).2.1 (trimK (markK K D s).2.1 J (markK K D s).2.2 s).2.2.1 (trimK (markK K D s).2.1 J (markK K D s).2.2 s).2.2.2 s).2.1 (cutK (trimK (markK K D s).2.1 J (markK K D s).2.2 s).2.1 (trimK (markK K D s).2.1 J (markK K D s).2.2 s).2.2.1 (trimK (markK K D s).2.1 J (markK K D s).2.2 s).2.2.2 s).2.2.1 (cutK (trimK (markK K D s).2.1 J (markK K D s).2.2 s).2.1 (trimK (markK K D s).2.1 J (markK K D s).2.2 s).2.2.1 (trimK (markK K D s).2.1 J (markK K D s).2.2 s).2.2.2 s).2.2.2 s := by
    unfold stepsK
    rw [if_neg (fun k => k m1), if_neg (fun k => k t1), if_neg (fun k => k c1)]
  generalize addK (cutK (trimK (markK K D s).2.1 J (markK K D s).2.2 s).2.1 (trimK (markK K D s).2.1 J (markK K D s).2.2 s).2.2.1 (trimK (markK K D s).2.1 J (markK K D s).2.2 s).2.2.2 s).2.1 (cutK (trimK (markK K D s).2.1 J (markK K D s).2.2 s).2.1 (trimK (markK K D s).2.1 J (markK K D s).2.2 s).2.2.1 (trimK (markK K D s).2.1 J (markK K D s).2.2 s).2.2.2 s).2.2.1 (cutK (trimK (markK K D s).2.1 J (markK K D s).2.2 s).2.1 (trimK (markK K D s).2.1 J (markK K D s).2.2 s).2.2.1 (trimK (markK K D s).2.1 J (markK K D s).2.2 s).2.2.2 s).2.2.2 s = X at es a1 a2 a3
  obtain ⟨x1, x2, x3, x4⟩ := X
  dsimp only at a1 a2 a3
  subst a1
  have hd := a2.ji.up.up
  unfold saveK
  rw [if_neg (by rw [hr, h.kb.base]; simp; omega), if_neg (by omega), es]
  dsimp only
  rw [if_neg (fun k => k rfl), hd]
  refine ⟨x2, x3, x4, rfl, ?_⟩
  rw [show q + n + 3 = q + 1 + 1 + 1 + n from by omega]
  exact ⟨a2, a3, hr, hw, hn⟩
end
end Go.Proofs.YtcpbmempfeloaaaDoor
/- Keep: opened again; what is refused; the laws, plainly. -/
namespace Go.Proofs.YtcpbmempfeloaaaDoor
open Go.RowKit
set_option linter.unusedVariables false
set_option linter.unusedSimpArgs false

/-- A head's numbers. -/
def headP (b : List UInt8) : Nat × Nat × Nat × Nat := (ofLE (b.take 8), ofLE ((b.drop 8).take 1), ofLE ((b.drop 9).take 8), ofLE ((b.drop 17).take 8))
theorem cut_at {l r : List UInt8} {k : Nat} (h : l.length = k) : (l ++ r).take k = l ∧ (l ++ r).drop k = r := by subst h; simp
theorem headP_headB {s : Sta} (h : s.wf) (hv : -1 ≤ s.vote ∧ s.vote < 255) : headP (headB s) = (s.term, (s.vote + 1).toNat, s.base, s.bt) := by
  obtain ⟨h1, h2, h3, _⟩ := h
  unfold headP headB
  have a1 := @cut_at (le s.term 8) (le (s.vote + 1).toNat 1 ++ (le s.base 8 ++ le s.bt 8)) 8 (le_length _ _)
  have a2 := @cut_at (le (s.vote + 1).toNat 1) (le s.base 8 ++ le s.bt 8) 1 (le_length _ _)
  have a3 := @cut_at (le s.base 8) (le s.bt 8) 8 (le_length _ _)
  rw [List.append_assoc, List.append_assoc, a1.1, a1.2, a2.1]
  have d9 : (le s.term 8 ++ (le (s.vote + 1).toNat 1 ++ (le s.base 8 ++ le s.bt 8))).drop 9 = le s.base 8 ++ le s.bt 8 := by
    rw [show 9 = 8 + 1 from rfl, ← List.drop_drop, a1.2, a2.2]
  have d17 : (le s.term 8 ++ (le (s.vote + 1).toNat 1 ++ (le s.base 8 ++ le s.bt 8))).drop 17 = le s.bt 8 := by
    rw [show 17 = 9 + 8 from rfl, ← List.drop_drop, d9, a3.2]
  rw [d9, d17, a3.1, List.take_of_length_le (by rw [le_length]; exact Nat.le_refl _), ofLE_le 8 _ (by omega), ofLE_le 8 _ (by omega), ofLE_le 8 _ (by omega), ofLE_le 1 _ (by omega)]
theorem right_vote {s : Sta} (h : s.right = true) : -1 ≤ s.vote ∧ s.vote < 16 ∧ s.term < 1152921504606846976 ∧ s.base < 1152921504606846976 := by
  unfold Sta.right at h
  simp only [Bool.and_eq_true, decide_eq_true_eq] at h
  exact ⟨h.1.1.2, h.1.2, h.1.1.1.1, h.1.1.1.2⟩
theorem zSta_wf : zSta.wf := ⟨by decide, by decide, by decide, fun x hx => by cases hx⟩
theorem headB_zero {s : Sta} (h : s.wf) (hr : s.right = true) (e : headB s = headB zSta) : s.term = 0 ∧ s.vote = -1 ∧ s.base = 0 ∧ s.bt = 0 := by
  obtain ⟨v1, v2, _⟩ := right_vote hr
  have e1 := headP_headB h ⟨v1, by omega⟩
  rw [e, headP_headB zSta_wf ⟨by decide, by decide⟩] at e1
  simp only [zSta, Prod.mk.injEq] at e1
  obtain ⟨a, b, c, d⟩ := e1
  have : ((-1 : Int) + 1).toNat = 0 := by decide
  omega
section
variable {n q : Nat} {K : Ke} {J : Jn} {D : Dk} {s s0 : Sta}
/-- Opened again, behind any crash. -/
theorem KI.opens (h : KI n q K J D s0) (hq : q + 2 < 250) (zs : List Int) :
    ∃ D', jopen (D.crash zs) 3 n = (0, some { J with epoch := J.epoch + 1 }, D') ∧ KI n (q + 1) K { J with epoch := J.epoch + 1 } D' s0 ∧
      ((∃ m, loadM D' 1 = (headB s0, m, 0)) ∨ (loadM D' 1 = ([], 0, 41) ∧ s0.term = 0 ∧ s0.vote = -1 ∧ s0.base = 0 ∧ s0.bt = 0)) := by
  obtain ⟨D', e1, e2⟩ := h.kb.ji.again (by omega) zs
  obtain ⟨m, y, b, hp, hm, hb⟩ := h.kb.sl
  obtain ⟨m3, y3, h3, h30, hm3⟩ := h.kb.ji.pl
  have hpe : D.pend = [] := h.kb.ji.pend
  have hsure : (D.crash zs).seen = D.sure := by
    show layTorn zs D.sure D.pend = D.sure
    rw [hpe]; rfl
  have hp2 := jopen_pl1 (h.kb.ji.up.crash zs) (by rw [hsure]; exact h3) (by omega) (by rw [hsure]; exact hp) e1
  have hkb : KB n (q + 1) K { J with epoch := J.epoch + 1 } D' s0 := ⟨e2, ⟨m, y, b, hp2, by omega, hb⟩, h.kb.slot, h.kb.base, h.kb.hd⟩
  refine ⟨D', e1, ⟨hkb, h.cl, h.rt, h.wf, h.ln⟩, ?_⟩
  have hr : D'.right 1 = true := by unfold Dk.right; rw [e2.up.len]; decide
  have hld := (e2.pl1 hp2).load hr
  rcases hb with ⟨h0, h1⟩ | ⟨h0, h1⟩
  · rw [if_pos h0] at hld
    exact .inr ⟨hld, headB_zero h.wf h.rt h1⟩
  · rw [if_neg (by omega)] at hld
    exact .inl ⟨m, by rw [← h1]; exact hld⟩
/-- What is refused. -/
theorem save_no {n : Nat} {K : Ke} {J : Jn} {D : Dk} {s : Sta} (h : s.right = false ∨ s.base < K.base ∨ n < s.es.length) : saveK n K J D s = (if s.right = false ∨ s.base < K.base then 1 else 42, K, J, D) := by
  unfold saveK
  by_cases h1 : s.right = false ∨ s.base < K.base
  · rw [if_pos h1, if_pos h1]
  · rw [if_neg h1, if_neg h1, if_pos (by rcases h with h | h | h; exact absurd (.inl h) h1; exact absurd (.inr h) h1; exact h)]
theorem KI.save_or (h : KI n q K J D s0) (hw : s.wf) (hq : q + n + 8 < 250) :
    (∃ K' J' D', saveK n K J D s = (0, K', J', D') ∧ KI n (q + n + 3) K' J' D' s) ∨ (saveK n K J D s = (1, K, J, D) ∨ saveK n K J D s = (42, K, J, D) ∧ n < s.es.length) := by
  by_cases h1 : s.right = false ∨ s.base < K.base
  · have := save_no (J := J) (D := D) (n := n) (by rcases h1 with h1 | h1; exact .inl h1; exact .inr (.inl h1) : s.right = false ∨ s.base < K.base ∨ n < s.es.length)
    rw [if_pos h1] at this
    exact .inr (.inl this)
  · by_cases h2 : n < s.es.length
    · have := save_no (K := K) (J := J) (D := D) (.inr (.inr h2) : s.right = false ∨ s.base < K.base ∨ n < s.es.length)
      rw [if_neg h1] at this
      exact .inr (.inr ⟨this, h2⟩)
    · refine .inl (h.save (by cases hh : s.right with | true => rfl | false => exact absurd (.inl hh) h1) hw ?_ (by omega) hq)
      rw [h.kb.base] at h1
      omega
theorem raise_es (s : Sta) : (raise s).es = s.es ∧ (raise s).base = s.base ∧ (raise s).bt = s.bt ∧ (raise s).term = max s.term (lastT s) ∧ (raise s).vote = if s.term < lastT s then -1 else s.vote := by
  unfold raise
  split
  · refine ⟨rfl, rfl, rfl, ?_, rfl⟩
    show lastT s = _
    omega
  · refine ⟨rfl, rfl, rfl, ?_, rfl⟩
    omega
theorem raise_last (s : Sta) : lastT (raise s) = lastT s := by
  unfold lastT
  rw [(raise_es s).1, (raise_es s).2.2.1]
end
/-- The first keeper. -/
theorem first_ki (n : Nat) (h1 : 1 ≤ n) (h2 : n ≤ 15) : ∃ D, jopen (Dk.new 20) 3 n = (0, some ⟨3, n, 1, 1, 0, []⟩, D) ∧ KI n 1 ⟨headB zSta, 0, []⟩ ⟨3, n, 1, 1, 0, []⟩ D zSta ∧ loadM D 1 = ([], 0, 41) := by
  obtain ⟨D, e1, e2⟩ := new_ji 3 n h1 (by omega)
  have hu : Up (Dk.new 20) := ⟨Dk.new_good 20 (by decide) (by decide), rfl, rfl, by show (-1 : Int) < 0; decide⟩
  have e : ∀ q, q < 20 → (Dk.new 20).seen.getD q [] = zero64 := fun q hq => by
    show (List.replicate 20 (List.replicate 64 (0 : UInt8))).getD q [] = _
    rw [List.getD_eq_getElem?_getD, List.getElem?_replicate, if_pos hq]; rfl
  obtain ⟨z1, z2, z3, z4⟩ := zero_nums
  have hpz : ∀ z, z + 1 < 20 → Pl (Dk.new 20).seen z 0 z [] := fun z hz => ⟨.inl rfl, by decide, by rw [e z (by omega)]; exact z4, .inl ⟨rfl, by rw [e z (by omega)]; exact z3⟩, fun _ => ⟨rfl, rfl, by rw [e _ (by omega)]; exact z3, by rw [e _ (by omega)]; exact z4⟩, fun h => by omega⟩
  have hp := jopen_pl1 hu (hpz 3 (by decide)) (by decide) (hpz 1 (by decide)) e1
  have hr : D.right 1 = true := by unfold Dk.right; rw [e2.up.len]; decide
  have hld := (e2.pl1 hp).load hr
  rw [if_pos rfl] at hld
  exact ⟨D, e1, ⟨⟨e2, ⟨0, 1, [], hp, Nat.zero_le _, .inl ⟨rfl, rfl⟩⟩, rfl, rfl, rfl⟩, rfl, by decide, zSta_wf, Nat.zero_le _⟩, hld⟩
end Go.Proofs.YtcpbmempfeloaaaDoor
/- Law 6: a crash amid one call, plainly. -/
namespace Go.Proofs.YtcpbmempfeloaaaDoor
open Go.RowKit
set_option linter.unusedVariables false
set_option linter.unusedSimpArgs false

theorem crash_sp {D E : Dk} (h1 : D.sure = E.sure) (h2 : D.pend = E.pend) (zs : List Int) : D.crash zs = E.crash zs := by unfold Dk.crash; rw [h1, h2]
/-- What is opened, of a disk whose slot is so. -/
theorem open_any {z n m y f low E : Nat} {D : Dk} (hu : Up D) (hp : Pl D.seen z m y (metaB f E low)) (h0 : 0 < m) (hm : m < 250) (hz : z + 2 + n ≤ 20) (h1 : 1 ≤ n) (hf0 : 0 < f) (hf : f < 4294967296) (hle : low ≤ E) (hE : E < 4294967295) :
    ∃ D', jopen D z n = (0, some ⟨z, n, f, E + 1, low, jheld D z n f E low⟩, D') := by
  have hld : loadM D z = (metaB f E low, m, 0) := by
    have := hp.load (D := D) (k := z) (by unfold Dk.right; rw [hu.len]; simp; omega)
    rw [if_neg (by omega)] at this
    exact this
  have hsl : jslot D z = (f, E, low, true) := by
    unfold jslot
    rw [hld, if_pos rfl, meta_metaB f E low (by omega) (by omega) (by omega), decide_eq_true (by omega), decide_eq_true hle]
    rfl
  have hb : (metaB f (E + 1) low).length ≤ 43 := by rw [metaB_length]; decide
  obtain ⟨s1, _⟩ := hu.save (by omega) hp (by omega) hb
  refine ⟨(saveM D z (metaB f (E + 1) low)).2, ?_⟩
  unfold jopen
  rw [if_neg (by omega), if_neg (by rw [hu.len]; omega), Int.toNat_natCast, Int.toNat_natCast]
  unfold jopenIn
  rw [hsl]
  simp only
  rw [if_neg (by decide), if_neg (by omega)]
  exact if_pos s1
theorem jheld_rg {z n f low E : Nat} {D : Dk} {H : List (Nat × List UInt8)} (hr : Rg D.seen (z + 2) n f low E H) : jheld D z n f E low = H := hr.scan

section
variable {z n q : Nat} {J : Jn} {D : Dk} {L : List (Nat × List UInt8)}
/-- A journal that is synced. -/
theorem JI.synced (h : JI z n q J D L []) : D.pend = [] ∧ D.seen = D.sure ∧ L = J.held := by
  have h1 : D.pend = [] := by rw [h.pend]; rfl
  refine ⟨h1, ?_, ?_⟩
  · rw [h.up.good.seen, h1]; rfl
  · rw [h.held]; simp [recE]
/-- Append, the disk going down ahead of it or not. -/
theorem amid_append (h : JI z n q J D L []) (hq : q + 3 < 250) (fu : Int) (b : List UInt8) (zs : List Int) :
    ∃ c J1 D1 J2 D2, jappend J { D with fuse := fu } b = (c, J1, D1) ∧ jopen (D1.crash zs) z n = (0, some J2, D2) ∧ (((c = 0 ∨ c = 43) ∧ (J2.all = J.all ∨ J2.all = J.all ++ [b])) ∨ (c ≠ 0 ∧ c ≠ 43 ∧ J2.all = J.all)) ∧ D1.pend.length ≤ 100 := by
  obtain ⟨hpe, _, _⟩ := h.synced
  have SAME : ∀ D1 : Dk, D1.sure = D.sure → D1.pend = D.pend → ∃ J2 D2, jopen (D1.crash zs) z n = (0, some J2, D2) ∧ J2.all = J.all := fun D1 e1 e2 => by
    obtain ⟨D', e, _⟩ := h.again (by omega) zs
    exact ⟨{ J with epoch := J.epoch + 1 }, D', by rw [crash_sp e1 e2]; exact e, rfl⟩
  have hap := h.appends (by omega) b
  unfold jappend at hap ⊢
  by_cases h1 : 43 < b.length
  · rw [if_pos h1]
    obtain ⟨J2, D2, e, g⟩ := SAME { D with fuse := fu } rfl rfl
    exact ⟨2, J, _, J2, D2, rfl, e, .inr ⟨by decide, by decide, g⟩, by show D.pend.length ≤ 100; rw [hpe]; decide⟩
  · rw [if_neg h1] at hap ⊢
    by_cases h2 : J.held.length = J.n ∨ 4294967295 < J.next
    · rw [if_pos h2]
      obtain ⟨J2, D2, e, g⟩ := SAME { D with fuse := fu } rfl rfl
      exact ⟨42, J, _, J2, D2, rfl, e, .inr ⟨by decide, by decide, g⟩, by show D.pend.length ≤ 100; rw [hpe]; decide⟩
    · rw [if_neg h2] at hap ⊢
      rcases hap with ⟨c1, c2, _⟩ | ⟨c1, c2, c3⟩
      · have hsl := stampB_length J.next J.epoch b (by omega)
        have hpos : (0 : Int) ≤ (J.sec J.next : Nat) ∧ ((J.sec J.next : Nat) : Int) < D.sure.length := by
          have c1' : (D.write (J.sec J.next : Nat) (stampB J.next J.epoch b)).1 = 0 := c1
          unfold Dk.write at c1'
          by_cases hh : ¬ (0 ≤ ((J.sec J.next : Nat) : Int) ∧ ((J.sec J.next : Nat) : Int) < D.sure.length)
          · rw [if_pos hh] at c1'; cases c1'
          · exact Classical.not_not.1 hh
        have hw : Dk.write { D with fuse := fu } (J.sec J.next : Nat) (stampB J.next J.epoch b) = if ({ D with fuse := fu } : Dk).burn.down then (43, ({ D with fuse := fu } : Dk).burn) else (0, ({ D with fuse := fu } : Dk).put (J.sec J.next) (stampB J.next J.epoch b)) := by
          unfold Dk.write
          rw [if_neg (fun hh => hh hpos), if_neg (by omega), jpad hsl, Int.toNat_natCast]
        rw [hw]
        by_cases hdn : ({ D with fuse := fu } : Dk).burn.down = true
        · rw [if_pos hdn]
          obtain ⟨J2, D2, e, g⟩ := SAME ({ D with fuse := fu } : Dk).burn rfl rfl
          exact ⟨43, _, _, J2, D2, rfl, e, .inl ⟨.inr rfl, .inl g⟩, by show D.pend.length ≤ 100; rw [hpe]; decide⟩
        · rw [if_neg hdn]
          have hwu := jwrite_id h.up.up h.up.fz (y := J.sec J.next) (x := stampB J.next J.epoch b) (by omega) (by omega)
          rw [jpad hsl] at hwu
          obtain ⟨j, D2, hj, e, i2⟩ := c2.crash (by omega) zs
          have es : (({ D with fuse := fu } : Dk).put (J.sec J.next) (stampB J.next J.epoch b)).crash zs = ((D.write (J.sec J.next : Nat) (stampB J.next J.epoch b)).2).crash zs := by
            rw [hwu]; exact crash_sp rfl rfl zs
          refine ⟨0, _, _, _, D2, rfl, by rw [es]; exact e, .inl ⟨.inl rfl, ?_⟩, ?_⟩
          · have hL := h.synced.2.2
            rcases j with _ | j
            · left; rw [hL]; simp [Jn.all, recE]
            · right
              obtain rfl : j = 0 := by simp at hj; omega
              rw [hL]
              simp [Jn.all, recE]
          · show (D.pend ++ [_]).length ≤ 100
            rw [hpe]; simp
      · have hw := jwrite_id h.up.up h.up.fz (y := J.sec J.next) (x := stampB J.next J.epoch b) (by
          have hn1 := h.ring.n1
          have hmod := Nat.mod_lt J.next hn1
          have := h.n17
          unfold Jn.sec
          rw [h.loc, h.jn, h.up.len]
          omega) (by rw [stampB_length _ _ _ (by omega)]; omega)
        exact absurd (show (D.write (J.sec J.next : Nat) (stampB J.next J.epoch b)).1 = 0 by rw [hw]) c1
end
theorem burn_sp (D : Dk) : D.burn.sure = D.sure ∧ D.burn.pend = D.pend ∧ D.burn.seen = D.seen := ⟨rfl, rfl, rfl⟩
theorem burn_down {D : Dk} (h : D.down = true) : D.burn.down = true := by show (D.down || _) = true; rw [h]; rfl
/-- A sync: of a disk that is down nothing. -/
theorem sync_sp (D : Dk) : (D.sync.down = true ∧ D.sync.sure = D.sure ∧ D.sync.pend = D.pend ∧ D.sync.seen = D.seen) ∨ (D.down = false ∧ D.sync.down = false ∧ D.sync.sure = laySure D.sure D.pend ∧ D.sync.pend = [] ∧ D.sync.seen = D.seen) := by
  unfold Dk.sync
  cases h : D.burn.down with
  | true => rw [if_pos rfl]; exact .inl ⟨h, rfl, rfl, rfl⟩
  | false =>
    rw [if_neg (by decide)]
    refine .inr ⟨?_, h, rfl, rfl, rfl⟩
    cases hd : D.down with
    | true => rw [burn_down hd] at h; cases h
    | false => rfl
theorem write_sp (D : Dk) (y : Nat) (x : List UInt8) (hy : y < D.sure.length) (hx : x.length ≤ 64) : ((D.write y x).1 = 43 ∧ (D.write y x).2.down = true ∧ (D.write y x).2.sure = D.sure ∧ (D.write y x).2.pend = D.pend ∧ (D.write y x).2.seen = D.seen) ∨
    (D.down = false ∧ (D.write y x).1 = 0 ∧ (D.write y x).2.down = false ∧ (D.write y x).2.sure = D.sure ∧ (D.write y x).2.pend = D.pend ++ [(y, pad x)] ∧ (D.write y x).2.seen = D.seen.set y (pad x)) := by
  unfold Dk.write
  rw [if_neg (by omega), if_neg (by omega), Int.toNat_natCast]
  cases h : D.burn.down with
  | true => rw [if_pos rfl]; exact .inl ⟨rfl, h, rfl, rfl, rfl⟩
  | false =>
    rw [if_neg (by decide)]
    refine .inr ⟨?_, rfl, h, rfl, rfl, rfl⟩
    cases hd : D.down with
    | true => rw [burn_down hd] at h; cases h
    | false => rfl
/-- A save of the slot at z, on any disk whose slot is so: what it leaves. -/
theorem save_sp {D : Dk} {z m y : Nat} {b0 b : List UInt8} (hl : D.sure.length = 20) (hsl : D.seen.length = 20) (hz : z + 1 < 20) (hp : Pl D.seen z m y b0) (hm : m + 1 < 4294967295) (hb : b.length ≤ 43) :
    ((saveM D z b).1 = 0 ∨ (saveM D z b).1 = 43) ∧ (((saveM D z b).2.sure = D.sure ∧ (saveM D z b).2.pend = D.pend) ∨ (D.down = false ∧ (saveM D z b).2.sure = laySure D.sure D.pend ∧ ((saveM D z b).2.pend = [] ∨ (saveM D z b).2.pend = [(y, stampB (m + 1) 0 b)])) ∨ (D.down = false ∧ (saveM D z b).2.sure = (laySure D.sure D.pend).set y (stampB (m + 1) 0 b) ∧ (saveM D z b).2.pend = [])) := by
  have hyk := hp.yk
  have hr : D.right z = true := by unfold Dk.right; rw [hl]; simp; omega
  have e1 : putM D z b = D.sync.write y (stampB (m + 1) 0 b) := by
    unfold putM
    rw [hr, if_pos rfl, if_neg (by omega), Int.toNat_natCast, hp.last]
    simp only
    rw [if_neg (by omega)]
    congr 1
    omega
  have hst := stampB_length (m + 1) 0 b hb
  have hsy := sync_sp D
  have hsl2 : D.sync.sure.length = 20 := by
    rcases hsy with ⟨_, h, _⟩ | ⟨_, _, h, _⟩
    · rw [h, hl]
    · rw [h, laySure_length, hl]
  have hw := write_sp D.sync y (stampB (m + 1) 0 b) (by omega) (by omega)
  rw [jpad hst] at hw
  unfold saveM
  rw [e1]
  rcases hw with ⟨w1, w2, w3, w4, w5⟩ | ⟨w0, w1, w2, w3, w4, w5⟩
  · rw [if_neg (by rw [w1]; decide)]
    refine ⟨.inr w1, ?_⟩
    rcases hsy with ⟨s1, s2, s3, _⟩ | ⟨s0, s1, s2, s3, _⟩
    · exact .inl ⟨by rw [w3, s2], by rw [w4, s3]⟩
    · exact .inr (.inl ⟨s0, by rw [w3, s2], .inl (by rw [w4, s3])⟩)
  · rw [if_pos w1]
    obtain ⟨s0, s1, s2, s3⟩ : D.down = false ∧ D.sync.down = false ∧ D.sync.sure = laySure D.sure D.pend ∧ D.sync.pend = [] := by
      rcases hsy with ⟨s1, _⟩ | ⟨s0, s1, s2, s3, _⟩
      · rw [w0] at s1; cases s1
      · exact ⟨s0, s1, s2, s3⟩
    rw [s2] at w3
    rw [s3] at w4
    refine ⟨?_, ?_⟩
    · split
      · exact .inr rfl
      · exact .inl rfl
    · rcases sync_sp (D.sync.write y (stampB (m + 1) 0 b)).2 with ⟨t1, t2, t3, _⟩ | ⟨_, t1, t2, t3, _⟩
      · exact .inr (.inl ⟨s0, by rw [t2, w3], .inr (by rw [t3, w4]; rfl)⟩)
      · exact .inr (.inr ⟨s0, by rw [t2, w3, w4]; rfl, t3⟩)
end Go.Proofs.YtcpbmempfeloaaaDoor
/- Law 6: a crash amid Trim, amid Cut, plainly. -/
namespace Go.Proofs.YtcpbmempfeloaaaDoor
open Go.RowKit
set_option linter.unusedVariables false
set_option linter.unusedSimpArgs false

theorem crash_up {E : Dk} (h : E.good) (hl : E.sure.length = 20) (zs : List Int) : Up (E.crash zs) := ⟨h.crash zs, by show (layTorn zs E.sure E.pend).length = 20; rw [layTorn_len, hl], rfl, by show (-1 : Int) < 0; decide⟩
theorem slot_torn {S0 : List (List UInt8)} {z m y : Nat} {b0 b : List UInt8} (hp : Pl S0 z m y b0) (h64 : ∀ x ∈ S0, x.length = 64) (hl : S0.length = 20) (hz : z + 1 < 20) (hm : m + 1 < 4294967295) (hb : b.length ≤ 43) {E : Dk}
    (he : (E.sure = S0 ∧ (E.pend = [] ∨ E.pend = [(y, stampB (m + 1) 0 b)])) ∨ (E.sure = S0.set y (stampB (m + 1) 0 b) ∧ E.pend = [])) (zs : List Int) :
    (Pl (E.crash zs).seen z m y b0 ∨ Pl (E.crash zs).seen z (m + 1) (2 * z + 1 - y) b) ∧ (∀ x, z + 1 < x → (E.crash zs).seen.getD x [] = S0.getD x []) ∧ (E.crash zs).seen.length = 20 := by
  have hyk := hp.yk
  have hst := hp.step (by rw [hl]; omega) (by omega) hb
  have hcs : (E.crash zs).seen = layTorn zs E.sure E.pend := rfl
  have hset : ∀ X, (∀ x, z + 1 < x → (S0.set y X).getD x [] = S0.getD x []) ∧ (S0.set y X).length = 20 := fun X => ⟨fun x hx => getD_set_other (by omega) _, by simp [hl]⟩
  rcases he with ⟨e1, e2 | e2⟩ | ⟨e1, e2⟩
  · rw [hcs, e1, e2]
    exact ⟨.inl hp, fun x _ => rfl, hl⟩
  · have e3 : (E.crash zs).seen = S0.set y (tear (pickAt zs 0) (stampB (m + 1) 0 b) (S0.getD y [])) := by rw [hcs, e1, e2]; rfl
    rw [e3]
    refine ⟨?_, hset _⟩
    rcases hp.tear h64 (by rw [hl]; omega) (by omega) hb (pickAt zs 0) with h | h
    · exact .inl h
    · rw [h]; exact .inr hst
  · rw [hcs, e1, e2]
    exact ⟨.inr hst, hset _⟩
theorem Rg.low {S S' : List (List UInt8)} {z n f low E : Nat} {L : List (Nat × List UInt8)} (h : Rg S (z + 2) n f low E L) (hl : S.length = 20) (hl' : S'.length = 20) (he : ∀ x, z + 1 < x → S'.getD x [] = S.getD x []) : Rg S' (z + 2) n f low E L :=
  h.congr (by rw [hl, hl']) fun x _ => he _ (by omega)

section
variable {z n q : Nat} {J : Jn} {D : Dk} {L : List (Nat × List UInt8)}
/-- Trim, the disk going down wherever in it. -/
theorem amid_trim (h : JI z n q J D L []) (hq : q + 3 < 250) (fu : Int) (hf1 : -9223372036854775808 ≤ fu) (hf2 : fu ≤ 9223372036854775807) (k : Int) (zs : List Int) :
    ∃ c J1 D1 J2 D2, jtrim J { D with fuse := fu } k = (c, J1, D1) ∧ jopen (D1.crash zs) z n = (0, some J2, D2) ∧ ((¬ (0 ≤ k ∧ k ≤ J.held.length) ∧ c = 1 ∧ J2.all = J.all) ∨ ((0 ≤ k ∧ k ≤ J.held.length) ∧ (c = 0 ∨ c = 43) ∧ (J2.all = J.all ∨ J2.all = J.all.drop k.toNat))) ∧ D1.pend.length ≤ 100 := by
  obtain ⟨hpe, hss, hL⟩ := h.synced
  have hnq := h.nq
  have heq := h.eq
  have hn17 := h.n17
  unfold jtrim
  by_cases hk : k < 0 ∨ (J.held.length : Int) < k
  · rw [if_pos hk]
    obtain ⟨D', e, _⟩ := h.again (by omega) zs
    exact ⟨1, J, _, { J with epoch := J.epoch + 1 }, D', rfl, by rw [crash_sp (D := { D with fuse := fu }) (E := D) rfl rfl]; exact e, .inl ⟨by omega, rfl, rfl⟩, by show D.pend.length ≤ 100; rw [hpe]; decide⟩
  · rw [if_neg hk]
    obtain ⟨m, y, hp, h0, hm⟩ := h.pl
    have hkn : k.toNat ≤ J.held.length := by omega
    have hfm : (J.first + k.toNat) % 4294967296 = J.first + k.toNat := by
      have := h.heldLen
      simp at this
      exact Nat.mod_eq_of_lt (by omega)
    have e : J.trim k.toNat = ⟨z, n, J.first + k.toNat, J.epoch, lastE J.low (J.held.take k.toNat), J.held.drop k.toNat⟩ := by
      unfold Jn.trim
      rw [h.loc, h.jn, hfm]
    have hb : (metaB (J.first + k.toNat) J.epoch (lastE J.low (J.held.take k.toNat))).length ≤ 43 := by rw [metaB_length]; decide
    have hl20 := h.up.len
    have hr := h.ring
    rw [hL] at hr
    have hrt := hr.trim k.toNat hkn
    have hsp := save_sp (D := { D with fuse := fu }) (z := z) (b := metaB (J.first + k.toNat) J.epoch (lastE J.low (J.held.take k.toNat))) hl20 (by show D.seen.length = 20; rw [hss, hl20]) (by omega) (by show Pl D.seen z m y _; rw [hss]; exact hp) (by omega) hb
    have hg := (h.up.good.fuse fu hf1 hf2).saveM z (metaB (J.first + k.toNat) J.epoch (lastE J.low (J.held.take k.toNat))) (by show D.pend.length < 1000000; rw [hpe]; decide)
    have hpd := pend_saveM { D with fuse := fu } z (metaB (J.first + k.toNat) J.epoch (lastE J.low (J.held.take k.toNat)))
    rw [e]
    show ∃ c J1 D1 J2 D2, ((saveM { D with fuse := fu } z (metaB (J.first + k.toNat) J.epoch (lastE J.low (J.held.take k.toNat)))).1, _, (saveM { D with fuse := fu } z (metaB (J.first + k.toNat) J.epoch (lastE J.low (J.held.take k.toNat)))).2) = (c, J1, D1) ∧ _
    obtain ⟨c, E, hE⟩ : ∃ c E, saveM { D with fuse := fu } z (metaB (J.first + k.toNat) J.epoch (lastE J.low (J.held.take k.toNat))) = (c, E) := ⟨_, _, rfl⟩
    rw [hE] at hsp hg hpd ⊢
    obtain ⟨hc, hsp⟩ := hsp
    have hst : (E.sure = D.sure ∧ (E.pend = [] ∨ E.pend = [(y, stampB (m + 1) 0 (metaB (J.first + k.toNat) J.epoch (lastE J.low (J.held.take k.toNat))))])) ∨ (E.sure = D.sure.set y (stampB (m + 1) 0 (metaB (J.first + k.toNat) J.epoch (lastE J.low (J.held.take k.toNat)))) ∧ E.pend = []) := by
      have hlay : laySure D.sure D.pend = D.sure := by rw [hpe]; rfl
      rcases hsp with ⟨s1, s2⟩ | ⟨_, s1, s2⟩ | ⟨_, s1, s2⟩
      · exact .inl ⟨s1, .inl (by rw [← hpe]; exact s2)⟩
      · exact .inl ⟨by rw [← hlay]; exact s1, s2⟩
      · exact .inr ⟨by rw [← hlay]; exact s1, s2⟩
    have hEl : E.sure.length = 20 := by
      rcases hst with ⟨s1, _⟩ | ⟨s1, _⟩
      · rw [s1, hl20]
      · rw [s1]; simp [hl20]
    obtain ⟨t1, t2, t3⟩ := slot_torn hp h.up.good.ok.u64 hl20 (by omega) (by omega) hb hst zs
    have hu := crash_up hg hEl zs
    have hle := hr.mono.le
    have hlt := hrt.mono.le
    have hf1 := hr.f1
    have hl2 := h.heldLen
    simp at hl2
    rcases t1 with t1 | t1
    · obtain ⟨D', eo⟩ := open_any hu t1 h0 (by omega) (by omega) hr.n1 (by omega) (by omega) hle (by omega)
      rw [jheld_rg (hr.low hl20 t3 t2)] at eo
      exact ⟨c, _, E, _, D', rfl, eo, .inr ⟨by omega, hc, .inl rfl⟩, by have : E.pend.length ≤ D.pend.length + 1 := hpd; rw [hpe] at this; simp at this; omega⟩
    · obtain ⟨D', eo⟩ := open_any hu t1 (by omega) (by omega) (by omega) hr.n1 (by omega) (by omega) hlt (by omega)
      rw [jheld_rg (hrt.low hl20 t3 t2)] at eo
      exact ⟨c, _, E, _, D', rfl, eo, .inr ⟨by omega, hc, .inr (by simp [Jn.all, List.map_drop])⟩, by have : E.pend.length ≤ D.pend.length + 1 := hpd; rw [hpe] at this; simp at this; omega⟩
end

/-- The zeros of a Cut, the last one first. -/
def zl (c n f : Nat) : Nat → Nat → List (Nat × List UInt8)
  | _, 0 => []
  | m, k + 1 => (c + (f + (m - 1)) % n, zero64) :: zl c n f (m - 1) k
theorem zl_mem (c n f : Nat) : ∀ k m, ∀ x ∈ zl c n f m k, c ≤ x.1
  | 0, m, x, h => by simp [zl] at h
  | k + 1, m, x, h => by
    rcases List.mem_cons.1 h with rfl | h
    · simp
    · exact zl_mem c n f k (m - 1) x h
theorem zl_len (c n f : Nat) : ∀ k m, (zl c n f m k).length = k
  | 0, m => rfl
  | k + 1, m => by simp [zl, zl_len c n f k (m - 1)]
theorem zl_torn (zs : List Int) (c n f : Nat) : ∀ (k m u : Nat) (S : List (List UInt8)), k ≤ m → m ≤ n → c + n ≤ S.length → ∀ t, t < n →
    (((zl c n f m k).zipIdx u).foldl (tornAt zs) S).getD (c + (f + t) % n) [] = if m - k ≤ t ∧ t < m then tear (pickAt zs (u + (m - 1 - t))) zero64 (S.getD (c + (f + t) % n) []) else S.getD (c + (f + t) % n) []
  | 0, m, u, S, _, _, _, t, _ => by
    rw [if_neg (by omega)]; rfl
  | k + 1, 0, u, S, h, _, _, t, _ => by omega
  | k + 1, m + 1, u, S, hk, hm, hl, t, ht => by
    have hmod : (f + m) % n < n := Nat.mod_lt _ (by omega)
    have e0 : (((zl c n f (m + 1) (k + 1)).zipIdx u).foldl (tornAt zs) S) = ((zl c n f m k).zipIdx (u + 1)).foldl (tornAt zs) (S.set (c + (f + m) % n) (tear (pickAt zs u) zero64 (S.getD (c + (f + m) % n) []))) := rfl
    rw [e0, zl_torn zs c n f k m (u + 1) _ (by omega) (by omega) (by simpa using hl) t ht]
    have hother : t ≠ m → (S.set (c + (f + m) % n) (tear (pickAt zs u) zero64 (S.getD (c + (f + m) % n) []))).getD (c + (f + t) % n) [] = S.getD (c + (f + t) % n) [] := fun hne => by
      refine getD_set_other ?_ _
      rcases Nat.lt_or_ge t m with h1 | h1
      · have := mod_ne (f := f) (i := t) (j := m) (n := n) h1 (by omega); omega
      · have := mod_ne (f := f) (i := m) (j := t) (n := n) (by omega) (by omega); omega
    by_cases h1 : t = m
    · subst h1
      rw [if_neg (by omega), if_pos (by omega), getD_set_same (by omega)]
      congr 2
      omega
    · rw [hother h1]
      by_cases h2 : m - k ≤ t ∧ t < m
      · rw [if_pos h2, if_pos (by omega)]
        congr 2
        omega
      · rw [if_neg h2, if_neg (by omega)]
theorem Rg.cuts {c n f low E : Nat} : ∀ (k : Nat) {S : List (List UInt8)} {H : List (Nat × List UInt8)}, Rg S c n f low E H → k ≤ H.length → Rg (laySure S (zl c n f H.length k)) c n f low E (H.take (H.length - k))
  | 0, S, H, h, _ => by
    rw [Nat.sub_zero, List.take_length]; exact h
  | k + 1, S, H, h, hk => by
    obtain ⟨M, x, rfl, hM⟩ := snoc_of (l := H) (m := H.length - 1) (by omega)
    have h1 := h.cut1
    have h2 := Rg.cuts k h1 (by simp at hk; omega)
    have e : (M ++ [x]).length = M.length + 1 := by simp
    rw [e]
    have e2 : laySure S (zl c n f (M.length + 1) (k + 1)) = laySure (S.set (c + (f + M.length) % n) zero64) (zl c n f M.length k) := rfl
    rw [e2, show (M ++ [x]).take (M.length + 1 - (k + 1)) = M.take (M.length - k) by
      rw [List.take_append_of_le_length (by omega)]; congr 1; omega]
    exact h2
theorem first_pos (p : Nat → Nat) : ∀ (d a b : Nat), b = a + d → ∃ m, a ≤ m ∧ m ≤ b ∧ (∀ t, a ≤ t → t < m → p t = 0) ∧ (m = b ∨ 0 < p m)
  | 0, a, b, h => ⟨b, by omega, Nat.le_refl _, fun t h1 h2 => by omega, .inl rfl⟩
  | d + 1, a, b, h => by
    by_cases hp : 0 < p a
    · exact ⟨a, Nat.le_refl _, by omega, fun t h1 h2 => by omega, .inr hp⟩
    · obtain ⟨m, h1, h2, h3, h4⟩ := first_pos p d (a + 1) b (by omega)
      refine ⟨m, by omega, h2, fun t h5 h6 => ?_, h4⟩
      by_cases ht : t = a
      · subst ht; omega
      · exact h3 t (by omega) h6
theorem torn_none {X : List UInt8} {s e p : Nat} {b : List UInt8} (hX : X = stampB s e b) (hs : s < 256) (he : e < 4294967296) (hb : b.length ≤ 43) (hp : 0 < p) : parseP (tear p zero64 X) = none := by
  subst hX
  have hl : zero64.length = (stampB s e b).length := by rw [stampB_length _ _ _ hb]; rfl
  have h1 := seq_tear p zero64 (stampB s e b) hl
  rw [(st_nums s e b (by omega) he hb).1, zero_nums.1, Nat.zero_mod, Nat.zero_add] at h1
  have h2 : (256 : Nat) ≤ 256 ^ p := by
    have := Nat.pow_le_pow_right (n := 256) (by decide) (show 1 ≤ p by omega)
    omega
  rw [Nat.div_eq_of_lt (by omega), Nat.zero_mul] at h1
  unfold parseP
  rw [if_neg (fun hh => hh.2.1 h1)]
/-- What is found where the last ones are torn by zeros. -/
theorem scan_torn {S S' : List (List UInt8)} {c n f low E i : Nat} {H : List (Nat × List UInt8)} (h : Rg S c n f low E H) (hi : i ≤ H.length) (p : Nat → Nat)
    (hS : ∀ t, t < n → S'.getD (c + (f + t) % n) [] = if H.length - i ≤ t ∧ t < H.length then tear (p t) zero64 (S.getD (c + (f + t) % n) []) else S.getD (c + (f + t) % n) []) :
    ∃ m, H.length - i ≤ m ∧ m ≤ H.length ∧ scanM (fun s => parseP (S'.getD (c + s % n) [])) E n f low = H.take m := by
  obtain ⟨m, h1, h2, h3, h4⟩ := first_pos p i (H.length - i) H.length (by omega)
  have hfew := h.few
  have hfm := h.fm
  have hf1 := h.f1
  have hem := h.em
  have hsame : ∀ t, t < m → S'.getD (c + (f + t) % n) [] = S.getD (c + (f + t) % n) [] := fun t ht => by
    rw [hS t (by omega)]
    split
    · rename_i hh
      rw [h3 t hh.1 ht]; simp [tear]
    · rfl
  refine ⟨m, h1, h2, ?_⟩
  have hlm : (H.take m).length = m := by rw [List.length_take]; omega
  refine scan_chain _ E (H.take m) n f low (by omega) (fun j hj => ?_) (h.mono.take m) (by omega) ?_
  · rw [hlm] at hj
    have hjH : j < H.length := by omega
    have hm := h.mono.mem _ (List.getElem_mem hjH)
    rw [List.getElem_take, hsame j hj, h.laid j hjH, parse_stamp _ _ _ (by omega) (by omega) (by omega) (h.b43 _ (List.getElem_mem hjH))]
  · rw [hlm]
    by_cases hmn : m = n
    · exact .inl hmn
    · refine .inr fun q e b hp hh => ?_
      rcases Nat.lt_or_ge m H.length with hlt | hge
      · have hpm : 0 < p m := by
          rcases h4 with h4 | h4
          · omega
          · exact h4
        have hx := hS m (by omega)
        rw [if_pos ⟨h1, hlt⟩] at hx
        rw [hx] at hp
        have hm := h.mono.mem _ (List.getElem_mem hlt)
        rw [torn_none (h.laid m hlt) (by omega) (by omega) (h.b43 _ (List.getElem_mem hlt)) hpm] at hp
        cases hp
      · obtain rfl : m = H.length := by omega
        have hx := hS H.length (by omega)
        rw [if_neg (by omega)] at hx
        rw [hx] at hp
        refine h.stop ?_
        have hp' := hp
        unfold parseP at hp
        split at hp
        · rename_i hc
          have e1 := (parse_again hp').1
          have e2 := (parse_again hp').2
          rw [List.take_length] at hh
          exact ⟨by omega, by omega, hc.2.2.2.1⟩
        · cases hp
end Go.Proofs.YtcpbmempfeloaaaDoor
/- Law 6: a crash amid Cut, plainly. -/
namespace Go.Proofs.YtcpbmempfeloaaaDoor
open Go.RowKit
set_option linter.unusedVariables false
set_option linter.unusedSimpArgs false

theorem jzero_sp {z n : Nat} (J : Jn) (hz : z + 2 + n ≤ 20) (h1 : 1 ≤ n) (hl : J.loc = z) (hjn : J.n = n) : ∀ (k m : Nat) (D : Dk), D.sure.length = 20 → J.first + m < 4294967296 → k ≤ m →
    ∃ i, i ≤ k ∧ (jzero J k m D).pend = D.pend ++ zl (z + 2) n J.first m i ∧ (jzero J k m D).sure = D.sure ∧ (i < k → (jzero J k m D).down = true) ∧ (D.down = true → i = 0 ∧ (jzero J k m D).down = true)
  | 0, m, D, _, _, _ => ⟨0, Nat.le_refl _, by simp [jzero, zl], rfl, fun h => by omega, fun h => ⟨rfl, h⟩⟩
  | k + 1, m, D, hD, hm, hk => by
    have hsec : J.sec ((J.first + (m - 1)) % 4294967296) = z + 2 + (J.first + (m - 1)) % n := by
      unfold Jn.sec
      rw [hl, hjn, Nat.mod_eq_of_lt (show J.first + (m - 1) < 4294967296 by omega)]
    have hmod : (J.first + (m - 1)) % n < n := Nat.mod_lt _ (by omega)
    rw [jzero_succ, hsec]
    have hw := write_sp D (z + 2 + (J.first + (m - 1)) % n) [] (by omega) (by simp)
    obtain ⟨c, W, hW⟩ : ∃ c W, D.write ((z + 2 + (J.first + (m - 1)) % n : Nat) : Int) [] = (c, W) := ⟨_, _, rfl⟩
    rw [hW] at hw ⊢
    rcases hw with ⟨_, w2, w3, w4, _⟩ | ⟨w0, _, w2, w3, w4, _⟩
    · obtain ⟨i, i1, i2, i3, i4, i5⟩ := jzero_sp J hz h1 hl hjn k (m - 1) W (by rw [w3]; exact hD) (by omega) (by omega)
      obtain ⟨j0, j1⟩ := i5 w2
      subst j0
      refine ⟨0, Nat.zero_le _, ?_, by rw [i3]; exact w3, fun _ => j1, fun _ => ⟨rfl, j1⟩⟩
      rw [i2]
      show W.pend ++ [] = D.pend ++ []
      rw [show W.pend = D.pend from w4]
    · obtain ⟨i, i1, i2, i3, i4, i5⟩ := jzero_sp J hz h1 hl hjn k (m - 1) W (by rw [w3]; exact hD) (by omega) (by omega)
      refine ⟨i + 1, by omega, ?_, by rw [i3]; exact w3, fun h => i4 (by omega), fun h => by rw [w0] at h; cases h⟩
      rw [i2, show W.pend = D.pend ++ [(z + 2 + (J.first + (m - 1)) % n, pad [])] from w4, pad_nil]
      simp [zl]
theorem jzero_good (J : Jn) : ∀ (k m : Nat) (D : Dk), D.good → D.pend.length + k < 1000000 → (jzero J k m D).good ∧ (jzero J k m D).pend.length ≤ D.pend.length + k
  | 0, m, D, h, _ => ⟨h, Nat.le_refl _⟩
  | k + 1, m, D, h, hq => by
    rw [jzero_succ]
    have h1 := h.write (J.sec ((J.first + (m - 1)) % 4294967296) : Nat) [] (by omega)
    have h2 := pend_write D (J.sec ((J.first + (m - 1)) % 4294967296) : Nat) []
    obtain ⟨a, b⟩ := jzero_good J k (m - 1) _ h1 (by omega)
    exact ⟨a, by omega⟩

section
variable {z n q : Nat} {J : Jn} {D : Dk} {L : List (Nat × List UInt8)}
/-- Cut, the disk going down wherever in it. -/
theorem amid_cut (h : JI z n q J D L []) (hq : q + 3 < 250) (fu : Int) (hf1 : -9223372036854775808 ≤ fu) (hf2 : fu ≤ 9223372036854775807) (k : Int) (zs : List Int) :
    ∃ c J1 D1 J2 D2, jcut J { D with fuse := fu } k = (c, J1, D1) ∧ jopen (D1.crash zs) z n = (0, some J2, D2) ∧ ((¬ (0 ≤ k ∧ k ≤ J.held.length) ∧ c = 1 ∧ J2.all = J.all) ∨ ((0 ≤ k ∧ k ≤ J.held.length) ∧ (c = 0 ∨ c = 43) ∧ ∃ m, J.held.length - k.toNat ≤ m ∧ m ≤ J.held.length ∧ J2.all = J.all.take m)) ∧ D1.pend.length ≤ 100 := by
  obtain ⟨hpe, hss, hL⟩ := h.synced
  have hnq := h.nq
  have heq := h.eq
  have hn17 := h.n17
  unfold jcut
  by_cases hk : k < 0 ∨ (J.held.length : Int) < k
  · rw [if_pos hk]
    obtain ⟨D', e, _⟩ := h.again (by omega) zs
    exact ⟨1, J, _, { J with epoch := J.epoch + 1 }, D', rfl, by rw [crash_sp (D := { D with fuse := fu }) (E := D) rfl rfl]; exact e, .inl ⟨by omega, rfl, rfl⟩, by show D.pend.length ≤ 100; rw [hpe]; decide⟩
  · rw [if_neg hk, if_neg (by omega)]
    obtain ⟨m, y, hp, h0, hm⟩ := h.pl
    have hyk := hp.yk
    have hl20 := h.up.len
    have hr := h.ring
    rw [hL] at hr
    have hfew := hr.few
    have hn1 := hr.n1
    have hle := hr.mono.le
    have hf1' := hr.f1
    have hl2 := h.heldLen
    simp at hl2
    obtain ⟨kn, hkn⟩ : ∃ kn, k.toNat = kn := ⟨_, rfl⟩
    rw [hkn]
    have hkH : kn ≤ J.held.length := by omega
    -- the first sync
    have hg0 := (h.up.good.fuse fu hf1 hf2).sync
    have hs0 : ({ D with fuse := fu } : Dk).sync.sure = D.sure ∧ ({ D with fuse := fu } : Dk).sync.pend = [] := by
      rcases sync_sp { D with fuse := fu } with ⟨_, a, b, _⟩ | ⟨_, _, a, b, _⟩
      · exact ⟨a, by rw [b]; exact hpe⟩
      · refine ⟨?_, b⟩
        rw [a]
        show laySure D.sure D.pend = D.sure
        rw [hpe]; rfl
    obtain ⟨Ds, hDs⟩ : ∃ Ds, ({ D with fuse := fu } : Dk).sync = Ds := ⟨_, rfl⟩
    rw [hDs] at hg0 hs0 ⊢
    obtain ⟨s1, s2⟩ := hs0
    -- the zeros
    obtain ⟨i, i1, i2, i3, i4, _⟩ := jzero_sp (z := z) (n := n) J hn17 hn1 h.loc h.jn kn J.held.length Ds (by rw [s1]; exact hl20) (by omega) hkH
    obtain ⟨hgz, hpz⟩ := jzero_good J kn J.held.length Ds hg0 (by rw [s2]; simp; omega)
    obtain ⟨Z, hZ⟩ : ∃ Z, jzero J kn J.held.length Ds = Z := ⟨_, rfl⟩
    rw [hZ] at i2 i3 i4 hgz hpz ⊢
    rw [s2, List.nil_append] at i2
    rw [s1] at i3
    -- the second sync
    have hgs := hgz.sync
    have hsz := sync_sp Z
    have hpzs := pend_sync Z
    obtain ⟨Zs, hZs⟩ : ∃ Zs, Z.sync = Zs := ⟨_, rfl⟩
    rw [hZs] at hgs hsz hpzs ⊢
    have hb : (metaB J.first (J.epoch + 1) J.low).length ≤ 43 := by rw [metaB_length]; decide
    have e : J.cut kn = ⟨z, n, J.first, J.epoch + 1, J.low, J.held.take (J.held.length - kn)⟩ := by
      unfold Jn.cut
      rw [h.loc, h.jn]
    rw [e]
    show ∃ c J1 D1 J2 D2, ((saveM Zs z (metaB J.first (J.epoch + 1) J.low)).1, _, (saveM Zs z (metaB J.first (J.epoch + 1) J.low)).2) = (c, J1, D1) ∧ _
    have hlow : ∀ kk, ∀ x ∈ zl (z + 2) n J.first J.held.length kk, z + 1 < x.1 := fun kk x hx => by
      have := zl_mem (z + 2) n J.first kk J.held.length x hx
      omega
    have hZl : Zs.sure.length = 20 := by
      rcases hsz with ⟨_, a, _⟩ | ⟨_, _, a, _⟩
      · rw [a, i3, hl20]
      · rw [a, laySure_length, i3, hl20]
    have hZp : Pl Zs.seen z m y (metaB J.first J.epoch J.low) := by
      rw [hgs.seen]
      rcases hsz with ⟨_, a, b, _⟩ | ⟨_, _, a, b, _⟩
      · rw [a, b, i2, i3]; exact Pl.lay _ hp (hlow i)
      · rw [a, b, i2, i3]
        have hh := Pl.lay (zl (z + 2) n J.first J.held.length i) hp (hlow i)
        exact hh
    have hsp := save_sp (D := Zs) (z := z) (b := metaB J.first (J.epoch + 1) J.low) hZl (by rw [hgs.ok.len, hZl]) (by omega) hZp (by omega) hb
    have hzq : Zs.pend.length ≤ 20 := by rw [s2] at hpz; simp at hpz; omega
    have hg := hgs.saveM z (metaB J.first (J.epoch + 1) J.low) (by omega)
    have hpd := pend_saveM Zs z (metaB J.first (J.epoch + 1) J.low)
    obtain ⟨c, E, hE⟩ : ∃ c E, saveM Zs z (metaB J.first (J.epoch + 1) J.low) = (c, E) := ⟨_, _, rfl⟩
    rw [hE] at hsp hg hpd ⊢
    obtain ⟨hc, hsp⟩ := hsp
    have hEp : E.pend.length ≤ 100 := by
      replace hpd : E.pend.length ≤ Zs.pend.length + 1 := hpd
      omega
    rcases hsz with ⟨a0, a1, a2, _⟩ | ⟨b0, b1, b2, b3, _⟩
    · -- it is down: the zeros are torn
      rw [i3] at a1
      rw [i2] at a2
      have hEs : E.sure = D.sure ∧ E.pend = zl (z + 2) n J.first J.held.length i := by
        rcases hsp with ⟨p1, p2⟩ | ⟨p0, _⟩ | ⟨p0, _⟩
        · exact ⟨by rw [← a1]; exact p1, by rw [← a2]; exact p2⟩
        · rw [a0] at p0; cases p0
        · rw [a0] at p0; cases p0
      have hu := crash_up hg (by rw [hEs.1]; exact hl20) zs
      have hseen : (E.crash zs).seen = ((zl (z + 2) n J.first J.held.length i).zipIdx 0).foldl (tornAt zs) D.sure := by
        show layTorn zs E.sure E.pend = _
        rw [hEs.1, hEs.2]; rfl
      have hp2 : Pl (E.crash zs).seen z m y (metaB J.first J.epoch J.low) := by
        rw [hseen]; exact Pl.tornAll zs _ 0 hp (hlow i)
      obtain ⟨m2, m3, m4, m5⟩ := scan_torn (S' := (E.crash zs).seen) hr (i := i) (by omega) (fun t => pickAt zs (0 + (J.held.length - 1 - t))) (fun t ht => by
        rw [hseen]
        exact zl_torn zs (z + 2) n J.first i J.held.length 0 D.sure (by omega) hfew (by rw [hl20]; omega) t ht)
      obtain ⟨D', eo⟩ := open_any hu hp2 h0 (by omega) hn17 hn1 (by omega) (by omega) hle (by omega)
      have hj : jheld (E.crash zs) z n J.first J.epoch J.low = J.held.take m2 := m5
      rw [hj] at eo
      refine ⟨c, _, E, _, D', rfl, eo, .inr ⟨by omega, hc, m2, by omega, m4, ?_⟩, hEp⟩
      simp [Jn.all, List.map_take]
    · -- all zeros are laid
      have hi : i = kn := by
        rcases Nat.lt_or_ge i kn with hlt | hge
        · have := i4 hlt
          rw [b0] at this; cases this
        · omega
      subst hi
      rw [i3, i2] at b2
      have hcut := hr.cuts i hkH
      have hS0 : (laySure D.sure (zl (z + 2) n J.first J.held.length i)).length = 20 := by rw [laySure_length, hl20]
      have h64 : ∀ x ∈ laySure D.sure (zl (z + 2) n J.first J.held.length i), x.length = 64 := by
        rw [← b2]; exact hgs.ok.u64
      have hps : Pl (laySure D.sure (zl (z + 2) n J.first J.held.length i)) z m y (metaB J.first J.epoch J.low) := Pl.lay _ hp (hlow i)
      have hst : (E.sure = laySure D.sure (zl (z + 2) n J.first J.held.length i) ∧ (E.pend = [] ∨ E.pend = [(y, stampB (m + 1) 0 (metaB J.first (J.epoch + 1) J.low))])) ∨ (E.sure = (laySure D.sure (zl (z + 2) n J.first J.held.length i)).set y (stampB (m + 1) 0 (metaB J.first (J.epoch + 1) J.low)) ∧ E.pend = []) := by
        have hlay : laySure Zs.sure Zs.pend = laySure D.sure (zl (z + 2) n J.first J.held.length i) := by rw [b3, b2]; rfl
        rcases hsp with ⟨p1, p2⟩ | ⟨_, p1, p2⟩ | ⟨_, p1, p2⟩
        · exact .inl ⟨by rw [← b2]; exact p1, .inl (by rw [← b3]; exact p2)⟩
        · exact .inl ⟨by rw [← hlay]; exact p1, p2⟩
        · exact .inr ⟨by rw [← hlay]; exact p1, p2⟩
      have hEl : E.sure.length = 20 := by
        rcases hst with ⟨p1, _⟩ | ⟨p1, _⟩
        · rw [p1, hS0]
        · rw [p1]; simp [hS0]
      obtain ⟨t1, t2, t3⟩ := slot_torn hps h64 hS0 (by omega) (by omega) hb hst zs
      have hu := crash_up hg hEl zs
      have hm2 : (J.held.take (J.held.length - i)).map (·.2) = J.all.take (J.held.length - i) := by simp [Jn.all, List.map_take]
      rcases t1 with t1 | t1
      · obtain ⟨D', eo⟩ := open_any hu t1 h0 (by omega) hn17 hn1 (by omega) (by omega) hle (by omega)
        rw [jheld_rg (hcut.low hS0 t3 t2)] at eo
        exact ⟨c, _, E, _, D', rfl, eo, .inr ⟨by omega, hc, J.held.length - i, Nat.le_refl _, by omega, hm2⟩, hEp⟩
      · obtain ⟨D', eo⟩ := open_any hu t1 (by omega) (by omega) hn17 hn1 (by omega) (by omega) (by omega) (by omega)
        rw [jheld_rg ((hcut.up (by omega)).1.low hS0 t3 t2)] at eo
        exact ⟨c, _, E, _, D', rfl, eo, .inr ⟨by omega, hc, J.held.length - i, Nat.le_refl _, by omega, hm2⟩, hEp⟩
end
end Go.Proofs.YtcpbmempfeloaaaDoor
