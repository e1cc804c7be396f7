/- Texts of the proofs, part 33: what the functions that they reach do, walked; no conditions beyond those that each states. -/
import Derived.Test.YtlolfcnfcgegdaaGreatZz141681262a
set_option linter.unusedVariables false
set_option linter.unusedSimpArgs false
/- The document's state: Unpack; the walk of ServiceUnpacks. -/
namespace Go.Proofs.YtlolfcnfcgegdaaGreat
open Go.RowKit
set_option linter.unusedVariables false
set_option linter.unusedSimpArgs false

set_option maxRecDepth 100000 in
set_option maxHeartbeats 4000000 in
theorem svdoc_calls {K : Nat → Obj → Prop} (w : World) (v : Value) (b : List UInt8) (hb : BytesAt K w v b) (hm : b.length ≤ 100000) (code : Int) (M : MT) (L : Lk) (hr : svU b = (code, M, L)) :
    Calls Tryz.prog 22 #[v] w fun e w' => ((code ≠ 0 ∧ e = .returned (.tuple #[.pointer none, .int .i64 code])) ∨ (code = 0 ∧ ∃ bs, e = .returned (.tuple #[.pointer (some ⟨bs, 0, none⟩), .int .i64 0]))) ∧ Fr (fun _ _ => True) w w' := by
  obtain ⟨av, cv, rfl⟩ := hb.form
  obtain ⟨W2, hW2⟩ : ∃ W, w.alloc (.cells #[.slice av b.length cv, .int .i64 0, .bool false] 125 (0, 0)) = W := ⟨_, rfl⟩
  have l0 : RR w W2 w.heap.size b false := hW2 ▸ RR.mk0 (Fr.refl _ _) hb (by omega)
  obtain ⟨one, r1, s1, e1⟩ : ∃ x r s, bytR b false = (x, r, s) := ⟨_, _, _, rfl⟩
  obtain ⟨two, r2, s2, e2⟩ : ∃ x r s, bytR r1 s1 = (x, r, s) := ⟨_, _, _, rfl⟩
  have g1 := bytR_len b false
  have g2 := bytR_len r1 s1
  rw [e1] at g1
  rw [e2] at g2
  dsimp only at g1 g2
  obtain ⟨E, hE⟩ : ∃ E, endL r2 s2 = E := ⟨_, rfl⟩
  obtain ⟨c1, M1, hu1⟩ : ∃ c M, unpM one = (c, M) := ⟨_, _, rfl⟩
  obtain ⟨c2, L2, hu2⟩ : ∃ c L, lkU two = (c, L) := ⟨_, _, rfl⟩
  have HRR : Hid (code = if E ≠ 0 then E else if c1 ≠ 0 then c1 else c2) := by
    show _ = _
    have h := congrArg (fun x : Int × MT × Lk => x.1) hr
    unfold svU at h
    rw [e1] at h
    dsimp only at h
    rw [e2] at h
    dsimp only at h
    rw [hE, hu1, hu2] at h
    dsimp only at h
    rw [← h]
    split
    · rfl
    · split <;> rfl
  have hc2 : codeD (rgsU (lkU0 two) 4) = c2 := by
    rw [code_eq]
    have h' := hu2
    unfold lkU at h'
    exact (Prod.mk.inj h').1
  have hmc : one.length ≤ 100000 := by omega
  have htc : two.length ≤ 1000000 := by omega
  have C1 := Lib.hid (rr_bytes w W2 w.heap.size b false l0 one r1 s1 e1)
  clear hm hb hr e1 hu2 g1 g2
  go_enter Tryz.func22, Tryz.ntmps22
  go_wp2_with fail
  try rw [hW2]
  (with_reducible refine C1.out.mono ?_)
  rintro e w2 ⟨⟨a1, cp1, rfl, bb1⟩, l1, f1⟩
  have C2 := Lib.hid (rr_bytes w w2 w.heap.size r1 s1 l1 two r2 s2 e2)
  have B1 := Lib.hid bb1
  clear l0 f1 bb1 C1 e2 hW2
  go_wp2_with fail
  (with_reducible refine C2.out.mono ?_)
  rintro e w3 ⟨⟨a2, cp2, rfl, bb2⟩, l2, f2⟩
  have B2 := Lib.hid bb2
  have EC := Lib.hid (rr_end w w3 w.heap.size r2 s2 l2)
  rw [hE] at EC
  clear l1 f2 bb2 C2 hE
  go_wp2_with fail
  (with_reducible refine EC.out.mono ?_)
  rintro e w4 ⟨rfl, k4, hw4⟩
  have F4 : Hid (Fr (fun _ _ => True) w w4) := Lib.hid (by rw [hw4]; exact l2.fr.drewN k4)
  clear EC hw4 l2
  by_cases hE0 : E = 0
  · have hE2 : (E != 0) = false := by simpa using hE0
    have HE0 := Lib.hid hE0
    clear hE0
    have C3 := Lib.hid (dunpack_calls w4 _ one (B1.out.tt F4.out) hmc c1 M1 hu1)
    clear hu1
    go_wp2_with fail
    (with_reducible refine C3.out.mono ?_)
    rintro e w5 ⟨hx, f5⟩
    have F5 := Lib.hid (F4.out.trans f5)
    clear f5 C3 B1
    rcases hx with ⟨hc, rfl⟩ | ⟨hc, bk, D, rfl, _, _⟩
    · have hcb : (c1 != 0) = true := by simpa using hc
      have HR1 : Hid (code = c1) := by
        have := HRR.out
        rw [if_neg (fun x => x HE0.out), if_pos hc] at this
        exact this
      have HC := Lib.hid hc
      clear HRR hc
      go_wp2
      go_ret2
      rw [HR1.out]
      exact ⟨.inl ⟨HC.out, rfl⟩, F5.out⟩
    · have HR2 : Hid (code = c2) := by
        have := HRR.out
        rw [if_neg (fun x => x HE0.out), if_neg (fun x => x hc)] at this
        exact this
      clear HRR
      subst hc
      have C4 := Lib.hid (lkdoc_calls w5 _ two (B2.out.tt F5.out) htc)
      rw [hc2] at C4
      clear hc2 B2
      go_wp2_with fail
      (with_reducible refine C4.out.mono ?_)
      rintro e w6 ⟨hx, f6⟩
      have F6 := Lib.hid (F5.out.trans f6)
      clear f6 C4
      rcases hx with ⟨hc, rfl⟩ | ⟨hc, b2, hv, wv, rfl, _⟩
      · have hcb : (c2 != 0) = true := by simpa using hc
        have HC := Lib.hid hc
        clear hc
        go_wp2
        go_ret2
        rw [HR2.out]
        exact ⟨.inl ⟨HC.out, rfl⟩, F6.out⟩
      · have HC0 : Hid (code = 0) := Lib.hid (HR2.out.trans hc)
        subst hc
        obtain ⟨W7, hW7⟩ : ∃ W, w6.alloc (.cells #[.pointer (some ⟨bk, 0, none⟩), .pointer (some ⟨b2, 0, none⟩)] 49 (0, 0)) = W := ⟨_, rfl⟩
        have FE := Lib.hid (F6.out.trans (hW7 ▸ (Fr.refl _ _).alloc _ : Fr (fun _ _ => True) w6 W7))
        clear HR2
        go_wp2
        go_ret2
        try rw [hW7]
        exact ⟨.inr ⟨HC0.out, _, rfl⟩, FE.out⟩
  · have hE2 : (E != 0) = true := by simpa using hE0
    have HR1 : Hid (code = E) := by
      have := HRR.out
      rw [if_pos hE0] at this
      exact this
    have HC := Lib.hid hE0
    clear HRR hE0
    go_wp2
    go_ret2
    rw [HR1.out]
    exact ⟨.inl ⟨HC.out, rfl⟩, F4.out⟩
/-- What is unpacked is packed so. -/
theorem num2_open {p q : Rs} {n x : Nat} (h : num2 p n = (x, q)) (hq : q.2 = false) : p.2 = false ∧ p.1 = le x n ++ q.1 := by
  obtain ⟨q1, q2⟩ := q
  dsimp only at hq
  subst hq
  exact numR_open h
theorem num2_snd (p : Rs) (n : Nat) : (num2 p n).2.2 = false → p.2 = false ∧ p.1 = le (num2 p n).1 n ++ (num2 p n).2.1 := fun h => num2_open (p := p) (q := (num2 p n).2) (n := n) (x := (num2 p n).1) rfl h
theorem holdU_open (p : Rs) (h : (holdU p).2.2 = false) : p.2 = false ∧ p.1 = hoB (holdU p).1 ++ (holdU p).2.1 := by
  unfold holdU at h ⊢
  dsimp only at h ⊢
  obtain ⟨a1, a2⟩ := num2_snd _ _ h
  obtain ⟨b1, b2⟩ := num2_snd _ _ a1
  obtain ⟨c1, c2⟩ := num2_snd _ _ b1
  obtain ⟨d1, d2⟩ := num2_snd _ _ c1
  refine ⟨d1, ?_⟩
  rw [d2, c2, b2, a2]
  unfold hoB
  simp only [List.append_assoc]
theorem hsU_open (last : Nat) (u : UB) (hu : u.hs = []) : ∀ i, (hsU last u i).p.2 = false → u.p.2 = false ∧ u.p.1 = (hsU last u i).hs.flatMap hoB ++ (hsU last u i).p.1
  | 0, h => ⟨h, by show u.p.1 = u.hs.flatMap hoB ++ u.p.1; rw [hu]; rfl⟩
  | i + 1, h => by
    obtain ⟨a, b⟩ := holdU_open (hsU last u i).p h
    obtain ⟨c, d⟩ := hsU_open last u hu i a
    refine ⟨c, ?_⟩
    show u.p.1 = ((hsU last u i).hs ++ [(holdU (hsU last u i).p).1]).flatMap hoB ++ (holdU (hsU last u i).p).2.1
    rw [d, b, List.flatMap_append]
    simp
theorem wsU_open (v : Rs × List Wa) (hv : v.2 = []) : ∀ i, (wsU v i).1.2 = false → v.1.2 = false ∧ v.1.1 = (wsU v i).2.flatMap waB ++ (wsU v i).1.1
  | 0, h => ⟨h, by show v.1.1 = v.2.flatMap waB ++ v.1.1; rw [hv]; rfl⟩
  | i + 1, h => by
    obtain ⟨a1, a2⟩ := num2_snd _ _ h
    obtain ⟨b1, b2⟩ := num2_snd _ _ a1
    obtain ⟨c, d⟩ := wsU_open v hv i b1
    refine ⟨c, ?_⟩
    show v.1.1 = ((wsU v i).2 ++ [(⟨(num2 (wsU v i).1 1).1, (num2 (num2 (wsU v i).1 1).2 1).1⟩ : Wa)]).flatMap waB ++ (num2 (num2 (wsU v i).1 1).2 1).2.1
    rw [d, b2, a2, List.flatMap_append]
    unfold waB
    simp
theorem rgU_open (u : UR) (r : Nat) (h : (rgU u r).p.2 = false) : u.p.2 = false ∧ u.p.1 = rgB ⟨(rgH u).hs, (rgW u).2⟩ ++ (rgU u r).p.1 := by
  have h1 : (wsU ((num2 (rgH u).p 1).2, []) (num2 (rgH u).p 1).1).1.2 = false := h
  obtain ⟨a1, a2⟩ := wsU_open _ rfl _ h1
  obtain ⟨b1, b2⟩ := num2_snd _ _ a1
  have b1' : (hsU u.L.last ⟨(num2 u.p 1).2, u.ok, u.tk, []⟩ (num2 u.p 1).1).p.2 = false := b1
  obtain ⟨c1, c2⟩ := hsU_open _ _ rfl _ b1'
  obtain ⟨d1, d2⟩ := num2_snd _ _ c1
  have lh : (rgH u).hs.length = (num2 u.p 1).1 := by
    have := (hsU_len u.L.last ⟨(num2 u.p 1).2, u.ok, u.tk, []⟩ (num2 u.p 1).1).1
    have e : (rgH u).hs.length = ([] : List Ho).length + (num2 u.p 1).1 := this
    rw [e, List.length_nil, Nat.zero_add]
  have lw : (rgW u).2.length = (num2 (rgH u).p 1).1 := by
    have := wsU_len ((num2 (rgH u).p 1).2, []) (num2 (rgH u).p 1).1
    have e : (rgW u).2.length = ([] : List Wa).length + (num2 (rgH u).p 1).1 := this
    rw [e, List.length_nil, Nat.zero_add]
  refine ⟨d1, ?_⟩
  have c2' : (num2 u.p 1).2.1 = (rgH u).hs.flatMap hoB ++ (rgH u).p.1 := c2
  have a2' : (num2 (rgH u).p 1).2.1 = (rgW u).2.flatMap waB ++ (rgU u r).p.1 := a2
  rw [d2, c2', b2, a2']
  unfold rgB
  dsimp only
  rw [lh, lw]
  simp only [List.append_assoc]
theorem lkB_four (n l : Nat) (r0 r1 r2 r3 : Rgn) : lkB ⟨n, l, [r0, r1, r2, r3]⟩ = le n 8 ++ (le l 8 ++ (rgB r0 ++ (rgB r1 ++ (rgB r2 ++ rgB r3)))) := by
  show (((((le n 8 ++ le l 8) ++ rgB r0) ++ rgB r1) ++ rgB r2) ++ rgB r3) = _
  simp
theorem rgs_L (u : UR) (r : Nat) : (rgsU u (r + 1)).L = (rgsU u r).L.put r ⟨(rgH (rgsU u r)).hs, (rgW (rgsU u r)).2⟩ := rfl
theorem rgs_p (u : UR) (r : Nat) (h : (rgsU u (r + 1)).p.2 = false) : (rgsU u r).p.2 = false ∧ (rgsU u r).p.1 = rgB ⟨(rgH (rgsU u r)).hs, (rgW (rgsU u r)).2⟩ ++ (rgsU u (r + 1)).p.1 := rgU_open (rgsU u r) r h
theorem lk_open {b : List UInt8} {L : Lk} (h : lkU b = (0, L)) : lkB L = b := by
  unfold lkU at h
  obtain ⟨hc, hL⟩ := Prod.mk.inj h
  clear h
  have hend : endL (rgsU (lkU0 b) 4).p.1 (rgsU (lkU0 b) 4).p.2 = 0 := by
    have ho := codeU_ok hc
    unfold codeU at hc
    rw [if_neg (fun x => by rw [ho] at x; cases x.2)] at hc
    exact hc
  obtain ⟨u, hu⟩ : ∃ u, lkU0 b = u := ⟨_, rfl⟩
  have e1 : u.L.rs = [⟨[], []⟩, ⟨[], []⟩, ⟨[], []⟩, ⟨[], []⟩] := by rw [← hu]; rfl
  have e2 : u.L.now = (num2 (b, false) 8).1 ∧ u.L.last = (num2 (num2 (b, false) 8).2 8).1 ∧ u.p = (num2 (num2 (b, false) 8).2 8).2 := by rw [← hu]; exact ⟨rfl, rfl, rfl⟩
  rw [hu] at hL hend
  have hs4 : (rgsU u 4).p.2 = false ∧ (rgsU u 4).p.1 = [] := by
    unfold endL at hend
    split at hend
    · cases hend
    · rename_i q
      split at hend
      · cases hend
      · rename_i q2
        exact ⟨by simpa using q, List.length_eq_zero_iff.1 (by omega)⟩
  obtain ⟨a1, a2⟩ := rgs_p u 3 hs4.1
  obtain ⟨b1, b2⟩ := rgs_p u 2 a1
  obtain ⟨c1, c2⟩ := rgs_p u 1 b1
  obtain ⟨d1, d2⟩ := rgs_p u 0 c1
  have l4 := rgs_L u 3
  have l3 := rgs_L u 2
  have l2 := rgs_L u 1
  have l1 := rgs_L u 0
  have z0 : rgsU u 0 = u := rfl
  rw [z0] at d1 d2 l1
  rw [hs4.2, List.append_nil] at a2
  generalize rgsU u 4 = u4 at *
  generalize rgsU u 3 = u3 at *
  generalize rgsU u 2 = u2 at *
  generalize rgsU u (0 + 1) = u1 at *
  rw [e2.2.2] at d1
  obtain ⟨f1, f2⟩ := num2_snd _ _ d1
  obtain ⟨_, g2⟩ := num2_snd _ _ f1
  have hl : L = ⟨u.L.now, u.L.last, [⟨(rgH u).hs, (rgW u).2⟩, ⟨(rgH u1).hs, (rgW u1).2⟩, ⟨(rgH u2).hs, (rgW u2).2⟩, ⟨(rgH u3).hs, (rgW u3).2⟩]⟩ := by
    rw [← hL, l4, l3, l2, l1]
    unfold Lk.put
    dsimp only
    rw [e1]
    rfl
  have hb : b = le u.L.now 8 ++ (le u.L.last 8 ++ u.p.1) := by
    rw [e2.1, e2.2.1, e2.2.2, ← f2]
    exact g2
  rw [hl, lkB_four, hb, d2, c2, b2, a2]
theorem sv_open {b : List UInt8} {M : MT} {L : Lk} (h : svU b = (0, M, L)) : svB M L = b ∧ M.length ≤ 6 ∧ ∀ x ∈ M, 0 ≤ x.1 ∧ x.1 ≤ 15 := by
  obtain ⟨one, r1, s1, e1⟩ : ∃ x r s, bytR b false = (x, r, s) := ⟨_, _, _, rfl⟩
  obtain ⟨two, r2, s2, e2⟩ : ∃ x r s, bytR r1 s1 = (x, r, s) := ⟨_, _, _, rfl⟩
  obtain ⟨c1, M1, hu1⟩ : ∃ c M, unpM one = (c, M) := ⟨_, _, rfl⟩
  obtain ⟨c2, L2, hu2⟩ : ∃ c L, lkU two = (c, L) := ⟨_, _, rfl⟩
  unfold svU at h
  rw [e1] at h
  dsimp only at h
  rw [e2] at h
  dsimp only at h
  rw [hu1, hu2] at h
  dsimp only at h
  by_cases q0 : endL r2 s2 = 0
  · rw [if_neg (fun x => x q0)] at h
    by_cases q1 : c1 = 0
    · rw [if_neg (fun x => x q1)] at h
      simp only [Prod.mk.injEq] at h
      obtain ⟨rfl, rfl, rfl⟩ := h
      subst q1
      obtain ⟨u1, u2, u3⟩ := unp_ok hu1
      have hs2 : s2 = false ∧ r2 = [] := by
        unfold endL at q0
        split at q0
        · cases q0
        · rename_i q
          split at q0
          · cases q0
          · exact ⟨by simpa using q, List.length_eq_zero_iff.1 (by omega)⟩
      obtain ⟨rfl, rfl⟩ := hs2
      obtain ⟨rfl, t2⟩ := bytR_open e2
      obtain ⟨_, t1⟩ := bytR_open e1
      refine ⟨?_, u3, u2.rng⟩
      unfold svB
      rw [u2.sort, u1, lk_open hu2, t1, t2, List.append_nil]
    · rw [if_pos q1] at h
      exact absurd (congrArg Prod.fst h) q1
  · rw [if_pos q0] at h
    exact absurd (congrArg Prod.fst h) q0
theorem SV.mf {n : Nat} {P Q : Nat → Prop} {w : World} {bs b1 b2 : Nat} {M : MT} {L : Lk} (h : SV n P Q w bs b1 b2 M L) (h6 : M.length ≤ 6) (hr : ∀ x ∈ M, 0 ≤ x.1 ∧ x.1 ≤ 15) : MF M := by
  obtain ⟨⟨mv, c, R, ht, rfl, _⟩, _⟩ := h.se
  refine ⟨h6, hr, fun x hx => ?_, fun x hx => ?_⟩ <;> obtain ⟨r, hR, rfl⟩ := List.mem_map.1 hx
  · exact (ht.each r hR).lo
  · exact (ht.each r hR).short
set_option maxRecDepth 100000 in
set_option maxHeartbeats 4000000 in
theorem unpacks_walk (a : Option Addr) (len cap : Nat) (w : World) (h : Rd Tryz.prog w 23 [.slice a len cap]) :
    Calls Tryz.prog 4 #[.slice a len cap] w fun e w' => e = .returned (.bool true) ∧ Below w.heap.size w w' := by
  obtain ⟨b, hb, _⟩ := h.bytes Tryz.underlying23 Tryz.underlying5 (by kernel_rfl)
  have hl := hb.len
  subst hl
  have HB := Lib.hid hb
  obtain ⟨k, hk⟩ : ∃ k, b.length = k := ⟨_, rfl⟩
  rw [hk] at HB
  have HK := Lib.hid hk
  rw [hk]
  clear hb h hk
  by_cases hlen : (900 : Int) < k
  · go_enter Tryz.func4, Tryz.ntmps4
    go_wp2_with fail
    (with_reducible refine (awake_calls w).mono ?_)
    rintro e w1 ⟨rfl, f1⟩
    have F1 := Lib.hid f1
    clear f1
    go_wp2
    go_ret
    exact ⟨rfl, (F1.out.mono fun _ _ _ => trivial : Fr (fun b _ => b < w.heap.size) w w1).below (Nat.le_refl _)⟩
  · obtain ⟨code, M, L, hr⟩ : ∃ c M L, svU b = (c, M, L) := ⟨_, _, _, rfl⟩
    have HR := Lib.hid hr
    clear hr
    go_enter Tryz.func4, Tryz.ntmps4
    go_wp2_with fail
    (with_reducible refine (awake_calls w).mono ?_)
    rintro e w1 ⟨rfl, f1⟩
    have F1 := Lib.hid f1
    have UC := Lib.hid (svunpack_calls (n := w.heap.size) w1 _ b F1.out.size (HB.out.tt f1) (by have := HK.out; omega) code M L HR.out)
    clear f1
    go_wp2_with fail
    (with_reducible refine UC.out.mono ?_)
    rintro e w2 ⟨hx, f2⟩
    have F2 := Lib.hid (F1.out.trans f2)
    have DC := Lib.hid (svdoc_calls w2 _ b (HB.out.tt F2.out) (by have := HK.out; omega) code M L HR.out)
    clear UC F1 f2
    rcases hx with ⟨hc, rfl⟩ | ⟨hc, P, Q, bs, b1, b2, rfl, hsv, _⟩
    · have HC := Lib.hid hc
      clear hc
      go_wp2_with fail
      (with_reducible refine DC.out.mono ?_)
      rintro e w3 ⟨hx, f3⟩
      have F3 := Lib.hid (F2.out.trans f3)
      clear f3 DC
      rcases hx with ⟨_, rfl⟩ | ⟨hc0, _⟩
      · go_wp2
        go_ret
        exact ⟨rfl, (F3.out.mono fun _ _ _ => trivial : Fr (fun b _ => b < w.heap.size) w w3).below (Nat.le_refl _)⟩
      · exact absurd hc0 HC.out
    · subst hc
      have HS := Lib.hid hsv
      obtain ⟨o1, o2, o3⟩ := sv_open HR.out
      have HMF := Lib.hid (hsv.mf o2 o3)
      clear hsv o2 o3
      go_wp2_with fail
      (with_reducible refine DC.out.mono ?_)
      rintro e w3 ⟨hx, f3⟩
      have F3 := Lib.hid (F2.out.trans f3)
      have PC := Lib.hid (svpack_calls w3 bs b1 b2 M L (HS.out.fr f3) HMF.out)
      rw [o1] at PC
      clear f3 DC HS F2 o1
      rcases hx with ⟨hx0, _⟩ | ⟨_, b9, rfl⟩
      · exact absurd rfl hx0
      · go_wp2_with fail
        (with_reducible refine PC.out.mono ?_)
        rintro e w4 ⟨⟨ap, cp, rfl, bp⟩, f4⟩
        have F4 := Lib.hid (F3.out.trans f4)
        have SC := Lib.hid (same_calls w4 _ _ b b bp (HB.out.tt F4.out) (by have := HK.out; omega))
        rw [show decide (b = b) = true from decide_eq_true rfl] at SC
        clear bp f4 PC F3
        go_wp2_with fail
        (with_reducible refine SC.out.mono ?_)
        rintro e w5 ⟨rfl, n5, hw5⟩
        have F5 : Hid (Fr (fun b _ => b < w.heap.size) w w5) := Lib.hid (by rw [hw5]; exact (F4.out.mono fun _ _ _ => trivial : Fr (fun b _ => b < w.heap.size) w w4).drewN n5)
        clear hw5 SC
        go_wp2
        go_ret
        exact ⟨rfl, F5.out.below (Nat.le_refl _)⟩
end Go.Proofs.YtlolfcnfcgegdaaGreat
