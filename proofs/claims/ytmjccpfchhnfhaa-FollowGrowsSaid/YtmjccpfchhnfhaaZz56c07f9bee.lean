/- Texts of the proofs, part 24: what the functions that they reach do, walked; no conditions beyond those that each states. -/
import Derived.Test.YtmjccpfchhnfhaaZz57630cb457
set_option linter.unusedVariables false
set_option linter.unusedSimpArgs false
/- elect: OnAnswer (printed by onans2.py). -/
namespace Go.Proofs.Ytmjccpfchhnfhaa
open Go.RowKit
set_option linter.unusedVariables false
set_option linter.unusedSimpArgs false

section
variable {X P : Nat → Prop} {w w' : World} {b : Nat} {n n' : Nd} {q q' : NV}
set_option maxRecDepth 100000 in
set_option maxHeartbeats 8000000 in
theorem onAnswer2f_calls (h : PNs X P w b n q) (m : MV) (hk1 : m.kind = 2) (hf : ¬ n.tm < m.tm) (hcf : 0 < n.conf.length ∧ n.conf.length ≤ 1000) (hy : n.yes.length ≤ 900000) (mN : Nat) (hme : n.me = (mN : Nat)) (hm16 : mN < 16) (htm : n.tm + 1 < 18446744073709551616) (htm2 : m.tm + 1 < 18446744073709551616) (hl : n.log.last + 1 < 18446744073709551616) (hle : n.log.es.length ≤ 900000) :
    Calls Try.prog 47 #[.pointer (some ⟨b, 0, none⟩), .agg (cM m)] w fun e w' => NOut X P w b (n.onAnswer m.ms) e w' := by
  obtain ⟨W1, hW1, F1, X1⟩ := mbox w m
  obtain ⟨g0, hg0⟩ : ∃ x, w.heap.size = x := ⟨_, rfl⟩
  rw [hg0] at X1
  have H := Lib.hid h
  have HG0 := Lib.hid hg0
  obtain ⟨k, hk⟩ : ∃ x, m.kind = x := ⟨_, rfl⟩
  obtain ⟨mo, hmo⟩ : ∃ x, m.ok = x := ⟨_, rfl⟩
  have HK := Lib.hid hk
  have HMO := Lib.hid hmo
  have gb : Hid (g0 ≠ b) := by have := lt_of_some h.top; show _ ≠ _; omega
  have v0 : W1.cell? ⟨g0, 0, none⟩ = some (.int .i64 k) := by rw [← hk]; exact (mcells X1.out).1
  unfold cM at hW1 ⊢
  have HK1 := Lib.hid hk1
  have HF0 := Lib.hid hf
  have gl : decide (n.tm < m.tm) = false := decide_eq_false hf
  obtain rfl : k = 2 := by rw [← hk]; exact hk1
  have v3 := (mcells X1.out).2.2.2.1
  have y6 := (h.cells F1.out).2.2.2.2.2.2.1
  clear hk1 hf
  clear h hk hmo
  go_enter Try.func47, Try.ntmps47
  go_wp2_with fail
  try rw [hW1]
  try rw [HG0.out]
  clear hW1 hg0
  go_quiet (fail)
  clear v0 y6 gl 
  have FA : Hid (Fr (fun _ _ => True) W1 (W1.drewN nq)) := (Fr.refl _ W1).drewN nq
  generalize W1.drewN nq = WA at FA ⊢
  have HA := Lib.hid ((H.out.tt F1.out).tt FA.out)
  have TA : Hid (WA.heap[g0]? = some (.cells (cM m) 74 (0, 0))) := FA.out.keep _ _ X1.out trivial
  clear v3
  obtain ⟨Wf, hWf⟩ : ∃ Y, WA = Y := ⟨_, rfl⟩
  rw [hWf]
  have F3 : Hid (Fr (fun c _ => c ≠ b) WA Wf) := hWf ▸ Fr.refl _ WA
  have H3' : Hid (PNs X P Wf b n q) := hWf ▸ HA.out
  clear hWf
  obtain ⟨n1, hn1⟩ : ∃ x, n = x := ⟨_, rfl⟩
  obtain ⟨q1, hq1⟩ : ∃ x, q = x := ⟨_, rfl⟩
  have HLG : Hid (n1.log = n.log ∧ n1.me = n.me ∧ n1.conf = n.conf ∧ n1.yes.length ≤ 900000 ∧ n1.tm + 1 < 18446744073709551616) := by rw [← hn1]; exact ⟨rfl, rfl, rfl, hy, htm⟩
  have H3 : Hid (PNs X P Wf b n1 q1) := by rw [← hn1, ← hq1]; exact H3'.out
  have HN1 : Hid ((if n.tm < m.tm ∧ (m.ok = false ∨ m.kind = 2) then n.follow m.tm (-1) else n) = n1) := by rw [← hn1]; exact if_neg (fun e => HF0.out e.1)
  clear hn1 hq1 H3'
  have Tf : Hid (Wf.heap[g0]? = some (.cells (cM m) 74 (0, 0))) := F3.out.keep _ _ TA.out gb.out
  have AFf : Hid (Aft X P X P w Wf) := .of ((F1.out.trans FA.out).mono (fun _ _ _ => trivial) |>.trans (F3.out.mono fun c _ hc e => hc (e ▸ H.out.pb))) H.out.px
  obtain ⟨ct, hct⟩ : ∃ x, n1.counts m.ms = x := ⟨_, rfl⟩
  have CO := Lib.hid (counts_calls H3.out m (by have := HLG.out.2.2.1; rw [this]; exact hcf.2) (by have := HLG.out.2.2.2.1; omega) HLG.out.2.2.2.2)
  rw [hct] at CO
  have HCT := Lib.hid hct
  have EQ : Hid (n.onAnswer m.ms = if n1.counts m.ms then (let n2 : Nd := { n1 with yes := n1.yes ++ [m.src] }; if agrI n2.conf n2.yes then n2.chosen else (n2, [])) else (n1, [])) := by
    refine (if_pos (show m.kind = 2 ∨ m.kind = 4 from by have := HK1.out; omega)).trans ?_
    show (let n1 : Nd := if n.tm < m.tm ∧ (m.ok = false ∨ m.kind = 2) then n.follow m.tm (-1) else n
      if n1.counts m.ms then (let n2 : Nd := { n1 with yes := n1.yes ++ [m.src] }; if agrI n2.conf n2.yes then n2.chosen else (n2, [])) else (n1, [])) = _
    rw [HN1.out]
  clear hct F1 FA F3 HN1 HF0 HA TA
  obtain ⟨v0, v1, v2, v3, v4, v5, v6, v7, v8, v9⟩ := mcells Tf.out
  dsimp only [cM] at CO
  go_wp2_with fail
  (with_reducible refine CO.out.mono ?_)
  rintro e Wc ⟨rfl, fc⟩
  have FC := Lib.hid fc
  have Hc := Lib.hid (H3.out.tt fc)
  have Tc : Hid (Wc.heap[g0]? = some (.cells (cM m) 74 (0, 0))) := fc.keep _ _ Tf.out trivial
  have AFc := Lib.hid (AFf.out.tr fc)
  clear fc CO v0 v1 v2 v3 v4 v5 v6 v7 v8 v9
  cases ct with
  | false =>
    go_wp2
    go_ret
    rw [EQ.out, HCT.out]
    exact ⟨X, P, q1, _, [], rfl, Hc.out, AFc.out, OwnMs.nil _ _ _, rfl⟩
  | true =>
    replace EQ : Hid (n.onAnswer m.ms = (let n2 : Nd := { n1 with yes := n1.yes ++ [m.src] }; if agrI n2.conf n2.yes then n2.chosen else (n2, []))) := EQ.out.trans (by rw [HCT.out]; rfl)
    obtain ⟨vy, hvy⟩ : ∃ x, q1.vy = x := ⟨_, rfl⟩
    obtain ⟨s, hs⟩ : ∃ x, m.src = x := ⟨_, rfl⟩
    have HVY := Lib.hid hvy
    have HS := Lib.hid hs
    have CC : Hid (∀ W, Fr (fun _ _ => True) Wc W → W.cell? ⟨b, 5, none⟩ = some vy ∧ W.cell? ⟨g0, 1, none⟩ = some (.int .i64 s)) := fun W f => by
      exact ⟨by rw [(Hc.out.cells f).2.2.2.2.2.1, hvy], by rw [(mcells (f.keep _ _ Tc.out trivial)).2.1, hs]⟩
    clear hvy hs
    have UD : Hid (Fr (fun _ _ => True) Wc Wc.drew) := (Fr.refl _ _).drew
    go_wp2_with fail
    refine wp_region_cf1 (K := fun _ _ => True) (vt := .pointer (some ⟨b, 0, none⟩)) 0 rfl (by kernel_rfl) (by kernel_rfl) (by kernel_rfl) (fun _ _ _ h => h) (Or.inl ⟨by rfl, ?cfy⟩) (by kernel_rfl) [(38, 0), (39, 1), (40, 2), (41, 3), (42, 4), (43, 5), (44, 6), (45, 7), (46, 8), (47, 9), (48, 10)] [(0, []), (1, []), (2, [1]), (3, [2]), (4, [3]), (5, []), (6, [5]), (7, [6])] (ckR [(0, .pointer (some ⟨b, 0, none⟩)), (1, .pointer (some ⟨b, 0, none⟩)), (2, .pointer (some ⟨b, 0, none⟩)), (3, .pointer (some ⟨b, 5, none⟩)), (4, vy), (5, .pointer (some ⟨g0, 1, none⟩)), (6, .int .i64 s)] [(7, ⟨fun v W => ∃ g, v = .slice (some ⟨g, 0, none⟩) 1 1 ∧ W.heap[g]? = some (.cells #[.int .i64 s] 3 (0, 0)) ∧ Wc.heap.size ≤ g, fun v W W' h hf => by obtain ⟨g, h1, h2, h3⟩ := h; exact ⟨g, h1, hf.keep _ _ h2 trivial, h3⟩⟩)] 8 0) 4 (by kernel_rfl) (by kernel_rfl) (by kernel_rfl) rfl (fun _ => rfl) (by rfl) 38 rfl (by simp) ?cfall ?cfend
    case cfy => (intro w; (try simp only [gA, gB, gC]); go_simp)
    case cfall =>
      iterate 7
        refine CfAll.kk rfl rfl rfl (fun xs W hF hE K' hK => ?_) ?_
        · have HF := Lib.hid hF
          clear hF
          simp only [ckEqs, ckLook, Nat.reduceBEq] at hE
          simp only [fillA, fillL, sA, sB, sC, Act.put, hE] at hK ⊢
          clear hE
          obtain ⟨y5, v1⟩ := CC.out W (UD.out.trans HF.out)
          (try simp only [gA, gB, gC])
          go_simp
          exact hK.out _ rfl
      refine CfAll.k rfl rfl (fun xs W hF hA hE K' hK => ?_) ?_
      · have HF := Lib.hid hF
        clear hA hF
        simp only [ckEqs, ckLook, Nat.reduceBEq] at hE
        simp only [fillA, fillL, sA, sB, sC, Act.put, hE] at hK ⊢
        clear hE
        have SB : Hid (Wc.heap.size ≤ W.heap.size) := (UD.out.trans HF.out).size
        (try simp only [gA, gB, gC])
        go_simp
        exact hK.out _ _ _ rfl ((Fr.refl _ _).alloc _) ⟨_, rfl, heap_alloc_new _ _, SB.out⟩
      exact CfAll.nil
    case cfend =>
      intro xs W hF hA
      have HF := Lib.hid hF
      have hE := ckEnd rfl hA
      have h7 := hA (7, [6]) (by decide)
      clear hA hF
      simp only [List.map_cons, List.map_nil, ckEqs, ckLook, Nat.reduceBEq] at hE
      simp only [fillA, fillL, sA, sB, sC, hE]
      clear hE
      obtain ⟨g1, e7, tg, hg1⟩ := h7
      rw [e7]
      have FW := Lib.hid (UD.out.trans HF.out)
      have HW := Lib.hid (Hc.out.tt FW.out)
      have HOWN : Hid (RowI W 0 vy n1.yes) := by show RowI _ _ _ _; rw [← HVY.out]; exact HW.out.ye
      have TG := Lib.hid tg
      have ny : Hid (vy.ownBlock ≠ some b) := by show _ ≠ _; rw [← HVY.out]; intro e; exact (HW.out.yb _ e).1 rfl
      have HL1 : Hid (n1.yes.length + 1 ≤ 1000000) := by have := HLG.out.2.2.2.1; show _ ≤ _; omega
      clear tg hg1 UD CC
      refine wpAny_next 8 (by kernel_rfl) rfl fun K' hK => ?_
      (try simp only [List.getElem_toArray, List.getElem_cons_zero, List.getElem_cons_succ])
      refine (iteInduction (motive := fun t => t) (fun _ => ?_) (fun hn => absurd rfl hn))
      with_reducible refine step_append_yes (K := fun a w => K' a w) W (.tmp 42) (.tmp 45) ?h1 vy n1.yes ?h2 HOWN g1 s ?h3 TG HL1.out ?_
      case h1 => rfl
      case h2 => (simp [Act.eval, Act.put, fillA, fillL]; done)
      case h3 => (simp [Act.eval, Act.put, fillA, fillL]; done)
      obtain ⟨N, hN⟩ : ∃ x, n1.yes.length + 1 = x := ⟨_, rfl⟩
      rw [hN]
      intro gy cy Wy HRY HFY HON
      have HN := Lib.hid hN
      clear hN
      refine hK.out _ _ ?_
      clear hK K'
      have Ty : Hid (Wy.heap[b]? = some (.cells (W14 n1 q1) 39 (0, 0))) := HFY.out.keep _ _ HW.out.top ny.out
      have y5 : Wy.cell? ⟨b, 5, none⟩ = some vy := by rw [← HVY.out]; exact cell_mk Ty.out rfl
      have z5 := frozen_mk (i := 5) Ty.out
      obtain ⟨Wz, hWz⟩ : ∃ Y, Wy.setCell ⟨b, 5, none⟩ (.slice gy N cy) = Y := ⟨_, rfl⟩
      obtain ⟨v2, hv2⟩ : ∃ x, Value.slice gy N cy = x := ⟨_, rfl⟩
      obtain ⟨G, eG⟩ : ∃ G, v2.ownBlock = some G := by
        rcases HRY.out.2 with ⟨_, e⟩ | ⟨g, c, cur, e, hb, r⟩
        · exact absurd e (by simp)
        · rw [hv2] at e
          rw [e]
          exact ⟨g, rfl⟩
      have fz : Fr (fun c _ => c ≠ b) Wy Wz := hWz ▸ (Fr.refl _ _).setCell (fun _ _ h => h rfl) _
      have bW : b < W.heap.size := lt_of_some HW.out.top
      obtain ⟨n2, hn2⟩ : ∃ x : Nd, { n1 with yes := n1.yes ++ [s] } = x := ⟨_, rfl⟩
      obtain ⟨q2, hq2⟩ : ∃ x : NV, { q1 with vy := v2 } = x := ⟨_, rfl⟩
      have HY := Hc.out.reYo (w' := Wz) (n' := { n1 with yes := n1.yes ++ [s] }) (q' := { q1 with vy := v2 }) ((FW.out.mono fun _ _ _ => trivial).trans ((HFY.out.mono fun c _ h e => h.2 (by rw [HVY.out]; exact e)).trans (fz.mono fun c _ h => h.1)))
        (by rw [← hWz, ← hv2]; exact heap_setCell_same (o := 5) Ty.out _) ⟨rfl, rfl⟩ ⟨rfl, rfl, rfl⟩ ⟨rfl, rfl, rfl, rfl⟩ G (by rw [← hv2]; exact ownsRow_fr HRY.out fz fun c o e _ h => (HON.out.ne ny.out bW) (h ▸ e)) eG
        (by
          rcases HON.out with e | ⟨k, e, hk⟩
          · rw [hv2, eG] at e; rw [HVY.out]; exact .inl e.symm
          · rw [hv2, eG] at e; cases e; exact .inr (Nat.le_trans FW.out.size hk))
      rw [hn2, hq2] at HY
      have H5 := Lib.hid HY.1
      have A5 := Lib.hid (AFc.out.trans HY.2)
      clear HY fz
      obtain ⟨X1', hX1⟩ : ∃ Z : Nat → Prop, (fun c => X c ∨ c = G) = Z := ⟨_, rfl⟩
      obtain ⟨P1', hP1⟩ : ∃ Z : Nat → Prop, (fun c => P c ∨ c = G) = Z := ⟨_, rfl⟩
      rw [hX1, hP1] at H5 A5
      obtain ⟨vc, hvc⟩ : ∃ x, q1.vc = x := ⟨_, rfl⟩
      have hq4 : n2.conf = n.conf ∧ q2.vc = vc ∧ n2.yes = n1.yes ++ [s] ∧ q2.vy = v2 ∧ n2.me = n.me ∧ n2.log = n.log ∧ n2.tm = n1.tm := by rw [← hn2, ← hq2]; exact ⟨HLG.out.2.2.1, hvc, rfl, rfl, HLG.out.2.1, HLG.out.1, rfl⟩
      have AG := Lib.hid (fun k => (agrees_calls (Wz.drewN k) q2.vc q2.vy n2.conf n2.yes (H5.out.cf.tt ((Fr.refl _ Wz).drewN k)) (H5.out.ye.ints.tt ((Fr.refl _ Wz).drewN k)) (by rw [hq4.1]; have := hcf.2; unfold maxLen; omega) (by rw [hq4.2.2.1, List.length_append]; have := HL1.out; unfold maxLen; simp only [List.length_cons, List.length_nil]; omega)).mono fun e w' ⟨h1, h2⟩ => And.intro h1 h2.symm)
      have CHL : Hid (∀ k, Calls Try.prog 37 #[.pointer (some ⟨b, 0, none⟩)] (Wz.drewN k) fun e w' => NOut X1' P1' (Wz.drewN k) b n2.chosen e w') := fun k =>
        chosen_calls (H5.out.tt ((Fr.refl _ Wz).drewN k)) (by rw [hq4.1]; exact hcf) mN (by rw [hq4.2.2.2.2.1]; exact hme) hm16 (by rw [hq4.2.2.2.2.2.2]; exact HLG.out.2.2.2.2) (by rw [hq4.2.2.2.2.2.1]; exact hl) (by rw [hq4.2.2.2.2.2.1]; exact hle)
      have f4 : Wz.cell? ⟨b, 4, none⟩ = some vc := by rw [(H5.out.cells (Fr.refl _ Wz)).2.2.2.2.1, hq4.2.1]
      have f5 : Wz.cell? ⟨b, 5, none⟩ = some v2 := by rw [(H5.out.cells (Fr.refl _ Wz)).2.2.2.2.2.1, hq4.2.2.2.1]
      rw [hq4.2.1, hq4.2.2.2.1] at AG
      obtain ⟨ag, hag⟩ : ∃ x, agrI n2.conf n2.yes = x := ⟨_, rfl⟩
      rw [hag] at AG
      have EQ2 : Hid (n.onAnswer m.ms = if ag = true then n2.chosen else (n2, [])) := by
        refine EQ.out.trans ?_
        rw [← hag, ← hn2, HS.out]
      have HV2 := Lib.hid hv2
      clear hq4 hag hn2 hq2 hX1 hP1 hvc EQ
      clear hv2
      refine wpAny_next 9 (by kernel_rfl) rfl fun K' hK => ?_
      (try simp only [gA, gB, gC])
      go_simp
      refine hK.out _ _ ?_
      clear hK K'
      refine wpAny_next 10 (by kernel_rfl) rfl fun K' hK => ?_
      (try simp only [gA, gB, gC])
      go_simp
      refine hK.out _ _ ?_
      clear hK K'
      refine wpAny_next 11 (by kernel_rfl) rfl fun K' hK => ?_
      (try simp only [gA, gB, gC])
      go_simp
      refine hK.out _ _ ?_
      clear hK K'
      refine wpAny_fin (by kernel_rfl) ?_
      try rw [hWz]
      clear y5 z5 hWz
      go_wp2_with fail
      go_quiet ((go_at_call 36; exact Calls.quiet_of_same (AG.out _)))
      have U5 : Hid (Fr (fun _ _ => True) Wz (Wz.drewN nq)) := (Fr.refl _ Wz).drewN nq
      clear AG f4 f5
      cases ag with
      | true =>
        have CHO := Lib.hid (CHL.out nq)
        have OUT : Hid (n.onAnswer m.ms = n2.chosen) := EQ2.out.trans (if_pos rfl)
        clear CHL EQ2
        go_wp2_with fail
        (with_reducible refine CHO.out.mono ?_)
        intro e w9 ho
        replace ho := ho.behind (A5.out.tr U5.out)
        obtain ⟨X', P', q', v, mvs, rfl, h2, h3, h4, h5⟩ := ho
        have HH := Lib.hid (And.intro h2 (And.intro h3 (And.intro h4 h5)))
        clear h2 h3 h4 h5 CHO
        go_wp2
        go_ret
        rw [OUT.out]
        exact ⟨X', P', q', _, mvs, rfl, HH.out.1, HH.out.2.1, HH.out.2.2.1, HH.out.2.2.2⟩
      | false =>
        have OUT : Hid (n.onAnswer m.ms = (n2, [])) := EQ2.out.trans (if_neg (by decide))
        clear CHL EQ2
        go_wp2
        go_ret
        rw [OUT.out]
        exact ⟨X1', P1', q2, _, [], rfl, H5.out.tt U5.out, A5.out.tr U5.out, OwnMs.nil _ _ _, rfl⟩
end
end Go.Proofs.Ytmjccpfchhnfhaa
/- elect: OnAnswer (printed by onans2.py). -/
namespace Go.Proofs.Ytmjccpfchhnfhaa
open Go.RowKit
set_option linter.unusedVariables false
set_option linter.unusedSimpArgs false

section
variable {X P : Nat → Prop} {w w' : World} {b : Nat} {n n' : Nd} {q q' : NV}
set_option maxRecDepth 100000 in
set_option maxHeartbeats 8000000 in
theorem onAnswer4f_calls (h : PNs X P w b n q) (m : MV) (hk1 : m.kind = 4) (hf : ¬ n.tm < m.tm) (hcf : 0 < n.conf.length ∧ n.conf.length ≤ 1000) (hy : n.yes.length ≤ 900000) (mN : Nat) (hme : n.me = (mN : Nat)) (hm16 : mN < 16) (htm : n.tm + 1 < 18446744073709551616) (htm2 : m.tm + 1 < 18446744073709551616) (hl : n.log.last + 1 < 18446744073709551616) (hle : n.log.es.length ≤ 900000) :
    Calls Try.prog 47 #[.pointer (some ⟨b, 0, none⟩), .agg (cM m)] w fun e w' => NOut X P w b (n.onAnswer m.ms) e w' := by
  obtain ⟨W1, hW1, F1, X1⟩ := mbox w m
  obtain ⟨g0, hg0⟩ : ∃ x, w.heap.size = x := ⟨_, rfl⟩
  rw [hg0] at X1
  have H := Lib.hid h
  have HG0 := Lib.hid hg0
  obtain ⟨k, hk⟩ : ∃ x, m.kind = x := ⟨_, rfl⟩
  obtain ⟨mo, hmo⟩ : ∃ x, m.ok = x := ⟨_, rfl⟩
  have HK := Lib.hid hk
  have HMO := Lib.hid hmo
  have gb : Hid (g0 ≠ b) := by have := lt_of_some h.top; show _ ≠ _; omega
  have v0 : W1.cell? ⟨g0, 0, none⟩ = some (.int .i64 k) := by rw [← hk]; exact (mcells X1.out).1
  unfold cM at hW1 ⊢
  have HK1 := Lib.hid hk1
  have HF0 := Lib.hid hf
  have gl : decide (n.tm < m.tm) = false := decide_eq_false hf
  obtain rfl : k = 4 := by rw [← hk]; exact hk1
  have v3 := (mcells X1.out).2.2.2.1
  have y6 := (h.cells F1.out).2.2.2.2.2.2.1
  clear hk1 hf
  clear h hk hmo
  go_enter Try.func47, Try.ntmps47
  go_wp2_with fail
  try rw [hW1]
  try rw [HG0.out]
  clear hW1 hg0
  go_quiet (fail)
  clear v0 y6 gl 
  have FA : Hid (Fr (fun _ _ => True) W1 (W1.drewN nq)) := (Fr.refl _ W1).drewN nq
  generalize W1.drewN nq = WA at FA ⊢
  have HA := Lib.hid ((H.out.tt F1.out).tt FA.out)
  have TA : Hid (WA.heap[g0]? = some (.cells (cM m) 74 (0, 0))) := FA.out.keep _ _ X1.out trivial
  clear v3
  obtain ⟨Wf, hWf⟩ : ∃ Y, WA = Y := ⟨_, rfl⟩
  rw [hWf]
  have F3 : Hid (Fr (fun c _ => c ≠ b) WA Wf) := hWf ▸ Fr.refl _ WA
  have H3' : Hid (PNs X P Wf b n q) := hWf ▸ HA.out
  clear hWf
  obtain ⟨n1, hn1⟩ : ∃ x, n = x := ⟨_, rfl⟩
  obtain ⟨q1, hq1⟩ : ∃ x, q = x := ⟨_, rfl⟩
  have HLG : Hid (n1.log = n.log ∧ n1.me = n.me ∧ n1.conf = n.conf ∧ n1.yes.length ≤ 900000 ∧ n1.tm + 1 < 18446744073709551616) := by rw [← hn1]; exact ⟨rfl, rfl, rfl, hy, htm⟩
  have H3 : Hid (PNs X P Wf b n1 q1) := by rw [← hn1, ← hq1]; exact H3'.out
  have HN1 : Hid ((if n.tm < m.tm ∧ (m.ok = false ∨ m.kind = 2) then n.follow m.tm (-1) else n) = n1) := by rw [← hn1]; exact if_neg (fun e => HF0.out e.1)
  clear hn1 hq1 H3'
  have Tf : Hid (Wf.heap[g0]? = some (.cells (cM m) 74 (0, 0))) := F3.out.keep _ _ TA.out gb.out
  have AFf : Hid (Aft X P X P w Wf) := .of ((F1.out.trans FA.out).mono (fun _ _ _ => trivial) |>.trans (F3.out.mono fun c _ hc e => hc (e ▸ H.out.pb))) H.out.px
  obtain ⟨ct, hct⟩ : ∃ x, n1.counts m.ms = x := ⟨_, rfl⟩
  have CO := Lib.hid (counts_calls H3.out m (by have := HLG.out.2.2.1; rw [this]; exact hcf.2) (by have := HLG.out.2.2.2.1; omega) HLG.out.2.2.2.2)
  rw [hct] at CO
  have HCT := Lib.hid hct
  have EQ : Hid (n.onAnswer m.ms = if n1.counts m.ms then (let n2 : Nd := { n1 with yes := n1.yes ++ [m.src] }; if agrI n2.conf n2.yes then n2.chosen else (n2, [])) else (n1, [])) := by
    refine (if_pos (show m.kind = 2 ∨ m.kind = 4 from by have := HK1.out; omega)).trans ?_
    show (let n1 : Nd := if n.tm < m.tm ∧ (m.ok = false ∨ m.kind = 2) then n.follow m.tm (-1) else n
      if n1.counts m.ms then (let n2 : Nd := { n1 with yes := n1.yes ++ [m.src] }; if agrI n2.conf n2.yes then n2.chosen else (n2, [])) else (n1, [])) = _
    rw [HN1.out]
  clear hct F1 FA F3 HN1 HF0 HA TA
  obtain ⟨v0, v1, v2, v3, v4, v5, v6, v7, v8, v9⟩ := mcells Tf.out
  dsimp only [cM] at CO
  go_wp2_with fail
  (with_reducible refine CO.out.mono ?_)
  rintro e Wc ⟨rfl, fc⟩
  have FC := Lib.hid fc
  have Hc := Lib.hid (H3.out.tt fc)
  have Tc : Hid (Wc.heap[g0]? = some (.cells (cM m) 74 (0, 0))) := fc.keep _ _ Tf.out trivial
  have AFc := Lib.hid (AFf.out.tr fc)
  clear fc CO v0 v1 v2 v3 v4 v5 v6 v7 v8 v9
  cases ct with
  | false =>
    go_wp2
    go_ret
    rw [EQ.out, HCT.out]
    exact ⟨X, P, q1, _, [], rfl, Hc.out, AFc.out, OwnMs.nil _ _ _, rfl⟩
  | true =>
    replace EQ : Hid (n.onAnswer m.ms = (let n2 : Nd := { n1 with yes := n1.yes ++ [m.src] }; if agrI n2.conf n2.yes then n2.chosen else (n2, []))) := EQ.out.trans (by rw [HCT.out]; rfl)
    obtain ⟨vy, hvy⟩ : ∃ x, q1.vy = x := ⟨_, rfl⟩
    obtain ⟨s, hs⟩ : ∃ x, m.src = x := ⟨_, rfl⟩
    have HVY := Lib.hid hvy
    have HS := Lib.hid hs
    have CC : Hid (∀ W, Fr (fun _ _ => True) Wc W → W.cell? ⟨b, 5, none⟩ = some vy ∧ W.cell? ⟨g0, 1, none⟩ = some (.int .i64 s)) := fun W f => by
      exact ⟨by rw [(Hc.out.cells f).2.2.2.2.2.1, hvy], by rw [(mcells (f.keep _ _ Tc.out trivial)).2.1, hs]⟩
    clear hvy hs
    have UD : Hid (Fr (fun _ _ => True) Wc Wc.drew) := (Fr.refl _ _).drew
    go_wp2_with fail
    refine wp_region_cf1 (K := fun _ _ => True) (vt := .pointer (some ⟨b, 0, none⟩)) 0 rfl (by kernel_rfl) (by kernel_rfl) (by kernel_rfl) (fun _ _ _ h => h) (Or.inl ⟨by rfl, ?cfy⟩) (by kernel_rfl) [(38, 0), (39, 1), (40, 2), (41, 3), (42, 4), (43, 5), (44, 6), (45, 7), (46, 8), (47, 9), (48, 10)] [(0, []), (1, []), (2, [1]), (3, [2]), (4, [3]), (5, []), (6, [5]), (7, [6])] (ckR [(0, .pointer (some ⟨b, 0, none⟩)), (1, .pointer (some ⟨b, 0, none⟩)), (2, .pointer (some ⟨b, 0, none⟩)), (3, .pointer (some ⟨b, 5, none⟩)), (4, vy), (5, .pointer (some ⟨g0, 1, none⟩)), (6, .int .i64 s)] [(7, ⟨fun v W => ∃ g, v = .slice (some ⟨g, 0, none⟩) 1 1 ∧ W.heap[g]? = some (.cells #[.int .i64 s] 3 (0, 0)) ∧ Wc.heap.size ≤ g, fun v W W' h hf => by obtain ⟨g, h1, h2, h3⟩ := h; exact ⟨g, h1, hf.keep _ _ h2 trivial, h3⟩⟩)] 8 0) 4 (by kernel_rfl) (by kernel_rfl) (by kernel_rfl) rfl (fun _ => rfl) (by rfl) 38 rfl (by simp) ?cfall ?cfend
    case cfy => (intro w; (try simp only [gA, gB, gC]); go_simp)
    case cfall =>
      iterate 7
        refine CfAll.kk rfl rfl rfl (fun xs W hF hE K' hK => ?_) ?_
        · have HF := Lib.hid hF
          clear hF
          simp only [ckEqs, ckLook, Nat.reduceBEq] at hE
          simp only [fillA, fillL, sA, sB, sC, Act.put, hE] at hK ⊢
          clear hE
          obtain ⟨y5, v1⟩ := CC.out W (UD.out.trans HF.out)
          (try simp only [gA, gB, gC])
          go_simp
          exact hK.out _ rfl
      refine CfAll.k rfl rfl (fun xs W hF hA hE K' hK => ?_) ?_
      · have HF := Lib.hid hF
        clear hA hF
        simp only [ckEqs, ckLook, Nat.reduceBEq] at hE
        simp only [fillA, fillL, sA, sB, sC, Act.put, hE] at hK ⊢
        clear hE
        have SB : Hid (Wc.heap.size ≤ W.heap.size) := (UD.out.trans HF.out).size
        (try simp only [gA, gB, gC])
        go_simp
        exact hK.out _ _ _ rfl ((Fr.refl _ _).alloc _) ⟨_, rfl, heap_alloc_new _ _, SB.out⟩
      exact CfAll.nil
    case cfend =>
      intro xs W hF hA
      have HF := Lib.hid hF
      have hE := ckEnd rfl hA
      have h7 := hA (7, [6]) (by decide)
      clear hA hF
      simp only [List.map_cons, List.map_nil, ckEqs, ckLook, Nat.reduceBEq] at hE
      simp only [fillA, fillL, sA, sB, sC, hE]
      clear hE
      obtain ⟨g1, e7, tg, hg1⟩ := h7
      rw [e7]
      have FW := Lib.hid (UD.out.trans HF.out)
      have HW := Lib.hid (Hc.out.tt FW.out)
      have HOWN : Hid (RowI W 0 vy n1.yes) := by show RowI _ _ _ _; rw [← HVY.out]; exact HW.out.ye
      have TG := Lib.hid tg
      have ny : Hid (vy.ownBlock ≠ some b) := by show _ ≠ _; rw [← HVY.out]; intro e; exact (HW.out.yb _ e).1 rfl
      have HL1 : Hid (n1.yes.length + 1 ≤ 1000000) := by have := HLG.out.2.2.2.1; show _ ≤ _; omega
      clear tg hg1 UD CC
      refine wpAny_next 8 (by kernel_rfl) rfl fun K' hK => ?_
      (try simp only [List.getElem_toArray, List.getElem_cons_zero, List.getElem_cons_succ])
      refine (iteInduction (motive := fun t => t) (fun _ => ?_) (fun hn => absurd rfl hn))
      with_reducible refine step_append_yes (K := fun a w => K' a w) W (.tmp 42) (.tmp 45) ?h1 vy n1.yes ?h2 HOWN g1 s ?h3 TG HL1.out ?_
      case h1 => rfl
      case h2 => (simp [Act.eval, Act.put, fillA, fillL]; done)
      case h3 => (simp [Act.eval, Act.put, fillA, fillL]; done)
      obtain ⟨N, hN⟩ : ∃ x, n1.yes.length + 1 = x := ⟨_, rfl⟩
      rw [hN]
      intro gy cy Wy HRY HFY HON
      have HN := Lib.hid hN
      clear hN
      refine hK.out _ _ ?_
      clear hK K'
      have Ty : Hid (Wy.heap[b]? = some (.cells (W14 n1 q1) 39 (0, 0))) := HFY.out.keep _ _ HW.out.top ny.out
      have y5 : Wy.cell? ⟨b, 5, none⟩ = some vy := by rw [← HVY.out]; exact cell_mk Ty.out rfl
      have z5 := frozen_mk (i := 5) Ty.out
      obtain ⟨Wz, hWz⟩ : ∃ Y, Wy.setCell ⟨b, 5, none⟩ (.slice gy N cy) = Y := ⟨_, rfl⟩
      obtain ⟨v2, hv2⟩ : ∃ x, Value.slice gy N cy = x := ⟨_, rfl⟩
      obtain ⟨G, eG⟩ : ∃ G, v2.ownBlock = some G := by
        rcases HRY.out.2 with ⟨_, e⟩ | ⟨g, c, cur, e, hb, r⟩
        · exact absurd e (by simp)
        · rw [hv2] at e
          rw [e]
          exact ⟨g, rfl⟩
      have fz : Fr (fun c _ => c ≠ b) Wy Wz := hWz ▸ (Fr.refl _ _).setCell (fun _ _ h => h rfl) _
      have bW : b < W.heap.size := lt_of_some HW.out.top
      obtain ⟨n2, hn2⟩ : ∃ x : Nd, { n1 with yes := n1.yes ++ [s] } = x := ⟨_, rfl⟩
      obtain ⟨q2, hq2⟩ : ∃ x : NV, { q1 with vy := v2 } = x := ⟨_, rfl⟩
      have HY := Hc.out.reYo (w' := Wz) (n' := { n1 with yes := n1.yes ++ [s] }) (q' := { q1 with vy := v2 }) ((FW.out.mono fun _ _ _ => trivial).trans ((HFY.out.mono fun c _ h e => h.2 (by rw [HVY.out]; exact e)).trans (fz.mono fun c _ h => h.1)))
        (by rw [← hWz, ← hv2]; exact heap_setCell_same (o := 5) Ty.out _) ⟨rfl, rfl⟩ ⟨rfl, rfl, rfl⟩ ⟨rfl, rfl, rfl, rfl⟩ G (by rw [← hv2]; exact ownsRow_fr HRY.out fz fun c o e _ h => (HON.out.ne ny.out bW) (h ▸ e)) eG
        (by
          rcases HON.out with e | ⟨k, e, hk⟩
          · rw [hv2, eG] at e; rw [HVY.out]; exact .inl e.symm
          · rw [hv2, eG] at e; cases e; exact .inr (Nat.le_trans FW.out.size hk))
      rw [hn2, hq2] at HY
      have H5 := Lib.hid HY.1
      have A5 := Lib.hid (AFc.out.trans HY.2)
      clear HY fz
      obtain ⟨X1', hX1⟩ : ∃ Z : Nat → Prop, (fun c => X c ∨ c = G) = Z := ⟨_, rfl⟩
      obtain ⟨P1', hP1⟩ : ∃ Z : Nat → Prop, (fun c => P c ∨ c = G) = Z := ⟨_, rfl⟩
      rw [hX1, hP1] at H5 A5
      obtain ⟨vc, hvc⟩ : ∃ x, q1.vc = x := ⟨_, rfl⟩
      have hq4 : n2.conf = n.conf ∧ q2.vc = vc ∧ n2.yes = n1.yes ++ [s] ∧ q2.vy = v2 ∧ n2.me = n.me ∧ n2.log = n.log ∧ n2.tm = n1.tm := by rw [← hn2, ← hq2]; exact ⟨HLG.out.2.2.1, hvc, rfl, rfl, HLG.out.2.1, HLG.out.1, rfl⟩
      have AG := Lib.hid (fun k => (agrees_calls (Wz.drewN k) q2.vc q2.vy n2.conf n2.yes (H5.out.cf.tt ((Fr.refl _ Wz).drewN k)) (H5.out.ye.ints.tt ((Fr.refl _ Wz).drewN k)) (by rw [hq4.1]; have := hcf.2; unfold maxLen; omega) (by rw [hq4.2.2.1, List.length_append]; have := HL1.out; unfold maxLen; simp only [List.length_cons, List.length_nil]; omega)).mono fun e w' ⟨h1, h2⟩ => And.intro h1 h2.symm)
      have CHL : Hid (∀ k, Calls Try.prog 37 #[.pointer (some ⟨b, 0, none⟩)] (Wz.drewN k) fun e w' => NOut X1' P1' (Wz.drewN k) b n2.chosen e w') := fun k =>
        chosen_calls (H5.out.tt ((Fr.refl _ Wz).drewN k)) (by rw [hq4.1]; exact hcf) mN (by rw [hq4.2.2.2.2.1]; exact hme) hm16 (by rw [hq4.2.2.2.2.2.2]; exact HLG.out.2.2.2.2) (by rw [hq4.2.2.2.2.2.1]; exact hl) (by rw [hq4.2.2.2.2.2.1]; exact hle)
      have f4 : Wz.cell? ⟨b, 4, none⟩ = some vc := by rw [(H5.out.cells (Fr.refl _ Wz)).2.2.2.2.1, hq4.2.1]
      have f5 : Wz.cell? ⟨b, 5, none⟩ = some v2 := by rw [(H5.out.cells (Fr.refl _ Wz)).2.2.2.2.2.1, hq4.2.2.2.1]
      rw [hq4.2.1, hq4.2.2.2.1] at AG
      obtain ⟨ag, hag⟩ : ∃ x, agrI n2.conf n2.yes = x := ⟨_, rfl⟩
      rw [hag] at AG
      have EQ2 : Hid (n.onAnswer m.ms = if ag = true then n2.chosen else (n2, [])) := by
        refine EQ.out.trans ?_
        rw [← hag, ← hn2, HS.out]
      have HV2 := Lib.hid hv2
      clear hq4 hag hn2 hq2 hX1 hP1 hvc EQ
      clear hv2
      refine wpAny_next 9 (by kernel_rfl) rfl fun K' hK => ?_
      (try simp only [gA, gB, gC])
      go_simp
      refine hK.out _ _ ?_
      clear hK K'
      refine wpAny_next 10 (by kernel_rfl) rfl fun K' hK => ?_
      (try simp only [gA, gB, gC])
      go_simp
      refine hK.out _ _ ?_
      clear hK K'
      refine wpAny_next 11 (by kernel_rfl) rfl fun K' hK => ?_
      (try simp only [gA, gB, gC])
      go_simp
      refine hK.out _ _ ?_
      clear hK K'
      refine wpAny_fin (by kernel_rfl) ?_
      try rw [hWz]
      clear y5 z5 hWz
      go_wp2_with fail
      go_quiet ((go_at_call 36; exact Calls.quiet_of_same (AG.out _)))
      have U5 : Hid (Fr (fun _ _ => True) Wz (Wz.drewN nq)) := (Fr.refl _ Wz).drewN nq
      clear AG f4 f5
      cases ag with
      | true =>
        have CHO := Lib.hid (CHL.out nq)
        have OUT : Hid (n.onAnswer m.ms = n2.chosen) := EQ2.out.trans (if_pos rfl)
        clear CHL EQ2
        go_wp2_with fail
        (with_reducible refine CHO.out.mono ?_)
        intro e w9 ho
        replace ho := ho.behind (A5.out.tr U5.out)
        obtain ⟨X', P', q', v, mvs, rfl, h2, h3, h4, h5⟩ := ho
        have HH := Lib.hid (And.intro h2 (And.intro h3 (And.intro h4 h5)))
        clear h2 h3 h4 h5 CHO
        go_wp2
        go_ret
        rw [OUT.out]
        exact ⟨X', P', q', _, mvs, rfl, HH.out.1, HH.out.2.1, HH.out.2.2.1, HH.out.2.2.2⟩
      | false =>
        have OUT : Hid (n.onAnswer m.ms = (n2, [])) := EQ2.out.trans (if_neg (by decide))
        clear CHL EQ2
        go_wp2
        go_ret
        rw [OUT.out]
        exact ⟨X1', P1', q2, _, [], rfl, H5.out.tt U5.out, A5.out.tr U5.out, OwnMs.nil _ _ _, rfl⟩
end
end Go.Proofs.Ytmjccpfchhnfhaa
/- elect: OnAnswer (printed by onans2.py). -/
namespace Go.Proofs.Ytmjccpfchhnfhaa
open Go.RowKit
set_option linter.unusedVariables false
set_option linter.unusedSimpArgs false

section
variable {X P : Nat → Prop} {w w' : World} {b : Nat} {n n' : Nd} {q q' : NV}
set_option maxRecDepth 100000 in
set_option maxHeartbeats 8000000 in
theorem onAnswer4ty_calls (h : PNs X P w b n q) (m : MV) (hk1 : m.kind = 4) (hf : n.tm < m.tm) (ho : m.ok = true) (hcf : 0 < n.conf.length ∧ n.conf.length ≤ 1000) (hy : n.yes.length ≤ 900000) (mN : Nat) (hme : n.me = (mN : Nat)) (hm16 : mN < 16) (htm : n.tm + 1 < 18446744073709551616) (htm2 : m.tm + 1 < 18446744073709551616) (hl : n.log.last + 1 < 18446744073709551616) (hle : n.log.es.length ≤ 900000) :
    Calls Try.prog 47 #[.pointer (some ⟨b, 0, none⟩), .agg (cM m)] w fun e w' => NOut X P w b (n.onAnswer m.ms) e w' := by
  obtain ⟨W1, hW1, F1, X1⟩ := mbox w m
  obtain ⟨g0, hg0⟩ : ∃ x, w.heap.size = x := ⟨_, rfl⟩
  rw [hg0] at X1
  have H := Lib.hid h
  have HG0 := Lib.hid hg0
  obtain ⟨k, hk⟩ : ∃ x, m.kind = x := ⟨_, rfl⟩
  obtain ⟨mo, hmo⟩ : ∃ x, m.ok = x := ⟨_, rfl⟩
  have HK := Lib.hid hk
  have HMO := Lib.hid hmo
  have gb : Hid (g0 ≠ b) := by have := lt_of_some h.top; show _ ≠ _; omega
  have v0 : W1.cell? ⟨g0, 0, none⟩ = some (.int .i64 k) := by rw [← hk]; exact (mcells X1.out).1
  unfold cM at hW1 ⊢
  have HK1 := Lib.hid hk1
  have HF0 := Lib.hid hf
  have gl : decide (n.tm < m.tm) = true := decide_eq_true hf
  obtain rfl : k = 4 := by rw [← hk]; exact hk1
  have HO0 := Lib.hid ho
  obtain rfl : mo = true := by rw [← hmo]; exact ho
  have v7 : W1.cell? ⟨g0, 7, none⟩ = some (.bool true) := by rw [← ho]; exact (mcells X1.out).2.2.2.2.2.2.2.1
  have v3 := (mcells X1.out).2.2.2.1
  have y6 := (h.cells F1.out).2.2.2.2.2.2.1
  clear hk1 hf ho
  clear h hk hmo
  go_enter Try.func47, Try.ntmps47
  go_wp2_with fail
  try rw [hW1]
  try rw [HG0.out]
  clear hW1 hg0
  go_quiet (fail)
  clear v0 y6 gl v7
  have FA : Hid (Fr (fun _ _ => True) W1 (W1.drewN nq)) := (Fr.refl _ W1).drewN nq
  generalize W1.drewN nq = WA at FA ⊢
  have HA := Lib.hid ((H.out.tt F1.out).tt FA.out)
  have TA : Hid (WA.heap[g0]? = some (.cells (cM m) 74 (0, 0))) := FA.out.keep _ _ X1.out trivial
  clear v3
  obtain ⟨Wf, hWf⟩ : ∃ Y, WA = Y := ⟨_, rfl⟩
  rw [hWf]
  have F3 : Hid (Fr (fun c _ => c ≠ b) WA Wf) := hWf ▸ Fr.refl _ WA
  have H3' : Hid (PNs X P Wf b n q) := hWf ▸ HA.out
  clear hWf
  obtain ⟨n1, hn1⟩ : ∃ x, n = x := ⟨_, rfl⟩
  obtain ⟨q1, hq1⟩ : ∃ x, q = x := ⟨_, rfl⟩
  have HLG : Hid (n1.log = n.log ∧ n1.me = n.me ∧ n1.conf = n.conf ∧ n1.yes.length ≤ 900000 ∧ n1.tm + 1 < 18446744073709551616) := by rw [← hn1]; exact ⟨rfl, rfl, rfl, hy, htm⟩
  have H3 : Hid (PNs X P Wf b n1 q1) := by rw [← hn1, ← hq1]; exact H3'.out
  have HN1 : Hid ((if n.tm < m.tm ∧ (m.ok = false ∨ m.kind = 2) then n.follow m.tm (-1) else n) = n1) := by rw [← hn1]; exact if_neg (fun e => e.2.elim (fun e2 => by rw [HO0.out] at e2; cases e2) (fun e2 => by have := HK1.out; omega))
  clear hn1 hq1 H3'
  have Tf : Hid (Wf.heap[g0]? = some (.cells (cM m) 74 (0, 0))) := F3.out.keep _ _ TA.out gb.out
  have AFf : Hid (Aft X P X P w Wf) := .of ((F1.out.trans FA.out).mono (fun _ _ _ => trivial) |>.trans (F3.out.mono fun c _ hc e => hc (e ▸ H.out.pb))) H.out.px
  obtain ⟨ct, hct⟩ : ∃ x, n1.counts m.ms = x := ⟨_, rfl⟩
  have CO := Lib.hid (counts_calls H3.out m (by have := HLG.out.2.2.1; rw [this]; exact hcf.2) (by have := HLG.out.2.2.2.1; omega) HLG.out.2.2.2.2)
  rw [hct] at CO
  have HCT := Lib.hid hct
  have EQ : Hid (n.onAnswer m.ms = if n1.counts m.ms then (let n2 : Nd := { n1 with yes := n1.yes ++ [m.src] }; if agrI n2.conf n2.yes then n2.chosen else (n2, [])) else (n1, [])) := by
    refine (if_pos (show m.kind = 2 ∨ m.kind = 4 from by have := HK1.out; omega)).trans ?_
    show (let n1 : Nd := if n.tm < m.tm ∧ (m.ok = false ∨ m.kind = 2) then n.follow m.tm (-1) else n
      if n1.counts m.ms then (let n2 : Nd := { n1 with yes := n1.yes ++ [m.src] }; if agrI n2.conf n2.yes then n2.chosen else (n2, [])) else (n1, [])) = _
    rw [HN1.out]
  clear hct F1 FA F3 HN1 HF0 HA TA
  obtain ⟨v0, v1, v2, v3, v4, v5, v6, v7, v8, v9⟩ := mcells Tf.out
  dsimp only [cM] at CO
  go_wp2_with fail
  (with_reducible refine CO.out.mono ?_)
  rintro e Wc ⟨rfl, fc⟩
  have FC := Lib.hid fc
  have Hc := Lib.hid (H3.out.tt fc)
  have Tc : Hid (Wc.heap[g0]? = some (.cells (cM m) 74 (0, 0))) := fc.keep _ _ Tf.out trivial
  have AFc := Lib.hid (AFf.out.tr fc)
  clear fc CO v0 v1 v2 v3 v4 v5 v6 v7 v8 v9
  cases ct with
  | false =>
    go_wp2
    go_ret
    rw [EQ.out, HCT.out]
    exact ⟨X, P, q1, _, [], rfl, Hc.out, AFc.out, OwnMs.nil _ _ _, rfl⟩
  | true =>
    replace EQ : Hid (n.onAnswer m.ms = (let n2 : Nd := { n1 with yes := n1.yes ++ [m.src] }; if agrI n2.conf n2.yes then n2.chosen else (n2, []))) := EQ.out.trans (by rw [HCT.out]; rfl)
    obtain ⟨vy, hvy⟩ : ∃ x, q1.vy = x := ⟨_, rfl⟩
    obtain ⟨s, hs⟩ : ∃ x, m.src = x := ⟨_, rfl⟩
    have HVY := Lib.hid hvy
    have HS := Lib.hid hs
    have CC : Hid (∀ W, Fr (fun _ _ => True) Wc W → W.cell? ⟨b, 5, none⟩ = some vy ∧ W.cell? ⟨g0, 1, none⟩ = some (.int .i64 s)) := fun W f => by
      exact ⟨by rw [(Hc.out.cells f).2.2.2.2.2.1, hvy], by rw [(mcells (f.keep _ _ Tc.out trivial)).2.1, hs]⟩
    clear hvy hs
    have UD : Hid (Fr (fun _ _ => True) Wc Wc.drew) := (Fr.refl _ _).drew
    go_wp2_with fail
    refine wp_region_cf1 (K := fun _ _ => True) (vt := .pointer (some ⟨b, 0, none⟩)) 0 rfl (by kernel_rfl) (by kernel_rfl) (by kernel_rfl) (fun _ _ _ h => h) (Or.inl ⟨by rfl, ?cfy⟩) (by kernel_rfl) [(38, 0), (39, 1), (40, 2), (41, 3), (42, 4), (43, 5), (44, 6), (45, 7), (46, 8), (47, 9), (48, 10)] [(0, []), (1, []), (2, [1]), (3, [2]), (4, [3]), (5, []), (6, [5]), (7, [6])] (ckR [(0, .pointer (some ⟨b, 0, none⟩)), (1, .pointer (some ⟨b, 0, none⟩)), (2, .pointer (some ⟨b, 0, none⟩)), (3, .pointer (some ⟨b, 5, none⟩)), (4, vy), (5, .pointer (some ⟨g0, 1, none⟩)), (6, .int .i64 s)] [(7, ⟨fun v W => ∃ g, v = .slice (some ⟨g, 0, none⟩) 1 1 ∧ W.heap[g]? = some (.cells #[.int .i64 s] 3 (0, 0)) ∧ Wc.heap.size ≤ g, fun v W W' h hf => by obtain ⟨g, h1, h2, h3⟩ := h; exact ⟨g, h1, hf.keep _ _ h2 trivial, h3⟩⟩)] 8 0) 4 (by kernel_rfl) (by kernel_rfl) (by kernel_rfl) rfl (fun _ => rfl) (by rfl) 38 rfl (by simp) ?cfall ?cfend
    case cfy => (intro w; (try simp only [gA, gB, gC]); go_simp)
    case cfall =>
      iterate 7
        refine CfAll.kk rfl rfl rfl (fun xs W hF hE K' hK => ?_) ?_
        · have HF := Lib.hid hF
          clear hF
          simp only [ckEqs, ckLook, Nat.reduceBEq] at hE
          simp only [fillA, fillL, sA, sB, sC, Act.put, hE] at hK ⊢
          clear hE
          obtain ⟨y5, v1⟩ := CC.out W (UD.out.trans HF.out)
          (try simp only [gA, gB, gC])
          go_simp
          exact hK.out _ rfl
      refine CfAll.k rfl rfl (fun xs W hF hA hE K' hK => ?_) ?_
      · have HF := Lib.hid hF
        clear hA hF
        simp only [ckEqs, ckLook, Nat.reduceBEq] at hE
        simp only [fillA, fillL, sA, sB, sC, Act.put, hE] at hK ⊢
        clear hE
        have SB : Hid (Wc.heap.size ≤ W.heap.size) := (UD.out.trans HF.out).size
        (try simp only [gA, gB, gC])
        go_simp
        exact hK.out _ _ _ rfl ((Fr.refl _ _).alloc _) ⟨_, rfl, heap_alloc_new _ _, SB.out⟩
      exact CfAll.nil
    case cfend =>
      intro xs W hF hA
      have HF := Lib.hid hF
      have hE := ckEnd rfl hA
      have h7 := hA (7, [6]) (by decide)
      clear hA hF
      simp only [List.map_cons, List.map_nil, ckEqs, ckLook, Nat.reduceBEq] at hE
      simp only [fillA, fillL, sA, sB, sC, hE]
      clear hE
      obtain ⟨g1, e7, tg, hg1⟩ := h7
      rw [e7]
      have FW := Lib.hid (UD.out.trans HF.out)
      have HW := Lib.hid (Hc.out.tt FW.out)
      have HOWN : Hid (RowI W 0 vy n1.yes) := by show RowI _ _ _ _; rw [← HVY.out]; exact HW.out.ye
      have TG := Lib.hid tg
      have ny : Hid (vy.ownBlock ≠ some b) := by show _ ≠ _; rw [← HVY.out]; intro e; exact (HW.out.yb _ e).1 rfl
      have HL1 : Hid (n1.yes.length + 1 ≤ 1000000) := by have := HLG.out.2.2.2.1; show _ ≤ _; omega
      clear tg hg1 UD CC
      refine wpAny_next 8 (by kernel_rfl) rfl fun K' hK => ?_
      (try simp only [List.getElem_toArray, List.getElem_cons_zero, List.getElem_cons_succ])
      refine (iteInduction (motive := fun t => t) (fun _ => ?_) (fun hn => absurd rfl hn))
      with_reducible refine step_append_yes (K := fun a w => K' a w) W (.tmp 42) (.tmp 45) ?h1 vy n1.yes ?h2 HOWN g1 s ?h3 TG HL1.out ?_
      case h1 => rfl
      case h2 => (simp [Act.eval, Act.put, fillA, fillL]; done)
      case h3 => (simp [Act.eval, Act.put, fillA, fillL]; done)
      obtain ⟨N, hN⟩ : ∃ x, n1.yes.length + 1 = x := ⟨_, rfl⟩
      rw [hN]
      intro gy cy Wy HRY HFY HON
      have HN := Lib.hid hN
      clear hN
      refine hK.out _ _ ?_
      clear hK K'
      have Ty : Hid (Wy.heap[b]? = some (.cells (W14 n1 q1) 39 (0, 0))) := HFY.out.keep _ _ HW.out.top ny.out
      have y5 : Wy.cell? ⟨b, 5, none⟩ = some vy := by rw [← HVY.out]; exact cell_mk Ty.out rfl
      have z5 := frozen_mk (i := 5) Ty.out
      obtain ⟨Wz, hWz⟩ : ∃ Y, Wy.setCell ⟨b, 5, none⟩ (.slice gy N cy) = Y := ⟨_, rfl⟩
      obtain ⟨v2, hv2⟩ : ∃ x, Value.slice gy N cy = x := ⟨_, rfl⟩
      obtain ⟨G, eG⟩ : ∃ G, v2.ownBlock = some G := by
        rcases HRY.out.2 with ⟨_, e⟩ | ⟨g, c, cur, e, hb, r⟩
        · exact absurd e (by simp)
        · rw [hv2] at e
          rw [e]
          exact ⟨g, rfl⟩
      have fz : Fr (fun c _ => c ≠ b) Wy Wz := hWz ▸ (Fr.refl _ _).setCell (fun _ _ h => h rfl) _
      have bW : b < W.heap.size := lt_of_some HW.out.top
      obtain ⟨n2, hn2⟩ : ∃ x : Nd, { n1 with yes := n1.yes ++ [s] } = x := ⟨_, rfl⟩
      obtain ⟨q2, hq2⟩ : ∃ x : NV, { q1 with vy := v2 } = x := ⟨_, rfl⟩
      have HY := Hc.out.reYo (w' := Wz) (n' := { n1 with yes := n1.yes ++ [s] }) (q' := { q1 with vy := v2 }) ((FW.out.mono fun _ _ _ => trivial).trans ((HFY.out.mono fun c _ h e => h.2 (by rw [HVY.out]; exact e)).trans (fz.mono fun c _ h => h.1)))
        (by rw [← hWz, ← hv2]; exact heap_setCell_same (o := 5) Ty.out _) ⟨rfl, rfl⟩ ⟨rfl, rfl, rfl⟩ ⟨rfl, rfl, rfl, rfl⟩ G (by rw [← hv2]; exact ownsRow_fr HRY.out fz fun c o e _ h => (HON.out.ne ny.out bW) (h ▸ e)) eG
        (by
          rcases HON.out with e | ⟨k, e, hk⟩
          · rw [hv2, eG] at e; rw [HVY.out]; exact .inl e.symm
          · rw [hv2, eG] at e; cases e; exact .inr (Nat.le_trans FW.out.size hk))
      rw [hn2, hq2] at HY
      have H5 := Lib.hid HY.1
      have A5 := Lib.hid (AFc.out.trans HY.2)
      clear HY fz
      obtain ⟨X1', hX1⟩ : ∃ Z : Nat → Prop, (fun c => X c ∨ c = G) = Z := ⟨_, rfl⟩
      obtain ⟨P1', hP1⟩ : ∃ Z : Nat → Prop, (fun c => P c ∨ c = G) = Z := ⟨_, rfl⟩
      rw [hX1, hP1] at H5 A5
      obtain ⟨vc, hvc⟩ : ∃ x, q1.vc = x := ⟨_, rfl⟩
      have hq4 : n2.conf = n.conf ∧ q2.vc = vc ∧ n2.yes = n1.yes ++ [s] ∧ q2.vy = v2 ∧ n2.me = n.me ∧ n2.log = n.log ∧ n2.tm = n1.tm := by rw [← hn2, ← hq2]; exact ⟨HLG.out.2.2.1, hvc, rfl, rfl, HLG.out.2.1, HLG.out.1, rfl⟩
      have AG := Lib.hid (fun k => (agrees_calls (Wz.drewN k) q2.vc q2.vy n2.conf n2.yes (H5.out.cf.tt ((Fr.refl _ Wz).drewN k)) (H5.out.ye.ints.tt ((Fr.refl _ Wz).drewN k)) (by rw [hq4.1]; have := hcf.2; unfold maxLen; omega) (by rw [hq4.2.2.1, List.length_append]; have := HL1.out; unfold maxLen; simp only [List.length_cons, List.length_nil]; omega)).mono fun e w' ⟨h1, h2⟩ => And.intro h1 h2.symm)
      have CHL : Hid (∀ k, Calls Try.prog 37 #[.pointer (some ⟨b, 0, none⟩)] (Wz.drewN k) fun e w' => NOut X1' P1' (Wz.drewN k) b n2.chosen e w') := fun k =>
        chosen_calls (H5.out.tt ((Fr.refl _ Wz).drewN k)) (by rw [hq4.1]; exact hcf) mN (by rw [hq4.2.2.2.2.1]; exact hme) hm16 (by rw [hq4.2.2.2.2.2.2]; exact HLG.out.2.2.2.2) (by rw [hq4.2.2.2.2.2.1]; exact hl) (by rw [hq4.2.2.2.2.2.1]; exact hle)
      have f4 : Wz.cell? ⟨b, 4, none⟩ = some vc := by rw [(H5.out.cells (Fr.refl _ Wz)).2.2.2.2.1, hq4.2.1]
      have f5 : Wz.cell? ⟨b, 5, none⟩ = some v2 := by rw [(H5.out.cells (Fr.refl _ Wz)).2.2.2.2.2.1, hq4.2.2.2.1]
      rw [hq4.2.1, hq4.2.2.2.1] at AG
      obtain ⟨ag, hag⟩ : ∃ x, agrI n2.conf n2.yes = x := ⟨_, rfl⟩
      rw [hag] at AG
      have EQ2 : Hid (n.onAnswer m.ms = if ag = true then n2.chosen else (n2, [])) := by
        refine EQ.out.trans ?_
        rw [← hag, ← hn2, HS.out]
      have HV2 := Lib.hid hv2
      clear hq4 hag hn2 hq2 hX1 hP1 hvc EQ
      clear hv2
      refine wpAny_next 9 (by kernel_rfl) rfl fun K' hK => ?_
      (try simp only [gA, gB, gC])
      go_simp
      refine hK.out _ _ ?_
      clear hK K'
      refine wpAny_next 10 (by kernel_rfl) rfl fun K' hK => ?_
      (try simp only [gA, gB, gC])
      go_simp
      refine hK.out _ _ ?_
      clear hK K'
      refine wpAny_next 11 (by kernel_rfl) rfl fun K' hK => ?_
      (try simp only [gA, gB, gC])
      go_simp
      refine hK.out _ _ ?_
      clear hK K'
      refine wpAny_fin (by kernel_rfl) ?_
      try rw [hWz]
      clear y5 z5 hWz
      go_wp2_with fail
      go_quiet ((go_at_call 36; exact Calls.quiet_of_same (AG.out _)))
      have U5 : Hid (Fr (fun _ _ => True) Wz (Wz.drewN nq)) := (Fr.refl _ Wz).drewN nq
      clear AG f4 f5
      cases ag with
      | true =>
        have CHO := Lib.hid (CHL.out nq)
        have OUT : Hid (n.onAnswer m.ms = n2.chosen) := EQ2.out.trans (if_pos rfl)
        clear CHL EQ2
        go_wp2_with fail
        (with_reducible refine CHO.out.mono ?_)
        intro e w9 ho
        replace ho := ho.behind (A5.out.tr U5.out)
        obtain ⟨X', P', q', v, mvs, rfl, h2, h3, h4, h5⟩ := ho
        have HH := Lib.hid (And.intro h2 (And.intro h3 (And.intro h4 h5)))
        clear h2 h3 h4 h5 CHO
        go_wp2
        go_ret
        rw [OUT.out]
        exact ⟨X', P', q', _, mvs, rfl, HH.out.1, HH.out.2.1, HH.out.2.2.1, HH.out.2.2.2⟩
      | false =>
        have OUT : Hid (n.onAnswer m.ms = (n2, [])) := EQ2.out.trans (if_neg (by decide))
        clear CHL EQ2
        go_wp2
        go_ret
        rw [OUT.out]
        exact ⟨X1', P1', q2, _, [], rfl, H5.out.tt U5.out, A5.out.tr U5.out, OwnMs.nil _ _ _, rfl⟩
end
end Go.Proofs.Ytmjccpfchhnfhaa
/- elect: OnAnswer (printed by onans2.py). -/
namespace Go.Proofs.Ytmjccpfchhnfhaa
open Go.RowKit
set_option linter.unusedVariables false
set_option linter.unusedSimpArgs false

section
variable {X P : Nat → Prop} {w w' : World} {b : Nat} {n n' : Nd} {q q' : NV}
set_option maxRecDepth 100000 in
set_option maxHeartbeats 8000000 in
theorem onAnswer4tn_calls (h : PNs X P w b n q) (m : MV) (hk1 : m.kind = 4) (hf : n.tm < m.tm) (ho : m.ok = false) (hcf : 0 < n.conf.length ∧ n.conf.length ≤ 1000) (hy : n.yes.length ≤ 900000) (mN : Nat) (hme : n.me = (mN : Nat)) (hm16 : mN < 16) (htm : n.tm + 1 < 18446744073709551616) (htm2 : m.tm + 1 < 18446744073709551616) (hl : n.log.last + 1 < 18446744073709551616) (hle : n.log.es.length ≤ 900000) :
    Calls Try.prog 47 #[.pointer (some ⟨b, 0, none⟩), .agg (cM m)] w fun e w' => NOut X P w b (n.onAnswer m.ms) e w' := by
  obtain ⟨W1, hW1, F1, X1⟩ := mbox w m
  obtain ⟨g0, hg0⟩ : ∃ x, w.heap.size = x := ⟨_, rfl⟩
  rw [hg0] at X1
  have H := Lib.hid h
  have HG0 := Lib.hid hg0
  obtain ⟨k, hk⟩ : ∃ x, m.kind = x := ⟨_, rfl⟩
  obtain ⟨mo, hmo⟩ : ∃ x, m.ok = x := ⟨_, rfl⟩
  have HK := Lib.hid hk
  have HMO := Lib.hid hmo
  have gb : Hid (g0 ≠ b) := by have := lt_of_some h.top; show _ ≠ _; omega
  have v0 : W1.cell? ⟨g0, 0, none⟩ = some (.int .i64 k) := by rw [← hk]; exact (mcells X1.out).1
  unfold cM at hW1 ⊢
  have HK1 := Lib.hid hk1
  have HF0 := Lib.hid hf
  have gl : decide (n.tm < m.tm) = true := decide_eq_true hf
  obtain rfl : k = 4 := by rw [← hk]; exact hk1
  have HO0 := Lib.hid ho
  obtain rfl : mo = false := by rw [← hmo]; exact ho
  have v7 : W1.cell? ⟨g0, 7, none⟩ = some (.bool false) := by rw [← ho]; exact (mcells X1.out).2.2.2.2.2.2.2.1
  have v3 := (mcells X1.out).2.2.2.1
  have y6 := (h.cells F1.out).2.2.2.2.2.2.1
  clear hk1 hf ho
  clear h hk hmo
  go_enter Try.func47, Try.ntmps47
  go_wp2_with fail
  try rw [hW1]
  try rw [HG0.out]
  clear hW1 hg0
  go_quiet (fail)
  clear v0 y6 gl v7
  have FA : Hid (Fr (fun _ _ => True) W1 (W1.drewN nq)) := (Fr.refl _ W1).drewN nq
  generalize W1.drewN nq = WA at FA ⊢
  have HA := Lib.hid ((H.out.tt F1.out).tt FA.out)
  have TA : Hid (WA.heap[g0]? = some (.cells (cM m) 74 (0, 0))) := FA.out.keep _ _ X1.out trivial
  clear v3
  have FO := Lib.hid (follow_calls HA.out m.tm (-1))
  have v3 := (mcells TA.out).2.2.2.1
  go_wp2_with fail
  (with_reducible refine FO.out.mono ?_)
  rintro e Wf ⟨rfl, h3, f3⟩
  clear v3 FO
  have F3 : Hid (Fr (fun c _ => c ≠ b) WA Wf) := f3
  obtain ⟨n1, hn1⟩ : ∃ x, n.follow m.tm (-1) = x := ⟨_, rfl⟩
  obtain ⟨q1, hq1⟩ : ∃ x, q.noYes = x := ⟨_, rfl⟩
  rw [hn1, hq1] at h3
  have HLG : Hid (n1.log = n.log ∧ n1.me = n.me ∧ n1.conf = n.conf ∧ n1.yes.length ≤ 900000 ∧ n1.tm + 1 < 18446744073709551616) := by rw [← hn1]; unfold Nd.follow; split <;> exact ⟨rfl, rfl, rfl, Nat.zero_le _, by first | exact htm2 | exact htm⟩
  have H3 := Lib.hid h3
  have HN1 : Hid ((if n.tm < m.tm ∧ (m.ok = false ∨ m.kind = 2) then n.follow m.tm (-1) else n) = n1) := by rw [← hn1]; exact if_pos ⟨HF0.out, .inl HO0.out⟩
  clear h3 f3 hn1 hq1
  have Tf : Hid (Wf.heap[g0]? = some (.cells (cM m) 74 (0, 0))) := F3.out.keep _ _ TA.out gb.out
  have AFf : Hid (Aft X P X P w Wf) := .of ((F1.out.trans FA.out).mono (fun _ _ _ => trivial) |>.trans (F3.out.mono fun c _ hc e => hc (e ▸ H.out.pb))) H.out.px
  obtain ⟨ct, hct⟩ : ∃ x, n1.counts m.ms = x := ⟨_, rfl⟩
  have CO := Lib.hid (counts_calls H3.out m (by have := HLG.out.2.2.1; rw [this]; exact hcf.2) (by have := HLG.out.2.2.2.1; omega) HLG.out.2.2.2.2)
  rw [hct] at CO
  have HCT := Lib.hid hct
  have EQ : Hid (n.onAnswer m.ms = if n1.counts m.ms then (let n2 : Nd := { n1 with yes := n1.yes ++ [m.src] }; if agrI n2.conf n2.yes then n2.chosen else (n2, [])) else (n1, [])) := by
    refine (if_pos (show m.kind = 2 ∨ m.kind = 4 from by have := HK1.out; omega)).trans ?_
    show (let n1 : Nd := if n.tm < m.tm ∧ (m.ok = false ∨ m.kind = 2) then n.follow m.tm (-1) else n
      if n1.counts m.ms then (let n2 : Nd := { n1 with yes := n1.yes ++ [m.src] }; if agrI n2.conf n2.yes then n2.chosen else (n2, [])) else (n1, [])) = _
    rw [HN1.out]
  clear hct F1 FA F3 HN1 HF0 HA TA
  obtain ⟨v0, v1, v2, v3, v4, v5, v6, v7, v8, v9⟩ := mcells Tf.out
  dsimp only [cM] at CO
  go_wp2_with fail
  (with_reducible refine CO.out.mono ?_)
  rintro e Wc ⟨rfl, fc⟩
  have FC := Lib.hid fc
  have Hc := Lib.hid (H3.out.tt fc)
  have Tc : Hid (Wc.heap[g0]? = some (.cells (cM m) 74 (0, 0))) := fc.keep _ _ Tf.out trivial
  have AFc := Lib.hid (AFf.out.tr fc)
  clear fc CO v0 v1 v2 v3 v4 v5 v6 v7 v8 v9
  cases ct with
  | false =>
    go_wp2
    go_ret
    rw [EQ.out, HCT.out]
    exact ⟨X, P, q1, _, [], rfl, Hc.out, AFc.out, OwnMs.nil _ _ _, rfl⟩
  | true =>
    replace EQ : Hid (n.onAnswer m.ms = (let n2 : Nd := { n1 with yes := n1.yes ++ [m.src] }; if agrI n2.conf n2.yes then n2.chosen else (n2, []))) := EQ.out.trans (by rw [HCT.out]; rfl)
    obtain ⟨vy, hvy⟩ : ∃ x, q1.vy = x := ⟨_, rfl⟩
    obtain ⟨s, hs⟩ : ∃ x, m.src = x := ⟨_, rfl⟩
    have HVY := Lib.hid hvy
    have HS := Lib.hid hs
    have CC : Hid (∀ W, Fr (fun _ _ => True) Wc W → W.cell? ⟨b, 5, none⟩ = some vy ∧ W.cell? ⟨g0, 1, none⟩ = some (.int .i64 s)) := fun W f => by
      exact ⟨by rw [(Hc.out.cells f).2.2.2.2.2.1, hvy], by rw [(mcells (f.keep _ _ Tc.out trivial)).2.1, hs]⟩
    clear hvy hs
    have UD : Hid (Fr (fun _ _ => True) Wc Wc.drew) := (Fr.refl _ _).drew
    go_wp2_with fail
    refine wp_region_cf1 (K := fun _ _ => True) (vt := .pointer (some ⟨b, 0, none⟩)) 0 rfl (by kernel_rfl) (by kernel_rfl) (by kernel_rfl) (fun _ _ _ h => h) (Or.inl ⟨by rfl, ?cfy⟩) (by kernel_rfl) [(38, 0), (39, 1), (40, 2), (41, 3), (42, 4), (43, 5), (44, 6), (45, 7), (46, 8), (47, 9), (48, 10)] [(0, []), (1, []), (2, [1]), (3, [2]), (4, [3]), (5, []), (6, [5]), (7, [6])] (ckR [(0, .pointer (some ⟨b, 0, none⟩)), (1, .pointer (some ⟨b, 0, none⟩)), (2, .pointer (some ⟨b, 0, none⟩)), (3, .pointer (some ⟨b, 5, none⟩)), (4, vy), (5, .pointer (some ⟨g0, 1, none⟩)), (6, .int .i64 s)] [(7, ⟨fun v W => ∃ g, v = .slice (some ⟨g, 0, none⟩) 1 1 ∧ W.heap[g]? = some (.cells #[.int .i64 s] 3 (0, 0)) ∧ Wc.heap.size ≤ g, fun v W W' h hf => by obtain ⟨g, h1, h2, h3⟩ := h; exact ⟨g, h1, hf.keep _ _ h2 trivial, h3⟩⟩)] 8 0) 4 (by kernel_rfl) (by kernel_rfl) (by kernel_rfl) rfl (fun _ => rfl) (by rfl) 38 rfl (by simp) ?cfall ?cfend
    case cfy => (intro w; (try simp only [gA, gB, gC]); go_simp)
    case cfall =>
      iterate 7
        refine CfAll.kk rfl rfl rfl (fun xs W hF hE K' hK => ?_) ?_
        · have HF := Lib.hid hF
          clear hF
          simp only [ckEqs, ckLook, Nat.reduceBEq] at hE
          simp only [fillA, fillL, sA, sB, sC, Act.put, hE] at hK ⊢
          clear hE
          obtain ⟨y5, v1⟩ := CC.out W (UD.out.trans HF.out)
          (try simp only [gA, gB, gC])
          go_simp
          exact hK.out _ rfl
      refine CfAll.k rfl rfl (fun xs W hF hA hE K' hK => ?_) ?_
      · have HF := Lib.hid hF
        clear hA hF
        simp only [ckEqs, ckLook, Nat.reduceBEq] at hE
        simp only [fillA, fillL, sA, sB, sC, Act.put, hE] at hK ⊢
        clear hE
        have SB : Hid (Wc.heap.size ≤ W.heap.size) := (UD.out.trans HF.out).size
        (try simp only [gA, gB, gC])
        go_simp
        exact hK.out _ _ _ rfl ((Fr.refl _ _).alloc _) ⟨_, rfl, heap_alloc_new _ _, SB.out⟩
      exact CfAll.nil
    case cfend =>
      intro xs W hF hA
      have HF := Lib.hid hF
      have hE := ckEnd rfl hA
      have h7 := hA (7, [6]) (by decide)
      clear hA hF
      simp only [List.map_cons, List.map_nil, ckEqs, ckLook, Nat.reduceBEq] at hE
      simp only [fillA, fillL, sA, sB, sC, hE]
      clear hE
      obtain ⟨g1, e7, tg, hg1⟩ := h7
      rw [e7]
      have FW := Lib.hid (UD.out.trans HF.out)
      have HW := Lib.hid (Hc.out.tt FW.out)
      have HOWN : Hid (RowI W 0 vy n1.yes) := by show RowI _ _ _ _; rw [← HVY.out]; exact HW.out.ye
      have TG := Lib.hid tg
      have ny : Hid (vy.ownBlock ≠ some b) := by show _ ≠ _; rw [← HVY.out]; intro e; exact (HW.out.yb _ e).1 rfl
      have HL1 : Hid (n1.yes.length + 1 ≤ 1000000) := by have := HLG.out.2.2.2.1; show _ ≤ _; omega
      clear tg hg1 UD CC
      refine wpAny_next 8 (by kernel_rfl) rfl fun K' hK => ?_
      (try simp only [List.getElem_toArray, List.getElem_cons_zero, List.getElem_cons_succ])
      refine (iteInduction (motive := fun t => t) (fun _ => ?_) (fun hn => absurd rfl hn))
      with_reducible refine step_append_yes (K := fun a w => K' a w) W (.tmp 42) (.tmp 45) ?h1 vy n1.yes ?h2 HOWN g1 s ?h3 TG HL1.out ?_
      case h1 => rfl
      case h2 => (simp [Act.eval, Act.put, fillA, fillL]; done)
      case h3 => (simp [Act.eval, Act.put, fillA, fillL]; done)
      obtain ⟨N, hN⟩ : ∃ x, n1.yes.length + 1 = x := ⟨_, rfl⟩
      rw [hN]
      intro gy cy Wy HRY HFY HON
      have HN := Lib.hid hN
      clear hN
      refine hK.out _ _ ?_
      clear hK K'
      have Ty : Hid (Wy.heap[b]? = some (.cells (W14 n1 q1) 39 (0, 0))) := HFY.out.keep _ _ HW.out.top ny.out
      have y5 : Wy.cell? ⟨b, 5, none⟩ = some vy := by rw [← HVY.out]; exact cell_mk Ty.out rfl
      have z5 := frozen_mk (i := 5) Ty.out
      obtain ⟨Wz, hWz⟩ : ∃ Y, Wy.setCell ⟨b, 5, none⟩ (.slice gy N cy) = Y := ⟨_, rfl⟩
      obtain ⟨v2, hv2⟩ : ∃ x, Value.slice gy N cy = x := ⟨_, rfl⟩
      obtain ⟨G, eG⟩ : ∃ G, v2.ownBlock = some G := by
        rcases HRY.out.2 with ⟨_, e⟩ | ⟨g, c, cur, e, hb, r⟩
        · exact absurd e (by simp)
        · rw [hv2] at e
          rw [e]
          exact ⟨g, rfl⟩
      have fz : Fr (fun c _ => c ≠ b) Wy Wz := hWz ▸ (Fr.refl _ _).setCell (fun _ _ h => h rfl) _
      have bW : b < W.heap.size := lt_of_some HW.out.top
      obtain ⟨n2, hn2⟩ : ∃ x : Nd, { n1 with yes := n1.yes ++ [s] } = x := ⟨_, rfl⟩
      obtain ⟨q2, hq2⟩ : ∃ x : NV, { q1 with vy := v2 } = x := ⟨_, rfl⟩
      have HY := Hc.out.reYo (w' := Wz) (n' := { n1 with yes := n1.yes ++ [s] }) (q' := { q1 with vy := v2 }) ((FW.out.mono fun _ _ _ => trivial).trans ((HFY.out.mono fun c _ h e => h.2 (by rw [HVY.out]; exact e)).trans (fz.mono fun c _ h => h.1)))
        (by rw [← hWz, ← hv2]; exact heap_setCell_same (o := 5) Ty.out _) ⟨rfl, rfl⟩ ⟨rfl, rfl, rfl⟩ ⟨rfl, rfl, rfl, rfl⟩ G (by rw [← hv2]; exact ownsRow_fr HRY.out fz fun c o e _ h => (HON.out.ne ny.out bW) (h ▸ e)) eG
        (by
          rcases HON.out with e | ⟨k, e, hk⟩
          · rw [hv2, eG] at e; rw [HVY.out]; exact .inl e.symm
          · rw [hv2, eG] at e; cases e; exact .inr (Nat.le_trans FW.out.size hk))
      rw [hn2, hq2] at HY
      have H5 := Lib.hid HY.1
      have A5 := Lib.hid (AFc.out.trans HY.2)
      clear HY fz
      obtain ⟨X1', hX1⟩ : ∃ Z : Nat → Prop, (fun c => X c ∨ c = G) = Z := ⟨_, rfl⟩
      obtain ⟨P1', hP1⟩ : ∃ Z : Nat → Prop, (fun c => P c ∨ c = G) = Z := ⟨_, rfl⟩
      rw [hX1, hP1] at H5 A5
      obtain ⟨vc, hvc⟩ : ∃ x, q1.vc = x := ⟨_, rfl⟩
      have hq4 : n2.conf = n.conf ∧ q2.vc = vc ∧ n2.yes = n1.yes ++ [s] ∧ q2.vy = v2 ∧ n2.me = n.me ∧ n2.log = n.log ∧ n2.tm = n1.tm := by rw [← hn2, ← hq2]; exact ⟨HLG.out.2.2.1, hvc, rfl, rfl, HLG.out.2.1, HLG.out.1, rfl⟩
      have AG := Lib.hid (fun k => (agrees_calls (Wz.drewN k) q2.vc q2.vy n2.conf n2.yes (H5.out.cf.tt ((Fr.refl _ Wz).drewN k)) (H5.out.ye.ints.tt ((Fr.refl _ Wz).drewN k)) (by rw [hq4.1]; have := hcf.2; unfold maxLen; omega) (by rw [hq4.2.2.1, List.length_append]; have := HL1.out; unfold maxLen; simp only [List.length_cons, List.length_nil]; omega)).mono fun e w' ⟨h1, h2⟩ => And.intro h1 h2.symm)
      have CHL : Hid (∀ k, Calls Try.prog 37 #[.pointer (some ⟨b, 0, none⟩)] (Wz.drewN k) fun e w' => NOut X1' P1' (Wz.drewN k) b n2.chosen e w') := fun k =>
        chosen_calls (H5.out.tt ((Fr.refl _ Wz).drewN k)) (by rw [hq4.1]; exact hcf) mN (by rw [hq4.2.2.2.2.1]; exact hme) hm16 (by rw [hq4.2.2.2.2.2.2]; exact HLG.out.2.2.2.2) (by rw [hq4.2.2.2.2.2.1]; exact hl) (by rw [hq4.2.2.2.2.2.1]; exact hle)
      have f4 : Wz.cell? ⟨b, 4, none⟩ = some vc := by rw [(H5.out.cells (Fr.refl _ Wz)).2.2.2.2.1, hq4.2.1]
      have f5 : Wz.cell? ⟨b, 5, none⟩ = some v2 := by rw [(H5.out.cells (Fr.refl _ Wz)).2.2.2.2.2.1, hq4.2.2.2.1]
      rw [hq4.2.1, hq4.2.2.2.1] at AG
      obtain ⟨ag, hag⟩ : ∃ x, agrI n2.conf n2.yes = x := ⟨_, rfl⟩
      rw [hag] at AG
      have EQ2 : Hid (n.onAnswer m.ms = if ag = true then n2.chosen else (n2, [])) := by
        refine EQ.out.trans ?_
        rw [← hag, ← hn2, HS.out]
      have HV2 := Lib.hid hv2
      clear hq4 hag hn2 hq2 hX1 hP1 hvc EQ
      clear hv2
      refine wpAny_next 9 (by kernel_rfl) rfl fun K' hK => ?_
      (try simp only [gA, gB, gC])
      go_simp
      refine hK.out _ _ ?_
      clear hK K'
      refine wpAny_next 10 (by kernel_rfl) rfl fun K' hK => ?_
      (try simp only [gA, gB, gC])
      go_simp
      refine hK.out _ _ ?_
      clear hK K'
      refine wpAny_next 11 (by kernel_rfl) rfl fun K' hK => ?_
      (try simp only [gA, gB, gC])
      go_simp
      refine hK.out _ _ ?_
      clear hK K'
      refine wpAny_fin (by kernel_rfl) ?_
      try rw [hWz]
      clear y5 z5 hWz
      go_wp2_with fail
      go_quiet ((go_at_call 36; exact Calls.quiet_of_same (AG.out _)))
      have U5 : Hid (Fr (fun _ _ => True) Wz (Wz.drewN nq)) := (Fr.refl _ Wz).drewN nq
      clear AG f4 f5
      cases ag with
      | true =>
        have CHO := Lib.hid (CHL.out nq)
        have OUT : Hid (n.onAnswer m.ms = n2.chosen) := EQ2.out.trans (if_pos rfl)
        clear CHL EQ2
        go_wp2_with fail
        (with_reducible refine CHO.out.mono ?_)
        intro e w9 ho
        replace ho := ho.behind (A5.out.tr U5.out)
        obtain ⟨X', P', q', v, mvs, rfl, h2, h3, h4, h5⟩ := ho
        have HH := Lib.hid (And.intro h2 (And.intro h3 (And.intro h4 h5)))
        clear h2 h3 h4 h5 CHO
        go_wp2
        go_ret
        rw [OUT.out]
        exact ⟨X', P', q', _, mvs, rfl, HH.out.1, HH.out.2.1, HH.out.2.2.1, HH.out.2.2.2⟩
      | false =>
        have OUT : Hid (n.onAnswer m.ms = (n2, [])) := EQ2.out.trans (if_neg (by decide))
        clear CHL EQ2
        go_wp2
        go_ret
        rw [OUT.out]
        exact ⟨X1', P1', q2, _, [], rfl, H5.out.tt U5.out, A5.out.tr U5.out, OwnMs.nil _ _ _, rfl⟩
end
end Go.Proofs.Ytmjccpfchhnfhaa
