/- Texts of the proofs, part 34: what the functions that they reach do, walked; no conditions beyond those that each states. -/
import Derived.Test.YtmjccpfchhnfhaaZz61a4f2d427
import Derived.Test.YtmjccpfchhnfhaaZz864bb2a9a1
import Derived.Test.YtmjccpfchhnfhaaZzf19fd0b00d
import Derived.Test.YtmjccpfchhnfhaaZz75e7c4ca7a
set_option linter.unusedVariables false
set_option linter.unusedSimpArgs false
/- follow: OnAcked (printed by fl6.py). -/
namespace Go.Proofs.Ytmjccpfchhnfhaa
open Go.RowKit
set_option linter.unusedVariables false
set_option linter.unusedSimpArgs false
section
variable {X P : Nat → Prop} {w w' : World} {b : Nat} {n n' : Nd} {q q' : NV}
set_option maxRecDepth 100000 in
set_option maxHeartbeats 8000000 in
theorem onAckedA_calls [Old] (h : PNs X P w b n q) (m : MV) (hk6 : m.kind = 6) (hnlt : ¬ n.tm < m.tm) (hlt : ¬ m.tm < n.tm) (hr : n.role = 3) (hx : m.src ≠ n.me) (t : Nat) (ht : t < 16) (hst : m.src = (t : Nat)) (ho : m.ok = true) (hil : ¬ m.index ≤ n.log.last) (hcf : 0 < n.conf.length ∧ n.conf.length ≤ 12) (hpos : ∀ x ∈ n.conf, 0 ≤ x) (hnx : ∀ y ∈ n.next, y + 1 < 18446744073709551616) (hmx : ∀ y ∈ n.mat, y + 1 < 18446744073709551616) (hix : m.index + 1 < 18446744073709551616) (hpv1 : m.prev + 1 < 18446744073709551616) (hl : n.log.last + 1 < 18446744073709551616) (hle : n.log.es.length ≤ 900000) :
  Calls Try.prog 48 #[.pointer (some ⟨b, 0, none⟩), .agg (cM m)] w fun e w' => NOut X P w b (n.onAcked m.ms) e w' := by
 obtain ⟨W1, hW1, F1, X1⟩ := mbox w m
 obtain ⟨g0, hg0⟩ : ∃ x, w.heap.size = x := ⟨_, rfl⟩
 rw [hg0] at X1
 have H := Lib.hid h
 have HG0 := Lib.hid hg0
 have gb : Hid (g0 ≠ b) := by have := lt_of_some h.top; show _ ≠ _; omega
 obtain ⟨me, hme⟩ : ∃ x, n.me = x := ⟨_, rfl⟩
 obtain ⟨ro, hro⟩ : ∃ x, n.role = x := ⟨_, rfl⟩
 obtain ⟨tm, htm⟩ : ∃ x, n.tm = x := ⟨_, rfl⟩
 obtain ⟨s, hs⟩ : ∃ x, m.src = x := ⟨_, rfl⟩
 obtain ⟨mt, hmt⟩ : ∃ x, m.tm = x := ⟨_, rfl⟩
 obtain ⟨ix, hixx⟩ : ∃ x, m.index = x := ⟨_, rfl⟩
 obtain ⟨pv, hpv⟩ : ∃ x, m.prev = x := ⟨_, rfl⟩
 obtain ⟨ok, hok⟩ : ∃ x, m.ok = x := ⟨_, rfl⟩
 have HL := Lib.hid (And.intro hme (And.intro hro (And.intro htm (And.intro hs (And.intro hmt (And.intro hixx (And.intro hpv hok)))))))
 have VH : Hid (∀ W : World, W.heap[g0]? = some (.cells (cM m) 74 (0, 0)) → W.cell? ⟨g0, 1, none⟩ = some (.int .i64 s) ∧ W.cell? ⟨g0, 3, none⟩ = some (.int .u64 (mt : Nat)) ∧ W.cell? ⟨g0, 4, none⟩ = some (.int .u64 (ix : Nat)) ∧ W.cell? ⟨g0, 5, none⟩ = some (.int .u64 (pv : Nat)) ∧ W.cell? ⟨g0, 7, none⟩ = some (.bool ok)) := fun W t => by
  obtain ⟨v0, v1, v2, v3, v4, v5, v6, v7, v8, v9⟩ := mcells t
  exact ⟨by rw [v1, hs], by rw [v3, hmt], by rw [v4, hixx], by rw [v5, hpv], by rw [v7, hok]⟩
 have v0 : W1.cell? ⟨g0, 0, none⟩ = some (.int .i64 6) := by rw [← hk6]; exact (mcells X1.out).1
 have y6 : W1.cell? ⟨b, 6, none⟩ = some (.int .u64 (tm : Nat)) := by rw [← htm]; exact (h.cells F1.out).2.2.2.2.2.2.1
 have v3 := (VH W1 X1).2.1
 have gl : decide (tm < mt) = false := by rw [← hmt, ← htm]; exact decide_eq_false hnlt
 have g1 : decide (mt < tm) = false := by rw [← hmt, ← htm]; exact decide_eq_false hlt
 obtain rfl : ro = 3 := by rw [← hro]; exact hr
 have g2 : (s == me) = false := by rw [← hs, ← hme]; simpa using hx
 obtain rfl : s = (t : Nat) := by rw [← hs]; exact hst
 obtain rfl : ok = true := by rw [← hok]; exact ho
 have NC := Lib.hid (fun W => fnode_calls W (t : Nat))
 rw [decide_eq_true (show (0 : Int) ≤ (t : Nat) ∧ ((t : Nat) : Int) < 16 by omega)] at NC
 obtain ⟨bs, hbs⟩ : ∃ x, n.log.base = x := ⟨_, rfl⟩
 obtain ⟨bt, hbt⟩ : ∃ x, n.log.bt = x := ⟨_, rfl⟩
 obtain ⟨ae, le, ce, hve, hlel, hesl, hlg⟩ := h.lg
 have hl2 : bs + le + 1 < 18446744073709551616 := by unfold Lg.last at hl; omega
 obtain ⟨LST, hLST⟩ : ∃ x, bs + le = x := ⟨_, rfl⟩
 have hlast : n.log.last = LST := by unfold Lg.last; omega
 have LAST := Lib.hid (fun W => tlast_calls W bs bt ae le ce (by omega))
 rw [hLST] at LAST
 obtain ⟨bn, hbn⟩ : ∃ x, q.bn = x := ⟨_, rfl⟩
 obtain ⟨cn, hcn⟩ : ∃ x, q.cn = x := ⟨_, rfl⟩
 obtain ⟨bm, hbm⟩ : ∃ x, q.bm = x := ⟨_, rfl⟩
 obtain ⟨km, hkm⟩ : ∃ x, q.cm = x := ⟨_, rfl⟩
 have HQ := Lib.hid (And.intro hbn (And.intro hcn (And.intro hbm (And.intro hkm (And.intro hve (And.intro hbs hbt))))))
 obtain ⟨nt, hnt⟩ : ∃ x, n.next.getD t 0 = x := ⟨_, rfl⟩
 obtain ⟨kt, hkt⟩ : ∃ x, n.mat.getD t 0 = x := ⟨_, rfl⟩
 have hkt64 : kt + 1 < 18446744073709551616 := by
  rw [← hkt, List.getD_eq_getElem?_getD, List.getElem?_eq_getElem (by have := h.mt.1; omega)]
  exact hmx _ (List.getElem_mem _)
 have ht2 : ((t : Nat) : Int) < 16 := by omega
 have E0 : n.onAcked m.ms = if m.ok = true ∧ (n.acked m.ms).log.last < (n.acked m.ms).next.getD t 0 then (n.acked m.ms, []) else (n.acked m.ms, (n.acked m.ms).sendTo (t : Nat)) := by
  unfold Nd.onAcked
  rw [if_neg (fun e => e hk6), if_neg (show ¬ n.tm < m.ms.tm from hnlt), if_neg (show ¬ (m.ms.tm < n.tm ∨ n.role ≠ 3 ∨ m.ms.src = n.me ∨ m.ms.src < 0 ∨ 15 < m.ms.src) by
   have e : m.ms.src = (t : Nat) := hst
   rw [e]
   rintro (e | e | e | e | e)
   ·exact hlt e
   ·exact e hr
   ·exact hx (hst.trans e)
   ·omega
   ·omega)]
  have e : m.ms.src = (t : Nat) := hst
  rw [e]
  rfl
 have CC : Hid (∀ W W' nA, PNs X P W b nA q → nA.log = n.log → FT W W' → W'.cell? ⟨b, 8, none⟩ = some (.int .u64 (bs : Nat)) ∧ W'.cell? ⟨b, 9, none⟩ = some (.int .u64 (bt : Nat)) ∧ W'.cell? ⟨b, 10, none⟩ = some (.slice ae le ce) ∧ W'.cell? ⟨b, 12, none⟩ = some (.slice (some ⟨bn, 0, none⟩) 16 cn) ∧ W'.cell? ⟨b, 13, none⟩ = some (.slice (some ⟨bm, 0, none⟩) 16 km) ∧ W'.cell? ⟨bn, t, none⟩ = some (.int .u64 (nA.next.getD t 0 : Nat)) ∧ W'.cell? ⟨bm, t, none⟩ = some (.int .u64 (nA.mat.getD t 0 : Nat))) := fun W W' nA hA hlA f => by
  obtain ⟨x0, x1, x2, x3, x4, x5, x6, x7, x8, x9, x10, x11, x12, x13⟩ := hA.cells f
  exact ⟨by rw [x8, hlA, hbs], by rw [x9, hlA, hbt], by rw [x10, hve], by rw [x12, hbn, hcn], by rw [x13, hbm, hkm], by rw [← hbn]; exact (hA.nx.fr f fun _ _ => trivial).cell t ht, by rw [← hbm]; exact (hA.mt.fr f fun _ _ => trivial).cell t ht⟩
 have HT := Lib.hid ht
 have HNK := Lib.hid (And.intro hnt hkt)
 have hil2 : ¬ ix ≤ LST := by omega
 have gi : decide (ix ≤ LST) = false := decide_eq_false hil2
 obtain ⟨nA, hnA⟩ : ∃ x : Nd, n = x := ⟨_, rfl⟩
 have hac : n.acked m.ms = nA := by
  unfold Nd.acked
  rw [if_neg (show ¬ m.ms.ok = false by show ¬ m.ok = false; rw [ho]; decide), if_neg (show ¬ m.ms.index ≤ n.log.last from hil), hnA]
 have hqA : nA.log = n.log ∧ nA.next = n.next := by rw [← hnA]; exact ⟨rfl, rfl⟩
 have hnn : nt = nA.next.getD t 0 := by rw [← hnA, hnt]
 obtain ⟨NT, hNT⟩ : ∃ x, nt = x := ⟨_, rfl⟩
 rw [hNT] at hnn
 have hlA : nA.log = n.log := hqA.1
 have E : Hid (n.onAcked m.ms = if LST < NT then (nA, []) else (nA, nA.sendTo (t : Nat))) := by
  show _ = _
  rw [E0, hac, hlA, hlast, ← hnn]
  by_cases e : LST < NT
  ·rw [if_pos e, if_pos ⟨ho, e⟩]
  ·rw [if_neg e, if_neg (fun e2 => e e2.2)]
 have TO : Hid (∀ W, PNs X P W b nA q → Calls Try.prog 50 #[.pointer (some ⟨b, 0, none⟩), .int .i64 (t : Nat)] W fun e w' => MOut X W (nA.sendTo (t : Nat)) e w') := fun W hA => to_calls hA (t : Nat) (fun y hy => by
   rw [hqA.2] at hy
   have := hnx y hy; omega) (by rw [hlA]; exact hl) (by rw [hlA]; exact hle)
 have HNA : Hid (nA.next.getD t 0 = NT ∧ nA.log = n.log) := ⟨hnn.symm, hlA⟩
 unfold cM at hW1 ⊢
 have HNN := Lib.hid hnA
 clear hk6 hnlt hlt hr hx hst ho hil hil2 hnt hkt hbs hbt hve hlel hesl hlg hl2 hLST hlast hbn hcn hbm hkm hkt64 E0 hac hqA hnn hNT hlA ht hnA h hme hro htm hs hmt hixx hpv hok hcf hpos hnx hmx hix hpv1 hl hle
 go_enter Try.func48, Try.ntmps48
 go_wp2_with fail
 try rw [hW1]
 try rw [HG0.out]
 clear hW1 hg0 v0
 go_quiet (fail)
 clear y6 v3 gl
 have UQ : Hid (FT W1 (W1.drewN nq)) := (Fr.refl _ W1).drewN nq
 generalize W1.drewN nq = W2 at UQ ⊢
 have F2 := Lib.hid (F1.trans UQ)
 have H2 := Lib.hid (H.tt F2)
 have T2 : Hid (W2.heap[g0]? = some (.cells (cM m) 74 (0, 0))) := UQ.keep _ _ X1 trivial
 have y6 : W2.cell? ⟨b, 6, none⟩ = some (.int .u64 (tm : Nat)) := by rw [← HL.out.2.2.1]; exact (H2.out.cells (Fr.refl _ W2)).2.2.2.2.2.2.1
 have y2 : W2.cell? ⟨b, 2, none⟩ = some (.int .i64 3) := by rw [← HL.out.2.1]; exact (H2.out.cells (Fr.refl _ W2)).2.2.1
 have y0 : W2.cell? ⟨b, 0, none⟩ = some (.int .i64 me) := by rw [← HL.out.1]; exact (H2.out.cells (Fr.refl _ W2)).1
 have v3 := (VH W2 T2).2.1
 have v1 := (VH W2 T2).1
 go_wp2_with fail
 go_quiet ((go_at_call 67; exact Calls.quiet_of_same ((NC.out _).mono fun e w' h => And.intro h.1 h.2.symm)))
 clear y6 y2 y0 v3 v1 g1 g2 NC
 have UQ2 : Hid (FT W2 (W2.drewN nq)) := (Fr.refl _ W2).drewN nq
 generalize W2.drewN nq = W3 at UQ2 ⊢
 have F3 := Lib.hid (F2.trans UQ2)
 have H3 := Lib.hid (H2.tt UQ2)
 have T3 : Hid (W3.heap[g0]? = some (.cells (cM m) 74 (0, 0))) := UQ2.keep _ _ T2 trivial
 have UD : Hid (FT W3 W3.drew) := (Fr.refl _ _).drew
 have v1 := (VH W3 T3).1
 have v7 := (VH W3 T3).2.2.2.2
 go_wp2_with fail
 clear v1 v7
 refine wp_region_cf_all (K := fun _ _ => True) (by kernel_rfl) [(80, 0), (81, 1), (82, 2), (83, 3), (84, 4), (85, 5), (86, 6), (87, 7), (79, 8)] [(0, []), (1, [0]), (2, []), (3, [2]), (4, [3]), (5, [4]), (7, [1, 6]), (8, [7]), (6, [5])] (ckR [(0, .pointer (some ⟨g0, 4, none⟩)), (1, .int .u64 (ix : Nat)), (2, .pointer (some ⟨b, 0, none⟩)), (3, .pointer (some ⟨b, 0, none⟩)), (4, .pointer (some ⟨b, 8, none⟩)), (5, .agg #[.int .u64 (bs : Nat), .int .u64 (bt : Nat), .slice ae le ce]), (6, .int .u64 (LST : Nat)), (7, .bool false), (8, .bool false)] [] 9 0) (by kernel_rfl) (by kernel_rfl) (by kernel_rfl) rfl ?cfall (by kernel_rfl) ?cfend
 case cfall =>
  iterate 8
   refine CfAll.kk rfl rfl rfl (fun xs W hF hE K' hK => ?_) ?_
   ·have HF := Lib.hid hF
    clear hF
    simp only [ckEqs, ckLook, Nat.reduceBEq] at hE
    simp only [fillA, fillL, sA, sB, sC, Act.put, hE] at hK ⊢
    clear hE
    obtain ⟨y8, y9, y10, y12, y13, yn, ym⟩ := CC W3 W n H3 rfl (UD.trans HF)
    have V := VH W ((UD.trans HF).keep _ _ T3 trivial)
    have v4 := V.2.2.1
    have v7 := V.2.2.2.2
    clear V
    skip
    go_simp
    exact hK _ rfl
  refine CfAll.k rfl rfl (fun xs W hF hA hE K' hK => ?_) ?_
  ·have HF := Lib.hid hF
   clear hA hF
   simp only [ckEqs, ckLook, Nat.reduceBEq] at hE
   simp only [fillA, fillL, sA, sB, sC, Act.put, hE] at hK ⊢
   clear hE
   obtain ⟨y8, y9, y10, y12, y13, yn, ym⟩ := CC W3 W n H3 rfl (UD.trans HF)
   have V := VH W ((UD.trans HF).keep _ _ T3 trivial)
   have v4 := V.2.2.1
   have v7 := V.2.2.2.2
   clear V
   have LA1 := Lib.hid (LAST W)
   dsimp only [vL] at LA1
   skip
   go_simp
   (with_reducible refine LA1.out.mono ?_)
   rintro e w8 ⟨rfl, f8⟩
   exact hK _ _ _ rfl f8 rfl
  exact CfAll.nil
 case cfend =>
  intro xs W hF hA
  have HF := Lib.hid hF
  have hE := ckEnd rfl hA
  clear hA hF
  simp only [List.map_cons, List.map_nil, ckEqs, ckLook, Nat.reduceBEq] at hE
  simp only [fillA, fillL, sA, sB, sC, hE]
  clear hE
  have F9 := Lib.hid (UD.trans HF)
  obtain ⟨W9, hW9⟩ : ∃ Y, W = Y := ⟨_, rfl⟩
  rw [hW9] at HF F9 ⊢
  have H9 : Hid (PNs X P W9 b nA q) := by rw [← HNN.out]; exact H3.out.tt F9.out
  have T9 : Hid (W9.heap[g0]? = some (.cells (cM m) 74 (0, 0))) := F9.keep _ _ T3 trivial
  have FP9 : Hid (Fr (fun c _ => ¬ P c) w W9) := F3.trans F9 |>.tT
  clear hW9
  by_cases hb : LST < NT
  ·have gi : decide (LST < NT) = true := decide_eq_true hb
   have E1 : Hid (n.onAcked m.ms = (nA, [])) := E.trans (if_pos hb)
   clear hb E
   have UK : Hid (FT W9 W9.drew) := (Fr.refl _ _).drew
   go_wp2_with fail
   refine wp_region_cf_all (K := fun _ _ => True) (by kernel_rfl) [(120, 0), (121, 1), (122, 2), (123, 3), (124, 4), (125, 5), (126, 6), (127, 7), (128, 8), (129, 9), (130, 10), (131, 11), (132, 12), (133, 13), (134, 14), (135, 15), (136, 16)] [(0, []), (1, [0]), (2, [1]), (3, [2]), (4, [2, 3]), (5, [2, 4]), (6, [2, 5]), (7, [2]), (8, [2, 6, 7]), (9, [2, 8]), (10, [2]), (11, [2, 10]), (12, [2, 11]), (13, [2, 12]), (15, [2, 9, 14]), (16, [2, 15]), (14, [2, 13])] (ckR [(0, .pointer (some ⟨g0, 7, none⟩)), (1, .bool true), (2, .bool true), (3, .pointer (some ⟨b, 0, none⟩)), (4, .pointer (some ⟨b, 0, none⟩)), (5, .pointer (some ⟨b, 12, none⟩)), (6, .slice (some ⟨bn, 0, none⟩) 16 cn), (7, .int .i64 (t : Nat)), (8, .pointer (some ⟨bn, t, none⟩)), (9, .int .u64 (NT : Nat)), (10, .pointer (some ⟨b, 0, none⟩)), (11, .pointer (some ⟨b, 0, none⟩)), (12, .pointer (some ⟨b, 8, none⟩)), (13, .agg #[.int .u64 (bs : Nat), .int .u64 (bt : Nat), .slice ae le ce]), (14, .int .u64 (LST : Nat)), (15, .bool true), (16, .bool true)] [] 17 0) (by kernel_rfl) (by kernel_rfl) (by kernel_rfl) rfl ?cfall (by kernel_rfl) ?cfend
   case cfall =>
    iterate 16
     refine CfAll.kk rfl rfl rfl (fun xs W hF hE K' hK => ?_) ?_
     ·have HF := Lib.hid hF
      clear hF
      simp only [ckEqs, ckLook, Nat.reduceBEq] at hE
      simp only [fillA, fillL, sA, sB, sC, Act.put, hE] at hK ⊢
      clear hE
      obtain ⟨y8, y9, y10, y12, y13, yn, ym⟩ := CC W9 W nA H9 HNA.2 (UK.trans HF)
      have V := VH W ((UK.trans HF).keep _ _ T9 trivial)
      have v4 := V.2.2.1
      have v7 := V.2.2.2.2
      clear V
      rw [HNA.out.1] at yn
      skip
      go_simp
      exact hK _ rfl
    refine CfAll.k rfl rfl (fun xs W hF hA hE K' hK => ?_) ?_
    ·have HF := Lib.hid hF
     clear hA hF
     simp only [ckEqs, ckLook, Nat.reduceBEq] at hE
     simp only [fillA, fillL, sA, sB, sC, Act.put, hE] at hK ⊢
     clear hE
     obtain ⟨y8, y9, y10, y12, y13, yn, ym⟩ := CC W9 W nA H9 HNA.2 (UK.trans HF)
     have V := VH W ((UK.trans HF).keep _ _ T9 trivial)
     have v4 := V.2.2.1
     have v7 := V.2.2.2.2
     clear V
     rw [HNA.out.1] at yn
     have LA1 := Lib.hid (LAST W)
     dsimp only [vL] at LA1
     skip
     go_simp
     (with_reducible refine LA1.out.mono ?_)
     rintro e w8 ⟨rfl, f8⟩
     exact hK _ _ _ rfl f8 rfl
    exact CfAll.nil
   case cfend =>
    intro xs W hF hA
    have HF := Lib.hid hF
    have hE := ckEnd rfl hA
    clear hA hF
    simp only [List.map_cons, List.map_nil, ckEqs, ckLook, Nat.reduceBEq] at hE
    simp only [fillA, fillL, sA, sB, sC, hE]
    clear hE
    have FK := Lib.hid (UK.trans HF)
    clear gi
    go_wp2
    go_ret
    rw [E1.out]
    exact ⟨X, P, q, _, [], rfl, H9.tt FK, (Aft.of FP9 H.px).tr FK, OwnMs.nil _ _ _, rfl⟩
  ·have gi : decide (LST < NT) = false := decide_eq_false hb
   have E1 : Hid (n.onAcked m.ms = (nA, nA.sendTo (t : Nat))) := E.trans (if_neg hb)
   clear hb E
   have UK : Hid (FT W9 W9.drew) := (Fr.refl _ _).drew
   go_wp2_with fail
   refine wp_region_cf_all (K := fun _ _ => True) (by kernel_rfl) [(120, 0), (121, 1), (122, 2), (123, 3), (124, 4), (125, 5), (126, 6), (127, 7), (128, 8), (129, 9), (130, 10), (131, 11), (132, 12), (133, 13), (134, 14), (135, 15), (136, 16)] [(0, []), (1, [0]), (2, [1]), (3, [2]), (4, [2, 3]), (5, [2, 4]), (6, [2, 5]), (7, [2]), (8, [2, 6, 7]), (9, [2, 8]), (10, [2]), (11, [2, 10]), (12, [2, 11]), (13, [2, 12]), (15, [2, 9, 14]), (16, [2, 15]), (14, [2, 13])] (ckR [(0, .pointer (some ⟨g0, 7, none⟩)), (1, .bool true), (2, .bool true), (3, .pointer (some ⟨b, 0, none⟩)), (4, .pointer (some ⟨b, 0, none⟩)), (5, .pointer (some ⟨b, 12, none⟩)), (6, .slice (some ⟨bn, 0, none⟩) 16 cn), (7, .int .i64 (t : Nat)), (8, .pointer (some ⟨bn, t, none⟩)), (9, .int .u64 (NT : Nat)), (10, .pointer (some ⟨b, 0, none⟩)), (11, .pointer (some ⟨b, 0, none⟩)), (12, .pointer (some ⟨b, 8, none⟩)), (13, .agg #[.int .u64 (bs : Nat), .int .u64 (bt : Nat), .slice ae le ce]), (14, .int .u64 (LST : Nat)), (15, .bool false), (16, .bool false)] [] 17 0) (by kernel_rfl) (by kernel_rfl) (by kernel_rfl) rfl ?cfall (by kernel_rfl) ?cfend
   case cfall =>
    iterate 16
     refine CfAll.kk rfl rfl rfl (fun xs W hF hE K' hK => ?_) ?_
     ·have HF := Lib.hid hF
      clear hF
      simp only [ckEqs, ckLook, Nat.reduceBEq] at hE
      simp only [fillA, fillL, sA, sB, sC, Act.put, hE] at hK ⊢
      clear hE
      obtain ⟨y8, y9, y10, y12, y13, yn, ym⟩ := CC W9 W nA H9 HNA.2 (UK.trans HF)
      have V := VH W ((UK.trans HF).keep _ _ T9 trivial)
      have v4 := V.2.2.1
      have v7 := V.2.2.2.2
      clear V
      rw [HNA.out.1] at yn
      skip
      go_simp
      exact hK _ rfl
    refine CfAll.k rfl rfl (fun xs W hF hA hE K' hK => ?_) ?_
    ·have HF := Lib.hid hF
     clear hA hF
     simp only [ckEqs, ckLook, Nat.reduceBEq] at hE
     simp only [fillA, fillL, sA, sB, sC, Act.put, hE] at hK ⊢
     clear hE
     obtain ⟨y8, y9, y10, y12, y13, yn, ym⟩ := CC W9 W nA H9 HNA.2 (UK.trans HF)
     have V := VH W ((UK.trans HF).keep _ _ T9 trivial)
     have v4 := V.2.2.1
     have v7 := V.2.2.2.2
     clear V
     rw [HNA.out.1] at yn
     have LA1 := Lib.hid (LAST W)
     dsimp only [vL] at LA1
     skip
     go_simp
     (with_reducible refine LA1.out.mono ?_)
     rintro e w8 ⟨rfl, f8⟩
     exact hK _ _ _ rfl f8 rfl
    exact CfAll.nil
   case cfend =>
    intro xs W hF hA
    have HF := Lib.hid hF
    have hE := ckEnd rfl hA
    clear hA hF
    simp only [List.map_cons, List.map_nil, ckEqs, ckLook, Nat.reduceBEq] at hE
    simp only [fillA, fillL, sA, sB, sC, hE]
    clear hE
    have FK := Lib.hid (UK.trans HF)
    clear gi
    have TOC1 := Lib.hid (TO W (H9.tt FK))
    clear TO
    go_wp2_with fail
    (with_reducible refine TOC1.out.mono ?_)
    rintro e W7 ⟨⟨v, mvs, rfl, o7, e7⟩, f7⟩
    have HH := Lib.hid (And.intro o7 (And.intro e7 f7))
    clear o7 e7 f7 TOC1
    go_wp2
    go_ret
    rw [E1.out]
    exact ⟨X, P, q, _, mvs, rfl, (H9.tt FK).tt HH.2.2, ((Aft.of FP9 H.px).tr FK).tr HH.2.2, HH.1.lo (FP9.trans (FK.tT)).size, HH.2.1⟩
end
end Go.Proofs.Ytmjccpfchhnfhaa
/- follow: OnAcked (printed by fl6.py). -/
namespace Go.Proofs.Ytmjccpfchhnfhaa
open Go.RowKit
set_option linter.unusedVariables false
set_option linter.unusedSimpArgs false
section
variable {X P : Nat → Prop} {w w' : World} {b : Nat} {n n' : Nd} {q q' : NV}
set_option maxRecDepth 100000 in
set_option maxHeartbeats 8000000 in
theorem onAckedZ_calls [Old] (h : PNs X P w b n q) (m : MV) (hk6 : m.kind ≠ 6) (hcf : 0 < n.conf.length ∧ n.conf.length ≤ 12) (hpos : ∀ x ∈ n.conf, 0 ≤ x) (hnx : ∀ y ∈ n.next, y + 1 < 18446744073709551616) (hmx : ∀ y ∈ n.mat, y + 1 < 18446744073709551616) (hix : m.index + 1 < 18446744073709551616) (hl : n.log.last + 1 < 18446744073709551616) (hle : n.log.es.length ≤ 900000) :
  Calls Try.prog 48 #[.pointer (some ⟨b, 0, none⟩), .agg (cM m)] w fun e w' => NOut X P w b (n.onAcked m.ms) e w' := by
 obtain ⟨W1, hW1, F1, X1⟩ := mbox w m
 obtain ⟨g0, hg0⟩ : ∃ x, w.heap.size = x := ⟨_, rfl⟩
 rw [hg0] at X1
 have H := Lib.hid h
 have HG0 := Lib.hid hg0
 have gb : Hid (g0 ≠ b) := by have := lt_of_some h.top; show _ ≠ _; omega
 obtain ⟨k, hk⟩ : ∃ x, m.kind = x := ⟨_, rfl⟩
 have v0 : W1.cell? ⟨g0, 0, none⟩ = some (.int .i64 k) := by rw [← hk]; exact (mcells X1.out).1
 have k5 : (k == 6) = false := by rw [← hk]; simpa using hk6
 have k5' : (k != 6) = true := by rw [bne, k5]; rfl
 have E : Hid (n.onAcked m.ms = (n, [])) := if_pos hk6
 unfold cM at hW1 ⊢
 clear h hk hk6 hcf hpos hnx hmx hix hl hle
 go_enter Try.func48, Try.ntmps48
 go_wp2
 try rw [hW1]
 go_ret
 rw [E.out]
 exact ⟨X, P, q, _, [], rfl, H.tt F1, .tt F1 H.px, OwnMs.nil _ _ _, rfl⟩
theorem onAcked_calls [Old] (h : PNs X P w b n q) (m : MV) (hcf : 0 < n.conf.length ∧ n.conf.length ≤ 12) (hpos : ∀ x ∈ n.conf, 0 ≤ x) (hnx : ∀ y ∈ n.next, y + 1 < 18446744073709551616) (hmx : ∀ y ∈ n.mat, y + 1 < 18446744073709551616) (hix : m.index + 1 < 18446744073709551616) (hpv1 : m.kind = 6 → m.prev + 1 < 18446744073709551616) (hl : n.log.last + 1 < 18446744073709551616) (hle : n.log.es.length ≤ 900000) :
  Calls Try.prog 48 #[.pointer (some ⟨b, 0, none⟩), .agg (cM m)] w fun e w' => NOut X P w b (n.onAcked m.ms) e w' := by
 by_cases hk6 : m.kind = 6
 ·by_cases hup : n.tm < m.tm
  ·exact onAckedU_calls h m hk6 hup hcf hpos hnx hmx hix (hpv1 hk6) hl hle
  ·by_cases hlt : m.tm < n.tm
   ·exact onAckedP_calls h m hk6 hup hlt hcf hpos hnx hmx hix (hpv1 hk6) hl hle
   ·by_cases hr : n.role = 3
    ·by_cases hx : m.src = n.me
     ·exact onAckedM_calls h m hk6 hup hlt hr hx hcf hpos hnx hmx hix (hpv1 hk6) hl hle
     ·by_cases h16 : 0 ≤ m.src ∧ m.src < 16
      ·obtain ⟨t, ht⟩ := Int.eq_ofNat_of_zero_le h16.1
       have ht16 : t < 16 := by omega
       cases ho : m.ok with
       | false => exact onAckedD_calls h m hk6 hup hlt hr hx t ht16 ht ho hcf hpos hnx hmx hix (hpv1 hk6) hl hle
       | true =>
        by_cases hil : m.index ≤ n.log.last
        ·exact onAckedO_calls h m hk6 hup hlt hr hx t ht16 ht ho hil hcf hpos hnx hmx hix (hpv1 hk6) hl hle
        ·exact onAckedA_calls h m hk6 hup hlt hr hx t ht16 ht ho hil hcf hpos hnx hmx hix (hpv1 hk6) hl hle
      ·exact onAckedN_calls h m hk6 hup hlt hr hx h16 hcf hpos hnx hmx hix (hpv1 hk6) hl hle
    ·exact onAckedR_calls h m hk6 hup hlt hr hcf hpos hnx hmx hix (hpv1 hk6) hl hle
 ·exact onAckedZ_calls h m hk6 hcf hpos hnx hmx hix hl hle
end
end Go.Proofs.Ytmjccpfchhnfhaa
/- Nodes: frames; how great they may be; what a node does with a message, in memory. -/
namespace Go.Proofs.Ytmjccpfchhnfhaa
open Go.RowKit
set_option linter.unusedVariables false
set_option linter.unusedSimpArgs false
structure Gd (B : Nat) (n : Nd) : Prop where
 bn : Bn B n
 me : ∃ mN : Nat, n.me = (mN : Nat) ∧ mN < 16
 cf : 0 < n.conf.length ∧ n.conf.length ≤ 12
 pos : ∀ x ∈ n.conf, 0 ≤ x
 ye : n.yes.length ≤ B
theorem Gd.mono {B B' : Nat} {n : Nd} (h : Gd B n) (hb : B ≤ B') : Gd B' n := ⟨h.bn.mono hb, h.me, h.cf, h.pos, Nat.le_trans h.ye hb⟩
theorem Gd.es {B : Nat} {n : Nd} (h : Gd B n) : n.log.es.length ≤ B := by have := h.bn.last; unfold Lg.last at this; omega
theorem Gd.up {B B' : Nat} {n n' : Nd} (h : Gd B n) (hu : Nd.Up n n') (hb : Bn B' n') (hy : n'.yes.length ≤ B') : Gd B' n' := ⟨hb, by rw [hu.me]; exact h.me, by rw [hu.conf]; exact h.cf, by rw [hu.conf]; exact h.pos, hy⟩
namespace Nd
variable {B : Nat} {n : Nd} {m : Ms}
theorem follow_y (n : Nd) (t : Nat) (l : Int) : (n.follow t l).yes = [] := by unfold follow; split <;> rfl
theorem askT_m (n : Nd) : n.askT.1.yes.length ≤ max 1 n.yes.length := by
 unfold askT
 split
 ·dsimp only
  split
  ·exact Nat.zero_le _
  ·show 1 ≤ _; omega
 ·exact Nat.le_max_right _ _
theorem askF_y (h : n.yes.length ≤ B) : n.askF.1.yes.length ≤ B + 1 := by
 unfold askF
 split
 ·dsimp only
  split
  ·have := askT_m ({ n with role := 1, ld := -1, yes := [n.me] } : Nd)
   have e : ({ n with role := 1, ld := -1, yes := [n.me] } : Nd).yes.length = 1 := rfl
   omega
  ·show 1 ≤ _; omega
 ·exact Nat.le_succ_of_le h
theorem onAsk_y (h : n.yes.length ≤ B) : (n.onAsk m).1.yes.length ≤ B := by
 unfold onAsk
 split
 ·dsimp only
  have h1 : (if m.kind = 1 ∧ n.tm < m.tm then n.follow m.tm (-1) else n).yes.length ≤ B := by
   split
   ·rw [follow_y]; exact Nat.zero_le _
   ·exact h
  generalize (if m.kind = 1 ∧ n.tm < m.tm then n.follow m.tm (-1) else n) = n1 at h1
  split
  ·exact h1
  ·exact h1
 ·exact h
theorem onAnswer_y (h : n.yes.length ≤ B) : (n.onAnswer m).1.yes.length ≤ B + 1 := by
 unfold onAnswer
 split
 ·dsimp only
  have h1 : (if n.tm < m.tm ∧ (m.ok = false ∨ m.kind = 2) then n.follow m.tm (-1) else n).yes.length ≤ B := by
   split
   ·rw [follow_y]; exact Nat.zero_le _
   ·exact h
  generalize (if n.tm < m.tm ∧ (m.ok = false ∨ m.kind = 2) then n.follow m.tm (-1) else n) = n1 at h1
  have h2 : ({ n1 with yes := n1.yes ++ [m.src] } : Nd).yes.length ≤ B + 1 := by show (n1.yes ++ [m.src]).length ≤ _; simp; omega
  split
  ·split
   ·unfold chosen
    split
    ·have := askT_m ({ n1 with yes := n1.yes ++ [m.src] } : Nd)
     omega
    ·exact Nat.zero_le _
   ·exact h2
  ·exact Nat.le_succ_of_le h1
 ·exact Nat.le_succ_of_le h
theorem sureR_y (n : Nd) (r : Nat) : (n.sureR r).yes = n.yes := by unfold sureR; split <;> rfl
theorem onAppend_y (h : n.yes.length ≤ B) : (n.onAppend m).1.yes.length ≤ B := by
 unfold onAppend
 split
 ·exact h
 ·split
  ·exact h
  ·unfold taken
   split
   ·show (n.follow m.tm m.src).yes.length ≤ B
    rw [follow_y]; exact Nat.zero_le _
   ·show (n.follow m.tm m.src).yes.length ≤ B
    rw [follow_y]; exact Nat.zero_le _
theorem onAcked_y (h : n.yes.length ≤ B) : (n.onAcked m).1.yes.length ≤ B := by
 have ha : (n.acked m).yes = n.yes := by
  unfold acked
  split
  ·rfl
  ·split
   ·exact sureR_y _ _
   ·rfl
 unfold onAcked
 split
 ·exact h
 ·split
  ·rw [follow_y]; exact Nat.zero_le _
  ·split
   ·exact h
   ·split
    ·rw [ha]; exact h
    ·rw [ha]; exact h
theorem propose_y (n : Nd) (k : Int) (d : List UInt8) : (n.propose k d).1.yes = n.yes := by
 unfold propose
 split
 ·rfl
 ·split
  ·rfl
  ·split
   ·rfl
   ·exact sureR_y _ _
end Nd
section
variable {X P X' P' : Nat → Prop} {w w' : World} {b : Nat} {n n' : Nd} {q q' : NV}
theorem PNs.frK [Old] [NoOld] (h : PNs X P w b n q) {K : Nat → Obj → Prop} (hf : Fr K w w') (hk : ∀ c o, w.heap[c]? = some o → P c ∨ RO X c o → K c o) : PNs X P w' b n q := by
 have a16 : ∀ {c l}, A16 w c l → P c → A16 w' c l := fun {c l} ha hp => ha.fr hf fun o ho => hk _ _ ho (.inl hp)
 have cf2 : IntsAt (RO X) w' q.vc n.conf := (((h.cf.mono3 (K' := fun c o => RO X c o ∧ K c o) fun c o ho hr => ⟨hr, hk c o ho (.inr hr)⟩).fr hf fun c o q => q.2).mono fun c o q => q.1)
 exact ⟨hf.keep _ _ h.top (hk _ _ h.top (.inl h.pb)), cf2, ownsRow_fr h.ye hf fun c o e ho => hk c o ho (.inl (h.yp c e)), h.yp, h.ev.fr hf fun c o ho hr => hk c o ho (.inr hr), h.ee, a16 h.nx h.pn, a16 h.mt h.pm, h.nm, h.pb, h.pn, h.pm, h.px, fun c hc => Nat.lt_of_lt_of_le (h.hx c hc) hf.size, h.od⟩
theorem PNs.mrow [Old] [NoOld] (h : PNs X P w b n q) {v : Value} {k : Nat} {xs : List Value} {B : Nat} (hv : w.ownsRow B 74 10 v k xs) (hx : ∀ c, v.ownBlock = some c → ¬ X c) (hf : Fr (fun c _ => v.ownBlock ≠ some c) w w') : PNs X P w' b n q :=
 h.frK hf fun c o ho hc e => by
  rcases hc with hc | hc
  ·exact hx c e (h.px c hc)
  ·obtain ⟨cur, h2⟩ := own_tag hv e
   rw [ho] at h2
   cases h2
   exact hc.ne0 rfl (by decide)
theorem OwnMs.app [Old] [NoOld] {B : Nat} {W W' : World} {v v' : Value} {ts bs : List MV} (ha : OwnMs X B W v ts) (hb : ∀ m ∈ bs, MsAt X W m) (hX : ∀ c, X c → c < W.heap.size) (hr : W'.ownsRow B 74 10 v' (ts ++ bs).length ((ts ++ bs).flatMap encM)) (hf : Fr (fun c _ => v.ownBlock ≠ some c) W W') (hn : OwnNext W v v') : OwnMs X B W' v' (ts ++ bs) := by
 refine ⟨hr, fun c e hx => ?_, fun m hm => ?_⟩
 ·rcases hn with h | ⟨k, h, hk⟩
  ·rw [h] at e; exact ha.off c e hx
  ·rw [h] at e; cases e; have := hX c hx; omega
 ·have h1 : MsAt X W m := by
   rcases List.mem_append.1 hm with h | h
   ·exact ha.at' m h
   ·exact hb m h
  refine h1.keep hf fun c o ho hr e => ?_
  obtain ⟨cur, h2⟩ := own_tag ha.row e
  rw [ho] at h2
  cases h2
  exact hr.ne0 rfl (by decide)
theorem Aft.mrow {v : Value} {k : Nat} {xs : List Value} {B : Nat} (h : Aft X P X' P' w w') (hv : w'.ownsRow B 74 10 v k xs) (hB : ∀ c, v.ownBlock = some c → w.heap.size ≤ c ∧ ¬ X' c) {w'' : World} (hf : Fr (fun c _ => v.ownBlock ≠ some c) w' w'') : Aft X P X' P' w w'' :=
 ⟨((h.fr.mono (K' := fun c _ => ¬ P c ∧ c < w.heap.size) fun c _ q => q.1).trans (hf.mono fun c _ q e => by have := (hB c e).1; have := q.2; omega)).within, h.xx, h.pp, h.nw, h.hp⟩
theorem ownsRow_form {w : World} {B : Nat} {e : TypeId} {s : Nat} {v : Value} {n : Nat} {xs : List Value} (h : w.ownsRow B e s v n xs) : ∃ g c, v = .slice g n c := by
 rcases h.2 with ⟨h, h0⟩ | ⟨g, cap, cur, h, _⟩
 ·exact ⟨none, 0, by rw [h, h0]⟩
 ·exact ⟨_, _, h⟩
end
end Go.Proofs.Ytmjccpfchhnfhaa
/- Law 12: what a node does with a message, in memory: hears. -/
namespace Go.Proofs.Ytmjccpfchhnfhaa
open Go.RowKit
set_option linter.unusedVariables false
set_option linter.unusedSimpArgs false
theorem wpList_append_mso {K0 : Nat → Obj → Prop} {ops : Array Oper} {rest : List Oper} {o : Oper} {a : Act} {Q : Exit → Act → World → Prop} (W : World) (hgd : o.guard = none) (s x : Operand)
  (ho : o.op = .call { callee := .builtin .append, args := #[s, x], argTypes := #[28, 28] }) (v : Value) (T : List MV) (hs : a.eval s = v) (hown : Hid (W.ownsRow 0 74 10 v T.length (T.flatMap encM)))
  (vx : Value) (ys : List MV) (hx : a.eval x = vx) (hvx : Hid (RowsAt K0 W vx 10 encM ys)) (N : Nat) (hN : Hid ((T ++ ys).length = N)) (hn : N ≤ 1000000)
  (h : ∀ g c w', Hid (w'.ownsRow 0 74 10 (.slice g N c) N ((T ++ ys).flatMap encM)) → Hid (Fr (fun b _ => v.ownBlock ≠ some b) W w') → Hid (OwnNext W v (.slice g N c)) → wpList Try.prog ops Q rest (a.put o.dst (.slice g N c)) w') :
  wpList Try.prog ops Q (o :: rest) a W := by
 have f0 : FT { W with heap := #[] } W := ⟨rfl, rfl, rfl, Nat.zero_le _, fun b o hb => by simp at hb⟩
 refine wpList_append_mss { W with heap := #[] } W f0 hgd s x ho v T hs ?_ vx ys hx hvx (T ++ ys) rfl N hN hn fun g c w' h1 _ h3 h4 => h g c w' h1 h3 h4
 exact hown
theorem own_base {w : World} {B : Nat} {e : TypeId} {s : Nat} {v : Value} {n : Nat} {xs : List Value} (h : w.ownsRow B e s v n xs) : ∀ c, v.ownBlock = some c → B ≤ c := fun c hc => by
 rcases h.2 with ⟨h, _⟩ | ⟨g, cap, cur, h, hb, _⟩
 ·rw [h] at hc; cases hc
 ·rw [h] at hc; cases hc; exact hb
namespace Nd
theorem toAll_len (n : Nd) (m : Ms) : (n.toAll m).length ≤ n.conf.length := by
 unfold toAll others
 rw [List.length_map]
 exact List.length_filter_le _ _
theorem askT_len (n : Nd) : n.askT.2.length ≤ n.conf.length := by
 unfold askT
 split
 ·dsimp only
  split
  ·exact Nat.zero_le _
  ·exact toAll_len _ _
 ·exact Nat.zero_le _
theorem askF_len (n : Nd) : n.askF.2.length ≤ n.conf.length := by
 unfold askF
 split
 ·dsimp only
  split
  ·exact askT_len _
  ·exact toAll_len _ _
 ·exact Nat.zero_le _
theorem onAsk_len (n : Nd) (m : Ms) : (n.onAsk m).2.length ≤ 1 := by
 unfold onAsk
 split
 ·exact Nat.le_refl _
 ·exact Nat.zero_le _
theorem onAnswer_len (n : Nd) (m : Ms) : (n.onAnswer m).2.length ≤ n.conf.length := by
 unfold onAnswer
 split
 ·dsimp only
  have h1 : (if n.tm < m.tm ∧ (m.ok = false ∨ m.kind = 2) then n.follow m.tm (-1) else n).conf = n.conf := by
   split
   ·exact (follow_up n _ _).conf
   ·rfl
  generalize (if n.tm < m.tm ∧ (m.ok = false ∨ m.kind = 2) then n.follow m.tm (-1) else n) = n1 at h1
  split
  ·split
   ·unfold chosen
    split
    ·rw [← h1]; exact askT_len _
    ·exact Nat.zero_le _
   ·exact Nat.zero_le _
  ·exact Nat.zero_le _
 ·exact Nat.zero_le _
theorem onAppend_len (n : Nd) (m : Ms) : (n.onAppend m).2.length ≤ 1 := by
 unfold onAppend
 split
 ·exact Nat.zero_le _
 ·split
  ·exact Nat.le_refl _
  ·unfold taken
   split <;> exact Nat.le_refl _
theorem sendTo_len1 (n : Nd) (x : Int) : (n.sendTo x).length ≤ 1 := by
 unfold sendTo
 split
 ·exact Nat.zero_le _
 ·exact Nat.le_refl _
theorem onAcked_len (n : Nd) (m : Ms) : (n.onAcked m).2.length ≤ 1 := by
 unfold onAcked
 split
 ·exact Nat.zero_le _
 ·split
  ·exact Nat.zero_le _
  ·split
   ·exact Nat.zero_le _
   ·split
    ·exact Nat.zero_le _
    ·exact sendTo_len1 _ _
theorem beat_len (n : Nd) : n.beat.length ≤ n.conf.length := by
 have h : ∀ l : List Int, (l.flatMap n.sendTo).length ≤ l.length := fun l => by
  induction l with
  | nil => exact Nat.le_refl _
  | cons x l ih =>
   rw [List.flatMap_cons, List.length_append, List.length_cons]
   have := sendTo_len1 n x
   omega
 exact Nat.le_trans (h _) (List.length_filter_le _ _)
end Nd
section
variable {X P : Nat → Prop} {w w' : World} {b : Nat} {n n' : Nd} {q q' : NV}
structure Acc [Old] (X P : Nat → Prop) (w W : World) (b : Nat) (n : Nd) (ms : List Ms) (X' P' : Nat → Prop) (q : NV) (v : Value) (mvs : List MV) : Prop where
 pn : PNs X' P' W b n q
 af : Aft X P X' P' w W
 ow : OwnMs X' w.heap.size W v mvs
 eq : mvs.map MV.ms = ms
theorem Acc.first [Old] [NoOld] {r : Nd × List Ms} {e : Ending} {w1 : World} (f : FT w w1) (h : NOut X P w1 b r e w') : ∃ X' P' q' v mvs, e = .returned v ∧ Acc X P w w' b r.1 r.2 X' P' q' v mvs := by
 obtain ⟨X', P', q', v, mvs, h1, h2, h3, h4, h5⟩ := h
 exact ⟨X', P', q', v, mvs, h1, h2, .lead f h3, h4.lo f.size, h5⟩
theorem Acc.call [Old] [NoOld] {W W2 : World} {ms : List Ms} {X1 P1 : Nat → Prop} {q1 : NV} {v1 : Value} {mvs : List MV} {n1 : Nd} (h : Acc X P w W b n1 ms X1 P1 q1 v1 mvs) {r : Nd × List Ms} {e : Ending} (k : NOut X1 P1 W b r e W2) :
  ∃ X2 P2 q2 v2 mv2, e = .returned v2 ∧ PNs X2 P2 W2 b r.1 q2 ∧ Aft X1 P1 X2 P2 W W2 ∧ Aft X P X2 P2 w W2 ∧ OwnMs X2 w.heap.size W2 v1 mvs ∧ OwnMs X2 W.heap.size W2 v2 mv2 ∧ mv2.map MV.ms = r.2 := by
 obtain ⟨X2, P2, q2, v2, mv2, h1, h2, h3, h4, h5⟩ := k
 exact ⟨X2, P2, q2, v2, mv2, h1, h2, h3, h.af.trans h3, h.ow.aft h3, h4, h5⟩
theorem Acc.app [Old] [NoOld] {W2 W3 : World} {X2 P2 : Nat → Prop} {q2 : NV} {v1 v2 v3 : Value} {mvs mv2 : List MV} {ms1 ms2 : List Ms} {n2 : Nd} {B2 : Nat} (h2 : PNs X2 P2 W2 b n2 q2) (af : Aft X P X2 P2 w W2) (o1 : OwnMs X2 w.heap.size W2 v1 mvs) (o2 : OwnMs X2 B2 W2 v2 mv2) (e1 : mvs.map MV.ms = ms1) (e2 : mv2.map MV.ms = ms2)
  (hr : W3.ownsRow 0 74 10 v3 (mvs ++ mv2).length ((mvs ++ mv2).flatMap encM)) (hf : Fr (fun c _ => v1.ownBlock ≠ some c) W2 W3) (hn : OwnNext W2 v1 v3) : Acc X P w W3 b n2 (ms1 ++ ms2) X2 P2 q2 v3 (mvs ++ mv2) := by
 have hb := own_base o1.row
 have hs : w.heap.size ≤ W2.heap.size := af.fr.size
 refine ⟨h2.mrow o1.row o1.off hf, af.mrow o1.row (fun c e => ⟨hb c e, o1.off c e⟩) hf, o1.app o2.at' h2.hx (own_re hr fun c e => ?_) hf hn, by rw [List.map_append, e1, e2]⟩
 rcases hn with q | ⟨k, q, hk⟩
 ·rw [q] at e; exact hb c e
 ·rw [q] at e; cases e; omega
end
end Go.Proofs.Ytmjccpfchhnfhaa
