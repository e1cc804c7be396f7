/- Texts of the proofs, part 33: what the functions that they reach do, walked; no conditions beyond those that each states. -/
import Derived.Test.YtmjccpfchhnfhaaZz6aeca4c604
set_option linter.unusedVariables false
set_option linter.unusedSimpArgs false
/- follow: OnAcked (printed by fl6.py). -/
namespace Go.Proofs.Ytmjccpfchhnfhaa
open Go.RowKit
set_option linter.unusedVariables false
set_option linter.unusedSimpArgs false
section
variable {X P : Nat → Prop} {w w' : World} {b : Nat} {n n' : Nd} {q q' : NV}
set_option maxRecDepth 100000 in
set_option maxHeartbeats 8000000 in
theorem onAckedO_calls [Old] (h : PNs X P w b n q) (m : MV) (hk6 : m.kind = 6) (hnlt : ¬ n.tm < m.tm) (hlt : ¬ m.tm < n.tm) (hr : n.role = 3) (hx : m.src ≠ n.me) (t : Nat) (ht : t < 16) (hst : m.src = (t : Nat)) (ho : m.ok = true) (hil : m.index ≤ n.log.last) (hcf : 0 < n.conf.length ∧ n.conf.length ≤ 12) (hpos : ∀ x ∈ n.conf, 0 ≤ x) (hnx : ∀ y ∈ n.next, y + 1 < 18446744073709551616) (hmx : ∀ y ∈ n.mat, y + 1 < 18446744073709551616) (hix : m.index + 1 < 18446744073709551616) (hpv1 : m.prev + 1 < 18446744073709551616) (hl : n.log.last + 1 < 18446744073709551616) (hle : n.log.es.length ≤ 900000) :
  Calls Try.prog 48 #[.pointer (some ⟨b, 0, none⟩), .agg (cM m)] w fun e w' => NOut X P w b (n.onAcked m.ms) e w' := by
 obtain ⟨W1, hW1, F1, X1⟩ := mbox w m
 obtain ⟨g0, hg0⟩ : ∃ x, w.heap.size = x := ⟨_, rfl⟩
 rw [hg0] at X1
 have H := Lib.hid h
 have HG0 := Lib.hid hg0
 have gb : Hid (g0 ≠ b) := by have := lt_of_some h.top; show _ ≠ _; omega
 obtain ⟨me, hme⟩ : ∃ x, n.me = x := ⟨_, rfl⟩
 obtain ⟨ro, hro⟩ : ∃ x, n.role = x := ⟨_, rfl⟩
 obtain ⟨tm, htm⟩ : ∃ x, n.tm = x := ⟨_, rfl⟩
 obtain ⟨s, hs⟩ : ∃ x, m.src = x := ⟨_, rfl⟩
 obtain ⟨mt, hmt⟩ : ∃ x, m.tm = x := ⟨_, rfl⟩
 obtain ⟨ix, hixx⟩ : ∃ x, m.index = x := ⟨_, rfl⟩
 obtain ⟨pv, hpv⟩ : ∃ x, m.prev = x := ⟨_, rfl⟩
 obtain ⟨ok, hok⟩ : ∃ x, m.ok = x := ⟨_, rfl⟩
 have HL := Lib.hid (And.intro hme (And.intro hro (And.intro htm (And.intro hs (And.intro hmt (And.intro hixx (And.intro hpv hok)))))))
 have VH : Hid (∀ W : World, W.heap[g0]? = some (.cells (cM m) 74 (0, 0)) → W.cell? ⟨g0, 1, none⟩ = some (.int .i64 s) ∧ W.cell? ⟨g0, 3, none⟩ = some (.int .u64 (mt : Nat)) ∧ W.cell? ⟨g0, 4, none⟩ = some (.int .u64 (ix : Nat)) ∧ W.cell? ⟨g0, 5, none⟩ = some (.int .u64 (pv : Nat)) ∧ W.cell? ⟨g0, 7, none⟩ = some (.bool ok)) := fun W t => by
  obtain ⟨v0, v1, v2, v3, v4, v5, v6, v7, v8, v9⟩ := mcells t
  exact ⟨by rw [v1, hs], by rw [v3, hmt], by rw [v4, hixx], by rw [v5, hpv], by rw [v7, hok]⟩
 have v0 : W1.cell? ⟨g0, 0, none⟩ = some (.int .i64 6) := by rw [← hk6]; exact (mcells X1.out).1
 have y6 : W1.cell? ⟨b, 6, none⟩ = some (.int .u64 (tm : Nat)) := by rw [← htm]; exact (h.cells F1.out).2.2.2.2.2.2.1
 have v3 := (VH W1 X1).2.1
 have gl : decide (tm < mt) = false := by rw [← hmt, ← htm]; exact decide_eq_false hnlt
 have g1 : decide (mt < tm) = false := by rw [← hmt, ← htm]; exact decide_eq_false hlt
 obtain rfl : ro = 3 := by rw [← hro]; exact hr
 have g2 : (s == me) = false := by rw [← hs, ← hme]; simpa using hx
 obtain rfl : s = (t : Nat) := by rw [← hs]; exact hst
 obtain rfl : ok = true := by rw [← hok]; exact ho
 have NC := Lib.hid (fun W => fnode_calls W (t : Nat))
 rw [decide_eq_true (show (0 : Int) ≤ (t : Nat) ∧ ((t : Nat) : Int) < 16 by omega)] at NC
 obtain ⟨bs, hbs⟩ : ∃ x, n.log.base = x := ⟨_, rfl⟩
 obtain ⟨bt, hbt⟩ : ∃ x, n.log.bt = x := ⟨_, rfl⟩
 obtain ⟨ae, le, ce, hve, hlel, hesl, hlg⟩ := h.lg
 have hl2 : bs + le + 1 < 18446744073709551616 := by unfold Lg.last at hl; omega
 obtain ⟨LST, hLST⟩ : ∃ x, bs + le = x := ⟨_, rfl⟩
 have hlast : n.log.last = LST := by unfold Lg.last; omega
 have LAST := Lib.hid (fun W => tlast_calls W bs bt ae le ce (by omega))
 rw [hLST] at LAST
 obtain ⟨bn, hbn⟩ : ∃ x, q.bn = x := ⟨_, rfl⟩
 obtain ⟨cn, hcn⟩ : ∃ x, q.cn = x := ⟨_, rfl⟩
 obtain ⟨bm, hbm⟩ : ∃ x, q.bm = x := ⟨_, rfl⟩
 obtain ⟨km, hkm⟩ : ∃ x, q.cm = x := ⟨_, rfl⟩
 have HQ := Lib.hid (And.intro hbn (And.intro hcn (And.intro hbm (And.intro hkm (And.intro hve (And.intro hbs hbt))))))
 obtain ⟨nt, hnt⟩ : ∃ x, n.next.getD t 0 = x := ⟨_, rfl⟩
 obtain ⟨kt, hkt⟩ : ∃ x, n.mat.getD t 0 = x := ⟨_, rfl⟩
 have hkt64 : kt + 1 < 18446744073709551616 := by
  rw [← hkt, List.getD_eq_getElem?_getD, List.getElem?_eq_getElem (by have := h.mt.1; omega)]
  exact hmx _ (List.getElem_mem _)
 have ht2 : ((t : Nat) : Int) < 16 := by omega
 have E0 : n.onAcked m.ms = if m.ok = true ∧ (n.acked m.ms).log.last < (n.acked m.ms).next.getD t 0 then (n.acked m.ms, []) else (n.acked m.ms, (n.acked m.ms).sendTo (t : Nat)) := by
  unfold Nd.onAcked
  rw [if_neg (fun e => e hk6), if_neg (show ¬ n.tm < m.ms.tm from hnlt), if_neg (show ¬ (m.ms.tm < n.tm ∨ n.role ≠ 3 ∨ m.ms.src = n.me ∨ m.ms.src < 0 ∨ 15 < m.ms.src) by
   have e : m.ms.src = (t : Nat) := hst
   rw [e]
   rintro (e | e | e | e | e)
   ·exact hlt e
   ·exact e hr
   ·exact hx (hst.trans e)
   ·omega
   ·omega)]
  have e : m.ms.src = (t : Nat) := hst
  rw [e]
  rfl
 have CC : Hid (∀ W W' nA, PNs X P W b nA q → nA.log = n.log → FT W W' → W'.cell? ⟨b, 8, none⟩ = some (.int .u64 (bs : Nat)) ∧ W'.cell? ⟨b, 9, none⟩ = some (.int .u64 (bt : Nat)) ∧ W'.cell? ⟨b, 10, none⟩ = some (.slice ae le ce) ∧ W'.cell? ⟨b, 12, none⟩ = some (.slice (some ⟨bn, 0, none⟩) 16 cn) ∧ W'.cell? ⟨b, 13, none⟩ = some (.slice (some ⟨bm, 0, none⟩) 16 km) ∧ W'.cell? ⟨bn, t, none⟩ = some (.int .u64 (nA.next.getD t 0 : Nat)) ∧ W'.cell? ⟨bm, t, none⟩ = some (.int .u64 (nA.mat.getD t 0 : Nat))) := fun W W' nA hA hlA f => by
  obtain ⟨x0, x1, x2, x3, x4, x5, x6, x7, x8, x9, x10, x11, x12, x13⟩ := hA.cells f
  exact ⟨by rw [x8, hlA, hbs], by rw [x9, hlA, hbt], by rw [x10, hve], by rw [x12, hbn, hcn], by rw [x13, hbm, hkm], by rw [← hbn]; exact (hA.nx.fr f fun _ _ => trivial).cell t ht, by rw [← hbm]; exact (hA.mt.fr f fun _ _ => trivial).cell t ht⟩
 have HT := Lib.hid ht
 have HNK := Lib.hid (And.intro hnt hkt)
 have hil2 : ix ≤ LST := by omega
 have gi : decide (ix ≤ LST) = true := decide_eq_true hil2
 obtain ⟨mx, hmxx⟩ : ∃ x, max kt ix = x := ⟨_, rfl⟩
 obtain ⟨mx1, hmx1⟩ : ∃ x, mx + 1 = x := ⟨_, rfl⟩
 have wk1 : IntKind.u64.wrap ((mx : Int) + 1) = ((mx1 : Nat) : Int) := by rw [IntKind.wrap_u64]; omega
 obtain ⟨n5, hn5⟩ : ∃ x : Nd, { n with mat := n.mat.set t mx } = x := ⟨_, rfl⟩
 obtain ⟨n6, hn6⟩ : ∃ x : Nd, { n with mat := n.mat.set t mx, next := n.next.set t mx1 } = x := ⟨_, rfl⟩
 obtain ⟨nA, hnA⟩ : ∃ x : Nd, n6.sure = x := ⟨_, rfl⟩
 have hac : n.acked m.ms = nA := by
  unfold Nd.acked
  have e : m.ms.src.toNat = t := by show m.src.toNat = t; rw [hst]; rfl
  rw [if_neg (show ¬ m.ms.ok = false by show ¬ m.ok = false; rw [ho]; decide), if_pos (show m.ms.index ≤ n.log.last from hil), e, hkt, show m.ms.index = ix from hixx, hmxx, hmx1, hn6, hnA]
 have hq6 : n6.log = n.log ∧ n6.conf = n.conf ∧ n6.next = n.next.set t mx1 ∧ n6.mat = n.mat.set t mx ∧ n5.log = n.log ∧ n5.next = n.next ∧ n5.mat = n.mat.set t mx := by rw [← hn6, ← hn5]; exact ⟨rfl, rfl, rfl, rfl, rfl, rfl, rfl⟩
 have hqA : nA.log = n6.log ∧ nA.next = n6.next := by
  rw [← hnA]
  unfold Nd.sure Nd.sureR
  split <;> exact ⟨rfl, rfl⟩
 have SU := Lib.hid (fun W (hA : PNs X P W b n6 q) => (sure_both hA (by rw [hq6.2.1]; exact hcf) (by rw [hq6.2.1]; exact hpos) (by rw [hq6.1]; exact hl)).1)
 rw [hnA] at SU
 have hnn : mx1 = nA.next.getD t 0 := by rw [hqA.2, hq6.2.2.1, getD_set (by have := h.nx.1; omega), if_pos rfl]
 obtain ⟨NT, hNT⟩ : ∃ x, mx1 = x := ⟨_, rfl⟩
 rw [hNT] at hnn
 have hlA : nA.log = n.log := hqA.1.trans hq6.1
 have E : Hid (n.onAcked m.ms = if LST < NT then (nA, []) else (nA, nA.sendTo (t : Nat))) := by
  show _ = _
  rw [E0, hac, hlA, hlast, ← hnn]
  by_cases e : LST < NT
  ·rw [if_pos e, if_pos ⟨ho, e⟩]
  ·rw [if_neg e, if_neg (fun e2 => e e2.2)]
 have TO : Hid (∀ W, PNs X P W b nA q → Calls Try.prog 50 #[.pointer (some ⟨b, 0, none⟩), .int .i64 (t : Nat)] W fun e w' => MOut X W (nA.sendTo (t : Nat)) e w') := fun W hA => to_calls hA (t : Nat) (fun y hy => by
   rw [hqA.2, hq6.2.2.1] at hy
   rcases List.mem_or_eq_of_mem_set hy with hy | hy
   ·have := hnx y hy; omega
   ·omega) (by rw [hlA]; exact hl) (by rw [hlA]; exact hle)
 have HNA : Hid (nA.next.getD t 0 = NT ∧ nA.log = n.log) := ⟨hnn.symm, hlA⟩
 unfold cM at hW1 ⊢
 have H56 := Lib.hid (And.intro hn5 (And.intro hn6 (And.intro hmxx hq6)))
 clear hk6 hnlt hlt hr hx hst ho hil hil2 hnt hkt hbs hbt hve hlel hesl hlg hl2 hLST hlast hbn hcn hbm hkm hkt64 E0 hac hqA hnn hNT hlA ht hmxx hmx1 hn5 hn6 hnA hq6 h hme hro htm hs hmt hixx hpv hok hcf hpos hnx hmx hix hpv1 hl hle
 go_enter Try.func48, Try.ntmps48
 go_wp2_with fail
 try rw [hW1]
 try rw [HG0.out]
 clear hW1 hg0 v0
 go_quiet (fail)
 clear y6 v3 gl
 have UQ : Hid (FT W1 (W1.drewN nq)) := (Fr.refl _ W1).drewN nq
 generalize W1.drewN nq = W2 at UQ ⊢
 have F2 := Lib.hid (F1.trans UQ)
 have H2 := Lib.hid (H.tt F2)
 have T2 : Hid (W2.heap[g0]? = some (.cells (cM m) 74 (0, 0))) := UQ.keep _ _ X1 trivial
 have y6 : W2.cell? ⟨b, 6, none⟩ = some (.int .u64 (tm : Nat)) := by rw [← HL.out.2.2.1]; exact (H2.out.cells (Fr.refl _ W2)).2.2.2.2.2.2.1
 have y2 : W2.cell? ⟨b, 2, none⟩ = some (.int .i64 3) := by rw [← HL.out.2.1]; exact (H2.out.cells (Fr.refl _ W2)).2.2.1
 have y0 : W2.cell? ⟨b, 0, none⟩ = some (.int .i64 me) := by rw [← HL.out.1]; exact (H2.out.cells (Fr.refl _ W2)).1
 have v3 := (VH W2 T2).2.1
 have v1 := (VH W2 T2).1
 go_wp2_with fail
 go_quiet ((go_at_call 67; exact Calls.quiet_of_same ((NC.out _).mono fun e w' h => And.intro h.1 h.2.symm)))
 clear y6 y2 y0 v3 v1 g1 g2 NC
 have UQ2 : Hid (FT W2 (W2.drewN nq)) := (Fr.refl _ W2).drewN nq
 generalize W2.drewN nq = W3 at UQ2 ⊢
 have F3 := Lib.hid (F2.trans UQ2)
 have H3 := Lib.hid (H2.tt UQ2)
 have T3 : Hid (W3.heap[g0]? = some (.cells (cM m) 74 (0, 0))) := UQ2.keep _ _ T2 trivial
 have UD : Hid (FT W3 W3.drew) := (Fr.refl _ _).drew
 have v1 := (VH W3 T3).1
 have v7 := (VH W3 T3).2.2.2.2
 go_wp2_with fail
 clear v1 v7
 refine wp_region_cf_all (K := fun _ _ => True) (by kernel_rfl) [(80, 0), (81, 1), (82, 2), (83, 3), (84, 4), (85, 5), (86, 6), (87, 7), (79, 8)] [(0, []), (1, [0]), (2, []), (3, [2]), (4, [3]), (5, [4]), (7, [1, 6]), (8, [7]), (6, [5])] (ckR [(0, .pointer (some ⟨g0, 4, none⟩)), (1, .int .u64 (ix : Nat)), (2, .pointer (some ⟨b, 0, none⟩)), (3, .pointer (some ⟨b, 0, none⟩)), (4, .pointer (some ⟨b, 8, none⟩)), (5, .agg #[.int .u64 (bs : Nat), .int .u64 (bt : Nat), .slice ae le ce]), (6, .int .u64 (LST : Nat)), (7, .bool true), (8, .bool true)] [] 9 0) (by kernel_rfl) (by kernel_rfl) (by kernel_rfl) rfl ?cfall (by kernel_rfl) ?cfend
 case cfall =>
  iterate 8
   refine CfAll.kk rfl rfl rfl (fun xs W hF hE K' hK => ?_) ?_
   ·have HF := Lib.hid hF
    clear hF
    simp only [ckEqs, ckLook, Nat.reduceBEq] at hE
    simp only [fillA, fillL, sA, sB, sC, Act.put, hE] at hK ⊢
    clear hE
    obtain ⟨y8, y9, y10, y12, y13, yn, ym⟩ := CC W3 W n H3 rfl (UD.trans HF)
    have V := VH W ((UD.trans HF).keep _ _ T3 trivial)
    have v4 := V.2.2.1
    have v7 := V.2.2.2.2
    clear V
    skip
    go_simp
    exact hK _ rfl
  refine CfAll.k rfl rfl (fun xs W hF hA hE K' hK => ?_) ?_
  ·have HF := Lib.hid hF
   clear hA hF
   simp only [ckEqs, ckLook, Nat.reduceBEq] at hE
   simp only [fillA, fillL, sA, sB, sC, Act.put, hE] at hK ⊢
   clear hE
   obtain ⟨y8, y9, y10, y12, y13, yn, ym⟩ := CC W3 W n H3 rfl (UD.trans HF)
   have V := VH W ((UD.trans HF).keep _ _ T3 trivial)
   have v4 := V.2.2.1
   have v7 := V.2.2.2.2
   clear V
   have LA1 := Lib.hid (LAST W)
   dsimp only [vL] at LA1
   skip
   go_simp
   (with_reducible refine LA1.out.mono ?_)
   rintro e w8 ⟨rfl, f8⟩
   exact hK _ _ _ rfl f8 rfl
  exact CfAll.nil
 case cfend =>
  intro xs W hF hA
  have HF := Lib.hid hF
  have hE := ckEnd rfl hA
  clear hA hF
  simp only [List.map_cons, List.map_nil, ckEqs, ckLook, Nat.reduceBEq] at hE
  simp only [fillA, fillL, sA, sB, sC, hE]
  clear hE
  have F4 := Lib.hid (UD.trans HF)
  have H4 := Lib.hid (H3.tt F4)
  have T4 : Hid (W.heap[g0]? = some (.cells (cM m) 74 (0, 0))) := F4.keep _ _ T3 trivial
  have FP4 : Hid (Fr (fun c _ => ¬ P c) w W) := F3.trans F4 |>.tT
  have HL16 : Hid (n.next.length = 16 ∧ n.mat.length = 16) := ⟨H4.nx.1, H4.mt.1⟩
  obtain ⟨W4, hW4⟩ : ∃ Y, W = Y := ⟨_, rfl⟩
  rw [hW4] at HF F4 H4 T4 FP4 ⊢
  clear hW4
  have UE : Hid (FT W4 W4.drew) := (Fr.refl _ _).drew
  go_wp2_with fail
  clear gi
  refine wp_region_cf (K := fun _ _ => True) (by kernel_rfl) [(88, 0), (89, 1), (90, 2), (91, 3), (92, 4), (93, 5), (94, 6), (95, 7), (96, 8), (97, 9), (98, 10), (99, 11), (100, 12), (101, 13), (102, 14), (103, 15)] [(0, []), (1, [0]), (2, [1]), (3, [2]), (4, []), (5, []), (6, [5]), (7, [6]), (8, [7]), (9, []), (10, [8, 9]), (11, [10]), (12, []), (13, [12]), (14, [11, 13])] (ckR [(0, .pointer (some ⟨b, 0, none⟩)), (1, .pointer (some ⟨b, 0, none⟩)), (2, .pointer (some ⟨b, 13, none⟩)), (3, .slice (some ⟨bm, 0, none⟩) 16 km), (4, .int .i64 (t : Nat)), (5, .pointer (some ⟨b, 0, none⟩)), (6, .pointer (some ⟨b, 0, none⟩)), (7, .pointer (some ⟨b, 13, none⟩)), (8, .slice (some ⟨bm, 0, none⟩) 16 km), (9, .int .i64 (t : Nat)), (10, .pointer (some ⟨bm, t, none⟩)), (11, .int .u64 (kt : Nat)), (12, .pointer (some ⟨g0, 4, none⟩)), (13, .int .u64 (ix : Nat)), (14, .int .u64 (mx : Nat))] [] 15 0) 2 (by kernel_rfl) (by kernel_rfl) (by kernel_rfl) rfl ?cfall ?cfend
  case cfall =>
   iterate 14
    refine CfAll.kk rfl rfl rfl (fun xs W hF hE K' hK => ?_) ?_
    ·have HF := Lib.hid hF
     clear hF
     simp only [ckEqs, ckLook, Nat.reduceBEq] at hE
     simp only [fillA, fillL, sA, sB, sC, Act.put, hE] at hK ⊢
     clear hE
     obtain ⟨y8, y9, y10, y12, y13, yn, ym⟩ := CC W4 W n H4 rfl (UE.trans HF)
     have V := VH W ((UE.trans HF).keep _ _ T4 trivial)
     have v4 := V.2.2.1
     have v7 := V.2.2.2.2
     clear V
     rw [HNK.out.2] at ym
     skip
     go_simp
     exact hK _ rfl
   refine CfAll.k rfl rfl (fun xs W hF hA hE K' hK => ?_) ?_
   ·have HF := Lib.hid hF
    clear hA hF
    simp only [ckEqs, ckLook, Nat.reduceBEq] at hE
    simp only [fillA, fillL, sA, sB, sC, Act.put, hE] at hK ⊢
    clear hE
    obtain ⟨y8, y9, y10, y12, y13, yn, ym⟩ := CC W4 W n H4 rfl (UE.trans HF)
    have V := VH W ((UE.trans HF).keep _ _ T4 trivial)
    have v4 := V.2.2.1
    have v7 := V.2.2.2.2
    clear V
    rw [HNK.out.2] at ym
    skip
    go_simp
    exact hK.out _ _ _ rfl (Fr.refl _ _) (congrArg (Value.int .u64) (show (max (kt : Int) (ix : Int)) = ((mx : Nat) : Int) from by have := H56.out.2.2.1; omega))
   exact CfAll.nil
  case cfend =>
   intro xs W hF hA
   have HF := Lib.hid hF
   have hE := ckEnd rfl hA
   clear hA hF
   simp only [List.map_cons, List.map_nil, ckEqs, ckLook, Nat.reduceBEq] at hE
   simp only [fillA, fillL, sA, sB, sC, hE]
   clear hE
   have F5 := Lib.hid (UE.trans HF)
   have H5 := Lib.hid (H4.tt F5)
   have Am := H5.mt
   rw [HQ.out.2.2.1] at Am
   have am0 := Am.cell t HT
   have am1 := Am.free t
   have Am2 := Am.set t mx HT
   obtain ⟨W6, hW6⟩ : ∃ Y, W.setCell ⟨bm, t, none⟩ (.int .u64 (mx : Nat)) = Y := ⟨_, rfl⟩
   have fN : Fr (fun c _ => c ≠ bm) W W6 := hW6 ▸ (Fr.refl _ _).setCell (fun _ _ h => h rfl) _
   have h6 : PNs X P W6 b n5 q := by
    rw [← H56.out.1]
    exact H5.out.arrays (nx := n.next) (mt := n.mat.set t mx) (fN.mono fun c _ hc => by rw [← HQ.out.2.2.1]; exact hc.2) (H5.out.nx.fr fN fun _ _ => by rw [← HQ.out.2.2.1]; exact H5.out.nm) (by rw [HQ.out.2.2.1, ← hW6]; exact Am2)
   have T6 : Hid (W6.heap[g0]? = some (.cells (cM m) 74 (0, 0))) := fN.keep _ _ (F5.keep _ _ T4 trivial) (fun e => by
    obtain ⟨_, cur, hc, _⟩ := Am
    have := F5.out.keep _ _ T4.out trivial
    rw [e, hc] at this
    cases this)
   have H6 := Lib.hid h6
   have FP6 : Hid (Fr (fun c _ => ¬ P c) w W6) := (FP4.out.trans (F5.out.tT)).trans (fN.mono fun c _ hc e => hc (e ▸ (HQ.out.2.2.1 ▸ H.out.pm)))
   have UG : Hid (FT W6 W6.drew) := (Fr.refl _ _).drew
   clear Am Am2 fN h6
   refine wpAny_next 15 (by kernel_rfl) rfl fun K' hK => ?_
   skip
   go_simp
   refine hK _ _ ?_
   clear hK K'
   refine wpAny_next 16 (by kernel_rfl) rfl fun K' hK => ?_
   skip
   go_simp
   refine hK _ _ ?_
   clear hK K'
   refine wpAny_fin (by kernel_rfl) ?_
   try rw [hW6]
   clear hW6 am0 am1
   obtain ⟨W5, hW5⟩ : ∃ Y, W = Y := ⟨_, rfl⟩
   rw [hW5] at HF F5 H5
   clear hW5
   go_wp2_with fail
   refine wp_region_cf (K := fun _ _ => True) (by kernel_rfl) [(104, 0), (105, 1), (106, 2), (107, 3), (108, 4), (109, 5), (110, 6), (111, 7), (112, 8), (113, 9), (114, 10), (115, 11), (116, 12), (117, 13)] [(0, []), (1, [0]), (2, [1]), (3, [2]), (4, []), (5, []), (6, [5]), (7, [6]), (8, [7]), (9, []), (10, [8, 9]), (11, [10]), (12, [11])] (ckR [(0, .pointer (some ⟨b, 0, none⟩)), (1, .pointer (some ⟨b, 0, none⟩)), (2, .pointer (some ⟨b, 12, none⟩)), (3, .slice (some ⟨bn, 0, none⟩) 16 cn), (4, .int .i64 (t : Nat)), (5, .pointer (some ⟨b, 0, none⟩)), (6, .pointer (some ⟨b, 0, none⟩)), (7, .pointer (some ⟨b, 13, none⟩)), (8, .slice (some ⟨bm, 0, none⟩) 16 km), (9, .int .i64 (t : Nat)), (10, .pointer (some ⟨bm, t, none⟩)), (11, .int .u64 (mx : Nat)), (12, .int .u64 (mx1 : Nat))] [] 13 0) 2 (by kernel_rfl) (by kernel_rfl) (by kernel_rfl) rfl ?cfall ?cfend
   case cfall =>
    iterate 13
     refine CfAll.kk rfl rfl rfl (fun xs W hF hE K' hK => ?_) ?_
     ·have HF := Lib.hid hF
      clear hF
      simp only [ckEqs, ckLook, Nat.reduceBEq] at hE
      simp only [fillA, fillL, sA, sB, sC, Act.put, hE] at hK ⊢
      clear hE
      obtain ⟨y8, y9, y10, y12, y13, yn, ym⟩ := CC W6 W n5 H6 H56.2.2.2.2.2.2.2.1 (UG.trans HF)
      have V := VH W ((UG.trans HF).keep _ _ T6 trivial)
      have v4 := V.2.2.1
      have v7 := V.2.2.2.2
      clear V
      rw [H56.out.2.2.2.2.2.2.2.2.2, getD_set (by rw [HL16.out.2]; exact HT.out), if_pos rfl] at ym
      skip
      go_simp
      exact hK _ rfl
    exact CfAll.nil
   case cfend =>
    intro xs W hF hA
    have HF := Lib.hid hF
    have hE := ckEnd rfl hA
    clear hA hF
    simp only [List.map_cons, List.map_nil, ckEqs, ckLook, Nat.reduceBEq] at hE
    simp only [fillA, fillL, sA, sB, sC, hE]
    clear hE
    have F7 := Lib.hid (UG.trans HF)
    have H7 := Lib.hid (H6.tt F7)
    have An := H7.nx
    rw [HQ.out.1] at An
    have an0 := An.cell t HT
    have an1 := An.free t
    have An2 := An.set t mx1 HT
    obtain ⟨W8, hW8⟩ : ∃ Y, W.setCell ⟨bn, t, none⟩ (.int .u64 (mx1 : Nat)) = Y := ⟨_, rfl⟩
    have fN : Fr (fun c _ => c ≠ bn) W W8 := hW8 ▸ (Fr.refl _ _).setCell (fun _ _ h => h rfl) _
    have h8 : PNs X P W8 b n6 q := by
     have hh := H7.out.arrays (nx := n5.next.set t mx1) (mt := n5.mat) (fN.mono fun c _ hc => by rw [← HQ.out.1]; exact hc.1) (by rw [HQ.out.1, ← hW8]; exact An2) (H7.out.mt.fr fN fun _ _ => by rw [← HQ.out.1]; exact Ne.symm H7.out.nm)
     rw [← H56.out.1] at hh
     rw [← H56.out.2.1]
     exact hh
    have T8 : Hid (W8.heap[g0]? = some (.cells (cM m) 74 (0, 0))) := fN.keep _ _ (F7.keep _ _ T6 trivial) (fun e => by
     obtain ⟨_, cur, hc, _⟩ := An
     have := F7.out.keep _ _ T6.out trivial
     rw [e, hc] at this
     cases this)
    have H8 := Lib.hid h8
    have FP8 : Hid (Fr (fun c _ => ¬ P c) w W8) := (FP6.out.trans (F7.out.tT)).trans (fN.mono fun c _ hc e => hc (e ▸ (HQ.out.1 ▸ H.out.pn)))
    have SU1 := Lib.hid (SU W8 h8)
    clear An An2 fN h8 SU
    refine wpAny_next 13 (by kernel_rfl) rfl fun K' hK => ?_
    skip
    go_simp
    refine hK _ _ ?_
    clear hK K'
    refine wpAny_next 14 (by kernel_rfl) rfl fun K' hK => ?_
    skip
    go_simp
    refine hK _ _ ?_
    clear hK K'
    refine wpAny_fin (by kernel_rfl) ?_
    try rw [hW8]
    clear hW8 an0 an1
    go_wp2_with fail
    (with_reducible refine SU1.out.mono ?_)
    rintro e W9 ⟨rfl, h9, f9⟩
    have H9 := Lib.hid h9
    have T9 : Hid (W9.heap[g0]? = some (.cells (cM m) 74 (0, 0))) := f9.keep _ _ T8 gb
    have FP9 : Hid (Fr (fun c _ => ¬ P c) w W9) := FP8.out.trans (f9.mono fun c _ hc e => hc (e ▸ H.out.pb))
    clear h9 f9 SU1
    by_cases hb : LST < NT
    ·have gi : decide (LST < NT) = true := decide_eq_true hb
     have E1 : Hid (n.onAcked m.ms = (nA, [])) := E.trans (if_pos hb)
     clear hb E
     have UK : Hid (FT W9 W9.drew) := (Fr.refl _ _).drew
     go_wp2_with fail
     refine wp_region_cf_all (K := fun _ _ => True) (by kernel_rfl) [(120, 0), (121, 1), (122, 2), (123, 3), (124, 4), (125, 5), (126, 6), (127, 7), (128, 8), (129, 9), (130, 10), (131, 11), (132, 12), (133, 13), (134, 14), (135, 15), (136, 16)] [(0, []), (1, [0]), (2, [1]), (3, [2]), (4, [2, 3]), (5, [2, 4]), (6, [2, 5]), (7, [2]), (8, [2, 6, 7]), (9, [2, 8]), (10, [2]), (11, [2, 10]), (12, [2, 11]), (13, [2, 12]), (15, [2, 9, 14]), (16, [2, 15]), (14, [2, 13])] (ckR [(0, .pointer (some ⟨g0, 7, none⟩)), (1, .bool true), (2, .bool true), (3, .pointer (some ⟨b, 0, none⟩)), (4, .pointer (some ⟨b, 0, none⟩)), (5, .pointer (some ⟨b, 12, none⟩)), (6, .slice (some ⟨bn, 0, none⟩) 16 cn), (7, .int .i64 (t : Nat)), (8, .pointer (some ⟨bn, t, none⟩)), (9, .int .u64 (NT : Nat)), (10, .pointer (some ⟨b, 0, none⟩)), (11, .pointer (some ⟨b, 0, none⟩)), (12, .pointer (some ⟨b, 8, none⟩)), (13, .agg #[.int .u64 (bs : Nat), .int .u64 (bt : Nat), .slice ae le ce]), (14, .int .u64 (LST : Nat)), (15, .bool true), (16, .bool true)] [] 17 0) (by kernel_rfl) (by kernel_rfl) (by kernel_rfl) rfl ?cfall (by kernel_rfl) ?cfend
     case cfall =>
      iterate 16
       refine CfAll.kk rfl rfl rfl (fun xs W hF hE K' hK => ?_) ?_
       ·have HF := Lib.hid hF
        clear hF
        simp only [ckEqs, ckLook, Nat.reduceBEq] at hE
        simp only [fillA, fillL, sA, sB, sC, Act.put, hE] at hK ⊢
        clear hE
        obtain ⟨y8, y9, y10, y12, y13, yn, ym⟩ := CC W9 W nA H9 HNA.2 (UK.trans HF)
        have V := VH W ((UK.trans HF).keep _ _ T9 trivial)
        have v4 := V.2.2.1
        have v7 := V.2.2.2.2
        clear V
        rw [HNA.out.1] at yn
        skip
        go_simp
        exact hK _ rfl
      refine CfAll.k rfl rfl (fun xs W hF hA hE K' hK => ?_) ?_
      ·have HF := Lib.hid hF
       clear hA hF
       simp only [ckEqs, ckLook, Nat.reduceBEq] at hE
       simp only [fillA, fillL, sA, sB, sC, Act.put, hE] at hK ⊢
       clear hE
       obtain ⟨y8, y9, y10, y12, y13, yn, ym⟩ := CC W9 W nA H9 HNA.2 (UK.trans HF)
       have V := VH W ((UK.trans HF).keep _ _ T9 trivial)
       have v4 := V.2.2.1
       have v7 := V.2.2.2.2
       clear V
       rw [HNA.out.1] at yn
       have LA1 := Lib.hid (LAST W)
       dsimp only [vL] at LA1
       skip
       go_simp
       (with_reducible refine LA1.out.mono ?_)
       rintro e w8 ⟨rfl, f8⟩
       exact hK _ _ _ rfl f8 rfl
      exact CfAll.nil
     case cfend =>
      intro xs W hF hA
      have HF := Lib.hid hF
      have hE := ckEnd rfl hA
      clear hA hF
      simp only [List.map_cons, List.map_nil, ckEqs, ckLook, Nat.reduceBEq] at hE
      simp only [fillA, fillL, sA, sB, sC, hE]
      clear hE
      have FK := Lib.hid (UK.trans HF)
      clear gi
      go_wp2
      go_ret
      rw [E1.out]
      exact ⟨X, P, q, _, [], rfl, H9.tt FK, (Aft.of FP9 H.px).tr FK, OwnMs.nil _ _ _, rfl⟩
    ·have gi : decide (LST < NT) = false := decide_eq_false hb
     have E1 : Hid (n.onAcked m.ms = (nA, nA.sendTo (t : Nat))) := E.trans (if_neg hb)
     clear hb E
     have UK : Hid (FT W9 W9.drew) := (Fr.refl _ _).drew
     go_wp2_with fail
     refine wp_region_cf_all (K := fun _ _ => True) (by kernel_rfl) [(120, 0), (121, 1), (122, 2), (123, 3), (124, 4), (125, 5), (126, 6), (127, 7), (128, 8), (129, 9), (130, 10), (131, 11), (132, 12), (133, 13), (134, 14), (135, 15), (136, 16)] [(0, []), (1, [0]), (2, [1]), (3, [2]), (4, [2, 3]), (5, [2, 4]), (6, [2, 5]), (7, [2]), (8, [2, 6, 7]), (9, [2, 8]), (10, [2]), (11, [2, 10]), (12, [2, 11]), (13, [2, 12]), (15, [2, 9, 14]), (16, [2, 15]), (14, [2, 13])] (ckR [(0, .pointer (some ⟨g0, 7, none⟩)), (1, .bool true), (2, .bool true), (3, .pointer (some ⟨b, 0, none⟩)), (4, .pointer (some ⟨b, 0, none⟩)), (5, .pointer (some ⟨b, 12, none⟩)), (6, .slice (some ⟨bn, 0, none⟩) 16 cn), (7, .int .i64 (t : Nat)), (8, .pointer (some ⟨bn, t, none⟩)), (9, .int .u64 (NT : Nat)), (10, .pointer (some ⟨b, 0, none⟩)), (11, .pointer (some ⟨b, 0, none⟩)), (12, .pointer (some ⟨b, 8, none⟩)), (13, .agg #[.int .u64 (bs : Nat), .int .u64 (bt : Nat), .slice ae le ce]), (14, .int .u64 (LST : Nat)), (15, .bool false), (16, .bool false)] [] 17 0) (by kernel_rfl) (by kernel_rfl) (by kernel_rfl) rfl ?cfall (by kernel_rfl) ?cfend
     case cfall =>
      iterate 16
       refine CfAll.kk rfl rfl rfl (fun xs W hF hE K' hK => ?_) ?_
       ·have HF := Lib.hid hF
        clear hF
        simp only [ckEqs, ckLook, Nat.reduceBEq] at hE
        simp only [fillA, fillL, sA, sB, sC, Act.put, hE] at hK ⊢
        clear hE
        obtain ⟨y8, y9, y10, y12, y13, yn, ym⟩ := CC W9 W nA H9 HNA.2 (UK.trans HF)
        have V := VH W ((UK.trans HF).keep _ _ T9 trivial)
        have v4 := V.2.2.1
        have v7 := V.2.2.2.2
        clear V
        rw [HNA.out.1] at yn
        skip
        go_simp
        exact hK _ rfl
      refine CfAll.k rfl rfl (fun xs W hF hA hE K' hK => ?_) ?_
      ·have HF := Lib.hid hF
       clear hA hF
       simp only [ckEqs, ckLook, Nat.reduceBEq] at hE
       simp only [fillA, fillL, sA, sB, sC, Act.put, hE] at hK ⊢
       clear hE
       obtain ⟨y8, y9, y10, y12, y13, yn, ym⟩ := CC W9 W nA H9 HNA.2 (UK.trans HF)
       have V := VH W ((UK.trans HF).keep _ _ T9 trivial)
       have v4 := V.2.2.1
       have v7 := V.2.2.2.2
       clear V
       rw [HNA.out.1] at yn
       have LA1 := Lib.hid (LAST W)
       dsimp only [vL] at LA1
       skip
       go_simp
       (with_reducible refine LA1.out.mono ?_)
       rintro e w8 ⟨rfl, f8⟩
       exact hK _ _ _ rfl f8 rfl
      exact CfAll.nil
     case cfend =>
      intro xs W hF hA
      have HF := Lib.hid hF
      have hE := ckEnd rfl hA
      clear hA hF
      simp only [List.map_cons, List.map_nil, ckEqs, ckLook, Nat.reduceBEq] at hE
      simp only [fillA, fillL, sA, sB, sC, hE]
      clear hE
      have FK := Lib.hid (UK.trans HF)
      clear gi
      have TOC1 := Lib.hid (TO W (H9.tt FK))
      clear TO
      go_wp2_with fail
      (with_reducible refine TOC1.out.mono ?_)
      rintro e W7 ⟨⟨v, mvs, rfl, o7, e7⟩, f7⟩
      have HH := Lib.hid (And.intro o7 (And.intro e7 f7))
      clear o7 e7 f7 TOC1
      go_wp2
      go_ret
      rw [E1.out]
      exact ⟨X, P, q, _, mvs, rfl, (H9.tt FK).tt HH.2.2, ((Aft.of FP9 H.px).tr FK).tr HH.2.2, HH.1.lo (FP9.trans (FK.tT)).size, HH.2.1⟩
end
end Go.Proofs.Ytmjccpfchhnfhaa
