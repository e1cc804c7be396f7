/- Texts of the proofs, part 37: what the functions that they reach do, walked; no conditions beyond those that each states. -/
import Derived.Test.YtmjccpfchhnfhaaGreatZzfbe54510ed
set_option linter.unusedVariables false
set_option linter.unusedSimpArgs false
/- The document's nodes: OnAppend, taken (printed by dr7.py). -/
namespace Go.Proofs.YtmjccpfchhnfhaaGreat
open Go.RowKit
set_option linter.unusedVariables false
set_option linter.unusedSimpArgs false
section
variable {X : Nat → Prop} {w w' : World} {b : Nat} {n n' : Nd} {q q' : DV}
set_option maxRecDepth 100000 in
set_option maxHeartbeats 8000000 in
theorem dAppendT_calls [Old] (h : DNs X w b n q) (m : MV) (hm : MsAt X w m) (hk5 : m.kind = 5) (hlt : ¬ m.tm < n.tm) (hix : m.index + m.es.length + 1 < 18446744073709551616) (hes : m.es.length ≤ 400000) (hl : n.log.last + 1 < 18446744073709551616) (hle : n.log.es.length ≤ 400000) :
  Calls Tryz.prog 11 #[.pointer (some ⟨b, 0, none⟩), .agg (cM m)] w fun e w' => DOut X w b (n.onAppend m.ms) e w' := by
 obtain ⟨W1, hW1, F1, X1⟩ := mbox w m
 obtain ⟨g0, hg0⟩ : ∃ x, w.heap.size = x := ⟨_, rfl⟩
 rw [hg0] at X1
 have H := Lib.hid h
 have HG0 := Lib.hid hg0
 have gb : Hid (g0 ≠ b) := by have := lt_of_some h.top; show _ ≠ _; omega
 obtain ⟨me, hme⟩ : ∃ x, n.me = x := ⟨_, rfl⟩
 obtain ⟨tm, htm⟩ : ∃ x, n.tm = x := ⟨_, rfl⟩
 obtain ⟨s, hs⟩ : ∃ x, m.src = x := ⟨_, rfl⟩
 obtain ⟨mt, hmt⟩ : ∃ x, m.tm = x := ⟨_, rfl⟩
 obtain ⟨ix, hixx⟩ : ∃ x, m.index = x := ⟨_, rfl⟩
 obtain ⟨pv, hpv⟩ : ∃ x, m.prev = x := ⟨_, rfl⟩
 obtain ⟨mc, hmc⟩ : ∃ x, m.commit = x := ⟨_, rfl⟩
 have HL := Lib.hid (And.intro hme (And.intro htm (And.intro hs (And.intro hmt (And.intro hixx (And.intro hpv hmc))))))
 have CC : Hid (∀ W, Fr (fun _ _ => True) W1 W → W.cell? ⟨b, 0, none⟩ = some (.int .i64 me) ∧ W.cell? ⟨b, 6, none⟩ = some (.int .u64 (tm : Nat))) := fun W f => by
  obtain ⟨x0, x1, x2, x3, x4, x5, x6, x7, x8, x9, x10, x11⟩ := h.cells (F1.out.trans f)
  exact ⟨by rw [x0, hme], by rw [x6, htm]⟩
 have V0 : ∀ W : World, W.heap[g0]? = some (.cells (cM m) 32 (0, 0)) → W.cell? ⟨g0, 1, none⟩ = some (.int .i64 s) ∧ W.cell? ⟨g0, 3, none⟩ = some (.int .u64 (mt : Nat)) ∧ W.cell? ⟨g0, 4, none⟩ = some (.int .u64 (ix : Nat)) ∧ W.cell? ⟨g0, 5, none⟩ = some (.int .u64 (pv : Nat)) ∧ W.cell? ⟨g0, 6, none⟩ = some (.int .u64 (mc : Nat)) ∧ W.cell? ⟨g0, 9, none⟩ = some (.slice m.ea m.es.length m.ec) := fun W t => by
  obtain ⟨v0, v1, v2, v3, v4, v5, v6, v7, v8, v9⟩ := mcells t
  exact ⟨by rw [v1, hs], by rw [v3, hmt], by rw [v4, hixx], by rw [v5, hpv], by rw [v6, hmc], v9⟩
 have VH := Lib.hid V0
 have v0 : W1.cell? ⟨g0, 0, none⟩ = some (.int .i64 5) := by rw [← hk5]; exact (mcells X1.out).1
 have v3 := (V0 W1 X1.out).2.1
 have y6 := (CC.out W1 (Fr.refl _ _)).2
 have gl : decide (mt < tm) = false := by rw [← hmt, ← htm]; exact decide_eq_false hlt
 obtain ⟨n2, hn2⟩ : ∃ x : Nd, { n.follow m.tm m.src with heard := true } = x := ⟨_, rfl⟩
 have E : Hid (n.onAppend m.ms = n2.taken m.ms) := by
  show n.onAppend m.ms = _
  unfold Nd.onAppend
  rw [if_neg (fun e => e hk5), if_neg (show ¬ m.ms.tm < n.tm from hlt), ← hn2]
  rfl
 have hn2p : n2.log = n.log ∧ n2.me = n.me ∧ n2.commit = n.commit := by rw [← hn2]; exact Nd.follow_log n m.tm m.src
 obtain ⟨bs, hbs⟩ : ∃ x, n.log.base = x := ⟨_, rfl⟩
 obtain ⟨bt, hbt⟩ : ∃ x, n.log.bt = x := ⟨_, rfl⟩
 obtain ⟨tm2, htm2⟩ : ∃ x, n2.tm = x := ⟨_, rfl⟩
 obtain ⟨cm, hcm⟩ : ∃ x, n.commit = x := ⟨_, rfl⟩
 obtain ⟨cd, hcdd⟩ : ∃ x, (n.log.append m.index m.prev (m.es.map EV.en)).2 = x := ⟨_, rfl⟩
 obtain ⟨LA, hLA⟩ : ∃ x, (n.log.append m.index m.prev (m.es.map EV.en)).1 = x := ⟨_, rfl⟩
 obtain ⟨ae, le, ce, hve, hlel, hel2, hesl, hlg⟩ := h.lg
 have hl2 : bs + le + 1 < 18446744073709551616 := by unfold Lg.last at hl; omega
 have APC := Lib.hid (fun W (hx : EsAt X W (.slice ae le ce) q.es) (hy : EsAt X W (.slice m.ea m.es.length m.ec) m.es) (hX : ∀ c, X c → c < W.heap.size) => dappend_calls W bs bt ix pv ae le ce q.es hx m.ea m.es.length m.ec m.es hy (by omega) (by omega) (by omega) hes hX)
 rw [show lgE bs bt q.es = n.log by rw [← hbs, ← hbt]; exact hlg, ← hixx, ← hpv, hcdd, hLA, hixx, hpv] at APC
 obtain ⟨hi, hhi⟩ : ∃ x, n.log.hint m.index = x := ⟨_, rfl⟩
 have HIC0 := Lib.hid (fun W (hx : EsAt X W (.slice ae le ce) q.es) => dhint_calls W bs bt ix ae le ce q.es hx.row (by omega) (by omega))
 rw [show lgE bs bt q.es = n.log by rw [← hbs, ← hbt]; exact hlg, ← hixx, hhi, hixx] at HIC0
 have EG : Hid (cd = 60 → n.onAppend m.ms = (n2, [{ zMs with kind := 6, src := me, dst := s, index := ix, tm := tm2, prev := hi }])) := fun gc => by
  rw [E.out]
  unfold Nd.taken
  rw [hn2p.1, if_pos (show (n.log.append m.ms.index m.ms.prev m.ms.es).2 = 60 from hcdd.trans gc), htm2, hn2p.2.1, hme]
  show (n2, [{ zMs with kind := 6, src := me, dst := m.src, index := m.index, tm := tm2, prev := n.log.hint m.index }]) = _
  rw [hhi, hs, hixx]
 obtain ⟨en, hen⟩ : ∃ x, ix + m.es.length = x := ⟨_, rfl⟩
 obtain ⟨mx, hmx⟩ : ∃ x, max cm (min mc en) = x := ⟨_, rfl⟩
 have WE : Hid (IntKind.u64.wrap ((ix : Int) + IntKind.u64.wrap (m.es.length : Int)) = ((en : Nat) : Int) ∧ IntKind.u64.wrap (m.es.length : Int) = ((m.es.length : Nat) : Int) ∧ IntKind.u64.wrap ((ix : Int) + (m.es.length : Int)) = ((en : Nat) : Int)) := ⟨by rw [IntKind.wrap_u64, IntKind.wrap_u64]; omega, by rw [IntKind.wrap_u64]; omega, by rw [IntKind.wrap_u64]; omega⟩
 have ET : Hid (cd ≠ 60 → n.onAppend m.ms = ({ n2 with log := LA, commit := mx }, [{ zMs with kind := 6, src := me, dst := s, index := en, tm := tm2, ok := true }])) := fun gc => by
  rw [E.out]
  unfold Nd.taken
  rw [hn2p.1, if_neg (show ¬ (n.log.append m.ms.index m.ms.prev m.ms.es).2 = 60 from fun e => gc (hcdd.symm.trans e)), htm2, hn2p.2.1, hme, hn2p.2.2]
  rw [show (n.log.append m.ms.index m.ms.prev m.ms.es).1 = LA from hLA, show m.ms.src = s from hs, show m.ms.index = ix from hixx, show m.ms.es.length = m.es.length from List.length_map _, hen, show m.ms.commit = mc from hmc, hcm, hmx]
 have HLB : Hid (LA.base = bs ∧ LA.bt = bt) := by rw [← hLA, ← hbs, ← hbt]; exact Lg.append_base _ _ _ _
 have HMX0 := Lib.hid hmx
 have HVE := Lib.hid (And.intro hve (And.intro hbs (And.intro hbt hcm)))
 have HN2 := Lib.hid hn2
 have HN2P := Lib.hid hn2p
 have HT2 := Lib.hid htm2
 have HM := Lib.hid hm
 unfold cM at hW1 ⊢
 clear hk5 hlt hix hes hl hle hl2 hcdd hLA hve hlel hel2 hesl hlg hbs hbt htm2 hcm hn2 hn2p h hme htm hs hmt hixx hpv hmc hm V0 E hhi hen hmx
 go_enter Tryz.func11, Tryz.ntmps11
 go_wp2_with fail
 try rw [hW1]
 try rw [HG0.out]
 clear hW1 hg0
 go_quiet (fail)
 clear y6 v3 gl v0
 have UQ : Hid (Fr (fun _ _ => True) W1 (W1.drewN nq)) := (Fr.refl _ W1).drewN nq
 generalize W1.drewN nq = W2 at UQ ⊢
 have F2 := Lib.hid (F1.out.trans UQ.out)
 have H2 := Lib.hid (H.out.tt F2.out)
 have MX2 : Hid (W2.heap[g0]? = some (.cells (cM m) 32 (0, 0))) := UQ.out.keep _ _ X1.out trivial
 have FO := Lib.hid (dfollow_calls H2.out mt s)
 have v1 := (VH.out W2 MX2.out).1
 have v3 := (VH.out W2 MX2.out).2.1
 go_wp2_with fail
 (with_reducible refine FO.out.mono ?_)
 rintro e Wf ⟨rfl, hf3, ff⟩
 clear v1 v3 FO
 rw [← HL.out.2.2.2.1, ← HL.out.2.2.1] at hf3
 have x11 := (hf3.cells (Fr.refl _ Wf)).2.2.2.2.2.2.2.2.2.2.2
 have z11 := hf3.free (Fr.refl _ Wf) 11
 obtain ⟨W4, hW4⟩ : ∃ Y, Wf.setCell ⟨b, 11, none⟩ (.bool true) = Y := ⟨_, rfl⟩
 have hW4s : sets Wf b [(11, .bool true)] = W4 := hW4
 have f4 : Fr (fun c _ => c ≠ b) Wf W4 := hW4s ▸ sets_fr b _ Wf
 have H4 : Hid (DNs X W4 b n2 q.noYes) := by
  show DNs X W4 b n2 q.noYes
  rw [← HN2.out]
  exact hf3.re f4 (hW4s ▸ sets_heap _ hf3.top) ⟨rfl, rfl⟩ (hf3.ye.aft (hf3.own f4)) ⟨hf3.ee, hf3.ev.aft (hf3.own f4)⟩ ⟨hf3.nl, hf3.ml⟩
 have FP4 : Hid (Fr (fun c _ => c ≠ b) w W4) := (F2.out.mono fun _ _ _ => trivial).trans (ff.trans f4)
 have MX4 : Hid (W4.heap[g0]? = some (.cells (cM m) 32 (0, 0))) := (ff.trans f4).keep _ _ MX2.out gb.out
 have MA4 := Lib.hid (HM.out.keep (K := fun c _ => c ≠ b) FP4.out (fun c o ho hr e => hr.1 (e ▸ H.out.xb)))
 have CD : Hid (∀ W, Fr (fun _ _ => True) W4 W → W.cell? ⟨b, 0, none⟩ = some (.int .i64 me) ∧ W.cell? ⟨b, 6, none⟩ = some (.int .u64 (tm2 : Nat)) ∧ W.cell? ⟨b, 7, none⟩ = some (.int .u64 (cm : Nat)) ∧ W.cell? ⟨b, 8, none⟩ = some (.int .u64 (bs : Nat)) ∧ W.cell? ⟨b, 9, none⟩ = some (.int .u64 (bt : Nat)) ∧ W.cell? ⟨b, 10, none⟩ = some (.slice ae le ce)) := fun W f => by
  obtain ⟨x0, x1, x2, x3, x4, x5, x6, x7, x8, x9, x10, x11⟩ := H4.out.cells f
  exact ⟨by rw [x0, HN2P.out.2.1, HL.out.1], by rw [x6, HT2.out], by rw [x7, HN2P.out.2.2, HVE.out.2.2.2], by rw [x8, HN2P.out.1, HVE.out.2.1], by rw [x9, HN2P.out.1, HVE.out.2.2.1], by rw [x10]; show some q.ve = _; rw [HVE.out.1]⟩
 have EV4 : Hid (∀ W, Fr (fun _ _ => True) W4 W → EsAt X W (.slice ae le ce) q.es) := fun W f => by
  have := H4.out.ev.tt f
  have e : q.noYes.ve = .slice ae le ce := HVE.out.1
  rw [e] at this
  exact this
 replace APC := Lib.hid (fun W (f : Fr (fun _ _ => True) W4 W) => APC.out W (EV4.out W f) (MA4.out.es.tt f) (fun c hc => Nat.lt_of_lt_of_le (H4.out.hx c hc) f.size))
 have HIC := Lib.hid (fun W (f : Fr (fun _ _ => True) W4 W) => HIC0.out W (EV4.out W f))
 clear HIC0
 have UE : Hid (Fr (fun _ _ => True) W4 W4.drew) := (Fr.refl _ _).drew
 clear hW4s hf3 f4 ff
 go_wp2_with fail
 try rw [hW4]
 clear hW4 x11 z11
 refine wp_region_cfl (K := fun _ _ => True) (by kernel_rfl) [(43, 0), (44, 1), (45, 2), (46, 3), (47, 4), (48, 5), (49, 6), (50, 7), (51, 8), (52, 9), (53, 10), (42, 11), (54, 12), (55, 13), (56, 14), (5, 15), (6, 17), (7, 18)] [(0, []), (1, [0]), (2, [1]), (3, [2]), (4, []), (5, [4]), (6, []), (7, [6]), (8, []), (9, [8]), (10, [3, 5, 7, 9]), (11, [10]), (12, [11]), (13, [11]), (14, [11]), (15, [])] (ckR [(0, .pointer (some ⟨b, 0, none⟩)), (1, .pointer (some ⟨b, 0, none⟩)), (2, .pointer (some ⟨b, 8, none⟩)), (3, .agg #[.int .u64 (bs : Nat), .int .u64 (bt : Nat), .slice ae le ce]), (4, .pointer (some ⟨g0, 4, none⟩)), (5, .int .u64 (ix : Nat)), (6, .pointer (some ⟨g0, 5, none⟩)), (7, .int .u64 (pv : Nat)), (8, .pointer (some ⟨g0, 9, none⟩)), (9, .slice m.ea m.es.length m.ec), (14, .int .i64 cd)] [(10, ⟨fun v W => ∃ a k c f zs, v = .tuple #[.agg #[.int .u64 (bs : Nat), .int .u64 (bt : Nat), .slice a k c], .int .u64 f, .int .i64 cd] ∧ EsAt X W (.slice a k c) zs ∧ zs.map EV.en = LA.es, fun v W W' h hf => by obtain ⟨a, k, c, f, zs, h1, h2, h3⟩ := h; exact ⟨a, k, c, f, zs, h1, h2.tt hf, h3⟩⟩), (11, ⟨fun v W => ∃ a k c f zs, v = .tuple #[.agg #[.int .u64 (bs : Nat), .int .u64 (bt : Nat), .slice a k c], .int .u64 f, .int .i64 cd] ∧ EsAt X W (.slice a k c) zs ∧ zs.map EV.en = LA.es, fun v W W' h hf => by obtain ⟨a, k, c, f, zs, h1, h2, h3⟩ := h; exact ⟨a, k, c, f, zs, h1, h2.tt hf, h3⟩⟩), (12, ⟨fun v W => ∃ a k c zs, v = .agg #[.int .u64 (bs : Nat), .int .u64 (bt : Nat), .slice a k c] ∧ EsAt X W (.slice a k c) zs ∧ zs.map EV.en = LA.es, fun v W W' h hf => by obtain ⟨a, k, c, zs, h1, h2, h3⟩ := h; exact ⟨a, k, c, zs, h1, h2.tt hf, h3⟩⟩), (13, ⟨fun v W => ∃ f, v = .int .u64 f, fun v W W' h hf => h⟩), (15, ⟨fun v W => ∃ g9, v = .pointer (some ⟨g9, 0, none⟩) ∧ W4.heap.size ≤ g9 ∧ W.heap[g9]? = some (.cells #[.int .u64 0, .int .u64 0, .slice none 0 0] 100 (0, 0)), fun v W W' h hf => by obtain ⟨g9, h1, h3, h4⟩ := h; exact ⟨g9, h1, h3, hf.keep _ _ h4 trivial⟩⟩)] 16 0) [13, 14] 3 (by kernel_rfl) (by kernel_rfl) (by kernel_rfl) (by kernel_rfl) (by kernel_rfl) (by exact fun _ _ _ _ _ h => h) (by rfl) ?cfall ?cffl ?cfend
 case cffl =>
  refine FlAll.cons rfl (fun xs W hF hA => ?_) ?_
  ·have HF := Lib.hid hF
   have h11 := hA (11, [10]) (by decide) (by decide)
   clear hA hF
   simp only [fillA, fillL, sA, sB, sC]
   obtain ⟨a, k, c, f, zs, e11, hz, hzl⟩ := h11
   rw [e11]
   refine ⟨.int .u64 f, Or.inl ⟨by rfl, fun w => ?_⟩, ⟨f, rfl⟩⟩
   (try simp only [gA, gB, gC])
   go_simp
  refine FlAll.cons rfl (fun xs W hF hA => ?_) ?_
  ·have HF := Lib.hid hF
   have h11 := hA (11, [10]) (by decide) (by decide)
   clear hA hF
   simp only [fillA, fillL, sA, sB, sC]
   obtain ⟨a, k, c, f, zs, e11, hz, hzl⟩ := h11
   rw [e11]
   refine ⟨.int .i64 cd, Or.inl ⟨by rfl, fun w => ?_⟩, rfl⟩
   (try simp only [gA, gB, gC])
   go_simp
  exact FlAll.nil
 case cfall =>
  iterate 10
   refine CfAll.kk rfl rfl rfl (fun xs W hF hE K' hK => ?_) ?_
   ·have HF := Lib.hid hF
    clear hF
    simp only [ckEqs, ckLook, Nat.reduceBEq] at hE
    simp only [fillA, fillL, sA, sB, sC, Act.put, hE] at hK ⊢
    clear hE
    obtain ⟨y0, y6, y7, y8, y9, y10⟩ := CD.out W (UE.out.trans HF.out)
    obtain ⟨v1, v3, v4, v5, v6, v9⟩ := VH.out W ((UE.out.trans HF.out).keep _ _ MX4.out trivial)
    (try simp only [gA, gB, gC])
    go_simp
    exact hK.out _ rfl
  refine CfAll.k rfl rfl (fun xs W hF hA hE K' hK => ?_) ?_
  ·have HF := Lib.hid hF
   clear hA hF
   simp only [ckEqs, ckLook, Nat.reduceBEq] at hE
   simp only [fillA, fillL, sA, sB, sC, Act.put, hE] at hK ⊢
   clear hE
   obtain ⟨y0, y6, y7, y8, y9, y10⟩ := CD.out W (UE.out.trans HF.out)
   obtain ⟨v1, v3, v4, v5, v6, v9⟩ := VH.out W ((UE.out.trans HF.out).keep _ _ MX4.out trivial)
   have AP1 := Lib.hid (APC.out W (UE.out.trans HF.out))
   dsimp only [vL9] at AP1
   (try simp only [gA, gB, gC])
   go_simp
   (with_reducible refine AP1.out.mono ?_)
   rintro e w8 ⟨⟨a, k, c, f, zs, rfl, hz, hzl⟩, f8⟩
   exact hK.out _ _ _ rfl f8 ⟨a, k, c, f, zs, rfl, hz, hzl⟩
  refine CfAll.k rfl rfl (fun xs W hF hA hE K' hK => ?_) ?_
  ·have HF := Lib.hid hF
   have h10 := hA 10 (by decide)
   clear hA hF
   simp only [ckEqs, ckLook, Nat.reduceBEq] at hE
   simp only [fillA, fillL, sA, sB, sC, Act.put, hE] at hK ⊢
   clear hE
   obtain ⟨a, k, c, f, zs, e10, hz, hzl⟩ := h10
   rw [e10] at hK ⊢
   clear e10
   (try simp only [gA, gB, gC])
   go_simp
   exact hK.out _ _ _ rfl (Fr.refl _ _) ⟨a, k, c, f, zs, rfl, hz, hzl⟩
  refine CfAll.k rfl rfl (fun xs W hF hA hE K' hK => ?_) ?_
  ·have HF := Lib.hid hF
   have h11 := hA 11 (by decide)
   clear hA hF
   simp only [ckEqs, ckLook, Nat.reduceBEq] at hE
   simp only [fillA, fillL, sA, sB, sC, Act.put, hE] at hK ⊢
   clear hE
   obtain ⟨a, k, c, f, zs, e11, hz, hzl⟩ := h11
   rw [e11] at hK ⊢
   clear e11
   (try simp only [gA, gB, gC])
   go_simp
   exact hK.out _ _ _ rfl (Fr.refl _ _) ⟨a, k, c, zs, rfl, hz, hzl⟩
  refine CfAll.k rfl rfl (fun xs W hF hA hE K' hK => ?_) ?_
  ·have HF := Lib.hid hF
   have h11 := hA 11 (by decide)
   clear hA hF
   simp only [ckEqs, ckLook, Nat.reduceBEq] at hE
   simp only [fillA, fillL, sA, sB, sC, Act.put, hE] at hK ⊢
   clear hE
   obtain ⟨a, k, c, f, zs, e11, hz, hzl⟩ := h11
   rw [e11] at hK ⊢
   clear e11
   (try simp only [gA, gB, gC])
   go_simp
   exact hK.out _ _ _ rfl (Fr.refl _ _) ⟨f, rfl⟩
  refine CfAll.k rfl rfl (fun xs W hF hA hE K' hK => ?_) ?_
  ·have HF := Lib.hid hF
   have h11 := hA 11 (by decide)
   clear hA hF
   simp only [ckEqs, ckLook, Nat.reduceBEq] at hE
   simp only [fillA, fillL, sA, sB, sC, Act.put, hE] at hK ⊢
   clear hE
   obtain ⟨a, k, c, f, zs, e11, hz, hzl⟩ := h11
   rw [e11] at hK ⊢
   clear e11
   (try simp only [gA, gB, gC])
   go_simp
   exact hK.out _ _ _ rfl (Fr.refl _ _) rfl
  refine CfAll.k rfl rfl (fun xs W hF hA hE K' hK => ?_) ?_
  ·have HF := Lib.hid hF
   clear hA hF
   simp only [ckEqs, ckLook, Nat.reduceBEq] at hE
   simp only [fillA, fillL, sA, sB, sC, Act.put, hE] at hK ⊢
   clear hE
   have SB : Hid (W4.heap.size ≤ W.heap.size) := (UE.out.trans HF.out).size
   (try simp only [gA, gB, gC])
   go_simp
   exact hK.out _ _ _ rfl ((Fr.refl _ _).alloc _) ⟨_, rfl, SB.out, heap_alloc_new _ _⟩
  exact CfAll.nil
 case cfend =>
  intro xs W hF hA
  have HF := Lib.hid hF
  have hE := ckEnd rfl hA
  have h10 := hA (10, [3, 5, 7, 9]) (by decide)
  have h11 := hA (11, [10]) (by decide)
  have h12 := hA (12, [11]) (by decide)
  have h13 := hA (13, [11]) (by decide)
  have h15 := hA (15, []) (by decide)
  clear hA hF
  simp only [List.map_cons, List.map_nil, ckEqs, ckLook, Nat.reduceBEq] at hE
  simp only [fillA, fillL, sA, sB, sC, hE]
  clear hE
  obtain ⟨a, k, c, zs, e12, hz, hzl⟩ := h12
  obtain ⟨f, e13⟩ := h13
  obtain ⟨g9, e15, hg9, tg9⟩ := h15
  rw [e12, e13, e15]
  clear e12 e13 e15
  have HZ := Lib.hid (And.intro hz (And.intro hzl hg9))
  have FE := Lib.hid (UE.out.trans HF.out)
  have T9 := Lib.hid tg9
  obtain ⟨W5, hW5, l0, l1, l2, F5⟩ := lset9 (b := bs) (bt := bt) (v := .slice a k c) tg9
  have p0 := cell_mk (i := 0) tg9 rfl
  have p1 := cell_mk (i := 1) tg9 rfl
  have p2 := cell_mk (i := 2) tg9 rfl
  have q0 := frozen_mk (i := 0) tg9
  have q1 := frozen_mk (i := 1) tg9
  have q2 := frozen_mk (i := 2) tg9
  clear hz hzl hg9 tg9 APC
  refine wpAny_next 16 (by kernel_rfl) rfl fun K' hK => ?_
  (try simp only [gA, gB, gC])
  go_simp
  refine hK.out _ _ ?_
  clear hK K'
  refine wpAny_next 17 (by kernel_rfl) rfl fun K' hK => ?_
  (try simp only [gA, gB, gC])
  go_simp
  refine hK.out _ _ ?_
  clear hK K'
  refine wpAny_next 18 (by kernel_rfl) rfl fun K' hK => ?_
  (try simp only [gA, gB, gC])
  go_simp
  refine hK.out _ _ ?_
  clear hK K'
  refine wpAny_fin (by kernel_rfl) ?_
  try rw [hW5]
  clear p0 p1 p2 q0 q1 q2 hW5
  have FE5 : Hid (Fr (fun _ _ => True) W4 W5) := Fr.within ((FE.out.mono fun _ _ _ => trivial : Fr (fun c _ => True ∧ c < W4.heap.size) W4 W).trans (F5.out.mono fun c _ h e => by have := h.2; have := HZ.out.2.2; omega))
  have H5 := Lib.hid (H4.out.tt FE5.out)
  have FP5 : Hid (Fr (fun c _ => c ≠ b) w W5) := FP4.out.trans (FE5.out.mono fun _ _ _ => trivial)
  obtain ⟨WB, hWB⟩ : ∃ Y, W = Y := ⟨_, rfl⟩
  rw [hWB] at HF FE T9 F5 HZ
  clear hWB
  by_cases gc : cd = 60
  ·subst gc
   have E := Lib.hid (EG.out rfl)
   have UG : Hid (Fr (fun _ _ => True) W5 W5.drew) := (Fr.refl _ _).drew
   clear l0 l1 l2
   go_wp2_with fail
   refine wp_region_cf (K := fun _ _ => True) (by kernel_rfl) [(59, 0), (60, 1), (61, 2), (62, 3), (63, 4), (64, 5), (65, 6), (66, 7), (67, 8), (68, 9), (69, 10), (70, 11), (71, 12), (72, 13), (73, 14), (74, 15), (75, 16), (76, 17), (77, 18), (78, 19), (79, 20), (4, 21)] [(0, []), (1, [0]), (2, [1]), (3, [2]), (4, []), (5, [4]), (6, []), (7, [6]), (8, [7]), (9, [8]), (10, []), (11, [10]), (12, []), (13, [12]), (14, [13]), (15, [14]), (16, []), (17, [16]), (19, [3, 5, 9, 11, 18]), (18, [15, 17])] (ckR [(0, .pointer (some ⟨b, 0, none⟩)), (1, .pointer (some ⟨b, 0, none⟩)), (2, .pointer (some ⟨b, 0, none⟩)), (3, .int .i64 me), (4, .pointer (some ⟨g0, 1, none⟩)), (5, .int .i64 s), (6, .pointer (some ⟨b, 0, none⟩)), (7, .pointer (some ⟨b, 0, none⟩)), (8, .pointer (some ⟨b, 6, none⟩)), (9, .int .u64 (tm2 : Nat)), (10, .pointer (some ⟨g0, 4, none⟩)), (11, .int .u64 (ix : Nat)), (12, .pointer (some ⟨b, 0, none⟩)), (13, .pointer (some ⟨b, 0, none⟩)), (14, .pointer (some ⟨b, 8, none⟩)), (15, .agg #[.int .u64 (bs : Nat), .int .u64 (bt : Nat), .slice ae le ce]), (16, .pointer (some ⟨g0, 4, none⟩)), (17, .int .u64 (ix : Nat)), (18, .int .u64 (hi : Nat)), (19, .agg #[.int .i64 6, .int .i64 me, .int .i64 s, .int .u64 (tm2 : Nat), .int .u64 (ix : Nat), .int .u64 (hi : Nat), .int .u64 0, .bool false, .slice none 0 0, .slice none 0 0])] [] 20 0) 2 (by kernel_rfl) (by kernel_rfl) (by kernel_rfl) rfl ?cfall ?cfend
   case cfall =>
    iterate 19
     refine CfAll.kk rfl rfl rfl (fun xs W hF hE K' hK => ?_) ?_
     ·have HF := Lib.hid hF
      clear hF
      simp only [ckEqs, ckLook, Nat.reduceBEq] at hE
      simp only [fillA, fillL, sA, sB, sC, Act.put, hE] at hK ⊢
      clear hE
      obtain ⟨y0, y6, y7, y8, y9, y10⟩ := CD.out W (FE5.out.trans (UG.out.trans HF.out))
      obtain ⟨v1, v3, v4, v5, v6, v9⟩ := VH.out W ((FE5.out.trans (UG.out.trans HF.out)).keep _ _ MX4.out trivial)
      (try simp only [gA, gB, gC])
      go_simp
      exact hK.out _ rfl
    refine CfAll.k rfl rfl (fun xs W hF hA hE K' hK => ?_) ?_
    ·have HF := Lib.hid hF
     clear hA hF
     simp only [ckEqs, ckLook, Nat.reduceBEq] at hE
     simp only [fillA, fillL, sA, sB, sC, Act.put, hE] at hK ⊢
     clear hE
     obtain ⟨y0, y6, y7, y8, y9, y10⟩ := CD.out W (FE5.out.trans (UG.out.trans HF.out))
     obtain ⟨v1, v3, v4, v5, v6, v9⟩ := VH.out W ((FE5.out.trans (UG.out.trans HF.out)).keep _ _ MX4.out trivial)
     have HI1 := Lib.hid (HIC.out W (FE5.out.trans (UG.out.trans HF.out)))
     dsimp only [vL9] at HI1
     (try simp only [gA, gB, gC])
     go_simp
     (with_reducible refine HI1.out.mono ?_)
     rintro e w8 ⟨rfl, f8⟩
     exact hK.out _ _ _ rfl f8 rfl
    exact CfAll.nil
   case cfend =>
    intro xs W hF hA
    have HF := Lib.hid hF
    have hE := ckEnd rfl hA
    clear hA hF
    simp only [List.map_cons, List.map_nil, ckEqs, ckLook, Nat.reduceBEq] at hE
    simp only [fillA, fillL, sA, sB, sC, hE]
    clear hE
    have F6 := Lib.hid (UG.out.trans HF.out)
    have H6 := Lib.hid (H5.out.tt F6.out)
    have FP6 : Hid (Fr (fun c _ => c ≠ b) w W) := FP5.out.trans (F6.out.mono fun _ _ _ => trivial)
    refine wpAny_next 20 (by kernel_rfl) rfl fun K' hK => ?_
    (try simp only [gA, gB, gC])
    go_simp
    refine hK.out _ _ ?_
    clear hK K'
    refine wpAny_next 21 (by kernel_rfl) rfl fun K' hK => ?_
    (try simp only [gA, gB, gC])
    go_simp
    refine hK.out _ _ ?_
    clear hK K'
    refine wpAny_fin (by kernel_rfl) ?_
    go_wp2
    go_ret
    rw [E.out]
    exact ⟨q.noYes, _, [⟨6, me, s, tm2, ix, hi, 0, false, none, 0, [], none, 0, []⟩], rfl, (H6.out).tt ((Fr.refl _ W).alloc _), (FP6.out).alloc _, (OwnMs.one ⟨6, me, s, tm2, ix, hi, 0, false, none, 0, [], none, 0, []⟩ (H6.out).hx ⟨BytesAt.nil _ _, EsAt.nil _ _⟩).lo (FP6.out).size, rfl⟩
  ·have E := Lib.hid (ET.out gc)
   have gc' : (cd == 60) = false := by simpa using gc
   obtain ⟨we, we0, we1⟩ := WE.out
   have HZ5 : Hid (EsAt X W5 (.slice a k c) zs) := HZ.out.1.fr F5.out (fun c o ho hr e => hr.ne (e ▸ H4.out.new HZ.out.2.2) (by rw [e, T9.out] at ho; exact (Option.some.inj ho).symm) (by decide))
   have x8 := (H5.out.cells (Fr.refl _ W5)).2.2.2.2.2.2.2.2.1
   have x9 := (H5.out.cells (Fr.refl _ W5)).2.2.2.2.2.2.2.2.2.1
   have x10 := (H5.out.cells (Fr.refl _ W5)).2.2.2.2.2.2.2.2.2.2.1
   have z8 := H5.out.free (Fr.refl _ W5) 8
   have z9 := H5.out.free (Fr.refl _ W5) 9
   have z10 := H5.out.free (Fr.refl _ W5) 10
   obtain ⟨W6, hW6⟩ : ∃ Y, sets W5 b [(8, .int .u64 (bs : Nat)), (9, .int .u64 (bt : Nat)), (10, .slice a k c)] = Y := ⟨_, rfl⟩
   have hW6' : ((W5.setCell ⟨b, 8, none⟩ (.int .u64 (bs : Nat))).setCell ⟨b, 9, none⟩ (.int .u64 (bt : Nat))).setCell ⟨b, 10, none⟩ (.slice a k c) = W6 := hW6
   have f6 : Fr (fun c _ => c ≠ b) W5 W6 := hW6 ▸ sets_fr b _ W5
   have h6 : DNs X W6 b { n2 with log := LA } { q.noYes with ve := .slice a k c, es := zs } := by
    refine H5.out.re f6 ?_ ⟨rfl, rfl⟩ (H5.out.ye.aft (H5.out.own f6)) ⟨HZ.out.2.1.symm, HZ5.out.aft (H5.out.own f6)⟩ ⟨H5.out.nl, H5.out.ml⟩
    rw [← hW6, ← HLB.out.1, ← HLB.out.2]
    exact sets_heap _ H5.out.top
   obtain ⟨n3, hn3⟩ : ∃ x : Nd, { n2 with log := LA } = x := ⟨_, rfl⟩
   obtain ⟨q3, hq3⟩ : ∃ x : DV, { q.noYes with ve := .slice a k c, es := zs } = x := ⟨_, rfl⟩
   rw [hn3, hq3] at h6
   have n3c : Hid (n3.commit = cm ∧ n3.me = me ∧ n3.tm = tm2) := by rw [← hn3]; exact ⟨HN2P.out.2.2.trans HVE.out.2.2.2, HN2P.out.2.1.trans HL.out.1, HT2.out⟩
   replace E : Hid (n.onAppend m.ms = ({ n3 with commit := mx }, [{ zMs with kind := 6, src := me, dst := s, index := en, tm := tm2, ok := true }])) := by show _ = _; rw [E.out, ← hn3]
   have MX6 : Hid (W6.heap[g0]? = some (.cells (cM m) 32 (0, 0))) := f6.keep _ _ (FE5.out.keep _ _ MX4.out trivial) gb.out
   have H6 := Lib.hid h6
   have FP6 : Hid (Fr (fun c _ => c ≠ b) w W6) := FP5.out.trans f6
   obtain ⟨v1, v3, v4, v5, v6, v9⟩ := VH.out W6 MX6.out
   have y7 : W6.cell? ⟨b, 7, none⟩ = some (.int .u64 (cm : Nat)) := by rw [(h6.cells (Fr.refl _ W6)).2.2.2.2.2.2.2.1, n3c.out.1]
   clear hW6 h6 hn3 hq3 f6 CD EV4 v1 v3 v5
   go_wp2_with fail
   try rw [hW6']
   clear l0 l1 l2 x8 x9 x10 z8 z9 z10 hW6' we we0 we1 gc gc'
   by_cases hA : mc < en
   ·by_cases hB : cm < mc
    ·have gA : decide (mc < en) = true := decide_eq_true hA
     have gB : decide (cm < mc) = true := decide_eq_true hB
     have gC : decide (en ≤ mc) = false := decide_eq_false (by omega)
     have HMX : Hid (mx = mc) := by have := HMX0.out; show _ = _; omega
     rw [HMX.out] at E
     clear hA hB
     go_quiet (fail)
     have UQ6 : Hid (Fr (fun _ _ => True) W6 (W6.drewN nq)) := (Fr.refl _ W6).drewN nq
     generalize W6.drewN nq = W7 at UQ6 ⊢
     clear v4 v6 v9 y7
     have H7 := Lib.hid (H6.out.tt UQ6.out)
     have MX7 : Hid (W7.heap[g0]? = some (.cells (cM m) 32 (0, 0))) := UQ6.out.keep _ _ MX6.out trivial
     have FP7 : Hid (Fr (fun c _ => c ≠ b) w W7) := FP6.out.trans (UQ6.out.mono fun _ _ _ => trivial)
     obtain ⟨v1, v3, v4, v5, v6, v9⟩ := VH.out W7 MX7.out
     have y7 : W7.cell? ⟨b, 7, none⟩ = some (.int .u64 (cm : Nat)) := by rw [(H7.out.cells (Fr.refl _ W7)).2.2.2.2.2.2.2.1, n3c.out.1]
     have z7 := H7.out.free (Fr.refl _ W7) 7
     obtain ⟨W8, hW8⟩ : ∃ Y, W7.setCell ⟨b, 7, none⟩ (.int .u64 (mc : Nat)) = Y := ⟨_, rfl⟩
     have hW8s : sets W7 b [(7, .int .u64 (mc : Nat))] = W8 := hW8
     have f8 : Fr (fun c _ => c ≠ b) W7 W8 := hW8s ▸ sets_fr b _ W7
     have H8 : Hid (DNs X W8 b { n3 with commit := mc } q3) := H7.out.re f8 (hW8s ▸ sets_heap _ H7.out.top) ⟨rfl, rfl⟩ (H7.out.ye.aft (H7.out.own f8)) ⟨H7.out.ee, H7.out.ev.aft (H7.out.own f8)⟩ ⟨H7.out.nl, H7.out.ml⟩
     have MX8 : Hid (W8.heap[g0]? = some (.cells (cM m) 32 (0, 0))) := f8.keep _ _ MX7.out gb.out
     have FP8 : Hid (Fr (fun c _ => c ≠ b) w W8) := FP7.out.trans f8
     have u6 := (VH.out W8 MX8.out).2.2.2.2.1
     clear f8 hW8s
     have UH : Hid (Fr (fun _ _ => True) W8 W8.drew) := (Fr.refl _ _).drew
     have CE : Hid (∀ W, Fr (fun _ _ => True) W8 W → W.cell? ⟨b, 0, none⟩ = some (.int .i64 me) ∧ W.cell? ⟨b, 6, none⟩ = some (.int .u64 (tm2 : Nat)) ∧ W.cell? ⟨b, 7, none⟩ = some (.int .u64 (mc : Nat))) := fun W f => by
      obtain ⟨x0, x1, x2, x3, x4, x5, x6, x7, x8, x9, x10, x11⟩ := H8.out.cells f
      exact ⟨by rw [x0]; show some (Value.int .i64 n3.me) = _; rw [n3c.out.2.1], by rw [x6]; show some (natN n3.tm) = _; rw [n3c.out.2.2], x7⟩
     have y7' := (CE.out W8 (Fr.refl _ _)).2.2
     go_wp2_with fail
     try rw [hW8]
     clear hW8 y7 y7' z7 u6 v1 v3 v4 v5 v6 v9
     refine wp_region_cf (K := fun _ _ => True) (by kernel_rfl) [(125, 0), (126, 1), (127, 2), (128, 3), (129, 4), (130, 5), (131, 6), (132, 7), (133, 8), (134, 9), (135, 10), (136, 11), (137, 12), (4, 13)] [(0, []), (1, [0]), (2, [1]), (3, [2]), (4, []), (5, [4]), (6, []), (7, [6]), (8, [7]), (9, [8]), (10, []), (11, [3, 5, 9, 10])] (ckR [(0, .pointer (some ⟨b, 0, none⟩)), (1, .pointer (some ⟨b, 0, none⟩)), (2, .pointer (some ⟨b, 0, none⟩)), (3, .int .i64 me), (4, .pointer (some ⟨g0, 1, none⟩)), (5, .int .i64 s), (6, .pointer (some ⟨b, 0, none⟩)), (7, .pointer (some ⟨b, 0, none⟩)), (8, .pointer (some ⟨b, 6, none⟩)), (9, .int .u64 (tm2 : Nat)), (10, .int .u64 (en : Nat)), (11, .agg #[.int .i64 6, .int .i64 me, .int .i64 s, .int .u64 (tm2 : Nat), .int .u64 (en : Nat), .int .u64 0, .int .u64 0, .bool true, .slice none 0 0, .slice none 0 0])] [] 12 0) 2 (by kernel_rfl) (by kernel_rfl) (by kernel_rfl) rfl ?cfall ?cfend
     case cfall =>
      iterate 12
       refine CfAll.kk rfl rfl rfl (fun xs W hF hE K' hK => ?_) ?_
       ·have HF := Lib.hid hF
        clear hF
        simp only [ckEqs, ckLook, Nat.reduceBEq] at hE
        simp only [fillA, fillL, sA, sB, sC, Act.put, hE] at hK ⊢
        clear hE
        obtain ⟨y0, y6, y7⟩ := CE.out W (UH.out.trans HF.out)
        obtain ⟨v1, v3, v4, v5, v6, v9⟩ := VH.out W ((UH.out.trans HF.out).keep _ _ MX8.out trivial)
        (try simp only [gA, gB, gC])
        go_simp
        exact hK.out _ rfl
      exact CfAll.nil
     case cfend =>
      intro xs W hF hA
      have HF := Lib.hid hF
      have hE := ckEnd rfl hA
      clear hA hF
      simp only [List.map_cons, List.map_nil, ckEqs, ckLook, Nat.reduceBEq] at hE
      simp only [fillA, fillL, sA, sB, sC, hE]
      clear hE
      have F9 := Lib.hid (UH.out.trans HF.out)
      have H9 := Lib.hid (H8.out.tt F9.out)
      have FP9 : Hid (Fr (fun c _ => c ≠ b) w W) := FP8.out.trans (F9.out.mono fun _ _ _ => trivial)
      refine wpAny_next 12 (by kernel_rfl) rfl fun K' hK => ?_
      (try simp only [gA, gB, gC])
      go_simp
      refine hK.out _ _ ?_
      clear hK K'
      refine wpAny_next 13 (by kernel_rfl) rfl fun K' hK => ?_
      (try simp only [gA, gB, gC])
      go_simp
      refine hK.out _ _ ?_
      clear hK K'
      refine wpAny_fin (by kernel_rfl) ?_
      go_wp2
      go_ret
      rw [E.out]
      exact ⟨q3, _, [⟨6, me, s, tm2, en, 0, 0, true, none, 0, [], none, 0, []⟩], rfl, (H9.out).tt ((Fr.refl _ W).alloc _), (FP9.out).alloc _, (OwnMs.one ⟨6, me, s, tm2, en, 0, 0, true, none, 0, [], none, 0, []⟩ (H9.out).hx ⟨BytesAt.nil _ _, EsAt.nil _ _⟩).lo (FP9.out).size, rfl⟩
    ·have gA : decide (mc < en) = true := decide_eq_true hA
     have gB : decide (cm < mc) = false := decide_eq_false hB
     have gC : decide (en ≤ mc) = false := decide_eq_false (by omega)
     have HMX : Hid (mx = cm) := by have := HMX0.out; show _ = _; omega
     rw [HMX.out] at E
     clear hA hB
     go_quiet (fail)
     have UQ6 : Hid (Fr (fun _ _ => True) W6 (W6.drewN nq)) := (Fr.refl _ W6).drewN nq
     generalize W6.drewN nq = W7 at UQ6 ⊢
     clear v4 v6 v9 y7
     have H7 := Lib.hid (H6.out.tt UQ6.out)
     have MX7 : Hid (W7.heap[g0]? = some (.cells (cM m) 32 (0, 0))) := UQ6.out.keep _ _ MX6.out trivial
     have FP7 : Hid (Fr (fun c _ => c ≠ b) w W7) := FP6.out.trans (UQ6.out.mono fun _ _ _ => trivial)
     obtain ⟨v1, v3, v4, v5, v6, v9⟩ := VH.out W7 MX7.out
     have y7 : W7.cell? ⟨b, 7, none⟩ = some (.int .u64 (cm : Nat)) := by rw [(H7.out.cells (Fr.refl _ W7)).2.2.2.2.2.2.2.1, n3c.out.1]
     have z7 := H7.out.free (Fr.refl _ W7) 7
     obtain ⟨W8, hW8⟩ : ∃ Y, W7 = Y := ⟨_, rfl⟩
     rw [hW8] at H7 MX7 FP7 y7 z7 v1 v3 v4 v5 v6 v9 ⊢
     have H8 : Hid (DNs X W8 b { n3 with commit := cm } q3) := by
      have e : ({ n3 with commit := cm } : Nd) = n3 := by rw [← n3c.out.1]
      show DNs X W8 b { n3 with commit := cm } q3
      rw [e]; exact H7.out
     have MX8 := MX7
     have FP8 := FP7
     have UH : Hid (Fr (fun _ _ => True) W8 W8.drew) := (Fr.refl _ _).drew
     have CE : Hid (∀ W, Fr (fun _ _ => True) W8 W → W.cell? ⟨b, 0, none⟩ = some (.int .i64 me) ∧ W.cell? ⟨b, 6, none⟩ = some (.int .u64 (tm2 : Nat)) ∧ W.cell? ⟨b, 7, none⟩ = some (.int .u64 (cm : Nat))) := fun W f => by
      obtain ⟨x0, x1, x2, x3, x4, x5, x6, x7, x8, x9, x10, x11⟩ := H8.out.cells f
      exact ⟨by rw [x0]; show some (Value.int .i64 n3.me) = _; rw [n3c.out.2.1], by rw [x6]; show some (natN n3.tm) = _; rw [n3c.out.2.2], x7⟩
     go_wp2_with fail
     clear hW8 y7 z7 v1 v3 v4 v5 v6 v9
     refine wp_region_cf (K := fun _ _ => True) (by kernel_rfl) [(125, 0), (126, 1), (127, 2), (128, 3), (129, 4), (130, 5), (131, 6), (132, 7), (133, 8), (134, 9), (135, 10), (136, 11), (137, 12), (4, 13)] [(0, []), (1, [0]), (2, [1]), (3, [2]), (4, []), (5, [4]), (6, []), (7, [6]), (8, [7]), (9, [8]), (10, []), (11, [3, 5, 9, 10])] (ckR [(0, .pointer (some ⟨b, 0, none⟩)), (1, .pointer (some ⟨b, 0, none⟩)), (2, .pointer (some ⟨b, 0, none⟩)), (3, .int .i64 me), (4, .pointer (some ⟨g0, 1, none⟩)), (5, .int .i64 s), (6, .pointer (some ⟨b, 0, none⟩)), (7, .pointer (some ⟨b, 0, none⟩)), (8, .pointer (some ⟨b, 6, none⟩)), (9, .int .u64 (tm2 : Nat)), (10, .int .u64 (en : Nat)), (11, .agg #[.int .i64 6, .int .i64 me, .int .i64 s, .int .u64 (tm2 : Nat), .int .u64 (en : Nat), .int .u64 0, .int .u64 0, .bool true, .slice none 0 0, .slice none 0 0])] [] 12 0) 2 (by kernel_rfl) (by kernel_rfl) (by kernel_rfl) rfl ?cfall ?cfend
     case cfall =>
      iterate 12
       refine CfAll.kk rfl rfl rfl (fun xs W hF hE K' hK => ?_) ?_
       ·have HF := Lib.hid hF
        clear hF
        simp only [ckEqs, ckLook, Nat.reduceBEq] at hE
        simp only [fillA, fillL, sA, sB, sC, Act.put, hE] at hK ⊢
        clear hE
        obtain ⟨y0, y6, y7⟩ := CE.out W (UH.out.trans HF.out)
        obtain ⟨v1, v3, v4, v5, v6, v9⟩ := VH.out W ((UH.out.trans HF.out).keep _ _ MX8.out trivial)
        (try simp only [gA, gB, gC])
        go_simp
        exact hK.out _ rfl
      exact CfAll.nil
     case cfend =>
      intro xs W hF hA
      have HF := Lib.hid hF
      have hE := ckEnd rfl hA
      clear hA hF
      simp only [List.map_cons, List.map_nil, ckEqs, ckLook, Nat.reduceBEq] at hE
      simp only [fillA, fillL, sA, sB, sC, hE]
      clear hE
      have F9 := Lib.hid (UH.out.trans HF.out)
      have H9 := Lib.hid (H8.out.tt F9.out)
      have FP9 : Hid (Fr (fun c _ => c ≠ b) w W) := FP8.out.trans (F9.out.mono fun _ _ _ => trivial)
      refine wpAny_next 12 (by kernel_rfl) rfl fun K' hK => ?_
      (try simp only [gA, gB, gC])
      go_simp
      refine hK.out _ _ ?_
      clear hK K'
      refine wpAny_next 13 (by kernel_rfl) rfl fun K' hK => ?_
      (try simp only [gA, gB, gC])
      go_simp
      refine hK.out _ _ ?_
      clear hK K'
      refine wpAny_fin (by kernel_rfl) ?_
      go_wp2
      go_ret
      rw [E.out]
      exact ⟨q3, _, [⟨6, me, s, tm2, en, 0, 0, true, none, 0, [], none, 0, []⟩], rfl, (H9.out).tt ((Fr.refl _ W).alloc _), (FP9.out).alloc _, (OwnMs.one ⟨6, me, s, tm2, en, 0, 0, true, none, 0, [], none, 0, []⟩ (H9.out).hx ⟨BytesAt.nil _ _, EsAt.nil _ _⟩).lo (FP9.out).size, rfl⟩
   ·by_cases hB : cm < en
    ·have gA : decide (mc < en) = false := decide_eq_false hA
     have gC : decide (en ≤ mc) = true := decide_eq_true (by omega)
     have gD : decide (cm < en) = true := decide_eq_true hB
     have HMX : Hid (mx = en) := by have := HMX0.out; show _ = _; omega
     rw [HMX.out] at E
     clear hA hB
     go_quiet (fail)
     have UQ6 : Hid (Fr (fun _ _ => True) W6 (W6.drewN nq)) := (Fr.refl _ W6).drewN nq
     generalize W6.drewN nq = W7 at UQ6 ⊢
     clear v4 v6 v9 y7
     have H7 := Lib.hid (H6.out.tt UQ6.out)
     have MX7 : Hid (W7.heap[g0]? = some (.cells (cM m) 32 (0, 0))) := UQ6.out.keep _ _ MX6.out trivial
     have FP7 : Hid (Fr (fun c _ => c ≠ b) w W7) := FP6.out.trans (UQ6.out.mono fun _ _ _ => trivial)
     obtain ⟨v1, v3, v4, v5, v6, v9⟩ := VH.out W7 MX7.out
     have y7 : W7.cell? ⟨b, 7, none⟩ = some (.int .u64 (cm : Nat)) := by rw [(H7.out.cells (Fr.refl _ W7)).2.2.2.2.2.2.2.1, n3c.out.1]
     have z7 := H7.out.free (Fr.refl _ W7) 7
     obtain ⟨W8, hW8⟩ : ∃ Y, W7.setCell ⟨b, 7, none⟩ (.int .u64 (en : Nat)) = Y := ⟨_, rfl⟩
     have hW8s : sets W7 b [(7, .int .u64 (en : Nat))] = W8 := hW8
     have f8 : Fr (fun c _ => c ≠ b) W7 W8 := hW8s ▸ sets_fr b _ W7
     have H8 : Hid (DNs X W8 b { n3 with commit := en } q3) := H7.out.re f8 (hW8s ▸ sets_heap _ H7.out.top) ⟨rfl, rfl⟩ (H7.out.ye.aft (H7.out.own f8)) ⟨H7.out.ee, H7.out.ev.aft (H7.out.own f8)⟩ ⟨H7.out.nl, H7.out.ml⟩
     have MX8 : Hid (W8.heap[g0]? = some (.cells (cM m) 32 (0, 0))) := f8.keep _ _ MX7.out gb.out
     have FP8 : Hid (Fr (fun c _ => c ≠ b) w W8) := FP7.out.trans f8
     have u6 := (VH.out W8 MX8.out).2.2.2.2.1
     clear f8 hW8s
     have UH : Hid (Fr (fun _ _ => True) W8 W8.drew) := (Fr.refl _ _).drew
     have CE : Hid (∀ W, Fr (fun _ _ => True) W8 W → W.cell? ⟨b, 0, none⟩ = some (.int .i64 me) ∧ W.cell? ⟨b, 6, none⟩ = some (.int .u64 (tm2 : Nat)) ∧ W.cell? ⟨b, 7, none⟩ = some (.int .u64 (en : Nat))) := fun W f => by
      obtain ⟨x0, x1, x2, x3, x4, x5, x6, x7, x8, x9, x10, x11⟩ := H8.out.cells f
      exact ⟨by rw [x0]; show some (Value.int .i64 n3.me) = _; rw [n3c.out.2.1], by rw [x6]; show some (natN n3.tm) = _; rw [n3c.out.2.2], x7⟩
     have y7' := (CE.out W8 (Fr.refl _ _)).2.2
     go_wp2_with fail
     try rw [hW8]
     clear hW8 y7 y7' z7 u6 v1 v3 v4 v5 v6 v9
     refine wp_region_cf (K := fun _ _ => True) (by kernel_rfl) [(125, 0), (126, 1), (127, 2), (128, 3), (129, 4), (130, 5), (131, 6), (132, 7), (133, 8), (134, 9), (135, 10), (136, 11), (137, 12), (4, 13)] [(0, []), (1, [0]), (2, [1]), (3, [2]), (4, []), (5, [4]), (6, []), (7, [6]), (8, [7]), (9, [8]), (10, []), (11, [3, 5, 9, 10])] (ckR [(0, .pointer (some ⟨b, 0, none⟩)), (1, .pointer (some ⟨b, 0, none⟩)), (2, .pointer (some ⟨b, 0, none⟩)), (3, .int .i64 me), (4, .pointer (some ⟨g0, 1, none⟩)), (5, .int .i64 s), (6, .pointer (some ⟨b, 0, none⟩)), (7, .pointer (some ⟨b, 0, none⟩)), (8, .pointer (some ⟨b, 6, none⟩)), (9, .int .u64 (tm2 : Nat)), (10, .int .u64 (en : Nat)), (11, .agg #[.int .i64 6, .int .i64 me, .int .i64 s, .int .u64 (tm2 : Nat), .int .u64 (en : Nat), .int .u64 0, .int .u64 0, .bool true, .slice none 0 0, .slice none 0 0])] [] 12 0) 2 (by kernel_rfl) (by kernel_rfl) (by kernel_rfl) rfl ?cfall ?cfend
     case cfall =>
      iterate 12
       refine CfAll.kk rfl rfl rfl (fun xs W hF hE K' hK => ?_) ?_
       ·have HF := Lib.hid hF
        clear hF
        simp only [ckEqs, ckLook, Nat.reduceBEq] at hE
        simp only [fillA, fillL, sA, sB, sC, Act.put, hE] at hK ⊢
        clear hE
        obtain ⟨y0, y6, y7⟩ := CE.out W (UH.out.trans HF.out)
        obtain ⟨v1, v3, v4, v5, v6, v9⟩ := VH.out W ((UH.out.trans HF.out).keep _ _ MX8.out trivial)
        (try simp only [gA, gB, gC])
        go_simp
        exact hK.out _ rfl
      exact CfAll.nil
     case cfend =>
      intro xs W hF hA
      have HF := Lib.hid hF
      have hE := ckEnd rfl hA
      clear hA hF
      simp only [List.map_cons, List.map_nil, ckEqs, ckLook, Nat.reduceBEq] at hE
      simp only [fillA, fillL, sA, sB, sC, hE]
      clear hE
      have F9 := Lib.hid (UH.out.trans HF.out)
      have H9 := Lib.hid (H8.out.tt F9.out)
      have FP9 : Hid (Fr (fun c _ => c ≠ b) w W) := FP8.out.trans (F9.out.mono fun _ _ _ => trivial)
      refine wpAny_next 12 (by kernel_rfl) rfl fun K' hK => ?_
      (try simp only [gA, gB, gC])
      go_simp
      refine hK.out _ _ ?_
      clear hK K'
      refine wpAny_next 13 (by kernel_rfl) rfl fun K' hK => ?_
      (try simp only [gA, gB, gC])
      go_simp
      refine hK.out _ _ ?_
      clear hK K'
      refine wpAny_fin (by kernel_rfl) ?_
      go_wp2
      go_ret
      rw [E.out]
      exact ⟨q3, _, [⟨6, me, s, tm2, en, 0, 0, true, none, 0, [], none, 0, []⟩], rfl, (H9.out).tt ((Fr.refl _ W).alloc _), (FP9.out).alloc _, (OwnMs.one ⟨6, me, s, tm2, en, 0, 0, true, none, 0, [], none, 0, []⟩ (H9.out).hx ⟨BytesAt.nil _ _, EsAt.nil _ _⟩).lo (FP9.out).size, rfl⟩
    ·have gA : decide (mc < en) = false := decide_eq_false hA
     have gC : decide (en ≤ mc) = true := decide_eq_true (by omega)
     have gD : decide (cm < en) = false := decide_eq_false hB
     have HMX : Hid (mx = cm) := by have := HMX0.out; show _ = _; omega
     rw [HMX.out] at E
     clear hA hB
     go_quiet (fail)
     have UQ6 : Hid (Fr (fun _ _ => True) W6 (W6.drewN nq)) := (Fr.refl _ W6).drewN nq
     generalize W6.drewN nq = W7 at UQ6 ⊢
     clear v4 v6 v9 y7
     have H7 := Lib.hid (H6.out.tt UQ6.out)
     have MX7 : Hid (W7.heap[g0]? = some (.cells (cM m) 32 (0, 0))) := UQ6.out.keep _ _ MX6.out trivial
     have FP7 : Hid (Fr (fun c _ => c ≠ b) w W7) := FP6.out.trans (UQ6.out.mono fun _ _ _ => trivial)
     obtain ⟨v1, v3, v4, v5, v6, v9⟩ := VH.out W7 MX7.out
     have y7 : W7.cell? ⟨b, 7, none⟩ = some (.int .u64 (cm : Nat)) := by rw [(H7.out.cells (Fr.refl _ W7)).2.2.2.2.2.2.2.1, n3c.out.1]
     have z7 := H7.out.free (Fr.refl _ W7) 7
     obtain ⟨W8, hW8⟩ : ∃ Y, W7 = Y := ⟨_, rfl⟩
     rw [hW8] at H7 MX7 FP7 y7 z7 v1 v3 v4 v5 v6 v9 ⊢
     have H8 : Hid (DNs X W8 b { n3 with commit := cm } q3) := by
      have e : ({ n3 with commit := cm } : Nd) = n3 := by rw [← n3c.out.1]
      show DNs X W8 b { n3 with commit := cm } q3
      rw [e]; exact H7.out
     have MX8 := MX7
     have FP8 := FP7
     have UH : Hid (Fr (fun _ _ => True) W8 W8.drew) := (Fr.refl _ _).drew
     have CE : Hid (∀ W, Fr (fun _ _ => True) W8 W → W.cell? ⟨b, 0, none⟩ = some (.int .i64 me) ∧ W.cell? ⟨b, 6, none⟩ = some (.int .u64 (tm2 : Nat)) ∧ W.cell? ⟨b, 7, none⟩ = some (.int .u64 (cm : Nat))) := fun W f => by
      obtain ⟨x0, x1, x2, x3, x4, x5, x6, x7, x8, x9, x10, x11⟩ := H8.out.cells f
      exact ⟨by rw [x0]; show some (Value.int .i64 n3.me) = _; rw [n3c.out.2.1], by rw [x6]; show some (natN n3.tm) = _; rw [n3c.out.2.2], x7⟩
     go_wp2_with fail
     clear hW8 y7 z7 v1 v3 v4 v5 v6 v9
     refine wp_region_cf (K := fun _ _ => True) (by kernel_rfl) [(125, 0), (126, 1), (127, 2), (128, 3), (129, 4), (130, 5), (131, 6), (132, 7), (133, 8), (134, 9), (135, 10), (136, 11), (137, 12), (4, 13)] [(0, []), (1, [0]), (2, [1]), (3, [2]), (4, []), (5, [4]), (6, []), (7, [6]), (8, [7]), (9, [8]), (10, []), (11, [3, 5, 9, 10])] (ckR [(0, .pointer (some ⟨b, 0, none⟩)), (1, .pointer (some ⟨b, 0, none⟩)), (2, .pointer (some ⟨b, 0, none⟩)), (3, .int .i64 me), (4, .pointer (some ⟨g0, 1, none⟩)), (5, .int .i64 s), (6, .pointer (some ⟨b, 0, none⟩)), (7, .pointer (some ⟨b, 0, none⟩)), (8, .pointer (some ⟨b, 6, none⟩)), (9, .int .u64 (tm2 : Nat)), (10, .int .u64 (en : Nat)), (11, .agg #[.int .i64 6, .int .i64 me, .int .i64 s, .int .u64 (tm2 : Nat), .int .u64 (en : Nat), .int .u64 0, .int .u64 0, .bool true, .slice none 0 0, .slice none 0 0])] [] 12 0) 2 (by kernel_rfl) (by kernel_rfl) (by kernel_rfl) rfl ?cfall ?cfend
     case cfall =>
      iterate 12
       refine CfAll.kk rfl rfl rfl (fun xs W hF hE K' hK => ?_) ?_
       ·have HF := Lib.hid hF
        clear hF
        simp only [ckEqs, ckLook, Nat.reduceBEq] at hE
        simp only [fillA, fillL, sA, sB, sC, Act.put, hE] at hK ⊢
        clear hE
        obtain ⟨y0, y6, y7⟩ := CE.out W (UH.out.trans HF.out)
        obtain ⟨v1, v3, v4, v5, v6, v9⟩ := VH.out W ((UH.out.trans HF.out).keep _ _ MX8.out trivial)
        (try simp only [gA, gB, gC])
        go_simp
        exact hK.out _ rfl
      exact CfAll.nil
     case cfend =>
      intro xs W hF hA
      have HF := Lib.hid hF
      have hE := ckEnd rfl hA
      clear hA hF
      simp only [List.map_cons, List.map_nil, ckEqs, ckLook, Nat.reduceBEq] at hE
      simp only [fillA, fillL, sA, sB, sC, hE]
      clear hE
      have F9 := Lib.hid (UH.out.trans HF.out)
      have H9 := Lib.hid (H8.out.tt F9.out)
      have FP9 : Hid (Fr (fun c _ => c ≠ b) w W) := FP8.out.trans (F9.out.mono fun _ _ _ => trivial)
      refine wpAny_next 12 (by kernel_rfl) rfl fun K' hK => ?_
      (try simp only [gA, gB, gC])
      go_simp
      refine hK.out _ _ ?_
      clear hK K'
      refine wpAny_next 13 (by kernel_rfl) rfl fun K' hK => ?_
      (try simp only [gA, gB, gC])
      go_simp
      refine hK.out _ _ ?_
      clear hK K'
      refine wpAny_fin (by kernel_rfl) ?_
      go_wp2
      go_ret
      rw [E.out]
      exact ⟨q3, _, [⟨6, me, s, tm2, en, 0, 0, true, none, 0, [], none, 0, []⟩], rfl, (H9.out).tt ((Fr.refl _ W).alloc _), (FP9.out).alloc _, (OwnMs.one ⟨6, me, s, tm2, en, 0, 0, true, none, 0, [], none, 0, []⟩ (H9.out).hx ⟨BytesAt.nil _ _, EsAt.nil _ _⟩).lo (FP9.out).size, rfl⟩
end
end Go.Proofs.YtmjccpfchhnfhaaGreat
/- The document's nodes: OnAppend, all (printed by dr7.py). -/
namespace Go.Proofs.YtmjccpfchhnfhaaGreat
open Go.RowKit
set_option linter.unusedVariables false
set_option linter.unusedSimpArgs false
section
variable {X : Nat → Prop} {w w' : World} {b : Nat} {n n' : Nd} {q q' : DV}
theorem dAppend_calls [Old] (h : DNs X w b n q) (m : MV) (hm : MsAt X w m)  (hix : m.index + m.es.length + 1 < 18446744073709551616) (hes : m.es.length ≤ 400000) (hl : n.log.last + 1 < 18446744073709551616) (hle : n.log.es.length ≤ 400000) :
  Calls Tryz.prog 11 #[.pointer (some ⟨b, 0, none⟩), .agg (cM m)] w fun e w' => DOut X w b (n.onAppend m.ms) e w' := by
 by_cases hk5 : m.kind = 5
 ·by_cases hlt : m.tm < n.tm
  ·exact dAppendP_calls h m hm hk5 hlt hix hes hl hle
  ·exact dAppendT_calls h m hm hk5 hlt hix hes hl hle
 ·exact dAppend0_calls h m hm hk5 hix hes hl hle
end
end Go.Proofs.YtmjccpfchhnfhaaGreat
