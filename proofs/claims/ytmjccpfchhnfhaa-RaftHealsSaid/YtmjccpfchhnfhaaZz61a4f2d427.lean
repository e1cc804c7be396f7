/- Texts of the proofs, part 26: what the functions that they reach do, walked; no conditions beyond those that each states. -/
import Derived.Test.YtmjccpfchhnfhaaZz3eb50319a2
import Derived.Test.YtmjccpfchhnfhaaZz7cdbd893d7
import Derived.Test.YtmjccpfchhnfhaaZzb30c601fa7
set_option linter.unusedVariables false
set_option linter.unusedSimpArgs false
/- follow: OnAppend (printed by fl5.py). -/
namespace Go.Proofs.Ytmjccpfchhnfhaa
open Go.RowKit
set_option linter.unusedVariables false
set_option linter.unusedSimpArgs false
section
variable {X P : Nat → Prop} {w w' : World} {b : Nat} {n n' : Nd} {q q' : NV}
theorem Nd.follow_log (n : Nd) (t : Nat) (l : Int) : (n.follow t l).log = n.log ∧ (n.follow t l).me = n.me ∧ (n.follow t l).commit = n.commit := by
 unfold Nd.follow
 split <;> exact ⟨rfl, rfl, rfl⟩
set_option maxRecDepth 100000 in
set_option maxHeartbeats 8000000 in
theorem onAppend0_calls [Old] (h : PNs X P w b n q) (m : MV) (hm : MsAt X w m) (hk5 : m.kind ≠ 5) (hix : m.index + m.es.length + 1 < 18446744073709551616) (hes : m.es.length ≤ 900000) (hl : n.log.last + 1 < 18446744073709551616) (hle : n.log.es.length ≤ 900000) :
  Calls Try.prog 20 #[.pointer (some ⟨b, 0, none⟩), .agg (cM m)] w fun e w' => NOut X P w b (n.onAppend m.ms) e w' := by
 obtain ⟨W1, hW1, F1, X1⟩ := mbox w m
 obtain ⟨g0, hg0⟩ : ∃ x, w.heap.size = x := ⟨_, rfl⟩
 rw [hg0] at X1
 have H := Lib.hid h
 have HG0 := Lib.hid hg0
 have gb : Hid (g0 ≠ b) := by have := lt_of_some h.top; show _ ≠ _; omega
 obtain ⟨k, hk⟩ : ∃ x, m.kind = x := ⟨_, rfl⟩
 have v0 : W1.cell? ⟨g0, 0, none⟩ = some (.int .i64 k) := by rw [← hk]; exact (mcells X1.out).1
 have k5 : (k == 5) = false := by rw [← hk]; simpa using hk5
 have k5' : (k != 5) = true := by rw [bne, k5]; rfl
 have E : Hid (n.onAppend m.ms = (n, [])) := if_pos hk5
 unfold cM at hW1 ⊢
 clear h hk hk5 hm hix hes hl hle
 go_enter Try.func20, Try.ntmps20
 go_wp2
 try rw [hW1]
 go_ret
 rw [E.out]
 exact ⟨X, P, q, _, [], rfl, H.tt F1, .tt F1 H.px, OwnMs.nil _ _ _, rfl⟩
set_option maxRecDepth 100000 in
set_option maxHeartbeats 8000000 in
theorem onAppendP_calls [Old] (h : PNs X P w b n q) (m : MV) (hm : MsAt X w m) (hk5 : m.kind = 5) (hlt : m.tm < n.tm) (hix : m.index + m.es.length + 1 < 18446744073709551616) (hes : m.es.length ≤ 900000) (hl : n.log.last + 1 < 18446744073709551616) (hle : n.log.es.length ≤ 900000) :
  Calls Try.prog 20 #[.pointer (some ⟨b, 0, none⟩), .agg (cM m)] w fun e w' => NOut X P w b (n.onAppend m.ms) e w' := by
 obtain ⟨W1, hW1, F1, X1⟩ := mbox w m
 obtain ⟨g0, hg0⟩ : ∃ x, w.heap.size = x := ⟨_, rfl⟩
 rw [hg0] at X1
 have H := Lib.hid h
 have HG0 := Lib.hid hg0
 have gb : Hid (g0 ≠ b) := by have := lt_of_some h.top; show _ ≠ _; omega
 obtain ⟨me, hme⟩ : ∃ x, n.me = x := ⟨_, rfl⟩
 obtain ⟨tm, htm⟩ : ∃ x, n.tm = x := ⟨_, rfl⟩
 obtain ⟨s, hs⟩ : ∃ x, m.src = x := ⟨_, rfl⟩
 obtain ⟨mt, hmt⟩ : ∃ x, m.tm = x := ⟨_, rfl⟩
 obtain ⟨ix, hixx⟩ : ∃ x, m.index = x := ⟨_, rfl⟩
 obtain ⟨pv, hpv⟩ : ∃ x, m.prev = x := ⟨_, rfl⟩
 obtain ⟨mc, hmc⟩ : ∃ x, m.commit = x := ⟨_, rfl⟩
 have HL := Lib.hid (And.intro hme (And.intro htm (And.intro hs (And.intro hmt (And.intro hixx (And.intro hpv hmc))))))
 have CC : Hid (∀ W, FT W1 W → W.cell? ⟨b, 0, none⟩ = some (.int .i64 me) ∧ W.cell? ⟨b, 6, none⟩ = some (.int .u64 (tm : Nat))) := fun W f => by
  obtain ⟨x0, x1, x2, x3, x4, x5, x6, x7, x8, x9, x10, x11, x12, x13⟩ := h.cells (F1.trans f)
  exact ⟨by rw [x0, hme], by rw [x6, htm]⟩
 have V0 : ∀ W : World, W.heap[g0]? = some (.cells (cM m) 74 (0, 0)) → W.cell? ⟨g0, 1, none⟩ = some (.int .i64 s) ∧ W.cell? ⟨g0, 3, none⟩ = some (.int .u64 (mt : Nat)) ∧ W.cell? ⟨g0, 4, none⟩ = some (.int .u64 (ix : Nat)) ∧ W.cell? ⟨g0, 5, none⟩ = some (.int .u64 (pv : Nat)) ∧ W.cell? ⟨g0, 6, none⟩ = some (.int .u64 (mc : Nat)) ∧ W.cell? ⟨g0, 9, none⟩ = some (.slice m.ea m.es.length m.ec) := fun W t => by
  obtain ⟨v0, v1, v2, v3, v4, v5, v6, v7, v8, v9⟩ := mcells t
  exact ⟨by rw [v1, hs], by rw [v3, hmt], by rw [v4, hixx], by rw [v5, hpv], by rw [v6, hmc], v9⟩
 have VH := Lib.hid V0
 have VC : Hid (∀ W, FT W1 W → W.cell? ⟨g0, 1, none⟩ = some (.int .i64 s) ∧ W.cell? ⟨g0, 3, none⟩ = some (.int .u64 (mt : Nat)) ∧ W.cell? ⟨g0, 4, none⟩ = some (.int .u64 (ix : Nat)) ∧ W.cell? ⟨g0, 5, none⟩ = some (.int .u64 (pv : Nat)) ∧ W.cell? ⟨g0, 6, none⟩ = some (.int .u64 (mc : Nat)) ∧ W.cell? ⟨g0, 9, none⟩ = some (.slice m.ea m.es.length m.ec)) := fun W f => V0 W (f.keep _ _ X1 trivial)
 have UD : Hid (FT W1 W1.drew) := (Fr.refl _ _).drew
 have v0 : W1.cell? ⟨g0, 0, none⟩ = some (.int .i64 5) := by rw [← hk5]; exact (mcells X1.out).1
 have gl : decide (mt < tm) = true := by rw [← hmt, ← htm]; exact decide_eq_true hlt
 have E : Hid (n.onAppend m.ms = (n, [{ zMs with kind := 6, src := me, dst := s, index := ix, tm := tm }])) := by
  show n.onAppend m.ms = _
  unfold Nd.onAppend
  rw [if_neg (fun e => e hk5), if_pos (show m.ms.tm < n.tm from hlt)]
  rw [← hme, ← hs, ← hixx, ← htm]
  rfl
 have HM := Lib.hid hm
 unfold cM at hW1 ⊢
 clear hk5 hlt hix hes hl hle h hme htm hs hmt hixx hpv hmc hm V0
 go_enter Try.func20, Try.ntmps20
 go_wp2_with fail
 try rw [hW1]
 try rw [HG0.out]
 clear hW1 hg0 v0
 refine wp_region_cf (K := fun _ _ => True) (by kernel_rfl) [(12, 0), (13, 1), (14, 2), (15, 3), (16, 4), (17, 5), (18, 6), (19, 7), (20, 8), (21, 9), (22, 10), (23, 11), (24, 12), (5, 13)] [(0, []), (1, [0]), (2, [1]), (3, [2]), (4, []), (5, [4]), (6, []), (7, [6]), (8, []), (9, [8]), (10, [9]), (11, [10]), (12, [3, 5, 7, 11]), (13, [])] (ckR [(0, .pointer (some ⟨b, 0, none⟩)), (1, .pointer (some ⟨b, 0, none⟩)), (2, .pointer (some ⟨b, 0, none⟩)), (3, .int .i64 me), (4, .pointer (some ⟨g0, 1, none⟩)), (5, .int .i64 s), (6, .pointer (some ⟨g0, 4, none⟩)), (7, .int .u64 (ix : Nat)), (8, .pointer (some ⟨b, 0, none⟩)), (9, .pointer (some ⟨b, 0, none⟩)), (10, .pointer (some ⟨b, 6, none⟩)), (11, .int .u64 (tm : Nat)), (12, .agg #[.int .i64 6, .int .i64 me, .int .i64 s, .int .u64 (tm : Nat), .int .u64 (ix : Nat), .int .u64 0, .int .u64 0, .bool false, .slice none 0 0, .slice none 0 0])] [(13, ⟨fun v W => ∃ g, v = .pointer (some ⟨g, 0, none⟩) ∧ g0 < g ∧ W.heap[g]? = some (.cells (cM zMV) 74 (0, 0)), fun v W W' h hf => by obtain ⟨g, h1, h2, h3⟩ := h; exact ⟨g, h1, h2, hf.keep _ _ h3 trivial⟩⟩)] 14 0) 1 (by kernel_rfl) (by kernel_rfl) (by kernel_rfl) rfl ?cfall ?cfend
 case cfall =>
  iterate 13
   refine CfAll.kk rfl rfl rfl (fun xs W hF hE K' hK => ?_) ?_
   ·have HF := Lib.hid hF
    clear hF
    simp only [ckEqs, ckLook, Nat.reduceBEq] at hE
    simp only [fillA, fillL, sA, sB, sC, Act.put, hE] at hK ⊢
    clear hE
    obtain ⟨y0, y6⟩ := CC W (UD.trans HF)
    obtain ⟨v1, v3, v4, v5, v6, v9⟩ := VC W (UD.trans HF)
    skip
    go_simp
    exact hK _ rfl
  refine CfAll.k rfl rfl (fun xs W hF hA hE K' hK => ?_) ?_
  ·have HF := Lib.hid hF
   clear hA hF
   simp only [ckEqs, ckLook, Nat.reduceBEq] at hE
   simp only [fillA, fillL, sA, sB, sC, Act.put, hE] at hK ⊢
   clear hE
   have SB : Hid (g0 < W.heap.size) := lt_of_some ((UD.trans HF).keep _ _ X1 trivial)
   skip
   go_simp
   exact hK _ _ _ rfl ((Fr.refl _ _).alloc _) ⟨_, rfl, SB, heap_alloc_new _ _⟩
  exact CfAll.nil
 case cfend =>
  intro xs W hF hA
  have HF := Lib.hid hF
  have hE := ckEnd rfl hA
  have h13 := hA (13, []) (by decide)
  clear hA hF
  simp only [List.map_cons, List.map_nil, ckEqs, ckLook, Nat.reduceBEq] at hE
  simp only [fillA, fillL, sA, sB, sC, hE]
  clear hE
  obtain ⟨g, e13, hgw, tg⟩ := h13
  rw [e13]
  have TG := Lib.hid tg
  have HGW := Lib.hid hgw
  have FW := Lib.hid (F1.trans (UD.trans HF))
  have FW1 := Lib.hid (UD.trans HF)
  obtain ⟨m0, hm0⟩ : ∃ m : MV, (⟨6, me, s, tm, ix, 0, 0, false, none, 0, [], none, 0, []⟩ : MV) = m := ⟨_, rfl⟩
  obtain ⟨W2, hW2', t2, f2⟩ := set10 tg (.int .i64 6) (.int .i64 me) (.int .i64 s) (.int .u64 (tm : Nat)) (.int .u64 (ix : Nat)) (.int .u64 0) (.int .u64 0) (.bool false) (.slice none 0 0) (.slice none 0 0)
  have T2 : Hid (W2.heap[g]? = some (.cells (cM m0) 74 (0, 0))) := by rw [← hm0]; exact t2
  have F2 := Lib.hid f2
  have HM0 := Lib.hid hm0
  clear t2 f2 hm0 hgw
  have H2 := Lib.hid ((H.out.tt FW.out).msg F2.out ⟨_, _, tg⟩ (by have := lt_of_some H.out.top; have := HGW.out; have := HG0.out; omega))
  have HGS : Hid (w.heap.size ≤ g) := by have := HGW.out; have := HG0.out; show _ ≤ _; omega
  have FP2 : Hid (Fr (fun c _ => ¬ P c) w W2) := ((FW.out.tT : Fr (fun c _ => ¬ P c ∧ c < w.heap.size) w W).trans (F2.out.mono fun c _ h e => by have := h.2; have := HGS.out; omega)).within
  have MX : Hid (W2.heap[g0]? = some (.cells (cM m) 74 (0, 0))) := F2.out.keep _ _ (FW1.out.keep _ _ X1.out trivial) (by have := HGW.out; omega)
  obtain ⟨v0, v1, v2, v3, v4, v5, v6, v7, v8, v9⟩ := mcells tg
  have z0 := frozen_mk (i := 0) tg
  have z1 := frozen_mk (i := 1) tg
  have z2 := frozen_mk (i := 2) tg
  have z3 := frozen_mk (i := 3) tg
  have z4 := frozen_mk (i := 4) tg
  have z5 := frozen_mk (i := 5) tg
  have z6 := frozen_mk (i := 6) tg
  have z7 := frozen_mk (i := 7) tg
  have z8 := frozen_mk (i := 8) tg
  have z9 := frozen_mk (i := 9) tg
  refine wpAny_next 14 (by kernel_rfl) rfl fun K' hK => ?_
  skip
  go_simp
  refine hK _ _ ?_
  clear hK K'
  refine wpAny_fin (by kernel_rfl) ?_
  try rw [hW2']
  clear z0 z1 z2 z3 z4 z5 z6 z7 z8 z9 v0 v1 v2 v3 v4 v5 v6 v7 v8 v9 hW2' tg
  have MA2 := Lib.hid (HM.keep (K := fun c _ => ¬ P c) FP2 (fun c o ho hr e => hr.1 (H.px c e)))
  obtain ⟨WA, hWA⟩ : ∃ Y, W = Y := ⟨_, rfl⟩
  rw [hWA] at HF FW FW1 F2 TG
  clear hWA
  have y6 : W2.cell? ⟨b, 6, none⟩ = some (.int .u64 (tm : Nat)) := by rw [← HL.out.2.1]; exact (H2.out.cells (Fr.refl _ W2)).2.2.2.2.2.2.1
  have v3 := (VH W2 MX).2.1
  go_wp2_with fail
  go_quiet (fail)
  clear y6 v3 gl
  have UQ : Hid (FT W2 (W2.drewN nq)) := (Fr.refl _ W2).drewN nq
  generalize W2.drewN nq = W3 at UQ ⊢
  have H3 := Lib.hid (H2.tt UQ)
  have FP3 : Hid (Fr (fun c _ => ¬ P c) w W3) := FP2.trans (UQ.tT)
  have T3 : Hid (W3.heap[g]? = some (.cells (cM m0) 74 (0, 0))) := UQ.keep _ _ T2 trivial
  have MX3 : Hid (W3.heap[g0]? = some (.cells (cM m) 74 (0, 0))) := UQ.keep _ _ MX trivial
  have MA3 := Lib.hid (MA2.tt UQ)
  have F3S : Hid (w.heap.size ≤ W3.heap.size) := FP3.size
  obtain ⟨u0, u1, u2, u3, u4, u5, u6, u7, u8, u9⟩ := mcells T3
  rw [← HM0.out] at u0 u1 u2 u3 u4 u5 u6 u7 u8 u9
  go_wp2
  go_ret
  rw [E.out]
  refine ⟨X, P, q, _, [⟨6, me, s, tm, ix, 0, 0, false, none, 0, [], none, 0, []⟩], rfl, H3.tt ((Fr.refl _ W3).alloc _), (Aft.of FP3 H.px).tr ((Fr.refl _ W3).alloc _), (OwnMs.one ⟨6, me, s, tm, ix, 0, 0, false, none, 0, [], none, 0, []⟩ H3.hx ⟨BytesAt.nil _ _, EsAt.nil _ _⟩).lo F3S, rfl⟩
set_option maxRecDepth 100000 in
set_option maxHeartbeats 8000000 in
theorem onAppendT_calls [Old] (h : PNs X P w b n q) (m : MV) (hm : MsAt X w m) (hk5 : m.kind = 5) (hlt : ¬ m.tm < n.tm) (hix : m.index + m.es.length + 1 < 18446744073709551616) (hes : m.es.length ≤ 900000) (hl : n.log.last + 1 < 18446744073709551616) (hle : n.log.es.length ≤ 900000) :
  Calls Try.prog 20 #[.pointer (some ⟨b, 0, none⟩), .agg (cM m)] w fun e w' => NOut X P w b (n.onAppend m.ms) e w' := by
 obtain ⟨W1, hW1, F1, X1⟩ := mbox w m
 obtain ⟨g0, hg0⟩ : ∃ x, w.heap.size = x := ⟨_, rfl⟩
 rw [hg0] at X1
 have H := Lib.hid h
 have HG0 := Lib.hid hg0
 have gb : Hid (g0 ≠ b) := by have := lt_of_some h.top; show _ ≠ _; omega
 obtain ⟨me, hme⟩ : ∃ x, n.me = x := ⟨_, rfl⟩
 obtain ⟨tm, htm⟩ : ∃ x, n.tm = x := ⟨_, rfl⟩
 obtain ⟨s, hs⟩ : ∃ x, m.src = x := ⟨_, rfl⟩
 obtain ⟨mt, hmt⟩ : ∃ x, m.tm = x := ⟨_, rfl⟩
 obtain ⟨ix, hixx⟩ : ∃ x, m.index = x := ⟨_, rfl⟩
 obtain ⟨pv, hpv⟩ : ∃ x, m.prev = x := ⟨_, rfl⟩
 obtain ⟨mc, hmc⟩ : ∃ x, m.commit = x := ⟨_, rfl⟩
 have HL := Lib.hid (And.intro hme (And.intro htm (And.intro hs (And.intro hmt (And.intro hixx (And.intro hpv hmc))))))
 have CC : Hid (∀ W, FT W1 W → W.cell? ⟨b, 0, none⟩ = some (.int .i64 me) ∧ W.cell? ⟨b, 6, none⟩ = some (.int .u64 (tm : Nat))) := fun W f => by
  obtain ⟨x0, x1, x2, x3, x4, x5, x6, x7, x8, x9, x10, x11, x12, x13⟩ := h.cells (F1.trans f)
  exact ⟨by rw [x0, hme], by rw [x6, htm]⟩
 have V0 : ∀ W : World, W.heap[g0]? = some (.cells (cM m) 74 (0, 0)) → W.cell? ⟨g0, 1, none⟩ = some (.int .i64 s) ∧ W.cell? ⟨g0, 3, none⟩ = some (.int .u64 (mt : Nat)) ∧ W.cell? ⟨g0, 4, none⟩ = some (.int .u64 (ix : Nat)) ∧ W.cell? ⟨g0, 5, none⟩ = some (.int .u64 (pv : Nat)) ∧ W.cell? ⟨g0, 6, none⟩ = some (.int .u64 (mc : Nat)) ∧ W.cell? ⟨g0, 9, none⟩ = some (.slice m.ea m.es.length m.ec) := fun W t => by
  obtain ⟨v0, v1, v2, v3, v4, v5, v6, v7, v8, v9⟩ := mcells t
  exact ⟨by rw [v1, hs], by rw [v3, hmt], by rw [v4, hixx], by rw [v5, hpv], by rw [v6, hmc], v9⟩
 have VH := Lib.hid V0
 have VC : Hid (∀ W, FT W1 W → W.cell? ⟨g0, 1, none⟩ = some (.int .i64 s) ∧ W.cell? ⟨g0, 3, none⟩ = some (.int .u64 (mt : Nat)) ∧ W.cell? ⟨g0, 4, none⟩ = some (.int .u64 (ix : Nat)) ∧ W.cell? ⟨g0, 5, none⟩ = some (.int .u64 (pv : Nat)) ∧ W.cell? ⟨g0, 6, none⟩ = some (.int .u64 (mc : Nat)) ∧ W.cell? ⟨g0, 9, none⟩ = some (.slice m.ea m.es.length m.ec)) := fun W f => V0 W (f.keep _ _ X1 trivial)
 have UD : Hid (FT W1 W1.drew) := (Fr.refl _ _).drew
 have v0 : W1.cell? ⟨g0, 0, none⟩ = some (.int .i64 5) := by rw [← hk5]; exact (mcells X1.out).1
 have gl : decide (mt < tm) = false := by rw [← hmt, ← htm]; exact decide_eq_false hlt
 obtain ⟨n2, hn2⟩ : ∃ x : Nd, { n.follow m.tm m.src with heard := true } = x := ⟨_, rfl⟩
 have E : Hid (n.onAppend m.ms = n2.taken m.ms) := by
  show n.onAppend m.ms = _
  unfold Nd.onAppend
  rw [if_neg (fun e => e hk5), if_neg (show ¬ m.ms.tm < n.tm from hlt), ← hn2]
  rfl
 have hn2p : n2.log = n.log ∧ n2.me = n.me ∧ n2.commit = n.commit := by rw [← hn2]; exact Nd.follow_log n m.tm m.src
 obtain ⟨bs, hbs⟩ : ∃ x, n.log.base = x := ⟨_, rfl⟩
 obtain ⟨bt, hbt⟩ : ∃ x, n.log.bt = x := ⟨_, rfl⟩
 obtain ⟨tm2, htm2⟩ : ∃ x, n2.tm = x := ⟨_, rfl⟩
 obtain ⟨cm, hcm⟩ : ∃ x, n.commit = x := ⟨_, rfl⟩
 obtain ⟨cd, hcdd⟩ : ∃ x, (n.log.append m.index m.prev (m.es.map EV.en)).2 = x := ⟨_, rfl⟩
 obtain ⟨LA, hLA⟩ : ∃ x, (n.log.append m.index m.prev (m.es.map EV.en)).1 = x := ⟨_, rfl⟩
 obtain ⟨ae, le, ce, hve, hlel, hesl, hlg⟩ := h.lg
 have hl2 : bs + le + 1 < 18446744073709551616 := by unfold Lg.last at hl; omega
 have APC := Lib.hid (fun W (hx : EsAt X W (.slice ae le ce) q.es) (hy : EsAt X W (.slice m.ea m.es.length m.ec) m.es) (hX : ∀ c, X c → c < W.heap.size) => tappend_calls W bs bt ix pv ae le ce q.es hx m.ea m.es.length m.ec m.es hy (by omega) (by omega) (by omega) hes hX)
 rw [show lgE bs bt q.es = n.log by rw [← hbs, ← hbt]; exact hlg, ← hixx, ← hpv, hcdd, hLA, hixx, hpv] at APC
 obtain ⟨hi, hhi⟩ : ∃ x, n.log.hint m.index = x := ⟨_, rfl⟩
 have HIC0 := Lib.hid (fun W (hx : EsAt X W (.slice ae le ce) q.es) => thint_calls W bs bt ix ae le ce q.es hx.row (by omega))
 rw [show lgE bs bt q.es = n.log by rw [← hbs, ← hbt]; exact hlg, ← hixx, hhi, hixx] at HIC0
 have EG : Hid (cd = 60 → n.onAppend m.ms = (n2, [{ zMs with kind := 6, src := me, dst := s, index := ix, tm := tm2, prev := hi }])) := fun gc => by
  rw [E.out]
  unfold Nd.taken
  rw [hn2p.1, if_pos (show (n.log.append m.ms.index m.ms.prev m.ms.es).2 = 60 from hcdd.trans gc), htm2, hn2p.2.1, hme]
  show (n2, [{ zMs with kind := 6, src := me, dst := m.src, index := m.index, tm := tm2, prev := n.log.hint m.index }]) = _
  rw [hhi, hs, hixx]
 obtain ⟨en, hen⟩ : ∃ x, ix + m.es.length = x := ⟨_, rfl⟩
 obtain ⟨mn, hmn⟩ : ∃ x, min mc en = x := ⟨_, rfl⟩
 obtain ⟨mx, hmx⟩ : ∃ x, max cm mn = x := ⟨_, rfl⟩
 have WE : Hid (IntKind.u64.wrap ((ix : Int) + IntKind.u64.wrap (m.es.length : Int)) = ((en : Nat) : Int) ∧ IntKind.u64.wrap (m.es.length : Int) = ((m.es.length : Nat) : Int) ∧ IntKind.u64.wrap ((ix : Int) + (m.es.length : Int)) = ((en : Nat) : Int)) := ⟨by rw [IntKind.wrap_u64, IntKind.wrap_u64]; omega, by rw [IntKind.wrap_u64]; omega, by rw [IntKind.wrap_u64]; omega⟩
 have ET : Hid (cd ≠ 60 → n.onAppend m.ms = ({ n2 with log := LA, commit := mx }, [{ zMs with kind := 6, src := me, dst := s, index := en, tm := tm2, ok := true }])) := fun gc => by
  rw [E.out]
  unfold Nd.taken
  rw [hn2p.1, if_neg (show ¬ (n.log.append m.ms.index m.ms.prev m.ms.es).2 = 60 from fun e => gc (hcdd.symm.trans e)), htm2, hn2p.2.1, hme, hn2p.2.2]
  rw [show (n.log.append m.ms.index m.ms.prev m.ms.es).1 = LA from hLA, show m.ms.src = s from hs, show m.ms.index = ix from hixx, show m.ms.es.length = m.es.length from List.length_map _, hen, show m.ms.commit = mc from hmc, hcm, hmn, hmx]
 have HMX := Lib.hid (And.intro hmn hmx)
 have HLB : Hid (LA.base = bs ∧ LA.bt = bt) := by rw [← hLA, ← hbs, ← hbt]; exact Lg.append_base _ _ _ _
 have HVE := Lib.hid (And.intro hve (And.intro hbs (And.intro hbt hcm)))
 have HN2 := Lib.hid hn2
 have HN2P := Lib.hid hn2p
 have HT2 := Lib.hid htm2
 have HM := Lib.hid hm
 unfold cM at hW1 ⊢
 clear hk5 hlt hix hes hl hle hl2 hcdd hLA hve hlel hesl hlg hbs hbt htm2 hcm hn2 hn2p h hme htm hs hmt hixx hpv hmc hm V0 E hhi hen hmn hmx
 go_enter Try.func20, Try.ntmps20
 go_wp2_with fail
 try rw [hW1]
 try rw [HG0.out]
 clear hW1 hg0 v0
 refine wp_region_cf (K := fun _ _ => True) (by kernel_rfl) [(12, 0), (13, 1), (14, 2), (15, 3), (16, 4), (17, 5), (18, 6), (19, 7), (20, 8), (21, 9), (22, 10), (23, 11), (24, 12), (5, 13)] [(0, []), (1, [0]), (2, [1]), (3, [2]), (4, []), (5, [4]), (6, []), (7, [6]), (8, []), (9, [8]), (10, [9]), (11, [10]), (12, [3, 5, 7, 11]), (13, [])] (ckR [(0, .pointer (some ⟨b, 0, none⟩)), (1, .pointer (some ⟨b, 0, none⟩)), (2, .pointer (some ⟨b, 0, none⟩)), (3, .int .i64 me), (4, .pointer (some ⟨g0, 1, none⟩)), (5, .int .i64 s), (6, .pointer (some ⟨g0, 4, none⟩)), (7, .int .u64 (ix : Nat)), (8, .pointer (some ⟨b, 0, none⟩)), (9, .pointer (some ⟨b, 0, none⟩)), (10, .pointer (some ⟨b, 6, none⟩)), (11, .int .u64 (tm : Nat)), (12, .agg #[.int .i64 6, .int .i64 me, .int .i64 s, .int .u64 (tm : Nat), .int .u64 (ix : Nat), .int .u64 0, .int .u64 0, .bool false, .slice none 0 0, .slice none 0 0])] [(13, ⟨fun v W => ∃ g, v = .pointer (some ⟨g, 0, none⟩) ∧ g0 < g ∧ W.heap[g]? = some (.cells (cM zMV) 74 (0, 0)), fun v W W' h hf => by obtain ⟨g, h1, h2, h3⟩ := h; exact ⟨g, h1, h2, hf.keep _ _ h3 trivial⟩⟩)] 14 0) 1 (by kernel_rfl) (by kernel_rfl) (by kernel_rfl) rfl ?cfall ?cfend
 case cfall =>
  iterate 13
   refine CfAll.kk rfl rfl rfl (fun xs W hF hE K' hK => ?_) ?_
   ·have HF := Lib.hid hF
    clear hF
    simp only [ckEqs, ckLook, Nat.reduceBEq] at hE
    simp only [fillA, fillL, sA, sB, sC, Act.put, hE] at hK ⊢
    clear hE
    obtain ⟨y0, y6⟩ := CC W (UD.trans HF)
    obtain ⟨v1, v3, v4, v5, v6, v9⟩ := VC W (UD.trans HF)
    skip
    go_simp
    exact hK _ rfl
  refine CfAll.k rfl rfl (fun xs W hF hA hE K' hK => ?_) ?_
  ·have HF := Lib.hid hF
   clear hA hF
   simp only [ckEqs, ckLook, Nat.reduceBEq] at hE
   simp only [fillA, fillL, sA, sB, sC, Act.put, hE] at hK ⊢
   clear hE
   have SB : Hid (g0 < W.heap.size) := lt_of_some ((UD.trans HF).keep _ _ X1 trivial)
   skip
   go_simp
   exact hK _ _ _ rfl ((Fr.refl _ _).alloc _) ⟨_, rfl, SB, heap_alloc_new _ _⟩
  exact CfAll.nil
 case cfend =>
  intro xs W hF hA
  have HF := Lib.hid hF
  have hE := ckEnd rfl hA
  have h13 := hA (13, []) (by decide)
  clear hA hF
  simp only [List.map_cons, List.map_nil, ckEqs, ckLook, Nat.reduceBEq] at hE
  simp only [fillA, fillL, sA, sB, sC, hE]
  clear hE
  obtain ⟨g, e13, hgw, tg⟩ := h13
  rw [e13]
  have TG := Lib.hid tg
  have HGW := Lib.hid hgw
  have FW := Lib.hid (F1.trans (UD.trans HF))
  have FW1 := Lib.hid (UD.trans HF)
  obtain ⟨m0, hm0⟩ : ∃ m : MV, (⟨6, me, s, tm, ix, 0, 0, false, none, 0, [], none, 0, []⟩ : MV) = m := ⟨_, rfl⟩
  obtain ⟨W2, hW2', t2, f2⟩ := set10 tg (.int .i64 6) (.int .i64 me) (.int .i64 s) (.int .u64 (tm : Nat)) (.int .u64 (ix : Nat)) (.int .u64 0) (.int .u64 0) (.bool false) (.slice none 0 0) (.slice none 0 0)
  have T2 : Hid (W2.heap[g]? = some (.cells (cM m0) 74 (0, 0))) := by rw [← hm0]; exact t2
  have F2 := Lib.hid f2
  have HM0 := Lib.hid hm0
  clear t2 f2 hm0 hgw
  have H2 := Lib.hid ((H.out.tt FW.out).msg F2.out ⟨_, _, tg⟩ (by have := lt_of_some H.out.top; have := HGW.out; have := HG0.out; omega))
  have HGS : Hid (w.heap.size ≤ g) := by have := HGW.out; have := HG0.out; show _ ≤ _; omega
  have FP2 : Hid (Fr (fun c _ => ¬ P c) w W2) := ((FW.out.tT : Fr (fun c _ => ¬ P c ∧ c < w.heap.size) w W).trans (F2.out.mono fun c _ h e => by have := h.2; have := HGS.out; omega)).within
  have MX : Hid (W2.heap[g0]? = some (.cells (cM m) 74 (0, 0))) := F2.out.keep _ _ (FW1.out.keep _ _ X1.out trivial) (by have := HGW.out; omega)
  obtain ⟨v0, v1, v2, v3, v4, v5, v6, v7, v8, v9⟩ := mcells tg
  have z0 := frozen_mk (i := 0) tg
  have z1 := frozen_mk (i := 1) tg
  have z2 := frozen_mk (i := 2) tg
  have z3 := frozen_mk (i := 3) tg
  have z4 := frozen_mk (i := 4) tg
  have z5 := frozen_mk (i := 5) tg
  have z6 := frozen_mk (i := 6) tg
  have z7 := frozen_mk (i := 7) tg
  have z8 := frozen_mk (i := 8) tg
  have z9 := frozen_mk (i := 9) tg
  refine wpAny_next 14 (by kernel_rfl) rfl fun K' hK => ?_
  skip
  go_simp
  refine hK _ _ ?_
  clear hK K'
  refine wpAny_fin (by kernel_rfl) ?_
  try rw [hW2']
  clear z0 z1 z2 z3 z4 z5 z6 z7 z8 z9 v0 v1 v2 v3 v4 v5 v6 v7 v8 v9 hW2' tg
  have MA2 := Lib.hid (HM.keep (K := fun c _ => ¬ P c) FP2 (fun c o ho hr e => hr.1 (H.px c e)))
  obtain ⟨WA, hWA⟩ : ∃ Y, W = Y := ⟨_, rfl⟩
  rw [hWA] at HF FW FW1 F2 TG
  clear hWA
  have y6 : W2.cell? ⟨b, 6, none⟩ = some (.int .u64 (tm : Nat)) := by rw [← HL.out.2.1]; exact (H2.out.cells (Fr.refl _ W2)).2.2.2.2.2.2.1
  have v3 := (VH W2 MX).2.1
  go_wp2_with fail
  go_quiet (fail)
  clear y6 v3 gl
  have UQ : Hid (FT W2 (W2.drewN nq)) := (Fr.refl _ W2).drewN nq
  generalize W2.drewN nq = W3 at UQ ⊢
  have H3 := Lib.hid (H2.tt UQ)
  have FP3 : Hid (Fr (fun c _ => ¬ P c) w W3) := FP2.trans (UQ.tT)
  have T3 : Hid (W3.heap[g]? = some (.cells (cM m0) 74 (0, 0))) := UQ.keep _ _ T2 trivial
  have MX3 : Hid (W3.heap[g0]? = some (.cells (cM m) 74 (0, 0))) := UQ.keep _ _ MX trivial
  have MA3 := Lib.hid (MA2.tt UQ)
  have F3S : Hid (w.heap.size ≤ W3.heap.size) := FP3.size
  have FO := Lib.hid (follow_calls H3 mt s)
  have v1 := (VH W3 MX3).1
  have v3 := (VH W3 MX3).2.1
  go_wp2_with fail
  (with_reducible refine FO.out.mono ?_)
  rintro e Wf ⟨rfl, hf3, ff⟩
  clear v1 v3 FO
  have FF : Hid (Fr (fun c _ => c ≠ b) W3 Wf) := ff
  rw [← HL.out.2.2.2.1, ← HL.out.2.2.1] at hf3
  have HFO := Lib.hid hf3
  have hgb : g ≠ b := fun e => by have := HGS.out; have := lt_of_some H.out.top; omega
  have hbg : b ≠ g := fun e => hgb e.symm
  have Tf : Hid (Wf.heap[g]? = some (.cells (cM m0) 74 (0, 0))) := FF.keep _ _ T3 hgb
  have MXf : Hid (Wf.heap[g0]? = some (.cells (cM m) 74 (0, 0))) := FF.keep _ _ MX3 gb
  have x11 := (HFO.cells (Fr.refl _ Wf)).2.2.2.2.2.2.2.2.2.2.2.1
  have x6 : Wf.cell? ⟨b, 6, none⟩ = some (.int .u64 (tm2 : Nat)) := by rw [← HT2.out, ← HN2.out]; exact (HFO.out.cells (Fr.refl _ Wf)).2.2.2.2.2.2.1
  have z11 := HFO.free (Fr.refl _ Wf) 11
  have y3 := (mcells Tf).2.2.2.1
  have zg3 := frozen_mk (i := 3) Tf
  have hh : PNs X P (sets Wf b [(11, .bool true)]) b n2 q.noYes := by
   rw [← HN2.out]
   exact HFO.re (sets_fr b _ Wf) (sets_heap _ HFO.top) ⟨rfl, rfl⟩ (.inl ⟨rfl, rfl⟩) ⟨rfl, rfl, rfl⟩ ⟨rfl, rfl, rfl, rfl⟩
  obtain ⟨Wh, hWh⟩ : ∃ Y, Wf.setCell ⟨b, 11, none⟩ (.bool true) = Y := ⟨_, rfl⟩
  have hWhs : sets Wf b [(11, .bool true)] = Wh := hWh
  rw [hWhs] at hh
  have fh : Fr (fun c _ => c ≠ b) Wf Wh := hWhs ▸ sets_fr b _ Wf
  have Th : Wh.heap[g]? = some (.cells (cM m0) 74 (0, 0)) := fh.keep _ _ Tf hgb
  have x6h : Wh.cell? ⟨b, 6, none⟩ = some (.int .u64 (tm2 : Nat)) := by rw [← HT2.out]; exact (hh.cells (Fr.refl _ Wh)).2.2.2.2.2.2.1
  have y3h := (mcells Th).2.2.2.1
  have zg3h := frozen_mk (i := 3) Th
  obtain ⟨m1, hm1⟩ : ∃ m : MV, (⟨6, me, s, tm2, ix, 0, 0, false, none, 0, [], none, 0, []⟩ : MV) = m := ⟨_, rfl⟩
  obtain ⟨W4, hW4⟩ : ∃ Y, Wh.setCell ⟨g, 3, none⟩ (.int .u64 (tm2 : Nat)) = Y := ⟨_, rfl⟩
  have f4 : Fr (fun c _ => c ≠ g) Wh W4 := hW4 ▸ (Fr.refl _ _).setCell (fun _ _ h => h rfl) _
  have T4 : Hid (W4.heap[g]? = some (.cells (cM m1) 74 (0, 0))) := by
   rw [← hW4, ← hm1]
   have := heap_setCell_same (o := 3) Th (.int .u64 (tm2 : Nat))
   rw [← HM0.out] at this
   exact this
  have H4 := Lib.hid (hh.msg f4 ⟨_, _, Th⟩ (by have := lt_of_some H.out.top; have := HGW.out; have := HG0.out; omega))
  have FPh : Fr (fun c _ => ¬ P c) w Wh := (FP3.out.trans (FF.out.mono fun c _ hc e => hc (e ▸ H.out.pb))).trans (fh.mono fun c _ hc e => hc (e ▸ H.out.pb))
  have FP4 : Hid (Fr (fun c _ => ¬ P c) w W4) := ((FPh.mono fun c _ h => h.1 : Fr (fun c _ => ¬ P c ∧ c < w.heap.size) w Wh).trans (f4.mono fun c _ h e => by have := h.2; have := HGS.out; omega)).within
  have MX4 : Hid (W4.heap[g0]? = some (.cells (cM m) 74 (0, 0))) := f4.keep _ _ (fh.keep _ _ MXf.out gb.out) (by have := HGW.out; omega)
  have MA4 := Lib.hid (HM.keep (K := fun c _ => ¬ P c) FP4 (fun c o ho hr e => hr.1 (H.px c e)))
  have CD : Hid (∀ W, FT W4 W → W.cell? ⟨b, 0, none⟩ = some (.int .i64 me) ∧ W.cell? ⟨b, 6, none⟩ = some (.int .u64 (tm2 : Nat)) ∧ W.cell? ⟨b, 8, none⟩ = some (.int .u64 (bs : Nat)) ∧ W.cell? ⟨b, 9, none⟩ = some (.int .u64 (bt : Nat)) ∧ W.cell? ⟨b, 10, none⟩ = some (.slice ae le ce)) := fun W f => by
   obtain ⟨x0, x1, x2, x3, x4, x5, x6, x7, x8, x9, x10, x11, x12, x13⟩ := H4.cells f
   exact ⟨by rw [x0, HN2P.out.2.1, HL.out.1], by rw [x6, HT2.out], by rw [x8, HN2P.out.1, HVE.out.2.1], by rw [x9, HN2P.out.1, HVE.out.2.2.1], by rw [x10]; show some q.ve = _; rw [HVE.out.1]⟩
  have EV4 : Hid (∀ W, FT W4 W → EsAt X W (.slice ae le ce) q.es) := fun W f => by
   have := H4.out.ev.tt f
   have e : q.noYes.ve = .slice ae le ce := HVE.1
   rw [e] at this
   exact this
  replace APC := Lib.hid (fun W (f : FT W4 W) => APC W (EV4 W f) (MA4.es.tt f) (fun c hc => Nat.lt_of_lt_of_le (H4.hx c hc) f.size))
  have HIC := Lib.hid (fun W (f : FT W4 W) => HIC0 W (EV4 W f))
  clear HIC0
  have UE : Hid (FT W4 W4.drew) := (Fr.refl _ _).drew
  have HM1 := Lib.hid hm1
  have FP4S : Hid (w.heap.size ≤ W4.heap.size) := FP4.size
  clear hWhs hh fh Th f4 FPh hm1 hf3 ff
  go_wp2_with fail
  try rw [hWh]
  try rw [hW4]
  clear hWh hW4 x11 x6 z11 y3 zg3 x6h y3h zg3h
  refine wp_region_cfl (K := fun _ _ => True) (by kernel_rfl) [(49, 0), (50, 1), (51, 2), (52, 3), (53, 4), (54, 5), (55, 6), (56, 7), (57, 8), (58, 9), (59, 10), (48, 11), (60, 12), (61, 13), (62, 14), (6, 15), (7, 17), (8, 18)] [(0, []), (1, [0]), (2, [1]), (3, [2]), (4, []), (5, [4]), (6, []), (7, [6]), (8, []), (9, [8]), (10, [3, 5, 7, 9]), (11, [10]), (12, [11]), (13, [11]), (14, [11]), (15, [])] (ckR [(0, .pointer (some ⟨b, 0, none⟩)), (1, .pointer (some ⟨b, 0, none⟩)), (2, .pointer (some ⟨b, 8, none⟩)), (3, .agg #[.int .u64 (bs : Nat), .int .u64 (bt : Nat), .slice ae le ce]), (4, .pointer (some ⟨g0, 4, none⟩)), (5, .int .u64 (ix : Nat)), (6, .pointer (some ⟨g0, 5, none⟩)), (7, .int .u64 (pv : Nat)), (8, .pointer (some ⟨g0, 9, none⟩)), (9, .slice m.ea m.es.length m.ec), (14, .int .i64 cd)] [(10, ⟨fun v W => ∃ a k c f zs, v = .tuple #[.agg #[.int .u64 (bs : Nat), .int .u64 (bt : Nat), .slice a k c], .int .u64 f, .int .i64 cd] ∧ EsAt X W (.slice a k c) zs ∧ zs.map EV.en = LA.es, fun v W W' h hf => by obtain ⟨a, k, c, f, zs, h1, h2, h3⟩ := h; exact ⟨a, k, c, f, zs, h1, h2.tt hf, h3⟩⟩), (11, ⟨fun v W => ∃ a k c f zs, v = .tuple #[.agg #[.int .u64 (bs : Nat), .int .u64 (bt : Nat), .slice a k c], .int .u64 f, .int .i64 cd] ∧ EsAt X W (.slice a k c) zs ∧ zs.map EV.en = LA.es, fun v W W' h hf => by obtain ⟨a, k, c, f, zs, h1, h2, h3⟩ := h; exact ⟨a, k, c, f, zs, h1, h2.tt hf, h3⟩⟩), (12, ⟨fun v W => ∃ a k c zs, v = .agg #[.int .u64 (bs : Nat), .int .u64 (bt : Nat), .slice a k c] ∧ EsAt X W (.slice a k c) zs ∧ zs.map EV.en = LA.es, fun v W W' h hf => by obtain ⟨a, k, c, zs, h1, h2, h3⟩ := h; exact ⟨a, k, c, zs, h1, h2.tt hf, h3⟩⟩), (13, ⟨fun v W => ∃ f, v = .int .u64 f, fun v W W' h hf => h⟩), (15, ⟨fun v W => ∃ g9, v = .pointer (some ⟨g9, 0, none⟩) ∧ g < g9 ∧ W4.heap.size ≤ g9 ∧ W.heap[g9]? = some (.cells #[.int .u64 0, .int .u64 0, .slice none 0 0] 37 (0, 0)), fun v W W' h hf => by obtain ⟨g9, h1, h2, h3, h4⟩ := h; exact ⟨g9, h1, h2, h3, hf.keep _ _ h4 trivial⟩⟩)] 16 0) [13, 14] 3 (by kernel_rfl) (by kernel_rfl) (by kernel_rfl) (by kernel_rfl) (by kernel_rfl) (by exact fun _ _ _ _ _ h => h) (by rfl) ?cfall ?cffl ?cfend
  case cffl =>
   refine FlAll.cons rfl (fun xs W hF hA => ?_) ?_
   ·have HF := Lib.hid hF
    have h11 := hA (11, [10]) (by decide) (by decide)
    clear hA hF
    simp only [fillA, fillL, sA, sB, sC]
    obtain ⟨a, k, c, f, zs, e11, hz, hzl⟩ := h11
    rw [e11]
    refine ⟨.int .u64 f, Or.inl ⟨by rfl, fun w => ?_⟩, ⟨f, rfl⟩⟩
    skip
    go_simp
   refine FlAll.cons rfl (fun xs W hF hA => ?_) ?_
   ·have HF := Lib.hid hF
    have h11 := hA (11, [10]) (by decide) (by decide)
    clear hA hF
    simp only [fillA, fillL, sA, sB, sC]
    obtain ⟨a, k, c, f, zs, e11, hz, hzl⟩ := h11
    rw [e11]
    refine ⟨.int .i64 cd, Or.inl ⟨by rfl, fun w => ?_⟩, rfl⟩
    skip
    go_simp
   exact FlAll.nil
  case cfall =>
   iterate 10
    refine CfAll.kk rfl rfl rfl (fun xs W hF hE K' hK => ?_) ?_
    ·have HF := Lib.hid hF
     clear hF
     simp only [ckEqs, ckLook, Nat.reduceBEq] at hE
     simp only [fillA, fillL, sA, sB, sC, Act.put, hE] at hK ⊢
     clear hE
     obtain ⟨y0, y6, y8, y9, y10⟩ := CD W (UE.trans HF)
     obtain ⟨v1, v3, v4, v5, v6, v9⟩ := VH W ((UE.trans HF).keep _ _ MX4 trivial)
     skip
     go_simp
     exact hK _ rfl
   refine CfAll.k rfl rfl (fun xs W hF hA hE K' hK => ?_) ?_
   ·have HF := Lib.hid hF
    clear hA hF
    simp only [ckEqs, ckLook, Nat.reduceBEq] at hE
    simp only [fillA, fillL, sA, sB, sC, Act.put, hE] at hK ⊢
    clear hE
    obtain ⟨y0, y6, y8, y9, y10⟩ := CD W (UE.trans HF)
    obtain ⟨v1, v3, v4, v5, v6, v9⟩ := VH W ((UE.trans HF).keep _ _ MX4 trivial)
    have AP1 := Lib.hid (APC W (UE.trans HF))
    dsimp only [vL] at AP1
    skip
    go_simp
    (with_reducible refine AP1.out.mono ?_)
    rintro e w8 ⟨⟨a, k, c, f, zs, rfl, hz, hzl⟩, f8⟩
    exact hK _ _ _ rfl f8 ⟨a, k, c, f, zs, rfl, hz, hzl⟩
   refine CfAll.k rfl rfl (fun xs W hF hA hE K' hK => ?_) ?_
   ·have HF := Lib.hid hF
    have h10 := hA 10 (by decide)
    clear hA hF
    simp only [ckEqs, ckLook, Nat.reduceBEq] at hE
    simp only [fillA, fillL, sA, sB, sC, Act.put, hE] at hK ⊢
    clear hE
    obtain ⟨a, k, c, f, zs, e10, hz, hzl⟩ := h10
    rw [e10] at hK ⊢
    clear e10
    skip
    go_simp
    exact hK _ _ _ rfl (Fr.refl _ _) ⟨a, k, c, f, zs, rfl, hz, hzl⟩
   refine CfAll.k rfl rfl (fun xs W hF hA hE K' hK => ?_) ?_
   ·have HF := Lib.hid hF
    have h11 := hA 11 (by decide)
    clear hA hF
    simp only [ckEqs, ckLook, Nat.reduceBEq] at hE
    simp only [fillA, fillL, sA, sB, sC, Act.put, hE] at hK ⊢
    clear hE
    obtain ⟨a, k, c, f, zs, e11, hz, hzl⟩ := h11
    rw [e11] at hK ⊢
    clear e11
    skip
    go_simp
    exact hK _ _ _ rfl (Fr.refl _ _) ⟨a, k, c, zs, rfl, hz, hzl⟩
   refine CfAll.k rfl rfl (fun xs W hF hA hE K' hK => ?_) ?_
   ·have HF := Lib.hid hF
    have h11 := hA 11 (by decide)
    clear hA hF
    simp only [ckEqs, ckLook, Nat.reduceBEq] at hE
    simp only [fillA, fillL, sA, sB, sC, Act.put, hE] at hK ⊢
    clear hE
    obtain ⟨a, k, c, f, zs, e11, hz, hzl⟩ := h11
    rw [e11] at hK ⊢
    clear e11
    skip
    go_simp
    exact hK _ _ _ rfl (Fr.refl _ _) ⟨f, rfl⟩
   refine CfAll.k rfl rfl (fun xs W hF hA hE K' hK => ?_) ?_
   ·have HF := Lib.hid hF
    have h11 := hA 11 (by decide)
    clear hA hF
    simp only [ckEqs, ckLook, Nat.reduceBEq] at hE
    simp only [fillA, fillL, sA, sB, sC, Act.put, hE] at hK ⊢
    clear hE
    obtain ⟨a, k, c, f, zs, e11, hz, hzl⟩ := h11
    rw [e11] at hK ⊢
    clear e11
    skip
    go_simp
    exact hK _ _ _ rfl (Fr.refl _ _) rfl
   refine CfAll.k rfl rfl (fun xs W hF hA hE K' hK => ?_) ?_
   ·have HF := Lib.hid hF
    clear hA hF
    simp only [ckEqs, ckLook, Nat.reduceBEq] at hE
    simp only [fillA, fillL, sA, sB, sC, Act.put, hE] at hK ⊢
    clear hE
    have SB : Hid (W4.heap.size ≤ W.heap.size) := (UE.trans HF).size
    have SG : Hid (g < W.heap.size) := Nat.lt_of_lt_of_le (lt_of_some T4) SB
    skip
    go_simp
    exact hK _ _ _ rfl ((Fr.refl _ _).alloc _) ⟨_, rfl, SG, SB, heap_alloc_new _ _⟩
   exact CfAll.nil
  case cfend =>
   intro xs W hF hA
   have HF := Lib.hid hF
   have hE := ckEnd rfl hA
   have h10 := hA (10, [3, 5, 7, 9]) (by decide)
   have h11 := hA (11, [10]) (by decide)
   have h12 := hA (12, [11]) (by decide)
   have h13 := hA (13, [11]) (by decide)
   have h15 := hA (15, []) (by decide)
   clear hA hF
   simp only [List.map_cons, List.map_nil, ckEqs, ckLook, Nat.reduceBEq] at hE
   simp only [fillA, fillL, sA, sB, sC, hE]
   clear hE
   obtain ⟨a, k, c, zs, e12, hz, hzl⟩ := h12
   obtain ⟨f, e13⟩ := h13
   obtain ⟨g9, e15, hgg, hg9, tg9⟩ := h15
   rw [e12, e13, e15]
   clear e12 e13 e15
   have HZ := Lib.hid (And.intro hz (And.intro hzl (And.intro hgg hg9)))
   have FE := Lib.hid (UE.trans HF)
   have T9 := Lib.hid tg9
   obtain ⟨W5, hW5, l0, l1, l2, F5⟩ := lset (b := bs) (bt := bt) (v := .slice a k c) tg9
   have p0 := cell_mk (i := 0) tg9 rfl
   have p1 := cell_mk (i := 1) tg9 rfl
   have p2 := cell_mk (i := 2) tg9 rfl
   have q0 := frozen_mk (i := 0) tg9
   have q1 := frozen_mk (i := 1) tg9
   have q2 := frozen_mk (i := 2) tg9
   clear hz hzl hgg hg9 tg9
   refine wpAny_next 16 (by kernel_rfl) rfl fun K' hK => ?_
   skip
   go_simp
   refine hK _ _ ?_
   clear hK K'
   refine wpAny_next 17 (by kernel_rfl) rfl fun K' hK => ?_
   skip
   go_simp
   refine hK _ _ ?_
   clear hK K'
   refine wpAny_next 18 (by kernel_rfl) rfl fun K' hK => ?_
   skip
   go_simp
   refine hK _ _ ?_
   clear hK K'
   refine wpAny_fin (by kernel_rfl) ?_
   try rw [hW5]
   clear p0 p1 p2 q0 q1 q2 hW5
   have hb9 : b ≠ g9 := fun e => by have := HZ.out.2.2.2; have := lt_of_some H4.out.top; omega
   have hg9 : g ≠ g9 := fun e => by have := HZ.out.2.2.1; omega
   have h09 : g0 ≠ g9 := fun e => by have := HZ.out.2.2.1; have := HGW.out; omega
   have FE5 : Hid (FT W4 W5) := Fr.within ((FE.out.tT : Fr (fun c _ => True ∧ c < W4.heap.size) W4 W).trans (F5.out.mono fun c _ h e => by have := h.2; have := HZ.out.2.2.2; omega))
   have H5 := Lib.hid (H4.tt FE5)
   have T5 : Hid (W5.heap[g]? = some (.cells (cM m1) 74 (0, 0))) := FE5.keep _ _ T4 trivial
   have MX5 : Hid (W5.heap[g0]? = some (.cells (cM m) 74 (0, 0))) := FE5.keep _ _ MX4 trivial
   have FP5 : Hid (Fr (fun c _ => ¬ P c) w W5) := FP4.trans (FE5.tT)
   have HGW5 : Hid (w.heap.size ≤ W5.heap.size) := FP5.size
   obtain ⟨WB, hWB⟩ : ∃ Y, W = Y := ⟨_, rfl⟩
   rw [hWB] at HF FE T9 F5 HZ
   clear hWB
   by_cases gc : cd = 60
   ·subst gc
    have E := Lib.hid (EG rfl)
    have UG : Hid (FT W5 W5.drew) := (Fr.refl _ _).drew
    clear l0 l1 l2 APC
    go_wp2_with fail
    refine wp_region_cf (K := fun _ _ => True) (by kernel_rfl) [(65, 0), (66, 1), (67, 2), (68, 3), (69, 4), (70, 5), (71, 6), (72, 7)] [(0, []), (1, [0]), (2, [1]), (3, [2]), (4, []), (5, [4]), (6, [3, 5])] (ckR [(0, .pointer (some ⟨b, 0, none⟩)), (1, .pointer (some ⟨b, 0, none⟩)), (2, .pointer (some ⟨b, 8, none⟩)), (3, .agg #[.int .u64 (bs : Nat), .int .u64 (bt : Nat), .slice ae le ce]), (4, .pointer (some ⟨g0, 4, none⟩)), (5, .int .u64 (ix : Nat)), (6, .int .u64 (hi : Nat))] [] 7 0) 2 (by kernel_rfl) (by kernel_rfl) (by kernel_rfl) rfl ?cfall ?cfend
    case cfall =>
     iterate 6
      refine CfAll.kk rfl rfl rfl (fun xs W hF hE K' hK => ?_) ?_
      ·have HF := Lib.hid hF
       clear hF
       simp only [ckEqs, ckLook, Nat.reduceBEq] at hE
       simp only [fillA, fillL, sA, sB, sC, Act.put, hE] at hK ⊢
       clear hE
       obtain ⟨y0, y6, y8, y9, y10⟩ := CD W (FE5.trans (UG.trans HF))
       obtain ⟨v1, v3, v4, v5, v6, v9⟩ := VH W ((UG.trans HF).keep _ _ MX5 trivial)
       skip
       go_simp
       exact hK _ rfl
     refine CfAll.k rfl rfl (fun xs W hF hA hE K' hK => ?_) ?_
     ·have HF := Lib.hid hF
      clear hA hF
      simp only [ckEqs, ckLook, Nat.reduceBEq] at hE
      simp only [fillA, fillL, sA, sB, sC, Act.put, hE] at hK ⊢
      clear hE
      obtain ⟨y0, y6, y8, y9, y10⟩ := CD W (FE5.trans (UG.trans HF))
      obtain ⟨v1, v3, v4, v5, v6, v9⟩ := VH W ((UG.trans HF).keep _ _ MX5 trivial)
      have HI1 := Lib.hid (HIC W (FE5.trans (UG.trans HF)))
      dsimp only [vL] at HI1
      skip
      go_simp
      (with_reducible refine HI1.out.mono ?_)
      rintro e w8 ⟨rfl, f8⟩
      exact hK _ _ _ rfl f8 rfl
     exact CfAll.nil
    case cfend =>
     intro xs W hF hA
     have HF := Lib.hid hF
     have hE := ckEnd rfl hA
     clear hA hF
     simp only [List.map_cons, List.map_nil, ckEqs, ckLook, Nat.reduceBEq] at hE
     simp only [fillA, fillL, sA, sB, sC, hE]
     clear hE
     have F6 := Lib.hid (UG.trans HF)
     have T6 : Hid (W.heap[g]? = some (.cells (cM m1) 74 (0, 0))) := F6.keep _ _ T5 trivial
     have y5 := (mcells T6).2.2.2.2.2.1
     have zg5 := frozen_mk (i := 5) T6
     obtain ⟨W7, hW7⟩ : ∃ Y, W.setCell ⟨g, 5, none⟩ (.int .u64 (hi : Nat)) = Y := ⟨_, rfl⟩
     have f7 : Fr (fun c _ => c ≠ g) W W7 := hW7 ▸ (Fr.refl _ _).setCell (fun _ _ h => h rfl) _
     obtain ⟨m2, hm2⟩ : ∃ m : MV, (⟨6, me, s, tm2, ix, hi, 0, false, none, 0, [], none, 0, []⟩ : MV) = m := ⟨_, rfl⟩
     have T7 : Hid (W7.heap[g]? = some (.cells (cM m2) 74 (0, 0))) := by
      rw [← hW7, ← hm2]
      have := heap_setCell_same (o := 5) T6.out (.int .u64 (hi : Nat))
      rw [← HM1.out] at this
      exact this
     have H7 := Lib.hid ((H5.out.tt F6.out).msg f7 ⟨_, _, T6.out⟩ (by have := lt_of_some H.out.top; have := HGW.out; have := HG0.out; omega))
     have FP7 : Hid (Fr (fun c _ => ¬ P c) w W7) := (((FP5.out.trans (F6.out.tT)).mono fun c _ h => h.1 : Fr (fun c _ => ¬ P c ∧ c < w.heap.size) w W).trans (f7.mono fun c _ h e => by have := h.2; have := HGS.out; omega)).within
     have HM2 := Lib.hid hm2
     have F7S : Hid (w.heap.size ≤ W7.heap.size) := FP7.size
     clear f7 hm2 HIC CD
     refine wpAny_next 7 (by kernel_rfl) rfl fun K' hK => ?_
     skip
     go_simp
     refine hK _ _ ?_
     clear hK K'
     refine wpAny_next 8 (by kernel_rfl) rfl fun K' hK => ?_
     skip
     go_simp
     refine hK _ _ ?_
     clear hK K'
     refine wpAny_fin (by kernel_rfl) ?_
     try rw [hW7]
     clear hW7 y5 zg5
     obtain ⟨u0, u1, u2, u3, u4, u5, u6, u7, u8, u9⟩ := mcells T7
     rw [← HM2.out] at u0 u1 u2 u3 u4 u5 u6 u7 u8 u9
     go_wp2
     go_ret
     rw [E.out]
     refine ⟨X, P, q.noYes, _, [⟨6, me, s, tm2, ix, hi, 0, false, none, 0, [], none, 0, []⟩], rfl, H7.tt ((Fr.refl _ W7).alloc _), (Aft.of FP7 H.px).tr ((Fr.refl _ W7).alloc _), (OwnMs.one ⟨6, me, s, tm2, ix, hi, 0, false, none, 0, [], none, 0, []⟩ H7.hx ⟨BytesAt.nil _ _, EsAt.nil _ _⟩).lo F7S, rfl⟩
   ·have E := Lib.hid (ET gc)
    have gc' : (cd == 60) = false := by simpa using gc
    obtain ⟨we, we0, we1⟩ := WE
    have HZ5 : Hid (EsAt X W5 (.slice a k c) zs) := HZ.out.1.fr F5.out (fun c o ho hr e => hr.ne (e ▸ H4.out.new HZ.out.2.2.2) (by rw [e, T9.out] at ho; exact (Option.some.inj ho).symm) (by decide))
    have x8 := (H5.cells (Fr.refl _ W5)).2.2.2.2.2.2.2.2.1
    have x9 := (H5.cells (Fr.refl _ W5)).2.2.2.2.2.2.2.2.2.1
    have x10 := (H5.cells (Fr.refl _ W5)).2.2.2.2.2.2.2.2.2.2.1
    have z8 := H5.free (Fr.refl _ W5) 8
    have z9 := H5.free (Fr.refl _ W5) 9
    have z10 := H5.free (Fr.refl _ W5) 10
    have h6 : PNs X P (sets W5 b [(8, .int .u64 (bs : Nat)), (9, .int .u64 (bt : Nat)), (10, .slice a k c)]) b { n2 with log := LA } { q.noYes with ve := .slice a k c, es := zs } := by
     refine H5.reE (sets_fr b _ W5) ?_ ⟨rfl, rfl⟩ (.inl ⟨rfl, rfl⟩) ⟨HZ.2.1.symm, HZ5⟩ ⟨rfl, rfl, rfl, rfl⟩
     rw [← HLB.out.1, ← HLB.out.2]
     exact sets_heap _ H5.top
    obtain ⟨n3, hn3⟩ : ∃ x : Nd, { n2 with log := LA } = x := ⟨_, rfl⟩
    obtain ⟨q3, hq3⟩ : ∃ x : NV, { q.noYes with ve := .slice a k c, es := zs } = x := ⟨_, rfl⟩
    rw [hn3, hq3] at h6
    have n3c : Hid (n3.commit = cm ∧ n3.me = me) := by rw [← hn3]; exact ⟨HN2P.out.2.2.trans HVE.out.2.2.2, HN2P.out.2.1.trans HL.out.1⟩
    replace E : Hid (n.onAppend m.ms = ({ n3 with commit := mx }, [{ zMs with kind := 6, src := me, dst := s, index := en, tm := tm2, ok := true }])) := by show _ = _; rw [E.out, ← hn3]
    obtain ⟨W6, hW6⟩ : ∃ Y, sets W5 b [(8, .int .u64 (bs : Nat)), (9, .int .u64 (bt : Nat)), (10, .slice a k c)] = Y := ⟨_, rfl⟩
    have hW6' : ((W5.setCell ⟨b, 8, none⟩ (.int .u64 (bs : Nat))).setCell ⟨b, 9, none⟩ (.int .u64 (bt : Nat))).setCell ⟨b, 10, none⟩ (.slice a k c) = W6 := hW6
    have f6 : Fr (fun c _ => c ≠ b) W5 W6 := hW6 ▸ sets_fr b _ W5
    rw [hW6] at h6
    have t6 : W6.heap[g]? = some (.cells (cM m1) 74 (0, 0)) := f6.keep _ _ T5 hgb
    have MX6 : W6.heap[g0]? = some (.cells (cM m) 74 (0, 0)) := f6.keep _ _ MX5 gb
    have y7 := (mcells t6).2.2.2.2.2.2.2.1
    have zg7 := frozen_mk (i := 7) t6
    obtain ⟨W7, hW7⟩ : ∃ Y, W6.setCell ⟨g, 7, none⟩ (.bool true) = Y := ⟨_, rfl⟩
    have f7 : Fr (fun c _ => c ≠ g) W6 W7 := hW7 ▸ (Fr.refl _ _).setCell (fun _ _ h => h rfl) _
    obtain ⟨m2, hm2⟩ : ∃ m : MV, (⟨6, me, s, tm2, ix, 0, 0, true, none, 0, [], none, 0, []⟩ : MV) = m := ⟨_, rfl⟩
    have t7 : W7.heap[g]? = some (.cells (cM m2) 74 (0, 0)) := by
     rw [← hW7, ← hm2]
     have := heap_setCell_same (o := 7) t6 (.bool true)
     rw [← HM1.out] at this
     exact this
    have g0g : g0 ≠ g := fun e => by have := HGW.out; omega
    have MX7 : W7.heap[g0]? = some (.cells (cM m) 74 (0, 0)) := f7.keep _ _ MX6 g0g
    have y4 : W7.cell? ⟨g, 4, none⟩ = some (.int .u64 (ix : Nat)) := by rw [(mcells t7).2.2.2.2.1, ← hm2]
    have zg4 := frozen_mk (i := 4) t7
    have v9 := (VH W7 MX7).2.2.2.2.2
    obtain ⟨W8, hW8⟩ : ∃ Y, W7.setCell ⟨g, 4, none⟩ (.int .u64 (en : Nat)) = Y := ⟨_, rfl⟩
    have f8 : Fr (fun c _ => c ≠ g) W7 W8 := hW8 ▸ (Fr.refl _ _).setCell (fun _ _ h => h rfl) _
    obtain ⟨m3, hm3⟩ : ∃ m : MV, (⟨6, me, s, tm2, en, 0, 0, true, none, 0, [], none, 0, []⟩ : MV) = m := ⟨_, rfl⟩
    have T8 : Hid (W8.heap[g]? = some (.cells (cM m3) 74 (0, 0))) := by
     rw [← hW8, ← hm3]
     have := heap_setCell_same (o := 4) t7 (.int .u64 (en : Nat))
     rw [← hm2] at this
     exact this
    have MX8 : Hid (W8.heap[g0]? = some (.cells (cM m) 74 (0, 0))) := f8.keep _ _ MX7 g0g
    have H8 := Lib.hid (h6.msg (f7.trans f8) ⟨_, _, t6⟩ (by have := lt_of_some H.out.top; have := HGW.out; have := HG0.out; omega))
    have FP6 : Fr (fun c _ => ¬ P c) w W6 := FP5.out.trans (f6.mono fun c _ hc e => hc (e ▸ H.out.pb))
    have FP8 : Hid (Fr (fun c _ => ¬ P c) w W8) := ((FP6.mono fun c _ h => h.1 : Fr (fun c _ => ¬ P c ∧ c < w.heap.size) w W6).trans ((f7.trans f8).mono fun c _ h e => by have := h.2; have := HGS.out; omega)).within
    have HM3 := Lib.hid hm3
    have UH : Hid (FT W8 W8.drew) := (Fr.refl _ _).drew
    clear h6 hn3 hq3 hW6 f6 MX6 f7 g0g MX7 f8 FP6 hm2 hm3 t6 t7
    go_wp2_with fail
    try rw [hW6']
    try rw [hW7]
    try rw [hW8]
    clear l0 l1 l2 x8 x9 x10 z8 z9 z10 hW6' y7 zg7 hW7 y4 zg4 v9 hW8 we we0 we1 gc gc' hb9 hg9 h09
    refine wp_region_cf (K := fun _ _ => True) (by kernel_rfl) [(88, 0), (89, 1), (90, 2), (91, 3), (92, 4), (93, 5), (94, 6), (95, 7), (96, 8), (97, 9), (98, 10), (99, 11), (100, 12)] [(0, []), (1, []), (2, [1]), (3, [2]), (4, [3]), (5, []), (6, [5]), (7, []), (8, [7]), (9, [6, 8]), (10, [4, 9])] (ckR [(0, .pointer (some ⟨b, 0, none⟩)), (1, .pointer (some ⟨b, 0, none⟩)), (2, .pointer (some ⟨b, 0, none⟩)), (3, .pointer (some ⟨b, 7, none⟩)), (4, .int .u64 (cm : Nat)), (5, .pointer (some ⟨g0, 6, none⟩)), (6, .int .u64 (mc : Nat)), (7, .pointer (some ⟨g, 4, none⟩)), (8, .int .u64 (en : Nat)), (9, .int .u64 (mn : Nat)), (10, .int .u64 (mx : Nat))] [] 11 0) 3 (by kernel_rfl) (by kernel_rfl) (by kernel_rfl) rfl ?cfall ?cfend
    case cfall =>
     iterate 9
      refine CfAll.kk rfl rfl rfl (fun xs W hF hE K' hK => ?_) ?_
      ·have HF := Lib.hid hF
       clear hF
       simp only [ckEqs, ckLook, Nat.reduceBEq] at hE
       simp only [fillA, fillL, sA, sB, sC, Act.put, hE] at hK ⊢
       clear hE
       have y7 : W.cell? ⟨b, 7, none⟩ = some (.int .u64 (cm : Nat)) := by rw [← n3c.out.1]; exact (H8.out.cells (UH.out.trans HF.out)).2.2.2.2.2.2.2.1
       have v6 := (VH W ((UH.trans HF).keep _ _ MX8 trivial)).2.2.2.2.1
       have y4 : W.cell? ⟨g, 4, none⟩ = some (.int .u64 (en : Nat)) := by rw [(mcells ((UH.out.trans HF.out).keep _ _ T8.out trivial)).2.2.2.2.1, ← HM3.out]
       skip
       go_simp
       exact hK _ rfl
     refine CfAll.k rfl rfl (fun xs W hF hA hE K' hK => ?_) ?_
     ·have HF := Lib.hid hF
      clear hA hF
      simp only [ckEqs, ckLook, Nat.reduceBEq] at hE
      simp only [fillA, fillL, sA, sB, sC, Act.put, hE] at hK ⊢
      clear hE
      skip
      go_simp
      exact hK.out _ _ _ rfl (Fr.refl _ _) (congrArg (Value.int .u64) (show (min (mc : Int) (en : Int)) = ((mn : Nat) : Int) from by have := HMX.out.1; omega))
     refine CfAll.k rfl rfl (fun xs W hF hA hE K' hK => ?_) ?_
     ·have HF := Lib.hid hF
      clear hA hF
      simp only [ckEqs, ckLook, Nat.reduceBEq] at hE
      simp only [fillA, fillL, sA, sB, sC, Act.put, hE] at hK ⊢
      clear hE
      skip
      go_simp
      exact hK.out _ _ _ rfl (Fr.refl _ _) (congrArg (Value.int .u64) (show (max (cm : Int) (mn : Int)) = ((mx : Nat) : Int) from by have := HMX.out.2; omega))
     exact CfAll.nil
    case cfend =>
     intro xs W hF hA
     have HF := Lib.hid hF
     have hE := ckEnd rfl hA
     clear hA hF
     simp only [List.map_cons, List.map_nil, ckEqs, ckLook, Nat.reduceBEq] at hE
     simp only [fillA, fillL, sA, sB, sC, hE]
     clear hE
     have F9 := Lib.hid (UH.trans HF)
     have H9 := Lib.hid (H8.tt F9)
     have x7 := (H9.cells (Fr.refl _ W)).2.2.2.2.2.2.2.1
     have z7 := H9.free (Fr.refl _ W) 7
     obtain ⟨W10, hW10⟩ : ∃ Y, W.setCell ⟨b, 7, none⟩ (.int .u64 (mx : Nat)) = Y := ⟨_, rfl⟩
     have hW10s : sets W b [(7, .int .u64 (mx : Nat))] = W10 := hW10
     have f10 : Fr (fun c _ => c ≠ b) W W10 := hW10s ▸ sets_fr b _ W
     have h10 : PNs X P W10 b { n3 with commit := mx } q3 := H9.out.re f10 (hW10s ▸ sets_heap _ H9.out.top) ⟨rfl, rfl⟩ (.inl ⟨rfl, rfl⟩) ⟨rfl, rfl, rfl⟩ ⟨rfl, rfl, rfl, rfl⟩
     have H10 := Lib.hid h10
     have T10 : Hid (W10.heap[g]? = some (.cells (cM m3) 74 (0, 0))) := f10.keep _ _ (F9.keep _ _ T8 trivial) hgb
     have FP10 : Hid (Fr (fun c _ => ¬ P c) w W10) := (FP8.out.trans (F9.out.tT)).trans (f10.mono fun c _ hc e => hc (e ▸ H.out.pb))
     have F10S : Hid (w.heap.size ≤ W10.heap.size) := FP10.size
     clear h10 f10 hW10s
     refine wpAny_next 11 (by kernel_rfl) rfl fun K' hK => ?_
     skip
     go_simp
     refine hK _ _ ?_
     clear hK K'
     refine wpAny_next 12 (by kernel_rfl) rfl fun K' hK => ?_
     skip
     go_simp
     refine hK _ _ ?_
     clear hK K'
     refine wpAny_next 13 (by kernel_rfl) rfl fun K' hK => ?_
     skip
     go_simp
     refine hK _ _ ?_
     clear hK K'
     refine wpAny_fin (by kernel_rfl) ?_
     try rw [hW10]
     clear hW10 x7 z7
     obtain ⟨u0, u1, u2, u3, u4, u5, u6, u7, u8, u9⟩ := mcells T10
     rw [← HM3.out] at u0 u1 u2 u3 u4 u5 u6 u7 u8 u9
     go_wp2
     go_ret
     rw [E.out]
     refine ⟨X, P, q3, _, [⟨6, me, s, tm2, en, 0, 0, true, none, 0, [], none, 0, []⟩], rfl, H10.tt ((Fr.refl _ W10).alloc _), (Aft.of FP10 H.px).tr ((Fr.refl _ W10).alloc _), (OwnMs.one ⟨6, me, s, tm2, en, 0, 0, true, none, 0, [], none, 0, []⟩ H10.hx ⟨BytesAt.nil _ _, EsAt.nil _ _⟩).lo F10S, rfl⟩
theorem onAppend_calls [Old] (h : PNs X P w b n q) (m : MV) (hm : MsAt X w m) (hix : m.index + m.es.length + 1 < 18446744073709551616) (hes : m.es.length ≤ 900000) (hl : n.log.last + 1 < 18446744073709551616) (hle : n.log.es.length ≤ 900000) :
  Calls Try.prog 20 #[.pointer (some ⟨b, 0, none⟩), .agg (cM m)] w fun e w' => NOut X P w b (n.onAppend m.ms) e w' := by
 by_cases hk5 : m.kind = 5
 ·by_cases hlt : m.tm < n.tm
  ·exact onAppendP_calls h m hm hk5 hlt hix hes hl hle
  ·exact onAppendT_calls h m hm hk5 hlt hix hes hl hle
 ·exact onAppend0_calls h m hm hk5 hix hes hl hle
end
end Go.Proofs.Ytmjccpfchhnfhaa
