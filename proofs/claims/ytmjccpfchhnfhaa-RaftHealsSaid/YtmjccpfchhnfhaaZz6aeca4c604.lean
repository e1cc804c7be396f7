/- Texts of the proofs, part 32: what the functions that they reach do, walked; no conditions beyond those that each states. -/
import Derived.Test.YtmjccpfchhnfhaaZz3eb50319a2
import Derived.Test.YtmjccpfchhnfhaaZz9e9d07558d
set_option linter.unusedVariables false
set_option linter.unusedSimpArgs false
/- follow: OnAcked (printed by fl6.py). -/
namespace Go.Proofs.Ytmjccpfchhnfhaa
open Go.RowKit
set_option linter.unusedVariables false
set_option linter.unusedSimpArgs false
section
variable {X P : Nat → Prop} {w w' : World} {b : Nat} {n n' : Nd} {q q' : NV}
set_option maxRecDepth 100000 in
set_option maxHeartbeats 8000000 in
theorem onAckedU_calls [Old] (h : PNs X P w b n q) (m : MV) (hk6 : m.kind = 6) (hlt : n.tm < m.tm) (hcf : 0 < n.conf.length ∧ n.conf.length ≤ 12) (hpos : ∀ x ∈ n.conf, 0 ≤ x) (hnx : ∀ y ∈ n.next, y + 1 < 18446744073709551616) (hmx : ∀ y ∈ n.mat, y + 1 < 18446744073709551616) (hix : m.index + 1 < 18446744073709551616) (hpv1 : m.prev + 1 < 18446744073709551616) (hl : n.log.last + 1 < 18446744073709551616) (hle : n.log.es.length ≤ 900000) :
  Calls Try.prog 48 #[.pointer (some ⟨b, 0, none⟩), .agg (cM m)] w fun e w' => NOut X P w b (n.onAcked m.ms) e w' := by
 obtain ⟨W1, hW1, F1, X1⟩ := mbox w m
 obtain ⟨g0, hg0⟩ : ∃ x, w.heap.size = x := ⟨_, rfl⟩
 rw [hg0] at X1
 have H := Lib.hid h
 have HG0 := Lib.hid hg0
 have gb : Hid (g0 ≠ b) := by have := lt_of_some h.top; show _ ≠ _; omega
 obtain ⟨me, hme⟩ : ∃ x, n.me = x := ⟨_, rfl⟩
 obtain ⟨ro, hro⟩ : ∃ x, n.role = x := ⟨_, rfl⟩
 obtain ⟨tm, htm⟩ : ∃ x, n.tm = x := ⟨_, rfl⟩
 obtain ⟨s, hs⟩ : ∃ x, m.src = x := ⟨_, rfl⟩
 obtain ⟨mt, hmt⟩ : ∃ x, m.tm = x := ⟨_, rfl⟩
 obtain ⟨ix, hixx⟩ : ∃ x, m.index = x := ⟨_, rfl⟩
 obtain ⟨pv, hpv⟩ : ∃ x, m.prev = x := ⟨_, rfl⟩
 obtain ⟨ok, hok⟩ : ∃ x, m.ok = x := ⟨_, rfl⟩
 have HL := Lib.hid (And.intro hme (And.intro hro (And.intro htm (And.intro hs (And.intro hmt (And.intro hixx (And.intro hpv hok)))))))
 have VH : Hid (∀ W : World, W.heap[g0]? = some (.cells (cM m) 74 (0, 0)) → W.cell? ⟨g0, 1, none⟩ = some (.int .i64 s) ∧ W.cell? ⟨g0, 3, none⟩ = some (.int .u64 (mt : Nat)) ∧ W.cell? ⟨g0, 4, none⟩ = some (.int .u64 (ix : Nat)) ∧ W.cell? ⟨g0, 5, none⟩ = some (.int .u64 (pv : Nat)) ∧ W.cell? ⟨g0, 7, none⟩ = some (.bool ok)) := fun W t => by
  obtain ⟨v0, v1, v2, v3, v4, v5, v6, v7, v8, v9⟩ := mcells t
  exact ⟨by rw [v1, hs], by rw [v3, hmt], by rw [v4, hixx], by rw [v5, hpv], by rw [v7, hok]⟩
 have v0 : W1.cell? ⟨g0, 0, none⟩ = some (.int .i64 6) := by rw [← hk6]; exact (mcells X1.out).1
 have y6 : W1.cell? ⟨b, 6, none⟩ = some (.int .u64 (tm : Nat)) := by rw [← htm]; exact (h.cells F1.out).2.2.2.2.2.2.1
 have v3 := (VH W1 X1).2.1
 have gl : decide (tm < mt) = true := by rw [← hmt, ← htm]; exact decide_eq_true hlt
 have E : Hid (n.onAcked m.ms = (n.follow mt (-1), [])) := by
  show _ = _
  unfold Nd.onAcked
  rw [if_neg (fun e => e hk6), if_pos (show n.tm < m.ms.tm from hlt), ← hmt]
  rfl
 unfold cM at hW1 ⊢
 clear hk6 hlt h hme hro htm hs hmt hixx hpv hok hcf hpos hnx hmx hix hpv1 hl hle
 go_enter Try.func48, Try.ntmps48
 go_wp2_with fail
 try rw [hW1]
 try rw [HG0.out]
 clear hW1 hg0 v0
 go_quiet (fail)
 clear y6 v3 gl
 have UQ : Hid (FT W1 (W1.drewN nq)) := (Fr.refl _ W1).drewN nq
 generalize W1.drewN nq = W2 at UQ ⊢
 have F2 := Lib.hid (F1.trans UQ)
 have H2 := Lib.hid (H.tt F2)
 have T2 : Hid (W2.heap[g0]? = some (.cells (cM m) 74 (0, 0))) := UQ.keep _ _ X1 trivial
 have FO := Lib.hid (follow_calls H2 mt (-1))
 have v3 := (VH W2 T2).2.1
 go_wp2_with fail
 (with_reducible refine FO.out.mono ?_)
 rintro e Wf ⟨rfl, hf, ff⟩
 have HF := Lib.hid hf
 have FF : Hid (Fr (fun c _ => c ≠ b) W2 Wf) := ff
 clear v3 FO hf ff
 go_wp2
 go_ret
 rw [E.out]
 exact ⟨X, P, q.noYes, _, [], rfl, HF.out, .of ((F2.out.tT).trans (FF.out.mono fun c _ hc e => hc (e ▸ H.out.pb))) H.out.px, OwnMs.nil _ _ _, rfl⟩
set_option maxRecDepth 100000 in
set_option maxHeartbeats 8000000 in
theorem onAckedP_calls [Old] (h : PNs X P w b n q) (m : MV) (hk6 : m.kind = 6) (hnlt : ¬ n.tm < m.tm) (hlt : m.tm < n.tm) (hcf : 0 < n.conf.length ∧ n.conf.length ≤ 12) (hpos : ∀ x ∈ n.conf, 0 ≤ x) (hnx : ∀ y ∈ n.next, y + 1 < 18446744073709551616) (hmx : ∀ y ∈ n.mat, y + 1 < 18446744073709551616) (hix : m.index + 1 < 18446744073709551616) (hpv1 : m.prev + 1 < 18446744073709551616) (hl : n.log.last + 1 < 18446744073709551616) (hle : n.log.es.length ≤ 900000) :
  Calls Try.prog 48 #[.pointer (some ⟨b, 0, none⟩), .agg (cM m)] w fun e w' => NOut X P w b (n.onAcked m.ms) e w' := by
 obtain ⟨W1, hW1, F1, X1⟩ := mbox w m
 obtain ⟨g0, hg0⟩ : ∃ x, w.heap.size = x := ⟨_, rfl⟩
 rw [hg0] at X1
 have H := Lib.hid h
 have HG0 := Lib.hid hg0
 have gb : Hid (g0 ≠ b) := by have := lt_of_some h.top; show _ ≠ _; omega
 obtain ⟨me, hme⟩ : ∃ x, n.me = x := ⟨_, rfl⟩
 obtain ⟨ro, hro⟩ : ∃ x, n.role = x := ⟨_, rfl⟩
 obtain ⟨tm, htm⟩ : ∃ x, n.tm = x := ⟨_, rfl⟩
 obtain ⟨s, hs⟩ : ∃ x, m.src = x := ⟨_, rfl⟩
 obtain ⟨mt, hmt⟩ : ∃ x, m.tm = x := ⟨_, rfl⟩
 obtain ⟨ix, hixx⟩ : ∃ x, m.index = x := ⟨_, rfl⟩
 obtain ⟨pv, hpv⟩ : ∃ x, m.prev = x := ⟨_, rfl⟩
 obtain ⟨ok, hok⟩ : ∃ x, m.ok = x := ⟨_, rfl⟩
 have HL := Lib.hid (And.intro hme (And.intro hro (And.intro htm (And.intro hs (And.intro hmt (And.intro hixx (And.intro hpv hok)))))))
 have VH : Hid (∀ W : World, W.heap[g0]? = some (.cells (cM m) 74 (0, 0)) → W.cell? ⟨g0, 1, none⟩ = some (.int .i64 s) ∧ W.cell? ⟨g0, 3, none⟩ = some (.int .u64 (mt : Nat)) ∧ W.cell? ⟨g0, 4, none⟩ = some (.int .u64 (ix : Nat)) ∧ W.cell? ⟨g0, 5, none⟩ = some (.int .u64 (pv : Nat)) ∧ W.cell? ⟨g0, 7, none⟩ = some (.bool ok)) := fun W t => by
  obtain ⟨v0, v1, v2, v3, v4, v5, v6, v7, v8, v9⟩ := mcells t
  exact ⟨by rw [v1, hs], by rw [v3, hmt], by rw [v4, hixx], by rw [v5, hpv], by rw [v7, hok]⟩
 have v0 : W1.cell? ⟨g0, 0, none⟩ = some (.int .i64 6) := by rw [← hk6]; exact (mcells X1.out).1
 have y6 : W1.cell? ⟨b, 6, none⟩ = some (.int .u64 (tm : Nat)) := by rw [← htm]; exact (h.cells F1.out).2.2.2.2.2.2.1
 have v3 := (VH W1 X1).2.1
 have gl : decide (tm < mt) = false := by rw [← hmt, ← htm]; exact decide_eq_false hnlt
 have g1 : decide (mt < tm) = true := by rw [← hmt, ← htm]; exact decide_eq_true hlt
 have E : Hid (n.onAcked m.ms = (n, [])) := by
  show _ = _
  unfold Nd.onAcked
  rw [if_neg (fun e => e hk6), if_neg (show ¬ n.tm < m.ms.tm from hnlt), if_pos (show m.ms.tm < n.tm ∨ n.role ≠ 3 ∨ m.ms.src = n.me ∨ m.ms.src < 0 ∨ 15 < m.ms.src from Or.inl hlt)]
 unfold cM at hW1 ⊢
 clear hk6 hnlt h hme hro htm hs hmt hixx hpv hok hcf hpos hnx hmx hix hpv1 hl hle hlt
 go_enter Try.func48, Try.ntmps48
 go_wp2_with fail
 try rw [hW1]
 try rw [HG0.out]
 clear hW1 hg0 v0
 go_quiet (fail)
 clear y6 v3 gl
 have UQ : Hid (FT W1 (W1.drewN nq)) := (Fr.refl _ W1).drewN nq
 generalize W1.drewN nq = W2 at UQ ⊢
 have F2 := Lib.hid (F1.trans UQ)
 have H2 := Lib.hid (H.tt F2)
 have T2 : Hid (W2.heap[g0]? = some (.cells (cM m) 74 (0, 0))) := UQ.keep _ _ X1 trivial
 have y6 : W2.cell? ⟨b, 6, none⟩ = some (.int .u64 (tm : Nat)) := by rw [← HL.out.2.2.1]; exact (H2.out.cells (Fr.refl _ W2)).2.2.2.2.2.2.1
 have y2 : W2.cell? ⟨b, 2, none⟩ = some (.int .i64 ro) := by rw [← HL.out.2.1]; exact (H2.out.cells (Fr.refl _ W2)).2.2.1
 have y0 : W2.cell? ⟨b, 0, none⟩ = some (.int .i64 me) := by rw [← HL.out.1]; exact (H2.out.cells (Fr.refl _ W2)).1
 have v3 := (VH W2 T2).2.1
 have v1 := (VH W2 T2).1
 go_wp2_with fail
 go_quiet (fail)
 clear y6 y2 y0 v3 v1 g1
 have UQ2 : Hid (FT W2 (W2.drewN nq)) := (Fr.refl _ W2).drewN nq
 generalize W2.drewN nq = W3 at UQ2 ⊢
 have F3 := Lib.hid (F2.trans UQ2)
 have H3 := Lib.hid (H2.tt UQ2)
 have T3 : Hid (W3.heap[g0]? = some (.cells (cM m) 74 (0, 0))) := UQ2.keep _ _ T2 trivial
 go_wp2
 go_ret
 rw [E.out]
 exact ⟨X, P, q, _, [], rfl, H3, .tt F3 H.px, OwnMs.nil _ _ _, rfl⟩
set_option maxRecDepth 100000 in
set_option maxHeartbeats 8000000 in
theorem onAckedR_calls [Old] (h : PNs X P w b n q) (m : MV) (hk6 : m.kind = 6) (hnlt : ¬ n.tm < m.tm) (hlt : ¬ m.tm < n.tm) (hr : n.role ≠ 3) (hcf : 0 < n.conf.length ∧ n.conf.length ≤ 12) (hpos : ∀ x ∈ n.conf, 0 ≤ x) (hnx : ∀ y ∈ n.next, y + 1 < 18446744073709551616) (hmx : ∀ y ∈ n.mat, y + 1 < 18446744073709551616) (hix : m.index + 1 < 18446744073709551616) (hpv1 : m.prev + 1 < 18446744073709551616) (hl : n.log.last + 1 < 18446744073709551616) (hle : n.log.es.length ≤ 900000) :
  Calls Try.prog 48 #[.pointer (some ⟨b, 0, none⟩), .agg (cM m)] w fun e w' => NOut X P w b (n.onAcked m.ms) e w' := by
 obtain ⟨W1, hW1, F1, X1⟩ := mbox w m
 obtain ⟨g0, hg0⟩ : ∃ x, w.heap.size = x := ⟨_, rfl⟩
 rw [hg0] at X1
 have H := Lib.hid h
 have HG0 := Lib.hid hg0
 have gb : Hid (g0 ≠ b) := by have := lt_of_some h.top; show _ ≠ _; omega
 obtain ⟨me, hme⟩ : ∃ x, n.me = x := ⟨_, rfl⟩
 obtain ⟨ro, hro⟩ : ∃ x, n.role = x := ⟨_, rfl⟩
 obtain ⟨tm, htm⟩ : ∃ x, n.tm = x := ⟨_, rfl⟩
 obtain ⟨s, hs⟩ : ∃ x, m.src = x := ⟨_, rfl⟩
 obtain ⟨mt, hmt⟩ : ∃ x, m.tm = x := ⟨_, rfl⟩
 obtain ⟨ix, hixx⟩ : ∃ x, m.index = x := ⟨_, rfl⟩
 obtain ⟨pv, hpv⟩ : ∃ x, m.prev = x := ⟨_, rfl⟩
 obtain ⟨ok, hok⟩ : ∃ x, m.ok = x := ⟨_, rfl⟩
 have HL := Lib.hid (And.intro hme (And.intro hro (And.intro htm (And.intro hs (And.intro hmt (And.intro hixx (And.intro hpv hok)))))))
 have VH : Hid (∀ W : World, W.heap[g0]? = some (.cells (cM m) 74 (0, 0)) → W.cell? ⟨g0, 1, none⟩ = some (.int .i64 s) ∧ W.cell? ⟨g0, 3, none⟩ = some (.int .u64 (mt : Nat)) ∧ W.cell? ⟨g0, 4, none⟩ = some (.int .u64 (ix : Nat)) ∧ W.cell? ⟨g0, 5, none⟩ = some (.int .u64 (pv : Nat)) ∧ W.cell? ⟨g0, 7, none⟩ = some (.bool ok)) := fun W t => by
  obtain ⟨v0, v1, v2, v3, v4, v5, v6, v7, v8, v9⟩ := mcells t
  exact ⟨by rw [v1, hs], by rw [v3, hmt], by rw [v4, hixx], by rw [v5, hpv], by rw [v7, hok]⟩
 have v0 : W1.cell? ⟨g0, 0, none⟩ = some (.int .i64 6) := by rw [← hk6]; exact (mcells X1.out).1
 have y6 : W1.cell? ⟨b, 6, none⟩ = some (.int .u64 (tm : Nat)) := by rw [← htm]; exact (h.cells F1.out).2.2.2.2.2.2.1
 have v3 := (VH W1 X1).2.1
 have gl : decide (tm < mt) = false := by rw [← hmt, ← htm]; exact decide_eq_false hnlt
 have g1 : decide (mt < tm) = false := by rw [← hmt, ← htm]; exact decide_eq_false hlt
 have g2 : (ro == 3) = false := by rw [← hro]; simpa using hr
 have g3 : (ro != 3) = true := by rw [bne, g2]; rfl
 have E : Hid (n.onAcked m.ms = (n, [])) := by
  show _ = _
  unfold Nd.onAcked
  rw [if_neg (fun e => e hk6), if_neg (show ¬ n.tm < m.ms.tm from hnlt), if_pos (show m.ms.tm < n.tm ∨ n.role ≠ 3 ∨ m.ms.src = n.me ∨ m.ms.src < 0 ∨ 15 < m.ms.src from Or.inr (Or.inl hr))]
 unfold cM at hW1 ⊢
 clear hk6 hnlt h hme hro htm hs hmt hixx hpv hok hcf hpos hnx hmx hix hpv1 hl hle hlt hr
 go_enter Try.func48, Try.ntmps48
 go_wp2_with fail
 try rw [hW1]
 try rw [HG0.out]
 clear hW1 hg0 v0
 go_quiet (fail)
 clear y6 v3 gl
 have UQ : Hid (FT W1 (W1.drewN nq)) := (Fr.refl _ W1).drewN nq
 generalize W1.drewN nq = W2 at UQ ⊢
 have F2 := Lib.hid (F1.trans UQ)
 have H2 := Lib.hid (H.tt F2)
 have T2 : Hid (W2.heap[g0]? = some (.cells (cM m) 74 (0, 0))) := UQ.keep _ _ X1 trivial
 have y6 : W2.cell? ⟨b, 6, none⟩ = some (.int .u64 (tm : Nat)) := by rw [← HL.out.2.2.1]; exact (H2.out.cells (Fr.refl _ W2)).2.2.2.2.2.2.1
 have y2 : W2.cell? ⟨b, 2, none⟩ = some (.int .i64 ro) := by rw [← HL.out.2.1]; exact (H2.out.cells (Fr.refl _ W2)).2.2.1
 have y0 : W2.cell? ⟨b, 0, none⟩ = some (.int .i64 me) := by rw [← HL.out.1]; exact (H2.out.cells (Fr.refl _ W2)).1
 have v3 := (VH W2 T2).2.1
 have v1 := (VH W2 T2).1
 go_wp2_with fail
 go_quiet (fail)
 clear y6 y2 y0 v3 v1 g1 g2 g3
 have UQ2 : Hid (FT W2 (W2.drewN nq)) := (Fr.refl _ W2).drewN nq
 generalize W2.drewN nq = W3 at UQ2 ⊢
 have F3 := Lib.hid (F2.trans UQ2)
 have H3 := Lib.hid (H2.tt UQ2)
 have T3 : Hid (W3.heap[g0]? = some (.cells (cM m) 74 (0, 0))) := UQ2.keep _ _ T2 trivial
 go_wp2
 go_ret
 rw [E.out]
 exact ⟨X, P, q, _, [], rfl, H3, .tt F3 H.px, OwnMs.nil _ _ _, rfl⟩
set_option maxRecDepth 100000 in
set_option maxHeartbeats 8000000 in
theorem onAckedM_calls [Old] (h : PNs X P w b n q) (m : MV) (hk6 : m.kind = 6) (hnlt : ¬ n.tm < m.tm) (hlt : ¬ m.tm < n.tm) (hr : n.role = 3) (hx : m.src = n.me) (hcf : 0 < n.conf.length ∧ n.conf.length ≤ 12) (hpos : ∀ x ∈ n.conf, 0 ≤ x) (hnx : ∀ y ∈ n.next, y + 1 < 18446744073709551616) (hmx : ∀ y ∈ n.mat, y + 1 < 18446744073709551616) (hix : m.index + 1 < 18446744073709551616) (hpv1 : m.prev + 1 < 18446744073709551616) (hl : n.log.last + 1 < 18446744073709551616) (hle : n.log.es.length ≤ 900000) :
  Calls Try.prog 48 #[.pointer (some ⟨b, 0, none⟩), .agg (cM m)] w fun e w' => NOut X P w b (n.onAcked m.ms) e w' := by
 obtain ⟨W1, hW1, F1, X1⟩ := mbox w m
 obtain ⟨g0, hg0⟩ : ∃ x, w.heap.size = x := ⟨_, rfl⟩
 rw [hg0] at X1
 have H := Lib.hid h
 have HG0 := Lib.hid hg0
 have gb : Hid (g0 ≠ b) := by have := lt_of_some h.top; show _ ≠ _; omega
 obtain ⟨me, hme⟩ : ∃ x, n.me = x := ⟨_, rfl⟩
 obtain ⟨ro, hro⟩ : ∃ x, n.role = x := ⟨_, rfl⟩
 obtain ⟨tm, htm⟩ : ∃ x, n.tm = x := ⟨_, rfl⟩
 obtain ⟨s, hs⟩ : ∃ x, m.src = x := ⟨_, rfl⟩
 obtain ⟨mt, hmt⟩ : ∃ x, m.tm = x := ⟨_, rfl⟩
 obtain ⟨ix, hixx⟩ : ∃ x, m.index = x := ⟨_, rfl⟩
 obtain ⟨pv, hpv⟩ : ∃ x, m.prev = x := ⟨_, rfl⟩
 obtain ⟨ok, hok⟩ : ∃ x, m.ok = x := ⟨_, rfl⟩
 have HL := Lib.hid (And.intro hme (And.intro hro (And.intro htm (And.intro hs (And.intro hmt (And.intro hixx (And.intro hpv hok)))))))
 have VH : Hid (∀ W : World, W.heap[g0]? = some (.cells (cM m) 74 (0, 0)) → W.cell? ⟨g0, 1, none⟩ = some (.int .i64 s) ∧ W.cell? ⟨g0, 3, none⟩ = some (.int .u64 (mt : Nat)) ∧ W.cell? ⟨g0, 4, none⟩ = some (.int .u64 (ix : Nat)) ∧ W.cell? ⟨g0, 5, none⟩ = some (.int .u64 (pv : Nat)) ∧ W.cell? ⟨g0, 7, none⟩ = some (.bool ok)) := fun W t => by
  obtain ⟨v0, v1, v2, v3, v4, v5, v6, v7, v8, v9⟩ := mcells t
  exact ⟨by rw [v1, hs], by rw [v3, hmt], by rw [v4, hixx], by rw [v5, hpv], by rw [v7, hok]⟩
 have v0 : W1.cell? ⟨g0, 0, none⟩ = some (.int .i64 6) := by rw [← hk6]; exact (mcells X1.out).1
 have y6 : W1.cell? ⟨b, 6, none⟩ = some (.int .u64 (tm : Nat)) := by rw [← htm]; exact (h.cells F1.out).2.2.2.2.2.2.1
 have v3 := (VH W1 X1).2.1
 have gl : decide (tm < mt) = false := by rw [← hmt, ← htm]; exact decide_eq_false hnlt
 have g1 : decide (mt < tm) = false := by rw [← hmt, ← htm]; exact decide_eq_false hlt
 obtain rfl : ro = 3 := by rw [← hro]; exact hr
 obtain rfl : s = me := by rw [← hs, ← hme]; exact hx
 have g2 : (s == s) = true := by simp
 have E : Hid (n.onAcked m.ms = (n, [])) := by
  show _ = _
  unfold Nd.onAcked
  rw [if_neg (fun e => e hk6), if_neg (show ¬ n.tm < m.ms.tm from hnlt), if_pos (show m.ms.tm < n.tm ∨ n.role ≠ 3 ∨ m.ms.src = n.me ∨ m.ms.src < 0 ∨ 15 < m.ms.src from Or.inr (Or.inr (Or.inl hx)))]
 unfold cM at hW1 ⊢
 clear hk6 hnlt h hme hro htm hs hmt hixx hpv hok hcf hpos hnx hmx hix hpv1 hl hle hlt hr hx
 go_enter Try.func48, Try.ntmps48
 go_wp2_with fail
 try rw [hW1]
 try rw [HG0.out]
 clear hW1 hg0 v0
 go_quiet (fail)
 clear y6 v3 gl
 have UQ : Hid (FT W1 (W1.drewN nq)) := (Fr.refl _ W1).drewN nq
 generalize W1.drewN nq = W2 at UQ ⊢
 have F2 := Lib.hid (F1.trans UQ)
 have H2 := Lib.hid (H.tt F2)
 have T2 : Hid (W2.heap[g0]? = some (.cells (cM m) 74 (0, 0))) := UQ.keep _ _ X1 trivial
 have y6 : W2.cell? ⟨b, 6, none⟩ = some (.int .u64 (tm : Nat)) := by rw [← HL.out.2.2.1]; exact (H2.out.cells (Fr.refl _ W2)).2.2.2.2.2.2.1
 have y2 : W2.cell? ⟨b, 2, none⟩ = some (.int .i64 3) := by rw [← HL.out.2.1]; exact (H2.out.cells (Fr.refl _ W2)).2.2.1
 have y0 : W2.cell? ⟨b, 0, none⟩ = some (.int .i64 s) := by rw [← HL.out.1]; exact (H2.out.cells (Fr.refl _ W2)).1
 have v3 := (VH W2 T2).2.1
 have v1 := (VH W2 T2).1
 go_wp2_with fail
 go_quiet (fail)
 clear y6 y2 y0 v3 v1 g1 g2
 have UQ2 : Hid (FT W2 (W2.drewN nq)) := (Fr.refl _ W2).drewN nq
 generalize W2.drewN nq = W3 at UQ2 ⊢
 have F3 := Lib.hid (F2.trans UQ2)
 have H3 := Lib.hid (H2.tt UQ2)
 have T3 : Hid (W3.heap[g0]? = some (.cells (cM m) 74 (0, 0))) := UQ2.keep _ _ T2 trivial
 go_wp2
 go_ret
 rw [E.out]
 exact ⟨X, P, q, _, [], rfl, H3, .tt F3 H.px, OwnMs.nil _ _ _, rfl⟩
set_option maxRecDepth 100000 in
set_option maxHeartbeats 8000000 in
theorem onAckedN_calls [Old] (h : PNs X P w b n q) (m : MV) (hk6 : m.kind = 6) (hnlt : ¬ n.tm < m.tm) (hlt : ¬ m.tm < n.tm) (hr : n.role = 3) (hx : m.src ≠ n.me) (h16 : ¬ (0 ≤ m.src ∧ m.src < 16)) (hcf : 0 < n.conf.length ∧ n.conf.length ≤ 12) (hpos : ∀ x ∈ n.conf, 0 ≤ x) (hnx : ∀ y ∈ n.next, y + 1 < 18446744073709551616) (hmx : ∀ y ∈ n.mat, y + 1 < 18446744073709551616) (hix : m.index + 1 < 18446744073709551616) (hpv1 : m.prev + 1 < 18446744073709551616) (hl : n.log.last + 1 < 18446744073709551616) (hle : n.log.es.length ≤ 900000) :
  Calls Try.prog 48 #[.pointer (some ⟨b, 0, none⟩), .agg (cM m)] w fun e w' => NOut X P w b (n.onAcked m.ms) e w' := by
 obtain ⟨W1, hW1, F1, X1⟩ := mbox w m
 obtain ⟨g0, hg0⟩ : ∃ x, w.heap.size = x := ⟨_, rfl⟩
 rw [hg0] at X1
 have H := Lib.hid h
 have HG0 := Lib.hid hg0
 have gb : Hid (g0 ≠ b) := by have := lt_of_some h.top; show _ ≠ _; omega
 obtain ⟨me, hme⟩ : ∃ x, n.me = x := ⟨_, rfl⟩
 obtain ⟨ro, hro⟩ : ∃ x, n.role = x := ⟨_, rfl⟩
 obtain ⟨tm, htm⟩ : ∃ x, n.tm = x := ⟨_, rfl⟩
 obtain ⟨s, hs⟩ : ∃ x, m.src = x := ⟨_, rfl⟩
 obtain ⟨mt, hmt⟩ : ∃ x, m.tm = x := ⟨_, rfl⟩
 obtain ⟨ix, hixx⟩ : ∃ x, m.index = x := ⟨_, rfl⟩
 obtain ⟨pv, hpv⟩ : ∃ x, m.prev = x := ⟨_, rfl⟩
 obtain ⟨ok, hok⟩ : ∃ x, m.ok = x := ⟨_, rfl⟩
 have HL := Lib.hid (And.intro hme (And.intro hro (And.intro htm (And.intro hs (And.intro hmt (And.intro hixx (And.intro hpv hok)))))))
 have VH : Hid (∀ W : World, W.heap[g0]? = some (.cells (cM m) 74 (0, 0)) → W.cell? ⟨g0, 1, none⟩ = some (.int .i64 s) ∧ W.cell? ⟨g0, 3, none⟩ = some (.int .u64 (mt : Nat)) ∧ W.cell? ⟨g0, 4, none⟩ = some (.int .u64 (ix : Nat)) ∧ W.cell? ⟨g0, 5, none⟩ = some (.int .u64 (pv : Nat)) ∧ W.cell? ⟨g0, 7, none⟩ = some (.bool ok)) := fun W t => by
  obtain ⟨v0, v1, v2, v3, v4, v5, v6, v7, v8, v9⟩ := mcells t
  exact ⟨by rw [v1, hs], by rw [v3, hmt], by rw [v4, hixx], by rw [v5, hpv], by rw [v7, hok]⟩
 have v0 : W1.cell? ⟨g0, 0, none⟩ = some (.int .i64 6) := by rw [← hk6]; exact (mcells X1.out).1
 have y6 : W1.cell? ⟨b, 6, none⟩ = some (.int .u64 (tm : Nat)) := by rw [← htm]; exact (h.cells F1.out).2.2.2.2.2.2.1
 have v3 := (VH W1 X1).2.1
 have gl : decide (tm < mt) = false := by rw [← hmt, ← htm]; exact decide_eq_false hnlt
 have g1 : decide (mt < tm) = false := by rw [← hmt, ← htm]; exact decide_eq_false hlt
 obtain rfl : ro = 3 := by rw [← hro]; exact hr
 have g2 : (s == me) = false := by rw [← hs, ← hme]; simpa using hx
 have NC := Lib.hid (fun W => fnode_calls W s)
 rw [decide_eq_false (show ¬ (0 ≤ s ∧ s < 16) by rw [← hs]; exact h16)] at NC
 have E : Hid (n.onAcked m.ms = (n, [])) := by
  show _ = _
  unfold Nd.onAcked
  rw [if_neg (fun e => e hk6), if_neg (show ¬ n.tm < m.ms.tm from hnlt), if_pos (show m.ms.tm < n.tm ∨ n.role ≠ 3 ∨ m.ms.src = n.me ∨ m.ms.src < 0 ∨ 15 < m.ms.src from Or.inr (Or.inr (Or.inr (by show m.src < 0 ∨ 15 < m.src; omega))))]
 unfold cM at hW1 ⊢
 clear hk6 hnlt h hme hro htm hs hmt hixx hpv hok hcf hpos hnx hmx hix hpv1 hl hle hlt hr hx h16
 go_enter Try.func48, Try.ntmps48
 go_wp2_with fail
 try rw [hW1]
 try rw [HG0.out]
 clear hW1 hg0 v0
 go_quiet (fail)
 clear y6 v3 gl
 have UQ : Hid (FT W1 (W1.drewN nq)) := (Fr.refl _ W1).drewN nq
 generalize W1.drewN nq = W2 at UQ ⊢
 have F2 := Lib.hid (F1.trans UQ)
 have H2 := Lib.hid (H.tt F2)
 have T2 : Hid (W2.heap[g0]? = some (.cells (cM m) 74 (0, 0))) := UQ.keep _ _ X1 trivial
 have y6 : W2.cell? ⟨b, 6, none⟩ = some (.int .u64 (tm : Nat)) := by rw [← HL.out.2.2.1]; exact (H2.out.cells (Fr.refl _ W2)).2.2.2.2.2.2.1
 have y2 : W2.cell? ⟨b, 2, none⟩ = some (.int .i64 3) := by rw [← HL.out.2.1]; exact (H2.out.cells (Fr.refl _ W2)).2.2.1
 have y0 : W2.cell? ⟨b, 0, none⟩ = some (.int .i64 me) := by rw [← HL.out.1]; exact (H2.out.cells (Fr.refl _ W2)).1
 have v3 := (VH W2 T2).2.1
 have v1 := (VH W2 T2).1
 go_wp2_with fail
 go_quiet ((go_at_call 67; exact Calls.quiet_of_same ((NC.out _).mono fun e w' h => And.intro h.1 h.2.symm)))
 clear y6 y2 y0 v3 v1 g1 g2 NC
 have UQ2 : Hid (FT W2 (W2.drewN nq)) := (Fr.refl _ W2).drewN nq
 generalize W2.drewN nq = W3 at UQ2 ⊢
 have F3 := Lib.hid (F2.trans UQ2)
 have H3 := Lib.hid (H2.tt UQ2)
 have T3 : Hid (W3.heap[g0]? = some (.cells (cM m) 74 (0, 0))) := UQ2.keep _ _ T2 trivial
 go_wp2
 go_ret
 rw [E.out]
 exact ⟨X, P, q, _, [], rfl, H3, .tt F3 H.px, OwnMs.nil _ _ _, rfl⟩
end
end Go.Proofs.Ytmjccpfchhnfhaa
/- follow: OnAcked (printed by fl6.py). -/
namespace Go.Proofs.Ytmjccpfchhnfhaa
open Go.RowKit
set_option linter.unusedVariables false
set_option linter.unusedSimpArgs false
section
variable {X P : Nat → Prop} {w w' : World} {b : Nat} {n n' : Nd} {q q' : NV}
set_option maxRecDepth 100000 in
set_option maxHeartbeats 8000000 in
theorem onAckedD_calls [Old] (h : PNs X P w b n q) (m : MV) (hk6 : m.kind = 6) (hnlt : ¬ n.tm < m.tm) (hlt : ¬ m.tm < n.tm) (hr : n.role = 3) (hx : m.src ≠ n.me) (t : Nat) (ht : t < 16) (hst : m.src = (t : Nat)) (ho : m.ok = false) (hcf : 0 < n.conf.length ∧ n.conf.length ≤ 12) (hpos : ∀ x ∈ n.conf, 0 ≤ x) (hnx : ∀ y ∈ n.next, y + 1 < 18446744073709551616) (hmx : ∀ y ∈ n.mat, y + 1 < 18446744073709551616) (hix : m.index + 1 < 18446744073709551616) (hpv1 : m.prev + 1 < 18446744073709551616) (hl : n.log.last + 1 < 18446744073709551616) (hle : n.log.es.length ≤ 900000) :
  Calls Try.prog 48 #[.pointer (some ⟨b, 0, none⟩), .agg (cM m)] w fun e w' => NOut X P w b (n.onAcked m.ms) e w' := by
 obtain ⟨W1, hW1, F1, X1⟩ := mbox w m
 obtain ⟨g0, hg0⟩ : ∃ x, w.heap.size = x := ⟨_, rfl⟩
 rw [hg0] at X1
 have H := Lib.hid h
 have HG0 := Lib.hid hg0
 have gb : Hid (g0 ≠ b) := by have := lt_of_some h.top; show _ ≠ _; omega
 obtain ⟨me, hme⟩ : ∃ x, n.me = x := ⟨_, rfl⟩
 obtain ⟨ro, hro⟩ : ∃ x, n.role = x := ⟨_, rfl⟩
 obtain ⟨tm, htm⟩ : ∃ x, n.tm = x := ⟨_, rfl⟩
 obtain ⟨s, hs⟩ : ∃ x, m.src = x := ⟨_, rfl⟩
 obtain ⟨mt, hmt⟩ : ∃ x, m.tm = x := ⟨_, rfl⟩
 obtain ⟨ix, hixx⟩ : ∃ x, m.index = x := ⟨_, rfl⟩
 obtain ⟨pv, hpv⟩ : ∃ x, m.prev = x := ⟨_, rfl⟩
 obtain ⟨ok, hok⟩ : ∃ x, m.ok = x := ⟨_, rfl⟩
 have HL := Lib.hid (And.intro hme (And.intro hro (And.intro htm (And.intro hs (And.intro hmt (And.intro hixx (And.intro hpv hok)))))))
 have VH : Hid (∀ W : World, W.heap[g0]? = some (.cells (cM m) 74 (0, 0)) → W.cell? ⟨g0, 1, none⟩ = some (.int .i64 s) ∧ W.cell? ⟨g0, 3, none⟩ = some (.int .u64 (mt : Nat)) ∧ W.cell? ⟨g0, 4, none⟩ = some (.int .u64 (ix : Nat)) ∧ W.cell? ⟨g0, 5, none⟩ = some (.int .u64 (pv : Nat)) ∧ W.cell? ⟨g0, 7, none⟩ = some (.bool ok)) := fun W t => by
  obtain ⟨v0, v1, v2, v3, v4, v5, v6, v7, v8, v9⟩ := mcells t
  exact ⟨by rw [v1, hs], by rw [v3, hmt], by rw [v4, hixx], by rw [v5, hpv], by rw [v7, hok]⟩
 have v0 : W1.cell? ⟨g0, 0, none⟩ = some (.int .i64 6) := by rw [← hk6]; exact (mcells X1.out).1
 have y6 : W1.cell? ⟨b, 6, none⟩ = some (.int .u64 (tm : Nat)) := by rw [← htm]; exact (h.cells F1.out).2.2.2.2.2.2.1
 have v3 := (VH W1 X1).2.1
 have gl : decide (tm < mt) = false := by rw [← hmt, ← htm]; exact decide_eq_false hnlt
 have g1 : decide (mt < tm) = false := by rw [← hmt, ← htm]; exact decide_eq_false hlt
 obtain rfl : ro = 3 := by rw [← hro]; exact hr
 have g2 : (s == me) = false := by rw [← hs, ← hme]; simpa using hx
 obtain rfl : s = (t : Nat) := by rw [← hs]; exact hst
 obtain rfl : ok = false := by rw [← hok]; exact ho
 have NC := Lib.hid (fun W => fnode_calls W (t : Nat))
 rw [decide_eq_true (show (0 : Int) ≤ (t : Nat) ∧ ((t : Nat) : Int) < 16 by omega)] at NC
 obtain ⟨bs, hbs⟩ : ∃ x, n.log.base = x := ⟨_, rfl⟩
 obtain ⟨bt, hbt⟩ : ∃ x, n.log.bt = x := ⟨_, rfl⟩
 obtain ⟨ae, le, ce, hve, hlel, hesl, hlg⟩ := h.lg
 have hl2 : bs + le + 1 < 18446744073709551616 := by unfold Lg.last at hl; omega
 obtain ⟨LST, hLST⟩ : ∃ x, bs + le = x := ⟨_, rfl⟩
 have hlast : n.log.last = LST := by unfold Lg.last; omega
 have LAST := Lib.hid (fun W => tlast_calls W bs bt ae le ce (by omega))
 rw [hLST] at LAST
 obtain ⟨bn, hbn⟩ : ∃ x, q.bn = x := ⟨_, rfl⟩
 obtain ⟨cn, hcn⟩ : ∃ x, q.cn = x := ⟨_, rfl⟩
 obtain ⟨bm, hbm⟩ : ∃ x, q.bm = x := ⟨_, rfl⟩
 obtain ⟨km, hkm⟩ : ∃ x, q.cm = x := ⟨_, rfl⟩
 have HQ := Lib.hid (And.intro hbn (And.intro hcn (And.intro hbm (And.intro hkm (And.intro hve (And.intro hbs hbt))))))
 obtain ⟨nt, hnt⟩ : ∃ x, n.next.getD t 0 = x := ⟨_, rfl⟩
 obtain ⟨kt, hkt⟩ : ∃ x, n.mat.getD t 0 = x := ⟨_, rfl⟩
 have hkt64 : kt + 1 < 18446744073709551616 := by
  rw [← hkt, List.getD_eq_getElem?_getD, List.getElem?_eq_getElem (by have := h.mt.1; omega)]
  exact hmx _ (List.getElem_mem _)
 have ht2 : ((t : Nat) : Int) < 16 := by omega
 have E0 : n.onAcked m.ms = if m.ok = true ∧ (n.acked m.ms).log.last < (n.acked m.ms).next.getD t 0 then (n.acked m.ms, []) else (n.acked m.ms, (n.acked m.ms).sendTo (t : Nat)) := by
  unfold Nd.onAcked
  rw [if_neg (fun e => e hk6), if_neg (show ¬ n.tm < m.ms.tm from hnlt), if_neg (show ¬ (m.ms.tm < n.tm ∨ n.role ≠ 3 ∨ m.ms.src = n.me ∨ m.ms.src < 0 ∨ 15 < m.ms.src) by
   have e : m.ms.src = (t : Nat) := hst
   rw [e]
   rintro (e | e | e | e | e)
   ·exact hlt e
   ·exact e hr
   ·exact hx (hst.trans e)
   ·omega
   ·omega)]
  have e : m.ms.src = (t : Nat) := hst
  rw [e]
  rfl
 have CC : Hid (∀ W W' nA, PNs X P W b nA q → nA.log = n.log → FT W W' → W'.cell? ⟨b, 8, none⟩ = some (.int .u64 (bs : Nat)) ∧ W'.cell? ⟨b, 9, none⟩ = some (.int .u64 (bt : Nat)) ∧ W'.cell? ⟨b, 10, none⟩ = some (.slice ae le ce) ∧ W'.cell? ⟨b, 12, none⟩ = some (.slice (some ⟨bn, 0, none⟩) 16 cn) ∧ W'.cell? ⟨b, 13, none⟩ = some (.slice (some ⟨bm, 0, none⟩) 16 km) ∧ W'.cell? ⟨bn, t, none⟩ = some (.int .u64 (nA.next.getD t 0 : Nat)) ∧ W'.cell? ⟨bm, t, none⟩ = some (.int .u64 (nA.mat.getD t 0 : Nat))) := fun W W' nA hA hlA f => by
  obtain ⟨x0, x1, x2, x3, x4, x5, x6, x7, x8, x9, x10, x11, x12, x13⟩ := hA.cells f
  exact ⟨by rw [x8, hlA, hbs], by rw [x9, hlA, hbt], by rw [x10, hve], by rw [x12, hbn, hcn], by rw [x13, hbm, hkm], by rw [← hbn]; exact (hA.nx.fr f fun _ _ => trivial).cell t ht, by rw [← hbm]; exact (hA.mt.fr f fun _ _ => trivial).cell t ht⟩
 have HT := Lib.hid ht
 have HNK := Lib.hid (And.intro hnt hkt)
 have hpv2 : pv + 1 < 18446744073709551616 := by omega
 have wp1 : IntKind.u64.wrap ((pv : Int) + 1) = ((pv + 1 : Nat) : Int) := by rw [IntKind.wrap_u64]; omega
 have wk1 : IntKind.u64.wrap ((kt : Int) + 1) = ((kt + 1 : Nat) : Int) := by rw [IntKind.wrap_u64]; omega
 obtain ⟨pv1, hpv11⟩ : ∃ x, pv + 1 = x := ⟨_, rfl⟩
 obtain ⟨kt1, hkt1⟩ : ∃ x, kt + 1 = x := ⟨_, rfl⟩
 obtain ⟨mn, hmn⟩ : ∃ x, min ix pv1 = x := ⟨_, rfl⟩
 obtain ⟨mx, hmxx⟩ : ∃ x, max kt1 mn = x := ⟨_, rfl⟩
 rw [hpv11] at wp1
 rw [hkt1] at wk1
 have HMX := Lib.hid (And.intro hmn hmxx)
 obtain ⟨nA, hnA⟩ : ∃ x : Nd, { n with next := n.next.set t mx } = x := ⟨_, rfl⟩
 have hac : n.acked m.ms = nA := by
  unfold Nd.acked
  have e : m.ms.src.toNat = t := by show m.src.toNat = t; rw [hst]; rfl
  rw [if_pos (show m.ms.ok = false from ho), e, hkt, show m.ms.index = ix from hixx, show m.ms.prev = pv from hpv, hpv11, hkt1, hmn, hmxx, hnA]
 have E : Hid (n.onAcked m.ms = (nA, nA.sendTo (t : Nat))) := by
  show _ = _
  rw [E0, if_neg (fun e => by rw [ho] at e; cases e.1), hac]
 have TO : Hid (∀ W, PNs X P W b nA q → Calls Try.prog 50 #[.pointer (some ⟨b, 0, none⟩), .int .i64 (t : Nat)] W fun e w' => MOut X W (nA.sendTo (t : Nat)) e w') := fun W hA => to_calls hA (t : Nat) (fun y hy => by
   rw [← hnA] at hy
   rcases List.mem_or_eq_of_mem_set hy with hy | hy
   ·have := hnx y hy; omega
   ·omega) (by rw [← hnA]; exact hl) (by rw [← hnA]; exact hle)
 have HNA := Lib.hid hnA
 unfold cM at hW1 ⊢
 clear hk6 hnlt hlt hr hx hst ho hnt hkt hbs hbt hve hlel hesl hlg hl2 hLST hlast hbn hcn hbm hkm hkt64 E0 hpv2 hpv11 hkt1 hmn hmxx hnA hac ht h hme hro htm hs hmt hixx hpv hok hcf hpos hnx hmx hix hpv1 hl hle
 go_enter Try.func48, Try.ntmps48
 go_wp2_with fail
 try rw [hW1]
 try rw [HG0.out]
 clear hW1 hg0 v0
 go_quiet (fail)
 clear y6 v3 gl
 have UQ : Hid (FT W1 (W1.drewN nq)) := (Fr.refl _ W1).drewN nq
 generalize W1.drewN nq = W2 at UQ ⊢
 have F2 := Lib.hid (F1.trans UQ)
 have H2 := Lib.hid (H.tt F2)
 have T2 : Hid (W2.heap[g0]? = some (.cells (cM m) 74 (0, 0))) := UQ.keep _ _ X1 trivial
 have y6 : W2.cell? ⟨b, 6, none⟩ = some (.int .u64 (tm : Nat)) := by rw [← HL.out.2.2.1]; exact (H2.out.cells (Fr.refl _ W2)).2.2.2.2.2.2.1
 have y2 : W2.cell? ⟨b, 2, none⟩ = some (.int .i64 3) := by rw [← HL.out.2.1]; exact (H2.out.cells (Fr.refl _ W2)).2.2.1
 have y0 : W2.cell? ⟨b, 0, none⟩ = some (.int .i64 me) := by rw [← HL.out.1]; exact (H2.out.cells (Fr.refl _ W2)).1
 have v3 := (VH W2 T2).2.1
 have v1 := (VH W2 T2).1
 go_wp2_with fail
 go_quiet ((go_at_call 67; exact Calls.quiet_of_same ((NC.out _).mono fun e w' h => And.intro h.1 h.2.symm)))
 clear y6 y2 y0 v3 v1 g1 g2 NC
 have UQ2 : Hid (FT W2 (W2.drewN nq)) := (Fr.refl _ W2).drewN nq
 generalize W2.drewN nq = W3 at UQ2 ⊢
 have F3 := Lib.hid (F2.trans UQ2)
 have H3 := Lib.hid (H2.tt UQ2)
 have T3 : Hid (W3.heap[g0]? = some (.cells (cM m) 74 (0, 0))) := UQ2.keep _ _ T2 trivial
 have UD : Hid (FT W3 W3.drew) := (Fr.refl _ _).drew
 have v1 := (VH W3 T3).1
 have v7 := (VH W3 T3).2.2.2.2
 go_wp2_with fail
 clear v1 v7
 refine wp_region_cf (K := fun _ _ => True) (by kernel_rfl) [(58, 0), (59, 1), (60, 2), (61, 3), (62, 4), (63, 5), (64, 6), (65, 7), (66, 8), (67, 9), (68, 10), (69, 11), (70, 12), (71, 13), (72, 14), (73, 15), (74, 16), (75, 17), (76, 18), (77, 19), (78, 20)] [(0, []), (1, [0]), (2, [1]), (3, [2]), (4, []), (5, []), (6, [5]), (7, [6]), (8, [7]), (9, []), (10, [8, 9]), (11, [10]), (12, [11]), (13, []), (14, [13]), (15, []), (16, [15]), (17, [16]), (18, [14, 17]), (19, [12, 18])] (ckR [(0, .pointer (some ⟨b, 0, none⟩)), (1, .pointer (some ⟨b, 0, none⟩)), (2, .pointer (some ⟨b, 12, none⟩)), (3, .slice (some ⟨bn, 0, none⟩) 16 cn), (4, .int .i64 (t : Nat)), (5, .pointer (some ⟨b, 0, none⟩)), (6, .pointer (some ⟨b, 0, none⟩)), (7, .pointer (some ⟨b, 13, none⟩)), (8, .slice (some ⟨bm, 0, none⟩) 16 km), (9, .int .i64 (t : Nat)), (10, .pointer (some ⟨bm, t, none⟩)), (11, .int .u64 (kt : Nat)), (12, .int .u64 (kt1 : Nat)), (13, .pointer (some ⟨g0, 4, none⟩)), (14, .int .u64 (ix : Nat)), (15, .pointer (some ⟨g0, 5, none⟩)), (16, .int .u64 (pv : Nat)), (17, .int .u64 (pv1 : Nat)), (18, .int .u64 (mn : Nat)), (19, .int .u64 (mx : Nat))] [] 20 0) 2 (by kernel_rfl) (by kernel_rfl) (by kernel_rfl) rfl ?cfall ?cfend
 case cfall =>
  iterate 18
   refine CfAll.kk rfl rfl rfl (fun xs W hF hE K' hK => ?_) ?_
   ·have HF := Lib.hid hF
    clear hF
    simp only [ckEqs, ckLook, Nat.reduceBEq] at hE
    simp only [fillA, fillL, sA, sB, sC, Act.put, hE] at hK ⊢
    clear hE
    obtain ⟨y8, y9, y10, y12, y13, yn, ym⟩ := CC W3 W n H3 rfl (UD.trans HF)
    rw [HNK.out.2] at ym
    have V := VH W ((UD.trans HF).keep _ _ T3 trivial)
    have v4 := V.2.2.1
    have v5 := V.2.2.2.1
    clear V
    skip
    go_simp
    exact hK _ rfl
  refine CfAll.k rfl rfl (fun xs W hF hA hE K' hK => ?_) ?_
  ·have HF := Lib.hid hF
   clear hA hF
   simp only [ckEqs, ckLook, Nat.reduceBEq] at hE
   simp only [fillA, fillL, sA, sB, sC, Act.put, hE] at hK ⊢
   clear hE
   obtain ⟨y8, y9, y10, y12, y13, yn, ym⟩ := CC W3 W n H3 rfl (UD.trans HF)
   rw [HNK.out.2] at ym
   have V := VH W ((UD.trans HF).keep _ _ T3 trivial)
   have v4 := V.2.2.1
   have v5 := V.2.2.2.1
   clear V
   skip
   go_simp
   exact hK.out _ _ _ rfl (Fr.refl _ _) (congrArg (Value.int .u64) (show (min (ix : Int) (pv1 : Int)) = ((mn : Nat) : Int) from by have := HMX.out.1; omega))
  refine CfAll.k rfl rfl (fun xs W hF hA hE K' hK => ?_) ?_
  ·have HF := Lib.hid hF
   clear hA hF
   simp only [ckEqs, ckLook, Nat.reduceBEq] at hE
   simp only [fillA, fillL, sA, sB, sC, Act.put, hE] at hK ⊢
   clear hE
   obtain ⟨y8, y9, y10, y12, y13, yn, ym⟩ := CC W3 W n H3 rfl (UD.trans HF)
   rw [HNK.out.2] at ym
   have V := VH W ((UD.trans HF).keep _ _ T3 trivial)
   have v4 := V.2.2.1
   have v5 := V.2.2.2.1
   clear V
   skip
   go_simp
   exact hK.out _ _ _ rfl (Fr.refl _ _) (congrArg (Value.int .u64) (show (max (kt1 : Int) (mn : Int)) = ((mx : Nat) : Int) from by have := HMX.out.2; omega))
  exact CfAll.nil
 case cfend =>
  intro xs W hF hA
  have HF := Lib.hid hF
  have hE := ckEnd rfl hA
  clear hA hF
  simp only [List.map_cons, List.map_nil, ckEqs, ckLook, Nat.reduceBEq] at hE
  simp only [fillA, fillL, sA, sB, sC, hE]
  clear hE
  have F4 := Lib.hid (UD.trans HF)
  have H4 := Lib.hid (H3.tt F4)
  have An := H4.nx
  rw [HQ.out.1] at An
  have an0 := An.cell t HT
  have an1 := An.free t
  have An2 := An.set t mx HT
  obtain ⟨WN, hWN⟩ : ∃ Y, W.setCell ⟨bn, t, none⟩ (.int .u64 (mx : Nat)) = Y := ⟨_, rfl⟩
  have fN : Fr (fun c _ => c ≠ bn) W WN := hWN ▸ (Fr.refl _ _).setCell (fun _ _ h => h rfl) _
  have h5 : PNs X P WN b nA q := by
   rw [← HNA.out]
   exact H4.out.arrays (nx := n.next.set t mx) (mt := n.mat) (fN.mono fun c _ hc => by rw [← HQ.out.1]; exact hc.1) (by rw [HQ.out.1, ← hWN]; exact An2) (H4.out.mt.fr fN fun _ _ => by rw [← HQ.out.1]; exact Ne.symm H4.out.nm)
  have T5 : Hid (WN.heap[g0]? = some (.cells (cM m) 74 (0, 0))) := fN.keep _ _ (F4.keep _ _ T3 trivial) (fun e => by
   obtain ⟨_, cur, hc, _⟩ := An
   have := F4.out.keep _ _ T3.out trivial
   rw [e, hc] at this
   cases this)
  have H5 := Lib.hid h5
  have FP5 : Hid (Fr (fun c _ => ¬ P c) w WN) := (F3.out.trans F4.out |>.tT).trans (fN.mono fun c _ hc e => hc (e ▸ (HQ.out.1 ▸ H.out.pn)))
  have TOC := Lib.hid (fun W' (f : FT WN W') => TO W' (H5.tt f))
  clear An An2 fN h5
  refine wpAny_next 20 (by kernel_rfl) rfl fun K' hK => ?_
  skip
  go_simp
  refine hK _ _ ?_
  clear hK K'
  refine wpAny_next 21 (by kernel_rfl) rfl fun K' hK => ?_
  skip
  go_simp
  refine hK _ _ ?_
  clear hK K'
  refine wpAny_fin (by kernel_rfl) ?_
  try rw [hWN]
  clear hWN an0 an1
  have v7 := (VH WN T5).2.2.2.2
  go_wp2_with fail
  go_quiet (fail)
  have UQ5 : Hid (FT WN (WN.drewN nq)) := (Fr.refl _ WN).drewN nq
  generalize WN.drewN nq = W6 at UQ5 ⊢
  have TOC1 := Lib.hid (TOC W6 UQ5)
  clear v7 TOC
  go_wp2_with fail
  (with_reducible refine TOC1.out.mono ?_)
  rintro e W7 ⟨⟨v, mvs, rfl, o7, e7⟩, f7⟩
  have HH := Lib.hid (And.intro o7 (And.intro e7 f7))
  clear o7 e7 f7 TOC1
  go_wp2
  go_ret
  rw [E.out]
  exact ⟨X, P, q, _, mvs, rfl, (H5.tt UQ5).tt HH.2.2, ((Aft.of FP5 H.px).tr UQ5).tr HH.2.2, HH.1.lo (FP5.trans (UQ5.tT)).size, HH.2.1⟩
end
end Go.Proofs.Ytmjccpfchhnfhaa
