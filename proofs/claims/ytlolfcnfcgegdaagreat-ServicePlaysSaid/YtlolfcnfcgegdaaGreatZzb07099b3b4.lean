/- Texts of the proofs, part 21: what the functions that they reach do, walked; no conditions beyond those that each states. -/
import Derived.Test.YtlolfcnfcgegdaaGreatZz95b52b452d
set_option linter.unusedVariables false
set_option linter.unusedSimpArgs false
/- The service: once, of what is done (printed by once20.py). -/
namespace Go.Proofs.YtlolfcnfcgegdaaGreat
open Go.RowKit
set_option linter.unusedVariables false
set_option linter.unusedSimpArgs false

set_option maxRecDepth 100000 in
set_option maxHeartbeats 4000000 in
theorem once_do {n : Nat} {P Q : Nat → Prop} (w : World) (bs b1 b2 : Nat) (M : MT) (L : Lk) (c : Cm) (h : SV n P Q w bs b1 b2 M L) (hn : n ≤ w.heap.size) (hq : c.sq < 4294967296) (hc : (askM M (c.cl : Nat) (c.sq : Nat)).2.2 = 0) (hg : (askM M (c.cl : Nat) (c.sq : Nat)).2.1 = false) (hop : c.op = 3 ∨ c.op = 4 ∨ c.op = 5 ∨ c.op = 6) :
    Calls Tryz.prog 31 #[.pointer (some ⟨bs, 0, none⟩), vM c] w fun e w' => e = .returned (vR (opM L c).1) ∧ ∃ P' Q', SV n P' Q' w' bs b1 b2 (doneM M (c.cl : Nat) (c.sq : Nat) (rpB (opM L c).1)).2 (opM L c).2 ∧ Kp (U P Q) (U P' Q') w w' := by
  have hfit : (opM L c).1.code < 256 ∧ (opM L c).1.val < 18446744073709551616 := by
    obtain ⟨hv, wv, T⟩ := h.lk
    exact opM_fits T.ok c
  obtain ⟨op, cl, sq, rg, md, tk, tm⟩ := c
  unfold vM
  dsimp only at *
  obtain ⟨W1, hW1⟩ : ∃ W, w.alloc (.cells #[.int .i64 (op : Nat), .int .i64 (cl : Nat), .int .u32 (sq : Nat), .int .i64 (rg : Nat), .int .i64 (md : Nat), .int .u64 (tk : Nat), .int .u64 (tm : Nat)] 33 (0, 0)) = W := ⟨_, rfl⟩
  have F1 : Hid (Fr (fun _ _ => True) w W1) := hW1 ▸ (Fr.refl _ _).alloc _
  have X1 : Hid (W1.heap[w.heap.size]? = some (.cells #[.int .i64 (op : Nat), .int .i64 (cl : Nat), .int .u32 (sq : Nat), .int .i64 (rg : Nat), .int .i64 (md : Nat), .int .u64 (tk : Nat), .int .u64 (tm : Nat)] 33 (0, 0))) := hW1 ▸ heap_alloc_new w _
  obtain ⟨W2, hW2⟩ : ∃ W, W1.alloc (.cells #[.int .i64 0, .int .u64 0] 36 (0, 0)) = W := ⟨_, rfl⟩
  have F2 : Hid (Fr (fun _ _ => True) W1 W2) := hW2 ▸ (Fr.refl _ _).alloc _
  have X2 : Hid (W2.heap[W1.heap.size]? = some (.cells #[.int .i64 0, .int .u64 0] 36 (0, 0))) := hW2 ▸ heap_alloc_new W1 _
  have SV2 := Lib.hid (h.fr (F1.out.trans F2.out))
  have XC : Hid (∀ W, Fr (fun _ _ => True) W2 W → W.heap[w.heap.size]? = some (.cells #[.int .i64 (op : Nat), .int .i64 (cl : Nat), .int .u32 (sq : Nat), .int .i64 (rg : Nat), .int .i64 (md : Nat), .int .u64 (tk : Nat), .int .u64 (tm : Nat)] 33 (0, 0))) := fun W f => (F2.out.trans f).keep _ _ X1.out trivial
  have CC : Hid (∀ W, Fr (fun _ _ => True) W2 W → W.cell? ⟨bs, 0, none⟩ = some (.pointer (some ⟨b1, 0, none⟩)) ∧ W.cell? ⟨w.heap.size, 1, none⟩ = some (.int .i64 (cl : Nat)) ∧ W.cell? ⟨w.heap.size, 2, none⟩ = some (.int .u32 (sq : Nat))) := fun W f => ⟨cell_mk (f.keep _ _ SV2.out.st trivial) rfl, cell_mk (XC.out W f) rfl, cell_mk (XC.out W f) rfl⟩
  have F0 : Hid (Fr (fun _ _ => True) W2 W2.drew) := (Fr.refl _ _).drew
  obtain ⟨AB, AG, AC, hask⟩ : ∃ a b c, askM M (cl : Nat) (sq : Nat) = (a, b, c) := ⟨_, _, _, rfl⟩
  rw [hask] at hc
  dsimp only at hc
  have ASK := Lib.hid (fun W (f : Fr (fun _ _ => True) W2 W) => ask_to W b1 M (cl : Nat) (sq : Nat) (SV2.out.se.fr f) (by omega) (by omega) AB AG AC hask)
  have HN := Lib.hid hn
  have G2 : Hid (Fr (fun _ _ => True) w W2) := F1.out.trans F2.out
  have HSZ : Hid (w.heap.size < W1.heap.size) := lt_of_some X1.out
  have hAB := askM_none (M := M) (n := (cl : Nat)) (s := (sq : Nat)) hg
  rw [hask] at hg hAB
  dsimp only at hg hAB
  obtain ⟨⟨⟨oc, ov⟩, OL⟩, hO⟩ : ∃ o, opM L ⟨op, cl, sq, rg, md, tk, tm⟩ = o := ⟨_, rfl⟩
  rw [hO] at hfit ⊢
  obtain ⟨hf1, hf2⟩ := hfit
  dsimp only at hf1 hf2
  have OP := Lib.hid hO
  have FT1 := Lib.hid hf1
  have FT2 := Lib.hid hf2
  have HQ := Lib.hid hq
  subst hc hg hAB
  clear h hn hask hO hf1 hf2 hq
  go_enter Tryz.func31, Tryz.ntmps31
  go_wp2_with fail
  go_region_held3 (fun W => W.cell? ⟨bs, 0, none⟩ = some (.pointer (some ⟨b1, 0, none⟩)) ∧ W.cell? ⟨w.heap.size, 1, none⟩ = some (.int .i64 (cl : Nat)) ∧ W.cell? ⟨w.heap.size, 2, none⟩ = some (.int .u32 (sq : Nat)))
    (first | exact CC.out _ F0.out | exact CC.out _ FA.out)
    ((go_at_call 68; go_must ((with_reducible refine (ASK.out _ ?cf).mono ?_); (case cf => exact F0.out); rintro e wa ⟨aa, ca, rfl, ba, fa⟩; have BA := Lib.hid ba; have FA : Hid (Fr (fun _ _ => True) W2 wa) := F0.out.trans fa; clear fa ba)))
  have SA := Lib.hid (SV2.out.fr FA.out)
  have NP : Hid (∀ m, wa.heap.size ≤ m → ¬ P m) := fun m hm hp => by
    obtain ⟨o, ho, _, _⟩ := SA.out.lk.ps hp
    have := lt_of_some ho
    omega
  have XA := Lib.hid (XC.out wa FA.out)
  have NB : Hid (¬ P w.heap.size) := SA.out.lk.out XA.out (kp_cells (by decide) (by decide))
  have x0 := cell_mk (i := 0) XA.out rfl
  have x1 := cell_mk (i := 1) XA.out rfl
  have x2 := cell_mk (i := 2) XA.out rfl
  have x3 := cell_mk (i := 3) XA.out rfl
  have x4 := cell_mk (i := 4) XA.out rfl
  have x5 := cell_mk (i := 5) XA.out rfl
  have x6 := cell_mk (i := 6) XA.out rfl
  have CD : Hid (∀ W, Fr (fun k _ => ¬ P k) wa W → W.cell? ⟨w.heap.size, 0, none⟩ = some (.int .i64 (op : Nat)) ∧ W.cell? ⟨w.heap.size, 1, none⟩ = some (.int .i64 (cl : Nat)) ∧ W.cell? ⟨w.heap.size, 2, none⟩ = some (.int .u32 (sq : Nat)) ∧ W.cell? ⟨w.heap.size, 3, none⟩ = some (.int .i64 (rg : Nat)) ∧ W.cell? ⟨w.heap.size, 4, none⟩ = some (.int .i64 (md : Nat)) ∧ W.cell? ⟨w.heap.size, 5, none⟩ = some (.int .u64 (tk : Nat)) ∧ W.cell? ⟨w.heap.size, 6, none⟩ = some (.int .u64 (tm : Nat))) := fun W f => by
    have t := f.keep _ _ XA.out NB.out
    exact ⟨cell_mk t rfl, cell_mk t rfl, cell_mk t rfl, cell_mk t rfl, cell_mk t rfl, cell_mk t rfl, cell_mk t rfl⟩
  have OPS := Lib.hid (fun W => ops_calls W bs)
  have T0 : Hid (Fr (fun _ _ => True) wa wa.drew) := (Fr.refl _ _).drew
  have HNA : Hid (n ≤ wa.heap.size) := Nat.le_trans HN.out (Nat.le_trans G2.out.size FA.out.size)
  have SZ0 : Hid (wa.heap.size ≤ wa.heap.size) := Nat.le_refl _
  clear x0 x1 x2 x3 x4 x5 x6
  go_upto_region 6 with fail
  go_cut [8] (fun v8 wx => ∃ (b8 : Nat) (P' : Nat → Prop), v8 = .pointer (some ⟨b8, 0, none⟩) ∧ wa.heap.size ≤ b8 ∧ Hid (wx.heap[b8]? = some (.cells #[.int .i64 (oc : Nat), .int .u64 (ov : Nat)] 36 (0, 0))) ∧ Hid (SV n P' Q wx bs b1 b2 M OL) ∧ Hid (Kp P P' wa wx))
  case first =>
    rcases hop with rfl | rfl | rfl | rfl
    · have OPC := Lib.hid (fun W bx (f : Fr (fun _ _ => True) wa W) (hx : W.heap[bx]? = some (.cells #[.pointer (some ⟨bs, 0, none⟩)] 25 (0, 0))) => op1_calls (n := n) W bs b1 b2 bx M L ⟨3, cl, sq, rg, md, tk, tm⟩ (SA.out.fr f) hx (Nat.le_trans HN.out (Nat.le_trans G2.out.size (FA.out.trans f).size)) rfl)
      have EOP : Hid (opM L ⟨3, cl, sq, rg, md, tk, tm⟩ = (⟨oc, ov⟩, OL)) := OP.out
      rw [EOP.out] at OPC
      unfold vR vM at OPC
      dsimp only at OPC
      go_region_held3 (fun W => W.cell? ⟨w.heap.size, 0, none⟩ = some (.int .i64 3) ∧ W.cell? ⟨w.heap.size, 1, none⟩ = some (.int .i64 (cl : Nat)) ∧ W.cell? ⟨w.heap.size, 2, none⟩ = some (.int .u32 (sq : Nat)) ∧ W.cell? ⟨w.heap.size, 3, none⟩ = some (.int .i64 (rg : Nat)) ∧ W.cell? ⟨w.heap.size, 4, none⟩ = some (.int .i64 (md : Nat)) ∧ W.cell? ⟨w.heap.size, 5, none⟩ = some (.int .u64 (tk : Nat)) ∧ W.cell? ⟨w.heap.size, 6, none⟩ = some (.int .u64 (tm : Nat)))
        (first | exact CD.out _ (T0.out.mono fun _ _ _ => trivial) | exact CD.out _ ((T0.out.alloc _).mono fun _ _ _ => trivial) | exact CD.out _ (T5.out.mono fun _ _ _ => trivial) | exact CD.out _ ((T5.out.alloc _).mono fun _ _ _ => trivial) | exact CD.out _ T9.out | exact CD.out _ (T9.out.alloc _) | exact CD.out _ ((T9.out.setCell_new (by first | exact SZ0.out | exact SZ5.out | exact SZ9.out) _).setCell_new (by first | exact SZ0.out | exact SZ5.out | exact SZ9.out) _) | exact CD.out _ (((T9.out.alloc _).setCell_new (by first | exact SZ0.out | exact SZ5.out | exact SZ9.out) _).setCell_new (by first | exact SZ0.out | exact SZ5.out | exact SZ9.out) _))
        (first
          | (go_at_call 70; go_must ((with_reducible refine (OPS.out _).mono ?_); rintro e w5 ⟨bx, bm, rfl, hx5, hm5, f5⟩; have T5 : Hid (Fr (fun _ _ => True) wa w5) := (by first | exact T0.out.trans f5 | exact (T0.out.alloc _).trans f5); have SZ5 : Hid (wa.heap.size ≤ w5.heap.size) := T5.out.size; have HX5 := Lib.hid hx5; (first | (have Y5 : Hid (w5.heap[wa.heap.size]? = some (.cells #[.int .i64 0, .int .u64 0] 36 (0, 0))) := f5.keep _ _ (heap_alloc_new wa.drew _) trivial) | skip); have LKa : (Instr.lookup 138 (.map (some bm)) (.int .i64 3) false).run Tryz.prog w5 = .ok (.func (.func 100) #[] #[.pointer (some ⟨bx, 0, none⟩)]) w5 := run_lookup_int1 Tryz.underlying138 Tryz.underlying3 bm 3 (opsL bx) 4 w5 _ hm5 rfl; have LKb : ∀ o, (Instr.lookup 138 (.map (some bm)) (.int .i64 3) false).run Tryz.prog (w5.alloc o) = .ok (.func (.func 100) #[] #[.pointer (some ⟨bx, 0, none⟩)]) (w5.alloc o) := fun o => run_lookup_int1 Tryz.underlying138 Tryz.underlying3 bm 3 (opsL bx) 4 (w5.alloc o) _ (heap_alloc_lt hm5 o) rfl; clear hx5 hm5 f5))
          | (go_at_call 100; go_must ((refine (OPC.out _ bx ?cf ?cx).mono ?_); (case cf => first | exact T5.out | exact T5.out.alloc _); (case cx => first | exact HX5.out | exact heap_alloc_lt HX5.out _); rintro e w9 ⟨rfl, P9, S9, K9⟩; have HS9 := Lib.hid S9; have KK : Hid (Kp P P9 wa w9) := (by first | exact (Kp.rfl' P T5.out).trans K9 | exact (Kp.rfl' P (T5.out.alloc _)).trans K9); have T9 : Hid (Fr (fun k _ => ¬ P k) wa w9) := KK.out.fr; have SZ9 : Hid (wa.heap.size ≤ w9.heap.size) := T9.out.size; (first | (have Y9 : Hid (w9.heap[wa.heap.size]? = some (.cells #[.int .i64 0, .int .u64 0] 36 (0, 0))) := K9.fr.keep _ _ Y5.out (NP.out _ (Nat.le_refl _)); have q0 := cell_mk (i := 0) Y9.out rfl; have q1 := cell_mk (i := 1) Y9.out rfl; have y0 := frozen_mk (i := 0) Y9.out; have y1 := frozen_mk (i := 1) Y9.out) | (have Y9 : Hid (w9.heap[w5.heap.size]? = some (.cells #[.int .i64 0, .int .u64 0] 36 (0, 0))) := K9.fr.keep _ _ (heap_alloc_new w5 _) (NP.out _ SZ5.out); have q0 := cell_mk (i := 0) Y9.out rfl; have q1 := cell_mk (i := 1) Y9.out rfl; have y0 := frozen_mk (i := 0) Y9.out; have y1 := frozen_mk (i := 1) Y9.out) | skip); clear S9 K9)))
      all_goals
        go_wp2_with fail
        go_meet
        case rel =>
          first
            | exact ⟨_, P9, rfl, SZ9.out, heap_alloc_new w9 _, HS9.out.fr ((Fr.refl _ _).alloc _), KK.out.trans (Kp.rfl' _ ((Fr.refl _ _).alloc _))⟩
            | (obtain ⟨WQ, hWQ, TQ, FQ⟩ := set2 Y9.out (.int .i64 (oc : Nat)) (.int .u64 (ov : Nat)); rw [hWQ]; have E := SV.end3 HS9.out KK.out FQ Y9.out HNA.out (by first | exact SZ0.out | exact SZ5.out) (by decide); exact ⟨_, P9, rfl, (by first | exact SZ0.out | exact SZ5.out), TQ, E.1, E.2⟩)
    · have OPC := Lib.hid (fun W bx (f : Fr (fun _ _ => True) wa W) (hx : W.heap[bx]? = some (.cells #[.pointer (some ⟨bs, 0, none⟩)] 25 (0, 0))) => op2_calls (n := n) W bs b1 b2 bx M L ⟨4, cl, sq, rg, md, tk, tm⟩ (SA.out.fr f) hx (Nat.le_trans HN.out (Nat.le_trans G2.out.size (FA.out.trans f).size)) rfl)
      have EOP : Hid (opM L ⟨4, cl, sq, rg, md, tk, tm⟩ = (⟨oc, ov⟩, OL)) := OP.out
      rw [EOP.out] at OPC
      unfold vR vM at OPC
      dsimp only at OPC
      go_region_held3 (fun W => W.cell? ⟨w.heap.size, 0, none⟩ = some (.int .i64 4) ∧ W.cell? ⟨w.heap.size, 1, none⟩ = some (.int .i64 (cl : Nat)) ∧ W.cell? ⟨w.heap.size, 2, none⟩ = some (.int .u32 (sq : Nat)) ∧ W.cell? ⟨w.heap.size, 3, none⟩ = some (.int .i64 (rg : Nat)) ∧ W.cell? ⟨w.heap.size, 4, none⟩ = some (.int .i64 (md : Nat)) ∧ W.cell? ⟨w.heap.size, 5, none⟩ = some (.int .u64 (tk : Nat)) ∧ W.cell? ⟨w.heap.size, 6, none⟩ = some (.int .u64 (tm : Nat)))
        (first | exact CD.out _ (T0.out.mono fun _ _ _ => trivial) | exact CD.out _ ((T0.out.alloc _).mono fun _ _ _ => trivial) | exact CD.out _ (T5.out.mono fun _ _ _ => trivial) | exact CD.out _ ((T5.out.alloc _).mono fun _ _ _ => trivial) | exact CD.out _ T9.out | exact CD.out _ (T9.out.alloc _) | exact CD.out _ ((T9.out.setCell_new (by first | exact SZ0.out | exact SZ5.out | exact SZ9.out) _).setCell_new (by first | exact SZ0.out | exact SZ5.out | exact SZ9.out) _) | exact CD.out _ (((T9.out.alloc _).setCell_new (by first | exact SZ0.out | exact SZ5.out | exact SZ9.out) _).setCell_new (by first | exact SZ0.out | exact SZ5.out | exact SZ9.out) _))
        (first
          | (go_at_call 70; go_must ((with_reducible refine (OPS.out _).mono ?_); rintro e w5 ⟨bx, bm, rfl, hx5, hm5, f5⟩; have T5 : Hid (Fr (fun _ _ => True) wa w5) := (by first | exact T0.out.trans f5 | exact (T0.out.alloc _).trans f5); have SZ5 : Hid (wa.heap.size ≤ w5.heap.size) := T5.out.size; have HX5 := Lib.hid hx5; (first | (have Y5 : Hid (w5.heap[wa.heap.size]? = some (.cells #[.int .i64 0, .int .u64 0] 36 (0, 0))) := f5.keep _ _ (heap_alloc_new wa.drew _) trivial) | skip); have LKa : (Instr.lookup 138 (.map (some bm)) (.int .i64 4) false).run Tryz.prog w5 = .ok (.func (.func 103) #[] #[.pointer (some ⟨bx, 0, none⟩)]) w5 := run_lookup_int1 Tryz.underlying138 Tryz.underlying3 bm 4 (opsL bx) 4 w5 _ hm5 rfl; have LKb : ∀ o, (Instr.lookup 138 (.map (some bm)) (.int .i64 4) false).run Tryz.prog (w5.alloc o) = .ok (.func (.func 103) #[] #[.pointer (some ⟨bx, 0, none⟩)]) (w5.alloc o) := fun o => run_lookup_int1 Tryz.underlying138 Tryz.underlying3 bm 4 (opsL bx) 4 (w5.alloc o) _ (heap_alloc_lt hm5 o) rfl; clear hx5 hm5 f5))
          | (go_at_call 103; go_must ((refine (OPC.out _ bx ?cf ?cx).mono ?_); (case cf => first | exact T5.out | exact T5.out.alloc _); (case cx => first | exact HX5.out | exact heap_alloc_lt HX5.out _); rintro e w9 ⟨rfl, P9, S9, K9⟩; have HS9 := Lib.hid S9; have KK : Hid (Kp P P9 wa w9) := (by first | exact (Kp.rfl' P T5.out).trans K9 | exact (Kp.rfl' P (T5.out.alloc _)).trans K9); have T9 : Hid (Fr (fun k _ => ¬ P k) wa w9) := KK.out.fr; have SZ9 : Hid (wa.heap.size ≤ w9.heap.size) := T9.out.size; (first | (have Y9 : Hid (w9.heap[wa.heap.size]? = some (.cells #[.int .i64 0, .int .u64 0] 36 (0, 0))) := K9.fr.keep _ _ Y5.out (NP.out _ (Nat.le_refl _)); have q0 := cell_mk (i := 0) Y9.out rfl; have q1 := cell_mk (i := 1) Y9.out rfl; have y0 := frozen_mk (i := 0) Y9.out; have y1 := frozen_mk (i := 1) Y9.out) | (have Y9 : Hid (w9.heap[w5.heap.size]? = some (.cells #[.int .i64 0, .int .u64 0] 36 (0, 0))) := K9.fr.keep _ _ (heap_alloc_new w5 _) (NP.out _ SZ5.out); have q0 := cell_mk (i := 0) Y9.out rfl; have q1 := cell_mk (i := 1) Y9.out rfl; have y0 := frozen_mk (i := 0) Y9.out; have y1 := frozen_mk (i := 1) Y9.out) | skip); clear S9 K9)))
      all_goals
        go_wp2_with fail
        go_meet
        case rel =>
          first
            | exact ⟨_, P9, rfl, SZ9.out, heap_alloc_new w9 _, HS9.out.fr ((Fr.refl _ _).alloc _), KK.out.trans (Kp.rfl' _ ((Fr.refl _ _).alloc _))⟩
            | (obtain ⟨WQ, hWQ, TQ, FQ⟩ := set2 Y9.out (.int .i64 (oc : Nat)) (.int .u64 (ov : Nat)); rw [hWQ]; have E := SV.end3 HS9.out KK.out FQ Y9.out HNA.out (by first | exact SZ0.out | exact SZ5.out) (by decide); exact ⟨_, P9, rfl, (by first | exact SZ0.out | exact SZ5.out), TQ, E.1, E.2⟩)
    · have OPC := Lib.hid (fun W bx (f : Fr (fun _ _ => True) wa W) (hx : W.heap[bx]? = some (.cells #[.pointer (some ⟨bs, 0, none⟩)] 25 (0, 0))) => op3_calls (n := n) W bs b1 b2 bx M L ⟨5, cl, sq, rg, md, tk, tm⟩ (SA.out.fr f) hx (Nat.le_trans HN.out (Nat.le_trans G2.out.size (FA.out.trans f).size)) rfl)
      have EOP : Hid (opM L ⟨5, cl, sq, rg, md, tk, tm⟩ = (⟨oc, ov⟩, OL)) := OP.out
      rw [EOP.out] at OPC
      unfold vR vM at OPC
      dsimp only at OPC
      go_region_held3 (fun W => W.cell? ⟨w.heap.size, 0, none⟩ = some (.int .i64 5) ∧ W.cell? ⟨w.heap.size, 1, none⟩ = some (.int .i64 (cl : Nat)) ∧ W.cell? ⟨w.heap.size, 2, none⟩ = some (.int .u32 (sq : Nat)) ∧ W.cell? ⟨w.heap.size, 3, none⟩ = some (.int .i64 (rg : Nat)) ∧ W.cell? ⟨w.heap.size, 4, none⟩ = some (.int .i64 (md : Nat)) ∧ W.cell? ⟨w.heap.size, 5, none⟩ = some (.int .u64 (tk : Nat)) ∧ W.cell? ⟨w.heap.size, 6, none⟩ = some (.int .u64 (tm : Nat)))
        (first | exact CD.out _ (T0.out.mono fun _ _ _ => trivial) | exact CD.out _ ((T0.out.alloc _).mono fun _ _ _ => trivial) | exact CD.out _ (T5.out.mono fun _ _ _ => trivial) | exact CD.out _ ((T5.out.alloc _).mono fun _ _ _ => trivial) | exact CD.out _ T9.out | exact CD.out _ (T9.out.alloc _) | exact CD.out _ ((T9.out.setCell_new (by first | exact SZ0.out | exact SZ5.out | exact SZ9.out) _).setCell_new (by first | exact SZ0.out | exact SZ5.out | exact SZ9.out) _) | exact CD.out _ (((T9.out.alloc _).setCell_new (by first | exact SZ0.out | exact SZ5.out | exact SZ9.out) _).setCell_new (by first | exact SZ0.out | exact SZ5.out | exact SZ9.out) _))
        (first
          | (go_at_call 70; go_must ((with_reducible refine (OPS.out _).mono ?_); rintro e w5 ⟨bx, bm, rfl, hx5, hm5, f5⟩; have T5 : Hid (Fr (fun _ _ => True) wa w5) := (by first | exact T0.out.trans f5 | exact (T0.out.alloc _).trans f5); have SZ5 : Hid (wa.heap.size ≤ w5.heap.size) := T5.out.size; have HX5 := Lib.hid hx5; (first | (have Y5 : Hid (w5.heap[wa.heap.size]? = some (.cells #[.int .i64 0, .int .u64 0] 36 (0, 0))) := f5.keep _ _ (heap_alloc_new wa.drew _) trivial) | skip); have LKa : (Instr.lookup 138 (.map (some bm)) (.int .i64 5) false).run Tryz.prog w5 = .ok (.func (.func 104) #[] #[.pointer (some ⟨bx, 0, none⟩)]) w5 := run_lookup_int1 Tryz.underlying138 Tryz.underlying3 bm 5 (opsL bx) 4 w5 _ hm5 rfl; have LKb : ∀ o, (Instr.lookup 138 (.map (some bm)) (.int .i64 5) false).run Tryz.prog (w5.alloc o) = .ok (.func (.func 104) #[] #[.pointer (some ⟨bx, 0, none⟩)]) (w5.alloc o) := fun o => run_lookup_int1 Tryz.underlying138 Tryz.underlying3 bm 5 (opsL bx) 4 (w5.alloc o) _ (heap_alloc_lt hm5 o) rfl; clear hx5 hm5 f5))
          | (go_at_call 104; go_must ((refine (OPC.out _ bx ?cf ?cx).mono ?_); (case cf => first | exact T5.out | exact T5.out.alloc _); (case cx => first | exact HX5.out | exact heap_alloc_lt HX5.out _); rintro e w9 ⟨rfl, P9, S9, K9⟩; have HS9 := Lib.hid S9; have KK : Hid (Kp P P9 wa w9) := (by first | exact (Kp.rfl' P T5.out).trans K9 | exact (Kp.rfl' P (T5.out.alloc _)).trans K9); have T9 : Hid (Fr (fun k _ => ¬ P k) wa w9) := KK.out.fr; have SZ9 : Hid (wa.heap.size ≤ w9.heap.size) := T9.out.size; (first | (have Y9 : Hid (w9.heap[wa.heap.size]? = some (.cells #[.int .i64 0, .int .u64 0] 36 (0, 0))) := K9.fr.keep _ _ Y5.out (NP.out _ (Nat.le_refl _)); have q0 := cell_mk (i := 0) Y9.out rfl; have q1 := cell_mk (i := 1) Y9.out rfl; have y0 := frozen_mk (i := 0) Y9.out; have y1 := frozen_mk (i := 1) Y9.out) | (have Y9 : Hid (w9.heap[w5.heap.size]? = some (.cells #[.int .i64 0, .int .u64 0] 36 (0, 0))) := K9.fr.keep _ _ (heap_alloc_new w5 _) (NP.out _ SZ5.out); have q0 := cell_mk (i := 0) Y9.out rfl; have q1 := cell_mk (i := 1) Y9.out rfl; have y0 := frozen_mk (i := 0) Y9.out; have y1 := frozen_mk (i := 1) Y9.out) | skip); clear S9 K9)))
      all_goals
        go_wp2_with fail
        go_meet
        case rel =>
          first
            | exact ⟨_, P9, rfl, SZ9.out, heap_alloc_new w9 _, HS9.out.fr ((Fr.refl _ _).alloc _), KK.out.trans (Kp.rfl' _ ((Fr.refl _ _).alloc _))⟩
            | (obtain ⟨WQ, hWQ, TQ, FQ⟩ := set2 Y9.out (.int .i64 (oc : Nat)) (.int .u64 (ov : Nat)); rw [hWQ]; have E := SV.end3 HS9.out KK.out FQ Y9.out HNA.out (by first | exact SZ0.out | exact SZ5.out) (by decide); exact ⟨_, P9, rfl, (by first | exact SZ0.out | exact SZ5.out), TQ, E.1, E.2⟩)
    · have OPC := Lib.hid (fun W bx (f : Fr (fun _ _ => True) wa W) (hx : W.heap[bx]? = some (.cells #[.pointer (some ⟨bs, 0, none⟩)] 25 (0, 0))) => op4_calls (n := n) W bs b1 b2 bx M L ⟨6, cl, sq, rg, md, tk, tm⟩ (SA.out.fr f) hx (Nat.le_trans HN.out (Nat.le_trans G2.out.size (FA.out.trans f).size)) rfl)
      have EOP : Hid (opM L ⟨6, cl, sq, rg, md, tk, tm⟩ = (⟨oc, ov⟩, OL)) := OP.out
      rw [EOP.out] at OPC
      unfold vR vM at OPC
      dsimp only at OPC
      go_region_held3 (fun W => W.cell? ⟨w.heap.size, 0, none⟩ = some (.int .i64 6) ∧ W.cell? ⟨w.heap.size, 1, none⟩ = some (.int .i64 (cl : Nat)) ∧ W.cell? ⟨w.heap.size, 2, none⟩ = some (.int .u32 (sq : Nat)) ∧ W.cell? ⟨w.heap.size, 3, none⟩ = some (.int .i64 (rg : Nat)) ∧ W.cell? ⟨w.heap.size, 4, none⟩ = some (.int .i64 (md : Nat)) ∧ W.cell? ⟨w.heap.size, 5, none⟩ = some (.int .u64 (tk : Nat)) ∧ W.cell? ⟨w.heap.size, 6, none⟩ = some (.int .u64 (tm : Nat)))
        (first | exact CD.out _ (T0.out.mono fun _ _ _ => trivial) | exact CD.out _ ((T0.out.alloc _).mono fun _ _ _ => trivial) | exact CD.out _ (T5.out.mono fun _ _ _ => trivial) | exact CD.out _ ((T5.out.alloc _).mono fun _ _ _ => trivial) | exact CD.out _ T9.out | exact CD.out _ (T9.out.alloc _) | exact CD.out _ ((T9.out.setCell_new (by first | exact SZ0.out | exact SZ5.out | exact SZ9.out) _).setCell_new (by first | exact SZ0.out | exact SZ5.out | exact SZ9.out) _) | exact CD.out _ (((T9.out.alloc _).setCell_new (by first | exact SZ0.out | exact SZ5.out | exact SZ9.out) _).setCell_new (by first | exact SZ0.out | exact SZ5.out | exact SZ9.out) _))
        (first
          | (go_at_call 70; go_must ((with_reducible refine (OPS.out _).mono ?_); rintro e w5 ⟨bx, bm, rfl, hx5, hm5, f5⟩; have T5 : Hid (Fr (fun _ _ => True) wa w5) := (by first | exact T0.out.trans f5 | exact (T0.out.alloc _).trans f5); have SZ5 : Hid (wa.heap.size ≤ w5.heap.size) := T5.out.size; have HX5 := Lib.hid hx5; (first | (have Y5 : Hid (w5.heap[wa.heap.size]? = some (.cells #[.int .i64 0, .int .u64 0] 36 (0, 0))) := f5.keep _ _ (heap_alloc_new wa.drew _) trivial) | skip); have LKa : (Instr.lookup 138 (.map (some bm)) (.int .i64 6) false).run Tryz.prog w5 = .ok (.func (.func 106) #[] #[.pointer (some ⟨bx, 0, none⟩)]) w5 := run_lookup_int1 Tryz.underlying138 Tryz.underlying3 bm 6 (opsL bx) 4 w5 _ hm5 rfl; have LKb : ∀ o, (Instr.lookup 138 (.map (some bm)) (.int .i64 6) false).run Tryz.prog (w5.alloc o) = .ok (.func (.func 106) #[] #[.pointer (some ⟨bx, 0, none⟩)]) (w5.alloc o) := fun o => run_lookup_int1 Tryz.underlying138 Tryz.underlying3 bm 6 (opsL bx) 4 (w5.alloc o) _ (heap_alloc_lt hm5 o) rfl; clear hx5 hm5 f5))
          | (go_at_call 106; go_must ((refine (OPC.out _ bx ?cf ?cx).mono ?_); (case cf => first | exact T5.out | exact T5.out.alloc _); (case cx => first | exact HX5.out | exact heap_alloc_lt HX5.out _); rintro e w9 ⟨rfl, P9, S9, K9⟩; have HS9 := Lib.hid S9; have KK : Hid (Kp P P9 wa w9) := (by first | exact (Kp.rfl' P T5.out).trans K9 | exact (Kp.rfl' P (T5.out.alloc _)).trans K9); have T9 : Hid (Fr (fun k _ => ¬ P k) wa w9) := KK.out.fr; have SZ9 : Hid (wa.heap.size ≤ w9.heap.size) := T9.out.size; (first | (have Y9 : Hid (w9.heap[wa.heap.size]? = some (.cells #[.int .i64 0, .int .u64 0] 36 (0, 0))) := K9.fr.keep _ _ Y5.out (NP.out _ (Nat.le_refl _)); have q0 := cell_mk (i := 0) Y9.out rfl; have q1 := cell_mk (i := 1) Y9.out rfl; have y0 := frozen_mk (i := 0) Y9.out; have y1 := frozen_mk (i := 1) Y9.out) | (have Y9 : Hid (w9.heap[w5.heap.size]? = some (.cells #[.int .i64 0, .int .u64 0] 36 (0, 0))) := K9.fr.keep _ _ (heap_alloc_new w5 _) (NP.out _ SZ5.out); have q0 := cell_mk (i := 0) Y9.out rfl; have q1 := cell_mk (i := 1) Y9.out rfl; have y0 := frozen_mk (i := 0) Y9.out; have y1 := frozen_mk (i := 1) Y9.out) | skip); clear S9 K9)))
      all_goals
        go_wp2_with fail
        go_meet
        case rel =>
          first
            | exact ⟨_, P9, rfl, SZ9.out, heap_alloc_new w9 _, HS9.out.fr ((Fr.refl _ _).alloc _), KK.out.trans (Kp.rfl' _ ((Fr.refl _ _).alloc _))⟩
            | (obtain ⟨WQ, hWQ, TQ, FQ⟩ := set2 Y9.out (.int .i64 (oc : Nat)) (.int .u64 (ov : Nat)); rw [hWQ]; have E := SV.end3 HS9.out KK.out FQ Y9.out HNA.out (by first | exact SZ0.out | exact SZ5.out) (by decide); exact ⟨_, P9, rfl, (by first | exact SZ0.out | exact SZ5.out), TQ, E.1, E.2⟩)
  case rest =>
    obtain ⟨b8, P8, rfl, hb8, H8, S8, K8⟩ := hcut
    have HB8 := Lib.hid hb8
    have NQ1 : Hid (¬ Q bs) := S8.out.se.out S8.out.st (qk_cells (by decide) (by decide))
    have XW := Lib.hid (K8.out.fr.keep _ _ XA.out NB.out)
    have NQ2 : Hid (¬ Q w.heap.size) := S8.out.se.out XW.out (qk_cells (by decide) (by decide))
    have NQ3 : Hid (¬ Q b8) := S8.out.se.out H8.out (qk_cells (by decide) (by decide))
    have CE : Hid (∀ W, Fr (fun k _ => ¬ Q k) wc W → W.cell? ⟨bs, 0, none⟩ = some (.pointer (some ⟨b1, 0, none⟩)) ∧ W.cell? ⟨w.heap.size, 1, none⟩ = some (.int .i64 (cl : Nat)) ∧ W.cell? ⟨w.heap.size, 2, none⟩ = some (.int .u32 (sq : Nat)) ∧ W.cell? ⟨b8, 0, none⟩ = some (.int .i64 (oc : Nat)) ∧ W.cell? ⟨b8, 1, none⟩ = some (.int .u64 (ov : Nat))) := fun W f => by
      have t1 := f.keep _ _ S8.out.st NQ1.out
      have t2 := f.keep _ _ XW.out NQ2.out
      have t3 := f.keep _ _ H8.out NQ3.out
      exact ⟨cell_mk t1 rfl, cell_mk t2 rfl, cell_mk t2 rfl, cell_mk t3 rfl, cell_mk t3 rfl⟩
    have U0 : Hid (Fr (fun _ _ => True) wc wc.drew) := (Fr.refl _ _).drew
    have RB := Lib.hid (fun W => rbytes_calls W ⟨oc, ov⟩ FT1.out FT2.out)
    unfold vR at RB
    dsimp only at RB
    obtain ⟨DC, DM, hD⟩ : ∃ a b, doneM M (cl : Nat) (sq : Nat) (rpB ⟨oc, ov⟩) = (a, b) := ⟨_, _, rfl⟩
    have DN := Lib.hid (fun (W : World) (v : Value) (f : Fr (fun _ _ => True) wc W) (hb : BytesAt (New wc.heap.size) W v (rpB ⟨oc, ov⟩)) => done_to W b1 M (cl : Nat) (sq : Nat) v _ (S8.out.se.fr f) (by omega) (by have := HQ.out; omega) hb DC DM hD)
    have HD := Lib.hid hD
    clear hb8 hD
    go_wp2_with fail
    go_region_held3 (fun W => W.cell? ⟨bs, 0, none⟩ = some (.pointer (some ⟨b1, 0, none⟩)) ∧ W.cell? ⟨w.heap.size, 1, none⟩ = some (.int .i64 (cl : Nat)) ∧ W.cell? ⟨w.heap.size, 2, none⟩ = some (.int .u32 (sq : Nat)) ∧ W.cell? ⟨b8, 0, none⟩ = some (.int .i64 (oc : Nat)) ∧ W.cell? ⟨b8, 1, none⟩ = some (.int .u64 (ov : Nat)))
      (first | exact CE.out _ (U0.out.mono fun _ _ _ => trivial) | exact CE.out _ (F6.out.mono fun _ _ _ => trivial) | exact CE.out _ HK7.out.fr)
      (first
        | (go_at_call 72; go_must ((with_reducible refine (RB.out _).mono ?_); rintro e w6 ⟨⟨a6, c6, rfl, b6⟩, f6⟩; have F6 : Hid (Fr (fun _ _ => True) wc w6) := U0.out.trans f6; have B6 : Hid (BytesAt (New wc.heap.size) w6 (.slice a6 9 c6) (rpB ⟨oc, ov⟩)) := b6; clear f6 b6))
        | (go_at_call 71; go_must ((refine (DN.out _ _ ?cf ?cb).mono ?_); (case cf => exact F6.out); (case cb => exact B6.out); rintro e w7 ⟨rfl, Q7, T7, K7⟩; have HT7 := Lib.hid T7; have HK7 := Lib.hid ((Kp.rfl' Q F6.out).trans K7); have t3 := HK7.out.fr.keep _ _ H8.out NQ3.out; have r0 := cell_mk (i := 0) t3 rfl; have r1 := cell_mk (i := 1) t3 rfl; have XB1 := FA.out.keep _ _ X2.out trivial; have NP4 : ¬ P W1.heap.size := SA.out.lk.out XB1 (kp_cells (by decide) (by decide)); have XB2 := K8.out.fr.keep _ _ XB1 NP4; have NQ4 : ¬ Q W1.heap.size := S8.out.se.out XB2 (qk_cells (by decide) (by decide)); have XB : Hid (w7.heap[W1.heap.size]? = some (.cells #[.int .i64 0, .int .u64 0] 36 (0, 0))) := HK7.out.fr.keep _ _ XB2 NQ4; have q0 := cell_mk (i := 0) XB.out rfl; have q1 := cell_mk (i := 1) XB.out rfl; have y0 := frozen_mk (i := 0) XB.out; have y1 := frozen_mk (i := 1) XB.out; clear T7 K7 t3 XB1 XB2 NP4 NQ4)))
    all_goals
      obtain ⟨WZ, hWZ, TZ, FZ⟩ := set2 XB.out (.int .i64 (oc : Nat)) (.int .u64 (ov : Nat))
      have p0 := cell_mk (i := 0) TZ rfl
      have p1 := cell_mk (i := 1) TZ rfl
      have FZH := Lib.hid FZ
      clear TZ FZ
      go_wp2
      try rw [hWZ]
      refine bodyPost_ret (v := .agg #[.int .i64 (oc : Nat), .int .u64 (ov : Nat)]) (by simp [results, Tryz.results31, go_sem, *]) rfl ⟨rfl, P8, Q7, ?_⟩
      try rw [hWZ]
      have K := ((Kp.rfl' (U P Q) (G2.out.trans FA.out)).trans (SA.out.kpl K8.out)).trans (S8.out.kpr HK7.out)
      rw [HD.out]
      exact SV.end2 (S8.out.sess HT7.out HK7.out) K FZH.out XB.out HN.out (Nat.le_of_lt HSZ.out) (by decide)
end Go.Proofs.YtlolfcnfcgegdaaGreat
/- The service: Apply, plainly, and of what is no command, of ticks, of opens (printed by apply20.py). -/
namespace Go.Proofs.YtlolfcnfcgegdaaGreat
open Go.RowKit
set_option linter.unusedVariables false
set_option linter.unusedSimpArgs false

def Cmd.cm (c : Cmd) : Cm := ⟨c.op.toNat, c.cl.toNat, c.sq, c.rg.toNat, c.md.toNat, c.tk, c.tm⟩
def applyC (M : MT) (L : Lk) (c : Cm) : Rp × MT × Lk :=
  if c.op = 7 then (⟨0, (timeM L c.tm).now⟩, M, timeM L c.tm)
  else if c.op = 1 then (⟨(openM M (c.cl : Nat)).1.toNat, 0⟩, (openM M (c.cl : Nat)).2, L)
  else if c.op = 2 then (⟨(closeM M (c.cl : Nat)).1.toNat, 0⟩, (closeM M (c.cl : Nat)).2, if (closeM M (c.cl : Nat)).1 = 0 then leaveM L c.cl else L)
  else onceM M L c
def applyM (M : MT) (L : Lk) (b : List UInt8) : Rp × MT × Lk := if (decM b).2 ≠ 0 then (⟨1, 0⟩, M, L) else applyC M L (decM b).1.cm
theorem ask_len {n : Nat} {Q : Nat → Prop} {w : World} {bt : Nat} {M : MT} (h : TO n Q w bt M) (k s : Int) : (askM M k s).1.length ≤ 9 := by
  obtain ⟨⟨mv, c, R, ht, e, _⟩, _⟩ := h
  have hf := findM_abs k R
  rw [e] at hf
  unfold askM
  rw [hf]
  cases hn : findR R k with
  | none => exact Nat.zero_le _
  | some r =>
    dsimp only [Option.map_some]
    split
    · exact (ht.each r (findR_mem hn).1).short
    · exact Nat.zero_le _
theorem once_calls {n : Nat} {P Q : Nat → Prop} (w : World) (bs b1 b2 : Nat) (M : MT) (L : Lk) (c : Cm) (h : SV n P Q w bs b1 b2 M L) (hn : n ≤ w.heap.size) (hq : c.sq < 4294967296) (hop : c.op = 3 ∨ c.op = 4 ∨ c.op = 5 ∨ c.op = 6) :
    Calls Tryz.prog 31 #[.pointer (some ⟨bs, 0, none⟩), vM c] w fun e w' => e = .returned (vR (onceM M L c).1) ∧ ∃ P' Q', SV n P' Q' w' bs b1 b2 (onceM M L c).2.1 (onceM M L c).2.2 ∧ Kp (U P Q) (U P' Q') w w' := by
  by_cases h0 : (askM M (c.cl : Nat) (c.sq : Nat)).2.2 = 0
  · by_cases h1 : (askM M (c.cl : Nat) (c.sq : Nat)).2.1 = true
    · have e : onceM M L c = (rpM (askM M (c.cl : Nat) (c.sq : Nat)).1, M, L) := by unfold onceM; rw [if_neg (fun x => x h0), if_pos h1]
      rw [e]
      exact once_again w bs b1 b2 M L c h hn hq h0 h1 (by have := ask_len h.se (c.cl : Nat) (c.sq : Nat); omega)
    · have e : onceM M L c = ((opM L c).1, (doneM M (c.cl : Nat) (c.sq : Nat) (rpB (opM L c).1)).2, (opM L c).2) := by unfold onceM; rw [if_neg (fun x => x h0), if_neg h1]
      rw [e]
      exact once_do w bs b1 b2 M L c h hn hq h0 (by simpa using h1) hop
  · have e : onceM M L c = (⟨(askM M (c.cl : Nat) (c.sq : Nat)).2.2.toNat, 0⟩, M, L) := by unfold onceM; rw [if_pos h0]
    rw [e]
    have hk : ∃ k : Nat, (askM M (c.cl : Nat) (c.sq : Nat)).2.2 = (k : Int) := by
      rcases askM_code M (c.cl : Nat) (c.sq : Nat) with e | e | e | e
      · exact ⟨0, e⟩
      · exact ⟨60, e⟩
      · exact ⟨80, e⟩
      · exact ⟨81, e⟩
    obtain ⟨k, hk⟩ := hk
    rw [hk, Int.toNat_natCast]
    exact once_code w bs b1 b2 M L c h hn hq k (by rw [hk] at h0; omega) hk
set_option maxRecDepth 100000 in
set_option maxHeartbeats 2000000 in
theorem ap_bad {n : Nat} {P Q : Nat → Prop} {K : Nat → Obj → Prop} (w : World) (bs b1 b2 : Nat) (M : MT) (L : Lk) (v : Value) (b : List UInt8) (h : SV n P Q w bs b1 b2 M L) (hn : n ≤ w.heap.size) (hb : BytesAt K w v b) (hm : b.length ≤ 1000000) (e0 : Nat) (C : Cmd) (hd : decM b = (C, e0)) (he : e0 ≠ 0) :
    Calls Tryz.prog 10 #[.pointer (some ⟨bs, 0, none⟩), v] w fun e w' => e = .returned (vR ⟨1, 0⟩) ∧ ∃ P' Q', SV n P' Q' w' bs b1 b2 M L ∧ Kp (U P Q) (U P' Q') w w' := by
  obtain ⟨W1, hW1⟩ : ∃ W, w.alloc (.cells #[.int .i64 0, .int .u64 0] 36 (0, 0)) = W := ⟨_, rfl⟩
  have F1 : Hid (Fr (fun _ _ => True) w W1) := hW1 ▸ (Fr.refl _ _).alloc _
  have X1 : Hid (W1.heap[w.heap.size]? = some (.cells #[.int .i64 0, .int .u64 0] 36 (0, 0))) := hW1 ▸ heap_alloc_new w _
  have DC := Lib.hid (dec_calls W1 v b (hb.tt F1.out) hm)
  rw [hd] at DC
  unfold vC at DC
  dsimp only at DC
  have heI : ((e0 : Int) != 0) = true := by simp; omega
  clear he
  have H := Lib.hid h
  have HN := Lib.hid hn
  have HSZ : Hid (w.heap.size < W1.heap.size) := lt_of_some X1.out
  clear h hn hd hb hm
  go_enter Tryz.func10, Tryz.ntmps10
  go_wp2_with fail
  (with_reducible refine DC.out.mono ?_)
  rintro e w2 ⟨rfl, f2⟩
  have F2 := Lib.hid (F1.out.trans f2)
  have X2 : Hid (w2.heap[w.heap.size]? = some (.cells #[.int .i64 0, .int .u64 0] 36 (0, 0))) := f2.keep _ _ X1.out trivial
  clear f2 DC
  obtain ⟨W3, hW3⟩ : ∃ W, w2.alloc (.cells #[.int .i64 C.op, .int .i64 C.cl, .int .u32 (C.sq : Nat), .int .i64 C.rg, .int .i64 C.md, .int .u64 (C.tk : Nat), .int .u64 (C.tm : Nat)] 33 (0, 0)) = W := ⟨_, rfl⟩
  have F3 : Hid (Fr (fun _ _ => True) w2 W3) := hW3 ▸ (Fr.refl _ _).alloc _
  have XR : Hid (W3.heap[w.heap.size]? = some (.cells #[.int .i64 0, .int .u64 0] 36 (0, 0))) := F3.out.keep _ _ X2.out trivial
  have FA : Hid (Fr (fun _ _ => True) w W3) := F2.out.trans F3.out
  have q0 := cell_mk (i := 0) XR.out rfl
  have q1 := cell_mk (i := 1) XR.out rfl
  have y0 := frozen_mk (i := 0) XR.out
  have y1 := frozen_mk (i := 1) XR.out
  obtain ⟨WZ, hWZ, TZ, FZ⟩ := set2 XR.out (.int .i64 1) (.int .u64 0)
  have p0 := cell_mk (i := 0) TZ rfl
  have p1 := cell_mk (i := 1) TZ rfl
  have FZH := Lib.hid FZ
  clear TZ FZ
  go_wp2
  try rw [hWZ]
  refine bodyPost_ret (v := .agg #[.int .i64 1, .int .u64 0]) (by simp [results, Tryz.results10, go_sem, *]) rfl ⟨rfl, P, Q, ?_⟩
  try rw [hWZ]
  exact SV.end2 (H.out.fr FA.out) (Kp.rfl' _ FA.out) FZH.out XR.out HN.out (Nat.le_refl _) (by decide)
set_option maxRecDepth 100000 in
set_option maxHeartbeats 2000000 in
theorem ap_tick {n : Nat} {P Q : Nat → Prop} {K : Nat → Obj → Prop} (w : World) (bs b1 b2 : Nat) (M : MT) (L : Lk) (v : Value) (b : List UInt8) (h : SV n P Q w bs b1 b2 M L) (hn : n ≤ w.heap.size) (hb : BytesAt K w v b) (hm : b.length ≤ 1000000) (cl sq rg md tk tm : Nat) (ht : tm ≤ topM) (hd : decM b = (⟨7, (cl : Nat), sq, (rg : Nat), (md : Nat), tk, tm⟩, 0)) :
    Calls Tryz.prog 10 #[.pointer (some ⟨bs, 0, none⟩), v] w fun e w' => e = .returned (vR ⟨0, (timeM L tm).now⟩) ∧ ∃ P' Q', SV n P' Q' w' bs b1 b2 M (timeM L tm) ∧ Kp (U P Q) (U P' Q') w w' := by
  obtain ⟨W1, hW1⟩ : ∃ W, w.alloc (.cells #[.int .i64 0, .int .u64 0] 36 (0, 0)) = W := ⟨_, rfl⟩
  have F1 : Hid (Fr (fun _ _ => True) w W1) := hW1 ▸ (Fr.refl _ _).alloc _
  have X1 : Hid (W1.heap[w.heap.size]? = some (.cells #[.int .i64 0, .int .u64 0] 36 (0, 0))) := hW1 ▸ heap_alloc_new w _
  have DC := Lib.hid (dec_calls W1 v b (hb.tt F1.out) hm)
  rw [hd] at DC
  unfold vC at DC
  dsimp only at DC
  have H := Lib.hid h
  have HN := Lib.hid hn
  have HSZ : Hid (w.heap.size < W1.heap.size) := lt_of_some X1.out
  have HT := Lib.hid ht
  clear ht h hn hd hb hm
  go_enter Tryz.func10, Tryz.ntmps10
  go_wp2_with fail
  (with_reducible refine DC.out.mono ?_)
  rintro e w2 ⟨rfl, f2⟩
  have F2 := Lib.hid (F1.out.trans f2)
  have X2 : Hid (w2.heap[w.heap.size]? = some (.cells #[.int .i64 0, .int .u64 0] 36 (0, 0))) := f2.keep _ _ X1.out trivial
  clear f2 DC
  obtain ⟨W3, hW3⟩ : ∃ W, w2.alloc (.cells #[.int .i64 7, .int .i64 (cl : Nat), .int .u32 (sq : Nat), .int .i64 (rg : Nat), .int .i64 (md : Nat), .int .u64 (tk : Nat), .int .u64 (tm : Nat)] 33 (0, 0)) = W := ⟨_, rfl⟩
  have F3 : Hid (Fr (fun _ _ => True) w2 W3) := hW3 ▸ (Fr.refl _ _).alloc _
  have X3 : Hid (W3.heap[w2.heap.size]? = some (.cells #[.int .i64 7, .int .i64 (cl : Nat), .int .u32 (sq : Nat), .int .i64 (rg : Nat), .int .i64 (md : Nat), .int .u64 (tk : Nat), .int .u64 (tm : Nat)] 33 (0, 0))) := hW3 ▸ heap_alloc_new w2 _
  have XR : Hid (W3.heap[w.heap.size]? = some (.cells #[.int .i64 0, .int .u64 0] 36 (0, 0))) := F3.out.keep _ _ X2.out trivial
  have c0 := cell_mk (i := 0) X3.out rfl
  have FA : Hid (Fr (fun _ _ => True) w W3) := F2.out.trans F3.out
  have SA := Lib.hid (H.out.fr FA.out)
  have U0 : Hid (Fr (fun _ _ => True) W3 W3.drew) := (Fr.refl _ _).drew
  have HNA : Hid (n ≤ W3.heap.size) := Nat.le_trans HN.out FA.out.size
  have NB : Hid (¬ P w2.heap.size ∧ ¬ Q w2.heap.size ∧ ¬ P w.heap.size ∧ ¬ Q w.heap.size ∧ ¬ P bs ∧ ¬ Q bs) := ⟨SA.out.lk.out X3.out (kp_cells (by decide) (by decide)), SA.out.se.out X3.out (qk_cells (by decide) (by decide)), SA.out.lk.out XR.out (kp_cells (by decide) (by decide)), SA.out.se.out XR.out (qk_cells (by decide) (by decide)), SA.out.lk.out SA.out.st (kp_cells (by decide) (by decide)), SA.out.se.out SA.out.st (qk_cells (by decide) (by decide))⟩
  go_upto_region 6 with fail
  try rw [hW3]
  clear c0
  have CC : Hid (∀ W, Fr (fun k _ => ¬ P k) W3 W → W.cell? ⟨bs, 1, none⟩ = some (.pointer (some ⟨b2, 0, none⟩)) ∧ W.cell? ⟨w2.heap.size, 6, none⟩ = some (.int .u64 (tm : Nat))) := fun W f => ⟨cell_mk (f.keep _ _ SA.out.st NB.out.2.2.2.2.1) rfl, cell_mk (f.keep _ _ X3.out NB.out.1) rfl⟩
  have TC := Lib.hid (fun W (f : Fr (fun _ _ => True) W3 W) => time_calls (n := n) W b2 tm L (SA.out.lk.tt f) HT.out (Nat.le_trans HNA.out f.size))
  clear hW3
  go_region_held3 (fun W => W.cell? ⟨bs, 1, none⟩ = some (.pointer (some ⟨b2, 0, none⟩)) ∧ W.cell? ⟨w2.heap.size, 6, none⟩ = some (.int .u64 (tm : Nat)))
    (first | exact CC.out _ (U0.out.mono fun _ _ _ => trivial) | exact CC.out _ HK9.out.fr)
    ((go_at_call 26; go_must ((with_reducible refine (TC.out _ ?cf).mono ?_); (case cf => exact U0.out); rintro e w9 ⟨rfl, P9, T9, K9⟩; have HT9 := Lib.hid T9; have HK9 := Lib.hid ((Kp.rfl' P U0.out).trans K9); clear T9 K9)))
  have S9 := Lib.hid (SA.out.lock HT9.out HK9.out)
  have e9 := cell_mk (i := 1) S9.out.st rfl
  have NC := Lib.hid (now_calls w9 b2 _ S9.out.lk)
  have X9 : Hid (w9.heap[w.heap.size]? = some (.cells #[.int .i64 0, .int .u64 0] 36 (0, 0))) := HK9.out.fr.keep _ _ XR.out NB.out.2.2.1
  obtain ⟨TN, hTN⟩ : ∃ t, (timeM L tm).now = t := ⟨_, rfl⟩
  rw [hTN] at NC
  have HTN := Lib.hid hTN
  clear hTN
  go_wp2_with fail
  (with_reducible refine NC.out.mono ?_)
  rintro e w10 ⟨rfl, rfl⟩
  have q0 := cell_mk (i := 0) X9.out rfl
  have q1 := cell_mk (i := 1) X9.out rfl
  have y0 := frozen_mk (i := 0) X9.out
  have y1 := frozen_mk (i := 1) X9.out
  obtain ⟨WZ, hWZ, TZ, FZ⟩ := set2 X9.out (.int .i64 0) (.int .u64 (TN : Nat))
  have p0 := cell_mk (i := 0) TZ rfl
  have p1 := cell_mk (i := 1) TZ rfl
  have FZH := Lib.hid FZ
  clear TZ FZ
  clear NC e9
  go_wp2
  try rw [hWZ]
  refine bodyPost_ret (v := .agg #[.int .i64 0, .int .u64 (TN : Nat)]) (by simp [results, Tryz.results10, go_sem, *]) rfl ⟨by rw [HTN.out]; rfl, P9, Q, ?_⟩
  try rw [hWZ]
  exact SV.end2 (S9.out) ((Kp.rfl' (U P Q) FA.out).trans (SA.out.kpl HK9.out)) FZH.out X9.out HN.out (Nat.le_refl _) (by decide)
set_option maxRecDepth 100000 in
set_option maxHeartbeats 2000000 in
theorem ap_open {n : Nat} {P Q : Nat → Prop} {K : Nat → Obj → Prop} (w : World) (bs b1 b2 : Nat) (M : MT) (L : Lk) (v : Value) (b : List UInt8) (h : SV n P Q w bs b1 b2 M L) (hn : n ≤ w.heap.size) (hb : BytesAt K w v b) (hm : b.length ≤ 1000000) (cl sq rg md tk tm : Nat) (hd : decM b = (⟨1, (cl : Nat), sq, (rg : Nat), (md : Nat), tk, tm⟩, 0)) (k : Nat) (M' : MT) (ho : openM M (cl : Nat) = (((k : Nat) : Int), M')) :
    Calls Tryz.prog 10 #[.pointer (some ⟨bs, 0, none⟩), v] w fun e w' => e = .returned (vR ⟨k, 0⟩) ∧ ∃ P' Q', SV n P' Q' w' bs b1 b2 M' L ∧ Kp (U P Q) (U P' Q') w w' := by
  obtain ⟨W1, hW1⟩ : ∃ W, w.alloc (.cells #[.int .i64 0, .int .u64 0] 36 (0, 0)) = W := ⟨_, rfl⟩
  have F1 : Hid (Fr (fun _ _ => True) w W1) := hW1 ▸ (Fr.refl _ _).alloc _
  have X1 : Hid (W1.heap[w.heap.size]? = some (.cells #[.int .i64 0, .int .u64 0] 36 (0, 0))) := hW1 ▸ heap_alloc_new w _
  have DC := Lib.hid (dec_calls W1 v b (hb.tt F1.out) hm)
  rw [hd] at DC
  unfold vC at DC
  dsimp only at DC
  have H := Lib.hid h
  have HN := Lib.hid hn
  have HSZ : Hid (w.heap.size < W1.heap.size) := lt_of_some X1.out
  have HO := Lib.hid ho
  clear ho h hn hd hb hm
  go_enter Tryz.func10, Tryz.ntmps10
  go_wp2_with fail
  (with_reducible refine DC.out.mono ?_)
  rintro e w2 ⟨rfl, f2⟩
  have F2 := Lib.hid (F1.out.trans f2)
  have X2 : Hid (w2.heap[w.heap.size]? = some (.cells #[.int .i64 0, .int .u64 0] 36 (0, 0))) := f2.keep _ _ X1.out trivial
  clear f2 DC
  obtain ⟨W3, hW3⟩ : ∃ W, w2.alloc (.cells #[.int .i64 1, .int .i64 (cl : Nat), .int .u32 (sq : Nat), .int .i64 (rg : Nat), .int .i64 (md : Nat), .int .u64 (tk : Nat), .int .u64 (tm : Nat)] 33 (0, 0)) = W := ⟨_, rfl⟩
  have F3 : Hid (Fr (fun _ _ => True) w2 W3) := hW3 ▸ (Fr.refl _ _).alloc _
  have X3 : Hid (W3.heap[w2.heap.size]? = some (.cells #[.int .i64 1, .int .i64 (cl : Nat), .int .u32 (sq : Nat), .int .i64 (rg : Nat), .int .i64 (md : Nat), .int .u64 (tk : Nat), .int .u64 (tm : Nat)] 33 (0, 0))) := hW3 ▸ heap_alloc_new w2 _
  have XR : Hid (W3.heap[w.heap.size]? = some (.cells #[.int .i64 0, .int .u64 0] 36 (0, 0))) := F3.out.keep _ _ X2.out trivial
  have c0 := cell_mk (i := 0) X3.out rfl
  have FA : Hid (Fr (fun _ _ => True) w W3) := F2.out.trans F3.out
  have SA := Lib.hid (H.out.fr FA.out)
  have U0 : Hid (Fr (fun _ _ => True) W3 W3.drew) := (Fr.refl _ _).drew
  have HNA : Hid (n ≤ W3.heap.size) := Nat.le_trans HN.out FA.out.size
  have NB : Hid (¬ P w2.heap.size ∧ ¬ Q w2.heap.size ∧ ¬ P w.heap.size ∧ ¬ Q w.heap.size ∧ ¬ P bs ∧ ¬ Q bs) := ⟨SA.out.lk.out X3.out (kp_cells (by decide) (by decide)), SA.out.se.out X3.out (qk_cells (by decide) (by decide)), SA.out.lk.out XR.out (kp_cells (by decide) (by decide)), SA.out.se.out XR.out (qk_cells (by decide) (by decide)), SA.out.lk.out SA.out.st (kp_cells (by decide) (by decide)), SA.out.se.out SA.out.st (qk_cells (by decide) (by decide))⟩
  go_upto_region 9 with fail
  try rw [hW3]
  clear c0
  have CC : Hid (∀ W, Fr (fun k _ => ¬ Q k ∧ k ≠ w.heap.size) W3 W → W.cell? ⟨bs, 0, none⟩ = some (.pointer (some ⟨b1, 0, none⟩)) ∧ W.cell? ⟨w2.heap.size, 1, none⟩ = some (.int .i64 (cl : Nat))) := fun W f => by
    have t1 := f.keep _ _ SA.out.st ⟨NB.out.2.2.2.2.2, fun e => by have h1 := SA.out.st; rw [e, XR.out] at h1; simp at h1⟩
    have t2 := f.keep _ _ X3.out ⟨NB.out.2.1, fun e => by have h1 := X3.out; rw [e, XR.out] at h1; simp at h1⟩
    exact ⟨cell_mk t1 rfl, cell_mk t2 rfl⟩
  have OC := Lib.hid (fun W (f : Fr (fun _ _ => True) W3 W) => open_to W b1 M (cl : Nat) (SA.out.se.fr f) (Nat.le_trans HNA.out f.size) (k : Nat) M' HO.out)
  clear hW3
  go_region_held3 (fun W => W.cell? ⟨bs, 0, none⟩ = some (.pointer (some ⟨b1, 0, none⟩)) ∧ W.cell? ⟨w2.heap.size, 1, none⟩ = some (.int .i64 (cl : Nat)))
    (first | exact CC.out _ (U0.out.mono fun _ _ _ => trivial) | exact CC.out _ (HK9.out.fr.mono fun _ _ h => h.1) | exact CC.out _ (((HK9.out.fr.mono fun _ _ h => h.1).setCell (fun _ _ h => h.2 rfl) _).setCell (fun _ _ h => h.2 rfl) _))
    ((go_at_call 28; go_must ((with_reducible refine (OC.out _ ?cf).mono ?_); (case cf => exact U0.out); rintro e w9 ⟨rfl, Q9, T9, K9⟩; have HT9 := Lib.hid T9; have HK9 := Lib.hid ((Kp.rfl' Q U0.out).trans K9); have X9 : Hid (w9.heap[w.heap.size]? = some (.cells #[.int .i64 0, .int .u64 0] 36 (0, 0))) := HK9.out.fr.keep _ _ XR.out NB.out.2.2.2.1; have q0 := cell_mk (i := 0) X9.out rfl; have q1 := cell_mk (i := 1) X9.out rfl; have y0 := frozen_mk (i := 0) X9.out; have y1 := frozen_mk (i := 1) X9.out; clear T9 K9)))
  have S9 := Lib.hid (SA.out.sess HT9.out HK9.out)
  clear q0 q1 y0 y1
  obtain ⟨WZ, hWZ, TZ, FZ⟩ := set2 X9.out (.int .i64 (k : Nat)) (.int .u64 0)
  have p0 := cell_mk (i := 0) TZ rfl
  have p1 := cell_mk (i := 1) TZ rfl
  have FZH := Lib.hid FZ
  clear TZ FZ
  go_wp2
  try rw [hWZ]
  refine bodyPost_ret (v := .agg #[.int .i64 (k : Nat), .int .u64 0]) (by simp [results, Tryz.results10, go_sem, *]) rfl ⟨rfl, P, Q9, ?_⟩
  try rw [hWZ]
  exact SV.end2 (S9.out) ((Kp.rfl' (U P Q) FA.out).trans (SA.out.kpr HK9.out)) FZH.out X9.out HN.out (Nat.le_refl _) (by decide)
end Go.Proofs.YtlolfcnfcgegdaaGreat
