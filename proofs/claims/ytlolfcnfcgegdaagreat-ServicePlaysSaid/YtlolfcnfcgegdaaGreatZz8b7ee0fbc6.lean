/- Texts of the proofs, part 22: what the functions that they reach do, walked; no conditions beyond those that each states. -/
import Derived.Test.YtlolfcnfcgegdaaGreatZzb07099b3b4
set_option linter.unusedVariables false
set_option linter.unusedSimpArgs false
/- The service: Apply, of closes, of what is done once (printed by apply20.py). -/
namespace Go.Proofs.YtlolfcnfcgegdaaGreat
open Go.RowKit
set_option linter.unusedVariables false
set_option linter.unusedSimpArgs false

set_option maxRecDepth 100000 in
set_option maxHeartbeats 2000000 in
theorem ap_shut_no {n : Nat} {P Q : Nat → Prop} {K : Nat → Obj → Prop} (w : World) (bs b1 b2 : Nat) (M : MT) (L : Lk) (v : Value) (b : List UInt8) (h : SV n P Q w bs b1 b2 M L) (hn : n ≤ w.heap.size) (hb : BytesAt K w v b) (hm : b.length ≤ 1000000) (cl sq rg md tk tm : Nat) (hd : decM b = (⟨2, (cl : Nat), sq, (rg : Nat), (md : Nat), tk, tm⟩, 0)) (k : Nat) (M' : MT) (ho : closeM M (cl : Nat) = (((k : Nat) : Int), M')) (hk : k ≠ 0) :
    Calls Tryz.prog 10 #[.pointer (some ⟨bs, 0, none⟩), v] w fun e w' => e = .returned (vR ⟨k, 0⟩) ∧ ∃ P' Q', SV n P' Q' w' bs b1 b2 M' L ∧ Kp (U P Q) (U P' Q') w w' := by
  obtain ⟨W1, hW1⟩ : ∃ W, w.alloc (.cells #[.int .i64 0, .int .u64 0] 36 (0, 0)) = W := ⟨_, rfl⟩
  have F1 : Hid (Fr (fun _ _ => True) w W1) := hW1 ▸ (Fr.refl _ _).alloc _
  have X1 : Hid (W1.heap[w.heap.size]? = some (.cells #[.int .i64 0, .int .u64 0] 36 (0, 0))) := hW1 ▸ heap_alloc_new w _
  have DC := Lib.hid (dec_calls W1 v b (hb.tt F1.out) hm)
  rw [hd] at DC
  unfold vC at DC
  dsimp only at DC
  have H := Lib.hid h
  have HN := Lib.hid hn
  have HSZ : Hid (w.heap.size < W1.heap.size) := lt_of_some X1.out
  have HO := Lib.hid ho
  have hkI : ((k : Int) == 0) = false := by simp; omega
  clear ho hk h hn hd hb hm
  go_enter Tryz.func10, Tryz.ntmps10
  go_wp2_with fail
  (with_reducible refine DC.out.mono ?_)
  rintro e w2 ⟨rfl, f2⟩
  have F2 := Lib.hid (F1.out.trans f2)
  have X2 : Hid (w2.heap[w.heap.size]? = some (.cells #[.int .i64 0, .int .u64 0] 36 (0, 0))) := f2.keep _ _ X1.out trivial
  clear f2 DC
  obtain ⟨W3, hW3⟩ : ∃ W, w2.alloc (.cells #[.int .i64 2, .int .i64 (cl : Nat), .int .u32 (sq : Nat), .int .i64 (rg : Nat), .int .i64 (md : Nat), .int .u64 (tk : Nat), .int .u64 (tm : Nat)] 33 (0, 0)) = W := ⟨_, rfl⟩
  have F3 : Hid (Fr (fun _ _ => True) w2 W3) := hW3 ▸ (Fr.refl _ _).alloc _
  have X3 : Hid (W3.heap[w2.heap.size]? = some (.cells #[.int .i64 2, .int .i64 (cl : Nat), .int .u32 (sq : Nat), .int .i64 (rg : Nat), .int .i64 (md : Nat), .int .u64 (tk : Nat), .int .u64 (tm : Nat)] 33 (0, 0))) := hW3 ▸ heap_alloc_new w2 _
  have XR : Hid (W3.heap[w.heap.size]? = some (.cells #[.int .i64 0, .int .u64 0] 36 (0, 0))) := F3.out.keep _ _ X2.out trivial
  have c0 := cell_mk (i := 0) X3.out rfl
  have FA : Hid (Fr (fun _ _ => True) w W3) := F2.out.trans F3.out
  have SA := Lib.hid (H.out.fr FA.out)
  have U0 : Hid (Fr (fun _ _ => True) W3 W3.drew) := (Fr.refl _ _).drew
  have HNA : Hid (n ≤ W3.heap.size) := Nat.le_trans HN.out FA.out.size
  have NB : Hid (¬ P w2.heap.size ∧ ¬ Q w2.heap.size ∧ ¬ P w.heap.size ∧ ¬ Q w.heap.size ∧ ¬ P bs ∧ ¬ Q bs) := ⟨SA.out.lk.out X3.out (kp_cells (by decide) (by decide)), SA.out.se.out X3.out (qk_cells (by decide) (by decide)), SA.out.lk.out XR.out (kp_cells (by decide) (by decide)), SA.out.se.out XR.out (qk_cells (by decide) (by decide)), SA.out.lk.out SA.out.st (kp_cells (by decide) (by decide)), SA.out.se.out SA.out.st (qk_cells (by decide) (by decide))⟩
  go_upto_region 11 with fail
  try rw [hW3]
  clear c0
  have CC : Hid (∀ W, Fr (fun k _ => ¬ Q k) W3 W → W.cell? ⟨bs, 0, none⟩ = some (.pointer (some ⟨b1, 0, none⟩)) ∧ W.cell? ⟨w2.heap.size, 1, none⟩ = some (.int .i64 (cl : Nat))) := fun W f => ⟨cell_mk (f.keep _ _ SA.out.st NB.out.2.2.2.2.2) rfl, cell_mk (f.keep _ _ X3.out NB.out.2.1) rfl⟩
  have OC := Lib.hid (fun W (f : Fr (fun _ _ => True) W3 W) => close_to W b1 M (cl : Nat) (SA.out.se.fr f) (k : Nat) M' HO.out)
  clear hW3
  go_region_held3 (fun W => W.cell? ⟨bs, 0, none⟩ = some (.pointer (some ⟨b1, 0, none⟩)) ∧ W.cell? ⟨w2.heap.size, 1, none⟩ = some (.int .i64 (cl : Nat)))
    (first | exact CC.out _ (U0.out.mono fun _ _ _ => trivial) | exact CC.out _ HK9.out.fr)
    ((go_at_call 29; go_must ((with_reducible refine (OC.out _ ?cf).mono ?_); (case cf => exact U0.out); rintro e w9 ⟨rfl, Q9, T9, K9⟩; have HT9 := Lib.hid T9; have HK9 := Lib.hid ((Kp.rfl' Q U0.out).trans K9); clear T9 K9)))
  have S9 := Lib.hid (SA.out.sess HT9.out HK9.out)
  have X9 : Hid (w9.heap[w.heap.size]? = some (.cells #[.int .i64 0, .int .u64 0] 36 (0, 0))) := HK9.out.fr.keep _ _ XR.out NB.out.2.2.2.1
  have q0 := cell_mk (i := 0) X9.out rfl
  have q1 := cell_mk (i := 1) X9.out rfl
  have y0 := frozen_mk (i := 0) X9.out
  have y1 := frozen_mk (i := 1) X9.out
  obtain ⟨WZ, hWZ, TZ, FZ⟩ := set2 X9.out (.int .i64 (k : Nat)) (.int .u64 0)
  have p0 := cell_mk (i := 0) TZ rfl
  have p1 := cell_mk (i := 1) TZ rfl
  have FZH := Lib.hid FZ
  clear TZ FZ
  go_wp2
  try rw [hWZ]
  refine bodyPost_ret (v := .agg #[.int .i64 (k : Nat), .int .u64 0]) (by simp [results, Tryz.results10, go_sem, *]) rfl ⟨rfl, P, Q9, ?_⟩
  try rw [hWZ]
  exact SV.end2 (S9.out) ((Kp.rfl' (U P Q) FA.out).trans (SA.out.kpr HK9.out)) FZH.out X9.out HN.out (Nat.le_refl _) (by decide)
set_option maxRecDepth 100000 in
set_option maxHeartbeats 2000000 in
theorem ap_shut_yes {n : Nat} {P Q : Nat → Prop} {K : Nat → Obj → Prop} (w : World) (bs b1 b2 : Nat) (M : MT) (L : Lk) (v : Value) (b : List UInt8) (h : SV n P Q w bs b1 b2 M L) (hn : n ≤ w.heap.size) (hb : BytesAt K w v b) (hm : b.length ≤ 1000000) (cl sq rg md tk tm : Nat) (hd : decM b = (⟨2, (cl : Nat), sq, (rg : Nat), (md : Nat), tk, tm⟩, 0)) (M' : MT) (ho : closeM M (cl : Nat) = (((0 : Nat) : Int), M')) :
    Calls Tryz.prog 10 #[.pointer (some ⟨bs, 0, none⟩), v] w fun e w' => e = .returned (vR ⟨0, 0⟩) ∧ ∃ P' Q', SV n P' Q' w' bs b1 b2 M' (leaveM L cl) ∧ Kp (U P Q) (U P' Q') w w' := by
  obtain ⟨W1, hW1⟩ : ∃ W, w.alloc (.cells #[.int .i64 0, .int .u64 0] 36 (0, 0)) = W := ⟨_, rfl⟩
  have F1 : Hid (Fr (fun _ _ => True) w W1) := hW1 ▸ (Fr.refl _ _).alloc _
  have X1 : Hid (W1.heap[w.heap.size]? = some (.cells #[.int .i64 0, .int .u64 0] 36 (0, 0))) := hW1 ▸ heap_alloc_new w _
  have DC := Lib.hid (dec_calls W1 v b (hb.tt F1.out) hm)
  rw [hd] at DC
  unfold vC at DC
  dsimp only at DC
  have H := Lib.hid h
  have HN := Lib.hid hn
  have HSZ : Hid (w.heap.size < W1.heap.size) := lt_of_some X1.out
  have HO := Lib.hid ho
  clear ho h hn hd hb hm
  go_enter Tryz.func10, Tryz.ntmps10
  go_wp2_with fail
  (with_reducible refine DC.out.mono ?_)
  rintro e w2 ⟨rfl, f2⟩
  have F2 := Lib.hid (F1.out.trans f2)
  have X2 : Hid (w2.heap[w.heap.size]? = some (.cells #[.int .i64 0, .int .u64 0] 36 (0, 0))) := f2.keep _ _ X1.out trivial
  clear f2 DC
  obtain ⟨W3, hW3⟩ : ∃ W, w2.alloc (.cells #[.int .i64 2, .int .i64 (cl : Nat), .int .u32 (sq : Nat), .int .i64 (rg : Nat), .int .i64 (md : Nat), .int .u64 (tk : Nat), .int .u64 (tm : Nat)] 33 (0, 0)) = W := ⟨_, rfl⟩
  have F3 : Hid (Fr (fun _ _ => True) w2 W3) := hW3 ▸ (Fr.refl _ _).alloc _
  have X3 : Hid (W3.heap[w2.heap.size]? = some (.cells #[.int .i64 2, .int .i64 (cl : Nat), .int .u32 (sq : Nat), .int .i64 (rg : Nat), .int .i64 (md : Nat), .int .u64 (tk : Nat), .int .u64 (tm : Nat)] 33 (0, 0))) := hW3 ▸ heap_alloc_new w2 _
  have XR : Hid (W3.heap[w.heap.size]? = some (.cells #[.int .i64 0, .int .u64 0] 36 (0, 0))) := F3.out.keep _ _ X2.out trivial
  have c0 := cell_mk (i := 0) X3.out rfl
  have FA : Hid (Fr (fun _ _ => True) w W3) := F2.out.trans F3.out
  have SA := Lib.hid (H.out.fr FA.out)
  have U0 : Hid (Fr (fun _ _ => True) W3 W3.drew) := (Fr.refl _ _).drew
  have HNA : Hid (n ≤ W3.heap.size) := Nat.le_trans HN.out FA.out.size
  have NB : Hid (¬ P w2.heap.size ∧ ¬ Q w2.heap.size ∧ ¬ P w.heap.size ∧ ¬ Q w.heap.size ∧ ¬ P bs ∧ ¬ Q bs) := ⟨SA.out.lk.out X3.out (kp_cells (by decide) (by decide)), SA.out.se.out X3.out (qk_cells (by decide) (by decide)), SA.out.lk.out XR.out (kp_cells (by decide) (by decide)), SA.out.se.out XR.out (qk_cells (by decide) (by decide)), SA.out.lk.out SA.out.st (kp_cells (by decide) (by decide)), SA.out.se.out SA.out.st (qk_cells (by decide) (by decide))⟩
  go_upto_region 11 with fail
  try rw [hW3]
  clear c0
  have CC : Hid (∀ W, Fr (fun k _ => ¬ Q k) W3 W → W.cell? ⟨bs, 0, none⟩ = some (.pointer (some ⟨b1, 0, none⟩)) ∧ W.cell? ⟨w2.heap.size, 1, none⟩ = some (.int .i64 (cl : Nat))) := fun W f => ⟨cell_mk (f.keep _ _ SA.out.st NB.out.2.2.2.2.2) rfl, cell_mk (f.keep _ _ X3.out NB.out.2.1) rfl⟩
  have OC := Lib.hid (fun W (f : Fr (fun _ _ => True) W3 W) => close_to W b1 M (cl : Nat) (SA.out.se.fr f) ((0 : Nat) : Int) M' HO.out)
  clear hW3
  go_region_held3 (fun W => W.cell? ⟨bs, 0, none⟩ = some (.pointer (some ⟨b1, 0, none⟩)) ∧ W.cell? ⟨w2.heap.size, 1, none⟩ = some (.int .i64 (cl : Nat)))
    (first | exact CC.out _ (U0.out.mono fun _ _ _ => trivial) | exact CC.out _ HK9.out.fr)
    ((go_at_call 29; go_must ((with_reducible refine (OC.out _ ?cf).mono ?_); (case cf => exact U0.out); rintro e w9 ⟨rfl, Q9, T9, K9⟩; have HT9 := Lib.hid T9; have HK9 := Lib.hid ((Kp.rfl' Q U0.out).trans K9); clear T9 K9)))
  have S9 := Lib.hid (SA.out.sess HT9.out HK9.out)
  have X9 : Hid (w9.heap[w.heap.size]? = some (.cells #[.int .i64 0, .int .u64 0] 36 (0, 0))) := HK9.out.fr.keep _ _ XR.out NB.out.2.2.2.1
  have XB : Hid (w9.heap[w2.heap.size]? = some (.cells #[.int .i64 2, .int .i64 (cl : Nat), .int .u32 (sq : Nat), .int .i64 (rg : Nat), .int .i64 (md : Nat), .int .u64 (tk : Nat), .int .u64 (tm : Nat)] 33 (0, 0))) := HK9.out.fr.keep _ _ X3.out NB.out.2.1
  have c1 := cell_mk (i := 1) XB.out rfl
  have LC := Lib.hid (leave_calls (n := n) w9 bs b1 b2 cl _ _ S9.out (Nat.le_trans HNA.out HK9.out.fr.size))
  go_wp2_with fail
  (with_reducible refine LC.out.mono ?_)
  rintro e w10 ⟨rfl, P10, S10, K10⟩
  have HS10 := Lib.hid S10
  have HK10 := Lib.hid K10
  have X10 : Hid (w10.heap[w.heap.size]? = some (.cells #[.int .i64 0, .int .u64 0] 36 (0, 0))) := K10.fr.keep _ _ X9.out NB.out.2.2.1
  clear S10 K10 LC c1
  have q0 := cell_mk (i := 0) X10.out rfl
  have q1 := cell_mk (i := 1) X10.out rfl
  have y0 := frozen_mk (i := 0) X10.out
  have y1 := frozen_mk (i := 1) X10.out
  obtain ⟨WZ, hWZ, TZ, FZ⟩ := set2 X10.out (.int .i64 0) (.int .u64 0)
  have p0 := cell_mk (i := 0) TZ rfl
  have p1 := cell_mk (i := 1) TZ rfl
  have FZH := Lib.hid FZ
  clear TZ FZ
  go_wp2
  try rw [hWZ]
  refine bodyPost_ret (v := .agg #[.int .i64 0, .int .u64 0]) (by simp [results, Tryz.results10, go_sem, *]) rfl ⟨rfl, P10, Q9, ?_⟩
  try rw [hWZ]
  exact SV.end2 (HS10.out) (((Kp.rfl' (U P Q) FA.out).trans (SA.out.kpr HK9.out)).trans (S9.out.kpl HK10.out)) FZH.out X10.out HN.out (Nat.le_refl _) (by decide)
set_option maxRecDepth 100000 in
set_option maxHeartbeats 2000000 in
theorem ap_once {n : Nat} {P Q : Nat → Prop} {K : Nat → Obj → Prop} (w : World) (bs b1 b2 : Nat) (M : MT) (L : Lk) (v : Value) (b : List UInt8) (h : SV n P Q w bs b1 b2 M L) (hn : n ≤ w.heap.size) (hb : BytesAt K w v b) (hm : b.length ≤ 1000000) (op cl sq rg md tk tm : Nat) (hd : decM b = (⟨(op : Nat), (cl : Nat), sq, (rg : Nat), (md : Nat), tk, tm⟩, 0)) (ho : op = 3 ∨ op = 4 ∨ op = 5 ∨ op = 6) (hsq : sq < 4294967296) :
    Calls Tryz.prog 10 #[.pointer (some ⟨bs, 0, none⟩), v] w fun e w' => e = .returned (vR (onceM M L ⟨op, cl, sq, rg, md, tk, tm⟩).1) ∧ ∃ P' Q', SV n P' Q' w' bs b1 b2 (onceM M L ⟨op, cl, sq, rg, md, tk, tm⟩).2.1 (onceM M L ⟨op, cl, sq, rg, md, tk, tm⟩).2.2 ∧ Kp (U P Q) (U P' Q') w w' := by
  obtain ⟨W1, hW1⟩ : ∃ W, w.alloc (.cells #[.int .i64 0, .int .u64 0] 36 (0, 0)) = W := ⟨_, rfl⟩
  have F1 : Hid (Fr (fun _ _ => True) w W1) := hW1 ▸ (Fr.refl _ _).alloc _
  have X1 : Hid (W1.heap[w.heap.size]? = some (.cells #[.int .i64 0, .int .u64 0] 36 (0, 0))) := hW1 ▸ heap_alloc_new w _
  have DC := Lib.hid (dec_calls W1 v b (hb.tt F1.out) hm)
  rw [hd] at DC
  unfold vC at DC
  dsimp only at DC
  have H := Lib.hid h
  have HN := Lib.hid hn
  have HSZ : Hid (w.heap.size < W1.heap.size) := lt_of_some X1.out
  have HO := Lib.hid ho
  have HSQ := Lib.hid hsq
  have o7 : ((op : Int) == 7) = false := by simp; omega
  have o1 : ((op : Int) == 1) = false := by simp; omega
  have o2 : ((op : Int) == 2) = false := by simp; omega
  clear ho hsq h hn hd hb hm
  go_enter Tryz.func10, Tryz.ntmps10
  go_wp2_with fail
  (with_reducible refine DC.out.mono ?_)
  rintro e w2 ⟨rfl, f2⟩
  have F2 := Lib.hid (F1.out.trans f2)
  have X2 : Hid (w2.heap[w.heap.size]? = some (.cells #[.int .i64 0, .int .u64 0] 36 (0, 0))) := f2.keep _ _ X1.out trivial
  clear f2 DC
  obtain ⟨W3, hW3⟩ : ∃ W, w2.alloc (.cells #[.int .i64 (op : Nat), .int .i64 (cl : Nat), .int .u32 (sq : Nat), .int .i64 (rg : Nat), .int .i64 (md : Nat), .int .u64 (tk : Nat), .int .u64 (tm : Nat)] 33 (0, 0)) = W := ⟨_, rfl⟩
  have F3 : Hid (Fr (fun _ _ => True) w2 W3) := hW3 ▸ (Fr.refl _ _).alloc _
  have X3 : Hid (W3.heap[w2.heap.size]? = some (.cells #[.int .i64 (op : Nat), .int .i64 (cl : Nat), .int .u32 (sq : Nat), .int .i64 (rg : Nat), .int .i64 (md : Nat), .int .u64 (tk : Nat), .int .u64 (tm : Nat)] 33 (0, 0))) := hW3 ▸ heap_alloc_new w2 _
  have XR : Hid (W3.heap[w.heap.size]? = some (.cells #[.int .i64 0, .int .u64 0] 36 (0, 0))) := F3.out.keep _ _ X2.out trivial
  have c0 := cell_mk (i := 0) X3.out rfl
  have FA : Hid (Fr (fun _ _ => True) w W3) := F2.out.trans F3.out
  have SA := Lib.hid (H.out.fr FA.out)
  have U0 : Hid (Fr (fun _ _ => True) W3 W3.drew) := (Fr.refl _ _).drew
  have HNA : Hid (n ≤ W3.heap.size) := Nat.le_trans HN.out FA.out.size
  have NB : Hid (¬ P w2.heap.size ∧ ¬ Q w2.heap.size ∧ ¬ P w.heap.size ∧ ¬ Q w.heap.size ∧ ¬ P bs ∧ ¬ Q bs) := ⟨SA.out.lk.out X3.out (kp_cells (by decide) (by decide)), SA.out.se.out X3.out (qk_cells (by decide) (by decide)), SA.out.lk.out XR.out (kp_cells (by decide) (by decide)), SA.out.se.out XR.out (qk_cells (by decide) (by decide)), SA.out.lk.out SA.out.st (kp_cells (by decide) (by decide)), SA.out.se.out SA.out.st (qk_cells (by decide) (by decide))⟩
  have c1 := cell_mk (i := 1) X3.out rfl
  have c2 := cell_mk (i := 2) X3.out rfl
  have c3 := cell_mk (i := 3) X3.out rfl
  have c4 := cell_mk (i := 4) X3.out rfl
  have c5 := cell_mk (i := 5) X3.out rfl
  have c6 := cell_mk (i := 6) X3.out rfl
  have OC := Lib.hid (once_calls (n := n) W3 bs b1 b2 M L ⟨op, cl, sq, rg, md, tk, tm⟩ SA.out HNA.out HSQ.out HO.out)
  unfold vM vR at OC
  dsimp only at OC
  obtain ⟨⟨⟨rc, rv⟩, MM, LL⟩, hO⟩ : ∃ o, onceM M L ⟨op, cl, sq, rg, md, tk, tm⟩ = o := ⟨_, rfl⟩
  rw [hO] at OC
  dsimp only at OC
  have HOO := Lib.hid hO
  clear hO
  go_wp2_with fail
  (with_reducible refine OC.out.mono ?_)
  rintro e w10 ⟨rfl, P10, Q10, S10, K10⟩
  have HS10 := Lib.hid S10
  have HK10 := Lib.hid K10
  have X10 : Hid (w10.heap[w.heap.size]? = some (.cells #[.int .i64 0, .int .u64 0] 36 (0, 0))) := K10.fr.keep _ _ XR.out (fun hu => hu.elim NB.out.2.2.1 NB.out.2.2.2.1)
  clear S10 K10 OC c0 c1 c2 c3 c4 c5 c6
  have q0 := cell_mk (i := 0) X10.out rfl
  have q1 := cell_mk (i := 1) X10.out rfl
  have y0 := frozen_mk (i := 0) X10.out
  have y1 := frozen_mk (i := 1) X10.out
  obtain ⟨WZ, hWZ, TZ, FZ⟩ := set2 X10.out (.int .i64 (rc : Nat)) (.int .u64 (rv : Nat))
  have p0 := cell_mk (i := 0) TZ rfl
  have p1 := cell_mk (i := 1) TZ rfl
  have FZH := Lib.hid FZ
  clear TZ FZ
  go_wp2
  try rw [hWZ]
  refine bodyPost_ret (v := .agg #[.int .i64 (rc : Nat), .int .u64 (rv : Nat)]) (by simp [results, Tryz.results10, go_sem, *]) rfl ⟨by rw [HOO.out]; rfl, P10, Q10, ?_⟩
  try rw [hWZ]
  rw [HOO.out]
  exact SV.end2 (HS10.out) ((Kp.rfl' (U P Q) FA.out).trans HK10.out) FZH.out X10.out HN.out (Nat.le_refl _) (by decide)
end Go.Proofs.YtlolfcnfcgegdaaGreat
/- The service: Apply. -/
namespace Go.Proofs.YtlolfcnfcgegdaaGreat
open Go.RowKit
set_option linter.unusedVariables false
set_option linter.unusedSimpArgs false

theorem ofLE_lt' : ∀ (l : List UInt8), ofLE l < 256 ^ l.length
  | [] => by simp [ofLE]
  | x :: l => by
    have h := ofLE_lt' l
    have hx := x.toNat_lt
    have e : ofLE (x :: l) = x.toNat + 256 * ofLE l := rfl
    rw [e, List.length_cons, Nat.pow_succ]
    omega
theorem ofLE_take (l : List UInt8) (k m : Nat) (hm : 256 ^ k = m) : ofLE (l.take k) < m := by
  have h := ofLE_lt' (l.take k)
  have h2 : 256 ^ (l.take k).length ≤ 256 ^ k := Nat.pow_le_pow_right (by decide) (by rw [List.length_take]; omega)
  omega
theorem decM_ok {b : List UInt8} (h : (decM b).2 = 0) : ∃ op cl sq rg md tk tm : Nat, decM b = (⟨(op : Nat), (cl : Nat), sq, (rg : Nat), (md : Nat), tk, tm⟩, 0) ∧ 1 ≤ op ∧ op ≤ 7 ∧ sq < 4294967296 ∧ tm ≤ topM ∧ (decM b).1.cm = ⟨op, cl, sq, rg, md, tk, tm⟩ := by
  have e : decM b = (dec24 b, 0) ∧ ¬ ((dec24 b).op < 1 ∨ 7 < (dec24 b).op) := by
    unfold decM at h ⊢
    split at h
    · cases h
    · split at h
      · cases h
      · split at h
        · cases h
        · rename_i h1 h2 h3
          rw [if_neg h1, if_neg h2, if_neg h3]
          exact ⟨rfl, h3⟩
  obtain ⟨e1, e2⟩ := e
  have ho : (dec24 b).op = ((ofLE (b.take 1) : Nat) : Int) := rfl
  rw [ho] at e2
  have h4 := ofLE_take (b.drop 2) 4 4294967296 (by decide)
  have h8 := ofLE_take (b.drop 16) 8 18446744073709551616 (by decide)
  refine ⟨_, _, _, _, _, _, _, e1, by omega, by omega, h4, ?_, ?_⟩
  · have := topM_eq; show ofLE ((b.drop 16).take 8) ≤ topM; omega
  · rw [e1]; rfl
theorem code_nat (z : Int) (h : 0 ≤ z) : z = ((z.toNat : Nat) : Int) := by omega
theorem openM_code (M : MT) (n : Int) : 0 ≤ (openM M n).1 := by
  unfold openM
  split
  · show (0 : Int) ≤ 31; decide
  · split
    · show (0 : Int) ≤ 1; decide
    · split
      · show (0 : Int) ≤ 42; decide
      · exact Int.le_refl _
theorem closeM_code (M : MT) (n : Int) : 0 ≤ (closeM M n).1 := by
  unfold closeM
  split
  · exact Int.le_refl _
  · show (0 : Int) ≤ 81; decide
/-- Apply. -/
theorem apply_calls {n : Nat} {P Q : Nat → Prop} {K : Nat → Obj → Prop} (w : World) (bs b1 b2 : Nat) (M : MT) (L : Lk) (v : Value) (b : List UInt8) (h : SV n P Q w bs b1 b2 M L) (hn : n ≤ w.heap.size) (hb : BytesAt K w v b) (hm : b.length ≤ 1000000) :
    Calls Tryz.prog 10 #[.pointer (some ⟨bs, 0, none⟩), v] w fun e w' => e = .returned (vR (applyM M L b).1) ∧ ∃ P' Q', SV n P' Q' w' bs b1 b2 (applyM M L b).2.1 (applyM M L b).2.2 ∧ Kp (U P Q) (U P' Q') w w' := by
  by_cases he : (decM b).2 = 0
  · obtain ⟨op, cl, sq, rg, md, tk, tm, hd, h1, h7, hsq, htm, hcm⟩ := decM_ok he
    have e : applyM M L b = applyC M L ⟨op, cl, sq, rg, md, tk, tm⟩ := by unfold applyM; rw [if_neg (fun x => x he), hcm]
    rw [e]
    unfold applyC
    dsimp only
    by_cases o7 : op = 7
    · subst o7
      rw [if_pos rfl]
      exact ap_tick w bs b1 b2 M L v b h hn hb hm cl sq rg md tk tm htm hd
    · rw [if_neg o7]
      by_cases o1 : op = 1
      · subst o1
        rw [if_pos rfl]
        exact ap_open w bs b1 b2 M L v b h hn hb hm cl sq rg md tk tm hd _ (openM M (cl : Nat)).2 (by rw [← code_nat _ (openM_code _ _)])
      · rw [if_neg o1]
        by_cases o2 : op = 2
        · subst o2
          rw [if_pos rfl]
          by_cases hk : (closeM M (cl : Nat)).1 = 0
          · rw [if_pos hk, hk]
            exact ap_shut_yes w bs b1 b2 M L v b h hn hb hm cl sq rg md tk tm hd (closeM M (cl : Nat)).2 (Prod.ext hk rfl)
          · rw [if_neg hk]
            exact ap_shut_no w bs b1 b2 M L v b h hn hb hm cl sq rg md tk tm hd _ (closeM M (cl : Nat)).2 (by rw [← code_nat _ (closeM_code _ _)]) (by have := closeM_code M (cl : Nat); omega)
        · rw [if_neg o2]
          exact ap_once w bs b1 b2 M L v b h hn hb hm op cl sq rg md tk tm hd (by omega) hsq
  · have e : applyM M L b = (⟨1, 0⟩, M, L) := by unfold applyM; rw [if_pos he]
    rw [e]
    exact ap_bad w bs b1 b2 M L v b h hn hb hm _ (decM b).1 rfl he
end Go.Proofs.YtlolfcnfcgegdaaGreat
/- The service: a command's bytes' command; plain answers. -/
namespace Go.Proofs.YtlolfcnfcgegdaaGreat
open Go.RowKit
set_option linter.unusedVariables false
set_option linter.unusedSimpArgs false

theorem ofLE_le1 : ∀ (n x : Nat), x < 256 ^ n → ofLE (le x n) = x
  | 0, x, h => by simp at h; subst h; rfl
  | n + 1, x, h => by
    have e : le x (n + 1) = UInt8.ofNat x :: le (x / 256) n := rfl
    have e2 : ∀ (y : UInt8) l, ofLE (y :: l) = y.toNat + 256 * ofLE l := fun _ _ => rfl
    rw [e, e2, ofLE_le1 n (x / 256) (by rw [Nat.pow_succ] at h; omega)]
    simp
    omega
theorem cut_app {l r : List UInt8} {n : Nat} (h : l.length = n) : (l ++ r).take n = l ∧ (l ++ r).drop n = r := by subst h; simp
theorem drop_two {b r s : List UInt8} {m n k : Nat} (h : b.drop m = r) (h2 : r.drop n = s) (e : m + n = k) : b.drop k = s := by rw [← e, ← List.drop_drop, h, h2]
theorem dec24_cmdB {c : Cmd} (h : c.fine = true) (ho : c.ok) : dec24 (cmdB c) = c := by
  obtain ⟨op, cl, rg, md, e1, e2, e3, e4, h1, h7, hc, hr, hm⟩ := fine_parts h
  obtain ⟨op', cl', sq, rg', md', tk, tm⟩ := c
  dsimp only at e1 e2 e3 e4
  subst e1 e2 e3 e4
  have e : cmdB ⟨op, cl, sq, rg, md, tk, tm⟩ = le op 1 ++ (le cl 1 ++ (le sq 4 ++ (le rg 1 ++ (le md 1 ++ (le tk 8 ++ (le tm 8 ++ [])))))) := by
    unfold cmdB
    simp
  obtain ⟨s, k, t⟩ := ho
  dsimp only at s k t
  rw [e]
  unfold dec24
  have c0 := @cut_app _ (le cl 1 ++ (le sq 4 ++ (le rg 1 ++ (le md 1 ++ (le tk 8 ++ (le tm 8 ++ [])))))) _ (le_length op 1)
  have c1 := @cut_app _ (le sq 4 ++ (le rg 1 ++ (le md 1 ++ (le tk 8 ++ (le tm 8 ++ []))))) _ (le_length cl 1)
  have c2 := @cut_app _ (le rg 1 ++ (le md 1 ++ (le tk 8 ++ (le tm 8 ++ [])))) _ (le_length sq 4)
  have c3 := @cut_app _ (le md 1 ++ (le tk 8 ++ (le tm 8 ++ []))) _ (le_length rg 1)
  have c4 := @cut_app _ (le tk 8 ++ (le tm 8 ++ [])) _ (le_length md 1)
  have c5 := @cut_app _ (le tm 8 ++ []) _ (le_length tk 8)
  have c6 := @cut_app _ [] _ (le_length tm 8)
  have d1 := c0.2
  have d2 := drop_two d1 c1.2 (k := 2) rfl
  have d6 := drop_two d2 c2.2 (k := 6) rfl
  have d7 := drop_two d6 c3.2 (k := 7) rfl
  have d8 := drop_two d7 c4.2 (k := 8) rfl
  have d16 := drop_two d8 c5.2 (k := 16) rfl
  rw [d1, d2, d6, d7, d8, d16, c0.1, c1.1, c2.1, c3.1, c4.1, c5.1, c6.1, ofLE_le1 1 op (by omega), ofLE_le1 1 cl (by omega), ofLE_le1 4 sq (by omega), ofLE_le1 1 rg (by omega), ofLE_le1 1 md (by omega), ofLE_le1 8 tk (by omega), ofLE_le1 8 tm (by omega)]
theorem decM_cmdB {c : Cmd} (h : c.fine = true) (ho : c.ok) : decM (cmdB c) = (c, 0) := by
  have hd := dec24_cmdB h ho
  obtain ⟨op, cl, rg, md, e1, e2, e3, e4, h1, h7, hc, hr, hm⟩ := fine_parts h
  unfold decM
  rw [cmdB_len, hd, if_neg (by decide), if_neg (by decide), if_neg (by rw [e1]; omega)]
theorem decM_nil : decM [] = (zeroC, 10) := rfl
/-- What is applied of a command: itself, or nothing. -/
def actM (M : MT) (L : Lk) (c : Cmd) : Rp × MT × Lk := if c.fine then applyC M L c.cm else (⟨1, 0⟩, M, L)
theorem act_eq {M : MT} {L : Lk} {c : Cmd} (ho : c.ok) : applyM M L (encM c).1 = actM M L c := by
  unfold actM encM
  by_cases h : c.fine = true
  · rw [if_pos h, if_pos h]
    unfold applyM
    rw [decM_cmdB h ho, if_neg (by simp)]
  · rw [if_neg h, if_neg h]
    rfl
end Go.Proofs.YtlolfcnfcgegdaaGreat
/- The service: New, Locks, Sessions; the law's bytes. -/
namespace Go.Proofs.YtlolfcnfcgegdaaGreat
open Go.RowKit
set_option linter.unusedVariables false
set_option linter.unusedSimpArgs false

set_option maxRecDepth 100000 in
theorem new_calls {n : Nat} (w : World) (hn : n ≤ w.heap.size) :
    Calls Tryz.prog 7 #[] w fun e w' => (∃ P Q bs b1 b2, e = .returned (.pointer (some ⟨bs, 0, none⟩)) ∧ SV n P Q w' bs b1 b2 [] Lk.new ∧ w.heap.size ≤ bs ∧ ∀ c, U P Q c → w.heap.size ≤ c) ∧ Fr (fun _ _ => True) w w' := by
  have T0 := TO.new (w := w) hn
  obtain ⟨W1, hW1⟩ : ∃ W, w.alloc (.cells #[.map none] 59 (0, 0)) = W := ⟨_, rfl⟩
  have F1 : Fr (fun _ _ => True) w W1 := hW1 ▸ (Fr.refl _ _).alloc _
  rw [hW1] at T0
  have L0 := LT.new (w := W1) (Nat.le_trans hn F1.size)
  obtain ⟨W2, hW2⟩ : ∃ W, W1.alloc (.cells #[.int .u64 0, .int .u64 0, .slice none 0 0, .slice none 0 0, .slice none 0 0, .slice none 0 0, .slice none 0 0, .slice none 0 0, .slice none 0 0, .slice none 0 0] 66 (0, 0)) = W := ⟨_, rfl⟩
  have F2 : Fr (fun _ _ => True) W1 W2 := hW2 ▸ (Fr.refl _ _).alloc _
  rw [hW2] at L0
  obtain ⟨W3, hW3⟩ : ∃ W, W2.alloc (.cells #[.pointer (some ⟨w.heap.size, 0, none⟩), .pointer (some ⟨W1.heap.size, 0, none⟩)] 68 (0, 0)) = W := ⟨_, rfl⟩
  have F3 : Fr (fun _ _ => True) W2 W3 := hW3 ▸ (Fr.refl _ _).alloc _
  have X3 : W3.heap[W2.heap.size]? = some (.cells #[.pointer (some ⟨w.heap.size, 0, none⟩), .pointer (some ⟨W1.heap.size, 0, none⟩)] 68 (0, 0)) := hW3 ▸ heap_alloc_new W2 _
  have H := Lib.hid (⟨X3, (T0.fr F2).fr F3, ⟨_, _, L0.tt F3⟩⟩ : SV n (fun c => c = W1.heap.size) (fun c => c = w.heap.size) W3 W2.heap.size w.heap.size W1.heap.size [] Lk.new)
  have FA := Lib.hid ((F1.trans F2).trans F3)
  have HS := Lib.hid (show w.heap.size ≤ W1.heap.size ∧ w.heap.size ≤ W2.heap.size from ⟨F1.size, Nat.le_trans F1.size F2.size⟩)
  clear T0 L0 F1 F2 F3 X3 hn
  go_enter Tryz.func7, Tryz.ntmps7
  go_wp2
  go_ret
  exact ⟨⟨_, _, _, _, _, rfl, H.out, HS.out.2, fun c hc => hc.elim (fun e => e ▸ HS.out.1) fun e => e ▸ Nat.le_refl _⟩, FA.out⟩
set_option maxRecDepth 100000 in
theorem locks_calls (w : World) (bs : Nat) (v x : Value) (b2 : Nat) (h : w.heap[bs]? = some (.cells #[x, .pointer (some ⟨b2, 0, none⟩)] 68 (0, 0))) :
    Calls Tryz.prog 16 #[.pointer (some ⟨bs, 0, none⟩)] w fun e w' => e = .returned (.pointer (some ⟨b2, 0, none⟩)) ∧ w = w' := by
  have c0 := cell_mk (i := 1) h rfl
  clear h
  go_enter Tryz.func16, Tryz.ntmps16
  go_wp2
  go_ret
  exact ⟨rfl, rfl⟩
set_option maxRecDepth 100000 in
set_option maxHeartbeats 1000000 in
theorem doc_calls (w : World) (c : Cmd) :
    Calls Tryz.prog 24 #[vC c] w fun e w' => e = .returned (vC c) ∧ Fr (fun _ _ => True) w w' := by
  unfold vC
  obtain ⟨W1, hW1⟩ : ∃ W, w.alloc (.cells #[.int .i64 c.op, .int .i64 c.cl, .int .u32 (c.sq : Nat), .int .i64 c.rg, .int .i64 c.md, .int .u64 (c.tk : Nat), .int .u64 (c.tm : Nat)] 33 (0, 0)) = W := ⟨_, rfl⟩
  have F1 : Hid (Fr (fun _ _ => True) w W1) := hW1 ▸ (Fr.refl _ _).alloc _
  have X1 : Hid (W1.heap[w.heap.size]? = some (.cells #[.int .i64 c.op, .int .i64 c.cl, .int .u32 (c.sq : Nat), .int .i64 c.rg, .int .i64 c.md, .int .u64 (c.tk : Nat), .int .u64 (c.tm : Nat)] 33 (0, 0))) := hW1 ▸ heap_alloc_new w _
  obtain ⟨W2, hW2⟩ : ∃ W, W1.alloc (.cells #[.int .i64 0, .int .i64 0, .int .u32 0, .int .i64 0, .int .i64 0, .int .u64 0, .int .u64 0] 80 (0, 0)) = W := ⟨_, rfl⟩
  have F2 : Hid (Fr (fun _ _ => True) W1 W2) := hW2 ▸ (Fr.refl _ _).alloc _
  have X2 : Hid (W2.heap[W1.heap.size]? = some (.cells #[.int .i64 0, .int .i64 0, .int .u32 0, .int .i64 0, .int .i64 0, .int .u64 0, .int .u64 0] 80 (0, 0))) := hW2 ▸ heap_alloc_new W1 _
  have Y1 := F2.out.keep _ _ X1.out trivial
  have c0 := cell_mk (i := 0) Y1 rfl
  have c1 := cell_mk (i := 1) Y1 rfl
  have c2 := cell_mk (i := 2) Y1 rfl
  have c3 := cell_mk (i := 3) Y1 rfl
  have c4 := cell_mk (i := 4) Y1 rfl
  have c5 := cell_mk (i := 5) Y1 rfl
  have c6 := cell_mk (i := 6) Y1 rfl
  have q0 := cell_mk (i := 0) X2.out rfl
  have q1 := cell_mk (i := 1) X2.out rfl
  have q2 := cell_mk (i := 2) X2.out rfl
  have q3 := cell_mk (i := 3) X2.out rfl
  have q4 := cell_mk (i := 4) X2.out rfl
  have q5 := cell_mk (i := 5) X2.out rfl
  have q6 := cell_mk (i := 6) X2.out rfl
  have y0 := frozen_mk (i := 0) X2.out
  have y1 := frozen_mk (i := 1) X2.out
  have y2 := frozen_mk (i := 2) X2.out
  have y3 := frozen_mk (i := 3) X2.out
  have y4 := frozen_mk (i := 4) X2.out
  have y5 := frozen_mk (i := 5) X2.out
  have y6 := frozen_mk (i := 6) X2.out
  obtain ⟨WZ, hWZ, TZ, FZ⟩ := set7 X2.out (.int .i64 c.op) (.int .i64 c.cl) (.int .u32 (c.sq : Nat)) (.int .i64 c.rg) (.int .i64 c.md) (.int .u64 (c.tk : Nat)) (.int .u64 (c.tm : Nat))
  have p0 := cell_mk (i := 0) TZ rfl
  have p1 := cell_mk (i := 1) TZ rfl
  have p2 := cell_mk (i := 2) TZ rfl
  have p3 := cell_mk (i := 3) TZ rfl
  have p4 := cell_mk (i := 4) TZ rfl
  have p5 := cell_mk (i := 5) TZ rfl
  have p6 := cell_mk (i := 6) TZ rfl
  have FZH := Lib.hid FZ
  have SZ : Hid (w.heap.size < W1.heap.size) := lt_of_some X1.out
  have FE : Hid (Fr (fun _ _ => True) w WZ) := Fr.within (((F1.out.trans F2.out).mono fun _ _ _ => trivial).trans (FZ.mono fun c _ h => by have := h.2; have := SZ.out; omega))
  clear TZ FZ Y1
  go_enter Tryz.func24, Tryz.ntmps24
  go_wp2
  try rw [hWZ]
  refine bodyPost_ret (v := .agg #[.int .i64 c.op, .int .i64 c.cl, .int .u32 (c.sq : Nat), .int .i64 c.rg, .int .i64 c.md, .int .u64 (c.tk : Nat), .int .u64 (c.tm : Nat)]) (by simp [results, Tryz.results24, go_sem, *]) rfl ⟨rfl, ?_⟩
  exact FE.out
set_option maxRecDepth 100000 in
set_option maxHeartbeats 1000000 in
theorem bytes_calls (w : World) (c : Cmd) (ho : c.ok) :
    Calls Tryz.prog 9 #[vC c] w fun e w' => (∃ a cap, e = .returned (.slice a (encM c).1.length cap) ∧ BytesAt (New w.heap.size) w' (.slice a (encM c).1.length cap) (encM c).1) ∧ Fr (fun _ _ => True) w w' := by
  obtain ⟨W1, hW1⟩ : ∃ W, w.alloc (.cells #[.int .i64 c.op, .int .i64 c.cl, .int .u32 (c.sq : Nat), .int .i64 c.rg, .int .i64 c.md, .int .u64 (c.tk : Nat), .int .u64 (c.tm : Nat)] 33 (0, 0)) = W := ⟨_, rfl⟩
  have F1 : Hid (Fr (fun _ _ => True) w W1) := hW1 ▸ (Fr.refl _ _).alloc _
  have X1 : Hid (W1.heap[w.heap.size]? = some (.cells #[.int .i64 c.op, .int .i64 c.cl, .int .u32 (c.sq : Nat), .int .i64 c.rg, .int .i64 c.md, .int .u64 (c.tk : Nat), .int .u64 (c.tm : Nat)] 33 (0, 0))) := hW1 ▸ heap_alloc_new w _
  have c0 := cell_mk (i := 0) X1.out rfl
  have c1 := cell_mk (i := 1) X1.out rfl
  have c2 := cell_mk (i := 2) X1.out rfl
  have c3 := cell_mk (i := 3) X1.out rfl
  have c4 := cell_mk (i := 4) X1.out rfl
  have c5 := cell_mk (i := 5) X1.out rfl
  have c6 := cell_mk (i := 6) X1.out rfl
  have DC := Lib.hid (doc_calls W1 c)
  have HO := Lib.hid ho
  unfold vC at DC ⊢
  clear ho
  go_enter Tryz.func9, Tryz.ntmps9
  go_wp2_with fail
  (with_reducible refine DC.out.mono ?_)
  rintro e w2 ⟨rfl, f2⟩
  have F2 := Lib.hid (F1.out.trans f2)
  have EC := Lib.hid (renc_calls w2 c HO.out)
  unfold vC at EC
  clear f2 DC
  go_wp2_with fail
  (with_reducible refine EC.out.mono ?_)
  rintro e w3 ⟨⟨a, cap, rfl, b3⟩, f3⟩
  have B3 := Lib.hid b3
  have F3 := Lib.hid (F2.out.trans f3)
  have S2 := Lib.hid F2.out.size
  clear b3 f3 EC
  go_wp2
  go_ret
  exact ⟨⟨_, _, rfl, B3.out.mono fun b o _ hb => ⟨Nat.le_trans S2.out hb.1, hb.2⟩⟩, F3.out⟩
end Go.Proofs.YtlolfcnfcgegdaaGreat
/- The locks: Pack. -/
namespace Go.Proofs.YtlolfcnfcgegdaaGreat
open Go.RowKit
set_option linter.unusedVariables false
set_option linter.unusedSimpArgs false

theorem index_rg (w : World) (f g : Nat → Value) (r : Nat) (hr : r < 4) : (Instr.index 64 (.agg #[f 0, g 0, f 1, g 1, f 2, g 2, f 3, g 3]) (.int .i64 (r : Nat))).run Tryz.prog w = .ok (.agg #[f r, g r]) w := by
  match r, hr with
  | 0, _ => (show _ = _; kernel_rfl)
  | 1, _ => (show _ = _; kernel_rfl)
  | 2, _ => (show _ = _; kernel_rfl)
  | 3, _ => (show _ = _; kernel_rfl)
set_option maxRecDepth 100000 in
set_option maxHeartbeats 4000000 in
theorem lkpack_calls {n : Nat} {P : Nat → Prop} (w : World) (bt : Nat) (L : Lk) (h : LTE n P w bt L) :
    Calls Tryz.prog 18 #[.pointer (some ⟨bt, 0, none⟩)] w fun e w' => (∃ a cap, e = .returned (.slice a (lkB L).length cap) ∧ BytesAt (New w.heap.size) w' (.slice a (lkB L).length cap) (lkB L)) ∧ Fr (fun _ _ => True) w w' := by
  obtain ⟨hv, wv, h⟩ := h
  have H := Lib.hid h
  obtain ⟨ha, hc, eh⟩ : ∃ (ha : Nat → Option Addr) (hc : Nat → Nat), ∀ i, i < 4 → hv i = .slice (ha i) (L.rg i).hs.length (hc i) := by
    have : ∀ i, ∃ x : Option Addr × Nat, i < 4 → hv i = .slice x.1 (L.rg i).hs.length x.2 := fun i => by
      by_cases hi : i < 4
      · obtain ⟨a, c, e, _⟩ := (h.hat hi).form
        exact ⟨(a, c), fun _ => e⟩
      · exact ⟨(none, 0), fun q => absurd q hi⟩
    exact ⟨fun i => (Classical.choose (this i)).1, fun i => (Classical.choose (this i)).2, fun i hi => Classical.choose_spec (this i) hi⟩
  obtain ⟨wa, wc, ew⟩ : ∃ (wa : Nat → Option Addr) (wc : Nat → Nat), ∀ i, i < 4 → wv i = .slice (wa i) (L.rg i).ws.length (wc i) := by
    have : ∀ i, ∃ x : Option Addr × Nat, i < 4 → wv i = .slice x.1 (L.rg i).ws.length x.2 := fun i => by
      by_cases hi : i < 4
      · obtain ⟨a, c, e, _⟩ := (h.wr i hi).form
        exact ⟨(a, c), fun _ => e⟩
      · exact ⟨(none, 0), fun q => absurd q hi⟩
    exact ⟨fun i => (Classical.choose (this i)).1, fun i => (Classical.choose (this i)).2, fun i hi => Classical.choose_spec (this i) hi⟩
  have XT : Hid (∀ W, Fr (fun _ _ => True) w W → W.cell? ⟨bt, 0, none⟩ = some (.int .u64 (L.now : Nat)) ∧ W.cell? ⟨bt, 1, none⟩ = some (.int .u64 (L.last : Nat)) ∧
      W.cell? ⟨bt, 2, none⟩ = some (.slice (ha 0) (L.rg 0).hs.length (hc 0)) ∧ W.cell? ⟨bt, 3, none⟩ = some (.slice (wa 0) (L.rg 0).ws.length (wc 0)) ∧
      W.cell? ⟨bt, 4, none⟩ = some (.slice (ha 1) (L.rg 1).hs.length (hc 1)) ∧ W.cell? ⟨bt, 5, none⟩ = some (.slice (wa 1) (L.rg 1).ws.length (wc 1)) ∧
      W.cell? ⟨bt, 6, none⟩ = some (.slice (ha 2) (L.rg 2).hs.length (hc 2)) ∧ W.cell? ⟨bt, 7, none⟩ = some (.slice (wa 2) (L.rg 2).ws.length (wc 2)) ∧
      W.cell? ⟨bt, 8, none⟩ = some (.slice (ha 3) (L.rg 3).hs.length (hc 3)) ∧ W.cell? ⟨bt, 9, none⟩ = some (.slice (wa 3) (L.rg 3).ws.length (wc 3))) := Lib.hid fun W f => by
    have t := f.keep _ _ H.out.top trivial
    rw [eh 0 (by decide), eh 1 (by decide), eh 2 (by decide), eh 3 (by decide), ew 0 (by decide), ew 1 (by decide), ew 2 (by decide), ew 3 (by decide)] at t
    exact ⟨cell_mk t rfl, cell_mk t rfl, cell_mk t rfl, cell_mk t rfl, cell_mk t rfl, cell_mk t rfl, cell_mk t rfl, cell_mk t rfl, cell_mk t rfl, cell_mk t rfl⟩
  have hnow := topM_eq ▸ h.ok.now
  have hlast := topM_eq ▸ h.ok.last
  have HOK := Lib.hid h.ok
  have HA : Hid (∀ i, i < 4 → RowsAt (fun c _ => c < w.heap.size) w (.slice (ha i) (L.rg i).hs.length (hc i)) 4 encH (L.rg i).hs) := Lib.hid fun i hi => by
    have := (H.out.hat hi).mono (K' := fun c _ => c < w.heap.size) fun c o ho _ => lt_of_some ho
    rwa [eh i hi] at this
  have WA : Hid (∀ i, i < 4 → RowsAt (fun c _ => c < w.heap.size) w (.slice (wa i) (L.rg i).ws.length (wc i)) 2 encW (L.rg i).ws) := Lib.hid fun i hi => by
    have := (H.out.wr i hi).mono (K' := fun c _ => c < w.heap.size) fun c o ho _ => lt_of_some ho
    rwa [ew i hi] at this
  obtain ⟨W1, hW1⟩ : ∃ W1, w.alloc (.cells #[.slice none 0 0] 102 (0, 0)) = W1 := ⟨_, rfl⟩
  have FW1 : Hid (Fr (fun _ _ => True) w W1) := hW1 ▸ (Fr.refl _ _).alloc _
  have L0 : Hid (LWP (fun c => c < w.heap.size) W1 w.heap.size []) := hW1 ▸ LWP.mk0 w fun c hc => hc
  obtain ⟨c0, c1, _⟩ := XT.out W1 FW1.out
  have K1 := Lib.hid (lwp_number W1 w.heap.size [] L.now 8 L.now 8 rfl rfl L0.out (fun c hc => Nat.lt_of_lt_of_le hc FW1.out.size) (by omega) (by omega) (by omega) (by simp))
  clear h eh ew H
  go_enter Tryz.func18, Tryz.ntmps18
  go_wp2_with fail
  clear hW1
  with_reducible refine K1.out.mono ?_
  rintro e1 w1 ⟨rfl, l1, f1⟩
  have L1 := Lib.hid l1
  have F1 : Hid (Fr (fun _ _ => True) w w1) := old_tt FW1.out f1 fun b _ hb => hb
  clear l1 K1 L0 c0 c1 f1 FW1
  obtain ⟨c0, c1, _⟩ := XT.out w1 F1.out
  have K1 := Lib.hid (lwp_number w1 w.heap.size _ L.last 8 L.last 8 rfl rfl L1.out (fun c hc => Nat.lt_of_lt_of_le hc F1.out.size) (by omega) (by omega) (by omega) (by simp [le_length]))
  go_wp2_with fail
  with_reducible refine K1.out.mono ?_
  rintro e1 w2 ⟨rfl, l2, f2⟩
  have F2 : Hid (Fr (fun _ _ => True) w w2) := old_tt F1.out f2 fun b _ hb => hb
  have L2 : Hid (LWP (fun c => c < w.heap.size) w2 w.heap.size (lkK L 0)) := Lib.hid (by unfold lkK; rw [List.nil_append] at l2; exact l2)
  clear l2 K1 L1 c0 c1 f2 F1
  obtain ⟨c0, c1, c2, c3, c4, c5, c6, c7, c8, c9⟩ := XT.out w2 F2.out
  go_wp2_with fail
  go_loopw [24] (fun v24 wr => ∃ r : Nat, r ≤ 4 ∧ v24 = .int .i64 r ∧ Hid (LWP (fun c => c < w.heap.size) wr w.heap.size (lkK L r)) ∧ Hid (Fr (fun _ _ => True) w wr)) (fun v24 _ => 4 - (intOf v24).toNat)
  case atStart => exact ⟨0, by omega, rfl, L2.out, F2.out⟩
  case round =>
    obtain ⟨r, hr, rfl, HL, HF⟩ := hrel
    clear L2 F2
    by_cases hlt : r < 4
    · have hltI : (r : Int) < 4 := by omega
      have IX := fun W => index_rg W (fun i => .slice (ha i) (L.rg i).hs.length (hc i)) (fun i => .slice (wa i) (L.rg i).ws.length (wc i)) r hlt
      have RH := Lib.hid (HA.out r hlt)
      have RW := Lib.hid (WA.out r hlt)
      have OKR := Lib.hid (HOK.out.rg r)
      have LEN := lkK_len HOK.out r
      have ES : Hid (lkK L (r + 1) = lkK L r ++ rgB (L.rg r)) := rfl
      unfold rgB at ES
      obtain ⟨Rg, hRg⟩ : ∃ R, L.rg r = R := ⟨_, rfl⟩
      rw [hRg] at IX RH RW OKR ES
      obtain ⟨hs, ws⟩ := Rg
      dsimp only at IX RH RW ES
      have n4 := OKR.out.h4
      have n4' := OKR.out.w4
      dsimp only at n4 n4'
      have vh : IntKind.u64.wrap (hs.length : Int) = (hs.length : Int) := by rw [IntKind.wrap_u64]; omega
      have vw : IntKind.u64.wrap (ws.length : Int) = (ws.length : Int) := by rw [IntKind.wrap_u64]; omega
      have HC := Lib.hid OKR.out.hc
      have WC := Lib.hid OKR.out.wc
      dsimp only at HC WC
      obtain ⟨ah, hah⟩ : ∃ a, ha r = a := ⟨_, rfl⟩
      obtain ⟨ch, hch⟩ : ∃ a, hc r = a := ⟨_, rfl⟩
      obtain ⟨aw, haw⟩ : ∃ a, wa r = a := ⟨_, rfl⟩
      obtain ⟨cw, hcw⟩ : ∃ a, wc r = a := ⟨_, rfl⟩
      rw [hah, hch, haw, hcw] at IX
      rw [hah, hch] at RH
      rw [haw, hcw] at RW
      obtain ⟨X0, hX0⟩ : ∃ X, lkK L r = X := ⟨_, rfl⟩
      rw [hX0] at HL LEN ES
      clear OKR hRg hah hch haw hcw hX0
      obtain ⟨W3, hW3⟩ : ∃ W, wr.alloc (.cells #[.slice none 0 0, .slice none 0 0] 63 (0, 0)) = W := ⟨_, rfl⟩
      have FA : Hid (Fr (fun _ _ => True) wr W3) := hW3 ▸ (Fr.refl _ _).alloc _
      have XA : Hid (W3.heap[wr.heap.size]? = some (.cells #[.slice none 0 0, .slice none 0 0] 63 (0, 0))) := hW3 ▸ heap_alloc_new wr _
      have q0 := cell_mk (i := 0) XA.out rfl
      have z0 := frozen_mk (i := 0) XA.out
      have q1 := cell_mk (i := 1) XA.out rfl
      have z1 := frozen_mk (i := 1) XA.out
      obtain ⟨v3, hWZ, TZ, FZ⟩ := set2 XA.out (.slice ah hs.length ch) (.slice aw ws.length cw)
      have FB : Hid (Fr (fun c _ => c < wr.heap.size) wr v3) := Lib.hid ((FA.out.mono fun _ _ _ => trivial).trans (FZ.mono fun c _ h e => by omega))
      have F3 : Hid (Fr (fun _ _ => True) w v3) := old_tt HF.out FB.out fun b _ hb => Nat.lt_of_lt_of_le hb HF.out.size
      have T3 := Lib.hid TZ
      have d0 := cell_mk (i := 0) TZ rfl
      have d1 := cell_mk (i := 1) TZ rfl
      clear TZ FZ FA
      obtain ⟨b5, hb5⟩ : ∃ b, b = wr.heap.size := ⟨_, rfl⟩
      have L3 : Hid (LWP (fun c => c < w.heap.size ∨ c = b5) v3 w.heap.size X0) := (HL.out.more fun c hc => hc.imp id fun e => by omega).young FB.out
      have P3 : Hid (∀ c, (c < w.heap.size ∨ c = b5) → c < v3.heap.size) := fun c hc => by
        have := HF.out.size
        have := lt_of_some T3.out
        have := F3.out.size
        omega
      have K1 := Lib.hid (lwp_number v3 w.heap.size _ hs.length 1 hs.length 1 rfl rfl L3.out P3.out (by omega) (by omega) (by omega) (by omega))
      go_wp2_with fail
      (try rw [hWZ])
      with_reducible refine K1.out.mono ?_
      rintro e1 w4 ⟨rfl, l1, f1⟩
      have L4 := Lib.hid l1
      have F4 : Hid (Fr (fun _ _ => True) w w4) := old_tt F3.out f1 fun b _ hb => .inl hb
      have T4 := Lib.hid (f1.keep _ _ T3.out (.inr hb5.symm))
      have P4 : Hid (∀ c, (c < w.heap.size ∨ c = b5) → c < w4.heap.size) := fun c hc => Nat.lt_of_lt_of_le (P3.out c hc) f1.size
      rw [← hb5] at T4 ⊢
      clear K1 l1 f1 L3 P3 F3 T3 FB XA hW3 hWZ q0 q1 z0 z1 d0 d1 HL HF
      have d0 := cell_mk (i := 0) T4.out rfl
      have d1 := cell_mk (i := 1) T4.out rfl
      obtain ⟨X1, hX1⟩ : ∃ X, X0 ++ le hs.length 1 = X := ⟨_, rfl⟩
      have LEN1 : X1.length ≤ 17 + r * 100 := by rw [← hX1]; simp [le_length]; omega
      rw [hX1] at L4
      clear hb5
      go_wp2_with fail
      go_loopw [35] (fun v35 wz => ∃ i : Nat, i ≤ hs.length ∧ v35 = .int .i64 i ∧ Hid (LWP (fun c => c < w.heap.size ∨ c = b5) wz w.heap.size (X1 ++ (hs.take i).flatMap hoB)) ∧ Hid (Fr (fun _ _ => True) w wz) ∧ Hid (wz.heap[b5]? = some (.cells #[.slice ah hs.length ch, .slice aw ws.length cw] 63 (0, 0)))) (fun v35 _ => hs.length - (intOf v35).toNat)
      case atStart => exact ⟨0, Nat.zero_le _, rfl, by show LWP _ _ _ _; rw [List.take_zero, List.flatMap_nil, List.append_nil]; exact L4.out, F4.out, T4.out⟩
      case round =>
        obtain ⟨i, hi, rfl, IL, IF, IT⟩ := hrel
        clear L4 F4 T4 d0 d1
        by_cases hil : i < hs.length
        · have hilI : (i : Int) < hs.length := by omega
          obtain ⟨b, off, o, rfl, _, _, hcl⟩ := (RH.out.fr (K' := fun _ _ => True) IF.out fun _ _ _ _ => trivial).spot (by omega)
          obtain ⟨x, hx⟩ : ∃ x, hs[i] = x := ⟨_, rfl⟩
          have hcs := RowsAt.h4 (K := fun _ _ => True) hcl i hil
          rw [hx] at hcs
          have hxb := HC.out hs[i] (List.getElem_mem _)
          rw [hx, topM_eq] at hxb
          obtain ⟨bc, bm, bt', bu⟩ := hxb
          have bm2 : x.m ≤ 2 := by omega
          have vc : IntKind.u64.wrap (x.c : Int) = (x.c : Int) := by rw [IntKind.wrap_u64]; omega
          have vm : IntKind.u64.wrap (x.m : Int) = (x.m : Int) := by rw [IntKind.wrap_u64]; omega
          obtain ⟨k0, k1, k2, k3⟩ := hcs
          have EX : Hid (X1 ++ (hs.take (i + 1)).flatMap hoB = (((X1 ++ (hs.take i).flatMap hoB) ++ le x.c 1) ++ le x.m 1 ++ le x.t 8) ++ le x.u 8) := by
            show _ = _
            rw [flatMap_take hoB hs i hil, hx]
            unfold hoB
            simp only [List.append_assoc]
          have LENX : (X1 ++ (hs.take i).flatMap hoB).length ≤ 1000 := by
            rw [List.length_append, flatMap_len hoB_len, List.length_take]
            have : min i hs.length ≤ 4 := by omega
            omega
          clear hcl hx bm
          generalize X1 ++ (hs.take i).flatMap hoB = Y at *
          obtain ⟨W5, hW5⟩ : ∃ W, wr.alloc (.cells #[.int .i64 0, .int .i64 0, .int .u64 0, .int .u64 0] 112 (0, 0)) = W := ⟨_, rfl⟩
          have FA : Hid (Fr (fun _ _ => True) wr W5) := hW5 ▸ (Fr.refl _ _).alloc _
          have XA : Hid (W5.heap[wr.heap.size]? = some (.cells #[.int .i64 0, .int .i64 0, .int .u64 0, .int .u64 0] 112 (0, 0))) := hW5 ▸ heap_alloc_new wr _
          have q0 := cell_mk (i := 0) XA.out rfl
          have z0 := frozen_mk (i := 0) XA.out
          have q1 := cell_mk (i := 1) XA.out rfl
          have z1 := frozen_mk (i := 1) XA.out
          have q2 := cell_mk (i := 2) XA.out rfl
          have z2 := frozen_mk (i := 2) XA.out
          have q3 := cell_mk (i := 3) XA.out rfl
          have z3 := frozen_mk (i := 3) XA.out
          obtain ⟨v5, hWZ, TZ, FZ⟩ := set4 XA.out (.int .i64 (x.c : Nat)) (.int .i64 (x.m : Nat)) (.int .u64 (x.t : Nat)) (.int .u64 (x.u : Nat))
          have FB : Hid (Fr (fun c _ => c < wr.heap.size) wr v5) := Lib.hid ((FA.out.mono fun _ _ _ => trivial).trans (FZ.mono fun c _ h e => by omega))
          have F5 : Hid (Fr (fun _ _ => True) w v5) := old_tt IF.out FB.out fun b _ hb => Nat.lt_of_lt_of_le hb IF.out.size
          have X5 := Lib.hid TZ
          have d0 := cell_mk (i := 0) TZ rfl
          have d1 := cell_mk (i := 1) TZ rfl
          have d2 := cell_mk (i := 2) TZ rfl
          have d3 := cell_mk (i := 3) TZ rfl
          clear TZ FZ FA
          obtain ⟨b7, hb7⟩ : ∃ b, b = wr.heap.size := ⟨_, rfl⟩
          have T5 := Lib.hid (FB.out.keep _ _ IT.out (lt_of_some IT.out))
          have L5 : Hid (LWP (fun c => (c < w.heap.size ∨ c = b5) ∨ c = b7) v5 w.heap.size Y) := (IL.out.more fun c hc => hc.imp id fun e => by omega).young FB.out
          have P5 : Hid (∀ c, ((c < w.heap.size ∨ c = b5) ∨ c = b7) → c < v5.heap.size) := fun c hc => by
            have := IF.out.size
            have := lt_of_some X5.out
            have := lt_of_some T5.out
            have := F5.out.size
            omega
          have K1 := Lib.hid (lwp_number v5 w.heap.size _ x.c 1 x.c 1 rfl rfl L5.out P5.out (by omega) (by omega) (by omega) (by (try simp [le_length]); omega))
          go_wp2_with fail
          (try rw [hWZ])
          with_reducible refine K1.out.mono ?_
          rintro e1 y0 ⟨rfl, l1, f1⟩
          have LY0 := Lib.hid l1
          have FY0 : Hid (Fr (fun _ _ => True) w y0) := old_tt F5.out f1 fun b _ hb => .inl (.inl hb)
          have TY0 := Lib.hid (f1.keep _ _ T5.out (.inl (.inr rfl)))
          have XY0 := Lib.hid (f1.keep _ _ X5.out (.inr hb7.symm))
          have PY0 : Hid (∀ c, ((c < w.heap.size ∨ c = b5) ∨ c = b7) → c < y0.heap.size) := fun c hc => Nat.lt_of_lt_of_le (P5.out c hc) f1.size
          rw [← hb7] at XY0 ⊢
          clear hWZ hW5 q0 q1 q2 q3 z0 z1 z2 z3 FB XA hb7
          clear K1 l1 f1 L5 F5 T5 X5 P5 d0 d1 d2 d3
          have d0 := cell_mk (i := 0) XY0.out rfl
          have d1 := cell_mk (i := 1) XY0.out rfl
          have d2 := cell_mk (i := 2) XY0.out rfl
          have d3 := cell_mk (i := 3) XY0.out rfl
          have K1 := Lib.hid (lwp_number y0 w.heap.size _ x.m 1 x.m 1 rfl rfl LY0.out PY0.out (by omega) (by omega) (by omega) (by (try simp [le_length]); omega))
          go_wp2_with fail
          (try rw [hWZ])
          with_reducible refine K1.out.mono ?_
          rintro e1 y1 ⟨rfl, l1, f1⟩
          have LY1 := Lib.hid l1
          have FY1 : Hid (Fr (fun _ _ => True) w y1) := old_tt FY0.out f1 fun b _ hb => .inl (.inl hb)
          have TY1 := Lib.hid (f1.keep _ _ TY0.out (.inl (.inr rfl)))
          have XY1 := Lib.hid (f1.keep _ _ XY0.out (.inr rfl))
          have PY1 : Hid (∀ c, ((c < w.heap.size ∨ c = b5) ∨ c = b7) → c < y1.heap.size) := fun c hc => Nat.lt_of_lt_of_le (PY0.out c hc) f1.size
          clear K1 l1 f1 LY0 FY0 TY0 XY0 PY0 d0 d1 d2 d3
          have d0 := cell_mk (i := 0) XY1.out rfl
          have d1 := cell_mk (i := 1) XY1.out rfl
          have d2 := cell_mk (i := 2) XY1.out rfl
          have d3 := cell_mk (i := 3) XY1.out rfl
          have K1 := Lib.hid (lwp_number y1 w.heap.size _ x.t 8 x.t 8 rfl rfl LY1.out PY1.out (by omega) (by omega) (by omega) (by (try simp [le_length]); omega))
          go_wp2_with fail
          (try rw [hWZ])
          with_reducible refine K1.out.mono ?_
          rintro e1 y2 ⟨rfl, l1, f1⟩
          have LY2 := Lib.hid l1
          have FY2 : Hid (Fr (fun _ _ => True) w y2) := old_tt FY1.out f1 fun b _ hb => .inl (.inl hb)
          have TY2 := Lib.hid (f1.keep _ _ TY1.out (.inl (.inr rfl)))
          have XY2 := Lib.hid (f1.keep _ _ XY1.out (.inr rfl))
          have PY2 : Hid (∀ c, ((c < w.heap.size ∨ c = b5) ∨ c = b7) → c < y2.heap.size) := fun c hc => Nat.lt_of_lt_of_le (PY1.out c hc) f1.size
          clear K1 l1 f1 LY1 FY1 TY1 XY1 PY1 d0 d1 d2 d3
          have d0 := cell_mk (i := 0) XY2.out rfl
          have d1 := cell_mk (i := 1) XY2.out rfl
          have d2 := cell_mk (i := 2) XY2.out rfl
          have d3 := cell_mk (i := 3) XY2.out rfl
          have K1 := Lib.hid (lwp_number y2 w.heap.size _ x.u 8 x.u 8 rfl rfl LY2.out PY2.out (by omega) (by omega) (by omega) (by (try simp [le_length]); omega))
          go_wp2_with fail
          (try rw [hWZ])
          with_reducible refine K1.out.mono ?_
          rintro e1 y3 ⟨rfl, l1, f1⟩
          have LY3 := Lib.hid l1
          have FY3 : Hid (Fr (fun _ _ => True) w y3) := old_tt FY2.out f1 fun b _ hb => .inl (.inl hb)
          have TY3 := Lib.hid (f1.keep _ _ TY2.out (.inl (.inr rfl)))
          have XY3 := Lib.hid (f1.keep _ _ XY2.out (.inr rfl))
          have PY3 : Hid (∀ c, ((c < w.heap.size ∨ c = b5) ∨ c = b7) → c < y3.heap.size) := fun c hc => Nat.lt_of_lt_of_le (PY2.out c hc) f1.size
          clear K1 l1 f1 LY2 FY2 TY2 XY2 PY2 d0 d1 d2 d3
          have LE : Hid (LWP (fun c => c < w.heap.size ∨ c = b5) y3 w.heap.size (X1 ++ (hs.take (i + 1)).flatMap hoB)) := by
            show LWP _ _ _ _
            rw [EX.out]
            exact LY3.out.more fun c hc => .inl (.inl hc)
          go_wp2
          go_roundw
          case rel => exact ⟨i + 1, hil, by go_num, LE.out, FY3.out, TY3.out⟩
          case measure => simp [intOf]; omega
        · have hie : i = hs.length := by omega
          rw [hie, List.take_length] at IL
          have hge : (hs.length : Int) ≤ i := by omega
          clear hie
          have d0 := cell_mk (i := 0) IT.out rfl
          have d1 := cell_mk (i := 1) IT.out rfl
          have LENZ : (X1 ++ hs.flatMap hoB).length ≤ 1000 := by
            rw [List.length_append, flatMap_len hoB_len]
            omega
          have EZ : Hid (lkK L (r + 1) = ((X1 ++ hs.flatMap hoB) ++ le ws.length 1) ++ ws.flatMap waB) := by
            show _ = _
            rw [ES.out, ← hX1]
            simp only [List.append_assoc]
          generalize X1 ++ hs.flatMap hoB = Z at *
          have PI : Hid (∀ c, (c < w.heap.size ∨ c = b5) → c < wr.heap.size) := fun c hc => by
            have := IF.out.size
            have := lt_of_some IT.out
            omega
          have K1 := Lib.hid (lwp_number wr w.heap.size _ ws.length 1 ws.length 1 rfl rfl IL.out PI.out (by omega) (by omega) (by omega) (by omega))
          go_wp2_with fail
          (try rw [hWZ])
          with_reducible refine K1.out.mono ?_
          rintro e1 w6 ⟨rfl, l1, f1⟩
          have L6 := Lib.hid l1
          have F6 : Hid (Fr (fun _ _ => True) w w6) := old_tt IF.out f1 fun b _ hb => .inl hb
          have T6 := Lib.hid (f1.keep _ _ IT.out (.inr rfl))
          clear K1 l1 f1 IL IF IT PI d0 d1
          have d0 := cell_mk (i := 0) T6.out rfl
          have d1 := cell_mk (i := 1) T6.out rfl
          obtain ⟨X2, hX2⟩ : ∃ X, Z ++ le ws.length 1 = X := ⟨_, rfl⟩
          have LEN2 : X2.length ≤ 1001 := by rw [← hX2]; simp [le_length]; omega
          rw [hX2] at L6 EZ
          go_wp2_with fail
          go_loopw [62] (fun v62 wz => ∃ i : Nat, i ≤ ws.length ∧ v62 = .int .i64 i ∧ Hid (LWP (fun c => c < w.heap.size ∨ c = b5) wz w.heap.size (X2 ++ (ws.take i).flatMap waB)) ∧ Hid (Fr (fun _ _ => True) w wz) ∧ Hid (wz.heap[b5]? = some (.cells #[.slice ah hs.length ch, .slice aw ws.length cw] 63 (0, 0)))) (fun v62 _ => ws.length - (intOf v62).toNat)
          case atStart => exact ⟨0, Nat.zero_le _, rfl, by show LWP _ _ _ _; rw [List.take_zero, List.flatMap_nil, List.append_nil]; exact L6.out, F6.out, T6.out⟩
          case round =>
            obtain ⟨i2, hi2, rfl, IL, IF, IT⟩ := hrel
            clear L6 F6 T6 d0 d1
            by_cases hil2 : i2 < ws.length
            · have hil2I : (i2 : Int) < ws.length := by omega
              obtain ⟨b, off, o, rfl, _, _, hcl⟩ := (RW.out.fr (K' := fun _ _ => True) IF.out fun _ _ _ _ => trivial).spot (by omega)
              obtain ⟨x, hx⟩ : ∃ x, ws[i2] = x := ⟨_, rfl⟩
              have hcs := RowsAt.w2 (K := fun _ _ => True) hcl i2 hil2
              rw [hx] at hcs
              have hxb := WC.out ws[i2] (List.getElem_mem _)
              rw [hx] at hxb
              obtain ⟨bc, bm⟩ := hxb
              have bm2 : x.m ≤ 2 := by omega
              have vc : IntKind.u64.wrap (x.c : Int) = (x.c : Int) := by rw [IntKind.wrap_u64]; omega
              have vm : IntKind.u64.wrap (x.m : Int) = (x.m : Int) := by rw [IntKind.wrap_u64]; omega
              obtain ⟨k0, k1⟩ := hcs
              have EX : Hid (X2 ++ (ws.take (i2 + 1)).flatMap waB = ((X2 ++ (ws.take i2).flatMap waB) ++ le x.c 1) ++ le x.m 1) := by
                show _ = _
                rw [flatMap_take waB ws i2 hil2, hx]
                unfold waB
                simp only [List.append_assoc]
              have LENX : (X2 ++ (ws.take i2).flatMap waB).length ≤ 2000 := by
                rw [List.length_append, flatMap_len waB_len, List.length_take]
                have : min i2 ws.length ≤ 4 := by omega
                omega
              clear hcl hx bm
              generalize X2 ++ (ws.take i2).flatMap waB = Y at *
              obtain ⟨W7, hW7⟩ : ∃ W, wr.alloc (.cells #[.int .i64 0, .int .i64 0] 114 (0, 0)) = W := ⟨_, rfl⟩
              have FA : Hid (Fr (fun _ _ => True) wr W7) := hW7 ▸ (Fr.refl _ _).alloc _
              have XA : Hid (W7.heap[wr.heap.size]? = some (.cells #[.int .i64 0, .int .i64 0] 114 (0, 0))) := hW7 ▸ heap_alloc_new wr _
              have q0 := cell_mk (i := 0) XA.out rfl
              have z0 := frozen_mk (i := 0) XA.out
              have q1 := cell_mk (i := 1) XA.out rfl
              have z1 := frozen_mk (i := 1) XA.out
              obtain ⟨v7, hWZ, TZ, FZ⟩ := set2 XA.out (.int .i64 (x.c : Nat)) (.int .i64 (x.m : Nat))
              have FB : Hid (Fr (fun c _ => c < wr.heap.size) wr v7) := Lib.hid ((FA.out.mono fun _ _ _ => trivial).trans (FZ.mono fun c _ h e => by omega))
              have F7 : Hid (Fr (fun _ _ => True) w v7) := old_tt IF.out FB.out fun b _ hb => Nat.lt_of_lt_of_le hb IF.out.size
              have X7 := Lib.hid TZ
              have d0 := cell_mk (i := 0) TZ rfl
              have d1 := cell_mk (i := 1) TZ rfl
              clear TZ FZ FA
              obtain ⟨b9, hb9⟩ : ∃ b, b = wr.heap.size := ⟨_, rfl⟩
              have T7 := Lib.hid (FB.out.keep _ _ IT.out (lt_of_some IT.out))
              have L7 : Hid (LWP (fun c => (c < w.heap.size ∨ c = b5) ∨ c = b9) v7 w.heap.size Y) := (IL.out.more fun c hc => hc.imp id fun e => by omega).young FB.out
              have P7 : Hid (∀ c, ((c < w.heap.size ∨ c = b5) ∨ c = b9) → c < v7.heap.size) := fun c hc => by
                have := IF.out.size
                have := lt_of_some X7.out
                have := lt_of_some T7.out
                have := F7.out.size
                omega
              have K1 := Lib.hid (lwp_number v7 w.heap.size _ x.c 1 x.c 1 rfl rfl L7.out P7.out (by omega) (by omega) (by omega) (by (try simp [le_length]); omega))
              go_wp2_with fail
              (try rw [hWZ])
              with_reducible refine K1.out.mono ?_
              rintro e1 y0 ⟨rfl, l1, f1⟩
              have LY0 := Lib.hid l1
              have FY0 : Hid (Fr (fun _ _ => True) w y0) := old_tt F7.out f1 fun b _ hb => .inl (.inl hb)
              have TY0 := Lib.hid (f1.keep _ _ T7.out (.inl (.inr rfl)))
              have XY0 := Lib.hid (f1.keep _ _ X7.out (.inr hb9.symm))
              have PY0 : Hid (∀ c, ((c < w.heap.size ∨ c = b5) ∨ c = b9) → c < y0.heap.size) := fun c hc => Nat.lt_of_lt_of_le (P7.out c hc) f1.size
              rw [← hb9] at XY0 ⊢
              clear hWZ hW7 q0 q1 z0 z1 FB XA hb9
              clear K1 l1 f1 L7 F7 T7 X7 P7 d0 d1
              have d0 := cell_mk (i := 0) XY0.out rfl
              have d1 := cell_mk (i := 1) XY0.out rfl
              have K1 := Lib.hid (lwp_number y0 w.heap.size _ x.m 1 x.m 1 rfl rfl LY0.out PY0.out (by omega) (by omega) (by omega) (by (try simp [le_length]); omega))
              go_wp2_with fail
              (try rw [hWZ])
              with_reducible refine K1.out.mono ?_
              rintro e1 y1 ⟨rfl, l1, f1⟩
              have LY1 := Lib.hid l1
              have FY1 : Hid (Fr (fun _ _ => True) w y1) := old_tt FY0.out f1 fun b _ hb => .inl (.inl hb)
              have TY1 := Lib.hid (f1.keep _ _ TY0.out (.inl (.inr rfl)))
              have XY1 := Lib.hid (f1.keep _ _ XY0.out (.inr rfl))
              have PY1 : Hid (∀ c, ((c < w.heap.size ∨ c = b5) ∨ c = b9) → c < y1.heap.size) := fun c hc => Nat.lt_of_lt_of_le (PY0.out c hc) f1.size
              clear K1 l1 f1 LY0 FY0 TY0 XY0 PY0 d0 d1
              have LE : Hid (LWP (fun c => c < w.heap.size ∨ c = b5) y1 w.heap.size (X2 ++ (ws.take (i2 + 1)).flatMap waB)) := by
                show LWP _ _ _ _
                rw [EX.out]
                exact LY1.out.more fun c hc => .inl (.inl hc)
              go_wp2
              go_roundw
              case rel => exact ⟨i2 + 1, hil2, by go_num, LE.out, FY1.out, TY1.out⟩
              case measure => simp [intOf]; omega
            · have hie : i2 = ws.length := by omega
              rw [hie, List.take_length, ← EZ.out] at IL
              have hge2 : (ws.length : Int) ≤ i2 := by omega
              clear hie
              have LE := Lib.hid (IL.out.more (Pr' := fun c => c < w.heap.size) fun c hc => .inl (.inl hc))
              go_wp2
              go_roundw
              case rel => exact ⟨r + 1, hlt, by go_num, LE.out, IF.out⟩
              case measure => simp [intOf]; omega
    · have hr4 : r = 4 := by omega
      have hge4 : (4 : Int) ≤ r := by omega
      rw [hr4] at HL
      have K1 := Lib.hid (lwp_out wr w.heap.size (lkK L 4) HL.out (by have := lkK_len HOK.out 4; omega))
      clear hr4
      go_wp2_with fail
      with_reducible refine K1.out.mono ?_
      rintro e1 w3 ⟨⟨a3, cap3, rfl, hb⟩, f3⟩
      have B3 : Hid (BytesAt (New w.heap.size) w3 (.slice a3 (lkB L).length cap3) (lkB L)) := hb.mono fun b o _ hk => ⟨by have := hk.1; have := HF.out.size; omega, hk.2⟩
      have FW3 := Lib.hid (HF.out.trans f3)
      clear hb f3 K1
      go_wp2
      go_ret
      exact ⟨⟨_, _, rfl, B3.out⟩, FW3.out⟩
end Go.Proofs.YtlolfcnfcgegdaaGreat
