/- Texts of the proofs, part 20: what the functions that they reach do, walked; no conditions beyond those that each states. -/
import Derived.Deep.RegionHeld3
import Derived.Test.YtlolfcnfcgegdaaGreatZze64c8484b7
set_option linter.unusedVariables false
set_option linter.unusedSimpArgs false
/- The service: what its commands do that are done once (printed by ops20.py). -/
namespace Go.Proofs.YtlolfcnfcgegdaaGreat
open Go.RowKit
set_option linter.unusedVariables false
set_option linter.unusedSimpArgs false

/-- A command of small numbers. -/
structure Cm where
  op : Nat
  cl : Nat
  sq : Nat
  rg : Nat
  md : Nat
  tk : Nat
  tm : Nat
  deriving DecidableEq, Inhabited
def vM (c : Cm) : Value := .agg #[.int .i64 (c.op : Nat), .int .i64 (c.cl : Nat), .int .u32 (c.sq : Nat), .int .i64 (c.rg : Nat), .int .i64 (c.md : Nat), .int .u64 (c.tk : Nat), .int .u64 (c.tm : Nat)]
def opM (L : Lk) (c : Cm) : Rp × Lk :=
  if c.op = 3 then (⟨(acquireM L c.cl c.rg c.md).1.2, (acquireM L c.cl c.rg c.md).1.1⟩, (acquireM L c.cl c.rg c.md).2)
  else if c.op = 4 then (⟨(releaseM L c.cl c.rg c.tk).1, 0⟩, (releaseM L c.cl c.rg c.tk).2)
  else if c.op = 5 then (⟨(renewM L c.cl c.rg c.tk).1.2, (renewM L c.cl c.rg c.tk).1.1⟩, (renewM L c.cl c.rg c.tk).2)
  else (⟨(cancelM L c.cl c.rg).1, 0⟩, (cancelM L c.cl c.rg).2)
set_option maxRecDepth 100000 in
set_option maxHeartbeats 2000000 in
theorem op1_calls {n : Nat} {P Q : Nat → Prop} (w : World) (bs b1 b2 bx : Nat) (M : MT) (L : Lk) (c : Cm) (h : SV n P Q w bs b1 b2 M L) (hx : w.heap[bx]? = some (.cells #[.pointer (some ⟨bs, 0, none⟩)] 25 (0, 0))) (hn : n ≤ w.heap.size) (hop : c.op = 3) :
    Calls Tryz.prog 100 #[vM c, .pointer (some ⟨bx, 0, none⟩)] w fun e w' => e = .returned (vR (opM L c).1) ∧ ∃ P', SV n P' Q w' bs b1 b2 M (opM L c).2 ∧ Kp P P' w w' := by
  obtain ⟨op, cl, sq, rg, md, tk, tm⟩ := c
  unfold vM
  dsimp only at hop ⊢
  subst hop
  have EO : Hid (opM L ⟨3, cl, sq, rg, md, tk, tm⟩ = (⟨(acquireM L cl rg md).1.2, (acquireM L cl rg md).1.1⟩, (acquireM L cl rg md).2)) := rfl
  obtain ⟨W1, hW1⟩ : ∃ W, w.alloc (.cells #[.int .i64 3, .int .i64 (cl : Nat), .int .u32 (sq : Nat), .int .i64 (rg : Nat), .int .i64 (md : Nat), .int .u64 (tk : Nat), .int .u64 (tm : Nat)] 33 (0, 0)) = W := ⟨_, rfl⟩
  have F1 : Hid (Fr (fun _ _ => True) w W1) := hW1 ▸ (Fr.refl _ _).alloc _
  have X1 : Hid (W1.heap[w.heap.size]? = some (.cells #[.int .i64 3, .int .i64 (cl : Nat), .int .u32 (sq : Nat), .int .i64 (rg : Nat), .int .i64 (md : Nat), .int .u64 (tk : Nat), .int .u64 (tm : Nat)] 33 (0, 0))) := hW1 ▸ heap_alloc_new w _
  obtain ⟨W2, hW2⟩ : ∃ W, W1.alloc (.cells #[.int .i64 0, .int .u64 0] 36 (0, 0)) = W := ⟨_, rfl⟩
  have F2 : Hid (Fr (fun _ _ => True) W1 W2) := hW2 ▸ (Fr.refl _ _).alloc _
  have X2 : Hid (W2.heap[W1.heap.size]? = some (.cells #[.int .i64 0, .int .u64 0] 36 (0, 0))) := hW2 ▸ heap_alloc_new W1 _
  have SV2 := Lib.hid (h.fr (F1.out.trans F2.out))
  have k1 := SV2.out.lk.out X2.out (kp_cells (by decide) (by decide))
  have kx := F2.out.keep _ _ X1.out trivial
  have k2 := SV2.out.lk.out kx (kp_cells (by decide) (by decide))
  have kb := (F1.out.trans F2.out).keep _ _ hx trivial
  have k3 := SV2.out.lk.out kb (kp_cells (by decide) (by decide))
  have k4 := SV2.out.lk.out SV2.out.st (kp_cells (by decide) (by decide))
  have hlt1 := lt_of_some X1.out
  have hltb := lt_of_some hx
  have hlts := lt_of_some h.st
  have NE : Hid (w.heap.size ≠ W1.heap.size ∧ bx ≠ W1.heap.size ∧ bs ≠ W1.heap.size) := ⟨by omega, by have := F1.out.size; omega, by have := F1.out.size; omega⟩
  have CC : Hid (∀ W, Fr (fun k _ => ¬ P k ∧ k ≠ W1.heap.size) W2 W → W.cell? ⟨bx, 0, none⟩ = some (.pointer (some ⟨bs, 0, none⟩)) ∧ W.cell? ⟨bs, 1, none⟩ = some (.pointer (some ⟨b2, 0, none⟩)) ∧ W.cell? ⟨w.heap.size, 1, none⟩ = some (.int .i64 (cl : Nat)) ∧ W.cell? ⟨w.heap.size, 3, none⟩ = some (.int .i64 (rg : Nat)) ∧ W.cell? ⟨w.heap.size, 4, none⟩ = some (.int .i64 (md : Nat))) := fun W f => by
    have t1 := f.keep _ _ kb ⟨k3, NE.out.2.1⟩
    have t2 := f.keep _ _ SV2.out.st ⟨k4, NE.out.2.2⟩
    have t3 := f.keep _ _ kx ⟨k2, NE.out.1⟩
    exact ⟨cell_mk t1 rfl, cell_mk t2 rfl, cell_mk t3 rfl, cell_mk t3 rfl, cell_mk t3 rfl⟩
  have F0 : Hid (Fr (fun _ _ => True) W2 W2.drew) := (Fr.refl _ _).drew
  have AC := Lib.hid (fun W (f : Fr (fun _ _ => True) W2 W) => acquire_calls W b2 cl rg md L (SV2.out.lk.tt f) (Nat.le_trans hn (Nat.le_trans (F1.out.trans F2.out).size f.size)))
  have NP1 := Lib.hid k1
  have G2 : Hid (Fr (fun _ _ => True) w W2) := F1.out.trans F2.out
  have HSZ : Hid (w.heap.size < W1.heap.size) := hlt1
  have HN := Lib.hid hn
  have TL := Lib.hid (fun W x e => told_calls W x e)
  clear h hx hn k1 k2 k3 k4 kb kx hlt1 hltb hlts
  generalize acquireM L cl rg md = AM at *
  go_enter Tryz.func100, Tryz.ntmps100
  go_wp2_with fail
  go_region_held3 (fun W => W.cell? ⟨bx, 0, none⟩ = some (.pointer (some ⟨bs, 0, none⟩)) ∧ W.cell? ⟨bs, 1, none⟩ = some (.pointer (some ⟨b2, 0, none⟩)) ∧ W.cell? ⟨w.heap.size, 1, none⟩ = some (.int .i64 (cl : Nat)) ∧ W.cell? ⟨w.heap.size, 3, none⟩ = some (.int .i64 (rg : Nat)) ∧ W.cell? ⟨w.heap.size, 4, none⟩ = some (.int .i64 (md : Nat)))
    (first | exact CC.out _ (F0.out.mono fun _ _ _ => trivial) | exact CC.out _ FK.out | exact CC.out _ FL.out | exact CC.out _ ((FL.out.setCell (fun _ _ h => h.2 rfl) _).setCell (fun _ _ h => h.2 rfl) _))
    (first
      | (go_at_call 102; go_must ((with_reducible refine (AC.out _ ?cf).mono ?_); (case cf => exact F0.out); rintro e w9 ⟨rfl, P9, T9, K9⟩; have HT9 := Lib.hid T9; have HK9 := Lib.hid ((Kp.rfl' P F0.out).trans K9); have FK : Hid (Fr (fun k _ => ¬ P k ∧ k ≠ W1.heap.size) W2 w9) := HK9.out.fr.mono fun _ _ h => h.1; clear T9 K9))
      | (go_at_call 101; go_must ((with_reducible refine (TL.out _ _ _).mono ?_); (rintro e w10 ⟨rfl, f10⟩); have F10 := Lib.hid f10; have FL : Hid (Fr (fun k _ => ¬ P k ∧ k ≠ W1.heap.size) W2 w10) := FK.out.tt f10; have X10 : Hid (w10.heap[W1.heap.size]? = some (.cells #[.int .i64 0, .int .u64 0] 36 (0, 0))) := f10.keep _ _ (HK9.out.fr.keep _ _ X2.out NP1.out) trivial; have q0 := cell_mk (i := 0) X10.out rfl; have q1 := cell_mk (i := 1) X10.out rfl; have y0 := frozen_mk (i := 0) X10.out; have y1 := frozen_mk (i := 1) X10.out; clear f10)))
  all_goals
    obtain ⟨WZ, hWZ⟩ : ∃ W, (w10.setCell ⟨W1.heap.size, 0, none⟩ (.int .i64 (AM.1.2 : Nat))).setCell ⟨W1.heap.size, 1, none⟩ (.int .u64 (AM.1.1 : Nat)) = W := ⟨_, rfl⟩
    have TZ : Hid (WZ.heap[W1.heap.size]? = some (.cells #[.int .i64 (AM.1.2 : Nat), .int .u64 (AM.1.1 : Nat)] 36 (0, 0))) := hWZ ▸ heap_setCell_same (o := 1) (heap_setCell_same (o := 0) X10.out _) _
    have p0 := cell_mk (i := 0) TZ.out rfl
    have p1 := cell_mk (i := 1) TZ.out rfl
    have FZ : Hid (Fr (fun k _ => k ≠ W1.heap.size) w10 WZ) := hWZ ▸ ((Fr.refl _ _).setCell (fun _ _ h => h rfl) _).setCell (fun _ _ h => h rfl) _
    clear q0 q1 y0 y1
    go_wp2
    try rw [hWZ]
    refine bodyPost_ret (v := .agg #[.int .i64 (AM.1.2 : Nat), .int .u64 (AM.1.1 : Nat)]) (by simp [results, Tryz.results100, go_sem, *]) rfl ⟨by rw [EO.out]; rfl, P9, ?_, ?_⟩
    · rw [EO.out]
      have S9 := (SV2.out.lock HT9.out HK9.out).fr F10.out
      have hb : n ≤ W1.heap.size := Nat.le_trans HN.out (Nat.le_of_lt HSZ.out)
      exact S9.frk FZ.out (S9.kv_other X10.out hb (by decide))
    · have K1 : Kp P P9 w w10 := ((Kp.rfl' P G2.out).trans HK9.out).trans (Kp.rfl' P9 F10.out)
      have e : Fr (fun k _ => ¬ P k) w WZ := Fr.within ((K1.fr.mono fun _ _ h => h.1).trans (FZ.out.mono fun k _ h => by have := h.2; have := HSZ.out; omega))
      exact ⟨e, K1.out⟩
set_option maxRecDepth 100000 in
set_option maxHeartbeats 2000000 in
theorem op2_calls {n : Nat} {P Q : Nat → Prop} (w : World) (bs b1 b2 bx : Nat) (M : MT) (L : Lk) (c : Cm) (h : SV n P Q w bs b1 b2 M L) (hx : w.heap[bx]? = some (.cells #[.pointer (some ⟨bs, 0, none⟩)] 25 (0, 0))) (hn : n ≤ w.heap.size) (hop : c.op = 4) :
    Calls Tryz.prog 103 #[vM c, .pointer (some ⟨bx, 0, none⟩)] w fun e w' => e = .returned (vR (opM L c).1) ∧ ∃ P', SV n P' Q w' bs b1 b2 M (opM L c).2 ∧ Kp P P' w w' := by
  obtain ⟨op, cl, sq, rg, md, tk, tm⟩ := c
  unfold vM
  dsimp only at hop ⊢
  subst hop
  have EO : Hid (opM L ⟨4, cl, sq, rg, md, tk, tm⟩ = (⟨(releaseM L cl rg tk).1, 0⟩, (releaseM L cl rg tk).2)) := rfl
  obtain ⟨W1, hW1⟩ : ∃ W, w.alloc (.cells #[.int .i64 4, .int .i64 (cl : Nat), .int .u32 (sq : Nat), .int .i64 (rg : Nat), .int .i64 (md : Nat), .int .u64 (tk : Nat), .int .u64 (tm : Nat)] 33 (0, 0)) = W := ⟨_, rfl⟩
  have F1 : Hid (Fr (fun _ _ => True) w W1) := hW1 ▸ (Fr.refl _ _).alloc _
  have X1 : Hid (W1.heap[w.heap.size]? = some (.cells #[.int .i64 4, .int .i64 (cl : Nat), .int .u32 (sq : Nat), .int .i64 (rg : Nat), .int .i64 (md : Nat), .int .u64 (tk : Nat), .int .u64 (tm : Nat)] 33 (0, 0))) := hW1 ▸ heap_alloc_new w _
  obtain ⟨W2, hW2⟩ : ∃ W, W1.alloc (.cells #[.int .i64 0, .int .u64 0] 36 (0, 0)) = W := ⟨_, rfl⟩
  have F2 : Hid (Fr (fun _ _ => True) W1 W2) := hW2 ▸ (Fr.refl _ _).alloc _
  have X2 : Hid (W2.heap[W1.heap.size]? = some (.cells #[.int .i64 0, .int .u64 0] 36 (0, 0))) := hW2 ▸ heap_alloc_new W1 _
  have SV2 := Lib.hid (h.fr (F1.out.trans F2.out))
  have k1 := SV2.out.lk.out X2.out (kp_cells (by decide) (by decide))
  have kx := F2.out.keep _ _ X1.out trivial
  have k2 := SV2.out.lk.out kx (kp_cells (by decide) (by decide))
  have kb := (F1.out.trans F2.out).keep _ _ hx trivial
  have k3 := SV2.out.lk.out kb (kp_cells (by decide) (by decide))
  have k4 := SV2.out.lk.out SV2.out.st (kp_cells (by decide) (by decide))
  have hlt1 := lt_of_some X1.out
  have hltb := lt_of_some hx
  have hlts := lt_of_some h.st
  have NE : Hid (w.heap.size ≠ W1.heap.size ∧ bx ≠ W1.heap.size ∧ bs ≠ W1.heap.size) := ⟨by omega, by have := F1.out.size; omega, by have := F1.out.size; omega⟩
  have CC : Hid (∀ W, Fr (fun k _ => ¬ P k ∧ k ≠ W1.heap.size) W2 W → W.cell? ⟨bx, 0, none⟩ = some (.pointer (some ⟨bs, 0, none⟩)) ∧ W.cell? ⟨bs, 1, none⟩ = some (.pointer (some ⟨b2, 0, none⟩)) ∧ W.cell? ⟨w.heap.size, 1, none⟩ = some (.int .i64 (cl : Nat)) ∧ W.cell? ⟨w.heap.size, 3, none⟩ = some (.int .i64 (rg : Nat)) ∧ W.cell? ⟨w.heap.size, 5, none⟩ = some (.int .u64 (tk : Nat))) := fun W f => by
    have t1 := f.keep _ _ kb ⟨k3, NE.out.2.1⟩
    have t2 := f.keep _ _ SV2.out.st ⟨k4, NE.out.2.2⟩
    have t3 := f.keep _ _ kx ⟨k2, NE.out.1⟩
    exact ⟨cell_mk t1 rfl, cell_mk t2 rfl, cell_mk t3 rfl, cell_mk t3 rfl, cell_mk t3 rfl⟩
  have F0 : Hid (Fr (fun _ _ => True) W2 W2.drew) := (Fr.refl _ _).drew
  have AC := Lib.hid (fun W (f : Fr (fun _ _ => True) W2 W) => release_calls W b2 cl rg tk L (SV2.out.lk.tt f) (Nat.le_trans hn (Nat.le_trans (F1.out.trans F2.out).size f.size)))
  have NP1 := Lib.hid k1
  have G2 : Hid (Fr (fun _ _ => True) w W2) := F1.out.trans F2.out
  have HSZ : Hid (w.heap.size < W1.heap.size) := hlt1
  have HN := Lib.hid hn
  have TL := Lib.hid (show ∀ (W : World) (e : Nat), Calls Tryz.prog 101 #[.int .u64 0, .int .i64 (e : Nat)] W (fun q w' => q = .returned (.agg #[.int .i64 (e : Nat), .int .u64 0]) ∧ Fr (fun _ _ => True) W w') from fun W e => told_calls W 0 e)
  clear h hx hn k1 k2 k3 k4 kb kx hlt1 hltb hlts
  generalize releaseM L cl rg tk = AM at *
  go_enter Tryz.func103, Tryz.ntmps103
  go_wp2_with fail
  go_region_held3 (fun W => W.cell? ⟨bx, 0, none⟩ = some (.pointer (some ⟨bs, 0, none⟩)) ∧ W.cell? ⟨bs, 1, none⟩ = some (.pointer (some ⟨b2, 0, none⟩)) ∧ W.cell? ⟨w.heap.size, 1, none⟩ = some (.int .i64 (cl : Nat)) ∧ W.cell? ⟨w.heap.size, 3, none⟩ = some (.int .i64 (rg : Nat)) ∧ W.cell? ⟨w.heap.size, 5, none⟩ = some (.int .u64 (tk : Nat)))
    (first | exact CC.out _ (F0.out.mono fun _ _ _ => trivial) | exact CC.out _ FK.out | exact CC.out _ FL.out | exact CC.out _ ((FL.out.setCell (fun _ _ h => h.2 rfl) _).setCell (fun _ _ h => h.2 rfl) _))
    (first
      | (go_at_call 66; go_must ((with_reducible refine (AC.out _ ?cf).mono ?_); (case cf => exact F0.out); rintro e w9 ⟨rfl, P9, T9, K9⟩; have HT9 := Lib.hid T9; have HK9 := Lib.hid ((Kp.rfl' P F0.out).trans K9); have FK : Hid (Fr (fun k _ => ¬ P k ∧ k ≠ W1.heap.size) W2 w9) := HK9.out.fr.mono fun _ _ h => h.1; clear T9 K9))
      | (go_at_call 101; go_must ((with_reducible refine (TL.out _ _).mono ?_); (rintro e w10 ⟨rfl, f10⟩); have F10 := Lib.hid f10; have FL : Hid (Fr (fun k _ => ¬ P k ∧ k ≠ W1.heap.size) W2 w10) := FK.out.tt f10; have X10 : Hid (w10.heap[W1.heap.size]? = some (.cells #[.int .i64 0, .int .u64 0] 36 (0, 0))) := f10.keep _ _ (HK9.out.fr.keep _ _ X2.out NP1.out) trivial; have q0 := cell_mk (i := 0) X10.out rfl; have q1 := cell_mk (i := 1) X10.out rfl; have y0 := frozen_mk (i := 0) X10.out; have y1 := frozen_mk (i := 1) X10.out; clear f10)))
  all_goals
    obtain ⟨WZ, hWZ⟩ : ∃ W, (w10.setCell ⟨W1.heap.size, 0, none⟩ (.int .i64 (AM.1 : Nat))).setCell ⟨W1.heap.size, 1, none⟩ (.int .u64 0) = W := ⟨_, rfl⟩
    have TZ : Hid (WZ.heap[W1.heap.size]? = some (.cells #[.int .i64 (AM.1 : Nat), .int .u64 0] 36 (0, 0))) := hWZ ▸ heap_setCell_same (o := 1) (heap_setCell_same (o := 0) X10.out _) _
    have p0 := cell_mk (i := 0) TZ.out rfl
    have p1 := cell_mk (i := 1) TZ.out rfl
    have FZ : Hid (Fr (fun k _ => k ≠ W1.heap.size) w10 WZ) := hWZ ▸ ((Fr.refl _ _).setCell (fun _ _ h => h rfl) _).setCell (fun _ _ h => h rfl) _
    clear q0 q1 y0 y1
    go_wp2
    try rw [hWZ]
    refine bodyPost_ret (v := .agg #[.int .i64 (AM.1 : Nat), .int .u64 0]) (by simp [results, Tryz.results103, go_sem, *]) rfl ⟨by rw [EO.out]; rfl, P9, ?_, ?_⟩
    · rw [EO.out]
      have S9 := (SV2.out.lock HT9.out HK9.out).fr F10.out
      have hb : n ≤ W1.heap.size := Nat.le_trans HN.out (Nat.le_of_lt HSZ.out)
      exact S9.frk FZ.out (S9.kv_other X10.out hb (by decide))
    · have K1 : Kp P P9 w w10 := ((Kp.rfl' P G2.out).trans HK9.out).trans (Kp.rfl' P9 F10.out)
      have e : Fr (fun k _ => ¬ P k) w WZ := Fr.within ((K1.fr.mono fun _ _ h => h.1).trans (FZ.out.mono fun k _ h => by have := h.2; have := HSZ.out; omega))
      exact ⟨e, K1.out⟩
set_option maxRecDepth 100000 in
set_option maxHeartbeats 2000000 in
theorem op3_calls {n : Nat} {P Q : Nat → Prop} (w : World) (bs b1 b2 bx : Nat) (M : MT) (L : Lk) (c : Cm) (h : SV n P Q w bs b1 b2 M L) (hx : w.heap[bx]? = some (.cells #[.pointer (some ⟨bs, 0, none⟩)] 25 (0, 0))) (hn : n ≤ w.heap.size) (hop : c.op = 5) :
    Calls Tryz.prog 104 #[vM c, .pointer (some ⟨bx, 0, none⟩)] w fun e w' => e = .returned (vR (opM L c).1) ∧ ∃ P', SV n P' Q w' bs b1 b2 M (opM L c).2 ∧ Kp P P' w w' := by
  obtain ⟨op, cl, sq, rg, md, tk, tm⟩ := c
  unfold vM
  dsimp only at hop ⊢
  subst hop
  have EO : Hid (opM L ⟨5, cl, sq, rg, md, tk, tm⟩ = (⟨(renewM L cl rg tk).1.2, (renewM L cl rg tk).1.1⟩, (renewM L cl rg tk).2)) := rfl
  obtain ⟨W1, hW1⟩ : ∃ W, w.alloc (.cells #[.int .i64 5, .int .i64 (cl : Nat), .int .u32 (sq : Nat), .int .i64 (rg : Nat), .int .i64 (md : Nat), .int .u64 (tk : Nat), .int .u64 (tm : Nat)] 33 (0, 0)) = W := ⟨_, rfl⟩
  have F1 : Hid (Fr (fun _ _ => True) w W1) := hW1 ▸ (Fr.refl _ _).alloc _
  have X1 : Hid (W1.heap[w.heap.size]? = some (.cells #[.int .i64 5, .int .i64 (cl : Nat), .int .u32 (sq : Nat), .int .i64 (rg : Nat), .int .i64 (md : Nat), .int .u64 (tk : Nat), .int .u64 (tm : Nat)] 33 (0, 0))) := hW1 ▸ heap_alloc_new w _
  obtain ⟨W2, hW2⟩ : ∃ W, W1.alloc (.cells #[.int .i64 0, .int .u64 0] 36 (0, 0)) = W := ⟨_, rfl⟩
  have F2 : Hid (Fr (fun _ _ => True) W1 W2) := hW2 ▸ (Fr.refl _ _).alloc _
  have X2 : Hid (W2.heap[W1.heap.size]? = some (.cells #[.int .i64 0, .int .u64 0] 36 (0, 0))) := hW2 ▸ heap_alloc_new W1 _
  have SV2 := Lib.hid (h.fr (F1.out.trans F2.out))
  have k1 := SV2.out.lk.out X2.out (kp_cells (by decide) (by decide))
  have kx := F2.out.keep _ _ X1.out trivial
  have k2 := SV2.out.lk.out kx (kp_cells (by decide) (by decide))
  have kb := (F1.out.trans F2.out).keep _ _ hx trivial
  have k3 := SV2.out.lk.out kb (kp_cells (by decide) (by decide))
  have k4 := SV2.out.lk.out SV2.out.st (kp_cells (by decide) (by decide))
  have hlt1 := lt_of_some X1.out
  have hltb := lt_of_some hx
  have hlts := lt_of_some h.st
  have NE : Hid (w.heap.size ≠ W1.heap.size ∧ bx ≠ W1.heap.size ∧ bs ≠ W1.heap.size) := ⟨by omega, by have := F1.out.size; omega, by have := F1.out.size; omega⟩
  have CC : Hid (∀ W, Fr (fun k _ => ¬ P k ∧ k ≠ W1.heap.size) W2 W → W.cell? ⟨bx, 0, none⟩ = some (.pointer (some ⟨bs, 0, none⟩)) ∧ W.cell? ⟨bs, 1, none⟩ = some (.pointer (some ⟨b2, 0, none⟩)) ∧ W.cell? ⟨w.heap.size, 1, none⟩ = some (.int .i64 (cl : Nat)) ∧ W.cell? ⟨w.heap.size, 3, none⟩ = some (.int .i64 (rg : Nat)) ∧ W.cell? ⟨w.heap.size, 5, none⟩ = some (.int .u64 (tk : Nat))) := fun W f => by
    have t1 := f.keep _ _ kb ⟨k3, NE.out.2.1⟩
    have t2 := f.keep _ _ SV2.out.st ⟨k4, NE.out.2.2⟩
    have t3 := f.keep _ _ kx ⟨k2, NE.out.1⟩
    exact ⟨cell_mk t1 rfl, cell_mk t2 rfl, cell_mk t3 rfl, cell_mk t3 rfl, cell_mk t3 rfl⟩
  have F0 : Hid (Fr (fun _ _ => True) W2 W2.drew) := (Fr.refl _ _).drew
  have AC := Lib.hid (fun W (f : Fr (fun _ _ => True) W2 W) => renew_calls W b2 cl rg tk L (SV2.out.lk.tt f))
  have NP1 := Lib.hid k1
  have G2 : Hid (Fr (fun _ _ => True) w W2) := F1.out.trans F2.out
  have HSZ : Hid (w.heap.size < W1.heap.size) := hlt1
  have HN := Lib.hid hn
  have TL := Lib.hid (fun W x e => told_calls W x e)
  clear h hx hn k1 k2 k3 k4 kb kx hlt1 hltb hlts
  generalize renewM L cl rg tk = AM at *
  go_enter Tryz.func104, Tryz.ntmps104
  go_wp2_with fail
  go_region_held3 (fun W => W.cell? ⟨bx, 0, none⟩ = some (.pointer (some ⟨bs, 0, none⟩)) ∧ W.cell? ⟨bs, 1, none⟩ = some (.pointer (some ⟨b2, 0, none⟩)) ∧ W.cell? ⟨w.heap.size, 1, none⟩ = some (.int .i64 (cl : Nat)) ∧ W.cell? ⟨w.heap.size, 3, none⟩ = some (.int .i64 (rg : Nat)) ∧ W.cell? ⟨w.heap.size, 5, none⟩ = some (.int .u64 (tk : Nat)))
    (first | exact CC.out _ (F0.out.mono fun _ _ _ => trivial) | exact CC.out _ FK.out | exact CC.out _ FL.out | exact CC.out _ ((FL.out.setCell (fun _ _ h => h.2 rfl) _).setCell (fun _ _ h => h.2 rfl) _))
    (first
      | (go_at_call 105; go_must ((with_reducible refine (AC.out _ ?cf).mono ?_); (case cf => exact F0.out); rintro e w9 ⟨rfl, P9, T9, K9⟩; have HT9 := Lib.hid T9; have HK9 := Lib.hid ((Kp.rfl' P F0.out).trans K9); have FK : Hid (Fr (fun k _ => ¬ P k ∧ k ≠ W1.heap.size) W2 w9) := HK9.out.fr.mono fun _ _ h => h.1; clear T9 K9))
      | (go_at_call 101; go_must ((with_reducible refine (TL.out _ _ _).mono ?_); (rintro e w10 ⟨rfl, f10⟩); have F10 := Lib.hid f10; have FL : Hid (Fr (fun k _ => ¬ P k ∧ k ≠ W1.heap.size) W2 w10) := FK.out.tt f10; have X10 : Hid (w10.heap[W1.heap.size]? = some (.cells #[.int .i64 0, .int .u64 0] 36 (0, 0))) := f10.keep _ _ (HK9.out.fr.keep _ _ X2.out NP1.out) trivial; have q0 := cell_mk (i := 0) X10.out rfl; have q1 := cell_mk (i := 1) X10.out rfl; have y0 := frozen_mk (i := 0) X10.out; have y1 := frozen_mk (i := 1) X10.out; clear f10)))
  all_goals
    obtain ⟨WZ, hWZ⟩ : ∃ W, (w10.setCell ⟨W1.heap.size, 0, none⟩ (.int .i64 (AM.1.2 : Nat))).setCell ⟨W1.heap.size, 1, none⟩ (.int .u64 (AM.1.1 : Nat)) = W := ⟨_, rfl⟩
    have TZ : Hid (WZ.heap[W1.heap.size]? = some (.cells #[.int .i64 (AM.1.2 : Nat), .int .u64 (AM.1.1 : Nat)] 36 (0, 0))) := hWZ ▸ heap_setCell_same (o := 1) (heap_setCell_same (o := 0) X10.out _) _
    have p0 := cell_mk (i := 0) TZ.out rfl
    have p1 := cell_mk (i := 1) TZ.out rfl
    have FZ : Hid (Fr (fun k _ => k ≠ W1.heap.size) w10 WZ) := hWZ ▸ ((Fr.refl _ _).setCell (fun _ _ h => h rfl) _).setCell (fun _ _ h => h rfl) _
    clear q0 q1 y0 y1
    go_wp2
    try rw [hWZ]
    refine bodyPost_ret (v := .agg #[.int .i64 (AM.1.2 : Nat), .int .u64 (AM.1.1 : Nat)]) (by simp [results, Tryz.results104, go_sem, *]) rfl ⟨by rw [EO.out]; rfl, P9, ?_, ?_⟩
    · rw [EO.out]
      have S9 := (SV2.out.lock HT9.out HK9.out).fr F10.out
      have hb : n ≤ W1.heap.size := Nat.le_trans HN.out (Nat.le_of_lt HSZ.out)
      exact S9.frk FZ.out (S9.kv_other X10.out hb (by decide))
    · have K1 : Kp P P9 w w10 := ((Kp.rfl' P G2.out).trans HK9.out).trans (Kp.rfl' P9 F10.out)
      have e : Fr (fun k _ => ¬ P k) w WZ := Fr.within ((K1.fr.mono fun _ _ h => h.1).trans (FZ.out.mono fun k _ h => by have := h.2; have := HSZ.out; omega))
      exact ⟨e, K1.out⟩
set_option maxRecDepth 100000 in
set_option maxHeartbeats 2000000 in
theorem op4_calls {n : Nat} {P Q : Nat → Prop} (w : World) (bs b1 b2 bx : Nat) (M : MT) (L : Lk) (c : Cm) (h : SV n P Q w bs b1 b2 M L) (hx : w.heap[bx]? = some (.cells #[.pointer (some ⟨bs, 0, none⟩)] 25 (0, 0))) (hn : n ≤ w.heap.size) (hop : c.op = 6) :
    Calls Tryz.prog 106 #[vM c, .pointer (some ⟨bx, 0, none⟩)] w fun e w' => e = .returned (vR (opM L c).1) ∧ ∃ P', SV n P' Q w' bs b1 b2 M (opM L c).2 ∧ Kp P P' w w' := by
  obtain ⟨op, cl, sq, rg, md, tk, tm⟩ := c
  unfold vM
  dsimp only at hop ⊢
  subst hop
  have EO : Hid (opM L ⟨6, cl, sq, rg, md, tk, tm⟩ = (⟨(cancelM L cl rg).1, 0⟩, (cancelM L cl rg).2)) := rfl
  obtain ⟨W1, hW1⟩ : ∃ W, w.alloc (.cells #[.int .i64 6, .int .i64 (cl : Nat), .int .u32 (sq : Nat), .int .i64 (rg : Nat), .int .i64 (md : Nat), .int .u64 (tk : Nat), .int .u64 (tm : Nat)] 33 (0, 0)) = W := ⟨_, rfl⟩
  have F1 : Hid (Fr (fun _ _ => True) w W1) := hW1 ▸ (Fr.refl _ _).alloc _
  have X1 : Hid (W1.heap[w.heap.size]? = some (.cells #[.int .i64 6, .int .i64 (cl : Nat), .int .u32 (sq : Nat), .int .i64 (rg : Nat), .int .i64 (md : Nat), .int .u64 (tk : Nat), .int .u64 (tm : Nat)] 33 (0, 0))) := hW1 ▸ heap_alloc_new w _
  obtain ⟨W2, hW2⟩ : ∃ W, W1.alloc (.cells #[.int .i64 0, .int .u64 0] 36 (0, 0)) = W := ⟨_, rfl⟩
  have F2 : Hid (Fr (fun _ _ => True) W1 W2) := hW2 ▸ (Fr.refl _ _).alloc _
  have X2 : Hid (W2.heap[W1.heap.size]? = some (.cells #[.int .i64 0, .int .u64 0] 36 (0, 0))) := hW2 ▸ heap_alloc_new W1 _
  have SV2 := Lib.hid (h.fr (F1.out.trans F2.out))
  have k1 := SV2.out.lk.out X2.out (kp_cells (by decide) (by decide))
  have kx := F2.out.keep _ _ X1.out trivial
  have k2 := SV2.out.lk.out kx (kp_cells (by decide) (by decide))
  have kb := (F1.out.trans F2.out).keep _ _ hx trivial
  have k3 := SV2.out.lk.out kb (kp_cells (by decide) (by decide))
  have k4 := SV2.out.lk.out SV2.out.st (kp_cells (by decide) (by decide))
  have hlt1 := lt_of_some X1.out
  have hltb := lt_of_some hx
  have hlts := lt_of_some h.st
  have NE : Hid (w.heap.size ≠ W1.heap.size ∧ bx ≠ W1.heap.size ∧ bs ≠ W1.heap.size) := ⟨by omega, by have := F1.out.size; omega, by have := F1.out.size; omega⟩
  have CC : Hid (∀ W, Fr (fun k _ => ¬ P k ∧ k ≠ W1.heap.size) W2 W → W.cell? ⟨bx, 0, none⟩ = some (.pointer (some ⟨bs, 0, none⟩)) ∧ W.cell? ⟨bs, 1, none⟩ = some (.pointer (some ⟨b2, 0, none⟩)) ∧ W.cell? ⟨w.heap.size, 1, none⟩ = some (.int .i64 (cl : Nat)) ∧ W.cell? ⟨w.heap.size, 3, none⟩ = some (.int .i64 (rg : Nat))) := fun W f => by
    have t1 := f.keep _ _ kb ⟨k3, NE.out.2.1⟩
    have t2 := f.keep _ _ SV2.out.st ⟨k4, NE.out.2.2⟩
    have t3 := f.keep _ _ kx ⟨k2, NE.out.1⟩
    exact ⟨cell_mk t1 rfl, cell_mk t2 rfl, cell_mk t3 rfl, cell_mk t3 rfl⟩
  have F0 : Hid (Fr (fun _ _ => True) W2 W2.drew) := (Fr.refl _ _).drew
  have AC := Lib.hid (fun W (f : Fr (fun _ _ => True) W2 W) => cancel_calls W b2 cl rg L (SV2.out.lk.tt f) (Nat.le_trans hn (Nat.le_trans (F1.out.trans F2.out).size f.size)))
  have NP1 := Lib.hid k1
  have G2 : Hid (Fr (fun _ _ => True) w W2) := F1.out.trans F2.out
  have HSZ : Hid (w.heap.size < W1.heap.size) := hlt1
  have HN := Lib.hid hn
  have TL := Lib.hid (show ∀ (W : World) (e : Nat), Calls Tryz.prog 101 #[.int .u64 0, .int .i64 (e : Nat)] W (fun q w' => q = .returned (.agg #[.int .i64 (e : Nat), .int .u64 0]) ∧ Fr (fun _ _ => True) W w') from fun W e => told_calls W 0 e)
  clear h hx hn k1 k2 k3 k4 kb kx hlt1 hltb hlts
  generalize cancelM L cl rg = AM at *
  go_enter Tryz.func106, Tryz.ntmps106
  go_wp2_with fail
  go_region_held3 (fun W => W.cell? ⟨bx, 0, none⟩ = some (.pointer (some ⟨bs, 0, none⟩)) ∧ W.cell? ⟨bs, 1, none⟩ = some (.pointer (some ⟨b2, 0, none⟩)) ∧ W.cell? ⟨w.heap.size, 1, none⟩ = some (.int .i64 (cl : Nat)) ∧ W.cell? ⟨w.heap.size, 3, none⟩ = some (.int .i64 (rg : Nat)))
    (first | exact CC.out _ (F0.out.mono fun _ _ _ => trivial) | exact CC.out _ FK.out | exact CC.out _ FL.out | exact CC.out _ ((FL.out.setCell (fun _ _ h => h.2 rfl) _).setCell (fun _ _ h => h.2 rfl) _))
    (first
      | (go_at_call 67; go_must ((with_reducible refine (AC.out _ ?cf).mono ?_); (case cf => exact F0.out); rintro e w9 ⟨rfl, P9, T9, K9⟩; have HT9 := Lib.hid T9; have HK9 := Lib.hid ((Kp.rfl' P F0.out).trans K9); have FK : Hid (Fr (fun k _ => ¬ P k ∧ k ≠ W1.heap.size) W2 w9) := HK9.out.fr.mono fun _ _ h => h.1; clear T9 K9))
      | (go_at_call 101; go_must ((with_reducible refine (TL.out _ _).mono ?_); (rintro e w10 ⟨rfl, f10⟩); have F10 := Lib.hid f10; have FL : Hid (Fr (fun k _ => ¬ P k ∧ k ≠ W1.heap.size) W2 w10) := FK.out.tt f10; have X10 : Hid (w10.heap[W1.heap.size]? = some (.cells #[.int .i64 0, .int .u64 0] 36 (0, 0))) := f10.keep _ _ (HK9.out.fr.keep _ _ X2.out NP1.out) trivial; have q0 := cell_mk (i := 0) X10.out rfl; have q1 := cell_mk (i := 1) X10.out rfl; have y0 := frozen_mk (i := 0) X10.out; have y1 := frozen_mk (i := 1) X10.out; clear f10)))
  all_goals
    obtain ⟨WZ, hWZ⟩ : ∃ W, (w10.setCell ⟨W1.heap.size, 0, none⟩ (.int .i64 (AM.1 : Nat))).setCell ⟨W1.heap.size, 1, none⟩ (.int .u64 0) = W := ⟨_, rfl⟩
    have TZ : Hid (WZ.heap[W1.heap.size]? = some (.cells #[.int .i64 (AM.1 : Nat), .int .u64 0] 36 (0, 0))) := hWZ ▸ heap_setCell_same (o := 1) (heap_setCell_same (o := 0) X10.out _) _
    have p0 := cell_mk (i := 0) TZ.out rfl
    have p1 := cell_mk (i := 1) TZ.out rfl
    have FZ : Hid (Fr (fun k _ => k ≠ W1.heap.size) w10 WZ) := hWZ ▸ ((Fr.refl _ _).setCell (fun _ _ h => h rfl) _).setCell (fun _ _ h => h rfl) _
    clear q0 q1 y0 y1
    go_wp2
    try rw [hWZ]
    refine bodyPost_ret (v := .agg #[.int .i64 (AM.1 : Nat), .int .u64 0]) (by simp [results, Tryz.results106, go_sem, *]) rfl ⟨by rw [EO.out]; rfl, P9, ?_, ?_⟩
    · rw [EO.out]
      have S9 := (SV2.out.lock HT9.out HK9.out).fr F10.out
      have hb : n ≤ W1.heap.size := Nat.le_trans HN.out (Nat.le_of_lt HSZ.out)
      exact S9.frk FZ.out (S9.kv_other X10.out hb (by decide))
    · have K1 : Kp P P9 w w10 := ((Kp.rfl' P G2.out).trans HK9.out).trans (Kp.rfl' P9 F10.out)
      have e : Fr (fun k _ => ¬ P k) w WZ := Fr.within ((K1.fr.mono fun _ _ h => h.1).trans (FZ.out.mono fun k _ h => by have := h.2; have := HSZ.out; omega))
      exact ⟨e, K1.out⟩
end Go.Proofs.YtlolfcnfcgegdaaGreat
/- The service: the map of what commands do. -/
namespace Go.Proofs.YtlolfcnfcgegdaaGreat
open Go.RowKit
set_option linter.unusedVariables false
set_option linter.unusedSimpArgs false

theorem wpList_insert_int {P : Program} (w : World) {ops : Array Oper} {rest : List Oper} {o : Oper} {a : Act} {Q : Exit → Act → World → Prop} (hg : o.guard = none) (m x v : Operand) (t : TypeId) (hop : o.op = Op.insert t m x v)
    (k e : TypeId) (q : IntKind) (ht : P.underlying t = some (.map k e)) (hk : P.underlying k = some (.int q)) (b c : Nat) (l : List (Int × Value × Nat)) (n : Int) (val : Value)
    (hm : a.eval m = .map (some b)) (hx : a.eval x = .int q n) (hv : a.eval v = val) (hb : w.heap[b]? = some (.map (entriesOf q l) c))
    (hK : wpList P ops Q rest (a.put o.dst undef) (w.putObj b (.map (entriesOf q (lay l n val c)) (tick l n c)))) : wpList P ops Q (o :: rest) a w := by
  refine wpList_plain hg fun K' hK' => ?_
  have hrun := run_update_int ht hk b n val l c w hb
  unfold Oper.wp
  simp [execOp, hop, hm, hx, hv, hrun, Result.andThen]
  exact hK' _ _ hK
theorem run_lookup_int1 {P : Program} {t k e : TypeId} {q : IntKind} (ht : P.underlying t = some (.map k e)) (hk : P.underlying k = some (.int q)) (b : Nat) (n : Int) (l : List (Int × Value × Nat)) (c : Nat) (w : World) (v : Value) (hb : w.heap[b]? = some (.map (entriesOf q l) c)) (hl : look l n = some v) :
    (Instr.lookup t (.map (some b)) (.int q n) false).run P w = .ok v w := by
  unfold Instr.lookup
  simp [run_underlying ht, run_getObj_map w b _ c hb, run_checkKey_int hk, run_findKey_int hk, hl]
def clo (f bx : Nat) : Value := .func (.func f) #[] #[.pointer (some ⟨bx, 0, none⟩)]
def opsL (bx : Nat) : List (Int × Value × Nat) := [(3, clo 100 bx, 0), (4, clo 103 bx, 1), (5, clo 104 bx, 2), (6, clo 106 bx, 3)]
set_option maxRecDepth 100000 in
set_option maxHeartbeats 1000000 in
theorem ops_calls (w : World) (bs : Nat) : Calls Tryz.prog 70 #[.pointer (some ⟨bs, 0, none⟩)] w fun e w' => ∃ bx bm, e = .returned (.map (some bm)) ∧ w'.heap[bx]? = some (.cells #[.pointer (some ⟨bs, 0, none⟩)] 25 (0, 0)) ∧ w'.heap[bm]? = some (.map (entriesOf .i64 (opsL bx)) 4) ∧ Fr (fun _ _ => True) w w' := by
  obtain ⟨W1, hW1⟩ : ∃ W, w.alloc (.cells #[.pointer (some ⟨bs, 0, none⟩)] 25 (0, 0)) = W := ⟨_, rfl⟩
  have F1 : Hid (Fr (fun _ _ => True) w W1) := hW1 ▸ (Fr.refl _ _).alloc _
  have X1 : Hid (W1.heap[w.heap.size]? = some (.cells #[.pointer (some ⟨bs, 0, none⟩)] 25 (0, 0))) := hW1 ▸ heap_alloc_new w _
  obtain ⟨W2, hW2⟩ : ∃ W, W1.alloc (.map #[] 0) = W := ⟨_, rfl⟩
  have F2 : Hid (Fr (fun _ _ => True) W1 W2) := hW2 ▸ (Fr.refl _ _).alloc _
  have M2 : Hid (W2.heap[W1.heap.size]? = some (.map (entriesOf .i64 []) 0)) := hW2 ▸ heap_alloc_new W1 _
  have hmm := @run_makeMap Tryz.prog
  have go : ∀ (W : World) (l : List (Int × Value × Nat)) (c : Nat), Fr (fun _ _ => True) W1 W → W.heap[W1.heap.size]? = some (.map (entriesOf .i64 l) c) → ∀ n v, Fr (fun _ _ => True) W1 (W.putObj W1.heap.size (.map (entriesOf .i64 (lay l n v c)) (tick l n c))) ∧ (W.putObj W1.heap.size (.map (entriesOf .i64 (lay l n v c)) (tick l n c))).heap[W1.heap.size]? = some (.map (entriesOf .i64 (lay l n v c)) (tick l n c)) := fun W l c f hb n v => by
    refine ⟨Fr.within ((f.mono fun _ _ _ => trivial).putObj (fun o ho h => ?_) _), heap_putObj_same hb _⟩
    exact absurd h.2 (Nat.lt_irrefl _)
  obtain ⟨G3, M3⟩ := go W2 [] 0 F2.out M2.out 3 (clo 100 w.heap.size)
  obtain ⟨W3, hW3⟩ : ∃ W, W2.putObj W1.heap.size (.map (entriesOf .i64 (lay [] 3 (clo 100 w.heap.size) 0)) (tick [] 3 0)) = W := ⟨_, rfl⟩
  rw [hW3] at G3 M3
  obtain ⟨G4, M4⟩ := go W3 _ _ G3 M3 4 (clo 103 w.heap.size)
  obtain ⟨W4, hW4⟩ : ∃ W, W3.putObj W1.heap.size (.map (entriesOf .i64 (lay (lay [] 3 (clo 100 w.heap.size) 0) 4 (clo 103 w.heap.size) (tick [] 3 0))) (tick (lay [] 3 (clo 100 w.heap.size) 0) 4 (tick [] 3 0))) = W := ⟨_, rfl⟩
  rw [hW4] at G4 M4
  obtain ⟨G5, M5⟩ := go W4 _ _ G4 M4 5 (clo 104 w.heap.size)
  generalize hl4 : lay (lay [] 3 (clo 100 w.heap.size) 0) 4 (clo 103 w.heap.size) (tick [] 3 0) = l4 at *
  generalize hc4 : tick (lay [] 3 (clo 100 w.heap.size) 0) 4 (tick [] 3 0) = c4 at *
  obtain ⟨W5, hW5⟩ : ∃ W, W4.putObj W1.heap.size (.map (entriesOf .i64 (lay l4 5 (clo 104 w.heap.size) c4)) (tick l4 5 c4)) = W := ⟨_, rfl⟩
  rw [hW5] at G5 M5
  obtain ⟨G6, M6⟩ := go W5 _ _ G5 M5 6 (clo 106 w.heap.size)
  generalize hl5 : lay l4 5 (clo 104 w.heap.size) c4 = l5 at *
  generalize hc5 : tick l4 5 c4 = c5 at *
  obtain ⟨W6, hW6⟩ : ∃ W, W5.putObj W1.heap.size (.map (entriesOf .i64 (lay l5 6 (clo 106 w.heap.size) c5)) (tick l5 6 c5)) = W := ⟨_, rfl⟩
  rw [hW6] at G6 M6
  have FIN : Hid (lay l5 6 (clo 106 w.heap.size) c5 = opsL w.heap.size ∧ tick l5 6 c5 = 4) := by
    rw [← hc5, ← hl5, ← hc4, ← hl4]
    exact ⟨rfl, rfl⟩
  have HL4 := Lib.hid hl4
  have HC4 := Lib.hid hc4
  have HL5 := Lib.hid hl5
  have HC5 := Lib.hid hc5
  have E3 := Lib.hid hW3
  have E4 := Lib.hid hW4
  have E5 := Lib.hid hW5
  have E6 := Lib.hid hW6
  have H3 := Lib.hid M3
  have H4 := Lib.hid M4
  have H5 := Lib.hid M5
  have H6 := Lib.hid M6
  have FG := Lib.hid G6
  clear hW3 hW4 hW5 hW6 go G3 G4 G5 G6 M3 M4 M5 M6 hl4 hc4 hl5 hc5
  go_enter Tryz.func70, Tryz.ntmps70
  go_wp2_with (first
    | ((with_reducible refine wpList_insert_int W2 ?cg (.tmp 3) (.const (.int .i64 3)) (.tmp 4) 138 ?co 3 _ .i64 Tryz.underlying138 Tryz.underlying3 W1.heap.size 0 [] 3 (clo 100 w.heap.size) ?cm ?cx ?cv ?cb ?_); (case cg => rfl); (case co => rfl); (case cm => rfl); (case cx => rfl); (case cv => rfl); (case cb => exact M2.out); rw [E3.out])
    | ((with_reducible refine wpList_insert_int W3 ?cg (.tmp 3) (.const (.int .i64 4)) (.tmp 5) 138 ?co 3 _ .i64 Tryz.underlying138 Tryz.underlying3 W1.heap.size (tick [] 3 0) (lay [] 3 (clo 100 w.heap.size) 0) 4 (clo 103 w.heap.size) ?cm ?cx ?cv ?cb ?_); (case cg => rfl); (case co => rfl); (case cm => rfl); (case cx => rfl); (case cv => rfl); (case cb => exact H3.out); rw [HL4.out, HC4.out, E4.out])
    | ((with_reducible refine wpList_insert_int W4 ?cg (.tmp 3) (.const (.int .i64 5)) (.tmp 6) 138 ?co 3 _ .i64 Tryz.underlying138 Tryz.underlying3 W1.heap.size c4 l4 5 (clo 104 w.heap.size) ?cm ?cx ?cv ?cb ?_); (case cg => rfl); (case co => rfl); (case cm => rfl); (case cx => rfl); (case cv => rfl); (case cb => exact H4.out); rw [HL5.out, HC5.out, E5.out])
    | ((with_reducible refine wpList_insert_int W5 ?cg (.tmp 3) (.const (.int .i64 6)) (.tmp 7) 138 ?co 3 _ .i64 Tryz.underlying138 Tryz.underlying3 W1.heap.size c5 l5 6 (clo 106 w.heap.size) ?cm ?cx ?cv ?cb ?_); (case cg => rfl); (case co => rfl); (case cm => rfl); (case cx => rfl); (case cv => rfl); (case cb => exact H5.out); rw [E6.out]))
  go_ret
  exact ⟨w.heap.size, W1.heap.size, rfl, FG.out.keep _ _ X1.out trivial, by rw [H6.out, FIN.out.1, FIN.out.2], F1.out.trans FG.out⟩
end Go.Proofs.YtlolfcnfcgegdaaGreat
/- The service: leave. -/
namespace Go.Proofs.YtlolfcnfcgegdaaGreat
open Go.RowKit
set_option linter.unusedVariables false
set_option linter.unusedSimpArgs false

def leaveF (c r : Nat) (L : Lk) (h : Ho) : Lk := if h.c = c then (releaseM L c r h.t).2 else L
def leaveN (L : Lk) (c : Nat) : Nat → Lk
  | 0 => L
  | r + 1 => leaveR (leaveN L c r) c r
theorem leaveN_four (L : Lk) (c : Nat) : leaveN L c 4 = leaveM L c := rfl
theorem leaveR_eq (L : Lk) (c r : Nat) : leaveR L c r = (cancelM ((L.rg r).hs.foldl (leaveF c r) L) c r).2 := rfl
theorem foldl_step {α β : Type} (f : β → α → β) (b : β) (xs : List α) (i : Nat) (hi : i < xs.length) : (xs.take (i + 1)).foldl f b = f ((xs.take i).foldl f b) xs[i] := by
  rw [List.take_add_one, List.getElem?_eq_getElem hi, Option.toList_some, List.foldl_append]; rfl
set_option maxRecDepth 100000 in
set_option maxHeartbeats 4000000 in
theorem leave_calls {n : Nat} {P Q : Nat → Prop} (w : World) (bs b1 b2 c : Nat) (M : MT) (L : Lk) (h : SV n P Q w bs b1 b2 M L) (hn : n ≤ w.heap.size) :
    Calls Tryz.prog 30 #[.pointer (some ⟨bs, 0, none⟩), .int .i64 (c : Nat)] w fun e w' => e = .returned (.tuple #[]) ∧ ∃ P', SV n P' Q w' bs b1 b2 M (leaveM L c) ∧ Kp P P' w w' := by
  have H := Lib.hid h
  have HN := Lib.hid hn
  have E4 := Lib.hid (leaveN_four L c)
  clear h hn
  go_enter Tryz.func30, Tryz.ntmps30
  go_wp2
  go_loopw [7] (fun v7 wr => ∃ (r : Nat) (P' : Nat → Prop), v7 = .int .i64 r ∧ r ≤ 4 ∧ Hid (SV n P' Q wr bs b1 b2 M (leaveN L c r)) ∧ Hid (Kp P P' w wr)) (fun v7 _ => 4 - (intOf v7).toNat)
  case atStart => exact ⟨0, P, rfl, by omega, H.out, Kp.refl _ _⟩
  case round =>
    obtain ⟨r, P', rfl, hr, HS, HK⟩ := hrel
    by_cases hlt : r < 4
    · have hltI : (r : Int) < 4 := by omega
      have e1 := cell_mk (i := 1) HS.out.st rfl
      have HO := Lib.hid (holders_calls wr b2 r _ HS.out.lk hlt)
      have h4 : ((leaveN L c r).rg r).hs.length ≤ 4 := by
        obtain ⟨hv, wv, T⟩ := HS.out.lk
        exact (T.ok.rg r).h4
      go_wp2_with fail
      (with_reducible refine HO.out.mono ?_)
      rintro e w1 ⟨⟨v, rfl, ov⟩, f1⟩
      obtain ⟨a, cp, rfl⟩ := own_form ov
      have S1 := Lib.hid (HS.out.fr f1)
      have F1 := Lib.hid f1
      have RW : Hid (RowsAt (fun k _ => ¬ P' k) w1 (.slice a ((leaveN L c r).rg r).hs.length cp) 4 encH ((leaveN L c r).rg r).hs) := RowsAt.of_own encH_len ov fun k _ e hp => by
        have := own_above ov e
        obtain ⟨o, ho, _, _⟩ := HS.out.lk.ps hp
        have := lt_of_some ho
        omega
      obtain ⟨hs, hhs⟩ : ∃ hs, ((leaveN L c r).rg r).hs = hs := ⟨_, rfl⟩
      rw [hhs] at RW h4
      have HHS := Lib.hid hhs
      clear ov f1 HO
      rw [hhs]
      clear hhs
      go_wp2
      go_loopw [17] (fun v17 wz => ∃ (i : Nat) (P'' : Nat → Prop), v17 = .int .i64 i ∧ i ≤ hs.length ∧ Hid (SV n P'' Q wz bs b1 b2 M ((hs.take i).foldl (leaveF c r) (leaveN L c r))) ∧ Hid (Kp P P'' w wz) ∧ Hid (RowsAt (fun k _ => ¬ P'' k) wz (.slice a hs.length cp) 4 encH hs)) (fun v17 _ => hs.length - (intOf v17).toNat)
      case atStart => exact ⟨0, P', rfl, Nat.zero_le _, S1.out, HK.out.trans (Kp.rfl' _ F1.out), RW.out⟩
      case round =>
        obtain ⟨i, P2, rfl, hi, HS2, HK2, HR2⟩ := hrel
        by_cases hil : i < hs.length
        · have hilI : (i : Int) < hs.length := by omega
          obtain ⟨b, off, o, rfl, _, _, hc⟩ := HR2.out.spot (by omega)
          obtain ⟨x, hx⟩ : ∃ x, hs[i] = x := ⟨_, rfl⟩
          have hcs := RowsAt.h4 (K := fun k _ => ¬ P2 k) hc i hil
          rw [hx] at hcs
          have ST := Lib.hid (foldl_step (leaveF c r) (leaveN L c r) hs i hil)
          rw [hx] at ST
          obtain ⟨k0, k1, k2, k3⟩ := hcs
          obtain ⟨L2, hL2⟩ : ∃ L2, (hs.take i).foldl (leaveF c r) (leaveN L c r) = L2 := ⟨_, rfl⟩
          rw [hL2] at HS2 ST
          clear hc hL2
          by_cases hq : x.c = c
          · have hqI : ((x.c : Int) == (c : Int)) = true := by simp [hq]
            have STE : Hid (leaveF c r L2 x = (releaseM L2 c r x.t).2) := by show _ = _; unfold leaveF; rw [if_pos hq]
            clear hq
            go_upto_region 7 with fail
            obtain ⟨W3, hW3⟩ : ∃ W, wr.alloc (.cells #[.int .i64 (x.c : Nat), .int .i64 (x.m : Nat), .int .u64 (x.t : Nat), .int .u64 (x.u : Nat)] 112 (0, 0)) = W := ⟨_, rfl⟩
            rw [hW3]
            have F3 : Hid (Fr (fun _ _ => True) wr W3) := hW3 ▸ (Fr.refl _ _).alloc _
            have X3 : Hid (W3.heap[wr.heap.size]? = some (.cells #[.int .i64 (x.c : Nat), .int .i64 (x.m : Nat), .int .u64 (x.t : Nat), .int .u64 (x.u : Nat)] 112 (0, 0))) := hW3 ▸ heap_alloc_new wr _
            clear hW3 k0 k1 k2 k3 e1
            have S3 := Lib.hid (HS2.out.fr F3.out)
            have t1 := cell_mk (i := 1) S3.out.st rfl
            have t2 := cell_mk (i := 2) X3.out rfl
            have RC := Lib.hid (fun W (f : Fr (fun _ _ => True) W3 W) => release_calls (n := n) W b2 c r x.t L2 (S3.out.lk.tt f) (Nat.le_trans HN.out (Nat.le_trans HK2.out.fr.size (F3.out.trans f).size)))
            have F0 : Hid (Fr (fun _ _ => True) W3 W3.drew) := (Fr.refl _ _).drew
            have NS : Hid (¬ P2 bs) := S3.out.lk.out S3.out.st (kp_cells (by decide) (by decide))
            have NX : Hid (¬ P2 wr.heap.size) := fun hp => by
              obtain ⟨o', ho', _, _⟩ := HS2.out.lk.ps hp
              exact Nat.lt_irrefl _ (lt_of_some ho')
            go_region_held3 (fun W => W.cell? ⟨bs, 1, none⟩ = some (.pointer (some ⟨b2, 0, none⟩)) ∧ W.cell? ⟨wr.heap.size, 2, none⟩ = some (.int .u64 (x.t : Nat)))
              (first | exact ⟨F0.out.cell (fun _ _ => trivial) t1, F0.out.cell (fun _ _ => trivial) t2⟩ | exact ⟨FR.out.cell (fun _ _ => NS.out) (F0.out.cell (fun _ _ => trivial) t1), FR.out.cell (fun _ _ => NX.out) (F0.out.cell (fun _ _ => trivial) t2)⟩)
              ((go_at_call 66; go_must ((with_reducible refine (RC.out _ ?cf).mono ?_); (case cf => exact F0.out); rintro e w9 ⟨rfl, P9, T9, K9⟩; have HT9 := Lib.hid T9; have HK9 := Lib.hid K9; have FR := Lib.hid K9.fr; clear T9 K9)))
            all_goals
              go_wp2
              go_roundw
              case rel =>
                refine ⟨i + 1, P9, by go_num, hil, ?_, ?_, ?_⟩
                · show SV _ _ _ _ _ _ _ _ _
                  rw [ST.out, STE.out]
                  exact (S3.out.fr F0.out).lock HT9.out HK9.out
                · exact (HK2.out.trans (Kp.rfl' _ (F3.out.trans F0.out))).trans HK9.out
                · have r3 := HR2.out.tt (F3.out.trans F0.out)
                  refine (r3.mono (K' := fun k _ => ¬ P2 k ∧ k < W3.drew.heap.size) fun k o ho hk => ⟨hk, lt_of_some ho⟩).fr HK9.out.fr (fun k o _ hk => hk.1) |>.mono fun k o _ hk => HK9.out.out k hk.2 hk.1
              case measure => simp [intOf]; omega
          · have hqI : ((x.c : Int) == (c : Int)) = false := by simp; omega
            have STE : Hid (leaveF c r L2 x = L2) := by show _ = _; unfold leaveF; rw [if_neg hq]
            clear hq
            go_wp2
            go_roundw
            case rel =>
              refine ⟨i + 1, P2, by go_num, hil, ?_, HK2.out.trans (Kp.rfl' _ ((Fr.refl _ _).alloc _)), HR2.out.tt ((Fr.refl _ _).alloc _)⟩
              show SV _ _ _ _ _ _ _ _ _
              rw [ST.out, STE.out]
              exact HS2.out.fr ((Fr.refl _ _).alloc _)
            case measure => simp [intOf]; omega
        · have hge : (hs.length : Int) ≤ i := by omega
          have hie : i = hs.length := by omega
          rw [hie, List.take_length] at HS2
          clear hie
          have e9 := cell_mk (i := 1) HS2.out.st rfl
          have CC := Lib.hid (cancel_calls (n := n) wr b2 c r _ HS2.out.lk (Nat.le_trans HN.out HK2.out.fr.size))
          clear e1
          go_wp2_with fail
          (with_reducible refine CC.out.mono ?_)
          rintro e w9 ⟨rfl, P9, T9, K9⟩
          have HT9 := Lib.hid (HS2.out.lock T9 K9)
          have HK9 := Lib.hid (HK2.out.trans K9)
          clear T9 K9 CC e9
          go_wp2
          go_roundw
          case rel =>
            refine ⟨r + 1, P9, by go_num, by omega, ?_, HK9.out⟩
            have := HT9.out
            rw [← HHS.out, ← leaveR_eq] at this
            exact this
          case measure => simp [intOf]; omega
    · have hge : (4 : Int) ≤ r := by omega
      have hr4 : r = 4 := by omega
      rw [hr4] at HS
      go_wp2
      go_end0
      exact ⟨rfl, P', E4.out ▸ HS.out, HK.out⟩
end Go.Proofs.YtlolfcnfcgegdaaGreat
/- The service: once (printed by once20.py). -/
namespace Go.Proofs.YtlolfcnfcgegdaaGreat
open Go.RowKit
set_option linter.unusedVariables false
set_option linter.unusedSimpArgs false

def onceM (M : MT) (L : Lk) (c : Cm) : Rp × MT × Lk :=
  if (askM M (c.cl : Nat) (c.sq : Nat)).2.2 ≠ 0 then (⟨(askM M (c.cl : Nat) (c.sq : Nat)).2.2.toNat, 0⟩, M, L)
  else if (askM M (c.cl : Nat) (c.sq : Nat)).2.1 = true then (rpM (askM M (c.cl : Nat) (c.sq : Nat)).1, M, L)
  else ((opM L c).1, (doneM M (c.cl : Nat) (c.sq : Nat) (rpB (opM L c).1)).2, (opM L c).2)
theorem askM_code (M : MT) (n s : Int) : (askM M n s).2.2 = 0 ∨ (askM M n s).2.2 = 60 ∨ (askM M n s).2.2 = 80 ∨ (askM M n s).2.2 = 81 := by
  unfold askM
  split
  · exact .inr (.inr (.inr rfl))
  · split
    · exact .inl rfl
    · show askCode _ _ = 0 ∨ _
      unfold askCode
      split
      · exact .inr (.inr (.inl rfl))
      · split
        · exact .inr (.inl rfl)
        · exact .inl rfl
theorem askM_none {M : MT} {n s : Int} (h : (askM M n s).2.1 = false) : (askM M n s).1 = [] := by
  unfold askM at h ⊢
  split
  · rfl
  · rename_i x hx
    rw [hx] at h
    dsimp only at h
    split
    · rename_i q; rw [if_pos q] at h; cases h
    · rfl
theorem code8 (c r : Nat) : rightM c r < 256 := by unfold rightM; split; decide; split <;> decide
theorem ho_t {L : Lk} (h : L.ok) (r k : Nat) : ((L.rg r).hs.getD k default).t ≤ topM := by
  rw [List.getD_eq_getElem?_getD]
  cases e : (L.rg r).hs[k]? with
  | none => exact Nat.zero_le _
  | some x => exact ((h.rg r).hc x (List.mem_of_getElem? e)).2.2.1
theorem heldM_code (L : Lk) (c r t : Nat) : (heldM L c r t).2 < 256 := by
  unfold heldM
  split
  · exact code8 c r
  · split
    · split <;> (dsimp only; decide)
    · decide
theorem acquire_val {L : Lk} (h : L.ok) (c r how : Nat) : (acquireM L c r how).1.1 < 18446744073709551616 := by
  have h0 : 0 < 18446744073709551616 := by decide
  have ht : ∀ {K : Lk}, K.ok → ∀ k, ((K.rg r).hs.getD k default).t < 18446744073709551616 := fun hK k => by
    have := ho_t hK r k; rw [topM_eq] at this; omega
  have ha := h.acquire c r how
  revert ha
  unfold acquireM
  split
  · exact fun _ => h0
  · split
    · exact fun _ => h0
    · split
      · split
        · exact fun _ => ht h _
        · exact fun _ => h0
      · split
        · split <;> exact fun _ => h0
        · split
          · exact fun _ => h0
          · split
            · exact fun ha => ht ha _
            · exact fun _ => h0
theorem opM_fits {L : Lk} (h : L.ok) (c : Cm) : (opM L c).1.code < 256 ∧ (opM L c).1.val < 18446744073709551616 := by
  have h0 : 0 < 18446744073709551616 := by decide
  unfold opM
  split
  · refine ⟨?_, ?_⟩
    · show (acquireM L c.cl c.rg c.md).1.2 < 256
      unfold acquireM
      split
      · exact code8 _ _
      · split
        · dsimp only; decide
        · split
          · split <;> (dsimp only; decide)
          · split
            · split <;> (dsimp only; decide)
            · split
              · dsimp only; decide
              · split <;> (dsimp only; decide)
    · exact acquire_val h _ _ _
  · split
    · refine ⟨?_, h0⟩
      show (releaseM L c.cl c.rg c.tk).1 < 256
      unfold releaseM
      split
      · exact heldM_code _ _ _ _
      · dsimp only; decide
    · split
      · refine ⟨?_, ?_⟩
        · show (renewM L c.cl c.rg c.tk).1.2 < 256
          unfold renewM
          split
          · exact heldM_code _ _ _ _
          · dsimp only; decide
        · show (renewM L c.cl c.rg c.tk).1.1 < _
          unfold renewM
          split
          · exact h0
          · have := untilM_le L.now; rw [topM_eq] at this; show untilM L.now < _; omega
      · refine ⟨?_, h0⟩
        show (cancelM L c.cl c.rg).1 < 256
        unfold cancelM
        split
        · exact code8 _ _
        · split <;> (dsimp only; decide)
theorem set2 {w : World} {g : Nat} {t : TypeId} {a0 a1 : Value} (h : w.heap[g]? = some (.cells #[a0, a1] t (0, 0))) (v0 v1 : Value) :
    ∃ W, ((w.setCell ⟨g, 0, none⟩ v0).setCell ⟨g, 1, none⟩ v1) = W ∧ W.heap[g]? = some (.cells #[v0, v1] t (0, 0)) ∧ Fr (fun c _ => c ≠ g) w W :=
  ⟨_, rfl, heap_setCell_same (o := 1) (heap_setCell_same (o := 0) h v0) v1, ((Fr.refl _ _).setCell (fun _ _ h => h rfl) _).setCell (fun _ _ h => h rfl) _⟩
/-- A write into a block that is new, and of no kind of the state's. -/
theorem SV.end2 {n : Nat} {P Q P' Q' : Nat → Prop} {w w1 w2 : World} {bs b1 b2 m : Nat} {M : MT} {L : Lk} {cs : Array Value} {t : TypeId} {fz : Nat × Nat} (h : SV n P' Q' w1 bs b1 b2 M L) (k : Kp (U P Q) (U P' Q') w w1) (f : Fr (fun c _ => c ≠ m) w1 w2) (hm : w1.heap[m]? = some (.cells cs t fz)) (hn : n ≤ w.heap.size) (hw : w.heap.size ≤ m) (ht : t ≠ 66 ∧ t ≠ 112 ∧ t ≠ 59 ∧ t ≠ 109 ∧ t ≠ 5 ∧ t ≠ 114 ∧ t ≠ 68) :
    SV n P' Q' w2 bs b1 b2 M L ∧ Kp (U P Q) (U P' Q') w w2 :=
  ⟨h.frk f (h.kv_other hm (Nat.le_trans hn hw) ht), Fr.within ((k.fr.mono fun _ _ h => h.1).trans (f.mono fun c _ h => by have := h.2; omega)), k.out⟩
theorem SV.end3 {n : Nat} {P Q P' : Nat → Prop} {w w1 w2 : World} {bs b1 b2 m : Nat} {M : MT} {L : Lk} {cs : Array Value} {t : TypeId} {fz : Nat × Nat} (h : SV n P' Q w1 bs b1 b2 M L) (k : Kp P P' w w1) (f : Fr (fun c _ => c ≠ m) w1 w2) (hm : w1.heap[m]? = some (.cells cs t fz)) (hn : n ≤ w.heap.size) (hw : w.heap.size ≤ m) (ht : t ≠ 66 ∧ t ≠ 112 ∧ t ≠ 59 ∧ t ≠ 109 ∧ t ≠ 5 ∧ t ≠ 114 ∧ t ≠ 68) :
    SV n P' Q w2 bs b1 b2 M L ∧ Kp P P' w w2 :=
  ⟨h.frk f (h.kv_other hm (Nat.le_trans hn hw) ht), Fr.within ((k.fr.mono fun _ _ h => h.1).trans (f.mono fun c _ h => by have := h.2; omega)), k.out⟩
set_option maxRecDepth 100000 in
set_option maxHeartbeats 2000000 in
theorem once_code {n : Nat} {P Q : Nat → Prop} (w : World) (bs b1 b2 : Nat) (M : MT) (L : Lk) (c : Cm) (h : SV n P Q w bs b1 b2 M L) (hn : n ≤ w.heap.size) (hq : c.sq < 4294967296) (k : Nat) (hk : k ≠ 0) (hc : (askM M (c.cl : Nat) (c.sq : Nat)).2.2 = (k : Nat)) :
    Calls Tryz.prog 31 #[.pointer (some ⟨bs, 0, none⟩), vM c] w fun e w' => e = .returned (vR ⟨k, 0⟩) ∧ ∃ P' Q', SV n P' Q' w' bs b1 b2 M L ∧ Kp (U P Q) (U P' Q') w w' := by
  obtain ⟨op, cl, sq, rg, md, tk, tm⟩ := c
  unfold vM
  dsimp only at *
  obtain ⟨W1, hW1⟩ : ∃ W, w.alloc (.cells #[.int .i64 (op : Nat), .int .i64 (cl : Nat), .int .u32 (sq : Nat), .int .i64 (rg : Nat), .int .i64 (md : Nat), .int .u64 (tk : Nat), .int .u64 (tm : Nat)] 33 (0, 0)) = W := ⟨_, rfl⟩
  have F1 : Hid (Fr (fun _ _ => True) w W1) := hW1 ▸ (Fr.refl _ _).alloc _
  have X1 : Hid (W1.heap[w.heap.size]? = some (.cells #[.int .i64 (op : Nat), .int .i64 (cl : Nat), .int .u32 (sq : Nat), .int .i64 (rg : Nat), .int .i64 (md : Nat), .int .u64 (tk : Nat), .int .u64 (tm : Nat)] 33 (0, 0))) := hW1 ▸ heap_alloc_new w _
  obtain ⟨W2, hW2⟩ : ∃ W, W1.alloc (.cells #[.int .i64 0, .int .u64 0] 36 (0, 0)) = W := ⟨_, rfl⟩
  have F2 : Hid (Fr (fun _ _ => True) W1 W2) := hW2 ▸ (Fr.refl _ _).alloc _
  have X2 : Hid (W2.heap[W1.heap.size]? = some (.cells #[.int .i64 0, .int .u64 0] 36 (0, 0))) := hW2 ▸ heap_alloc_new W1 _
  have SV2 := Lib.hid (h.fr (F1.out.trans F2.out))
  have XC : Hid (∀ W, Fr (fun _ _ => True) W2 W → W.heap[w.heap.size]? = some (.cells #[.int .i64 (op : Nat), .int .i64 (cl : Nat), .int .u32 (sq : Nat), .int .i64 (rg : Nat), .int .i64 (md : Nat), .int .u64 (tk : Nat), .int .u64 (tm : Nat)] 33 (0, 0))) := fun W f => (F2.out.trans f).keep _ _ X1.out trivial
  have CC : Hid (∀ W, Fr (fun _ _ => True) W2 W → W.cell? ⟨bs, 0, none⟩ = some (.pointer (some ⟨b1, 0, none⟩)) ∧ W.cell? ⟨w.heap.size, 1, none⟩ = some (.int .i64 (cl : Nat)) ∧ W.cell? ⟨w.heap.size, 2, none⟩ = some (.int .u32 (sq : Nat))) := fun W f => ⟨cell_mk (f.keep _ _ SV2.out.st trivial) rfl, cell_mk (XC.out W f) rfl, cell_mk (XC.out W f) rfl⟩
  have F0 : Hid (Fr (fun _ _ => True) W2 W2.drew) := (Fr.refl _ _).drew
  obtain ⟨AB, AG, AC, hask⟩ : ∃ a b c, askM M (cl : Nat) (sq : Nat) = (a, b, c) := ⟨_, _, _, rfl⟩
  rw [hask] at hc
  dsimp only at hc
  have ASK := Lib.hid (fun W (f : Fr (fun _ _ => True) W2 W) => ask_to W b1 M (cl : Nat) (sq : Nat) (SV2.out.se.fr f) (by omega) (by omega) AB AG AC hask)
  have HN := Lib.hid hn
  have G2 : Hid (Fr (fun _ _ => True) w W2) := F1.out.trans F2.out
  have HSZ : Hid (w.heap.size < W1.heap.size) := lt_of_some X1.out
  have hkI : ((k : Int) != 0) = true := by simp; omega
  subst hc
  clear h hn hask hk
  go_enter Tryz.func31, Tryz.ntmps31
  go_wp2_with fail
  go_region_held3 (fun W => W.cell? ⟨bs, 0, none⟩ = some (.pointer (some ⟨b1, 0, none⟩)) ∧ W.cell? ⟨w.heap.size, 1, none⟩ = some (.int .i64 (cl : Nat)) ∧ W.cell? ⟨w.heap.size, 2, none⟩ = some (.int .u32 (sq : Nat)))
    (first | exact CC.out _ F0.out | exact CC.out _ FA.out)
    ((go_at_call 68; go_must ((with_reducible refine (ASK.out _ ?cf).mono ?_); (case cf => exact F0.out); rintro e wa ⟨aa, ca, rfl, ba, fa⟩; have BA := Lib.hid ba; have FA : Hid (Fr (fun _ _ => True) W2 wa) := F0.out.trans fa; clear fa ba)))
  have XA : Hid (wa.heap[W1.heap.size]? = some (.cells #[.int .i64 0, .int .u64 0] 36 (0, 0))) := FA.out.keep _ _ X2.out trivial
  have q0 := cell_mk (i := 0) XA.out rfl
  have q1 := cell_mk (i := 1) XA.out rfl
  have y0 := frozen_mk (i := 0) XA.out
  have y1 := frozen_mk (i := 1) XA.out
  obtain ⟨WZ, hWZ, TZ, FZ⟩ := set2 XA.out (.int .i64 (k : Nat)) (.int .u64 0)
  have p0 := cell_mk (i := 0) TZ rfl
  have p1 := cell_mk (i := 1) TZ rfl
  have FZH := Lib.hid FZ
  clear TZ FZ
  go_wp2
  try rw [hWZ]
  refine bodyPost_ret (v := .agg #[.int .i64 (k : Nat), .int .u64 0]) (by simp [results, Tryz.results31, go_sem, *]) rfl ⟨rfl, P, Q, ?_⟩
  try rw [hWZ]
  exact SV.end2 (SV2.out.fr FA.out) (Kp.rfl' _ (G2.out.trans FA.out)) FZH.out XA.out HN.out (Nat.le_of_lt HSZ.out) (by decide)
set_option maxRecDepth 100000 in
set_option maxHeartbeats 2000000 in
theorem once_again {n : Nat} {P Q : Nat → Prop} (w : World) (bs b1 b2 : Nat) (M : MT) (L : Lk) (c : Cm) (h : SV n P Q w bs b1 b2 M L) (hn : n ≤ w.heap.size) (hq : c.sq < 4294967296) (hc : (askM M (c.cl : Nat) (c.sq : Nat)).2.2 = 0) (hg : (askM M (c.cl : Nat) (c.sq : Nat)).2.1 = true) (hl : (askM M (c.cl : Nat) (c.sq : Nat)).1.length ≤ 1000000) :
    Calls Tryz.prog 31 #[.pointer (some ⟨bs, 0, none⟩), vM c] w fun e w' => e = .returned (vR (rpM (askM M (c.cl : Nat) (c.sq : Nat)).1)) ∧ ∃ P' Q', SV n P' Q' w' bs b1 b2 M L ∧ Kp (U P Q) (U P' Q') w w' := by
  obtain ⟨op, cl, sq, rg, md, tk, tm⟩ := c
  unfold vM
  dsimp only at *
  obtain ⟨W1, hW1⟩ : ∃ W, w.alloc (.cells #[.int .i64 (op : Nat), .int .i64 (cl : Nat), .int .u32 (sq : Nat), .int .i64 (rg : Nat), .int .i64 (md : Nat), .int .u64 (tk : Nat), .int .u64 (tm : Nat)] 33 (0, 0)) = W := ⟨_, rfl⟩
  have F1 : Hid (Fr (fun _ _ => True) w W1) := hW1 ▸ (Fr.refl _ _).alloc _
  have X1 : Hid (W1.heap[w.heap.size]? = some (.cells #[.int .i64 (op : Nat), .int .i64 (cl : Nat), .int .u32 (sq : Nat), .int .i64 (rg : Nat), .int .i64 (md : Nat), .int .u64 (tk : Nat), .int .u64 (tm : Nat)] 33 (0, 0))) := hW1 ▸ heap_alloc_new w _
  obtain ⟨W2, hW2⟩ : ∃ W, W1.alloc (.cells #[.int .i64 0, .int .u64 0] 36 (0, 0)) = W := ⟨_, rfl⟩
  have F2 : Hid (Fr (fun _ _ => True) W1 W2) := hW2 ▸ (Fr.refl _ _).alloc _
  have X2 : Hid (W2.heap[W1.heap.size]? = some (.cells #[.int .i64 0, .int .u64 0] 36 (0, 0))) := hW2 ▸ heap_alloc_new W1 _
  have SV2 := Lib.hid (h.fr (F1.out.trans F2.out))
  have XC : Hid (∀ W, Fr (fun _ _ => True) W2 W → W.heap[w.heap.size]? = some (.cells #[.int .i64 (op : Nat), .int .i64 (cl : Nat), .int .u32 (sq : Nat), .int .i64 (rg : Nat), .int .i64 (md : Nat), .int .u64 (tk : Nat), .int .u64 (tm : Nat)] 33 (0, 0))) := fun W f => (F2.out.trans f).keep _ _ X1.out trivial
  have CC : Hid (∀ W, Fr (fun _ _ => True) W2 W → W.cell? ⟨bs, 0, none⟩ = some (.pointer (some ⟨b1, 0, none⟩)) ∧ W.cell? ⟨w.heap.size, 1, none⟩ = some (.int .i64 (cl : Nat)) ∧ W.cell? ⟨w.heap.size, 2, none⟩ = some (.int .u32 (sq : Nat))) := fun W f => ⟨cell_mk (f.keep _ _ SV2.out.st trivial) rfl, cell_mk (XC.out W f) rfl, cell_mk (XC.out W f) rfl⟩
  have F0 : Hid (Fr (fun _ _ => True) W2 W2.drew) := (Fr.refl _ _).drew
  obtain ⟨AB, AG, AC, hask⟩ : ∃ a b c, askM M (cl : Nat) (sq : Nat) = (a, b, c) := ⟨_, _, _, rfl⟩
  rw [hask] at hc
  dsimp only at hc
  have ASK := Lib.hid (fun W (f : Fr (fun _ _ => True) W2 W) => ask_to W b1 M (cl : Nat) (sq : Nat) (SV2.out.se.fr f) (by omega) (by omega) AB AG AC hask)
  have HN := Lib.hid hn
  have G2 : Hid (Fr (fun _ _ => True) w W2) := F1.out.trans F2.out
  have HSZ : Hid (w.heap.size < W1.heap.size) := lt_of_some X1.out
  rw [hask] at hg hl ⊢
  dsimp only at hg hl ⊢
  have HL := Lib.hid hl
  subst hc hg
  clear h hn hask hl
  go_enter Tryz.func31, Tryz.ntmps31
  go_wp2_with fail
  go_region_held3 (fun W => W.cell? ⟨bs, 0, none⟩ = some (.pointer (some ⟨b1, 0, none⟩)) ∧ W.cell? ⟨w.heap.size, 1, none⟩ = some (.int .i64 (cl : Nat)) ∧ W.cell? ⟨w.heap.size, 2, none⟩ = some (.int .u32 (sq : Nat)))
    (first | exact CC.out _ F0.out | exact CC.out _ FA.out)
    ((go_at_call 68; go_must ((with_reducible refine (ASK.out _ ?cf).mono ?_); (case cf => exact F0.out); rintro e wa ⟨aa, ca, rfl, ba, fa⟩; have BA := Lib.hid ba; have FA : Hid (Fr (fun _ _ => True) W2 wa) := F0.out.trans fa; clear fa ba)))
  have XA : Hid (wa.heap[W1.heap.size]? = some (.cells #[.int .i64 0, .int .u64 0] 36 (0, 0))) := FA.out.keep _ _ X2.out trivial
  have RC := Lib.hid (reply_calls wa _ AB BA.out HL.out)
  unfold vR at RC
  obtain ⟨⟨rc, rv⟩, hr⟩ : ∃ r, rpM AB = r := ⟨_, rfl⟩
  rw [hr] at RC
  have HR := Lib.hid hr
  clear hr
  go_wp2_with fail
  (with_reducible refine RC.out.mono ?_)
  rintro e wb ⟨rfl, fb⟩
  have FB := Lib.hid (FA.out.trans fb)
  have XB : Hid (wb.heap[W1.heap.size]? = some (.cells #[.int .i64 0, .int .u64 0] 36 (0, 0))) := FB.out.keep _ _ X2.out trivial
  have q0 := cell_mk (i := 0) XB.out rfl
  have q1 := cell_mk (i := 1) XB.out rfl
  have y0 := frozen_mk (i := 0) XB.out
  have y1 := frozen_mk (i := 1) XB.out
  obtain ⟨WZ, hWZ, TZ, FZ⟩ := set2 XB.out (.int .i64 (rc : Nat)) (.int .u64 (rv : Nat))
  have p0 := cell_mk (i := 0) TZ rfl
  have p1 := cell_mk (i := 1) TZ rfl
  have FZH := Lib.hid FZ
  clear TZ FZ RC fb
  go_wp2
  try rw [hWZ]
  refine bodyPost_ret (v := .agg #[.int .i64 (rc : Nat), .int .u64 (rv : Nat)]) (by simp [results, Tryz.results31, go_sem, *]) rfl ⟨by rw [HR.out]; rfl, P, Q, ?_⟩
  try rw [hWZ]
  exact SV.end2 (SV2.out.fr FB.out) (Kp.rfl' _ (G2.out.trans FB.out)) FZH.out XB.out HN.out (Nat.le_of_lt HSZ.out) (by decide)
end Go.Proofs.YtlolfcnfcgegdaaGreat
