/- Texts of the proofs, part 13: what the functions that they reach do, walked; no conditions beyond those that each states. -/
import Derived.Deep.RegionHeld3
import Derived.Deep.DeepCutAuto
import Derived.Test.YtlolfcnfcgegdaaGreatZz9fc9e30eb4
set_option linter.unusedVariables false
set_option linter.unusedSimpArgs false
/- Bytes as commands: Decode of the document (printed by rdec20.py). -/
namespace Go.Proofs.YtlolfcnfcgegdaaGreat
open Go.RowKit
set_option linter.unusedVariables false
set_option linter.unusedSimpArgs false

theorem lt_of_lt_size {K : Nat → Obj → Prop} {w w' : World} {c : Nat} (f : Fr K w w') (h : c < w.heap.size) : c < w'.heap.size := Nat.lt_of_lt_of_le h f.size
theorem ofLE_one (b : List UInt8) (i : Nat) (h : i < b.length) : ofLE ((b.drop i).take 1) = b[i].toNat := by
  rw [List.drop_eq_getElem_cons h, List.take_succ_cons, List.take_zero]
  simp [ofLE]
set_option maxRecDepth 100000 in
theorem rdec_len {K : Nat → Obj → Prop} (w : World) (v : Value) (b : List UInt8) (hb : BytesAt K w v b) (hm : b.length ≤ 1000000) (h : b.length ≠ 24) :
    Calls Tryz.prog 32 #[v] w fun e w' => e = .returned (.tuple #[vC (decM b).1, .int .i64 ((decM b).2 : Nat)]) ∧ Fr (fun _ _ => True) w w' := by
  obtain ⟨av, cv, rfl⟩ := hb.form
  obtain ⟨W1, hW1⟩ : ∃ W, w.alloc (.cells #[.int .i64 0, .int .i64 0, .int .u32 0, .int .i64 0, .int .i64 0, .int .u64 0, .int .u64 0] 80 (0, 0)) = W := ⟨_, rfl⟩
  have F1 : Hid (Fr (fun _ _ => True) w W1) := hW1 ▸ (Fr.refl _ _).alloc _
  have X1 : Hid (W1.heap[w.heap.size]? = some (.cells #[.int .i64 0, .int .i64 0, .int .u32 0, .int .i64 0, .int .i64 0, .int .u64 0, .int .u64 0] 80 (0, 0))) := hW1 ▸ heap_alloc_new w _
  have FIN : Hid (∀ WZ, Fr (fun c _ => c ≠ w.heap.size) W1 WZ → Fr (fun _ _ => True) w WZ) := fun WZ f => Fr.within ((F1.out.mono fun _ _ _ => trivial).trans (f.mono fun c _ h => by have := h.2; omega))
  have q0 := cell_mk (i := 0) X1.out rfl
  have y0 := frozen_mk (i := 0) X1.out
  have q1 := cell_mk (i := 1) X1.out rfl
  have y1 := frozen_mk (i := 1) X1.out
  have q2 := cell_mk (i := 2) X1.out rfl
  have y2 := frozen_mk (i := 2) X1.out
  have q3 := cell_mk (i := 3) X1.out rfl
  have y3 := frozen_mk (i := 3) X1.out
  have q4 := cell_mk (i := 4) X1.out rfl
  have y4 := frozen_mk (i := 4) X1.out
  have q5 := cell_mk (i := 5) X1.out rfl
  have y5 := frozen_mk (i := 5) X1.out
  have q6 := cell_mk (i := 6) X1.out rfl
  have y6 := frozen_mk (i := 6) X1.out
  clear hb
  rcases Nat.lt_or_gt_of_ne h with h1 | h1
  · have h1' : (b.length : Int) < 24 := by omega
    have ED : Hid (decM b = (zeroC, 10)) := by show _ = _; unfold decM; rw [if_pos h1]
    clear h h1
    go_enter Tryz.func32, Tryz.ntmps32
    obtain ⟨WZ, hWZ, TZ, FZ⟩ := set7 X1.out (.int .i64 0) (.int .i64 0) (.int .u32 0) (.int .i64 0) (.int .i64 0) (.int .u64 0) (.int .u64 0)
    have p0 := cell_mk (i := 0) TZ rfl
    have p1 := cell_mk (i := 1) TZ rfl
    have p2 := cell_mk (i := 2) TZ rfl
    have p3 := cell_mk (i := 3) TZ rfl
    have p4 := cell_mk (i := 4) TZ rfl
    have p5 := cell_mk (i := 5) TZ rfl
    have p6 := cell_mk (i := 6) TZ rfl
    have FZH := Lib.hid FZ
    clear FZ TZ
    go_wp2
    refine bodyPost_ret (v := .tuple #[.agg #[.int .i64 0, .int .i64 0, .int .u32 0, .int .i64 0, .int .i64 0, .int .u64 0, .int .u64 0], .int .i64 10]) (by simp [results, Tryz.results32, go_sem, *]) rfl ⟨?_, ?_⟩
    · rw [ED.out]; rfl
    · exact FIN.out _ FZH.out
  · have h1' : decide ((b.length : Int) < 24) = false := by simp; omega
    have h2' : (24 : Int) < b.length := by omega
    have ED : Hid (decM b = (zeroC, 11)) := by show _ = _; unfold decM; rw [if_neg (by omega), if_pos h1]
    clear h h1
    go_enter Tryz.func32, Tryz.ntmps32
    obtain ⟨WZ, hWZ, TZ, FZ⟩ := set7 X1.out (.int .i64 0) (.int .i64 0) (.int .u32 0) (.int .i64 0) (.int .i64 0) (.int .u64 0) (.int .u64 0)
    have p0 := cell_mk (i := 0) TZ rfl
    have p1 := cell_mk (i := 1) TZ rfl
    have p2 := cell_mk (i := 2) TZ rfl
    have p3 := cell_mk (i := 3) TZ rfl
    have p4 := cell_mk (i := 4) TZ rfl
    have p5 := cell_mk (i := 5) TZ rfl
    have p6 := cell_mk (i := 6) TZ rfl
    have FZH := Lib.hid FZ
    clear FZ TZ
    go_wp2
    refine bodyPost_ret (v := .tuple #[.agg #[.int .i64 0, .int .i64 0, .int .u32 0, .int .i64 0, .int .i64 0, .int .u64 0, .int .u64 0], .int .i64 11]) (by simp [results, Tryz.results32, go_sem, *]) rfl ⟨?_, ?_⟩
    · rw [ED.out]; rfl
    · exact FIN.out _ FZH.out

set_option maxRecDepth 100000 in
set_option maxHeartbeats 2000000 in
theorem rdec_24 {K : Nat → Obj → Prop} (w : World) (av : Option Addr) (cv : Nat) (b : List UInt8) (hb : BytesAt K w (.slice av 24 cv) b) (h24 : b.length = 24) :
    Calls Tryz.prog 32 #[.slice av 24 cv] w fun e w' => e = .returned (.tuple #[vC (decM b).1, .int .i64 ((decM b).2 : Nat)]) ∧ Fr (fun _ _ => True) w w' := by
  obtain ⟨bk, off, rfl⟩ := hb.addr (by omega)
  have hcv : 24 ≤ cv := by have := hb.cap; omega
  obtain ⟨W1, hW1⟩ : ∃ W, w.alloc (.cells #[.int .i64 0, .int .i64 0, .int .u32 0, .int .i64 0, .int .i64 0, .int .u64 0, .int .u64 0] 80 (0, 0)) = W := ⟨_, rfl⟩
  have F1 : Hid (Fr (fun _ _ => True) w W1) := hW1 ▸ (Fr.refl _ _).alloc _
  have X1 : Hid (W1.heap[w.heap.size]? = some (.cells #[.int .i64 0, .int .i64 0, .int .u32 0, .int .i64 0, .int .i64 0, .int .u64 0, .int .u64 0] 80 (0, 0))) := hW1 ▸ heap_alloc_new w _
  obtain ⟨x1, hx1⟩ : ∃ x : Nat, b[0].toNat = x := ⟨_, rfl⟩
  obtain ⟨x2, hx2⟩ : ∃ x : Nat, b[1].toNat = x := ⟨_, rfl⟩
  obtain ⟨x4, hx4⟩ : ∃ x : Nat, b[6].toNat = x := ⟨_, rfl⟩
  obtain ⟨x5, hx5⟩ : ∃ x : Nat, b[7].toNat = x := ⟨_, rfl⟩
  obtain ⟨x3, hx3⟩ : ∃ x, ofLE ((b.drop 2).take 4) = x := ⟨_, rfl⟩
  obtain ⟨x6, hx6⟩ : ∃ x, ofLE ((b.drop 8).take 8) = x := ⟨_, rfl⟩
  obtain ⟨x7, hx7⟩ : ∃ x, ofLE ((b.drop 16).take 8) = x := ⟨_, rfl⟩
  have hd : dec24 b = ⟨(x1 : Nat), (x2 : Nat), x3, (x4 : Nat), (x5 : Nat), x6, x7⟩ := by
    have e0 : ofLE (b.take 1) = b[0].toNat := by have := ofLE_one b 0 (by omega); rwa [List.drop_zero] at this
    unfold dec24
    rw [e0, ofLE_one b 1 (by omega), ofLE_one b 6 (by omega), ofLE_one b 7 (by omega), hx1, hx2, hx3, hx4, hx5, hx6, hx7]
  have HD := Lib.hid hd
  have l1 : x1 < 256 := by rw [← hx1]; exact UInt8.toNat_lt _
  have l2 : x2 < 256 := by rw [← hx2]; exact UInt8.toNat_lt _
  have l4 : x4 < 256 := by rw [← hx4]; exact UInt8.toNat_lt _
  have l5 : x5 < 256 := by rw [← hx5]; exact UInt8.toNat_lt _
  have l3 : x3 < 4294967296 := by rw [← hx3]; exact Nat.lt_of_lt_of_le (ofLE_lt _) (by rw [List.length_take, List.length_drop, h24]; decide)
  have b1 := hb.tt F1.out
  have c0 : W1.cell? ⟨bk, off, none⟩ = some (.int .u8 (x1 : Nat)) := by have := b1.cell (i := 0) (by omega); rw [← hx1]; exact this
  have c1 : W1.cell? ⟨bk, off + 1, none⟩ = some (.int .u8 (x2 : Nat)) := by have := b1.cell (i := 1) (by omega); rw [← hx2]; exact this
  have c6 : W1.cell? ⟨bk, off + 6, none⟩ = some (.int .u8 (x4 : Nat)) := by have := b1.cell (i := 6) (by omega); rw [← hx4]; exact this
  have c7 : W1.cell? ⟨bk, off + 7, none⟩ = some (.int .u8 (x5 : Nat)) := by have := b1.cell (i := 7) (by omega); rw [← hx5]; exact this
  have B1 := Lib.hid b1
  have H24 := Lib.hid h24
  have HX3 := Lib.hid hx3
  have HX6 := Lib.hid hx6
  have HX7 := Lib.hid hx7
  have v1 : IntKind.i64.wrap (x1 : Int) = x1 := IntWalk.i64_in _ (by omega)
  have v2 : IntKind.i64.wrap (x2 : Int) = x2 := IntWalk.i64_in _ (by omega)
  have v4 : IntKind.i64.wrap (x4 : Int) = x4 := IntWalk.i64_in _ (by omega)
  have v5 : IntKind.i64.wrap (x5 : Int) = x5 := IntWalk.i64_in _ (by omega)
  clear hb b1 h24 hx1 hx2 hx3 hx4 hx5 hx6 hx7 hd
  go_enter Tryz.func32, Tryz.ntmps32
  go_wp2_with fail
  go_region_held3 (fun W => W.cell? ⟨bk, off, none⟩ = some (.int .u8 (x1 : Nat)) ∧ W.cell? ⟨bk, off + 1, none⟩ = some (.int .u8 (x2 : Nat)) ∧ W.cell? ⟨bk, off + 6, none⟩ = some (.int .u8 (x4 : Nat)) ∧ W.cell? ⟨bk, off + 7, none⟩ = some (.int .u8 (x5 : Nat))) (go_keep) (fail)
  go_wp2_with fail
  obtain ⟨W2, hW2⟩ : ∃ W, (W1.alloc (.cells #[.int .i64 (x1 : Nat), .int .i64 (x2 : Nat), .int .u32 0, .int .i64 (x4 : Nat), .int .i64 (x5 : Nat), .int .u64 0, .int .u64 0] 80 (0, 0))).drew = W := ⟨_, rfl⟩
  rw [hW2]
  have F2 : Hid (Fr (fun _ _ => True) W1 W2) := hW2 ▸ ((Fr.refl _ W1).alloc _).drew
  have T2 : Hid (W2.heap[W1.heap.size]? = some (.cells #[.int .i64 (x1 : Nat), .int .i64 (x2 : Nat), .int .u32 0, .int .i64 (x4 : Nat), .int .i64 (x5 : Nat), .int .u64 0, .int .u64 0] 80 (0, 0))) := hW2 ▸ heap_alloc_new W1 _
  have BB : Hid (∀ W, Fr (fun c _ => c < W1.heap.size) W1 W → BytesAt (fun c _ => c < W1.heap.size) W (.slice (some ⟨bk, off, none⟩) 24 cv) b) := fun W f => (B1.out.mono (K' := fun c _ => c < W1.heap.size) fun c o ho _ => lt_of_some ho).fr f
  have FF2 : Hid (Fr (fun c _ => c < W1.heap.size) W1 W2) := F2.out.mono fun _ _ _ => trivial
  have O1 := of_calls W2 _ _ ((BB.out W2 FF2.out).piece 2 4 (by rw [H24.out]; decide) (by omega)) (by simp; omega)
  rw [HX3.out] at O1
  have OC1 := Lib.hid O1
  have w3 : IntKind.u32.wrap (x3 : Int) = x3 := by rw [IntKind.wrap_u32]; omega
  obtain ⟨W3, hW3⟩ : ∃ W, W2.setCell ⟨W1.heap.size, 2, none⟩ (.int .u32 (x3 : Nat)) = W := ⟨_, rfl⟩
  have F3 : Hid (Fr (fun c _ => c ≠ W1.heap.size) W2 W3) := hW3 ▸ (Fr.refl _ _).setCell (fun _ _ h => h rfl) _
  have T3 : Hid (W3.heap[W1.heap.size]? = some (.cells #[.int .i64 (x1 : Nat), .int .i64 (x2 : Nat), .int .u32 (x3 : Nat), .int .i64 (x4 : Nat), .int .i64 (x5 : Nat), .int .u64 0, .int .u64 0] 80 (0, 0))) := hW3 ▸ heap_setCell_same (o := 2) T2.out _
  have FF3 : Hid (Fr (fun c _ => c < W1.heap.size) W1 W3) := FF2.out.trans (F3.out.mono fun c _ h e => by omega)
  have O2 := of_calls W3 _ _ ((BB.out W3 FF3.out).piece 8 8 (by rw [H24.out]; decide) (by omega)) (by simp; omega)
  rw [HX6.out] at O2
  have OC2 := Lib.hid O2
  obtain ⟨W4, hW4⟩ : ∃ W, W3.setCell ⟨W1.heap.size, 5, none⟩ (.int .u64 (x6 : Nat)) = W := ⟨_, rfl⟩
  have F4 : Hid (Fr (fun c _ => c ≠ W1.heap.size) W3 W4) := hW4 ▸ (Fr.refl _ _).setCell (fun _ _ h => h rfl) _
  have T4 : Hid (W4.heap[W1.heap.size]? = some (.cells #[.int .i64 (x1 : Nat), .int .i64 (x2 : Nat), .int .u32 (x3 : Nat), .int .i64 (x4 : Nat), .int .i64 (x5 : Nat), .int .u64 (x6 : Nat), .int .u64 0] 80 (0, 0))) := hW4 ▸ heap_setCell_same (o := 5) T3.out _
  have FF4 : Hid (Fr (fun c _ => c < W1.heap.size) W1 W4) := FF3.out.trans (F4.out.mono fun c _ h e => by omega)
  have O3 := of_calls W4 _ _ ((BB.out W4 FF4.out).piece 16 8 (by rw [H24.out]; decide) (by omega)) (by simp; omega)
  rw [HX7.out] at O3
  have OC3 := Lib.hid O3
  obtain ⟨W5, hW5⟩ : ∃ W, W4.setCell ⟨W1.heap.size, 6, none⟩ (.int .u64 (x7 : Nat)) = W := ⟨_, rfl⟩
  have F5 : Hid (Fr (fun c _ => c ≠ W1.heap.size) W4 W5) := hW5 ▸ (Fr.refl _ _).setCell (fun _ _ h => h rfl) _
  have T5 : Hid (W5.heap[W1.heap.size]? = some (.cells #[.int .i64 (x1 : Nat), .int .i64 (x2 : Nat), .int .u32 (x3 : Nat), .int .i64 (x4 : Nat), .int .i64 (x5 : Nat), .int .u64 (x6 : Nat), .int .u64 (x7 : Nat)] 80 (0, 0))) := hW5 ▸ heap_setCell_same (o := 6) T4.out _
  have FF5 : Hid (Fr (fun c _ => c < W1.heap.size) W1 W5) := FF4.out.trans (F5.out.mono fun c _ h e => by omega)
  have k2 := cell_mk (i := 2) T2.out rfl
  have z2 := frozen_mk (i := 2) T2.out
  have k5 := cell_mk (i := 5) T3.out rfl
  have z5 := frozen_mk (i := 5) T3.out
  have k6 := cell_mk (i := 6) T4.out rfl
  have z6 := frozen_mk (i := 6) T4.out
  clear O1 O2 O3 c0 c1 c6 c7 v1 v2 v4 v5 hW2
  (with_reducible refine OC1.out.mono ?_)
  rintro e w9 ⟨rfl, rfl⟩
  go_wp2_with fail
  (with_reducible refine OC2.out.mono ?_)
  rintro e w9 ⟨rfl, rfl⟩
  go_wp2_with fail
  (with_reducible refine OC3.out.mono ?_)
  rintro e w9 ⟨rfl, rfl⟩
  go_upto_region 9 with fail
  have R5 : Hid (W5.heap[w.heap.size]? = some (.cells #[.int .i64 0, .int .i64 0, .int .u32 0, .int .i64 0, .int .i64 0, .int .u64 0, .int .u64 0] 80 (0, 0))) := FF5.out.keep _ _ X1.out (lt_of_some X1.out)
  have FIN : Hid (∀ WZ, Fr (fun c _ => c ≠ w.heap.size) W5 WZ → Fr (fun _ _ => True) w WZ) := fun WZ f => Fr.within (((F1.out.mono fun _ _ _ => trivial).trans (FF5.out.mono fun c o h => lt_of_lt_size F1.out h.2)).trans (f.mono fun c _ h => by have := h.2; omega))
  clear k2 z2 k5 z5 k6 z6 hW3 hW4 hW5 OC1 OC2 OC3 w3
  have a0 := cell_mk (i := 0) T5.out rfl
  have a1 := cell_mk (i := 1) T5.out rfl
  have a2 := cell_mk (i := 2) T5.out rfl
  have a3 := cell_mk (i := 3) T5.out rfl
  have a4 := cell_mk (i := 4) T5.out rfl
  have a5 := cell_mk (i := 5) T5.out rfl
  have a6 := cell_mk (i := 6) T5.out rfl
  have q0 := cell_mk (i := 0) R5.out rfl
  have y0 := frozen_mk (i := 0) R5.out
  have q1 := cell_mk (i := 1) R5.out rfl
  have y1 := frozen_mk (i := 1) R5.out
  have q2 := cell_mk (i := 2) R5.out rfl
  have y2 := frozen_mk (i := 2) R5.out
  have q3 := cell_mk (i := 3) R5.out rfl
  have y3 := frozen_mk (i := 3) R5.out
  have q4 := cell_mk (i := 4) R5.out rfl
  have y4 := frozen_mk (i := 4) R5.out
  have q5 := cell_mk (i := 5) R5.out rfl
  have y5 := frozen_mk (i := 5) R5.out
  have q6 := cell_mk (i := 6) R5.out rfl
  have y6 := frozen_mk (i := 6) R5.out
  by_cases h1 : 1 ≤ x1
  · have h1' : decide ((x1 : Int) < 1) = false := by simp; omega
    by_cases h7 : x1 ≤ 7
    · have h7' : decide ((7 : Int) < x1) = false := by simp; omega
      have ED : Hid (decM b = (⟨(x1 : Nat), (x2 : Nat), x3, (x4 : Nat), (x5 : Nat), x6, x7⟩, 0)) := by show _ = _; unfold decM; rw [H24.out, if_neg (by omega), if_neg (by omega), HD.out, if_neg (by show ¬ ((x1 : Int) < 1 ∨ 7 < (x1 : Int)); omega)]
      clear h1 h7
      obtain ⟨WZ, hWZ, TZ, FZ⟩ := set7 R5.out (.int .i64 (x1 : Nat)) (.int .i64 (x2 : Nat)) (.int .u32 (x3 : Nat)) (.int .i64 (x4 : Nat)) (.int .i64 (x5 : Nat)) (.int .u64 (x6 : Nat)) (.int .u64 (x7 : Nat))
      have p0 := cell_mk (i := 0) TZ rfl
      have p1 := cell_mk (i := 1) TZ rfl
      have p2 := cell_mk (i := 2) TZ rfl
      have p3 := cell_mk (i := 3) TZ rfl
      have p4 := cell_mk (i := 4) TZ rfl
      have p5 := cell_mk (i := 5) TZ rfl
      have p6 := cell_mk (i := 6) TZ rfl
      have FZH := Lib.hid FZ
      clear FZ TZ
      go_wp2
      refine bodyPost_ret (v := .tuple #[.agg #[.int .i64 (x1 : Nat), .int .i64 (x2 : Nat), .int .u32 (x3 : Nat), .int .i64 (x4 : Nat), .int .i64 (x5 : Nat), .int .u64 (x6 : Nat), .int .u64 (x7 : Nat)], .int .i64 0]) (by simp [results, Tryz.results32, go_sem, *]) rfl ⟨?_, ?_⟩
      · rw [ED.out]; rfl
      · exact FIN.out _ FZH.out
    · have h7' : decide ((7 : Int) < x1) = true := by simp; omega
      have ED : Hid (decM b = (zeroC, 1)) := by show _ = _; unfold decM; rw [H24.out, if_neg (by omega), if_neg (by omega), HD.out, if_pos (by show (x1 : Int) < 1 ∨ 7 < (x1 : Int); omega)]
      clear h1 h7
      obtain ⟨WZ, hWZ, TZ, FZ⟩ := set7 R5.out (.int .i64 0) (.int .i64 0) (.int .u32 0) (.int .i64 0) (.int .i64 0) (.int .u64 0) (.int .u64 0)
      have p0 := cell_mk (i := 0) TZ rfl
      have p1 := cell_mk (i := 1) TZ rfl
      have p2 := cell_mk (i := 2) TZ rfl
      have p3 := cell_mk (i := 3) TZ rfl
      have p4 := cell_mk (i := 4) TZ rfl
      have p5 := cell_mk (i := 5) TZ rfl
      have p6 := cell_mk (i := 6) TZ rfl
      have FZH := Lib.hid FZ
      clear FZ TZ
      go_wp2
      refine bodyPost_ret (v := .tuple #[.agg #[.int .i64 0, .int .i64 0, .int .u32 0, .int .i64 0, .int .i64 0, .int .u64 0, .int .u64 0], .int .i64 1]) (by simp [results, Tryz.results32, go_sem, *]) rfl ⟨?_, ?_⟩
      · rw [ED.out]; rfl
      · exact FIN.out _ FZH.out
  · have h1' : decide ((x1 : Int) < 1) = true := by simp; omega
    have ED : Hid (decM b = (zeroC, 1)) := by show _ = _; unfold decM; rw [H24.out, if_neg (by omega), if_neg (by omega), HD.out, if_pos (by show (x1 : Int) < 1 ∨ 7 < (x1 : Int); omega)]
    clear h1
    obtain ⟨WZ, hWZ, TZ, FZ⟩ := set7 R5.out (.int .i64 0) (.int .i64 0) (.int .u32 0) (.int .i64 0) (.int .i64 0) (.int .u64 0) (.int .u64 0)
    have p0 := cell_mk (i := 0) TZ rfl
    have p1 := cell_mk (i := 1) TZ rfl
    have p2 := cell_mk (i := 2) TZ rfl
    have p3 := cell_mk (i := 3) TZ rfl
    have p4 := cell_mk (i := 4) TZ rfl
    have p5 := cell_mk (i := 5) TZ rfl
    have p6 := cell_mk (i := 6) TZ rfl
    have FZH := Lib.hid FZ
    clear FZ TZ
    go_wp2
    refine bodyPost_ret (v := .tuple #[.agg #[.int .i64 0, .int .i64 0, .int .u32 0, .int .i64 0, .int .i64 0, .int .u64 0, .int .u64 0], .int .i64 1]) (by simp [results, Tryz.results32, go_sem, *]) rfl ⟨?_, ?_⟩
    · rw [ED.out]; rfl
    · exact FIN.out _ FZH.out

theorem rdec_calls {K : Nat → Obj → Prop} (w : World) (v : Value) (b : List UInt8) (hb : BytesAt K w v b) (hm : b.length ≤ 1000000) :
    Calls Tryz.prog 32 #[v] w fun e w' => e = .returned (.tuple #[vC (decM b).1, .int .i64 ((decM b).2 : Nat)]) ∧ Fr (fun _ _ => True) w w' := by
  by_cases h : b.length = 24
  · obtain ⟨av, cv, rfl⟩ := hb.form
    rw [h] at hb ⊢
    exact rdec_24 w av cv b hb h
  · exact rdec_len w v b hb hm h
end Go.Proofs.YtlolfcnfcgegdaaGreat
