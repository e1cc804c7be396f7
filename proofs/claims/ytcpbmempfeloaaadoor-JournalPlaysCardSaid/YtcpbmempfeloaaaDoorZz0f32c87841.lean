/- Texts of the proofs, part 13: what the functions that they reach do, walked; no conditions beyond those that each states. -/
import Derived.Outline
import Derived.Test.YtcpbmempfeloaaaDoorZzcbba4ddc3a
set_option linter.unusedVariables false
set_option linter.unusedSimpArgs false
/- The references: a sector's record. -/
namespace Go.Proofs.YtcpbmempfeloaaaDoor
open Go.RowKit
set_option linter.unusedVariables false

theorem quiet_eq {P : Program} {f : FuncId} {args : Array Value} {w : World} {n : Nat} {v : Value}
    (h : Calls P f args (w.drewN n) fun e w' => e = .returned v ∧ w.drewN n = w') : Calls P f args (w.drewN n) fun e w'' => e = .returned v ∧ ∃ m, w'' = w.drewN m :=
  h.mono fun _ _ ⟨he, hm⟩ => ⟨he, n, hm.symm⟩
theorem run_slice_lit (W : World) (b off len cap : Nat) (lo hi : Nat) (zl zh : Int) (hl : zl = lo) (hh : zh = hi) (h1 : lo ≤ hi) (h2 : hi ≤ cap) (h3 : lo < cap) :
    (Instr.slice 33 (.slice (some ⟨b, off, none⟩) len cap) (some (.int .i64 zl)) (some (.int .i64 zh)) none).run Tryd.prog W = .ok (.slice (some ⟨b, off + lo, none⟩) (hi - lo) (cap - lo)) W := by
  subst hl hh
  rw [run_slice_mid Tryd.underlying33 size_u8 W _ len cap lo hi .i64 .i64 h1 h2, subA_some _ _ _ _ h3]
theorem BytesAt.piece {K : Nat → Obj → Prop} {w : World} {b off len cap : Nat} {bs : List UInt8} (h : BytesAt K w (.slice (some ⟨b, off, none⟩) len cap) bs) (lo n : Nat) (h1 : lo + n ≤ bs.length) (h2 : lo < cap) : BytesAt K w (.slice (some ⟨b, off + lo, none⟩) n (cap - lo)) ((bs.drop lo).take n) := by
  have := h.drop lo (by omega)
  rw [subA_some _ _ _ _ h2] at this
  exact this.take n (by rw [List.length_drop]; omega)

/-- The record's cells. -/
def recV (s p : Nat) (v : Value) : Value := .agg #[.int .u32 (s : Nat), .int .u32 (p : Nat), v]

set_option maxRecDepth 100000 in
theorem parse05_len (w : World) (a : Option Addr) (len cap : Nat) (hl : ¬ len = 64) :
    Calls Tryd.prog 66 #[.slice a len cap] w fun e w' => e = .returned (.agg #[.int .u32 0, .int .u32 0, .slice none 0 0]) ∧ Fr (fun _ _ => True) w w' := by
  have hq : ((len : Int) != 64) = true := by simp; omega
  clear hl
  go_enter Tryd.func66, Tryd.ntmps66
  go_wp2
  exact bodyPost_ret (v := .agg #[.int .u32 0, .int .u32 0, .slice none 0 0]) (by simp [results, Tryd.results66, go_sem]) rfl ⟨rfl, (Fr.refl _ _).alloc _⟩

set_option maxRecDepth 100000 in
set_option maxHeartbeats 2000000 in
theorem parse05_64 {K : Nat → Obj → Prop} (w : World) (a : Option Addr) (cap : Nat) (bs : List UInt8) (hb : BytesAt K w (.slice a 64 cap) bs) :
    Calls Tryd.prog 66 #[.slice a 64 cap] w fun e w' => ((parseP bs = none ∧ e = .returned (.agg #[.int .u32 0, .int .u32 0, .slice none 0 0])) ∨ ∃ s p b a' cap', parseP bs = some (s, p, b) ∧ e = .returned (.agg #[.int .u32 (s : Nat), .int .u32 (p : Nat), .slice a' b.length cap']) ∧ BytesAt K w' (.slice a' b.length cap') b) ∧ Fr (fun _ _ => True) w w' := by
  have hcap : 64 ≤ cap := hb.cap
  have H64 := Lib.hid hb.len
  obtain ⟨b, off, rfl⟩ := hb.addr (by have := hb.len; omega)
  have hW1 : ∃ W1, w.alloc (.cells #[.int .u32 0, .int .u32 0, .slice none 0 0] 116) = W1 := ⟨_, rfl⟩
  obtain ⟨W1, hW1⟩ := hW1
  have f1 : Fr (fun _ _ => True) w W1 := by rw [← hW1]; exact (Fr.refl _ _).alloc _
  have HB := Lib.hid (hb.tt f1)
  have HB0 := Lib.hid hb
  have F1 := Lib.hid f1
  have top := Lib.hid (show W1.heap[w.heap.size]? = some (.cells #[.int .u32 0, .int .u32 0, .slice none 0 0] 116 (0, 0)) by rw [← hW1]; exact heap_alloc_new _ _)
  have sW : w.heap.size < W1.heap.size := by rw [← hW1]; simp
  clear hb f1
  have P1 := Lib.hid (HB.out.take 4 (by have := H64.out; omega))
  have P2 := Lib.hid (HB.out.piece 4 4 (by have := H64.out; omega) (by omega))
  have P3 := Lib.hid (HB.out.piece 56 4 (by have := H64.out; omega) (by omega))
  have P4 := Lib.hid (HB.out.piece 60 4 (by have := H64.out; omega) (by omega))
  have P5 := Lib.hid (HB.out.take 52 (by have := H64.out; omega))
  have P6 := Lib.hid (HB.out.piece 52 4 (by have := H64.out; omega) (by omega))
  have s1 : ∀ W, (Instr.slice 33 (.slice (some ⟨b, off, none⟩) 64 cap) (some (.int .i64 0)) (some (.int .i64 4)) none).run Tryd.prog W = .ok (.slice (some ⟨b, off, none⟩) 4 cap) W := fun W => run_slice_lit W b off 64 cap 0 4 0 4 rfl rfl (by omega) (by omega) (by omega)
  have s2 : ∀ W, (Instr.slice 33 (.slice (some ⟨b, off, none⟩) 64 cap) (some (.int .i64 4)) (some (.int .i64 8)) none).run Tryd.prog W = .ok (.slice (some ⟨b, off + 4, none⟩) 4 (cap - 4)) W := fun W => run_slice_lit W b off 64 cap 4 8 4 8 rfl rfl (by omega) (by omega) (by omega)
  have s3 : ∀ W, (Instr.slice 33 (.slice (some ⟨b, off, none⟩) 64 cap) (some (.int .i64 56)) (some (.int .i64 60)) none).run Tryd.prog W = .ok (.slice (some ⟨b, off + 56, none⟩) 4 (cap - 56)) W := fun W => run_slice_lit W b off 64 cap 56 60 56 60 rfl rfl (by omega) (by omega) (by omega)
  have s4 : ∀ W, (Instr.slice 33 (.slice (some ⟨b, off, none⟩) 64 cap) (some (.int .i64 60)) (some (.int .i64 64)) none).run Tryd.prog W = .ok (.slice (some ⟨b, off + 60, none⟩) 4 (cap - 60)) W := fun W => run_slice_lit W b off 64 cap 60 64 60 64 rfl rfl (by omega) (by omega) (by omega)
  have s5 : ∀ W, (Instr.slice 33 (.slice (some ⟨b, off, none⟩) 64 cap) none (some (.int .i64 52)) none).run Tryd.prog W = .ok (.slice (some ⟨b, off, none⟩) 52 cap) W := fun W => run_slice_to Tryd.underlying33 size_u8 W _ 64 cap 52 .i64 (by omega)
  have s6 : ∀ W, (Instr.slice 33 (.slice (some ⟨b, off, none⟩) 64 cap) (some (.int .i64 52)) (some (.int .i64 56)) none).run Tryd.prog W = .ok (.slice (some ⟨b, off + 52, none⟩) 4 (cap - 52)) W := fun W => run_slice_lit W b off 64 cap 52 56 52 56 rfl rfl (by omega) (by omega) (by omega)
  have c8 := HB.out.cell (i := 8) (by have := H64.out; omega)
  have hlen : pLen bs = (bs[8]'(by have := H64.out; omega)).toNat := by
    unfold pLen
    rw [List.drop_eq_getElem_cons (by have := H64.out; omega)]
    show _ + 256 * 0 = _
    omega
  have HLen := Lib.hid hlen
  clear hlen
  have hlt := UInt8.toNat_lt (bs[8]'(by have := H64.out; omega))
  unfold byteV at c8
  generalize (bs[8]'(by have := H64.out; omega)).toNat = x3 at c8 HLen hlt
  have l1 : ofLE (bs.take 4) < 4294967296 := ofLE_take_lt bs 4
  have l2 : ofLE ((bs.drop 4).take 4) < 4294967296 := ofLE_take_lt _ 4
  have l4 : ofLE ((bs.drop 52).take 4) < 4294967296 := ofLE_take_lt _ 4
  have l5 : ofLE ((bs.drop 56).take 4) < 4294967296 := ofLE_take_lt _ 4
  have l6 : ofLE ((bs.drop 60).take 4) < 4294967296 := ofLE_take_lt _ 4
  have l7 := sumOf_lt (bs.take 52)
  have C1 := Lib.hid (of_calls _ _ _ P1.out (by rw [List.length_take]; omega))
  have C2 := Lib.hid (of_calls _ _ _ P2.out (by rw [List.length_take]; omega))
  have C5 := Lib.hid (of_calls _ _ _ P3.out (by rw [List.length_take]; omega))
  have C6 := Lib.hid (of_calls _ _ _ P4.out (by rw [List.length_take]; omega))
  have C7 : Hid (∀ n, Calls Tryd.prog 105 #[.slice (some ⟨b, off, none⟩) 52 cap] (W1.drewN n) fun e w' => e = .returned (.int .u32 (sumOf (bs.take 52) : Nat)) ∧ W1.drewN n = w') := fun n => sum02_calls _ _ _ (P5.out.tt ((Fr.refl _ _).drewN n)) (by rw [List.length_take]; omega)
  have C4 : Hid (∀ n, Calls Tryd.prog 63 #[.slice (some ⟨b, off + 52, none⟩) 4 (cap - 52)] (W1.drewN n) fun e w' => e = .returned (.int .u64 (ofLE ((bs.drop 52).take 4) : Nat)) ∧ W1.drewN n = w') := fun n => of_calls _ _ _ (P6.out.tt ((Fr.refl _ _).drewN n)) (by rw [List.length_take]; omega)
  have E : Hid (parseP bs = if bs.length = 64 ∧ ofLE (bs.take 4) ≠ 0 ∧ ofLE (bs.take 4) = ofLE ((bs.drop 56).take 4) ∧ ofLE ((bs.drop 4).take 4) = ofLE ((bs.drop 60).take 4) ∧ x3 ≤ 43 ∧ ofLE ((bs.drop 52).take 4) = sumOf (bs.take 52) then some (ofLE (bs.take 4), ofLE ((bs.drop 4).take 4), (bs.drop 9).take x3) else none) := by
    show parseP bs = _
    rw [← HLen.out]
    rfl
  have B3 : Hid (x3 ≤ 43 → ∀ W, Fr (fun _ _ => True) w W → ((bs.drop 9).take x3).length = x3 ∧ BytesAt K W (.slice (some ⟨b, off + 9, none⟩) x3 (cap - 9)) ((bs.drop 9).take x3)) := fun h3 W hf => ⟨by have := H64.out; simp; omega, (HB0.out.piece 9 x3 (by have := H64.out; omega) (by omega)).tt hf⟩
  have s7 : x3 ≤ 43 → ∀ W, (Instr.slice 33 (.slice (some ⟨b, off, none⟩) 64 cap) (some (.int .i64 9)) (some (.int .i64 (9 + (x3 : Int)))) none).run Tryd.prog W = .ok (.slice (some ⟨b, off + 9, none⟩) x3 (cap - 9)) W := fun h3 W => by
    have := run_slice_lit W b off 64 cap 9 (9 + x3) 9 (9 + x3) rfl (by omega) (by omega) (by omega) (by omega)
    rwa [Nat.add_sub_cancel_left] at this
  have S7 := Lib.hid s7
  clear P1 P2 P3 P4 P5 P6 HB HB0 s7
  generalize (bs.drop 9).take x3 = bb at E B3
  generalize ofLE (bs.take 4) = x1 at *
  generalize ofLE ((bs.drop 4).take 4) = x2 at *
  generalize ofLE ((bs.drop 52).take 4) = x4 at *
  generalize ofLE ((bs.drop 56).take 4) = x5 at *
  generalize ofLE ((bs.drop 60).take 4) = x6 at *
  generalize sumOf (bs.take 52) = sm at *
  have HN : Hid (∀ q : Prop, (¬ x1 = x5 ∨ ¬ x2 = x6 ∨ ¬ sm = x4 ∨ 43 < x3 ∨ x1 = 0) → parseP bs = none) := fun _ h => by
    rw [E.out, if_neg]; omega
  have HY : Hid (x1 = x5 → x2 = x6 → sm = x4 → x3 ≤ 43 → ¬ x1 = 0 → parseP bs = some (x1, x2, bb)) := fun h1 h2 h3 h4 h5 => by
    rw [E.out, if_pos ⟨H64.out.symm, h5, h1, h2, h4, h3.symm⟩]
  have TW := Lib.hid hW1
  clear E HLen
  go_enter Tryd.func66, Tryd.ntmps66
  go_wp2_with fail
  clear hW1
  (with_reducible refine C1.out.mono ?_)
  rintro e w2 ⟨rfl, rfl⟩
  go_wp2_with fail
  (with_reducible refine C2.out.mono ?_)
  rintro e w2 ⟨rfl, rfl⟩
  by_cases c2 : x1 = x5
  · have d2 : ((x1 : Int) == x5) = true := by simp [c2]
    have H2 := Lib.hid c2
    clear c2
    by_cases c3 : x2 = x6
    · have d3 : ((x2 : Int) == x6) = true := by simp [c3]
      have H3 := Lib.hid c3
      clear c3
      go_wp2_with fail
      (with_reducible refine C5.out.mono ?_)
      rintro e w2 ⟨rfl, rfl⟩
      go_wp2_with fail
      (with_reducible refine C6.out.mono ?_)
      rintro e w2 ⟨rfl, rfl⟩
      go_wp2_with fail
      go_quiet ((first | (go_at_call 105; exact quiet_eq (C7.out _)) | (go_at_call 63; exact quiet_eq (C4.out _))))
      have f2 : Fr (fun _ _ => True) W1 (W1.drewN nq) := (Fr.refl _ _).drewN nq
      generalize W1.drewN nq = W2 at f2
      have F2 := Lib.hid (F1.out.tt f2)
      have t2 := f2.keep _ _ top.out trivial
      have q0 := cell_mk (i := 0) t2 rfl
      have q1 := cell_mk (i := 1) t2 rfl
      have q2 := cell_mk (i := 2) t2 rfl
      have z0 := frozen_mk (i := 0) t2
      have z1 := frozen_mk (i := 1) t2
      have z2 := frozen_mk (i := 2) t2
      clear t2 f2
      by_cases c5 : sm = x4
      · have d5 : ((sm : Int) == x4) = true := by simp [c5]
        have H5 := Lib.hid c5
        clear c5
        by_cases c4 : x3 ≤ 43
        · have d4 : (x3 : Int) ≤ 43 := by omega
          have s7 := S7.out c4
          have LB := Lib.hid (B3.out c4 w (Fr.refl _ _)).1
          have H4 := Lib.hid c4
          clear c4
          by_cases c1 : x1 = 0
          · have d1 : ((x1 : Int) == 0) = true := by simp [c1]
            have HF := Lib.hid (HN.out True (.inr (.inr (.inr (.inr c1)))))
            clear c1
            go_wp2
            exact bodyPost_ret (v := .agg #[.int .u32 0, .int .u32 0, .slice none 0 0]) (by simp [results, Tryd.results66, go_sem, q0, q1, q2]) rfl ⟨.inl ⟨HF.out, rfl⟩, ((F2.out.setCell_new (p := ⟨w.heap.size, 0, none⟩) (Nat.le_refl _) _).setCell_new (p := ⟨w.heap.size, 1, none⟩) (Nat.le_refl _) _).setCell_new (p := ⟨w.heap.size, 2, none⟩) (Nat.le_refl _) _⟩
          · have d1 : ((x1 : Int) == 0) = false := by simp; omega
            have HF := Lib.hid (HY.out H2.out H3.out H5.out H4.out c1)
            clear c1
            go_wp2
            have f3 : Fr (fun _ _ => True) w (((W2.setCell ⟨w.heap.size, 0, none⟩ (.int .u32 (x1 : Nat))).setCell ⟨w.heap.size, 1, none⟩ (.int .u32 (x2 : Nat))).setCell ⟨w.heap.size, 2, none⟩ (.slice (some ⟨b, off + 9, none⟩) x3 (cap - 9))) := ((F2.out.setCell_new (p := ⟨w.heap.size, 0, none⟩) (Nat.le_refl _) _).setCell_new (p := ⟨w.heap.size, 1, none⟩) (Nat.le_refl _) _).setCell_new (p := ⟨w.heap.size, 2, none⟩) (Nat.le_refl _) _
            refine bodyPost_ret (v := .agg #[.int .u32 (x1 : Nat), .int .u32 (x2 : Nat), .slice (some ⟨b, off + 9, none⟩) x3 (cap - 9)]) (by simp [results, Tryd.results66, go_sem, q0, q1, q2]) rfl ⟨.inr ⟨x1, x2, bb, some ⟨b, off + 9, none⟩, cap - 9, HF.out, by rw [LB.out], ?_⟩, f3⟩
            rw [LB.out]
            exact (B3.out H4.out _ f3).2
        · have d4 : (43 : Int) < x3 := by omega
          have HF := Lib.hid (HN.out True (.inr (.inr (.inr (.inl (by omega))))))
          clear c4
          go_wp2
          exact bodyPost_ret (v := .agg #[.int .u32 0, .int .u32 0, .slice none 0 0]) (by simp [results, Tryd.results66, go_sem, q0, q1, q2]) rfl ⟨.inl ⟨HF.out, rfl⟩, ((F2.out.setCell_new (p := ⟨w.heap.size, 0, none⟩) (Nat.le_refl _) _).setCell_new (p := ⟨w.heap.size, 1, none⟩) (Nat.le_refl _) _).setCell_new (p := ⟨w.heap.size, 2, none⟩) (Nat.le_refl _) _⟩
      · have d5 : ((sm : Int) == x4) = false := by simp; omega
        have HF := Lib.hid (HN.out True (.inr (.inr (.inl c5))))
        clear c5
        go_wp2
        exact bodyPost_ret (v := .agg #[.int .u32 0, .int .u32 0, .slice none 0 0]) (by simp [results, Tryd.results66, go_sem, q0, q1, q2]) rfl ⟨.inl ⟨HF.out, rfl⟩, ((F2.out.setCell_new (p := ⟨w.heap.size, 0, none⟩) (Nat.le_refl _) _).setCell_new (p := ⟨w.heap.size, 1, none⟩) (Nat.le_refl _) _).setCell_new (p := ⟨w.heap.size, 2, none⟩) (Nat.le_refl _) _⟩
    · have d3 : ((x2 : Int) == x6) = false := by simp; omega
      have HF := Lib.hid (HN.out True (.inr (.inl c3)))
      clear c3
      go_wp2_with fail
      (with_reducible refine C5.out.mono ?_)
      rintro e w2 ⟨rfl, rfl⟩
      go_wp2_with fail
      (with_reducible refine C6.out.mono ?_)
      rintro e w2 ⟨rfl, rfl⟩
      go_wp2_with fail
      go_quiet ((first | (go_at_call 105; exact quiet_eq (C7.out _)) | (go_at_call 63; exact quiet_eq (C4.out _))))
      have f2 : Fr (fun _ _ => True) W1 (W1.drewN nq) := (Fr.refl _ _).drewN nq
      generalize W1.drewN nq = W2 at f2
      have F2 := Lib.hid (F1.out.tt f2)
      have t2 := f2.keep _ _ top.out trivial
      have q0 := cell_mk (i := 0) t2 rfl
      have q1 := cell_mk (i := 1) t2 rfl
      have q2 := cell_mk (i := 2) t2 rfl
      have z0 := frozen_mk (i := 0) t2
      have z1 := frozen_mk (i := 1) t2
      have z2 := frozen_mk (i := 2) t2
      clear t2 f2
      go_wp2
      exact bodyPost_ret (v := .agg #[.int .u32 0, .int .u32 0, .slice none 0 0]) (by simp [results, Tryd.results66, go_sem, q0, q1, q2]) rfl ⟨.inl ⟨HF.out, rfl⟩, ((F2.out.setCell_new (p := ⟨w.heap.size, 0, none⟩) (Nat.le_refl _) _).setCell_new (p := ⟨w.heap.size, 1, none⟩) (Nat.le_refl _) _).setCell_new (p := ⟨w.heap.size, 2, none⟩) (Nat.le_refl _) _⟩
  · have d2 : ((x1 : Int) == x5) = false := by simp; omega
    have HF := Lib.hid (HN.out True (.inl c2))
    clear c2
    go_wp2_with fail
    (with_reducible refine C5.out.mono ?_)
    rintro e w2 ⟨rfl, rfl⟩
    go_wp2_with fail
    go_quiet ((first | (go_at_call 105; exact quiet_eq (C7.out _)) | (go_at_call 63; exact quiet_eq (C4.out _))))
    have f2 : Fr (fun _ _ => True) W1 (W1.drewN nq) := (Fr.refl _ _).drewN nq
    generalize W1.drewN nq = W2 at f2
    have F2 := Lib.hid (F1.out.tt f2)
    have t2 := f2.keep _ _ top.out trivial
    have q0 := cell_mk (i := 0) t2 rfl
    have q1 := cell_mk (i := 1) t2 rfl
    have q2 := cell_mk (i := 2) t2 rfl
    have z0 := frozen_mk (i := 0) t2
    have z1 := frozen_mk (i := 1) t2
    have z2 := frozen_mk (i := 2) t2
    clear t2 f2
    go_wp2
    exact bodyPost_ret (v := .agg #[.int .u32 0, .int .u32 0, .slice none 0 0]) (by simp [results, Tryd.results66, go_sem, q0, q1, q2]) rfl ⟨.inl ⟨HF.out, rfl⟩, ((F2.out.setCell_new (p := ⟨w.heap.size, 0, none⟩) (Nat.le_refl _) _).setCell_new (p := ⟨w.heap.size, 1, none⟩) (Nat.le_refl _) _).setCell_new (p := ⟨w.heap.size, 2, none⟩) (Nat.le_refl _) _⟩

/-- ref05.Parse: the record's bytes are the sector's own. -/
theorem parse05_calls {K : Nat → Obj → Prop} (w : World) (v : Value) (bs : List UInt8) (hb : BytesAt K w v bs) :
    Calls Tryd.prog 66 #[v] w fun e w' => ((parseP bs = none ∧ e = .returned (.agg #[.int .u32 0, .int .u32 0, .slice none 0 0])) ∨ ∃ s p b a' cap', parseP bs = some (s, p, b) ∧ e = .returned (.agg #[.int .u32 (s : Nat), .int .u32 (p : Nat), .slice a' b.length cap']) ∧ BytesAt K w' (.slice a' b.length cap') b) ∧ Fr (fun _ _ => True) w w' := by
  obtain ⟨a, cap, rfl⟩ := hb.form
  by_cases h : bs.length = 64
  · rw [h] at hb ⊢
    exact parse05_64 w a cap bs hb
  · exact (parse05_len w a bs.length cap h).mono fun e w' ⟨he, hw⟩ => ⟨.inl ⟨by rw [parseP, if_neg (fun hc => h hc.1)], he⟩, hw⟩
end Go.Proofs.YtcpbmempfeloaaaDoor
