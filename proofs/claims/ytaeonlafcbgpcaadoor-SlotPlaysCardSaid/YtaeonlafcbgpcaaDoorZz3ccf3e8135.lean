/- Texts of the proofs, part 7: what the functions that they reach do, walked; no conditions beyond those that each states. -/
import Derived.Outline
import Derived.Lib.AppendZerosOnto
import Derived.Test.YtaeonlafcbgpcaaDoorZz3656e3b547
set_option linter.unusedVariables false
set_option linter.unusedSimpArgs false
/- The references: a sector's record. -/
namespace Go.Proofs.YtaeonlafcbgpcaaDoor
open Go.RowKit
set_option linter.unusedVariables false

theorem quiet_eq {P : Program} {f : FuncId} {args : Array Value} {w : World} {n : Nat} {v : Value}
    (h : Calls P f args (w.drewN n) fun e w' => e = .returned v ∧ w.drewN n = w') : Calls P f args (w.drewN n) fun e w'' => e = .returned v ∧ ∃ m, w'' = w.drewN m :=
  h.mono fun _ _ ⟨he, hm⟩ => ⟨he, n, hm.symm⟩
theorem run_slice_lit (W : World) (b off len cap : Nat) (lo hi : Nat) (zl zh : Int) (hl : zl = lo) (hh : zh = hi) (h1 : lo ≤ hi) (h2 : hi ≤ cap) (h3 : lo < cap) :
    (Instr.slice 23 (.slice (some ⟨b, off, none⟩) len cap) (some (.int .i64 zl)) (some (.int .i64 zh)) none).run Tryd.prog W = .ok (.slice (some ⟨b, off + lo, none⟩) (hi - lo) (cap - lo)) W := by
  subst hl hh
  rw [run_slice_mid Tryd.underlying23 size_u8 W _ len cap lo hi .i64 .i64 h1 h2, subA_some _ _ _ _ h3]
theorem BytesAt.piece {K : Nat → Obj → Prop} {w : World} {b off len cap : Nat} {bs : List UInt8} (h : BytesAt K w (.slice (some ⟨b, off, none⟩) len cap) bs) (lo n : Nat) (h1 : lo + n ≤ bs.length) (h2 : lo < cap) : BytesAt K w (.slice (some ⟨b, off + lo, none⟩) n (cap - lo)) ((bs.drop lo).take n) := by
  have := h.drop lo (by omega)
  rw [subA_some _ _ _ _ h2] at this
  exact this.take n (by rw [List.length_drop]; omega)

/-- The record's cells. -/
def recV (s p : Nat) (v : Value) : Value := .agg #[.int .u32 (s : Nat), .int .u32 (p : Nat), v]

set_option maxRecDepth 100000 in
theorem parse05_len (w : World) (a : Option Addr) (len cap : Nat) (hl : ¬ len = 64) :
    Calls Tryd.prog 16 #[.slice a len cap] w fun e w' => e = .returned (.agg #[.int .u32 0, .int .u32 0, .slice none 0 0]) ∧ Fr (fun _ _ => True) w w' := by
  have hq : ((len : Int) != 64) = true := by simp; omega
  clear hl
  go_enter Tryd.func16, Tryd.ntmps16
  go_wp2
  exact bodyPost_ret (v := .agg #[.int .u32 0, .int .u32 0, .slice none 0 0]) (by simp [results, Tryd.results16, go_sem]) rfl ⟨rfl, (Fr.refl _ _).alloc _⟩

set_option maxRecDepth 100000 in
set_option maxHeartbeats 2000000 in
theorem parse05_64 {K : Nat → Obj → Prop} (w : World) (a : Option Addr) (cap : Nat) (bs : List UInt8) (hb : BytesAt K w (.slice a 64 cap) bs) :
    Calls Tryd.prog 16 #[.slice a 64 cap] w fun e w' => ((parseP bs = none ∧ e = .returned (.agg #[.int .u32 0, .int .u32 0, .slice none 0 0])) ∨ ∃ s p b a' cap', parseP bs = some (s, p, b) ∧ e = .returned (.agg #[.int .u32 (s : Nat), .int .u32 (p : Nat), .slice a' b.length cap']) ∧ BytesAt K w' (.slice a' b.length cap') b) ∧ Fr (fun _ _ => True) w w' := by
  have hcap : 64 ≤ cap := hb.cap
  have H64 := Lib.hid hb.len
  obtain ⟨b, off, rfl⟩ := hb.addr (by have := hb.len; omega)
  have hW1 : ∃ W1, w.alloc (.cells #[.int .u32 0, .int .u32 0, .slice none 0 0] 31) = W1 := ⟨_, rfl⟩
  obtain ⟨W1, hW1⟩ := hW1
  have f1 : Fr (fun _ _ => True) w W1 := by rw [← hW1]; exact (Fr.refl _ _).alloc _
  have HB := Lib.hid (hb.tt f1)
  have HB0 := Lib.hid hb
  have F1 := Lib.hid f1
  have top := Lib.hid (show W1.heap[w.heap.size]? = some (.cells #[.int .u32 0, .int .u32 0, .slice none 0 0] 31 (0, 0)) by rw [← hW1]; exact heap_alloc_new _ _)
  have sW : w.heap.size < W1.heap.size := by rw [← hW1]; simp
  clear hb f1
  have P1 := Lib.hid (HB.out.take 4 (by have := H64.out; omega))
  have P2 := Lib.hid (HB.out.piece 4 4 (by have := H64.out; omega) (by omega))
  have P3 := Lib.hid (HB.out.piece 56 4 (by have := H64.out; omega) (by omega))
  have P4 := Lib.hid (HB.out.piece 60 4 (by have := H64.out; omega) (by omega))
  have P5 := Lib.hid (HB.out.take 52 (by have := H64.out; omega))
  have P6 := Lib.hid (HB.out.piece 52 4 (by have := H64.out; omega) (by omega))
  have s1 : ∀ W, (Instr.slice 23 (.slice (some ⟨b, off, none⟩) 64 cap) (some (.int .i64 0)) (some (.int .i64 4)) none).run Tryd.prog W = .ok (.slice (some ⟨b, off, none⟩) 4 cap) W := fun W => run_slice_lit W b off 64 cap 0 4 0 4 rfl rfl (by omega) (by omega) (by omega)
  have s2 : ∀ W, (Instr.slice 23 (.slice (some ⟨b, off, none⟩) 64 cap) (some (.int .i64 4)) (some (.int .i64 8)) none).run Tryd.prog W = .ok (.slice (some ⟨b, off + 4, none⟩) 4 (cap - 4)) W := fun W => run_slice_lit W b off 64 cap 4 8 4 8 rfl rfl (by omega) (by omega) (by omega)
  have s3 : ∀ W, (Instr.slice 23 (.slice (some ⟨b, off, none⟩) 64 cap) (some (.int .i64 56)) (some (.int .i64 60)) none).run Tryd.prog W = .ok (.slice (some ⟨b, off + 56, none⟩) 4 (cap - 56)) W := fun W => run_slice_lit W b off 64 cap 56 60 56 60 rfl rfl (by omega) (by omega) (by omega)
  have s4 : ∀ W, (Instr.slice 23 (.slice (some ⟨b, off, none⟩) 64 cap) (some (.int .i64 60)) (some (.int .i64 64)) none).run Tryd.prog W = .ok (.slice (some ⟨b, off + 60, none⟩) 4 (cap - 60)) W := fun W => run_slice_lit W b off 64 cap 60 64 60 64 rfl rfl (by omega) (by omega) (by omega)
  have s5 : ∀ W, (Instr.slice 23 (.slice (some ⟨b, off, none⟩) 64 cap) none (some (.int .i64 52)) none).run Tryd.prog W = .ok (.slice (some ⟨b, off, none⟩) 52 cap) W := fun W => run_slice_to Tryd.underlying23 size_u8 W _ 64 cap 52 .i64 (by omega)
  have s6 : ∀ W, (Instr.slice 23 (.slice (some ⟨b, off, none⟩) 64 cap) (some (.int .i64 52)) (some (.int .i64 56)) none).run Tryd.prog W = .ok (.slice (some ⟨b, off + 52, none⟩) 4 (cap - 52)) W := fun W => run_slice_lit W b off 64 cap 52 56 52 56 rfl rfl (by omega) (by omega) (by omega)
  have c8 := HB.out.cell (i := 8) (by have := H64.out; omega)
  have hlen : pLen bs = (bs[8]'(by have := H64.out; omega)).toNat := by
    unfold pLen
    rw [List.drop_eq_getElem_cons (by have := H64.out; omega)]
    show _ + 256 * 0 = _
    omega
  have HLen := Lib.hid hlen
  clear hlen
  have hlt := UInt8.toNat_lt (bs[8]'(by have := H64.out; omega))
  unfold byteV at c8
  generalize (bs[8]'(by have := H64.out; omega)).toNat = x3 at c8 HLen hlt
  have l1 : ofLE (bs.take 4) < 4294967296 := ofLE_take_lt bs 4
  have l2 : ofLE ((bs.drop 4).take 4) < 4294967296 := ofLE_take_lt _ 4
  have l4 : ofLE ((bs.drop 52).take 4) < 4294967296 := ofLE_take_lt _ 4
  have l5 : ofLE ((bs.drop 56).take 4) < 4294967296 := ofLE_take_lt _ 4
  have l6 : ofLE ((bs.drop 60).take 4) < 4294967296 := ofLE_take_lt _ 4
  have l7 := sumOf_lt (bs.take 52)
  have C1 := Lib.hid (of_calls _ _ _ P1.out (by rw [List.length_take]; omega))
  have C2 := Lib.hid (of_calls _ _ _ P2.out (by rw [List.length_take]; omega))
  have C5 := Lib.hid (of_calls _ _ _ P3.out (by rw [List.length_take]; omega))
  have C6 := Lib.hid (of_calls _ _ _ P4.out (by rw [List.length_take]; omega))
  have C7 : Hid (∀ n, Calls Tryd.prog 43 #[.slice (some ⟨b, off, none⟩) 52 cap] (W1.drewN n) fun e w' => e = .returned (.int .u32 (sumOf (bs.take 52) : Nat)) ∧ W1.drewN n = w') := fun n => sum02_calls _ _ _ (P5.out.tt ((Fr.refl _ _).drewN n)) (by rw [List.length_take]; omega)
  have C4 : Hid (∀ n, Calls Tryd.prog 47 #[.slice (some ⟨b, off + 52, none⟩) 4 (cap - 52)] (W1.drewN n) fun e w' => e = .returned (.int .u64 (ofLE ((bs.drop 52).take 4) : Nat)) ∧ W1.drewN n = w') := fun n => of_calls _ _ _ (P6.out.tt ((Fr.refl _ _).drewN n)) (by rw [List.length_take]; omega)
  have E : Hid (parseP bs = if bs.length = 64 ∧ ofLE (bs.take 4) ≠ 0 ∧ ofLE (bs.take 4) = ofLE ((bs.drop 56).take 4) ∧ ofLE ((bs.drop 4).take 4) = ofLE ((bs.drop 60).take 4) ∧ x3 ≤ 43 ∧ ofLE ((bs.drop 52).take 4) = sumOf (bs.take 52) then some (ofLE (bs.take 4), ofLE ((bs.drop 4).take 4), (bs.drop 9).take x3) else none) := by
    show parseP bs = _
    rw [← HLen.out]
    rfl
  have B3 : Hid (x3 ≤ 43 → ∀ W, Fr (fun _ _ => True) w W → ((bs.drop 9).take x3).length = x3 ∧ BytesAt K W (.slice (some ⟨b, off + 9, none⟩) x3 (cap - 9)) ((bs.drop 9).take x3)) := fun h3 W hf => ⟨by have := H64.out; simp; omega, (HB0.out.piece 9 x3 (by have := H64.out; omega) (by omega)).tt hf⟩
  have s7 : x3 ≤ 43 → ∀ W, (Instr.slice 23 (.slice (some ⟨b, off, none⟩) 64 cap) (some (.int .i64 9)) (some (.int .i64 (9 + (x3 : Int)))) none).run Tryd.prog W = .ok (.slice (some ⟨b, off + 9, none⟩) x3 (cap - 9)) W := fun h3 W => by
    have := run_slice_lit W b off 64 cap 9 (9 + x3) 9 (9 + x3) rfl (by omega) (by omega) (by omega) (by omega)
    rwa [Nat.add_sub_cancel_left] at this
  have S7 := Lib.hid s7
  clear P1 P2 P3 P4 P5 P6 HB HB0 s7
  generalize (bs.drop 9).take x3 = bb at E B3
  generalize ofLE (bs.take 4) = x1 at *
  generalize ofLE ((bs.drop 4).take 4) = x2 at *
  generalize ofLE ((bs.drop 52).take 4) = x4 at *
  generalize ofLE ((bs.drop 56).take 4) = x5 at *
  generalize ofLE ((bs.drop 60).take 4) = x6 at *
  generalize sumOf (bs.take 52) = sm at *
  have HN : Hid (∀ q : Prop, (¬ x1 = x5 ∨ ¬ x2 = x6 ∨ ¬ sm = x4 ∨ 43 < x3 ∨ x1 = 0) → parseP bs = none) := fun _ h => by
    rw [E.out, if_neg]; omega
  have HY : Hid (x1 = x5 → x2 = x6 → sm = x4 → x3 ≤ 43 → ¬ x1 = 0 → parseP bs = some (x1, x2, bb)) := fun h1 h2 h3 h4 h5 => by
    rw [E.out, if_pos ⟨H64.out.symm, h5, h1, h2, h4, h3.symm⟩]
  have TW := Lib.hid hW1
  clear E HLen
  go_enter Tryd.func16, Tryd.ntmps16
  go_wp2_with fail
  clear hW1
  (with_reducible refine C1.out.mono ?_)
  rintro e w2 ⟨rfl, rfl⟩
  go_wp2_with fail
  (with_reducible refine C2.out.mono ?_)
  rintro e w2 ⟨rfl, rfl⟩
  by_cases c2 : x1 = x5
  · have d2 : ((x1 : Int) == x5) = true := by simp [c2]
    have H2 := Lib.hid c2
    clear c2
    by_cases c3 : x2 = x6
    · have d3 : ((x2 : Int) == x6) = true := by simp [c3]
      have H3 := Lib.hid c3
      clear c3
      go_wp2_with fail
      (with_reducible refine C5.out.mono ?_)
      rintro e w2 ⟨rfl, rfl⟩
      go_wp2_with fail
      (with_reducible refine C6.out.mono ?_)
      rintro e w2 ⟨rfl, rfl⟩
      go_wp2_with fail
      go_quiet ((first | (go_at_call 43; exact quiet_eq (C7.out _)) | (go_at_call 47; exact quiet_eq (C4.out _))))
      have f2 : Fr (fun _ _ => True) W1 (W1.drewN nq) := (Fr.refl _ _).drewN nq
      generalize W1.drewN nq = W2 at f2
      have F2 := Lib.hid (F1.out.tt f2)
      have t2 := f2.keep _ _ top.out trivial
      have q0 := cell_mk (i := 0) t2 rfl
      have q1 := cell_mk (i := 1) t2 rfl
      have q2 := cell_mk (i := 2) t2 rfl
      have z0 := frozen_mk (i := 0) t2
      have z1 := frozen_mk (i := 1) t2
      have z2 := frozen_mk (i := 2) t2
      clear t2 f2
      by_cases c5 : sm = x4
      · have d5 : ((sm : Int) == x4) = true := by simp [c5]
        have H5 := Lib.hid c5
        clear c5
        by_cases c4 : x3 ≤ 43
        · have d4 : (x3 : Int) ≤ 43 := by omega
          have s7 := S7.out c4
          have LB := Lib.hid (B3.out c4 w (Fr.refl _ _)).1
          have H4 := Lib.hid c4
          clear c4
          by_cases c1 : x1 = 0
          · have d1 : ((x1 : Int) == 0) = true := by simp [c1]
            have HF := Lib.hid (HN.out True (.inr (.inr (.inr (.inr c1)))))
            clear c1
            go_wp2
            exact bodyPost_ret (v := .agg #[.int .u32 0, .int .u32 0, .slice none 0 0]) (by simp [results, Tryd.results16, go_sem, q0, q1, q2]) rfl ⟨.inl ⟨HF.out, rfl⟩, ((F2.out.setCell_new (p := ⟨w.heap.size, 0, none⟩) (Nat.le_refl _) _).setCell_new (p := ⟨w.heap.size, 1, none⟩) (Nat.le_refl _) _).setCell_new (p := ⟨w.heap.size, 2, none⟩) (Nat.le_refl _) _⟩
          · have d1 : ((x1 : Int) == 0) = false := by simp; omega
            have HF := Lib.hid (HY.out H2.out H3.out H5.out H4.out c1)
            clear c1
            go_wp2
            have f3 : Fr (fun _ _ => True) w (((W2.setCell ⟨w.heap.size, 0, none⟩ (.int .u32 (x1 : Nat))).setCell ⟨w.heap.size, 1, none⟩ (.int .u32 (x2 : Nat))).setCell ⟨w.heap.size, 2, none⟩ (.slice (some ⟨b, off + 9, none⟩) x3 (cap - 9))) := ((F2.out.setCell_new (p := ⟨w.heap.size, 0, none⟩) (Nat.le_refl _) _).setCell_new (p := ⟨w.heap.size, 1, none⟩) (Nat.le_refl _) _).setCell_new (p := ⟨w.heap.size, 2, none⟩) (Nat.le_refl _) _
            refine bodyPost_ret (v := .agg #[.int .u32 (x1 : Nat), .int .u32 (x2 : Nat), .slice (some ⟨b, off + 9, none⟩) x3 (cap - 9)]) (by simp [results, Tryd.results16, go_sem, q0, q1, q2]) rfl ⟨.inr ⟨x1, x2, bb, some ⟨b, off + 9, none⟩, cap - 9, HF.out, by rw [LB.out], ?_⟩, f3⟩
            rw [LB.out]
            exact (B3.out H4.out _ f3).2
        · have d4 : (43 : Int) < x3 := by omega
          have HF := Lib.hid (HN.out True (.inr (.inr (.inr (.inl (by omega))))))
          clear c4
          go_wp2
          exact bodyPost_ret (v := .agg #[.int .u32 0, .int .u32 0, .slice none 0 0]) (by simp [results, Tryd.results16, go_sem, q0, q1, q2]) rfl ⟨.inl ⟨HF.out, rfl⟩, ((F2.out.setCell_new (p := ⟨w.heap.size, 0, none⟩) (Nat.le_refl _) _).setCell_new (p := ⟨w.heap.size, 1, none⟩) (Nat.le_refl _) _).setCell_new (p := ⟨w.heap.size, 2, none⟩) (Nat.le_refl _) _⟩
      · have d5 : ((sm : Int) == x4) = false := by simp; omega
        have HF := Lib.hid (HN.out True (.inr (.inr (.inl c5))))
        clear c5
        go_wp2
        exact bodyPost_ret (v := .agg #[.int .u32 0, .int .u32 0, .slice none 0 0]) (by simp [results, Tryd.results16, go_sem, q0, q1, q2]) rfl ⟨.inl ⟨HF.out, rfl⟩, ((F2.out.setCell_new (p := ⟨w.heap.size, 0, none⟩) (Nat.le_refl _) _).setCell_new (p := ⟨w.heap.size, 1, none⟩) (Nat.le_refl _) _).setCell_new (p := ⟨w.heap.size, 2, none⟩) (Nat.le_refl _) _⟩
    · have d3 : ((x2 : Int) == x6) = false := by simp; omega
      have HF := Lib.hid (HN.out True (.inr (.inl c3)))
      clear c3
      go_wp2_with fail
      (with_reducible refine C5.out.mono ?_)
      rintro e w2 ⟨rfl, rfl⟩
      go_wp2_with fail
      (with_reducible refine C6.out.mono ?_)
      rintro e w2 ⟨rfl, rfl⟩
      go_wp2_with fail
      go_quiet ((first | (go_at_call 43; exact quiet_eq (C7.out _)) | (go_at_call 47; exact quiet_eq (C4.out _))))
      have f2 : Fr (fun _ _ => True) W1 (W1.drewN nq) := (Fr.refl _ _).drewN nq
      generalize W1.drewN nq = W2 at f2
      have F2 := Lib.hid (F1.out.tt f2)
      have t2 := f2.keep _ _ top.out trivial
      have q0 := cell_mk (i := 0) t2 rfl
      have q1 := cell_mk (i := 1) t2 rfl
      have q2 := cell_mk (i := 2) t2 rfl
      have z0 := frozen_mk (i := 0) t2
      have z1 := frozen_mk (i := 1) t2
      have z2 := frozen_mk (i := 2) t2
      clear t2 f2
      go_wp2
      exact bodyPost_ret (v := .agg #[.int .u32 0, .int .u32 0, .slice none 0 0]) (by simp [results, Tryd.results16, go_sem, q0, q1, q2]) rfl ⟨.inl ⟨HF.out, rfl⟩, ((F2.out.setCell_new (p := ⟨w.heap.size, 0, none⟩) (Nat.le_refl _) _).setCell_new (p := ⟨w.heap.size, 1, none⟩) (Nat.le_refl _) _).setCell_new (p := ⟨w.heap.size, 2, none⟩) (Nat.le_refl _) _⟩
  · have d2 : ((x1 : Int) == x5) = false := by simp; omega
    have HF := Lib.hid (HN.out True (.inl c2))
    clear c2
    go_wp2_with fail
    (with_reducible refine C5.out.mono ?_)
    rintro e w2 ⟨rfl, rfl⟩
    go_wp2_with fail
    go_quiet ((first | (go_at_call 43; exact quiet_eq (C7.out _)) | (go_at_call 47; exact quiet_eq (C4.out _))))
    have f2 : Fr (fun _ _ => True) W1 (W1.drewN nq) := (Fr.refl _ _).drewN nq
    generalize W1.drewN nq = W2 at f2
    have F2 := Lib.hid (F1.out.tt f2)
    have t2 := f2.keep _ _ top.out trivial
    have q0 := cell_mk (i := 0) t2 rfl
    have q1 := cell_mk (i := 1) t2 rfl
    have q2 := cell_mk (i := 2) t2 rfl
    have z0 := frozen_mk (i := 0) t2
    have z1 := frozen_mk (i := 1) t2
    have z2 := frozen_mk (i := 2) t2
    clear t2 f2
    go_wp2
    exact bodyPost_ret (v := .agg #[.int .u32 0, .int .u32 0, .slice none 0 0]) (by simp [results, Tryd.results16, go_sem, q0, q1, q2]) rfl ⟨.inl ⟨HF.out, rfl⟩, ((F2.out.setCell_new (p := ⟨w.heap.size, 0, none⟩) (Nat.le_refl _) _).setCell_new (p := ⟨w.heap.size, 1, none⟩) (Nat.le_refl _) _).setCell_new (p := ⟨w.heap.size, 2, none⟩) (Nat.le_refl _) _⟩

/-- ref05.Parse: the record's bytes are the sector's own. -/
theorem parse05_calls {K : Nat → Obj → Prop} (w : World) (v : Value) (bs : List UInt8) (hb : BytesAt K w v bs) :
    Calls Tryd.prog 16 #[v] w fun e w' => ((parseP bs = none ∧ e = .returned (.agg #[.int .u32 0, .int .u32 0, .slice none 0 0])) ∨ ∃ s p b a' cap', parseP bs = some (s, p, b) ∧ e = .returned (.agg #[.int .u32 (s : Nat), .int .u32 (p : Nat), .slice a' b.length cap']) ∧ BytesAt K w' (.slice a' b.length cap') b) ∧ Fr (fun _ _ => True) w w' := by
  obtain ⟨a, cap, rfl⟩ := hb.form
  by_cases h : bs.length = 64
  · rw [h] at hb ⊢
    exact parse05_64 w a cap bs hb
  · exact (parse05_len w a bs.length cap h).mono fun e w' ⟨he, hw⟩ => ⟨.inl ⟨by rw [parseP, if_neg (fun hc => h hc.1)], he⟩, hw⟩
end Go.Proofs.YtaeonlafcbgpcaaDoor
/- 'append(row, make([]byte, m)...)' on a row of the function's own. -/
namespace Go.Proofs.YtaeonlafcbgpcaaDoor
open Go.RowKit

theorem zeroCells_bytes (m : Nat) : (Builtin.zeroCells (Value.int .u8 0).cells m) = ((List.replicate m (0 : UInt8)).map byteV).toArray := by
  apply Array.ext
  · simp [Builtin.zeroCells, Value.cells]
  · intro i h1 h2
    simp [Builtin.zeroCells, Value.cells, byteV, Nat.mod_one]

theorem run_append_zeros_own (w : World) (base : Nat) (ty : TypeId) (g n cap : Nat) (xs : List UInt8) (hown : RowB w base (.slice (some ⟨g, 0, none⟩) n cap) n xs) (m : Nat) (hn : n + m ≤ 2000000) (hbase : base ≤ w.heap.size) :
    ∃ g' cap' w', (Builtin.append_ #[23, 3] ty #[.slice (some ⟨g, 0, none⟩) n cap, .int .i64 (m : Nat)]).run Tryd.prog w = .ok (.slice (some ⟨g', 0, none⟩) (n + m) cap') w' ∧ RowB w' base (.slice (some ⟨g', 0, none⟩) (n + m) cap') (n + m) (xs ++ List.replicate m 0) ∧ w.grownBy w' (some g) := by
  obtain ⟨i0, hi, hz0, hz1, hz2⟩ := info_parts info_u8
  obtain ⟨hl, hh⟩ := hown
  rw [Nat.mul_one] at hl
  rcases hh with ⟨e, _⟩ | ⟨g', cap', cur, e, hbg, hg, hnc, hcm, hcs, htake⟩
  · cases e
  cases e
  rw [Nat.mul_one] at hcs
  have hlx : xs.length = n := by simpa using hl
  by_cases h0 : m = 0
  · subst h0
    refine ⟨g, cap, w, ?_, ?_, ⟨rfl, rfl, rfl, Nat.le_refl _, fun _ _ _ => rfl⟩⟩
    · simp [Builtin.append_, run_underlying Tryd.underlying23, run_underlying Tryd.underlying3, sizeOf, typeInfo, hi, asInt, asIntOf, IntKind.wrap_i64, hnc, storeCells]
    · simp only [Nat.add_zero, List.replicate_zero, List.append_nil]
      exact ⟨by rw [List.length_map, Nat.mul_one]; exact hlx, .inr ⟨g, cap, cur, rfl, hbg, hg, hnc, hcm, by rw [Nat.mul_one]; exact hcs, htake⟩⟩
  · by_cases hroom : n + m ≤ cap
    · have hone : ∀ u ∈ (List.replicate m (0 : UInt8)).map byteV, u.oneCell' = true := fun u hu => by
        obtain ⟨x, _, rfl⟩ := List.mem_map.1 hu; rfl
      have hst := run_storeCells_at Tryd.prog g n 5 ((List.replicate m (0 : UInt8)).map byteV) 0 cur w hg (by simp; omega) hone
      simp only [Nat.add_zero] at hst
      have hw : IntKind.i64.wrap (m : Int) = m := by rw [IntKind.wrap_i64]; omega
      have hneg : ¬ ((m : Int) < 0) := by omega
      have h48 : ¬ ((281474976710656 : Int) < (m : Int) * ((1 : Nat) : Int)) := by omega
      refine ⟨g, cap, _, ?_, ⟨?_, .inr ⟨g, cap, _, rfl, hbg, setRow_heap w g cur (cur.toList.take n ++ ((List.replicate m (0 : UInt8)).map byteV) ++ cur.toList.drop (n + ((List.replicate m (0 : UInt8)).map byteV).length)).toArray _ _ hg, hroom, hcm, ?_, ?_⟩⟩, ⟨rfl, rfl, rfl, by simp, fun k _ hk => setRow_other w g k _ (fun e => hk (by rw [e]))⟩⟩
      · have ez := zeroCells_bytes m
        simp [Builtin.append_, run_underlying Tryd.underlying23, run_underlying Tryd.underlying3, sizeOf, typeInfo, zeroValue, hi, hz0, hz1, hz2, asInt, asIntOf, hw, hneg, hroom, h0, Addr.add_lit, ez, show ¬ ((281474976710656 : Int) < m) from by omega] at hst ⊢
        rw [hst]
        rfl
      · simp [hlx]
      · simp only [List.size_toArray, List.length_append, List.length_take, List.length_drop, Array.length_toList, List.length_map, List.length_replicate]
        omega
      · have ht : cur.toList.take n = xs.map byteV := by rw [← htake, Nat.mul_one]
        rw [ht, List.map_append]
        have e2 : (n + m) * 1 = (xs.map byteV ++ (List.replicate m (0 : UInt8)).map byteV).length := by simp [hlx]
        rw [e2]
        exact List.take_left
    · have holds : ∀ j u, (xs.map byteV)[j]? = some u → w.drew.cell? ((⟨g, 0, none⟩ : Addr).add j) = some u := World.ownsRow.cells (w := w.drew) (g := g) (v := .slice (some ⟨g, 0, none⟩) n cap) (n := n) (base := base) (e := 5) (size := 1) ⟨by rw [Nat.mul_one]; exact hl, .inr ⟨g, cap, cur, rfl, hbg, hg, hnc, hcm, by rw [Nat.mul_one]; exact hcs, htake⟩⟩ rfl
      have hf := run_firstCells_some (P := Tryd.prog) w.drew i0.size n ⟨g, 0, none⟩ n cap (xs.map byteV) (by rw [hz1, Nat.mul_one]; exact hl) holds
      have hr := Lib.run_append_grow_zeros (P := Tryd.prog) w 23 3 ty 5 i0 (.int .u8 0) .i64 .i64 Tryd.underlying23 Tryd.underlying3 hi hz0 (some ⟨g, 0, none⟩) n cap (xs.map byteV) hf m (by omega) (by omega) (by omega) (by omega) (by rw [hz2]; omega) (growslice_fits (by omega) (by rw [hz2]; omega))
      have hge := grownCap_ge w (n + m) cap 5
      have hcm' : grownCap w (n + m) cap 5 ≤ maxLen := grownCap_le_maxLen w (n + m) cap 5 (by unfold maxLen; omega)
      refine ⟨w.heap.size, _, _, hr, ⟨by simp [hlx], .inr ⟨w.heap.size, _, _, rfl, hbase, heap_alloc_new w.drew _, hge, hcm', ?_, ?_⟩⟩, ⟨rfl, rfl, rfl, by simp, fun k hk _ => Below.heap_alloc w.drew _ k hk⟩⟩
      · simp only [Array.size_append, List.size_toArray, size_zeroCells, List.length_map, hlx, show (Value.int .u8 0).cells.size = 1 from rfl, Nat.mul_one]
        omega
      · rw [zeroCells_bytes m]
        simp only [Array.toList_append]
        have e2 : (n + m) * 1 = (xs.map byteV ++ (List.replicate m (0 : UInt8)).map byteV).length := by simp [hlx]
        rw [e2, List.map_append]
        exact List.take_left

/-- An append of bytes to a row that is not nil. -/
theorem wpList_append_fs {K0 : Nat → Obj → Prop} {ops : Array Oper} {rest : List Oper} {o : Oper} {a : Act} {Q : Exit → Act → World → Prop} (W0 W : World) (hF : Hid (Fr (fun _ _ => True) W0 W)) (hgd : o.guard = none) (s x : Operand)
    (ho : o.op = .call { callee := .builtin .append, args := #[s, x], argTypes := #[23, 23] }) (ad : Addr) (n c : Nat) (xs : List UInt8) (hs : a.eval s = .slice (some ad) n c) (hown : Hid (RowB W W0.heap.size (.slice (some ad) n c) n xs))
    (vx : Value) (bs : List UInt8) (hx : a.eval x = vx) (hb : Hid (BytesAt K0 W vx bs)) (N : Nat) (r : List UInt8) (hr : Hid (xs ++ bs = r)) (hN : Hid (n + bs.length = N)) (hn : N ≤ 2000000)
    (h : ∀ g' c' w', Hid (RowB w' W0.heap.size (.slice (some ⟨g', 0, none⟩) N c') N r) → Hid (Fr (fun _ _ => True) W0 w') → wpList Tryd.prog ops Q rest (a.put o.dst (.slice (some ⟨g', 0, none⟩) N c')) w') :
    wpList Tryd.prog ops Q (o :: rest) a W := by
  obtain ⟨i0, hi, hz0, hz1, hz2⟩ := info_parts info_u8
  have hr := hr.out
  have hN := hN.out
  subst hr hN
  refine wpList_append_src W hgd s x 23 ho W0.heap.size 5 i0 (.int .u8 0) 1 1 Tryd.underlying23 hi hz0 hz1 hz2 rfl (by decide) _ n (xs.map byteV) hs hown.out vx bs.length (bs.map byteV) hx hb.out.src (by unfold maxLen; omega) (by omega) hF.out.size ?_
  intro v' w' h1 h2 h3
  rw [← List.map_append] at h1
  have h4 := h1.2
  rcases h4 with ⟨rfl, _⟩ | ⟨g', c', _, rfl, _⟩
  · have := (h3.1 rfl).1; cases this
  · exact h g' c' w' h1 (hF.out.grown_new h2 (own_new hown.out))

theorem wpList_append_zeros {ops : Array Oper} {rest : List Oper} {o : Oper} {a : Act} {Q : Exit → Act → World → Prop} (W0 W : World) (hF : Hid (Fr (fun _ _ => True) W0 W)) (hgd : o.guard = none) (s x : Operand)
    (ho : o.op = .call { callee := .builtin .append, args := #[s, x], argTypes := #[23, 3] }) (g cap n : Nat) (xs : List UInt8) (hs : a.eval s = .slice (some ⟨g, 0, none⟩) n cap) (hown : Hid (RowB W W0.heap.size (.slice (some ⟨g, 0, none⟩) n cap) n xs))
    (z : Int) (m : Nat) (hx : a.eval x = .int .i64 z) (hz : z = m) (N : Nat) (r : List UInt8) (hr : Hid (xs ++ List.replicate m 0 = r)) (hN : Hid (n + m = N)) (hn : N ≤ 2000000)
    (h : ∀ a' c' w', Hid (RowB w' W0.heap.size (.slice a' N c') N r) → Hid (Fr (fun _ _ => True) W0 w') → wpList Tryd.prog ops Q rest (a.put o.dst (.slice a' N c')) w') :
    wpList Tryd.prog ops Q (o :: rest) a W := by
  subst hz
  have hr := hr.out
  have hN := hN.out
  subst hr hN
  obtain ⟨g', c', w', h1, h2, h3⟩ := run_append_zeros_own W W0.heap.size o.type g n cap xs hown.out m hn hF.out.size
  exact Lib.wpList_append_run W hgd s x _ _ ho _ _ hs hx _ _ h1 (h _ _ _ h2 (hF.out.grown_new h3 (own_new hown.out)))
end Go.Proofs.YtaeonlafcbgpcaaDoor
/- The reference's disk (layer 4): in memory; its small functions. It is told of by the same plain disk as the program's. -/
namespace Go.Proofs.YtaeonlafcbgpcaaDoor
open Go.RowKit
set_option linter.unusedVariables false

/-- Pending writes' cells: the place, and the slice of the bytes. -/
def cellsR (T : List (Nat × Value × List UInt8)) : List Value := T.flatMap fun x => [.int .i64 (x.1 : Nat), x.2.1]
/-- The blocks of bytes of a disk at br. -/
def KR (br : Nat) (G : Nat → Prop) (c : Nat) (_ : Obj) : Prop := G c ∧ c ≠ br
structure RAt (w : World) (br : Nat) (G : Nat → Prop) (vs vp : Value) (T : List (Nat × Value × List UInt8)) (fused : Bool) (left : Int) (D : Dk) : Prop where
  top : w.heap[br]? = some (.cells #[vs, vp, .bool fused, .int .i64 left, .bool D.down] 99 (0, 0))
  sure : BytesAt (KR br G) w vs D.sure.flatten
  pend : w.ownsRow 0 129 2 vp T.length (cellsR T)
  pb : ∀ c, vp.ownBlock = some c → G c
  tr : D.pend = T.map fun x => (x.1, x.2.2)
  bs : ∀ x ∈ T, BytesAt (KR br G) w x.2.1 x.2.2
  gb : G br
  fuse : D.down = false → fused = decide (0 ≤ D.fuse) ∧ (0 ≤ D.fuse → left = D.fuse)
  good : D.good
/-- A reference's disk at br, like D, its blocks among G. -/
def Rdk (w : World) (br : Nat) (G : Nat → Prop) (D : Dk) : Prop := ∃ vs vp T fused left, RAt w br G vs vp T fused left D

theorem RAt.ne {w : World} {br : Nat} {G : Nat → Prop} {vs vp : Value} {T : List (Nat × Value × List UInt8)} {fused : Bool} {left : Int} {D : Dk} (h : RAt w br G vs vp T fused left D) : vp.ownBlock ≠ some br := fun e => by
  obtain ⟨cur, hc⟩ := own_tag h.pend e
  rw [h.top] at hc
  cases hc
/-- The disk's own block is written: the rest stays. -/
theorem RAt.turn {w w' : World} {br : Nat} {G : Nat → Prop} {vs vp : Value} {T : List (Nat × Value × List UInt8)} {fused fused' : Bool} {left left' : Int} {D D' : Dk} (h : RAt w br G vs vp T fused left D) (hf : Fr (fun c _ => c ≠ br) w w')
    (ht : w'.heap[br]? = some (.cells #[vs, vp, .bool fused', .int .i64 left', .bool D'.down] 99 (0, 0))) (h2 : D'.sure = D.sure) (h3 : D'.pend = D.pend) (hu : D'.down = false → fused' = decide (0 ≤ D'.fuse) ∧ (0 ≤ D'.fuse → left' = D'.fuse)) (hg : D'.good) : RAt w' br G vs vp T fused' left' D' :=
  ⟨ht, h2 ▸ h.sure.fr (hf.mono fun _ _ h => h.2), ownsRow_fr h.pend hf fun b o e _ q => h.ne (q ▸ e), h.pb, h3 ▸ h.tr, fun x hx => (h.bs x hx).fr (hf.mono fun _ _ h => h.2), h.gb, hu, hg⟩
theorem Rdk.mono {w : World} {br : Nat} {G G' : Nat → Prop} {D : Dk} (h : Rdk w br G D) (hg : ∀ c, G c → G' c) : Rdk w br G' D := by
  obtain ⟨vs, vp, T, fused, left, h⟩ := h
  exact ⟨vs, vp, T, fused, left, h.top, h.sure.mono fun _ _ _ h => ⟨hg _ h.1, h.2⟩, h.pend, fun c e => hg _ (h.pb c e), h.tr, fun x hx => (h.bs x hx).mono fun _ _ _ h => ⟨hg _ h.1, h.2⟩, hg _ h.gb, h.fuse, h.good⟩
theorem Rdk.fr {w w' : World} {br : Nat} {G : Nat → Prop} {D : Dk} {K : Nat → Obj → Prop} (h : Rdk w br G D) (hf : Fr K w w') (hk : ∀ c o, w.heap[c]? = some o → G c → K c o) : Rdk w' br G D := by
  obtain ⟨vs, vp, T, fused, left, h⟩ := h
  have hb : ∀ v bs, BytesAt (KR br G) w v bs → BytesAt (KR br G) w' v bs := fun v bs hb => by
    have h1 : BytesAt (fun c o => KR br G c o ∧ K c o) w v bs := hb.mono fun c o ho hc => ⟨hc, hk c o ho hc.1⟩
    exact (h1.fr (hf.mono fun _ _ h => h.2)).mono fun _ _ _ h => h.1
  exact ⟨vs, vp, T, fused, left, hf.keep _ _ h.top (hk _ _ h.top h.gb), hb _ _ h.sure, ownsRow_fr h.pend hf fun b o e hb => hk b o hb (h.pb b e), h.pb, h.tr, fun x hx => hb _ _ (h.bs x hx), h.gb, h.fuse, h.good⟩
theorem Rdk.tt {w w' : World} {br : Nat} {G : Nat → Prop} {D : Dk} (h : Rdk w br G D) (hf : Fr (fun _ _ => True) w w') : Rdk w' br G D := h.fr hf fun _ _ _ _ => trivial
theorem Rdk.inside {w : World} {br : Nat} {G : Nat → Prop} {D : Dk} (h : Rdk w br G D) : Rdk w br (fun c => G c ∧ c < w.heap.size) D := by
  obtain ⟨vs, vp, T, fused, left, h⟩ := h
  have hb : ∀ v bs, BytesAt (KR br G) w v bs → BytesAt (KR br fun c => G c ∧ c < w.heap.size) w v bs := fun v bs hb => hb.mono fun c o ho hc => ⟨⟨hc.1, lt_of_some ho⟩, hc.2⟩
  exact ⟨vs, vp, T, fused, left, h.top, hb _ _ h.sure, h.pend, fun c e => ⟨h.pb c e, by obtain ⟨_, q⟩ := own_tag h.pend e; exact lt_of_some q⟩, h.tr, fun x hx => hb _ _ (h.bs x hx), ⟨h.gb, lt_of_some h.top⟩, h.fuse, h.good⟩
theorem Rdk.gd {w : World} {br : Nat} {G : Nat → Prop} {D : Dk} (h : Rdk w br G D) : D.good := by
  obtain ⟨_, _, _, _, _, h⟩ := h
  exact h.good

theorem flat_len {D : Dk} (h : D.ok) : D.sure.flatten.length = D.sure.length * 64 := chunk_length _ h.u64

set_option maxRecDepth 100000 in
theorem r_new (w : World) (n : Nat) (z : Int) (hz : z = n) (h1 : 1 ≤ n) (h2 : n ≤ 512) :
    Calls Tryd.prog 27 #[.int .i64 z] w fun e w' => (∃ br, e = .returned (.tuple #[.pointer (some ⟨br, 0, none⟩), .int .i64 0]) ∧ Rdk w' br (fun b => w.heap.size ≤ b) (Dk.new n)) ∧ Fr (fun _ _ => True) w w' := by
  have hmk := fun (W : World) => make_bytes W (64 * n) (64 * z) (by omega) (by omega)
  have z1 : 1 ≤ z := by omega
  have z2 : z ≤ 512 := by omega
  have HZ := Lib.hid hz
  clear hz
  go_enter Tryd.func27, Tryd.ntmps27
  go_wp2
  go_ret2
  have hb : BytesAt (New w.heap.size) (w.alloc (.cells (zeros (64 * n)) 5 (0, 0))) (.slice (some ⟨w.heap.size, 0, none⟩) (64 * n) (64 * n)) (Dk.new n).sure.flatten := by
    have e : (Dk.new n).sure.flatten = List.replicate (64 * n) 0 := by
      show (List.replicate n (List.replicate 64 (0 : UInt8))).flatten = _
      rw [List.flatten_replicate_replicate, Nat.mul_comm]
    rw [e]
    exact BytesAt.zeros w (64 * n)
  have hb' := hb.mono (K' := KR (w.heap.size + 1) fun b => w.heap.size ≤ b) fun c o ho hc => ⟨hc.1, by have := lt_of_some ho; simp at this; omega⟩
  exact ⟨⟨w.heap.size + 1, rfl, _, .slice none 0 0, [], false, 0, heap_alloc_at (by simp) _, hb'.tt ((Fr.refl _ _).alloc _), World.ownsRow_nil _ _ _ _, (fun c e => by cases e), rfl, (fun x hx => by cases hx), Nat.le_succ _, (fun _ => ⟨rfl, fun h => absurd (show (0 : Int) ≤ -1 from h) (by decide)⟩), Dk.new_good n h1 h2⟩, ((Fr.refl _ _).alloc _).alloc _⟩

set_option maxRecDepth 100000 in
theorem r_len (w : World) (br : Nat) (G : Nat → Prop) (D : Dk) (h : Rdk w br G D) :
    Calls Tryd.prog 76 #[.pointer (some ⟨br, 0, none⟩)] w fun e w' => e = .returned (.int .i64 (D.sure.length : Nat)) ∧ w = w' := by
  obtain ⟨vs, vp, T, fused, left, h⟩ := h
  obtain ⟨a, cap, rfl⟩ := h.sure.form
  have c0 := cell_mk (i := 0) h.top rfl
  rw [flat_len h.good.ok] at c0
  have hm := h.good.ok.max
  generalize D.sure.length = n at c0 hm
  clear h
  go_enter Tryd.func76, Tryd.ntmps76
  go_wp2
  go_ret
  refine ⟨?_, rfl⟩
  congr 2

set_option maxRecDepth 100000 in
theorem r_fuse (w : World) (br : Nat) (G : Nat → Prop) (D : Dk) (n : Int) (h : Rdk w br G D) (h0 : -9223372036854775808 ≤ n) (h1 : n ≤ 9223372036854775807) :
    Calls Tryd.prog 58 #[.pointer (some ⟨br, 0, none⟩), .int .i64 n] w fun e w' => e = .returned (.tuple #[]) ∧ Rdk w' br G { D with fuse := n } ∧ Fr (fun b _ => b ≠ br) w w' := by
  obtain ⟨vs, vp, T, fused, left, h⟩ := h
  have c2 := cell_mk (i := 2) h.top rfl
  have f2 := frozen_mk (i := 2) h.top
  have c3 := cell_mk (i := 3) h.top rfl
  have f3 := frozen_mk (i := 3) h.top
  have H := Lib.hid h
  clear h
  go_enter Tryd.func58, Tryd.ntmps58
  go_wp2
  go_end0
  have hf : Fr (fun b _ => b ≠ br) w ((w.setCell ⟨br, 2, none⟩ (.bool (decide (0 ≤ n)))).setCell ⟨br, 3, none⟩ (.int .i64 n)) := ((Fr.refl _ _).setCell (fun _ _ h => h rfl) _).setCell (fun _ _ h => h rfl) _
  exact ⟨rfl, ⟨vs, vp, T, decide (0 ≤ n), n, H.out.turn hf (heap_setCell_same (heap_setCell_same H.out.top _) _) rfl rfl (fun _ => ⟨rfl, fun _ => rfl⟩) (H.out.good.fuse n h0 h1)⟩, hf⟩

set_option maxRecDepth 100000 in
theorem r_done (w : World) (br : Nat) (G : Nat → Prop) (D : Dk) (h : Rdk w br G D) :
    Calls Tryd.prog 77 #[.pointer (some ⟨br, 0, none⟩)] w fun e w' => e = .returned (.bool (!D.burn.down)) ∧ Rdk w' br G D.burn ∧ Fr (fun b _ => b ≠ br) w w' := by
  obtain ⟨vs, vp, T, fused, left, h⟩ := h
  have c2 := cell_mk (i := 2) h.top rfl
  have c3 := cell_mk (i := 3) h.top rfl
  have c4 := cell_mk (i := 4) h.top rfl
  have f3 := frozen_mk (i := 3) h.top
  have f4 := frozen_mk (i := 4) h.top
  have hlo := h.good.ok.lo
  have hhi := h.good.ok.hi
  have H := Lib.hid h
  have hbg := Lib.hid h.good.burn
  cases hd : D.down with
  | true =>
    rw [hd] at c4
    have e1 : Hid (D.burn.down = true) := by show (D.down || D.fuse == 0) = true; rw [hd]; rfl
    have r1 : Hid (Rdk w br G D.burn) := ⟨vs, vp, T, fused, left, H.out.turn (Fr.refl _ _) (by rw [e1.out, ← hd]; exact H.out.top) rfl rfl (fun q => by rw [e1.out] at q; cases q) hbg.out⟩
    clear h hd c2 c3
    go_enter Tryd.func77, Tryd.ntmps77
    go_wp2
    go_ret
    exact ⟨by rw [e1.out]; rfl, r1.out, Fr.refl _ _⟩
  | false =>
    obtain ⟨hu, hl⟩ := h.fuse hd
    rw [hd] at c4
    rcases Int.lt_trichotomy D.fuse 0 with hn | hn | hn
    · have e0 : fused = false := by rw [hu]; exact decide_eq_false (by omega)
      subst e0
      have e1 : Hid (D.burn.down = false) := by show (D.down || D.fuse == 0) = false; rw [hd]; simp; omega
      have e2 : D.burn.fuse = D.fuse := by show D.fuse - min 1 (max 0 D.fuse) = D.fuse; omega
      have r1 : Hid (Rdk w br G D.burn) := ⟨vs, vp, T, false, left, H.out.turn (Fr.refl _ _) (by have := H.out.top; rw [hd] at this; rw [e1.out]; exact this) rfl rfl (fun q => by rw [e2]; exact ⟨hu, hl⟩) hbg.out⟩
      clear h hd c3 hu hl e2
      go_enter Tryd.func77, Tryd.ntmps77
      go_wp2
      go_ret
      exact ⟨by rw [e1.out]; rfl, r1.out, Fr.refl _ _⟩
    · have e0 : fused = true := by rw [hu]; exact decide_eq_true (by omega)
      have e3 : left = 0 := by rw [hl (by omega)]; exact hn
      subst e0 e3
      have e1 : Hid (D.burn.down = true) := by show (D.down || D.fuse == 0) = true; rw [hn]; simp
      have hf : Fr (fun b _ => b ≠ br) w (w.setCell ⟨br, 4, none⟩ (.bool true)) := (Fr.refl _ _).setCell (fun _ _ h => h rfl) _
      have r1 : Hid (Rdk (w.setCell ⟨br, 4, none⟩ (.bool true)) br G D.burn) := ⟨vs, vp, T, true, 0, H.out.turn hf (by rw [e1.out]; exact heap_setCell_same H.out.top _) rfl rfl (fun q => by rw [e1.out] at q; cases q) hbg.out⟩
      have HF := Lib.hid hf
      clear h hd hu hl hf hn
      go_enter Tryd.func77, Tryd.ntmps77
      go_wp2
      go_ret
      exact ⟨by rw [e1.out]; rfl, r1.out, HF.out⟩
    · have e0 : fused = true := by rw [hu]; exact decide_eq_true (by omega)
      have e3 : left = D.fuse := hl (by omega)
      subst e0 e3
      have e1 : Hid (D.burn.down = false) := by show (D.down || D.fuse == 0) = false; rw [hd]; simp; omega
      have e2 : D.burn.fuse = D.fuse - 1 := by show D.fuse - min 1 (max 0 D.fuse) = D.fuse - 1; omega
      have hf : Fr (fun b _ => b ≠ br) w (w.setCell ⟨br, 3, none⟩ (.int .i64 (D.fuse - 1))) := (Fr.refl _ _).setCell (fun _ _ h => h rfl) _
      have r1 : Hid (Rdk (w.setCell ⟨br, 3, none⟩ (.int .i64 (D.fuse - 1))) br G D.burn) := ⟨vs, vp, T, true, D.fuse - 1, H.out.turn hf (by have := heap_setCell_same (o := 3) H.out.top (.int .i64 (D.fuse - 1)); rw [hd] at this; rw [e1.out]; exact this) rfl rfl (fun q => by rw [e2]; exact ⟨(decide_eq_true (by omega)).symm, fun _ => rfl⟩) hbg.out⟩
      have HF := Lib.hid hf
      clear h hd hu hl hf e2
      have q0 : ((D.fuse : Int) == 0) = false := by simp; omega
      go_enter Tryd.func77, Tryd.ntmps77
      go_wp2
      go_ret
      exact ⟨by rw [e1.out]; rfl, r1.out, HF.out⟩
end Go.Proofs.YtaeonlafcbgpcaaDoor
/- The reference's disk: Read, Write. -/
namespace Go.Proofs.YtaeonlafcbgpcaaDoor
open Go.RowKit
set_option linter.unusedVariables false

theorem laySure_append (s : List (List UInt8)) (l m : List (Nat × List UInt8)) : laySure s (l ++ m) = laySure (laySure s l) m := by simp [laySure]
theorem laySure_none (i : Nat) (l : List (Nat × List UInt8)) : ∀ s : List (List UInt8), (∀ x ∈ l, x.1 ≠ i) → (laySure s l).getD i [] = s.getD i [] := by
  induction l with
  | nil => intro s _; rfl
  | cons y l ih =>
    intro s h
    show (laySure (s.set y.1 y.2) l).getD i [] = _
    rw [ih _ fun x hx => h x (by simp [hx]), List.getD_eq_getElem?_getD, List.getD_eq_getElem?_getD, List.getElem?_set_ne (h y (by simp))]
theorem laySure_at (i : Nat) (s : List (List UInt8)) (l : List (Nat × List UInt8)) (j : Nat) (hj : j < l.length) (hi : l[j].1 = i) (hs : i < s.length) (h : ∀ x ∈ l.drop (j + 1), x.1 ≠ i) : (laySure s l).getD i [] = l[j].2 := by
  have e : laySure s l = laySure (laySure s (l.take (j + 1))) (l.drop (j + 1)) := by rw [← laySure_append, List.take_append_drop]
  rw [e, laySure_none i _ _ h, List.take_succ_eq_append_getElem hj, laySure_snoc, hi, List.getD_eq_getElem?_getD, List.getElem?_set_self (by rw [laySure_length]; exact hs)]
  rfl

/-- What Read answers. -/
def readM (D : Dk) (i : Int) : List UInt8 × Int := if 0 ≤ i ∧ i < D.sure.length then (D.seen.getD i.toNat [], 0) else ([], 40)

set_option maxRecDepth 100000 in
theorem r_read_out (w : World) (br : Nat) (G : Nat → Prop) (D : Dk) (i : Int) (h : Rdk w br G D) (hi : ¬ (0 ≤ i ∧ i < D.sure.length)) :
    Calls Tryd.prog 60 #[.pointer (some ⟨br, 0, none⟩), .int .i64 i] w fun e w' => e = .returned (.tuple #[.slice none 0 0, .int .i64 40]) ∧ w = w' := by
  have HL := Lib.hid (r_len w br G D h)
  clear h
  by_cases h0 : i < 0
  · clear hi
    go_enter Tryd.func60, Tryd.ntmps60
    go_wp2
    go_ret2
    exact ⟨rfl, rfl⟩
  · have h1 : (D.sure.length : Int) ≤ i := by omega
    have h2 : 0 ≤ i := by omega
    have d0 : decide (i < 0) = false := by simp; omega
    clear hi h0
    go_enter Tryd.func60, Tryd.ntmps60
    go_wp2_with fail
    (with_reducible refine HL.out.mono ?_)
    rintro e w1 ⟨rfl, rfl⟩
    go_wp2
    go_ret2
    exact ⟨rfl, rfl⟩

theorem cellsR_flat (T : List (Nat × Value × List UInt8)) : cellsR T = (T.map fun x => [Value.int .i64 (x.1 : Nat), x.2.1]).flatten := by simp [cellsR, List.flatMap]
theorem pend_cells {w : World} {B g cap n : Nat} {T : List (Nat × Value × List UInt8)} (h : w.ownsRow B 129 2 (.slice (some ⟨g, 0, none⟩) n cap) n (cellsR T)) (j : Nat) (hj : j < T.length) : w.cell? ⟨g, j * 2, none⟩ = some (.int .i64 (T[j].1 : Nat)) ∧ w.cell? ⟨g, j * 2 + 1, none⟩ = some T[j].2.1 := by
  rw [cellsR_flat] at h
  have hr := row_range h (fun x hx => by obtain ⟨y, _, rfl⟩ := List.mem_map.1 hx; rfl) j (by simpa using hj) (by decide)
  have e0 := hr 0 (.int .i64 (T[j].1 : Nat)) (by simp)
  have e1 := hr 1 T[j].2.1 (by simp)
  exact ⟨e0, e1⟩

set_option maxRecDepth 100000 in
set_option maxHeartbeats 1000000 in
theorem r_read_in (w : World) (br : Nat) (G : Nat → Prop) (D : Dk) (k : Nat) (i : Int) (hz : i = k) (h : Rdk w br G D) (hk : k < D.sure.length) :
    Calls Tryd.prog 60 #[.pointer (some ⟨br, 0, none⟩), .int .i64 i] w fun e w' => (∃ a cap, e = .returned (.tuple #[.slice a 64 cap, .int .i64 0]) ∧ BytesAt (KR br G) w (.slice a 64 cap) (D.seen.getD k [])) ∧ w = w' := by
  subst hz
  have HL := Lib.hid (r_len w br G D h)
  obtain ⟨vs, vp, T, fused, left, h⟩ := h
  have hfl := flat_len h.good.ok
  have hmax := h.good.ok.max
  obtain ⟨aq, cs, rfl⟩ := h.sure.form
  obtain ⟨bq, off, rfl⟩ := h.sure.addr (by omega)
  obtain ⟨ap, cp, rfl⟩ := own_form h.pend
  have hcs : D.sure.length * 64 ≤ cs := by have := h.sure.cap; omega
  have c0 := cell_mk (i := 0) h.top rfl
  have c1 := cell_mk (i := 1) h.top rfl
  rw [hfl] at c0
  have hkI : (k : Int) < (D.sure.length : Nat) := by omega
  have s8 : ∀ W, (Instr.slice 23 (.slice (some ⟨bq, off, none⟩) (D.sure.length * 64) cs) (some (.int .i64 (64 * (k : Int)))) (some (.int .i64 (64 * (k : Int) + 64))) none).run Tryd.prog W = .ok (.slice (some ⟨bq, off + 64 * k, none⟩) 64 (cs - 64 * k)) W := fun W => by
    have := run_slice_lit W bq off (D.sure.length * 64) cs (64 * k) (64 * k + 64) (64 * (k : Int)) (64 * (k : Int) + 64) (by omega) (by omega) (by omega) (by omega) (by omega)
    rwa [Nat.add_sub_cancel_left] at this
  have B8 : Hid (BytesAt (KR br G) w (.slice (some ⟨bq, off + 64 * k, none⟩) 64 (cs - 64 * k)) (D.sure.getD k [])) := by
    have := h.sure.piece (64 * k) 64 (by omega) (by omega)
    rw [Nat.mul_comm 64 k, chunk_get D.sure k h.good.ok.u64 hk] at this
    show BytesAt _ _ _ _
    rw [Nat.mul_comm 64 k, List.getD_eq_getElem?_getD, List.getElem?_eq_getElem hk]
    exact this
  have hfew : T.length ≤ 1000000 := by have := h.good.ok.few; rw [h.tr, List.length_map] at this; exact this
  have hse : Hid (∀ j (hj : j < T.length), T[j].1 = k → (∀ x ∈ T.drop (j + 1), x.1 ≠ k) → D.seen.getD k [] = T[j].2.2) := fun j hj h1 h2 => by
    rw [h.good.seen, h.tr]
    have := laySure_at k D.sure (T.map fun x => (x.1, x.2.2)) j (by simpa using hj) (by simpa using h1) hk (fun x hx => by
      rw [← List.map_drop] at hx
      obtain ⟨y, hy, rfl⟩ := List.mem_map.1 hx
      exact h2 y hy)
    rw [this]
    simp
  have hsn : Hid ((∀ x ∈ T, x.1 ≠ k) → D.seen.getD k [] = D.sure.getD k []) := fun h2 => by
    rw [h.good.seen, h.tr]
    exact laySure_none k _ _ fun x hx => by
      obtain ⟨y, hy, rfl⟩ := List.mem_map.1 hx
      exact h2 y hy
  have H := Lib.hid h
  clear h hfl
  generalize D.sure.length = n at *
  generalize hm : T.length = m at c1 hfew
  have HM := Lib.hid hm
  clear hm
  go_enter Tryd.func60, Tryd.ntmps60
  go_wp2_with fail
  (with_reducible refine HL.out.mono ?_)
  rintro e w1 ⟨rfl, rfl⟩
  go_wp2
  go_loop [6] (fun q => (q = .int .i64 (-1) ∧ Hid (∀ x ∈ T, x.1 ≠ k)) ∨ ∃ j : Nat, j < m ∧ q = .int .i64 (j : Nat) ∧ Hid (∀ x ∈ T.drop (j + 1), x.1 ≠ k)) (fun q => (intOf q + 1).toNat)
  case atStart =>
    cases m with
    | zero => exact .inl ⟨rfl, fun x hx => by rw [List.length_eq_zero_iff.1 HM.out] at hx; cases hx⟩
    | succ q => exact .inr ⟨q, by omega, by go_num, fun x hx => by rw [List.drop_of_length_le (by have := HM.out; omega)] at hx; cases hx⟩
  case round =>
    rcases hrel with ⟨rfl, hno⟩ | ⟨j, hj, rfl, hno⟩
    · go_wp2
      go_ret2
      exact ⟨⟨_, _, rfl, show BytesAt (KR br G) w _ (D.seen.getD k []) from by rw [hsn.out hno.out]; exact B8.out⟩, rfl⟩
    · have hjT : j < T.length := by have := HM.out; omega
      have hp := H.out.pend
      rw [HM.out] at hp
      obtain ⟨g, rfl⟩ : ∃ g, ap = some ⟨g, 0, none⟩ := by
        rcases hp.2 with ⟨e, e2⟩ | ⟨g, cap, cur, e, _⟩
        · omega
        · cases e; exact ⟨g, rfl⟩
      obtain ⟨k0, k1⟩ := pend_cells hp j hjT
      have hb := H.out.bs T[j] (List.getElem_mem hjT)
      have hl64 : T[j].2.2.length = 64 := by
        have := (H.out.good.ok.p64 (T[j].1, T[j].2.2) (by rw [H.out.tr]; exact List.mem_map.2 ⟨T[j], List.getElem_mem hjT, rfl⟩)).2
        exact this
      have hsj := Lib.hid (hse.out j hjT)
      obtain ⟨aj, cj, hvj⟩ := hb.form
      rw [hvj, hl64] at hb
      rw [hvj, hl64] at k1
      have HB := Lib.hid hb
      clear hp hb hvj hl64
      have hdr : Hid (T.drop j = T[j] :: T.drop (j + 1)) := List.drop_eq_getElem_cons hjT
      generalize T[j] = t at k0 HB hsj hdr
      by_cases hq : t.1 = k
      · have q1 : ((t.1 : Int) == k) = true := by simp [hq]
        have HQ := Lib.hid hq
        clear hq
        go_wp2
        go_ret2
        exact ⟨⟨_, _, rfl, show BytesAt (KR br G) w _ (D.seen.getD k []) from by rw [hsj.out HQ.out hno.out]; exact HB.out⟩, rfl⟩
      · have q1 : ((t.1 : Int) == k) = false := by simp; omega
        have HQ := Lib.hid hq
        clear hq
        go_wp2
        go_round
        case rel =>
          have hall : ∀ x ∈ T.drop j, x.1 ≠ k := fun x hx => by
            rw [hdr.out] at hx
            rcases List.mem_cons.1 hx with h1 | h1
            · rw [h1]; exact HQ.out
            · exact hno.out x h1
          cases j with
          | zero => exact .inl ⟨by go_num, hall⟩
          | succ q => exact .inr ⟨q, by omega, by go_num, hall⟩
        case measure => simp [intOf]

/-- ref04.Read. -/
theorem r_read (w : World) (br : Nat) (G : Nat → Prop) (D : Dk) (i : Int) (h : Rdk w br G D) (b : List UInt8) (c : Int) (hr : readM D i = (b, c)) :
    Calls Tryd.prog 60 #[.pointer (some ⟨br, 0, none⟩), .int .i64 i] w fun e w' => (∃ a cap, e = .returned (.tuple #[.slice a b.length cap, .int .i64 c]) ∧ BytesAt (KR br G) w (.slice a b.length cap) b) ∧ w = w' := by
  unfold readM at hr
  by_cases hi : 0 ≤ i ∧ i < D.sure.length
  · rw [if_pos hi] at hr
    obtain ⟨k, rfl⟩ := Int.eq_ofNat_of_zero_le hi.1
    have hk : k < D.sure.length := by omega
    cases hr
    have hl : (D.seen.getD (k : Int).toNat []).length = 64 := by
      have hg := h.gd
      have hks : k < D.seen.length := by rw [hg.ok.len]; exact hk
      rw [Int.toNat_natCast, List.getD_eq_getElem?_getD, List.getElem?_eq_getElem hks]
      exact hg.ok.s64 _ (List.getElem_mem hks)
    rw [hl]
    exact r_read_in w br G D k _ rfl h hk
  · rw [if_neg hi] at hr
    cases hr
    exact (r_read_out w br G D i h hi).mono fun e w' ⟨he, hw⟩ => ⟨⟨none, 0, he, BytesAt.nil _ _⟩, hw⟩
end Go.Proofs.YtaeonlafcbgpcaaDoor
