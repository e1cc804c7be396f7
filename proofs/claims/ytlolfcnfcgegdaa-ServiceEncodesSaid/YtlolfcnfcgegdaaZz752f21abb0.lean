/- Texts of the proofs, part 23: what the functions that they reach do, walked; no conditions beyond those that each states. -/
import Derived.Deep.RegionHeld3
import Derived.Test.YtlolfcnfcgegdaaZz41e42b3095
set_option linter.unusedVariables false
set_option linter.unusedSimpArgs false
/- ServiceEncodes (printed by encodes20.py). -/
namespace Go.Proofs.Ytlolfcnfcgegdaa
open Go.RowKit
set_option linter.unusedVariables false
set_option linter.unusedSimpArgs false

theorem fieldsC : Try.prog.fieldsOf 35 = #[{ name := "Op", type := 3, offset := 0, embedded := false, tag := "", pkgPath := "", byteOffset := 0 }, { name := "Client", type := 3, offset := 1, embedded := false, tag := "", pkgPath := "", byteOffset := 8 }, { name := "Seq", type := 33, offset := 2, embedded := false, tag := "", pkgPath := "", byteOffset := 16 }, { name := "Region", type := 3, offset := 3, embedded := false, tag := "", pkgPath := "", byteOffset := 24 }, { name := "Mode", type := 3, offset := 4, embedded := false, tag := "", pkgPath := "", byteOffset := 32 }, { name := "Token", type := 27, offset := 5, embedded := false, tag := "", pkgPath := "", byteOffset := 40 }, { name := "Time", type := 27, offset := 6, embedded := false, tag := "", pkgPath := "", byteOffset := 48 }] := by unfold Program.fieldsOf; rw [Try.underlying35]
theorem eql_cmdC (w : World) (x0 x1 x2 x3 x4 x5 x6 : Int) : (binOp .eql 35 (.agg #[.int .i64 x0, .int .i64 x1, .int .u32 x2, .int .i64 x3, .int .i64 x4, .int .u64 x5, .int .u64 x6]) (.agg #[.int .i64 x0, .int .i64 x1, .int .u32 x2, .int .i64 x3, .int .i64 x4, .int .u64 x5, .int .u64 x6])).run Try.prog w = .ok (.bool true) w := by
  rw [run_eql_struct, run_equalIn_agg w 9999 _ _ _ (by rw [fieldsC, Try.underlying35]) (by kernel_rfl), fieldsC]
  obtain ⟨xs, hxs⟩ : ∃ xs : Array Value, #[.int .i64 x0, .int .i64 x1, .int .u32 x2, .int .i64 x3, .int .i64 x4, .int .u64 x5, .int .u64 x6] = xs := ⟨_, rfl⟩
  rw [hxs]
  have p0 : (part 3 xs 0).run Try.prog w = .ok (.int .i64 x0) w := run_part_plain w (by kernel_rfl) (by rw [← hxs]; rfl)
  have p1 : (part 3 xs 1).run Try.prog w = .ok (.int .i64 x1) w := run_part_plain w (by kernel_rfl) (by rw [← hxs]; rfl)
  have p2 : (part 33 xs 2).run Try.prog w = .ok (.int .u32 x2) w := run_part_plain w (by kernel_rfl) (by rw [← hxs]; rfl)
  have p3 : (part 3 xs 3).run Try.prog w = .ok (.int .i64 x3) w := run_part_plain w (by kernel_rfl) (by rw [← hxs]; rfl)
  have p4 : (part 3 xs 4).run Try.prog w = .ok (.int .i64 x4) w := run_part_plain w (by kernel_rfl) (by rw [← hxs]; rfl)
  have p5 : (part 27 xs 5).run Try.prog w = .ok (.int .u64 x5) w := run_part_plain w (by kernel_rfl) (by rw [← hxs]; rfl)
  have p6 : (part 27 xs 6).run Try.prog w = .ok (.int .u64 x6) w := run_part_plain w (by kernel_rfl) (by rw [← hxs]; rfl)
  have e1 := fun a b => run_equalIn_int w 9998 3 .i64 .i64 a b Try.underlying3
  have e2 := fun a b => run_equalIn_int w 9998 27 .u64 .u64 a b Try.underlying27
  have e3 := fun a b => run_equalIn_int w 9998 33 .u32 .u32 a b Try.underlying33
  simp [Op.eqFields, Sem.run_bind, p0, p1, p2, p3, p4, p5, p6, e1, e2, e3, Result.andThen_ok, Sem.run_ite, Sem.run_pure]
theorem fieldsD : Try.prog.fieldsOf 50 = #[{ name := "Op", type := 3, offset := 0, embedded := false, tag := "", pkgPath := "", byteOffset := 0 }, { name := "Client", type := 3, offset := 1, embedded := false, tag := "", pkgPath := "", byteOffset := 8 }, { name := "Seq", type := 33, offset := 2, embedded := false, tag := "", pkgPath := "", byteOffset := 16 }, { name := "Region", type := 3, offset := 3, embedded := false, tag := "", pkgPath := "", byteOffset := 24 }, { name := "Mode", type := 3, offset := 4, embedded := false, tag := "", pkgPath := "", byteOffset := 32 }, { name := "Token", type := 27, offset := 5, embedded := false, tag := "", pkgPath := "", byteOffset := 40 }, { name := "Time", type := 27, offset := 6, embedded := false, tag := "", pkgPath := "", byteOffset := 48 }] := by unfold Program.fieldsOf; rw [Try.underlying50]
theorem eql_cmdD (w : World) (x0 x1 x2 x3 x4 x5 x6 : Int) : (binOp .eql 50 (.agg #[.int .i64 x0, .int .i64 x1, .int .u32 x2, .int .i64 x3, .int .i64 x4, .int .u64 x5, .int .u64 x6]) (.agg #[.int .i64 x0, .int .i64 x1, .int .u32 x2, .int .i64 x3, .int .i64 x4, .int .u64 x5, .int .u64 x6])).run Try.prog w = .ok (.bool true) w := by
  rw [run_eql_struct, run_equalIn_agg w 9999 _ _ _ (by rw [fieldsD, Try.underlying50]) (by kernel_rfl), fieldsD]
  obtain ⟨xs, hxs⟩ : ∃ xs : Array Value, #[.int .i64 x0, .int .i64 x1, .int .u32 x2, .int .i64 x3, .int .i64 x4, .int .u64 x5, .int .u64 x6] = xs := ⟨_, rfl⟩
  rw [hxs]
  have p0 : (part 3 xs 0).run Try.prog w = .ok (.int .i64 x0) w := run_part_plain w (by kernel_rfl) (by rw [← hxs]; rfl)
  have p1 : (part 3 xs 1).run Try.prog w = .ok (.int .i64 x1) w := run_part_plain w (by kernel_rfl) (by rw [← hxs]; rfl)
  have p2 : (part 33 xs 2).run Try.prog w = .ok (.int .u32 x2) w := run_part_plain w (by kernel_rfl) (by rw [← hxs]; rfl)
  have p3 : (part 3 xs 3).run Try.prog w = .ok (.int .i64 x3) w := run_part_plain w (by kernel_rfl) (by rw [← hxs]; rfl)
  have p4 : (part 3 xs 4).run Try.prog w = .ok (.int .i64 x4) w := run_part_plain w (by kernel_rfl) (by rw [← hxs]; rfl)
  have p5 : (part 27 xs 5).run Try.prog w = .ok (.int .u64 x5) w := run_part_plain w (by kernel_rfl) (by rw [← hxs]; rfl)
  have p6 : (part 27 xs 6).run Try.prog w = .ok (.int .u64 x6) w := run_part_plain w (by kernel_rfl) (by rw [← hxs]; rfl)
  have e1 := fun a b => run_equalIn_int w 9998 3 .i64 .i64 a b Try.underlying3
  have e2 := fun a b => run_equalIn_int w 9998 27 .u64 .u64 a b Try.underlying27
  have e3 := fun a b => run_equalIn_int w 9998 33 .u32 .u32 a b Try.underlying33
  simp [Op.eqFields, Sem.run_bind, p0, p1, p2, p3, p4, p5, p6, e1, e2, e3, Result.andThen_ok, Sem.run_ite, Sem.run_pure]

set_option maxRecDepth 100000 in
theorem encodes_short (c : Cmd) (a : Option Addr) (len cap : Nat) (w : World) (h : 100 < len) :
    Calls Try.prog 4 #[vC c, .slice a len cap] w fun e w' => e = .returned (.bool true) ∧ Below w.heap.size w w' := by
  have hI : (100 : Int) < len := by omega
  unfold vC
  clear h
  obtain ⟨W1, hW1⟩ : ∃ W, w.alloc (.cells #[.int .i64 c.op, .int .i64 c.cl, .int .u32 (c.sq : Nat), .int .i64 c.rg, .int .i64 c.md, .int .u64 (c.tk : Nat), .int .u64 (c.tm : Nat)] 35 (0, 0)) = W := ⟨_, rfl⟩
  have F1 : Hid (Fr (fun _ _ => True) w W1) := hW1 ▸ (Fr.refl _ _).alloc _
  go_enter Try.func4, Try.ntmps4
  go_wp2_with fail
  (with_reducible refine (awake_calls _).mono ?_)
  rintro e w1 ⟨rfl, f1⟩
  have F2 : Hid (Fr (fun b _ => b < w.heap.size) w w1) := Lib.hid ((F1.out.trans f1).mono fun _ _ _ => trivial)
  clear f1 F1
  go_wp2
  go_ret
  exact ⟨rfl, F2.out.below (Nat.le_refl _)⟩

set_option maxRecDepth 100000 in
set_option maxHeartbeats 4000000 in
theorem encodes_main (op cl rg md : Int) (sq tk tm : Nat) (hok : Cmd.ok ⟨op, cl, sq, rg, md, tk, tm⟩) (a : Option Addr) (cap : Nat) (b : List UInt8) (w : World) (hb : BytesAt (fun c _ => c < w.heap.size) w (.slice a b.length cap) b) (hl : (b.length : Int) ≤ 100) :
    Calls Try.prog 4 #[.agg #[.int .i64 op, .int .i64 cl, .int .u32 (sq : Nat), .int .i64 rg, .int .i64 md, .int .u64 (tk : Nat), .int .u64 (tm : Nat)], .slice a b.length cap] w fun e w' => e = .returned (.bool true) ∧ Below w.heap.size w w' := by
  have HOK := Lib.hid hok
  have HB := Lib.hid hb
  have HL := Lib.hid hl
  obtain ⟨k, hk⟩ : ∃ k, b.length = k := ⟨_, rfl⟩
  obtain ⟨⟨dop, dcl, dsq, drg, dmd, dtk, dtm⟩, dk, hD⟩ : ∃ D k, decM b = (D, k) := ⟨_, _, rfl⟩
  obtain ⟨W1, hW1⟩ : ∃ W, w.alloc (.cells #[.int .i64 op, .int .i64 cl, .int .u32 (sq : Nat), .int .i64 rg, .int .i64 md, .int .u64 (tk : Nat), .int .u64 (tm : Nat)] 35 (0, 0)) = W := ⟨_, rfl⟩
  have F1 : Hid (Fr (fun _ _ => True) w W1) := hW1 ▸ (Fr.refl _ _).alloc _
  have X1 : Hid (W1.heap[w.heap.size]? = some (.cells #[.int .i64 op, .int .i64 cl, .int .u32 (sq : Nat), .int .i64 rg, .int .i64 md, .int .u64 (tk : Nat), .int .u64 (tm : Nat)] 35 (0, 0))) := hW1 ▸ heap_alloc_new w _
  rw [hk] at HB hl ⊢
  clear hok hb hk
  have HD := Lib.hid hD
  clear hD
  go_enter Try.func4, Try.ntmps4
  go_wp2_with fail
  (with_reducible refine (awake_calls _).mono ?_)
  rintro e w1 ⟨rfl, f1⟩
  have F2 := Lib.hid (F1.out.trans f1)
  have X2 := Lib.hid (f1.keep _ _ X1.out trivial)
  clear f1 F1 X1
  have x0 := cell_mk (i := 0) X2.out rfl
  have x1 := cell_mk (i := 1) X2.out rfl
  have x2 := cell_mk (i := 2) X2.out rfl
  have x3 := cell_mk (i := 3) X2.out rfl
  have x4 := cell_mk (i := 4) X2.out rfl
  have x5 := cell_mk (i := 5) X2.out rfl
  have x6 := cell_mk (i := 6) X2.out rfl
  have EC := Lib.hid (enc_calls w1 ⟨op, cl, sq, rg, md, tk, tm⟩ HOK.out)
  unfold vC at EC
  dsimp only at EC
  go_wp2_with fail
  (with_reducible refine EC.out.mono ?_)
  rintro e w2 ⟨⟨ax, cx, rfl, bx⟩, f2⟩
  have BX := Lib.hid bx
  have F3 := Lib.hid (F2.out.trans f2)
  have X3 := Lib.hid (f2.keep _ _ X2.out trivial)
  clear bx f2 F2 X2 EC x0 x1 x2 x3 x4 x5 x6
  have x0 := cell_mk (i := 0) X3.out rfl
  have x1 := cell_mk (i := 1) X3.out rfl
  have x2 := cell_mk (i := 2) X3.out rfl
  have x3 := cell_mk (i := 3) X3.out rfl
  have x4 := cell_mk (i := 4) X3.out rfl
  have x5 := cell_mk (i := 5) X3.out rfl
  have x6 := cell_mk (i := 6) X3.out rfl
  have DC := Lib.hid (doc_calls w2 ⟨op, cl, sq, rg, md, tk, tm⟩)
  unfold vC at DC
  dsimp only at DC
  go_wp2_with fail
  (with_reducible refine DC.out.mono ?_)
  rintro e w3 ⟨rfl, f3⟩
  have RC := Lib.hid (renc_calls w3 ⟨op, cl, sq, rg, md, tk, tm⟩ HOK.out)
  unfold vC at RC
  dsimp only at RC
  have F4 := Lib.hid (F3.out.trans f3)
  have G3 := Lib.hid f3
  clear f3 F3 DC x0 x1 x2 x3 x4 x5 x6
  go_wp2_with fail
  (with_reducible refine RC.out.mono ?_)
  rintro e w4 ⟨⟨ay, cy, rfl, bY⟩, f4⟩
  have BY := Lib.hid bY
  have F5 := Lib.hid (F4.out.trans f4)
  have X5 := Lib.hid (f4.keep _ _ (G3.out.keep _ _ X3.out trivial) trivial)
  have BX5 := Lib.hid ((BX.out.tt G3.out).tt f4)
  have DB := Lib.hid (dec_calls w4 _ b (HB.out.tt F5.out) (by have := HL.out; omega))
  rw [HD.out] at DB
  unfold vC at DB
  dsimp only at DB
  clear bY f4 F4 G3 X3 BX RC
  go_wp2_with fail
  (with_reducible refine DB.out.mono ?_)
  rintro e w5 ⟨rfl, f5⟩
  have F6 := Lib.hid (F5.out.trans f5)
  have X6 := Lib.hid (f5.keep _ _ X5.out trivial)
  have BX6 := Lib.hid (BX5.out.tt f5)
  have BY6 := Lib.hid (BY.out.tt f5)
  clear f5 F5 X5 BX5 BY DB
  obtain ⟨A7, hA7⟩ : ∃ W, w5.alloc (.cells #[.int .i64 0, .int .i64 0, .int .u32 0, .int .i64 0, .int .i64 0, .int .u64 0, .int .u64 0] 35 (0, 0)) = W := ⟨_, rfl⟩
  have FA : Hid (Fr (fun _ _ => True) w5 A7) := hA7 ▸ (Fr.refl _ _).alloc _
  have XA : Hid (A7.heap[w5.heap.size]? = some (.cells #[.int .i64 0, .int .i64 0, .int .u32 0, .int .i64 0, .int .i64 0, .int .u64 0, .int .u64 0] 35 (0, 0))) := hA7 ▸ heap_alloc_new w5 _
  have q0 := cell_mk (i := 0) XA.out rfl
  have z0 := frozen_mk (i := 0) XA.out
  have q1 := cell_mk (i := 1) XA.out rfl
  have z1 := frozen_mk (i := 1) XA.out
  have q2 := cell_mk (i := 2) XA.out rfl
  have z2 := frozen_mk (i := 2) XA.out
  have q3 := cell_mk (i := 3) XA.out rfl
  have z3 := frozen_mk (i := 3) XA.out
  have q4 := cell_mk (i := 4) XA.out rfl
  have z4 := frozen_mk (i := 4) XA.out
  have q5 := cell_mk (i := 5) XA.out rfl
  have z5 := frozen_mk (i := 5) XA.out
  have q6 := cell_mk (i := 6) XA.out rfl
  have z6 := frozen_mk (i := 6) XA.out
  obtain ⟨v7, hv7, TZ, FZ⟩ := set7 XA.out (.int .i64 dop) (.int .i64 dcl) (.int .u32 (dsq : Nat)) (.int .i64 drg) (.int .i64 dmd) (.int .u64 (dtk : Nat)) (.int .u64 (dtm : Nat))
  have FB : Hid (Fr (fun c _ => c < w5.heap.size) w5 v7) := Lib.hid ((FA.out.mono fun _ _ _ => trivial).trans (FZ.mono fun c _ h e => by omega))
  have BK : Hid (∀ {X : Nat → Obj → Prop} {v : Value} {l : List UInt8}, BytesAt X w5 v l → BytesAt (fun _ _ => True) v7 v l) := Lib.hid fun h => (((h.mono (K' := fun c _ => c < w5.heap.size) fun c o ho _ => lt_of_some ho).fr FB.out).mono fun _ _ _ _ => trivial)
  have F7 : Hid (Fr (fun b _ => b < w.heap.size) w v7) := Lib.hid ((F6.out.mono fun _ _ _ => trivial).trans (FB.out.mono fun c _ h => by have := F6.out.size; omega))
  have X7 := Lib.hid (FB.out.keep _ _ X6.out (lt_of_some X6.out))
  have D7 := Lib.hid TZ
  have BX7 := Lib.hid (BK.out BX6.out)
  have BY7 := Lib.hid (BK.out BY6.out)
  have DB := Lib.hid (rdec_calls v7 _ b (BK.out (HB.out.tt F6.out)) (by have := HL.out; omega))
  rw [HD.out] at DB
  unfold vC at DB
  dsimp only at DB
  have S7 : Hid (w5.heap.size < v7.heap.size) := lt_of_some TZ
  clear F6 X6 BX6 BY6 BK FB TZ FZ FA XA
  go_wp2_with fail
  try rw [hv7]
  (with_reducible refine DB.out.mono ?_)
  rintro e w8 ⟨rfl, f8⟩
  have F8 := Lib.hid (F7.out.trans (f8.mono fun _ _ _ => trivial))
  have X8 := Lib.hid (f8.keep _ _ X7.out trivial)
  have D8 := Lib.hid (f8.keep _ _ D7.out trivial)
  have BX8 := Lib.hid (BX7.out.tt f8)
  have BY8 := Lib.hid (BY7.out.tt f8)
  have S8 : Hid (w5.heap.size < w8.heap.size) := Nat.lt_of_lt_of_le S7.out f8.size
  clear f8 F7 X7 D7 BX7 BY7 DB S7 hA7 hv7 q0 q1 q2 q3 q4 q5 q6 z0 z1 z2 z3 z4 z5 z6
  obtain ⟨md7, hm7⟩ : ∃ m, w5.heap.size = m := ⟨_, rfl⟩
  rw [hm7] at D8 S8 ⊢
  clear hm7
  obtain ⟨A9, hA9⟩ : ∃ W, w8.alloc (.cells #[.int .i64 0, .int .i64 0, .int .u32 0, .int .i64 0, .int .i64 0, .int .u64 0, .int .u64 0] 50 (0, 0)) = W := ⟨_, rfl⟩
  have FA : Hid (Fr (fun _ _ => True) w8 A9) := hA9 ▸ (Fr.refl _ _).alloc _
  have XA : Hid (A9.heap[w8.heap.size]? = some (.cells #[.int .i64 0, .int .i64 0, .int .u32 0, .int .i64 0, .int .i64 0, .int .u64 0, .int .u64 0] 50 (0, 0))) := hA9 ▸ heap_alloc_new w8 _
  have q0 := cell_mk (i := 0) XA.out rfl
  have z0 := frozen_mk (i := 0) XA.out
  have q1 := cell_mk (i := 1) XA.out rfl
  have z1 := frozen_mk (i := 1) XA.out
  have q2 := cell_mk (i := 2) XA.out rfl
  have z2 := frozen_mk (i := 2) XA.out
  have q3 := cell_mk (i := 3) XA.out rfl
  have z3 := frozen_mk (i := 3) XA.out
  have q4 := cell_mk (i := 4) XA.out rfl
  have z4 := frozen_mk (i := 4) XA.out
  have q5 := cell_mk (i := 5) XA.out rfl
  have z5 := frozen_mk (i := 5) XA.out
  have q6 := cell_mk (i := 6) XA.out rfl
  have z6 := frozen_mk (i := 6) XA.out
  obtain ⟨v9, hv9, TZ, FZ⟩ := set7 XA.out (.int .i64 dop) (.int .i64 dcl) (.int .u32 (dsq : Nat)) (.int .i64 drg) (.int .i64 dmd) (.int .u64 (dtk : Nat)) (.int .u64 (dtm : Nat))
  have FB : Hid (Fr (fun c _ => c < w8.heap.size) w8 v9) := Lib.hid ((FA.out.mono fun _ _ _ => trivial).trans (FZ.mono fun c _ h e => by omega))
  have BK : Hid (∀ {X : Nat → Obj → Prop} {v : Value} {l : List UInt8}, BytesAt X w8 v l → BytesAt (fun _ _ => True) v9 v l) := Lib.hid fun h => (((h.mono (K' := fun c _ => c < w8.heap.size) fun c o ho _ => lt_of_some ho).fr FB.out).mono fun _ _ _ _ => trivial)
  have F9 : Hid (Fr (fun b _ => b < w.heap.size) w v9) := Lib.hid (F8.out.trans (FB.out.mono fun c _ h => by have := F8.out.size; omega))
  have X9 := Lib.hid (FB.out.keep _ _ X8.out (lt_of_some X8.out))
  have D9 := Lib.hid (FB.out.keep _ _ D8.out (lt_of_some D8.out))
  have E9 := Lib.hid TZ
  have BX9 := Lib.hid (BK.out BX8.out)
  have BY9 := Lib.hid (BK.out BY8.out)
  obtain ⟨⟨jop, jcl, jsq, jrg, jmd, jtk, jtm⟩, jk, hJ⟩ : ∃ D k, decM (encM ⟨op, cl, sq, rg, md, tk, tm⟩).1 = (D, k) := ⟨_, _, rfl⟩
  have DB := Lib.hid (dec_calls v9 _ _ BX9.out (by have := encM_len ⟨op, cl, sq, rg, md, tk, tm⟩; omega))
  rw [hJ] at DB
  unfold vC at DB
  dsimp only at DB
  have HE : Hid (((encM ⟨op, cl, sq, rg, md, tk, tm⟩).2 = 0 ∧ jk = 0 ∧ (⟨jop, jcl, jsq, jrg, jmd, jtk, jtm⟩ : Cmd) = ⟨op, cl, sq, rg, md, tk, tm⟩) ∨ (encM ⟨op, cl, sq, rg, md, tk, tm⟩).2 = 1) := by
    by_cases hf : Cmd.fine ⟨op, cl, sq, rg, md, tk, tm⟩ = true
    · refine .inl ?_
      have e : encM ⟨op, cl, sq, rg, md, tk, tm⟩ = (cmdB ⟨op, cl, sq, rg, md, tk, tm⟩, 0) := by unfold encM; rw [if_pos hf]
      rw [e] at hJ ⊢
      rw [decM_cmdB hf HOK.out] at hJ
      exact ⟨rfl, (congrArg Prod.snd hJ).symm, (congrArg Prod.fst hJ).symm⟩
    · exact .inr (by unfold encM; rw [if_neg hf])
  clear F8 X8 D8 BX8 BY8 BK FB TZ FZ FA XA hJ S8
  generalize hek : (encM ⟨op, cl, sq, rg, md, tk, tm⟩).2 = ek at HE ⊢
  generalize hxl : (encM ⟨op, cl, sq, rg, md, tk, tm⟩).1 = xl at DB BX9 BY9 ⊢
  have hx100 : Hid (xl.length ≤ 24) := hxl ▸ encM_len _
  clear hek hxl HOK
  go_wp2_with fail
  try rw [hv9]
  (with_reducible refine DB.out.mono ?_)
  rintro e w10 ⟨rfl, f10⟩
  have F10 := Lib.hid (F9.out.trans (f10.mono fun _ _ _ => trivial))
  have X10 := Lib.hid (f10.keep _ _ X9.out trivial)
  have D10 := Lib.hid (f10.keep _ _ D9.out trivial)
  have E10 := Lib.hid (f10.keep _ _ E9.out trivial)
  have BX10 := Lib.hid (BX9.out.tt f10)
  have BY10 := Lib.hid (BY9.out.tt f10)
  clear f10 F9 X9 D9 E9 BX9 BY9 DB hA9 hv9 q0 q1 q2 q3 q4 q5 q6 z0 z1 z2 z3 z4 z5 z6
  obtain ⟨mh, hmh⟩ : ∃ m, w8.heap.size = m := ⟨_, rfl⟩
  rw [hmh] at E10 ⊢
  clear hmh
  obtain ⟨A11, hA11⟩ : ∃ W, w10.alloc (.cells #[.int .i64 0, .int .i64 0, .int .u32 0, .int .i64 0, .int .i64 0, .int .u64 0, .int .u64 0] 35 (0, 0)) = W := ⟨_, rfl⟩
  have FA : Hid (Fr (fun _ _ => True) w10 A11) := hA11 ▸ (Fr.refl _ _).alloc _
  have XA : Hid (A11.heap[w10.heap.size]? = some (.cells #[.int .i64 0, .int .i64 0, .int .u32 0, .int .i64 0, .int .i64 0, .int .u64 0, .int .u64 0] 35 (0, 0))) := hA11 ▸ heap_alloc_new w10 _
  have q0 := cell_mk (i := 0) XA.out rfl
  have z0 := frozen_mk (i := 0) XA.out
  have q1 := cell_mk (i := 1) XA.out rfl
  have z1 := frozen_mk (i := 1) XA.out
  have q2 := cell_mk (i := 2) XA.out rfl
  have z2 := frozen_mk (i := 2) XA.out
  have q3 := cell_mk (i := 3) XA.out rfl
  have z3 := frozen_mk (i := 3) XA.out
  have q4 := cell_mk (i := 4) XA.out rfl
  have z4 := frozen_mk (i := 4) XA.out
  have q5 := cell_mk (i := 5) XA.out rfl
  have z5 := frozen_mk (i := 5) XA.out
  have q6 := cell_mk (i := 6) XA.out rfl
  have z6 := frozen_mk (i := 6) XA.out
  obtain ⟨v11, hv11, TZ, FZ⟩ := set7 XA.out (.int .i64 jop) (.int .i64 jcl) (.int .u32 (jsq : Nat)) (.int .i64 jrg) (.int .i64 jmd) (.int .u64 (jtk : Nat)) (.int .u64 (jtm : Nat))
  have FB : Hid (Fr (fun c _ => c < w10.heap.size) w10 v11) := Lib.hid ((FA.out.mono fun _ _ _ => trivial).trans (FZ.mono fun c _ h e => by omega))
  have BK : Hid (∀ {X : Nat → Obj → Prop} {v : Value} {l : List UInt8}, BytesAt X w10 v l → BytesAt (fun _ _ => True) v11 v l) := Lib.hid fun h => (((h.mono (K' := fun c _ => c < w10.heap.size) fun c o ho _ => lt_of_some ho).fr FB.out).mono fun _ _ _ _ => trivial)
  have F11 : Hid (Fr (fun b _ => b < w.heap.size) w v11) := Lib.hid (F10.out.trans (FB.out.mono fun c _ h => by have := F10.out.size; omega))
  have X11 := Lib.hid (FB.out.keep _ _ X10.out (lt_of_some X10.out))
  have D11 := Lib.hid (FB.out.keep _ _ D10.out (lt_of_some D10.out))
  have E11 := Lib.hid (FB.out.keep _ _ E10.out (lt_of_some E10.out))
  have J11 := Lib.hid TZ
  have BX11 := Lib.hid (BK.out BX10.out)
  have BY11 := Lib.hid (BK.out BY10.out)
  clear F10 X10 D10 E10 BX10 BY10 BK FB TZ FZ FA XA
  go_upto_region 9 with fail
  try rw [hv11]
  clear hA11 hv11 q0 q1 q2 q3 q4 q5 q6 z0 z1 z2 z3 z4 z5 z6
  obtain ⟨mj, hmj⟩ : ∃ m, w10.heap.size = m := ⟨_, rfl⟩
  rw [hmj] at J11 ⊢
  clear hmj
  have KS : Hid (∀ W, Fr (fun _ _ => True) v11 W → W.cell? ⟨w.heap.size, 0, none⟩ = some (.int .i64 op) ∧ W.cell? ⟨w.heap.size, 1, none⟩ = some (.int .i64 cl) ∧ W.cell? ⟨w.heap.size, 2, none⟩ = some (.int .u32 (sq : Nat)) ∧ W.cell? ⟨w.heap.size, 3, none⟩ = some (.int .i64 rg) ∧ W.cell? ⟨w.heap.size, 4, none⟩ = some (.int .i64 md) ∧ W.cell? ⟨w.heap.size, 5, none⟩ = some (.int .u64 (tk : Nat)) ∧ W.cell? ⟨w.heap.size, 6, none⟩ = some (.int .u64 (tm : Nat)) ∧ W.cell? ⟨md7, 0, none⟩ = some (.int .i64 dop) ∧ W.cell? ⟨md7, 1, none⟩ = some (.int .i64 dcl) ∧ W.cell? ⟨md7, 2, none⟩ = some (.int .u32 (dsq : Nat)) ∧ W.cell? ⟨md7, 3, none⟩ = some (.int .i64 drg) ∧ W.cell? ⟨md7, 4, none⟩ = some (.int .i64 dmd) ∧ W.cell? ⟨md7, 5, none⟩ = some (.int .u64 (dtk : Nat)) ∧ W.cell? ⟨md7, 6, none⟩ = some (.int .u64 (dtm : Nat)) ∧ W.cell? ⟨mh, 0, none⟩ = some (.int .i64 dop) ∧ W.cell? ⟨mh, 1, none⟩ = some (.int .i64 dcl) ∧ W.cell? ⟨mh, 2, none⟩ = some (.int .u32 (dsq : Nat)) ∧ W.cell? ⟨mh, 3, none⟩ = some (.int .i64 drg) ∧ W.cell? ⟨mh, 4, none⟩ = some (.int .i64 dmd) ∧ W.cell? ⟨mh, 5, none⟩ = some (.int .u64 (dtk : Nat)) ∧ W.cell? ⟨mh, 6, none⟩ = some (.int .u64 (dtm : Nat)) ∧ W.cell? ⟨mj, 0, none⟩ = some (.int .i64 jop) ∧ W.cell? ⟨mj, 1, none⟩ = some (.int .i64 jcl) ∧ W.cell? ⟨mj, 2, none⟩ = some (.int .u32 (jsq : Nat)) ∧ W.cell? ⟨mj, 3, none⟩ = some (.int .i64 jrg) ∧ W.cell? ⟨mj, 4, none⟩ = some (.int .i64 jmd) ∧ W.cell? ⟨mj, 5, none⟩ = some (.int .u64 (jtk : Nat)) ∧ W.cell? ⟨mj, 6, none⟩ = some (.int .u64 (jtm : Nat))) := Lib.hid fun W f => by
    have t1 := f.keep _ _ X11.out trivial
    have t2 := f.keep _ _ D11.out trivial
    have t3 := f.keep _ _ E11.out trivial
    have t4 := f.keep _ _ J11.out trivial
    exact ⟨cell_mk t1 rfl, cell_mk t1 rfl, cell_mk t1 rfl, cell_mk t1 rfl, cell_mk t1 rfl, cell_mk t1 rfl, cell_mk t1 rfl, cell_mk t2 rfl, cell_mk t2 rfl, cell_mk t2 rfl, cell_mk t2 rfl, cell_mk t2 rfl, cell_mk t2 rfl, cell_mk t2 rfl, cell_mk t3 rfl, cell_mk t3 rfl, cell_mk t3 rfl, cell_mk t3 rfl, cell_mk t3 rfl, cell_mk t3 rfl, cell_mk t3 rfl, cell_mk t4 rfl, cell_mk t4 rfl, cell_mk t4 rfl, cell_mk t4 rfl, cell_mk t4 rfl, cell_mk t4 rfl, cell_mk t4 rfl⟩
  have F0 : Hid (Fr (fun _ _ => True) v11 v11.drew) := (Fr.refl _ _).drew
  have SC := Lib.hid (fun W (f : Fr (fun _ _ => True) v11 W) => same_calls W _ _ _ _ (BX11.out.tt f) (BY11.out.tt f) (by have := hx100.out; omega))
  have DC := Lib.hid (fun W => doc_calls W ⟨dop, dcl, dsq, drg, dmd, dtk, dtm⟩)
  unfold vC at DC
  dsimp only at DC
  rw [show decide (xl = xl) = true from decide_eq_true rfl] at SC
  have EQ1 := fun W => eql_cmdD W dop dcl (dsq : Nat) drg dmd (dtk : Nat) (dtm : Nat)
  have EQ2 := fun W => eql_cmdC W op cl (sq : Nat) rg md (tk : Nat) (tm : Nat)
  rcases HE.out with ⟨rfl, rfl, hj⟩ | hek
  · cases hj
    go_region_held3 (fun W => W.cell? ⟨w.heap.size, 0, none⟩ = some (.int .i64 op) ∧ W.cell? ⟨w.heap.size, 1, none⟩ = some (.int .i64 cl) ∧ W.cell? ⟨w.heap.size, 2, none⟩ = some (.int .u32 (sq : Nat)) ∧ W.cell? ⟨w.heap.size, 3, none⟩ = some (.int .i64 rg) ∧ W.cell? ⟨w.heap.size, 4, none⟩ = some (.int .i64 md) ∧ W.cell? ⟨w.heap.size, 5, none⟩ = some (.int .u64 (tk : Nat)) ∧ W.cell? ⟨w.heap.size, 6, none⟩ = some (.int .u64 (tm : Nat)) ∧ W.cell? ⟨md7, 0, none⟩ = some (.int .i64 dop) ∧ W.cell? ⟨md7, 1, none⟩ = some (.int .i64 dcl) ∧ W.cell? ⟨md7, 2, none⟩ = some (.int .u32 (dsq : Nat)) ∧ W.cell? ⟨md7, 3, none⟩ = some (.int .i64 drg) ∧ W.cell? ⟨md7, 4, none⟩ = some (.int .i64 dmd) ∧ W.cell? ⟨md7, 5, none⟩ = some (.int .u64 (dtk : Nat)) ∧ W.cell? ⟨md7, 6, none⟩ = some (.int .u64 (dtm : Nat)) ∧ W.cell? ⟨mh, 0, none⟩ = some (.int .i64 dop) ∧ W.cell? ⟨mh, 1, none⟩ = some (.int .i64 dcl) ∧ W.cell? ⟨mh, 2, none⟩ = some (.int .u32 (dsq : Nat)) ∧ W.cell? ⟨mh, 3, none⟩ = some (.int .i64 drg) ∧ W.cell? ⟨mh, 4, none⟩ = some (.int .i64 dmd) ∧ W.cell? ⟨mh, 5, none⟩ = some (.int .u64 (dtk : Nat)) ∧ W.cell? ⟨mh, 6, none⟩ = some (.int .u64 (dtm : Nat)) ∧ W.cell? ⟨mj, 0, none⟩ = some (.int .i64 op) ∧ W.cell? ⟨mj, 1, none⟩ = some (.int .i64 cl) ∧ W.cell? ⟨mj, 2, none⟩ = some (.int .u32 (sq : Nat)) ∧ W.cell? ⟨mj, 3, none⟩ = some (.int .i64 rg) ∧ W.cell? ⟨mj, 4, none⟩ = some (.int .i64 md) ∧ W.cell? ⟨mj, 5, none⟩ = some (.int .u64 (tk : Nat)) ∧ W.cell? ⟨mj, 6, none⟩ = some (.int .u64 (tm : Nat)))
      (first | exact KS.out _ F0.out | exact KS.out _ FD.out | exact KS.out _ FA.out)
      ((first
        | (go_at_call 18; go_must ((with_reducible refine (SC.out _ ?cf).mono ?_); (case cf => exact F0.out); rintro e wa ⟨rfl, na, hwa⟩; have FA : Hid (Fr (fun _ _ => True) v11 wa) := Lib.hid (by rw [hwa]; exact F0.out.drewN na); clear hwa))
        | (go_at_call 15; go_must ((with_reducible refine (DC.out _).mono ?_); rintro e wd ⟨rfl, fd⟩; have FD := Lib.hid (FA.out.trans fd)))))
    all_goals
      go_wp2
      go_ret
      exact ⟨rfl, (F11.out.trans (FD.out.mono fun _ _ _ => trivial)).below (Nat.le_refl _)⟩
  · have hne : (((ek : Nat) : Int) != 0) = true := by rw [hek]; rfl
    clear hek
    refine wp_region_held_drew (S := fun W => W.cell? ⟨w.heap.size, 0, none⟩ = some (.int .i64 op) ∧ W.cell? ⟨w.heap.size, 1, none⟩ = some (.int .i64 cl) ∧ W.cell? ⟨w.heap.size, 2, none⟩ = some (.int .u32 (sq : Nat)) ∧ W.cell? ⟨w.heap.size, 3, none⟩ = some (.int .i64 rg) ∧ W.cell? ⟨w.heap.size, 4, none⟩ = some (.int .i64 md) ∧ W.cell? ⟨w.heap.size, 5, none⟩ = some (.int .u64 (tk : Nat)) ∧ W.cell? ⟨w.heap.size, 6, none⟩ = some (.int .u64 (tm : Nat)) ∧ W.cell? ⟨md7, 0, none⟩ = some (.int .i64 dop) ∧ W.cell? ⟨md7, 1, none⟩ = some (.int .i64 dcl) ∧ W.cell? ⟨md7, 2, none⟩ = some (.int .u32 (dsq : Nat)) ∧ W.cell? ⟨md7, 3, none⟩ = some (.int .i64 drg) ∧ W.cell? ⟨md7, 4, none⟩ = some (.int .i64 dmd) ∧ W.cell? ⟨md7, 5, none⟩ = some (.int .u64 (dtk : Nat)) ∧ W.cell? ⟨md7, 6, none⟩ = some (.int .u64 (dtm : Nat)) ∧ W.cell? ⟨mh, 0, none⟩ = some (.int .i64 dop) ∧ W.cell? ⟨mh, 1, none⟩ = some (.int .i64 dcl) ∧ W.cell? ⟨mh, 2, none⟩ = some (.int .u32 (dsq : Nat)) ∧ W.cell? ⟨mh, 3, none⟩ = some (.int .i64 drg) ∧ W.cell? ⟨mh, 4, none⟩ = some (.int .i64 dmd) ∧ W.cell? ⟨mh, 5, none⟩ = some (.int .u64 (dtk : Nat)) ∧ W.cell? ⟨mh, 6, none⟩ = some (.int .u64 (dtm : Nat)) ∧ W.cell? ⟨mj, 0, none⟩ = some (.int .i64 jop) ∧ W.cell? ⟨mj, 1, none⟩ = some (.int .i64 jcl) ∧ W.cell? ⟨mj, 2, none⟩ = some (.int .u32 (jsq : Nat)) ∧ W.cell? ⟨mj, 3, none⟩ = some (.int .i64 jrg) ∧ W.cell? ⟨mj, 4, none⟩ = some (.int .i64 jmd) ∧ W.cell? ⟨mj, 5, none⟩ = some (.int .u64 (jtk : Nat)) ∧ W.cell? ⟨mj, 6, none⟩ = some (.int .u64 (jtm : Nat))) (by kernel_rfl) (KS.out _ F0.out) (fun hHeld => ?_)
    refine wpAnyH_take (i := 0) (v := ?v0) rfl (by kernel_rfl) (by kernel_rfl) (by kernel_rfl) (fun _ _ _ h => h) (Or.inl ⟨by rfl, ?hy0⟩) hHeld ?rest0
    case hy0 => (intro w hSw; (try dsimp only at hSw); (try simp only [List.getElem_toArray, List.getElem_cons_zero, List.getElem_cons_succ]); go_simp; try with_reducible rfl)
    try simp only [List.getElem_toArray, List.getElem_cons_zero, List.getElem_cons_succ, Act.put, List.setIfInBounds_toArray, List.set_cons_zero, List.set_cons_succ]
    refine wpAnyH_take (i := 1) (v := ?v1) rfl (by kernel_rfl) (by kernel_rfl) (by kernel_rfl) (fun _ _ _ h => h) (Or.inl ⟨by rfl, ?hy1⟩) hHeld ?rest1
    case hy1 => (intro w hSw; (try dsimp only at hSw); (try simp only [List.getElem_toArray, List.getElem_cons_zero, List.getElem_cons_succ]); go_simp; try with_reducible rfl)
    try simp only [List.getElem_toArray, List.getElem_cons_zero, List.getElem_cons_succ, Act.put, List.setIfInBounds_toArray, List.set_cons_zero, List.set_cons_succ]
    refine wpAnyH_take (i := 2) (v := ?v2) rfl (by kernel_rfl) (by kernel_rfl) (by kernel_rfl) (fun _ _ _ h => h) (Or.inl ⟨by rfl, ?hy2⟩) hHeld ?rest2
    case hy2 => (intro w hSw; (try dsimp only at hSw); (try simp only [List.getElem_toArray, List.getElem_cons_zero, List.getElem_cons_succ]); go_simp; try with_reducible rfl)
    try simp only [List.getElem_toArray, List.getElem_cons_zero, List.getElem_cons_succ, Act.put, List.setIfInBounds_toArray, List.set_cons_zero, List.set_cons_succ]
    refine wpAnyH_take (i := 3) (v := ?v3) rfl (by kernel_rfl) (by kernel_rfl) (by kernel_rfl) (fun _ _ _ h => h) (Or.inl ⟨by rfl, ?hy3⟩) hHeld ?rest3
    case hy3 => (intro w hSw; (try dsimp only at hSw); (try simp only [List.getElem_toArray, List.getElem_cons_zero, List.getElem_cons_succ]); go_simp; try with_reducible rfl)
    try simp only [List.getElem_toArray, List.getElem_cons_zero, List.getElem_cons_succ, Act.put, List.setIfInBounds_toArray, List.set_cons_zero, List.set_cons_succ]
    refine wpAnyH_take (i := 4) (v := ?v4) rfl (by kernel_rfl) (by kernel_rfl) (by kernel_rfl) (fun _ _ _ h => h) (Or.inl ⟨by rfl, ?hy4⟩) hHeld ?rest4
    case hy4 => (intro w hSw; (try dsimp only at hSw); (try simp only [List.getElem_toArray, List.getElem_cons_zero, List.getElem_cons_succ]); go_simp; try with_reducible rfl)
    try simp only [List.getElem_toArray, List.getElem_cons_zero, List.getElem_cons_succ, Act.put, List.setIfInBounds_toArray, List.set_cons_zero, List.set_cons_succ]
    refine wpAnyH_take (i := 5) (v := ?v5) rfl (by kernel_rfl) (by kernel_rfl) (by kernel_rfl) (fun _ _ _ h => h) (Or.inl ⟨by rfl, ?hy5⟩) hHeld ?rest5
    case hy5 => (intro w hSw; (try dsimp only at hSw); (try simp only [List.getElem_toArray, List.getElem_cons_zero, List.getElem_cons_succ]); go_simp; try with_reducible rfl)
    try simp only [List.getElem_toArray, List.getElem_cons_zero, List.getElem_cons_succ, Act.put, List.setIfInBounds_toArray, List.set_cons_zero, List.set_cons_succ]
    refine wpAnyH_take (i := 6) (v := ?v6) rfl (by kernel_rfl) (by kernel_rfl) (by kernel_rfl) (fun _ _ _ h => h) (Or.inl ⟨by rfl, ?hy6⟩) hHeld ?rest6
    case hy6 => (intro w hSw; (try dsimp only at hSw); (try simp only [List.getElem_toArray, List.getElem_cons_zero, List.getElem_cons_succ]); go_simp; try with_reducible rfl)
    try simp only [List.getElem_toArray, List.getElem_cons_zero, List.getElem_cons_succ, Act.put, List.setIfInBounds_toArray, List.set_cons_zero, List.set_cons_succ]
    refine wpAnyH_take (i := 7) (v := ?v7) rfl (by kernel_rfl) (by kernel_rfl) (by kernel_rfl) (fun _ _ _ h => h) (Or.inl ⟨by rfl, ?hy7⟩) hHeld ?rest7
    case hy7 => (intro w hSw; (try dsimp only at hSw); (try simp only [List.getElem_toArray, List.getElem_cons_zero, List.getElem_cons_succ]); go_simp; try with_reducible rfl)
    try simp only [List.getElem_toArray, List.getElem_cons_zero, List.getElem_cons_succ, Act.put, List.setIfInBounds_toArray, List.set_cons_zero, List.set_cons_succ]
    refine wpAnyH_take (i := 8) (v := ?v8) rfl (by kernel_rfl) (by kernel_rfl) (by kernel_rfl) (fun _ _ _ h => h) (Or.inl ⟨by rfl, ?hy8⟩) hHeld ?rest8
    case hy8 => (intro w hSw; (try dsimp only at hSw); (try simp only [List.getElem_toArray, List.getElem_cons_zero, List.getElem_cons_succ]); go_simp; try with_reducible rfl)
    try simp only [List.getElem_toArray, List.getElem_cons_zero, List.getElem_cons_succ, Act.put, List.setIfInBounds_toArray, List.set_cons_zero, List.set_cons_succ]
    refine wpAnyH_ready (rs := [9]) (by kernel_rfl) (by simp) ?_
    refine AllReadyH.cons rfl (fun K hK => ?_) AllReadyH.nil
    (try simp only [List.getElem_toArray, List.getElem_cons_zero, List.getElem_cons_succ])
    go_simp
    (with_reducible refine (SC.out _ F0.out).mono ?_)
    rintro e wa ⟨rfl, na, hwa⟩
    have FA : Hid (Fr (fun _ _ => True) v11 wa) := Lib.hid (by rw [hwa]; exact F0.out.drewN na)
    clear hwa
    (try simp only [Act.put, List.setIfInBounds_toArray, List.set_cons_zero, List.set_cons_succ])
    refine hK.out _ _ (KS.out _ FA.out) (fun hHeld => ?_)
    clear hK K
    refine wpAnyH_take (i := 10) (v := ?v10) rfl (by kernel_rfl) (by kernel_rfl) (by kernel_rfl) (fun _ _ _ h => h) (Or.inl ⟨by rfl, ?hy10⟩) hHeld ?rest10
    case hy10 => (intro w hSw; (try dsimp only at hSw); (try simp only [List.getElem_toArray, List.getElem_cons_zero, List.getElem_cons_succ]); go_simp; try with_reducible rfl)
    try simp only [List.getElem_toArray, List.getElem_cons_zero, List.getElem_cons_succ, Act.put, List.setIfInBounds_toArray, List.set_cons_zero, List.set_cons_succ]
    refine wpAnyH_take (i := 11) (v := ?v11) rfl (by kernel_rfl) (by kernel_rfl) (by kernel_rfl) (fun _ _ _ h => h) (Or.inl ⟨by rfl, ?hy11⟩) hHeld ?rest11
    case hy11 => (intro w hSw; (try dsimp only at hSw); (try simp only [List.getElem_toArray, List.getElem_cons_zero, List.getElem_cons_succ]); go_simp; try with_reducible rfl)
    try simp only [List.getElem_toArray, List.getElem_cons_zero, List.getElem_cons_succ, Act.put, List.setIfInBounds_toArray, List.set_cons_zero, List.set_cons_succ]
    refine wpAnyH_take (i := 12) (v := ?v12) rfl (by kernel_rfl) (by kernel_rfl) (by kernel_rfl) (fun _ _ _ h => h) (Or.inl ⟨by rfl, ?hy12⟩) hHeld ?rest12
    case hy12 => (intro w hSw; (try dsimp only at hSw); (try simp only [List.getElem_toArray, List.getElem_cons_zero, List.getElem_cons_succ]); go_simp; try with_reducible rfl)
    try simp only [List.getElem_toArray, List.getElem_cons_zero, List.getElem_cons_succ, Act.put, List.setIfInBounds_toArray, List.set_cons_zero, List.set_cons_succ]
    refine wpAnyH_take (i := 14) (v := ?v14) rfl (by kernel_rfl) (by kernel_rfl) (by kernel_rfl) (fun _ _ _ h => h) (Or.inl ⟨by rfl, ?hy14⟩) hHeld ?rest14
    case hy14 => (intro w hSw; (try dsimp only at hSw); (try simp only [List.getElem_toArray, List.getElem_cons_zero, List.getElem_cons_succ]); go_simp; try with_reducible rfl)
    try simp only [List.getElem_toArray, List.getElem_cons_zero, List.getElem_cons_succ, Act.put, List.setIfInBounds_toArray, List.set_cons_zero, List.set_cons_succ]
    refine wpAnyH_ready (rs := [13]) (by kernel_rfl) (by simp) ?_
    refine AllReadyH.cons rfl (fun K hK => ?_) AllReadyH.nil
    (try simp only [List.getElem_toArray, List.getElem_cons_zero, List.getElem_cons_succ])
    go_simp
    (with_reducible refine (DC.out _).mono ?_)
    rintro e wd ⟨rfl, fd⟩
    have FD := Lib.hid (FA.out.trans fd)
    (try simp only [Act.put, List.setIfInBounds_toArray, List.set_cons_zero, List.set_cons_succ])
    refine hK.out _ _ (KS.out _ FD.out) (fun hHeld => ?_)
    clear hK K
    refine wpAnyH_take (i := 15) (v := ?v15) rfl (by kernel_rfl) (by kernel_rfl) (by kernel_rfl) (fun _ _ _ h => h) (Or.inl ⟨by rfl, ?hy15⟩) hHeld ?rest15
    case hy15 => (intro w hSw; (try dsimp only at hSw); (try simp only [List.getElem_toArray, List.getElem_cons_zero, List.getElem_cons_succ]); go_simp; try with_reducible rfl)
    try simp only [List.getElem_toArray, List.getElem_cons_zero, List.getElem_cons_succ, Act.put, List.setIfInBounds_toArray, List.set_cons_zero, List.set_cons_succ]
    refine wpAnyH_take (i := 16) (v := ?v16) rfl (by kernel_rfl) (by kernel_rfl) (by kernel_rfl) (fun _ _ _ h => h) (Or.inl ⟨by rfl, ?hy16⟩) hHeld ?rest16
    case hy16 => (intro w hSw; (try dsimp only at hSw); (try simp only [List.getElem_toArray, List.getElem_cons_zero, List.getElem_cons_succ]); go_simp; try with_reducible rfl)
    try simp only [List.getElem_toArray, List.getElem_cons_zero, List.getElem_cons_succ, Act.put, List.setIfInBounds_toArray, List.set_cons_zero, List.set_cons_succ]
    refine wpAnyH_take (i := 17) (v := ?v17) rfl (by kernel_rfl) (by kernel_rfl) (by kernel_rfl) (fun _ _ _ h => h) (Or.inl ⟨by rfl, ?hy17⟩) hHeld ?rest17
    case hy17 => (intro w hSw; (try dsimp only at hSw); (try simp only [List.getElem_toArray, List.getElem_cons_zero, List.getElem_cons_succ]); go_simp; try with_reducible rfl)
    try simp only [List.getElem_toArray, List.getElem_cons_zero, List.getElem_cons_succ, Act.put, List.setIfInBounds_toArray, List.set_cons_zero, List.set_cons_succ]
    refine wpAnyH_take (i := 18) (v := ?v18) rfl (by kernel_rfl) (by kernel_rfl) (by kernel_rfl) (fun _ _ _ h => h) (Or.inl ⟨by rfl, ?hy18⟩) hHeld ?rest18
    case hy18 => (intro w hSw; (try dsimp only at hSw); (try simp only [List.getElem_toArray, List.getElem_cons_zero, List.getElem_cons_succ]); go_simp; try with_reducible rfl)
    try simp only [List.getElem_toArray, List.getElem_cons_zero, List.getElem_cons_succ, Act.put, List.setIfInBounds_toArray, List.set_cons_zero, List.set_cons_succ]
    refine wpAnyH_take (i := 19) (v := ?v19) rfl (by kernel_rfl) (by kernel_rfl) (by kernel_rfl) (fun _ _ _ h => h) (Or.inl ⟨by rfl, ?hy19⟩) hHeld ?rest19
    case hy19 => (intro w hSw; (try dsimp only at hSw); (try simp only [List.getElem_toArray, List.getElem_cons_zero, List.getElem_cons_succ]); go_simp; try with_reducible rfl)
    try simp only [List.getElem_toArray, List.getElem_cons_zero, List.getElem_cons_succ, Act.put, List.setIfInBounds_toArray, List.set_cons_zero, List.set_cons_succ]
    refine wpAnyH_take (i := 20) (v := ?v20) rfl (by kernel_rfl) (by kernel_rfl) (by kernel_rfl) (fun _ _ _ h => h) (Or.inl ⟨by rfl, ?hy20⟩) hHeld ?rest20
    case hy20 => (intro w hSw; (try dsimp only at hSw); (try simp only [List.getElem_toArray, List.getElem_cons_zero, List.getElem_cons_succ]); go_simp; try with_reducible rfl)
    try simp only [List.getElem_toArray, List.getElem_cons_zero, List.getElem_cons_succ, Act.put, List.setIfInBounds_toArray, List.set_cons_zero, List.set_cons_succ]
    refine wpAnyH_take (i := 21) (v := ?v21) rfl (by kernel_rfl) (by kernel_rfl) (by kernel_rfl) (fun _ _ _ h => h) (Or.inl ⟨by rfl, ?hy21⟩) hHeld ?rest21
    case hy21 => (intro w hSw; (try dsimp only at hSw); (try simp only [List.getElem_toArray, List.getElem_cons_zero, List.getElem_cons_succ]); go_simp; try with_reducible rfl)
    try simp only [List.getElem_toArray, List.getElem_cons_zero, List.getElem_cons_succ, Act.put, List.setIfInBounds_toArray, List.set_cons_zero, List.set_cons_succ]
    refine wpAnyH_take (i := 22) (v := ?v22) rfl (by kernel_rfl) (by kernel_rfl) (by kernel_rfl) (fun _ _ _ h => h) (Or.inl ⟨by rfl, ?hy22⟩) hHeld ?rest22
    case hy22 => (intro w hSw; (try dsimp only at hSw); (try simp only [List.getElem_toArray, List.getElem_cons_zero, List.getElem_cons_succ]); go_simp; try with_reducible rfl)
    try simp only [List.getElem_toArray, List.getElem_cons_zero, List.getElem_cons_succ, Act.put, List.setIfInBounds_toArray, List.set_cons_zero, List.set_cons_succ]
    refine wpAnyH_take (i := 23) (v := ?v23) rfl (by kernel_rfl) (by kernel_rfl) (by kernel_rfl) (fun _ _ _ h => h) (Or.inl ⟨by rfl, ?hy23⟩) hHeld ?rest23
    case hy23 => (intro w hSw; (try dsimp only at hSw); (try simp only [List.getElem_toArray, List.getElem_cons_zero, List.getElem_cons_succ]); go_simp; try with_reducible rfl)
    try simp only [List.getElem_toArray, List.getElem_cons_zero, List.getElem_cons_succ, Act.put, List.setIfInBounds_toArray, List.set_cons_zero, List.set_cons_succ]
    refine wpAnyH_take (i := 24) (v := ?v24) rfl (by kernel_rfl) (by kernel_rfl) (by kernel_rfl) (fun _ _ _ h => h) (Or.inl ⟨by rfl, ?hy24⟩) hHeld ?rest24
    case hy24 => (intro w hSw; (try dsimp only at hSw); (try simp only [List.getElem_toArray, List.getElem_cons_zero, List.getElem_cons_succ]); go_simp; try with_reducible rfl)
    try simp only [List.getElem_toArray, List.getElem_cons_zero, List.getElem_cons_succ, Act.put, List.setIfInBounds_toArray, List.set_cons_zero, List.set_cons_succ]
    refine wpAnyH_take (i := 25) (v := ?v25) rfl (by kernel_rfl) (by kernel_rfl) (by kernel_rfl) (fun _ _ _ h => h) (Or.inl ⟨by rfl, ?hy25⟩) hHeld ?rest25
    case hy25 => (intro w hSw; (try dsimp only at hSw); (try simp only [List.getElem_toArray, List.getElem_cons_zero, List.getElem_cons_succ]); go_simp; try with_reducible rfl)
    try simp only [List.getElem_toArray, List.getElem_cons_zero, List.getElem_cons_succ, Act.put, List.setIfInBounds_toArray, List.set_cons_zero, List.set_cons_succ]
    refine wpAnyH_take (i := 26) (v := undef) rfl (by kernel_rfl) (by kernel_rfl) (by kernel_rfl) (fun _ _ _ h => h) (Or.inr ⟨by rfl, rfl⟩) hHeld ?rest26
    try simp only [List.getElem_toArray, List.getElem_cons_zero, List.getElem_cons_succ, Act.put, List.setIfInBounds_toArray, List.set_cons_zero, List.set_cons_succ]
    refine wpAnyH_take (i := 27) (v := undef) rfl (by kernel_rfl) (by kernel_rfl) (by kernel_rfl) (fun _ _ _ h => h) (Or.inr ⟨by rfl, rfl⟩) hHeld ?rest27
    try simp only [List.getElem_toArray, List.getElem_cons_zero, List.getElem_cons_succ, Act.put, List.setIfInBounds_toArray, List.set_cons_zero, List.set_cons_succ]
    refine wpAnyH_take (i := 28) (v := undef) rfl (by kernel_rfl) (by kernel_rfl) (by kernel_rfl) (fun _ _ _ h => h) (Or.inr ⟨by rfl, rfl⟩) hHeld ?rest28
    try simp only [List.getElem_toArray, List.getElem_cons_zero, List.getElem_cons_succ, Act.put, List.setIfInBounds_toArray, List.set_cons_zero, List.set_cons_succ]
    refine wpAnyH_take (i := 29) (v := undef) rfl (by kernel_rfl) (by kernel_rfl) (by kernel_rfl) (fun _ _ _ h => h) (Or.inr ⟨by rfl, rfl⟩) hHeld ?rest29
    try simp only [List.getElem_toArray, List.getElem_cons_zero, List.getElem_cons_succ, Act.put, List.setIfInBounds_toArray, List.set_cons_zero, List.set_cons_succ]
    refine wpAnyH_take (i := 30) (v := undef) rfl (by kernel_rfl) (by kernel_rfl) (by kernel_rfl) (fun _ _ _ h => h) (Or.inr ⟨by rfl, rfl⟩) hHeld ?rest30
    try simp only [List.getElem_toArray, List.getElem_cons_zero, List.getElem_cons_succ, Act.put, List.setIfInBounds_toArray, List.set_cons_zero, List.set_cons_succ]
    refine wpAnyH_take (i := 31) (v := undef) rfl (by kernel_rfl) (by kernel_rfl) (by kernel_rfl) (fun _ _ _ h => h) (Or.inr ⟨by rfl, rfl⟩) hHeld ?rest31
    try simp only [List.getElem_toArray, List.getElem_cons_zero, List.getElem_cons_succ, Act.put, List.setIfInBounds_toArray, List.set_cons_zero, List.set_cons_succ]
    refine wpAnyH_take (i := 32) (v := undef) rfl (by kernel_rfl) (by kernel_rfl) (by kernel_rfl) (fun _ _ _ h => h) (Or.inr ⟨by rfl, rfl⟩) hHeld ?rest32
    try simp only [List.getElem_toArray, List.getElem_cons_zero, List.getElem_cons_succ, Act.put, List.setIfInBounds_toArray, List.set_cons_zero, List.set_cons_succ]
    refine wpAnyH_take (i := 33) (v := ?v33) rfl (by kernel_rfl) (by kernel_rfl) (by kernel_rfl) (fun _ _ _ h => h) (Or.inl ⟨by rfl, ?hy33⟩) hHeld ?rest33
    case hy33 => (intro w hSw; (try dsimp only at hSw); (try simp only [List.getElem_toArray, List.getElem_cons_zero, List.getElem_cons_succ]); go_simp; try with_reducible rfl)
    try simp only [List.getElem_toArray, List.getElem_cons_zero, List.getElem_cons_succ, Act.put, List.setIfInBounds_toArray, List.set_cons_zero, List.set_cons_succ]
    refine wpAnyH_take (i := 34) (v := ?v34) rfl (by kernel_rfl) (by kernel_rfl) (by kernel_rfl) (fun _ _ _ h => h) (Or.inl ⟨by rfl, ?hy34⟩) hHeld ?rest34
    case hy34 => (intro w hSw; (try dsimp only at hSw); (try simp only [List.getElem_toArray, List.getElem_cons_zero, List.getElem_cons_succ]); go_simp; try with_reducible rfl)
    try simp only [List.getElem_toArray, List.getElem_cons_zero, List.getElem_cons_succ, Act.put, List.setIfInBounds_toArray, List.set_cons_zero, List.set_cons_succ]
    refine wpAnyH_take (i := 35) (v := ?v35) rfl (by kernel_rfl) (by kernel_rfl) (by kernel_rfl) (fun _ _ _ h => h) (Or.inl ⟨by rfl, ?hy35⟩) hHeld ?rest35
    case hy35 => (intro w hSw; (try dsimp only at hSw); (try simp only [List.getElem_toArray, List.getElem_cons_zero, List.getElem_cons_succ]); go_simp; try with_reducible rfl)
    try simp only [List.getElem_toArray, List.getElem_cons_zero, List.getElem_cons_succ, Act.put, List.setIfInBounds_toArray, List.set_cons_zero, List.set_cons_succ]
    refine wpAnyH_done (by kernel_rfl) ?_ _
    go_wp2
    go_ret
    exact ⟨rfl, (F11.out.trans (FD.out.mono fun _ _ _ => trivial)).below (Nat.le_refl _)⟩
end Go.Proofs.Ytlolfcnfcgegdaa
/- ServiceEncodes: for all input. -/
namespace Go.Proofs.Ytlolfcnfcgegdaa
open Go.RowKit
set_option linter.unusedVariables false

theorem encodes_walk (cs : Array Value) (a : Option Addr) (len cap : Nat) (w : World) (h0 : Rd Try.prog w 35 cs.toList) (hs : cs.size = 7) (h1 : Rd Try.prog w 31 [.slice a len cap]) :
    Calls Try.prog 4 #[.agg cs, .slice a len cap] w fun e w' => e = .returned (.bool true) ∧ Below w.heap.size w w' := by
  obtain ⟨⟨op, cl, sq, rg, md, tk, tm⟩, hok, hcs⟩ := rd_cmd h0 (by rw [Array.length_toList]; exact hs)
  have e : cs = #[.int .i64 op, .int .i64 cl, .int .u32 (sq : Nat), .int .i64 rg, .int .i64 md, .int .u64 (tk : Nat), .int .u64 (tm : Nat)] := by rw [← Array.toArray_toList (xs := cs), hcs]
  obtain ⟨b, hb, _⟩ := h1.bytes Try.underlying31 Try.underlying5 (by kernel_rfl)
  have hl := hb.len
  subst hl e
  by_cases h : 100 < b.length
  · exact encodes_short ⟨op, cl, sq, rg, md, tk, tm⟩ a b.length cap w h
  · exact encodes_main op cl rg md sq tk tm hok a cap b w hb (by omega)
end Go.Proofs.Ytlolfcnfcgegdaa
