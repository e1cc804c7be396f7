/- Texts of the proofs, part 11: what the functions that they reach do, walked; no conditions beyond those that each states. -/
import Derived.Test.YtaeonlafcbgpcaaDoorZz148c1a5d38
set_option linter.unusedVariables false
set_option linter.unusedSimpArgs false
/- Law 5: one call, to both disks. -/
namespace Go.Proofs.YtaeonlafcbgpcaaDoor
open Go.RowKit
set_option linter.unusedVariables false

/-- What 'one' is asked to do. -/
def OneSays (n : Nat) (w : World) (bd br : Nat) (D : Dk) (o : OpV) : Prop :=
  Calls Tryd.prog 28 #[.pointer (some ⟨bd, 0, none⟩), .pointer (some ⟨br, 0, none⟩), .agg #[.int .i64 o.q, .int .i64 o.at', o.vb, o.vp, .int .u32 (o.s : Nat), .int .u32 (o.p : Nat)]] w fun e w' => e = .returned (.bool true) ∧ Two n w' bd br (opM D o) (opM D o) ∧ Fr (fun c _ => c < n) w w'

set_option maxRecDepth 100000 in
set_option maxHeartbeats 1000000 in
theorem one_1 (n : Nat) (w : World) (bd br : Nat) (D : Dk) (i : Int) (vb vp : Value) (b : List UInt8) (zs : List Int) (s p : Nat) (h2 : Two n w bd br D D) (ho : (⟨1, i, vb, vp, b, zs, s, p⟩ : OpV).Lies n w) (ht : TabOK w) (h0 : 0 < n) (hq : D.pend.length < 1000000) : OneSays n w bd br D ⟨1, i, vb, vp, b, zs, s, p⟩ := by
  unfold OneSays
  rw [show opM D ⟨1, i, vb, vp, b, zs, s, p⟩ = (saveM D i b).2 from rfl]
  obtain ⟨hb, hp, hs, hpp, lo, hi⟩ := ho
  replace hb : BytesAt (fun c _ => c < n) w vb b := hb
  replace hp : IntsAt (fun c _ => c < n) w vp zs := hp
  replace lo : -9223372036854775808 ≤ i := lo
  replace hi : i ≤ 9223372036854775807 := hi
  replace hs : s < 4294967296 := hs
  replace hpp : p < 4294967296 := hpp
  obtain ⟨pa, pc, rfl⟩ := hp.form
  have hW : ∃ W, w.alloc (.cells #[.int .i64 1, .int .i64 i, vb, .slice pa zs.length pc, .int .u32 (s : Nat), .int .u32 (p : Nat)] 55) = W := ⟨_, rfl⟩
  obtain ⟨W, hW⟩ := hW
  have fW : Fr (fun _ _ => True) w W := by rw [← hW]; exact (Fr.refl _ _).alloc _
  have top : W.heap[w.heap.size]? = some (.cells #[.int .i64 1, .int .i64 i, vb, .slice pa zs.length pc, .int .u32 (s : Nat), .int .u32 (p : Nat)] 55 (0, 0)) := by rw [← hW]; exact heap_alloc_new _ _
  obtain ⟨F, G, hd, hr, hF, hG, hFG⟩ := h2
  have sW : w.heap.size ≤ W.heap.size := fW.size
  have sW' : w.heap.size < W.heap.size := lt_of_some top
  have hn : n ≤ w.heap.size := by have := hF _ hd.fb; omega
  have hF0 : ∀ c, F c → n ≤ c ∧ c < W.heap.size := fun c h => ⟨(hF c h).1, by have := (hF c h).2; omega⟩
  have hG0 : ∀ c, G c → n ≤ c ∧ c < W.heap.size := fun c h => ⟨(hG c h).1, by have := (hG c h).2; omega⟩
  have hd0 := hd.tt fW
  have hr0 := hr.tt fW
  have hb0 := hb.tt fW
  have hp0 : IntsAt (fun c _ => c < n) W (.slice pa zs.length pc) zs := hp.fr fW fun _ _ _ => trivial
  have ht0 := ht.tt fW
  have gW : Fr (fun c _ => c < n) w W := fW.mono fun _ _ _ => trivial
  have k0 := cell_mk (i := 0) top rfl
  have k1 := cell_mk (i := 1) top rfl
  have k2 := cell_mk (i := 2) top rfl
  have k3 := cell_mk (i := 3) top rfl
  have k4 := cell_mk (i := 4) top rfl
  have k5 := cell_mk (i := 5) top rfl
  have DC := Lib.hid (save_calls W bd F D i vb b hd0 hb0 ht0 hq)
  have STEP1 : Hid (∀ w1 D1, Dsk w1 bd (fun c => F c ∨ W.heap.size ≤ c) D1 → Fr (fun c _ => ¬ F c) W w1 → Two n w1 bd br D1 D ∧ Fr (fun c _ => c < n) W w1 ∧ w1.heap[w.heap.size]? = some (.cells #[.int .i64 1, .int .i64 i, vb, .slice pa zs.length pc, .int .u32 (s : Nat), .int .u32 (p : Nat)] 55 (0, 0))) := fun w1 D1 d1 f1 => by
    obtain ⟨t1, g1⟩ := two_d hd0 hr0 hF0 hG0 hFG d1 f1
    exact ⟨t1, g1, f1.keep _ _ top fun h => by have := (hF _ h).2; omega⟩
  have HF0 := Lib.hid hF0
  have HD0 := Lib.hid hd0
  have HB0 := Lib.hid hb0
  have HP0 := Lib.hid hp0
  have HT0 := Lib.hid ht0
  have GW := Lib.hid gW
  clear hF0 hG0 hd0 hr0 hb0 hp0 ht0 gW top hd hr hF hG hFG hb hp ht fW
  go_enter Tryd.func28, Tryd.ntmps28
  go_wp2_with fail
  clear hW
  (with_reducible refine DC.out.mono ?_)
  rintro e w1 ⟨rfl, d1, f1⟩
  obtain ⟨t1, g1, top1⟩ := STEP1.out _ _ d1 f1
  obtain ⟨F1, G1, hd1, hr1, hF1, hG1, hFG1⟩ := t1
  have hb1 := HB0.out.fr g1
  have hp1 : IntsAt (fun c _ => c < n) w1 (.slice pa zs.length pc) zs := HP0.out.fr g1 fun _ _ h => h
  have ht1 : TabOK w1 := fun j hj => g1.cell (fun _ _ => h0) (HT0.out j hj)
  have STEP2 : Hid (∀ w2 E1, Rdk w2 br (fun c => G1 c ∨ w1.heap.size ≤ c) E1 → Fr (fun c _ => c ≠ br) w1 w2 → Two n w2 bd br _ E1 ∧ Fr (fun c _ => c < n) w1 w2) := fun w2 E1 r1 f1 => two_r hd1 hr1 hF1 hG1 hFG1 r1 f1
  have RC := Lib.hid (r_save w1 br G1 D i vb b hr1 hb1 hq)
  have G1' := Lib.hid g1
  have k10 := cell_mk (i := 0) top1 rfl
  have k11 := cell_mk (i := 1) top1 rfl
  have k12 := cell_mk (i := 2) top1 rfl
  have k13 := cell_mk (i := 3) top1 rfl
  clear d1 f1 g1 top1 hd1 hr1 hF1 hG1 hFG1 hb1 hp1 ht1 k0 k1 k2 k3 k4 k5 DC STEP1
  go_wp2_with fail
  (with_reducible refine RC.out.mono ?_)
  rintro e w2 ⟨rfl, r2, f2⟩
  obtain ⟨t2, g2⟩ := STEP2.out _ _ r2 f2
  have T2 := Lib.hid t2
  have G2 := Lib.hid g2
  clear r2 f2 t2 g2 k10 k11 k12 k13
  go_wp2
  go_ret
  exact ⟨rfl, T2.out, (GW.out.trans G1'.out).trans G2.out⟩

set_option maxRecDepth 100000 in
set_option maxHeartbeats 1000000 in
theorem one_2 (n : Nat) (w : World) (bd br : Nat) (D : Dk) (i : Int) (vb vp : Value) (b : List UInt8) (zs : List Int) (s p : Nat) (h2 : Two n w bd br D D) (ho : (⟨2, i, vb, vp, b, zs, s, p⟩ : OpV).Lies n w) (ht : TabOK w) (h0 : 0 < n) (hq : D.pend.length < 1000000) : OneSays n w bd br D ⟨2, i, vb, vp, b, zs, s, p⟩ := by
  unfold OneSays
  rw [show opM D ⟨2, i, vb, vp, b, zs, s, p⟩ = (putM D i b).2 from rfl]
  obtain ⟨hb, hp, hs, hpp, lo, hi⟩ := ho
  replace hb : BytesAt (fun c _ => c < n) w vb b := hb
  replace hp : IntsAt (fun c _ => c < n) w vp zs := hp
  replace lo : -9223372036854775808 ≤ i := lo
  replace hi : i ≤ 9223372036854775807 := hi
  replace hs : s < 4294967296 := hs
  replace hpp : p < 4294967296 := hpp
  obtain ⟨pa, pc, rfl⟩ := hp.form
  have hW : ∃ W, w.alloc (.cells #[.int .i64 2, .int .i64 i, vb, .slice pa zs.length pc, .int .u32 (s : Nat), .int .u32 (p : Nat)] 55) = W := ⟨_, rfl⟩
  obtain ⟨W, hW⟩ := hW
  have fW : Fr (fun _ _ => True) w W := by rw [← hW]; exact (Fr.refl _ _).alloc _
  have top : W.heap[w.heap.size]? = some (.cells #[.int .i64 2, .int .i64 i, vb, .slice pa zs.length pc, .int .u32 (s : Nat), .int .u32 (p : Nat)] 55 (0, 0)) := by rw [← hW]; exact heap_alloc_new _ _
  obtain ⟨F, G, hd, hr, hF, hG, hFG⟩ := h2
  have sW : w.heap.size ≤ W.heap.size := fW.size
  have sW' : w.heap.size < W.heap.size := lt_of_some top
  have hn : n ≤ w.heap.size := by have := hF _ hd.fb; omega
  have hF0 : ∀ c, F c → n ≤ c ∧ c < W.heap.size := fun c h => ⟨(hF c h).1, by have := (hF c h).2; omega⟩
  have hG0 : ∀ c, G c → n ≤ c ∧ c < W.heap.size := fun c h => ⟨(hG c h).1, by have := (hG c h).2; omega⟩
  have hd0 := hd.tt fW
  have hr0 := hr.tt fW
  have hb0 := hb.tt fW
  have hp0 : IntsAt (fun c _ => c < n) W (.slice pa zs.length pc) zs := hp.fr fW fun _ _ _ => trivial
  have ht0 := ht.tt fW
  have gW : Fr (fun c _ => c < n) w W := fW.mono fun _ _ _ => trivial
  have k0 := cell_mk (i := 0) top rfl
  have k1 := cell_mk (i := 1) top rfl
  have k2 := cell_mk (i := 2) top rfl
  have k3 := cell_mk (i := 3) top rfl
  have k4 := cell_mk (i := 4) top rfl
  have k5 := cell_mk (i := 5) top rfl
  have DC := Lib.hid (put_calls W bd F D i vb b hd0 hb0 ht0 hq)
  have STEP1 : Hid (∀ w1 D1, Dsk w1 bd (fun c => F c ∨ W.heap.size ≤ c) D1 → Fr (fun c _ => ¬ F c) W w1 → Two n w1 bd br D1 D ∧ Fr (fun c _ => c < n) W w1 ∧ w1.heap[w.heap.size]? = some (.cells #[.int .i64 2, .int .i64 i, vb, .slice pa zs.length pc, .int .u32 (s : Nat), .int .u32 (p : Nat)] 55 (0, 0))) := fun w1 D1 d1 f1 => by
    obtain ⟨t1, g1⟩ := two_d hd0 hr0 hF0 hG0 hFG d1 f1
    exact ⟨t1, g1, f1.keep _ _ top fun h => by have := (hF _ h).2; omega⟩
  have HF0 := Lib.hid hF0
  have HD0 := Lib.hid hd0
  have HB0 := Lib.hid hb0
  have HP0 := Lib.hid hp0
  have HT0 := Lib.hid ht0
  have GW := Lib.hid gW
  clear hF0 hG0 hd0 hr0 hb0 hp0 ht0 gW top hd hr hF hG hFG hb hp ht fW
  go_enter Tryd.func28, Tryd.ntmps28
  go_wp2_with fail
  clear hW
  (with_reducible refine DC.out.mono ?_)
  rintro e w1 ⟨rfl, d1, f1⟩
  obtain ⟨t1, g1, top1⟩ := STEP1.out _ _ d1 f1
  obtain ⟨F1, G1, hd1, hr1, hF1, hG1, hFG1⟩ := t1
  have hb1 := HB0.out.fr g1
  have hp1 : IntsAt (fun c _ => c < n) w1 (.slice pa zs.length pc) zs := HP0.out.fr g1 fun _ _ h => h
  have ht1 : TabOK w1 := fun j hj => g1.cell (fun _ _ => h0) (HT0.out j hj)
  have STEP2 : Hid (∀ w2 E1, Rdk w2 br (fun c => G1 c ∨ w1.heap.size ≤ c) E1 → Fr (fun c _ => c ≠ br) w1 w2 → Two n w2 bd br _ E1 ∧ Fr (fun c _ => c < n) w1 w2) := fun w2 E1 r1 f1 => two_r hd1 hr1 hF1 hG1 hFG1 r1 f1
  have RC := Lib.hid (r_put w1 br G1 D i vb b hr1 hb1 hq)
  have G1' := Lib.hid g1
  have k10 := cell_mk (i := 0) top1 rfl
  have k11 := cell_mk (i := 1) top1 rfl
  have k12 := cell_mk (i := 2) top1 rfl
  have k13 := cell_mk (i := 3) top1 rfl
  clear d1 f1 g1 top1 hd1 hr1 hF1 hG1 hFG1 hb1 hp1 ht1 k0 k1 k2 k3 k4 k5 DC STEP1
  go_wp2_with fail
  (with_reducible refine RC.out.mono ?_)
  rintro e w2 ⟨rfl, r2, f2⟩
  obtain ⟨t2, g2⟩ := STEP2.out _ _ r2 f2
  have T2 := Lib.hid t2
  have G2 := Lib.hid g2
  clear r2 f2 t2 g2 k10 k11 k12 k13
  go_wp2
  go_ret
  exact ⟨rfl, T2.out, (GW.out.trans G1'.out).trans G2.out⟩

set_option maxRecDepth 100000 in
set_option maxHeartbeats 1000000 in
theorem one_3 (n : Nat) (w : World) (bd br : Nat) (D : Dk) (i : Int) (vb vp : Value) (b : List UInt8) (zs : List Int) (s p : Nat) (h2 : Two n w bd br D D) (ho : (⟨3, i, vb, vp, b, zs, s, p⟩ : OpV).Lies n w) (ht : TabOK w) (h0 : 0 < n) (hq : D.pend.length < 1000000) : OneSays n w bd br D ⟨3, i, vb, vp, b, zs, s, p⟩ := by
  unfold OneSays
  rw [show opM D ⟨3, i, vb, vp, b, zs, s, p⟩ = D.crash zs from rfl]
  obtain ⟨hb, hp, hs, hpp, lo, hi⟩ := ho
  replace hb : BytesAt (fun c _ => c < n) w vb b := hb
  replace hp : IntsAt (fun c _ => c < n) w vp zs := hp
  replace lo : -9223372036854775808 ≤ i := lo
  replace hi : i ≤ 9223372036854775807 := hi
  replace hs : s < 4294967296 := hs
  replace hpp : p < 4294967296 := hpp
  obtain ⟨pa, pc, rfl⟩ := hp.form
  have hW : ∃ W, w.alloc (.cells #[.int .i64 3, .int .i64 i, vb, .slice pa zs.length pc, .int .u32 (s : Nat), .int .u32 (p : Nat)] 55) = W := ⟨_, rfl⟩
  obtain ⟨W, hW⟩ := hW
  have fW : Fr (fun _ _ => True) w W := by rw [← hW]; exact (Fr.refl _ _).alloc _
  have top : W.heap[w.heap.size]? = some (.cells #[.int .i64 3, .int .i64 i, vb, .slice pa zs.length pc, .int .u32 (s : Nat), .int .u32 (p : Nat)] 55 (0, 0)) := by rw [← hW]; exact heap_alloc_new _ _
  obtain ⟨F, G, hd, hr, hF, hG, hFG⟩ := h2
  have sW : w.heap.size ≤ W.heap.size := fW.size
  have sW' : w.heap.size < W.heap.size := lt_of_some top
  have hn : n ≤ w.heap.size := by have := hF _ hd.fb; omega
  have hF0 : ∀ c, F c → n ≤ c ∧ c < W.heap.size := fun c h => ⟨(hF c h).1, by have := (hF c h).2; omega⟩
  have hG0 : ∀ c, G c → n ≤ c ∧ c < W.heap.size := fun c h => ⟨(hG c h).1, by have := (hG c h).2; omega⟩
  have hd0 := hd.tt fW
  have hr0 := hr.tt fW
  have hb0 := hb.tt fW
  have hp0 : IntsAt (fun c _ => c < n) W (.slice pa zs.length pc) zs := hp.fr fW fun _ _ _ => trivial
  have ht0 := ht.tt fW
  have gW : Fr (fun c _ => c < n) w W := fW.mono fun _ _ _ => trivial
  have k0 := cell_mk (i := 0) top rfl
  have k1 := cell_mk (i := 1) top rfl
  have k2 := cell_mk (i := 2) top rfl
  have k3 := cell_mk (i := 3) top rfl
  have k4 := cell_mk (i := 4) top rfl
  have k5 := cell_mk (i := 5) top rfl
  have DC := Lib.hid (crash_main W bd F D pa zs.length pc zs hd0 hp0 (fun c _ h1 h2 => by have := (hF0 c h2).1; omega))
  have STEP1 : Hid (∀ w1 D1, Dsk w1 bd (fun c => F c ∨ W.heap.size ≤ c) D1 → Fr (fun c _ => ¬ F c) W w1 → Two n w1 bd br D1 D ∧ Fr (fun c _ => c < n) W w1 ∧ w1.heap[w.heap.size]? = some (.cells #[.int .i64 3, .int .i64 i, vb, .slice pa zs.length pc, .int .u32 (s : Nat), .int .u32 (p : Nat)] 55 (0, 0))) := fun w1 D1 d1 f1 => by
    obtain ⟨t1, g1⟩ := two_d hd0 hr0 hF0 hG0 hFG d1 f1
    exact ⟨t1, g1, f1.keep _ _ top fun h => by have := (hF _ h).2; omega⟩
  have HF0 := Lib.hid hF0
  have HD0 := Lib.hid hd0
  have HB0 := Lib.hid hb0
  have HP0 := Lib.hid hp0
  have HT0 := Lib.hid ht0
  have GW := Lib.hid gW
  clear hF0 hG0 hd0 hr0 hb0 hp0 ht0 gW top hd hr hF hG hFG hb hp ht fW
  go_enter Tryd.func28, Tryd.ntmps28
  go_wp2_with fail
  clear hW
  (with_reducible refine DC.out.mono ?_)
  rintro e w1 ⟨rfl, d1, f1⟩
  obtain ⟨t1, g1, top1⟩ := STEP1.out _ _ d1 f1
  obtain ⟨F1, G1, hd1, hr1, hF1, hG1, hFG1⟩ := t1
  have hb1 := HB0.out.fr g1
  have hp1 : IntsAt (fun c _ => c < n) w1 (.slice pa zs.length pc) zs := HP0.out.fr g1 fun _ _ h => h
  have ht1 : TabOK w1 := fun j hj => g1.cell (fun _ _ => h0) (HT0.out j hj)
  have STEP2 : Hid (∀ w2 E1, Rdk w2 br (fun c => G1 c ∨ w1.heap.size ≤ c) E1 → Fr (fun c _ => c ≠ br) w1 w2 → Two n w2 bd br _ E1 ∧ Fr (fun c _ => c < n) w1 w2) := fun w2 E1 r1 f1 => two_r hd1 hr1 hF1 hG1 hFG1 r1 f1
  have RC := Lib.hid (r_crash w1 br G1 D pa zs.length pc zs hr1 hp1)
  have G1' := Lib.hid g1
  have k10 := cell_mk (i := 0) top1 rfl
  have k11 := cell_mk (i := 1) top1 rfl
  have k12 := cell_mk (i := 2) top1 rfl
  have k13 := cell_mk (i := 3) top1 rfl
  clear d1 f1 g1 top1 hd1 hr1 hF1 hG1 hFG1 hb1 hp1 ht1 k0 k1 k2 k3 k4 k5 DC STEP1
  go_wp2_with fail
  (with_reducible refine RC.out.mono ?_)
  rintro e w2 ⟨rfl, r2, f2⟩
  obtain ⟨t2, g2⟩ := STEP2.out _ _ r2 f2
  have T2 := Lib.hid t2
  have G2 := Lib.hid g2
  clear r2 f2 t2 g2 k10 k11 k12 k13
  go_wp2
  go_ret
  exact ⟨rfl, T2.out, (GW.out.trans G1'.out).trans G2.out⟩

set_option maxRecDepth 100000 in
set_option maxHeartbeats 1000000 in
theorem one_4 (n : Nat) (w : World) (bd br : Nat) (D : Dk) (i : Int) (vb vp : Value) (b : List UInt8) (zs : List Int) (s p : Nat) (h2 : Two n w bd br D D) (ho : (⟨4, i, vb, vp, b, zs, s, p⟩ : OpV).Lies n w) (ht : TabOK w) (h0 : 0 < n) (hq : D.pend.length < 1000000) : OneSays n w bd br D ⟨4, i, vb, vp, b, zs, s, p⟩ := by
  unfold OneSays
  rw [show opM D ⟨4, i, vb, vp, b, zs, s, p⟩ = (D.write i b).2 from rfl]
  obtain ⟨hb, hp, hs, hpp, lo, hi⟩ := ho
  replace hb : BytesAt (fun c _ => c < n) w vb b := hb
  replace hp : IntsAt (fun c _ => c < n) w vp zs := hp
  replace lo : -9223372036854775808 ≤ i := lo
  replace hi : i ≤ 9223372036854775807 := hi
  replace hs : s < 4294967296 := hs
  replace hpp : p < 4294967296 := hpp
  obtain ⟨pa, pc, rfl⟩ := hp.form
  have hW : ∃ W, w.alloc (.cells #[.int .i64 4, .int .i64 i, vb, .slice pa zs.length pc, .int .u32 (s : Nat), .int .u32 (p : Nat)] 55) = W := ⟨_, rfl⟩
  obtain ⟨W, hW⟩ := hW
  have fW : Fr (fun _ _ => True) w W := by rw [← hW]; exact (Fr.refl _ _).alloc _
  have top : W.heap[w.heap.size]? = some (.cells #[.int .i64 4, .int .i64 i, vb, .slice pa zs.length pc, .int .u32 (s : Nat), .int .u32 (p : Nat)] 55 (0, 0)) := by rw [← hW]; exact heap_alloc_new _ _
  obtain ⟨F, G, hd, hr, hF, hG, hFG⟩ := h2
  have sW : w.heap.size ≤ W.heap.size := fW.size
  have sW' : w.heap.size < W.heap.size := lt_of_some top
  have hn : n ≤ w.heap.size := by have := hF _ hd.fb; omega
  have hF0 : ∀ c, F c → n ≤ c ∧ c < W.heap.size := fun c h => ⟨(hF c h).1, by have := (hF c h).2; omega⟩
  have hG0 : ∀ c, G c → n ≤ c ∧ c < W.heap.size := fun c h => ⟨(hG c h).1, by have := (hG c h).2; omega⟩
  have hd0 := hd.tt fW
  have hr0 := hr.tt fW
  have hb0 := hb.tt fW
  have hp0 : IntsAt (fun c _ => c < n) W (.slice pa zs.length pc) zs := hp.fr fW fun _ _ _ => trivial
  have ht0 := ht.tt fW
  have gW : Fr (fun c _ => c < n) w W := fW.mono fun _ _ _ => trivial
  have k0 := cell_mk (i := 0) top rfl
  have k1 := cell_mk (i := 1) top rfl
  have k2 := cell_mk (i := 2) top rfl
  have k3 := cell_mk (i := 3) top rfl
  have k4 := cell_mk (i := 4) top rfl
  have k5 := cell_mk (i := 5) top rfl
  have DC := Lib.hid (write_calls W bd F D i vb b hd0 hb0 (fun c _ _ h1 h2 => by have := (hF0 c h2).1; omega) hq)
  have STEP1 : Hid (∀ w1 D1, Dsk w1 bd (fun c => F c ∨ W.heap.size ≤ c) D1 → Fr (fun c _ => ¬ F c) W w1 → Two n w1 bd br D1 D ∧ Fr (fun c _ => c < n) W w1 ∧ w1.heap[w.heap.size]? = some (.cells #[.int .i64 4, .int .i64 i, vb, .slice pa zs.length pc, .int .u32 (s : Nat), .int .u32 (p : Nat)] 55 (0, 0))) := fun w1 D1 d1 f1 => by
    obtain ⟨t1, g1⟩ := two_d hd0 hr0 hF0 hG0 hFG d1 f1
    exact ⟨t1, g1, f1.keep _ _ top fun h => by have := (hF _ h).2; omega⟩
  have HF0 := Lib.hid hF0
  have HD0 := Lib.hid hd0
  have HB0 := Lib.hid hb0
  have HP0 := Lib.hid hp0
  have HT0 := Lib.hid ht0
  have GW := Lib.hid gW
  clear hF0 hG0 hd0 hr0 hb0 hp0 ht0 gW top hd hr hF hG hFG hb hp ht fW
  go_enter Tryd.func28, Tryd.ntmps28
  go_wp2_with fail
  clear hW
  (with_reducible refine DC.out.mono ?_)
  rintro e w1 ⟨rfl, d1, f1⟩
  obtain ⟨t1, g1, top1⟩ := STEP1.out _ _ d1 f1
  obtain ⟨F1, G1, hd1, hr1, hF1, hG1, hFG1⟩ := t1
  have hb1 := HB0.out.fr g1
  have hp1 : IntsAt (fun c _ => c < n) w1 (.slice pa zs.length pc) zs := HP0.out.fr g1 fun _ _ h => h
  have ht1 : TabOK w1 := fun j hj => g1.cell (fun _ _ => h0) (HT0.out j hj)
  have STEP2 : Hid (∀ w2 E1, Rdk w2 br (fun c => G1 c ∨ w1.heap.size ≤ c) E1 → Fr (fun c _ => c ≠ br) w1 w2 → Two n w2 bd br _ E1 ∧ Fr (fun c _ => c < n) w1 w2) := fun w2 E1 r1 f1 => two_r hd1 hr1 hF1 hG1 hFG1 r1 f1
  have RC := Lib.hid (r_write w1 br G1 D i vb b hr1 hb1 (fun c _ _ h1 h2 => by have := (hG1 _ hr1.gb).1; omega) hq)
  have G1' := Lib.hid g1
  have k10 := cell_mk (i := 0) top1 rfl
  have k11 := cell_mk (i := 1) top1 rfl
  have k12 := cell_mk (i := 2) top1 rfl
  have k13 := cell_mk (i := 3) top1 rfl
  clear d1 f1 g1 top1 hd1 hr1 hF1 hG1 hFG1 hb1 hp1 ht1 k0 k1 k2 k3 k4 k5 DC STEP1
  go_wp2_with fail
  (with_reducible refine RC.out.mono ?_)
  rintro e w2 ⟨rfl, r2, f2⟩
  obtain ⟨t2, g2⟩ := STEP2.out _ _ r2 f2
  have T2 := Lib.hid t2
  have G2 := Lib.hid g2
  clear r2 f2 t2 g2 k10 k11 k12 k13
  go_wp2
  go_ret
  exact ⟨rfl, T2.out, (GW.out.trans G1'.out).trans G2.out⟩

set_option maxRecDepth 100000 in
set_option maxHeartbeats 1000000 in
theorem one_6 (n : Nat) (w : World) (bd br : Nat) (D : Dk) (i : Int) (vb vp : Value) (b : List UInt8) (zs : List Int) (s p : Nat) (h2 : Two n w bd br D D) (ho : (⟨6, i, vb, vp, b, zs, s, p⟩ : OpV).Lies n w) (ht : TabOK w) (h0 : 0 < n) (hq : D.pend.length < 1000000) : OneSays n w bd br D ⟨6, i, vb, vp, b, zs, s, p⟩ := by
  unfold OneSays
  rw [show opM D ⟨6, i, vb, vp, b, zs, s, p⟩ = D.sync from rfl]
  obtain ⟨hb, hp, hs, hpp, lo, hi⟩ := ho
  replace hb : BytesAt (fun c _ => c < n) w vb b := hb
  replace hp : IntsAt (fun c _ => c < n) w vp zs := hp
  replace lo : -9223372036854775808 ≤ i := lo
  replace hi : i ≤ 9223372036854775807 := hi
  replace hs : s < 4294967296 := hs
  replace hpp : p < 4294967296 := hpp
  obtain ⟨pa, pc, rfl⟩ := hp.form
  have hW : ∃ W, w.alloc (.cells #[.int .i64 6, .int .i64 i, vb, .slice pa zs.length pc, .int .u32 (s : Nat), .int .u32 (p : Nat)] 55) = W := ⟨_, rfl⟩
  obtain ⟨W, hW⟩ := hW
  have fW : Fr (fun _ _ => True) w W := by rw [← hW]; exact (Fr.refl _ _).alloc _
  have top : W.heap[w.heap.size]? = some (.cells #[.int .i64 6, .int .i64 i, vb, .slice pa zs.length pc, .int .u32 (s : Nat), .int .u32 (p : Nat)] 55 (0, 0)) := by rw [← hW]; exact heap_alloc_new _ _
  obtain ⟨F, G, hd, hr, hF, hG, hFG⟩ := h2
  have sW : w.heap.size ≤ W.heap.size := fW.size
  have sW' : w.heap.size < W.heap.size := lt_of_some top
  have hn : n ≤ w.heap.size := by have := hF _ hd.fb; omega
  have hF0 : ∀ c, F c → n ≤ c ∧ c < W.heap.size := fun c h => ⟨(hF c h).1, by have := (hF c h).2; omega⟩
  have hG0 : ∀ c, G c → n ≤ c ∧ c < W.heap.size := fun c h => ⟨(hG c h).1, by have := (hG c h).2; omega⟩
  have hd0 := hd.tt fW
  have hr0 := hr.tt fW
  have hb0 := hb.tt fW
  have hp0 : IntsAt (fun c _ => c < n) W (.slice pa zs.length pc) zs := hp.fr fW fun _ _ _ => trivial
  have ht0 := ht.tt fW
  have gW : Fr (fun c _ => c < n) w W := fW.mono fun _ _ _ => trivial
  have k0 := cell_mk (i := 0) top rfl
  have k1 := cell_mk (i := 1) top rfl
  have k2 := cell_mk (i := 2) top rfl
  have k3 := cell_mk (i := 3) top rfl
  have k4 := cell_mk (i := 4) top rfl
  have k5 := cell_mk (i := 5) top rfl
  have DC := Lib.hid (sync_calls W bd F D hd0)
  have STEP1 : Hid (∀ w1 D1, Dsk w1 bd (fun c => F c ∨ W.heap.size ≤ c) D1 → Fr (fun c _ => ¬ F c) W w1 → Two n w1 bd br D1 D ∧ Fr (fun c _ => c < n) W w1 ∧ w1.heap[w.heap.size]? = some (.cells #[.int .i64 6, .int .i64 i, vb, .slice pa zs.length pc, .int .u32 (s : Nat), .int .u32 (p : Nat)] 55 (0, 0))) := fun w1 D1 d1 f1 => by
    obtain ⟨t1, g1⟩ := two_d hd0 hr0 hF0 hG0 hFG d1 f1
    exact ⟨t1, g1, f1.keep _ _ top fun h => by have := (hF _ h).2; omega⟩
  have HF0 := Lib.hid hF0
  have HD0 := Lib.hid hd0
  have HB0 := Lib.hid hb0
  have HP0 := Lib.hid hp0
  have HT0 := Lib.hid ht0
  have GW := Lib.hid gW
  clear hF0 hG0 hd0 hr0 hb0 hp0 ht0 gW top hd hr hF hG hFG hb hp ht fW
  go_enter Tryd.func28, Tryd.ntmps28
  go_wp2_with fail
  clear hW
  (with_reducible refine DC.out.mono ?_)
  rintro e w1 ⟨rfl, d1, f1⟩
  obtain ⟨t1, g1, top1⟩ := STEP1.out _ _ d1 f1
  obtain ⟨F1, G1, hd1, hr1, hF1, hG1, hFG1⟩ := t1
  have hb1 := HB0.out.fr g1
  have hp1 : IntsAt (fun c _ => c < n) w1 (.slice pa zs.length pc) zs := HP0.out.fr g1 fun _ _ h => h
  have ht1 : TabOK w1 := fun j hj => g1.cell (fun _ _ => h0) (HT0.out j hj)
  have STEP2 : Hid (∀ w2 E1, Rdk w2 br (fun c => G1 c ∨ w1.heap.size ≤ c) E1 → Fr (fun c _ => c ≠ br) w1 w2 → Two n w2 bd br _ E1 ∧ Fr (fun c _ => c < n) w1 w2) := fun w2 E1 r1 f1 => two_r hd1 hr1 hF1 hG1 hFG1 r1 f1
  have RC := Lib.hid (r_sync w1 br G1 D hr1)
  have G1' := Lib.hid g1
  have k10 := cell_mk (i := 0) top1 rfl
  have k11 := cell_mk (i := 1) top1 rfl
  have k12 := cell_mk (i := 2) top1 rfl
  have k13 := cell_mk (i := 3) top1 rfl
  clear d1 f1 g1 top1 hd1 hr1 hF1 hG1 hFG1 hb1 hp1 ht1 k0 k1 k2 k3 k4 k5 DC STEP1
  go_wp2_with fail
  (with_reducible refine RC.out.mono ?_)
  rintro e w2 ⟨rfl, r2, f2⟩
  obtain ⟨t2, g2⟩ := STEP2.out _ _ r2 f2
  have T2 := Lib.hid t2
  have G2 := Lib.hid g2
  clear r2 f2 t2 g2 k10 k11 k12 k13
  go_wp2
  go_ret
  exact ⟨rfl, T2.out, (GW.out.trans G1'.out).trans G2.out⟩

set_option maxRecDepth 100000 in
set_option maxHeartbeats 1000000 in
theorem one_7 (n : Nat) (w : World) (bd br : Nat) (D : Dk) (i : Int) (vb vp : Value) (b : List UInt8) (zs : List Int) (s p : Nat) (h2 : Two n w bd br D D) (ho : (⟨7, i, vb, vp, b, zs, s, p⟩ : OpV).Lies n w) (ht : TabOK w) (h0 : 0 < n) (hq : D.pend.length < 1000000) : OneSays n w bd br D ⟨7, i, vb, vp, b, zs, s, p⟩ := by
  unfold OneSays
  rw [show opM D ⟨7, i, vb, vp, b, zs, s, p⟩ = { D with fuse := i } from rfl]
  obtain ⟨hb, hp, hs, hpp, lo, hi⟩ := ho
  replace hb : BytesAt (fun c _ => c < n) w vb b := hb
  replace hp : IntsAt (fun c _ => c < n) w vp zs := hp
  replace lo : -9223372036854775808 ≤ i := lo
  replace hi : i ≤ 9223372036854775807 := hi
  replace hs : s < 4294967296 := hs
  replace hpp : p < 4294967296 := hpp
  obtain ⟨pa, pc, rfl⟩ := hp.form
  have hW : ∃ W, w.alloc (.cells #[.int .i64 7, .int .i64 i, vb, .slice pa zs.length pc, .int .u32 (s : Nat), .int .u32 (p : Nat)] 55) = W := ⟨_, rfl⟩
  obtain ⟨W, hW⟩ := hW
  have fW : Fr (fun _ _ => True) w W := by rw [← hW]; exact (Fr.refl _ _).alloc _
  have top : W.heap[w.heap.size]? = some (.cells #[.int .i64 7, .int .i64 i, vb, .slice pa zs.length pc, .int .u32 (s : Nat), .int .u32 (p : Nat)] 55 (0, 0)) := by rw [← hW]; exact heap_alloc_new _ _
  obtain ⟨F, G, hd, hr, hF, hG, hFG⟩ := h2
  have sW : w.heap.size ≤ W.heap.size := fW.size
  have sW' : w.heap.size < W.heap.size := lt_of_some top
  have hn : n ≤ w.heap.size := by have := hF _ hd.fb; omega
  have hF0 : ∀ c, F c → n ≤ c ∧ c < W.heap.size := fun c h => ⟨(hF c h).1, by have := (hF c h).2; omega⟩
  have hG0 : ∀ c, G c → n ≤ c ∧ c < W.heap.size := fun c h => ⟨(hG c h).1, by have := (hG c h).2; omega⟩
  have hd0 := hd.tt fW
  have hr0 := hr.tt fW
  have hb0 := hb.tt fW
  have hp0 : IntsAt (fun c _ => c < n) W (.slice pa zs.length pc) zs := hp.fr fW fun _ _ _ => trivial
  have ht0 := ht.tt fW
  have gW : Fr (fun c _ => c < n) w W := fW.mono fun _ _ _ => trivial
  have k0 := cell_mk (i := 0) top rfl
  have k1 := cell_mk (i := 1) top rfl
  have k2 := cell_mk (i := 2) top rfl
  have k3 := cell_mk (i := 3) top rfl
  have k4 := cell_mk (i := 4) top rfl
  have k5 := cell_mk (i := 5) top rfl
  have DC := Lib.hid (fuse_calls W bd F D i hd0 lo hi)
  have STEP1 : Hid (∀ w1 D1, Dsk w1 bd (fun c => F c ∨ W.heap.size ≤ c) D1 → Fr (fun c _ => ¬ F c) W w1 → Two n w1 bd br D1 D ∧ Fr (fun c _ => c < n) W w1 ∧ w1.heap[w.heap.size]? = some (.cells #[.int .i64 7, .int .i64 i, vb, .slice pa zs.length pc, .int .u32 (s : Nat), .int .u32 (p : Nat)] 55 (0, 0))) := fun w1 D1 d1 f1 => by
    obtain ⟨t1, g1⟩ := two_d hd0 hr0 hF0 hG0 hFG d1 f1
    exact ⟨t1, g1, f1.keep _ _ top fun h => by have := (hF _ h).2; omega⟩
  have HF0 := Lib.hid hF0
  have HD0 := Lib.hid hd0
  have HB0 := Lib.hid hb0
  have HP0 := Lib.hid hp0
  have HT0 := Lib.hid ht0
  have GW := Lib.hid gW
  clear hF0 hG0 hd0 hr0 hb0 hp0 ht0 gW top hd hr hF hG hFG hb hp ht fW
  go_enter Tryd.func28, Tryd.ntmps28
  go_wp2_with fail
  clear hW
  (with_reducible refine DC.out.mono ?_)
  rintro e w1 ⟨rfl, d1, f1⟩
  obtain ⟨t1, g1, top1⟩ := STEP1.out _ _ (d1.wide _) (dsk_ne (D' := D) HD0.out f1)
  obtain ⟨F1, G1, hd1, hr1, hF1, hG1, hFG1⟩ := t1
  have hb1 := HB0.out.fr g1
  have hp1 : IntsAt (fun c _ => c < n) w1 (.slice pa zs.length pc) zs := HP0.out.fr g1 fun _ _ h => h
  have ht1 : TabOK w1 := fun j hj => g1.cell (fun _ _ => h0) (HT0.out j hj)
  have STEP2 : Hid (∀ w2 E1, Rdk w2 br (fun c => G1 c ∨ w1.heap.size ≤ c) E1 → Fr (fun c _ => c ≠ br) w1 w2 → Two n w2 bd br _ E1 ∧ Fr (fun c _ => c < n) w1 w2) := fun w2 E1 r1 f1 => two_r hd1 hr1 hF1 hG1 hFG1 r1 f1
  have RC := Lib.hid (r_fuse w1 br G1 D i hr1 lo hi)
  have G1' := Lib.hid g1
  have k10 := cell_mk (i := 0) top1 rfl
  have k11 := cell_mk (i := 1) top1 rfl
  have k12 := cell_mk (i := 2) top1 rfl
  have k13 := cell_mk (i := 3) top1 rfl
  clear d1 f1 g1 top1 hd1 hr1 hF1 hG1 hFG1 hb1 hp1 ht1 k0 k1 k2 k3 k4 k5 DC STEP1
  go_wp2_with fail
  (with_reducible refine RC.out.mono ?_)
  rintro e w2 ⟨rfl, r2, f2⟩
  obtain ⟨t2, g2⟩ := STEP2.out _ _ (r2.wide _) f2
  have T2 := Lib.hid t2
  have G2 := Lib.hid g2
  clear r2 f2 t2 g2 k10 k11 k12 k13
  go_wp2
  go_ret
  exact ⟨rfl, T2.out, (GW.out.trans G1'.out).trans G2.out⟩
end Go.Proofs.YtaeonlafcbgpcaaDoor
/- Law 5: one call, to both disks: the stamp, and what does nothing; whole. -/
namespace Go.Proofs.YtaeonlafcbgpcaaDoor
open Go.RowKit
set_option linter.unusedVariables false

theorem stampS_calls {K : Nat → Obj → Prop} (w : World) (s p : Nat) (v : Value) (b : List UInt8) (hb : BytesAt K w v b) (hs : s < 4294967296) (hp : p < 4294967296) :
    Calls Tryd.prog 14 #[.int .u32 (s : Nat), .int .u32 (p : Nat), v] w fun e w' =>
      (∃ a c z, e = .returned (.tuple #[.slice a (stampS s p b).length c, .int .i64 z]) ∧ BytesAt (New w.heap.size) w' (.slice a (stampS s p b).length c) (stampS s p b)) ∧ Fr (fun _ _ => True) w w' := by
  refine (stamp05_calls w s p _ _ rfl rfl v b hb hs hp).mono fun e w' ⟨h, hf⟩ => ⟨?_, hf⟩
  rcases h with ⟨hl, he⟩ | ⟨hl, a, c, he, hb⟩
  · have e1 : stampS s p b = [] := by unfold stampS; rw [if_pos hl]
    rw [e1]
    exact ⟨none, 0, 2, he, BytesAt.nil _ _⟩
  · have e1 : stampS s p b = stampB s p b := by unfold stampS; rw [if_neg (by omega)]
    rw [e1, stampB_length s p b hl]
    exact ⟨a, c, 0, he, hb⟩

set_option maxRecDepth 100000 in
set_option maxHeartbeats 1000000 in
theorem one_5 (n : Nat) (w : World) (bd br : Nat) (D : Dk) (i : Int) (vb vp : Value) (b : List UInt8) (zs : List Int) (s p : Nat) (h2 : Two n w bd br D D) (ho : (⟨5, i, vb, vp, b, zs, s, p⟩ : OpV).Lies n w) (ht : TabOK w) (h0 : 0 < n) (hq : D.pend.length < 1000000) : OneSays n w bd br D ⟨5, i, vb, vp, b, zs, s, p⟩ := by
  unfold OneSays
  rw [show opM D ⟨5, i, vb, vp, b, zs, s, p⟩ = (D.write i (stampS s p b)).2 from rfl]
  obtain ⟨hb, hp, hs, hpp, lo, hi⟩ := ho
  replace hb : BytesAt (fun c _ => c < n) w vb b := hb
  replace hp : IntsAt (fun c _ => c < n) w vp zs := hp
  replace hs : s < 4294967296 := hs
  replace hpp : p < 4294967296 := hpp
  obtain ⟨pa, pc, rfl⟩ := hp.form
  have hW : ∃ W, w.alloc (.cells #[.int .i64 5, .int .i64 i, vb, .slice pa zs.length pc, .int .u32 (s : Nat), .int .u32 (p : Nat)] 55) = W := ⟨_, rfl⟩
  obtain ⟨W, hW⟩ := hW
  have fW : Fr (fun _ _ => True) w W := by rw [← hW]; exact (Fr.refl _ _).alloc _
  have top : W.heap[w.heap.size]? = some (.cells #[.int .i64 5, .int .i64 i, vb, .slice pa zs.length pc, .int .u32 (s : Nat), .int .u32 (p : Nat)] 55 (0, 0)) := by rw [← hW]; exact heap_alloc_new _ _
  have k0 := cell_mk (i := 0) top rfl
  have k2 := cell_mk (i := 2) top rfl
  have k4 := cell_mk (i := 4) top rfl
  have k5 := cell_mk (i := 5) top rfl
  have sc := stampS_calls W s p vb b (hb.tt fW) hs hpp
  generalize stampS s p b = x at sc ⊢
  have SC := Lib.hid sc
  clear sc
  have H2 := Lib.hid h2
  have FW := Lib.hid fW
  have TOP := Lib.hid top
  have sW' : w.heap.size < W.heap.size := lt_of_some top
  have hn : n ≤ w.heap.size := by obtain ⟨F, G, hd, _, hF, _⟩ := h2; have := hF _ hd.fb; omega
  clear h2 fW top hb hp ht
  go_enter Tryd.func28, Tryd.ntmps28
  go_wp2_with fail
  clear hW
  (with_reducible refine SC.out.mono ?_)
  rintro e w1 ⟨⟨a1, c1, z1, rfl, b1⟩, f1⟩
  obtain ⟨F, G, hd, hr, hF, hG, hFG⟩ := H2.out
  have fw1 := FW.out.tt f1
  have s1 : W.heap.size ≤ w1.heap.size := f1.size
  have hd0 := hd.tt fw1
  have hr0 := hr.tt fw1
  have hF0 : ∀ c, F c → n ≤ c ∧ c < w1.heap.size := fun c h => ⟨(hF c h).1, by have := (hF c h).2; omega⟩
  have hG0 : ∀ c, G c → n ≤ c ∧ c < w1.heap.size := fun c h => ⟨(hG c h).1, by have := (hG c h).2; omega⟩
  have top1 := f1.keep _ _ TOP.out trivial
  have DC := Lib.hid (write_calls w1 bd F D i _ _ hd0 b1 (fun c _ _ h1 h2 => by have := (hF c h2).2; have := h1.1; omega) hq)
  have STEP1 : Hid (∀ w2 D1, Dsk w2 bd (fun c => F c ∨ w1.heap.size ≤ c) D1 → Fr (fun c _ => ¬ F c) w1 w2 → Two n w2 bd br D1 D ∧ Fr (fun c _ => c < n) w1 w2 ∧ w2.heap[w.heap.size]? = some (.cells #[.int .i64 5, .int .i64 i, vb, .slice pa zs.length pc, .int .u32 (s : Nat), .int .u32 (p : Nat)] 55 (0, 0)) ∧ BytesAt (New W.heap.size) w2 (.slice a1 x.length c1) x) := fun w2 D1 d2 f2 => by
    obtain ⟨t1, g1⟩ := two_d hd0 hr0 hF0 hG0 hFG d2 f2
    exact ⟨t1, g1, f2.keep _ _ top1 fun h => by have := (hF _ h).2; omega, b1.fr (f2.mono fun c o h h3 => by have := (hF c h3).2; have := h.1; omega)⟩
  have GW : Hid (Fr (fun c _ => c < n) w w1) := fw1.mono fun _ _ _ => trivial
  have q1 := cell_mk (i := 1) top1 rfl
  have hbw : br < w.heap.size := (hG _ hr.gb).2
  clear hd hr hF hG hFG fw1 hd0 hr0 hF0 hG0 top1 f1 b1 k0 k2 k4 k5 SC
  go_wp2_with fail
  (with_reducible refine DC.out.mono ?_)
  rintro e w2 ⟨rfl, d2, f2⟩
  obtain ⟨t2, g2, top2, b2⟩ := STEP1.out _ _ d2 f2
  obtain ⟨F1, G1, hd1, hr1, hF1, hG1, hFG1⟩ := t2
  have STEP2 : Hid (∀ w3 E1, Rdk w3 br (fun c => G1 c ∨ w2.heap.size ≤ c) E1 → Fr (fun c _ => c ≠ br) w2 w3 → Two n w3 bd br _ E1 ∧ Fr (fun c _ => c < n) w2 w3) := fun w3 E1 r1 f1 => two_r hd1 hr1 hF1 hG1 hFG1 r1 f1
  have RC := Lib.hid (r_write w2 br G1 D i _ _ hr1 b2 (fun c _ _ h1 h2 => by have := h1.1; omega) hq)
  have G2 := Lib.hid g2
  have q2 := cell_mk (i := 1) top2 rfl
  clear d2 f2 g2 top2 hd1 hr1 hF1 hG1 hFG1 b2 q1 DC STEP1
  go_wp2_with fail
  (with_reducible refine RC.out.mono ?_)
  rintro e w3 ⟨rfl, r3, f3⟩
  obtain ⟨t3, g3⟩ := STEP2.out _ _ r3 f3
  have T3 := Lib.hid t3
  have G3 := Lib.hid g3
  clear r3 f3 t3 g3 q2
  go_wp2
  go_ret
  exact ⟨rfl, T3.out, (GW.out.trans G2.out).trans G3.out⟩

set_option maxRecDepth 100000 in
theorem one_else (n : Nat) (w : World) (bd br : Nat) (D : Dk) (q i : Int) (vb vp : Value) (b : List UInt8) (zs : List Int) (s p : Nat) (h2 : Two n w bd br D D) (q1 : q ≠ 1) (q2 : q ≠ 2) (q3 : q ≠ 3) (q4 : q ≠ 4) (q5 : q ≠ 5) (q6 : q ≠ 6) (q7 : q ≠ 7) : OneSays n w bd br D ⟨q, i, vb, vp, b, zs, s, p⟩ := by
  unfold OneSays
  have e : opM D ⟨q, i, vb, vp, b, zs, s, p⟩ = D := by
    unfold opM
    rw [if_neg q1, if_neg q2, if_neg q3, if_neg q4, if_neg q5, if_neg q6, if_neg q7]
  rw [e]
  clear e
  have H2 := Lib.hid h2
  have d1 : (q == 1) = false := by simp [q1]
  have d2 : (q == 2) = false := by simp [q2]
  have d3 : (q == 3) = false := by simp [q3]
  have d4 : (q == 4) = false := by simp [q4]
  have d5 : (q == 5) = false := by simp [q5]
  have d6 : (q == 6) = false := by simp [q6]
  have d7 : (q == 7) = false := by simp [q7]
  clear q1 q2 q3 q4 q5 q6 q7 h2
  show Calls Tryd.prog 28 #[.pointer (some ⟨bd, 0, none⟩), .pointer (some ⟨br, 0, none⟩), .agg #[.int .i64 q, .int .i64 i, vb, vp, .int .u32 (s : Nat), .int .u32 (p : Nat)]] w _
  go_enter Tryd.func28, Tryd.ntmps28
  go_wp2
  go_ret
  exact ⟨rfl, H2.out.tt ((Fr.refl _ _).alloc _), (Fr.refl _ _).alloc _⟩

/-- One call, whatever it is. -/
theorem one_calls (n : Nat) (w : World) (bd br : Nat) (D : Dk) (o : OpV) (h2 : Two n w bd br D D) (ho : o.Lies n w) (ht : TabOK w) (h0 : 0 < n) (hq : D.pend.length < 1000000) : OneSays n w bd br D o := by
  obtain ⟨q, i, vb, vp, b, zs, s, p⟩ := o
  by_cases q1 : q = 1
  · subst q1; exact one_1 n w bd br D i vb vp b zs s p h2 ho ht h0 hq
  by_cases q2 : q = 2
  · subst q2; exact one_2 n w bd br D i vb vp b zs s p h2 ho ht h0 hq
  by_cases q3 : q = 3
  · subst q3; exact one_3 n w bd br D i vb vp b zs s p h2 ho ht h0 hq
  by_cases q4 : q = 4
  · subst q4; exact one_4 n w bd br D i vb vp b zs s p h2 ho ht h0 hq
  by_cases q5 : q = 5
  · subst q5; exact one_5 n w bd br D i vb vp b zs s p h2 ho ht h0 hq
  by_cases q6 : q = 6
  · subst q6; exact one_6 n w bd br D i vb vp b zs s p h2 ho ht h0 hq
  by_cases q7 : q = 7
  · subst q7; exact one_7 n w bd br D i vb vp b zs s p h2 ho ht h0 hq
  exact one_else n w bd br D q i vb vp b zs s p h2 q1 q2 q3 q4 q5 q6 q7
end Go.Proofs.YtaeonlafcbgpcaaDoor
/- Law 5: made, clean. -/
namespace Go.Proofs.YtaeonlafcbgpcaaDoor
open Go.RowKit
set_option linter.unusedVariables false

/-- The disk behind calls. -/
def madeD (l : List OpV) : Dk := l.foldl opM (Dk.new 8)
theorem madeD_snoc (l : List OpV) (j : Nat) (h : j < l.length) : madeD (l.take (j + 1)) = opM (madeD (l.take j)) l[j] := by
  unfold madeD
  rw [List.take_succ_eq_append_getElem h, List.foldl_append]
  rfl
theorem madeD_pend (l : List OpV) : ∀ j, j ≤ l.length → (madeD (l.take j)).pend.length ≤ j
  | 0, _ => by simp [madeD, Dk.new]
  | j + 1, h => by
    rw [madeD_snoc l j h]
    exact Nat.le_trans (pend_op _ _) (Nat.succ_le_succ (madeD_pend l j (by omega)))

set_option maxRecDepth 100000 in
theorem made_long (w : World) (a : Option Addr) (len cap : Nat) (hl : 30 < len) :
    Calls Tryd.prog 18 #[.slice a len cap] w fun e w' => e = .returned (.pointer none) ∧ Fr (fun _ _ => True) w w' := by
  have hI : (30 : Int) < len := by omega
  go_enter Tryd.func18, Tryd.ntmps18
  go_wp2_with fail
  (with_reducible refine (new_calls _ 8 _ (by decide) (by decide) (by decide)).mono ?_)
  rintro e w1 ⟨⟨bd, rfl, d1⟩, f1⟩
  have F1 := Lib.hid f1
  clear d1 f1
  go_wp2_with fail
  (with_reducible refine (r_new _ 8 _ (by decide) (by decide) (by decide)).mono ?_)
  rintro e w2 ⟨⟨br, rfl, r2⟩, f2⟩
  have F2 := Lib.hid (F1.out.trans f2)
  clear r2 f2
  go_wp2
  go_ret
  exact ⟨rfl, F2.out⟩

set_option maxRecDepth 100000 in
set_option maxHeartbeats 1000000 in
theorem made_some (w : World) (a : Option Addr) (len cap : Nat) (l : List OpV) (ho : OpsAt w.heap.size w (.slice a len cap) l) (ht : TabOK w) (hl : len ≤ 30) :
    Calls Tryd.prog 18 #[.slice a len cap] w fun e w' => (∃ bd, e = .returned (.pointer (some ⟨bd, 0, none⟩)) ∧ Dsk w' bd (fun c => w.heap.size ≤ c) (madeD l)) ∧ Fr (fun _ _ => True) w w' := by
  have h0 : 0 < w.heap.size := by have := cell_lt (ht 0 (by decide)); simpa using this
  have HT := Lib.hid ht
  have HO := Lib.hid ho
  have hln : len = l.length := by obtain ⟨_, _, e, _⟩ := ho; cases e; rfl
  have HLN := Lib.hid hln
  have hI : (len : Int) ≤ 30 := by omega
  clear ht ho hln
  go_enter Tryd.func18, Tryd.ntmps18
  go_wp2_with fail
  (with_reducible refine (new_calls _ 8 _ (by decide) (by decide) (by decide)).mono ?_)
  rintro e w1 ⟨⟨bd, rfl, d1⟩, f1⟩
  have D1 := Lib.hid d1.inside
  have F1 := Lib.hid f1
  clear d1 f1
  go_wp2_with fail
  (with_reducible refine (r_new _ 8 _ (by decide) (by decide) (by decide)).mono ?_)
  rintro e w2 ⟨⟨br, rfl, r2⟩, f2⟩
  have F2 : Hid (Fr (fun c _ => c < w.heap.size) w w2) := (F1.out.trans f2).mono fun _ _ _ => trivial
  have T2 : Hid (Two w.heap.size w2 bd br (Dk.new 8) (Dk.new 8)) := by
    have s1 := F1.out.size
    have s2 := f2.size
    exact ⟨_, _, D1.out.tt f2, r2.inside, fun c h => ⟨h.1, by have := h.2; omega⟩, fun c h => ⟨by have := h.1; omega, h.2⟩, fun c h1 h2 => by have := h1.2; have := h2.1; omega⟩
  clear D1 F1 r2 f2
  go_wp2
  go_loopw [7] (fun i wr => ∃ j : Nat, j ≤ len ∧ i = .int .i64 j ∧ Hid (Two w.heap.size wr bd br (madeD (l.take j)) (madeD (l.take j))) ∧ Hid (Fr (fun c _ => c < w.heap.size) w wr)) (fun i _ => len - (intOf i).toNat)
  case atStart => exact ⟨0, Nat.zero_le _, rfl, T2, F2⟩
  case round =>
    obtain ⟨j, hj, rfl, TJ, FJ⟩ := hrel
    by_cases hlt : j < len
    · have hlt' : j < l.length := by have := HLN.out; omega
      obtain ⟨b, off, rfl, hop⟩ : ∃ b off, a = some ⟨b, off, none⟩ ∧ OpAt w.heap.size w b off j l[j] := by
        obtain ⟨_, _, e, h⟩ := HO.out
        cases e
        rcases h with h | ⟨b, off, ha, h⟩
        · rw [h] at hlt'; simp at hlt'
        · exact ⟨b, off, ha, h j hlt'⟩
      obtain ⟨o, hoj⟩ : ∃ o, l[j] = o := ⟨_, rfl⟩
      have hm := madeD_snoc l j hlt'
      rw [hoj] at hop hm
      obtain ⟨e0, e1, e2, e3, e4, e5, hb, hlies⟩ := hop.fr FJ.out
      have hltI : (j : Int) < len := by omega
      have OC := Lib.hid (one_calls _ wr bd br (madeD (l.take j)) o TJ.out hlies (fun i hi => FJ.out.cell (fun _ _ => h0) (HT.out i hi)) h0 (by have := madeD_pend l j (by omega); omega))
      have HM := Lib.hid hm
      unfold OneSays at OC
      clear hop hoj hm hlies hlt'
      go_wp2_with fail
      (with_reducible refine OC.out.mono ?_)
      rintro e w3 ⟨rfl, t3, f3⟩
      have T3 := Lib.hid t3
      have F3 := Lib.hid (FJ.out.trans f3)
      clear t3 f3 e0 e1 e2 e3 e4 e5
      go_wp2
      go_roundw
      case rel => exact ⟨j + 1, by omega, by go_num, by rw [HM.out]; exact T3, F3⟩
      case measure => simp [intOf]; omega
    · have hge : (len : Int) ≤ j := by omega
      have hfull : Hid (madeD (l.take j) = madeD l) := by
        have := HLN.out
        rw [List.take_of_length_le (by omega)]; rfl
      go_wp2
      go_ret
      obtain ⟨F, G, hd, _, hF, _⟩ := TJ.out
      rw [hfull.out] at hd
      exact ⟨⟨bd, rfl, hd.mono fun c h => (hF c h).1⟩, Fr.within (FJ.out.mono fun _ _ h => h.2)⟩

/-- A call that is not clean. -/
def badO (o : OpV) : Bool := o.q == 4 || (o.q == 5 || (o.q != 7 && o.at'.tmod 2 != 0))
def cleanL (l : List OpV) : Bool := l.all fun o => !badO o
theorem cleanL_bad {l : List OpV} {j : Nat} (h : j < l.length) (hb : badO l[j] = true) : cleanL l = false := by
  unfold cleanL
  rw [List.all_eq_false]
  exact ⟨l[j], List.getElem_mem h, by rw [hb]; decide⟩
theorem cleanL_all {l : List OpV} (h : ∀ j, (hj : j < l.length) → badO l[j] = false) : cleanL l = true := by
  unfold cleanL
  rw [List.all_eq_true]
  intro x hx
  obtain ⟨j, hj, rfl⟩ := List.mem_iff_getElem.1 hx
  rw [h j hj]; rfl

set_option maxRecDepth 100000 in
set_option maxHeartbeats 1000000 in
theorem clean_calls (n : Nat) (w : World) (a : Option Addr) (len cap : Nat) (l : List OpV) (ho : OpsAt n w (.slice a len cap) l) (hl : len ≤ 9223372036854775807) :
    Calls Tryd.prog 19 #[.slice a len cap] w fun e w' => e = .returned (.bool (cleanL l)) ∧ w = w' := by
  have HO := Lib.hid ho
  have hln : len = l.length := by obtain ⟨_, _, e, _⟩ := ho; cases e; rfl
  have HLN := Lib.hid hln
  clear ho hln
  go_enter Tryd.func19, Tryd.ntmps19
  go_wp2
  go_loop [3] (fun i => ∃ j : Nat, j ≤ len ∧ i = .int .i64 j ∧ Hid (∀ q, q < j → (hq : q < l.length) → badO l[q] = false)) (fun i => len - (intOf i).toNat)
  case atStart => exact ⟨0, Nat.zero_le _, rfl, fun q hq => by omega⟩
  case round =>
    obtain ⟨j, hj, rfl, HJ⟩ := hrel
    by_cases hlt : j < len
    · have hlt' : j < l.length := by have := HLN.out; omega
      obtain ⟨b, off, rfl, hop⟩ : ∃ b off, a = some ⟨b, off, none⟩ ∧ OpAt n w b off j l[j] := by
        obtain ⟨_, _, e, h⟩ := HO.out
        cases e
        rcases h with h | ⟨b, off, ha, h⟩
        · rw [h] at hlt'; simp at hlt'
        · exact ⟨b, off, ha, h j hlt'⟩
      obtain ⟨o, hoj⟩ : ∃ o, l[j] = o := ⟨_, rfl⟩
      rw [hoj] at hop
      obtain ⟨e0, e1, e2, e3, e4, e5, hb, hlies⟩ := hop
      have BAD : Hid (badO o = true → cleanL l = false) := fun h => cleanL_bad hlt' (by rw [hoj]; exact h)
      have GOOD : Hid (badO o = false → ∀ q, q < j + 1 → (hq : q < l.length) → badO l[q] = false) := fun h q hq hq2 => by
        by_cases e : q = j
        · subst e; rw [hoj]; exact h
        · exact HJ.out q (by omega) hq2
      have hltI : (j : Int) < len := by omega
      have BO : Hid (badO o = (o.q == 4 || (o.q == 5 || (o.q != 7 && o.at'.tmod 2 != 0)))) := rfl
      clear e2 e3 e4 e5 hlies hoj hlt'
      by_cases q4 : (o.q == 4) = true
      · have hbad : Hid (badO o = true) := by rw [BO.out, q4]; rfl
        go_wp2
        go_ret
        rw [BAD.out hbad.out]
        exact ⟨rfl, rfl⟩
      · replace q4 : (o.q == 4) = false := by simpa using q4
        by_cases q5 : (o.q == 5) = true
        · have hbad : Hid (badO o = true) := by rw [BO.out, q4, q5]; rfl
          go_wp2
          go_ret
          rw [BAD.out hbad.out]
          exact ⟨rfl, rfl⟩
        · replace q5 : (o.q == 5) = false := by simpa using q5
          by_cases q7 : (o.q != 7) = true
          · by_cases qm : (o.at'.tmod 2 != 0) = true
            · have hbad : Hid (badO o = true) := by rw [BO.out, q4, q5, q7, qm]; rfl
              go_wp2
              go_ret
              rw [BAD.out hbad.out]
              exact ⟨rfl, rfl⟩
            · replace qm : (o.at'.tmod 2 != 0) = false := by simpa using qm
              have hgood : Hid (badO o = false) := by rw [BO.out, q4, q5, q7, qm]; rfl
              go_wp2
              go_round
              case rel => exact ⟨j + 1, by omega, by go_num, GOOD.out hgood.out⟩
              case measure => simp [intOf]; omega
          · replace q7 : (o.q != 7) = false := by simpa using q7
            have hgood : Hid (badO o = false) := by rw [BO.out, q4, q5, q7]; rfl
            go_wp2
            go_round
            case rel => exact ⟨j + 1, by omega, by go_num, GOOD.out hgood.out⟩
            case measure => simp [intOf]; omega
    · have hge : (len : Int) ≤ j := by omega
      have hfull : Hid (cleanL l = true) := cleanL_all fun q hq => HJ.out q (by have := HLN.out; omega) hq
      go_wp2
      go_ret
      rw [hfull.out]
      exact ⟨rfl, rfl⟩
end Go.Proofs.YtaeonlafcbgpcaaDoor
