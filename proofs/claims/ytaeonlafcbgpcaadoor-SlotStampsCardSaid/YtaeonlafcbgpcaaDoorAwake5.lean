/- Law 5: awake. -/
import Derived.Test.YtaeonlafcbgpcaaDoorPut
import Derived.Test.YtaeonlafcbgpcaaDoorSame
namespace Go.Proofs.YtaeonlafcbgpcaaDoor
open Go.RowKit

theorem aw0 : loadM (Dk.new 4) 1 = ([], 0, 41) := by decide +kernel
def awD1 : Dk := (saveM (Dk.new 4) 1 [1, 2]).2
def awD2 : Dk := (putM awD1 1 [3]).2
theorem aw1 : (saveM (Dk.new 4) 1 [1, 2]).1 = 0 := by decide +kernel
theorem aw2 : loadM awD1 1 = ([1, 2], 1, 0) := by decide +kernel
theorem aw3 : (putM awD1 1 [3]).1 = 0 := by decide +kernel
theorem aw4 : loadM (awD2.crash []) 1 = ([1, 2], 1, 0) := by decide +kernel
theorem aw5 : loadM (awD2.crash [64]) 1 = ([3], 2, 0) := by decide +kernel
theorem aw6 : (putM (Dk.new 4) 3 []).1 = 40 := by decide +kernel
theorem aw7 : awD1.pend.length < 1000000 := by decide +kernel
theorem aw8 : (Dk.new 4).pend.length < 1000000 := by decide +kernel

/-- Bytes that are written out. -/
theorem BytesAt.lit (w : World) (cs : Array Value) (bs : List UInt8) (n : Nat) (hl : bs.length = n) (hc : cs = (bs.map byteV).toArray) : BytesAt (New w.heap.size) (w.alloc (.cells cs 5 (0, 0))) (.slice (some ⟨w.heap.size, 0, none⟩) n n) bs := by
  subst hc hl
  refine ⟨_, bs.length, rfl, Nat.le_refl _, (fun e => by cases e), .inr ⟨w.heap.size, 0, _, rfl, heap_alloc_new _ _, ⟨Nat.le_refl _, _, _, rfl⟩, fun i hi => ?_⟩⟩
  exact cell_mk (heap_alloc_new _ _) (by simp [hi])
/-- Two disks that lie apart: a step on one leaves the other. -/
theorem Dsk.other {w w' : World} {bx : Nat} {F G : Nat → Prop} {X : Dk} (h : Dsk w bx G X) (hf : Fr (fun c _ => ¬ F c) w w') (hd : ∀ c, c < w.heap.size → G c → ¬ F c) : Dsk w' bx G X :=
  h.fr hf fun c _ hc hg => hd c (lt_of_some hc) hg

set_option maxRecDepth 100000 in
set_option maxHeartbeats 2000000 in
theorem awake_calls (w : World) (ht : TabOK w) :
    Calls Tryd.prog 12 #[] w fun e w' => e = .returned (.bool true) ∧ Fr (fun _ _ => True) w w' := by
  have HT := Lib.hid ht
  clear ht
  have h0 : 0 < w.heap.size := by have := cell_lt (HT.out 0 (by decide)); simpa using this
  have TT : Hid (∀ W, Fr (fun c _ => c < w.heap.size) w W → TabOK W) := fun W hW i hi => hW.cell (fun _ _ => h0) (HT.out i hi)
  clear HT
  go_enter Tryd.func12, Tryd.ntmps12
  go_wp2_with fail
  (with_reducible refine (new_calls _ 4 _ (by decide) (by decide) (by decide)).mono ?_)
  rintro e w1 ⟨⟨bd, rfl, d1⟩, f1⟩
  have D1 := Lib.hid d1.inside
  have F1 := Lib.hid (f1.mono (K' := fun c _ => c < w.heap.size) fun _ _ _ => trivial)
  clear d1 f1
  go_wp2_with fail
  (with_reducible refine (new_calls _ 4 _ (by decide) (by decide) (by decide)).mono ?_)
  rintro e w2 ⟨⟨bx, rfl, x2⟩, f2⟩
  have X2 := Lib.hid x2.inside
  have D2 := Lib.hid (D1.out.tt f2)
  have F2 := Lib.hid (F1.out.tt f2)
  have s1 : w.heap.size ≤ w1.heap.size := F1.out.size
  have s2 : w1.heap.size ≤ w2.heap.size := f2.size
  clear x2 f2 D1
  go_wp2_with fail
  (with_reducible refine (load_calls _ bd _ _ _ D2.out (TT.out _ F2.out) _ _ _ aw0).mono ?_)
  rintro e w3 ⟨⟨a3, c3, rfl, b3⟩, f3⟩
  have X3 := Lib.hid (X2.out.tt f3)
  have D3 := Lib.hid (D2.out.tt (f3.alloc (.cells #[.int .u8 1, .int .u8 2] 5 (0, 0))))
  have F3 := Lib.hid (F2.out.tt (f3.alloc (.cells #[.int .u8 1, .int .u8 2] 5 (0, 0))))
  have s3 : w2.heap.size ≤ w3.heap.size := f3.size
  clear b3 f3 D2 X2
  have X3' := Lib.hid (X3.out.tt ((Fr.refl _ _).alloc (.cells #[.int .u8 1, .int .u8 2] 5 (0, 0))))
  have B3 := Lib.hid (BytesAt.lit w3 #[.int .u8 1, .int .u8 2] [1, 2] 2 rfl rfl)
  have q3 := Lib.hid (World.size_alloc w3 (.cells #[.int .u8 1, .int .u8 2] 5 (0, 0)))
  go_wp2_with fail
  generalize w3.alloc (.cells #[.int .u8 1, .int .u8 2] 5 (0, 0)) = v3 at D3 F3 X3' B3 q3 ⊢
  have q3' : w3.heap.size + 1 ≤ v3.heap.size := Nat.le_of_eq q3.out.symm
  (with_reducible refine (save_calls _ bd _ _ _ _ [1, 2] D3.out B3.out (TT.out _ F3.out) aw8).mono ?_)
  rintro e w4 ⟨rfl, d4, f4⟩
  have D4 := Lib.hid (show Dsk w4 bd _ awD1 from d4).inside
  have s4 : v3.heap.size ≤ w4.heap.size := f4.size
  have X4 := Lib.hid (X3'.out.other f4 fun c _ h1 h2 => by omega)
  have F4 := Lib.hid (F3.out.trans (f4.mono fun c _ h1 h2 => by omega))
  clear d4 f4 D3 F3 B3 X3 X3' q3
  rw [aw1]
  go_wp2_with fail
  (with_reducible refine (load_calls _ bd _ _ _ D4.out (TT.out _ F4.out) _ _ _ aw2).mono ?_)
  rintro e w5 ⟨⟨a5, c5, rfl, b5⟩, f5⟩
  have X5 := Lib.hid (X4.out.tt (f5.alloc (.cells #[.int .u8 3] 5 (0, 0))))
  have D5 := Lib.hid (D4.out.tt (f5.alloc (.cells #[.int .u8 3] 5 (0, 0))))
  have F5 := Lib.hid (F4.out.tt (f5.alloc (.cells #[.int .u8 3] 5 (0, 0))))
  have s5 : w4.heap.size ≤ w5.heap.size := f5.size
  have B5 := Lib.hid ((b5.mono (K' := fun c _ => w4.heap.size ≤ c ∧ c < w5.heap.size) fun c o ho h => ⟨h.1, lt_of_some ho⟩).tt ((Fr.refl _ _).alloc (.cells #[.int .u8 3] 5 (0, 0))))
  have L5 := Lib.hid (BytesAt.lit w5 #[.int .u8 3] [3] 1 rfl rfl)
  have q5 := Lib.hid (World.size_alloc w5 (.cells #[.int .u8 3] 5 (0, 0)))
  clear b5 f5 D4 X4
  go_wp2_with fail
  generalize w5.alloc (.cells #[.int .u8 3] 5 (0, 0)) = v5 at X5 D5 F5 B5 L5 q5 ⊢
  have q5' : w5.heap.size + 1 ≤ v5.heap.size := Nat.le_of_eq q5.out.symm
  (with_reducible refine (put_calls _ bd _ _ _ _ [3] D5.out L5.out (TT.out _ F5.out) aw7).mono ?_)
  rintro e w6 ⟨rfl, d6, f6⟩
  have D6 := Lib.hid (show Dsk w6 bd _ awD2 from d6).inside
  have s6 : v5.heap.size ≤ w6.heap.size := f6.size
  have X6 := Lib.hid (X5.out.other f6 fun c _ h1 h2 => by omega)
  have F6 := Lib.hid (F5.out.trans (f6.mono fun c _ h1 h2 => by omega))
  have B6 := Lib.hid (B5.out.fr (f6.mono fun c o h1 h2 => by omega))
  clear d6 f6 D5 F5 B5 X5 L5 q5
  rw [aw3]
  go_wp2_with fail
  (with_reducible refine (copy_calls _ bd _ _ D6.out).mono ?_)
  rintro e w7 ⟨⟨by', rfl, y7⟩, f7⟩
  have Y7 := Lib.hid y7.inside
  have D7 := Lib.hid (D6.out.tt f7)
  have X7 := Lib.hid (X6.out.tt f7)
  have F7 := Lib.hid (F6.out.tt f7)
  have B7 := Lib.hid (B6.out.tt f7)
  have s7 : w6.heap.size ≤ w7.heap.size := f7.size
  have I7 : Hid (IntsAt (fun _ _ => False) w7 (.slice none 0 0) []) := ⟨none, 0, rfl, .inl rfl⟩
  clear y7 f7 D6 X6 F6 B6
  go_wp2_with fail
  (with_reducible refine (crash_main w7 bd _ _ none 0 0 [] D7.out I7.out (fun _ _ h => h.elim)).mono ?_)
  rintro e w8 ⟨rfl, d8, f8⟩
  have D8 := Lib.hid d8
  have Y8 := Lib.hid (Y7.out.other f8 fun c _ h1 h2 => by omega)
  have X8 := Lib.hid (X7.out.other f8 fun c _ h1 h2 => by omega)
  have F8 := Lib.hid (F7.out.trans (f8.mono fun c _ h1 h2 => by omega))
  have B8 := Lib.hid (B7.out.fr (f8.mono fun c o h1 h2 => by omega))
  have s8 : w7.heap.size ≤ w8.heap.size := f8.size
  clear d8 f8 D7 Y7 X7 F7 B7 I7
  go_wp2_with fail
  (with_reducible refine (load_calls _ bd _ _ _ D8.out (TT.out _ F8.out) _ _ _ aw4).mono ?_)
  rintro e w9 ⟨⟨a9, c9, rfl, b9⟩, f9⟩
  have s9 : w8.heap.size ≤ w9.heap.size := f9.size
  have Y9 := Lib.hid (Y8.out.tt (f9.alloc (.cells #[.int .i64 64] 3 (0, 0))))
  have X9 := Lib.hid (X8.out.tt (f9.alloc (.cells #[.int .i64 64] 3 (0, 0))))
  have F9 := Lib.hid (F8.out.tt (f9.alloc (.cells #[.int .i64 64] 3 (0, 0))))
  have B9 := Lib.hid (B8.out.tt (f9.alloc (.cells #[.int .i64 64] 3 (0, 0))))
  have A9 := Lib.hid ((b9.mono (K' := fun c _ => w8.heap.size ≤ c ∧ c < w9.heap.size) fun c o ho h => ⟨h.1, lt_of_some ho⟩).tt ((Fr.refl _ _).alloc (.cells #[.int .i64 64] 3 (0, 0))))
  have I9 : Hid (IntsAt (fun c _ => w9.heap.size ≤ c) (w9.alloc (.cells #[.int .i64 64] 3 (0, 0))) (.slice (some ⟨w9.heap.size, 0, none⟩) 1 1) [64]) :=
    ⟨some ⟨w9.heap.size, 0, none⟩, 1, rfl, .inr ⟨w9.heap.size, 0, _, rfl, heap_alloc_new _ _, Nat.le_refl _, fun i hi => by
      have : i = 0 := by simpa using hi
      subst this
      exact cell_mk (heap_alloc_new _ _) rfl⟩⟩
  have q9 := Lib.hid (World.size_alloc w9 (.cells #[.int .i64 64] 3 (0, 0)))
  clear b9 f9 D8 Y8 X8 F8 B8
  go_wp2_with fail
  generalize w9.alloc (.cells #[.int .i64 64] 3 (0, 0)) = v9 at Y9 X9 F9 B9 A9 I9 q9 ⊢
  have q9' : w9.heap.size + 1 ≤ v9.heap.size := Nat.le_of_eq q9.out.symm
  (with_reducible refine (crash_main v9 by' _ _ _ 1 1 [64] Y9.out I9.out (fun c _ h h2 => by omega)).mono ?_)
  rintro e w10 ⟨rfl, y10, f10⟩
  have Y10 := Lib.hid y10
  have X10 := Lib.hid (X9.out.other f10 fun c _ h1 h2 => by omega)
  have F10 := Lib.hid (F9.out.trans (f10.mono fun c _ h1 h2 => by omega))
  have B10 := Lib.hid (B9.out.fr (f10.mono fun c o h1 h2 => by omega))
  have A10 := Lib.hid (A9.out.fr (f10.mono fun c o h1 h2 => by omega))
  have s10 : v9.heap.size ≤ w10.heap.size := f10.size
  clear y10 f10 Y9 X9 F9 B9 A9 I9 q9
  go_wp2_with fail
  (with_reducible refine (load_calls _ by' _ _ _ Y10.out (TT.out _ F10.out) _ _ _ aw5).mono ?_)
  rintro e w11 ⟨⟨a11, c11, rfl, b11⟩, f11⟩
  have X11 := Lib.hid (X10.out.tt f11)
  have F11 := Lib.hid (F10.out.tt f11)
  have B11 := Lib.hid (B10.out.tt f11)
  have A11 := Lib.hid (A10.out.tt f11)
  have C11 := Lib.hid (b11.mono (K' := fun c _ => w10.heap.size ≤ c ∧ c < w11.heap.size) fun c o ho h => ⟨h.1, lt_of_some ho⟩)
  have s11 : w10.heap.size ≤ w11.heap.size := f11.size
  have N11 := Lib.hid (BytesAt.nil (fun _ _ => False) w11)
  clear b11 f11 Y10 X10 F10 B10 A10
  go_wp2_with fail
  (with_reducible refine (put_calls _ bx _ _ _ _ [] X11.out N11.out (TT.out _ F11.out) aw8).mono ?_)
  rintro e w12 ⟨rfl, x12, f12⟩
  have F12 := Lib.hid (F11.out.trans (f12.mono fun c _ h1 h2 => by omega))
  have B12 := Lib.hid (B11.out.fr (f12.mono fun c o h1 h2 => by omega))
  have A12 := Lib.hid (A11.out.fr (f12.mono fun c o h1 h2 => by omega))
  have C12 := Lib.hid (C11.out.fr (f12.mono fun c o h1 h2 => by omega))
  clear x12 f12 X11 F11 B11 A11 C11 N11
  have B12' := Lib.hid (show BytesAt _ w12 (.slice a5 2 c5) [1, 2] from B12.out)
  have A12' := Lib.hid (show BytesAt _ w12 (.slice a9 2 c9) [1, 2] from A12.out)
  have C12' := Lib.hid (show BytesAt _ w12 (.slice a11 1 c11) [3] from C12.out)
  rw [aw6]
  go_wp2_with fail
  (with_reducible refine (same_calls _ _ _ [1, 2] [1, 2] (B12'.out.tt ((Fr.refl _ _).alloc _)) (BytesAt.lit w12 #[.int .u8 1, .int .u8 2] [1, 2] 2 rfl rfl) (by decide)).mono ?_)
  rintro e w13 ⟨rfl, k13, hw⟩
  have G13 : Hid (Fr (fun _ _ => True) w12 w13) := by rw [hw]; exact ((Fr.refl (fun _ _ => True) w12).alloc _).drewN k13
  clear hw
  go_wp2_with fail
  (with_reducible refine (same_calls _ _ _ [1, 2] [1, 2] (A12'.out.tt (G13.out.alloc _)) (BytesAt.lit w13 #[.int .u8 1, .int .u8 2] [1, 2] 2 rfl rfl) (by decide)).mono ?_)
  rintro e w14 ⟨rfl, k14, hw⟩
  have G14 : Hid (Fr (fun _ _ => True) w12 w14) := by rw [hw]; exact (G13.out.alloc _).drewN k14
  clear hw
  go_wp2_with fail
  (with_reducible refine (same_calls _ _ _ [3] [3] (C12'.out.tt (G14.out.alloc _)) (BytesAt.lit w14 #[.int .u8 3] [3] 1 rfl rfl) (by decide)).mono ?_)
  rintro e w15 ⟨rfl, k15, hw⟩
  have G15 : Hid (Fr (fun _ _ => True) w12 w15) := by rw [hw]; exact (G14.out.alloc _).drewN k15
  clear hw
  go_wp2
  go_ret
  exact ⟨rfl, Fr.within ((F12.out.tt G15.out).mono fun _ _ h => h.2)⟩
end Go.Proofs.YtaeonlafcbgpcaaDoor
