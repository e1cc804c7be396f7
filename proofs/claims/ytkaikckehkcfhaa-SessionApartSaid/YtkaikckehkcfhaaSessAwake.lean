/- The statements' awake: the chapter's examples hold. -/
import Derived.Test.YtkaikckehkcfhaaSessM
namespace Go.Proofs.Ytkaikckehkcfhaa
open Go.RowKit

/-- A slice literal of one byte. -/
theorem BytesAt.lit1 (w : World) (b : UInt8) (n : Int) (hn : n = b.toNat) : BytesAt (New w.heap.size) (w.alloc (.cells #[.int .u8 n] 5 (0, 0))) (.slice (some ⟨w.heap.size, 0, none⟩) 1 1) [b] := by
  refine ⟨_, 1, rfl, by simp, (fun e => by cases e), .inr ⟨w.heap.size, 0, _, rfl, heap_alloc_new _ _, ⟨Nat.le_refl _, _, _, rfl⟩, fun i hi => ?_⟩⟩
  have : i = 0 := by simpa using hi
  subst this hn
  exact cell_mk (heap_alloc_new _ _) rfl

/-- Behind a table's step: the table and what lay below. -/
theorem Fr.kt {B : Nat} {a w w' : World} (h : Fr (fun b _ => b < B) a w) (hf : Fr (KT B) w w') : Fr (fun b _ => b < B) a w' := h.trans (hf.mono fun _ _ h => .inl h)
theorem Fr.tt {K : Nat → Obj → Prop} {a w w' : World} (h : Fr K a w) (hf : Fr (fun _ _ => True) w w') : Fr K a w' := h.trans (hf.mono fun _ _ _ => trivial)
theorem BytesAt.kt {B n : Nat} {w w' : World} {v : Value} {bs : List UInt8} (h : BytesAt (New n) w v bs) (hf : Fr (KT B) w w') : BytesAt (KT B) w' v bs := (h.mono fun _ _ _ h => KT.new h).fr hf

set_option maxRecDepth 100000 in
set_option maxHeartbeats 1000000 in
theorem awake_calls (w : World) : Calls Try.prog 7 #[] w fun e w' => e = .returned (.bool true) ∧ Fr (fun b _ => b < w.heap.size) w w' := by
  go_enter Try.func7, Try.ntmps7
  go_wp2_with fail
  (with_reducible refine (open_calls _ w.heap.size w.heap.size [] 3 (TabM.new w _ (Nat.le_refl _)) (by simp) 0 [(3, 0, [])] rfl).mono ?_)
  rintro e w1 ⟨rfl, t1, f1⟩
  have F1 := Lib.hid (((Fr.refl (fun b _ => b < w.heap.size) w).alloc (.cells #[.map none] 27 (0, 0))).kt f1)
  have T1 := Lib.hid t1
  clear t1 f1
  go_wp2_with fail
  (with_reducible refine (ask_calls _ _ _ _ 3 1 T1.out (by decide) (by decide) [] false 0 rfl).mono ?_)
  rintro e w2 ⟨a2, c2, rfl, b2, t2, f2⟩
  have F2 := Lib.hid (F1.out.tt f2)
  have T2 := Lib.hid t2
  clear t2 f2 b2
  go_wp2_with fail
  (with_reducible refine (done_calls _ _ _ _ 3 1 _ [120] (T2.out.fr ((Fr.refl _ _).alloc _)) (by decide) (by decide) (BytesAt.lit1 w2 120 120 rfl) 0 [(3, 1, [120])] rfl).mono ?_)
  rintro e w3 ⟨rfl, t3, f3⟩
  have F3 := Lib.hid ((F2.out.alloc _).kt f3)
  have T3 := Lib.hid t3
  clear t3 f3
  go_wp2_with fail
  (with_reducible refine (ask_calls _ _ _ _ 3 1 T3.out (by decide) (by decide) [120] true 0 rfl).mono ?_)
  rintro e w4 ⟨a4, c4, rfl, b4, t4, f4⟩
  have F4 := Lib.hid (F3.out.tt f4)
  have T4 := Lib.hid t4
  have B4 := Lib.hid b4
  clear t4 f4 b4
  go_wp2_with fail
  (with_reducible refine (ask_calls _ _ _ _ 3 2 T4.out (by decide) (by decide) [] false 0 rfl).mono ?_)
  rintro e w5 ⟨a5, c5, rfl, b5, t5, f5⟩
  have F5 := Lib.hid (F4.out.tt f5)
  have B5 := Lib.hid (B4.out.tt f5)
  have T5 := Lib.hid t5
  clear t5 f5 b5
  go_wp2_with fail
  (with_reducible refine (ask_calls _ _ _ _ 3 3 T5.out (by decide) (by decide) [] false 60 rfl).mono ?_)
  rintro e w6 ⟨a6, c6, rfl, b6, t6, f6⟩
  have F6 := Lib.hid (F5.out.tt f6)
  have B6 := Lib.hid (B5.out.tt f6)
  have T6 := Lib.hid t6
  clear t6 f6 b6
  go_wp2_with fail
  (with_reducible refine (ask_calls _ _ _ _ 3 0 T6.out (by decide) (by decide) [] false 80 rfl).mono ?_)
  rintro e w7 ⟨a7, c7, rfl, b7, t7, f7⟩
  have F7 := Lib.hid (F6.out.tt f7)
  have B7 := Lib.hid (B6.out.tt f7)
  have T7 := Lib.hid t7
  clear t7 f7 b7
  go_wp2_with fail
  (with_reducible refine (ask_calls _ _ _ _ 4 1 T7.out (by decide) (by decide) [] false 81 rfl).mono ?_)
  rintro e w8 ⟨a8, c8, rfl, b8, t8, f8⟩
  have F8 := Lib.hid (F7.out.tt f8)
  have B8 := Lib.hid (B7.out.tt f8)
  clear t8 f8 b8
  go_wp2_with fail
  have b8 : BytesAt _ w8 (.slice a4 1 c4) [120] := B8.out
  (with_reducible refine (same_calls _ _ _ [120] [120] (b8.tt ((Fr.refl _ _).alloc _)) (BytesAt.lit1 w8 120 120 rfl) (by decide)).mono ?_)
  rintro e w9 ⟨rfl, k, rfl⟩
  go_wp2
  go_ret
  exact ⟨rfl, (F8.out.alloc _).drewN k⟩
end Go.Proofs.Ytkaikckehkcfhaa
