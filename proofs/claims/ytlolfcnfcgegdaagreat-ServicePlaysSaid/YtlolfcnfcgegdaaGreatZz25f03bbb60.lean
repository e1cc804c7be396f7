/- Texts of the proofs, part 23: what the functions that they reach do, walked; no conditions beyond those that each states. -/
import Derived.Laws.StructEq
import Derived.Test.YtlolfcnfcgegdaaGreatZz8b7ee0fbc6
set_option linter.unusedVariables false
set_option linter.unusedSimpArgs false
/- The law's awake (printed by awake20.py). -/
namespace Go.Proofs.YtlolfcnfcgegdaaGreat
open Go.RowKit
set_option linter.unusedVariables false
set_option linter.unusedSimpArgs false

theorem SV.keepc {n : Nat} {P Q X : Nat → Prop} {w w' : World} {bs b1 b2 m : Nat} {M : MT} {L : Lk} {cs : Array Value} {t : TypeId} {fz : Nat × Nat} (h : SV n P Q w bs b1 b2 M L) (k : Kp (U P Q) X w w') (hm : w.heap[m]? = some (.cells cs t fz)) (ht : t ≠ 66 ∧ t ≠ 112 ∧ t ≠ 59 ∧ t ≠ 109) : w'.heap[m]? = some (.cells cs t fz) :=
  k.fr.keep _ _ hm fun hc => hc.elim (h.lk.out hm (kp_cells ht.1 ht.2.1)) (h.se.out hm (qk_cells ht.2.2.1 ht.2.2.2))
theorem SV.keepb {n i : Nat} {P Q X : Nat → Prop} {w w' : World} {bs b1 b2 : Nat} {M : MT} {L : Lk} {v : Value} {b : List UInt8} (h : SV n P Q w bs b1 b2 M L) (k : Kp (U P Q) X w w') (hb : BytesAt (New i) w v b) : BytesAt (New i) w' v b := by
  have h1 : BytesAt (fun c o => (¬ U P Q c) ∧ New i c o) w v b := hb.mono fun c o ho hc => by
    obtain ⟨_, cs, fz, rfl⟩ := id hc
    exact ⟨fun hu => hu.elim (h.lk.out ho (kp_cells (by decide) (by decide))) (h.se.out ho (qk_cells (by decide) (by decide))), hc⟩
  exact (h1.fr (k.fr.mono fun _ _ h => h.1)).mono fun _ _ _ h => h.2
theorem SV.low {n : Nat} {P Q : Nat → Prop} {w : World} {bs b1 b2 : Nat} {M : MT} {L : Lk} (h : SV n P Q w bs b1 b2 M L) {c : Nat} (hc : U P Q c) : n ≤ c := hc.elim (fun x => by obtain ⟨_, _, _, hl⟩ := h.lk.ps x; exact hl) (h.se.lo c)
theorem keep_bz {i m : Nat} {w w' : World} {v : Value} {b : List UInt8} {cs : Array Value} {t : TypeId} {fz : Nat × Nat} (hb : BytesAt (New i) w v b) (f : Fr (fun c _ => c ≠ m) w w') (hm : w.heap[m]? = some (.cells cs t fz)) (ht : t ≠ 5) : BytesAt (New i) w' v b := by
  have h1 : BytesAt (fun c o => (c ≠ m) ∧ New i c o) w v b := hb.mono fun c o ho hc => by
    obtain ⟨_, cs', fz', rfl⟩ := id hc
    exact ⟨fun e => by subst e; rw [hm] at ho; cases ho; exact ht rfl, hc⟩
  exact (h1.fr (f.mono fun _ _ h => h.1)).mono fun _ _ _ h => h.2
theorem encM_len (c : Cmd) : (encM c).1.length ≤ 24 := by
  unfold encM
  split
  · rw [cmdB_len]; exact Nat.le_refl _
  · exact Nat.zero_le _
theorem act_calls {n : Nat} {P Q : Nat → Prop} {K : Nat → Obj → Prop} (w : World) (bs b1 b2 : Nat) (M : MT) (L : Lk) (v : Value) (c : Cmd) (h : SV n P Q w bs b1 b2 M L) (hn : n ≤ w.heap.size) (hb : BytesAt K w v (encM c).1) (ho : c.ok) :
    Calls Tryz.prog 10 #[.pointer (some ⟨bs, 0, none⟩), v] w fun e w' => e = .returned (vR (actM M L c).1) ∧ ∃ P' Q', SV n P' Q' w' bs b1 b2 (actM M L c).2.1 (actM M L c).2.2 ∧ Kp (U P Q) (U P' Q') w w' := by
  rw [← act_eq ho]
  exact apply_calls w bs b1 b2 M L v (encM c).1 h hn hb (by have := encM_len c; omega)

def awc1 : Cmd := ⟨1, 3, 0, 0, 0, 0, 0⟩
def aw1 : Rp × MT × Lk := actM [] Lk.new awc1
theorem awc1_ok : awc1.ok := ⟨by decide, by decide, by decide⟩
theorem aw1_eq : aw1.1 = ⟨0, 0⟩ := by kernel_rfl
def awc2 : Cmd := ⟨3, 3, 1, 0, 2, 0, 0⟩
def aw2 : Rp × MT × Lk := actM aw1.2.1 aw1.2.2 awc2
theorem awc2_ok : awc2.ok := ⟨by decide, by decide, by decide⟩
theorem aw2_eq : aw2.1 = ⟨0, 1⟩ := by kernel_rfl
def awc3 : Cmd := ⟨3, 3, 1, 0, 2, 0, 0⟩
def aw3 : Rp × MT × Lk := actM aw2.2.1 aw2.2.2 awc3
theorem awc3_ok : awc3.ok := ⟨by decide, by decide, by decide⟩
theorem aw3_eq : aw3.1 = ⟨0, 1⟩ := by kernel_rfl
def awc4 : Cmd := ⟨7, 0, 0, 0, 0, 0, 12⟩
def aw4 : Rp × MT × Lk := actM aw3.2.1 aw3.2.2 awc4
theorem awc4_ok : awc4.ok := ⟨by decide, by decide, by decide⟩
theorem aw4_eq : aw4.1 = ⟨0, 12⟩ := by kernel_rfl
def awc5 : Cmd := ⟨5, 3, 2, 0, 0, 1, 0⟩
def aw5 : Rp × MT × Lk := actM aw4.2.1 aw4.2.2 awc5
theorem awc5_ok : awc5.ok := ⟨by decide, by decide, by decide⟩
theorem aw5_eq : aw5.1 = ⟨92, 0⟩ := by kernel_rfl
def awc6 : Cmd := ⟨3, 4, 1, 0, 2, 0, 0⟩
def aw6 : Rp × MT × Lk := actM aw5.2.1 aw5.2.2 awc6
theorem awc6_ok : awc6.ok := ⟨by decide, by decide, by decide⟩
theorem aw6_eq : aw6.1 = ⟨81, 0⟩ := by kernel_rfl
theorem fieldsR : Tryz.prog.fieldsOf 36 = #[{ name := "Code", type := 34, offset := 0, embedded := false, tag := "", pkgPath := "", byteOffset := 0 }, { name := "Value", type := 31, offset := 1, embedded := false, tag := "", pkgPath := "", byteOffset := 8 }] := by unfold Program.fieldsOf; rw [Tryz.underlying36]
theorem eql_reply (w : World) (a b c d : Int) : (binOp .eql 36 (.agg #[.int .i64 a, .int .u64 b]) (.agg #[.int .i64 c, .int .u64 d])).run Tryz.prog w = .ok (.bool (a == c && b == d)) w := by
  rw [run_eql_struct, run_equalIn_agg w 9999 _ _ _ (by rw [fieldsR, Tryz.underlying36]) (by kernel_rfl), fieldsR]
  have p1 : ∀ x y : Value, (part 34 #[x, y] 0).run Tryz.prog w = .ok x w := fun x y => run_part_plain w (by kernel_rfl) rfl
  have p2 : ∀ x y : Value, (part 31 #[x, y] 1).run Tryz.prog w = .ok y w := fun x y => run_part_plain w (by kernel_rfl) rfl
  have e1 := fun a b => run_equalIn_int w 9998 34 .i64 .i64 a b Tryz.underlying34
  have e2 := fun a b => run_equalIn_int w 9998 31 .u64 .u64 a b Tryz.underlying31
  simp only [Op.eqFields, Sem.run_bind, p1, p2, e1, e2, Result.andThen_ok, Sem.run_ite, Sem.run_pure, ne_eq]
  by_cases h1 : a = c <;> by_cases h2 : b = d <;> simp [h1, h2]
set_option maxRecDepth 100000 in
set_option maxHeartbeats 4000000 in
theorem awake_calls (w : World) : Calls Tryz.prog 6 #[] w fun e w' => e = .returned (.bool true) ∧ Fr (fun _ _ => True) w w' := by
  go_enter Tryz.func6, Tryz.ntmps6
  go_wp2_with fail
  (with_reducible refine (new_calls w (Nat.le_refl _)).mono ?_)
  rintro e v0 ⟨⟨P0, Q0, bs, b1, b2, rfl, h0, _, _⟩, f0⟩
  have H0 := Lib.hid h0
  have F0 := Lib.hid f0
  clear h0 f0
  have BC : Hid (Calls Tryz.prog 9 #[.agg #[.int .i64 1, .int .i64 3, .int .u32 0, .int .i64 0, .int .i64 0, .int .u64 0, .int .u64 0]] v0 fun e w' => (∃ a cap, e = .returned (.slice a (encM awc1).1.length cap) ∧ BytesAt (New v0.heap.size) w' (.slice a (encM awc1).1.length cap) (encM awc1).1) ∧ Fr (fun _ _ => True) v0 w') := Lib.hid (bytes_calls v0 awc1 awc1_ok)
  generalize hlen1 : (encM awc1).1.length = len1 at BC
  clear hlen1
  go_wp2_with fail
  (with_reducible refine BC.out.mono ?_)
  rintro e u1 ⟨⟨a1, cap1, rfl, bb1⟩, f1⟩
  have BB := Lib.hid bb1
  have FB1 := Lib.hid (F0.out.trans f1)
  have HB1 := Lib.hid (H0.out.fr f1)
  clear BC bb1 f1
  have AC : Hid (Calls Tryz.prog 10 #[.pointer (some ⟨bs, 0, none⟩), .slice a1 len1 cap1] u1 fun e w' => e = .returned (.agg #[.int .i64 0, .int .u64 0]) ∧ ∃ P' Q', SV w.heap.size P' Q' w' bs b1 b2 aw1.2.1 aw1.2.2 ∧ Kp (U P0 Q0) (U P' Q') u1 w') := Lib.hid ((act_calls u1 bs b1 b2 _ _ _ awc1 HB1.out FB1.out.size BB.out awc1_ok).mono fun e w' ⟨h1, h2⟩ => ⟨h1.trans (congrArg (fun x => Ending.returned (vR x)) aw1_eq), h2⟩)
  go_wp2_with fail
  (with_reducible refine AC.out.mono ?_)
  rintro e y1 ⟨rfl, P1, Q1, h1, k1⟩
  have FY : Hid (Fr (fun _ _ => True) w y1) := Lib.hid (Fr.within ((FB1.out.mono fun _ _ _ => trivial).trans (k1.fr.mono fun c _ h hu => by have := HB1.out.low hu; have := h.2; omega)))
  have HY := Lib.hid h1
  obtain ⟨W1, hW1⟩ : ∃ W, y1.alloc (.cells #[.int .i64 0, .int .u64 0] 36 (0, 0)) = W := ⟨_, rfl⟩
  have FW : Hid (Fr (fun _ _ => True) y1 W1) := hW1 ▸ (Fr.refl _ _).alloc _
  have XW : Hid (W1.heap[y1.heap.size]? = some (.cells #[.int .i64 0, .int .u64 0] 36 (0, 0))) := hW1 ▸ heap_alloc_new y1 _
  have q0 := cell_mk (i := 0) XW.out rfl
  have q1 := cell_mk (i := 1) XW.out rfl
  have z0 := frozen_mk (i := 0) XW.out
  have z1 := frozen_mk (i := 1) XW.out
  obtain ⟨v1, hWZ, TZ, FZ⟩ := set2 XW.out (.int .i64 0) (.int .u64 0)
  have F1 : Hid (Fr (fun _ _ => True) w v1) := Lib.hid (Fr.within (((FY.out.trans FW.out).mono fun _ _ _ => trivial).trans (FZ.mono fun c _ h e => by have := FY.out.size; have := h.2; omega)))
  have H1 := Lib.hid ((HY.out.fr FW.out).frk FZ ((HY.out.fr FW.out).kv_other XW.out FY.out.size (by decide)))
  have X1_0 := Lib.hid TZ
  clear AC h1 k1 FY XW HY FW TZ FZ
  have BC : Hid (Calls Tryz.prog 9 #[.agg #[.int .i64 3, .int .i64 3, .int .u32 1, .int .i64 0, .int .i64 2, .int .u64 0, .int .u64 0]] v1 fun e w' => (∃ a cap, e = .returned (.slice a (encM awc2).1.length cap) ∧ BytesAt (New v1.heap.size) w' (.slice a (encM awc2).1.length cap) (encM awc2).1) ∧ Fr (fun _ _ => True) v1 w') := Lib.hid (bytes_calls v1 awc2 awc2_ok)
  generalize hlen2 : (encM awc2).1.length = len2 at BC
  clear hlen2
  go_wp2_with fail
  try rw [hWZ]
  (with_reducible refine BC.out.mono ?_)
  rintro e u2 ⟨⟨a2, cap2, rfl, bb2⟩, f2⟩
  have BB := Lib.hid bb2
  have FB2 := Lib.hid (F1.out.trans f2)
  have HB2 := Lib.hid (H1.out.fr f2)
  have XB2_0 := Lib.hid (f2.keep _ _ X1_0.out trivial)
  clear BC bb2 f2 hWZ H1
  have AC : Hid (Calls Tryz.prog 10 #[.pointer (some ⟨bs, 0, none⟩), .slice a2 len2 cap2] u2 fun e w' => e = .returned (.agg #[.int .i64 0, .int .u64 1]) ∧ ∃ P' Q', SV w.heap.size P' Q' w' bs b1 b2 aw2.2.1 aw2.2.2 ∧ Kp (U P1 Q1) (U P' Q') u2 w') := Lib.hid ((act_calls u2 bs b1 b2 _ _ _ awc2 HB2.out FB2.out.size BB.out awc2_ok).mono fun e w' ⟨h1, h2⟩ => ⟨h1.trans (congrArg (fun x => Ending.returned (vR x)) aw2_eq), h2⟩)
  go_wp2_with fail
  (with_reducible refine AC.out.mono ?_)
  rintro e y2 ⟨rfl, P2, Q2, h2, k2⟩
  have FY : Hid (Fr (fun _ _ => True) w y2) := Lib.hid (Fr.within ((FB2.out.mono fun _ _ _ => trivial).trans (k2.fr.mono fun c _ h hu => by have := HB2.out.low hu; have := h.2; omega)))
  have XY0 := Lib.hid (HB2.out.keepc k2 XB2_0.out (by decide))
  have BBY := Lib.hid (HB2.out.keepb k2 BB.out)
  have HY := Lib.hid h2
  obtain ⟨W2, hW2⟩ : ∃ W, y2.alloc (.cells #[.int .i64 0, .int .u64 0] 36 (0, 0)) = W := ⟨_, rfl⟩
  have FW : Hid (Fr (fun _ _ => True) y2 W2) := hW2 ▸ (Fr.refl _ _).alloc _
  have XW : Hid (W2.heap[y2.heap.size]? = some (.cells #[.int .i64 0, .int .u64 0] 36 (0, 0))) := hW2 ▸ heap_alloc_new y2 _
  have q0 := cell_mk (i := 0) XW.out rfl
  have q1 := cell_mk (i := 1) XW.out rfl
  have z0 := frozen_mk (i := 0) XW.out
  have z1 := frozen_mk (i := 1) XW.out
  obtain ⟨v2, hWZ, TZ, FZ⟩ := set2 XW.out (.int .i64 0) (.int .u64 1)
  have F2 : Hid (Fr (fun _ _ => True) w v2) := Lib.hid (Fr.within (((FY.out.trans FW.out).mono fun _ _ _ => trivial).trans (FZ.mono fun c _ h e => by have := FY.out.size; have := h.2; omega)))
  have H2 := Lib.hid ((HY.out.fr FW.out).frk FZ ((HY.out.fr FW.out).kv_other XW.out FY.out.size (by decide)))
  have X2_0 := Lib.hid (FZ.keep _ _ (FW.out.keep _ _ XY0.out trivial) (by have := lt_of_some XY0.out; omega))
  have X2_1 := Lib.hid TZ
  have BBZ := Lib.hid (keep_bz (BBY.out.tt FW.out) FZ XW.out (by decide))
  clear AC h2 k2 FY XW HY FW TZ FZ XY0
  have BB3 := Lib.hid (BBZ.out)
  have FB3 := F2
  have HB3 := H2
  have XB3_0 := X2_0
  have XB3_1 := X2_1
  have AC : Hid (Calls Tryz.prog 10 #[.pointer (some ⟨bs, 0, none⟩), .slice a2 len2 cap2] v2 fun e w' => e = .returned (.agg #[.int .i64 0, .int .u64 1]) ∧ ∃ P' Q', SV w.heap.size P' Q' w' bs b1 b2 aw3.2.1 aw3.2.2 ∧ Kp (U P2 Q2) (U P' Q') v2 w') := Lib.hid ((act_calls v2 bs b1 b2 _ _ _ awc3 HB3.out FB3.out.size BBZ.out awc3_ok).mono fun e w' ⟨h1, h2⟩ => ⟨h1.trans (congrArg (fun x => Ending.returned (vR x)) aw3_eq), h2⟩)
  go_wp2_with fail
  try rw [hWZ]
  (with_reducible refine AC.out.mono ?_)
  rintro e y3 ⟨rfl, P3, Q3, h3, k3⟩
  have FY : Hid (Fr (fun _ _ => True) w y3) := Lib.hid (Fr.within ((FB3.out.mono fun _ _ _ => trivial).trans (k3.fr.mono fun c _ h hu => by have := HB3.out.low hu; have := h.2; omega)))
  have XY0 := Lib.hid (HB3.out.keepc k3 XB3_0.out (by decide))
  have XY1 := Lib.hid (HB3.out.keepc k3 XB3_1.out (by decide))
  have HY := Lib.hid h3
  obtain ⟨W3, hW3⟩ : ∃ W, y3.alloc (.cells #[.int .i64 0, .int .u64 0] 36 (0, 0)) = W := ⟨_, rfl⟩
  have FW : Hid (Fr (fun _ _ => True) y3 W3) := hW3 ▸ (Fr.refl _ _).alloc _
  have XW : Hid (W3.heap[y3.heap.size]? = some (.cells #[.int .i64 0, .int .u64 0] 36 (0, 0))) := hW3 ▸ heap_alloc_new y3 _
  have q0 := cell_mk (i := 0) XW.out rfl
  have q1 := cell_mk (i := 1) XW.out rfl
  have z0 := frozen_mk (i := 0) XW.out
  have z1 := frozen_mk (i := 1) XW.out
  obtain ⟨v3, hWZ, TZ, FZ⟩ := set2 XW.out (.int .i64 0) (.int .u64 1)
  have F3 : Hid (Fr (fun _ _ => True) w v3) := Lib.hid (Fr.within (((FY.out.trans FW.out).mono fun _ _ _ => trivial).trans (FZ.mono fun c _ h e => by have := FY.out.size; have := h.2; omega)))
  have H3 := Lib.hid ((HY.out.fr FW.out).frk FZ ((HY.out.fr FW.out).kv_other XW.out FY.out.size (by decide)))
  have X3_0 := Lib.hid (FZ.keep _ _ (FW.out.keep _ _ XY0.out trivial) (by have := lt_of_some XY0.out; omega))
  have X3_1 := Lib.hid (FZ.keep _ _ (FW.out.keep _ _ XY1.out trivial) (by have := lt_of_some XY1.out; omega))
  have X3_2 := Lib.hid TZ
  clear AC h3 k3 FY XW HY FW TZ FZ XY0 XY1
  have BC : Hid (Calls Tryz.prog 9 #[.agg #[.int .i64 7, .int .i64 0, .int .u32 0, .int .i64 0, .int .i64 0, .int .u64 0, .int .u64 12]] v3 fun e w' => (∃ a cap, e = .returned (.slice a (encM awc4).1.length cap) ∧ BytesAt (New v3.heap.size) w' (.slice a (encM awc4).1.length cap) (encM awc4).1) ∧ Fr (fun _ _ => True) v3 w') := Lib.hid (bytes_calls v3 awc4 awc4_ok)
  generalize hlen4 : (encM awc4).1.length = len4 at BC
  clear hlen4
  go_wp2_with fail
  try rw [hWZ]
  (with_reducible refine BC.out.mono ?_)
  rintro e u4 ⟨⟨a4, cap4, rfl, bb4⟩, f4⟩
  have BB := Lib.hid bb4
  have FB4 := Lib.hid (F3.out.trans f4)
  have HB4 := Lib.hid (H3.out.fr f4)
  have XB4_0 := Lib.hid (f4.keep _ _ X3_0.out trivial)
  have XB4_1 := Lib.hid (f4.keep _ _ X3_1.out trivial)
  have XB4_2 := Lib.hid (f4.keep _ _ X3_2.out trivial)
  clear BC bb4 f4 hWZ H3
  have AC : Hid (Calls Tryz.prog 10 #[.pointer (some ⟨bs, 0, none⟩), .slice a4 len4 cap4] u4 fun e w' => e = .returned (.agg #[.int .i64 0, .int .u64 12]) ∧ ∃ P' Q', SV w.heap.size P' Q' w' bs b1 b2 aw4.2.1 aw4.2.2 ∧ Kp (U P3 Q3) (U P' Q') u4 w') := Lib.hid ((act_calls u4 bs b1 b2 _ _ _ awc4 HB4.out FB4.out.size BB.out awc4_ok).mono fun e w' ⟨h1, h2⟩ => ⟨h1.trans (congrArg (fun x => Ending.returned (vR x)) aw4_eq), h2⟩)
  go_wp2_with fail
  (with_reducible refine AC.out.mono ?_)
  rintro e y4 ⟨rfl, P4, Q4, h4, k4⟩
  have FY : Hid (Fr (fun _ _ => True) w y4) := Lib.hid (Fr.within ((FB4.out.mono fun _ _ _ => trivial).trans (k4.fr.mono fun c _ h hu => by have := HB4.out.low hu; have := h.2; omega)))
  have XY0 := Lib.hid (HB4.out.keepc k4 XB4_0.out (by decide))
  have XY1 := Lib.hid (HB4.out.keepc k4 XB4_1.out (by decide))
  have XY2 := Lib.hid (HB4.out.keepc k4 XB4_2.out (by decide))
  have HY := Lib.hid h4
  obtain ⟨W4, hW4⟩ : ∃ W, y4.alloc (.cells #[.int .i64 0, .int .u64 0] 36 (0, 0)) = W := ⟨_, rfl⟩
  have FW : Hid (Fr (fun _ _ => True) y4 W4) := hW4 ▸ (Fr.refl _ _).alloc _
  have XW : Hid (W4.heap[y4.heap.size]? = some (.cells #[.int .i64 0, .int .u64 0] 36 (0, 0))) := hW4 ▸ heap_alloc_new y4 _
  have q0 := cell_mk (i := 0) XW.out rfl
  have q1 := cell_mk (i := 1) XW.out rfl
  have z0 := frozen_mk (i := 0) XW.out
  have z1 := frozen_mk (i := 1) XW.out
  obtain ⟨v4, hWZ, TZ, FZ⟩ := set2 XW.out (.int .i64 0) (.int .u64 12)
  have F4 : Hid (Fr (fun _ _ => True) w v4) := Lib.hid (Fr.within (((FY.out.trans FW.out).mono fun _ _ _ => trivial).trans (FZ.mono fun c _ h e => by have := FY.out.size; have := h.2; omega)))
  have H4 := Lib.hid ((HY.out.fr FW.out).frk FZ ((HY.out.fr FW.out).kv_other XW.out FY.out.size (by decide)))
  have X4_0 := Lib.hid (FZ.keep _ _ (FW.out.keep _ _ XY0.out trivial) (by have := lt_of_some XY0.out; omega))
  have X4_1 := Lib.hid (FZ.keep _ _ (FW.out.keep _ _ XY1.out trivial) (by have := lt_of_some XY1.out; omega))
  have X4_2 := Lib.hid (FZ.keep _ _ (FW.out.keep _ _ XY2.out trivial) (by have := lt_of_some XY2.out; omega))
  have X4_3 := Lib.hid TZ
  clear AC h4 k4 FY XW HY FW TZ FZ XY0 XY1 XY2
  have BC : Hid (Calls Tryz.prog 9 #[.agg #[.int .i64 5, .int .i64 3, .int .u32 2, .int .i64 0, .int .i64 0, .int .u64 1, .int .u64 0]] v4 fun e w' => (∃ a cap, e = .returned (.slice a (encM awc5).1.length cap) ∧ BytesAt (New v4.heap.size) w' (.slice a (encM awc5).1.length cap) (encM awc5).1) ∧ Fr (fun _ _ => True) v4 w') := Lib.hid (bytes_calls v4 awc5 awc5_ok)
  generalize hlen5 : (encM awc5).1.length = len5 at BC
  clear hlen5
  go_wp2_with fail
  try rw [hWZ]
  (with_reducible refine BC.out.mono ?_)
  rintro e u5 ⟨⟨a5, cap5, rfl, bb5⟩, f5⟩
  have BB := Lib.hid bb5
  have FB5 := Lib.hid (F4.out.trans f5)
  have HB5 := Lib.hid (H4.out.fr f5)
  have XB5_0 := Lib.hid (f5.keep _ _ X4_0.out trivial)
  have XB5_1 := Lib.hid (f5.keep _ _ X4_1.out trivial)
  have XB5_2 := Lib.hid (f5.keep _ _ X4_2.out trivial)
  have XB5_3 := Lib.hid (f5.keep _ _ X4_3.out trivial)
  clear BC bb5 f5 hWZ H4
  have AC : Hid (Calls Tryz.prog 10 #[.pointer (some ⟨bs, 0, none⟩), .slice a5 len5 cap5] u5 fun e w' => e = .returned (.agg #[.int .i64 92, .int .u64 0]) ∧ ∃ P' Q', SV w.heap.size P' Q' w' bs b1 b2 aw5.2.1 aw5.2.2 ∧ Kp (U P4 Q4) (U P' Q') u5 w') := Lib.hid ((act_calls u5 bs b1 b2 _ _ _ awc5 HB5.out FB5.out.size BB.out awc5_ok).mono fun e w' ⟨h1, h2⟩ => ⟨h1.trans (congrArg (fun x => Ending.returned (vR x)) aw5_eq), h2⟩)
  go_wp2_with fail
  (with_reducible refine AC.out.mono ?_)
  rintro e y5 ⟨rfl, P5, Q5, h5, k5⟩
  have FY : Hid (Fr (fun _ _ => True) w y5) := Lib.hid (Fr.within ((FB5.out.mono fun _ _ _ => trivial).trans (k5.fr.mono fun c _ h hu => by have := HB5.out.low hu; have := h.2; omega)))
  have XY0 := Lib.hid (HB5.out.keepc k5 XB5_0.out (by decide))
  have XY1 := Lib.hid (HB5.out.keepc k5 XB5_1.out (by decide))
  have XY2 := Lib.hid (HB5.out.keepc k5 XB5_2.out (by decide))
  have XY3 := Lib.hid (HB5.out.keepc k5 XB5_3.out (by decide))
  have HY := Lib.hid h5
  obtain ⟨W5, hW5⟩ : ∃ W, y5.alloc (.cells #[.int .i64 0, .int .u64 0] 36 (0, 0)) = W := ⟨_, rfl⟩
  have FW : Hid (Fr (fun _ _ => True) y5 W5) := hW5 ▸ (Fr.refl _ _).alloc _
  have XW : Hid (W5.heap[y5.heap.size]? = some (.cells #[.int .i64 0, .int .u64 0] 36 (0, 0))) := hW5 ▸ heap_alloc_new y5 _
  have q0 := cell_mk (i := 0) XW.out rfl
  have q1 := cell_mk (i := 1) XW.out rfl
  have z0 := frozen_mk (i := 0) XW.out
  have z1 := frozen_mk (i := 1) XW.out
  obtain ⟨v5, hWZ, TZ, FZ⟩ := set2 XW.out (.int .i64 92) (.int .u64 0)
  have F5 : Hid (Fr (fun _ _ => True) w v5) := Lib.hid (Fr.within (((FY.out.trans FW.out).mono fun _ _ _ => trivial).trans (FZ.mono fun c _ h e => by have := FY.out.size; have := h.2; omega)))
  have H5 := Lib.hid ((HY.out.fr FW.out).frk FZ ((HY.out.fr FW.out).kv_other XW.out FY.out.size (by decide)))
  have X5_0 := Lib.hid (FZ.keep _ _ (FW.out.keep _ _ XY0.out trivial) (by have := lt_of_some XY0.out; omega))
  have X5_1 := Lib.hid (FZ.keep _ _ (FW.out.keep _ _ XY1.out trivial) (by have := lt_of_some XY1.out; omega))
  have X5_2 := Lib.hid (FZ.keep _ _ (FW.out.keep _ _ XY2.out trivial) (by have := lt_of_some XY2.out; omega))
  have X5_3 := Lib.hid (FZ.keep _ _ (FW.out.keep _ _ XY3.out trivial) (by have := lt_of_some XY3.out; omega))
  have X5_4 := Lib.hid TZ
  clear AC h5 k5 FY XW HY FW TZ FZ XY0 XY1 XY2 XY3
  have BC : Hid (Calls Tryz.prog 9 #[.agg #[.int .i64 3, .int .i64 4, .int .u32 1, .int .i64 0, .int .i64 2, .int .u64 0, .int .u64 0]] v5 fun e w' => (∃ a cap, e = .returned (.slice a (encM awc6).1.length cap) ∧ BytesAt (New v5.heap.size) w' (.slice a (encM awc6).1.length cap) (encM awc6).1) ∧ Fr (fun _ _ => True) v5 w') := Lib.hid (bytes_calls v5 awc6 awc6_ok)
  generalize hlen6 : (encM awc6).1.length = len6 at BC
  clear hlen6
  go_wp2_with fail
  try rw [hWZ]
  (with_reducible refine BC.out.mono ?_)
  rintro e u6 ⟨⟨a6, cap6, rfl, bb6⟩, f6⟩
  have BB := Lib.hid bb6
  have FB6 := Lib.hid (F5.out.trans f6)
  have HB6 := Lib.hid (H5.out.fr f6)
  have XB6_0 := Lib.hid (f6.keep _ _ X5_0.out trivial)
  have XB6_1 := Lib.hid (f6.keep _ _ X5_1.out trivial)
  have XB6_2 := Lib.hid (f6.keep _ _ X5_2.out trivial)
  have XB6_3 := Lib.hid (f6.keep _ _ X5_3.out trivial)
  have XB6_4 := Lib.hid (f6.keep _ _ X5_4.out trivial)
  clear BC bb6 f6 hWZ H5
  have AC : Hid (Calls Tryz.prog 10 #[.pointer (some ⟨bs, 0, none⟩), .slice a6 len6 cap6] u6 fun e w' => e = .returned (.agg #[.int .i64 81, .int .u64 0]) ∧ ∃ P' Q', SV w.heap.size P' Q' w' bs b1 b2 aw6.2.1 aw6.2.2 ∧ Kp (U P5 Q5) (U P' Q') u6 w') := Lib.hid ((act_calls u6 bs b1 b2 _ _ _ awc6 HB6.out FB6.out.size BB.out awc6_ok).mono fun e w' ⟨h1, h2⟩ => ⟨h1.trans (congrArg (fun x => Ending.returned (vR x)) aw6_eq), h2⟩)
  go_wp2_with fail
  (with_reducible refine AC.out.mono ?_)
  rintro e y6 ⟨rfl, P6, Q6, h6, k6⟩
  have FY : Hid (Fr (fun _ _ => True) w y6) := Lib.hid (Fr.within ((FB6.out.mono fun _ _ _ => trivial).trans (k6.fr.mono fun c _ h hu => by have := HB6.out.low hu; have := h.2; omega)))
  have XY0 := Lib.hid (HB6.out.keepc k6 XB6_0.out (by decide))
  have XY1 := Lib.hid (HB6.out.keepc k6 XB6_1.out (by decide))
  have XY2 := Lib.hid (HB6.out.keepc k6 XB6_2.out (by decide))
  have XY3 := Lib.hid (HB6.out.keepc k6 XB6_3.out (by decide))
  have XY4 := Lib.hid (HB6.out.keepc k6 XB6_4.out (by decide))
  have HY := Lib.hid h6
  obtain ⟨W6, hW6⟩ : ∃ W, y6.alloc (.cells #[.int .i64 0, .int .u64 0] 36 (0, 0)) = W := ⟨_, rfl⟩
  have FW : Hid (Fr (fun _ _ => True) y6 W6) := hW6 ▸ (Fr.refl _ _).alloc _
  have XW : Hid (W6.heap[y6.heap.size]? = some (.cells #[.int .i64 0, .int .u64 0] 36 (0, 0))) := hW6 ▸ heap_alloc_new y6 _
  have q0 := cell_mk (i := 0) XW.out rfl
  have q1 := cell_mk (i := 1) XW.out rfl
  have z0 := frozen_mk (i := 0) XW.out
  have z1 := frozen_mk (i := 1) XW.out
  obtain ⟨v6, hWZ, TZ, FZ⟩ := set2 XW.out (.int .i64 81) (.int .u64 0)
  have F6 : Hid (Fr (fun _ _ => True) w v6) := Lib.hid (Fr.within (((FY.out.trans FW.out).mono fun _ _ _ => trivial).trans (FZ.mono fun c _ h e => by have := FY.out.size; have := h.2; omega)))
  have H6 := Lib.hid ((HY.out.fr FW.out).frk FZ ((HY.out.fr FW.out).kv_other XW.out FY.out.size (by decide)))
  have X6_0 := Lib.hid (FZ.keep _ _ (FW.out.keep _ _ XY0.out trivial) (by have := lt_of_some XY0.out; omega))
  have X6_1 := Lib.hid (FZ.keep _ _ (FW.out.keep _ _ XY1.out trivial) (by have := lt_of_some XY1.out; omega))
  have X6_2 := Lib.hid (FZ.keep _ _ (FW.out.keep _ _ XY2.out trivial) (by have := lt_of_some XY2.out; omega))
  have X6_3 := Lib.hid (FZ.keep _ _ (FW.out.keep _ _ XY3.out trivial) (by have := lt_of_some XY3.out; omega))
  have X6_4 := Lib.hid (FZ.keep _ _ (FW.out.keep _ _ XY4.out trivial) (by have := lt_of_some XY4.out; omega))
  have X6_5 := Lib.hid TZ
  clear AC h6 k6 FY XW HY FW TZ FZ XY0 XY1 XY2 XY3 XY4
  obtain ⟨W7, hW7⟩ : ∃ W, v6.alloc (.cells #[.int .i64 0, .int .u64 0] 36 (0, 0)) = W := ⟨_, rfl⟩
  have FW : Hid (Fr (fun _ _ => True) v6 W7) := hW7 ▸ (Fr.refl _ _).alloc _
  have XW : Hid (W7.heap[v6.heap.size]? = some (.cells #[.int .i64 0, .int .u64 0] 36 (0, 0))) := hW7 ▸ heap_alloc_new v6 _
  obtain ⟨v7, hWY, TZ, FZ⟩ := set2 XW.out (.int .i64 0) (.int .u64 1)
  have Y0 := FZ.keep _ _ (FW.out.keep _ _ X6_0.out trivial) (by have := lt_of_some X6_0.out; omega)
  have Y1 := FZ.keep _ _ (FW.out.keep _ _ X6_1.out trivial) (by have := lt_of_some X6_1.out; omega)
  have Y2 := FZ.keep _ _ (FW.out.keep _ _ X6_2.out trivial) (by have := lt_of_some X6_2.out; omega)
  have Y3 := FZ.keep _ _ (FW.out.keep _ _ X6_3.out trivial) (by have := lt_of_some X6_3.out; omega)
  have Y4 := FZ.keep _ _ (FW.out.keep _ _ X6_4.out trivial) (by have := lt_of_some X6_4.out; omega)
  have Y5 := FZ.keep _ _ (FW.out.keep _ _ X6_5.out trivial) (by have := lt_of_some X6_5.out; omega)
  have Y6 := TZ
  have d0_0 := cell_mk (i := 0) Y0 rfl
  have d0_1 := cell_mk (i := 1) Y0 rfl
  have d1_0 := cell_mk (i := 0) Y1 rfl
  have d1_1 := cell_mk (i := 1) Y1 rfl
  have d2_0 := cell_mk (i := 0) Y2 rfl
  have d2_1 := cell_mk (i := 1) Y2 rfl
  have d3_0 := cell_mk (i := 0) Y3 rfl
  have d3_1 := cell_mk (i := 1) Y3 rfl
  have d4_0 := cell_mk (i := 0) Y4 rfl
  have d4_1 := cell_mk (i := 1) Y4 rfl
  have d5_0 := cell_mk (i := 0) Y5 rfl
  have d5_1 := cell_mk (i := 1) Y5 rfl
  have d6_0 := cell_mk (i := 0) Y6 rfl
  have d6_1 := cell_mk (i := 1) Y6 rfl
  have q0 := cell_mk (i := 0) XW.out rfl
  have q1 := cell_mk (i := 1) XW.out rfl
  have z0 := frozen_mk (i := 0) XW.out
  have z1 := frozen_mk (i := 1) XW.out
  have FE : Hid (Fr (fun _ _ => True) w v7) := Lib.hid (Fr.within (((F6.out.trans FW.out).mono fun _ _ _ => trivial).trans (FZ.mono fun c _ h e => by have := F6.out.size; have := h.2; omega)))
  clear XW FW TZ FZ Y0 Y1 Y2 Y3 Y4 Y5 Y6
  have EQ := eql_reply v7
  go_wp2
  try rw [hWY]
  go_ret
  exact ⟨rfl, FE.out⟩
end Go.Proofs.YtlolfcnfcgegdaaGreat
/- The walk of ServiceLeaves. -/
namespace Go.Proofs.YtlolfcnfcgegdaaGreat
open Go.RowKit
set_option linter.unusedVariables false
set_option linter.unusedSimpArgs false

theorem list7 {α : Type} {l : List α} (h : l.length = 7) : ∃ a b c d e f g, l = [a, b, c, d, e, f, g] := by match l, h with | [a, b, c, d, e, f, g], _ => exact ⟨a, b, c, d, e, f, g, rfl⟩
/-- The i-th command of a row. -/
def CmdAt (w : World) (b off i : Nat) (c : Cmd) : Prop :=
  w.cell? ⟨b, off + i * 7, none⟩ = some (.int .i64 c.op) ∧ w.cell? ⟨b, off + i * 7 + 1, none⟩ = some (.int .i64 c.cl) ∧ w.cell? ⟨b, off + i * 7 + 2, none⟩ = some (.int .u32 (c.sq : Nat)) ∧ w.cell? ⟨b, off + i * 7 + 3, none⟩ = some (.int .i64 c.rg) ∧
    w.cell? ⟨b, off + i * 7 + 4, none⟩ = some (.int .i64 c.md) ∧ w.cell? ⟨b, off + i * 7 + 5, none⟩ = some (.int .u64 (c.tk : Nat)) ∧ w.cell? ⟨b, off + i * 7 + 6, none⟩ = some (.int .u64 (c.tm : Nat)) ∧ c.ok
set_option maxRecDepth 100000 in
theorem rd_cmd {w : World} {cs : List Value} (hr : Rd Tryz.prog w 33 cs) (hl : cs.length = 7) : ∃ c : Cmd, c.ok ∧ cs = [.int .i64 c.op, .int .i64 c.cl, .int .u32 (c.sq : Nat), .int .i64 c.rg, .int .i64 c.md, .int .u64 (c.tk : Nat), .int .u64 (c.tm : Nat)] := by
  obtain ⟨_, hf⟩ := hr.struct (sz := 7) Tryz.underlying33 (by kernel_rfl)
  obtain ⟨c0, c1, c2, c3, c4, c5, c6, rfl⟩ := list7 hl
  obtain ⟨x0, h0, _⟩ := (show Rd Tryz.prog w 3 [c0] from hf 0 _ rfl).int Tryz.underlying3
  obtain ⟨x1, h1, _⟩ := (show Rd Tryz.prog w 3 [c1] from hf 1 _ rfl).int Tryz.underlying3
  obtain ⟨x2, h2, w2⟩ := (show Rd Tryz.prog w 30 [c2] from hf 2 _ rfl).int Tryz.underlying30
  obtain ⟨x3, h3, _⟩ := (show Rd Tryz.prog w 3 [c3] from hf 3 _ rfl).int Tryz.underlying3
  obtain ⟨x4, h4, _⟩ := (show Rd Tryz.prog w 3 [c4] from hf 4 _ rfl).int Tryz.underlying3
  obtain ⟨x5, h5, w5⟩ := (show Rd Tryz.prog w 31 [c5] from hf 5 _ rfl).int Tryz.underlying31
  obtain ⟨x6, h6, w6⟩ := (show Rd Tryz.prog w 31 [c6] from hf 6 _ rfl).int Tryz.underlying31
  obtain ⟨l2, u2⟩ := bounds_u32 w2
  obtain ⟨l5, u5⟩ := bounds_u64 w5
  obtain ⟨l6, u6⟩ := bounds_u64 w6
  have e0 : c0 = .int .i64 x0 := by injection h0
  have e1 : c1 = .int .i64 x1 := by injection h1
  have e2 : c2 = .int .u32 x2 := by injection h2
  have e3 : c3 = .int .i64 x3 := by injection h3
  have e4 : c4 = .int .i64 x4 := by injection h4
  have e5 : c5 = .int .u64 x5 := by injection h5
  have e6 : c6 = .int .u64 x6 := by injection h6
  obtain ⟨y2, rfl⟩ := Int.eq_ofNat_of_zero_le l2
  obtain ⟨y5, rfl⟩ := Int.eq_ofNat_of_zero_le l5
  obtain ⟨y6, rfl⟩ := Int.eq_ofNat_of_zero_le l6
  exact ⟨⟨x0, x1, y2, x3, x4, y5, y6⟩, ⟨by show y2 < _; omega, by show y5 < _; omega, by show y6 < _; omega⟩, by rw [e0, e1, e2, e3, e4, e5, e6]⟩
set_option maxRecDepth 100000 in
theorem cmds_at {w : World} {a : Option Addr} {len cap : Nat} (h : Rd Tryz.prog w 22 [.slice a len cap]) (hl : 0 < len) :
    ∃ b off, a = some ⟨b, off, none⟩ ∧ ∀ i, i < len → ∃ c, CmdAt w b off i c := by
  obtain ⟨a', len', cap', hv, _, _, _, hc⟩ := h.slice (sz := 7) Tryz.underlying22 (by kernel_rfl)
  obtain ⟨rfl, rfl, rfl⟩ : a = a' ∧ len = len' ∧ cap = cap' := by simpa using hv
  have key : ∀ i, i < len → ∃ ad c, a = some ad ∧ w.cell? (ad.add (i * 7)) = some (.int .i64 c.op) ∧ w.cell? (ad.add (i * 7 + 1)) = some (.int .i64 c.cl) ∧ w.cell? (ad.add (i * 7 + 2)) = some (.int .u32 (c.sq : Nat)) ∧ w.cell? (ad.add (i * 7 + 3)) = some (.int .i64 c.rg) ∧ w.cell? (ad.add (i * 7 + 4)) = some (.int .i64 c.md) ∧ w.cell? (ad.add (i * 7 + 5)) = some (.int .u64 (c.tk : Nat)) ∧ w.cell? (ad.add (i * 7 + 6)) = some (.int .u64 (c.tm : Nat)) ∧ Cmd.ok c := by
    intro i hi
    obtain ⟨ad, cs, ha, hcl, hat, hr⟩ := hc i hi
    obtain ⟨c, hok, rfl⟩ := rd_cmd hr hcl
    exact ⟨ad, c, ha, hat 0 (by omega), hat 1 (by omega), hat 2 (by omega), hat 3 (by omega), hat 4 (by omega), hat 5 (by omega), hat 6 (by omega), hok⟩
  obtain ⟨ad, c, ha, e0, _⟩ := key 0 hl
  rw [Nat.zero_mul] at e0
  obtain ⟨b, off, rfl⟩ := spot_of e0
  refine ⟨b, off, ha, fun i hi => ?_⟩
  obtain ⟨ad', c, ha', e0, e1, e2, e3, e4, e5, e6, h7⟩ := key i hi
  rw [ha] at ha'
  cases ha'
  simp only [add_at] at e0 e1 e2 e3 e4 e5 e6
  exact ⟨c, e0, e1, e2, e3, e4, e5, e6, h7⟩
theorem CmdAt.fr {w w' : World} {b off i : Nat} {c : Cmd} (h : CmdAt w b off i c) (f : Fr (fun b _ => b < w.heap.size) w w') : CmdAt w' b off i c := by
  obtain ⟨h0, h1, h2, h3, h4, h5, h6, h7⟩ := h
  exact ⟨f.old h0, f.old h1, f.old h2, f.old h3, f.old h4, f.old h5, f.old h6, h7⟩

/-- Closing a session. -/
theorem shut_act (M : MT) (L : Lk) (hL : L.ok) (cl : Nat) (hc : cl < 16) : ∃ k M' L', actM M L ⟨2, (cl : Nat), 0, 0, 0, 0, 0⟩ = (⟨k, 0⟩, M', L') ∧ ((k = 0 ∧ ∀ r, r < 4 → Gone L' cl r) ∨ k = 81) := by
  have hf : (⟨2, (cl : Nat), 0, 0, 0, 0, 0⟩ : Cmd).fine = true := by unfold Cmd.fine inByte; simp; omega
  unfold actM
  rw [if_pos hf]
  unfold applyC Cmd.cm
  dsimp only
  rw [if_neg (by decide), if_neg (by decide), if_pos (by decide), Int.toNat_natCast]
  refine ⟨_, _, _, rfl, ?_⟩
  by_cases h0 : (closeM M (cl : Nat)).1 = 0
  · rw [if_pos h0, h0]
    exact .inl ⟨rfl, fun r hr => leaveM_gone hL hc r hr⟩
  · refine .inr ?_
    unfold closeM at h0 ⊢
    split
    · rename_i h; rw [if_pos h] at h0; exact absurd rfl h0
    · rfl
theorem SV.ok {n : Nat} {P Q : Nat → Prop} {w : World} {bs b1 b2 : Nat} {M : MT} {L : Lk} (h : SV n P Q w bs b1 b2 M L) : L.ok := by
  obtain ⟨_, _, h⟩ := h.lk
  exact h.ok
theorem SV.old {n : Nat} {P Q X : Nat → Prop} {w0 w w' : World} {bs b1 b2 : Nat} {M : MT} {L : Lk} (h : SV n P Q w bs b1 b2 M L) (k : Kp (U P Q) X w w') (f : Fr (fun c _ => c < n) w0 w) : Fr (fun c _ => c < n) w0 w' :=
  f.trans (k.fr.mono fun c _ hc hu => by have := h.low hu; omega)

end Go.Proofs.YtlolfcnfcgegdaaGreat
