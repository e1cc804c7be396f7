/- Texts of the proofs, part 34: what the functions that they reach do, walked; no conditions beyond those that each states. -/
import Derived.Deep.QuietTactic
import Derived.BigQuiet
import Derived.Test.YtcpbmempfeloaaaDoorZz24bde1f07d
set_option linter.unusedVariables false
set_option linter.unusedSimpArgs false
/- Keep: Open (printed by kopen.py). -/
namespace Go.Proofs.YtcpbmempfeloaaaDoor
open Go.RowKit
set_option linter.unusedVariables false
set_option linter.unusedSimpArgs false

theorem set3e {w : World} {g : Nat} {t : TypeId} {a0 a1 a2 a3 a4 : Value} (h : w.heap[g]? = some (.cells #[a0, a1, a2, a3, a4] t (0, 0))) (v2 v3 v4 : Value) :
    ∃ W, (((w.setCell ⟨g, 2, none⟩ v2).setCell ⟨g, 3, none⟩ v3).setCell ⟨g, 4, none⟩ v4) = W ∧ W.heap[g]? = some (.cells #[a0, a1, v2, v3, v4] t (0, 0)) ∧ Fr (fun c _ => c ≠ g) w W :=
  ⟨_, rfl, heap_setCell_same (o := 4) (heap_setCell_same (o := 3) (heap_setCell_same (o := 2) h v2) v3) v4, (((Fr.refl _ _).setCell (fun _ _ h => h rfl) _).setCell (fun _ _ h => h rfl) _).setCell (fun _ _ h => h rfl) _⟩
theorem set2a {w : World} {g : Nat} {t : TypeId} {a0 a1 a2 a3 a4 : Value} (h : w.heap[g]? = some (.cells #[a0, a1, a2, a3, a4] t (0, 0))) (v0 v1 : Value) :
    ∃ W, ((w.setCell ⟨g, 0, none⟩ v0).setCell ⟨g, 1, none⟩ v1) = W ∧ W.heap[g]? = some (.cells #[v0, v1, a2, a3, a4] t (0, 0)) ∧ Fr (fun c _ => c ≠ g) w W :=
  ⟨_, rfl, heap_setCell_same (o := 1) (heap_setCell_same (o := 0) h v0) v1, ((Fr.refl _ _).setCell (fun _ _ h => h rfl) _).setCell (fun _ _ h => h rfl) _⟩
theorem rows_box {α : Type} {enc : α → List Value} {k n g : Nat} {X : Nat → Prop} {t t' : TypeId} {w w' : World} {v : Value} {xs : List α} {cs' : Array Value} {fz' : Nat × Nat} (h : RowsAt (fun c o => (n ≤ c ∧ ¬ X c) ∧ ∃ cs fz, o = .cells cs t fz) w v k enc xs) (hg : w.heap[g]? = some (.cells cs' t' fz')) (ht : t' ≠ t) (hf : Fr (fun c _ => c ≠ g) w w') :
    RowsAt (fun c o => (n ≤ c ∧ ¬ X c) ∧ ∃ cs fz, o = .cells cs t fz) w' v k enc xs :=
  h.fr hf fun c o ho hc e => by
    obtain ⟨_, cs, fz, rfl⟩ := hc
    rw [e, hg] at ho
    exact ht (Obj.cells.inj (Option.some.inj ho)).2.1
theorem take_one {α : Type} (l : List α) (i : Nat) (h : i < l.length) : l.take (i + 1) = l.take i ++ [l[i]] := by rw [List.take_succ_eq_append_getElem h]
theorem jall_len {J : Jn} {rs0 : List (Nat × En)} (h : J.all = rs0.map recB) : J.all.length = rs0.length := by rw [h, List.length_map]
set_option maxRecDepth 100000 in
set_option maxHeartbeats 8000000 in
/-- Open. -/
theorem kopen_calls {n : Nat} {P : Nat → Prop} {w : World} {bd : Nat} {D : Dk} (h : SD n P w bd D) (h0 : 0 < n) (hn : n ≤ w.heap.size) (ht : TabOK w) (hq : D.pend.length < 1000000) (m : Int) (J : Jn) (D' : Dk) (hr : jopen D 3 m = (0, some J, D')) (s0 : Sta) (rs0 : List (Nat × En)) (hs : s0.wf) (hvt : -1 ≤ s0.vote ∧ s0.vote < 255)
    (hld : (∃ mm, loadM D' 1 = (headB s0, mm, 0)) ∨ (∃ bb mm, loadM D' 1 = (bb, mm, 41)) ∧ s0.term = 0 ∧ s0.vote = -1 ∧ s0.base = 0 ∧ s0.bt = 0) (hall : J.all = rs0.map recB) (hrc : ∀ r ∈ rs0, r.1 < 18446744073709551616 ∧ r.2.t < 18446744073709551616 ∧ badE r.2 = false) (hlen : rs0.length ≤ 1000) (hbig : s0.base + rs0.length + 1 < 18446744073709551616) :
    Calls Tryd.prog 36 #[.pointer (some ⟨bd, 0, none⟩), .int .i64 1, .int .i64 m] w fun e w' => ∃ bk bj X P' a4 c4 hv rs xs a c, e = .returned (.tuple #[.pointer (some ⟨bk, 0, none⟩), vS (openS s0 rs0) (.slice a xs.length c), .int .i64 0]) ∧ KM n X P' w' bk bj bd m ⟨headB s0, s0.base, rs0⟩ J D' a4 c4 hv rs ∧ SA n X w' (openS s0 rs0) (.slice a xs.length c) xs ∧ Kp P X w w' := by
  obtain ⟨W1, hW1⟩ : ∃ W, w.alloc (.cells #[.int .u64 0, .int .i64 0, .int .u64 0, .int .u64 0, .slice none 0 0] 68 (0, 0)) = W := ⟨_, rfl⟩
  have F1 : Hid (Fr (fun _ _ => True) w W1) := hW1 ▸ (Fr.refl _ _).alloc _
  have X1 : Hid (W1.heap[w.heap.size]? = some (.cells #[.int .u64 0, .int .i64 0, .int .u64 0, .int .u64 0, .slice none 0 0] 68 (0, 0))) := hW1 ▸ heap_alloc_new w _
  have H1 : SD n P W1 bd D := ⟨h.dd.tt F1.out, h.lo, fun c hc => Nat.lt_of_lt_of_le (h.hi c hc) F1.out.size⟩
  have NP0 : ¬ P 0 := fun k => by have := h.lo 0 k; omega
  have NPT : Hid (¬ P w.heap.size) := fun k => by have := h.hi _ k; omega
  have T1 : Hid (TabOK W1) := ht.kp (Kp.rfl' P F1.out) NP0
  have JO := Lib.hid (sd_open H1 (Nat.le_trans hn F1.out.size) 3 m T1.out hq J D' 0 hr)
  rw [jall_len hall] at JO
  have HLN := Lib.hid hlen
  obtain ⟨L, hL⟩ : ∃ L, rs0.length = L := ⟨_, rfl⟩
  have HL0 := Lib.hid hL
  rw [hL] at JO
  have HRC := Lib.hid hrc
  have HALL := Lib.hid hall
  have HH0 := Lib.hid h0
  have HN := Lib.hid hn
  have BC0 : Hid (∀ (X P1 : Nat → Prop) W bk bj, KM n X P1 W bk bj bd m ⟨[], 0, []⟩ J D' none 0 (.slice none 0 0) [] → n ≤ W.heap.size → TabOK W → Calls Tryd.prog 82 #[.pointer (some ⟨bk, 0, none⟩)] W fun e w' => e = .returned (.tuple #[vS s0 (.slice none 0 0), .bool true]) ∧ (∃ a4' c4', KM n X P1 w' bk bj bd m ⟨headB s0, s0.base, []⟩ J D' a4' c4' (.slice none 0 0) []) ∧ Kp X X W w') := fun X P1 W bk bj hm hnw htw => begin_any hm h0 hnw htw s0 hs hvt hld
  obtain ⟨tm, htm⟩ : ∃ x, s0.term = x := ⟨_, rfl⟩
  obtain ⟨vo, hvo⟩ : ∃ x, s0.vote = x := ⟨_, rfl⟩
  obtain ⟨ba, hba⟩ : ∃ x, s0.base = x := ⟨_, rfl⟩
  obtain ⟨bt, hbt⟩ : ∃ x, s0.bt = x := ⟨_, rfl⟩
  have HOS : Hid (openS s0 rs0 = raise ⟨tm, vo, ba, bt, addE ba [] rs0⟩) := by
    show openS _ _ = _
    unfold openS
    rw [← htm, ← hvo, ← hba, ← hbt]
  have BB : Hid (tm < 18446744073709551616 ∧ ba + L + 1 < 18446744073709551616) := ⟨htm ▸ hs.1, by rw [← hba, ← hL]; exact hbig⟩
  unfold vS at BC0
  rw [htm, hvo, hba, hbt] at BC0
  rw [hba]
  generalize headB s0 = hb at BC0 ⊢
  generalize openS s0 rs0 = R at HOS ⊢
  clear htm hvo hba hbt
  have NP0H := Lib.hid NP0
  have l1000 : L ≤ 1000 := by omega
  clear h h0 hn ht hq hr hs hvt hld hall hrc hlen hbig H1 NP0
  clear s0
  go_enter Tryd.func36, Tryd.ntmps36
  go_wp2_with fail
  try rw [hW1]
  clear hW1
  (with_reducible refine JO.out.mono ?_)
  rintro e w2 ⟨bj, a1, c1, V, P1, rfl, st2, ol2, hV2, kp2⟩
  have T2 : TabOK w2 := T1.out.kp kp2 NP0H.out
  have N2 : n ≤ w2.heap.size := Nat.le_trans HN.out (Nat.le_trans F1.out.size kp2.fr.size)
  have R2 := kp2.fr.keep _ _ X1.out NPT.out
  have NT2 : ¬ P1 w.heap.size := kp2.out _ (lt_of_some X1.out) NPT.out
  obtain ⟨bk, hbk⟩ : ∃ g, w2.heap.size = g := ⟨_, rfl⟩
  obtain ⟨W3, hW3⟩ : ∃ W, w2.alloc (.cells #[.pointer (some ⟨bd, 0, none⟩), .pointer (some ⟨bj, 0, none⟩), .int .i64 1, .int .i64 m, .slice none 0 0, .int .u64 0, .slice none 0 0] 135 (0, 0)) = W := ⟨_, rfl⟩
  have m3 := KM.mk0 (ring := m) st2 N2
  have F23 : Fr (fun _ _ => True) w2 W3 := hW3 ▸ (Fr.refl _ _).alloc _
  obtain ⟨X3, hX3⟩ : ∃ X : Nat → Prop, (fun c => P1 c ∨ c = w2.heap.size) = X := ⟨_, rfl⟩
  have M3 : Hid (KM n X3 P1 W3 bk bj bd m ⟨[], 0, []⟩ J D' none 0 (.slice none 0 0) []) := by
    rw [hX3] at m3
    unfold W7 at m3
    rw [hbk] at m3
    rw [← hW3]
    exact m3
  have K23 : Kp P1 X3 w2 W3 := ⟨F23.mono fun _ _ _ => trivial, fun c hl hp hx => by
    rw [← hX3] at hx
    rcases hx with hx | hx
    · exact hp hx
    · omega⟩
  have K03 : Hid (Kp P X3 w W3) := ((Kp.rfl' P F1.out).trans kp2).trans K23
  have LS3 : Hid (LsAt (fun c _ => ¬ X3 c) W3 (.slice a1 L c1) (rs0.map recB)) := by
    have q := ol2.ls
    rw [hV2, HALL.out] at q
    exact lsAt_kp q K23
  have T3 : TabOK W3 := T2.kp K23 fun k => by have := st2.lo 0 k; have := HH0.out; omega
  have NX3 : Hid (¬ X3 w.heap.size) := by
    show ¬ _
    exact K23.out _ (lt_of_some R2) NT2
  have R3 : Hid (W3.heap[w.heap.size]? = some (.cells #[.int .u64 0, .int .i64 0, .int .u64 0, .int .u64 0, .slice none 0 0] 68 (0, 0))) := F23.keep _ _ R2 trivial
  have BC := Lib.hid (BC0.out X3 P1 W3 bk bj M3.out (Nat.le_trans N2 F23.size) T3)
  clear JO T2 T3 st2 ol2 hV2 kp2 hX3 m3 N2 R2 NT2 F23 K23 HALL T1 hL BC0
  go_wp2_with fail
  try rw [hbk]
  try rw [hW3]
  clear hbk hW3
  (with_reducible refine BC.out.mono ?_)
  rintro e w4 ⟨rfl, ⟨a4, c4, m4⟩, k4⟩
  have M4 := Lib.hid m4
  have K04 : Hid (Kp P X3 w w4) := K03.out.trans k4
  have LS4 := Lib.hid (lsAt_kp LS3.out k4)
  have R4 := Lib.hid (k4.fr.keep _ _ R3.out NX3.out)
  obtain ⟨Wz, hWz⟩ : ∃ W, w4.alloc (.cells #[.int .u64 0, .int .i64 0, .int .u64 0, .int .u64 0, .slice none 0 0] 68 (0, 0)) = W := ⟨_, rfl⟩
  have FZ : Hid (Fr (fun _ _ => True) w4 Wz) := hWz ▸ (Fr.refl _ _).alloc _
  have TZ : Hid (Wz.heap[w4.heap.size]? = some (.cells #[.int .u64 0, .int .i64 0, .int .u64 0, .int .u64 0, .slice none 0 0] 68 (0, 0))) := hWz ▸ heap_alloc_new w4 _
  obtain ⟨gs, hgs⟩ : ∃ g, w4.heap.size = g := ⟨_, rfl⟩
  rw [hgs] at TZ
  have NG4 : Hid (¬ X3 gs ∧ n ≤ gs ∧ w.heap.size < gs) := ⟨fun k => by have := m4.hi _ k; omega, by rw [← hgs]; exact Nat.le_trans HN.out K04.out.fr.size, by rw [← hgs]; exact lt_of_some R4.out⟩
  have p0 := cell_mk (i := 0) TZ.out rfl
  have p1 := cell_mk (i := 1) TZ.out rfl
  have p2 := cell_mk (i := 2) TZ.out rfl
  have p3 := cell_mk (i := 3) TZ.out rfl
  have p4 := cell_mk (i := 4) TZ.out rfl
  have y0 := frozen_mk (i := 0) TZ.out
  have y1 := frozen_mk (i := 1) TZ.out
  have y2 := frozen_mk (i := 2) TZ.out
  have y3 := frozen_mk (i := 3) TZ.out
  have y4 := frozen_mk (i := 4) TZ.out
  obtain ⟨W5, hW5, t5, g5⟩ := set5 TZ.out (.int .u64 (tm : Nat)) (.int .i64 vo) (.int .u64 (ba : Nat)) (.int .u64 (bt : Nat)) (.slice none 0 0)
  have X5 := Lib.hid t5
  have F45 : Hid (Fr (fun _ _ => True) w4 W5) := Fr.within ((FZ.out.mono fun _ _ _ => trivial).trans (g5.mono fun c _ h e => by have := h.2; omega))
  have M5 := Lib.hid (m4.tt F45.out)
  have K05 : Hid (Kp P X3 w W5) := K04.out.trans (Kp.rfl' X3 F45.out)
  have LS5 := Lib.hid (lsAt_kp LS4.out (Kp.rfl' X3 F45.out))
  have R5 := Lib.hid (F45.out.keep _ _ R4.out trivial)
  have HN5 : Hid (n ≤ W5.heap.size) := Nat.le_trans HN.out K05.out.fr.size
  clear BC m4 k4 K03 K04 LS3 LS4 R3 R4 M3 M4 t5 g5 FZ F45
  go_wp2
  try rw [hWz]
  try rw [hgs]
  try rw [hW5]
  clear hWz hgs hW5 p0 p1 p2 p3 p4 y0 y1 y2 y3 y4 TZ
  go_loopw [14, 51] (fun v14 v51 wr => ∃ (i : Nat) (X' : Nat → Prop) (hv' : Value) (rs' : List RV), v14 = .bool true ∧ v51 = .int .i64 i ∧ i ≤ L ∧ Hid (KM n X' P1 wr bk bj bd m ⟨hb, ba, rs0.take i⟩ J D' a4 c4 hv' rs') ∧ Hid (rs'.length = i) ∧ Hid (Kp X3 X' W5 wr)) (fun _ v51 _ => L - (intOf v51).toNat)
  case atStart => exact ⟨0, X3, _, [], rfl, rfl, Nat.zero_le _, M5, rfl, Lib.hid (Kp.refl _ _)⟩
  case round =>
    obtain ⟨i, X', hv', rs', rfl, rfl, hi, MJ, HL, KJ⟩ := hrel
    by_cases hlt : i < L
    · have ltI : decide ((i : Int) < L) = true := by simp; omega
      have hi0 : i < rs0.length := by rw [HL0.out]; exact hlt
      obtain ⟨be, off, vb, ha1, hcb, hbb⟩ := (lsAt_kp LS5.out KJ.out).at i (by rw [List.length_map]; exact hi0)
      rw [List.getElem_map] at hbb
      have hrc := HRC.out _ (List.getElem_mem hi0)
      have HTK := Lib.hid (take_one rs0 i hi0)
      generalize rs0[i] = r at hbb hrc HTK
      obtain ⟨at_, t, k, d⟩ := r
      obtain ⟨av, cv, hvb⟩ := hbb.form
      obtain ⟨ml, hml⟩ : ∃ x, (recB (at_, (⟨t, k, d⟩ : En))).length = x := ⟨_, rfl⟩
      rw [hml] at hvb
      subst hvb ha1
      obtain ⟨dl, hdl⟩ : ∃ x, d.length = x := ⟨_, rfl⟩
      have PC := Lib.hid (parse_calls' wr av cv ml at_ t k d hbb hrc.1 hrc.2.1 hrc.2.2)
      rw [hdl] at PC
      have HDL : Hid (d.length = dl) := hdl
      have HLI : Hid (i < 1000) := by show _ < _; omega
      clear hbb hrc hml hdl
      go_wp2_with fail
      (with_reducible refine PC.out.mono ?_)
      rintro e w6 ⟨a8, c8, rfl, b8, f8⟩
      clear hcb PC
      obtain ⟨Wy, hWy⟩ : ∃ W, w6.alloc (.cells #[.int .u64 0, .int .u64 0, .int .i64 0, .slice none 0 0] 141 (0, 0)) = W := ⟨_, rfl⟩
      have FY : Hid (Fr (fun _ _ => True) w6 Wy) := hWy ▸ (Fr.refl _ _).alloc _
      have TY : Hid (Wy.heap[w6.heap.size]? = some (.cells #[.int .u64 0, .int .u64 0, .int .i64 0, .slice none 0 0] 141 (0, 0))) := hWy ▸ heap_alloc_new w6 _
      obtain ⟨g2, hg2⟩ : ∃ g, w6.heap.size = g := ⟨_, rfl⟩
      rw [hg2] at TY
      have p0 := cell_mk (i := 0) TY.out rfl
      have p1 := cell_mk (i := 1) TY.out rfl
      have p2 := cell_mk (i := 2) TY.out rfl
      have p3 := cell_mk (i := 3) TY.out rfl
      have y0 := frozen_mk (i := 0) TY.out
      have y1 := frozen_mk (i := 1) TY.out
      have y2 := frozen_mk (i := 2) TY.out
      have y3 := frozen_mk (i := 3) TY.out
      obtain ⟨W3, hW3, t3, g3⟩ := set4 TY.out (.int .u64 (at_ : Nat)) (.int .u64 (t : Nat)) (.int .i64 k) (.slice a8 dl c8)
      have T3 := Lib.hid t3
      have F63 : Hid (Fr (fun _ _ => True) w6 W3) := Fr.within ((FY.out.mono fun _ _ _ => trivial).trans (g3.mono fun c _ h e => by have := h.2; omega))
      have FR3 : Hid (Fr (fun _ _ => True) wr W3) := f8.trans F63.out
      have M3 := Lib.hid (MJ.out.tt FR3.out)
      have KW3 : Hid (Kp X3 X' W5 W3) := KJ.out.trans (Kp.rfl' X' FR3.out)
      have B8 : Hid (BytesAt (Yk X' n 5) W3 (.slice a8 dl c8) d) := by
        have q := b8.tt F63.out
        exact q.mono fun c o _ k => Yk.new k fun c hc => MJ.out.hi c hc
      obtain ⟨a', c', hv1⟩ := own_form MJ.out.own
      rw [HL.out] at hv1
      subst hv1
      have NG : Hid (¬ X' g2 ∧ g2 ≠ bk) := ⟨fun k => by have := MJ.out.hi _ k; have := f8.size; omega, fun e => by have := MJ.out.hi _ MJ.out.xb; have := f8.size; omega⟩
      have SS : Hid (∀ W, Fr (fun c _ => (Value.slice a' i c').ownBlock ≠ some c) W3 W → W.cell? ⟨bk, 6, none⟩ = some (.slice a' i c') ∧ W.cell? ⟨g2, 0, none⟩ = some (.int .u64 (at_ : Nat)) ∧ W.cell? ⟨g2, 1, none⟩ = some (.int .u64 (t : Nat)) ∧ W.cell? ⟨g2, 2, none⟩ = some (.int .i64 k) ∧ W.cell? ⟨g2, 3, none⟩ = some (.slice a8 dl c8)) := fun W f => by
        have t := f.keep _ _ T3.out fun e => NG.out.1 (M3.out.ox _ e).1
        have tk := f.keep _ _ M3.out.top fun e => (M3.out.ox _ e).2.2 rfl
        unfold W7 at tk
        exact ⟨cell_mk tk rfl, cell_mk t rfl, cell_mk t rfl, cell_mk t rfl, cell_mk t rfl⟩
      have F5 : Hid (Fr (fun c _ => (Value.slice a' i c').ownBlock ≠ some c) W3 W3.drew) := (Fr.refl _ _).drew
      have F5t : Hid (Fr (fun _ _ => True) W3 W3.drew) := (Fr.refl _ _).drew
      clear b8 f8 t3 g3 FY
      go_upto_region 13 with fail
      try rw [hWy]
      try rw [hg2]
      try rw [hW3]
      clear hWy hg2 hW3 p0 p1 p2 p3 y0 y1 y2 y3 TY
      refine wp_region_heldK (S1 := fun _ => True) (S0 := fun W => W.cell? ⟨bk, 6, none⟩ = some (.slice a' i c') ∧ W.cell? ⟨g2, 0, none⟩ = some (.int .u64 (at_ : Nat)) ∧ W.cell? ⟨g2, 1, none⟩ = some (.int .u64 (t : Nat)) ∧ W.cell? ⟨g2, 2, none⟩ = some (.int .i64 k) ∧ W.cell? ⟨g2, 3, none⟩ = some (.slice a8 dl c8)) (k := 10) (by kernel_rfl) ?_
      refine wpAnyK_take (i := 0) (v := ?v1) rfl (by rfl) (by kernel_rfl) (by kernel_rfl) (by kernel_rfl) (by kernel_rfl) (fun _ _ _ h => h) (Or.inl ⟨by rfl, ?hy1⟩) trivial (SS.out _ F5.out) ?rest1
      case hy1 => (intro w hSw; (try dsimp only at hSw); (try simp only [List.getElem_toArray, List.getElem_cons_zero, List.getElem_cons_succ]); go_simp; try with_reducible rfl)
      try simp only [List.getElem_toArray, List.getElem_cons_zero, List.getElem_cons_succ, Act.put, List.setIfInBounds_toArray, List.set_cons_zero, List.set_cons_succ]
      refine wpAnyK_take (i := 1) (v := ?v2) rfl (by rfl) (by kernel_rfl) (by kernel_rfl) (by kernel_rfl) (by kernel_rfl) (fun _ _ _ h => h) (Or.inl ⟨by rfl, ?hy2⟩) trivial (SS.out _ F5.out) ?rest2
      case hy2 => (intro w hSw; (try dsimp only at hSw); (try simp only [List.getElem_toArray, List.getElem_cons_zero, List.getElem_cons_succ]); go_simp; try with_reducible rfl)
      try simp only [List.getElem_toArray, List.getElem_cons_zero, List.getElem_cons_succ, Act.put, List.setIfInBounds_toArray, List.set_cons_zero, List.set_cons_succ]
      refine wpAnyK_take (i := 2) (v := ?v3) rfl (by rfl) (by kernel_rfl) (by kernel_rfl) (by kernel_rfl) (by kernel_rfl) (fun _ _ _ h => h) (Or.inl ⟨by rfl, ?hy3⟩) trivial (SS.out _ F5.out) ?rest3
      case hy3 => (intro w hSw; (try dsimp only at hSw); (try simp only [List.getElem_toArray, List.getElem_cons_zero, List.getElem_cons_succ]); go_simp; try with_reducible rfl)
      try simp only [List.getElem_toArray, List.getElem_cons_zero, List.getElem_cons_succ, Act.put, List.setIfInBounds_toArray, List.set_cons_zero, List.set_cons_succ]
      refine wpAnyK_take (i := 3) (v := ?v4) rfl (by rfl) (by kernel_rfl) (by kernel_rfl) (by kernel_rfl) (by kernel_rfl) (fun _ _ _ h => h) (Or.inl ⟨by rfl, ?hy4⟩) trivial (SS.out _ F5.out) ?rest4
      case hy4 => (intro w hSw; (try dsimp only at hSw); (try simp only [List.getElem_toArray, List.getElem_cons_zero, List.getElem_cons_succ]); go_simp; try with_reducible rfl)
      try simp only [List.getElem_toArray, List.getElem_cons_zero, List.getElem_cons_succ, Act.put, List.setIfInBounds_toArray, List.set_cons_zero, List.set_cons_succ]
      refine wpAnyK_take0 (i := 4) (v := ?v5) [7, 10] rfl (by rfl) (by kernel_rfl) (by rfl) (by kernel_rfl) (by kernel_rfl) (by kernel_rfl) (by kernel_rfl) (fun _ _ _ h => h) (Or.inl ⟨by rfl, ?hy5⟩) trivial (SS.out _ F5.out) ?rest5
      case hy5 => (intro w hSw; (try dsimp only at hSw); (try simp only [List.getElem_toArray, List.getElem_cons_zero, List.getElem_cons_succ]); go_simp; try with_reducible rfl)
      try simp only [List.getElem_toArray, List.getElem_cons_zero, List.getElem_cons_succ, Act.put, List.setIfInBounds_toArray, List.set_cons_zero, List.set_cons_succ]
      refine wpAnyK_take0 (i := 5) (v := ?v6) [6, 7, 10] rfl (by rfl) (by kernel_rfl) (by rfl) (by kernel_rfl) (by kernel_rfl) (by kernel_rfl) (by kernel_rfl) (fun _ _ _ h => h) (Or.inl ⟨by rfl, ?hy6⟩) trivial (SS.out _ F5.out) ?rest6
      case hy6 => (intro w hSw; (try dsimp only at hSw); (try simp only [List.getElem_toArray, List.getElem_cons_zero, List.getElem_cons_succ]); go_simp; try with_reducible rfl)
      try simp only [List.getElem_toArray, List.getElem_cons_zero, List.getElem_cons_succ, Act.put, List.setIfInBounds_toArray, List.set_cons_zero, List.set_cons_succ]
      refine wpAnyK_ready (rs := [6]) (by kernel_rfl) (by simp) ?_
      refine AllReadyK.cons rfl (fun K hK => ?_) (by kernel_rfl) ?_
      · obtain ⟨WB, hWB⟩ : ∃ W, W3.drew.alloc (.cells #[.int .u64 (at_ : Nat), .int .u64 (t : Nat), .int .i64 k, .slice a8 dl c8] 141 (0, 0)) = W := ⟨_, rfl⟩
        have FBt : Hid (Fr (fun _ _ => True) W3 WB) := hWB ▸ F5t.out.alloc _
        have FB : Hid (Fr (fun c _ => (Value.slice a' i c').ownBlock ≠ some c) W3 WB) := hWB ▸ F5.out.alloc _
        obtain ⟨gb, hgb⟩ : ∃ g, W3.drew.heap.size = g := ⟨_, rfl⟩
        have TB : Hid (RowsAt (fun c _ => c = gb) WB (.slice (some ⟨gb, 0, none⟩) 1 1) 4 encR [⟨at_, ⟨t, k, a8, c8, d⟩⟩]) := by
          have q := rows_oneR (y := ⟨at_, ⟨t, k, a8, c8, d⟩⟩) (w := W3.drew.alloc (.cells #[.int .u64 (at_ : Nat), .int .u64 (t : Nat), .int .i64 k, .slice a8 dl c8] 141 (0, 0))) (b := gb) (by rw [← hgb]; dsimp only; rw [HDL.out]; exact heap_alloc_new W3.drew _)
          rw [hWB] at q
          exact q
        (try simp only [List.getElem_toArray, List.getElem_cons_zero, List.getElem_cons_succ])
        go_simp
        try rw [hWB]
        try rw [hgb]
        (try simp only [Act.put, List.setIfInBounds_toArray, List.set_cons_zero, List.set_cons_succ])
        refine hK.out _ _ trivial (fun _ => SS.out _ FB.out) ?_
        clear hK K
        clear hWB hgb
        have MB := Lib.hid (M3.out.tt FBt.out)
        have OB : Hid (WB.ownsRow n 141 4 (.slice a' i c') i (rs'.flatMap encR)) := HL.out ▸ MB.out.own
        have HNB : Hid (n ≤ WB.heap.size) := Nat.le_trans HN5.out (KW3.out.trans (Kp.rfl' X' FBt.out)).fr.size
        refine wpAnyK_ready (rs := [7]) (by kernel_rfl) (by simp) ?_
        refine AllReadyK.cons rfl (fun K hK => ?_) (by kernel_rfl) ?_
        · refine step_append_rc WB rfl _ _ rfl _ i n rs' rfl OB HNB _ ⟨at_, ⟨t, k, a8, c8, d⟩⟩ rfl TB (by have := HLI.out; omega) ?_
          intro g9 c9 W9 O9 G9 N9
          have F9 : Hid (Fr (fun c _ => (Value.slice a' i c').ownBlock ≠ some c) W3 W9) := FB.out.trans ((Fr.refl _ WB).grown G9.out fun k o e _ hk => hk e)
          have YB9 : Hid (BytesAt (Yk X' n 5) WB (.slice a8 d.length c8) d) := by show BytesAt _ _ _ _; rw [HDL.out]; exact B8.out.tt FBt.out
          have AP := Lib.hid (MB.out.app (y := ⟨at_, ⟨t, k, a8, c8, d⟩⟩) HL.out O9.out G9.out N9.out YB9.out HNB.out)
          have t9 : W9.heap[bk]? = _ := F9.out.keep _ _ M3.out.top fun e => (M3.out.ox _ e).2.2 rfl
          unfold W7 at t9
          have k9 := cell_mk (i := 6) t9 rfl
          have z9 := frozen_mk (i := 6) t9
          clear t9
          (try simp only [Act.put, List.setIfInBounds_toArray, List.set_cons_zero, List.set_cons_succ])
          refine hK.out _ _ trivial (fun _ => SS.out _ F9.out) ?_
          clear hK K
          refine wpAnyK_take (i := 8) (v := ?v7) rfl (by rfl) (by kernel_rfl) (by kernel_rfl) (by kernel_rfl) (by kernel_rfl) (fun _ _ _ h => h) (Or.inl ⟨by rfl, ?hy7⟩) trivial (SS.out _ F9.out) ?rest7
          case hy7 => (intro w hSw; (try dsimp only at hSw); (try simp only [List.getElem_toArray, List.getElem_cons_zero, List.getElem_cons_succ]); go_simp; try with_reducible rfl)
          try simp only [List.getElem_toArray, List.getElem_cons_zero, List.getElem_cons_succ, Act.put, List.setIfInBounds_toArray, List.set_cons_zero, List.set_cons_succ]
          refine wpAnyK_take (i := 9) (v := ?v8) rfl (by rfl) (by kernel_rfl) (by kernel_rfl) (by kernel_rfl) (by kernel_rfl) (fun _ _ _ h => h) (Or.inl ⟨by rfl, ?hy8⟩) trivial (SS.out _ F9.out) ?rest8
          case hy8 => (intro w hSw; (try dsimp only at hSw); (try simp only [List.getElem_toArray, List.getElem_cons_zero, List.getElem_cons_succ]); go_simp; try with_reducible rfl)
          try simp only [List.getElem_toArray, List.getElem_cons_zero, List.getElem_cons_succ, Act.put, List.setIfInBounds_toArray, List.set_cons_zero, List.set_cons_succ]
          refine wpAnyK_ready (rs := [10]) (by kernel_rfl) (by simp) ?_
          refine AllReadyK.cons rfl (fun K hK => ?_) (by kernel_rfl) ?_
          · (try simp only [List.getElem_toArray, List.getElem_cons_zero, List.getElem_cons_succ])
            go_simp
            refine hK.out _ _ trivial (fun h => absurd h (by decide)) ?_
            clear hK K
            refine wpAnyK_done (by kernel_rfl) ?_ _
            clear k9 z9
            obtain ⟨WA, hWA⟩ : ∃ W, W9.setCell ⟨bk, 6, none⟩ (.slice g9 (i + 1) c9) = W := ⟨_, rfl⟩
            try rw [hWA]
            have APA := AP.out
            rw [hWA] at APA
            obtain ⟨XA, ma, ka⟩ := APA
            have MA : Hid (KM n XA P1 WA bk bj bd m ⟨hb, ba, rs0.take (i + 1)⟩ J D' a4 c4 (.slice g9 (i + 1) c9) (rs' ++ [⟨at_, ⟨t, k, a8, c8, d⟩⟩])) := by
              have e : rs0.take (i + 1) = rs0.take i ++ [(at_, ⟨t, k, d⟩)] := HTK.out
              show KM _ _ _ _ _ _ _ _ _ _ _ _ _ _ _
              rw [e]
              exact ma
            have KA : Hid (Kp X3 XA W5 WA) := (KW3.out.trans (Kp.rfl' X' FBt.out)).trans ka
            clear ma ka hWA AP
            go_wp2
            go_roundw
            case rel => exact ⟨i + 1, XA, _, _, rfl, by go_num, by omega, MA, Lib.hid (by rw [List.length_append, List.length_singleton, HL.out]), KA⟩
            case measure => simp [intOf]; omega
          exact AllReadyK.nil
        exact AllReadyK.nil
      exact AllReadyK.nil
    · have hil : L = i := by omega
      subst hil
      have ltI : decide ((L : Int) < L) = false := by simp
      have HTL : rs0.take L = rs0 := List.take_of_length_le (Nat.le_of_eq HL0.out)
      have M6 : Hid (KM n X' P1 wr bk bj bd m ⟨hb, ba, rs0⟩ J D' a4 c4 hv' rs') := by
        have q := MJ.out
        rw [HTL] at q
        exact q
      have K06 : Hid (Kp P X' w wr) := K05.out.trans KJ.out
      have X6 := Lib.hid (KJ.out.fr.keep _ _ X5.out NG4.out.1)
      have R6 := Lib.hid (KJ.out.fr.keep _ _ R5.out NX3.out)
      have NG6 : Hid (¬ X' gs) := KJ.out.out _ (lt_of_some X5.out) NG4.out.1
      have NT6 : Hid (¬ X' w.heap.size) := KJ.out.out _ (lt_of_some R5.out) NX3.out
      have GN : Hid (n ≤ gs ∧ w.heap.size < gs ∧ n ≤ w.heap.size) := ⟨NG4.out.2.1, NG4.out.2.2, HN.out⟩
      obtain ⟨ah, ch, hv1⟩ := own_form MJ.out.own
      rw [HL.out] at hv1
      subst hv1
      have YR : Hid (∀ W, Fr (fun c _ => c ≠ gs) wr W → ∀ j (hj : j < rs'.length), ∃ bh off, ah = some ⟨bh, off, none⟩ ∧ W.cell? ⟨bh, off + j * 4, none⟩ = some (.int .u64 (rs'[j].at_ : Nat)) ∧ W.cell? ⟨bh, off + j * 4 + 1, none⟩ = some (.int .u64 (rs'[j].x.t : Nat)) ∧ W.cell? ⟨bh, off + j * 4 + 2, none⟩ = some (.int .i64 rs'[j].x.k) ∧ W.cell? ⟨bh, off + j * 4 + 3, none⟩ = some (.slice rs'[j].x.a rs'[j].x.d.length rs'[j].x.c)) := fun W f j hj => by
        have q := M6.out.rowAt.fr f fun c o _ hc e => NG6.out (e ▸ hc.1)
        obtain ⟨b, off, o, e, _, _, hcl⟩ := q.spot (by omega)
        exact ⟨b, off, e, RowsAt.r4 (K := fun _ _ => True) hcl j hj⟩
      have RCS : Hid (∀ j (hj : j < rs'.length), rs0.drop j = rs'[j].rc :: rs0.drop (j + 1)) := fun j hj => by
        have e : rs0 = rs'.map RV.rc := M6.out.rc.symm
        rw [e, List.drop_eq_getElem_cons (by rw [List.length_map]; exact hj), List.getElem_map]
      obtain ⟨E, hE⟩ : ∃ E, addE ba [] rs0 = E := ⟨_, rfl⟩
      rw [hE] at HOS
      have DR : Hid (rs0.drop L = []) := List.drop_of_length_le (Nat.le_of_eq HL0.out)
      have END : Hid (∀ (xs : List EV) (a : Option Addr) (c xl : Nat) WF (s : Sta), xs.length = xl → Fr (fun c _ => c ≠ gs ∧ c ≠ w.heap.size) wr WF → RowsAt (fun c o => (n ≤ c ∧ ¬ X' c) ∧ ∃ cs fz, o = .cells cs 128 fz) WF (.slice a xl c) 3 encE xs → s.es = xs.map EV.en → (∀ x ∈ xs, ∃ r ∈ rs', r.x = x) → KM n X' P1 WF bk bj bd m ⟨hb, ba, rs0⟩ J D' a4 c4 (.slice ah L ch) rs' ∧ SA n X' WF s (.slice a xs.length c) xs ∧ Kp P X' w WF) := fun xs a c xl WF s hxl f hr he hx => by
        subst hxl
        have k : KM n X' P1 WF bk bj bd m ⟨hb, ba, rs0⟩ J D' a4 c4 (.slice ah L ch) rs' := M6.out.fr f (fun c o _ hc => ⟨fun e => NG6.out (e ▸ hc), fun e => NT6.out (e ▸ hc)⟩) fun c o ho hc => ⟨hc.off X6.out (by decide) GN.out.1 ho, hc.off R6.out (by decide) GN.out.2.2 ho⟩
        refine ⟨k, ⟨hr.mono fun c o _ hc => ⟨hc.1.2, .inr hc.2⟩, he, fun x hxx => ?_⟩, ⟨Fr.within ((K06.out.fr.mono fun c _ hc => hc.1).trans (f.mono fun c _ hc => ?_)), K06.out.out⟩⟩
        · obtain ⟨r, hr1, rfl⟩ := hx x hxx
          exact k.dat r hr1
        · have h1 := hc.2
          have h2 := GN.out
          exact ⟨by omega, by omega⟩
      have y6 := M6.out.cells.2.2.2.2.2.2.1
      have HLR : Hid (rs'.length = L) := HL
      have U6 : Hid (Fr (fun c _ => c ≠ gs) wr wr) := Fr.refl _ _
      generalize hW6 : wr = W6 at M6 K06 X6 R6 YR END y6 U6 KJ MJ ⊢
      clear hW6 HTL K05 LS5 R5 M5 MJ KJ HL X5 K06 NX3 NG4 HRC HL0 HN5 ltI
      go_wp2
      go_loopw [83] (fun v83 wr => ∃ (j xl : Nat) (xs : List EV) (a : Option Addr) (c : Nat), v83 = .int .i64 j ∧ j ≤ L ∧ xl ≤ j ∧ Hid (xs.length = xl) ∧ Hid (wr.heap[gs]? = some (.cells #[.int .u64 (tm : Nat), .int .i64 vo, .int .u64 (ba : Nat), .int .u64 (bt : Nat), .slice a xl c] 68 (0, 0))) ∧ Hid (RowsAt (fun c o => (n ≤ c ∧ ¬ X' c) ∧ ∃ cs fz, o = .cells cs 128 fz) wr (.slice a xl c) 3 encE xs) ∧ Hid (addE ba (xs.map EV.en) (rs0.drop j) = E) ∧ Hid (∀ x ∈ xs, ∃ r ∈ rs', r.x = x) ∧ Hid (Fr (fun c _ => c ≠ gs) W6 wr)) (fun v83 _ => L - (intOf v83).toNat)
      case atStart => exact ⟨0, 0, [], none, 0, rfl, Nat.zero_le _, Nat.le_refl _, rfl, X6, RowsAt.nil _ _ _ _, hE, fun x hx => (by cases hx), U6⟩
      case round =>
        obtain ⟨j, xl, xs, a, c, rfl, hj, hxj, XL, T0, RW, HE, DX, FW⟩ := hrel
        by_cases hjl : j < L
        · have ltJ : decide ((j : Int) < L) = true := by simp; omega
          have hjr : j < rs'.length := by rw [HLR.out]; exact hjl
          obtain ⟨bh, off, hah, k0, k1, k2, k3⟩ := YR.out wr FW.out j hjr
          have hcs := RCS.out j hjr
          have hym : rs'[j] ∈ rs' := List.getElem_mem hjr
          have HE2 := HE.out
          rw [hcs] at HE2
          generalize rs'[j] = y at k0 k1 k2 k3 HE2 hym
          obtain ⟨at_, t, k, a8, c8, d⟩ := y
          subst hah
          obtain ⟨dl, hdl⟩ : ∃ x, d.length = x := ⟨_, rfl⟩
          dsimp only at k0 k1 k2 k3
          rw [hdl] at k3
          have HDL : Hid (d.length = dl) := hdl
          have HYM := Lib.hid hym
          have HE3 : Hid (addE ba (xs.map EV.en) ((at_, ⟨t, k, d⟩) :: rs0.drop (j + 1)) = E) := HE2
          clear HE2 HE hym hcs hdl
          obtain ⟨Wy, hWy⟩ : ∃ W, wr.alloc (.cells #[.int .u64 0, .int .u64 0, .int .i64 0, .slice none 0 0] 141 (0, 0)) = W := ⟨_, rfl⟩
          have FY : Hid (Fr (fun _ _ => True) wr Wy) := hWy ▸ (Fr.refl _ _).alloc _
          have TY : Hid (Wy.heap[wr.heap.size]? = some (.cells #[.int .u64 0, .int .u64 0, .int .i64 0, .slice none 0 0] 141 (0, 0))) := hWy ▸ heap_alloc_new wr _
          obtain ⟨g3, hg3⟩ : ∃ g, wr.heap.size = g := ⟨_, rfl⟩
          rw [hg3] at TY
          have p0 := cell_mk (i := 0) TY.out rfl
          have p1 := cell_mk (i := 1) TY.out rfl
          have p2 := cell_mk (i := 2) TY.out rfl
          have p3 := cell_mk (i := 3) TY.out rfl
          have y0 := frozen_mk (i := 0) TY.out
          have y1 := frozen_mk (i := 1) TY.out
          have y2 := frozen_mk (i := 2) TY.out
          have y3 := frozen_mk (i := 3) TY.out
          obtain ⟨W8, hW8, t8, f8⟩ := set4 TY.out (.int .u64 (at_ : Nat)) (.int .u64 (t : Nat)) (.int .i64 k) (.slice a8 dl c8)
          have T8 := Lib.hid t8
          have F8 : Hid (Fr (fun _ _ => True) wr W8) := Fr.within ((FY.out.mono fun _ _ _ => trivial).trans (f8.mono fun c _ h e => by have := h.2; omega))
          have G8 := Lib.hid (F8.out.keep _ _ T0.out trivial)
          have RW8 := Lib.hid (RW.out.tt F8.out)
          have FW8 : Hid (Fr (fun c _ => c ≠ gs) W6 W8) := FW.out.trans (F8.out.mono fun _ _ _ => trivial)
          have CE : Hid (∀ W, Fr (fun _ _ => True) W8 W → W.cell? ⟨g3, 0, none⟩ = some (.int .u64 (at_ : Nat)) ∧ W.cell? ⟨gs, 2, none⟩ = some (.int .u64 (ba : Nat)) ∧ W.cell? ⟨gs, 3, none⟩ = some (.int .u64 (bt : Nat)) ∧ W.cell? ⟨gs, 4, none⟩ = some (.slice a xl c)) := fun W f => by
            have t1 := f.keep _ _ T8.out trivial
            have t2 := f.keep _ _ G8.out trivial
            exact ⟨cell_mk t1 rfl, cell_mk t2 rfl, cell_mk t2 rfl, cell_mk t2 rfl⟩
          have U8 : Hid (Fr (fun _ _ => True) W8 W8.drew) := (Fr.refl _ _).drew
          clear t8 f8 FY
          go_upto_region 20 with fail
          try rw [hWy]
          try rw [hg3]
          try rw [hW8]
          clear hWy hg3 hW8 p0 p1 p2 p3 y0 y1 y2 y3 TY k0 k1 k2 k3
          by_cases hbat : ba < at_
          · have gtb : decide ((at_ : Int) > (ba : Int)) = true := by simp; omega
            have gtc : decide ((ba : Int) < (at_ : Int)) = true := by simp; omega
            have gtI : (ba : Int) < (at_ : Int) := by omega
            obtain ⟨z1, hz1⟩ : ∃ z, ba + xl = z := ⟨_, rfl⟩
            obtain ⟨z, hz⟩ : ∃ z, z1 + 1 = z := ⟨_, rfl⟩
            have q3 : IntKind.u64.wrap ((z1 : Int) + 1) = (z : Int) := by rw [IntKind.wrap_u64, ← hz, ← hz1]; have := BB.out.2; omega
            have LC : Hid (∀ W, Fr (fun _ _ => True) W8 W → Calls Tryd.prog 84 #[.agg #[.int .u64 (ba : Nat), .int .u64 (bt : Nat), .slice a xl c]] W fun e w' => e = .returned (.int .u64 (z1 : Nat)) ∧ Fr (fun _ _ => True) W w') := fun W _ => by
              have q := tlast_calls W ba bt a xl c (by have := BB.out.2; omega)
              rw [hz1] at q
              exact q
            have hzz : Hid (ba + xl + 1 = z) := by show _ = _; omega
            clear hz hz1
            by_cases hat : at_ = z
            · have hzz2 : Hid (at_ = ba + xl + 1) := Lib.hid (hat.trans hzz.out.symm)
              clear hzz
              subst hat
              have nez : ((at_ : Int) != (at_ : Int)) = false := by simp
              have HE4 : Hid (addE ba ((xs ++ ([⟨t, k, a8, c8, d⟩] : List EV)).map EV.en) (rs0.drop (j + 1)) = E) := by
                have q := (addE_next (es := xs.map EV.en) (r := (at_, ⟨t, k, d⟩)) (rs := rs0.drop (j + 1)) hbat (by rw [List.length_map, XL.out]; exact hzz2.out)).symm.trans HE3.out
                show addE _ _ _ = _
                rw [List.map_append]
                exact q
              clear HE3 hzz2
              go_region_held3 (fun W => W.cell? ⟨g3, 0, none⟩ = some (.int .u64 (at_ : Nat)) ∧ W.cell? ⟨gs, 2, none⟩ = some (.int .u64 (ba : Nat)) ∧ W.cell? ⟨gs, 3, none⟩ = some (.int .u64 (bt : Nat)) ∧ W.cell? ⟨gs, 4, none⟩ = some (.slice a xl c))
                (first | exact CE.out _ F9.out | exact CE.out _ U8.out)
                (first | (go_at_call 84; go_must ((with_reducible refine (LC.out _ U8.out).mono ?_); rintro e w9 ⟨rfl, f9⟩; have F9 := Lib.hid (U8.out.trans f9); clear f9)))
              all_goals
                have T9 := F9.out.keep _ _ T8.out trivial
                have G9 := Lib.hid (F9.out.keep _ _ G8.out trivial)
                have x0 := cell_mk (i := 0) T9 rfl
                have x1 := cell_mk (i := 1) T9 rfl
                have x2 := cell_mk (i := 2) T9 rfl
                have x3 := cell_mk (i := 3) T9 rfl
                have z2 := cell_mk (i := 2) G9.out rfl
                have z3 := cell_mk (i := 3) G9.out rfl
                have z4 := cell_mk (i := 4) G9.out rfl
                have AD : Hid (Calls Tryd.prog 85 #[.agg #[.int .u64 (ba : Nat), .int .u64 (bt : Nat), .slice a xl c], .agg #[.int .u64 (t : Nat), .int .i64 k, .slice a8 dl c8]] w9 fun e w' => ∃ a' c', e = .returned (.agg #[.int .u64 (ba : Nat), .int .u64 (bt : Nat), .slice a' (xl + 1) c']) ∧ RowsAt (fun c o => w9.heap.size ≤ c ∧ ∃ cs fz, o = .cells cs 128 fz) w' (.slice a' (xl + 1) c') 3 encE (xs ++ [⟨t, k, a8, c8, d⟩]) ∧ Fr (fun _ _ => True) w9 w') := by
                  have q := tadd_calls w9 ba bt a xl c xs ⟨t, k, a8, c8, d⟩ (RW8.out.tt F9.out) XL.out (by omega)
                  unfold vL vE at q
                  dsimp only at q
                  rw [HDL.out] at q
                  exact q
                clear CE LC T9
                go_wp2_with fail
                (with_reducible refine AD.out.mono ?_)
                rintro e w10 ⟨a', c', rfl, r10, f10⟩
                have G10 := f10.keep _ _ G9.out trivial
                have s2 := cell_mk (i := 2) G10 rfl
                have s3 := cell_mk (i := 3) G10 rfl
                have s4 := cell_mk (i := 4) G10 rfl
                have v2 := frozen_mk (i := 2) G10
                have v3 := frozen_mk (i := 3) G10
                have v4 := frozen_mk (i := 4) G10
                obtain ⟨W11, hW11, t11, f11⟩ := set3e G10 (.int .u64 (ba : Nat)) (.int .u64 (bt : Nat)) (.slice a' (xl + 1) c')
                have T11 := Lib.hid t11
                have RW11 : Hid (RowsAt (fun c o => (n ≤ c ∧ ¬ X' c) ∧ ∃ cs fz, o = .cells cs 128 fz) W11 (.slice a' (xl + 1) c') 3 encE (xs ++ [⟨t, k, a8, c8, d⟩])) := by
                  have hs1 := F9.out.size
                  have hs2 := lt_of_some G8.out
                  have hs3 : ∀ c, X' c → c < w9.heap.size := fun c hc => by have := M6.out.hi c hc; have := (FW8.out.size); omega
                  have hs4 := GN.out.1
                  have r2 := r10.mono (K' := fun c o => c ≠ gs ∧ (n ≤ c ∧ ¬ X' c) ∧ ∃ cs fz, o = .cells cs 128 fz) fun c o _ hc => ⟨by have := hc.1; omega, ⟨by have := hc.1; omega, fun k => by have := hs3 c k; have := hc.1; omega⟩, hc.2⟩
                  exact (r2.fr f11 fun c o _ hc => hc.1).mono fun c o _ hc => hc.2
                have FW11 : Hid (Fr (fun c _ => c ≠ gs) W6 W11) := ((FW8.out.trans (F9.out.mono fun _ _ _ => trivial)).trans (f10.mono fun _ _ _ => trivial)).trans f11
                have DX11 : Hid (∀ x ∈ xs ++ [(⟨t, k, a8, c8, d⟩ : EV)], ∃ r ∈ rs', r.x = x) := fun x hx => by
                  rcases List.mem_append.1 hx with hx | hx
                  · exact DX.out x hx
                  · rw [List.mem_singleton.1 hx]; exact ⟨_, HYM.out, rfl⟩
                clear r10 f10 t11 f11 G10 AD
                go_wp2
                try rw [hW11]
                go_roundw
                case rel => exact ⟨j + 1, xl + 1, _, a', c', by go_num, by omega, by omega, Lib.hid (by rw [List.length_append, List.length_singleton, XL.out]), hW11 ▸ T11, hW11 ▸ RW11, HE4, DX11, hW11 ▸ FW11⟩
                case measure => simp [intOf]; omega
            · have nez : ((at_ : Int) != (z : Int)) = true := by simp; omega
              have EE : Hid (xs.map EV.en = E) := Lib.hid ((addE_gap (es := xs.map EV.en) (r := (at_, ⟨t, k, d⟩)) (rs := rs0.drop (j + 1)) hbat (by rw [List.length_map, XL.out, hzz.out]; exact hat)).symm.trans HE3.out)
              clear HE3 hzz
              go_region_held3 (fun W => W.cell? ⟨g3, 0, none⟩ = some (.int .u64 (at_ : Nat)) ∧ W.cell? ⟨gs, 2, none⟩ = some (.int .u64 (ba : Nat)) ∧ W.cell? ⟨gs, 3, none⟩ = some (.int .u64 (bt : Nat)) ∧ W.cell? ⟨gs, 4, none⟩ = some (.slice a xl c))
                (first | exact CE.out _ F9.out | exact CE.out _ U8.out)
                (first | (go_at_call 84; go_must ((with_reducible refine (LC.out _ U8.out).mono ?_); rintro e w9 ⟨rfl, f9⟩; have F9 := Lib.hid (U8.out.trans f9); clear f9)))
              all_goals
                have T9 := Lib.hid (F9.out.keep _ _ G8.out trivial)
                have RW9 := Lib.hid (RW8.out.tt F9.out)
                have FW9 : Hid (Fr (fun c _ => c ≠ gs) W6 w9) := FW8.out.trans (F9.out.mono fun _ _ _ => trivial)
                clear CE LC T8 G8 RW8 FW8 T0 RW FW
                have h0 := cell_mk (i := 0) T9.out rfl
                have h2 := cell_mk (i := 2) T9.out rfl
                have h3 := cell_mk (i := 3) T9.out rfl
                have h4 := cell_mk (i := 4) T9.out rfl
                obtain ⟨l, hl⟩ : ∃ l, lastTE bt xs = l := ⟨_, rfl⟩
                have LT : Hid (Calls Tryd.prog 42 #[.agg #[.int .u64 (ba : Nat), .int .u64 (bt : Nat), .slice a xl c]] w9 fun e w' => e = .returned (.int .u64 (l : Nat)) ∧ Fr (fun _ _ => True) w9 w') := by
                  have q := tlastT_calls w9 ba bt a xl c xs RW9.out XL.out (by have := BB.out.2; omega)
                  rw [hl] at q
                  exact q
                have RL : Hid (R = if tm < l then ⟨l, -1, ba, bt, E⟩ else ⟨tm, vo, ba, bt, E⟩) := Lib.hid (HOS.out.trans (raise_mk tm vo ba bt E l ((lastTE_eq ⟨tm, vo, ba, bt, E⟩ xs EE.out.symm).symm.trans hl)))
                clear hl
                go_wp2_with fail
                (with_reducible refine LT.out.mono ?_)
                rintro e w12 ⟨rfl, f12⟩
                have T12 := Lib.hid (f12.keep _ _ T9.out trivial)
                have RW12 := Lib.hid (RW9.out.tt f12)
                have F12 : Hid (Fr (fun c _ => c ≠ gs) W6 w12) := FW9.out.trans (f12.mono fun _ _ _ => trivial)
                clear LT f12 h0 h2 h3 h4 T9 RW9 FW9
                have h0 := cell_mk (i := 0) T12.out rfl
                have h1 := cell_mk (i := 1) T12.out rfl
                have o0 := frozen_mk (i := 0) T12.out
                have o1 := frozen_mk (i := 1) T12.out
                by_cases htl : tm < l
                · have gtl : decide ((l : Int) > (tm : Int)) = true := by simp; omega
                  have RE : Hid (R = ⟨l, -1, ba, bt, E⟩) := Lib.hid (RL.out.trans (if_pos htl))
                  obtain ⟨W13, hW13, t13, f13⟩ := set2a T12.out (.int .u64 (l : Nat)) (.int .i64 (-1))
                  have T13 := Lib.hid t13
                  have F13 : Hid (Fr (fun c _ => c ≠ gs) W6 W13) := F12.out.trans f13
                  have RW13 : Hid (RowsAt (fun c o => (n ≤ c ∧ ¬ X' c) ∧ ∃ cs fz, o = .cells cs 128 fz) W13 (.slice a xl c) 3 encE xs) := by
                    have t12 := T12.out
                    exact rows_box RW12.out t12 (by decide) f13
                  clear t13 f13 RL
                  go_upto_region 27 with fail
                  try rw [hW13]
                  clear hW13 h0 h1 o0 o1
                  have RT : Hid (W13.heap[w.heap.size]? = _) := F13.out.keep _ _ R6.out (by have := GN.out; omega)
                  have CF : Hid (∀ W, Fr (fun c _ => c ≠ w.heap.size) W13 W → W.cell? ⟨gs, 0, none⟩ = some (.int .u64 (l : Nat)) ∧ W.cell? ⟨gs, 1, none⟩ = some (.int .i64 (-1)) ∧ W.cell? ⟨gs, 2, none⟩ = some (.int .u64 (ba : Nat)) ∧ W.cell? ⟨gs, 3, none⟩ = some (.int .u64 (bt : Nat)) ∧ W.cell? ⟨gs, 4, none⟩ = some (.slice a xl c)) := fun W f => by
                    have t := f.keep _ _ T13.out (by have := GN.out; omega)
                    exact ⟨cell_mk t rfl, cell_mk t rfl, cell_mk t rfl, cell_mk t rfl, cell_mk t rfl⟩
                  have q0 := cell_mk (i := 0) RT.out rfl
                  have q1 := cell_mk (i := 1) RT.out rfl
                  have q2 := cell_mk (i := 2) RT.out rfl
                  have q3 := cell_mk (i := 3) RT.out rfl
                  have q4 := cell_mk (i := 4) RT.out rfl
                  have y0 := frozen_mk (i := 0) RT.out
                  have y1 := frozen_mk (i := 1) RT.out
                  have y2 := frozen_mk (i := 2) RT.out
                  have y3 := frozen_mk (i := 3) RT.out
                  have y4 := frozen_mk (i := 4) RT.out
                  have UF : Hid (Fr (fun c _ => c ≠ w.heap.size) W13 W13.drew) := (Fr.refl _ _).drew
                  obtain ⟨WZ, hWZ, TZ, fZ⟩ := set5 RT.out (.int .u64 (l : Nat)) (.int .i64 (-1)) (.int .u64 (ba : Nat)) (.int .u64 (bt : Nat)) (.slice a xl c)
                  have FZ := Lib.hid fZ
                  have TZH := Lib.hid TZ
                  clear TZ fZ
                  go_region_held3 (fun W => W.cell? ⟨gs, 0, none⟩ = some (.int .u64 (l : Nat)) ∧ W.cell? ⟨gs, 1, none⟩ = some (.int .i64 (-1)) ∧ W.cell? ⟨gs, 2, none⟩ = some (.int .u64 (ba : Nat)) ∧ W.cell? ⟨gs, 3, none⟩ = some (.int .u64 (bt : Nat)) ∧ W.cell? ⟨gs, 4, none⟩ = some (.slice a xl c))
                    (first | exact CF.out _ UF.out | exact CF.out _ FZ.out.drew | exact CF.out _ (((((UF.out.setCell (fun _ _ h => h rfl) _).setCell (fun _ _ h => h rfl) _).setCell (fun _ _ h => h rfl) _).setCell (fun _ _ h => h rfl) _).setCell (fun _ _ h => h rfl) _))
                    (fail)
                  all_goals
                    have p0 := cell_mk (i := 0) TZH.out rfl
                    have p1 := cell_mk (i := 1) TZH.out rfl
                    have p2 := cell_mk (i := 2) TZH.out rfl
                    have p3 := cell_mk (i := 3) TZH.out rfl
                    have p4 := cell_mk (i := 4) TZH.out rfl
                    try rw [hWZ]
                    clear q0 q1 q2 q3 q4 y0 y1 y2 y3 y4 CF
                    go_wp2
                    try rw [hWZ]
                    refine bodyPost_ret (v := .tuple #[.pointer (some ⟨bk, 0, none⟩), .agg #[.int .u64 (l : Nat), .int .i64 (-1), .int .u64 (ba : Nat), .int .u64 (bt : Nat), .slice a xl c], .int .i64 0]) (by simp [results, Tryd.results36, go_sem, *]) rfl ?_
                    try rw [hWZ]
                    have fin := END.out xs a c xl WZ.drew R XL.out ((F13.out.mono fun _ _ h => h.1).trans ((FZ.out.mono fun _ _ h => h.2).drew)) (rows_box RW13.out RT.out (by decide) FZ.out.drew) (by rw [RE.out]; exact EE.out.symm) DX.out
                    refine ⟨bk, bj, X', P1, a4, c4, _, rs', xs, a, c, ?_, fin.1, fin.2.1, fin.2.2⟩
                    rw [RE.out, XL.out]
                    rfl
                · have gtl : decide ((l : Int) > (tm : Int)) = false := by simp; omega
                  have RE : Hid (R = ⟨tm, vo, ba, bt, E⟩) := Lib.hid (RL.out.trans (if_neg htl))
                  have RW13 := RW12
                  clear RL
                  go_upto_region 27 with fail
                  clear h0 h1 o0 o1
                  have RT : Hid (w12.heap[w.heap.size]? = _) := F12.out.keep _ _ R6.out (by have := GN.out; omega)
                  have CF : Hid (∀ W, Fr (fun c _ => c ≠ w.heap.size) w12 W → W.cell? ⟨gs, 0, none⟩ = some (.int .u64 (tm : Nat)) ∧ W.cell? ⟨gs, 1, none⟩ = some (.int .i64 vo) ∧ W.cell? ⟨gs, 2, none⟩ = some (.int .u64 (ba : Nat)) ∧ W.cell? ⟨gs, 3, none⟩ = some (.int .u64 (bt : Nat)) ∧ W.cell? ⟨gs, 4, none⟩ = some (.slice a xl c)) := fun W f => by
                    have t := f.keep _ _ T12.out (by have := GN.out; omega)
                    exact ⟨cell_mk t rfl, cell_mk t rfl, cell_mk t rfl, cell_mk t rfl, cell_mk t rfl⟩
                  have q0 := cell_mk (i := 0) RT.out rfl
                  have q1 := cell_mk (i := 1) RT.out rfl
                  have q2 := cell_mk (i := 2) RT.out rfl
                  have q3 := cell_mk (i := 3) RT.out rfl
                  have q4 := cell_mk (i := 4) RT.out rfl
                  have y0 := frozen_mk (i := 0) RT.out
                  have y1 := frozen_mk (i := 1) RT.out
                  have y2 := frozen_mk (i := 2) RT.out
                  have y3 := frozen_mk (i := 3) RT.out
                  have y4 := frozen_mk (i := 4) RT.out
                  have UF : Hid (Fr (fun c _ => c ≠ w.heap.size) w12 w12.drew) := (Fr.refl _ _).drew
                  obtain ⟨WZ, hWZ, TZ, fZ⟩ := set5 RT.out (.int .u64 (tm : Nat)) (.int .i64 vo) (.int .u64 (ba : Nat)) (.int .u64 (bt : Nat)) (.slice a xl c)
                  have FZ := Lib.hid fZ
                  have TZH := Lib.hid TZ
                  clear TZ fZ
                  go_region_held3 (fun W => W.cell? ⟨gs, 0, none⟩ = some (.int .u64 (tm : Nat)) ∧ W.cell? ⟨gs, 1, none⟩ = some (.int .i64 vo) ∧ W.cell? ⟨gs, 2, none⟩ = some (.int .u64 (ba : Nat)) ∧ W.cell? ⟨gs, 3, none⟩ = some (.int .u64 (bt : Nat)) ∧ W.cell? ⟨gs, 4, none⟩ = some (.slice a xl c))
                    (first | exact CF.out _ UF.out | exact CF.out _ FZ.out.drew | exact CF.out _ (((((UF.out.setCell (fun _ _ h => h rfl) _).setCell (fun _ _ h => h rfl) _).setCell (fun _ _ h => h rfl) _).setCell (fun _ _ h => h rfl) _).setCell (fun _ _ h => h rfl) _))
                    (fail)
                  all_goals
                    have p0 := cell_mk (i := 0) TZH.out rfl
                    have p1 := cell_mk (i := 1) TZH.out rfl
                    have p2 := cell_mk (i := 2) TZH.out rfl
                    have p3 := cell_mk (i := 3) TZH.out rfl
                    have p4 := cell_mk (i := 4) TZH.out rfl
                    try rw [hWZ]
                    clear q0 q1 q2 q3 q4 y0 y1 y2 y3 y4 CF
                    go_wp2
                    try rw [hWZ]
                    refine bodyPost_ret (v := .tuple #[.pointer (some ⟨bk, 0, none⟩), .agg #[.int .u64 (tm : Nat), .int .i64 vo, .int .u64 (ba : Nat), .int .u64 (bt : Nat), .slice a xl c], .int .i64 0]) (by simp [results, Tryd.results36, go_sem, *]) rfl ?_
                    try rw [hWZ]
                    have fin := END.out xs a c xl WZ.drew R XL.out ((F12.out.mono fun _ _ h => h.1).trans ((FZ.out.mono fun _ _ h => h.2).drew)) (rows_box RW13.out RT.out (by decide) FZ.out.drew) (by rw [RE.out]; exact EE.out.symm) DX.out
                    refine ⟨bk, bj, X', P1, a4, c4, _, rs', xs, a, c, ?_, fin.1, fin.2.1, fin.2.2⟩
                    rw [RE.out, XL.out]
                    rfl
          · have gtb : decide ((at_ : Int) > (ba : Int)) = false := by simp; omega
            have gtc : decide ((ba : Int) < (at_ : Int)) = false := by simp; omega
            have gtI : (at_ : Int) ≤ (ba : Int) := by omega
            have HE4 : Hid (addE ba (xs.map EV.en) (rs0.drop (j + 1)) = E) := Lib.hid ((addE_old (es := xs.map EV.en) (r := (at_, ⟨t, k, d⟩)) (rs := rs0.drop (j + 1)) hbat).symm.trans HE3.out)
            clear HE3
            obtain ⟨e1, e2, e3, e4⟩ := CE.out W8 (Fr.refl _ _)
            go_quiet (fail)
            obtain ⟨we, hwe⟩ : ∃ W, W8.drewN nq = W := ⟨_, rfl⟩
            have FE : Hid (Fr (fun _ _ => True) W8 we) := hwe ▸ (Fr.refl _ _).drewN _
            obtain ⟨i1, i2, i3, i4⟩ := CE.out we FE.out
            rw [hwe]
            have T9 := Lib.hid (FE.out.keep _ _ G8.out trivial)
            have RW9 := Lib.hid (RW8.out.tt FE.out)
            have FW9 : Hid (Fr (fun c _ => c ≠ gs) W6 we) := FW8.out.trans (FE.out.mono fun _ _ _ => trivial)
            clear e1 e2 e3 e4 hwe CE
            go_wp2
            go_roundw
            case rel => exact ⟨j + 1, xl, xs, a, c, by go_num, by omega, by omega, XL, T9, RW9, HE4, DX, FW9⟩
            case measure => simp [intOf]; omega
        · have ltJ : decide ((j : Int) < L) = false := by simp; omega
          have EE : Hid (xs.map EV.en = E) := by
            have q := HE.out
            rw [show j = L by omega, DR.out] at q
            exact q
          clear HE
          have h0 := cell_mk (i := 0) T0.out rfl
          have h2 := cell_mk (i := 2) T0.out rfl
          have h3 := cell_mk (i := 3) T0.out rfl
          have h4 := cell_mk (i := 4) T0.out rfl
          obtain ⟨l, hl⟩ : ∃ l, lastTE bt xs = l := ⟨_, rfl⟩
          have LT : Hid (Calls Tryd.prog 42 #[.agg #[.int .u64 (ba : Nat), .int .u64 (bt : Nat), .slice a xl c]] wr fun e w' => e = .returned (.int .u64 (l : Nat)) ∧ Fr (fun _ _ => True) wr w') := by
            have q := tlastT_calls wr ba bt a xl c xs RW.out XL.out (by have := BB.out.2; omega)
            rw [hl] at q
            exact q
          have RL : Hid (R = if tm < l then ⟨l, -1, ba, bt, E⟩ else ⟨tm, vo, ba, bt, E⟩) := Lib.hid (HOS.out.trans (raise_mk tm vo ba bt E l ((lastTE_eq ⟨tm, vo, ba, bt, E⟩ xs EE.out.symm).symm.trans hl)))
          clear hl
          go_wp2_with fail
          (with_reducible refine LT.out.mono ?_)
          rintro e w12 ⟨rfl, f12⟩
          have T12 := Lib.hid (f12.keep _ _ T0.out trivial)
          have RW12 := Lib.hid (RW.out.tt f12)
          have F12 : Hid (Fr (fun c _ => c ≠ gs) W6 w12) := FW.out.trans (f12.mono fun _ _ _ => trivial)
          clear LT f12 h0 h2 h3 h4 T0 RW FW
          have h0 := cell_mk (i := 0) T12.out rfl
          have h1 := cell_mk (i := 1) T12.out rfl
          have o0 := frozen_mk (i := 0) T12.out
          have o1 := frozen_mk (i := 1) T12.out
          by_cases htl : tm < l
          · have gtl : decide ((l : Int) > (tm : Int)) = true := by simp; omega
            have RE : Hid (R = ⟨l, -1, ba, bt, E⟩) := Lib.hid (RL.out.trans (if_pos htl))
            obtain ⟨W13, hW13, t13, f13⟩ := set2a T12.out (.int .u64 (l : Nat)) (.int .i64 (-1))
            have T13 := Lib.hid t13
            have F13 : Hid (Fr (fun c _ => c ≠ gs) W6 W13) := F12.out.trans f13
            have RW13 : Hid (RowsAt (fun c o => (n ≤ c ∧ ¬ X' c) ∧ ∃ cs fz, o = .cells cs 128 fz) W13 (.slice a xl c) 3 encE xs) := by
              have t12 := T12.out
              exact rows_box RW12.out t12 (by decide) f13
            clear t13 f13 RL
            go_upto_region 27 with fail
            try rw [hW13]
            clear hW13 h0 h1 o0 o1
            have RT : Hid (W13.heap[w.heap.size]? = _) := F13.out.keep _ _ R6.out (by have := GN.out; omega)
            have CF : Hid (∀ W, Fr (fun c _ => c ≠ w.heap.size) W13 W → W.cell? ⟨gs, 0, none⟩ = some (.int .u64 (l : Nat)) ∧ W.cell? ⟨gs, 1, none⟩ = some (.int .i64 (-1)) ∧ W.cell? ⟨gs, 2, none⟩ = some (.int .u64 (ba : Nat)) ∧ W.cell? ⟨gs, 3, none⟩ = some (.int .u64 (bt : Nat)) ∧ W.cell? ⟨gs, 4, none⟩ = some (.slice a xl c)) := fun W f => by
              have t := f.keep _ _ T13.out (by have := GN.out; omega)
              exact ⟨cell_mk t rfl, cell_mk t rfl, cell_mk t rfl, cell_mk t rfl, cell_mk t rfl⟩
            have q0 := cell_mk (i := 0) RT.out rfl
            have q1 := cell_mk (i := 1) RT.out rfl
            have q2 := cell_mk (i := 2) RT.out rfl
            have q3 := cell_mk (i := 3) RT.out rfl
            have q4 := cell_mk (i := 4) RT.out rfl
            have y0 := frozen_mk (i := 0) RT.out
            have y1 := frozen_mk (i := 1) RT.out
            have y2 := frozen_mk (i := 2) RT.out
            have y3 := frozen_mk (i := 3) RT.out
            have y4 := frozen_mk (i := 4) RT.out
            have UF : Hid (Fr (fun c _ => c ≠ w.heap.size) W13 W13.drew) := (Fr.refl _ _).drew
            obtain ⟨WZ, hWZ, TZ, fZ⟩ := set5 RT.out (.int .u64 (l : Nat)) (.int .i64 (-1)) (.int .u64 (ba : Nat)) (.int .u64 (bt : Nat)) (.slice a xl c)
            have FZ := Lib.hid fZ
            have TZH := Lib.hid TZ
            clear TZ fZ
            go_region_held3 (fun W => W.cell? ⟨gs, 0, none⟩ = some (.int .u64 (l : Nat)) ∧ W.cell? ⟨gs, 1, none⟩ = some (.int .i64 (-1)) ∧ W.cell? ⟨gs, 2, none⟩ = some (.int .u64 (ba : Nat)) ∧ W.cell? ⟨gs, 3, none⟩ = some (.int .u64 (bt : Nat)) ∧ W.cell? ⟨gs, 4, none⟩ = some (.slice a xl c))
              (first | exact CF.out _ UF.out | exact CF.out _ FZ.out.drew | exact CF.out _ (((((UF.out.setCell (fun _ _ h => h rfl) _).setCell (fun _ _ h => h rfl) _).setCell (fun _ _ h => h rfl) _).setCell (fun _ _ h => h rfl) _).setCell (fun _ _ h => h rfl) _))
              (fail)
            all_goals
              have p0 := cell_mk (i := 0) TZH.out rfl
              have p1 := cell_mk (i := 1) TZH.out rfl
              have p2 := cell_mk (i := 2) TZH.out rfl
              have p3 := cell_mk (i := 3) TZH.out rfl
              have p4 := cell_mk (i := 4) TZH.out rfl
              try rw [hWZ]
              clear q0 q1 q2 q3 q4 y0 y1 y2 y3 y4 CF
              go_wp2
              try rw [hWZ]
              refine bodyPost_ret (v := .tuple #[.pointer (some ⟨bk, 0, none⟩), .agg #[.int .u64 (l : Nat), .int .i64 (-1), .int .u64 (ba : Nat), .int .u64 (bt : Nat), .slice a xl c], .int .i64 0]) (by simp [results, Tryd.results36, go_sem, *]) rfl ?_
              try rw [hWZ]
              have fin := END.out xs a c xl WZ.drew R XL.out ((F13.out.mono fun _ _ h => h.1).trans ((FZ.out.mono fun _ _ h => h.2).drew)) (rows_box RW13.out RT.out (by decide) FZ.out.drew) (by rw [RE.out]; exact EE.out.symm) DX.out
              refine ⟨bk, bj, X', P1, a4, c4, _, rs', xs, a, c, ?_, fin.1, fin.2.1, fin.2.2⟩
              rw [RE.out, XL.out]
              rfl
          · have gtl : decide ((l : Int) > (tm : Int)) = false := by simp; omega
            have RE : Hid (R = ⟨tm, vo, ba, bt, E⟩) := Lib.hid (RL.out.trans (if_neg htl))
            have RW13 := RW12
            clear RL
            go_upto_region 27 with fail
            clear h0 h1 o0 o1
            have RT : Hid (w12.heap[w.heap.size]? = _) := F12.out.keep _ _ R6.out (by have := GN.out; omega)
            have CF : Hid (∀ W, Fr (fun c _ => c ≠ w.heap.size) w12 W → W.cell? ⟨gs, 0, none⟩ = some (.int .u64 (tm : Nat)) ∧ W.cell? ⟨gs, 1, none⟩ = some (.int .i64 vo) ∧ W.cell? ⟨gs, 2, none⟩ = some (.int .u64 (ba : Nat)) ∧ W.cell? ⟨gs, 3, none⟩ = some (.int .u64 (bt : Nat)) ∧ W.cell? ⟨gs, 4, none⟩ = some (.slice a xl c)) := fun W f => by
              have t := f.keep _ _ T12.out (by have := GN.out; omega)
              exact ⟨cell_mk t rfl, cell_mk t rfl, cell_mk t rfl, cell_mk t rfl, cell_mk t rfl⟩
            have q0 := cell_mk (i := 0) RT.out rfl
            have q1 := cell_mk (i := 1) RT.out rfl
            have q2 := cell_mk (i := 2) RT.out rfl
            have q3 := cell_mk (i := 3) RT.out rfl
            have q4 := cell_mk (i := 4) RT.out rfl
            have y0 := frozen_mk (i := 0) RT.out
            have y1 := frozen_mk (i := 1) RT.out
            have y2 := frozen_mk (i := 2) RT.out
            have y3 := frozen_mk (i := 3) RT.out
            have y4 := frozen_mk (i := 4) RT.out
            have UF : Hid (Fr (fun c _ => c ≠ w.heap.size) w12 w12.drew) := (Fr.refl _ _).drew
            obtain ⟨WZ, hWZ, TZ, fZ⟩ := set5 RT.out (.int .u64 (tm : Nat)) (.int .i64 vo) (.int .u64 (ba : Nat)) (.int .u64 (bt : Nat)) (.slice a xl c)
            have FZ := Lib.hid fZ
            have TZH := Lib.hid TZ
            clear TZ fZ
            go_region_held3 (fun W => W.cell? ⟨gs, 0, none⟩ = some (.int .u64 (tm : Nat)) ∧ W.cell? ⟨gs, 1, none⟩ = some (.int .i64 vo) ∧ W.cell? ⟨gs, 2, none⟩ = some (.int .u64 (ba : Nat)) ∧ W.cell? ⟨gs, 3, none⟩ = some (.int .u64 (bt : Nat)) ∧ W.cell? ⟨gs, 4, none⟩ = some (.slice a xl c))
              (first | exact CF.out _ UF.out | exact CF.out _ FZ.out.drew | exact CF.out _ (((((UF.out.setCell (fun _ _ h => h rfl) _).setCell (fun _ _ h => h rfl) _).setCell (fun _ _ h => h rfl) _).setCell (fun _ _ h => h rfl) _).setCell (fun _ _ h => h rfl) _))
              (fail)
            all_goals
              have p0 := cell_mk (i := 0) TZH.out rfl
              have p1 := cell_mk (i := 1) TZH.out rfl
              have p2 := cell_mk (i := 2) TZH.out rfl
              have p3 := cell_mk (i := 3) TZH.out rfl
              have p4 := cell_mk (i := 4) TZH.out rfl
              try rw [hWZ]
              clear q0 q1 q2 q3 q4 y0 y1 y2 y3 y4 CF
              go_wp2
              try rw [hWZ]
              refine bodyPost_ret (v := .tuple #[.pointer (some ⟨bk, 0, none⟩), .agg #[.int .u64 (tm : Nat), .int .i64 vo, .int .u64 (ba : Nat), .int .u64 (bt : Nat), .slice a xl c], .int .i64 0]) (by simp [results, Tryd.results36, go_sem, *]) rfl ?_
              try rw [hWZ]
              have fin := END.out xs a c xl WZ.drew R XL.out ((F12.out.mono fun _ _ h => h.1).trans ((FZ.out.mono fun _ _ h => h.2).drew)) (rows_box RW13.out RT.out (by decide) FZ.out.drew) (by rw [RE.out]; exact EE.out.symm) DX.out
              refine ⟨bk, bj, X', P1, a4, c4, _, rs', xs, a, c, ?_, fin.1, fin.2.1, fin.2.2⟩
              rw [RE.out, XL.out]
              rfl
end Go.Proofs.YtcpbmempfeloaaaDoor
