/- Texts of the proofs, part 9: what the functions that they reach do, walked; no conditions beyond those that each states. -/
import Derived.Test.YtaeonlafcbgpcaaDoorZz151108fdf9
set_option linter.unusedVariables false
set_option linter.unusedSimpArgs false
/- The reference of layer 5: Last. -/
namespace Go.Proofs.YtaeonlafcbgpcaaDoor
open Go.RowKit
set_option linter.unusedVariables false

set_option maxRecDepth 100000 in
set_option maxHeartbeats 4000000 in
theorem r_last (w : World) (br : Nat) (G : Nat → Prop) (D : Dk) (k : Nat) (z : Int) (hz : z = k) (h : Rdk w br G D) (hk : k + 1 < D.sure.length) (ls : Nat) (lb : List UInt8) (lw : Nat) (hlm : lastM D k = (ls, lb, lw)) :
    Calls Tryd.prog 62 #[.pointer (some ⟨br, 0, none⟩), .int .i64 z] w fun e w' => (∃ a cap, e = .returned (.tuple #[.agg #[.int .u32 (ls : Nat), .int .u32 0, .slice a lb.length cap], .int .i64 (lw : Nat)]) ∧ BytesAt (KR br G) w' (.slice a lb.length cap) lb) ∧ Fr (fun _ _ => True) w w' := by
  subst hz
  have hmax := h.gd.ok.max
  have hok := h.gd.ok
  have hk0 : k < D.sure.length := by omega
  have e0 := read_in_eq hok (z := (k : Int)) rfl hk0
  have e1 := read_in_eq hok (k := k + 1) (z := (k : Int) + 1) (by omega) hk
  obtain ⟨x0, hx0⟩ : ∃ x0, D.seen.getD k [] = x0 := ⟨_, rfl⟩
  obtain ⟨x1, hx1⟩ : ∃ x1, D.seen.getD (k + 1) [] = x1 := ⟨_, rfl⟩
  rw [hx0] at e0
  rw [hx1] at e1
  have HX0 := Lib.hid hx0
  have HX1 := Lib.hid hx1
  clear hx0 hx1
  have hW1 : ∃ W1, w.alloc (.cells #[.int .u32 0, .int .u32 0, .slice none 0 0] 31) = W1 := ⟨_, rfl⟩
  obtain ⟨W1, hW1⟩ := hW1
  have f1 : Fr (fun _ _ => True) w W1 := by rw [← hW1]; exact (Fr.refl _ _).alloc _
  have s1 : w.heap.size < W1.heap.size := by rw [← hW1]; simp
  have top := Lib.hid (show W1.heap[w.heap.size]? = some (.cells #[.int .u32 0, .int .u32 0, .slice none 0 0] 31 (0, 0)) by rw [← hW1]; exact heap_alloc_new _ _)
  have hin := h.inside
  have A0 := Lib.hid (r_read W1 br _ D _ (hin.tt f1) _ _ e0)
  have A1 := Lib.hid (r_read W1 br _ D _ (hin.tt f1) _ _ e1)
  have F1 := Lib.hid f1
  have HLM := Lib.hid hlm
  clear h hin f1 e0 e1 hok hlm
  go_enter Tryd.func62, Tryd.ntmps62
  go_wp2_with fail
  clear hW1
  (with_reducible refine A0.out.mono ?_)
  rintro e w2 ⟨⟨a0, c0, rfl, b0⟩, rfl⟩
  have B0 := Lib.hid b0
  clear b0
  go_wp2_with fail
  (with_reducible refine A1.out.mono ?_)
  rintro e w2 ⟨⟨a1, c1, rfl, b1⟩, rfl⟩
  have B1 := Lib.hid b1
  clear b1 A0 A1
  go_wp2_with fail
  (with_reducible refine (parse05_any _ _ _ B0.out).mono ?_)
  rintro e w2 ⟨⟨s1', p1, y1, a2, c2, rfl, hs1, HL1, X1, HY1⟩, f2⟩
  have hW3 : ∃ W3, w2.alloc (.cells #[.int .u32 (s1' : Nat), .int .u32 (p1 : Nat), .slice a2 y1.length c2] 31) = W3 := ⟨_, rfl⟩
  obtain ⟨W3, hW3⟩ := hW3
  have f3 : Fr (fun _ _ => True) w2 W3 := by rw [← hW3]; exact (Fr.refl _ _).alloc _
  have sz3 : w2.heap.size < W3.heap.size := by rw [← hW3]; simp
  have sz2 : W1.heap.size ≤ w2.heap.size := f2.size
  have top3 := Lib.hid (show W3.heap[w2.heap.size]? = some (.cells #[.int .u32 (s1' : Nat), .int .u32 (p1 : Nat), .slice a2 y1.length c2] 31 (0, 0)) by rw [← hW3]; exact heap_alloc_new _ _)
  have F3 := Lib.hid (F1.out.tt (f2.tt f3))
  have T3 := Lib.hid ((f2.tt f3).keep _ _ top.out trivial)
  have B1' := Lib.hid (B1.out.tt (f2.tt f3))
  have X1' := Lib.hid (X1.out.tt f3)
  clear f2 f3 B0 B1 X1
  go_wp2_with fail
  clear hW3
  (with_reducible refine (parse05_any _ _ _ B1'.out).mono ?_)
  rintro e w4 ⟨⟨s2', p2, y2, a4, c4, rfl, hs2, HL2, X2, HY2⟩, f4⟩
  have hW5 : ∃ W5, w4.alloc (.cells #[.int .u32 (s2' : Nat), .int .u32 (p2 : Nat), .slice a4 y2.length c4] 31) = W5 := ⟨_, rfl⟩
  obtain ⟨W5, hW5⟩ := hW5
  have f5 : Fr (fun _ _ => True) w4 W5 := by rw [← hW5]; exact (Fr.refl _ _).alloc _
  have sz5 : w4.heap.size < W5.heap.size := by rw [← hW5]; simp
  have sz4 : W3.heap.size ≤ w4.heap.size := f4.size
  have top5 := Lib.hid (show W5.heap[w4.heap.size]? = some (.cells #[.int .u32 (s2' : Nat), .int .u32 (p2 : Nat), .slice a4 y2.length c4] 31 (0, 0)) by rw [← hW5]; exact heap_alloc_new _ _)
  have F5 := Lib.hid (F3.out.tt (f4.tt f5))
  have TR := Lib.hid ((f4.tt f5).keep _ _ T3.out trivial)
  have TA := Lib.hid ((f4.tt f5).keep _ _ top3.out trivial)
  have Y1 := Lib.hid (X1'.out.tt (f4.tt f5))
  have Y2 := Lib.hid (X2.out.tt f5)
  clear f4 f5 B1' X1' X2 T3 top top3
  have M1 := Lib.hid (sec_of (D := D) (i := k) (by rw [HX0.out]; exact HY1.out))
  have M2 := Lib.hid (sec_of (D := D) (i := k + 1) (by rw [HX1.out]; exact HY2.out))
  clear HY1 HY2
  have ra0 := cell_mk (i := 0) TA.out rfl
  have ra1 := cell_mk (i := 1) TA.out rfl
  have ra2 := cell_mk (i := 2) TA.out rfl
  have rb0 := cell_mk (i := 0) top5.out rfl
  have rb1 := cell_mk (i := 1) top5.out rfl
  have rb2 := cell_mk (i := 2) top5.out rfl
  have rr0 := cell_mk (i := 0) TR.out rfl
  have rr1 := cell_mk (i := 1) TR.out rfl
  have rr2 := cell_mk (i := 2) TR.out rfl
  have za0 := frozen_mk (i := 0) TA.out
  have za1 := frozen_mk (i := 1) TA.out
  have za2 := frozen_mk (i := 2) TA.out
  have zb0 := frozen_mk (i := 0) top5.out
  have zb1 := frozen_mk (i := 1) top5.out
  have zb2 := frozen_mk (i := 2) top5.out
  have zr0 := frozen_mk (i := 0) TR.out
  have zr1 := frozen_mk (i := 1) TR.out
  have zr2 := frozen_mk (i := 2) TR.out
  have n1 : ¬ w2.heap.size = w4.heap.size := by omega
  have n2 : ¬ w4.heap.size = w2.heap.size := by omega
  have n3 : ¬ w.heap.size = w2.heap.size := by omega
  have n4 : ¬ w2.heap.size = w.heap.size := by omega
  have n5 : ¬ w.heap.size = w4.heap.size := by omega
  have n6 : ¬ w4.heap.size = w.heap.size := by omega
  have fin : ∀ Wf, Fr (fun c _ => c < w.heap.size) W5 Wf → Fr (fun _ _ => True) w Wf ∧ ∀ v b, BytesAt (KR br fun c => G c ∧ c < w.heap.size) W5 v b → BytesAt (KR br G) Wf v b := fun Wf hf =>
    ⟨Fr.within ((F5.out.mono fun _ _ _ => trivial : Fr (fun c _ => True ∧ c < w.heap.size) w W5).trans (hf.mono fun _ _ h => h.2)), fun v b hb => (hb.fr (hf.mono fun _ _ h => h.1.2)).mono fun _ _ _ h => ⟨h.1.1, h.2⟩⟩
  have FIN := Lib.hid fin
  have LMD : Hid ((if (secM D k).1 < (secM D (k + 1)).1 then ((secM D (k + 1)).1, (secM D (k + 1)).2, k + 1) else ((secM D k).1, (secM D k).2, k)) = (ls, lb, lw)) := HLM.out
  clear fin HLM
  have hkI : (k : Int) ≤ 600 := by omega
  have HA : Hid (w2.heap.size < w.heap.size → False) := fun h => by omega
  have HBB : Hid (w4.heap.size < w.heap.size → False) := fun h => by omega
  by_cases hp1 : p1 = 0
  · have dp1 : ((p1 : Int) != 0) = false := by simp; omega
    have HP1 := Lib.hid hp1
    clear hp1
    by_cases hp2 : p2 = 0
    · have dp2 : ((p2 : Int) != 0) = false := by simp; omega
      have HP2 := Lib.hid hp2
      clear hp2
      have MA : Hid (secM D k = (s1', y1)) := by rw [M1.out]; rw [if_pos HP1.out]; rfl
      have MB : Hid (secM D (k + 1) = (s2', y2)) := by rw [M2.out]; rw [if_pos HP2.out]; rfl
      by_cases hlt : s1' < s2'
      · have hI : (s1' : Int) < s2' := by omega
        have HLT : Hid (s1' < s2') := hlt
        clear hlt
        have EQ : Hid ((s2', y2, k + 1) = (ls, lb, lw)) := by
          have := LMD.out
          rw [MA.out, MB.out] at this
          rw [if_pos HLT.out] at this
          exact this
        go_wp2
        have eq := EQ.out
        simp only [Prod.mk.injEq] at eq
        obtain ⟨rfl, rfl, rfl⟩ := eq
        obtain ⟨g1, g2⟩ := FIN.out _ ((((Fr.refl (fun c _ => c < w.heap.size) W5).setCell (p := ⟨w.heap.size, 0, none⟩) (fun _ _ h => Nat.lt_irrefl _ h) _).setCell (p := ⟨w.heap.size, 1, none⟩) (fun _ _ h => Nat.lt_irrefl _ h) _).setCell (p := ⟨w.heap.size, 2, none⟩) (fun _ _ h => Nat.lt_irrefl _ h) _)
        exact bodyPost_ret (v := .tuple #[.agg #[.int .u32 (s2' : Nat), .int .u32 (p2 : Nat), .slice a4 y2.length c4], .int .i64 ((k : Int) + 1)]) (by simp [results, Tryd.results62, go_sem, rr0, rr1, rr2, n3, n4, n5, n6]) rfl ⟨⟨a4, c4, by rw [HP2.out]; rfl, g2 _ _ Y2.out⟩, g1⟩
      · have hI : (s2' : Int) ≤ s1' := by omega
        have HLT : Hid (¬ s1' < s2') := hlt
        clear hlt
        have EQ : Hid ((s1', y1, k) = (ls, lb, lw)) := by
          have := LMD.out
          rw [MA.out, MB.out] at this
          rw [if_neg HLT.out] at this
          exact this
        go_wp2
        have eq := EQ.out
        simp only [Prod.mk.injEq] at eq
        obtain ⟨rfl, rfl, rfl⟩ := eq
        obtain ⟨g1, g2⟩ := FIN.out _ ((((Fr.refl (fun c _ => c < w.heap.size) W5).setCell (p := ⟨w.heap.size, 0, none⟩) (fun _ _ h => Nat.lt_irrefl _ h) _).setCell (p := ⟨w.heap.size, 1, none⟩) (fun _ _ h => Nat.lt_irrefl _ h) _).setCell (p := ⟨w.heap.size, 2, none⟩) (fun _ _ h => Nat.lt_irrefl _ h) _)
        exact bodyPost_ret (v := .tuple #[.agg #[.int .u32 (s1' : Nat), .int .u32 (p1 : Nat), .slice a2 y1.length c2], .int .i64 (k : Nat)]) (by simp [results, Tryd.results62, go_sem, rr0, rr1, rr2, n3, n4, n5, n6]) rfl ⟨⟨a2, c2, by rw [HP1.out]; rfl, g2 _ _ Y1.out⟩, g1⟩
    · have dp2 : ((p2 : Int) != 0) = true := by simp; omega
      have HP2 := Lib.hid hp2
      clear hp2
      have MA : Hid (secM D k = (s1', y1)) := by rw [M1.out]; rw [if_pos HP1.out]; rfl
      have MB : Hid (secM D (k + 1) = (0, [])) := by rw [M2.out]; rw [if_neg HP2.out]; rfl
      have HLT : Hid (¬ (s1' : Nat) < 0) := Nat.not_lt_zero _
      have EQ : Hid ((s1', y1, k) = (ls, lb, lw)) := by
        have := LMD.out
        rw [MA.out, MB.out] at this
        rw [if_neg HLT.out] at this
        exact this
      go_wp2
      have eq := EQ.out
      simp only [Prod.mk.injEq] at eq
      obtain ⟨rfl, rfl, rfl⟩ := eq
      obtain ⟨g1, g2⟩ := FIN.out _ (((((((Fr.refl (fun c _ => c < w.heap.size) W5).setCell (p := ⟨w4.heap.size, 0, none⟩) (fun _ _ h => HBB.out h) _).setCell (p := ⟨w4.heap.size, 1, none⟩) (fun _ _ h => HBB.out h) _).setCell (p := ⟨w4.heap.size, 2, none⟩) (fun _ _ h => HBB.out h) _).setCell (p := ⟨w.heap.size, 0, none⟩) (fun _ _ h => Nat.lt_irrefl _ h) _).setCell (p := ⟨w.heap.size, 1, none⟩) (fun _ _ h => Nat.lt_irrefl _ h) _).setCell (p := ⟨w.heap.size, 2, none⟩) (fun _ _ h => Nat.lt_irrefl _ h) _)
      exact bodyPost_ret (v := .tuple #[.agg #[.int .u32 (s1' : Nat), .int .u32 (p1 : Nat), .slice a2 y1.length c2], .int .i64 (k : Nat)]) (by simp [results, Tryd.results62, go_sem, rr0, rr1, rr2, n3, n4, n5, n6]) rfl ⟨⟨a2, c2, by rw [HP1.out]; rfl, g2 _ _ Y1.out⟩, g1⟩
  · have dp1 : ((p1 : Int) != 0) = true := by simp; omega
    have HP1 := Lib.hid hp1
    clear hp1
    by_cases hp2 : p2 = 0
    · have dp2 : ((p2 : Int) != 0) = false := by simp; omega
      have HP2 := Lib.hid hp2
      clear hp2
      have MA : Hid (secM D k = (0, [])) := by rw [M1.out]; rw [if_neg HP1.out]; rfl
      have MB : Hid (secM D (k + 1) = (s2', y2)) := by rw [M2.out]; rw [if_pos HP2.out]; rfl
      by_cases hlt : 0 < s2'
      · have hI : (0 : Int) < s2' := by omega
        have HLT : Hid (0 < s2') := hlt
        clear hlt
        have EQ : Hid ((s2', y2, k + 1) = (ls, lb, lw)) := by
          have := LMD.out
          rw [MA.out, MB.out] at this
          rw [if_pos HLT.out] at this
          exact this
        go_wp2
        have eq := EQ.out
        simp only [Prod.mk.injEq] at eq
        obtain ⟨rfl, rfl, rfl⟩ := eq
        obtain ⟨g1, g2⟩ := FIN.out _ (((((((Fr.refl (fun c _ => c < w.heap.size) W5).setCell (p := ⟨w2.heap.size, 0, none⟩) (fun _ _ h => HA.out h) _).setCell (p := ⟨w2.heap.size, 1, none⟩) (fun _ _ h => HA.out h) _).setCell (p := ⟨w2.heap.size, 2, none⟩) (fun _ _ h => HA.out h) _).setCell (p := ⟨w.heap.size, 0, none⟩) (fun _ _ h => Nat.lt_irrefl _ h) _).setCell (p := ⟨w.heap.size, 1, none⟩) (fun _ _ h => Nat.lt_irrefl _ h) _).setCell (p := ⟨w.heap.size, 2, none⟩) (fun _ _ h => Nat.lt_irrefl _ h) _)
        exact bodyPost_ret (v := .tuple #[.agg #[.int .u32 (s2' : Nat), .int .u32 (p2 : Nat), .slice a4 y2.length c4], .int .i64 ((k : Int) + 1)]) (by simp [results, Tryd.results62, go_sem, rr0, rr1, rr2, n3, n4, n5, n6]) rfl ⟨⟨a4, c4, by rw [HP2.out]; rfl, g2 _ _ Y2.out⟩, g1⟩
      · have h0 : (s2' : Int) ≤ 0 := by omega
        have HLT : Hid (¬ 0 < s2') := hlt
        clear hlt
        have EQ : Hid ((0, [], k) = (ls, lb, lw)) := by
          have := LMD.out
          rw [MA.out, MB.out] at this
          rw [if_neg HLT.out] at this
          exact this
        go_wp2
        have eq := EQ.out
        simp only [Prod.mk.injEq] at eq
        obtain ⟨rfl, rfl, rfl⟩ := eq
        obtain ⟨g1, g2⟩ := FIN.out _ (((((((Fr.refl (fun c _ => c < w.heap.size) W5).setCell (p := ⟨w2.heap.size, 0, none⟩) (fun _ _ h => HA.out h) _).setCell (p := ⟨w2.heap.size, 1, none⟩) (fun _ _ h => HA.out h) _).setCell (p := ⟨w2.heap.size, 2, none⟩) (fun _ _ h => HA.out h) _).setCell (p := ⟨w.heap.size, 0, none⟩) (fun _ _ h => Nat.lt_irrefl _ h) _).setCell (p := ⟨w.heap.size, 1, none⟩) (fun _ _ h => Nat.lt_irrefl _ h) _).setCell (p := ⟨w.heap.size, 2, none⟩) (fun _ _ h => Nat.lt_irrefl _ h) _)
        exact bodyPost_ret (v := .tuple #[.agg #[.int .u32 0, .int .u32 0, .slice none 0 0], .int .i64 (k : Nat)]) (by simp [results, Tryd.results62, go_sem, rr0, rr1, rr2, n3, n4, n5, n6]) rfl ⟨⟨none, 0, rfl, BytesAt.nil _ _⟩, g1⟩
    · have dp2 : ((p2 : Int) != 0) = true := by simp; omega
      have HP2 := Lib.hid hp2
      clear hp2
      have MA : Hid (secM D k = (0, [])) := by rw [M1.out]; rw [if_neg HP1.out]; rfl
      have MB : Hid (secM D (k + 1) = (0, [])) := by rw [M2.out]; rw [if_neg HP2.out]; rfl
      have HLT : Hid (¬ (0 : Nat) < 0) := Nat.not_lt_zero _
      have EQ : Hid ((0, [], k) = (ls, lb, lw)) := by
        have := LMD.out
        rw [MA.out, MB.out] at this
        rw [if_neg HLT.out] at this
        exact this
      go_wp2
      have eq := EQ.out
      simp only [Prod.mk.injEq] at eq
      obtain ⟨rfl, rfl, rfl⟩ := eq
      obtain ⟨g1, g2⟩ := FIN.out _ ((((((((((Fr.refl (fun c _ => c < w.heap.size) W5).setCell (p := ⟨w2.heap.size, 0, none⟩) (fun _ _ h => HA.out h) _).setCell (p := ⟨w2.heap.size, 1, none⟩) (fun _ _ h => HA.out h) _).setCell (p := ⟨w2.heap.size, 2, none⟩) (fun _ _ h => HA.out h) _).setCell (p := ⟨w4.heap.size, 0, none⟩) (fun _ _ h => HBB.out h) _).setCell (p := ⟨w4.heap.size, 1, none⟩) (fun _ _ h => HBB.out h) _).setCell (p := ⟨w4.heap.size, 2, none⟩) (fun _ _ h => HBB.out h) _).setCell (p := ⟨w.heap.size, 0, none⟩) (fun _ _ h => Nat.lt_irrefl _ h) _).setCell (p := ⟨w.heap.size, 1, none⟩) (fun _ _ h => Nat.lt_irrefl _ h) _).setCell (p := ⟨w.heap.size, 2, none⟩) (fun _ _ h => Nat.lt_irrefl _ h) _)
      exact bodyPost_ret (v := .tuple #[.agg #[.int .u32 0, .int .u32 0, .slice none 0 0], .int .i64 (k : Nat)]) (by simp [results, Tryd.results62, go_sem, rr0, rr1, rr2, n3, n4, n5, n6]) rfl ⟨⟨none, 0, rfl, BytesAt.nil _ _⟩, g1⟩
end Go.Proofs.YtaeonlafcbgpcaaDoor
/- The reference of layer 5: Load, Put, Save. -/
namespace Go.Proofs.YtaeonlafcbgpcaaDoor
open Go.RowKit
set_option linter.unusedVariables false

set_option maxRecDepth 100000 in
theorem r_load (w : World) (br : Nat) (G : Nat → Prop) (D : Dk) (i : Int) (h : Rdk w br G D) (b : List UInt8) (s : Nat) (c : Int) (hr : loadM D i = (b, s, c)) :
    Calls Tryd.prog 30 #[.pointer (some ⟨br, 0, none⟩), .int .i64 i] w fun e w' => (∃ a cap, e = .returned (.tuple #[.slice a b.length cap, .int .u32 (s : Nat), .int .i64 c]) ∧ BytesAt (KR br G) w' (.slice a b.length cap) b) ∧ Fr (fun _ _ => True) w w' := by
  have hrc := r_right w br G D i h
  unfold loadM at hr
  cases hq : D.right i with
  | false =>
    rw [hq] at hrc hr
    cases hr
    have HR := Lib.hid hrc
    clear hrc h hq
    go_enter Tryd.func30, Tryd.ntmps30
    go_wp2_with fail
    (with_reducible refine HR.out.mono ?_)
    rintro e w1 ⟨rfl, rfl⟩
    go_wp2
    go_ret3
    exact ⟨⟨_, _, rfl, BytesAt.nil _ _⟩, Fr.refl _ _⟩
  | true =>
    rw [hq, if_pos rfl] at hr
    rw [hq] at hrc
    obtain ⟨k, rfl, hk⟩ := right_nat hq
    rw [Int.toNat_natCast] at hr
    obtain ⟨q1, q2, _, _⟩ := lastM_rec D k
    rw [← q1, ← q2] at hr
    obtain ⟨ls, lb, lw, hlm⟩ : ∃ ls lb lw, lastM D k = (ls, lb, lw) := ⟨_, _, _, rfl⟩
    have hla := r_last w br G D k k rfl h hk ls lb lw hlm
    rw [hlm] at hr
    have he : (if ls = 0 then (([] : List UInt8), (0 : Nat), (41 : Int)) else (lb, ls, 0)) = (b, s, c) := hr
    have HR := Lib.hid hrc
    have HL := Lib.hid hla
    clear hrc hla h hq hr hlm q1 q2
    by_cases h0 : ls = 0
    · rw [if_pos h0] at he
      have h0' : (((ls : Nat) : Int) == 0) = true := by simp; omega
      cases he
      clear h0
      go_enter Tryd.func30, Tryd.ntmps30
      go_wp2_with fail
      (with_reducible refine HR.out.mono ?_)
      rintro e w1 ⟨rfl, rfl⟩
      go_wp2_with fail
      (with_reducible refine HL.out.mono ?_)
      rintro e w2 ⟨⟨a2, c2, rfl, b2⟩, f2⟩
      have F2 := Lib.hid f2
      clear f2 b2
      go_wp2
      go_ret3
      exact ⟨⟨_, _, rfl, BytesAt.nil _ _⟩, F2.out.alloc _⟩
    · rw [if_neg h0] at he
      have h0' : (((ls : Nat) : Int) == 0) = false := by simp; omega
      cases he
      clear h0
      go_enter Tryd.func30, Tryd.ntmps30
      go_wp2_with fail
      (with_reducible refine HR.out.mono ?_)
      rintro e w1 ⟨rfl, rfl⟩
      go_wp2_with fail
      (with_reducible refine HL.out.mono ?_)
      rintro e w2 ⟨⟨a2, c2, rfl, b2⟩, f2⟩
      have F2 := Lib.hid f2
      have B2 := Lib.hid b2
      clear f2 b2
      go_wp2
      go_region
      all_goals
        go_wp2
        go_ret3
        exact ⟨⟨_, _, rfl, B2.out.tt ((Fr.refl _ _).alloc _).drew⟩, (F2.out.alloc _).drew⟩

theorem Rdk.wide {w : World} {br : Nat} {G : Nat → Prop} {D : Dk} (h : Rdk w br G D) (n : Nat) : Rdk w br (fun c => G c ∨ n ≤ c) D := h.mono fun _ h => .inl h

set_option maxRecDepth 100000 in
set_option maxHeartbeats 2000000 in
theorem r_put {K : Nat → Obj → Prop} (w : World) (br : Nat) (G : Nat → Prop) (D : Dk) (i : Int) (v : Value) (b : List UInt8) (h : Rdk w br G D) (hb : BytesAt K w v b) (hq : D.pend.length < 1000000) :
    Calls Tryd.prog 54 #[.pointer (some ⟨br, 0, none⟩), .int .i64 i, v] w fun e w' => e = .returned (.int .i64 (putM D i b).1) ∧ Rdk w' br (fun c => G c ∨ w.heap.size ≤ c) (putM D i b).2 ∧ Fr (fun c _ => c ≠ br) w w' := by
  obtain ⟨va, vc, rfl⟩ := hb.form
  have hrc := r_right w br G D i h
  cases hr : D.right i with
  | false =>
    rw [hr] at hrc
    have e1 : putM D i b = (40, D) := by unfold putM; rw [hr]; rfl
    have E1 := Lib.hid e1
    have HR := Lib.hid hrc
    have HD := Lib.hid h
    clear hrc h hb hq hr e1
    go_enter Tryd.func54, Tryd.ntmps54
    go_wp2_with fail
    (with_reducible refine HR.out.mono ?_)
    rintro e w1 ⟨rfl, rfl⟩
    go_wp2
    go_ret
    rw [E1.out]
    exact ⟨rfl, HD.out.wide _, Fr.refl _ _⟩
  | true =>
    rw [hr] at hrc
    obtain ⟨k, rfl, hk⟩ := right_nat hr
    have e1 : putM D k b = (if 43 < b.length then (2, D) else if (lastRec D k).2.1 = 4294967295 then (42, D) else D.sync.write (2 * k + 1 - (lastRec D k).1) (stampB ((lastRec D k).2.1 + 1) 0 b)) := by
      unfold putM; rw [hr, if_pos rfl, Int.toNat_natCast]
    have HR := Lib.hid hrc
    have HD := Lib.hid h
    have hkm : k ≤ 511 := by have := h.gd.ok.max; omega
    by_cases hbl : 43 < b.length
    · rw [if_pos hbl] at e1
      have E1 := Lib.hid e1
      have hbI : (43 : Int) < b.length := by omega
      clear hrc h hb hq hr e1 hbl
      go_enter Tryd.func54, Tryd.ntmps54
      go_wp2_with fail
      (with_reducible refine HR.out.mono ?_)
      rintro e w1 ⟨rfl, rfl⟩
      go_wp2
      go_ret
      rw [E1.out]
      exact ⟨rfl, HD.out.wide _, Fr.refl _ _⟩
    · rw [if_neg hbl] at e1
      have hbI : (b.length : Int) ≤ 43 := by omega
      obtain ⟨q1, q2, q3, q4⟩ := lastM_rec D k
      obtain ⟨hb1, hb2, hb3, hb4⟩ := lastRec_bound D k
      obtain ⟨ls, lb, lw, hlm⟩ : ∃ ls lb lw, lastM D k = (ls, lb, lw) := ⟨_, _, _, rfl⟩
      have hla := r_last w br G D k k rfl h hk ls lb lw hlm
      rw [hlm] at q1 q2 q3 q4
      replace q1 : ls = (lastRec D k).2.1 := q1
      replace q3 : 0 < ls → lw = (lastRec D k).1 := q3
      replace q4 : ls = 0 → lw = k ∧ (lastRec D k).1 = k + 1 := q4
      rw [← q1] at e1 hb1
      generalize (lastRec D k).1 = la at e1 q3 q4 hb3 hb4
      have HL := Lib.hid hla
      have HB := Lib.hid hb
      have E1 := Lib.hid e1
      have Q3 := Lib.hid q3
      have Q4 := Lib.hid q4
      clear hrc h hb hr e1 hla hlm q1 q2 q3 q4 hb2 hbl
      by_cases hmax : ls = 4294967295
      · have dq : (((ls : Nat) : Int) == 4294967295) = true := by simp; omega
        have EE : Hid (putM D k b = (42, D)) := by rw [E1.out, if_pos hmax]; rfl
        clear hmax
        go_enter Tryd.func54, Tryd.ntmps54
        go_wp2_with fail
        (with_reducible refine HR.out.mono ?_)
        rintro e w1 ⟨rfl, rfl⟩
        go_wp2_with fail
        (with_reducible refine HL.out.mono ?_)
        rintro e w2 ⟨⟨a2, c2, rfl, b2⟩, f2⟩
        have F2 := Lib.hid f2
        clear f2 b2
        go_wp2
        go_ret
        rw [EE.out]
        exact ⟨rfl, (HD.out.tt (F2.out.alloc _)).wide _, (F2.out.alloc _).mono fun _ _ _ => trivial⟩
      · have dq : (((ls : Nat) : Int) == 4294967295) = false := by simp; omega
        have E2 : Hid (putM D k b = D.sync.write (2 * k + 1 - la) (stampB (ls + 1) 0 b)) := by rw [E1.out, if_neg hmax]; rfl
        have hls : ls + 1 < 4294967296 := by omega
        clear hmax E1 hb1
        go_enter Tryd.func54, Tryd.ntmps54
        go_wp2_with fail
        (with_reducible refine HR.out.mono ?_)
        rintro e w1 ⟨rfl, rfl⟩
        go_wp2_with fail
        (with_reducible refine HL.out.mono ?_)
        rintro e w2 ⟨⟨a2, c2, rfl, b2⟩, f2⟩
        have hW : ∃ W, w2.alloc (.cells #[.int .u32 (ls : Nat), .int .u32 0, .slice a2 lb.length c2] 31) = W := ⟨_, rfl⟩
        obtain ⟨W, hW⟩ := hW
        have f3 : Fr (fun _ _ => True) w W := by rw [← hW]; exact f2.alloc _
        have sz : w.heap.size ≤ W.heap.size := f3.size
        have top := (show W.heap[w2.heap.size]? = some (.cells #[.int .u32 (ls : Nat), .int .u32 0, .slice a2 lb.length c2] 31 (0, 0)) by rw [← hW]; exact heap_alloc_new _ _)
        have c0 := cell_mk (i := 0) top rfl
        have F3 := Lib.hid f3
        have B3 := Lib.hid (HB.out.tt f3)
        have D3 := Lib.hid (HD.out.inside.tt f3)
        clear f2 b2 f3 top
        obtain ⟨hA, hA2⟩ | ⟨hA, hA2⟩ | ⟨hA, hA2⟩ : (0 < ls ∧ lw = k) ∨ (0 < ls ∧ lw ≠ k) ∨ (ls = 0 ∧ lw = k) := by
          have := Q4.out
          omega
        · have hI : (0 : Int) < ls := by omega
          have dw : (((lw : Nat) : Int) == (k : Int)) = true := by simp; omega
          have EE : Hid (putM D k b = D.sync.write ((k : Int) + 1) (stampB (ls + 1) 0 b)) := by
            have := Q3.out hA
            rw [E2.out, show (2 * (k : Int) + 1 - (la : Int)) = (k : Int) + 1 by omega]; rfl
          clear hA hA2
          go_wp2_with fail
          clear hW
          (with_reducible refine (stamp05_calls _ (ls + 1) 0 _ _ (by omega) (by omega) _ b B3.out hls (by decide)).mono ?_)
          rintro e w4 ⟨(⟨hbl, rfl⟩ | ⟨hbl, a4, c4, rfl, b4⟩), f4⟩
          · exfalso; omega
          · have F4 := Lib.hid (F3.out.trans f4)
            have D4 := Lib.hid (D3.out.tt f4)
            have B4 := Lib.hid b4
            have s4 : W.heap.size ≤ w4.heap.size := f4.size
            clear f4 b4 hbl c0
            go_wp2_with fail
            (with_reducible refine (r_sync w4 br _ D D4.out).mono ?_)
            rintro e w5 ⟨rfl, d5, f5⟩
            have hbr : br < w.heap.size := by obtain ⟨_, _, _, _, _, q⟩ := HD.out; exact lt_of_some q.top
            have B5 := Lib.hid (B4.out.fr (f5.mono fun c _ h hc => by have := h.1; omega))
            have D5 := Lib.hid d5
            have F5 := Lib.hid f5
            have hq5 : D.sync.pend.length < 1000000 := Nat.lt_of_le_of_lt (pend_sync D) hq
            have hap : Hid (∀ c o, w5.heap[c]? = some o → New W.heap.size c o → c ≠ br) := fun c o _ h1 h2 => by have := h1.1; omega
            clear d5 f5
            go_wp2_with fail
            (with_reducible refine (r_write w5 br _ D.sync _ _ _ D5.out B5.out hap.out hq5).mono ?_)
            rintro e w6 ⟨rfl, d6, f6⟩
            have D6 := Lib.hid d6
            have F6 := Lib.hid f6
            clear d6 f6
            go_wp2
            go_ret
            rw [EE.out]
            have s5 := F5.out.size
            refine ⟨rfl, D6.out.mono fun c h => ?_, ((F4.out.mono fun _ _ _ => trivial).trans F5.out).trans F6.out⟩
            rcases h with (h | h) | h
            · exact .inl h.1
            · exact .inr (by omega)
            · exact .inr (by omega)
        · have hI : (0 : Int) < ls := by omega
          have dw : (((lw : Nat) : Int) == (k : Int)) = false := by simp; omega
          have EE : Hid (putM D k b = D.sync.write (k : Int) (stampB (ls + 1) 0 b)) := by
            have := Q3.out hA
            rw [E2.out, show (2 * (k : Int) + 1 - (la : Int)) = (k : Int) by omega]; rfl
          clear hA hA2
          go_wp2_with fail
          clear hW
          (with_reducible refine (stamp05_calls _ (ls + 1) 0 _ _ (by omega) (by omega) _ b B3.out hls (by decide)).mono ?_)
          rintro e w4 ⟨(⟨hbl, rfl⟩ | ⟨hbl, a4, c4, rfl, b4⟩), f4⟩
          · exfalso; omega
          · have F4 := Lib.hid (F3.out.trans f4)
            have D4 := Lib.hid (D3.out.tt f4)
            have B4 := Lib.hid b4
            have s4 : W.heap.size ≤ w4.heap.size := f4.size
            clear f4 b4 hbl c0
            go_wp2_with fail
            (with_reducible refine (r_sync w4 br _ D D4.out).mono ?_)
            rintro e w5 ⟨rfl, d5, f5⟩
            have hbr : br < w.heap.size := by obtain ⟨_, _, _, _, _, q⟩ := HD.out; exact lt_of_some q.top
            have B5 := Lib.hid (B4.out.fr (f5.mono fun c _ h hc => by have := h.1; omega))
            have D5 := Lib.hid d5
            have F5 := Lib.hid f5
            have hq5 : D.sync.pend.length < 1000000 := Nat.lt_of_le_of_lt (pend_sync D) hq
            have hap : Hid (∀ c o, w5.heap[c]? = some o → New W.heap.size c o → c ≠ br) := fun c o _ h1 h2 => by have := h1.1; omega
            clear d5 f5
            go_wp2_with fail
            (with_reducible refine (r_write w5 br _ D.sync _ _ _ D5.out B5.out hap.out hq5).mono ?_)
            rintro e w6 ⟨rfl, d6, f6⟩
            have D6 := Lib.hid d6
            have F6 := Lib.hid f6
            clear d6 f6
            go_wp2
            go_ret
            rw [EE.out]
            have s5 := F5.out.size
            refine ⟨rfl, D6.out.mono fun c h => ?_, ((F4.out.mono fun _ _ _ => trivial).trans F5.out).trans F6.out⟩
            rcases h with (h | h) | h
            · exact .inl h.1
            · exact .inr (by omega)
            · exact .inr (by omega)
        · have hI : (ls : Int) ≤ 0 := by omega
          have EE : Hid (putM D k b = D.sync.write (k : Int) (stampB (ls + 1) 0 b)) := by
            have := (Q4.out hA).2
            rw [E2.out, show (2 * (k : Int) + 1 - (la : Int)) = (k : Int) by omega]; rfl
          clear hA hA2
          go_wp2_with fail
          clear hW
          (with_reducible refine (stamp05_calls _ (ls + 1) 0 _ _ (by omega) (by omega) _ b B3.out hls (by decide)).mono ?_)
          rintro e w4 ⟨(⟨hbl, rfl⟩ | ⟨hbl, a4, c4, rfl, b4⟩), f4⟩
          · exfalso; omega
          · have F4 := Lib.hid (F3.out.trans f4)
            have D4 := Lib.hid (D3.out.tt f4)
            have B4 := Lib.hid b4
            have s4 : W.heap.size ≤ w4.heap.size := f4.size
            clear f4 b4 hbl c0
            go_wp2_with fail
            (with_reducible refine (r_sync w4 br _ D D4.out).mono ?_)
            rintro e w5 ⟨rfl, d5, f5⟩
            have hbr : br < w.heap.size := by obtain ⟨_, _, _, _, _, q⟩ := HD.out; exact lt_of_some q.top
            have B5 := Lib.hid (B4.out.fr (f5.mono fun c _ h hc => by have := h.1; omega))
            have D5 := Lib.hid d5
            have F5 := Lib.hid f5
            have hq5 : D.sync.pend.length < 1000000 := Nat.lt_of_le_of_lt (pend_sync D) hq
            have hap : Hid (∀ c o, w5.heap[c]? = some o → New W.heap.size c o → c ≠ br) := fun c o _ h1 h2 => by have := h1.1; omega
            clear d5 f5
            go_wp2_with fail
            (with_reducible refine (r_write w5 br _ D.sync _ _ _ D5.out B5.out hap.out hq5).mono ?_)
            rintro e w6 ⟨rfl, d6, f6⟩
            have D6 := Lib.hid d6
            have F6 := Lib.hid f6
            clear d6 f6
            go_wp2
            go_ret
            rw [EE.out]
            have s5 := F5.out.size
            refine ⟨rfl, D6.out.mono fun c h => ?_, ((F4.out.mono fun _ _ _ => trivial).trans F5.out).trans F6.out⟩
            rcases h with (h | h) | h
            · exact .inl h.1
            · exact .inr (by omega)
            · exact .inr (by omega)

set_option maxRecDepth 100000 in
theorem r_save {K : Nat → Obj → Prop} (w : World) (br : Nat) (G : Nat → Prop) (D : Dk) (i : Int) (v : Value) (b : List UInt8) (h : Rdk w br G D) (hb : BytesAt K w v b) (hq : D.pend.length < 1000000) :
    Calls Tryd.prog 53 #[.pointer (some ⟨br, 0, none⟩), .int .i64 i, v] w fun e w' => e = .returned (.int .i64 (saveM D i b).1) ∧ Rdk w' br (fun c => G c ∨ w.heap.size ≤ c) (saveM D i b).2 ∧ Fr (fun c _ => c ≠ br) w w' := by
  have hp := r_put w br G D i v b h hb hq
  obtain ⟨va, vc, rfl⟩ := hb.form
  have hsv : Hid (saveM D i b = if (putM D i b).1 = 0 then (if (putM D i b).2.sync.down then 43 else 0, (putM D i b).2.sync) else putM D i b) := rfl
  generalize saveM D i b = r at hsv ⊢
  generalize putM D i b = p at hp hsv
  obtain ⟨c, D1⟩ := p
  have HP := Lib.hid hp
  clear hp h hb
  by_cases hc : c = 0
  · subst hc
    go_enter Tryd.func53, Tryd.ntmps53
    go_wp2_with fail
    (with_reducible refine HP.out.mono ?_)
    rintro e w1 ⟨rfl, d1, f1⟩
    have D1' := Lib.hid d1
    have F1 := Lib.hid f1
    clear d1 f1
    go_wp2_with fail
    (with_reducible refine (r_sync w1 br _ D1 D1'.out).mono ?_)
    rintro e w2 ⟨rfl, d2, f2⟩
    have D2 : Hid (Rdk w2 br (fun c => G c ∨ w.heap.size ≤ c) D1.sync) := d2.mono fun c hc => by
      rcases hc with hc | hc
      · exact hc
      · exact .inr (Nat.le_trans F1.out.size hc)
    have F2 : Hid (Fr (fun c _ => c ≠ br) w w2) := F1.out.trans f2
    have e0 := hsv.out
    have dd : w2.cell? ⟨br, 4, none⟩ = some (.bool D1.sync.down) := by
      obtain ⟨_, _, _, _, _, q⟩ := d2
      exact cell_mk q.top rfl
    generalize hdw : D1.sync.down = dn at dd
    have e1 : r = (if dn then 43 else 0, D1.sync) := by rw [e0, ← hdw]; simp
    have E1 := Lib.hid e1
    clear e1
    clear d2 f2 hsv hdw e0
    cases dn with
    | true =>
      go_wp2
      go_ret
      rw [E1.out]
      exact ⟨rfl, D2.out, F2.out⟩
    | false =>
      go_wp2
      go_ret
      rw [E1.out]
      exact ⟨rfl, D2.out, F2.out⟩
  · have e1 : r = (c, D1) := by rw [hsv.out, if_neg hc]
    have E1 := Lib.hid e1
    have hc' : (c != 0) = true := by simp [hc]
    clear e1 hsv hc
    go_enter Tryd.func53, Tryd.ntmps53
    go_wp2_with fail
    (with_reducible refine HP.out.mono ?_)
    rintro e w1 ⟨rfl, d1, f1⟩
    have D1' := Lib.hid d1
    have F1 := Lib.hid f1
    clear d1 f1
    go_wp2
    go_ret
    rw [E1.out]
    exact ⟨rfl, D1'.out, F1.out⟩
end Go.Proofs.YtaeonlafcbgpcaaDoor
/- Law 5: awake. -/
namespace Go.Proofs.YtaeonlafcbgpcaaDoor
open Go.RowKit

theorem aw0 : loadM (Dk.new 4) 1 = ([], 0, 41) := by decide +kernel
def awD1 : Dk := (saveM (Dk.new 4) 1 [1, 2]).2
def awD2 : Dk := (putM awD1 1 [3]).2
theorem aw1 : (saveM (Dk.new 4) 1 [1, 2]).1 = 0 := by decide +kernel
theorem aw2 : loadM awD1 1 = ([1, 2], 1, 0) := by decide +kernel
theorem aw3 : (putM awD1 1 [3]).1 = 0 := by decide +kernel
theorem aw4 : loadM (awD2.crash []) 1 = ([1, 2], 1, 0) := by decide +kernel
theorem aw5 : loadM (awD2.crash [64]) 1 = ([3], 2, 0) := by decide +kernel
theorem aw6 : (putM (Dk.new 4) 3 []).1 = 40 := by decide +kernel
theorem aw7 : awD1.pend.length < 1000000 := by decide +kernel
theorem aw8 : (Dk.new 4).pend.length < 1000000 := by decide +kernel

/-- Bytes that are written out. -/
theorem BytesAt.lit (w : World) (cs : Array Value) (bs : List UInt8) (n : Nat) (hl : bs.length = n) (hc : cs = (bs.map byteV).toArray) : BytesAt (New w.heap.size) (w.alloc (.cells cs 5 (0, 0))) (.slice (some ⟨w.heap.size, 0, none⟩) n n) bs := by
  subst hc hl
  refine ⟨_, bs.length, rfl, Nat.le_refl _, (fun e => by cases e), .inr ⟨w.heap.size, 0, _, rfl, heap_alloc_new _ _, ⟨Nat.le_refl _, _, _, rfl⟩, fun i hi => ?_⟩⟩
  exact cell_mk (heap_alloc_new _ _) (by simp [hi])
/-- Two disks that lie apart: a step on one leaves the other. -/
theorem Dsk.other {w w' : World} {bx : Nat} {F G : Nat → Prop} {X : Dk} (h : Dsk w bx G X) (hf : Fr (fun c _ => ¬ F c) w w') (hd : ∀ c, c < w.heap.size → G c → ¬ F c) : Dsk w' bx G X :=
  h.fr hf fun c _ hc hg => hd c (lt_of_some hc) hg

set_option maxRecDepth 100000 in
set_option maxHeartbeats 2000000 in
theorem awake_calls (w : World) (ht : TabOK w) :
    Calls Tryd.prog 12 #[] w fun e w' => e = .returned (.bool true) ∧ Fr (fun _ _ => True) w w' := by
  have HT := Lib.hid ht
  clear ht
  have h0 : 0 < w.heap.size := by have := cell_lt (HT.out 0 (by decide)); simpa using this
  have TT : Hid (∀ W, Fr (fun c _ => c < w.heap.size) w W → TabOK W) := fun W hW i hi => hW.cell (fun _ _ => h0) (HT.out i hi)
  clear HT
  go_enter Tryd.func12, Tryd.ntmps12
  go_wp2_with fail
  (with_reducible refine (new_calls _ 4 _ (by decide) (by decide) (by decide)).mono ?_)
  rintro e w1 ⟨⟨bd, rfl, d1⟩, f1⟩
  have D1 := Lib.hid d1.inside
  have F1 := Lib.hid (f1.mono (K' := fun c _ => c < w.heap.size) fun _ _ _ => trivial)
  clear d1 f1
  go_wp2_with fail
  (with_reducible refine (new_calls _ 4 _ (by decide) (by decide) (by decide)).mono ?_)
  rintro e w2 ⟨⟨bx, rfl, x2⟩, f2⟩
  have X2 := Lib.hid x2.inside
  have D2 := Lib.hid (D1.out.tt f2)
  have F2 := Lib.hid (F1.out.tt f2)
  have s1 : w.heap.size ≤ w1.heap.size := F1.out.size
  have s2 : w1.heap.size ≤ w2.heap.size := f2.size
  clear x2 f2 D1
  go_wp2_with fail
  (with_reducible refine (load_calls _ bd _ _ _ D2.out (TT.out _ F2.out) _ _ _ aw0).mono ?_)
  rintro e w3 ⟨⟨a3, c3, rfl, b3⟩, f3⟩
  have X3 := Lib.hid (X2.out.tt f3)
  have D3 := Lib.hid (D2.out.tt (f3.alloc (.cells #[.int .u8 1, .int .u8 2] 5 (0, 0))))
  have F3 := Lib.hid (F2.out.tt (f3.alloc (.cells #[.int .u8 1, .int .u8 2] 5 (0, 0))))
  have s3 : w2.heap.size ≤ w3.heap.size := f3.size
  clear b3 f3 D2 X2
  have X3' := Lib.hid (X3.out.tt ((Fr.refl _ _).alloc (.cells #[.int .u8 1, .int .u8 2] 5 (0, 0))))
  have B3 := Lib.hid (BytesAt.lit w3 #[.int .u8 1, .int .u8 2] [1, 2] 2 rfl rfl)
  have q3 := Lib.hid (World.size_alloc w3 (.cells #[.int .u8 1, .int .u8 2] 5 (0, 0)))
  go_wp2_with fail
  generalize w3.alloc (.cells #[.int .u8 1, .int .u8 2] 5 (0, 0)) = v3 at D3 F3 X3' B3 q3 ⊢
  have q3' : w3.heap.size + 1 ≤ v3.heap.size := Nat.le_of_eq q3.out.symm
  (with_reducible refine (save_calls _ bd _ _ _ _ [1, 2] D3.out B3.out (TT.out _ F3.out) aw8).mono ?_)
  rintro e w4 ⟨rfl, d4, f4⟩
  have D4 := Lib.hid (show Dsk w4 bd _ awD1 from d4).inside
  have s4 : v3.heap.size ≤ w4.heap.size := f4.size
  have X4 := Lib.hid (X3'.out.other f4 fun c _ h1 h2 => by omega)
  have F4 := Lib.hid (F3.out.trans (f4.mono fun c _ h1 h2 => by omega))
  clear d4 f4 D3 F3 B3 X3 X3' q3
  rw [aw1]
  go_wp2_with fail
  (with_reducible refine (load_calls _ bd _ _ _ D4.out (TT.out _ F4.out) _ _ _ aw2).mono ?_)
  rintro e w5 ⟨⟨a5, c5, rfl, b5⟩, f5⟩
  have X5 := Lib.hid (X4.out.tt (f5.alloc (.cells #[.int .u8 3] 5 (0, 0))))
  have D5 := Lib.hid (D4.out.tt (f5.alloc (.cells #[.int .u8 3] 5 (0, 0))))
  have F5 := Lib.hid (F4.out.tt (f5.alloc (.cells #[.int .u8 3] 5 (0, 0))))
  have s5 : w4.heap.size ≤ w5.heap.size := f5.size
  have B5 := Lib.hid ((b5.mono (K' := fun c _ => w4.heap.size ≤ c ∧ c < w5.heap.size) fun c o ho h => ⟨h.1, lt_of_some ho⟩).tt ((Fr.refl _ _).alloc (.cells #[.int .u8 3] 5 (0, 0))))
  have L5 := Lib.hid (BytesAt.lit w5 #[.int .u8 3] [3] 1 rfl rfl)
  have q5 := Lib.hid (World.size_alloc w5 (.cells #[.int .u8 3] 5 (0, 0)))
  clear b5 f5 D4 X4
  go_wp2_with fail
  generalize w5.alloc (.cells #[.int .u8 3] 5 (0, 0)) = v5 at X5 D5 F5 B5 L5 q5 ⊢
  have q5' : w5.heap.size + 1 ≤ v5.heap.size := Nat.le_of_eq q5.out.symm
  (with_reducible refine (put_calls _ bd _ _ _ _ [3] D5.out L5.out (TT.out _ F5.out) aw7).mono ?_)
  rintro e w6 ⟨rfl, d6, f6⟩
  have D6 := Lib.hid (show Dsk w6 bd _ awD2 from d6).inside
  have s6 : v5.heap.size ≤ w6.heap.size := f6.size
  have X6 := Lib.hid (X5.out.other f6 fun c _ h1 h2 => by omega)
  have F6 := Lib.hid (F5.out.trans (f6.mono fun c _ h1 h2 => by omega))
  have B6 := Lib.hid (B5.out.fr (f6.mono fun c o h1 h2 => by omega))
  clear d6 f6 D5 F5 B5 X5 L5 q5
  rw [aw3]
  go_wp2_with fail
  (with_reducible refine (copy_calls _ bd _ _ D6.out).mono ?_)
  rintro e w7 ⟨⟨by', rfl, y7⟩, f7⟩
  have Y7 := Lib.hid y7.inside
  have D7 := Lib.hid (D6.out.tt f7)
  have X7 := Lib.hid (X6.out.tt f7)
  have F7 := Lib.hid (F6.out.tt f7)
  have B7 := Lib.hid (B6.out.tt f7)
  have s7 : w6.heap.size ≤ w7.heap.size := f7.size
  have I7 : Hid (IntsAt (fun _ _ => False) w7 (.slice none 0 0) []) := ⟨none, 0, rfl, .inl rfl⟩
  clear y7 f7 D6 X6 F6 B6
  go_wp2_with fail
  (with_reducible refine (crash_main w7 bd _ _ none 0 0 [] D7.out I7.out (fun _ _ h => h.elim)).mono ?_)
  rintro e w8 ⟨rfl, d8, f8⟩
  have D8 := Lib.hid d8
  have Y8 := Lib.hid (Y7.out.other f8 fun c _ h1 h2 => by omega)
  have X8 := Lib.hid (X7.out.other f8 fun c _ h1 h2 => by omega)
  have F8 := Lib.hid (F7.out.trans (f8.mono fun c _ h1 h2 => by omega))
  have B8 := Lib.hid (B7.out.fr (f8.mono fun c o h1 h2 => by omega))
  have s8 : w7.heap.size ≤ w8.heap.size := f8.size
  clear d8 f8 D7 Y7 X7 F7 B7 I7
  go_wp2_with fail
  (with_reducible refine (load_calls _ bd _ _ _ D8.out (TT.out _ F8.out) _ _ _ aw4).mono ?_)
  rintro e w9 ⟨⟨a9, c9, rfl, b9⟩, f9⟩
  have s9 : w8.heap.size ≤ w9.heap.size := f9.size
  have Y9 := Lib.hid (Y8.out.tt (f9.alloc (.cells #[.int .i64 64] 3 (0, 0))))
  have X9 := Lib.hid (X8.out.tt (f9.alloc (.cells #[.int .i64 64] 3 (0, 0))))
  have F9 := Lib.hid (F8.out.tt (f9.alloc (.cells #[.int .i64 64] 3 (0, 0))))
  have B9 := Lib.hid (B8.out.tt (f9.alloc (.cells #[.int .i64 64] 3 (0, 0))))
  have A9 := Lib.hid ((b9.mono (K' := fun c _ => w8.heap.size ≤ c ∧ c < w9.heap.size) fun c o ho h => ⟨h.1, lt_of_some ho⟩).tt ((Fr.refl _ _).alloc (.cells #[.int .i64 64] 3 (0, 0))))
  have I9 : Hid (IntsAt (fun c _ => w9.heap.size ≤ c) (w9.alloc (.cells #[.int .i64 64] 3 (0, 0))) (.slice (some ⟨w9.heap.size, 0, none⟩) 1 1) [64]) :=
    ⟨some ⟨w9.heap.size, 0, none⟩, 1, rfl, .inr ⟨w9.heap.size, 0, _, rfl, heap_alloc_new _ _, Nat.le_refl _, fun i hi => by
      have : i = 0 := by simpa using hi
      subst this
      exact cell_mk (heap_alloc_new _ _) rfl⟩⟩
  have q9 := Lib.hid (World.size_alloc w9 (.cells #[.int .i64 64] 3 (0, 0)))
  clear b9 f9 D8 Y8 X8 F8 B8
  go_wp2_with fail
  generalize w9.alloc (.cells #[.int .i64 64] 3 (0, 0)) = v9 at Y9 X9 F9 B9 A9 I9 q9 ⊢
  have q9' : w9.heap.size + 1 ≤ v9.heap.size := Nat.le_of_eq q9.out.symm
  (with_reducible refine (crash_main v9 by' _ _ _ 1 1 [64] Y9.out I9.out (fun c _ h h2 => by omega)).mono ?_)
  rintro e w10 ⟨rfl, y10, f10⟩
  have Y10 := Lib.hid y10
  have X10 := Lib.hid (X9.out.other f10 fun c _ h1 h2 => by omega)
  have F10 := Lib.hid (F9.out.trans (f10.mono fun c _ h1 h2 => by omega))
  have B10 := Lib.hid (B9.out.fr (f10.mono fun c o h1 h2 => by omega))
  have A10 := Lib.hid (A9.out.fr (f10.mono fun c o h1 h2 => by omega))
  have s10 : v9.heap.size ≤ w10.heap.size := f10.size
  clear y10 f10 Y9 X9 F9 B9 A9 I9 q9
  go_wp2_with fail
  (with_reducible refine (load_calls _ by' _ _ _ Y10.out (TT.out _ F10.out) _ _ _ aw5).mono ?_)
  rintro e w11 ⟨⟨a11, c11, rfl, b11⟩, f11⟩
  have X11 := Lib.hid (X10.out.tt f11)
  have F11 := Lib.hid (F10.out.tt f11)
  have B11 := Lib.hid (B10.out.tt f11)
  have A11 := Lib.hid (A10.out.tt f11)
  have C11 := Lib.hid (b11.mono (K' := fun c _ => w10.heap.size ≤ c ∧ c < w11.heap.size) fun c o ho h => ⟨h.1, lt_of_some ho⟩)
  have s11 : w10.heap.size ≤ w11.heap.size := f11.size
  have N11 := Lib.hid (BytesAt.nil (fun _ _ => False) w11)
  clear b11 f11 Y10 X10 F10 B10 A10
  go_wp2_with fail
  (with_reducible refine (put_calls _ bx _ _ _ _ [] X11.out N11.out (TT.out _ F11.out) aw8).mono ?_)
  rintro e w12 ⟨rfl, x12, f12⟩
  have F12 := Lib.hid (F11.out.trans (f12.mono fun c _ h1 h2 => by omega))
  have B12 := Lib.hid (B11.out.fr (f12.mono fun c o h1 h2 => by omega))
  have A12 := Lib.hid (A11.out.fr (f12.mono fun c o h1 h2 => by omega))
  have C12 := Lib.hid (C11.out.fr (f12.mono fun c o h1 h2 => by omega))
  clear x12 f12 X11 F11 B11 A11 C11 N11
  have B12' := Lib.hid (show BytesAt _ w12 (.slice a5 2 c5) [1, 2] from B12.out)
  have A12' := Lib.hid (show BytesAt _ w12 (.slice a9 2 c9) [1, 2] from A12.out)
  have C12' := Lib.hid (show BytesAt _ w12 (.slice a11 1 c11) [3] from C12.out)
  rw [aw6]
  go_wp2_with fail
  (with_reducible refine (same_calls _ _ _ [1, 2] [1, 2] (B12'.out.tt ((Fr.refl _ _).alloc _)) (BytesAt.lit w12 #[.int .u8 1, .int .u8 2] [1, 2] 2 rfl rfl) (by decide)).mono ?_)
  rintro e w13 ⟨rfl, k13, hw⟩
  have G13 : Hid (Fr (fun _ _ => True) w12 w13) := by rw [hw]; exact ((Fr.refl (fun _ _ => True) w12).alloc _).drewN k13
  clear hw
  go_wp2_with fail
  (with_reducible refine (same_calls _ _ _ [1, 2] [1, 2] (A12'.out.tt (G13.out.alloc _)) (BytesAt.lit w13 #[.int .u8 1, .int .u8 2] [1, 2] 2 rfl rfl) (by decide)).mono ?_)
  rintro e w14 ⟨rfl, k14, hw⟩
  have G14 : Hid (Fr (fun _ _ => True) w12 w14) := by rw [hw]; exact (G13.out.alloc _).drewN k14
  clear hw
  go_wp2_with fail
  (with_reducible refine (same_calls _ _ _ [3] [3] (C12'.out.tt (G14.out.alloc _)) (BytesAt.lit w14 #[.int .u8 3] [3] 1 rfl rfl) (by decide)).mono ?_)
  rintro e w15 ⟨rfl, k15, hw⟩
  have G15 : Hid (Fr (fun _ _ => True) w12 w15) := by rw [hw]; exact (G14.out.alloc _).drewN k15
  clear hw
  go_wp2
  go_ret
  exact ⟨rfl, Fr.within ((F12.out.tt G15.out).mono fun _ _ h => h.2)⟩
end Go.Proofs.YtaeonlafcbgpcaaDoor
/- Stamps, plainly: what is stamped is parsed; a sector that is torn between two stamps. -/
namespace Go.Proofs.YtaeonlafcbgpcaaDoor
open Go.RowKit

theorem ofLE_le : ∀ (k n : Nat), n < 256 ^ k → ofLE (le n k) = n
  | 0, n, h => by simp at h; subst h; rfl
  | k + 1, n, h => by
    have h2 : n / 256 < 256 ^ k := by rw [Nat.pow_succ] at h; exact Nat.div_lt_of_lt_mul (by omega)
    rw [le, ofLE, ofLE_le k _ h2, UInt8.toNat_ofNat']
    omega
theorem ofLE_inj : ∀ (l m : List UInt8), l.length = m.length → ofLE l = ofLE m → l = m
  | [], [], _, _ => rfl
  | [], b :: m, h, _ => by simp at h
  | a :: l, [], h, _ => by simp at h
  | a :: l, b :: m, h, e => by
    have ha := a.toNat_lt
    have hb := b.toNat_lt
    rw [ofLE, ofLE] at e
    have e1 : a.toNat = b.toNat := by omega
    have e2 : ofLE l = ofLE m := by omega
    rw [UInt8.toNat_inj.1 e1, ofLE_inj l m (by simpa using h) e2]
theorem seg {α : Type} (x y z : List α) {n m : Nat} (hx : x.length = n) (hy : y.length = m) : ((x ++ (y ++ z)).drop n).take m = y := by
  subst hx hy; simp

theorem st_seq (s p : Nat) (b : List UInt8) : (stampB s p b).take 4 = le s 4 := by
  have := seg [] (le s 4) (le p 4 ++ ([UInt8.ofNat b.length] ++ (b ++ List.replicate (43 - b.length) 0)) ++ (le (sumOf (stampHead s p b)) 4 ++ (le s 4 ++ le p 4))) rfl (le_length s 4)
  simpa [stampB, stampHead] using this
theorem st_epoch (s p : Nat) (b : List UInt8) : ((stampB s p b).drop 4).take 4 = le p 4 := by
  have := seg (le s 4) (le p 4) (([UInt8.ofNat b.length] ++ (b ++ List.replicate (43 - b.length) 0)) ++ (le (sumOf (stampHead s p b)) 4 ++ (le s 4 ++ le p 4))) (le_length s 4) (le_length p 4)
  simpa [stampB, stampHead] using this
theorem st_len (s p : Nat) (b : List UInt8) : ((stampB s p b).drop 8).take 1 = [UInt8.ofNat b.length] := by
  have := seg (le s 4 ++ le p 4) [UInt8.ofNat b.length] ((b ++ List.replicate (43 - b.length) 0) ++ (le (sumOf (stampHead s p b)) 4 ++ (le s 4 ++ le p 4))) (n := 8) (by simp [le_length]) rfl
  simpa [stampB, stampHead] using this
theorem st_bytes (s p : Nat) (b : List UInt8) : ((stampB s p b).drop 9).take b.length = b := by
  have := seg (le s 4 ++ le p 4 ++ [UInt8.ofNat b.length]) b (List.replicate (43 - b.length) 0 ++ (le (sumOf (stampHead s p b)) 4 ++ (le s 4 ++ le p 4))) (n := 9) (by simp [le_length]) rfl
  simpa [stampB, stampHead] using this
theorem st_head (s p : Nat) (b : List UInt8) (h : b.length ≤ 43) : (stampB s p b).take 52 = stampHead s p b := by
  unfold stampB
  rw [List.take_append_of_le_length (by rw [stampHead_length s p b h]; exact Nat.le_refl _), List.take_of_length_le (by rw [stampHead_length s p b h]; exact Nat.le_refl _)]
theorem st_sum (s p : Nat) (b : List UInt8) (h : b.length ≤ 43) : ((stampB s p b).drop 52).take 4 = le (sumOf (stampHead s p b)) 4 := seg _ _ _ (stampHead_length s p b h) (le_length _ 4)
theorem st_again (s p : Nat) (b : List UInt8) (h : b.length ≤ 43) : ((stampB s p b).drop 56).take 4 = le s 4 := by
  have := seg (stampHead s p b ++ le (sumOf (stampHead s p b)) 4) (le s 4) (le p 4) (n := 56) (by rw [List.length_append, stampHead_length s p b h, le_length]) (le_length _ 4)
  rw [List.append_assoc] at this
  exact this
theorem st_also (s p : Nat) (b : List UInt8) (h : b.length ≤ 43) : ((stampB s p b).drop 60).take 4 = le p 4 := by
  have := seg (stampHead s p b ++ (le (sumOf (stampHead s p b)) 4 ++ le s 4)) (le p 4) [] (n := 60) (by rw [List.length_append, List.length_append, stampHead_length s p b h, le_length, le_length]) (le_length _ 4)
  rw [List.append_nil, List.append_assoc, List.append_assoc] at this
  exact this

/-- What is stamped is parsed. -/
theorem parse_stamp (s p : Nat) (b : List UInt8) (h0 : 0 < s) (hs : s < 4294967296) (hp : p < 4294967296) (hb : b.length ≤ 43) : parseP (stampB s p b) = some (s, p, b) := by
  have e1 : pSeq (stampB s p b) = s := by unfold pSeq; rw [st_seq, ofLE_le 4 s hs]
  have e2 : pEpoch (stampB s p b) = p := by unfold pEpoch; rw [st_epoch, ofLE_le 4 p hp]
  have e3 : pLen (stampB s p b) = b.length := by
    unfold pLen; rw [st_len]
    show (UInt8.ofNat b.length).toNat + 256 * 0 = _
    rw [UInt8.toNat_ofNat']; omega
  have e4 : pSum (stampB s p b) = sumOf (stampHead s p b) := by unfold pSum; rw [st_sum s p b hb, ofLE_le 4 _ (sumOf_lt _)]
  have e5 : pAgain (stampB s p b) = s := by unfold pAgain; rw [st_again s p b hb, ofLE_le 4 s hs]
  have e6 : pAlso (stampB s p b) = p := by unfold pAlso; rw [st_also s p b hb, ofLE_le 4 p hp]
  unfold parseP
  rw [if_pos ⟨stampB_length s p b hb, by omega, by omega, by omega, by omega, by rw [e4, st_head s p b hb]⟩, e1, e2, e3, st_bytes]

/-- Two lists' first and other bytes, at a place. -/
theorem torn_get (A B : List UInt8) (hA : A.length = 64) (hB : B.length = 64) (cut j : Nat) (hc : cut ≤ 64) : (A.take cut ++ B.drop cut)[j]? = if j < cut then A[j]? else B[j]? := by
  have hl : (A.take cut).length = cut := by rw [List.length_take]; omega
  by_cases h : j < cut
  · rw [List.getElem?_append_left (by omega), if_pos h, List.getElem?_take, if_pos h]
  · rw [List.getElem?_append_right (by omega), if_neg h, hl, List.getElem?_drop]
    congr 1; omega
theorem sub_get (l : List UInt8) (n m i : Nat) : ((l.drop n).take m)[i]? = if i < m then l[n + i]? else none := by
  rw [List.getElem?_take, List.getElem?_drop]
theorem sub_eq {l m : List UInt8} {n k : Nat} (h : ∀ i, i < k → l[n + i]? = m[n + i]?) : (l.drop n).take k = (m.drop n).take k := by
  apply List.ext_getElem?
  intro i
  rw [sub_get, sub_get]
  split
  · exact h i (by assumption)
  · rfl
theorem sub_of {l m : List UInt8} {n k i : Nat} (h : (l.drop n).take k = (m.drop n).take k) (hi : i < k) : l[n + i]? = m[n + i]? := by
  have := congrArg (fun x : List UInt8 => x[i]?) h
  simpa [sub_get, hi] using this

/-- A sector that is torn between two stamps has one of them, or none. -/
theorem torn_law (s m : Nat) (one two : List UInt8) (cut : Nat) (hc : cut ≤ 64) (hsm : s ≠ m) (hs : s < 4294967296) (hm : m < 4294967296) (h1 : one.length ≤ 43) (h2 : two.length ≤ 43) :
    parseP ((stampB s 0 one).take cut ++ (stampB m 0 two).drop cut) = none ∨ (stampB s 0 one).take cut ++ (stampB m 0 two).drop cut = stampB s 0 one ∨ (stampB s 0 one).take cut ++ (stampB m 0 two).drop cut = stampB m 0 two := by
  have hA : (stampB s 0 one).length = 64 := stampB_length s 0 one h1
  have hB : (stampB m 0 two).length = 64 := stampB_length m 0 two h2
  have aq := st_seq s 0 one
  have bq := st_seq m 0 two
  have aa := st_again s 0 one h1
  have ba := st_again m 0 two h2
  have al := st_also s 0 one h1
  have bl := st_also m 0 two h2
  generalize stampB s 0 one = A at hA aq aa al ⊢
  generalize stampB m 0 two = B at hB bq ba bl ⊢
  have hg := torn_get A B hA hB cut
  have hll : (A.take cut ++ B.drop cut).length = 64 := by rw [List.length_append, List.length_take, List.length_drop]; omega
  generalize A.take cut ++ B.drop cut = l at hg hll ⊢
  cases hp : parseP l with
  | none => exact .inl rfl
  | some r =>
    refine .inr ?_
    have hpa : pSeq l = pAgain l := by
      unfold parseP at hp
      split at hp
      · rename_i hc; exact hc.2.2.1
      · cases hp
    have hle : l.take 4 = (l.drop 56).take 4 := ofLE_inj _ _ (by rw [List.length_take, List.length_take, List.length_drop]; omega) hpa
    have hne : le s 4 ≠ le m 4 := fun e => hsm (by rw [← ofLE_le 4 s hs, ← ofLE_le 4 m hm, e])
    have hbig : ∀ X : List UInt8, X.length = 64 → (∀ j, j < 64 → l[j]? = X[j]?) → l = X := fun X hX h => by
      apply List.ext_getElem?
      intro j
      by_cases hj : j < 64
      · exact h j hj
      · rw [List.getElem?_eq_none (by omega), List.getElem?_eq_none (by omega)]
    by_cases h56 : cut ≤ 56
    · -- the tail is the second's
      have ht : (l.drop 56).take 4 = (B.drop 56).take 4 := sub_eq fun i hi => by rw [hg _ hc, if_neg (by omega)]
      rw [ht, ba] at hle
      have h4 : cut < 4 := by
        rcases Nat.lt_or_ge cut 4 with h | h
        · exact h
        · exfalso
          have : (l.drop 0).take 4 = (A.drop 0).take 4 := sub_eq fun i hi => by rw [hg _ hc, if_pos (by omega)]
          rw [List.drop_zero, List.drop_zero, hle, aq] at this
          exact hne this.symm
      refine .inr (hbig B hB fun j hj => ?_)
      by_cases hj4 : j < 4
      · have : (l.drop 0).take 4 = (B.drop 0).take 4 := by rw [List.drop_zero, List.drop_zero, hle, bq]
        have := sub_of this hj4
        simpa using this
      · rw [hg _ hc, if_neg (by omega)]
    · -- the head is the first's
      have hh : (l.drop 0).take 4 = (A.drop 0).take 4 := sub_eq fun i hi => by rw [hg _ hc, if_pos (by omega)]
      rw [List.drop_zero, List.drop_zero, aq] at hh
      rw [hh] at hle
      refine .inl (hbig A hA fun j hj => ?_)
      by_cases hj1 : j < 56
      · rw [hg _ hc, if_pos (by omega)]
      · by_cases hj2 : j < 60
        · have : (l.drop 56).take 4 = (A.drop 56).take 4 := by rw [← hle, aa]
          have := sub_of this (i := j - 56) (by omega)
          rwa [show 56 + (j - 56) = j from by omega] at this
        · have : (A.drop 60).take 4 = (B.drop 60).take 4 := by rw [al, bl]
          have := sub_of this (i := j - 60) (by omega)
          rw [show 60 + (j - 60) = j from by omega] at this
          rw [hg _ hc]
          split
          · rfl
          · exact this.symm
end Go.Proofs.YtaeonlafcbgpcaaDoor
/- Law 5: SlotTorn, walked. -/
namespace Go.Proofs.YtaeonlafcbgpcaaDoor
open Go.RowKit

/-- An append of bytes to a row of the function's own, at a step of a region that draws its order. -/
theorem step_append_bytes {K0 : Nat → Obj → Prop} {ops : Array Oper} {o : Oper} {a : Act} {K : Act → World → Prop} {Q : Exit → Act → World → Prop} {E : Prop} (W : World) (hgd : o.guard = none) (s x : Operand)
    (ho : o.op = .call { callee := .builtin .append, args := #[s, x], argTypes := #[23, 23] }) (B : Nat) (hB : B ≤ W.heap.size) (v : Value) (n : Nat) (xs : List UInt8) (hs : a.eval s = v) (hown : W.ownsRow B 5 1 v n (xs.map byteV))
    (ad : Addr) (m c : Nat) (bs : List UInt8) (hx : a.eval x = .slice (some ad) m c) (hb : BytesAt K0 W (.slice (some ad) m c) bs) (hn : n + m ≤ 2000000)
    (h : ∀ v' w', w'.ownsRow B 5 1 v' (n + m) ((xs ++ bs).map byteV) → W.grownBy w' v.ownBlock → K (a.put o.dst v') w') :
    if Region.wanted o (yielded ops a.tmps) = true then Oper.wp Tryd.prog o a W K Q else E := by
  have hw : Region.wanted o (yielded ops a.tmps) = true := by simp [Region.wanted, hgd]
  rw [if_pos hw]
  obtain ⟨i0, hi, hz0, hz1, hz2⟩ := info_parts info_u8
  have hl := hb.len
  rcases hb.src with ⟨he, _⟩ | ⟨ad', c', he, h1, h2, h3⟩
  · cases he
  · cases he
    refine wp_append_own W s x 23 ho B 5 i0 (.int .u8 0) 1 1 Tryd.underlying23 hi hz0 hz1 hz2 rfl (by decide) v n (xs.map byteV) hs hown ad bs.length c (bs.map byteV) (by rw [← hl]; exact hx) h1 h2 h3 (by unfold maxLen; omega) (by omega) hB ?_
    intro v' w' h4 h5 _
    rw [← hl] at h4
    exact h v' w' (by rw [List.map_append]; exact h4) h5

/-- The early way out. -/
def tornOut (s m : Nat) (one two : List UInt8) (cut : Int) : Prop := 43 < one.length ∨ 43 < two.length ∨ cut < 0 ∨ 64 < cut ∨ s = m ∨ s = 0 ∨ m = 0

set_option maxRecDepth 100000 in
set_option maxHeartbeats 2000000 in
theorem torn_out {K1 K2 : Nat → Obj → Prop} (w : World) (s m : Nat) (a1 a2 : Option Addr) (l1 l2 c1 c2 : Nat) (one two : List UInt8) (cut : Int) (h1 : BytesAt K1 w (.slice a1 l1 c1) one) (h2 : BytesAt K2 w (.slice a2 l2 c2) two) (ht : TabOK w) (hs : s < 4294967296) (hm : m < 4294967296) (ho : tornOut s m one two cut) :
    Calls Tryd.prog 4 #[.int .u32 (s : Nat), .int .u32 (m : Nat), .slice a1 l1 c1, .slice a2 l2 c2, .int .i64 cut] w fun e w' => e = .returned (.bool true) ∧ Fr (fun _ _ => True) w w' := by
  have e1 := h1.len
  have e2 := h2.len
  have HT := Lib.hid ht
  have H1 := Lib.hid h1
  have H2 := Lib.hid h2
  have L1 := Lib.hid e1
  have L2 := Lib.hid e2
  have HO := Lib.hid ho
  clear h1 h2 ht e1 e2 ho
  go_enter Tryd.func4, Tryd.ntmps4
  go_wp2_with fail
  (with_reducible refine (awake_calls _ HT.out).mono ?_)
  rintro e w1 ⟨rfl, f1⟩
  have F1 := Lib.hid f1
  clear f1
  go_wp2_with fail
  (with_reducible refine (stamp_any _ s _ _ (by rfl) (by rfl) _ one (H1.out.tt F1.out) (HT.out.tt F1.out) hs).mono ?_)
  rintro e w2 ⟨hx, f2⟩
  have F2 := Lib.hid (F1.out.tt f2)
  clear f2
  rcases hx with ⟨hb1, rfl⟩ | ⟨hb1, a4, c4, rfl, b4⟩
  · have q1 : (43 : Int) < l1 := by have := L1.out; omega
    clear HO hb1
    go_wp2_with fail
    (with_reducible refine (stamp_any _ m _ _ (by rfl) (by rfl) _ two (H2.out.tt F2.out) (HT.out.tt F2.out) hm).mono ?_)
    rintro e w3 ⟨hx, f3⟩
    rcases hx with ⟨hb2, rfl⟩ | ⟨hb2, a5, c5, rfl, b5⟩
    · have F3 := Lib.hid (F2.out.tt f3)
      clear f3 hb2
      go_wp2
      go_ret
      exact ⟨rfl, F3.out⟩
    · have F3 := Lib.hid (F2.out.tt f3)
      clear f3 hb2 b5
      go_wp2
      go_ret
      exact ⟨rfl, F3.out⟩
  · have q1 : (l1 : Int) ≤ 43 := by have := L1.out; omega
    clear b4
    go_wp2_with fail
    (with_reducible refine (stamp_any _ m _ _ (by rfl) (by rfl) _ two (H2.out.tt F2.out) (HT.out.tt F2.out) hm).mono ?_)
    rintro e w3 ⟨hx, f3⟩
    rcases hx with ⟨hb2, rfl⟩ | ⟨hb2, a5, c5, rfl, b5⟩
    · have q2 : (43 : Int) < l2 := by have := L2.out; omega
      have F3 := Lib.hid (F2.out.tt f3)
      clear f3 hb2 HO
      go_wp2
      go_ret
      exact ⟨rfl, F3.out⟩
    · have q2 : (l2 : Int) ≤ 43 := by have := L2.out; omega
      have F3 := Lib.hid (F2.out.tt f3)
      clear f3 b5
      have hO : cut < 0 ∨ 64 < cut ∨ (0 ≤ cut ∧ cut ≤ 64 ∧ ((s : Int) == m) = true) ∨ (0 ≤ cut ∧ cut ≤ 64 ∧ ((s : Int) == m) = false ∧ ((s : Int) == 0) = true) ∨ (0 ≤ cut ∧ cut ≤ 64 ∧ ((s : Int) == m) = false ∧ ((s : Int) == 0) = false ∧ ((m : Int) == 0) = true) := by
        have := HO.out
        unfold tornOut at this
        simp only [beq_iff_eq, beq_eq_false_iff_ne]
        omega
      clear HO hb1 hb2
      rcases hO with h | h | ⟨ha, hb, h⟩ | ⟨ha, hb, hc, h⟩ | ⟨ha, hb, hc, hd, h⟩
      all_goals
        go_wp2
        go_ret
        exact ⟨rfl, F3.out⟩
end Go.Proofs.YtaeonlafcbgpcaaDoor
