/- Texts of the proofs, part 50: what the functions that they reach do, walked; no conditions beyond those that each states. -/
import Derived.Test.YtmjccpfchhnfhaaZz85550a337f
set_option linter.unusedVariables false
set_option linter.unusedSimpArgs false
/- Law 13: RaftHeals: four rounds. -/
namespace Go.Proofs.Ytmjccpfchhnfhaa
open Go.RowKit
set_option linter.unusedVariables false
set_option linter.unusedSimpArgs false
def rdS (wi : Nat) (s3 : Gs) (j : Nat) : Gs := if (s3.ns.getD wi default).role = 3 then s3 else calmTo s3 j
theorem rdS_len (wi : Nat) (s3 : Gs) (j : Nat) : (rdS wi s3 j).ns.length = s3.ns.length := by unfold rdS; split; rfl; exact calmTo_len _ _
theorem rdS_role (wi : Nat) (s3 : Gs) (j : Nat) : ((rdS wi s3 j).ns.getD wi default).role = (s3.ns.getD wi default).role := by unfold rdS; split; rfl; exact calmTo_role _ _ _
theorem rdS_0 (wi : Nat) (s3 : Gs) : rdS wi s3 0 = s3 := by unfold rdS; split <;> rfl
theorem rdS_end {wi : Nat} {s : Gs} {s3 : Gs} (h : (Gs.rest 2501 (s.wake wi) 0).1 = s3) : rdS wi s3 s3.ns.length = s.roundH wi := by
 unfold rdS Gs.roundH
 rw [h]
 split
 ·rfl
 ·exact calmTo_all s3
set_option maxRecDepth 100000 in
set_option maxHeartbeats 8000000 in
theorem hl_16 [Old] [NoOld] {R : Ending → World → Prop} {w : World} {B G many wi rb lb : Nat} {s : Gs} {L : List (Nat × Nat)} (h1 : 1 ≤ many) (h5 : many ≤ 5) (hw : wi < many) (hrb : Lr L wi = rb) (hlb : Lb L wi = lb) (hg : GrL B w G L s) (hb : Hl many wi 316 100 0 s) (hB : B ≤ w.heap.size) (fin : ∀ W, Fr (fun c _ => c < B) w W → R (.returned (.bool true)) W) (fu : Nat → Value) :
  Code.wp Try.prog (seqR 9 (bodyC Try.f4.body)) (bodyPost Try.prog Try.f4 R) { tmps := tU 215 fu [(0, .int .i64 (many : Nat)), (5, .bool true), (6, .pointer (some ⟨G, 0, none⟩)), (10, .pointer (some ⟨rb, 0, none⟩))], defers := [] } w := by
 have FIN := Lib.hid fin
 have G0 := Lib.hid hg
 have B0 := Lib.hid hb
 have HRL := Lib.hid (And.intro hrb hlb)
 have NUM := Lib.hid (And.intro h1 (And.intro h5 (And.intro hw hB)))
 have hm5 : (many : Int) ≤ 5 := by omega
 clear fin hg hb h1 h5 hw hrb hlb hB
 simp only [tU, tL, Nat.reduceAdd, Nat.reduceBEq, cond_true, cond_false]
 dsimp only [seqR, bodyC, Try.f4]
 go_upto_region 16 with fail
 rename_i K1 h1 K0 h0
 have H1 := Lib.hid h1
 have H0 := Lib.hid h0
 clear h1 h0
 go_wp2_with fail
 refine H0.out _ _ ?_
 clear H0
 go_wp2_with fail
 go_loopw [11] (fun v wr => ∃ (i : Nat) (s' : Gs), v = .int .i64 (i : Nat) ∧ i ≤ 4 ∧ Hid (GrL B wr G L s') ∧ Hid (Hl many wi 316 100 i s') ∧ Hid (Fr (fun c _ => c < B) w wr)) (fun v _ => 4 - (intOf v).toNat)
 case atStart => exact ⟨0, s, rfl, Nat.zero_le _, G0.out, B0.out, Fr.refl _ _⟩
 case round =>
  obtain ⟨i, s', rfl, hi, HG, HB, HF⟩ := hrel
  obtain ⟨wo, hwo⟩ : ∃ x, x = wr := ⟨_, rfl⟩
  subst hwo
  have HL : Hid (s'.ns.length = many ∧ wi < s'.ns.length) := by
   have := HB.out.h.sf.ids.1
   exact ⟨this, by rw [this]; exact NUM.out.2.2.1⟩
  by_cases hlt : i < 4
  ·have hltI : (i : Int) < 4 := by omega
   have HLT := Lib.hid hlt
   obtain ⟨⟨v1, c1⟩, z1, W1, hW1, g1, f1⟩ := HG.out.clear
   obtain ⟨nx1, nx2⟩ := HB.out.next NUM.out.2.1 NUM.out.2.2.1 (by decide) (by decide) hlt
   obtain ⟨sw, hsw⟩ : ∃ x, s'.wake wi = x := ⟨_, rfl⟩
   have gjw : Hid (GJ 72000 sw) := by
    have := (HB.out.h.wake (by have := NUM.out; omega) NUM.out.2.2.1 (fun e => HB.out.hd e wi NUM.out.2.2.1)).gj
    rw [hsw] at this
    exact this.mono (by omega)
   obtain ⟨s3, hs3⟩ : ∃ x, (Gs.rest 2501 sw 0).1 = x := ⟨_, rfl⟩
   rw [hsw] at nx1
   have E3 : Hid ((Gs.rest 2501 sw 0).1 = s3 ∧ (Gs.rest 2501 sw 0).2 = true) := ⟨hs3, nx1⟩
   have ER : Hid (rdS wi s3 s3.ns.length = s'.roundH wi) := rdS_end (by rw [hsw]; exact hs3)
   have F1 := Lib.hid (HF.out.trans f1.out)
   have G1 : Hid (GrL B W1 G L { s' with ms := [] }) := g1.out
   obtain ⟨gn, cn, V⟩ := g1.out.at' (by show 0 < s'.ns.length; have := HL.out; omega)
   have y0 := ((V W1 (Fr.refl _ _)).2 wi HL.out.2).2
   obtain ⟨_, _, _, _, _, _, _, _, V5⟩ := g1.out.cells (i := wi) HL.out.2
   have y1 := (V5 W1 (Fr.refl _ _)).1
   have y1 : W1.cell? ⟨lb, 2, none⟩ = some (.int .i64 (s'.ns.getD wi default).role) := by rw [← HRL.out.2]; exact y1
   rw [HRL.out.1, HRL.out.2] at y0
   obtain ⟨ro, hro⟩ : ∃ x, (s'.ns.getD wi default).role = x := ⟨_, rfl⟩
   rw [hro] at y1
   have HRO := Lib.hid hro
   have NX := Lib.hid nx2
   have HSW := Lib.hid hsw
   clear nx1 nx2 hsw hs3 g1 f1 hlt V V5 hro
   by_cases hr : ro = 3
   case' pos =>
    have g0 : (ro == 3) = true := by simpa using hr
    have BC : Hid (Calls Try.prog 13 #[.pointer (some ⟨rb, 0, none⟩)] W1 fun e w1 => ∃ v, e = .returned v ∧ Hid (Calls Try.prog 12 #[.pointer (some ⟨G, 0, none⟩), v] w1 fun e w2 => GOutL B w1 G L sw e w2) ∧ Hid (Fr (fun c _ => c < B) W1 w1)) := by
     have h := G1.out.beat HB.out.h.clear.gj (by have := HLT.out; omega) (i := wi) HL.out.2
     rw [HRL.out.1] at h
     rw [← HSW.out, ← wake_lead (HRO.out.trans hr)]
     exact h
    clear hr
    go_wp2_with fail
    try rw [hW1]
    clear hW1 z1 c1 y0 y1
    (with_reducible refine BC.out.mono ?_)
   case' neg =>
    have g0 : (ro == 3) = false := by simpa using hr
    obtain ⟨⟨v2, c2⟩, z2, W5, hW5, g5, f5⟩ := G1.out.calm1 (i := wi) HL.out.2
    have BC : Hid (Calls Try.prog 14 #[.pointer (some ⟨rb, 0, none⟩)] W5 fun e w1 => ∃ v, e = .returned v ∧ Hid (Calls Try.prog 12 #[.pointer (some ⟨G, 0, none⟩), v] w1 fun e w2 => GOutL B w1 G L sw e w2) ∧ Hid (Fr (fun c _ => c < B) W1 w1)) := by
     have gj : GJ (316 + 9000 * i) ({ s' with ms := [], ns := s'.ns.set wi (s'.ns.getD wi default).calm } : Gs) := by
      rw [calm_same (HB.out.hd (fun e => hr (HRO.out.symm.trans e)) wi NUM.out.2.2.1)]
      exact HB.out.h.clear.gj
     have h := g5.out.timeout gj (by have := HLT.out; omega) (i := wi) (by show wi < (s'.ns.set _ _).length; rw [List.length_set]; exact HL.out.2)
     rw [HRL.out.1] at h
     rw [← HSW.out, ← wake_ask HL.out.2 (fun e => hr (HRO.out.symm.trans e))]
     exact h.mono fun e w1 ⟨v, q1, q2, q3⟩ => ⟨v, q1, q2, f5.out.trans q3.out⟩
    rw [HRL.out.2] at c2 z2 hW5
    clear hr g5 f5
    go_wp2_with fail
    try rw [hW1]
    try rw [hW5]
    clear hW1 hW5 z1 c1 z2 c2 y0 y1
    (with_reducible refine BC.out.mono ?_)
   all_goals
    rintro e W2 ⟨v, rfl, SC, f2⟩
    have F2 := Lib.hid (F1.out.trans f2.out)
    clear BC f2 F1
    go_wp2_with fail
    (with_reducible refine SC.out.mono ?_)
    rintro e W3 ⟨rfl, g3, f3⟩
    have F3 := Lib.hid (F2.out.trans f3)
    have RC : Hid (Calls Try.prog 15 #[.pointer (some ⟨G, 0, none⟩), .int .i64 0] W3 fun e w' => e = .returned (.bool true) ∧ GrL B w' G L s3 ∧ Fr (fun c _ => c < B) W3 w') := by
     have h := g3.rest gjw.out (by decide) 0 (Nat.zero_le _)
     rw [E3.out.2, E3.out.1] at h
     exact h
    have HL3 : Hid (s3.ns.length = many) := by
     have h := NX.out.h.sf.ids.1
     rw [← ER.out, rdS_len] at h
     exact h
    clear SC g3 f3 F2 E3 gjw
    go_wp2_with fail
    (with_reducible refine RC.out.mono ?_)
    rintro e W4 ⟨rfl, g4, f4⟩
    have G4 := Lib.hid g4
    have F4 := Lib.hid (F3.out.trans f4)
    clear RC g4 f4 F3
    go_wp2
    go_loopw [13] (fun v wr => ∃ j : Nat, v = .int .i64 (j : Nat) ∧ j ≤ many ∧ Hid (GrL B wr G L (rdS wi s3 j)) ∧ Hid (Fr (fun c _ => c < B) w wr)) (fun v _ => many - (intOf v).toNat)
    case atStart => exact ⟨0, rfl, Nat.zero_le _, by rw [rdS_0]; exact G4.out, F4.out⟩
    case round =>
     obtain ⟨j, rfl, hj, HGj, HFj⟩ := hrel
     by_cases hjl : j < many
     ·have hjI : (j : Int) < (many : Int) := by omega
      have nl : (rdS wi s3 j).ns.length = many := by rw [rdS_len]; exact HL3.out
      obtain ⟨gn, cn, V⟩ := HGj.out.at' (by omega)
      obtain ⟨x0, V1⟩ := V wr (Fr.refl _ _)
      rw [nl] at x0 V1
      have x1 := (V1 wi NUM.out.2.2.1).2
      obtain ⟨x2, x3⟩ := V1 j hjl
      obtain ⟨_, _, _, _, _, _, _, _, V5⟩ := HGj.out.cells (i := wi) (by rw [nl]; exact NUM.out.2.2.1)
      have x4 := (V5 wr (Fr.refl _ _)).1
      rw [HRL.out.1, HRL.out.2] at x1
      rw [HRL.out.2, rdS_role] at x4
      obtain ⟨⟨v5, c5⟩, z5, W5, hW5, g5, f5⟩ := HGj.out.calm1 (i := j) (by rw [nl]; exact hjl)
      obtain ⟨rj, hrj⟩ : ∃ x, Lr L j = x := ⟨_, rfl⟩
      obtain ⟨bj, hbj⟩ : ∃ x, Lb L j = x := ⟨_, rfl⟩
      rw [hrj] at x2 x3
      rw [hbj] at x3 c5 z5 hW5
      obtain ⟨r3, hr3⟩ : ∃ x, (s3.ns.getD wi default).role = x := ⟨_, rfl⟩
      rw [hr3] at x4
      by_cases hq : r3 = 3
      ·have g9 : (r3 != 3) = false := by simp [hq]
       have GN : Hid (GrL B wr G L (rdS wi s3 (j + 1))) := by
        have := HGj.out
        unfold rdS at this ⊢
        rw [if_pos (hr3.trans hq)] at this ⊢
        exact this
       clear V V1 V5 z5 c5 hW5 g5 f5 hrj hbj hr3 hq nl
       go_wp2
       go_roundw
       case rel => exact ⟨j + 1, by go_num, by omega, GN.out, HFj.out⟩
       case measure => simp [intOf]; omega
      ·have g9 : (r3 != 3) = true := by simp [hq]
       have GN : Hid (GrL B W5 G L (rdS wi s3 (j + 1))) := by
        have := g5.out
        unfold rdS at this ⊢
        rw [if_neg (fun e => hq (hr3.symm.trans e))] at this ⊢
        exact this
       have FN := Lib.hid (HFj.out.trans f5.out)
       clear V V1 V5 g5 f5 hrj hbj hr3 hq nl
       go_wp2
       try rw [hW5]
       go_roundw
       case rel => exact ⟨j + 1, by go_num, by omega, GN.out, FN.out⟩
       case measure => simp [intOf]; omega
     ·have hge : ¬ ((j : Int) < (many : Int)) := by omega
      have GN : Hid (GrL B wr G L (s'.roundH wi)) := by
       have := HGj.out
       rw [show j = s3.ns.length by rw [HL3.out]; omega, ER.out] at this
       exact this
      clear hjl
      go_wp2
      go_roundw
      case rel => exact ⟨i + 1, _, by go_num, by have := HLT.out; omega, GN.out, NX.out, HFj.out⟩
      case measure => simp [intOf]; have := HLT.out; omega
  ·obtain rfl : i = 4 := by omega
   have hge : ¬ ((4 : Nat) : Int) < 4 := by omega
   clear hlt
   go_wp2_with fail
   refine H1.out _ _ ?_
   obtain ⟨q1, q2, q3, q4⟩ := NUM.out
   exact seg_of (fun fu => hl_32 q1 q2 q3 HRL.out.1 HRL.out.2 HG.out HB.out (Nat.le_trans q4 HF.out.size) (fun W f => FIN.out W (HF.out.trans f)) fu) (by kernel_rfl)
end Go.Proofs.Ytmjccpfchhnfhaa
/- Law 13: awake. -/
namespace Go.Proofs.Ytmjccpfchhnfhaa
open Go.RowKit
set_option linter.unusedVariables false
set_option linter.unusedSimpArgs false
def mvA : MV := { zMV with kind := 1, src := 2, dst := 1 }
def mvB : MV := { zMV with kind := 7, src := 1 }
theorem MsAt.noA [Old] (X : Nat → Prop) (W : World) : MsAt X W mvA := ⟨⟨_, _, rfl, Nat.le_refl _, (fun _ => rfl), .inl rfl⟩, EsAt.nil _ _⟩
theorem MsAt.noB [Old] (X : Nat → Prop) (W : World) : MsAt X W mvB := ⟨⟨_, _, rfl, Nat.le_refl _, (fun _ => rfl), .inl rfl⟩, EsAt.nil _ _⟩
theorem A10_sA : (A10.ns.getD 0 default).step mvA.ms = ((A10.ns.getD 0 default, []), 31) := A10_no.1
theorem A10_sB : (A10.ns.getD 0 default).step mvB.ms = ((A10.ns.getD 0 default, []), 30) := A10_no.2
theorem A10_rA : (A10.ns.getD 0 default).right mvA.ms ≠ 0 := by decide +kernel
theorem A10_rB : (A10.ns.getD 0 default).right mvB.ms ≠ 0 := by decide +kernel
theorem cM_A : Value.agg (cM mvA) = .agg #[.int .i64 1, .int .i64 2, .int .i64 1, .int .u64 0, .int .u64 0, .int .u64 0, .int .u64 0, .bool false, .slice none 0 0, .slice none 0 0] := rfl
theorem cM_B : Value.agg (cM mvB) = .agg #[.int .i64 7, .int .i64 1, .int .i64 0, .int .u64 0, .int .u64 0, .int .u64 0, .int .u64 0, .bool false, .slice none 0 0, .slice none 0 0] := rfl
set_option maxRecDepth 100000 in
set_option maxHeartbeats 8000000 in
theorem awake13_calls [Old] [NoOld] (w : World) : Calls Try.prog 8 #[] w fun e w' => e = .returned (.bool true) ∧ Fr (fun _ _ => True) w w' := by
 have hb1 : ∀ W : World, (Instr.build 49 #[(0, .int .i64 1), (1, .int .i64 0)]).run Try.prog W = .ok (.agg #[.int .i64 1, .int .i64 0]) W := fun W => run_build W _ _ _ (by kernel_rfl)
 have hb3 : ∀ W : World, (Instr.build 49 #[(0, .int .i64 3), (1, .int .i64 0)]).run Try.prog W = .ok (.agg #[.int .i64 3, .int .i64 0]) W := fun W => run_build W _ _ _ (by kernel_rfl)
 have hb4 : ∀ W : World, (Instr.build 49 #[(0, .int .i64 4), (1, .int .i64 0)]).run Try.prog W = .ok (.agg #[.int .i64 4, .int .i64 0]) W := fun W => run_build W _ _ _ (by kernel_rfl)
 have hbA : ∀ W : World, (Instr.build 74 #[(0, .int .i64 1), (1, .int .i64 2), (2, .int .i64 1)]).run Try.prog W = .ok (.agg #[.int .i64 1, .int .i64 2, .int .i64 1, .int .u64 0, .int .u64 0, .int .u64 0, .int .u64 0, .bool false, .slice none 0 0, .slice none 0 0]) W := fun W => run_build W _ _ _ (by kernel_rfl)
 have hbB : ∀ W : World, (Instr.build 74 #[(0, .int .i64 7), (1, .int .i64 1)]).run Try.prog W = .ok (.agg #[.int .i64 7, .int .i64 1, .int .i64 0, .int .u64 0, .int .u64 0, .int .u64 0, .int .u64 0, .bool false, .slice none 0 0, .slice none 0 0]) W := fun W => run_build W _ _ _ (by kernel_rfl)
 have HBA := Lib.hid hbA
 have HBB := Lib.hid hbB
 clear hbA hbB
 have BG : Hid (Calls Try.prog 9 #[.int .i64 3] w fun e w' => B13Out w 3 e w') := begun13_calls w 3 (by decide) (by decide)
 go_enter Try.func8, Try.ntmps8
 go_wp2_with fail
 (with_reducible refine BG.out.mono ?_)
 rintro e W1 ⟨G, X, l, tk, vn, vt, rfl, g1, e1, e2, e3, f1⟩
 have G1 : Hid (Gr13 w.heap.size W1 G A0) := ⟨X, l, [], tk, 0, vn, _, vt, g1, by unfold St A0; rw [e1, e2, e3]; rfl⟩
 have F1 : Hid (Fr (fun c _ => c < w.heap.size) w W1) := f1.mono fun _ _ _ => trivial
 clear g1 e1 e2 e3 f1 BG
 have PC := Lib.hid (G1.out.play A0_gj (by decide) 1 0)
 rw [A1_is] at PC
 go_wp2_with fail
 (with_reducible refine PC.out.mono ?_)
 rintro e W2 ⟨rfl, g2, f2⟩
 have G2 := Lib.hid g2
 have F2 := Lib.hid (F1.out.trans f2)
 clear g2 f2 PC G1 F1
 have PC0 := G2.out.rest A1_gj (by decide) 0 (Nat.zero_le _)
 rw [A2_is] at PC0
 have PC : Hid (Calls Try.prog 15 #[.pointer (some ⟨G, 0, none⟩), .int .i64 0] W2 fun e w' => e = .returned (.bool (A2, true).2) ∧ Gr13 w.heap.size w' G (A2, true).1 ∧ Fr (fun c _ => c < w.heap.size) W2 w') := PC0
 clear PC0
 go_wp2_with fail
 (with_reducible refine PC.out.mono ?_)
 rintro e W3 ⟨rfl, g3, f3⟩
 have G3 : Hid (Gr13 w.heap.size W3 G A2) := g3
 have F3 := Lib.hid (F2.out.trans f3)
 clear g3 f3 PC G2 F2
 have PC := Lib.hid (G3.out.play A2_gj (by decide) 4 0)
 rw [A3_is] at PC
 have OK2 : Hid (∃ gn cn b0 b1 b2 r0 r1 r2 e1 c1 e2 c2, W3.cell? ⟨G, 0, none⟩ = some (.slice (some ⟨gn, 0, none⟩) 3 cn) ∧ W3.cell? ⟨gn, 0, none⟩ = some (.pointer (some ⟨r0, 0, none⟩)) ∧ W3.cell? ⟨gn, 1, none⟩ = some (.pointer (some ⟨r1, 0, none⟩)) ∧ W3.cell? ⟨gn, 2, none⟩ = some (.pointer (some ⟨r2, 0, none⟩)) ∧ W3.cell? ⟨r0, 0, none⟩ = some (.pointer (some ⟨b0, 0, none⟩)) ∧ W3.cell? ⟨r1, 0, none⟩ = some (.pointer (some ⟨b1, 0, none⟩)) ∧ W3.cell? ⟨r2, 0, none⟩ = some (.pointer (some ⟨b2, 0, none⟩)) ∧ W3.cell? ⟨b0, 2, none⟩ = some (.int .i64 3) ∧ W3.cell? ⟨b0, 6, none⟩ = some (.int .u64 1) ∧ W3.cell? ⟨b1, 10, none⟩ = some (.slice e1 1 c1) ∧ W3.cell? ⟨b2, 10, none⟩ = some (.slice e2 1 c2)) := by
  obtain ⟨n3, ro, tm, l1, l2⟩ := A2_at
  obtain ⟨gn, cn, y0, V⟩ := G3.out.nview (by omega)
  rw [n3] at y0 V
  obtain ⟨_, _, r0, b0, q0, _, a0, a1, _, a2, _⟩ := V 0 (by omega)
  obtain ⟨_, _, r1, b1, q1, _, d0, d1, _, d2, _⟩ := V 1 (by omega)
  obtain ⟨_, _, r2, b2, q2, _, h0, h1, _, h2, _⟩ := V 2 (by omega)
  have t0 := a2.cells (Fr.refl _ W3)
  have t1 := d2.cells (Fr.refl _ W3)
  have t2 := h2.cells (Fr.refl _ W3)
  obtain ⟨k1, k2, k3⟩ := d2.elen
  obtain ⟨m1, m2, m3⟩ := h2.elen
  rw [l1] at k3
  rw [l2] at m3
  refine ⟨gn, cn, b0, b1, b2, r0, r1, r2, k1, k2, m1, m2, y0, a0, d0, h0, a1, d1, h1, ?_, ?_, ?_, ?_⟩
  ·rw [t0.2.2.1, ro]
  ·rw [t0.2.2.2.2.2.2.1, tm]; rfl
  ·rw [t1.2.2.2.2.2.2.2.2.2.2.1, k3]
  ·rw [t2.2.2.2.2.2.2.2.2.2.2.1, m3]
 obtain ⟨gn, cn, b0, b1, b2, r0, r1, r2, e1, c1, e2, c2, y0, y1, y2, y3, y4, y5, y6, y7, y8, y9, y10⟩ := OK2.out
 clear OK2
 go_wp2_with fail
 clear y0 y1 y2 y3 y4 y5 y6 y7 y8 y9 y10
 (with_reducible refine PC.out.mono ?_)
 rintro e W4 ⟨rfl, g4, f4⟩
 have G4 := Lib.hid g4
 have F4 := Lib.hid (F3.out.trans f4)
 clear g4 f4 PC G3 F3
 obtain ⟨n3, hn3⟩ : ∃ x, A3.ms.length = x := ⟨_, rfl⟩
 obtain ⟨gm, cm, y0⟩ := G4.out.mlen
 rw [hn3] at y0
 have PC := Lib.hid (G4.out.play A3_gj (by decide) 3 0)
 rw [A4_is] at PC
 go_wp2_with fail
 clear y0
 (with_reducible refine PC.out.mono ?_)
 rintro e W5 ⟨rfl, g5, f5⟩
 have G5 := Lib.hid g5
 have F5 := Lib.hid (F4.out.trans f5)
 clear g5 f5 PC G4 F4
 have PC := Lib.hid (G5.out.rest A4_gj (by decide) A3.ms.length A3_len)
 rw [A5_is, hn3] at PC
 clear hn3
 go_wp2_with fail
 (with_reducible refine PC.out.mono ?_)
 rintro e W6 ⟨rfl, g6, f6⟩
 have G6 : Hid (Gr13 w.heap.size W6 G A5) := g6
 have F6 := Lib.hid (F5.out.trans f6)
 clear g6 f6 PC G5 F5
 obtain ⟨n5, hn5⟩ : ∃ x, A5.ms.length = x := ⟨_, rfl⟩
 obtain ⟨gm, cm, y0⟩ := G6.out.mlen
 rw [hn5] at y0
 have PC := Lib.hid (G6.out.play A5_gj (by decide) 3 0)
 rw [A6_is] at PC
 go_wp2_with fail
 clear y0
 (with_reducible refine PC.out.mono ?_)
 rintro e W7 ⟨rfl, g7, f7⟩
 have G7 := Lib.hid g7
 have F7 := Lib.hid (F6.out.trans f7)
 clear g7 f7 PC G6 F6
 have PC := Lib.hid (G7.out.rest A6_gj (by decide) A5.ms.length A5_len)
 rw [A7_is, hn5] at PC
 clear hn5
 go_wp2_with fail
 (with_reducible refine PC.out.mono ?_)
 rintro e W8 ⟨rfl, g8, f8⟩
 have G8 : Hid (Gr13 w.heap.size W8 G (AT 0)) := g8
 have F8 := Lib.hid (F7.out.trans f8)
 clear g8 f8 PC G7 F7
 go_wp2
 go_loopw [3, 7] (fun b i wr => ∃ j : Nat, i = .int .i64 (j : Nat) ∧ j ≤ 3 ∧ b = .bool true ∧ Hid (Gr13 w.heap.size wr G (AT j)) ∧ Hid (Fr (fun c _ => c < w.heap.size) w wr)) (fun _ i _ => 3 - (intOf i).toNat)
 case atStart => exact ⟨0, rfl, by decide, rfl, G8.out, F8.out⟩
 case round =>
  obtain ⟨j, rfl, hj, rfl, HG, HF⟩ := hrel
  by_cases hlt : j < 3
  ·have hltI : (j : Int) < 3 := by omega
   have PC := Lib.hid (HG.out.take (AT_gj j hj) (by decide) j (by rw [AT_ns, A7_n3]; exact hlt))
   go_wp2_with fail
   (with_reducible refine PC.out.mono ?_)
   rintro e W9 ⟨rfl, g9, f9⟩
   have G9 : Hid (Gr13 w.heap.size W9 G (AT (j + 1))) := g9
   have F9 := Lib.hid (HF.out.trans f9)
   clear g9 f9 PC HG HF
   have OK : Hid (∃ gt ct g c, W9.cell? ⟨G, 2, none⟩ = some (.slice (some ⟨gt, 0, none⟩) 3 ct) ∧ W9.cell? ⟨gt, j, none⟩ = some (.slice g 2 c)) := by
    have hj9 := AT_gj (j + 1) (by omega)
    have e3 : (AT (j + 1)).tl.length = 3 := by rw [hj9.lt, AT_ns, A7_n3]
    obtain ⟨gt, ct, y0, V⟩ := G9.out.tview (by omega)
    rw [e3] at y0 V
    obtain ⟨g, c, y1⟩ := V j hlt
    rw [AT_tl j hlt] at y1
    exact ⟨gt, ct, g, c, y0, y1⟩
   obtain ⟨gt, ct, g, c, y0, y1⟩ := OK.out
   clear OK
   go_wp2
   go_roundw
   case rel => exact ⟨j + 1, by go_num, by omega, rfl, G9.out, F9.out⟩
   case measure => simp [intOf]; omega
  ·have hge : ¬ ((j : Int) < 3) := by omega
   have hj3 : j = 3 := by omega
   subst hj3
   have G3 : Hid (Gr13 w.heap.size wr G A10) := HG.out
   have N3 : A10.ns.length = 3 := by rw [← AT_3, AT_ns, A7_n3]
   obtain ⟨gn, cn, y0, V⟩ := G3.out.nview (by omega)
   rw [N3] at y0 V
   obtain ⟨X0, P0, r0, b0, q0, ap, y1, y2, rb0, hp0, pr0, xb0, -, -, -, K0⟩ := V 0 (by omega)
   have K := Lib.hid K0
   have SC := Lib.hid (rstep_calls hp0 rb0 pr0 mvA (MsAt.noA _ _) (Nat.zero_le _) (Nat.zero_le _) (fun c hc => absurd hc (NoOld.no c)) (fun e => absurd e A10_rA))
   rw [A10_sA, cM_A] at SC
   have XB : Hid (∀ c, P0 c → w.heap.size ≤ c) := fun c hc => xb0 c (hp0.px c hc)
   clear V hp0 pr0 xb0 K0 rb0 HG
   have hbA := HBA.out
   go_wp2_with fail
   clear y0 y1 y2 hbA
   (with_reducible refine SC.out.mono ?_)
   rintro e W9 ⟨X9, P9, q9, v9, mv9, rfl, p9, a9, -, -⟩
   have G9 := Lib.hid (K.out _ _ _ ⟨q9, p9⟩ a9)
   have F9 : Hid (Fr (fun c _ => c < w.heap.size) w W9) := HF.out.trans (a9.fr.mono fun c _ hc hp => by have := XB.out c hp; omega)
   clear p9 a9 SC K XB G3 HF
   obtain ⟨gn, cn, y0, V⟩ := G9.out.nview (by omega)
   rw [N3] at y0 V
   obtain ⟨X0, P0, r0, b0, q0, ap, y1, y2, rb0, hp0, pr0, xb0, -, -, -, K0⟩ := V 0 (by omega)
   have SC := Lib.hid (rstep_calls hp0 rb0 pr0 mvB (MsAt.noB _ _) (Nat.zero_le _) (Nat.zero_le _) (fun c hc => absurd hc (NoOld.no c)) (fun e => absurd e A10_rB))
   rw [A10_sB, cM_B] at SC
   have XB : Hid (∀ c, P0 c → w.heap.size ≤ c) := fun c hc => xb0 c (hp0.px c hc)
   clear V hp0 pr0 xb0 K0 rb0
   have hbB := HBB.out
   go_wp2_with fail
   clear y0 y1 y2 hbB
   (with_reducible refine SC.out.mono ?_)
   rintro e W10 ⟨X9, P9, q9, v10, mv9, rfl, p9, a9, -, -⟩
   have F10 : Hid (Fr (fun c _ => c < w.heap.size) w W10) := F9.out.trans (a9.fr.mono fun c _ hc hp => by have := XB.out c hp; omega)
   clear p9 a9 SC XB
   go_wp2
   go_ret
   exact ⟨rfl, Fr.within (F10.out.mono fun c _ h => h.2)⟩
end Go.Proofs.Ytmjccpfchhnfhaa
/- Law 13: RaftHeals: all is lost, nobody has heard; the newest one; the law. -/
namespace Go.Proofs.Ytmjccpfchhnfhaa
open Go.RowKit
set_option linter.unusedVariables false
set_option linter.unusedSimpArgs false
set_option maxRecDepth 100000 in
set_option maxHeartbeats 8000000 in
theorem hl_9 [Old] [NoOld] {R : Ending → World → Prop} {w : World} {B G many : Nat} {s : Gs} (h1 : 1 ≤ many) (h5 : many ≤ 5) (hg : Gr13 B w G s) (hb : Hs many 316 100 s) (hB : B ≤ w.heap.size) (fin : ∀ W, Fr (fun c _ => c < B) w W → R (.returned (.bool true)) W) (fu : Nat → Value) :
  Code.wp Try.prog (seqR 5 (bodyC Try.f4.body)) (bodyPost Try.prog Try.f4 R) { tmps := tU 215 fu [(0, .int .i64 (many : Nat)), (5, .bool true), (6, .pointer (some ⟨G, 0, none⟩))], defers := [] } w := by
 obtain ⟨L, hL⟩ := hg.ids
 obtain ⟨⟨v1, c1⟩, z1, W1, hW1, g1, f1⟩ := hL.clear
 obtain ⟨s1, hs1⟩ : ∃ x, ({ s with ms := [] } : Gs) = x := ⟨_, rfl⟩
 rw [hs1] at g1
 have HS1 : Hid (Hs many 316 100 s1) := hs1 ▸ hb.clear
 have HL1 : Hid (s1.ns.length = many) := HS1.out.sf.ids.1
 have FIN := Lib.hid fin
 have G1 := Lib.hid g1.out
 have F1 := Lib.hid f1.out
 have NUM := Lib.hid (And.intro h1 (And.intro h5 hB))
 have hm5 : (many : Int) ≤ 5 := by omega
 clear fin hg hb h1 h5 hB hL g1 f1 hs1
 simp only [tU, tL, Nat.reduceAdd, Nat.reduceBEq, cond_true, cond_false]
 dsimp only [seqR, bodyC, Try.f4]
 go_upto_region 10 with fail
 try rw [hW1]
 clear hW1 z1 c1
 rename_i K1 h1 K0 h0
 have H1 := Lib.hid h1
 have H0 := Lib.hid h0
 clear h1 h0
 go_wp2_with fail
 refine H0.out _ _ ?_
 clear H0
 go_wp2_with fail
 go_loopw [8] (fun v wr => ∃ j : Nat, v = .int .i64 (j : Nat) ∧ j ≤ many ∧ Hid (GrL B wr G L (calmTo s1 j)) ∧ Hid (Fr (fun c _ => c < B) w wr)) (fun v _ => many - (intOf v).toNat)
 case atStart => exact ⟨0, rfl, Nat.zero_le _, G1.out, F1.out⟩
 case round =>
  obtain ⟨j, rfl, hj, HGj, HFj⟩ := hrel
  by_cases hjl : j < many
  ·have hjI : (j : Int) < (many : Int) := by omega
   have nl : (calmTo s1 j).ns.length = many := by rw [calmTo_len]; exact HL1.out
   obtain ⟨gn, cn, V⟩ := HGj.out.at' (by omega)
   obtain ⟨x0, V1⟩ := V wr (Fr.refl _ _)
   rw [nl] at x0 V1
   obtain ⟨x2, x3⟩ := V1 j hjl
   obtain ⟨⟨v5, c5⟩, z5, W5, hW5, g5, f5⟩ := HGj.out.calm1 (i := j) (by rw [nl]; exact hjl)
   obtain ⟨rj, hrj⟩ : ∃ x, Lr L j = x := ⟨_, rfl⟩
   obtain ⟨bj, hbj⟩ : ∃ x, Lb L j = x := ⟨_, rfl⟩
   rw [hrj] at x2 x3
   rw [hbj] at x3 c5 z5 hW5
   have GN : Hid (GrL B W5 G L (calmTo s1 (j + 1))) := g5.out
   have FN := Lib.hid (HFj.out.trans f5.out)
   clear V V1 g5 f5 hrj hbj nl
   go_wp2
   try rw [hW5]
   go_roundw
   case rel => exact ⟨j + 1, by go_num, by omega, GN.out, FN.out⟩
   case measure => simp [intOf]; omega
  ·have hge : ¬ ((j : Int) < (many : Int)) := by omega
   have GN : Hid (GrL B wr G L s1.calm) := by
    have := HGj.out
    rw [show j = s1.ns.length by rw [HL1.out]; omega, calmTo_all] at this
    exact this
   clear hjl
   obtain ⟨hw, hl⟩ := Hl.start NUM.out.2.1 NUM.out.1 HS1.out
   have hlc : s1.calm.ns.length = many := hl.h.sf.ids.1
   obtain ⟨wi, hwi⟩ : ∃ x, newestTo s1.calm (s1.calm.ns.length - 1) = x := ⟨_, rfl⟩
   rw [hwi] at hw hl
   have NC := Lib.hid (newest_calls GN.out hl.h.gj (by decide))
   rw [hwi] at NC
   have HLW := Lib.hid (And.intro hl hlc)
   have hwI : (wi : Int) < (many : Int) := by omega
   have HW := Lib.hid hw
   clear hwi hl hlc hw
   go_wp2_with fail
   refine H1.out _ _ ?_
   clear H1
   go_wp2_with fail
   (with_reducible refine NC.out.mono ?_)
   rintro e W5 ⟨rfl, f5⟩
   have G5 := Lib.hid (GN.out.tt f5)
   have F5 : Hid (Fr (fun c _ => c < B) w W5) := HFj.out.trans (f5.mono fun _ _ _ => trivial)
   clear NC f5
   obtain ⟨gn, cn, V⟩ := G5.out.at' (by have := HLW.out.2; have := HW.out; omega)
   obtain ⟨x0, V1⟩ := V W5 (Fr.refl _ _)
   rw [HLW.out.2] at x0 V1
   have x2 := (V1 wi HW.out).1
   obtain ⟨rb, hrb⟩ : ∃ x, Lr L wi = x := ⟨_, rfl⟩
   rw [hrb] at x2
   have HRB := Lib.hid hrb
   clear V V1 hrb
   go_upto_region 15 with fail
   rename_i K2 h2
   have H2 := Lib.hid h2
   clear h2
   go_wp2_with fail
   refine H2.out _ _ ?_
   obtain ⟨q1, q2, q3⟩ := NUM.out
   exact seg_of (fun fu => hl_16 q1 q2 HW.out HRB.out rfl G5.out HLW.out.1 (Nat.le_trans q3 F5.out.size) (fun W f => FIN.out W (F5.out.trans f)) fu) (by kernel_rfl)
set_option maxRecDepth 100000 in
set_option maxHeartbeats 8000000 in
theorem raftHeals_main (W : World) (z : Int) (a : Option Addr) (len cap : Nat) (b0 off : Nat) (ha : 0 < len → a = some ⟨b0, off, none⟩) (hops : ∀ i, i < len → ∃ d k : Int, W.cell? ⟨b0, off + i * 2, none⟩ = some (.int .i64 d) ∧ W.cell? ⟨b0, off + i * 2 + 1, none⟩ = some (.int .i64 k)) :
  Calls Try.prog 4 #[.int .i64 z, .slice a len cap] W fun e w' => e = .returned (.bool true) ∧ Fr (fun c _ => c < W.heap.size) W w' := by
 have AC := Lib.hid (@awake13_calls nOld nOldNo W)
 have LIES := Lib.hid (And.intro ha hops)
 refine (fun H => H _ fun W9 f => ⟨rfl, f⟩ : (∀ R : Ending → World → Prop, (∀ W9, Fr (fun c _ => c < W.heap.size) W W9 → R (.returned (.bool true)) W9) → Calls Try.prog 4 #[.int .i64 z, .slice a len cap] W R) → _) fun R hR => ?_
 have FIN := Lib.hid hR
 clear hR ha hops
 go_enter Try.func4, Try.ntmps4
 go_wp2_with fail
 (with_reducible refine AC.out.mono ?_)
 rintro e w1 ⟨rfl, f1⟩
 have F1 := Lib.hid f1
 clear AC f1
 by_cases hz : z < 1 ∨ 5 < z
 ·have BC := Lib.hid (begun13_none w1 z hz)
  clear hz
  go_wp2_with fail
  (with_reducible refine BC.out.mono ?_)
  rintro e w4 ⟨rfl, rfl⟩
  go_wp2
  exact FIN.out _ (F1.out.mono fun _ _ _ => trivial)
 ·obtain ⟨many, rfl⟩ := Int.eq_ofNat_of_zero_le (show 0 ≤ z by omega)
  have BC := Lib.hid (@begun13_calls nOld nOldNo w1 many (by omega) (by omega))
  have HZ : Hid (1 ≤ many ∧ many ≤ 5) := ⟨by omega, by omega⟩
  clear hz
  go_wp2_with fail
  (with_reducible refine BC.out.mono ?_)
  rintro e w4 ⟨G, X, l, tk, vn, vt, rfl, g13, e1, e2, e3, f4⟩
  letI : Old := nOld
  letI : NoOld := nOldNo
  have G4 : Hid (Gr13 w1.heap.size w4 G (S0 many)) := ⟨X, l, [], tk, 0, vn, _, vt, g13, by unfold St S0; rw [e1, e2, e3]; rfl⟩
  have F4 := Lib.hid f4
  clear g13 e1 e2 e3 f4 BC
  by_cases hlen : 100 < len
  ·have hI : (100 : Int) < (len : Int) := by omega
   clear hlen
   go_wp2
   exact FIN.out _ ((F1.out.trans F4.out).mono fun _ _ _ => trivial)
  ·have hI : ¬ (100 : Int) < (len : Int) := by omega
   have HLN : Hid (len ≤ 100) := by show _ ≤ _; omega
   clear hlen
   go_upto_region 5 with fail
   rename_i K1 h1 K0 h0
   have H1 := Lib.hid h1
   have H0 := Lib.hid h0
   clear h1 h0
   go_wp2_with fail
   refine H0.out _ _ ?_
   clear H0
   go_wp2_with fail
   go_loopw [7] (fun v wr => ∃ (i : Nat) (s' : Gs), v = .int .i64 (i : Nat) ∧ i ≤ len ∧ Hid (Gr13 w1.heap.size wr G s') ∧ Hid (Hs many (16 + 3 * i) i s') ∧ Hid (Fr (fun c _ => c < w1.heap.size) w4 wr)) (fun v _ => len - (intOf v).toNat)
   case atStart => exact ⟨0, S0 many, rfl, Nat.zero_le _, G4.out, S0_hs HZ.out.1 HZ.out.2, Fr.refl _ _⟩
   case round =>
    obtain ⟨i, s', rfl, hi, HG, HS, HF⟩ := hrel
    by_cases hlt : i < len
    ·have hltI : (i : Int) < (len : Int) := by omega
     obtain ⟨d, k, o0, o1⟩ := LIES.out.2 i hlt
     have ea := LIES.out.1 (by omega)
     have FW : Fr (fun c _ => c < W.heap.size) W wr := (F1.out.mono fun _ _ _ => trivial).trans ((F4.out.mono fun _ _ _ => trivial).trans (HF.out.mono fun c _ h => Nat.lt_of_lt_of_le h F1.out.size))
     have o0 := FW.cell (fun o ho => lt_of_some ho) o0
     have o1 := FW.cell (fun o ho => lt_of_some ho) o1
     have PC := Lib.hid (HG.out.play HS.out.gj (by have := HLN.out; omega) d k)
     have HS2 := Lib.hid (HS.out.play (by have := HZ.out; omega) d k)
     subst ea
     clear hlt FW
     go_wp2_with fail
     (with_reducible refine PC.out.mono ?_)
     rintro e W5 ⟨rfl, g5, f5⟩
     have G5 := Lib.hid g5
     have F5 := Lib.hid (HF.out.trans f5)
     clear PC g5 f5 o0 o1
     go_wp2
     go_roundw
     case rel => exact ⟨i + 1, _, by go_num, by omega, G5.out, HS2.out.mono (by omega) (by omega), F5.out⟩
     case measure => simp [intOf]; omega
    ·have hge : ¬ ((i : Int) < (len : Int)) := by omega
     clear hlt
     go_wp2_with fail
     refine H1.out _ _ ?_
     clear H1
     have sz : W.heap.size ≤ w1.heap.size := F1.out.size
     exact seg_of (fun fu => hl_9 (R := R) HZ.out.1 HZ.out.2 HG.out (HS.out.mono (by have := HLN.out; omega) (by have := HLN.out; omega)) (Nat.le_trans F4.out.size HF.out.size) (fun W9 f => FIN.out _ (((F1.out.trans F4.out).mono fun _ _ _ => trivial).trans ((HF.out.trans f).mono fun c _ h => Nat.lt_of_lt_of_le h sz))) fu) (by kernel_rfl)
theorem raftHeals_walk (W : World) (z : Int) (a : Option Addr) (len cap : Nat) (r1 : Rd Try.prog W 45 [.slice a len cap]) :
  Calls Try.prog 4 #[.int .i64 z, .slice a len cap] W fun e w' => e = .returned (.bool true) ∧ Below W.heap.size W w' := by
 obtain ⟨b0, off, h1, h2⟩ := ops13_at r1
 exact (raftHeals_main W z a len cap b0 off h1 h2).mono fun e w' ⟨h1, h2⟩ => ⟨h1, h2.below (Nat.le_refl _)⟩
end Go.Proofs.Ytmjccpfchhnfhaa
