/- Texts of the proofs, part 26: what the functions that they reach do, walked; no conditions beyond those that each states. -/
import Derived.Test.YtlolfcnfcgegdaaZz365ba0ae40
set_option linter.unusedVariables false
set_option linter.unusedSimpArgs false
/- ServiceOnce (printed by once_law20.py). -/
namespace Go.Proofs.Ytlolfcnfcgegdaa
open Go.RowKit
set_option linter.unusedVariables false
set_option linter.unusedSimpArgs false

theorem neq_reply (w : World) (a b : Int) : (binOp .neq 29 (.agg #[.int .i64 a, .int .u64 b]) (.agg #[.int .i64 a, .int .u64 b])).run Try.prog w = .ok (.bool false) w := by
  have h := eql_reply w a b a b
  rw [run_eql_struct] at h
  rw [run_neq_struct]
  cases hr : (Op.equalIn 10000 29 (.agg #[.int .i64 a, .int .u64 b]) (.agg #[.int .i64 a, .int .u64 b])).run Try.prog w with
  | ok b' w' =>
    rw [hr] at h
    simp only [Result.andThen_ok, beq_self_eq_true, Bool.and_self, Result.ok.injEq, Value.bool.injEq] at h ⊢
    obtain ⟨rfl, rfl⟩ := h
    exact ⟨rfl, rfl⟩
  | halt x w' => rw [hr] at h; simp [Result.andThen] at h
theorem SV.flow {n : Nat} {P Q X : Nat → Prop} {w0 w w' : World} {bs b1 b2 : Nat} {M : MT} {L : Lk} (h : SV n P Q w bs b1 b2 M L) (k : Kp (U P Q) X w w') (f : Fr (fun c _ => c < n) w0 w) : Fr (fun c _ => c < n) w0 w' := h.old k f
set_option maxRecDepth 100000 in
set_option maxHeartbeats 1000000 in
theorem once_short (a : Option Addr) (len cap : Nat) (w : World) (h : 60 < len) :
    Calls Try.prog 5 #[.slice a len cap] w fun e w' => e = .returned (.bool true) ∧ Below w.heap.size w w' := by
  have q1 : (60 : Int) < len := by omega
  clear h
  go_enter Try.func5, Try.ntmps5
  go_wp2_with fail
  (with_reducible refine (awake_calls w).mono ?_)
  rintro e w1 ⟨rfl, f1⟩
  have F1 := Lib.hid f1
  clear f1
  go_wp2_with fail
  (with_reducible refine (new_calls (n := w.heap.size) w1 F1.out.size).mono ?_)
  rintro e w2 ⟨⟨P0, Q0, bs, b1, b2, rfl, h0, _, _⟩, f0⟩
  have F2 := Lib.hid (F1.out.trans f0)
  clear h0 f0 F1
  go_wp2_with fail
  (with_reducible refine (new_calls (n := w.heap.size) w2 F2.out.size).mono ?_)
  rintro e w3 ⟨⟨P1, Q1, cs, c1, c2, rfl, h0, _, _⟩, f0⟩
  have F3 := Lib.hid (F2.out.trans f0)
  clear h0 f0 F2
  go_wp2
  go_ret
  exact ⟨rfl, (F3.out.mono fun _ _ _ => trivial : Fr (fun b _ => b < w.heap.size) w w3).below (Nat.le_refl _)⟩
set_option maxRecDepth 100000 in
set_option maxHeartbeats 4000000 in
theorem once_main (a : Option Addr) (len cap : Nat) (w : World) (h : Rd Try.prog w 22 [.slice a len cap]) (h2 : (len : Int) ≤ 60) :
    Calls Try.prog 5 #[.slice a len cap] w fun e w' => e = .returned (.bool true) ∧ Below w.heap.size w w' := by
  have HR := Lib.hid h
  clear h
  go_enter Try.func5, Try.ntmps5
  go_wp2_with fail
  (with_reducible refine (awake_calls w).mono ?_)
  rintro e w1 ⟨rfl, f1⟩
  have F1 := Lib.hid f1
  clear f1
  go_wp2_with fail
  (with_reducible refine (new_calls (n := w.heap.size) w1 F1.out.size).mono ?_)
  rintro e w2 ⟨⟨P0, Q0, s1, a1, b1, rfl, h0, _, _⟩, f0⟩
  have F2 := Lib.hid (F1.out.trans f0)
  have H2 := Lib.hid h0
  clear h0 f0 F1
  go_wp2_with fail
  (with_reducible refine (new_calls (n := w.heap.size) w2 F2.out.size).mono ?_)
  rintro e w3 ⟨⟨PT, QT, s2, a2, b2, rfl, h0, _, hlow⟩, f0⟩
  have F3 : Hid (Fr (fun b _ => b < w.heap.size) w w3) := Lib.hid ((F2.out.trans f0).mono fun _ _ _ => trivial)
  have H3 := Lib.hid (H2.out.fr f0)
  have T3 := Lib.hid h0
  have D3 : Hid (Dis P0 Q0 PT QT) := Lib.hid fun c h1 h2 => by have := H2.out.here h1; have := hlow c h2; omega
  clear h0 f0 F2 H2 hlow
  go_wp2
  go_loopw [6] (fun i wr => ∃ (j : Nat) (P Q P' Q' : Nat → Prop) (M : MT) (L : Lk), j ≤ len ∧ i = .int .i64 j ∧ Hid (SV w.heap.size P Q wr s1 a1 b1 M L) ∧ Hid (SV w.heap.size P' Q' wr s2 a2 b2 M L) ∧ Hid (Dis P Q P' Q') ∧ Hid (MF M) ∧ Hid (Fr (fun b _ => b < w.heap.size) w wr)) (fun i _ => len - (intOf i).toNat)
  case atStart => exact ⟨0, P0, Q0, PT, QT, [], Lk.new, Nat.zero_le _, rfl, H3.out, T3.out, D3.out, MF.nil, F3.out⟩
  case round =>
    obtain ⟨j, P, Q, P', Q', M, L, hj, rfl, H, T, D, HM, F⟩ := hrel
    clear H3 F3 T3 D3
    by_cases hlt : j < len
    · obtain ⟨b, off, rfl, hc⟩ := cmds_at HR.out (by omega)
      obtain ⟨c, hc⟩ := hc j hlt
      obtain ⟨g0, g1, g2, g3, g4, g5, g6, hok⟩ := hc.fr F.out
      have C0 : Hid (∀ W, Fr (fun b _ => b < w.heap.size) w W → W.cell? ⟨b, off + j * 7, none⟩ = some (.int .i64 c.op)) := Lib.hid fun W f => (hc.fr f).1
      have HOK := Lib.hid hok
      have BC := Lib.hid (bytes_calls wr c hok)
      unfold vC at BC
      generalize hlen : (encM c).1.length = lenb at BC
      have HLEN := Lib.hid hlen
      clear hlen hok hc
      go_wp2_with fail
      (with_reducible refine BC.out.mono ?_)
      rintro e u ⟨⟨ab, capb, rfl, bb⟩, fb⟩
      have HB := Lib.hid (H.out.fr fb)
      have TB := Lib.hid (T.out.fr fb)
      have FB := Lib.hid (F.out.trans (fb.mono fun _ _ _ => trivial))
      have BB := Lib.hid bb
      obtain ⟨rc, rv, M', L', hact⟩ : ∃ rc rv M' L', actM M L c = (⟨rc, rv⟩, M', L') := ⟨_, _, _, _, rfl⟩
      have HM' : Hid (MF M') := by have := HM.out.actM L c; rwa [hact] at this
      have TW : Hid (3 ≤ c.op → c.op ≤ 6 → rc ≠ 80 → rc ≠ 81 → rc ≠ 60 → actM M' L' c = (⟨rc, rv⟩, M', L')) := Lib.hid fun q1 q2 q3 q4 q5 => by
        have := act_twice HM.out H.out.ok c q1 q2 (by rw [hact]; exact q3) (by rw [hact]; exact q4) (by rw [hact]; exact q5)
        rwa [hact] at this
      have AC := Lib.hid (act_calls u s1 a1 b1 M L _ c HB.out FB.out.size bb HOK.out)
      rw [hact] at AC
      unfold vR at AC
      dsimp only at AC
      have HACT := Lib.hid hact
      clear BC bb fb g0 g1 g2 g3 g4 g5 g6 H T F hact
      go_wp2_with fail
      (with_reducible refine AC.out.mono ?_)
      rintro e y ⟨rfl, P1, Q1, hy, ky⟩
      obtain ⟨ty, dy⟩ := HB.out.beside TB.out ky D.out
      have HY := Lib.hid hy
      have TY := Lib.hid ty
      have DY := Lib.hid dy
      have FY := Lib.hid (HB.out.old ky FB.out)
      have BY := Lib.hid (HB.out.keepb ky BB.out)
      clear AC hy ky HB TB FB BB ty dy D HM
      obtain ⟨W1, hW1⟩ : ∃ W, y.alloc (.cells #[.int .i64 0, .int .u64 0] 29 (0, 0)) = W := ⟨_, rfl⟩
      have FA : Hid (Fr (fun _ _ => True) y W1) := hW1 ▸ (Fr.refl _ _).alloc _
      have XA : Hid (W1.heap[y.heap.size]? = some (.cells #[.int .i64 0, .int .u64 0] 29 (0, 0))) := hW1 ▸ heap_alloc_new y _
      have q0 := cell_mk (i := 0) XA.out rfl
      have q1 := cell_mk (i := 1) XA.out rfl
      have z0 := frozen_mk (i := 0) XA.out
      have z1 := frozen_mk (i := 1) XA.out
      obtain ⟨v1, hWZ, TZ, FZ⟩ := set2 XA.out (.int .i64 (rc : Nat)) (.int .u64 (rv : Nat))
      have G1 : Hid (Fr (fun b _ => b < w.heap.size) w v1) := Lib.hid ((FY.out.trans (FA.out.mono fun _ _ _ => trivial)).trans (FZ.mono fun c _ h e => by have := FY.out.size; omega))
      have H1 := Lib.hid ((HY.out.fr FA.out).frk FZ ((HY.out.fr FA.out).kv_other XA.out FY.out.size (by decide)))
      have T1 := Lib.hid ((TY.out.fr FA.out).frk FZ ((TY.out.fr FA.out).kv_other XA.out FY.out.size (by decide)))
      have B1 := Lib.hid (keep_bz (BY.out.tt FA.out) FZ XA.out (by decide))
      have X1 := Lib.hid TZ
      have AC := Lib.hid (act_calls v1 s2 a2 b2 M L _ c T1.out G1.out.size B1.out HOK.out)
      rw [HACT.out] at AC
      unfold vR at AC
      dsimp only at AC
      clear TZ FZ FA XA HY TY FY BY
      go_wp2_with fail
      try rw [hWZ]
      (with_reducible refine AC.out.mono ?_)
      rintro e y2 ⟨rfl, P2, Q2, ht, kt⟩
      obtain ⟨hy, dy⟩ := T1.out.beside H1.out kt DY.out.symm
      have HY := Lib.hid hy
      have TY := Lib.hid ht
      have D2 := Lib.hid dy.symm
      have FY := Lib.hid (T1.out.old kt G1.out)
      have BY := Lib.hid (T1.out.keepb kt B1.out)
      have XY := Lib.hid (T1.out.keepc kt X1.out (by decide))
      clear AC ht kt H1 T1 G1 B1 hy dy DY X1 hWZ hW1 q0 q1 z0 z1
      obtain ⟨mx, hmx⟩ : ∃ m, y.heap.size = m := ⟨_, rfl⟩
      rw [hmx] at XY ⊢
      clear hmx
      obtain ⟨W2, hW2⟩ : ∃ W, y2.alloc (.cells #[.int .i64 0, .int .u64 0] 29 (0, 0)) = W := ⟨_, rfl⟩
      have FA : Hid (Fr (fun _ _ => True) y2 W2) := hW2 ▸ (Fr.refl _ _).alloc _
      have XA : Hid (W2.heap[y2.heap.size]? = some (.cells #[.int .i64 0, .int .u64 0] 29 (0, 0))) := hW2 ▸ heap_alloc_new y2 _
      have q0 := cell_mk (i := 0) XA.out rfl
      have q1 := cell_mk (i := 1) XA.out rfl
      have z0 := frozen_mk (i := 0) XA.out
      have z1 := frozen_mk (i := 1) XA.out
      obtain ⟨v2, hWZ, TZ, FZ⟩ := set2 XA.out (.int .i64 (rc : Nat)) (.int .u64 (rv : Nat))
      have G2 : Hid (Fr (fun b _ => b < w.heap.size) w v2) := Lib.hid ((FY.out.trans (FA.out.mono fun _ _ _ => trivial)).trans (FZ.mono fun c _ h e => by have := FY.out.size; omega))
      have H2 := Lib.hid ((HY.out.fr FA.out).frk FZ ((HY.out.fr FA.out).kv_other XA.out FY.out.size (by decide)))
      have T2 := Lib.hid ((TY.out.fr FA.out).frk FZ ((TY.out.fr FA.out).kv_other XA.out FY.out.size (by decide)))
      have X2 := Lib.hid (FZ.keep _ _ (FA.out.keep _ _ XY.out trivial) (by have := lt_of_some XY.out; omega))
      have B2 := Lib.hid (keep_bz (BY.out.tt FA.out) FZ XA.out (by decide))
      have Y2 := Lib.hid TZ
      have c0 := C0.out v2 G2.out
      have x0 := cell_mk (i := 0) X2.out rfl
      have x1 := cell_mk (i := 1) X2.out rfl
      have y0 := cell_mk (i := 0) Y2.out rfl
      have y1 := cell_mk (i := 1) Y2.out rfl
      have NE := neq_reply v2 (rc : Nat) (rv : Nat)
      clear TZ FZ FA XA HY TY FY BY XY
      by_cases hq5 : c.op < 3
      · have i3 : ¬ (3 : Int) ≤ c.op := by omega
        go_wp2
        try rw [hWZ]
        go_roundw
        case rel => exact ⟨j + 1, P1, Q1, P2, Q2, M', L', by omega, by go_num, H2.out, T2.out, D2.out, HM'.out, G2.out⟩
        case measure => simp [intOf]; omega
      · have i3 : (3 : Int) ≤ c.op := by omega
        by_cases hq4 : 6 < c.op
        · have i6 : ¬ c.op ≤ 6 := by omega
          go_wp2
          try rw [hWZ]
          go_roundw
          case rel => exact ⟨j + 1, P1, Q1, P2, Q2, M', L', by omega, by go_num, H2.out, T2.out, D2.out, HM'.out, G2.out⟩
          case measure => simp [intOf]; omega
        · have i6 : c.op ≤ 6 := by omega
          by_cases hq3 : rc = 80
          · have e80 : (((rc : Nat) : Int) != 80) = false := by rw [hq3]; rfl
            clear hq3
            go_wp2
            try rw [hWZ]
            go_roundw
            case rel => exact ⟨j + 1, P1, Q1, P2, Q2, M', L', by omega, by go_num, H2.out, T2.out, D2.out, HM'.out, G2.out⟩
            case measure => simp [intOf]; omega
          · have e80 : (((rc : Nat) : Int) != 80) = true := by simp; omega
            by_cases hq2 : rc = 81
            · have e81 : (((rc : Nat) : Int) != 81) = false := by rw [hq2]; rfl
              clear hq2
              go_wp2
              try rw [hWZ]
              go_roundw
              case rel => exact ⟨j + 1, P1, Q1, P2, Q2, M', L', by omega, by go_num, H2.out, T2.out, D2.out, HM'.out, G2.out⟩
              case measure => simp [intOf]; omega
            · have e81 : (((rc : Nat) : Int) != 81) = true := by simp; omega
              by_cases hq1 : rc = 60
              · have e60 : (((rc : Nat) : Int) != 60) = false := by rw [hq1]; rfl
                clear hq1
                go_wp2
                try rw [hWZ]
                go_roundw
                case rel => exact ⟨j + 1, P1, Q1, P2, Q2, M', L', by omega, by go_num, H2.out, T2.out, D2.out, HM'.out, G2.out⟩
                case measure => simp [intOf]; omega
              · have e60 : (((rc : Nat) : Int) != 60) = true := by simp; omega
                have HAC := TW.out (by omega) (by omega) (by assumption) (by assumption) (by assumption)
                have AC := Lib.hid (act_calls v2 s2 a2 b2 M' L' _ c T2.out G2.out.size B2.out HOK.out)
                rw [HAC] at AC
                unfold vR at AC
                dsimp only at AC
                clear HAC
                go_wp2_with fail
                try rw [hWZ]
                (with_reducible refine AC.out.mono ?_)
                rintro e y3 ⟨rfl, P3, Q3, ht, kt⟩
                obtain ⟨hy, dy⟩ := T2.out.beside H2.out kt D2.out.symm
                have HY := Lib.hid hy
                have TY := Lib.hid ht
                have D3 := Lib.hid dy.symm
                have FY := Lib.hid (T2.out.old kt G2.out)
                have XY := Lib.hid (T2.out.keepc kt X2.out (by decide))
                have YY := Lib.hid (T2.out.keepc kt Y2.out (by decide))
                clear AC ht kt H2 T2 G2 B2 hy dy D2 X2 Y2 hWZ hW2 q0 q1 z0 z1 c0 x0 x1 y0 y1 NE
                obtain ⟨my, hmy⟩ : ∃ m, y2.heap.size = m := ⟨_, rfl⟩
                rw [hmy] at YY ⊢
                clear hmy
                obtain ⟨W3, hW3⟩ : ∃ W, y3.alloc (.cells #[.int .i64 0, .int .u64 0] 29 (0, 0)) = W := ⟨_, rfl⟩
                have FA : Hid (Fr (fun _ _ => True) y3 W3) := hW3 ▸ (Fr.refl _ _).alloc _
                have XA : Hid (W3.heap[y3.heap.size]? = some (.cells #[.int .i64 0, .int .u64 0] 29 (0, 0))) := hW3 ▸ heap_alloc_new y3 _
                have q0 := cell_mk (i := 0) XA.out rfl
                have q1 := cell_mk (i := 1) XA.out rfl
                have z0 := frozen_mk (i := 0) XA.out
                have z1 := frozen_mk (i := 1) XA.out
                obtain ⟨v3, hWZ, TZ, FZ⟩ := set2 XA.out (.int .i64 (rc : Nat)) (.int .u64 (rv : Nat))
                have G3 : Hid (Fr (fun b _ => b < w.heap.size) w v3) := Lib.hid ((FY.out.trans (FA.out.mono fun _ _ _ => trivial)).trans (FZ.mono fun c _ h e => by have := FY.out.size; omega))
                have H3 := Lib.hid ((HY.out.fr FA.out).frk FZ ((HY.out.fr FA.out).kv_other XA.out FY.out.size (by decide)))
                have T3 := Lib.hid ((TY.out.fr FA.out).frk FZ ((TY.out.fr FA.out).kv_other XA.out FY.out.size (by decide)))
                have X3 := Lib.hid (FZ.keep _ _ (FA.out.keep _ _ XY.out trivial) (by have := lt_of_some XY.out; omega))
                have Y3 := Lib.hid (FZ.keep _ _ (FA.out.keep _ _ YY.out trivial) (by have := lt_of_some YY.out; omega))
                have x0 := cell_mk (i := 0) X3.out rfl
                have x1 := cell_mk (i := 1) X3.out rfl
                have y0 := cell_mk (i := 0) Y3.out rfl
                have y1 := cell_mk (i := 1) Y3.out rfl
                have t0 := cell_mk (i := 0) TZ rfl
                have t1 := cell_mk (i := 1) TZ rfl
                have NE := neq_reply v3 (rc : Nat) (rv : Nat)
                clear TZ FZ FA XA HY TY FY XY YY
                go_wp2
                try rw [hWZ]
                go_roundw
                case rel => exact ⟨j + 1, P1, Q1, P3, Q3, M', L', by omega, by go_num, H3.out, T3.out, D3.out, HM'.out, G3.out⟩
                case measure => simp [intOf]; omega
    · have HM1 := HM.out
      have PC := Lib.hid (svpack_calls wr s1 a1 b1 M L H.out HM1)
      generalize hs : svB M L = S at PC
      have HLS : Hid (S.length ≤ 2004) := hs ▸ svB_len M L
      go_wp2_with fail
      (with_reducible refine PC.out.mono ?_)
      rintro e w4 ⟨⟨ap, cp, rfl, bp⟩, f4⟩
      have BP := Lib.hid bp
      have F4 := Lib.hid (F.out.trans (f4.mono fun _ _ _ => trivial))
      have QC := Lib.hid (svpack_calls w4 s2 a2 b2 M L (T.out.fr f4) HM1)
      rw [hs] at QC
      clear bp f4 PC hs HM1
      go_wp2_with fail
      (with_reducible refine QC.out.mono ?_)
      rintro e w5 ⟨⟨aq, cq, rfl, bq⟩, f5⟩
      have SC := Lib.hid (same_calls w5 _ _ S S (BP.out.tt f5) bq (by have := HLS.out; omega))
      rw [show decide (S = S) = true from decide_eq_true rfl] at SC
      have F5 := Lib.hid (F4.out.trans (f5.mono fun _ _ _ => trivial))
      clear bq f5 QC BP F4
      go_wp2_with fail
      (with_reducible refine SC.out.mono ?_)
      rintro e w6 ⟨rfl, n6, hw6⟩
      have F6 : Hid (Fr (fun b _ => b < w.heap.size) w w6) := Lib.hid (by rw [hw6]; exact F5.out.drewN n6)
      clear hw6 SC
      go_wp2
      go_ret
      exact ⟨rfl, F6.out.below (Nat.le_refl _)⟩
    theorem once_walk (a : Option Addr) (len cap : Nat) (w : World) (h : Rd Try.prog w 22 [.slice a len cap]) :
        Calls Try.prog 5 #[.slice a len cap] w fun e w' => e = .returned (.bool true) ∧ Below w.heap.size w w' := by
      by_cases hc : 60 < len
      · exact once_short a len cap w hc
      · exact once_main a len cap w h (by omega)
    end Go.Proofs.Ytlolfcnfcgegdaa
