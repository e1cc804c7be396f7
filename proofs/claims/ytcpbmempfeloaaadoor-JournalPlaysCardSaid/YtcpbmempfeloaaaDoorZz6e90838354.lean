/- Texts of the proofs, part 32: what the functions that they reach do, walked; no conditions beyond those that each states. -/
import Derived.Test.YtcpbmempfeloaaaDoorZzfb9e21c463
set_option linter.unusedVariables false
set_option linter.unusedSimpArgs false
/- The document's journal: Cut. -/
namespace Go.Proofs.YtcpbmempfeloaaaDoor
open Go.RowKit
set_option linter.unusedVariables false
set_option linter.unusedSimpArgs false

theorem size_rr : (sizeOf 124).run Tryd.prog = fun w => .ok 2 w := by kernel_rfl

set_option maxRecDepth 100000 in
set_option maxHeartbeats 4000000 in
theorem rcut_calls (w : World) (bk br : Nat) (H G : Nat → Prop) (J : Jn) (E : Dk) (k : Int) (h : RJ w bk br H J) (hr : Rdk w br G E) (hGk : ¬ G bk) (hq : E.pend.length < 900000) (hfn : J.first + J.held.length < 4294967296) :
    Calls Tryd.prog 28 #[.pointer (some ⟨bk, 0, none⟩), .int .i64 k] w fun e w' => e = .returned (.int .i64 (jcut J E k).1) ∧ Rdk w' br (fun c => G c ∨ w.heap.size ≤ c) (jcut J E k).2.2 ∧ RJ w' bk br H (jcut J E k).2.1 ∧ Fr (fun c _ => c ≠ br ∧ c ≠ bk) w w' := by
  obtain ⟨loc, n, first, ep, low, HH⟩ := J
  obtain ⟨vh, T, hj⟩ := h
  obtain ⟨av, cv, rfl⟩ := hj.row.form
  have hn1 : 1 ≤ n := hj.wf.n1
  have hn100 : n ≤ 100 := hj.wf.n100
  have hf : first < 4294967296 := hj.wf.f
  have hep : ep < 4294967296 := hj.wf.e
  have HLEN : Hid (T.length = HH.length) := hj.len
  replace hfn : first + T.length < 4294967296 := by rw [HLEN.out]; exact hfn
  have hTn : T.length ≤ n := by rw [HLEN.out]; exact hj.wf.few
  have hcv : T.length ≤ cv := by obtain ⟨a, c, e, hc, _⟩ := hj.row; cases e; exact hc
  have HTR : Hid (HH = T.map fun x => (x.1, x.2.2)) := hj.tr
  have EJ : Hid (jcut ⟨loc, n, first, ep, low, HH⟩ E k = if k < 0 ∨ (HH.length : Int) < k then (1, ⟨loc, n, first, ep, low, HH⟩, E) else if ep = 4294967295 then (42, ⟨loc, n, first, ep, low, HH⟩, E) else
    ((jsave ⟨loc, n, first, ep + 1, low, HH.take (HH.length - k.toNat)⟩ (jzero ⟨loc, n, first, ep, low, HH⟩ k.toNat HH.length E.sync).sync).1, ⟨loc, n, first, ep + 1, low, HH.take (HH.length - k.toNat)⟩, (jsave ⟨loc, n, first, ep + 1, low, HH.take (HH.length - k.toNat)⟩ (jzero ⟨loc, n, first, ep, low, HH⟩ k.toNat HH.length E.sync).sync).2)) := rfl
  obtain ⟨c0, _, _, c3, c4, c5, c6⟩ := hj.reads w (Fr.refl _ _)
  have HJ := Lib.hid hj
  have HR := Lib.hid hr
  have HQ := Lib.hid hq
  have SAME : Hid (Rdk w br (fun c => G c ∨ w.heap.size ≤ c) E ∧ RJ w bk br H ⟨loc, n, first, ep, low, HH⟩ ∧ Fr (fun c _ => c ≠ br ∧ c ≠ bk) w w) := ⟨HR.out.mono fun c hc => .inl hc, ⟨_, T, HJ.out⟩, Fr.refl _ _⟩
  rw [← HLEN.out] at EJ
  clear hr hq hj
  by_cases hk : k < 0 ∨ (T.length : Int) < k
  · have OUT : Hid (jcut ⟨loc, n, first, ep, low, HH⟩ E k = (1, ⟨loc, n, first, ep, low, HH⟩, E)) := by
      show _ = _
      rw [EJ.out, if_pos hk]
    by_cases h0 : k < 0
    · have h0' : decide (k < 0) = true := by simpa using h0
      clear hk
      go_enter Tryd.func28, Tryd.ntmps28
      go_wp2
      go_ret
      rw [OUT.out]
      exact ⟨rfl, SAME.out⟩
    · have h0' : decide (k < 0) = false := by simpa using h0
      have h1' : (T.length : Int) < k := by omega
      clear hk
      go_enter Tryd.func28, Tryd.ntmps28
      go_wp2
      go_ret
      rw [OUT.out]
      exact ⟨rfl, SAME.out⟩
  · have h0' : decide (k < 0) = false := by simp; omega
    have h1' : decide ((T.length : Int) < k) = false := by simp; omega
    have hk0 : 0 ≤ k := by omega
    have hkH : k ≤ T.length := by omega
    by_cases hmx : ep = 4294967295
    · have hm' : ((ep : Int) == 4294967295) = true := by simp; omega
      have OUT : Hid (jcut ⟨loc, n, first, ep, low, HH⟩ E k = (42, ⟨loc, n, first, ep, low, HH⟩, E)) := by
        show _ = _
        rw [EJ.out, if_neg hk, if_pos hmx]
      have HMX := Lib.hid hmx
      clear hk hmx
      go_enter Tryd.func28, Tryd.ntmps28
      go_wp2
      go_ret
      rw [OUT.out]
      exact ⟨rfl, SAME.out⟩
    · have hm' : ((ep : Int) == 4294967295) = false := by simp; omega
      have E2 := EJ.out
      rw [if_neg hk, if_neg hmx] at E2
      obtain ⟨kn, hkn⟩ : ∃ kn, k.toNat = kn := ⟨_, rfl⟩
      have hkz : k = (kn : Int) := by omega
      rw [hkn] at E2
      obtain ⟨Ee, hEe⟩ : ∃ Ee, jzero ⟨loc, n, first, ep, low, HH⟩ kn T.length E.sync = Ee := ⟨_, rfl⟩
      rw [hEe] at E2
      obtain ⟨c9, E9, h9⟩ : ∃ c9 E9, jsave ⟨loc, n, first, ep + 1, low, HH.take (T.length - kn)⟩ Ee.sync = (c9, E9) := ⟨_, _, rfl⟩
      rw [h9] at E2
      have EQ := Lib.hid E2
      have H9 := Lib.hid h9
      have HEE := Lib.hid hEe
      have HKZ := Lib.hid hkz
      have SY := Lib.hid (r_sync w br G E HR.out)
      have hknT : kn ≤ T.length := by omega
      obtain ⟨tl, htl⟩ : ∃ t, T.length = t := ⟨_, rfl⟩
      have HTL := Lib.hid htl
      obtain ⟨q, hq2⟩ : ∃ q, tl - kn = q := ⟨_, rfl⟩
      have HQ2 := Lib.hid hq2
      have hw3 : IntKind.i64.wrap ((tl : Int) - k) = (q : Int) := by rw [IntWalk.i64_in _ (by omega)]; omega
      have hw4 : IntKind.i64.wrap ((tl : Int) - 1) = (tl : Int) - 1 := IntWalk.i64_in _ (by omega)
      rw [htl] at hTn hcv hfn h1' hkH hknT HEE c6
      clear hk E2 hEe hkn EJ SAME hkz h9 htl hq2
      go_enter Tryd.func28, Tryd.ntmps28
      go_wp2_with fail
      (with_reducible refine SY.out.mono ?_)
      rintro e w1 ⟨rfl, d1, f1⟩
      have D1 := Lib.hid d1
      have F1 := Lib.hid f1
      have CC : Hid (∀ W, Fr (fun c _ => c ≠ br) w W → RJAt W bk br H (.slice av T.length cv) T ⟨loc, n, first, ep, low, HH⟩) := fun W f => HJ.out.fr f fun _ _ _ _ h => h
      have c61 : w1.cell? ⟨bk, 6, none⟩ = some (.slice av tl cv) := by
        have := ((CC.out w1 f1).reads w1 (Fr.refl _ _)).2.2.2.2.2.2
        rw [HTL.out] at this
        exact this
      have hqs : Hid (E.sync.pend.length ≤ E.pend.length) := pend_sync E
      clear d1 f1 SY c6 c4 c0 c3 c5
      go_wp2
      go_loopw [6] (fun i wr => ∃ (j : Nat) (z : Int) (Ej : Dk), i = .int .i64 z ∧ z = (tl : Int) - 1 - j ∧ j ≤ kn ∧ Hid (jzero ⟨loc, n, first, ep, low, HH⟩ (kn - j) (tl - j) Ej = Ee) ∧ Hid (Ej.pend.length ≤ E.pend.length + j) ∧ Hid (Rdk wr br (fun c => G c ∨ w.heap.size ≤ c) Ej) ∧ Hid (Fr (fun c _ => c ≠ br) w wr)) (fun i _ => (intOf i + 1).toNat)
      case atStart => exact ⟨0, _, E.sync, rfl, by omega, Nat.zero_le _, HEE, hqs, D1, F1⟩
      case round =>
        obtain ⟨j, z, Ej, rfl, hz, hj, HZ, HP, RJ', FJ⟩ := hrel
        by_cases hlt : j < kn
        · have hge : (q : Int) ≤ z := by have := HQ2.out; omega
          obtain ⟨sq, hsq⟩ : ∃ sq, first + (tl - j - 1) = sq := ⟨_, rfl⟩
          have hz0 : 0 ≤ z := by omega
          have hwz : IntKind.u64.wrap z = z := by rw [IntKind.wrap_u64]; omega
          have hws : IntKind.u64.wrap ((first : Int) + z) = (sq : Int) := by rw [IntKind.wrap_u64]; omega
          have hwd : IntKind.i64.wrap (z - 1) = z - 1 := IntWalk.i64_in _ (by omega)
          have hs4 : sq < 4294967296 := by omega
          obtain ⟨sec, hsec⟩ : ∃ sec, loc + 2 + sq % n = sec := ⟨_, rfl⟩
          have SX : Hid (∀ W, Fr (fun _ _ => True) wr W → Calls Tryd.prog 65 #[.pointer (some ⟨bk, 0, none⟩), .int .u64 (sq : Nat)] W fun e w' => e = .returned (.int .i64 (sec : Nat)) ∧ Fr (fun _ _ => True) W w') := fun W f => by
            have := place_calls W bk br H _ sq _ rfl ⟨_, _, CC.out W (FJ.out.tt f)⟩ hs4
            unfold Jn.sec at this
            rw [hsec] at this
            exact this
          obtain ⟨c8, E8, h8⟩ : ∃ c8 E8, Ej.write (sec : Nat) [] = (c8, E8) := ⟨_, _, rfl⟩
          have hp8 := pend_write Ej (sec : Nat) []
          rw [h8] at hp8
          have HP8 : Hid (E8.pend.length ≤ E.pend.length + (j + 1)) := by
            have := HP.out
            show E8.pend.length ≤ _
            replace hp8 : E8.pend.length ≤ Ej.pend.length + 1 := hp8
            omega
          have HZ8 : Hid (jzero ⟨loc, n, first, ep, low, HH⟩ (kn - (j + 1)) (tl - (j + 1)) E8 = Ee) := by
            have h1 := HZ.out
            rw [show kn - j = (kn - (j + 1)) + 1 by omega] at h1
            show _ = _
            rw [← h1]
            have e1 : (⟨loc, n, first, ep, low, HH⟩ : Jn).sec ((first + (tl - j - 1)) % 4294967296) = sec := by
              unfold Jn.sec
              show loc + 2 + _ % n = sec
              rw [hsq, Nat.mod_eq_of_lt hs4, hsec]
            rw [jzero_succ]
            show jzero _ _ _ E8 = jzero _ _ (tl - j - 1) (Ej.write (((⟨loc, n, first, ep, low, HH⟩ : Jn).sec ((first + (tl - j - 1)) % 4294967296) : Nat) : Int) []).2
            rw [e1, h8, Nat.sub_sub]
          have WX : Hid (∀ W, Fr (fun _ _ => True) wr W → Calls Tryd.prog 69 #[.pointer (some ⟨br, 0, none⟩), .int .i64 (sec : Nat), .slice none 0 0] W fun e w' => e = .returned (.int .i64 c8) ∧ Rdk w' br (fun c => G c ∨ w.heap.size ≤ c) E8 ∧ Fr (fun c _ => c ≠ br) W w') := fun W f => by
            have := r_write W br _ Ej (sec : Nat) _ _ (RJ'.out.tt f) (BytesAt.nil (fun _ _ => False) W) (fun c o _ hc => hc.elim) (by
              have := HP.out
              have := HQ.out
              omega)
            rw [h8] at this
            exact this.mono fun e w' ⟨h1, h2, h3⟩ => ⟨h1, h2.mono fun c hc => by
              rcases hc with hc | hc
              · exact hc
              · exact .inr (Nat.le_trans (FJ.out.tt f).size hc), h3⟩
          have C0 : Hid (∀ W, Fr (fun c _ => c ≠ br) wr W → W.cell? ⟨bk, 0, none⟩ = some (.pointer (some ⟨br, 0, none⟩)) ∧ W.cell? ⟨bk, 3, none⟩ = some (.int .u64 (first : Nat))) := fun W f => by
            have := (CC.out W (FJ.out.trans f)).reads W (Fr.refl _ _)
            exact ⟨this.1, this.2.2.2.1⟩
          have S0 : Hid (Fr (fun c _ => c ≠ br) wr wr.drew) := (Fr.refl _ _).drew
          have HLT : Hid (j + 1 ≤ kn) := hlt
          have HZZ : Hid (z - 1 = (tl : Int) - 1 - (j + 1 : Nat)) := by show z - 1 = _; omega
          clear hsq hsec h8 hp8 hz
          go_wp2_with fail
          go_region_held3 (fun W => W.cell? ⟨bk, 0, none⟩ = some (.pointer (some ⟨br, 0, none⟩)) ∧ W.cell? ⟨bk, 3, none⟩ = some (.int .u64 (first : Nat))) (first | exact C0.out _ S0.out | exact C0.out _ S9.out | exact C0.out _ S10.out)
            (first
              | (go_at_call 65; (with_reducible refine (SX.out _ (Fr.refl _ _).drew).mono ?_); rintro e w9 ⟨rfl, f9⟩; have F9 : Hid (Fr (fun _ _ => True) wr w9) := (Fr.refl _ wr).drew.trans f9; have S9 : Hid (Fr (fun c _ => c ≠ br) wr w9) := F9.out.mono fun _ _ _ => trivial; clear f9)
              | (go_at_call 69; (with_reducible refine (WX.out _ F9.out).mono ?_); rintro e w10 ⟨rfl, d10, f10⟩; have D10 := Lib.hid d10; have S10 := Lib.hid (S9.out.trans f10); clear d10 f10))
          all_goals
            go_wp2
            go_roundw
            case rel => exact ⟨j + 1, z - 1, E8, rfl, HZZ.out, HLT.out, HZ8, HP8, D10, FJ.out.trans S10.out⟩
            case measure => simp [intOf]; omega
        · have hge : z < (q : Int) := by have := HQ2.out; omega
          have HJK : Hid (j = kn) := by show j = kn; omega
          have HEJ : Hid (Ej = Ee) := by
            have := HZ.out
            rw [HJK.out, Nat.sub_self] at this
            exact this
          have hqcv : q ≤ cv := by have := HQ2.out; omega
          have hqt : q ≤ tl := by have := HQ2.out; omega
          have HQT := Lib.hid hqt
          have HJN : Hid (j ≤ 100) := by show j ≤ 100; omega
          clear hlt hj hknT hk0 hkH h0' h1' hm' hz
          have c0 := ((CC.out wr FJ.out).reads wr (Fr.refl _ _)).1
          have SY := Lib.hid (r_sync wr br _ Ej RJ'.out)
          go_wp2_with fail
          (with_reducible refine SY.out.mono ?_)
          rintro e w2 ⟨rfl, d2, f2⟩
          have D2 : Hid (Rdk w2 br (fun c => G c ∨ w.heap.size ≤ c) Ej.sync) := d2.mono fun c h => by
            rcases h with h | h
            · exact h
            · exact .inr (Nat.le_trans FJ.out.size h)
          have F2 := Lib.hid (FJ.out.trans f2)
          have J2 := Lib.hid (CC.out w2 F2.out)
          have hr2 := J2.out.reads w2 (Fr.refl _ _)
          have c4 := hr2.2.2.2.2.1
          have c6 := hr2.2.2.2.2.2.2
          rw [HTL.out] at c6
          have z4 := frozen_mk (i := 4) J2.out.top
          have z6 := frozen_mk (i := 6) J2.out.top
          have s6 := fun W => run_slice_toS 2 Tryd.underlying56 size_rr W av tl cv q .i64 hqcv
          have hwe : IntKind.u64.wrap ((ep : Int) + 1) = ((ep + 1 : Nat) : Int) := by rw [IntKind.wrap_u64]; omega
          obtain ⟨e1, he1⟩ : ∃ e1, ep + 1 = e1 := ⟨_, rfl⟩
          rw [he1] at hwe EQ H9
          have he4 : e1 < 4294967296 := by omega
          clear d2 f2 SY c0 hr2 he1
          go_wp2_with fail
          obtain ⟨w3, hw3x⟩ : ∃ w3, (w2.setCell ⟨bk, 6, none⟩ (.slice av q cv)).setCell ⟨bk, 4, none⟩ (.int .u64 (e1 : Nat)) = w3 := ⟨_, rfl⟩
          have t3 : w3.heap[bk]? = some (.cells #[.pointer (some ⟨br, 0, none⟩), .int .i64 (loc : Nat), .int .i64 (n : Nat), .int .u64 (first : Nat), .int .u64 (e1 : Nat), .int .u64 (low : Nat), .slice av q cv] 58 (0, 0)) := by
            rw [← hw3x]
            exact heap_setCell_same (o := 4) (heap_setCell_same (o := 6) J2.out.top _) _
          have f3 : Fr (fun c _ => c ≠ bk) w2 w3 := by
            rw [← hw3x]
            exact ((Fr.refl _ w2).setCell (fun _ _ h => h rfl) _).setCell (fun _ _ h => h rfl) _
          have hTK : HH.take q = (T.take q).map fun x => (x.1, x.2.2) := by rw [HTR.out, List.map_take]
          have j3 : RJAt w3 bk br H (.slice av q cv) (T.take q) ⟨loc, n, first, e1, low, HH.take q⟩ := J2.out.turn f3 t3 (J2.out.row.take q (by rw [HTL.out]; exact HQT.out)) (fun x hx => List.mem_of_mem_take hx) hTK (by
            have hw := HJ.out.wf
            exact ⟨hw.n1, hw.n100, hw.locm, hw.f, he4, hw.l, Nat.le_trans (by show (HH.take q).length ≤ HH.length; rw [List.length_take]; omega) hw.few, fun x hx => hw.hd x (List.mem_of_mem_take hx)⟩)
          have d3 : Rdk w3 br (fun c => G c ∨ w.heap.size ≤ c) Ee.sync := by
            rw [← HEJ.out]
            exact D2.out.fr f3 fun c _ _ hc e => by
              rcases hc with hc | hc
              · exact hGk (e ▸ hc)
              · have := lt_of_some HJ.out.top
                omega
          have hpe : Ee.sync.pend.length < 1000000 := by
            have h1 := pend_sync Ee
            have h2 := HP.out
            have h3 := HQ.out
            have h4 := HJN.out
            rw [HEJ.out] at h2
            omega
          have SV := rsave_calls w3 bk br H _ _ Ee.sync ⟨_, _, j3⟩ d3 hpe
          have H9x := H9.out
          rw [HTL.out, HQ2.out] at H9x
          rw [H9x] at SV
          have SX := Lib.hid SV
          have J3 := Lib.hid j3
          have F3 := Lib.hid f3
          rw [hw3x]
          clear hw3x t3 f3 hTK j3 d3 hpe SV H9x c4 c6 z4 z6 s6
          (with_reducible refine SX.out.mono ?_)
          rintro e w4 ⟨rfl, d4, f4⟩
          have D4 := Lib.hid d4
          have F4 := Lib.hid f4
          clear d4 f4 SX
          go_wp2
          go_ret
          have E3 := EQ.out
          rw [HTL.out, HQ2.out] at E3
          rw [E3]
          refine ⟨rfl, D4.out.mono fun c hc => ?_, RJ.fr ⟨_, _, J3.out⟩ F4.out (fun _ _ _ _ h => h), ?_⟩
          · rcases hc with hc | hc
            · exact hc
            · exact .inr (Nat.le_trans (Nat.le_trans F2.out.size F3.out.size) hc)
          · exact ((F2.out.mono fun c _ h => h.1).trans (F3.out.mono fun c _ h => h.2)).trans (F4.out.mono fun c _ h => h.1)
end Go.Proofs.YtcpbmempfeloaaaDoor
/- The document's journal: what its Open reads off the slot, plainly. -/
namespace Go.Proofs.YtcpbmempfeloaaaDoor
open Go.RowKit
set_option linter.unusedVariables false
set_option linter.unusedSimpArgs false

theorem numR_ge (b : List UInt8) (n : Nat) (h : n ≤ b.length) : numR b false n = (ofLE (b.take n), b.drop n, false) := by
  unfold numR
  rw [if_neg (by simp; omega)]
theorem metaM_12 (b : List UInt8) (h : b.length = 12) : metaM b = (ofLE (b.take 4), ofLE ((b.drop 4).take 4), ofLE ((b.drop 8).take 4), decide (0 < ofLE (b.take 4)) && decide (ofLE ((b.drop 8).take 4) ≤ ofLE ((b.drop 4).take 4))) := by
  unfold metaM
  rw [numR_ge b 4 (by omega)]
  dsimp only
  rw [numR_ge (b.drop 4) 4 (by rw [List.length_drop]; omega)]
  dsimp only
  rw [List.drop_drop, numR_ge (b.drop 8) 4 (by rw [List.length_drop]; omega)]
  dsimp only
  rw [List.drop_drop, List.length_drop, h]
  rfl
theorem metaM_long (b : List UInt8) (h : 12 < b.length) : (metaM b).2.2.2 = false := by
  unfold metaM
  rw [numR_ge b 4 (by omega)]
  dsimp only
  rw [numR_ge (b.drop 4) 4 (by rw [List.length_drop]; omega)]
  dsimp only
  rw [List.drop_drop, numR_ge (b.drop 8) 4 (by rw [List.length_drop]; omega)]
  dsimp only
  rw [List.drop_drop, List.length_drop]
  unfold endN
  rw [if_neg (by decide), if_pos (by omega)]
  rfl
theorem numR_short (b : List UInt8) (s : Bool) (n : Nat) (h : s = true ∨ b.length < n) : (numR b s n).2.2 = true := by
  unfold numR
  rw [if_pos h]
theorem metaM_short (b : List UInt8) (h : b.length < 12) : (metaM b).2.2.2 = false := by
  unfold metaM
  dsimp only
  have k : (numR (numR (numR b false 4).2.1 (numR b false 4).2.2 4).2.1 (numR (numR b false 4).2.1 (numR b false 4).2.2 4).2.2 4).2.2 = true := by
    by_cases h4 : b.length < 4
    · exact numR_short _ _ _ (.inl (numR_short _ _ _ (.inl (numR_short _ _ _ (.inr h4)))))
    · rw [numR_ge b 4 (by omega)]
      dsimp only
      by_cases h8 : b.length < 8
      · exact numR_short _ _ _ (.inl (numR_short _ _ _ (.inr (by rw [List.length_drop]; omega))))
      · rw [numR_ge (b.drop 4) 4 (by rw [List.length_drop]; omega)]
        dsimp only
        exact numR_short _ _ _ (.inr (by rw [List.drop_drop, List.length_drop]; omega))
  rw [k]
  rfl
/-- What the slot tells, by the last record. -/
theorem jslot_last (D : Dk) (k ls : Nat) (lb : List UInt8) (lw : Nat) (hk : k + 1 < D.sure.length) (h : lastM D k = (ls, lb, lw)) :
    jslot D (k : Nat) = if ls = 0 then (1, 0, 0, true) else metaM lb := by
  obtain ⟨h1, h2, _⟩ := lastM_rec D k
  rw [h] at h1 h2
  have hr : D.right (k : Nat) = true := by unfold Dk.right; simp; omega
  unfold jslot loadM
  rw [if_pos hr, Int.toNat_natCast, ← h1, ← h2]
  dsimp only
  by_cases h0 : ls = 0
  · rw [if_pos h0, if_pos h0]; rfl
  · rw [if_neg h0, if_neg h0]; rfl
end Go.Proofs.YtcpbmempfeloaaaDoor
/- The document's journal: Open, where it is refused ahead of all reading. -/
namespace Go.Proofs.YtcpbmempfeloaaaDoor
open Go.RowKit
set_option linter.unusedVariables false
set_option linter.unusedSimpArgs false

set_option maxRecDepth 100000 in
theorem ropen_arg (w : World) (br : Nat) (l n : Int) (h : n < 1 ∨ 100 < n) :
    Calls Tryd.prog 24 #[.pointer (some ⟨br, 0, none⟩), .int .i64 l, .int .i64 n] w fun e w' => e = .returned (.tuple #[.pointer none, .int .i64 1]) ∧ w = w' := by
  by_cases h1 : n < 1
  · have h1' : decide (n < 1) = true := by simpa using h1
    clear h
    go_enter Tryd.func24, Tryd.ntmps24
    go_wp2
    go_ret2
    exact ⟨rfl, rfl⟩
  · have h1' : decide (n < 1) = false := by simpa using h1
    have h2 : 100 < n := by omega
    clear h
    go_enter Tryd.func24, Tryd.ntmps24
    go_wp2
    go_ret2
    exact ⟨rfl, rfl⟩
set_option maxRecDepth 100000 in
theorem ropen_sector (w : World) (br : Nat) (G : Nat → Prop) (E : Dk) (l n : Int) (hr : Rdk w br G E) (h1 : 1 ≤ n) (h2 : n ≤ 100) (hm5 : E.sure.length ≤ 512) (h : l < 0 ∨ (E.sure.length : Int) - 2 - n < l) :
    Calls Tryd.prog 24 #[.pointer (some ⟨br, 0, none⟩), .int .i64 l, .int .i64 n] w fun e w' => e = .returned (.tuple #[.pointer none, .int .i64 40]) ∧ w = w' := by
  have i1 : decide (n < 1) = false := by simp; omega
  have i2 : decide (100 < n) = false := by simp; omega
  have HL := Lib.hid (r_len w br G E hr)
  obtain ⟨m, hm⟩ : ∃ m, E.sure.length = m := ⟨_, rfl⟩
  rw [hm] at HL h hm5
  clear hm hr
  by_cases h0 : l < 0
  · have h0' : decide (l < 0) = true := by simpa using h0
    clear h
    go_enter Tryd.func24, Tryd.ntmps24
    go_wp2
    go_ret2
    exact ⟨rfl, rfl⟩
  · have h0' : decide (l < 0) = false := by simpa using h0
    by_cases h3 : (m : Int) < l
    · have h3' : decide ((m : Int) < l) = true := by simpa using h3
      clear h
      go_enter Tryd.func24, Tryd.ntmps24
      go_wp2_with fail
      (with_reducible refine HL.out.mono ?_)
      rintro e w1 ⟨rfl, rfl⟩
      go_wp2
      go_ret2
      exact ⟨rfl, rfl⟩
    · have h3' : decide ((m : Int) < l) = false := by simpa using h3
      have hw1 : IntKind.i64.wrap (l + 2) = l + 2 := IntWalk.i64_in _ (by omega)
      have hw2 : IntKind.i64.wrap (l + 2 + n) = l + 2 + n := IntWalk.i64_in _ (by omega)
      have h4 : (m : Int) < l + 2 + n := by omega
      clear h
      go_enter Tryd.func24, Tryd.ntmps24
      go_wp2_with fail
      (with_reducible refine HL.out.mono ?_)
      rintro e w1 ⟨rfl, rfl⟩
      go_wp2_with fail
      (with_reducible refine HL.out.mono ?_)
      rintro e w1 ⟨rfl, rfl⟩
      go_wp2
      go_ret2
      exact ⟨rfl, rfl⟩
end Go.Proofs.YtcpbmempfeloaaaDoor
/- The document's journal: Append. -/
namespace Go.Proofs.YtcpbmempfeloaaaDoor
open Go.RowKit
set_option linter.unusedVariables false
set_option linter.unusedSimpArgs false

theorem RecsU.single {W : World} {k e : Nat} {v : Value} {t : TypeId} {fz : Nat × Nat} (bs : List UInt8) (h : W.heap[k]? = some (.cells #[.int .u64 (e : Nat), v] t fz)) : RecsU (fun _ => True) W (.slice (some ⟨k, 0, none⟩) 1 1) [(e, v, bs)] :=
  ⟨_, 1, rfl, Nat.le_refl _, .inr ⟨k, 0, _, rfl, h, trivial, fun i hi => by
    have : i = 0 := by have : i < 1 := hi; omega
    subst this
    exact ⟨cell_mk h rfl, cell_mk h rfl⟩⟩⟩
theorem own_empty (W : World) (t : TypeId) {k : Nat} (hk : W.heap[k]? = some (.cells #[] t (0, 0))) : W.ownsRow 0 t 2 (.slice (some ⟨k, 0, none⟩) 0 0) 0 [] :=
  ⟨rfl, .inr ⟨k, 0, #[], rfl, Nat.zero_le _, hk, Nat.le_refl _, Nat.zero_le _, rfl, rfl⟩⟩
set_option maxRecDepth 100000 in
set_option maxHeartbeats 4000000 in
theorem rappend_calls (w : World) (bk br : Nat) (H G : Nat → Prop) (J : Jn) (E : Dk) (v : Value) (b : List UInt8) (h : RJ w bk br H J) (hr : Rdk w br G E) (hb : BytesAt (fun c _ => H c ∧ c ≠ br ∧ c ≠ bk) w v b) (hGk : ¬ G bk) (hq : E.pend.length < 1000000) :
    Calls Tryd.prog 25 #[.pointer (some ⟨bk, 0, none⟩), v] w fun e w' => e = .returned (.int .i64 (jappend J E b).1) ∧ Rdk w' br (fun c => G c ∨ w.heap.size ≤ c) (jappend J E b).2.2 ∧ RJ w' bk br (fun c => H c ∨ w.heap.size ≤ c) (jappend J E b).2.1 ∧ Fr (fun c _ => c ≠ br ∧ c ≠ bk) w w' := by
  obtain ⟨va, vc, rfl⟩ := hb.form
  obtain ⟨vh, T, h⟩ := h
  obtain ⟨loc, n, first, ep, low, HH⟩ := J
  have hwf := h.wf
  have n1 : 1 ≤ n := hwf.n1
  have n100 : n ≤ 100 := hwf.n100
  have hf : first < 4294967296 := hwf.f
  have he : ep < 4294967296 := hwf.e
  have hH : HH.length ≤ n := hwf.few
  have EJ : Hid (jappend ⟨loc, n, first, ep, low, HH⟩ E b = if 43 < b.length then (2, ⟨loc, n, first, ep, low, HH⟩, E) else if HH.length = n ∨ 4294967295 < first + HH.length then (42, ⟨loc, n, first, ep, low, HH⟩, E) else
    ((E.write ((loc + 2 + (first + HH.length) % n : Nat) : Int) (stampB (first + HH.length) ep b)).1, ⟨loc, n, first, ep, low, HH ++ [(ep, b)]⟩, (E.write ((loc + 2 + (first + HH.length) % n : Nat) : Int) (stampB (first + HH.length) ep b)).2)) := rfl
  have HL : Hid (T.length = HH.length) := h.len
  obtain ⟨ah, ch, rfl⟩ := h.row.form
  obtain ⟨hn, hhn⟩ : ∃ k, HH.length = k := ⟨_, rfl⟩
  have hTn : Hid (T.length = hn) := by show T.length = hn; rw [← hhn]; exact HL.out
  rw [hhn] at EJ hH
  have c2 := (h.reads w (Fr.refl _ _)).2.2.1
  have c3 := (h.reads w (Fr.refl _ _)).2.2.2.1
  have c6 := (h.reads w (Fr.refl _ _)).2.2.2.2.2.2
  rw [hTn.out] at c6
  have HJ := Lib.hid h
  have HR := Lib.hid hr
  have HB := Lib.hid hb
  have HQ := Lib.hid hq
  have SAME : Hid (∀ w', Fr (fun _ _ => True) w w' → Rdk w' br (fun c => G c ∨ w.heap.size ≤ c) E ∧ RJ w' bk br (fun c => H c ∨ w.heap.size ≤ c) ⟨loc, n, first, ep, low, HH⟩ ∧ Fr (fun c _ => c ≠ br ∧ c ≠ bk) w w') := fun w' f => ⟨(HR.out.tt f).mono fun c h => .inl h, (RJ.mono (H := H) ⟨_, _, HJ.out.fr f fun _ _ _ _ _ => trivial⟩ fun c _ h => .inl h), f.mono fun _ _ _ => trivial⟩
  clear h hr hb hq hwf hhn HL
  by_cases h43 : 43 < b.length
  · have h43' : (43 : Int) < b.length := by omega
    go_enter Tryd.func25, Tryd.ntmps25
    go_wp2
    go_ret
    rw [EJ.out, if_pos h43]
    exact ⟨rfl, SAME.out _ (Fr.refl _ _)⟩
  · have h43' : (b.length : Int) ≤ 43 := by omega
    have hw1 : IntKind.u64.wrap (hn : Int) = hn := by rw [IntKind.wrap_u64]; omega
    obtain ⟨sq, hsq⟩ : ∃ sq, first + hn = sq := ⟨_, rfl⟩
    rw [hsq] at EJ
    have hw2 : IntKind.u64.wrap ((first : Int) + hn) = (sq : Int) := by rw [IntKind.wrap_u64]; omega
    have HSQ : Hid (first + HH.length = sq) := by show first + HH.length = sq; rw [← hsq, ← hTn.out]; exact congrArg _ HJ.out.len.symm
    have hs6 : sq < 4294967296 + 100 := by omega
    have HHN : Hid (HH.length = hn) := by rw [← HJ.out.len]; exact hTn.out
    clear hsq
    go_enter Tryd.func25, Tryd.ntmps25
    go_wp2_with fail
    go_region
    clear hw1 hw2 c3
    by_cases hful : hn = n
    · have hful' : ((hn : Int) == n) = true := by simp; omega
      have HF := Lib.hid hful
      clear hful
      go_wp2_with fail
      go_region
      all_goals
        go_wp2
        go_ret
        rw [EJ.out, if_neg h43, if_pos (.inl HF.out)]
        exact ⟨rfl, SAME.out _ (Fr.refl _ _).drew.drew⟩
    · have hful' : ((hn : Int) == n) = false := by simp; omega
      have hlt : Hid (hn < n) := by show hn < n; omega
      by_cases hm : 4294967295 < sq
      · have hm' : (4294967295 : Int) < sq := by omega
        go_wp2_with fail
        go_region
        all_goals
          go_wp2
          go_ret
          rw [EJ.out, if_neg h43, if_pos (.inr hm)]
          exact ⟨rfl, SAME.out _ (Fr.refl _ _).drew.drew⟩
      · have hm' : (sq : Int) ≤ 4294967295 := by omega
        go_wp2_with fail
        go_region
        obtain ⟨wa, hwa⟩ : ∃ wa, w.drew.drew = wa := ⟨_, rfl⟩
        have FA : Hid (Fr (fun _ _ => True) w wa) := hwa ▸ (Fr.refl _ w).drew.drew
        rw [hwa]
        clear hwa c2 c6
        have hwr : IntKind.u32.wrap (sq : Int) = sq := by rw [IntKind.wrap_u32]; omega
        have hwe : IntKind.u32.wrap (ep : Int) = ep := by rw [IntKind.wrap_u32]; omega
        have c4 := (HJ.out.reads wa FA.out).2.2.2.2.1
        have ST : Hid (Calls Tryd.prog 68 #[.int .u32 (sq : Nat), .int .u32 (ep : Nat), .slice va b.length vc] wa fun e w' => (∃ a' cap', e = .returned (.tuple #[.slice a' 64 cap', .int .i64 0]) ∧ BytesAt (New wa.heap.size) w' (.slice a' 64 cap') (stampB sq ep b)) ∧ Fr (fun _ _ => True) wa w') := (stamp05_calls wa sq ep _ _ rfl rfl _ b (HB.out.tt FA.out) (by omega) he).mono fun e w' ⟨h1, h2⟩ => ⟨by
          rcases h1 with ⟨h1, _⟩ | ⟨_, h1⟩
          · exact absurd h1 h43
          · exact h1, h2⟩
        go_wp2_with fail
        (with_reducible refine ST.out.mono ?_)
        rintro e w2 ⟨⟨a2, cap2, rfl, hb2⟩, f2⟩
        have F2 := Lib.hid (FA.out.trans f2)
        have B2 := Lib.hid hb2
        clear f2 hb2 ST c4 hwr
        have J2 : Hid (RJAt w2 bk br H (.slice ah T.length ch) T ⟨loc, n, first, ep, low, HH⟩) := HJ.out.fr F2.out fun _ _ _ _ _ => trivial
        have c4 := (HJ.out.reads w2 F2.out).2.2.2.2.1
        have c6 := (HJ.out.reads w2 F2.out).2.2.2.2.2.2
        have hT : T.length ≤ 1000000 := by have := hTn.out; omega
        have hone := Lib.hid HJ.out.one
        have RU : Hid (∀ W, Fr (fun _ _ => True) w2 W → RecsU (fun _ => True) W (.slice ah T.length ch) T) := fun W f => (J2.out.row.fr f fun _ _ _ _ => trivial).mono fun _ _ _ => trivial
        have hbk2 : bk < w2.heap.size := lt_of_some J2.out.top
        obtain ⟨WA, hWA⟩ : ∃ W, w2.drew.alloc (.cells #[] 124 (0, 0)) = W := ⟨_, rfl⟩
        have FWA : Hid (Fr (fun _ _ => True) w2 WA) := hWA ▸ ((Fr.refl _ w2).drew).alloc _
        have SWA : Hid (Fr (fun c _ => c ≠ bk) w2 WA ∧ WA.cell? ⟨bk, 4, none⟩ = some (.int .u64 (ep : Nat))) := ⟨FWA.out.mono fun _ _ _ => trivial, (J2.out.reads _ FWA.out).2.2.2.2.1⟩
        have c6WA := (J2.out.reads _ FWA.out).2.2.2.2.2.2
        obtain ⟨WB, hWB⟩ : ∃ W, w2.drew.alloc (.cells #[.int .u64 (ep : Nat), .slice va b.length vc] 124 (0, 0)) = W := ⟨_, rfl⟩
        have FWB : Hid (Fr (fun _ _ => True) w2 WB) := hWB ▸ ((Fr.refl _ w2).drew).alloc _
        have SWB : Hid (Fr (fun c _ => c ≠ bk) w2 WB ∧ WB.cell? ⟨bk, 4, none⟩ = some (.int .u64 (ep : Nat))) := ⟨FWB.out.mono fun _ _ _ => trivial, (J2.out.reads _ FWB.out).2.2.2.2.1⟩
        have c6WB := (J2.out.reads _ FWB.out).2.2.2.2.2.2
        obtain ⟨WC, hWC⟩ : ∃ W, WA.alloc (.cells #[.int .u64 (ep : Nat), .slice va b.length vc] 124 (0, 0)) = W := ⟨_, rfl⟩
        have FWC : Hid (Fr (fun _ _ => True) w2 WC) := hWC ▸ (FWA.out).alloc _
        have SWC : Hid (Fr (fun c _ => c ≠ bk) w2 WC ∧ WC.cell? ⟨bk, 4, none⟩ = some (.int .u64 (ep : Nat))) := ⟨FWC.out.mono fun _ _ _ => trivial, (J2.out.reads _ FWC.out).2.2.2.2.1⟩
        have c6WC := (J2.out.reads _ FWC.out).2.2.2.2.2.2
        obtain ⟨WD, hWD⟩ : ∃ W, WB.alloc (.cells #[] 124 (0, 0)) = W := ⟨_, rfl⟩
        have FWD : Hid (Fr (fun _ _ => True) w2 WD) := hWD ▸ (FWB.out).alloc _
        have SWD : Hid (Fr (fun c _ => c ≠ bk) w2 WD ∧ WD.cell? ⟨bk, 4, none⟩ = some (.int .u64 (ep : Nat))) := ⟨FWD.out.mono fun _ _ _ => trivial, (J2.out.reads _ FWD.out).2.2.2.2.1⟩
        have c6WD := (J2.out.reads _ FWD.out).2.2.2.2.2.2
        have c4WA := SWA.out.2
        have c4WB := SWB.out.2
        have KA : Hid (WA.heap[w2.heap.size]? = some (.cells #[] 124 (0, 0))) := hWA ▸ heap_alloc_new w2.drew _
        have KC : Hid (WC.heap[w2.heap.size]? = some (.cells #[] 124 (0, 0))) := by
          have := ((Fr.refl (fun _ _ => True) WA).alloc (.cells #[.int .u64 (ep : Nat), .slice va b.length vc] 124 (0, 0))).keep _ _ KA.out trivial
          rw [hWC] at this; exact this
        have KCB : Hid (WC.heap[WA.heap.size]? = some (.cells #[.int .u64 (ep : Nat), .slice va b.length vc] 124 (0, 0))) := hWC ▸ heap_alloc_new WA _
        have KB : Hid (WB.heap[w2.heap.size]? = some (.cells #[.int .u64 (ep : Nat), .slice va b.length vc] 124 (0, 0))) := hWB ▸ heap_alloc_new w2.drew _
        have KDB : Hid (WD.heap[w2.heap.size]? = some (.cells #[.int .u64 (ep : Nat), .slice va b.length vc] 124 (0, 0))) := by
          have := ((Fr.refl (fun _ _ => True) WB).alloc (.cells #[] 124 (0, 0))).keep _ _ KB.out trivial
          rw [hWD] at this; exact this
        have KD : Hid (WD.heap[WB.heap.size]? = some (.cells #[] 124 (0, 0))) := hWD ▸ heap_alloc_new WB _
        have zA : Hid (w2.heap.size < WA.heap.size) := lt_of_some KA.out
        have zB : Hid (w2.heap.size < WB.heap.size) := lt_of_some KB.out
        have zC : Hid (WA.heap.size < WC.heap.size) := lt_of_some KCB.out
        have zD : Hid (w2.heap.size < WD.heap.size) := lt_of_some KDB.out
        have OA : Hid (WA.ownsRow 0 124 2 (.slice (some ⟨w2.heap.size, 0, none⟩) 0 0) 0 []) := own_empty _ _ KA.out
        have OC : Hid (WC.ownsRow 0 124 2 (.slice (some ⟨w2.heap.size, 0, none⟩) 0 0) 0 []) := own_empty _ _ KC.out
        have OD : Hid (WD.ownsRow 0 124 2 (.slice (some ⟨WB.heap.size, 0, none⟩) 0 0) 0 []) := own_empty _ _ KD.out
        have hbr : Hid (br < w2.heap.size) := by
          obtain ⟨_, _, _, _, _, hh⟩ := HR.out.tt F2.out
          exact lt_of_some hh.top
        have ONE : Hid (∀ x ∈ [((ep : Nat), Value.slice va b.length vc, b)], x.2.1.oneCell' = true) := fun x hx => by rw [List.mem_singleton.1 hx]; rfl
        have hT1 : T.length + 1 ≤ 1000000 := by have := hTn.out; omega
        have HBX := Lib.hid (HB.out.tt F2.out)
        have PX : Hid (ep < 4294967296 ∧ b.length ≤ 43) := ⟨he, by omega⟩
        have FEW : Hid (T.length < n) := by have := hTn.out; have := hlt.out; show T.length < n; omega
        go_upto_region 7 with fail
        go_cut [49, 54, 61, 62] (fun _ _ _ _ wx => RJ wx bk br (fun c => H c ∨ w2.heap.size ≤ c) ⟨loc, n, first, ep, low, HH ++ [(ep, b)]⟩ ∧ Fr (fun c _ => c ≠ bk) w2 wx)
        case first =>
          go_region_law (first
              | (refine step_append_ru WA rfl _ _ rfl _ [] rfl OA _ T (by first | rfl | (rw [← hTn.out]; rfl)) (Lib.hid (RU.out WA FWA.out)) hone T.length (Nat.zero_add _) hT ?_; intro g4 c4 W4 O4 G4 N4; have N4a : Hid (∀ k, (Value.slice g4 T.length c4).ownBlock = some k → w2.heap.size ≤ k) := N4.out.above (fun k e => by cases e; exact Nat.le_refl _) FWA.out.size; have F4 : Hid (Fr (fun _ _ => True) w2 W4) := FWA.out.grown_new G4.out (fun k e => by cases e; exact Nat.le_refl _); have S4 : Hid (Fr (fun c _ => c ≠ bk) w2 W4 ∧ W4.cell? ⟨bk, 4, none⟩ = some (.int .u64 (ep : Nat))) := ⟨F4.out.mono fun _ _ _ => trivial, (J2.out.reads _ F4.out).2.2.2.2.1⟩; have c44 := S4.out.2; obtain ⟨W5, hW5⟩ : ∃ W, W4.alloc (.cells #[.int .u64 (ep : Nat), .slice va b.length vc] 124 (0, 0)) = W := ⟨_, rfl⟩; have F5 : Hid (Fr (fun _ _ => True) w2 W5) := hW5 ▸ F4.out.alloc _; have S5 : Hid (Fr (fun c _ => c ≠ bk) w2 W5 ∧ W5.cell? ⟨bk, 4, none⟩ = some (.int .u64 (ep : Nat))) := ⟨F5.out.mono fun _ _ _ => trivial, (J2.out.reads _ F5.out).2.2.2.2.1⟩; have K4 : Hid (RecsU (fun _ => True) W5 (.slice (some ⟨W4.heap.size, 0, none⟩) 1 1) [((ep : Nat), Value.slice va b.length vc, b)]) := RecsU.single b (t := 124) (fz := (0, 0)) (hW5 ▸ heap_alloc_new W4 _); have O5 : Hid (W5.ownsRow 0 124 2 (.slice g4 T.length c4) T.length (cellsU T)) := ownsRow_fr O4.out (K := fun _ _ => True) (hW5 ▸ (Fr.refl _ W4).alloc _) fun _ _ _ _ => trivial; clear O4 G4 N4)
              | (refine step_append_ru W5 rfl _ _ rfl _ T rfl O5 _ [((ep : Nat), Value.slice va b.length vc, b)] rfl K4 ONE (T.length + 1) rfl hT1 ?_; intro g6 c6 W6 O6 G6 N6; have N6a : Hid (∀ k, (Value.slice g6 (T.length + 1) c6).ownBlock = some k → w2.heap.size ≤ k) := N6.out.above N4a.out F5.out.size; have F6 : Hid (Fr (fun _ _ => True) w2 W6) := F5.out.grown_new G6.out N4a.out; have S6 : Hid (Fr (fun c _ => c ≠ bk) w2 W6 ∧ W6.cell? ⟨bk, 4, none⟩ = some (.int .u64 (ep : Nat))) := ⟨F6.out.mono fun _ _ _ => trivial, (J2.out.reads _ F6.out).2.2.2.2.1⟩; obtain ⟨c66, z66, j7, f7⟩ := J2.out.put F6.out ((ep : Nat), Value.slice va b.length vc, b) O6.out N6a.out HBX.out hbr.out PX.out FEW.out; have J7 := Lib.hid j7; have F7 := Lib.hid f7; have c47 : Hid ((W6.setCell ⟨bk, 6, none⟩ (.slice g6 (T.length + 1) c6)).cell? ⟨bk, 4, none⟩ = some (.int .u64 (ep : Nat))) := cell_mk j7.top rfl; clear j7 f7 O6 G6 N6)
              | (refine step_append_ru W4 rfl _ _ rfl _ T rfl O5 _ [((ep : Nat), Value.slice va b.length vc, b)] rfl K4 ONE (T.length + 1) rfl hT1 ?_; intro g6 c6 W6 O6 G6 N6; have N6a : Hid (∀ k, (Value.slice g6 (T.length + 1) c6).ownBlock = some k → w2.heap.size ≤ k) := N6.out.above N4a.out F5.out.size; have F6 : Hid (Fr (fun _ _ => True) w2 W6) := F5.out.grown_new G6.out N4a.out; have S6 : Hid (Fr (fun c _ => c ≠ bk) w2 W6 ∧ W6.cell? ⟨bk, 4, none⟩ = some (.int .u64 (ep : Nat))) := ⟨F6.out.mono fun _ _ _ => trivial, (J2.out.reads _ F6.out).2.2.2.2.1⟩; obtain ⟨c66, z66, j7, f7⟩ := J2.out.put F6.out ((ep : Nat), Value.slice va b.length vc, b) O6.out N6a.out HBX.out hbr.out PX.out FEW.out; have J7 := Lib.hid j7; have F7 := Lib.hid f7; have c47 : Hid ((W6.setCell ⟨bk, 6, none⟩ (.slice g6 (T.length + 1) c6)).cell? ⟨bk, 4, none⟩ = some (.int .u64 (ep : Nat))) := cell_mk j7.top rfl; clear j7 f7 O6 G6 N6)
              | (refine step_append_ru WD rfl _ _ rfl _ [] rfl OD _ T (by first | rfl | (rw [← hTn.out]; rfl)) (Lib.hid (RU.out WD FWD.out)) hone T.length (Nat.zero_add _) hT ?_; intro g4 c4 W4 O4 G4 N4; have N4a : Hid (∀ k, (Value.slice g4 T.length c4).ownBlock = some k → w2.heap.size ≤ k) := N4.out.above (fun k e => by cases e; exact Nat.le_of_lt zB.out) FWD.out.size; have F4 : Hid (Fr (fun _ _ => True) w2 W4) := FWD.out.grown_new G4.out (fun k e => by cases e; exact Nat.le_of_lt zB.out); have S4 : Hid (Fr (fun c _ => c ≠ bk) w2 W4 ∧ W4.cell? ⟨bk, 4, none⟩ = some (.int .u64 (ep : Nat))) := ⟨F4.out.mono fun _ _ _ => trivial, (J2.out.reads _ F4.out).2.2.2.2.1⟩; have c44 := S4.out.2; have K4 : Hid (RecsU (fun _ => True) W4 (.slice (some ⟨w2.heap.size, 0, none⟩) 1 1) [((ep : Nat), Value.slice va b.length vc, b)]) := RecsU.single b (t := 124) (fz := (0, 0)) (by rw [G4.out.block _ zD.out (fun e => by have e2 : w2.heap.size = WB.heap.size := Option.some.inj e; have := zB.out; omega)]; exact KDB.out); have O5 : Hid (W4.ownsRow 0 124 2 (.slice g4 T.length c4) T.length (cellsU T)) := O4.out; have F5 := F4; clear O4 G4 N4)
              | (refine step_append_ru WC rfl _ _ rfl _ [] rfl OC _ T (by first | rfl | (rw [← hTn.out]; rfl)) (Lib.hid (RU.out WC FWC.out)) hone T.length (Nat.zero_add _) hT ?_; intro g4 c4 W4 O4 G4 N4; have N4a : Hid (∀ k, (Value.slice g4 T.length c4).ownBlock = some k → w2.heap.size ≤ k) := N4.out.above (fun k e => by cases e; exact Nat.le_refl _) FWC.out.size; have F4 : Hid (Fr (fun _ _ => True) w2 W4) := FWC.out.grown_new G4.out (fun k e => by cases e; exact Nat.le_refl _); have S4 : Hid (Fr (fun c _ => c ≠ bk) w2 W4 ∧ W4.cell? ⟨bk, 4, none⟩ = some (.int .u64 (ep : Nat))) := ⟨F4.out.mono fun _ _ _ => trivial, (J2.out.reads _ F4.out).2.2.2.2.1⟩; have c44 := S4.out.2; have K4 : Hid (RecsU (fun _ => True) W4 (.slice (some ⟨WA.heap.size, 0, none⟩) 1 1) [((ep : Nat), Value.slice va b.length vc, b)]) := RecsU.single b (t := 124) (fz := (0, 0)) (by rw [G4.out.block _ zC.out (fun e => by have e2 : WA.heap.size = w2.heap.size := Option.some.inj e; have := zA.out; omega)]; exact KCB.out); have O5 : Hid (W4.ownsRow 0 124 2 (.slice g4 T.length c4) T.length (cellsU T)) := O4.out; have F5 := F4; clear O4 G4 N4))
          all_goals
            go_wp2_with fail
            go_meet
            case rel => exact ⟨⟨_, _, J7.out⟩, F7.out⟩
        case rest =>
          obtain ⟨jx, fx⟩ := hcut
          have JX := Lib.hid jx
          have FX := Lib.hid fx
          have BX : Hid (BytesAt (New wa.heap.size) wc (.slice a2 64 cap2) (stampB sq ep b)) := by
            have h1 : BytesAt (fun c o => New wa.heap.size c o ∧ c ≠ bk) w2 (.slice a2 64 cap2) (stampB sq ep b) := B2.out.mono fun c o ho hc => ⟨hc, fun e => by
              have := FA.out.size
              have := lt_of_some HJ.out.top
              have := hc.1
              omega⟩
            exact (h1.fr (fx.mono fun _ _ h => h.2)).mono fun _ _ _ h => h.1
          have DX : Hid (Rdk wc br G E) := (HR.out.tt F2.out).fr fx fun c _ _ hc e => hGk (e ▸ hc)
          obtain ⟨sec, hsec⟩ : ∃ sec, loc + 2 + sq % n = sec := ⟨_, rfl⟩
          rw [hsec] at EJ
          have SX : Hid (∀ W, Fr (fun _ _ => True) wc W → Calls Tryd.prog 65 #[.pointer (some ⟨bk, 0, none⟩), .int .u64 (sq : Nat)] W fun e w' => e = .returned (.int .i64 (sec : Nat)) ∧ Fr (fun _ _ => True) W w') := fun W f => by
            have := place_calls W bk br _ _ sq _ rfl (JX.out.tt f) (by omega)
            unfold Jn.sec at this
            rw [hsec] at this
            exact this
          obtain ⟨c8, E8, h8⟩ : ∃ c8 E8, E.write (sec : Nat) (stampB sq ep b) = (c8, E8) := ⟨_, _, rfl⟩
          rw [h8] at EJ
          have WX : Hid (∀ W, Fr (fun _ _ => True) wc W → Calls Tryd.prog 69 #[.pointer (some ⟨br, 0, none⟩), .int .i64 (sec : Nat), .slice a2 64 cap2] W fun e w' => e = .returned (.int .i64 c8) ∧ Rdk w' br (fun c => G c ∨ W.heap.size ≤ c) E8 ∧ Fr (fun c _ => c ≠ br) W w') := fun W f => by
            have := r_write W br G E (sec : Nat) _ _ (DX.out.tt f) (BX.out.tt f) (fun c o _ hc e => by
              have := FA.out.size
              have := hc.1
              obtain ⟨_, _, _, _, _, hh⟩ := HR.out
              have := lt_of_some hh.top
              omega) HQ.out
            rw [h8] at this
            exact this
          have C0 : Hid (∀ W, Fr (fun c _ => c ≠ br) wc W → W.cell? ⟨bk, 0, none⟩ = some (.pointer (some ⟨br, 0, none⟩))) := fun W f => by
            obtain ⟨vh, T, hj⟩ := JX.out
            exact cell_mk (f.keep _ _ hj.top hj.gb.2) rfl
          have S0 : Hid (Fr (fun c _ => c ≠ br) wc wc.drew) := (Fr.refl _ _).drew
          clear jx fx hsec h8 c4 c6
          go_wp2_with fail
          go_region_held3 (fun W => W.cell? ⟨bk, 0, none⟩ = some (.pointer (some ⟨br, 0, none⟩))) (first | exact C0.out _ S0.out | exact C0.out _ S9.out | exact C0.out _ S10.out)
            (first
              | (go_at_call 65; (with_reducible refine (SX.out _ (Fr.refl _ _).drew).mono ?_); rintro e w9 ⟨rfl, f9⟩; have F9 : Hid (Fr (fun _ _ => True) wc w9) := (Fr.refl _ wc).drew.trans f9; have S9 : Hid (Fr (fun c _ => c ≠ br) wc w9) := F9.out.mono fun _ _ _ => trivial; clear f9)
              | (go_at_call 69; (with_reducible refine (WX.out _ F9.out).mono ?_); rintro e w10 ⟨rfl, d10, f10⟩; have D10 := Lib.hid d10; have F10 := Lib.hid f10; have S10 := Lib.hid (S9.out.trans f10); clear d10 f10))
          all_goals
            go_wp2
            go_ret
            rw [EJ.out, if_neg h43, if_neg (fun h => by
              rcases h with h | h
              · exact hful h
              · exact hm h)]
            have z2 : w.heap.size ≤ w2.heap.size := F2.out.size
            have z9 : w.heap.size ≤ w9.heap.size := Nat.le_trans z2 (Nat.le_trans FX.out.size F9.out.size)
            refine ⟨rfl, D10.out.mono fun c h => ?_, (((JX.out.tt F9.out).fr F10.out fun _ _ _ _ h => h).mono fun c _ h => ?_), ?_⟩
            · rcases h with h | h
              · exact .inl h
              · exact .inr (Nat.le_trans z9 h)
            · rcases h with h | h
              · exact .inl h
              · exact .inr (Nat.le_trans z2 h)
            · exact (((F2.out.mono fun _ _ _ => trivial).trans (FX.out.mono fun c _ h => h.2)).trans (F9.out.mono fun _ _ _ => trivial)).trans (F10.out.mono fun c _ h => h.1)
end Go.Proofs.YtcpbmempfeloaaaDoor
