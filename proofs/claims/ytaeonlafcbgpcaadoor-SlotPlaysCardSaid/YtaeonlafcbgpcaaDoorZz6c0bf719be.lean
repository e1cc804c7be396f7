/- Texts of the proofs, part 13: what the functions that they reach do, walked; no conditions beyond those that each states. -/
import Derived.Test.YtaeonlafcbgpcaaDoorZz9ce37be82b
set_option linter.unusedVariables false
set_option linter.unusedSimpArgs false
/- Law 5: same; SlotPlays, walked. -/
namespace Go.Proofs.YtaeonlafcbgpcaaDoor
open Go.RowKit
set_option linter.unusedVariables false

theorem read_any (w : World) (bd : Nat) (F : Nat → Prop) (D : Dk) (i : Int) (h : Dsk w bd F D) (b : List UInt8) (c : Int) (hr : readM D i = (b, c)) :
    Calls Tryd.prog 59 #[.pointer (some ⟨bd, 0, none⟩), .int .i64 i] w fun e w' => (∃ a cap, e = .returned (.tuple #[.slice a b.length cap, .int .i64 c]) ∧ BytesAt (New w.heap.size) w' (.slice a b.length cap) b) ∧ Fr (fun _ _ => True) w w' := by
  unfold readM at hr
  by_cases hi : 0 ≤ i ∧ i < D.sure.length
  · rw [if_pos hi] at hr
    have hk : i.toNat < D.seen.length := by have := h.wf.len; omega
    have e1 : D.seen.getD i.toNat [] = D.seen[i.toNat] := by rw [List.getD_eq_getElem?_getD, List.getElem?_eq_getElem hk]; rfl
    rw [e1] at hr
    have h64 := h.wf.s64 _ (List.getElem_mem hk)
    cases hr
    refine (read_in w bd F D i.toNat i (by omega) h hk).mono fun e w' ⟨⟨a, cap, he, hb⟩, hf⟩ => ⟨⟨a, cap, ?_, ?_⟩, hf⟩
    · rw [h64]; exact he
    · rw [h64]; exact hb
  · rw [if_neg hi] at hr
    cases hr
    exact (read_out w bd F D i h hi).mono fun e w' ⟨he, hw⟩ => ⟨⟨none, 0, he, BytesAt.nil _ _⟩, hw ▸ Fr.refl _ _⟩
theorem readM_len {D : Dk} (h : D.ok) {i : Int} {b : List UInt8} {c : Int} (hr : readM D i = (b, c)) : b.length ≤ 64 := by
  unfold readM at hr
  split at hr
  · cases hr
    rename_i hi
    have hk : i.toNat < D.seen.length := by have := h.len; omega
    rw [getD_64 h.s64 hk]; exact Nat.le_refl _
  · cases hr; decide

set_option maxRecDepth 100000 in
set_option maxHeartbeats 1000000 in
theorem same_disks (n : Nat) (w : World) (bd br : Nat) (D : Dk) (h : Two n w bd br D D) :
    Calls Tryd.prog 29 #[.pointer (some ⟨bd, 0, none⟩), .pointer (some ⟨br, 0, none⟩)] w fun e w' => e = .returned (.bool true) ∧ Fr (fun _ _ => True) w w' := by
  obtain ⟨F, G, hd, hr, _⟩ := h
  have DD := Lib.hid hd
  have RR := Lib.hid hr
  have HOK := Lib.hid hr.gd.ok
  clear hd hr
  go_enter Tryd.func29, Tryd.ntmps29
  go_wp2_with fail
  (with_reducible refine (pending_calls w bd _ D DD.out).mono ?_)
  rintro e w1 ⟨rfl, rfl⟩
  go_wp2
  go_loopw [6] (fun i wr => ∃ j : Nat, j ≤ 8 ∧ i = .int .i64 j ∧ Hid (Fr (fun _ _ => True) w wr)) (fun i _ => 8 - (intOf i).toNat)
  case atStart => exact ⟨0, Nat.zero_le _, rfl, Fr.refl _ _⟩
  case round =>
    obtain ⟨j, hj, rfl, FJ⟩ := hrel
    by_cases hlt : j < 8
    · obtain ⟨b, c, hrd⟩ : ∃ b c, readM D j = (b, c) := ⟨_, _, rfl⟩
      have HRD := Lib.hid hrd
      have hbl := readM_len HOK.out hrd
      clear hrd
      have hltI : (j : Int) < 8 := by omega
      go_wp2_with fail
      (with_reducible refine (read_any wr bd _ D _ (DD.out.tt FJ.out) _ _ HRD.out).mono ?_)
      rintro e w2 ⟨⟨a2, c2, rfl, b2⟩, f2⟩
      have F2 := Lib.hid (FJ.out.trans f2)
      have B2 := Lib.hid b2
      clear b2 f2
      go_wp2_with fail
      (with_reducible refine (r_read w2 br _ D _ (RR.out.tt F2.out) _ _ HRD.out).mono ?_)
      rintro e w3 ⟨⟨a3, c3, rfl, b3⟩, rfl⟩
      have SM := same_calls w2 _ _ b b B2.out b3 (by omega)
      rw [decide_eq_true rfl] at SM
      have SM := Lib.hid SM
      clear b3
      go_wp2_with fail
      (with_reducible refine SM.out.mono ?_)
      rintro e w4 ⟨rfl, k4, hw4⟩
      have F4 : Hid (Fr (fun _ _ => True) w w4) := by rw [hw4]; exact F2.out.drewN k4
      clear hw4
      go_wp2
      go_roundw
      case rel => exact ⟨j + 1, by omega, by go_num, F4⟩
      case measure => simp [intOf]; omega
    · have hge : (8 : Int) ≤ j := by omega
      obtain ⟨vs, vp, T, fused, left, rat⟩ := RR.out.tt FJ.out
      obtain ⟨ap, cp, rfl⟩ := own_form rat.pend
      have c1 := cell_mk (i := 1) rat.top rfl
      have hT : D.pend.length = T.length := by rw [rat.tr, List.length_map]
      rw [← hT] at c1
      clear rat hT
      go_wp2
      go_ret
      exact ⟨rfl, FJ.out⟩

set_option maxRecDepth 100000 in
theorem plays_long (W : World) (a0 : Option Addr) (len0 cap0 : Nat) (i : Int) (ht : TabOK W) (hl : 30 < len0) :
    Calls Tryd.prog 8 #[.slice a0 len0 cap0, .int .i64 i] W fun e w' => e = .returned (.bool true) ∧ Fr (fun _ _ => True) W w' := by
  have AW := Lib.hid (awake_calls W ht)
  have hI : (30 : Int) < len0 := by omega
  clear ht
  go_enter Tryd.func8, Tryd.ntmps8
  go_wp2_with fail
  (with_reducible refine AW.out.mono ?_)
  rintro e w1 ⟨rfl, f1⟩
  have F1 := Lib.hid f1
  clear f1
  go_wp2_with fail
  (with_reducible refine (new_calls _ 8 _ (by decide) (by decide) (by decide)).mono ?_)
  rintro e w2 ⟨⟨bd, rfl, d2⟩, f2⟩
  have F2 := Lib.hid (F1.out.trans f2)
  clear d2 f2
  go_wp2_with fail
  (with_reducible refine (r_new _ 8 _ (by decide) (by decide) (by decide)).mono ?_)
  rintro e w3 ⟨⟨br, rfl, r3⟩, f3⟩
  have F3 := Lib.hid (F2.out.trans f3)
  clear r3 f3
  go_wp2
  go_ret
  exact ⟨rfl, F3.out⟩

set_option maxRecDepth 100000 in
set_option maxHeartbeats 2000000 in
theorem plays_main (W : World) (a : Option Addr) (len cap : Nat) (i : Int) (l : List OpV) (ho : OpsAt W.heap.size W (.slice a len cap) l) (ht : TabOK W) (hl : len ≤ 30) :
    Calls Tryd.prog 8 #[.slice a len cap, .int .i64 i] W fun e w' => e = .returned (.bool true) ∧ Fr (fun _ _ => True) W w' := by
  have AW := Lib.hid (awake_calls W ht)
  have h00 : 0 < W.heap.size := by have := cell_lt (ht 0 (by decide)); simpa using this
  have HT0 := Lib.hid ht
  have HO0 := Lib.hid ho
  have HLN := Lib.hid ho.len
  have hI : (len : Int) ≤ 30 := by omega
  clear ht ho
  go_enter Tryd.func8, Tryd.ntmps8
  go_wp2_with fail
  (with_reducible refine AW.out.mono ?_)
  rintro e w ⟨rfl, f0⟩
  have F0 := Lib.hid f0
  have s0 : W.heap.size ≤ w.heap.size := f0.size
  have h0 : 0 < w.heap.size := by omega
  have HT := Lib.hid (HT0.out.tt f0)
  have HO := Lib.hid ((HO0.out.fr (f0.mono fun _ _ _ => trivial)).mono s0)
  clear f0 HT0 HO0 AW
  go_wp2_with fail
  (with_reducible refine (new_calls _ 8 _ (by decide) (by decide) (by decide)).mono ?_)
  rintro e w1 ⟨⟨bd, rfl, d1⟩, f1⟩
  have D1 := Lib.hid d1.inside
  have F1 := Lib.hid f1
  clear d1 f1
  go_wp2_with fail
  (with_reducible refine (r_new _ 8 _ (by decide) (by decide) (by decide)).mono ?_)
  rintro e w2 ⟨⟨br, rfl, r2⟩, f2⟩
  have F2 : Hid (Fr (fun c _ => c < w.heap.size) w w2) := (F1.out.trans f2).mono fun _ _ _ => trivial
  have T2 : Hid (Two w.heap.size w2 bd br (Dk.new 8) (Dk.new 8)) := by
    have s1 := F1.out.size
    have s2 := f2.size
    exact ⟨_, _, D1.out.tt f2, r2.inside, fun c h => ⟨h.1, by have := h.2; omega⟩, fun c h => ⟨by have := h.1; omega, h.2⟩, fun c h1 h2 => by have := h1.2; have := h2.1; omega⟩
  clear D1 F1 r2 f2
  go_wp2
  go_loopw [10] (fun i wr => ∃ j : Nat, j ≤ len ∧ i = .int .i64 j ∧ Hid (Two w.heap.size wr bd br (madeD (l.take j)) (madeD (l.take j))) ∧ Hid (Fr (fun c _ => c < w.heap.size) w wr)) (fun i _ => len - (intOf i).toNat)
  case atStart => exact ⟨0, Nat.zero_le _, rfl, T2, F2⟩
  case round =>
    obtain ⟨j, hj, rfl, TJ, FJ⟩ := hrel
    by_cases hlt : j < len
    · have hlt' : j < l.length := by have := HLN.out; omega
      obtain ⟨b, off, rfl, hop⟩ : ∃ b off, a = some ⟨b, off, none⟩ ∧ OpAt w.heap.size w b off j l[j] := by
        obtain ⟨_, _, e, h⟩ := HO.out
        cases e
        rcases h with h | ⟨b, off, ha, h⟩
        · rw [h] at hlt'; simp at hlt'
        · exact ⟨b, off, ha, h j hlt'⟩
      obtain ⟨o, hoj⟩ : ∃ o, l[j] = o := ⟨_, rfl⟩
      have hm := madeD_snoc l j hlt'
      rw [hoj] at hop hm
      obtain ⟨e0, e1, e2, e3, e4, e5, hb, hlies⟩ := hop.fr FJ.out
      have hltI : (j : Int) < len := by omega
      have oc := one_calls _ wr bd br (madeD (l.take j)) o TJ.out hlies (fun i hi => FJ.out.cell (fun _ _ => h0) (HT.out i hi)) h0 (by have := madeD_pend l j (by omega); omega)
      unfold OneSays at oc
      rw [← hm] at oc
      have OC := Lib.hid oc
      obtain ⟨D, hDD⟩ : ∃ D, madeD (l.take (j + 1)) = D := ⟨_, rfl⟩
      rw [hDD] at OC
      have HDD := Lib.hid hDD
      obtain ⟨lb, ln, lc, hld⟩ : ∃ lb ln lc, loadM D i = (lb, ln, lc) := ⟨_, _, _, rfl⟩
      have HLD := Lib.hid hld
      have hlb := load_len hld
      clear hop hoj hm hlies hlt' oc hld hDD
      go_wp2_with fail
      (with_reducible refine OC.out.mono ?_)
      rintro e w3 ⟨rfl, t3, f3⟩
      have T3 := Lib.hid t3
      have F3 := Lib.hid (FJ.out.trans f3)
      clear t3 f3 e0 e1 e2 e3 e4 e5 OC
      go_wp2_with fail
      (with_reducible refine (same_disks _ w3 bd br D T3.out).mono ?_)
      rintro e w4 ⟨rfl, f4⟩
      have T4 := Lib.hid (T3.out.tt f4)
      have F4 := Lib.hid (F3.out.tt f4)
      clear f4 T3
      obtain ⟨F, G, hd, hr, _⟩ := T4.out
      have LC := Lib.hid (load_calls w4 bd _ D i hd (fun i hi => F4.out.cell (fun _ _ => h0) (HT.out i hi)) _ _ _ HLD.out)
      have HR := Lib.hid hr
      clear hd hr
      go_wp2_with fail
      (with_reducible refine LC.out.mono ?_)
      rintro e w5 ⟨⟨a5, c5, rfl, b5⟩, f5⟩
      have B5 := Lib.hid b5
      have T5 := Lib.hid (T4.out.tt f5)
      have F5 := Lib.hid (F4.out.tt f5)
      have RC := Lib.hid (r_load w5 br _ D i (HR.out.tt f5) _ _ _ HLD.out)
      clear b5 f5 T4 LC HR
      go_wp2_with fail
      (with_reducible refine RC.out.mono ?_)
      rintro e w6 ⟨⟨a6, c6, rfl, b6⟩, f6⟩
      have T6 := Lib.hid (T5.out.tt f6)
      have F6 := Lib.hid (F5.out.tt f6)
      have SM := same_calls w6 _ _ lb lb (B5.out.tt f6) b6 (by omega)
      rw [decide_eq_true rfl] at SM
      have SM := Lib.hid SM
      clear b6 f6 T5 B5 RC
      go_wp2_with fail
      (with_reducible refine SM.out.mono ?_)
      rintro e w7 ⟨rfl, k7, hw7⟩
      have g7 : Fr (fun _ _ => True) w6 w7 := by rw [hw7]; exact (Fr.refl _ _).drewN k7
      have T7 := Lib.hid (T6.out.tt g7)
      have F7 := Lib.hid (F6.out.tt g7)
      clear hw7 g7
      go_wp2
      go_roundw
      case rel => exact ⟨j + 1, by omega, by go_num, by rw [HDD.out]; exact T7, F7⟩
      case measure => simp [intOf]; omega
    · have hge : (len : Int) ≤ j := by omega
      go_wp2
      go_ret
      exact ⟨rfl, F0.out.trans (Fr.within (FJ.out.mono fun _ _ h => h.2))⟩

theorem plays_walk (W : World) (a0 : Option Addr) (len0 cap0 : Nat) (i : Int) (r0 : Rd Tryd.prog W 36 [.slice a0 len0 cap0]) (ht : TabOK W) :
    Calls Tryd.prog 8 #[.slice a0 len0 cap0, .int .i64 i] W fun e w' => e = .returned (.bool true) ∧ Below W.heap.size W w' := by
  obtain ⟨l, ho, hlm⟩ := ops_of r0
  by_cases hl : 30 < len0
  · exact (plays_long W a0 len0 cap0 i ht hl).mono fun e w' ⟨he, hf⟩ => ⟨he, hf.bel⟩
  · exact (plays_main W a0 len0 cap0 i l ho ht (by omega)).mono fun e w' ⟨he, hf⟩ => ⟨he, hf.bel⟩
end Go.Proofs.YtaeonlafcbgpcaaDoor
