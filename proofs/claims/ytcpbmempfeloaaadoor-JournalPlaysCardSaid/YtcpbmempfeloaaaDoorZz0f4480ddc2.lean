/- Texts of the proofs, part 34: what the functions that they reach do, walked; no conditions beyond those that each states. -/
import Derived.Deep.CutBlock
import Derived.Test.YtcpbmempfeloaaaDoorZz9837dcd02a
set_option linter.unusedVariables false
set_option linter.unusedSimpArgs false
/- Law 6: JournalPlays, walked (printed by plays06.py). -/
namespace Go.Proofs.YtcpbmempfeloaaaDoor
open Go.RowKit
set_option linter.unusedVariables false
set_option linter.unusedSimpArgs false

theorem JI.facts {z n q : Nat} {J : Jn} {D : Dk} {L : List (Nat × List UInt8)} {bs : List (List UInt8)} (h : JI z n q J D L bs) (hq : q < 250) : D.pend.length ≤ 20 ∧ J.first + J.held.length < 4294967296 ∧ J.epoch < 4294967296 ∧ J.first + J.n < 4294967296 := by
  have h1 := h.heldLen
  have h2 := h.nq
  have h3 := h.few
  have h4 := h.n17
  have h5 := h.eq
  have h6 := h.jn
  refine ⟨?_, by omega, by omega, by omega⟩
  rw [h.pend, pendOf_length]
  omega
theorem jopen_refused {D : Dk} {z m : Int} (hD : D.sure.length = 20) (h : m < 1 ∨ 100 < m) : jopen D z m = (1, none, D) := by unfold jopen; rw [if_pos h]
theorem jopen_refused2 {D : Dk} {z m : Int} (hD : D.sure.length = 20) (h : ¬ (m < 1 ∨ 100 < m)) (h2 : z < 0 ∨ (20 : Int) - 2 - m < z) : jopen D z m = (40, none, D) := by unfold jopen; rw [if_neg h, if_pos (by rw [hD]; exact h2)]

set_option maxRecDepth 100000 in
theorem plays06_long (W : World) (z m : Int) (a : Option Addr) (len cap : Nat) (ht : TabOK W) (hl : 30 < len) :
    Calls Tryd.prog 7 #[.int .i64 z, .int .i64 m, .slice a len cap] W fun e w' => e = .returned (.bool true) ∧ Fr (fun _ _ => True) W w' := by
  have AW := Lib.hid (awake06 W ht)
  have hI : (30 : Int) < len := by omega
  clear ht
  go_enter Tryd.func7, Tryd.ntmps7
  go_wp2_with fail
  (with_reducible refine AW.out.mono ?_)
  rintro e w1 ⟨rfl, f1⟩
  have F1 := Lib.hid f1
  clear f1
  go_wp2_with fail
  (with_reducible refine (new_calls _ 20 _ (by decide) (by decide) (by decide)).mono ?_)
  rintro e w2 ⟨⟨bd, rfl, d2⟩, f2⟩
  have F2 := Lib.hid (F1.out.trans f2)
  clear d2 f2
  go_wp2_with fail
  (with_reducible refine (r_new _ 20 _ (by decide) (by decide) (by decide)).mono ?_)
  rintro e w3 ⟨⟨br, rfl, r3⟩, f3⟩
  have F3 := Lib.hid (F2.out.trans f3)
  clear r3 f3
  go_wp2
  go_ret
  exact ⟨rfl, F3.out⟩

set_option maxRecDepth 100000 in
set_option maxHeartbeats 1000000 in
theorem plays06_bad (W : World) (z m : Int) (a : Option Addr) (len cap : Nat) (ht : TabOK W) (hl : len ≤ 30) (hb : (m < 1 ∨ 100 < m) ∨ (z < 0 ∨ (20 : Int) - 2 - m < z)) :
    Calls Tryd.prog 7 #[.int .i64 z, .int .i64 m, .slice a len cap] W fun e w' => e = .returned (.bool true) ∧ Fr (fun _ _ => True) W w' := by
  have HB := Lib.hid hb
  clear hb
  have AW := Lib.hid (awake06 W ht)
  have h00 : 0 < W.heap.size := by have := cell_lt (ht 0 (by decide)); simpa using this
  have HT0 := Lib.hid ht
  have hI : (len : Int) ≤ 30 := by omega
  clear ht
  go_enter Tryd.func7, Tryd.ntmps7
  go_wp2_with fail
  (with_reducible refine AW.out.mono ?_)
  rintro e w ⟨rfl, f0⟩
  have F0 := Lib.hid f0
  have s0 : W.heap.size ≤ w.heap.size := f0.size
  have h0 : 0 < w.heap.size := by omega
  have HT := Lib.hid (HT0.out.tt f0)
  clear f0 HT0 AW
  go_wp2_with fail
  (with_reducible refine (new_calls _ 20 _ (by decide) (by decide) (by decide)).mono ?_)
  rintro e w1 ⟨⟨bd, rfl, d1⟩, f1⟩
  have D1 := Lib.hid d1.inside
  have F1 := Lib.hid f1
  clear d1 f1
  go_wp2_with fail
  (with_reducible refine (r_new _ 20 _ (by decide) (by decide) (by decide)).mono ?_)
  rintro e w2 ⟨⟨br, rfl, r2⟩, f2⟩
  have F2 : Hid (Fr (fun c _ => c < w.heap.size) w w2) := (F1.out.trans f2).mono fun _ _ _ => trivial
  have B2 : Hid (Bd w.heap.size (fun c => w.heap.size ≤ c ∧ c < w1.heap.size) w2 bd br (Dk.new 20) (Dk.new 20)) :=
    ⟨⟨⟨_, D1.out.tt f2, fun c h => ⟨⟨h.1, h.2⟩, Nat.lt_of_lt_of_le h.2 f2.size⟩⟩, fun c h => h.1, fun c h => Nat.lt_of_lt_of_le h.2 f2.size⟩, r2.mono fun c h hp => by have h : w1.heap.size ≤ c := h; omega, by have h1 := F1.out.size; have h : w1.heap.size ≤ br := r2.gbr.1; omega⟩
  clear D1 F1 r2 f2
  have HT2 := Lib.hid (fun i hi => F2.out.cell (fun _ _ => h0) (HT.out i hi) : TabOK w2)
  have OC := Lib.hid (dd_open w2 bd (Dk.new 20) z m B2.out.sd.dd HT2.out (by show (0 : Nat) < 1000000; decide))
  obtain ⟨c, hc, hro⟩ : ∃ c, jopen (Dk.new 20) z m = (c, none, Dk.new 20) ∧ ∀ (w : World) (G : Nat → Prop), Rdk w br G (Dk.new 20) → Calls Tryd.prog 24 #[.pointer (some ⟨br, 0, none⟩), .int .i64 z, .int .i64 m] w fun e w' => e = .returned (.tuple #[.pointer none, .int .i64 c]) ∧ w = w' := by
    by_cases hm : m < 1 ∨ 100 < m
    · exact ⟨1, jopen_refused rfl hm, fun w G h => ropen_arg w br z m hm⟩
    · have hz : z < 0 ∨ (20 : Int) - 2 - m < z := HB.out.resolve_left hm
      exact ⟨40, jopen_refused2 rfl hm hz, fun w G h => ropen_sector w br G (Dk.new 20) z m h (by omega) (by omega) (by decide) hz⟩
  have HC := Lib.hid hc
  have HRO := Lib.hid hro
  clear hc hro
  go_wp2_with fail
  (with_reducible refine OC.out.mono ?_)
  rintro e w3 ⟨f3, ho⟩
  rw [HC.out] at ho
  rcases ho with ⟨_, rfl, _⟩ | ⟨J, bj, a, cp, V, Q, R, h1, _⟩
  case inr => cases h1
  have F3 : Hid (Fr (fun c _ => c < w.heap.size) w w3) := F2.out.trans (f3.mono fun c _ h hp => by have := B2.out.sd.lo c hp; omega)
  have R3 := Lib.hid (HRO.out w3 _ (B2.out.dk.inside.fr f3 fun c _ _ hc => hc.1))
  clear f3 OC
  go_wp2_with fail
  (with_reducible refine R3.out.mono ?_)
  rintro e w4 ⟨rfl, rfl⟩
  go_wp2
  go_ret
  exact ⟨by simp, F0.out.trans (Fr.within (F3.out.mono fun _ _ h => h.2))⟩

set_option maxRecDepth 100000 in
set_option maxHeartbeats 4000000 in
theorem plays06_main (W : World) (zn mn : Nat) (a : Option Addr) (len cap : Nat) (l : List OpJ) (ho : OpsAt W.heap.size W (.slice a len cap) l) (ht : TabOK W) (hl : len ≤ 30) (h1m : 1 ≤ mn) (hzm : zn + 2 + mn ≤ 20) :
    Calls Tryd.prog 7 #[.int .i64 (zn : Nat), .int .i64 (mn : Nat), .slice a len cap] W fun e w' => e = .returned (.bool true) ∧ Fr (fun _ _ => True) W w' := by
  have HO0 := Lib.hid ho
  have HLN := Lib.hid ho.len
  clear ho
  obtain ⟨z, hz⟩ : ∃ z : Int, (zn : Int) = z := ⟨_, rfl⟩
  obtain ⟨m, hm⟩ : ∃ m : Int, (mn : Int) = m := ⟨_, rfl⟩
  rw [hz, hm]
  have HZ := Lib.hid hz
  have HM := Lib.hid hm
  clear hz hm
  have AW := Lib.hid (awake06 W ht)
  have h00 : 0 < W.heap.size := by have := cell_lt (ht 0 (by decide)); simpa using this
  have HT0 := Lib.hid ht
  have hI : (len : Int) ≤ 30 := by omega
  clear ht
  go_enter Tryd.func7, Tryd.ntmps7
  go_wp2_with fail
  (with_reducible refine AW.out.mono ?_)
  rintro e w ⟨rfl, f0⟩
  have F0 := Lib.hid f0
  have s0 : W.heap.size ≤ w.heap.size := f0.size
  have h0 : 0 < w.heap.size := by omega
  have HT := Lib.hid (HT0.out.tt f0)
  clear f0 HT0 AW
  go_wp2_with fail
  (with_reducible refine (new_calls _ 20 _ (by decide) (by decide) (by decide)).mono ?_)
  rintro e w1 ⟨⟨bd, rfl, d1⟩, f1⟩
  have D1 := Lib.hid d1.inside
  have F1 := Lib.hid f1
  clear d1 f1
  go_wp2_with fail
  (with_reducible refine (r_new _ 20 _ (by decide) (by decide) (by decide)).mono ?_)
  rintro e w2 ⟨⟨br, rfl, r2⟩, f2⟩
  have F2 : Hid (Fr (fun c _ => c < w.heap.size) w w2) := (F1.out.trans f2).mono fun _ _ _ => trivial
  have B2 : Hid (Bd w.heap.size (fun c => w.heap.size ≤ c ∧ c < w1.heap.size) w2 bd br (Dk.new 20) (Dk.new 20)) :=
    ⟨⟨⟨_, D1.out.tt f2, fun c h => ⟨⟨h.1, h.2⟩, Nat.lt_of_lt_of_le h.2 f2.size⟩⟩, fun c h => h.1, fun c h => Nat.lt_of_lt_of_le h.2 f2.size⟩, r2.mono fun c h hp => by have h : w1.heap.size ≤ c := h; omega, by have h1 := F1.out.size; have h : w1.heap.size ≤ br := r2.gbr.1; omega⟩
  clear D1 F1 r2 f2
  have HT2 := Lib.hid (fun i hi => F2.out.cell (fun _ _ => h0) (HT.out i hi) : TabOK w2)
  have HO := Lib.hid ((HO0.out.fr (F0.out.mono fun _ _ _ => trivial)).mono s0)
  clear HO0
  obtain ⟨D3, hj3, ji3⟩ := new_ji zn mn h1m hzm
  rw [HZ.out, HM.out] at hj3
  have JI3 := Lib.hid ji3
  have HJ3 := Lib.hid hj3
  have OC := Lib.hid (sd_open B2.out.sd F2.out.size z m HT2.out (by show (0 : Nat) < 1000000; decide) _ _ 0 hj3)
  clear hj3 ji3
  go_wp2_with fail
  (with_reducible refine OC.out.mono ?_)
  rintro e w3 ⟨bj, a3, c3, V3, P3, rfl, s3, _, _, k3⟩
  have B3 := Lib.hid (B2.out.open s3 k3)
  have F3 : Hid (Fr (fun c _ => c < w.heap.size) w w3) := F2.out.trans (k3.low B2.out.sd.lo)
  have OC := Lib.hid (be_open B3.out F3.out.size (by show (0 : Nat) < 1000000; decide) HJ3.out (JI3.out.facts (by decide)).2.2.1 (JI3.out.facts (by decide)).2.2.2)
  clear s3 k3 B2
  go_wp2_with fail
  (with_reducible refine OC.out.mono ?_)
  rintro e w4 ⟨bk, rfl, b4, f4⟩
  have B4 := Lib.hid b4
  have F4 := Lib.hid (F3.out.trans f4)
  clear b4 f4 OC B3
  go_wp2
  go_loopw [12, 15, 17] (fun v12 v15 v17 wr => ∃ (j : Nat) (J : Jn) (D : Dk) (L : List (Nat × List UInt8)) (bs : List (List UInt8)) (P : Nat → Prop) (bj bk : Nat), v12 = .pointer (some ⟨bj, 0, none⟩) ∧ v15 = .pointer (some ⟨bk, 0, none⟩) ∧ v17 = .int .i64 j ∧ j ≤ len ∧ Hid (JI zn mn (1 + j) J D L bs) ∧ Hid (Bo w.heap.size P wr bj bd bk br J J D D) ∧ Hid (Fr (fun c _ => c < w.heap.size) w wr)) (fun _ _ i _ => len - (intOf i).toNat)
  case atStart => exact ⟨0, _, _, _, _, _, bj, bk, rfl, rfl, rfl, Nat.zero_le _, JI3, B4, F4⟩
  case round =>
    obtain ⟨j, J, D, L, bs, P, bj, bk, rfl, rfl, rfl, hj, HJI, HB, FJ⟩ := hrel
    by_cases hlt : j < len
    · have hlt' : j < l.length := by have := HLN.out; omega
      obtain ⟨b, off, rfl, hop⟩ : ∃ b off, a = some ⟨b, off, none⟩ ∧ OpAt w.heap.size w b off j l[j] := by
        obtain ⟨_, _, e, h⟩ := HO.out
        cases e
        rcases h with h | ⟨b, off, ha, h⟩
        · rw [h] at hlt'; simp at hlt'
        · exact ⟨b, off, ha, h j hlt'⟩
      obtain ⟨o, hoj⟩ : ∃ o, l[j] = o := ⟨_, rfl⟩
      rw [hoj] at hop
      have HOP := Lib.hid hop
      obtain ⟨J2, D2, L2, bs2, hst, hj2⟩ := jop_ji HJI.out (by omega) o
      rw [HZ.out, HM.out] at hst
      have HST := Lib.hid hst
      have HJ2 := Lib.hid hj2
      have hltI : (j : Int) < len := by omega
      obtain ⟨p1, p2, p3, p4⟩ := HJI.out.facts (by omega)
      obtain ⟨e0, e1, e2, e3, hb, _⟩ := HOP.out.fr FJ.out
      have TT : Hid (∀ w', Fr (fun c _ => c < w.heap.size) w w' → TabOK w') := fun w' f i hi => f.cell (fun _ _ => h0) (HT.out i hi)
      clear hop hoj hst hj2 hlt' HT2
      go_upto_block 2 with fail
      go_cut [12, 15, 18, 19] (fun v12 v15 v18 v19 wx => ∃ (c : Int) (P2 : Nat → Prop) (bj2 bk2 : Nat), v12 = .pointer (some ⟨bj2, 0, none⟩) ∧ v15 = .pointer (some ⟨bk2, 0, none⟩) ∧ v18 = .int .i64 c ∧ v19 = .int .i64 c ∧ Hid (Bo w.heap.size P2 wx bj2 bd bk2 br J2 J2 D2 D2) ∧ Hid (Fr (fun c _ => c < w.heap.size) w wx))
      case first =>
        by_cases q1 : o.q = 1
        · have d1 : (o.q == 1) = true := by simp [q1]
          have HLS := Lib.hid (HOP.out.fr FJ.out).2.2.2.2.2
          obtain ⟨c, hres⟩ : ∃ c, jappend J D o.b = (c, J2, D2) := by
            have h := HST.out
            unfold jop at h
            rw [if_pos q1] at h
            exact ⟨(jappend J D o.b).1, Prod.ext rfl (Option.some.inj h)⟩
          have HRS := Lib.hid hres
          have SC := Lib.hid (st_append HB.out.st h0 FJ.out.size o.vb o.b HLS.out.hb (TT.out _ FJ.out) (by omega))
          rw [hres] at SC
          clear hres q1
          go_wp2_with fail
          (with_reducible refine SC.out.mono ?_)
          rintro e w5 ⟨rfl, P5, s5, k5⟩
          have B5 := Lib.hid (HB.out.mid s5 k5)
          have F5 : Hid (Fr (fun c _ => c < w.heap.size) w w5) := FJ.out.trans (k5.low HB.out.st.lo)
          obtain ⟨e0, e1, e2, e3, hb5, l5⟩ := HOP.out.fr F5.out
          have DC := Lib.hid (bo_append B5.out o.vb o.b l5.hb (by omega))
          rw [HRS.out] at DC
          clear s5 k5 SC l5
          go_wp2_with fail
          (with_reducible refine DC.out.mono ?_)
          rintro e w6 ⟨rfl, b6, f6⟩
          have B6 := Lib.hid b6
          have F6 := Lib.hid (F5.out.trans f6)
          clear b6 f6 DC
          go_wp2_with fail
          go_meet
          case rel => exact ⟨c, P5, bj, bk, rfl, rfl, rfl, rfl, B6, F6⟩
        · have d1 : (o.q == 1) = false := by simp [q1]
          by_cases q2 : o.q = 2
          · have d2 : (o.q == 2) = true := by simp [q2]
            have hres : Hid (J = J2 ∧ D.sync = D2) := by
              have h := HST.out
              unfold jop at h
              rw [if_neg q1, if_pos q2] at h
              cases Option.some.inj h
              exact ⟨rfl, rfl⟩
            have SC := Lib.hid (st_sync HB.out.st FJ.out.size)
            clear q1 q2
            go_wp2_with fail
            (with_reducible refine SC.out.mono ?_)
            rintro e w5 ⟨rfl, P5, s5, k5⟩
            have B5 := Lib.hid (HB.out.mid s5 k5)
            have F5 : Hid (Fr (fun c _ => c < w.heap.size) w w5) := FJ.out.trans (k5.low HB.out.st.lo)
            have DC := Lib.hid (bo_sync B5.out)
            clear s5 k5 SC
            go_wp2_with fail
            (with_reducible refine DC.out.mono ?_)
            rintro e w6 ⟨rfl, b6, f6⟩
            rw [hres.out.1, hres.out.2] at b6
            have B6 := Lib.hid b6
            have F6 := Lib.hid (F5.out.trans f6)
            clear b6 f6 DC
            go_wp2_with fail
            go_meet
            case rel => exact ⟨0, P5, bj, bk, rfl, rfl, rfl, rfl, B6, F6⟩
          · have d2 : (o.q == 2) = false := by simp [q2]
            by_cases q3 : o.q = 3
            · have d3 : (o.q == 3) = true := by simp [q3]
              have HLS := Lib.hid (HOP.out.fr FJ.out).2.2.2.2.2
              obtain ⟨c, hres⟩ : ∃ c, jtrim J D o.k = (c, J2, D2) := by
                have h := HST.out
                unfold jop at h
                rw [if_neg q1, if_neg q2, if_pos q3] at h
                exact ⟨(jtrim J D o.k).1, Prod.ext rfl (Option.some.inj h)⟩
              have HRS := Lib.hid hres
              have SC := Lib.hid (st_trim HB.out.st h0 FJ.out.size o.k (TT.out _ FJ.out) (by omega))
              rw [hres] at SC
              clear hres q1 q2 q3
              go_wp2_with fail
              (with_reducible refine SC.out.mono ?_)
              rintro e w5 ⟨rfl, P5, s5, k5⟩
              have B5 := Lib.hid (HB.out.mid s5 k5)
              have F5 : Hid (Fr (fun c _ => c < w.heap.size) w w5) := FJ.out.trans (k5.low HB.out.st.lo)
              obtain ⟨e0, e1, e2, e3, hb5, l5⟩ := HOP.out.fr F5.out
              have DC := Lib.hid (bo_trim B5.out o.k (by omega) p2)
              rw [HRS.out] at DC
              clear s5 k5 SC l5
              go_wp2_with fail
              (with_reducible refine DC.out.mono ?_)
              rintro e w6 ⟨rfl, b6, f6⟩
              have B6 := Lib.hid b6
              have F6 := Lib.hid (F5.out.trans f6)
              clear b6 f6 DC
              go_wp2_with fail
              go_meet
              case rel => exact ⟨c, P5, bj, bk, rfl, rfl, rfl, rfl, B6, F6⟩
            · have d3 : (o.q == 3) = false := by simp [q3]
              by_cases q4 : o.q = 4
              · have d4 : (o.q == 4) = true := by simp [q4]
                have HLS := Lib.hid (HOP.out.fr FJ.out).2.2.2.2.2
                obtain ⟨c, hres⟩ : ∃ c, jcut J D o.k = (c, J2, D2) := by
                  have h := HST.out
                  unfold jop at h
                  rw [if_neg q1, if_neg q2, if_neg q3, if_pos q4] at h
                  exact ⟨(jcut J D o.k).1, Prod.ext rfl (Option.some.inj h)⟩
                have HRS := Lib.hid hres
                have SC := Lib.hid (st_cut HB.out.st h0 FJ.out.size o.k (TT.out _ FJ.out) (by omega))
                rw [hres] at SC
                clear hres q1 q2 q3 q4
                go_wp2_with fail
                (with_reducible refine SC.out.mono ?_)
                rintro e w5 ⟨rfl, P5, s5, k5⟩
                have B5 := Lib.hid (HB.out.mid s5 k5)
                have F5 : Hid (Fr (fun c _ => c < w.heap.size) w w5) := FJ.out.trans (k5.low HB.out.st.lo)
                obtain ⟨e0, e1, e2, e3, hb5, l5⟩ := HOP.out.fr F5.out
                have DC := Lib.hid (bo_cut B5.out o.k (by omega) p2)
                rw [HRS.out] at DC
                clear s5 k5 SC l5
                go_wp2_with fail
                (with_reducible refine DC.out.mono ?_)
                rintro e w6 ⟨rfl, b6, f6⟩
                have B6 := Lib.hid b6
                have F6 := Lib.hid (F5.out.trans f6)
                clear b6 f6 DC
                go_wp2_with fail
                go_meet
                case rel => exact ⟨c, P5, bj, bk, rfl, rfl, rfl, rfl, B6, F6⟩
              · have d4 : (o.q == 4) = false := by simp [q4]
                by_cases q5 : o.q = 5
                · have d5 : (o.q == 5) = true := by simp [q5]
                  obtain ⟨cc, hco⟩ : ∃ c, jopen (D.crash o.zs) z m = (c, some J2, D2) := by
                    have h := HST.out
                    unfold jop at h
                    rw [if_neg q1, if_neg q2, if_neg q3, if_neg q4, if_pos q5] at h
                    exact jagain_some h
                  obtain rfl : cc = 0 := by obtain ⟨_, _, _, _, _, _, _, _, _, _, h, _⟩ := jopen_parts hco; exact h
                  obtain ⟨pa, pc, hvp⟩ := (HOP.out.fr FJ.out).2.2.2.2.2.hp.form
                  have hpz := (HOP.out.fr FJ.out).2.2.2.2.2.hp
                  rw [hvp] at e3 hpz
                  have SC := Lib.hid (sd_crash HB.out.st.sd FJ.out.size pa o.zs.length pc o.zs hpz (fun c _ h h2 => by have := HB.out.st.lo c h2; omega))
                  have HPZ := Lib.hid hpz
                  have HVP := Lib.hid hvp
                  clear hpz hvp q1 q2 q3 q4 q5
                  go_wp2_with fail
                  (with_reducible refine SC.out.mono ?_)
                  rintro e w5 ⟨rfl, P5, s5, k5⟩
                  have B5 := Lib.hid (HB.out.two.kp s5 k5)
                  have F5 : Hid (Fr (fun c _ => c < w.heap.size) w w5) := FJ.out.trans (k5.low HB.out.st.lo)
                  obtain ⟨e0, e1, e2, e3, hb5, l5⟩ := HOP.out.fr F5.out
                  rw [HVP.out] at e3
                  have DC := Lib.hid (bd_crash B5.out pa o.zs.length pc o.zs (by have := l5.hp; rw [HVP.out] at this; exact this))
                  clear s5 k5 SC l5
                  go_wp2_with fail
                  (with_reducible refine DC.out.mono ?_)
                  rintro e w6 ⟨rfl, b6, f6⟩
                  have B6 := Lib.hid b6
                  have F6 := Lib.hid (F5.out.trans f6)
                  clear b6 f6 DC e0 e1 e2 e3
                  have SC := Lib.hid (sd_open B6.out.sd F6.out.size z m (TT.out _ F6.out) (by show (0 : Nat) < 1000000; decide) _ _ _ hco)
                  have HCO := Lib.hid hco
                  clear hco
                  go_wp2_with fail
                  (with_reducible refine SC.out.mono ?_)
                  rintro e w7 ⟨bj7, a7, c7, V7, P7, rfl, s7, _, _, k7⟩
                  have B7 := Lib.hid (B6.out.open s7 k7)
                  have F7 : Hid (Fr (fun c _ => c < w.heap.size) w w7) := F6.out.trans (k7.low B6.out.sd.lo)
                  have DC := Lib.hid (be_open B7.out F7.out.size (by show (0 : Nat) < 1000000; decide) HCO.out (HJ2.out.facts (by omega)).2.2.1 (HJ2.out.facts (by omega)).2.2.2)
                  clear s7 k7 SC
                  go_wp2_with fail
                  (with_reducible refine DC.out.mono ?_)
                  rintro e w8 ⟨bk8, rfl, b8, f8⟩
                  have B8 := Lib.hid b8
                  have F8 := Lib.hid (F7.out.trans f8)
                  clear b8 f8 DC
                  go_wp2_with fail
                  go_meet
                  case rel => exact ⟨0, P7, bj7, bk8, rfl, rfl, rfl, rfl, B8, F8⟩
                · have d5 : (o.q == 5) = false := by simp [q5]
                  by_cases q6 : o.q = 6
                  · have d6 : (o.q == 6) = true := by simp [q6]
                    obtain ⟨cc, hco⟩ : ∃ c, jopen D z m = (c, some J2, D2) := by
                      have h := HST.out
                      unfold jop at h
                      rw [if_neg q1, if_neg q2, if_neg q3, if_neg q4, if_neg q5, if_pos q6] at h
                      exact jagain_some h
                    obtain rfl : cc = 0 := by obtain ⟨_, _, _, _, _, _, _, _, _, _, h, _⟩ := jopen_parts hco; exact h
                    have BB := Lib.hid HB.out.two
                    clear q1 q2 q3 q4 q5 q6
                    have SC := Lib.hid (sd_open BB.out.sd FJ.out.size z m (TT.out _ FJ.out) (by omega) _ _ _ hco)
                    have HCO := Lib.hid hco
                    clear hco
                    go_wp2_with fail
                    (with_reducible refine SC.out.mono ?_)
                    rintro e w7 ⟨bj7, a7, c7, V7, P7, rfl, s7, _, _, k7⟩
                    have B7 := Lib.hid (BB.out.open s7 k7)
                    have F7 : Hid (Fr (fun c _ => c < w.heap.size) w w7) := FJ.out.trans (k7.low BB.out.sd.lo)
                    have DC := Lib.hid (be_open B7.out F7.out.size (by omega) HCO.out (HJ2.out.facts (by omega)).2.2.1 (HJ2.out.facts (by omega)).2.2.2)
                    clear s7 k7 SC
                    go_wp2_with fail
                    (with_reducible refine DC.out.mono ?_)
                    rintro e w8 ⟨bk8, rfl, b8, f8⟩
                    have B8 := Lib.hid b8
                    have F8 := Lib.hid (F7.out.trans f8)
                    clear b8 f8 DC
                    go_wp2_with fail
                    go_meet
                    case rel => exact ⟨0, P7, bj7, bk8, rfl, rfl, rfl, rfl, B8, F8⟩
                  · have d6 : (o.q == 6) = false := by simp [q6]
                    have hres : Hid (J = J2 ∧ D = D2) := by
                      have h := HST.out
                      unfold jop at h
                      rw [if_neg q1, if_neg q2, if_neg q3, if_neg q4, if_neg q5, if_neg q6] at h
                      cases Option.some.inj h
                      exact ⟨rfl, rfl⟩
                    have B6 : Hid (Bo w.heap.size P wr bj bd bk br J2 J2 D2 D2) := by
                      show Bo _ _ _ _ _ _ _ _ _ _ _
                      rw [← hres.out.1, ← hres.out.2]; exact HB.out
                    clear q1 q2 q3 q4 q5 q6
                    go_wp2_with fail
                    go_meet
                    case rel => exact ⟨0, P, bj, bk, rfl, rfl, rfl, rfl, B6, FJ⟩
      case rest =>
        obtain ⟨c, P2, bj2, bk2, rfl, rfl, rfl, rfl, HB2, FX⟩ := hcut
        have SA := Lib.hid (st_all2 HB2.out.st FX.out.size)
        have XC := Lib.hid HB2.out.st.b43
        clear e0 e1 e2 e3
        go_wp2_with fail
        (with_reducible refine SA.out.mono ?_)
        rintro e w5 ⟨⟨a5, c5, V5, rfl, hvl, row, hvm⟩, f5⟩
        have HB5 := Lib.hid (HB2.out.tt f5)
        have F5 := Lib.hid (FX.out.tt f5)
        have LS5 : Hid (LsAt (fun _ _ => True) w5 (.slice a5 J2.all.length c5) J2.all) := by
          have h := row.own.ls
          rw [hvm, hvl] at h
          exact h.mono fun _ _ _ _ => trivial
        have JL := Lib.hid (jd_len w5 bj2 bd J2 D2 HB5.out.st.jd)
        have PC : Hid (Calls Tryd.prog 31 #[.pointer (some ⟨bd, 0, none⟩)] w5 fun e w' => e = .returned (.int .i64 D2.pend.length) ∧ w5 = w') := by
          obtain ⟨F, h, _⟩ := HB5.out.st.jd.dd
          exact pending_calls w5 bd F D2 h
        clear row hvm hvl f5 SA HB2
        go_wp2_with fail
        (with_reducible refine JL.out.mono ?_)
        rintro e w6 ⟨rfl, rfl⟩
        go_wp2_with fail
        (with_reducible refine PC.out.mono ?_)
        rintro e w6 ⟨rfl, rfl⟩
        obtain ⟨ah, ch, ap, cp, hls⟩ := HB5.out.lens
        obtain ⟨k6, k1⟩ := hls w5 (Fr.refl _ _)
        have RA := Lib.hid (rall_calls w5 bk2 br _ J2 HB5.out.jn)
        obtain ⟨x1, hx1⟩ : ∃ x : Nat, J2.held.length = x := ⟨_, rfl⟩
        obtain ⟨x2, hx2⟩ : ∃ x : Nat, D2.pend.length = x := ⟨_, rfl⟩
        rw [hx1] at k6
        rw [hx2] at k1
        rw [hx1, hx2]
        clear hls hx1 hx2 JL PC
        go_wp2_with fail
        (with_reducible refine RA.out.mono ?_)
        rintro e w7 ⟨⟨a7, c7, rfl, ls7⟩, f7⟩
        have SM := jsame_calls w7 _ _ _ _ (LS5.out.fr f7) ls7 (fun x hx => by have := XC.out.1 x hx; omega) (by have := XC.out.2; omega)
        rw [decide_eq_true rfl] at SM
        have SMH := Lib.hid SM
        have HB7 := Lib.hid (HB5.out.tt f7)
        have F7 := Lib.hid (F5.out.tt f7)
        clear SM ls7 f7 k6 k1 RA HB5
        go_wp2_with fail
        (with_reducible refine SMH.out.mono ?_)
        rintro e w8 ⟨rfl, k8, hw8⟩
        have g8 : Fr (fun _ _ => True) w7 w8 := by rw [hw8]; exact (Fr.refl _ _).drewN k8
        have HB8 := Lib.hid (HB7.out.tt g8)
        have F8 := Lib.hid (F7.out.tt g8)
        have HJ9 : Hid (JI zn mn (1 + (j + 1)) J2 D2 L2 bs2) := HJ2.out
        clear hw8 g8 SMH
        go_wp2
        go_roundw
        case rel => exact ⟨j + 1, J2, D2, L2, bs2, P2, bj2, bk2, rfl, rfl, by go_num, by omega, HJ9, HB8, F8⟩
        case measure => simp [intOf]; omega
    · have hge : (len : Int) ≤ j := by omega
      clear HT2
      go_wp2
      go_ret
      exact ⟨by simp, F0.out.trans (Fr.within (FJ.out.mono fun _ _ h => h.2))⟩

theorem plays06_walk (W : World) (z : Int) (wz : (Lit.int .i64 z).wf = true) (m : Int) (wm : (Lit.int .i64 m).wf = true) (a : Option Addr) (len cap : Nat) (r : Rd Tryd.prog W 22 [.slice a len cap]) (ht : TabOK W) :
    Calls Tryd.prog 7 #[.int .i64 z, .int .i64 m, .slice a len cap] W fun e w' => e = .returned (.bool true) ∧ Below W.heap.size W w' := by
  obtain ⟨l, ho, hlm⟩ := ops_of r
  by_cases hl : 30 < len
  · exact (plays06_long W z m a len cap ht hl).mono fun e w' ⟨he, hf⟩ => ⟨he, hf.bel⟩
  · by_cases hb : (m < 1 ∨ 100 < m) ∨ (z < 0 ∨ (20 : Int) - 2 - m < z)
    · exact (plays06_bad W z m a len cap ht (by omega) hb).mono fun e w' ⟨he, hf⟩ => ⟨he, hf.bel⟩
    · obtain ⟨zn, rfl⟩ := Int.eq_ofNat_of_zero_le (show 0 ≤ z by omega)
      obtain ⟨mn, rfl⟩ := Int.eq_ofNat_of_zero_le (show 0 ≤ m by omega)
      exact (plays06_main W zn mn a len cap l ho ht (by omega) (by omega) (by omega)).mono fun e w' ⟨he, hf⟩ => ⟨he, hf.bel⟩
end Go.Proofs.YtcpbmempfeloaaaDoor
