/- Texts of the proofs, part 28: what the functions that they reach do, walked; no conditions beyond those that each states. -/
import Derived.Test.YtcpbmempfeloaaaDoorZz438fa63771
set_option linter.unusedVariables false
set_option linter.unusedSimpArgs false
/- Law 6: JournalGaps, walked. -/
namespace Go.Proofs.YtcpbmempfeloaaaDoor
open Go.RowKit
set_option linter.unusedVariables false
set_option linter.unusedSimpArgs false

theorem Fr.bel' {w w' : World} (h : Fr (fun _ _ => True) w w') : Below w.heap.size w w' := (h.mono fun _ _ _ => trivial : Fr (fun b _ => b < w.heap.size) w w').below (Nat.le_refl _)
theorem St.fr {K : Nat → Obj → Prop} {n : Nat} {P : Nat → Prop} {w w' : World} {bj bd : Nat} {J : Jn} {D : Dk} (h : St n P w bj bd J D) (hf : Fr K w w') (hk : ∀ c o, w.heap[c]? = some o → P c → K c o) : St n P w' bj bd J D := ⟨h.jd.fr hf hk, h.lo, fun c hc => Nat.lt_of_lt_of_le (h.hi c hc) hf.size⟩
theorem St.b43 {n : Nat} {P : Nat → Prop} {w : World} {bj bd : Nat} {J : Jn} {D : Dk} (h : St n P w bj bd J D) : (∀ x ∈ J.all, x.length ≤ 43) ∧ J.all.length ≤ 100 := by
  obtain ⟨F, G, _, h2, _⟩ := h.jd
  have hw := h2.wf
  refine ⟨fun x hx => ?_, ?_⟩
  · obtain ⟨y, hy, rfl⟩ := List.mem_map.1 hx
    exact (hw.hd y hy).2
  · have := hw.few
    have := hw.n100
    unfold Jn.all
    rw [List.length_map]; omega
theorem own_cap' {w : World} {B : Nat} {e : TypeId} {s : Nat} {a : Option Addr} {n cap : Nat} {xs : List Value} (h : w.ownsRow B e s (.slice a n cap) n xs) : n ≤ cap := by
  rcases h.2 with ⟨_, h0⟩ | ⟨g, cap', cur, hv, _, _, hc, _⟩
  · omega
  · cases hv; exact hc
theorem size_bs1 : (sizeOf 33).run Tryd.prog = fun w => .ok 1 w := by kernel_rfl

set_option maxRecDepth 100000 in
theorem gaps_bad (W : World) (n : Int) (a1 : Option Addr) (len1 cap1 : Nat) (v2 v3 : Value) (ht : TabOK W) (h : n < 1 ∨ 17 < n ∨ 30 < len1) :
    Calls Tryd.prog 3 #[.int .i64 n, .slice a1 len1 cap1, v2, v3] W fun e w' => e = .returned (.bool true) ∧ Fr (fun _ _ => True) W w' := by
  have AW := Lib.hid (awake06 W ht)
  have MB : Hid (∀ w, Calls Tryd.prog 12 #[.int .i64 n, .slice a1 len1 cap1] w fun e w' => e = .returned (.tuple #[.pointer none, .pointer none]) ∧ w = w') := fun w => made_bad w n a1 len1 cap1 h
  clear ht h
  go_enter Tryd.func3, Tryd.ntmps3
  go_wp2_with fail
  (with_reducible refine AW.out.mono ?_)
  rintro e w1 ⟨rfl, f1⟩
  have F1 := Lib.hid f1
  clear f1
  go_wp2_with fail
  (with_reducible refine (MB.out w1).mono ?_)
  rintro e w2 ⟨rfl, rfl⟩
  go_wp2
  go_ret
  exact ⟨rfl, F1.out⟩

set_option maxRecDepth 100000 in
set_option maxHeartbeats 4000000 in
theorem gaps_good (W : World) (n : Nat) (a1 : Option Addr) (len1 cap1 : Nat) (a2 : Option Addr) (len2 cap2 : Nat) (a3 : Option Addr) (len3 cap3 : Nat) (l : List OpJ) (more : List (List UInt8)) (zs : List Int) (h1 : 1 ≤ n) (h2 : n ≤ 17) (ho : OpsAt W.heap.size W (.slice a1 len1 cap1) l) (hl : len1 ≤ 30)
    (hm : LsAt (fun c _ => c < W.heap.size) W (.slice a2 len2 cap2) more) (hz : IntsAt (fun c _ => c < W.heap.size) W (.slice a3 len3 cap3) zs) (ht : TabOK W) :
    Calls Tryd.prog 3 #[.int .i64 (n : Nat), .slice a1 len1 cap1, .slice a2 len2 cap2, .slice a3 len3 cap3] W fun e w' => e = .returned (.bool true) ∧ Fr (fun _ _ => True) W w' := by
  have hln := ho.len
  have hm2 : len2 = more.length := by obtain ⟨_, _, e, _⟩ := hm; cases e; rfl
  obtain ⟨J, D, L, bs, hjm, hji⟩ := jmade_ji 1 n h1 (by omega) l (by omega)
  have h0 : 0 < W.heap.size := by have := cell_lt (ht 0 (by decide)); simpa using this
  have AW := Lib.hid (awake06 W ht)
  have MS : Hid (∀ w, OpsAt w.heap.size w (.slice a1 len1 cap1) l → TabOK w → Calls Tryd.prog 12 #[.int .i64 (n : Nat), .slice a1 len1 cap1] w fun e w' => (∃ bd bj, e = .returned (.tuple #[.pointer (some ⟨bd, 0, none⟩), .pointer (some ⟨bj, 0, none⟩)]) ∧ JD (fun c => w.heap.size ≤ c) w' bj bd J D) ∧ Fr (fun _ _ => True) w w') := fun w h t => made_some w n a1 len1 cap1 l h1 h2 h t hl J D hjm
  have HO := Lib.hid ho
  have HMR := Lib.hid hm
  have HZ := Lib.hid hz
  have HT := Lib.hid ht
  have HJI := Lib.hid hji
  have HL2 := Lib.hid hm2
  have HLN := Lib.hid hln
  clear ho hm hz ht hji hjm hln hm2
  by_cases hbig : 10 < len2
  · have hbig' : (10 : Int) < len2 := by omega
    go_enter Tryd.func3, Tryd.ntmps3
    go_wp2_with fail
    (with_reducible refine AW.out.mono ?_)
    rintro e w1 ⟨rfl, f1⟩
    have F1 := Lib.hid f1
    have MC := Lib.hid (MS.out w1 ((HO.out.fr (f1.mono fun _ _ _ => trivial)).mono f1.size) (HT.out.tt f1))
    clear f1
    go_wp2_with fail
    (with_reducible refine MC.out.mono ?_)
    rintro e w2 ⟨⟨bd, bj, rfl, d2⟩, f2⟩
    have F2 := Lib.hid (F1.out.trans f2)
    clear d2 f2 MC
    go_wp2
    go_ret
    exact ⟨rfl, F2.out⟩
  · have hsm' : (len2 : Int) ≤ 10 := by omega
    have law := gaps_law HJI.out more (by have := HL2.out; have := HLN.out; omega) zs
    obtain ⟨J', D', hop, q1, q2, q3⟩ := law
    obtain ⟨fin, hfin⟩ : ∃ fin, more.foldl japps (J, D.sync, J.all) = fin := ⟨_, rfl⟩
    rw [hfin] at hop q2 q3
    have PB : Hid (∀ j, j ≤ more.length → ((more.take j).foldl japps (J, D.sync, J.all)).2.1.pend.length ≤ 100 ∧ ((more.take j).foldl japps (J, D.sync, J.all)).2.2.length ≤ 100) := fun j hj => by
      have := HLN.out
      have := HL2.out
      obtain ⟨bs', i1, i2, _⟩ := japps_ji (more.take j) (1 + l.length) J D.sync [] (HJI.out.syncs (by omega)) (by rw [List.length_take]; omega)
      have hp := i1.pend
      have := i1.few
      refine ⟨?_, ?_⟩
      · rw [hp, pendOf_length]; omega
      · rw [i2]; simp; omega
    have HFIN := Lib.hid hfin
    have HOP := Lib.hid hop
    have Q1 := Lib.hid q1
    have Q2 := Lib.hid q2
    have Q3 := Lib.hid q3
    clear hfin hop q1 q2 q3
    go_enter Tryd.func3, Tryd.ntmps3
    go_wp2_with fail
    (with_reducible refine AW.out.mono ?_)
    rintro e w1 ⟨rfl, f1⟩
    have F1 := Lib.hid f1
    have S1 : Hid (W.heap.size ≤ w1.heap.size) := f1.size
    have MC := Lib.hid (MS.out w1 ((HO.out.fr (f1.mono fun _ _ _ => trivial)).mono f1.size) (HT.out.tt f1))
    clear f1
    go_wp2_with fail
    (with_reducible refine MC.out.mono ?_)
    rintro e w2 ⟨⟨bd, bj, rfl, d2⟩, f2⟩
    have T2 := Lib.hid (St.of d2)
    have F2 : Hid (Fr (fun c _ => c < w1.heap.size) w1 w2) := f2.mono fun _ _ _ => trivial
    have h1s : Hid (0 < w1.heap.size) := by have := S1.out; show 0 < _; omega
    clear d2 f2 MC
    -- what came in, and the table, at later worlds
    have TT : Hid (∀ w, Fr (fun c _ => c < w1.heap.size) w1 w → TabOK w) := fun w f => by
      have t := HT.out.tt F1.out
      exact fun i hi => f.cell (fun _ _ => h1s.out) (t i hi)
    have MM : Hid (∀ w, Fr (fun c _ => c < w1.heap.size) w1 w → LsAt (fun c _ => c < w1.heap.size) w (.slice a2 len2 cap2) more) := fun w f => ((HMR.out.fr (F1.out.mono fun _ _ _ => trivial)).mono fun c _ _ h => by have := S1.out; omega).fr f
    have ZZ : Hid (∀ w, Fr (fun c _ => c < w1.heap.size) w1 w → IntsAt (fun c _ => c < w1.heap.size) w (.slice a3 len3 cap3) zs) := fun w f => ((HZ.out.fr F1.out fun _ _ _ => trivial).mono fun c _ h => by have := S1.out; omega).fr f fun _ _ h => h
    have SC := Lib.hid (st_sync T2.out F2.out.size)
    go_wp2_with fail
    (with_reducible refine SC.out.mono ?_)
    rintro e w3 ⟨rfl, P3, t3, k3⟩
    have T3 := Lib.hid t3
    have F3 : Hid (Fr (fun c _ => c < w1.heap.size) w1 w3) := F2.out.trans (k3.low T2.out.lo)
    clear t3 k3 SC
    have SC := Lib.hid (st_all T3.out)
    go_wp2_with fail
    (with_reducible refine SC.out.mono ?_)
    rintro e w4 ⟨⟨as1, cs1, Vs1, rfl, _, _⟩, f4⟩
    have T4 := Lib.hid (T3.out.tt f4)
    have F4 : Hid (Fr (fun c _ => c < w1.heap.size) w1 w4) := F3.out.tt f4
    clear f4 SC
    have SC := Lib.hid (st_all2 T4.out F4.out.size)
    go_wp2_with fail
    (with_reducible refine SC.out.mono ?_)
    rintro e w5 ⟨⟨aa, ca, Va, rfl, hVl, row, hV⟩, f5⟩
    have T5 := Lib.hid (T4.out.tt f5)
    have F5 : Hid (Fr (fun c _ => c < w1.heap.size) w1 w5) := F4.out.tt f5
    have R5 := Lib.hid row
    have HV := Lib.hid hV
    obtain ⟨nS, hnS⟩ : ∃ nS, J.all.length = nS := ⟨_, rfl⟩
    rw [hnS] at hVl Q1 ⊢
    have HVL := Lib.hid hVl
    clear f5 SC row hV hVl hnS
    go_wp2
    go_loopw [13, 14] (fun s i wr => ∃ (j : Nat) (a : Option Addr) (c : Nat) (V : List (Value × List UInt8)) (P : Nat → Prop) (Jj : Jn) (Dj : Dk), s = .slice a V.length c ∧ i = .int .i64 (j : Nat) ∧ j ≤ len2 ∧ Hid ((more.take j).foldl japps (J, D.sync, J.all) = (Jj, Dj, V.map (·.2))) ∧ Hid (St w1.heap.size P wr bj bd Jj Dj) ∧ Hid (Row w1.heap.size P wr a c V) ∧ Hid (Fr (fun c _ => c < w1.heap.size) w1 wr)) (fun _ i _ => len2 - (intOf i).toNat)
    case atStart =>
      refine ⟨0, aa, ca, Va, P3, J, D.sync, ?_, rfl, Nat.zero_le _, ?_, T5, R5, F5⟩
      · rw [HVL.out]
      · show _ = _
        rw [HV.out]; rfl
    case round =>
      obtain ⟨j, a, c, V, P, Jj, Dj, rfl, rfl, hj, HF, TJ, RJ, FJ⟩ := hrel
      by_cases hlt : j < len2
      · have hltI : (j : Int) < len2 := by omega
        have hlt' : j < more.length := by have := HL2.out; omega
        obtain ⟨bb, off, vb, hab, k1, x1⟩ := (MM.out wr FJ.out).at j hlt'
        have hST : (more.take (j + 1)).foldl japps (J, D.sync, J.all) = japps (Jj, Dj, V.map (·.2)) more[j] := by
          rw [List.take_succ_eq_append_getElem hlt', List.foldl_append, HF.out]; rfl
        have hpe : Dj.pend.length ≤ 100 := by
          have := (PB.out j (by omega)).1
          rw [HF.out] at this
          exact this
        have hVV : V.length ≤ 1000000 := by
          have := (PB.out j (by omega)).2
          rw [HF.out] at this
          replace this : (V.map (·.2)).length ≤ 100 := this
          rw [List.length_map] at this
          omega
        have AT6 : Hid (∀ w, Fr (fun c _ => c < w1.heap.size) w1 w → ∃ vb, w.cell? ⟨bb, off + j, none⟩ = some vb ∧ BytesAt (fun c _ => c < w1.heap.size) w vb more[j]) := fun w f => by
          obtain ⟨bb', off', vb', hab', k1', x1'⟩ := (MM.out w f).at j hlt'
          rw [hab] at hab'
          cases hab'
          exact ⟨vb', k1', x1'⟩
        obtain ⟨b, hb⟩ : ∃ b, more[j] = b := ⟨_, rfl⟩
        rw [hb] at x1 hST AT6
        subst hab
        obtain ⟨vy, vz, rfl⟩ := x1.form
        have SC := Lib.hid (st_append TJ.out h1s.out FJ.out.size _ b x1 (TT.out wr FJ.out) (by omega))
        obtain ⟨c6, J6, D6, h6⟩ : ∃ c6 J6 D6, jappend Jj Dj b = (c6, J6, D6) := ⟨_, _, _, rfl⟩
        rw [h6] at SC
        have hst2 : (more.take (j + 1)).foldl japps (J, D.sync, J.all) = (J6, D6, if c6 = 0 then V.map (·.2) ++ [b] else V.map (·.2)) := by
          rw [hST]; unfold japps; rw [h6]
        have HST := Lib.hid hst2
        clear hST hst2 h6 hb x1 hpe hlt'
        go_wp2_with fail
        (with_reducible refine SC.out.mono ?_)
        rintro e w6 ⟨rfl, P6, t6, k6⟩
        have T6 : Hid (St w1.heap.size P6 w6 bj bd J6 D6) := t6
        have F6 : Hid (Fr (fun c _ => c < w1.heap.size) w1 w6) := FJ.out.trans (k6.low TJ.out.lo)
        have R6 := Lib.hid (RJ.out.kp k6)
        clear t6 k6 SC k1 TJ RJ FJ
        by_cases q : c6 = 0
        · subst q
          obtain ⟨vb6, k6, x6⟩ := AT6.out w6 F6.out
          obtain ⟨v6a, v6c, rfl⟩ := x6.form
          obtain ⟨W7, hW7⟩ : ∃ W7, w6.alloc (.cells #[.slice v6a b.length v6c] 33 (0, 0)) = W7 := ⟨_, rfl⟩
          have FW : Hid (Fr (fun _ _ => True) w6 W7) := hW7 ▸ (Fr.refl _ w6).alloc _
          have HX : Hid (∃ fz, W7.heap[w6.heap.size]? = some (.cells #[.slice v6a b.length v6c] 33 fz)) := ⟨_, hW7 ▸ heap_alloc_new _ _⟩
          have OW := Lib.hid (R6.out.own.tt FW.out)
          have BX : Hid (BytesAt (fun k _ => ¬ P6 k ∧ (Value.slice a V.length c).ownBlock ≠ some k) W7 (.slice v6a b.length v6c) b) := (x6.tt FW.out).mono fun k o _ hk => ⟨fun hp => by have := T6.out.lo k hp; omega, fun e => by have := R6.out.ab k e; omega⟩
          have HR : Hid (∀ k, W7.heap.size ≤ k → ¬ P6 k) := fun k hk hp => by
            have := T6.out.hi k hp
            have := FW.out.size
            omega
          clear x6
          go_wp2_with (at_builtin; refine wpList_append_l2 W7 rfl _ _ rfl (fun k => ¬ P6 k) _ V rfl OW w6.heap.size rfl (.slice v6a b.length v6c) b HX BX hVV HR.out ?_)
          intro a8 c8 w8 O8 G8 N8
          have F78 : Hid (Fr (fun k _ => (Value.slice a V.length c).ownBlock ≠ some k) W7 w8) := (Fr.refl _ W7).grown G8.out fun k o e ho hk => hk e
          have T8 : Hid (St w1.heap.size P6 w8 bj bd J6 D6) := (T6.out.tt FW.out).fr F78.out fun k o _ hp e => R6.out.own.rb k e hp
          have F8 : Hid (Fr (fun k _ => k < w1.heap.size) w1 w8) := (F6.out.tt FW.out).trans (F78.out.mono fun k _ hk e => by have := R6.out.ab k e; omega)
          have R8 : Hid (Row w1.heap.size P6 w8 a8 c8 (V ++ [(.slice v6a b.length v6c, b)])) := ⟨by rw [List.length_append]; exact O8.out, by
            rw [List.length_append]
            exact N8.out.above R6.out.ab (by have := F6.out.size; have := FW.out.size; omega)⟩
          clear hW7 OW BX HX O8 G8 N8 F78
          go_wp2
          go_roundw
          case rel =>
            refine ⟨j + 1, a8, c8, V ++ [(.slice v6a b.length v6c, b)], P6, J6, D6, by rw [List.length_append]; rfl, by go_num, by omega, ?_, T8, R8, F8⟩
            show _ = _
            rw [HST.out]; simp
          case measure => simp [intOf]; omega
        · have q' : (c6 == 0) = false := by simpa using q
          go_wp2
          go_roundw
          case rel =>
            refine ⟨j + 1, a, c, V, P6, J6, D6, rfl, by go_num, by omega, ?_, T6, R6, F6⟩
            show _ = _
            rw [HST.out, if_neg q]
          case measure => simp [intOf]; omega
      · have hge : (len2 : Int) ≤ j := by omega
        have hfin : Hid (fin = (Jj, Dj, V.map (·.2))) := by
          show _ = _
          rw [← HFIN.out, ← HF.out, List.take_of_length_le (by have := HL2.out; omega)]
        have hop : Hid (jopen (Dj.crash zs) 1 n = (0, some J', D')) := by
          have := HOP.out
          rw [hfin.out] at this
          exact this
        have q2 : J'.all.length ≤ V.length := by
          have := Q2.out
          rw [hfin.out] at this
          simpa using this
        have q3 : Hid (J'.all = (V.map (·.2)).take J'.all.length) := by
          have := Q3.out
          rw [hfin.out] at this
          exact this
        have q1 := Q1.out
        have Q2' := Lib.hid q2
        have SC := Lib.hid (sd_crash TJ.out.sd FJ.out.size a3 len3 cap3 zs (ZZ.out wr FJ.out) (fun k o hk hp => by have := TJ.out.lo k hp; omega))
        clear hfin q1 q2 hlt
        go_wp2_with fail
        (with_reducible refine SC.out.mono ?_)
        rintro e w6 ⟨rfl, P6, t6, k6⟩
        have T6 := Lib.hid t6
        have F6 : Hid (Fr (fun c _ => c < w1.heap.size) w1 w6) := FJ.out.trans (k6.low TJ.out.lo)
        have R6 := Lib.hid (RJ.out.kp k6)
        have SC := Lib.hid (sd_open T6.out F6.out.size 1 n (TT.out w6 F6.out) (by show (0 : Nat) < 1000000; decide) J' D' 0 hop.out)
        clear t6 k6
        go_wp2_with fail
        (with_reducible refine SC.out.mono ?_)
        rintro e w7 ⟨b7, a7, c7, V7, P7, rfl, t7, o7, hV7, k7⟩
        have T7 := Lib.hid t7
        have O7 := Lib.hid o7
        have HV7 := Lib.hid hV7
        have F7 : Hid (Fr (fun c _ => c < w1.heap.size) w1 w7) := F6.out.trans (k7.low T6.out.lo)
        have R7 := Lib.hid (R6.out.kp k7)
        clear t7 o7 hV7 k7 SC
        have hb43 := Lib.hid T7.out.b43
        obtain ⟨m, hm⟩ : ∃ m, J'.all.length = m := ⟨_, rfl⟩
        have hm0 := hm
        have i1 : nS ≤ m := by rw [← hm]; exact Q1.out
        have i2 : m ≤ V.length := by rw [← hm]; exact Q2'.out
        have d1 : decide (m < nS) = false := by simp; omega
        have d2 : decide (V.length < m) = false := by simp; omega
        have hls := R7.out.own.ls
        have hcap : V.length ≤ c := own_cap' R7.out.own.row
        have hsl := fun W => run_slice_toS (P := Tryd.prog) 1 Tryd.underlying23 size_bs1 W a V.length c m .i64 (by omega)
        have SM : Calls Tryd.prog 18 #[.slice a7 m c7, .slice a m c] w7 fun e w' => e = .returned (.bool true) ∧ ∃ k, w' = w7.drewN k := by
          have hl7 := O7.out.ls
          rw [HV7.out, hm] at hl7
          have hl8 := hls.take m (by simpa using i2)
          have := jsame_calls w7 _ _ _ _ hl7 hl8 (fun x hx => by have := hb43.out.1 x hx; omega) (by have := hb43.out.2; omega)
          rw [decide_eq_true (by have := q3.out; rw [hm] at this; exact this)] at this
          exact this
        have SMH := Lib.hid SM
        have HM := Lib.hid hm0
        rw [hm]
        clear hls SM hm hm0 hop q3
        go_wp2_with fail
        (with_reducible refine SMH.out.mono ?_)
        rintro e w8 ⟨rfl, k8, rfl⟩
        go_wp2
        go_ret
        exact ⟨rfl, F1.out.trans (Fr.within ((F7.out.drewN k8).mono fun _ _ h => h.2))⟩

theorem gaps_walk (W : World) (n : Int) (w0 : (Lit.int .i64 n).wf = true) (a1 : Option Addr) (len1 cap1 : Nat) (a2 : Option Addr) (len2 cap2 : Nat) (a3 : Option Addr) (len3 cap3 : Nat) (r1 : Rd Tryd.prog W 22 [.slice a1 len1 cap1]) (r2 : Rd Tryd.prog W 23 [.slice a2 len2 cap2]) (r3 : Rd Tryd.prog W 24 [.slice a3 len3 cap3]) (ht : TabOK W) :
    Calls Tryd.prog 3 #[.int .i64 n, .slice a1 len1 cap1, .slice a2 len2 cap2, .slice a3 len3 cap3] W fun e w' => e = .returned (.bool true) ∧ Below W.heap.size W w' := by
  by_cases hb : n < 1 ∨ 17 < n ∨ 30 < len1
  · exact (gaps_bad W n a1 len1 cap1 _ _ ht hb).mono fun e w' ⟨he, hf⟩ => ⟨he, hf.bel'⟩
  · obtain ⟨nn, rfl⟩ := Int.eq_ofNat_of_zero_le (show 0 ≤ n by omega)
    obtain ⟨l, ho, _⟩ := ops_of r1
    obtain ⟨more, hm, _⟩ := ls_of r2
    obtain ⟨zs, hz, _⟩ := r3.is
    exact (gaps_good W nn a1 len1 cap1 a2 len2 cap2 a3 len3 cap3 l more zs (by omega) (by omega) ho (by omega) hm hz ht).mono fun e w' ⟨he, hf⟩ => ⟨he, hf.bel'⟩
end Go.Proofs.YtcpbmempfeloaaaDoor
