/- Texts of the proofs, part 25: what the functions that they reach do, walked; no conditions beyond those that each states. -/
import Derived.Test.YtcpbmempfeloaaaDoorZz4beb21a179
set_option linter.unusedVariables false
set_option linter.unusedSimpArgs false
/- Law 6: JournalGaps, walked. -/
namespace Go.Proofs.YtcpbmempfeloaaaDoor
open Go.RowKit
set_option linter.unusedVariables false
set_option linter.unusedSimpArgs false

theorem Fr.bel' {w w' : World} (h : Fr (fun _ _ => True) w w') : Below w.heap.size w w' := (h.mono fun _ _ _ => trivial : Fr (fun b _ => b < w.heap.size) w w').below (Nat.le_refl _)
theorem St.fr {K : Nat → Obj → Prop} {n : Nat} {P : Nat → Prop} {w w' : World} {bj bd : Nat} {J : Jn} {D : Dk} (h : St n P w bj bd J D) (hf : Fr K w w') (hk : ∀ c o, w.heap[c]? = some o → P c → K c o) : St n P w' bj bd J D := ⟨h.jd.fr hf hk, h.lo, fun c hc => Nat.lt_of_lt_of_le (h.hi c hc) hf.size⟩
theorem St.b43 {n : Nat} {P : Nat → Prop} {w : World} {bj bd : Nat} {J : Jn} {D : Dk} (h : St n P w bj bd J D) : (∀ x ∈ J.all, x.length ≤ 43) ∧ J.all.length ≤ 100 := by
  obtain ⟨F, G, _, h2, _⟩ := h.jd
  have hw := h2.wf
  refine ⟨fun x hx => ?_, ?_⟩
  · obtain ⟨y, hy, rfl⟩ := List.mem_map.1 hx
    exact (hw.hd y hy).2
  · have := hw.few
    have := hw.n100
    unfold Jn.all
    rw [List.length_map]; omega
theorem own_cap' {w : World} {B : Nat} {e : TypeId} {s : Nat} {a : Option Addr} {n cap : Nat} {xs : List Value} (h : w.ownsRow B e s (.slice a n cap) n xs) : n ≤ cap := by
  rcases h.2 with ⟨_, h0⟩ | ⟨g, cap', cur, hv, _, _, hc, _⟩
  · omega
  · cases hv; exact hc
theorem size_bs1 : (sizeOf 33).run Tryd.prog = fun w => .ok 1 w := by kernel_rfl

set_option maxRecDepth 100000 in
theorem gaps_bad (W : World) (n : Int) (a1 : Option Addr) (len1 cap1 : Nat) (v2 v3 : Value) (ht : TabOK W) (h : n < 1 ∨ 17 < n ∨ 30 < len1) :
    Calls Tryd.prog 3 #[.int .i64 n, .slice a1 len1 cap1, v2, v3] W fun e w' => e = .returned (.bool true) ∧ Fr (fun _ _ => True) W w' := by
  have AW := Lib.hid (awake06 W ht)
  have MB : Hid (∀ w, Calls Tryd.prog 12 #[.int .i64 n, .slice a1 len1 cap1] w fun e w' => e = .returned (.tuple #[.pointer none, .pointer none]) ∧ w = w') := fun w => made_bad w n a1 len1 cap1 h
  clear ht h
  go_enter Tryd.func3, Tryd.ntmps3
  go_wp2_with fail
  (with_reducible refine AW.out.mono ?_)
  rintro e w1 ⟨rfl, f1⟩
  have F1 := Lib.hid f1
  clear f1
  go_wp2_with fail
  (with_reducible refine (MB.out w1).mono ?_)
  rintro e w2 ⟨rfl, rfl⟩
  go_wp2
  go_ret
  exact ⟨rfl, F1.out⟩

set_option maxRecDepth 100000 in
set_option maxHeartbeats 4000000 in
theorem gaps_good (W : World) (n : Nat) (a1 : Option Addr) (len1 cap1 : Nat) (a2 : Option Addr) (len2 cap2 : Nat) (a3 : Option Addr) (len3 cap3 : Nat) (l : List OpJ) (more : List (List UInt8)) (zs : List Int) (h1 : 1 ≤ n) (h2 : n ≤ 17) (ho : OpsAt W.heap.size W (.slice a1 len1 cap1) l) (hl : len1 ≤ 30)
    (hm : LsAt (fun c _ => c < W.heap.size) W (.slice a2 len2 cap2) more) (hz : IntsAt (fun c _ => c < W.heap.size) W (.slice a3 len3 cap3) zs) (ht : TabOK W) :
    Calls Tryd.prog 3 #[.int .i64 (n : Nat), .slice a1 len1 cap1, .slice a2 len2 cap2, .slice a3 len3 cap3] W fun e w' => e = .returned (.bool true) ∧ Fr (fun _ _ => True) W w' := by
  have hln := ho.len
  have hm2 : len2 = more.length := by obtain ⟨_, _, e, _⟩ := hm; cases e; rfl
  obtain ⟨J, D, L, bs, hjm, hji⟩ := jmade_ji 1 n h1 (by omega) l (by omega)
  have h0 : 0 < W.heap.size := by have := cell_lt (ht 0 (by decide)); simpa using this
  have AW := Lib.hid (awake06 W ht)
  have MS : Hid (∀ w, OpsAt w.heap.size w (.slice a1 len1 cap1) l → TabOK w → Calls Tryd.prog 12 #[.int .i64 (n : Nat), .slice a1 len1 cap1] w fun e w' => (∃ bd bj, e = .returned (.tuple #[.pointer (some ⟨bd, 0, none⟩), .pointer (some ⟨bj, 0, none⟩)]) ∧ JD (fun c => w.heap.size ≤ c) w' bj bd J D) ∧ Fr (fun _ _ => True) w w') := fun w h t => made_some w n a1 len1 cap1 l h1 h2 h t hl J D hjm
  have HO := Lib.hid ho
  have HMR := Lib.hid hm
  have HZ := Lib.hid hz
  have HT := Lib.hid ht
  have HJI := Lib.hid hji
  have HL2 := Lib.hid hm2
  have HLN := Lib.hid hln
  clear ho hm hz ht hji hjm hln hm2
  by_cases hbig : 10 < len2
  · have hbig' : (10 : Int) < len2 := by omega
    go_enter Tryd.func3, Tryd.ntmps3
    go_wp2_with fail
    (with_reducible refine AW.out.mono ?_)
    rintro e w1 ⟨rfl, f1⟩
    have F1 := Lib.hid f1
    have MC := Lib.hid (MS.out w1 ((HO.out.fr (f1.mono fun _ _ _ => trivial)).mono f1.size) (HT.out.tt f1))
    clear f1
    go_wp2_with fail
    (with_reducible refine MC.out.mono ?_)
    rintro e w2 ⟨⟨bd, bj, rfl, d2⟩, f2⟩
    have F2 := Lib.hid (F1.out.trans f2)
    clear d2 f2 MC
    go_wp2
    go_ret
    exact ⟨rfl, F2.out⟩
  · have hsm' : (len2 : Int) ≤ 10 := by omega
    have law := gaps_law HJI.out more (by have := HL2.out; have := HLN.out; omega) zs
    obtain ⟨J', D', hop, q1, q2, q3⟩ := law
    obtain ⟨fin, hfin⟩ : ∃ fin, more.foldl japps (J, D.sync, J.all) = fin := ⟨_, rfl⟩
    rw [hfin] at hop q2 q3
    have PB : Hid (∀ j, j ≤ more.length → ((more.take j).foldl japps (J, D.sync, J.all)).2.1.pend.length ≤ 100 ∧ ((more.take j).foldl japps (J, D.sync, J.all)).2.2.length ≤ 100) := fun j hj => by
      have := HLN.out
      have := HL2.out
      obtain ⟨bs', i1, i2, _⟩ := japps_ji (more.take j) (1 + l.length) J D.sync [] (HJI.out.syncs (by omega)) (by rw [List.length_take]; omega)
      have hp := i1.pend
      have := i1.few
      refine ⟨?_, ?_⟩
      · rw [hp, pendOf_length]; omega
      · rw [i2]; simp; omega
    have HFIN := Lib.hid hfin
    have HOP := Lib.hid hop
    have Q1 := Lib.hid q1
    have Q2 := Lib.hid q2
    have Q3 := Lib.hid q3
    clear hfin hop q1 q2 q3
    go_enter Tryd.func3, Tryd.ntmps3
    go_wp2_with fail
    (with_reducible refine AW.out.mono ?_)
    rintro e w1 ⟨rfl, f1⟩
    have F1 := Lib.hid f1
    have S1 : Hid (W.heap.size ≤ w1.heap.size) := f1.size
    have MC := Lib.hid (MS.out w1 ((HO.out.fr (f1.mono fun _ _ _ => trivial)).mono f1.size) (HT.out.tt f1))
    clear f1
    go_wp2_with fail
    (with_reducible refine MC.out.mono ?_)
    rintro e w2 ⟨⟨bd, bj, rfl, d2⟩, f2⟩
    have T2 := Lib.hid (St.of d2)
    have F2 : Hid (Fr (fun c _ => c < w1.heap.size) w1 w2) := f2.mono fun _ _ _ => trivial
    have h1s : Hid (0 < w1.heap.size) := by have := S1.out; show 0 < _; omega
    clear d2 f2 MC
    -- what came in, and the table, at later worlds
    have TT : Hid (∀ w, Fr (fun c _ => c < w1.heap.size) w1 w → TabOK w) := fun w f => by
      have t := HT.out.tt F1.out
      exact fun i hi => f.cell (fun _ _ => h1s.out) (t i hi)
    have MM : Hid (∀ w, Fr (fun c _ => c < w1.heap.size) w1 w → LsAt (fun c _ => c < w1.heap.size) w (.slice a2 len2 cap2) more) := fun w f => ((HMR.out.fr (F1.out.mono fun _ _ _ => trivial)).mono fun c _ _ h => by have := S1.out; omega).fr f
    have ZZ : Hid (∀ w, Fr (fun c _ => c < w1.heap.size) w1 w → IntsAt (fun c _ => c < w1.heap.size) w (.slice a3 len3 cap3) zs) := fun w f => ((HZ.out.fr F1.out fun _ _ _ => trivial).mono fun c _ h => by have := S1.out; omega).fr f fun _ _ h => h
    have SC := Lib.hid (st_sync T2.out F2.out.size)
    go_wp2_with fail
    (with_reducible refine SC.out.mono ?_)
    rintro e w3 ⟨rfl, P3, t3, k3⟩
    have T3 := Lib.hid t3
    have F3 : Hid (Fr (fun c _ => c < w1.heap.size) w1 w3) := F2.out.trans (k3.low T2.out.lo)
    clear t3 k3 SC
    have SC := Lib.hid (st_all T3.out)
    go_wp2_with fail
    (with_reducible refine SC.out.mono ?_)
    rintro e w4 ⟨⟨as1, cs1, Vs1, rfl, _, _⟩, f4⟩
    have T4 := Lib.hid (T3.out.tt f4)
    have F4 : Hid (Fr (fun c _ => c < w1.heap.size) w1 w4) := F3.out.tt f4
    clear f4 SC
    have SC := Lib.hid (st_all2 T4.out F4.out.size)
    go_wp2_with fail
    (with_reducible refine SC.out.mono ?_)
    rintro e w5 ⟨⟨aa, ca, Va, rfl, hVl, row, hV⟩, f5⟩
    have T5 := Lib.hid (T4.out.tt f5)
    have F5 : Hid (Fr (fun c _ => c < w1.heap.size) w1 w5) := F4.out.tt f5
    have R5 := Lib.hid row
    have HV := Lib.hid hV
    obtain ⟨nS, hnS⟩ : ∃ nS, J.all.length = nS := ⟨_, rfl⟩
    rw [hnS] at hVl Q1 ⊢
    have HVL := Lib.hid hVl
    clear f5 SC row hV hVl hnS
    go_wp2
    go_loopw [13, 14] (fun s i wr => ∃ (j : Nat) (a : Option Addr) (c : Nat) (V : List (Value × List UInt8)) (P : Nat → Prop) (Jj : Jn) (Dj : Dk), s = .slice a V.length c ∧ i = .int .i64 (j : Nat) ∧ j ≤ len2 ∧ Hid ((more.take j).foldl japps (J, D.sync, J.all) = (Jj, Dj, V.map (·.2))) ∧ Hid (St w1.heap.size P wr bj bd Jj Dj) ∧ Hid (Row w1.heap.size P wr a c V) ∧ Hid (Fr (fun c _ => c < w1.heap.size) w1 wr)) (fun _ i _ => len2 - (intOf i).toNat)
    case atStart =>
      refine ⟨0, aa, ca, Va, P3, J, D.sync, ?_, rfl, Nat.zero_le _, ?_, T5, R5, F5⟩
      · rw [HVL.out]
      · show _ = _
        rw [HV.out]; rfl
    case round =>
      obtain ⟨j, a, c, V, P, Jj, Dj, rfl, rfl, hj, HF, TJ, RJ, FJ⟩ := hrel
      by_cases hlt : j < len2
      · have hltI : (j : Int) < len2 := by omega
        have hlt' : j < more.length := by have := HL2.out; omega
        obtain ⟨bb, off, vb, hab, k1, x1⟩ := (MM.out wr FJ.out).at j hlt'
        have hST : (more.take (j + 1)).foldl japps (J, D.sync, J.all) = japps (Jj, Dj, V.map (·.2)) more[j] := by
          rw [List.take_succ_eq_append_getElem hlt', List.foldl_append, HF.out]; rfl
        have hpe : Dj.pend.length ≤ 100 := by
          have := (PB.out j (by omega)).1
          rw [HF.out] at this
          exact this
        have hVV : V.length ≤ 1000000 := by
          have := (PB.out j (by omega)).2
          rw [HF.out] at this
          replace this : (V.map (·.2)).length ≤ 100 := this
          rw [List.length_map] at this
          omega
        have AT6 : Hid (∀ w, Fr (fun c _ => c < w1.heap.size) w1 w → ∃ vb, w.cell? ⟨bb, off + j, none⟩ = some vb ∧ BytesAt (fun c _ => c < w1.heap.size) w vb more[j]) := fun w f => by
          obtain ⟨bb', off', vb', hab', k1', x1'⟩ := (MM.out w f).at j hlt'
          rw [hab] at hab'
          cases hab'
          exact ⟨vb', k1', x1'⟩
        obtain ⟨b, hb⟩ : ∃ b, more[j] = b := ⟨_, rfl⟩
        rw [hb] at x1 hST AT6
        subst hab
        obtain ⟨vy, vz, rfl⟩ := x1.form
        have SC := Lib.hid (st_append TJ.out h1s.out FJ.out.size _ b x1 (TT.out wr FJ.out) (by omega))
        obtain ⟨c6, J6, D6, h6⟩ : ∃ c6 J6 D6, jappend Jj Dj b = (c6, J6, D6) := ⟨_, _, _, rfl⟩
        rw [h6] at SC
        have hst2 : (more.take (j + 1)).foldl japps (J, D.sync, J.all) = (J6, D6, if c6 = 0 then V.map (·.2) ++ [b] else V.map (·.2)) := by
          rw [hST]; unfold japps; rw [h6]
        have HST := Lib.hid hst2
        clear hST hst2 h6 hb x1 hpe hlt'
        go_wp2_with fail
        (with_reducible refine SC.out.mono ?_)
        rintro e w6 ⟨rfl, P6, t6, k6⟩
        have T6 : Hid (St w1.heap.size P6 w6 bj bd J6 D6) := t6
        have F6 : Hid (Fr (fun c _ => c < w1.heap.size) w1 w6) := FJ.out.trans (k6.low TJ.out.lo)
        have R6 := Lib.hid (RJ.out.kp k6)
        clear t6 k6 SC k1 TJ RJ FJ
        by_cases q : c6 = 0
        · subst q
          obtain ⟨vb6, k6, x6⟩ := AT6.out w6 F6.out
          obtain ⟨v6a, v6c, rfl⟩ := x6.form
          obtain ⟨W7, hW7⟩ : ∃ W7, w6.alloc (.cells #[.slice v6a b.length v6c] 33 (0, 0)) = W7 := ⟨_, rfl⟩
          have FW : Hid (Fr (fun _ _ => True) w6 W7) := hW7 ▸ (Fr.refl _ w6).alloc _
          have HX : Hid (∃ fz, W7.heap[w6.heap.size]? = some (.cells #[.slice v6a b.length v6c] 33 fz)) := ⟨_, hW7 ▸ heap_alloc_new _ _⟩
          have OW := Lib.hid (R6.out.own.tt FW.out)
          have BX : Hid (BytesAt (fun k _ => ¬ P6 k ∧ (Value.slice a V.length c).ownBlock ≠ some k) W7 (.slice v6a b.length v6c) b) := (x6.tt FW.out).mono fun k o _ hk => ⟨fun hp => by have := T6.out.lo k hp; omega, fun e => by have := R6.out.ab k e; omega⟩
          have HR : Hid (∀ k, W7.heap.size ≤ k → ¬ P6 k) := fun k hk hp => by
            have := T6.out.hi k hp
            have := FW.out.size
            omega
          clear x6
          go_wp2_with (at_builtin; refine wpList_append_l2 W7 rfl _ _ rfl (fun k => ¬ P6 k) _ V rfl OW w6.heap.size rfl (.slice v6a b.length v6c) b HX BX hVV HR.out ?_)
          intro a8 c8 w8 O8 G8 N8
          have F78 : Hid (Fr (fun k _ => (Value.slice a V.length c).ownBlock ≠ some k) W7 w8) := (Fr.refl _ W7).grown G8.out fun k o e ho hk => hk e
          have T8 : Hid (St w1.heap.size P6 w8 bj bd J6 D6) := (T6.out.tt FW.out).fr F78.out fun k o _ hp e => R6.out.own.rb k e hp
          have F8 : Hid (Fr (fun k _ => k < w1.heap.size) w1 w8) := (F6.out.tt FW.out).trans (F78.out.mono fun k _ hk e => by have := R6.out.ab k e; omega)
          have R8 : Hid (Row w1.heap.size P6 w8 a8 c8 (V ++ [(.slice v6a b.length v6c, b)])) := ⟨by rw [List.length_append]; exact O8.out, by
            rw [List.length_append]
            exact N8.out.above R6.out.ab (by have := F6.out.size; have := FW.out.size; omega)⟩
          clear hW7 OW BX HX O8 G8 N8 F78
          go_wp2
          go_roundw
          case rel =>
            refine ⟨j + 1, a8, c8, V ++ [(.slice v6a b.length v6c, b)], P6, J6, D6, by rw [List.length_append]; rfl, by go_num, by omega, ?_, T8, R8, F8⟩
            show _ = _
            rw [HST.out]; simp
          case measure => simp [intOf]; omega
        · have q' : (c6 == 0) = false := by simpa using q
          go_wp2
          go_roundw
          case rel =>
            refine ⟨j + 1, a, c, V, P6, J6, D6, rfl, by go_num, by omega, ?_, T6, R6, F6⟩
            show _ = _
            rw [HST.out, if_neg q]
          case measure => simp [intOf]; omega
      · have hge : (len2 : Int) ≤ j := by omega
        have hfin : Hid (fin = (Jj, Dj, V.map (·.2))) := by
          show _ = _
          rw [← HFIN.out, ← HF.out, List.take_of_length_le (by have := HL2.out; omega)]
        have hop : Hid (jopen (Dj.crash zs) 1 n = (0, some J', D')) := by
          have := HOP.out
          rw [hfin.out] at this
          exact this
        have q2 : J'.all.length ≤ V.length := by
          have := Q2.out
          rw [hfin.out] at this
          simpa using this
        have q3 : Hid (J'.all = (V.map (·.2)).take J'.all.length) := by
          have := Q3.out
          rw [hfin.out] at this
          exact this
        have q1 := Q1.out
        have Q2' := Lib.hid q2
        have SC := Lib.hid (sd_crash TJ.out.sd FJ.out.size a3 len3 cap3 zs (ZZ.out wr FJ.out) (fun k o hk hp => by have := TJ.out.lo k hp; omega))
        clear hfin q1 q2 hlt
        go_wp2_with fail
        (with_reducible refine SC.out.mono ?_)
        rintro e w6 ⟨rfl, P6, t6, k6⟩
        have T6 := Lib.hid t6
        have F6 : Hid (Fr (fun c _ => c < w1.heap.size) w1 w6) := FJ.out.trans (k6.low TJ.out.lo)
        have R6 := Lib.hid (RJ.out.kp k6)
        have SC := Lib.hid (sd_open T6.out F6.out.size 1 n (TT.out w6 F6.out) (by show (0 : Nat) < 1000000; decide) J' D' 0 hop.out)
        clear t6 k6
        go_wp2_with fail
        (with_reducible refine SC.out.mono ?_)
        rintro e w7 ⟨b7, a7, c7, V7, P7, rfl, t7, o7, hV7, k7⟩
        have T7 := Lib.hid t7
        have O7 := Lib.hid o7
        have HV7 := Lib.hid hV7
        have F7 : Hid (Fr (fun c _ => c < w1.heap.size) w1 w7) := F6.out.trans (k7.low T6.out.lo)
        have R7 := Lib.hid (R6.out.kp k7)
        clear t7 o7 hV7 k7 SC
        have hb43 := Lib.hid T7.out.b43
        obtain ⟨m, hm⟩ : ∃ m, J'.all.length = m := ⟨_, rfl⟩
        have hm0 := hm
        have i1 : nS ≤ m := by rw [← hm]; exact Q1.out
        have i2 : m ≤ V.length := by rw [← hm]; exact Q2'.out
        have d1 : decide (m < nS) = false := by simp; omega
        have d2 : decide (V.length < m) = false := by simp; omega
        have hls := R7.out.own.ls
        have hcap : V.length ≤ c := own_cap' R7.out.own.row
        have hsl := fun W => run_slice_toS (P := Tryd.prog) 1 Tryd.underlying23 size_bs1 W a V.length c m .i64 (by omega)
        have SM : Calls Tryd.prog 18 #[.slice a7 m c7, .slice a m c] w7 fun e w' => e = .returned (.bool true) ∧ ∃ k, w' = w7.drewN k := by
          have hl7 := O7.out.ls
          rw [HV7.out, hm] at hl7
          have hl8 := hls.take m (by simpa using i2)
          have := jsame_calls w7 _ _ _ _ hl7 hl8 (fun x hx => by have := hb43.out.1 x hx; omega) (by have := hb43.out.2; omega)
          rw [decide_eq_true (by have := q3.out; rw [hm] at this; exact this)] at this
          exact this
        have SMH := Lib.hid SM
        have HM := Lib.hid hm0
        rw [hm]
        clear hls SM hm hm0 hop q3
        go_wp2_with fail
        (with_reducible refine SMH.out.mono ?_)
        rintro e w8 ⟨rfl, k8, rfl⟩
        go_wp2
        go_ret
        exact ⟨rfl, F1.out.trans (Fr.within ((F7.out.drewN k8).mono fun _ _ h => h.2))⟩

theorem gaps_walk (W : World) (n : Int) (w0 : (Lit.int .i64 n).wf = true) (a1 : Option Addr) (len1 cap1 : Nat) (a2 : Option Addr) (len2 cap2 : Nat) (a3 : Option Addr) (len3 cap3 : Nat) (r1 : Rd Tryd.prog W 22 [.slice a1 len1 cap1]) (r2 : Rd Tryd.prog W 23 [.slice a2 len2 cap2]) (r3 : Rd Tryd.prog W 24 [.slice a3 len3 cap3]) (ht : TabOK W) :
    Calls Tryd.prog 3 #[.int .i64 n, .slice a1 len1 cap1, .slice a2 len2 cap2, .slice a3 len3 cap3] W fun e w' => e = .returned (.bool true) ∧ Below W.heap.size W w' := by
  by_cases hb : n < 1 ∨ 17 < n ∨ 30 < len1
  · exact (gaps_bad W n a1 len1 cap1 _ _ ht hb).mono fun e w' ⟨he, hf⟩ => ⟨he, hf.bel'⟩
  · obtain ⟨nn, rfl⟩ := Int.eq_ofNat_of_zero_le (show 0 ≤ n by omega)
    obtain ⟨l, ho, _⟩ := ops_of r1
    obtain ⟨more, hm, _⟩ := ls_of r2
    obtain ⟨zs, hz, _⟩ := r3.is
    exact (gaps_good W nn a1 len1 cap1 a2 len2 cap2 a3 len3 cap3 l more zs (by omega) (by omega) ho (by omega) hm hz ht).mono fun e w' ⟨he, hf⟩ => ⟨he, hf.bel'⟩
end Go.Proofs.YtcpbmempfeloaaaDoor
/- Law 6: JournalAgain, walked. -/
namespace Go.Proofs.YtcpbmempfeloaaaDoor
open Go.RowKit
set_option linter.unusedVariables false
set_option linter.unusedSimpArgs false

set_option maxRecDepth 100000 in
theorem again_bad (W : World) (n : Int) (a1 : Option Addr) (len1 cap1 : Nat) (v2 : Value) (ht : TabOK W) (h : n < 1 ∨ 17 < n ∨ 30 < len1) :
    Calls Tryd.prog 5 #[.int .i64 n, .slice a1 len1 cap1, v2] W fun e w' => e = .returned (.bool true) ∧ Fr (fun _ _ => True) W w' := by
  have AW := Lib.hid (awake06 W ht)
  have MB : Hid (∀ w, Calls Tryd.prog 12 #[.int .i64 n, .slice a1 len1 cap1] w fun e w' => e = .returned (.tuple #[.pointer none, .pointer none]) ∧ w = w') := fun w => made_bad w n a1 len1 cap1 h
  clear ht h
  go_enter Tryd.func5, Tryd.ntmps5
  go_wp2_with fail
  (with_reducible refine AW.out.mono ?_)
  rintro e w1 ⟨rfl, f1⟩
  have F1 := Lib.hid f1
  clear f1
  go_wp2_with fail
  (with_reducible refine (MB.out w1).mono ?_)
  rintro e w2 ⟨rfl, rfl⟩
  go_wp2
  go_ret
  exact ⟨rfl, F1.out⟩

theorem Row.len {n : Nat} {P : Nat → Prop} {w : World} {a : Option Addr} {c : Nat} {V : List (Value × List UInt8)} (h : Row n P w a c V) {L : List (List UInt8)} (hV : V.map (·.2) = L) : LsAt (fun c _ => ¬ P c) w (.slice a L.length c) L := by
  have := h.own.ls
  rw [hV] at this
  have hl : V.length = L.length := by rw [← hV, List.length_map]
  rw [hl] at this
  exact this
theorem OwnL.lsl {w : World} {R : Nat → Prop} {a : Option Addr} {m c : Nat} {V : List (Value × List UInt8)} (h : OwnL w R (.slice a m c) V) {L : List (List UInt8)} (hV : V.map (·.2) = L) : LsAt (fun c _ => R c) w (.slice a m c) L := by
  have := h.ls
  rw [hV] at this
  exact this
/-- Two rows that are alike. -/
theorem same_true {K K' : Nat → Obj → Prop} {w : World} {va vb : Value} {A B : List (List UInt8)} (ha : LsAt K w va A) (hb : LsAt K' w vb B) (h : A = B) (h43 : ∀ x ∈ A, x.length ≤ 43) (hl : A.length ≤ 100) :
    Calls Tryd.prog 18 #[va, vb] w fun e w' => e = .returned (.bool true) ∧ ∃ k, w' = w.drewN k := by
  have := jsame_calls w va vb A B ha hb (fun x hx => by have := h43 x hx; omega) (by omega)
  rw [decide_eq_true h] at this
  exact this

set_option maxRecDepth 100000 in
set_option maxHeartbeats 4000000 in
theorem again_good (W : World) (n : Nat) (a1 : Option Addr) (len1 cap1 : Nat) (a2 : Option Addr) (len2 cap2 : Nat) (l : List OpJ) (b : List UInt8) (h1 : 1 ≤ n) (h2 : n ≤ 17) (ho : OpsAt W.heap.size W (.slice a1 len1 cap1) l) (hl : len1 ≤ 30)
    (hb : BytesAt (fun c _ => c < W.heap.size) W (.slice a2 len2 cap2) b) (ht : TabOK W) :
    Calls Tryd.prog 5 #[.int .i64 (n : Nat), .slice a1 len1 cap1, .slice a2 len2 cap2] W fun e w' => e = .returned (.bool true) ∧ Fr (fun _ _ => True) W w' := by
  have hln := ho.len
  obtain ⟨J, D, L, bs, hjm, hji⟩ := jmade_ji 1 n h1 (by omega) l (by omega)
  have h0 : 0 < W.heap.size := by have := cell_lt (ht 0 (by decide)); simpa using this
  have AW := Lib.hid (awake06 W ht)
  have MS : Hid (∀ w, OpsAt w.heap.size w (.slice a1 len1 cap1) l → TabOK w → Calls Tryd.prog 12 #[.int .i64 (n : Nat), .slice a1 len1 cap1] w fun e w' => (∃ bd bj, e = .returned (.tuple #[.pointer (some ⟨bd, 0, none⟩), .pointer (some ⟨bj, 0, none⟩)]) ∧ JD (fun c => w.heap.size ≤ c) w' bj bd J D) ∧ Fr (fun _ _ => True) w w') := fun w h t => made_some w n a1 len1 cap1 l h1 h2 h t hl J D hjm
  have HO := Lib.hid ho
  have HBR := Lib.hid hb
  have HT := Lib.hid ht
  have HBL := Lib.hid hb.len
  obtain ⟨J1, D1, J2, D2, c, J3, D3, J4, D4, e1, g1, e2, g2, e3, e4, g4, hcase, p0, p1, p2, p3⟩ := again_law hji (by omega) b
  have E1 : Hid (jopen D.sync 1 n = (0, some J1, D1)) := e1
  have E2 : Hid (jopen D1 1 n = (0, some J2, D2)) := e2
  have E4 : Hid (jopen (D3.sync.crash []) 1 n = (0, some J4, D4)) := e4
  have E3 := Lib.hid e3
  have L1 := Lib.hid g1
  have L2 := Lib.hid g2
  have L4 := Lib.hid g4
  have HC := Lib.hid hcase
  have HP0 := Lib.hid p0
  have HP1 := Lib.hid p1
  have HP2 := Lib.hid p2
  have HP3 := Lib.hid p3
  clear ho hb ht hji hjm hln e1 e2 e3 e4 g1 g2 g4 hcase p0 p1 p2 p3
  go_enter Tryd.func5, Tryd.ntmps5
  go_wp2_with fail
  (with_reducible refine AW.out.mono ?_)
  rintro e w1 ⟨rfl, f1⟩
  have F1 := Lib.hid f1
  have S1 : Hid (W.heap.size ≤ w1.heap.size) := f1.size
  have MC := Lib.hid (MS.out w1 ((HO.out.fr (f1.mono fun _ _ _ => trivial)).mono f1.size) (HT.out.tt f1))
  clear f1
  go_wp2_with fail
  (with_reducible refine MC.out.mono ?_)
  rintro e w2 ⟨⟨bd, bj, rfl, d2⟩, f2⟩
  have T2 := Lib.hid (St.of d2)
  have F2 : Hid (Fr (fun c _ => c < w1.heap.size) w1 w2) := f2.mono fun _ _ _ => trivial
  have h1s : Hid (0 < w1.heap.size) := by have := S1.out; show 0 < _; omega
  clear d2 f2 MC
  have TT : Hid (∀ w, Fr (fun c _ => c < w1.heap.size) w1 w → TabOK w) := fun w f => by
    have t := HT.out.tt F1.out
    exact fun i hi => f.cell (fun _ _ => h1s.out) (t i hi)
  have BB : Hid (∀ w, Fr (fun c _ => c < w1.heap.size) w1 w → BytesAt (fun c _ => c < w1.heap.size) w (.slice a2 len2 cap2) b) := fun w f => ((HBR.out.tt F1.out).mono fun c _ _ h => by have := S1.out; omega).fr f
  have SC := Lib.hid (st_sync T2.out F2.out.size)
  go_wp2_with fail
  (with_reducible refine SC.out.mono ?_)
  rintro e w3 ⟨rfl, P3, t3, k3⟩
  have T3 := Lib.hid t3
  have F3 : Hid (Fr (fun c _ => c < w1.heap.size) w1 w3) := F2.out.trans (k3.low T2.out.lo)
  clear t3 k3 SC
  have SC := Lib.hid (st_all2 T3.out F3.out.size)
  go_wp2_with fail
  (with_reducible refine SC.out.mono ?_)
  rintro e w4 ⟨⟨a, cc, V, rfl, hVl, row, hV⟩, f4⟩
  have T4 := Lib.hid (T3.out.tt f4)
  have F4 : Hid (Fr (fun c _ => c < w1.heap.size) w1 w4) := F3.out.tt f4
  have R4 := Lib.hid row
  have HV := Lib.hid hV
  have HVL := Lib.hid hVl
  rw [← HVL.out]
  clear f4 SC row hV hVl
  have SC := Lib.hid (sd_open T4.out.sd F4.out.size 1 n (TT.out w4 F4.out) (by have := HP0.out; omega) J1 D1 0 E1.out)
  go_wp2_with fail
  (with_reducible refine SC.out.mono ?_)
  rintro e w5 ⟨b5, a5, c5, V5, P5, rfl, t5, o5, hV5, k5⟩
  have T5 := Lib.hid t5
  have O5 := Lib.hid o5
  have HV5 := Lib.hid hV5
  have F5 : Hid (Fr (fun c _ => c < w1.heap.size) w1 w5) := F4.out.trans (k5.low T4.out.lo)
  have R5 := Lib.hid (R4.out.kp k5)
  clear t5 o5 hV5 k5 SC
  have SC := Lib.hid (sd_open T5.out.sd F5.out.size 1 n (TT.out w5 F5.out) (by have := HP1.out; omega) J2 D2 0 E2.out)
  go_wp2_with fail
  (with_reducible refine SC.out.mono ?_)
  rintro e w6 ⟨b6, a6, c6, V6, P6, rfl, t6, o6, hV6, k6⟩
  have T6 := Lib.hid t6
  have O6 := Lib.hid o6
  have HV6 := Lib.hid hV6
  have F6 : Hid (Fr (fun c _ => c < w1.heap.size) w1 w6) := F5.out.trans (k6.low T5.out.lo)
  have R6 := Lib.hid (R5.out.kp k6)
  have O5' := Lib.hid (O5.out.kp k6)
  have X5 := Lib.hid T5.out.b43
  have X6 := Lib.hid T6.out.b43
  clear t6 o6 hV6 k6 SC
  have W6 : Hid (LsAt (fun c _ => ¬ P6 c) w6 (.slice a V.length cc) J.all) := by
    have := R6.out.own.ls
    rw [HV.out] at this
    exact this
  have SM := Lib.hid (same_true (O5'.out.lsl HV5.out) W6.out L1.out X5.out.1 X5.out.2)
  go_wp2_with fail
  (with_reducible refine SM.out.mono ?_)
  rintro e w7 ⟨rfl, k7, hw7⟩
  have D7 : Hid (Fr (fun _ _ => True) w6 w7) := by rw [hw7]; exact (Fr.refl _ _).drewN k7
  clear hw7 SM
  have SM := Lib.hid (same_true ((O6.out.tt D7.out).lsl HV6.out) (W6.out.fr (D7.out.mono fun _ _ _ => trivial)) L2.out X6.out.1 X6.out.2)
  go_wp2_with fail
  (with_reducible refine SM.out.mono ?_)
  rintro e w8 ⟨rfl, k8, hw8⟩
  have D8 : Hid (Fr (fun _ _ => True) w6 w8) := by rw [hw8]; exact D7.out.drewN k8
  clear hw8 SM
  have T8 := Lib.hid (T6.out.tt D8.out)
  have F8 : Hid (Fr (fun c _ => c < w1.heap.size) w1 w8) := F6.out.tt D8.out
  have R8 := Lib.hid (R6.out.tt D8.out)
  have X3 : Hid (∀ P w bj bd D', St w1.heap.size P w bj bd J3 D' → ∀ x ∈ J3.all, x.length ≤ 43) := fun P w bj bd D' h => h.b43.1
  clear D7 D8 O5 O5' O6 W6 X5 X6
  have SC := st_append T8.out h1s.out F8.out.size _ b (BB.out w8 F8.out) (TT.out w8 F8.out) (by have := HP2.out; omega)
  rw [E3.out] at SC
  have SC := Lib.hid SC
  go_wp2_with fail
  (with_reducible refine SC.out.mono ?_)
  rintro e w9 ⟨rfl, P9, t9, k9⟩
  have T9 : Hid (St w1.heap.size P9 w9 b6 bd J3 D3) := t9
  have F9 : Hid (Fr (fun c _ => c < w1.heap.size) w1 w9) := F8.out.trans (k9.low T8.out.lo)
  have R9 := Lib.hid (R8.out.kp k9)
  clear t9 k9 SC
  rcases HC.out with ⟨hc, h3⟩ | ⟨hc, h3, h4⟩
  · subst hc
    have H3 := Lib.hid h3
    obtain ⟨W7, hW7⟩ : ∃ W7, w9.alloc (.cells #[.slice a2 len2 cap2] 33 (0, 0)) = W7 := ⟨_, rfl⟩
    have FW : Hid (Fr (fun _ _ => True) w9 W7) := hW7 ▸ (Fr.refl _ w9).alloc _
    have HX : Hid (∃ fz, W7.heap[w9.heap.size]? = some (.cells #[.slice a2 len2 cap2] 33 fz)) := ⟨_, hW7 ▸ heap_alloc_new _ _⟩
    have OW := Lib.hid (R9.out.own.tt FW.out)
    have BX : Hid (BytesAt (fun k _ => ¬ P9 k ∧ (Value.slice a V.length cc).ownBlock ≠ some k) W7 (.slice a2 len2 cap2) b) := ((BB.out w9 F9.out).tt FW.out).mono fun k o _ hk => ⟨fun hp => by have := T9.out.lo k hp; omega, fun e => by have := R9.out.ab k e; omega⟩
    have HR : Hid (∀ k, W7.heap.size ≤ k → ¬ P9 k) := fun k hk hp => by
      have := T9.out.hi k hp
      have := FW.out.size
      omega
    have hVV : V.length ≤ 1000000 := by
      have h43 := T8.out.b43.2
      have := congrArg List.length HV.out
      rw [List.length_map] at this
      have := congrArg List.length L2.out
      omega
    clear h3
    go_wp2_with (at_builtin; refine wpList_append_l2 W7 rfl _ _ rfl (fun k => ¬ P9 k) _ V rfl OW w9.heap.size rfl (.slice a2 len2 cap2) b HX BX hVV HR.out ?_)
    intro a8 c8 wx O8 G8 N8
    have F78 : Hid (Fr (fun k _ => (Value.slice a V.length cc).ownBlock ≠ some k) W7 wx) := (Fr.refl _ W7).grown G8.out fun k o e ho hk => hk e
    have TX : Hid (St w1.heap.size P9 wx b6 bd J3 D3) := (T9.out.tt FW.out).fr F78.out fun k o _ hp e => R9.out.own.rb k e hp
    have FX : Hid (Fr (fun k _ => k < w1.heap.size) w1 wx) := (F9.out.tt FW.out).trans (F78.out.mono fun k _ hk e => by have := R9.out.ab k e; omega)
    have RX : Hid (Row w1.heap.size P9 wx a8 c8 (V ++ [(.slice a2 len2 cap2, b)])) := ⟨by rw [List.length_append]; exact O8.out, by
      rw [List.length_append]
      exact N8.out.above R9.out.ab (by have := F9.out.size; have := FW.out.size; omega)⟩
    have HVX : Hid ((V ++ [(Value.slice a2 len2 cap2, b)]).map (·.2) = J3.all) := by
      show _ = _
      rw [List.map_append, HV.out, H3.out]; rfl
    have HLX : Hid ((V ++ [(Value.slice a2 len2 cap2, b)]).length = V.length + 1) := by show _ = _; simp
    clear hW7 OW BX HX O8 G8 N8 F78 R9 T9 F9 R8 T8 F8
    have SC := Lib.hid (st_sync TX.out FX.out.size)
    go_wp2_with fail
    (with_reducible refine SC.out.mono ?_)
    rintro e wa ⟨rfl, Pa, ta, ka⟩
    have Ta := Lib.hid ta
    have Fa : Hid (Fr (fun c _ => c < w1.heap.size) w1 wa) := FX.out.trans (ka.low TX.out.lo)
    have Ra := Lib.hid (RX.out.kp ka)
    clear ta ka SC
    have SC := Lib.hid (sd_crash (K := fun _ _ => False) Ta.out.sd Fa.out.size none 0 0 [] ⟨none, 0, rfl, .inl rfl⟩ (fun k o hk => hk.elim))
    go_wp2_with fail
    (with_reducible refine SC.out.mono ?_)
    rintro e wb ⟨rfl, Pb, tb, kb⟩
    have Tb := Lib.hid tb
    have Fb : Hid (Fr (fun c _ => c < w1.heap.size) w1 wb) := Fa.out.trans (kb.low Ta.out.lo)
    have Rb := Lib.hid (Ra.out.kp kb)
    clear tb kb SC
    have SC := Lib.hid (sd_open Tb.out Fb.out.size 1 n (TT.out wb Fb.out) (by show (0 : Nat) < 1000000; decide) J4 D4 0 E4.out)
    go_wp2_with fail
    (with_reducible refine SC.out.mono ?_)
    rintro e wc ⟨bc, ac, c9, Vc, Pc, rfl, tc, oc, hVc, kc⟩
    have Tc := Lib.hid tc
    have Oc := Lib.hid oc
    have HVc := Lib.hid hVc
    have Fc : Hid (Fr (fun c _ => c < w1.heap.size) w1 wc) := Fb.out.trans (kc.low Tb.out.lo)
    have Rc := Lib.hid (Rb.out.kp kc)
    have Xc := Lib.hid Tc.out.b43
    clear tc oc hVc kc SC
    have WX : Hid (LsAt (fun c _ => ¬ Pc c) wc (.slice a8 (V.length + 1) c8) J3.all) := by
      have := Rc.out.own.ls
      rw [HVX.out, HLX.out] at this
      exact this
    have SM := Lib.hid (same_true (Oc.out.lsl HVc.out) WX.out L4.out Xc.out.1 Xc.out.2)
    go_wp2_with fail
    (with_reducible refine SM.out.mono ?_)
    rintro e wd ⟨rfl, kd, hwd⟩
    have Fd : Hid (Fr (fun _ _ => True) W wd) := by
      rw [hwd]; exact F1.out.trans (Fr.within ((Fc.out.drewN kd).mono fun _ _ h => h.2))
    clear hwd SM
    go_wp2
    go_ret
    exact ⟨rfl, Fd.out⟩
  · have H3 := Lib.hid h3
    have H4 := Lib.hid h4
    have hc' : (c == 0) = false := by simpa using hc
    have TX := T9
    have FX := F9
    have RX := R9
    have HVX : Hid (V.map (·.2) = J3.all) := by
      show _ = _
      rw [HV.out, H3.out]
    clear h3 h4
    have SC := Lib.hid (st_sync TX.out FX.out.size)
    go_wp2_with fail
    (with_reducible refine SC.out.mono ?_)
    rintro e wa ⟨rfl, Pa, ta, ka⟩
    have Ta := Lib.hid ta
    have Fa : Hid (Fr (fun c _ => c < w1.heap.size) w1 wa) := FX.out.trans (ka.low TX.out.lo)
    have Ra := Lib.hid (RX.out.kp ka)
    clear ta ka SC
    have SC := Lib.hid (sd_crash (K := fun _ _ => False) Ta.out.sd Fa.out.size none 0 0 [] ⟨none, 0, rfl, .inl rfl⟩ (fun k o hk => hk.elim))
    go_wp2_with fail
    (with_reducible refine SC.out.mono ?_)
    rintro e wb ⟨rfl, Pb, tb, kb⟩
    have Tb := Lib.hid tb
    have Fb : Hid (Fr (fun c _ => c < w1.heap.size) w1 wb) := Fa.out.trans (kb.low Ta.out.lo)
    have Rb := Lib.hid (Ra.out.kp kb)
    clear tb kb SC
    have SC := Lib.hid (sd_open Tb.out Fb.out.size 1 n (TT.out wb Fb.out) (by show (0 : Nat) < 1000000; decide) J4 D4 0 E4.out)
    go_wp2_with fail
    (with_reducible refine SC.out.mono ?_)
    rintro e wc ⟨bc, ac, c9, Vc, Pc, rfl, tc, oc, hVc, kc⟩
    have Tc := Lib.hid tc
    have Oc := Lib.hid oc
    have HVc := Lib.hid hVc
    have Fc : Hid (Fr (fun c _ => c < w1.heap.size) w1 wc) := Fb.out.trans (kc.low Tb.out.lo)
    have Rc := Lib.hid (Rb.out.kp kc)
    have Xc := Lib.hid Tc.out.b43
    clear tc oc hVc kc SC
    have WX : Hid (LsAt (fun c _ => ¬ Pc c) wc (.slice a V.length cc) J3.all) := by
      have := Rc.out.own.ls
      rw [HVX.out] at this
      exact this
    have SM := Lib.hid (same_true (Oc.out.lsl HVc.out) WX.out L4.out Xc.out.1 Xc.out.2)
    go_wp2_with fail
    (with_reducible refine SM.out.mono ?_)
    rintro e wd ⟨rfl, kd, hwd⟩
    have Fd : Hid (Fr (fun _ _ => True) W wd) := by
      rw [hwd]; exact F1.out.trans (Fr.within ((Fc.out.drewN kd).mono fun _ _ h => h.2))
    clear hwd SM
    by_cases q43 : 43 < b.length
    · have q1 : (43 : Int) < len2 := by have := HBL.out; omega
      go_wp2
      go_ret
      exact ⟨rfl, Fd.out⟩
    · have q1 : decide ((43 : Int) < len2) = false := by have := HBL.out; simp; omega
      have q2 : decide (43 < len2) = false := by have := HBL.out; simp; omega
      have q3 : ((V.length : Int) == n) = true := by
        have h5 : J.all.length = n := by
          rcases H4.out with h | h
          · omega
          · exact h
        have := HVL.out
        simp
        omega
      go_wp2
      go_ret
      exact ⟨rfl, Fd.out⟩

theorem again_walk (W : World) (n : Int) (w0 : (Lit.int .i64 n).wf = true) (a1 : Option Addr) (len1 cap1 : Nat) (a2 : Option Addr) (len2 cap2 : Nat) (r1 : Rd Tryd.prog W 22 [.slice a1 len1 cap1]) (r2 : Rd Tryd.prog W 33 [.slice a2 len2 cap2]) (ht : TabOK W) :
    Calls Tryd.prog 5 #[.int .i64 n, .slice a1 len1 cap1, .slice a2 len2 cap2] W fun e w' => e = .returned (.bool true) ∧ Below W.heap.size W w' := by
  by_cases hb : n < 1 ∨ 17 < n ∨ 30 < len1
  · exact (again_bad W n a1 len1 cap1 _ ht hb).mono fun e w' ⟨he, hf⟩ => ⟨he, hf.bel'⟩
  · obtain ⟨nn, rfl⟩ := Int.eq_ofNat_of_zero_le (show 0 ≤ n by omega)
    obtain ⟨l, ho, _⟩ := ops_of r1
    obtain ⟨b, hbb, _⟩ := r2.bs
    exact (again_good W nn a1 len1 cap1 a2 len2 cap2 l b (by omega) (by omega) ho (by omega) hbb ht).mono fun e w' ⟨he, hf⟩ => ⟨he, hf.bel'⟩
end Go.Proofs.YtcpbmempfeloaaaDoor
/- Law 6: JournalLost, walked. -/
namespace Go.Proofs.YtcpbmempfeloaaaDoor
open Go.RowKit
set_option linter.unusedVariables false
set_option linter.unusedSimpArgs false

theorem LsAt.drop {K : Nat → Obj → Prop} {w : World} {a : Option Addr} {n cap : Nat} {L : List (List UInt8)} (h : LsAt K w (.slice a n cap) L) (m : Nat) (hm : m ≤ L.length) : LsAt K w (.slice (subA a cap m) (n - m) (cap - m)) (L.drop m) := by
  obtain ⟨a', cap', hv, hc, h⟩ := h
  cases hv
  have e : (L.drop m).length = L.length - m := by rw [List.length_drop]
  refine ⟨_, cap - m, by rw [e], by omega, ?_⟩
  by_cases h0 : L.drop m = []
  · exact .inl h0
  · have hlt : m < L.length := by
      have := List.length_pos_iff.2 h0
      omega
    rcases h with h | ⟨b, off, o, ha, ho, hkb, h⟩
    · subst h; cases hlt
    · refine .inr ⟨b, off + m, o, ?_, ho, hkb, fun i hi => ?_⟩
      · unfold subA
        rw [if_neg (by omega), ha]
        show some (Addr.add ⟨b, off, none⟩ m) = _
        rw [add_at]
      · obtain ⟨vb, h1, h2⟩ := h (m + i) (by omega)
        refine ⟨vb, by rw [Nat.add_assoc]; exact h1, ?_⟩
        rw [List.getElem_drop]; exact h2
theorem bytesN (w : World) (bs : List UInt8) (cs : Array Value) (hc : cs = (bs.map byteV).toArray) (h0 : 0 < bs.length) : BytesAt (fun _ _ => True) (w.alloc (.cells cs 5 (0, 0))) (.slice (some ⟨w.heap.size, 0, none⟩) bs.length bs.length) bs := by
  have hb := heap_alloc_new w (.cells cs 5 (0, 0))
  refine ⟨some ⟨w.heap.size, 0, none⟩, bs.length, rfl, Nat.le_refl _, (fun e => by cases e), .inr ⟨w.heap.size, 0, _, rfl, hb, trivial, fun i hi => ?_⟩⟩
  refine cell_mk hb ?_
  subst hc
  simp [List.getElem?_eq_getElem hi]

set_option maxRecDepth 100000 in
theorem lost_bad (W : World) (n m : Int) (a1 : Option Addr) (len1 cap1 : Nat) (v3 : Value) (mo dr : Int) (ht : TabOK W) (h : n < 1 ∨ 17 < n ∨ 30 < len1) :
    Calls Tryd.prog 4 #[.int .i64 n, .slice a1 len1 cap1, .int .i64 m, v3, .int .i64 mo, .int .i64 dr] W fun e w' => e = .returned (.bool true) ∧ Fr (fun _ _ => True) W w' := by
  have AW := Lib.hid (awake06 W ht)
  have MB : Hid (∀ w, Calls Tryd.prog 12 #[.int .i64 n, .slice a1 len1 cap1] w fun e w' => e = .returned (.tuple #[.pointer none, .pointer none]) ∧ w = w') := fun w => made_bad w n a1 len1 cap1 h
  clear ht h
  go_enter Tryd.func4, Tryd.ntmps4
  go_wp2_with fail
  (with_reducible refine AW.out.mono ?_)
  rintro e w1 ⟨rfl, f1⟩
  have F1 := Lib.hid f1
  clear f1
  go_wp2_with fail
  (with_reducible refine (MB.out w1).mono ?_)
  rintro e w2 ⟨rfl, rfl⟩
  go_wp2
  go_ret
  exact ⟨rfl, F1.out⟩

set_option maxRecDepth 100000 in
set_option maxHeartbeats 4000000 in
theorem lost_out (W : World) (n : Nat) (a1 : Option Addr) (len1 cap1 : Nat) (v3 : Value) (m mo dr : Int) (l : List OpJ) (h1 : 1 ≤ n) (h2 : n ≤ 17) (ho : OpsAt W.heap.size W (.slice a1 len1 cap1) l) (hl : len1 ≤ 30) (ht : TabOK W) (hb : m < 0 ∨ 10 < m ∨ mo < 0 ∨ 10 < mo) :
    Calls Tryd.prog 4 #[.int .i64 (n : Nat), .slice a1 len1 cap1, .int .i64 m, v3, .int .i64 mo, .int .i64 dr] W fun e w' => e = .returned (.bool true) ∧ Fr (fun _ _ => True) W w' := by
  have hln := ho.len
  obtain ⟨J, D, L, bs, hjm, hji⟩ := jmade_ji 1 n h1 (by omega) l (by omega)
  have AW := Lib.hid (awake06 W ht)
  have MS : Hid (∀ w, OpsAt w.heap.size w (.slice a1 len1 cap1) l → TabOK w → Calls Tryd.prog 12 #[.int .i64 (n : Nat), .slice a1 len1 cap1] w fun e w' => (∃ bd bj, e = .returned (.tuple #[.pointer (some ⟨bd, 0, none⟩), .pointer (some ⟨bj, 0, none⟩)]) ∧ JD (fun c => w.heap.size ≤ c) w' bj bd J D) ∧ Fr (fun _ _ => True) w w') := fun w h t => made_some w n a1 len1 cap1 l h1 h2 h t hl J D hjm
  have HO := Lib.hid ho
  have HT := Lib.hid ht
  have HB := Lib.hid hb
  clear ho ht hji hjm hln hb
  go_enter Tryd.func4, Tryd.ntmps4
  go_wp2_with fail
  (with_reducible refine AW.out.mono ?_)
  rintro e w1 ⟨rfl, f1⟩
  have F1 := Lib.hid f1
  have MC := Lib.hid (MS.out w1 ((HO.out.fr (f1.mono fun _ _ _ => trivial)).mono f1.size) (HT.out.tt f1))
  clear f1
  go_wp2_with fail
  (with_reducible refine MC.out.mono ?_)
  rintro e w2 ⟨⟨bd, bj, rfl, d2⟩, f2⟩
  have F2 := Lib.hid (F1.out.trans f2)
  clear d2 f2 MC
  by_cases q1 : m < 0
  · have q1' : decide (m < 0) = true := by simpa using q1
    go_wp2
    go_ret
    exact ⟨rfl, F2.out⟩
  · have q1' : decide (m < 0) = false := by simpa using q1
    by_cases q2 : 10 < m
    · have q2' : decide (10 < m) = true := by simpa using q2
      go_wp2
      go_ret
      exact ⟨rfl, F2.out⟩
    · have q2' : decide (10 < m) = false := by simpa using q2
      by_cases q3 : mo < 0
      · have q3' : decide (mo < 0) = true := by simpa using q3
        go_wp2
        go_ret
        exact ⟨rfl, F2.out⟩
      · have q3' : decide (mo < 0) = false := by simpa using q3
        have q4 : decide (10 < mo) = true := by have := HB.out; simp; omega
        go_wp2
        go_ret
        exact ⟨rfl, F2.out⟩

set_option maxRecDepth 100000 in
set_option maxHeartbeats 8000000 in
theorem lost_good (W : World) (n : Nat) (a1 : Option Addr) (len1 cap1 : Nat) (a3 : Option Addr) (len3 cap3 : Nat) (mk more : Nat) (dr : Int) (l : List OpJ) (zs : List Int) (h1 : 1 ≤ n) (h2 : n ≤ 17) (ho : OpsAt W.heap.size W (.slice a1 len1 cap1) l) (hl : len1 ≤ 30) (hmk : mk ≤ 10) (hmo : more ≤ 10)
    (hz : IntsAt (fun c _ => c < W.heap.size) W (.slice a3 len3 cap3) zs) (ht : TabOK W) :
    Calls Tryd.prog 4 #[.int .i64 (n : Nat), .slice a1 len1 cap1, .int .i64 (mk : Nat), .slice a3 len3 cap3, .int .i64 (more : Nat), .int .i64 dr] W fun e w' => e = .returned (.bool true) ∧ Fr (fun _ _ => True) W w' := by
  have hln := ho.len
  obtain ⟨J, D, L, bs, hjm, hji⟩ := jmade_ji 1 n h1 (by omega) l (by omega)
  have h0 : 0 < W.heap.size := by have := cell_lt (ht 0 (by decide)); simpa using this
  have AW := Lib.hid (awake06 W ht)
  have MS : Hid (∀ w, OpsAt w.heap.size w (.slice a1 len1 cap1) l → TabOK w → Calls Tryd.prog 12 #[.int .i64 (n : Nat), .slice a1 len1 cap1] w fun e w' => (∃ bd bj, e = .returned (.tuple #[.pointer (some ⟨bd, 0, none⟩), .pointer (some ⟨bj, 0, none⟩)]) ∧ JD (fun c => w.heap.size ≤ c) w' bj bd J D) ∧ Fr (fun _ _ => True) w w') := fun w h t => made_some w n a1 len1 cap1 l h1 h2 h t hl J D hjm
  have HO := Lib.hid ho
  have HZ := Lib.hid hz
  have HT := Lib.hid ht
  obtain ⟨J1, D1, s2, c, J3, D3, J4, D4, e1, g1, es2, e3, e4, hcase, p1, p2, p3⟩ := lost_law hji (by omega) mk more hmk hmo zs dr
  have E1 : Hid (jopen ((lapps mk4 (J, D.sync) mk).2.crash zs) 1 n = (0, some J1, D1)) := e1
  have E4 : Hid (jopen (D3.crash []) 1 n = (0, some J4, D4)) := e4
  have E3 := Lib.hid e3
  have ES := Lib.hid es2
  have G1 := Lib.hid g1
  have HC := Lib.hid hcase
  have HP1 := Lib.hid p1
  have HP2 := Lib.hid p2
  have HP3 := Lib.hid p3
  have i1 : decide ((mk : Int) < 0) = false := by simp
  have i2 : (mk : Int) ≤ 10 := by omega
  have i3 : decide ((more : Int) < 0) = false := by simp
  have i4 : (more : Int) ≤ 10 := by omega
  clear ho hz ht hji hjm hln e1 e3 e4 es2 g1 hcase p1 p2 p3
  go_enter Tryd.func4, Tryd.ntmps4
  go_wp2_with fail
  (with_reducible refine AW.out.mono ?_)
  rintro e w1 ⟨rfl, f1⟩
  have F1 := Lib.hid f1
  have S1 : Hid (W.heap.size ≤ w1.heap.size) := f1.size
  have MC := Lib.hid (MS.out w1 ((HO.out.fr (f1.mono fun _ _ _ => trivial)).mono f1.size) (HT.out.tt f1))
  clear f1
  go_wp2_with fail
  (with_reducible refine MC.out.mono ?_)
  rintro e w2 ⟨⟨bd, bj, rfl, d2⟩, f2⟩
  have T2 := Lib.hid (St.of d2)
  have F2 : Hid (Fr (fun c _ => c < w1.heap.size) w1 w2) := f2.mono fun _ _ _ => trivial
  have h1s : Hid (0 < w1.heap.size) := by have := S1.out; show 0 < _; omega
  clear d2 f2 MC
  have TT : Hid (∀ w, Fr (fun c _ => c < w1.heap.size) w1 w → TabOK w) := fun w f => by
    have t := HT.out.tt F1.out
    exact fun i hi => f.cell (fun _ _ => h1s.out) (t i hi)
  have ZZ : Hid (∀ w, Fr (fun c _ => c < w1.heap.size) w1 w → IntsAt (fun c _ => c < w1.heap.size) w (.slice a3 len3 cap3) zs) := fun w f => ((HZ.out.fr F1.out fun _ _ _ => trivial).mono fun c _ h => by have := S1.out; omega).fr f fun _ _ h => h
  have SC := Lib.hid (st_sync T2.out F2.out.size)
  go_wp2_with fail
  (with_reducible refine SC.out.mono ?_)
  rintro e w3 ⟨rfl, P3, t3, k3⟩
  have T3 : Hid (St w1.heap.size P3 w3 bj bd J D.sync) := t3
  have F3 : Hid (Fr (fun c _ => c < w1.heap.size) w1 w3) := F2.out.trans (k3.low T2.out.lo)
  clear t3 k3 SC i1 i3
  go_wp2
  go_loopw [16] (fun i wr => ∃ (j : Nat) (P : Nat → Prop), i = .int .i64 (j : Nat) ∧ j ≤ mk ∧ Hid (St w1.heap.size P wr bj bd (lapps mk4 (J, D.sync) j).1 (lapps mk4 (J, D.sync) j).2) ∧ Hid (Fr (fun c _ => c < w1.heap.size) w1 wr)) (fun i _ => mk - (intOf i).toNat)
  case atStart => exact ⟨0, P3, rfl, Nat.zero_le _, T3, F3⟩
  case' round =>
    clear T3 F3
    obtain ⟨j, PJ, rfl, hj, TJ, FJ⟩ := hrel
    by_cases hlt : j < mk
    · have hltI : (j : Int) < mk := by omega
      have hw8 : IntKind.u8.wrap (j : Int) = ((UInt8.ofNat j).toNat : Int) := wrap_byte j
      have BY := fun w (cs : Array Value) (hc : cs = ((mk4 j).map byteV).toArray) => bytesN w (mk4 j) cs hc (by unfold mk4; simp)
      obtain ⟨z8, hz8⟩ : ∃ z8 : Int, ((UInt8.ofNat j).toNat : Int) = z8 := ⟨_, rfl⟩
      rw [hz8] at hw8
      obtain ⟨wa, hwa⟩ : ∃ wa, wr.alloc (.cells #[.int .u8 200, .int .u8 201, .int .u8 202, .int .u8 z8] 5 (0, 0)) = wa := ⟨_, rfl⟩
      have FA : Hid (Fr (fun _ _ => True) wr wa) := hwa ▸ (Fr.refl _ _).alloc _
      have BA : Hid (BytesAt (fun _ _ => True) wa (.slice (some ⟨wr.heap.size, 0, none⟩) 4 4) (mk4 j)) := by
        have := BY wr #[.int .u8 200, .int .u8 201, .int .u8 202, .int .u8 z8] (by unfold mk4 byteV; rw [← hz8]; rfl)
        rw [hwa] at this
        exact this
      have FB : Hid (Fr (fun c _ => c < w1.heap.size) w1 wa) := FJ.out.trans (FA.out.mono fun _ _ _ => trivial)
      have SC := Lib.hid (st_append (TJ.out.tt FA.out) h1s.out FB.out.size _ (mk4 j) BA.out (TT.out _ FB.out) (by have := HP1.out j (by omega); omega))
      clear BY hz8
      go_wp2_with fail
      clear hwa
      (with_reducible refine SC.out.mono ?_)
      rintro e wb ⟨rfl, Pb, tb, kb⟩
      have Tb : Hid (St w1.heap.size Pb wb bj bd (lapps mk4 (J, D.sync) (j + 1)).1 (lapps mk4 (J, D.sync) (j + 1)).2) := tb
      have Fb : Hid (Fr (fun c _ => c < w1.heap.size) w1 wb) := FB.out.trans (kb.low TJ.out.lo)
      clear tb kb SC FA BA FB TJ FJ
      go_wp2
      go_roundw
      case rel => exact ⟨j + 1, Pb, by go_num, by omega, Tb, Fb⟩
      case measure => simp [intOf]; omega
  have hjl : j = mk := by omega
  subst hjl
  have hge : decide (j < j) = false := by simp
  obtain ⟨w4, hwk⟩ : ∃ w4, w4 = wr := ⟨_, rfl⟩
  subst hwk
  have T4 := TJ
  have F4 := FJ
  clear TJ FJ hlt hj
  have SC := Lib.hid (sd_crash T4.out.sd F4.out.size a3 len3 cap3 zs (ZZ.out w4 F4.out) (fun k o hk hp => by have := T4.out.lo k hp; omega))
  go_wp2_with fail
  (with_reducible refine SC.out.mono ?_)
  rintro e w5 ⟨rfl, P5, t5, k5⟩
  have T5 := Lib.hid t5
  have F5 : Hid (Fr (fun c _ => c < w1.heap.size) w1 w5) := F4.out.trans (k5.low T4.out.lo)
  clear t5 k5 SC
  have SC := Lib.hid (sd_open T5.out F5.out.size 1 n (TT.out w5 F5.out) (by show (0 : Nat) < 1000000; decide) J1 D1 0 E1.out)
  go_wp2_with fail
  (with_reducible refine SC.out.mono ?_)
  rintro e w6 ⟨b6, a6, c6, V6, P6, rfl, t6, o6, hV6, k6⟩
  have T6 : Hid (St w1.heap.size P6 w6 b6 bd J1 D1) := t6
  have F6 : Hid (Fr (fun c _ => c < w1.heap.size) w1 w6) := F5.out.trans (k6.low T5.out.lo)
  clear t6 o6 hV6 k6 SC
  go_wp2
  go_loopw [19] (fun i wr => ∃ (j : Nat) (P : Nat → Prop), i = .int .i64 (j : Nat) ∧ j ≤ more ∧ Hid (St w1.heap.size P wr b6 bd (lapps mk2 (J1, D1) j).1 (lapps mk2 (J1, D1) j).2) ∧ Hid (Fr (fun c _ => c < w1.heap.size) w1 wr)) (fun i _ => more - (intOf i).toNat)
  case atStart => exact ⟨0, P6, rfl, Nat.zero_le _, T6, F6⟩
  case' round =>
    clear T6 F6
    obtain ⟨j, PJ, rfl, hj, TJ, FJ⟩ := hrel
    by_cases hlt : j < more
    · have hltI : (j : Int) < more := by omega
      have hw8 : IntKind.u8.wrap (j : Int) = ((UInt8.ofNat j).toNat : Int) := wrap_byte j
      have BY := fun w (cs : Array Value) (hc : cs = ((mk2 j).map byteV).toArray) => bytesN w (mk2 j) cs hc (by unfold mk2; simp)
      obtain ⟨z8, hz8⟩ : ∃ z8 : Int, ((UInt8.ofNat j).toNat : Int) = z8 := ⟨_, rfl⟩
      rw [hz8] at hw8
      obtain ⟨wa, hwa⟩ : ∃ wa, wr.alloc (.cells #[.int .u8 100, .int .u8 z8] 5 (0, 0)) = wa := ⟨_, rfl⟩
      have FA : Hid (Fr (fun _ _ => True) wr wa) := hwa ▸ (Fr.refl _ _).alloc _
      have BA : Hid (BytesAt (fun _ _ => True) wa (.slice (some ⟨wr.heap.size, 0, none⟩) 2 2) (mk2 j)) := by
        have := BY wr #[.int .u8 100, .int .u8 z8] (by unfold mk2 byteV; rw [← hz8]; rfl)
        rw [hwa] at this
        exact this
      have FB : Hid (Fr (fun c _ => c < w1.heap.size) w1 wa) := FJ.out.trans (FA.out.mono fun _ _ _ => trivial)
      have SC := Lib.hid (st_append (TJ.out.tt FA.out) h1s.out FB.out.size _ (mk2 j) BA.out (TT.out _ FB.out) (by have := HP2.out j (by omega); omega))
      clear BY hz8
      go_wp2_with fail
      clear hwa
      (with_reducible refine SC.out.mono ?_)
      rintro e wb ⟨rfl, Pb, tb, kb⟩
      have Tb : Hid (St w1.heap.size Pb wb b6 bd (lapps mk2 (J1, D1) (j + 1)).1 (lapps mk2 (J1, D1) (j + 1)).2) := tb
      have Fb : Hid (Fr (fun c _ => c < w1.heap.size) w1 wb) := FB.out.trans (kb.low TJ.out.lo)
      clear tb kb SC FA BA FB TJ FJ
      go_wp2
      go_roundw
      case rel => exact ⟨j + 1, Pb, by go_num, by omega, Tb, Fb⟩
      case measure => simp [intOf]; omega
  have hjl : j = more := by omega
  subst hjl
  have hge : decide (j < j) = false := by simp
  obtain ⟨w7, hwk⟩ : ∃ w7, w7 = wr := ⟨_, rfl⟩
  subst hwk
  have T7 : Hid (St w1.heap.size PJ w7 b6 bd s2.1 s2.2) := by
    have := TJ.out
    rw [ES.out] at this
    exact this
  have F7 := FJ
  clear TJ FJ hlt hj
  have SC := Lib.hid (st_sync T7.out F7.out.size)
  go_wp2_with fail
  (with_reducible refine SC.out.mono ?_)
  rintro e w8 ⟨rfl, P8, t8, k8⟩
  have T8 : Hid (St w1.heap.size P8 w8 b6 bd s2.1 s2.2.sync) := t8
  have F8 : Hid (Fr (fun c _ => c < w1.heap.size) w1 w8) := F7.out.trans (k8.low T7.out.lo)
  clear t8 k8 SC
  have SC := Lib.hid (st_all2 T8.out F8.out.size)
  go_wp2_with fail
  (with_reducible refine SC.out.mono ?_)
  rintro e w9 ⟨⟨a, cc, V, rfl, hVl, row, hV⟩, f9⟩
  have T9 := Lib.hid (T8.out.tt f9)
  have F9 : Hid (Fr (fun c _ => c < w1.heap.size) w1 w9) := F8.out.tt f9
  have R9 := Lib.hid row
  have HV := Lib.hid hV
  have HVL := Lib.hid hVl
  rw [← HVL.out]
  clear f9 SC row hV hVl
  have SC := st_trim T9.out h1s.out F9.out.size dr (TT.out w9 F9.out) (by have := HP3.out; omega)
  rw [E3.out] at SC
  have SC := Lib.hid SC
  go_wp2_with fail
  (with_reducible refine SC.out.mono ?_)
  rintro e wx ⟨rfl, PX, tx, kx⟩
  have TX : Hid (St w1.heap.size PX wx b6 bd J3 D3) := tx
  have FX : Hid (Fr (fun c _ => c < w1.heap.size) w1 wx) := F9.out.trans (kx.low T9.out.lo)
  have RX := Lib.hid (R9.out.kp kx)
  clear tx kx SC
  have hcap : V.length ≤ cc := own_cap' R9.out.own.row
  obtain ⟨m1, hm1⟩ : ∃ m1, J1.all.length = m1 := ⟨_, rfl⟩
  have hm1n : m1 ≤ n := by rw [← hm1]; exact G1.out
  rw [hm1]
  clear hm1
  rcases HC.out with ⟨hc, d0, d1, hJ4⟩ | ⟨hc, hJ4⟩
  · subst hc
    obtain ⟨k, rfl⟩ := Int.eq_ofNat_of_zero_le d0
    have hkV : k ≤ V.length := by have := HVL.out; omega
    have hki : (k : Int) ≤ V.length := by omega
    have H4 : Hid (J4.all = (V.map (·.2)).drop k) := by
      show _ = _
      rw [HV.out, hJ4, Int.toNat_natCast]
    have hsl := fun W => run_slice_from (P := Tryd.prog) Tryd.underlying23 size_bs1 W a V.length cc k .i64 hkV
    have hk0 : decide ((k : Int) < 0) = false := by simp
    have LX : Hid (∀ w P, Row w1.heap.size P w a cc V → LsAt (fun c _ => ¬ P c) w (.slice (subA a cc k) (V.length - k) (cc - k)) J4.all) := fun w P hr => by
      rw [H4.out]
      exact hr.own.ls.drop k (by simpa using hkV)
    clear d0 d1 hJ4
    go_wp2_with fail
    have SC := Lib.hid (sd_crash (K := fun _ _ => False) TX.out.sd FX.out.size none 0 0 [] ⟨none, 0, rfl, .inl rfl⟩ (fun k o hk => hk.elim))
    (with_reducible refine SC.out.mono ?_)
    rintro e wb ⟨rfl, Pb, tb, kb⟩
    have Tb := Lib.hid tb
    have Fb : Hid (Fr (fun c _ => c < w1.heap.size) w1 wb) := FX.out.trans (kb.low TX.out.lo)
    have Rb := Lib.hid (RX.out.kp kb)
    clear tb kb SC
    have SC := Lib.hid (sd_open Tb.out Fb.out.size 1 n (TT.out wb Fb.out) (by show (0 : Nat) < 1000000; decide) J4 D4 0 E4.out)
    go_wp2_with fail
    (with_reducible refine SC.out.mono ?_)
    rintro e wc ⟨bc, ac, c9, Vc, Pc, rfl, tc, oc, hVc, kc⟩
    have Tc := Lib.hid tc
    have Oc := Lib.hid oc
    have HVc := Lib.hid hVc
    have Fc : Hid (Fr (fun c _ => c < w1.heap.size) w1 wc) := Fb.out.trans (kc.low Tb.out.lo)
    have Rc := Lib.hid (Rb.out.kp kc)
    have Xc := Lib.hid Tc.out.b43
    clear tc oc hVc kc SC
    have SM := Lib.hid (same_true (Oc.out.lsl HVc.out) (LX.out wc Pc Rc.out) rfl Xc.out.1 Xc.out.2)
    go_wp2_with fail
    (with_reducible refine SM.out.mono ?_)
    rintro e wd ⟨rfl, kd, hwd⟩
    have Fd : Hid (Fr (fun _ _ => True) W wd) := by
      rw [hwd]; exact F1.out.trans (Fr.within ((Fc.out.drewN kd).mono fun _ _ h => h.2))
    clear hwd SM
    have hmn : (m1 : Int) ≤ n := by omega
    go_wp2
    go_ret
    exact ⟨rfl, Fd.out⟩
  · have hc' : (c == 0) = false := by simpa using hc
    have H4 : Hid (J4.all = V.map (·.2)) := by
      show _ = _
      rw [HV.out, hJ4]
    have LX : Hid (∀ w P, Row w1.heap.size P w a cc V → LsAt (fun c _ => ¬ P c) w (.slice a V.length cc) J4.all) := fun w P hr => by
      rw [H4.out]
      exact hr.own.ls
    clear hJ4
    go_wp2_with fail
    have SC := Lib.hid (sd_crash (K := fun _ _ => False) TX.out.sd FX.out.size none 0 0 [] ⟨none, 0, rfl, .inl rfl⟩ (fun k o hk => hk.elim))
    (with_reducible refine SC.out.mono ?_)
    rintro e wb ⟨rfl, Pb, tb, kb⟩
    have Tb := Lib.hid tb
    have Fb : Hid (Fr (fun c _ => c < w1.heap.size) w1 wb) := FX.out.trans (kb.low TX.out.lo)
    have Rb := Lib.hid (RX.out.kp kb)
    clear tb kb SC
    have SC := Lib.hid (sd_open Tb.out Fb.out.size 1 n (TT.out wb Fb.out) (by show (0 : Nat) < 1000000; decide) J4 D4 0 E4.out)
    go_wp2_with fail
    (with_reducible refine SC.out.mono ?_)
    rintro e wc ⟨bc, ac, c9, Vc, Pc, rfl, tc, oc, hVc, kc⟩
    have Tc := Lib.hid tc
    have Oc := Lib.hid oc
    have HVc := Lib.hid hVc
    have Fc : Hid (Fr (fun c _ => c < w1.heap.size) w1 wc) := Fb.out.trans (kc.low Tb.out.lo)
    have Rc := Lib.hid (Rb.out.kp kc)
    have Xc := Lib.hid Tc.out.b43
    clear tc oc hVc kc SC
    have SM := Lib.hid (same_true (Oc.out.lsl HVc.out) (LX.out wc Pc Rc.out) rfl Xc.out.1 Xc.out.2)
    go_wp2_with fail
    (with_reducible refine SM.out.mono ?_)
    rintro e wd ⟨rfl, kd, hwd⟩
    have Fd : Hid (Fr (fun _ _ => True) W wd) := by
      rw [hwd]; exact F1.out.trans (Fr.within ((Fc.out.drewN kd).mono fun _ _ h => h.2))
    clear hwd SM
    have hmn : (m1 : Int) ≤ n := by omega
    go_wp2
    go_ret
    exact ⟨rfl, Fd.out⟩

theorem lost_walk (W : World) (n : Int) (w0 : (Lit.int .i64 n).wf = true) (a1 : Option Addr) (len1 cap1 : Nat) (m : Int) (w2 : (Lit.int .i64 m).wf = true) (a3 : Option Addr) (len3 cap3 : Nat) (mo dr : Int) (w4 : (Lit.int .i64 mo).wf = true) (w5 : (Lit.int .i64 dr).wf = true) (r1 : Rd Tryd.prog W 22 [.slice a1 len1 cap1]) (r3 : Rd Tryd.prog W 24 [.slice a3 len3 cap3]) (ht : TabOK W) :
    Calls Tryd.prog 4 #[.int .i64 n, .slice a1 len1 cap1, .int .i64 m, .slice a3 len3 cap3, .int .i64 mo, .int .i64 dr] W fun e w' => e = .returned (.bool true) ∧ Below W.heap.size W w' := by
  by_cases hb : n < 1 ∨ 17 < n ∨ 30 < len1
  · exact (lost_bad W n m a1 len1 cap1 _ mo dr ht hb).mono fun e w' ⟨he, hf⟩ => ⟨he, hf.bel'⟩
  · obtain ⟨nn, rfl⟩ := Int.eq_ofNat_of_zero_le (show 0 ≤ n by omega)
    obtain ⟨l, ho, _⟩ := ops_of r1
    by_cases hq : m < 0 ∨ 10 < m ∨ mo < 0 ∨ 10 < mo
    · exact (lost_out W nn a1 len1 cap1 _ m mo dr l (by omega) (by omega) ho (by omega) ht hq).mono fun e w' ⟨he, hf⟩ => ⟨he, hf.bel'⟩
    · obtain ⟨zs, hz, _⟩ := r3.is
      obtain ⟨mn, rfl⟩ := Int.eq_ofNat_of_zero_le (show 0 ≤ m by omega)
      obtain ⟨on, rfl⟩ := Int.eq_ofNat_of_zero_le (show 0 ≤ mo by omega)
      exact (lost_good W nn a1 len1 cap1 a3 len3 cap3 mn on dr l zs (by omega) (by omega) ho (by omega) (by omega) (by omega) hz ht).mono fun e w' ⟨he, hf⟩ => ⟨he, hf.bel'⟩
end Go.Proofs.YtcpbmempfeloaaaDoor
