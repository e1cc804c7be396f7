/- Texts of the proofs, part 35: what the functions that they reach do, walked; no conditions beyond those that each states. -/
import Derived.Deep.RegionHeld3
import Derived.Test.YtlolfcnfcgegdaaGreatZz544f7d4de4
set_option linter.unusedVariables false
set_option linter.unusedSimpArgs false
/- The document's locks: Time. -/
namespace Go.Proofs.YtlolfcnfcgegdaaGreat
open Go.RowKit
set_option linter.unusedVariables false
set_option linter.unusedSimpArgs false

theorem filter_take {α : Type} (p : α → Bool) (xs : List α) (j : Nat) (hj : j < xs.length) : (xs.take (j + 1)).filter p = (xs.take j).filter p ++ if p xs[j] = true then [xs[j]] else [] := by
  rw [List.take_add_one, List.getElem?_eq_getElem hj, Option.toList_some, List.filter_append]
  congr 1
  cases h : p xs[j] <;> simp [h]
/-- Its first cell is written. -/
theorem DR.putN {n : Nat} {G : Nat → Prop} {w : World} {bt now : Nat} {hv wv : Nat → Value} {L : Lk} (h : DR n G w bt hv wv L) (hn : n ≤ w.heap.size) (hm : now ≤ topM) :
    ∃ G', DRE n G' (w.setCell ⟨bt, 0, none⟩ (.int .u64 (now : Nat))) bt { L with now := now } ∧ Kg bt G G' w (w.setCell ⟨bt, 0, none⟩ (.int .u64 (now : Nat))) := by
  have fw : Fr (fun c _ => c ≠ bt) w (w.setCell ⟨bt, 0, none⟩ (.int .u64 (now : Nat))) := (Fr.refl _ _).setCell (fun _ _ h => h rfl) _
  have ht := tabC_setN (w := w) h.top (.int .u64 (now : Nat))
  exact DR.new h hn (fw.mono fun c _ h => h.2) (L' := { L with now := now }) ht (fun i hi => .inl (h.hr i hi)) (fun i hi => .inl (h.wr i hi)) ⟨hm, h.ok.last, h.ok.four, h.ok.rs⟩
set_option maxRecDepth 100000 in
theorem dtime_old {n : Nat} {G : Nat → Prop} (w : World) (bt now : Nat) (L : Lk) (h : DRE n G w bt L) (hn : now ≤ L.now) :
    Calls Tryz.prog 36 #[.pointer (some ⟨bt, 0, none⟩), .int .u64 (now : Nat)] w fun e w' => e = .returned (.tuple #[]) ∧ w = w' := by
  obtain ⟨hv, wv, h⟩ := h
  have c1 := (h.cells w (Fr.refl _ _)).1
  have hnI : (now : Int) ≤ L.now := by omega
  generalize L.now = z at c1 hnI
  clear h hn
  go_enter Tryz.func36, Tryz.ntmps36
  go_wp2
  exact bodyPost_ret (results_none rfl _ _ _) rfl ⟨rfl, rfl⟩
set_option maxRecDepth 100000 in
set_option maxHeartbeats 4000000 in
theorem dtime_new {n : Nat} {G : Nat → Prop} (w : World) (bt now : Nat) (L : Lk) (h : DRE n G w bt L) (hl : ¬ now ≤ L.now) (hm : now ≤ topM) (hn : n ≤ w.heap.size) :
    Calls Tryz.prog 36 #[.pointer (some ⟨bt, 0, none⟩), .int .u64 (now : Nat)] w fun e w' => e = .returned (.tuple #[]) ∧ ∃ G', DRE n G' w' bt (giveN (dropN now L 4) 4) ∧ Kg bt G G' w w' := by
  obtain ⟨hv, wv, h⟩ := h
  obtain ⟨c1, _, z1, _, _⟩ := h.cells w (Fr.refl _ _)
  have hnI : ¬ (now : Int) ≤ L.now := by omega
  obtain ⟨G1, d1, k1⟩ := h.putN hn hm
  have OK := Lib.hid (fun i => dropN_ok (now := now) h.ok hm i)
  have HN := Lib.hid hn
  obtain ⟨w1, hw1⟩ : ∃ W, w.setCell ⟨bt, 0, none⟩ (.int .u64 (now : Nat)) = W := ⟨_, rfl⟩
  rw [hw1] at d1 k1
  have D1 := Lib.hid d1
  have K1 := Lib.hid k1
  obtain ⟨z, hz⟩ : ∃ z, L.now = z := ⟨_, rfl⟩
  rw [hz] at c1 hnI
  clear h hl hm hn d1 k1 hz
  go_enter Tryz.func36, Tryz.ntmps36
  go_wp2
  try rw [hw1]
  clear c1 z1 hnI hw1
  go_loopw [4, 5, 6] (fun v4 _ _ wr => ∃ (i : Nat) (G' : Nat → Prop), v4 = .int .i64 i ∧ i ≤ 4 ∧ Hid (DRE n G' wr bt (dropN now L i)) ∧ Hid (Kg bt G G' w wr)) (fun v4 _ _ _ => 4 - (intOf v4).toNat)
  case atStart => exact ⟨0, G1, rfl, by omega, D1.out, K1.out⟩
  case round =>
    obtain ⟨i, G', rfl, hi, HT, HK⟩ := hrel
    obtain ⟨wo, hwo⟩ : ∃ x, x = wr := ⟨_, rfl⟩
    subst hwo
    have HSZ : Hid (n ≤ wo.heap.size) := Lib.hid (Nat.le_trans HN.out HK.out.fr.size)
    by_cases hlt : i < 4
    · have hltI : (i : Int) < 4 := by omega
      obtain ⟨hv1, wv1, T⟩ := HT.out
      have ER := T.hr i hlt
      have h4 := (T.ok.rg i).h4
      obtain ⟨al, cl, ee, _⟩ := ER.form
      rw [ee] at ER
      have CC : Hid (∀ W, Fr (fun _ _ => True) wo W → W.cell? ⟨bt, 2 + i, none⟩ = some (.slice al ((dropN now L i).rg i).hs.length cl) ∧ W.frozen? ⟨bt, 2 + i, none⟩ = false) := fun W f => by
        obtain ⟨_, _, _, _, cc⟩ := T.cells W f
        exact ⟨by rw [← ee]; exact (cc i hlt).1, (cc i hlt).2.2.1⟩
      have HPW : Hid (∀ v W, W.ownsRow wo.heap.size 112 4 v (((dropN now L i).rg i).hs.filter fun h => !decide (h.u ≤ now)).length ((((dropN now L i).rg i).hs.filter fun h => !decide (h.u ≤ now)).flatMap encH) → Fr (fun _ _ => True) wo W → ∃ G2, DRE n G2 (W.setCell ⟨bt, 2 + i, none⟩ v) bt (dropN now L (i + 1)) ∧ Kg bt G' G2 wo (W.setCell ⟨bt, 2 + i, none⟩ v)) := fun v W o f =>
        T.putH HSZ.out f o hlt ((T.ok.rg i).sub List.filter_sublist (List.Sublist.refl _))
      have HLT := Lib.hid hlt
      clear T
      obtain ⟨L2, hL2⟩ : ∃ x, dropN now L (i + 1) = x := ⟨_, rfl⟩
      have EL2 := Lib.hid hL2
      rw [hL2] at HPW
      generalize ((dropN now L i).rg i).hs = xs at ER h4 CC HPW ee
      have HXS := Lib.hid ER
      have FT := Lib.hid (fun j hj => filter_take (fun h : Ho => !decide (h.u ≤ now)) xs j hj)
      obtain ⟨fl, hfl⟩ : ∃ fl : Nat → List Ho, fl = fun j => (xs.take j).filter fun h => !decide (h.u ≤ now) := ⟨_, rfl⟩
      have FL : Hid (∀ j, (xs.take j).filter (fun h => !decide (h.u ≤ now)) = fl j) := fun j => by rw [hfl]
      have FLE : Hid (∀ j, (fl j).length ≤ j) := fun j => by
        rw [hfl]
        exact Nat.le_trans (List.length_filter_le _ _) (by rw [List.length_take]; omega)
      have FL0 : Hid (fl 0 = []) := by show _ = _; rw [hfl]; rfl
      have FLN : Hid (fl xs.length = xs.filter fun h => !decide (h.u ≤ now)) := by show _ = _; rw [hfl]; show List.filter _ (List.take _ _) = _; rw [List.take_length]
      rw [← FLN.out] at HPW
      have FST : Hid (∀ j (hj : j < xs.length), fl (j + 1) = fl j ++ if (!decide (xs[j].u ≤ now)) = true then [xs[j]] else []) := fun j hj => by
        have q := FT.out j hj
        rw [FL.out, FL.out] at q
        exact q
      clear hL2 ER ee FL FT hfl FLN
      go_wp2
      go_loopw [5, 6] (fun v5 v6 wr => ∃ (j : Nat) (a : Option Addr) (cp : Nat), v6 = .int .i64 j ∧ j ≤ xs.length ∧ v5 = .slice a (fl j).length cp ∧ Hid (wr.ownsRow wo.heap.size 112 4 (.slice a (fl j).length cp) (fl j).length ((fl j).flatMap encH)) ∧ Hid (Fr (fun _ _ => True) wo wr)) (fun _ v6 _ => xs.length - (intOf v6).toNat)
      case atStart => exact ⟨0, none, 0, rfl, by omega, by rw [FL0.out]; rfl, by rw [FL0.out]; exact ⟨rfl, .inl ⟨rfl, rfl⟩⟩, Fr.refl _ _⟩
      case round =>
        obtain ⟨j, a, cp, rfl, hj, rfl, HO, HF⟩ := hrel
        obtain ⟨e1, e2⟩ := CC.out wr HF.out
        by_cases hjl : j < xs.length
        · have hjlI : (j : Int) < xs.length := by omega
          obtain ⟨b, off, o, rfl, _, _, hcl⟩ := (HXS.out.tt HF.out).spot (by omega)
          obtain ⟨x, hx⟩ : ∃ x, xs[j] = x := ⟨_, rfl⟩
          have hcs := RowsAt.h4 (K := fun _ _ => True) hcl j hjl
          have hst := FST.out j hjl
          rw [hx] at hcs hst
          obtain ⟨q0, q1, q2, q3⟩ := hcs
          have hle := FLE.out j
          clear hcl hx
          by_cases hu : x.u ≤ now
          · have huI : ¬ (now : Int) < x.u := by omega
            have E : Hid (fl (j + 1) = fl j) := by show _ = _; rw [hst, decide_eq_true hu]; simp
            clear hst hu
            go_wp2
            go_roundw
            case rel => exact ⟨j + 1, a, cp, by go_num, hjl, by rw [E.out], by rw [E.out]; exact HO.out, HF.out⟩
            case measure => simp [intOf]; omega
          · have huI : (now : Int) < x.u := by omega
            have E : Hid (fl j ++ [x] = fl (j + 1)) := by show _ = _; rw [hst, decide_eq_false hu]; simp
            have EN : Hid ((fl j).length + [x].length = (fl (j + 1)).length) := by show _ = _; rw [← E.out, List.length_append]
            have hB : (fl (j + 1)).length ≤ 1000000 := by rw [← EN.out]; show (fl j).length + 1 ≤ _; omega
            obtain ⟨W4, hW4⟩ : ∃ W, wr.alloc (.cells #[.int .i64 (x.c : Nat), .int .i64 (x.m : Nat), .int .u64 (x.t : Nat), .int .u64 (x.u : Nat)] 112 (0, 0)) = W := ⟨_, rfl⟩
            have A4 : Hid (Fr (fun _ _ => True) wr W4) := hW4 ▸ (Fr.refl _ _).alloc _
            have T4 : Hid (RowsAt (fun c _ => c = wr.heap.size) W4 (.slice (some ⟨wr.heap.size, 0, none⟩) 1 1) 4 encH [x]) := hW4 ▸ rows_oneH (heap_alloc_new wr _)
            have E4 := Lib.hid (own_tt HO.out A4.out)
            have F4 : Hid (Fr (fun _ _ => True) wo W4) := Lib.hid (HF.out.trans A4.out)
            clear hst hu
            go_wp2_with (at_builtin; refine wpList_append_hos W4 rfl _ _ rfl wo.heap.size F4.out.size (.slice _ (fl j).length cp) (fl j).length (fl j) rfl E4 _ [x] rfl T4 (fl (j + 1)) E (fl (j + 1)).length EN hB ?_)
            intro g2 c2 W2 E2 G2 O2
            have F2 : Hid (Fr (fun _ _ => True) wo W2) := F4.out.grown_new G2.out (own_new E4.out)
            clear G2 O2 T4 E4
            go_wp2
            go_roundw
            case rel => exact ⟨j + 1, g2, c2, by go_num, hjl, rfl, E2.out, F2.out⟩
            case measure => simp [intOf]; omega
        · have hge : (xs.length : Int) ≤ j := by omega
          obtain rfl : j = xs.length := by omega
          obtain ⟨G5, d5, k5⟩ := HPW.out _ _ HO.out HF.out
          obtain ⟨w5, hw5⟩ : ∃ W, wr.setCell ⟨bt, 2 + i, none⟩ (.slice a (fl xs.length).length cp) = W := ⟨_, rfl⟩
          rw [hw5] at d5 k5
          have D5 := Lib.hid d5
          have K5 := Lib.hid (HK.out.trans k5)
          clear d5 k5
          go_wp2
          try rw [hw5]
          go_roundw
          case rel => exact ⟨i + 1, G5, by go_num, by have := HLT.out; omega, by rw [EL2.out]; exact D5.out, K5.out⟩
          case measure => simp [intOf]; omega
    · have hge : (4 : Int) ≤ i := by omega
      have hi4 : i = 4 := by omega
      rw [hi4] at HT
      clear hi4 hlt
      obtain ⟨GG, hGG⟩ : ∃ GG, dropN now L 4 = GG := ⟨_, rfl⟩
      rw [hGG] at HT
      have HG := Lib.hid hGG
      clear hGG OK
      go_wp2
      go_loopw [7] (fun v7 wz => ∃ (j : Nat) (G2 : Nat → Prop), v7 = .int .i64 j ∧ j ≤ 4 ∧ Hid (DRE n G2 wz bt (giveN GG j)) ∧ Hid (Kg bt G G2 w wz)) (fun v7 _ => 4 - (intOf v7).toNat)
      case atStart => exact ⟨0, G', rfl, by omega, HT.out, HK.out⟩
      case round =>
        obtain ⟨j, G2, rfl, hj, HT2, HK2⟩ := hrel
        by_cases hjl : j < 4
        · have hjlI : (j : Int) < 4 := by omega
          have GC := Lib.hid (dall_calls (n := n) _ bt j _ HT2.out hjl (Nat.le_trans HN.out HK2.out.fr.size))
          go_wp2_with fail
          (with_reducible refine GC.out.mono ?_)
          rintro e w5 ⟨rfl, G5, d5, k5⟩
          have D5 := Lib.hid d5
          have K5 := Lib.hid (HK2.out.trans k5)
          clear d5 k5 GC
          go_wp2
          go_roundw
          case rel => exact ⟨j + 1, G5, by go_num, by omega, D5.out, K5.out⟩
          case measure => simp [intOf]; omega
        · have hge : (4 : Int) ≤ j := by omega
          obtain rfl : j = 4 := by omega
          go_wp2
          go_end0
          exact ⟨rfl, G2, by rw [HG.out]; exact HT2.out, HK2.out⟩
/-- Time. -/
theorem dtime_calls {n : Nat} {G : Nat → Prop} (w : World) (bt now : Nat) (L : Lk) (h : DRE n G w bt L) (hm : now ≤ topM) (hn : n ≤ w.heap.size) :
    Calls Tryz.prog 36 #[.pointer (some ⟨bt, 0, none⟩), .int .u64 (now : Nat)] w fun e w' => e = .returned (.tuple #[]) ∧ ∃ G', DRE n G' w' bt (timeM L now) ∧ Kg bt G G' w w' := by
  by_cases hl : now ≤ L.now
  · refine (dtime_old w bt now L h hl).mono ?_
    rintro _ w1 ⟨rfl, rfl⟩
    have e : timeM L now = L := by unfold timeM; rw [if_pos hl]
    rw [e]
    exact ⟨rfl, G, h, Kg.refl G w⟩
  · rw [timeM_go h.four hl]
    exact dtime_new w bt now L h hl hm hn
end Go.Proofs.YtlolfcnfcgegdaaGreat
/- The document's service: leave (printed by dleave20.py). -/
namespace Go.Proofs.YtlolfcnfcgegdaaGreat
open Go.RowKit
set_option linter.unusedVariables false
set_option linter.unusedSimpArgs false

theorem cancelM_none {L : Lk} {c r : Nat} (h : wI (L.rg r).ws c = none) : (cancelM L c r).2 = L := by
  unfold cancelM
  split
  · rfl
  · rw [h]
set_option maxRecDepth 100000 in
set_option maxHeartbeats 8000000 in
theorem dleave_calls {n : Nat} {G : Nat → Prop} (w : World) (bd d1 d2 c : Nat) (M : MT) (L : Lk) (h : DS n G w bd d1 d2 M L) (hn : n ≤ w.heap.size) :
    Calls Tryz.prog 35 #[.pointer (some ⟨bd, 0, none⟩), .int .i64 (c : Nat)] w fun e w' => e = .returned (.tuple #[]) ∧ ∃ G', DS n G' w' bd d1 d2 M (leaveM L c) ∧ Kg d2 G G' w w' := by
  have HD := Lib.hid h
  have HN := Lib.hid hn
  clear h hn
  go_enter Tryz.func35, Tryz.ntmps35
  go_wp2
  go_loopw [4, 5, 6] (fun v4 _ _ wr => ∃ (i : Nat) (G' : Nat → Prop), v4 = .int .i64 i ∧ i ≤ 4 ∧ Hid (DS n G' wr bd d1 d2 M (leaveN L c i)) ∧ Hid (Kg d2 G G' w wr)) (fun v4 _ _ _ => 4 - (intOf v4).toNat)
  case atStart => exact ⟨0, G, rfl, by omega, HD.out, Kg.refl _ _⟩
  case round =>
    obtain ⟨i, G', rfl, hi, HT, HK⟩ := hrel
    by_cases hlt : i < 4
    · have hltI : (i : Int) < 4 := by omega
      have HLT := Lib.hid hlt
      have ES : Hid (leaveN L c (i + 1) = (cancelM (rel1 (leaveN L c i) c i) c i).2) := leaveR_step HT.out.lok.okk c i
      obtain ⟨Li, hLi⟩ : ∃ x, leaveN L c i = x := ⟨_, rfl⟩
      rw [hLi] at HT ES
      clear hLi
      have e1 := (HT.out.cells wr (Fr.refl _ _)).2
      have HC := Lib.hid (dhold_calls wr d2 c i Li HT.out.lok hlt)
      rw [hI_idx] at HC
      cases hx : hI (Li.rg i).hs c with
      | none =>
        rw [hx] at HC
        dsimp only at HC
        have T : Hid (DS n G' wr bd d1 d2 M (rel1 Li c i)) := by
          have e : rel1 Li c i = Li := by unfold rel1; rw [hx]
          rw [e]; exact HT.out
        go_wp2_with fail
        (with_reducible refine HC.out.mono ?_)
        rintro e w1 ⟨rfl, rfl⟩
        clear HC hx HT hlt e1
        have e2 := (T.out.cells wr (Fr.refl _ _)).2
        have WC := Lib.hid (dwant_calls wr d2 c i _ T.out.lok HLT.out)
        rw [wI_idx] at WC
        cases hy : wI ((rel1 Li c i).rg i).ws c with
        | none =>
          rw [hy] at WC
          dsimp only at WC
          have EC : Hid (leaveN L c (i + 1) = rel1 Li c i) := by show _ = _; rw [ES.out, cancelM_none hy]
          go_wp2_with fail
          (with_reducible refine WC.out.mono ?_)
          rintro e w2 ⟨rfl, rfl⟩
          clear WC e2 hy
          go_wp2
          go_roundw
          case rel => exact ⟨i + 1, _, by go_num, by omega, by rw [EC.out]; exact T.out, HK.out⟩
          case measure => simp [intOf]; omega
        | some m =>
          rw [hy] at WC
          dsimp only at WC
          have hm0 : (0 : Int) ≤ (m : Int) := by omega
          have YC := Lib.hid (dcancel_calls wr d2 c i _ T.out.lok (Nat.le_trans HN.out HK.out.fr.size))
          go_wp2_with fail
          (with_reducible refine WC.out.mono ?_)
          rintro e w2 ⟨rfl, rfl⟩
          clear WC hy
          go_wp2_with fail
          (with_reducible refine YC.out.mono ?_)
          rintro e w3 ⟨rfl, G5, d5, k5⟩
          have T5 := Lib.hid (T.out.setL d5 k5)
          have K5 := Lib.hid (HK.out.trans k5)
          clear YC d5 k5 e2
          go_wp2
          go_roundw
          case rel => exact ⟨i + 1, G5, by go_num, by omega, by rw [ES.out]; exact T5.out, K5.out⟩
          case measure => simp [intOf]; omega
      | some k =>
        rw [hx] at HC
        dsimp only at HC
        have hk0 : (0 : Int) ≤ (k : Int) := by omega
        have hk := (hI_some hx).1
        obtain ⟨hv, wv, DRI⟩ := HT.out.lok
        have HR := DRI.hr i hlt
        obtain ⟨ah, ch, eh, _⟩ := HR.form
        rw [eh] at HR
        obtain ⟨b, off, o, rfl, _, _, hcl⟩ := HR.spot (by omega)
        have hkI : (k : Int) < (Li.rg i).hs.length := by omega
        have k2 : ∀ W, Fr (fun _ _ => True) wr W → W.cell? ⟨bd, 1, none⟩ = some (.pointer (some ⟨d2, 0, none⟩)) ∧ W.cell? ⟨d2, 2 + i, none⟩ = some (.slice (some ⟨b, off, none⟩) (Li.rg i).hs.length ch) ∧ W.cell? ⟨b, off + k * 4 + 2, none⟩ = some (.int .u64 (((Li.rg i).hs[k]).t : Nat)) := fun W f => by
          refine ⟨(HT.out.cells W f).2, ?_, ?_⟩
          · rw [← eh]; exact ((DRI.cells W f).2.2.2.2 i hlt).1
          · exact f.cell (fun _ _ => trivial) (RowsAt.h4 (K := fun _ _ => True) hcl k hk).2.2.1
        have SS := Lib.hid k2
        have EG : (Li.rg i).hs.getD k default = (Li.rg i).hs[k] := getD_at hk
        have ER : Hid (rel1 Li c i = (releaseM Li c i ((Li.rg i).hs[k]).t).2) := by show _ = _; unfold rel1; rw [hx]; dsimp only; rw [EG]
        have XC := Lib.hid (fun W (f : Fr (fun _ _ => True) wr W) => drelease_calls W d2 c i ((Li.rg i).hs[k]).t Li (HT.out.lok.tt f) (Nat.le_trans HN.out (Nat.le_trans HK.out.fr.size f.size)))
        rw [← ER.out] at XC
        obtain ⟨tk, htk⟩ : ∃ tk, ((Li.rg i).hs[k]).t = tk := ⟨_, rfl⟩
        rw [htk] at SS XC
        generalize (Li.rg i).hs.length = ln at SS hkI
        generalize (releaseM Li c i tk).1 = rc at XC
        clear k2 DRI HR eh hcl EG ER htk hx hlt
        go_wp2_with fail
        (with_reducible refine HC.out.mono ?_)
        rintro e w1 ⟨rfl, rfl⟩
        clear HC
        go_upto_region 5 with fail
        have F5 : Hid (Fr (fun _ _ => True) wr wr.drew) := (Fr.refl _ _).drew
        clear e1
        refine wp_region_heldK (S1 := fun _ => True) (S0 := fun W => W.cell? ⟨bd, 1, none⟩ = some (.pointer (some ⟨d2, 0, none⟩)) ∧ W.cell? ⟨d2, 2 + i, none⟩ = some (.slice (some ⟨b, off, none⟩) ln ch) ∧ W.cell? ⟨b, off + k * 4 + 2, none⟩ = some (.int .u64 (tk : Nat))) (k := 19) (by kernel_rfl) ?_
        refine wpAnyK_take (i := 0) (v := ?v1) rfl (by rfl) (by kernel_rfl) (by kernel_rfl) (by kernel_rfl) (by kernel_rfl) (fun _ _ _ h => h) (Or.inl ⟨by rfl, ?hy1⟩) trivial (SS.out _ F5.out) ?rest1
        case hy1 => (intro w hSw; (try dsimp only at hSw); (try simp only [List.getElem_toArray, List.getElem_cons_zero, List.getElem_cons_succ]); go_simp; try with_reducible rfl)
        try simp only [List.getElem_toArray, List.getElem_cons_zero, List.getElem_cons_succ, Act.put, List.setIfInBounds_toArray, List.set_cons_zero, List.set_cons_succ]
        refine wpAnyK_take (i := 1) (v := ?v2) rfl (by rfl) (by kernel_rfl) (by kernel_rfl) (by kernel_rfl) (by kernel_rfl) (fun _ _ _ h => h) (Or.inl ⟨by rfl, ?hy2⟩) trivial (SS.out _ F5.out) ?rest2
        case hy2 => (intro w hSw; (try dsimp only at hSw); (try simp only [List.getElem_toArray, List.getElem_cons_zero, List.getElem_cons_succ]); go_simp; try with_reducible rfl)
        try simp only [List.getElem_toArray, List.getElem_cons_zero, List.getElem_cons_succ, Act.put, List.setIfInBounds_toArray, List.set_cons_zero, List.set_cons_succ]
        refine wpAnyK_take (i := 2) (v := ?v3) rfl (by rfl) (by kernel_rfl) (by kernel_rfl) (by kernel_rfl) (by kernel_rfl) (fun _ _ _ h => h) (Or.inl ⟨by rfl, ?hy3⟩) trivial (SS.out _ F5.out) ?rest3
        case hy3 => (intro w hSw; (try dsimp only at hSw); (try simp only [List.getElem_toArray, List.getElem_cons_zero, List.getElem_cons_succ]); go_simp; try with_reducible rfl)
        try simp only [List.getElem_toArray, List.getElem_cons_zero, List.getElem_cons_succ, Act.put, List.setIfInBounds_toArray, List.set_cons_zero, List.set_cons_succ]
        refine wpAnyK_take0 (i := 3) (v := ?v4) [19] rfl (by rfl) (by kernel_rfl) (by rfl) (by kernel_rfl) (by kernel_rfl) (by kernel_rfl) (by kernel_rfl) (fun _ _ _ h => h) (Or.inl ⟨by rfl, ?hy4⟩) trivial (SS.out _ F5.out) ?rest4
        case hy4 => (intro w hSw; (try dsimp only at hSw); (try simp only [List.getElem_toArray, List.getElem_cons_zero, List.getElem_cons_succ]); go_simp; try with_reducible rfl)
        try simp only [List.getElem_toArray, List.getElem_cons_zero, List.getElem_cons_succ, Act.put, List.setIfInBounds_toArray, List.set_cons_zero, List.set_cons_succ]
        refine wpAnyK_take (i := 4) (v := ?v5) rfl (by rfl) (by kernel_rfl) (by kernel_rfl) (by kernel_rfl) (by kernel_rfl) (fun _ _ _ h => h) (Or.inl ⟨by rfl, ?hy5⟩) trivial (SS.out _ F5.out) ?rest5
        case hy5 => (intro w hSw; (try dsimp only at hSw); (try simp only [List.getElem_toArray, List.getElem_cons_zero, List.getElem_cons_succ]); go_simp; try with_reducible rfl)
        try simp only [List.getElem_toArray, List.getElem_cons_zero, List.getElem_cons_succ, Act.put, List.setIfInBounds_toArray, List.set_cons_zero, List.set_cons_succ]
        refine wpAnyK_take (i := 5) (v := ?v6) rfl (by rfl) (by kernel_rfl) (by kernel_rfl) (by kernel_rfl) (by kernel_rfl) (fun _ _ _ h => h) (Or.inl ⟨by rfl, ?hy6⟩) trivial (SS.out _ F5.out) ?rest6
        case hy6 => (intro w hSw; (try dsimp only at hSw); (try simp only [List.getElem_toArray, List.getElem_cons_zero, List.getElem_cons_succ]); go_simp; try with_reducible rfl)
        try simp only [List.getElem_toArray, List.getElem_cons_zero, List.getElem_cons_succ, Act.put, List.setIfInBounds_toArray, List.set_cons_zero, List.set_cons_succ]
        refine wpAnyK_take (i := 6) (v := ?v7) rfl (by rfl) (by kernel_rfl) (by kernel_rfl) (by kernel_rfl) (by kernel_rfl) (fun _ _ _ h => h) (Or.inl ⟨by rfl, ?hy7⟩) trivial (SS.out _ F5.out) ?rest7
        case hy7 => (intro w hSw; (try dsimp only at hSw); (try simp only [List.getElem_toArray, List.getElem_cons_zero, List.getElem_cons_succ]); go_simp; try with_reducible rfl)
        try simp only [List.getElem_toArray, List.getElem_cons_zero, List.getElem_cons_succ, Act.put, List.setIfInBounds_toArray, List.set_cons_zero, List.set_cons_succ]
        refine wpAnyK_take (i := 7) (v := ?v8) rfl (by rfl) (by kernel_rfl) (by kernel_rfl) (by kernel_rfl) (by kernel_rfl) (fun _ _ _ h => h) (Or.inl ⟨by rfl, ?hy8⟩) trivial (SS.out _ F5.out) ?rest8
        case hy8 => (intro w hSw; (try dsimp only at hSw); (try simp only [List.getElem_toArray, List.getElem_cons_zero, List.getElem_cons_succ]); go_simp; try with_reducible rfl)
        try simp only [List.getElem_toArray, List.getElem_cons_zero, List.getElem_cons_succ, Act.put, List.setIfInBounds_toArray, List.set_cons_zero, List.set_cons_succ]
        refine wpAnyK_take (i := 8) (v := ?v9) rfl (by rfl) (by kernel_rfl) (by kernel_rfl) (by kernel_rfl) (by kernel_rfl) (fun _ _ _ h => h) (Or.inl ⟨by rfl, ?hy9⟩) trivial (SS.out _ F5.out) ?rest9
        case hy9 => (intro w hSw; (try dsimp only at hSw); (try simp only [List.getElem_toArray, List.getElem_cons_zero, List.getElem_cons_succ]); go_simp; try with_reducible rfl)
        try simp only [List.getElem_toArray, List.getElem_cons_zero, List.getElem_cons_succ, Act.put, List.setIfInBounds_toArray, List.set_cons_zero, List.set_cons_succ]
        refine wpAnyK_take0 (i := 9) (v := ?v10) [11, 12, 13, 14, 16, 17, 18, 19] rfl (by rfl) (by kernel_rfl) (by rfl) (by kernel_rfl) (by kernel_rfl) (by kernel_rfl) (by kernel_rfl) (fun _ _ _ h => h) (Or.inl ⟨by rfl, ?hy10⟩) trivial (SS.out _ F5.out) ?rest10
        case hy10 => (intro w hSw; (try dsimp only at hSw); (try simp only [List.getElem_toArray, List.getElem_cons_zero, List.getElem_cons_succ]); go_simp; try with_reducible rfl)
        try simp only [List.getElem_toArray, List.getElem_cons_zero, List.getElem_cons_succ, Act.put, List.setIfInBounds_toArray, List.set_cons_zero, List.set_cons_succ]
        refine wpAnyK_take (i := 10) (v := ?v11) rfl (by rfl) (by kernel_rfl) (by kernel_rfl) (by kernel_rfl) (by kernel_rfl) (fun _ _ _ h => h) (Or.inl ⟨by rfl, ?hy11⟩) trivial (SS.out _ F5.out) ?rest11
        case hy11 => (intro w hSw; (try dsimp only at hSw); (try simp only [List.getElem_toArray, List.getElem_cons_zero, List.getElem_cons_succ]); go_simp; try with_reducible rfl)
        try simp only [List.getElem_toArray, List.getElem_cons_zero, List.getElem_cons_succ, Act.put, List.setIfInBounds_toArray, List.set_cons_zero, List.set_cons_succ]
        refine wpAnyK_take (i := 11) (v := ?v12) rfl (by rfl) (by kernel_rfl) (by kernel_rfl) (by kernel_rfl) (by kernel_rfl) (fun _ _ _ h => h) (Or.inl ⟨by rfl, ?hy12⟩) trivial (SS.out _ F5.out) ?rest12
        case hy12 => (intro w hSw; (try dsimp only at hSw); (try simp only [List.getElem_toArray, List.getElem_cons_zero, List.getElem_cons_succ]); go_simp; try with_reducible rfl)
        try simp only [List.getElem_toArray, List.getElem_cons_zero, List.getElem_cons_succ, Act.put, List.setIfInBounds_toArray, List.set_cons_zero, List.set_cons_succ]
        refine wpAnyK_take (i := 12) (v := ?v13) rfl (by rfl) (by kernel_rfl) (by kernel_rfl) (by kernel_rfl) (by kernel_rfl) (fun _ _ _ h => h) (Or.inl ⟨by rfl, ?hy13⟩) trivial (SS.out _ F5.out) ?rest13
        case hy13 => (intro w hSw; (try dsimp only at hSw); (try simp only [List.getElem_toArray, List.getElem_cons_zero, List.getElem_cons_succ]); go_simp; try with_reducible rfl)
        try simp only [List.getElem_toArray, List.getElem_cons_zero, List.getElem_cons_succ, Act.put, List.setIfInBounds_toArray, List.set_cons_zero, List.set_cons_succ]
        refine wpAnyK_take (i := 13) (v := ?v14) rfl (by rfl) (by kernel_rfl) (by kernel_rfl) (by kernel_rfl) (by kernel_rfl) (fun _ _ _ h => h) (Or.inl ⟨by rfl, ?hy14⟩) trivial (SS.out _ F5.out) ?rest14
        case hy14 => (intro w hSw; (try dsimp only at hSw); (try simp only [List.getElem_toArray, List.getElem_cons_zero, List.getElem_cons_succ]); go_simp; try with_reducible rfl)
        try simp only [List.getElem_toArray, List.getElem_cons_zero, List.getElem_cons_succ, Act.put, List.setIfInBounds_toArray, List.set_cons_zero, List.set_cons_succ]
        refine wpAnyK_take0 (i := 14) (v := ?v15) [16, 17, 18, 19] rfl (by rfl) (by kernel_rfl) (by rfl) (by kernel_rfl) (by kernel_rfl) (by kernel_rfl) (by kernel_rfl) (fun _ _ _ h => h) (Or.inl ⟨by rfl, ?hy15⟩) trivial (SS.out _ F5.out) ?rest15
        case hy15 => (intro w hSw; (try dsimp only at hSw); (try simp only [List.getElem_toArray, List.getElem_cons_zero, List.getElem_cons_succ]); go_simp; try with_reducible rfl)
        try simp only [List.getElem_toArray, List.getElem_cons_zero, List.getElem_cons_succ, Act.put, List.setIfInBounds_toArray, List.set_cons_zero, List.set_cons_succ]
        refine wpAnyK_take (i := 15) (v := ?v16) rfl (by rfl) (by kernel_rfl) (by kernel_rfl) (by kernel_rfl) (by kernel_rfl) (fun _ _ _ h => h) (Or.inl ⟨by rfl, ?hy16⟩) trivial (SS.out _ F5.out) ?rest16
        case hy16 => (intro w hSw; (try dsimp only at hSw); (try simp only [List.getElem_toArray, List.getElem_cons_zero, List.getElem_cons_succ]); go_simp; try with_reducible rfl)
        try simp only [List.getElem_toArray, List.getElem_cons_zero, List.getElem_cons_succ, Act.put, List.setIfInBounds_toArray, List.set_cons_zero, List.set_cons_succ]
        refine wpAnyK_take (i := 16) (v := ?v17) rfl (by rfl) (by kernel_rfl) (by kernel_rfl) (by kernel_rfl) (by kernel_rfl) (fun _ _ _ h => h) (Or.inl ⟨by rfl, ?hy17⟩) trivial (SS.out _ F5.out) ?rest17
        case hy17 => (intro w hSw; (try dsimp only at hSw); (try simp only [List.getElem_toArray, List.getElem_cons_zero, List.getElem_cons_succ]); go_simp; try with_reducible rfl)
        try simp only [List.getElem_toArray, List.getElem_cons_zero, List.getElem_cons_succ, Act.put, List.setIfInBounds_toArray, List.set_cons_zero, List.set_cons_succ]
        refine wpAnyK_take (i := 17) (v := ?v18) rfl (by rfl) (by kernel_rfl) (by kernel_rfl) (by kernel_rfl) (by kernel_rfl) (fun _ _ _ h => h) (Or.inl ⟨by rfl, ?hy18⟩) trivial (SS.out _ F5.out) ?rest18
        case hy18 => (intro w hSw; (try dsimp only at hSw); (try simp only [List.getElem_toArray, List.getElem_cons_zero, List.getElem_cons_succ]); go_simp; try with_reducible rfl)
        try simp only [List.getElem_toArray, List.getElem_cons_zero, List.getElem_cons_succ, Act.put, List.setIfInBounds_toArray, List.set_cons_zero, List.set_cons_succ]
        refine wpAnyK_take0 (i := 18) (v := ?v19) [19] rfl (by rfl) (by kernel_rfl) (by rfl) (by kernel_rfl) (by kernel_rfl) (by kernel_rfl) (by kernel_rfl) (fun _ _ _ h => h) (Or.inl ⟨by rfl, ?hy19⟩) trivial (SS.out _ F5.out) ?rest19
        case hy19 => (intro w hSw; (try dsimp only at hSw); (try simp only [List.getElem_toArray, List.getElem_cons_zero, List.getElem_cons_succ]); go_simp; try with_reducible rfl)
        try simp only [List.getElem_toArray, List.getElem_cons_zero, List.getElem_cons_succ, Act.put, List.setIfInBounds_toArray, List.set_cons_zero, List.set_cons_succ]
        refine wpAnyK_ready (rs := [19]) (by kernel_rfl) (by simp) ?_
        refine AllReadyK.cons rfl (fun K hK => ?_) (by kernel_rfl) ?_
        · (try simp only [List.getElem_toArray, List.getElem_cons_zero, List.getElem_cons_succ])
          go_simp
          (with_reducible refine (XC.out _ F5.out).mono ?_)
          rintro e w9 ⟨rfl, G9, d9, k9⟩
          (try simp only [Act.put, List.setIfInBounds_toArray, List.set_cons_zero, List.set_cons_succ])
          refine hK.out _ _ trivial (fun h => absurd h (by decide)) ?_
          clear hK K
          refine wpAnyK_done (by kernel_rfl) ?_ _
          have K0 : Hid (Kg d2 G' G9 wr w9) := Lib.hid ((Kg.same G' F5.out).trans k9)
          have T9 := Lib.hid (HT.out.setL d9 K0.out)
          have K9 := Lib.hid (HK.out.trans K0.out)
          clear d9 k9 XC SS F5 HT HK K0
          have e2 := (T9.out.cells w9 (Fr.refl _ _)).2
          have WC := Lib.hid (dwant_calls w9 d2 c i _ T9.out.lok HLT.out)
          rw [wI_idx] at WC
          cases hy : wI ((rel1 Li c i).rg i).ws c with
          | none =>
            rw [hy] at WC
            dsimp only at WC
            have EC : Hid (leaveN L c (i + 1) = rel1 Li c i) := by show _ = _; rw [ES.out, cancelM_none hy]
            go_wp2_with fail
            (with_reducible refine WC.out.mono ?_)
            rintro e w2 ⟨rfl, rfl⟩
            clear WC e2 hy
            go_wp2
            go_roundw
            case rel => exact ⟨i + 1, _, by go_num, by omega, by rw [EC.out]; exact T9.out, K9.out⟩
            case measure => simp [intOf]; omega
          | some m =>
            rw [hy] at WC
            dsimp only at WC
            have hm0 : (0 : Int) ≤ (m : Int) := by omega
            have YC := Lib.hid (dcancel_calls w9 d2 c i _ T9.out.lok (Nat.le_trans HN.out K9.out.fr.size))
            go_wp2_with fail
            (with_reducible refine WC.out.mono ?_)
            rintro e w2 ⟨rfl, rfl⟩
            clear WC hy
            go_wp2_with fail
            (with_reducible refine YC.out.mono ?_)
            rintro e w3 ⟨rfl, G5, d5, k5⟩
            have T5 := Lib.hid (T9.out.setL d5 k5)
            have K5 := Lib.hid (K9.out.trans k5)
            clear YC d5 k5 e2
            go_wp2
            go_roundw
            case rel => exact ⟨i + 1, G5, by go_num, by omega, by rw [ES.out]; exact T5.out, K5.out⟩
            case measure => simp [intOf]; omega
        exact AllReadyK.nil
      all_goals skip
    · have hge : (4 : Int) ≤ i := by omega
      obtain rfl : i = 4 := by omega
      go_wp2
      go_end0
      exact ⟨rfl, G', HT.out, HK.out⟩
end Go.Proofs.YtlolfcnfcgegdaaGreat
/- The document's service: Apply: what is no command; ticks; opens (printed by dapply20.py). -/
namespace Go.Proofs.YtlolfcnfcgegdaaGreat
open Go.RowKit
set_option linter.unusedVariables false
set_option linter.unusedSimpArgs false

section
variable {n bd d1 d2 : Nat} {G G' : Nat → Prop} {w w1 w2 : World} {M : MT} {L : Lk}
/-- A block of a kind that no block of the state is of may be written. -/
theorem DS.kv_other (h : DS n G w bd d1 d2 M L) {m : Nat} {cs : Array Value} {t : TypeId} {fz : Nat × Nat} (hm : w.heap[m]? = some (.cells cs t fz)) (hn : n ≤ m) (ht : t ≠ 49 ∧ t ≠ 73 ∧ t ≠ 77 ∧ t ≠ 112 ∧ t ≠ 114 ∧ t ≠ 5) : ∀ c o, w.heap[c]? = some o → (c = bd ∨ c = d1 ∨ G c ∨ KD n c o) → c ≠ m := fun c o ho hk e => by
  subst e
  rw [hm] at ho
  cases ho
  rcases hk with rfl | rfl | hg | hu | ⟨_, _, e⟩
  · rw [h.top] at hm; cases hm; exact ht.1 rfl
  · obtain ⟨D, hD, _⟩ := h.ses
    obtain ⟨_, _, h1⟩ := hD.top'
    rw [h1] at hm; cases hm; exact ht.2.1 rfl
  · obtain ⟨_, _, _, _, h1, h2⟩ := h.lok.own hg
    rw [h1] at hm; cases hm
    rcases h2 with q | q | q
    · exact ht.2.2.1 q
    · exact ht.2.2.2.1 q
    · exact ht.2.2.2.2.1 q
  · omega
  · cases e; exact ht.2.2.2.2.2 rfl
theorem DS.end2 (h : DS n G' w1 bd d1 d2 M L) (k : Kh d1 d2 G G' w w1) {m : Nat} {cs : Array Value} {t : TypeId} {fz : Nat × Nat} (f : Fr (fun c _ => c ≠ m) w1 w2) (hm : w1.heap[m]? = some (.cells cs t fz)) (hn : n ≤ w.heap.size) (hw : w.heap.size ≤ m) (ht : t ≠ 49 ∧ t ≠ 73 ∧ t ≠ 77 ∧ t ≠ 112 ∧ t ≠ 114 ∧ t ≠ 5) : DS n G' w2 bd d1 d2 M L ∧ Kh d1 d2 G G' w w2 :=
  ⟨h.frk f (h.kv_other hm (Nat.le_trans hn hw) ht), Fr.within ((k.fr.mono fun _ _ h => h.1).trans (f.mono fun c _ h => by have := h.2; omega)), k.new⟩
theorem DS.far (h : DS n G w bd d1 d2 M L) : d1 < w.heap.size ∧ d2 < w.heap.size ∧ bd < w.heap.size ∧ bd ≠ d1 ∧ bd ≠ d2 ∧ d1 ≠ d2 := by
  obtain ⟨D, hD, _⟩ := h.ses
  obtain ⟨_, _, h1⟩ := hD.top'
  obtain ⟨_, _, h2⟩ := h.lok.top'
  refine ⟨lt_of_some h1, lt_of_some h2, lt_of_some h.top, fun e => ?_, fun e => ?_, fun e => ?_⟩
  · subst e; rw [h.top] at h1; cases h1
  · subst e; rw [h.top] at h2; cases h2
  · subst e; rw [h1] at h2; cases h2
end
set_option maxRecDepth 100000 in
set_option maxHeartbeats 2000000 in
theorem dap_bad {n : Nat} {G : Nat → Prop} {K : Nat → Obj → Prop} (w : World) (bd d1 d2 : Nat) (M : MT) (L : Lk) (v : Value) (b : List UInt8) (h : DS n G w bd d1 d2 M L) (hn : n ≤ w.heap.size) (hb : BytesAt K w v b) (hm : b.length ≤ 1000000) (e0 : Nat) (C : Cmd) (hd : decM b = (C, e0)) (he : e0 ≠ 0) :
    Calls Tryz.prog 11 #[.pointer (some ⟨bd, 0, none⟩), v] w fun e w' => e = .returned (vR ⟨1, 0⟩) ∧ ∃ G', DS n G' w' bd d1 d2 M L ∧ Kh d1 d2 G G' w w' := by
  obtain ⟨W1, hW1⟩ : ∃ W, w.alloc (.cells #[.int .i64 0, .int .u64 0] 38 (0, 0)) = W := ⟨_, rfl⟩
  have F1 : Hid (Fr (fun _ _ => True) w W1) := hW1 ▸ (Fr.refl _ _).alloc _
  have X1 : Hid (W1.heap[w.heap.size]? = some (.cells #[.int .i64 0, .int .u64 0] 38 (0, 0))) := hW1 ▸ heap_alloc_new w _
  have DC := Lib.hid (rdec_calls W1 v b (hb.tt F1.out) hm)
  rw [hd] at DC
  unfold vC at DC
  dsimp only at DC
  have H := Lib.hid h
  have HN := Lib.hid hn
  have HSZ : Hid (w.heap.size < W1.heap.size) := lt_of_some X1.out
  have NB := Lib.hid h.far
  have heI : ((e0 : Int) != 0) = true := by simp; omega
  clear he
  clear h hn hd hb hm
  go_enter Tryz.func11, Tryz.ntmps11
  go_wp2_with fail
  (with_reducible refine DC.out.mono ?_)
  rintro e w2 ⟨rfl, f2⟩
  have F2 := Lib.hid (F1.out.trans f2)
  have X2 : Hid (w2.heap[w.heap.size]? = some (.cells #[.int .i64 0, .int .u64 0] 38 (0, 0))) := f2.keep _ _ X1.out trivial
  clear f2 DC
  obtain ⟨W3, hW3⟩ : ∃ W, w2.alloc (.cells #[.int .i64 C.op, .int .i64 C.cl, .int .u32 (C.sq : Nat), .int .i64 C.rg, .int .i64 C.md, .int .u64 (C.tk : Nat), .int .u64 (C.tm : Nat)] 80 (0, 0)) = W := ⟨_, rfl⟩
  have F3 : Hid (Fr (fun _ _ => True) w2 W3) := hW3 ▸ (Fr.refl _ _).alloc _
  have XR : Hid (W3.heap[w.heap.size]? = some (.cells #[.int .i64 0, .int .u64 0] 38 (0, 0))) := F3.out.keep _ _ X2.out trivial
  have FA : Hid (Fr (fun _ _ => True) w W3) := F2.out.trans F3.out
  have q0 := cell_mk (i := 0) XR.out rfl
  have q1 := cell_mk (i := 1) XR.out rfl
  have y0 := frozen_mk (i := 0) XR.out
  have y1 := frozen_mk (i := 1) XR.out
  obtain ⟨WZ, hWZ, TZ, FZ⟩ := set2 XR.out (.int .i64 1) (.int .u64 0)
  have p0 := cell_mk (i := 0) TZ rfl
  have p1 := cell_mk (i := 1) TZ rfl
  have FZH := Lib.hid FZ
  clear TZ FZ
  go_wp2
  try rw [hWZ]
  refine bodyPost_ret (v := .agg #[.int .i64 1, .int .u64 0]) (by simp [results, Tryz.results11, go_sem, *]) rfl ⟨rfl, G, ?_⟩
  try rw [hWZ]
  exact DS.end2 (H.out.tt FA.out) (Kh.same G FA.out) FZH.out XR.out HN.out (Nat.le_refl _) (by decide)
set_option maxRecDepth 100000 in
set_option maxHeartbeats 2000000 in
theorem dap_tick {n : Nat} {G : Nat → Prop} {K : Nat → Obj → Prop} (w : World) (bd d1 d2 : Nat) (M : MT) (L : Lk) (v : Value) (b : List UInt8) (h : DS n G w bd d1 d2 M L) (hn : n ≤ w.heap.size) (hb : BytesAt K w v b) (hm : b.length ≤ 1000000) (cl sq rg md tk tm : Nat) (ht : tm ≤ topM) (hd : decM b = (⟨7, (cl : Nat), sq, (rg : Nat), (md : Nat), tk, tm⟩, 0)) :
    Calls Tryz.prog 11 #[.pointer (some ⟨bd, 0, none⟩), v] w fun e w' => e = .returned (vR ⟨0, (timeM L tm).now⟩) ∧ ∃ G', DS n G' w' bd d1 d2 M (timeM L tm) ∧ Kh d1 d2 G G' w w' := by
  obtain ⟨W1, hW1⟩ : ∃ W, w.alloc (.cells #[.int .i64 0, .int .u64 0] 38 (0, 0)) = W := ⟨_, rfl⟩
  have F1 : Hid (Fr (fun _ _ => True) w W1) := hW1 ▸ (Fr.refl _ _).alloc _
  have X1 : Hid (W1.heap[w.heap.size]? = some (.cells #[.int .i64 0, .int .u64 0] 38 (0, 0))) := hW1 ▸ heap_alloc_new w _
  have DC := Lib.hid (rdec_calls W1 v b (hb.tt F1.out) hm)
  rw [hd] at DC
  unfold vC at DC
  dsimp only at DC
  have H := Lib.hid h
  have HN := Lib.hid hn
  have HSZ : Hid (w.heap.size < W1.heap.size) := lt_of_some X1.out
  have NB := Lib.hid h.far
  have HT := Lib.hid ht
  clear ht
  clear h hn hd hb hm
  go_enter Tryz.func11, Tryz.ntmps11
  go_wp2_with fail
  (with_reducible refine DC.out.mono ?_)
  rintro e w2 ⟨rfl, f2⟩
  have F2 := Lib.hid (F1.out.trans f2)
  have X2 : Hid (w2.heap[w.heap.size]? = some (.cells #[.int .i64 0, .int .u64 0] 38 (0, 0))) := f2.keep _ _ X1.out trivial
  clear f2 DC
  obtain ⟨W3, hW3⟩ : ∃ W, w2.alloc (.cells #[.int .i64 7, .int .i64 (cl : Nat), .int .u32 (sq : Nat), .int .i64 (rg : Nat), .int .i64 (md : Nat), .int .u64 (tk : Nat), .int .u64 (tm : Nat)] 80 (0, 0)) = W := ⟨_, rfl⟩
  have F3 : Hid (Fr (fun _ _ => True) w2 W3) := hW3 ▸ (Fr.refl _ _).alloc _
  have X3 : Hid (W3.heap[w2.heap.size]? = some (.cells #[.int .i64 7, .int .i64 (cl : Nat), .int .u32 (sq : Nat), .int .i64 (rg : Nat), .int .i64 (md : Nat), .int .u64 (tk : Nat), .int .u64 (tm : Nat)] 80 (0, 0))) := hW3 ▸ heap_alloc_new w2 _
  have XR : Hid (W3.heap[w.heap.size]? = some (.cells #[.int .i64 0, .int .u64 0] 38 (0, 0))) := F3.out.keep _ _ X2.out trivial
  have c0 := cell_mk (i := 0) X3.out rfl
  have FA : Hid (Fr (fun _ _ => True) w W3) := F2.out.trans F3.out
  have SA := Lib.hid (H.out.tt FA.out)
  have KA : Hid (Kh d1 d2 G G w W3) := Kh.same G FA.out
  have U0 : Hid (Fr (fun _ _ => True) W3 W3.drew) := (Fr.refl _ _).drew
  have HNA : Hid (n ≤ W3.heap.size) := Nat.le_trans HN.out FA.out.size
  have BX : Hid (w.heap.size < w2.heap.size) := lt_of_some X2.out
  go_upto_region 13 with fail
  try rw [hW3]
  clear c0
  have CC : Hid (∀ W, Fr (fun k _ => k ≠ d2) W3 W → W.cell? ⟨bd, 1, none⟩ = some (.pointer (some ⟨d2, 0, none⟩)) ∧ W.cell? ⟨w2.heap.size, 6, none⟩ = some (.int .u64 (tm : Nat))) := fun W f => ⟨cell_mk (f.keep _ _ SA.out.top NB.out.2.2.2.2.1) rfl, cell_mk (f.keep _ _ X3.out (by have := BX.out; have := NB.out.2.1; omega)) rfl⟩
  have TC := Lib.hid (fun W (f : Fr (fun _ _ => True) W3 W) => dtime_calls (n := n) W d2 tm L (SA.out.lok.tt f) HT.out (Nat.le_trans HNA.out f.size))
  clear hW3
  go_region_held3 (fun W => W.cell? ⟨bd, 1, none⟩ = some (.pointer (some ⟨d2, 0, none⟩)) ∧ W.cell? ⟨w2.heap.size, 6, none⟩ = some (.int .u64 (tm : Nat)))
    (first | exact CC.out _ (U0.out.mono fun _ _ _ => trivial) | exact CC.out _ HK9.out.fr)
    ((go_at_call 36; go_must ((with_reducible refine (TC.out _ ?cf).mono ?_); (case cf => exact U0.out); rintro e w9 ⟨rfl, G9, T9, K9⟩; have HT9 := Lib.hid T9; have HK9 := Lib.hid ((Kg.same G U0.out).trans K9); clear T9 K9)))
  have S9 := Lib.hid (SA.out.setL HT9.out HK9.out)
  have e9 := (S9.out.cells w9 (Fr.refl _ _)).2
  have X9 : Hid (w9.heap[w.heap.size]? = some (.cells #[.int .i64 0, .int .u64 0] 38 (0, 0))) := HK9.out.fr.keep _ _ XR.out (by have := NB.out.2.1; omega)
  obtain ⟨TN, hTN⟩ : ∃ t, (timeM L tm).now = t := ⟨_, rfl⟩
  have e8 : w9.cell? ⟨d2, 0, none⟩ = some (.int .u64 (TN : Nat)) := by
    obtain ⟨hv, wv, D⟩ := S9.out.lok
    rw [← hTN]
    exact (D.cells w9 (Fr.refl _ _)).1
  have HTN := Lib.hid hTN
  clear hTN
  have q0 := cell_mk (i := 0) X9.out rfl
  have q1 := cell_mk (i := 1) X9.out rfl
  have y0 := frozen_mk (i := 0) X9.out
  have y1 := frozen_mk (i := 1) X9.out
  obtain ⟨WZ, hWZ, TZ, FZ⟩ := set2 X9.out (.int .i64 0) (.int .u64 (TN : Nat))
  have p0 := cell_mk (i := 0) TZ rfl
  have p1 := cell_mk (i := 1) TZ rfl
  have FZH := Lib.hid FZ
  clear TZ FZ
  go_wp2
  try rw [hWZ]
  refine bodyPost_ret (v := .agg #[.int .i64 0, .int .u64 (TN : Nat)]) (by simp [results, Tryz.results11, go_sem, *]) rfl ⟨by rw [HTN.out]; rfl, G9, ?_⟩
  try rw [hWZ]
  exact DS.end2 (S9.out) (KA.out.trans HK9.out.kh) FZH.out X9.out HN.out (Nat.le_refl _) (by decide)
set_option maxRecDepth 100000 in
set_option maxHeartbeats 2000000 in
theorem dap_open {n : Nat} {G : Nat → Prop} {K : Nat → Obj → Prop} (w : World) (bd d1 d2 : Nat) (M : MT) (L : Lk) (v : Value) (b : List UInt8) (h : DS n G w bd d1 d2 M L) (hn : n ≤ w.heap.size) (hb : BytesAt K w v b) (hm : b.length ≤ 1000000) (cl sq rg md tk tm : Nat) (hd : decM b = (⟨1, (cl : Nat), sq, (rg : Nat), (md : Nat), tk, tm⟩, 0)) (k : Nat) (M' : MT) (ho : openM M (cl : Nat) = (((k : Nat) : Int), M')) :
    Calls Tryz.prog 11 #[.pointer (some ⟨bd, 0, none⟩), v] w fun e w' => e = .returned (vR ⟨k, 0⟩) ∧ ∃ G', DS n G' w' bd d1 d2 M' L ∧ Kh d1 d2 G G' w w' := by
  obtain ⟨W1, hW1⟩ : ∃ W, w.alloc (.cells #[.int .i64 0, .int .u64 0] 38 (0, 0)) = W := ⟨_, rfl⟩
  have F1 : Hid (Fr (fun _ _ => True) w W1) := hW1 ▸ (Fr.refl _ _).alloc _
  have X1 : Hid (W1.heap[w.heap.size]? = some (.cells #[.int .i64 0, .int .u64 0] 38 (0, 0))) := hW1 ▸ heap_alloc_new w _
  have DC := Lib.hid (rdec_calls W1 v b (hb.tt F1.out) hm)
  rw [hd] at DC
  unfold vC at DC
  dsimp only at DC
  have H := Lib.hid h
  have HN := Lib.hid hn
  have HSZ : Hid (w.heap.size < W1.heap.size) := lt_of_some X1.out
  have NB := Lib.hid h.far
  have HO := Lib.hid ho
  clear ho
  clear h hn hd hb hm
  go_enter Tryz.func11, Tryz.ntmps11
  go_wp2_with fail
  (with_reducible refine DC.out.mono ?_)
  rintro e w2 ⟨rfl, f2⟩
  have F2 := Lib.hid (F1.out.trans f2)
  have X2 : Hid (w2.heap[w.heap.size]? = some (.cells #[.int .i64 0, .int .u64 0] 38 (0, 0))) := f2.keep _ _ X1.out trivial
  clear f2 DC
  obtain ⟨W3, hW3⟩ : ∃ W, w2.alloc (.cells #[.int .i64 1, .int .i64 (cl : Nat), .int .u32 (sq : Nat), .int .i64 (rg : Nat), .int .i64 (md : Nat), .int .u64 (tk : Nat), .int .u64 (tm : Nat)] 80 (0, 0)) = W := ⟨_, rfl⟩
  have F3 : Hid (Fr (fun _ _ => True) w2 W3) := hW3 ▸ (Fr.refl _ _).alloc _
  have X3 : Hid (W3.heap[w2.heap.size]? = some (.cells #[.int .i64 1, .int .i64 (cl : Nat), .int .u32 (sq : Nat), .int .i64 (rg : Nat), .int .i64 (md : Nat), .int .u64 (tk : Nat), .int .u64 (tm : Nat)] 80 (0, 0))) := hW3 ▸ heap_alloc_new w2 _
  have XR : Hid (W3.heap[w.heap.size]? = some (.cells #[.int .i64 0, .int .u64 0] 38 (0, 0))) := F3.out.keep _ _ X2.out trivial
  have c0 := cell_mk (i := 0) X3.out rfl
  have FA : Hid (Fr (fun _ _ => True) w W3) := F2.out.trans F3.out
  have SA := Lib.hid (H.out.tt FA.out)
  have KA : Hid (Kh d1 d2 G G w W3) := Kh.same G FA.out
  have U0 : Hid (Fr (fun _ _ => True) W3 W3.drew) := (Fr.refl _ _).drew
  have HNA : Hid (n ≤ W3.heap.size) := Nat.le_trans HN.out FA.out.size
  have BX : Hid (w.heap.size < w2.heap.size) := lt_of_some X2.out
  go_upto_region 6 with fail
  try rw [hW3]
  clear c0
  have CC : Hid (∀ W, Fr (fun k _ => k ≠ d1 ∧ k ≠ w.heap.size) W3 W → W.cell? ⟨bd, 0, none⟩ = some (.pointer (some ⟨d1, 0, none⟩)) ∧ W.cell? ⟨w2.heap.size, 1, none⟩ = some (.int .i64 (cl : Nat))) := fun W f => ⟨cell_mk (f.keep _ _ SA.out.top (by have := NB.out; omega)) rfl, cell_mk (f.keep _ _ X3.out (by have := BX.out; have := NB.out.1; omega)) rfl⟩
  have OC := Lib.hid (fun W (f : Fr (fun _ _ => True) W3 W) => ds_open W (cl : Nat) (SA.out.tt f))
  rw [HO.out] at OC
  clear hW3
  go_region_held3 (fun W => W.cell? ⟨bd, 0, none⟩ = some (.pointer (some ⟨d1, 0, none⟩)) ∧ W.cell? ⟨w2.heap.size, 1, none⟩ = some (.int .i64 (cl : Nat)))
    (first | exact CC.out _ (U0.out.mono fun _ _ _ => trivial) | exact CC.out _ (HK9.out.mono fun _ _ h => h.1) | exact CC.out _ (((HK9.out.mono fun _ _ h => h.1).setCell (fun _ _ h => h.2 rfl) _).setCell (fun _ _ h => h.2 rfl) _))
    ((go_at_call 33; go_must ((with_reducible refine (OC.out _ ?cf).mono ?_); (case cf => exact U0.out); rintro e w9 ⟨rfl, T9, K9⟩; have S9 := Lib.hid T9; have HK9 : Hid (Fr (fun c _ => c ≠ d1) W3 w9) := Lib.hid ((U0.out.mono fun _ _ _ => trivial).trans K9); have X9 : Hid (w9.heap[w.heap.size]? = some (.cells #[.int .i64 0, .int .u64 0] 38 (0, 0))) := HK9.out.keep _ _ XR.out (by have := NB.out.1; omega); have q0 := cell_mk (i := 0) X9.out rfl; have q1 := cell_mk (i := 1) X9.out rfl; have y0 := frozen_mk (i := 0) X9.out; have y1 := frozen_mk (i := 1) X9.out; clear T9 K9)))
  clear q0 q1 y0 y1
  obtain ⟨WZ, hWZ, TZ, FZ⟩ := set2 X9.out (.int .i64 (k : Nat)) (.int .u64 0)
  have p0 := cell_mk (i := 0) TZ rfl
  have p1 := cell_mk (i := 1) TZ rfl
  have FZH := Lib.hid FZ
  clear TZ FZ
  go_wp2
  try rw [hWZ]
  refine bodyPost_ret (v := .agg #[.int .i64 (k : Nat), .int .u64 0]) (by simp [results, Tryz.results11, go_sem, *]) rfl ⟨rfl, G, ?_⟩
  try rw [hWZ]
  exact DS.end2 (S9.out) (KA.out.trans (Kh.ses HK9.out)) FZH.out X9.out HN.out (Nat.le_refl _) (by decide)
end Go.Proofs.YtlolfcnfcgegdaaGreat
/- The document's service: Apply: closes (printed by dapply20.py). -/
namespace Go.Proofs.YtlolfcnfcgegdaaGreat
open Go.RowKit
set_option linter.unusedVariables false
set_option linter.unusedSimpArgs false

set_option maxRecDepth 100000 in
set_option maxHeartbeats 2000000 in
theorem dap_shut_no {n : Nat} {G : Nat → Prop} {K : Nat → Obj → Prop} (w : World) (bd d1 d2 : Nat) (M : MT) (L : Lk) (v : Value) (b : List UInt8) (h : DS n G w bd d1 d2 M L) (hn : n ≤ w.heap.size) (hb : BytesAt K w v b) (hm : b.length ≤ 1000000) (cl sq rg md tk tm : Nat) (hd : decM b = (⟨2, (cl : Nat), sq, (rg : Nat), (md : Nat), tk, tm⟩, 0)) (k : Nat) (M' : MT) (ho : closeM M (cl : Nat) = (((k : Nat) : Int), M')) (hk : k ≠ 0) :
    Calls Tryz.prog 11 #[.pointer (some ⟨bd, 0, none⟩), v] w fun e w' => e = .returned (vR ⟨k, 0⟩) ∧ ∃ G', DS n G' w' bd d1 d2 M' L ∧ Kh d1 d2 G G' w w' := by
  obtain ⟨W1, hW1⟩ : ∃ W, w.alloc (.cells #[.int .i64 0, .int .u64 0] 38 (0, 0)) = W := ⟨_, rfl⟩
  have F1 : Hid (Fr (fun _ _ => True) w W1) := hW1 ▸ (Fr.refl _ _).alloc _
  have X1 : Hid (W1.heap[w.heap.size]? = some (.cells #[.int .i64 0, .int .u64 0] 38 (0, 0))) := hW1 ▸ heap_alloc_new w _
  have DC := Lib.hid (rdec_calls W1 v b (hb.tt F1.out) hm)
  rw [hd] at DC
  unfold vC at DC
  dsimp only at DC
  have H := Lib.hid h
  have HN := Lib.hid hn
  have HSZ : Hid (w.heap.size < W1.heap.size) := lt_of_some X1.out
  have NB := Lib.hid h.far
  have HO := Lib.hid ho
  have hkI : ((k : Int) == 0) = false := by simp; omega
  clear ho hk
  clear h hn hd hb hm
  go_enter Tryz.func11, Tryz.ntmps11
  go_wp2_with fail
  (with_reducible refine DC.out.mono ?_)
  rintro e w2 ⟨rfl, f2⟩
  have F2 := Lib.hid (F1.out.trans f2)
  have X2 : Hid (w2.heap[w.heap.size]? = some (.cells #[.int .i64 0, .int .u64 0] 38 (0, 0))) := f2.keep _ _ X1.out trivial
  clear f2 DC
  obtain ⟨W3, hW3⟩ : ∃ W, w2.alloc (.cells #[.int .i64 2, .int .i64 (cl : Nat), .int .u32 (sq : Nat), .int .i64 (rg : Nat), .int .i64 (md : Nat), .int .u64 (tk : Nat), .int .u64 (tm : Nat)] 80 (0, 0)) = W := ⟨_, rfl⟩
  have F3 : Hid (Fr (fun _ _ => True) w2 W3) := hW3 ▸ (Fr.refl _ _).alloc _
  have X3 : Hid (W3.heap[w2.heap.size]? = some (.cells #[.int .i64 2, .int .i64 (cl : Nat), .int .u32 (sq : Nat), .int .i64 (rg : Nat), .int .i64 (md : Nat), .int .u64 (tk : Nat), .int .u64 (tm : Nat)] 80 (0, 0))) := hW3 ▸ heap_alloc_new w2 _
  have XR : Hid (W3.heap[w.heap.size]? = some (.cells #[.int .i64 0, .int .u64 0] 38 (0, 0))) := F3.out.keep _ _ X2.out trivial
  have c0 := cell_mk (i := 0) X3.out rfl
  have FA : Hid (Fr (fun _ _ => True) w W3) := F2.out.trans F3.out
  have SA := Lib.hid (H.out.tt FA.out)
  have KA : Hid (Kh d1 d2 G G w W3) := Kh.same G FA.out
  have U0 : Hid (Fr (fun _ _ => True) W3 W3.drew) := (Fr.refl _ _).drew
  have HNA : Hid (n ≤ W3.heap.size) := Nat.le_trans HN.out FA.out.size
  have BX : Hid (w.heap.size < w2.heap.size) := lt_of_some X2.out
  go_upto_region 8 with fail
  try rw [hW3]
  clear c0
  have CC : Hid (∀ W, Fr (fun k _ => k ≠ d1) W3 W → W.cell? ⟨bd, 0, none⟩ = some (.pointer (some ⟨d1, 0, none⟩)) ∧ W.cell? ⟨w2.heap.size, 1, none⟩ = some (.int .i64 (cl : Nat))) := fun W f => ⟨cell_mk (f.keep _ _ SA.out.top NB.out.2.2.2.1) rfl, cell_mk (f.keep _ _ X3.out (by have := BX.out; have := NB.out.1; omega)) rfl⟩
  have OC := Lib.hid (fun W (f : Fr (fun _ _ => True) W3 W) => ds_close W (cl : Nat) (SA.out.tt f))
  rw [HO.out] at OC
  clear hW3
  go_region_held3 (fun W => W.cell? ⟨bd, 0, none⟩ = some (.pointer (some ⟨d1, 0, none⟩)) ∧ W.cell? ⟨w2.heap.size, 1, none⟩ = some (.int .i64 (cl : Nat)))
    (first | exact CC.out _ (U0.out.mono fun _ _ _ => trivial) | exact CC.out _ HK9.out)
    ((go_at_call 34; go_must ((with_reducible refine (OC.out _ ?cf).mono ?_); (case cf => exact U0.out); rintro e w9 ⟨rfl, T9, K9⟩; have S9 := Lib.hid T9; have HK9 : Hid (Fr (fun c _ => c ≠ d1) W3 w9) := Lib.hid ((U0.out.mono fun _ _ _ => trivial).trans K9); clear T9 K9)))
  have X9 : Hid (w9.heap[w.heap.size]? = some (.cells #[.int .i64 0, .int .u64 0] 38 (0, 0))) := HK9.out.keep _ _ XR.out (by have := NB.out.1; omega)
  have q0 := cell_mk (i := 0) X9.out rfl
  have q1 := cell_mk (i := 1) X9.out rfl
  have y0 := frozen_mk (i := 0) X9.out
  have y1 := frozen_mk (i := 1) X9.out
  obtain ⟨WZ, hWZ, TZ, FZ⟩ := set2 X9.out (.int .i64 (k : Nat)) (.int .u64 0)
  have p0 := cell_mk (i := 0) TZ rfl
  have p1 := cell_mk (i := 1) TZ rfl
  have FZH := Lib.hid FZ
  clear TZ FZ
  go_wp2
  try rw [hWZ]
  refine bodyPost_ret (v := .agg #[.int .i64 (k : Nat), .int .u64 0]) (by simp [results, Tryz.results11, go_sem, *]) rfl ⟨rfl, G, ?_⟩
  try rw [hWZ]
  exact DS.end2 (S9.out) (KA.out.trans (Kh.ses HK9.out)) FZH.out X9.out HN.out (Nat.le_refl _) (by decide)
set_option maxRecDepth 100000 in
set_option maxHeartbeats 2000000 in
theorem dap_shut_yes {n : Nat} {G : Nat → Prop} {K : Nat → Obj → Prop} (w : World) (bd d1 d2 : Nat) (M : MT) (L : Lk) (v : Value) (b : List UInt8) (h : DS n G w bd d1 d2 M L) (hn : n ≤ w.heap.size) (hb : BytesAt K w v b) (hm : b.length ≤ 1000000) (cl sq rg md tk tm : Nat) (hd : decM b = (⟨2, (cl : Nat), sq, (rg : Nat), (md : Nat), tk, tm⟩, 0)) (M' : MT) (ho : closeM M (cl : Nat) = (((0 : Nat) : Int), M')) :
    Calls Tryz.prog 11 #[.pointer (some ⟨bd, 0, none⟩), v] w fun e w' => e = .returned (vR ⟨0, 0⟩) ∧ ∃ G', DS n G' w' bd d1 d2 M' (leaveM L cl) ∧ Kh d1 d2 G G' w w' := by
  obtain ⟨W1, hW1⟩ : ∃ W, w.alloc (.cells #[.int .i64 0, .int .u64 0] 38 (0, 0)) = W := ⟨_, rfl⟩
  have F1 : Hid (Fr (fun _ _ => True) w W1) := hW1 ▸ (Fr.refl _ _).alloc _
  have X1 : Hid (W1.heap[w.heap.size]? = some (.cells #[.int .i64 0, .int .u64 0] 38 (0, 0))) := hW1 ▸ heap_alloc_new w _
  have DC := Lib.hid (rdec_calls W1 v b (hb.tt F1.out) hm)
  rw [hd] at DC
  unfold vC at DC
  dsimp only at DC
  have H := Lib.hid h
  have HN := Lib.hid hn
  have HSZ : Hid (w.heap.size < W1.heap.size) := lt_of_some X1.out
  have NB := Lib.hid h.far
  have HO := Lib.hid ho
  clear ho
  clear h hn hd hb hm
  go_enter Tryz.func11, Tryz.ntmps11
  go_wp2_with fail
  (with_reducible refine DC.out.mono ?_)
  rintro e w2 ⟨rfl, f2⟩
  have F2 := Lib.hid (F1.out.trans f2)
  have X2 : Hid (w2.heap[w.heap.size]? = some (.cells #[.int .i64 0, .int .u64 0] 38 (0, 0))) := f2.keep _ _ X1.out trivial
  clear f2 DC
  obtain ⟨W3, hW3⟩ : ∃ W, w2.alloc (.cells #[.int .i64 2, .int .i64 (cl : Nat), .int .u32 (sq : Nat), .int .i64 (rg : Nat), .int .i64 (md : Nat), .int .u64 (tk : Nat), .int .u64 (tm : Nat)] 80 (0, 0)) = W := ⟨_, rfl⟩
  have F3 : Hid (Fr (fun _ _ => True) w2 W3) := hW3 ▸ (Fr.refl _ _).alloc _
  have X3 : Hid (W3.heap[w2.heap.size]? = some (.cells #[.int .i64 2, .int .i64 (cl : Nat), .int .u32 (sq : Nat), .int .i64 (rg : Nat), .int .i64 (md : Nat), .int .u64 (tk : Nat), .int .u64 (tm : Nat)] 80 (0, 0))) := hW3 ▸ heap_alloc_new w2 _
  have XR : Hid (W3.heap[w.heap.size]? = some (.cells #[.int .i64 0, .int .u64 0] 38 (0, 0))) := F3.out.keep _ _ X2.out trivial
  have c0 := cell_mk (i := 0) X3.out rfl
  have FA : Hid (Fr (fun _ _ => True) w W3) := F2.out.trans F3.out
  have SA := Lib.hid (H.out.tt FA.out)
  have KA : Hid (Kh d1 d2 G G w W3) := Kh.same G FA.out
  have U0 : Hid (Fr (fun _ _ => True) W3 W3.drew) := (Fr.refl _ _).drew
  have HNA : Hid (n ≤ W3.heap.size) := Nat.le_trans HN.out FA.out.size
  have BX : Hid (w.heap.size < w2.heap.size) := lt_of_some X2.out
  go_upto_region 8 with fail
  try rw [hW3]
  clear c0
  have CC : Hid (∀ W, Fr (fun k _ => k ≠ d1) W3 W → W.cell? ⟨bd, 0, none⟩ = some (.pointer (some ⟨d1, 0, none⟩)) ∧ W.cell? ⟨w2.heap.size, 1, none⟩ = some (.int .i64 (cl : Nat))) := fun W f => ⟨cell_mk (f.keep _ _ SA.out.top NB.out.2.2.2.1) rfl, cell_mk (f.keep _ _ X3.out (by have := BX.out; have := NB.out.1; omega)) rfl⟩
  have OC := Lib.hid (fun W (f : Fr (fun _ _ => True) W3 W) => ds_close W (cl : Nat) (SA.out.tt f))
  rw [HO.out] at OC
  clear hW3
  go_region_held3 (fun W => W.cell? ⟨bd, 0, none⟩ = some (.pointer (some ⟨d1, 0, none⟩)) ∧ W.cell? ⟨w2.heap.size, 1, none⟩ = some (.int .i64 (cl : Nat)))
    (first | exact CC.out _ (U0.out.mono fun _ _ _ => trivial) | exact CC.out _ HK9.out)
    ((go_at_call 34; go_must ((with_reducible refine (OC.out _ ?cf).mono ?_); (case cf => exact U0.out); rintro e w9 ⟨rfl, T9, K9⟩; have S9 := Lib.hid T9; have HK9 : Hid (Fr (fun c _ => c ≠ d1) W3 w9) := Lib.hid ((U0.out.mono fun _ _ _ => trivial).trans K9); clear T9 K9)))
  have X9 : Hid (w9.heap[w.heap.size]? = some (.cells #[.int .i64 0, .int .u64 0] 38 (0, 0))) := HK9.out.keep _ _ XR.out (by have := NB.out.1; omega)
  have XB : Hid (w9.heap[w2.heap.size]? = some (.cells #[.int .i64 2, .int .i64 (cl : Nat), .int .u32 (sq : Nat), .int .i64 (rg : Nat), .int .i64 (md : Nat), .int .u64 (tk : Nat), .int .u64 (tm : Nat)] 80 (0, 0))) := HK9.out.keep _ _ X3.out (by have := NB.out.1; have := BX.out; omega)
  have c1 := cell_mk (i := 1) XB.out rfl
  have LC := Lib.hid (dleave_calls (n := n) w9 bd d1 d2 cl _ _ S9.out (Nat.le_trans HNA.out HK9.out.size))
  go_wp2_with fail
  (with_reducible refine LC.out.mono ?_)
  rintro e w10 ⟨rfl, G10, S10, K10⟩
  have HS10 := Lib.hid S10
  have HK10 := Lib.hid K10
  have X10 : Hid (w10.heap[w.heap.size]? = some (.cells #[.int .i64 0, .int .u64 0] 38 (0, 0))) := K10.fr.keep _ _ X9.out (by have := NB.out.2.1; omega)
  clear S10 K10 LC c1
  have q0 := cell_mk (i := 0) X10.out rfl
  have q1 := cell_mk (i := 1) X10.out rfl
  have y0 := frozen_mk (i := 0) X10.out
  have y1 := frozen_mk (i := 1) X10.out
  obtain ⟨WZ, hWZ, TZ, FZ⟩ := set2 X10.out (.int .i64 0) (.int .u64 0)
  have p0 := cell_mk (i := 0) TZ rfl
  have p1 := cell_mk (i := 1) TZ rfl
  have FZH := Lib.hid FZ
  clear TZ FZ
  go_wp2
  try rw [hWZ]
  refine bodyPost_ret (v := .agg #[.int .i64 0, .int .u64 0]) (by simp [results, Tryz.results11, go_sem, *]) rfl ⟨rfl, G10, ?_⟩
  try rw [hWZ]
  exact DS.end2 (HS10.out) ((KA.out.trans (Kh.ses HK9.out)).trans HK10.out.kh) FZH.out X10.out HN.out (Nat.le_refl _) (by decide)
end Go.Proofs.YtlolfcnfcgegdaaGreat
