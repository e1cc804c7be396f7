/- Texts of the proofs, part 37: what the functions that they reach do, walked; no conditions beyond those that each states. -/
import Derived.Test.YtlolfcnfcgegdaaGreatZza9cc731368
set_option linter.unusedVariables false
set_option linter.unusedSimpArgs false
/- The document's locks: Acquire (printed by dacq19.py). -/
namespace Go.Proofs.YtlolfcnfcgegdaaGreat
open Go.RowKit
set_option linter.unusedVariables false
set_option linter.unusedSimpArgs false

set_option maxRecDepth 100000 in
set_option maxHeartbeats 40000000 in
theorem dacq_go {n : Nat} {G : Nat → Prop} (w : World) (bt c r m : Nat) (L : Lk) (h : DRE n G w bt L) (hr : rightM c r = 0) (hm : m = 1 ∨ m = 2) (hi : hI (L.rg r).hs c = none) (hj : wI (L.rg r).ws c = none) (hf1 : ¬ 4 ≤ (L.rg r).ws.length) (hf2 : L.last ≠ topM) (hn : n ≤ w.heap.size)
    (G1 : Lk) (hG : (L.put r ⟨(L.rg r).hs, (L.rg r).ws ++ [⟨c, m⟩]⟩).give r = G1) (A : Value) (HA : Hid (A = match hI (G1.rg r).hs c with | some k => .tuple #[.int .u64 (((G1.rg r).hs.getD k default).t : Nat), .int .i64 0] | none => .tuple #[.int .u64 0, .int .i64 90])) :
    Calls Tryz.prog 39 #[.pointer (some ⟨bt, 0, none⟩), .int .i64 (c : Nat), .int .i64 (r : Nat), .int .i64 (m : Nat)] w fun e w' => e = .returned A ∧ ∃ G', DRE n G' w' bt G1 ∧ Kg bt G G' w w' := by
  obtain ⟨hv, wv, h⟩ := h
  obtain ⟨_, c1, _, _, cc⟩ := h.cells w (Fr.refl _ _)
  have hr4 : r < 4 := right_r (c := c) (fun q => q hr)
  obtain ⟨cc0, cc1, _, zz1⟩ := cc r hr4
  have RC := Lib.hid (dright_calls w c r)
  rw [hr] at RC
  have hrI : (r : Int) < 4 := by omega
  have HC := Lib.hid (dhold_calls w bt c r L ⟨hv, wv, h⟩ hr4)
  rw [hI_idx, hi] at HC
  dsimp only at HC
  have WC := Lib.hid (dwant_calls w bt c r L ⟨hv, wv, h⟩ hr4)
  rw [wI_idx, hj] at WC
  dsimp only at WC
  have WR := h.wr r hr4
  obtain ⟨aw, cw, ew, _⟩ := WR.form
  rw [ew] at cc1 WR
  have n4 := (h.ok.rg r).w4
  have hok' := want_ok h.ok (rightM_c hr) hm hi hj hf1
  have hlast := h.ok.last
  have HPW : Hid (∀ g c' W, W.ownsRow w.heap.size 114 2 (.slice g ((L.rg r).ws.length + 1) c') ((L.rg r).ws.length + 1) (((L.rg r).ws ++ [(⟨c, m⟩ : Wa)]).flatMap encW) → Fr (fun _ _ => True) w W → ∃ G', DRE n G' (W.setCell ⟨bt, 6 + r, none⟩ (.slice g ((L.rg r).ws.length + 1) c')) bt (L.put r ⟨(L.rg r).hs, (L.rg r).ws ++ [⟨c, m⟩]⟩) ∧ Kg bt G G' w (W.setCell ⟨bt, 6 + r, none⟩ (.slice g ((L.rg r).ws.length + 1) c'))) := fun g c' W o f =>
    h.putW hn f (by rw [List.length_append]; exact o) hr4 hok'
  have SS : Hid (∀ W, Fr (fun _ _ => True) w W → W.cell? ⟨bt, 6 + r, none⟩ = some (.slice aw (L.rg r).ws.length cw)) := fun W f => by
    rw [← ew]; exact ((h.cells W f).2.2.2.2 r hr4).2.1
  have SZ : Hid (∀ W, Fr (fun _ _ => True) w W → W.frozen? ⟨bt, 6 + r, none⟩ = false) := fun W f => ((h.cells W f).2.2.2.2 r hr4).2.2.2
  have RH : Hid (∀ W, Fr (fun _ _ => True) w W → RowsAt (fun c _ => G c ∧ c ≠ bt) W (.slice aw (L.rg r).ws.length cw) 2 encW (L.rg r).ws) := fun W f => WR.tt f
  have HN := Lib.hid hn
  have HR4 := Lib.hid hr4
  obtain ⟨L1, hL1⟩ : ∃ x, L.put r ⟨(L.rg r).hs, (L.rg r).ws ++ [⟨c, m⟩]⟩ = x := ⟨_, rfl⟩
  rw [hL1] at HPW hG
  have ALLC : Hid (∀ (w9 : World) (G9 : Nat → Prop), DRE n G9 w9 bt L1 → n ≤ w9.heap.size → Calls Tryz.prog 77 #[.pointer (some ⟨bt, 0, none⟩), .int .i64 (r : Nat)] w9 fun e w' => e = .returned (.tuple #[]) ∧ ∃ G', DRE n G' w' bt G1 ∧ Kg bt G9 G' w9 w') := fun w9 G9 d hs => by
    have q := dall_calls w9 bt r L1 d HR4.out hs
    rw [hG] at q
    exact q
  obtain ⟨ws, hws⟩ : ∃ ws, (L.rg r).ws = ws := ⟨_, rfl⟩
  obtain ⟨lw, hlw⟩ : ∃ lw, ws.length = lw := ⟨_, rfl⟩
  obtain ⟨l, hl⟩ : ∃ l, L.last = l := ⟨_, rfl⟩
  rw [hws] at cc1 hf1 n4 SS RH HPW
  rw [hlw] at cc1 hf1 n4 SS RH HPW
  rw [hl] at c1 hf2 hlast
  have LW := Lib.hid hlw
  have hf1I : ¬ (4 : Int) ≤ lw := by omega
  have hlI : ((l : Int) == 18446744073709551615) = false := by rw [topM_eq] at hf2; simp; omega
  have wsB : lw ≤ 1000000 := by omega
  have wsB1 : lw + 1 ≤ 1000000 := by omega
  have F5 : Hid (Fr (fun _ _ => True) w w.drew) := (Fr.refl _ _).drew
  clear h cc WR ew hr hr4 hi hj cc0 zz1 hok' hn hG hL1 hws hlw hl hf1 hf2 n4 hlast
  have hmm : (((m : Int) != 1) = false) ∨ (((m : Int) != 1) = true ∧ ((m : Int) != 2) = false) := by
    rcases hm with q | q
    · exact .inl (by simp; omega)
    · exact .inr ⟨by simp; omega, by simp; omega⟩
  clear hm
  rcases hmm with h1 | ⟨h1, h2⟩
  · go_enter Tryz.func39, Tryz.ntmps39
    go_wp2_with fail
    (with_reducible refine RC.out.mono ?_)
    rintro e w1 ⟨rfl, rfl⟩
    go_wp2_with fail
    (with_reducible refine HC.out.mono ?_)
    rintro e w1 ⟨rfl, rfl⟩
    go_wp2_with fail
    (with_reducible refine WC.out.mono ?_)
    rintro e w1 ⟨rfl, rfl⟩
    go_upto_region 18 with fail
    clear RC HC WC c1 cc1 h1 hf1I hlI
    refine wp_region_heldK (S1 := fun _ => True) (S0 := fun W => W.cell? ⟨bt, 6 + r, none⟩ = some (.slice aw lw cw)) (k := 18) (by kernel_rfl) ?_
    refine wpAnyK_take (i := 0) (v := ?v1) rfl (by rfl) (by kernel_rfl) (by kernel_rfl) (by kernel_rfl) (by kernel_rfl) (fun _ _ _ h => h) (Or.inl ⟨by rfl, ?hy1⟩) trivial (SS.out _ F5.out) ?rest1
    case hy1 => (intro w hSw; (try dsimp only at hSw); (try simp only [List.getElem_toArray, List.getElem_cons_zero, List.getElem_cons_succ]); go_simp; try with_reducible rfl)
    try simp only [List.getElem_toArray, List.getElem_cons_zero, List.getElem_cons_succ, Act.put, List.setIfInBounds_toArray, List.set_cons_zero, List.set_cons_succ]
    refine wpAnyK_take (i := 1) (v := ?v2) rfl (by rfl) (by kernel_rfl) (by kernel_rfl) (by kernel_rfl) (by kernel_rfl) (fun _ _ _ h => h) (Or.inl ⟨by rfl, ?hy2⟩) trivial (SS.out _ F5.out) ?rest2
    case hy2 => (intro w hSw; (try dsimp only at hSw); (try simp only [List.getElem_toArray, List.getElem_cons_zero, List.getElem_cons_succ]); go_simp; try with_reducible rfl)
    try simp only [List.getElem_toArray, List.getElem_cons_zero, List.getElem_cons_succ, Act.put, List.setIfInBounds_toArray, List.set_cons_zero, List.set_cons_succ]
    refine wpAnyK_take (i := 3) (v := ?v3) rfl (by rfl) (by kernel_rfl) (by kernel_rfl) (by kernel_rfl) (by kernel_rfl) (fun _ _ _ h => h) (Or.inl ⟨by rfl, ?hy3⟩) trivial (SS.out _ F5.out) ?rest3
    case hy3 => (intro w hSw; (try dsimp only at hSw); (try simp only [List.getElem_toArray, List.getElem_cons_zero, List.getElem_cons_succ]); go_simp; try with_reducible rfl)
    try simp only [List.getElem_toArray, List.getElem_cons_zero, List.getElem_cons_succ, Act.put, List.setIfInBounds_toArray, List.set_cons_zero, List.set_cons_succ]
    refine wpAnyK_take (i := 4) (v := ?v4) rfl (by rfl) (by kernel_rfl) (by kernel_rfl) (by kernel_rfl) (by kernel_rfl) (fun _ _ _ h => h) (Or.inl ⟨by rfl, ?hy4⟩) trivial (SS.out _ F5.out) ?rest4
    case hy4 => (intro w hSw; (try dsimp only at hSw); (try simp only [List.getElem_toArray, List.getElem_cons_zero, List.getElem_cons_succ]); go_simp; try with_reducible rfl)
    try simp only [List.getElem_toArray, List.getElem_cons_zero, List.getElem_cons_succ, Act.put, List.setIfInBounds_toArray, List.set_cons_zero, List.set_cons_succ]
    refine wpAnyK_take (i := 5) (v := ?v5) rfl (by rfl) (by kernel_rfl) (by kernel_rfl) (by kernel_rfl) (by kernel_rfl) (fun _ _ _ h => h) (Or.inl ⟨by rfl, ?hy5⟩) trivial (SS.out _ F5.out) ?rest5
    case hy5 => (intro w hSw; (try dsimp only at hSw); (try simp only [List.getElem_toArray, List.getElem_cons_zero, List.getElem_cons_succ]); go_simp; try with_reducible rfl)
    try simp only [List.getElem_toArray, List.getElem_cons_zero, List.getElem_cons_succ, Act.put, List.setIfInBounds_toArray, List.set_cons_zero, List.set_cons_succ]
    refine wpAnyK_take (i := 6) (v := ?v6) rfl (by rfl) (by kernel_rfl) (by kernel_rfl) (by kernel_rfl) (by kernel_rfl) (fun _ _ _ h => h) (Or.inl ⟨by rfl, ?hy6⟩) trivial (SS.out _ F5.out) ?rest6
    case hy6 => (intro w hSw; (try dsimp only at hSw); (try simp only [List.getElem_toArray, List.getElem_cons_zero, List.getElem_cons_succ]); go_simp; try with_reducible rfl)
    try simp only [List.getElem_toArray, List.getElem_cons_zero, List.getElem_cons_succ, Act.put, List.setIfInBounds_toArray, List.set_cons_zero, List.set_cons_succ]
    refine wpAnyK_take (i := 7) (v := ?v7) rfl (by rfl) (by kernel_rfl) (by kernel_rfl) (by kernel_rfl) (by kernel_rfl) (fun _ _ _ h => h) (Or.inl ⟨by rfl, ?hy7⟩) trivial (SS.out _ F5.out) ?rest7
    case hy7 => (intro w hSw; (try dsimp only at hSw); (try simp only [List.getElem_toArray, List.getElem_cons_zero, List.getElem_cons_succ]); go_simp; try with_reducible rfl)
    try simp only [List.getElem_toArray, List.getElem_cons_zero, List.getElem_cons_succ, Act.put, List.setIfInBounds_toArray, List.set_cons_zero, List.set_cons_succ]
    refine wpAnyK_take0 (i := 8) (v := ?v8) [9, 14, 18] rfl (by rfl) (by kernel_rfl) (by rfl) (by kernel_rfl) (by kernel_rfl) (by kernel_rfl) (by kernel_rfl) (fun _ _ _ h => h) (Or.inl ⟨by rfl, ?hy8⟩) trivial (SS.out _ F5.out) ?rest8
    case hy8 => (intro w hSw; (try dsimp only at hSw); (try simp only [List.getElem_toArray, List.getElem_cons_zero, List.getElem_cons_succ]); go_simp; try with_reducible rfl)
    try simp only [List.getElem_toArray, List.getElem_cons_zero, List.getElem_cons_succ, Act.put, List.setIfInBounds_toArray, List.set_cons_zero, List.set_cons_succ]
    refine wpAnyK_take (i := 10) (v := ?v9) rfl (by rfl) (by kernel_rfl) (by kernel_rfl) (by kernel_rfl) (by kernel_rfl) (fun _ _ _ h => h) (Or.inl ⟨by rfl, ?hy9⟩) trivial (SS.out _ F5.out) ?rest9
    case hy9 => (intro w hSw; (try dsimp only at hSw); (try simp only [List.getElem_toArray, List.getElem_cons_zero, List.getElem_cons_succ]); go_simp; try with_reducible rfl)
    try simp only [List.getElem_toArray, List.getElem_cons_zero, List.getElem_cons_succ, Act.put, List.setIfInBounds_toArray, List.set_cons_zero, List.set_cons_succ]
    refine wpAnyK_take (i := 11) (v := ?v10) rfl (by rfl) (by kernel_rfl) (by kernel_rfl) (by kernel_rfl) (by kernel_rfl) (fun _ _ _ h => h) (Or.inl ⟨by rfl, ?hy10⟩) trivial (SS.out _ F5.out) ?rest10
    case hy10 => (intro w hSw; (try dsimp only at hSw); (try simp only [List.getElem_toArray, List.getElem_cons_zero, List.getElem_cons_succ]); go_simp; try with_reducible rfl)
    try simp only [List.getElem_toArray, List.getElem_cons_zero, List.getElem_cons_succ, Act.put, List.setIfInBounds_toArray, List.set_cons_zero, List.set_cons_succ]
    refine wpAnyK_take (i := 12) (v := ?v11) rfl (by rfl) (by kernel_rfl) (by kernel_rfl) (by kernel_rfl) (by kernel_rfl) (fun _ _ _ h => h) (Or.inl ⟨by rfl, ?hy11⟩) trivial (SS.out _ F5.out) ?rest11
    case hy11 => (intro w hSw; (try dsimp only at hSw); (try simp only [List.getElem_toArray, List.getElem_cons_zero, List.getElem_cons_succ]); go_simp; try with_reducible rfl)
    try simp only [List.getElem_toArray, List.getElem_cons_zero, List.getElem_cons_succ, Act.put, List.setIfInBounds_toArray, List.set_cons_zero, List.set_cons_succ]
    refine wpAnyK_take (i := 15) (v := ?v12) rfl (by rfl) (by kernel_rfl) (by kernel_rfl) (by kernel_rfl) (by kernel_rfl) (fun _ _ _ h => h) (Or.inl ⟨by rfl, ?hy12⟩) trivial (SS.out _ F5.out) ?rest12
    case hy12 => (intro w hSw; (try dsimp only at hSw); (try simp only [List.getElem_toArray, List.getElem_cons_zero, List.getElem_cons_succ]); go_simp; try with_reducible rfl)
    try simp only [List.getElem_toArray, List.getElem_cons_zero, List.getElem_cons_succ, Act.put, List.setIfInBounds_toArray, List.set_cons_zero, List.set_cons_succ]
    refine wpAnyK_take (i := 16) (v := ?v13) rfl (by rfl) (by kernel_rfl) (by kernel_rfl) (by kernel_rfl) (by kernel_rfl) (fun _ _ _ h => h) (Or.inl ⟨by rfl, ?hy13⟩) trivial (SS.out _ F5.out) ?rest13
    case hy13 => (intro w hSw; (try dsimp only at hSw); (try simp only [List.getElem_toArray, List.getElem_cons_zero, List.getElem_cons_succ]); go_simp; try with_reducible rfl)
    try simp only [List.getElem_toArray, List.getElem_cons_zero, List.getElem_cons_succ, Act.put, List.setIfInBounds_toArray, List.set_cons_zero, List.set_cons_succ]
    refine wpAnyK_ready (rs := [2, 13]) (by kernel_rfl) (by simp) ?_
    refine AllReadyK.cons rfl (fun K hK => ?_) (by kernel_rfl) ?_
    · obtain ⟨W1, hW1⟩ : ∃ W, w.drew.alloc (.cells #[] 114 (0, 0)) = W := ⟨_, rfl⟩
      have F1 : Hid (Fr (fun _ _ => True) w W1) := hW1 ▸ F5.out.alloc _
      obtain ⟨g1, hg1⟩ : ∃ g, w.drew.heap.size = g := ⟨_, rfl⟩
      have E1 : Hid (W1.ownsRow w.heap.size 114 2 (.slice (some ⟨g1, 0, none⟩) 0 0) 0 (([] : List Wa).flatMap encW)) := hW1 ▸ hg1 ▸ World.ownsRow_lit w.drew #[] 0 F5.out.size (by decide) rfl
      (try simp only [List.getElem_toArray, List.getElem_cons_zero, List.getElem_cons_succ])
      go_simp
      try rw [hW1]
      try rw [hg1]
      (try simp only [Act.put, List.setIfInBounds_toArray, List.set_cons_zero, List.set_cons_succ])
      refine hK.out _ _ trivial (fun _ => SS.out _ F1.out) ?_
      clear hK K
      clear hW1 hg1
      refine wpAnyK_ready (rs := [9, 13]) (by kernel_rfl) (by simp) ?_
      refine AllReadyK.cons rfl (fun K hK => ?_) (by kernel_rfl) ?_
      · refine step_append_was W1 rfl _ _ rfl w.heap.size F1.out.size _ 0 [] rfl E1 _ ws rfl (RH.out _ F1.out) ws (Lib.hid rfl) lw (Lib.hid ((Nat.zero_add _).trans LW.out)) wsB ?_
        intro g2 c2 W2 E2 G2 O2
        have F2 : Hid (Fr (fun _ _ => True) w W2) := F1.out.grown_new G2.out (own_new E1.out)
        (try simp only [Act.put, List.setIfInBounds_toArray, List.set_cons_zero, List.set_cons_succ])
        refine hK.out _ _ trivial (fun _ => SS.out _ F2.out) ?_
        clear hK K
        clear G2 O2
        refine wpAnyK_ready (rs := [13]) (by kernel_rfl) (by simp) ?_
        refine AllReadyK.cons rfl (fun K hK => ?_) (by kernel_rfl) ?_
        · obtain ⟨W3, hW3⟩ : ∃ W, W2.alloc (.cells #[.int .i64 (c : Nat), .int .i64 (m : Nat)] 114 (0, 0)) = W := ⟨_, rfl⟩
          have A3 : Hid (Fr (fun _ _ => True) W2 W3) := hW3 ▸ (Fr.refl _ _).alloc _
          have F3 : Hid (Fr (fun _ _ => True) w W3) := Lib.hid (F2.out.trans A3.out)
          obtain ⟨g3, hg3⟩ : ∃ g, W2.heap.size = g := ⟨_, rfl⟩
          have T3 : Hid (RowsAt (fun c _ => c = g3) W3 (.slice (some ⟨g3, 0, none⟩) 1 1) 2 encW [⟨c, m⟩]) := hW3 ▸ hg3 ▸ rows_oneW (heap_alloc_new W2 _)
          have L3 : Hid (g3 < W3.heap.size) := rows_lt T3.out
          have N3 : Hid ((Value.slice g2 lw c2).ownBlock ≠ some g3) := own_ltv E2.out (Nat.le_of_eq hg3)
          have E3 := Lib.hid (own_tt E2.out A3.out)
          (try simp only [List.getElem_toArray, List.getElem_cons_zero, List.getElem_cons_succ])
          go_simp
          try rw [hW3]
          try rw [hg3]
          (try simp only [Act.put, List.setIfInBounds_toArray, List.set_cons_zero, List.set_cons_succ])
          refine hK.out _ _ trivial (fun _ => SS.out _ F3.out) ?_
          clear hK K
          clear hW3 hg3 A3
          refine wpAnyK_ready (rs := [14]) (by kernel_rfl) (by simp) ?_
          refine AllReadyK.cons rfl (fun K hK => ?_) (by kernel_rfl) ?_
          · refine step_append_was W3 rfl _ _ rfl w.heap.size F3.out.size _ lw ws rfl E3 _ [⟨c, m⟩] rfl T3 (ws ++ [⟨c, m⟩]) (Lib.hid rfl) (lw + 1) (Lib.hid rfl) wsB1 ?_
            intro g9 c9 W9 O9 G9 _
            have F9 : Hid (Fr (fun _ _ => True) w W9) := F3.out.grown_new G9.out (own_new E3.out)
            (try simp only [Act.put, List.setIfInBounds_toArray, List.set_cons_zero, List.set_cons_succ])
            refine hK.out _ _ trivial (fun _ => SS.out _ F9.out) ?_
            clear hK K
            refine wpAnyK_take (i := 17) (v := ?v14) rfl (by rfl) (by kernel_rfl) (by kernel_rfl) (by kernel_rfl) (by kernel_rfl) (fun _ _ _ h => h) (Or.inl ⟨by rfl, ?hy14⟩) trivial (SS.out _ F9.out) ?rest14
            case hy14 => (intro w hSw; (try dsimp only at hSw); (try simp only [List.getElem_toArray, List.getElem_cons_zero, List.getElem_cons_succ]); go_simp; try with_reducible rfl)
            try simp only [List.getElem_toArray, List.getElem_cons_zero, List.getElem_cons_succ, Act.put, List.setIfInBounds_toArray, List.set_cons_zero, List.set_cons_succ]
            refine wpAnyK_ready (rs := [18]) (by kernel_rfl) (by simp) ?_
            refine AllReadyK.cons rfl (fun K hK => ?_) (by kernel_rfl) ?_
            · have z9 := (SZ.out _ F9.out)
              have k9 := (SS.out _ F9.out)
              (try simp only [List.getElem_toArray, List.getElem_cons_zero, List.getElem_cons_succ])
              go_simp
              refine hK.out _ _ trivial (fun h => absurd h (by decide)) ?_
              clear hK K
              refine wpAnyK_done (by kernel_rfl) ?_ _
              obtain ⟨G2, d2, k2⟩ := HPW.out g9 c9 W9 O9.out F9.out
              obtain ⟨w10, hw10⟩ : ∃ W, W9.setCell ⟨bt, 6 + r, none⟩ (.slice g9 (lw + 1) c9) = W := ⟨_, rfl⟩
              rw [hw10] at d2 k2 ⊢
              have K2 := Lib.hid k2
              have AC := Lib.hid (ALLC.out w10 G2 d2 (Nat.le_trans HN.out k2.fr.size))
              clear d2 k2 hw10 SS SZ RH HPW O9 F9 F5 z9 k9 ALLC
              go_wp2_with fail
              (with_reducible refine AC.out.mono ?_)
              rintro e w11 ⟨rfl, G3, d3, k3⟩
              have D3 := Lib.hid d3
              have K3 := Lib.hid (K2.out.trans k3)
              have HC := Lib.hid (dhold_calls w11 bt c r G1 d3 HR4.out)
              rw [hI_idx] at HC
              clear d3 k3 AC
              cases hx : hI (G1.rg r).hs c with
              | none =>
                rw [hx] at HC HA
                dsimp only at HC HA
                go_wp2_with fail
                (with_reducible refine HC.out.mono ?_)
                rintro e w12 ⟨rfl, rfl⟩
                go_wp2
                go_ret2
                rw [HA.out]
                exact ⟨rfl, G3, D3.out, K3.out⟩
              | some k =>
                rw [hx] at HC HA
                dsimp only at HC HA
                have hk := (hI_some hx).1
                obtain ⟨hv3, wv3, d3⟩ := D3.out
                have q0 := ((d3.cells w11 (Fr.refl _ _)).2.2.2.2 r HR4.out).1
                have HR := d3.hr r HR4.out
                obtain ⟨ah, ch, eh, _⟩ := HR.form
                rw [eh] at q0 HR
                obtain ⟨b, off, o, rfl, _, _, hcl⟩ := HR.spot (by omega)
                obtain ⟨x, hxx⟩ : ∃ x, (G1.rg r).hs[k] = x := ⟨_, rfl⟩
                have hcs := RowsAt.h4 (K := fun _ _ => True) hcl k hk
                have EG : (G1.rg r).hs.getD k default = x := (getD_at hk).trans hxx
                rw [hxx] at hcs
                rw [EG] at HA
                have q2 := hcs.2.2.1
                have hkI : (k : Int) < (G1.rg r).hs.length := by omega
                have hk0 : (0 : Int) ≤ (k : Int) := by omega
                generalize (G1.rg r).hs.length = lh at q0 hkI
                clear d3 HR eh hcl hcs EG hxx hx
                go_wp2_with fail
                (with_reducible refine HC.out.mono ?_)
                rintro e w12 ⟨rfl, rfl⟩
                go_wp2
                go_ret2
                rw [HA.out]
                exact ⟨rfl, G3, D3.out, K3.out⟩
            exact AllReadyK.nil
          exact AllReadyK.nil
        exact AllReadyK.nil
      refine AllReadyK.cons rfl (fun K hK => ?_) (by kernel_rfl) ?_
      · obtain ⟨W4, hW4⟩ : ∃ W, W1.alloc (.cells #[.int .i64 (c : Nat), .int .i64 (m : Nat)] 114 (0, 0)) = W := ⟨_, rfl⟩
        have A4 : Hid (Fr (fun _ _ => True) W1 W4) := hW4 ▸ (Fr.refl _ _).alloc _
        have F4 : Hid (Fr (fun _ _ => True) w W4) := Lib.hid (F1.out.trans A4.out)
        obtain ⟨g4, hg4⟩ : ∃ g, W1.heap.size = g := ⟨_, rfl⟩
        have T4 : Hid (RowsAt (fun c _ => c = g4) W4 (.slice (some ⟨g4, 0, none⟩) 1 1) 2 encW [⟨c, m⟩]) := hW4 ▸ hg4 ▸ rows_oneW (heap_alloc_new W1 _)
        have L4 : Hid (g4 < W4.heap.size) := rows_lt T4.out
        have N4 : Hid ((Value.slice (some ⟨g1, 0, none⟩) 0 0).ownBlock ≠ some g4) := own_ltv E1.out (Nat.le_of_eq hg4)
        have E4 := Lib.hid (own_tt E1.out A4.out)
        (try simp only [List.getElem_toArray, List.getElem_cons_zero, List.getElem_cons_succ])
        go_simp
        try rw [hW4]
        try rw [hg4]
        (try simp only [Act.put, List.setIfInBounds_toArray, List.set_cons_zero, List.set_cons_succ])
        refine hK.out _ _ trivial (fun _ => SS.out _ F4.out) ?_
        clear hK K
        clear hW4 hg4 A4
        refine wpAnyK_ready (rs := [9]) (by kernel_rfl) (by simp) ?_
        refine AllReadyK.cons rfl (fun K hK => ?_) (by kernel_rfl) ?_
        · refine step_append_was W4 rfl _ _ rfl w.heap.size F4.out.size _ 0 [] rfl E4 _ ws rfl (RH.out _ F4.out) ws (Lib.hid rfl) lw (Lib.hid ((Nat.zero_add _).trans LW.out)) wsB ?_
          intro g5 c5 W5 E5 G5 O5
          have F5 : Hid (Fr (fun _ _ => True) w W5) := F4.out.grown_new G5.out (own_new E4.out)
          have T5 := Lib.hid (rows_past T4.out G5.out N4.out)
          have N5 : Hid ((Value.slice g5 lw c5).ownBlock ≠ some g4) := O5.out.ne N4.out (rows_lt T4.out)
          (try simp only [Act.put, List.setIfInBounds_toArray, List.set_cons_zero, List.set_cons_succ])
          refine hK.out _ _ trivial (fun _ => SS.out _ F5.out) ?_
          clear hK K
          clear G5 O5
          have L5 : Hid (g4 < W5.heap.size) := rows_lt T5.out
          refine wpAnyK_ready (rs := [14]) (by kernel_rfl) (by simp) ?_
          refine AllReadyK.cons rfl (fun K hK => ?_) (by kernel_rfl) ?_
          · refine step_append_was W5 rfl _ _ rfl w.heap.size F5.out.size _ lw ws rfl E5 _ [⟨c, m⟩] rfl T5 (ws ++ [⟨c, m⟩]) (Lib.hid rfl) (lw + 1) (Lib.hid rfl) wsB1 ?_
            intro g9 c9 W9 O9 G9 _
            have F9 : Hid (Fr (fun _ _ => True) w W9) := F5.out.grown_new G9.out (own_new E5.out)
            (try simp only [Act.put, List.setIfInBounds_toArray, List.set_cons_zero, List.set_cons_succ])
            refine hK.out _ _ trivial (fun _ => SS.out _ F9.out) ?_
            clear hK K
            refine wpAnyK_take (i := 17) (v := ?v15) rfl (by rfl) (by kernel_rfl) (by kernel_rfl) (by kernel_rfl) (by kernel_rfl) (fun _ _ _ h => h) (Or.inl ⟨by rfl, ?hy15⟩) trivial (SS.out _ F9.out) ?rest15
            case hy15 => (intro w hSw; (try dsimp only at hSw); (try simp only [List.getElem_toArray, List.getElem_cons_zero, List.getElem_cons_succ]); go_simp; try with_reducible rfl)
            try simp only [List.getElem_toArray, List.getElem_cons_zero, List.getElem_cons_succ, Act.put, List.setIfInBounds_toArray, List.set_cons_zero, List.set_cons_succ]
            refine wpAnyK_ready (rs := [18]) (by kernel_rfl) (by simp) ?_
            refine AllReadyK.cons rfl (fun K hK => ?_) (by kernel_rfl) ?_
            · have z9 := (SZ.out _ F9.out)
              have k9 := (SS.out _ F9.out)
              (try simp only [List.getElem_toArray, List.getElem_cons_zero, List.getElem_cons_succ])
              go_simp
              refine hK.out _ _ trivial (fun h => absurd h (by decide)) ?_
              clear hK K
              refine wpAnyK_done (by kernel_rfl) ?_ _
              obtain ⟨G2, d2, k2⟩ := HPW.out g9 c9 W9 O9.out F9.out
              obtain ⟨w10, hw10⟩ : ∃ W, W9.setCell ⟨bt, 6 + r, none⟩ (.slice g9 (lw + 1) c9) = W := ⟨_, rfl⟩
              rw [hw10] at d2 k2 ⊢
              have K2 := Lib.hid k2
              have AC := Lib.hid (ALLC.out w10 G2 d2 (Nat.le_trans HN.out k2.fr.size))
              clear d2 k2 hw10 SS SZ RH HPW O9 F9 F5 z9 k9 ALLC
              go_wp2_with fail
              (with_reducible refine AC.out.mono ?_)
              rintro e w11 ⟨rfl, G3, d3, k3⟩
              have D3 := Lib.hid d3
              have K3 := Lib.hid (K2.out.trans k3)
              have HC := Lib.hid (dhold_calls w11 bt c r G1 d3 HR4.out)
              rw [hI_idx] at HC
              clear d3 k3 AC
              cases hx : hI (G1.rg r).hs c with
              | none =>
                rw [hx] at HC HA
                dsimp only at HC HA
                go_wp2_with fail
                (with_reducible refine HC.out.mono ?_)
                rintro e w12 ⟨rfl, rfl⟩
                go_wp2
                go_ret2
                rw [HA.out]
                exact ⟨rfl, G3, D3.out, K3.out⟩
              | some k =>
                rw [hx] at HC HA
                dsimp only at HC HA
                have hk := (hI_some hx).1
                obtain ⟨hv3, wv3, d3⟩ := D3.out
                have q0 := ((d3.cells w11 (Fr.refl _ _)).2.2.2.2 r HR4.out).1
                have HR := d3.hr r HR4.out
                obtain ⟨ah, ch, eh, _⟩ := HR.form
                rw [eh] at q0 HR
                obtain ⟨b, off, o, rfl, _, _, hcl⟩ := HR.spot (by omega)
                obtain ⟨x, hxx⟩ : ∃ x, (G1.rg r).hs[k] = x := ⟨_, rfl⟩
                have hcs := RowsAt.h4 (K := fun _ _ => True) hcl k hk
                have EG : (G1.rg r).hs.getD k default = x := (getD_at hk).trans hxx
                rw [hxx] at hcs
                rw [EG] at HA
                have q2 := hcs.2.2.1
                have hkI : (k : Int) < (G1.rg r).hs.length := by omega
                have hk0 : (0 : Int) ≤ (k : Int) := by omega
                generalize (G1.rg r).hs.length = lh at q0 hkI
                clear d3 HR eh hcl hcs EG hxx hx
                go_wp2_with fail
                (with_reducible refine HC.out.mono ?_)
                rintro e w12 ⟨rfl, rfl⟩
                go_wp2
                go_ret2
                rw [HA.out]
                exact ⟨rfl, G3, D3.out, K3.out⟩
            exact AllReadyK.nil
          exact AllReadyK.nil
        exact AllReadyK.nil
      exact AllReadyK.nil
    refine AllReadyK.cons rfl (fun K hK => ?_) (by kernel_rfl) ?_
    · obtain ⟨W6, hW6⟩ : ∃ W, w.drew.alloc (.cells #[.int .i64 (c : Nat), .int .i64 (m : Nat)] 114 (0, 0)) = W := ⟨_, rfl⟩
      have A6 : Hid (Fr (fun _ _ => True) w.drew W6) := hW6 ▸ (Fr.refl _ _).alloc _
      have F6 : Hid (Fr (fun _ _ => True) w W6) := Lib.hid (F5.out.trans A6.out)
      obtain ⟨g6, hg6⟩ : ∃ g, w.drew.heap.size = g := ⟨_, rfl⟩
      have T6 : Hid (RowsAt (fun c _ => c = g6) W6 (.slice (some ⟨g6, 0, none⟩) 1 1) 2 encW [⟨c, m⟩]) := hW6 ▸ hg6 ▸ rows_oneW (heap_alloc_new w.drew _)
      have L6 : Hid (g6 < W6.heap.size) := rows_lt T6.out
      (try simp only [List.getElem_toArray, List.getElem_cons_zero, List.getElem_cons_succ])
      go_simp
      try rw [hW6]
      try rw [hg6]
      (try simp only [Act.put, List.setIfInBounds_toArray, List.set_cons_zero, List.set_cons_succ])
      refine hK.out _ _ trivial (fun _ => SS.out _ F6.out) ?_
      clear hK K
      clear hW6 hg6 A6
      refine wpAnyK_ready (rs := [2]) (by kernel_rfl) (by simp) ?_
      refine AllReadyK.cons rfl (fun K hK => ?_) (by kernel_rfl) ?_
      · obtain ⟨W7, hW7⟩ : ∃ W, W6.alloc (.cells #[] 114 (0, 0)) = W := ⟨_, rfl⟩
        have F7 : Hid (Fr (fun _ _ => True) w W7) := hW7 ▸ F6.out.alloc _
        obtain ⟨g7, hg7⟩ : ∃ g, W6.heap.size = g := ⟨_, rfl⟩
        have E7 : Hid (W7.ownsRow w.heap.size 114 2 (.slice (some ⟨g7, 0, none⟩) 0 0) 0 (([] : List Wa).flatMap encW)) := hW7 ▸ hg7 ▸ World.ownsRow_lit W6 #[] 0 F6.out.size (by decide) rfl
        have T7 := Lib.hid (T6.out.tt (hW7 ▸ (Fr.refl _ _).alloc _ : Fr (fun _ _ => True) W6 W7))
        have N7 : Hid ((Value.slice (some ⟨g7, 0, none⟩) 0 0).ownBlock ≠ some g6) := fun e => by have q := L6.out; simp only [Value.ownBlock, Option.some.injEq] at e; omega
        (try simp only [List.getElem_toArray, List.getElem_cons_zero, List.getElem_cons_succ])
        go_simp
        try rw [hW7]
        try rw [hg7]
        (try simp only [Act.put, List.setIfInBounds_toArray, List.set_cons_zero, List.set_cons_succ])
        refine hK.out _ _ trivial (fun _ => SS.out _ F7.out) ?_
        clear hK K
        clear hW7 hg7
        have L7 : Hid (g6 < W7.heap.size) := rows_lt T7.out
        refine wpAnyK_ready (rs := [9]) (by kernel_rfl) (by simp) ?_
        refine AllReadyK.cons rfl (fun K hK => ?_) (by kernel_rfl) ?_
        · refine step_append_was W7 rfl _ _ rfl w.heap.size F7.out.size _ 0 [] rfl E7 _ ws rfl (RH.out _ F7.out) ws (Lib.hid rfl) lw (Lib.hid ((Nat.zero_add _).trans LW.out)) wsB ?_
          intro g8 c8 W8 E8 G8 O8
          have F8 : Hid (Fr (fun _ _ => True) w W8) := F7.out.grown_new G8.out (own_new E7.out)
          have T8 := Lib.hid (rows_past T7.out G8.out N7.out)
          have N8 : Hid ((Value.slice g8 lw c8).ownBlock ≠ some g6) := O8.out.ne N7.out (rows_lt T7.out)
          (try simp only [Act.put, List.setIfInBounds_toArray, List.set_cons_zero, List.set_cons_succ])
          refine hK.out _ _ trivial (fun _ => SS.out _ F8.out) ?_
          clear hK K
          clear G8 O8
          have L8 : Hid (g6 < W8.heap.size) := rows_lt T8.out
          refine wpAnyK_ready (rs := [14]) (by kernel_rfl) (by simp) ?_
          refine AllReadyK.cons rfl (fun K hK => ?_) (by kernel_rfl) ?_
          · refine step_append_was W8 rfl _ _ rfl w.heap.size F8.out.size _ lw ws rfl E8 _ [⟨c, m⟩] rfl T8 (ws ++ [⟨c, m⟩]) (Lib.hid rfl) (lw + 1) (Lib.hid rfl) wsB1 ?_
            intro g9 c9 W9 O9 G9 _
            have F9 : Hid (Fr (fun _ _ => True) w W9) := F8.out.grown_new G9.out (own_new E8.out)
            (try simp only [Act.put, List.setIfInBounds_toArray, List.set_cons_zero, List.set_cons_succ])
            refine hK.out _ _ trivial (fun _ => SS.out _ F9.out) ?_
            clear hK K
            refine wpAnyK_take (i := 17) (v := ?v16) rfl (by rfl) (by kernel_rfl) (by kernel_rfl) (by kernel_rfl) (by kernel_rfl) (fun _ _ _ h => h) (Or.inl ⟨by rfl, ?hy16⟩) trivial (SS.out _ F9.out) ?rest16
            case hy16 => (intro w hSw; (try dsimp only at hSw); (try simp only [List.getElem_toArray, List.getElem_cons_zero, List.getElem_cons_succ]); go_simp; try with_reducible rfl)
            try simp only [List.getElem_toArray, List.getElem_cons_zero, List.getElem_cons_succ, Act.put, List.setIfInBounds_toArray, List.set_cons_zero, List.set_cons_succ]
            refine wpAnyK_ready (rs := [18]) (by kernel_rfl) (by simp) ?_
            refine AllReadyK.cons rfl (fun K hK => ?_) (by kernel_rfl) ?_
            · have z9 := (SZ.out _ F9.out)
              have k9 := (SS.out _ F9.out)
              (try simp only [List.getElem_toArray, List.getElem_cons_zero, List.getElem_cons_succ])
              go_simp
              refine hK.out _ _ trivial (fun h => absurd h (by decide)) ?_
              clear hK K
              refine wpAnyK_done (by kernel_rfl) ?_ _
              obtain ⟨G2, d2, k2⟩ := HPW.out g9 c9 W9 O9.out F9.out
              obtain ⟨w10, hw10⟩ : ∃ W, W9.setCell ⟨bt, 6 + r, none⟩ (.slice g9 (lw + 1) c9) = W := ⟨_, rfl⟩
              rw [hw10] at d2 k2 ⊢
              have K2 := Lib.hid k2
              have AC := Lib.hid (ALLC.out w10 G2 d2 (Nat.le_trans HN.out k2.fr.size))
              clear d2 k2 hw10 SS SZ RH HPW O9 F9 F5 z9 k9 ALLC
              go_wp2_with fail
              (with_reducible refine AC.out.mono ?_)
              rintro e w11 ⟨rfl, G3, d3, k3⟩
              have D3 := Lib.hid d3
              have K3 := Lib.hid (K2.out.trans k3)
              have HC := Lib.hid (dhold_calls w11 bt c r G1 d3 HR4.out)
              rw [hI_idx] at HC
              clear d3 k3 AC
              cases hx : hI (G1.rg r).hs c with
              | none =>
                rw [hx] at HC HA
                dsimp only at HC HA
                go_wp2_with fail
                (with_reducible refine HC.out.mono ?_)
                rintro e w12 ⟨rfl, rfl⟩
                go_wp2
                go_ret2
                rw [HA.out]
                exact ⟨rfl, G3, D3.out, K3.out⟩
              | some k =>
                rw [hx] at HC HA
                dsimp only at HC HA
                have hk := (hI_some hx).1
                obtain ⟨hv3, wv3, d3⟩ := D3.out
                have q0 := ((d3.cells w11 (Fr.refl _ _)).2.2.2.2 r HR4.out).1
                have HR := d3.hr r HR4.out
                obtain ⟨ah, ch, eh, _⟩ := HR.form
                rw [eh] at q0 HR
                obtain ⟨b, off, o, rfl, _, _, hcl⟩ := HR.spot (by omega)
                obtain ⟨x, hxx⟩ : ∃ x, (G1.rg r).hs[k] = x := ⟨_, rfl⟩
                have hcs := RowsAt.h4 (K := fun _ _ => True) hcl k hk
                have EG : (G1.rg r).hs.getD k default = x := (getD_at hk).trans hxx
                rw [hxx] at hcs
                rw [EG] at HA
                have q2 := hcs.2.2.1
                have hkI : (k : Int) < (G1.rg r).hs.length := by omega
                have hk0 : (0 : Int) ≤ (k : Int) := by omega
                generalize (G1.rg r).hs.length = lh at q0 hkI
                clear d3 HR eh hcl hcs EG hxx hx
                go_wp2_with fail
                (with_reducible refine HC.out.mono ?_)
                rintro e w12 ⟨rfl, rfl⟩
                go_wp2
                go_ret2
                rw [HA.out]
                exact ⟨rfl, G3, D3.out, K3.out⟩
            exact AllReadyK.nil
          exact AllReadyK.nil
        exact AllReadyK.nil
      exact AllReadyK.nil
    exact AllReadyK.nil
  · go_enter Tryz.func39, Tryz.ntmps39
    go_wp2_with fail
    (with_reducible refine RC.out.mono ?_)
    rintro e w1 ⟨rfl, rfl⟩
    go_wp2_with fail
    (with_reducible refine HC.out.mono ?_)
    rintro e w1 ⟨rfl, rfl⟩
    go_wp2_with fail
    (with_reducible refine WC.out.mono ?_)
    rintro e w1 ⟨rfl, rfl⟩
    go_upto_region 18 with fail
    clear RC HC WC c1 cc1 h1 hf1I hlI
    refine wp_region_heldK (S1 := fun _ => True) (S0 := fun W => W.cell? ⟨bt, 6 + r, none⟩ = some (.slice aw lw cw)) (k := 18) (by kernel_rfl) ?_
    refine wpAnyK_take (i := 0) (v := ?v17) rfl (by rfl) (by kernel_rfl) (by kernel_rfl) (by kernel_rfl) (by kernel_rfl) (fun _ _ _ h => h) (Or.inl ⟨by rfl, ?hy17⟩) trivial (SS.out _ F5.out) ?rest17
    case hy17 => (intro w hSw; (try dsimp only at hSw); (try simp only [List.getElem_toArray, List.getElem_cons_zero, List.getElem_cons_succ]); go_simp; try with_reducible rfl)
    try simp only [List.getElem_toArray, List.getElem_cons_zero, List.getElem_cons_succ, Act.put, List.setIfInBounds_toArray, List.set_cons_zero, List.set_cons_succ]
    refine wpAnyK_take (i := 1) (v := ?v18) rfl (by rfl) (by kernel_rfl) (by kernel_rfl) (by kernel_rfl) (by kernel_rfl) (fun _ _ _ h => h) (Or.inl ⟨by rfl, ?hy18⟩) trivial (SS.out _ F5.out) ?rest18
    case hy18 => (intro w hSw; (try dsimp only at hSw); (try simp only [List.getElem_toArray, List.getElem_cons_zero, List.getElem_cons_succ]); go_simp; try with_reducible rfl)
    try simp only [List.getElem_toArray, List.getElem_cons_zero, List.getElem_cons_succ, Act.put, List.setIfInBounds_toArray, List.set_cons_zero, List.set_cons_succ]
    refine wpAnyK_take (i := 3) (v := ?v19) rfl (by rfl) (by kernel_rfl) (by kernel_rfl) (by kernel_rfl) (by kernel_rfl) (fun _ _ _ h => h) (Or.inl ⟨by rfl, ?hy19⟩) trivial (SS.out _ F5.out) ?rest19
    case hy19 => (intro w hSw; (try dsimp only at hSw); (try simp only [List.getElem_toArray, List.getElem_cons_zero, List.getElem_cons_succ]); go_simp; try with_reducible rfl)
    try simp only [List.getElem_toArray, List.getElem_cons_zero, List.getElem_cons_succ, Act.put, List.setIfInBounds_toArray, List.set_cons_zero, List.set_cons_succ]
    refine wpAnyK_take (i := 4) (v := ?v20) rfl (by rfl) (by kernel_rfl) (by kernel_rfl) (by kernel_rfl) (by kernel_rfl) (fun _ _ _ h => h) (Or.inl ⟨by rfl, ?hy20⟩) trivial (SS.out _ F5.out) ?rest20
    case hy20 => (intro w hSw; (try dsimp only at hSw); (try simp only [List.getElem_toArray, List.getElem_cons_zero, List.getElem_cons_succ]); go_simp; try with_reducible rfl)
    try simp only [List.getElem_toArray, List.getElem_cons_zero, List.getElem_cons_succ, Act.put, List.setIfInBounds_toArray, List.set_cons_zero, List.set_cons_succ]
    refine wpAnyK_take (i := 5) (v := ?v21) rfl (by rfl) (by kernel_rfl) (by kernel_rfl) (by kernel_rfl) (by kernel_rfl) (fun _ _ _ h => h) (Or.inl ⟨by rfl, ?hy21⟩) trivial (SS.out _ F5.out) ?rest21
    case hy21 => (intro w hSw; (try dsimp only at hSw); (try simp only [List.getElem_toArray, List.getElem_cons_zero, List.getElem_cons_succ]); go_simp; try with_reducible rfl)
    try simp only [List.getElem_toArray, List.getElem_cons_zero, List.getElem_cons_succ, Act.put, List.setIfInBounds_toArray, List.set_cons_zero, List.set_cons_succ]
    refine wpAnyK_take (i := 6) (v := ?v22) rfl (by rfl) (by kernel_rfl) (by kernel_rfl) (by kernel_rfl) (by kernel_rfl) (fun _ _ _ h => h) (Or.inl ⟨by rfl, ?hy22⟩) trivial (SS.out _ F5.out) ?rest22
    case hy22 => (intro w hSw; (try dsimp only at hSw); (try simp only [List.getElem_toArray, List.getElem_cons_zero, List.getElem_cons_succ]); go_simp; try with_reducible rfl)
    try simp only [List.getElem_toArray, List.getElem_cons_zero, List.getElem_cons_succ, Act.put, List.setIfInBounds_toArray, List.set_cons_zero, List.set_cons_succ]
    refine wpAnyK_take (i := 7) (v := ?v23) rfl (by rfl) (by kernel_rfl) (by kernel_rfl) (by kernel_rfl) (by kernel_rfl) (fun _ _ _ h => h) (Or.inl ⟨by rfl, ?hy23⟩) trivial (SS.out _ F5.out) ?rest23
    case hy23 => (intro w hSw; (try dsimp only at hSw); (try simp only [List.getElem_toArray, List.getElem_cons_zero, List.getElem_cons_succ]); go_simp; try with_reducible rfl)
    try simp only [List.getElem_toArray, List.getElem_cons_zero, List.getElem_cons_succ, Act.put, List.setIfInBounds_toArray, List.set_cons_zero, List.set_cons_succ]
    refine wpAnyK_take0 (i := 8) (v := ?v24) [9, 14, 18] rfl (by rfl) (by kernel_rfl) (by rfl) (by kernel_rfl) (by kernel_rfl) (by kernel_rfl) (by kernel_rfl) (fun _ _ _ h => h) (Or.inl ⟨by rfl, ?hy24⟩) trivial (SS.out _ F5.out) ?rest24
    case hy24 => (intro w hSw; (try dsimp only at hSw); (try simp only [List.getElem_toArray, List.getElem_cons_zero, List.getElem_cons_succ]); go_simp; try with_reducible rfl)
    try simp only [List.getElem_toArray, List.getElem_cons_zero, List.getElem_cons_succ, Act.put, List.setIfInBounds_toArray, List.set_cons_zero, List.set_cons_succ]
    refine wpAnyK_take (i := 10) (v := ?v25) rfl (by rfl) (by kernel_rfl) (by kernel_rfl) (by kernel_rfl) (by kernel_rfl) (fun _ _ _ h => h) (Or.inl ⟨by rfl, ?hy25⟩) trivial (SS.out _ F5.out) ?rest25
    case hy25 => (intro w hSw; (try dsimp only at hSw); (try simp only [List.getElem_toArray, List.getElem_cons_zero, List.getElem_cons_succ]); go_simp; try with_reducible rfl)
    try simp only [List.getElem_toArray, List.getElem_cons_zero, List.getElem_cons_succ, Act.put, List.setIfInBounds_toArray, List.set_cons_zero, List.set_cons_succ]
    refine wpAnyK_take (i := 11) (v := ?v26) rfl (by rfl) (by kernel_rfl) (by kernel_rfl) (by kernel_rfl) (by kernel_rfl) (fun _ _ _ h => h) (Or.inl ⟨by rfl, ?hy26⟩) trivial (SS.out _ F5.out) ?rest26
    case hy26 => (intro w hSw; (try dsimp only at hSw); (try simp only [List.getElem_toArray, List.getElem_cons_zero, List.getElem_cons_succ]); go_simp; try with_reducible rfl)
    try simp only [List.getElem_toArray, List.getElem_cons_zero, List.getElem_cons_succ, Act.put, List.setIfInBounds_toArray, List.set_cons_zero, List.set_cons_succ]
    refine wpAnyK_take (i := 12) (v := ?v27) rfl (by rfl) (by kernel_rfl) (by kernel_rfl) (by kernel_rfl) (by kernel_rfl) (fun _ _ _ h => h) (Or.inl ⟨by rfl, ?hy27⟩) trivial (SS.out _ F5.out) ?rest27
    case hy27 => (intro w hSw; (try dsimp only at hSw); (try simp only [List.getElem_toArray, List.getElem_cons_zero, List.getElem_cons_succ]); go_simp; try with_reducible rfl)
    try simp only [List.getElem_toArray, List.getElem_cons_zero, List.getElem_cons_succ, Act.put, List.setIfInBounds_toArray, List.set_cons_zero, List.set_cons_succ]
    refine wpAnyK_take (i := 15) (v := ?v28) rfl (by rfl) (by kernel_rfl) (by kernel_rfl) (by kernel_rfl) (by kernel_rfl) (fun _ _ _ h => h) (Or.inl ⟨by rfl, ?hy28⟩) trivial (SS.out _ F5.out) ?rest28
    case hy28 => (intro w hSw; (try dsimp only at hSw); (try simp only [List.getElem_toArray, List.getElem_cons_zero, List.getElem_cons_succ]); go_simp; try with_reducible rfl)
    try simp only [List.getElem_toArray, List.getElem_cons_zero, List.getElem_cons_succ, Act.put, List.setIfInBounds_toArray, List.set_cons_zero, List.set_cons_succ]
    refine wpAnyK_take (i := 16) (v := ?v29) rfl (by rfl) (by kernel_rfl) (by kernel_rfl) (by kernel_rfl) (by kernel_rfl) (fun _ _ _ h => h) (Or.inl ⟨by rfl, ?hy29⟩) trivial (SS.out _ F5.out) ?rest29
    case hy29 => (intro w hSw; (try dsimp only at hSw); (try simp only [List.getElem_toArray, List.getElem_cons_zero, List.getElem_cons_succ]); go_simp; try with_reducible rfl)
    try simp only [List.getElem_toArray, List.getElem_cons_zero, List.getElem_cons_succ, Act.put, List.setIfInBounds_toArray, List.set_cons_zero, List.set_cons_succ]
    refine wpAnyK_ready (rs := [2, 13]) (by kernel_rfl) (by simp) ?_
    refine AllReadyK.cons rfl (fun K hK => ?_) (by kernel_rfl) ?_
    · obtain ⟨W9, hW9⟩ : ∃ W, w.drew.alloc (.cells #[] 114 (0, 0)) = W := ⟨_, rfl⟩
      have F9 : Hid (Fr (fun _ _ => True) w W9) := hW9 ▸ F5.out.alloc _
      obtain ⟨g9, hg9⟩ : ∃ g, w.drew.heap.size = g := ⟨_, rfl⟩
      have E9 : Hid (W9.ownsRow w.heap.size 114 2 (.slice (some ⟨g9, 0, none⟩) 0 0) 0 (([] : List Wa).flatMap encW)) := hW9 ▸ hg9 ▸ World.ownsRow_lit w.drew #[] 0 F5.out.size (by decide) rfl
      (try simp only [List.getElem_toArray, List.getElem_cons_zero, List.getElem_cons_succ])
      go_simp
      try rw [hW9]
      try rw [hg9]
      (try simp only [Act.put, List.setIfInBounds_toArray, List.set_cons_zero, List.set_cons_succ])
      refine hK.out _ _ trivial (fun _ => SS.out _ F9.out) ?_
      clear hK K
      clear hW9 hg9
      refine wpAnyK_ready (rs := [9, 13]) (by kernel_rfl) (by simp) ?_
      refine AllReadyK.cons rfl (fun K hK => ?_) (by kernel_rfl) ?_
      · refine step_append_was W9 rfl _ _ rfl w.heap.size F9.out.size _ 0 [] rfl E9 _ ws rfl (RH.out _ F9.out) ws (Lib.hid rfl) lw (Lib.hid ((Nat.zero_add _).trans LW.out)) wsB ?_
        intro g10 c10 W10 E10 G10 O10
        have F10 : Hid (Fr (fun _ _ => True) w W10) := F9.out.grown_new G10.out (own_new E9.out)
        (try simp only [Act.put, List.setIfInBounds_toArray, List.set_cons_zero, List.set_cons_succ])
        refine hK.out _ _ trivial (fun _ => SS.out _ F10.out) ?_
        clear hK K
        clear G10 O10
        refine wpAnyK_ready (rs := [13]) (by kernel_rfl) (by simp) ?_
        refine AllReadyK.cons rfl (fun K hK => ?_) (by kernel_rfl) ?_
        · obtain ⟨W11, hW11⟩ : ∃ W, W10.alloc (.cells #[.int .i64 (c : Nat), .int .i64 (m : Nat)] 114 (0, 0)) = W := ⟨_, rfl⟩
          have A11 : Hid (Fr (fun _ _ => True) W10 W11) := hW11 ▸ (Fr.refl _ _).alloc _
          have F11 : Hid (Fr (fun _ _ => True) w W11) := Lib.hid (F10.out.trans A11.out)
          obtain ⟨g11, hg11⟩ : ∃ g, W10.heap.size = g := ⟨_, rfl⟩
          have T11 : Hid (RowsAt (fun c _ => c = g11) W11 (.slice (some ⟨g11, 0, none⟩) 1 1) 2 encW [⟨c, m⟩]) := hW11 ▸ hg11 ▸ rows_oneW (heap_alloc_new W10 _)
          have L11 : Hid (g11 < W11.heap.size) := rows_lt T11.out
          have N11 : Hid ((Value.slice g10 lw c10).ownBlock ≠ some g11) := own_ltv E10.out (Nat.le_of_eq hg11)
          have E11 := Lib.hid (own_tt E10.out A11.out)
          (try simp only [List.getElem_toArray, List.getElem_cons_zero, List.getElem_cons_succ])
          go_simp
          try rw [hW11]
          try rw [hg11]
          (try simp only [Act.put, List.setIfInBounds_toArray, List.set_cons_zero, List.set_cons_succ])
          refine hK.out _ _ trivial (fun _ => SS.out _ F11.out) ?_
          clear hK K
          clear hW11 hg11 A11
          refine wpAnyK_ready (rs := [14]) (by kernel_rfl) (by simp) ?_
          refine AllReadyK.cons rfl (fun K hK => ?_) (by kernel_rfl) ?_
          · refine step_append_was W11 rfl _ _ rfl w.heap.size F11.out.size _ lw ws rfl E11 _ [⟨c, m⟩] rfl T11 (ws ++ [⟨c, m⟩]) (Lib.hid rfl) (lw + 1) (Lib.hid rfl) wsB1 ?_
            intro g9 c9 W9 O9 G9 _
            have F9 : Hid (Fr (fun _ _ => True) w W9) := F11.out.grown_new G9.out (own_new E11.out)
            (try simp only [Act.put, List.setIfInBounds_toArray, List.set_cons_zero, List.set_cons_succ])
            refine hK.out _ _ trivial (fun _ => SS.out _ F9.out) ?_
            clear hK K
            refine wpAnyK_take (i := 17) (v := ?v30) rfl (by rfl) (by kernel_rfl) (by kernel_rfl) (by kernel_rfl) (by kernel_rfl) (fun _ _ _ h => h) (Or.inl ⟨by rfl, ?hy30⟩) trivial (SS.out _ F9.out) ?rest30
            case hy30 => (intro w hSw; (try dsimp only at hSw); (try simp only [List.getElem_toArray, List.getElem_cons_zero, List.getElem_cons_succ]); go_simp; try with_reducible rfl)
            try simp only [List.getElem_toArray, List.getElem_cons_zero, List.getElem_cons_succ, Act.put, List.setIfInBounds_toArray, List.set_cons_zero, List.set_cons_succ]
            refine wpAnyK_ready (rs := [18]) (by kernel_rfl) (by simp) ?_
            refine AllReadyK.cons rfl (fun K hK => ?_) (by kernel_rfl) ?_
            · have z9 := (SZ.out _ F9.out)
              have k9 := (SS.out _ F9.out)
              (try simp only [List.getElem_toArray, List.getElem_cons_zero, List.getElem_cons_succ])
              go_simp
              refine hK.out _ _ trivial (fun h => absurd h (by decide)) ?_
              clear hK K
              refine wpAnyK_done (by kernel_rfl) ?_ _
              obtain ⟨G2, d2, k2⟩ := HPW.out g9 c9 W9 O9.out F9.out
              obtain ⟨w10, hw10⟩ : ∃ W, W9.setCell ⟨bt, 6 + r, none⟩ (.slice g9 (lw + 1) c9) = W := ⟨_, rfl⟩
              rw [hw10] at d2 k2 ⊢
              have K2 := Lib.hid k2
              have AC := Lib.hid (ALLC.out w10 G2 d2 (Nat.le_trans HN.out k2.fr.size))
              clear d2 k2 hw10 SS SZ RH HPW O9 F9 F5 z9 k9 ALLC
              go_wp2_with fail
              (with_reducible refine AC.out.mono ?_)
              rintro e w11 ⟨rfl, G3, d3, k3⟩
              have D3 := Lib.hid d3
              have K3 := Lib.hid (K2.out.trans k3)
              have HC := Lib.hid (dhold_calls w11 bt c r G1 d3 HR4.out)
              rw [hI_idx] at HC
              clear d3 k3 AC
              cases hx : hI (G1.rg r).hs c with
              | none =>
                rw [hx] at HC HA
                dsimp only at HC HA
                go_wp2_with fail
                (with_reducible refine HC.out.mono ?_)
                rintro e w12 ⟨rfl, rfl⟩
                go_wp2
                go_ret2
                rw [HA.out]
                exact ⟨rfl, G3, D3.out, K3.out⟩
              | some k =>
                rw [hx] at HC HA
                dsimp only at HC HA
                have hk := (hI_some hx).1
                obtain ⟨hv3, wv3, d3⟩ := D3.out
                have q0 := ((d3.cells w11 (Fr.refl _ _)).2.2.2.2 r HR4.out).1
                have HR := d3.hr r HR4.out
                obtain ⟨ah, ch, eh, _⟩ := HR.form
                rw [eh] at q0 HR
                obtain ⟨b, off, o, rfl, _, _, hcl⟩ := HR.spot (by omega)
                obtain ⟨x, hxx⟩ : ∃ x, (G1.rg r).hs[k] = x := ⟨_, rfl⟩
                have hcs := RowsAt.h4 (K := fun _ _ => True) hcl k hk
                have EG : (G1.rg r).hs.getD k default = x := (getD_at hk).trans hxx
                rw [hxx] at hcs
                rw [EG] at HA
                have q2 := hcs.2.2.1
                have hkI : (k : Int) < (G1.rg r).hs.length := by omega
                have hk0 : (0 : Int) ≤ (k : Int) := by omega
                generalize (G1.rg r).hs.length = lh at q0 hkI
                clear d3 HR eh hcl hcs EG hxx hx
                go_wp2_with fail
                (with_reducible refine HC.out.mono ?_)
                rintro e w12 ⟨rfl, rfl⟩
                go_wp2
                go_ret2
                rw [HA.out]
                exact ⟨rfl, G3, D3.out, K3.out⟩
            exact AllReadyK.nil
          exact AllReadyK.nil
        exact AllReadyK.nil
      refine AllReadyK.cons rfl (fun K hK => ?_) (by kernel_rfl) ?_
      · obtain ⟨W12, hW12⟩ : ∃ W, W9.alloc (.cells #[.int .i64 (c : Nat), .int .i64 (m : Nat)] 114 (0, 0)) = W := ⟨_, rfl⟩
        have A12 : Hid (Fr (fun _ _ => True) W9 W12) := hW12 ▸ (Fr.refl _ _).alloc _
        have F12 : Hid (Fr (fun _ _ => True) w W12) := Lib.hid (F9.out.trans A12.out)
        obtain ⟨g12, hg12⟩ : ∃ g, W9.heap.size = g := ⟨_, rfl⟩
        have T12 : Hid (RowsAt (fun c _ => c = g12) W12 (.slice (some ⟨g12, 0, none⟩) 1 1) 2 encW [⟨c, m⟩]) := hW12 ▸ hg12 ▸ rows_oneW (heap_alloc_new W9 _)
        have L12 : Hid (g12 < W12.heap.size) := rows_lt T12.out
        have N12 : Hid ((Value.slice (some ⟨g9, 0, none⟩) 0 0).ownBlock ≠ some g12) := own_ltv E9.out (Nat.le_of_eq hg12)
        have E12 := Lib.hid (own_tt E9.out A12.out)
        (try simp only [List.getElem_toArray, List.getElem_cons_zero, List.getElem_cons_succ])
        go_simp
        try rw [hW12]
        try rw [hg12]
        (try simp only [Act.put, List.setIfInBounds_toArray, List.set_cons_zero, List.set_cons_succ])
        refine hK.out _ _ trivial (fun _ => SS.out _ F12.out) ?_
        clear hK K
        clear hW12 hg12 A12
        refine wpAnyK_ready (rs := [9]) (by kernel_rfl) (by simp) ?_
        refine AllReadyK.cons rfl (fun K hK => ?_) (by kernel_rfl) ?_
        · refine step_append_was W12 rfl _ _ rfl w.heap.size F12.out.size _ 0 [] rfl E12 _ ws rfl (RH.out _ F12.out) ws (Lib.hid rfl) lw (Lib.hid ((Nat.zero_add _).trans LW.out)) wsB ?_
          intro g13 c13 W13 E13 G13 O13
          have F13 : Hid (Fr (fun _ _ => True) w W13) := F12.out.grown_new G13.out (own_new E12.out)
          have T13 := Lib.hid (rows_past T12.out G13.out N12.out)
          have N13 : Hid ((Value.slice g13 lw c13).ownBlock ≠ some g12) := O13.out.ne N12.out (rows_lt T12.out)
          (try simp only [Act.put, List.setIfInBounds_toArray, List.set_cons_zero, List.set_cons_succ])
          refine hK.out _ _ trivial (fun _ => SS.out _ F13.out) ?_
          clear hK K
          clear G13 O13
          have L13 : Hid (g12 < W13.heap.size) := rows_lt T13.out
          refine wpAnyK_ready (rs := [14]) (by kernel_rfl) (by simp) ?_
          refine AllReadyK.cons rfl (fun K hK => ?_) (by kernel_rfl) ?_
          · refine step_append_was W13 rfl _ _ rfl w.heap.size F13.out.size _ lw ws rfl E13 _ [⟨c, m⟩] rfl T13 (ws ++ [⟨c, m⟩]) (Lib.hid rfl) (lw + 1) (Lib.hid rfl) wsB1 ?_
            intro g9 c9 W9 O9 G9 _
            have F9 : Hid (Fr (fun _ _ => True) w W9) := F13.out.grown_new G9.out (own_new E13.out)
            (try simp only [Act.put, List.setIfInBounds_toArray, List.set_cons_zero, List.set_cons_succ])
            refine hK.out _ _ trivial (fun _ => SS.out _ F9.out) ?_
            clear hK K
            refine wpAnyK_take (i := 17) (v := ?v31) rfl (by rfl) (by kernel_rfl) (by kernel_rfl) (by kernel_rfl) (by kernel_rfl) (fun _ _ _ h => h) (Or.inl ⟨by rfl, ?hy31⟩) trivial (SS.out _ F9.out) ?rest31
            case hy31 => (intro w hSw; (try dsimp only at hSw); (try simp only [List.getElem_toArray, List.getElem_cons_zero, List.getElem_cons_succ]); go_simp; try with_reducible rfl)
            try simp only [List.getElem_toArray, List.getElem_cons_zero, List.getElem_cons_succ, Act.put, List.setIfInBounds_toArray, List.set_cons_zero, List.set_cons_succ]
            refine wpAnyK_ready (rs := [18]) (by kernel_rfl) (by simp) ?_
            refine AllReadyK.cons rfl (fun K hK => ?_) (by kernel_rfl) ?_
            · have z9 := (SZ.out _ F9.out)
              have k9 := (SS.out _ F9.out)
              (try simp only [List.getElem_toArray, List.getElem_cons_zero, List.getElem_cons_succ])
              go_simp
              refine hK.out _ _ trivial (fun h => absurd h (by decide)) ?_
              clear hK K
              refine wpAnyK_done (by kernel_rfl) ?_ _
              obtain ⟨G2, d2, k2⟩ := HPW.out g9 c9 W9 O9.out F9.out
              obtain ⟨w10, hw10⟩ : ∃ W, W9.setCell ⟨bt, 6 + r, none⟩ (.slice g9 (lw + 1) c9) = W := ⟨_, rfl⟩
              rw [hw10] at d2 k2 ⊢
              have K2 := Lib.hid k2
              have AC := Lib.hid (ALLC.out w10 G2 d2 (Nat.le_trans HN.out k2.fr.size))
              clear d2 k2 hw10 SS SZ RH HPW O9 F9 F5 z9 k9 ALLC
              go_wp2_with fail
              (with_reducible refine AC.out.mono ?_)
              rintro e w11 ⟨rfl, G3, d3, k3⟩
              have D3 := Lib.hid d3
              have K3 := Lib.hid (K2.out.trans k3)
              have HC := Lib.hid (dhold_calls w11 bt c r G1 d3 HR4.out)
              rw [hI_idx] at HC
              clear d3 k3 AC
              cases hx : hI (G1.rg r).hs c with
              | none =>
                rw [hx] at HC HA
                dsimp only at HC HA
                go_wp2_with fail
                (with_reducible refine HC.out.mono ?_)
                rintro e w12 ⟨rfl, rfl⟩
                go_wp2
                go_ret2
                rw [HA.out]
                exact ⟨rfl, G3, D3.out, K3.out⟩
              | some k =>
                rw [hx] at HC HA
                dsimp only at HC HA
                have hk := (hI_some hx).1
                obtain ⟨hv3, wv3, d3⟩ := D3.out
                have q0 := ((d3.cells w11 (Fr.refl _ _)).2.2.2.2 r HR4.out).1
                have HR := d3.hr r HR4.out
                obtain ⟨ah, ch, eh, _⟩ := HR.form
                rw [eh] at q0 HR
                obtain ⟨b, off, o, rfl, _, _, hcl⟩ := HR.spot (by omega)
                obtain ⟨x, hxx⟩ : ∃ x, (G1.rg r).hs[k] = x := ⟨_, rfl⟩
                have hcs := RowsAt.h4 (K := fun _ _ => True) hcl k hk
                have EG : (G1.rg r).hs.getD k default = x := (getD_at hk).trans hxx
                rw [hxx] at hcs
                rw [EG] at HA
                have q2 := hcs.2.2.1
                have hkI : (k : Int) < (G1.rg r).hs.length := by omega
                have hk0 : (0 : Int) ≤ (k : Int) := by omega
                generalize (G1.rg r).hs.length = lh at q0 hkI
                clear d3 HR eh hcl hcs EG hxx hx
                go_wp2_with fail
                (with_reducible refine HC.out.mono ?_)
                rintro e w12 ⟨rfl, rfl⟩
                go_wp2
                go_ret2
                rw [HA.out]
                exact ⟨rfl, G3, D3.out, K3.out⟩
            exact AllReadyK.nil
          exact AllReadyK.nil
        exact AllReadyK.nil
      exact AllReadyK.nil
    refine AllReadyK.cons rfl (fun K hK => ?_) (by kernel_rfl) ?_
    · obtain ⟨W14, hW14⟩ : ∃ W, w.drew.alloc (.cells #[.int .i64 (c : Nat), .int .i64 (m : Nat)] 114 (0, 0)) = W := ⟨_, rfl⟩
      have A14 : Hid (Fr (fun _ _ => True) w.drew W14) := hW14 ▸ (Fr.refl _ _).alloc _
      have F14 : Hid (Fr (fun _ _ => True) w W14) := Lib.hid (F5.out.trans A14.out)
      obtain ⟨g14, hg14⟩ : ∃ g, w.drew.heap.size = g := ⟨_, rfl⟩
      have T14 : Hid (RowsAt (fun c _ => c = g14) W14 (.slice (some ⟨g14, 0, none⟩) 1 1) 2 encW [⟨c, m⟩]) := hW14 ▸ hg14 ▸ rows_oneW (heap_alloc_new w.drew _)
      have L14 : Hid (g14 < W14.heap.size) := rows_lt T14.out
      (try simp only [List.getElem_toArray, List.getElem_cons_zero, List.getElem_cons_succ])
      go_simp
      try rw [hW14]
      try rw [hg14]
      (try simp only [Act.put, List.setIfInBounds_toArray, List.set_cons_zero, List.set_cons_succ])
      refine hK.out _ _ trivial (fun _ => SS.out _ F14.out) ?_
      clear hK K
      clear hW14 hg14 A14
      refine wpAnyK_ready (rs := [2]) (by kernel_rfl) (by simp) ?_
      refine AllReadyK.cons rfl (fun K hK => ?_) (by kernel_rfl) ?_
      · obtain ⟨W15, hW15⟩ : ∃ W, W14.alloc (.cells #[] 114 (0, 0)) = W := ⟨_, rfl⟩
        have F15 : Hid (Fr (fun _ _ => True) w W15) := hW15 ▸ F14.out.alloc _
        obtain ⟨g15, hg15⟩ : ∃ g, W14.heap.size = g := ⟨_, rfl⟩
        have E15 : Hid (W15.ownsRow w.heap.size 114 2 (.slice (some ⟨g15, 0, none⟩) 0 0) 0 (([] : List Wa).flatMap encW)) := hW15 ▸ hg15 ▸ World.ownsRow_lit W14 #[] 0 F14.out.size (by decide) rfl
        have T15 := Lib.hid (T14.out.tt (hW15 ▸ (Fr.refl _ _).alloc _ : Fr (fun _ _ => True) W14 W15))
        have N15 : Hid ((Value.slice (some ⟨g15, 0, none⟩) 0 0).ownBlock ≠ some g14) := fun e => by have q := L14.out; simp only [Value.ownBlock, Option.some.injEq] at e; omega
        (try simp only [List.getElem_toArray, List.getElem_cons_zero, List.getElem_cons_succ])
        go_simp
        try rw [hW15]
        try rw [hg15]
        (try simp only [Act.put, List.setIfInBounds_toArray, List.set_cons_zero, List.set_cons_succ])
        refine hK.out _ _ trivial (fun _ => SS.out _ F15.out) ?_
        clear hK K
        clear hW15 hg15
        have L15 : Hid (g14 < W15.heap.size) := rows_lt T15.out
        refine wpAnyK_ready (rs := [9]) (by kernel_rfl) (by simp) ?_
        refine AllReadyK.cons rfl (fun K hK => ?_) (by kernel_rfl) ?_
        · refine step_append_was W15 rfl _ _ rfl w.heap.size F15.out.size _ 0 [] rfl E15 _ ws rfl (RH.out _ F15.out) ws (Lib.hid rfl) lw (Lib.hid ((Nat.zero_add _).trans LW.out)) wsB ?_
          intro g16 c16 W16 E16 G16 O16
          have F16 : Hid (Fr (fun _ _ => True) w W16) := F15.out.grown_new G16.out (own_new E15.out)
          have T16 := Lib.hid (rows_past T15.out G16.out N15.out)
          have N16 : Hid ((Value.slice g16 lw c16).ownBlock ≠ some g14) := O16.out.ne N15.out (rows_lt T15.out)
          (try simp only [Act.put, List.setIfInBounds_toArray, List.set_cons_zero, List.set_cons_succ])
          refine hK.out _ _ trivial (fun _ => SS.out _ F16.out) ?_
          clear hK K
          clear G16 O16
          have L16 : Hid (g14 < W16.heap.size) := rows_lt T16.out
          refine wpAnyK_ready (rs := [14]) (by kernel_rfl) (by simp) ?_
          refine AllReadyK.cons rfl (fun K hK => ?_) (by kernel_rfl) ?_
          · refine step_append_was W16 rfl _ _ rfl w.heap.size F16.out.size _ lw ws rfl E16 _ [⟨c, m⟩] rfl T16 (ws ++ [⟨c, m⟩]) (Lib.hid rfl) (lw + 1) (Lib.hid rfl) wsB1 ?_
            intro g9 c9 W9 O9 G9 _
            have F9 : Hid (Fr (fun _ _ => True) w W9) := F16.out.grown_new G9.out (own_new E16.out)
            (try simp only [Act.put, List.setIfInBounds_toArray, List.set_cons_zero, List.set_cons_succ])
            refine hK.out _ _ trivial (fun _ => SS.out _ F9.out) ?_
            clear hK K
            refine wpAnyK_take (i := 17) (v := ?v32) rfl (by rfl) (by kernel_rfl) (by kernel_rfl) (by kernel_rfl) (by kernel_rfl) (fun _ _ _ h => h) (Or.inl ⟨by rfl, ?hy32⟩) trivial (SS.out _ F9.out) ?rest32
            case hy32 => (intro w hSw; (try dsimp only at hSw); (try simp only [List.getElem_toArray, List.getElem_cons_zero, List.getElem_cons_succ]); go_simp; try with_reducible rfl)
            try simp only [List.getElem_toArray, List.getElem_cons_zero, List.getElem_cons_succ, Act.put, List.setIfInBounds_toArray, List.set_cons_zero, List.set_cons_succ]
            refine wpAnyK_ready (rs := [18]) (by kernel_rfl) (by simp) ?_
            refine AllReadyK.cons rfl (fun K hK => ?_) (by kernel_rfl) ?_
            · have z9 := (SZ.out _ F9.out)
              have k9 := (SS.out _ F9.out)
              (try simp only [List.getElem_toArray, List.getElem_cons_zero, List.getElem_cons_succ])
              go_simp
              refine hK.out _ _ trivial (fun h => absurd h (by decide)) ?_
              clear hK K
              refine wpAnyK_done (by kernel_rfl) ?_ _
              obtain ⟨G2, d2, k2⟩ := HPW.out g9 c9 W9 O9.out F9.out
              obtain ⟨w10, hw10⟩ : ∃ W, W9.setCell ⟨bt, 6 + r, none⟩ (.slice g9 (lw + 1) c9) = W := ⟨_, rfl⟩
              rw [hw10] at d2 k2 ⊢
              have K2 := Lib.hid k2
              have AC := Lib.hid (ALLC.out w10 G2 d2 (Nat.le_trans HN.out k2.fr.size))
              clear d2 k2 hw10 SS SZ RH HPW O9 F9 F5 z9 k9 ALLC
              go_wp2_with fail
              (with_reducible refine AC.out.mono ?_)
              rintro e w11 ⟨rfl, G3, d3, k3⟩
              have D3 := Lib.hid d3
              have K3 := Lib.hid (K2.out.trans k3)
              have HC := Lib.hid (dhold_calls w11 bt c r G1 d3 HR4.out)
              rw [hI_idx] at HC
              clear d3 k3 AC
              cases hx : hI (G1.rg r).hs c with
              | none =>
                rw [hx] at HC HA
                dsimp only at HC HA
                go_wp2_with fail
                (with_reducible refine HC.out.mono ?_)
                rintro e w12 ⟨rfl, rfl⟩
                go_wp2
                go_ret2
                rw [HA.out]
                exact ⟨rfl, G3, D3.out, K3.out⟩
              | some k =>
                rw [hx] at HC HA
                dsimp only at HC HA
                have hk := (hI_some hx).1
                obtain ⟨hv3, wv3, d3⟩ := D3.out
                have q0 := ((d3.cells w11 (Fr.refl _ _)).2.2.2.2 r HR4.out).1
                have HR := d3.hr r HR4.out
                obtain ⟨ah, ch, eh, _⟩ := HR.form
                rw [eh] at q0 HR
                obtain ⟨b, off, o, rfl, _, _, hcl⟩ := HR.spot (by omega)
                obtain ⟨x, hxx⟩ : ∃ x, (G1.rg r).hs[k] = x := ⟨_, rfl⟩
                have hcs := RowsAt.h4 (K := fun _ _ => True) hcl k hk
                have EG : (G1.rg r).hs.getD k default = x := (getD_at hk).trans hxx
                rw [hxx] at hcs
                rw [EG] at HA
                have q2 := hcs.2.2.1
                have hkI : (k : Int) < (G1.rg r).hs.length := by omega
                have hk0 : (0 : Int) ≤ (k : Int) := by omega
                generalize (G1.rg r).hs.length = lh at q0 hkI
                clear d3 HR eh hcl hcs EG hxx hx
                go_wp2_with fail
                (with_reducible refine HC.out.mono ?_)
                rintro e w12 ⟨rfl, rfl⟩
                go_wp2
                go_ret2
                rw [HA.out]
                exact ⟨rfl, G3, D3.out, K3.out⟩
            exact AllReadyK.nil
          exact AllReadyK.nil
        exact AllReadyK.nil
      exact AllReadyK.nil
    exact AllReadyK.nil
/-- Acquire. -/
theorem dacquire_calls {n : Nat} {G : Nat → Prop} (w : World) (bt c r m : Nat) (L : Lk) (h : DRE n G w bt L) (hn : n ≤ w.heap.size) :
    Calls Tryz.prog 39 #[.pointer (some ⟨bt, 0, none⟩), .int .i64 (c : Nat), .int .i64 (r : Nat), .int .i64 (m : Nat)] w fun e w' => e = .returned (.tuple #[.int .u64 ((acquireM L c r m).1.1 : Nat), .int .i64 ((acquireM L c r m).1.2 : Nat)]) ∧ ∃ G', DRE n G' w' bt (acquireM L c r m).2 ∧ Kg bt G G' w w' := by
  unfold acquireM
  by_cases hr : rightM c r = 0
  · rw [if_neg (by rw [hr]; exact fun h => h rfl)]
    by_cases hm : m = 1 ∨ m = 2
    · rw [if_neg (fun k => k hm)]
      cases hi : hI (L.rg r).hs c with
      | some k =>
        have hk : k < (L.rg r).hs.length := (hI_some hi).1
        have e : (L.rg r).hs.getD k default = (L.rg r).hs[k] := getD_at hk
        refine (dacq_hold w bt c r m k L h hr hm hi hk).mono ?_
        rintro _ w1 ⟨rfl, rfl⟩
        simp only [e]
        by_cases hq : ((L.rg r).hs[k]).m = m
        · rw [if_pos hq, if_pos hq]
          exact ⟨rfl, G, h, Kg.refl G w⟩
        · rw [if_neg hq, if_neg hq]
          exact ⟨rfl, G, h, Kg.refl G w⟩
      | none =>
        cases hj : wI (L.rg r).ws c with
        | some k =>
          have hk : k < (L.rg r).ws.length := (wI_some hj).1
          have e : (L.rg r).ws.getD k default = (L.rg r).ws[k] := by rw [List.getD_eq_getElem?_getD, List.getElem?_eq_getElem hk]; rfl
          refine (dacq_want w bt c r m k L h hr hm hi hj hk).mono ?_
          rintro _ w1 ⟨rfl, rfl⟩
          simp only [e]
          by_cases hq : ((L.rg r).ws[k]).m = m
          · rw [if_pos hq, if_pos hq]
            exact ⟨rfl, G, h, Kg.refl G w⟩
          · rw [if_neg hq, if_neg hq]
            exact ⟨rfl, G, h, Kg.refl G w⟩
        | none =>
          by_cases hf : 4 ≤ (L.rg r).ws.length ∨ L.last = topM
          · refine (dacq_full w bt c r m L h hr hm hi hj hf).mono ?_
            rintro _ w1 ⟨rfl, rfl⟩
            simp only [if_pos hf]
            exact ⟨rfl, G, h, Kg.refl G w⟩
          · have hf1 : ¬ 4 ≤ (L.rg r).ws.length := fun x => hf (.inl x)
            have hf2 : L.last ≠ topM := fun x => hf (.inr x)
            simp only [if_neg hf]
            generalize hG : (L.put r ⟨(L.rg r).hs, (L.rg r).ws ++ [⟨c, m⟩]⟩).give r = G1
            obtain ⟨A, HA⟩ : ∃ A : Value, A = match hI (G1.rg r).hs c with | some k => .tuple #[.int .u64 (((G1.rg r).hs.getD k default).t : Nat), .int .i64 0] | none => .tuple #[.int .u64 0, .int .i64 90] := ⟨_, rfl⟩
            refine (dacq_go w bt c r m L h hr hm hi hj hf1 hf2 hn G1 hG A (Lib.hid HA)).mono ?_
            rintro _ w1 ⟨rfl, x⟩
            cases hx : hI (G1.rg r).hs c with
            | some k => rw [hx] at HA; exact ⟨by rw [HA]; rfl, x⟩
            | none => rw [hx] at HA; exact ⟨by rw [HA]; rfl, x⟩
    · rw [if_pos hm]
      refine (dacq_mode w bt c r m hr hm).mono ?_
      rintro _ w1 ⟨rfl, rfl⟩
      exact ⟨rfl, G, h, Kg.refl G w⟩
  · rw [if_pos hr]
    refine (dacq_bad w bt c r m hr).mono ?_
    rintro _ w1 ⟨rfl, rfl⟩
    exact ⟨rfl, G, h, Kg.refl G w⟩
end Go.Proofs.YtlolfcnfcgegdaaGreat
