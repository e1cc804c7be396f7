/- Texts of the proofs, part 34: what the functions that they reach do, walked; no conditions beyond those that each states. -/
import Derived.Test.YtlolfcnfcgegdaaGreatZz1b5ae6d22a
set_option linter.unusedVariables false
set_option linter.unusedSimpArgs false
/- The document's locks: Release, Cancel (printed by ddrop19.py). -/
namespace Go.Proofs.YtlolfcnfcgegdaaGreat
open Go.RowKit
set_option linter.unusedVariables false
set_option linter.unusedSimpArgs false

theorem heldM_ok {L : Lk} {c r t : Nat} (h : (heldM L c r t).2 = 0) : rightM c r = 0 ∧ (heldM L c r t).1 < (L.rg r).hs.length := by
  unfold heldM at h ⊢
  by_cases hr : rightM c r = 0
  · rw [if_neg (fun q => q hr)] at h ⊢
    refine ⟨hr, ?_⟩
    cases hi : hI (L.rg r).hs c with
    | none => rw [hi] at h; cases h
    | some k =>
      rw [hi] at h
      dsimp only at h ⊢
      split at h
      · rename_i q; rw [if_pos q]; exact (hI_some hi).1
      · cases h
  · rw [if_pos hr] at h; exact absurd h hr
theorem drop_len {α : Type} (l : List α) (k m : Nat) (hk : k < l.length) (hm : (l.eraseIdx k).length = m) : k + (l.drop (k + 1)).length = m := by
  rw [← hm, List.length_eraseIdx, if_pos hk, List.length_drop]; omega
set_option maxRecDepth 100000 in
set_option maxHeartbeats 20000000 in
theorem drelease_go {n : Nat} {G : Nat → Prop} (w : World) (bt c r t k : Nat) (L : Lk) (h : DRE n G w bt L) (hr : rightM c r = 0) (hh : heldM L c r t = (k, 0)) (hk : k < (L.rg r).hs.length) (hn : n ≤ w.heap.size) :
    Calls Tryz.prog 40 #[.pointer (some ⟨bt, 0, none⟩), .int .i64 (c : Nat), .int .i64 (r : Nat), .int .u64 (t : Nat)] w fun e w' => e = .returned (.int .i64 0) ∧ ∃ G', DRE n G' w' bt ((L.put r ⟨(L.rg r).hs.eraseIdx k, (L.rg r).ws⟩).give r) ∧ Kg bt G G' w w' := by
  have HC := Lib.hid (dheld_calls w bt c r t L h)
  rw [hh] at HC
  dsimp only at HC
  have hr4 : r < 4 := right_r (c := c) (fun q => q hr)
  obtain ⟨hv, wv, h⟩ := h
  obtain ⟨_, _, _, _, cc⟩ := h.cells w (Fr.refl _ _)
  have hrI : (r : Int) < 4 := by omega
  have ER := h.hr r hr4
  obtain ⟨al, cl, ee, hcl⟩ := ER.form
  rw [ee] at ER
  have n4 := (h.ok.rg r).h4
  have HPW : Hid (∀ g c' m W, ((L.rg r).hs.eraseIdx k).length = m → W.ownsRow w.heap.size 112 4 (.slice g m c') m (((L.rg r).hs.eraseIdx k).flatMap encH) → Fr (fun _ _ => True) w W → ∃ G', DRE n G' (W.setCell ⟨bt, 2 + r, none⟩ (.slice g m c')) bt (L.put r ⟨(L.rg r).hs.eraseIdx k, (L.rg r).ws⟩) ∧ Kg bt G G' w (W.setCell ⟨bt, 2 + r, none⟩ (.slice g m c'))) := fun g c' m W hm o f =>
    h.putH hn f (by rw [hm]; exact o) hr4 ((h.ok.rg r).sub (eraseIdx_sub _ _) (List.Sublist.refl _))
  have SS : Hid (∀ W, Fr (fun _ _ => True) w W → W.cell? ⟨bt, 2 + r, none⟩ = some (.slice al (L.rg r).hs.length cl)) := fun W f => by
    rw [← ee]; exact (((h.cells W f).2.2.2.2 r hr4).1)
  have SZ : Hid (∀ W, Fr (fun _ _ => True) w W → W.frozen? ⟨bt, 2 + r, none⟩ = false) := fun W f => ((h.cells W f).2.2.2.2 r hr4).2.2.1
  have HN := Lib.hid hn
  have HR4 := Lib.hid hr4
  obtain ⟨L1, hL1⟩ : ∃ x, L.put r ⟨(L.rg r).hs.eraseIdx k, (L.rg r).ws⟩ = x := ⟨_, rfl⟩
  rw [hL1] at HPW ⊢
  have ALLC : Hid (∀ (w9 : World) (G9 : Nat → Prop), DRE n G9 w9 bt L1 → n ≤ w9.heap.size → Calls Tryz.prog 77 #[.pointer (some ⟨bt, 0, none⟩), .int .i64 (r : Nat)] w9 fun e w' => e = .returned (.tuple #[]) ∧ ∃ G', DRE n G' w' bt (L1.give r) ∧ Kg bt G9 G' w9 w') := fun w9 G9 d hs => dall_calls w9 bt r L1 d HR4.out hs
  obtain ⟨G1, hG1⟩ : ∃ x, L1.give r = x := ⟨_, rfl⟩
  rw [hG1] at ALLC ⊢
  obtain ⟨xs, hxs⟩ : ∃ xs, (L.rg r).hs = xs := ⟨_, rfl⟩
  rw [hxs] at n4 SS HPW ER hcl hk
  obtain ⟨lm, hlm⟩ : ∃ m, (xs.eraseIdx k).length = m := ⟨_, rfl⟩
  have LMH := Lib.hid hlm
  have DL := Lib.hid (drop_len xs k lm hk hlm)
  have TK : Hid (xs.take k ++ xs.drop (k + 1) = xs.eraseIdx k) := (List.eraseIdx_eq_take_drop_succ xs k).symm
  have TL : Hid (0 + (xs.take k).length = k) := by show _ = _; rw [List.length_take]; omega
  have R1 : Hid (∀ W, Fr (fun _ _ => True) w W → RowsAt (fun c _ => G c ∧ c ≠ bt) W (.slice al k cl) 4 encH (xs.take k)) := fun W f => (ER.tt f).takeS (by omega)
  have s1 : ∀ W, (Instr.slice 60 (.slice al xs.length cl) none (some (.int .i64 (k : Nat))) none).run Tryz.prog W = .ok (.slice al k cl) W := fun W => run_sliceS 4 Tryz.underlying60 size_ho W al xs.length cl k .i64 (by omega)
  have s2 : ∀ W, (Instr.slice 60 (.slice al xs.length cl) (some (.int .i64 ((k : Int) + 1))) none none).run Tryz.prog W = .ok (.slice (subS al cl (k + 1) 4) (xs.length - (k + 1)) (cl - (k + 1))) W := fun W => by
    have q := run_sliceF 4 Tryz.underlying60 size_ho W al xs.length cl (k + 1) .i64 (by omega)
    have e : (((k + 1 : Nat)) : Int) = (k : Int) + 1 := by omega
    rw [e] at q
    exact q
  have R2 : Hid (∀ W, Fr (fun _ _ => True) w W → RowsAt (fun c _ => G c ∧ c ≠ bt) W (.slice (subS al cl (k + 1) 4) (xs.length - (k + 1)) (cl - (k + 1))) 4 encH (xs.drop (k + 1))) := fun W f => (ER.tt f).dropS (by omega)
  obtain ⟨a2, ha2⟩ : ∃ x, subS al cl (k + 1) 4 = x := ⟨_, rfl⟩
  obtain ⟨l2, hl2⟩ : ∃ x, xs.length - (k + 1) = x := ⟨_, rfl⟩
  obtain ⟨c2, hc2⟩ : ∃ x, cl - (k + 1) = x := ⟨_, rfl⟩
  rw [ha2, hl2, hc2] at s2 R2
  have kB : k ≤ 1000000 := by omega
  have lmB : lm ≤ 1000000 := by have := DL.out; rw [List.length_drop] at this; omega
  have hwk : IntKind.i64.wrap ((k : Int) + 1) = (k : Int) + 1 := by rw [IntKind.wrap_i64]; omega
  have hk0 : ¬ (k : Int) < 0 := by omega
  obtain ⟨ln, hln⟩ : ∃ x, xs.length = x := ⟨_, rfl⟩
  rw [hln] at s1 s2 SS
  have F5 : Hid (Fr (fun _ _ => True) w w.drew) := (Fr.refl _ _).drew
  clear h cc ER ee hcl hr hh hr4 hn hL1 hG1 hxs hlm n4 hk ha2 hl2 hc2 hln
  go_enter Tryz.func40, Tryz.ntmps40
  go_wp2_with fail
  (with_reducible refine HC.out.mono ?_)
  rintro e w1 ⟨rfl, rfl⟩
  go_upto_region 4 with fail
  clear HC
  refine wp_region_heldK (S1 := fun _ => True) (S0 := fun W => W.cell? ⟨bt, 2 + r, none⟩ = some (.slice al ln cl)) (k := 25) (by kernel_rfl) ?_
  refine wpAnyK_take (i := 0) (v := ?v1) rfl (by rfl) (by kernel_rfl) (by kernel_rfl) (by kernel_rfl) (by kernel_rfl) (fun _ _ _ h => h) (Or.inl ⟨by rfl, ?hy1⟩) trivial (SS.out _ F5.out) ?rest1
  case hy1 => (intro w hSw; (try dsimp only at hSw); (try simp only [List.getElem_toArray, List.getElem_cons_zero, List.getElem_cons_succ]); go_simp; try with_reducible rfl)
  try simp only [List.getElem_toArray, List.getElem_cons_zero, List.getElem_cons_succ, Act.put, List.setIfInBounds_toArray, List.set_cons_zero, List.set_cons_succ]
  refine wpAnyK_take (i := 1) (v := ?v2) rfl (by rfl) (by kernel_rfl) (by kernel_rfl) (by kernel_rfl) (by kernel_rfl) (fun _ _ _ h => h) (Or.inl ⟨by rfl, ?hy2⟩) trivial (SS.out _ F5.out) ?rest2
  case hy2 => (intro w hSw; (try dsimp only at hSw); (try simp only [List.getElem_toArray, List.getElem_cons_zero, List.getElem_cons_succ]); go_simp; try with_reducible rfl)
  try simp only [List.getElem_toArray, List.getElem_cons_zero, List.getElem_cons_succ, Act.put, List.setIfInBounds_toArray, List.set_cons_zero, List.set_cons_succ]
  refine wpAnyK_take (i := 3) (v := ?v3) rfl (by rfl) (by kernel_rfl) (by kernel_rfl) (by kernel_rfl) (by kernel_rfl) (fun _ _ _ h => h) (Or.inl ⟨by rfl, ?hy3⟩) trivial (SS.out _ F5.out) ?rest3
  case hy3 => (intro w hSw; (try dsimp only at hSw); (try simp only [List.getElem_toArray, List.getElem_cons_zero, List.getElem_cons_succ]); go_simp; try with_reducible rfl)
  try simp only [List.getElem_toArray, List.getElem_cons_zero, List.getElem_cons_succ, Act.put, List.setIfInBounds_toArray, List.set_cons_zero, List.set_cons_succ]
  refine wpAnyK_take (i := 4) (v := ?v4) rfl (by rfl) (by kernel_rfl) (by kernel_rfl) (by kernel_rfl) (by kernel_rfl) (fun _ _ _ h => h) (Or.inl ⟨by rfl, ?hy4⟩) trivial (SS.out _ F5.out) ?rest4
  case hy4 => (intro w hSw; (try dsimp only at hSw); (try simp only [List.getElem_toArray, List.getElem_cons_zero, List.getElem_cons_succ]); go_simp; try with_reducible rfl)
  try simp only [List.getElem_toArray, List.getElem_cons_zero, List.getElem_cons_succ, Act.put, List.setIfInBounds_toArray, List.set_cons_zero, List.set_cons_succ]
  refine wpAnyK_take (i := 5) (v := ?v5) rfl (by rfl) (by kernel_rfl) (by kernel_rfl) (by kernel_rfl) (by kernel_rfl) (fun _ _ _ h => h) (Or.inl ⟨by rfl, ?hy5⟩) trivial (SS.out _ F5.out) ?rest5
  case hy5 => (intro w hSw; (try dsimp only at hSw); (try simp only [List.getElem_toArray, List.getElem_cons_zero, List.getElem_cons_succ]); go_simp; try with_reducible rfl)
  try simp only [List.getElem_toArray, List.getElem_cons_zero, List.getElem_cons_succ, Act.put, List.setIfInBounds_toArray, List.set_cons_zero, List.set_cons_succ]
  refine wpAnyK_take (i := 6) (v := ?v6) rfl (by rfl) (by kernel_rfl) (by kernel_rfl) (by kernel_rfl) (by kernel_rfl) (fun _ _ _ h => h) (Or.inl ⟨by rfl, ?hy6⟩) trivial (SS.out _ F5.out) ?rest6
  case hy6 => (intro w hSw; (try dsimp only at hSw); (try simp only [List.getElem_toArray, List.getElem_cons_zero, List.getElem_cons_succ]); go_simp; try with_reducible rfl)
  try simp only [List.getElem_toArray, List.getElem_cons_zero, List.getElem_cons_succ, Act.put, List.setIfInBounds_toArray, List.set_cons_zero, List.set_cons_succ]
  refine wpAnyK_take (i := 7) (v := ?v7) rfl (by rfl) (by kernel_rfl) (by kernel_rfl) (by kernel_rfl) (by kernel_rfl) (fun _ _ _ h => h) (Or.inl ⟨by rfl, ?hy7⟩) trivial (SS.out _ F5.out) ?rest7
  case hy7 => (intro w hSw; (try dsimp only at hSw); (try simp only [List.getElem_toArray, List.getElem_cons_zero, List.getElem_cons_succ]); go_simp; try with_reducible rfl)
  try simp only [List.getElem_toArray, List.getElem_cons_zero, List.getElem_cons_succ, Act.put, List.setIfInBounds_toArray, List.set_cons_zero, List.set_cons_succ]
  refine wpAnyK_take0 (i := 8) (v := ?v8) [10, 11, 21, 25] rfl (by rfl) (by kernel_rfl) (by rfl) (by kernel_rfl) (by kernel_rfl) (by kernel_rfl) (by kernel_rfl) (fun _ _ _ h => h) (Or.inl ⟨by rfl, ?hy8⟩) trivial (SS.out _ F5.out) ?rest8
  case hy8 => (intro w hSw; (try dsimp only at hSw); (try simp only [List.getElem_toArray, List.getElem_cons_zero, List.getElem_cons_succ]); go_simp; try with_reducible rfl)
  try simp only [List.getElem_toArray, List.getElem_cons_zero, List.getElem_cons_succ, Act.put, List.setIfInBounds_toArray, List.set_cons_zero, List.set_cons_succ]
  refine wpAnyK_take (i := 9) (v := ?v9) rfl (by rfl) (by kernel_rfl) (by kernel_rfl) (by kernel_rfl) (by kernel_rfl) (fun _ _ _ h => h) (Or.inl ⟨by rfl, ?hy9⟩) trivial (SS.out _ F5.out) ?rest9
  case hy9 => (intro w hSw; (try dsimp only at hSw); (try simp only [List.getElem_toArray, List.getElem_cons_zero, List.getElem_cons_succ]); go_simp; try with_reducible rfl)
  try simp only [List.getElem_toArray, List.getElem_cons_zero, List.getElem_cons_succ, Act.put, List.setIfInBounds_toArray, List.set_cons_zero, List.set_cons_succ]
  refine wpAnyK_take (i := 10) (v := ?v10) rfl (by rfl) (by kernel_rfl) (by kernel_rfl) (by kernel_rfl) (by kernel_rfl) (fun _ _ _ h => h) (Or.inl ⟨by rfl, ?hy10⟩) trivial (SS.out _ F5.out) ?rest10
  case hy10 => (intro w hSw; (try dsimp only at hSw); (try simp only [List.getElem_toArray, List.getElem_cons_zero, List.getElem_cons_succ]); go_simp; try with_reducible rfl)
  try simp only [List.getElem_toArray, List.getElem_cons_zero, List.getElem_cons_succ, Act.put, List.setIfInBounds_toArray, List.set_cons_zero, List.set_cons_succ]
  refine wpAnyK_take (i := 12) (v := ?v11) rfl (by rfl) (by kernel_rfl) (by kernel_rfl) (by kernel_rfl) (by kernel_rfl) (fun _ _ _ h => h) (Or.inl ⟨by rfl, ?hy11⟩) trivial (SS.out _ F5.out) ?rest11
  case hy11 => (intro w hSw; (try dsimp only at hSw); (try simp only [List.getElem_toArray, List.getElem_cons_zero, List.getElem_cons_succ]); go_simp; try with_reducible rfl)
  try simp only [List.getElem_toArray, List.getElem_cons_zero, List.getElem_cons_succ, Act.put, List.setIfInBounds_toArray, List.set_cons_zero, List.set_cons_succ]
  refine wpAnyK_take (i := 13) (v := ?v12) rfl (by rfl) (by kernel_rfl) (by kernel_rfl) (by kernel_rfl) (by kernel_rfl) (fun _ _ _ h => h) (Or.inl ⟨by rfl, ?hy12⟩) trivial (SS.out _ F5.out) ?rest12
  case hy12 => (intro w hSw; (try dsimp only at hSw); (try simp only [List.getElem_toArray, List.getElem_cons_zero, List.getElem_cons_succ]); go_simp; try with_reducible rfl)
  try simp only [List.getElem_toArray, List.getElem_cons_zero, List.getElem_cons_succ, Act.put, List.setIfInBounds_toArray, List.set_cons_zero, List.set_cons_succ]
  refine wpAnyK_take (i := 14) (v := ?v13) rfl (by rfl) (by kernel_rfl) (by kernel_rfl) (by kernel_rfl) (by kernel_rfl) (fun _ _ _ h => h) (Or.inl ⟨by rfl, ?hy13⟩) trivial (SS.out _ F5.out) ?rest13
  case hy13 => (intro w hSw; (try dsimp only at hSw); (try simp only [List.getElem_toArray, List.getElem_cons_zero, List.getElem_cons_succ]); go_simp; try with_reducible rfl)
  try simp only [List.getElem_toArray, List.getElem_cons_zero, List.getElem_cons_succ, Act.put, List.setIfInBounds_toArray, List.set_cons_zero, List.set_cons_succ]
  refine wpAnyK_take (i := 15) (v := ?v14) rfl (by rfl) (by kernel_rfl) (by kernel_rfl) (by kernel_rfl) (by kernel_rfl) (fun _ _ _ h => h) (Or.inl ⟨by rfl, ?hy14⟩) trivial (SS.out _ F5.out) ?rest14
  case hy14 => (intro w hSw; (try dsimp only at hSw); (try simp only [List.getElem_toArray, List.getElem_cons_zero, List.getElem_cons_succ]); go_simp; try with_reducible rfl)
  try simp only [List.getElem_toArray, List.getElem_cons_zero, List.getElem_cons_succ, Act.put, List.setIfInBounds_toArray, List.set_cons_zero, List.set_cons_succ]
  refine wpAnyK_take (i := 16) (v := ?v15) rfl (by rfl) (by kernel_rfl) (by kernel_rfl) (by kernel_rfl) (by kernel_rfl) (fun _ _ _ h => h) (Or.inl ⟨by rfl, ?hy15⟩) trivial (SS.out _ F5.out) ?rest15
  case hy15 => (intro w hSw; (try dsimp only at hSw); (try simp only [List.getElem_toArray, List.getElem_cons_zero, List.getElem_cons_succ]); go_simp; try with_reducible rfl)
  try simp only [List.getElem_toArray, List.getElem_cons_zero, List.getElem_cons_succ, Act.put, List.setIfInBounds_toArray, List.set_cons_zero, List.set_cons_succ]
  refine wpAnyK_take0 (i := 17) (v := ?v16) [20, 21, 25] rfl (by rfl) (by kernel_rfl) (by rfl) (by kernel_rfl) (by kernel_rfl) (by kernel_rfl) (by kernel_rfl) (fun _ _ _ h => h) (Or.inl ⟨by rfl, ?hy16⟩) trivial (SS.out _ F5.out) ?rest16
  case hy16 => (intro w hSw; (try dsimp only at hSw); (try simp only [List.getElem_toArray, List.getElem_cons_zero, List.getElem_cons_succ]); go_simp; try with_reducible rfl)
  try simp only [List.getElem_toArray, List.getElem_cons_zero, List.getElem_cons_succ, Act.put, List.setIfInBounds_toArray, List.set_cons_zero, List.set_cons_succ]
  refine wpAnyK_take (i := 18) (v := ?v17) rfl (by rfl) (by kernel_rfl) (by kernel_rfl) (by kernel_rfl) (by kernel_rfl) (fun _ _ _ h => h) (Or.inl ⟨by rfl, ?hy17⟩) trivial (SS.out _ F5.out) ?rest17
  case hy17 => (intro w hSw; (try dsimp only at hSw); (try simp only [List.getElem_toArray, List.getElem_cons_zero, List.getElem_cons_succ]); go_simp; try with_reducible rfl)
  try simp only [List.getElem_toArray, List.getElem_cons_zero, List.getElem_cons_succ, Act.put, List.setIfInBounds_toArray, List.set_cons_zero, List.set_cons_succ]
  refine wpAnyK_take (i := 19) (v := ?v18) rfl (by rfl) (by kernel_rfl) (by kernel_rfl) (by kernel_rfl) (by kernel_rfl) (fun _ _ _ h => h) (Or.inl ⟨by rfl, ?hy18⟩) trivial (SS.out _ F5.out) ?rest18
  case hy18 => (intro w hSw; (try dsimp only at hSw); (try simp only [List.getElem_toArray, List.getElem_cons_zero, List.getElem_cons_succ]); go_simp; try with_reducible rfl)
  try simp only [List.getElem_toArray, List.getElem_cons_zero, List.getElem_cons_succ, Act.put, List.setIfInBounds_toArray, List.set_cons_zero, List.set_cons_succ]
  refine wpAnyK_take (i := 20) (v := ?v19) rfl (by rfl) (by kernel_rfl) (by kernel_rfl) (by kernel_rfl) (by kernel_rfl) (fun _ _ _ h => h) (Or.inl ⟨by rfl, ?hy19⟩) trivial (SS.out _ F5.out) ?rest19
  case hy19 => (intro w hSw; (try dsimp only at hSw); (try simp only [List.getElem_toArray, List.getElem_cons_zero, List.getElem_cons_succ]); go_simp; try with_reducible rfl)
  try simp only [List.getElem_toArray, List.getElem_cons_zero, List.getElem_cons_succ, Act.put, List.setIfInBounds_toArray, List.set_cons_zero, List.set_cons_succ]
  refine wpAnyK_take (i := 22) (v := ?v20) rfl (by rfl) (by kernel_rfl) (by kernel_rfl) (by kernel_rfl) (by kernel_rfl) (fun _ _ _ h => h) (Or.inl ⟨by rfl, ?hy20⟩) trivial (SS.out _ F5.out) ?rest20
  case hy20 => (intro w hSw; (try dsimp only at hSw); (try simp only [List.getElem_toArray, List.getElem_cons_zero, List.getElem_cons_succ]); go_simp; try with_reducible rfl)
  try simp only [List.getElem_toArray, List.getElem_cons_zero, List.getElem_cons_succ, Act.put, List.setIfInBounds_toArray, List.set_cons_zero, List.set_cons_succ]
  refine wpAnyK_take (i := 23) (v := ?v21) rfl (by rfl) (by kernel_rfl) (by kernel_rfl) (by kernel_rfl) (by kernel_rfl) (fun _ _ _ h => h) (Or.inl ⟨by rfl, ?hy21⟩) trivial (SS.out _ F5.out) ?rest21
  case hy21 => (intro w hSw; (try dsimp only at hSw); (try simp only [List.getElem_toArray, List.getElem_cons_zero, List.getElem_cons_succ]); go_simp; try with_reducible rfl)
  try simp only [List.getElem_toArray, List.getElem_cons_zero, List.getElem_cons_succ, Act.put, List.setIfInBounds_toArray, List.set_cons_zero, List.set_cons_succ]
  refine wpAnyK_ready (rs := [2]) (by kernel_rfl) (by simp) ?_
  refine AllReadyK.cons rfl (fun K hK => ?_) (by kernel_rfl) ?_
  · obtain ⟨W1, hW1⟩ : ∃ W, w.drew.alloc (.cells #[] 112 (0, 0)) = W := ⟨_, rfl⟩
    have F1 : Hid (Fr (fun _ _ => True) w W1) := hW1 ▸ F5.out.alloc _
    obtain ⟨g1, hg1⟩ : ∃ g, w.drew.heap.size = g := ⟨_, rfl⟩
    have E1 : Hid (W1.ownsRow w.heap.size 112 4 (.slice (some ⟨g1, 0, none⟩) 0 0) 0 (([] : List Ho).flatMap encH)) := hW1 ▸ hg1 ▸ World.ownsRow_lit w.drew #[] 0 F5.out.size (by decide) rfl
    (try simp only [List.getElem_toArray, List.getElem_cons_zero, List.getElem_cons_succ])
    go_simp
    try rw [hW1]
    try rw [hg1]
    (try simp only [Act.put, List.setIfInBounds_toArray, List.set_cons_zero, List.set_cons_succ])
    refine hK.out _ _ trivial (fun _ => SS.out _ F1.out) ?_
    clear hK K
    clear hW1 hg1
    refine wpAnyK_ready (rs := [11]) (by kernel_rfl) (by simp) ?_
    refine AllReadyK.cons rfl (fun K hK => ?_) (by kernel_rfl) ?_
    · refine step_append_hos W1 rfl _ _ rfl w.heap.size F1.out.size _ 0 [] rfl E1 _ (xs.take k) rfl (Lib.hid (R1.out _ F1.out)) (xs.take k) (Lib.hid rfl) k TL kB ?_
      intro g2 c3 W2 E2 G2 O2
      have F2 : Hid (Fr (fun _ _ => True) w W2) := F1.out.grown_new G2.out (own_new E1.out)
      (try simp only [Act.put, List.setIfInBounds_toArray, List.set_cons_zero, List.set_cons_succ])
      refine hK.out _ _ trivial (fun _ => SS.out _ F2.out) ?_
      clear hK K
      clear G2 O2
      refine wpAnyK_ready (rs := [21]) (by kernel_rfl) (by simp) ?_
      refine AllReadyK.cons rfl (fun K hK => ?_) (by kernel_rfl) ?_
      · refine step_append_hos W2 rfl _ _ rfl w.heap.size F2.out.size _ k (xs.take k) rfl E2 _ (xs.drop (k + 1)) rfl (Lib.hid (R2.out _ F2.out)) (xs.eraseIdx k) TK lm DL lmB ?_
        intro g9 c9 W9 O9 G9 _
        have F9 : Hid (Fr (fun _ _ => True) w W9) := F2.out.grown_new G9.out (own_new E2.out)
        (try simp only [Act.put, List.setIfInBounds_toArray, List.set_cons_zero, List.set_cons_succ])
        refine hK.out _ _ trivial (fun _ => SS.out _ F9.out) ?_
        clear hK K
        refine wpAnyK_take (i := 24) (v := ?v22) rfl (by rfl) (by kernel_rfl) (by kernel_rfl) (by kernel_rfl) (by kernel_rfl) (fun _ _ _ h => h) (Or.inl ⟨by rfl, ?hy22⟩) trivial (SS.out _ F9.out) ?rest22
        case hy22 => (intro w hSw; (try dsimp only at hSw); (try simp only [List.getElem_toArray, List.getElem_cons_zero, List.getElem_cons_succ]); go_simp; try with_reducible rfl)
        try simp only [List.getElem_toArray, List.getElem_cons_zero, List.getElem_cons_succ, Act.put, List.setIfInBounds_toArray, List.set_cons_zero, List.set_cons_succ]
        refine wpAnyK_ready (rs := [25]) (by kernel_rfl) (by simp) ?_
        refine AllReadyK.cons rfl (fun K hK => ?_) (by kernel_rfl) ?_
        · have z9 := (SZ.out _ F9.out)
          have k9 := (SS.out _ F9.out)
          (try simp only [List.getElem_toArray, List.getElem_cons_zero, List.getElem_cons_succ])
          go_simp
          refine hK.out _ _ trivial (fun h => absurd h (by decide)) ?_
          clear hK K
          refine wpAnyK_done (by kernel_rfl) ?_ _
          obtain ⟨G2, d2, k2⟩ := HPW.out g9 c9 lm W9 LMH.out O9.out F9.out
          obtain ⟨w10, hw10⟩ : ∃ W, W9.setCell ⟨bt, 2 + r, none⟩ (.slice g9 lm c9) = W := ⟨_, rfl⟩
          rw [hw10] at d2 k2 ⊢
          have K2 := Lib.hid k2
          have AC := Lib.hid (ALLC.out w10 G2 d2 (Nat.le_trans HN.out k2.fr.size))
          clear d2 k2 hw10 SS SZ R1 R2 HPW O9 F9 F5 z9 k9 ALLC s1 s2
          go_wp2_with fail
          (with_reducible refine AC.out.mono ?_)
          rintro e w11 ⟨rfl, G3, d3, k3⟩
          have D3 := Lib.hid d3
          have K3 := Lib.hid (K2.out.trans k3)
          clear d3 k3 AC
          go_wp2
          go_ret
          exact ⟨rfl, G3, D3.out, K3.out⟩
        exact AllReadyK.nil
      exact AllReadyK.nil
    exact AllReadyK.nil
  exact AllReadyK.nil
set_option maxRecDepth 100000 in
set_option maxHeartbeats 20000000 in
theorem dcancel_go {n : Nat} {G : Nat → Prop} (w : World) (bt c r k : Nat) (L : Lk) (h : DRE n G w bt L) (hr : rightM c r = 0) (hh : wI (L.rg r).ws c = some k) (hk : k < (L.rg r).ws.length) (hn : n ≤ w.heap.size) :
    Calls Tryz.prog 42 #[.pointer (some ⟨bt, 0, none⟩), .int .i64 (c : Nat), .int .i64 (r : Nat)] w fun e w' => e = .returned (.int .i64 0) ∧ ∃ G', DRE n G' w' bt ((L.put r ⟨(L.rg r).hs, (L.rg r).ws.eraseIdx k⟩).give r) ∧ Kg bt G G' w w' := by
  have RC := Lib.hid (dright_calls w c r)
  rw [hr] at RC
  have hr4 : r < 4 := right_r (c := c) (fun q => q hr)
  have HC := Lib.hid (dwant_calls w bt c r L h hr4)
  rw [wI_idx, hh] at HC
  dsimp only at HC
  obtain ⟨hv, wv, h⟩ := h
  obtain ⟨_, _, _, _, cc⟩ := h.cells w (Fr.refl _ _)
  have hrI : (r : Int) < 4 := by omega
  have ER := h.wr r hr4
  obtain ⟨al, cl, ee, hcl⟩ := ER.form
  rw [ee] at ER
  have n4 := (h.ok.rg r).w4
  have HPW : Hid (∀ g c' m W, ((L.rg r).ws.eraseIdx k).length = m → W.ownsRow w.heap.size 114 2 (.slice g m c') m (((L.rg r).ws.eraseIdx k).flatMap encW) → Fr (fun _ _ => True) w W → ∃ G', DRE n G' (W.setCell ⟨bt, 6 + r, none⟩ (.slice g m c')) bt (L.put r ⟨(L.rg r).hs, (L.rg r).ws.eraseIdx k⟩) ∧ Kg bt G G' w (W.setCell ⟨bt, 6 + r, none⟩ (.slice g m c'))) := fun g c' m W hm o f =>
    h.putW hn f (by rw [hm]; exact o) hr4 ((h.ok.rg r).sub (List.Sublist.refl _) (eraseIdx_sub _ _))
  have SS : Hid (∀ W, Fr (fun _ _ => True) w W → W.cell? ⟨bt, 6 + r, none⟩ = some (.slice al (L.rg r).ws.length cl)) := fun W f => by
    rw [← ee]; exact (((h.cells W f).2.2.2.2 r hr4).2.1)
  have SZ : Hid (∀ W, Fr (fun _ _ => True) w W → W.frozen? ⟨bt, 6 + r, none⟩ = false) := fun W f => ((h.cells W f).2.2.2.2 r hr4).2.2.2
  have HN := Lib.hid hn
  have HR4 := Lib.hid hr4
  obtain ⟨L1, hL1⟩ : ∃ x, L.put r ⟨(L.rg r).hs, (L.rg r).ws.eraseIdx k⟩ = x := ⟨_, rfl⟩
  rw [hL1] at HPW ⊢
  have ALLC : Hid (∀ (w9 : World) (G9 : Nat → Prop), DRE n G9 w9 bt L1 → n ≤ w9.heap.size → Calls Tryz.prog 77 #[.pointer (some ⟨bt, 0, none⟩), .int .i64 (r : Nat)] w9 fun e w' => e = .returned (.tuple #[]) ∧ ∃ G', DRE n G' w' bt (L1.give r) ∧ Kg bt G9 G' w9 w') := fun w9 G9 d hs => dall_calls w9 bt r L1 d HR4.out hs
  obtain ⟨G1, hG1⟩ : ∃ x, L1.give r = x := ⟨_, rfl⟩
  rw [hG1] at ALLC ⊢
  obtain ⟨xs, hxs⟩ : ∃ xs, (L.rg r).ws = xs := ⟨_, rfl⟩
  rw [hxs] at n4 SS HPW ER hcl hk
  obtain ⟨lm, hlm⟩ : ∃ m, (xs.eraseIdx k).length = m := ⟨_, rfl⟩
  have LMH := Lib.hid hlm
  have DL := Lib.hid (drop_len xs k lm hk hlm)
  have TK : Hid (xs.take k ++ xs.drop (k + 1) = xs.eraseIdx k) := (List.eraseIdx_eq_take_drop_succ xs k).symm
  have TL : Hid (0 + (xs.take k).length = k) := by show _ = _; rw [List.length_take]; omega
  have R1 : Hid (∀ W, Fr (fun _ _ => True) w W → RowsAt (fun c _ => G c ∧ c ≠ bt) W (.slice al k cl) 2 encW (xs.take k)) := fun W f => (ER.tt f).takeS (by omega)
  have s1 : ∀ W, (Instr.slice 61 (.slice al xs.length cl) none (some (.int .i64 (k : Nat))) none).run Tryz.prog W = .ok (.slice al k cl) W := fun W => run_sliceS 2 Tryz.underlying61 size_wa W al xs.length cl k .i64 (by omega)
  have s2 : ∀ W, (Instr.slice 61 (.slice al xs.length cl) (some (.int .i64 ((k : Int) + 1))) none none).run Tryz.prog W = .ok (.slice (subS al cl (k + 1) 2) (xs.length - (k + 1)) (cl - (k + 1))) W := fun W => by
    have q := run_sliceF 2 Tryz.underlying61 size_wa W al xs.length cl (k + 1) .i64 (by omega)
    have e : (((k + 1 : Nat)) : Int) = (k : Int) + 1 := by omega
    rw [e] at q
    exact q
  have R2 : Hid (∀ W, Fr (fun _ _ => True) w W → RowsAt (fun c _ => G c ∧ c ≠ bt) W (.slice (subS al cl (k + 1) 2) (xs.length - (k + 1)) (cl - (k + 1))) 2 encW (xs.drop (k + 1))) := fun W f => (ER.tt f).dropS (by omega)
  obtain ⟨a2, ha2⟩ : ∃ x, subS al cl (k + 1) 2 = x := ⟨_, rfl⟩
  obtain ⟨l2, hl2⟩ : ∃ x, xs.length - (k + 1) = x := ⟨_, rfl⟩
  obtain ⟨c2, hc2⟩ : ∃ x, cl - (k + 1) = x := ⟨_, rfl⟩
  rw [ha2, hl2, hc2] at s2 R2
  have kB : k ≤ 1000000 := by omega
  have lmB : lm ≤ 1000000 := by have := DL.out; rw [List.length_drop] at this; omega
  have hwk : IntKind.i64.wrap ((k : Int) + 1) = (k : Int) + 1 := by rw [IntKind.wrap_i64]; omega
  have hk0 : ¬ (k : Int) < 0 := by omega
  obtain ⟨ln, hln⟩ : ∃ x, xs.length = x := ⟨_, rfl⟩
  rw [hln] at s1 s2 SS
  have F5 : Hid (Fr (fun _ _ => True) w w.drew) := (Fr.refl _ _).drew
  clear h cc ER ee hcl hr hh hr4 hn hL1 hG1 hxs hlm n4 hk ha2 hl2 hc2 hln
  go_enter Tryz.func42, Tryz.ntmps42
  go_wp2_with fail
  (with_reducible refine RC.out.mono ?_)
  rintro e w1 ⟨rfl, rfl⟩
  go_wp2_with fail
  (with_reducible refine HC.out.mono ?_)
  rintro e w1 ⟨rfl, rfl⟩
  go_upto_region 7 with fail
  clear RC HC
  refine wp_region_heldK (S1 := fun _ => True) (S0 := fun W => W.cell? ⟨bt, 6 + r, none⟩ = some (.slice al ln cl)) (k := 25) (by kernel_rfl) ?_
  refine wpAnyK_take (i := 0) (v := ?v23) rfl (by rfl) (by kernel_rfl) (by kernel_rfl) (by kernel_rfl) (by kernel_rfl) (fun _ _ _ h => h) (Or.inl ⟨by rfl, ?hy23⟩) trivial (SS.out _ F5.out) ?rest23
  case hy23 => (intro w hSw; (try dsimp only at hSw); (try simp only [List.getElem_toArray, List.getElem_cons_zero, List.getElem_cons_succ]); go_simp; try with_reducible rfl)
  try simp only [List.getElem_toArray, List.getElem_cons_zero, List.getElem_cons_succ, Act.put, List.setIfInBounds_toArray, List.set_cons_zero, List.set_cons_succ]
  refine wpAnyK_take (i := 1) (v := ?v24) rfl (by rfl) (by kernel_rfl) (by kernel_rfl) (by kernel_rfl) (by kernel_rfl) (fun _ _ _ h => h) (Or.inl ⟨by rfl, ?hy24⟩) trivial (SS.out _ F5.out) ?rest24
  case hy24 => (intro w hSw; (try dsimp only at hSw); (try simp only [List.getElem_toArray, List.getElem_cons_zero, List.getElem_cons_succ]); go_simp; try with_reducible rfl)
  try simp only [List.getElem_toArray, List.getElem_cons_zero, List.getElem_cons_succ, Act.put, List.setIfInBounds_toArray, List.set_cons_zero, List.set_cons_succ]
  refine wpAnyK_take (i := 3) (v := ?v25) rfl (by rfl) (by kernel_rfl) (by kernel_rfl) (by kernel_rfl) (by kernel_rfl) (fun _ _ _ h => h) (Or.inl ⟨by rfl, ?hy25⟩) trivial (SS.out _ F5.out) ?rest25
  case hy25 => (intro w hSw; (try dsimp only at hSw); (try simp only [List.getElem_toArray, List.getElem_cons_zero, List.getElem_cons_succ]); go_simp; try with_reducible rfl)
  try simp only [List.getElem_toArray, List.getElem_cons_zero, List.getElem_cons_succ, Act.put, List.setIfInBounds_toArray, List.set_cons_zero, List.set_cons_succ]
  refine wpAnyK_take (i := 4) (v := ?v26) rfl (by rfl) (by kernel_rfl) (by kernel_rfl) (by kernel_rfl) (by kernel_rfl) (fun _ _ _ h => h) (Or.inl ⟨by rfl, ?hy26⟩) trivial (SS.out _ F5.out) ?rest26
  case hy26 => (intro w hSw; (try dsimp only at hSw); (try simp only [List.getElem_toArray, List.getElem_cons_zero, List.getElem_cons_succ]); go_simp; try with_reducible rfl)
  try simp only [List.getElem_toArray, List.getElem_cons_zero, List.getElem_cons_succ, Act.put, List.setIfInBounds_toArray, List.set_cons_zero, List.set_cons_succ]
  refine wpAnyK_take (i := 5) (v := ?v27) rfl (by rfl) (by kernel_rfl) (by kernel_rfl) (by kernel_rfl) (by kernel_rfl) (fun _ _ _ h => h) (Or.inl ⟨by rfl, ?hy27⟩) trivial (SS.out _ F5.out) ?rest27
  case hy27 => (intro w hSw; (try dsimp only at hSw); (try simp only [List.getElem_toArray, List.getElem_cons_zero, List.getElem_cons_succ]); go_simp; try with_reducible rfl)
  try simp only [List.getElem_toArray, List.getElem_cons_zero, List.getElem_cons_succ, Act.put, List.setIfInBounds_toArray, List.set_cons_zero, List.set_cons_succ]
  refine wpAnyK_take (i := 6) (v := ?v28) rfl (by rfl) (by kernel_rfl) (by kernel_rfl) (by kernel_rfl) (by kernel_rfl) (fun _ _ _ h => h) (Or.inl ⟨by rfl, ?hy28⟩) trivial (SS.out _ F5.out) ?rest28
  case hy28 => (intro w hSw; (try dsimp only at hSw); (try simp only [List.getElem_toArray, List.getElem_cons_zero, List.getElem_cons_succ]); go_simp; try with_reducible rfl)
  try simp only [List.getElem_toArray, List.getElem_cons_zero, List.getElem_cons_succ, Act.put, List.setIfInBounds_toArray, List.set_cons_zero, List.set_cons_succ]
  refine wpAnyK_take (i := 7) (v := ?v29) rfl (by rfl) (by kernel_rfl) (by kernel_rfl) (by kernel_rfl) (by kernel_rfl) (fun _ _ _ h => h) (Or.inl ⟨by rfl, ?hy29⟩) trivial (SS.out _ F5.out) ?rest29
  case hy29 => (intro w hSw; (try dsimp only at hSw); (try simp only [List.getElem_toArray, List.getElem_cons_zero, List.getElem_cons_succ]); go_simp; try with_reducible rfl)
  try simp only [List.getElem_toArray, List.getElem_cons_zero, List.getElem_cons_succ, Act.put, List.setIfInBounds_toArray, List.set_cons_zero, List.set_cons_succ]
  refine wpAnyK_take0 (i := 8) (v := ?v30) [10, 11, 21, 25] rfl (by rfl) (by kernel_rfl) (by rfl) (by kernel_rfl) (by kernel_rfl) (by kernel_rfl) (by kernel_rfl) (fun _ _ _ h => h) (Or.inl ⟨by rfl, ?hy30⟩) trivial (SS.out _ F5.out) ?rest30
  case hy30 => (intro w hSw; (try dsimp only at hSw); (try simp only [List.getElem_toArray, List.getElem_cons_zero, List.getElem_cons_succ]); go_simp; try with_reducible rfl)
  try simp only [List.getElem_toArray, List.getElem_cons_zero, List.getElem_cons_succ, Act.put, List.setIfInBounds_toArray, List.set_cons_zero, List.set_cons_succ]
  refine wpAnyK_take (i := 9) (v := ?v31) rfl (by rfl) (by kernel_rfl) (by kernel_rfl) (by kernel_rfl) (by kernel_rfl) (fun _ _ _ h => h) (Or.inl ⟨by rfl, ?hy31⟩) trivial (SS.out _ F5.out) ?rest31
  case hy31 => (intro w hSw; (try dsimp only at hSw); (try simp only [List.getElem_toArray, List.getElem_cons_zero, List.getElem_cons_succ]); go_simp; try with_reducible rfl)
  try simp only [List.getElem_toArray, List.getElem_cons_zero, List.getElem_cons_succ, Act.put, List.setIfInBounds_toArray, List.set_cons_zero, List.set_cons_succ]
  refine wpAnyK_take (i := 10) (v := ?v32) rfl (by rfl) (by kernel_rfl) (by kernel_rfl) (by kernel_rfl) (by kernel_rfl) (fun _ _ _ h => h) (Or.inl ⟨by rfl, ?hy32⟩) trivial (SS.out _ F5.out) ?rest32
  case hy32 => (intro w hSw; (try dsimp only at hSw); (try simp only [List.getElem_toArray, List.getElem_cons_zero, List.getElem_cons_succ]); go_simp; try with_reducible rfl)
  try simp only [List.getElem_toArray, List.getElem_cons_zero, List.getElem_cons_succ, Act.put, List.setIfInBounds_toArray, List.set_cons_zero, List.set_cons_succ]
  refine wpAnyK_take (i := 12) (v := ?v33) rfl (by rfl) (by kernel_rfl) (by kernel_rfl) (by kernel_rfl) (by kernel_rfl) (fun _ _ _ h => h) (Or.inl ⟨by rfl, ?hy33⟩) trivial (SS.out _ F5.out) ?rest33
  case hy33 => (intro w hSw; (try dsimp only at hSw); (try simp only [List.getElem_toArray, List.getElem_cons_zero, List.getElem_cons_succ]); go_simp; try with_reducible rfl)
  try simp only [List.getElem_toArray, List.getElem_cons_zero, List.getElem_cons_succ, Act.put, List.setIfInBounds_toArray, List.set_cons_zero, List.set_cons_succ]
  refine wpAnyK_take (i := 13) (v := ?v34) rfl (by rfl) (by kernel_rfl) (by kernel_rfl) (by kernel_rfl) (by kernel_rfl) (fun _ _ _ h => h) (Or.inl ⟨by rfl, ?hy34⟩) trivial (SS.out _ F5.out) ?rest34
  case hy34 => (intro w hSw; (try dsimp only at hSw); (try simp only [List.getElem_toArray, List.getElem_cons_zero, List.getElem_cons_succ]); go_simp; try with_reducible rfl)
  try simp only [List.getElem_toArray, List.getElem_cons_zero, List.getElem_cons_succ, Act.put, List.setIfInBounds_toArray, List.set_cons_zero, List.set_cons_succ]
  refine wpAnyK_take (i := 14) (v := ?v35) rfl (by rfl) (by kernel_rfl) (by kernel_rfl) (by kernel_rfl) (by kernel_rfl) (fun _ _ _ h => h) (Or.inl ⟨by rfl, ?hy35⟩) trivial (SS.out _ F5.out) ?rest35
  case hy35 => (intro w hSw; (try dsimp only at hSw); (try simp only [List.getElem_toArray, List.getElem_cons_zero, List.getElem_cons_succ]); go_simp; try with_reducible rfl)
  try simp only [List.getElem_toArray, List.getElem_cons_zero, List.getElem_cons_succ, Act.put, List.setIfInBounds_toArray, List.set_cons_zero, List.set_cons_succ]
  refine wpAnyK_take (i := 15) (v := ?v36) rfl (by rfl) (by kernel_rfl) (by kernel_rfl) (by kernel_rfl) (by kernel_rfl) (fun _ _ _ h => h) (Or.inl ⟨by rfl, ?hy36⟩) trivial (SS.out _ F5.out) ?rest36
  case hy36 => (intro w hSw; (try dsimp only at hSw); (try simp only [List.getElem_toArray, List.getElem_cons_zero, List.getElem_cons_succ]); go_simp; try with_reducible rfl)
  try simp only [List.getElem_toArray, List.getElem_cons_zero, List.getElem_cons_succ, Act.put, List.setIfInBounds_toArray, List.set_cons_zero, List.set_cons_succ]
  refine wpAnyK_take (i := 16) (v := ?v37) rfl (by rfl) (by kernel_rfl) (by kernel_rfl) (by kernel_rfl) (by kernel_rfl) (fun _ _ _ h => h) (Or.inl ⟨by rfl, ?hy37⟩) trivial (SS.out _ F5.out) ?rest37
  case hy37 => (intro w hSw; (try dsimp only at hSw); (try simp only [List.getElem_toArray, List.getElem_cons_zero, List.getElem_cons_succ]); go_simp; try with_reducible rfl)
  try simp only [List.getElem_toArray, List.getElem_cons_zero, List.getElem_cons_succ, Act.put, List.setIfInBounds_toArray, List.set_cons_zero, List.set_cons_succ]
  refine wpAnyK_take0 (i := 17) (v := ?v38) [20, 21, 25] rfl (by rfl) (by kernel_rfl) (by rfl) (by kernel_rfl) (by kernel_rfl) (by kernel_rfl) (by kernel_rfl) (fun _ _ _ h => h) (Or.inl ⟨by rfl, ?hy38⟩) trivial (SS.out _ F5.out) ?rest38
  case hy38 => (intro w hSw; (try dsimp only at hSw); (try simp only [List.getElem_toArray, List.getElem_cons_zero, List.getElem_cons_succ]); go_simp; try with_reducible rfl)
  try simp only [List.getElem_toArray, List.getElem_cons_zero, List.getElem_cons_succ, Act.put, List.setIfInBounds_toArray, List.set_cons_zero, List.set_cons_succ]
  refine wpAnyK_take (i := 18) (v := ?v39) rfl (by rfl) (by kernel_rfl) (by kernel_rfl) (by kernel_rfl) (by kernel_rfl) (fun _ _ _ h => h) (Or.inl ⟨by rfl, ?hy39⟩) trivial (SS.out _ F5.out) ?rest39
  case hy39 => (intro w hSw; (try dsimp only at hSw); (try simp only [List.getElem_toArray, List.getElem_cons_zero, List.getElem_cons_succ]); go_simp; try with_reducible rfl)
  try simp only [List.getElem_toArray, List.getElem_cons_zero, List.getElem_cons_succ, Act.put, List.setIfInBounds_toArray, List.set_cons_zero, List.set_cons_succ]
  refine wpAnyK_take (i := 19) (v := ?v40) rfl (by rfl) (by kernel_rfl) (by kernel_rfl) (by kernel_rfl) (by kernel_rfl) (fun _ _ _ h => h) (Or.inl ⟨by rfl, ?hy40⟩) trivial (SS.out _ F5.out) ?rest40
  case hy40 => (intro w hSw; (try dsimp only at hSw); (try simp only [List.getElem_toArray, List.getElem_cons_zero, List.getElem_cons_succ]); go_simp; try with_reducible rfl)
  try simp only [List.getElem_toArray, List.getElem_cons_zero, List.getElem_cons_succ, Act.put, List.setIfInBounds_toArray, List.set_cons_zero, List.set_cons_succ]
  refine wpAnyK_take (i := 20) (v := ?v41) rfl (by rfl) (by kernel_rfl) (by kernel_rfl) (by kernel_rfl) (by kernel_rfl) (fun _ _ _ h => h) (Or.inl ⟨by rfl, ?hy41⟩) trivial (SS.out _ F5.out) ?rest41
  case hy41 => (intro w hSw; (try dsimp only at hSw); (try simp only [List.getElem_toArray, List.getElem_cons_zero, List.getElem_cons_succ]); go_simp; try with_reducible rfl)
  try simp only [List.getElem_toArray, List.getElem_cons_zero, List.getElem_cons_succ, Act.put, List.setIfInBounds_toArray, List.set_cons_zero, List.set_cons_succ]
  refine wpAnyK_take (i := 22) (v := ?v42) rfl (by rfl) (by kernel_rfl) (by kernel_rfl) (by kernel_rfl) (by kernel_rfl) (fun _ _ _ h => h) (Or.inl ⟨by rfl, ?hy42⟩) trivial (SS.out _ F5.out) ?rest42
  case hy42 => (intro w hSw; (try dsimp only at hSw); (try simp only [List.getElem_toArray, List.getElem_cons_zero, List.getElem_cons_succ]); go_simp; try with_reducible rfl)
  try simp only [List.getElem_toArray, List.getElem_cons_zero, List.getElem_cons_succ, Act.put, List.setIfInBounds_toArray, List.set_cons_zero, List.set_cons_succ]
  refine wpAnyK_take (i := 23) (v := ?v43) rfl (by rfl) (by kernel_rfl) (by kernel_rfl) (by kernel_rfl) (by kernel_rfl) (fun _ _ _ h => h) (Or.inl ⟨by rfl, ?hy43⟩) trivial (SS.out _ F5.out) ?rest43
  case hy43 => (intro w hSw; (try dsimp only at hSw); (try simp only [List.getElem_toArray, List.getElem_cons_zero, List.getElem_cons_succ]); go_simp; try with_reducible rfl)
  try simp only [List.getElem_toArray, List.getElem_cons_zero, List.getElem_cons_succ, Act.put, List.setIfInBounds_toArray, List.set_cons_zero, List.set_cons_succ]
  refine wpAnyK_ready (rs := [2]) (by kernel_rfl) (by simp) ?_
  refine AllReadyK.cons rfl (fun K hK => ?_) (by kernel_rfl) ?_
  · obtain ⟨W1, hW1⟩ : ∃ W, w.drew.alloc (.cells #[] 114 (0, 0)) = W := ⟨_, rfl⟩
    have F1 : Hid (Fr (fun _ _ => True) w W1) := hW1 ▸ F5.out.alloc _
    obtain ⟨g1, hg1⟩ : ∃ g, w.drew.heap.size = g := ⟨_, rfl⟩
    have E1 : Hid (W1.ownsRow w.heap.size 114 2 (.slice (some ⟨g1, 0, none⟩) 0 0) 0 (([] : List Wa).flatMap encW)) := hW1 ▸ hg1 ▸ World.ownsRow_lit w.drew #[] 0 F5.out.size (by decide) rfl
    (try simp only [List.getElem_toArray, List.getElem_cons_zero, List.getElem_cons_succ])
    go_simp
    try rw [hW1]
    try rw [hg1]
    (try simp only [Act.put, List.setIfInBounds_toArray, List.set_cons_zero, List.set_cons_succ])
    refine hK.out _ _ trivial (fun _ => SS.out _ F1.out) ?_
    clear hK K
    clear hW1 hg1
    refine wpAnyK_ready (rs := [11]) (by kernel_rfl) (by simp) ?_
    refine AllReadyK.cons rfl (fun K hK => ?_) (by kernel_rfl) ?_
    · refine step_append_was W1 rfl _ _ rfl w.heap.size F1.out.size _ 0 [] rfl E1 _ (xs.take k) rfl (Lib.hid (R1.out _ F1.out)) (xs.take k) (Lib.hid rfl) k TL kB ?_
      intro g2 c3 W2 E2 G2 O2
      have F2 : Hid (Fr (fun _ _ => True) w W2) := F1.out.grown_new G2.out (own_new E1.out)
      (try simp only [Act.put, List.setIfInBounds_toArray, List.set_cons_zero, List.set_cons_succ])
      refine hK.out _ _ trivial (fun _ => SS.out _ F2.out) ?_
      clear hK K
      clear G2 O2
      refine wpAnyK_ready (rs := [21]) (by kernel_rfl) (by simp) ?_
      refine AllReadyK.cons rfl (fun K hK => ?_) (by kernel_rfl) ?_
      · refine step_append_was W2 rfl _ _ rfl w.heap.size F2.out.size _ k (xs.take k) rfl E2 _ (xs.drop (k + 1)) rfl (Lib.hid (R2.out _ F2.out)) (xs.eraseIdx k) TK lm DL lmB ?_
        intro g9 c9 W9 O9 G9 _
        have F9 : Hid (Fr (fun _ _ => True) w W9) := F2.out.grown_new G9.out (own_new E2.out)
        (try simp only [Act.put, List.setIfInBounds_toArray, List.set_cons_zero, List.set_cons_succ])
        refine hK.out _ _ trivial (fun _ => SS.out _ F9.out) ?_
        clear hK K
        refine wpAnyK_take (i := 24) (v := ?v44) rfl (by rfl) (by kernel_rfl) (by kernel_rfl) (by kernel_rfl) (by kernel_rfl) (fun _ _ _ h => h) (Or.inl ⟨by rfl, ?hy44⟩) trivial (SS.out _ F9.out) ?rest44
        case hy44 => (intro w hSw; (try dsimp only at hSw); (try simp only [List.getElem_toArray, List.getElem_cons_zero, List.getElem_cons_succ]); go_simp; try with_reducible rfl)
        try simp only [List.getElem_toArray, List.getElem_cons_zero, List.getElem_cons_succ, Act.put, List.setIfInBounds_toArray, List.set_cons_zero, List.set_cons_succ]
        refine wpAnyK_ready (rs := [25]) (by kernel_rfl) (by simp) ?_
        refine AllReadyK.cons rfl (fun K hK => ?_) (by kernel_rfl) ?_
        · have z9 := (SZ.out _ F9.out)
          have k9 := (SS.out _ F9.out)
          (try simp only [List.getElem_toArray, List.getElem_cons_zero, List.getElem_cons_succ])
          go_simp
          refine hK.out _ _ trivial (fun h => absurd h (by decide)) ?_
          clear hK K
          refine wpAnyK_done (by kernel_rfl) ?_ _
          obtain ⟨G2, d2, k2⟩ := HPW.out g9 c9 lm W9 LMH.out O9.out F9.out
          obtain ⟨w10, hw10⟩ : ∃ W, W9.setCell ⟨bt, 6 + r, none⟩ (.slice g9 lm c9) = W := ⟨_, rfl⟩
          rw [hw10] at d2 k2 ⊢
          have K2 := Lib.hid k2
          have AC := Lib.hid (ALLC.out w10 G2 d2 (Nat.le_trans HN.out k2.fr.size))
          clear d2 k2 hw10 SS SZ R1 R2 HPW O9 F9 F5 z9 k9 ALLC s1 s2
          go_wp2_with fail
          (with_reducible refine AC.out.mono ?_)
          rintro e w11 ⟨rfl, G3, d3, k3⟩
          have D3 := Lib.hid d3
          have K3 := Lib.hid (K2.out.trans k3)
          clear d3 k3 AC
          go_wp2
          go_ret
          exact ⟨rfl, G3, D3.out, K3.out⟩
        exact AllReadyK.nil
      exact AllReadyK.nil
    exact AllReadyK.nil
  exact AllReadyK.nil
set_option maxRecDepth 100000 in
theorem drelease_bad {n : Nat} {G : Nat → Prop} (w : World) (bt c r t : Nat) (L : Lk) (h : DRE n G w bt L) (hh : (heldM L c r t).2 ≠ 0) :
    Calls Tryz.prog 40 #[.pointer (some ⟨bt, 0, none⟩), .int .i64 (c : Nat), .int .i64 (r : Nat), .int .u64 (t : Nat)] w fun e w' => e = .returned (.int .i64 ((heldM L c r t).2 : Nat)) ∧ w = w' := by
  have HC := Lib.hid (dheld_calls w bt c r t L h)
  have hne : (((heldM L c r t).2 : Int) != 0) = true := by simp; omega
  generalize (heldM L c r t).2 = e0 at HC hne ⊢
  generalize (heldM L c r t).1 = k0 at HC
  clear h hh
  go_enter Tryz.func40, Tryz.ntmps40
  go_wp2_with fail
  (with_reducible refine HC.out.mono ?_)
  rintro e w1 ⟨rfl, rfl⟩
  go_wp2
  go_ret
  exact ⟨rfl, rfl⟩
/-- Release. -/
theorem drelease_calls {n : Nat} {G : Nat → Prop} (w : World) (bt c r t : Nat) (L : Lk) (h : DRE n G w bt L) (hn : n ≤ w.heap.size) :
    Calls Tryz.prog 40 #[.pointer (some ⟨bt, 0, none⟩), .int .i64 (c : Nat), .int .i64 (r : Nat), .int .u64 (t : Nat)] w fun e w' => e = .returned (.int .i64 ((releaseM L c r t).1 : Nat)) ∧ ∃ G', DRE n G' w' bt (releaseM L c r t).2 ∧ Kg bt G G' w w' := by
  unfold releaseM
  by_cases hh : (heldM L c r t).2 = 0
  · rw [if_neg (fun q => q hh)]
    obtain ⟨hr, hk⟩ := heldM_ok hh
    exact drelease_go w bt c r t _ L h hr (Prod.ext rfl hh) hk hn
  · rw [if_pos hh]
    refine (drelease_bad w bt c r t L h hh).mono ?_
    rintro _ w1 ⟨rfl, rfl⟩
    exact ⟨rfl, G, h, Kg.refl G w⟩
set_option maxRecDepth 100000 in
theorem dcancel_bad (w : World) (bt c r : Nat) (hr : rightM c r ≠ 0) :
    Calls Tryz.prog 42 #[.pointer (some ⟨bt, 0, none⟩), .int .i64 (c : Nat), .int .i64 (r : Nat)] w fun e w' => e = .returned (.int .i64 (rightM c r : Nat)) ∧ w = w' := by
  have RC := Lib.hid (dright_calls w c r)
  have hne : ((rightM c r : Int) != 0) = true := by simp; omega
  generalize rightM c r = e0 at RC hne ⊢
  clear hr
  go_enter Tryz.func42, Tryz.ntmps42
  go_wp2_with fail
  (with_reducible refine RC.out.mono ?_)
  rintro e w1 ⟨rfl, rfl⟩
  go_wp2
  go_ret
  exact ⟨rfl, rfl⟩
set_option maxRecDepth 100000 in
theorem dcancel_none {n : Nat} {G : Nat → Prop} (w : World) (bt c r : Nat) (L : Lk) (h : DRE n G w bt L) (hr : rightM c r = 0) (hj : wI (L.rg r).ws c = none) :
    Calls Tryz.prog 42 #[.pointer (some ⟨bt, 0, none⟩), .int .i64 (c : Nat), .int .i64 (r : Nat)] w fun e w' => e = .returned (.int .i64 41) ∧ w = w' := by
  have RC := Lib.hid (dright_calls w c r)
  rw [hr] at RC
  have hr4 : r < 4 := right_r (c := c) (fun q => q hr)
  have HC := Lib.hid (dwant_calls w bt c r L h hr4)
  rw [wI_idx, hj] at HC
  dsimp only at HC
  clear hr hj hr4 h
  go_enter Tryz.func42, Tryz.ntmps42
  go_wp2_with fail
  (with_reducible refine RC.out.mono ?_)
  rintro e w1 ⟨rfl, rfl⟩
  go_wp2_with fail
  (with_reducible refine HC.out.mono ?_)
  rintro e w1 ⟨rfl, rfl⟩
  go_wp2
  go_ret
  exact ⟨rfl, rfl⟩
/-- Cancel. -/
theorem dcancel_calls {n : Nat} {G : Nat → Prop} (w : World) (bt c r : Nat) (L : Lk) (h : DRE n G w bt L) (hn : n ≤ w.heap.size) :
    Calls Tryz.prog 42 #[.pointer (some ⟨bt, 0, none⟩), .int .i64 (c : Nat), .int .i64 (r : Nat)] w fun e w' => e = .returned (.int .i64 ((cancelM L c r).1 : Nat)) ∧ ∃ G', DRE n G' w' bt (cancelM L c r).2 ∧ Kg bt G G' w w' := by
  unfold cancelM
  by_cases hr : rightM c r = 0
  · rw [if_neg (fun q => q hr)]
    cases hj : wI (L.rg r).ws c with
    | some k => exact dcancel_go w bt c r k L h hr hj (wI_some hj).1 hn
    | none =>
      refine (dcancel_none w bt c r L h hr hj).mono ?_
      rintro _ w1 ⟨rfl, rfl⟩
      exact ⟨rfl, G, h, Kg.refl G w⟩
  · rw [if_pos hr]
    refine (dcancel_bad w bt c r hr).mono ?_
    rintro _ w1 ⟨rfl, rfl⟩
    exact ⟨rfl, G, h, Kg.refl G w⟩
end Go.Proofs.YtlolfcnfcgegdaaGreat
/- The document's locks: Renew. -/
namespace Go.Proofs.YtlolfcnfcgegdaaGreat
open Go.RowKit
set_option linter.unusedVariables false
set_option linter.unusedSimpArgs false

/-- An append of a list of holds. -/
theorem wpList_append_hos {K0 : Nat → Obj → Prop} {ops : Array Oper} {rest : List Oper} {o : Oper} {a : Act} {Q : Exit → Act → World → Prop} (W : World) (hgd : o.guard = none) (s x : Operand)
    (ho : o.op = .call { callee := .builtin .append, args := #[s, x], argTypes := #[60, 60] }) (B : Nat) (hB : B ≤ W.heap.size) (v : Value) (n : Nat) (T : List Ho) (hs : a.eval s = v) (hown : Hid (W.ownsRow B 112 4 v n (T.flatMap encH)))
    (vx : Value) (ys : List Ho) (hx : a.eval x = vx) (hvx : Hid (RowsAt K0 W vx 4 encH ys)) (R : List Ho) (hR : Hid (T ++ ys = R)) (N : Nat) (hN : Hid (n + ys.length = N)) (hn : N ≤ 1000000)
    (h : ∀ g c w', Hid (w'.ownsRow B 112 4 (.slice g N c) N (R.flatMap encH)) → Hid (W.grownBy w' v.ownBlock) → Hid (OwnNext W v (.slice g N c)) → wpList Tryz.prog ops Q rest (a.put o.dst (.slice g N c)) w') :
    wpList Tryz.prog ops Q (o :: rest) a W := by
  obtain ⟨i0, hi, hz0, hz1, hz2⟩ := info_parts info_ho
  exact wpList_plain hgd fun _ hK => wp_append_rows W s x 60 112 ho B hB i0 _ 4 32 Tryz.underlying60 hi hz0 hz1 hz2 rfl (by decide) (by decide) encH_len encH_one v n T hs hown.out vx ys hx hvx.out R hR.out N hN.out hn fun g c w' h1 h2 h3 => hK _ _ (h g c w' h1 h2 h3)
theorem own_slot {w : World} {B : Nat} {t : TypeId} {g : Option Addr} {n c : Nat} {xs : List Value} {sz : Nat} (h : w.ownsRow B t sz (.slice g n c) n xs) (hn : 0 < n) : ∃ b cur, g = some ⟨b, 0, none⟩ ∧ B ≤ b ∧ w.heap[b]? = some (.cells cur t (0, 0)) := by
  rcases h.2 with ⟨e, h0⟩ | ⟨b, cap, cur, e, hb, hg, _⟩
  · cases e; omega
  · cases e; exact ⟨b, cur, rfl, hb, hg⟩
set_option maxRecDepth 100000 in
set_option maxHeartbeats 4000000 in
theorem drenew_go {n : Nat} {G : Nat → Prop} (w : World) (bt c r t k : Nat) (L : Lk) (h : DRE n G w bt L) (hr : rightM c r = 0) (hh : heldM L c r t = (k, 0)) (hk : k < (L.rg r).hs.length) (hn : n ≤ w.heap.size) :
    Calls Tryz.prog 41 #[.pointer (some ⟨bt, 0, none⟩), .int .i64 (c : Nat), .int .i64 (r : Nat), .int .u64 (t : Nat)] w fun e w' => e = .returned (.tuple #[.int .u64 (untilM L.now : Nat), .int .i64 0]) ∧ ∃ G', DRE n G' w' bt (L.put r ⟨(L.rg r).hs.modify k fun h => { h with u := untilM L.now }, (L.rg r).ws⟩) ∧ Kg bt G G' w w' := by
  have HC := Lib.hid (dheld_calls w bt c r t L h)
  rw [hh] at HC
  dsimp only at HC
  have hr4 : r < 4 := right_r (c := c) (fun q => q hr)
  obtain ⟨hv, wv, h⟩ := h
  have hlr : r < L.rs.length := by rw [h.ok.four]; exact hr4
  have hok : Rgn.ok ⟨(L.rg r).hs.modify k fun h => { h with u := untilM L.now }, (L.rg r).ws⟩ := by
    have q := (h.ok.renew c r t).rg r
    unfold renewM at q
    rw [hh] at q
    dsimp only at q
    rw [if_neg (fun q => q rfl)] at q
    dsimp only at q
    rw [put_rg hlr, if_pos rfl] at q
    exact q
  have hrI : (r : Int) < 4 := by omega
  have ER := h.hr r hr4
  obtain ⟨al, cl, ee, _⟩ := ER.form
  rw [ee] at ER
  have n4 := (h.ok.rg r).h4
  have hnow := h.ok.now
  have HB := lt_of_some h.top
  obtain ⟨u, hu⟩ : ∃ u, untilM L.now = u := ⟨_, rfl⟩
  rw [hu] at hok ⊢
  have HPW : Hid (∀ v W, W.ownsRow w.heap.size 112 4 v (L.rg r).hs.length (((L.rg r).hs.modify k fun h => { h with u := u }).flatMap encH) → Fr (fun _ _ => True) w W → ∃ G', DRE n G' (W.setCell ⟨bt, 2 + r, none⟩ v) bt (L.put r ⟨(L.rg r).hs.modify k fun h => { h with u := u }, (L.rg r).ws⟩) ∧ Kg bt G G' w (W.setCell ⟨bt, 2 + r, none⟩ v)) := fun v W o f =>
    h.putH hn f (by rw [List.length_modify]; exact o) hr4 hok
  obtain ⟨L1, hL1⟩ : ∃ x, L.put r ⟨(L.rg r).hs.modify k fun h => { h with u := u }, (L.rg r).ws⟩ = x := ⟨_, rfl⟩
  rw [hL1] at HPW ⊢
  have CC : Hid (∀ W, Fr (fun _ _ => True) w W → W.cell? ⟨bt, 0, none⟩ = some (.int .u64 (L.now : Nat)) ∧ W.cell? ⟨bt, 2 + r, none⟩ = some (.slice al (L.rg r).hs.length cl) ∧ W.frozen? ⟨bt, 2 + r, none⟩ = false) := fun W f => by
    obtain ⟨q0, _, _, _, cc⟩ := h.cells W f
    exact ⟨q0, by rw [← ee]; exact (cc r hr4).1, (cc r hr4).2.2.1⟩
  have HM := Lib.hid (fun u => modify_flat (u := u) hk)
  generalize (L.rg r).hs = xs at *
  obtain ⟨ln, hln⟩ : ∃ x, xs.length = x := ⟨_, rfl⟩
  obtain ⟨now, hnowE⟩ : ∃ x, L.now = x := ⟨_, rfl⟩
  rw [hln] at CC HPW ER hk n4
  rw [hnowE] at CC hnow hu
  have LN := Lib.hid hln
  have UE := Lib.hid hu
  have HNOW := Lib.hid hnow
  have HBT := Lib.hid HB
  have HK := Lib.hid hk
  have RH := Lib.hid ER
  have hkI : (k : Int) < ln := by omega
  have hk0 : (0 : Int) ≤ (k : Int) := by omega
  have lnB : ln ≤ 1000000 := by omega
  have k1 : (w.alloc (.cells #[] 112 (0, 0))).cell? ⟨bt, 2 + r, none⟩ = some (.slice al ln cl) := (CC.out _ ((Fr.refl _ _).alloc _)).2.1
  have E1 : Hid ((w.alloc (.cells #[] 112 (0, 0))).ownsRow w.heap.size 112 4 (.slice (some ⟨w.heap.size, 0, none⟩) 0 0) 0 (([] : List Ho).flatMap encH)) := World.ownsRow_lit w #[] 0 (Nat.le_refl _) (by decide) rfl
  have F1 : Hid (Fr (fun _ _ => True) w (w.alloc (.cells #[] 112 (0, 0)))) := (Fr.refl _ _).alloc _
  clear h ER ee hr hh hr4 hn hL1 hlr hok HB hln hnowE hu hnow hk
  go_enter Tryz.func41, Tryz.ntmps41
  go_wp2_with fail
  (with_reducible refine HC.out.mono ?_)
  rintro e w1 ⟨rfl, rfl⟩
  clear HC
  go_wp2_with (at_builtin; refine wpList_append_hos (w.alloc (.cells #[] 112 (0, 0))) rfl _ _ rfl w.heap.size F1.out.size _ 0 [] rfl E1 _ xs rfl (Lib.hid (RH.out.tt F1.out)) xs (Lib.hid rfl) ln (Lib.hid ((Nat.zero_add _).trans LN.out)) lnB ?_)
  intro g2 c2 W2 E2 G2 O2
  have F2 : Hid (Fr (fun _ _ => True) w W2) := F1.out.grown_new G2.out (own_new E1.out)
  obtain ⟨g, cur, rfl, hgB, hgc⟩ := own_slot E2.out (by omega)
  have OR := rows_own (w := W2) (B := w.heap.size) (e := 112) (v := .slice (some ⟨g, 0, none⟩) xs.length c2) (xs := xs) (by rw [LN.out]; exact E2.out) encH_len
  obtain ⟨b, off, o, hbo, _, _, hcl⟩ := OR.spot (by rw [LN.out]; omega)
  cases hbo
  have hcs := RowsAt.h4 (K := fun _ _ => True) hcl k (by rw [LN.out]; exact HK.out)
  have c3 := hcs.2.2.2
  rw [Nat.zero_add] at c3
  have z3 : W2.frozen? ⟨g, k * 4 + 3, none⟩ = false := frozen_mk hgc
  have U2 := Lib.hid (duntil_calls W2 bt now (CC.out W2 F2.out).1 HNOW.out)
  rw [UE.out] at U2
  have hne : g ≠ bt := by have := HBT.out; omega
  obtain ⟨W3, hW3⟩ : ∃ W, W2.setCell ⟨g, k * 4 + 3, none⟩ (.int .u64 (u : Nat)) = W := ⟨_, rfl⟩
  have F3 : Hid (Fr (fun _ _ => True) w W3) := hW3 ▸ Fr.within ((F2.out.mono fun _ _ _ => trivial).setCell (fun _ _ h => Nat.lt_irrefl _ (Nat.lt_of_lt_of_le h.2 hgB)) _)
  have E3 : Hid (W3.ownsRow w.heap.size 112 4 (.slice (some ⟨g, 0, none⟩) ln c2) ln ((xs.modify k fun h => { h with u := u }).flatMap encH)) := by
    rw [HM.out u, ← hW3]
    exact own_setCell E2.out _ _
  have T3 : Hid (W3.heap[g]? = some (.cells (cur.setIfInBounds (k * 4 + 3) (.int .u64 (u : Nat))) 112 (0, 0))) := hW3 ▸ heap_setCell_same hgc _
  have q3 : W3.cell? ⟨g, k * 4 + 3, none⟩ = some (.int .u64 (u : Nat)) := by
    rw [← hW3]
    have hlt : k * 4 + 3 < cur.size := by
      have := c3
      simp only [World.cell?, hgc] at this
      by_cases q : k * 4 + 3 < cur.size
      · exact q
      · rw [Array.getElem?_eq_none (by omega)] at this; cases this
    exact cell_mk (heap_setCell_same hgc _) (Array.getElem?_setIfInBounds_self_of_lt hlt)
  obtain ⟨_, d3, f3⟩ := CC.out W3 F3.out
  have q4 : (W3.setCell ⟨bt, 2 + r, none⟩ (.slice (some ⟨g, 0, none⟩) ln c2)).cell? ⟨g, k * 4 + 3, none⟩ = some (.int .u64 (u : Nat)) := by
    have f : Fr (fun c _ => c ≠ bt) W3 (W3.setCell ⟨bt, 2 + r, none⟩ (.slice (some ⟨g, 0, none⟩) ln c2)) := (Fr.refl _ _).setCell (fun _ _ h => h rfl) _
    exact f.cell (fun _ _ => hne) q3
  clear G2 O2 OR hcl hcs F1 E1 k1 E2 F2
  go_wp2_with fail
  (with_reducible refine U2.out.mono ?_)
  rintro e w1 ⟨rfl, rfl⟩
  clear U2
  go_wp2
  go_ret2
  try rw [hW3]
  exact ⟨rfl, HPW.out _ _ E3.out F3.out⟩
set_option maxRecDepth 100000 in
theorem drenew_bad {n : Nat} {G : Nat → Prop} (w : World) (bt c r t : Nat) (L : Lk) (h : DRE n G w bt L) (hh : (heldM L c r t).2 ≠ 0) :
    Calls Tryz.prog 41 #[.pointer (some ⟨bt, 0, none⟩), .int .i64 (c : Nat), .int .i64 (r : Nat), .int .u64 (t : Nat)] w fun e w' => e = .returned (.tuple #[.int .u64 0, .int .i64 ((heldM L c r t).2 : Nat)]) ∧ w = w' := by
  have HC := Lib.hid (dheld_calls w bt c r t L h)
  have hne : (((heldM L c r t).2 : Int) != 0) = true := by simp; omega
  generalize (heldM L c r t).2 = e0 at HC hne ⊢
  generalize (heldM L c r t).1 = k0 at HC
  clear h hh
  go_enter Tryz.func41, Tryz.ntmps41
  go_wp2_with fail
  (with_reducible refine HC.out.mono ?_)
  rintro e w1 ⟨rfl, rfl⟩
  go_wp2
  go_ret2
  exact ⟨rfl, rfl⟩
/-- Renew. -/
theorem drenew_calls {n : Nat} {G : Nat → Prop} (w : World) (bt c r t : Nat) (L : Lk) (h : DRE n G w bt L) (hn : n ≤ w.heap.size) :
    Calls Tryz.prog 41 #[.pointer (some ⟨bt, 0, none⟩), .int .i64 (c : Nat), .int .i64 (r : Nat), .int .u64 (t : Nat)] w fun e w' => e = .returned (.tuple #[.int .u64 ((renewM L c r t).1.1 : Nat), .int .i64 ((renewM L c r t).1.2 : Nat)]) ∧ ∃ G', DRE n G' w' bt (renewM L c r t).2 ∧ Kg bt G G' w w' := by
  unfold renewM
  by_cases hh : (heldM L c r t).2 = 0
  · rw [if_neg (fun q => q hh)]
    obtain ⟨hr, hk⟩ := heldM_ok hh
    exact drenew_go w bt c r t _ L h hr (Prod.ext rfl hh) hk hn
  · rw [if_pos hh]
    refine (drenew_bad w bt c r t L h hh).mono ?_
    rintro _ w1 ⟨rfl, rfl⟩
    exact ⟨rfl, G, h, Kg.refl G w⟩
end Go.Proofs.YtlolfcnfcgegdaaGreat
