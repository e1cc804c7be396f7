/- Texts of the proofs, part 7: what the functions that they reach do, walked; no conditions beyond those that each states. -/
import Derived.Test.YtpecpanmdjpoiaaZz7eea7a740d
set_option linter.unusedVariables false
set_option linter.unusedSimpArgs false
/- The document's at, Agrees and Reached. -/
namespace Go.Proofs.Ytpecpanmdjpoiaa
open Go.RowKit
set_option linter.unusedVariables false
set_option linter.unusedSimpArgs false

set_option maxRecDepth 100000 in
theorem at_calls {K : Nat → Obj → Prop} (w : World) (vm : Value) (ms : List Int) (p : Nat) (hq : NumsAt .u64 K w vm ms) (hm : ms.length ≤ maxLen) (hp : p ≤ 15) :
    Calls Try.prog 29 #[vm, .int .i64 (p : Nat)] w fun e w' => e = .returned (.int .u64 (atU ms (p : Nat))) ∧ w = w' := by
  obtain ⟨am, cm, rfl⟩ := hq.form
  unfold maxLen at hm
  by_cases h : p < ms.length
  · obtain ⟨bm, om, rfl⟩ := hq.addr (by omega)
    have g := hq.cell h
    have ea : atU ms (p : Int) = ms[p] := by unfold atU; rw [if_pos (by omega)]; simp [h]
    have HE := Lib.hid ea
    generalize ms[p] = y at g HE
    clear ea hq
    generalize ms.length = M at *
    go_enter Try.func29, Try.ntmps29
    go_wp2
    go_ret
    exact ⟨by rw [HE.out]; rfl, rfl⟩
  · have ea : atU ms (p : Int) = 0 := by unfold atU; rw [if_neg (by omega)]
    have HE := Lib.hid ea
    clear ea hq
    generalize ms.length = M at *
    go_enter Try.func29, Try.ntmps29
    go_wp2
    go_ret
    exact ⟨by rw [HE.out]; rfl, rfl⟩

set_option maxRecDepth 100000 in
set_option maxHeartbeats 1000000 in
theorem ragrees_calls {K K' : Nat → Obj → Prop} (w : World) (b off c : Nat) (vy : Value) (zs ys : List Int) (h : IntsAt K w (.slice (some ⟨b, off, none⟩) zs.length c) zs) (hy : IntsAt K' w vy ys) (h16 : zs.length ≤ 16) (hym : ys.length ≤ maxLen) :
    Calls Try.prog 18 #[.slice (some ⟨b, off, none⟩) zs.length c, vy] w fun e w' => e = .returned (.bool (agrI zs ys)) ∧ w = w' := by
  have H := Lib.hid h
  have HH : Hid (∀ x, Calls Try.prog 25 #[vy, .int .i64 x] w fun e w' => e = .returned (.bool (hasI ys x)) ∧ w = w') := fun x => has_calls w vy ys x hy hym
  have HM := Lib.hid (rmaj_calls w (some ⟨b, off, none⟩) zs.length c (by omega))
  have HE : Hid (∀ k, k = zs.length → agrI zs ys = decide (majI zs.length ≤ (cntI (zs.take k) ys : Int))) := fun k hk => by subst hk; rw [List.take_length]; rfl
  have HL : Hid (∀ k, cntI (zs.take k) ys ≤ 16) := fun k => by
    have := List.countP_le_length (p := fun x => hasI ys x) (l := zs.take k)
    rw [List.length_take] at this
    unfold cntI; omega
  obtain ⟨N, hN⟩ : ∃ N, N = zs.length := ⟨_, rfl⟩
  have HN := Lib.hid hN
  rw [← hN] at h16 HM HE ⊢
  clear h hN hy hym
  generalize majI N = mj at *
  go_enter Try.func18, Try.ntmps18
  go_wp2_with fail
  go_loop [5, 6, 7] (fun n i _ => ∃ k : Nat, k ≤ N ∧ i = .int .i64 k ∧ n = .int .i64 (cntI (zs.take k) ys : Nat)) (fun _ i _ => N - (intOf i).toNat)
  case atStart => exact ⟨0, Nat.zero_le _, rfl, rfl⟩
  case round =>
    obtain ⟨k, hk, rfl, rfl⟩ := hrel
    have hc16 := HL.out k
    by_cases hlt : k < N
    · have l1 : k < zs.length := by rw [← HN.out]; exact hlt
      have g1 := H.out.cell l1
      have HC := Lib.hid (cntI_take zs ys k l1)
      generalize hu : zs[k] = u at g1 HC
      clear hu l1
      have K7 := HH.out u
      generalize hv : hasI ys u = bb at HC K7
      generalize hw : cntI (zs.take k) ys = cc at *
      clear hv hw
      go_wp2_with fail
      with_reducible refine K7.mono ?_
      rintro e1 w6 ⟨rfl, rfl⟩
      clear K7
      cases bb <;>
      · go_wp2
        go_round
        case rel => exact ⟨k + 1, by omega, by go_num, by rw [HC.out]; simp⟩
        case measure => simp [intOf]; omega
    · obtain rfl : k = N := by omega
      have HE2 := Lib.hid (HE.out k rfl)
      generalize hw : cntI (zs.take k) ys = cc at *
      clear hw
      go_wp2_with fail
      with_reducible refine HM.out.mono ?_
      rintro e1 w6 ⟨rfl, rfl⟩
      go_wp2
      go_ret
      exact ⟨by rw [HE2.out]; rfl, rfl⟩

theorem reachL_get (zs ms : List Int) (k : Nat) (hk : k < zs.length) (h : k < (reachL zs ms zs.length).length) : (reachL zs ms zs.length)[k] = atU ms zs[k] := by
  unfold reachL
  simp [List.getElem_map]
def cntG (l : List Int) (m : Int) (k : Nat) : Nat := (l.take k).countP fun x => decide (m ≤ x)
theorem cntG_succ (l : List Int) (m : Int) (k : Nat) (hk : k < l.length) : cntG l m (k + 1) = cntG l m k + (decide (m ≤ l[k])).toNat := by
  unfold cntG
  rw [List.take_succ_eq_append_getElem hk, List.countP_append, List.countP_singleton]
  cases decide (m ≤ l[k]) <;> rfl
theorem cntG_le (l : List Int) (m : Int) (k : Nat) : cntG l m k ≤ k := by
  have := List.countP_le_length (p := fun x => decide (m ≤ x)) (l := l.take k)
  rw [List.length_take] at this
  unfold cntG; omega

set_option maxRecDepth 100000 in
set_option maxHeartbeats 2000000 in
theorem rreached_calls {K K' : Nat → Obj → Prop} (w : World) (b off c : Nat) (vm : Value) (zs ms : List Int) (h : IntsAt K w (.slice (some ⟨b, off, none⟩) zs.length c) zs) (hq : NumsAt .u64 K' w vm ms) (hm : ms.length ≤ maxLen) (h16 : zs.length ≤ 16) (hp : ∀ x ∈ zs, 0 ≤ x ∧ x ≤ 15) :
    Calls Try.prog 19 #[.slice (some ⟨b, off, none⟩) zs.length c, vm] w fun e w' => e = .returned (.int .u64 (bestK (reachL zs ms zs.length) zs.length)) ∧ w = w' := by
  have H := Lib.hid h
  have HP := Lib.hid hp
  have HA : Hid (∀ x : Int, 0 ≤ x → x ≤ 15 → Calls Try.prog 29 #[vm, .int .i64 x] w fun e w' => e = .returned (.int .u64 (atU ms x)) ∧ w = w') := fun x h0 h1 => by
    obtain ⟨p, rfl⟩ := Int.eq_ofNat_of_zero_le h0
    exact at_calls w vm ms p hq hm (by omega)
  have HM := Lib.hid (rmaj_calls w (some ⟨b, off, none⟩) zs.length c (by omega))
  have HG : Hid (∀ k, (hk : k < zs.length) → ∃ hk2 : k < (reachL zs ms zs.length).length, (reachL zs ms zs.length)[k] = atU ms zs[k]) := fun k hk =>
    ⟨by rw [reachL_len _ _ _ (Nat.le_refl _)]; exact hk, reachL_get zs ms k hk _⟩
  have HLL := Lib.hid (reachL_len zs ms zs.length (Nat.le_refl _))
  obtain ⟨N, hN⟩ : ∃ N, N = zs.length := ⟨_, rfl⟩
  have HN := Lib.hid hN
  generalize reachL zs ms zs.length = L at *
  have HG : Hid (∀ k, (hk : k < zs.length) → ∃ hk2 : k < L.length, L[k] = atU ms zs[k]) := HG
  rw [← hN] at h16 HM HLL ⊢
  clear h hN hq hm hp
  obtain ⟨mj, hmj⟩ : ∃ mj, mj = N / 2 + 1 := ⟨_, rfl⟩
  have HMJ := Lib.hid hmj
  have e0 : majI N = (mj : Nat) := by unfold majI; omega
  rw [e0] at HM
  clear hmj e0
  go_enter Try.func19, Try.ntmps19
  go_wp2_with fail
  go_loop [5, 6, 7, 8, 9] (fun n i _ _ _ => ∃ k : Nat, k ≤ N ∧ i = .int .i64 k ∧ n = .int .u64 (bestK L k)) (fun _ i _ _ _ => N - (intOf i).toNat)
  case atStart => exact ⟨0, Nat.zero_le _, rfl, rfl⟩
  case round =>
    obtain ⟨k, hk, rfl, rfl⟩ := hrel
    by_cases hlt : k < N
    · have l1 : k < zs.length := by rw [← HN.out]; exact hlt
      have g1 := H.out.cell l1
      obtain ⟨l2, e2⟩ := HG.out k l1
      have p1 := HP.out _ (List.getElem_mem l1)
      have K1 := Lib.hid (HA.out _ p1.1 p1.2)
      have HB := Lib.hid (bestK_succ L k l2)
      rw [e2] at HB
      generalize atU ms zs[k] = m at *
      generalize zs[k] = u at *
      generalize bestK L k = bk at *
      have HB2 : Hid (bestK L (k + 1) = if mj ≤ cntG L m N ∧ bk < m then m else bk) := by
        rw [HB.out, HLL.out, ← HMJ.out, show cntG L m N = L.countP fun x => decide (m ≤ x) from by unfold cntG; rw [← HLL.out, List.take_length]]; exact rfl
      clear e2 p1 HB l1 l2
      go_wp2_with fail
      with_reducible refine K1.out.mono ?_
      rintro e1 w6 ⟨rfl, rfl⟩
      clear K1
      go_wp2_with fail
      go_loop [8, 9] (fun n i => ∃ j : Nat, j ≤ N ∧ i = .int .i64 j ∧ n = .int .i64 (cntG L m j : Nat)) (fun _ i => N - (intOf i).toNat)
      case atStart => exact ⟨0, Nat.zero_le _, rfl, rfl⟩
      case round =>
        obtain ⟨j, hj, rfl, rfl⟩ := hrel
        have hc16 := cntG_le L m j
        by_cases hlt2 : j < N
        · have l1 : j < zs.length := by rw [← HN.out]; exact hlt2
          have g2 := H.out.cell l1
          obtain ⟨l2, e2⟩ := HG.out j l1
          have p1 := HP.out _ (List.getElem_mem l1)
          have K1 := Lib.hid (HA.out _ p1.1 p1.2)
          have HC := Lib.hid (cntG_succ L m j l2)
          rw [e2] at HC
          generalize atU ms zs[j] = y at *
          generalize zs[j] = z at *
          generalize cntG L m j = cc at *
          clear e2 p1 l1 l2
          go_wp2_with fail
          with_reducible refine K1.out.mono ?_
          rintro e1 w6 ⟨rfl, rfl⟩
          clear K1
          by_cases hy : m ≤ y
          · have HC2 : Hid (cntG L m (j + 1) = cc + 1) := by rw [HC.out, decide_eq_true hy]; exact rfl
            clear HC
            go_wp2
            go_round
            case rel => exact ⟨j + 1, by omega, by go_num, by rw [HC2.out]; simp⟩
            case measure => simp [intOf]; omega
          · have HC2 : Hid (cntG L m (j + 1) = cc) := by rw [HC.out, decide_eq_false hy]; exact rfl
            clear HC
            go_wp2
            go_round
            case rel => exact ⟨j + 1, by omega, by go_num, by rw [HC2.out]⟩
            case measure => simp [intOf]; omega
        · obtain rfl : j = N := by omega
          generalize cntG L m j = cc at *
          go_wp2_with fail
          with_reducible refine HM.out.mono ?_
          rintro e1 w6 ⟨rfl, rfl⟩
          by_cases h1 : mj ≤ cc
          · by_cases h2 : bk < m
            · have HB3 : Hid (bestK L (k + 1) = m) := by rw [HB2.out, if_pos ⟨h1, h2⟩]; exact rfl
              clear HB2
              go_wp2
              go_round
              case rel => exact ⟨k + 1, by omega, by go_num, by rw [HB3.out]⟩
              case measure => simp [intOf]; omega
            · have HB3 : Hid (bestK L (k + 1) = bk) := by rw [HB2.out, if_neg (fun q => h2 q.2)]; exact rfl
              clear HB2
              go_wp2
              go_round
              case rel => exact ⟨k + 1, by omega, by go_num, by rw [HB3.out]⟩
              case measure => simp [intOf]; omega
          · have HB3 : Hid (bestK L (k + 1) = bk) := by rw [HB2.out, if_neg (fun q => h1 q.1)]; exact rfl
            clear HB2
            go_wp2
            go_round
            case rel => exact ⟨k + 1, by omega, by go_num, by rw [HB3.out]⟩
            case measure => simp [intOf]; omega
    · obtain rfl : k = N := by omega
      go_wp2
      go_ret
      exact ⟨rfl, rfl⟩
end Go.Proofs.Ytpecpanmdjpoiaa
/- Law 10: whether members are a group, how many are enough, whether enough say yes, and what enough have reached, is as the document says. -/
namespace Go.Proofs.Ytpecpanmdjpoiaa
open Go.RowKit
set_option linter.unusedVariables false
set_option linter.unusedSimpArgs false

theorem size_u64c : Try.prog.cellsOf 27 = 1 := by kernel_rfl
theorem Rd.isU {w : World} {v : Value} (h : Rd Try.prog w 26 [v]) : ∃ zs, NumsAt .u64 (fun b _ => b < w.heap.size) w v zs ∧ zs.length ≤ maxLen ∧ ∀ x ∈ zs, 0 ≤ x ∧ x ≤ 18446744073709551615 := by
  obtain ⟨zs, h1, h2, h3⟩ := Rd.nums Try.underlying26 Try.underlying27 size_u64c h
  refine ⟨zs, h1, h2, fun x hx => ?_⟩
  have := h3 x hx
  rw [Lit.wf, Bool.and_eq_true, decide_eq_true_eq, decide_eq_true_eq] at this
  exact this
theorem atU_pos {ms : List Int} (h : ∀ x ∈ ms, 0 ≤ x) (n : Int) : 0 ≤ atU ms n := by
  unfold atU
  split
  · by_cases hn : n.toNat < ms.length
    · have : ms.getD n.toNat 0 = ms[n.toNat] := by simp [List.getD, hn]
      rw [this]; exact h _ (List.getElem_mem hn)
    · simp [List.getD, List.getElem?_eq_none (Nat.le_of_not_lt hn)]
  · exact Int.le_refl _

set_option maxRecDepth 100000 in
theorem tells_wrong (W : World) (v vy vm : Value) (zs : List Int) (h : IntsAt (fun b _ => b < W.heap.size) W v zs) (hm : zs.length ≤ maxLen) (hr : rightQ zs = false) :
    Calls Try.prog 5 #[v, vy, vm] W fun e w' => e = .returned (.bool true) ∧ Fr (fun b _ => b < W.heap.size) W w' := by
  have HA := Lib.hid (awake_calls W)
  have HR := fun w' (f : Hid (Fr (fun b _ => b < W.heap.size) W w')) => Lib.hid (rright_calls w' v zs (h.fr f.out fun _ _ h => h) hm)
  have HQ := fun w' (f : Hid (Fr (fun b _ => b < W.heap.size) W w')) => Lib.hid (right_calls w' v zs (h.fr f.out fun _ _ h => h) hm)
  rw [hr] at HR HQ
  clear h hm hr
  go_enter Try.func5, Try.ntmps5
  go_wp2_with fail
  with_reducible refine HA.out.mono ?_
  rintro e1 w1 ⟨rfl, f1⟩
  have F1 := Lib.hid f1
  clear f1 HA
  have HR1 := HQ w1 F1
  go_wp2_with fail
  with_reducible refine HR1.out.mono ?_
  rintro e1 w2 ⟨rfl, rfl⟩
  clear HR1 HQ
  have HR1 := HR w1 F1
  go_wp2_with fail
  with_reducible refine HR1.out.mono ?_
  rintro e1 w2 ⟨rfl, rfl⟩
  clear HR1 HR
  go_wp2
  go_ret
  exact ⟨rfl, F1.out⟩

set_option maxRecDepth 100000 in
set_option maxHeartbeats 2000000 in
theorem tells_right (W : World) (b off c : Nat) (vy vm : Value) (zs ys ms : List Int) (h : IntsAt (fun b _ => b < W.heap.size) W (.slice (some ⟨b, off, none⟩) zs.length c) zs) (hr : rightQ zs = true)
    (hy : IntsAt (fun b _ => b < W.heap.size) W vy ys) (hym : ys.length ≤ maxLen) (hs : NumsAt .u64 (fun b _ => b < W.heap.size) W vm ms) (hsm : ms.length ≤ maxLen) (hpos : ∀ x ∈ ms, 0 ≤ x) :
    Calls Try.prog 5 #[.slice (some ⟨b, off, none⟩) zs.length c, vy, vm] W fun e w' => e = .returned (.bool true) ∧ Fr (fun b _ => b < W.heap.size) W w' := by
  obtain ⟨hp, hrg, hl0, h16⟩ := right_all hr
  have hm : zs.length ≤ maxLen := by unfold maxLen; omega
  have HA := Lib.hid (awake_calls W)
  have HR : Hid (∀ w', Fr (fun b _ => b < W.heap.size) W w' → Calls Try.prog 10 #[.slice (some ⟨b, off, none⟩) zs.length c] w' fun e w'' => e = .returned (.bool true) ∧ w' = w'') := fun w' f => by
    have := rright_calls w' _ zs (h.fr f fun _ _ h => h) hm
    rwa [hr] at this
  have HQ : Hid (∀ w', Fr (fun b _ => b < W.heap.size) W w' → Calls Try.prog 15 #[.slice (some ⟨b, off, none⟩) zs.length c] w' fun e w'' => e = .returned (.bool true) ∧ w' = w'') := fun w' f => by
    have := right_calls w' _ zs (h.fr f fun _ _ h => h) hm
    rwa [hr] at this
  have HM : Hid (∀ w', Calls Try.prog 16 #[.slice (some ⟨b, off, none⟩) zs.length c] w' fun e w'' => e = .returned (.int .i64 (majI zs.length)) ∧ w' = w'') := fun w' => maj_calls w' _ _ _ (by unfold maxLen at hm; omega)
  have HM2 : Hid (∀ w', Calls Try.prog 17 #[.slice (some ⟨b, off, none⟩) zs.length c] w' fun e w'' => e = .returned (.int .i64 (majI zs.length)) ∧ w' = w'') := fun w' => rmaj_calls w' _ _ _ (by omega)
  have HG : Hid (∀ w', Fr (fun b _ => b < W.heap.size) W w' → Calls Try.prog 14 #[.slice (some ⟨b, off, none⟩) zs.length c, vy] w' fun e w'' => e = .returned (.bool (agrI zs ys)) ∧ w' = w'') := fun w' f =>
    agrees_calls w' _ _ zs ys (h.fr f fun _ _ h => h) (hy.fr f fun _ _ h => h) hm hym
  have HG2 : Hid (∀ w', Fr (fun b _ => b < W.heap.size) W w' → Calls Try.prog 18 #[.slice (some ⟨b, off, none⟩) zs.length c, vy] w' fun e w'' => e = .returned (.bool (agrI zs ys)) ∧ w' = w'') := fun w' f =>
    ragrees_calls w' b off c _ zs ys (h.fr f fun _ _ h => h) (hy.fr f fun _ _ h => h) h16 hym
  have HV : Hid (∀ w', Fr (fun b _ => b < W.heap.size) W w' → Calls Try.prog 13 #[.slice (some ⟨b, off, none⟩) zs.length c, vm] w' fun e w'' => e = .returned (.int .u64 (midV (reachL zs ms zs.length))) ∧ Fr (fun b _ => b < w'.heap.size) w' w'') := fun w' f =>
    reached_calls w' b off c vm zs ms (h.fr f fun _ _ h => h) (hs.fr f fun _ _ h => h) hsm hl0 h16 fun x hx => (hrg x hx).1
  have HV2 : Hid (∀ w', Fr (fun b _ => b < W.heap.size) W w' → Calls Try.prog 19 #[.slice (some ⟨b, off, none⟩) zs.length c, vm] w' fun e w'' => e = .returned (.int .u64 (midV (reachL zs ms zs.length))) ∧ w' = w'') := fun w' f => by
    have := rreached_calls w' b off c vm zs ms (h.fr f fun _ _ h => h) (hs.fr f fun _ _ h => h) hsm h16 hrg
    have hL := reachL_len zs ms zs.length (Nat.le_refl _)
    have e := best_eq (l := reachL zs ms zs.length) (by omega) (fun x hx => by
      unfold reachL at hx
      obtain ⟨y, _, rfl⟩ := List.mem_map.1 hx
      exact atU_pos hpos y)
    rw [hL] at e
    rwa [e] at this
  generalize majI zs.length = mj at *
  generalize agrI zs ys = ag at *
  generalize midV (reachL zs ms zs.length) = mv at *
  obtain ⟨vc, hvc⟩ : ∃ vc, vc = (.slice (some ⟨b, off, none⟩) zs.length c : Value) := ⟨_, rfl⟩
  rw [← hvc] at HR HQ HM HM2 HG HG2 HV HV2 ⊢
  clear h hy hs hr hp hrg hm hl0 h16 hvc hym hsm hpos
  go_enter Try.func5, Try.ntmps5
  go_wp2_with fail
  with_reducible refine HA.out.mono ?_
  rintro e1 w1 ⟨rfl, f1⟩
  have F1 := Lib.hid f1
  clear f1 HA
  have K1 := HQ.out w1 F1.out
  go_wp2_with fail
  with_reducible refine K1.mono ?_
  rintro e1 w2 ⟨rfl, rfl⟩
  clear K1 HQ
  have K1 := HR.out w1 F1.out
  go_wp2_with fail
  with_reducible refine K1.mono ?_
  rintro e1 w2 ⟨rfl, rfl⟩
  clear K1 HR
  have K1 := HM.out w1
  go_wp2_with fail
  with_reducible refine K1.mono ?_
  rintro e1 w2 ⟨rfl, rfl⟩
  clear K1 HM
  have K1 := HG.out w1 F1.out
  go_wp2_with fail
  with_reducible refine K1.mono ?_
  rintro e1 w2 ⟨rfl, rfl⟩
  clear K1 HG
  have K1 := HV.out w1 F1.out
  go_wp2_with fail
  with_reducible refine K1.mono ?_
  rintro e1 w2 ⟨rfl, f2⟩
  have F2 : Hid (Fr (fun b _ => b < W.heap.size) W w2) := F1.out.trans (f2.mono fun b _ hb => by have hb : b < W.heap.size := hb; have := F1.out.size; omega)
  clear K1 HV f2 F1
  have K1 := HM2.out w2
  have K2 := HG2.out w2 F2.out
  have K3 := HV2.out w2 F2.out
  go_wp2_with fail
  with_reducible refine K1.mono ?_
  rintro e1 w3 ⟨rfl, rfl⟩
  go_wp2_with fail
  with_reducible refine K2.mono ?_
  rintro e1 w3 ⟨rfl, rfl⟩
  go_wp2_with fail
  with_reducible refine K3.mono ?_
  rintro e1 w3 ⟨rfl, rfl⟩
  clear K1 K2 K3 HM2 HG2 HV2
  cases ag <;>
  · go_wp2
    go_ret
    exact ⟨rfl, F2.out⟩
theorem tells_main (W : World) (a0 : Option Addr) (len0 cap0 : Nat) (a1 : Option Addr) (len1 cap1 : Nat) (a2 : Option Addr) (len2 cap2 : Nat) (r0 : Rd Try.prog W 22 [.slice a0 len0 cap0]) (r1 : Rd Try.prog W 22 [.slice a1 len1 cap1]) (r2 : Rd Try.prog W 26 [.slice a2 len2 cap2]) :
    Calls Try.prog 5 #[.slice a0 len0 cap0, .slice a1 len1 cap1, .slice a2 len2 cap2] W fun e w' => e = .returned (.bool true) ∧ Below W.heap.size W w' := by
  obtain ⟨zs, h, hm, _⟩ := r0.is
  obtain ⟨ys, hy, hym, _⟩ := r1.is
  obtain ⟨ms, hs, hsm, hpos⟩ := r2.isU
  refine Calls.mono (R := fun e w' => e = .returned (.bool true) ∧ Fr (fun b _ => b < W.heap.size) W w') ?_ fun e w' ⟨he, hf⟩ => ⟨he, hf.below (Nat.le_refl _)⟩
  obtain rfl := h.len
  cases hr : rightQ zs with
  | false => exact tells_wrong W _ _ _ zs h hm hr
  | true =>
    obtain ⟨b, off, rfl⟩ := h.addr (right_all hr).2.2.1
    exact tells_right W b off cap0 _ _ zs ys ms h hr hy hym hs hsm fun x hx => (hpos x hx).1
end Go.Proofs.Ytpecpanmdjpoiaa
/- Law 10: what enough have reached, enough have, and nothing greater: plainly; a clone of numbers of 64 bits. -/
namespace Go.Proofs.Ytpecpanmdjpoiaa
open Go.RowKit
set_option linter.unusedVariables false
set_option linter.unusedSimpArgs false

/-- The places up to k whose number meets p. -/
def plc (ms : List Int) (p : Int → Bool) (k : Nat) : List Int := ((List.range k).filter fun i => p (ms.getD i 0)).map Int.ofNat
theorem plc_succ (ms : List Int) (p : Int → Bool) (k : Nat) : plc ms p (k + 1) = plc ms p k ++ (if p (ms.getD k 0) = true then [(k : Int)] else []) := by
  unfold plc
  rw [List.range_succ, List.filter_append, List.map_append]
  congr 1
  show List.map Int.ofNat (List.filter _ [k]) = _
  rw [List.filter_cons, List.filter_nil]
  cases p (ms.getD k 0) <;> rfl
theorem plc_len (ms : List Int) (p : Int → Bool) (k : Nat) : (plc ms p k).length ≤ k := by
  unfold plc
  rw [List.length_map]
  have := List.length_filter_le (fun i => p (ms.getD i 0)) (List.range k)
  simpa using this
theorem plc_has {ms : List Int} (h16 : ms.length = 16) (p : Int → Bool) {x : Int} (h0 : 0 ≤ x) (h1 : x ≤ 15) : hasI (plc ms p 16) x = p (atU ms x) := by
  obtain ⟨n, rfl⟩ := Int.eq_ofNat_of_zero_le h0
  have ea : atU ms (n : Int) = ms.getD n 0 := by unfold atU; rw [if_pos (by omega)]; rfl
  rw [ea, Bool.eq_iff_iff, hasI_mem]
  unfold plc
  simp only [List.mem_map, List.mem_filter, List.mem_range]
  constructor
  · rintro ⟨i, ⟨_, hi⟩, e⟩
    have : i = n := Int.ofNat.inj e
    subst this; exact hi
  · intro h
    exact ⟨n, ⟨by omega, h⟩, rfl⟩
theorem plc_cnt {zs ms : List Int} (hz : ∀ x ∈ zs, 0 ≤ x ∧ x ≤ 15) (h16 : ms.length = 16) (p : Int → Bool) : cntI zs (plc ms p 16) = (reachL zs ms zs.length).countP p := by
  unfold cntI reachL
  rw [List.take_length, List.countP_map]
  exact List.countP_congr fun x hx => by rw [plc_has h16 p (hz x hx).1 (hz x hx).2]; rfl
theorem reach_have {zs ms : List Int} (hl : 0 < zs.length) (hz : ∀ x ∈ zs, 0 ≤ x ∧ x ≤ 15) (h16 : ms.length = 16) : agrI zs (plc ms (fun x => decide (midV (reachL zs ms zs.length) ≤ x)) 16) = true := by
  have hL := reachL_len zs ms zs.length (Nat.le_refl _)
  have := mid_ge (l := reachL zs ms zs.length) (by omega)
  unfold agrI majI
  rw [plc_cnt hz h16, decide_eq_true_eq]
  omega
theorem reach_above {zs ms : List Int} (hl : 0 < zs.length) (hz : ∀ x ∈ zs, 0 ≤ x ∧ x ≤ 15) (h16 : ms.length = 16) : agrI zs (plc ms (fun x => decide (midV (reachL zs ms zs.length) < x)) 16) = false := by
  have hL := reachL_len zs ms zs.length (Nat.le_refl _)
  have := mid_gt (l := reachL zs ms zs.length) (by omega)
  unfold agrI majI
  rw [plc_cnt hz h16, decide_eq_false_iff_not]
  omega
theorem atU_set {ms : List Int} {n : Nat} {y : Int} (hn : n < ms.length) (hy : ms.getD n 0 ≤ y) (x : Int) : atU ms x ≤ atU (ms.set n y) x := by
  unfold atU
  rw [List.length_set]
  split
  next h =>
    by_cases e : x.toNat = n
    · rw [e]
      have : (ms.set n y).getD n 0 = y := by simp [List.getD, hn]
      rw [this]; exact hy
    · have : (ms.set n y).getD x.toNat 0 = ms.getD x.toNat 0 := by simp [List.getD, List.getElem?_set, Ne.symm e]
      rw [this]; exact Int.le_refl _
  next => exact Int.le_refl _
theorem reach_goes {zs ms : List Int} (hl : 0 < zs.length) {n : Nat} {y : Int} (hn : n < ms.length) (hy : ms.getD n 0 ≤ y) : midV (reachL zs ms zs.length) ≤ midV (reachL zs (ms.set n y) zs.length) := by
  refine mid_mono (by rw [reachL_len _ _ _ (Nat.le_refl _), reachL_len _ _ _ (Nat.le_refl _)]) (by rw [reachL_len _ _ _ (Nat.le_refl _)]; exact hl) fun v => ?_
  unfold reachL
  rw [List.countP_map, List.countP_map]
  refine List.countP_mono_left fun x _ hx => ?_
  have := atU_set hn hy x
  simp at hx ⊢
  omega

theorem NumsAt.srcU {K : Nat → Obj → Prop} {w : World} {v : Value} {zs : List Int} (h : NumsAt .u64 K w v zs) (h0 : 0 < zs.length) : SrcAt w 1 v zs.length (zs.map (Value.int .u64)) := by
  obtain ⟨a, cap, rfl, h⟩ := h
  rcases h with rfl | ⟨b, off, o, rfl, hb, hk, hc⟩
  · simp at h0
  · refine .inr ⟨_, cap, rfl, by simp, fun j u hu => ?_, fun u hu => ?_⟩
    · have hj : j < zs.length := by
        rcases Nat.lt_or_ge j zs.length with h1 | h1
        · exact h1
        · rw [List.getElem?_eq_none (by simpa using h1)] at hu; cases hu
      have hu' : u = Value.int .u64 zs[j] := by
        rw [List.getElem?_map, List.getElem?_eq_getElem hj] at hu
        exact (Option.some.inj hu).symm
      rw [hu', add_at]
      exact hc j hj
    · obtain ⟨x, _, rfl⟩ := List.mem_map.1 hu
      rfl
/-- An append of many to a row of the function's own. -/
theorem wpList_append_us {K0 : Nat → Obj → Prop} {ops : Array Oper} {rest : List Oper} {o : Oper} {a : Act} {Q : Exit → Act → World → Prop} (W0 W : World) (hF : Hid (Fr (fun _ _ => True) W0 W)) (hgd : o.guard = none) (s x : Operand)
    (ho : o.op = .call { callee := .builtin .append, args := #[s, x], argTypes := #[26, 26] }) (v : Value) (xs : List Int) (hs : a.eval s = v) (hown : Hid (RowU W W0.heap.size v xs))
    (vx : Value) (bs : List Int) (hx : a.eval x = vx) (hb : Hid (NumsAt .u64 K0 W vx bs)) (h0 : 0 < bs.length) (r : List Int) (hr : Hid (xs ++ bs = r)) (hn : r.length ≤ 2000000)
    (h : ∀ a' c' w', Hid (RowU w' W0.heap.size (.slice a' r.length c') r) → Hid (Fr (fun _ _ => True) W0 w') → wpList Try.prog ops Q rest (a.put o.dst (.slice a' r.length c')) w') :
    wpList Try.prog ops Q (o :: rest) a W := by
  obtain ⟨i0, hi, hz0, hz1, hz2⟩ := info_parts info_u64
  have hr := hr.out
  subst hr
  rw [List.length_append] at hn
  refine wpList_append_src W hgd s x 26 ho W0.heap.size 27 i0 (.int .u64 0) 1 8 Try.underlying26 hi hz0 hz1 hz2 rfl (by decide) v xs.length (xs.map (Value.int .u64)) hs hown.out vx bs.length (bs.map (Value.int .u64)) hx (hb.out.srcU h0) (by unfold maxLen; omega) (by omega) hF.out.size ?_
  intro v' w' h1 h2 _
  rw [← List.map_append, ← List.length_append] at h1
  obtain ⟨a', c', rfl⟩ := RowU.form h1
  exact h a' c' w' h1 (hF.out.grown_new h2 (own_new hown.out))
/-- The row behind a store. -/
theorem RowU.stored {w : World} {g B : Nat} {c : Nat} {zs : List Int} {n : Nat} (h : RowU w B (.slice (some ⟨g, 0, none⟩) zs.length c) zs) (hn : n < zs.length) (y : Int) :
    NumsAt .u64 (fun b _ => b < (w.setCell ⟨g, n, none⟩ (.int .u64 y)).heap.size) (w.setCell ⟨g, n, none⟩ (.int .u64 y)) (.slice (some ⟨g, 0, none⟩) (zs.set n y).length c) (zs.set n y) := by
  obtain ⟨h1, h2⟩ := h
  rcases h2 with ⟨hv, hz⟩ | ⟨g', cap, cur, hv, hg, hh, hz, hc, hs, ht⟩
  · omega
  · cases hv
    have hb := heap_setCell_same (o := n) hh (.int .u64 y)
    refine ⟨_, c, rfl, .inr ⟨g, 0, _, rfl, hb, lt_of_some hb, fun i hi => ?_⟩⟩
    rw [List.length_set] at hi
    rw [Nat.zero_add]
    refine cell_mk hb ?_
    have e1 : cur.toList[i]? = (zs.map (Value.int .u64))[i]? := by rw [← ht, List.getElem?_take, if_pos (by omega)]
    have e2 : cur[i]? = some (Value.int .u64 zs[i]) := by rw [← Array.getElem?_toList, e1]; simp [hi]
    have hi2 : i < cur.size := by
      rcases Nat.lt_or_ge i cur.size with q | q
      · exact q
      · rw [Array.getElem?_eq_none q] at e2; cases e2
    by_cases e : n = i
    · subst e
      simp [hi2]
    · rw [Array.getElem?_setIfInBounds_ne e, e2]
      simp [List.getElem_set, e]
end Go.Proofs.Ytpecpanmdjpoiaa
/- An append: where the row lies behind it. -/
namespace Go.Proofs.Ytpecpanmdjpoiaa
open Go.RowKit
set_option linter.unusedVariables false
set_option linter.unusedSimpArgs false

/-- Behind an append a row lies where it lay, or in a new block. -/
def OwnNext (w : World) (v v' : Value) : Prop := v'.ownBlock = v.ownBlock ∨ ∃ k, v'.ownBlock = some k ∧ w.heap.size ≤ k
theorem OwnNext.ne {w : World} {v v' : Value} {b : Nat} (h : OwnNext w v v') (hv : v.ownBlock ≠ some b) (hb : b < w.heap.size) : v'.ownBlock ≠ some b := by
  rcases h with h | ⟨k, h, hk⟩
  · rw [h]; exact hv
  · rw [h]; intro e; cases e; omega
section
variable {P : Program} (w : World)
theorem append_where (base : Nat) (t ty e : TypeId) (i : TypeInfo) (z : Value) (size bytes : Nat) (ht : P.underlying t = some (.slice e)) (hi : P.info? e = some i) (hz : i.zero = some z)
    (hsize : i.size = size) (hby : i.bytes = bytes) (hzs : z.cells.size = size) (hsz : 0 < size)
    (v : Value) (n : Nat) (xs : List Value) (hown : w.ownsRow base e size v n xs)
    (a : Addr) (m c : Nat) (news : List Value) (hl : news.length = m * size) (hnews : ∀ j u, news[j]? = some u → w.cell? (a.add j) = some u) (h1 : ∀ u ∈ news, u.oneCell' = true)
    (h63 : n + m ≤ maxLen) (hbytes : (n + m) * bytes ≤ 140737488355328) {v' : Value} {w' : World}
    (hr : (Builtin.append_ #[t, t] ty #[v, .slice (some a) m c]).run P w = .ok v' w') : OwnNext w v v' := by
  subst hsize
  subst hby
  have hsmall : n + m ≤ 9223372036854775807 := by simp only [maxLen] at h63; omega
  rcases hown.2 with ⟨rfl, rfl⟩ | ⟨g, cap, cur, rfl, hbg, hg, hnc, hcm, hcs, htake⟩
  · by_cases hm : m = 0
    · subst hm
      have e : (Builtin.append_ #[t, t] ty #[.slice none 0 0, .slice (some a) 0 c]).run P w = .ok (.slice none 0 0) w := by
        simp [Builtin.append_, run_underlying ht, sizeOf, typeInfo, hi, Builtin.lenOf, Builtin.firstCells, loadCells, loadCellsFrom]
      rw [e] at hr
      cases hr
      exact .inl rfl
    · have e := run_append_nil (P := P) w t ty e i z ht hi hz a m c news hl hnews (by omega) (by omega) (by have hb := hbytes; simp only [Nat.zero_add] at hb; omega)
      rw [e] at hr
      cases hr
      exact .inr ⟨w.heap.size, rfl, Nat.le_refl _⟩
  · by_cases hroom : n + m ≤ cap
    · have hfit : n * i.size + news.length ≤ cur.size := by rw [hl, hcs, ← Nat.add_mul]; exact Nat.mul_le_mul_right _ hroom
      have e := run_append_room (P := P) w t ty e i ht hi g n cap cur hg a m c news hl hnews h1 hroom hfit
      rw [e] at hr
      cases hr
      exact .inl rfl
    · have holds : ∀ j u, xs[j]? = some u → w.cell? ((⟨g, 0, none⟩ : Addr).add j) = some u := hown.cells (g := g) rfl
      have e := run_append_grow (P := P) w t ty e i z ht hi hz ⟨g, 0, none⟩ n cap xs hown.1 holds a m c news hl hnews (by omega) (by omega) (growslice_fits (by omega) hbytes)
      rw [e] at hr
      cases hr
      exact .inr ⟨w.heap.size, rfl, Nat.le_refl _⟩
theorem wp_append_own2 {o : Oper} {a : Act} {K : Act → World → Prop} {Q : Exit → Act → World → Prop} (s x : Operand) (t : TypeId)
    (ho : o.op = .call { callee := .builtin .append, args := #[s, x], argTypes := #[t, t] })
    (base : Nat) (e : TypeId) (i : TypeInfo) (z : Value) (size bytes : Nat) (ht : P.underlying t = some (.slice e)) (hi : P.info? e = some i) (hz : i.zero = some z)
    (hsize : i.size = size) (hby : i.bytes = bytes) (hzs : z.cells.size = size) (hsz : 0 < size)
    (v : Value) (n : Nat) (xs : List Value) (hs : a.eval s = v) (hown : w.ownsRow base e size v n xs)
    (ad : Addr) (m c : Nat) (news : List Value) (hx : a.eval x = .slice (some ad) m c) (hl : news.length = m * size) (hnews : ∀ j u, news[j]? = some u → w.cell? (ad.add j) = some u) (h1 : ∀ u ∈ news, u.oneCell' = true)
    (h63 : n + m ≤ maxLen) (hbytes : (n + m) * bytes ≤ 140737488355328) (hbase : base ≤ w.heap.size)
    (h : ∀ v' w', w'.ownsRow base e size v' (n + m) (xs ++ news) → w.grownBy w' v.ownBlock → OwnNext w v v' → K (a.put o.dst v') w') : o.wp P a w K Q := by
  obtain ⟨v', w', hr, h2, h3, h4⟩ := run_append_own (P := P) w base t o.type e i z size bytes ht hi hz hsize hby hzs hsz v n xs hown ad m c news hl hnews h1 h63 hbytes hbase
  have h5 := append_where (P := P) w base t o.type e i z size bytes ht hi hz hsize hby hzs hsz v n xs hown ad m c news hl hnews h1 h63 hbytes hr
  unfold Oper.wp execOp
  simp only [ho, resolve, invoke, builtin, Sem.run_bind, Sem.run_pure, Result.andThen_ok, List.map_toArray, List.map_cons, List.map_nil, hs, hx, hr]
  exact h v' w' h2 h3 h5
end
theorem wpList_append_src2 {P : Program} (w : World) {ops : Array Oper} {rest : List Oper} {o : Oper} {a : Act} {Q : Exit → Act → World → Prop} (hgd : o.guard = none) (s x : Operand) (t : TypeId)
    (ho : o.op = .call { callee := .builtin .append, args := #[s, x], argTypes := #[t, t] })
    (base : Nat) (e : TypeId) (i : TypeInfo) (z : Value) (size bytes : Nat) (ht : P.underlying t = some (.slice e)) (hi : P.info? e = some i) (hz : i.zero = some z)
    (hsize : i.size = size) (hby : i.bytes = bytes) (hzs : z.cells.size = size) (hsz : 0 < size)
    (v : Value) (n : Nat) (xs : List Value) (hs : a.eval s = v) (hown : w.ownsRow base e size v n xs)
    (vx : Value) (m : Nat) (news : List Value) (hx : a.eval x = vx) (hsrc : SrcAt w size vx m news)
    (h63 : n + m ≤ maxLen) (hbytes : (n + m) * bytes ≤ 140737488355328) (hbase : base ≤ w.heap.size)
    (h : ∀ v' w', w'.ownsRow base e size v' (n + m) (xs ++ news) → w.grownBy w' v.ownBlock → OwnNext w v v' → wpList P ops Q rest (a.put o.dst v') w') : wpList P ops Q (o :: rest) a w := by
  rcases hsrc with ⟨rfl, rfl, rfl⟩ | ⟨ad, c, rfl, hl, hc, h1⟩
  · exact wpList_append_own_none hgd s x t ho base e i size ht hi v n xs hs hown hx (h v w (by simpa using hown) ⟨rfl, rfl, rfl, Nat.le_refl _, fun _ _ _ => rfl⟩ (.inl rfl))
  · exact wpList_plain hgd fun _ hK => wp_append_own2 w s x t ho base e i z size bytes ht hi hz hsize hby hzs hsz v n xs hs hown ad m c news hx hl hc h1 h63 hbytes hbase fun v' w' h2 h3 h4 => hK _ _ (h v' w' h2 h3 h4)
end Go.Proofs.Ytpecpanmdjpoiaa
/- Two rows of ints, side by side. -/
namespace Go.Proofs.Ytpecpanmdjpoiaa
open Go.RowKit
set_option linter.unusedVariables false
set_option linter.unusedSimpArgs false

def Rows2 (w0 w : World) (o1 o2 : Value) (l1 l2 : List Int) : Prop := RowI w w0.heap.size o1 l1 ∧ RowI w w0.heap.size o2 l2 ∧ (∀ b, o1.ownBlock = some b → o2.ownBlock ≠ some b) ∧ Fr (fun _ _ => True) w0 w
theorem Rows2.swap {w0 w : World} {o1 o2 : Value} {l1 l2 : List Int} (h : Rows2 w0 w o1 o2 l1 l2) : Rows2 w0 w o2 o1 l2 l1 := ⟨h.2.1, h.1, fun b h1 h2 => h.2.2.1 b h2 h1, h.2.2.2⟩
theorem own_lt {w : World} {B : Nat} {v : Value} {zs : List Int} (h : RowI w B v zs) {b : Nat} (hb : v.ownBlock = some b) : b < w.heap.size := by
  rcases h.2 with ⟨rfl, _⟩ | ⟨g, cap, cur, rfl, _, hh, _⟩
  · cases hb
  · cases hb; exact lt_of_some hh
theorem wpList_append_two {ops : Array Oper} {rest : List Oper} {o : Oper} {a : Act} {Q : Exit → Act → World → Prop} (w0 W1 : World) (y : Int) (hgd : o.guard = none) (s x : Operand)
    (ho : o.op = .call { callee := .builtin .append, args := #[s, x], argTypes := #[22, 22] }) (v v2 : Value) (xs l2 : List Int) (hs : a.eval s = v) (hown : Hid (Rows2 w0 W1 v v2 xs l2))
    (hx : a.eval x = .slice (some ⟨W1.heap.size, 0, none⟩) 1 1) (r : List Int) (hr : Hid (xs ++ [y] = r)) (hn : r.length ≤ 2000000)
    (h : ∀ a' c' w', Hid (Rows2 w0 w' (.slice a' r.length c') v2 r l2) → wpList Try.prog ops Q rest (a.put o.dst (.slice a' r.length c')) w') :
    wpList Try.prog ops Q (o :: rest) a (W1.alloc (.cells #[.int .i64 y] 3 (0, 0))) := by
  obtain ⟨i0, hi, hz0, hz1, hz2⟩ := info_parts info_int
  have hr := hr.out
  subst hr
  obtain ⟨r1, r2, hne, hf⟩ := hown.out
  rw [List.length_append, List.length_singleton] at hn
  have hsrc := (NumsAt.lit1 W1 y).src (by simp)
  refine wpList_append_src2 _ hgd s x 22 ho w0.heap.size 3 i0 (.int .i64 0) 1 8 Try.underlying22 hi hz0 hz1 hz2 rfl (by decide) v xs.length (xs.map intV) hs (r1.tt ((Fr.refl _ _).alloc _)) _ 1 [intV y] hx hsrc (by unfold maxLen; omega) (by omega) (by have := hf.size; simp; omega) ?_
  intro v' w' h1 h2 h3
  have e1 : xs.map intV ++ [intV y] = (xs ++ [y]).map intV := by simp
  have e2 : xs.length + 1 = (xs ++ [y]).length := by simp
  rw [e1, e2] at h1
  obtain ⟨a', c', rfl⟩ := RowI.form h1
  have r2' : RowI (W1.alloc (.cells #[.int .i64 y] 3 (0, 0))) w0.heap.size v2 l2 := r2.tt ((Fr.refl _ _).alloc _)
  refine h a' c' w' ⟨h1, ?_, fun b hb1 hb2 => ?_, (hf.alloc _).grown_new h2 (own_new r1)⟩
  · have hF : Fr (fun b _ => v.ownBlock ≠ some b) (W1.alloc (.cells #[.int .i64 y] 3 (0, 0))) w' := Fr.of_grown h2 fun k o e _ hne => hne e
    exact ownsRow_fr r2' hF fun b o hb _ e => hne b e hb
  · exact h3.ne (fun e => hne b e hb2) (own_lt r2' hb2) hb1
end Go.Proofs.Ytpecpanmdjpoiaa
/- Law 10: what enough have reached, enough have, and nothing greater; who goes on takes nobody back. -/
namespace Go.Proofs.Ytpecpanmdjpoiaa
open Go.RowKit
set_option linter.unusedVariables false
set_option linter.unusedSimpArgs false

set_option maxRecDepth 100000 in
theorem reach_out (W : World) (v : Value) (am : Option Addr) (cm : Nat) (n more : Int) (zs ms : List Int) (h : IntsAt (fun b _ => b < W.heap.size) W v zs) (hm : zs.length ≤ maxLen) (hms : ms.length ≤ maxLen)
    (hno : ¬ (rightQ zs = true ∧ ms.length = 16 ∧ 0 ≤ n ∧ n ≤ 15)) :
    Calls Try.prog 4 #[v, .slice am ms.length cm, .int .i64 n, .int .u64 more] W fun e w' => e = .returned (.bool true) ∧ Fr (fun b _ => b < W.heap.size) W w' := by
  have HA := Lib.hid (awake_calls W)
  have HR := fun w' (f : Hid (Fr (fun b _ => b < W.heap.size) W w')) => Lib.hid (rright_calls w' v zs (h.fr f.out fun _ _ h => h) hm)
  unfold maxLen at hm hms
  have HNO := Lib.hid hno
  clear h hno
  generalize ms.length = M at *
  generalize rightQ zs = r1 at *
  go_enter Try.func4, Try.ntmps4
  go_wp2_with fail
  with_reducible refine HA.out.mono ?_
  rintro e1 w1 ⟨rfl, f1⟩
  have F1 := Lib.hid f1
  clear f1 HA
  have K1 := HR w1 F1
  go_wp2_with fail
  with_reducible refine K1.out.mono ?_
  rintro e1 w2 ⟨rfl, rfl⟩
  clear K1 HR
  cases r1
  · go_wp2
    go_ret
    exact ⟨rfl, F1.out⟩
  · by_cases h1 : M = 16
    · subst h1
      by_cases h2 : n < 0
      · go_wp2
        go_ret
        exact ⟨rfl, F1.out⟩
      · have h3 : 15 < n := by have := HNO.out; simp at this; omega
        go_wp2
        go_ret
        exact ⟨rfl, F1.out⟩
    · have h1b : ((M : Int) != 16) = true := by simp; omega
      have h1c : ((M : Int) == 16) = false := by simp; omega
      go_wp2
      go_ret
      exact ⟨rfl, F1.out⟩

set_option maxRecDepth 100000 in
set_option maxHeartbeats 4000000 in
theorem reach_in (W : World) (b off c bm om cm : Nat) (n : Nat) (more : Int) (zs ms : List Int) (h : IntsAt (fun b _ => b < W.heap.size) W (.slice (some ⟨b, off, none⟩) zs.length c) zs) (hr : rightQ zs = true)
    (hs : NumsAt .u64 (fun b _ => b < W.heap.size) W (.slice (some ⟨bm, om, none⟩) 16 cm) ms) (h16 : ms.length = 16) (hn : n ≤ 15) :
    Calls Try.prog 4 #[.slice (some ⟨b, off, none⟩) zs.length c, .slice (some ⟨bm, om, none⟩) 16 cm, .int .i64 (n : Nat), .int .u64 more] W fun e w' => e = .returned (.bool true) ∧ Fr (fun b _ => b < W.heap.size) W w' := by
  obtain ⟨hp, hrg, hl0, h16z⟩ := right_all hr
  have hm : zs.length ≤ maxLen := by unfold maxLen; omega
  have HA := Lib.hid (awake_calls W)
  have HR : Hid (∀ w', Fr (fun b _ => b < W.heap.size) W w' → Calls Try.prog 10 #[.slice (some ⟨b, off, none⟩) zs.length c] w' fun e w'' => e = .returned (.bool true) ∧ w' = w'') := fun w' f => by
    have := rright_calls w' _ zs (h.fr f fun _ _ h => h) hm
    rwa [hr] at this
  have HV : Hid (∀ w' (vm : Value) (ms : List Int) (K' : Nat → Obj → Prop), Fr (fun b _ => b < W.heap.size) W w' → NumsAt .u64 K' w' vm ms → ms.length = 16 → Calls Try.prog 13 #[.slice (some ⟨b, off, none⟩) zs.length c, vm] w' fun e w'' => e = .returned (.int .u64 (midV (reachL zs ms zs.length))) ∧ Fr (fun b _ => b < w'.heap.size) w' w'') := fun w' vm ms K' f hs h16 =>
    reached_calls w' b off c vm zs ms (h.fr f fun _ _ h => h) hs (by unfold maxLen; omega) hl0 h16z fun x hx => (hrg x hx).1
  obtain ⟨mv, hmv⟩ : ∃ mv, mv = midV (reachL zs ms zs.length) := ⟨_, rfl⟩
  have HG1 : Hid (∀ w' vy, Fr (fun b _ => b < W.heap.size) W w' → IntsAt (fun b _ => True) w' vy (plc ms (fun x => decide (mv ≤ x)) 16) → Calls Try.prog 14 #[.slice (some ⟨b, off, none⟩) zs.length c, vy] w' fun e w'' => e = .returned (.bool true) ∧ w' = w'') := fun w' vy f hy => by
    have := agrees_calls w' _ _ zs _ (h.fr f fun _ _ h => h) hy hm (by have := plc_len ms (fun x => decide (mv ≤ x)) 16; unfold maxLen; omega)
    rw [hmv] at this
    rwa [reach_have hl0 hrg h16] at this
  have HG2 : Hid (∀ w' vy, Fr (fun b _ => b < W.heap.size) W w' → IntsAt (fun b _ => True) w' vy (plc ms (fun x => decide (mv < x)) 16) → Calls Try.prog 14 #[.slice (some ⟨b, off, none⟩) zs.length c, vy] w' fun e w'' => e = .returned (.bool false) ∧ w' = w'') := fun w' vy f hy => by
    have := agrees_calls w' _ _ zs _ (h.fr f fun _ _ h => h) hy hm (by have := plc_len ms (fun x => decide (mv < x)) 16; unfold maxLen; omega)
    rw [hmv] at this
    rwa [reach_above hl0 hrg h16] at this
  have HY : Hid (∀ y, ms.getD n 0 ≤ y → mv ≤ midV (reachL zs (ms.set n y) zs.length)) := fun y hy => by rw [hmv]; exact reach_goes hl0 (by omega) hy
  have HMV := Lib.hid hmv
  have HS := Lib.hid hs
  have H16 := Lib.hid h16
  obtain ⟨vc, hvc⟩ : ∃ vc, vc = (.slice (some ⟨b, off, none⟩) zs.length c : Value) := ⟨_, rfl⟩
  rw [← hvc] at HR HV HG1 HG2 ⊢
  have hK : Hid (∀ k, (hk : k < 16) → ∃ hk2 : k < ms.length, ms.getD k 0 = ms[k]) := fun k hk => ⟨by omega, by simp [List.getD, show k < ms.length by omega]⟩
  clear h hs hr hp hrg hm hl0 h16 h16z hvc hmv
  go_enter Try.func4, Try.ntmps4
  go_wp2_with fail
  with_reducible refine HA.out.mono ?_
  rintro e1 w1 ⟨rfl, f1⟩
  have F1 := Lib.hid f1
  have S1 := Lib.hid (HS.out.fr f1 fun _ _ h => h)
  clear f1 HA HS
  have K1 := HR.out w1 F1.out
  go_wp2_with fail
  with_reducible refine K1.mono ?_
  rintro e1 w2 ⟨rfl, rfl⟩
  clear K1 HR
  have K1 := HV.out w1 _ ms _ F1.out S1.out H16.out
  rw [← HMV.out] at K1
  go_wp2_with fail
  with_reducible refine K1.mono ?_
  rintro e1 w2 ⟨rfl, f2⟩
  have F2 : Hid (Fr (fun b _ => b < W.heap.size) W w2) := F1.out.trans (f2.mono fun b _ hb => by have hb : b < W.heap.size := hb; have := F1.out.size; omega)
  have S2 : Hid (NumsAt .u64 (fun b _ => b < W.heap.size) w2 (.slice (some ⟨bm, om, none⟩) 16 cm) ms) := S1.out.fr f2 fun b _ hb => by have hb : b < W.heap.size := hb; have := F1.out.size; omega
  clear K1 f2 F1 S1
  go_wp2_with fail
  go_loopw [12, 13, 14] (fun o1 o2 i wr => ∃ (k : Nat), k ≤ 16 ∧ i = .int .i64 k ∧ Rows2 w2 wr o1 o2 (plc ms (fun x => decide (mv ≤ x)) k) (plc ms (fun x => decide (mv < x)) k)) (fun _ _ i _ => 16 - (intOf i).toNat)
  case atStart => exact ⟨0, Nat.zero_le _, rfl, RowI.nil _ _, RowI.nil _ _, (fun b h => by cases h), Fr.refl _ _⟩
  case round =>
    obtain ⟨k, hk, rfl, ho⟩ := hrel
    have HO := Lib.hid ho
    clear ho
    by_cases hlt : k < 16
    · obtain ⟨l1, e1⟩ := hK.out k hlt
      have g1 := (S2.out.tt HO.out.2.2.2).cell l1
      have HL1 := Lib.hid (plc_succ ms (fun x => decide (mv ≤ x)) k)
      have HL2 := Lib.hid (plc_succ ms (fun x => decide (mv < x)) k)
      have HN1 := Lib.hid (plc_len ms (fun x => decide (mv ≤ x)) (k + 1))
      have HN2 := Lib.hid (plc_len ms (fun x => decide (mv < x)) (k + 1))
      rw [e1] at HL1 HL2
      obtain ⟨y, hy⟩ : ∃ y, y = ms[k] := ⟨_, rfl⟩
      have HYK : Hid (ms[k]? = some y) := Lib.hid (by rw [hy]; exact List.getElem?_eq_getElem l1)
      rw [← hy] at g1 HL1 HL2
      clear hy
      generalize plc ms (fun x => decide (mv ≤ x)) k = p1 at *
      generalize plc ms (fun x => decide (mv < x)) k = p2 at *
      clear l1 e1
      by_cases q1 : mv ≤ y
      · have E1 : Hid (p1 ++ [(k : Int)] = plc ms (fun x => decide (mv ≤ x)) (k + 1)) := by
          have := HL1.out; simp only [decide_eq_true q1, if_true] at this; exact this.symm
        by_cases q2 : mv < y
        · have E2 : Hid (p2 ++ [(k : Int)] = plc ms (fun x => decide (mv < x)) (k + 1)) := by
            have := HL2.out; simp only [decide_eq_true q2, if_true] at this; exact this.symm
          clear HL1 HL2
          go_wp2_with (at_builtin; refine wpList_append_two w2 _ _ rfl _ _ rfl _ _ _ _ rfl HO rfl _ E1 (by have := HN1.out; omega) ?_)
          intro a1 c1 w3 O1
          have S3 := Lib.hid (S2.out.tt O1.out.2.2.2)
          have g2 : w3.cell? ⟨bm, om + k, none⟩ = some (.int .u64 y) := by
            obtain ⟨l1, e1⟩ := hK.out k hlt
            have := S3.out.cell l1
            rw [this, (List.getElem?_eq_some_iff.1 HYK.out).2]
          have O2 := Lib.hid O1.out.swap
          clear O1
          go_wp2_with (at_builtin; refine wpList_append_two w2 _ _ rfl _ _ rfl _ _ _ _ rfl O2 rfl _ E2 (by have := HN2.out; omega) ?_)
          intro a2 c2 w4 O3
          go_wp2
          go_roundw
          case rel => exact ⟨k + 1, by omega, by go_num, O3.out.swap⟩
          case measure => simp [intOf]; omega
        · have E2 : Hid (p2 = plc ms (fun x => decide (mv < x)) (k + 1)) := Lib.hid (by
            have := HL2.out; simp only [decide_eq_false q2] at this; simpa using this.symm)
          clear HL1 HL2
          go_wp2_with (at_builtin; refine wpList_append_two w2 _ _ rfl _ _ rfl _ _ _ _ rfl HO rfl _ E1 (by have := HN1.out; omega) ?_)
          intro a1 c1 w3 O1
          have S3 := Lib.hid (S2.out.tt O1.out.2.2.2)
          have g2 : w3.cell? ⟨bm, om + k, none⟩ = some (.int .u64 y) := by
            obtain ⟨l1, e1⟩ := hK.out k hlt
            have := S3.out.cell l1
            rw [this, (List.getElem?_eq_some_iff.1 HYK.out).2]
          go_wp2
          go_roundw
          case rel => exact ⟨k + 1, by omega, by go_num, by rw [← E2.out]; exact O1.out⟩
          case measure => simp [intOf]; omega
      · have q2 : ¬ mv < y := by omega
        have E1 : Hid (p1 = plc ms (fun x => decide (mv ≤ x)) (k + 1)) := Lib.hid (by
          have := HL1.out; simp only [decide_eq_false q1] at this; simpa using this.symm)
        have E2 : Hid (p2 = plc ms (fun x => decide (mv < x)) (k + 1)) := Lib.hid (by
          have := HL2.out; simp only [decide_eq_false q2] at this; simpa using this.symm)
        clear HL1 HL2
        go_wp2
        go_roundw
        case rel => exact ⟨k + 1, by omega, by go_num, by rw [← E1.out, ← E2.out]; exact HO.out⟩
        case measure => simp [intOf]; omega
    · obtain rfl : k = 16 := by omega
      obtain ⟨o1, o2, _, hf⟩ := HO.out
      have F3 : Hid (Fr (fun b _ => b < W.heap.size) W wr) := F2.out.trans (hf.mono fun _ _ _ => trivial)
      have S3 := Lib.hid (S2.out.tt hf)
      have I1 := Lib.hid (o1.ints.mono (K' := fun _ _ => True) fun _ _ _ => trivial)
      have I2 := Lib.hid (o2.ints.mono (K' := fun _ _ => True) fun _ _ _ => trivial)
      clear o1 o2 hf HO F2 S2
      have K1 := HG1.out wr _ F3.out I1.out
      have K2 := HG2.out wr _ F3.out I2.out
      go_wp2_with fail
      with_reducible refine K1.mono ?_
      rintro e1 w3 ⟨rfl, rfl⟩
      go_wp2_with fail
      with_reducible refine K2.mono ?_
      rintro e1 w3 ⟨rfl, rfl⟩
      clear K1 K2 HG1 HG2 I1 I2
      have hown : Hid (RowU (wr.alloc (.cells #[] 27)) wr.heap.size (.slice (some ⟨wr.heap.size, 0, none⟩) 0 0) []) := World.ownsRow_lit wr #[] 0 (Nat.le_refl _) (by simp) rfl
      have hsrc := Lib.hid (S3.out.tt ((Fr.refl _ _).alloc (.cells #[] 27)))
      have HF := Lib.hid ((Fr.refl (fun _ _ => True) wr).alloc (.cells #[] 27))
      have E0 : Hid ([] ++ ms = ms) := by simp [Hid]
      go_wp2_with (at_builtin; refine wpList_append_us wr _ HF rfl _ _ rfl _ [] rfl hown _ ms rfl hsrc (by have := H16.out; omega) ms E0 (by have := H16.out; omega) ?_)
      intro a1 c1 w4 O1 G1
      obtain ⟨l1, e1⟩ := hK.out n (by omega)
      have O2 := O1.out
      rw [H16.out] at O2
      obtain ⟨g, cap, ha, hgB, hgl, hH⟩ := O1.out.parts (by have := H16.out; omega)
      rw [H16.out] at ha ⊢
      cases ha
      have gc : w4.cell? ⟨g, n, none⟩ = some (.int .u64 ms[n]) := by
        have := (hH n (by simpa using l1)).1
        rw [Nat.zero_add] at this
        rw [this]; simp [l1]
      have gf : w4.frozen? ⟨g, n, none⟩ = false := by
        have := (hH n (by simpa using l1)).2
        rwa [Nat.zero_add] at this
      have HYY := Lib.hid (HY.out)
      rw [e1] at HYY
      have HST := fun y => Lib.hid (RowU.stored (g := g) (c := c1) (by rw [H16.out]; exact O2) l1 y)
      have F4 : Hid (Fr (fun b _ => b < W.heap.size) W w4) := F3.out.trans (G1.out.mono fun _ _ _ => trivial)
      have F5 : Hid (∀ y, Fr (fun b _ => b < W.heap.size) W (w4.setCell ⟨g, n, none⟩ (.int .u64 y))) := fun y => F4.out.setCell (fun o ho hb => by
        have hb : g < W.heap.size := hb
        have := F3.out.size
        omega) _
      generalize ms[n] = y0 at *
      clear O1 O2 hH hgB e1 G1 F4 F3 S3 HY hsrc hown HF
      have HSL : Hid (∀ y, (ms.set n y).length = 16) := fun y => by rw [List.length_set]; exact H16.out
      have K1 := HV.out _ _ (ms.set n (max y0 more)) _ (F5.out (max y0 more)) (HST (max y0 more)).out (HSL.out (max y0 more))
      have HQ := HYY.out (max y0 more) (by omega)
      rw [HSL.out (max y0 more)] at K1
      generalize midV (reachL zs (ms.set n (max y0 more)) zs.length) = mw at K1 HQ
      have F7 := Lib.hid (F5.out (max y0 more))
      clear F5 HYY HST HSL
      go_wp2_with fail
      with_reducible refine K1.mono ?_
      rintro e1 w5 ⟨rfl, f5⟩
      have F6 : Hid (Fr (fun b _ => b < W.heap.size) W w5) := F7.out.trans (f5.mono fun b _ hb => by have hb : b < W.heap.size := hb; have := F7.out.size; omega)
      clear f5 K1
      go_wp2
      go_ret
      exact ⟨rfl, F6.out⟩
theorem reach_main (W : World) (a0 : Option Addr) (len0 cap0 : Nat) (a1 : Option Addr) (len1 cap1 : Nat) (n more : Int) (r0 : Rd Try.prog W 22 [.slice a0 len0 cap0]) (r1 : Rd Try.prog W 26 [.slice a1 len1 cap1]) :
    Calls Try.prog 4 #[.slice a0 len0 cap0, .slice a1 len1 cap1, .int .i64 n, .int .u64 more] W fun e w' => e = .returned (.bool true) ∧ Below W.heap.size W w' := by
  obtain ⟨zs, h, hm, _⟩ := r0.is
  obtain ⟨ms, hs, hsm, hpos⟩ := r1.isU
  refine Calls.mono (R := fun e w' => e = .returned (.bool true) ∧ Fr (fun b _ => b < W.heap.size) W w') ?_ fun e w' ⟨he, hf⟩ => ⟨he, hf.below (Nat.le_refl _)⟩
  obtain rfl := h.len
  obtain rfl := hs.len
  by_cases hq : rightQ zs = true ∧ ms.length = 16 ∧ 0 ≤ n ∧ n ≤ 15
  · obtain ⟨h1, h2, h3, h4⟩ := hq
    obtain ⟨b, off, rfl⟩ := h.addr (right_all h1).2.2.1
    obtain ⟨bm, om, rfl⟩ := hs.addr (by omega)
    obtain ⟨k, rfl⟩ := Int.eq_ofNat_of_zero_le h3
    rw [h2] at hs ⊢
    exact reach_in W b off cap0 bm om cap1 k more zs ms h h1 hs h2 (by omega)
  · exact reach_out W _ a1 cap1 n more zs ms h hm hsm hq
end Go.Proofs.Ytpecpanmdjpoiaa
