/- Texts of the proofs, part 7: what the functions that they reach do, walked; no conditions beyond those that each states. -/
import Derived.Test.YtpecpanmdjpoiaaZz7eea7a740d
set_option linter.unusedVariables false
set_option linter.unusedSimpArgs false
/- The document's at, Agrees and Reached. -/
namespace Go.Proofs.Ytpecpanmdjpoiaa
open Go.RowKit
set_option linter.unusedVariables false
set_option linter.unusedSimpArgs false

set_option maxRecDepth 100000 in
theorem at_calls {K : Nat → Obj → Prop} (w : World) (vm : Value) (ms : List Int) (p : Nat) (hq : NumsAt .u64 K w vm ms) (hm : ms.length ≤ maxLen) (hp : p ≤ 15) :
    Calls Try.prog 29 #[vm, .int .i64 (p : Nat)] w fun e w' => e = .returned (.int .u64 (atU ms (p : Nat))) ∧ w = w' := by
  obtain ⟨am, cm, rfl⟩ := hq.form
  unfold maxLen at hm
  by_cases h : p < ms.length
  · obtain ⟨bm, om, rfl⟩ := hq.addr (by omega)
    have g := hq.cell h
    have ea : atU ms (p : Int) = ms[p] := by unfold atU; rw [if_pos (by omega)]; simp [h]
    have HE := Lib.hid ea
    generalize ms[p] = y at g HE
    clear ea hq
    generalize ms.length = M at *
    go_enter Try.func29, Try.ntmps29
    go_wp2
    go_ret
    exact ⟨by rw [HE.out]; rfl, rfl⟩
  · have ea : atU ms (p : Int) = 0 := by unfold atU; rw [if_neg (by omega)]
    have HE := Lib.hid ea
    clear ea hq
    generalize ms.length = M at *
    go_enter Try.func29, Try.ntmps29
    go_wp2
    go_ret
    exact ⟨by rw [HE.out]; rfl, rfl⟩

set_option maxRecDepth 100000 in
set_option maxHeartbeats 1000000 in
theorem ragrees_calls {K K' : Nat → Obj → Prop} (w : World) (b off c : Nat) (vy : Value) (zs ys : List Int) (h : IntsAt K w (.slice (some ⟨b, off, none⟩) zs.length c) zs) (hy : IntsAt K' w vy ys) (h16 : zs.length ≤ 16) (hym : ys.length ≤ maxLen) :
    Calls Try.prog 18 #[.slice (some ⟨b, off, none⟩) zs.length c, vy] w fun e w' => e = .returned (.bool (agrI zs ys)) ∧ w = w' := by
  have H := Lib.hid h
  have HH : Hid (∀ x, Calls Try.prog 25 #[vy, .int .i64 x] w fun e w' => e = .returned (.bool (hasI ys x)) ∧ w = w') := fun x => has_calls w vy ys x hy hym
  have HM := Lib.hid (rmaj_calls w (some ⟨b, off, none⟩) zs.length c (by omega))
  have HE : Hid (∀ k, k = zs.length → agrI zs ys = decide (majI zs.length ≤ (cntI (zs.take k) ys : Int))) := fun k hk => by subst hk; rw [List.take_length]; rfl
  have HL : Hid (∀ k, cntI (zs.take k) ys ≤ 16) := fun k => by
    have := List.countP_le_length (p := fun x => hasI ys x) (l := zs.take k)
    rw [List.length_take] at this
    unfold cntI; omega
  obtain ⟨N, hN⟩ : ∃ N, N = zs.length := ⟨_, rfl⟩
  have HN := Lib.hid hN
  rw [← hN] at h16 HM HE ⊢
  clear h hN hy hym
  generalize majI N = mj at *
  go_enter Try.func18, Try.ntmps18
  go_wp2_with fail
  go_loop [5, 6, 7] (fun n i _ => ∃ k : Nat, k ≤ N ∧ i = .int .i64 k ∧ n = .int .i64 (cntI (zs.take k) ys : Nat)) (fun _ i _ => N - (intOf i).toNat)
  case atStart => exact ⟨0, Nat.zero_le _, rfl, rfl⟩
  case round =>
    obtain ⟨k, hk, rfl, rfl⟩ := hrel
    have hc16 := HL.out k
    by_cases hlt : k < N
    · have l1 : k < zs.length := by rw [← HN.out]; exact hlt
      have g1 := H.out.cell l1
      have HC := Lib.hid (cntI_take zs ys k l1)
      generalize hu : zs[k] = u at g1 HC
      clear hu l1
      have K7 := HH.out u
      generalize hv : hasI ys u = bb at HC K7
      generalize hw : cntI (zs.take k) ys = cc at *
      clear hv hw
      go_wp2_with fail
      with_reducible refine K7.mono ?_
      rintro e1 w6 ⟨rfl, rfl⟩
      clear K7
      cases bb <;>
      · go_wp2
        go_round
        case rel => exact ⟨k + 1, by omega, by go_num, by rw [HC.out]; simp⟩
        case measure => simp [intOf]; omega
    · obtain rfl : k = N := by omega
      have HE2 := Lib.hid (HE.out k rfl)
      generalize hw : cntI (zs.take k) ys = cc at *
      clear hw
      go_wp2_with fail
      with_reducible refine HM.out.mono ?_
      rintro e1 w6 ⟨rfl, rfl⟩
      go_wp2
      go_ret
      exact ⟨by rw [HE2.out]; rfl, rfl⟩

theorem reachL_get (zs ms : List Int) (k : Nat) (hk : k < zs.length) (h : k < (reachL zs ms zs.length).length) : (reachL zs ms zs.length)[k] = atU ms zs[k] := by
  unfold reachL
  simp [List.getElem_map]
def cntG (l : List Int) (m : Int) (k : Nat) : Nat := (l.take k).countP fun x => decide (m ≤ x)
theorem cntG_succ (l : List Int) (m : Int) (k : Nat) (hk : k < l.length) : cntG l m (k + 1) = cntG l m k + (decide (m ≤ l[k])).toNat := by
  unfold cntG
  rw [List.take_succ_eq_append_getElem hk, List.countP_append, List.countP_singleton]
  cases decide (m ≤ l[k]) <;> rfl
theorem cntG_le (l : List Int) (m : Int) (k : Nat) : cntG l m k ≤ k := by
  have := List.countP_le_length (p := fun x => decide (m ≤ x)) (l := l.take k)
  rw [List.length_take] at this
  unfold cntG; omega

set_option maxRecDepth 100000 in
set_option maxHeartbeats 2000000 in
theorem rreached_calls {K K' : Nat → Obj → Prop} (w : World) (b off c : Nat) (vm : Value) (zs ms : List Int) (h : IntsAt K w (.slice (some ⟨b, off, none⟩) zs.length c) zs) (hq : NumsAt .u64 K' w vm ms) (hm : ms.length ≤ maxLen) (h16 : zs.length ≤ 16) (hp : ∀ x ∈ zs, 0 ≤ x ∧ x ≤ 15) :
    Calls Try.prog 19 #[.slice (some ⟨b, off, none⟩) zs.length c, vm] w fun e w' => e = .returned (.int .u64 (bestK (reachL zs ms zs.length) zs.length)) ∧ w = w' := by
  have H := Lib.hid h
  have HP := Lib.hid hp
  have HA : Hid (∀ x : Int, 0 ≤ x → x ≤ 15 → Calls Try.prog 29 #[vm, .int .i64 x] w fun e w' => e = .returned (.int .u64 (atU ms x)) ∧ w = w') := fun x h0 h1 => by
    obtain ⟨p, rfl⟩ := Int.eq_ofNat_of_zero_le h0
    exact at_calls w vm ms p hq hm (by omega)
  have HM := Lib.hid (rmaj_calls w (some ⟨b, off, none⟩) zs.length c (by omega))
  have HG : Hid (∀ k, (hk : k < zs.length) → ∃ hk2 : k < (reachL zs ms zs.length).length, (reachL zs ms zs.length)[k] = atU ms zs[k]) := fun k hk =>
    ⟨by rw [reachL_len _ _ _ (Nat.le_refl _)]; exact hk, reachL_get zs ms k hk _⟩
  have HLL := Lib.hid (reachL_len zs ms zs.length (Nat.le_refl _))
  obtain ⟨N, hN⟩ : ∃ N, N = zs.length := ⟨_, rfl⟩
  have HN := Lib.hid hN
  generalize reachL zs ms zs.length = L at *
  have HG : Hid (∀ k, (hk : k < zs.length) → ∃ hk2 : k < L.length, L[k] = atU ms zs[k]) := HG
  rw [← hN] at h16 HM HLL ⊢
  clear h hN hq hm hp
  obtain ⟨mj, hmj⟩ : ∃ mj, mj = N / 2 + 1 := ⟨_, rfl⟩
  have HMJ := Lib.hid hmj
  have e0 : majI N = (mj : Nat) := by unfold majI; omega
  rw [e0] at HM
  clear hmj e0
  go_enter Try.func19, Try.ntmps19
  go_wp2_with fail
  go_loop [5, 6, 7, 8, 9] (fun n i _ _ _ => ∃ k : Nat, k ≤ N ∧ i = .int .i64 k ∧ n = .int .u64 (bestK L k)) (fun _ i _ _ _ => N - (intOf i).toNat)
  case atStart => exact ⟨0, Nat.zero_le _, rfl, rfl⟩
  case round =>
    obtain ⟨k, hk, rfl, rfl⟩ := hrel
    by_cases hlt : k < N
    · have l1 : k < zs.length := by rw [← HN.out]; exact hlt
      have g1 := H.out.cell l1
      obtain ⟨l2, e2⟩ := HG.out k l1
      have p1 := HP.out _ (List.getElem_mem l1)
      have K1 := Lib.hid (HA.out _ p1.1 p1.2)
      have HB := Lib.hid (bestK_succ L k l2)
      rw [e2] at HB
      generalize atU ms zs[k] = m at *
      generalize zs[k] = u at *
      generalize bestK L k = bk at *
      have HB2 : Hid (bestK L (k + 1) = if mj ≤ cntG L m N ∧ bk < m then m else bk) := by
        rw [HB.out, HLL.out, ← HMJ.out, show cntG L m N = L.countP fun x => decide (m ≤ x) from by unfold cntG; rw [← HLL.out, List.take_length]]; exact rfl
      clear e2 p1 HB l1 l2
      go_wp2_with fail
      with_reducible refine K1.out.mono ?_
      rintro e1 w6 ⟨rfl, rfl⟩
      clear K1
      go_wp2_with fail
      go_loop [8, 9] (fun n i => ∃ j : Nat, j ≤ N ∧ i = .int .i64 j ∧ n = .int .i64 (cntG L m j : Nat)) (fun _ i => N - (intOf i).toNat)
      case atStart => exact ⟨0, Nat.zero_le _, rfl, rfl⟩
      case round =>
        obtain ⟨j, hj, rfl, rfl⟩ := hrel
        have hc16 := cntG_le L m j
        by_cases hlt2 : j < N
        · have l1 : j < zs.length := by rw [← HN.out]; exact hlt2
          have g2 := H.out.cell l1
          obtain ⟨l2, e2⟩ := HG.out j l1
          have p1 := HP.out _ (List.getElem_mem l1)
          have K1 := Lib.hid (HA.out _ p1.1 p1.2)
          have HC := Lib.hid (cntG_succ L m j l2)
          rw [e2] at HC
          generalize atU ms zs[j] = y at *
          generalize zs[j] = z at *
          generalize cntG L m j = cc at *
          clear e2 p1 l1 l2
          go_wp2_with fail
          with_reducible refine K1.out.mono ?_
          rintro e1 w6 ⟨rfl, rfl⟩
          clear K1
          by_cases hy : m ≤ y
          · have HC2 : Hid (cntG L m (j + 1) = cc + 1) := by rw [HC.out, decide_eq_true hy]; exact rfl
            clear HC
            go_wp2
            go_round
            case rel => exact ⟨j + 1, by omega, by go_num, by rw [HC2.out]; simp⟩
            case measure => simp [intOf]; omega
          · have HC2 : Hid (cntG L m (j + 1) = cc) := by rw [HC.out, decide_eq_false hy]; exact rfl
            clear HC
            go_wp2
            go_round
            case rel => exact ⟨j + 1, by omega, by go_num, by rw [HC2.out]⟩
            case measure => simp [intOf]; omega
        · obtain rfl : j = N := by omega
          generalize cntG L m j = cc at *
          go_wp2_with fail
          with_reducible refine HM.out.mono ?_
          rintro e1 w6 ⟨rfl, rfl⟩
          by_cases h1 : mj ≤ cc
          · by_cases h2 : bk < m
            · have HB3 : Hid (bestK L (k + 1) = m) := by rw [HB2.out, if_pos ⟨h1, h2⟩]; exact rfl
              clear HB2
              go_wp2
              go_round
              case rel => exact ⟨k + 1, by omega, by go_num, by rw [HB3.out]⟩
              case measure => simp [intOf]; omega
            · have HB3 : Hid (bestK L (k + 1) = bk) := by rw [HB2.out, if_neg (fun q => h2 q.2)]; exact rfl
              clear HB2
              go_wp2
              go_round
              case rel => exact ⟨k + 1, by omega, by go_num, by rw [HB3.out]⟩
              case measure => simp [intOf]; omega
          · have HB3 : Hid (bestK L (k + 1) = bk) := by rw [HB2.out, if_neg (fun q => h1 q.1)]; exact rfl
            clear HB2
            go_wp2
            go_round
            case rel => exact ⟨k + 1, by omega, by go_num, by rw [HB3.out]⟩
            case measure => simp [intOf]; omega
    · obtain rfl : k = N := by omega
      go_wp2
      go_ret
      exact ⟨rfl, rfl⟩
end Go.Proofs.Ytpecpanmdjpoiaa
/- Law 10: whether members are a group, how many are enough, whether enough say yes, and what enough have reached, is as the document says. -/
namespace Go.Proofs.Ytpecpanmdjpoiaa
open Go.RowKit
set_option linter.unusedVariables false
set_option linter.unusedSimpArgs false

theorem size_u64c : Try.prog.cellsOf 27 = 1 := by kernel_rfl
theorem Rd.isU {w : World} {v : Value} (h : Rd Try.prog w 26 [v]) : ∃ zs, NumsAt .u64 (fun b _ => b < w.heap.size) w v zs ∧ zs.length ≤ maxLen ∧ ∀ x ∈ zs, 0 ≤ x ∧ x ≤ 18446744073709551615 := by
  obtain ⟨zs, h1, h2, h3⟩ := Rd.nums Try.underlying26 Try.underlying27 size_u64c h
  refine ⟨zs, h1, h2, fun x hx => ?_⟩
  have := h3 x hx
  rw [Lit.wf, Bool.and_eq_true, decide_eq_true_eq, decide_eq_true_eq] at this
  exact this
theorem atU_pos {ms : List Int} (h : ∀ x ∈ ms, 0 ≤ x) (n : Int) : 0 ≤ atU ms n := by
  unfold atU
  split
  · by_cases hn : n.toNat < ms.length
    · have : ms.getD n.toNat 0 = ms[n.toNat] := by simp [List.getD, hn]
      rw [this]; exact h _ (List.getElem_mem hn)
    · simp [List.getD, List.getElem?_eq_none (Nat.le_of_not_lt hn)]
  · exact Int.le_refl _

set_option maxRecDepth 100000 in
theorem tells_wrong (W : World) (v vy vm : Value) (zs : List Int) (h : IntsAt (fun b _ => b < W.heap.size) W v zs) (hm : zs.length ≤ maxLen) (hr : rightQ zs = false) :
    Calls Try.prog 5 #[v, vy, vm] W fun e w' => e = .returned (.bool true) ∧ Fr (fun b _ => b < W.heap.size) W w' := by
  have HA := Lib.hid (awake_calls W)
  have HR := fun w' (f : Hid (Fr (fun b _ => b < W.heap.size) W w')) => Lib.hid (rright_calls w' v zs (h.fr f.out fun _ _ h => h) hm)
  have HQ := fun w' (f : Hid (Fr (fun b _ => b < W.heap.size) W w')) => Lib.hid (right_calls w' v zs (h.fr f.out fun _ _ h => h) hm)
  rw [hr] at HR HQ
  clear h hm hr
  go_enter Try.func5, Try.ntmps5
  go_wp2_with fail
  with_reducible refine HA.out.mono ?_
  rintro e1 w1 ⟨rfl, f1⟩
  have F1 := Lib.hid f1
  clear f1 HA
  have HR1 := HQ w1 F1
  go_wp2_with fail
  with_reducible refine HR1.out.mono ?_
  rintro e1 w2 ⟨rfl, rfl⟩
  clear HR1 HQ
  have HR1 := HR w1 F1
  go_wp2_with fail
  with_reducible refine HR1.out.mono ?_
  rintro e1 w2 ⟨rfl, rfl⟩
  clear HR1 HR
  go_wp2
  go_ret
  exact ⟨rfl, F1.out⟩

set_option maxRecDepth 100000 in
set_option maxHeartbeats 2000000 in
theorem tells_right (W : World) (b off c : Nat) (vy vm : Value) (zs ys ms : List Int) (h : IntsAt (fun b _ => b < W.heap.size) W (.slice (some ⟨b, off, none⟩) zs.length c) zs) (hr : rightQ zs = true)
    (hy : IntsAt (fun b _ => b < W.heap.size) W vy ys) (hym : ys.length ≤ maxLen) (hs : NumsAt .u64 (fun b _ => b < W.heap.size) W vm ms) (hsm : ms.length ≤ maxLen) (hpos : ∀ x ∈ ms, 0 ≤ x) :
    Calls Try.prog 5 #[.slice (some ⟨b, off, none⟩) zs.length c, vy, vm] W fun e w' => e = .returned (.bool true) ∧ Fr (fun b _ => b < W.heap.size) W w' := by
  obtain ⟨hp, hrg, hl0, h16⟩ := right_all hr
  have hm : zs.length ≤ maxLen := by unfold maxLen; omega
  have HA := Lib.hid (awake_calls W)
  have HR : Hid (∀ w', Fr (fun b _ => b < W.heap.size) W w' → Calls Try.prog 10 #[.slice (some ⟨b, off, none⟩) zs.length c] w' fun e w'' => e = .returned (.bool true) ∧ w' = w'') := fun w' f => by
    have := rright_calls w' _ zs (h.fr f fun _ _ h => h) hm
    rwa [hr] at this
  have HQ : Hid (∀ w', Fr (fun b _ => b < W.heap.size) W w' → Calls Try.prog 15 #[.slice (some ⟨b, off, none⟩) zs.length c] w' fun e w'' => e = .returned (.bool true) ∧ w' = w'') := fun w' f => by
    have := right_calls w' _ zs (h.fr f fun _ _ h => h) hm
    rwa [hr] at this
  have HM : Hid (∀ w', Calls Try.prog 16 #[.slice (some ⟨b, off, none⟩) zs.length c] w' fun e w'' => e = .returned (.int .i64 (majI zs.length)) ∧ w' = w'') := fun w' => maj_calls w' _ _ _ (by unfold maxLen at hm; omega)
  have HM2 : Hid (∀ w', Calls Try.prog 17 #[.slice (some ⟨b, off, none⟩) zs.length c] w' fun e w'' => e = .returned (.int .i64 (majI zs.length)) ∧ w' = w'') := fun w' => rmaj_calls w' _ _ _ (by omega)
  have HG : Hid (∀ w', Fr (fun b _ => b < W.heap.size) W w' → Calls Try.prog 14 #[.slice (some ⟨b, off, none⟩) zs.length c, vy] w' fun e w'' => e = .returned (.bool (agrI zs ys)) ∧ w' = w'') := fun w' f =>
    agrees_calls w' _ _ zs ys (h.fr f fun _ _ h => h) (hy.fr f fun _ _ h => h) hm hym
  have HG2 : Hid (∀ w', Fr (fun b _ => b < W.heap.size) W w' → Calls Try.prog 18 #[.slice (some ⟨b, off, none⟩) zs.length c, vy] w' fun e w'' => e = .returned (.bool (agrI zs ys)) ∧ w' = w'') := fun w' f =>
    ragrees_calls w' b off c _ zs ys (h.fr f fun _ _ h => h) (hy.fr f fun _ _ h => h) h16 hym
  have HV : Hid (∀ w', Fr (fun b _ => b < W.heap.size) W w' → Calls Try.prog 13 #[.slice (some ⟨b, off, none⟩) zs.length c, vm] w' fun e w'' => e = .returned (.int .u64 (midV (reachL zs ms zs.length))) ∧ Fr (fun b _ => b < w'.heap.size) w' w'') := fun w' f =>
    reached_calls w' b off c vm zs ms (h.fr f fun _ _ h => h) (hs.fr f fun _ _ h => h) hsm hl0 h16 fun x hx => (hrg x hx).1
  have HV2 : Hid (∀ w', Fr (fun b _ => b < W.heap.size) W w' → Calls Try.prog 19 #[.slice (some ⟨b, off, none⟩) zs.length c, vm] w' fun e w'' => e = .returned (.int .u64 (midV (reachL zs ms zs.length))) ∧ w' = w'') := fun w' f => by
    have := rreached_calls w' b off c vm zs ms (h.fr f fun _ _ h => h) (hs.fr f fun _ _ h => h) hsm h16 hrg
    have hL := reachL_len zs ms zs.length (Nat.le_refl _)
    have e := best_eq (l := reachL zs ms zs.length) (by omega) (fun x hx => by
      unfold reachL at hx
      obtain ⟨y, _, rfl⟩ := List.mem_map.1 hx
      exact atU_pos hpos y)
    rw [hL] at e
    rwa [e] at this
  generalize majI zs.length = mj at *
  generalize agrI zs ys = ag at *
  generalize midV (reachL zs ms zs.length) = mv at *
  obtain ⟨vc, hvc⟩ : ∃ vc, vc = (.slice (some ⟨b, off, none⟩) zs.length c : Value) := ⟨_, rfl⟩
  rw [← hvc] at HR HQ HM HM2 HG HG2 HV HV2 ⊢
  clear h hy hs hr hp hrg hm hl0 h16 hvc hym hsm hpos
  go_enter Try.func5, Try.ntmps5
  go_wp2_with fail
  with_reducible refine HA.out.mono ?_
  rintro e1 w1 ⟨rfl, f1⟩
  have F1 := Lib.hid f1
  clear f1 HA
  have K1 := HQ.out w1 F1.out
  go_wp2_with fail
  with_reducible refine K1.mono ?_
  rintro e1 w2 ⟨rfl, rfl⟩
  clear K1 HQ
  have K1 := HR.out w1 F1.out
  go_wp2_with fail
  with_reducible refine K1.mono ?_
  rintro e1 w2 ⟨rfl, rfl⟩
  clear K1 HR
  have K1 := HM.out w1
  go_wp2_with fail
  with_reducible refine K1.mono ?_
  rintro e1 w2 ⟨rfl, rfl⟩
  clear K1 HM
  have K1 := HG.out w1 F1.out
  go_wp2_with fail
  with_reducible refine K1.mono ?_
  rintro e1 w2 ⟨rfl, rfl⟩
  clear K1 HG
  have K1 := HV.out w1 F1.out
  go_wp2_with fail
  with_reducible refine K1.mono ?_
  rintro e1 w2 ⟨rfl, f2⟩
  have F2 : Hid (Fr (fun b _ => b < W.heap.size) W w2) := F1.out.trans (f2.mono fun b _ hb => by have hb : b < W.heap.size := hb; have := F1.out.size; omega)
  clear K1 HV f2 F1
  have K1 := HM2.out w2
  have K2 := HG2.out w2 F2.out
  have K3 := HV2.out w2 F2.out
  go_wp2_with fail
  with_reducible refine K1.mono ?_
  rintro e1 w3 ⟨rfl, rfl⟩
  go_wp2_with fail
  with_reducible refine K2.mono ?_
  rintro e1 w3 ⟨rfl, rfl⟩
  go_wp2_with fail
  with_reducible refine K3.mono ?_
  rintro e1 w3 ⟨rfl, rfl⟩
  clear K1 K2 K3 HM2 HG2 HV2
  cases ag <;>
  · go_wp2
    go_ret
    exact ⟨rfl, F2.out⟩
theorem tells_main (W : World) (a0 : Option Addr) (len0 cap0 : Nat) (a1 : Option Addr) (len1 cap1 : Nat) (a2 : Option Addr) (len2 cap2 : Nat) (r0 : Rd Try.prog W 22 [.slice a0 len0 cap0]) (r1 : Rd Try.prog W 22 [.slice a1 len1 cap1]) (r2 : Rd Try.prog W 26 [.slice a2 len2 cap2]) :
    Calls Try.prog 5 #[.slice a0 len0 cap0, .slice a1 len1 cap1, .slice a2 len2 cap2] W fun e w' => e = .returned (.bool true) ∧ Below W.heap.size W w' := by
  obtain ⟨zs, h, hm, _⟩ := r0.is
  obtain ⟨ys, hy, hym, _⟩ := r1.is
  obtain ⟨ms, hs, hsm, hpos⟩ := r2.isU
  refine Calls.mono (R := fun e w' => e = .returned (.bool true) ∧ Fr (fun b _ => b < W.heap.size) W w') ?_ fun e w' ⟨he, hf⟩ => ⟨he, hf.below (Nat.le_refl _)⟩
  obtain rfl := h.len
  cases hr : rightQ zs with
  | false => exact tells_wrong W _ _ _ zs h hm hr
  | true =>
    obtain ⟨b, off, rfl⟩ := h.addr (right_all hr).2.2.1
    exact tells_right W b off cap0 _ _ zs ys ms h hr hy hym hs hsm fun x hx => (hpos x hx).1
end Go.Proofs.Ytpecpanmdjpoiaa
