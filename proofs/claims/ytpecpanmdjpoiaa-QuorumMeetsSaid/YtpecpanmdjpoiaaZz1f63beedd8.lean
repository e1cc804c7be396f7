/- Texts of the proofs, part 4: what the functions that they reach do, walked; no conditions beyond those that each states. -/
import Derived.Test.YtpecpanmdjpoiaaZz99e709aa51
set_option linter.unusedVariables false
set_option linter.unusedSimpArgs false
/- Law 10: whether all majorities of two groups meet: by counting, and by trying all: plainly. -/
namespace Go.Proofs.Ytpecpanmdjpoiaa
open Go.RowKit
set_option linter.unusedVariables false
set_option linter.unusedSimpArgs false

theorem take_snocI (zs : List Int) (k : Nat) (hk : k < zs.length) : zs.take (k + 1) = zs.take k ++ [zs[k]] := List.take_succ_eq_append_getElem hk
theorem partL_sub (zs : List Int) (s : Nat) : ∀ k, k ≤ zs.length → (partL zs s k).Sublist (zs.take k)
  | 0, _ => by simp [partL]
  | k + 1, h => by
    have ih := partL_sub zs s k (by omega)
    rw [take_snocI zs k (by omega)]
    unfold partL
    refine ih.append ?_
    split
    · rw [show zs.getD k 0 = zs[k] from by simp [List.getD, show k < zs.length by omega]]
      exact List.Sublist.refl _
    · exact List.nil_sublist _
theorem bit_tb (s i : Nat) : (s / 2 ^ i % 2 == 1) = s.testBit i := by rw [Nat.testBit_eq_decide_div_mod_eq, Bool.eq_iff_iff]; simp
theorem partL_congr (zs : List Int) (s t : Nat) : ∀ k, (∀ i, i < k → s.testBit i = t.testBit i) → partL zs s k = partL zs t k
  | 0, _ => rfl
  | k + 1, h => by
    unfold partL
    rw [partL_congr zs s t k fun i hi => h i (by omega), bit_tb, bit_tb, h k (by omega)]
theorem part_of (zs : List Int) (p : Int → Bool) : ∀ k, k ≤ zs.length → ∃ s, s < 2 ^ k ∧ partL zs s k = (zs.take k).filter p
  | 0, _ => ⟨0, by decide, by simp [partL]⟩
  | k + 1, h => by
    obtain ⟨s, hs, e⟩ := part_of zs p k (by omega)
    have hg : zs.getD k 0 = zs[k] := by simp [List.getD, show k < zs.length by omega]
    rw [take_snocI zs k (by omega), List.filter_append]
    cases hp : p zs[k] with
    | false =>
      refine ⟨s, by rw [Nat.pow_succ]; omega, ?_⟩
      unfold partL
      rw [e, bit_tb, Nat.testBit_lt_two_pow hs]
      simp [hp]
    | true =>
      refine ⟨2 ^ k + s, by rw [Nat.pow_succ]; omega, ?_⟩
      unfold partL
      rw [bit_tb, Nat.testBit_two_pow_add_eq, Nat.testBit_lt_two_pow hs, hg]
      rw [partL_congr zs (2 ^ k + s) s k fun i hi => Nat.testBit_two_pow_add_gt hi s, e]
      simp [hp]

theorem cnt_swap {a b : List Int} (ha : a.Pairwise (· < ·)) (hb : b.Pairwise (· < ·)) (r : Int → Bool) : a.filter (fun c => hasI b c && r c) = b.filter (fun c => hasI a c && r c) := by
  refine sorted_ext (ha.sublist List.filter_sublist) (hb.sublist List.filter_sublist) fun x => ?_
  simp only [List.mem_filter, Bool.and_eq_true, hasI_mem]
  constructor <;> (rintro ⟨h1, h2, h3⟩; exact ⟨h2, h1, h3⟩)
theorem cnt_swapN {a b : List Int} (ha : a.Pairwise (· < ·)) (hb : b.Pairwise (· < ·)) (r : Int → Bool) : a.countP (fun c => hasI b c && r c) = b.countP (fun c => hasI a c && r c) := by
  rw [List.countP_eq_length_filter, List.countP_eq_length_filter, cnt_swap ha hb r]
theorem cnt_comm {a b : List Int} (ha : a.Pairwise (· < ·)) (hb : b.Pairwise (· < ·)) : cntI a b = cntI b a := by
  have := cnt_swapN ha hb fun _ => true
  simpa [cntI] using this
theorem cnt_not (l b : List Int) : l.countP (fun c => !hasI b c) + l.countP (fun c => hasI b c) = l.length := by
  have := List.length_eq_countP_add_countP (fun c => hasI b c) (l := l)
  simp at this
  omega
/-- Whether two lists have a member in common. -/
def anyQ (x y : List Int) (k : Nat) : Bool := (x.take k).any fun c => hasI y c
theorem anyQ_succ (x y : List Int) (k : Nat) (hk : k < x.length) : anyQ x y (k + 1) = (anyQ x y k || hasI y x[k]) := by
  unfold anyQ
  rw [take_snocI x k hk, List.any_append]
  simp
theorem anyQ_all {x y : List Int} : anyQ x y x.length = true ↔ ∃ c ∈ x, c ∈ y := by
  unfold anyQ
  rw [List.take_length, List.any_eq_true]
  constructor
  · rintro ⟨c, h1, h2⟩; exact ⟨c, h1, hasI_mem.1 h2⟩
  · rintro ⟨c, h1, h2⟩; exact ⟨c, h1, hasI_mem.2 h2⟩
/-- The sublists part count. -/
theorem sub_cnt {x a : List Int} (hs : x.Sublist a) (b : List Int) : x.countP (fun c => hasI b c) ≤ a.countP (fun c => hasI b c && hasI x c) := by
  have h : x.countP (fun c => hasI b c) = x.countP (fun c => hasI b c && hasI x c) := by
    refine List.countP_congr fun c hc => ?_
    simp [hasI_mem.2 hc]
  rw [h]
  exact hs.countP_le
theorem meet_forces {a b x y : List Int} (ha : a.Pairwise (· < ·)) (hb : b.Pairwise (· < ·)) (hm : meetI a b = true) (hx : x.Sublist a) (hy : y.Sublist b) (lx : majI a.length ≤ x.length) (ly : majI b.length ≤ y.length) : ∃ c ∈ x, c ∈ y := by
  apply Classical.byContradiction
  intro hno
  have c1 := cnt_not x b
  have c2 := cnt_not y a
  have c3 := cnt_not a b
  have c4 := cnt_not b a
  have d1 : x.countP (fun c => !hasI b c) ≤ a.countP (fun c => !hasI b c) := hx.countP_le
  have d2 : y.countP (fun c => !hasI a c) ≤ b.countP (fun c => !hasI a c) := hy.countP_le
  have e1 := sub_cnt hx b
  have e2 := sub_cnt hy a
  rw [← cnt_swapN ha hb] at e2
  have f : cntI a b = cntI b a := cnt_comm ha hb
  have g := two_counts (fun c => hasI x c) (fun c => hasI y c) (a.filter fun c => hasI b c) fun c _ h => hno ⟨c, hasI_mem.1 h.1, hasI_mem.1 h.2⟩
  rw [List.countP_filter, List.countP_filter, ← List.countP_eq_length_filter] at g
  have g1 : a.countP (fun c => hasI x c && hasI b c) = a.countP (fun c => hasI b c && hasI x c) := List.countP_congr fun c _ => by rw [Bool.and_comm]
  have g2 : a.countP (fun c => hasI y c && hasI b c) = a.countP (fun c => hasI b c && hasI y c) := List.countP_congr fun c _ => by rw [Bool.and_comm]
  rw [g1, g2] at g
  unfold meetI at hm
  rw [decide_eq_true_eq] at hm
  have q1 : cntI a b = a.countP (fun c => hasI b c) := rfl
  have q2 : cntI b a = b.countP (fun c => hasI a c) := rfl
  omega
theorem cnt_or (l : List Int) (b C : List Int) : l.countP (fun c => !hasI b c || hasI C c) = l.countP (fun c => !hasI b c) + l.countP (fun c => hasI b c && hasI C c) := by
  induction l with
  | nil => rfl
  | cons x r ih =>
    simp only [List.countP_cons, ih]
    cases hasI b x <;> cases hasI C x <;> simp <;> omega
theorem meet_fails {a b : List Int} (ha : a.Pairwise (· < ·)) (hb : b.Pairwise (· < ·)) (hm : meetI a b = false) : ∃ p q : Int → Bool, majI a.length ≤ (a.filter p).length ∧ majI b.length ≤ (b.filter q).length ∧ ¬ ∃ c ∈ a.filter p, c ∈ b.filter q := by
  unfold meetI at hm
  rw [decide_eq_false_iff_not] at hm
  have c3 := cnt_not a b
  have c4 := cnt_not b a
  have f : cntI a b = cntI b a := cnt_comm ha hb
  have q1 : cntI a b = a.countP (fun c => hasI b c) := rfl
  have q2 : cntI b a = b.countP (fun c => hasI a c) := rfl
  obtain ⟨C, hC⟩ : ∃ C, C = a.filter fun c => hasI b c := ⟨_, rfl⟩
  have lC : C.length = cntI a b := by rw [hC, ← List.countP_eq_length_filter]; rfl
  have pC : C.Pairwise (· < ·) := by rw [hC]; exact ha.sublist List.filter_sublist
  obtain ⟨p, hp⟩ : ∃ p : Nat, p = (majI a.length - ((a.length : Int) - cntI a b)).toNat := ⟨_, rfl⟩
  have hle : p ≤ C.length := by omega
  have k1 : a.countP (fun c => hasI b c && hasI (C.take p) c) ≥ p := by
    have : a.countP (fun c => hasI b c && hasI (C.take p) c) = C.countP (fun c => hasI (C.take p) c) := by
      rw [hC, List.countP_filter]; exact List.countP_congr fun c _ => by rw [Bool.and_comm]
    rw [this]
    have h1 : (C.take p).countP (fun c => hasI (C.take p) c) = (C.take p).length := List.countP_eq_length.2 fun c hc => hasI_mem.2 hc
    have h2 : (C.take p).countP (fun c => hasI (C.take p) c) ≤ C.countP (fun c => hasI (C.take p) c) := (List.take_sublist p C).countP_le
    rw [h1, List.length_take] at h2
    omega
  have k2 : b.countP (fun c => hasI a c && hasI (C.drop p) c) ≥ C.length - p := by
    rw [← cnt_swapN ha hb]
    have : a.countP (fun c => hasI b c && hasI (C.drop p) c) = C.countP (fun c => hasI (C.drop p) c) := by
      rw [hC, List.countP_filter]; exact List.countP_congr fun c _ => by rw [Bool.and_comm]
    rw [this]
    have h1 : (C.drop p).countP (fun c => hasI (C.drop p) c) = (C.drop p).length := List.countP_eq_length.2 fun c hc => hasI_mem.2 hc
    have h2 : (C.drop p).countP (fun c => hasI (C.drop p) c) ≤ C.countP (fun c => hasI (C.drop p) c) := (List.drop_sublist p C).countP_le
    rw [h1, List.length_drop] at h2
    omega
  refine ⟨fun c => !hasI b c || hasI (C.take p) c, fun c => !hasI a c || hasI (C.drop p) c, ?_, ?_, ?_⟩
  · rw [← List.countP_eq_length_filter, cnt_or]; omega
  · rw [← List.countP_eq_length_filter, cnt_or]; omega
  · rintro ⟨c, h1, h2⟩
    rw [List.mem_filter] at h1 h2
    have m1 : hasI a c = true := hasI_mem.2 h1.1
    have m2 : hasI b c = true := hasI_mem.2 h2.1
    have n1 : c ∈ C.take p := by have := h1.2; simp [m2] at this; exact hasI_mem.1 this
    have n2 : c ∈ C.drop p := by have := h2.2; simp [m1] at this; exact hasI_mem.1 this
    have pC' := pC
    rw [← List.take_append_drop p C] at pC'
    have := (List.pairwise_append.1 pC').2.2 c n1 c n2
    omega

/-- A set of the second one is too small, or has a member in common with x. -/
def okT (x b : List Int) (t : Nat) : Bool := decide (((partL b t b.length).length : Int) < majI b.length) || anyQ x (partL b t b.length) x.length
def okS (a b : List Int) (s : Nat) : Bool := decide (((partL a s a.length).length : Int) < majI a.length) || (List.range (2 ^ b.length)).all fun t => okT (partL a s a.length) b t
def rmeet (a b : List Int) : Bool := (List.range (2 ^ a.length)).all fun s => okS a b s
theorem rmeet_eq {a b : List Int} (ha : rightQ a = true) (hb : rightQ b = true) : rmeet a b = meetI a b := by
  have pa := (right_all ha).1
  have pb := (right_all hb).1
  cases hm : meetI a b with
  | true =>
    unfold rmeet
    rw [List.all_eq_true]
    intro s _
    unfold okS
    by_cases h1 : ((partL a s a.length).length : Int) < majI a.length
    · simp [h1]
    · rw [Bool.or_eq_true]; right
      rw [List.all_eq_true]
      intro t _
      unfold okT
      by_cases h2 : ((partL b t b.length).length : Int) < majI b.length
      · simp [h2]
      · rw [Bool.or_eq_true]; right
        rw [anyQ_all]
        have s1 := partL_sub a s a.length (Nat.le_refl _)
        have s2 := partL_sub b t b.length (Nat.le_refl _)
        rw [List.take_length] at s1 s2
        exact meet_forces pa pb hm s1 s2 (by omega) (by omega)
  | false =>
    obtain ⟨p, q, h1, h2, h3⟩ := meet_fails pa pb hm
    obtain ⟨s, hs, es⟩ := part_of a p a.length (Nat.le_refl _)
    obtain ⟨t, ht, et⟩ := part_of b q b.length (Nat.le_refl _)
    rw [List.take_length] at es et
    have : okS a b s = false := by
      unfold okS
      rw [es, Bool.or_eq_false_iff]
      refine ⟨by rw [decide_eq_false_iff_not]; omega, ?_⟩
      rw [List.all_eq_false]
      refine ⟨t, by simpa using ht, ?_⟩
      unfold okT
      rw [et, Bool.not_eq_true, Bool.or_eq_false_iff]
      refine ⟨by rw [decide_eq_false_iff_not]; omega, ?_⟩
      rw [← Bool.not_eq_true, anyQ_all]
      exact h3
    unfold rmeet
    rw [List.all_eq_false]
    exact ⟨s, by simpa using hs, by rw [this]; decide⟩
end Go.Proofs.Ytpecpanmdjpoiaa
/- Law 10: the document's Meet: by trying all pairs of majorities. -/
namespace Go.Proofs.Ytpecpanmdjpoiaa
open Go.RowKit
set_option linter.unusedVariables false
set_option linter.unusedSimpArgs false

theorem sets_of (N : Nat) (h : N ≤ 7) : ∃ S : Nat, S = 2 ^ N ∧ S ≤ 128 ∧ wrap64 (2 ^ N) = (S : Int) := by
  refine ⟨2 ^ N, rfl, ?_, ?_⟩
  · exact Nat.pow_le_pow_right (n := 2) (by decide) h
  · have h1 : (2 : Nat) ^ N ≤ 128 := Nat.pow_le_pow_right (n := 2) (by decide) h
    have e : (2 : Int) ^ N = ((2 ^ N : Nat) : Int) := by norm_cast
    have h2 : (0 : Int) ≤ ((2 ^ N : Nat) : Int) := Int.natCast_nonneg _
    have h3 : ((2 ^ N : Nat) : Int) ≤ 128 := by exact_mod_cast h1
    rw [e]
    generalize ((2 ^ N : Nat) : Int) = z at *
    exact IntWalk.wrap64_in _ ⟨by omega, by omega⟩
set_option maxRecDepth 100000 in
set_option maxHeartbeats 4000000 in
theorem rmeet_calls {K K' : Nat → Obj → Prop} (w : World) (b off c b' off' c' : Nat) (zs ys : List Int) (h : IntsAt K w (.slice (some ⟨b, off, none⟩) zs.length c) zs) (hy : IntsAt K' w (.slice (some ⟨b', off', none⟩) ys.length c') ys) (hm : zs.length ≤ 7) (hmy : ys.length ≤ 7) :
    Calls Try.prog 12 #[.slice (some ⟨b, off, none⟩) zs.length c, .slice (some ⟨b', off', none⟩) ys.length c'] w fun e w' => e = .returned (.bool (rmeet zs ys)) ∧ Fr (fun _ _ => True) w w' := by
  have P1 : Hid (∀ w' (s : Nat), Fr (fun _ _ => True) w w' → s ≤ 128 → Calls Try.prog 27 #[.slice (some ⟨b, off, none⟩) zs.length c, .int .i64 (s : Nat)] w' fun e w'' => (∃ v, e = .returned v ∧ RowI w'' w'.heap.size v (partL zs s zs.length)) ∧ Fr (fun _ _ => True) w' w'') := fun w' s f hs => part_loop w' b off c zs s (h.tt f) hm hs
  have P2 : Hid (∀ w' (s : Nat), Fr (fun _ _ => True) w w' → s ≤ 128 → Calls Try.prog 27 #[.slice (some ⟨b', off', none⟩) ys.length c', .int .i64 (s : Nat)] w' fun e w'' => (∃ v, e = .returned v ∧ RowI w'' w'.heap.size v (partL ys s ys.length)) ∧ Fr (fun _ _ => True) w' w'') := fun w' s f hs => part_loop w' b' off' c' ys s (hy.tt f) hmy hs
  have PL1 : Hid (∀ s, (partL zs s zs.length).length ≤ 7) := fun s => by have := partL_len zs s zs.length; omega
  have PL2 : Hid (∀ s, (partL ys s ys.length).length ≤ 7) := fun s => by have := partL_len ys s ys.length; omega
  have OS : Hid (∀ s, okS zs ys s = (decide (((partL zs s zs.length).length : Int) < majI zs.length) || (List.range (2 ^ ys.length)).all fun t => okT (partL zs s zs.length) ys t)) := fun s => rfl
  have OT : Hid (∀ x t, okT x ys t = (decide (((partL ys t ys.length).length : Int) < majI ys.length) || anyQ x (partL ys t ys.length) x.length)) := fun x t => rfl
  obtain ⟨S, hS, hS128, wS⟩ := sets_of zs.length hm
  obtain ⟨T, hT, hT128, wT⟩ := sets_of ys.length hmy
  have RM : Hid ((∀ s, s < S → okS zs ys s = true) → rmeet zs ys = true) := fun q => by
    unfold rmeet; rw [List.all_eq_true]; intro s hs; exact q s (by rw [hS]; simpa using hs)
  have RF : Hid (∀ s, s < S → okS zs ys s = false → rmeet zs ys = false) := fun s hs q => by
    unfold rmeet; rw [List.all_eq_false]; exact ⟨s, by rw [hS] at hs; simpa using hs, by rw [q]; decide⟩
  have OS1 : Hid (∀ s, ((partL zs s zs.length).length : Int) < majI zs.length → okS zs ys s = true) := fun s hs => by rw [OS.out]; simp [hs]
  have OS2 : Hid (∀ s, (∀ t, t < T → okT (partL zs s zs.length) ys t = true) → okS zs ys s = true) := fun s q => by
    rw [OS.out, Bool.or_eq_true, List.all_eq_true]; right; intro t ht; exact q t (by rw [hT]; simpa using ht)
  have OS3 : Hid (∀ s t, ¬ ((partL zs s zs.length).length : Int) < majI zs.length → t < T → okT (partL zs s zs.length) ys t = false → okS zs ys s = false) := fun s t h1 h2 h3 => by
    rw [OS.out, Bool.or_eq_false_iff, List.all_eq_false]; exact ⟨by simpa using h1, t, by rw [hT] at h2; simpa using h2, by rw [h3]; decide⟩
  have HM1 := Lib.hid (fun w' => rmaj_calls w' (some ⟨b, off, none⟩) zs.length c (by omega))
  have HM2 := Lib.hid (fun w' => rmaj_calls w' (some ⟨b', off', none⟩) ys.length c' (by omega))
  generalize majI zs.length = mA at *
  generalize majI ys.length = mB at *
  generalize hN : zs.length = N at *
  generalize hM : ys.length = M at *
  clear h hy hS hT hN hM OS
  go_enter Try.func12, Try.ntmps12
  go_wp2_with fail
  go_loopw [5, 6, 7, 8, 9, 10, 11] (fun i _ _ _ _ _ _ wr => ∃ (s : Nat), s ≤ S ∧ i = .int .i64 s ∧ (∀ t, t < s → okS zs ys t = true) ∧ Fr (fun _ _ => True) w wr) (fun i _ _ _ _ _ _ _ => S - (intOf i).toNat)
  case atStart => exact ⟨0, Nat.zero_le _, rfl, fun t ht => absurd ht (Nat.not_lt_zero t), Fr.refl _ _⟩
  case round =>
    obtain ⟨s, hs, rfl, ho, hf⟩ := hrel
    have HO := Lib.hid ho
    have HF := Lib.hid hf
    clear ho hf
    by_cases hlt : s < S
    · have K1 := Lib.hid (P1.out wr s HF.out (by omega))
      have OS1 := Lib.hid (OS1.out s)
      have OS2 := Lib.hid (OS2.out s)
      have OS3 := Lib.hid (OS3.out s)
      have RF := Lib.hid (RF.out s hlt)
      have PL1 := Lib.hid (PL1.out s)
      generalize partL zs s N = x at *
      go_wp2_with fail
      with_reducible refine K1.out.mono ?_
      rintro e1 w1 ⟨⟨v, rfl, hv⟩, f1⟩
      have HV := Lib.hid hv.ints
      have F1 := Lib.hid (HF.out.trans f1)
      obtain ⟨xa, xc, rfl⟩ := hv.form
      clear hv f1 HF K1 P1
      have OT := Lib.hid (OT.out x)
      have L7 := PL1.out
      generalize hX : x.length = X at *
      have HX := Lib.hid hX
      clear hX
      have K2 := HM1.out w1
      go_wp2_with fail
      with_reducible refine K2.mono ?_
      rintro e1 w2 ⟨rfl, rfl⟩
      clear K2 HM1
      by_cases hA : (X : Int) < mA
      · have hA' : Hid (∀ t, t < s + 1 → okS zs ys t = true) := fun t ht => by
          rcases Nat.lt_or_ge t s with q | q
          · exact HO.out t q
          · obtain rfl : t = s := by omega
            exact OS1.out hA
        go_wp2_with fail
        go_roundw
        case rel => exact ⟨s + 1, by omega, by go_num, hA'.out, F1.out⟩
        case measure => simp [intOf]; omega
      · go_wp2_with fail
        obtain ⟨wo, hwo⟩ : ∃ wo : World, wo = w1 := ⟨_, rfl⟩
        have HWO := Lib.hid hwo
        clear hwo
        go_loopw [7, 8, 9, 10, 11] (fun i _ _ _ _ wr => ∃ (t : Nat), t ≤ T ∧ i = .int .i64 t ∧ (∀ t', t' < t → okT x ys t' = true) ∧ Fr (fun _ _ => True) w wr ∧ Fr (fun _ _ => True) w1 wr) (fun i _ _ _ _ _ => T - (intOf i).toNat)
        case atStart => exact ⟨0, Nat.zero_le _, rfl, fun t ht => absurd ht (Nat.not_lt_zero t), F1.out, Fr.refl _ _⟩
        case round =>
          obtain ⟨t, ht, rfl, hto, hf, hf1⟩ := hrel
          have TO := Lib.hid hto
          have G := Lib.hid hf
          have HV := Lib.hid (HV.out.tt hf1)
          have G1 := Lib.hid hf1
          clear hto hf hf1
          by_cases hlt' : t < T
          · have K1 := Lib.hid (P2.out wr t G.out (by omega))
            have OT := Lib.hid (OT.out t)
            have PL2 := Lib.hid (PL2.out t)
            generalize partL ys t M = y at *
            go_wp2_with fail
            with_reducible refine K1.out.mono ?_
            rintro e1 w2 ⟨⟨v, rfl, hv⟩, f1⟩
            have HVY := Lib.hid hv.ints
            have G2 := Lib.hid (G.out.trans f1)
            have G3 := Lib.hid (G1.out.trans f1)
            have HV := Lib.hid (HV.out.tt f1)
            obtain ⟨ya, yc, rfl⟩ := hv.form
            clear hv f1 K1 P2 G G1
            have L7y := PL2.out
            generalize hY : y.length = Y at *
            have HYL := Lib.hid hY
            clear hY
            have K2 := HM2.out w2
            go_wp2_with fail
            with_reducible refine K2.mono ?_
            rintro e1 w3 ⟨rfl, rfl⟩
            clear K2 HM2
            by_cases hB : (Y : Int) < mB
            · have hB' : Hid (∀ t', t' < t + 1 → okT x ys t' = true) := fun t' ht' => by
                rcases Nat.lt_or_ge t' t with q | q
                · exact TO.out t' q
                · obtain rfl : t' = t := by omega
                  rw [OT.out]; simp [hB]
              go_wp2_with fail
              go_roundw
              case rel => exact ⟨t + 1, by omega, by go_num, hB'.out, G2.out, G3.out⟩
              case measure => simp [intOf]; omega
            · have OT2 : Hid (okT x ys t = anyQ x y X) := by rw [OT.out, decide_eq_false (by omega), Bool.false_or]; exact rfl
              clear OT
              go_wp2_with fail
              go_loop [9, 10, 11] (fun r i _ => ∃ k : Nat, k ≤ X ∧ i = .int .i64 k ∧ r = .bool (anyQ x y k)) (fun _ i _ => X - (intOf i).toNat)
              case atStart => exact ⟨0, Nat.zero_le _, rfl, rfl⟩
              case round =>
                obtain ⟨k, hk, rfl, rfl⟩ := hrel
                by_cases hlt2 : k < X
                · have l1 : k < x.length := by rw [HX.out]; exact hlt2
                  obtain ⟨xb, xo, hxa⟩ := HV.out.addr (by omega)
                  subst hxa
                  have g1 := HV.out.cell l1
                  have HC := Lib.hid (anyQ_succ x y k l1)
                  generalize hu : x[k] = u at g1 HC
                  clear hu l1
                  have K7 := Lib.hid (has_calls w2 _ y u HVY.out (by unfold maxLen; have := HYL.out; omega))
                  go_wp2_with fail
                  with_reducible refine K7.out.mono ?_
                  rintro e1 w6 ⟨rfl, rfl⟩
                  clear K7
                  generalize hv : hasI y u = bb at HC
                  generalize hw : anyQ x y k = cc at HC
                  clear hv hw
                  cases cc <;> cases bb <;>
                  · go_wp2
                    go_round
                    case rel => exact ⟨k + 1, by omega, by go_num, by rw [HC.out]; rfl⟩
                    case measure => simp [intOf]; omega
                · obtain rfl : k = X := by omega
                  generalize hq : anyQ x y k = cc at *
                  have HQ := Lib.hid hq
                  clear hq
                  cases cc
                  · have HR : Hid (rmeet zs ys = false) := RF.out (OS3.out t (by omega) hlt' (by rw [OT2.out]))
                    go_wp2_with fail
                    go_ret
                    exact ⟨by rw [HR.out]; rfl, G2.out⟩
                  · have hB' : Hid (∀ t', t' < t + 1 → okT x ys t' = true) := fun t' ht' => by
                      rcases Nat.lt_or_ge t' t with q | q
                      · exact TO.out t' q
                      · obtain rfl : t' = t := by omega
                        rw [OT2.out]
                    go_wp2_with fail
                    go_roundw
                    case rel => exact ⟨t + 1, by omega, by go_num, hB'.out, G2.out, G3.out⟩
                    case measure => simp [intOf]; omega
          · obtain rfl : t = T := by omega
            have hA' : Hid (∀ t', t' < s + 1 → okS zs ys t' = true) := fun t' ht' => by
              rcases Nat.lt_or_ge t' s with q | q
              · exact HO.out t' q
              · obtain rfl : t' = s := by omega
                exact OS2.out TO.out
            go_wp2_with fail
            go_roundw
            case rel => exact ⟨s + 1, by omega, by go_num, hA'.out, G.out⟩
            case measure => simp [intOf]; omega
    · obtain rfl : s = S := by omega
      have HR := Lib.hid (RM.out HO.out)
      go_wp2_with fail
      go_ret
      exact ⟨by rw [HR.out]; rfl, HF.out⟩
end Go.Proofs.Ytpecpanmdjpoiaa
/- Law 10: whether all majorities of two groups meet is as the document says. -/
namespace Go.Proofs.Ytpecpanmdjpoiaa
open Go.RowKit
set_option linter.unusedVariables false
set_option linter.unusedSimpArgs false

theorem Fr.nextM {n : Nat} {W w w' : World} (h : Fr (fun b _ => b < n) W w) (hn : n ≤ w.heap.size) (hf : Fr (fun b _ => b < w.heap.size) w w') : Fr (fun b _ => b < n) W w' := h.trans (hf.mono fun b _ hb => by have hb : b < n := hb; omega)
theorem Fr.ttoM {w w' : World} {n : Nat} (hf : Fr (fun _ _ => True) w w') : Fr (fun b _ => b < n) w w' := hf.mono fun _ _ _ => trivial

set_option maxRecDepth 100000 in
theorem meets_out (W : World) (a1 a2 : Option Addr) (c1 c2 : Nat) (zs ys : List Int) (h : IntsAt (fun b _ => b < W.heap.size) W (.slice a1 zs.length c1) zs) (hm : zs.length ≤ maxLen) (hy : IntsAt (fun b _ => b < W.heap.size) W (.slice a2 ys.length c2) ys) (hym : ys.length ≤ maxLen)
    (hno : ¬ (rightQ zs = true ∧ rightQ ys = true ∧ zs.length ≤ 7 ∧ ys.length ≤ 7)) :
    Calls Try.prog 3 #[.slice a1 zs.length c1, .slice a2 ys.length c2] W fun e w' => e = .returned (.bool true) ∧ Fr (fun b _ => b < W.heap.size) W w' := by
  have HA := Lib.hid (awake_calls W)
  have HR := fun w' (f : Hid (Fr (fun b _ => b < W.heap.size) W w')) => Lib.hid (rright_calls w' _ zs (h.fr f.out fun _ _ h => h) hm)
  have HR2 := fun w' (f : Hid (Fr (fun b _ => b < W.heap.size) W w')) => Lib.hid (rright_calls w' _ ys (hy.fr f.out fun _ _ h => h) hym)
  unfold maxLen at hm hym
  have HNO := Lib.hid hno
  clear h hy hno
  generalize zs.length = N at *
  generalize ys.length = M at *
  generalize rightQ zs = r1 at *
  generalize rightQ ys = r2 at *
  go_enter Try.func3, Try.ntmps3
  go_wp2_with fail
  with_reducible refine HA.out.mono ?_
  rintro e1 w1 ⟨rfl, f1⟩
  have F1 := Lib.hid f1
  clear f1 HA
  have K1 := HR w1 F1
  go_wp2_with fail
  with_reducible refine K1.out.mono ?_
  rintro e1 w2 ⟨rfl, rfl⟩
  clear K1 HR
  have K1 := HR2 w1 F1
  go_wp2_with fail
  with_reducible refine K1.out.mono ?_
  rintro e1 w2 ⟨rfl, rfl⟩
  clear K1 HR2
  cases r1
  · go_wp2
    go_ret
    exact ⟨rfl, F1.out⟩
  · cases r2
    · go_wp2
      go_ret
      exact ⟨rfl, F1.out⟩
    · by_cases h1 : (7 : Int) < N
      · go_wp2
        go_ret
        exact ⟨rfl, F1.out⟩
      · have h2 : (7 : Int) < M := by
          have := HNO.out
          simp at this
          have := this (by omega)
          omega
        go_wp2
        go_ret
        exact ⟨rfl, F1.out⟩

set_option maxRecDepth 100000 in
set_option maxHeartbeats 1000000 in
theorem meets_in (W : World) (b off c b' off' c' : Nat) (zs ys : List Int) (h : IntsAt (fun b _ => b < W.heap.size) W (.slice (some ⟨b, off, none⟩) zs.length c) zs) (hy : IntsAt (fun b _ => b < W.heap.size) W (.slice (some ⟨b', off', none⟩) ys.length c') ys)
    (hr1 : rightQ zs = true) (hr2 : rightQ ys = true) (hm : zs.length ≤ 7) (hmy : ys.length ≤ 7) :
    Calls Try.prog 3 #[.slice (some ⟨b, off, none⟩) zs.length c, .slice (some ⟨b', off', none⟩) ys.length c'] W fun e w' => e = .returned (.bool true) ∧ Fr (fun b _ => b < W.heap.size) W w' := by
  have HA := Lib.hid (awake_calls W)
  have HR : Hid (∀ w', Fr (fun b _ => b < W.heap.size) W w' → Calls Try.prog 10 #[.slice (some ⟨b, off, none⟩) zs.length c] w' fun e w'' => e = .returned (.bool true) ∧ w' = w'') := fun w' f => by
    have := rright_calls w' _ zs (h.fr f fun _ _ h => h) (by unfold maxLen; omega)
    rwa [hr1] at this
  have HR2 : Hid (∀ w', Fr (fun b _ => b < W.heap.size) W w' → Calls Try.prog 10 #[.slice (some ⟨b', off', none⟩) ys.length c'] w' fun e w'' => e = .returned (.bool true) ∧ w' = w'') := fun w' f => by
    have := rright_calls w' _ ys (hy.fr f fun _ _ h => h) (by unfold maxLen; omega)
    rwa [hr2] at this
  have HM : Hid (∀ w', Fr (fun b _ => b < W.heap.size) W w' → Calls Try.prog 11 #[.slice (some ⟨b, off, none⟩) zs.length c, .slice (some ⟨b', off', none⟩) ys.length c'] w' fun e w'' => e = .returned (.bool (meetI zs ys)) ∧ w' = w'') := fun w' f => meet_calls w' _ _ zs ys (h.fr f fun _ _ h => h) (hy.fr f fun _ _ h => h) (by omega) (by omega)
  have HN : Hid (∀ w', Fr (fun b _ => b < W.heap.size) W w' → Calls Try.prog 12 #[.slice (some ⟨b, off, none⟩) zs.length c, .slice (some ⟨b', off', none⟩) ys.length c'] w' fun e w'' => e = .returned (.bool (meetI zs ys)) ∧ Fr (fun _ _ => True) w' w'') := fun w' f => by
    have := rmeet_calls w' b off c b' off' c' zs ys (h.fr f fun _ _ h => h) (hy.fr f fun _ _ h => h) hm hmy
    rwa [rmeet_eq hr1 hr2] at this
  clear h hy hr1 hr2
  generalize zs.length = N at *
  generalize ys.length = M at *
  generalize meetI zs ys = bb at *
  go_enter Try.func3, Try.ntmps3
  go_wp2_with fail
  with_reducible refine HA.out.mono ?_
  rintro e1 w1 ⟨rfl, f1⟩
  have F1 := Lib.hid f1
  clear f1 HA
  have K1 := HR.out w1 F1.out
  go_wp2_with fail
  with_reducible refine K1.mono ?_
  rintro e1 w2 ⟨rfl, rfl⟩
  clear K1 HR
  have K1 := HR2.out w1 F1.out
  go_wp2_with fail
  with_reducible refine K1.mono ?_
  rintro e1 w2 ⟨rfl, rfl⟩
  clear K1 HR2
  have K1 := HM.out w1 F1.out
  go_wp2_with fail
  with_reducible refine K1.mono ?_
  rintro e1 w2 ⟨rfl, rfl⟩
  clear K1 HM
  have K1 := HN.out w1 F1.out
  go_wp2_with fail
  with_reducible refine K1.mono ?_
  rintro e1 w2 ⟨rfl, f2⟩
  have F2 := Lib.hid (F1.out.trans (Fr.ttoM f2))
  clear K1 HN f2
  cases bb <;>
  · go_wp2
    go_ret
    exact ⟨rfl, F2.out⟩
theorem meets_main (W : World) (a0 : Option Addr) (len0 cap0 : Nat) (a1 : Option Addr) (len1 cap1 : Nat) (r0 : Rd Try.prog W 22 [.slice a0 len0 cap0]) (r1 : Rd Try.prog W 22 [.slice a1 len1 cap1]) :
    Calls Try.prog 3 #[.slice a0 len0 cap0, .slice a1 len1 cap1] W fun e w' => e = .returned (.bool true) ∧ Below W.heap.size W w' := by
  obtain ⟨zs, h, hm, _⟩ := r0.is
  obtain ⟨ys, hy, hym, _⟩ := r1.is
  refine Calls.mono (R := fun e w' => e = .returned (.bool true) ∧ Fr (fun b _ => b < W.heap.size) W w') ?_ fun e w' ⟨he, hf⟩ => ⟨he, hf.below (Nat.le_refl _)⟩
  obtain rfl := h.len
  obtain rfl := hy.len
  by_cases hq : rightQ zs = true ∧ rightQ ys = true ∧ zs.length ≤ 7 ∧ ys.length ≤ 7
  · obtain ⟨h1, h2, h3, h4⟩ := hq
    obtain ⟨b, off, rfl⟩ := h.addr (right_all h1).2.2.1
    obtain ⟨b', off', rfl⟩ := hy.addr (right_all h2).2.2.1
    exact meets_in W b off cap0 b' off' cap1 zs ys h hy h1 h2 h3 h4
  · exact meets_out W a0 a1 cap0 cap1 zs ys h hm hy hym hq
end Go.Proofs.Ytpecpanmdjpoiaa
