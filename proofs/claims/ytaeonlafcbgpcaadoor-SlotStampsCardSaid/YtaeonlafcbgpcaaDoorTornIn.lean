/- Law 5: SlotTorn, the way in. -/
import Derived.Test.YtaeonlafcbgpcaaDoorTorn
namespace Go.Proofs.YtaeonlafcbgpcaaDoor
open Go.RowKit

theorem step_append_fr {K0 : Nat → Obj → Prop} {ops : Array Oper} {o : Oper} {a : Act} {K : Act → World → Prop} {Q : Exit → Act → World → Prop} {E : Prop} (W0 W : World) (hF : Hid (Fr (fun _ _ => True) W0 W)) (hgd : o.guard = none) (s x : Operand)
    (ho : o.op = .call { callee := .builtin .append, args := #[s, x], argTypes := #[23, 23] }) (v : Value) (n : Nat) (xs : List UInt8) (hs : a.eval s = v) (hown : W.ownsRow W0.heap.size 5 1 v n (xs.map byteV))
    (ad : Addr) (m c : Nat) (bs : List UInt8) (hx : a.eval x = .slice (some ad) m c) (hb : BytesAt K0 W (.slice (some ad) m c) bs) (hn : n + m ≤ 2000000)
    (h : ∀ v' w', Hid (w'.ownsRow W0.heap.size 5 1 v' (n + m) ((xs ++ bs).map byteV)) → Hid (Fr (fun _ _ => True) W0 w') → K (a.put o.dst v') w') :
    if Region.wanted o (yielded ops a.tmps) = true then Oper.wp Tryd.prog o a W K Q else E :=
  step_append_bytes W hgd s x ho W0.heap.size hF.out.size v n xs hs hown ad m c bs hx hb hn fun v' w' h1 h2 => h v' w' h1 (hF.out.grown_new h2 fun _ e => own_le hown e)

set_option maxRecDepth 100000 in
set_option maxHeartbeats 2000000 in
theorem torn_in {K1 K2 : Nat → Obj → Prop} (w : World) (s m : Nat) (a1 a2 : Option Addr) (l1 l2 c1 c2 : Nat) (one two : List UInt8) (cut : Nat) (h1 : BytesAt K1 w (.slice a1 l1 c1) one) (h2 : BytesAt K2 w (.slice a2 l2 c2) two) (ht : TabOK w) (hs : s < 4294967296) (hm : m < 4294967296) (hb1 : one.length ≤ 43) (hb2 : two.length ≤ 43) (hcut : cut ≤ 64) (hsm : s ≠ m) (hs0 : 0 < s) (hm0 : 0 < m) :
    Calls Tryd.prog 4 #[.int .u32 (s : Nat), .int .u32 (m : Nat), .slice a1 l1 c1, .slice a2 l2 c2, .int .i64 (cut : Nat)] w fun e w' => e = .returned (.bool true) ∧ Fr (fun _ _ => True) w w' := by
  have HT := Lib.hid ht
  have H1 := Lib.hid h1
  have H2 := Lib.hid h2
  have HB1 := Lib.hid hb1
  have HB2 := Lib.hid hb2
  have HLAW := Lib.hid (torn_law s m one two cut hcut hsm hs hm hb1 hb2)
  have HPA := Lib.hid (parse_stamp s 0 one hs0 hs (by decide) hb1)
  have HPB := Lib.hid (parse_stamp m 0 two hm0 hm (by decide) hb2)
  have LA := Lib.hid (stampB_length s 0 one hb1)
  have LB := Lib.hid (stampB_length m 0 two hb2)
  have HTL : Hid (((stampB s 0 one).take cut ++ (stampB m 0 two).drop cut).length = 64) := by
    have h1 := LA.out
    have h2 := LB.out
    show _ = _
    rw [List.length_append, List.length_take, List.length_drop]; omega
  clear h1 h2 ht hb1 hb2
  have qsm : ((s : Int) == m) = false := by simp; omega
  have qms : ((m : Int) == s) = false := by simp; omega
  have qs : ((s : Int) == 0) = false := by simp; omega
  have qm : ((m : Int) == 0) = false := by simp; omega
  clear hsm
  go_enter Tryd.func4, Tryd.ntmps4
  go_wp2_with fail
  (with_reducible refine (awake_calls _ HT.out).mono ?_)
  rintro e w1 ⟨rfl, f1⟩
  have F1 := Lib.hid f1
  clear f1
  go_wp2_with fail
  (with_reducible refine (stamp_any _ s _ _ (by rfl) (by rfl) _ one (H1.out.tt F1.out) (HT.out.tt F1.out) hs).mono ?_)
  rintro e w2 ⟨hx, f2⟩
  have F2 := Lib.hid (F1.out.tt f2)
  clear f2
  rcases hx with ⟨hq, rfl⟩ | ⟨hq, a4, c4, rfl, b4⟩
  · exact absurd HB1.out (Nat.not_le.2 hq)
  clear hq
  have B4 := Lib.hid b4
  clear b4
  go_wp2_with fail
  (with_reducible refine (stamp_any _ m _ _ (by rfl) (by rfl) _ two (H2.out.tt F2.out) (HT.out.tt F2.out) hm).mono ?_)
  rintro e w3 ⟨hx, f3⟩
  rcases hx with ⟨hq, rfl⟩ | ⟨hq, a5, c5, rfl, b5⟩
  · exact absurd HB2.out (Nat.not_le.2 hq)
  have F3 := Lib.hid (F2.out.tt f3)
  have B4' := Lib.hid (B4.out.tt f3)
  have B5 := Lib.hid b5
  clear hq b5 f3 B4
  go_wp2
  have b4 := B4'.out
  have b5 := B5.out
  obtain ⟨g4, o4, rfl⟩ := b4.addr (by rw [LA.out]; decide)
  obtain ⟨g5, o5, rfl⟩ := b5.addr (by rw [LB.out]; decide)
  have hc4 : 64 ≤ c4 := b4.cap
  have hc5 : 64 ≤ c5 := b5.cap
  have hsl1 := fun W => run_slice_to (P := Tryd.prog) Tryd.underlying23 size_u8 W (some ⟨g4, o4, none⟩) 64 c4 cut .i64 (by omega)
  have hsl2 := fun W => run_slice_from (P := Tryd.prog) Tryd.underlying23 size_u8 W (some ⟨g5, o5, none⟩) 64 c5 cut .i64 hcut
  have T4 := Lib.hid (b4.take cut (by rw [LA.out]; exact hcut))
  have T5 := Lib.hid (b5.drop cut (by rw [LB.out]; exact hcut))
  have hsub : ∃ ad, subA (some ⟨g5, o5, none⟩) c5 cut = some ad := by unfold subA; split; exact ⟨_, rfl⟩; exact ⟨_, rfl⟩
  obtain ⟨ad5, had⟩ := hsub
  rw [had] at T5
  simp only [had] at hsl2
  clear b4 b5 had
  have O4 : Hid (((w3.alloc (.cells #[] 5)).drew).ownsRow w3.heap.size 5 1 (.slice (some ⟨w3.heap.size, 0, none⟩) 0 0) 0 (([] : List UInt8).map byteV)) := (World.ownsRow_lit w3 #[] 0 (Nat.le_refl _) (by simp) rfl).drew
  have T4' := Lib.hid (T4.out.tt (w' := (w3.alloc (.cells #[] 5)).drew) ((Fr.refl _ _).alloc _).drew)
  have F4' : Hid (Fr (fun _ _ => True) w3 (w3.alloc (.cells #[] 5)).drew) := ((Fr.refl _ _).alloc _).drew
  have hnA : 0 + cut ≤ 2000000 := by omega
  have hnB : 0 + cut + (64 - cut) ≤ 2000000 := by omega
  go_upto_region 6 with fail
  go_cut [16] (fun s9 wx => ∃ a9 c9, s9 = .slice a9 64 c9 ∧ BytesAt (New w3.heap.size) wx (.slice a9 64 c9) ((stampB s 0 one).take cut ++ (stampB m 0 two).drop cut) ∧ Fr (fun _ _ => True) w3 wx)
  case first =>
    go_region_law (first | (refine step_append_fr w3 _ F4' rfl _ _ rfl _ 0 [] rfl O4.out _ _ _ _ rfl T4'.out hnA ?_; intro v6 w6 O6 F6) | (refine step_append_fr w3 _ F6 rfl _ _ rfl _ _ _ rfl O6.out _ _ _ _ rfl (T5.out.tt F6.out) hnB ?_; intro v7 w7 O7 F7))
    all_goals
      have o7 : w7.ownsRow w3.heap.size 5 1 v7 64 (((stampB s 0 one).take cut ++ (stampB m 0 two).drop cut).map byteV) := by
        have := O7.out
        rwa [List.nil_append, show 0 + cut + (64 - cut) = 64 from by omega] at this
      obtain ⟨a9, c9, rfl⟩ := own_form o7
      have b7 := Lib.hid (BytesAt.of_owns (w := w7) (B := w3.heap.size) (v := .slice a9 64 c9) (bs := (stampB s 0 one).take cut ++ (stampB m 0 two).drop cut) (by rw [HTL.out]; exact o7))
      clear o7 O7
      go_wp2_with fail
      go_meet
    exact ⟨a9, c9, rfl, b7.out, F7.out⟩
  case rest =>
    obtain ⟨a9, c9, rfl, b9, f9⟩ := hcut
    have B9 := Lib.hid b9
    have F9 := Lib.hid f9
    clear b9 f9
    go_wp2_with fail
    (with_reducible refine (parse_calls _ _ _ B9.out (HT.out.tt (F3.out.tt F9.out))).mono ?_)
    rintro e w10 ⟨hx, f10⟩
    have F10 := Lib.hid ((F3.out.tt F9.out).tt f10)
    clear f10
    rcases hx with ⟨_, rfl⟩ | ⟨s', p', b', a10, c10, hpp, rfl, b10⟩
    · go_wp2
      go_ret
      exact ⟨rfl, F10.out⟩
    · have hpick : (s' = s ∧ b' = one) ∨ (s' = m ∧ b' = two) := by
        rcases HLAW.out with h | h | h
        · rw [h] at hpp; cases hpp
        · rw [h, HPA.out] at hpp; cases hpp; exact .inl ⟨rfl, rfl⟩
        · rw [h, HPB.out] at hpp; cases hpp; exact .inr ⟨rfl, rfl⟩
      have B10 := Lib.hid b10
      clear hpp b10
      rcases hpick with ⟨rfl, rfl⟩ | ⟨rfl, rfl⟩
      · go_wp2_with fail
        (with_reducible refine (same_calls _ _ _ _ _ B10.out (H1.out.tt F10.out) (by have := HB1.out; omega)).mono ?_)
        rintro e w11 ⟨rfl, k11, hw⟩
        have F11 : Hid (Fr (fun _ _ => True) w w11) := by rw [hw]; exact F10.out.drewN k11
        clear hw
        simp only [decide_true]
        go_wp2
        go_ret
        exact ⟨rfl, F11.out⟩
      · go_wp2_with fail
        (with_reducible refine (same_calls _ _ _ _ _ B10.out (H2.out.tt F10.out) (by have := HB2.out; omega)).mono ?_)
        rintro e w11 ⟨rfl, k11, hw⟩
        have F11 : Hid (Fr (fun _ _ => True) w w11) := by rw [hw]; exact F10.out.drewN k11
        clear hw
        simp only [decide_true]
        go_wp2
        go_ret
        exact ⟨rfl, F11.out⟩
end Go.Proofs.YtaeonlafcbgpcaaDoor
