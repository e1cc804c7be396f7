/- Law 5: SlotStamps. -/
import Derived.Test.YtaeonlafcbgpcaaDoorParse05
import Derived.Test.YtaeonlafcbgpcaaDoorTornW
namespace Go.Proofs.YtaeonlafcbgpcaaDoor
open Go.RowKit
set_option linter.unusedVariables false

/-- What Stamp answers. -/
def stampM (s p : Nat) (b : List UInt8) : List UInt8 × Int := if 43 < b.length then ([], 2) else (stampB s p b, 0)
theorem stampM_length (s p : Nat) (b : List UInt8) : (stampM s p b).1.length ≤ 64 := by
  unfold stampM
  split
  · exact Nat.zero_le _
  · rw [stampB_length s p b (by omega)]; exact Nat.le_refl _
theorem stampM_calls {K : Nat → Obj → Prop} (w : World) (s p : Nat) (v : Value) (b : List UInt8) (hb : BytesAt K w v b) (ht : TabOK w) (hs : s < 4294967296) (hp : p < 4294967296) (r : List UInt8) (c : Int) (hr : stampM s p b = (r, c)) :
    Calls Tryd.prog 13 #[.int .u32 s, .int .u32 p, v] w fun e w' => (∃ a' cap', e = .returned (.tuple #[.slice a' r.length cap', .int .i64 c]) ∧ BytesAt (fun _ _ => True) w' (.slice a' r.length cap') r) ∧ Fr (fun _ _ => True) w w' := by
  refine (stamp_calls w s p v b hb ht hs hp).mono fun e w' ⟨h, hf⟩ => ⟨?_, hf⟩
  unfold stampM at hr
  split at h
  · rw [if_pos (by assumption)] at hr; cases hr
    exact ⟨none, 0, h, BytesAt.nil _ _⟩
  · rw [if_neg (by assumption)] at hr; cases hr
    obtain ⟨a', c', he, hb⟩ := h
    rw [stampB_length s p b (by omega)]
    exact ⟨a', c', he, hb.mono fun _ _ _ _ => trivial⟩
theorem stampM05_calls {K : Nat → Obj → Prop} (w : World) (s p : Nat) (v : Value) (b : List UInt8) (hb : BytesAt K w v b) (hs : s < 4294967296) (hp : p < 4294967296) (r : List UInt8) (c : Int) (hr : stampM s p b = (r, c)) :
    Calls Tryd.prog 14 #[.int .u32 s, .int .u32 p, v] w fun e w' => (∃ a' cap', e = .returned (.tuple #[.slice a' r.length cap', .int .i64 c]) ∧ BytesAt (fun _ _ => True) w' (.slice a' r.length cap') r) ∧ Fr (fun _ _ => True) w w' := by
  refine (stamp05_calls w s p _ _ rfl rfl v b hb hs hp).mono fun e w' ⟨h, hf⟩ => ⟨?_, hf⟩
  unfold stampM at hr
  rcases h with ⟨h1, h⟩ | ⟨h1, a', c', he, hb⟩
  · rw [if_pos h1] at hr; cases hr
    exact ⟨none, 0, h, BytesAt.nil _ _⟩
  · rw [if_neg (by omega)] at hr; cases hr
    rw [stampB_length s p b (by omega)]
    exact ⟨a', c', he, hb.mono fun _ _ _ _ => trivial⟩

set_option maxRecDepth 100000 in
theorem stamps_out (w : World) (s p : Nat) (a1 a2 : Option Addr) (l1 l2 c1 c2 : Nat) (ht : TabOK w) (hl : 200 < l2) :
    Calls Tryd.prog 3 #[.int .u32 (s : Nat), .int .u32 (p : Nat), .slice a1 l1 c1, .slice a2 l2 c2] w fun e w' => e = .returned (.bool true) ∧ Fr (fun _ _ => True) w w' := by
  have HT := Lib.hid ht
  have hl' : (200 : Int) < l2 := by omega
  clear ht
  go_enter Tryd.func3, Tryd.ntmps3
  go_wp2_with fail
  (with_reducible refine (awake_calls _ HT.out).mono ?_)
  rintro e w1 ⟨rfl, f1⟩
  have F1 := Lib.hid f1
  clear f1
  go_wp2
  go_ret
  exact ⟨rfl, F1.out⟩

set_option maxRecDepth 100000 in
set_option maxHeartbeats 2000000 in
theorem stamps_in {K1 K2 : Nat → Obj → Prop} (w : World) (s p : Nat) (a1 a2 : Option Addr) (l1 l2 c1 c2 : Nat) (one sec : List UInt8) (h1 : BytesAt K1 w (.slice a1 l1 c1) one) (h2 : BytesAt K2 w (.slice a2 l2 c2) sec) (ht : TabOK w) (hs : s < 4294967296) (hp : p < 4294967296) (hl : l2 ≤ 200) :
    Calls Tryd.prog 3 #[.int .u32 (s : Nat), .int .u32 (p : Nat), .slice a1 l1 c1, .slice a2 l2 c2] w fun e w' => e = .returned (.bool true) ∧ Fr (fun _ _ => True) w w' := by
  have HT := Lib.hid ht
  have H1 := Lib.hid h1
  have H2 := Lib.hid h2
  have hl' : (l2 : Int) ≤ 200 := by omega
  clear h1 h2 ht
  have hrl := stampM_length s p one
  obtain ⟨⟨r, cc⟩, hr⟩ : ∃ x, stampM s p one = x := ⟨_, rfl⟩
  rw [hr] at hrl
  have HR := Lib.hid hr
  have HRL : Hid (r.length ≤ 64) := hrl
  clear hr hrl
  go_enter Tryd.func3, Tryd.ntmps3
  go_wp2_with fail
  (with_reducible refine (awake_calls _ HT.out).mono ?_)
  rintro e w1 ⟨rfl, f1⟩
  have F1 := Lib.hid f1
  clear f1
  go_wp2_with fail
  (with_reducible refine (stampM_calls _ s p _ one (H1.out.tt F1.out) (HT.out.tt F1.out) hs hp r cc HR.out).mono ?_)
  rintro e w2 ⟨⟨a2', c2', rfl, b2⟩, f2⟩
  have F2 := Lib.hid (F1.out.tt f2)
  have B2 := Lib.hid b2
  clear f2 b2
  go_wp2_with fail
  (with_reducible refine (stampM05_calls _ s p _ one (H1.out.tt F2.out) hs hp r cc HR.out).mono ?_)
  rintro e w3 ⟨⟨a3', c3', rfl, b3⟩, f3⟩
  have F3 := Lib.hid (F2.out.tt f3)
  have B2' := Lib.hid (B2.out.tt f3)
  have B3 := Lib.hid b3
  clear f3 b3 B2
  go_wp2_with fail
  (with_reducible refine (parse_calls _ _ sec (H2.out.tt F3.out) (HT.out.tt F3.out)).mono ?_)
  rintro e w4 ⟨hx, f4⟩
  have F4 := Lib.hid (F3.out.tt f4)
  have B2 := Lib.hid (B2'.out.tt f4)
  have B3' := Lib.hid (B3.out.tt f4)
  clear f4 B2' B3
  rcases hx with ⟨hpn, rfl⟩ | ⟨s', p', b', a4', c4', hpn, rfl, b4⟩
  · have HP := Lib.hid hpn
    clear hpn
    go_wp2_with fail
    (with_reducible refine (parse05_calls _ _ sec (H2.out.tt F4.out)).mono ?_)
    rintro e w5 ⟨hx, f5⟩
    rcases hx with ⟨_, rfl⟩ | ⟨s5, p5, b5, a5', c5', hq, _⟩
    · have F5 := Lib.hid (F4.out.tt f5)
      have G5 := Lib.hid f5
      clear f5
      have C1 := Lib.hid (B2.out.tt (G5.out.alloc (.cells #[.int .u32 0, .int .u32 0, .slice none 0 0] 31)))
      have C2 := Lib.hid (B3'.out.tt (G5.out.alloc (.cells #[.int .u32 0, .int .u32 0, .slice none 0 0] 31)))
      go_wp2_with fail
      (with_reducible refine (same_calls _ _ _ r r C1.out C2.out (by have := HRL.out; omega)).mono ?_)
      rintro e w6 ⟨rfl, k6, hw⟩
      have g6 : Fr (fun _ _ => True) (w5.alloc (.cells #[.int .u32 0, .int .u32 0, .slice none 0 0] 31)) w6 := by rw [hw]; exact (Fr.refl _ _).drewN k6
      have t6 := g6.keep _ _ (heap_alloc_new w5 _) trivial
      have q0 := cell_mk (i := 0) t6 rfl
      have q1 := cell_mk (i := 1) t6 rfl
      have q2 := cell_mk (i := 2) t6 rfl
      have F6 := Lib.hid ((F5.out.alloc _).tt g6)
      clear hw g6 t6
      simp only [decide_true]
      go_wp2_with fail
      (with_reducible refine (same_calls _ _ _ [] [] (BytesAt.nil (fun _ _ => True) _) (BytesAt.nil (fun _ _ => True) _) (by decide)).mono ?_)
      rintro e w7 ⟨rfl, k7, hw⟩
      have F7 : Hid (Fr (fun _ _ => True) w w7) := by rw [hw]; exact F6.out.drewN k7
      clear hw
      simp only [decide_true]
      go_wp2
      go_ret
      exact ⟨rfl, F7.out⟩
    · exact absurd (hq.symm.trans HP.out) (by simp)
  · have hpos := (parseP_pos hpn).1
    have hpos' : (0 : Int) < s' := by omega
    have HP := Lib.hid hpn
    have B4 := Lib.hid b4
    have HL4 : Hid (b'.length ≤ 43) := (parseP_pos hpn).2.2.2
    clear hpn b4
    go_wp2_with fail
    (with_reducible refine (parse05_calls _ _ sec (H2.out.tt F4.out)).mono ?_)
    rintro e w5 ⟨hx, f5⟩
    rcases hx with ⟨hq, _⟩ | ⟨s5, p5, b5, a5', c5', hq, rfl, b5b⟩
    · exact absurd (hq.symm.trans HP.out) (by simp)
    · have hq2 := hq.symm.trans HP.out
      simp only [Option.some.injEq, Prod.mk.injEq] at hq2
      obtain ⟨rfl, rfl, rfl⟩ := hq2
      have F5 := Lib.hid (F4.out.tt f5)
      have G5 := Lib.hid f5
      have B5 := Lib.hid b5b
      clear f5 hq b5b
      have hW : ∃ W, w5.alloc (.cells #[.int .u32 (s5 : Nat), .int .u32 (p5 : Nat), .slice a5' b5.length c5'] 31) = W := ⟨_, rfl⟩
      obtain ⟨W, hW⟩ := hW
      have fW : Fr (fun _ _ => True) w5 W := by rw [← hW]; exact (Fr.refl _ _).alloc _
      have C1 := Lib.hid (B2.out.tt (G5.out.tt fW))
      have C2 := Lib.hid (B3'.out.tt (G5.out.tt fW))
      have C4 := Lib.hid (B4.out.tt (G5.out.tt fW))
      have C5 := Lib.hid (B5.out.tt fW)
      have FW := Lib.hid (F5.out.tt fW)
      have top := Lib.hid (show W.heap[w5.heap.size]? = some (.cells #[.int .u32 (s5 : Nat), .int .u32 (p5 : Nat), .slice a5' b5.length c5'] 31 (0, 0)) by rw [← hW]; exact heap_alloc_new _ _)
      have q0 := cell_mk (i := 0) top.out rfl
      have q1 := cell_mk (i := 1) top.out rfl
      have q2 := cell_mk (i := 2) top.out rfl
      clear fW
      go_wp2_with fail
      clear hW
      (with_reducible refine (same_calls _ _ _ r r C1.out C2.out (by have := HRL.out; omega)).mono ?_)
      rintro e w6 ⟨rfl, k6, hw⟩
      have g6 : Fr (fun _ _ => True) W w6 := by rw [hw]; exact (Fr.refl _ _).drewN k6
      have t6 := g6.keep _ _ top.out trivial
      clear q0 q1 q2
      have q0 := cell_mk (i := 0) t6 rfl
      have q1 := cell_mk (i := 1) t6 rfl
      have q2 := cell_mk (i := 2) t6 rfl
      have F6 := Lib.hid (FW.out.tt g6)
      have C4' := Lib.hid (C4.out.tt g6)
      have C5' := Lib.hid (C5.out.tt g6)
      clear hw g6 t6
      simp only [decide_true]
      go_wp2_with fail
      (with_reducible refine (same_calls _ _ _ b5 b5 C4'.out C5'.out (by have := HL4.out; omega)).mono ?_)
      rintro e w7 ⟨rfl, k7, hw⟩
      have F7 : Hid (Fr (fun _ _ => True) w w7) := by rw [hw]; exact F6.out.drewN k7
      clear hw
      simp only [decide_true]
      go_wp2
      go_ret
      exact ⟨rfl, F7.out⟩

theorem stamps_walk (W : World) (zs zp : Int) (hs : (Lit.int .u32 zs).wf = true) (hp : (Lit.int .u32 zp).wf = true) (a1 a2 : Option Addr) (l1 l2 c1 c2 : Nat) (r1 : Rd Tryd.prog W 23 [.slice a1 l1 c1]) (r2 : Rd Tryd.prog W 23 [.slice a2 l2 c2]) (ht : TabOK W) :
    Calls Tryd.prog 3 #[.int .u32 zs, .int .u32 zp, .slice a1 l1 c1, .slice a2 l2 c2] W fun e w' => e = .returned (.bool true) ∧ Below W.heap.size W w' := by
  obtain ⟨s, rfl, ks⟩ := nat_u32 hs
  obtain ⟨p, rfl, kp⟩ := nat_u32 hp
  obtain ⟨one, h1, _⟩ := r1.bs
  obtain ⟨sec, h2, _⟩ := r2.bs
  by_cases hl : 200 < l2
  · exact (stamps_out W s p a1 a2 l1 l2 c1 c2 ht hl).mono fun e w' ⟨he, hf⟩ => ⟨he, hf.bel⟩
  · exact (stamps_in W s p a1 a2 l1 l2 c1 c2 one sec h1 h2 ht ks kp (by omega)).mono fun e w' ⟨he, hf⟩ => ⟨he, hf.bel⟩
end Go.Proofs.YtaeonlafcbgpcaaDoor
