/- Texts of the proofs, part 27: what the functions that they reach do, walked; no conditions beyond those that each states. -/
import Derived.Test.YtcpbmempfeloaaaDoorZz3e3822b43f
set_option linter.unusedVariables false
set_option linter.unusedSimpArgs false
/- The reference's disk: Write. -/
namespace Go.Proofs.YtcpbmempfeloaaaDoor
open Go.RowKit
set_option linter.unusedVariables false

set_option maxRecDepth 100000 in
theorem r_write_out (w : World) (br : Nat) (G : Nat → Prop) (D : Dk) (i : Int) (a : Option Addr) (len cap : Nat) (h : Rdk w br G D) (hi : ¬ (0 ≤ i ∧ i < D.sure.length)) :
    Calls Tryd.prog 69 #[.pointer (some ⟨br, 0, none⟩), .int .i64 i, .slice a len cap] w fun e w' => e = .returned (.int .i64 40) ∧ w = w' := by
  have HL := Lib.hid (r_len w br G D h)
  clear h
  by_cases h0 : i < 0
  · clear hi
    go_enter Tryd.func69, Tryd.ntmps69
    go_wp2
    go_ret
    exact ⟨rfl, rfl⟩
  · have h1 : (D.sure.length : Int) ≤ i := by omega
    have h2 : 0 ≤ i := by omega
    have d0 : decide (i < 0) = false := by simp; omega
    clear hi h0
    go_enter Tryd.func69, Tryd.ntmps69
    go_wp2_with fail
    (with_reducible refine HL.out.mono ?_)
    rintro e w1 ⟨rfl, rfl⟩
    go_wp2
    go_ret
    exact ⟨rfl, rfl⟩

set_option maxRecDepth 100000 in
theorem r_write_long (w : World) (br : Nat) (G : Nat → Prop) (D : Dk) (k : Nat) (a : Option Addr) (len cap : Nat) (h : Rdk w br G D) (hk : k < D.sure.length) (hl : 64 < len) :
    Calls Tryd.prog 69 #[.pointer (some ⟨br, 0, none⟩), .int .i64 (k : Nat), .slice a len cap] w fun e w' => e = .returned (.int .i64 2) ∧ w = w' := by
  have HL := Lib.hid (r_len w br G D h)
  clear h
  have hkI : (k : Int) < (D.sure.length : Nat) := by omega
  have hlI : (64 : Int) < len := by omega
  go_enter Tryd.func69, Tryd.ntmps69
  go_wp2_with fail
  (with_reducible refine HL.out.mono ?_)
  rintro e w1 ⟨rfl, rfl⟩
  go_wp2
  go_ret
  exact ⟨rfl, rfl⟩

set_option maxRecDepth 100000 in
theorem r_write_down (w : World) (br : Nat) (G : Nat → Prop) (D : Dk) (k : Nat) (a : Option Addr) (len cap : Nat) (h : Rdk w br G D) (hk : k < D.sure.length) (hl : len ≤ 64) (hd : D.burn.down = true) :
    Calls Tryd.prog 69 #[.pointer (some ⟨br, 0, none⟩), .int .i64 (k : Nat), .slice a len cap] w fun e w' => e = .returned (.int .i64 43) ∧ Rdk w' br G D.burn ∧ Fr (fun b _ => b ≠ br) w w' := by
  have HL := Lib.hid (r_len w br G D h)
  have hdn := r_done w br G D h
  rw [hd] at hdn
  have HD := Lib.hid hdn
  clear h hdn hd
  have hkI : (k : Int) < (D.sure.length : Nat) := by omega
  have hlI : (len : Int) ≤ 64 := by omega
  go_enter Tryd.func69, Tryd.ntmps69
  go_wp2_with fail
  (with_reducible refine HL.out.mono ?_)
  rintro e w1 ⟨rfl, rfl⟩
  go_wp2_with fail
  (with_reducible refine HD.out.mono ?_)
  rintro e w1 ⟨rfl, r1, f1⟩
  have R1 := Lib.hid r1
  have F1 := Lib.hid f1
  clear r1 f1
  go_wp2
  go_ret
  exact ⟨rfl, R1.out, F1.out⟩

theorem info_wr04 : (Tryd.prog.info? 126).map (fun i => (i.zero, i.size, i.bytes)) = some (some (.agg #[.int .i64 0, .slice none 0 0]), 2, 32) := by kernel_rfl
/-- A row of pending writes of the function's own. -/
def RowW (w : World) (B : Nat) (v : Value) (n : Nat) (xs : List Value) : Prop := w.ownsRow B 126 2 v n xs
theorem RowW.tt {w w' : World} {B : Nat} {v : Value} {n : Nat} {xs : List Value} (h : RowW w B v n xs) (hf : Fr (fun _ _ => True) w w') : RowW w' B v n xs := own_tt h hf
def SrcW (w : World) (v : Value) (m : Nat) (xs : List Value) : Prop := SrcAt w 2 v m xs
theorem wpList_append_wr {ops : Array Oper} {rest : List Oper} {o : Oper} {a : Act} {Q : Exit → Act → World → Prop} (W0 W : World) (hF : Hid (Fr (fun _ _ => True) W0 W)) (hgd : o.guard = none) (s x : Operand)
    (ho : o.op = .call { callee := .builtin .append, args := #[s, x], argTypes := #[59, 59] }) (v : Value) (n : Nat) (xs : List Value) (hs : a.eval s = v) (hown : Hid (RowW W W0.heap.size v n xs))
    (vx : Value) (m : Nat) (news : List Value) (hx : a.eval x = vx) (hb : Hid (SrcW W vx m news)) (N : Nat) (r : List Value) (hr : Hid (xs ++ news = r)) (hN : Hid (n + m = N)) (hn : N ≤ 2000000)
    (h : ∀ a' c' w', Hid (RowW w' W0.heap.size (.slice a' N c') N r) → Hid (Fr (fun _ _ => True) W0 w') → wpList Tryd.prog ops Q rest (a.put o.dst (.slice a' N c')) w') :
    wpList Tryd.prog ops Q (o :: rest) a W := by
  obtain ⟨i0, hi, hz0, hz1, hz2⟩ := info_parts info_wr04
  have hr := hr.out
  have hN := hN.out
  subst hr hN
  refine wpList_append_src W hgd s x 59 ho W0.heap.size 126 i0 _ 2 32 Tryd.underlying59 hi hz0 hz1 hz2 rfl (by decide) v n xs hs hown.out vx m news hx hb.out (by unfold maxLen; omega) (by omega) hF.out.size ?_
  intro v' w' h1 h2 _
  obtain ⟨a', c', rfl⟩ := own_form h1
  exact h a' c' w' h1 (hF.out.grown_new h2 (own_new hown.out))
theorem src_pend {w : World} {br : Nat} {G : Nat → Prop} {vs vp : Value} {T : List (Nat × Value × List UInt8)} {fused : Bool} {left : Int} {D : Dk} (h : RAt w br G vs vp T fused left D) : SrcW w vp T.length (cellsR T) := by
  have h1 : ∀ u ∈ cellsR T, u.oneCell' = true := fun u hu => by
    obtain ⟨x, hx, hu⟩ := List.mem_flatMap.1 hu
    obtain ⟨a, c, hv⟩ := (h.bs x hx).form
    rcases List.mem_cons.1 hu with rfl | hu
    · rfl
    · rw [List.mem_singleton.1 hu, hv]; rfl
  have hp := h.pend
  obtain ⟨a, c, rfl⟩ := own_form hp
  rcases hp.2 with ⟨e, e2⟩ | ⟨g, cap, cur, e, _⟩
  · have e3 := List.length_eq_zero_iff.1 e2
    subst e3
    rw [e]
    exact .inl ⟨rfl, rfl, rfl⟩
  · cases e
    exact src_of_own hp h1

theorem cellsR_snoc (T : List (Nat × Value × List UInt8)) (x : Nat × Value × List UInt8) : cellsR T ++ [.int .i64 (x.1 : Nat), x.2.1] = cellsR (T ++ [x]) := by simp [cellsR]

set_option maxRecDepth 100000 in
set_option maxHeartbeats 2000000 in
theorem r_write_main {K : Nat → Obj → Prop} (w : World) (br : Nat) (G : Nat → Prop) (D : Dk) (k : Nat) (a : Option Addr) (len cap : Nat) (b : List UInt8) (h : Rdk w br G D) (hk : k < D.sure.length) (hb : BytesAt K w (.slice a len cap) b) (hK : ∀ c o, w.heap[c]? = some o → K c o → c ≠ br) (hl : len ≤ 64) (hd : D.burn.down = false) (hq : D.pend.length < 1000000) :
    Calls Tryd.prog 69 #[.pointer (some ⟨br, 0, none⟩), .int .i64 (k : Nat), .slice a len cap] w fun e w' => e = .returned (.int .i64 0) ∧ Rdk w' br (fun c => G c ∨ w.heap.size ≤ c) (D.put k (pad b)) ∧ Fr (fun c _ => c ≠ br) w w' := by
  have HL := Lib.hid (r_len w br G D h)
  have hdn := r_done w br G D h
  have hgood := h.gd.put k (pad b) hk (pad_64 b (by rw [← hb.len]; exact hl)) hq
  rw [hd] at hdn
  have HD := Lib.hid hdn
  have HG := Lib.hid hgood
  have HLB := Lib.hid hb.len
  have HB := Lib.hid (hb.mono (K' := fun c _ => c ≠ br) fun c o ho hc => hK c o ho hc)
  have HDD := Lib.hid hd
  have HPL := Lib.hid (pad_64 b (by rw [← hb.len]; exact hl))
  have R1 : Hid ([] ++ b = b) := rfl
  have N1 : Hid (0 + b.length = len) := by show _ = _; rw [← HLB.out]; omega
  have R2 : Hid (b ++ List.replicate (64 - len) 0 = pad b) := by show _ = _; rw [HLB.out]; rfl
  have N2 : Hid (len + (64 - len) = 64) := by show _ = _; omega
  clear h hdn hd hb hgood hK
  have hkI : (k : Int) < (D.sure.length : Nat) := by omega
  have hlI : (len : Int) ≤ 64 := by omega
  go_enter Tryd.func69, Tryd.ntmps69
  go_wp2_with fail
  (with_reducible refine HL.out.mono ?_)
  rintro e w1 ⟨rfl, rfl⟩
  go_wp2_with fail
  (with_reducible refine HD.out.mono ?_)
  rintro e w1 ⟨rfl, r1, f1⟩
  obtain ⟨vs, vp, T, fused, left, r1⟩ := r1
  have F1 := Lib.hid f1
  have R := Lib.hid r1
  have hbr : br < w1.heap.size := lt_of_some r1.top
  have hfew : T.length < 1000000 := by
    have e : D.pend = T.map fun x => (x.1, x.2.2) := r1.tr
    rw [e, List.length_map] at hq; exact hq
  obtain ⟨ap, cp, rfl⟩ := own_form r1.pend
  clear r1 f1 hq HL HD
  have LE : Hid (RowB (w1.alloc (.cells #[] 5)) w1.heap.size (.slice (some ⟨w1.heap.size, 0, none⟩) 0 0) 0 []) := World.ownsRow_lit w1 #[] 0 (Nat.le_refl _) (by simp) rfl
  have FA : Hid (Fr (fun _ _ => True) w1 (w1.alloc (.cells #[] 5))) := (Fr.refl _ _).alloc _
  have BA := Lib.hid ((HB.out.fr F1.out).tt FA.out)
  go_wp2_with (at_builtin; refine wpList_append_fs w1 _ FA rfl _ _ rfl _ 0 0 [] rfl LE _ b rfl BA len _ R1 N1 (by omega) ?_)
  intro g2 c2 w2 O2 F2
  go_wp2_with (at_builtin; refine wpList_append_zeros w1 _ F2 rfl _ _ rfl g2 c2 len b rfl O2 _ (64 - len) rfl (by omega) 64 _ R2 N2 (by decide) ?_)
  intro a3 c3 w3 O3 F3
  have B3 := Lib.hid (BytesAt.of_own O3.out HPL.out)
  clear LE FA BA O2 F2 O3
  have d3 := Lib.hid ((F3.out.alloc (.cells #[] 126)).keep _ _ R.out.top trivial)
  have q1 := cell_mk (i := 1) d3.out rfl
  have LW : Hid (RowW (w3.alloc (.cells #[] 126)) w3.heap.size (.slice (some ⟨w3.heap.size, 0, none⟩) 0 0) 0 []) := World.ownsRow_lit w3 #[] 0 (Nat.le_refl _) (by simp) rfl
  have FW : Hid (Fr (fun _ _ => True) w3 (w3.alloc (.cells #[] 126))) := (Fr.refl _ _).alloc _
  have SW : Hid (SrcW (w3.alloc (.cells #[] 126)) (.slice ap T.length cp) T.length (cellsR T)) := (src_pend R.out).tt (F3.out.tt FW.out)
  have R3 : Hid ([] ++ cellsR T = cellsR T) := rfl
  have N3 : Hid (0 + T.length = T.length) := Nat.zero_add _
  go_wp2_with (at_builtin; refine wpList_append_wr w3 _ FW rfl _ _ rfl _ 0 [] rfl LW _ T.length (cellsR T) rfl SW T.length _ R3 N3 (by omega) ?_)
  intro a4 c4 w4 O4 F4
  clear LW FW SW R3 N3 q1 d3
  have O4' := Lib.hid (O4.out.tt ((Fr.refl _ _).alloc (.cells #[.int .i64 (k : Nat), .slice a3 64 c3] 126 (0, 0))))
  have F4' := Lib.hid (F4.out.alloc (.cells #[.int .i64 (k : Nat), .slice a3 64 c3] 126 (0, 0)))
  have S4 : Hid (SrcW (w4.alloc (.cells #[.int .i64 (k : Nat), .slice a3 64 c3] 126 (0, 0))) (.slice (some ⟨w4.heap.size, 0, none⟩) 1 1) 1 [.int .i64 (k : Nat), .slice a3 64 c3]) :=
    .inr ⟨_, 1, rfl, rfl, World.news_of_block (heap_alloc_new w4 _), fun u hu => by
      rcases List.mem_cons.1 hu with rfl | hu
      · rfl
      · rw [List.mem_singleton.1 hu]; rfl⟩
  have R5 := Lib.hid (cellsR_snoc T (k, .slice a3 64 c3, pad b))
  go_wp2_with (at_builtin; refine wpList_append_wr w3 _ F4' rfl _ _ rfl _ T.length (cellsR T) rfl O4' _ 1 _ rfl S4 (T.length + 1) _ R5 (Lib.hid rfl) (by omega) ?_)
  intro a5 c5 w5 O5 F5
  clear O4 F4 O4' F4' S4 R5
  have t5 := (F3.out.tt F5.out).keep _ _ R.out.top trivial
  have q1 := cell_mk (i := 1) t5 rfl
  have z1 := frozen_mk (i := 1) t5
  have T5 := Lib.hid t5
  clear t5
  go_wp2
  go_ret
  have hf5 : Fr (fun c _ => c ≠ br) w1 (w5.setCell ⟨br, 1, none⟩ (.slice a5 (T.length + 1) c5)) := ((F3.out.tt F5.out).mono fun _ _ _ => trivial : Fr (fun c _ => c ≠ br) w1 w5).setCell (fun _ _ h => h rfl) _
  have hsz : w.heap.size ≤ w1.heap.size := F1.out.size
  have hsz3 : w1.heap.size ≤ w3.heap.size := F3.out.size
  have hnb : ∀ c, (Value.slice a5 (T.length + 1) c5).ownBlock = some c → w3.heap.size ≤ c := own_new O5.out
  have kk : ∀ c o, KR br G c o → KR br (fun c => G c ∨ w.heap.size ≤ c) c o := fun c o h => ⟨.inl h.1, h.2⟩
  have hTl : (T ++ [(k, Value.slice a3 64 c3, pad b)]).length = T.length + 1 := by simp
  have hpd : (D.put k (pad b)).pend = D.burn.pend ++ [(k, pad b)] := rfl
  refine ⟨rfl, ⟨vs, .slice a5 (T.length + 1) c5, T ++ [(k, .slice a3 64 c3, pad b)], fused, left, heap_setCell_same T5.out _, ?_, ?_, ?_, ?_, ?_, .inl R.out.gb, R.out.fuse, HG.out⟩, F1.out.trans hf5⟩
  · exact (R.out.sure.fr (hf5.mono fun _ _ h => h.2)).mono fun c o _ h => kk c o h
  · rw [hTl]
    exact own_base (ownsRow_setCell_ne (p := ⟨br, 1, none⟩) O5.out (fun e => by have := hnb br e; omega) _) (Nat.zero_le _)
  · exact fun c e => .inr (by have := hnb c e; omega)
  · rw [hpd, R.out.tr]; simp
  · intro x hx
    rcases List.mem_append.1 hx with hx | hx
    · exact ((R.out.bs x hx).fr (hf5.mono fun _ _ h => h.2)).mono fun c o _ h => kk c o h
    · rw [List.mem_singleton.1 hx]
      have hb3 := B3.out.mono (K' := fun c _ => w1.heap.size ≤ c) fun c o _ h => h.1
      have hf3 : Fr (fun c _ => w1.heap.size ≤ c) w3 (w5.setCell ⟨br, 1, none⟩ (.slice a5 (T.length + 1) c5)) := (F5.out.mono fun _ _ _ => trivial : Fr (fun c _ => w1.heap.size ≤ c) w3 w5).setCell (fun o _ h => by have : w1.heap.size ≤ br := h; omega) _
      exact (hb3.fr hf3).mono fun c o _ h => ⟨.inr (by omega), by omega⟩

/-- ref04.Write. -/
theorem r_write {K : Nat → Obj → Prop} (w : World) (br : Nat) (G : Nat → Prop) (D : Dk) (i : Int) (v : Value) (b : List UInt8) (h : Rdk w br G D) (hb : BytesAt K w v b) (hK : ∀ c o, w.heap[c]? = some o → K c o → c ≠ br) (hq : D.pend.length < 1000000) :
    Calls Tryd.prog 69 #[.pointer (some ⟨br, 0, none⟩), .int .i64 i, v] w fun e w' => e = .returned (.int .i64 (D.write i b).1) ∧ Rdk w' br (fun c => G c ∨ w.heap.size ≤ c) (D.write i b).2 ∧ Fr (fun c _ => c ≠ br) w w' := by
  obtain ⟨a, cap, rfl⟩ := hb.form
  unfold Dk.write
  by_cases hi : 0 ≤ i ∧ i < D.sure.length
  · rw [if_neg (by simpa using hi)]
    obtain ⟨k, rfl⟩ := Int.eq_ofNat_of_zero_le hi.1
    have hk : k < D.sure.length := by omega
    by_cases hl : 64 < b.length
    · rw [if_pos hl]
      exact (r_write_long w br G D k a b.length cap h hk hl).mono fun e w' ⟨he, hw⟩ => ⟨he, hw ▸ h.mono fun _ => .inl, hw ▸ Fr.refl _ _⟩
    · rw [if_neg hl]
      cases hd : D.burn.down with
      | true => exact (r_write_down w br G D k a b.length cap h hk (by omega) hd).mono fun e w' ⟨he, hr, hf⟩ => ⟨he, hr.mono fun _ => .inl, hf⟩
      | false =>
        have := r_write_main w br G D k a b.length cap b h hk hb hK (by omega) hd hq
        simpa using this
  · rw [if_pos hi]
    exact (r_write_out w br G D i a b.length cap h hi).mono fun e w' ⟨he, hw⟩ => ⟨he, hw ▸ h.mono fun _ => .inl, hw ▸ Fr.refl _ _⟩
end Go.Proofs.YtcpbmempfeloaaaDoor
