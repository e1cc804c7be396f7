/- Texts of the proofs, part 12: what the functions that they reach do, walked; no conditions beyond those that each states. -/
import Derived.Laws.BitsAllLaws
import Derived.Test.YtcpbmempfeloaaaDoorZzd6abd31f53
set_option linter.unusedVariables false
set_option linter.unusedSimpArgs false
/- The references: the sum, walked. -/
namespace Go.Proofs.YtcpbmempfeloaaaDoor
open Go.RowKit
set_option linter.unusedVariables false

theorem and1 (x : Nat) : x &&& 1 = x % 2 := Nat.and_two_pow_sub_one_eq_mod x 1
theorem low_xor : ∀ t z : Nat, t < 2 → z < 2 → t ^^^ z = (t + z) % 2 := by
  intro t z ht hz
  have h1 : t = 0 ∨ t = 1 := by omega
  have h2 : z = 0 ∨ z = 1 := by omega
  rcases h1 with rfl | rfl <;> rcases h2 with rfl | rfl <;> rfl
/-- One bit, in the walk's spelling. -/
theorem bit_facts (x : Nat) (c : UInt8) (q : Nat) (hx : x < 4294967296) : ∃ y z t l : Nat, ((c.toNat : Int) / 2 ^ q = (y : Int)) ∧ bits .and .u8 (y : Int) 1 = (z : Int) ∧ z < 2 ∧ bits .and .u32 (x : Int) 1 = (t : Int) ∧ t < 2 ∧ bits .xor .u32 (t : Int) (z : Int) = (l : Int) ∧ Hid (l = (x % 2 + (c.toNat / 2 ^ q) % 2) % 2) := by
  have hc := c.toNat_lt
  have hy : c.toNat / 2 ^ q < 256 := Nat.lt_of_le_of_lt (Nat.div_le_self _ _) (by omega)
  have h1 : x % 2 < 2 := Nat.mod_lt _ (by decide)
  have h2 : c.toNat / 2 ^ q % 2 < 2 := Nat.mod_lt _ (by decide)
  refine ⟨c.toNat / 2 ^ q, c.toNat / 2 ^ q % 2, x % 2, (x % 2 + (c.toNat / 2 ^ q) % 2) % 2, by simp, ?_, h2, ?_, h1, ?_, rfl⟩
  · rw [← and1]; exact u8_and_nat _ 1 hy (by decide)
  · rw [← and1]; exact u32_and_nat _ 1 hx (by decide)
  · rw [← low_xor _ _ h1 h2]; exact u32_xor_nat _ _ (by omega) (by omega)
theorem poly_facts (x : Nat) (hx : x < 4294967296) : ∃ y : Nat, bits .xor .u32 ((x : Int) / 2) 3988292384 = (y : Int) ∧ Hid (y = (x / 2) ^^^ 3988292384) :=
  ⟨_, by have := u32_xor_nat (x / 2) 3988292384 (by omega) (by decide); exact this, rfl⟩

set_option maxRecDepth 100000 in
set_option maxHeartbeats 1000000 in
theorem sum02_calls {K : Nat → Obj → Prop} (w : World) (v : Value) (bs : List UInt8) (h : BytesAt K w v bs) (hm : bs.length ≤ 140737488355328) :
    Calls Tryd.prog 105 #[v] w fun e w' => e = .returned (.int .u32 (sumOf bs : Nat)) ∧ w = w' := by
  obtain ⟨a, cap, rfl⟩ := h.form
  have HB := Lib.hid h
  clear h
  generalize hn : bs.length = n at hm
  have HN := Lib.hid hn
  clear hn
  go_enter Tryd.func105, Tryd.ntmps105
  go_wp2
  go_loop [3, 4] (fun s i => ∃ k : Nat, k ≤ n ∧ i = .int .i64 k ∧ s = .int .u32 (crc (bs.take k) : Nat)) (fun _ i => n - (intOf i).toNat)
  case atStart => exact ⟨0, Nat.zero_le _, rfl, rfl⟩
  case round =>
    obtain ⟨k, hk, rfl, rfl⟩ := hrel
    have hlt0 := crc_lt (bs.take k)
    by_cases hlt : k < n
    · have hkl : k < bs.length := by have := HN.out; omega
      have hb' : BytesAt K w (.slice a n cap) bs := by have := HB.out; rwa [HN.out] at this
      obtain ⟨b, off, rfl⟩ := hb'.addr (by omega)
      have g := hb'.cell hkl
      unfold byteV at g
      clear hb'
      have hst : Hid (crc (bs.take (k + 1)) = step8 (crc (bs.take k)) bs[k]) := by
        rw [List.take_succ_eq_append_getElem hkl, crc, List.foldl_append]; rfl
      generalize crc (bs.take k) = s at hst hlt0
      generalize bs[k] = c at g hst
      go_wp2
      go_loop [3, 5] (fun x j => ∃ q : Nat, q ≤ 8 ∧ j = .int .i64 q ∧ x = .int .u32 (bitS s c q : Nat)) (fun _ j => 8 - (intOf j).toNat)
      case atStart => exact ⟨0, Nat.zero_le _, rfl, by rw [bitS_zero]⟩
      case round =>
        obtain ⟨q, hq, rfl, rfl⟩ := hrel
        have hl := bitS_lt s c hlt0 q
        have HS := Lib.hid (bitS_succ s c q)
        by_cases hq8 : q < 8
        · generalize bitS s c q = x at hl HS
          obtain ⟨y, z, t, l, e1, e2, hz, e3, ht, e4, HL⟩ := bit_facts x c q hl
          obtain ⟨p, e5, HP⟩ := poly_facts x hl
          have e6 : (z : Int) % 4294967296 = z := by omega
          by_cases h1 : l = 1
          · subst h1
            go_wp2
            go_round
            case rel => exact ⟨q + 1, by omega, by go_num, by rw [HS.out, if_pos HL.out.symm, ← HP.out]⟩
            case measure => simp [intOf]; omega
          · have e7 : ((l : Int) == 1) = false := by simp; omega
            go_wp2
            go_round
            case rel => exact ⟨q + 1, by omega, by go_num, by rw [HS.out, if_neg (fun e => h1 (HL.out.trans e)), Nat.xor_zero]; go_num⟩
            case measure => simp [intOf]; omega
        · obtain rfl : q = 8 := by omega
          have H8 := Lib.hid (bitS_eight s c)
          generalize bitS s c 8 = x at hl HS H8
          go_wp2
          go_round
          case rel => exact ⟨k + 1, by omega, by go_num, by rw [hst.out, ← H8.out]⟩
          case measure => simp [intOf]; omega
    · have hk' : k = n := by omega
      have e2 : Hid (crc (bs.take k) = crc bs) := by rw [List.take_of_length_le (by have := HN.out; omega)]; rfl
      generalize crc (bs.take k) = s at e2 hlt0
      go_wp2
      go_ret
      refine ⟨?_, rfl⟩
      rw [sumOf, ← e2.out]
      go_num
end Go.Proofs.YtcpbmempfeloaaaDoor
/- The references: a record's sector. -/
namespace Go.Proofs.YtcpbmempfeloaaaDoor
open Go.RowKit
set_option linter.unusedVariables false

def endB (s p : Nat) : List UInt8 := le s 4 ++ le p 4
def preB (s p : Nat) (b : List UInt8) : List UInt8 := endB s p ++ [UInt8.ofNat b.length]
def bodyB (s p : Nat) (b : List UInt8) (k : Nat) : List UInt8 := preB s p b ++ b ++ List.replicate k 0
def sumB (s p : Nat) (b : List UInt8) : List UInt8 := stampHead s p b ++ le (sumOf (stampHead s p b)) 4
theorem endB_length (s p : Nat) : (endB s p).length = 8 := by rw [endB, List.length_append, le_length, le_length]

set_option maxRecDepth 100000 in
theorem stamp05_long (w : World) (s p : Int) (a : Option Addr) (len cap : Nat) (hl : 43 < len) :
    Calls Tryd.prog 68 #[.int .u32 s, .int .u32 p, .slice a len cap] w fun e w' => e = .returned (.tuple #[.slice none 0 0, .int .i64 2]) ∧ w = w' := by
  have hl' : (43 : Int) < len := by omega
  go_enter Tryd.func68, Tryd.ntmps68
  go_wp2
  go_ret2
  exact ⟨rfl, rfl⟩

theorem BytesAt.lit1 (w : World) (z : Int) (m : UInt8) (hz : z = m.toNat) : BytesAt (New w.heap.size) (w.alloc (.cells #[.int .u8 z] 5 (0, 0))) (.slice (some ⟨w.heap.size, 0, none⟩) 1 1) [m] := by
  subst hz; exact BytesAt.lit' w m

set_option maxRecDepth 100000 in
set_option maxHeartbeats 2000000 in
theorem stamp05_ok {K : Nat → Obj → Prop} (w : World) (s p : Nat) (a : Option Addr) (len cap : Nat) (b : List UInt8) (hb : BytesAt K w (.slice a len cap) b) (hs : s < 4294967296) (hp : p < 4294967296) (hl : len ≤ 43) :
    Calls Tryd.prog 68 #[.int .u32 s, .int .u32 p, .slice a len cap] w fun e w' => (∃ a' cap', e = .returned (.tuple #[.slice a' 64 cap', .int .i64 0]) ∧ BytesAt (New w.heap.size) w' (.slice a' 64 cap') (stampB s p b)) ∧ Fr (fun _ _ => True) w w' := by
  have hl' : (len : Int) ≤ 43 := by omega
  have HL := Lib.hid hb.len
  have HB := Lib.hid hb
  clear hb
  have HM : Hid ((len : Int) = (UInt8.ofNat b.length).toNat) := by
    show _ = _
    rw [UInt8.toNat_ofNat', ← HL.out]; omega
  have N1 : Hid (4 + (le p 4).length = 8) := by show _ = _; rw [le_length]
  have R1 : Hid (le s 4 ++ le p 4 = endB s p) := rfl
  have R2 : Hid ([] ++ endB s p = endB s p) := rfl
  have R3 : Hid (endB s p ++ [UInt8.ofNat b.length] = preB s p b) := rfl
  have R4 : Hid (preB s p b ++ b = bodyB s p b 0) := by show _ = _; unfold bodyB; simp
  have N2 : Hid (0 + (endB s p).length = 8) := by show _ = _; rw [endB_length]
  have N3 : Hid (8 + [UInt8.ofNat b.length].length = 9) := rfl
  have N4 : Hid (9 + b.length = 9 + len) := by show _ = _; rw [HL.out]
  go_enter Tryd.func68, Tryd.ntmps68
  go_wp2_with fail
  (with_reducible refine (num01_calls _ s 4 _ _ ?_ ?_ (by decide) ?_).mono ?_)
  · omega
  · rfl
  · omega
  rintro e w1 ⟨⟨a1, c1, rfl, o1⟩, f1⟩
  have O1 := Lib.hid o1
  have F1 := Lib.hid f1
  clear o1 f1
  go_wp2_with fail
  (with_reducible refine (num01_calls _ p 4 _ _ ?_ ?_ (by decide) ?_).mono ?_)
  · omega
  · rfl
  · omega
  rintro e w2 ⟨⟨a2, c2, rfl, o2⟩, f2⟩
  have O1' := Lib.hid (O1.out.tt f2)
  have B2 := Lib.hid (BytesAt.of_own o2 (le_length p 4))
  have F2 := Lib.hid (F1.out.tt f2)
  clear o2 f2 O1
  go_wp2_with (at_builtin; refine wpList_append_fr w _ F2 rfl _ _ rfl _ 4 (le s 4) rfl O1' _ (le p 4) rfl B2 8 _ R1 N1 (by decide) ?_)
  intro aE cE wE OE FE
  have BE := Lib.hid (BytesAt.of_own OE.out (endB_length s p))
  clear O1' B2 OE
  have LE : Hid (RowB (wE.alloc (.cells #[] 5)) wE.heap.size (.slice (some ⟨wE.heap.size, 0, none⟩) 0 0) 0 []) := World.ownsRow_lit wE #[] 0 (Nat.le_refl _) (by simp) rfl
  have FA : Hid (Fr (fun _ _ => True) wE (wE.alloc (.cells #[] 5))) := (Fr.refl _ _).alloc _
  have BA := Lib.hid (BE.out.tt FA.out)
  go_wp2_with (at_builtin; refine wpList_append_fr wE _ FA rfl _ _ rfl _ 0 [] rfl LE _ (endB s p) rfl BA 8 _ R2 N2 (by decide) ?_)
  intro a4 c4 w4 O4 F4
  clear LE FA BA
  have O4' := Lib.hid (O4.out.tt ((Fr.refl _ _).alloc (.cells #[.int .u8 (len : Int)] 5 (0, 0))))
  have F4' := Lib.hid (F4.out.alloc (.cells #[.int .u8 (len : Int)] 5 (0, 0)))
  have B4' := Lib.hid (BytesAt.lit1 w4 len (UInt8.ofNat b.length) HM.out)
  go_wp2_with (at_builtin; refine wpList_append_fr wE _ F4' rfl _ _ rfl _ 8 _ rfl O4' _ [UInt8.ofNat b.length] rfl B4' 9 _ R3 N3 (by decide) ?_)
  intro a5 c5 w5 O5 F5
  clear O4 F4 O4' F4' B4'
  have B5 := Lib.hid (HB.out.tt (FE.out.tt F5.out))
  go_wp2_with (at_builtin; refine wpList_append_fr wE _ F5 rfl _ _ rfl _ 9 _ rfl O5 _ b rfl B5 (9 + len) _ R4 N4 (by omega) ?_)
  intro a6 c6 w6 O6 F6
  clear O5 F5 B5
  go_wp2
  go_loopw [9] (fun v wr => ∃ (k n : Nat) (ar : Option Addr) (cr : Nat), n = 9 + len + k ∧ n ≤ 52 ∧ v = .slice ar n cr ∧ Hid (RowB wr wE.heap.size (.slice ar n cr) n (bodyB s p b k)) ∧ Hid (Fr (fun _ _ => True) wE wr)) (fun v _ => match v with | .slice _ n _ => 52 - n | _ => 0)
  case atStart => exact ⟨0, 9 + len, a6, c6, rfl, by omega, rfl, O6, F6⟩
  case round =>
    obtain ⟨k, n, ar, cr, hk, hn, rfl, OR, FR⟩ := hrel
    by_cases hlt : n < 52
    · have hlt' : (n : Int) < 52 := by omega
      have OR' := Lib.hid (OR.out.tt ((Fr.refl _ _).alloc (.cells #[.int .u8 0] 5 (0, 0))))
      have FR' := Lib.hid (FR.out.alloc (.cells #[.int .u8 0] 5 (0, 0)))
      have BR' := Lib.hid (BytesAt.lit1 wr 0 0 rfl)
      have RR : Hid (bodyB s p b k ++ [0] = bodyB s p b (k + 1)) := by show _ = _; unfold bodyB; rw [List.append_assoc, ← List.replicate_succ']
      have NN : Hid (n + ([0] : List UInt8).length = n + 1) := rfl
      have HK := Lib.hid hk
      clear hk
      go_wp2_with (at_builtin; refine wpList_append_fr wE _ FR' rfl _ _ rfl _ n _ rfl OR' _ [0] rfl BR' (n + 1) _ RR NN (by omega) ?_)
      intro a7 c7 w7 O7 F7
      go_wp2
      go_roundw
      case rel => exact ⟨k + 1, n + 1, a7, c7, by have := HK.out; omega, by omega, rfl, O7, F7⟩
      case measure => simp; omega
    · obtain rfl : n = 52 := by omega
      have hk43 : k = 43 - b.length := by have := HL.out; omega
      have O8 : Hid (RowB wr wE.heap.size (.slice ar 52 cr) 52 (stampHead s p b)) := by
        have e : bodyB s p b k = stampHead s p b := by rw [hk43]; simp [bodyB, preB, endB, stampHead]
        rw [← e]; exact OR
      have LH := Lib.hid (stampHead_length s p b (by have := HL.out; omega))
      have B8 := Lib.hid (BytesAt.of_own O8.out LH.out)
      have hsl := sumOf_lt (stampHead s p b)
      have N9 : Hid (52 + (le (sumOf (stampHead s p b)) 4).length = 56) := by show _ = _; rw [le_length]
      have R9 : Hid (stampHead s p b ++ le (sumOf (stampHead s p b)) 4 = sumB s p b) := rfl
      have R10 : Hid (sumB s p b ++ endB s p = stampB s p b) := by show _ = _; rw [sumB, List.append_assoc]; rfl
      have N10 : Hid (56 + (endB s p).length = 64) := by show _ = _; rw [endB_length]
      have L64 := Lib.hid (stampB_length s p b (by have := HL.out; omega))
      clear hk hk43 OR
      go_wp2_with fail
      (with_reducible refine (sum02_calls _ _ _ B8.out (by rw [LH.out]; decide)).mono ?_)
      rintro e w9 ⟨rfl, rfl⟩
      generalize sumOf (stampHead s p b) = q at hsl N9 R9
      go_wp2_with fail
      (with_reducible refine (num01_calls _ q 4 _ _ ?_ ?_ (by decide) ?_).mono ?_)
      · omega
      · rfl
      · omega
      rintro e w10 ⟨⟨a10, c10, rfl, o10⟩, f10⟩
      have O10 := Lib.hid (O8.out.tt f10)
      have B10 := Lib.hid (BytesAt.of_own o10 (le_length q 4))
      have F10 := Lib.hid (FR.out.tt f10)
      clear o10 f10 O8 B8
      go_wp2_with (at_builtin; refine wpList_append_fr wE _ F10 rfl _ _ rfl _ 52 _ rfl O10 _ (le q 4) rfl B10 56 _ R9 N9 (by decide) ?_)
      intro a11 c11 w11 O11 F11
      have BE' := Lib.hid (BE.out.tt F11.out)
      clear O10 F10 B10
      go_wp2_with (at_builtin; refine wpList_append_fr wE _ F11 rfl _ _ rfl _ 56 _ rfl O11 _ (endB s p) rfl BE' 64 _ R10 N10 (by decide) ?_)
      intro a12 c12 w12 O12 F12
      have B12 := Lib.hid (BytesAt.of_own O12.out L64.out)
      clear O11 F11 O12 BE'
      go_wp2
      go_ret2
      exact ⟨⟨a12, c12, rfl, B12.out.mono fun c o _ h => ⟨Nat.le_trans FE.out.size h.1, h.2⟩⟩, FE.out.tt F12.out⟩

/-- ref05.Stamp. -/
theorem stamp05_calls {K : Nat → Obj → Prop} (w : World) (s p : Nat) (z y : Int) (hz : z = s) (hy : y = p) (v : Value) (b : List UInt8) (hb : BytesAt K w v b) (hs : s < 4294967296) (hp : p < 4294967296) :
    Calls Tryd.prog 68 #[.int .u32 z, .int .u32 y, v] w fun e w' =>
      ((43 < b.length ∧ e = .returned (.tuple #[.slice none 0 0, .int .i64 2])) ∨ (b.length ≤ 43 ∧ ∃ a' cap', e = .returned (.tuple #[.slice a' 64 cap', .int .i64 0]) ∧ BytesAt (New w.heap.size) w' (.slice a' 64 cap') (stampB s p b))) ∧ Fr (fun _ _ => True) w w' := by
  subst hz; subst hy
  obtain ⟨a, cap, rfl⟩ := hb.form
  by_cases hl : 43 < b.length
  · exact (stamp05_long w s p a b.length cap hl).mono fun e w' ⟨he, hw⟩ => ⟨.inl ⟨hl, he⟩, hw ▸ Fr.refl _ _⟩
  · exact (stamp05_ok w s p a b.length cap b hb hs hp (by omega)).mono fun e w' ⟨he, hf⟩ => ⟨.inr ⟨by omega, he⟩, hf⟩
end Go.Proofs.YtcpbmempfeloaaaDoor
