/- Package slot: Parse. -/
import Derived.Test.YtaeonlafcbgpcaaDoorStamp
namespace Go.Proofs.YtaeonlafcbgpcaaDoor
open Go.RowKit

def pSeq (l : List UInt8) : Nat := ofLE (l.take 4)
def pEpoch (l : List UInt8) : Nat := ofLE ((l.drop 4).take 4)
def pLen (l : List UInt8) : Nat := ofLE ((l.drop 8).take 1)
def pSum (l : List UInt8) : Nat := ofLE ((l.drop 52).take 4)
def pAgain (l : List UInt8) : Nat := ofLE ((l.drop 56).take 4)
def pAlso (l : List UInt8) : Nat := ofLE ((l.drop 60).take 4)
/-- The sector's record. -/
def parseP (l : List UInt8) : Option (Nat × Nat × List UInt8) :=
  if l.length = 64 ∧ pSeq l ≠ 0 ∧ pSeq l = pAgain l ∧ pEpoch l = pAlso l ∧ pLen l ≤ 43 ∧ pSum l = sumOf (l.take 52) then some (pSeq l, pEpoch l, (l.drop 9).take (pLen l)) else none

theorem ofLE_take_lt (l : List UInt8) (k : Nat) : ofLE (l.take k) < 256 ^ k :=
  Nat.lt_of_lt_of_le (ofLE_lt _) (Nat.pow_le_pow_right (by decide) (by rw [List.length_take]; omega))

theorem rnum_at {K : Nat → Obj → Prop} (w : World) (br : Nat) (v : Value) (bs : List UInt8) (n : Nat) (sz : Int) (hsz : sz = n) (h : RdrAt K w br v bs false) (h1 : 1 ≤ n) (h8 : n ≤ 8) (hn : n ≤ bs.length) (hm : bs.length ≤ 140737488355328) :
    Calls Tryd.prog 45 #[.pointer (some ⟨br, 0, none⟩), .int .i64 sz] w fun e w' => e = .returned (.int .u64 (ofLE (bs.take n) : Nat)) ∧ (∃ v', RdrAt K w' br v' (bs.drop n) false) ∧ Fr (fun b _ => b ≠ br) w w' := by
  subst hsz
  exact rnum_ok w br v bs n h h1 h8 hn hm

theorem RdrAt.other {K : Nat → Obj → Prop} {w w' : World} {br b : Nat} {v : Value} {bs : List UInt8} {sh : Bool} (h : RdrAt K w b v bs sh) (hf : Fr (fun q _ => q ≠ br) w w') (hne : b ≠ br) (hK : ∀ q o, K q o → q ≠ br) : RdrAt K w' b v bs sh :=
  ⟨hf.keep _ _ h.top hne, h.bytes.fr (hf.mono fun q o hk => hK q o hk), h.off⟩
theorem RdrAt.tt {K : Nat → Obj → Prop} {w w' : World} {b : Nat} {v : Value} {bs : List UInt8} {sh : Bool} (h : RdrAt K w b v bs sh) (hf : Fr (fun _ _ => True) w w') : RdrAt K w' b v bs sh :=
  ⟨hf.keep _ _ h.top trivial, h.bytes.tt hf, h.off⟩
theorem Fr.not {br : Nat} {a w w' : World} (h : Fr (fun _ _ => True) a w) (hf : Fr (fun q _ => q ≠ br) w w') (hb : a.heap.size ≤ br) : Fr (fun _ _ => True) a w' := h.old_trans hf fun b _ hl => by omega
theorem BytesAt.old {K : Nat → Obj → Prop} {w : World} {v : Value} {bs : List UInt8} (h : BytesAt K w v bs) : BytesAt (fun b _ => b < w.heap.size) w v bs := h.mono fun _ _ hb _ => lt_of_some hb

set_option maxRecDepth 100000 in
theorem parse_len (w : World) (a : Option Addr) (len cap : Nat) (hl : ¬ len = 64) :
    Calls Tryd.prog 15 #[.slice a len cap] w fun e w' => e = .returned (.tuple #[.int .u32 0, .int .u32 0, .slice none 0 0, .bool false]) ∧ w = w' := by
  have hq : ((len : Int) != 64) = true := by simp; omega
  clear hl
  go_enter Tryd.func15, Tryd.ntmps15
  go_wp2
  exact bodyPost_ret (v := .tuple #[.int .u32 0, .int .u32 0, .slice none 0 0, .bool false]) (by simp [results, Tryd.results15, go_sem]) rfl ⟨rfl, rfl⟩

set_option maxRecDepth 100000 in
set_option maxHeartbeats 1000000 in
theorem parse_64 {K : Nat → Obj → Prop} (w : World) (a : Option Addr) (cap : Nat) (bs : List UInt8) (hb : BytesAt K w (.slice a 64 cap) bs) (ht : TabOK w) :
    Calls Tryd.prog 15 #[.slice a 64 cap] w fun e w' => ((parseP bs = none ∧ e = .returned (.tuple #[.int .u32 0, .int .u32 0, .slice none 0 0, .bool false])) ∨ ∃ s p b a' cap', parseP bs = some (s, p, b) ∧ e = .returned (.tuple #[.int .u32 (s : Nat), .int .u32 (p : Nat), .slice a' b.length cap', .bool true]) ∧ BytesAt (New w.heap.size) w' (.slice a' b.length cap') b) ∧ Fr (fun _ _ => True) w w' := by
  have h64 := hb.len
  have hcap := hb.cap
  obtain ⟨bk, off, rfl⟩ := hb.addr (by omega)
  have HB := Lib.hid hb.old
  have HT := Lib.hid ht
  have H64 := Lib.hid h64
  have B1 := Lib.hid (hb.old.take 52 (by omega))
  have b2 := hb.old.drop 52 (by omega)
  rw [subA_some _ _ _ _ (by omega)] at b2
  have B2 : Hid (BytesAt (fun b _ => b < w.heap.size) w (.slice (some ⟨bk, off + 52, none⟩) 12 (cap - 52)) (bs.drop 52)) := b2
  clear hb ht h64 b2
  go_enter Tryd.func15, Tryd.ntmps15
  go_upto_region 3 with fail
  go_cut [6, 7] (fun s6 s7 wx => ∃ h t v6 v7, s6 = .pointer (some ⟨h, 0, none⟩) ∧ s7 = .pointer (some ⟨t, 0, none⟩) ∧ h ≠ t ∧ w.heap.size ≤ h ∧ w.heap.size ≤ t ∧ RdrAt (fun b _ => b < w.heap.size) wx h v6 (bs.take 52) false ∧ RdrAt (fun b _ => b < w.heap.size) wx t v7 (bs.drop 52) false ∧ Fr (fun _ _ => True) w wx)
  case first =>
    go_region_with (go_at_call 44; (with_reducible refine (read_calls _ _ _ _).mono ?_); rintro e w4 ⟨rfl, rfl⟩)
    all_goals
      go_wp2_with fail
      go_meet
    · refine ⟨w.heap.size, w.heap.size + 1, _, _, rfl, rfl, by omega, Nat.le_refl _, by omega, ⟨heap_alloc_lt (heap_alloc_new w _) _, B1.out.tt (((Fr.refl _ _).alloc _).alloc _).drew, fun _ _ h => Nat.lt_irrefl _ h⟩, ⟨heap_alloc_at (by simp) _, B2.out.tt (((Fr.refl _ _).alloc _).alloc _).drew, fun _ _ (h : w.heap.size + 1 < w.heap.size) => by omega⟩, (((Fr.refl _ _).alloc _).alloc _).drew⟩
  case rest =>
    obtain ⟨h, t, v6, v7, rfl, rfl, hne, hh, hth, r6, r7, hf⟩ := hcut
    have R6 := Lib.hid r6
    have R7 := Lib.hid r7
    have F0 := Lib.hid hf
    clear r6 r7 hf
    have hLen1 : 64 ≤ bs.length := by have := H64.out; omega
    have hLen2 : bs.length ≤ 64 := by have := H64.out; omega
    go_wp2_with fail
    (with_reducible refine (rnum_at _ h v6 (bs.take 52) 4 _ (by omega) R6.out (by decide) (by decide) (by simp; omega) (by simp; omega)).mono ?_)
    rintro e y1 ⟨rfl, ⟨u1, r1⟩, f1⟩
    have F1 := Lib.hid (F0.out.not f1 hh)
    have Rt1 := Lib.hid (R7.out.other f1 hne.symm (fun q _ hq => by omega))
    have Rh1 := Lib.hid r1
    have b1 : ofLE (List.take 4 (bs.take 52)) < 4294967296 := ofLE_take_lt (bs.take 52) 4
    generalize hx1 : ofLE (List.take 4 (bs.take 52)) = x1 at b1
    have Hx1 := Lib.hid hx1
    clear r1 f1 hx1 R6 R7 F0
    go_wp2_with fail
    (with_reducible refine (rnum_at _ h u1 (List.drop 4 (bs.take 52)) 4 _ (by omega) Rh1.out (by decide) (by decide) (by simp; omega) (by simp; omega)).mono ?_)
    rintro e y2 ⟨rfl, ⟨u2, r2⟩, f2⟩
    have F2 := Lib.hid (F1.out.not f2 hh)
    have Rt2 := Lib.hid (Rt1.out.other f2 hne.symm (fun q _ hq => by omega))
    have Rh2 := Lib.hid r2
    have b2 : ofLE (List.take 4 (List.drop 4 (bs.take 52))) < 4294967296 := ofLE_take_lt (List.drop 4 (bs.take 52)) 4
    generalize hx2 : ofLE (List.take 4 (List.drop 4 (bs.take 52))) = x2 at b2
    have Hx2 := Lib.hid hx2
    clear r2 f2 hx2 Rh1 Rt1 F1
    go_wp2_with fail
    (with_reducible refine (rnum_at _ h u2 (List.drop 4 (List.drop 4 (bs.take 52))) 1 _ (by omega) Rh2.out (by decide) (by decide) (by simp; omega) (by simp; omega)).mono ?_)
    rintro e y3 ⟨rfl, ⟨u3, r3⟩, f3⟩
    have F3 := Lib.hid (F2.out.not f3 hh)
    have Rt3 := Lib.hid (Rt2.out.other f3 hne.symm (fun q _ hq => by omega))
    have Rh3 := Lib.hid r3
    have b3 : ofLE (List.take 1 (List.drop 4 (List.drop 4 (bs.take 52)))) < 256 := ofLE_take_lt (List.drop 4 (List.drop 4 (bs.take 52))) 1
    generalize hx3 : ofLE (List.take 1 (List.drop 4 (List.drop 4 (bs.take 52)))) = x3 at b3
    have Hx3 := Lib.hid hx3
    clear r3 f3 hx3 Rh2 Rt2 F2
    go_wp2_with fail
    (with_reducible refine (rnum_at _ t v7 (bs.drop 52) 4 _ (by omega) Rt3.out (by decide) (by decide) (by simp; omega) (by simp; omega)).mono ?_)
    rintro e y4 ⟨rfl, ⟨u4, r4⟩, f4⟩
    have F4 := Lib.hid (F3.out.not f4 hth)
    have Rh4 := Lib.hid (Rh3.out.other f4 hne (fun q _ hq => by omega))
    have Rt4 := Lib.hid r4
    have b4 : ofLE (List.take 4 (bs.drop 52)) < 4294967296 := ofLE_take_lt (bs.drop 52) 4
    generalize hx4 : ofLE (List.take 4 (bs.drop 52)) = x4 at b4
    have Hx4 := Lib.hid hx4
    clear r4 f4 hx4 Rh3 Rt3 F3
    go_wp2_with fail
    (with_reducible refine (rnum_at _ t u4 (List.drop 4 (bs.drop 52)) 4 _ (by omega) Rt4.out (by decide) (by decide) (by simp; omega) (by simp; omega)).mono ?_)
    rintro e y5 ⟨rfl, ⟨u5, r5⟩, f5⟩
    have F5 := Lib.hid (F4.out.not f5 hth)
    have Rh5 := Lib.hid (Rh4.out.other f5 hne (fun q _ hq => by omega))
    have Rt5 := Lib.hid r5
    have b5 : ofLE (List.take 4 (List.drop 4 (bs.drop 52))) < 4294967296 := ofLE_take_lt (List.drop 4 (bs.drop 52)) 4
    generalize hx5 : ofLE (List.take 4 (List.drop 4 (bs.drop 52))) = x5 at b5
    have Hx5 := Lib.hid hx5
    clear r5 f5 hx5 Rh4 Rt4 F4
    go_wp2_with fail
    (with_reducible refine (rnum_at _ t u5 (List.drop 4 (List.drop 4 (bs.drop 52))) 4 _ (by omega) Rt5.out (by decide) (by decide) (by simp; omega) (by simp; omega)).mono ?_)
    rintro e y6 ⟨rfl, ⟨u6, r6⟩, f6⟩
    have F6 := Lib.hid (F5.out.not f6 hth)
    have Rh6 := Lib.hid (Rh5.out.other f6 hne (fun q _ hq => by omega))
    have Rt6 := Lib.hid r6
    have b6 : ofLE (List.take 4 (List.drop 4 (List.drop 4 (bs.drop 52)))) < 4294967296 := ofLE_take_lt (List.drop 4 (List.drop 4 (bs.drop 52))) 4
    generalize hx6 : ofLE (List.take 4 (List.drop 4 (List.drop 4 (bs.drop 52)))) = x6 at b6
    have Hx6 := Lib.hid hx6
    clear r6 f6 hx6 Rh5 Rt5 F5
    have e1 : Hid (pSeq bs = x1) := by rw [pSeq, ← Hx1.out, List.take_take]; rfl
    have e2 : Hid (pEpoch bs = x2) := by rw [pEpoch, ← Hx2.out, List.drop_take, List.take_take]; rfl
    have e3 : Hid (pLen bs = x3) := by rw [pLen, ← Hx3.out, List.drop_drop, List.drop_take, List.take_take]; rfl
    have e4 : Hid (pSum bs = x4) := Hx4.out
    have e5 : Hid (pAgain bs = x5) := by rw [pAgain, ← Hx5.out, List.drop_drop]; rfl
    have e6 : Hid (pAlso bs = x6) := by rw [pAlso, ← Hx6.out, List.drop_drop, List.drop_drop]; rfl
    have hno : Hid (x1 = 0 ∨ x1 ≠ x5 ∨ x2 ≠ x6 ∨ 43 < x3 ∨ x4 ≠ sumOf (bs.take 52) → parseP bs = none) := fun hc => by
      rw [parseP, if_neg]
      rw [e1.out, e2.out, e3.out, e4.out, e5.out, e6.out]
      omega
    clear Hx1 Hx2 Hx3 Hx4 Hx5 Hx6 Rh6 Rt6
    by_cases c1 : x1 = 0
    · have hfin := Lib.hid (hno.out (.inl c1))
      subst c1
      go_wp2
      exact bodyPost_ret (v := .tuple #[.int .u32 0, .int .u32 0, .slice none 0 0, .bool false]) (by simp [results, Tryd.results15, go_sem]) rfl ⟨.inl ⟨hfin.out, rfl⟩, F6.out⟩
    · have d1 : ((x1 : Int) == 0) = false := by simp [c1]
      by_cases c2 : x1 = x5
      · have d2 : ((x1 : Int) != x5) = false := by simp [c2]
        by_cases c3 : x2 = x6
        · have d3 : ((x2 : Int) != x6) = false := by simp [c3]
          by_cases c4 : x3 ≤ 43
          · have d4 : (x3 : Int) ≤ 43 := by omega
            have hyes : Hid (x4 = sumOf (bs.take 52) → parseP bs = some (x1, x2, (bs.drop 9).take x3)) := fun hc => by
              rw [parseP, if_pos]
              · rw [e1.out, e2.out, e3.out]
              · rw [e1.out, e2.out, e3.out, e4.out, e5.out, e6.out]
                exact ⟨by omega, c1, c2, c3, c4, hc⟩
            have hno' : Hid (x4 ≠ sumOf (bs.take 52) → parseP bs = none) := fun hc => hno.out (.inr (.inr (.inr (.inr hc))))
            have B3 := HB.out.drop 9 (by omega)
            rw [subA_some _ _ _ _ (by omega)] at B3
            have hb3 := B3.take x3 (by simp; omega)
            have HB3 := Lib.hid hb3
            have hl3 : ((bs.drop 9).take x3).length = x3 := by simp; omega
            have HL3 := Lib.hid hl3
            clear B3 hb3 hl3 c1 c2 c3 c4 hno e1 e2 e3 e4 e5 e6
            go_wp2_with fail
            (with_reducible refine (sum_calls _ _ (bs.take 52) (HT.out.tt F6.out) (B1.out.tt F6.out) (by simp; omega)).mono ?_)
            rintro e w7 ⟨rfl, rfl⟩
            have hsl := sumOf_lt (bs.take 52)
            generalize sumOf (bs.take 52) = sm at hyes hno' hsl
            by_cases c5 : x4 = sm
            · have hfin := Lib.hid (hyes.out c5)
              subst c5
              clear hyes hno' hsl
              go_wp2_with fail
              have hcl := clone_calls y6 _ _ (HB3.out.tt F6.out) (by have := HL3.out; omega)
              rw [HL3.out] at hcl
              (with_reducible refine hcl.mono ?_)
              rintro e w8 ⟨a8, c8, rfl, b8, f8⟩
              have F8 := Lib.hid (F6.out.tt f8)
              have B8 := Lib.hid (b8.mono (K' := New w.heap.size) fun q o _ h => ⟨by have := h.1; have := F6.out.size; omega, h.2⟩)
              clear hcl b8 f8
              have hL := HL3.out
              generalize List.take x3 (List.drop 9 bs) = bb at hfin B8 hL
              have HLb := Lib.hid hL
              clear hL
              go_wp2
              exact bodyPost_ret (v := .tuple #[.int .u32 (x1 : Nat), .int .u32 (x2 : Nat), .slice a8 x3 c8, .bool true]) (by simp [results, Tryd.results15, go_sem]) rfl ⟨.inr ⟨x1, x2, bb, a8, c8, hfin.out, by rw [HLb.out], by rw [HLb.out]; exact B8.out⟩, F8.out⟩
            · have hfin := Lib.hid (hno'.out c5)
              have d5 : ((x4 : Int) != sm) = true := by simp; omega
              clear hyes hno' c5
              go_wp2
              exact bodyPost_ret (v := .tuple #[.int .u32 0, .int .u32 0, .slice none 0 0, .bool false]) (by simp [results, Tryd.results15, go_sem]) rfl ⟨.inl ⟨hfin.out, rfl⟩, F6.out⟩
          · have hfin := Lib.hid (hno.out (.inr (.inr (.inr (.inl (by omega))))))
            have d4 : (43 : Int) < x3 := by omega
            clear c1 c2 c3 c4
            go_wp2
            exact bodyPost_ret (v := .tuple #[.int .u32 0, .int .u32 0, .slice none 0 0, .bool false]) (by simp [results, Tryd.results15, go_sem]) rfl ⟨.inl ⟨hfin.out, rfl⟩, F6.out⟩
        · have hfin := Lib.hid (hno.out (.inr (.inr (.inl c3))))
          have d3 : ((x2 : Int) != x6) = true := by simp; omega
          clear c1 c2 c3
          go_wp2
          exact bodyPost_ret (v := .tuple #[.int .u32 0, .int .u32 0, .slice none 0 0, .bool false]) (by simp [results, Tryd.results15, go_sem]) rfl ⟨.inl ⟨hfin.out, rfl⟩, F6.out⟩
      · have hfin := Lib.hid (hno.out (.inr (.inl c2)))
        have d2 : ((x1 : Int) != x5) = true := by simp; omega
        clear c1 c2
        go_wp2
        exact bodyPost_ret (v := .tuple #[.int .u32 0, .int .u32 0, .slice none 0 0, .bool false]) (by simp [results, Tryd.results15, go_sem]) rfl ⟨.inl ⟨hfin.out, rfl⟩, F6.out⟩

/-- slot.Parse: the sector's record, or that there is none. -/
theorem parse_calls {K : Nat → Obj → Prop} (w : World) (v : Value) (bs : List UInt8) (hb : BytesAt K w v bs) (ht : TabOK w) :
    Calls Tryd.prog 15 #[v] w fun e w' => ((parseP bs = none ∧ e = .returned (.tuple #[.int .u32 0, .int .u32 0, .slice none 0 0, .bool false])) ∨ ∃ s p b a' cap', parseP bs = some (s, p, b) ∧ e = .returned (.tuple #[.int .u32 (s : Nat), .int .u32 (p : Nat), .slice a' b.length cap', .bool true]) ∧ BytesAt (New w.heap.size) w' (.slice a' b.length cap') b) ∧ Fr (fun _ _ => True) w w' := by
  obtain ⟨a, cap, rfl⟩ := hb.form
  by_cases h : bs.length = 64
  · rw [h] at hb ⊢
    exact parse_64 w a cap bs hb ht
  · exact (parse_len w a bs.length cap h).mono fun e w' ⟨he, hw⟩ => ⟨.inl ⟨by rw [parseP, if_neg (fun hc => h hc.1)], he⟩, hw ▸ Fr.refl _ _⟩

end Go.Proofs.YtaeonlafcbgpcaaDoor
