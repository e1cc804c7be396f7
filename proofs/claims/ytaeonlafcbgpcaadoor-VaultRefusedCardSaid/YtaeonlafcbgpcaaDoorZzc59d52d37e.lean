/- Texts of the proofs, part 3: what the functions that they reach do, walked; no conditions beyond those that each states. -/
import Derived.StillTailTactics
import Derived.Deep.MidRow
import Derived.BigRegion
import Derived.Test.YtaeonlafcbgpcaaDoorZzf8084ddc1b
set_option linter.unusedVariables false
set_option linter.unusedSimpArgs false
/- Package slot: Parse. -/
namespace Go.Proofs.YtaeonlafcbgpcaaDoor
open Go.RowKit

def pSeq (l : List UInt8) : Nat := ofLE (l.take 4)
def pEpoch (l : List UInt8) : Nat := ofLE ((l.drop 4).take 4)
def pLen (l : List UInt8) : Nat := ofLE ((l.drop 8).take 1)
def pSum (l : List UInt8) : Nat := ofLE ((l.drop 52).take 4)
def pAgain (l : List UInt8) : Nat := ofLE ((l.drop 56).take 4)
def pAlso (l : List UInt8) : Nat := ofLE ((l.drop 60).take 4)
/-- The sector's record. -/
def parseP (l : List UInt8) : Option (Nat × Nat × List UInt8) :=
  if l.length = 64 ∧ pSeq l ≠ 0 ∧ pSeq l = pAgain l ∧ pEpoch l = pAlso l ∧ pLen l ≤ 43 ∧ pSum l = sumOf (l.take 52) then some (pSeq l, pEpoch l, (l.drop 9).take (pLen l)) else none

theorem ofLE_take_lt (l : List UInt8) (k : Nat) : ofLE (l.take k) < 256 ^ k :=
  Nat.lt_of_lt_of_le (ofLE_lt _) (Nat.pow_le_pow_right (by decide) (by rw [List.length_take]; omega))

theorem rnum_at {K : Nat → Obj → Prop} (w : World) (br : Nat) (v : Value) (bs : List UInt8) (n : Nat) (sz : Int) (hsz : sz = n) (h : RdrAt K w br v bs false) (h1 : 1 ≤ n) (h8 : n ≤ 8) (hn : n ≤ bs.length) (hm : bs.length ≤ 140737488355328) :
    Calls Tryd.prog 45 #[.pointer (some ⟨br, 0, none⟩), .int .i64 sz] w fun e w' => e = .returned (.int .u64 (ofLE (bs.take n) : Nat)) ∧ (∃ v', RdrAt K w' br v' (bs.drop n) false) ∧ Fr (fun b _ => b ≠ br) w w' := by
  subst hsz
  exact rnum_ok w br v bs n h h1 h8 hn hm

theorem RdrAt.other {K : Nat → Obj → Prop} {w w' : World} {br b : Nat} {v : Value} {bs : List UInt8} {sh : Bool} (h : RdrAt K w b v bs sh) (hf : Fr (fun q _ => q ≠ br) w w') (hne : b ≠ br) (hK : ∀ q o, K q o → q ≠ br) : RdrAt K w' b v bs sh :=
  ⟨hf.keep _ _ h.top hne, h.bytes.fr (hf.mono fun q o hk => hK q o hk), h.off⟩
theorem RdrAt.tt {K : Nat → Obj → Prop} {w w' : World} {b : Nat} {v : Value} {bs : List UInt8} {sh : Bool} (h : RdrAt K w b v bs sh) (hf : Fr (fun _ _ => True) w w') : RdrAt K w' b v bs sh :=
  ⟨hf.keep _ _ h.top trivial, h.bytes.tt hf, h.off⟩
theorem Fr.not {br : Nat} {a w w' : World} (h : Fr (fun _ _ => True) a w) (hf : Fr (fun q _ => q ≠ br) w w') (hb : a.heap.size ≤ br) : Fr (fun _ _ => True) a w' := h.old_trans hf fun b _ hl => by omega
theorem BytesAt.old {K : Nat → Obj → Prop} {w : World} {v : Value} {bs : List UInt8} (h : BytesAt K w v bs) : BytesAt (fun b _ => b < w.heap.size) w v bs := h.mono fun _ _ hb _ => lt_of_some hb

set_option maxRecDepth 100000 in
theorem parse_len (w : World) (a : Option Addr) (len cap : Nat) (hl : ¬ len = 64) :
    Calls Tryd.prog 15 #[.slice a len cap] w fun e w' => e = .returned (.tuple #[.int .u32 0, .int .u32 0, .slice none 0 0, .bool false]) ∧ w = w' := by
  have hq : ((len : Int) != 64) = true := by simp; omega
  clear hl
  go_enter Tryd.func15, Tryd.ntmps15
  go_wp2
  exact bodyPost_ret (v := .tuple #[.int .u32 0, .int .u32 0, .slice none 0 0, .bool false]) (by simp [results, Tryd.results15, go_sem]) rfl ⟨rfl, rfl⟩

set_option maxRecDepth 100000 in
set_option maxHeartbeats 1000000 in
theorem parse_64 {K : Nat → Obj → Prop} (w : World) (a : Option Addr) (cap : Nat) (bs : List UInt8) (hb : BytesAt K w (.slice a 64 cap) bs) (ht : TabOK w) :
    Calls Tryd.prog 15 #[.slice a 64 cap] w fun e w' => ((parseP bs = none ∧ e = .returned (.tuple #[.int .u32 0, .int .u32 0, .slice none 0 0, .bool false])) ∨ ∃ s p b a' cap', parseP bs = some (s, p, b) ∧ e = .returned (.tuple #[.int .u32 (s : Nat), .int .u32 (p : Nat), .slice a' b.length cap', .bool true]) ∧ BytesAt (New w.heap.size) w' (.slice a' b.length cap') b) ∧ Fr (fun _ _ => True) w w' := by
  have h64 := hb.len
  have hcap := hb.cap
  obtain ⟨bk, off, rfl⟩ := hb.addr (by omega)
  have HB := Lib.hid hb.old
  have HT := Lib.hid ht
  have H64 := Lib.hid h64
  have B1 := Lib.hid (hb.old.take 52 (by omega))
  have b2 := hb.old.drop 52 (by omega)
  rw [subA_some _ _ _ _ (by omega)] at b2
  have B2 : Hid (BytesAt (fun b _ => b < w.heap.size) w (.slice (some ⟨bk, off + 52, none⟩) 12 (cap - 52)) (bs.drop 52)) := b2
  clear hb ht h64 b2
  go_enter Tryd.func15, Tryd.ntmps15
  go_upto_region 3 with fail
  go_cut [6, 7] (fun s6 s7 wx => ∃ h t v6 v7, s6 = .pointer (some ⟨h, 0, none⟩) ∧ s7 = .pointer (some ⟨t, 0, none⟩) ∧ h ≠ t ∧ w.heap.size ≤ h ∧ w.heap.size ≤ t ∧ RdrAt (fun b _ => b < w.heap.size) wx h v6 (bs.take 52) false ∧ RdrAt (fun b _ => b < w.heap.size) wx t v7 (bs.drop 52) false ∧ Fr (fun _ _ => True) w wx)
  case first =>
    go_region_with (go_at_call 44; (with_reducible refine (read_calls _ _ _ _).mono ?_); rintro e w4 ⟨rfl, rfl⟩)
    all_goals
      go_wp2_with fail
      go_meet
    · refine ⟨w.heap.size, w.heap.size + 1, _, _, rfl, rfl, by omega, Nat.le_refl _, by omega, ⟨heap_alloc_lt (heap_alloc_new w _) _, B1.out.tt (((Fr.refl _ _).alloc _).alloc _).drew, fun _ _ h => Nat.lt_irrefl _ h⟩, ⟨heap_alloc_at (by simp) _, B2.out.tt (((Fr.refl _ _).alloc _).alloc _).drew, fun _ _ (h : w.heap.size + 1 < w.heap.size) => by omega⟩, (((Fr.refl _ _).alloc _).alloc _).drew⟩
  case rest =>
    obtain ⟨h, t, v6, v7, rfl, rfl, hne, hh, hth, r6, r7, hf⟩ := hcut
    have R6 := Lib.hid r6
    have R7 := Lib.hid r7
    have F0 := Lib.hid hf
    clear r6 r7 hf
    have hLen1 : 64 ≤ bs.length := by have := H64.out; omega
    have hLen2 : bs.length ≤ 64 := by have := H64.out; omega
    go_wp2_with fail
    (with_reducible refine (rnum_at _ h v6 (bs.take 52) 4 _ (by omega) R6.out (by decide) (by decide) (by simp; omega) (by simp; omega)).mono ?_)
    rintro e y1 ⟨rfl, ⟨u1, r1⟩, f1⟩
    have F1 := Lib.hid (F0.out.not f1 hh)
    have Rt1 := Lib.hid (R7.out.other f1 hne.symm (fun q _ hq => by omega))
    have Rh1 := Lib.hid r1
    have b1 : ofLE (List.take 4 (bs.take 52)) < 4294967296 := ofLE_take_lt (bs.take 52) 4
    generalize hx1 : ofLE (List.take 4 (bs.take 52)) = x1 at b1
    have Hx1 := Lib.hid hx1
    clear r1 f1 hx1 R6 R7 F0
    go_wp2_with fail
    (with_reducible refine (rnum_at _ h u1 (List.drop 4 (bs.take 52)) 4 _ (by omega) Rh1.out (by decide) (by decide) (by simp; omega) (by simp; omega)).mono ?_)
    rintro e y2 ⟨rfl, ⟨u2, r2⟩, f2⟩
    have F2 := Lib.hid (F1.out.not f2 hh)
    have Rt2 := Lib.hid (Rt1.out.other f2 hne.symm (fun q _ hq => by omega))
    have Rh2 := Lib.hid r2
    have b2 : ofLE (List.take 4 (List.drop 4 (bs.take 52))) < 4294967296 := ofLE_take_lt (List.drop 4 (bs.take 52)) 4
    generalize hx2 : ofLE (List.take 4 (List.drop 4 (bs.take 52))) = x2 at b2
    have Hx2 := Lib.hid hx2
    clear r2 f2 hx2 Rh1 Rt1 F1
    go_wp2_with fail
    (with_reducible refine (rnum_at _ h u2 (List.drop 4 (List.drop 4 (bs.take 52))) 1 _ (by omega) Rh2.out (by decide) (by decide) (by simp; omega) (by simp; omega)).mono ?_)
    rintro e y3 ⟨rfl, ⟨u3, r3⟩, f3⟩
    have F3 := Lib.hid (F2.out.not f3 hh)
    have Rt3 := Lib.hid (Rt2.out.other f3 hne.symm (fun q _ hq => by omega))
    have Rh3 := Lib.hid r3
    have b3 : ofLE (List.take 1 (List.drop 4 (List.drop 4 (bs.take 52)))) < 256 := ofLE_take_lt (List.drop 4 (List.drop 4 (bs.take 52))) 1
    generalize hx3 : ofLE (List.take 1 (List.drop 4 (List.drop 4 (bs.take 52)))) = x3 at b3
    have Hx3 := Lib.hid hx3
    clear r3 f3 hx3 Rh2 Rt2 F2
    go_wp2_with fail
    (with_reducible refine (rnum_at _ t v7 (bs.drop 52) 4 _ (by omega) Rt3.out (by decide) (by decide) (by simp; omega) (by simp; omega)).mono ?_)
    rintro e y4 ⟨rfl, ⟨u4, r4⟩, f4⟩
    have F4 := Lib.hid (F3.out.not f4 hth)
    have Rh4 := Lib.hid (Rh3.out.other f4 hne (fun q _ hq => by omega))
    have Rt4 := Lib.hid r4
    have b4 : ofLE (List.take 4 (bs.drop 52)) < 4294967296 := ofLE_take_lt (bs.drop 52) 4
    generalize hx4 : ofLE (List.take 4 (bs.drop 52)) = x4 at b4
    have Hx4 := Lib.hid hx4
    clear r4 f4 hx4 Rh3 Rt3 F3
    go_wp2_with fail
    (with_reducible refine (rnum_at _ t u4 (List.drop 4 (bs.drop 52)) 4 _ (by omega) Rt4.out (by decide) (by decide) (by simp; omega) (by simp; omega)).mono ?_)
    rintro e y5 ⟨rfl, ⟨u5, r5⟩, f5⟩
    have F5 := Lib.hid (F4.out.not f5 hth)
    have Rh5 := Lib.hid (Rh4.out.other f5 hne (fun q _ hq => by omega))
    have Rt5 := Lib.hid r5
    have b5 : ofLE (List.take 4 (List.drop 4 (bs.drop 52))) < 4294967296 := ofLE_take_lt (List.drop 4 (bs.drop 52)) 4
    generalize hx5 : ofLE (List.take 4 (List.drop 4 (bs.drop 52))) = x5 at b5
    have Hx5 := Lib.hid hx5
    clear r5 f5 hx5 Rh4 Rt4 F4
    go_wp2_with fail
    (with_reducible refine (rnum_at _ t u5 (List.drop 4 (List.drop 4 (bs.drop 52))) 4 _ (by omega) Rt5.out (by decide) (by decide) (by simp; omega) (by simp; omega)).mono ?_)
    rintro e y6 ⟨rfl, ⟨u6, r6⟩, f6⟩
    have F6 := Lib.hid (F5.out.not f6 hth)
    have Rh6 := Lib.hid (Rh5.out.other f6 hne (fun q _ hq => by omega))
    have Rt6 := Lib.hid r6
    have b6 : ofLE (List.take 4 (List.drop 4 (List.drop 4 (bs.drop 52)))) < 4294967296 := ofLE_take_lt (List.drop 4 (List.drop 4 (bs.drop 52))) 4
    generalize hx6 : ofLE (List.take 4 (List.drop 4 (List.drop 4 (bs.drop 52)))) = x6 at b6
    have Hx6 := Lib.hid hx6
    clear r6 f6 hx6 Rh5 Rt5 F5
    have e1 : Hid (pSeq bs = x1) := by rw [pSeq, ← Hx1.out, List.take_take]; rfl
    have e2 : Hid (pEpoch bs = x2) := by rw [pEpoch, ← Hx2.out, List.drop_take, List.take_take]; rfl
    have e3 : Hid (pLen bs = x3) := by rw [pLen, ← Hx3.out, List.drop_drop, List.drop_take, List.take_take]; rfl
    have e4 : Hid (pSum bs = x4) := Hx4.out
    have e5 : Hid (pAgain bs = x5) := by rw [pAgain, ← Hx5.out, List.drop_drop]; rfl
    have e6 : Hid (pAlso bs = x6) := by rw [pAlso, ← Hx6.out, List.drop_drop, List.drop_drop]; rfl
    have hno : Hid (x1 = 0 ∨ x1 ≠ x5 ∨ x2 ≠ x6 ∨ 43 < x3 ∨ x4 ≠ sumOf (bs.take 52) → parseP bs = none) := fun hc => by
      rw [parseP, if_neg]
      rw [e1.out, e2.out, e3.out, e4.out, e5.out, e6.out]
      omega
    clear Hx1 Hx2 Hx3 Hx4 Hx5 Hx6 Rh6 Rt6
    by_cases c1 : x1 = 0
    · have hfin := Lib.hid (hno.out (.inl c1))
      subst c1
      go_wp2
      exact bodyPost_ret (v := .tuple #[.int .u32 0, .int .u32 0, .slice none 0 0, .bool false]) (by simp [results, Tryd.results15, go_sem]) rfl ⟨.inl ⟨hfin.out, rfl⟩, F6.out⟩
    · have d1 : ((x1 : Int) == 0) = false := by simp [c1]
      by_cases c2 : x1 = x5
      · have d2 : ((x1 : Int) != x5) = false := by simp [c2]
        by_cases c3 : x2 = x6
        · have d3 : ((x2 : Int) != x6) = false := by simp [c3]
          by_cases c4 : x3 ≤ 43
          · have d4 : (x3 : Int) ≤ 43 := by omega
            have hyes : Hid (x4 = sumOf (bs.take 52) → parseP bs = some (x1, x2, (bs.drop 9).take x3)) := fun hc => by
              rw [parseP, if_pos]
              · rw [e1.out, e2.out, e3.out]
              · rw [e1.out, e2.out, e3.out, e4.out, e5.out, e6.out]
                exact ⟨by omega, c1, c2, c3, c4, hc⟩
            have hno' : Hid (x4 ≠ sumOf (bs.take 52) → parseP bs = none) := fun hc => hno.out (.inr (.inr (.inr (.inr hc))))
            have B3 := HB.out.drop 9 (by omega)
            rw [subA_some _ _ _ _ (by omega)] at B3
            have hb3 := B3.take x3 (by simp; omega)
            have HB3 := Lib.hid hb3
            have hl3 : ((bs.drop 9).take x3).length = x3 := by simp; omega
            have HL3 := Lib.hid hl3
            clear B3 hb3 hl3 c1 c2 c3 c4 hno e1 e2 e3 e4 e5 e6
            go_wp2_with fail
            (with_reducible refine (sum_calls _ _ (bs.take 52) (HT.out.tt F6.out) (B1.out.tt F6.out) (by simp; omega)).mono ?_)
            rintro e w7 ⟨rfl, rfl⟩
            have hsl := sumOf_lt (bs.take 52)
            generalize sumOf (bs.take 52) = sm at hyes hno' hsl
            by_cases c5 : x4 = sm
            · have hfin := Lib.hid (hyes.out c5)
              subst c5
              clear hyes hno' hsl
              go_wp2_with fail
              have hcl := clone_calls y6 _ _ (HB3.out.tt F6.out) (by have := HL3.out; omega)
              rw [HL3.out] at hcl
              (with_reducible refine hcl.mono ?_)
              rintro e w8 ⟨a8, c8, rfl, b8, f8⟩
              have F8 := Lib.hid (F6.out.tt f8)
              have B8 := Lib.hid (b8.mono (K' := New w.heap.size) fun q o _ h => ⟨by have := h.1; have := F6.out.size; omega, h.2⟩)
              clear hcl b8 f8
              have hL := HL3.out
              generalize List.take x3 (List.drop 9 bs) = bb at hfin B8 hL
              have HLb := Lib.hid hL
              clear hL
              go_wp2
              exact bodyPost_ret (v := .tuple #[.int .u32 (x1 : Nat), .int .u32 (x2 : Nat), .slice a8 x3 c8, .bool true]) (by simp [results, Tryd.results15, go_sem]) rfl ⟨.inr ⟨x1, x2, bb, a8, c8, hfin.out, by rw [HLb.out], by rw [HLb.out]; exact B8.out⟩, F8.out⟩
            · have hfin := Lib.hid (hno'.out c5)
              have d5 : ((x4 : Int) != sm) = true := by simp; omega
              clear hyes hno' c5
              go_wp2
              exact bodyPost_ret (v := .tuple #[.int .u32 0, .int .u32 0, .slice none 0 0, .bool false]) (by simp [results, Tryd.results15, go_sem]) rfl ⟨.inl ⟨hfin.out, rfl⟩, F6.out⟩
          · have hfin := Lib.hid (hno.out (.inr (.inr (.inr (.inl (by omega))))))
            have d4 : (43 : Int) < x3 := by omega
            clear c1 c2 c3 c4
            go_wp2
            exact bodyPost_ret (v := .tuple #[.int .u32 0, .int .u32 0, .slice none 0 0, .bool false]) (by simp [results, Tryd.results15, go_sem]) rfl ⟨.inl ⟨hfin.out, rfl⟩, F6.out⟩
        · have hfin := Lib.hid (hno.out (.inr (.inr (.inl c3))))
          have d3 : ((x2 : Int) != x6) = true := by simp; omega
          clear c1 c2 c3
          go_wp2
          exact bodyPost_ret (v := .tuple #[.int .u32 0, .int .u32 0, .slice none 0 0, .bool false]) (by simp [results, Tryd.results15, go_sem]) rfl ⟨.inl ⟨hfin.out, rfl⟩, F6.out⟩
      · have hfin := Lib.hid (hno.out (.inr (.inl c2)))
        have d2 : ((x1 : Int) != x5) = true := by simp; omega
        clear c1 c2
        go_wp2
        exact bodyPost_ret (v := .tuple #[.int .u32 0, .int .u32 0, .slice none 0 0, .bool false]) (by simp [results, Tryd.results15, go_sem]) rfl ⟨.inl ⟨hfin.out, rfl⟩, F6.out⟩

/-- slot.Parse: the sector's record, or that there is none. -/
theorem parse_calls {K : Nat → Obj → Prop} (w : World) (v : Value) (bs : List UInt8) (hb : BytesAt K w v bs) (ht : TabOK w) :
    Calls Tryd.prog 15 #[v] w fun e w' => ((parseP bs = none ∧ e = .returned (.tuple #[.int .u32 0, .int .u32 0, .slice none 0 0, .bool false])) ∨ ∃ s p b a' cap', parseP bs = some (s, p, b) ∧ e = .returned (.tuple #[.int .u32 (s : Nat), .int .u32 (p : Nat), .slice a' b.length cap', .bool true]) ∧ BytesAt (New w.heap.size) w' (.slice a' b.length cap') b) ∧ Fr (fun _ _ => True) w w' := by
  obtain ⟨a, cap, rfl⟩ := hb.form
  by_cases h : bs.length = 64
  · rw [h] at hb ⊢
    exact parse_64 w a cap bs hb ht
  · exact (parse_len w a bs.length cap h).mono fun e w' ⟨he, hw⟩ => ⟨.inl ⟨by rw [parseP, if_neg (fun hc => h hc.1)], he⟩, hw ▸ Fr.refl _ _⟩

end Go.Proofs.YtaeonlafcbgpcaaDoor
/- Package disk: the disk in memory; its small functions. -/
namespace Go.Proofs.YtaeonlafcbgpcaaDoor
open Go.RowKit

/-- A disk: what is to be read, what is sure, what is pending, the fuse, whether it is down. -/
structure Dk where
  seen : List (List UInt8)
  sure : List (List UInt8)
  pend : List (Nat × List UInt8)
  fuse : Int
  down : Bool
structure Dk.ok (D : Dk) : Prop where
  len : D.seen.length = D.sure.length
  one : 1 ≤ D.sure.length
  max : D.sure.length ≤ 512
  s64 : ∀ x ∈ D.seen, x.length = 64
  u64 : ∀ x ∈ D.sure, x.length = 64
  p64 : ∀ x ∈ D.pend, x.1 < D.sure.length ∧ x.2.length = 64
  few : D.pend.length ≤ 1000000
  lo : -9223372036854775808 ≤ D.fuse
  hi : D.fuse ≤ 9223372036854775807

/-- Sectors' cells. -/
def flatS (l : List (List UInt8)) : List Value := l.flatten.map byteV
/-- Pending writes' cells. -/
def cellsW (x : Nat × List UInt8) : List Value := .int .i64 (x.1 : Nat) :: x.2.map byteV
def flatW (l : List (Nat × List UInt8)) : List Value := (l.map cellsW).flatten

structure DskAt (w : World) (bd : Nat) (vs vu vp : Value) (D : Dk) : Prop where
  top : w.heap[bd]? = some (.cells #[vs, vu, vp, .int .i64 D.fuse, .bool D.down] 91 (0, 0))
  seen : w.ownsRow 0 93 64 vs D.seen.length (flatS D.seen)
  sure : w.ownsRow 0 93 64 vu D.sure.length (flatS D.sure)
  pend : w.ownsRow 0 95 65 vp D.pend.length (flatW D.pend)
  apart : ∀ b, vs.ownBlock = some b → vu.ownBlock ≠ some b
  wf : D.ok
/-- A disk at bd whose blocks are among F. -/
def Dsk (w : World) (bd : Nat) (F : Nat → Prop) (D : Dk) : Prop :=
  ∃ vs vu vp, DskAt w bd vs vu vp D ∧ F bd ∧ (∀ b, vs.ownBlock = some b → F b) ∧ (∀ b, vu.ownBlock = some b → F b) ∧ (∀ b, vp.ownBlock = some b → F b)

theorem Dsk.mono {w : World} {bd : Nat} {F G : Nat → Prop} {D : Dk} (h : Dsk w bd F D) (hg : ∀ b, F b → G b) : Dsk w bd G D := by
  obtain ⟨vs, vu, vp, h, h1, h2, h3, h4⟩ := h
  exact ⟨vs, vu, vp, h, hg _ h1, fun b e => hg _ (h2 b e), fun b e => hg _ (h3 b e), fun b e => hg _ (h4 b e)⟩
theorem Dsk.fr {w w' : World} {bd : Nat} {F : Nat → Prop} {D : Dk} {K : Nat → Obj → Prop} (h : Dsk w bd F D) (hf : Fr K w w') (hk : ∀ b o, w.heap[b]? = some o → F b → K b o) : Dsk w' bd F D := by
  obtain ⟨vs, vu, vp, h, h1, h2, h3, h4⟩ := h
  exact ⟨vs, vu, vp, ⟨hf.keep _ _ h.top (hk _ _ h.top h1), ownsRow_fr h.seen hf (fun b o e hb => hk b o hb (h2 b e)), ownsRow_fr h.sure hf (fun b o e hb => hk b o hb (h3 b e)), ownsRow_fr h.pend hf (fun b o e hb => hk b o hb (h4 b e)), h.apart, h.wf⟩, h1, h2, h3, h4⟩
theorem Dsk.tt {w w' : World} {bd : Nat} {F : Nat → Prop} {D : Dk} (h : Dsk w bd F D) (hf : Fr (fun _ _ => True) w w') : Dsk w' bd F D := h.fr hf fun _ _ _ _ => trivial
theorem Dsk.wf {w : World} {bd : Nat} {F : Nat → Prop} {D : Dk} (h : Dsk w bd F D) : D.ok := by
  obtain ⟨_, _, _, h, _⟩ := h
  exact h.wf

/-- What a value looks like that owns a row. -/
theorem own_form {w : World} {B : Nat} {e : TypeId} {size : Nat} {v : Value} {n : Nat} {xs : List Value} (h : w.ownsRow B e size v n xs) : ∃ a cap, v = .slice a n cap := by
  rcases h.2 with ⟨rfl, rfl⟩ | ⟨g, cap, _, rfl, _⟩
  · exact ⟨none, 0, rfl⟩
  · exact ⟨_, _, rfl⟩

set_option maxRecDepth 100000 in
theorem len_calls (w : World) (bd : Nat) (F : Nat → Prop) (D : Dk) (h : Dsk w bd F D) :
    Calls Tryd.prog 72 #[.pointer (some ⟨bd, 0, none⟩)] w fun e w' => e = .returned (.int .i64 D.sure.length) ∧ w = w' := by
  obtain ⟨vs, vu, vp, h, _⟩ := h
  obtain ⟨a, cap, rfl⟩ := own_form h.seen
  have c0 := cell_mk (i := 0) h.top rfl
  have hl := h.wf.len
  rw [hl] at c0
  clear h hl
  go_enter Tryd.func72, Tryd.ntmps72
  go_wp2
  go_ret
  exact ⟨rfl, rfl⟩

set_option maxRecDepth 100000 in
theorem has_calls (w : World) (bd : Nat) (F : Nat → Prop) (D : Dk) (i : Int) (h : Dsk w bd F D) :
    Calls Tryd.prog 75 #[.pointer (some ⟨bd, 0, none⟩), .int .i64 i] w fun e w' => e = .returned (.bool (decide (0 ≤ i ∧ i < D.sure.length))) ∧ w = w' := by
  obtain ⟨vs, vu, vp, h, _⟩ := h
  obtain ⟨a, cap, rfl⟩ := own_form h.seen
  have c0 := cell_mk (i := 0) h.top rfl
  have hl := h.wf.len
  rw [hl] at c0
  clear h hl
  by_cases h0 : 0 ≤ i
  · have e1 : decide (0 ≤ i ∧ i < D.sure.length) = decide (i < (D.sure.length : Int)) := by simp [h0]
    rw [e1]
    clear e1
    go_enter Tryd.func75, Tryd.ntmps75
    go_wp2
    go_ret
    exact ⟨rfl, rfl⟩
  · have e1 : decide (0 ≤ i ∧ i < D.sure.length) = false := by simp [h0]
    rw [e1]
    clear e1
    have d0 : decide (0 ≤ i) = false := by simp [h0]
    go_enter Tryd.func75, Tryd.ntmps75
    go_wp2
    go_ret
    exact ⟨rfl, rfl⟩

set_option maxRecDepth 100000 in
theorem down_calls (w : World) (bd : Nat) (F : Nat → Prop) (D : Dk) (h : Dsk w bd F D) :
    Calls Tryd.prog 23 #[.pointer (some ⟨bd, 0, none⟩)] w fun e w' => e = .returned (.bool D.down) ∧ w = w' := by
  obtain ⟨vs, vu, vp, h, _⟩ := h
  have c0 := cell_mk (i := 4) h.top rfl
  clear h
  go_enter Tryd.func23, Tryd.ntmps23
  go_wp2
  go_ret
  exact ⟨rfl, rfl⟩

set_option maxRecDepth 100000 in
theorem pending_calls (w : World) (bd : Nat) (F : Nat → Prop) (D : Dk) (h : Dsk w bd F D) :
    Calls Tryd.prog 35 #[.pointer (some ⟨bd, 0, none⟩)] w fun e w' => e = .returned (.int .i64 D.pend.length) ∧ w = w' := by
  obtain ⟨vs, vu, vp, h, _⟩ := h
  obtain ⟨a, cap, rfl⟩ := own_form h.pend
  have c0 := cell_mk (i := 2) h.top rfl
  clear h
  go_enter Tryd.func35, Tryd.ntmps35
  go_wp2
  go_ret
  exact ⟨rfl, rfl⟩

/-- A disk whose struct is written anew. -/
theorem DskAt.turn {w w' : World} {bd : Nat} {vs vu vp : Value} {D D' : Dk} (h : DskAt w bd vs vu vp D) (hf : Fr (fun b _ => b ≠ bd) w w')
    (ht : w'.heap[bd]? = some (.cells #[vs, vu, vp, .int .i64 D'.fuse, .bool D'.down] 91 (0, 0))) (h1 : D'.seen = D.seen) (h2 : D'.sure = D.sure) (h3 : D'.pend = D.pend) (hw : D'.ok) : DskAt w' bd vs vu vp D' := by
  have key : ∀ (e : TypeId) (size : Nat) (v : Value) (n : Nat) (xs : List Value), w.ownsRow 0 e size v n xs → e ≠ 91 → ∀ b o, v.ownBlock = some b → w.heap[b]? = some o → b ≠ bd := by
    intro e size v n xs ho hne b o hb hw e'
    rcases ho.2 with ⟨rfl, _⟩ | ⟨g, cap, cur, rfl, _, hg, _⟩
    · cases hb
    · cases hb
      have e2 : g = bd := e'
      rw [e2, h.top] at hg
      cases hg
      exact hne rfl
  refine ⟨ht, ?_, ?_, ?_, h.apart, hw⟩
  · rw [h1]; exact ownsRow_fr h.seen hf (key _ _ _ _ _ h.seen (by decide))
  · rw [h2]; exact ownsRow_fr h.sure hf (key _ _ _ _ _ h.sure (by decide))
  · rw [h3]; exact ownsRow_fr h.pend hf (key _ _ _ _ _ h.pend (by decide))

set_option maxRecDepth 100000 in
theorem fuse_calls (w : World) (bd : Nat) (F : Nat → Prop) (D : Dk) (n : Int) (h : Dsk w bd F D) (h0 : -9223372036854775808 ≤ n) (h1 : n ≤ 9223372036854775807) :
    Calls Tryd.prog 24 #[.pointer (some ⟨bd, 0, none⟩), .int .i64 n] w fun e w' => e = .returned (.tuple #[]) ∧ Dsk w' bd F { D with fuse := n } ∧ Fr (fun b _ => b ≠ bd) w w' := by
  obtain ⟨vs, vu, vp, h, hF⟩ := h
  have c0 := cell_mk (i := 3) h.top rfl
  have f0 := frozen_mk (i := 3) h.top
  have H := Lib.hid h
  clear h
  go_enter Tryd.func24, Tryd.ntmps24
  go_wp2
  go_end0
  have hf : Fr (fun b _ => b ≠ bd) w (w.setCell ⟨bd, 3, none⟩ (.int .i64 n)) := (Fr.refl _ _).setCell (fun _ _ h => h rfl) _
  exact ⟨rfl, ⟨vs, vu, vp, H.out.turn hf (heap_setCell_same H.out.top _) rfl rfl rfl { H.out.wf with lo := h0, hi := h1 }, hF⟩, hf⟩

/-- One thing is done, if any is. -/
def Dk.burn (D : Dk) : Dk := { D with fuse := D.fuse - min 1 (max 0 D.fuse), down := D.down || D.fuse == 0 }

set_option maxRecDepth 100000 in
theorem done_disk (w : World) (bd : Nat) (F : Nat → Prop) (D : Dk) (h : Dsk w bd F D) :
    Calls Tryd.prog 74 #[.pointer (some ⟨bd, 0, none⟩)] w fun e w' => e = .returned (.bool (!D.burn.down)) ∧ Dsk w' bd F D.burn ∧ Fr (fun b _ => b ≠ bd) w w' := by
  obtain ⟨vs, vu, vp, h, hF⟩ := h
  have c3 := cell_mk (i := 3) h.top rfl
  have c4 := cell_mk (i := 4) h.top rfl
  have f3 := frozen_mk (i := 3) h.top
  have f4 := frozen_mk (i := 4) h.top
  have lo := h.wf.lo
  have hi := h.wf.hi
  have H := Lib.hid h
  clear h
  generalize hfu : D.fuse = fu at c3 lo hi
  generalize hdo : D.down = dn at c4
  have HF := Lib.hid hfu
  have HD := Lib.hid hdo
  clear hfu hdo
  have H2 : Hid (w.setCell ⟨bd, 4, none⟩ (.bool (dn || fu == 0)) = w.setCell ⟨bd, 4, none⟩ (.bool D.burn.down)) := by rw [Dk.burn, HF.out, HD.out]; rfl
  have key : ∀ w2 : World, w2.heap[bd]? = some (.cells #[vs, vu, vp, .int .i64 fu, .bool D.burn.down] 91 (0, 0)) → Fr (fun b _ => b ≠ bd) w w2 → Dsk (w2.setCell ⟨bd, 3, none⟩ (.int .i64 D.burn.fuse)) bd F D.burn ∧ Fr (fun b _ => b ≠ bd) w (w2.setCell ⟨bd, 3, none⟩ (.int .i64 D.burn.fuse)) := by
    intro w2 t2 f2
    have hf : Fr (fun b _ => b ≠ bd) w (w2.setCell ⟨bd, 3, none⟩ (.int .i64 D.burn.fuse)) := f2.setCell (fun _ _ h => h rfl) _
    refine ⟨⟨vs, vu, vp, H.out.turn hf (heap_setCell_same t2 _) rfl rfl rfl ?_, hF⟩, hf⟩
    have h1 : D.burn.fuse = fu - min 1 (max 0 fu) := by rw [Dk.burn, HF.out]
    exact { H.out.wf with lo := by rw [h1]; omega, hi := by rw [h1]; omega }
  have KEY := Lib.hid key
  have hbf : Hid (D.burn.fuse = fu - min 1 (max 0 fu)) := by rw [Dk.burn, HF.out]; rfl
  clear key
  rcases dn with _ | _
  · by_cases hd : fu = 0
    · have hbd : Hid (D.burn.down = true) := by rw [Dk.burn, HF.out, HD.out, hd]; rfl
      have hz : ((fu : Int) == 0) = true := by simp [hd]
      clear hd
      have t1 : (w.setCell ⟨bd, 4, none⟩ (.bool true)).heap[bd]? = some (.cells #[vs, vu, vp, .int .i64 fu, .bool D.burn.down] 91 (0, 0)) := by
        rw [hbd.out, heap_setCell_same H.out.top, HF.out]; rfl
      have g1 : Fr (fun b _ => b ≠ bd) w (w.setCell ⟨bd, 4, none⟩ (.bool true)) := (Fr.refl _ _).setCell (fun _ _ h => h rfl) _
      have T1 := Lib.hid t1
      have G1 := Lib.hid g1
      clear t1 g1
      go_enter Tryd.func74, Tryd.ntmps74
      go_wp2
      generalize w.setCell ⟨bd, 4, none⟩ (.bool true) = w2 at T1 G1 ⊢
      have k3 : w2.cell? ⟨bd, 3, none⟩ = some (.int .i64 fu) := cell_mk T1.out rfl
      have k4 : w2.cell? ⟨bd, 4, none⟩ = some (.bool true) := (show w2.cell? ⟨bd, 4, none⟩ = some (.bool D.burn.down) from cell_mk T1.out rfl).trans (by rw [hbd.out])
      have j3 := frozen_mk (i := 3) T1.out
      have T2 : Hid (w2.drew.heap[bd]? = some (.cells #[vs, vu, vp, .int .i64 fu, .bool D.burn.down] 91 (0, 0))) := T1.out
      have G2 := Lib.hid G1.out.drew
      clear c3 c4 f3 f4
      go_still_tail 13, (by kernel_rfl)
      go_wp2
      all_goals
        go_ret
        obtain ⟨k1, k2⟩ := KEY.out _ T2.out G2.out
        rw [hbd.out]
        have hbf' := hbf.out
        first
        | (have hx : D.burn.fuse = fu - 1 := by omega
           rw [hx] at k1 k2
           exact ⟨rfl, k1, k2⟩)
        | (have hx : D.burn.fuse = fu := by omega
           rw [hx] at k1 k2
           exact ⟨rfl, k1, k2⟩)
    · have hbd : Hid (D.burn.down = false) := by rw [Dk.burn, HF.out, HD.out]; simp [hd, Hid]
      have hz : ((fu : Int) == 0) = false := by simp [hd]
      clear hd
      have t1 : (w.setCell ⟨bd, 4, none⟩ (.bool false)).heap[bd]? = some (.cells #[vs, vu, vp, .int .i64 fu, .bool D.burn.down] 91 (0, 0)) := by
        rw [hbd.out, heap_setCell_same H.out.top, HF.out]; rfl
      have g1 : Fr (fun b _ => b ≠ bd) w (w.setCell ⟨bd, 4, none⟩ (.bool false)) := (Fr.refl _ _).setCell (fun _ _ h => h rfl) _
      have T1 := Lib.hid t1
      have G1 := Lib.hid g1
      clear t1 g1
      go_enter Tryd.func74, Tryd.ntmps74
      go_wp2
      generalize w.setCell ⟨bd, 4, none⟩ (.bool false) = w2 at T1 G1 ⊢
      have k3 : w2.cell? ⟨bd, 3, none⟩ = some (.int .i64 fu) := cell_mk T1.out rfl
      have k4 : w2.cell? ⟨bd, 4, none⟩ = some (.bool false) := (show w2.cell? ⟨bd, 4, none⟩ = some (.bool D.burn.down) from cell_mk T1.out rfl).trans (by rw [hbd.out])
      have j3 := frozen_mk (i := 3) T1.out
      have T2 : Hid (w2.drew.heap[bd]? = some (.cells #[vs, vu, vp, .int .i64 fu, .bool D.burn.down] 91 (0, 0))) := T1.out
      have G2 := Lib.hid G1.out.drew
      clear c3 c4 f3 f4
      go_still_tail 13, (by kernel_rfl)
      go_wp2
      all_goals
        go_ret
        obtain ⟨k1, k2⟩ := KEY.out _ T2.out G2.out
        rw [hbd.out]
        have hbf' := hbf.out
        first
        | (have hx : D.burn.fuse = fu - 1 := by omega
           rw [hx] at k1 k2
           exact ⟨rfl, k1, k2⟩)
        | (have hx : D.burn.fuse = fu := by omega
           rw [hx] at k1 k2
           exact ⟨rfl, k1, k2⟩)
  · have hbd : Hid (D.burn.down = true) := by rw [Dk.burn, HF.out, HD.out]; rfl
    have t1 : (w.setCell ⟨bd, 4, none⟩ (.bool true)).heap[bd]? = some (.cells #[vs, vu, vp, .int .i64 fu, .bool D.burn.down] 91 (0, 0)) := by
      rw [hbd.out, heap_setCell_same H.out.top, HF.out]; rfl
    have g1 : Fr (fun b _ => b ≠ bd) w (w.setCell ⟨bd, 4, none⟩ (.bool true)) := (Fr.refl _ _).setCell (fun _ _ h => h rfl) _
    have T1 := Lib.hid t1
    have G1 := Lib.hid g1
    clear t1 g1
    go_enter Tryd.func74, Tryd.ntmps74
    go_wp2
    generalize w.setCell ⟨bd, 4, none⟩ (.bool true) = w2 at T1 G1 ⊢
    have k3 : w2.cell? ⟨bd, 3, none⟩ = some (.int .i64 fu) := cell_mk T1.out rfl
    have k4 : w2.cell? ⟨bd, 4, none⟩ = some (.bool true) := (show w2.cell? ⟨bd, 4, none⟩ = some (.bool D.burn.down) from cell_mk T1.out rfl).trans (by rw [hbd.out])
    have j3 := frozen_mk (i := 3) T1.out
    have T2 : Hid (w2.drew.heap[bd]? = some (.cells #[vs, vu, vp, .int .i64 fu, .bool D.burn.down] 91 (0, 0))) := T1.out
    have G2 := Lib.hid G1.out.drew
    clear c3 c4 f3 f4
    go_still_tail 13, (by kernel_rfl)
    go_wp2
    all_goals
      go_ret
      obtain ⟨k1, k2⟩ := KEY.out _ T2.out G2.out
      rw [hbd.out]
      have hbf' := hbf.out
      first
      | (have hx : D.burn.fuse = fu - 1 := by omega
         rw [hx] at k1 k2
         exact ⟨rfl, k1, k2⟩)
      | (have hx : D.burn.fuse = fu := by omega
         rw [hx] at k1 k2
         exact ⟨rfl, k1, k2⟩)
end Go.Proofs.YtaeonlafcbgpcaaDoor
/- Package disk: New. -/
namespace Go.Proofs.YtaeonlafcbgpcaaDoor
open Go.RowKit

def zsec (n : Nat) : Array Value := (List.replicate (n * 64) (.int .u8 0)).toArray
def Dk.new (n : Nat) : Dk := ⟨List.replicate n (List.replicate 64 0), List.replicate n (List.replicate 64 0), [], -1, false⟩
theorem flat_zero (n : Nat) : flatS (List.replicate n (List.replicate 64 0)) = List.replicate (n * 64) (.int .u8 0) := by
  unfold flatS
  rw [List.flatten_replicate_replicate, List.map_replicate]
  rfl
theorem Dk.new_ok (n : Nat) (h1 : 1 ≤ n) (h2 : n ≤ 512) : (Dk.new n).ok := by
  refine ⟨by simp [Dk.new], by simp [Dk.new, h1], by simp [Dk.new, h2], ?_, ?_, by simp [Dk.new], by simp [Dk.new], by simp [Dk.new], by simp [Dk.new]⟩
  · intro x hx; rw [(List.mem_replicate.1 hx).2]; simp
  · intro x hx; rw [(List.mem_replicate.1 hx).2]; simp

theorem info_sector : (Tryd.prog.info? 93).map (fun i => (i.zero, i.size, i.bytes)) = some (some (.agg (Array.replicate 64 (.int .u8 0))), 64, 64) := by kernel_rfl
theorem made_same (v : Value) (m k : Nat) (hm : 0 < m) : madeCells (Array.replicate m v) k = (List.replicate k v).toArray := by
  apply Array.ext_getElem?
  intro i
  by_cases hi : i < k
  · have h : i % m < m := Nat.mod_lt _ hm
    simp [madeCells, hi, h]
  · simp [madeCells, hi]
theorem make_sectors (w : World) (n : Nat) (z : Int) (hz : z = n) (h2 : n ≤ 512) : (Instr.makeSlice 88 (.int .i64 z) (.int .i64 z)).run Tryd.prog w = .ok (.slice (some ⟨w.heap.size, 0, none⟩) n n) (w.alloc (.cells (zsec n) 93 (0, 0))) := by
  subst hz
  obtain ⟨i0, hi, hz0, hz1, hz2⟩ := info_parts info_sector
  have hr := run_make (P := Tryd.prog) w 88 93 i0 (.agg (Array.replicate 64 (.int .u8 0))) Tryd.underlying88 hi hz0 .i64 .i64 n n (by omega) (Int.le_refl _) (by rw [hz2]; omega) (by omega)
  simp only [Int.toNat_natCast] at hr
  rw [hr, hz1]
  have e : madeCells (Value.agg (Array.replicate 64 (.int .u8 0))).cells (n * 64) = zsec n := made_same _ 64 _ (by decide)
  rw [e]

/-- A new disk in memory. -/
theorem dsk_new {w' : World} (n bd gs gu : Nat) (B : Nat) (h1 : 1 ≤ n) (h2 : n ≤ 512) (hs : w'.heap[gs]? = some (.cells (zsec n) 93 (0, 0))) (hu : w'.heap[gu]? = some (.cells (zsec n) 93 (0, 0))) (hne : gs ≠ gu)
    (ht : w'.heap[bd]? = some (.cells #[.slice (some ⟨gs, 0, none⟩) n n, .slice (some ⟨gu, 0, none⟩) n n, .slice none 0 0, .int .i64 (-1), .bool false] 91 (0, 0))) (b1 : B ≤ gs) (b2 : B ≤ gu) (b3 : B ≤ bd) : Dsk w' bd (fun b => B ≤ b) (Dk.new n) := by
  have own : ∀ g, w'.heap[g]? = some (.cells (zsec n) 93 (0, 0)) → w'.ownsRow 0 93 64 (.slice (some ⟨g, 0, none⟩) n n) (List.replicate n (List.replicate 64 (0 : UInt8))).length (flatS (List.replicate n (List.replicate 64 0))) := by
    intro g hg
    rw [flat_zero, List.length_replicate]
    exact ⟨by simp, .inr ⟨g, n, _, rfl, Nat.zero_le _, hg, Nat.le_refl _, by unfold maxLen; omega, by simp [zsec], by simp [zsec]⟩⟩
  refine ⟨_, _, _, ⟨ht, own gs hs, own gu hu, ⟨rfl, .inl ⟨rfl, rfl⟩⟩, ?_, Dk.new_ok n h1 h2⟩, b3, ?_, ?_, ?_⟩
  · intro b e e'
    simp only [Value.ownBlock, Option.some.injEq] at e e'
    exact hne (e.trans e'.symm)
  · intro b e; simp only [Value.ownBlock, Option.some.injEq] at e; omega
  · intro b e; simp only [Value.ownBlock, Option.some.injEq] at e; omega
  · intro b e; cases e

set_option maxRecDepth 100000 in
theorem new_calls (w : World) (n : Nat) (z : Int) (hz : z = n) (h1 : 1 ≤ n) (h2 : n ≤ 512) :
    Calls Tryd.prog 26 #[.int .i64 z] w fun e w' => (∃ bd, e = .returned (.tuple #[.pointer (some ⟨bd, 0, none⟩), .int .i64 0]) ∧ Dsk w' bd (fun b => w.heap.size ≤ b) (Dk.new n)) ∧ Fr (fun _ _ => True) w w' := by
  have hmk := fun (W : World) => make_sectors W n z hz h2
  have z1 : 1 ≤ z := by omega
  have z2 : z ≤ 512 := by omega
  have HZ := Lib.hid hz
  clear hz
  go_enter Tryd.func26, Tryd.ntmps26
  go_wp2
  go_region
  all_goals go_wp2
  all_goals go_ret2
  · exact ⟨⟨w.heap.size + 1 + 1, rfl, dsk_new n _ w.heap.size (w.heap.size + 1) w.heap.size h1 h2 (heap_alloc_lt (heap_alloc_lt (heap_alloc_new w _) _) _) (heap_alloc_lt (heap_alloc_at (by simp) _) _) (by omega) (heap_alloc_at (by simp) _) (by omega) (by omega) (by omega)⟩, ((((Fr.refl _ _).alloc _).alloc _).alloc _).drew⟩
  · exact ⟨⟨w.heap.size + 1 + 1, rfl, dsk_new n _ (w.heap.size + 1) w.heap.size w.heap.size h1 h2 (heap_alloc_lt (heap_alloc_at (by simp) _) _) (heap_alloc_lt (heap_alloc_lt (heap_alloc_new w _) _) _) (by omega) (heap_alloc_at (by simp) _) (by omega) (by omega) (by omega)⟩, ((((Fr.refl _ _).alloc _).alloc _).alloc _).drew⟩
end Go.Proofs.YtaeonlafcbgpcaaDoor
/- Rows of elements of many cells: read and written at a place. -/
namespace Go.Proofs.YtaeonlafcbgpcaaDoor
open Go.RowKit

section
variable {α : Type} {m : Nat}
theorem chunk_length : ∀ (l : List (List α)), (∀ x ∈ l, x.length = m) → l.flatten.length = l.length * m
  | [], _ => by simp
  | x :: l, h => by
    rw [List.flatten_cons, List.length_append, h x (by simp), chunk_length l fun y hy => h y (by simp [hy]), List.length_cons, Nat.succ_mul, Nat.add_comm]
theorem chunk_take : ∀ (l : List (List α)) (i : Nat), (∀ x ∈ l, x.length = m) → l.flatten.take (i * m) = (l.take i).flatten
  | [], _, _ => by simp
  | x :: l, 0, _ => by simp
  | x :: l, i + 1, h => by
    have hx := h x (by simp)
    have e : (i + 1) * m = x.length + i * m := by rw [Nat.succ_mul, hx, Nat.add_comm]
    rw [List.flatten_cons, e, List.take_length_add_append, chunk_take l i fun y hy => h y (by simp [hy]), List.take_succ_cons, List.flatten_cons]
theorem chunk_drop : ∀ (l : List (List α)) (i : Nat), (∀ x ∈ l, x.length = m) → l.flatten.drop (i * m) = (l.drop i).flatten
  | [], _, _ => by simp
  | x :: l, 0, _ => by simp
  | x :: l, i + 1, h => by
    have hx := h x (by simp)
    have e : (i + 1) * m = x.length + i * m := by rw [Nat.succ_mul, hx, Nat.add_comm]
    rw [List.flatten_cons, e, List.drop_length_add_append, chunk_drop l i fun y hy => h y (by simp [hy]), List.drop_succ_cons]
theorem chunk_get (l : List (List α)) (i : Nat) (h : ∀ x ∈ l, x.length = m) (hi : i < l.length) : (l.flatten.drop (i * m)).take m = l[i] := by
  have hx : l[i].length = m := h _ (List.getElem_mem hi)
  rw [chunk_drop l i h, List.drop_eq_getElem_cons hi, List.flatten_cons, List.take_append_of_le_length (by omega), List.take_of_length_le (by omega)]
theorem chunk_set (l : List (List α)) (i : Nat) (x : List α) (h : ∀ x ∈ l, x.length = m) (hi : i < l.length) :
    (l.set i x).flatten = l.flatten.take (i * m) ++ (x ++ l.flatten.drop (i * m + m)) := by
  rw [chunk_take l i h, show i * m + m = (i + 1) * m from by rw [Nat.succ_mul], chunk_drop l (i + 1) h, List.set_eq_take_append_cons_drop, if_pos hi]
  simp
end

/-- Cells from o on are written. -/
def setsA (cur : Array Value) (o : Nat) : List Value → Array Value
  | [] => cur
  | v :: vs => setsA (cur.setIfInBounds o v) (o + 1) vs
theorem setsA_size (vs : List Value) : ∀ (cur : Array Value) (o : Nat), (setsA cur o vs).size = cur.size := by
  induction vs with
  | nil => intro cur o; rfl
  | cons v vs ih => intro cur o; rw [setsA, ih]; simp
theorem setsA_get (vs : List Value) : ∀ (cur : Array Value) (o j : Nat), o + vs.length ≤ cur.size → (setsA cur o vs)[j]? = if o ≤ j ∧ j < o + vs.length then vs[j - o]? else cur[j]? := by
  induction vs with
  | nil => intro cur o j _; rw [if_neg (by simp only [List.length_nil]; omega)]; rfl
  | cons v vs ih =>
    intro cur o j h
    simp only [List.length_cons] at h ⊢
    rw [setsA, ih _ _ _ (by simp; omega), Array.getElem?_setIfInBounds]
    by_cases h1 : o + 1 ≤ j ∧ j < o + 1 + vs.length
    · rw [if_pos h1, if_pos (by omega), show j - o = (j - (o + 1)) + 1 from by omega, List.getElem?_cons_succ]
    · rw [if_neg h1]
      by_cases h2 : o = j
      · subst h2
        rw [if_pos rfl, if_pos (by omega), if_pos (by omega)]
        simp
      · rw [if_neg h2, if_neg (by omega)]
theorem splice_get {α : Type} (L x : List α) (o j : Nat) (h : o + x.length ≤ L.length) : (L.take o ++ (x ++ L.drop (o + x.length)))[j]? = if o ≤ j ∧ j < o + x.length then x[j - o]? else L[j]? := by
  have hl : (L.take o).length = o := by rw [List.length_take]; omega
  by_cases h1 : j < o
  · rw [List.getElem?_append_left (by omega), if_neg (by omega), List.getElem?_take, if_pos h1]
  · rw [List.getElem?_append_right (by omega), hl]
    by_cases h2 : j < o + x.length
    · rw [if_pos (by omega), List.getElem?_append_left (by omega)]
    · rw [if_neg (by omega), List.getElem?_append_right (by omega), List.getElem?_drop]
      congr 1
      omega
theorem heap_setCells_same (vs : List Value) : ∀ {w : World} {g o : Nat} {cur : Array Value} {t : TypeId} {fz : Nat × Nat}, w.heap[g]? = some (.cells cur t fz) → (w.setCells g o vs).heap[g]? = some (.cells (setsA cur o vs) t fz) := by
  induction vs with
  | nil => intro w g o cur t fz h; exact h
  | cons v vs ih => intro w g o cur t fz h; exact ih (heap_setCell_same h v)
theorem heap_setCells_ne (vs : List Value) : ∀ {w : World} {g o k : Nat}, k ≠ g → (w.setCells g o vs).heap[k]? = w.heap[k]? := by
  induction vs with
  | nil => intro w g o k h; rfl
  | cons v vs ih => intro w g o k h; exact (ih h).trans (heap_setCell_ne h v)
theorem Fr.setCells {K : Nat → Obj → Prop} {a w : World} (h : Fr K a w) {g : Nat} (hp : ∀ o, a.heap[g]? = some o → ¬ K g o) (o : Nat) (vs : List Value) : Fr K a (w.setCells g o vs) := by
  induction vs generalizing w o with
  | nil => exact h
  | cons v vs ih => exact ih (h.setCell (p := ⟨g, o, none⟩) hp v) (o + 1)

/-- A row of elements of m cells each. -/
theorem row_range {w : World} {B : Nat} {e : TypeId} {m n : Nat} {g cap : Nat} {l : List (List Value)} (h : w.ownsRow B e m (.slice (some ⟨g, 0, none⟩) n cap) n l.flatten) (hl : ∀ x ∈ l, x.length = m) (i : Nat) (hi : i < l.length) (hm : 0 < m) : w.rangeAt g (i * m) l[i] := by
  intro j v hv
  have hn : n * m = l.length * m := by rw [← chunk_length l hl]; exact h.1.symm
  have hn' : n = l.length := Nat.eq_of_mul_eq_mul_right hm hn
  have hj : j < l[i].length := by
    rcases Nat.lt_or_ge j l[i].length with h1 | h1
    · exact h1
    · rw [List.getElem?_eq_none h1] at hv; cases hv
  have hx : l[i].length = m := hl _ (List.getElem_mem hi)
  have hb : i * m + j < n * m := by
    have : (i + 1) * m ≤ n * m := Nat.mul_le_mul_right _ (by omega)
    rw [Nat.succ_mul] at this
    omega
  rw [h.cellAt _ hb]
  have e1 := chunk_get l i hl hi
  rw [← e1, List.getElem?_take, if_pos (by omega), List.getElem?_drop] at hv
  exact hv
theorem row_there {w : World} {B : Nat} {e : TypeId} {m n : Nat} {g cap : Nat} {xs : List Value} (h : w.ownsRow B e m (.slice (some ⟨g, 0, none⟩) n cap) n xs) (i : Nat) (hi : i < n) : w.there g (i * m) m := by
  intro j hj
  have hb : i * m + j < n * m := by
    have : (i + 1) * m ≤ n * m := Nat.mul_le_mul_right _ (by omega)
    rw [Nat.succ_mul] at this
    omega
  have h1 := h.1
  refine ⟨?_, h.frozenAt _⟩
  rw [h.cellAt _ hb, List.getElem?_eq_getElem (by omega)]
  rfl
theorem row_set {w : World} {B : Nat} {e : TypeId} {m n : Nat} {g cap : Nat} {l : List (List Value)} (h : w.ownsRow B e m (.slice (some ⟨g, 0, none⟩) n cap) n l.flatten) (hl : ∀ x ∈ l, x.length = m) (i : Nat) (hi : i < l.length) (hm : 0 < m) (x : List Value) (hx : x.length = m) :
    (w.setCells g (i * m) x).ownsRow B e m (.slice (some ⟨g, 0, none⟩) n cap) n (l.set i x).flatten := by
  have hn : n * m = l.length * m := by rw [← chunk_length l hl]; exact h.1.symm
  have hn' : n = l.length := Nat.eq_of_mul_eq_mul_right hm hn
  have hb : i * m + m ≤ n * m := by
    have : (i + 1) * m ≤ n * m := Nat.mul_le_mul_right _ (by omega)
    rwa [Nat.succ_mul] at this
  have hl' : ∀ y ∈ l.set i x, y.length = m := fun y hy => by
    rcases List.mem_or_eq_of_mem_set hy with h1 | h1
    · exact hl y h1
    · rw [h1]; exact hx
  obtain ⟨h1, h2⟩ := h
  refine ⟨by rw [chunk_length _ hl', List.length_set, hn'], ?_⟩
  rcases h2 with ⟨h2, _⟩ | ⟨g', cap', cur, hv, hB, hg, hnc, hcm, hs, ht⟩
  · cases h2
  · cases hv
    refine .inr ⟨g, cap, setsA cur (i * m) x, rfl, hB, heap_setCells_same x hg, hnc, hcm, by rw [setsA_size]; exact hs, ?_⟩
    have hcs : n * m ≤ cur.size := by rw [hs]; exact Nat.mul_le_mul_right _ hnc
    have hcl : n * m ≤ cur.toList.length := by simpa using hcs
    rw [chunk_set l i x hl hi, ← ht]
    apply List.ext_getElem?
    intro j
    have hA : (setsA cur (i * m) x).toList[j]? = if i * m ≤ j ∧ j < i * m + m then x[j - i * m]? else cur.toList[j]? := by
      rw [Array.getElem?_toList, setsA_get x cur _ _ (by omega), hx, Array.getElem?_toList (xs := cur)]
    have hS := splice_get (cur.toList.take (n * m)) x (i * m) j (by rw [List.length_take, hx]; omega)
    rw [hx] at hS
    rw [hS, List.getElem?_take, List.getElem?_take, hA]
    by_cases h1 : i * m ≤ j ∧ j < i * m + m
    · rw [if_pos h1, if_pos h1, if_pos (by omega)]
    · rw [if_neg h1, if_neg h1]
end Go.Proofs.YtaeonlafcbgpcaaDoor
/- Package disk: Read. -/
namespace Go.Proofs.YtaeonlafcbgpcaaDoor
open Go.RowKit

theorem flatS_eq (l : List (List UInt8)) : flatS l = (l.map (·.map byteV)).flatten := by
  unfold flatS; rw [List.map_flatten]
theorem mem64 {l : List (List UInt8)} (h : ∀ x ∈ l, x.length = 64) : ∀ x ∈ l.map (·.map byteV), x.length = 64 := by
  intro x hx
  obtain ⟨y, hy, rfl⟩ := List.mem_map.1 hx
  rw [List.length_map]; exact h y hy
/-- A disk's row: where it lies. -/
theorem row_form {w : World} {e : TypeId} {v : Value} {l : List (List UInt8)} (h : w.ownsRow 0 e 64 v l.length (flatS l)) (h1 : 0 < l.length) : ∃ g cap, v = .slice (some ⟨g, 0, none⟩) l.length cap ∧ l.length ≤ cap ∧ g < w.heap.size := by
  rcases h.2 with ⟨_, h0⟩ | ⟨g, cap, cur, hv, hb, hg, hc, _⟩
  · omega
  · exact ⟨g, cap, hv, hc, lt_of_some hg⟩
theorem sec_range {w : World} {e : TypeId} {g cap : Nat} {l : List (List UInt8)} (h : w.ownsRow 0 e 64 (.slice (some ⟨g, 0, none⟩) l.length cap) l.length (flatS l)) (hl : ∀ x ∈ l, x.length = 64) (i : Nat) (hi : i < l.length) : w.rangeAt g (i * 64) (l[i].map byteV) := by
  rw [flatS_eq] at h
  have := row_range h (mem64 hl) i (by simpa using hi) (by decide)
  simpa using this
theorem sec_set {w : World} {e : TypeId} {g cap : Nat} {l : List (List UInt8)} (h : w.ownsRow 0 e 64 (.slice (some ⟨g, 0, none⟩) l.length cap) l.length (flatS l)) (hl : ∀ x ∈ l, x.length = 64) (i : Nat) (hi : i < l.length) (x : List UInt8) (hx : x.length = 64) :
    (w.setCells g (i * 64) (x.map byteV)).ownsRow 0 e 64 (.slice (some ⟨g, 0, none⟩) l.length cap) l.length (flatS (l.set i x)) := by
  rw [flatS_eq] at h ⊢
  have := row_set h (mem64 hl) i (by simpa using hi) (by decide) (x.map byteV) (by rw [List.length_map]; exact hx)
  rwa [List.map_set]
theorem BytesAt.of_range {w : World} {g o : Nat} {bs : List UInt8} (h : w.rangeAt g o (bs.map byteV)) (hn : bs.length = 64) : BytesAt (fun _ _ => True) w (.slice (some ⟨g, o, none⟩) 64 64) bs := by
  have hc : ∀ i, (hi : i < bs.length) → w.cell? ⟨g, o + i, none⟩ = some (byteV bs[i]) := fun i hi => h i _ (by rw [List.getElem?_map, List.getElem?_eq_getElem hi]; rfl)
  have hl : g < w.heap.size := cell_lt (hc 0 (by omega))
  exact ⟨_, 64, by rw [hn], by omega, (fun e => by cases e), .inr ⟨g, o, w.heap[g], rfl, Array.getElem?_eq_getElem hl, trivial, hc⟩⟩

set_option maxRecDepth 100000 in
theorem read_out (w : World) (bd : Nat) (F : Nat → Prop) (D : Dk) (i : Int) (h : Dsk w bd F D) (hi : ¬ (0 ≤ i ∧ i < D.sure.length)) :
    Calls Tryd.prog 59 #[.pointer (some ⟨bd, 0, none⟩), .int .i64 i] w fun e w' => e = .returned (.tuple #[.slice none 0 0, .int .i64 40]) ∧ w = w' := by
  have hc := has_calls w bd F D i h
  rw [show decide (0 ≤ i ∧ i < (D.sure.length : Int)) = false from by simpa using hi] at hc
  have HC := Lib.hid hc
  clear hc h hi
  go_enter Tryd.func59, Tryd.ntmps59
  go_wp2_with fail
  (with_reducible refine HC.out.mono ?_)
  rintro e w1 ⟨rfl, rfl⟩
  go_wp2
  go_ret2
  exact ⟨rfl, rfl⟩

set_option maxRecDepth 100000 in
theorem read_in (w : World) (bd : Nat) (F : Nat → Prop) (D : Dk) (k : Nat) (i : Int) (hz : i = k) (h : Dsk w bd F D) (hi : k < D.seen.length) :
    Calls Tryd.prog 59 #[.pointer (some ⟨bd, 0, none⟩), .int .i64 i] w fun e w' => (∃ a cap, e = .returned (.tuple #[.slice a 64 cap, .int .i64 0]) ∧ BytesAt (New w.heap.size) w' (.slice a 64 cap) D.seen[k]) ∧ Fr (fun _ _ => True) w w' := by
  subst hz
  have hc := has_calls w bd F D k h
  have hwf := h.wf
  rw [show decide (0 ≤ (k : Int) ∧ (k : Int) < (D.sure.length : Int)) = true from by have := hwf.len; simp; omega] at hc
  have HC := Lib.hid hc
  obtain ⟨vs, vu, vp, h, _⟩ := h
  obtain ⟨g, cap, rfl, hcap, hgl⟩ := row_form h.seen (by omega)
  have c0 := cell_mk (i := 0) h.top rfl
  have hr := sec_range h.seen hwf.s64 k hi
  have h64 : D.seen[k].length = 64 := hwf.s64 _ (List.getElem_mem hi)
  have hb := BytesAt.of_range hr h64
  have hcl := clone_calls w _ _ hb (by omega)
  rw [h64] at hcl
  have HCL := Lib.hid hcl
  have hlen : (D.seen.length : Int) ≤ 512 := by have := hwf.max; have := hwf.len; omega
  clear hcl hb hr h hc h64 hwf
  go_enter Tryd.func59, Tryd.ntmps59
  go_wp2_with fail
  (with_reducible refine HC.out.mono ?_)
  rintro e w1 ⟨rfl, rfl⟩
  go_wp2_with fail
  (with_reducible refine HCL.out.mono ?_)
  rintro e w2 ⟨a, c, rfl, b2, f2⟩
  have B2 := Lib.hid b2
  have F2 := Lib.hid f2
  clear b2 f2
  go_wp2
  go_ret2
  exact ⟨⟨_, _, rfl, B2.out⟩, F2.out⟩
end Go.Proofs.YtaeonlafcbgpcaaDoor
/- A slice literal of one element of many cells. -/
namespace Go.Proofs.YtaeonlafcbgpcaaDoor
open Go.RowKit

theorem fold_sets : ∀ (l : List Value) (k : Nat) (init : Array Value), (l.zipIdx k).foldl (fun cs x => cs.setIfInBounds (0 + x.2) x.1) init = setsA init k l
  | [], _, _ => rfl
  | v :: l, k, init => by
    rw [List.zipIdx_cons, List.foldl_cons, fold_sets l (k + 1), setsA, Nat.zero_add]
theorem setsA_all (init cells : Array Value) (h : init.size = cells.size) : setsA init 0 cells.toList = cells := by
  apply Array.ext_getElem?
  intro j
  rw [setsA_get _ _ _ _ (by simp; omega)]
  by_cases hj : j < cells.size
  · rw [if_pos (by simp [hj])]
    simp
  · rw [if_neg (by simp; omega), Array.getElem?_eq_none (by omega), Array.getElem?_eq_none (by omega)]

def shutBs (t : TypeId) (n : Nat) (ps : Array (Nat × Value)) : Sem Value := Instr.buildSlice t n ps
theorem build_one {P : Program} (W : World) (t elem : TypeId) (n : Nat) (cells z : Array Value) (ht : P.underlying t = some (.slice elem)) (hs : (P.info? elem).map (fun i => (i.zero, i.size)) = some (some (.agg z), n)) (hc : cells.size = n) (h0 : 0 < n) (hn : n ≤ 16777216) :
    (Instr.buildSlice t 1 #[(0, .agg cells)]).run P W = .ok (.slice (some ⟨W.heap.size, 0, none⟩) 1 1) (W.alloc (.cells cells elem (0, 0))) := by
  have e1 : ∀ init : Array Value, init.size = cells.size → Array.foldl (fun cs (x : Value × Nat) => cs.setIfInBounds (0 + x.2) x.1) init cells.zipIdx = cells := fun init hi => by
    rw [← Array.foldl_toList, Array.toList_zipIdx, fold_sets]
    exact setsA_all init cells hi
  cases hq : P.info? elem with
  | none => simp [hq] at hs
  | some i =>
    simp only [hq, Option.map_some, Option.some.injEq, Prod.mk.injEq] at hs
    obtain ⟨hz, hsz⟩ := hs
    have hzv : (zeroValue elem).run P W = .ok (.agg z) W := by
      simp [zeroValue, typeInfo, hq, hz]
    have hso : (sizeOf elem).run P W = .ok n W := by simp [sizeOf, typeInfo, hq, hsz]
    unfold Instr.buildSlice
    simp only [Sem.run_bind, run_underlying ht, Result.andThen_ok, hso, Nat.one_mul]
    rw [if_neg (by omega), if_neg (by omega)]
    simp only [Sem.run_bind, hzv, Result.andThen_ok, Sem.run_pure]
    have e2 : Instr.fill (fun i => some (i * n, n)) ((Array.range n).map fun x => z[x % z.size]!) [(0, Value.agg cells)] = some cells := by
      simp only [Instr.fill, Value.cells, hc, Nat.zero_mul]
      rw [if_neg (by simp)]
      exact congrArg some (e1 _ (by simp [hc]))
    simp only [Value.cells]
    rw [e2]
    rfl
end Go.Proofs.YtaeonlafcbgpcaaDoor
