/- Texts of the proofs, part 10: what the functions that they reach do, walked; no conditions beyond those that each states. -/
import Derived.Deep.RegionWith
import Derived.Deep.DeepCutAuto
import Derived.StillTailTactics
import Derived.Deep.MidRow
import Derived.Test.YtcpbmempfeloaaaDoorZz1d4fcecac6
set_option linter.unusedVariables false
set_option linter.unusedSimpArgs false
/- Package slot: Stamp. -/
namespace Go.Proofs.YtcpbmempfeloaaaDoor
open Go.RowKit

/-- Where a Writer's bytes lie behind a step: where they lay, or in new memory. -/
def Lies (n : Nat) (v v' : Value) : Prop := v'.ownBlock = v.ownBlock ∨ ∀ k, v'.ownBlock = some k → n ≤ k
theorem Fr.chain {bw n : Nat} {v v1 : Value} {w w1 w2 : World} (h1 : Fr (KW bw v) w w1) (hv : Lies n v v1) (hn : w.heap.size ≤ n) (h2 : Fr (KW bw v1) w1 w2) : Fr (KW bw v) w w2 := by
  refine ⟨h2.os.trans h1.os, h2.tape.trans h1.tape, h2.output.trans h1.output, Nat.le_trans h1.size h2.size, fun b o hb hk => ?_⟩
  refine h2.keep b o (h1.keep b o hb hk) ⟨hk.1, fun e => ?_⟩
  rcases hv with hv | hv
  · exact hk.2 (hv ▸ e)
  · have := hv b e; have := lt_of_some hb; omega
theorem Lies.chain {n m : Nat} {v v1 v2 : Value} (h1 : Lies n v v1) (h2 : Lies m v1 v2) (hm : n ≤ m) : Lies n v v2 := by
  rcases h2 with h2 | h2
  · rcases h1 with h1 | h1
    · exact .inl (h2.trans h1)
    · exact .inr fun k e => h1 k (h2 ▸ e)
  · exact .inr fun k e => Nat.le_trans hm (h2 k e)
/-- Nothing older than a is touched. -/
theorem Fr.old_trans {K : Nat → Obj → Prop} {a w w' : World} (h : Fr (fun _ _ => True) a w) (hf : Fr K w w') (hk : ∀ b o, b < a.heap.size → K b o) : Fr (fun _ _ => True) a w' :=
  ⟨hf.os.trans h.os, hf.tape.trans h.tape, hf.output.trans h.output, Nat.le_trans h.size hf.size, fun b o hb _ => hf.keep b o (h.keep b o hb trivial) (hk b o (lt_of_some hb))⟩
theorem TabOK.tt {w w' : World} (h : TabOK w) (hf : Fr (fun _ _ => True) w w') : TabOK w' := fun i hi => hf.cell (fun _ _ => trivial) (h i hi)

theorem wnum_calls (w : World) (bw : Nat) (v : Value) (bs : List UInt8) (n : Nat) (size : Nat) (nz sz : Int) (hnz : nz = n) (hsz : sz = size) (h : WrAt w bw v bs) (h1 : 1 ≤ size) (h8 : size ≤ 8) (hn : n < 18446744073709551616) (hb : bs.length ≤ 1000000) :
    Calls Tryd.prog 92 #[.pointer (some ⟨bw, 0, none⟩), .int .u64 nz, .int .i64 sz] w fun e w' => e = .returned (.tuple #[]) ∧ (∃ v', WrAt w' bw v' (bs ++ le n size) ∧ Lies w.heap.size v v') ∧ Fr (KW bw v) w w' := by
  subst hnz hsz
  exact (wnum_main w bw v bs n size h h1 h8 hn hb).mono fun _ _ ⟨he, v', h1, h2, h3⟩ => ⟨he, ⟨v', h1, h3⟩, h2⟩

set_option maxRecDepth 100000 in
theorem out_calls (w : World) (bw : Nat) (v : Value) (bs : List UInt8) (h : WrAt w bw v bs) (hb : bs.length ≤ 1000000) :
    Calls Tryd.prog 94 #[.pointer (some ⟨bw, 0, none⟩)] w fun e w' => (∃ a cap, e = .returned (.slice a bs.length cap) ∧ BytesAt (New w.heap.size) w' (.slice a bs.length cap) bs) ∧ Fr (fun _ _ => True) w w' := by
  have hc : w.cell? ⟨bw, 0, none⟩ = some v := cell_mk h.top rfl
  have hcl := clone_calls w v bs (BytesAt.of_owns h.own) (by omega)
  have HC := Lib.hid hcl
  clear hcl h
  go_enter Tryd.func94, Tryd.ntmps94
  go_wp2_with fail
  (with_reducible refine HC.out.mono ?_)
  rintro e w1 ⟨a, cap, rfl, hb1, hf1⟩
  have HB := Lib.hid hb1
  have HF := Lib.hid hf1
  clear hb1 hf1
  go_wp2
  go_ret
  exact ⟨⟨_, _, rfl, HB.out⟩, HF.out⟩

set_option maxRecDepth 100000 in
theorem ends_calls (w : World) (bw : Nat) (v : Value) (bs : List UInt8) (s p : Nat) (h : WrAt w bw v bs) (hs : s < 4294967296) (hp : p < 4294967296) (hb : bs.length ≤ 1000) :
    Calls Tryd.prog 91 #[.pointer (some ⟨bw, 0, none⟩), .int .u32 s, .int .u32 p] w fun e w' => e = .returned (.tuple #[]) ∧ (∃ v', WrAt w' bw v' (bs ++ (le s 4 ++ le p 4)) ∧ Lies w.heap.size v v') ∧ Fr (KW bw v) w w' := by
  have H := Lib.hid h
  clear h
  go_enter Tryd.func91, Tryd.ntmps91
  go_wp2_with fail
  (with_reducible refine (wnum_calls w bw v bs s 4 _ _ rfl (by omega) H.out (by decide) (by decide) (by omega) (by omega)).mono ?_)
  rintro e w1 ⟨rfl, ⟨v1, h1, l1⟩, f1⟩
  have H1 := Lib.hid h1
  have L1 := Lib.hid l1
  have F1 := Lib.hid f1
  clear h1 l1 f1
  go_wp2_with fail
  have hl : (bs ++ le s 4).length ≤ 2000 := by rw [List.length_append, le_length]; omega
  (with_reducible refine (wnum_calls w1 bw v1 _ p 4 _ _ rfl (by omega) H1.out (by decide) (by decide) (by omega) (by omega)).mono ?_)
  rintro e w2 ⟨rfl, ⟨v2, h2, l2⟩, f2⟩
  rw [List.append_assoc] at h2
  have H2 := Lib.hid h2
  have L2 := Lib.hid (L1.out.chain l2 F1.out.size)
  have F2 := Lib.hid (F1.out.chain L1.out (Nat.le_refl _) f2)
  clear h2 l2 f2 hl
  go_wp2
  go_end0
  exact ⟨rfl, ⟨v2, H2.out, L2.out⟩, F2.out⟩

def stampHead (s p : Nat) (b : List UInt8) : List UInt8 := (le s 4 ++ le p 4) ++ ([UInt8.ofNat b.length] ++ (b ++ List.replicate (43 - b.length) 0))
def stampB (s p : Nat) (b : List UInt8) : List UInt8 := stampHead s p b ++ (le (sumOf (stampHead s p b)) 4 ++ (le s 4 ++ le p 4))
theorem stampHead_length (s p : Nat) (b : List UInt8) (h : b.length ≤ 43) : (stampHead s p b).length = 52 := by
  simp [stampHead, le_length]; omega
theorem stampB_length (s p : Nat) (b : List UInt8) (h : b.length ≤ 43) : (stampB s p b).length = 64 := by
  simp [stampB, le_length, stampHead_length s p b h]
theorem sumOf_lt (l : List UInt8) : sumOf l < 4294967296 := by unfold sumOf; omega

/-- So many zeros. -/
def zeros (n : Nat) : Array Value := (List.replicate n (.int .u8 0)).toArray
theorem make_bytes (w : World) (n : Nat) (z : Int) (hz : z = n) (hn : n ≤ 100000) : (Instr.makeSlice 33 (.int .i64 z) (.int .i64 z)).run Tryd.prog w = .ok (.slice (some ⟨w.heap.size, 0, none⟩) n n) (w.alloc (.cells (zeros n) 5 (0, 0))) := by
  subst hz
  obtain ⟨i0, hi, hz0, hz1, hz2⟩ := info_parts info_u8
  have hr := run_make (P := Tryd.prog) w 33 5 i0 (.int .u8 0) Tryd.underlying33 hi hz0 .i64 .i64 n n (by omega) (Int.le_refl _) (by rw [hz2]; omega) (by omega)
  simp only [Int.toNat_natCast] at hr
  rw [hr, hz1, Nat.mul_one]
  have e : madeCells (Value.int .u8 0).cells n = zeros n := by
    apply Array.toList_inj.1
    rw [show (Value.int .u8 0).cells = #[.int .u8 0] from rfl, toList_madeCells_one]
    rfl
  rw [e]
theorem BytesAt.zeros (w : World) (n : Nat) : BytesAt (New w.heap.size) (w.alloc (.cells (zeros n) 5 (0, 0))) (.slice (some ⟨w.heap.size, 0, none⟩) n n) (List.replicate n 0) := by
  refine ⟨_, n, by simp, by simp, (fun e => by cases e), .inr ⟨w.heap.size, 0, _, rfl, heap_alloc_new _ _, ⟨Nat.le_refl _, _, _, rfl⟩, fun i hi => ?_⟩⟩
  have hi' : i < n := by simpa using hi
  refine cell_mk (heap_alloc_new _ _) ?_
  simp [Go.Proofs.YtcpbmempfeloaaaDoor.zeros, hi', byteV]

theorem WrAt.tt {w w' : World} {bw : Nat} {v : Value} {bs : List UInt8} (h : WrAt w bw v bs) (hf : Fr (fun _ _ => True) w w') : WrAt w' bw v bs :=
  ⟨hf.keep _ _ h.top trivial, ownsRow_fr h.own hf (fun _ _ _ _ => trivial)⟩
theorem WrAt.new (w : World) : WrAt (w.alloc (.cells #[.slice none 0 0] 150 (0, 0))) w.heap.size (.slice none 0 0) [] :=
  ⟨heap_alloc_new _ _, rfl, .inl ⟨rfl, rfl⟩⟩
theorem Lies.new {n : Nat} {v' : Value} (h : Lies n (.slice none 0 0) v') : ∀ k, v'.ownBlock = some k → n ≤ k := by
  rcases h with h | h
  · intro k e; rw [h] at e; cases e
  · exact h

theorem BytesAt.any {K : Nat → Obj → Prop} {w w' : World} {v : Value} {bs : List UInt8} (h : BytesAt K w v bs) (hf : Fr (fun _ _ => True) w w') : BytesAt (fun _ _ => True) w' v bs := (h.mono fun _ _ _ _ => trivial).fr hf
theorem concat3 {K0 K1 K2 : Nat → Obj → Prop} (W : World) (B : Nat) (v0 v1 v2 : Value) (b0 b1 b2 : List UInt8) (hB : W.heap[B]? = some (.cells #[v0, v1, v2] 33 (0, 0))) (h0 : BytesAt K0 W v0 b0) (h1 : BytesAt K1 W v1 b1) (h2 : BytesAt K2 W v2 b2) (hs : b0.length + b1.length + b2.length ≤ 140737488355328) (r : List UInt8) (n : Nat) (hr : b0 ++ (b1 ++ b2) = r) (hn : r.length = n) :
    Calls Tryd.prog 93 #[.slice (some ⟨B, 0, none⟩) 3 3] W fun e w' => (∃ a cap, e = .returned (.slice a n cap) ∧ BytesAt (New W.heap.size) w' (.slice a n cap) r) ∧ Fr (fun _ _ => True) W w' := by
  have hl : ListsAt (fun _ _ => True) W B 0 [b0, b1, b2] := by
    intro i hi
    match i, hi with
    | 0, _ => exact ⟨v0, cell_mk hB rfl, h0.any (Fr.refl _ _)⟩
    | 1, _ => exact ⟨v1, cell_mk hB rfl, h1.any (Fr.refl _ _)⟩
    | 2, _ => exact ⟨v2, cell_mk hB rfl, h2.any (Fr.refl _ _)⟩
  refine (concat_calls W B 0 3 3 [b0, b1, b2] rfl hl (by simp [sizes]; omega) (by decide) (lt_of_some hB)).mono fun e w' ⟨⟨v, he, ho⟩, hf⟩ => ⟨?_, hf⟩
  subst hn
  have e1 : [b0, b1, b2].flatten = r := by rw [← hr]; simp
  rw [e1] at ho
  have hb := BytesAt.of_owns ho
  obtain ⟨a, cap, rfl⟩ := hb.form
  exact ⟨a, cap, he, hb⟩
theorem concat2 {K0 K1 : Nat → Obj → Prop} (W : World) (B : Nat) (v0 v1 : Value) (b0 b1 : List UInt8) (hB : W.heap[B]? = some (.cells #[v0, v1] 33 (0, 0))) (h0 : BytesAt K0 W v0 b0) (h1 : BytesAt K1 W v1 b1) (hs : b0.length + b1.length ≤ 140737488355328) (r : List UInt8) (n : Nat) (hr : b0 ++ b1 = r) (hn : r.length = n) :
    Calls Tryd.prog 93 #[.slice (some ⟨B, 0, none⟩) 2 2] W fun e w' => (∃ a cap, e = .returned (.slice a n cap) ∧ BytesAt (New W.heap.size) w' (.slice a n cap) r) ∧ Fr (fun _ _ => True) W w' := by
  have hl : ListsAt (fun _ _ => True) W B 0 [b0, b1] := by
    intro i hi
    match i, hi with
    | 0, _ => exact ⟨v0, cell_mk hB rfl, h0.any (Fr.refl _ _)⟩
    | 1, _ => exact ⟨v1, cell_mk hB rfl, h1.any (Fr.refl _ _)⟩
  refine (concat_calls W B 0 2 2 [b0, b1] rfl hl (by simp [sizes]; omega) (by decide) (lt_of_some hB)).mono fun e w' ⟨⟨v, he, ho⟩, hf⟩ => ⟨?_, hf⟩
  subst hn
  have e1 : [b0, b1].flatten = r := by rw [← hr]; simp
  rw [e1] at ho
  have hb := BytesAt.of_owns ho
  obtain ⟨a, cap, rfl⟩ := hb.form
  exact ⟨a, cap, he, hb⟩

set_option maxRecDepth 100000 in
theorem stamp_long (w : World) (s p : Int) (a : Option Addr) (len cap : Nat) (hl : 43 < len) :
    Calls Tryd.prog 50 #[.int .u32 s, .int .u32 p, .slice a len cap] w fun e w' => e = .returned (.tuple #[.slice none 0 0, .int .i64 2]) ∧ w = w' := by
  have hl' : (43 : Int) < len := by omega
  go_enter Tryd.func50, Tryd.ntmps50
  go_wp2
  go_ret2
  exact ⟨rfl, rfl⟩

set_option maxRecDepth 100000 in
set_option maxHeartbeats 1000000 in
theorem stamp_ok {K : Nat → Obj → Prop} (w : World) (s p : Nat) (a : Option Addr) (len cap : Nat) (b : List UInt8) (hb : BytesAt K w (.slice a len cap) b) (ht : TabOK w) (hs : s < 4294967296) (hp : p < 4294967296) (hl : len ≤ 43) :
    Calls Tryd.prog 50 #[.int .u32 s, .int .u32 p, .slice a len cap] w fun e w' => (∃ a' cap', e = .returned (.tuple #[.slice a' 64 cap', .int .i64 0]) ∧ BytesAt (New w.heap.size) w' (.slice a' 64 cap') (stampB s p b)) ∧ Fr (fun _ _ => True) w w' := by
  have hl' : (len : Int) ≤ 43 := by omega
  have HL := Lib.hid hb.len
  have HB := Lib.hid hb
  have HT := Lib.hid ht
  clear hb ht
  go_enter Tryd.func50, Tryd.ntmps50
  go_wp2_with fail
  (with_reducible refine (ends_calls _ w.heap.size _ [] s p (WrAt.new w) hs hp (by decide)).mono ?_)
  rintro e w1 ⟨rfl, ⟨v1, h1, l1⟩, f1⟩
  rw [List.nil_append] at h1
  have H1 := Lib.hid h1
  have L1 := Lib.hid l1
  have F1 := Lib.hid f1
  clear h1 l1 f1
  go_wp2_with fail
  (with_reducible refine (wnum_calls w1 w.heap.size v1 _ len 1 _ _ rfl (by omega) H1.out (by decide) (by decide) (by omega) (by rw [List.length_append, le_length, le_length]; omega)).mono ?_)
  rintro e w2 ⟨rfl, ⟨v2, h2, l2⟩, f2⟩
  have G1 : Fr (fun _ _ => True) w w1 := ((Fr.refl _ _).alloc _).old_trans F1.out fun b o hb => ⟨by omega, by simp [Value.ownBlock]⟩
  have G2 : Fr (fun _ _ => True) w w2 := G1.old_trans f2 fun b o hb => ⟨by omega, fun e => by have := L1.out.new b e; simp at this; omega⟩
  have HG := Lib.hid G2
  have hx9 : (le s 4 ++ le p 4 ++ le len 1).length = 9 := by simp [le_length]
  generalize hx2 : le s 4 ++ le p 4 ++ le len 1 = x2 at h2 hx9
  have HX := Lib.hid hx2
  have H9 := Lib.hid hx9
  have H2 := Lib.hid h2
  clear h2 l2 f2 H1 L1 F1 G1 G2 hx2 hx9
  have hw43 : IntKind.i64.wrap (43 - (len : Int)) = 43 - (len : Int) := IntWalk.i64_in _ (by omega)
  have hmk := fun (W : World) => make_bytes W (43 - len) (43 - (len : Int)) (by omega) (by omega)
  have E52 : Hid (x2 ++ (b ++ List.replicate (43 - len) 0) = stampHead s p b) := by
    rw [← HX.out, HL.out, stampHead, List.append_assoc (le s 4 ++ le p 4)]
    rfl
  have L52 := Lib.hid (stampHead_length s p b (by have := HL.out; omega))
  go_upto_region 6 with fail
  go_cut [9] (fun s9 wx => ∃ a9 c9, s9 = .slice a9 52 c9 ∧ BytesAt (New w.heap.size) wx (.slice a9 52 c9) (stampHead s p b) ∧ Fr (fun _ _ => True) w wx)
  case first =>
    go_region_with (first | (go_at_call 94; (with_reducible refine (out_calls _ w.heap.size v2 _ (by first | exact H2.out.tt (Fr.refl _ _).drew | exact H2.out.tt ((Fr.refl _ _).alloc _).drew) (by have := H9.out; omega)).mono ?_); rintro e w4 ⟨⟨a4, c4, rfl, b4⟩, f4⟩) | (go_at_call 93; (with_reducible refine (concat3 _ _ _ _ _ x2 b (List.replicate (43 - len) 0) (heap_alloc_at (by simp) _) (b4.tt (((Fr.refl _ _).alloc _).alloc _)) (HB.out.tt (((HG.out.drew.tt f4).alloc _).alloc _)) ((BytesAt.zeros w4 (43 - len)).tt ((Fr.refl _ _).alloc _)) (by have := H9.out; have := HL.out; simp; omega) (stampHead s p b) 52 E52.out L52.out).mono ?_); rintro e w5 ⟨⟨a5, c5, rfl, b5⟩, f5⟩; have F5 := Lib.hid ((((HG.out.drew.tt f4).alloc _).alloc _).tt f5)) | (go_at_call 93; (with_reducible refine (concat3 _ _ _ _ _ x2 b (List.replicate (43 - len) 0) (heap_alloc_at (by simp) _) (b4.tt ((Fr.refl _ _).alloc _)) (HB.out.tt (((HG.out.alloc _).drew.tt f4).alloc _)) ((BytesAt.zeros w2 (43 - len)).tt (((Fr.refl _ _).drew.tt f4).alloc _)) (by have := H9.out; have := HL.out; simp; omega) (stampHead s p b) 52 E52.out L52.out).mono ?_); rintro e w5 ⟨⟨a5, c5, rfl, b5⟩, f5⟩; have F5 := Lib.hid ((((HG.out.alloc _).drew.tt f4).alloc _).tt f5)))
    all_goals
      have B5 := Lib.hid (b5.mono (K' := New w.heap.size) fun q o _ h => ⟨by have := F5.out.size; have := h.1; have := HG.out.size; have := f4.size; simp at *; omega, h.2⟩)
      clear b5 f5 f4 b4
      go_wp2_with fail
      go_meet
      exact ⟨a5, c5, rfl, B5.out, F5.out⟩
  case rest =>
    obtain ⟨a9, c9, rfl, hb9, hf9⟩ := hcut
    obtain ⟨wx, rfl⟩ : ∃ wx, wx = wc := ⟨_, rfl⟩
    have HB9 := Lib.hid hb9
    have HF9 := Lib.hid hf9
    clear hb9 hf9 hmk hw43
    go_wp2_with fail
    (with_reducible refine (sum_calls _ _ (stampHead s p b) (HT.out.tt (HF9.out.alloc _)) (HB9.out.tt ((Fr.refl _ _).alloc _)) (by have := L52.out; omega)).mono ?_)
    rintro e w5 ⟨rfl, rfl⟩
    have hsl := sumOf_lt (stampHead s p b)
    generalize hsm : sumOf (stampHead s p b) = sm at hsl
    have HS := Lib.hid hsm
    clear hsm
    go_wp2_with fail
    (with_reducible refine (wnum_calls _ wx.heap.size _ [] sm 4 _ _ rfl (by omega) (WrAt.new wx) (by decide) (by decide) (by omega) (by decide)).mono ?_)
    rintro e w6 ⟨rfl, ⟨v6, h6, l6⟩, f6⟩
    rw [List.nil_append] at h6
    have G6 : Fr (fun _ _ => True) wx w6 := ((Fr.refl _ _).alloc _).old_trans f6 fun q o hq => ⟨by omega, by simp [Value.ownBlock]⟩
    have HG6 := Lib.hid G6
    have H6 := Lib.hid h6
    have L6 := Lib.hid l6
    clear h6 l6 f6 G6
    go_wp2_with fail
    (with_reducible refine (ends_calls _ wx.heap.size v6 _ s p H6.out hs hp (by rw [le_length]; omega)).mono ?_)
    rintro e w7 ⟨rfl, ⟨v7, h7, l7⟩, f7⟩
    have G7 : Fr (fun _ _ => True) wx w7 := HG6.out.old_trans f7 fun q o hq => ⟨by omega, fun e => by have := L6.out.new q e; simp at this; omega⟩
    have HG7 := Lib.hid G7
    have h12 : (le sm 4 ++ (le s 4 ++ le p 4)).length = 12 := by simp [le_length]
    have E64 : Hid (stampHead s p b ++ (le sm 4 ++ (le s 4 ++ le p 4)) = stampB s p b) := by rw [stampB, HS.out]; rfl
    generalize le sm 4 ++ (le s 4 ++ le p 4) = y7 at h7 h12 E64
    have H7 := Lib.hid h7
    have H12 := Lib.hid h12
    have L64 := Lib.hid (stampB_length s p b (by have := HL.out; omega))
    clear h7 l7 f7 G7 h12 H6 L6 HG6
    go_wp2_with fail
    (with_reducible refine (out_calls _ wx.heap.size v7 y7 H7.out (by have := H12.out; omega)).mono ?_)
    rintro e w8 ⟨⟨a8, c8, rfl, b8⟩, f8⟩
    have B8 := Lib.hid b8
    have F8 := Lib.hid f8
    clear b8 f8
    go_wp2_with fail
    (with_reducible refine (concat2 _ _ _ _ (stampHead s p b) y7 (heap_alloc_at rfl _) (HB9.out.tt ((HG7.out.tt F8.out).alloc _)) (B8.out.tt ((Fr.refl _ _).alloc _)) (by have := H12.out; have := L52.out; omega) (stampB s p b) 64 E64.out L64.out).mono ?_)
    rintro e w9 ⟨⟨a, c, rfl, b9⟩, f9⟩
    have F9 := Lib.hid ((((HF9.out.tt HG7.out).tt F8.out).alloc _).tt f9)
    have B9 := Lib.hid (b9.mono (K' := New w.heap.size) fun q o _ h => ⟨by have h1 := h.1; have := HF9.out.size; have := HG7.out.size; have := F8.out.size; simp at h1; omega, h.2⟩)
    clear b9 f9
    go_wp2
    go_ret2
    exact ⟨⟨_, _, rfl, B9.out⟩, F9.out⟩

theorem stamp_calls {K : Nat → Obj → Prop} (w : World) (s p : Nat) (v : Value) (b : List UInt8) (hb : BytesAt K w v b) (ht : TabOK w) (hs : s < 4294967296) (hp : p < 4294967296) :
    Calls Tryd.prog 50 #[.int .u32 s, .int .u32 p, v] w fun e w' =>
      (if 43 < b.length then e = .returned (.tuple #[.slice none 0 0, .int .i64 2]) else ∃ a' cap', e = .returned (.tuple #[.slice a' 64 cap', .int .i64 0]) ∧ BytesAt (New w.heap.size) w' (.slice a' 64 cap') (stampB s p b)) ∧ Fr (fun _ _ => True) w w' := by
  obtain ⟨a, cap, rfl⟩ := hb.form
  by_cases h : 43 < b.length
  · simp only [h, ↓reduceIte]
    exact (stamp_long w s p a b.length cap h).mono fun e w' ⟨he, hw⟩ => ⟨he, hw ▸ Fr.refl _ _⟩
  · simp only [h, ↓reduceIte]
    exact stamp_ok w s p a b.length cap b hb ht hs hp (by omega)

end Go.Proofs.YtcpbmempfeloaaaDoor
/- Package slot: Parse. -/
namespace Go.Proofs.YtcpbmempfeloaaaDoor
open Go.RowKit

def pSeq (l : List UInt8) : Nat := ofLE (l.take 4)
def pEpoch (l : List UInt8) : Nat := ofLE ((l.drop 4).take 4)
def pLen (l : List UInt8) : Nat := ofLE ((l.drop 8).take 1)
def pSum (l : List UInt8) : Nat := ofLE ((l.drop 52).take 4)
def pAgain (l : List UInt8) : Nat := ofLE ((l.drop 56).take 4)
def pAlso (l : List UInt8) : Nat := ofLE ((l.drop 60).take 4)
/-- The sector's record. -/
def parseP (l : List UInt8) : Option (Nat × Nat × List UInt8) :=
  if l.length = 64 ∧ pSeq l ≠ 0 ∧ pSeq l = pAgain l ∧ pEpoch l = pAlso l ∧ pLen l ≤ 43 ∧ pSum l = sumOf (l.take 52) then some (pSeq l, pEpoch l, (l.drop 9).take (pLen l)) else none

theorem ofLE_take_lt (l : List UInt8) (k : Nat) : ofLE (l.take k) < 256 ^ k :=
  Nat.lt_of_lt_of_le (ofLE_lt _) (Nat.pow_le_pow_right (by decide) (by rw [List.length_take]; omega))

theorem rnum_at {K : Nat → Obj → Prop} (w : World) (br : Nat) (v : Value) (bs : List UInt8) (n : Nat) (sz : Int) (hsz : sz = n) (h : RdrAt K w br v bs false) (h1 : 1 ≤ n) (h8 : n ≤ 8) (hn : n ≤ bs.length) (hm : bs.length ≤ 140737488355328) :
    Calls Tryd.prog 100 #[.pointer (some ⟨br, 0, none⟩), .int .i64 sz] w fun e w' => e = .returned (.int .u64 (ofLE (bs.take n) : Nat)) ∧ (∃ v', RdrAt K w' br v' (bs.drop n) false) ∧ Fr (fun b _ => b ≠ br) w w' := by
  subst hsz
  exact rnum_ok w br v bs n h h1 h8 hn hm

theorem RdrAt.other {K : Nat → Obj → Prop} {w w' : World} {br b : Nat} {v : Value} {bs : List UInt8} {sh : Bool} (h : RdrAt K w b v bs sh) (hf : Fr (fun q _ => q ≠ br) w w') (hne : b ≠ br) (hK : ∀ q o, K q o → q ≠ br) : RdrAt K w' b v bs sh :=
  ⟨hf.keep _ _ h.top hne, h.bytes.fr (hf.mono fun q o hk => hK q o hk), h.off⟩
theorem RdrAt.tt {K : Nat → Obj → Prop} {w w' : World} {b : Nat} {v : Value} {bs : List UInt8} {sh : Bool} (h : RdrAt K w b v bs sh) (hf : Fr (fun _ _ => True) w w') : RdrAt K w' b v bs sh :=
  ⟨hf.keep _ _ h.top trivial, h.bytes.tt hf, h.off⟩
theorem Fr.not {br : Nat} {a w w' : World} (h : Fr (fun _ _ => True) a w) (hf : Fr (fun q _ => q ≠ br) w w') (hb : a.heap.size ≤ br) : Fr (fun _ _ => True) a w' := h.old_trans hf fun b _ hl => by omega
theorem BytesAt.old {K : Nat → Obj → Prop} {w : World} {v : Value} {bs : List UInt8} (h : BytesAt K w v bs) : BytesAt (fun b _ => b < w.heap.size) w v bs := h.mono fun _ _ hb _ => lt_of_some hb

set_option maxRecDepth 100000 in
theorem parse_len (w : World) (a : Option Addr) (len cap : Nat) (hl : ¬ len = 64) :
    Calls Tryd.prog 103 #[.slice a len cap] w fun e w' => e = .returned (.tuple #[.int .u32 0, .int .u32 0, .slice none 0 0, .bool false]) ∧ w = w' := by
  have hq : ((len : Int) != 64) = true := by simp; omega
  clear hl
  go_enter Tryd.func103, Tryd.ntmps103
  go_wp2
  exact bodyPost_ret (v := .tuple #[.int .u32 0, .int .u32 0, .slice none 0 0, .bool false]) (by simp [results, Tryd.results103, go_sem]) rfl ⟨rfl, rfl⟩

set_option maxRecDepth 100000 in
set_option maxHeartbeats 1000000 in
theorem parse_64 {K : Nat → Obj → Prop} (w : World) (a : Option Addr) (cap : Nat) (bs : List UInt8) (hb : BytesAt K w (.slice a 64 cap) bs) (ht : TabOK w) :
    Calls Tryd.prog 103 #[.slice a 64 cap] w fun e w' => ((parseP bs = none ∧ e = .returned (.tuple #[.int .u32 0, .int .u32 0, .slice none 0 0, .bool false])) ∨ ∃ s p b a' cap', parseP bs = some (s, p, b) ∧ e = .returned (.tuple #[.int .u32 (s : Nat), .int .u32 (p : Nat), .slice a' b.length cap', .bool true]) ∧ BytesAt (New w.heap.size) w' (.slice a' b.length cap') b) ∧ Fr (fun _ _ => True) w w' := by
  have h64 := hb.len
  have hcap := hb.cap
  obtain ⟨bk, off, rfl⟩ := hb.addr (by omega)
  have HB := Lib.hid hb.old
  have HT := Lib.hid ht
  have H64 := Lib.hid h64
  have B1 := Lib.hid (hb.old.take 52 (by omega))
  have b2 := hb.old.drop 52 (by omega)
  rw [subA_some _ _ _ _ (by omega)] at b2
  have B2 : Hid (BytesAt (fun b _ => b < w.heap.size) w (.slice (some ⟨bk, off + 52, none⟩) 12 (cap - 52)) (bs.drop 52)) := b2
  clear hb ht h64 b2
  go_enter Tryd.func103, Tryd.ntmps103
  go_upto_region 3 with fail
  go_cut [6, 7] (fun s6 s7 wx => ∃ h t v6 v7, s6 = .pointer (some ⟨h, 0, none⟩) ∧ s7 = .pointer (some ⟨t, 0, none⟩) ∧ h ≠ t ∧ w.heap.size ≤ h ∧ w.heap.size ≤ t ∧ RdrAt (fun b _ => b < w.heap.size) wx h v6 (bs.take 52) false ∧ RdrAt (fun b _ => b < w.heap.size) wx t v7 (bs.drop 52) false ∧ Fr (fun _ _ => True) w wx)
  case first =>
    go_region_with (go_at_call 99; (with_reducible refine (read_calls _ _ _ _).mono ?_); rintro e w4 ⟨rfl, rfl⟩)
    all_goals
      go_wp2_with fail
      go_meet
    · refine ⟨w.heap.size, w.heap.size + 1, _, _, rfl, rfl, by omega, Nat.le_refl _, by omega, ⟨heap_alloc_lt (heap_alloc_new w _) _, B1.out.tt (((Fr.refl _ _).alloc _).alloc _).drew, fun _ _ h => Nat.lt_irrefl _ h⟩, ⟨heap_alloc_at (by simp) _, B2.out.tt (((Fr.refl _ _).alloc _).alloc _).drew, fun _ _ (h : w.heap.size + 1 < w.heap.size) => by omega⟩, (((Fr.refl _ _).alloc _).alloc _).drew⟩
  case rest =>
    obtain ⟨h, t, v6, v7, rfl, rfl, hne, hh, hth, r6, r7, hf⟩ := hcut
    have R6 := Lib.hid r6
    have R7 := Lib.hid r7
    have F0 := Lib.hid hf
    clear r6 r7 hf
    have hLen1 : 64 ≤ bs.length := by have := H64.out; omega
    have hLen2 : bs.length ≤ 64 := by have := H64.out; omega
    go_wp2_with fail
    (with_reducible refine (rnum_at _ h v6 (bs.take 52) 4 _ (by omega) R6.out (by decide) (by decide) (by simp; omega) (by simp; omega)).mono ?_)
    rintro e y1 ⟨rfl, ⟨u1, r1⟩, f1⟩
    have F1 := Lib.hid (F0.out.not f1 hh)
    have Rt1 := Lib.hid (R7.out.other f1 hne.symm (fun q _ hq => by omega))
    have Rh1 := Lib.hid r1
    have b1 : ofLE (List.take 4 (bs.take 52)) < 4294967296 := ofLE_take_lt (bs.take 52) 4
    generalize hx1 : ofLE (List.take 4 (bs.take 52)) = x1 at b1
    have Hx1 := Lib.hid hx1
    clear r1 f1 hx1 R6 R7 F0
    go_wp2_with fail
    (with_reducible refine (rnum_at _ h u1 (List.drop 4 (bs.take 52)) 4 _ (by omega) Rh1.out (by decide) (by decide) (by simp; omega) (by simp; omega)).mono ?_)
    rintro e y2 ⟨rfl, ⟨u2, r2⟩, f2⟩
    have F2 := Lib.hid (F1.out.not f2 hh)
    have Rt2 := Lib.hid (Rt1.out.other f2 hne.symm (fun q _ hq => by omega))
    have Rh2 := Lib.hid r2
    have b2 : ofLE (List.take 4 (List.drop 4 (bs.take 52))) < 4294967296 := ofLE_take_lt (List.drop 4 (bs.take 52)) 4
    generalize hx2 : ofLE (List.take 4 (List.drop 4 (bs.take 52))) = x2 at b2
    have Hx2 := Lib.hid hx2
    clear r2 f2 hx2 Rh1 Rt1 F1
    go_wp2_with fail
    (with_reducible refine (rnum_at _ h u2 (List.drop 4 (List.drop 4 (bs.take 52))) 1 _ (by omega) Rh2.out (by decide) (by decide) (by simp; omega) (by simp; omega)).mono ?_)
    rintro e y3 ⟨rfl, ⟨u3, r3⟩, f3⟩
    have F3 := Lib.hid (F2.out.not f3 hh)
    have Rt3 := Lib.hid (Rt2.out.other f3 hne.symm (fun q _ hq => by omega))
    have Rh3 := Lib.hid r3
    have b3 : ofLE (List.take 1 (List.drop 4 (List.drop 4 (bs.take 52)))) < 256 := ofLE_take_lt (List.drop 4 (List.drop 4 (bs.take 52))) 1
    generalize hx3 : ofLE (List.take 1 (List.drop 4 (List.drop 4 (bs.take 52)))) = x3 at b3
    have Hx3 := Lib.hid hx3
    clear r3 f3 hx3 Rh2 Rt2 F2
    go_wp2_with fail
    (with_reducible refine (rnum_at _ t v7 (bs.drop 52) 4 _ (by omega) Rt3.out (by decide) (by decide) (by simp; omega) (by simp; omega)).mono ?_)
    rintro e y4 ⟨rfl, ⟨u4, r4⟩, f4⟩
    have F4 := Lib.hid (F3.out.not f4 hth)
    have Rh4 := Lib.hid (Rh3.out.other f4 hne (fun q _ hq => by omega))
    have Rt4 := Lib.hid r4
    have b4 : ofLE (List.take 4 (bs.drop 52)) < 4294967296 := ofLE_take_lt (bs.drop 52) 4
    generalize hx4 : ofLE (List.take 4 (bs.drop 52)) = x4 at b4
    have Hx4 := Lib.hid hx4
    clear r4 f4 hx4 Rh3 Rt3 F3
    go_wp2_with fail
    (with_reducible refine (rnum_at _ t u4 (List.drop 4 (bs.drop 52)) 4 _ (by omega) Rt4.out (by decide) (by decide) (by simp; omega) (by simp; omega)).mono ?_)
    rintro e y5 ⟨rfl, ⟨u5, r5⟩, f5⟩
    have F5 := Lib.hid (F4.out.not f5 hth)
    have Rh5 := Lib.hid (Rh4.out.other f5 hne (fun q _ hq => by omega))
    have Rt5 := Lib.hid r5
    have b5 : ofLE (List.take 4 (List.drop 4 (bs.drop 52))) < 4294967296 := ofLE_take_lt (List.drop 4 (bs.drop 52)) 4
    generalize hx5 : ofLE (List.take 4 (List.drop 4 (bs.drop 52))) = x5 at b5
    have Hx5 := Lib.hid hx5
    clear r5 f5 hx5 Rh4 Rt4 F4
    go_wp2_with fail
    (with_reducible refine (rnum_at _ t u5 (List.drop 4 (List.drop 4 (bs.drop 52))) 4 _ (by omega) Rt5.out (by decide) (by decide) (by simp; omega) (by simp; omega)).mono ?_)
    rintro e y6 ⟨rfl, ⟨u6, r6⟩, f6⟩
    have F6 := Lib.hid (F5.out.not f6 hth)
    have Rh6 := Lib.hid (Rh5.out.other f6 hne (fun q _ hq => by omega))
    have Rt6 := Lib.hid r6
    have b6 : ofLE (List.take 4 (List.drop 4 (List.drop 4 (bs.drop 52)))) < 4294967296 := ofLE_take_lt (List.drop 4 (List.drop 4 (bs.drop 52))) 4
    generalize hx6 : ofLE (List.take 4 (List.drop 4 (List.drop 4 (bs.drop 52)))) = x6 at b6
    have Hx6 := Lib.hid hx6
    clear r6 f6 hx6 Rh5 Rt5 F5
    have e1 : Hid (pSeq bs = x1) := by rw [pSeq, ← Hx1.out, List.take_take]; rfl
    have e2 : Hid (pEpoch bs = x2) := by rw [pEpoch, ← Hx2.out, List.drop_take, List.take_take]; rfl
    have e3 : Hid (pLen bs = x3) := by rw [pLen, ← Hx3.out, List.drop_drop, List.drop_take, List.take_take]; rfl
    have e4 : Hid (pSum bs = x4) := Hx4.out
    have e5 : Hid (pAgain bs = x5) := by rw [pAgain, ← Hx5.out, List.drop_drop]; rfl
    have e6 : Hid (pAlso bs = x6) := by rw [pAlso, ← Hx6.out, List.drop_drop, List.drop_drop]; rfl
    have hno : Hid (x1 = 0 ∨ x1 ≠ x5 ∨ x2 ≠ x6 ∨ 43 < x3 ∨ x4 ≠ sumOf (bs.take 52) → parseP bs = none) := fun hc => by
      rw [parseP, if_neg]
      rw [e1.out, e2.out, e3.out, e4.out, e5.out, e6.out]
      omega
    clear Hx1 Hx2 Hx3 Hx4 Hx5 Hx6 Rh6 Rt6
    by_cases c1 : x1 = 0
    · have hfin := Lib.hid (hno.out (.inl c1))
      subst c1
      go_wp2
      exact bodyPost_ret (v := .tuple #[.int .u32 0, .int .u32 0, .slice none 0 0, .bool false]) (by simp [results, Tryd.results103, go_sem]) rfl ⟨.inl ⟨hfin.out, rfl⟩, F6.out⟩
    · have d1 : ((x1 : Int) == 0) = false := by simp [c1]
      by_cases c2 : x1 = x5
      · have d2 : ((x1 : Int) != x5) = false := by simp [c2]
        by_cases c3 : x2 = x6
        · have d3 : ((x2 : Int) != x6) = false := by simp [c3]
          by_cases c4 : x3 ≤ 43
          · have d4 : (x3 : Int) ≤ 43 := by omega
            have hyes : Hid (x4 = sumOf (bs.take 52) → parseP bs = some (x1, x2, (bs.drop 9).take x3)) := fun hc => by
              rw [parseP, if_pos]
              · rw [e1.out, e2.out, e3.out]
              · rw [e1.out, e2.out, e3.out, e4.out, e5.out, e6.out]
                exact ⟨by omega, c1, c2, c3, c4, hc⟩
            have hno' : Hid (x4 ≠ sumOf (bs.take 52) → parseP bs = none) := fun hc => hno.out (.inr (.inr (.inr (.inr hc))))
            have B3 := HB.out.drop 9 (by omega)
            rw [subA_some _ _ _ _ (by omega)] at B3
            have hb3 := B3.take x3 (by simp; omega)
            have HB3 := Lib.hid hb3
            have hl3 : ((bs.drop 9).take x3).length = x3 := by simp; omega
            have HL3 := Lib.hid hl3
            clear B3 hb3 hl3 c1 c2 c3 c4 hno e1 e2 e3 e4 e5 e6
            go_wp2_with fail
            (with_reducible refine (sum_calls _ _ (bs.take 52) (HT.out.tt F6.out) (B1.out.tt F6.out) (by simp; omega)).mono ?_)
            rintro e w7 ⟨rfl, rfl⟩
            have hsl := sumOf_lt (bs.take 52)
            generalize sumOf (bs.take 52) = sm at hyes hno' hsl
            by_cases c5 : x4 = sm
            · have hfin := Lib.hid (hyes.out c5)
              subst c5
              clear hyes hno' hsl
              go_wp2_with fail
              have hcl := clone_calls y6 _ _ (HB3.out.tt F6.out) (by have := HL3.out; omega)
              rw [HL3.out] at hcl
              (with_reducible refine hcl.mono ?_)
              rintro e w8 ⟨a8, c8, rfl, b8, f8⟩
              have F8 := Lib.hid (F6.out.tt f8)
              have B8 := Lib.hid (b8.mono (K' := New w.heap.size) fun q o _ h => ⟨by have := h.1; have := F6.out.size; omega, h.2⟩)
              clear hcl b8 f8
              have hL := HL3.out
              generalize List.take x3 (List.drop 9 bs) = bb at hfin B8 hL
              have HLb := Lib.hid hL
              clear hL
              go_wp2
              exact bodyPost_ret (v := .tuple #[.int .u32 (x1 : Nat), .int .u32 (x2 : Nat), .slice a8 x3 c8, .bool true]) (by simp [results, Tryd.results103, go_sem]) rfl ⟨.inr ⟨x1, x2, bb, a8, c8, hfin.out, by rw [HLb.out], by rw [HLb.out]; exact B8.out⟩, F8.out⟩
            · have hfin := Lib.hid (hno'.out c5)
              have d5 : ((x4 : Int) != sm) = true := by simp; omega
              clear hyes hno' c5
              go_wp2
              exact bodyPost_ret (v := .tuple #[.int .u32 0, .int .u32 0, .slice none 0 0, .bool false]) (by simp [results, Tryd.results103, go_sem]) rfl ⟨.inl ⟨hfin.out, rfl⟩, F6.out⟩
          · have hfin := Lib.hid (hno.out (.inr (.inr (.inr (.inl (by omega))))))
            have d4 : (43 : Int) < x3 := by omega
            clear c1 c2 c3 c4
            go_wp2
            exact bodyPost_ret (v := .tuple #[.int .u32 0, .int .u32 0, .slice none 0 0, .bool false]) (by simp [results, Tryd.results103, go_sem]) rfl ⟨.inl ⟨hfin.out, rfl⟩, F6.out⟩
        · have hfin := Lib.hid (hno.out (.inr (.inr (.inl c3))))
          have d3 : ((x2 : Int) != x6) = true := by simp; omega
          clear c1 c2 c3
          go_wp2
          exact bodyPost_ret (v := .tuple #[.int .u32 0, .int .u32 0, .slice none 0 0, .bool false]) (by simp [results, Tryd.results103, go_sem]) rfl ⟨.inl ⟨hfin.out, rfl⟩, F6.out⟩
      · have hfin := Lib.hid (hno.out (.inr (.inl c2)))
        have d2 : ((x1 : Int) != x5) = true := by simp; omega
        clear c1 c2
        go_wp2
        exact bodyPost_ret (v := .tuple #[.int .u32 0, .int .u32 0, .slice none 0 0, .bool false]) (by simp [results, Tryd.results103, go_sem]) rfl ⟨.inl ⟨hfin.out, rfl⟩, F6.out⟩

/-- slot.Parse: the sector's record, or that there is none. -/
theorem parse_calls {K : Nat → Obj → Prop} (w : World) (v : Value) (bs : List UInt8) (hb : BytesAt K w v bs) (ht : TabOK w) :
    Calls Tryd.prog 103 #[v] w fun e w' => ((parseP bs = none ∧ e = .returned (.tuple #[.int .u32 0, .int .u32 0, .slice none 0 0, .bool false])) ∨ ∃ s p b a' cap', parseP bs = some (s, p, b) ∧ e = .returned (.tuple #[.int .u32 (s : Nat), .int .u32 (p : Nat), .slice a' b.length cap', .bool true]) ∧ BytesAt (New w.heap.size) w' (.slice a' b.length cap') b) ∧ Fr (fun _ _ => True) w w' := by
  obtain ⟨a, cap, rfl⟩ := hb.form
  by_cases h : bs.length = 64
  · rw [h] at hb ⊢
    exact parse_64 w a cap bs hb ht
  · exact (parse_len w a bs.length cap h).mono fun e w' ⟨he, hw⟩ => ⟨.inl ⟨by rw [parseP, if_neg (fun hc => h hc.1)], he⟩, hw ▸ Fr.refl _ _⟩

end Go.Proofs.YtcpbmempfeloaaaDoor
/- Package disk: the disk in memory; its small functions. -/
namespace Go.Proofs.YtcpbmempfeloaaaDoor
open Go.RowKit

/-- A disk: what is to be read, what is sure, what is pending, the fuse, whether it is down. -/
structure Dk where
  seen : List (List UInt8)
  sure : List (List UInt8)
  pend : List (Nat × List UInt8)
  fuse : Int
  down : Bool
structure Dk.ok (D : Dk) : Prop where
  len : D.seen.length = D.sure.length
  one : 1 ≤ D.sure.length
  max : D.sure.length ≤ 512
  s64 : ∀ x ∈ D.seen, x.length = 64
  u64 : ∀ x ∈ D.sure, x.length = 64
  p64 : ∀ x ∈ D.pend, x.1 < D.sure.length ∧ x.2.length = 64
  few : D.pend.length ≤ 1000000
  lo : -9223372036854775808 ≤ D.fuse
  hi : D.fuse ≤ 9223372036854775807

/-- Sectors' cells. -/
def flatS (l : List (List UInt8)) : List Value := l.flatten.map byteV
/-- Pending writes' cells. -/
def cellsW (x : Nat × List UInt8) : List Value := .int .i64 (x.1 : Nat) :: x.2.map byteV
def flatW (l : List (Nat × List UInt8)) : List Value := (l.map cellsW).flatten

structure DskAt (w : World) (bd : Nat) (vs vu vp : Value) (D : Dk) : Prop where
  top : w.heap[bd]? = some (.cells #[vs, vu, vp, .int .i64 D.fuse, .bool D.down] 103 (0, 0))
  seen : w.ownsRow 0 105 64 vs D.seen.length (flatS D.seen)
  sure : w.ownsRow 0 105 64 vu D.sure.length (flatS D.sure)
  pend : w.ownsRow 0 107 65 vp D.pend.length (flatW D.pend)
  apart : ∀ b, vs.ownBlock = some b → vu.ownBlock ≠ some b
  wf : D.ok
/-- A disk at bd whose blocks are among F. -/
def Dsk (w : World) (bd : Nat) (F : Nat → Prop) (D : Dk) : Prop :=
  ∃ vs vu vp, DskAt w bd vs vu vp D ∧ F bd ∧ (∀ b, vs.ownBlock = some b → F b) ∧ (∀ b, vu.ownBlock = some b → F b) ∧ (∀ b, vp.ownBlock = some b → F b)

theorem Dsk.mono {w : World} {bd : Nat} {F G : Nat → Prop} {D : Dk} (h : Dsk w bd F D) (hg : ∀ b, F b → G b) : Dsk w bd G D := by
  obtain ⟨vs, vu, vp, h, h1, h2, h3, h4⟩ := h
  exact ⟨vs, vu, vp, h, hg _ h1, fun b e => hg _ (h2 b e), fun b e => hg _ (h3 b e), fun b e => hg _ (h4 b e)⟩
theorem Dsk.fr {w w' : World} {bd : Nat} {F : Nat → Prop} {D : Dk} {K : Nat → Obj → Prop} (h : Dsk w bd F D) (hf : Fr K w w') (hk : ∀ b o, w.heap[b]? = some o → F b → K b o) : Dsk w' bd F D := by
  obtain ⟨vs, vu, vp, h, h1, h2, h3, h4⟩ := h
  exact ⟨vs, vu, vp, ⟨hf.keep _ _ h.top (hk _ _ h.top h1), ownsRow_fr h.seen hf (fun b o e hb => hk b o hb (h2 b e)), ownsRow_fr h.sure hf (fun b o e hb => hk b o hb (h3 b e)), ownsRow_fr h.pend hf (fun b o e hb => hk b o hb (h4 b e)), h.apart, h.wf⟩, h1, h2, h3, h4⟩
theorem Dsk.tt {w w' : World} {bd : Nat} {F : Nat → Prop} {D : Dk} (h : Dsk w bd F D) (hf : Fr (fun _ _ => True) w w') : Dsk w' bd F D := h.fr hf fun _ _ _ _ => trivial
theorem Dsk.wf {w : World} {bd : Nat} {F : Nat → Prop} {D : Dk} (h : Dsk w bd F D) : D.ok := by
  obtain ⟨_, _, _, h, _⟩ := h
  exact h.wf

set_option maxRecDepth 100000 in
theorem len_calls (w : World) (bd : Nat) (F : Nat → Prop) (D : Dk) (h : Dsk w bd F D) :
    Calls Tryd.prog 54 #[.pointer (some ⟨bd, 0, none⟩)] w fun e w' => e = .returned (.int .i64 D.sure.length) ∧ w = w' := by
  obtain ⟨vs, vu, vp, h, _⟩ := h
  obtain ⟨a, cap, rfl⟩ := own_form h.seen
  have c0 := cell_mk (i := 0) h.top rfl
  have hl := h.wf.len
  rw [hl] at c0
  clear h hl
  go_enter Tryd.func54, Tryd.ntmps54
  go_wp2
  go_ret
  exact ⟨rfl, rfl⟩

set_option maxRecDepth 100000 in
theorem has_calls (w : World) (bd : Nat) (F : Nat → Prop) (D : Dk) (i : Int) (h : Dsk w bd F D) :
    Calls Tryd.prog 96 #[.pointer (some ⟨bd, 0, none⟩), .int .i64 i] w fun e w' => e = .returned (.bool (decide (0 ≤ i ∧ i < D.sure.length))) ∧ w = w' := by
  obtain ⟨vs, vu, vp, h, _⟩ := h
  obtain ⟨a, cap, rfl⟩ := own_form h.seen
  have c0 := cell_mk (i := 0) h.top rfl
  have hl := h.wf.len
  rw [hl] at c0
  clear h hl
  by_cases h0 : 0 ≤ i
  · have e1 : decide (0 ≤ i ∧ i < D.sure.length) = decide (i < (D.sure.length : Int)) := by simp [h0]
    rw [e1]
    clear e1
    go_enter Tryd.func96, Tryd.ntmps96
    go_wp2
    go_ret
    exact ⟨rfl, rfl⟩
  · have e1 : decide (0 ≤ i ∧ i < D.sure.length) = false := by simp [h0]
    rw [e1]
    clear e1
    have d0 : decide (0 ≤ i) = false := by simp [h0]
    go_enter Tryd.func96, Tryd.ntmps96
    go_wp2
    go_ret
    exact ⟨rfl, rfl⟩

set_option maxRecDepth 100000 in
theorem down_calls (w : World) (bd : Nat) (F : Nat → Prop) (D : Dk) (h : Dsk w bd F D) :
    Calls Tryd.prog 81 #[.pointer (some ⟨bd, 0, none⟩)] w fun e w' => e = .returned (.bool D.down) ∧ w = w' := by
  obtain ⟨vs, vu, vp, h, _⟩ := h
  have c0 := cell_mk (i := 4) h.top rfl
  clear h
  go_enter Tryd.func81, Tryd.ntmps81
  go_wp2
  go_ret
  exact ⟨rfl, rfl⟩

set_option maxRecDepth 100000 in
theorem pending_calls (w : World) (bd : Nat) (F : Nat → Prop) (D : Dk) (h : Dsk w bd F D) :
    Calls Tryd.prog 31 #[.pointer (some ⟨bd, 0, none⟩)] w fun e w' => e = .returned (.int .i64 D.pend.length) ∧ w = w' := by
  obtain ⟨vs, vu, vp, h, _⟩ := h
  obtain ⟨a, cap, rfl⟩ := own_form h.pend
  have c0 := cell_mk (i := 2) h.top rfl
  clear h
  go_enter Tryd.func31, Tryd.ntmps31
  go_wp2
  go_ret
  exact ⟨rfl, rfl⟩

/-- A disk whose struct is written anew. -/
theorem DskAt.turn {w w' : World} {bd : Nat} {vs vu vp : Value} {D D' : Dk} (h : DskAt w bd vs vu vp D) (hf : Fr (fun b _ => b ≠ bd) w w')
    (ht : w'.heap[bd]? = some (.cells #[vs, vu, vp, .int .i64 D'.fuse, .bool D'.down] 103 (0, 0))) (h1 : D'.seen = D.seen) (h2 : D'.sure = D.sure) (h3 : D'.pend = D.pend) (hw : D'.ok) : DskAt w' bd vs vu vp D' := by
  have key : ∀ (e : TypeId) (size : Nat) (v : Value) (n : Nat) (xs : List Value), w.ownsRow 0 e size v n xs → e ≠ 103 → ∀ b o, v.ownBlock = some b → w.heap[b]? = some o → b ≠ bd := by
    intro e size v n xs ho hne b o hb hw e'
    rcases ho.2 with ⟨rfl, _⟩ | ⟨g, cap, cur, rfl, _, hg, _⟩
    · cases hb
    · cases hb
      have e2 : g = bd := e'
      rw [e2, h.top] at hg
      cases hg
      exact hne rfl
  refine ⟨ht, ?_, ?_, ?_, h.apart, hw⟩
  · rw [h1]; exact ownsRow_fr h.seen hf (key _ _ _ _ _ h.seen (by decide))
  · rw [h2]; exact ownsRow_fr h.sure hf (key _ _ _ _ _ h.sure (by decide))
  · rw [h3]; exact ownsRow_fr h.pend hf (key _ _ _ _ _ h.pend (by decide))

set_option maxRecDepth 100000 in
theorem fuse_calls (w : World) (bd : Nat) (F : Nat → Prop) (D : Dk) (n : Int) (h : Dsk w bd F D) (h0 : -9223372036854775808 ≤ n) (h1 : n ≤ 9223372036854775807) :
    Calls Tryd.prog 20 #[.pointer (some ⟨bd, 0, none⟩), .int .i64 n] w fun e w' => e = .returned (.tuple #[]) ∧ Dsk w' bd F { D with fuse := n } ∧ Fr (fun b _ => b ≠ bd) w w' := by
  obtain ⟨vs, vu, vp, h, hF⟩ := h
  have c0 := cell_mk (i := 3) h.top rfl
  have f0 := frozen_mk (i := 3) h.top
  have H := Lib.hid h
  clear h
  go_enter Tryd.func20, Tryd.ntmps20
  go_wp2
  go_end0
  have hf : Fr (fun b _ => b ≠ bd) w (w.setCell ⟨bd, 3, none⟩ (.int .i64 n)) := (Fr.refl _ _).setCell (fun _ _ h => h rfl) _
  exact ⟨rfl, ⟨vs, vu, vp, H.out.turn hf (heap_setCell_same H.out.top _) rfl rfl rfl { H.out.wf with lo := h0, hi := h1 }, hF⟩, hf⟩

/-- One thing is done, if any is. -/
def Dk.burn (D : Dk) : Dk := { D with fuse := D.fuse - min 1 (max 0 D.fuse), down := D.down || D.fuse == 0 }

set_option maxRecDepth 100000 in
theorem done_disk (w : World) (bd : Nat) (F : Nat → Prop) (D : Dk) (h : Dsk w bd F D) :
    Calls Tryd.prog 87 #[.pointer (some ⟨bd, 0, none⟩)] w fun e w' => e = .returned (.bool (!D.burn.down)) ∧ Dsk w' bd F D.burn ∧ Fr (fun b _ => b ≠ bd) w w' := by
  obtain ⟨vs, vu, vp, h, hF⟩ := h
  have c3 := cell_mk (i := 3) h.top rfl
  have c4 := cell_mk (i := 4) h.top rfl
  have f3 := frozen_mk (i := 3) h.top
  have f4 := frozen_mk (i := 4) h.top
  have lo := h.wf.lo
  have hi := h.wf.hi
  have H := Lib.hid h
  clear h
  generalize hfu : D.fuse = fu at c3 lo hi
  generalize hdo : D.down = dn at c4
  have HF := Lib.hid hfu
  have HD := Lib.hid hdo
  clear hfu hdo
  have H2 : Hid (w.setCell ⟨bd, 4, none⟩ (.bool (dn || fu == 0)) = w.setCell ⟨bd, 4, none⟩ (.bool D.burn.down)) := by rw [Dk.burn, HF.out, HD.out]; rfl
  have key : ∀ w2 : World, w2.heap[bd]? = some (.cells #[vs, vu, vp, .int .i64 fu, .bool D.burn.down] 103 (0, 0)) → Fr (fun b _ => b ≠ bd) w w2 → Dsk (w2.setCell ⟨bd, 3, none⟩ (.int .i64 D.burn.fuse)) bd F D.burn ∧ Fr (fun b _ => b ≠ bd) w (w2.setCell ⟨bd, 3, none⟩ (.int .i64 D.burn.fuse)) := by
    intro w2 t2 f2
    have hf : Fr (fun b _ => b ≠ bd) w (w2.setCell ⟨bd, 3, none⟩ (.int .i64 D.burn.fuse)) := f2.setCell (fun _ _ h => h rfl) _
    refine ⟨⟨vs, vu, vp, H.out.turn hf (heap_setCell_same t2 _) rfl rfl rfl ?_, hF⟩, hf⟩
    have h1 : D.burn.fuse = fu - min 1 (max 0 fu) := by rw [Dk.burn, HF.out]
    exact { H.out.wf with lo := by rw [h1]; omega, hi := by rw [h1]; omega }
  have KEY := Lib.hid key
  have hbf : Hid (D.burn.fuse = fu - min 1 (max 0 fu)) := by rw [Dk.burn, HF.out]; rfl
  clear key
  rcases dn with _ | _
  · by_cases hd : fu = 0
    · have hbd : Hid (D.burn.down = true) := by rw [Dk.burn, HF.out, HD.out, hd]; rfl
      have hz : ((fu : Int) == 0) = true := by simp [hd]
      clear hd
      have t1 : (w.setCell ⟨bd, 4, none⟩ (.bool true)).heap[bd]? = some (.cells #[vs, vu, vp, .int .i64 fu, .bool D.burn.down] 103 (0, 0)) := by
        rw [hbd.out, heap_setCell_same H.out.top, HF.out]; rfl
      have g1 : Fr (fun b _ => b ≠ bd) w (w.setCell ⟨bd, 4, none⟩ (.bool true)) := (Fr.refl _ _).setCell (fun _ _ h => h rfl) _
      have T1 := Lib.hid t1
      have G1 := Lib.hid g1
      clear t1 g1
      go_enter Tryd.func87, Tryd.ntmps87
      go_wp2
      generalize w.setCell ⟨bd, 4, none⟩ (.bool true) = w2 at T1 G1 ⊢
      have k3 : w2.cell? ⟨bd, 3, none⟩ = some (.int .i64 fu) := cell_mk T1.out rfl
      have k4 : w2.cell? ⟨bd, 4, none⟩ = some (.bool true) := (show w2.cell? ⟨bd, 4, none⟩ = some (.bool D.burn.down) from cell_mk T1.out rfl).trans (by rw [hbd.out])
      have j3 := frozen_mk (i := 3) T1.out
      have T2 : Hid (w2.drew.heap[bd]? = some (.cells #[vs, vu, vp, .int .i64 fu, .bool D.burn.down] 103 (0, 0))) := T1.out
      have G2 := Lib.hid G1.out.drew
      clear c3 c4 f3 f4
      go_still_tail 13, (by kernel_rfl)
      go_wp2
      all_goals
        go_ret
        obtain ⟨k1, k2⟩ := KEY.out _ T2.out G2.out
        rw [hbd.out]
        have hbf' := hbf.out
        first
        | (have hx : D.burn.fuse = fu - 1 := by omega
           rw [hx] at k1 k2
           exact ⟨rfl, k1, k2⟩)
        | (have hx : D.burn.fuse = fu := by omega
           rw [hx] at k1 k2
           exact ⟨rfl, k1, k2⟩)
    · have hbd : Hid (D.burn.down = false) := by rw [Dk.burn, HF.out, HD.out]; simp [hd, Hid]
      have hz : ((fu : Int) == 0) = false := by simp [hd]
      clear hd
      have t1 : (w.setCell ⟨bd, 4, none⟩ (.bool false)).heap[bd]? = some (.cells #[vs, vu, vp, .int .i64 fu, .bool D.burn.down] 103 (0, 0)) := by
        rw [hbd.out, heap_setCell_same H.out.top, HF.out]; rfl
      have g1 : Fr (fun b _ => b ≠ bd) w (w.setCell ⟨bd, 4, none⟩ (.bool false)) := (Fr.refl _ _).setCell (fun _ _ h => h rfl) _
      have T1 := Lib.hid t1
      have G1 := Lib.hid g1
      clear t1 g1
      go_enter Tryd.func87, Tryd.ntmps87
      go_wp2
      generalize w.setCell ⟨bd, 4, none⟩ (.bool false) = w2 at T1 G1 ⊢
      have k3 : w2.cell? ⟨bd, 3, none⟩ = some (.int .i64 fu) := cell_mk T1.out rfl
      have k4 : w2.cell? ⟨bd, 4, none⟩ = some (.bool false) := (show w2.cell? ⟨bd, 4, none⟩ = some (.bool D.burn.down) from cell_mk T1.out rfl).trans (by rw [hbd.out])
      have j3 := frozen_mk (i := 3) T1.out
      have T2 : Hid (w2.drew.heap[bd]? = some (.cells #[vs, vu, vp, .int .i64 fu, .bool D.burn.down] 103 (0, 0))) := T1.out
      have G2 := Lib.hid G1.out.drew
      clear c3 c4 f3 f4
      go_still_tail 13, (by kernel_rfl)
      go_wp2
      all_goals
        go_ret
        obtain ⟨k1, k2⟩ := KEY.out _ T2.out G2.out
        rw [hbd.out]
        have hbf' := hbf.out
        first
        | (have hx : D.burn.fuse = fu - 1 := by omega
           rw [hx] at k1 k2
           exact ⟨rfl, k1, k2⟩)
        | (have hx : D.burn.fuse = fu := by omega
           rw [hx] at k1 k2
           exact ⟨rfl, k1, k2⟩)
  · have hbd : Hid (D.burn.down = true) := by rw [Dk.burn, HF.out, HD.out]; rfl
    have t1 : (w.setCell ⟨bd, 4, none⟩ (.bool true)).heap[bd]? = some (.cells #[vs, vu, vp, .int .i64 fu, .bool D.burn.down] 103 (0, 0)) := by
      rw [hbd.out, heap_setCell_same H.out.top, HF.out]; rfl
    have g1 : Fr (fun b _ => b ≠ bd) w (w.setCell ⟨bd, 4, none⟩ (.bool true)) := (Fr.refl _ _).setCell (fun _ _ h => h rfl) _
    have T1 := Lib.hid t1
    have G1 := Lib.hid g1
    clear t1 g1
    go_enter Tryd.func87, Tryd.ntmps87
    go_wp2
    generalize w.setCell ⟨bd, 4, none⟩ (.bool true) = w2 at T1 G1 ⊢
    have k3 : w2.cell? ⟨bd, 3, none⟩ = some (.int .i64 fu) := cell_mk T1.out rfl
    have k4 : w2.cell? ⟨bd, 4, none⟩ = some (.bool true) := (show w2.cell? ⟨bd, 4, none⟩ = some (.bool D.burn.down) from cell_mk T1.out rfl).trans (by rw [hbd.out])
    have j3 := frozen_mk (i := 3) T1.out
    have T2 : Hid (w2.drew.heap[bd]? = some (.cells #[vs, vu, vp, .int .i64 fu, .bool D.burn.down] 103 (0, 0))) := T1.out
    have G2 := Lib.hid G1.out.drew
    clear c3 c4 f3 f4
    go_still_tail 13, (by kernel_rfl)
    go_wp2
    all_goals
      go_ret
      obtain ⟨k1, k2⟩ := KEY.out _ T2.out G2.out
      rw [hbd.out]
      have hbf' := hbf.out
      first
      | (have hx : D.burn.fuse = fu - 1 := by omega
         rw [hx] at k1 k2
         exact ⟨rfl, k1, k2⟩)
      | (have hx : D.burn.fuse = fu := by omega
         rw [hx] at k1 k2
         exact ⟨rfl, k1, k2⟩)
end Go.Proofs.YtcpbmempfeloaaaDoor
/- Stamps, plainly: what is stamped is parsed; a sector that is torn between two stamps. -/
namespace Go.Proofs.YtcpbmempfeloaaaDoor
open Go.RowKit

theorem ofLE_le : ∀ (k n : Nat), n < 256 ^ k → ofLE (le n k) = n
  | 0, n, h => by simp at h; subst h; rfl
  | k + 1, n, h => by
    have h2 : n / 256 < 256 ^ k := by rw [Nat.pow_succ] at h; exact Nat.div_lt_of_lt_mul (by omega)
    rw [le, ofLE, ofLE_le k _ h2, UInt8.toNat_ofNat']
    omega
theorem ofLE_inj : ∀ (l m : List UInt8), l.length = m.length → ofLE l = ofLE m → l = m
  | [], [], _, _ => rfl
  | [], b :: m, h, _ => by simp at h
  | a :: l, [], h, _ => by simp at h
  | a :: l, b :: m, h, e => by
    have ha := a.toNat_lt
    have hb := b.toNat_lt
    rw [ofLE, ofLE] at e
    have e1 : a.toNat = b.toNat := by omega
    have e2 : ofLE l = ofLE m := by omega
    rw [UInt8.toNat_inj.1 e1, ofLE_inj l m (by simpa using h) e2]
theorem seg {α : Type} (x y z : List α) {n m : Nat} (hx : x.length = n) (hy : y.length = m) : ((x ++ (y ++ z)).drop n).take m = y := by
  subst hx hy; simp

theorem st_seq (s p : Nat) (b : List UInt8) : (stampB s p b).take 4 = le s 4 := by
  have := seg [] (le s 4) (le p 4 ++ ([UInt8.ofNat b.length] ++ (b ++ List.replicate (43 - b.length) 0)) ++ (le (sumOf (stampHead s p b)) 4 ++ (le s 4 ++ le p 4))) rfl (le_length s 4)
  simpa [stampB, stampHead] using this
theorem st_epoch (s p : Nat) (b : List UInt8) : ((stampB s p b).drop 4).take 4 = le p 4 := by
  have := seg (le s 4) (le p 4) (([UInt8.ofNat b.length] ++ (b ++ List.replicate (43 - b.length) 0)) ++ (le (sumOf (stampHead s p b)) 4 ++ (le s 4 ++ le p 4))) (le_length s 4) (le_length p 4)
  simpa [stampB, stampHead] using this
theorem st_len (s p : Nat) (b : List UInt8) : ((stampB s p b).drop 8).take 1 = [UInt8.ofNat b.length] := by
  have := seg (le s 4 ++ le p 4) [UInt8.ofNat b.length] ((b ++ List.replicate (43 - b.length) 0) ++ (le (sumOf (stampHead s p b)) 4 ++ (le s 4 ++ le p 4))) (n := 8) (by simp [le_length]) rfl
  simpa [stampB, stampHead] using this
theorem st_bytes (s p : Nat) (b : List UInt8) : ((stampB s p b).drop 9).take b.length = b := by
  have := seg (le s 4 ++ le p 4 ++ [UInt8.ofNat b.length]) b (List.replicate (43 - b.length) 0 ++ (le (sumOf (stampHead s p b)) 4 ++ (le s 4 ++ le p 4))) (n := 9) (by simp [le_length]) rfl
  simpa [stampB, stampHead] using this
theorem st_head (s p : Nat) (b : List UInt8) (h : b.length ≤ 43) : (stampB s p b).take 52 = stampHead s p b := by
  unfold stampB
  rw [List.take_append_of_le_length (by rw [stampHead_length s p b h]; exact Nat.le_refl _), List.take_of_length_le (by rw [stampHead_length s p b h]; exact Nat.le_refl _)]
theorem st_sum (s p : Nat) (b : List UInt8) (h : b.length ≤ 43) : ((stampB s p b).drop 52).take 4 = le (sumOf (stampHead s p b)) 4 := seg _ _ _ (stampHead_length s p b h) (le_length _ 4)
theorem st_again (s p : Nat) (b : List UInt8) (h : b.length ≤ 43) : ((stampB s p b).drop 56).take 4 = le s 4 := by
  have := seg (stampHead s p b ++ le (sumOf (stampHead s p b)) 4) (le s 4) (le p 4) (n := 56) (by rw [List.length_append, stampHead_length s p b h, le_length]) (le_length _ 4)
  rw [List.append_assoc] at this
  exact this
theorem st_also (s p : Nat) (b : List UInt8) (h : b.length ≤ 43) : ((stampB s p b).drop 60).take 4 = le p 4 := by
  have := seg (stampHead s p b ++ (le (sumOf (stampHead s p b)) 4 ++ le s 4)) (le p 4) [] (n := 60) (by rw [List.length_append, List.length_append, stampHead_length s p b h, le_length, le_length]) (le_length _ 4)
  rw [List.append_nil, List.append_assoc, List.append_assoc] at this
  exact this

/-- What is stamped is parsed. -/
theorem parse_stamp (s p : Nat) (b : List UInt8) (h0 : 0 < s) (hs : s < 4294967296) (hp : p < 4294967296) (hb : b.length ≤ 43) : parseP (stampB s p b) = some (s, p, b) := by
  have e1 : pSeq (stampB s p b) = s := by unfold pSeq; rw [st_seq, ofLE_le 4 s hs]
  have e2 : pEpoch (stampB s p b) = p := by unfold pEpoch; rw [st_epoch, ofLE_le 4 p hp]
  have e3 : pLen (stampB s p b) = b.length := by
    unfold pLen; rw [st_len]
    show (UInt8.ofNat b.length).toNat + 256 * 0 = _
    rw [UInt8.toNat_ofNat']; omega
  have e4 : pSum (stampB s p b) = sumOf (stampHead s p b) := by unfold pSum; rw [st_sum s p b hb, ofLE_le 4 _ (sumOf_lt _)]
  have e5 : pAgain (stampB s p b) = s := by unfold pAgain; rw [st_again s p b hb, ofLE_le 4 s hs]
  have e6 : pAlso (stampB s p b) = p := by unfold pAlso; rw [st_also s p b hb, ofLE_le 4 p hp]
  unfold parseP
  rw [if_pos ⟨stampB_length s p b hb, by omega, by omega, by omega, by omega, by rw [e4, st_head s p b hb]⟩, e1, e2, e3, st_bytes]

/-- Two lists' first and other bytes, at a place. -/
theorem torn_get (A B : List UInt8) (hA : A.length = 64) (hB : B.length = 64) (cut j : Nat) (hc : cut ≤ 64) : (A.take cut ++ B.drop cut)[j]? = if j < cut then A[j]? else B[j]? := by
  have hl : (A.take cut).length = cut := by rw [List.length_take]; omega
  by_cases h : j < cut
  · rw [List.getElem?_append_left (by omega), if_pos h, List.getElem?_take, if_pos h]
  · rw [List.getElem?_append_right (by omega), if_neg h, hl, List.getElem?_drop]
    congr 1; omega
theorem sub_get (l : List UInt8) (n m i : Nat) : ((l.drop n).take m)[i]? = if i < m then l[n + i]? else none := by
  rw [List.getElem?_take, List.getElem?_drop]
theorem sub_eq {l m : List UInt8} {n k : Nat} (h : ∀ i, i < k → l[n + i]? = m[n + i]?) : (l.drop n).take k = (m.drop n).take k := by
  apply List.ext_getElem?
  intro i
  rw [sub_get, sub_get]
  split
  · exact h i (by assumption)
  · rfl
theorem sub_of {l m : List UInt8} {n k i : Nat} (h : (l.drop n).take k = (m.drop n).take k) (hi : i < k) : l[n + i]? = m[n + i]? := by
  have := congrArg (fun x : List UInt8 => x[i]?) h
  simpa [sub_get, hi] using this

/-- A sector that is torn between two stamps has one of them, or none. -/
theorem torn_law (s m : Nat) (one two : List UInt8) (cut : Nat) (hc : cut ≤ 64) (hsm : s ≠ m) (hs : s < 4294967296) (hm : m < 4294967296) (h1 : one.length ≤ 43) (h2 : two.length ≤ 43) :
    parseP ((stampB s 0 one).take cut ++ (stampB m 0 two).drop cut) = none ∨ (stampB s 0 one).take cut ++ (stampB m 0 two).drop cut = stampB s 0 one ∨ (stampB s 0 one).take cut ++ (stampB m 0 two).drop cut = stampB m 0 two := by
  have hA : (stampB s 0 one).length = 64 := stampB_length s 0 one h1
  have hB : (stampB m 0 two).length = 64 := stampB_length m 0 two h2
  have aq := st_seq s 0 one
  have bq := st_seq m 0 two
  have aa := st_again s 0 one h1
  have ba := st_again m 0 two h2
  have al := st_also s 0 one h1
  have bl := st_also m 0 two h2
  generalize stampB s 0 one = A at hA aq aa al ⊢
  generalize stampB m 0 two = B at hB bq ba bl ⊢
  have hg := torn_get A B hA hB cut
  have hll : (A.take cut ++ B.drop cut).length = 64 := by rw [List.length_append, List.length_take, List.length_drop]; omega
  generalize A.take cut ++ B.drop cut = l at hg hll ⊢
  cases hp : parseP l with
  | none => exact .inl rfl
  | some r =>
    refine .inr ?_
    have hpa : pSeq l = pAgain l := by
      unfold parseP at hp
      split at hp
      · rename_i hc; exact hc.2.2.1
      · cases hp
    have hle : l.take 4 = (l.drop 56).take 4 := ofLE_inj _ _ (by rw [List.length_take, List.length_take, List.length_drop]; omega) hpa
    have hne : le s 4 ≠ le m 4 := fun e => hsm (by rw [← ofLE_le 4 s hs, ← ofLE_le 4 m hm, e])
    have hbig : ∀ X : List UInt8, X.length = 64 → (∀ j, j < 64 → l[j]? = X[j]?) → l = X := fun X hX h => by
      apply List.ext_getElem?
      intro j
      by_cases hj : j < 64
      · exact h j hj
      · rw [List.getElem?_eq_none (by omega), List.getElem?_eq_none (by omega)]
    by_cases h56 : cut ≤ 56
    · -- the tail is the second's
      have ht : (l.drop 56).take 4 = (B.drop 56).take 4 := sub_eq fun i hi => by rw [hg _ hc, if_neg (by omega)]
      rw [ht, ba] at hle
      have h4 : cut < 4 := by
        rcases Nat.lt_or_ge cut 4 with h | h
        · exact h
        · exfalso
          have : (l.drop 0).take 4 = (A.drop 0).take 4 := sub_eq fun i hi => by rw [hg _ hc, if_pos (by omega)]
          rw [List.drop_zero, List.drop_zero, hle, aq] at this
          exact hne this.symm
      refine .inr (hbig B hB fun j hj => ?_)
      by_cases hj4 : j < 4
      · have : (l.drop 0).take 4 = (B.drop 0).take 4 := by rw [List.drop_zero, List.drop_zero, hle, bq]
        have := sub_of this hj4
        simpa using this
      · rw [hg _ hc, if_neg (by omega)]
    · -- the head is the first's
      have hh : (l.drop 0).take 4 = (A.drop 0).take 4 := sub_eq fun i hi => by rw [hg _ hc, if_pos (by omega)]
      rw [List.drop_zero, List.drop_zero, aq] at hh
      rw [hh] at hle
      refine .inl (hbig A hA fun j hj => ?_)
      by_cases hj1 : j < 56
      · rw [hg _ hc, if_pos (by omega)]
      · by_cases hj2 : j < 60
        · have : (l.drop 56).take 4 = (A.drop 56).take 4 := by rw [← hle, aa]
          have := sub_of this (i := j - 56) (by omega)
          rwa [show 56 + (j - 56) = j from by omega] at this
        · have : (A.drop 60).take 4 = (B.drop 60).take 4 := by rw [al, bl]
          have := sub_of this (i := j - 60) (by omega)
          rw [show 60 + (j - 60) = j from by omega] at this
          rw [hg _ hc]
          split
          · rfl
          · exact this.symm
end Go.Proofs.YtcpbmempfeloaaaDoor
