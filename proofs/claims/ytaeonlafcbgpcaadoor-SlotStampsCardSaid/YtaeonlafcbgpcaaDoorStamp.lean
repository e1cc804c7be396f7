/- Package slot: Stamp. -/
import Derived.Test.YtaeonlafcbgpcaaDoorConcat
import Derived.Test.YtaeonlafcbgpcaaDoorSum
import Derived.Deep.RegionWith
import Derived.Deep.DeepCutAuto
namespace Go.Proofs.YtaeonlafcbgpcaaDoor
open Go.RowKit

/-- Where a Writer's bytes lie behind a step: where they lay, or in new memory. -/
def Lies (n : Nat) (v v' : Value) : Prop := v'.ownBlock = v.ownBlock ∨ ∀ k, v'.ownBlock = some k → n ≤ k
theorem Fr.chain {bw n : Nat} {v v1 : Value} {w w1 w2 : World} (h1 : Fr (KW bw v) w w1) (hv : Lies n v v1) (hn : w.heap.size ≤ n) (h2 : Fr (KW bw v1) w1 w2) : Fr (KW bw v) w w2 := by
  refine ⟨h2.os.trans h1.os, h2.tape.trans h1.tape, h2.output.trans h1.output, Nat.le_trans h1.size h2.size, fun b o hb hk => ?_⟩
  refine h2.keep b o (h1.keep b o hb hk) ⟨hk.1, fun e => ?_⟩
  rcases hv with hv | hv
  · exact hk.2 (hv ▸ e)
  · have := hv b e; have := lt_of_some hb; omega
theorem Lies.chain {n m : Nat} {v v1 v2 : Value} (h1 : Lies n v v1) (h2 : Lies m v1 v2) (hm : n ≤ m) : Lies n v v2 := by
  rcases h2 with h2 | h2
  · rcases h1 with h1 | h1
    · exact .inl (h2.trans h1)
    · exact .inr fun k e => h1 k (h2 ▸ e)
  · exact .inr fun k e => Nat.le_trans hm (h2 k e)
/-- Nothing older than a is touched. -/
theorem Fr.old_trans {K : Nat → Obj → Prop} {a w w' : World} (h : Fr (fun _ _ => True) a w) (hf : Fr K w w') (hk : ∀ b o, b < a.heap.size → K b o) : Fr (fun _ _ => True) a w' :=
  ⟨hf.os.trans h.os, hf.tape.trans h.tape, hf.output.trans h.output, Nat.le_trans h.size hf.size, fun b o hb _ => hf.keep b o (h.keep b o hb trivial) (hk b o (lt_of_some hb))⟩
theorem TabOK.tt {w w' : World} (h : TabOK w) (hf : Fr (fun _ _ => True) w w') : TabOK w' := fun i hi => hf.cell (fun _ _ => trivial) (h i hi)

theorem wnum_calls (w : World) (bw : Nat) (v : Value) (bs : List UInt8) (n : Nat) (size : Nat) (nz sz : Int) (hnz : nz = n) (hsz : sz = size) (h : WrAt w bw v bs) (h1 : 1 ≤ size) (h8 : size ≤ 8) (hn : n < 18446744073709551616) (hb : bs.length ≤ 1000000) :
    Calls Tryd.prog 38 #[.pointer (some ⟨bw, 0, none⟩), .int .u64 nz, .int .i64 sz] w fun e w' => e = .returned (.tuple #[]) ∧ (∃ v', WrAt w' bw v' (bs ++ le n size) ∧ Lies w.heap.size v v') ∧ Fr (KW bw v) w w' := by
  subst hnz hsz
  exact (wnum_main w bw v bs n size h h1 h8 hn hb).mono fun _ _ ⟨he, v', h1, h2, h3⟩ => ⟨he, ⟨v', h1, h3⟩, h2⟩

set_option maxRecDepth 100000 in
theorem out_calls (w : World) (bw : Nat) (v : Value) (bs : List UInt8) (h : WrAt w bw v bs) (hb : bs.length ≤ 1000000) :
    Calls Tryd.prog 40 #[.pointer (some ⟨bw, 0, none⟩)] w fun e w' => (∃ a cap, e = .returned (.slice a bs.length cap) ∧ BytesAt (New w.heap.size) w' (.slice a bs.length cap) bs) ∧ Fr (fun _ _ => True) w w' := by
  have hc : w.cell? ⟨bw, 0, none⟩ = some v := cell_mk h.top rfl
  have hcl := clone_calls w v bs (BytesAt.of_owns h.own) (by omega)
  have HC := Lib.hid hcl
  clear hcl h
  go_enter Tryd.func40, Tryd.ntmps40
  go_wp2_with fail
  (with_reducible refine HC.out.mono ?_)
  rintro e w1 ⟨a, cap, rfl, hb1, hf1⟩
  have HB := Lib.hid hb1
  have HF := Lib.hid hf1
  clear hb1 hf1
  go_wp2
  go_ret
  exact ⟨⟨_, _, rfl, HB.out⟩, HF.out⟩

set_option maxRecDepth 100000 in
theorem ends_calls (w : World) (bw : Nat) (v : Value) (bs : List UInt8) (s p : Nat) (h : WrAt w bw v bs) (hs : s < 4294967296) (hp : p < 4294967296) (hb : bs.length ≤ 1000) :
    Calls Tryd.prog 37 #[.pointer (some ⟨bw, 0, none⟩), .int .u32 s, .int .u32 p] w fun e w' => e = .returned (.tuple #[]) ∧ (∃ v', WrAt w' bw v' (bs ++ (le s 4 ++ le p 4)) ∧ Lies w.heap.size v v') ∧ Fr (KW bw v) w w' := by
  have H := Lib.hid h
  clear h
  go_enter Tryd.func37, Tryd.ntmps37
  go_wp2_with fail
  (with_reducible refine (wnum_calls w bw v bs s 4 _ _ rfl (by omega) H.out (by decide) (by decide) (by omega) (by omega)).mono ?_)
  rintro e w1 ⟨rfl, ⟨v1, h1, l1⟩, f1⟩
  have H1 := Lib.hid h1
  have L1 := Lib.hid l1
  have F1 := Lib.hid f1
  clear h1 l1 f1
  go_wp2_with fail
  have hl : (bs ++ le s 4).length ≤ 2000 := by rw [List.length_append, le_length]; omega
  (with_reducible refine (wnum_calls w1 bw v1 _ p 4 _ _ rfl (by omega) H1.out (by decide) (by decide) (by omega) (by omega)).mono ?_)
  rintro e w2 ⟨rfl, ⟨v2, h2, l2⟩, f2⟩
  rw [List.append_assoc] at h2
  have H2 := Lib.hid h2
  have L2 := Lib.hid (L1.out.chain l2 F1.out.size)
  have F2 := Lib.hid (F1.out.chain L1.out (Nat.le_refl _) f2)
  clear h2 l2 f2 hl
  go_wp2
  go_end0
  exact ⟨rfl, ⟨v2, H2.out, L2.out⟩, F2.out⟩

def stampHead (s p : Nat) (b : List UInt8) : List UInt8 := (le s 4 ++ le p 4) ++ ([UInt8.ofNat b.length] ++ (b ++ List.replicate (43 - b.length) 0))
def stampB (s p : Nat) (b : List UInt8) : List UInt8 := stampHead s p b ++ (le (sumOf (stampHead s p b)) 4 ++ (le s 4 ++ le p 4))
theorem stampHead_length (s p : Nat) (b : List UInt8) (h : b.length ≤ 43) : (stampHead s p b).length = 52 := by
  simp [stampHead, le_length]; omega
theorem stampB_length (s p : Nat) (b : List UInt8) (h : b.length ≤ 43) : (stampB s p b).length = 64 := by
  simp [stampB, le_length, stampHead_length s p b h]
theorem sumOf_lt (l : List UInt8) : sumOf l < 4294967296 := by unfold sumOf; omega

/-- So many zeros. -/
def zeros (n : Nat) : Array Value := (List.replicate n (.int .u8 0)).toArray
theorem make_bytes (w : World) (n : Nat) (z : Int) (hz : z = n) (hn : n ≤ 100000) : (Instr.makeSlice 23 (.int .i64 z) (.int .i64 z)).run Tryd.prog w = .ok (.slice (some ⟨w.heap.size, 0, none⟩) n n) (w.alloc (.cells (zeros n) 5 (0, 0))) := by
  subst hz
  obtain ⟨i0, hi, hz0, hz1, hz2⟩ := info_parts info_u8
  have hr := run_make (P := Tryd.prog) w 23 5 i0 (.int .u8 0) Tryd.underlying23 hi hz0 .i64 .i64 n n (by omega) (Int.le_refl _) (by rw [hz2]; omega) (by omega)
  simp only [Int.toNat_natCast] at hr
  rw [hr, hz1, Nat.mul_one]
  have e : madeCells (Value.int .u8 0).cells n = zeros n := by
    apply Array.toList_inj.1
    rw [show (Value.int .u8 0).cells = #[.int .u8 0] from rfl, toList_madeCells_one]
    rfl
  rw [e]
theorem BytesAt.zeros (w : World) (n : Nat) : BytesAt (New w.heap.size) (w.alloc (.cells (zeros n) 5 (0, 0))) (.slice (some ⟨w.heap.size, 0, none⟩) n n) (List.replicate n 0) := by
  refine ⟨_, n, by simp, by simp, (fun e => by cases e), .inr ⟨w.heap.size, 0, _, rfl, heap_alloc_new _ _, ⟨Nat.le_refl _, _, _, rfl⟩, fun i hi => ?_⟩⟩
  have hi' : i < n := by simpa using hi
  refine cell_mk (heap_alloc_new _ _) ?_
  simp [Go.Proofs.YtaeonlafcbgpcaaDoor.zeros, hi', byteV]

theorem WrAt.tt {w w' : World} {bw : Nat} {v : Value} {bs : List UInt8} (h : WrAt w bw v bs) (hf : Fr (fun _ _ => True) w w') : WrAt w' bw v bs :=
  ⟨hf.keep _ _ h.top trivial, ownsRow_fr h.own hf (fun _ _ _ _ => trivial)⟩
theorem WrAt.new (w : World) : WrAt (w.alloc (.cells #[.slice none 0 0] 69 (0, 0))) w.heap.size (.slice none 0 0) [] :=
  ⟨heap_alloc_new _ _, rfl, .inl ⟨rfl, rfl⟩⟩
theorem Lies.new {n : Nat} {v' : Value} (h : Lies n (.slice none 0 0) v') : ∀ k, v'.ownBlock = some k → n ≤ k := by
  rcases h with h | h
  · intro k e; rw [h] at e; cases e
  · exact h

theorem BytesAt.any {K : Nat → Obj → Prop} {w w' : World} {v : Value} {bs : List UInt8} (h : BytesAt K w v bs) (hf : Fr (fun _ _ => True) w w') : BytesAt (fun _ _ => True) w' v bs := (h.mono fun _ _ _ _ => trivial).fr hf
theorem concat3 {K0 K1 K2 : Nat → Obj → Prop} (W : World) (B : Nat) (v0 v1 v2 : Value) (b0 b1 b2 : List UInt8) (hB : W.heap[B]? = some (.cells #[v0, v1, v2] 23 (0, 0))) (h0 : BytesAt K0 W v0 b0) (h1 : BytesAt K1 W v1 b1) (h2 : BytesAt K2 W v2 b2) (hs : b0.length + b1.length + b2.length ≤ 140737488355328) (r : List UInt8) (n : Nat) (hr : b0 ++ (b1 ++ b2) = r) (hn : r.length = n) :
    Calls Tryd.prog 39 #[.slice (some ⟨B, 0, none⟩) 3 3] W fun e w' => (∃ a cap, e = .returned (.slice a n cap) ∧ BytesAt (New W.heap.size) w' (.slice a n cap) r) ∧ Fr (fun _ _ => True) W w' := by
  have hl : ListsAt (fun _ _ => True) W B 0 [b0, b1, b2] := by
    intro i hi
    match i, hi with
    | 0, _ => exact ⟨v0, cell_mk hB rfl, h0.any (Fr.refl _ _)⟩
    | 1, _ => exact ⟨v1, cell_mk hB rfl, h1.any (Fr.refl _ _)⟩
    | 2, _ => exact ⟨v2, cell_mk hB rfl, h2.any (Fr.refl _ _)⟩
  refine (concat_calls W B 0 3 3 [b0, b1, b2] rfl hl (by simp [sizes]; omega) (by decide) (lt_of_some hB)).mono fun e w' ⟨⟨v, he, ho⟩, hf⟩ => ⟨?_, hf⟩
  subst hn
  have e1 : [b0, b1, b2].flatten = r := by rw [← hr]; simp
  rw [e1] at ho
  have hb := BytesAt.of_owns ho
  obtain ⟨a, cap, rfl⟩ := hb.form
  exact ⟨a, cap, he, hb⟩
theorem concat2 {K0 K1 : Nat → Obj → Prop} (W : World) (B : Nat) (v0 v1 : Value) (b0 b1 : List UInt8) (hB : W.heap[B]? = some (.cells #[v0, v1] 23 (0, 0))) (h0 : BytesAt K0 W v0 b0) (h1 : BytesAt K1 W v1 b1) (hs : b0.length + b1.length ≤ 140737488355328) (r : List UInt8) (n : Nat) (hr : b0 ++ b1 = r) (hn : r.length = n) :
    Calls Tryd.prog 39 #[.slice (some ⟨B, 0, none⟩) 2 2] W fun e w' => (∃ a cap, e = .returned (.slice a n cap) ∧ BytesAt (New W.heap.size) w' (.slice a n cap) r) ∧ Fr (fun _ _ => True) W w' := by
  have hl : ListsAt (fun _ _ => True) W B 0 [b0, b1] := by
    intro i hi
    match i, hi with
    | 0, _ => exact ⟨v0, cell_mk hB rfl, h0.any (Fr.refl _ _)⟩
    | 1, _ => exact ⟨v1, cell_mk hB rfl, h1.any (Fr.refl _ _)⟩
  refine (concat_calls W B 0 2 2 [b0, b1] rfl hl (by simp [sizes]; omega) (by decide) (lt_of_some hB)).mono fun e w' ⟨⟨v, he, ho⟩, hf⟩ => ⟨?_, hf⟩
  subst hn
  have e1 : [b0, b1].flatten = r := by rw [← hr]; simp
  rw [e1] at ho
  have hb := BytesAt.of_owns ho
  obtain ⟨a, cap, rfl⟩ := hb.form
  exact ⟨a, cap, he, hb⟩

set_option maxRecDepth 100000 in
theorem stamp_long (w : World) (s p : Int) (a : Option Addr) (len cap : Nat) (hl : 43 < len) :
    Calls Tryd.prog 13 #[.int .u32 s, .int .u32 p, .slice a len cap] w fun e w' => e = .returned (.tuple #[.slice none 0 0, .int .i64 2]) ∧ w = w' := by
  have hl' : (43 : Int) < len := by omega
  go_enter Tryd.func13, Tryd.ntmps13
  go_wp2
  go_ret2
  exact ⟨rfl, rfl⟩

set_option maxRecDepth 100000 in
set_option maxHeartbeats 1000000 in
theorem stamp_ok {K : Nat → Obj → Prop} (w : World) (s p : Nat) (a : Option Addr) (len cap : Nat) (b : List UInt8) (hb : BytesAt K w (.slice a len cap) b) (ht : TabOK w) (hs : s < 4294967296) (hp : p < 4294967296) (hl : len ≤ 43) :
    Calls Tryd.prog 13 #[.int .u32 s, .int .u32 p, .slice a len cap] w fun e w' => (∃ a' cap', e = .returned (.tuple #[.slice a' 64 cap', .int .i64 0]) ∧ BytesAt (New w.heap.size) w' (.slice a' 64 cap') (stampB s p b)) ∧ Fr (fun _ _ => True) w w' := by
  have hl' : (len : Int) ≤ 43 := by omega
  have HL := Lib.hid hb.len
  have HB := Lib.hid hb
  have HT := Lib.hid ht
  clear hb ht
  go_enter Tryd.func13, Tryd.ntmps13
  go_wp2_with fail
  (with_reducible refine (ends_calls _ w.heap.size _ [] s p (WrAt.new w) hs hp (by decide)).mono ?_)
  rintro e w1 ⟨rfl, ⟨v1, h1, l1⟩, f1⟩
  rw [List.nil_append] at h1
  have H1 := Lib.hid h1
  have L1 := Lib.hid l1
  have F1 := Lib.hid f1
  clear h1 l1 f1
  go_wp2_with fail
  (with_reducible refine (wnum_calls w1 w.heap.size v1 _ len 1 _ _ rfl (by omega) H1.out (by decide) (by decide) (by omega) (by rw [List.length_append, le_length, le_length]; omega)).mono ?_)
  rintro e w2 ⟨rfl, ⟨v2, h2, l2⟩, f2⟩
  have G1 : Fr (fun _ _ => True) w w1 := ((Fr.refl _ _).alloc _).old_trans F1.out fun b o hb => ⟨by omega, by simp [Value.ownBlock]⟩
  have G2 : Fr (fun _ _ => True) w w2 := G1.old_trans f2 fun b o hb => ⟨by omega, fun e => by have := L1.out.new b e; simp at this; omega⟩
  have HG := Lib.hid G2
  have hx9 : (le s 4 ++ le p 4 ++ le len 1).length = 9 := by simp [le_length]
  generalize hx2 : le s 4 ++ le p 4 ++ le len 1 = x2 at h2 hx9
  have HX := Lib.hid hx2
  have H9 := Lib.hid hx9
  have H2 := Lib.hid h2
  clear h2 l2 f2 H1 L1 F1 G1 G2 hx2 hx9
  have hw43 : IntKind.i64.wrap (43 - (len : Int)) = 43 - (len : Int) := IntWalk.i64_in _ (by omega)
  have hmk := fun (W : World) => make_bytes W (43 - len) (43 - (len : Int)) (by omega) (by omega)
  have E52 : Hid (x2 ++ (b ++ List.replicate (43 - len) 0) = stampHead s p b) := by
    rw [← HX.out, HL.out, stampHead, List.append_assoc (le s 4 ++ le p 4)]
    rfl
  have L52 := Lib.hid (stampHead_length s p b (by have := HL.out; omega))
  go_upto_region 6 with fail
  go_cut [9] (fun s9 wx => ∃ a9 c9, s9 = .slice a9 52 c9 ∧ BytesAt (New w.heap.size) wx (.slice a9 52 c9) (stampHead s p b) ∧ Fr (fun _ _ => True) w wx)
  case first =>
    go_region_with (first | (go_at_call 40; (with_reducible refine (out_calls _ w.heap.size v2 _ (by first | exact H2.out.tt (Fr.refl _ _).drew | exact H2.out.tt ((Fr.refl _ _).alloc _).drew) (by have := H9.out; omega)).mono ?_); rintro e w4 ⟨⟨a4, c4, rfl, b4⟩, f4⟩) | (go_at_call 39; (with_reducible refine (concat3 _ _ _ _ _ x2 b (List.replicate (43 - len) 0) (heap_alloc_at (by simp) _) (b4.tt (((Fr.refl _ _).alloc _).alloc _)) (HB.out.tt (((HG.out.drew.tt f4).alloc _).alloc _)) ((BytesAt.zeros w4 (43 - len)).tt ((Fr.refl _ _).alloc _)) (by have := H9.out; have := HL.out; simp; omega) (stampHead s p b) 52 E52.out L52.out).mono ?_); rintro e w5 ⟨⟨a5, c5, rfl, b5⟩, f5⟩; have F5 := Lib.hid ((((HG.out.drew.tt f4).alloc _).alloc _).tt f5)) | (go_at_call 39; (with_reducible refine (concat3 _ _ _ _ _ x2 b (List.replicate (43 - len) 0) (heap_alloc_at (by simp) _) (b4.tt ((Fr.refl _ _).alloc _)) (HB.out.tt (((HG.out.alloc _).drew.tt f4).alloc _)) ((BytesAt.zeros w2 (43 - len)).tt (((Fr.refl _ _).drew.tt f4).alloc _)) (by have := H9.out; have := HL.out; simp; omega) (stampHead s p b) 52 E52.out L52.out).mono ?_); rintro e w5 ⟨⟨a5, c5, rfl, b5⟩, f5⟩; have F5 := Lib.hid ((((HG.out.alloc _).drew.tt f4).alloc _).tt f5)))
    all_goals
      have B5 := Lib.hid (b5.mono (K' := New w.heap.size) fun q o _ h => ⟨by have := F5.out.size; have := h.1; have := HG.out.size; have := f4.size; simp at *; omega, h.2⟩)
      clear b5 f5 f4 b4
      go_wp2_with fail
      go_meet
      exact ⟨a5, c5, rfl, B5.out, F5.out⟩
  case rest =>
    obtain ⟨a9, c9, rfl, hb9, hf9⟩ := hcut
    obtain ⟨wx, rfl⟩ : ∃ wx, wx = wc := ⟨_, rfl⟩
    have HB9 := Lib.hid hb9
    have HF9 := Lib.hid hf9
    clear hb9 hf9 hmk hw43
    go_wp2_with fail
    (with_reducible refine (sum_calls _ _ (stampHead s p b) (HT.out.tt (HF9.out.alloc _)) (HB9.out.tt ((Fr.refl _ _).alloc _)) (by have := L52.out; omega)).mono ?_)
    rintro e w5 ⟨rfl, rfl⟩
    have hsl := sumOf_lt (stampHead s p b)
    generalize hsm : sumOf (stampHead s p b) = sm at hsl
    have HS := Lib.hid hsm
    clear hsm
    go_wp2_with fail
    (with_reducible refine (wnum_calls _ wx.heap.size _ [] sm 4 _ _ rfl (by omega) (WrAt.new wx) (by decide) (by decide) (by omega) (by decide)).mono ?_)
    rintro e w6 ⟨rfl, ⟨v6, h6, l6⟩, f6⟩
    rw [List.nil_append] at h6
    have G6 : Fr (fun _ _ => True) wx w6 := ((Fr.refl _ _).alloc _).old_trans f6 fun q o hq => ⟨by omega, by simp [Value.ownBlock]⟩
    have HG6 := Lib.hid G6
    have H6 := Lib.hid h6
    have L6 := Lib.hid l6
    clear h6 l6 f6 G6
    go_wp2_with fail
    (with_reducible refine (ends_calls _ wx.heap.size v6 _ s p H6.out hs hp (by rw [le_length]; omega)).mono ?_)
    rintro e w7 ⟨rfl, ⟨v7, h7, l7⟩, f7⟩
    have G7 : Fr (fun _ _ => True) wx w7 := HG6.out.old_trans f7 fun q o hq => ⟨by omega, fun e => by have := L6.out.new q e; simp at this; omega⟩
    have HG7 := Lib.hid G7
    have h12 : (le sm 4 ++ (le s 4 ++ le p 4)).length = 12 := by simp [le_length]
    have E64 : Hid (stampHead s p b ++ (le sm 4 ++ (le s 4 ++ le p 4)) = stampB s p b) := by rw [stampB, HS.out]; rfl
    generalize le sm 4 ++ (le s 4 ++ le p 4) = y7 at h7 h12 E64
    have H7 := Lib.hid h7
    have H12 := Lib.hid h12
    have L64 := Lib.hid (stampB_length s p b (by have := HL.out; omega))
    clear h7 l7 f7 G7 h12 H6 L6 HG6
    go_wp2_with fail
    (with_reducible refine (out_calls _ wx.heap.size v7 y7 H7.out (by have := H12.out; omega)).mono ?_)
    rintro e w8 ⟨⟨a8, c8, rfl, b8⟩, f8⟩
    have B8 := Lib.hid b8
    have F8 := Lib.hid f8
    clear b8 f8
    go_wp2_with fail
    (with_reducible refine (concat2 _ _ _ _ (stampHead s p b) y7 (heap_alloc_at rfl _) (HB9.out.tt ((HG7.out.tt F8.out).alloc _)) (B8.out.tt ((Fr.refl _ _).alloc _)) (by have := H12.out; have := L52.out; omega) (stampB s p b) 64 E64.out L64.out).mono ?_)
    rintro e w9 ⟨⟨a, c, rfl, b9⟩, f9⟩
    have F9 := Lib.hid ((((HF9.out.tt HG7.out).tt F8.out).alloc _).tt f9)
    have B9 := Lib.hid (b9.mono (K' := New w.heap.size) fun q o _ h => ⟨by have h1 := h.1; have := HF9.out.size; have := HG7.out.size; have := F8.out.size; simp at h1; omega, h.2⟩)
    clear b9 f9
    go_wp2
    go_ret2
    exact ⟨⟨_, _, rfl, B9.out⟩, F9.out⟩

theorem stamp_calls {K : Nat → Obj → Prop} (w : World) (s p : Nat) (v : Value) (b : List UInt8) (hb : BytesAt K w v b) (ht : TabOK w) (hs : s < 4294967296) (hp : p < 4294967296) :
    Calls Tryd.prog 13 #[.int .u32 s, .int .u32 p, v] w fun e w' =>
      (if 43 < b.length then e = .returned (.tuple #[.slice none 0 0, .int .i64 2]) else ∃ a' cap', e = .returned (.tuple #[.slice a' 64 cap', .int .i64 0]) ∧ BytesAt (New w.heap.size) w' (.slice a' 64 cap') (stampB s p b)) ∧ Fr (fun _ _ => True) w w' := by
  obtain ⟨a, cap, rfl⟩ := hb.form
  by_cases h : 43 < b.length
  · simp only [h, ↓reduceIte]
    exact (stamp_long w s p a b.length cap h).mono fun e w' ⟨he, hw⟩ => ⟨he, hw ▸ Fr.refl _ _⟩
  · simp only [h, ↓reduceIte]
    exact stamp_ok w s p a b.length cap b hb ht hs hp (by omega)

end Go.Proofs.YtaeonlafcbgpcaaDoor
