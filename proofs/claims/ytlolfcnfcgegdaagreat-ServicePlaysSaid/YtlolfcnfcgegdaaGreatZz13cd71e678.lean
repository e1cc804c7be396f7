/- Texts of the proofs, part 11: what the functions that they reach do, walked; no conditions beyond those that each states. -/
import Derived.Test.YtlolfcnfcgegdaaGreatZz759a0b9d61
set_option linter.unusedVariables false
set_option linter.unusedSimpArgs false
/- Commands as bytes: Encode of the document (printed by renc20.py). -/
namespace Go.Proofs.YtlolfcnfcgegdaaGreat
open Go.RowKit
set_option linter.unusedVariables false
set_option linter.unusedSimpArgs false

theorem fits_any (w : World) (z : Int) : Calls Tryz.prog 60 #[.int .i64 z] w fun e w' => e = .returned (.bool (inByte z)) ∧ w = w' := by
  cases h : inByte z with
  | true => exact fits_yes w z h
  | false => exact fits_no w z h
theorem row2b (w : World) (a b : Nat) (ha : a < 256) (hb : b < 256) : RowB (w.alloc (.cells #[.int .u8 (a : Nat), .int .u8 (b : Nat)] 5 (0, 0))) w.heap.size (.slice (some ⟨w.heap.size, 0, none⟩) 2 2) 2 (le a 1 ++ le b 1) := by
  have e : (le a 1 ++ le b 1).map byteV = [.int .u8 (a : Nat), .int .u8 (b : Nat)] := by
    have h : ∀ m : Nat, m < 256 → (UInt8.ofNat m).toNat = m := fun m hm => by rw [UInt8.toNat_ofNat']; omega
    simp [le, byteV, h a ha, h b hb]
  refine ⟨by rw [e]; rfl, .inr ⟨w.heap.size, 2, #[.int .u8 (a : Nat), .int .u8 (b : Nat)], rfl, Nat.le_refl _, heap_alloc_new _ _, Nat.le_refl _, by unfold maxLen; omega, rfl, ?_⟩⟩
  rw [e]; rfl
set_option maxRecDepth 100000 in
theorem renc_bad (w : World) (c : Cmd) (h : c.fine = false) : Calls Tryz.prog 23 #[vC c] w fun e w' => e = .returned (.tuple #[.slice none 0 0, .int .i64 1]) ∧ Fr (fun _ _ => True) w w' := by
  obtain ⟨op, cl, sq, rg, md, tk, tm⟩ := c
  unfold vC
  obtain ⟨W1, hW1⟩ : ∃ W, w.alloc (.cells #[.int .i64 op, .int .i64 cl, .int .u32 (sq : Nat), .int .i64 rg, .int .i64 md, .int .u64 (tk : Nat), .int .u64 (tm : Nat)] 80 (0, 0)) = W := ⟨_, rfl⟩
  have F1 : Hid (Fr (fun _ _ => True) w W1) := hW1 ▸ (Fr.refl _ _).alloc _
  have X1 : Hid (W1.heap[w.heap.size]? = some (.cells #[.int .i64 op, .int .i64 cl, .int .u32 (sq : Nat), .int .i64 rg, .int .i64 md, .int .u64 (tk : Nat), .int .u64 (tm : Nat)] 80 (0, 0))) := hW1 ▸ heap_alloc_new w _
  have x0 := cell_mk (i := 0) X1.out rfl
  have x1 := cell_mk (i := 1) X1.out rfl
  have x3 := cell_mk (i := 3) X1.out rfl
  have x4 := cell_mk (i := 4) X1.out rfl
  have K1 := Lib.hid (fits_any W1 cl)
  have K2 := Lib.hid (fits_any W1 rg)
  have K3 := Lib.hid (fits_any W1 md)
  have HF : Hid ((decide (1 ≤ op) && decide (op ≤ 7) && inByte cl && inByte rg && inByte md) = false) := h
  clear h
  generalize inByte cl = b1 at K1 HF
  generalize inByte rg = b2 at K2 HF
  generalize inByte md = b3 at K3 HF
  by_cases h1 : 1 ≤ op
  · have h1' : decide (op < 1) = false := by simp; omega
    by_cases h7 : op ≤ 7
    · have h7' : decide (7 < op) = false := by simp; omega
      cases b1 with
      | false =>
        clear h1 h7 HF
        go_enter Tryz.func23, Tryz.ntmps23
        go_wp2_with fail
        (with_reducible refine K1.out.mono ?_)
        rintro e w1 ⟨rfl, rfl⟩
        go_wp2_with fail
        (with_reducible refine K2.out.mono ?_)
        rintro e w1 ⟨rfl, rfl⟩
        go_wp2_with fail
        (with_reducible refine K3.out.mono ?_)
        rintro e w1 ⟨rfl, rfl⟩
        go_wp2
        all_goals (go_ret2; exact ⟨rfl, F1.out⟩)
      | true =>
        cases b2 with
        | false =>
          clear h1 h7 HF
          go_enter Tryz.func23, Tryz.ntmps23
          go_wp2_with fail
          (with_reducible refine K1.out.mono ?_)
          rintro e w1 ⟨rfl, rfl⟩
          go_wp2_with fail
          (with_reducible refine K2.out.mono ?_)
          rintro e w1 ⟨rfl, rfl⟩
          go_wp2_with fail
          (with_reducible refine K3.out.mono ?_)
          rintro e w1 ⟨rfl, rfl⟩
          go_wp2
          all_goals (go_ret2; exact ⟨rfl, F1.out⟩)
        | true =>
          cases b3 with
          | false =>
            clear h1 h7 HF
            go_enter Tryz.func23, Tryz.ntmps23
            go_wp2_with fail
            (with_reducible refine K1.out.mono ?_)
            rintro e w1 ⟨rfl, rfl⟩
            go_wp2_with fail
            (with_reducible refine K2.out.mono ?_)
            rintro e w1 ⟨rfl, rfl⟩
            go_wp2_with fail
            (with_reducible refine K3.out.mono ?_)
            rintro e w1 ⟨rfl, rfl⟩
            go_wp2
            all_goals (go_ret2; exact ⟨rfl, F1.out⟩)
          | true =>
            have := HF.out
            rw [decide_eq_true h1, decide_eq_true h7] at this
            cases this
    · have h7' : decide (7 < op) = true := by simp; omega
      clear h1 h7 HF
      go_enter Tryz.func23, Tryz.ntmps23
      go_wp2_with fail
      (with_reducible refine K1.out.mono ?_)
      rintro e w1 ⟨rfl, rfl⟩
      go_wp2_with fail
      (with_reducible refine K2.out.mono ?_)
      rintro e w1 ⟨rfl, rfl⟩
      go_wp2_with fail
      (with_reducible refine K3.out.mono ?_)
      rintro e w1 ⟨rfl, rfl⟩
      go_wp2
      all_goals (go_ret2; exact ⟨rfl, F1.out⟩)
  · have h1' : decide (op < 1) = true := by simp; omega
    clear h1 HF
    go_enter Tryz.func23, Tryz.ntmps23
    go_wp2_with fail
    (with_reducible refine K1.out.mono ?_)
    rintro e w1 ⟨rfl, rfl⟩
    go_wp2_with fail
    (with_reducible refine K2.out.mono ?_)
    rintro e w1 ⟨rfl, rfl⟩
    go_wp2_with fail
    (with_reducible refine K3.out.mono ?_)
    rintro e w1 ⟨rfl, rfl⟩
    go_wp2
    all_goals (go_ret2; exact ⟨rfl, F1.out⟩)
set_option maxRecDepth 100000 in
set_option maxHeartbeats 1000000 in
theorem renc_good (w : World) (op cl sq rg md tk tm : Nat) (h1 : 1 ≤ op) (h7 : op ≤ 7) (hc : cl < 256) (hr : rg < 256) (hm : md < 256) (hs : sq < 4294967296) (hk : tk < 18446744073709551616) (ht : tm < 18446744073709551616) :
    Calls Tryz.prog 23 #[.agg #[.int .i64 (op : Nat), .int .i64 (cl : Nat), .int .u32 (sq : Nat), .int .i64 (rg : Nat), .int .i64 (md : Nat), .int .u64 (tk : Nat), .int .u64 (tm : Nat)]] w fun e w' => (∃ a cap, e = .returned (.tuple #[.slice a 24 cap, .int .i64 0]) ∧ BytesAt (New w.heap.size) w' (.slice a 24 cap) (le op 1 ++ le cl 1 ++ le sq 4 ++ le rg 1 ++ le md 1 ++ le tk 8 ++ le tm 8)) ∧ Fr (fun _ _ => True) w w' := by
  obtain ⟨W1, hW1⟩ : ∃ W, w.alloc (.cells #[.int .i64 (op : Nat), .int .i64 (cl : Nat), .int .u32 (sq : Nat), .int .i64 (rg : Nat), .int .i64 (md : Nat), .int .u64 (tk : Nat), .int .u64 (tm : Nat)] 80 (0, 0)) = W := ⟨_, rfl⟩
  have F1 : Hid (Fr (fun _ _ => True) w W1) := hW1 ▸ (Fr.refl _ _).alloc _
  have X1 : Hid (W1.heap[w.heap.size]? = some (.cells #[.int .i64 (op : Nat), .int .i64 (cl : Nat), .int .u32 (sq : Nat), .int .i64 (rg : Nat), .int .i64 (md : Nat), .int .u64 (tk : Nat), .int .u64 (tm : Nat)] 80 (0, 0))) := hW1 ▸ heap_alloc_new w _
  have CX : Hid (∀ W, Fr (fun _ _ => True) W1 W → W.heap[w.heap.size]? = some (.cells #[.int .i64 (op : Nat), .int .i64 (cl : Nat), .int .u32 (sq : Nat), .int .i64 (rg : Nat), .int .i64 (md : Nat), .int .u64 (tk : Nat), .int .u64 (tm : Nat)] 80 (0, 0))) := fun W f => f.keep _ _ X1.out trivial
  have h1' : decide ((op : Int) < 1) = false := by simp; omega
  have h7' : decide ((7 : Int) < op) = false := by simp; omega
  have hb : ∀ z : Nat, z < 256 → inByte (z : Int) = true := fun z h => by unfold inByte; rw [decide_eq_true (by omega), decide_eq_true (by omega)]; rfl
  have K1 := Lib.hid (fits_yes W1 cl (hb cl hc))
  have K2 := Lib.hid (fits_yes W1 rg (hb rg hr))
  have K3 := Lib.hid (fits_yes W1 md (hb md hm))
  clear hb
  have v0 := cell_mk (i := 0) X1.out rfl
  have v1 := cell_mk (i := 1) X1.out rfl
  have v3 := cell_mk (i := 3) X1.out rfl
  have v4 := cell_mk (i := 4) X1.out rfl
  have u0 : IntKind.u8.wrap (op : Int) = op := by rw [IntKind.wrap_u8]; omega
  have u1 : IntKind.u8.wrap (cl : Int) = cl := by rw [IntKind.wrap_u8]; omega
  have u3 : IntKind.u8.wrap (rg : Int) = rg := by rw [IntKind.wrap_u8]; omega
  have u4 : IntKind.u8.wrap (md : Int) = md := by rw [IntKind.wrap_u8]; omega
  have u2 : IntKind.u64.wrap (sq : Int) = sq := by rw [IntKind.wrap_u64]; omega
  obtain ⟨W2, hW2⟩ : ∃ W, W1.alloc (.cells #[.int .u8 (op : Nat), .int .u8 (cl : Nat)] 5 (0, 0)) = W := ⟨_, rfl⟩
  have F2 : Hid (Fr (fun _ _ => True) W1 W2) := hW2 ▸ (Fr.refl _ _).alloc _
  have O2 : Hid (RowB W2 W1.heap.size (.slice (some ⟨W1.heap.size, 0, none⟩) 2 2) 2 (le op 1 ++ le cl 1)) := hW2 ▸ row2b W1 op cl (by omega) hc
  have c2 := cell_mk (i := 2) (CX.out W2 F2.out) rfl
  have N1 := Lib.hid (num01_calls W2 sq 4 sq 4 rfl rfl (by decide) (by omega))
  go_enter Tryz.func23, Tryz.ntmps23
  go_wp2_with fail
  (with_reducible refine K1.out.mono ?_)
  rintro e w1 ⟨rfl, rfl⟩
  go_wp2_with fail
  (with_reducible refine K2.out.mono ?_)
  rintro e w1 ⟨rfl, rfl⟩
  go_wp2_with fail
  (with_reducible refine K3.out.mono ?_)
  rintro e w1 ⟨rfl, rfl⟩
  go_wp2_with fail
  (with_reducible refine N1.out.mono ?_)
  rintro e w3 ⟨⟨a3, c3, rfl, o3⟩, f3⟩
  have B3 : Hid (BytesAt (New W2.heap.size) w3 (.slice a3 4 c3) (le sq 4)) := BytesAt.of_own o3 (le_length _ _)
  have O3 : Hid (RowB w3 W1.heap.size (.slice (some ⟨W1.heap.size, 0, none⟩) 2 2) 2 (le op 1 ++ le cl 1)) := own_tt O2.out f3
  have F3 := Lib.hid (F2.out.trans f3)
  obtain ⟨r4, hr4⟩ : ∃ r, (le op 1 ++ le cl 1) ++ le sq 4 = r := ⟨_, rfl⟩
  have R4 := Lib.hid hr4
  have N4 : Hid (2 + (le sq 4).length = 6) := by show _ = _; rw [le_length]
  clear o3 f3 hr4 N1 c2 hW2 hW1 K1 K2 K3 v0 v1 v3 v4 u0 u1 u2
  go_wp2_with (at_builtin; refine wpList_append_hid w3 rfl _ _ rfl W1.heap.size F3.out.size _ 2 _ rfl O3 _ (le sq 4) rfl B3 6 r4 R4 N4 (by decide) ?_)
  intro a4 c4 w4 O4 G4
  have F4 : Hid (Fr (fun _ _ => True) W1 w4) := F3.out.grown_new G4.out (own_new O3.out)
  have v3 := cell_mk (i := 3) (CX.out w4 F4.out) rfl
  have v4 := cell_mk (i := 4) (CX.out w4 F4.out) rfl
  obtain ⟨W5, hW5⟩ : ∃ W, w4.alloc (.cells #[.int .u8 (rg : Nat), .int .u8 (md : Nat)] 5 (0, 0)) = W := ⟨_, rfl⟩
  have F5 : Hid (Fr (fun _ _ => True) w4 W5) := hW5 ▸ (Fr.refl _ _).alloc _
  have B5 : Hid (BytesAt (New w4.heap.size) W5 (.slice (some ⟨w4.heap.size, 0, none⟩) 2 2) (le rg 1 ++ le md 1)) := hW5 ▸ BytesAt.of_own (row2b w4 rg md hr hm) (by simp [le_length])
  have O5 : Hid (RowB W5 W1.heap.size (.slice a4 6 c4) 6 r4) := own_tt O4.out F5.out
  have F15 := Lib.hid (F4.out.trans F5.out)
  obtain ⟨r6, hr6⟩ : ∃ r, r4 ++ (le rg 1 ++ le md 1) = r := ⟨_, rfl⟩
  have R6 := Lib.hid hr6
  have N6 : Hid (6 + (le rg 1 ++ le md 1).length = 8) := by show _ = _; simp [le_length]
  clear hr6 O3 B3 O4 G4 F3
  go_wp2_with (at_builtin; refine wpList_append_hid W5 rfl _ _ rfl W1.heap.size F15.out.size _ 6 r4 rfl O5 _ (le rg 1 ++ le md 1) rfl B5 8 r6 R6 N6 (by decide) ?_)
  intro a6 c6 w6 O6 G6
  have F6 : Hid (Fr (fun _ _ => True) W1 w6) := F15.out.grown_new G6.out (own_new O5.out)
  have v5 := cell_mk (i := 5) (CX.out w6 F6.out) rfl
  have N7 := Lib.hid (num01_calls w6 tk 8 tk 8 rfl rfl (by decide) (by omega))
  clear O5 B5 G6 F15 F5 F4 hW5 v3 v4 u3 u4
  go_wp2_with fail
  (with_reducible refine N7.out.mono ?_)
  rintro e w7 ⟨⟨a7, c7, rfl, o7⟩, f7⟩
  have B7 : Hid (BytesAt (New w6.heap.size) w7 (.slice a7 8 c7) (le tk 8)) := BytesAt.of_own o7 (le_length _ _)
  have O7 : Hid (RowB w7 W1.heap.size (.slice a6 8 c6) 8 r6) := own_tt O6.out f7
  have F7 := Lib.hid (F6.out.trans f7)
  obtain ⟨r8, hr8⟩ : ∃ r, r6 ++ le tk 8 = r := ⟨_, rfl⟩
  have R8 := Lib.hid hr8
  have N8 : Hid (8 + (le tk 8).length = 16) := by show _ = _; rw [le_length]
  clear o7 f7 hr8 N7 v5 O6 F6
  go_wp2_with (at_builtin; refine wpList_append_hid w7 rfl _ _ rfl W1.heap.size F7.out.size _ 8 r6 rfl O7 _ (le tk 8) rfl B7 16 r8 R8 N8 (by decide) ?_)
  intro a8 c8 w8 O8 G8
  have F8 : Hid (Fr (fun _ _ => True) W1 w8) := F7.out.grown_new G8.out (own_new O7.out)
  have v6 := cell_mk (i := 6) (CX.out w8 F8.out) rfl
  have N9 := Lib.hid (num01_calls w8 tm 8 tm 8 rfl rfl (by decide) (by omega))
  clear O7 B7 G8 F7
  go_wp2_with fail
  (with_reducible refine N9.out.mono ?_)
  rintro e w9 ⟨⟨a9, c9, rfl, o9⟩, f9⟩
  have B9 : Hid (BytesAt (New w8.heap.size) w9 (.slice a9 8 c9) (le tm 8)) := BytesAt.of_own o9 (le_length _ _)
  have O9 : Hid (RowB w9 W1.heap.size (.slice a8 16 c8) 16 r8) := own_tt O8.out f9
  have F9 := Lib.hid (F8.out.trans f9)
  obtain ⟨r10, hr10⟩ : ∃ r, r8 ++ le tm 8 = r := ⟨_, rfl⟩
  have R10 := Lib.hid hr10
  have N10 : Hid (16 + (le tm 8).length = 24) := by show _ = _; rw [le_length]
  clear o9 f9 hr10 N9 v6 O8 F8
  go_wp2_with (at_builtin; refine wpList_append_hid w9 rfl _ _ rfl W1.heap.size F9.out.size _ 16 r8 rfl O9 _ (le tm 8) rfl B9 24 r10 R10 N10 (by decide) ?_)
  intro a10 c10 w10 O10 G10
  have F10 : Hid (Fr (fun _ _ => True) W1 w10) := F9.out.grown_new G10.out (own_new O9.out)
  go_wp2
  go_ret2
  have e : le op 1 ++ le cl 1 ++ le sq 4 ++ le rg 1 ++ le md 1 ++ le tk 8 ++ le tm 8 = r10 := by
    rw [← R10.out, ← R8.out, ← R6.out, ← R4.out]; simp [List.append_assoc]
  have hl : r10.length = 24 := by rw [← e]; simp [le_length]
  rw [e]
  exact ⟨⟨a10, c10, rfl, (BytesAt.of_own O10.out hl).mono fun c o _ ⟨h, r⟩ => ⟨Nat.le_trans F1.out.size h, r⟩⟩, F1.out.trans F10.out⟩
theorem renc_calls (w : World) (c : Cmd) (hc : c.ok) : Calls Tryz.prog 23 #[vC c] w fun e w' => (∃ a cap, e = .returned (.tuple #[.slice a (encM c).1.length cap, .int .i64 ((encM c).2 : Nat)]) ∧ BytesAt (New w.heap.size) w' (.slice a (encM c).1.length cap) (encM c).1) ∧ Fr (fun _ _ => True) w w' := by
  cases h : c.fine with
  | false =>
    have e : encM c = ([], 1) := by unfold encM; rw [h]; rfl
    rw [e]
    exact (renc_bad w c h).mono fun e w' ⟨he, hf⟩ => ⟨⟨none, 0, he, BytesAt.nil _ _⟩, hf⟩
  | true =>
    have e : encM c = (cmdB c, 0) := by unfold encM; rw [h]; rfl
    rw [e]
    show Calls _ _ _ _ fun e w' => (∃ a cap, e = .returned (.tuple #[.slice a (cmdB c).length cap, .int .i64 ((0 : Nat) : Int)]) ∧ BytesAt (New w.heap.size) w' (.slice a (cmdB c).length cap) (cmdB c)) ∧ Fr (fun _ _ => True) w w'
    rw [cmdB_len]
    obtain ⟨op, cl, rg, md, e1, e2, e3, e4, g1, g2, g3, g4, g5⟩ := fine_parts h
    obtain ⟨cop, ccl, sq, crg, cmd, tk, tm⟩ := c
    dsimp only at e1 e2 e3 e4
    subst e1 e2 e3 e4
    have := renc_good w op cl sq rg md tk tm g1 g2 g3 g4 g5 hc.s hc.k hc.t
    unfold vC cmdB
    simp only [Int.toNat_natCast]
    exact this
end Go.Proofs.YtlolfcnfcgegdaaGreat
/- The document's reader, of the function's own. -/
namespace Go.Proofs.YtlolfcnfcgegdaaGreat
open Go.RowKit
set_option linter.unusedVariables false
set_option linter.unusedSimpArgs false

structure RRAt (W0 w : World) (br : Nat) (a : Option Addr) (cap : Nat) (full : List UInt8) (i : Nat) (bs : List UInt8) (sh : Bool) : Prop where
  new : W0.heap.size ≤ br
  top : w.heap[br]? = some (.cells #[.slice a full.length cap, .int .i64 (i : Nat), .bool sh] 125 (0, 0))
  bytes : BytesAt (fun c _ => c < W0.heap.size) W0 (.slice a full.length cap) full
  le : i ≤ full.length
  big : full.length ≤ 140737488355000
  rest : bs = if sh then [] else full.drop i
  fr : Fr (fun _ _ => True) W0 w
/-- The document's reader: what is left, and whether nothing is read any more. -/
def RR (W0 w : World) (br : Nat) (bs : List UInt8) (sh : Bool) : Prop := ∃ a cap full i, RRAt W0 w br a cap full i bs sh
theorem RR.mk0 {K : Nat → Obj → Prop} {W0 w : World} {v : Value} {bs : List UInt8} (h : Fr (fun _ _ => True) W0 w) (hb : BytesAt K W0 v bs) (hm : bs.length ≤ 140737488355000) : RR W0 (w.alloc (.cells #[v, .int .i64 0, .bool false] 125 (0, 0))) w.heap.size bs false := by
  obtain ⟨a, cap, rfl⟩ := hb.form
  exact ⟨a, cap, bs, 0, h.size, heap_alloc_new _ _, hb.mono fun _ _ hb _ => lt_of_some hb, Nat.zero_le _, hm, rfl, h.alloc _⟩
theorem RR.tt {W0 w w' : World} {br : Nat} {bs : List UInt8} {sh : Bool} (h : RR W0 w br bs sh) (hf : Fr (fun _ _ => True) w w') : RR W0 w' br bs sh := by
  obtain ⟨a, cap, full, i, h⟩ := h
  exact ⟨a, cap, full, i, h.new, hf.keep _ _ h.top trivial, h.bytes, h.le, h.big, h.rest, h.fr.trans hf⟩
theorem RR.fr {W0 w : World} {br : Nat} {bs : List UInt8} {sh : Bool} (h : RR W0 w br bs sh) : Fr (fun _ _ => True) W0 w := by
  obtain ⟨a, cap, full, i, h⟩ := h
  exact h.fr
theorem RR.len {W0 w : World} {br : Nat} {bs : List UInt8} {sh : Bool} (h : RR W0 w br bs sh) : bs.length ≤ 140737488355000 := by
  obtain ⟨a, cap, full, i, h⟩ := h
  have := h.big
  rw [h.rest]; split
  · simp
  · simp; omega
/-- The reader behind a store. -/
theorem RRAt.shutS {W0 w : World} {br : Nat} {a : Option Addr} {cap : Nat} {full : List UInt8} {i : Nat} {bs : List UInt8} {sh : Bool} (h : RRAt W0 w br a cap full i bs sh) (n : Nat) : RR W0 ((w.drewN n).setCell ⟨br, 2, none⟩ (.bool true)) br [] true ∧ Fr (fun c _ => c ≠ br) w ((w.drewN n).setCell ⟨br, 2, none⟩ (.bool true)) := by
  have f0 := (Fr.refl (fun _ _ => True) w).drewN n
  have t := f0.keep _ _ h.top trivial
  exact ⟨⟨a, cap, full, i, h.new, heap_setCell_same t _, h.bytes, h.le, h.big, rfl, (h.fr.trans f0).setCell_new h.new _⟩, ((Fr.refl _ w).drewN n).setCell (fun _ _ h => h rfl) _⟩
theorem RRAt.shutS0 {W0 w : World} {br : Nat} {a : Option Addr} {cap : Nat} {full : List UInt8} {i : Nat} {bs : List UInt8} {sh : Bool} (h : RRAt W0 w br a cap full i bs sh) : RR W0 (w.setCell ⟨br, 2, none⟩ (.bool true)) br [] true ∧ Fr (fun c _ => c ≠ br) w (w.setCell ⟨br, 2, none⟩ (.bool true)) := h.shutS 0
theorem RRAt.go {W0 w : World} {br : Nat} {a : Option Addr} {cap : Nat} {full : List UInt8} {i : Nat} {bs : List UInt8} (h : RRAt W0 w br a cap full i bs false) (n k : Nat) (hk : i + k ≤ full.length) : RRAt W0 ((w.drewN n).setCell ⟨br, 1, none⟩ (.int .i64 ((i : Int) + k))) br a cap full (i + k) (bs.drop k) false ∧ Fr (fun c _ => c ≠ br) w ((w.drewN n).setCell ⟨br, 1, none⟩ (.int .i64 ((i : Int) + k))) := by
  have f0 := (Fr.refl (fun _ _ => True) w).drewN n
  have t := f0.keep _ _ h.top trivial
  refine ⟨⟨h.new, ?_, h.bytes, hk, h.big, ?_, (h.fr.trans f0).setCell_new h.new _⟩, ((Fr.refl _ w).drewN n).setCell (fun _ _ h => h rfl) _⟩
  · have := heap_setCell_same (o := 1) t (.int .i64 ((i : Int) + k))
    rw [this]; rfl
  · rw [h.rest]; simp [List.drop_drop]

theorem quiet_eqP {P : Program} {f : FuncId} {args : Array Value} {w : World} {n : Nat} {v : Value}
    (h : Calls P f args (w.drewN n) fun e w' => e = .returned v ∧ w.drewN n = w') : Calls P f args (w.drewN n) fun e w'' => e = .returned v ∧ ∃ m, w'' = w.drewN m :=
  h.mono fun _ _ ⟨he, hm⟩ => ⟨he, n, hm.symm⟩
set_option maxRecDepth 100000 in
set_option maxHeartbeats 1000000 in
theorem rr_number0 (W0 w : World) (br : Nat) (bs : List UInt8) (sh : Bool) (n : Nat) (h : RR W0 w br bs sh) (h1 : 1 ≤ n) (h8 : n ≤ 8) (x : Nat) (r : List UInt8) (s : Bool) (hr : numR bs sh n = (x, r, s)) :
    Calls Tryz.prog 86 #[.pointer (some ⟨br, 0, none⟩), .int .i64 (n : Nat)] w fun e w' => e = .returned (.int .u64 (x : Nat)) ∧ RR W0 w' br r s ∧ Fr (fun c _ => c ≠ br) w w' := by
  obtain ⟨a, cap, full, i, h⟩ := h
  have c0 := cell_mk (i := 0) h.top rfl
  have c1 := cell_mk (i := 1) h.top rfl
  have c2 := cell_mk (i := 2) h.top rfl
  have f1 := frozen_mk (i := 1) h.top
  have f2 := frozen_mk (i := 2) h.top
  have hle := h.le
  have hbig := h.big
  have hrest := h.rest
  have n1 : (1 : Int) ≤ n := by omega
  have n8 : (n : Int) ≤ 8 := by omega
  have H := Lib.hid h
  cases sh with
  | true =>
    have hrr : (x, r, s) = (0, [], true) := by rw [← hr]; unfold numR; rw [if_pos (.inl rfl)]
    obtain ⟨rfl, rfl, rfl⟩ : x = 0 ∧ r = [] ∧ s = true := by simpa using hrr
    have K1 := Lib.hid h.shutS
    clear hr hrr h hrest
    generalize full.length = L at *
    go_enter Tryz.func86, Tryz.ntmps86
    go_wp2_with fail
    go_quiet (fail)
    go_wp2
    go_ret
    exact ⟨rfl, K1.out _⟩
  | false =>
    by_cases hn : full.length < i + n
    · have hrr : (x, r, s) = (0, [], true) := by
        rw [← hr]; unfold numR; rw [if_pos (.inr (by rw [hrest]; simp; omega))]
      obtain ⟨rfl, rfl, rfl⟩ : x = 0 ∧ r = [] ∧ s = true := by simpa using hrr
      have K1 := Lib.hid h.shutS
      have hz : (full.length : Int) < (i : Int) + n := by omega
      have hw1 : IntKind.i64.wrap ((i : Int) + n) = (i : Int) + n := IntWalk.i64_in _ (by omega)
      clear hr hrr h hrest
      generalize full.length = L at *
      go_enter Tryz.func86, Tryz.ntmps86
      go_wp2_with fail
      go_quiet (fail)
      go_wp2
      go_ret
      exact ⟨rfl, K1.out _⟩
    · have hle2 : i + n ≤ full.length := by omega
      have hrr : (x, r, s) = (ofLE (bs.take n), bs.drop n, false) := by
        rw [← hr]; unfold numR; rw [if_neg (by rw [hrest]; simp; omega)]
      obtain ⟨hx, rfl, rfl⟩ : x = ofLE (bs.take n) ∧ r = bs.drop n ∧ s = false := by simpa using hrr
      have HX := Lib.hid hx
      clear hx
      have hz : (i : Int) + n ≤ full.length := by omega
      have hw1 : IntKind.i64.wrap ((i : Int) + n) = (i : Int) + n := IntWalk.i64_in _ (by omega)
      have s3 := fun W => run_slice_mid Tryz.underlying23 size_u8 W a full.length cap i (i + n) .i64 .i64 (by omega) (by have := h.bytes.cap; omega)
      have G1 : Hid (∀ q, RR W0 ((w.drewN q).setCell ⟨br, 1, none⟩ (.int .i64 ((i : Int) + n))) br (bs.drop n) false ∧ Fr (fun c _ => c ≠ br) w ((w.drewN q).setCell ⟨br, 1, none⟩ (.int .i64 ((i : Int) + n)))) := fun q => ⟨⟨_, _, _, _, (h.go q n hle2).1⟩, (h.go q n hle2).2⟩
      have s3b : ∀ W, (Instr.slice 23 (.slice a full.length cap) (some (.int .i64 (i : Nat))) (some (.int .i64 ((i : Int) + n))) none).run Tryz.prog W = .ok (.slice (subA a cap i) n (cap - i)) W := fun W => by
        have := s3 W
        rwa [show ((i + n : Nat) : Int) = (i : Int) + n from by omega, Nat.add_sub_cancel_left] at this
      have HLE := Lib.hid hle2
      obtain ⟨L, hL⟩ : ∃ L, L = full.length := ⟨_, rfl⟩
      have HLL : Hid (full.length = L) := hL.symm
      rw [← hL] at c0 hle hbig hz s3b
      clear hr hrr s3 h hrest hn hle2 hL
      go_enter Tryz.func86, Tryz.ntmps86
      go_wp2_with fail
      go_quiet (fail)
      go_wp2_with fail
      obtain ⟨W1, hW1⟩ : ∃ W1, (w.drewN nq).setCell ⟨br, 1, none⟩ (.int .i64 ((i : Int) + n)) = W1 := ⟨_, rfl⟩
      have g1 := (H.out.go nq n HLE.out)
      rw [hW1] at g1
      rw [hW1]
      have d0 := cell_mk (i := 0) g1.1.top rfl
      have d1 : W1.cell? ⟨br, 1, none⟩ = some (.int .i64 ((i : Int) + n)) := by rw [cell_mk (i := 1) g1.1.top rfl]; rfl
      rw [HLL.out] at d0
      have R1 : Hid (RR W0 W1 br (bs.drop n) false ∧ Fr (fun c _ => c ≠ br) w W1) := ⟨⟨_, _, _, _, g1.1⟩, g1.2⟩
      have BT : Hid (BytesAt (fun c _ => c < W0.heap.size) W1 (.slice (subA a cap i) n (cap - i)) (bs.take n)) := by
        have := ((g1.1.bytes.drop i H.out.le).take n (by simp; have := HLE.out; omega)).tt g1.1.fr
        rw [H.out.rest]
        exact this
      have OF : Hid (∀ m, Calls Tryz.prog 38 #[.slice (subA a cap i) n (cap - i)] (W1.drewN m) fun e w' => e = .returned (.int .u64 (x : Nat)) ∧ W1.drewN m = w') := fun m => by rw [HX.out]; exact of_calls _ _ _ (BT.out.tt ((Fr.refl _ _).drewN m)) (by simp; omega)
      have hw2 : IntKind.i64.wrap ((i : Int) + n - n) = (i : Int) := by rw [IntWalk.i64_in _ (by omega)]; omega
      clear g1 BT G1 hW1 c0 c1 c2 f1 f2
      generalize subA a cap i = sa at *
      go_quiet ((go_at_call 38; exact quiet_eqP (OF.out _)))
      go_wp2
      go_ret
      exact ⟨rfl, R1.out.1.tt ((Fr.refl _ _).drewN _), R1.out.2.trans ((Fr.refl _ _).drewN _)⟩

theorem rr_number (W0 w : World) (br : Nat) (bs : List UInt8) (sh : Bool) (n : Nat) (sz : Int) (hsz : sz = n) (h : RR W0 w br bs sh) (h1 : 1 ≤ n) (h8 : n ≤ 8) (x : Nat) (r : List UInt8) (s : Bool) (hr : numR bs sh n = (x, r, s)) :
    Calls Tryz.prog 86 #[.pointer (some ⟨br, 0, none⟩), .int .i64 sz] w fun e w' => e = .returned (.int .u64 (x : Nat)) ∧ RR W0 w' br r s ∧ Fr (fun c _ => c ≠ br) w w' := by
  subst hsz
  exact rr_number0 W0 w br bs sh n h h1 h8 x r s hr
set_option maxRecDepth 100000 in
set_option maxHeartbeats 1000000 in
theorem rr_bytes (W0 w : World) (br : Nat) (bs : List UInt8) (sh : Bool) (h : RR W0 w br bs sh) (x r : List UInt8) (s : Bool) (hr : bytR bs sh = (x, r, s)) :
    Calls Tryz.prog 56 #[.pointer (some ⟨br, 0, none⟩)] w fun e w' => (∃ a cap, e = .returned (.slice a x.length cap) ∧ BytesAt (fun c _ => c < W0.heap.size) W0 (.slice a x.length cap) x) ∧ RR W0 w' br r s ∧ Fr (fun c _ => c ≠ br) w w' := by
  have K1 := Lib.hid (rr_number W0 w br bs sh 2 2 rfl h (by omega) (by omega) (numR bs sh 2).1 (numR bs sh 2).2.1 (numR bs sh 2).2.2 rfl)
  have hlt := numR_lt bs sh 2
  unfold bytR at hr
  have HR := Lib.hid hr
  generalize (numR bs sh 2).1 = n at *
  generalize (numR bs sh 2).2.1 = q at *
  generalize (numR bs sh 2).2.2 = s1 at *
  have hn : n < 65536 := by simpa using hlt
  clear h hr hlt
  go_enter Tryz.func56, Tryz.ntmps56
  go_wp2_with fail
  with_reducible refine K1.out.mono ?_
  rintro e1 w1 ⟨rfl, ⟨a, cap, full, i, h1⟩, f1⟩
  have H1 := Lib.hid h1
  have F1 := Lib.hid f1
  have c0 := cell_mk (i := 0) h1.top rfl
  have c1 := cell_mk (i := 1) h1.top rfl
  have c2 := cell_mk (i := 2) h1.top rfl
  have g1 := frozen_mk (i := 1) h1.top
  have g2 := frozen_mk (i := 2) h1.top
  have hle := h1.le
  have hbig := h1.big
  have hrest := h1.rest
  have hcap := h1.bytes.cap
  clear h1 f1 K1
  have n0 : (0 : Int) ≤ n := by omega
  have hw1 : IntKind.i64.wrap ((i : Int) + n) = (i : Int) + n := IntWalk.i64_in _ (by omega)
  obtain ⟨L, hL⟩ : ∃ L, L = full.length := ⟨_, rfl⟩
  have HLL : Hid (full.length = L) := hL.symm
  rw [← hL] at c0 hle hbig hcap
  by_cases hno : s1 = true ∨ 1000 < n ∨ q.length < n
  · have hrr := HR.out
    rw [if_pos hno] at hrr
    obtain ⟨rfl, rfl, rfl⟩ : x = [] ∧ r = [] ∧ s = true := by simpa using hrr.symm
    have fin : Hid (∀ k, RR W0 ((w1.drewN k).setCell ⟨br, 2, none⟩ (.bool true)) br [] true ∧ Fr (fun c _ => c ≠ br) w ((w1.drewN k).setCell ⟨br, 2, none⟩ (.bool true))) := fun k => ⟨(H1.out.shutS k).1, F1.out.trans (H1.out.shutS k).2⟩
    have hno2 : s1 = true ∨ (s1 = false ∧ ((1000 : Int) < n ∨ ((n : Int) ≤ 1000 ∧ (L : Int) < (i : Int) + n))) := by
      cases s1 with
      | true => exact .inl rfl
      | false =>
        refine .inr ⟨rfl, ?_⟩
        rcases hno with q1 | q1 | q1
        · cases q1
        · exact .inl (by omega)
        · rw [hrest] at q1; simp at q1; omega
    clear hrr HR hno H1 F1 hrest hL HLL
    rcases hno2 with rfl | ⟨rfl, hk | ⟨hk, hk2⟩⟩ <;>
    · go_wp2_with fail
      go_quiet (fail)
      go_wp2
      go_ret
      exact ⟨⟨none, 0, rfl, BytesAt.nil _ _⟩, fin.out _⟩
  · have hrr := HR.out
    rw [if_neg hno] at hrr
    obtain ⟨hx, hr2, rfl⟩ : q.take n = x ∧ q.drop n = r ∧ s = false := by
      have := Prod.mk.inj hrr; have h2 := Prod.mk.inj this.2; exact ⟨this.1, h2.1, h2.2.symm⟩
    have hs1 : s1 = false := by cases s1 <;> simp_all
    subst hs1
    have h1k : (n : Int) ≤ 1000 := by omega
    have hq : q = full.drop i := hrest
    have hle2 : i + n ≤ L := by
      have : ¬ q.length < n := fun q1 => hno (.inr (.inr q1))
      rw [hq] at this; simp at this; omega
    have hz : (i : Int) + n ≤ L := by omega
    have s3 : ∀ W, (Instr.slice 23 (.slice a L cap) (some (.int .i64 (i : Nat))) (some (.int .i64 ((i : Int) + n))) none).run Tryz.prog W = .ok (.slice (subA a cap i) n (cap - i)) W := fun W => by
      have := run_slice_mid Tryz.underlying23 size_u8 W a L cap i (i + n) .i64 .i64 (by omega) (by omega)
      rwa [show ((i + n : Nat) : Int) = (i : Int) + n from by omega, Nat.add_sub_cancel_left] at this
    have XL : Hid (x.length = n) := by rw [← hx, hq]; simp [Hid]; omega
    have BT : Hid (BytesAt (fun c _ => c < W0.heap.size) W0 (.slice (subA a cap i) n (cap - i)) x) := by
      have := (H1.out.bytes.drop i H1.out.le).take n (by simp; omega)
      rw [← hx, hq]
      exact this
    have HLE : Hid (i + n ≤ full.length) := by rw [hL] at hle2; exact hle2
    have HR2 := Lib.hid hr2
    clear hrr HR hno hrest hx hq hL hr2
    go_wp2_with fail
    go_quiet (fail)
    go_wp2_with fail
    obtain ⟨W1, hW1⟩ : ∃ W1, (w1.drewN nq).setCell ⟨br, 1, none⟩ (.int .i64 ((i : Int) + n)) = W1 := ⟨_, rfl⟩
    have g1 := (H1.out.go nq n HLE.out)
    rw [hW1] at g1
    rw [hW1]
    have d0 := cell_mk (i := 0) g1.1.top rfl
    have d1 : W1.cell? ⟨br, 1, none⟩ = some (.int .i64 ((i : Int) + n)) := by rw [cell_mk (i := 1) g1.1.top rfl]; rfl
    rw [HLL.out] at d0
    have R1 : Hid (RR W0 W1 br r false ∧ Fr (fun c _ => c ≠ br) w W1) := by
      rw [← HR2.out]; exact ⟨⟨_, _, _, _, g1.1⟩, F1.out.trans g1.2⟩
    have hw2 : IntKind.i64.wrap ((i : Int) + n - n) = (i : Int) := by rw [IntWalk.i64_in _ (by omega)]; omega
    clear g1 hW1 c0 c1 c2 g2
    generalize subA a cap i = sa at *
    go_quiet (fail)
    go_wp2
    go_ret
    refine ⟨⟨sa, cap - i, ?_, ?_⟩, R1.out.1.tt ((Fr.refl _ _).drewN _), R1.out.2.trans ((Fr.refl _ _).drewN _)⟩
    · rw [XL.out]; rfl
    · rw [XL.out]; exact BT.out

set_option maxRecDepth 100000 in
theorem rr_end (W0 w : World) (br : Nat) (bs : List UInt8) (sh : Bool) (h : RR W0 w br bs sh) :
    Calls Tryz.prog 57 #[.pointer (some ⟨br, 0, none⟩)] w fun e w' => e = .returned (.int .i64 (endL bs sh)) ∧ ∃ k, w' = w.drewN k := by
  obtain ⟨a, cap, full, i, h⟩ := h
  have c0 := cell_mk (i := 0) h.top rfl
  have c1 := cell_mk (i := 1) h.top rfl
  have c2 := cell_mk (i := 2) h.top rfl
  have hle := h.le
  have hbig := h.big
  have hrest := h.rest
  clear h
  cases sh with
  | true =>
    have HE : Hid (endL bs true = 10) := rfl
    clear hrest
    generalize full.length = L at *
    go_enter Tryz.func57, Tryz.ntmps57
    go_wp2
    go_ret
    exact ⟨by rw [HE.out]; rfl, 0, rfl⟩
  | false =>
    have hl : bs.length = full.length - i := by rw [hrest]; simp
    by_cases hlt : i < full.length
    · have HE : Hid (endL bs false = 11) := by unfold endL; rw [if_neg (by decide), if_pos (by omega)]; rfl
      have hlt2 : (i : Int) < full.length := by omega
      clear hrest hl
      generalize full.length = L at *
      go_enter Tryz.func57, Tryz.ntmps57
      go_wp2
      go_quiet (fail)
      go_wp2
      go_ret
      exact ⟨by rw [HE.out]; rfl, _, rfl⟩
    · have HE : Hid (endL bs false = 0) := by unfold endL; rw [if_neg (by decide), if_neg (by omega)]; rfl
      have hlt2 : (full.length : Int) ≤ i := by omega
      clear hrest hl
      generalize full.length = L at *
      go_enter Tryz.func57, Tryz.ntmps57
      go_wp2
      go_quiet (fail)
      go_wp2
      go_ret
      exact ⟨by rw [HE.out]; rfl, _, rfl⟩
end Go.Proofs.YtlolfcnfcgegdaaGreat
