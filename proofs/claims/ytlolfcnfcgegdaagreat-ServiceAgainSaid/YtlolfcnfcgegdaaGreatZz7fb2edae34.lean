/- Texts of the proofs, part 10: what the functions that they reach do, walked; no conditions beyond those that each states. -/
import Derived.Test.YtlolfcnfcgegdaaGreatZz910dbee563
set_option linter.unusedVariables false
set_option linter.unusedSimpArgs false
/- Commands as bytes: Encode of the document (printed by renc20.py). -/
namespace Go.Proofs.YtlolfcnfcgegdaaGreat
open Go.RowKit
set_option linter.unusedVariables false
set_option linter.unusedSimpArgs false

theorem fits_any (w : World) (z : Int) : Calls Tryz.prog 60 #[.int .i64 z] w fun e w' => e = .returned (.bool (inByte z)) ∧ w = w' := by
  cases h : inByte z with
  | true => exact fits_yes w z h
  | false => exact fits_no w z h
theorem row2b (w : World) (a b : Nat) (ha : a < 256) (hb : b < 256) : RowB (w.alloc (.cells #[.int .u8 (a : Nat), .int .u8 (b : Nat)] 5 (0, 0))) w.heap.size (.slice (some ⟨w.heap.size, 0, none⟩) 2 2) 2 (le a 1 ++ le b 1) := by
  have e : (le a 1 ++ le b 1).map byteV = [.int .u8 (a : Nat), .int .u8 (b : Nat)] := by
    have h : ∀ m : Nat, m < 256 → (UInt8.ofNat m).toNat = m := fun m hm => by rw [UInt8.toNat_ofNat']; omega
    simp [le, byteV, h a ha, h b hb]
  refine ⟨by rw [e]; rfl, .inr ⟨w.heap.size, 2, #[.int .u8 (a : Nat), .int .u8 (b : Nat)], rfl, Nat.le_refl _, heap_alloc_new _ _, Nat.le_refl _, by unfold maxLen; omega, rfl, ?_⟩⟩
  rw [e]; rfl
set_option maxRecDepth 100000 in
theorem renc_bad (w : World) (c : Cmd) (h : c.fine = false) : Calls Tryz.prog 23 #[vC c] w fun e w' => e = .returned (.tuple #[.slice none 0 0, .int .i64 1]) ∧ Fr (fun _ _ => True) w w' := by
  obtain ⟨op, cl, sq, rg, md, tk, tm⟩ := c
  unfold vC
  obtain ⟨W1, hW1⟩ : ∃ W, w.alloc (.cells #[.int .i64 op, .int .i64 cl, .int .u32 (sq : Nat), .int .i64 rg, .int .i64 md, .int .u64 (tk : Nat), .int .u64 (tm : Nat)] 80 (0, 0)) = W := ⟨_, rfl⟩
  have F1 : Hid (Fr (fun _ _ => True) w W1) := hW1 ▸ (Fr.refl _ _).alloc _
  have X1 : Hid (W1.heap[w.heap.size]? = some (.cells #[.int .i64 op, .int .i64 cl, .int .u32 (sq : Nat), .int .i64 rg, .int .i64 md, .int .u64 (tk : Nat), .int .u64 (tm : Nat)] 80 (0, 0))) := hW1 ▸ heap_alloc_new w _
  have x0 := cell_mk (i := 0) X1.out rfl
  have x1 := cell_mk (i := 1) X1.out rfl
  have x3 := cell_mk (i := 3) X1.out rfl
  have x4 := cell_mk (i := 4) X1.out rfl
  have K1 := Lib.hid (fits_any W1 cl)
  have K2 := Lib.hid (fits_any W1 rg)
  have K3 := Lib.hid (fits_any W1 md)
  have HF : Hid ((decide (1 ≤ op) && decide (op ≤ 7) && inByte cl && inByte rg && inByte md) = false) := h
  clear h
  generalize inByte cl = b1 at K1 HF
  generalize inByte rg = b2 at K2 HF
  generalize inByte md = b3 at K3 HF
  by_cases h1 : 1 ≤ op
  · have h1' : decide (op < 1) = false := by simp; omega
    by_cases h7 : op ≤ 7
    · have h7' : decide (7 < op) = false := by simp; omega
      cases b1 with
      | false =>
        clear h1 h7 HF
        go_enter Tryz.func23, Tryz.ntmps23
        go_wp2_with fail
        (with_reducible refine K1.out.mono ?_)
        rintro e w1 ⟨rfl, rfl⟩
        go_wp2_with fail
        (with_reducible refine K2.out.mono ?_)
        rintro e w1 ⟨rfl, rfl⟩
        go_wp2_with fail
        (with_reducible refine K3.out.mono ?_)
        rintro e w1 ⟨rfl, rfl⟩
        go_wp2
        all_goals (go_ret2; exact ⟨rfl, F1.out⟩)
      | true =>
        cases b2 with
        | false =>
          clear h1 h7 HF
          go_enter Tryz.func23, Tryz.ntmps23
          go_wp2_with fail
          (with_reducible refine K1.out.mono ?_)
          rintro e w1 ⟨rfl, rfl⟩
          go_wp2_with fail
          (with_reducible refine K2.out.mono ?_)
          rintro e w1 ⟨rfl, rfl⟩
          go_wp2_with fail
          (with_reducible refine K3.out.mono ?_)
          rintro e w1 ⟨rfl, rfl⟩
          go_wp2
          all_goals (go_ret2; exact ⟨rfl, F1.out⟩)
        | true =>
          cases b3 with
          | false =>
            clear h1 h7 HF
            go_enter Tryz.func23, Tryz.ntmps23
            go_wp2_with fail
            (with_reducible refine K1.out.mono ?_)
            rintro e w1 ⟨rfl, rfl⟩
            go_wp2_with fail
            (with_reducible refine K2.out.mono ?_)
            rintro e w1 ⟨rfl, rfl⟩
            go_wp2_with fail
            (with_reducible refine K3.out.mono ?_)
            rintro e w1 ⟨rfl, rfl⟩
            go_wp2
            all_goals (go_ret2; exact ⟨rfl, F1.out⟩)
          | true =>
            have := HF.out
            rw [decide_eq_true h1, decide_eq_true h7] at this
            cases this
    · have h7' : decide (7 < op) = true := by simp; omega
      clear h1 h7 HF
      go_enter Tryz.func23, Tryz.ntmps23
      go_wp2_with fail
      (with_reducible refine K1.out.mono ?_)
      rintro e w1 ⟨rfl, rfl⟩
      go_wp2_with fail
      (with_reducible refine K2.out.mono ?_)
      rintro e w1 ⟨rfl, rfl⟩
      go_wp2_with fail
      (with_reducible refine K3.out.mono ?_)
      rintro e w1 ⟨rfl, rfl⟩
      go_wp2
      all_goals (go_ret2; exact ⟨rfl, F1.out⟩)
  · have h1' : decide (op < 1) = true := by simp; omega
    clear h1 HF
    go_enter Tryz.func23, Tryz.ntmps23
    go_wp2_with fail
    (with_reducible refine K1.out.mono ?_)
    rintro e w1 ⟨rfl, rfl⟩
    go_wp2_with fail
    (with_reducible refine K2.out.mono ?_)
    rintro e w1 ⟨rfl, rfl⟩
    go_wp2_with fail
    (with_reducible refine K3.out.mono ?_)
    rintro e w1 ⟨rfl, rfl⟩
    go_wp2
    all_goals (go_ret2; exact ⟨rfl, F1.out⟩)
set_option maxRecDepth 100000 in
set_option maxHeartbeats 1000000 in
theorem renc_good (w : World) (op cl sq rg md tk tm : Nat) (h1 : 1 ≤ op) (h7 : op ≤ 7) (hc : cl < 256) (hr : rg < 256) (hm : md < 256) (hs : sq < 4294967296) (hk : tk < 18446744073709551616) (ht : tm < 18446744073709551616) :
    Calls Tryz.prog 23 #[.agg #[.int .i64 (op : Nat), .int .i64 (cl : Nat), .int .u32 (sq : Nat), .int .i64 (rg : Nat), .int .i64 (md : Nat), .int .u64 (tk : Nat), .int .u64 (tm : Nat)]] w fun e w' => (∃ a cap, e = .returned (.tuple #[.slice a 24 cap, .int .i64 0]) ∧ BytesAt (New w.heap.size) w' (.slice a 24 cap) (le op 1 ++ le cl 1 ++ le sq 4 ++ le rg 1 ++ le md 1 ++ le tk 8 ++ le tm 8)) ∧ Fr (fun _ _ => True) w w' := by
  obtain ⟨W1, hW1⟩ : ∃ W, w.alloc (.cells #[.int .i64 (op : Nat), .int .i64 (cl : Nat), .int .u32 (sq : Nat), .int .i64 (rg : Nat), .int .i64 (md : Nat), .int .u64 (tk : Nat), .int .u64 (tm : Nat)] 80 (0, 0)) = W := ⟨_, rfl⟩
  have F1 : Hid (Fr (fun _ _ => True) w W1) := hW1 ▸ (Fr.refl _ _).alloc _
  have X1 : Hid (W1.heap[w.heap.size]? = some (.cells #[.int .i64 (op : Nat), .int .i64 (cl : Nat), .int .u32 (sq : Nat), .int .i64 (rg : Nat), .int .i64 (md : Nat), .int .u64 (tk : Nat), .int .u64 (tm : Nat)] 80 (0, 0))) := hW1 ▸ heap_alloc_new w _
  have CX : Hid (∀ W, Fr (fun _ _ => True) W1 W → W.heap[w.heap.size]? = some (.cells #[.int .i64 (op : Nat), .int .i64 (cl : Nat), .int .u32 (sq : Nat), .int .i64 (rg : Nat), .int .i64 (md : Nat), .int .u64 (tk : Nat), .int .u64 (tm : Nat)] 80 (0, 0))) := fun W f => f.keep _ _ X1.out trivial
  have h1' : decide ((op : Int) < 1) = false := by simp; omega
  have h7' : decide ((7 : Int) < op) = false := by simp; omega
  have hb : ∀ z : Nat, z < 256 → inByte (z : Int) = true := fun z h => by unfold inByte; rw [decide_eq_true (by omega), decide_eq_true (by omega)]; rfl
  have K1 := Lib.hid (fits_yes W1 cl (hb cl hc))
  have K2 := Lib.hid (fits_yes W1 rg (hb rg hr))
  have K3 := Lib.hid (fits_yes W1 md (hb md hm))
  clear hb
  have v0 := cell_mk (i := 0) X1.out rfl
  have v1 := cell_mk (i := 1) X1.out rfl
  have v3 := cell_mk (i := 3) X1.out rfl
  have v4 := cell_mk (i := 4) X1.out rfl
  have u0 : IntKind.u8.wrap (op : Int) = op := by rw [IntKind.wrap_u8]; omega
  have u1 : IntKind.u8.wrap (cl : Int) = cl := by rw [IntKind.wrap_u8]; omega
  have u3 : IntKind.u8.wrap (rg : Int) = rg := by rw [IntKind.wrap_u8]; omega
  have u4 : IntKind.u8.wrap (md : Int) = md := by rw [IntKind.wrap_u8]; omega
  have u2 : IntKind.u64.wrap (sq : Int) = sq := by rw [IntKind.wrap_u64]; omega
  obtain ⟨W2, hW2⟩ : ∃ W, W1.alloc (.cells #[.int .u8 (op : Nat), .int .u8 (cl : Nat)] 5 (0, 0)) = W := ⟨_, rfl⟩
  have F2 : Hid (Fr (fun _ _ => True) W1 W2) := hW2 ▸ (Fr.refl _ _).alloc _
  have O2 : Hid (RowB W2 W1.heap.size (.slice (some ⟨W1.heap.size, 0, none⟩) 2 2) 2 (le op 1 ++ le cl 1)) := hW2 ▸ row2b W1 op cl (by omega) hc
  have c2 := cell_mk (i := 2) (CX.out W2 F2.out) rfl
  have N1 := Lib.hid (num01_calls W2 sq 4 sq 4 rfl rfl (by decide) (by omega))
  go_enter Tryz.func23, Tryz.ntmps23
  go_wp2_with fail
  (with_reducible refine K1.out.mono ?_)
  rintro e w1 ⟨rfl, rfl⟩
  go_wp2_with fail
  (with_reducible refine K2.out.mono ?_)
  rintro e w1 ⟨rfl, rfl⟩
  go_wp2_with fail
  (with_reducible refine K3.out.mono ?_)
  rintro e w1 ⟨rfl, rfl⟩
  go_wp2_with fail
  (with_reducible refine N1.out.mono ?_)
  rintro e w3 ⟨⟨a3, c3, rfl, o3⟩, f3⟩
  have B3 : Hid (BytesAt (New W2.heap.size) w3 (.slice a3 4 c3) (le sq 4)) := BytesAt.of_own o3 (le_length _ _)
  have O3 : Hid (RowB w3 W1.heap.size (.slice (some ⟨W1.heap.size, 0, none⟩) 2 2) 2 (le op 1 ++ le cl 1)) := own_tt O2.out f3
  have F3 := Lib.hid (F2.out.trans f3)
  obtain ⟨r4, hr4⟩ : ∃ r, (le op 1 ++ le cl 1) ++ le sq 4 = r := ⟨_, rfl⟩
  have R4 := Lib.hid hr4
  have N4 : Hid (2 + (le sq 4).length = 6) := by show _ = _; rw [le_length]
  clear o3 f3 hr4 N1 c2 hW2 hW1 K1 K2 K3 v0 v1 v3 v4 u0 u1 u2
  go_wp2_with (at_builtin; refine wpList_append_hid w3 rfl _ _ rfl W1.heap.size F3.out.size _ 2 _ rfl O3 _ (le sq 4) rfl B3 6 r4 R4 N4 (by decide) ?_)
  intro a4 c4 w4 O4 G4
  have F4 : Hid (Fr (fun _ _ => True) W1 w4) := F3.out.grown_new G4.out (own_new O3.out)
  have v3 := cell_mk (i := 3) (CX.out w4 F4.out) rfl
  have v4 := cell_mk (i := 4) (CX.out w4 F4.out) rfl
  obtain ⟨W5, hW5⟩ : ∃ W, w4.alloc (.cells #[.int .u8 (rg : Nat), .int .u8 (md : Nat)] 5 (0, 0)) = W := ⟨_, rfl⟩
  have F5 : Hid (Fr (fun _ _ => True) w4 W5) := hW5 ▸ (Fr.refl _ _).alloc _
  have B5 : Hid (BytesAt (New w4.heap.size) W5 (.slice (some ⟨w4.heap.size, 0, none⟩) 2 2) (le rg 1 ++ le md 1)) := hW5 ▸ BytesAt.of_own (row2b w4 rg md hr hm) (by simp [le_length])
  have O5 : Hid (RowB W5 W1.heap.size (.slice a4 6 c4) 6 r4) := own_tt O4.out F5.out
  have F15 := Lib.hid (F4.out.trans F5.out)
  obtain ⟨r6, hr6⟩ : ∃ r, r4 ++ (le rg 1 ++ le md 1) = r := ⟨_, rfl⟩
  have R6 := Lib.hid hr6
  have N6 : Hid (6 + (le rg 1 ++ le md 1).length = 8) := by show _ = _; simp [le_length]
  clear hr6 O3 B3 O4 G4 F3
  go_wp2_with (at_builtin; refine wpList_append_hid W5 rfl _ _ rfl W1.heap.size F15.out.size _ 6 r4 rfl O5 _ (le rg 1 ++ le md 1) rfl B5 8 r6 R6 N6 (by decide) ?_)
  intro a6 c6 w6 O6 G6
  have F6 : Hid (Fr (fun _ _ => True) W1 w6) := F15.out.grown_new G6.out (own_new O5.out)
  have v5 := cell_mk (i := 5) (CX.out w6 F6.out) rfl
  have N7 := Lib.hid (num01_calls w6 tk 8 tk 8 rfl rfl (by decide) (by omega))
  clear O5 B5 G6 F15 F5 F4 hW5 v3 v4 u3 u4
  go_wp2_with fail
  (with_reducible refine N7.out.mono ?_)
  rintro e w7 ⟨⟨a7, c7, rfl, o7⟩, f7⟩
  have B7 : Hid (BytesAt (New w6.heap.size) w7 (.slice a7 8 c7) (le tk 8)) := BytesAt.of_own o7 (le_length _ _)
  have O7 : Hid (RowB w7 W1.heap.size (.slice a6 8 c6) 8 r6) := own_tt O6.out f7
  have F7 := Lib.hid (F6.out.trans f7)
  obtain ⟨r8, hr8⟩ : ∃ r, r6 ++ le tk 8 = r := ⟨_, rfl⟩
  have R8 := Lib.hid hr8
  have N8 : Hid (8 + (le tk 8).length = 16) := by show _ = _; rw [le_length]
  clear o7 f7 hr8 N7 v5 O6 F6
  go_wp2_with (at_builtin; refine wpList_append_hid w7 rfl _ _ rfl W1.heap.size F7.out.size _ 8 r6 rfl O7 _ (le tk 8) rfl B7 16 r8 R8 N8 (by decide) ?_)
  intro a8 c8 w8 O8 G8
  have F8 : Hid (Fr (fun _ _ => True) W1 w8) := F7.out.grown_new G8.out (own_new O7.out)
  have v6 := cell_mk (i := 6) (CX.out w8 F8.out) rfl
  have N9 := Lib.hid (num01_calls w8 tm 8 tm 8 rfl rfl (by decide) (by omega))
  clear O7 B7 G8 F7
  go_wp2_with fail
  (with_reducible refine N9.out.mono ?_)
  rintro e w9 ⟨⟨a9, c9, rfl, o9⟩, f9⟩
  have B9 : Hid (BytesAt (New w8.heap.size) w9 (.slice a9 8 c9) (le tm 8)) := BytesAt.of_own o9 (le_length _ _)
  have O9 : Hid (RowB w9 W1.heap.size (.slice a8 16 c8) 16 r8) := own_tt O8.out f9
  have F9 := Lib.hid (F8.out.trans f9)
  obtain ⟨r10, hr10⟩ : ∃ r, r8 ++ le tm 8 = r := ⟨_, rfl⟩
  have R10 := Lib.hid hr10
  have N10 : Hid (16 + (le tm 8).length = 24) := by show _ = _; rw [le_length]
  clear o9 f9 hr10 N9 v6 O8 F8
  go_wp2_with (at_builtin; refine wpList_append_hid w9 rfl _ _ rfl W1.heap.size F9.out.size _ 16 r8 rfl O9 _ (le tm 8) rfl B9 24 r10 R10 N10 (by decide) ?_)
  intro a10 c10 w10 O10 G10
  have F10 : Hid (Fr (fun _ _ => True) W1 w10) := F9.out.grown_new G10.out (own_new O9.out)
  go_wp2
  go_ret2
  have e : le op 1 ++ le cl 1 ++ le sq 4 ++ le rg 1 ++ le md 1 ++ le tk 8 ++ le tm 8 = r10 := by
    rw [← R10.out, ← R8.out, ← R6.out, ← R4.out]; simp [List.append_assoc]
  have hl : r10.length = 24 := by rw [← e]; simp [le_length]
  rw [e]
  exact ⟨⟨a10, c10, rfl, (BytesAt.of_own O10.out hl).mono fun c o _ ⟨h, r⟩ => ⟨Nat.le_trans F1.out.size h, r⟩⟩, F1.out.trans F10.out⟩
theorem renc_calls (w : World) (c : Cmd) (hc : c.ok) : Calls Tryz.prog 23 #[vC c] w fun e w' => (∃ a cap, e = .returned (.tuple #[.slice a (encM c).1.length cap, .int .i64 ((encM c).2 : Nat)]) ∧ BytesAt (New w.heap.size) w' (.slice a (encM c).1.length cap) (encM c).1) ∧ Fr (fun _ _ => True) w w' := by
  cases h : c.fine with
  | false =>
    have e : encM c = ([], 1) := by unfold encM; rw [h]; rfl
    rw [e]
    exact (renc_bad w c h).mono fun e w' ⟨he, hf⟩ => ⟨⟨none, 0, he, BytesAt.nil _ _⟩, hf⟩
  | true =>
    have e : encM c = (cmdB c, 0) := by unfold encM; rw [h]; rfl
    rw [e]
    show Calls _ _ _ _ fun e w' => (∃ a cap, e = .returned (.tuple #[.slice a (cmdB c).length cap, .int .i64 ((0 : Nat) : Int)]) ∧ BytesAt (New w.heap.size) w' (.slice a (cmdB c).length cap) (cmdB c)) ∧ Fr (fun _ _ => True) w w'
    rw [cmdB_len]
    obtain ⟨op, cl, rg, md, e1, e2, e3, e4, g1, g2, g3, g4, g5⟩ := fine_parts h
    obtain ⟨cop, ccl, sq, crg, cmd, tk, tm⟩ := c
    dsimp only at e1 e2 e3 e4
    subst e1 e2 e3 e4
    have := renc_good w op cl sq rg md tk tm g1 g2 g3 g4 g5 hc.s hc.k hc.t
    unfold vC cmdB
    simp only [Int.toNat_natCast]
    exact this
end Go.Proofs.YtlolfcnfcgegdaaGreat
