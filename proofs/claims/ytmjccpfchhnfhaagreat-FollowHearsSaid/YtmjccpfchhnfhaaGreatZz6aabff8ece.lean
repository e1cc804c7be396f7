/- Texts of the proofs, part 32: what the functions that they reach do, walked; no conditions beyond those that each states. -/
import Derived.Test.YtmjccpfchhnfhaaGreatZzfe1184b9e4
set_option linter.unusedVariables false
set_option linter.unusedSimpArgs false
/- The document's Check, Short, Lists, Same, New (printed by hb.py). -/
namespace Go.Proofs.YtmjccpfchhnfhaaGreat
open Go.RowKit
set_option linter.unusedVariables false
set_option linter.unusedSimpArgs false
theorem dshort_calls (w : World) (b n most : Nat) (a : Option Addr) (c : Nat) :
  Calls Tryz.prog 48 #[.int .u64 (b : Nat), .slice a n c, .int .i64 (most : Nat)] w fun e w' => e = .returned (.bool (decide (b < 1152921504606846976) && decide (n ≤ most))) ∧ w = w' := by
 by_cases h1 : b < 1152921504606846976
 ·have g1 : decide (b < 1152921504606846976) = true := decide_eq_true h1
  have g1' : (b : Int) < 1152921504606846976 := by omega
  by_cases h2 : n ≤ most
  ·have g2 : decide (n ≤ most) = true := decide_eq_true h2
   have g2' : (n : Int) ≤ (most : Int) := by omega
   rw [g1, g2]
   clear h1 h2 g1 g2
   go_enter Tryz.func48, Tryz.ntmps48
   go_wp2
   go_ret
   exact ⟨rfl, rfl⟩
  ·have g2 : decide (n ≤ most) = false := decide_eq_false h2
   have g2' : ¬ (n : Int) ≤ (most : Int) := by omega
   rw [g1, g2]
   clear h1 h2 g1 g2
   go_enter Tryz.func48, Tryz.ntmps48
   go_wp2
   go_ret
   exact ⟨rfl, rfl⟩
 ·have g1 : decide (b < 1152921504606846976) = false := decide_eq_false h1
  have g1' : ¬ (b : Int) < 1152921504606846976 := by omega
  rw [g1]
  clear h1 g1
  go_enter Tryz.func48, Tryz.ntmps48
  go_wp2
  go_ret
  exact ⟨rfl, rfl⟩
def V16 (l : List Nat) : Value := .agg #[c16 l 0, c16 l 1, c16 l 2, c16 l 3, c16 l 4, c16 l 5, c16 l 6, c16 l 7, c16 l 8, c16 l 9, c16 l 10, c16 l 11, c16 l 12, c16 l 13, c16 l 14, c16 l 15]
theorem v16_get (l : List Nat) (i : Nat) (hi : i < 16) : (#[c16 l 0, c16 l 1, c16 l 2, c16 l 3, c16 l 4, c16 l 5, c16 l 6, c16 l 7, c16 l 8, c16 l 9, c16 l 10, c16 l 11, c16 l 12, c16 l 13, c16 l 14, c16 l 15] : Array Value)[i]? = some (c16 l i) := by
 match i, hi with
 | 0, _ => rfl
 | 1, _ => rfl
 | 2, _ => rfl
 | 3, _ => rfl
 | 4, _ => rfl
 | 5, _ => rfl
 | 6, _ => rfl
 | 7, _ => rfl
 | 8, _ => rfl
 | 9, _ => rfl
 | 10, _ => rfl
 | 11, _ => rfl
 | 12, _ => rfl
 | 13, _ => rfl
 | 14, _ => rfl
 | 15, _ => rfl
 | k + 16, h => omega
set_option maxRecDepth 100000 in
set_option maxHeartbeats 4000000 in
theorem dlists_true (w : World) (b c : Nat) (l : List Nat) (h : A16 w b l) :
  Calls Tryz.prog 61 #[.slice (some ⟨b, 0, none⟩) 16 c, V16 l] w fun e w' => e = .returned (.bool true) ∧ Fr (fun _ _ => True) w w' := by
 obtain ⟨W1, hW1⟩ : ∃ Y, w.alloc (.cells #[c16 l 0, c16 l 1, c16 l 2, c16 l 3, c16 l 4, c16 l 5, c16 l 6, c16 l 7, c16 l 8, c16 l 9, c16 l 10, c16 l 11, c16 l 12, c16 l 13, c16 l 14, c16 l 15] 101 (0, 0)) = Y := ⟨_, rfl⟩
 have F1 : Hid (Fr (fun _ _ => True) w W1) := hW1 ▸ (Fr.refl _ _).alloc _
 have t1 := hW1 ▸ heap_alloc_new w (.cells #[c16 l 0, c16 l 1, c16 l 2, c16 l 3, c16 l 4, c16 l 5, c16 l 6, c16 l 7, c16 l 8, c16 l 9, c16 l 10, c16 l 11, c16 l 12, c16 l 13, c16 l 14, c16 l 15] 101 (0, 0))
 have CE : Hid (∀ i, i < 16 → ∀ W, Fr (fun _ _ => True) W1 W → W.cell? ⟨b, i, none⟩ = some (.int .u64 (l.getD i 0 : Nat)) ∧ W.cell? ⟨w.heap.size, i, none⟩ = some (.int .u64 (l.getD i 0 : Nat))) := fun i hi W f => ⟨(h.fr (F1.out.trans f) fun _ _ => trivial).cell i hi, cell_mk (f.keep _ _ t1 trivial) (v16_get l i hi)⟩
 unfold V16
 clear h t1
 go_enter Tryz.func61, Tryz.ntmps61
 go_wp2
 try rw [hW1]
 clear hW1
 go_loopw [5] (fun v5 wr => ∃ k : Nat, v5 = .int .i64 (k : Nat) ∧ k ≤ 16 ∧ Hid (Fr (fun _ _ => True) W1 wr)) (fun v5 _ => 16 - (intOf v5).toNat)
 case atStart => exact ⟨0, rfl, Nat.zero_le _, Fr.refl _ _⟩
 case round =>
  obtain ⟨k, rfl, hk, HF3⟩ := hrel
  by_cases hlt : k < 16
  ·have hltI : (k : Int) < 16 := by omega
   obtain ⟨p1, p2⟩ := CE.out k hlt wr HF3.out
   obtain ⟨x, hx⟩ : ∃ x, l.getD k 0 = x := ⟨_, rfl⟩
   rw [hx] at p1 p2
   have gx : ((x : Int) != (x : Int)) = false := by simp
   clear hx
   go_wp2_with fail
   go_quiet (fail)
   have F6 : Hid (Fr (fun _ _ => True) W1 (wr.drewN nq)) := HF3.out.drewN nq
   clear p1 p2
   go_wp2
   go_roundw
   case rel => exact ⟨k + 1, by go_num, by omega, F6.out⟩
   case measure => simp [intOf]; omega
  ·have hge : ¬ (k : Int) < 16 := by omega
   go_wp2
   go_ret
   exact ⟨rfl, F1.out.trans HF3.out⟩
set_option maxRecDepth 100000 in
set_option maxHeartbeats 4000000 in
theorem dsame_true [Old] {X : Nat → Prop} {K : Nat → Obj → Prop} {w : World} {b : Nat} {n : Nd} {q : DV} (h : DNs X w b n q) (vy : Value) (hy : IntsAt K w vy n.yes) (hyl : n.yes.length ≤ maxLen) :
  Calls Tryz.prog 59 #[.int .i64 n.me, .int .i64 n.vote, .int .i64 n.role, .int .i64 n.ld, vy, .int .u64 (n.tm : Nat), .int .u64 (n.commit : Nat), .bool n.heard, .pointer (some ⟨b, 0, none⟩)] w fun e w' => e = .returned (.bool true) ∧ Fr (fun _ _ => True) w w' := by
 obtain ⟨x0, x1, x2, x3, x4, x5, x6, x7, x8, x9, x10, x11⟩ := h.cells (Fr.refl _ w)
 have NC : Hid (Calls Tryz.prog 22 #[vy, q.vy] w fun e w' => e = .returned (.bool true) ∧ Fr (fun _ _ => True) w w') := (nums_calls w vy q.vy n.yes n.yes hy h.ye hyl).mono fun e w' ⟨h1, h2⟩ => ⟨by rw [h1, decide_eq_true rfl], h2⟩
 obtain ⟨k0, h0⟩ : ∃ x, n.me = x := ⟨_, rfl⟩
 obtain ⟨k1, h1⟩ : ∃ x, n.vote = x := ⟨_, rfl⟩
 obtain ⟨k2, h2⟩ : ∃ x, n.role = x := ⟨_, rfl⟩
 obtain ⟨k3, h3⟩ : ∃ x, n.ld = x := ⟨_, rfl⟩
 obtain ⟨k6, h6⟩ : ∃ x, n.tm = x := ⟨_, rfl⟩
 obtain ⟨k7, h7⟩ : ∃ x, n.commit = x := ⟨_, rfl⟩
 obtain ⟨k11, h11⟩ : ∃ x, n.heard = x := ⟨_, rfl⟩
 obtain ⟨vq, hvq⟩ : ∃ x, q.vy = x := ⟨_, rfl⟩
 rw [h0] at x0 ⊢
 rw [h1] at x1 ⊢
 rw [h2] at x2 ⊢
 rw [h3] at x3 ⊢
 rw [h6] at x6 ⊢
 rw [h7] at x7 ⊢
 rw [h11] at x11 ⊢
 rw [hvq] at x5 NC
 have n0 : (k0 != k0) = false := by simp
 have n1 : (k1 != k1) = false := by simp
 have n2 : (k2 != k2) = false := by simp
 have n3 : (k3 != k3) = false := by simp
 have n6 : ((k6 : Int) == (k6 : Int)) = true := by simp
 have n7 : ((k7 : Int) == (k7 : Int)) = true := by simp
 have n11 : (k11 == k11) = true := by simp
 clear h hy hyl h0 h1 h2 h3 h6 h7 h11 hvq
 go_enter Tryz.func59, Tryz.ntmps59
 go_wp2_with fail
 (with_reducible refine NC.out.mono ?_)
 rintro e w4 ⟨rfl, f4⟩
 have F4 := Lib.hid f4
 clear NC f4 x0 x1 x2 x3 x4 x5 x6 x7 x8 x9 x10 x11
 go_wp2
 go_ret
 exact ⟨rfl, F4.out⟩
set_option maxRecDepth 100000 in
set_option maxHeartbeats 4000000 in
theorem dcheck_calls [Old] {X : Nat → Prop} (w : World) (m : MV) (hm : MsAt X w m) :
  Calls Tryz.prog 51 #[.agg (cM m)] w fun e w' => (∃ c : Int, e = .returned (.int .i64 c) ∧ (c = 0 → m.d.length ≤ 700 ∧ m.es.length ≤ 8)) ∧ Fr (fun _ _ => True) w w' := by
 obtain ⟨W1, hW1, F1, X1⟩ := mbox w m
 obtain ⟨v0, v1, v2, v3, v4, v5, v6, v7, v8, v9⟩ := mcells X1.out
 have HM := Lib.hid (hm.tt F1.out)
 obtain ⟨kd, hkd⟩ : ∃ x, m.kind = x := ⟨_, rfl⟩
 obtain ⟨sr, hsr⟩ : ∃ x, m.src = x := ⟨_, rfl⟩
 obtain ⟨ds, hds⟩ : ∃ x, m.dst = x := ⟨_, rfl⟩
 obtain ⟨dl, hdl⟩ : ∃ x, m.d.length = x := ⟨_, rfl⟩
 obtain ⟨el, hel⟩ : ∃ x, m.es.length = x := ⟨_, rfl⟩
 obtain ⟨ea, hea⟩ : ∃ x, m.ea = x := ⟨_, rfl⟩
 obtain ⟨ec, hec⟩ : ∃ x, m.ec = x := ⟨_, rfl⟩
 have RW := Lib.hid HM.out.es.row
 rw [hea, hec, hel] at RW
 rw [hkd] at v0
 rw [hsr] at v1
 rw [hds] at v2
 rw [hdl] at v8
 rw [hea, hec, hel] at v9
 have HE := Lib.hid (And.intro hdl hel)
 rw [hdl, hel]
 unfold cM at hW1 ⊢
 have NO : Hid (∀ (c : Int) (wx : World), c ≠ 0 → Fr (fun _ _ => True) w wx → (∃ c' : Int, Ending.returned (.int .i64 c) = .returned (.int .i64 c') ∧ (c' = 0 → dl ≤ 700 ∧ el ≤ 8)) ∧ Fr (fun _ _ => True) w wx) := fun c wx hc f => ⟨⟨c, rfl, fun e => absurd e hc⟩, f⟩
 have CE : Hid (∀ k (hk : k < m.es.length), 0 < el → ∃ be oe, ea = some ⟨be, oe, none⟩ ∧ ∀ W, Fr (fun _ _ => True) W1 W → W.cell? ⟨be, oe + k * 3 + 1, none⟩ = some (.int .i64 m.es[k].k) ∧ W.cell? ⟨be, oe + k * 3 + 2, none⟩ = some (.slice m.es[k].a m.es[k].d.length m.es[k].c)) := fun k hk h0 => by
  obtain ⟨a', c', e, hcc, h1⟩ := RW.out
  cases e
  rcases h1 with h1 | ⟨be, oe, o, ha, ho, hkk, hc⟩
  ·rw [h1] at hk; cases hk
  ·exact ⟨be, oe, ha, fun W f => ⟨f.cell (fun _ _ => trivial) (hc k hk 1 _ rfl), f.cell (fun _ _ => trivial) (hc k hk 2 _ rfl)⟩⟩
 have XX := Lib.hid X1.out
 have VV : Hid (∀ W, Fr (fun _ _ => True) W1 W → W.cell? ⟨w.heap.size, 9, none⟩ = some (.slice ea el ec)) := fun W f => f.cell (fun _ _ => trivial) v9
 clear hm hkd hsr hds hdl hel hea hec v3 v4 v5 v6 v7
 by_cases c0 : kd < 1
 ·go_enter Tryz.func51, Tryz.ntmps51
  go_wp2
  try rw [hW1]
  go_ret
  exact NO.out _ _ (by decide) F1.out
 ·skip
  by_cases c1 : 12 < kd
  ·go_enter Tryz.func51, Tryz.ntmps51
   go_wp2
   try rw [hW1]
   go_ret
   exact NO.out _ _ (by decide) F1.out
  ·skip
   by_cases c2 : sr < 0
   ·go_enter Tryz.func51, Tryz.ntmps51
    go_wp2
    try rw [hW1]
    go_ret
    exact NO.out _ _ (by decide) F1.out
   ·skip
    by_cases c3 : 15 < sr
    ·go_enter Tryz.func51, Tryz.ntmps51
     go_wp2
     try rw [hW1]
     go_ret
     exact NO.out _ _ (by decide) F1.out
    ·skip
     by_cases c4 : ds < 0
     ·go_enter Tryz.func51, Tryz.ntmps51
      go_wp2
      try rw [hW1]
      go_ret
      exact NO.out _ _ (by decide) F1.out
     ·skip
      by_cases c5 : 15 < ds
      ·go_enter Tryz.func51, Tryz.ntmps51
       go_wp2
       try rw [hW1]
       go_ret
       exact NO.out _ _ (by decide) F1.out
      ·skip
       by_cases c6 : (700 : Int) < (dl : Int)
       ·go_enter Tryz.func51, Tryz.ntmps51
        go_wp2
        try rw [hW1]
        go_ret
        exact NO.out _ _ (by decide) F1.out
       ·skip
        by_cases c7 : (8 : Int) < (el : Int)
        ·go_enter Tryz.func51, Tryz.ntmps51
         go_wp2
         try rw [hW1]
         go_ret
         exact NO.out _ _ (by decide) F1.out
        ·skip
         go_enter Tryz.func51, Tryz.ntmps51
         go_wp2
         try rw [hW1]
         clear hW1 v0 v1 v2 v8 c0 c1 c2 c3 c4 c5
         go_loopw [3] (fun v3 wr => ∃ k : Nat, v3 = .int .i64 (k : Nat) ∧ k ≤ el ∧ Hid (Fr (fun _ _ => True) W1 wr)) (fun v3 _ => el - (intOf v3).toNat)
         case atStart => exact ⟨0, rfl, Nat.zero_le _, Fr.refl _ _⟩
         case round =>
          obtain ⟨k, rfl, hk, HF3⟩ := hrel
          have u9 := VV.out wr HF3.out
          by_cases hlt : k < el
          ·have hltI : (k : Int) < (el : Int) := by omega
           obtain ⟨be, oe, rfl, CK⟩ := CE.out k (by have := HE.out.2; omega) (by omega)
           obtain ⟨-, p2⟩ := CK wr HF3.out
           obtain ⟨dk, hdk⟩ : ∃ x, (m.es[k]'(by have := HE.out.2; omega)).d.length = x := ⟨_, rfl⟩
           obtain ⟨da, hda⟩ : ∃ x, (m.es[k]'(by have := HE.out.2; omega)).a = x := ⟨_, rfl⟩
           obtain ⟨dc, hdc⟩ : ∃ x, (m.es[k]'(by have := HE.out.2; omega)).c = x := ⟨_, rfl⟩
           rw [hdk, hda, hdc] at p2
           clear hdk hda hdc CK
           by_cases h24 : (24 : Int) < (dk : Int)
           ·go_wp2
            go_ret
            exact NO.out _ _ (by decide) (F1.out.trans HF3.out)
           ·go_wp2
            go_roundw
            case rel => exact ⟨k + 1, by go_num, by omega, HF3.out⟩
            case measure => simp [intOf]; omega
          ·have hge : ¬ (k : Int) < (el : Int) := by omega
           obtain ⟨w5, rfl⟩ : ∃ Y, Y = wr := ⟨_, rfl⟩
           go_wp2
           clear u9
           go_loopw [4] (fun v4 wr => ∃ k : Nat, v4 = .int .i64 (k : Nat) ∧ k ≤ el ∧ Hid (Fr (fun _ _ => True) W1 wr)) (fun v4 _ => el - (intOf v4).toNat)
           case atStart => exact ⟨0, rfl, Nat.zero_le _, HF3.out⟩
           case round =>
            obtain ⟨j, rfl, hj, HF6⟩ := hrel
            have u9 := VV.out wr HF6.out
            by_cases hlj : j < el
            ·have hljI : (j : Int) < (el : Int) := by omega
             obtain ⟨be, oe, rfl, CK⟩ := CE.out j (by have := HE.out.2; omega) (by omega)
             obtain ⟨p1, -⟩ := CK wr HF6.out
             obtain ⟨kk, hkk⟩ : ∃ x, (m.es[j]'(by have := HE.out.2; omega)).k = x := ⟨_, rfl⟩
             rw [hkk] at p1
             clear hkk CK
             by_cases hk0 : kk < 0
             ·go_wp2
              go_ret
              exact NO.out _ _ (by decide) (F1.out.trans HF6.out)
             ·by_cases hk1 : 255 < kk
              ·go_wp2
               go_ret
               exact NO.out _ _ (by decide) (F1.out.trans HF6.out)
              ·go_wp2
               go_roundw
               case rel => exact ⟨j + 1, by go_num, by omega, HF6.out⟩
               case measure => simp [intOf]; omega
            ·have hge2 : ¬ (j : Int) < (el : Int) := by omega
             go_wp2
             go_ret
             exact ⟨⟨0, rfl, fun _ => by omega⟩, F1.out.trans HF6.out⟩
end Go.Proofs.YtmjccpfchhnfhaaGreat
/- The document's nodes: New (printed by hc.py). -/
namespace Go.Proofs.YtmjccpfchhnfhaaGreat
open Go.RowKit
set_option linter.unusedVariables false
set_option linter.unusedSimpArgs false
def DNew [Old] (X : Nat → Prop) (w : World) (me : Int) (conf : List Int) (e : Ending) (w' : World) : Prop := ∃ b q, e = .returned (.pointer (some ⟨b, 0, none⟩)) ∧ DNs (fun c => X c ∨ c = b) w' b (Nd.new me conf) q ∧ Fr (fun _ _ => True) w w' ∧ w.heap.size ≤ b
set_option maxRecDepth 100000 in
set_option maxHeartbeats 4000000 in
theorem dnew_calls [Old] {X : Nat → Prop} (w : World) (me : Int) (vc : Value) (conf : List Int) (h : IntsAt (RO X) w vc conf) (h0 : 0 < conf.length) (hl : conf.length ≤ 1000) (hX : ∀ c, X c → c < w.heap.size) (hO : ∀ c, Old.o c → c < w.heap.size) :
  Calls Tryz.prog 50 #[.int .i64 me, vc] w fun e w' => DNew X w me conf e w' := by
 obtain ⟨ac, cc, rfl⟩ := h.form
 have HC := Lib.hid h
 have HH := Lib.hid (And.intro h0 (And.intro hl (And.intro hX hO)))
 clear h h0 hl hX hO
 obtain ⟨W1, hW1⟩ : ∃ Y, w.alloc (.cells #[] 3) = Y := ⟨_, rfl⟩
 have F1 : Hid (Fr (fun _ _ => True) w W1) := hW1 ▸ (Fr.refl _ _).alloc _
 have OW : Hid (RowI W1 w.heap.size (.slice (some ⟨w.heap.size, 0, none⟩) 0 0) []) := hW1 ▸ World.ownsRow_lit w #[] 0 (Nat.le_refl _) (by simp) rfl
 have HC1 := Lib.hid (HC.out.tt F1.out)
 obtain ⟨n, hn⟩ : ∃ n, conf.length = n := ⟨_, rfl⟩
 have HN := Lib.hid hn
 have hn2 : conf.length ≤ 2000000 := by have := HH.out.2.1; omega
 rw [hn]
 rw [hn] at HC1
 go_enter Tryz.func50, Tryz.ntmps50
 go_wp2_with (at_builtin; (try rw [hW1]); refine wpList_append_ints w W1 F1 rfl _ _ rfl (.slice (some ⟨w.heap.size, 0, none⟩) 0 0) [] rfl OW (.slice ac n cc) conf rfl HC1 HH.out.1 conf rfl hn2 ?_)
 intro ga gc W2 R2 F2
 replace R2 : Hid (RowI W2 w.heap.size (.slice ga n gc) conf) := by first | exact R2 | (rw [← hn]; exact R2)
 try rw [hn]
 have hbd : ∀ W : World, (Instr.build 103 #[(0, .int .i64 me), (1, .int .i64 (-1)), (3, .int .i64 (-1)), (4, .slice ga n gc)]).run Tryz.prog W = .ok (.agg #[.int .i64 me, .int .i64 (-1), .int .i64 0, .int .i64 (-1), .slice ga n gc, .slice none 0 0, .int .u64 0, .int .u64 0, .int .u64 0, .int .u64 0, .slice none 0 0, .bool false, .int .u64 0, .int .u64 0, .int .u64 0, .int .u64 0, .int .u64 0, .int .u64 0, .int .u64 0, .int .u64 0, .int .u64 0, .int .u64 0, .int .u64 0, .int .u64 0, .int .u64 0, .int .u64 0, .int .u64 0, .int .u64 0, .int .u64 0, .int .u64 0, .int .u64 0, .int .u64 0, .int .u64 0, .int .u64 0, .int .u64 0, .int .u64 0, .int .u64 0, .int .u64 0, .int .u64 0, .int .u64 0, .int .u64 0, .int .u64 0, .int .u64 0, .int .u64 0]) W := fun W => run_build W _ _ _ (by kernel_rfl)
 obtain ⟨W3, hW3⟩ : ∃ Y, W2.alloc (.cells #[.int .i64 me, .int .i64 (-1), .int .i64 0, .int .i64 (-1), .slice ga n gc, .slice none 0 0, .int .u64 0, .int .u64 0, .int .u64 0, .int .u64 0, .slice none 0 0, .bool false, .int .u64 0, .int .u64 0, .int .u64 0, .int .u64 0, .int .u64 0, .int .u64 0, .int .u64 0, .int .u64 0, .int .u64 0, .int .u64 0, .int .u64 0, .int .u64 0, .int .u64 0, .int .u64 0, .int .u64 0, .int .u64 0, .int .u64 0, .int .u64 0, .int .u64 0, .int .u64 0, .int .u64 0, .int .u64 0, .int .u64 0, .int .u64 0, .int .u64 0, .int .u64 0, .int .u64 0, .int .u64 0, .int .u64 0, .int .u64 0, .int .u64 0, .int .u64 0] 103 (0, 0)) = Y := ⟨_, rfl⟩
 have t3 : W3.heap[W2.heap.size]? = some (.cells (W44 (Nd.new me conf) ⟨.slice ga n gc, .slice none 0 0, .slice none 0 0, []⟩) 103 (0, 0)) := hW3 ▸ heap_alloc_new W2 _
 have f3 : Fr (fun _ _ => True) W2 W3 := hW3 ▸ (Fr.refl _ _).alloc _
 have S2 : w.heap.size ≤ W2.heap.size := F2.out.size
 have D3 : Hid (DNs (fun c => X c ∨ c = W2.heap.size) W3 W2.heap.size (Nd.new me conf) ⟨.slice ga n gc, .slice none 0 0, .slice none 0 0, []⟩) := by
  refine ⟨t3, ?_, IntsAt.nil' _ _, EsAt.nil _ _, rfl, rfl, rfl, .inr rfl, fun c hc => ?_, fun c hc => Nat.lt_of_lt_of_le (HH.out.2.2.2 c hc) S2⟩
  ·have h9 : RowI W3 w.heap.size (.slice ga n gc) conf := R2.out.tt f3
   refine h9.intsK.mono3 fun c o ho hc => ⟨fun hx => ?_, .inr ?_⟩
   ·obtain ⟨hB, cs, e⟩ := hc
    rcases hx with hx | hx
    ·have := HH.out.2.2.1 c hx; omega
    ·subst hx
     rw [t3] at ho
     subst e
     cases ho
   ·obtain ⟨hB, cs, e⟩ := hc
    exact ⟨cs, _, _, e, by decide⟩
  ·have := lt_of_some t3
   rcases hc with hc | hc
   ·have := HH.out.2.2.1 c hc; omega
   ·omega
 have F3 := Lib.hid (F2.out.trans f3)
 clear t3 f3 S2 hn hn2
 go_wp2
 try rw [hW3]
 go_ret
 exact ⟨_, _, rfl, D3.out, F3.out, F2.out.size⟩
end Go.Proofs.YtmjccpfchhnfhaaGreat
/- Law 12: two nodes that are the same (printed by hd.py). -/
namespace Go.Proofs.YtmjccpfchhnfhaaGreat
open Go.RowKit
set_option linter.unusedVariables false
set_option linter.unusedSimpArgs false
set_option maxRecDepth 100000 in
set_option maxHeartbeats 8000000 in
theorem same12_true [Old] {X P X2 : Nat → Prop} {w : World} {b d : Nat} {n : Nd} {q : NV} {q2 : DV} (h : PNs X P w b n q) (k : DNs X2 w d n q2) (hyl : n.yes.length ≤ maxLen) (hle : n.log.es.length ≤ 1000000) :
  Calls Tryz.prog 13 #[.pointer (some ⟨b, 0, none⟩), .pointer (some ⟨d, 0, none⟩)] w fun e w' => e = .returned (.bool true) ∧ Fr (fun _ _ => True) w w' := by
 obtain ⟨vy, hvy⟩ : ∃ x, q.vy = x := ⟨_, rfl⟩
 obtain ⟨ve, hve⟩ : ∃ x, q.ve = x := ⟨_, rfl⟩
 obtain ⟨bn, hbn⟩ : ∃ x, q.bn = x := ⟨_, rfl⟩
 obtain ⟨cn, hcn⟩ : ∃ x, q.cn = x := ⟨_, rfl⟩
 obtain ⟨bm, hbm⟩ : ∃ x, q.bm = x := ⟨_, rfl⟩
 obtain ⟨cm, hcm⟩ : ∃ x, q.cm = x := ⟨_, rfl⟩
 obtain ⟨bs, hbs⟩ : ∃ x, n.log.base = x := ⟨_, rfl⟩
 obtain ⟨bt, hbt⟩ : ∃ x, n.log.bt = x := ⟨_, rfl⟩
 obtain ⟨ae, le, ce, hv2, -, -, hes, -⟩ := k.lg
 have CX : Hid (∀ W, Fr (fun _ _ => True) w W → W.cell? ⟨b, 0, none⟩ = some (.int .i64 n.me) ∧ W.cell? ⟨b, 1, none⟩ = some (.int .i64 n.vote) ∧ W.cell? ⟨b, 2, none⟩ = some (.int .i64 n.role) ∧ W.cell? ⟨b, 3, none⟩ = some (.int .i64 n.ld) ∧ W.cell? ⟨b, 4, none⟩ = some q.vc ∧ W.cell? ⟨b, 5, none⟩ = some vy ∧ W.cell? ⟨b, 6, none⟩ = some (.int .u64 (n.tm : Nat)) ∧ W.cell? ⟨b, 7, none⟩ = some (.int .u64 (n.commit : Nat)) ∧ W.cell? ⟨b, 8, none⟩ = some (.int .u64 (bs : Nat)) ∧ W.cell? ⟨b, 9, none⟩ = some (.int .u64 (bt : Nat)) ∧ W.cell? ⟨b, 10, none⟩ = some ve ∧ W.cell? ⟨b, 11, none⟩ = some (.bool n.heard) ∧ W.cell? ⟨b, 12, none⟩ = some (.slice (some ⟨bn, 0, none⟩) 16 cn) ∧ W.cell? ⟨b, 13, none⟩ = some (.slice (some ⟨bm, 0, none⟩) 16 cm)) := fun W f => by
  have := h.cells f
  rw [hvy, hve, hbn, hcn, hbm, hcm, hbs, hbt] at this
  exact this
 have CY : Hid (∀ W, Fr (fun _ _ => True) w W → W.cell? ⟨d, 8, none⟩ = some (.int .u64 (bs : Nat)) ∧ W.cell? ⟨d, 9, none⟩ = some (.int .u64 (bt : Nat)) ∧ W.cell? ⟨d, 10, none⟩ = some (.slice ae le ce) ∧ True) := fun W f => by
  obtain ⟨x0, x1, x2, x3, x4, x5, x6, x7, x8, x9, x10, x11⟩ := k.cells f
  exact ⟨by rw [x8, hbs], by rw [x9, hbt], by rw [x10, hv2], trivial⟩
 have CZ : Hid (∀ W, Fr (fun _ _ => True) w W → (∀ i, i < 16 → W.cell? ⟨d, 12 + i, none⟩ = some (c16 n.next i)) ∧ ∀ i, i < 16 → W.cell? ⟨d, 28 + i, none⟩ = some (c16 n.mat i)) := fun W f => ⟨fun i hi => k.nxt f i hi, fun i hi => k.mtc f i hi⟩
 have SC : Hid (∀ W, Fr (fun _ _ => True) w W → Calls Tryz.prog 59 #[.int .i64 n.me, .int .i64 n.vote, .int .i64 n.role, .int .i64 n.ld, vy, .int .u64 (n.tm : Nat), .int .u64 (n.commit : Nat), .bool n.heard, .pointer (some ⟨d, 0, none⟩)] W fun e w' => e = .returned (.bool true) ∧ Fr (fun _ _ => True) W w') := fun W f => dsame_true (k.tt f) vy (hvy ▸ (h.ye.tt f).ints) hyl
 have LC : Hid (∀ W, Fr (fun _ _ => True) w W → Calls Tryz.prog 60 #[.int .u64 (bs : Nat), .int .u64 (bt : Nat), ve, .agg #[.int .u64 (bs : Nat), .int .u64 (bt : Nat), .slice ae le ce]] W fun e w' => e = .returned (.bool true) ∧ Fr (fun _ _ => True) W w') := fun W f => by
  have h1 := h.ev.tt f
  rw [hve] at h1
  have e : q.es.map EV.en = q2.es.map EV.en := h.ee.symm.trans k.ee
  refine (lsame_calls W bs bt bs bt ve ae le ce q.es q2.es h1.row (hes W f).row h1.dat (fun x hx => ((hes W f).dat x hx).1) (by have := congrArg List.length h.ee; rw [List.length_map] at this; omega)).mono fun e2 w' hh => ⟨?_, ?_⟩
  ·rw [hh.1, e]; simp
  ·exact hh.2
 have NX : Hid (∀ W, Fr (fun _ _ => True) w W → Calls Tryz.prog 61 #[.slice (some ⟨bn, 0, none⟩) 16 cn, V16 n.next] W fun e w' => e = .returned (.bool true) ∧ Fr (fun _ _ => True) W w') := fun W f => dlists_true W bn cn n.next (hbn ▸ h.nx.fr f fun _ _ => trivial)
 have MT : Hid (∀ W, Fr (fun _ _ => True) w W → Calls Tryz.prog 61 #[.slice (some ⟨bm, 0, none⟩) 16 cm, V16 n.mat] W fun e w' => e = .returned (.bool true) ∧ Fr (fun _ _ => True) W w') := fun W f => dlists_true W bm cm n.mat (hbm ▸ h.mt.fr f fun _ _ => trivial)
 have UD : Hid (Fr (fun _ _ => True) w w.drew) := (Fr.refl _ _).drew
 clear h k hyl hle hvy hve hbn hcn hbm hcm hbs hbt hv2 hes
 go_enter Tryz.func13, Tryz.ntmps13
 go_wp2_with fail
 refine wp_region_cf (K := fun _ _ => True) (by kernel_rfl) [(7, 0), (8, 1), (9, 2), (10, 3), (11, 4), (12, 5), (13, 6), (14, 7), (15, 8), (16, 9), (17, 10), (18, 11), (19, 12), (20, 13), (21, 14), (22, 15), (23, 16), (24, 17), (25, 18), (26, 19), (27, 20), (28, 21), (29, 22), (30, 23), (31, 24), (32, 25), (33, 26), (34, 27), (35, 28), (36, 29), (37, 30), (38, 31), (39, 32), (40, 33), (5, 34)] [(0, []), (1, [0]), (2, [1]), (3, [2]), (4, []), (5, [4]), (6, [5]), (7, [6]), (8, []), (9, [8]), (10, [9]), (11, [10]), (12, []), (13, [12]), (14, [13]), (15, [14]), (16, []), (17, [16]), (18, [17]), (19, [18]), (20, []), (21, [20]), (22, [21]), (23, [22]), (24, []), (25, [24]), (26, [25]), (27, [26]), (28, []), (29, [28]), (30, [29]), (31, [30]), (32, []), (33, [3, 7, 11, 15, 19, 23, 27, 31, 32])] (ckR [(0, .pointer (some ⟨b, 0, none⟩)), (1, .pointer (some ⟨b, 0, none⟩)), (2, .pointer (some ⟨b, 0, none⟩)), (3, .int .i64 n.me), (4, .pointer (some ⟨b, 0, none⟩)), (5, .pointer (some ⟨b, 0, none⟩)), (6, .pointer (some ⟨b, 1, none⟩)), (7, .int .i64 n.vote), (8, .pointer (some ⟨b, 0, none⟩)), (9, .pointer (some ⟨b, 0, none⟩)), (10, .pointer (some ⟨b, 2, none⟩)), (11, .int .i64 n.role), (12, .pointer (some ⟨b, 0, none⟩)), (13, .pointer (some ⟨b, 0, none⟩)), (14, .pointer (some ⟨b, 3, none⟩)), (15, .int .i64 n.ld), (16, .pointer (some ⟨b, 0, none⟩)), (17, .pointer (some ⟨b, 0, none⟩)), (18, .pointer (some ⟨b, 5, none⟩)), (19, vy), (20, .pointer (some ⟨b, 0, none⟩)), (21, .pointer (some ⟨b, 0, none⟩)), (22, .pointer (some ⟨b, 6, none⟩)), (23, .int .u64 (n.tm : Nat)), (24, .pointer (some ⟨b, 0, none⟩)), (25, .pointer (some ⟨b, 0, none⟩)), (26, .pointer (some ⟨b, 7, none⟩)), (27, .int .u64 (n.commit : Nat)), (28, .pointer (some ⟨b, 0, none⟩)), (29, .pointer (some ⟨b, 0, none⟩)), (30, .pointer (some ⟨b, 11, none⟩)), (31, .bool n.heard), (32, .pointer (some ⟨d, 0, none⟩)), (33, .bool true)] [] 34 0) 1 (by kernel_rfl) (by kernel_rfl) (by kernel_rfl) rfl ?cfall ?cfend
 case cfall =>
  iterate 33
   refine CfAll.kk rfl rfl rfl (fun xs W hF hE K' hK => ?_) ?_
   ·have HF := Lib.hid hF
    clear hF
    simp only [ckEqs, ckLook, Nat.reduceBEq] at hE
    simp only [fillA, fillL, sA, sB, sC, Act.put, hE] at hK ⊢
    clear hE
    obtain ⟨x0, x1, x2, x3, x4, x5, x6, x7, x8, x9, x10, x11, x12, x13⟩ := CX.out W (UD.out.trans HF.out)
    (try simp only [gA, gB, gC])
    go_simp
    exact hK.out _ rfl
  refine CfAll.k rfl rfl (fun xs W hF hA hE K' hK => ?_) ?_
  ·have HF := Lib.hid hF
   clear hA hF
   simp only [ckEqs, ckLook, Nat.reduceBEq] at hE
   simp only [fillA, fillL, sA, sB, sC, Act.put, hE] at hK ⊢
   clear hE
   obtain ⟨x0, x1, x2, x3, x4, x5, x6, x7, x8, x9, x10, x11, x12, x13⟩ := CX.out W (UD.out.trans HF.out)
   have CA := Lib.hid (SC.out W (UD.out.trans HF.out))
   (try simp only [gA, gB, gC])
   go_simp
   (with_reducible refine CA.out.mono ?_)
   rintro e w8 ⟨rfl, f8⟩
   exact hK.out _ _ _ rfl f8 rfl
  exact CfAll.nil
 case cfend =>
  intro xs W hF hA
  have HF := Lib.hid hF
  have hE := ckEnd rfl hA
  clear hA hF
  simp only [List.map_cons, List.map_nil, ckEqs, ckLook, Nat.reduceBEq] at hE
  simp only [fillA, fillL, sA, sB, sC, hE]
  clear hE
  have FA := Lib.hid (UD.out.trans HF.out)
  refine wpAny_next 34 (by kernel_rfl) rfl fun K' hK => ?_
  (try simp only [gA, gB, gC])
  go_simp
  refine hK.out _ _ ?_
  clear hK K'
  refine wpAny_fin (by kernel_rfl) ?_
  obtain ⟨WA, hWA⟩ : ∃ Y, W = Y := ⟨_, rfl⟩
  rw [hWA] at HF FA ⊢
  clear hWA SC
  have UE : Hid (Fr (fun _ _ => True) WA WA.drew) := (Fr.refl _ _).drew
  go_wp2_with fail
  refine wp_region_cf (K := fun _ _ => True) (by kernel_rfl) [(41, 0), (42, 1), (43, 2), (44, 3), (45, 4), (46, 5), (47, 6), (48, 7), (49, 8), (50, 9), (51, 10), (52, 11), (53, 12), (54, 13), (55, 14), (56, 15), (57, 16), (58, 17), (59, 18), (60, 19), (6, 20)] [(0, []), (1, [0]), (2, [1]), (3, [2]), (4, [3]), (5, []), (6, [5]), (7, [6]), (8, [7]), (9, [8]), (10, []), (11, [10]), (12, [11]), (13, [12]), (14, [13]), (15, []), (16, [15]), (17, [16]), (18, [17]), (19, [4, 9, 14, 18])] (ckR [(0, .pointer (some ⟨b, 0, none⟩)), (1, .pointer (some ⟨b, 0, none⟩)), (2, .pointer (some ⟨b, 8, none⟩)), (3, .pointer (some ⟨b, 8, none⟩)), (4, .int .u64 (bs : Nat)), (5, .pointer (some ⟨b, 0, none⟩)), (6, .pointer (some ⟨b, 0, none⟩)), (7, .pointer (some ⟨b, 8, none⟩)), (8, .pointer (some ⟨b, 9, none⟩)), (9, .int .u64 (bt : Nat)), (10, .pointer (some ⟨b, 0, none⟩)), (11, .pointer (some ⟨b, 0, none⟩)), (12, .pointer (some ⟨b, 8, none⟩)), (13, .pointer (some ⟨b, 10, none⟩)), (14, ve), (15, .pointer (some ⟨d, 0, none⟩)), (16, .pointer (some ⟨d, 0, none⟩)), (17, .pointer (some ⟨d, 8, none⟩)), (18, .agg #[.int .u64 (bs : Nat), .int .u64 (bt : Nat), .slice ae le ce]), (19, .bool true)] [] 20 0) 1 (by kernel_rfl) (by kernel_rfl) (by kernel_rfl) rfl ?cfall ?cfend
  case cfall =>
   iterate 19
    refine CfAll.kk rfl rfl rfl (fun xs W hF hE K' hK => ?_) ?_
    ·have HF := Lib.hid hF
     clear hF
     simp only [ckEqs, ckLook, Nat.reduceBEq] at hE
     simp only [fillA, fillL, sA, sB, sC, Act.put, hE] at hK ⊢
     clear hE
     obtain ⟨x0, x1, x2, x3, x4, x5, x6, x7, x8, x9, x10, x11, x12, x13⟩ := CX.out W (FA.out.trans (UE.out.trans HF.out))
     obtain ⟨y8, y9, y10, z⟩ := CY.out W (FA.out.trans (UE.out.trans HF.out))
     (try simp only [gA, gB, gC])
     go_simp
     exact hK.out _ rfl
   refine CfAll.k rfl rfl (fun xs W hF hA hE K' hK => ?_) ?_
   ·have HF := Lib.hid hF
    clear hA hF
    simp only [ckEqs, ckLook, Nat.reduceBEq] at hE
    simp only [fillA, fillL, sA, sB, sC, Act.put, hE] at hK ⊢
    clear hE
    obtain ⟨x0, x1, x2, x3, x4, x5, x6, x7, x8, x9, x10, x11, x12, x13⟩ := CX.out W (FA.out.trans (UE.out.trans HF.out))
    obtain ⟨y8, y9, y10, z⟩ := CY.out W (FA.out.trans (UE.out.trans HF.out))
    have CA := Lib.hid (LC.out W (FA.out.trans (UE.out.trans HF.out)))
    (try simp only [gA, gB, gC])
    go_simp
    (with_reducible refine CA.out.mono ?_)
    rintro e w8 ⟨rfl, f8⟩
    exact hK.out _ _ _ rfl f8 rfl
   exact CfAll.nil
  case cfend =>
   intro xs W hF hA
   have HF := Lib.hid hF
   have hE := ckEnd rfl hA
   clear hA hF
   simp only [List.map_cons, List.map_nil, ckEqs, ckLook, Nat.reduceBEq] at hE
   simp only [fillA, fillL, sA, sB, sC, hE]
   clear hE
   have FB := Lib.hid (FA.out.trans (UE.out.trans HF.out))
   refine wpAny_next 20 (by kernel_rfl) rfl fun K' hK => ?_
   (try simp only [gA, gB, gC])
   go_simp
   refine hK.out _ _ ?_
   clear hK K'
   refine wpAny_fin (by kernel_rfl) ?_
   obtain ⟨WB, hWB⟩ : ∃ Y, W = Y := ⟨_, rfl⟩
   rw [hWB] at HF FB ⊢
   clear hWB LC
   have UG : Hid (Fr (fun _ _ => True) WB WB.drew) := (Fr.refl _ _).drew
   go_wp2_with fail
   refine wp_region_cf (K := fun _ _ => True) (by kernel_rfl) [(61, 0), (62, 1), (63, 2), (64, 3), (65, 4), (66, 5), (67, 6), (68, 7), (69, 8), (70, 9), (71, 10), (72, 11), (73, 12), (74, 13), (75, 14), (76, 15), (77, 16), (78, 17), (79, 18), (80, 19), (81, 20), (82, 21), (83, 22), (84, 23), (85, 24), (86, 25), (4, 26)] [(0, []), (1, [0]), (2, [1]), (3, [1, 2]), (4, [3]), (5, [4]), (6, [4, 5]), (7, [4, 6]), (8, [4, 7]), (9, [4]), (10, [4, 9]), (11, [4, 10]), (14, [4, 13]), (15, [14]), (16, [15]), (17, [15, 16]), (18, [15, 17]), (19, [15, 18]), (20, [15]), (21, [15, 20]), (22, [15, 21]), (25, [15, 24]), (12, [4, 11]), (13, [4, 8, 12]), (23, [15, 22]), (24, [15, 19, 23])] (ckR [(0, .bool true), (1, .bool true), (2, .bool true), (3, .bool true), (4, .bool true), (5, .pointer (some ⟨b, 0, none⟩)), (6, .pointer (some ⟨b, 0, none⟩)), (7, .pointer (some ⟨b, 12, none⟩)), (8, .slice (some ⟨bn, 0, none⟩) 16 cn), (9, .pointer (some ⟨d, 0, none⟩)), (10, .pointer (some ⟨d, 0, none⟩)), (11, .pointer (some ⟨d, 12, none⟩)), (12, V16 n.next), (13, .bool true), (14, .bool true), (15, .bool true), (16, .pointer (some ⟨b, 0, none⟩)), (17, .pointer (some ⟨b, 0, none⟩)), (18, .pointer (some ⟨b, 13, none⟩)), (19, .slice (some ⟨bm, 0, none⟩) 16 cm), (20, .pointer (some ⟨d, 0, none⟩)), (21, .pointer (some ⟨d, 0, none⟩)), (22, .pointer (some ⟨d, 28, none⟩)), (23, V16 n.mat), (24, .bool true), (25, .bool true)] [] 26 0) 1 (by kernel_rfl) (by kernel_rfl) (by kernel_rfl) rfl ?cfall ?cfend
   case cfall =>
    iterate 22
     refine CfAll.kk rfl rfl rfl (fun xs W hF hE K' hK => ?_) ?_
     ·have HF := Lib.hid hF
      clear hF
      simp only [ckEqs, ckLook, Nat.reduceBEq] at hE
      simp only [fillA, fillL, sA, sB, sC, Act.put, hE] at hK ⊢
      clear hE
      obtain ⟨x0, x1, x2, x3, x4, x5, x6, x7, x8, x9, x10, x11, x12, x13⟩ := CX.out W (FB.out.trans (UG.out.trans HF.out))
      (try simp only [gA, gB, gC])
      go_simp
      exact hK.out _ rfl
    refine CfAll.k rfl rfl (fun xs W hF hA hE K' hK => ?_) ?_
    ·have HF := Lib.hid hF
     clear hA hF
     simp only [ckEqs, ckLook, Nat.reduceBEq] at hE
     simp only [fillA, fillL, sA, sB, sC, Act.put, hE] at hK ⊢
     clear hE
     have hz := CZ.out W (FB.out.trans (UG.out.trans HF.out))
     have v0 := hz.1 0 (by decide)
     have v1 := hz.1 1 (by decide)
     have v2 := hz.1 2 (by decide)
     have v3 := hz.1 3 (by decide)
     have v4 := hz.1 4 (by decide)
     have v5 := hz.1 5 (by decide)
     have v6 := hz.1 6 (by decide)
     have v7 := hz.1 7 (by decide)
     have v8 := hz.1 8 (by decide)
     have v9 := hz.1 9 (by decide)
     have v10 := hz.1 10 (by decide)
     have v11 := hz.1 11 (by decide)
     have v12 := hz.1 12 (by decide)
     have v13 := hz.1 13 (by decide)
     have v14 := hz.1 14 (by decide)
     have v15 := hz.1 15 (by decide)
     clear hz
     (try simp only [gA, gB, gC])
     go_simp
     exact hK.out _ _ _ rfl (Fr.refl _ _) rfl
    refine CfAll.k rfl rfl (fun xs W hF hA hE K' hK => ?_) ?_
    ·have HF := Lib.hid hF
     clear hA hF
     simp only [ckEqs, ckLook, Nat.reduceBEq] at hE
     simp only [fillA, fillL, sA, sB, sC, Act.put, hE] at hK ⊢
     clear hE
     obtain ⟨x0, x1, x2, x3, x4, x5, x6, x7, x8, x9, x10, x11, x12, x13⟩ := CX.out W (FB.out.trans (UG.out.trans HF.out))
     have CA := Lib.hid (NX.out W (FB.out.trans (UG.out.trans HF.out)))
     (try simp only [gA, gB, gC])
     go_simp
     (with_reducible refine CA.out.mono ?_)
     rintro e w8 ⟨rfl, f8⟩
     exact hK.out _ _ _ rfl f8 rfl
    refine CfAll.k rfl rfl (fun xs W hF hA hE K' hK => ?_) ?_
    ·have HF := Lib.hid hF
     clear hA hF
     simp only [ckEqs, ckLook, Nat.reduceBEq] at hE
     simp only [fillA, fillL, sA, sB, sC, Act.put, hE] at hK ⊢
     clear hE
     have hz := CZ.out W (FB.out.trans (UG.out.trans HF.out))
     have v0 := hz.2 0 (by decide)
     have v1 := hz.2 1 (by decide)
     have v2 := hz.2 2 (by decide)
     have v3 := hz.2 3 (by decide)
     have v4 := hz.2 4 (by decide)
     have v5 := hz.2 5 (by decide)
     have v6 := hz.2 6 (by decide)
     have v7 := hz.2 7 (by decide)
     have v8 := hz.2 8 (by decide)
     have v9 := hz.2 9 (by decide)
     have v10 := hz.2 10 (by decide)
     have v11 := hz.2 11 (by decide)
     have v12 := hz.2 12 (by decide)
     have v13 := hz.2 13 (by decide)
     have v14 := hz.2 14 (by decide)
     have v15 := hz.2 15 (by decide)
     clear hz
     (try simp only [gA, gB, gC])
     go_simp
     exact hK.out _ _ _ rfl (Fr.refl _ _) rfl
    refine CfAll.k rfl rfl (fun xs W hF hA hE K' hK => ?_) ?_
    ·have HF := Lib.hid hF
     clear hA hF
     simp only [ckEqs, ckLook, Nat.reduceBEq] at hE
     simp only [fillA, fillL, sA, sB, sC, Act.put, hE] at hK ⊢
     clear hE
     obtain ⟨x0, x1, x2, x3, x4, x5, x6, x7, x8, x9, x10, x11, x12, x13⟩ := CX.out W (FB.out.trans (UG.out.trans HF.out))
     have CA := Lib.hid (MT.out W (FB.out.trans (UG.out.trans HF.out)))
     (try simp only [gA, gB, gC])
     go_simp
     (with_reducible refine CA.out.mono ?_)
     rintro e w8 ⟨rfl, f8⟩
     exact hK.out _ _ _ rfl f8 rfl
    exact CfAll.nil
   case cfend =>
    intro xs W hF hA
    have HF := Lib.hid hF
    have hE := ckEnd rfl hA
    clear hA hF
    simp only [List.map_cons, List.map_nil, ckEqs, ckLook, Nat.reduceBEq] at hE
    simp only [fillA, fillL, sA, sB, sC, hE]
    clear hE
    have FC := Lib.hid (FB.out.trans (UG.out.trans HF.out))
    refine wpAny_next 26 (by kernel_rfl) rfl fun K' hK => ?_
    (try simp only [gA, gB, gC])
    go_simp
    refine hK.out _ _ ?_
    clear hK K'
    refine wpAny_fin (by kernel_rfl) ?_
    go_wp2
    go_ret
    exact ⟨rfl, FC.out⟩
end Go.Proofs.YtmjccpfchhnfhaaGreat
/- Law 12: both, where there is none (printed by he.py). -/
namespace Go.Proofs.YtmjccpfchhnfhaaGreat
open Go.RowKit
set_option linter.unusedVariables false
set_option linter.unusedSimpArgs false
structure StV where
 me : Int
 role : Int
 vote : Int
 ld : Int
 ac : Option Addr
 cc : Nat
 conf : List Int
 tm : Nat
 commit : Nat
 base : Nat
 bt : Nat
 ae : Option Addr
 ce : Nat
 es : List EV
 an : Option Addr
 cn : Nat
 next : List Nat
 am : Option Addr
 cm : Nat
 mat : List Nat
def cS (s : StV) : Array Value := #[.int .i64 s.me, .int .i64 s.role, .int .i64 s.vote, .int .i64 s.ld, .slice s.ac s.conf.length s.cc, .int .u64 (s.tm : Nat), .int .u64 (s.commit : Nat), .int .u64 (s.base : Nat), .int .u64 (s.bt : Nat), .slice s.ae s.es.length s.ce, .slice s.an s.next.length s.cn, .slice s.am s.mat.length s.cm]
theorem sbox (w : World) (s : StV) : ∃ W, w.alloc (.cells (cS s) 29 (0, 0)) = W ∧ Hid (Fr (fun _ _ => True) w W) ∧ Hid (W.heap[w.heap.size]? = some (.cells (cS s) 29 (0, 0))) := ⟨_, rfl, (Fr.refl _ _).alloc _, heap_alloc_new w _⟩
theorem scells {W : World} {g : Nat} {s : StV} (h : W.heap[g]? = some (.cells (cS s) 29 (0, 0))) : W.cell? ⟨g, 0, none⟩ = some (.int .i64 s.me) ∧ W.cell? ⟨g, 1, none⟩ = some (.int .i64 s.role) ∧ W.cell? ⟨g, 2, none⟩ = some (.int .i64 s.vote) ∧ W.cell? ⟨g, 3, none⟩ = some (.int .i64 s.ld) ∧ W.cell? ⟨g, 4, none⟩ = some (.slice s.ac s.conf.length s.cc) ∧ W.cell? ⟨g, 5, none⟩ = some (.int .u64 (s.tm : Nat)) ∧ W.cell? ⟨g, 6, none⟩ = some (.int .u64 (s.commit : Nat)) ∧ W.cell? ⟨g, 7, none⟩ = some (.int .u64 (s.base : Nat)) ∧ W.cell? ⟨g, 8, none⟩ = some (.int .u64 (s.bt : Nat)) ∧ W.cell? ⟨g, 9, none⟩ = some (.slice s.ae s.es.length s.ce) ∧ W.cell? ⟨g, 10, none⟩ = some (.slice s.an s.next.length s.cn) ∧ W.cell? ⟨g, 11, none⟩ = some (.slice s.am s.mat.length s.cm) :=
 ⟨cell_mk h rfl, cell_mk h rfl, cell_mk h rfl, cell_mk h rfl, cell_mk h rfl, cell_mk h rfl, cell_mk h rfl, cell_mk h rfl, cell_mk h rfl, cell_mk h rfl, cell_mk h rfl, cell_mk h rfl⟩
structure StV.good (s : StV) : Prop where
 right : rightQ s.conf = true
 base : s.base < 1152921504606846976
 len : s.es.length ≤ 20
 me : 0 ≤ s.me ∧ s.me ≤ 15
 role : 0 ≤ s.role ∧ s.role ≤ 3
 tm : s.tm < 1152921504606846976
 commit : s.commit < 1152921504606846976
 n16 : s.next.length = 16
 m16 : s.mat.length = 16
def NoneOut (w : World) (e : Ending) (w' : World) : Prop := e = .returned (.tuple #[.pointer none, .pointer none]) ∧ Fr (fun _ _ => True) w w'
set_option maxRecDepth 100000 in
set_option maxHeartbeats 4000000 in
theorem both_none {K : Nat → Obj → Prop} (w : World) (s : StV) (hc : IntsAt K w (.slice s.ac s.conf.length s.cc) s.conf) (hcl : s.conf.length ≤ maxLen) (hng : ¬ s.good) :
  Calls Tryz.prog 8 #[.agg (cS s)] w fun e w' => NoneOut w e w' := by
 obtain ⟨W1, hW1, F1, X1⟩ := sbox w s
 obtain ⟨x0, x1, x2, x3, x4, x5, x6, x7, x8, x9, x10, x11⟩ := scells X1.out
 obtain ⟨rt, hrt⟩ : ∃ x, rightQ s.conf = x := ⟨_, rfl⟩
 obtain ⟨sh, hsh⟩ : ∃ x, (decide (s.base < 1152921504606846976) && decide (s.es.length ≤ 20)) = x := ⟨_, rfl⟩
 have RC : Hid (Calls Tryz.prog 47 #[.slice s.ac s.conf.length s.cc] W1 fun e w' => e = .returned (.bool rt) ∧ W1 = w') := hrt ▸ rright_calls W1 _ s.conf (hc.tt F1.out) hcl
 have SC : Hid (Calls Tryz.prog 48 #[.int .u64 (s.base : Nat), .slice s.ae s.es.length s.ce, .int .i64 20] W1 fun e w' => e = .returned (.bool sh) ∧ W1 = w') := hsh ▸ dshort_calls W1 s.base s.es.length 20 s.ae s.ce
 obtain ⟨me, hme⟩ : ∃ x, s.me = x := ⟨_, rfl⟩
 obtain ⟨ro, hro⟩ : ∃ x, s.role = x := ⟨_, rfl⟩
 obtain ⟨tm, htm⟩ : ∃ x, s.tm = x := ⟨_, rfl⟩
 obtain ⟨co, hco⟩ : ∃ x, s.commit = x := ⟨_, rfl⟩
 obtain ⟨nl, hnl⟩ : ∃ x, s.next.length = x := ⟨_, rfl⟩
 obtain ⟨ml, hml⟩ : ∃ x, s.mat.length = x := ⟨_, rfl⟩
 have NG : Hid (rt = true → sh = true → ¬ me < 0 → ¬ 15 < me → ¬ ro < 0 → ¬ 3 < ro → ¬ (1152921504606846976 : Int) ≤ (tm : Int) → ¬ (1152921504606846976 : Int) ≤ (co : Int) → nl = 16 → ml = 16 → False) := fun a1 a2 a3 a4 a5 a6 a7 a8 a9 a10 => hng (by
  rw [← hsh, Bool.and_eq_true, decide_eq_true_eq, decide_eq_true_eq] at a2
  exact ⟨hrt.trans a1, a2.1, a2.2, ⟨by omega, by omega⟩, ⟨by omega, by omega⟩, by omega, by omega, by omega, by omega⟩)
 rw [hme] at x0
 rw [hro] at x1
 rw [htm] at x5
 rw [hco] at x6
 rw [hnl] at x10
 rw [hml] at x11
 unfold cS at hW1 ⊢
 clear X1 hc hcl hng hrt hsh hme hro htm hco hnl hml
 cases rt with
 | false =>
  clear NG
  go_enter Tryz.func8, Tryz.ntmps8
  go_wp2_with fail
  try rw [hW1]
  (with_reducible refine RC.out.mono ?_)
  rintro e w1 ⟨rfl, rfl⟩
  go_wp2_with fail
  (with_reducible refine SC.out.mono ?_)
  rintro e w2 ⟨rfl, rfl⟩
  go_wp2
  (try simp only [Exit.inBlock, Exit.then])
  refine bodyPost_ret (results_tmp2 rfl _ _ _) rfl ?_
  exact ⟨rfl, F1.out⟩
 | true =>
  cases sh with
  | false =>
   clear NG
   go_enter Tryz.func8, Tryz.ntmps8
   go_wp2_with fail
   try rw [hW1]
   (with_reducible refine RC.out.mono ?_)
   rintro e w1 ⟨rfl, rfl⟩
   go_wp2_with fail
   (with_reducible refine SC.out.mono ?_)
   rintro e w2 ⟨rfl, rfl⟩
   go_wp2
   (try simp only [Exit.inBlock, Exit.then])
   refine bodyPost_ret (results_tmp2 rfl _ _ _) rfl ?_
   exact ⟨rfl, F1.out⟩
  | true =>
   by_cases c2 : me < 0
   ·clear NG
    go_enter Tryz.func8, Tryz.ntmps8
    go_wp2_with fail
    try rw [hW1]
    (with_reducible refine RC.out.mono ?_)
    rintro e w1 ⟨rfl, rfl⟩
    go_wp2_with fail
    (with_reducible refine SC.out.mono ?_)
    rintro e w2 ⟨rfl, rfl⟩
    go_wp2
    (try simp only [Exit.inBlock, Exit.then])
    refine bodyPost_ret (results_tmp2 rfl _ _ _) rfl ?_
    exact ⟨rfl, F1.out⟩
   ·skip
    by_cases c3 : 15 < me
    ·clear NG
     go_enter Tryz.func8, Tryz.ntmps8
     go_wp2_with fail
     try rw [hW1]
     (with_reducible refine RC.out.mono ?_)
     rintro e w1 ⟨rfl, rfl⟩
     go_wp2_with fail
     (with_reducible refine SC.out.mono ?_)
     rintro e w2 ⟨rfl, rfl⟩
     go_wp2
     (try simp only [Exit.inBlock, Exit.then])
     refine bodyPost_ret (results_tmp2 rfl _ _ _) rfl ?_
     exact ⟨rfl, F1.out⟩
    ·skip
     by_cases c4 : ro < 0
     ·clear NG
      go_enter Tryz.func8, Tryz.ntmps8
      go_wp2_with fail
      try rw [hW1]
      (with_reducible refine RC.out.mono ?_)
      rintro e w1 ⟨rfl, rfl⟩
      go_wp2_with fail
      (with_reducible refine SC.out.mono ?_)
      rintro e w2 ⟨rfl, rfl⟩
      go_wp2
      (try simp only [Exit.inBlock, Exit.then])
      refine bodyPost_ret (results_tmp2 rfl _ _ _) rfl ?_
      exact ⟨rfl, F1.out⟩
     ·skip
      by_cases c5 : 3 < ro
      ·clear NG
       go_enter Tryz.func8, Tryz.ntmps8
       go_wp2_with fail
       try rw [hW1]
       (with_reducible refine RC.out.mono ?_)
       rintro e w1 ⟨rfl, rfl⟩
       go_wp2_with fail
       (with_reducible refine SC.out.mono ?_)
       rintro e w2 ⟨rfl, rfl⟩
       go_wp2
       (try simp only [Exit.inBlock, Exit.then])
       refine bodyPost_ret (results_tmp2 rfl _ _ _) rfl ?_
       exact ⟨rfl, F1.out⟩
      ·skip
       by_cases c6 : (1152921504606846976 : Int) ≤ (tm : Int)
       ·clear NG
        go_enter Tryz.func8, Tryz.ntmps8
        go_wp2_with fail
        try rw [hW1]
        (with_reducible refine RC.out.mono ?_)
        rintro e w1 ⟨rfl, rfl⟩
        go_wp2_with fail
        (with_reducible refine SC.out.mono ?_)
        rintro e w2 ⟨rfl, rfl⟩
        go_wp2
        (try simp only [Exit.inBlock, Exit.then])
        refine bodyPost_ret (results_tmp2 rfl _ _ _) rfl ?_
        exact ⟨rfl, F1.out⟩
       ·skip
        by_cases c7 : (1152921504606846976 : Int) ≤ (co : Int)
        ·clear NG
         go_enter Tryz.func8, Tryz.ntmps8
         go_wp2_with fail
         try rw [hW1]
         (with_reducible refine RC.out.mono ?_)
         rintro e w1 ⟨rfl, rfl⟩
         go_wp2_with fail
         (with_reducible refine SC.out.mono ?_)
         rintro e w2 ⟨rfl, rfl⟩
         go_wp2
         (try simp only [Exit.inBlock, Exit.then])
         refine bodyPost_ret (results_tmp2 rfl _ _ _) rfl ?_
         exact ⟨rfl, F1.out⟩
        ·skip
         by_cases c8 : nl = 16
         ·by_cases c9 : ml = 16
          ·exact (NG.out rfl rfl c2 c3 c4 c5 c6 c7 c8 c9).elim
          ·subst c8
           have g9 : ((ml : Int) == 16) = false := by simp; omega
           have g9' : ((ml : Int) != 16) = true := by rw [bne, g9]; rfl
           clear NG c9
           go_enter Tryz.func8, Tryz.ntmps8
           go_wp2_with fail
           try rw [hW1]
           (with_reducible refine RC.out.mono ?_)
           rintro e w1 ⟨rfl, rfl⟩
           go_wp2_with fail
           (with_reducible refine SC.out.mono ?_)
           rintro e w2 ⟨rfl, rfl⟩
           go_wp2
           (try simp only [Exit.inBlock, Exit.then])
           refine bodyPost_ret (results_tmp2 rfl _ _ _) rfl ?_
           exact ⟨rfl, F1.out⟩
         ·have g8 : ((nl : Int) == 16) = false := by simp; omega
          have g8' : ((nl : Int) != 16) = true := by rw [bne, g8]; rfl
          clear NG c8
          go_enter Tryz.func8, Tryz.ntmps8
          go_wp2_with fail
          try rw [hW1]
          (with_reducible refine RC.out.mono ?_)
          rintro e w1 ⟨rfl, rfl⟩
          go_wp2_with fail
          (with_reducible refine SC.out.mono ?_)
          rintro e w2 ⟨rfl, rfl⟩
          go_wp2
          (try simp only [Exit.inBlock, Exit.then])
          refine bodyPost_ret (results_tmp2 rfl _ _ _) rfl ?_
          exact ⟨rfl, F1.out⟩
end Go.Proofs.YtmjccpfchhnfhaaGreat
/- Law 12: both: what it comes to (printed by hf.py). -/
namespace Go.Proofs.YtmjccpfchhnfhaaGreat
open Go.RowKit
set_option linter.unusedVariables false
set_option linter.unusedSimpArgs false
structure StV.lies [Old] (w : World) (s : StV) : Prop where
 cf : IntsAt (RO fun _ => False) w (.slice s.ac s.conf.length s.cc) s.conf
 ev : EsAt (fun _ => False) w (.slice s.ae s.es.length s.ce) s.es
 nx : RowsAt (RO fun _ => False) w (.slice s.an s.next.length s.cn) 1 encW s.next
 mt : RowsAt (RO fun _ => False) w (.slice s.am s.mat.length s.cm) 1 encW s.mat
 od : ∀ c, Old.o c → c < w.heap.size
def StV.nd (s : StV) : Nd := { Nd.new s.me s.conf with vote := s.vote, role := s.role, ld := s.ld, tm := s.tm, commit := s.commit, log := ⟨s.base, s.bt, s.es.map EV.en⟩, next := s.next, mat := s.mat }
def nm60 (a b : List Nat) : Prop := ∀ i, i < 16 → 1 ≤ a.getD i 0 ∧ a.getD i 0 < 1152921504606846976 ∧ b.getD i 0 < 1152921504606846976
def BothOut [Old] (s : StV) (w : World) (e : Ending) (w' : World) : Prop := ((∃ X P b q b2 q2, e = .returned (.tuple #[.pointer (some ⟨b, 0, none⟩), .pointer (some ⟨b2, 0, none⟩)]) ∧ PNs X P w' b s.nd q ∧ DNs X w' b2 s.nd q2 ∧ ¬ P b2 ∧ (∀ c, X c → w.heap.size ≤ c) ∧ nm60 s.next s.mat) ∨ e = .returned (.tuple #[.pointer none, .pointer none])) ∧ Fr (fun c _ => c < w.heap.size) w w'
section
variable {X P : Nat → Prop} {w w' : World} {b : Nat} {n0 n : Nd} {q0 : NV}
theorem PNs.made [Old] (h : PNs X P w b n0 q0) (hf : Fr (fun c _ => c ≠ b) w w') (g1 c1 g2 c2 : Nat) (ve : Value) (es : List EV) (ht : w'.heap[b]? = some (.cells (W14 n ⟨q0.vc, q0.vy, ve, g1, c1, g2, c2, es⟩) 99 (0, 0)))
  (hc : n.conf = n0.conf) (hy : n.yes = n0.yes) (he : EsAt X w ve es) (hee : n.log.es = es.map EV.en) (a1 : A16 w' g1 n.next) (a2 : A16 w' g2 n.mat) (h1 : w.heap.size ≤ g1) (h2 : w.heap.size ≤ g2) (hne : g1 ≠ g2) :
  PNs (fun c => X c ∨ c = g1 ∨ c = g2) (fun c => P c ∨ c = g1 ∨ c = g2) w' b n ⟨q0.vc, q0.vy, ve, g1, c1, g2, c2, es⟩ ∧ Aft X P (fun c => X c ∨ c = g1 ∨ c = g2) (fun c => P c ∨ c = g1 ∨ c = g2) w w' := by
 have aft : Aft X P (fun c => X c ∨ c = g1 ∨ c = g2) (fun c => P c ∨ c = g1 ∨ c = g2) w w' :=
  ⟨hf.mono fun c _ hc e => hc (e ▸ h.pb), fun c => ⟨fun q => q.elim .inl fun q => .inr (.inr q), fun q => q.elim .inl fun q => q.elim (fun q => .inl (h.px c q)) .inr⟩, fun _ q => .inl q, fun c q => q.elim .inl fun q => .inr (by rcases q with q | q <;> rw [q] <;> assumption), h.px⟩
 refine ⟨⟨ht, by rw [hc]; exact h.cf.aft aft, by rw [hy]; exact ownsRow_fr h.ye hf fun c o e ho => (h.yb c e).1, fun c e => .inl (h.yp c e), he.aft aft, hee, a1, a2, hne, .inl h.pb, .inr (.inl rfl), .inr (.inr rfl), fun c q => q.elim (fun q => .inl (h.px c q)) .inr, fun c q => ?_, h.od⟩, aft⟩
 rcases q with q | q | q
 ·exact Nat.lt_of_lt_of_le (h.hx c q) hf.size
 ·rw [q]; exact a1.lt
 ·rw [q]; exact a2.lt
end
theorem A16.of_own {w : World} {B g c : Nat} {a : Option Addr} {l : List Nat} (h : w.ownsRow B 23 1 (.slice a 16 c) 16 (l.flatMap encW)) (hl : l.length = 16) : ∃ g, a = some ⟨g, 0, none⟩ ∧ B ≤ g ∧ A16 w g l := by
 obtain ⟨h1, h2⟩ := h
 rcases h2 with ⟨h2, h3⟩ | ⟨g, c', cur, e, hb, h4, -, -, h5, h6⟩
 ·cases h2
 ·cases e
  refine ⟨g, rfl, hb, hl, cur, h4, fun i hi => ?_⟩
  have e2 : (cur.toList.take (16 * 1))[i]? = (l.flatMap encW)[i]? := by rw [h6]
  rw [List.getElem?_take_of_lt (by omega), Array.getElem?_toList, encW_flat, List.getElem?_map, List.getElem?_eq_getElem (l := l) (i := i) (by rw [hl]; exact hi)] at e2
  rw [e2, List.getD_eq_getElem?_getD, List.getElem?_eq_getElem (by omega)]
  rfl
theorem StV.lies.view [Old] {w W1 : World} {s : StV} (h : s.lies w) (h1 : Fr (fun _ _ => True) w W1) (hb : W1.heap[w.heap.size]? = some (.cells (cS s) 29 (0, 0))) (n16 : s.next.length = 16) (m16 : s.mat.length = 16) :
  ∃ bn on bm om, s.an = some ⟨bn, on, none⟩ ∧ s.am = some ⟨bm, om, none⟩ ∧ ∀ W, Fr (fun c _ => c < W1.heap.size) W1 W → W.heap[w.heap.size]? = some (.cells (cS s) 29 (0, 0)) ∧ RowsAt (fun _ _ => True) W (.slice s.an s.next.length s.cn) 1 encW s.next ∧ RowsAt (fun _ _ => True) W (.slice s.am s.mat.length s.cm) 1 encW s.mat ∧
   (∀ i, i < 16 → W.cell? ⟨bn, on + i, none⟩ = some (natN (s.next.getD i 0)) ∧ W.cell? ⟨bm, om + i, none⟩ = some (natN (s.mat.getD i 0))) := by
 obtain ⟨bn, on, o1, e1, -⟩ := h.nx.spot (by omega)
 obtain ⟨bm, om, o2, e2, -⟩ := h.mt.spot (by omega)
 have hk : ∀ (W : World), Fr (fun c _ => c < W1.heap.size) W1 W → ∀ (a : Option Addr) (c : Nat) (xs : List Nat), RowsAt (RO fun _ => False) w (.slice a xs.length c) 1 encW xs → RowsAt (fun _ _ => True) W (.slice a xs.length c) 1 encW xs := fun W f a c xs hr => ((hr.tt h1).fr f fun c o ho _ => lt_of_some ho).mono fun _ _ _ _ => trivial
 have cel : ∀ (W : World), Fr (fun c _ => c < W1.heap.size) W1 W → ∀ (b o c : Nat) (xs : List Nat), xs.length = 16 → RowsAt (fun _ _ => True) W (.slice (some ⟨b, o, none⟩) xs.length c) 1 encW xs → ∀ i, i < 16 → W.cell? ⟨b, o + i, none⟩ = some (natN (xs.getD i 0)) := fun W f b o c xs hl hr i hi => by
  obtain ⟨b', o', o3, e, -, -, hc⟩ := hr.spot (by omega)
  cases e
  have := hc i (by omega) 0 (natN (xs.getD i 0)) (by rw [List.getD_eq_getElem?_getD, List.getElem?_eq_getElem (l := xs) (i := i) (by omega)]; rfl)
  rw [Nat.mul_one, Nat.add_zero] at this
  exact this
 refine ⟨bn, on, bm, om, e1, e2, fun W f => ?_⟩
 have r1 := hk W f _ _ _ h.nx
 have r2 := hk W f _ _ _ h.mt
 refine ⟨f.keep _ _ hb (lt_of_some hb), r1, r2, fun i hi => ⟨?_, ?_⟩⟩
 ·rw [e1] at r1; exact cel W f _ _ _ _ n16 r1 i hi
 ·rw [e2] at r2; exact cel W f _ _ _ _ m16 r2 i hi
end Go.Proofs.YtmjccpfchhnfhaaGreat
