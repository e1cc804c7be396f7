/- Texts of the proofs, part 14: what the functions that they reach do, walked; no conditions beyond those that each states. -/
import Derived.Test.YtkaikckehkcfhaaZz57afbe52e5
set_option linter.unusedVariables false
set_option linter.unusedSimpArgs false
/- Law 17: whatever is opened, closed, asked and done, each answer, who has a session, and the table's bytes, are as the document says. -/
namespace Go.Proofs.Ytkaikckehkcfhaa
open Go.RowKit
set_option linter.unusedVariables false
set_option linter.unusedSimpArgs false

/-- The call that is at hand, in memory. -/
def LO (w : World) (b0 : Nat) (x y z : Int) (v : Value) : Prop := w.heap[b0]? = some (.cells #[.int .i64 x, .int .i64 y, .int .u32 z, v] 38 (0, 0))
theorem LO.kt {w w' : World} {n b0 : Nat} {x y z : Int} {v : Value} (h : LO w b0 x y z v) (hf : Fr (KT n) w w') : LO w' b0 x y z v := hf.keep _ _ h (.inr ⟨_, _, _, rfl, by decide, by decide⟩)
theorem LO.ne {w w' : World} {n bk b0 : Nat} {D : DT} {x y z : Int} {v : Value} (h : LO w b0 x y z v) (hd : D17 w n bk D) (hf : Fr (fun c _ => c ≠ bk) w w') : LO w' b0 x y z v := hf.keep _ _ h fun e => by
  obtain ⟨cs, vs, d⟩ := hd
  have h : w.heap[b0]? = some _ := h
  rw [e, d.top] at h
  cases h
theorem LO.tt {w w' : World} {b0 : Nat} {x y z : Int} {v : Value} (h : LO w b0 x y z v) (hf : Fr (fun _ _ => True) w w') : LO w' b0 x y z v := hf.keep _ _ h trivial
theorem fr_kt {w w' : World} {n : Nat} (hf : Fr (KT n) w w') : Fr (fun b _ => b < n) w w' := hf.mono fun _ _ h => .inl h
theorem fr_bk {w w' : World} {n bk : Nat} {D : DT} (hd : D17 w n bk D) (hf : Fr (fun c _ => c ≠ bk) w w') : Fr (fun b _ => b < n) w w' := hf.mono fun b _ h e => by
  obtain ⟨cs, vs, d⟩ := hd
  have := d.le
  have h : b < n := h
  omega

set_option maxRecDepth 100000 in
theorem plays_long (W : World) (a : Option Addr) (len cap : Nat) (hl : 80 < len) (hm : len ≤ 9223372036854775807) :
    Calls Try.prog 6 #[.slice a len cap] W fun e w' => e = .returned (.bool true) ∧ Fr (fun b _ => b < W.heap.size) W w' := by
  have HA := Lib.hid (awake_calls W)
  have hl' : (80 : Int) < len := by omega
  go_enter Try.func6, Try.ntmps6
  go_wp2_with fail
  with_reducible refine HA.out.mono ?_
  rintro e1 w1 ⟨rfl, f1⟩
  have F1 := Lib.hid f1
  clear f1 HA
  go_wp2
  go_ret
  exact ⟨rfl, (F1.out.alloc _).alloc _⟩

set_option maxRecDepth 100000 in
set_option maxHeartbeats 8000000 in
theorem plays_short (W : World) (a : Option Addr) (len cap : Nat) (b off : Nat) (ha : 0 < len → a = some ⟨b, off, none⟩) (hops : ∀ i, i < len → ∃ x y z v bs, OpAt W b off i x y z v bs ∧ bs.length ≤ maxLen) (hl : len ≤ 80) :
    Calls Try.prog 6 #[.slice a len cap] W fun e w' => e = .returned (.bool true) ∧ Fr (fun b _ => b < W.heap.size) W w' := by
  have HA := Lib.hid (awake_calls W)
  have hl' : ¬ (80 : Int) < len := by omega
  have HAD := Lib.hid ha
  have HOP := Lib.hid hops
  clear ha hops
  obtain ⟨n, hn⟩ : ∃ n, n = W.heap.size := ⟨_, rfl⟩
  have HN := Lib.hid hn
  rw [← hn] at HA ⊢
  clear hn
  go_enter Try.func6, Try.ntmps6
  go_wp2_with fail
  with_reducible refine HA.out.mono ?_
  rintro e1 w1 ⟨rfl, f1⟩
  have F1 := Lib.hid f1
  have hnz : n ≤ w1.heap.size := by have := f1.size; rw [← HN.out] at this; exact this
  clear f1 HA
  have B2 : Hid (Both n ((w1.alloc (.cells #[.map none] 27 (0, 0))).alloc (.cells zCells 53 (0, 0))) w1.heap.size (w1.heap.size + 1) [] zDT) :=
    ⟨(TabM.new w1 n hnz).fr ((Fr.refl _ _).alloc _), D17.new (heap_alloc_at (by simp) _) (by omega), RelMD.start⟩
  have F2 : Hid (Fr (fun b _ => b < n) W ((w1.alloc (.cells #[.map none] 27 (0, 0))).alloc (.cells zCells 53 (0, 0)))) := (F1.out.alloc _).alloc _
  unfold zCells at B2 F2
  obtain ⟨W2, hW2⟩ : ∃ W2, (w1.alloc (.cells #[.map none] 27 (0, 0))).alloc (.cells #[.bool false, .bool false, .bool false, .bool false, .bool false, .bool false, .bool false, .bool false, .bool false, .bool false, .bool false, .bool false, .bool false, .bool false, .bool false, .bool false,
  .int .u64 0, .int .u64 0, .int .u64 0, .int .u64 0, .int .u64 0, .int .u64 0, .int .u64 0, .int .u64 0, .int .u64 0, .int .u64 0, .int .u64 0, .int .u64 0, .int .u64 0, .int .u64 0, .int .u64 0, .int .u64 0,
  .slice none 0 0, .slice none 0 0, .slice none 0 0, .slice none 0 0, .slice none 0 0, .slice none 0 0, .slice none 0 0, .slice none 0 0, .slice none 0 0, .slice none 0 0, .slice none 0 0, .slice none 0 0, .slice none 0 0, .slice none 0 0, .slice none 0 0, .slice none 0 0] 53 (0, 0)) = W2 := ⟨_, rfl⟩
  rw [hW2] at B2 F2
  go_wp2_with fail
  clear hW2 F1
  obtain ⟨bk, hbk⟩ : ∃ bk, bk = w1.heap.size + 1 := ⟨_, rfl⟩
  obtain ⟨bt0, hbt0⟩ : ∃ bt0, bt0 = w1.heap.size := ⟨_, rfl⟩
  rw [← hbk, ← hbt0] at B2
  rw [← hbk, ← hbt0]
  clear hbk hbt0 hnz
  go_loopw [4, 6, 7, 8, 9, 10, 11, 12, 13, 14, 15, 16, 17] (fun tv iv _ _ _ _ _ _ _ _ _ _ _ wr => ∃ (k bt : Nat) (M : MT) (D : DT), k ≤ len ∧ iv = .int .i64 k ∧ tv = .pointer (some ⟨bt, 0, none⟩) ∧ Both n wr bt bk M D ∧ Fr (fun b _ => b < n) W wr) (fun _ iv _ _ _ _ _ _ _ _ _ _ _ _ => len - (intOf iv).toNat)
  case atStart => exact ⟨0, bt0, [], zDT, Nat.zero_le _, rfl, rfl, B2.out, F2.out⟩
  case round =>
    obtain ⟨k, bt, M, D, hk, rfl, rfl, hB, hf⟩ := hrel
    have HB0 := Lib.hid hB
    have FF0 := Lib.hid hf
    clear hB hf
    by_cases hlt : k < len
    · obtain ⟨x, y, z, v, bs, hop, hbl⟩ := HOP.out k hlt
      obtain rfl := HAD.out (by omega)
      obtain ⟨o0, o1, o2, o3, z0, z1, ob⟩ := hop
      obtain ⟨va, vc, hv⟩ := ob.form
      subst hv
      obtain ⟨VL, hVL⟩ : ∃ VL, VL = bs.length := ⟨_, rfl⟩
      rw [← hVL] at o3 ob
      have HVL := Lib.hid hVL
      clear hVL
      have hblt : b < W.heap.size := by have := cell_lt o0; simpa using this
      have KEEP : ∀ j u, W.cell? ⟨b, j, none⟩ = some u → wr.cell? ⟨b, j, none⟩ = some u := fun j u hu => FF0.out.cell (fun o ho => by have := HN.out; show b < n; omega) hu
      have p0 := KEEP _ _ o0
      have p1 := KEEP _ _ o1
      have p2 := KEEP _ _ o2
      have p3 := KEEP _ _ o3
      have OB : Hid (BytesAt (KD n) wr (.slice va VL vc) bs) := by
        have h1 : BytesAt (fun b _ => b < n) W (.slice va VL vc) bs := by have := HN.out; rw [this]; exact ob
        exact (h1.fr FF0.out).mono fun _ _ _ h => .inl h
      obtain ⟨s, rfl⟩ := Int.eq_ofNat_of_zero_le z0
      have hs : s < 4294967296 := by omega
      clear o0 o1 o2 o3 ob KEEP hblt z0 z1
      unfold maxLen at hbl
      have HBL := Lib.hid hbl
      clear hbl
      obtain ⟨W1, hW1⟩ : ∃ W1, wr.alloc (.cells #[.int .i64 x, .int .i64 y, .int .u32 (s : Int), .slice va VL vc] 38 (0, 0)) = W1 := ⟨_, rfl⟩
      have G1 : Hid (Fr (fun _ _ => True) wr W1) := hW1 ▸ (Fr.refl _ _).alloc _
      have L1 : Hid (LO W1 wr.heap.size x y (s : Int) (.slice va VL vc)) := hW1 ▸ heap_alloc_new _ _
      have HB1 := Lib.hid (HB0.out.tt G1.out)
      have FF1 := Lib.hid (FF0.out.trans (fr_ttl G1.out))
      have OB1 := Lib.hid (OB.out.tt G1.out)
      have hn1 : n ≤ W1.heap.size := by have := FF1.out.size; rw [← HN.out] at this; exact this
      have q0 := cell_mk (i := 0) L1.out rfl
      have q1 := cell_mk (i := 1) L1.out rfl
      have q2 := cell_mk (i := 2) L1.out rfl
      have q3 := cell_mk (i := 3) L1.out rfl
      clear HB0 FF0 OB G1
      by_cases h1 : x = 1
      · subst h1
        obtain ⟨code, M1, D1, e1, e2, hrel⟩ := rel_open HB1.out.rel y
        have K1 := Lib.hid (open_calls W1 n bt M y HB1.out.tab hn1 code M1 e1)
        have HDO := Lib.hid HB1.out.doc
        have HRL := Lib.hid hrel
        have E2 := Lib.hid e2
        clear e1 e2 hrel HB1
        go_wp2_with fail
        clear hW1
        with_reducible refine K1.out.mono ?_
        rintro e1 u2 ⟨rfl, ht, hf⟩
        have T2 := Lib.hid ht
        have D2 := Lib.hid (HDO.out.kt hf)
        have FF2 := Lib.hid (FF1.out.trans (fr_kt hf))
        have L2 := Lib.hid (L1.out.kt hf)
        have q4 := cell_mk (i := 1) L2.out rfl
        clear ht hf K1 HDO FF1 L1 q0 q1 q2 q3
        have K2 := Lib.hid (dopen_calls u2 n bk D y D2.out code D1 E2.out)
        go_wp2_with fail
        with_reducible refine K2.out.mono ?_
        rintro e1 u3 ⟨rfl, hd, hf⟩
        have HB : Hid (Both n u3 bt bk M1 D1) := ⟨T2.out.otherD D2.out hf, hd, HRL.out⟩
        have FF := Lib.hid (FF2.out.trans (fr_bk D2.out hf))
        clear hd hf K2 D2 T2 FF2 L2 q4 HRL E2
        have KC := Lib.hid (clients_calls u3 n bt M1 HB.out.tab (by have := HB.out.rel.few; omega))
        rw [HB.out.rel.clients] at KC
        go_wp2_with fail
        with_reducible refine KC.out.mono ?_
        rintro e1 v1 ⟨⟨cv, rfl, hcr⟩, g1⟩
        have CV := Lib.hid hcr.ints
        have HC := Lib.hid (HB.out.tt g1)
        have FC := Lib.hid (FF.out.trans (fr_ttl g1))
        clear hcr g1 KC HB FF
        have KC := Lib.hid (pack_calls v1 n bt M1 HC.out.tab (by have := HC.out.rel.few; omega) (fun x hx => by have := HC.out.rel.rng x hx; omega))
        rw [HC.out.rel.sort] at KC
        go_wp2_with fail
        with_reducible refine KC.out.mono ?_
        rintro e1 v2 ⟨⟨pa, pc, rfl, hpb⟩, g2⟩
        have PB := Lib.hid hpb
        have CV2 := Lib.hid (CV.out.tt g2)
        have HD := Lib.hid (HC.out.tt g2)
        have FD := Lib.hid (FC.out.trans (fr_ttl g2))
        clear hpb g2 KC HC FC CV
        have KC := Lib.hid (dclients_calls v2 n bk D1 HD.out.doc)
        go_wp2_with fail
        with_reducible refine KC.out.mono ?_
        rintro e1 v3 ⟨⟨dv, rfl, hdr⟩, g3⟩
        have HE := Lib.hid (HD.out.tt g3)
        have FE := Lib.hid (FD.out.trans (fr_ttl g3))
        have PB3 := Lib.hid (PB.out.tt g3)
        have KN := Lib.hid (nums_calls v3 _ _ _ _ (CV2.out.tt g3) hdr.ints (by have := manyK_le D1 16; rw [cliD_len]; unfold maxLen; omega))
        rw [decide_eq_true rfl] at KN
        clear hdr g3 KC HD FD PB CV2
        go_wp2_with fail
        with_reducible refine KN.out.mono ?_
        rintro e1 v4 ⟨rfl, g4⟩
        have HG := Lib.hid (HE.out.tt g4)
        have FG := Lib.hid (FE.out.trans (fr_ttl g4))
        have PB4 := Lib.hid (PB3.out.tt g4)
        clear g4 KN HE FE PB3
        have KC := Lib.hid (dpack_calls v4 n bk D1 HG.out.doc)
        go_wp2_with fail
        with_reducible refine KC.out.mono ?_
        rintro e1 v5 ⟨⟨qa, qc, rfl, hq⟩, g5⟩
        have HH := Lib.hid (HG.out.tt g5)
        have FH := Lib.hid (FG.out.trans (fr_ttl g5))
        have KS := Lib.hid (same_calls v5 _ _ _ _ (PB4.out.tt g5) (BytesAt.of_own hq rfl) (by rw [← packD_all]; have := packD_len D1 16 (by omega); omega))
        rw [decide_eq_true rfl] at KS
        clear hq g5 KC HG FG PB4
        generalize packL (entD D1 16) = pkl at *
        go_wp2_with fail
        with_reducible refine KS.out.mono ?_
        rintro e1 v6 ⟨rfl, nd, rfl⟩
        have HI := Lib.hid (HH.out.tt ((Fr.refl _ _).drewN nd))
        have FI := Lib.hid (FH.out.trans (fr_dN nd))
        clear KS HH FH
        go_wp2
        go_roundw
        case rel => exact ⟨k + 1, bt, M1, D1, by omega, by go_num, rfl, HI.out, FI.out⟩
        case measure => simp [intOf]; omega
      · have n1a : (x == 1) = false := by simpa using h1
        by_cases h2 : x = 2
        · subst h2
          obtain ⟨code, M1, D1, e1, e2, hrel⟩ := rel_close HB1.out.rel y
          have K1 := Lib.hid (close_calls W1 n bt M y HB1.out.tab code M1 e1)
          have HDO := Lib.hid HB1.out.doc
          have HRL := Lib.hid hrel
          have E2 := Lib.hid e2
          clear e1 e2 hrel HB1
          go_wp2_with fail
          clear hW1
          with_reducible refine K1.out.mono ?_
          rintro e1 u2 ⟨rfl, ht, hf⟩
          have T2 := Lib.hid ht
          have D2 := Lib.hid (HDO.out.kt hf)
          have FF2 := Lib.hid (FF1.out.trans (fr_kt hf))
          have L2 := Lib.hid (L1.out.kt hf)
          have q4 := cell_mk (i := 1) L2.out rfl
          clear ht hf K1 HDO FF1 L1 q0 q1 q2 q3
          have K2 := Lib.hid (dclose_calls u2 n bk D y D2.out code D1 E2.out)
          go_wp2_with fail
          with_reducible refine K2.out.mono ?_
          rintro e1 u3 ⟨rfl, hd, hf⟩
          have HB : Hid (Both n u3 bt bk M1 D1) := ⟨T2.out.otherD D2.out hf, hd, HRL.out⟩
          have FF := Lib.hid (FF2.out.trans (fr_bk D2.out hf))
          clear hd hf K2 D2 T2 FF2 L2 q4 HRL E2
          have KC := Lib.hid (clients_calls u3 n bt M1 HB.out.tab (by have := HB.out.rel.few; omega))
          rw [HB.out.rel.clients] at KC
          go_wp2_with fail
          with_reducible refine KC.out.mono ?_
          rintro e1 v1 ⟨⟨cv, rfl, hcr⟩, g1⟩
          have CV := Lib.hid hcr.ints
          have HC := Lib.hid (HB.out.tt g1)
          have FC := Lib.hid (FF.out.trans (fr_ttl g1))
          clear hcr g1 KC HB FF
          have KC := Lib.hid (pack_calls v1 n bt M1 HC.out.tab (by have := HC.out.rel.few; omega) (fun x hx => by have := HC.out.rel.rng x hx; omega))
          rw [HC.out.rel.sort] at KC
          go_wp2_with fail
          with_reducible refine KC.out.mono ?_
          rintro e1 v2 ⟨⟨pa, pc, rfl, hpb⟩, g2⟩
          have PB := Lib.hid hpb
          have CV2 := Lib.hid (CV.out.tt g2)
          have HD := Lib.hid (HC.out.tt g2)
          have FD := Lib.hid (FC.out.trans (fr_ttl g2))
          clear hpb g2 KC HC FC CV
          have KC := Lib.hid (dclients_calls v2 n bk D1 HD.out.doc)
          go_wp2_with fail
          with_reducible refine KC.out.mono ?_
          rintro e1 v3 ⟨⟨dv, rfl, hdr⟩, g3⟩
          have HE := Lib.hid (HD.out.tt g3)
          have FE := Lib.hid (FD.out.trans (fr_ttl g3))
          have PB3 := Lib.hid (PB.out.tt g3)
          have KN := Lib.hid (nums_calls v3 _ _ _ _ (CV2.out.tt g3) hdr.ints (by have := manyK_le D1 16; rw [cliD_len]; unfold maxLen; omega))
          rw [decide_eq_true rfl] at KN
          clear hdr g3 KC HD FD PB CV2
          go_wp2_with fail
          with_reducible refine KN.out.mono ?_
          rintro e1 v4 ⟨rfl, g4⟩
          have HG := Lib.hid (HE.out.tt g4)
          have FG := Lib.hid (FE.out.trans (fr_ttl g4))
          have PB4 := Lib.hid (PB3.out.tt g4)
          clear g4 KN HE FE PB3
          have KC := Lib.hid (dpack_calls v4 n bk D1 HG.out.doc)
          go_wp2_with fail
          with_reducible refine KC.out.mono ?_
          rintro e1 v5 ⟨⟨qa, qc, rfl, hq⟩, g5⟩
          have HH := Lib.hid (HG.out.tt g5)
          have FH := Lib.hid (FG.out.trans (fr_ttl g5))
          have KS := Lib.hid (same_calls v5 _ _ _ _ (PB4.out.tt g5) (BytesAt.of_own hq rfl) (by rw [← packD_all]; have := packD_len D1 16 (by omega); omega))
          rw [decide_eq_true rfl] at KS
          clear hq g5 KC HG FG PB4
          generalize packL (entD D1 16) = pkl at *
          go_wp2_with fail
          with_reducible refine KS.out.mono ?_
          rintro e1 v6 ⟨rfl, nd, rfl⟩
          have HI := Lib.hid (HH.out.tt ((Fr.refl _ _).drewN nd))
          have FI := Lib.hid (FH.out.trans (fr_dN nd))
          clear KS HH FH
          go_wp2
          go_roundw
          case rel => exact ⟨k + 1, bt, M1, D1, by omega, by go_num, rfl, HI.out, FI.out⟩
          case measure => simp [intOf]; omega
        · have n2a : (x == 2) = false := by simpa using h2
          by_cases h3 : x = 3
          · subst h3
            obtain ⟨rb, again, code, ea⟩ : ∃ rb again code, askM M y (s : Int) = (rb, again, code) := ⟨_, _, _, rfl⟩
            have eb : askD D y s = (rb, again, code) := by rw [← rel_ask HB1.out.rel y s hs]; exact ea
            have K1 := Lib.hid (ask_calls W1 n bt M y (s : Int) HB1.out.tab (by omega) (by omega) rb again code ea)
            have HRB : Hid (rb.length ≤ 140737488355328) := by
              unfold askD at eb
              split at eb
              · have := (Prod.mk.inj eb).1; rw [← this]; simp [Hid]
              · split at eb
                next q1 q2 =>
                  have e := (Prod.mk.inj eb).1
                  rw [← e]
                  have hh : hasD D y = true := by cases q : hasD D y <;> simp_all
                  obtain ⟨i, rfl, hi, hb⟩ := hasD_nat hh
                  obtain ⟨cs, vs, d⟩ := HB1.out.doc
                  have := d.short i hi hb
                  rw [Int.toNat_natCast]
                  exact Nat.le_trans this (by decide)
                · split at eb
                  · have := (Prod.mk.inj eb).1; rw [← this]; simp [Hid]
                  · split at eb <;> (have := (Prod.mk.inj eb).1; rw [← this]; simp [Hid])
            have E2 := Lib.hid eb
            have HDO := Lib.hid HB1.out.doc
            have HRL := Lib.hid HB1.out.rel
            clear ea eb HB1
            go_wp2_with fail
            clear hW1
            with_reducible refine K1.out.mono ?_
            rintro e1 u2 ⟨ra, rc, rfl, hrb, ht, hf⟩
            have T2 := Lib.hid ht
            have D2 := Lib.hid (HDO.out.tt hf)
            have FF2 := Lib.hid (FF1.out.trans (fr_ttl hf))
            have L2 := Lib.hid (L1.out.tt hf)
            have R2 := Lib.hid hrb
            have q4 := cell_mk (i := 1) L2.out rfl
            have q5 := cell_mk (i := 2) L2.out rfl
            clear ht hf K1 HDO FF1 L1 q0 q1 q2 q3 hrb
            have K2 := Lib.hid (dask_calls u2 n bk D y s D2.out hs rb again code E2.out)
            go_wp2_with fail
            with_reducible refine K2.out.mono ?_
            rintro e1 u3 ⟨⟨dv0, rfl, hdb⟩, rfl⟩
            have KS := Lib.hid (same_calls u2 _ _ rb rb R2.out hdb HRB.out)
            rw [decide_eq_true rfl] at KS
            clear hdb K2 R2 L2 q4 q5 E2 HRB
            have hbn : (again != again) = false := by simp
            go_wp2_with fail
            with_reducible refine KS.out.mono ?_
            rintro e1 u4 ⟨rfl, nd0, rfl⟩
            have HB : Hid (Both n (u2.drewN nd0) bt bk M D) := ⟨T2.out.fr ((Fr.refl _ _).drewN nd0), D2.out.tt ((Fr.refl _ _).drewN nd0), HRL.out⟩
            have FF := Lib.hid (FF2.out.trans (fr_dN nd0))
            clear KS T2 D2 HRL FF2
            obtain ⟨u3, hu3⟩ : ∃ u3, u2.drewN nd0 = u3 := ⟨_, rfl⟩
            rw [hu3] at HB FF ⊢
            clear hu3
            have KC := Lib.hid (clients_calls u3 n bt M HB.out.tab (by have := HB.out.rel.few; omega))
            rw [HB.out.rel.clients] at KC
            go_wp2_with fail
            with_reducible refine KC.out.mono ?_
            rintro e1 v1 ⟨⟨cv, rfl, hcr⟩, g1⟩
            have CV := Lib.hid hcr.ints
            have HC := Lib.hid (HB.out.tt g1)
            have FC := Lib.hid (FF.out.trans (fr_ttl g1))
            clear hcr g1 KC HB FF
            have KC := Lib.hid (pack_calls v1 n bt M HC.out.tab (by have := HC.out.rel.few; omega) (fun x hx => by have := HC.out.rel.rng x hx; omega))
            rw [HC.out.rel.sort] at KC
            go_wp2_with fail
            with_reducible refine KC.out.mono ?_
            rintro e1 v2 ⟨⟨pa, pc, rfl, hpb⟩, g2⟩
            have PB := Lib.hid hpb
            have CV2 := Lib.hid (CV.out.tt g2)
            have HD := Lib.hid (HC.out.tt g2)
            have FD := Lib.hid (FC.out.trans (fr_ttl g2))
            clear hpb g2 KC HC FC CV
            have KC := Lib.hid (dclients_calls v2 n bk D HD.out.doc)
            go_wp2_with fail
            with_reducible refine KC.out.mono ?_
            rintro e1 v3 ⟨⟨dv, rfl, hdr⟩, g3⟩
            have HE := Lib.hid (HD.out.tt g3)
            have FE := Lib.hid (FD.out.trans (fr_ttl g3))
            have PB3 := Lib.hid (PB.out.tt g3)
            have KN := Lib.hid (nums_calls v3 _ _ _ _ (CV2.out.tt g3) hdr.ints (by have := manyK_le D 16; rw [cliD_len]; unfold maxLen; omega))
            rw [decide_eq_true rfl] at KN
            clear hdr g3 KC HD FD PB CV2
            go_wp2_with fail
            with_reducible refine KN.out.mono ?_
            rintro e1 v4 ⟨rfl, g4⟩
            have HG := Lib.hid (HE.out.tt g4)
            have FG := Lib.hid (FE.out.trans (fr_ttl g4))
            have PB4 := Lib.hid (PB3.out.tt g4)
            clear g4 KN HE FE PB3
            have KC := Lib.hid (dpack_calls v4 n bk D HG.out.doc)
            go_wp2_with fail
            with_reducible refine KC.out.mono ?_
            rintro e1 v5 ⟨⟨qa, qc, rfl, hq⟩, g5⟩
            have HH := Lib.hid (HG.out.tt g5)
            have FH := Lib.hid (FG.out.trans (fr_ttl g5))
            have KS := Lib.hid (same_calls v5 _ _ _ _ (PB4.out.tt g5) (BytesAt.of_own hq rfl) (by rw [← packD_all]; have := packD_len D 16 (by omega); omega))
            rw [decide_eq_true rfl] at KS
            clear hq g5 KC HG FG PB4
            generalize packL (entD D 16) = pkl at *
            go_wp2_with fail
            with_reducible refine KS.out.mono ?_
            rintro e1 v6 ⟨rfl, nd, rfl⟩
            have HI := Lib.hid (HH.out.tt ((Fr.refl _ _).drewN nd))
            have FI := Lib.hid (FH.out.trans (fr_dN nd))
            clear KS HH FH
            go_wp2
            go_roundw
            case rel => exact ⟨k + 1, bt, M, D, by omega, by go_num, rfl, HI.out, FI.out⟩
            case measure => simp [intOf]; omega
          · have n3a : (x == 3) = false := by simpa using h3
            by_cases h4 : x = 4
            · subst h4
              obtain ⟨code, M1, D1, e1, e2, hrel⟩ := rel_done HB1.out.rel y s bs hs
              have K1 := Lib.hid (done_calls W1 n bt M y (s : Int) (.slice va VL vc) bs HB1.out.tab (by omega) (by omega) OB1.out code M1 e1)
              have HDO := Lib.hid HB1.out.doc
              have HRL := Lib.hid hrel
              have E2 := Lib.hid e2
              clear e1 e2 hrel HB1
              go_wp2_with fail
              clear hW1
              with_reducible refine K1.out.mono ?_
              rintro e1 u2 ⟨rfl, ht, hf⟩
              have T2 := Lib.hid ht
              have D2 := Lib.hid (HDO.out.kt hf)
              have FF2 := Lib.hid (FF1.out.trans (fr_kt hf))
              have L2 := Lib.hid (L1.out.kt hf)
              have OB2 : Hid (BytesAt (KD n) u2 (.slice va VL vc) bs) := ((OB1.out.mono (K' := fun b o => KT n b o ∧ KD n b o) fun b o _ hk => ⟨by rcases hk with hk | ⟨c2, f2, rfl⟩; exact .inl hk; exact .inr ⟨c2, _, f2, rfl, by decide, by decide⟩, hk⟩).fr (hf.mono fun _ _ h => h.1)).mono fun _ _ _ h => h.2
              have q4 := cell_mk (i := 1) L2.out rfl
              have q5 := cell_mk (i := 2) L2.out rfl
              have q6 := cell_mk (i := 3) L2.out rfl
              clear ht hf K1 HDO FF1 L1 q0 q1 q2 q3
              have K2 := Lib.hid (ddone_calls u2 n bk D y s (.slice va VL vc) bs D2.out hs OB2.out (by have := HBL.out; omega) code D1 E2.out)
              go_wp2_with fail
              with_reducible refine K2.out.mono ?_
              rintro e1 u3 ⟨rfl, hd, hf⟩
              have HB : Hid (Both n u3 bt bk M1 D1) := ⟨T2.out.otherD D2.out hf, hd, HRL.out⟩
              have FF := Lib.hid (FF2.out.trans (fr_bk D2.out hf))
              clear hd hf K2 D2 T2 FF2 L2 q4 q5 q6 HRL E2
              have KC := Lib.hid (clients_calls u3 n bt M1 HB.out.tab (by have := HB.out.rel.few; omega))
              rw [HB.out.rel.clients] at KC
              go_wp2_with fail
              with_reducible refine KC.out.mono ?_
              rintro e1 v1 ⟨⟨cv, rfl, hcr⟩, g1⟩
              have CV := Lib.hid hcr.ints
              have HC := Lib.hid (HB.out.tt g1)
              have FC := Lib.hid (FF.out.trans (fr_ttl g1))
              clear hcr g1 KC HB FF
              have KC := Lib.hid (pack_calls v1 n bt M1 HC.out.tab (by have := HC.out.rel.few; omega) (fun x hx => by have := HC.out.rel.rng x hx; omega))
              rw [HC.out.rel.sort] at KC
              go_wp2_with fail
              with_reducible refine KC.out.mono ?_
              rintro e1 v2 ⟨⟨pa, pc, rfl, hpb⟩, g2⟩
              have PB := Lib.hid hpb
              have CV2 := Lib.hid (CV.out.tt g2)
              have HD := Lib.hid (HC.out.tt g2)
              have FD := Lib.hid (FC.out.trans (fr_ttl g2))
              clear hpb g2 KC HC FC CV
              have KC := Lib.hid (dclients_calls v2 n bk D1 HD.out.doc)
              go_wp2_with fail
              with_reducible refine KC.out.mono ?_
              rintro e1 v3 ⟨⟨dv, rfl, hdr⟩, g3⟩
              have HE := Lib.hid (HD.out.tt g3)
              have FE := Lib.hid (FD.out.trans (fr_ttl g3))
              have PB3 := Lib.hid (PB.out.tt g3)
              have KN := Lib.hid (nums_calls v3 _ _ _ _ (CV2.out.tt g3) hdr.ints (by have := manyK_le D1 16; rw [cliD_len]; unfold maxLen; omega))
              rw [decide_eq_true rfl] at KN
              clear hdr g3 KC HD FD PB CV2
              go_wp2_with fail
              with_reducible refine KN.out.mono ?_
              rintro e1 v4 ⟨rfl, g4⟩
              have HG := Lib.hid (HE.out.tt g4)
              have FG := Lib.hid (FE.out.trans (fr_ttl g4))
              have PB4 := Lib.hid (PB3.out.tt g4)
              clear g4 KN HE FE PB3
              have KC := Lib.hid (dpack_calls v4 n bk D1 HG.out.doc)
              go_wp2_with fail
              with_reducible refine KC.out.mono ?_
              rintro e1 v5 ⟨⟨qa, qc, rfl, hq⟩, g5⟩
              have HH := Lib.hid (HG.out.tt g5)
              have FH := Lib.hid (FG.out.trans (fr_ttl g5))
              have KS := Lib.hid (same_calls v5 _ _ _ _ (PB4.out.tt g5) (BytesAt.of_own hq rfl) (by rw [← packD_all]; have := packD_len D1 16 (by omega); omega))
              rw [decide_eq_true rfl] at KS
              clear hq g5 KC HG FG PB4
              generalize packL (entD D1 16) = pkl at *
              go_wp2_with fail
              with_reducible refine KS.out.mono ?_
              rintro e1 v6 ⟨rfl, nd, rfl⟩
              have HI := Lib.hid (HH.out.tt ((Fr.refl _ _).drewN nd))
              have FI := Lib.hid (FH.out.trans (fr_dN nd))
              clear KS HH FH
              go_wp2
              go_roundw
              case rel => exact ⟨k + 1, bt, M1, D1, by omega, by go_num, rfl, HI.out, FI.out⟩
              case measure => simp [intOf]; omega
            · have n4a : (x == 4) = false := by simpa using h4
              by_cases h5 : x = 5
              · subst h5
                obtain ⟨hup, h6, hsm, hrel⟩ := HB1.out.rel.upsort
                have eu := unp_pack hup h6 hsm
                have K1 := Lib.hid (pack_calls W1 n bt M HB1.out.tab (by have := HB1.out.rel.few; omega) (fun x hx => by have := HB1.out.rel.rng x hx; omega))
                have HPL : Hid ((packL (sortM M)).length ≤ 100000) := by
                  rw [HB1.out.rel.sort, ← packD_all]; exact Nat.le_trans (packD_len D 16 (by omega)) (by decide)
                have K2 : Hid (∀ w' a c, n ≤ w'.heap.size → BytesAt (New W1.heap.size) w' (.slice a (packL (sortM M)).length c) (packL (sortM M)) → Calls Try.prog 13 #[.slice a (packL (sortM M)).length c] w' fun e w'' => (((0 : Int) ≠ 0 ∧ e = .returned (.tuple #[.pointer none, .int .i64 0])) ∨ ((0 : Int) = 0 ∧ ∃ bt, e = .returned (.tuple #[.pointer (some ⟨bt, 0, none⟩), .int .i64 0]) ∧ TabM w'' n bt (sortM M))) ∧ Fr (fun _ _ => True) w' w'') := fun w' a c h1 h2 => unpack_callsB n w' h1 _ _ h2 HPL.out 0 (sortM M) eu
                have HDO := Lib.hid HB1.out.doc
                have HRL := Lib.hid hrel
                clear hup h6 hsm hrel eu HB1 HPL
                generalize sortM M = M1 at *
                generalize packL M1 = pk1 at *
                go_wp2_with fail
                clear hW1
                with_reducible refine K1.out.mono ?_
                rintro e1 u2 ⟨⟨ka, kc, rfl, hkb⟩, hf⟩
                have K3 := Lib.hid (K2.out u2 ka kc (Nat.le_trans hn1 hf.size) hkb)
                have D2 := Lib.hid (HDO.out.tt hf)
                have FF2 := Lib.hid (FF1.out.trans (fr_ttl hf))
                clear hkb hf K1 K2 HDO FF1 L1 q0 q1 q2 q3
                go_wp2_with fail
                with_reducible refine K3.out.mono ?_
                rintro e1 u3 ⟨hx | ⟨_, bt1, rfl, ht⟩, hf⟩
                · exact absurd rfl hx.1
                have HB : Hid (Both n u3 bt1 bk M1 D) := ⟨ht, D2.out.tt hf, HRL.out⟩
                have FF := Lib.hid (FF2.out.trans (fr_ttl hf))
                clear ht hf K3 D2 FF2 HRL
                have KC := Lib.hid (clients_calls u3 n bt1 M1 HB.out.tab (by have := HB.out.rel.few; omega))
                rw [HB.out.rel.clients] at KC
                go_wp2_with fail
                with_reducible refine KC.out.mono ?_
                rintro e1 v1 ⟨⟨cv, rfl, hcr⟩, g1⟩
                have CV := Lib.hid hcr.ints
                have HC := Lib.hid (HB.out.tt g1)
                have FC := Lib.hid (FF.out.trans (fr_ttl g1))
                clear hcr g1 KC HB FF
                have KC := Lib.hid (pack_calls v1 n bt1 M1 HC.out.tab (by have := HC.out.rel.few; omega) (fun x hx => by have := HC.out.rel.rng x hx; omega))
                rw [HC.out.rel.sort] at KC
                go_wp2_with fail
                with_reducible refine KC.out.mono ?_
                rintro e1 v2 ⟨⟨pa, pc, rfl, hpb⟩, g2⟩
                have PB := Lib.hid hpb
                have CV2 := Lib.hid (CV.out.tt g2)
                have HD := Lib.hid (HC.out.tt g2)
                have FD := Lib.hid (FC.out.trans (fr_ttl g2))
                clear hpb g2 KC HC FC CV
                have KC := Lib.hid (dclients_calls v2 n bk D HD.out.doc)
                go_wp2_with fail
                with_reducible refine KC.out.mono ?_
                rintro e1 v3 ⟨⟨dv, rfl, hdr⟩, g3⟩
                have HE := Lib.hid (HD.out.tt g3)
                have FE := Lib.hid (FD.out.trans (fr_ttl g3))
                have PB3 := Lib.hid (PB.out.tt g3)
                have KN := Lib.hid (nums_calls v3 _ _ _ _ (CV2.out.tt g3) hdr.ints (by have := manyK_le D 16; rw [cliD_len]; unfold maxLen; omega))
                rw [decide_eq_true rfl] at KN
                clear hdr g3 KC HD FD PB CV2
                go_wp2_with fail
                with_reducible refine KN.out.mono ?_
                rintro e1 v4 ⟨rfl, g4⟩
                have HG := Lib.hid (HE.out.tt g4)
                have FG := Lib.hid (FE.out.trans (fr_ttl g4))
                have PB4 := Lib.hid (PB3.out.tt g4)
                clear g4 KN HE FE PB3
                have KC := Lib.hid (dpack_calls v4 n bk D HG.out.doc)
                go_wp2_with fail
                with_reducible refine KC.out.mono ?_
                rintro e1 v5 ⟨⟨qa, qc, rfl, hq⟩, g5⟩
                have HH := Lib.hid (HG.out.tt g5)
                have FH := Lib.hid (FG.out.trans (fr_ttl g5))
                have KS := Lib.hid (same_calls v5 _ _ _ _ (PB4.out.tt g5) (BytesAt.of_own hq rfl) (by rw [← packD_all]; have := packD_len D 16 (by omega); omega))
                rw [decide_eq_true rfl] at KS
                clear hq g5 KC HG FG PB4
                generalize packL (entD D 16) = pkl at *
                go_wp2_with fail
                with_reducible refine KS.out.mono ?_
                rintro e1 v6 ⟨rfl, nd, rfl⟩
                have HI := Lib.hid (HH.out.tt ((Fr.refl _ _).drewN nd))
                have FI := Lib.hid (FH.out.trans (fr_dN nd))
                clear KS HH FH
                go_wp2
                go_roundw
                case rel => exact ⟨k + 1, bt1, M1, D, by omega, by go_num, rfl, HI.out, FI.out⟩
                case measure => simp [intOf]; omega
              · have n5a : (x == 5) = false := by simpa using h5
                have HB := HB1
                have FF := FF1
                clear HB1 FF1
                go_wp2_with fail
                clear hW1
                have KC := Lib.hid (clients_calls W1 n bt M HB.out.tab (by have := HB.out.rel.few; omega))
                rw [HB.out.rel.clients] at KC
                go_wp2_with fail
                with_reducible refine KC.out.mono ?_
                rintro e1 v1 ⟨⟨cv, rfl, hcr⟩, g1⟩
                have CV := Lib.hid hcr.ints
                have HC := Lib.hid (HB.out.tt g1)
                have FC := Lib.hid (FF.out.trans (fr_ttl g1))
                clear hcr g1 KC HB FF
                have KC := Lib.hid (pack_calls v1 n bt M HC.out.tab (by have := HC.out.rel.few; omega) (fun x hx => by have := HC.out.rel.rng x hx; omega))
                rw [HC.out.rel.sort] at KC
                go_wp2_with fail
                with_reducible refine KC.out.mono ?_
                rintro e1 v2 ⟨⟨pa, pc, rfl, hpb⟩, g2⟩
                have PB := Lib.hid hpb
                have CV2 := Lib.hid (CV.out.tt g2)
                have HD := Lib.hid (HC.out.tt g2)
                have FD := Lib.hid (FC.out.trans (fr_ttl g2))
                clear hpb g2 KC HC FC CV
                have KC := Lib.hid (dclients_calls v2 n bk D HD.out.doc)
                go_wp2_with fail
                with_reducible refine KC.out.mono ?_
                rintro e1 v3 ⟨⟨dv, rfl, hdr⟩, g3⟩
                have HE := Lib.hid (HD.out.tt g3)
                have FE := Lib.hid (FD.out.trans (fr_ttl g3))
                have PB3 := Lib.hid (PB.out.tt g3)
                have KN := Lib.hid (nums_calls v3 _ _ _ _ (CV2.out.tt g3) hdr.ints (by have := manyK_le D 16; rw [cliD_len]; unfold maxLen; omega))
                rw [decide_eq_true rfl] at KN
                clear hdr g3 KC HD FD PB CV2
                go_wp2_with fail
                with_reducible refine KN.out.mono ?_
                rintro e1 v4 ⟨rfl, g4⟩
                have HG := Lib.hid (HE.out.tt g4)
                have FG := Lib.hid (FE.out.trans (fr_ttl g4))
                have PB4 := Lib.hid (PB3.out.tt g4)
                clear g4 KN HE FE PB3
                have KC := Lib.hid (dpack_calls v4 n bk D HG.out.doc)
                go_wp2_with fail
                with_reducible refine KC.out.mono ?_
                rintro e1 v5 ⟨⟨qa, qc, rfl, hq⟩, g5⟩
                have HH := Lib.hid (HG.out.tt g5)
                have FH := Lib.hid (FG.out.trans (fr_ttl g5))
                have KS := Lib.hid (same_calls v5 _ _ _ _ (PB4.out.tt g5) (BytesAt.of_own hq rfl) (by rw [← packD_all]; have := packD_len D 16 (by omega); omega))
                rw [decide_eq_true rfl] at KS
                clear hq g5 KC HG FG PB4
                generalize packL (entD D 16) = pkl at *
                go_wp2_with fail
                with_reducible refine KS.out.mono ?_
                rintro e1 v6 ⟨rfl, nd, rfl⟩
                have HI := Lib.hid (HH.out.tt ((Fr.refl _ _).drewN nd))
                have FI := Lib.hid (FH.out.trans (fr_dN nd))
                clear KS HH FH
                go_wp2
                go_roundw
                case rel => exact ⟨k + 1, bt, M, D, by omega, by go_num, rfl, HI.out, FI.out⟩
                case measure => simp [intOf]; omega
    · obtain rfl : k = len := by omega
      go_wp2
      go_ret
      exact ⟨rfl, FF0.out⟩

set_option maxRecDepth 100000 in
theorem ops_at2 {w : World} {a : Option Addr} {len cap : Nat} (h : Rd Try.prog w 36 [.slice a len cap]) (hl : 0 < len) :
    ∃ b off, a = some ⟨b, off, none⟩ ∧ ∀ i, i < len → ∃ x y z v bs, OpAt w b off i x y z v bs ∧ bs.length ≤ maxLen := by
  obtain ⟨a', len', cap', hv, _, _, _, hc⟩ := h.slice (sz := 4) Try.underlying36 (by kernel_rfl)
  obtain ⟨rfl, rfl, rfl⟩ : a = a' ∧ len = len' ∧ cap = cap' := by simpa using hv
  have key : ∀ i, i < len → ∃ ad x y z v bs, a = some ad ∧ w.cell? (ad.add (i * 4)) = some (.int .i64 x) ∧ w.cell? (ad.add (i * 4 + 1)) = some (.int .i64 y) ∧ w.cell? (ad.add (i * 4 + 2)) = some (.int .u32 z) ∧ w.cell? (ad.add (i * 4 + 3)) = some v ∧ 0 ≤ z ∧ z < 4294967296 ∧ BytesAt (fun b _ => b < w.heap.size) w v bs ∧ bs.length ≤ maxLen := by
    intro i hi
    obtain ⟨ad, cs, ha, hcl, hat, hr⟩ := hc i hi
    obtain ⟨_, hf⟩ := hr.struct (sz := 4) Try.underlying38 (by kernel_rfl)
    obtain ⟨c0, c1, c2, c3, rfl⟩ := list4 hcl
    obtain ⟨x, hx, _⟩ := (show Rd Try.prog w 3 [c0] from hf 0 _ rfl).int Try.underlying3
    obtain ⟨y, hy, _⟩ := (show Rd Try.prog w 3 [c1] from hf 1 _ rfl).int Try.underlying3
    obtain ⟨z, hz, hzw⟩ := (show Rd Try.prog w 30 [c2] from hf 2 _ rfl).int Try.underlying30
    obtain ⟨bs, hb, hbl⟩ := (show Rd Try.prog w 31 [c3] from hf 3 _ rfl).bytes Try.underlying31 Try.underlying5 (by kernel_rfl)
    obtain ⟨z0, z1⟩ := bounds_u32 hzw
    have hx' : c0 = .int .i64 x := by injection hx
    have hy' : c1 = .int .i64 y := by injection hy
    have hz' : c2 = .int .u32 z := by injection hz
    subst hx' hy' hz'
    exact ⟨ad, x, y, z, c3, bs, ha, hat 0 (by omega), hat 1 (by omega), hat 2 (by omega), hat 3 (by omega), z0, by omega, hb, hbl⟩
  obtain ⟨ad, x, y, z, v, bs, ha, e0, _⟩ := key 0 hl
  rw [Nat.zero_mul] at e0
  obtain ⟨b, off, rfl⟩ := spot_of e0
  refine ⟨b, off, ha, fun i hi => ?_⟩
  obtain ⟨ad', x, y, z, v, bs, ha', e0, e1, e2, e3, h4, h5, h6, h7⟩ := key i hi
  rw [ha] at ha'
  cases ha'
  simp only [add_at] at e0 e1 e2 e3
  exact ⟨x, y, z, v, bs, ⟨e0, e1, e2, e3, h4, h5, h6⟩, h7⟩



theorem plays_main (W : World) (a0 : Option Addr) (len0 cap0 : Nat) (r0 : Rd Try.prog W 36 [.slice a0 len0 cap0]) :
    Calls Try.prog 6 #[.slice a0 len0 cap0] W fun e w' => e = .returned (.bool true) ∧ Below W.heap.size W w' := by
  refine Calls.mono (R := fun e w' => e = .returned (.bool true) ∧ Fr (fun b _ => b < W.heap.size) W w') ?_ fun e w' ⟨he, hf⟩ => ⟨he, hf.below (Nat.le_refl _)⟩
  by_cases hl : len0 ≤ 80
  · by_cases h0 : 0 < len0
    · obtain ⟨b, off, ha, hops⟩ := ops_at2 r0 h0
      exact plays_short W a0 len0 cap0 b off (fun _ => ha) hops hl
    · exact plays_short W a0 len0 cap0 0 0 (fun h => absurd h h0) (fun i hi => by omega) hl
  · obtain ⟨a', len', cap', hv, _, hm, _, hc⟩ := r0.slice (sz := 4) Try.underlying36 (by kernel_rfl)
    obtain ⟨rfl, rfl, rfl⟩ : a0 = a' ∧ len0 = len' ∧ cap0 = cap' := by simpa using hv
    exact plays_long W a0 len0 cap0 (by omega) (by unfold maxLen at hm; omega)
end Go.Proofs.Ytkaikckehkcfhaa
