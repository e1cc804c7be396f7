/- Texts of the proofs, part 33: what the functions that they reach do, walked; no conditions beyond those that each states. -/
import Derived.Deep.CutBlock
import Derived.BigQuiet
import Derived.Test.YtcpbmempfeloaaaDoorZz6e90838354
set_option linter.unusedVariables false
set_option linter.unusedSimpArgs false
/- The document's journal: Open. -/
namespace Go.Proofs.YtcpbmempfeloaaaDoor
open Go.RowKit
set_option linter.unusedVariables false
set_option linter.unusedSimpArgs false

/-- What Open's loop has found. -/
structure ScanR (w wr : World) (br l n f p lo : Nat) (G : Nat → Prop) (vh : Value) (T : List (Nat × Value × List UInt8)) : Prop where
  top : wr.heap[w.heap.size]? = some (.cells #[.pointer (some ⟨br, 0, none⟩), .int .i64 (l : Nat), .int .i64 (n : Nat), .int .u64 (f : Nat), .int .u64 (p : Nat), .int .u64 (lo : Nat), vh] 58 (0, 0))
  own : wr.ownsRow 0 124 2 vh T.length (cellsU T)
  ab : ∀ k, vh.ownBlock = some k → w.heap.size < k
  bs : ∀ x ∈ T, x.1 < 4294967296 ∧ x.2.2.length ≤ 43 ∧ BytesAt (KR br G) wr x.2.1 x.2.2
  fr : Fr (fun c _ => c < w.heap.size) w wr
theorem ScanR.tt {w wr w' : World} {br l n f p lo : Nat} {G : Nat → Prop} {vh : Value} {T : List (Nat × Value × List UInt8)} (h : ScanR w wr br l n f p lo G vh T) (hf : Fr (fun _ _ => True) wr w') : ScanR w w' br l n f p lo G vh T :=
  ⟨hf.keep _ _ h.top trivial, ownsRow_fr h.own hf fun _ _ _ _ => trivial, h.ab, fun x hx => ⟨(h.bs x hx).1, (h.bs x hx).2.1, (h.bs x hx).2.2.tt hf⟩, h.fr.tt hf⟩
theorem ScanR.put {w wr w6 : World} {br l n f p lo : Nat} {G : Nat → Prop} {vh v6 : Value} {T : List (Nat × Value × List UInt8)} (h : ScanR w wr br l n f p lo G vh T) (hf : Fr (fun c _ => c ≤ w.heap.size) wr w6) (x : Nat × Value × List UInt8) (hG : ∀ c, G c → c < w.heap.size)
    (ho : w6.ownsRow 0 124 2 v6 (T.length + 1) (cellsU (T ++ [x]))) (hn : ∀ k, v6.ownBlock = some k → w.heap.size < k) (h1 : x.1 < 4294967296) (h2 : x.2.2.length ≤ 43) (hb : BytesAt (KR br G) w6 x.2.1 x.2.2) :
    w6.cell? ⟨w.heap.size, 6, none⟩ = some vh ∧ w6.frozen? ⟨w.heap.size, 6, none⟩ = false ∧ ScanR w (w6.setCell ⟨w.heap.size, 6, none⟩ v6) br l n f p lo G v6 (T ++ [x]) := by
  have t1 := hf.keep _ _ h.top (Nat.le_refl _)
  have F : Fr (fun c _ => c < w.heap.size) w6 (w6.setCell ⟨w.heap.size, 6, none⟩ v6) := (Fr.refl _ _).setCell (fun o _ h => by have h : w.heap.size < w.heap.size := h; omega) _
  refine ⟨cell_mk t1 rfl, frozen_mk t1, heap_setCell_same (o := 6) t1 v6, ?_, hn, fun y hy => ?_, (h.fr.trans (hf.mono fun c _ h => Nat.le_of_lt h)).trans F⟩
  · rw [List.length_append]
    exact ownsRow_setCell_ne ho (fun e => by have h : w.heap.size < w.heap.size := hn _ e; omega) _
  · rcases List.mem_append.1 hy with hy | hy
    · refine ⟨(h.bs y hy).1, (h.bs y hy).2.1, ?_⟩
      have k1 : BytesAt (fun c o => KR br G c o ∧ c < w.heap.size) wr y.2.1 y.2.2 := (h.bs y hy).2.2.mono fun c o _ hc => ⟨hc, hG c hc.1⟩
      exact ((k1.fr (hf.mono fun c _ h => Nat.le_of_lt h.2)).fr (F.mono fun c _ h => h.2)).mono fun _ _ _ h => h.1
    · rw [List.mem_singleton.1 hy]
      refine ⟨h1, h2, ?_⟩
      have k1 : BytesAt (fun c o => KR br G c o ∧ c < w.heap.size) w6 x.2.1 x.2.2 := hb.mono fun c o _ hc => ⟨hc, hG c hc.1⟩
      exact (k1.fr (F.mono fun c _ h => h.2)).mono fun _ _ _ h => h.1
theorem ScanR.rj {w wr : World} {br l n f p lo : Nat} {G : Nat → Prop} {vh : Value} {T : List (Nat × Value × List UInt8)} (h : ScanR w wr br l n f p lo G vh T) (q : Nat) (hbr : br < w.heap.size) (n1 : 1 ≤ n) (n2 : n ≤ 100) (n3 : l ≤ 512) (hf : f < 4294967296) (hq : q < 4294967296) (hl : lo < 4294967296) (hT : T.length ≤ n) (hG : ∀ c, G c → c < w.heap.size) :
    RJ (wr.setCell ⟨w.heap.size, 4, none⟩ (.int .u64 (q : Nat))) w.heap.size br (fun c => G c ∨ w.heap.size ≤ c) ⟨l, n, f, q, lo, T.map fun x => (x.1, x.2.2)⟩ := by
  have F : Fr (fun c _ => c < w.heap.size) wr (wr.setCell ⟨w.heap.size, 4, none⟩ (.int .u64 (q : Nat))) := (Fr.refl _ _).setCell (fun o _ h => by have h : w.heap.size < w.heap.size := h; omega) _
  refine ⟨vh, T, heap_setCell_same (o := 4) h.top _, ?_, rfl, fun x hx => ?_, ⟨.inr (Nat.le_refl _), by omega⟩, ⟨n1, n2, n3, hf, hq, hl, by simpa using hT, fun x hx => ?_⟩⟩
  · refine RecsU.of_own (ownsRow_setCell_ne h.own (fun e => by have h : w.heap.size < w.heap.size := h.ab _ e; omega) _) fun c e => ?_
    have := h.ab c e
    exact ⟨.inr (by omega), by omega, by omega⟩
  · have k1 : BytesAt (fun c o => KR br G c o ∧ c < w.heap.size) wr x.2.1 x.2.2 := (h.bs x hx).2.2.mono fun c o _ hc => ⟨hc, hG c hc.1⟩
    exact (k1.fr (F.mono fun c _ h => h.2)).mono fun c _ _ h => ⟨.inl h.1.1, h.1.2, by have := h.2; omega⟩
  · obtain ⟨y, hy, rfl⟩ := List.mem_map.1 hx
    exact ⟨(h.bs y hy).1, (h.bs y hy).2.1⟩

set_option maxRecDepth 100000 in
theorem place_cells (w : World) (bk l n s : Nat) (c1 : w.cell? ⟨bk, 1, none⟩ = some (.int .i64 (l : Nat))) (c2 : w.cell? ⟨bk, 2, none⟩ = some (.int .i64 (n : Nat))) (n1 : 1 ≤ n) (n2 : n ≤ 100) (n3 : l ≤ 512) (hs : s < 4294967296) :
    Calls Tryd.prog 65 #[.pointer (some ⟨bk, 0, none⟩), .int .u64 (s : Nat)] w fun e w' => e = .returned (.int .i64 (l + 2 + s % n : Nat)) ∧ Fr (fun _ _ => True) w w' := by
  have e0 : (n : Int) % 18446744073709551616 = n := by omega
  have e1 : 0 ≤ (s : Int) % n := Int.emod_nonneg _ (by omega)
  have e2 : (s : Int) % n < n := Int.emod_lt_of_pos _ (by omega)
  go_enter Tryd.func65, Tryd.ntmps65
  go_wp2
  go_region
  all_goals
    go_wp2
    go_ret
    exact ⟨by push_cast; rfl, (Fr.refl _ _).drew⟩

/-- What Open leaves. -/
def ROpen (w : World) (br : Nat) (G : Nat → Prop) (J : Jn) (E9 : Dk) (e : Ending) (w' : World) : Prop :=
  e = .returned (.tuple #[.pointer (some ⟨w.heap.size, 0, none⟩), .int .i64 0]) ∧ Rdk w' br (fun c => (G c ∨ w.heap.size ≤ c) ∧ c ≠ w.heap.size) E9 ∧ RJ w' w.heap.size br (fun c => G c ∨ w.heap.size ≤ c) J ∧ Fr (fun c _ => c ≠ br) w w'

set_option maxRecDepth 100000 in
set_option maxHeartbeats 4000000 in
theorem ropen_main (w : World) (br : Nat) (G : Nat → Prop) (E : Dk) (l n : Nat) (hr : Rdk w br G E) (hGs : ∀ c, G c → c < w.heap.size) (hq : E.pend.length < 1000000) (h1 : 1 ≤ n) (h2 : n ≤ 100) (h3 : l + 2 + n ≤ E.sure.length) (hm5 : E.sure.length ≤ 512) (f p lo : Nat) (hjs : jslot E l = (f, p, lo, true)) (hp : p < 4294967295) (hfn : f + n < 4294967296) (hf0 : 0 < f) (hlo : lo ≤ p) (J : Jn) (hJ : J = ⟨l, n, f, p + 1, lo, jheld E l n f p lo⟩) (E9 : Dk) (hsv : jsave J E = (0, E9)) :
    Calls Tryd.prog 24 #[.pointer (some ⟨br, 0, none⟩), .int .i64 (l : Nat), .int .i64 (n : Nat)] w (ROpen w br G J E9) := by
  have hbr : br < w.heap.size := by obtain ⟨_, _, _, _, _, hh⟩ := hr; exact lt_of_some hh.top
  have HSV := Lib.hid hsv
  have HJ := Lib.hid hJ
  clear hsv hJ
  have i1 : decide ((n : Int) < 1) = false := by simp; omega
  have i2 : decide ((100 : Int) < n) = false := by simp; omega
  have HL := Lib.hid (r_len w br G E hr)
  obtain ⟨ls, lb, lw, hla⟩ : ∃ ls lb lw, lastM E l = (ls, lb, lw) := ⟨_, _, _, rfl⟩
  have HSL := Lib.hid (jslot_last E l ls lb lw (by omega) hla)
  have HLA := Lib.hid hla
  have HJS := Lib.hid hjs
  have HPP := Lib.hid hp
  clear hjs hp
  obtain ⟨m, hm⟩ : ∃ m, E.sure.length = m := ⟨_, rfl⟩
  have HM := Lib.hid hm
  rw [hm] at HL h3 hm5
  have h0' : decide ((l : Int) < 0) = false := by simp
  have h3' : decide ((m : Int) < l) = false := by simp; omega
  have hw1 : IntKind.i64.wrap ((l : Int) + 2) = l + 2 := IntWalk.i64_in _ (by omega)
  have hw2 : IntKind.i64.wrap ((l : Int) + 2 + n) = l + 2 + n := IntWalk.i64_in _ (by omega)
  have h4 : (l : Int) + 2 + n ≤ m := by omega
  have HR := Lib.hid hr
  have HQ := Lib.hid hq
  have HGS := Lib.hid hGs
  obtain ⟨W1, hW1⟩ : ∃ W1, w.alloc (.cells #[.pointer (some ⟨br, 0, none⟩), .int .i64 (l : Nat), .int .i64 (n : Nat), .int .u64 1, .int .u64 0, .int .u64 0, .slice none 0 0] 58 (0, 0)) = W1 := ⟨_, rfl⟩
  have F1 : Hid (Fr (fun _ _ => True) w W1) := hW1 ▸ (Fr.refl _ _).alloc _
  have K1 : Hid (W1.heap[w.heap.size]? = some (.cells #[.pointer (some ⟨br, 0, none⟩), .int .i64 (l : Nat), .int .i64 (n : Nat), .int .u64 1, .int .u64 0, .int .u64 0, .slice none 0 0] 58 (0, 0))) := hW1 ▸ heap_alloc_new w _
  have LC := Lib.hid (r_last W1 br G E l l rfl (hr.tt F1.out) (by omega) ls lb lw hla)
  clear hr hq hGs hla hm
  go_enter Tryd.func24, Tryd.ntmps24
  go_wp2_with fail
  (with_reducible refine HL.out.mono ?_)
  rintro e w1 ⟨rfl, rfl⟩
  go_wp2_with fail
  (with_reducible refine HL.out.mono ?_)
  rintro e w1 ⟨rfl, rfl⟩
  go_wp2_with fail
  (with_reducible refine LC.out.mono ?_)
  rintro e w2 ⟨⟨a2, c2, rfl, b2⟩, f2⟩
  have B2 := Lib.hid b2
  have F2 := Lib.hid (F1.out.trans f2)
  have K2 : Hid (w2.heap[w.heap.size]? = some (.cells #[.pointer (some ⟨br, 0, none⟩), .int .i64 (l : Nat), .int .i64 (n : Nat), .int .u64 1, .int .u64 0, .int .u64 0, .slice none 0 0] 58 (0, 0))) := f2.keep _ _ K1.out trivial
  clear b2 f2 LC hW1 K1 F1
  go_upto_if 54 with fail
  go_cut [8] (fun v8 wx => v8 = .pointer (some ⟨w.heap.size, 0, none⟩) ∧ Hid (wx.heap[w.heap.size]? = some (.cells #[.pointer (some ⟨br, 0, none⟩), .int .i64 (l : Nat), .int .i64 (n : Nat), .int .u64 (f : Nat), .int .u64 (p : Nat), .int .u64 (lo : Nat), .slice none 0 0] 58 (0, 0))) ∧ Hid (Fr (fun c _ => c < w.heap.size) w wx))
  case first =>
    by_cases hls : ls = 0
    · have hfpl : f = 1 ∧ p = 0 ∧ lo = 0 := by
        have h := HSL.out
        rw [HJS.out, if_pos hls] at h
        injection h with h1 h
        injection h with h2 h
        injection h with h3 h
        exact ⟨h1, h2, h3⟩
      have HF1 := Lib.hid hfpl
      have hl0 : decide (0 < ls) = false := by simp; omega
      have hl0n : ¬ 0 < ls := by omega
      clear hfpl hls
      go_wp2_with fail
      go_meet
      case rel =>
        refine ⟨rfl, ?_, (F2.out.alloc _).mono fun _ _ _ => trivial⟩
        have := ((Fr.refl (fun _ _ => True) w2).alloc (.cells #[.int .u32 (ls : Nat), .int .u32 0, .slice a2 lb.length c2] 116 (0, 0))).keep _ _ K2.out trivial
        show _ = _
        rw [HF1.out.1, HF1.out.2.1, HF1.out.2.2]
        exact this
    · have hl12 : lb.length = 12 := by
        have h := HSL.out
        rw [HJS.out, if_neg hls] at h
        rcases Nat.lt_trichotomy lb.length 12 with q | q | q
        · have := metaM_short lb q; rw [← h] at this; cases this
        · exact q
        · have := metaM_long lb q; rw [← h] at this; cases this
      have hmm : (f, p, lo, true) = metaM lb := by rw [← HJS.out, HSL.out, if_neg hls]
      rw [metaM_12 lb hl12] at hmm
      injection hmm with hf hmm
      injection hmm with hp hmm
      injection hmm with hlo' hok
      have hok' := hok.symm
      rw [← hf, ← hp, ← hlo', Bool.and_eq_true] at hok'
      have hlp : lo ≤ p := hlo
      have HLB := Lib.hid hl12
      rw [hl12] at B2 ⊢
      have hl0 : decide (0 < ls) = true := by simp; omega
      have hl0n : 0 < ls := by omega
      obtain ⟨b, off, rfl⟩ := B2.out.addr (by rw [hl12]; decide)
      have hc12 : 12 ≤ c2 := B2.out.cap
      obtain ⟨W3, hW3⟩ : ∃ W3, w2.alloc (.cells #[.int .u32 (ls : Nat), .int .u32 0, .slice (some ⟨b, off, none⟩) 12 c2] 116 (0, 0)) = W3 := ⟨_, rfl⟩
      have F3 : Hid (Fr (fun _ _ => True) w2 W3) := hW3 ▸ (Fr.refl _ _).alloc _
      have X3 : Hid (W3.heap[w2.heap.size]? = some (.cells #[.int .u32 (ls : Nat), .int .u32 0, .slice (some ⟨b, off, none⟩) 12 c2] 116 (0, 0))) := hW3 ▸ heap_alloc_new w2 _
      have x0 := cell_mk (i := 0) X3.out rfl
      have x2 := cell_mk (i := 2) X3.out rfl
      have K3 := Lib.hid (F3.out.keep _ _ K2.out trivial)
      have z3 := frozen_mk (i := 3) K3.out
      have y3 := cell_mk (i := 3) K3.out rfl
      clear hok hls
      have B3 : Hid (∀ W, Fr (fun c _ => c ≠ w.heap.size) W3 W → BytesAt (KR br G) W (.slice (some ⟨b, off, none⟩) 12 c2) lb) := fun W ff => by
        have h1 : BytesAt (fun c o => KR br G c o ∧ c ≠ w.heap.size) W3 (.slice (some ⟨b, off, none⟩) 12 c2) lb := (B2.out.tt F3.out).mono fun c o _ hc => ⟨hc, fun e => by have := HGS.out c hc.1; omega⟩
        exact (h1.fr (ff.mono fun _ _ h => h.2)).mono fun _ _ _ h => h.1
      have C1 : Hid (∀ W, Fr (fun c _ => c ≠ w.heap.size) W3 W → Calls Tryd.prog 63 #[.slice (some ⟨b, off, none⟩) 4 c2] W fun e w' => e = .returned (.int .u64 (f : Nat)) ∧ W = w') := fun W ff => by
        have h := of_calls W _ _ ((B3.out W ff).piece 0 4 (by rw [HLB.out]; decide) (by omega)) (by simp; omega)
        rw [List.drop_zero, ← hf] at h
        exact h
      have C2 : Hid (∀ W, Fr (fun c _ => c ≠ w.heap.size) W3 W → Calls Tryd.prog 63 #[.slice (some ⟨b, off + 4, none⟩) 4 (c2 - 4)] W fun e w' => e = .returned (.int .u64 (p : Nat)) ∧ W = w') := fun W ff => by
        have h := of_calls W _ _ ((B3.out W ff).piece 4 4 (by rw [HLB.out]; decide) (by omega)) (by simp; omega)
        rw [← hp] at h
        exact h
      have C3 : Hid (∀ W, Fr (fun c _ => c ≠ w.heap.size) W3 W → Calls Tryd.prog 63 #[.slice (some ⟨b, off + 8, none⟩) 4 (c2 - 8)] W fun e w' => e = .returned (.int .u64 (lo : Nat)) ∧ W = w') := fun W ff => by
        have h := of_calls W _ _ ((B3.out W ff).piece 8 4 (by rw [HLB.out]; decide) (by omega)) (by simp; omega)
        rw [← hlo'] at h
        exact h
      have hfp : ((f : Int) == 0) = false := by simp; omega
      have hlp' : decide (p < lo) = false := by simp; omega
      have hwn : w.heap.size ≠ w2.heap.size := by have := lt_of_some K2.out; omega
      clear hf hp hlo'
      obtain ⟨W4, hW4⟩ : ∃ W, W3.setCell ⟨w.heap.size, 3, none⟩ (.int .u64 (f : Nat)) = W := ⟨_, rfl⟩
      have K4 : Hid (W4.heap[w.heap.size]? = some (.cells #[.pointer (some ⟨br, 0, none⟩), .int .i64 (l : Nat), .int .i64 (n : Nat), .int .u64 (f : Nat), .int .u64 0, .int .u64 0, .slice none 0 0] 58 (0, 0))) := hW4 ▸ heap_setCell_same (o := 3) K3.out _
      have FF4 : Hid (Fr (fun c _ => c ≠ w.heap.size) W3 W4) := hW4 ▸ Fr.setCell (Fr.refl _ _) (fun _ _ h => h rfl) _
      have X4 := Lib.hid (FF4.out.keep _ _ X3.out hwn.symm)
      have x24 := cell_mk (i := 2) X4.out rfl
      have z44 := frozen_mk (i := 4) K4.out
      have y44 := cell_mk (i := 4) K4.out rfl
      obtain ⟨W5, hW5⟩ : ∃ W, W4.setCell ⟨w.heap.size, 4, none⟩ (.int .u64 (p : Nat)) = W := ⟨_, rfl⟩
      have K5 : Hid (W5.heap[w.heap.size]? = some (.cells #[.pointer (some ⟨br, 0, none⟩), .int .i64 (l : Nat), .int .i64 (n : Nat), .int .u64 (f : Nat), .int .u64 (p : Nat), .int .u64 0, .slice none 0 0] 58 (0, 0))) := hW5 ▸ heap_setCell_same (o := 4) K4.out _
      have FF5 : Hid (Fr (fun c _ => c ≠ w.heap.size) W3 W5) := hW5 ▸ Fr.setCell (FF4.out) (fun _ _ h => h rfl) _
      have X5 := Lib.hid (FF5.out.keep _ _ X3.out hwn.symm)
      have x25 := cell_mk (i := 2) X5.out rfl
      have z55 := frozen_mk (i := 5) K5.out
      have y55 := cell_mk (i := 5) K5.out rfl
      obtain ⟨W6, hW6⟩ : ∃ W, W5.setCell ⟨w.heap.size, 5, none⟩ (.int .u64 (lo : Nat)) = W := ⟨_, rfl⟩
      have K6 : Hid (W6.heap[w.heap.size]? = some (.cells #[.pointer (some ⟨br, 0, none⟩), .int .i64 (l : Nat), .int .i64 (n : Nat), .int .u64 (f : Nat), .int .u64 (p : Nat), .int .u64 (lo : Nat), .slice none 0 0] 58 (0, 0))) := hW6 ▸ heap_setCell_same (o := 5) K5.out _
      have FF6 : Hid (Fr (fun c _ => c ≠ w.heap.size) W3 W6) := hW6 ▸ Fr.setCell (FF5.out) (fun _ _ h => h rfl) _
      have X6 := Lib.hid (FF6.out.keep _ _ X3.out hwn.symm)
      have x26 := cell_mk (i := 2) X6.out rfl
      have y63 := cell_mk (i := 3) K6.out rfl
      have y64 := cell_mk (i := 4) K6.out rfl
      have y65 := cell_mk (i := 5) K6.out rfl
      have hp9 : ((p : Int) == 4294967295) = false := by have := HPP.out; simp; omega
      go_wp2_with fail
      (with_reducible refine (C1.out W3 (Fr.refl _ _)).mono ?_)
      rintro e w4 ⟨rfl, rfl⟩
      go_wp2_with fail
      (with_reducible refine (C2.out W4 FF4.out).mono ?_)
      rintro e w4 ⟨rfl, rfl⟩
      go_wp2_with fail
      (with_reducible refine (C3.out W5 FF5.out).mono ?_)
      rintro e w4 ⟨rfl, rfl⟩
      go_wp2_with fail
      go_region
      obtain ⟨W7, hW7⟩ : ∃ W, W6.drew = W := ⟨_, rfl⟩
      have K7 : Hid (W7.heap[w.heap.size]? = some (.cells #[.pointer (some ⟨br, 0, none⟩), .int .i64 (l : Nat), .int .i64 (n : Nat), .int .u64 (f : Nat), .int .u64 (p : Nat), .int .u64 (lo : Nat), .slice none 0 0] 58 (0, 0))) := hW7 ▸ K6.out
      have F7 : Hid (Fr (fun c _ => c < w.heap.size) w W7) := hW7 ▸ ((F2.out.mono fun _ _ _ => trivial).trans ((F3.out.mono fun _ _ _ => trivial).trans (FF6.out.mono fun c _ h => by omega))).drew
      rw [hW7]
      go_wp2_with fail
      go_meet
      case rel => exact ⟨rfl, K7, F7⟩
  case rest =>
    obtain ⟨rfl, K7, F7⟩ := hcut
    have hp9 : ((p : Int) == 4294967295) = false := by have := HPP.out; simp; omega
    have y74 := cell_mk (i := 4) K7.out rfl
    have y75 := cell_mk (i := 5) K7.out rfl
    clear B2 K2 F2
    obtain ⟨Q, hQ⟩ : ∃ Q : Nat → Option (Nat × Nat × List UInt8), (fun s => parseP (E.seen.getD (l + 2 + s % n) [])) = Q := ⟨_, rfl⟩
    have HQF : Hid (∀ s, Q s = parseP (E.seen.getD (l + 2 + s % n) [])) := fun s => by rw [← hQ]
    have HJH : Hid (jheld E l n f p lo = scanM Q p n f lo) := by show _ = _; rw [← hQ]; rfl
    clear hQ
    go_upto_block 0 with fail
    go_cut [8] (fun v8 wx => v8 = .pointer (some ⟨w.heap.size, 0, none⟩) ∧ Hid (∃ vh T, ScanR w wx br l n f p lo G vh T ∧ T.length ≤ n ∧ scanM Q p n f lo = T.map fun x => (x.1, x.2.2)))
    case first =>
      go_wp2_with fail
      go_loopw [11, 12] (fun lv iv wr => ∃ (T : List (Nat × Value × List UInt8)) (lx : Nat) (vh : Value), lv = .int .u64 (lx : Nat) ∧ iv = .int .i64 (T.length : Nat) ∧ lx < 4294967296 ∧ T.length ≤ n ∧ Hid (scanM Q p n f lo = (T.map fun x => (x.1, x.2.2)) ++ scanM Q p (n - T.length) (f + T.length) lx) ∧ Hid (ScanR w wr br l n f p lo G vh T)) (fun _ i _ => n - (intOf i).toNat)
      case atStart =>
        have := HPP.out
        exact ⟨[], lo, .slice none 0 0, rfl, rfl, by omega, Nat.zero_le _, rfl, K7.out, ⟨rfl, .inl ⟨rfl, rfl⟩⟩, fun _ e => (by cases e), fun x hx => (by cases hx), F7.out⟩
      case round =>
        obtain ⟨T, lx, vh, rfl, rfl, hlx, hTn, HS, HC⟩ := hrel
        by_cases hlt : T.length < n
        ·
          have hltI : (T.length : Int) < n := by omega
          obtain ⟨sq, hsq⟩ : ∃ sq, f + T.length = sq := ⟨_, rfl⟩
          have hsm : sq < 4294967296 := by omega
          have hs0 : 0 < sq := by omega
          have hwT : IntKind.u64.wrap (T.length : Int) = T.length := by rw [IntKind.wrap_u64]; omega
          have hwS : IntKind.u64.wrap ((f : Int) + (T.length : Int)) = (sq : Int) := by rw [IntKind.wrap_u64]; omega
          have hgt : decide (4294967295 < sq) = false := by simp; omega
          have hgtI : decide ((4294967295 : Int) < sq) = false := by simp; omega
          have y3 := cell_mk (i := 3) HC.out.top rfl
          have PX := Lib.hid (place_cells wr w.heap.size l n sq (cell_mk HC.out.top rfl) (cell_mk HC.out.top rfl) h1 h2 (by omega) hsm)
          obtain ⟨sec, hsec⟩ : ∃ sec, l + 2 + sq % n = sec := ⟨_, rfl⟩
          rw [hsec] at PX
          have hsl : sec < m := by have := Nat.mod_lt sq h1; omega
          have HRr : Hid (Rdk wr br G E) := HR.out.fr HC.out.fr (fun c _ _ hc => HGS.out c hc)
          have RX : Hid (∀ W, Fr (fun _ _ => True) wr W → Calls Tryd.prog 64 #[.pointer (some ⟨br, 0, none⟩), .int .i64 (sec : Nat)] W fun e w' => (∃ a cap, e = .returned (.tuple #[.slice a 64 cap, .int .i64 0]) ∧ BytesAt (KR br G) W (.slice a 64 cap) (E.seen.getD sec [])) ∧ W = w') := fun W ff => r_read_in W br G E sec _ rfl (HRr.out.tt ff) (by rw [HM.out]; exact hsl)
          have HQS : Hid (Q sq = parseP (E.seen.getD sec [])) := by show _ = _; rw [HQF.out, hsec]
          have HSQ := Lib.hid hsq
          clear hsq hsec hp9 y74 y75 HRr
          go_wp2_with fail
          (with_reducible refine PX.out.mono ?_)
          rintro e w3 ⟨rfl, f3⟩
          have F3 := Lib.hid f3
          have R3 := Lib.hid (RX.out w3 f3)
          clear f3 PX RX y3 hwS
          go_wp2_with fail
          (with_reducible refine R3.out.mono ?_)
          rintro e w9 ⟨⟨ar, cr, rfl, br3⟩, rfl⟩
          have PC := Lib.hid (parse05_calls w3 _ _ br3)
          clear br3 R3
          go_wp2_with fail
          (with_reducible refine PC.out.mono ?_)
          rintro e w4 ⟨(⟨hpn, rfl⟩ | ⟨s', p', b, a', cap', hps, rfl, hb⟩), f4⟩
          · have HN := Lib.hid (HQS.out.trans hpn)
            have hne : ((0 : Int) != sq) = true := by simp; omega
            have heq : ((0 : Int) == sq) = false := by simp; omega
            have F4 : Hid (Fr (fun _ _ => True) wr w4) := F3.out.trans f4
            clear hpn f4 PC F3 hwT
            go_wp2_with fail
            go_quiet (fail)
            go_wp2_with fail
            go_meet
            case rel => exact ⟨rfl, vh, T, HC.out.tt ((F4.out.alloc _).drewN _), hTn, by rw [HS.out, HSQ.out, scanM_none HN.out, List.append_nil]⟩
          · have hpos := parseP_pos hps
            have HN := Lib.hid (HQS.out.trans hps)
            have hs1 : s' < 4294967296 := hpos.2.1
            have hp1 : p' < 4294967296 := hpos.2.2.1
            have HBL : Hid (b.length ≤ 43) := hpos.2.2.2
            obtain ⟨WX, hWX⟩ : ∃ W, w4.alloc (.cells #[.int .u32 (s' : Nat), .int .u32 (p' : Nat), .slice a' b.length cap'] 116 (0, 0)) = W := ⟨_, rfl⟩
            have FX : Hid (Fr (fun _ _ => True) wr WX) := hWX ▸ (F3.out.trans f4).alloc _
            have XB : Hid (WX.heap[w4.heap.size]? = some (.cells #[.int .u32 (s' : Nat), .int .u32 (p' : Nat), .slice a' b.length cap'] 116 (0, 0))) := hWX ▸ heap_alloc_new w4 _
            have x0 := cell_mk (i := 0) XB.out rfl
            have x1 := cell_mk (i := 1) XB.out rfl
            have HB : Hid (BytesAt (KR br G) WX (.slice a' b.length cap') b) := hWX ▸ hb.tt ((Fr.refl _ _).alloc _)
            have y4 := cell_mk (i := 4) (HC.out.tt FX.out).top rfl
            have STOP : Hid (¬ (sq ≤ 4294967295 ∧ s' = sq ∧ lx ≤ p' ∧ p' ≤ p) → ∀ w', Fr (fun _ _ => True) WX w' → ∃ vh T, ScanR w w' br l n f p lo G vh T ∧ T.length ≤ n ∧ scanM Q p n f lo = T.map fun x => (x.1, x.2.2)) := fun hn w' f => ⟨vh, T, HC.out.tt (FX.out.trans f), hTn, by rw [HS.out, HSQ.out, scanM_stop HN.out hn, List.append_nil]⟩
            have hpp : p < 4294967295 := HPP.out
            clear hps hb f4 PC F3 hpos hwT
            by_cases q1 : s' = sq
            · subst q1
              have e1 : ((s' : Int) != s') = false := by simp
              by_cases q2 : p' < lx
              · have q2' : decide (p' < lx) = true := by simpa using q2
                go_wp2_with fail
                go_quiet (fail)
                go_wp2_with fail
                go_meet
                case rel => exact ⟨rfl, STOP.out (fun h => by omega) _ ((Fr.refl _ _).drewN _)⟩
              · have q2' : decide (p' < lx) = false := by simp; omega
                by_cases q3 : p < p'
                · have q3' : decide (p < p') = true := by simpa using q3
                  go_wp2_with fail
                  go_quiet (fail)
                  go_wp2_with fail
                  go_meet
                  case rel => exact ⟨rfl, STOP.out (fun h => by omega) _ ((Fr.refl _ _).drewN _)⟩
                · have q3' : decide (p < p') = false := by simp; omega
                  clear STOP
                  go_wp2_with fail
                  go_quiet (fail)
                  obtain ⟨wq, hwq⟩ : ∃ wq, WX.drewN nq = wq := ⟨_, rfl⟩
                  have FXQ : Hid (Fr (fun _ _ => True) WX wq) := hwq ▸ (Fr.refl _ WX).drewN nq
                  rw [hwq]
                  have HCQ := Lib.hid (HC.out.tt (FX.out.trans FXQ.out))
                  have XQ := Lib.hid (FXQ.out.keep _ _ XB.out trivial)
                  obtain ⟨av, cv, rfl⟩ := own_form HC.out.own
                  clear x0 x1 y4 hWX hwq
                  have x1 := cell_mk (i := 1) XQ.out rfl
                  have x2 := cell_mk (i := 2) XQ.out rfl
                  have c6 := cell_mk (i := 6) HCQ.out.top rfl
                  obtain ⟨WB, hWB⟩ : ∃ W, wq.drew.alloc (.cells #[.int .u64 (p' : Nat), .slice a' b.length cap'] 124 (0, 0)) = W := ⟨_, rfl⟩
                  have FWB : Hid (Fr (fun _ _ => True) wq WB) := hWB ▸ ((Fr.refl _ wq).drew).alloc _
                  have HCB := Lib.hid (HCQ.out.tt FWB.out)
                  have c6B := cell_mk (i := 6) HCB.out.top rfl
                  have KB : Hid (RecsU (fun _ => True) WB (.slice (some ⟨wq.heap.size, 0, none⟩) 1 1) [((p' : Nat), Value.slice a' b.length cap', b)]) := RecsU.single b (t := 124) (fz := (0, 0)) (hWB ▸ heap_alloc_new wq.drew _)
                  have ONE : Hid (∀ x ∈ [((p' : Nat), Value.slice a' b.length cap', b)], x.2.1.oneCell' = true) := fun x hx => by rw [List.mem_singleton.1 hx]; rfl
                  have HBB : Hid (BytesAt (KR br G) WB (.slice a' b.length cap') b) := HB.out.tt (FXQ.out.trans FWB.out)
                  have OB := Lib.hid HCB.out.own
                  have hT1 : T.length + 1 ≤ 1000000 := by omega
                  have HQ23 : Hid (lx ≤ p' ∧ p' ≤ p) := ⟨by omega, by omega⟩
                  clear e1 q2 q3 hgt hgtI
                  go_wp2_with fail
                  go_region_law (first
                    | (refine step_append_ru WB rfl _ _ rfl _ T rfl OB _ [((p' : Nat), Value.slice a' b.length cap', b)] rfl KB ONE (T.length + 1) rfl hT1 ?_; intro g6 c6' W6 O6 G6 N6; have AB : Hid (∀ k, (Value.slice g6 (T.length + 1) c6').ownBlock = some k → w.heap.size < k) := N6.out.above (n := w.heap.size + 1) (fun k e => HCB.out.ab k e) (lt_of_some HCB.out.top); have F6 : Hid (Fr (fun c _ => c ≤ w.heap.size) WB W6) := (Fr.refl _ WB).grown G6.out (fun k o e _ hk => by have := HCB.out.ab k e; omega); obtain ⟨c66, z66, s7⟩ := HCB.out.put F6.out ((p' : Nat), Value.slice a' b.length cap', b) HGS.out O6.out AB.out hp1 HBL.out ((((HBB.out.mono (K' := fun c o => KR br G c o ∧ c ≤ w.heap.size) fun c o _ hc => ⟨hc, Nat.le_of_lt (HGS.out c hc.1)⟩).fr (F6.out.mono fun _ _ h => h.2)).mono fun _ _ _ h => h.1)); have S7 := Lib.hid s7; clear s7 O6 G6 N6))
                  all_goals
                    go_wp2
                    go_roundw
                    case rel =>
                      refine ⟨T ++ [((p' : Nat), Value.slice a' b.length cap', b)], p', _, rfl, by rw [List.length_append]; go_num, hp1, by rw [List.length_append]; exact hlt, ?_, S7.out⟩
                      show _ = _
                      have e1 : n - T.length = (n - (T ++ [((p' : Nat), Value.slice a' b.length cap', b)]).length) + 1 := by rw [List.length_append]; show n - T.length = n - (T.length + 1) + 1; omega
                      have e2 : f + (T ++ [((p' : Nat), Value.slice a' b.length cap', b)]).length = s' + 1 := by have := HSQ.out; rw [List.length_append]; show f + (T.length + 1) = _; omega
                      rw [HS.out, HSQ.out, e1, e2, scanM_go HN.out (by omega) HQ23.out.1 HQ23.out.2, List.map_append, List.append_assoc]
                      rfl
                    case measure => simp [intOf]; omega
            · have e1 : ((s' : Int) == sq) = false := by simp; omega
              have e2 : ((s' : Int) != sq) = true := by simp; omega
              go_wp2_with fail
              go_quiet (fail)
              go_wp2_with fail
              go_meet
              case rel => exact ⟨rfl, STOP.out (fun h => q1 h.2.1) _ ((Fr.refl _ _).drewN _)⟩
        · have hge : decide ((T.length : Int) < n) = false := by simp; omega
          have hgeN : decide (T.length < n) = false := by simp; omega
          go_wp2_with fail
          go_meet
          case rel =>
            have e : n - T.length = 0 := by omega
            exact ⟨rfl, vh, T, HC.out, hTn, by rw [HS.out, e]; exact List.append_nil _⟩
    case rest =>
      obtain ⟨rfl, HCC⟩ := hcut
      obtain ⟨vh, T, hc, hTn, hsc⟩ := HCC.out
      have hbk : Hid (w.heap.size < wc.heap.size) := lt_of_some hc.top
      have hq9 : p + 1 < 4294967296 := by have := HPP.out; omega
      have hwp : IntKind.u64.wrap ((p : Int) + 1) = (p : Int) + 1 := by rw [IntKind.wrap_u64]; omega
      have y4 := cell_mk (i := 4) hc.top rfl
      have z4 := frozen_mk (i := 4) hc.top
      obtain ⟨W8, hW8⟩ : ∃ W, wc.setCell ⟨w.heap.size, 4, none⟩ (.int .u64 ((p : Int) + 1)) = W := ⟨_, rfl⟩
      have JX := hc.rj (p + 1) hbr h1 h2 (by omega) (by omega) hq9 (by omega) hTn HGS.out
      rw [show ((p + 1 : Nat) : Int) = (p : Int) + 1 from by omega, hW8, ← hsc, ← HJH.out, ← HJ.out] at JX
      have F8 : Hid (Fr (fun c _ => c < w.heap.size) w W8) := hW8 ▸ hc.fr.setCell (fun o _ h => by have h : w.heap.size < w.heap.size := h; omega) _
      have SX := rsave_calls W8 w.heap.size br _ G J E JX (HR.out.fr F8.out fun c _ _ hc => HGS.out c hc) HQ.out
      rw [HSV.out] at SX
      have SV := Lib.hid SX
      have JX' := Lib.hid JX
      have S8 : Hid (w.heap.size < W8.heap.size) := (by obtain ⟨_, _, hj⟩ := JX; exact lt_of_some hj.top)
      clear hc hsc SX JX
      go_wp2_with fail
      (with_reducible refine SV.out.mono ?_)
      rintro e w9 ⟨rfl, d9, f9⟩
      have D9 := Lib.hid d9
      have F9 := Lib.hid f9
      clear d9 f9 SV
      go_wp2
      go_ret2
      refine ⟨rfl, D9.out.mono fun c hc => ?_, JX'.out.fr F9.out fun _ _ _ _ h => h, Fr.within ((F8.out.mono fun c _ h => h.2).trans (F9.out.mono fun c _ h => h.1))⟩
      rcases hc with hc | hc
      · have := HGS.out c hc
        exact ⟨.inl hc, by omega⟩
      · have := S8.out
        exact ⟨.inr (by omega), by omega⟩
end Go.Proofs.YtcpbmempfeloaaaDoor
/- Law 6: the program's journal and the document's, side by side. -/
namespace Go.Proofs.YtcpbmempfeloaaaDoor
open Go.RowKit
set_option linter.unusedVariables false
set_option linter.unusedSimpArgs false

theorem jopen_parts {E : Dk} {z m : Int} {c : Int} {J : Jn} {E9 : Dk} (h : jopen E z m = (c, some J, E9)) :
    ∃ l n f p lo : Nat, z = l ∧ m = n ∧ 1 ≤ n ∧ n ≤ 100 ∧ l + 2 + n ≤ E.sure.length ∧ c = 0 ∧ jslot E l = (f, p, lo, true) ∧ p ≠ 4294967295 ∧ J = ⟨l, n, f, p + 1, lo, jheld E l n f p lo⟩ ∧ jsave J E = (0, E9) := by
  unfold jopen at h
  by_cases h1 : m < 1 ∨ 100 < m
  · rw [if_pos h1] at h; cases h
  · rw [if_neg h1] at h
    by_cases h2 : z < 0 ∨ (E.sure.length : Int) - 2 - m < z
    · rw [if_pos h2] at h; cases h
    · rw [if_neg h2] at h
      obtain ⟨l, rfl⟩ := Int.eq_ofNat_of_zero_le (show 0 ≤ z by omega)
      obtain ⟨n, rfl⟩ := Int.eq_ofNat_of_zero_le (show 0 ≤ m by omega)
      rw [Int.toNat_natCast, Int.toNat_natCast] at h
      unfold jopenIn at h
      obtain ⟨f, p, lo, ok, hs⟩ : ∃ f p lo ok, jslot E l = (f, p, lo, ok) := ⟨_, _, _, _, rfl⟩
      rw [hs] at h
      simp only at h
      cases ok with
      | false => rw [if_pos rfl] at h; cases h
      | true =>
        rw [if_neg (by decide)] at h
        by_cases h3 : p = 4294967295
        · rw [if_pos h3] at h; cases h
        · rw [if_neg h3] at h
          obtain ⟨c9, E8, h8⟩ : ∃ c9 E8, jsave ⟨l, n, f, p + 1, lo, jheld E l n f p lo⟩ E = (c9, E8) := ⟨_, _, rfl⟩
          rw [h8] at h
          by_cases h4 : c9 = 0
          · rw [if_pos h4] at h
            subst h4
            cases h
            exact ⟨l, n, f, p, lo, rfl, rfl, by omega, by omega, by omega, rfl, hs, h3, rfl, h8⟩
          · rw [if_neg h4] at h; cases h
theorem jslot_ok {E : Dk} {l : Int} {f p lo : Nat} (h : jslot E l = (f, p, lo, true)) : 0 < f ∧ lo ≤ p := by
  unfold jslot at h
  split at h
  · generalize (loadM E l).1 = b at h
    rcases Nat.lt_trichotomy b.length 12 with q | q | q
    · have := metaM_short b q; rw [h] at this; cases this
    · rw [metaM_12 b q] at h
      injection h with h1 h
      injection h with h2 h
      injection h with h3 h
      rw [h1, h2, h3, Bool.and_eq_true] at h
      exact ⟨of_decide_eq_true h.1, of_decide_eq_true h.2⟩
    · have := metaM_long b q; rw [h] at this; cases this
  · cases h; exact ⟨by decide, by decide⟩
theorem ropen_calls (w : World) (br : Nat) (G : Nat → Prop) (E : Dk) (z m : Int) (hr : Rdk w br G E) (hGs : ∀ c, G c → c < w.heap.size) (hq : E.pend.length < 1000000) (hm5 : E.sure.length ≤ 512) {c : Int} {J : Jn} {E9 : Dk} (h : jopen E z m = (c, some J, E9)) (he : J.epoch < 4294967296) (hf : J.first + J.n < 4294967296) :
    Calls Tryd.prog 24 #[.pointer (some ⟨br, 0, none⟩), .int .i64 z, .int .i64 m] w (ROpen w br G J E9) := by
  obtain ⟨l, n, f, p, lo, rfl, rfl, h1, h2, h3, _, hs, hp, hJ, hsv⟩ := jopen_parts h
  obtain ⟨g1, g2⟩ := jslot_ok hs
  have he2 : p + 1 < 4294967296 := by rw [hJ] at he; exact he
  have hf2 : f + n < 4294967296 := by rw [hJ] at hf; exact hf
  exact ropen_main w br G E l n hr hGs hq h1 h2 h3 hm5 f p lo hs (by omega) hf2 g1 g2 J hJ E9 hsv

theorem Rdk.gbr {w : World} {br : Nat} {G : Nat → Prop} {D : Dk} (h : Rdk w br G D) : G br ∧ br < w.heap.size := by
  obtain ⟨_, _, _, _, _, h⟩ := h
  exact ⟨h.gb, lt_of_some h.top⟩
theorem RJ.gbk {w : World} {bk br : Nat} {H : Nat → Prop} {J : Jn} (h : RJ w bk br H J) : H bk ∧ bk ≠ br ∧ bk < w.heap.size := by
  obtain ⟨_, _, h⟩ := h
  exact ⟨h.gb.1, h.gb.2, lt_of_some h.top⟩
theorem St.frk {n : Nat} {P : Nat → Prop} {w w' : World} {bj bd : Nat} {J : Jn} {D : Dk} {K : Nat → Obj → Prop} (h : St n P w bj bd J D) (hf : Fr K w w') (hk : ∀ c o, P c → K c o) : St n P w' bj bd J D :=
  ⟨h.jd.fr hf fun c o _ hc => hk c o hc, h.lo, fun c hc => Nat.lt_of_lt_of_le (h.hi c hc) hf.size⟩
theorem SD.frk {n : Nat} {P : Nat → Prop} {w w' : World} {bd : Nat} {D : Dk} {K : Nat → Obj → Prop} (h : SD n P w bd D) (hf : Fr K w w') (hk : ∀ c o, P c → K c o) : SD n P w' bd D :=
  ⟨h.dd.fr hf fun c o _ hc => hk c o hc, h.lo, fun c hc => Nat.lt_of_lt_of_le (h.hi c hc) hf.size⟩

/-- Both disks. -/
structure Bd (n : Nat) (P : Nat → Prop) (w : World) (bd br : Nat) (D E : Dk) : Prop where
  sd : SD n P w bd D
  dk : Rdk w br (fun c => ¬ P c) E
  lr : n ≤ br
/-- The program's journal, and both disks. -/
structure Be (n : Nat) (P : Nat → Prop) (w : World) (bj bd br : Nat) (J : Jn) (D E : Dk) : Prop where
  st : St n P w bj bd J D
  dk : Rdk w br (fun c => ¬ P c) E
  lr : n ≤ br
/-- Both journals, and both disks. -/
structure Bo (n : Nat) (P : Nat → Prop) (w : World) (bj bd bk br : Nat) (J K : Jn) (D E : Dk) : Prop where
  st : St n P w bj bd J D
  dk : Rdk w br (fun c => ¬ P c ∧ c ≠ bk) E
  jn : RJ w bk br (fun c => ¬ P c) K
  lr : n ≤ br
  lk : n ≤ bk
section
variable {n : Nat} {P P' : Nat → Prop} {w w' : World} {bj bj' bd bk br : Nat} {J J' K K' : Jn} {D D' E E' : Dk}
theorem Bo.tt (h : Bo n P w bj bd bk br J K D E) (f : Fr (fun _ _ => True) w w') : Bo n P w' bj bd bk br J K D E := ⟨h.st.tt f, h.dk.tt f, h.jn.tt f, h.lr, h.lk⟩
theorem Bo.two (h : Bo n P w bj bd bk br J K D E) : Bd n P w bd br D E := ⟨h.st.sd, h.dk.mono fun _ hc => hc.1, h.lr⟩
theorem Bo.be (h : Bo n P w bj bd bk br J K D E) : Be n P w bj bd br J D E := ⟨h.st, h.dk.mono fun _ hc => hc.1, h.lr⟩
theorem Bo.mid (h : Bo n P w bj bd bk br J K D E) (s : St n P' w' bj' bd J' D') (k : Kp P P' w w') : Bo n P' w' bj' bd bk br J' K D' E :=
  ⟨s, (h.dk.inside.fr k.fr (fun c _ _ hc => hc.1.1)).mono (fun c hc => ⟨k.out c hc.2 hc.1.1, hc.1.2⟩), h.jn.kp k, h.lr, h.lk⟩
theorem Bo.doc (h : Bo n P w bj bd bk br J K D E) (d : Rdk w' br (fun c => (¬ P c ∧ c ≠ bk) ∨ w.heap.size ≤ c) E') (j : RJ w' bk br (fun c => ¬ P c ∨ w.heap.size ≤ c) K') (f : Fr (fun c _ => c ≠ br ∧ c ≠ bk) w w') : Bo n P w' bj bd bk br J K' D E' := by
  have hb := h.dk.gbr
  have hk := h.jn.gbk
  have hi := h.st.hi
  refine ⟨h.st.frk f fun c _ hc => ⟨fun e => hb.1.1 (e ▸ hc), fun e => hk.1 (e ▸ hc)⟩, d.mono fun c hc => ?_, j.mono fun c _ hc => ?_, h.lr, h.lk⟩
  · rcases hc with hc | hc
    · exact hc
    · exact ⟨fun hp => by have := hi c hp; omega, by have := hk.2.2; omega⟩
  · rcases hc with hc | hc
    · exact hc
    · exact fun hp => by have := hi c hp; omega
theorem Bd.kp (h : Bd n P w bd br D E) (s : SD n P' w' bd D') (k : Kp P P' w w') : Bd n P' w' bd br D' E := ⟨s, h.dk.kp k, h.lr⟩
theorem Bd.doc (h : Bd n P w bd br D E) (d : Rdk w' br (fun c => ¬ P c ∨ w.heap.size ≤ c) E') (f : Fr (fun c _ => c ≠ br) w w') : Bd n P w' bd br D E' := by
  have hb := h.dk.gbr
  have hi := h.sd.hi
  refine ⟨h.sd.frk f fun c _ hc e => hb.1 (e ▸ hc), d.mono fun c hc => ?_, h.lr⟩
  rcases hc with hc | hc
  · exact hc
  · exact fun hp => by have := hi c hp; omega
theorem Bd.open (h : Bd n P w bd br D E) (s : St n P' w' bj bd J D') (k : Kp P P' w w') : Be n P' w' bj bd br J D' E := ⟨s, h.dk.kp k, h.lr⟩
theorem Be.open (h : Be n P w bj bd br J D E) (hn : n ≤ w.heap.size) {e : Ending} (o : ROpen w br (fun c => ¬ P c ∧ c < w.heap.size) K E' e w') : e = .returned (.tuple #[.pointer (some ⟨w.heap.size, 0, none⟩), .int .i64 0]) ∧ Bo n P w' bj bd w.heap.size br J K D E' ∧ Fr (fun c _ => c ≠ br) w w' := by
  obtain ⟨he, d, j, f⟩ := o
  have hb := h.dk.gbr
  have hi := h.st.hi
  have new : ∀ c, w.heap.size ≤ c → ¬ P c := fun c hc hp => by have := hi c hp; omega
  refine ⟨he, ⟨h.st.frk f fun c _ hc e => hb.1 (e ▸ hc), d.mono fun c hc => ⟨?_, hc.2⟩, j.mono fun c _ hc => ?_, h.lr, hn⟩, f⟩
  · rcases hc.1 with hc | hc
    · exact hc.1
    · exact new c hc
  · rcases hc with hc | hc
    · exact hc.1
    · exact new c hc
end

section
variable {n : Nat} {P : Nat → Prop} {w : World} {bj bd bk br : Nat} {J K : Jn} {D E : Dk} (h : Bo n P w bj bd bk br J K D E)
include h
/-- The document's steps. -/
theorem bo_append (v : Value) (b : List UInt8) (hb : BytesAt (fun c _ => c < n) w v b) (hq : E.pend.length < 1000000) :
    Calls Tryd.prog 25 #[.pointer (some ⟨bk, 0, none⟩), v] w fun e w' => e = .returned (.int .i64 (jappend K E b).1) ∧ Bo n P w' bj bd bk br J (jappend K E b).2.1 D (jappend K E b).2.2 ∧ Fr (fun c _ => c < n) w w' :=
  (rappend_calls w bk br _ _ K E v b h.jn h.dk (hb.mono fun c o _ hc => ⟨fun hp => by have := h.st.lo c hp; omega, by have := h.lr; omega, by have := h.lk; omega⟩) (fun hc => hc.2 rfl) hq).mono fun e w' ⟨he, d, j, f⟩ => ⟨he, h.doc d j f, f.mono fun c _ hc => ⟨by have := h.lr; omega, by have := h.lk; omega⟩⟩
theorem bo_trim (k : Int) (hq : E.pend.length < 1000000) (hfn : K.first + K.held.length < 4294967296) :
    Calls Tryd.prog 27 #[.pointer (some ⟨bk, 0, none⟩), .int .i64 k] w fun e w' => e = .returned (.int .i64 (jtrim K E k).1) ∧ Bo n P w' bj bd bk br J (jtrim K E k).2.1 D (jtrim K E k).2.2 ∧ Fr (fun c _ => c < n) w w' :=
  (rtrim_calls w bk br _ _ K E k h.jn h.dk (fun hc => hc.2 rfl) hq hfn).mono fun e w' ⟨he, d, j, f⟩ => ⟨he, h.doc d (j.mono fun c _ hc => .inl hc) f, f.mono fun c _ hc => ⟨by have := h.lr; omega, by have := h.lk; omega⟩⟩
theorem bo_cut (k : Int) (hq : E.pend.length < 900000) (hfn : K.first + K.held.length < 4294967296) :
    Calls Tryd.prog 28 #[.pointer (some ⟨bk, 0, none⟩), .int .i64 k] w fun e w' => e = .returned (.int .i64 (jcut K E k).1) ∧ Bo n P w' bj bd bk br J (jcut K E k).2.1 D (jcut K E k).2.2 ∧ Fr (fun c _ => c < n) w w' :=
  (rcut_calls w bk br _ _ K E k h.jn h.dk (fun hc => hc.2 rfl) hq hfn).mono fun e w' ⟨he, d, j, f⟩ => ⟨he, h.doc d (j.mono fun c _ hc => .inl hc) f, f.mono fun c _ hc => ⟨by have := h.lr; omega, by have := h.lk; omega⟩⟩
theorem bo_sync :
    Calls Tryd.prog 26 #[.pointer (some ⟨br, 0, none⟩)] w fun e w' => e = .returned (.tuple #[]) ∧ Bo n P w' bj bd bk br J K D E.sync ∧ Fr (fun c _ => c < n) w w' :=
  (r_sync w br _ E h.dk).mono fun e w' ⟨he, d, f⟩ => ⟨he, h.doc d ((h.jn.fr f fun c o _ _ h => h).mono fun c _ hc => .inl hc) (f.mono fun c _ hc => hc.1), f.mono fun c _ hc => by have := h.lr; omega⟩
end
theorem be_open {n : Nat} {P : Nat → Prop} {w : World} {bj bd br : Nat} {J K : Jn} {D E E' : Dk} {z m c : Int} (h : Be n P w bj bd br J D E) (hn : n ≤ w.heap.size) (hq : E.pend.length < 1000000) (ho : jopen E z m = (c, some K, E')) (he : K.epoch < 4294967296) (hf : K.first + K.n < 4294967296) :
    Calls Tryd.prog 24 #[.pointer (some ⟨br, 0, none⟩), .int .i64 z, .int .i64 m] w fun e w' => ∃ bk, e = .returned (.tuple #[.pointer (some ⟨bk, 0, none⟩), .int .i64 0]) ∧ Bo n P w' bj bd bk br J K D E' ∧ Fr (fun c _ => c < n) w w' :=
  (ropen_calls w br _ E z m h.dk.inside (fun c hc => hc.2) hq h.dk.gd.ok.max ho he hf).mono fun e w' o => by
    obtain ⟨h1, h2, h3⟩ := h.open hn o
    exact ⟨_, h1, h2, h3.mono fun c _ hc => by have := h.lr; omega⟩
theorem bd_crash {K : Nat → Obj → Prop} {n : Nat} {P : Nat → Prop} {w : World} {bd br : Nat} {D E : Dk} (h : Bd n P w bd br D E) (pa : Option Addr) (pn pc : Nat) (zs : List Int) (hp : IntsAt K w (.slice pa pn pc) zs) :
    Calls Tryd.prog 29 #[.pointer (some ⟨br, 0, none⟩), .slice pa pn pc] w fun e w' => e = .returned (.tuple #[]) ∧ Bd n P w' bd br D (E.crash zs) ∧ Fr (fun c _ => c < n) w w' :=
  (r_crash w br _ E pa pn pc zs h.dk hp).mono fun e w' ⟨he, d, f⟩ => ⟨he, h.doc d f, f.mono fun c _ hc => by have := h.lr; omega⟩
/-- What the law reads of both. -/
theorem Bo.lens {n : Nat} {P : Nat → Prop} {w : World} {bj bd bk br : Nat} {J K : Jn} {D E : Dk} (h : Bo n P w bj bd bk br J K D E) : ∃ a c a' c', ∀ W, Fr (fun _ _ => True) w W → W.cell? ⟨bk, 6, none⟩ = some (.slice a K.held.length c) ∧ W.cell? ⟨br, 1, none⟩ = some (.slice a' E.pend.length c') := by
  obtain ⟨vh, T, hj⟩ := h.jn
  obtain ⟨a, c, rfl⟩ := hj.row.form
  obtain ⟨vs, vp, T', fused, left, hd⟩ := h.dk
  obtain ⟨a', c', rfl⟩ := own_form hd.pend
  have e1 : K.held.length = T.length := hj.len.symm
  have e2 : E.pend.length = T'.length := by rw [hd.tr, List.length_map]
  refine ⟨a, c, a', c', fun W f => ?_⟩
  rw [e1, e2]
  exact ⟨cell_mk (f.keep _ _ hj.top trivial) rfl, cell_mk (f.keep _ _ hd.top trivial) rfl⟩
end Go.Proofs.YtcpbmempfeloaaaDoor
