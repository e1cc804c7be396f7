/- Texts of the proofs, part 39: what the functions that they reach do, walked; no conditions beyond those that each states. -/
import Derived.Test.YtlolfcnfcgegdaaGreatZz81767deed3
set_option linter.unusedVariables false
set_option linter.unusedSimpArgs false
/- The document's service: Apply: renews (printed by dapply20.py). -/
namespace Go.Proofs.YtlolfcnfcgegdaaGreat
open Go.RowKit
set_option linter.unusedVariables false
set_option linter.unusedSimpArgs false

set_option maxRecDepth 100000 in
set_option maxHeartbeats 8000000 in
theorem dap_renew {n : Nat} {G : Nat → Prop} {K : Nat → Obj → Prop} (w : World) (bd d1 d2 : Nat) (M : MT) (L : Lk) (v : Value) (b : List UInt8) (h : DS n G w bd d1 d2 M L) (hn : n ≤ w.heap.size) (hb : BytesAt K w v b) (hm : b.length ≤ 1000000) (op cl sq rg md tk tm : Nat) (hd : decM b = (⟨(op : Nat), (cl : Nat), sq, (rg : Nat), (md : Nat), tk, tm⟩, 0)) (hop : op = 5) (hsq : sq < 4294967296) (hc : (askM M (cl : Nat) (sq : Nat)).2.2 = 0) (hg : (askM M (cl : Nat) (sq : Nat)).2.1 = false) (oc ov : Nat) (OL : Lk) (hO : renewM L cl rg tk = ((ov, oc), OL)) (hoc : oc < 256) (hov : ov < 18446744073709551616) :
    Calls Tryz.prog 11 #[.pointer (some ⟨bd, 0, none⟩), v] w fun e w' => e = .returned (vR ⟨oc, ov⟩) ∧ ∃ G', DS n G' w' bd d1 d2 (doneM M (cl : Nat) (sq : Nat) (rpB ⟨oc, ov⟩)).2 OL ∧ Kh d1 d2 G G' w w' := by
  obtain ⟨W1, hW1⟩ : ∃ W, w.alloc (.cells #[.int .i64 0, .int .u64 0] 38 (0, 0)) = W := ⟨_, rfl⟩
  have F1 : Hid (Fr (fun _ _ => True) w W1) := hW1 ▸ (Fr.refl _ _).alloc _
  have X1 : Hid (W1.heap[w.heap.size]? = some (.cells #[.int .i64 0, .int .u64 0] 38 (0, 0))) := hW1 ▸ heap_alloc_new w _
  have DC := Lib.hid (rdec_calls W1 v b (hb.tt F1.out) hm)
  rw [hd] at DC
  unfold vC at DC
  dsimp only at DC
  have H := Lib.hid h
  have HN := Lib.hid hn
  have HSZ : Hid (w.heap.size < W1.heap.size) := lt_of_some X1.out
  have NB := Lib.hid h.far
  subst hop
  have HSQ := Lib.hid hsq
  obtain ⟨AB, AG, AC, hask⟩ : ∃ a b c, askM M (cl : Nat) (sq : Nat) = (a, b, c) := ⟨_, _, _, rfl⟩
  rw [hask] at hc hg
  dsimp only at hc hg
  subst hc hg
  have HA := Lib.hid hask
  have HO := Lib.hid hO
  have HOC := Lib.hid hoc
  have hwc : IntKind.u8.wrap (oc : Int) = oc := by rw [IntKind.wrap_u8]; omega
  have NC := Lib.hid (fun W => num01_calls W ov 8 (ov : Int) 8 rfl rfl (by decide) hov)
  clear hsq hask hO hoc hov
  clear h hn hd hb hm
  go_enter Tryz.func11, Tryz.ntmps11
  go_wp2_with fail
  (with_reducible refine DC.out.mono ?_)
  rintro e w2 ⟨rfl, f2⟩
  have F2 := Lib.hid (F1.out.trans f2)
  have X2 : Hid (w2.heap[w.heap.size]? = some (.cells #[.int .i64 0, .int .u64 0] 38 (0, 0))) := f2.keep _ _ X1.out trivial
  clear f2 DC
  obtain ⟨W3, hW3⟩ : ∃ W, w2.alloc (.cells #[.int .i64 5, .int .i64 (cl : Nat), .int .u32 (sq : Nat), .int .i64 (rg : Nat), .int .i64 (md : Nat), .int .u64 (tk : Nat), .int .u64 (tm : Nat)] 80 (0, 0)) = W := ⟨_, rfl⟩
  have F3 : Hid (Fr (fun _ _ => True) w2 W3) := hW3 ▸ (Fr.refl _ _).alloc _
  have X3 : Hid (W3.heap[w2.heap.size]? = some (.cells #[.int .i64 5, .int .i64 (cl : Nat), .int .u32 (sq : Nat), .int .i64 (rg : Nat), .int .i64 (md : Nat), .int .u64 (tk : Nat), .int .u64 (tm : Nat)] 80 (0, 0))) := hW3 ▸ heap_alloc_new w2 _
  have XR : Hid (W3.heap[w.heap.size]? = some (.cells #[.int .i64 0, .int .u64 0] 38 (0, 0))) := F3.out.keep _ _ X2.out trivial
  have c0 := cell_mk (i := 0) X3.out rfl
  have FA : Hid (Fr (fun _ _ => True) w W3) := F2.out.trans F3.out
  have SA := Lib.hid (H.out.tt FA.out)
  have KA : Hid (Kh d1 d2 G G w W3) := Kh.same G FA.out
  have U0 : Hid (Fr (fun _ _ => True) W3 W3.drew) := (Fr.refl _ _).drew
  have HNA : Hid (n ≤ W3.heap.size) := Nat.le_trans HN.out FA.out.size
  have BX : Hid (w.heap.size < w2.heap.size) := lt_of_some X2.out
  go_upto_region 15 with fail
  try rw [hW3]
  clear c0
  have CC : Hid (∀ W, Fr (fun _ _ => True) W3 W → W.cell? ⟨bd, 0, none⟩ = some (.pointer (some ⟨d1, 0, none⟩)) ∧ W.cell? ⟨w2.heap.size, 1, none⟩ = some (.int .i64 (cl : Nat)) ∧ W.cell? ⟨w2.heap.size, 2, none⟩ = some (.int .u32 (sq : Nat))) := fun W f => ⟨cell_mk (f.keep _ _ SA.out.top trivial) rfl, cell_mk (f.keep _ _ X3.out trivial) rfl, cell_mk (f.keep _ _ X3.out trivial) rfl⟩
  have ASK := Lib.hid (fun W (f : Fr (fun _ _ => True) W3 W) => ds_ask W (cl : Nat) sq HSQ.out (SA.out.tt f))
  rw [HA.out] at ASK
  clear hW3
  go_region_held3 (fun W => W.cell? ⟨bd, 0, none⟩ = some (.pointer (some ⟨d1, 0, none⟩)) ∧ W.cell? ⟨w2.heap.size, 1, none⟩ = some (.int .i64 (cl : Nat)) ∧ W.cell? ⟨w2.heap.size, 2, none⟩ = some (.int .u32 (sq : Nat)))
    (first | exact CC.out _ U0.out | exact CC.out _ UA.out)
    ((go_at_call 37; go_must ((with_reducible refine (ASK.out _ ?cf).mono ?_); (case cf => exact U0.out); rintro e wa ⟨⟨va, rfl, ba⟩, hwa⟩; have BA : Hid (BytesAt (KD n) wa va AB) := Lib.hid (hwa ▸ ba); have UA : Hid (Fr (fun _ _ => True) W3 wa) := Lib.hid (hwa ▸ U0.out); clear ba hwa)))
  have XA : Hid (wa.heap[w.heap.size]? = some (.cells #[.int .i64 0, .int .u64 0] 38 (0, 0))) := UA.out.keep _ _ XR.out trivial
  have XB : Hid (wa.heap[w2.heap.size]? = some (.cells #[.int .i64 5, .int .i64 (cl : Nat), .int .u32 (sq : Nat), .int .i64 (rg : Nat), .int .i64 (md : Nat), .int .u64 (tk : Nat), .int .u64 (tm : Nat)] 80 (0, 0))) := UA.out.keep _ _ X3.out trivial
  have SB := Lib.hid (SA.out.tt UA.out)
  have KB := Lib.hid (KA.out.trans (Kh.same G UA.out))
  have FB : Hid (Fr (fun _ _ => True) w wa) := FA.out.trans UA.out
  clear ASK CC U0
  obtain ⟨W4, hW4⟩ : ∃ W, wa.alloc (.cells #[.int .i64 0, .int .u64 0] 38 (0, 0)) = W := ⟨_, rfl⟩
  have XO4 : Hid (W4.heap[wa.heap.size]? = some (.cells #[.int .i64 0, .int .u64 0] 38 (0, 0))) := hW4 ▸ heap_alloc_new wa _
  have q0 := cell_mk (i := 0) XO4.out rfl
  have q1 := cell_mk (i := 1) XO4.out rfl
  have y0 := frozen_mk (i := 0) XO4.out
  have y1 := frozen_mk (i := 1) XO4.out
  obtain ⟨W5, hW5, TO, FO⟩ := set2 XO4.out (.int .i64 0) (.int .u64 0)
  have XO := Lib.hid TO
  have F4 : Hid (Fr (fun _ _ => True) wa W4) := hW4 ▸ (Fr.refl _ _).alloc _
  have F5 : Hid (Fr (fun _ _ => True) wa W5) := Lib.hid (Fr.within ((F4.out.mono fun _ _ _ => trivial).trans (FO.mono fun c _ h e => by have := h.2; omega)))
  have XT5 : Hid (W5.heap[w.heap.size]? = some (.cells #[.int .i64 0, .int .u64 0] 38 (0, 0))) := F5.out.keep _ _ XA.out trivial
  have XB5 : Hid (W5.heap[w2.heap.size]? = some (.cells #[.int .i64 5, .int .i64 (cl : Nat), .int .u32 (sq : Nat), .int .i64 (rg : Nat), .int .i64 (md : Nat), .int .u64 (tk : Nat), .int .u64 (tm : Nat)] 80 (0, 0))) := F5.out.keep _ _ XB.out trivial
  have S5 := Lib.hid (SB.out.tt F5.out)
  have K5 := Lib.hid (KB.out.trans (Kh.same G F5.out))
  have LT : Hid (w.heap.size < w2.heap.size ∧ w2.heap.size < wa.heap.size ∧ n ≤ w.heap.size) := ⟨BX.out, lt_of_some XB.out, HN.out⟩
  have U5 : Hid (Fr (fun _ _ => True) W5 W5.drew) := (Fr.refl _ _).drew
  have b0 := cell_mk (i := 0) XB5.out rfl
  clear BA UA XA XB SB KB FB XR X3 SA KA FA F3 TO FO XO4
  go_upto_region 29 with fail
  try rw [hW5]
  clear b0 hW5 hW4 q0 q1 y0 y1
  have CD : Hid (∀ W, Fr (fun c _ => c ≠ d2 ∧ c ≠ wa.heap.size) W5 W → W.cell? ⟨bd, 1, none⟩ = some (.pointer (some ⟨d2, 0, none⟩)) ∧ W.cell? ⟨w2.heap.size, 1, none⟩ = some (.int .i64 (cl : Nat)) ∧ W.cell? ⟨w2.heap.size, 3, none⟩ = some (.int .i64 (rg : Nat)) ∧ W.cell? ⟨w2.heap.size, 5, none⟩ = some (.int .u64 (tk : Nat))) := fun W f => by
    have t := f.keep _ _ XB5.out (by have := LT.out; have := NB.out; omega)
    exact ⟨cell_mk (f.keep _ _ S5.out.top (by have := LT.out; have := NB.out; omega)) rfl, cell_mk t rfl, cell_mk t rfl, cell_mk t rfl⟩
  have QC := Lib.hid (fun W (f : Fr (fun _ _ => True) W5 W) => drenew_calls W d2 cl rg tk L (S5.out.lok.tt f) (Nat.le_trans HN.out (Nat.le_trans (Nat.le_of_lt (by have := LT.out; omega)) (Nat.le_trans F5.out.size f.size))))
  rw [HO.out] at QC
  dsimp only at QC
  go_region_held3 (fun W => W.cell? ⟨bd, 1, none⟩ = some (.pointer (some ⟨d2, 0, none⟩)) ∧ W.cell? ⟨w2.heap.size, 1, none⟩ = some (.int .i64 (cl : Nat)) ∧ W.cell? ⟨w2.heap.size, 3, none⟩ = some (.int .i64 (rg : Nat)) ∧ W.cell? ⟨w2.heap.size, 5, none⟩ = some (.int .u64 (tk : Nat)))
    (first | exact CD.out _ (U5.out.mono fun _ _ _ => trivial) | exact CD.out _ (HK9.out.fr.mono fun _ _ h => h.1) | exact CD.out _ ((HK9.out.fr.mono fun _ _ h => h.1).setCell (fun _ _ h => h.2 rfl) _))
    ((go_at_call 41; go_must ((with_reducible refine (QC.out _ ?cf).mono ?_); (case cf => exact U5.out); rintro e w9 ⟨rfl, G9, T9, K9⟩; have HT9 := Lib.hid T9; have HK9 := Lib.hid ((Kg.same G U5.out).trans K9); have X9 : Hid (w9.heap[wa.heap.size]? = some (.cells #[.int .i64 0, .int .u64 0] 38 (0, 0))) := HK9.out.fr.keep _ _ XO.out (by have := LT.out; have := NB.out; omega); have q0 := cell_mk (i := 0) X9.out rfl; have q1 := cell_mk (i := 1) X9.out rfl; have y0 := frozen_mk (i := 0) X9.out; have y1 := frozen_mk (i := 1) X9.out; clear T9 K9)))
  obtain ⟨W10, hW10, T10, FZ10⟩ := set2r X9.out (.int .i64 (oc : Nat)) (.int .u64 (ov : Nat))
  have XO10 := Lib.hid T10
  have FX := Lib.hid FZ10
  clear T10 FZ10
  go_upto_region 34 with fail
  try rw [hW10]
  clear q0 q1 y0 y1 hW10
  have S9 := Lib.hid (S5.out.setL HT9.out HK9.out)
  have EE := Lib.hid (DS.end2 S9.out (K5.out.trans HK9.out.kh) FX.out X9.out HN.out (by have := LT.out; omega) (by decide))
  have S10 := Lib.hid EE.out.1
  have K10 := Lib.hid EE.out.2
  have XT10 : Hid (W10.heap[w.heap.size]? = some (.cells #[.int .i64 0, .int .u64 0] 38 (0, 0))) := FX.out.keep _ _ (HK9.out.fr.keep _ _ XT5.out (by have := LT.out; have := NB.out; omega)) (by have := LT.out; omega)
  have XB10 : Hid (W10.heap[w2.heap.size]? = some (.cells #[.int .i64 5, .int .i64 (cl : Nat), .int .u32 (sq : Nat), .int .i64 (rg : Nat), .int .i64 (md : Nat), .int .u64 (tk : Nat), .int .u64 (tm : Nat)] 80 (0, 0))) := FX.out.keep _ _ (HK9.out.fr.keep _ _ XB5.out (by have := LT.out; have := NB.out; omega)) (by have := LT.out; omega)
  clear EE FX X9 HT9 HK9 S9 K5 S5 XT5 XB5 XO CD QC U5 F5
  have U0 : Hid (Fr (fun _ _ => True) W10 W10.drew) := (Fr.refl _ _).drew
  have NB2 := Lib.hid S10.out.far
  have CE : Hid (∀ W, Fr (fun c _ => c ≠ d1) W10 W → W.cell? ⟨bd, 0, none⟩ = some (.pointer (some ⟨d1, 0, none⟩)) ∧ W.cell? ⟨w2.heap.size, 1, none⟩ = some (.int .i64 (cl : Nat)) ∧ W.cell? ⟨w2.heap.size, 2, none⟩ = some (.int .u32 (sq : Nat)) ∧ W.cell? ⟨wa.heap.size, 0, none⟩ = some (.int .i64 (oc : Nat)) ∧ W.cell? ⟨wa.heap.size, 1, none⟩ = some (.int .u64 (ov : Nat))) := fun W f => by
    have t1 := f.keep _ _ S10.out.top (by have := NB.out; omega)
    have t2 := f.keep _ _ XB10.out (by have := LT.out; have := NB.out; omega)
    have t3 := f.keep _ _ XO10.out (by have := LT.out; have := NB.out; omega)
    exact ⟨cell_mk t1 rfl, cell_mk t2 rfl, cell_mk t2 rfl, cell_mk t3 rfl, cell_mk t3 rfl⟩
  obtain ⟨BZ, hBZ⟩ : ∃ x, le oc 1 ++ le ov 8 = x := ⟨_, rfl⟩
  have RQ := Lib.hid hBZ
  have EBZ : Hid (rpB ⟨oc, ov⟩ = BZ) := hBZ
  have LBZ : Hid (BZ.length = 9) := by show _ = _; rw [← hBZ]; simp [le_length]
  have DN := Lib.hid (fun (W : World) (a' : Option Addr) (c' : Nat) (f : Fr (fun _ _ => True) W10 W) (hb : RowB W W10.heap.size (.slice a' 9 c') 9 BZ) => ds_done W (cl : Nat) sq (.slice a' 9 c') BZ HSQ.out ((BytesAt.of_own hb LBZ.out).mono fun c o _ h => .inr h.2) (by rw [LBZ.out]; decide) (S10.out.tt f))
  have RO := Lib.hid (fun W => row1b W oc HOC.out)
  clear hBZ
  go_region_held3 (fun W => W.cell? ⟨bd, 0, none⟩ = some (.pointer (some ⟨d1, 0, none⟩)) ∧ W.cell? ⟨w2.heap.size, 1, none⟩ = some (.int .i64 (cl : Nat)) ∧ W.cell? ⟨w2.heap.size, 2, none⟩ = some (.int .u32 (sq : Nat)) ∧ W.cell? ⟨wa.heap.size, 0, none⟩ = some (.int .i64 (oc : Nat)) ∧ W.cell? ⟨wa.heap.size, 1, none⟩ = some (.int .u64 (ov : Nat)))
    (first | exact CE.out _ HK14.out | exact CE.out _ (F13.out.mono fun _ _ _ => trivial) | exact CE.out _ ((F12.out.alloc _).mono fun _ _ _ => trivial) | exact CE.out _ (F12.out.mono fun _ _ _ => trivial) | exact CE.out _ ((U0.out.alloc _).mono fun _ _ _ => trivial) | exact CE.out _ (U0.out.mono fun _ _ _ => trivial))
    (first
      | (go_at_call 44; go_must ((with_reducible refine (NC.out _).mono ?_); rintro e w12 ⟨⟨a12, c12, rfl, b12⟩, f12⟩; obtain ⟨k12, cur12, rfl, _, _⟩ := own_slot b12 (by decide); have F12 : Hid (Fr (fun _ _ => True) W10 w12) := (by first | exact (U0.out.alloc _).trans f12 | exact U0.out.trans f12); have B12 : Hid (BytesAt (New W10.heap.size) w12 (.slice (some ⟨k12, 0, none⟩) 8 c12) (le ov 8)) := Lib.hid ((BytesAt.of_own b12 (le_length _ _)).mono fun c o _ h => ⟨Nat.le_trans (by first | exact U0.out.size | exact (U0.out.alloc _).size) h.1, h.2⟩); (first | (have O12 := Lib.hid (own_tt (RO.out W10.drew) f12)) | skip); clear f12 b12))
      | (go_at_call 43; go_must ((with_reducible refine (DN.out w13 _ _ F13.out O13.out).mono ?_); rintro e w14 ⟨rfl, T14, K14⟩; have S14 := Lib.hid T14; have HK14 : Hid (Fr (fun c _ => c ≠ d1) W10 w14) := Lib.hid ((F13.out.mono fun _ _ _ => trivial).trans K14); clear T14 K14))
      | (refine step_append_rb w12 rfl _ _ rfl W10.heap.size F12.out.size _ 1 (le oc 1) rfl O12 ⟨k12, 0, none⟩ 8 c12 (le ov 8) rfl B12 9 _ RQ (Lib.hid rfl) (by decide) ?_; intro a13 c13 w13 O13 G13; have F13 : Hid (Fr (fun _ _ => True) W10 w13) := F12.out.grown_new G13.out (own_new O12.out); clear G13)
      | (refine step_append_rb (w12.alloc _) rfl _ _ rfl W10.heap.size (F12.out.alloc _).size _ 1 (le oc 1) rfl (Lib.hid (own_basew (RO.out w12) fun k e => Nat.le_trans F12.out.size (own_new (RO.out w12) k e))) ⟨k12, 0, none⟩ 8 c12 (le ov 8) rfl (Lib.hid (B12.out.tt ((Fr.refl _ _).alloc _))) 9 _ RQ (Lib.hid rfl) (by decide) ?_; intro a13 c13 w13 O13 G13; have F13 : Hid (Fr (fun _ _ => True) W10 w13) := (F12.out.alloc _).grown_new G13.out (fun k e => Nat.le_trans F12.out.size (own_new (RO.out w12) k e)); clear G13))
  all_goals
    have X14 : Hid (w14.heap[w.heap.size]? = some (.cells #[.int .i64 0, .int .u64 0] 38 (0, 0))) := HK14.out.keep _ _ XT10.out (by have := LT.out; have := NB.out; omega)
    have XQ : Hid (w14.heap[wa.heap.size]? = some (.cells #[.int .i64 (oc : Nat), .int .u64 (ov : Nat)] 38 (0, 0))) := HK14.out.keep _ _ XO10.out (by have := LT.out; have := NB.out; omega)
    have r0 := cell_mk (i := 0) XQ.out rfl
    have r1 := cell_mk (i := 1) XQ.out rfl
    have q0 := cell_mk (i := 0) X14.out rfl
    have q1 := cell_mk (i := 1) X14.out rfl
    have y0 := frozen_mk (i := 0) X14.out
    have y1 := frozen_mk (i := 1) X14.out
    obtain ⟨WZ, hWZ, TZ, FZ⟩ := set2 X14.out (.int .i64 (oc : Nat)) (.int .u64 (ov : Nat))
    have p0 := cell_mk (i := 0) TZ rfl
    have p1 := cell_mk (i := 1) TZ rfl
    have FZH := Lib.hid FZ
    clear TZ FZ
    go_wp2
    try rw [hWZ]
    refine bodyPost_ret (v := .agg #[.int .i64 (oc : Nat), .int .u64 (ov : Nat)]) (by simp [results, Tryz.results11, go_sem, *]) rfl ⟨rfl, G9, ?_⟩
    try rw [hWZ]
    rw [EBZ.out]
    exact DS.end2 (S14.out) (K10.out.trans (Kh.ses HK14.out)) FZH.out X14.out HN.out (Nat.le_refl _) (by decide)
end Go.Proofs.YtlolfcnfcgegdaaGreat
/- The document's service: Apply: cancels (printed by dapply20.py). -/
namespace Go.Proofs.YtlolfcnfcgegdaaGreat
open Go.RowKit
set_option linter.unusedVariables false
set_option linter.unusedSimpArgs false

set_option maxRecDepth 100000 in
set_option maxHeartbeats 8000000 in
theorem dap_cancel {n : Nat} {G : Nat → Prop} {K : Nat → Obj → Prop} (w : World) (bd d1 d2 : Nat) (M : MT) (L : Lk) (v : Value) (b : List UInt8) (h : DS n G w bd d1 d2 M L) (hn : n ≤ w.heap.size) (hb : BytesAt K w v b) (hm : b.length ≤ 1000000) (op cl sq rg md tk tm : Nat) (hd : decM b = (⟨(op : Nat), (cl : Nat), sq, (rg : Nat), (md : Nat), tk, tm⟩, 0)) (hop : op = 6) (hsq : sq < 4294967296) (hc : (askM M (cl : Nat) (sq : Nat)).2.2 = 0) (hg : (askM M (cl : Nat) (sq : Nat)).2.1 = false) (oc : Nat) (OL : Lk) (hO : cancelM L cl rg = (oc, OL)) (hoc : oc < 256) :
    Calls Tryz.prog 11 #[.pointer (some ⟨bd, 0, none⟩), v] w fun e w' => e = .returned (vR ⟨oc, 0⟩) ∧ ∃ G', DS n G' w' bd d1 d2 (doneM M (cl : Nat) (sq : Nat) (rpB ⟨oc, 0⟩)).2 OL ∧ Kh d1 d2 G G' w w' := by
  obtain ⟨W1, hW1⟩ : ∃ W, w.alloc (.cells #[.int .i64 0, .int .u64 0] 38 (0, 0)) = W := ⟨_, rfl⟩
  have F1 : Hid (Fr (fun _ _ => True) w W1) := hW1 ▸ (Fr.refl _ _).alloc _
  have X1 : Hid (W1.heap[w.heap.size]? = some (.cells #[.int .i64 0, .int .u64 0] 38 (0, 0))) := hW1 ▸ heap_alloc_new w _
  have DC := Lib.hid (rdec_calls W1 v b (hb.tt F1.out) hm)
  rw [hd] at DC
  unfold vC at DC
  dsimp only at DC
  have H := Lib.hid h
  have HN := Lib.hid hn
  have HSZ : Hid (w.heap.size < W1.heap.size) := lt_of_some X1.out
  have NB := Lib.hid h.far
  subst hop
  have HSQ := Lib.hid hsq
  obtain ⟨AB, AG, AC, hask⟩ : ∃ a b c, askM M (cl : Nat) (sq : Nat) = (a, b, c) := ⟨_, _, _, rfl⟩
  rw [hask] at hc hg
  dsimp only at hc hg
  subst hc hg
  have HA := Lib.hid hask
  have HO := Lib.hid hO
  have HOC := Lib.hid hoc
  have hwc : IntKind.u8.wrap (oc : Int) = oc := by rw [IntKind.wrap_u8]; omega
  have NC := Lib.hid (fun W => num01_calls W 0 8 0 8 rfl rfl (by decide) (by decide))
  clear hsq hask hO hoc
  clear h hn hd hb hm
  go_enter Tryz.func11, Tryz.ntmps11
  go_wp2_with fail
  (with_reducible refine DC.out.mono ?_)
  rintro e w2 ⟨rfl, f2⟩
  have F2 := Lib.hid (F1.out.trans f2)
  have X2 : Hid (w2.heap[w.heap.size]? = some (.cells #[.int .i64 0, .int .u64 0] 38 (0, 0))) := f2.keep _ _ X1.out trivial
  clear f2 DC
  obtain ⟨W3, hW3⟩ : ∃ W, w2.alloc (.cells #[.int .i64 6, .int .i64 (cl : Nat), .int .u32 (sq : Nat), .int .i64 (rg : Nat), .int .i64 (md : Nat), .int .u64 (tk : Nat), .int .u64 (tm : Nat)] 80 (0, 0)) = W := ⟨_, rfl⟩
  have F3 : Hid (Fr (fun _ _ => True) w2 W3) := hW3 ▸ (Fr.refl _ _).alloc _
  have X3 : Hid (W3.heap[w2.heap.size]? = some (.cells #[.int .i64 6, .int .i64 (cl : Nat), .int .u32 (sq : Nat), .int .i64 (rg : Nat), .int .i64 (md : Nat), .int .u64 (tk : Nat), .int .u64 (tm : Nat)] 80 (0, 0))) := hW3 ▸ heap_alloc_new w2 _
  have XR : Hid (W3.heap[w.heap.size]? = some (.cells #[.int .i64 0, .int .u64 0] 38 (0, 0))) := F3.out.keep _ _ X2.out trivial
  have c0 := cell_mk (i := 0) X3.out rfl
  have FA : Hid (Fr (fun _ _ => True) w W3) := F2.out.trans F3.out
  have SA := Lib.hid (H.out.tt FA.out)
  have KA : Hid (Kh d1 d2 G G w W3) := Kh.same G FA.out
  have U0 : Hid (Fr (fun _ _ => True) W3 W3.drew) := (Fr.refl _ _).drew
  have HNA : Hid (n ≤ W3.heap.size) := Nat.le_trans HN.out FA.out.size
  have BX : Hid (w.heap.size < w2.heap.size) := lt_of_some X2.out
  go_upto_region 15 with fail
  try rw [hW3]
  clear c0
  have CC : Hid (∀ W, Fr (fun _ _ => True) W3 W → W.cell? ⟨bd, 0, none⟩ = some (.pointer (some ⟨d1, 0, none⟩)) ∧ W.cell? ⟨w2.heap.size, 1, none⟩ = some (.int .i64 (cl : Nat)) ∧ W.cell? ⟨w2.heap.size, 2, none⟩ = some (.int .u32 (sq : Nat))) := fun W f => ⟨cell_mk (f.keep _ _ SA.out.top trivial) rfl, cell_mk (f.keep _ _ X3.out trivial) rfl, cell_mk (f.keep _ _ X3.out trivial) rfl⟩
  have ASK := Lib.hid (fun W (f : Fr (fun _ _ => True) W3 W) => ds_ask W (cl : Nat) sq HSQ.out (SA.out.tt f))
  rw [HA.out] at ASK
  clear hW3
  go_region_held3 (fun W => W.cell? ⟨bd, 0, none⟩ = some (.pointer (some ⟨d1, 0, none⟩)) ∧ W.cell? ⟨w2.heap.size, 1, none⟩ = some (.int .i64 (cl : Nat)) ∧ W.cell? ⟨w2.heap.size, 2, none⟩ = some (.int .u32 (sq : Nat)))
    (first | exact CC.out _ U0.out | exact CC.out _ UA.out)
    ((go_at_call 37; go_must ((with_reducible refine (ASK.out _ ?cf).mono ?_); (case cf => exact U0.out); rintro e wa ⟨⟨va, rfl, ba⟩, hwa⟩; have BA : Hid (BytesAt (KD n) wa va AB) := Lib.hid (hwa ▸ ba); have UA : Hid (Fr (fun _ _ => True) W3 wa) := Lib.hid (hwa ▸ U0.out); clear ba hwa)))
  have XA : Hid (wa.heap[w.heap.size]? = some (.cells #[.int .i64 0, .int .u64 0] 38 (0, 0))) := UA.out.keep _ _ XR.out trivial
  have XB : Hid (wa.heap[w2.heap.size]? = some (.cells #[.int .i64 6, .int .i64 (cl : Nat), .int .u32 (sq : Nat), .int .i64 (rg : Nat), .int .i64 (md : Nat), .int .u64 (tk : Nat), .int .u64 (tm : Nat)] 80 (0, 0))) := UA.out.keep _ _ X3.out trivial
  have SB := Lib.hid (SA.out.tt UA.out)
  have KB := Lib.hid (KA.out.trans (Kh.same G UA.out))
  have FB : Hid (Fr (fun _ _ => True) w wa) := FA.out.trans UA.out
  clear ASK CC U0
  obtain ⟨W4, hW4⟩ : ∃ W, wa.alloc (.cells #[.int .i64 0, .int .u64 0] 38 (0, 0)) = W := ⟨_, rfl⟩
  have XO4 : Hid (W4.heap[wa.heap.size]? = some (.cells #[.int .i64 0, .int .u64 0] 38 (0, 0))) := hW4 ▸ heap_alloc_new wa _
  have q0 := cell_mk (i := 0) XO4.out rfl
  have q1 := cell_mk (i := 1) XO4.out rfl
  have y0 := frozen_mk (i := 0) XO4.out
  have y1 := frozen_mk (i := 1) XO4.out
  obtain ⟨W5, hW5, TO, FO⟩ := set2 XO4.out (.int .i64 0) (.int .u64 0)
  have XO := Lib.hid TO
  have F4 : Hid (Fr (fun _ _ => True) wa W4) := hW4 ▸ (Fr.refl _ _).alloc _
  have F5 : Hid (Fr (fun _ _ => True) wa W5) := Lib.hid (Fr.within ((F4.out.mono fun _ _ _ => trivial).trans (FO.mono fun c _ h e => by have := h.2; omega)))
  have XT5 : Hid (W5.heap[w.heap.size]? = some (.cells #[.int .i64 0, .int .u64 0] 38 (0, 0))) := F5.out.keep _ _ XA.out trivial
  have XB5 : Hid (W5.heap[w2.heap.size]? = some (.cells #[.int .i64 6, .int .i64 (cl : Nat), .int .u32 (sq : Nat), .int .i64 (rg : Nat), .int .i64 (md : Nat), .int .u64 (tk : Nat), .int .u64 (tm : Nat)] 80 (0, 0))) := F5.out.keep _ _ XB.out trivial
  have S5 := Lib.hid (SB.out.tt F5.out)
  have K5 := Lib.hid (KB.out.trans (Kh.same G F5.out))
  have LT : Hid (w.heap.size < w2.heap.size ∧ w2.heap.size < wa.heap.size ∧ n ≤ w.heap.size) := ⟨BX.out, lt_of_some XB.out, HN.out⟩
  have U5 : Hid (Fr (fun _ _ => True) W5 W5.drew) := (Fr.refl _ _).drew
  have b0 := cell_mk (i := 0) XB5.out rfl
  clear BA UA XA XB SB KB FB XR X3 SA KA FA F3 TO FO XO4
  go_upto_region 33 with fail
  try rw [hW5]
  clear b0 hW5 hW4 q0 q1 y0 y1
  have CD : Hid (∀ W, Fr (fun c _ => c ≠ d2 ∧ c ≠ wa.heap.size) W5 W → W.cell? ⟨bd, 1, none⟩ = some (.pointer (some ⟨d2, 0, none⟩)) ∧ W.cell? ⟨w2.heap.size, 1, none⟩ = some (.int .i64 (cl : Nat)) ∧ W.cell? ⟨w2.heap.size, 3, none⟩ = some (.int .i64 (rg : Nat))) := fun W f => by
    have t := f.keep _ _ XB5.out (by have := LT.out; have := NB.out; omega)
    exact ⟨cell_mk (f.keep _ _ S5.out.top (by have := LT.out; have := NB.out; omega)) rfl, cell_mk t rfl, cell_mk t rfl⟩
  have QC := Lib.hid (fun W (f : Fr (fun _ _ => True) W5 W) => dcancel_calls W d2 cl rg L (S5.out.lok.tt f) (Nat.le_trans HN.out (Nat.le_trans (Nat.le_of_lt (by have := LT.out; omega)) (Nat.le_trans F5.out.size f.size))))
  rw [HO.out] at QC
  dsimp only at QC
  go_region_held3 (fun W => W.cell? ⟨bd, 1, none⟩ = some (.pointer (some ⟨d2, 0, none⟩)) ∧ W.cell? ⟨w2.heap.size, 1, none⟩ = some (.int .i64 (cl : Nat)) ∧ W.cell? ⟨w2.heap.size, 3, none⟩ = some (.int .i64 (rg : Nat)))
    (first | exact CD.out _ (U5.out.mono fun _ _ _ => trivial) | exact CD.out _ (HK9.out.fr.mono fun _ _ h => h.1) | exact CD.out _ ((HK9.out.fr.mono fun _ _ h => h.1).setCell (fun _ _ h => h.2 rfl) _))
    ((go_at_call 42; go_must ((with_reducible refine (QC.out _ ?cf).mono ?_); (case cf => exact U5.out); rintro e w9 ⟨rfl, G9, T9, K9⟩; have HT9 := Lib.hid T9; have HK9 := Lib.hid ((Kg.same G U5.out).trans K9); have X9 : Hid (w9.heap[wa.heap.size]? = some (.cells #[.int .i64 0, .int .u64 0] 38 (0, 0))) := HK9.out.fr.keep _ _ XO.out (by have := LT.out; have := NB.out; omega); have q0 := cell_mk (i := 0) X9.out rfl; have q1 := cell_mk (i := 1) X9.out rfl; have y0 := frozen_mk (i := 0) X9.out; have y1 := frozen_mk (i := 1) X9.out; clear T9 K9)))
  obtain ⟨W10, hW10⟩ : ∃ W, w9.setCell ⟨wa.heap.size, 0, none⟩ (.int .i64 (oc : Nat)) = W := ⟨_, rfl⟩
  have XO10 : Hid (W10.heap[wa.heap.size]? = some (.cells #[.int .i64 (oc : Nat), .int .u64 0] 38 (0, 0))) := hW10 ▸ heap_setCell_same (o := 0) X9.out _
  have FX : Hid (Fr (fun c _ => c ≠ wa.heap.size) w9 W10) := hW10 ▸ (Fr.refl _ _).setCell (fun _ _ h => h rfl) _
  go_upto_region 34 with fail
  try rw [hW10]
  clear q0 q1 y0 y1 hW10
  have S9 := Lib.hid (S5.out.setL HT9.out HK9.out)
  have EE := Lib.hid (DS.end2 S9.out (K5.out.trans HK9.out.kh) FX.out X9.out HN.out (by have := LT.out; omega) (by decide))
  have S10 := Lib.hid EE.out.1
  have K10 := Lib.hid EE.out.2
  have XT10 : Hid (W10.heap[w.heap.size]? = some (.cells #[.int .i64 0, .int .u64 0] 38 (0, 0))) := FX.out.keep _ _ (HK9.out.fr.keep _ _ XT5.out (by have := LT.out; have := NB.out; omega)) (by have := LT.out; omega)
  have XB10 : Hid (W10.heap[w2.heap.size]? = some (.cells #[.int .i64 6, .int .i64 (cl : Nat), .int .u32 (sq : Nat), .int .i64 (rg : Nat), .int .i64 (md : Nat), .int .u64 (tk : Nat), .int .u64 (tm : Nat)] 80 (0, 0))) := FX.out.keep _ _ (HK9.out.fr.keep _ _ XB5.out (by have := LT.out; have := NB.out; omega)) (by have := LT.out; omega)
  clear EE FX X9 HT9 HK9 S9 K5 S5 XT5 XB5 XO CD QC U5 F5
  have U0 : Hid (Fr (fun _ _ => True) W10 W10.drew) := (Fr.refl _ _).drew
  have NB2 := Lib.hid S10.out.far
  have CE : Hid (∀ W, Fr (fun c _ => c ≠ d1) W10 W → W.cell? ⟨bd, 0, none⟩ = some (.pointer (some ⟨d1, 0, none⟩)) ∧ W.cell? ⟨w2.heap.size, 1, none⟩ = some (.int .i64 (cl : Nat)) ∧ W.cell? ⟨w2.heap.size, 2, none⟩ = some (.int .u32 (sq : Nat)) ∧ W.cell? ⟨wa.heap.size, 0, none⟩ = some (.int .i64 (oc : Nat)) ∧ W.cell? ⟨wa.heap.size, 1, none⟩ = some (.int .u64 0)) := fun W f => by
    have t1 := f.keep _ _ S10.out.top (by have := NB.out; omega)
    have t2 := f.keep _ _ XB10.out (by have := LT.out; have := NB.out; omega)
    have t3 := f.keep _ _ XO10.out (by have := LT.out; have := NB.out; omega)
    exact ⟨cell_mk t1 rfl, cell_mk t2 rfl, cell_mk t2 rfl, cell_mk t3 rfl, cell_mk t3 rfl⟩
  obtain ⟨BZ, hBZ⟩ : ∃ x, le oc 1 ++ le 0 8 = x := ⟨_, rfl⟩
  have RQ := Lib.hid hBZ
  have EBZ : Hid (rpB ⟨oc, 0⟩ = BZ) := hBZ
  have LBZ : Hid (BZ.length = 9) := by show _ = _; rw [← hBZ]; simp [le_length]
  have DN := Lib.hid (fun (W : World) (a' : Option Addr) (c' : Nat) (f : Fr (fun _ _ => True) W10 W) (hb : RowB W W10.heap.size (.slice a' 9 c') 9 BZ) => ds_done W (cl : Nat) sq (.slice a' 9 c') BZ HSQ.out ((BytesAt.of_own hb LBZ.out).mono fun c o _ h => .inr h.2) (by rw [LBZ.out]; decide) (S10.out.tt f))
  have RO := Lib.hid (fun W => row1b W oc HOC.out)
  clear hBZ
  go_region_held3 (fun W => W.cell? ⟨bd, 0, none⟩ = some (.pointer (some ⟨d1, 0, none⟩)) ∧ W.cell? ⟨w2.heap.size, 1, none⟩ = some (.int .i64 (cl : Nat)) ∧ W.cell? ⟨w2.heap.size, 2, none⟩ = some (.int .u32 (sq : Nat)) ∧ W.cell? ⟨wa.heap.size, 0, none⟩ = some (.int .i64 (oc : Nat)) ∧ W.cell? ⟨wa.heap.size, 1, none⟩ = some (.int .u64 0))
    (first | exact CE.out _ HK14.out | exact CE.out _ (F13.out.mono fun _ _ _ => trivial) | exact CE.out _ ((F12.out.alloc _).mono fun _ _ _ => trivial) | exact CE.out _ (F12.out.mono fun _ _ _ => trivial) | exact CE.out _ ((U0.out.alloc _).mono fun _ _ _ => trivial) | exact CE.out _ (U0.out.mono fun _ _ _ => trivial))
    (first
      | (go_at_call 44; go_must ((with_reducible refine (NC.out _).mono ?_); rintro e w12 ⟨⟨a12, c12, rfl, b12⟩, f12⟩; obtain ⟨k12, cur12, rfl, _, _⟩ := own_slot b12 (by decide); have F12 : Hid (Fr (fun _ _ => True) W10 w12) := (by first | exact (U0.out.alloc _).trans f12 | exact U0.out.trans f12); have B12 : Hid (BytesAt (New W10.heap.size) w12 (.slice (some ⟨k12, 0, none⟩) 8 c12) (le 0 8)) := Lib.hid ((BytesAt.of_own b12 (le_length _ _)).mono fun c o _ h => ⟨Nat.le_trans (by first | exact U0.out.size | exact (U0.out.alloc _).size) h.1, h.2⟩); (first | (have O12 := Lib.hid (own_tt (RO.out W10.drew) f12)) | skip); clear f12 b12))
      | (go_at_call 43; go_must ((with_reducible refine (DN.out w13 _ _ F13.out O13.out).mono ?_); rintro e w14 ⟨rfl, T14, K14⟩; have S14 := Lib.hid T14; have HK14 : Hid (Fr (fun c _ => c ≠ d1) W10 w14) := Lib.hid ((F13.out.mono fun _ _ _ => trivial).trans K14); clear T14 K14))
      | (refine step_append_rb w12 rfl _ _ rfl W10.heap.size F12.out.size _ 1 (le oc 1) rfl O12 ⟨k12, 0, none⟩ 8 c12 (le 0 8) rfl B12 9 _ RQ (Lib.hid rfl) (by decide) ?_; intro a13 c13 w13 O13 G13; have F13 : Hid (Fr (fun _ _ => True) W10 w13) := F12.out.grown_new G13.out (own_new O12.out); clear G13)
      | (refine step_append_rb (w12.alloc _) rfl _ _ rfl W10.heap.size (F12.out.alloc _).size _ 1 (le oc 1) rfl (Lib.hid (own_basew (RO.out w12) fun k e => Nat.le_trans F12.out.size (own_new (RO.out w12) k e))) ⟨k12, 0, none⟩ 8 c12 (le 0 8) rfl (Lib.hid (B12.out.tt ((Fr.refl _ _).alloc _))) 9 _ RQ (Lib.hid rfl) (by decide) ?_; intro a13 c13 w13 O13 G13; have F13 : Hid (Fr (fun _ _ => True) W10 w13) := (F12.out.alloc _).grown_new G13.out (fun k e => Nat.le_trans F12.out.size (own_new (RO.out w12) k e)); clear G13))
  all_goals
    have X14 : Hid (w14.heap[w.heap.size]? = some (.cells #[.int .i64 0, .int .u64 0] 38 (0, 0))) := HK14.out.keep _ _ XT10.out (by have := LT.out; have := NB.out; omega)
    have XQ : Hid (w14.heap[wa.heap.size]? = some (.cells #[.int .i64 (oc : Nat), .int .u64 0] 38 (0, 0))) := HK14.out.keep _ _ XO10.out (by have := LT.out; have := NB.out; omega)
    have r0 := cell_mk (i := 0) XQ.out rfl
    have r1 := cell_mk (i := 1) XQ.out rfl
    have q0 := cell_mk (i := 0) X14.out rfl
    have q1 := cell_mk (i := 1) X14.out rfl
    have y0 := frozen_mk (i := 0) X14.out
    have y1 := frozen_mk (i := 1) X14.out
    obtain ⟨WZ, hWZ, TZ, FZ⟩ := set2 X14.out (.int .i64 (oc : Nat)) (.int .u64 0)
    have p0 := cell_mk (i := 0) TZ rfl
    have p1 := cell_mk (i := 1) TZ rfl
    have FZH := Lib.hid FZ
    clear TZ FZ
    go_wp2
    try rw [hWZ]
    refine bodyPost_ret (v := .agg #[.int .i64 (oc : Nat), .int .u64 0]) (by simp [results, Tryz.results11, go_sem, *]) rfl ⟨rfl, G9, ?_⟩
    try rw [hWZ]
    rw [EBZ.out]
    exact DS.end2 (S14.out) (K10.out.trans (Kh.ses HK14.out)) FZH.out X14.out HN.out (Nat.le_refl _) (by decide)
end Go.Proofs.YtlolfcnfcgegdaaGreat
/- The document's service: Apply; New; Pack. -/
namespace Go.Proofs.YtlolfcnfcgegdaaGreat
open Go.RowKit
set_option linter.unusedVariables false
set_option linter.unusedSimpArgs false

/-- An answer that is kept has nine bytes. -/
def M9 (M : MT) : Prop := ∀ x ∈ M, x.2.1 = 0 ∨ x.2.2.length = 9
theorem M9.nil : M9 [] := fun _ h => by cases h
theorem M9.openM {M : MT} (h : M9 M) (n : Int) : M9 (openM M n).2 := by
  unfold Go.Proofs.YtlolfcnfcgegdaaGreat.openM
  split
  · exact h
  · split
    · exact h
    · split
      · exact h
      · intro x hx
        rcases List.mem_append.1 hx with hx | hx
        · exact h x hx
        · rw [List.mem_singleton.1 hx]; exact .inl rfl
theorem M9.closeM {M : MT} (h : M9 M) (n : Int) : M9 (closeM M n).2 := by
  unfold Go.Proofs.YtlolfcnfcgegdaaGreat.closeM
  split
  · exact fun x hx => h x (List.mem_filter.1 hx).1
  · exact h
theorem M9.doneM {M : MT} (h : M9 M) (n s : Int) (b : List UInt8) (hb : b.length = 9) : M9 (doneM M n s b).2 := by
  unfold Go.Proofs.YtlolfcnfcgegdaaGreat.doneM
  split
  · exact h
  · split
    · intro x hx
      obtain ⟨y, hy, rfl⟩ := List.mem_map.1 hx
      split
      · exact .inr hb
      · exact h y hy
    · exact h
theorem M9.applyM {M : MT} (h : M9 M) (L : Lk) (b : List UInt8) : M9 (applyM M L b).2.1 := by
  unfold Go.Proofs.YtlolfcnfcgegdaaGreat.applyM
  split
  · exact h
  · unfold applyC
    split
    · exact h
    · split
      · exact h.openM _
      · split
        · exact h.closeM _
        · unfold onceM
          split
          · exact h
          · split
            · exact h
            · exact h.doneM _ _ _ (rpB_len _)
theorem MF.applyM {M : MT} (h : MF M) (L : Lk) (b : List UInt8) : MF (applyM M L b).2.1 := by
  unfold Go.Proofs.YtlolfcnfcgegdaaGreat.applyM
  split
  · exact h
  · unfold applyC
    split
    · exact h
    · split
      · exact h.openM _
      · split
        · exact h.closeM _
        · exact h.onceM _ _
theorem M9.ask {M : MT} (h : M9 M) {n s : Int} (hg : (askM M n s).2.1 = true) : (askM M n s).1.length = 9 := by
  unfold askM at hg ⊢
  cases hf : findM M n with
  | none => rw [hf] at hg; cases hg
  | some x =>
    rw [hf] at hg
    dsimp only at hg ⊢
    by_cases q : 0 < s ∧ x.2.1 = s
    · rw [if_pos q]
      rcases h x (findM_key hf).1 with e | e
      · omega
      · exact e
    · rw [if_neg q] at hg; cases hg
theorem packL_short {M : MT} (h : MF M) : (packL (sortM M)).length ≤ 1000 := by
  have hl : (sortM M).length ≤ 6 := by rw [sortM_len]; exact h.few
  have hr : ∀ x ∈ sortM M, x.2.2.length ≤ 9 := fun x hx => by
    unfold sortM at hx
    obtain ⟨c, _, hc⟩ := List.mem_filterMap.1 hx
    exact h.rep x (findM_key hc).1
  generalize sortM M = S at hl hr
  have hs : ∀ S : MT, (∀ x ∈ S, x.2.2.length ≤ 9) → ((S.map entB).flatten).length ≤ S.length * 16 := by
    intro S
    induction S with
    | nil => intro _; exact Nat.le_refl _
    | cons x S ih =>
      intro hx
      have h1 := ih fun y hy => hx y (by simp [hy])
      have h2 := hx x (by simp)
      have h3 : (entB x).length ≤ 16 := by
        unfold entB byt
        simp only [List.length_append, le_length, List.length_take]
        omega
      rw [List.map_cons, List.flatten_cons, List.length_append, List.length_cons]
      omega
  have := hs S hr
  unfold packL
  rw [List.length_append, le_length]
  omega
/-- Apply. -/
theorem dapply_calls {n : Nat} {G : Nat → Prop} {K : Nat → Obj → Prop} (w : World) (bd d1 d2 : Nat) (M : MT) (L : Lk) (v : Value) (b : List UInt8) (h : DS n G w bd d1 d2 M L) (hn : n ≤ w.heap.size) (hb : BytesAt K w v b) (hm : b.length ≤ 1000000) (h9 : M9 M) :
    Calls Tryz.prog 11 #[.pointer (some ⟨bd, 0, none⟩), v] w fun e w' => e = .returned (vR (applyM M L b).1) ∧ ∃ G', DS n G' w' bd d1 d2 (applyM M L b).2.1 (applyM M L b).2.2 ∧ Kh d1 d2 G G' w w' := by
  by_cases he : (decM b).2 = 0
  · obtain ⟨op, cl, sq, rg, md, tk, tm, hd, h1, h7, hsq, htm, hcm⟩ := decM_ok he
    have e : applyM M L b = applyC M L ⟨op, cl, sq, rg, md, tk, tm⟩ := by unfold applyM; rw [if_neg (fun x => x he), hcm]
    rw [e]
    unfold applyC
    dsimp only
    by_cases o7 : op = 7
    · subst o7
      rw [if_pos rfl]
      exact dap_tick w bd d1 d2 M L v b h hn hb hm cl sq rg md tk tm htm hd
    · rw [if_neg o7]
      by_cases o1 : op = 1
      · subst o1
        rw [if_pos rfl]
        exact dap_open w bd d1 d2 M L v b h hn hb hm cl sq rg md tk tm hd _ (openM M (cl : Nat)).2 (by rw [← code_nat _ (openM_code _ _)])
      · rw [if_neg o1]
        by_cases o2 : op = 2
        · subst o2
          rw [if_pos rfl]
          by_cases hk : (closeM M (cl : Nat)).1 = 0
          · rw [if_pos hk, hk]
            exact dap_shut_yes w bd d1 d2 M L v b h hn hb hm cl sq rg md tk tm hd (closeM M (cl : Nat)).2 (Prod.ext hk rfl)
          · rw [if_neg hk]
            exact dap_shut_no w bd d1 d2 M L v b h hn hb hm cl sq rg md tk tm hd _ (closeM M (cl : Nat)).2 (by rw [← code_nat _ (closeM_code _ _)]) (by have := closeM_code M (cl : Nat); omega)
        · rw [if_neg o2]
          have hop : op = 3 ∨ op = 4 ∨ op = 5 ∨ op = 6 := by omega
          by_cases h0 : (askM M (cl : Nat) (sq : Nat)).2.2 = 0
          · by_cases hg : (askM M (cl : Nat) (sq : Nat)).2.1 = true
            · have eo : onceM M L ⟨op, cl, sq, rg, md, tk, tm⟩ = (rpM (askM M (cl : Nat) (sq : Nat)).1, M, L) := by unfold onceM; dsimp only; rw [if_neg (fun x => x h0), if_pos hg]
              rw [eo]
              exact dap_again w bd d1 d2 M L v b h hn hb hm op cl sq rg md tk tm hd hop hsq h0 hg (h9.ask hg)
            · have eo : onceM M L ⟨op, cl, sq, rg, md, tk, tm⟩ = ((opM L ⟨op, cl, sq, rg, md, tk, tm⟩).1, (doneM M (cl : Nat) (sq : Nat) (rpB (opM L ⟨op, cl, sq, rg, md, tk, tm⟩).1)).2, (opM L ⟨op, cl, sq, rg, md, tk, tm⟩).2) := by unfold onceM; dsimp only; rw [if_neg (fun x => x h0), if_neg hg]
              rw [eo]
              have hgf : (askM M (cl : Nat) (sq : Nat)).2.1 = false := by simpa using hg
              have hft := opM_fits h.lok.okk ⟨op, cl, sq, rg, md, tk, tm⟩
              rcases hop with q | q | q | q
              · subst q
                unfold opM at hft ⊢
                dsimp only at hft ⊢
                rw [if_pos rfl] at hft ⊢
                exact dap_acquire w bd d1 d2 M L v b h hn hb hm 3 cl sq rg md tk tm hd rfl hsq h0 hgf (acquireM L cl rg md).1.2 (acquireM L cl rg md).1.1 (acquireM L cl rg md).2 rfl hft.1 hft.2
              · subst q
                unfold opM at hft ⊢
                dsimp only at hft ⊢
                rw [if_neg (by decide), if_pos rfl] at hft ⊢
                exact dap_release w bd d1 d2 M L v b h hn hb hm 4 cl sq rg md tk tm hd rfl hsq h0 hgf (releaseM L cl rg tk).1 (releaseM L cl rg tk).2 rfl hft.1
              · subst q
                unfold opM at hft ⊢
                dsimp only at hft ⊢
                rw [if_neg (by decide), if_neg (by decide), if_pos rfl] at hft ⊢
                exact dap_renew w bd d1 d2 M L v b h hn hb hm 5 cl sq rg md tk tm hd rfl hsq h0 hgf (renewM L cl rg tk).1.2 (renewM L cl rg tk).1.1 (renewM L cl rg tk).2 rfl hft.1 hft.2
              · subst q
                unfold opM at hft ⊢
                dsimp only at hft ⊢
                rw [if_neg (by decide), if_neg (by decide), if_neg (by decide)] at hft ⊢
                exact dap_cancel w bd d1 d2 M L v b h hn hb hm 6 cl sq rg md tk tm hd rfl hsq h0 hgf (cancelM L cl rg).1 (cancelM L cl rg).2 rfl hft.1
          · have eo : onceM M L ⟨op, cl, sq, rg, md, tk, tm⟩ = (⟨(askM M (cl : Nat) (sq : Nat)).2.2.toNat, 0⟩, M, L) := by unfold onceM; dsimp only; rw [if_pos h0]
            rw [eo]
            have hk : ∃ k : Nat, (askM M (cl : Nat) (sq : Nat)).2.2 = (k : Int) := by
              rcases askM_code M (cl : Nat) (sq : Nat) with e | e | e | e
              · exact ⟨0, e⟩
              · exact ⟨60, e⟩
              · exact ⟨80, e⟩
              · exact ⟨81, e⟩
            obtain ⟨k, hk⟩ := hk
            rw [hk, Int.toNat_natCast]
            exact dap_code w bd d1 d2 M L v b h hn hb hm op cl sq rg md tk tm hd hop hsq k (by rw [hk] at h0; omega) hk
  · have e : applyM M L b = (⟨1, 0⟩, M, L) := by unfold applyM; rw [if_pos he]
    rw [e]
    exact dap_bad w bd d1 d2 M L v b h hn hb hm _ (decM b).1 rfl he
set_option maxRecDepth 100000 in
/-- New. -/
theorem dnew_calls {n : Nat} (w : World) (hn : n ≤ w.heap.size) :
    Calls Tryz.prog 8 #[] w fun e w' => (∃ G bd d1 d2, e = .returned (.pointer (some ⟨bd, 0, none⟩)) ∧ DS n G w' bd d1 d2 [] Lk.new ∧ ∀ c, G c → w.heap.size ≤ c) ∧ Fr (fun _ _ => True) w w' := by
  obtain ⟨W1, hW1⟩ : ∃ W, w.alloc (.cells zCells 73 (0, 0)) = W := ⟨_, rfl⟩
  have F1 : Fr (fun _ _ => True) w W1 := hW1 ▸ (Fr.refl _ _).alloc _
  have D1 : D17 W1 n w.heap.size zDT := hW1 ▸ D17.new (heap_alloc_new w _) hn
  obtain ⟨W2, hW2⟩ : ∃ W, W1.alloc (.cells #[.int .u64 0, .int .u64 0, .slice none 0 0, .slice none 0 0, .slice none 0 0, .slice none 0 0, .slice none 0 0, .slice none 0 0, .slice none 0 0, .slice none 0 0] 77 (0, 0)) = W := ⟨_, rfl⟩
  have F2 : Fr (fun _ _ => True) W1 W2 := hW2 ▸ (Fr.refl _ _).alloc _
  have X2 : W2.heap[W1.heap.size]? = some (.cells #[.int .u64 0, .int .u64 0, .slice none 0 0, .slice none 0 0, .slice none 0 0, .slice none 0 0, .slice none 0 0, .slice none 0 0, .slice none 0 0, .slice none 0 0] 77 (0, 0)) := hW2 ▸ heap_alloc_new W1 _
  have hrg : ∀ i, i < 4 → Lk.new.rg i = ⟨[], []⟩ := fun i hi => by
    match i, hi with
    | 0, _ => rfl
    | 1, _ => rfl
    | 2, _ => rfl
    | 3, _ => rfl
  have L2 : DRE n (fun c => c = W1.heap.size) W2 W1.heap.size Lk.new := ⟨fun _ => .slice none 0 0, fun _ => .slice none 0 0, X2, fun i hi => by rw [hrg i hi]; exact RowsAt.nil _ _ _ _, fun i hi => by rw [hrg i hi]; exact RowsAt.nil _ _ _ _, rfl, fun c hc => by subst hc; exact ⟨_, _, _, X2, .inl rfl⟩, fun c hc => by subst hc; exact Nat.le_trans hn F1.size, Lk.new_ok⟩
  obtain ⟨W3, hW3⟩ : ∃ W, W2.alloc (.cells #[.pointer (some ⟨w.heap.size, 0, none⟩), .pointer (some ⟨W1.heap.size, 0, none⟩)] 49 (0, 0)) = W := ⟨_, rfl⟩
  have F3 : Fr (fun _ _ => True) W2 W3 := hW3 ▸ (Fr.refl _ _).alloc _
  have X3 : W3.heap[W2.heap.size]? = some (.cells #[.pointer (some ⟨w.heap.size, 0, none⟩), .pointer (some ⟨W1.heap.size, 0, none⟩)] 49 (0, 0)) := hW3 ▸ heap_alloc_new W2 _
  have H := Lib.hid (⟨X3, Nat.le_trans hn (Nat.le_trans F1.size F2.size), ⟨zDT, (D1.tt F2).tt F3, RelMD.start⟩, L2.tt F3⟩ : DS n (fun c => c = W1.heap.size) W3 W2.heap.size w.heap.size W1.heap.size [] Lk.new)
  have FA := Lib.hid ((F1.trans F2).trans F3)
  have HS := Lib.hid (show w.heap.size ≤ W1.heap.size from F1.size)
  clear F1 F2 F3 X3 X2 D1 L2 hrg hn
  unfold zCells at hW1
  go_enter Tryz.func8, Tryz.ntmps8
  go_wp2
  go_ret
  exact ⟨⟨_, _, rfl, ⟨_, _, H.out⟩, fun c hc => hc ▸ HS.out⟩, FA.out⟩
section
variable {n bd d1 d2 : Nat} {G : Nat → Prop} {M : MT} {L : Lk}
theorem ds_spack (w : World) (h : DS n G w bd d1 d2 M L) : Calls Tryz.prog 19 #[.pointer (some ⟨d1, 0, none⟩)] w fun e w' => (∃ a cap, e = .returned (.slice a (packL (sortM M)).length cap) ∧ RowB w' w.heap.size (.slice a (packL (sortM M)).length cap) (packL (sortM M)).length (packL (sortM M))) ∧ Fr (fun _ _ => True) w w' := by
  obtain ⟨D, hD, hR⟩ := h.ses
  rw [hR.sort]
  exact dpack_calls w n d1 D hD
set_option maxRecDepth 100000 in
set_option maxHeartbeats 2000000 in
theorem dspack_calls (w : World) (h : DS n G w bd d1 d2 M L) (hM : MF M) :
    Calls Tryz.prog 14 #[.pointer (some ⟨bd, 0, none⟩)] w fun e w' => (∃ a cap, e = .returned (.slice a (svB M L).length cap) ∧ BytesAt (New w.heap.size) w' (.slice a (svB M L).length cap) (svB M L)) ∧ Fr (fun _ _ => True) w w' := by
  have H := Lib.hid h
  have KM := Lib.hid (fun W (f : Fr (fun _ _ => True) w W) => ds_spack W (H.out.tt f))
  have KL := Lib.hid (fun W (f : Fr (fun _ _ => True) w W) => dlpack_calls W d2 L (H.out.tt f).lok)
  have ES : Hid (byt (packL (sortM M)) ++ byt (lkB L) = svB M L) := rfl
  have SL := svB_len M L
  have hl1 := packL_short hM
  have hl2 : (lkB L).length ≤ 1000 := by have := lkK_len h.lok.okk 4; show (lkK L 4).length ≤ _; omega
  obtain ⟨X, hX⟩ : ∃ X, packL (sortM M) = X := ⟨_, rfl⟩
  obtain ⟨Y, hY⟩ : ∃ Y, lkB L = Y := ⟨_, rfl⟩
  obtain ⟨Z, hZ⟩ : ∃ Z, svB M L = Z := ⟨_, rfl⟩
  rw [hX] at KM ES hl1
  rw [hY] at KL ES hl2
  rw [hZ] at ES SL ⊢
  clear hX hY hZ h hM
  have LX := byt_length X
  have LY := byt_length Y
  have EN : Hid ((byt X).length + (byt Y).length = Z.length) := by show _ = _; rw [← ES.out, List.length_append]
  have S0 := (H.out.cells w (Fr.refl _ _)).1
  have KM1 := Lib.hid (KM.out w (Fr.refl _ _))
  go_enter Tryz.func14, Tryz.ntmps14
  go_wp2_with fail
  with_reducible refine KM1.out.mono ?_
  rintro e1 w1 ⟨⟨a1, cp1, rfl, hb1⟩, f1⟩
  have F1 := Lib.hid f1
  have K1 := Lib.hid (rbytes_short w1 _ X (BytesAt.of_own hb1 rfl) hl1)
  clear hb1 f1 KM1 S0 KM
  go_wp2_with fail
  with_reducible refine K1.out.mono ?_
  rintro e1 w2 ⟨⟨a2, cp2, rfl, hb2⟩, f2⟩
  have F2 := Lib.hid (F1.out.trans f2)
  have B2 : Hid (RowB w2 w.heap.size (.slice a2 (byt X).length cp2) (byt X).length (byt X)) := Lib.hid (own_basew hb2 fun k e => Nat.le_trans F1.out.size (own_new hb2 k e))
  have S2 := (H.out.cells w2 F2.out).2
  have KL2 := Lib.hid (KL.out w2 F2.out)
  clear hb2 f2 K1 F1 KL
  go_wp2_with fail
  with_reducible refine KL2.out.mono ?_
  rintro e1 w3 ⟨⟨a3, cp3, rfl, hb3⟩, f3⟩
  have F3 := Lib.hid (F2.out.trans f3)
  have B3 := Lib.hid (B2.out.tt f3)
  have K3 := Lib.hid (rbytes_short w3 _ Y hb3 hl2)
  clear hb3 f3 KL2 B2 F2 S2
  go_wp2_with fail
  with_reducible refine K3.out.mono ?_
  rintro e1 w4 ⟨⟨a4, cp4, rfl, hb4⟩, f4⟩
  have F4 := Lib.hid (F3.out.trans f4)
  have B4 := Lib.hid (B3.out.tt f4)
  have N4 := Lib.hid (BytesAt.of_own hb4 rfl)
  clear hb4 f4 K3 B3 F3
  go_wp2_with (at_builtin; refine wpList_append_fr w w4 F4 rfl _ _ rfl (.slice a2 (byt X).length cp2) (byt X).length (byt X) rfl B4 _ (byt Y) rfl N4 Z.length Z ES EN (by omega) ?_)
  intro a5 c5 w5 O5 F5
  go_wp2
  go_ret
  exact ⟨⟨_, _, rfl, BytesAt.of_own O5.out rfl⟩, F5.out⟩
end
end Go.Proofs.YtlolfcnfcgegdaaGreat
/- ServiceOnce (printed by once_law20.py). -/
namespace Go.Proofs.YtlolfcnfcgegdaaGreat
open Go.RowKit
set_option linter.unusedVariables false
set_option linter.unusedSimpArgs false

theorem neq_reply (w : World) (a b : Int) : (binOp .neq 36 (.agg #[.int .i64 a, .int .u64 b]) (.agg #[.int .i64 a, .int .u64 b])).run Tryz.prog w = .ok (.bool false) w := by
  have h := eql_reply w a b a b
  rw [run_eql_struct] at h
  rw [run_neq_struct]
  cases hr : (Op.equalIn 10000 36 (.agg #[.int .i64 a, .int .u64 b]) (.agg #[.int .i64 a, .int .u64 b])).run Tryz.prog w with
  | ok b' w' =>
    rw [hr] at h
    simp only [Result.andThen_ok, beq_self_eq_true, Bool.and_self, Result.ok.injEq, Value.bool.injEq] at h ⊢
    obtain ⟨rfl, rfl⟩ := h
    exact ⟨rfl, rfl⟩
  | halt x w' => rw [hr] at h; simp [Result.andThen] at h
theorem SV.flow {n : Nat} {P Q X : Nat → Prop} {w0 w w' : World} {bs b1 b2 : Nat} {M : MT} {L : Lk} (h : SV n P Q w bs b1 b2 M L) (k : Kp (U P Q) X w w') (f : Fr (fun c _ => c < n) w0 w) : Fr (fun c _ => c < n) w0 w' := h.old k f
end Go.Proofs.YtlolfcnfcgegdaaGreat
