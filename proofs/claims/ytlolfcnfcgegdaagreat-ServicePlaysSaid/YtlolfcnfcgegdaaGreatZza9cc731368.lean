/- Texts of the proofs, part 36: what the functions that they reach do, walked; no conditions beyond those that each states. -/
import Derived.Test.YtlolfcnfcgegdaaGreatZzf69da0d110
set_option linter.unusedVariables false
set_option linter.unusedSimpArgs false
/- The document's service: Apply: what was done, or may not be (printed by dapply20.py). -/
namespace Go.Proofs.YtlolfcnfcgegdaaGreat
open Go.RowKit
set_option linter.unusedVariables false
set_option linter.unusedSimpArgs false

set_option maxRecDepth 100000 in
set_option maxHeartbeats 2000000 in
theorem dap_code {n : Nat} {G : Nat → Prop} {K : Nat → Obj → Prop} (w : World) (bd d1 d2 : Nat) (M : MT) (L : Lk) (v : Value) (b : List UInt8) (h : DS n G w bd d1 d2 M L) (hn : n ≤ w.heap.size) (hb : BytesAt K w v b) (hm : b.length ≤ 1000000) (op cl sq rg md tk tm : Nat) (hd : decM b = (⟨(op : Nat), (cl : Nat), sq, (rg : Nat), (md : Nat), tk, tm⟩, 0)) (hop : op = 3 ∨ op = 4 ∨ op = 5 ∨ op = 6) (hsq : sq < 4294967296) (k : Nat) (hk : k ≠ 0) (hc : (askM M (cl : Nat) (sq : Nat)).2.2 = (k : Nat)) :
    Calls Tryz.prog 11 #[.pointer (some ⟨bd, 0, none⟩), v] w fun e w' => e = .returned (vR ⟨k, 0⟩) ∧ ∃ G', DS n G' w' bd d1 d2 M L ∧ Kh d1 d2 G G' w w' := by
  obtain ⟨W1, hW1⟩ : ∃ W, w.alloc (.cells #[.int .i64 0, .int .u64 0] 38 (0, 0)) = W := ⟨_, rfl⟩
  have F1 : Hid (Fr (fun _ _ => True) w W1) := hW1 ▸ (Fr.refl _ _).alloc _
  have X1 : Hid (W1.heap[w.heap.size]? = some (.cells #[.int .i64 0, .int .u64 0] 38 (0, 0))) := hW1 ▸ heap_alloc_new w _
  have DC := Lib.hid (rdec_calls W1 v b (hb.tt F1.out) hm)
  rw [hd] at DC
  unfold vC at DC
  dsimp only at DC
  have H := Lib.hid h
  have HN := Lib.hid hn
  have HSZ : Hid (w.heap.size < W1.heap.size) := lt_of_some X1.out
  have NB := Lib.hid h.far
  have HSQ := Lib.hid hsq
  have o1 : ((op : Int) == 1) = false := by simp; omega
  have o2 : ((op : Int) == 2) = false := by simp; omega
  have o7 : ((op : Int) == 7) = false := by simp; omega
  obtain ⟨AB, AG, AC, hask⟩ : ∃ a b c, askM M (cl : Nat) (sq : Nat) = (a, b, c) := ⟨_, _, _, rfl⟩
  rw [hask] at hc
  dsimp only at hc
  have hkI : ((k : Int) != 0) = true := by simp; omega
  subst hc
  have HA := Lib.hid hask
  clear hop hsq hk hask
  clear h hn hd hb hm
  go_enter Tryz.func11, Tryz.ntmps11
  go_wp2_with fail
  (with_reducible refine DC.out.mono ?_)
  rintro e w2 ⟨rfl, f2⟩
  have F2 := Lib.hid (F1.out.trans f2)
  have X2 : Hid (w2.heap[w.heap.size]? = some (.cells #[.int .i64 0, .int .u64 0] 38 (0, 0))) := f2.keep _ _ X1.out trivial
  clear f2 DC
  obtain ⟨W3, hW3⟩ : ∃ W, w2.alloc (.cells #[.int .i64 (op : Nat), .int .i64 (cl : Nat), .int .u32 (sq : Nat), .int .i64 (rg : Nat), .int .i64 (md : Nat), .int .u64 (tk : Nat), .int .u64 (tm : Nat)] 80 (0, 0)) = W := ⟨_, rfl⟩
  have F3 : Hid (Fr (fun _ _ => True) w2 W3) := hW3 ▸ (Fr.refl _ _).alloc _
  have X3 : Hid (W3.heap[w2.heap.size]? = some (.cells #[.int .i64 (op : Nat), .int .i64 (cl : Nat), .int .u32 (sq : Nat), .int .i64 (rg : Nat), .int .i64 (md : Nat), .int .u64 (tk : Nat), .int .u64 (tm : Nat)] 80 (0, 0))) := hW3 ▸ heap_alloc_new w2 _
  have XR : Hid (W3.heap[w.heap.size]? = some (.cells #[.int .i64 0, .int .u64 0] 38 (0, 0))) := F3.out.keep _ _ X2.out trivial
  have c0 := cell_mk (i := 0) X3.out rfl
  have FA : Hid (Fr (fun _ _ => True) w W3) := F2.out.trans F3.out
  have SA := Lib.hid (H.out.tt FA.out)
  have KA : Hid (Kh d1 d2 G G w W3) := Kh.same G FA.out
  have U0 : Hid (Fr (fun _ _ => True) W3 W3.drew) := (Fr.refl _ _).drew
  have HNA : Hid (n ≤ W3.heap.size) := Nat.le_trans HN.out FA.out.size
  have BX : Hid (w.heap.size < w2.heap.size) := lt_of_some X2.out
  go_upto_region 15 with fail
  try rw [hW3]
  clear c0
  have CC : Hid (∀ W, Fr (fun _ _ => True) W3 W → W.cell? ⟨bd, 0, none⟩ = some (.pointer (some ⟨d1, 0, none⟩)) ∧ W.cell? ⟨w2.heap.size, 1, none⟩ = some (.int .i64 (cl : Nat)) ∧ W.cell? ⟨w2.heap.size, 2, none⟩ = some (.int .u32 (sq : Nat))) := fun W f => ⟨cell_mk (f.keep _ _ SA.out.top trivial) rfl, cell_mk (f.keep _ _ X3.out trivial) rfl, cell_mk (f.keep _ _ X3.out trivial) rfl⟩
  have ASK := Lib.hid (fun W (f : Fr (fun _ _ => True) W3 W) => ds_ask W (cl : Nat) sq HSQ.out (SA.out.tt f))
  rw [HA.out] at ASK
  clear hW3
  go_region_held3 (fun W => W.cell? ⟨bd, 0, none⟩ = some (.pointer (some ⟨d1, 0, none⟩)) ∧ W.cell? ⟨w2.heap.size, 1, none⟩ = some (.int .i64 (cl : Nat)) ∧ W.cell? ⟨w2.heap.size, 2, none⟩ = some (.int .u32 (sq : Nat)))
    (first | exact CC.out _ U0.out | exact CC.out _ UA.out)
    ((go_at_call 37; go_must ((with_reducible refine (ASK.out _ ?cf).mono ?_); (case cf => exact U0.out); rintro e wa ⟨⟨va, rfl, ba⟩, hwa⟩; have BA : Hid (BytesAt (KD n) wa va AB) := Lib.hid (hwa ▸ ba); have UA : Hid (Fr (fun _ _ => True) W3 wa) := Lib.hid (hwa ▸ U0.out); clear ba hwa)))
  have XA : Hid (wa.heap[w.heap.size]? = some (.cells #[.int .i64 0, .int .u64 0] 38 (0, 0))) := UA.out.keep _ _ XR.out trivial
  have XB : Hid (wa.heap[w2.heap.size]? = some (.cells #[.int .i64 (op : Nat), .int .i64 (cl : Nat), .int .u32 (sq : Nat), .int .i64 (rg : Nat), .int .i64 (md : Nat), .int .u64 (tk : Nat), .int .u64 (tm : Nat)] 80 (0, 0))) := UA.out.keep _ _ X3.out trivial
  have SB := Lib.hid (SA.out.tt UA.out)
  have KB := Lib.hid (KA.out.trans (Kh.same G UA.out))
  have FB : Hid (Fr (fun _ _ => True) w wa) := FA.out.trans UA.out
  clear ASK CC U0
  have q0 := cell_mk (i := 0) XA.out rfl
  have q1 := cell_mk (i := 1) XA.out rfl
  have y0 := frozen_mk (i := 0) XA.out
  have y1 := frozen_mk (i := 1) XA.out
  obtain ⟨WZ, hWZ, TZ, FZ⟩ := set2 XA.out (.int .i64 (k : Nat)) (.int .u64 0)
  have p0 := cell_mk (i := 0) TZ rfl
  have p1 := cell_mk (i := 1) TZ rfl
  have FZH := Lib.hid FZ
  clear TZ FZ
  go_wp2
  try rw [hWZ]
  refine bodyPost_ret (v := .agg #[.int .i64 (k : Nat), .int .u64 0]) (by simp [results, Tryz.results11, go_sem, *]) rfl ⟨rfl, G, ?_⟩
  try rw [hWZ]
  exact DS.end2 (SB.out) (KB.out) FZH.out XA.out HN.out (Nat.le_refl _) (by decide)
set_option maxRecDepth 100000 in
set_option maxHeartbeats 2000000 in
theorem dap_again {n : Nat} {G : Nat → Prop} {K : Nat → Obj → Prop} (w : World) (bd d1 d2 : Nat) (M : MT) (L : Lk) (v : Value) (b : List UInt8) (h : DS n G w bd d1 d2 M L) (hn : n ≤ w.heap.size) (hb : BytesAt K w v b) (hm : b.length ≤ 1000000) (op cl sq rg md tk tm : Nat) (hd : decM b = (⟨(op : Nat), (cl : Nat), sq, (rg : Nat), (md : Nat), tk, tm⟩, 0)) (hop : op = 3 ∨ op = 4 ∨ op = 5 ∨ op = 6) (hsq : sq < 4294967296) (hc : (askM M (cl : Nat) (sq : Nat)).2.2 = 0) (hg : (askM M (cl : Nat) (sq : Nat)).2.1 = true) (hl : (askM M (cl : Nat) (sq : Nat)).1.length = 9) :
    Calls Tryz.prog 11 #[.pointer (some ⟨bd, 0, none⟩), v] w fun e w' => e = .returned (vR (rpM (askM M (cl : Nat) (sq : Nat)).1)) ∧ ∃ G', DS n G' w' bd d1 d2 M L ∧ Kh d1 d2 G G' w w' := by
  obtain ⟨W1, hW1⟩ : ∃ W, w.alloc (.cells #[.int .i64 0, .int .u64 0] 38 (0, 0)) = W := ⟨_, rfl⟩
  have F1 : Hid (Fr (fun _ _ => True) w W1) := hW1 ▸ (Fr.refl _ _).alloc _
  have X1 : Hid (W1.heap[w.heap.size]? = some (.cells #[.int .i64 0, .int .u64 0] 38 (0, 0))) := hW1 ▸ heap_alloc_new w _
  have DC := Lib.hid (rdec_calls W1 v b (hb.tt F1.out) hm)
  rw [hd] at DC
  unfold vC at DC
  dsimp only at DC
  have H := Lib.hid h
  have HN := Lib.hid hn
  have HSZ : Hid (w.heap.size < W1.heap.size) := lt_of_some X1.out
  have NB := Lib.hid h.far
  have HSQ := Lib.hid hsq
  have o1 : ((op : Int) == 1) = false := by simp; omega
  have o2 : ((op : Int) == 2) = false := by simp; omega
  have o7 : ((op : Int) == 7) = false := by simp; omega
  obtain ⟨AB, AG, AC, hask⟩ : ∃ a b c, askM M (cl : Nat) (sq : Nat) = (a, b, c) := ⟨_, _, _, rfl⟩
  rw [hask] at hc hg hl ⊢
  dsimp only at hc hg hl ⊢
  subst hc hg
  have HA := Lib.hid hask
  have HL := Lib.hid hl
  have hrp : rpM AB = ⟨ofLE (AB.take 1), ofLE ((AB.drop 1).take 8)⟩ := by
    unfold rpM
    rw [numR_ge AB 1 (by omega)]
    dsimp only
    rw [numR_ge (AB.drop 1) 8 (by rw [List.length_drop]; omega)]
  obtain ⟨rc, hrc⟩ : ∃ x, ofLE (AB.take 1) = x := ⟨_, rfl⟩
  obtain ⟨rv, hrv⟩ : ∃ x, ofLE ((AB.drop 1).take 8) = x := ⟨_, rfl⟩
  rw [hrc, hrv] at hrp
  rw [hrp]
  have HRV := Lib.hid hrv
  have hrc0 : rc = (AB[0]'(by omega)).toNat := by
    rw [← hrc]
    match AB, hl with
    | x :: l, _ => simp [ofLE]
  have HRC : Hid (∀ h0 : 0 < AB.length, rc = (AB[0]'h0).toNat) := Lib.hid fun h0 => hrc0
  have hr256 : (rc : Int) < 256 := by rw [hrc0]; have := (AB[0]'(by omega)).toNat_lt; omega
  clear hop hsq hask hl hrp hrc hrv hrc0
  clear h hn hd hb hm
  go_enter Tryz.func11, Tryz.ntmps11
  go_wp2_with fail
  (with_reducible refine DC.out.mono ?_)
  rintro e w2 ⟨rfl, f2⟩
  have F2 := Lib.hid (F1.out.trans f2)
  have X2 : Hid (w2.heap[w.heap.size]? = some (.cells #[.int .i64 0, .int .u64 0] 38 (0, 0))) := f2.keep _ _ X1.out trivial
  clear f2 DC
  obtain ⟨W3, hW3⟩ : ∃ W, w2.alloc (.cells #[.int .i64 (op : Nat), .int .i64 (cl : Nat), .int .u32 (sq : Nat), .int .i64 (rg : Nat), .int .i64 (md : Nat), .int .u64 (tk : Nat), .int .u64 (tm : Nat)] 80 (0, 0)) = W := ⟨_, rfl⟩
  have F3 : Hid (Fr (fun _ _ => True) w2 W3) := hW3 ▸ (Fr.refl _ _).alloc _
  have X3 : Hid (W3.heap[w2.heap.size]? = some (.cells #[.int .i64 (op : Nat), .int .i64 (cl : Nat), .int .u32 (sq : Nat), .int .i64 (rg : Nat), .int .i64 (md : Nat), .int .u64 (tk : Nat), .int .u64 (tm : Nat)] 80 (0, 0))) := hW3 ▸ heap_alloc_new w2 _
  have XR : Hid (W3.heap[w.heap.size]? = some (.cells #[.int .i64 0, .int .u64 0] 38 (0, 0))) := F3.out.keep _ _ X2.out trivial
  have c0 := cell_mk (i := 0) X3.out rfl
  have FA : Hid (Fr (fun _ _ => True) w W3) := F2.out.trans F3.out
  have SA := Lib.hid (H.out.tt FA.out)
  have KA : Hid (Kh d1 d2 G G w W3) := Kh.same G FA.out
  have U0 : Hid (Fr (fun _ _ => True) W3 W3.drew) := (Fr.refl _ _).drew
  have HNA : Hid (n ≤ W3.heap.size) := Nat.le_trans HN.out FA.out.size
  have BX : Hid (w.heap.size < w2.heap.size) := lt_of_some X2.out
  go_upto_region 15 with fail
  try rw [hW3]
  clear c0
  have CC : Hid (∀ W, Fr (fun _ _ => True) W3 W → W.cell? ⟨bd, 0, none⟩ = some (.pointer (some ⟨d1, 0, none⟩)) ∧ W.cell? ⟨w2.heap.size, 1, none⟩ = some (.int .i64 (cl : Nat)) ∧ W.cell? ⟨w2.heap.size, 2, none⟩ = some (.int .u32 (sq : Nat))) := fun W f => ⟨cell_mk (f.keep _ _ SA.out.top trivial) rfl, cell_mk (f.keep _ _ X3.out trivial) rfl, cell_mk (f.keep _ _ X3.out trivial) rfl⟩
  have ASK := Lib.hid (fun W (f : Fr (fun _ _ => True) W3 W) => ds_ask W (cl : Nat) sq HSQ.out (SA.out.tt f))
  rw [HA.out] at ASK
  clear hW3
  go_region_held3 (fun W => W.cell? ⟨bd, 0, none⟩ = some (.pointer (some ⟨d1, 0, none⟩)) ∧ W.cell? ⟨w2.heap.size, 1, none⟩ = some (.int .i64 (cl : Nat)) ∧ W.cell? ⟨w2.heap.size, 2, none⟩ = some (.int .u32 (sq : Nat)))
    (first | exact CC.out _ U0.out | exact CC.out _ UA.out)
    ((go_at_call 37; go_must ((with_reducible refine (ASK.out _ ?cf).mono ?_); (case cf => exact U0.out); rintro e wa ⟨⟨va, rfl, ba⟩, hwa⟩; have BA : Hid (BytesAt (KD n) wa va AB) := Lib.hid (hwa ▸ ba); have UA : Hid (Fr (fun _ _ => True) W3 wa) := Lib.hid (hwa ▸ U0.out); clear ba hwa)))
  have XA : Hid (wa.heap[w.heap.size]? = some (.cells #[.int .i64 0, .int .u64 0] 38 (0, 0))) := UA.out.keep _ _ XR.out trivial
  have XB : Hid (wa.heap[w2.heap.size]? = some (.cells #[.int .i64 (op : Nat), .int .i64 (cl : Nat), .int .u32 (sq : Nat), .int .i64 (rg : Nat), .int .i64 (md : Nat), .int .u64 (tk : Nat), .int .u64 (tm : Nat)] 80 (0, 0))) := UA.out.keep _ _ X3.out trivial
  have SB := Lib.hid (SA.out.tt UA.out)
  have KB := Lib.hid (KA.out.trans (Kh.same G UA.out))
  have FB : Hid (Fr (fun _ _ => True) w wa) := FA.out.trans UA.out
  clear ASK CC U0
  obtain ⟨a8, c8, rfl⟩ := BA.out.form
  obtain ⟨a9, c9, e9, hlc, _, hz⟩ := BA.out
  simp only [Value.slice.injEq] at e9
  obtain ⟨rfl, _, rfl⟩ := e9
  rw [HL.out] at hlc
  have h9 : (9 : Int) ≤ (c8 : Nat) := by omega
  have hn1 : ¬ c8 = 1 := by omega
  have HLC := Lib.hid hlc
  clear hlc
  rcases hz with hz | ⟨b8, off, o, rfl, hb8, hk8, hc8⟩
  · have := HL.out; rw [hz] at this; cases this
  have k0 := hc8 0 (by rw [HL.out]; decide)
  rw [Nat.add_zero] at k0
  have ne8 : b8 ≠ w.heap.size := fun e => by
    rcases hk8 with q | ⟨_, _, q⟩
    · have := HN.out; omega
    · subst e; rw [XA.out] at hb8; cases hb8; cases q
  have hby : byteV (AB[0]'(by rw [HL.out]; decide)) = .int .u8 (rc : Nat) := by rw [HRC.out (by rw [HL.out]; decide)]; rfl
  rw [hby] at k0
  have NE8 := Lib.hid ne8
  have K08 := Lib.hid k0
  have CE : Hid (∀ W, Fr (fun c _ => c ≠ w.heap.size) wa W → W.cell? ⟨b8, off, none⟩ = some (.int .u8 (rc : Nat))) := fun W f => f.cell (fun _ _ => NE8.out) K08.out
  have U1 : Hid (Fr (fun _ _ => True) wa wa.drew) := (Fr.refl _ _).drew
  have hcv : IntKind.i64.wrap (rc : Int) = rc := by rw [IntKind.wrap_i64]; omega
  have OFC : Hid (∀ W, Fr (fun _ _ => True) wa W → Calls Tryz.prog 38 #[.slice (some ⟨b8, off + 1, none⟩) 8 (c8 - 1)] W fun e w' => e = .returned (.int .u64 (rv : Nat)) ∧ W = w') := fun W f => by
    have q := of_calls W _ _ ((BA.out.tt f).piece 1 8 (by rw [HL.out]; decide) (by have := HLC.out; omega)) (by simp; omega)
    rw [HRV.out] at q
    exact q
  have q0 := cell_mk (i := 0) XA.out rfl
  have q1 := cell_mk (i := 1) XA.out rfl
  have y0 := frozen_mk (i := 0) XA.out
  have y1 := frozen_mk (i := 1) XA.out
  clear hb8 hk8 hc8 k0 ne8 hby hr256
  rw [HL.out]
  go_upto_region 19 with fail
  go_region_held3 (fun W => W.cell? ⟨b8, off, none⟩ = some (.int .u8 (rc : Nat)))
    (first | exact CE.out _ (U1.out.mono fun _ _ _ => trivial) | exact CE.out _ (((U1.out.mono fun _ _ _ => trivial).setCell (fun _ _ h => h rfl) _).setCell (fun _ _ h => h rfl) _))
    ((go_at_call 38; go_must ((with_reducible refine (OFC.out _ U1.out).mono ?_); rintro e w9 ⟨rfl, rfl⟩)))
  obtain ⟨WZ, hWZ, TZ, FZ⟩ := set2 XA.out (.int .i64 (rc : Nat)) (.int .u64 (rv : Nat))
  have p0 := cell_mk (i := 0) TZ rfl
  have p1 := cell_mk (i := 1) TZ rfl
  have FZH := Lib.hid FZ
  clear TZ FZ
  go_wp2
  try rw [hWZ]
  refine bodyPost_ret (v := .agg #[.int .i64 (rc : Nat), .int .u64 (rv : Nat)]) (by simp [results, Tryz.results11, go_sem, *]) rfl ⟨rfl, G, ?_⟩
  try rw [hWZ]
  have E := DS.end2 (SB.out) (KB.out) FZH.out XA.out HN.out (Nat.le_refl _) (by decide)
  exact ⟨E.1.tt ((Fr.refl _ _).drew), E.2.trans (Kh.same _ (Fr.refl _ _).drew)⟩
end Go.Proofs.YtlolfcnfcgegdaaGreat
