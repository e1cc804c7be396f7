/- Texts of the proofs, part 38: what the functions that they reach do, walked; no conditions beyond those that each states. -/
import Derived.Deep.RegionHeld3
import Derived.Test.YtlolfcnfcgegdaaGreatZz577988cefc
set_option linter.unusedVariables false
set_option linter.unusedSimpArgs false
/- The document's locks: Pack (printed by dpack19.py). -/
namespace Go.Proofs.YtlolfcnfcgegdaaGreat
open Go.RowKit
set_option linter.unusedVariables false
set_option linter.unusedSimpArgs false

theorem row1b (w : World) (a : Nat) (ha : a < 256) : RowB (w.alloc (.cells #[.int .u8 (a : Nat)] 5 (0, 0))) w.heap.size (.slice (some ⟨w.heap.size, 0, none⟩) 1 1) 1 (le a 1) := by
  have e : (le a 1).map byteV = [.int .u8 (a : Nat)] := by
    simp [le, byteV, UInt8.toNat_ofNat']
    omega
  refine ⟨by rw [e]; rfl, .inr ⟨_, 1, _, rfl, Nat.le_refl _, heap_alloc_new _ _, by decide, by decide, rfl, by rw [e]; rfl⟩⟩
/-- An append of bytes to a row of the function's own, at a step of a region that draws its order. -/
theorem step_append_rb {K0 : Nat → Obj → Prop} {ops : Array Oper} {o : Oper} {a : Act} {K : Act → World → Prop} {Q : Exit → Act → World → Prop} {E : Prop} (W : World) (hgd : o.guard = none) (s x : Operand)
    (ho : o.op = .call { callee := .builtin .append, args := #[s, x], argTypes := #[23, 23] }) (B : Nat) (hB : B ≤ W.heap.size) (v : Value) (n : Nat) (xs : List UInt8) (hs : a.eval s = v) (hown : Hid (RowB W B v n xs))
    (ad : Addr) (m c : Nat) (bs : List UInt8) (hx : a.eval x = .slice (some ad) m c) (hb : Hid (BytesAt K0 W (.slice (some ad) m c) bs)) (N : Nat) (r : List UInt8) (hr : Hid (xs ++ bs = r)) (hN : Hid (n + m = N)) (hn : N ≤ 2000000)
    (h : ∀ a' c' w', Hid (RowB w' B (.slice a' N c') N r) → Hid (W.grownBy w' v.ownBlock) → K (a.put o.dst (.slice a' N c')) w') :
    if Region.wanted o (yielded ops a.tmps) = true then Oper.wp Tryz.prog o a W K Q else E := by
  have hw : Region.wanted o (yielded ops a.tmps) = true := by simp [Region.wanted, hgd]
  rw [if_pos hw]
  obtain ⟨i0, hi, hz0, hz1, hz2⟩ := info_parts info_u8
  have hr := hr.out
  have hN := hN.out
  subst hr hN
  have hb := hb.out
  have hl := hb.len
  rcases hb.src with ⟨he, _⟩ | ⟨ad', c', he, h1, h2, h3⟩
  · cases he
  · cases he
    refine wp_append_own W s x 23 ho B 5 i0 (.int .u8 0) 1 1 Tryz.underlying23 hi hz0 hz1 hz2 rfl (by decide) v n (xs.map byteV) hs hown.out ad bs.length c (bs.map byteV) hx h1 h2 h3 (by unfold maxLen; omega) (by omega) hB ?_
    intro v' w' h4 h5 _
    rw [← List.map_append] at h4
    have hv' : ∃ a' c', v' = .slice a' (n + bs.length) c' := by
      rcases h4.2 with ⟨rfl, e⟩ | ⟨g, cap, _, rfl, _⟩
      · exact ⟨none, 0, by rw [e]⟩
      · exact ⟨_, _, rfl⟩
    obtain ⟨a', c', rfl⟩ := hv'
    exact h a' c' w' h4 h5
set_option maxRecDepth 100000 in
set_option maxHeartbeats 8000000 in
theorem dlpack_calls {n : Nat} {G : Nat → Prop} (w : World) (bt : Nat) (L : Lk) (h : DRE n G w bt L) :
    Calls Tryz.prog 20 #[.pointer (some ⟨bt, 0, none⟩)] w fun e w' => (∃ a cap, e = .returned (.slice a (lkB L).length cap) ∧ BytesAt (New w.heap.size) w' (.slice a (lkB L).length cap) (lkB L)) ∧ Fr (fun _ _ => True) w w' := by
  obtain ⟨hv, wv, h⟩ := h
  have D := Lib.hid (fun W (f : Fr (fun _ _ => True) w W) => h.tt f)
  obtain ⟨c0, c1, _, _, _⟩ := h.cells w (Fr.refl _ _)
  have hnow := topM_eq ▸ h.ok.now
  have hlast := topM_eq ▸ h.ok.last
  have HOK := Lib.hid h.ok
  have FR : Hid (∀ i, i < 4 → ∃ ah ch aw cw, hv i = .slice ah (L.rg i).hs.length ch ∧ wv i = .slice aw (L.rg i).ws.length cw) := Lib.hid fun i hi => by
    obtain ⟨a, c, e, _⟩ := (h.hr i hi).form
    obtain ⟨a', c', e', _⟩ := (h.wr i hi).form
    exact ⟨a, c, a', c', e, e'⟩
  have N1 := Lib.hid (num01_calls w L.now 8 L.now 8 rfl rfl (by decide) (by omega))
  clear h
  go_enter Tryz.func20, Tryz.ntmps20
  go_wp2_with fail
  (with_reducible refine N1.out.mono ?_)
  rintro e w1 ⟨⟨a1, k1, rfl, o1⟩, f1⟩
  have O1 := Lib.hid o1
  have F1 := Lib.hid f1
  have c1' := ((D.out w1 f1).cells w1 (Fr.refl _ _)).2.1
  have N2 := Lib.hid (num01_calls w1 L.last 8 L.last 8 rfl rfl (by decide) (by omega))
  clear N1 o1 f1 c0 c1
  go_wp2_with fail
  (with_reducible refine N2.out.mono ?_)
  rintro e w2 ⟨⟨a2, k2, rfl, o2⟩, f2⟩
  have B2 : Hid (BytesAt (New w1.heap.size) w2 (.slice a2 8 k2) (le L.last 8)) := BytesAt.of_own o2 (le_length _ _)
  have O2 : Hid (RowB w2 w.heap.size (.slice a1 8 k1) 8 (le L.now 8)) := own_tt O1.out f2
  have F2 := Lib.hid (F1.out.trans f2)
  have R0 : Hid (le L.now 8 ++ le L.last 8 = lkK L 0) := rfl
  have N0 : Hid (8 + (le L.last 8).length = 16) := by show _ = _; rw [le_length]
  clear o2 f2 N2 c1' O1 F1
  go_wp2_with (at_builtin; refine wpList_append_hid w2 rfl _ _ rfl w.heap.size F2.out.size _ 8 _ rfl O2 _ (le L.last 8) rfl B2 16 (lkK L 0) R0 N0 (by decide) ?_)
  intro a3 k3 w3 O3 G3
  have F3 : Hid (Fr (fun _ _ => True) w w3) := F2.out.grown_new G3.out (own_new O2.out)
  clear O2 B2 G3 F2 R0 N0
  go_wp2_with fail
  go_loopw [3, 4] (fun v3 v4 wz => ∃ (r : Nat) (a : Option Addr) (nn c : Nat), r ≤ 4 ∧ v4 = .int .i64 r ∧ v3 = .slice a nn c ∧ Hid (RowB wz w.heap.size (.slice a nn c) nn (lkK L r)) ∧ Hid (Fr (fun _ _ => True) w wz) ∧ (lkK L r).length = nn) (fun _ v4 _ => 4 - (intOf v4).toNat)
  case atStart => exact ⟨0, a3, 16, k3, by omega, rfl, rfl, O3.out, F3.out, by show (le L.now 8 ++ le L.last 8).length = 16; simp [le_length]⟩
  case round =>
    obtain ⟨r, a, nn, c, hr, rfl, rfl, O, F, hnn⟩ := hrel
    clear O3 F3
    have hnb := lkK_len HOK.out r
    by_cases hlt : r < 4
    · have hltI : (r : Int) < 4 := by omega
      obtain ⟨ah, ch, aw, cw, eh, ew⟩ := FR.out r hlt
      have OKR := HOK.out.rg r
      have n4 := OKR.h4
      have n4' := OKR.w4
      have HMC := Lib.hid OKR.hc
      have WMC := Lib.hid OKR.wc
      have CC : Hid (∀ W, Fr (fun _ _ => True) w W → W.cell? ⟨bt, 2 + r, none⟩ = some (.slice ah (L.rg r).hs.length ch) ∧ W.cell? ⟨bt, 6 + r, none⟩ = some (.slice aw (L.rg r).ws.length cw) ∧ RowsAt (fun c _ => G c ∧ c ≠ bt) W (.slice ah (L.rg r).hs.length ch) 4 encH (L.rg r).hs ∧ RowsAt (fun c _ => G c ∧ c ≠ bt) W (.slice aw (L.rg r).ws.length cw) 2 encW (L.rg r).ws) := Lib.hid fun W f => by
        have d := D.out W f
        obtain ⟨x0, x1, _, _⟩ := (d.cells W (Fr.refl _ _)).2.2.2.2 r hlt
        have y0 := d.hr r hlt
        have y1 := d.wr r hlt
        rw [eh] at x0 y0
        rw [ew] at x1 y1
        exact ⟨x0, x1, y0, y1⟩
      have ENX : Hid (lkK L (r + 1) = lkK L r ++ rgB (L.rg r)) := rfl
      obtain ⟨hs, hhs⟩ : ∃ hs, (L.rg r).hs = hs := ⟨_, rfl⟩
      obtain ⟨ws, hws⟩ : ∃ ws, (L.rg r).ws = ws := ⟨_, rfl⟩
      unfold rgB at ENX
      rw [hhs, hws] at CC ENX
      rw [hhs] at n4 HMC
      rw [hws] at n4' WMC
      obtain ⟨X0, hX0⟩ : ∃ X, lkK L r = X := ⟨_, rfl⟩
      rw [hX0] at O hnn ENX hnb
      clear eh ew OKR hhs hws hX0
      have cc0 := (CC.out wr F.out).1
      have u0 : IntKind.u8.wrap (hs.length : Int) = (hs.length : Nat) := by rw [IntKind.wrap_u8]; omega
      obtain ⟨W5, hW5⟩ : ∃ W, wr.alloc (.cells #[.int .u8 (hs.length : Nat)] 5 (0, 0)) = W := ⟨_, rfl⟩
      have F5 : Hid (Fr (fun _ _ => True) wr W5) := hW5 ▸ (Fr.refl _ _).alloc _
      have B5 : Hid (BytesAt (New wr.heap.size) W5 (.slice (some ⟨wr.heap.size, 0, none⟩) 1 1) (le hs.length 1)) := hW5 ▸ BytesAt.of_own (row1b wr hs.length (by omega)) (by simp [le_length])
      have O5 : Hid (RowB W5 w.heap.size (.slice a nn c) nn X0) := own_tt O.out F5.out
      have F15 := Lib.hid (F.out.trans F5.out)
      obtain ⟨X1, hX1⟩ : ∃ X, X0 ++ le hs.length 1 = X := ⟨_, rfl⟩
      have R1 := Lib.hid hX1
      have NN1 : Hid (nn + (le hs.length 1).length = nn + 1) := by show _ = _; rw [le_length]
      have hX1l : X1.length = nn + 1 := by rw [← hX1, List.length_append, le_length, hnn]
      clear O F
      go_wp2_with (at_builtin; refine wpList_append_hid W5 rfl _ _ rfl w.heap.size F15.out.size _ nn X0 rfl O5 _ (le hs.length 1) rfl B5 (nn + 1) X1 R1 NN1 (by omega) ?_)
      intro a6 c6 w6 O6 G6
      have F6 : Hid (Fr (fun _ _ => True) w w6) := F15.out.grown_new G6.out (own_new O5.out)
      clear O5 B5 G6 F15 F5 hW5 cc0 u0 R1 NN1
      go_wp2_with fail
      go_loopw [3, 5] (fun v3 v5 wz => ∃ (i : Nat) (a : Option Addr) (nn c : Nat), i ≤ hs.length ∧ v5 = .int .i64 i ∧ v3 = .slice a nn c ∧ Hid (RowB wz w.heap.size (.slice a nn c) nn (X1 ++ (hs.take i).flatMap hoB)) ∧ Hid (Fr (fun _ _ => True) w wz) ∧ (X1 ++ (hs.take i).flatMap hoB).length = nn) (fun _ v5 _ => hs.length - (intOf v5).toNat)
      case atStart => exact ⟨0, a6, nn + 1, c6, Nat.zero_le _, rfl, rfl, by show RowB _ _ _ _ _; rw [List.take_zero, List.flatMap_nil, List.append_nil]; exact O6.out, F6.out, by rw [List.take_zero, List.flatMap_nil, List.append_nil]; exact hX1l⟩
      case round =>
        obtain ⟨i, a, nn', c, hi, rfl, rfl, O, F, hnn'⟩ := hrel
        clear O6 F6
        have hlen1 : nn' ≤ 600 := by
          rw [← hnn', List.length_append, flatMap_len hoB_len, List.length_take]
          have : min i hs.length ≤ 4 := by omega
          omega
        by_cases hil : i < hs.length
        · have hilI : (i : Int) < hs.length := by omega
          obtain ⟨cc0, cc1, rh, rw'⟩ := CC.out wr F.out
          obtain ⟨b, off, o, rfl, _, _, hcl⟩ := rh.spot (by omega)
          obtain ⟨x, hx⟩ : ∃ x, hs[i] = x := ⟨_, rfl⟩
          have hcs := RowsAt.h4 (K := fun _ _ => True) hcl i hil
          rw [hx] at hcs
          have hxb := HMC.out hs[i] (List.getElem_mem _)
          rw [hx, topM_eq] at hxb
          obtain ⟨bc, bm, bt', bu⟩ := hxb
          have bm2 : x.m ≤ 2 := by omega
          have vc : IntKind.u8.wrap (x.c : Int) = (x.c : Nat) := by rw [IntKind.wrap_u8]; omega
          have vm : IntKind.u8.wrap (x.m : Int) = (x.m : Nat) := by rw [IntKind.wrap_u8]; omega
          obtain ⟨k0, k1, k2, k3⟩ := hcs
          have EX : Hid (X1 ++ (hs.take (i + 1)).flatMap hoB = (((X1 ++ (hs.take i).flatMap hoB) ++ (le x.c 1 ++ le x.m 1)) ++ le x.t 8) ++ le x.u 8) := by
            show _ = _
            rw [flatMap_take hoB hs i hil, hx]
            unfold hoB
            simp only [List.append_assoc]
          obtain ⟨Y, hY⟩ : ∃ Y, X1 ++ (hs.take i).flatMap hoB = Y := ⟨_, rfl⟩
          rw [hY] at O hnn' EX
          clear hcl hx bm rh rw' hY
          obtain ⟨W3, hW3⟩ : ∃ W, wr.alloc (.cells #[.int .i64 0, .int .i64 0, .int .u64 0, .int .u64 0] 112 (0, 0)) = W := ⟨_, rfl⟩
          have FA : Hid (Fr (fun _ _ => True) wr W3) := hW3 ▸ (Fr.refl _ _).alloc _
          have XA : Hid (W3.heap[wr.heap.size]? = some (.cells #[.int .i64 0, .int .i64 0, .int .u64 0, .int .u64 0] 112 (0, 0))) := hW3 ▸ heap_alloc_new wr _
          have q0 := cell_mk (i := 0) XA.out rfl
          have q1 := cell_mk (i := 1) XA.out rfl
          have q2 := cell_mk (i := 2) XA.out rfl
          have q3 := cell_mk (i := 3) XA.out rfl
          have z0 := frozen_mk (i := 0) XA.out
          have z1 := frozen_mk (i := 1) XA.out
          have z2 := frozen_mk (i := 2) XA.out
          have z3 := frozen_mk (i := 3) XA.out
          obtain ⟨v3, hWZ, TZ, FZ⟩ := set4 XA.out (.int .i64 (x.c : Nat)) (.int .i64 (x.m : Nat)) (.int .u64 (x.t : Nat)) (.int .u64 (x.u : Nat))
          have FV : Hid (Fr (fun _ _ => True) wr v3) := Lib.hid (Fr.within ((FA.out.mono fun _ _ _ => trivial).trans (FZ.mono fun c _ h e => by have := h.2; omega)))
          have F3 := Lib.hid (F.out.trans FV.out)
          have T3 := Lib.hid TZ
          have O3 : Hid (RowB v3 w.heap.size (.slice a nn' c) nn' Y) := own_tt O.out FV.out
          have e0 := cell_mk (i := 0) TZ rfl
          have e1 := cell_mk (i := 1) TZ rfl
          clear FA XA TZ FZ FV O F
          obtain ⟨W5, hW5⟩ : ∃ W, v3.alloc (.cells #[.int .u8 (x.c : Nat), .int .u8 (x.m : Nat)] 5 (0, 0)) = W := ⟨_, rfl⟩
          have F5 : Hid (Fr (fun _ _ => True) v3 W5) := hW5 ▸ (Fr.refl _ _).alloc _
          have B5 : Hid (BytesAt (New v3.heap.size) W5 (.slice (some ⟨v3.heap.size, 0, none⟩) 2 2) (le x.c 1 ++ le x.m 1)) := hW5 ▸ BytesAt.of_own (row2b v3 x.c x.m (by omega) (by omega)) (by simp [le_length])
          have O5 : Hid (RowB W5 w.heap.size (.slice a nn' c) nn' Y) := own_tt O3.out F5.out
          have F15 := Lib.hid (F3.out.trans F5.out)
          have T5 := Lib.hid (F5.out.keep _ _ T3.out trivial)
          obtain ⟨Y1, hY1⟩ : ∃ X, Y ++ (le x.c 1 ++ le x.m 1) = X := ⟨_, rfl⟩
          have R1 := Lib.hid hY1
          have NN1 : Hid (nn' + (le x.c 1 ++ le x.m 1).length = nn' + 2) := by show _ = _; simp [le_length]
          rw [hY1] at EX
          clear hY1 O3 F3
          go_upto_region 11 with fail
          try rw [hWZ]
          clear hWZ hW3 q0 q1 q2 q3 z0 z1 z2 z3 k0 k1 k2 k3 cc0 cc1
          obtain ⟨bh, hbh⟩ : ∃ m, wr.heap.size = m := ⟨_, rfl⟩
          rw [hbh] at e0 e1 T3 T5 ⊢
          clear hbh
          go_wp2_with (at_builtin; refine wpList_append_hid W5 rfl _ _ rfl w.heap.size F15.out.size _ nn' Y rfl O5 _ (le x.c 1 ++ le x.m 1) rfl B5 (nn' + 2) Y1 R1 NN1 (by omega) ?_)
          intro a6 c6 w6 O6 G6
          have F6 : Hid (Fr (fun _ _ => True) w w6) := F15.out.grown_new G6.out (own_new O5.out)
          have T6 := Lib.hid (grown_block G6.out T5.out (fun e => by obtain ⟨cur, q⟩ := own_tag O5.out e; rw [T5.out] at q; cases q))
          clear O5 B5 G6 F15 F5 hW5 e0 e1 R1 NN1 T5 T3
          have e2 := cell_mk (i := 2) T6.out rfl
          have N1 := Lib.hid (num01_calls w6 x.t 8 x.t 8 rfl rfl (by decide) (by omega))
          go_wp2_with fail
          (with_reducible refine N1.out.mono ?_)
          rintro e w7 ⟨⟨a7, c7, rfl, o7⟩, f7⟩
          have B7 : Hid (BytesAt (New w6.heap.size) w7 (.slice a7 8 c7) (le x.t 8)) := BytesAt.of_own o7 (le_length _ _)
          have O7 : Hid (RowB w7 w.heap.size (.slice a6 (nn' + 2) c6) (nn' + 2) Y1) := own_tt O6.out f7
          have F7 := Lib.hid (F6.out.trans f7)
          have T7 := Lib.hid (f7.keep _ _ T6.out trivial)
          obtain ⟨Y2, hY2⟩ : ∃ X, Y1 ++ le x.t 8 = X := ⟨_, rfl⟩
          have R2 := Lib.hid hY2
          have NN2 : Hid (nn' + 2 + (le x.t 8).length = nn' + 10) := by show _ = _; rw [le_length]
          rw [hY2] at EX
          clear hY2 o7 f7 N1 e2 O6 F6 T6
          go_wp2_with (at_builtin; refine wpList_append_hid w7 rfl _ _ rfl w.heap.size F7.out.size _ (nn' + 2) Y1 rfl O7 _ (le x.t 8) rfl B7 (nn' + 10) Y2 R2 NN2 (by omega) ?_)
          intro a8 c8 w8 O8 G8
          have F8 : Hid (Fr (fun _ _ => True) w w8) := F7.out.grown_new G8.out (own_new O7.out)
          have T8 := Lib.hid (grown_block G8.out T7.out (fun e => by obtain ⟨cur, q⟩ := own_tag O7.out e; rw [T7.out] at q; cases q))
          clear O7 B7 G8 F7 T7 R2 NN2
          have e3 := cell_mk (i := 3) T8.out rfl
          have N2 := Lib.hid (num01_calls w8 x.u 8 x.u 8 rfl rfl (by decide) (by omega))
          go_wp2_with fail
          (with_reducible refine N2.out.mono ?_)
          rintro e w9 ⟨⟨a9, c9, rfl, o9⟩, f9⟩
          have B9 : Hid (BytesAt (New w8.heap.size) w9 (.slice a9 8 c9) (le x.u 8)) := BytesAt.of_own o9 (le_length _ _)
          have O9 : Hid (RowB w9 w.heap.size (.slice a8 (nn' + 10) c8) (nn' + 10) Y2) := own_tt O8.out f9
          have F9 := Lib.hid (F8.out.trans f9)
          obtain ⟨Y3, hY3⟩ : ∃ X, Y2 ++ le x.u 8 = X := ⟨_, rfl⟩
          have R3 := Lib.hid hY3
          have NN3 : Hid (nn' + 10 + (le x.u 8).length = nn' + 18) := by show _ = _; rw [le_length]
          rw [hY3] at EX
          clear hY3 o9 f9 N2 e3 O8 F8 T8
          go_wp2_with (at_builtin; refine wpList_append_hid w9 rfl _ _ rfl w.heap.size F9.out.size _ (nn' + 10) Y2 rfl O9 _ (le x.u 8) rfl B9 (nn' + 18) Y3 R3 NN3 (by omega) ?_)
          intro a10 c10 w10 O10 G10
          have F10 : Hid (Fr (fun _ _ => True) w w10) := F9.out.grown_new G10.out (own_new O9.out)
          have LY : Hid ((X1 ++ (hs.take (i + 1)).flatMap hoB).length = nn' + 18) := by
            show _ = _
            have h1 := hnn'
            rw [EX.out, ← R3.out]
            have q : Y2.length = nn' + 10 := by
              have := O9.out.1
              simpa using this
            rw [List.length_append, le_length, q]
          clear O9 B9 G10 F9 NN3
          go_wp2
          go_roundw
          case rel => exact ⟨i + 1, _, _, _, hil, by go_num, rfl, by show RowB _ _ _ _ _; rw [EX.out]; exact O10.out, F10.out, LY.out⟩
          case measure => simp [intOf]; omega
        · obtain rfl : i = hs.length := by omega
          rw [List.take_length] at O hnn'
          have cc0 := (CC.out wr F.out).2.1
          have u0 : IntKind.u8.wrap (ws.length : Int) = (ws.length : Nat) := by rw [IntKind.wrap_u8]; omega
          obtain ⟨Y, hY⟩ : ∃ Y, X1 ++ hs.flatMap hoB = Y := ⟨_, rfl⟩
          rw [hY] at O hnn'
          have HY := Lib.hid hY
          have HX1 := Lib.hid hX1
          have k0 := (CC.out wr F.out).1
          obtain ⟨W5, hW5⟩ : ∃ W, wr.alloc (.cells #[.int .u8 (ws.length : Nat)] 5 (0, 0)) = W := ⟨_, rfl⟩
          have F5 : Hid (Fr (fun _ _ => True) wr W5) := hW5 ▸ (Fr.refl _ _).alloc _
          have B5 : Hid (BytesAt (New wr.heap.size) W5 (.slice (some ⟨wr.heap.size, 0, none⟩) 1 1) (le ws.length 1)) := hW5 ▸ BytesAt.of_own (row1b wr ws.length (by omega)) (by simp [le_length])
          have O5 : Hid (RowB W5 w.heap.size (.slice a nn' c) nn' Y) := own_tt O.out F5.out
          have F15 := Lib.hid (F.out.trans F5.out)
          obtain ⟨Z1, hZ1⟩ : ∃ X, Y ++ le ws.length 1 = X := ⟨_, rfl⟩
          have R1 := Lib.hid hZ1
          have NN1 : Hid (nn' + (le ws.length 1).length = nn' + 1) := by show _ = _; rw [le_length]
          have hZ1l : Z1.length = nn' + 1 := by rw [← hZ1, List.length_append, le_length, hnn']
          clear O F hY
          go_wp2_with (at_builtin; refine wpList_append_hid W5 rfl _ _ rfl w.heap.size F15.out.size _ nn' Y rfl O5 _ (le ws.length 1) rfl B5 (nn' + 1) Z1 R1 NN1 (by omega) ?_)
          intro a6 c6 w6 O6 G6
          have F6 : Hid (Fr (fun _ _ => True) w w6) := F15.out.grown_new G6.out (own_new O5.out)
          clear O5 B5 G6 F15 F5 hW5 cc0 u0 NN1 k0
          go_wp2_with fail
          go_loopw [3, 7] (fun v3 v7 wz => ∃ (i : Nat) (a : Option Addr) (nn c : Nat), i ≤ ws.length ∧ v7 = .int .i64 i ∧ v3 = .slice a nn c ∧ Hid (RowB wz w.heap.size (.slice a nn c) nn (Z1 ++ (ws.take i).flatMap waB)) ∧ Hid (Fr (fun _ _ => True) w wz) ∧ (Z1 ++ (ws.take i).flatMap waB).length = nn) (fun _ v7 _ => ws.length - (intOf v7).toNat)
          case atStart => exact ⟨0, a6, nn' + 1, c6, Nat.zero_le _, rfl, rfl, by show RowB _ _ _ _ _; rw [List.take_zero, List.flatMap_nil, List.append_nil]; exact O6.out, F6.out, by rw [List.take_zero, List.flatMap_nil, List.append_nil]; exact hZ1l⟩
          case round =>
            obtain ⟨i, a, nq, c, hi, rfl, rfl, O, F, hnq⟩ := hrel
            clear O6 F6
            have hlen2 : nq ≤ 700 := by
              rw [← hnq, List.length_append, flatMap_len waB_len, List.length_take]
              have : min i ws.length ≤ 4 := by omega
              omega
            by_cases hil : i < ws.length
            · have hilI : (i : Int) < ws.length := by omega
              obtain ⟨cc0, cc1, rh, rw'⟩ := CC.out wr F.out
              obtain ⟨b, off, o, rfl, _, _, hcl⟩ := rw'.spot (by omega)
              obtain ⟨x, hx⟩ : ∃ x, ws[i] = x := ⟨_, rfl⟩
              have EL : Hid (∀ W, Fr (fun _ _ => True) w W → W.cell? ⟨bt, 6 + r, none⟩ = some (.slice (some ⟨b, off, none⟩) ws.length cw) ∧ W.cell? ⟨b, off + i * 2, none⟩ = some (.int .i64 (x.c : Nat)) ∧ W.cell? ⟨b, off + i * 2 + 1, none⟩ = some (.int .i64 (x.m : Nat))) := Lib.hid fun W f => by
                obtain ⟨_, q1, _, q2⟩ := CC.out W f
                obtain ⟨b', off', o', e', _, _, hcl'⟩ := q2.spot (by omega)
                cases e'
                have := RowsAt.w2 (K := fun _ _ => True) hcl' i hil
                rw [hx] at this
                exact ⟨q1, this⟩
              have hxb := WMC.out ws[i] (List.getElem_mem _)
              rw [hx] at hxb
              have bm2 : x.m ≤ 2 := by omega
              have vc : IntKind.u8.wrap (x.c : Int) = (x.c : Nat) := by rw [IntKind.wrap_u8]; omega
              have vm : IntKind.u8.wrap (x.m : Int) = (x.m : Nat) := by rw [IntKind.wrap_u8]; omega
              have EX : Hid (Z1 ++ (ws.take (i + 1)).flatMap waB = (Z1 ++ (ws.take i).flatMap waB) ++ (le x.c 1 ++ le x.m 1)) := by
                show _ = _
                rw [flatMap_take waB ws i hil, hx]
                unfold waB
                simp only [List.append_assoc]
              obtain ⟨Y, hY⟩ : ∃ Y, Z1 ++ (ws.take i).flatMap waB = Y := ⟨_, rfl⟩
              rw [hY] at O hnq EX
              have hxc : x.c < 256 := by omega
              obtain ⟨W5, hW5⟩ : ∃ W, wr.drew.alloc (.cells #[.int .u8 (x.c : Nat), .int .u8 (x.m : Nat)] 5 (0, 0)) = W := ⟨_, rfl⟩
              have f5 : Fr (fun _ _ => True) wr (wr.drew.alloc (.cells #[.int .u8 (x.c : Nat), .int .u8 (x.m : Nat)] 5 (0, 0))) := ((Fr.refl _ _).drew).alloc _
              have F5 := Lib.hid f5
              have B5 : Hid (BytesAt (New wr.heap.size) (wr.drew.alloc (.cells #[.int .u8 (x.c : Nat), .int .u8 (x.m : Nat)] 5 (0, 0))) (.slice (some ⟨wr.heap.size, 0, none⟩) 2 2) (le x.c 1 ++ le x.m 1)) := Lib.hid (BytesAt.of_own (row2b wr.drew x.c x.m hxc (by omega)) (by simp [le_length]))
              have O5 : Hid (RowB (wr.drew.alloc (.cells #[.int .u8 (x.c : Nat), .int .u8 (x.m : Nat)] 5 (0, 0))) w.heap.size (.slice a nq c) nq Y) := own_tt O.out f5
              have F15 := Lib.hid (F.out.trans f5)
              obtain ⟨Y1, hY1⟩ : ∃ X, Y ++ (le x.c 1 ++ le x.m 1) = X := ⟨_, rfl⟩
              have R2 := Lib.hid hY1
              have NN2 : Hid (nq + 2 = nq + 2) := Lib.hid rfl
              clear hcl hx rh rw' hY f5 hW5
              go_upto_region 18 with fail
              go_region_held3 (fun W => W.cell? ⟨bt, 6 + r, none⟩ = some (.slice (some ⟨b, off, none⟩) ws.length cw) ∧ W.cell? ⟨b, off + i * 2, none⟩ = some (.int .i64 (x.c : Nat)) ∧ W.cell? ⟨b, off + i * 2 + 1, none⟩ = some (.int .i64 (x.m : Nat))) (first | exact EL.out _ F.out.drew | exact EL.out _ F15.out | exact EL.out _ F7.out)
                ((refine step_append_rb _ rfl _ _ rfl w.heap.size F15.out.size _ nq Y rfl O5 ⟨wr.heap.size, 0, none⟩ 2 2 (le x.c 1 ++ le x.m 1) rfl B5 (nq + 2) Y1 R2 NN2 (by omega) ?_; intro a7 c7 w7 O7 G7; have F7 : Hid (Fr (fun _ _ => True) w w7) := F15.out.grown_new G7.out (own_new O5.out)))
              all_goals
                have LY : Hid ((Z1 ++ (ws.take (i + 1)).flatMap waB).length = nq + 2) := by
                  show _ = _
                  rw [EX.out, List.length_append, hnq]
                  simp [le_length]
                rw [R2.out] at EX
                go_wp2
                go_roundw
                case rel => exact ⟨i + 1, _, _, _, hil, by go_num, rfl, by show RowB _ _ _ _ _; rw [EX.out]; exact O7.out, F7.out, LY.out⟩
                case measure => simp [intOf]; omega
            · obtain rfl : i = ws.length := by omega
              rw [List.take_length] at O hnq
              have cc0 := (CC.out wr F.out).2.1
              have EX : Hid (Z1 ++ ws.flatMap waB = lkK L (r + 1)) := by
                show _ = _
                rw [ENX.out, ← R1.out, ← HY.out, ← HX1.out]
                simp only [List.append_assoc]
              rw [EX.out] at O hnq
              go_wp2
              go_roundw
              case rel => exact ⟨r + 1, _, _, _, hlt, by go_num, rfl, O, F, hnq⟩
              case measure => simp [intOf]; omega
    · obtain rfl : r = 4 := by omega
      go_wp2
      go_ret
      cases hnn
      exact ⟨⟨a, c, rfl, BytesAt.of_own O.out rfl⟩, F.out⟩
end Go.Proofs.YtlolfcnfcgegdaaGreat
/- The document's service: Apply: acquires (printed by dapply20.py). -/
namespace Go.Proofs.YtlolfcnfcgegdaaGreat
open Go.RowKit
set_option linter.unusedVariables false
set_option linter.unusedSimpArgs false

theorem set2r {w : World} {g : Nat} {t : TypeId} {a0 a1 : Value} (h : w.heap[g]? = some (.cells #[a0, a1] t (0, 0))) (v0 v1 : Value) :
    ∃ W, ((w.setCell ⟨g, 1, none⟩ v1).setCell ⟨g, 0, none⟩ v0) = W ∧ W.heap[g]? = some (.cells #[v0, v1] t (0, 0)) ∧ Fr (fun c _ => c ≠ g) w W :=
  ⟨_, rfl, heap_setCell_same (o := 0) (heap_setCell_same (o := 1) h v1) v0, ((Fr.refl _ _).setCell (fun _ _ h => h rfl) _).setCell (fun _ _ h => h rfl) _⟩
set_option maxRecDepth 100000 in
set_option maxHeartbeats 8000000 in
theorem dap_acquire {n : Nat} {G : Nat → Prop} {K : Nat → Obj → Prop} (w : World) (bd d1 d2 : Nat) (M : MT) (L : Lk) (v : Value) (b : List UInt8) (h : DS n G w bd d1 d2 M L) (hn : n ≤ w.heap.size) (hb : BytesAt K w v b) (hm : b.length ≤ 1000000) (op cl sq rg md tk tm : Nat) (hd : decM b = (⟨(op : Nat), (cl : Nat), sq, (rg : Nat), (md : Nat), tk, tm⟩, 0)) (hop : op = 3) (hsq : sq < 4294967296) (hc : (askM M (cl : Nat) (sq : Nat)).2.2 = 0) (hg : (askM M (cl : Nat) (sq : Nat)).2.1 = false) (oc ov : Nat) (OL : Lk) (hO : acquireM L cl rg md = ((ov, oc), OL)) (hoc : oc < 256) (hov : ov < 18446744073709551616) :
    Calls Tryz.prog 11 #[.pointer (some ⟨bd, 0, none⟩), v] w fun e w' => e = .returned (vR ⟨oc, ov⟩) ∧ ∃ G', DS n G' w' bd d1 d2 (doneM M (cl : Nat) (sq : Nat) (rpB ⟨oc, ov⟩)).2 OL ∧ Kh d1 d2 G G' w w' := by
  obtain ⟨W1, hW1⟩ : ∃ W, w.alloc (.cells #[.int .i64 0, .int .u64 0] 38 (0, 0)) = W := ⟨_, rfl⟩
  have F1 : Hid (Fr (fun _ _ => True) w W1) := hW1 ▸ (Fr.refl _ _).alloc _
  have X1 : Hid (W1.heap[w.heap.size]? = some (.cells #[.int .i64 0, .int .u64 0] 38 (0, 0))) := hW1 ▸ heap_alloc_new w _
  have DC := Lib.hid (rdec_calls W1 v b (hb.tt F1.out) hm)
  rw [hd] at DC
  unfold vC at DC
  dsimp only at DC
  have H := Lib.hid h
  have HN := Lib.hid hn
  have HSZ : Hid (w.heap.size < W1.heap.size) := lt_of_some X1.out
  have NB := Lib.hid h.far
  subst hop
  have HSQ := Lib.hid hsq
  obtain ⟨AB, AG, AC, hask⟩ : ∃ a b c, askM M (cl : Nat) (sq : Nat) = (a, b, c) := ⟨_, _, _, rfl⟩
  rw [hask] at hc hg
  dsimp only at hc hg
  subst hc hg
  have HA := Lib.hid hask
  have HO := Lib.hid hO
  have HOC := Lib.hid hoc
  have hwc : IntKind.u8.wrap (oc : Int) = oc := by rw [IntKind.wrap_u8]; omega
  have NC := Lib.hid (fun W => num01_calls W ov 8 (ov : Int) 8 rfl rfl (by decide) hov)
  clear hsq hask hO hoc hov
  clear h hn hd hb hm
  go_enter Tryz.func11, Tryz.ntmps11
  go_wp2_with fail
  (with_reducible refine DC.out.mono ?_)
  rintro e w2 ⟨rfl, f2⟩
  have F2 := Lib.hid (F1.out.trans f2)
  have X2 : Hid (w2.heap[w.heap.size]? = some (.cells #[.int .i64 0, .int .u64 0] 38 (0, 0))) := f2.keep _ _ X1.out trivial
  clear f2 DC
  obtain ⟨W3, hW3⟩ : ∃ W, w2.alloc (.cells #[.int .i64 3, .int .i64 (cl : Nat), .int .u32 (sq : Nat), .int .i64 (rg : Nat), .int .i64 (md : Nat), .int .u64 (tk : Nat), .int .u64 (tm : Nat)] 80 (0, 0)) = W := ⟨_, rfl⟩
  have F3 : Hid (Fr (fun _ _ => True) w2 W3) := hW3 ▸ (Fr.refl _ _).alloc _
  have X3 : Hid (W3.heap[w2.heap.size]? = some (.cells #[.int .i64 3, .int .i64 (cl : Nat), .int .u32 (sq : Nat), .int .i64 (rg : Nat), .int .i64 (md : Nat), .int .u64 (tk : Nat), .int .u64 (tm : Nat)] 80 (0, 0))) := hW3 ▸ heap_alloc_new w2 _
  have XR : Hid (W3.heap[w.heap.size]? = some (.cells #[.int .i64 0, .int .u64 0] 38 (0, 0))) := F3.out.keep _ _ X2.out trivial
  have c0 := cell_mk (i := 0) X3.out rfl
  have FA : Hid (Fr (fun _ _ => True) w W3) := F2.out.trans F3.out
  have SA := Lib.hid (H.out.tt FA.out)
  have KA : Hid (Kh d1 d2 G G w W3) := Kh.same G FA.out
  have U0 : Hid (Fr (fun _ _ => True) W3 W3.drew) := (Fr.refl _ _).drew
  have HNA : Hid (n ≤ W3.heap.size) := Nat.le_trans HN.out FA.out.size
  have BX : Hid (w.heap.size < w2.heap.size) := lt_of_some X2.out
  go_upto_region 15 with fail
  try rw [hW3]
  clear c0
  have CC : Hid (∀ W, Fr (fun _ _ => True) W3 W → W.cell? ⟨bd, 0, none⟩ = some (.pointer (some ⟨d1, 0, none⟩)) ∧ W.cell? ⟨w2.heap.size, 1, none⟩ = some (.int .i64 (cl : Nat)) ∧ W.cell? ⟨w2.heap.size, 2, none⟩ = some (.int .u32 (sq : Nat))) := fun W f => ⟨cell_mk (f.keep _ _ SA.out.top trivial) rfl, cell_mk (f.keep _ _ X3.out trivial) rfl, cell_mk (f.keep _ _ X3.out trivial) rfl⟩
  have ASK := Lib.hid (fun W (f : Fr (fun _ _ => True) W3 W) => ds_ask W (cl : Nat) sq HSQ.out (SA.out.tt f))
  rw [HA.out] at ASK
  clear hW3
  go_region_held3 (fun W => W.cell? ⟨bd, 0, none⟩ = some (.pointer (some ⟨d1, 0, none⟩)) ∧ W.cell? ⟨w2.heap.size, 1, none⟩ = some (.int .i64 (cl : Nat)) ∧ W.cell? ⟨w2.heap.size, 2, none⟩ = some (.int .u32 (sq : Nat)))
    (first | exact CC.out _ U0.out | exact CC.out _ UA.out)
    ((go_at_call 37; go_must ((with_reducible refine (ASK.out _ ?cf).mono ?_); (case cf => exact U0.out); rintro e wa ⟨⟨va, rfl, ba⟩, hwa⟩; have BA : Hid (BytesAt (KD n) wa va AB) := Lib.hid (hwa ▸ ba); have UA : Hid (Fr (fun _ _ => True) W3 wa) := Lib.hid (hwa ▸ U0.out); clear ba hwa)))
  have XA : Hid (wa.heap[w.heap.size]? = some (.cells #[.int .i64 0, .int .u64 0] 38 (0, 0))) := UA.out.keep _ _ XR.out trivial
  have XB : Hid (wa.heap[w2.heap.size]? = some (.cells #[.int .i64 3, .int .i64 (cl : Nat), .int .u32 (sq : Nat), .int .i64 (rg : Nat), .int .i64 (md : Nat), .int .u64 (tk : Nat), .int .u64 (tm : Nat)] 80 (0, 0))) := UA.out.keep _ _ X3.out trivial
  have SB := Lib.hid (SA.out.tt UA.out)
  have KB := Lib.hid (KA.out.trans (Kh.same G UA.out))
  have FB : Hid (Fr (fun _ _ => True) w wa) := FA.out.trans UA.out
  clear ASK CC U0
  obtain ⟨W4, hW4⟩ : ∃ W, wa.alloc (.cells #[.int .i64 0, .int .u64 0] 38 (0, 0)) = W := ⟨_, rfl⟩
  have XO4 : Hid (W4.heap[wa.heap.size]? = some (.cells #[.int .i64 0, .int .u64 0] 38 (0, 0))) := hW4 ▸ heap_alloc_new wa _
  have q0 := cell_mk (i := 0) XO4.out rfl
  have q1 := cell_mk (i := 1) XO4.out rfl
  have y0 := frozen_mk (i := 0) XO4.out
  have y1 := frozen_mk (i := 1) XO4.out
  obtain ⟨W5, hW5, TO, FO⟩ := set2 XO4.out (.int .i64 0) (.int .u64 0)
  have XO := Lib.hid TO
  have F4 : Hid (Fr (fun _ _ => True) wa W4) := hW4 ▸ (Fr.refl _ _).alloc _
  have F5 : Hid (Fr (fun _ _ => True) wa W5) := Lib.hid (Fr.within ((F4.out.mono fun _ _ _ => trivial).trans (FO.mono fun c _ h e => by have := h.2; omega)))
  have XT5 : Hid (W5.heap[w.heap.size]? = some (.cells #[.int .i64 0, .int .u64 0] 38 (0, 0))) := F5.out.keep _ _ XA.out trivial
  have XB5 : Hid (W5.heap[w2.heap.size]? = some (.cells #[.int .i64 3, .int .i64 (cl : Nat), .int .u32 (sq : Nat), .int .i64 (rg : Nat), .int .i64 (md : Nat), .int .u64 (tk : Nat), .int .u64 (tm : Nat)] 80 (0, 0))) := F5.out.keep _ _ XB.out trivial
  have S5 := Lib.hid (SB.out.tt F5.out)
  have K5 := Lib.hid (KB.out.trans (Kh.same G F5.out))
  have LT : Hid (w.heap.size < w2.heap.size ∧ w2.heap.size < wa.heap.size ∧ n ≤ w.heap.size) := ⟨BX.out, lt_of_some XB.out, HN.out⟩
  have U5 : Hid (Fr (fun _ _ => True) W5 W5.drew) := (Fr.refl _ _).drew
  have b0 := cell_mk (i := 0) XB5.out rfl
  clear BA UA XA XB SB KB FB XR X3 SA KA FA F3 TO FO XO4
  go_upto_region 23 with fail
  try rw [hW5]
  clear b0 hW5 hW4 q0 q1 y0 y1
  have CD : Hid (∀ W, Fr (fun c _ => c ≠ d2 ∧ c ≠ wa.heap.size) W5 W → W.cell? ⟨bd, 1, none⟩ = some (.pointer (some ⟨d2, 0, none⟩)) ∧ W.cell? ⟨w2.heap.size, 1, none⟩ = some (.int .i64 (cl : Nat)) ∧ W.cell? ⟨w2.heap.size, 3, none⟩ = some (.int .i64 (rg : Nat)) ∧ W.cell? ⟨w2.heap.size, 4, none⟩ = some (.int .i64 (md : Nat))) := fun W f => by
    have t := f.keep _ _ XB5.out (by have := LT.out; have := NB.out; omega)
    exact ⟨cell_mk (f.keep _ _ S5.out.top (by have := LT.out; have := NB.out; omega)) rfl, cell_mk t rfl, cell_mk t rfl, cell_mk t rfl⟩
  have QC := Lib.hid (fun W (f : Fr (fun _ _ => True) W5 W) => dacquire_calls W d2 cl rg md L (S5.out.lok.tt f) (Nat.le_trans HN.out (Nat.le_trans (Nat.le_of_lt (by have := LT.out; omega)) (Nat.le_trans F5.out.size f.size))))
  rw [HO.out] at QC
  dsimp only at QC
  go_region_held3 (fun W => W.cell? ⟨bd, 1, none⟩ = some (.pointer (some ⟨d2, 0, none⟩)) ∧ W.cell? ⟨w2.heap.size, 1, none⟩ = some (.int .i64 (cl : Nat)) ∧ W.cell? ⟨w2.heap.size, 3, none⟩ = some (.int .i64 (rg : Nat)) ∧ W.cell? ⟨w2.heap.size, 4, none⟩ = some (.int .i64 (md : Nat)))
    (first | exact CD.out _ (U5.out.mono fun _ _ _ => trivial) | exact CD.out _ (HK9.out.fr.mono fun _ _ h => h.1) | exact CD.out _ ((HK9.out.fr.mono fun _ _ h => h.1).setCell (fun _ _ h => h.2 rfl) _))
    ((go_at_call 39; go_must ((with_reducible refine (QC.out _ ?cf).mono ?_); (case cf => exact U5.out); rintro e w9 ⟨rfl, G9, T9, K9⟩; have HT9 := Lib.hid T9; have HK9 := Lib.hid ((Kg.same G U5.out).trans K9); have X9 : Hid (w9.heap[wa.heap.size]? = some (.cells #[.int .i64 0, .int .u64 0] 38 (0, 0))) := HK9.out.fr.keep _ _ XO.out (by have := LT.out; have := NB.out; omega); have q0 := cell_mk (i := 0) X9.out rfl; have q1 := cell_mk (i := 1) X9.out rfl; have y0 := frozen_mk (i := 0) X9.out; have y1 := frozen_mk (i := 1) X9.out; clear T9 K9)))
  obtain ⟨W10, hW10, T10, FZ10⟩ := set2r X9.out (.int .i64 (oc : Nat)) (.int .u64 (ov : Nat))
  have XO10 := Lib.hid T10
  have FX := Lib.hid FZ10
  clear T10 FZ10
  go_upto_region 34 with fail
  try rw [hW10]
  clear q0 q1 y0 y1 hW10
  have S9 := Lib.hid (S5.out.setL HT9.out HK9.out)
  have EE := Lib.hid (DS.end2 S9.out (K5.out.trans HK9.out.kh) FX.out X9.out HN.out (by have := LT.out; omega) (by decide))
  have S10 := Lib.hid EE.out.1
  have K10 := Lib.hid EE.out.2
  have XT10 : Hid (W10.heap[w.heap.size]? = some (.cells #[.int .i64 0, .int .u64 0] 38 (0, 0))) := FX.out.keep _ _ (HK9.out.fr.keep _ _ XT5.out (by have := LT.out; have := NB.out; omega)) (by have := LT.out; omega)
  have XB10 : Hid (W10.heap[w2.heap.size]? = some (.cells #[.int .i64 3, .int .i64 (cl : Nat), .int .u32 (sq : Nat), .int .i64 (rg : Nat), .int .i64 (md : Nat), .int .u64 (tk : Nat), .int .u64 (tm : Nat)] 80 (0, 0))) := FX.out.keep _ _ (HK9.out.fr.keep _ _ XB5.out (by have := LT.out; have := NB.out; omega)) (by have := LT.out; omega)
  clear EE FX X9 HT9 HK9 S9 K5 S5 XT5 XB5 XO CD QC U5 F5
  have U0 : Hid (Fr (fun _ _ => True) W10 W10.drew) := (Fr.refl _ _).drew
  have NB2 := Lib.hid S10.out.far
  have CE : Hid (∀ W, Fr (fun c _ => c ≠ d1) W10 W → W.cell? ⟨bd, 0, none⟩ = some (.pointer (some ⟨d1, 0, none⟩)) ∧ W.cell? ⟨w2.heap.size, 1, none⟩ = some (.int .i64 (cl : Nat)) ∧ W.cell? ⟨w2.heap.size, 2, none⟩ = some (.int .u32 (sq : Nat)) ∧ W.cell? ⟨wa.heap.size, 0, none⟩ = some (.int .i64 (oc : Nat)) ∧ W.cell? ⟨wa.heap.size, 1, none⟩ = some (.int .u64 (ov : Nat))) := fun W f => by
    have t1 := f.keep _ _ S10.out.top (by have := NB.out; omega)
    have t2 := f.keep _ _ XB10.out (by have := LT.out; have := NB.out; omega)
    have t3 := f.keep _ _ XO10.out (by have := LT.out; have := NB.out; omega)
    exact ⟨cell_mk t1 rfl, cell_mk t2 rfl, cell_mk t2 rfl, cell_mk t3 rfl, cell_mk t3 rfl⟩
  obtain ⟨BZ, hBZ⟩ : ∃ x, le oc 1 ++ le ov 8 = x := ⟨_, rfl⟩
  have RQ := Lib.hid hBZ
  have EBZ : Hid (rpB ⟨oc, ov⟩ = BZ) := hBZ
  have LBZ : Hid (BZ.length = 9) := by show _ = _; rw [← hBZ]; simp [le_length]
  have DN := Lib.hid (fun (W : World) (a' : Option Addr) (c' : Nat) (f : Fr (fun _ _ => True) W10 W) (hb : RowB W W10.heap.size (.slice a' 9 c') 9 BZ) => ds_done W (cl : Nat) sq (.slice a' 9 c') BZ HSQ.out ((BytesAt.of_own hb LBZ.out).mono fun c o _ h => .inr h.2) (by rw [LBZ.out]; decide) (S10.out.tt f))
  have RO := Lib.hid (fun W => row1b W oc HOC.out)
  clear hBZ
  go_region_held3 (fun W => W.cell? ⟨bd, 0, none⟩ = some (.pointer (some ⟨d1, 0, none⟩)) ∧ W.cell? ⟨w2.heap.size, 1, none⟩ = some (.int .i64 (cl : Nat)) ∧ W.cell? ⟨w2.heap.size, 2, none⟩ = some (.int .u32 (sq : Nat)) ∧ W.cell? ⟨wa.heap.size, 0, none⟩ = some (.int .i64 (oc : Nat)) ∧ W.cell? ⟨wa.heap.size, 1, none⟩ = some (.int .u64 (ov : Nat)))
    (first | exact CE.out _ HK14.out | exact CE.out _ (F13.out.mono fun _ _ _ => trivial) | exact CE.out _ ((F12.out.alloc _).mono fun _ _ _ => trivial) | exact CE.out _ (F12.out.mono fun _ _ _ => trivial) | exact CE.out _ ((U0.out.alloc _).mono fun _ _ _ => trivial) | exact CE.out _ (U0.out.mono fun _ _ _ => trivial))
    (first
      | (go_at_call 44; go_must ((with_reducible refine (NC.out _).mono ?_); rintro e w12 ⟨⟨a12, c12, rfl, b12⟩, f12⟩; obtain ⟨k12, cur12, rfl, _, _⟩ := own_slot b12 (by decide); have F12 : Hid (Fr (fun _ _ => True) W10 w12) := (by first | exact (U0.out.alloc _).trans f12 | exact U0.out.trans f12); have B12 : Hid (BytesAt (New W10.heap.size) w12 (.slice (some ⟨k12, 0, none⟩) 8 c12) (le ov 8)) := Lib.hid ((BytesAt.of_own b12 (le_length _ _)).mono fun c o _ h => ⟨Nat.le_trans (by first | exact U0.out.size | exact (U0.out.alloc _).size) h.1, h.2⟩); (first | (have O12 := Lib.hid (own_tt (RO.out W10.drew) f12)) | skip); clear f12 b12))
      | (go_at_call 43; go_must ((with_reducible refine (DN.out w13 _ _ F13.out O13.out).mono ?_); rintro e w14 ⟨rfl, T14, K14⟩; have S14 := Lib.hid T14; have HK14 : Hid (Fr (fun c _ => c ≠ d1) W10 w14) := Lib.hid ((F13.out.mono fun _ _ _ => trivial).trans K14); clear T14 K14))
      | (refine step_append_rb w12 rfl _ _ rfl W10.heap.size F12.out.size _ 1 (le oc 1) rfl O12 ⟨k12, 0, none⟩ 8 c12 (le ov 8) rfl B12 9 _ RQ (Lib.hid rfl) (by decide) ?_; intro a13 c13 w13 O13 G13; have F13 : Hid (Fr (fun _ _ => True) W10 w13) := F12.out.grown_new G13.out (own_new O12.out); clear G13)
      | (refine step_append_rb (w12.alloc _) rfl _ _ rfl W10.heap.size (F12.out.alloc _).size _ 1 (le oc 1) rfl (Lib.hid (own_basew (RO.out w12) fun k e => Nat.le_trans F12.out.size (own_new (RO.out w12) k e))) ⟨k12, 0, none⟩ 8 c12 (le ov 8) rfl (Lib.hid (B12.out.tt ((Fr.refl _ _).alloc _))) 9 _ RQ (Lib.hid rfl) (by decide) ?_; intro a13 c13 w13 O13 G13; have F13 : Hid (Fr (fun _ _ => True) W10 w13) := (F12.out.alloc _).grown_new G13.out (fun k e => Nat.le_trans F12.out.size (own_new (RO.out w12) k e)); clear G13))
  all_goals
    have X14 : Hid (w14.heap[w.heap.size]? = some (.cells #[.int .i64 0, .int .u64 0] 38 (0, 0))) := HK14.out.keep _ _ XT10.out (by have := LT.out; have := NB.out; omega)
    have XQ : Hid (w14.heap[wa.heap.size]? = some (.cells #[.int .i64 (oc : Nat), .int .u64 (ov : Nat)] 38 (0, 0))) := HK14.out.keep _ _ XO10.out (by have := LT.out; have := NB.out; omega)
    have r0 := cell_mk (i := 0) XQ.out rfl
    have r1 := cell_mk (i := 1) XQ.out rfl
    have q0 := cell_mk (i := 0) X14.out rfl
    have q1 := cell_mk (i := 1) X14.out rfl
    have y0 := frozen_mk (i := 0) X14.out
    have y1 := frozen_mk (i := 1) X14.out
    obtain ⟨WZ, hWZ, TZ, FZ⟩ := set2 X14.out (.int .i64 (oc : Nat)) (.int .u64 (ov : Nat))
    have p0 := cell_mk (i := 0) TZ rfl
    have p1 := cell_mk (i := 1) TZ rfl
    have FZH := Lib.hid FZ
    clear TZ FZ
    go_wp2
    try rw [hWZ]
    refine bodyPost_ret (v := .agg #[.int .i64 (oc : Nat), .int .u64 (ov : Nat)]) (by simp [results, Tryz.results11, go_sem, *]) rfl ⟨rfl, G9, ?_⟩
    try rw [hWZ]
    rw [EBZ.out]
    exact DS.end2 (S14.out) (K10.out.trans (Kh.ses HK14.out)) FZH.out X14.out HN.out (Nat.le_refl _) (by decide)
end Go.Proofs.YtlolfcnfcgegdaaGreat
/- The document's service: Apply: releases (printed by dapply20.py). -/
namespace Go.Proofs.YtlolfcnfcgegdaaGreat
open Go.RowKit
set_option linter.unusedVariables false
set_option linter.unusedSimpArgs false

set_option maxRecDepth 100000 in
set_option maxHeartbeats 8000000 in
theorem dap_release {n : Nat} {G : Nat → Prop} {K : Nat → Obj → Prop} (w : World) (bd d1 d2 : Nat) (M : MT) (L : Lk) (v : Value) (b : List UInt8) (h : DS n G w bd d1 d2 M L) (hn : n ≤ w.heap.size) (hb : BytesAt K w v b) (hm : b.length ≤ 1000000) (op cl sq rg md tk tm : Nat) (hd : decM b = (⟨(op : Nat), (cl : Nat), sq, (rg : Nat), (md : Nat), tk, tm⟩, 0)) (hop : op = 4) (hsq : sq < 4294967296) (hc : (askM M (cl : Nat) (sq : Nat)).2.2 = 0) (hg : (askM M (cl : Nat) (sq : Nat)).2.1 = false) (oc : Nat) (OL : Lk) (hO : releaseM L cl rg tk = (oc, OL)) (hoc : oc < 256) :
    Calls Tryz.prog 11 #[.pointer (some ⟨bd, 0, none⟩), v] w fun e w' => e = .returned (vR ⟨oc, 0⟩) ∧ ∃ G', DS n G' w' bd d1 d2 (doneM M (cl : Nat) (sq : Nat) (rpB ⟨oc, 0⟩)).2 OL ∧ Kh d1 d2 G G' w w' := by
  obtain ⟨W1, hW1⟩ : ∃ W, w.alloc (.cells #[.int .i64 0, .int .u64 0] 38 (0, 0)) = W := ⟨_, rfl⟩
  have F1 : Hid (Fr (fun _ _ => True) w W1) := hW1 ▸ (Fr.refl _ _).alloc _
  have X1 : Hid (W1.heap[w.heap.size]? = some (.cells #[.int .i64 0, .int .u64 0] 38 (0, 0))) := hW1 ▸ heap_alloc_new w _
  have DC := Lib.hid (rdec_calls W1 v b (hb.tt F1.out) hm)
  rw [hd] at DC
  unfold vC at DC
  dsimp only at DC
  have H := Lib.hid h
  have HN := Lib.hid hn
  have HSZ : Hid (w.heap.size < W1.heap.size) := lt_of_some X1.out
  have NB := Lib.hid h.far
  subst hop
  have HSQ := Lib.hid hsq
  obtain ⟨AB, AG, AC, hask⟩ : ∃ a b c, askM M (cl : Nat) (sq : Nat) = (a, b, c) := ⟨_, _, _, rfl⟩
  rw [hask] at hc hg
  dsimp only at hc hg
  subst hc hg
  have HA := Lib.hid hask
  have HO := Lib.hid hO
  have HOC := Lib.hid hoc
  have hwc : IntKind.u8.wrap (oc : Int) = oc := by rw [IntKind.wrap_u8]; omega
  have NC := Lib.hid (fun W => num01_calls W 0 8 0 8 rfl rfl (by decide) (by decide))
  clear hsq hask hO hoc
  clear h hn hd hb hm
  go_enter Tryz.func11, Tryz.ntmps11
  go_wp2_with fail
  (with_reducible refine DC.out.mono ?_)
  rintro e w2 ⟨rfl, f2⟩
  have F2 := Lib.hid (F1.out.trans f2)
  have X2 : Hid (w2.heap[w.heap.size]? = some (.cells #[.int .i64 0, .int .u64 0] 38 (0, 0))) := f2.keep _ _ X1.out trivial
  clear f2 DC
  obtain ⟨W3, hW3⟩ : ∃ W, w2.alloc (.cells #[.int .i64 4, .int .i64 (cl : Nat), .int .u32 (sq : Nat), .int .i64 (rg : Nat), .int .i64 (md : Nat), .int .u64 (tk : Nat), .int .u64 (tm : Nat)] 80 (0, 0)) = W := ⟨_, rfl⟩
  have F3 : Hid (Fr (fun _ _ => True) w2 W3) := hW3 ▸ (Fr.refl _ _).alloc _
  have X3 : Hid (W3.heap[w2.heap.size]? = some (.cells #[.int .i64 4, .int .i64 (cl : Nat), .int .u32 (sq : Nat), .int .i64 (rg : Nat), .int .i64 (md : Nat), .int .u64 (tk : Nat), .int .u64 (tm : Nat)] 80 (0, 0))) := hW3 ▸ heap_alloc_new w2 _
  have XR : Hid (W3.heap[w.heap.size]? = some (.cells #[.int .i64 0, .int .u64 0] 38 (0, 0))) := F3.out.keep _ _ X2.out trivial
  have c0 := cell_mk (i := 0) X3.out rfl
  have FA : Hid (Fr (fun _ _ => True) w W3) := F2.out.trans F3.out
  have SA := Lib.hid (H.out.tt FA.out)
  have KA : Hid (Kh d1 d2 G G w W3) := Kh.same G FA.out
  have U0 : Hid (Fr (fun _ _ => True) W3 W3.drew) := (Fr.refl _ _).drew
  have HNA : Hid (n ≤ W3.heap.size) := Nat.le_trans HN.out FA.out.size
  have BX : Hid (w.heap.size < w2.heap.size) := lt_of_some X2.out
  go_upto_region 15 with fail
  try rw [hW3]
  clear c0
  have CC : Hid (∀ W, Fr (fun _ _ => True) W3 W → W.cell? ⟨bd, 0, none⟩ = some (.pointer (some ⟨d1, 0, none⟩)) ∧ W.cell? ⟨w2.heap.size, 1, none⟩ = some (.int .i64 (cl : Nat)) ∧ W.cell? ⟨w2.heap.size, 2, none⟩ = some (.int .u32 (sq : Nat))) := fun W f => ⟨cell_mk (f.keep _ _ SA.out.top trivial) rfl, cell_mk (f.keep _ _ X3.out trivial) rfl, cell_mk (f.keep _ _ X3.out trivial) rfl⟩
  have ASK := Lib.hid (fun W (f : Fr (fun _ _ => True) W3 W) => ds_ask W (cl : Nat) sq HSQ.out (SA.out.tt f))
  rw [HA.out] at ASK
  clear hW3
  go_region_held3 (fun W => W.cell? ⟨bd, 0, none⟩ = some (.pointer (some ⟨d1, 0, none⟩)) ∧ W.cell? ⟨w2.heap.size, 1, none⟩ = some (.int .i64 (cl : Nat)) ∧ W.cell? ⟨w2.heap.size, 2, none⟩ = some (.int .u32 (sq : Nat)))
    (first | exact CC.out _ U0.out | exact CC.out _ UA.out)
    ((go_at_call 37; go_must ((with_reducible refine (ASK.out _ ?cf).mono ?_); (case cf => exact U0.out); rintro e wa ⟨⟨va, rfl, ba⟩, hwa⟩; have BA : Hid (BytesAt (KD n) wa va AB) := Lib.hid (hwa ▸ ba); have UA : Hid (Fr (fun _ _ => True) W3 wa) := Lib.hid (hwa ▸ U0.out); clear ba hwa)))
  have XA : Hid (wa.heap[w.heap.size]? = some (.cells #[.int .i64 0, .int .u64 0] 38 (0, 0))) := UA.out.keep _ _ XR.out trivial
  have XB : Hid (wa.heap[w2.heap.size]? = some (.cells #[.int .i64 4, .int .i64 (cl : Nat), .int .u32 (sq : Nat), .int .i64 (rg : Nat), .int .i64 (md : Nat), .int .u64 (tk : Nat), .int .u64 (tm : Nat)] 80 (0, 0))) := UA.out.keep _ _ X3.out trivial
  have SB := Lib.hid (SA.out.tt UA.out)
  have KB := Lib.hid (KA.out.trans (Kh.same G UA.out))
  have FB : Hid (Fr (fun _ _ => True) w wa) := FA.out.trans UA.out
  clear ASK CC U0
  obtain ⟨W4, hW4⟩ : ∃ W, wa.alloc (.cells #[.int .i64 0, .int .u64 0] 38 (0, 0)) = W := ⟨_, rfl⟩
  have XO4 : Hid (W4.heap[wa.heap.size]? = some (.cells #[.int .i64 0, .int .u64 0] 38 (0, 0))) := hW4 ▸ heap_alloc_new wa _
  have q0 := cell_mk (i := 0) XO4.out rfl
  have q1 := cell_mk (i := 1) XO4.out rfl
  have y0 := frozen_mk (i := 0) XO4.out
  have y1 := frozen_mk (i := 1) XO4.out
  obtain ⟨W5, hW5, TO, FO⟩ := set2 XO4.out (.int .i64 0) (.int .u64 0)
  have XO := Lib.hid TO
  have F4 : Hid (Fr (fun _ _ => True) wa W4) := hW4 ▸ (Fr.refl _ _).alloc _
  have F5 : Hid (Fr (fun _ _ => True) wa W5) := Lib.hid (Fr.within ((F4.out.mono fun _ _ _ => trivial).trans (FO.mono fun c _ h e => by have := h.2; omega)))
  have XT5 : Hid (W5.heap[w.heap.size]? = some (.cells #[.int .i64 0, .int .u64 0] 38 (0, 0))) := F5.out.keep _ _ XA.out trivial
  have XB5 : Hid (W5.heap[w2.heap.size]? = some (.cells #[.int .i64 4, .int .i64 (cl : Nat), .int .u32 (sq : Nat), .int .i64 (rg : Nat), .int .i64 (md : Nat), .int .u64 (tk : Nat), .int .u64 (tm : Nat)] 80 (0, 0))) := F5.out.keep _ _ XB.out trivial
  have S5 := Lib.hid (SB.out.tt F5.out)
  have K5 := Lib.hid (KB.out.trans (Kh.same G F5.out))
  have LT : Hid (w.heap.size < w2.heap.size ∧ w2.heap.size < wa.heap.size ∧ n ≤ w.heap.size) := ⟨BX.out, lt_of_some XB.out, HN.out⟩
  have U5 : Hid (Fr (fun _ _ => True) W5 W5.drew) := (Fr.refl _ _).drew
  have b0 := cell_mk (i := 0) XB5.out rfl
  clear BA UA XA XB SB KB FB XR X3 SA KA FA F3 TO FO XO4
  go_upto_region 27 with fail
  try rw [hW5]
  clear b0 hW5 hW4 q0 q1 y0 y1
  have CD : Hid (∀ W, Fr (fun c _ => c ≠ d2 ∧ c ≠ wa.heap.size) W5 W → W.cell? ⟨bd, 1, none⟩ = some (.pointer (some ⟨d2, 0, none⟩)) ∧ W.cell? ⟨w2.heap.size, 1, none⟩ = some (.int .i64 (cl : Nat)) ∧ W.cell? ⟨w2.heap.size, 3, none⟩ = some (.int .i64 (rg : Nat)) ∧ W.cell? ⟨w2.heap.size, 5, none⟩ = some (.int .u64 (tk : Nat))) := fun W f => by
    have t := f.keep _ _ XB5.out (by have := LT.out; have := NB.out; omega)
    exact ⟨cell_mk (f.keep _ _ S5.out.top (by have := LT.out; have := NB.out; omega)) rfl, cell_mk t rfl, cell_mk t rfl, cell_mk t rfl⟩
  have QC := Lib.hid (fun W (f : Fr (fun _ _ => True) W5 W) => drelease_calls W d2 cl rg tk L (S5.out.lok.tt f) (Nat.le_trans HN.out (Nat.le_trans (Nat.le_of_lt (by have := LT.out; omega)) (Nat.le_trans F5.out.size f.size))))
  rw [HO.out] at QC
  dsimp only at QC
  go_region_held3 (fun W => W.cell? ⟨bd, 1, none⟩ = some (.pointer (some ⟨d2, 0, none⟩)) ∧ W.cell? ⟨w2.heap.size, 1, none⟩ = some (.int .i64 (cl : Nat)) ∧ W.cell? ⟨w2.heap.size, 3, none⟩ = some (.int .i64 (rg : Nat)) ∧ W.cell? ⟨w2.heap.size, 5, none⟩ = some (.int .u64 (tk : Nat)))
    (first | exact CD.out _ (U5.out.mono fun _ _ _ => trivial) | exact CD.out _ (HK9.out.fr.mono fun _ _ h => h.1) | exact CD.out _ ((HK9.out.fr.mono fun _ _ h => h.1).setCell (fun _ _ h => h.2 rfl) _))
    ((go_at_call 40; go_must ((with_reducible refine (QC.out _ ?cf).mono ?_); (case cf => exact U5.out); rintro e w9 ⟨rfl, G9, T9, K9⟩; have HT9 := Lib.hid T9; have HK9 := Lib.hid ((Kg.same G U5.out).trans K9); have X9 : Hid (w9.heap[wa.heap.size]? = some (.cells #[.int .i64 0, .int .u64 0] 38 (0, 0))) := HK9.out.fr.keep _ _ XO.out (by have := LT.out; have := NB.out; omega); have q0 := cell_mk (i := 0) X9.out rfl; have q1 := cell_mk (i := 1) X9.out rfl; have y0 := frozen_mk (i := 0) X9.out; have y1 := frozen_mk (i := 1) X9.out; clear T9 K9)))
  obtain ⟨W10, hW10⟩ : ∃ W, w9.setCell ⟨wa.heap.size, 0, none⟩ (.int .i64 (oc : Nat)) = W := ⟨_, rfl⟩
  have XO10 : Hid (W10.heap[wa.heap.size]? = some (.cells #[.int .i64 (oc : Nat), .int .u64 0] 38 (0, 0))) := hW10 ▸ heap_setCell_same (o := 0) X9.out _
  have FX : Hid (Fr (fun c _ => c ≠ wa.heap.size) w9 W10) := hW10 ▸ (Fr.refl _ _).setCell (fun _ _ h => h rfl) _
  go_upto_region 34 with fail
  try rw [hW10]
  clear q0 q1 y0 y1 hW10
  have S9 := Lib.hid (S5.out.setL HT9.out HK9.out)
  have EE := Lib.hid (DS.end2 S9.out (K5.out.trans HK9.out.kh) FX.out X9.out HN.out (by have := LT.out; omega) (by decide))
  have S10 := Lib.hid EE.out.1
  have K10 := Lib.hid EE.out.2
  have XT10 : Hid (W10.heap[w.heap.size]? = some (.cells #[.int .i64 0, .int .u64 0] 38 (0, 0))) := FX.out.keep _ _ (HK9.out.fr.keep _ _ XT5.out (by have := LT.out; have := NB.out; omega)) (by have := LT.out; omega)
  have XB10 : Hid (W10.heap[w2.heap.size]? = some (.cells #[.int .i64 4, .int .i64 (cl : Nat), .int .u32 (sq : Nat), .int .i64 (rg : Nat), .int .i64 (md : Nat), .int .u64 (tk : Nat), .int .u64 (tm : Nat)] 80 (0, 0))) := FX.out.keep _ _ (HK9.out.fr.keep _ _ XB5.out (by have := LT.out; have := NB.out; omega)) (by have := LT.out; omega)
  clear EE FX X9 HT9 HK9 S9 K5 S5 XT5 XB5 XO CD QC U5 F5
  have U0 : Hid (Fr (fun _ _ => True) W10 W10.drew) := (Fr.refl _ _).drew
  have NB2 := Lib.hid S10.out.far
  have CE : Hid (∀ W, Fr (fun c _ => c ≠ d1) W10 W → W.cell? ⟨bd, 0, none⟩ = some (.pointer (some ⟨d1, 0, none⟩)) ∧ W.cell? ⟨w2.heap.size, 1, none⟩ = some (.int .i64 (cl : Nat)) ∧ W.cell? ⟨w2.heap.size, 2, none⟩ = some (.int .u32 (sq : Nat)) ∧ W.cell? ⟨wa.heap.size, 0, none⟩ = some (.int .i64 (oc : Nat)) ∧ W.cell? ⟨wa.heap.size, 1, none⟩ = some (.int .u64 0)) := fun W f => by
    have t1 := f.keep _ _ S10.out.top (by have := NB.out; omega)
    have t2 := f.keep _ _ XB10.out (by have := LT.out; have := NB.out; omega)
    have t3 := f.keep _ _ XO10.out (by have := LT.out; have := NB.out; omega)
    exact ⟨cell_mk t1 rfl, cell_mk t2 rfl, cell_mk t2 rfl, cell_mk t3 rfl, cell_mk t3 rfl⟩
  obtain ⟨BZ, hBZ⟩ : ∃ x, le oc 1 ++ le 0 8 = x := ⟨_, rfl⟩
  have RQ := Lib.hid hBZ
  have EBZ : Hid (rpB ⟨oc, 0⟩ = BZ) := hBZ
  have LBZ : Hid (BZ.length = 9) := by show _ = _; rw [← hBZ]; simp [le_length]
  have DN := Lib.hid (fun (W : World) (a' : Option Addr) (c' : Nat) (f : Fr (fun _ _ => True) W10 W) (hb : RowB W W10.heap.size (.slice a' 9 c') 9 BZ) => ds_done W (cl : Nat) sq (.slice a' 9 c') BZ HSQ.out ((BytesAt.of_own hb LBZ.out).mono fun c o _ h => .inr h.2) (by rw [LBZ.out]; decide) (S10.out.tt f))
  have RO := Lib.hid (fun W => row1b W oc HOC.out)
  clear hBZ
  go_region_held3 (fun W => W.cell? ⟨bd, 0, none⟩ = some (.pointer (some ⟨d1, 0, none⟩)) ∧ W.cell? ⟨w2.heap.size, 1, none⟩ = some (.int .i64 (cl : Nat)) ∧ W.cell? ⟨w2.heap.size, 2, none⟩ = some (.int .u32 (sq : Nat)) ∧ W.cell? ⟨wa.heap.size, 0, none⟩ = some (.int .i64 (oc : Nat)) ∧ W.cell? ⟨wa.heap.size, 1, none⟩ = some (.int .u64 0))
    (first | exact CE.out _ HK14.out | exact CE.out _ (F13.out.mono fun _ _ _ => trivial) | exact CE.out _ ((F12.out.alloc _).mono fun _ _ _ => trivial) | exact CE.out _ (F12.out.mono fun _ _ _ => trivial) | exact CE.out _ ((U0.out.alloc _).mono fun _ _ _ => trivial) | exact CE.out _ (U0.out.mono fun _ _ _ => trivial))
    (first
      | (go_at_call 44; go_must ((with_reducible refine (NC.out _).mono ?_); rintro e w12 ⟨⟨a12, c12, rfl, b12⟩, f12⟩; obtain ⟨k12, cur12, rfl, _, _⟩ := own_slot b12 (by decide); have F12 : Hid (Fr (fun _ _ => True) W10 w12) := (by first | exact (U0.out.alloc _).trans f12 | exact U0.out.trans f12); have B12 : Hid (BytesAt (New W10.heap.size) w12 (.slice (some ⟨k12, 0, none⟩) 8 c12) (le 0 8)) := Lib.hid ((BytesAt.of_own b12 (le_length _ _)).mono fun c o _ h => ⟨Nat.le_trans (by first | exact U0.out.size | exact (U0.out.alloc _).size) h.1, h.2⟩); (first | (have O12 := Lib.hid (own_tt (RO.out W10.drew) f12)) | skip); clear f12 b12))
      | (go_at_call 43; go_must ((with_reducible refine (DN.out w13 _ _ F13.out O13.out).mono ?_); rintro e w14 ⟨rfl, T14, K14⟩; have S14 := Lib.hid T14; have HK14 : Hid (Fr (fun c _ => c ≠ d1) W10 w14) := Lib.hid ((F13.out.mono fun _ _ _ => trivial).trans K14); clear T14 K14))
      | (refine step_append_rb w12 rfl _ _ rfl W10.heap.size F12.out.size _ 1 (le oc 1) rfl O12 ⟨k12, 0, none⟩ 8 c12 (le 0 8) rfl B12 9 _ RQ (Lib.hid rfl) (by decide) ?_; intro a13 c13 w13 O13 G13; have F13 : Hid (Fr (fun _ _ => True) W10 w13) := F12.out.grown_new G13.out (own_new O12.out); clear G13)
      | (refine step_append_rb (w12.alloc _) rfl _ _ rfl W10.heap.size (F12.out.alloc _).size _ 1 (le oc 1) rfl (Lib.hid (own_basew (RO.out w12) fun k e => Nat.le_trans F12.out.size (own_new (RO.out w12) k e))) ⟨k12, 0, none⟩ 8 c12 (le 0 8) rfl (Lib.hid (B12.out.tt ((Fr.refl _ _).alloc _))) 9 _ RQ (Lib.hid rfl) (by decide) ?_; intro a13 c13 w13 O13 G13; have F13 : Hid (Fr (fun _ _ => True) W10 w13) := (F12.out.alloc _).grown_new G13.out (fun k e => Nat.le_trans F12.out.size (own_new (RO.out w12) k e)); clear G13))
  all_goals
    have X14 : Hid (w14.heap[w.heap.size]? = some (.cells #[.int .i64 0, .int .u64 0] 38 (0, 0))) := HK14.out.keep _ _ XT10.out (by have := LT.out; have := NB.out; omega)
    have XQ : Hid (w14.heap[wa.heap.size]? = some (.cells #[.int .i64 (oc : Nat), .int .u64 0] 38 (0, 0))) := HK14.out.keep _ _ XO10.out (by have := LT.out; have := NB.out; omega)
    have r0 := cell_mk (i := 0) XQ.out rfl
    have r1 := cell_mk (i := 1) XQ.out rfl
    have q0 := cell_mk (i := 0) X14.out rfl
    have q1 := cell_mk (i := 1) X14.out rfl
    have y0 := frozen_mk (i := 0) X14.out
    have y1 := frozen_mk (i := 1) X14.out
    obtain ⟨WZ, hWZ, TZ, FZ⟩ := set2 X14.out (.int .i64 (oc : Nat)) (.int .u64 0)
    have p0 := cell_mk (i := 0) TZ rfl
    have p1 := cell_mk (i := 1) TZ rfl
    have FZH := Lib.hid FZ
    clear TZ FZ
    go_wp2
    try rw [hWZ]
    refine bodyPost_ret (v := .agg #[.int .i64 (oc : Nat), .int .u64 0]) (by simp [results, Tryz.results11, go_sem, *]) rfl ⟨rfl, G9, ?_⟩
    try rw [hWZ]
    rw [EBZ.out]
    exact DS.end2 (S14.out) (K10.out.trans (Kh.ses HK14.out)) FZH.out X14.out HN.out (Nat.le_refl _) (by decide)
end Go.Proofs.YtlolfcnfcgegdaaGreat
