/- Texts of the proofs, part 30: what the functions that they reach do, walked; no conditions beyond those that each states. -/
import Derived.Deep.QuietTactic
import Derived.BigQuiet
import Derived.Test.YtlolfcnfcgegdaaGreatZzc2631ecada
set_option linter.unusedVariables false
set_option linter.unusedSimpArgs false
/- The document's locks: fine (printed by fine19.py). -/
namespace Go.Proofs.YtlolfcnfcgegdaaGreat
open Go.RowKit
set_option linter.unusedVariables false
set_option linter.unusedSimpArgs false

theorem all_false {f : Nat → Bool} {n j : Nat} (hj : j < n) (h : f j = false) : (List.range n).all f = false := by
  rw [Bool.eq_false_iff]
  intro q
  rw [List.all_eq_true] at q
  rw [q j (List.mem_range.2 hj)] at h
  cases h
theorem fine_h {last : Nat} {r : Rgn} {j : Nat} (hj : j < r.hs.length) (h : fH last r j = false) : fineD last r = false := by unfold fineD; rw [all_false hj h]; simp
theorem fine_w {last : Nat} {r : Rgn} {j : Nat} (hj : j < r.ws.length) (h : fW r j = false) : fineD last r = false := by unfold fineD; rw [all_false hj h]; simp
theorem fine_c {last : Nat} {r : Rgn} {j : Nat} (hj : j < (whoR r).length) (h : fC (whoR r) j = false) : fineD last r = false := by unfold fineD; rw [all_false hj h]; simp
theorem fine_len {last : Nat} {r : Rgn} (h : ¬ (r.hs.length ≤ 4 ∧ r.ws.length ≤ 4)) : fineD last r = false := by
  unfold fineD
  by_cases q : r.hs.length ≤ 4
  · rw [decide_eq_false (p := r.ws.length ≤ 4) fun x => h ⟨q, x⟩]; simp
  · rw [decide_eq_false q]; simp
theorem fine_yes {last : Nat} {r : Rgn} (h4 : r.hs.length ≤ 4) (w4 : r.ws.length ≤ 4) (hh : ∀ j, j < r.hs.length → fH last r j = true) (hw : ∀ j, j < r.ws.length → fW r j = true) (hc : ∀ j, j < (whoR r).length → fC (whoR r) j = true) : fineD last r = true := by
  unfold fineD
  rw [decide_eq_true h4, decide_eq_true w4, List.all_eq_true.2 fun j hj => hh j (List.mem_range.1 hj), List.all_eq_true.2 fun j hj => hw j (List.mem_range.1 hj), List.all_eq_true.2 fun j hj => hc j (List.mem_range.1 hj)]
  rfl
set_option maxRecDepth 100000 in
set_option maxHeartbeats 8000000 in
theorem fine_calls {K K' : Nat → Obj → Prop} (w : World) (bt r last : Nat) (ah aw : Option Addr) (ch cw : Nat) (hs : List Ho) (ws : List Wa) (hr4 : r < 4) (c0 : w.cell? ⟨bt, 2 + r, none⟩ = some (.slice ah hs.length ch)) (c1 : w.cell? ⟨bt, 6 + r, none⟩ = some (.slice aw ws.length cw)) (c2 : w.cell? ⟨bt, 1, none⟩ = some (.int .u64 (last : Nat))) (hh : RowsAt K w (.slice ah hs.length ch) 4 encH hs) (hw : RowsAt K' w (.slice aw ws.length cw) 2 encW ws) (l1 : hs.length ≤ 1000000) (l2 : ws.length ≤ 1000000) (hcb : (∀ x ∈ hs, x.c < 256) ∧ ∀ x ∈ ws, x.c < 256) :
    Calls Tryz.prog 87 #[.pointer (some ⟨bt, 0, none⟩), .int .i64 (r : Nat)] w fun e w' => e = .returned (.bool (fineD last ⟨hs, ws⟩)) ∧ Fr (fun _ _ => True) w w' := by
  obtain ⟨ck, hck⟩ : ∃ c, fineD last ⟨hs, ws⟩ = c := ⟨_, rfl⟩
  have HCK := Lib.hid hck
  have hrI : (r : Int) < 4 := by omega
  rw [hck]
  have C := Lib.hid (fun W (f : Fr (fun _ _ => True) w W) => (⟨f.cell (fun _ _ => trivial) c0, f.cell (fun _ _ => trivial) c1, f.cell (fun _ _ => trivial) c2⟩ : W.cell? ⟨bt, 2 + r, none⟩ = some (.slice ah hs.length ch) ∧ W.cell? ⟨bt, 6 + r, none⟩ = some (.slice aw ws.length cw) ∧ W.cell? ⟨bt, 1, none⟩ = some (.int .u64 (last : Nat))))
  have HH := Lib.hid hh
  have HW := Lib.hid hw
  have HCB := Lib.hid hcb
  clear hh hw hck hr4 hcb
  by_cases q4 : hs.length ≤ 4
  · by_cases p4 : ws.length ≤ 4
    · have q4I : (hs.length : Int) ≤ 4 := by omega
      have p4I : (ws.length : Int) ≤ 4 := by omega
      have HQ4 := Lib.hid q4
      have HP4 := Lib.hid p4
      clear q4 p4
      go_enter Tryz.func87, Tryz.ntmps87
      go_wp2_with fail
      go_loopw [5, 6] (fun s v6 wz => ∃ i : Nat, i ≤ hs.length ∧ v6 = .int .i64 i ∧ Hid (RowI wz w.heap.size s ((hs.take i).map cI)) ∧ Hid (Fr (fun _ _ => True) w wz) ∧ Hid (∀ j, j < i → fH last ⟨hs, ws⟩ j = true)) (fun _ v6 _ => hs.length - (intOf v6).toNat)
      case atStart => exact ⟨0, Nat.zero_le _, rfl, RowI.nil _ _, Fr.refl _ _, fun j hj => absurd hj (Nat.not_lt_zero j)⟩
      case round =>
        obtain ⟨i, hi, rfl, RS, F, G⟩ := hrel
        obtain ⟨sa, sc, rfl⟩ := RS.out.form
        obtain ⟨lens, hlens⟩ : ∃ n, ((hs.take i).map cI).length = n := ⟨_, rfl⟩
        have lensB : lens ≤ 1000000 := by rw [← hlens, List.length_map, List.length_take]; omega
        rw [hlens] at RS ⊢
        obtain ⟨d0, d1, d2⟩ := C.out wr F.out
        clear c0 c1 c2
        by_cases hil : i < hs.length
        · have hilI : (i : Int) < hs.length := by omega
          obtain ⟨b, off, ob, rfl, _, _, hcl⟩ := (HH.out.fr (K' := fun _ _ => True) F.out fun _ _ _ _ => trivial).spot (by omega)
          obtain ⟨x, hx⟩ : ∃ x, hs[i] = x := ⟨_, rfl⟩
          have hcs := RowsAt.h4 (K := fun _ _ => True) hcl i hil
          rw [hx] at hcs
          obtain ⟨k0, k1, k2, k3⟩ := hcs
          have EG : Hid (hs.getD i default = x) := Lib.hid ((getD_at hil).trans hx)
          have ET := Lib.hid (take_mapC hs i hil)
          rw [hx] at ET
          have OKE : Hid (fH last ⟨hs, ws⟩ i = (decide (x.m = 1 ∨ x.m = 2) && !(decide (x.m = 2) && decide (1 < hs.length)) && decide (0 < x.t) && decide (x.t ≤ last))) := by
            show _ = _
            unfold fH
            dsimp only
            rw [EG.out]
          clear hcl hx
          obtain ⟨W3, hW3⟩ : ∃ W, wr.alloc (.cells #[.int .i64 0, .int .i64 0, .int .u64 0, .int .u64 0] 112 (0, 0)) = W := ⟨_, rfl⟩
          have FA : Hid (Fr (fun _ _ => True) wr W3) := hW3 ▸ (Fr.refl _ _).alloc _
          have XA : Hid (W3.heap[wr.heap.size]? = some (.cells #[.int .i64 0, .int .i64 0, .int .u64 0, .int .u64 0] 112 (0, 0))) := hW3 ▸ heap_alloc_new wr _
          have q0 := cell_mk (i := 0) XA.out rfl
          have z0 := frozen_mk (i := 0) XA.out
          have q1 := cell_mk (i := 1) XA.out rfl
          have z1 := frozen_mk (i := 1) XA.out
          have q2 := cell_mk (i := 2) XA.out rfl
          have z2 := frozen_mk (i := 2) XA.out
          have q3 := cell_mk (i := 3) XA.out rfl
          have z3 := frozen_mk (i := 3) XA.out
          obtain ⟨v3, hWZ, TZ, FZ⟩ := set4 XA.out (.int .i64 (x.c : Nat)) (.int .i64 (x.m : Nat)) (.int .u64 (x.t : Nat)) (.int .u64 (x.u : Nat))
          have FV : Hid (Fr (fun _ _ => True) wr v3) := Lib.hid (Fr.within ((FA.out.mono fun _ _ _ => trivial).trans (FZ.mono fun c _ h e => by have := h.2; omega)))
          have F3 := Lib.hid (F.out.trans FV.out)
          have R3 := Lib.hid (RS.out.tt FV.out)
          have T3 := Lib.hid TZ
          clear FA XA TZ FZ RS F
          go_upto_region 8 with fail
          try rw [hWZ]
          clear hWZ hW3 q0 q1 q2 q3 z0 z1 z2 z3 k0 k1 k2 k3 d0 d1 d2
          obtain ⟨bh, hbh⟩ : ∃ m, wr.heap.size = m := ⟨_, rfl⟩
          rw [hbh] at T3 ⊢
          clear hbh
          have e1 := cell_mk (i := 1) T3.out rfl
          have e2 := cell_mk (i := 2) T3.out rfl
          obtain ⟨d0, d1, d2⟩ := C.out v3 F3.out
          by_cases m0 : x.m < 1
          · have m0I : (x.m : Int) < 1 := by omega
            have hb : ck = false := by
              rw [← HCK.out]
              exact fine_h hil (by rw [OKE.out, decide_eq_false (p := x.m = 1 ∨ x.m = 2) (by omega)]; simp)
            clear HCK
            subst hb
            go_quiet (fail)
            go_wp2
            go_ret
            exact ⟨rfl, F3.out.trans ((Fr.refl _ _).drewN _)⟩
          · have m0I : ¬ (x.m : Int) < 1 := by omega
            by_cases m2 : 2 < x.m
            · have m2I : (2 : Int) < x.m := by omega
              have hb : ck = false := by
                rw [← HCK.out]
                exact fine_h hil (by rw [OKE.out, decide_eq_false (p := x.m = 1 ∨ x.m = 2) (by omega)]; simp)
              clear HCK
              subst hb
              go_quiet (fail)
              go_wp2
              go_ret
              exact ⟨rfl, F3.out.trans ((Fr.refl _ _).drewN _)⟩
            · have m2I : ¬ (2 : Int) < x.m := by omega
              have hm12 : x.m = 1 ∨ x.m = 2 := by omega
              by_cases me2 : x.m = 2
              · have me2I : ((x.m : Int) == 2) = true := by simp; omega
                by_cases h1 : (1 : Int) < hs.length
                · skip
                  have hb : ck = false := by
                    rw [← HCK.out]
                    exact fine_h hil (by rw [OKE.out, decide_eq_true me2, decide_eq_true (p := 1 < hs.length) (by omega)]; simp)
                  clear HCK
                  subst hb
                  go_quiet (fail)
                  go_wp2
                  go_ret
                  exact ⟨rfl, F3.out.trans ((Fr.refl _ _).drewN _)⟩
                · skip
                  by_cases t0 : x.t = 0
                  · have t0I : ((x.t : Int) == 0) = true := by simp; omega
                    have hb : ck = false := by
                      rw [← HCK.out]
                      exact fine_h hil (by rw [OKE.out, decide_eq_false (p := 0 < x.t) (by omega)]; simp)
                    clear HCK
                    subst hb
                    go_quiet (fail)
                    go_wp2
                    go_ret
                    exact ⟨rfl, F3.out.trans ((Fr.refl _ _).drewN _)⟩
                  · have t0I : ((x.t : Int) == 0) = false := by simp; omega
                    by_cases tl : last < x.t
                    · have tlI : (last : Int) < x.t := by omega
                      have hb : ck = false := by
                        rw [← HCK.out]
                        exact fine_h hil (by rw [OKE.out, decide_eq_false (p := x.t ≤ last) (by omega)]; simp)
                      clear HCK
                      subst hb
                      go_quiet (fail)
                      go_wp2
                      go_ret
                      exact ⟨rfl, F3.out.trans ((Fr.refl _ _).drewN _)⟩
                    · have tlI : ¬ (last : Int) < x.t := by omega
                      have hg : Hid (fH last ⟨hs, ws⟩ i = true) := by show _ = _; rw [OKE.out, decide_eq_true hm12, decide_eq_true (p := 0 < x.t) (by omega), decide_eq_true (p := x.t ≤ last) (by omega), decide_eq_false (p := 1 < hs.length) (by omega)]; simp
                      clear OKE
                      go_quiet (fail)
                      have F4 := Lib.hid (F3.out.trans ((Fr.refl _ v3).drewN nq))
                      have R4 := Lib.hid (R3.out.tt ((Fr.refl _ v3).drewN nq))
                      have e0 := cell_mk (i := 0) (((Fr.refl (fun _ _ => True) v3).drewN nq).keep _ _ T3.out trivial) rfl
                      obtain ⟨v4, hv4⟩ : ∃ v, v3.drewN nq = v := ⟨_, rfl⟩
                      rw [hv4] at F4 R4 e0 ⊢
                      clear F3 R3 T3 e1 e2 d0 d1 d2 hv4
                      go_wp2_with (at_builtin; refine wpList_append_int1 w v4 _ F4 rfl _ _ rfl _ _ rfl R4 rfl _ ET (lens + 1) (by show _ = _; rw [← hlens, ← ET.out]; simp) (by omega) ?_)
                      intro a1 c1 w5 O1 G1 G2 N1
                      clear e0
                      go_wp2
                      go_roundw
                      case rel =>
                        refine ⟨i + 1, hil, by go_num, ?_, G1.out, fun j hj => ?_⟩
                        · show RowI _ _ _ _; rw [List.map_take]; exact O1.out
                        · by_cases e : j = i
                          · rw [e]; exact hg.out
                          · exact G.out j (by omega)
                      case measure => simp [intOf]; omega
              · have me2I : ((x.m : Int) == 2) = false := by simp; omega
                by_cases t0 : x.t = 0
                · have t0I : ((x.t : Int) == 0) = true := by simp; omega
                  have hb : ck = false := by
                    rw [← HCK.out]
                    exact fine_h hil (by rw [OKE.out, decide_eq_false (p := 0 < x.t) (by omega)]; simp)
                  clear HCK
                  subst hb
                  go_quiet (fail)
                  go_wp2
                  go_ret
                  exact ⟨rfl, F3.out.trans ((Fr.refl _ _).drewN _)⟩
                · have t0I : ((x.t : Int) == 0) = false := by simp; omega
                  by_cases tl : last < x.t
                  · have tlI : (last : Int) < x.t := by omega
                    have hb : ck = false := by
                      rw [← HCK.out]
                      exact fine_h hil (by rw [OKE.out, decide_eq_false (p := x.t ≤ last) (by omega)]; simp)
                    clear HCK
                    subst hb
                    go_quiet (fail)
                    go_wp2
                    go_ret
                    exact ⟨rfl, F3.out.trans ((Fr.refl _ _).drewN _)⟩
                  · have tlI : ¬ (last : Int) < x.t := by omega
                    have hg : Hid (fH last ⟨hs, ws⟩ i = true) := by show _ = _; rw [OKE.out, decide_eq_true hm12, decide_eq_true (p := 0 < x.t) (by omega), decide_eq_true (p := x.t ≤ last) (by omega), decide_eq_false me2]; simp
                    clear OKE
                    go_quiet (fail)
                    have F4 := Lib.hid (F3.out.trans ((Fr.refl _ v3).drewN nq))
                    have R4 := Lib.hid (R3.out.tt ((Fr.refl _ v3).drewN nq))
                    have e0 := cell_mk (i := 0) (((Fr.refl (fun _ _ => True) v3).drewN nq).keep _ _ T3.out trivial) rfl
                    obtain ⟨v4, hv4⟩ : ∃ v, v3.drewN nq = v := ⟨_, rfl⟩
                    rw [hv4] at F4 R4 e0 ⊢
                    clear F3 R3 T3 e1 e2 d0 d1 d2 hv4
                    go_wp2_with (at_builtin; refine wpList_append_int1 w v4 _ F4 rfl _ _ rfl _ _ rfl R4 rfl _ ET (lens + 1) (by show _ = _; rw [← hlens, ← ET.out]; simp) (by omega) ?_)
                    intro a1 c1 w5 O1 G1 G2 N1
                    clear e0
                    go_wp2
                    go_roundw
                    case rel =>
                      refine ⟨i + 1, hil, by go_num, ?_, G1.out, fun j hj => ?_⟩
                      · show RowI _ _ _ _; rw [List.map_take]; exact O1.out
                      · by_cases e : j = i
                        · rw [e]; exact hg.out
                        · exact G.out j (by omega)
                    case measure => simp [intOf]; omega
        · have hie : i = hs.length := by omega
          have hge : (hs.length : Int) ≤ i := by omega
          rw [hie, List.take_length] at RS
          rw [hie, List.take_length] at hlens
          have GH : Hid (∀ j, j < hs.length → fH last ⟨hs, ws⟩ j = true) := fun j hj => G.out j (by omega)
          clear hie G
          go_wp2_with fail
          go_loopw [5, 8] (fun s v8 wz => ∃ i : Nat, i ≤ ws.length ∧ v8 = .int .i64 i ∧ Hid (RowI wz w.heap.size s (hs.map cI ++ (ws.take i).map cW)) ∧ Hid (Fr (fun _ _ => True) w wz) ∧ Hid (∀ j, j < i → fW ⟨hs, ws⟩ j = true)) (fun _ v8 _ => ws.length - (intOf v8).toNat)
          case atStart => exact ⟨0, Nat.zero_le _, rfl, by show RowI _ _ _ _; rw [List.take_zero, List.map_nil, List.append_nil]; first | exact RS.out | (rw [← hlens] at RS; exact RS.out), F.out, fun j hj => absurd hj (Nat.not_lt_zero j)⟩
          case round =>
            obtain ⟨i2, hi2, rfl, RS2, F2, G2⟩ := hrel
            clear RS F d0 d1 d2 hlens lensB
            obtain ⟨sa, sc, rfl⟩ := RS2.out.form
            obtain ⟨lens, hlens⟩ : ∃ n, (hs.map cI ++ (ws.take i2).map cW).length = n := ⟨_, rfl⟩
            have lensB : lens ≤ 1000000 := by rw [← hlens, List.length_append, List.length_map, List.length_map, List.length_take]; omega
            rw [hlens] at RS2 ⊢
            obtain ⟨d0, d1, d2⟩ := C.out wr F2.out
            by_cases hil : i2 < ws.length
            · have hilI : (i2 : Int) < ws.length := by omega
              obtain ⟨b, off, ob, rfl, _, _, hcl⟩ := (HW.out.fr (K' := fun _ _ => True) F2.out fun _ _ _ _ => trivial).spot (by omega)
              obtain ⟨x, hx⟩ : ∃ x, ws[i2] = x := ⟨_, rfl⟩
              have hcs := RowsAt.w2 (K := fun _ _ => True) hcl i2 hil
              rw [hx] at hcs
              obtain ⟨k0, k1⟩ := hcs
              have EG : Hid (ws.getD i2 default = x) := Lib.hid ((getD_at hil).trans hx)
              have ET := Lib.hid (take_mapW ws i2 hil (hs.map cI))
              rw [hx] at ET
              have OKE : Hid (fW ⟨hs, ws⟩ i2 = decide (x.m = 1 ∨ x.m = 2)) := by
                show _ = _
                unfold fW
                dsimp only
                rw [EG.out]
              obtain ⟨SE, hSE⟩ : ∃ l, hs.map cI ++ (ws.take i2).map cW = l := ⟨_, rfl⟩
              rw [hSE] at RS2 ET hlens
              clear hcl hx hSE
              obtain ⟨W3, hW3⟩ : ∃ W, wr.alloc (.cells #[.int .i64 0, .int .i64 0] 114 (0, 0)) = W := ⟨_, rfl⟩
              have FA : Hid (Fr (fun _ _ => True) wr W3) := hW3 ▸ (Fr.refl _ _).alloc _
              have XA : Hid (W3.heap[wr.heap.size]? = some (.cells #[.int .i64 0, .int .i64 0] 114 (0, 0))) := hW3 ▸ heap_alloc_new wr _
              have q0 := cell_mk (i := 0) XA.out rfl
              have q1 := cell_mk (i := 1) XA.out rfl
              have z0 := frozen_mk (i := 0) XA.out
              have z1 := frozen_mk (i := 1) XA.out
              obtain ⟨v3, hWZ, TZ, FZ⟩ := set2 XA.out (.int .i64 (x.c : Nat)) (.int .i64 (x.m : Nat))
              have FV : Hid (Fr (fun _ _ => True) wr v3) := Lib.hid (Fr.within ((FA.out.mono fun _ _ _ => trivial).trans (FZ.mono fun c _ h e => by have := h.2; omega)))
              have F3 := Lib.hid (F2.out.trans FV.out)
              have R3 := Lib.hid (RS2.out.tt FV.out)
              have e0 := cell_mk (i := 0) TZ rfl
              have e1 := cell_mk (i := 1) TZ rfl
              clear FA XA TZ FZ RS2 F2
              by_cases m0 : x.m < 1
              · have m0I : (x.m : Int) < 1 := by omega
                have hb : ck = false := by
                  rw [← HCK.out]
                  exact fine_w hil (by rw [OKE.out, decide_eq_false (p := x.m = 1 ∨ x.m = 2) (by omega)])
                clear HCK
                subst hb
                go_wp2
                try rw [hWZ]
                go_ret
                exact ⟨rfl, F3.out⟩
              · have m0I : ¬ (x.m : Int) < 1 := by omega
                by_cases m2 : 2 < x.m
                · have m2I : (2 : Int) < x.m := by omega
                  have hb : ck = false := by
                    rw [← HCK.out]
                    exact fine_w hil (by rw [OKE.out, decide_eq_false (p := x.m = 1 ∨ x.m = 2) (by omega)])
                  clear HCK
                  subst hb
                  go_wp2
                  try rw [hWZ]
                  go_ret
                  exact ⟨rfl, F3.out⟩
                · have m2I : ¬ (2 : Int) < x.m := by omega
                  have hg : Hid (fW ⟨hs, ws⟩ i2 = true) := by show _ = _; rw [OKE.out, decide_eq_true (p := x.m = 1 ∨ x.m = 2) (by omega)]
                  clear OKE
                  go_wp2_with (at_builtin; refine wpList_append_int1 w v3 _ F3 rfl _ _ rfl _ _ rfl R3 rfl _ ET (lens + 1) (by show _ = _; rw [← hlens, ← ET.out]; simp) (by omega) ?_)
                  intro a1 c1 w5 O1 G3 G4 N1
                  clear hWZ hW3 q0 q1 z0 z1 e0 e1 d0 d1 d2
                  go_wp2
                  go_roundw
                  case rel =>
                    refine ⟨i2 + 1, hil, by go_num, by show RowI _ _ _ _; rw [List.map_take]; exact O1.out, G3.out, fun j hj => ?_⟩
                    by_cases e : j = i2
                    · rw [e]; exact hg.out
                    · exact G2.out j (by omega)
                  case measure => simp [intOf]; omega
            · have hie2 : i2 = ws.length := by omega
              have hge2 : (ws.length : Int) ≤ i2 := by omega
              rw [hie2, List.take_length] at RS2
              rw [hie2, List.take_length] at hlens
              have GW : Hid (∀ j, j < ws.length → fW ⟨hs, ws⟩ j = true) := fun j hj => G2.out j (by omega)
              have HWO : Hid (whoR ⟨hs, ws⟩ = hs.map cI ++ ws.map cW) := rfl
              obtain ⟨WHO, hWHO⟩ : ∃ l, hs.map cI ++ ws.map cW = l := ⟨_, rfl⟩
              rw [hWHO] at RS2 hlens HWO
              have WB : Hid (∀ x ∈ WHO, 0 ≤ x ∧ x < 256) := Lib.hid fun x hx => by
                rw [← hWHO] at hx
                rcases List.mem_append.1 hx with q | q
                · obtain ⟨y, hy, rfl⟩ := List.mem_map.1 q
                  have := HCB.out.1 y hy
                  unfold cI; omega
                · obtain ⟨y, hy, rfl⟩ := List.mem_map.1 q
                  have := HCB.out.2 y hy
                  unfold cW; omega
              clear hie2 G2 hWHO
              go_wp2_with fail
              clear d0 d1 d2
              go_loopw [10] (fun v10 wz => ∃ i : Nat, i ≤ lens ∧ v10 = .int .i64 i ∧ Hid (RowI wz w.heap.size (.slice sa lens sc) WHO) ∧ Hid (Fr (fun _ _ => True) w wz) ∧ Hid (∀ j, j < i → fC WHO j = true)) (fun v10 _ => lens - (intOf v10).toNat)
              case atStart => exact ⟨0, Nat.zero_le _, rfl, RS2.out, F2.out, fun j hj => absurd hj (Nat.not_lt_zero j)⟩
              case round =>
                obtain ⟨i3, hi3, rfl, RS3, F3, G3⟩ := hrel
                clear RS2 F2
                by_cases hil3 : i3 < lens
                · have hil3I : (i3 : Int) < lens := by omega
                  have hlw : i3 < WHO.length := by omega
                  obtain ⟨b, off, ha⟩ := RS3.out.ints.addr (by omega)
                  subst ha
                  obtain ⟨u, hu⟩ : ∃ u, WHO[i3] = u := ⟨_, rfl⟩
                  have EU : Hid (WHO.getD i3 default = u) := Lib.hid ((getD_at hlw).trans hu)
                  have HU := Lib.hid hu
                  clear hu
                  go_wp2_with fail
                  go_loopw [11] (fun v11 wz => ∃ k : Nat, k ≤ i3 ∧ v11 = .int .i64 k ∧ Hid (RowI wz w.heap.size (.slice (some ⟨b, off, none⟩) lens sc) WHO) ∧ Hid (Fr (fun _ _ => True) w wz) ∧ Hid (hasI (WHO.take k) u = false)) (fun v11 _ => i3 - (intOf v11).toNat)
                  case atStart => exact ⟨0, Nat.zero_le _, rfl, RS3.out, F3.out, hasI_take0 _ _⟩
                  case round =>
                    obtain ⟨k, hk, rfl, RS4, F4, G4⟩ := hrel
                    clear RS3 F3
                    have cu := RS4.out.ints.cell (i := i3) hlw
                    rw [HU.out] at cu
                    by_cases hkl : k < i3
                    · have hklI : (k : Int) < i3 := by omega
                      have hklI2 : (k : Int) < lens := by omega
                      have hkw : k < WHO.length := by omega
                      have cv := RS4.out.ints.cell (i := k) hkw
                      have HT := Lib.hid (take_contains WHO k hkw u)
                      obtain ⟨v, hv⟩ : ∃ v, WHO[k] = v := ⟨_, rfl⟩
                      rw [hv] at cv HT
                      clear hv hkw
                      by_cases huv : u = v
                      · have huvb : (u == v) = true := by simpa using huv
                        have hb : ck = false := by
                          rw [← HCK.out]
                          refine fine_c (j := i3) (by rw [HWO.out]; exact hlw) ?_
                          rw [HWO.out]
                          unfold fC
                          rw [EU.out]
                          have : hasI (WHO.take i3) u = true := by
                            have h1 : hasI (WHO.take (k + 1)) u = true := by rw [HT.out, huvb, Bool.or_true]
                            have h2 : (WHO.take i3).take (k + 1) = WHO.take (k + 1) := by rw [List.take_take, Nat.min_eq_left (by omega)]
                            rw [← h2] at h1
                            exact contains_take h1
                          rw [this]
                          rfl
                        clear HCK huv
                        subst hb
                        go_wp2_with fail
                        go_quiet (fail)
                        go_wp2
                        go_ret
                        exact ⟨rfl, F4.out.trans ((Fr.refl _ _).drewN _)⟩
                      · have huvb : (u == v) = false := by simpa using huv
                        have HTN : Hid (hasI (WHO.take (k + 1)) u = false) := by show _ = _; rw [HT.out, G4.out, huvb]; rfl
                        clear HT huv
                        go_wp2_with fail
                        go_quiet (fail)
                        have F5 := Lib.hid (F4.out.trans ((Fr.refl _ wr).drewN nq))
                        have R5 := Lib.hid (RS4.out.tt ((Fr.refl _ wr).drewN nq))
                        go_wp2
                        go_roundw
                        case rel => exact ⟨k + 1, hkl, by go_num, R5.out, F5.out, HTN.out⟩
                        case measure => simp [intOf]; omega
                    · have hki : k = i3 := by omega
                      have hkgI : (i3 : Int) ≤ k := by omega
                      rw [hki] at G4
                      clear hki
                      by_cases hu15 : (15 : Int) < u
                      · have hb : ck = false := by
                          rw [← HCK.out]
                          refine fine_c (j := i3) (by rw [HWO.out]; exact hlw) ?_
                          rw [HWO.out]
                          unfold fC
                          rw [EU.out, decide_eq_false (p := u ≤ 15) (by omega)]
                          simp
                        clear HCK
                        subst hb
                        go_wp2
                        go_ret
                        exact ⟨rfl, F4.out⟩
                      · have hg : Hid (fC WHO i3 = true) := by
                          show _ = _
                          unfold fC
                          rw [EU.out, G4.out, decide_eq_true (p := u ≤ 15) (by omega)]
                          rfl
                        go_wp2
                        go_roundw
                        case rel =>
                          refine ⟨i3 + 1, hil3, by go_num, RS4.out, F4.out, fun j hj => ?_⟩
                          by_cases e : j = i3
                          · rw [e]; exact hg.out
                          · exact G3.out j (by omega)
                        case measure => simp [intOf]; omega
                · have hge3 : (lens : Int) ≤ i3 := by omega
                  have hb : ck = true := by
                    rw [← HCK.out]
                    refine fine_yes HQ4.out HP4.out GH.out GW.out fun j hj => ?_
                    rw [HWO.out] at hj ⊢
                    exact G3.out j (by omega)
                  clear HCK
                  subst hb
                  go_wp2
                  go_ret
                  exact ⟨rfl, F3.out⟩
    · have hb : ck = false := by rw [← HCK.out]; exact fine_len fun q => p4 q.2
      subst hb
      have q4I : (hs.length : Int) ≤ 4 := by omega
      have p4I : (4 : Int) < ws.length := by omega
      clear q4 p4 HCK C
      go_enter Tryz.func87, Tryz.ntmps87
      go_wp2
      go_ret
      exact ⟨rfl, Fr.refl _ _⟩
  · have hb : ck = false := by rw [← HCK.out]; exact fine_len fun q => q4 q.1
    subst hb
    have q4I : (4 : Int) < hs.length := by omega
    clear q4 HCK C
    go_enter Tryz.func87, Tryz.ntmps87
    go_wp2
    go_ret
    exact ⟨rfl, Fr.refl _ _⟩
end Go.Proofs.YtlolfcnfcgegdaaGreat
