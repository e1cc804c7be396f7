/- Texts of the proofs, part 31: what the functions that they reach do, walked; no conditions beyond those that each states. -/
import Derived.Deep.QuietTactic
import Derived.BigQuiet
import Derived.Test.YtcpbmempfeloaaaDoorZz367753d9f9
set_option linter.unusedVariables false
set_option linter.unusedSimpArgs false
/- Keep: cut (printed by kcut.py). -/
namespace Go.Proofs.YtcpbmempfeloaaaDoor
open Go.RowKit
set_option linter.unusedVariables false
set_option linter.unusedSimpArgs false

theorem flat_take {α : Type} {enc : α → List Value} {k : Nat} (hk : ∀ x, (enc x).length = k) : ∀ (m : Nat) (xs : List α), (xs.flatMap enc).take (m * k) = (xs.take m).flatMap enc
  | 0, xs => by simp
  | m + 1, [] => by simp
  | m + 1, x :: xs => by
    rw [List.flatMap_cons, List.take_succ_cons, List.flatMap_cons, ← flat_take hk m xs, Nat.succ_mul, Nat.add_comm, List.take_append, hk, List.take_of_length_le (by rw [hk]; omega), Nat.add_sub_cancel_left]
theorem own_cap2 {w : World} {B : Nat} {e : TypeId} {s n c : Nat} {a : Option Addr} {xs : List Value} (h : w.ownsRow B e s (.slice a n c) n xs) : n ≤ c := by
  rcases h.2 with ⟨e, _⟩ | ⟨g, cap, cur, e, _, _, hn, _⟩
  · cases e; exact Nat.le_refl _
  · cases e; exact hn
theorem size_rc : (sizeOf 141).run Tryd.prog = fun w => .ok 4 w := by
  obtain ⟨i0, hi0, _, hz1, _⟩ := info_parts info_rc
  funext w
  simp [sizeOf, typeInfo, hi0, hz1]
set_option maxRecDepth 100000 in
set_option maxHeartbeats 4000000 in
theorem cut_calls {n : Nat} {X P : Nat → Prop} {w : World} {bk bj bd : Nat} {ring : Int} {K : Ke} {J : Jn} {D : Dk} {a4 : Option Addr} {c4 : Nat} {hv : Value} {rs : List RV} (h : KM n X P w bk bj bd ring K J D a4 c4 hv rs) (h0 : 0 < n) (hn : n ≤ w.heap.size)
    (s : Sta) (av : Option Addr) (nv cv : Nat) (xs : List EV) (hs : SA n X w s (.slice av nv cv) xs) (ht : TabOK w) (hq : D.pend.length < 900000) (hl : rs.length ≤ 1000000) (hb1 : s.base + s.es.length < 18446744073709551616) (hb2 : s.base + rs.length + 1 < 18446744073709551616) :
    Calls Tryd.prog 78 #[.pointer (some ⟨bk, 0, none⟩), vL s.base s.bt (.slice av nv cv)] w fun e w' => e = .returned (.int .i64 (cutK K J D s).1) ∧ ∃ X' P' hv' rs', KM n X' P' w' bk bj bd ring (cutK K J D s).2.1 (cutK K J D s).2.2.1 (cutK K J D s).2.2.2 a4 c4 hv' rs' ∧ Kp X X' w w' := by
  obtain ⟨W1, hW1⟩ : ∃ W, w.alloc (.cells #[.int .u64 (s.base : Nat), .int .u64 (s.bt : Nat), .slice av nv cv] 66 (0, 0)) = W := ⟨_, rfl⟩
  have F1 : Hid (Fr (fun _ _ => True) w W1) := hW1 ▸ (Fr.refl _ _).alloc _
  have X1 : Hid (W1.heap[w.heap.size]? = some (.cells #[.int .u64 (s.base : Nat), .int .u64 (s.bt : Nat), .slice av nv cv] 66 (0, 0))) := hW1 ▸ heap_alloc_new w _
  have M1 := Lib.hid (h.tt F1.out)
  have MW : Hid (∀ W, Fr (fun _ _ => True) W1 W → KM n X P W bk bj bd ring K J D a4 c4 hv rs) := fun W f => M1.out.tt f
  have HT := Lib.hid ht
  have HN := Lib.hid hn
  have HZ : Hid (¬ X 0) := h.z h0
  have TK : Hid (cutK K J D s = if K.held.length - cutN s K.held 0 = 0 then (0, K, J, D) else ((jcut J D (K.held.length - cutN s K.held 0 : Nat)).1, { K with held := K.held.take (cutN s K.held 0) }, (jcut J D (K.held.length - cutN s K.held 0 : Nat)).2)) := rfl
  have HLL := Lib.hid hl
  have HKL : Hid (K.held.length = rs.length) := by show _ = _; rw [← h.rc, List.length_map]
  have MM : Hid (∀ m, (rs.take m).map RV.rc = K.held.take m) := fun m => by rw [List.map_take, h.rc]
  have CS : Hid (∀ i (hi : i < rs.length), cutN s (K.held.drop i) i = if rs[i].at_ = s.base + 1 + i ∧ sameR rs[i].rc s = true then cutN s (K.held.drop (i + 1)) (i + 1) else i) := fun i hi => by
    have hi' : i < K.held.length := by rw [HKL.out]; exact hi
    rw [List.drop_eq_getElem_cons hi']
    have e : K.held[i] = rs[i].rc := by simp [← h.rc]
    rw [e]
    rfl
  have CZ : Hid (∀ i, rs.length ≤ i → cutN s (K.held.drop i) i = i) := fun i hi => by rw [List.drop_of_length_le (by rw [HKL.out]; exact hi)]; rfl
  have SC : Hid (∀ i (hi : i < rs.length) W, Fr (fun _ _ => True) W1 W → Calls Tryd.prog 115 #[vRec rs[i], vL s.base s.bt (.slice av nv cv)] W fun e w' => e = .returned (.bool (sameR rs[i].rc s)) ∧ Fr (fun _ _ => True) W w') := fun i hi W f => by
    have F := F1.out.trans f
    have hsW := hs.tt F
    exact ksame_calls W s _ xs rs[i] hsW.rows hsW.es hsW.dat ((M1.out.tt f).dat _ (List.getElem_mem hi)) hb1
  have RC : Hid (∀ i (hi : i < rs.length), ∃ b off c, hv = .slice (some ⟨b, off, none⟩) rs.length c ∧ rs.length ≤ c ∧ ∀ W, Fr (fun _ _ => True) W1 W → W.cell? ⟨b, off + i * 4, none⟩ = some (.int .u64 (rs[i].at_ : Nat)) ∧ W.cell? ⟨b, off + i * 4 + 1, none⟩ = some (.int .u64 (rs[i].x.t : Nat)) ∧ W.cell? ⟨b, off + i * 4 + 2, none⟩ = some (.int .i64 rs[i].x.k) ∧ W.cell? ⟨b, off + i * 4 + 3, none⟩ = some (.slice rs[i].x.a rs[i].x.d.length rs[i].x.c)) := fun i hi => by
    have hr := M1.out.rowAt
    obtain ⟨a, c, rfl, hc⟩ := hr.form
    obtain ⟨b, off, o, rfl, _, _, hcl⟩ := hr.spot (by omega)
    obtain ⟨k0, k1, k2, k3⟩ := RowsAt.r4 (K := fun _ _ => True) hcl i hi
    exact ⟨b, off, c, rfl, hc, fun W f => ⟨f.cell (fun _ _ => trivial) k0, f.cell (fun _ _ => trivial) k1, f.cell (fun _ _ => trivial) k2, f.cell (fun _ _ => trivial) k3⟩⟩
  have LC : Hid (∀ W, Fr (fun _ _ => True) W1 W → W.cell? ⟨w.heap.size, 0, none⟩ = some (.int .u64 (s.base : Nat)) ∧ W.cell? ⟨w.heap.size, 1, none⟩ = some (.int .u64 (s.bt : Nat)) ∧ W.cell? ⟨w.heap.size, 2, none⟩ = some (.slice av nv cv)) := fun W f => by
    have t := f.keep _ _ X1.out trivial
    exact ⟨cell_mk t rfl, cell_mk t rfl, cell_mk t rfl⟩
  generalize cutK K J D s = R at TK ⊢
  obtain ⟨nr, hnr⟩ : ∃ k, rs.length = k := ⟨_, rfl⟩
  obtain ⟨p, hp⟩ : ∃ p, cutN s K.held 0 = p := ⟨_, rfl⟩
  rw [HKL.out, hnr, hp] at TK
  have HP : Hid (cutN s (K.held.drop 0) 0 = p) := hp
  obtain ⟨b, hbb⟩ : ∃ b, s.base = b := ⟨_, rfl⟩
  obtain ⟨bt, hbt⟩ : ∃ b, s.bt = b := ⟨_, rfl⟩
  obtain ⟨aw, cw, hvw⟩ := own_form h.own
  rw [hnr] at hvw
  have HV := Lib.hid hvw
  have HNR := Lib.hid hnr
  rw [hbb] at hb2 CS
  rw [hbb, hbt] at LC SC hW1 X1 ⊢
  rw [hnr] at CZ
  have HB2 : Hid (b + nr + 1 < 18446744073709551616) := by show _ < _; rw [← hnr]; exact hb2
  have y6 : ∀ W, Fr (fun _ _ => True) W1 W → W.cell? ⟨bk, 6, none⟩ = some (.slice aw nr cw) := fun W f => by rw [← HV.out]; exact (M1.out.tt f).cells.2.2.2.2.2.2.1
  have Y6 := Lib.hid y6
  have CT : Hid (∀ W i, i ≤ nr → 0 < nr - i → Fr (fun _ _ => True) W1 W → W.frozen? ⟨bk, 6, none⟩ = false ∧ ∃ X', KM n X' P (W.setCell ⟨bk, 6, none⟩ (.slice aw i cw)) bk bj bd ring { K with held := K.held.take i } J D a4 c4 (.slice aw i cw) (rs.take i) ∧ Kp X X' w (W.setCell ⟨bk, 6, none⟩ (.slice aw i cw))) := fun W i hi hm f => by
    have M2 := M1.out.tt f
    have o2 := M2.own
    rw [HNR.out, HV.out] at o2
    obtain ⟨g, cur, hg, _⟩ := own_slot o2 (by omega)
    subst hg
    have o3 := own_take o2 i hi
    rw [flat_take encR_len] at o3
    have hl3 : (rs.take i).length = i := by rw [List.length_take, HNR.out]; omega
    obtain ⟨X', q1, q2⟩ := M2.setH (hv' := .slice (some ⟨g, 0, none⟩) i cw) (Fr.refl _ _) (by rw [hl3]; exact o3) (fun c e => .inl (by rw [HV.out]; exact e)) (fun r hr => M2.dat r (List.mem_of_mem_take hr)) (Nat.le_trans HN.out (F1.out.trans f).size) (MM.out i)
    exact ⟨M2.cells.2.2.2.2.2.2.2 6, X', q1, (Kp.rfl' X (F1.out.trans f)).trans q2⟩
  have JT : Hid (∀ X' W i, KM n X' P W bk bj bd ring { K with held := K.held.take i } J D a4 c4 (.slice aw i cw) (rs.take i) → Kp X X' w W → W.cell? ⟨bk, 1, none⟩ = some (.pointer (some ⟨bj, 0, none⟩)) ∧ ∀ m : Nat, Calls Tryd.prog 21 #[.pointer (some ⟨bj, 0, none⟩), .int .i64 (m : Nat)] W fun e w' => e = .returned (.int .i64 (jcut J D (m : Nat)).1) ∧ ∃ X' P', KM n X' P' w' bk bj bd ring { K with held := K.held.take i } (jcut J D (m : Nat)).2.1 (jcut J D (m : Nat)).2.2 a4 c4 (.slice aw i cw) (rs.take i) ∧ Kp X X' w w') := fun X' W i k1 k2 => by
    have hsz := Nat.le_trans HN.out k2.fr.size
    refine ⟨k1.cells.2.1, fun m => (st_cut k1.st h0 hsz (m : Nat) (HT.out.kp k2 HZ.out) hq).mono fun e w' ⟨he, P', st', kp'⟩ => ?_⟩
    obtain ⟨X'', q1, q2⟩ := k1.jd hsz st' kp'
    exact ⟨he, X'', P', q1, k2.trans q2⟩
  have SL : Hid (∀ i W, i ≤ nr → (Instr.slice 133 (.slice aw nr cw) none (some (.int .i64 (i : Nat))) none).run Tryd.prog W = .ok (.slice aw i cw) W) := fun i W hi => run_sliceS 4 Tryd.underlying133 size_rc W aw nr cw i .i64 (by have := M1.out.own; rw [HNR.out, HV.out] at this; have := (own_cap2 this); omega)
  have hnr6 : nr ≤ 1000000 := by rw [← hnr]; exact hl
  unfold vL at SC ⊢
  clear h ht hn hl hb1 hb2 hnr hp hbb hbt hvw hs M1 y6 HKL
  go_enter Tryd.func78, Tryd.ntmps78
  go_wp2
  try rw [hW1]
  clear hW1
  go_loopw [5] (fun v5 wr => ∃ i : Nat, v5 = .int .i64 i ∧ i ≤ nr ∧ Hid (cutN s (K.held.drop i) i = p) ∧ Hid (Fr (fun _ _ => True) W1 wr)) (fun v5 _ => nr - (intOf v5).toNat)
  case atStart => exact ⟨0, rfl, Nat.zero_le _, HP, Fr.refl _ _⟩
  case round =>
    obtain ⟨i, rfl, hi, HC, HF⟩ := hrel
    have U0 : Hid (Fr (fun _ _ => True) wr wr.drew) := (Fr.refl _ _).drew
    have DONE : Hid (i = p → True) := fun _ => trivial
    by_cases hlt : i < nr
    · have hltI : decide ((i : Int) < nr) = true := by simp; omega
      have hi' : i < rs.length := by rw [HNR.out]; exact hlt
      obtain ⟨bh, off, ch, hve, hch, hcl⟩ := RC.out i hi'
      have hce : aw = some ⟨bh, off, none⟩ ∧ cw = ch := by have := HV.out.symm.trans hve; cases this; exact ⟨rfl, rfl⟩
      obtain ⟨rfl, rfl⟩ := hce
      have CSi := CS.out i hi'
      have SCi := SC.out i hi'
      generalize sameR rs[i].rc s = sm at CSi SCi
      obtain ⟨r, hr⟩ : ∃ r, rs[i] = r := ⟨_, rfl⟩
      rw [hr] at hcl CSi SCi
      rw [HC.out] at CSi
      have SCI := Lib.hid SCi
      have CSI := Lib.hid CSi
      have HCL := Lib.hid hcl
      obtain ⟨rat, rt, rk, ra, rc, rd⟩ := r
      dsimp only [vRec] at SCI HCL CSI
      generalize rd.length = rdl at SCI HCL
      obtain ⟨b1, hb1⟩ : ∃ z, b + 1 = z := ⟨_, rfl⟩
      obtain ⟨z, hz⟩ : ∃ z, b1 + i = z := ⟨_, rfl⟩
      have q1 : IntKind.u64.wrap ((b : Int) + 1) = (b1 : Int) := by have := HB2.out; rw [IntKind.wrap_u64, ← hb1]; omega
      have q2 : IntKind.u64.wrap (i : Int) = (i : Int) := by have := HB2.out; rw [IntKind.wrap_u64]; omega
      have q3 : IntKind.u64.wrap ((b1 : Int) + (i : Int)) = (z : Int) := by have := HB2.out; rw [IntKind.wrap_u64, ← hz]; omega
      rw [hb1, hz] at CSI
      have CE : Hid (∀ W, Fr (fun _ _ => True) wr W → W.cell? ⟨bk, 6, none⟩ = some (.slice (some ⟨bh, off, none⟩) nr cw) ∧ W.cell? ⟨w.heap.size, 0, none⟩ = some (.int .u64 (b : Nat)) ∧ W.cell? ⟨w.heap.size, 1, none⟩ = some (.int .u64 (bt : Nat)) ∧ W.cell? ⟨w.heap.size, 2, none⟩ = some (.slice av nv cv) ∧ W.cell? ⟨bh, off + i * 4, none⟩ = some (.int .u64 (rat : Nat)) ∧ W.cell? ⟨bh, off + i * 4 + 1, none⟩ = some (.int .u64 (rt : Nat)) ∧ W.cell? ⟨bh, off + i * 4 + 2, none⟩ = some (.int .i64 rk) ∧ W.cell? ⟨bh, off + i * 4 + 3, none⟩ = some (.slice ra rdl rc)) := fun W f => by
        have f' := HF.out.trans f
        exact ⟨Y6.out W f', (LC.out W f').1, (LC.out W f').2.1, (LC.out W f').2.2, (HCL.out W f').1, (HCL.out W f').2.1, (HCL.out W f').2.2.1, (HCL.out W f').2.2.2⟩
      have SI : Hid (∀ W, Fr (fun _ _ => True) wr W → Calls Tryd.prog 115 #[.agg #[.int .u64 (rat : Nat), .int .u64 (rt : Nat), .int .i64 rk, .slice ra rdl rc], .agg #[.int .u64 (b : Nat), .int .u64 (bt : Nat), .slice av nv cv]] W fun e w' => e = .returned (.bool sm) ∧ Fr (fun _ _ => True) W w') := fun W f => SCI.out W (HF.out.trans f)
      clear hve hch hcl CSi SCi hr SCI HCL hb1 hz RC
      by_cases hat : rat = z
      · subst hat
        have hatb : ((rat : Int) == (rat : Int)) = true := by simp
        cases sm with
        | true =>
          have NX := Lib.hid (CSI.out.trans (if_pos ⟨rfl, rfl⟩))
          clear CSI
          go_upto_region 2 with fail
          go_region_held3 (fun W => W.cell? ⟨bk, 6, none⟩ = some (.slice (some ⟨bh, off, none⟩) nr cw) ∧ W.cell? ⟨w.heap.size, 0, none⟩ = some (.int .u64 (b : Nat)) ∧ W.cell? ⟨w.heap.size, 1, none⟩ = some (.int .u64 (bt : Nat)) ∧ W.cell? ⟨w.heap.size, 2, none⟩ = some (.slice av nv cv) ∧ W.cell? ⟨bh, off + i * 4, none⟩ = some (.int .u64 (rat : Nat)) ∧ W.cell? ⟨bh, off + i * 4 + 1, none⟩ = some (.int .u64 (rt : Nat)) ∧ W.cell? ⟨bh, off + i * 4 + 2, none⟩ = some (.int .i64 rk) ∧ W.cell? ⟨bh, off + i * 4 + 3, none⟩ = some (.slice ra rdl rc))
            (first | exact CE.out _ F8.out | exact CE.out _ U0.out)
            (first | (go_at_call 115; go_must ((with_reducible refine (SI.out _ U0.out).mono ?_); rintro e w8 ⟨rfl, f8⟩; have F8 := Lib.hid (U0.out.trans f8); clear f8)))
          all_goals
            go_wp2
            go_roundw
            case rel => exact ⟨i + 1, by go_num, by omega, NX.out.symm, HF.out.trans F8.out⟩
            case measure => simp [intOf]; omega
        | false =>
          have NX : Hid (p = i) := Lib.hid (CSI.out.trans (if_neg (by simp)))
          clear CSI
          go_upto_region 2 with fail
          go_region_held3 (fun W => W.cell? ⟨bk, 6, none⟩ = some (.slice (some ⟨bh, off, none⟩) nr cw) ∧ W.cell? ⟨w.heap.size, 0, none⟩ = some (.int .u64 (b : Nat)) ∧ W.cell? ⟨w.heap.size, 1, none⟩ = some (.int .u64 (bt : Nat)) ∧ W.cell? ⟨w.heap.size, 2, none⟩ = some (.slice av nv cv) ∧ W.cell? ⟨bh, off + i * 4, none⟩ = some (.int .u64 (rat : Nat)) ∧ W.cell? ⟨bh, off + i * 4 + 1, none⟩ = some (.int .u64 (rt : Nat)) ∧ W.cell? ⟨bh, off + i * 4 + 2, none⟩ = some (.int .i64 rk) ∧ W.cell? ⟨bh, off + i * 4 + 3, none⟩ = some (.slice ra rdl rc))
            (first | exact CE.out _ F8.out | exact CE.out _ U0.out)
            (first | (go_at_call 115; go_must ((with_reducible refine (SI.out _ U0.out).mono ?_); rintro e w8 ⟨rfl, f8⟩; have F8 := Lib.hid (U0.out.trans f8); clear f8)))
          all_goals
            have FE := Lib.hid (HF.out.trans F8.out)
            have NP := NX.out
            clear NX HC CZ CS SC LC
            obtain ⟨we, hwe⟩ : ∃ W, w8 = W := ⟨_, rfl⟩
            rw [hwe] at FE ⊢
            obtain ⟨m, hm⟩ : ∃ m, nr - i = m := ⟨_, rfl⟩
            rw [NP, hm] at TK
            have TKm := Lib.hid TK
            have hwm : IntKind.i64.wrap ((nr : Int) - (i : Int)) = (m : Int) := by rw [IntKind.wrap_i64, ← hm]; omega
            have y6 := Y6.out we FE.out
            by_cases hm0 : m = 0
            · have RE : Hid (R = (0, K, J, D)) := Lib.hid (TK.out.trans (if_pos hm0))
              have hmb : ((m : Int) == 0) = true := by simp; omega
              clear TK TKm hwe hm
              go_wp2
              go_ret
              rw [RE.out]
              first
                | exact ⟨rfl, X, P, _, _, MW.out we FE.out, Kp.rfl' X (F1.out.trans FE.out)⟩
                | exact ⟨rfl, X, ⟨P, _, _, MW.out we FE.out⟩, Kp.rfl' X (F1.out.trans FE.out)⟩
            · have RE : Hid (R = ((jcut J D (m : Nat)).1, { K with held := K.held.take i }, (jcut J D (m : Nat)).2)) := Lib.hid (TK.out.trans (if_neg hm0))
              have hmb : ((m : Int) == 0) = false := by simp; omega
              obtain ⟨fz6, X', q1, q2⟩ := CT.out we i hi (by omega) FE.out
              have sl := SL.out i we hi
              obtain ⟨j1, j2⟩ := JT.out X' _ i q1 q2
              have J2 := Lib.hid (j2 m)
              clear q1 q2 j2 JT TK TKm hwe hm CT
              generalize hW4 : we.setCell ⟨bk, 6, none⟩ (.slice (some ⟨bh, off, none⟩) i cw) = W4 at *
              go_wp2_with fail
              try rw [hW4]
              (with_reducible refine J2.out.mono ?_)
              rintro e w5 ⟨rfl, X5, P5, q1, q2⟩
              have Q1 := Lib.hid q1
              have Q2 := Lib.hid q2
              clear q1 q2 J2
              go_wp2
              go_ret
              rw [RE.out]
              exact ⟨rfl, X5, P5, _, _, Q1.out, Q2.out⟩
      · have hatb : ((rat : Int) == (z : Int)) = false := by simp; omega
        have NX : Hid (p = i) := Lib.hid (CSI.out.trans (if_neg fun q => hat q.1))
        clear CSI
        go_upto_region 2 with fail
        obtain ⟨e1, e2, e3, e4, e5, e6, e7, e8⟩ := CE.out wr (Fr.refl _ _)
        go_quiet (fail)
        have FE : Hid (Fr (fun _ _ => True) W1 (wr.drewN nq)) := HF.out.drewN _
        have NP := NX.out
        clear NX HC CZ CS SC LC
        obtain ⟨we, hwe⟩ : ∃ W, wr.drewN nq = W := ⟨_, rfl⟩
        rw [hwe] at FE ⊢
        obtain ⟨m, hm⟩ : ∃ m, nr - i = m := ⟨_, rfl⟩
        rw [NP, hm] at TK
        have TKm := Lib.hid TK
        have hwm : IntKind.i64.wrap ((nr : Int) - (i : Int)) = (m : Int) := by rw [IntKind.wrap_i64, ← hm]; omega
        have y6 := Y6.out we FE.out
        by_cases hm0 : m = 0
        · have RE : Hid (R = (0, K, J, D)) := Lib.hid (TK.out.trans (if_pos hm0))
          have hmb : ((m : Int) == 0) = true := by simp; omega
          clear TK TKm hwe hm
          go_wp2
          go_ret
          rw [RE.out]
          first
            | exact ⟨rfl, X, P, _, _, MW.out we FE.out, Kp.rfl' X (F1.out.trans FE.out)⟩
            | exact ⟨rfl, X, ⟨P, _, _, MW.out we FE.out⟩, Kp.rfl' X (F1.out.trans FE.out)⟩
        · have RE : Hid (R = ((jcut J D (m : Nat)).1, { K with held := K.held.take i }, (jcut J D (m : Nat)).2)) := Lib.hid (TK.out.trans (if_neg hm0))
          have hmb : ((m : Int) == 0) = false := by simp; omega
          obtain ⟨fz6, X', q1, q2⟩ := CT.out we i hi (by omega) FE.out
          have sl := SL.out i we hi
          obtain ⟨j1, j2⟩ := JT.out X' _ i q1 q2
          have J2 := Lib.hid (j2 m)
          clear q1 q2 j2 JT TK TKm hwe hm CT
          generalize hW4 : we.setCell ⟨bk, 6, none⟩ (.slice (some ⟨bh, off, none⟩) i cw) = W4 at *
          go_wp2_with fail
          try rw [hW4]
          (with_reducible refine J2.out.mono ?_)
          rintro e w5 ⟨rfl, X5, P5, q1, q2⟩
          have Q1 := Lib.hid q1
          have Q2 := Lib.hid q2
          clear q1 q2 J2
          go_wp2
          go_ret
          rw [RE.out]
          exact ⟨rfl, X5, P5, _, _, Q1.out, Q2.out⟩
    · have hltI : decide ((i : Int) < nr) = false := by simp; omega
      have NX : Hid (p = i) := Lib.hid (HC.out.symm.trans (CZ.out i (by omega)))
      have Y6' := Y6.out wr HF.out
      go_upto_region 2 with fail
      go_quiet (fail)
      have FE : Hid (Fr (fun _ _ => True) W1 (wr.drewN nq)) := HF.out.drewN _
      have NP := NX.out
      clear NX HC CZ CS SC LC
      obtain ⟨we, hwe⟩ : ∃ W, wr.drewN nq = W := ⟨_, rfl⟩
      rw [hwe] at FE ⊢
      obtain ⟨m, hm⟩ : ∃ m, nr - i = m := ⟨_, rfl⟩
      rw [NP, hm] at TK
      have TKm := Lib.hid TK
      have hwm : IntKind.i64.wrap ((nr : Int) - (i : Int)) = (m : Int) := by rw [IntKind.wrap_i64, ← hm]; omega
      have y6 := Y6.out we FE.out
      by_cases hm0 : m = 0
      · have RE : Hid (R = (0, K, J, D)) := Lib.hid (TK.out.trans (if_pos hm0))
        have hmb : ((m : Int) == 0) = true := by simp; omega
        clear TK TKm hwe hm
        go_wp2
        go_ret
        rw [RE.out]
        first
          | exact ⟨rfl, X, P, _, _, MW.out we FE.out, Kp.rfl' X (F1.out.trans FE.out)⟩
          | exact ⟨rfl, X, ⟨P, _, _, MW.out we FE.out⟩, Kp.rfl' X (F1.out.trans FE.out)⟩
      · have RE : Hid (R = ((jcut J D (m : Nat)).1, { K with held := K.held.take i }, (jcut J D (m : Nat)).2)) := Lib.hid (TK.out.trans (if_neg hm0))
        have hmb : ((m : Int) == 0) = false := by simp; omega
        obtain ⟨fz6, X', q1, q2⟩ := CT.out we i hi (by omega) FE.out
        have sl := SL.out i we hi
        obtain ⟨j1, j2⟩ := JT.out X' _ i q1 q2
        have J2 := Lib.hid (j2 m)
        clear q1 q2 j2 JT TK TKm hwe hm CT
        generalize hW4 : we.setCell ⟨bk, 6, none⟩ (.slice aw i cw) = W4 at *
        go_wp2_with fail
        try rw [hW4]
        (with_reducible refine J2.out.mono ?_)
        rintro e w5 ⟨rfl, X5, P5, q1, q2⟩
        have Q1 := Lib.hid q1
        have Q2 := Lib.hid q2
        clear q1 q2 J2
        go_wp2
        go_ret
        rw [RE.out]
        exact ⟨rfl, X5, P5, _, _, Q1.out, Q2.out⟩
end Go.Proofs.YtcpbmempfeloaaaDoor
/- Keep: add (printed by kadd.py). -/
namespace Go.Proofs.YtcpbmempfeloaaaDoor
open Go.RowKit
set_option linter.unusedVariables false
set_option linter.unusedSimpArgs false

theorem size_en : (sizeOf 128).run Tryd.prog = fun w => .ok 3 w := by
  obtain ⟨i0, hi0, _, hz1, _⟩ := info_parts info_en
  funext w
  simp [sizeOf, typeInfo, hi0, hz1]
theorem pend_append (J : Jn) (D : Dk) (b : List UInt8) : (jappend J D b).2.2.pend.length ≤ D.pend.length + 1 := by
  unfold jappend
  split
  · dsimp only; omega
  · split
    · dsimp only; omega
    · exact pend_write D _ _
set_option maxRecDepth 100000 in
/-- An append of a record to a row of one's own, at a step of a region that draws its order. -/
theorem step_append_rc {K1 : Nat → Obj → Prop} {ops : Array Oper} {o : Oper} {a : Act} {K : Act → World → Prop} {Q : Exit → Act → World → Prop} {E : Prop} (W : World) (hgd : o.guard = none) (s x : Operand)
    (ho : o.op = .call { callee := .builtin .append, args := #[s, x], argTypes := #[133, 133] }) (v : Value) (n B : Nat) (rs : List RV) (hs : a.eval s = v) (hr : Hid (W.ownsRow B 141 4 v n (rs.flatMap encR))) (hn : Hid (B ≤ W.heap.size))
    (vx : Value) (y : RV) (hx : a.eval x = vx) (hvx : Hid (RowsAt K1 W vx 4 encR [y])) (hm : n + 1 ≤ 1000000)
    (h : ∀ g c w', Hid (w'.ownsRow B 141 4 (.slice g (n + 1) c) (n + 1) ((rs ++ [y]).flatMap encR)) → Hid (W.grownBy w' v.ownBlock) → Hid (OwnNext W v (.slice g (n + 1) c)) → K (a.put o.dst (.slice g (n + 1) c)) w') :
    if Region.wanted o (yielded ops a.tmps) = true then Oper.wp Tryd.prog o a W K Q else E := by
  have hw : Region.wanted o (yielded ops a.tmps) = true := by simp [Region.wanted, hgd]
  rw [if_pos hw]
  obtain ⟨i0, hi, hz0, hz1, hz2⟩ := info_parts info_rc
  exact wp_append_rows W s x 133 141 ho B hn.out i0 _ 4 48 Tryd.underlying133 hi hz0 hz1 hz2 rfl (by decide) (by decide) encR_len encR_one v n rs hs hr.out vx [y] hx hvx.out _ rfl (n + 1) rfl hm h
section
variable {n : Nat} {X P : Nat → Prop} {w : World} {bk bj bd : Nat} {ring : Int} {K : Ke} {J : Jn} {D : Dk} {a4 : Option Addr} {c4 : Nat} {hv : Value} {rs : List RV}
/-- Behind an append of a record. -/
theorem KM.app (h : KM n X P w bk bj bd ring K J D a4 c4 hv rs) {w1 : World} {g : Option Addr} {c m : Nat} {y : RV} (hl : rs.length = m) (ho : w1.ownsRow n 141 4 (.slice g (m + 1) c) (m + 1) ((rs ++ [y]).flatMap encR)) (hg : w.grownBy w1 hv.ownBlock) (hx : OwnNext w hv (.slice g (m + 1) c))
    (hy : BytesAt (Yk X n 5) w (.slice y.x.a y.x.d.length y.x.c) y.x.d) (hn : n ≤ w.heap.size) : ∃ X', KM n X' P (w1.setCell ⟨bk, 6, none⟩ (.slice g (m + 1) c)) bk bj bd ring { K with held := K.held ++ [y.rc] } J D a4 c4 (.slice g (m + 1) c) (rs ++ [y]) ∧ Kp X X' w (w1.setCell ⟨bk, 6, none⟩ (.slice g (m + 1) c)) := by
  have hf : Fr (fun c _ => hv.ownBlock ≠ some c) w w1 := (Fr.refl _ w).grown hg fun k o e _ hk => hk e
  refine h.setH hf (by rw [List.length_append, List.length_singleton, hl]; exact ho) (fun k e => ?_) (fun r hr => ?_) hn (by rw [List.map_append, h.rc]; rfl)
  · rcases hx with hx | ⟨k', hk, hkl⟩
    · exact .inl (hx ▸ e)
    · rw [hk] at e; cases e; exact .inr hkl
  · have hq : ∀ c (o : Obj), w.heap[c]? = some o → Yk X n 5 c o → hv.ownBlock ≠ some c := fun c o _ hc e => hc.1 (h.ox c e).1
    rcases List.mem_append.1 hr with hr | hr
    · exact (h.dat r hr).fr2 hf hq
    · rw [List.mem_singleton.1 hr]; exact hy.fr2 hf hq
end
set_option maxRecDepth 100000 in
set_option maxHeartbeats 8000000 in
theorem add_calls {n : Nat} {X P : Nat → Prop} {w : World} {bk bj bd : Nat} {ring : Int} {K : Ke} {J : Jn} {D : Dk} {a4 : Option Addr} {c4 : Nat} {hv : Value} {rs : List RV} (h : KM n X P w bk bj bd ring K J D a4 c4 hv rs) (h0 : 0 < n) (hn : n ≤ w.heap.size)
    (s : Sta) (av : Option Addr) (nv cv : Nat) (xs : List EV) (hs : SA n X w s (.slice av nv cv) xs) (ht : TabOK w) (hq : D.pend.length < 900000) (hl : xs.length ≤ 1000) (hlm : rs.length ≤ xs.length) (hb1 : s.base + s.es.length + 1 < 18446744073709551616) (hwf : ∀ x ∈ s.es, x.t < 18446744073709551616) (hbad : ∀ x ∈ s.es, badE x = false) :
    Calls Tryd.prog 80 #[.pointer (some ⟨bk, 0, none⟩), vL s.base s.bt (.slice av nv cv)] w fun e w' => e = .returned (.int .i64 (addK K J D s).1) ∧ ∃ X' P' hv' rs', KM n X' P' w' bk bj bd ring (addK K J D s).2.1 (addK K J D s).2.2.1 (addK K J D s).2.2.2 a4 c4 hv' rs' ∧ Kp X X' w w' := by
  obtain ⟨W1, hW1⟩ : ∃ W, w.alloc (.cells #[.int .u64 (s.base : Nat), .int .u64 (s.bt : Nat), .slice av nv cv] 66 (0, 0)) = W := ⟨_, rfl⟩
  have F1 : Hid (Fr (fun _ _ => True) w W1) := hW1 ▸ (Fr.refl _ _).alloc _
  have X1 : Hid (W1.heap[w.heap.size]? = some (.cells #[.int .u64 (s.base : Nat), .int .u64 (s.bt : Nat), .slice av nv cv] 66 (0, 0))) := hW1 ▸ heap_alloc_new w _
  have M1 := Lib.hid (h.tt F1.out)
  have S1 := Lib.hid (hs.tt F1.out)
  have NB1 : Hid (¬ X w.heap.size) := fun k => by have := h.hi _ k; omega
  have HZ : Hid (¬ X 0) := h.z h0
  have HT : Hid (TabOK W1) := ht.kp (Kp.rfl' X F1.out) (h.z h0)
  have HN : Hid (n ≤ W1.heap.size) := Nat.le_trans hn F1.out.size
  have hxl : nv = xs.length := by obtain ⟨a, c, e, _⟩ := hs.rows.form; cases e; rfl
  subst hxl
  have hcv : xs.length ≤ cv := by obtain ⟨a, c, e, hc⟩ := hs.rows.form; cases e; exact hc
  have HES := Lib.hid hs.es
  have HKL : K.held.length = rs.length := by rw [← h.rc, List.length_map]
  have TK : Hid (addK K J D s = if (addL s.base (s.es.drop K.held.length) K J D).1 ≠ 0 then addL s.base (s.es.drop K.held.length) K J D else if s.es.drop K.held.length = [] then (0, K, J, D) else (0, (addL s.base (s.es.drop K.held.length) K J D).2.1, (addL s.base (s.es.drop K.held.length) K J D).2.2.1, (addL s.base (s.es.drop K.held.length) K J D).2.2.2.sync)) := rfl
  rw [HKL] at TK
  obtain ⟨m, hm⟩ : ∃ m, rs.length = m := ⟨_, rfl⟩
  obtain ⟨nn, hnn⟩ : ∃ m, xs.length = m := ⟨_, rfl⟩
  have hel : s.es.length = nn := by rw [hs.es, List.length_map, hnn]
  rw [hm] at TK
  obtain ⟨T, hT⟩ : ∃ T, addL s.base (s.es.drop m) K J D = T := ⟨_, rfl⟩
  rw [hT] at TK
  have HT0 := Lib.hid hT
  have HWF := Lib.hid hwf
  have HBAD := Lib.hid hbad
  generalize addK K J D s = R at TK ⊢
  obtain ⟨b, hbb⟩ : ∃ b, s.base = b := ⟨_, rfl⟩
  obtain ⟨bt, hbt⟩ : ∃ b, s.bt = b := ⟨_, rfl⟩
  rw [hm, hnn] at hlm
  rw [hnn] at hl hcv hW1 X1 S1 ⊢
  rw [hbb] at hW1 X1 hb1 HT0 ⊢
  rw [hbt] at hW1 X1 ⊢
  obtain ⟨aw, cw, hvw⟩ := own_form h.own
  rw [hm] at hvw
  have HV := Lib.hid hvw
  obtain ⟨ln, hln⟩ : ∃ k, nn - m = k := ⟨_, rfl⟩
  obtain ⟨cn, hcn⟩ : ∃ k, cv - m = k := ⟨_, rfl⟩
  obtain ⟨an, han⟩ : ∃ a, subS av cv m 3 = a := ⟨_, rfl⟩
  have SL : Hid (∀ W, (Instr.slice 64 (.slice av nn cv) (some (.int .i64 (m : Nat))) none none).run Tryd.prog W = .ok (.slice an ln cn) W) := fun W => by rw [← han, ← hln, ← hcn]; exact run_sliceF 3 Tryd.underlying64 size_en W av nn cv m .i64 (by omega)
  have RN : Hid (∀ X' W, SA n X' W s (.slice av nn cv) xs → ∀ j (hj : m + j < xs.length), ∃ bx off, an = some ⟨bx, off, none⟩ ∧ W.cell? ⟨bx, off + j * 3, none⟩ = some (.int .u64 (xs[m + j].t : Nat)) ∧ W.cell? ⟨bx, off + j * 3 + 1, none⟩ = some (.int .i64 xs[m + j].k) ∧ W.cell? ⟨bx, off + j * 3 + 2, none⟩ = some (.slice xs[m + j].a xs[m + j].d.length xs[m + j].c)) := fun X' W hsw j hj => by
    have r1 := hsw.rows.dropS (m := m) (by omega)
    rw [han] at r1
    have hjd : j < (xs.drop m).length := by rw [List.length_drop]; omega
    obtain ⟨bx, off, o, rfl, _, _, hcl⟩ := r1.spot (by omega)
    have := RowsAt.e3 (K := fun _ _ => True) hcl j hjd
    rw [List.getElem_drop] at this
    exact ⟨bx, off, rfl, this.1, this.2.1, this.2.2⟩
  have HNN := Lib.hid hnn
  have HMM := Lib.hid hm
  have HEL : Hid (b + nn + 1 < 18446744073709551616) := by show _ < _; rw [← hel]; exact hb1
  have HLN : Hid (nn - m = ln) := hln
  have LC : Hid (∀ X' W, Kp X X' W1 W → W.cell? ⟨w.heap.size, 0, none⟩ = some (.int .u64 (b : Nat)) ∧ W.cell? ⟨w.heap.size, 2, none⟩ = some (.slice av nn cv)) := fun X' W k => by
    have t := k.fr.keep _ _ X1.out NB1.out
    exact ⟨cell_mk t rfl, cell_mk t rfl⟩
  have Y6 : Hid (∀ W, Fr (fun _ _ => True) W1 W → W.cell? ⟨bk, 6, none⟩ = some (.slice aw m cw) ∧ W.cell? ⟨w.heap.size, 0, none⟩ = some (.int .u64 (b : Nat)) ∧ W.cell? ⟨w.heap.size, 2, none⟩ = some (.slice av nn cv)) := fun W f => ⟨by rw [← HV.out]; exact (M1.out.tt f).cells.2.2.2.2.2.2.1, (LC.out X W (Kp.rfl' X f)).1, (LC.out X W (Kp.rfl' X f)).2⟩
  have U1 : Hid (Fr (fun _ _ => True) W1 W1.drew) := (Fr.refl _ _).drew
  have mI : (m : Int) ≤ nn := by omega
  have lnB : ln ≤ 1000 := by omega
  unfold vL
  have HZ0 := h0
  clear h ht hn hs hbad hwf hm hnn hel hbb hbt hvw hT hln hcn han
  go_enter Tryd.func80, Tryd.ntmps80
  go_upto_region 1 with fail
  try rw [hW1]
  clear hW1
  have sl := SL.out
  go_region_held3 (fun W => W.cell? ⟨bk, 6, none⟩ = some (.slice aw m cw) ∧ W.cell? ⟨w.heap.size, 0, none⟩ = some (.int .u64 (b : Nat)) ∧ W.cell? ⟨w.heap.size, 2, none⟩ = some (.slice av nn cv))
    (exact Y6.out _ U1.out)
    (fail)
  all_goals
    go_wp2
    go_loopw [20] (fun v20 wr => ∃ (j : Nat) (H : List (Nat × En)) (J' : Jn) (D' : Dk) (X' P' : Nat → Prop) (hv' : Value) (rs' : List RV), v20 = .int .i64 j ∧ j ≤ ln ∧ Hid (addL b (s.es.drop (m + j)) { K with held := H } J' D' = T) ∧ Hid (rs'.length = m + j) ∧ Hid (KM n X' P' wr bk bj bd ring { K with held := H } J' D' a4 c4 hv' rs') ∧ Hid (Kp X X' W1 wr) ∧ Hid (D'.pend.length ≤ D.pend.length + j)) (fun v20 _ => ln - (intOf v20).toNat)
    case atStart => exact ⟨0, K.held, J, D, X, P, hv, rs, rfl, Nat.zero_le _, HT0, HMM, M1.out.tt U1.out, Kp.rfl' X U1.out, Nat.le_refl _⟩
    case round =>
      obtain ⟨j, H, J', D', X', P', hv', rs', rfl, hj, HA, HL, MJ, KJ, HP⟩ := hrel
      by_cases hlt : j < ln
      · have hjx : m + j < xs.length := by have := HNN.out; have := HLN.out; omega
        have ltI : decide ((j : Int) < ln) = true := by simp; omega
        have SW := Lib.hid (S1.out.kp KJ.out)
        obtain ⟨bx, off, hane, k0, k1, k2⟩ := RN.out X' wr SW.out j hjx
        obtain ⟨y, hy⟩ : ∃ y, xs[m + j] = y := ⟨_, rfl⟩
        have hym : y ∈ xs := hy ▸ List.getElem_mem hjx
        rw [hy] at k0 k1 k2
        have HE : Hid (s.es.drop (m + j) = y.en :: s.es.drop (m + (j + 1))) := by
          show _ = _
          rw [HES.out, List.drop_eq_getElem_cons (by rw [List.length_map]; exact hjx), List.getElem_map, hy]
          rfl
        have hye : y.en ∈ s.es := by rw [HES.out]; exact List.mem_map_of_mem hym
        have YT : Hid (y.t < 18446744073709551616) := HWF.out _ hye
        have YB : Hid (badE y.en = false) := HBAD.out _ hye
        have YD : Hid (BytesAt (Yk X' n 5) wr (.slice y.a y.d.length y.c) y.d) := SW.out.dat y hym
        have hHl : H.length = m + j := by have := congrArg List.length MJ.out.rc; rw [List.length_map, HL.out] at this; exact this.symm
        obtain ⟨mj, hmj⟩ : ∃ k, m + j = k := ⟨_, rfl⟩
        obtain ⟨b1, hb1'⟩ : ∃ k, b + 1 = k := ⟨_, rfl⟩
        obtain ⟨z, hz⟩ : ∃ k, b1 + mj = k := ⟨_, rfl⟩
        have HA2 := HA.out
        rw [HE.out] at HA2
        replace HA2 : (if (jappend J' D' (recB (b + 1 + H.length, y.en))).1 ≠ 0 then ((jappend J' D' (recB (b + 1 + H.length, y.en))).1, { K with held := H ++ [(b + 1 + H.length, y.en)] }, (jappend J' D' (recB (b + 1 + H.length, y.en))).2) else addL b (s.es.drop (m + (j + 1))) { K with held := H ++ [(b + 1 + H.length, y.en)] } (jappend J' D' (recB (b + 1 + H.length, y.en))).2.1 (jappend J' D' (recB (b + 1 + H.length, y.en))).2.2) = T := HA2
        rw [hHl, hmj, hb1', hz] at HA2
        have HA3 := Lib.hid HA2
        rw [hmj] at HL
        have HMJ := Lib.hid hmj
        obtain ⟨a', c', hv1⟩ := own_form MJ.out.own
        rw [HL.out] at hv1
        subst hv1 hane
        have q1 : IntKind.u64.wrap ((b : Int) + 1) = (b1 : Int) := by rw [IntKind.wrap_u64, ← hb1']; have := HEL.out; omega
        have q2 : IntKind.u64.wrap (mj : Int) = (mj : Int) := by rw [IntKind.wrap_u64]; have := HNN.out; omega
        have q3 : IntKind.u64.wrap ((b1 : Int) + (mj : Int)) = (z : Int) := by rw [IntKind.wrap_u64, ← hz, ← hb1']; have := HEL.out; have := HNN.out; omega
        have ZB : Hid (z < 18446744073709551616) := by show _ < _; have := HEL.out; have := HNN.out; omega
        obtain ⟨W2, hW2⟩ : ∃ W, wr.alloc (.cells #[.int .u64 (y.t : Nat), .int .i64 y.k, .slice y.a y.d.length y.c] 128 (0, 0)) = W := ⟨_, rfl⟩
        have F2 : Hid (Fr (fun _ _ => True) wr W2) := hW2 ▸ (Fr.refl _ _).alloc _
        have T2 : Hid (W2.heap[wr.heap.size]? = some (.cells #[.int .u64 (y.t : Nat), .int .i64 y.k, .slice y.a y.d.length y.c] 128 (0, 0))) := hW2 ▸ heap_alloc_new wr _
        have M2 := Lib.hid (MJ.out.tt F2.out)
        have K2 := Lib.hid (KJ.out.trans (Kp.rfl' X' F2.out))
        have CE : Hid (∀ W, Fr (fun _ _ => True) W2 W → W.cell? ⟨bk, 6, none⟩ = some (.slice a' mj c') ∧ W.cell? ⟨w.heap.size, 0, none⟩ = some (.int .u64 (b : Nat)) ∧ W.cell? ⟨wr.heap.size, 0, none⟩ = some (.int .u64 (y.t : Nat)) ∧ W.cell? ⟨wr.heap.size, 1, none⟩ = some (.int .i64 y.k) ∧ W.cell? ⟨wr.heap.size, 2, none⟩ = some (.slice y.a y.d.length y.c)) := fun W f => by
          have t := f.keep _ _ T2.out trivial
          exact ⟨(M2.out.tt f).cells.2.2.2.2.2.2.1, (LC.out X' W (K2.out.trans (Kp.rfl' X' f))).1, cell_mk t rfl, cell_mk t rfl, cell_mk t rfl⟩
        have U2 : Hid (Fr (fun _ _ => True) W2 W2.drew) := (Fr.refl _ _).drew
        clear hy hym hye HA2 hHl hmj hb1' hz HA
        go_upto_region 5 with fail
        try rw [hW2]
        clear hW2
        go_region_held3 (fun W => W.cell? ⟨bk, 6, none⟩ = some (.slice a' mj c') ∧ W.cell? ⟨w.heap.size, 0, none⟩ = some (.int .u64 (b : Nat)) ∧ W.cell? ⟨wr.heap.size, 0, none⟩ = some (.int .u64 (y.t : Nat)) ∧ W.cell? ⟨wr.heap.size, 1, none⟩ = some (.int .i64 y.k) ∧ W.cell? ⟨wr.heap.size, 2, none⟩ = some (.slice y.a y.d.length y.c))
          (first | exact CE.out _ U2.out | exact CE.out _ ((Fr.refl _ _).alloc _).drew)
          (fail)
        all_goals
          obtain ⟨W3, hW3⟩ : ∃ W, (W2.alloc (.cells #[.int .u64 (z : Nat), .int .u64 (y.t : Nat), .int .i64 y.k, .slice y.a y.d.length y.c] 141 (0, 0))).drew = W := ⟨_, rfl⟩
          have F3 : Hid (Fr (fun _ _ => True) W2 W3) := hW3 ▸ ((Fr.refl _ _).alloc _).drew
          have T3 : Hid (W3.heap[W2.heap.size]? = some (.cells #[.int .u64 (z : Nat), .int .u64 (y.t : Nat), .int .i64 y.k, .slice y.a y.d.length y.c] 141 (0, 0))) := hW3 ▸ heap_alloc_new W2 _
          try rw [hW3]
          clear hW3
          have M3 := Lib.hid (M2.out.tt F3.out)
          have K3 := Lib.hid (K2.out.trans (Kp.rfl' X' F3.out))
          obtain ⟨g2, hg2⟩ : ∃ k, W2.heap.size = k := ⟨_, rfl⟩
          have NG : Hid (¬ X' g2 ∧ g2 ≠ bk) := ⟨fun k => by have := M2.out.hi _ k; omega, fun e => by have := M2.out.hi _ M2.out.xb; omega⟩
          rw [hg2] at T3
          rw [hg2]
          clear hg2
          have SS : Hid (∀ W, Fr (fun c _ => (Value.slice a' mj c').ownBlock ≠ some c) W3 W → W.cell? ⟨bk, 6, none⟩ = some (.slice a' mj c') ∧ W.cell? ⟨g2, 0, none⟩ = some (.int .u64 (z : Nat)) ∧ W.cell? ⟨g2, 1, none⟩ = some (.int .u64 (y.t : Nat)) ∧ W.cell? ⟨g2, 2, none⟩ = some (.int .i64 y.k) ∧ W.cell? ⟨g2, 3, none⟩ = some (.slice y.a y.d.length y.c)) := fun W f => by
            have t := f.keep _ _ T3.out fun e => NG.out.1 (M3.out.ox _ e).1
            have tk := f.keep _ _ M3.out.top fun e => (M3.out.ox _ e).2.2 rfl
            unfold W7 at tk
            exact ⟨cell_mk tk rfl, cell_mk t rfl, cell_mk t rfl, cell_mk t rfl, cell_mk t rfl⟩
          have F5 : Hid (Fr (fun c _ => (Value.slice a' mj c').ownBlock ≠ some c) W3 W3.drew) := (Fr.refl _ _).drew
          have F5t : Hid (Fr (fun _ _ => True) W3 W3.drew) := (Fr.refl _ _).drew
          go_upto_region 6 with fail
          refine wp_region_heldK (S1 := fun _ => True) (S0 := fun W => W.cell? ⟨bk, 6, none⟩ = some (.slice a' mj c') ∧ W.cell? ⟨g2, 0, none⟩ = some (.int .u64 (z : Nat)) ∧ W.cell? ⟨g2, 1, none⟩ = some (.int .u64 (y.t : Nat)) ∧ W.cell? ⟨g2, 2, none⟩ = some (.int .i64 y.k) ∧ W.cell? ⟨g2, 3, none⟩ = some (.slice y.a y.d.length y.c)) (k := 10) (by kernel_rfl) ?_
          refine wpAnyK_take (i := 0) (v := ?v1) rfl (by rfl) (by kernel_rfl) (by kernel_rfl) (by kernel_rfl) (by kernel_rfl) (fun _ _ _ h => h) (Or.inl ⟨by rfl, ?hy1⟩) trivial (SS.out _ F5.out) ?rest1
          case hy1 => (intro w hSw; (try dsimp only at hSw); (try simp only [List.getElem_toArray, List.getElem_cons_zero, List.getElem_cons_succ]); go_simp; try with_reducible rfl)
          try simp only [List.getElem_toArray, List.getElem_cons_zero, List.getElem_cons_succ, Act.put, List.setIfInBounds_toArray, List.set_cons_zero, List.set_cons_succ]
          refine wpAnyK_take (i := 1) (v := ?v2) rfl (by rfl) (by kernel_rfl) (by kernel_rfl) (by kernel_rfl) (by kernel_rfl) (fun _ _ _ h => h) (Or.inl ⟨by rfl, ?hy2⟩) trivial (SS.out _ F5.out) ?rest2
          case hy2 => (intro w hSw; (try dsimp only at hSw); (try simp only [List.getElem_toArray, List.getElem_cons_zero, List.getElem_cons_succ]); go_simp; try with_reducible rfl)
          try simp only [List.getElem_toArray, List.getElem_cons_zero, List.getElem_cons_succ, Act.put, List.setIfInBounds_toArray, List.set_cons_zero, List.set_cons_succ]
          refine wpAnyK_take (i := 2) (v := ?v3) rfl (by rfl) (by kernel_rfl) (by kernel_rfl) (by kernel_rfl) (by kernel_rfl) (fun _ _ _ h => h) (Or.inl ⟨by rfl, ?hy3⟩) trivial (SS.out _ F5.out) ?rest3
          case hy3 => (intro w hSw; (try dsimp only at hSw); (try simp only [List.getElem_toArray, List.getElem_cons_zero, List.getElem_cons_succ]); go_simp; try with_reducible rfl)
          try simp only [List.getElem_toArray, List.getElem_cons_zero, List.getElem_cons_succ, Act.put, List.setIfInBounds_toArray, List.set_cons_zero, List.set_cons_succ]
          refine wpAnyK_take (i := 3) (v := ?v4) rfl (by rfl) (by kernel_rfl) (by kernel_rfl) (by kernel_rfl) (by kernel_rfl) (fun _ _ _ h => h) (Or.inl ⟨by rfl, ?hy4⟩) trivial (SS.out _ F5.out) ?rest4
          case hy4 => (intro w hSw; (try dsimp only at hSw); (try simp only [List.getElem_toArray, List.getElem_cons_zero, List.getElem_cons_succ]); go_simp; try with_reducible rfl)
          try simp only [List.getElem_toArray, List.getElem_cons_zero, List.getElem_cons_succ, Act.put, List.setIfInBounds_toArray, List.set_cons_zero, List.set_cons_succ]
          refine wpAnyK_take0 (i := 4) (v := ?v5) [7, 10] rfl (by rfl) (by kernel_rfl) (by rfl) (by kernel_rfl) (by kernel_rfl) (by kernel_rfl) (by kernel_rfl) (fun _ _ _ h => h) (Or.inl ⟨by rfl, ?hy5⟩) trivial (SS.out _ F5.out) ?rest5
          case hy5 => (intro w hSw; (try dsimp only at hSw); (try simp only [List.getElem_toArray, List.getElem_cons_zero, List.getElem_cons_succ]); go_simp; try with_reducible rfl)
          try simp only [List.getElem_toArray, List.getElem_cons_zero, List.getElem_cons_succ, Act.put, List.setIfInBounds_toArray, List.set_cons_zero, List.set_cons_succ]
          refine wpAnyK_take0 (i := 5) (v := ?v6) [6, 7, 10] rfl (by rfl) (by kernel_rfl) (by rfl) (by kernel_rfl) (by kernel_rfl) (by kernel_rfl) (by kernel_rfl) (fun _ _ _ h => h) (Or.inl ⟨by rfl, ?hy6⟩) trivial (SS.out _ F5.out) ?rest6
          case hy6 => (intro w hSw; (try dsimp only at hSw); (try simp only [List.getElem_toArray, List.getElem_cons_zero, List.getElem_cons_succ]); go_simp; try with_reducible rfl)
          try simp only [List.getElem_toArray, List.getElem_cons_zero, List.getElem_cons_succ, Act.put, List.setIfInBounds_toArray, List.set_cons_zero, List.set_cons_succ]
          refine wpAnyK_ready (rs := [6]) (by kernel_rfl) (by simp) ?_
          refine AllReadyK.cons rfl (fun K hK => ?_) (by kernel_rfl) ?_
          · obtain ⟨WB, hWB⟩ : ∃ W, W3.drew.alloc (.cells #[.int .u64 (z : Nat), .int .u64 (y.t : Nat), .int .i64 y.k, .slice y.a y.d.length y.c] 141 (0, 0)) = W := ⟨_, rfl⟩
            have FBt : Hid (Fr (fun _ _ => True) W3 WB) := hWB ▸ F5t.out.alloc _
            have FB : Hid (Fr (fun c _ => (Value.slice a' mj c').ownBlock ≠ some c) W3 WB) := hWB ▸ F5.out.alloc _
            obtain ⟨gb, hgb⟩ : ∃ g, W3.drew.heap.size = g := ⟨_, rfl⟩
            have TB : Hid (RowsAt (fun c _ => c = gb) WB (.slice (some ⟨gb, 0, none⟩) 1 1) 4 encR [⟨z, y⟩]) := hWB ▸ hgb ▸ rows_oneR (heap_alloc_new W3.drew _)
            (try simp only [List.getElem_toArray, List.getElem_cons_zero, List.getElem_cons_succ])
            go_simp
            try rw [hWB]
            try rw [hgb]
            (try simp only [Act.put, List.setIfInBounds_toArray, List.set_cons_zero, List.set_cons_succ])
            refine hK.out _ _ trivial (fun _ => SS.out _ FB.out) ?_
            clear hK K
            clear hWB hgb
            have MB := Lib.hid (M3.out.tt FBt.out)
            have OB : Hid (WB.ownsRow n 141 4 (.slice a' mj c') mj (rs'.flatMap encR)) := HL.out ▸ MB.out.own
            have HNB : Hid (n ≤ WB.heap.size) := Nat.le_trans HN.out (K3.out.trans (Kp.rfl' X' FBt.out)).fr.size
            refine wpAnyK_ready (rs := [7]) (by kernel_rfl) (by simp) ?_
            refine AllReadyK.cons rfl (fun K hK => ?_) (by kernel_rfl) ?_
            · refine step_append_rc WB rfl _ _ rfl _ mj n rs' rfl OB HNB _ ⟨z, y⟩ rfl TB (by have := HNN.out; have := HMJ.out; omega) ?_
              intro g9 c9 W9 O9 G9 N9
              have F9 : Hid (Fr (fun c _ => (Value.slice a' mj c').ownBlock ≠ some c) W3 W9) := FB.out.trans ((Fr.refl _ WB).grown G9.out fun k o e _ hk => hk e)
              have YB9 : Hid (BytesAt (Yk X' n 5) WB (.slice y.a y.d.length y.c) y.d) := YD.out.tt ((F2.out.trans F3.out).trans FBt.out)
              have AP := Lib.hid (MB.out.app (y := ⟨z, y⟩) HL.out O9.out G9.out N9.out YB9.out HNB.out)
              have t9 : W9.heap[bk]? = _ := F9.out.keep _ _ M3.out.top fun e => (M3.out.ox _ e).2.2 rfl
              unfold W7 at t9
              have k9 := cell_mk (i := 6) t9 rfl
              have z9 := frozen_mk (i := 6) t9
              have TG : Hid (W9.heap[g2]? = _) := F9.out.keep _ _ T3.out fun e => NG.out.1 (M3.out.ox _ e).1
              clear t9
              (try simp only [Act.put, List.setIfInBounds_toArray, List.set_cons_zero, List.set_cons_succ])
              refine hK.out _ _ trivial (fun _ => SS.out _ F9.out) ?_
              clear hK K
              refine wpAnyK_take (i := 8) (v := ?v7) rfl (by rfl) (by kernel_rfl) (by kernel_rfl) (by kernel_rfl) (by kernel_rfl) (fun _ _ _ h => h) (Or.inl ⟨by rfl, ?hy7⟩) trivial (SS.out _ F9.out) ?rest7
              case hy7 => (intro w hSw; (try dsimp only at hSw); (try simp only [List.getElem_toArray, List.getElem_cons_zero, List.getElem_cons_succ]); go_simp; try with_reducible rfl)
              try simp only [List.getElem_toArray, List.getElem_cons_zero, List.getElem_cons_succ, Act.put, List.setIfInBounds_toArray, List.set_cons_zero, List.set_cons_succ]
              refine wpAnyK_take (i := 9) (v := ?v8) rfl (by rfl) (by kernel_rfl) (by kernel_rfl) (by kernel_rfl) (by kernel_rfl) (fun _ _ _ h => h) (Or.inl ⟨by rfl, ?hy8⟩) trivial (SS.out _ F9.out) ?rest8
              case hy8 => (intro w hSw; (try dsimp only at hSw); (try simp only [List.getElem_toArray, List.getElem_cons_zero, List.getElem_cons_succ]); go_simp; try with_reducible rfl)
              try simp only [List.getElem_toArray, List.getElem_cons_zero, List.getElem_cons_succ, Act.put, List.setIfInBounds_toArray, List.set_cons_zero, List.set_cons_succ]
              refine wpAnyK_ready (rs := [10]) (by kernel_rfl) (by simp) ?_
              refine AllReadyK.cons rfl (fun K hK => ?_) (by kernel_rfl) ?_
              · (try simp only [List.getElem_toArray, List.getElem_cons_zero, List.getElem_cons_succ])
                go_simp
                refine hK.out _ _ trivial (fun h => absurd h (by decide)) ?_
                clear hK K
                refine wpAnyK_done (by kernel_rfl) ?_ _
                clear k9 z9
                obtain ⟨WA, hWA⟩ : ∃ W, W9.setCell ⟨bk, 6, none⟩ (.slice g9 (mj + 1) c9) = W := ⟨_, rfl⟩
                try rw [hWA]
                have APA := AP.out
                rw [hWA] at APA
                obtain ⟨XA, ma, ka⟩ := APA
                have MA := Lib.hid ma
                have KA := Lib.hid ka
                have TA : Hid (WA.heap[g2]? = some (.cells #[.int .u64 (z : Nat), .int .u64 (y.t : Nat), .int .i64 y.k, .slice y.a y.d.length y.c] 141 (0, 0))) := by
                  show WA.heap[g2]? = _
                  rw [← hWA, heap_setCell_ne NG.out.2]
                  exact TG.out
                clear ma ka hWA AP
                have NA : Hid (¬ XA g2) := KA.out.out _ (Nat.lt_of_lt_of_le (lt_of_some T3.out) FBt.out.size) NG.out.1
                have KWA : Hid (Kp X XA W1 WA) := (K3.out.trans (Kp.rfl' X' FBt.out)).trans KA.out
                obtain ⟨BB, hBB⟩ : ∃ B, recB (z, y.en) = B := ⟨_, rfl⟩
                obtain ⟨rl, hrl⟩ : ∃ k, BB.length = k := ⟨_, rfl⟩
                have RB : Hid (∀ W, Fr (fun _ _ => True) WA W → Calls Tryd.prog 116 #[.agg #[.int .u64 (z : Nat), .int .u64 (y.t : Nat), .int .i64 y.k, .slice y.a y.d.length y.c]] W fun e w' => (∃ a8 c8, e = .returned (.slice a8 rl c8) ∧ BytesAt (New W.heap.size) w' (.slice a8 rl c8) BB) ∧ Fr (fun _ _ => True) W w') := fun W f => by
                  have := rbyt_calls W ⟨z, y⟩ ((MA.out.dat ⟨z, y⟩ (by simp)).tt f) ZB.out YT.out YB.out
                  unfold RV.rc at this
                  dsimp only at this
                  rw [hBB, hrl] at this
                  exact this
                have HA4 := HA3.out
                rw [hBB] at HA4
                have HPA := pend_append J' D' BB
                obtain ⟨e9, J9, D9, h9⟩ : ∃ e9 J9 D9, jappend J' D' BB = (e9, J9, D9) := ⟨_, _, _, rfl⟩
                have AC : Hid (∀ W, Fr (fun _ _ => True) WA W → ∀ a8 c8 (K8 : Nat → Obj → Prop), BytesAt K8 W (.slice a8 rl c8) BB → Calls Tryd.prog 15 #[.pointer (some ⟨bj, 0, none⟩), .slice a8 rl c8] W fun e w' => e = .returned (.int .i64 e9) ∧ ∃ X9 P9, KM n X9 P9 w' bk bj bd ring { K with held := H ++ [(z, y.en)] } J9 D9 a4 c4 (.slice g9 (mj + 1) c9) (rs' ++ [⟨z, y⟩]) ∧ Kp XA X9 WA w') := fun W f a8 c8 K8 hb => by
                  have M8 := MA.out.tt f
                  have K8' := KWA.out.trans (Kp.rfl' XA f)
                  have := st_append M8.st h0 (Nat.le_trans HN.out K8'.fr.size) _ BB hb (HT.out.kp K8' HZ.out) (by have := HP.out; have := HNN.out; omega)
                  rw [h9] at this
                  refine this.mono fun e w' ⟨he, P9, st', kp'⟩ => ?_
                  obtain ⟨X9, q1, q2⟩ := M8.jd (Nat.le_trans HN.out K8'.fr.size) st' kp'
                  exact ⟨he, X9, P9, q1, (Kp.rfl' XA f).trans q2⟩
                rw [h9] at HA4 HPA
                dsimp only at HA4 HPA
                have HA5 := Lib.hid HA4
                have HP9 := Lib.hid HPA
                have CA : Hid (∀ X9 P9 K9 J9 D9 a9 c9 hv9 rs9 W, KM n X9 P9 W bk bj bd ring K9 J9 D9 a9 c9 hv9 rs9 → Kp XA X9 WA W → W.cell? ⟨bk, 1, none⟩ = some (.pointer (some ⟨bj, 0, none⟩)) ∧ W.cell? ⟨g2, 0, none⟩ = some (.int .u64 (z : Nat)) ∧ W.cell? ⟨g2, 1, none⟩ = some (.int .u64 (y.t : Nat)) ∧ W.cell? ⟨g2, 2, none⟩ = some (.int .i64 y.k) ∧ W.cell? ⟨g2, 3, none⟩ = some (.slice y.a y.d.length y.c)) := fun X9 P9 K9 J9 D9 a9 c9 hv9 rs9 W hm hk => by
                  have t := hk.fr.keep _ _ TA.out NA.out
                  exact ⟨hm.cells.2.1, cell_mk t rfl, cell_mk t rfl, cell_mk t rfl, cell_mk t rfl⟩
                have UA : Hid (Fr (fun _ _ => True) WA WA.drew) := (Fr.refl _ _).drew
                clear hBB hrl h9 HA4 HPA
                go_upto_region 7 with fail
                go_region_held3 (fun W => W.cell? ⟨bk, 1, none⟩ = some (.pointer (some ⟨bj, 0, none⟩)) ∧ W.cell? ⟨g2, 0, none⟩ = some (.int .u64 (z : Nat)) ∧ W.cell? ⟨g2, 1, none⟩ = some (.int .u64 (y.t : Nat)) ∧ W.cell? ⟨g2, 2, none⟩ = some (.int .i64 y.k) ∧ W.cell? ⟨g2, 3, none⟩ = some (.slice y.a y.d.length y.c))
                  (first | exact CA.out _ _ _ _ _ _ _ _ _ _ (MA.out.tt UA.out) (Kp.rfl' XA UA.out) | exact CA.out _ _ _ _ _ _ _ _ _ _ (MA.out.tt F8.out) (Kp.rfl' XA F8.out) | exact CA.out _ _ _ _ _ _ _ _ _ _ Q1.out Q2.out)
                  (first
                    | (go_at_call 116; go_must ((with_reducible refine (RB.out _ UA.out).mono ?_); rintro e w8 ⟨⟨a8, c8, rfl, b8⟩, f8⟩; have B8 := Lib.hid b8; have F8 := Lib.hid (UA.out.trans f8); clear b8 f8))
                    | (go_at_call 15; go_must ((with_reducible refine (AC.out _ F8.out a8 c8 _ B8.out).mono ?_); rintro e w9 ⟨rfl, X9, P9, q1, q2⟩; have Q1 := Lib.hid q1; have Q2 := Lib.hid q2; clear q1 q2)))
                all_goals
                  by_cases he : e9 = 0
                  · have heb : (e9 != 0) = false := by simp [he]
                    have NX : Hid (addL b (s.es.drop (m + (j + 1))) { K with held := H ++ [(z, y.en)] } J9 D9 = T) := Lib.hid ((if_neg (not_not_intro he)).symm.trans HA5.out)
                    clear HA5 HA3
                    subst he
                    go_wp2
                    go_roundw
                    case rel => exact ⟨j + 1, H ++ [(z, y.en)], J9, D9, X9, P9, _, _, by go_num, by omega, NX, Lib.hid (by rw [List.length_append, List.length_singleton, HL.out, ← HMJ.out, Nat.add_assoc]), Q1, Lib.hid (KWA.out.trans Q2.out), Lib.hid (by have := HP.out; have := HP9.out; omega)⟩
                    case measure => simp [intOf]; omega
                  · have heb : (e9 != 0) = true := by simp [he]
                    have TE : Hid (T = (e9, { K with held := H ++ [(z, y.en)] }, J9, D9)) := Lib.hid (HA5.out.symm.trans (if_pos he))
                    have RE : Hid (R = (e9, { K with held := H ++ [(z, y.en)] }, J9, D9)) := by
                      have h4 := TK.out
                      rw [if_pos (by rw [TE.out]; exact he), TE.out] at h4
                      exact h4
                    clear HA5 HA3 TE TK HT0
                    go_wp2
                    go_ret
                    rw [RE.out]
                    exact ⟨rfl, X9, P9, _, _, Q1.out, (Kp.rfl' X F1.out).trans (KWA.out.trans Q2.out)⟩
              exact AllReadyK.nil
            exact AllReadyK.nil
          exact AllReadyK.nil
      · have hje : j = ln := by omega
        have ltI : decide ((j : Int) < ln) = false := by simp; omega
        have TE : Hid (T = (0, { K with held := H }, J', D')) := by
          have e := HA.out
          rw [List.drop_of_length_le (by rw [HES.out, List.length_map]; have := HNN.out; have := HLN.out; omega)] at e
          exact e.symm
        subst hje
        by_cases hz : j = 0
        · subst hz
          have l0 : decide (((0 : Nat) : Int) > 0) = false := by decide
          have RE : Hid (R = (0, { K with held := H }, J', D')) := by
            have h2 := HT0.out
            have h3 := TE.out
            rw [List.drop_of_length_le (by rw [HES.out, List.length_map]; have := HNN.out; have := HLN.out; omega)] at h2
            replace h2 : (0, K, J, D) = T := h2
            have h4 := TK.out
            rw [if_neg (by rw [← h2]; simp), if_pos (by rw [List.drop_of_length_le (by rw [HES.out, List.length_map]; have := HNN.out; have := HLN.out; omega)])] at h4
            show _ = _
            rw [h4, h2, h3]
          clear TK TE HT0
          go_wp2
          go_ret
          rw [RE.out]
          exact ⟨rfl, X', P', _, _, MJ.out, (Kp.rfl' X F1.out).trans KJ.out⟩
        · have l0 : decide ((j : Int) > 0) = true := by simp; omega
          have jI : (0 : Int) < (j : Int) := by omega
          have RE : Hid (R = (0, { K with held := H }, J', D'.sync)) := by
            have h3 := TE.out
            have h4 := TK.out
            rw [h3, if_neg (by simp), if_neg (by intro e; have := congrArg List.length e; rw [List.length_drop, HES.out, List.length_map, List.length_nil] at this; have := HNN.out; have := HLN.out; omega)] at h4
            exact h4
          have y1 := MJ.out.cells.2.1
          have SY : Hid (Calls Tryd.prog 13 #[.pointer (some ⟨bj, 0, none⟩)] wr fun e w' => e = .returned (.tuple #[]) ∧ ∃ X'' P'', KM n X'' P'' w' bk bj bd ring { K with held := H } J' D'.sync a4 c4 hv' rs' ∧ Kp X' X'' wr w') := by
            have hsz : n ≤ wr.heap.size := Nat.le_trans HN.out KJ.out.fr.size
            refine (st_sync MJ.out.st hsz).mono fun e w' ⟨he, P'', st', kp'⟩ => ?_
            obtain ⟨X'', q1, q2⟩ := MJ.out.jd hsz st' kp'
            exact ⟨he, X'', P'', q1, q2⟩
          clear TK TE HT0
          go_wp2_with fail
          (with_reducible refine SY.out.mono ?_)
          rintro e w5 ⟨rfl, X5, P5, q1, q2⟩
          have Q1 := Lib.hid q1
          have Q2 := Lib.hid q2
          clear q1 q2 SY
          go_wp2
          go_ret
          rw [RE.out]
          exact ⟨rfl, X5, P5, _, _, Q1.out, ((Kp.rfl' X F1.out).trans KJ.out).trans Q2.out⟩
end Go.Proofs.YtcpbmempfeloaaaDoor
