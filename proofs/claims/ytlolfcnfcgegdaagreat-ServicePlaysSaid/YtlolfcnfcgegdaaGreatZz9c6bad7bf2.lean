/- Texts of the proofs, part 17: what the functions that they reach do, walked; no conditions beyond those that each states. -/
import Derived.Deep.RegionHeldLaw
import Derived.Deep.DeepCutAuto
import Derived.StillTailTactics
import Derived.Test.YtlolfcnfcgegdaaGreatZza71b161909
set_option linter.unusedVariables false
set_option linter.unusedSimpArgs false
/- Package locks: give. -/
namespace Go.Proofs.YtlolfcnfcgegdaaGreat
open Go.RowKit
set_option linter.unusedVariables false
set_option linter.unusedSimpArgs false

theorem giveL_stop {now last : Nat} {hs : List Ho} {ws : List Wa} (h : ∀ x xs, ws = x :: xs → ¬ (hs.length < 4 ∧ bearsM hs x.m = true ∧ last < topM)) : giveL now last hs ws = (last, hs, ws) := by
  cases ws with
  | nil => rfl
  | cons x xs => unfold giveL; rw [if_neg (h x xs rfl)]
theorem set_rg {L : Lk} {i : Nat} (hi : i < L.rs.length) : L.rs.set i ⟨(L.rg i).hs, (L.rg i).ws⟩ = L.rs := by
  have e : (⟨(L.rg i).hs, (L.rg i).ws⟩ : Rgn) = L.rs[i] := by
    unfold Lk.rg
    rw [List.getD_eq_getElem?_getD, List.getElem?_eq_getElem hi]; rfl
  rw [e, List.set_getElem_self]
theorem give_stop {L : Lk} {i : Nat} (hi : i < L.rs.length) (h : ∀ x xs, (L.rg i).ws = x :: xs → ¬ ((L.rg i).hs.length < 4 ∧ bearsM (L.rg i).hs x.m = true ∧ L.last < topM)) : L.give i = L := by
  unfold Lk.give
  rw [giveL_stop h]
  dsimp only
  rw [set_rg hi]
theorem give_go {L : Lk} {i : Nat} (hi : i < L.rs.length) {x : Wa} {xs : List Wa} (hw : (L.rg i).ws = x :: xs) (h : (L.rg i).hs.length < 4 ∧ bearsM (L.rg i).hs x.m = true ∧ L.last < topM) :
    (({ L.put i ⟨(L.rg i).hs, xs⟩ with last := L.last + 1 } : Lk).put i ⟨(L.rg i).hs ++ [⟨x.c, x.m, L.last + 1, untilM L.now⟩], xs⟩).give i = L.give i := by
  have e : (({ L.put i ⟨(L.rg i).hs, xs⟩ with last := L.last + 1 } : Lk).put i ⟨(L.rg i).hs ++ [⟨x.c, x.m, L.last + 1, untilM L.now⟩], xs⟩) = ⟨L.now, L.last + 1, L.rs.set i ⟨(L.rg i).hs ++ [⟨x.c, x.m, L.last + 1, untilM L.now⟩], xs⟩⟩ := by
    unfold Lk.put
    simp
  rw [e]
  unfold Lk.give
  rw [rg_set hi, if_pos rfl, hw]
  conv => rhs; unfold giveL
  rw [if_pos h]
  simp
theorem ok_go {hs : List Ho} {x : Wa} {xs : List Wa} {t u : Nat} (h : Rgn.ok ⟨hs, x :: xs⟩) (h4 : hs.length < 4) (ht : t ≤ topM) (hu : u ≤ topM) : Rgn.ok ⟨hs ++ [⟨x.c, x.m, t, u⟩], xs⟩ := by
  have hw := h.wc x (by simp)
  refine ⟨by simp; omega, by have := h.w4; simp at this ⊢; omega, fun y hy => ?_, fun y hy => h.wc y (by simp [hy]), ?_⟩
  · rcases List.mem_append.1 hy with hy | hy
    · exact h.hc y hy
    · rw [List.mem_singleton.1 hy]; exact ⟨hw.1, hw.2, ht, hu⟩
  · have := h.nd
    simp only [List.map_append, List.map_cons, List.map_nil, List.append_assoc, List.singleton_append] at this ⊢
    exact this
theorem RowsAt.of_nil {α : Type} {K : Nat → Obj → Prop} {w : World} {a : Option Addr} {c k : Nat} {enc : α → List Value} {xs : List α} (h0 : 0 ≤ c) (h : xs = []) : RowsAt K w (.slice a 0 c) k enc xs := by
  subst h
  exact ⟨a, c, rfl, Nat.zero_le _, .inl rfl⟩
/-- How many wait in a region. -/
def wantsLen (w : World) (bt i : Nat) : Nat := match w.cell? ⟨bt, 2 + i * 2 + 1, none⟩ with
  | some (.slice _ n _) => n
  | _ => 0

set_option maxRecDepth 100000 in
set_option maxHeartbeats 40000000 in
theorem give_calls {n : Nat} {P : Nat → Prop} (w : World) (bt i : Nat) (L : Lk) (h : LTE n P w bt L) (hi : i < 4) (hn : n ≤ w.heap.size) :
    Calls Tryz.prog 64 #[.pointer (some ⟨bt, 0, none⟩), .pointer (some ⟨bt, 2 + i * 2, none⟩)] w fun e w' => e = .returned (.tuple #[]) ∧ ∃ P', LTE n P' w' bt (L.give i) ∧ Kp P P' w w' := by
  obtain ⟨G, hG⟩ : ∃ G, L.give i = G := ⟨_, rfl⟩
  rw [hG]
  have HG := Lib.hid hG
  have HL := Lib.hid h
  clear h hG
  go_enter Tryz.func64, Tryz.ntmps64
  go_wp2_with fail
  go_loopw [4] (fun _ wr => ∃ (M : Lk) (Q : Nat → Prop), Hid (M.give i = G) ∧ Hid (LTE n Q wr bt M) ∧ Hid (Kp P Q w wr)) (fun _ wr => wantsLen wr bt i)
  case atStart => exact ⟨L, P, HG, HL, Kp.refl _ _⟩
  case round =>
    obtain ⟨M, Q, HM, HT, HK⟩ := hrel
    obtain ⟨hv, wv, hlt⟩ := HT.out
    obtain ⟨c0, c1, cr⟩ := hlt.cells wr (Fr.refl _ _)
    obtain ⟨ch, cw⟩ := cr i hi
    obtain ⟨hs, hhs⟩ : ∃ hs, (M.rg i).hs = hs := ⟨_, rfl⟩
    obtain ⟨ws, hws⟩ : ∃ ws, (M.rg i).ws = ws := ⟨_, rfl⟩
    obtain ⟨l, hl⟩ : ∃ l, M.last = l := ⟨_, rfl⟩
    obtain ⟨now, hnow⟩ : ∃ l, M.now = l := ⟨_, rfl⟩
    have hrow := hlt.hat hi
    have wrow := hlt.wr i hi
    have h4 := (hlt.ok.rg i).h4
    have hlast := hlt.ok.last
    have hle := hlt.len hi
    rw [hhs] at hrow h4
    rw [hws] at wrow
    rw [hl] at c1 hlast
    rw [hnow] at c0
    obtain ⟨ah, caph, ehv, hch⟩ := hrow.form
    obtain ⟨aw, capw, ewv, hcw⟩ := wrow.form
    rw [ehv] at ch hrow
    rw [ewv] at cw wrow
    have HWL : Hid (wantsLen wr bt i = ws.length) := by show _ = _; unfold wantsLen; rw [cw]
    have STOP : Hid ((∀ x xs, ws = x :: xs → ¬ (hs.length < 4 ∧ bearsM hs x.m = true ∧ l < topM)) → M = G) := fun hh => by
      rw [← HM.out]
      exact (give_stop hle (by rw [hhs, hws, hl]; exact hh)).symm
    have GO : Hid (∀ x xs, ws = x :: xs → (hs.length < 4 ∧ bearsM hs x.m = true ∧ l < topM) → ((({ M.put i ⟨hs, xs⟩ with last := l + 1 } : Lk).put i ⟨hs ++ [⟨x.c, x.m, l + 1, untilM now⟩], xs⟩).give i = G)) := fun x xs e hh => by
      rw [← HM.out, ← give_go hle (by rw [hws]; exact e) (by rw [hhs, hl]; exact hh), hhs, hl, hnow]
    have HLT := Lib.hid hlt
    have EHV := Lib.hid ehv
    have EWV := Lib.hid ewv
    have HHS := Lib.hid hhs
    have HWS := Lib.hid hws
    have HLL := Lib.hid hl
    have HNOW := Lib.hid hnow
    have HROW := Lib.hid hrow
    have WROW := Lib.hid wrow
    clear hlt cr hhs hws hl hnow ehv ewv hrow wrow
    cases ws with
    | nil =>
      go_wp2_with fail
      go_end0
      rw [← STOP.out (fun _ _ e => by cases e)]
      exact ⟨rfl, Q, HT.out, HK.out⟩
    | cons x xs =>
      have hk : 0 < (x :: xs).length := by simp
      obtain ⟨k, hkk⟩ : ∃ k, (x :: xs).length = k := ⟨_, rfl⟩
      obtain ⟨bw, ow, ob, rfl, _, hQb, hcs⟩ := WROW.out.spot hk
      have hx0 := (RowsAt.w2 (K := WK Q) hcs 0 hk)
      have HKK := Lib.hid hkk
      rw [hkk] at cw hk
      have hkI : (0 : Int) < k := by omega
      rw [Nat.zero_mul, Nat.add_zero] at hx0
      obtain ⟨x0, x1⟩ := hx0
      simp only [List.getElem_cons_zero] at x0 x1
      clear hcs hkk
      by_cases hl4 : hs.length < 4
      · have hl4I : (hs.length : Int) < 4 := by omega
        have BC := Lib.hid (bears_calls wr bt (2 + i * 2) _ hs x.m ch HROW.out (by omega))
        cases hb : bearsM hs x.m with
        | false =>
          rw [hb] at BC
          have HB := Lib.hid hb
          clear hb
          go_wp2_with fail
          (with_reducible refine BC.out.mono ?_)
          rintro e w1 ⟨rfl, f1⟩
          have F1 := Lib.hid f1
          clear f1 BC
          go_wp2_with fail
          go_end0
          rw [← STOP.out (fun y ys e hh => by cases e; rw [HB.out] at hh; exact absurd hh.2.1 (by decide))]
          exact ⟨rfl, Q, HT.out.tt F1.out, HK.out.trans (Kp.rfl' _ F1.out)⟩
        | true =>
          rw [hb] at BC
          have HB := Lib.hid hb
          clear hb
          by_cases hlm : l < topM
          · have hlI : decide ((l : Int) < 18446744073709551615) = true := by rw [topM_eq] at hlm; simp; omega
            have HWLP : Hid (IntKind.u64.wrap ((l : Int) + 1) = (l : Int) + 1) := by show _ = _; rw [topM_eq] at hlm; rw [IntKind.wrap_u64]; omega
            have GG := GO.out x xs rfl ⟨hl4, HB.out, hlm⟩
            have hcap1 : 1 ≤ capw := by have := HKK.out; omega
            have hkc : k ≤ capw := by have := HKK.out; omega
            go_wp2_with fail
            (with_reducible refine BC.out.mono ?_)
            rintro e w1 ⟨rfl, f1⟩
            have F1 := Lib.hid f1
            have LT1 := Lib.hid (HLT.out.tt f1)
            have x10 := f1.cell (fun _ _ => trivial) x0
            have x11 := f1.cell (fun _ _ => trivial) x1
            have c11 : w1.cell? ⟨bt, 1, none⟩ = some (.int .u64 (l : Nat)) := f1.cell (fun _ _ => trivial) c1
            clear f1 BC
            obtain ⟨W2, hW2⟩ : ∃ W, w1.alloc (.cells #[.int .i64 (x.c : Nat), .int .i64 (x.m : Nat)] 114 (0, 0)) = W := ⟨_, rfl⟩
            have F2 : Hid (Fr (fun _ _ => True) w1 W2) := hW2 ▸ (Fr.refl _ _).alloc _
            have XB2 : Hid (W2.heap[w1.heap.size]? = some (.cells #[.int .i64 (x.c : Nat), .int .i64 (x.m : Nat)] 114 (0, 0))) := hW2 ▸ heap_alloc_new w1 _
            have LT2 := Lib.hid (LT1.out.tt F2.out)
            have NX : Hid (w1.heap.size ≠ bt) := by have := lt_of_some LT1.out.top; show _ ≠ _; omega
            have cw1 := ((LT1.out.cells w1 (Fr.refl _ _)).2.2 i hi).2
            rw [EWV.out, HKK.out] at cw1
            have cw2 := ((LT2.out.cells W2 (Fr.refl _ _)).2.2 i hi).2
            have z2 := LT2.out.free W2 (Fr.refl _ _) (2 + i * 2 + 1)
            rw [EWV.out, HKK.out] at cw2
            go_upto_region 1 with fail
            clear hlI hlast
            go_upto_region 2 with fail
            go_cut [4] (fun v4 wx => v4 = .pointer (some ⟨w1.heap.size, 0, none⟩) ∧ ∃ vx, wx = W2.setCell ⟨bt, 2 + i * 2 + 1, none⟩ vx ∧ Hid (RowsAt (WK Q) wr vx 2 encW xs))
            case first =>
              by_cases hcap : capw = 1
              · subst hcap
                have hk1 : k = 1 := by have := HKK.out; omega
                subst hk1
                go_wp2_with fail
                go_meet
                case rel => exact ⟨rfl, _, rfl, RowsAt.of_nil (by decide) (List.eq_nil_of_length_eq_zero (by have h := HKK.out; rw [List.length_cons] at h; omega))⟩
              · have hcap2 : 1 < capw := by omega
                have hcapb : (capw == 1) = false := by simpa using hcap
                go_wp2_with fail
                go_meet
                case rel =>
                  refine ⟨rfl, _, rfl, ?_⟩
                  have h := (WROW.out.drop1 (by omega : 1 < capw))
                  rw [HKK.out] at h
                  exact h
            case rest =>
              obtain ⟨rfl, vx, hwc, hrx⟩ := hcut
              obtain ⟨W3, hW3⟩ : ∃ W, W2.setCell ⟨bt, 2 + i * 2 + 1, none⟩ vx = W := ⟨_, rfl⟩
              rw [hW3] at hwc
              subst hwc
              have ok3 : Hid (Rgn.ok ⟨(M.rg i).hs, xs⟩) := by
                have := HLT.out.ok.rg i
                exact this.sub (List.Sublist.refl _) (by rw [HWS.out]; exact List.sublist_cons_self _ _)
              have lt3 := LT2.out.setW hi vx xs (hrx.out.tt (F1.out.trans F2.out)) ok3.out
              rw [hW3, HHS.out] at lt3
              have F3 : Hid (Fr (fun c _ => c ≠ bt) W2 wc) := hW3 ▸ (Fr.refl _ _).setCell (fun _ _ h => h rfl) _
              have c13 := (lt3.cells wc (Fr.refl _ _)).2.1
              have z3 := lt3.free wc (Fr.refl _ _) 1
              replace c13 : wc.cell? ⟨bt, 1, none⟩ = some (.int .u64 (l : Nat)) := by rw [← HLL.out]; exact c13
              obtain ⟨W4, hW4⟩ : ∃ W, wc.setCell ⟨bt, 1, none⟩ (.int .u64 ((l : Int) + 1)) = W := ⟨_, rfl⟩
              obtain ⟨M4, hM4⟩ : ∃ M4 : Lk, { M.put i ⟨hs, xs⟩ with last := l + 1 } = M4 := ⟨_, rfl⟩
              have lt4 := lt3.setLast (l + 1) (by omega)
              rw [show ((l + 1 : Nat) : Int) = (l : Int) + 1 from by omega, hW4, hM4] at lt4
              have F4 : Hid (Fr (fun c _ => c ≠ bt) wc W4) := hW4 ▸ (Fr.refl _ _).setCell (fun _ _ h => h rfl) _
              have LT4 := Lib.hid lt4
              have M4R : Hid (M4.rg i = ⟨hs, xs⟩ ∧ M4.now = now ∧ M4.last = l + 1) := by
                show _ ∧ _
                rw [← hM4]
                refine ⟨?_, HNOW.out, rfl⟩
                show (M.put i ⟨hs, xs⟩).rg i = _
                rw [put_rg hle, if_pos rfl]
              have M4L : Hid (((M4.last : Nat) : Int) = (l : Int) + 1) := by show _ = _; rw [M4R.out.2.2]; omega
              rw [hM4] at GG
              have XB4 := Lib.hid (F4.out.keep _ _ (F3.out.keep _ _ XB2.out NX.out) NX.out)
              have x40 := cell_mk (i := 0) XB4.out rfl
              have x41 := cell_mk (i := 1) XB4.out rfl
              have c04 := (lt4.cells W4 (Fr.refl _ _)).1
              have c14 := (lt4.cells W4 (Fr.refl _ _)).2.1
              have ch4 := ((lt4.cells W4 (Fr.refl _ _)).2.2 i hi).1
              rw [EHV.out] at ch4
              rw [M4R.out.2.1] at c04
              rw [M4R.out.2.2, show ((l + 1 : Nat) : Int) = (l : Int) + 1 from by omega] at c14
              obtain ⟨u, hu⟩ : ∃ u, untilM now = u := ⟨_, rfl⟩
              have UC : Hid (∀ W, Fr (fun _ _ => True) W4 W → Calls Tryz.prog 90 #[.pointer (some ⟨bt, 0, none⟩)] W fun e w' => e = .returned (.int .u64 (u : Nat)) ∧ W = w') := fun W f => by
                rw [← hu]
                exact until_calls W bt now (f.cell (fun _ _ => trivial) c04) (by rw [← HNOW.out]; exact HLT.out.ok.now)
              have hul : u ≤ topM := by rw [← hu]; exact untilM_le now
              rw [hu] at GG
              obtain ⟨WB, hWB⟩ : ∃ W, W4.drew.alloc (.cells #[.int .i64 (x.c : Nat), .int .i64 (x.m : Nat), .int .u64 ((l : Int) + 1), .int .u64 (u : Nat)] 112 (0, 0)) = W := ⟨_, rfl⟩
              have FB : Hid (Fr (fun _ _ => True) W4 WB) := hWB ▸ ((Fr.refl _ W4).drew).alloc _
              have YB : Hid (WB.heap[W4.heap.size]? = some (.cells #[.int .i64 (x.c : Nat), .int .i64 (x.m : Nat), .int .u64 ((l + 1 : Nat) : Int), .int .u64 (u : Nat)] 112 (0, 0))) := hWB ▸ heap_alloc_new W4.drew _
              have ltB := lt4.tt FB.out
              have chB := ((ltB.cells WB (Fr.refl _ _)).2.2 i hi).1
              rw [EHV.out] at chB
              have OB : Hid (WB.ownsRow 0 112 4 (.slice ah hs.length caph) hs.length (hs.flatMap encH)) := by
                have := ltB.hr i hi
                rw [M4R.out.1, EHV.out] at this
                exact this
              have K4 : Hid (Kp Q Q wr W4) := ⟨(((F1.out.trans F2.out).mono fun _ _ _ => trivial).trans (F3.out.mono fun c _ hc e => hc (e ▸ HLT.out.pt))).trans (F4.out.mono fun c _ hc e => hc (e ▸ HLT.out.pt)), fun _ _ h => h⟩
              have SZ : n ≤ WB.heap.size := by
                have := HK.out.fr.size
                have := K4.out.fr.size
                have := FB.out.size
                omega
              have NB : Hid ((Value.slice ah hs.length caph).ownBlock ≠ some bt) := by show _ ≠ _; rw [← EHV.out]; exact HLT.out.ne hi
              have TB : Hid (WB.heap[bt]? = some (.cells #[.int .u64 (M4.now : Nat), .int .u64 (M4.last : Nat), hv 0, (fun j => if j = i then vx else wv j) 0, hv 1, (fun j => if j = i then vx else wv j) 1, hv 2, (fun j => if j = i then vx else wv j) 2, hv 3, (fun j => if j = i then vx else wv j) 3] 66 (0, 0))) := ltB.top
              have SS : Hid (∀ W, Fr (fun c _ => (Value.slice ah hs.length caph).ownBlock ≠ some c) W4 W → W.cell? ⟨w1.heap.size, 0, none⟩ = some (.int .i64 (x.c : Nat)) ∧ W.cell? ⟨w1.heap.size, 1, none⟩ = some (.int .i64 (x.m : Nat)) ∧ W.cell? ⟨bt, 1, none⟩ = some (.int .u64 ((l : Int) + 1))) := fun W f => by
                have n2 : (Value.slice ah hs.length caph).ownBlock ≠ some w1.heap.size := fun e => by
                  have ho := LT4.out.hr i hi
                  rw [EHV.out] at ho
                  obtain ⟨cur, hcur⟩ := own_tag ho e
                  rw [XB4.out] at hcur
                  cases hcur
                have t := f.keep _ _ XB4.out n2
                exact ⟨cell_mk t rfl, cell_mk t rfl, f.cell (fun _ _ => NB.out) c14⟩
              have CZ : Hid (∀ W6, WB.grownBy W6 (Value.slice ah hs.length caph).ownBlock → W6.cell? ⟨bt, 2 + i * 2, none⟩ = some (.slice ah hs.length caph) ∧ W6.frozen? ⟨bt, 2 + i * 2, none⟩ = false ∧ (W6.cell? ⟨w1.heap.size, 0, none⟩ = some (.int .i64 (x.c : Nat)) ∧ W6.cell? ⟨w1.heap.size, 1, none⟩ = some (.int .i64 (x.m : Nat)) ∧ W6.cell? ⟨bt, 1, none⟩ = some (.int .u64 ((l : Int) + 1))) ∧ ∀ v, (W6.setCell ⟨bt, 2 + i * 2, none⟩ v).cell? ⟨w1.heap.size, 0, none⟩ = some (.int .i64 (x.c : Nat)) ∧ (W6.setCell ⟨bt, 2 + i * 2, none⟩ v).cell? ⟨w1.heap.size, 1, none⟩ = some (.int .i64 (x.m : Nat)) ∧ (W6.setCell ⟨bt, 2 + i * 2, none⟩ v).cell? ⟨bt, 1, none⟩ = some (.int .u64 ((l : Int) + 1))) := fun W6 g => by
                have t := grown_block g TB.out NB.out
                have f : Fr (fun c _ => c = bt) WB W6 := (Fr.refl _ WB).grown g (fun k o e _ hk => NB.out (hk ▸ e))
                have s6 := SS.out W6 ((FB.out.mono fun _ _ _ => trivial).trans ((Fr.refl _ WB).grown g (fun k o e _ hk => hk e)))
                refine ⟨f.cell (fun _ _ => rfl) chB, frozen_mk t, s6, fun v => ?_⟩
                have f7 : Fr (fun c _ => c ≠ bt) W6 (W6.setCell ⟨bt, 2 + i * 2, none⟩ v) := (Fr.refl _ _).setCell (fun _ _ h => h rfl) _
                have t7 := heap_setCell_same (o := 2 + i * 2) t v
                refine ⟨f7.cell (fun _ _ => NX.out) s6.1, f7.cell (fun _ _ => NX.out) s6.2.1, ?_⟩
                rw [← M4L.out]
                match i, hi with
                | 0, _ => exact cell_mk t7 rfl
                | 1, _ => exact cell_mk t7 rfl
                | 2, _ => exact cell_mk t7 rfl
                | 3, _ => exact cell_mk t7 rfl
              have FIN : Hid (∀ g6 c6 W6, W6.ownsRow 0 112 4 (.slice (some ⟨g6, 0, none⟩) (hs.length + 1) c6) (hs.length + 1) ((hs ++ [(⟨x.c, x.m, l + 1, u⟩ : Ho)]).flatMap encH) → WB.grownBy W6 (Value.slice ah hs.length caph).ownBlock → OwnNext WB (.slice ah hs.length caph) (.slice (some ⟨g6, 0, none⟩) (hs.length + 1) c6) →
                  (∃ (M : Lk) (Q : Nat → Prop), Hid (M.give i = G) ∧ Hid (LTE n Q (W6.setCell ⟨bt, 2 + i * 2, none⟩ (.slice (some ⟨g6, 0, none⟩) (hs.length + 1) c6)) bt M) ∧ Hid (Kp P Q w (W6.setCell ⟨bt, 2 + i * 2, none⟩ (.slice (some ⟨g6, 0, none⟩) (hs.length + 1) c6)))) ∧ wantsLen (W6.setCell ⟨bt, 2 + i * 2, none⟩ (.slice (some ⟨g6, 0, none⟩) (hs.length + 1) c6)) bt i < wantsLen wr bt i) := fun g6 c6 W6 o6 g6' n6 => by
                obtain ⟨_, _, P7, t7, k7⟩ := ltB.setH hi (w1 := W6) (.slice (some ⟨g6, 0, none⟩) (hs.length + 1) c6) (hs ++ [⟨x.c, x.m, l + 1, u⟩]) SZ (by rw [EHV.out]; exact (Fr.refl _ WB).grown g6' (fun k o e _ hk => hk e)) (by rw [List.length_append]; exact o6) (by rw [EHV.out]; exact n6) (by rw [M4R.out.1]; exact ok_go (by have := HLT.out.ok.rg i; rw [← HHS.out, ← HWS.out]; exact this) hl4 (by omega) hul)
                refine ⟨⟨_, P7, ?_, ⟨_, _, t7⟩, HK.out.trans (K4.out.trans ((Kp.rfl' Q FB.out).trans k7))⟩, ?_⟩
                · show _ = _
                  rw [M4R.out.1]
                  exact GG
                · have c7 := ((t7.cells _ (Fr.refl _ _)).2.2 i hi).2
                  rw [if_pos rfl] at c7
                  obtain ⟨ax, cx, ex, _⟩ := hrx.out.form
                  rw [ex] at c7
                  have h2 : wantsLen (W6.setCell ⟨bt, 2 + i * 2, none⟩ (.slice (some ⟨g6, 0, none⟩) (hs.length + 1) c6)) bt i = xs.length := by unfold wantsLen; rw [c7]
                  rw [HWL.out, h2]
                  simp
              have hlen : hs.length ≤ 1000000 := by omega
              have hwl := HWLP.out
              clear lt3 lt4 ltB hM4 hu GG hlm hl4 hul K4 NB TB LT4 M4R M4L F4 F3 ok3 XB4 XB2 SZ
              go_upto_region 4 with fail
              clear hwl c13 z3 hW3 hW4 cw1 cw2 z2 hW2 x10 x11 c11 x0 x1 c0 c1 ch cw hkI hk hkc hcap1 hl4I h4 hle hch hcw hQb LT1 LT2 F1 F2 WROW HROW GO STOP HWS HHS HLL HNOW EHV EWV HLT HT HM HL HG HB HWLP HKK hn
              go_wp2_with fail
              have S0 := Lib.hid (SS.out _ (Fr.refl _ W4).drew)
              have SB := Lib.hid (SS.out WB (FB.out.mono fun _ _ _ => trivial))
              refine wp_region_held_drew (S := fun W => W.cell? ⟨w1.heap.size, 0, none⟩ = some (.int .i64 (x.c : Nat)) ∧ W.cell? ⟨w1.heap.size, 1, none⟩ = some (.int .i64 (x.m : Nat)) ∧ W.cell? ⟨bt, 1, none⟩ = some (.int .u64 ((l : Int) + 1))) (by kernel_rfl) S0.out (fun hHeld => ?_)
              refine wpAnyH_take (i := 0) (v := ?v0) rfl (by kernel_rfl) (by kernel_rfl) (by kernel_rfl) (fun _ _ _ h => h) (Or.inl ⟨by rfl, ?hy0⟩) hHeld ?rest0
              case hy0 => (intro w hSw; (try dsimp only at hSw); (try simp only [List.getElem_toArray, List.getElem_cons_zero, List.getElem_cons_succ]); go_simp; try with_reducible rfl)
              try simp only [List.getElem_toArray, List.getElem_cons_zero, List.getElem_cons_succ, Act.put, List.setIfInBounds_toArray, List.set_cons_zero, List.set_cons_succ]
              refine wpAnyH_take (i := 1) (v := ?v1) rfl (by kernel_rfl) (by kernel_rfl) (by kernel_rfl) (fun _ _ _ h => h) (Or.inl ⟨by rfl, ?hy1⟩) hHeld ?rest1
              case hy1 => (intro w hSw; (try dsimp only at hSw); (try simp only [List.getElem_toArray, List.getElem_cons_zero, List.getElem_cons_succ]); go_simp; try with_reducible rfl)
              try simp only [List.getElem_toArray, List.getElem_cons_zero, List.getElem_cons_succ, Act.put, List.setIfInBounds_toArray, List.set_cons_zero, List.set_cons_succ]
              refine wpAnyH_take (i := 2) (v := ?v2) rfl (by kernel_rfl) (by kernel_rfl) (by kernel_rfl) (fun _ _ _ h => h) (Or.inl ⟨by rfl, ?hy2⟩) hHeld ?rest2
              case hy2 => (intro w hSw; (try dsimp only at hSw); (try simp only [List.getElem_toArray, List.getElem_cons_zero, List.getElem_cons_succ]); go_simp; try with_reducible rfl)
              try simp only [List.getElem_toArray, List.getElem_cons_zero, List.getElem_cons_succ, Act.put, List.setIfInBounds_toArray, List.set_cons_zero, List.set_cons_succ]
              refine wpAnyH_take (i := 3) (v := ?v3) rfl (by kernel_rfl) (by kernel_rfl) (by kernel_rfl) (fun _ _ _ h => h) (Or.inl ⟨by rfl, ?hy3⟩) hHeld ?rest3
              case hy3 => (intro w hSw; (try dsimp only at hSw); (try simp only [List.getElem_toArray, List.getElem_cons_zero, List.getElem_cons_succ]); go_simp; try with_reducible rfl)
              try simp only [List.getElem_toArray, List.getElem_cons_zero, List.getElem_cons_succ, Act.put, List.setIfInBounds_toArray, List.set_cons_zero, List.set_cons_succ]
              refine wpAnyH_take (i := 5) (v := ?v4) rfl (by kernel_rfl) (by kernel_rfl) (by kernel_rfl) (fun _ _ _ h => h) (Or.inl ⟨by rfl, ?hy4⟩) hHeld ?rest4
              case hy4 => (intro w hSw; (try dsimp only at hSw); (try simp only [List.getElem_toArray, List.getElem_cons_zero, List.getElem_cons_succ]); go_simp; try with_reducible rfl)
              try simp only [List.getElem_toArray, List.getElem_cons_zero, List.getElem_cons_succ, Act.put, List.setIfInBounds_toArray, List.set_cons_zero, List.set_cons_succ]
              refine wpAnyH_take (i := 6) (v := ?v5) rfl (by kernel_rfl) (by kernel_rfl) (by kernel_rfl) (fun _ _ _ h => h) (Or.inl ⟨by rfl, ?hy5⟩) hHeld ?rest5
              case hy5 => (intro w hSw; (try dsimp only at hSw); (try simp only [List.getElem_toArray, List.getElem_cons_zero, List.getElem_cons_succ]); go_simp; try with_reducible rfl)
              try simp only [List.getElem_toArray, List.getElem_cons_zero, List.getElem_cons_succ, Act.put, List.setIfInBounds_toArray, List.set_cons_zero, List.set_cons_succ]
              refine wpAnyH_take (i := 7) (v := ?v6) rfl (by kernel_rfl) (by kernel_rfl) (by kernel_rfl) (fun _ _ _ h => h) (Or.inl ⟨by rfl, ?hy6⟩) hHeld ?rest6
              case hy6 => (intro w hSw; (try dsimp only at hSw); (try simp only [List.getElem_toArray, List.getElem_cons_zero, List.getElem_cons_succ]); go_simp; try with_reducible rfl)
              try simp only [List.getElem_toArray, List.getElem_cons_zero, List.getElem_cons_succ, Act.put, List.setIfInBounds_toArray, List.set_cons_zero, List.set_cons_succ]
              refine wpAnyH_take (i := 8) (v := ?v7) rfl (by kernel_rfl) (by kernel_rfl) (by kernel_rfl) (fun _ _ _ h => h) (Or.inl ⟨by rfl, ?hy7⟩) hHeld ?rest7
              case hy7 => (intro w hSw; (try dsimp only at hSw); (try simp only [List.getElem_toArray, List.getElem_cons_zero, List.getElem_cons_succ]); go_simp; try with_reducible rfl)
              try simp only [List.getElem_toArray, List.getElem_cons_zero, List.getElem_cons_succ, Act.put, List.setIfInBounds_toArray, List.set_cons_zero, List.set_cons_succ]
              refine wpAnyH_take (i := 9) (v := ?v8) rfl (by kernel_rfl) (by kernel_rfl) (by kernel_rfl) (fun _ _ _ h => h) (Or.inl ⟨by rfl, ?hy8⟩) hHeld ?rest8
              case hy8 => (intro w hSw; (try dsimp only at hSw); (try simp only [List.getElem_toArray, List.getElem_cons_zero, List.getElem_cons_succ]); go_simp; try with_reducible rfl)
              try simp only [List.getElem_toArray, List.getElem_cons_zero, List.getElem_cons_succ, Act.put, List.setIfInBounds_toArray, List.set_cons_zero, List.set_cons_succ]
              refine wpAnyH_take (i := 10) (v := ?v9) rfl (by kernel_rfl) (by kernel_rfl) (by kernel_rfl) (fun _ _ _ h => h) (Or.inl ⟨by rfl, ?hy9⟩) hHeld ?rest9
              case hy9 => (intro w hSw; (try dsimp only at hSw); (try simp only [List.getElem_toArray, List.getElem_cons_zero, List.getElem_cons_succ]); go_simp; try with_reducible rfl)
              try simp only [List.getElem_toArray, List.getElem_cons_zero, List.getElem_cons_succ, Act.put, List.setIfInBounds_toArray, List.set_cons_zero, List.set_cons_succ]
              refine wpAnyH_take (i := 11) (v := ?v10) rfl (by kernel_rfl) (by kernel_rfl) (by kernel_rfl) (fun _ _ _ h => h) (Or.inl ⟨by rfl, ?hy10⟩) hHeld ?rest10
              case hy10 => (intro w hSw; (try dsimp only at hSw); (try simp only [List.getElem_toArray, List.getElem_cons_zero, List.getElem_cons_succ]); go_simp; try with_reducible rfl)
              try simp only [List.getElem_toArray, List.getElem_cons_zero, List.getElem_cons_succ, Act.put, List.setIfInBounds_toArray, List.set_cons_zero, List.set_cons_succ]
              refine wpAnyH_take (i := 12) (v := ?v11) rfl (by kernel_rfl) (by kernel_rfl) (by kernel_rfl) (fun _ _ _ h => h) (Or.inl ⟨by rfl, ?hy11⟩) hHeld ?rest11
              case hy11 => (intro w hSw; (try dsimp only at hSw); (try simp only [List.getElem_toArray, List.getElem_cons_zero, List.getElem_cons_succ]); go_simp; try with_reducible rfl)
              try simp only [List.getElem_toArray, List.getElem_cons_zero, List.getElem_cons_succ, Act.put, List.setIfInBounds_toArray, List.set_cons_zero, List.set_cons_succ]
              refine wpAnyH_take (i := 13) (v := ?v12) rfl (by kernel_rfl) (by kernel_rfl) (by kernel_rfl) (fun _ _ _ h => h) (Or.inl ⟨by rfl, ?hy12⟩) hHeld ?rest12
              case hy12 => (intro w hSw; (try dsimp only at hSw); (try simp only [List.getElem_toArray, List.getElem_cons_zero, List.getElem_cons_succ]); go_simp; try with_reducible rfl)
              try simp only [List.getElem_toArray, List.getElem_cons_zero, List.getElem_cons_succ, Act.put, List.setIfInBounds_toArray, List.set_cons_zero, List.set_cons_succ]
              refine wpAnyH_ready (rs := [4, 14]) (by kernel_rfl) (by simp) ?_
              refine AllReadyH.cons rfl (fun K hK => ?_) ?_
              · (try simp only [List.getElem_toArray, List.getElem_cons_zero, List.getElem_cons_succ])
                go_simp
                refine hK.out _ _ S0.out (fun hHeld => ?_)
                clear hK K
                refine wpAnyH_ready (rs := [14]) (by kernel_rfl) (by simp) ?_
                refine AllReadyH.cons rfl (fun K hK => ?_) ?_
                · (try simp only [List.getElem_toArray, List.getElem_cons_zero, List.getElem_cons_succ])
                  go_simp
                  (with_reducible refine (UC.out _ (Fr.refl _ W4).drew).mono ?_)
                  rintro e w9 ⟨rfl, rfl⟩
                  (try simp only [Act.put, List.setIfInBounds_toArray, List.set_cons_zero, List.set_cons_succ])
                  refine hK.out _ _ S0.out (fun hHeld => ?_)
                  clear hK K
                  refine wpAnyH_take (i := 15) (v := ?v13) rfl (by kernel_rfl) (by kernel_rfl) (by kernel_rfl) (fun _ _ _ h => h) (Or.inl ⟨by rfl, ?hy13⟩) hHeld ?rest13
                  case hy13 => (intro w hSw; (try dsimp only at hSw); (try simp only [List.getElem_toArray, List.getElem_cons_zero, List.getElem_cons_succ]); go_simp; try with_reducible rfl)
                  try simp only [List.getElem_toArray, List.getElem_cons_zero, List.getElem_cons_succ, Act.put, List.setIfInBounds_toArray, List.set_cons_zero, List.set_cons_succ]
                  refine wpAnyH_ready (rs := [16]) (by kernel_rfl) (by simp) ?_
                  refine AllReadyH.cons rfl (fun K hK => ?_) ?_
                  · (try simp only [List.getElem_toArray, List.getElem_cons_zero, List.getElem_cons_succ])
                    go_simp
                    refine hK.out _ _ SB.out (fun hHeld => ?_)
                    clear hK K
                    refine wpAnyH_ready (rs := [17]) (by kernel_rfl) (by simp) ?_
                    refine AllReadyH.cons rfl (fun K hK => ?_) ?_
                    · refine step_append_ho WB rfl _ _ rfl (.slice ah hs.length caph) hs rfl OB W4.heap.size rfl ⟨x.c, x.m, l + 1, u⟩ YB hlen ?_
                      intro g6 c6 W6 O6 G6 N6
                      obtain ⟨c66, z66, s6, s7⟩ := CZ.out W6 G6.out
                      have S6 := Lib.hid s6
                      have S7 := Lib.hid (s7 (.slice (some ⟨g6, 0, none⟩) (hs.length + 1) c6))
                      clear s6 s7
                      (try simp only [Act.put, List.setIfInBounds_toArray, List.set_cons_zero, List.set_cons_succ])
                      refine hK.out _ _ S6.out (fun hHeld => ?_)
                      clear hK K
                      refine wpAnyH_take (i := 18) (v := ?v14) rfl (by kernel_rfl) (by kernel_rfl) (by kernel_rfl) (fun _ _ _ h => h) (Or.inl ⟨by rfl, ?hy14⟩) hHeld ?rest14
                      case hy14 => (intro w hSw; (try dsimp only at hSw); (try simp only [List.getElem_toArray, List.getElem_cons_zero, List.getElem_cons_succ]); go_simp; try with_reducible rfl)
                      try simp only [List.getElem_toArray, List.getElem_cons_zero, List.getElem_cons_succ, Act.put, List.setIfInBounds_toArray, List.set_cons_zero, List.set_cons_succ]
                      refine wpAnyH_take (i := 19) (v := ?v15) rfl (by kernel_rfl) (by kernel_rfl) (by kernel_rfl) (fun _ _ _ h => h) (Or.inl ⟨by rfl, ?hy15⟩) hHeld ?rest15
                      case hy15 => (intro w hSw; (try dsimp only at hSw); (try simp only [List.getElem_toArray, List.getElem_cons_zero, List.getElem_cons_succ]); go_simp; try with_reducible rfl)
                      try simp only [List.getElem_toArray, List.getElem_cons_zero, List.getElem_cons_succ, Act.put, List.setIfInBounds_toArray, List.set_cons_zero, List.set_cons_succ]
                      refine wpAnyH_ready (rs := [20]) (by kernel_rfl) (by simp) ?_
                      refine AllReadyH.cons rfl (fun K hK => ?_) ?_
                      · (try simp only [List.getElem_toArray, List.getElem_cons_zero, List.getElem_cons_succ])
                        go_simp
                        refine hK.out _ _ S7.out (fun hHeld => ?_)
                        clear hK K
                        refine wpAnyH_done (by kernel_rfl) ?_ _
                        go_wp2
                        go_roundw
                        case rel => exact (FIN.out g6 c6 W6 O6.out G6.out N6.out).1
                        case measure => exact (FIN.out g6 c6 W6 O6.out G6.out N6.out).2
                      exact AllReadyH.nil
                    exact AllReadyH.nil
                  exact AllReadyH.nil
                exact AllReadyH.nil
              refine AllReadyH.cons rfl (fun K hK => ?_) ?_
              · (try simp only [List.getElem_toArray, List.getElem_cons_zero, List.getElem_cons_succ])
                go_simp
                (with_reducible refine (UC.out _ (Fr.refl _ W4).drew).mono ?_)
                rintro e w9 ⟨rfl, rfl⟩
                (try simp only [Act.put, List.setIfInBounds_toArray, List.set_cons_zero, List.set_cons_succ])
                refine hK.out _ _ S0.out (fun hHeld => ?_)
                clear hK K
                refine wpAnyH_take (i := 15) (v := ?v16) rfl (by kernel_rfl) (by kernel_rfl) (by kernel_rfl) (fun _ _ _ h => h) (Or.inl ⟨by rfl, ?hy16⟩) hHeld ?rest16
                case hy16 => (intro w hSw; (try dsimp only at hSw); (try simp only [List.getElem_toArray, List.getElem_cons_zero, List.getElem_cons_succ]); go_simp; try with_reducible rfl)
                try simp only [List.getElem_toArray, List.getElem_cons_zero, List.getElem_cons_succ, Act.put, List.setIfInBounds_toArray, List.set_cons_zero, List.set_cons_succ]
                refine wpAnyH_ready (rs := [4, 16]) (by kernel_rfl) (by simp) ?_
                refine AllReadyH.cons rfl (fun K hK => ?_) ?_
                · (try simp only [List.getElem_toArray, List.getElem_cons_zero, List.getElem_cons_succ])
                  go_simp
                  refine hK.out _ _ S0.out (fun hHeld => ?_)
                  clear hK K
                  refine wpAnyH_ready (rs := [16]) (by kernel_rfl) (by simp) ?_
                  refine AllReadyH.cons rfl (fun K hK => ?_) ?_
                  · (try simp only [List.getElem_toArray, List.getElem_cons_zero, List.getElem_cons_succ])
                    go_simp
                    refine hK.out _ _ SB.out (fun hHeld => ?_)
                    clear hK K
                    refine wpAnyH_ready (rs := [17]) (by kernel_rfl) (by simp) ?_
                    refine AllReadyH.cons rfl (fun K hK => ?_) ?_
                    · refine step_append_ho WB rfl _ _ rfl (.slice ah hs.length caph) hs rfl OB W4.heap.size rfl ⟨x.c, x.m, l + 1, u⟩ YB hlen ?_
                      intro g6 c6 W6 O6 G6 N6
                      obtain ⟨c66, z66, s6, s7⟩ := CZ.out W6 G6.out
                      have S6 := Lib.hid s6
                      have S7 := Lib.hid (s7 (.slice (some ⟨g6, 0, none⟩) (hs.length + 1) c6))
                      clear s6 s7
                      (try simp only [Act.put, List.setIfInBounds_toArray, List.set_cons_zero, List.set_cons_succ])
                      refine hK.out _ _ S6.out (fun hHeld => ?_)
                      clear hK K
                      refine wpAnyH_take (i := 18) (v := ?v17) rfl (by kernel_rfl) (by kernel_rfl) (by kernel_rfl) (fun _ _ _ h => h) (Or.inl ⟨by rfl, ?hy17⟩) hHeld ?rest17
                      case hy17 => (intro w hSw; (try dsimp only at hSw); (try simp only [List.getElem_toArray, List.getElem_cons_zero, List.getElem_cons_succ]); go_simp; try with_reducible rfl)
                      try simp only [List.getElem_toArray, List.getElem_cons_zero, List.getElem_cons_succ, Act.put, List.setIfInBounds_toArray, List.set_cons_zero, List.set_cons_succ]
                      refine wpAnyH_take (i := 19) (v := ?v18) rfl (by kernel_rfl) (by kernel_rfl) (by kernel_rfl) (fun _ _ _ h => h) (Or.inl ⟨by rfl, ?hy18⟩) hHeld ?rest18
                      case hy18 => (intro w hSw; (try dsimp only at hSw); (try simp only [List.getElem_toArray, List.getElem_cons_zero, List.getElem_cons_succ]); go_simp; try with_reducible rfl)
                      try simp only [List.getElem_toArray, List.getElem_cons_zero, List.getElem_cons_succ, Act.put, List.setIfInBounds_toArray, List.set_cons_zero, List.set_cons_succ]
                      refine wpAnyH_ready (rs := [20]) (by kernel_rfl) (by simp) ?_
                      refine AllReadyH.cons rfl (fun K hK => ?_) ?_
                      · (try simp only [List.getElem_toArray, List.getElem_cons_zero, List.getElem_cons_succ])
                        go_simp
                        refine hK.out _ _ S7.out (fun hHeld => ?_)
                        clear hK K
                        refine wpAnyH_done (by kernel_rfl) ?_ _
                        go_wp2
                        go_roundw
                        case rel => exact (FIN.out g6 c6 W6 O6.out G6.out N6.out).1
                        case measure => exact (FIN.out g6 c6 W6 O6.out G6.out N6.out).2
                      exact AllReadyH.nil
                    exact AllReadyH.nil
                  exact AllReadyH.nil
                refine AllReadyH.cons rfl (fun K hK => ?_) ?_
                · (try simp only [List.getElem_toArray, List.getElem_cons_zero, List.getElem_cons_succ])
                  go_simp
                  refine hK.out _ _ SB.out (fun hHeld => ?_)
                  clear hK K
                  refine wpAnyH_ready (rs := [4]) (by kernel_rfl) (by simp) ?_
                  refine AllReadyH.cons rfl (fun K hK => ?_) ?_
                  · (try simp only [List.getElem_toArray, List.getElem_cons_zero, List.getElem_cons_succ])
                    go_simp
                    refine hK.out _ _ SB.out (fun hHeld => ?_)
                    clear hK K
                    refine wpAnyH_ready (rs := [17]) (by kernel_rfl) (by simp) ?_
                    refine AllReadyH.cons rfl (fun K hK => ?_) ?_
                    · refine step_append_ho WB rfl _ _ rfl (.slice ah hs.length caph) hs rfl OB W4.heap.size rfl ⟨x.c, x.m, l + 1, u⟩ YB hlen ?_
                      intro g6 c6 W6 O6 G6 N6
                      obtain ⟨c66, z66, s6, s7⟩ := CZ.out W6 G6.out
                      have S6 := Lib.hid s6
                      have S7 := Lib.hid (s7 (.slice (some ⟨g6, 0, none⟩) (hs.length + 1) c6))
                      clear s6 s7
                      (try simp only [Act.put, List.setIfInBounds_toArray, List.set_cons_zero, List.set_cons_succ])
                      refine hK.out _ _ S6.out (fun hHeld => ?_)
                      clear hK K
                      refine wpAnyH_take (i := 18) (v := ?v19) rfl (by kernel_rfl) (by kernel_rfl) (by kernel_rfl) (fun _ _ _ h => h) (Or.inl ⟨by rfl, ?hy19⟩) hHeld ?rest19
                      case hy19 => (intro w hSw; (try dsimp only at hSw); (try simp only [List.getElem_toArray, List.getElem_cons_zero, List.getElem_cons_succ]); go_simp; try with_reducible rfl)
                      try simp only [List.getElem_toArray, List.getElem_cons_zero, List.getElem_cons_succ, Act.put, List.setIfInBounds_toArray, List.set_cons_zero, List.set_cons_succ]
                      refine wpAnyH_take (i := 19) (v := ?v20) rfl (by kernel_rfl) (by kernel_rfl) (by kernel_rfl) (fun _ _ _ h => h) (Or.inl ⟨by rfl, ?hy20⟩) hHeld ?rest20
                      case hy20 => (intro w hSw; (try dsimp only at hSw); (try simp only [List.getElem_toArray, List.getElem_cons_zero, List.getElem_cons_succ]); go_simp; try with_reducible rfl)
                      try simp only [List.getElem_toArray, List.getElem_cons_zero, List.getElem_cons_succ, Act.put, List.setIfInBounds_toArray, List.set_cons_zero, List.set_cons_succ]
                      refine wpAnyH_ready (rs := [20]) (by kernel_rfl) (by simp) ?_
                      refine AllReadyH.cons rfl (fun K hK => ?_) ?_
                      · (try simp only [List.getElem_toArray, List.getElem_cons_zero, List.getElem_cons_succ])
                        go_simp
                        refine hK.out _ _ S7.out (fun hHeld => ?_)
                        clear hK K
                        refine wpAnyH_done (by kernel_rfl) ?_ _
                        go_wp2
                        go_roundw
                        case rel => exact (FIN.out g6 c6 W6 O6.out G6.out N6.out).1
                        case measure => exact (FIN.out g6 c6 W6 O6.out G6.out N6.out).2
                      exact AllReadyH.nil
                    exact AllReadyH.nil
                  exact AllReadyH.nil
                exact AllReadyH.nil
              exact AllReadyH.nil
          · have hlI : decide ((l : Int) < 18446744073709551615) = false := by rw [topM_eq] at hlm; simp; omega
            go_wp2_with fail
            (with_reducible refine BC.out.mono ?_)
            rintro e w1 ⟨rfl, f1⟩
            have F1 := Lib.hid f1
            have c11 : w1.cell? ⟨bt, 1, none⟩ = some (.int .u64 (l : Nat)) := f1.cell (fun _ _ => trivial) c1
            clear f1 BC
            go_wp2_with fail
            go_end0
            rw [← STOP.out (fun y ys e hh => hlm hh.2.2)]
            exact ⟨rfl, Q, HT.out.tt F1.out, HK.out.trans (Kp.rfl' _ F1.out)⟩
      · have hl4I : decide (hs.length < 4) = false := by simp; omega
        go_wp2_with fail
        go_end0
        rw [← STOP.out (fun y ys e hh => hl4 hh.1)]
        exact ⟨rfl, Q, HT.out, HK.out⟩
end Go.Proofs.YtlolfcnfcgegdaaGreat
/- The locks' table: who holds by a token; Release. -/
namespace Go.Proofs.YtlolfcnfcgegdaaGreat
open Go.RowKit
set_option linter.unusedVariables false
set_option linter.unusedSimpArgs false

theorem idxH_hI (hs : List Ho) (c : Nat) : idxH (fun h => decide (h.c = c)) hs = match hI hs c with | some i => ((i : Nat) : Int) | none => -1 := rfl
theorem heldM_bad {L : Lk} {c r t : Nat} (h : rightM c r ≠ 0) : heldM L c r t = (0, rightM c r) := by unfold heldM; rw [if_pos h]
theorem rightM_r {c r : Nat} (h : rightM c r = 0) : c < 16 ∧ r < 4 := by
  unfold rightM at h
  split at h
  · cases h
  · split at h
    · cases h
    · omega
theorem heldM_none {L : Lk} {c r t : Nat} (h : rightM c r = 0) (hi : hI (L.rg r).hs c = none) : heldM L c r t = (0, 92) := by
  unfold heldM; rw [if_neg (fun e => e h), hi]
theorem heldM_some {L : Lk} {c r t k : Nat} (h : rightM c r = 0) (hi : hI (L.rg r).hs c = some k) (hk : k < (L.rg r).hs.length) : heldM L c r t = if ((L.rg r).hs[k]).t = t then (k, 0) else (0, 92) := by
  unfold heldM; rw [if_neg (fun e => e h), hi]
  show (if ((L.rg r).hs.getD k default).t = t then _ else _) = _
  rw [List.getD_eq_getElem?_getD, List.getElem?_eq_getElem hk]; rfl
set_option maxRecDepth 100000 in
theorem held_bad (w : World) (bt c r t : Nat) (h : rightM c r ≠ 0) : Calls Tryz.prog 93 #[.pointer (some ⟨bt, 0, none⟩), .int .i64 (c : Nat), .int .i64 (r : Nat), .int .u64 (t : Nat)] w fun e w' => e = .returned (.tuple #[.pointer none, .int .i64 (rightM c r : Nat)]) ∧ w = w' := by
  have R := Lib.hid (right_calls w c r)
  generalize rightM c r = q at *
  have hq : ((q : Int) != 0) = true := by simp; omega
  clear h
  go_enter Tryz.func93, Tryz.ntmps93
  go_wp2_with fail
  (with_reducible refine R.out.mono ?_)
  rintro e w1 ⟨rfl, rfl⟩
  go_wp2
  go_ret2
  exact ⟨rfl, rfl⟩
set_option maxRecDepth 100000 in
theorem held_none {n : Nat} {P : Nat → Prop} {hv wv : Nat → Value} (w : World) (bt c r t : Nat) (L : Lk) (h : LT n P w bt hv wv L) (hr : rightM c r = 0) (hi : hI (L.rg r).hs c = none) : Calls Tryz.prog 93 #[.pointer (some ⟨bt, 0, none⟩), .int .i64 (c : Nat), .int .i64 (r : Nat), .int .u64 (t : Nat)] w fun e w' => e = .returned (.tuple #[.pointer none, .int .i64 92]) ∧ Fr (fun _ _ => True) w w' := by
  have R := Lib.hid (right_calls w c r)
  obtain ⟨_, hr4⟩ := rightM_r hr
  have hb : decide ((r : Int) < 4) = true := by simp; omega
  rw [hr] at R
  have e0 : w.cell? ⟨bt, 2 + r * 2, none⟩ = some (hv r) := (h.cells w (Fr.refl _ _)).2.2 r hr4 |>.1
  have hl : (L.rg r).hs.length ≤ 1000000 := by have := (h.ok.rg r).h4; omega
  have HC := Lib.hid (hold_calls w bt (2 + r * 2) _ (L.rg r).hs c e0 (h.hat hr4) hl)
  rw [idxH_hI, hi] at HC
  clear h hr hi hl
  go_enter Tryz.func93, Tryz.ntmps93
  go_wp2_with fail
  (with_reducible refine R.out.mono ?_)
  rintro e w1 ⟨rfl, rfl⟩
  go_wp2_with fail
  (with_reducible refine HC.out.mono ?_)
  rintro e w1 ⟨rfl, f1⟩
  have F1 := Lib.hid f1
  clear f1 HC R
  go_wp2
  go_ret2
  exact ⟨rfl, F1.out⟩
set_option maxRecDepth 100000 in
theorem held_some {n : Nat} {P : Nat → Prop} {hv wv : Nat → Value} (w : World) (bt c r t k : Nat) (L : Lk) (h : LT n P w bt hv wv L) (hr : rightM c r = 0) (hi : hI (L.rg r).hs c = some k) (hk : k < (L.rg r).hs.length) :
    Calls Tryz.prog 93 #[.pointer (some ⟨bt, 0, none⟩), .int .i64 (c : Nat), .int .i64 (r : Nat), .int .u64 (t : Nat)] w fun e w' => Fr (fun _ _ => True) w w' ∧ ∃ g cap, hv r = .slice (some ⟨g, 0, none⟩) (L.rg r).hs.length cap ∧
      e = .returned (if ((L.rg r).hs[k]).t = t then .tuple #[.pointer (some ⟨g, k * 4, none⟩), .int .i64 0] else .tuple #[.pointer none, .int .i64 92]) := by
  have R := Lib.hid (right_calls w c r)
  obtain ⟨_, hr4⟩ := rightM_r hr
  have hb : decide ((r : Int) < 4) = true := by simp; omega
  rw [hr] at R
  have e0 : w.cell? ⟨bt, 2 + r * 2, none⟩ = some (hv r) := (h.cells w (Fr.refl _ _)).2.2 r hr4 |>.1
  have h4 := (h.ok.rg r).h4
  have hat := h.hat hr4
  have hown := h.hr r hr4
  obtain ⟨g, cap, hg⟩ : ∃ g cap, hv r = .slice (some ⟨g, 0, none⟩) (L.rg r).hs.length cap := by
    rcases hown.2 with ⟨_, hz⟩ | ⟨g, cap, cur, hv', _⟩
    · exfalso; omega
    · exact ⟨g, cap, hv'⟩
  have HC := Lib.hid (hold_calls w bt (2 + r * 2) _ (L.rg r).hs c e0 hat (by omega))
  rw [idxH_hI, hi] at HC
  rw [hg] at hat e0
  obtain ⟨b, off, o, hbo, _, _, hcs⟩ := hat.spot (by omega)
  cases hbo
  have TK := Lib.hid (hcs k hk 2 _ rfl)
  rw [hg]
  have hkI : (k : Int) < ((L.rg r).hs.length : Int) := by omega
  rw [Nat.zero_add] at TK
  obtain ⟨tk, htk⟩ : ∃ tk, tk = ((L.rg r).hs[k]).t := ⟨_, rfl⟩
  rw [← htk] at TK ⊢
  clear h hr hi hown hat hcs htk h4 hk
  generalize (L.rg r).hs.length = m at *
  have hkn : decide ((k : Int) < 0) = false := by simp
  by_cases ht : tk = t
  · subst ht
    go_enter Tryz.func93, Tryz.ntmps93
    go_wp2_with fail
    (with_reducible refine R.out.mono ?_)
    rintro e w1 ⟨rfl, rfl⟩
    go_wp2_with fail
    (with_reducible refine HC.out.mono ?_)
    rintro e w1 ⟨rfl, f1⟩
    have F1 := Lib.hid f1
    have E0 := f1.cell (fun _ _ => trivial) e0
    have TK1 := f1.cell (fun _ _ => trivial) TK.out
    clear f1 HC R
    go_wp2
    go_ret2
    exact ⟨F1.out, rfl⟩
  · go_enter Tryz.func93, Tryz.ntmps93
    go_wp2_with fail
    (with_reducible refine R.out.mono ?_)
    rintro e w1 ⟨rfl, rfl⟩
    go_wp2_with fail
    (with_reducible refine HC.out.mono ?_)
    rintro e w1 ⟨rfl, f1⟩
    have F1 := Lib.hid f1
    have E0 := f1.cell (fun _ _ => trivial) e0
    have TK1 := f1.cell (fun _ _ => trivial) TK.out
    have hti : ((tk : Int) != t) = true := by simp; omega
    clear f1 HC R
    go_wp2
    go_ret2
    exact ⟨F1.out, rfl⟩
end Go.Proofs.YtlolfcnfcgegdaaGreat
/- The locks' table: Release. -/
namespace Go.Proofs.YtlolfcnfcgegdaaGreat
open Go.RowKit
set_option linter.unusedVariables false
set_option linter.unusedSimpArgs false

theorem flat_take {α : Type} {enc : α → List Value} {k : Nat} (hk : ∀ x, (enc x).length = k) : ∀ (xs : List α) (i : Nat), (xs.flatMap enc).take (i * k) = (xs.take i).flatMap enc
  | [], i => by simp
  | x :: xs, 0 => by simp
  | x :: xs, i + 1 => by
    have e : (i + 1) * k = (enc x).length + i * k := by rw [hk, Nat.add_mul, Nat.one_mul, Nat.add_comm]
    rw [List.flatMap_cons, List.take_succ_cons, List.flatMap_cons, e, List.take_append, List.take_of_length_le (by omega), Nat.add_sub_cancel_left, flat_take hk xs i]
theorem flat_drop {α : Type} {enc : α → List Value} {k : Nat} (hk : ∀ x, (enc x).length = k) : ∀ (xs : List α) (i : Nat), (xs.flatMap enc).drop (i * k) = (xs.drop i).flatMap enc
  | [], i => by simp
  | x :: xs, 0 => by simp
  | x :: xs, i + 1 => by
    have e : (i + 1) * k = (enc x).length + i * k := by rw [hk, Nat.add_mul, Nat.one_mul, Nat.add_comm]
    rw [List.flatMap_cons, List.drop_succ_cons, e, List.drop_append, List.drop_of_length_le (by omega), Nat.add_sub_cancel_left, flat_drop hk xs i, List.nil_append]
theorem flat_erase {α : Type} {enc : α → List Value} {k : Nat} (hk : ∀ x, (enc x).length = k) (xs : List α) (i : Nat) : (xs.flatMap enc).take (i * k) ++ (xs.flatMap enc).drop ((i + 1) * k) = (xs.eraseIdx i).flatMap enc := by
  rw [flat_take hk, flat_drop hk, List.eraseIdx_eq_take_drop_succ, List.flatMap_append]
theorem len_erase {α : Type} (xs : List α) {i : Nat} (h : i < xs.length) : i + (xs.length - (i + 1)) = (xs.eraseIdx i).length := by
  rw [List.length_eraseIdx, if_pos h]; omega
set_option maxRecDepth 100000 in
theorem release_bad {e0 : Nat} (w : World) (bt c r t : Nat) (h0 : e0 ≠ 0) (HC : Hid (Calls Tryz.prog 93 #[.pointer (some ⟨bt, 0, none⟩), .int .i64 (c : Nat), .int .i64 (r : Nat), .int .u64 (t : Nat)] w fun e w' => e = .returned (.tuple #[.pointer none, .int .i64 (e0 : Nat)]) ∧ Fr (fun _ _ => True) w w')) :
    Calls Tryz.prog 66 #[.pointer (some ⟨bt, 0, none⟩), .int .i64 (c : Nat), .int .i64 (r : Nat), .int .u64 (t : Nat)] w fun e w' => e = .returned (.int .i64 (e0 : Nat)) ∧ Fr (fun _ _ => True) w w' := by
  have hq : ((e0 : Int) != 0) = true := by simp; omega
  clear h0
  go_enter Tryz.func66, Tryz.ntmps66
  go_wp2_with fail
  (with_reducible refine HC.out.mono ?_)
  rintro e w1 ⟨rfl, f1⟩
  have F1 := Lib.hid f1
  clear f1 HC
  go_wp2
  go_ret
  exact ⟨rfl, F1.out⟩
set_option maxRecDepth 100000 in
set_option maxHeartbeats 1000000 in
theorem release_good {n : Nat} {P : Nat → Prop} {hv wv : Nat → Value} (w : World) (bt c r t k : Nat) (L : Lk) (h : LT n P w bt hv wv L) (hn : n ≤ w.heap.size) (hr : rightM c r = 0) (hi : hI (L.rg r).hs c = some k) (hk : k < (L.rg r).hs.length) (ht : ((L.rg r).hs[k]).t = t) :
    Calls Tryz.prog 66 #[.pointer (some ⟨bt, 0, none⟩), .int .i64 (c : Nat), .int .i64 (r : Nat), .int .u64 (t : Nat)] w fun e w' => e = .returned (.int .i64 0) ∧ ∃ P', LTE n P' w' bt ((L.put r ⟨(L.rg r).hs.eraseIdx k, (L.rg r).ws⟩).give r) ∧ Kp P P' w w' := by
  have HC := Lib.hid (held_some w bt c r t k L h hr hi hk)
  simp only [if_pos ht] at HC
  obtain ⟨_, hr4⟩ := rightM_r hr
  have hb : decide ((r : Int) < 4) = true := by simp; omega
  have h4 := (h.ok.rg r).h4
  have HT := Lib.hid h
  have HI := Lib.hid hi
  have HK := Lib.hid hk
  have HN := Lib.hid hn
  have hk1 : IntKind.i64.wrap ((k : Int) + 1) = (k : Int) + 1 := by rw [IntKind.wrap_i64]; omega
  have H4 := Lib.hid h4
  clear h hi hr hk ht hn h4
  go_enter Tryz.func66, Tryz.ntmps66
  go_wp2_with fail
  (with_reducible refine HC.out.mono ?_)
  rintro e w1 ⟨f1, g, cap, hg, rfl⟩
  have F1 := Lib.hid f1
  have T1 := Lib.hid (HT.out.tt f1)
  have e1 : w1.cell? ⟨bt, 2 + r * 2, none⟩ = some (hv r) := (T1.out.cells w1 (Fr.refl _ _)).2.2 r hr4 |>.1
  have HD := Lib.hid (hold_calls w1 bt (2 + r * 2) _ (L.rg r).hs c e1 (T1.out.hat hr4) (by have := H4.out; omega))
  rw [idxH_hI, HI.out] at HD
  clear f1 HC
  go_wp2_with fail
  (with_reducible refine HD.out.mono ?_)
  rintro e w2 ⟨rfl, f2⟩
  have F2 := Lib.hid f2
  have T2 := Lib.hid (T1.out.tt f2)
  have e2 : w2.cell? ⟨bt, 2 + r * 2, none⟩ = some (hv r) := (T2.out.cells w2 (Fr.refl _ _)).2.2 r hr4 |>.1
  have HX := Lib.hid (del_ho_any w2 0 (hv r) (L.rg r).hs.length k (k + 1) k (k + 1) rfl rfl _ (T2.out.hr r hr4) (fun u hu => by
    obtain ⟨x, _, hx⟩ := List.mem_flatMap.1 hu
    exact encH_one x u hx) (by omega) (by have := HK.out; omega) (by have := H4.out; omega))
  rw [flat_erase encH_len, len_erase _ HK.out] at HX
  clear f2 HD hg
  go_wp2_with fail
  (with_reducible refine HX.out.mono ?_)
  rintro e w3 ⟨⟨v3, rfl, o3, b3⟩, f3⟩
  obtain ⟨a3, c3, rfl⟩ := own_form o3
  have hsz : n ≤ w2.heap.size := Nat.le_trans HN.out (Nat.le_trans F1.out.size F2.out.size)
  obtain ⟨e3, z3, P3, T3, K3⟩ := T2.out.setH hr4 _ ((L.rg r).hs.eraseIdx k) hsz f3 o3 (.inl b3) ((T2.out.ok.rg r).sub (List.eraseIdx_sublist _ _) (List.Sublist.refl _))
  have KA := Lib.hid ((Kp.rfl' P (F1.out.trans F2.out)).trans K3)
  have GC := Lib.hid (give_calls (n := n) _ bt r _ ⟨_, _, T3⟩ hr4 (Nat.le_trans hsz ((K3.low T2.out.lo).size)))
  clear f3 o3 b3 K3 T3 HX
  go_wp2_with fail
  (with_reducible refine GC.out.mono ?_)
  rintro e w4 ⟨rfl, P4, T4, K4⟩
  have HP := Lib.hid T4
  have HQ := Lib.hid K4
  clear T4 K4 GC
  go_wp2
  go_ret
  exact ⟨rfl, P4, HP.out, KA.out.trans HQ.out⟩
theorem release_calls {n : Nat} {P : Nat → Prop} (w : World) (bt c r t : Nat) (L : Lk) (h : LTE n P w bt L) (hn : n ≤ w.heap.size) :
    Calls Tryz.prog 66 #[.pointer (some ⟨bt, 0, none⟩), .int .i64 (c : Nat), .int .i64 (r : Nat), .int .u64 (t : Nat)] w fun e w' => e = .returned (.int .i64 ((releaseM L c r t).1 : Nat)) ∧ ∃ P', LTE n P' w' bt (releaseM L c r t).2 ∧ Kp P P' w w' := by
  obtain ⟨hv, wv, h⟩ := h
  have bad : ∀ e0, heldM L c r t = (0, e0) → e0 ≠ 0 → Calls Tryz.prog 93 #[.pointer (some ⟨bt, 0, none⟩), .int .i64 (c : Nat), .int .i64 (r : Nat), .int .u64 (t : Nat)] w (fun e w' => e = .returned (.tuple #[.pointer none, .int .i64 (e0 : Nat)]) ∧ Fr (fun _ _ => True) w w') →
      Calls Tryz.prog 66 #[.pointer (some ⟨bt, 0, none⟩), .int .i64 (c : Nat), .int .i64 (r : Nat), .int .u64 (t : Nat)] w fun e w' => e = .returned (.int .i64 ((releaseM L c r t).1 : Nat)) ∧ ∃ P', LTE n P' w' bt (releaseM L c r t).2 ∧ Kp P P' w w' := fun e0 e h0 hc => by
    have er : releaseM L c r t = (e0, L) := by unfold releaseM; rw [e, if_pos h0]
    rw [er]
    exact (release_bad w bt c r t h0 (Lib.hid hc)).mono fun e w' ⟨h1, h2⟩ => ⟨h1, P, ⟨hv, wv, h.tt h2⟩, Kp.rfl' _ h2⟩
  by_cases hr : rightM c r = 0
  · cases hi : hI (L.rg r).hs c with
    | none => exact bad 92 (heldM_none hr hi) (by decide) (held_none w bt c r t L h hr hi)
    | some k =>
      obtain ⟨hk, _⟩ := hI_some hi
      by_cases ht : ((L.rg r).hs[k]).t = t
      · have er : releaseM L c r t = (0, (L.put r ⟨(L.rg r).hs.eraseIdx k, (L.rg r).ws⟩).give r) := by
          unfold releaseM; rw [heldM_some hr hi hk, if_pos ht, if_neg (fun q => q rfl)]
        rw [er]
        exact release_good w bt c r t k L h hn hr hi hk ht
      · refine bad 92 (by rw [heldM_some hr hi hk, if_neg ht]) (by decide) ((held_some w bt c r t k L h hr hi hk).mono fun e w' ⟨h1, g, cap, _, h2⟩ => ⟨by rw [h2, if_neg ht]; rfl, h1⟩)
  · exact bad _ (heldM_bad hr) hr ((held_bad w bt c r t hr).mono fun e w' ⟨h1, h2⟩ => ⟨h1, h2 ▸ Fr.refl _ _⟩)
end Go.Proofs.YtlolfcnfcgegdaaGreat
