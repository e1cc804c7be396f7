/- Texts of the proofs, part 19: what the functions that they reach do, walked; no conditions beyond those that each states. -/
import Derived.ArgAppend
import Derived.Deep.MidRow
import Derived.Test.YtlolfcnfcgegdaaGreatZz710978f346
set_option linter.unusedVariables false
set_option linter.unusedSimpArgs false
/- The locks' table: Clip of a row of wants. -/
namespace Go.Proofs.YtlolfcnfcgegdaaGreat
open Go.RowKit
set_option linter.unusedVariables false
set_option linter.unusedSimpArgs false

set_option maxRecDepth 100000 in
theorem clip_wa_any (w : World) (ad : Addr) (n c : Nat) (h : n ≤ c) : Calls Tryz.prog 120 #[.slice (some ad) n c] w fun e w' => e = .returned (.slice (some ad) n n) ∧ w = w' := by
  go_enter Tryz.func120, Tryz.ntmps120
  go_wp2
  all_goals (go_ret; exact ⟨rfl, rfl⟩)
/-- A row that is clipped: its address, its length twice. -/
theorem clip_wa {K : Nat → Obj → Prop} (w : World) (v : Value) (ws : List Wa) (h : RowsAt K w v 2 encW ws) :
    Calls Tryz.prog 120 #[v] w fun e w' => (∃ a, e = .returned (.slice a ws.length ws.length) ∧ (a = none → ws.length = 0) ∧ ∀ b, a = some b → ∀ j u, (ws.flatMap encW)[j]? = some u → w.cell? (b.add j) = some u) ∧ w = w' := by
  obtain ⟨a, c, rfl, hc⟩ := h.form
  cases a with
  | none =>
    have e : ws = [] := by
      rcases Nat.eq_zero_or_pos ws.length with q | q
      · exact List.length_eq_zero_iff.1 q
      · obtain ⟨b, off, o, e, _⟩ := h.spot q
        cases e
    subst e
    exact (clip_wa_nil w _).mono fun e w' ⟨he, hw⟩ => ⟨⟨none, he, fun _ => rfl, fun b e => (by cases e)⟩, hw⟩
  | some ad =>
    refine (clip_wa_any w ad _ c hc).mono fun e w' ⟨he, hw⟩ => ⟨⟨some ad, he, fun e => (by cases e), fun b e j u hu => ?_⟩, hw⟩
    cases e
    rcases h.src encW_len (by decide) encW_one with ⟨e, _⟩ | ⟨ad', c', e, _, h3, _⟩
    · cases e
    · cases e; exact h3 j u hu
end Go.Proofs.YtlolfcnfcgegdaaGreat
/- The locks' table: Acquire that waits (NOT DONE). -/
namespace Go.Proofs.YtlolfcnfcgegdaaGreat
open Go.RowKit
set_option linter.unusedVariables false
set_option linter.unusedSimpArgs false
theorem ownsRow_low {w : World} {B B' : Nat} {t : TypeId} {k : Nat} {v : Value} {n : Nat} {xs : List Value} (h : w.ownsRow B t k v n xs) (hb : B' ≤ B) : w.ownsRow B' t k v n xs := by
  rcases h with ⟨h1, h2 | ⟨g, cap, cur, e, hB, h3⟩⟩
  · exact ⟨h1, .inl h2⟩
  · exact ⟨h1, .inr ⟨g, cap, cur, e, Nat.le_trans hb hB, h3⟩⟩
set_option maxRecDepth 100000 in
set_option maxHeartbeats 2000000 in
theorem acquire_go {n : Nat} {P : Nat → Prop} {hv wv : Nat → Value} (w : World) (bt c r m : Nat) (L : Lk) (h : LT n P w bt hv wv L) (hr : rightM c r = 0) (hm : m = 1 ∨ m = 2) (hi : hI (L.rg r).hs c = none) (hj : wI (L.rg r).ws c = none) (hf1 : ¬ 4 ≤ (L.rg r).ws.length) (hf2 : L.last ≠ topM) (hn : n ≤ w.heap.size) (G : Lk) (hG : (L.put r ⟨(L.rg r).hs, (L.rg r).ws ++ [⟨c, m⟩]⟩).give r = G) (hok : Rgn.ok ⟨(L.rg r).hs, (L.rg r).ws ++ [⟨c, m⟩]⟩) (A : Value) (HA : Hid (A = match hI (G.rg r).hs c with | some k => .tuple #[.int .u64 (((G.rg r).hs.getD k default).t : Nat), .int .i64 0] | none => .tuple #[.int .u64 0, .int .i64 90])) :
    Calls Tryz.prog 102 #[.pointer (some ⟨bt, 0, none⟩), .int .i64 (c : Nat), .int .i64 (r : Nat), .int .i64 (m : Nat)] w fun e w' => e = .returned A ∧ ∃ P', LTE n P' w' bt G ∧ Kp P P' w w' := by
  have R := Lib.hid (right_calls w c r)
  have M := Lib.hid (mode_yes w m hm)
  obtain ⟨_, hr4⟩ := rightM_r hr
  have hb : (r : Int) < 4 := by omega
  rw [hr] at R
  have e0 : w.cell? ⟨bt, 2 + r * 2, none⟩ = some (hv r) := (h.cells w (Fr.refl _ _)).2.2 r hr4 |>.1
  have e1 : w.cell? ⟨bt, 2 + r * 2 + 1, none⟩ = some (wv r) := (h.cells w (Fr.refl _ _)).2.2 r hr4 |>.2
  have e2 : w.cell? ⟨bt, 1, none⟩ = some (.int .u64 (L.last : Nat)) := (h.cells w (Fr.refl _ _)).2.1
  have h4 := (h.ok.rg r).h4
  have w4 := (h.ok.rg r).w4
  have HC := Lib.hid (hold_calls w bt (2 + r * 2) _ (L.rg r).hs c e0 (h.hat hr4) (by omega))
  rw [idxH_hI, hi] at HC
  have WR := Lib.hid (h.wr r hr4)
  obtain ⟨a, cap, ev, _⟩ := (h.wr r hr4).form
  rw [ev] at WR e1
  have HW : Hid ((L.rg r).ws.length ≤ 1000000) := by show _ ≤ _; omega
  have HI := Lib.hid hj
  have hlI : decide ((4 : Int) ≤ ((L.rg r).ws.length : Int)) = false := by simp; omega
  have hlJ : decide (4 ≤ (L.rg r).ws.length) = false := by simp; omega
  have hll : ((L.last : Int) == 18446744073709551615) = false := by rw [topM_eq] at hf2; simp; omega
  clear hr hi h4 w4 hm hj e0 ev
  go_enter Tryz.func102, Tryz.ntmps102
  go_wp2_with fail
  (with_reducible refine R.out.mono ?_)
  rintro e w1 ⟨rfl, rfl⟩
  go_wp2_with fail
  (with_reducible refine M.out.mono ?_)
  rintro e w1 ⟨rfl, rfl⟩
  go_wp2_with fail
  (with_reducible refine HC.out.mono ?_)
  rintro e w1 ⟨rfl, f1⟩
  have WC := Lib.hid (want_calls w1 bt (2 + r * 2) _ _ c (f1.cell (fun _ _ => trivial) e1) (WR.out.tt f1) HW.out)
  rw [idxW_wI, HI.out] at WC
  have F1 := Lib.hid f1
  clear f1 HC R M
  go_wp2_with fail
  (with_reducible refine WC.out.mono ?_)
  rintro e w2 ⟨rfl, f2⟩
  have F2 := Lib.hid (F1.out.trans f2)
  have E0 := F2.out.cell (fun _ _ => trivial) e1
  have E2 := F2.out.cell (fun _ _ => trivial) e2
  clear f2 WC
  have CW := Lib.hid (clip_wa _ _ _ (WR.out.tt F2.out))
  go_wp2_with fail
  (with_reducible refine CW.out.mono ?_)
  rintro e w3 ⟨⟨ax, rfl, hx0, hxc⟩, rfl⟩
  have X0 := Lib.hid hx0
  have XC := Lib.hid hxc
  clear hx0 hxc CW
  obtain ⟨i0, hti, hz0, hz1, hz2⟩ := info_parts info_wa
  have HN : Hid (∀ b, ax = some b → ∀ j u, ((L.rg r).ws.flatMap encW)[j]? = some u → (w2.alloc (.cells #[.int .i64 (c : Nat), .int .i64 (m : Nat)] 114 (0, 0))).cell? (b.add j) = some u) := by
    intro b e j u hu
    exact ((Fr.refl (fun _ _ => True) w2).alloc _).cell (fun _ _ => trivial) (XC.out b e j u hu)
  have HL := Lib.hid (flat_length encW_len (L.rg r).ws)
  go_wp2_with (at_builtin; refine wpList_append_grows _ rfl _ _ 61 rfl 114 i0 (.agg #[.int .i64 0, .int .i64 0]) 2 16 Tryz.underlying61 hti hz0 hz1 hz2 rfl (by decide) ax _ _ ((L.rg r).ws.flatMap encW) rfl (fun e => ⟨X0.out e, X0.out e⟩) HL.out HN.out ⟨_, 0, none⟩ 1 1 [.int .i64 (c : Nat), .int .i64 (m : Nat)] rfl rfl ?c5 ?c6 ?c7 ?c8 ?c9 ?_)
  case c7 => omega
  case c8 => unfold maxLen; have := HW.out; omega
  case c9 => have := HW.out; omega
  case c5 => exact World.news_of_block (heap_alloc_new _ _)
  case c6 => exact encW_one ⟨c, m⟩
  intro v3 w3 o3 g3
  obtain ⟨a3, c3, rfl⟩ := own_form o3
  have F3 : Fr (fun _ _ => True) w w3 := (F2.out.alloc _).grown_new g3 fun k e => by cases e
  have T3 := h.tt F3
  have o3' : w3.ownsRow w2.heap.size 114 2 (.slice a3 ((L.rg r).ws.length + 1) c3) ((L.rg r).ws ++ [(⟨c, m⟩ : Wa)]).length (((L.rg r).ws ++ [(⟨c, m⟩ : Wa)]).flatMap encW) := by
    rw [← flat_snoc, List.length_append]
    exact ownsRow_low o3 (by simp)
  have e3 := (T3.cells w3 (Fr.refl _ _)).2.2 r hr4 |>.2
  have z3 := T3.free w3 (Fr.refl _ _) (2 + r * 2 + 1)
  have hsz : n ≤ w3.heap.size := Nat.le_trans hn F3.size
  have T4 := T3.setW hr4 _ ((L.rg r).ws ++ [⟨c, m⟩]) (RowsAt.of_own encW_len o3' fun q cs hq => ⟨fun hp => by
    have := own_above o3' hq
    have := (h.tt F2.out).hi q hp
    omega, cs, _, rfl⟩) hok
  have KA : Hid (Kp P P w (w3.setCell ⟨bt, 2 + r * 2 + 1, none⟩ (.slice a3 ((L.rg r).ws.length + 1) c3))) := by
    show Kp _ _ _ _
    have fa : Fr (fun c _ => ¬ P c) w w3 := F3.mono fun _ _ _ => trivial
    exact ⟨fa.setCell (fun _ _ hp => hp T3.pt) _, fun _ _ h => h⟩
  have GC := Lib.hid (give_calls (n := n) _ bt r _ ⟨_, _, T4⟩ hr4 (by rw [size_setCell']; exact hsz))
  rw [hG] at GC
  clear o3 o3' T3 T4 F3 hok
  go_wp2_with fail
  (with_reducible refine GC.out.mono ?_)
  rintro e w5 ⟨rfl, P5, ⟨hv5, wv5, T5⟩, K5⟩
  have HP := Lib.hid T5
  have HQ := Lib.hid (KA.out.trans K5)
  have d0 : w5.cell? ⟨bt, 2 + r * 2, none⟩ = some (hv5 r) := (T5.cells w5 (Fr.refl _ _)).2.2 r hr4 |>.1
  have g4 := (T5.ok.rg r).h4
  have HD := Lib.hid (hold_calls w5 bt (2 + r * 2) _ (G.rg r).hs c d0 (T5.hat hr4) (by omega))
  rw [idxH_hI] at HD
  clear T5 K5 GC KA
  cases hx : hI (G.rg r).hs c with
  | none =>
    rw [hx] at HD
    go_wp2_with fail
    (with_reducible refine HD.out.mono ?_)
    rintro e w6 ⟨rfl, f6⟩
    have F6 := Lib.hid f6
    clear f6 HD
    go_wp2
    go_ret2
    exact ⟨by rw [HA.out, hx]; rfl, P5, LTE.tt ⟨hv5, wv5, HP.out⟩ F6.out, HQ.out.trans (Kp.rfl' _ F6.out)⟩
  | some k =>
    rw [hx] at HD
    have hk : k < (G.rg r).hs.length := (hI_some hx).1
    have hkI : (k : Int) < ((G.rg r).hs.length : Int) := by omega
    have hat := HP.out.hat hr4
    obtain ⟨ah, ch, eh, _⟩ := hat.form
    rw [eh] at hat d0
    obtain ⟨bb, off, o, hbo, _, _, hcs⟩ := hat.spot (by omega)
    subst hbo
    have TK := Lib.hid (hcs k hk 2 _ rfl)
    have EK : Hid ((G.rg r).hs.getD k default = (G.rg r).hs[k]) := by
      show _ = _
      rw [List.getD_eq_getElem?_getD, List.getElem?_eq_getElem hk]; rfl
    go_wp2_with fail
    (with_reducible refine HD.out.mono ?_)
    rintro e w6 ⟨rfl, f6⟩
    have F6 := Lib.hid f6
    have D6 := f6.cell (fun _ _ => trivial) d0
    have TK6 := f6.cell (fun _ _ => trivial) TK.out
    clear f6 HD
    go_wp2
    go_ret2
    exact ⟨by rw [HA.out, hx]; show _ = Ending.returned (.tuple #[.int .u64 (((G.rg r).hs.getD k default).t : Nat), .int .i64 0]); rw [EK.out]; rfl, P5, LTE.tt ⟨hv5, wv5, HP.out⟩ F6.out, HQ.out.trans (Kp.rfl' _ F6.out)⟩
end Go.Proofs.YtlolfcnfcgegdaaGreat
/- The locks' table: Acquire. -/
namespace Go.Proofs.YtlolfcnfcgegdaaGreat
open Go.RowKit
set_option linter.unusedVariables false
set_option linter.unusedSimpArgs false
theorem rightM_c {c r : Nat} (h : rightM c r = 0) : c < 16 := by
  unfold rightM at h
  split at h
  · cases h
  · omega
theorem want_ok {L : Lk} (h : L.ok) {c r how : Nat} (hc : c < 16) (hm : how = 1 ∨ how = 2) (hh : hI (L.rg r).hs c = none) (hw : wI (L.rg r).ws c = none) (hf : ¬ 4 ≤ (L.rg r).ws.length) : Rgn.ok ⟨(L.rg r).hs, (L.rg r).ws ++ [⟨c, how⟩]⟩ := by
  have hrg := h.rg r
  refine ⟨hrg.h4, by simp; omega, hrg.hc, fun x hx => ?_, ?_⟩
  · rcases List.mem_append.1 hx with hx | hx
    · exact hrg.wc x hx
    · rw [List.mem_singleton.1 hx]; exact ⟨hc, hm⟩
  · have h1 := hI_none hh
    have h2 := wI_none hw
    rw [List.map_append, ← List.append_assoc, List.nodup_append]
    refine ⟨hrg.nd, by simp, fun a ha b hb e => ?_⟩
    subst e
    simp only [List.map_cons, List.map_nil, List.mem_singleton] at hb
    subst hb
    rcases List.mem_append.1 ha with ha | ha
    · obtain ⟨x, hx, e⟩ := List.mem_map.1 ha
      exact h1 x hx e
    · obtain ⟨x, hx, e⟩ := List.mem_map.1 ha
      exact h2 x hx e
/-- Acquire. -/
theorem acquire_calls {n : Nat} {P : Nat → Prop} (w : World) (bt c r m : Nat) (L : Lk) (h : LTE n P w bt L) (hn : n ≤ w.heap.size) :
    Calls Tryz.prog 102 #[.pointer (some ⟨bt, 0, none⟩), .int .i64 (c : Nat), .int .i64 (r : Nat), .int .i64 (m : Nat)] w fun e w' => e = .returned (.tuple #[.int .u64 ((acquireM L c r m).1.1 : Nat), .int .i64 ((acquireM L c r m).1.2 : Nat)]) ∧ ∃ P', LTE n P' w' bt (acquireM L c r m).2 ∧ Kp P P' w w' := by
  obtain ⟨hv, wv, h⟩ := h
  unfold acquireM
  by_cases hr : rightM c r = 0
  · rw [if_neg (by rw [hr]; exact fun h => h rfl)]
    by_cases hm : m = 1 ∨ m = 2
    · rw [if_neg (fun k => k hm)]
      cases hi : hI (L.rg r).hs c with
      | some k =>
        have hk : k < (L.rg r).hs.length := (hI_some hi).1
        have e : (L.rg r).hs.getD k default = (L.rg r).hs[k] := by rw [List.getD_eq_getElem?_getD, List.getElem?_eq_getElem hk]; rfl
        refine (acquire_hold w bt c r m k L h hr hm hi hk).mono ?_
        rintro _ w1 ⟨f, rfl⟩
        simp only [e]
        by_cases hq : ((L.rg r).hs[k]).m = m
        · rw [if_pos hq, if_pos hq]
          exact ⟨rfl, P, LTE.tt ⟨hv, wv, h⟩ f, Kp.rfl' P f⟩
        · rw [if_neg hq, if_neg hq]
          exact ⟨rfl, P, LTE.tt ⟨hv, wv, h⟩ f, Kp.rfl' P f⟩
      | none =>
        cases hj : wI (L.rg r).ws c with
        | some k =>
          have hk : k < (L.rg r).ws.length := (wI_some hj).1
          have e : (L.rg r).ws.getD k default = (L.rg r).ws[k] := by rw [List.getD_eq_getElem?_getD, List.getElem?_eq_getElem hk]; rfl
          refine (acquire_want w bt c r m k L h hr hm hi hj hk).mono ?_
          rintro _ w1 ⟨f, rfl⟩
          simp only [e]
          by_cases hq : ((L.rg r).ws[k]).m = m
          · rw [if_pos hq, if_pos hq]
            exact ⟨rfl, P, LTE.tt ⟨hv, wv, h⟩ f, Kp.rfl' P f⟩
          · rw [if_neg hq, if_neg hq]
            exact ⟨rfl, P, LTE.tt ⟨hv, wv, h⟩ f, Kp.rfl' P f⟩
        | none =>
          by_cases hf : 4 ≤ (L.rg r).ws.length ∨ L.last = topM
          · refine (acquire_full w bt c r m L h hr hm hi hj hf).mono ?_
            rintro _ w1 ⟨f, rfl⟩
            simp only [if_pos hf]
            exact ⟨rfl, P, LTE.tt ⟨hv, wv, h⟩ f, Kp.rfl' P f⟩
          · have hf1 : ¬ 4 ≤ (L.rg r).ws.length := fun x => hf (.inl x)
            have hf2 : L.last ≠ topM := fun x => hf (.inr x)
            simp only [if_neg hf]
            generalize hG : (L.put r ⟨(L.rg r).hs, (L.rg r).ws ++ [⟨c, m⟩]⟩).give r = G
            obtain ⟨A, HA⟩ : ∃ A : Value, A = match hI (G.rg r).hs c with | some k => .tuple #[.int .u64 (((G.rg r).hs.getD k default).t : Nat), .int .i64 0] | none => .tuple #[.int .u64 0, .int .i64 90] := ⟨_, rfl⟩
            refine (acquire_go w bt c r m L h hr hm hi hj hf1 hf2 hn G hG (want_ok h.ok (rightM_c hr) hm hi hj hf1) A (Lib.hid HA)).mono ?_
            rintro _ w1 ⟨rfl, x⟩
            cases hx : hI (G.rg r).hs c with
            | some k => rw [hx] at HA; exact ⟨by rw [HA]; rfl, x⟩
            | none => rw [hx] at HA; exact ⟨by rw [HA]; rfl, x⟩
    · rw [if_pos hm]
      refine (acquire_mode w bt c r m hr hm).mono ?_
      rintro _ w1 ⟨rfl, rfl⟩
      exact ⟨rfl, P, ⟨hv, wv, h⟩, Kp.refl P w⟩
  · rw [if_pos hr]
    refine (acquire_bad w bt c r m hr).mono ?_
    rintro _ w1 ⟨rfl, rfl⟩
    exact ⟨rfl, P, ⟨hv, wv, h⟩, Kp.refl P w⟩
end Go.Proofs.YtlolfcnfcgegdaaGreat
/- slices.DeleteFunc at a row of holds of one's own. -/
namespace Go.Proofs.YtlolfcnfcgegdaaGreat
open Go.RowKit Go.Shelf
set_option linter.unusedVariables false
set_option linter.unusedSimpArgs false
theorem set_flat {hs : List Ho} {k : Nat} (hk : k < hs.length) (x : Ho) : (hs.set k x).flatMap encH = ((((hs.flatMap encH).set (k * 4) (.int .i64 (x.c : Nat))).set (k * 4 + 1) (.int .i64 (x.m : Nat))).set (k * 4 + 2) (.int .u64 (x.t : Nat))).set (k * 4 + 3) (.int .u64 (x.u : Nat)) := by
  have e1 : hs = hs.take k ++ hs[k] :: hs.drop (k + 1) := by rw [List.getElem_cons_drop, List.take_append_drop]
  have e2 : (hs.take k).length = k := by rw [List.length_take]; omega
  have e3 : ((hs.take k).flatMap encH).length = k * 4 := by rw [flat_length encH_len, e2]
  have e4 : hs.set k x = hs.take k ++ x :: hs.drop (k + 1) := by rw [List.set_eq_take_append_cons_drop, if_pos hk]
  rw [e4]
  conv => rhs; rw [e1]
  have ss : ∀ (l : List Value) (q : Nat) (v : Value), ((hs.take k).flatMap encH ++ l).set (k * 4 + q) v = (hs.take k).flatMap encH ++ l.set q v := fun l q v => by
    rw [List.set_append_right _ _ (by omega), e3, Nat.add_sub_cancel_left]
  have s0 : ∀ (l : List Value) (v : Value), ((hs.take k).flatMap encH ++ l).set (k * 4) v = (hs.take k).flatMap encH ++ l.set 0 v := fun l v => ss l 0 v
  rw [List.flatMap_append, List.flatMap_append, s0, ss, ss, ss]
  rfl
theorem own_set4 {w : World} {B g n cap : Nat} {Y : List Ho} (h : w.ownsRow B 112 4 (.slice (some ⟨g, 0, none⟩) n cap) n (Y.flatMap encH)) (k : Nat) (hk : k < Y.length) (x : Ho) :
    ((((w.setCell ⟨g, k * 4, none⟩ (.int .i64 (x.c : Nat))).setCell ⟨g, k * 4 + 1, none⟩ (.int .i64 (x.m : Nat))).setCell ⟨g, k * 4 + 2, none⟩ (.int .u64 (x.t : Nat))).setCell ⟨g, k * 4 + 3, none⟩ (.int .u64 (x.u : Nat))).ownsRow B 112 4 (.slice (some ⟨g, 0, none⟩) n cap) n ((Y.set k x).flatMap encH) := by
  rw [set_flat hk]
  exact own_setCell (own_setCell (own_setCell (own_setCell h _ _) _ _) _ _) _ _
/-- What is kept. -/
def kepH (p : Ho → Bool) (xs : List Ho) : List Ho := xs.filter fun h => !p h
theorem kep_snoc (p : Ho → Bool) (xs : List Ho) (j : Nat) (hj : j < xs.length) : kepH p (xs.take (j + 1)) = if p xs[j] = true then kepH p (xs.take j) else kepH p (xs.take j) ++ [xs[j]] := by
  unfold kepH
  rw [List.take_add_one, List.getElem?_eq_getElem hj, Option.toList_some, List.filter_append]
  by_cases h : p xs[j] = true
  · rw [if_pos h]; simp [h]
  · rw [if_neg h]; simp [h]
set_option maxRecDepth 100000 in
set_option maxHeartbeats 4000000 in
theorem delf_some (w : World) (B g n cap : Nat) (xs : List Ho) (fn : Nat) (lb : Array Value) (p : Ho → Bool) (eg : ∀ args w, (callFunc fn args).run Tryz.prog w = .ok (.enter fn args) w) (hx : xs.length = n) (h : w.ownsRow B 112 4 (.slice (some ⟨g, 0, none⟩) n cap) n (xs.flatMap encH)) (hn : n ≤ 1000000)
    (hp : ∀ W h, Fr (fun c _ => c ≠ g) w W → Calls Tryz.prog fn (#[vH h] ++ lb) W fun e w' => e = .returned (.bool (p h)) ∧ Fr (fun _ _ => True) W w') :
    Calls Tryz.prog 63 #[.slice (some ⟨g, 0, none⟩) n cap, .func (.func fn) #[] lb] w fun e w' => ∃ m, e = .returned (.slice (some ⟨g, 0, none⟩) m cap) ∧ m = (kepH p xs).length ∧ w'.ownsRow B 112 4 (.slice (some ⟨g, 0, none⟩) m cap) m ((kepH p xs).flatMap encH) ∧ Fr (fun c _ => c ≠ g) w w' := by
  have IX := Lib.hid (indexfuncH (K := fun _ _ => True) w (.slice (some ⟨g, 0, none⟩) n cap) xs fn lb p eg (by
    have := RowsAt.of_own (K := fun _ _ => True) encH_len (hx ▸ h) (fun _ _ _ => trivial); rw [hx] at this; exact this) (by omega) (fun W h f => hp W h (f.mono fun _ _ _ => trivial)))
  have HP := Lib.hid hp
  have H0 := Lib.hid h
  obtain ⟨hnc, hcm⟩ := own_cap h
  have HX := Lib.hid hx
  clear h hp hx
  cases hi : xs.findIdx? p with
  | none =>
    have hz : idxH p xs = -1 := by unfold idxH; rw [hi]
    have hk : kepH p xs = xs := by
      unfold kepH
      rw [List.filter_eq_self]
      intro a ha
      have := List.findIdx?_eq_none_iff.1 hi a ha
      simpa using this
    rw [hz] at IX
    rw [hk]
    clear hz hk hi
    go_enter Tryz.func63, Tryz.ntmps63
    go_wp2_with fail
    (with_reducible refine IX.out.mono ?_)
    rintro e w1 ⟨rfl, f1⟩
    have F1 := Lib.hid f1
    clear f1 IX
    go_wp2
    go_ret
    exact ⟨n, rfl, HX.out.symm, ownsRow_fr H0.out F1.out (fun _ _ _ _ => trivial), F1.out.mono fun _ _ _ => trivial⟩
  | some k =>
    have hz : idxH p xs = (k : Nat) := by unfold idxH; rw [hi]
    rw [hz] at IX
    obtain ⟨hkl, hkp, hkb⟩ := List.findIdx?_eq_some_iff_getElem.1 hi
    have hkn : k < n := by have := HX.out; omega
    have hk0 : kepH p (xs.take (k + 1)) = xs.take k := by
      rw [kep_snoc p xs k hkl, if_pos hkp]
      unfold kepH
      rw [List.filter_eq_self]
      intro a ha
      obtain ⟨q, hq, rfl⟩ := List.mem_iff_getElem.1 ha
      rw [List.length_take] at hq
      rw [List.getElem_take]
      have := hkb q (by omega)
      simpa using this
    have HK0 := Lib.hid hk0
    have w1i : IntKind.i64.wrap ((k : Int) + 1) = ((k + 1 : Nat) : Int) := by rw [IntKind.wrap_i64]; omega
    have hkm : ((k : Int) == -1) = false := by simp
    obtain ⟨i0, hi0, hz0, hz1, hz2⟩ := info_parts del_ho_info
    clear hz hi hkp hkb hkl hk0
    go_enter Tryz.func63, Tryz.ntmps63
    go_wp2_with fail
    (with_reducible refine IX.out.mono ?_)
    rintro e w1 ⟨rfl, f1⟩
    have F1 := Lib.hid f1
    clear f1 IX
    go_wp2
    go_loopw [5, 6, 7] (fun v5 v6 _ wr => ∃ (i j : Nat) (Y : List Ho), v5 = .int .i64 i ∧ v6 = .int .i64 j ∧ i < j ∧ j ≤ n ∧ Y.length = n ∧ Hid (Y.take i = kepH p (xs.take j)) ∧ Hid (Y.drop j = xs.drop j) ∧ Hid (wr.ownsRow B 112 4 (.slice (some ⟨g, 0, none⟩) n cap) n (Y.flatMap encH)) ∧ Hid (Fr (fun c _ => c ≠ g) w wr)) (fun _ v6 _ _ => n - (intOf v6).toNat)
    case atStart => exact ⟨k, k + 1, xs, rfl, rfl, by first | done | exact Nat.lt_succ_self k, hkn, HX.out, HK0.out.symm, rfl, ownsRow_fr H0.out F1.out (fun _ _ _ _ => trivial), F1.out.mono fun _ _ _ => trivial⟩
    case round =>
      obtain ⟨i, j, Y, rfl, rfl, hij, hjn, hYl, HT, HD, HO, HF⟩ := hrel
      by_cases hlt : j < n
      · have hltI : (j : Int) < n := by omega
        have hxj : j < xs.length := by have := HX.out; omega
        obtain ⟨x, hx⟩ : ∃ x, xs[j] = x := ⟨_, rfl⟩
        have hYj : Y[j]'(by omega) = x := by
          have h1 : (Y.drop j)[0]? = (xs.drop j)[0]? := by rw [HD.out]
          rw [List.getElem?_drop, List.getElem?_drop, Nat.add_zero, List.getElem?_eq_getElem (by omega), List.getElem?_eq_getElem hxj] at h1
          rw [← hx]; exact Option.some.inj h1
        have hat := RowsAt.of_own (K := fun _ _ => True) encH_len (hYl ▸ HO.out) (fun _ _ _ => trivial)
        obtain ⟨b, off, o, hbo, _, _, hc⟩ := hat.spot (by omega)
        cases hbo
        have hcs := RowsAt.h4 (K := fun _ _ => True) hc j (by omega)
        rw [hYj, Nat.zero_add] at hcs
        obtain ⟨k0, k1, k2, k3⟩ := hcs
        have KS := Lib.hid (kep_snoc p xs j hxj)
        rw [hx] at KS
        have pc := fun W f => HP.out W x (HF.out.trans f)
        unfold vH at pc
        have PC := Lib.hid pc
        have e0 := own_frozen HO.out (i * 4) (by omega)
        have e1 := own_frozen HO.out (i * 4 + 1) (by omega)
        have e2 := own_frozen HO.out (i * 4 + 2) (by omega)
        have e3 := own_frozen HO.out (i * 4 + 3) (by omega)
        have hin : (i : Int) < n := by omega
        clear hc hx pc hat
        cases hq : p x with
        | true =>
          rw [hq] at PC
          have HQ := Lib.hid hq
          clear hq
          go_wp2_with fail
          (with_reducible refine (PC.out _ ((Fr.refl _ _).alloc _)).mono ?_)
          rintro e w' ⟨rfl, f'⟩
          have F' := Lib.hid ((HF.out.alloc _).trans (f'.mono fun _ _ _ => trivial))
          have F2 := Lib.hid f'
          clear f' PC
          go_wp2
          go_roundw
          case rel =>
            refine ⟨i, j + 1, Y, rfl, by go_num, by omega, by omega, hYl, ?_, ?_, ownsRow_fr HO.out (((Fr.refl (fun _ _ => True) _).alloc _).trans F2.out) (fun _ _ _ _ => trivial), F'.out⟩
            · show _ = _
              rw [KS.out, if_pos HQ.out]; exact HT.out
            · show _ = _
              rw [← List.drop_drop, ← List.drop_drop, HD.out]
          case measure => simp [intOf]; omega
        | false =>
          rw [hq] at PC
          have HQ := Lib.hid hq
          clear hq
          go_wp2_with fail
          (with_reducible refine (PC.out _ ((Fr.refl _ _).alloc _)).mono ?_)
          rintro e w' ⟨rfl, f'⟩
          have t' := f'.keep _ _ (heap_alloc_new _ _) trivial
          have b0 := cell_mk (i := 0) t' rfl
          have b1 := cell_mk (i := 1) t' rfl
          have b2 := cell_mk (i := 2) t' rfl
          have b3 := cell_mk (i := 3) t' rfl
          have F' := Lib.hid ((HF.out.alloc _).trans (f'.mono fun _ _ _ => trivial))
          have O' := Lib.hid (ownsRow_fr HO.out (((Fr.refl (fun _ _ => True) _).alloc _).trans f') (fun _ _ _ _ => trivial))
          clear f' PC t' e0 e1 e2 e3 k0 k1 k2 k3
          have TH : Hid (w'.there g (i * 4) 4) := fun q hq => (own_frozen O'.out (i * 4 + q) (by omega)).2
          obtain ⟨W4, hW4⟩ : ∃ W4, W4 = w'.setCells g (i * 4) [.int .i64 (x.c : Nat), .int .i64 (x.m : Nat), .int .u64 (x.t : Nat), .int .u64 (x.u : Nat)] := ⟨_, rfl⟩
          have O4 : Hid (W4.ownsRow B 112 4 (.slice (some ⟨g, 0, none⟩) n cap) n ((Y.set i x).flatMap encH)) := by
            rw [hW4]; exact own_set4 O'.out i (by omega) x
          have F4 : Hid (Fr (fun c _ => c ≠ g) w W4) := by
            rw [hW4]; exact F'.out.setCells (fun _ _ hk => hk rfl) _ _
          have E4 := Lib.hid hW4
          clear hW4
          have INF : Hid ((Tryz.prog.info? 112).map (·.size) = some 4) := by show _ = _; rw [hi0, Option.map_some, hz1]
          have iw : IntKind.i64.wrap ((i : Int) + 1) = ((i + 1 : Nat) : Int) := by rw [IntKind.wrap_i64]; omega
          have jw : IntKind.i64.wrap ((j : Int) + 1) = ((j + 1 : Nat) : Int) := by rw [IntKind.wrap_i64]; omega
          go_wp2_with ((with_reducible (refine wpList_store_mid rfl 112 (.tmp 33) (.tmp 32) rfl g (i * 4) #[.int .i64 (x.c : Nat), .int .i64 (x.m : Nat), .int .u64 (x.t : Nat), .int .u64 (x.u : Nat)] ?cx ?cy ?ct ?ci ?c1 ?_)); (case cx => (rfl)); (case cy => (rfl)); (case ct => (exact TH.out)); (case ci => (exact INF.out)); (case c1 => (exact all_oneCell_toArray (encH_one x))); (rw [← E4.out]))
          go_roundw
          case rel =>
            refine ⟨i + 1, j + 1, Y.set i x, rfl, rfl, by omega, by omega, by rw [List.length_set]; exact hYl, ?_, ?_, O4, F4⟩
            · show _ = _
              rw [KS.out, if_neg (by rw [HQ.out]; decide), List.take_set, List.take_add_one, List.getElem?_eq_getElem (by omega), Option.toList_some, ← HT.out, List.set_append_right _ _ (by rw [List.length_take]; omega), List.length_take, Nat.min_eq_left (by omega), Nat.sub_self]
              rfl
            · show _ = _
              rw [List.drop_set_of_lt (by omega), ← List.drop_drop, ← List.drop_drop, HD.out]
          case measure => simp [intOf]; omega
      · have hge : (n : Int) ≤ j := by omega
        have hin : i < n := by omega
        have hjn' : j = n := by omega
        subst hjn'
        have HL : Hid (i = (kepH p xs).length) := by
          have h1 := congrArg List.length HT.out
          rw [List.length_take, List.take_of_length_le (by have := HX.out; omega)] at h1
          show _ = _
          omega
        have HT2 : Hid ((Y.flatMap encH).take (i * 4) = (kepH p xs).flatMap encH) := by
          show _ = _
          rw [flat_take encH_len, HT.out, List.take_of_length_le (by have := HX.out; omega)]
        obtain ⟨Z, hZ⟩ : ∃ Z, Z = (Builtin.zeroCells (Value.cells (.agg #[.int .i64 0, .int .i64 0, .int .u64 0, .int .u64 0])) (j - i)).toList := ⟨_, rfl⟩
        have hZl : Z.length = (j - i) * 4 := by
          rw [hZ, Array.length_toList, size_zeroCells]; rfl
        have hZ1 : ∀ u ∈ Z, u.oneCell' = true := by
          rw [hZ]
          intro u hu
          simp only [Builtin.zeroCells, Array.toList_map, List.mem_map] at hu
          obtain ⟨k, _, rfl⟩ := hu
          have hall : ∀ q, q < 4 → ((Value.cells (.agg #[.int .i64 0, .int .i64 0, .int .u64 0, .int .u64 0]))[q]!).oneCell' = true := by decide
          exact hall _ (Nat.mod_lt _ (by decide))
        have hfl : (Y.flatMap encH).length = j * 4 := by rw [flat_length encH_len, hYl]
        have OS : Hid ((wr.setCells g (i * 4) Z).ownsRow B 112 4 (.slice (some ⟨g, 0, none⟩) i cap) i ((kepH p xs).flatMap encH)) := by
          have := own_spliced HO.out i j (by omega) (Nat.le_refl _) Z hZl
          rw [List.drop_of_length_le (by rw [hfl]; exact Nat.le_refl _), Nat.sub_self, Nat.add_zero, List.append_nil, HT2.out] at this
          exact this
        have FS : Hid (Fr (fun c _ => c ≠ g) w (wr.setCells g (i * 4) Z)) := HF.out.setCells (fun _ _ hk => hk rfl) _ _
        have hcl : ∀ ty, (Builtin.clear_ #[60] ty #[.slice (some ⟨g, i * 4, none⟩) (j - i) (cap - i)]).run Tryz.prog wr = .ok (.tuple #[]) (wr.setCells g (i * 4) Z) := fun ty => by
          rw [hZ]
          refine run_clear_any wr _ _ ty (.agg #[.int .i64 0, .int .i64 0, .int .u64 0, .int .u64 0]) Tryz.underlying60 Tryz.zeroValue112 g _ _ _ (by omega) (by rw [← hZ]; exact hZ1) (fun q hq => ?_) (fun q hq => ?_)
          · rw [← hZ, hZl] at hq; exact (own_frozen HO.out _ (by omega)).2.1
          · rw [← hZ, hZl] at hq; exact (own_frozen HO.out _ (by omega)).2.2
        have hic : i ≤ cap := by omega
        have hjc : j ≤ cap := by omega
        clear hZ hZl hZ1 hfl
        go_wp2
        go_ret
        exact ⟨i, rfl, HL.out, OS.out, FS.out⟩
set_option maxRecDepth 100000 in
theorem delf_none (w : World) (fn : Nat) (lb : Array Value) (p : Ho → Bool) (eg : ∀ args w, (callFunc fn args).run Tryz.prog w = .ok (.enter fn args) w)
    (hp : ∀ W h, Fr (fun _ _ => True) w W → Calls Tryz.prog fn (#[vH h] ++ lb) W fun e w' => e = .returned (.bool (p h)) ∧ Fr (fun _ _ => True) W w') :
    Calls Tryz.prog 63 #[.slice none 0 0, .func (.func fn) #[] lb] w fun e w' => e = .returned (.slice none 0 0) ∧ Fr (fun _ _ => True) w w' := by
  have IX := Lib.hid (indexfuncH (K := fun _ _ => True) w (.slice none 0 0) [] fn lb p eg (RowsAt.nil _ _ _ _) (by decide) hp)
  have hz : idxH p [] = -1 := rfl
  rw [hz] at IX
  clear hp hz
  go_enter Tryz.func63, Tryz.ntmps63
  go_wp2_with fail
  (with_reducible refine IX.out.mono ?_)
  rintro e w1 ⟨rfl, f1⟩
  have F1 := Lib.hid f1
  clear f1 IX
  go_wp2
  go_ret
  exact ⟨rfl, F1.out⟩
/-- slices.DeleteFunc at a row of one's own. -/
theorem delf_calls (w : World) (B : Nat) (v : Value) (xs : List Ho) (fn : Nat) (lb : Array Value) (p : Ho → Bool) (eg : ∀ args w, (callFunc fn args).run Tryz.prog w = .ok (.enter fn args) w) (h : w.ownsRow B 112 4 v xs.length (xs.flatMap encH)) (hn : xs.length ≤ 1000000)
    (hp : ∀ W h, Fr (fun c _ => v.ownBlock ≠ some c) w W → Calls Tryz.prog fn (#[vH h] ++ lb) W fun e w' => e = .returned (.bool (p h)) ∧ Fr (fun _ _ => True) W w') :
    Calls Tryz.prog 63 #[v, .func (.func fn) #[] lb] w fun e w' => ∃ v', e = .returned v' ∧ v'.ownBlock = v.ownBlock ∧ w'.ownsRow B 112 4 v' (kepH p xs).length ((kepH p xs).flatMap encH) ∧ Fr (fun c _ => v.ownBlock ≠ some c) w w' := by
  rcases id h.2 with ⟨rfl, h0⟩ | ⟨g, cap, cur, rfl, _⟩
  · obtain rfl : xs = [] := List.length_eq_zero_iff.1 h0
    refine (delf_none w fn lb p eg fun W h f => hp W h (f.mono fun _ _ _ => trivial)).mono fun e w' ⟨he, hf⟩ => ?_
    exact ⟨_, he, rfl, ownsRow_fr h hf fun _ _ _ _ => trivial, hf.mono fun _ _ _ => trivial⟩
  · refine (delf_some w B g xs.length cap xs fn lb p eg rfl h hn fun W h f => hp W h (f.mono fun c _ hc q => hc (by rw [q]; rfl))).mono fun e w' ⟨m, he, hm, ho, hf⟩ => ?_
    subst hm
    exact ⟨_, he, rfl, ho, hf.mono fun c _ hc q => hc (by rw [q]; rfl)⟩
end Go.Proofs.YtlolfcnfcgegdaaGreat
/- The locks' table: Time. -/
namespace Go.Proofs.YtlolfcnfcgegdaaGreat
open Go.RowKit Go.Shelf
set_option linter.unusedVariables false
set_option linter.unusedSimpArgs false
/-- The first regions are rid of what is over. -/
def dropN (now : Nat) (L : Lk) : Nat → Lk
  | 0 => { L with now := now }
  | i + 1 => (dropN now L i).put i (dropM now ((dropN now L i).rg i))
def giveN (L : Lk) : Nat → Lk
  | 0 => L
  | i + 1 => (giveN L i).give i
theorem dropN_four {now : Nat} {L : Lk} (h : L.rs.length = 4) : dropN now L 4 = ⟨now, L.last, L.rs.map (dropM now)⟩ := by
  obtain ⟨a, b, rs⟩ := L
  obtain ⟨r0, r1, r2, r3, rfl⟩ : ∃ r0 r1 r2 r3, rs = [r0, r1, r2, r3] := by
    match rs, h with
    | [r0, r1, r2, r3], _ => exact ⟨r0, r1, r2, r3, rfl⟩
  rfl
theorem dropN_nl (now : Nat) (L : Lk) : ∀ i, (dropN now L i).now = now ∧ (dropN now L i).last = L.last
  | 0 => ⟨rfl, rfl⟩
  | i + 1 => dropN_nl now L i
theorem dropN_ok {now : Nat} {L : Lk} (h : L.ok) (hn : now ≤ topM) : ∀ i, (dropN now L i).ok
  | 0 => ⟨hn, h.last, h.four, h.rs⟩
  | i + 1 => by
    have k := dropN_ok h hn i
    exact k.put ((k.rg i).sub List.filter_sublist (List.Sublist.refl _)) k.now k.last
theorem timeM_go {L : Lk} {now : Nat} (h : L.rs.length = 4) (hn : ¬ now ≤ L.now) : timeM L now = giveN (dropN now L 4) 4 := by
  unfold timeM
  rw [if_neg hn, dropN_four h]
  rfl
set_option maxRecDepth 100000 in
theorem over_calls (w : World) (bx : Nat) (h : Ho) (now : Nat) (hc : w.heap[bx]? = some (.cells #[.int .u64 (now : Nat)] 31 (0, 0))) :
    Calls Tryz.prog 62 #[vH h, .pointer (some ⟨bx, 0, none⟩)] w fun e w' => e = .returned (.bool (decide (h.u ≤ now))) ∧ Fr (fun _ _ => True) w w' := by
  obtain ⟨hc', hm, ht, hu⟩ := h
  unfold vH
  have hcW : ∀ o, (w.alloc o).cell? ⟨bx, 0, none⟩ = some (.int .u64 (now : Nat)) := fun o => cell_mk (((Fr.refl (fun _ _ => True) w).alloc o).keep _ _ hc trivial) rfl
  have hlt := lt_of_some hc
  have ne : bx ≠ w.heap.size := by omega
  have e : decide ((hu : Int) ≤ now) = decide (hu ≤ now) := by simp
  go_enter Tryz.func62, Tryz.ntmps62
  go_wp2
  go_ret
  exact ⟨rfl, (Fr.refl _ _).alloc _⟩
set_option maxRecDepth 100000 in
theorem time_old {n : Nat} {P : Nat → Prop} {hv wv : Nat → Value} (w : World) (bt now : Nat) (L : Lk) (h : LT n P w bt hv wv L) (hn : now ≤ L.now) :
    Calls Tryz.prog 26 #[.pointer (some ⟨bt, 0, none⟩), .int .u64 (now : Nat)] w fun e w' => e = .returned (.tuple #[]) ∧ Fr (fun _ _ => True) w w' := by
  obtain ⟨W1, hW1⟩ : ∃ W, w.alloc (.cells #[.int .u64 (now : Nat)] 31 (0, 0)) = W := ⟨_, rfl⟩
  have F1 : Hid (Fr (fun _ _ => True) w W1) := hW1 ▸ (Fr.refl _ _).alloc _
  have X1 : Hid (W1.heap[w.heap.size]? = some (.cells #[.int .u64 (now : Nat)] 31 (0, 0))) := hW1 ▸ heap_alloc_new w _
  have x1 : W1.cell? ⟨w.heap.size, 0, none⟩ = some (.int .u64 (now : Nat)) := cell_mk X1.out rfl
  have c1 : W1.cell? ⟨bt, 0, none⟩ = some (.int .u64 (L.now : Nat)) := (h.cells W1 F1.out).1
  have hnI : (now : Int) ≤ L.now := by omega
  clear h hn
  go_enter Tryz.func26, Tryz.ntmps26
  go_wp2
  go_region_held3 (fun W => W.cell? ⟨w.heap.size, 0, none⟩ = some (.int .u64 (now : Nat)) ∧ W.cell? ⟨bt, 0, none⟩ = some (.int .u64 (L.now : Nat))) (exact ⟨x1, c1⟩) (fail)
  all_goals
    go_wp2
    exact bodyPost_ret (results_none rfl _ _ _) rfl ⟨rfl, F1.out.trans ((Fr.refl _ _).drew)⟩
set_option maxRecDepth 100000 in
set_option maxHeartbeats 4000000 in
theorem time_new {n : Nat} {P : Nat → Prop} {hv wv : Nat → Value} (w : World) (bt now : Nat) (L : Lk) (h : LT n P w bt hv wv L) (hn : ¬ now ≤ L.now) (hnm : now ≤ topM) (hsz : n ≤ w.heap.size) :
    Calls Tryz.prog 26 #[.pointer (some ⟨bt, 0, none⟩), .int .u64 (now : Nat)] w fun e w' => e = .returned (.tuple #[]) ∧ ∃ P', LTE n P' w' bt (giveN (dropN now L 4) 4) ∧ Kp P P' w w' := by
  obtain ⟨W1, hW1⟩ : ∃ W, w.alloc (.cells #[.int .u64 (now : Nat)] 31 (0, 0)) = W := ⟨_, rfl⟩
  have F1 : Hid (Fr (fun _ _ => True) w W1) := hW1 ▸ (Fr.refl _ _).alloc _
  have X1 : Hid (W1.heap[w.heap.size]? = some (.cells #[.int .u64 (now : Nat)] 31 (0, 0))) := hW1 ▸ heap_alloc_new w _
  have x1 : W1.cell? ⟨w.heap.size, 0, none⟩ = some (.int .u64 (now : Nat)) := cell_mk X1.out rfl
  have c1 : W1.cell? ⟨bt, 0, none⟩ = some (.int .u64 (L.now : Nat)) := (h.cells W1 F1.out).1
  have hnI : decide ((now : Int) ≤ L.now) = false := by simp; omega
  have hnJ : decide (now ≤ L.now) = false := by simp; omega
  have T1 := Lib.hid (h.tt F1.out.drew)
  obtain ⟨W2, hW2⟩ : ∃ W2, W1.drew = W2 := ⟨_, rfl⟩
  rw [hW2] at T1
  have G2 : Hid (Fr (fun _ _ => True) w W2) := by rw [← hW2]; exact F1.out.drew
  have X2 : Hid (W2.heap[w.heap.size]? = some (.cells #[.int .u64 (now : Nat)] 31 (0, 0))) := by rw [← hW2]; exact X1.out
  have x2 : W2.cell? ⟨w.heap.size, 0, none⟩ = some (.int .u64 (now : Nat)) := cell_mk X2.out rfl
  have c2 : W2.cell? ⟨bt, 0, none⟩ = some (.int .u64 (L.now : Nat)) := (T1.out.cells W2 (Fr.refl _ _)).1
  have z2 := T1.out.free W2 (Fr.refl _ _) 0
  have KS : Hid (∀ W : World, W.heap[w.heap.size]? = some (.cells #[.int .u64 (now : Nat)] 31 (0, 0)) → True) := fun _ _ => trivial
  have hok := h.ok
  have T3 := Lib.hid (T1.out.setNow now hnm)
  obtain ⟨W3, hW3⟩ : ∃ W3, W3 = W2.setCell ⟨bt, 0, none⟩ (.int .u64 (now : Nat)) := ⟨_, rfl⟩
  rw [← hW3] at T3
  have HE3 := Lib.hid hW3
  have nbx : bt ≠ w.heap.size := fun e => by have := h.hi bt h.pt; omega
  have X3 : Hid (W3.heap[w.heap.size]? = some (.cells #[.int .u64 (now : Nat)] 31 (0, 0))) := by rw [hW3]; exact (heap_setCell_ne (fun e => nbx e.symm) _).trans X2.out
  have hPt := h.pt
  have K3 : Hid (Kp P P w W3) := by
    rw [hW3]
    exact ⟨((G2.out.mono fun _ _ _ => trivial).setCell (fun _ _ hp => hp hPt) _), fun _ _ h => h⟩
  have OK := Lib.hid (fun i => dropN_ok (now := now) hok hnm i)
  have HS := Lib.hid hsz
  have eg : ∀ args w, (callFunc 62 args).run Tryz.prog w = .ok (.enter 62 args) w := enters_of Tryz.func62 (by kernel_rfl) rfl
  have EG := Lib.hid eg
  clear h hn hnm hsz hok hPt nbx hW3 T1 eg KS
  go_enter Tryz.func26, Tryz.ntmps26
  go_wp2
  go_region_held3 (fun W => W.cell? ⟨w.heap.size, 0, none⟩ = some (.int .u64 (now : Nat)) ∧ W.cell? ⟨bt, 0, none⟩ = some (.int .u64 (L.now : Nat))) (exact ⟨x1, c1⟩) (fail)
  rw [hW2]
  go_wp2
  rw [← HE3.out]
  go_loopw [5, 18] (fun _ v18 wr => ∃ (i : Nat) (P' : Nat → Prop), v18 = .int .i64 i ∧ i ≤ 4 ∧ Hid (LTE n P' wr bt (dropN now L i)) ∧ Hid (Kp P P' w wr) ∧ Hid (wr.heap[w.heap.size]? = some (.cells #[.int .u64 (now : Nat)] 31 (0, 0)))) (fun _ v18 _ => 4 - (intOf v18).toNat)
  case atStart => exact ⟨0, P, rfl, by omega, ⟨_, _, T3.out⟩, K3.out, X3.out⟩
  case round =>
    obtain ⟨i, P', rfl, hi, HT, HK, HX⟩ := hrel
    by_cases hlt : i < 4
    · have hltI : (i : Int) < 4 := by omega
      obtain ⟨hv1, wv1, T⟩ := HT.out
      have TT := Lib.hid T
      have e1 : wr.cell? ⟨bt, 2 + i * 2, none⟩ = some (hv1 i) := (T.cells wr (Fr.refl _ _)).2.2 i hlt |>.1
      have hown := T.hr i hlt
      have h4 := (T.ok.rg i).h4
      have hbx : (hv1 i).ownBlock ≠ some w.heap.size := fun e => by
        obtain ⟨cs, t, fz, hc, ht⟩ := T.ps _ (T.hp i hlt _ e)
        rw [HX.out] at hc
        cases hc
        revert ht
        decide
      have DC := Lib.hid (fun (W : World) (f : Fr (fun _ _ => True) wr W) => delf_calls W 0 (hv1 i) ((dropN now L i).rg i).hs 62 #[.pointer (some ⟨w.heap.size, 0, none⟩)] (fun h => decide (h.u ≤ now)) EG.out (ownsRow_fr hown f fun _ _ _ _ => trivial) (by omega) (fun W' h f' => over_calls W' w.heap.size h now (f'.keep _ _ (f.keep _ _ HX.out trivial) hbx)))
      have HZ : Hid (n ≤ wr.drew.heap.size) := by show _ ≤ _; exact Nat.le_trans HS.out HK.out.fr.size
      have HO : Hid (Rgn.ok ⟨kepH (fun h => decide (h.u ≤ now)) ((dropN now L i).rg i).hs, ((dropN now L i).rg i).ws⟩) := (T.ok.rg i).sub List.filter_sublist (List.Sublist.refl _)
      have HB := Lib.hid hbx
      have HNE : Hid (w.heap.size ≠ bt) := fun e => by
        have k1 := T.top
        rw [← e, HX.out] at k1
        simp at k1
      clear T hown h4 hbx
      go_wp2
      go_region_with (go_at_call 63; go_must (with_reducible refine (DC.out _ ?cf).mono ?_); (case cf => go_must (exact (Fr.refl _ _).drew)); go_must (rintro e w5 ⟨v5, rfl, b5, o5, f5⟩; obtain ⟨a5, c5, rfl⟩ := own_form o5; obtain ⟨e5, z5, T6⟩ := (TT.out.tt ((Fr.refl _ _).drew)).setH hlt _ _ HZ.out f5 o5 (.inl b5) HO.out; have HX5 : Hid _ := f5.keep _ _ HX.out HB.out; have HT6 := Lib.hid T6; clear b5 o5 f5 T6))
      obtain ⟨P6, T6, K6⟩ := HT6.out
      have HX6 : Hid ((w5.setCell ⟨bt, 2 + i * 2, none⟩ (.slice a5 (kepH (fun h => decide (h.u ≤ now)) ((dropN now L i).rg i).hs).length c5)).heap[w.heap.size]? = some (.cells #[.int .u64 (now : Nat)] 31 (0, 0))) := (heap_setCell_ne HNE.out _).trans HX5.out
      have KK := Lib.hid (HK.out.trans ((Kp.rfl' P' ((Fr.refl _ _).drew)).trans K6))
      have HT7 := Lib.hid T6
      clear HT6 T6 K6
      go_wp2
      go_roundw
      case rel => exact ⟨i + 1, P6, by go_num, by omega, ⟨_, _, HT7.out⟩, KK.out, HX6.out⟩
      case measure => simp [intOf]; omega
    · have hge : (4 : Int) ≤ i := by omega
      have hi4 : i = 4 := by omega
      rw [hi4] at HT
      clear hi4
      obtain ⟨GG, hGG⟩ : ∃ GG, dropN now L 4 = GG := ⟨_, rfl⟩
      rw [hGG] at HT
      have HG := Lib.hid hGG
      clear HX hGG OK
      go_wp2
      go_loopw [6, 37] (fun _ v37 wz => ∃ (i : Nat) (P' : Nat → Prop), v37 = .int .i64 i ∧ i ≤ 4 ∧ Hid (LTE n P' wz bt (giveN GG i)) ∧ Hid (Kp P P' w wz)) (fun _ v37 _ => 4 - (intOf v37).toNat)
      case atStart => exact ⟨0, P', rfl, by omega, HT.out, HK.out⟩
      case round =>
        obtain ⟨j, P'', rfl, hj, HT2, HK2⟩ := hrel
        by_cases hlt : j < 4
        · have hltI : (j : Int) < 4 := by omega
          have GC := Lib.hid (give_calls (n := n) _ bt j _ HT2.out hlt (Nat.le_trans HS.out HK2.out.fr.size))
          go_wp2_with fail
          (with_reducible refine GC.out.mono ?_)
          rintro e w5 ⟨rfl, P5, T5, K5⟩
          have HT5 := Lib.hid T5
          have HK5 := Lib.hid (HK2.out.trans K5)
          clear T5 K5 GC
          go_wp2
          go_roundw
          case rel => exact ⟨j + 1, P5, by go_num, by omega, HT5.out, HK5.out⟩
          case measure => simp [intOf]; omega
        · have hge : (4 : Int) ≤ j := by omega
          obtain rfl : j = 4 := by omega
          go_wp2
          go_end0
          exact ⟨rfl, P'', by rw [HG.out]; exact HT2.out, HK2.out⟩
/-- Time. -/
theorem time_calls {n : Nat} {P : Nat → Prop} (w : World) (bt now : Nat) (L : Lk) (h : LTE n P w bt L) (hnm : now ≤ topM) (hn : n ≤ w.heap.size) :
    Calls Tryz.prog 26 #[.pointer (some ⟨bt, 0, none⟩), .int .u64 (now : Nat)] w fun e w' => e = .returned (.tuple #[]) ∧ ∃ P', LTE n P' w' bt (timeM L now) ∧ Kp P P' w w' := by
  obtain ⟨hv, wv, h⟩ := h
  by_cases hl : now ≤ L.now
  · refine (time_old w bt now L h hl).mono fun e w' ⟨he, hf⟩ => ⟨he, P, ?_, Kp.rfl' P hf⟩
    have e : timeM L now = L := by unfold timeM; rw [if_pos hl]
    rw [e]
    exact ⟨hv, wv, h.tt hf⟩
  · rw [timeM_go h.ok.four hl]
    exact time_new w bt now L h hl hnm hn
end Go.Proofs.YtlolfcnfcgegdaaGreat
/- The service: replies, and their bytes. -/
namespace Go.Proofs.YtlolfcnfcgegdaaGreat
open Go.RowKit
set_option linter.unusedVariables false
set_option linter.unusedSimpArgs false

/-- A reply: a code, a number. -/
structure Rp where
  code : Nat
  val : Nat
  deriving DecidableEq, Inhabited
def vR (r : Rp) : Value := .agg #[.int .i64 (r.code : Nat), .int .u64 (r.val : Nat)]
def rpB (r : Rp) : List UInt8 := le r.code 1 ++ le r.val 8
theorem rpB_len (r : Rp) : (rpB r).length = 9 := by unfold rpB; simp [le_length]
/-- The reply of bytes. -/
def rpM (b : List UInt8) : Rp := ⟨(numR b false 1).1, (numR (numR b false 1).2.1 (numR b false 1).2.2 8).1⟩
set_option maxRecDepth 100000 in
theorem told_calls (w : World) (x e : Nat) : Calls Tryz.prog 101 #[.int .u64 (x : Nat), .int .i64 (e : Nat)] w fun q w' => q = .returned (.agg #[.int .i64 (e : Nat), .int .u64 (x : Nat)]) ∧ Fr (fun _ _ => True) w w' := by
  obtain ⟨W1, hW1⟩ : ∃ W, w.alloc (.cells #[.int .i64 (e : Nat), .int .u64 (x : Nat)] 36 (0, 0)) = W := ⟨_, rfl⟩
  have X1 : Hid (W1.heap[w.heap.size]? = some (.cells #[.int .i64 (e : Nat), .int .u64 (x : Nat)] 36 (0, 0))) := hW1 ▸ heap_alloc_new w _
  have F1 : Hid (Fr (fun _ _ => True) w W1) := hW1 ▸ (Fr.refl _ _).alloc _
  have x0 := cell_mk (i := 0) X1.out rfl
  have x1 := cell_mk (i := 1) X1.out rfl
  go_enter Tryz.func101, Tryz.ntmps101
  go_wp2
  refine bodyPost_ret (v := .agg #[.int .i64 (e : Nat), .int .u64 (x : Nat)]) (by simp [results, Tryz.results101, go_sem, *]) rfl ⟨rfl, F1.out⟩
set_option maxRecDepth 100000 in
set_option maxHeartbeats 1000000 in
theorem reply_calls {K : Nat → Obj → Prop} (w : World) (v : Value) (b : List UInt8) (hb : BytesAt K w v b) (hm : b.length ≤ 1000000) :
    Calls Tryz.prog 69 #[v] w fun e w' => e = .returned (vR (rpM b)) ∧ Fr (fun _ _ => True) w w' := by
  obtain ⟨av, cv, rfl⟩ := hb.form
  obtain ⟨W1, hW1⟩ : ∃ W, w.alloc (.cells #[.int .i64 0, .int .u64 0] 36 (0, 0)) = W := ⟨_, rfl⟩
  have F1 : Hid (Fr (fun _ _ => True) w W1) := hW1 ▸ (Fr.refl _ _).alloc _
  have X1 : Hid (W1.heap[w.heap.size]? = some (.cells #[.int .i64 0, .int .u64 0] 36 (0, 0))) := hW1 ▸ heap_alloc_new w _
  obtain ⟨W2, hW2⟩ : ∃ W, W1.alloc (.cells #[.slice av b.length cv, .bool false] 146 (0, 0)) = W := ⟨_, rfl⟩
  have l0 : LR W1 W2 W1.heap.size b false := hW2 ▸ LR.mk0 (Fr.refl _ _) (hb.tt F1.out)
  have L0 := Lib.hid l0
  have HLEN := Lib.hid hm
  have RC := Lib.hid (read_calls W1 av b.length cv)
  rw [hW2] at RC
  have RM : Hid (rpM b = ⟨(numR b false 1).1, (numR (numR b false 1).2.1 (numR b false 1).2.2 8).1⟩) := rfl
  clear hm hb hW2
  go_enter Tryz.func69, Tryz.ntmps69
  go_wp2_with fail
  (with_reducible refine RC.out.mono ?_)
  rintro e w1 ⟨rfl, rfl⟩
  obtain ⟨x1, r1, s1, n1⟩ : ∃ x r s, numR b false 1 = (x, r, s) := ⟨_, _, _, rfl⟩
  have C1 := Lib.hid (lr_number W1 w1 W1.heap.size b false 1 1 rfl l0 (by omega) (by omega) (by have := HLEN.out; omega) x1 r1 s1 n1)
  have hx1 := numR_lt b false 1
  have rl1 := numR_len b false 1
  rw [n1] at hx1 rl1 RM
  dsimp only at hx1 rl1 RM
  clear n1
  go_wp2_with fail
  (with_reducible refine C1.out.mono ?_)
  rintro e w2 ⟨rfl, l1, g1⟩
  have L1 := Lib.hid l1
  clear l0 L0 C1 g1 RC
  obtain ⟨x2, r2, s2, n2⟩ : ∃ x r s, numR r1 s1 8 = (x, r, s) := ⟨_, _, _, rfl⟩
  have C2 := Lib.hid (lr_number W1 w2 W1.heap.size r1 s1 8 8 rfl l1 (by omega) (by omega) (by have := HLEN.out; omega) x2 r2 s2 n2)
  rw [n2] at RM
  dsimp only at RM
  have v1 : IntKind.i64.wrap (x1 : Int) = x1 := IntWalk.i64_in _ (by omega)
  clear n2
  go_wp2_with fail
  (with_reducible refine C2.out.mono ?_)
  rintro e w3 ⟨rfl, l2, g2⟩
  have T3 : Hid (w3.heap[w.heap.size]? = some (.cells #[.int .i64 0, .int .u64 0] 36 (0, 0))) := l2.fr.keep _ _ X1.out trivial
  have F3 : Hid (Fr (fun _ _ => True) w w3) := F1.out.trans l2.fr
  have q0 := cell_mk (i := 0) T3.out rfl
  have q1 := cell_mk (i := 1) T3.out rfl
  have y0 := frozen_mk (i := 0) T3.out
  have y1 := frozen_mk (i := 1) T3.out
  obtain ⟨WZ, hWZ⟩ : ∃ W, (w3.setCell ⟨w.heap.size, 0, none⟩ (.int .i64 (x1 : Nat))).setCell ⟨w.heap.size, 1, none⟩ (.int .u64 (x2 : Nat)) = W := ⟨_, rfl⟩
  have TZ : Hid (WZ.heap[w.heap.size]? = some (.cells #[.int .i64 (x1 : Nat), .int .u64 (x2 : Nat)] 36 (0, 0))) := hWZ ▸ heap_setCell_same (o := 1) (heap_setCell_same (o := 0) T3.out _) _
  have FZ : Hid (Fr (fun _ _ => True) w WZ) := hWZ ▸ (Fr.within ((F3.out.mono fun _ _ _ => trivial).setCell (fun o ho => by simp) _ |>.setCell (fun o ho => by simp) _))
  have p0 := cell_mk (i := 0) TZ.out rfl
  have p1 := cell_mk (i := 1) TZ.out rfl
  clear l1 L1 C2 l2 g2 hW1
  go_wp2
  refine bodyPost_ret (v := .agg #[.int .i64 (x1 : Nat), .int .u64 (x2 : Nat)]) (by simp [results, Tryz.results69, go_sem, *]) rfl ⟨?_, FZ.out⟩
  rw [RM.out]; rfl
set_option maxRecDepth 100000 in
set_option maxHeartbeats 1000000 in
theorem rbytes_calls (w : World) (r : Rp) (hc : r.code < 256) (hv : r.val < 18446744073709551616) :
    Calls Tryz.prog 72 #[vR r] w fun e w' => (∃ a cap, e = .returned (.slice a 9 cap) ∧ BytesAt (New w.heap.size) w' (.slice a 9 cap) (rpB r)) ∧ Fr (fun _ _ => True) w w' := by
  obtain ⟨c, x⟩ := r
  unfold vR rpB
  dsimp only at hc hv ⊢
  obtain ⟨W1, hW1⟩ : ∃ W, w.alloc (.cells #[.int .i64 (c : Nat), .int .u64 (x : Nat)] 36 (0, 0)) = W := ⟨_, rfl⟩
  have F1 : Hid (Fr (fun _ _ => True) w W1) := hW1 ▸ (Fr.refl _ _).alloc _
  have X1 : Hid (W1.heap[w.heap.size]? = some (.cells #[.int .i64 (c : Nat), .int .u64 (x : Nat)] 36 (0, 0))) := hW1 ▸ heap_alloc_new w _
  have CX : Hid (∀ W, Fr (fun _ _ => True) W1 W → W.heap[w.heap.size]? = some (.cells #[.int .i64 (c : Nat), .int .u64 (x : Nat)] 36 (0, 0))) := fun W f => f.keep _ _ X1.out trivial
  have u0 : IntKind.u64.wrap (c : Int) = c := by rw [IntKind.wrap_u64]; omega
  obtain ⟨W2, hW2⟩ : ∃ W, W1.alloc (.cells #[.slice none 0 0] 102 (0, 0)) = W := ⟨_, rfl⟩
  have l0 : LW W1 W2 W1.heap.size [] := hW2 ▸ LW.mk0 (Fr.refl _ _)
  have c0 := cell_mk (i := 0) (CX.out W2 l0.fr) rfl
  have N0 := Lib.hid (lw_number W1 W2 W1.heap.size [] c 1 c 1 rfl rfl l0 (by omega) (by omega) (by omega) (by simp))
  clear l0
  go_enter Tryz.func72, Tryz.ntmps72
  go_wp2_with fail
  (with_reducible refine N0.out.mono ?_)
  rintro e w2 ⟨rfl, l1⟩
  rw [List.nil_append] at l1
  have L1 := Lib.hid l1
  have c1 := cell_mk (i := 1) (CX.out w2 l1.fr) rfl
  have N1 := Lib.hid (lw_number W1 w2 W1.heap.size _ x 8 x 8 rfl rfl l1 (by omega) (by omega) (by omega) (by simp [le_length]))
  clear l1 N0 c0 hW1 hW2
  go_wp2_with fail
  (with_reducible refine N1.out.mono ?_)
  rintro e w3 ⟨rfl, l7⟩
  have hbl : (le c 1 ++ le x 8).length = 9 := by simp [le_length]
  obtain ⟨bs, hbs⟩ : ∃ bs, le c 1 ++ le x 8 = bs := ⟨_, rfl⟩
  rw [hbs] at l7 hbl
  have HBS := Lib.hid hbs
  have OC := lw_out W1 w3 W1.heap.size bs l7 (by omega)
  rw [hbl] at OC
  have OCH := Lib.hid OC
  have SZ : Hid (w.heap.size ≤ w3.heap.size) := Nat.le_trans F1.out.size l7.fr.size
  clear l7 hbs hbl OC N1 c1
  go_wp2_with fail
  (with_reducible refine OCH.out.mono ?_)
  rintro e w9 ⟨⟨a9, c9, rfl, b9⟩, f9⟩
  have B9 := Lib.hid b9
  have F9 := Lib.hid f9
  clear b9 f9 OCH
  go_wp2
  go_ret
  rw [HBS.out]
  exact ⟨⟨a9, c9, rfl, B9.out.mono fun c o _ ⟨h, r⟩ => ⟨Nat.le_trans SZ.out h, r⟩⟩, F1.out.trans F9.out⟩
end Go.Proofs.YtlolfcnfcgegdaaGreat
/- The service's state in memory. -/
namespace Go.Proofs.YtlolfcnfcgegdaaGreat
open Go.RowKit
set_option linter.unusedVariables false
set_option linter.unusedSimpArgs false

def KWant (c : Nat) (o : Obj) : Prop := ∃ cs fz, o = .cells cs 114 fz
def KP (c : Nat) (o : Obj) : Prop := ∃ cs t fz, o = .cells cs t fz ∧ (t = 66 ∨ t = 112)
theorem LT.frk {K : Nat → Obj → Prop} {n : Nat} {P : Nat → Prop} {w w' : World} {bt : Nat} {hv wv : Nat → Value} {L : Lk} (h : LT n P w bt hv wv L) (hf : Fr K w w') (h1 : ∀ c o, w.heap[c]? = some o → P c → KP c o → K c o) (h2 : ∀ c o, w.heap[c]? = some o → KWant c o → ¬ P c → K c o) : LT n P w' bt hv wv L :=
  ⟨hf.keep _ _ h.top (h1 _ _ h.top h.pt ⟨_, _, _, rfl, .inl rfl⟩), fun i hi => ownsRow_fr (h.hr i hi) hf fun b o e ho => by
    obtain ⟨cs, t, fz, hc, ht⟩ := h.ps b (h.hp i hi b e)
    have : o = _ := Option.some.inj (ho.symm.trans hc)
    exact h1 _ _ ho (h.hp i hi b e) ⟨_, _, _, this, ht⟩, h.hp, h.sep, fun i hi => (h.wr i hi).fr hf fun c o ho hc => h2 c o ho hc.2 hc.1, h.pt, fun c hc => by
    obtain ⟨cs, t, fz, he, ht⟩ := h.ps c hc
    exact ⟨cs, t, fz, hf.keep _ _ he (h1 _ _ he hc ⟨_, _, _, rfl, ht⟩), ht⟩, h.lo, h.ok⟩
theorem LTE.frk {K : Nat → Obj → Prop} {n : Nat} {P : Nat → Prop} {w w' : World} {bt : Nat} {L : Lk} (h : LTE n P w bt L) (hf : Fr K w w') (h1 : ∀ c o, w.heap[c]? = some o → P c → KP c o → K c o) (h2 : ∀ c o, w.heap[c]? = some o → KWant c o → ¬ P c → K c o) : LTE n P w' bt L := by
  obtain ⟨hv, wv, h⟩ := h
  exact ⟨hv, wv, h.frk hf h1 h2⟩
/-- The state at bs: its sessions at b1, its locks at b2. -/
structure SV (n : Nat) (P Q : Nat → Prop) (w : World) (bs b1 b2 : Nat) (M : MT) (L : Lk) : Prop where
  st : w.heap[bs]? = some (.cells #[.pointer (some ⟨b1, 0, none⟩), .pointer (some ⟨b2, 0, none⟩)] 68 (0, 0))
  se : TO n Q w b1 M
  lk : LTE n P w b2 L
section
variable {n : Nat} {P Q : Nat → Prop} {w w' : World} {bs b1 b2 : Nat} {M : MT} {L : Lk}
theorem LTE.ps {bt : Nat} (h : LTE n P w bt L) {c : Nat} (hc : P c) : ∃ o, w.heap[c]? = some o ∧ KP c o ∧ n ≤ c := by
  obtain ⟨hv, wv, h⟩ := h
  obtain ⟨cs, t, fz, he, ht⟩ := h.ps c hc
  exact ⟨_, he, ⟨_, _, _, rfl, ht⟩, h.lo c hc⟩
/-- A block of another kind is none of the locks'. -/
theorem LTE.out {bt : Nat} (h : LTE n P w bt L) {c : Nat} {o : Obj} (ho : w.heap[c]? = some o) (hk : ¬ KP c o) : ¬ P c := fun hc => by
  obtain ⟨o', ho', hk', _⟩ := h.ps hc
  rw [ho] at ho'
  cases ho'
  exact hk hk'
theorem TO.out {bt : Nat} (h : TO n Q w bt M) {c : Nat} {o : Obj} (ho : w.heap[c]? = some o) (hk : ¬ Qk o) : ¬ Q c := fun hc => by
  obtain ⟨o', ho', hk'⟩ := h.kind c hc
  rw [ho] at ho'
  cases ho'
  exact hk hk'
theorem kp_cells {c : Nat} {cs : Array Value} {t : TypeId} {fz : Nat × Nat} (h1 : t ≠ 66) (h2 : t ≠ 112) : ¬ KP c (.cells cs t fz) := by
  rintro ⟨cs', t', fz', e, h⟩
  cases e
  exact h.elim h1 h2
theorem qk_cells {cs : Array Value} {t : TypeId} {fz : Nat × Nat} (h1 : t ≠ 59) (h2 : t ≠ 109) : ¬ Qk (.cells cs t fz) := by
  rintro (⟨_, _, e⟩ | ⟨_, e⟩ | ⟨_, _, _, _, e⟩)
  · cases e
  · cases e; exact h1 rfl
  · cases e; exact h2 rfl
theorem qk_kp {c : Nat} {o : Obj} (h : Qk o) : ¬ KP c o := by
  rintro ⟨cs, t, fz, rfl, ht⟩
  rcases ht with rfl | rfl
  · exact qk_cells (by decide) (by decide) h
  · exact qk_cells (by decide) (by decide) h
theorem ku_kp {c : Nat} {o : Obj} (h : KU n c o) (hc : n ≤ c) : ¬ KP c o := by
  rintro ⟨cs, t, fz, rfl, ht⟩
  rcases h with h | ⟨_, _, e⟩
  · omega
  · cases e
    revert ht; decide
theorem SV.lock (h : SV n P Q w bs b1 b2 M L) {P' : Nat → Prop} {L' : Lk} (hl : LTE n P' w' b2 L') (k : Kp P P' w w') : SV n P' Q w' bs b1 b2 M L' := by
  refine ⟨k.fr.keep _ _ h.st (h.lk.out h.st (kp_cells (by decide) (by decide))), h.se.frk k.fr (fun b o ho hq hp => ?_) (fun b o ho hu hp => ?_), hl⟩
  · obtain ⟨o', ho', hk'⟩ := h.se.kind b hq
    rw [ho] at ho'
    cases ho'
    exact h.lk.out ho (qk_kp hk') hp
  · obtain ⟨o', ho', hk', hn⟩ := h.lk.ps hp
    rw [ho] at ho'
    cases ho'
    exact ku_kp hu hn hk'
theorem SV.sess (h : SV n P Q w bs b1 b2 M L) {Q' : Nat → Prop} {M' : MT} (ht : TO n Q' w' b1 M') (k : Kp Q Q' w w') : SV n P Q' w' bs b1 b2 M' L := by
  refine ⟨k.fr.keep _ _ h.st (h.se.out h.st (qk_cells (by decide) (by decide))), ht, h.lk.frk k.fr (fun b o ho hp hk hq => ?_) (fun b o ho hw _ hq => ?_)⟩
  · obtain ⟨o', ho', hk'⟩ := h.se.kind b hq
    rw [ho] at ho'
    cases ho'
    exact qk_kp hk' hk
  · obtain ⟨cs, fz, rfl⟩ := hw
    exact h.se.out ho (qk_cells (by decide) (by decide)) hq
def U (P Q : Nat → Prop) (c : Nat) : Prop := P c ∨ Q c
theorem SV.kpl (h : SV n P Q w bs b1 b2 M L) {P' : Nat → Prop} (k : Kp P P' w w') : Kp (U P Q) (U P' Q) w w' :=
  ⟨k.fr.mono fun c o hc hp => hc (.inl hp), fun c hl hc hq => hq.elim (fun x => k.out c hl (fun y => hc (.inl y)) x) fun x => hc (.inr x)⟩
theorem SV.kpr (h : SV n P Q w bs b1 b2 M L) {Q' : Nat → Prop} (k : Kp Q Q' w w') : Kp (U P Q) (U P Q') w w' :=
  ⟨k.fr.mono fun c o hc hp => hc (.inr hp), fun c hl hc hq => hq.elim (fun x => hc (.inl x)) fun x => k.out c hl (fun y => hc (.inr y)) x⟩
theorem SV.fr (h : SV n P Q w bs b1 b2 M L) (hf : Fr (fun _ _ => True) w w') : SV n P Q w' bs b1 b2 M L :=
  ⟨hf.keep _ _ h.st trivial, h.se.fr hf, h.lk.tt hf⟩
/-- The kinds of a state's blocks. -/
def KV (n : Nat) (P Q : Nat → Prop) (bs : Nat) (c : Nat) (o : Obj) : Prop := c = bs ∨ P c ∨ Q c ∨ KU n c o ∨ KWant c o
theorem SV.frk (h : SV n P Q w bs b1 b2 M L) {K : Nat → Obj → Prop} (hf : Fr K w w') (hK : ∀ c o, w.heap[c]? = some o → KV n P Q bs c o → K c o) : SV n P Q w' bs b1 b2 M L :=
  ⟨hf.keep _ _ h.st (hK _ _ h.st (.inl rfl)), h.se.frk hf (fun b o ho hq => hK b o ho (.inr (.inr (.inl hq)))) (fun b o ho hq => hK b o ho (.inr (.inr (.inr (.inl hq))))), h.lk.frk hf (fun b o ho hq _ => hK b o ho (.inr (.inl hq))) (fun b o ho hq _ => hK b o ho (.inr (.inr (.inr (.inr hq)))))⟩
/-- A block of a kind that no state's block is of may be written. -/
theorem SV.kv_other (h : SV n P Q w bs b1 b2 M L) {m : Nat} {cs : Array Value} {t : TypeId} {fz : Nat × Nat} (hm : w.heap[m]? = some (.cells cs t fz)) (hn : n ≤ m) (ht : t ≠ 66 ∧ t ≠ 112 ∧ t ≠ 59 ∧ t ≠ 109 ∧ t ≠ 5 ∧ t ≠ 114 ∧ t ≠ 68) : ∀ c o, w.heap[c]? = some o → KV n P Q bs c o → c ≠ m := fun c o ho hk e => by
  subst e
  rw [hm] at ho
  cases ho
  rcases hk with rfl | hp | hq | hu | hw
  · rw [h.st] at hm; cases hm; exact ht.2.2.2.2.2.2 rfl
  · exact h.lk.out hm (kp_cells ht.1 ht.2.1) hp
  · exact h.se.out hm (qk_cells ht.2.2.1 ht.2.2.2.1) hq
  · rcases hu with hu | ⟨_, _, e⟩
    · omega
    · cases e; exact ht.2.2.2.2.1 rfl
  · obtain ⟨_, _, e⟩ := hw; cases e; exact ht.2.2.2.2.2.1 rfl
end
end Go.Proofs.YtlolfcnfcgegdaaGreat
