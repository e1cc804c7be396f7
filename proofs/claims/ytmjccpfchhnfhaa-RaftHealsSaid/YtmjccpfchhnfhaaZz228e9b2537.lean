/- Texts of the proofs, part 40: what the functions that they reach do, walked; no conditions beyond those that each states. -/
import Derived.Test.YtmjccpfchhnfhaaZze14e895b2e
set_option linter.unusedVariables false
set_option linter.unusedSimpArgs false
/- Law 13: take (printed by ym.py). -/
namespace Go.Proofs.Ytmjccpfchhnfhaa
open Go.RowKit
set_option linter.unusedVariables false
set_option linter.unusedSimpArgs false
def Gs.take (s : Gs) (i : Nat) : Gs :=
 { s with aps := s.aps.set i (max (s.aps.getD i 0) (s.ns.getD i default).commit), tl := s.tl.set i (s.tl.getD i 0 + ((s.ns.getD i default).commit - max (s.aps.getD i 0) (s.ns.getD i default).log.base)) }
section
variable {B : Nat} {X X' P' : Nat → Prop} {w w' : World} {G : Nat} {l : List Rx} {ms : List MV} {tk : List (Value × Nat)} {many : Int} {vn vm vt : Value}
theorem step_append_suR {o : Oper} {a : Act} {K : Act → World → Prop} {Q : Exit → Act → World → Prop} (W : World) (s x : Operand) (ho : o.op = .call { callee := .builtin .append, args := #[s, x], argTypes := #[66, 66] })
  (v : Value) (n : Nat) (xs : List Value) (hs : a.eval s = v) (hown : W.ownsRow 0 70 4 v n xs) {B1 : Nat} (T : List (Nat × EV)) (u : Value) (hx : a.eval x = u) (hu : W.ownsRow B1 70 4 u T.length (T.flatMap encS)) (hn : n + T.length ≤ 1000000)
  (h : ∀ g c w' ys, (∃ y0, ys = y0 ++ T.flatMap encS) → w'.ownsRow 0 70 4 (.slice g (n + T.length) c) (n + T.length) ys → Fr (fun b _ => v.ownBlock ≠ some b) W w' → OwnNext W v (.slice g (n + T.length) c) → K (a.put o.dst (.slice g (n + T.length) c)) w') : o.wp Try.prog a W K Q := by
 obtain ⟨i0, hi, hz0, hz1, hz2⟩ := info_parts info_suR
 have rr : RowsAt (fun _ _ => True) W u 4 encS T := RowsAt.of_own encS_len hu fun _ _ _ => trivial
 obtain ⟨au, cu, rfl, _⟩ := rr.form
 by_cases h0 : T.length = 0
 ·have e0 := List.length_eq_zero_iff.1 h0
  subst e0
  have hrun := run_append_zero (P := Try.prog) (w := W) 0 66 o.type 70 i0 4 Try.underlying66 hi v n _ hown au cu
  unfold Oper.wp execOp
  simp only [List.length_nil] at hx
  simp only [ho, resolve, invoke, builtin, Sem.run_bind, Sem.run_pure, Result.andThen_ok, List.map_toArray, List.map_cons, List.map_nil, hs, hx, hrun]
  obtain ⟨g, c, rfl⟩ := own_form hown
  exact h g c W xs ⟨xs, (List.append_nil _).symm⟩ hown (Fr.refl _ _) (.inl rfl)
 ·obtain ⟨b, off, ob, rfl, _⟩ := rr.spot (by omega)
  rcases RowsAt.src encS_len (by decide) encS_one rr with ⟨he, _⟩ | ⟨ad, c, he, hl, hc, ho1⟩
  ·cases he
  ·cases he
   exact wp_append_own2 W s x 66 ho 0 70 i0 _ 4 48 Try.underlying66 hi hz0 hz1 hz2 rfl (by decide) v n _ hs hown _ T.length _ _ hx hl hc ho1 (by unfold maxLen; omega) (by omega) (Nat.zero_le _) fun v' w' h2 h3 h4 => by
    obtain ⟨g, c, rfl⟩ := own_form h2
    exact h g c w' _ ⟨xs, rfl⟩ h2 (.of_grown h3 fun k o e _ hk => hk e) h4
theorem own_set1 {w : World} {B g n cap : Nat} {t : TypeId} {xs : List Value} (h : w.ownsRow B t 1 (.slice (some ⟨g, 0, none⟩) n cap) n xs) (i : Nat) (hi : i < n) (v : Value) : (w.setCell ⟨g, i, none⟩ v).ownsRow B t 1 (.slice (some ⟨g, 0, none⟩) n cap) n (xs.set i v) := by
 obtain ⟨hl, h⟩ := h
 refine ⟨by rw [List.length_set]; exact hl, ?_⟩
 rcases h with ⟨h, _⟩ | ⟨g', cap', cur, e, hb, hg, hn, hc, hs, ht⟩
 ·cases h
 ·cases e
  refine .inr ⟨g, cap, cur.setIfInBounds i v, rfl, hb, heap_setCell_same hg _, hn, hc, by simpa using hs, ?_⟩
  rw [← ht, Array.toList_setIfInBounds, List.take_set]
theorem G13.trow [Old] [NoOld] (h : G13 B X w G l ms tk many vn vm vt) (h0 : 0 < tk.length) : ∃ gt ct, vt = .slice (some ⟨gt, 0, none⟩) tk.length ct ∧ ∀ W, Fr (fun k _ => k ≠ gt → False) w W → True := by
 rcases h.rt.2 with ⟨_, e⟩ | ⟨g, cap, cur, e, r⟩
 ·omega
 ·exact ⟨g, cap, e, fun _ _ => trivial⟩
def TkA (w : World) (G i N cnt at' : Nat) : Prop := 0 < cnt → ∃ gt ct g c k, w.cell? ⟨G, 2, none⟩ = some (.slice (some ⟨gt, 0, none⟩) N ct) ∧ w.cell? ⟨gt, i, none⟩ = some (.slice (some ⟨g, 0, none⟩) (k + 1) c) ∧ k ≤ 1000000 ∧ w.cell? ⟨g, k * 4, none⟩ = some (.int .u64 (at' : Nat))
theorem takeL_end {base lo cnt : Nat} {es : List EV} (h : 0 < cnt) : ∃ t0 e, (takeL base es lo cnt).flatMap encS = t0 ++ encS (lo + cnt, e) := by
 obtain ⟨k, rfl⟩ : ∃ k, cnt = k + 1 := ⟨cnt - 1, by omega⟩
 rw [takeL_succ, List.flatMap_append]
 exact ⟨(takeL base es lo k).flatMap encS, entV base es (lo + 1 + k), by rw [show lo + (k + 1) = lo + 1 + k by omega]; simp only [List.flatMap_cons, List.flatMap_nil, List.append_nil]⟩
theorem own_cell4 {w : World} {B : Nat} {e : TypeId} {g n c : Nat} {xs : List Value} (h : w.ownsRow B e 4 (.slice (some ⟨g, 0, none⟩) n c) n xs) (i : Nat) (hi : i < xs.length) : w.cell? ⟨g, i, none⟩ = some xs[i] := by
 rcases h.2 with ⟨h, _⟩ | ⟨g', cap, cur, h, _, hg, hn, _, hs, ht⟩
 ·cases h
 ·cases h
  have h1 := h.1
  refine cell_mk hg ?_
  have h2 : (cur.toList.take (n * 4))[i]? = some xs[i] := by rw [ht]; exact List.getElem?_eq_getElem hi
  rw [List.getElem?_take, if_pos (by omega)] at h2
  simpa using h2
theorem own_end {w : World} {B n : Nat} {v : Value} {ys y0 : List Value} {x : Nat × EV} (h : w.ownsRow B 70 4 v n ys) (e : ys = y0 ++ encS x) : ∃ g c k, v = .slice (some ⟨g, 0, none⟩) (k + 1) c ∧ n = k + 1 ∧ w.cell? ⟨g, k * 4, none⟩ = some (.int .u64 (x.1 : Nat)) := by
 have hl := h.1
 rw [e, List.length_append, encS_len] at hl
 rcases h.2 with ⟨_, h0⟩ | ⟨g, cap, cur, hv, _⟩
 ·omega
 ·subst hv
  refine ⟨g, cap, n - 1, by rw [show n - 1 + 1 = n by omega], by omega, ?_⟩
  have hk : (n - 1) * 4 = y0.length := by omega
  have := own_cell4 h ((n - 1) * 4) (by rw [e, List.length_append, encS_len]; omega)
  rw [this]
  simp only [e, hk, List.getElem_append_right (Nat.le_refl y0.length), Nat.sub_self]
  rfl
set_option maxRecDepth 100000 in
set_option maxHeartbeats 8000000 in
theorem takeA_calls [Old] [NoOld] (h : G13 B X w G l ms tk many vn vm vt) (i : Nat) (hi : i < l.length) (hap : l[i].ap ≤ 900000) (hcm : l[i].n.commit ≤ 900000) (hb : l[i].n.log.base ≤ 900000) (hla : l[i].n.log.last ≤ 900000) (htk : ∀ x ∈ tk, x.2 ≤ 90000) (hl9 : l.length ≤ 1000) :
  Calls Try.prog 17 #[.pointer (some ⟨G, 0, none⟩), .int .i64 (i : Nat)] w fun e w' => GOut B w G ((St l ms tk many).take i) e w' ∧ TkA w' G i l.length (l[i].n.commit - max l[i].ap l[i].n.log.base) (max l[i].ap l[i].n.log.base + (l[i].n.commit - max l[i].ap l[i].n.log.base)) := by
 obtain ⟨gn, cn, hvn, NC⟩ := h.nrow (by omega)
 have hit : i < tk.length := by rw [h.tl]; exact hi
 obtain ⟨gt, ct, hvt, -⟩ := h.trow (by omega)
 obtain ⟨x, hx⟩ : ∃ x, l[i] = x := ⟨_, rfl⟩
 have hxl : x ∈ l := hx ▸ List.getElem_mem hi
 have hxe : l[i]'hi = x := hx
 obtain ⟨y, hy⟩ : ∃ y, tk[i] = y := ⟨_, rfl⟩
 have hyt : y ∈ tk := hy ▸ List.getElem_mem hit
 obtain ⟨⟨yx, hyr⟩, hyx⟩ := h.ts y hyt
 obtain ⟨ga, ca, hya⟩ := own_form hyr
 obtain ⟨rb, hrb⟩ : ∃ z, x.rb = z := ⟨_, rfl⟩
 obtain ⟨b, hbb⟩ : ∃ z, x.b = z := ⟨_, rfl⟩
 obtain ⟨ap, happ⟩ : ∃ z, x.ap = z := ⟨_, rfl⟩
 obtain ⟨k9, hk9⟩ : ∃ z, y.2 = z := ⟨_, rfl⟩
 obtain ⟨q, hq⟩ := h.nd x hxl
 obtain ⟨hr, hrx, -⟩ := h.rb x hxl
 have hyk := htk y hyt
 rw [hxe] at hap hcm hb hla
 rw [hrb, hbb, happ] at hr
 rw [hrb] at hrx
 rw [happ] at hap
 rw [hk9] at hya hyk hyr
 obtain ⟨N, hN⟩ : ∃ z, l.length = z := ⟨_, rfl⟩
 have hNt : tk.length = N := by rw [h.tl]; exact hN
 rw [hN] at hvn hl9
 rw [hNt] at hvt
 obtain ⟨base, hbase⟩ : ∃ z, x.n.log.base = z := ⟨_, rfl⟩
 obtain ⟨cm, hcmm⟩ : ∃ z, x.n.commit = z := ⟨_, rfl⟩
 obtain ⟨cnt, hcnt⟩ : ∃ z, cm - max ap base = z := ⟨_, rfl⟩
 rw [hcmm] at hcm
 have hcn9 : cnt ≤ 900000 := by omega
 have TC : Hid (Calls Try.prog 34 #[.pointer (some ⟨rb, 0, none⟩)] w.drew fun e w' => TkOut w.drew rb b ap base q.es cm e w') := by
  have := rtake_calls (hq.tt (Fr.refl _ w).drew) (rb := rb) (ap := ap) (by rw [hbb]; exact hr.fr (K := fun _ _ => True) (Fr.refl _ w).drew fun _ => trivial) (by omega) (by omega) (by omega) (by omega)
  rw [hbb, hbase, hcmm] at this
  exact this
 have TE : Hid (∀ W', TkA W' G i N cnt (max ap base + cnt) → TkA W' G i l.length (l[i].n.commit - max l[i].ap l[i].n.log.base) (max l[i].ap l[i].n.log.base + (l[i].n.commit - max l[i].ap l[i].n.log.base))) := fun W' h => by rw [hxe, hbase, hcmm, happ, hcnt, hN]; exact h
 have TT : Hid (takeL base q.es (max ap base) cnt = takeL base q.es (max ap base) cnt) := rfl
 obtain ⟨tl, htl⟩ : ∃ z, takeL base q.es (max ap base) cnt = z := ⟨_, rfl⟩
 have htll : tl.length = cnt := by rw [← htl]; exact takeL_len _ _ _ _
 have H := Lib.hid h
 have gG : Hid (G ≠ rb ∧ (Value.slice ga k9 ca).ownBlock ≠ some G ∧ gn ≠ rb ∧ (Value.slice ga k9 ca).ownBlock ≠ some gn ∧ gt ≠ rb ∧ (Value.slice ga k9 ca).ownBlock ≠ some gt ∧ (Value.slice ga k9 ca).ownBlock ≠ some rb) := by
  have e1 := tag_cell hyr h.top (by decide)
  have e2 := tag_cell hyr hr (by decide)
  have e3 := tag_cell h.rn hr (by decide)
  have e4 := tag_cell h.rt hr (by decide)
  rw [hvn] at e3
  rw [hvt] at e4
  rw [hya] at e1 e2
  refine ⟨fun e => ?_, e1, fun e => e3 (by rw [e]; rfl), fun e => ?_, fun e => e4 (by rw [e]; rfl), fun e => ?_, e2⟩
  ·have h1 := hr
   unfold RB at h1
   rw [← e, h.top] at h1
   cases h1
  ·exact tag_ne hyr h.rn (by decide) (by rw [hya]; exact e) (by rw [hvn]; rfl)
  ·exact tag_ne hyr h.rt (by decide) (by rw [hya]; exact e) (by rw [hvt]; rfl)
 have CW : Hid (∀ W, Fr (fun k _ => k ≠ rb ∧ (Value.slice ga k9 ca).ownBlock ≠ some k) w W → W.cell? ⟨G, 0, none⟩ = some (.slice (some ⟨gn, 0, none⟩) N cn) ∧ W.cell? ⟨G, 2, none⟩ = some (.slice (some ⟨gt, 0, none⟩) N ct) ∧ W.cell? ⟨gn, i, none⟩ = some (.pointer (some ⟨rb, 0, none⟩)) ∧ W.cell? ⟨gt, i, none⟩ = some (.slice ga k9 ca)) := fun W f => by
  have tG := f.keep _ _ h.top ⟨gG.out.1, gG.out.2.1⟩
  have rn := ownsRow_fr h.rn f fun k o e ho => ⟨fun hk => gG.out.2.2.1 (by rw [hvn] at e; cases e; exact hk), fun hk => gG.out.2.2.2.1 (by rw [hvn] at e; cases e; exact hk)⟩
  have rt := ownsRow_fr h.rt f fun k o e ho => ⟨fun hk => gG.out.2.2.2.2.1 (by rw [hvt] at e; cases e; exact hk), fun hk => gG.out.2.2.2.2.2.1 (by rw [hvt] at e; cases e; exact hk)⟩
  rw [hvn, hN] at rn
  rw [hvt, hNt] at rt
  have c1 := own_cell1 rn i (by rw [List.length_map, hN]; omega)
  have c2 := own_cell1 rt i (by rw [List.length_map, hNt]; omega)
  rw [List.getElem_map, hxe] at c1
  rw [List.getElem_map] at c2
  refine ⟨by rw [cell_mk tG rfl, hvn]; rfl, by rw [cell_mk tG rfl, hvt]; rfl, by rw [c1, ← hrb], ?_⟩
  rw [c2, ← hya]
  exact congrArg (fun z : Value × Nat => some z.1) hy
 obtain ⟨mx, hmx⟩ : ∃ z, max ap cm = z := ⟨_, rfl⟩
 have ES : Hid ((St l ms tk many).take i = St (l.set i ⟨x.b, x.rb, x.n, mx, x.P⟩) ms (tk.set i (default, k9 + cnt)) many) := by
  show (St l ms tk many).take i = _
  have e1 : (St l ms tk many).ns.getD i default = x.n := by
   show (l.map (·.n)).getD i default = x.n
   rw [List.getD_eq_getElem?_getD, List.getElem?_map, List.getElem?_eq_getElem hi]; exact congrArg (fun y : Rx => y.n) hx
  have e2 : (St l ms tk many).aps.getD i 0 = ap := by
   show (l.map (·.ap)).getD i 0 = ap
   rw [List.getD_eq_getElem?_getD, List.getElem?_map, List.getElem?_eq_getElem hi, ← happ]; exact congrArg (fun y : Rx => y.ap) hx
  have e3 : (St l ms tk many).tl.getD i 0 = k9 := by
   show (tk.map Prod.snd).getD i 0 = k9
   rw [List.getD_eq_getElem?_getD, List.getElem?_map, List.getElem?_eq_getElem hit, ← hk9]; exact congrArg (fun y : Value × Nat => y.2) hy
  unfold Gs.take
  rw [e1, e2, e3, hbase, hcmm, hmx, hcnt]
  unfold St
  have en : (l.set i ⟨x.b, x.rb, x.n, mx, x.P⟩).map (·.n) = l.map (·.n) := by
   rw [List.map_set]
   apply List.ext_getElem?
   intro j
   rw [List.getElem?_set]
   split
   ·rename_i e
    subst e
    rw [if_pos (by rw [List.length_map]; exact hi), List.getElem?_map, List.getElem?_eq_getElem hi]
    show some x.n = some (l[i]'hi).n
    exact (congrArg (fun y : Rx => some y.n) hx).symm
   ·rfl
  rw [en, List.map_set, List.map_set]
 have HX := Lib.hid (And.intro hxe (And.intro hrb (And.intro hbb (And.intro happ (And.intro hy (And.intro hya (And.intro hk9 (And.intro hvt hNt))))))))
 have HIT := Lib.hid (And.intro hi (And.intro hit hmx))
 have OY : Hid (w.ownsRow B 70 4 (.slice ga k9 ca) k9 yx) := by show World.ownsRow _ _ _ _ _ _ _; rw [← hya]; exact hyr
 have HT := Lib.hid (And.intro htl htll)
 have HRT := Lib.hid (And.intro h.rt hN)
 have hiN : i < N := by omega
 have hiI : (i : Int) < (N : Int) := by omega
 have hN9 : (N : Int) ≤ 1000 := by omega
 have hk99 : k9 + cnt ≤ 1000000 := by omega
 obtain ⟨kc, hkc⟩ : ∃ z, k9 + cnt = z := ⟨_, rfl⟩
 have HCK := Lib.hid (And.intro hkc (And.intro hcnt hk99))
 rw [hkc] at ES
 have CW0 : Hid (∀ W, Fr (fun k _ => k ≠ rb) w W → Fr (fun k _ => k ≠ rb ∧ (Value.slice ga k9 ca).ownBlock ≠ some k) w W) := fun W f => f.mono fun _ _ h => h.1
 clear h hap hcm hb hla htk hl9 NC hx hxl hxe hy hyt hyr hyx hya hrb hbb happ hk9 hq hr hrx hyk hN hNt hvn hvt hbase hcmm hcnt hcn9 htl htll hmx hk99 hkc
 obtain ⟨p1, hp1⟩ : ∃ p : Value → World → Prop, (fun v W => ∃ g c, v = .slice g cnt c ∧ W.ownsRow w.heap.size 70 4 (.slice g cnt c) cnt (tl.flatMap encS) ∧ RB W rb b mx ∧ Fr (fun k _ => k ≠ rb) w W) = p := ⟨_, rfl⟩
 obtain ⟨p2, hp2⟩ : ∃ p : Value → Value → World → Prop, (fun v u W => ∃ w1 g c ys, Fr (fun k _ => k ≠ rb) w w1 ∧ RB w1 rb b mx ∧ u = .slice g kc c ∧ W.ownsRow B 70 4 (.slice g kc c) kc ys ∧ Fr (fun k _ => (Value.slice ga k9 ca).ownBlock ≠ some k) w1 W ∧ OwnNext w1 (Value.slice ga k9 ca) (.slice g kc c) ∧ ∃ y0, ys = y0 ++ tl.flatMap encS) = p := ⟨_, rfl⟩
 have M1 : Hid (∀ v W, p1 v W ↔ ∃ g c, v = .slice g cnt c ∧ W.ownsRow w.heap.size 70 4 (.slice g cnt c) cnt (tl.flatMap encS) ∧ RB W rb b mx ∧ Fr (fun k _ => k ≠ rb) w W) := fun v W => by rw [← hp1]
 have M2 : Hid (∀ v u W, p2 v u W ↔ ∃ w1 g c ys, Fr (fun k _ => k ≠ rb) w w1 ∧ RB w1 rb b mx ∧ u = .slice g kc c ∧ W.ownsRow B 70 4 (.slice g kc c) kc ys ∧ Fr (fun k _ => (Value.slice ga k9 ca).ownBlock ≠ some k) w1 W ∧ OwnNext w1 (Value.slice ga k9 ca) (.slice g kc c) ∧ ∃ y0, ys = y0 ++ tl.flatMap encS) := fun v u W => by rw [← hp2]
 clear hp1 hp2
 have P1 : Hid (∀ (v : Value) (W : World), p1 v W → Fr (fun k _ => k ≠ rb ∧ (Value.slice ga k9 ca).ownBlock ≠ some k) w W) := fun v W h => by
  obtain ⟨g, c, _, _, _, f⟩ := (M1.out v W).1 h
  exact CW0.out W f
 have P2 : Hid (∀ (v u : Value) (W : World), p2 v u W → Fr (fun k _ => k ≠ rb ∧ (Value.slice ga k9 ca).ownBlock ≠ some k) w W) := fun v u W h => by
  obtain ⟨w1, g, c, ys, f1, _, _, _, f2, _⟩ := (M2.out v u W).1 h
  exact (CW0.out w1 f1).trans (f2.mono fun _ _ h => h.2)
 go_enter Try.func17, Try.ntmps17
 go_wp2_with fail
 refine wp_region_cj (by kernel_rfl) [(4, 0), (5, 1), (6, 2), (7, 3), (8, 4), (9, 5), (10, 6), (11, 7), (12, 8), (13, 9), (14, 10), (15, 11), (16, 12), (17, 13), (18, 14), (19, 15), (20, 16), (21, 17), (22, 18), (23, 19), (24, 20)] [(0, []), (1, [0]), (2, [1]), (3, [2]), (4, []), (5, []), (6, [5]), (7, [6]), (8, [7]), (9, []), (10, [8, 9]), (11, [10]), (12, []), (13, [12]), (14, [13]), (15, [14]), (16, []), (17, [15, 16]), (18, [17]), (19, [18]), (20, [11, 19])] (JJ [(0, .pointer (some ⟨G, 0, none⟩)), (1, .pointer (some ⟨G, 0, none⟩)), (2, .pointer (some ⟨G, 2, none⟩)), (3, .slice (some ⟨gt, 0, none⟩) N ct), (4, .int .i64 (i : Nat)), (5, .pointer (some ⟨G, 0, none⟩)), (6, .pointer (some ⟨G, 0, none⟩)), (7, .pointer (some ⟨G, 2, none⟩)), (8, .slice (some ⟨gt, 0, none⟩) N ct), (9, .int .i64 (i : Nat)), (10, .pointer (some ⟨gt, i, none⟩)), (11, .slice ga k9 ca), (12, .pointer (some ⟨G, 0, none⟩)), (13, .pointer (some ⟨G, 0, none⟩)), (14, .pointer (some ⟨G, 0, none⟩)), (15, .slice (some ⟨gn, 0, none⟩) N cn), (16, .int .i64 (i : Nat)), (17, .pointer (some ⟨gn, i, none⟩)), (18, .pointer (some ⟨rb, 0, none⟩))] 19 20 w.drew p1 p2) 2 (by kernel_rfl) (by kernel_rfl) (by kernel_rfl) rfl (fun xs => ⟨fun j v _ h => (by cases h), fun _ => rfl, fun h => (by cases h), fun h => (by cases h), fun h => (by cases h)⟩) ?zall ?zend
 case zall =>
  iterate 19
   refine CjAll.kk rfl rfl (by decide) (by decide) ?_ ?_
   ·intro d xs W hJ hE K' hK
    have HC := Lib.hid (CW.out W (JJ.all (R := fun W => Fr (fun k _ => k ≠ rb ∧ (Value.slice ga k9 ca).ownBlock ≠ some k) w W) hJ (CW0.out _ (Fr.refl _ _).drew) P1.out P2.out))
    clear hJ
    simp only [ckEqs, ckLook, Nat.reduceBEq] at hE
    simp only [fillA, fillL, sA, sB, sC, Act.put, hE] at hK ⊢
    clear hE
    obtain ⟨c0, c2, cn1, ct1⟩ := HC.out
    (try simp only [gA, gB, gC])
    go_simp
    exact hK.out _ rfl
  refine CjAll.cons rfl ?_ ?_
  ·intro d xs W hd ha hJ K' hK
   have hE := hJ.eqs _ ha
   have HJ := Lib.hid hJ
   have HD := Lib.hid hd
   clear hJ ha hd
   simp only [ckEqs, ckLook, Nat.reduceBEq] at hE
   simp only [fillA, fillL, sA, sB, sC, Act.put, hE] at hK ⊢
   clear hE
   obtain rfl := HJ.out.a HD.out
   (try simp only [gA, gB, gC])
   go_simp
   (with_reducible refine TC.out.mono ?_)
   rintro e w8 ⟨g, c, he, o8, r8, f8⟩
   rw [HCK.out.2.1] at he o8
   rw [HT.out.1] at o8
   rw [HIT.out.2.2] at r8
   subst he
   exact hK.out _ _ _ rfl (HJ.out.one (by decide) HD.out rfl ((M1.out _ _).2 ⟨g, c, rfl, o8, r8, ((Fr.refl _ _).drew).trans f8⟩))
  refine CjAll.cons rfl ?_ ?_
  ·intro d xs W hd ha hJ K' hK
   have H19 : Hid (d 19 = true) := ha 19 (by decide)
   have hE := hJ.eqs _ ha
   have HJ := Lib.hid hJ
   have HPJ := Lib.hid ((M1.out _ _).1 (hJ.b H19.out hd))
   clear hJ ha hd
   simp only [ckEqs, ckLook, Nat.reduceBEq] at hE
   simp only [fillA, fillL, sA, sB, sC, Act.put, hE] at hK ⊢
   clear hE
   obtain ⟨g, c, e19, o8, r8, f8⟩ := HPJ.out
   rw [e19] at hK ⊢
   have O8 : Hid (W.ownsRow w.heap.size 70 4 (.slice g cnt c) tl.length (tl.flatMap encS)) := by show World.ownsRow _ _ _ _ _ _ _; rw [HT.out.2]; exact o8
   have HH := Lib.hid (And.intro r8 f8)
   have OYW : W.ownsRow B 70 4 (.slice ga k9 ca) k9 yx := ownsRow_fr OY.out f8 fun k o e ho hk => gG.out.2.2.2.2.2.2 (hk ▸ e)
   have hl9 : k9 + tl.length ≤ 1000000 := by rw [HT.out.2]; exact HCK.out.2.2
   clear o8 r8 f8
   (try simp only [gA, gB, gC])
   refine (iteInduction (motive := fun t => t) (fun _ => ?_) (fun hn => absurd rfl hn))
   with_reducible refine step_append_suR (K := fun a w => K' a w) W (.tmp 15) (.tmp 23) (by rfl) (.slice ga k9 ca) k9 yx (by simp [Act.eval, Act.put, fillA, fillL, sA, sB, sC]) (own_re OYW fun _ _ => Nat.zero_le _) tl (.slice g cnt c) (by simp [Act.eval, Act.put, fillA, fillL, sA, sB, sC]) O8.out hl9 ?_
   intro g9 c9 w9 ys y9 o9 f9 n9
   rw [HT.out.2, HCK.out.1] at o9 n9 ⊢
   refine hK.out _ _ _ rfl (HJ.out.two (by decide) H19.out rfl ((M2.out _ _ _).2 ⟨W, g9, c9, ys, HH.out.2, HH.out.1, rfl, own_re o9 fun q e => ?_, f9, n9, y9⟩))
   rcases n9 with q9 | ⟨k8, q9, hk8⟩
   ·rw [q9] at e; exact own_base OYW q e
   ·rw [q9] at e; cases e; exact Nat.le_trans H.out.bs (Nat.le_trans HH.out.2.size hk8)
  exact CjAll.nil
 case zend =>
  intro d xs W hd hJ
  obtain ⟨w1, g, c, ys, f1, r1, e20, o20, f20, n20, y20⟩ := (M2.out _ _ _).1 (hJ.c (hd (20, [11, 19]) (by decide)))
  have hE := hJ.eqs ([0, 1, 2, 3, 4, 5, 6, 7, 8, 9, 10, 11, 12, 13, 14, 15, 16, 17, 18] : List Nat) (fun j hj => by
   have h3 : ∀ q ∈ ([0, 1, 2, 3, 4, 5, 6, 7, 8, 9, 10, 11, 12, 13, 14, 15, 16, 17, 18] : List Nat), ∃ p ∈ ([(0, []), (1, [0]), (2, [1]), (3, [2]), (4, []), (5, []), (6, [5]), (7, [6]), (8, [7]), (9, []), (10, [8, 9]), (11, [10]), (12, []), (13, [12]), (14, [13]), (15, [14]), (16, []), (17, [15, 16]), (18, [17]), (19, [18]), (20, [11, 19])] : List (Nat × List Nat)), p.1 = q := by decide
   obtain ⟨p, h4, rfl⟩ := h3 j hj
   exact hd _ h4)
  have FW := Lib.hid (P2.out (xs 19) (xs 20) W ((M2.out _ _ _).2 ⟨w1, g, c, ys, f1, r1, e20, o20, f20, n20, y20⟩))
  obtain ⟨c0, c2, cn1, ct1⟩ := CW.out W FW.out
  have HH := Lib.hid (And.intro f1 (And.intro r1 (And.intro o20 (And.intro f20 n20))))
  have Y20 := Lib.hid y20
  clear hJ f1 r1 o20 f20 n20 y20
  simp only [ckEqs, ckLook, Nat.reduceBEq] at hE
  simp only [fillA, fillL, sA, sB, sC, hE, e20]
  clear hE e20
  have RTW : Hid (W.ownsRow B 66 1 (.slice (some ⟨gt, 0, none⟩) N ct) N (tk.map Prod.fst)) := by
   have := ownsRow_fr HRT.out.1 FW.out fun k o e ho => ⟨fun hk => gG.out.2.2.2.2.1 (by rw [HX.out.2.2.2.2.2.2.2.1] at e; cases e; exact hk), fun hk => gG.out.2.2.2.2.2.1 (by rw [HX.out.2.2.2.2.2.2.2.1] at e; cases e; exact hk)⟩
   rw [HX.out.2.2.2.2.2.2.2.1, HX.out.2.2.2.2.2.2.2.2] at this
   exact this
  obtain ⟨curt, hct⟩ := own_tag RTW.out (c := gt) rfl
  have zt := frozen_mk (i := i) hct
  obtain ⟨W9, hW9⟩ : ∃ Y, W.setCell ⟨gt, i, none⟩ (.slice g kc c) = Y := ⟨_, rfl⟩
  have F9 : Hid (Fr (fun k _ => k ≠ gt) W W9) := hW9 ▸ (Fr.refl _ _).setCell (fun _ _ h => h rfl) _
  have R9 : Hid (W9.ownsRow B 66 1 (.slice (some ⟨gt, 0, none⟩) N ct) N ((tk.map Prod.fst).set i (.slice g kc c))) := hW9 ▸ own_set1 RTW.out i hiN _
  clear hct
  refine wpAny_next 21 (by kernel_rfl) rfl fun K' hK => ?_
  (try simp only [gA, gB, gC])
  go_simp
  refine hK.out _ _ ?_
  clear hK K'
  refine wpAny_next 22 (by kernel_rfl) rfl fun K' hK => ?_
  (try simp only [gA, gB, gC])
  go_simp
  refine hK.out _ _ ?_
  clear hK K'
  refine wpAny_fin (by kernel_rfl) ?_
  try rw [hW9]
  clear hW9 zt c0 c2 cn1 ct1
  have G1 := H.out.apply (w' := w1) (ap' := mx) i HIT.out.1 (by rw [HX.out.1, HX.out.2.1]; exact HH.out.1) (by rw [HX.out.1, HX.out.2.1, HX.out.2.2.1]; exact HH.out.2.1)
  have e5 : (tk[i]'HIT.out.2.1).1 = .slice ga k9 ca := by rw [← HX.out.2.2.2.2.2.1]; exact congrArg Prod.fst HX.out.2.2.2.2.1
  have G2 := G1.took (w' := W9) (v' := .slice g kc c) (k' := kc) i HIT.out.2.1 (by
   rw [e5, HX.out.2.2.2.2.2.2.2.1]
   exact (HH.out.2.2.2.1.mono fun k _ h => h.1).trans (F9.out.mono fun k _ h e => h.2 (by rw [e]; rfl))) ⟨ys, ownsRow_fr HH.out.2.2.1 F9.out fun k o e ho hk => tag_ne RTW.out HH.out.2.2.1 (by decide) rfl (hk ▸ e)⟩ (by rw [e5]; exact HH.out.2.2.2.2) (by
   rw [List.map_set, HX.out.2.2.2.2.2.2.2.1, HX.out.2.2.2.2.2.2.2.2]
   exact R9.out)
  have FB : Fr (fun q _ => q < B) w W9 := (FW.out.mono fun q _ hq => ⟨fun e => by
   have h9 := (H.out.rb _ (List.getElem_mem HIT.out.1)).2.2
   rw [HX.out.1, HX.out.2.1] at h9
   have hq' : q < B := hq
   omega, fun e => by have := own_base OY.out q e; have hq' : q < B := hq; omega⟩).trans (F9.out.mono fun q _ hq e => by
   have h9 := own_base RTW.out gt rfl
   have hq' : q < B := hq
   omega)
  go_wp2
  go_end0
  rw [ES.out]
  refine ⟨⟨rfl, ⟨X, _, ms, _, many, vn, vm, vt, G2, ?_⟩, FB⟩, TE.out _ fun hc0 => ?_⟩
  rotate_left
  ·obtain ⟨y0, ey⟩ := Y20.out
   obtain ⟨t0, ev, et⟩ := takeL_end (base := base) (lo := max ap base) (es := q.es) hc0
   rw [HT.out.1] at et
   have O9 := ownsRow_fr HH.out.2.2.1 F9.out fun k o e ho hk => tag_ne RTW.out HH.out.2.2.1 (by decide) rfl (hk ▸ e)
   obtain ⟨ga9, ca9, ka9, hva, hka, hce⟩ := own_end O9 (y0 := y0 ++ t0) (x := (max ap base + cnt, ev)) (by rw [ey, et, List.append_assoc])
   have r9 := own_cell1 R9.out i (by rw [List.length_set, List.length_map]; exact HIT.out.2.1)
   rw [List.getElem_set_self] at r9
   rw [hka] at hva
   rw [hka, hva] at r9
   have t9 := (G2.gcells (Fr.refl _ _)).2.2.1
   rw [HX.out.2.2.2.2.2.2.2.1] at t9
   exact ⟨gt, ct, ga9, ca9, ka9, t9, r9, by have := HCK.out.2.2; have := HCK.out.1; omega, hce⟩
  unfold St
  have ex : (l[i]'HIT.out.1) = x := HX.out.1
  have et : (tk.set i (.slice g kc c, kc)).map Prod.snd = (tk.set i (default, kc)).map Prod.snd := by rw [List.map_set, List.map_set]
  rw [ex, et]
theorem take_calls [Old] [NoOld] (h : G13 B X w G l ms tk many vn vm vt) (i : Nat) (hi : i < l.length) (hap : l[i].ap ≤ 900000) (hcm : l[i].n.commit ≤ 900000) (hb : l[i].n.log.base ≤ 900000) (hla : l[i].n.log.last ≤ 900000) (htk : ∀ x ∈ tk, x.2 ≤ 90000) (hl9 : l.length ≤ 1000) :
  Calls Try.prog 17 #[.pointer (some ⟨G, 0, none⟩), .int .i64 (i : Nat)] w fun e w' => GOut B w G ((St l ms tk many).take i) e w' := (takeA_calls h i hi hap hcm hb hla htk hl9).mono fun e w' q => q.1
end
end Go.Proofs.Ytmjccpfchhnfhaa
