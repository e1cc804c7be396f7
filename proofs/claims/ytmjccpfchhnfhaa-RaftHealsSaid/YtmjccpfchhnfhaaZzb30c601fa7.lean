/- Texts of the proofs, part 25: what the functions that they reach do, walked; no conditions beyond those that each states. -/
import Derived.Deep.QuietTactic
import Derived.BigQuiet
import Derived.Test.YtmjccpfchhnfhaaZz73141c9327
set_option linter.unusedVariables false
set_option linter.unusedSimpArgs false
/- follow: node, behind, To (printed by fl1.py). -/
namespace Go.Proofs.Ytmjccpfchhnfhaa
open Go.RowKit
set_option linter.unusedVariables false
set_option linter.unusedSimpArgs false
theorem fnode_calls (w : World) (x : Int) : Calls Try.prog 67 #[.int .i64 x] w fun e w' => e = .returned (.bool (decide (0 ≤ x ∧ x < 16))) ∧ w = w' := by
 by_cases h0 : 0 ≤ x
 ·by_cases h1 : x < 16
  ·rw [decide_eq_true (show 0 ≤ x ∧ x < 16 from ⟨h0, h1⟩)]
   go_enter Try.func67, Try.ntmps67
   go_wp2
   go_ret
   exact ⟨rfl, rfl⟩
  ·rw [decide_eq_false (show ¬ (0 ≤ x ∧ x < 16) from fun e => h1 e.2)]
   go_enter Try.func67, Try.ntmps67
   go_wp2
   go_ret
   exact ⟨rfl, rfl⟩
 ·rw [decide_eq_false (show ¬ (0 ≤ x ∧ x < 16) from fun e => h0 e.1)]
  go_enter Try.func67, Try.ntmps67
  go_wp2
  go_ret
  exact ⟨rfl, rfl⟩
section
variable {X P : Nat → Prop} {w w' : World} {b : Nat} {n n' : Nd} {q q' : NV}
theorem PNs.lg [Old] (h : PNs X P w b n q) : ∃ ae le ce, q.ve = .slice ae le ce ∧ n.log.es.length = le ∧ (∀ W, FT w W → EsAt X W (.slice ae le ce) q.es) ∧ lgE n.log.base n.log.bt q.es = n.log := by
 obtain ⟨a, c, e, _⟩ := h.ev.row.form
 refine ⟨a, _, c, e, h.esl, fun W f => ?_, ?_⟩
 ·rw [← e]; exact h.ev.tt f
 ·unfold lgE; rw [← h.ee]
set_option maxRecDepth 100000 in
set_option maxHeartbeats 2000000 in
theorem fbehind_calls [Old] (h : PNs X P w b n q) (t : Nat) (ht : t < 16) : Calls Try.prog 70 #[.pointer (some ⟨b, 0, none⟩), .int .i64 (t : Nat)] w fun e w' => e = .returned (.bool (decide (n.next.getD t 0 ≤ n.log.base))) ∧ ∃ m, w' = w.drewN m := by
 obtain ⟨x0, x1, x2, x3, x4, x5, x6, x7, x8, x9, x10, x11, x12, x13⟩ := h.cells (Fr.refl _ w)
 have z := h.nx.cell t ht
 obtain ⟨nt, hnt⟩ : ∃ x, n.next.getD t 0 = x := ⟨_, rfl⟩
 obtain ⟨bs, hbs⟩ : ∃ x, n.log.base = x := ⟨_, rfl⟩
 rw [hnt] at z ⊢
 rw [hbs] at x8 ⊢
 clear hnt hbs h x0 x1 x2 x3 x4 x5 x6 x7 x9 x10 x11 x13
 by_cases g : nt ≤ bs
 ·have g1 : decide (nt ≤ bs) = true := decide_eq_true g
  rw [g1]
  go_enter Try.func70, Try.ntmps70
  go_wp2_with fail
  go_quiet (fail)
  go_wp2
  go_ret
  exact ⟨rfl, _, rfl⟩
 ·have g1 : decide (nt ≤ bs) = false := decide_eq_false g
  rw [g1]
  go_enter Try.func70, Try.ntmps70
  go_wp2_with fail
  go_quiet (fail)
  go_wp2
  go_ret
  exact ⟨rfl, _, rfl⟩
def MOut [Old] (X : Nat → Prop) (w : World) (ms : List Ms) (e : Ending) (w' : World) : Prop := (∃ v mvs, e = .returned v ∧ OwnMs X w.heap.size w' v mvs ∧ mvs.map MV.ms = ms) ∧ FT w w'
theorem MOut.none [Old] {X : Nat → Prop} {w w' : World} (f : FT w w') : MOut X w [] (.returned (.slice none 0 0)) w' := ⟨⟨_, [], rfl, OwnMs.nil _ _ _, rfl⟩, f⟩
theorem OwnMs.at1 [Old] {X : Nat → Prop} {W : World} {B g : Nat} (m : MV) (hb : B ≤ g) (h : W.heap[g]? = some (.cells (cM m) 74 (0, 0))) (hx : ¬ X g) (hm : MsAt X W m) : OwnMs X B W (.slice (some ⟨g, 0, none⟩) 1 1) [m] := by
 refine ⟨⟨rfl, .inr ⟨_, 1, _, rfl, hb, h, Nat.le_refl _, by unfold maxLen; decide, rfl, rfl⟩⟩, fun c e hc => ?_, fun x hx2 => ?_⟩
 ·cases e
  exact hx hc
 ·simp only [List.mem_cons, List.not_mem_nil, or_false] at hx2
  subst hx2
  exact hm
set_option maxRecDepth 100000 in
set_option maxHeartbeats 4000000 in
theorem toR_calls [Old] (h : PNs X P w b n q) (x : Int) (hr : n.role ≠ 3) (hnx : ∀ y ∈ n.next, y < 18446744073709551616) (hl : n.log.last + 1 < 18446744073709551616) (hle : n.log.es.length ≤ 900000) :
  Calls Try.prog 50 #[.pointer (some ⟨b, 0, none⟩), .int .i64 x] w fun e w' => MOut X w (n.sendTo x) e w' := by
 have E : n.sendTo x = [] := if_pos (.inl hr)
 rw [E]
 have x2 := (h.cells (Fr.refl _ w)).2.2.1
 obtain ⟨ro, hro⟩ : ∃ x, n.role = x := ⟨_, rfl⟩
 rw [hro] at x2 hr
 have g1 : (ro == 3) = false := by simpa using hr
 have g2 : (ro != 3) = true := by rw [bne, g1]; rfl
 clear h hr hro E hnx hl hle
 go_enter Try.func50, Try.ntmps50
 go_wp2
 go_ret
 exact MOut.none (Fr.refl _ _)
set_option maxRecDepth 100000 in
set_option maxHeartbeats 4000000 in
theorem toM_calls [Old] (h : PNs X P w b n q) (x : Int) (hr : n.role = 3) (hx : x = n.me) (hnx : ∀ y ∈ n.next, y < 18446744073709551616) (hl : n.log.last + 1 < 18446744073709551616) (hle : n.log.es.length ≤ 900000) :
  Calls Try.prog 50 #[.pointer (some ⟨b, 0, none⟩), .int .i64 x] w fun e w' => MOut X w (n.sendTo x) e w' := by
 have E : n.sendTo x = [] := if_pos (.inr (.inl hx))
 rw [E]
 have x2 := (h.cells (Fr.refl _ w)).2.2.1
 have x0 := (h.cells (Fr.refl _ w)).1
 rw [hr] at x2
 rw [← hx] at x0
 clear h hr hx E hnx hl hle
 go_enter Try.func50, Try.ntmps50
 go_wp2
 go_ret
 exact MOut.none (Fr.refl _ _)
set_option maxRecDepth 100000 in
set_option maxHeartbeats 4000000 in
theorem toN_calls [Old] (h : PNs X P w b n q) (x : Int) (hr : n.role = 3) (hx : x ≠ n.me) (h16 : ¬ (0 ≤ x ∧ x < 16)) (hnx : ∀ y ∈ n.next, y < 18446744073709551616) (hl : n.log.last + 1 < 18446744073709551616) (hle : n.log.es.length ≤ 900000) :
  Calls Try.prog 50 #[.pointer (some ⟨b, 0, none⟩), .int .i64 x] w fun e w' => MOut X w (n.sendTo x) e w' := by
 have E : n.sendTo x = [] := if_pos (.inr (.inr (by by_cases h0 : x < 0; (· exact .inl h0); (· exact .inr (.inl (by omega))))))
 rw [E]
 have x2 := (h.cells (Fr.refl _ w)).2.2.1
 have x0 := (h.cells (Fr.refl _ w)).1
 obtain ⟨me, hme⟩ : ∃ x, n.me = x := ⟨_, rfl⟩
 rw [hr] at x2
 rw [hme] at x0 hx
 have NC := Lib.hid (fnode_calls w x)
 rw [decide_eq_false h16] at NC
 have g1 : (x == me) = false := by simpa using hx
 clear h hr hx E h16 hme hnx hl hle
 go_enter Try.func50, Try.ntmps50
 go_wp2_with fail
 (with_reducible refine NC.out.mono ?_)
 rintro e w1 ⟨rfl, rfl⟩
 clear NC
 go_wp2
 go_ret
 exact MOut.none (Fr.refl _ _)
set_option maxRecDepth 100000 in
set_option maxHeartbeats 4000000 in
theorem toB_calls [Old] (h : PNs X P w b n q) (t : Nat) (ht : t < 16) (hr : n.role = 3) (hx : ((t : Nat) : Int) ≠ n.me) (hb : n.next.getD t 0 ≤ n.log.base) (hnx : ∀ y ∈ n.next, y < 18446744073709551616) (hl : n.log.last + 1 < 18446744073709551616) (hle : n.log.es.length ≤ 900000) :
  Calls Try.prog 50 #[.pointer (some ⟨b, 0, none⟩), .int .i64 (t : Nat)] w fun e w' => MOut X w (n.sendTo (t : Nat)) e w' := by
 have E : n.sendTo (t : Nat) = [] := if_pos (.inr (.inr (.inr (.inr hb))))
 rw [E]
 obtain ⟨me, hme⟩ : ∃ x, n.me = x := ⟨_, rfl⟩
 have H := Lib.hid h
 have NC := Lib.hid (fun W => fnode_calls W (t : Nat))
 rw [decide_eq_true (show (0 : Int) ≤ (t : Nat) ∧ ((t : Nat) : Int) < 16 by omega)] at NC
 have BC := Lib.hid (fbehind_calls h t ht)
 rw [hme] at hx
 have g1 : (((t : Nat) : Int) == me) = false := by simpa using hx
 rw [decide_eq_true hb] at BC
 have x2 := (h.cells (Fr.refl _ w)).2.2.1
 have x0 := (h.cells (Fr.refl _ w)).1
 rw [hr] at x2
 rw [hme] at x0
 clear h hr hx E hme hnx hl hle hb ht
 go_enter Try.func50, Try.ntmps50
 go_wp2_with fail
 (with_reducible refine (NC.out _).mono ?_)
 rintro e w1 ⟨rfl, rfl⟩
 clear NC
 go_wp2_with fail
 (with_reducible refine BC.out.mono ?_)
 rintro e w1 ⟨rfl, m, hm⟩
 have F1 : Hid (FT w w1) := by rw [hm]; exact (Fr.refl _ _).drewN _
 clear BC hm x0 x2
 go_wp2
 go_ret
 exact MOut.none F1
abbrev sMV (me : Int) (t tm pv pt cm : Nat) (a' : Option Addr) (c' : Nat) (ys : List EV) : MV := ⟨5, me, (t : Nat), tm, pv, pt, cm, false, none, 0, [], a', c', ys⟩
set_option maxRecDepth 100000 in
set_option maxHeartbeats 4000000 in
theorem toG_calls [Old] (h : PNs X P w b n q) (t : Nat) (ht : t < 16) (hr : n.role = 3) (hx : ((t : Nat) : Int) ≠ n.me) (hb : ¬ n.next.getD t 0 ≤ n.log.base) (hnx : ∀ y ∈ n.next, y < 18446744073709551616) (hl : n.log.last + 1 < 18446744073709551616) (hle : n.log.es.length ≤ 900000) :
  Calls Try.prog 50 #[.pointer (some ⟨b, 0, none⟩), .int .i64 (t : Nat)] w fun e w' => MOut X w (n.sendTo (t : Nat)) e w' := by
 obtain ⟨me, hme⟩ : ∃ x, n.me = x := ⟨_, rfl⟩
 have H := Lib.hid h
 have NC := Lib.hid (fun W => fnode_calls W (t : Nat))
 rw [decide_eq_true (show (0 : Int) ≤ (t : Nat) ∧ ((t : Nat) : Int) < 16 by omega)] at NC
 have BC := Lib.hid (fbehind_calls h t ht)
 rw [hme] at hx
 have g1 : (((t : Nat) : Int) == me) = false := by simpa using hx
 obtain ⟨ae, le, ce, hve, hlel, hes, hlg⟩ := h.lg
 obtain ⟨bs, hbs⟩ : ∃ x, n.log.base = x := ⟨_, rfl⟩
 obtain ⟨bt, hbt⟩ : ∃ x, n.log.bt = x := ⟨_, rfl⟩
 obtain ⟨tm, htm⟩ : ∃ x, n.tm = x := ⟨_, rfl⟩
 obtain ⟨cm, hcm⟩ : ∃ x, n.commit = x := ⟨_, rfl⟩
 obtain ⟨nt, hnt⟩ : ∃ x, n.next.getD t 0 = x := ⟨_, rfl⟩
 obtain ⟨bn, hbn⟩ : ∃ x, q.bn = x := ⟨_, rfl⟩
 obtain ⟨cn, hcn⟩ : ∃ x, q.cn = x := ⟨_, rfl⟩
 obtain ⟨pv, hpv⟩ : ∃ x, nt - 1 = x := ⟨_, rfl⟩
 obtain ⟨pt, hpt⟩ : ∃ x, (n.log.term pv).1 = x := ⟨_, rfl⟩
 obtain ⟨pk, hpk⟩ : ∃ x, (n.log.term pv).2 = x := ⟨_, rfl⟩
 obtain ⟨SL, hSL⟩ : ∃ x, n.log.slice nt 8 = x := ⟨_, rfl⟩
 rw [decide_eq_false hb] at BC
 have hn64 : nt < 18446744073709551616 := by
  rw [← hnt, List.getD_eq_getElem?_getD, List.getElem?_eq_getElem (by have := h.nx.1; omega)]
  exact hnx _ (List.getElem_mem _)
 rw [hnt, hbs] at hb
 have hl2 : bs + le + 1 < 18446744073709551616 := by unfold Lg.last at hl; omega
 have OUT : Hid (n.sendTo (t : Nat) = [{ zMs with kind := 5, src := me, dst := (t : Nat), tm := tm, index := pv, prev := pt, commit := cm, es := SL }]) := by
  show n.sendTo (t : Nat) = _
  have e : n.sendTo (t : Nat) = [{ zMs with kind := 5, src := n.me, dst := (t : Nat), tm := n.tm, index := n.next.getD t 0 - 1, prev := (n.log.term (n.next.getD t 0 - 1)).1, commit := n.commit, es := n.log.slice (n.next.getD t 0) 8 }] := if_neg (by
   show ¬ (n.role ≠ 3 ∨ ((t : Nat) : Int) = n.me ∨ ((t : Nat) : Int) < 0 ∨ 15 < ((t : Nat) : Int) ∨ n.next.getD t 0 ≤ n.log.base)
   rw [hnt, hbs, hme]
   intro e
   rcases e with e | e | e | e | e
   ·exact e hr
   ·exact hx e
   ·omega
   ·omega
   ·exact hb e)
  rw [e, hnt, hpv, hpt, hSL, hme, htm, hcm]
 have TC := Lib.hid (fun W (f : FT w W) => tterm_calls W bs bt pv ae le ce q.es (hes W f).row (by omega))
 have SLC := Lib.hid (fun W (f : FT w W) => tsliceE_calls W bs bt nt 8 ae le ce q.es (hes W f) (by omega) (by decide) (by decide) (by omega) hn64 (fun c hc => Nat.lt_of_lt_of_le (h.hx c hc) f.size))
 rw [show lgE bs bt q.es = n.log by rw [← hbs, ← hbt]; exact hlg, hpt, hpk] at TC
 rw [show (⟨bs, bt, q.es.map EV.en⟩ : Lg) = n.log by rw [← hbs, ← hbt]; exact hlg, hSL, show ((8 : Nat) : Int) = 8 from rfl] at SLC
 have CC : Hid (∀ W, FT w W → W.cell? ⟨b, 0, none⟩ = some (.int .i64 me) ∧ W.cell? ⟨b, 6, none⟩ = some (.int .u64 (tm : Nat)) ∧ W.cell? ⟨b, 7, none⟩ = some (.int .u64 (cm : Nat)) ∧ W.cell? ⟨b, 8, none⟩ = some (.int .u64 (bs : Nat)) ∧ W.cell? ⟨b, 9, none⟩ = some (.int .u64 (bt : Nat)) ∧ W.cell? ⟨b, 10, none⟩ = some (.slice ae le ce) ∧ W.cell? ⟨b, 12, none⟩ = some (.slice (some ⟨bn, 0, none⟩) 16 cn) ∧ W.cell? ⟨bn, t, none⟩ = some (.int .u64 (nt : Nat))) := fun W f => by
  obtain ⟨x0, x1, x2, x3, x4, x5, x6, x7, x8, x9, x10, x11, x12, x13⟩ := h.cells f
  exact ⟨by rw [x0, hme], by rw [x6, htm], by rw [x7, hcm], by rw [x8, hbs], by rw [x9, hbt], by rw [x10, hve], by rw [x12, hbn, hcn], by rw [← hbn, ((h.nx.fr f fun _ _ => trivial).cell t ht), hnt]⟩
 have w1 : IntKind.u64.wrap ((nt : Int) - 1) = ((pv : Nat) : Int) := by rw [IntKind.wrap_u64]; omega
 have x2 := (h.cells (Fr.refl _ w)).2.2.1
 rw [hr] at x2
 have x0 := (CC w (Fr.refl _ _)).1
 have ht2 : ((t : Nat) : Int) < 16 := by omega
 clear h hr hx hme hnx hl hle hb hve hlel hes hlg hbs hbt htm hcm hnt hbn hcn hpv hpt hpk hSL hn64 hl2
 dsimp only [vL] at TC
 go_enter Try.func50, Try.ntmps50
 go_wp2_with fail
 (with_reducible refine (NC.out _).mono ?_)
 rintro e wa ⟨rfl, rfl⟩
 clear NC
 go_wp2_with fail
 (with_reducible refine BC.out.mono ?_)
 rintro e wb ⟨rfl, m, hm⟩
 have F1 : Hid (FT w wb) := by rw [hm]; exact (Fr.refl _ _).drewN _
 clear BC hm x0 x2
 obtain ⟨y0, y6, y7, y8, y9, y10, y12, z⟩ := CC wb F1
 go_wp2_with fail
 (with_reducible refine (TC.out _ F1.out).mono ?_)
 rintro e wc ⟨rfl, f2⟩
 have UD : Hid (FT w wc.drew) := (F1.trans f2).drew
 clear TC f2 y0 y6 y7 y8 y9 y10 y12 z w1
 go_wp2_with fail
 refine wp_region_cf_all (K := fun _ _ => True) (by kernel_rfl) [(48, 0), (49, 1), (50, 2), (51, 3), (52, 4), (53, 5), (54, 6), (55, 7), (56, 8), (57, 9), (58, 10), (59, 11), (60, 12), (61, 13), (62, 14), (63, 15), (64, 16), (65, 17), (66, 18), (67, 19), (68, 20), (69, 21), (70, 22), (71, 23), (72, 24), (73, 25), (74, 26), (75, 27), (76, 28), (4, 29)] [(0, []), (1, [0]), (2, [1]), (3, [2]), (4, []), (5, []), (6, [5]), (7, [6]), (8, [7]), (9, []), (10, []), (11, []), (12, [11]), (13, [12]), (14, [13]), (15, []), (16, [15]), (17, [16]), (18, [17]), (19, []), (20, [19]), (21, [20]), (22, [21]), (23, []), (24, [22, 23]), (25, [24]), (26, [18, 25]), (27, [3, 4, 8, 9, 10, 14, 26]), (28, [27]), (29, [28])] (ckR [(0, .pointer (some ⟨b, 0, none⟩)), (1, .pointer (some ⟨b, 0, none⟩)), (2, .pointer (some ⟨b, 0, none⟩)), (3, .int .i64 me), (4, .int .i64 (t : Nat)), (5, .pointer (some ⟨b, 0, none⟩)), (6, .pointer (some ⟨b, 0, none⟩)), (7, .pointer (some ⟨b, 6, none⟩)), (8, .int .u64 (tm : Nat)), (9, .int .u64 (pv : Nat)), (10, .int .u64 (pt : Nat)), (11, .pointer (some ⟨b, 0, none⟩)), (12, .pointer (some ⟨b, 0, none⟩)), (13, .pointer (some ⟨b, 7, none⟩)), (14, .int .u64 (cm : Nat)), (15, .pointer (some ⟨b, 0, none⟩)), (16, .pointer (some ⟨b, 0, none⟩)), (17, .pointer (some ⟨b, 8, none⟩)), (18, .agg #[.int .u64 (bs : Nat), .int .u64 (bt : Nat), .slice ae le ce]), (19, .pointer (some ⟨b, 0, none⟩)), (20, .pointer (some ⟨b, 0, none⟩)), (21, .pointer (some ⟨b, 12, none⟩)), (22, .slice (some ⟨bn, 0, none⟩) 16 cn), (23, .int .i64 (t : Nat)), (24, .pointer (some ⟨bn, t, none⟩)), (25, .int .u64 (nt : Nat))] [(26, ⟨fun v W => ∃ a' c' ys, v = .slice a' ys.length c' ∧ EsAt X W (.slice a' ys.length c') ys ∧ ys.map EV.en = SL, fun v W W' h hf => by obtain ⟨a', c', ys, h1, h2, h3⟩ := h; exact ⟨a', c', ys, h1, h2.tt hf, h3⟩⟩), (27, ⟨fun v W => ∃ a' c' ys, v = .agg #[.int .i64 5, .int .i64 me, .int .i64 (t : Nat), .int .u64 (tm : Nat), .int .u64 (pv : Nat), .int .u64 (pt : Nat), .int .u64 (cm : Nat), .bool false, .slice none 0 0, .slice a' ys.length c'] ∧ EsAt X W (.slice a' ys.length c') ys ∧ ys.map EV.en = SL, fun v W W' h hf => by obtain ⟨a', c', ys, h1, h2, h3⟩ := h; exact ⟨a', c', ys, h1, h2.tt hf, h3⟩⟩), (28, ⟨fun v W => ∃ g a' c' ys, v = .slice (some ⟨g, 0, none⟩) 1 1 ∧ w.heap.size ≤ g ∧ W.heap[g]? = some (.cells (cM (sMV me t tm pv pt cm a' c' ys)) 74 (0, 0)) ∧ EsAt X W (.slice a' ys.length c') ys ∧ ys.map EV.en = SL, fun v W W' h hf => by obtain ⟨g, a', c', ys, h1, h2, h3, h4, h5⟩ := h; exact ⟨g, a', c', ys, h1, h2, hf.keep _ _ h3 trivial, h4.tt hf, h5⟩⟩), (29, ⟨fun v W => ∃ g a' c' ys, v = .slice (some ⟨g, 0, none⟩) 1 1 ∧ w.heap.size ≤ g ∧ W.heap[g]? = some (.cells (cM (sMV me t tm pv pt cm a' c' ys)) 74 (0, 0)) ∧ EsAt X W (.slice a' ys.length c') ys ∧ ys.map EV.en = SL, fun v W W' h hf => by obtain ⟨g, a', c', ys, h1, h2, h3, h4, h5⟩ := h; exact ⟨g, a', c', ys, h1, h2, hf.keep _ _ h3 trivial, h4.tt hf, h5⟩⟩)] 30 0) (by kernel_rfl) (by kernel_rfl) (by kernel_rfl) rfl ?cfall (by kernel_rfl) ?cfend
 case cfall =>
  iterate 26
   refine CfAll.kk rfl rfl rfl (fun xs W hF hE K' hK => ?_) ?_
   ·have HF := Lib.hid hF
    clear hF
    simp only [ckEqs, ckLook, Nat.reduceBEq] at hE
    simp only [fillA, fillL, sA, sB, sC, Act.put, hE] at hK ⊢
    clear hE
    obtain ⟨y0, y6, y7, y8, y9, y10, y12, z⟩ := CC W (UD.trans HF)
    skip
    go_simp
    exact hK _ rfl
  refine CfAll.k rfl rfl (fun xs W hF hA hE K' hK => ?_) ?_
  ·have HF := Lib.hid hF
   clear hA hF
   simp only [ckEqs, ckLook, Nat.reduceBEq] at hE
   simp only [fillA, fillL, sA, sB, sC, Act.put, hE] at hK ⊢
   clear hE
   have SC := Lib.hid (SLC W (UD.trans HF))
   dsimp only [vL] at SC
   skip
   go_simp
   (with_reducible refine SC.out.mono ?_)
   rintro e w8 ⟨⟨a', c', ys, rfl, he, hy⟩, f8⟩
   exact hK _ _ _ rfl f8 ⟨a', c', ys, rfl, he, hy⟩
  refine CfAll.k rfl rfl (fun xs W hF hA hE K' hK => ?_) ?_
  ·have HF := Lib.hid hF
   have h26 := hA 26 (by decide)
   clear hA hF
   simp only [ckEqs, ckLook, Nat.reduceBEq] at hE
   simp only [fillA, fillL, sA, sB, sC, Act.put, hE] at hK ⊢
   clear hE
   obtain ⟨a', c', ys, e26, he, hy⟩ := h26
   rw [e26] at hK ⊢
   clear e26
   skip
   go_simp
   exact hK _ _ _ rfl (Fr.refl _ _) ⟨a', c', ys, rfl, he, hy⟩
  refine CfAll.k rfl rfl (fun xs W hF hA hE K' hK => ?_) ?_
  ·have HF := Lib.hid hF
   have h27 := hA 27 (by decide)
   clear hA hF
   simp only [ckEqs, ckLook, Nat.reduceBEq] at hE
   simp only [fillA, fillL, sA, sB, sC, Act.put, hE] at hK ⊢
   clear hE
   obtain ⟨a', c', ys, e27, he, hy⟩ := h27
   rw [e27] at hK ⊢
   clear e27
   have SB : Hid (w.heap.size ≤ W.heap.size) := (UD.trans HF).size
   skip
   go_simp
   exact hK _ _ _ rfl ((Fr.refl _ _).alloc _) ⟨_, a', c', ys, rfl, SB, heap_alloc_new _ _, he.tt ((Fr.refl _ _).alloc _), hy⟩
  refine CfAll.k rfl rfl (fun xs W hF hA hE K' hK => ?_) ?_
  ·have HF := Lib.hid hF
   have h28 := hA 28 (by decide)
   clear hA hF
   simp only [ckEqs, ckLook, Nat.reduceBEq] at hE
   simp only [fillA, fillL, sA, sB, sC, Act.put, hE] at hK ⊢
   clear hE
   obtain ⟨g, a', c', ys, e28, hg, tg, he, hy⟩ := h28
   rw [e28] at hK ⊢
   clear e28
   skip
   go_simp
   exact hK _ _ _ rfl (Fr.refl _ _) ⟨g, a', c', ys, rfl, hg, tg, he, hy⟩
  exact CfAll.nil
 case cfend =>
  intro xs W hF hA
  have HF := Lib.hid hF
  have hE := ckEnd rfl hA
  have h26 := hA (26, [18, 25]) (by decide)
  have h27 := hA (27, [3, 4, 8, 9, 10, 14, 26]) (by decide)
  have h28 := hA (28, [27]) (by decide)
  have h29 := hA (29, [28]) (by decide)
  clear hA hF
  simp only [List.map_cons, List.map_nil, ckEqs, ckLook, Nat.reduceBEq] at hE
  simp only [fillA, fillL, sA, sB, sC, hE]
  clear hE
  obtain ⟨g, a', c', ys, e29, hg, tg, he, hy⟩ := h29
  rw [e29]
  have FW := Lib.hid (UD.trans HF)
  have HE := Lib.hid (And.intro hg (And.intro tg (And.intro he hy)))
  clear hg tg he hy e29 SLC CC
  go_wp2
  go_ret
  rw [OUT.out]
  refine ⟨⟨_, [sMV me t tm pv pt cm a' c' ys], rfl, OwnMs.at1 _ HE.out.1 HE.out.2.1 (fun hc => by have := H.out.hx g hc; have := HE.out.1; omega) ⟨BytesAt.nil _ _, HE.out.2.2.1⟩, ?_⟩, FW.out⟩
  show [MV.ms _] = _
  unfold MV.ms
  rw [HE.out.2.2.2]
  rfl
theorem to_calls [Old] (h : PNs X P w b n q) (x : Int) (hnx : ∀ y ∈ n.next, y < 18446744073709551616) (hl : n.log.last + 1 < 18446744073709551616) (hle : n.log.es.length ≤ 900000) :
  Calls Try.prog 50 #[.pointer (some ⟨b, 0, none⟩), .int .i64 x] w fun e w' => MOut X w (n.sendTo x) e w' := by
 by_cases hr : n.role = 3
 ·by_cases hx : x = n.me
  ·exact toM_calls h x hr hx hnx hl hle
  ·by_cases h16 : 0 ≤ x ∧ x < 16
   ·obtain ⟨t, rfl⟩ := Int.eq_ofNat_of_zero_le h16.1
    by_cases hb : n.next.getD t 0 ≤ n.log.base
    ·exact toB_calls h t (by omega) hr hx hb hnx hl hle
    ·exact toG_calls h t (by omega) hr hx hb hnx hl hle
   ·exact toN_calls h x hr hx h16 hnx hl hle
 ·exact toR_calls h x hr hnx hl hle
end
end Go.Proofs.Ytmjccpfchhnfhaa
/- follow: Beat (printed by fl4.py). -/
namespace Go.Proofs.Ytmjccpfchhnfhaa
open Go.RowKit
set_option linter.unusedVariables false
set_option linter.unusedSimpArgs false
theorem sendTo_len (n : Nd) (x : Int) : (n.sendTo x).length ≤ 1 := by
 unfold Nd.sendTo
 split
 ·exact Nat.zero_le _
 ·exact Nat.le_refl _
section
variable {X P : Nat → Prop} {w w' : World} {b : Nat} {n n' : Nd} {q q' : NV}
set_option maxRecDepth 100000 in
set_option maxHeartbeats 4000000 in
theorem beat_calls [Old] (h : PNs X P w b n q) (hc : 0 < n.conf.length ∧ n.conf.length ≤ 1000) (hnx : ∀ y ∈ n.next, y < 18446744073709551616) (hl : n.log.last + 1 < 18446744073709551616) (hle : n.log.es.length ≤ 900000) :
  Calls Try.prog 23 #[.pointer (some ⟨b, 0, none⟩)] w fun e w' => MOut X w n.beat e w' := by
 have OC := Lib.hid (others_calls h hc)
 have hol : n.others.length ≤ 1000 := Nat.le_trans (List.length_filter_le _ _) hc.2
 have TO := Lib.hid (fun W (f : FT w W) x => to_calls (h.tt f) x hnx hl hle)
 have OUT : Hid (n.beat = n.others.flatMap n.sendTo) := rfl
 obtain ⟨ot, hot⟩ : ∃ o, n.others = o := ⟨_, rfl⟩
 rw [hot] at OC hol OUT
 have HX : Hid (∀ c, X c → c < w.heap.size) := h.hx
 have HNEW : Hid (∀ {c}, w.heap.size ≤ c → ¬ Old.o c) := h.new
 clear h hot hc hnx hl hle
 go_enter Try.func23, Try.ntmps23
 go_wp2_with fail
 (with_reducible refine OC.out.mono ?_)
 rintro e w2 ⟨⟨go, ko, rfl, ro⟩, f2⟩
 have F2 := Lib.hid f2
 have RO2 := Lib.hid ro.ints
 have ROW2 := Lib.hid ro
 have O0 : Hid (w2.ownsRow w.heap.size 74 10 (.slice none 0 0) ([] : List MV).length (([] : List MV).flatMap encM)) := ⟨rfl, .inl ⟨rfl, rfl⟩⟩
 clear ro f2 OC
 go_wp2
 go_loopw [3, 9] (fun o i wr => ∃ (k : Nat) (g : Option Addr) (l c : Nat) (T : List MV), i = .int .i64 (k : Nat) ∧ k ≤ ot.length ∧ o = .slice g l c ∧ l ≤ k ∧ Hid (T.map MV.ms = (ot.take k).flatMap n.sendTo) ∧ Hid (T.length = l) ∧ Hid (wr.ownsRow w.heap.size 74 10 (.slice g l c) T.length (T.flatMap encM)) ∧ Hid (∀ m ∈ T, MsAt X wr m) ∧ Hid (Fr KI w2 wr) ∧ Hid (FT w wr)) (fun _ i _ => ot.length - (intOf i).toNat)
 case atStart => exact ⟨0, none, 0, 0, [], rfl, Nat.zero_le _, rfl, Nat.zero_le _, rfl, rfl, O0, (fun m hm => by cases hm), Fr.refl _ _, F2⟩
 case round =>
  obtain ⟨k, g, l, c, T, rfl, hk, rfl, hlk, HT, HL, HO, HM, HF2, HFW⟩ := hrel
  by_cases hlt : k < ot.length
  ·have hltI : (k : Int) < (ot.length : Int) := by omega
   obtain ⟨bo, oo, rfl⟩ := RO2.out.addr (by omega)
   have hcell := RO2.cell hlt
   obtain ⟨x, hx⟩ : ∃ x, ot[k] = x := ⟨_, rfl⟩
   rw [hx] at hcell
   have u0 := HF2.cell (p := ⟨bo, oo + k, none⟩) (fun o ho => by
    obtain ⟨cur, hc⟩ := own_tag ROW2 (c := bo) rfl
    have hc' : w2.heap[bo]? = some o := ho
    rw [hc] at hc'
    cases hc'
    exact ⟨_, _, rfl⟩) hcell
   have TO1 := Lib.hid (TO wr HFW x)
   have HS : Hid ((ot.take (k + 1)).flatMap n.sendTo = (ot.take k).flatMap n.sendTo ++ n.sendTo x) := by
    show _ = _
    rw [List.take_succ_eq_append_getElem hlt, List.flatMap_append, hx]
    simp
   have HS1 : Hid ((n.sendTo x).length ≤ 1) := sendTo_len n x
   clear hx hcell
   go_wp2_with fail
   (with_reducible refine TO1.out.mono ?_)
   rintro e w3 ⟨⟨v3, mvs, rfl, o3, e3⟩, f3⟩
   have O3 := Lib.hid o3
   have E3 := Lib.hid e3
   have F3 := Lib.hid f3
   have FW3 := Lib.hid (HFW.trans f3)
   have OW3 : Hid (w3.ownsRow w.heap.size 74 10 (.slice g l c) T.length (T.flatMap encM)) := ownsRow_fr HO f3 fun _ _ _ _ => trivial
   have hml : mvs.length ≤ 1 := by have := HS1.out; rw [← e3, List.length_map] at this; exact this
   obtain ⟨M, hM⟩ : ∃ M, mvs.length = M := ⟨_, rfl⟩
   have HL3 : Hid ((T ++ mvs).length = l + M) := by show _ = _; rw [List.length_append, HL.out, hM]
   have RW3 := Lib.hid o3.rows
   rw [hM] at hml
   have hl1 : l + M ≤ 1000000 := by omega
   obtain ⟨ga, na, ca, hv3, _⟩ : ∃ ga na ca, v3 = .slice ga na ca ∧ True := by
    rcases o3.row.2 with ⟨e, _⟩ | ⟨g, cap, cur, e, _⟩
    ·exact ⟨_, _, _, e, trivial⟩
    ·exact ⟨_, _, _, e, trivial⟩
   subst hv3
   clear o3 e3 f3 TO1 u0 hM
   go_wp2_with (at_builtin; refine wpList_append_mss w w3 FW3 rfl _ _ rfl (.slice g l c) T rfl OW3 (.slice ga na ca) mvs rfl RW3 _ rfl (l + M) HL3 hl1 ?_)
   intro g5 c5 W5 O5 F5 G5 N5
   go_wp2
   go_roundw
   case rel =>
    have htag : ∀ cb, (Value.slice g l c).ownBlock = some cb → ∃ cur, w3.heap[cb]? = some (.cells cur 74 (0, 0)) := fun cb e => own_tag OW3 e
    have ki5 : Fr KI w3 W5 := G5.monoH fun i o hi hk e => by
     obtain ⟨cur, hc⟩ := htag i e
     rw [hc] at hi
     cases hi
     obtain ⟨cs, fz, e⟩ := hk
     cases e
    refine ⟨k + 1, g5, l + M, c5, T ++ mvs, by go_num, by omega, rfl, by omega, ?_, HL3.out, ?_, fun m hm => ?_, (HF2.out.trans (F3.out.tT)).trans ki5, F5.out⟩
    ·show _ = _
     rw [List.map_append, HT.out, E3.out, HS.out]
    ·show World.ownsRow _ _ _ _ _ _ _
     rw [HL3.out, List.flatMap_append]; exact O5.out
    ·refine MsAt.keep (w := w3) ?_ G5 ?_
     ·rcases List.mem_append.1 hm with hm | hm
      ·exact (HM m hm).tt F3
      ·exact O3.at' m hm
     ·intro i o hi hr e
      obtain ⟨cur, hc⟩ := htag i e
      rw [hc] at hi
      cases hi
      exact hr.ne (HNEW (own_new (v := .slice g l c) OW3 i e)) rfl (by decide)
   case measure => simp [intOf]; omega
  ·have hge : ¬ (k : Int) < (ot.length : Int) := by omega
   have HTT : Hid (T.map MV.ms = n.beat) := by show _ = _; rw [HT.out, OUT.out, List.take_of_length_le (by omega)]
   go_wp2
   go_ret
   refine ⟨⟨_, T, rfl, ⟨HO, fun cb e hc => ?_, HM⟩, HTT⟩, HFW⟩
   have := HX.out cb hc
   have := own_new HO.out cb e
   omega
end
end Go.Proofs.Ytmjccpfchhnfhaa
/- elect: would, OnAsk (printed by onask.py). -/
namespace Go.Proofs.Ytmjccpfchhnfhaa
open Go.RowKit
set_option linter.unusedVariables false
set_option linter.unusedSimpArgs false
section
variable {X P : Nat → Prop} {w w' : World} {b : Nat} {n n' : Nd} {q q' : NV}
set_option maxRecDepth 100000 in
set_option maxHeartbeats 2000000 in
theorem would_calls [Old] (h : PNs X P w b n q) (m : MV) :
  Calls Try.prog 65 #[.pointer (some ⟨b, 0, none⟩), .agg (cM m)] w fun e w' => e = .returned (.bool (n.would m.ms)) ∧ FT w w' := by
 obtain ⟨W1, hW1, F1, X1⟩ := mbox w m
 obtain ⟨v0, v1, v2, v3, v4, v5, v6, v7, v8, v9⟩ := mcells X1
 obtain ⟨-, x1, x2, -, -, -, x6, -, -, -, -, x11, -, -⟩ := h.cells F1
 have hW : n.would m.ms = if m.kind = 3 then decide (n.tm < m.tm) && !n.heard else decide (m.tm = n.tm) && ((decide (n.vote = -1) || decide (n.vote = m.src)) && decide (n.role = 0)) := rfl
 obtain ⟨k, hk⟩ : ∃ x, m.kind = x := ⟨_, rfl⟩
 obtain ⟨mt, hmt⟩ : ∃ x, m.tm = x := ⟨_, rfl⟩
 obtain ⟨s, hs⟩ : ∃ x, m.src = x := ⟨_, rfl⟩
 obtain ⟨tm, htm⟩ : ∃ x, n.tm = x := ⟨_, rfl⟩
 obtain ⟨vo, hvo⟩ : ∃ x, n.vote = x := ⟨_, rfl⟩
 obtain ⟨ro, hro⟩ : ∃ x, n.role = x := ⟨_, rfl⟩
 obtain ⟨hd, hhd⟩ : ∃ x, n.heard = x := ⟨_, rfl⟩
 rw [hW]
 unfold cM at hW1 ⊢
 rw [hk] at v0 hW1 ⊢
 rw [hs] at v1 hW1 ⊢
 rw [hmt] at v3 hW1 ⊢
 rw [htm] at x6 ⊢
 rw [hvo] at x1 ⊢
 rw [hro] at x2 ⊢
 rw [hhd] at x11 ⊢
 clear hW h hk hmt hs htm hvo hro hhd v2 v4 v5 v6 v7 v8 v9
 by_cases h3 : k = 3
 ·subst h3
  rw [if_pos rfl]
  by_cases h1 : tm < mt
  ·have g1 : decide (tm < mt) = true := decide_eq_true h1
   rw [g1, Bool.true_and]
   clear h1
   go_enter Try.func65, Try.ntmps65
   go_wp2_with fail
   try rw [hW1]
   go_quiet (fail)
   go_wp2
   go_ret
   exact ⟨rfl, F1.drewN _⟩
  ·have g1 : decide (tm < mt) = false := decide_eq_false h1
   rw [g1, Bool.false_and]
   clear h1
   go_enter Try.func65, Try.ntmps65
   go_wp2_with fail
   try rw [hW1]
   go_quiet (fail)
   go_wp2
   go_ret
   exact ⟨rfl, F1.drewN _⟩
 ·have g0 : (k == 3) = false := by simpa using h3
  rw [if_neg h3]
  clear h3
  by_cases h1 : mt = tm
  ·subst h1
   rw [decide_eq_true rfl, Bool.true_and]
   have g1 : ((mt : Int) == (mt : Int)) = true := by simp
   by_cases h2 : vo = -1
   ·subst h2
    rw [decide_eq_true rfl, Bool.true_or, Bool.true_and, show decide (ro = 0) = (ro == 0) from rfl]
    go_enter Try.func65, Try.ntmps65
    go_wp2_with fail
    try rw [hW1]
    go_quiet (fail)
    go_wp2
    go_ret
    exact ⟨rfl, F1.drewN _⟩
   ·have g2 : (vo == -1) = false := by simpa using h2
    rw [decide_eq_false h2, Bool.false_or]
    clear h2
    by_cases h4 : vo = s
    ·subst h4
     have g4 : (vo == vo) = true := by simp
     rw [decide_eq_true rfl, Bool.true_and, show decide (ro = 0) = (ro == 0) from rfl]
     go_enter Try.func65, Try.ntmps65
     go_wp2_with fail
     try rw [hW1]
     go_quiet (fail)
     go_wp2
     go_ret
     exact ⟨rfl, F1.drewN _⟩
    ·have g4 : (vo == s) = false := by simpa using h4
     rw [decide_eq_false h4, Bool.false_and]
     clear h4
     go_enter Try.func65, Try.ntmps65
     go_wp2_with fail
     try rw [hW1]
     go_quiet (fail)
     go_wp2
     go_ret
     exact ⟨rfl, F1.drewN _⟩
  ·have g1 : ((mt : Int) == (tm : Int)) = false := by simp; omega
   rw [decide_eq_false h1, Bool.false_and]
   clear h1
   go_enter Try.func65, Try.ntmps65
   go_wp2_with fail
   try rw [hW1]
   go_quiet (fail)
   go_wp2
   go_ret
   exact ⟨rfl, F1.drewN _⟩
end
end Go.Proofs.Ytmjccpfchhnfhaa
/- elect: OnAsk (printed by onask.py). -/
namespace Go.Proofs.Ytmjccpfchhnfhaa
open Go.RowKit
set_option linter.unusedVariables false
set_option linter.unusedSimpArgs false
section
variable {X P : Nat → Prop} {w w' : World} {b : Nat} {n n' : Nd} {q q' : NV}
theorem OwnMs.one [Old] {X : Nat → Prop} {W : World} (m : MV) (hX : ∀ c, X c → c < W.heap.size) (hm : MsAt X (W.alloc (.cells (cM m) 74 (0, 0))) m) : OwnMs X W.heap.size (W.alloc (.cells (cM m) 74 (0, 0))) (.slice (some ⟨W.heap.size, 0, none⟩) 1 1) [m] := by
 refine ⟨⟨rfl, .inr ⟨_, 1, _, rfl, Nat.le_refl _, heap_alloc_new _ _, Nat.le_refl _, by unfold maxLen; decide, rfl, rfl⟩⟩, fun c e h => ?_, fun x hx => ?_⟩
 ·cases e
  exact absurd (hX _ h) (Nat.lt_irrefl _)
 ·simp only [List.mem_cons, List.not_mem_nil, or_false] at hx
  subst hx
  exact hm
abbrev aMV (k me s : Int) (tm : Nat) (ok : Bool) : MV := ⟨k, me, s, tm, 0, 0, 0, ok, none, 0, [], none, 0, []⟩
theorem aMV_at [Old] (X : Nat → Prop) (w : World) (k me s : Int) (tm : Nat) (ok : Bool) : MsAt X w (aMV k me s tm ok) := ⟨BytesAt.nil _ _, EsAt.nil _ _⟩
end
end Go.Proofs.Ytmjccpfchhnfhaa
