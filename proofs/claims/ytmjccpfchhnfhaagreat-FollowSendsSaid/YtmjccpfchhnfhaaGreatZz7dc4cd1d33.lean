/- Texts of the proofs, part 22: what the functions that they reach do, walked; no conditions beyond those that each states. -/
import Derived.Test.YtmjccpfchhnfhaaGreatZz3345b12878
import Derived.Test.YtmjccpfchhnfhaaGreatZz6b1bc7b3b6
set_option linter.unusedVariables false
set_option linter.unusedSimpArgs false
/- The document's Same and All of messages, where they are the same (printed by ha.py). -/
namespace Go.Proofs.YtmjccpfchhnfhaaGreat
open Go.RowKit
set_option linter.unusedVariables false
set_option linter.unusedSimpArgs false
set_option maxRecDepth 100000 in
set_option maxHeartbeats 4000000 in
theorem msame_true [Old] {X X' : Nat → Prop} (w : World) (a b : MV) (ha : MsAt X w a) (hb : MsAt X' w b) (he : a.ms = b.ms) (hl : a.es.length ≤ 1000000) (hdl : a.d.length ≤ 9223372036854775807) :
  Calls Tryz.prog 58 #[.agg (cM a), .agg (cM b)] w fun e w' => e = .returned (.bool true) ∧ Fr (fun _ _ => True) w w' := by
 have e0 : a.kind = b.kind := congrArg Ms.kind he
 have e1 : a.src = b.src := congrArg Ms.src he
 have e2 : a.dst = b.dst := congrArg Ms.dst he
 have e3 : a.tm = b.tm := congrArg Ms.tm he
 have e4 : a.index = b.index := congrArg Ms.index he
 have e5 : a.prev = b.prev := congrArg Ms.prev he
 have e6 : a.commit = b.commit := congrArg Ms.commit he
 have e7 : a.ok = b.ok := congrArg Ms.ok he
 have e8 : a.d = b.d := congrArg Ms.data he
 have e9 : a.es.map EV.en = b.es.map EV.en := congrArg Ms.es he
 obtain ⟨W1, hW1, F1, X1⟩ := mbox w a
 obtain ⟨W2, hW2, F2, X2⟩ := mbox W1 b
 obtain ⟨u0, u1, u2, u3, u4, u5, u6, u7, u8, u9⟩ := mcells (F2.out.keep _ _ X1.out trivial)
 obtain ⟨v0, v1, v2, v3, v4, v5, v6, v7, v8, v9⟩ := mcells X2.out
 have F12 := Lib.hid (F1.out.trans F2.out)
 have SC : Hid (Calls Tryz.prog 39 #[.slice a.da a.d.length a.dc, .slice b.da b.d.length b.dc] W2 fun e w' => e = .returned (.bool true) ∧ ∃ k, w' = W2.drewN k) := (same_calls W2 _ _ a.d b.d (ha.dat.tt F12.out) (hb.dat.tt F12.out) hdl).mono fun e w' ⟨h1, h2⟩ => ⟨by rw [h1, decide_eq_true e8], h2⟩
 have EC : Hid (∀ W, Fr (fun _ _ => True) w W → Calls Tryz.prog 105 #[.slice a.ea a.es.length a.ec, .slice b.ea b.es.length b.ec] W fun e w' => e = .returned (.bool true) ∧ ∃ k, w' = W.drewN k) := fun W f => (esame_calls W _ _ a.es b.es (ha.es.tt f).row (hb.es.tt f).row (ha.es.tt f).dat (fun x hx => ((hb.es.tt f).dat x hx).1) hl).mono fun e w' ⟨h1, h2⟩ => ⟨by rw [h1, decide_eq_true e9], h2⟩
 rw [← e0] at v0
 rw [← e1] at v1
 rw [← e2] at v2
 rw [← e3] at v3
 rw [← e4] at v4
 rw [← e5] at v5
 rw [← e6] at v6
 rw [← e7] at v7
 obtain ⟨k0, h0⟩ : ∃ x, a.kind = x := ⟨_, rfl⟩
 obtain ⟨k1, h1⟩ : ∃ x, a.src = x := ⟨_, rfl⟩
 obtain ⟨k2, h2⟩ : ∃ x, a.dst = x := ⟨_, rfl⟩
 obtain ⟨k3, h3⟩ : ∃ x, a.tm = x := ⟨_, rfl⟩
 obtain ⟨k4, h4⟩ : ∃ x, a.index = x := ⟨_, rfl⟩
 obtain ⟨k5, h5⟩ : ∃ x, a.prev = x := ⟨_, rfl⟩
 obtain ⟨k6, h6⟩ : ∃ x, a.commit = x := ⟨_, rfl⟩
 obtain ⟨k7, h7⟩ : ∃ x, a.ok = x := ⟨_, rfl⟩
 rw [h0] at u0 v0
 rw [h1] at u1 v1
 rw [h2] at u2 v2
 rw [h3] at u3 v3
 rw [h4] at u4 v4
 rw [h5] at u5 v5
 rw [h6] at u6 v6
 rw [h7] at u7 v7
 have n0 : (k0 != k0) = false := by simp
 have n1 : (k1 != k1) = false := by simp
 have n2 : (k2 != k2) = false := by simp
 have n3 : ((k3 : Int) != (k3 : Int)) = false := by simp
 have n4 : ((k4 : Int) != (k4 : Int)) = false := by simp
 have n5 : ((k5 : Int) != (k5 : Int)) = false := by simp
 have n6 : ((k6 : Int) != (k6 : Int)) = false := by simp
 have n7 : (k7 != k7) = false := by simp
 unfold cM at hW1 hW2 ⊢
 clear ha hb he e0 e1 e2 e3 e4 e5 e6 e7 e8 e9 h0 h1 h2 h3 h4 h5 h6 h7 hl hdl
 go_enter Tryz.func58, Tryz.ntmps58
 go_wp2_with fail
 try rw [hW1]
 try rw [hW2]
 (with_reducible refine SC.out.mono ?_)
 rintro e w3 ⟨rfl, k, rfl⟩
 have EC1 := Lib.hid (EC.out (W2.drewN k) (F12.out.drewN k))
 have u9' : (W2.drewN k).cell? ⟨w.heap.size, 9, none⟩ = some (.slice a.ea a.es.length a.ec) := ((Fr.refl (fun _ _ => True) W2).drewN k).cell (fun _ _ => trivial) u9
 have v9' : (W2.drewN k).cell? ⟨W1.heap.size, 9, none⟩ = some (.slice b.ea b.es.length b.ec) := ((Fr.refl (fun _ _ => True) W2).drewN k).cell (fun _ _ => trivial) v9
 have F3 := Lib.hid (F12.out.drewN k)
 clear EC SC u0 u1 u2 u3 u4 u5 u6 u7 u8 u9 v0 v1 v2 v3 v4 v5 v6 v7 v8 v9 hW1 hW2
 generalize W2.drewN k = W3 at EC1 u9' v9' F3 ⊢
 go_wp2_with fail
 (with_reducible refine EC1.out.mono ?_)
 rintro e w4 ⟨rfl, k', rfl⟩
 clear EC1
 go_wp2
 go_ret
 exact ⟨rfl, F3.out.drewN k'⟩
theorem RowsAt.ten {K : Nat → Obj → Prop} {w : World} {a : Option Addr} {n c : Nat} {xs : List MV} (h : RowsAt K w (.slice a n c) 10 encM xs) (h0 : 0 < xs.length) : ∃ b o, a = some ⟨b, o, none⟩ ∧ ∀ k (hk : k < xs.length) W, Fr (fun _ _ => True) w W → W.cell? ⟨b, o + k * 10, none⟩ = some (.int .i64 xs[k].kind) ∧ W.cell? ⟨b, o + k * 10 + 1, none⟩ = some (.int .i64 xs[k].src) ∧ W.cell? ⟨b, o + k * 10 + 2, none⟩ = some (.int .i64 xs[k].dst) ∧ W.cell? ⟨b, o + k * 10 + 3, none⟩ = some (.int .u64 (xs[k].tm : Nat)) ∧ W.cell? ⟨b, o + k * 10 + 4, none⟩ = some (.int .u64 (xs[k].index : Nat)) ∧ W.cell? ⟨b, o + k * 10 + 5, none⟩ = some (.int .u64 (xs[k].prev : Nat)) ∧ W.cell? ⟨b, o + k * 10 + 6, none⟩ = some (.int .u64 (xs[k].commit : Nat)) ∧ W.cell? ⟨b, o + k * 10 + 7, none⟩ = some (.bool xs[k].ok) ∧ W.cell? ⟨b, o + k * 10 + 8, none⟩ = some (.slice xs[k].da xs[k].d.length xs[k].dc) ∧ W.cell? ⟨b, o + k * 10 + 9, none⟩ = some (.slice xs[k].ea xs[k].es.length xs[k].ec) := by
 obtain ⟨a', c', e, hcc, h1⟩ := h
 cases e
 rcases h1 with h1 | ⟨b, off, o, ha, ho, hk, hc⟩
 ·rw [h1] at h0; cases h0
 ·refine ⟨b, off, ha, fun k hk W f => ?_⟩
  have g : ∀ j u, (encM xs[k])[j]? = some u → W.cell? ⟨b, off + k * 10 + j, none⟩ = some u := fun j u hu => f.cell (fun _ _ => trivial) (hc k hk j u hu)
  exact ⟨g 0 _ rfl, g 1 _ rfl, g 2 _ rfl, g 3 _ rfl, g 4 _ rfl, g 5 _ rfl, g 6 _ rfl, g 7 _ rfl, g 8 _ rfl, g 9 _ rfl⟩
set_option maxRecDepth 100000 in
set_option maxHeartbeats 4000000 in
theorem mall_true [Old] {X X' : Nat → Prop} {K K' : Nat → Obj → Prop} (w : World) (va vb : Value) (la lb : List MV) (ha : RowsAt K w va 10 encM la) (hb : RowsAt K' w vb 10 encM lb) (ma : ∀ m ∈ la, MsAt X w m) (mb : ∀ m ∈ lb, MsAt X' w m) (ml : ∀ m ∈ la, m.es.length ≤ 1000000 ∧ m.d.length ≤ 9223372036854775807) (he : la.map MV.ms = lb.map MV.ms) (hlen : la.length ≤ 1000000) :
  Calls Tryz.prog 12 #[va, vb] w fun e w' => e = .returned (.bool true) ∧ Fr (fun _ _ => True) w w' := by
 obtain ⟨aa, ca, rfl, _⟩ := ha.form
 obtain ⟨ab, cb, rfl, _⟩ := hb.form
 have hll : lb.length = la.length := by have := congrArg List.length he; rw [List.length_map, List.length_map] at this; exact this.symm
 rw [hll] at hb ⊢
 obtain ⟨n, hn⟩ : ∃ n, la.length = n := ⟨_, rfl⟩
 rw [hn] at ha hb hll hlen ⊢
 have gn : ((n : Int) != (n : Int)) = false := by simp
 have HN := Lib.hid (And.intro hn hll)
 have HA := Lib.hid ha
 have HB := Lib.hid hb
 have HM := Lib.hid (And.intro ma (And.intro mb (And.intro ml he)))
 clear ha hb ma mb ml he hn hll
 go_enter Tryz.func12, Tryz.ntmps12
 go_wp2
 go_loopw [5] (fun v5 wr => ∃ k : Nat, v5 = .int .i64 (k : Nat) ∧ k ≤ n ∧ Hid (Fr (fun _ _ => True) w wr)) (fun v5 _ => n - (intOf v5).toNat)
 case atStart => exact ⟨0, rfl, Nat.zero_le _, Fr.refl _ _⟩
 case round =>
  obtain ⟨k, rfl, hk, HF3⟩ := hrel
  by_cases hlt : k < n
  ·have hltI : (k : Int) < (n : Int) := by omega
   obtain ⟨ba, oa, rfl, CA0⟩ := HA.out.ten (by have := HN.out.1; omega)
   obtain ⟨bb, ob, rfl, CB0⟩ := HB.out.ten (by have := HN.out.2; omega)
   have hka : k < la.length := by have := HN.out.1; omega
   have hkb : k < lb.length := by have := HN.out.2; omega
   obtain ⟨x, hx⟩ : ∃ x, la[k] = x := ⟨_, rfl⟩
   obtain ⟨y, hy⟩ : ∃ y, lb[k] = y := ⟨_, rfl⟩
   have CA := Lib.hid (CA0 k hka)
   have CB := Lib.hid (CB0 k hkb)
   rw [hx] at CA
   rw [hy] at CB
   have hxm : x ∈ la := hx ▸ List.getElem_mem hka
   have hym : y ∈ lb := hy ▸ List.getElem_mem hkb
   have hms : x.ms = y.ms := by
    have h1 : (la.map MV.ms)[k]? = (lb.map MV.ms)[k]? := by rw [HM.out.2.2.2]
    rw [List.getElem?_map, List.getElem?_map, List.getElem?_eq_getElem hka, List.getElem?_eq_getElem hkb, hx, hy] at h1
    exact Option.some.inj h1
   have SM : Hid (∀ W, Fr (fun _ _ => True) w W → Calls Tryz.prog 58 #[.agg (cM x), .agg (cM y)] W fun e w' => e = .returned (.bool true) ∧ Fr (fun _ _ => True) W w') := fun W f => msame_true W x y ((HM.out.1 x hxm).tt f) ((HM.out.2.1 y hym).tt f) hms (HM.out.2.2.1 x hxm).1 (HM.out.2.2.1 x hxm).2
   have UD : Hid (Fr (fun _ _ => True) wr wr.drew) := (Fr.refl _ _).drew
   clear CA0 CB0 hx hy hxm hym hms hka hkb
   go_wp2_with fail
   refine wp_region_cf (K := fun _ _ => True) (by kernel_rfl) [(18, 0), (19, 1), (20, 2), (21, 3), (22, 4), (23, 5), (24, 6), (25, 7), (26, 8), (6, 9)] [(0, []), (1, []), (2, [0, 1]), (3, [2]), (4, []), (5, []), (6, [4, 5]), (7, [6]), (8, [3, 7])] (ckR [(0, .slice (some ⟨ba, oa, none⟩) n ca), (1, .int .i64 (k : Nat)), (2, .pointer (some ⟨ba, oa + k * 10, none⟩)), (3, .agg (cM x)), (4, .slice (some ⟨bb, ob, none⟩) n cb), (5, .int .i64 (k : Nat)), (6, .pointer (some ⟨bb, ob + k * 10, none⟩)), (7, .agg (cM y)), (8, .bool true)] [] 9 0) 1 (by kernel_rfl) (by kernel_rfl) (by kernel_rfl) rfl ?cfall ?cfend
   case cfall =>
    iterate 8
     refine CfAll.kk rfl rfl rfl (fun xs W hF hE K' hK => ?_) ?_
     ·have HF := Lib.hid hF
      clear hF
      simp only [ckEqs, ckLook, Nat.reduceBEq] at hE
      simp only [fillA, fillL, sA, sB, sC, Act.put, hE] at hK ⊢
      clear hE
      obtain ⟨u0, u1, u2, u3, u4, u5, u6, u7, u8, u9⟩ := CA.out W (HF3.out.trans (UD.out.trans HF.out))
      obtain ⟨v0, v1, v2, v3, v4, v5, v6, v7, v8, v9⟩ := CB.out W (HF3.out.trans (UD.out.trans HF.out))
      (try simp only [gA, gB, gC])
      go_simp
      exact hK.out _ rfl
    refine CfAll.k rfl rfl (fun xs W hF hA hE K' hK => ?_) ?_
    ·have HF := Lib.hid hF
     clear hA hF
     simp only [ckEqs, ckLook, Nat.reduceBEq] at hE
     simp only [fillA, fillL, sA, sB, sC, Act.put, hE] at hK ⊢
     clear hE
     have SM1 := Lib.hid (SM.out W (HF3.out.trans (UD.out.trans HF.out)))
     (try simp only [gA, gB, gC])
     go_simp
     (with_reducible refine SM1.out.mono ?_)
     rintro e w8 ⟨rfl, f8⟩
     exact hK.out _ _ _ rfl f8 rfl
    exact CfAll.nil
   case cfend =>
    intro xs W hF hA
    have HF := Lib.hid hF
    have hE := ckEnd rfl hA
    clear hA hF
    simp only [List.map_cons, List.map_nil, ckEqs, ckLook, Nat.reduceBEq] at hE
    simp only [fillA, fillL, sA, sB, sC, hE]
    clear hE
    have F9 := Lib.hid (HF3.out.trans (UD.out.trans HF.out))
    clear SM CA CB UD
    refine wpAny_next 9 (by kernel_rfl) rfl fun K' hK => ?_
    (try simp only [gA, gB, gC])
    go_simp
    refine hK.out _ _ ?_
    clear hK K'
    refine wpAny_fin (by kernel_rfl) ?_
    go_wp2
    go_roundw
    case rel => exact ⟨k + 1, by go_num, by omega, F9.out⟩
    case measure => simp [intOf]; omega
  ·have hge : ¬ (k : Int) < (n : Int) := by omega
   go_wp2
   go_ret
   exact ⟨rfl, HF3.out⟩
end Go.Proofs.YtmjccpfchhnfhaaGreat
/- follow: node, behind, To (printed by fl1.py). -/
namespace Go.Proofs.YtmjccpfchhnfhaaGreat
open Go.RowKit
set_option linter.unusedVariables false
set_option linter.unusedSimpArgs false
theorem fnode_calls (w : World) (x : Int) : Calls Tryz.prog 62 #[.int .i64 x] w fun e w' => e = .returned (.bool (decide (0 ≤ x ∧ x < 16))) ∧ w = w' := by
 by_cases h0 : 0 ≤ x
 ·by_cases h1 : x < 16
  ·rw [decide_eq_true (show 0 ≤ x ∧ x < 16 from ⟨h0, h1⟩)]
   go_enter Tryz.func62, Tryz.ntmps62
   go_wp2
   go_ret
   exact ⟨rfl, rfl⟩
  ·rw [decide_eq_false (show ¬ (0 ≤ x ∧ x < 16) from fun e => h1 e.2)]
   go_enter Tryz.func62, Tryz.ntmps62
   go_wp2
   go_ret
   exact ⟨rfl, rfl⟩
 ·rw [decide_eq_false (show ¬ (0 ≤ x ∧ x < 16) from fun e => h0 e.1)]
  go_enter Tryz.func62, Tryz.ntmps62
  go_wp2
  go_ret
  exact ⟨rfl, rfl⟩
section
variable {X P : Nat → Prop} {w w' : World} {b : Nat} {n n' : Nd} {q q' : NV}
theorem PNs.lg [Old] (h : PNs X P w b n q) : ∃ ae le ce, q.ve = .slice ae le ce ∧ n.log.es.length = le ∧ (∀ W, Fr (fun _ _ => True) w W → EsAt X W (.slice ae le ce) q.es) ∧ lgE n.log.base n.log.bt q.es = n.log := by
 obtain ⟨a, c, e, _⟩ := h.ev.row.form
 refine ⟨a, _, c, e, h.esl, fun W f => ?_, ?_⟩
 ·rw [← e]; exact h.ev.tt f
 ·unfold lgE; rw [← h.ee]
set_option maxRecDepth 100000 in
set_option maxHeartbeats 2000000 in
theorem fbehind_calls [Old] (h : PNs X P w b n q) (t : Nat) (ht : t < 16) : Calls Tryz.prog 65 #[.pointer (some ⟨b, 0, none⟩), .int .i64 (t : Nat)] w fun e w' => e = .returned (.bool (decide (n.next.getD t 0 ≤ n.log.base))) ∧ ∃ m, w' = w.drewN m := by
 obtain ⟨x0, x1, x2, x3, x4, x5, x6, x7, x8, x9, x10, x11, x12, x13⟩ := h.cells (Fr.refl _ w)
 have z := h.nx.cell t ht
 obtain ⟨nt, hnt⟩ : ∃ x, n.next.getD t 0 = x := ⟨_, rfl⟩
 obtain ⟨bs, hbs⟩ : ∃ x, n.log.base = x := ⟨_, rfl⟩
 rw [hnt] at z ⊢
 rw [hbs] at x8 ⊢
 clear hnt hbs h x0 x1 x2 x3 x4 x5 x6 x7 x9 x10 x11 x13
 by_cases g : nt ≤ bs
 ·have g1 : decide (nt ≤ bs) = true := decide_eq_true g
  rw [g1]
  go_enter Tryz.func65, Tryz.ntmps65
  go_wp2_with fail
  go_quiet (fail)
  go_wp2
  go_ret
  exact ⟨rfl, _, rfl⟩
 ·have g1 : decide (nt ≤ bs) = false := decide_eq_false g
  rw [g1]
  go_enter Tryz.func65, Tryz.ntmps65
  go_wp2_with fail
  go_quiet (fail)
  go_wp2
  go_ret
  exact ⟨rfl, _, rfl⟩
def MOut [Old] (X : Nat → Prop) (w : World) (ms : List Ms) (e : Ending) (w' : World) : Prop := (∃ v mvs, e = .returned v ∧ OwnMs X w.heap.size w' v mvs ∧ mvs.map MV.ms = ms) ∧ Fr (fun _ _ => True) w w'
theorem MOut.none [Old] {X : Nat → Prop} {w w' : World} (f : Fr (fun _ _ => True) w w') : MOut X w [] (.returned (.slice none 0 0)) w' := ⟨⟨_, [], rfl, OwnMs.nil _ _ _, rfl⟩, f⟩
theorem OwnMs.at1 [Old] {X : Nat → Prop} {W : World} {B g : Nat} (m : MV) (hb : B ≤ g) (h : W.heap[g]? = some (.cells (cM m) 32 (0, 0))) (hx : ¬ X g) (hm : MsAt X W m) : OwnMs X B W (.slice (some ⟨g, 0, none⟩) 1 1) [m] := by
 refine ⟨⟨rfl, .inr ⟨_, 1, _, rfl, hb, h, Nat.le_refl _, by unfold maxLen; decide, rfl, rfl⟩⟩, fun c e hc => ?_, fun x hx2 => ?_⟩
 ·cases e
  exact hx hc
 ·simp only [List.mem_cons, List.not_mem_nil, or_false] at hx2
  subst hx2
  exact hm
set_option maxRecDepth 100000 in
set_option maxHeartbeats 4000000 in
theorem toR_calls [Old] (h : PNs X P w b n q) (x : Int) (hr : n.role ≠ 3) (hnx : ∀ y ∈ n.next, y < 18446744073709551616) (hl : n.log.last + 1 < 18446744073709551616) (hle : n.log.es.length ≤ 900000) :
  Calls Tryz.prog 16 #[.pointer (some ⟨b, 0, none⟩), .int .i64 x] w fun e w' => MOut X w (n.sendTo x) e w' := by
 have E : n.sendTo x = [] := if_pos (.inl hr)
 rw [E]
 have x2 := (h.cells (Fr.refl _ w)).2.2.1
 obtain ⟨ro, hro⟩ : ∃ x, n.role = x := ⟨_, rfl⟩
 rw [hro] at x2 hr
 have g1 : (ro == 3) = false := by simpa using hr
 have g2 : (ro != 3) = true := by rw [bne, g1]; rfl
 clear h hr hro E hnx hl hle
 go_enter Tryz.func16, Tryz.ntmps16
 go_wp2
 go_ret
 exact MOut.none (Fr.refl _ _)
set_option maxRecDepth 100000 in
set_option maxHeartbeats 4000000 in
theorem toM_calls [Old] (h : PNs X P w b n q) (x : Int) (hr : n.role = 3) (hx : x = n.me) (hnx : ∀ y ∈ n.next, y < 18446744073709551616) (hl : n.log.last + 1 < 18446744073709551616) (hle : n.log.es.length ≤ 900000) :
  Calls Tryz.prog 16 #[.pointer (some ⟨b, 0, none⟩), .int .i64 x] w fun e w' => MOut X w (n.sendTo x) e w' := by
 have E : n.sendTo x = [] := if_pos (.inr (.inl hx))
 rw [E]
 have x2 := (h.cells (Fr.refl _ w)).2.2.1
 have x0 := (h.cells (Fr.refl _ w)).1
 rw [hr] at x2
 rw [← hx] at x0
 clear h hr hx E hnx hl hle
 go_enter Tryz.func16, Tryz.ntmps16
 go_wp2
 go_ret
 exact MOut.none (Fr.refl _ _)
set_option maxRecDepth 100000 in
set_option maxHeartbeats 4000000 in
theorem toN_calls [Old] (h : PNs X P w b n q) (x : Int) (hr : n.role = 3) (hx : x ≠ n.me) (h16 : ¬ (0 ≤ x ∧ x < 16)) (hnx : ∀ y ∈ n.next, y < 18446744073709551616) (hl : n.log.last + 1 < 18446744073709551616) (hle : n.log.es.length ≤ 900000) :
  Calls Tryz.prog 16 #[.pointer (some ⟨b, 0, none⟩), .int .i64 x] w fun e w' => MOut X w (n.sendTo x) e w' := by
 have E : n.sendTo x = [] := if_pos (.inr (.inr (by by_cases h0 : x < 0; (· exact .inl h0); (· exact .inr (.inl (by omega))))))
 rw [E]
 have x2 := (h.cells (Fr.refl _ w)).2.2.1
 have x0 := (h.cells (Fr.refl _ w)).1
 obtain ⟨me, hme⟩ : ∃ x, n.me = x := ⟨_, rfl⟩
 rw [hr] at x2
 rw [hme] at x0 hx
 have NC := Lib.hid (fnode_calls w x)
 rw [decide_eq_false h16] at NC
 have g1 : (x == me) = false := by simpa using hx
 clear h hr hx E h16 hme hnx hl hle
 go_enter Tryz.func16, Tryz.ntmps16
 go_wp2_with fail
 (with_reducible refine NC.out.mono ?_)
 rintro e w1 ⟨rfl, rfl⟩
 clear NC
 go_wp2
 go_ret
 exact MOut.none (Fr.refl _ _)
set_option maxRecDepth 100000 in
set_option maxHeartbeats 4000000 in
theorem toB_calls [Old] (h : PNs X P w b n q) (t : Nat) (ht : t < 16) (hr : n.role = 3) (hx : ((t : Nat) : Int) ≠ n.me) (hb : n.next.getD t 0 ≤ n.log.base) (hnx : ∀ y ∈ n.next, y < 18446744073709551616) (hl : n.log.last + 1 < 18446744073709551616) (hle : n.log.es.length ≤ 900000) :
  Calls Tryz.prog 16 #[.pointer (some ⟨b, 0, none⟩), .int .i64 (t : Nat)] w fun e w' => MOut X w (n.sendTo (t : Nat)) e w' := by
 have E : n.sendTo (t : Nat) = [] := if_pos (.inr (.inr (.inr (.inr hb))))
 rw [E]
 obtain ⟨me, hme⟩ : ∃ x, n.me = x := ⟨_, rfl⟩
 have H := Lib.hid h
 have NC := Lib.hid (fun W => fnode_calls W (t : Nat))
 rw [decide_eq_true (show (0 : Int) ≤ (t : Nat) ∧ ((t : Nat) : Int) < 16 by omega)] at NC
 have BC := Lib.hid (fbehind_calls h t ht)
 rw [hme] at hx
 have g1 : (((t : Nat) : Int) == me) = false := by simpa using hx
 rw [decide_eq_true hb] at BC
 have x2 := (h.cells (Fr.refl _ w)).2.2.1
 have x0 := (h.cells (Fr.refl _ w)).1
 rw [hr] at x2
 rw [hme] at x0
 clear h hr hx E hme hnx hl hle hb ht
 go_enter Tryz.func16, Tryz.ntmps16
 go_wp2_with fail
 (with_reducible refine (NC.out _).mono ?_)
 rintro e w1 ⟨rfl, rfl⟩
 clear NC
 go_wp2_with fail
 (with_reducible refine BC.out.mono ?_)
 rintro e w1 ⟨rfl, m, hm⟩
 have F1 : Hid (Fr (fun _ _ => True) w w1) := by rw [hm]; exact (Fr.refl _ _).drewN _
 clear BC hm x0 x2
 go_wp2
 go_ret
 exact MOut.none F1.out
abbrev sMV (me : Int) (t tm pv pt cm : Nat) (a' : Option Addr) (c' : Nat) (ys : List EV) : MV := ⟨5, me, (t : Nat), tm, pv, pt, cm, false, none, 0, [], a', c', ys⟩
set_option maxRecDepth 100000 in
set_option maxHeartbeats 4000000 in
theorem toG_calls [Old] (h : PNs X P w b n q) (t : Nat) (ht : t < 16) (hr : n.role = 3) (hx : ((t : Nat) : Int) ≠ n.me) (hb : ¬ n.next.getD t 0 ≤ n.log.base) (hnx : ∀ y ∈ n.next, y < 18446744073709551616) (hl : n.log.last + 1 < 18446744073709551616) (hle : n.log.es.length ≤ 900000) :
  Calls Tryz.prog 16 #[.pointer (some ⟨b, 0, none⟩), .int .i64 (t : Nat)] w fun e w' => MOut X w (n.sendTo (t : Nat)) e w' := by
 obtain ⟨me, hme⟩ : ∃ x, n.me = x := ⟨_, rfl⟩
 have H := Lib.hid h
 have NC := Lib.hid (fun W => fnode_calls W (t : Nat))
 rw [decide_eq_true (show (0 : Int) ≤ (t : Nat) ∧ ((t : Nat) : Int) < 16 by omega)] at NC
 have BC := Lib.hid (fbehind_calls h t ht)
 rw [hme] at hx
 have g1 : (((t : Nat) : Int) == me) = false := by simpa using hx
 obtain ⟨ae, le, ce, hve, hlel, hes, hlg⟩ := h.lg
 obtain ⟨bs, hbs⟩ : ∃ x, n.log.base = x := ⟨_, rfl⟩
 obtain ⟨bt, hbt⟩ : ∃ x, n.log.bt = x := ⟨_, rfl⟩
 obtain ⟨tm, htm⟩ : ∃ x, n.tm = x := ⟨_, rfl⟩
 obtain ⟨cm, hcm⟩ : ∃ x, n.commit = x := ⟨_, rfl⟩
 obtain ⟨nt, hnt⟩ : ∃ x, n.next.getD t 0 = x := ⟨_, rfl⟩
 obtain ⟨bn, hbn⟩ : ∃ x, q.bn = x := ⟨_, rfl⟩
 obtain ⟨cn, hcn⟩ : ∃ x, q.cn = x := ⟨_, rfl⟩
 obtain ⟨pv, hpv⟩ : ∃ x, nt - 1 = x := ⟨_, rfl⟩
 obtain ⟨pt, hpt⟩ : ∃ x, (n.log.term pv).1 = x := ⟨_, rfl⟩
 obtain ⟨pk, hpk⟩ : ∃ x, (n.log.term pv).2 = x := ⟨_, rfl⟩
 obtain ⟨SL, hSL⟩ : ∃ x, n.log.slice nt 8 = x := ⟨_, rfl⟩
 rw [decide_eq_false hb] at BC
 have hn64 : nt < 18446744073709551616 := by
  rw [← hnt, List.getD_eq_getElem?_getD, List.getElem?_eq_getElem (by have := h.nx.1; omega)]
  exact hnx _ (List.getElem_mem _)
 rw [hnt, hbs] at hb
 have hl2 : bs + le + 1 < 18446744073709551616 := by unfold Lg.last at hl; omega
 have OUT : Hid (n.sendTo (t : Nat) = [{ zMs with kind := 5, src := me, dst := (t : Nat), tm := tm, index := pv, prev := pt, commit := cm, es := SL }]) := by
  show n.sendTo (t : Nat) = _
  have e : n.sendTo (t : Nat) = [{ zMs with kind := 5, src := n.me, dst := (t : Nat), tm := n.tm, index := n.next.getD t 0 - 1, prev := (n.log.term (n.next.getD t 0 - 1)).1, commit := n.commit, es := n.log.slice (n.next.getD t 0) 8 }] := if_neg (by
   show ¬ (n.role ≠ 3 ∨ ((t : Nat) : Int) = n.me ∨ ((t : Nat) : Int) < 0 ∨ 15 < ((t : Nat) : Int) ∨ n.next.getD t 0 ≤ n.log.base)
   rw [hnt, hbs, hme]
   intro e
   rcases e with e | e | e | e | e
   ·exact e hr
   ·exact hx e
   ·omega
   ·omega
   ·exact hb e)
  rw [e, hnt, hpv, hpt, hSL, hme, htm, hcm]
 have TC := Lib.hid (fun W (f : Fr (fun _ _ => True) w W) => tterm_calls W bs bt pv ae le ce q.es (hes W f).row (by omega))
 have SLC := Lib.hid (fun W (f : Fr (fun _ _ => True) w W) => tsliceE_calls W bs bt nt 8 ae le ce q.es (hes W f) (by omega) (by decide) (by decide) (by omega) hn64 (fun c hc => Nat.lt_of_lt_of_le (h.hx c hc) f.size))
 rw [show lgE bs bt q.es = n.log by rw [← hbs, ← hbt]; exact hlg, hpt, hpk] at TC
 rw [show (⟨bs, bt, q.es.map EV.en⟩ : Lg) = n.log by rw [← hbs, ← hbt]; exact hlg, hSL, show ((8 : Nat) : Int) = 8 from rfl] at SLC
 have CC : Hid (∀ W, Fr (fun _ _ => True) w W → W.cell? ⟨b, 0, none⟩ = some (.int .i64 me) ∧ W.cell? ⟨b, 6, none⟩ = some (.int .u64 (tm : Nat)) ∧ W.cell? ⟨b, 7, none⟩ = some (.int .u64 (cm : Nat)) ∧ W.cell? ⟨b, 8, none⟩ = some (.int .u64 (bs : Nat)) ∧ W.cell? ⟨b, 9, none⟩ = some (.int .u64 (bt : Nat)) ∧ W.cell? ⟨b, 10, none⟩ = some (.slice ae le ce) ∧ W.cell? ⟨b, 12, none⟩ = some (.slice (some ⟨bn, 0, none⟩) 16 cn) ∧ W.cell? ⟨bn, t, none⟩ = some (.int .u64 (nt : Nat))) := fun W f => by
  obtain ⟨x0, x1, x2, x3, x4, x5, x6, x7, x8, x9, x10, x11, x12, x13⟩ := h.cells f
  exact ⟨by rw [x0, hme], by rw [x6, htm], by rw [x7, hcm], by rw [x8, hbs], by rw [x9, hbt], by rw [x10, hve], by rw [x12, hbn, hcn], by rw [← hbn, ((h.nx.fr f fun _ _ => trivial).cell t ht), hnt]⟩
 have w1 : IntKind.u64.wrap ((nt : Int) - 1) = ((pv : Nat) : Int) := by rw [IntKind.wrap_u64]; omega
 have x2 := (h.cells (Fr.refl _ w)).2.2.1
 rw [hr] at x2
 have x0 := (CC.out w (Fr.refl _ _)).1
 have ht2 : ((t : Nat) : Int) < 16 := by omega
 clear h hr hx hme hnx hl hle hb hve hlel hes hlg hbs hbt htm hcm hnt hbn hcn hpv hpt hpk hSL hn64 hl2
 dsimp only [vL] at TC
 go_enter Tryz.func16, Tryz.ntmps16
 go_wp2_with fail
 (with_reducible refine (NC.out _).mono ?_)
 rintro e wa ⟨rfl, rfl⟩
 clear NC
 go_wp2_with fail
 (with_reducible refine BC.out.mono ?_)
 rintro e wb ⟨rfl, m, hm⟩
 have F1 : Hid (Fr (fun _ _ => True) w wb) := by rw [hm]; exact (Fr.refl _ _).drewN _
 clear BC hm x0 x2
 obtain ⟨y0, y6, y7, y8, y9, y10, y12, z⟩ := CC.out wb F1.out
 go_wp2_with fail
 (with_reducible refine (TC.out _ F1.out).mono ?_)
 rintro e wc ⟨rfl, f2⟩
 have UD : Hid (Fr (fun _ _ => True) w wc.drew) := (F1.out.trans f2).drew
 clear TC f2 y0 y6 y7 y8 y9 y10 y12 z w1
 go_wp2_with fail
 refine wp_region_cf_all (K := fun _ _ => True) (by kernel_rfl) [(48, 0), (49, 1), (50, 2), (51, 3), (52, 4), (53, 5), (54, 6), (55, 7), (56, 8), (57, 9), (58, 10), (59, 11), (60, 12), (61, 13), (62, 14), (63, 15), (64, 16), (65, 17), (66, 18), (67, 19), (68, 20), (69, 21), (70, 22), (71, 23), (72, 24), (73, 25), (74, 26), (75, 27), (76, 28), (4, 29)] [(0, []), (1, [0]), (2, [1]), (3, [2]), (4, []), (5, []), (6, [5]), (7, [6]), (8, [7]), (9, []), (10, []), (11, []), (12, [11]), (13, [12]), (14, [13]), (15, []), (16, [15]), (17, [16]), (18, [17]), (19, []), (20, [19]), (21, [20]), (22, [21]), (23, []), (24, [22, 23]), (25, [24]), (26, [18, 25]), (27, [3, 4, 8, 9, 10, 14, 26]), (28, [27]), (29, [28])] (ckR [(0, .pointer (some ⟨b, 0, none⟩)), (1, .pointer (some ⟨b, 0, none⟩)), (2, .pointer (some ⟨b, 0, none⟩)), (3, .int .i64 me), (4, .int .i64 (t : Nat)), (5, .pointer (some ⟨b, 0, none⟩)), (6, .pointer (some ⟨b, 0, none⟩)), (7, .pointer (some ⟨b, 6, none⟩)), (8, .int .u64 (tm : Nat)), (9, .int .u64 (pv : Nat)), (10, .int .u64 (pt : Nat)), (11, .pointer (some ⟨b, 0, none⟩)), (12, .pointer (some ⟨b, 0, none⟩)), (13, .pointer (some ⟨b, 7, none⟩)), (14, .int .u64 (cm : Nat)), (15, .pointer (some ⟨b, 0, none⟩)), (16, .pointer (some ⟨b, 0, none⟩)), (17, .pointer (some ⟨b, 8, none⟩)), (18, .agg #[.int .u64 (bs : Nat), .int .u64 (bt : Nat), .slice ae le ce]), (19, .pointer (some ⟨b, 0, none⟩)), (20, .pointer (some ⟨b, 0, none⟩)), (21, .pointer (some ⟨b, 12, none⟩)), (22, .slice (some ⟨bn, 0, none⟩) 16 cn), (23, .int .i64 (t : Nat)), (24, .pointer (some ⟨bn, t, none⟩)), (25, .int .u64 (nt : Nat))] [(26, ⟨fun v W => ∃ a' c' ys, v = .slice a' ys.length c' ∧ EsAt X W (.slice a' ys.length c') ys ∧ ys.map EV.en = SL, fun v W W' h hf => by obtain ⟨a', c', ys, h1, h2, h3⟩ := h; exact ⟨a', c', ys, h1, h2.tt hf, h3⟩⟩), (27, ⟨fun v W => ∃ a' c' ys, v = .agg #[.int .i64 5, .int .i64 me, .int .i64 (t : Nat), .int .u64 (tm : Nat), .int .u64 (pv : Nat), .int .u64 (pt : Nat), .int .u64 (cm : Nat), .bool false, .slice none 0 0, .slice a' ys.length c'] ∧ EsAt X W (.slice a' ys.length c') ys ∧ ys.map EV.en = SL, fun v W W' h hf => by obtain ⟨a', c', ys, h1, h2, h3⟩ := h; exact ⟨a', c', ys, h1, h2.tt hf, h3⟩⟩), (28, ⟨fun v W => ∃ g a' c' ys, v = .slice (some ⟨g, 0, none⟩) 1 1 ∧ w.heap.size ≤ g ∧ W.heap[g]? = some (.cells (cM (sMV me t tm pv pt cm a' c' ys)) 32 (0, 0)) ∧ EsAt X W (.slice a' ys.length c') ys ∧ ys.map EV.en = SL, fun v W W' h hf => by obtain ⟨g, a', c', ys, h1, h2, h3, h4, h5⟩ := h; exact ⟨g, a', c', ys, h1, h2, hf.keep _ _ h3 trivial, h4.tt hf, h5⟩⟩), (29, ⟨fun v W => ∃ g a' c' ys, v = .slice (some ⟨g, 0, none⟩) 1 1 ∧ w.heap.size ≤ g ∧ W.heap[g]? = some (.cells (cM (sMV me t tm pv pt cm a' c' ys)) 32 (0, 0)) ∧ EsAt X W (.slice a' ys.length c') ys ∧ ys.map EV.en = SL, fun v W W' h hf => by obtain ⟨g, a', c', ys, h1, h2, h3, h4, h5⟩ := h; exact ⟨g, a', c', ys, h1, h2, hf.keep _ _ h3 trivial, h4.tt hf, h5⟩⟩)] 30 0) (by kernel_rfl) (by kernel_rfl) (by kernel_rfl) rfl ?cfall (by kernel_rfl) ?cfend
 case cfall =>
  iterate 26
   refine CfAll.kk rfl rfl rfl (fun xs W hF hE K' hK => ?_) ?_
   ·have HF := Lib.hid hF
    clear hF
    simp only [ckEqs, ckLook, Nat.reduceBEq] at hE
    simp only [fillA, fillL, sA, sB, sC, Act.put, hE] at hK ⊢
    clear hE
    obtain ⟨y0, y6, y7, y8, y9, y10, y12, z⟩ := CC.out W (UD.out.trans HF.out)
    (try simp only [gA, gB, gC])
    go_simp
    exact hK.out _ rfl
  refine CfAll.k rfl rfl (fun xs W hF hA hE K' hK => ?_) ?_
  ·have HF := Lib.hid hF
   clear hA hF
   simp only [ckEqs, ckLook, Nat.reduceBEq] at hE
   simp only [fillA, fillL, sA, sB, sC, Act.put, hE] at hK ⊢
   clear hE
   have SC := Lib.hid (SLC.out W (UD.out.trans HF.out))
   dsimp only [vL] at SC
   (try simp only [gA, gB, gC])
   go_simp
   (with_reducible refine SC.out.mono ?_)
   rintro e w8 ⟨⟨a', c', ys, rfl, he, hy⟩, f8⟩
   exact hK.out _ _ _ rfl f8 ⟨a', c', ys, rfl, he, hy⟩
  refine CfAll.k rfl rfl (fun xs W hF hA hE K' hK => ?_) ?_
  ·have HF := Lib.hid hF
   have h26 := hA 26 (by decide)
   clear hA hF
   simp only [ckEqs, ckLook, Nat.reduceBEq] at hE
   simp only [fillA, fillL, sA, sB, sC, Act.put, hE] at hK ⊢
   clear hE
   obtain ⟨a', c', ys, e26, he, hy⟩ := h26
   rw [e26] at hK ⊢
   clear e26
   (try simp only [gA, gB, gC])
   go_simp
   exact hK.out _ _ _ rfl (Fr.refl _ _) ⟨a', c', ys, rfl, he, hy⟩
  refine CfAll.k rfl rfl (fun xs W hF hA hE K' hK => ?_) ?_
  ·have HF := Lib.hid hF
   have h27 := hA 27 (by decide)
   clear hA hF
   simp only [ckEqs, ckLook, Nat.reduceBEq] at hE
   simp only [fillA, fillL, sA, sB, sC, Act.put, hE] at hK ⊢
   clear hE
   obtain ⟨a', c', ys, e27, he, hy⟩ := h27
   rw [e27] at hK ⊢
   clear e27
   have SB : Hid (w.heap.size ≤ W.heap.size) := (UD.out.trans HF.out).size
   (try simp only [gA, gB, gC])
   go_simp
   exact hK.out _ _ _ rfl ((Fr.refl _ _).alloc _) ⟨_, a', c', ys, rfl, SB.out, heap_alloc_new _ _, he.tt ((Fr.refl _ _).alloc _), hy⟩
  refine CfAll.k rfl rfl (fun xs W hF hA hE K' hK => ?_) ?_
  ·have HF := Lib.hid hF
   have h28 := hA 28 (by decide)
   clear hA hF
   simp only [ckEqs, ckLook, Nat.reduceBEq] at hE
   simp only [fillA, fillL, sA, sB, sC, Act.put, hE] at hK ⊢
   clear hE
   obtain ⟨g, a', c', ys, e28, hg, tg, he, hy⟩ := h28
   rw [e28] at hK ⊢
   clear e28
   (try simp only [gA, gB, gC])
   go_simp
   exact hK.out _ _ _ rfl (Fr.refl _ _) ⟨g, a', c', ys, rfl, hg, tg, he, hy⟩
  exact CfAll.nil
 case cfend =>
  intro xs W hF hA
  have HF := Lib.hid hF
  have hE := ckEnd rfl hA
  have h26 := hA (26, [18, 25]) (by decide)
  have h27 := hA (27, [3, 4, 8, 9, 10, 14, 26]) (by decide)
  have h28 := hA (28, [27]) (by decide)
  have h29 := hA (29, [28]) (by decide)
  clear hA hF
  simp only [List.map_cons, List.map_nil, ckEqs, ckLook, Nat.reduceBEq] at hE
  simp only [fillA, fillL, sA, sB, sC, hE]
  clear hE
  obtain ⟨g, a', c', ys, e29, hg, tg, he, hy⟩ := h29
  rw [e29]
  have FW := Lib.hid (UD.out.trans HF.out)
  have HE := Lib.hid (And.intro hg (And.intro tg (And.intro he hy)))
  clear hg tg he hy e29 SLC CC
  go_wp2
  go_ret
  rw [OUT.out]
  refine ⟨⟨_, [sMV me t tm pv pt cm a' c' ys], rfl, OwnMs.at1 _ HE.out.1 HE.out.2.1 (fun hc => by have := H.out.hx g hc; have := HE.out.1; omega) ⟨BytesAt.nil _ _, HE.out.2.2.1⟩, ?_⟩, FW.out⟩
  show [MV.ms _] = _
  unfold MV.ms
  rw [HE.out.2.2.2]
  rfl
theorem to_calls [Old] (h : PNs X P w b n q) (x : Int) (hnx : ∀ y ∈ n.next, y < 18446744073709551616) (hl : n.log.last + 1 < 18446744073709551616) (hle : n.log.es.length ≤ 900000) :
  Calls Tryz.prog 16 #[.pointer (some ⟨b, 0, none⟩), .int .i64 x] w fun e w' => MOut X w (n.sendTo x) e w' := by
 by_cases hr : n.role = 3
 ·by_cases hx : x = n.me
  ·exact toM_calls h x hr hx hnx hl hle
  ·by_cases h16 : 0 ≤ x ∧ x < 16
   ·obtain ⟨t, rfl⟩ := Int.eq_ofNat_of_zero_le h16.1
    by_cases hb : n.next.getD t 0 ≤ n.log.base
    ·exact toB_calls h t (by omega) hr hx hb hnx hl hle
    ·exact toG_calls h t (by omega) hr hx hb hnx hl hle
   ·exact toN_calls h x hr hx h16 hnx hl hle
 ·exact toR_calls h x hr hnx hl hle
end
end Go.Proofs.YtmjccpfchhnfhaaGreat
/- Law 12: rows of uint64 (printed by he.py). -/
namespace Go.Proofs.YtmjccpfchhnfhaaGreat
open Go.RowKit
set_option linter.unusedVariables false
set_option linter.unusedSimpArgs false
def encW (x : Nat) : List Value := [.int .u64 (x : Nat)]
theorem encW_len (x : Nat) : (encW x).length = 1 := rfl
theorem encW_one (x : Nat) : ∀ u ∈ encW x, u.oneCell' = true := fun u hu => by rw [List.mem_singleton.1 hu]; rfl
theorem encW_flat : ∀ (xs : List Nat), xs.flatMap encW = xs.map natN
 | [] => rfl
 | x :: xs => by rw [List.flatMap_cons, encW_flat xs]; rfl
theorem wpList_append_us {K0 : Nat → Obj → Prop} {ops : Array Oper} {rest : List Oper} {o : Oper} {a : Act} {Q : Exit → Act → World → Prop} (W0 W : World) (hF : Hid (Fr (fun _ _ => True) W0 W)) (hgd : o.guard = none) (s x : Operand)
  (ho : o.op = .call { callee := .builtin .append, args := #[s, x], argTypes := #[27, 27] }) (v : Value) (T : List Nat) (hs : a.eval s = v) (hown : Hid (W.ownsRow W0.heap.size 23 1 v T.length (T.flatMap encW)))
  (vx : Value) (ys : List Nat) (hx : a.eval x = vx) (hvx : Hid (RowsAt K0 W vx 1 encW ys)) (R : List Nat) (hR : Hid (T ++ ys = R)) (N : Nat) (hN : Hid (R.length = N)) (hn : N ≤ 1000000)
  (h : ∀ g c w', Hid (w'.ownsRow W0.heap.size 23 1 (.slice g N c) N (R.flatMap encW)) → Hid (Fr (fun _ _ => True) W0 w') → Hid (Fr (fun b _ => v.ownBlock ≠ some b) W w') → Hid (OwnNext W v (.slice g N c)) → wpList Tryz.prog ops Q rest (a.put o.dst (.slice g N c)) w') :
  wpList Tryz.prog ops Q (o :: rest) a W := by
 obtain ⟨i0, hi, hz0, hz1, hz2⟩ := info_parts info_u64
 have e2 : T.length + ys.length = N := by rw [← hN.out, ← hR.out, List.length_append]
 exact wpList_plain hgd fun _ hK => wp_append_rows W s x 27 23 ho W0.heap.size hF.out.size i0 _ 1 8 Tryz.underlying27 hi hz0 hz1 hz2 rfl (by decide) (by decide) encW_len encW_one v T.length T hs hown.out vx ys hx hvx.out R hR.out N e2 hn fun g c w' h1 h2 h3 => hK _ _ (h g c w' h1 (hF.out.grown_new h2 (own_new hown.out)) (.of_grown h2 fun k o e _ hk => hk e) h3)
end Go.Proofs.YtmjccpfchhnfhaaGreat
/- Nodes, plainly: terms do not fall, what is sure never becomes less. -/
namespace Go.Proofs.YtmjccpfchhnfhaaGreat
set_option linter.unusedVariables false
set_option linter.unusedSimpArgs false
namespace Nd
structure Up (n n' : Nd) : Prop where
 tm : n.tm ≤ n'.tm
 commit : n.commit ≤ n'.commit
 me : n'.me = n.me
 conf : n'.conf = n.conf
 base : n'.log.base = n.log.base
theorem Up.refl (n : Nd) : Up n n := ⟨Nat.le_refl _, Nat.le_refl _, rfl, rfl, rfl⟩
theorem Up.trans {a b c : Nd} (h : Up a b) (k : Up b c) : Up a c := ⟨Nat.le_trans h.tm k.tm, Nat.le_trans h.commit k.commit, k.me.trans h.me, k.conf.trans h.conf, k.base.trans h.base⟩
theorem follow_up (n : Nd) (t : Nat) (ld : Int) : Up n (n.follow t ld) := by
 unfold follow
 split
 ·exact ⟨by show n.tm ≤ t; omega, Nat.le_refl _, rfl, rfl, rfl⟩
 ·exact ⟨Nat.le_refl _, Nat.le_refl _, rfl, rfl, rfl⟩
theorem lead_up (n : Nd) : Up n n.lead := ⟨Nat.le_refl _, Nat.le_refl _, rfl, rfl, rfl⟩
theorem askT_up (n : Nd) : Up n n.askT.1 := by
 unfold askT
 split
 ·dsimp only
  split
  ·exact ⟨Nat.le_succ _, Nat.le_refl _, rfl, rfl, rfl⟩
  ·exact ⟨Nat.le_succ _, Nat.le_refl _, rfl, rfl, rfl⟩
 ·exact Up.refl n
theorem askF_up (n : Nd) : Up n n.askF.1 := by
 unfold askF
 split
 ·dsimp only
  split
  ·exact Up.trans (b := { n with role := 1, ld := -1, yes := [n.me] }) ⟨Nat.le_refl _, Nat.le_refl _, rfl, rfl, rfl⟩ (askT_up _)
  ·exact ⟨Nat.le_refl _, Nat.le_refl _, rfl, rfl, rfl⟩
 ·exact Up.refl n
theorem chosen_up (n : Nd) : Up n n.chosen.1 := by
 unfold chosen
 split
 ·exact askT_up n
 ·exact lead_up n
theorem onAsk_up (n : Nd) (m : Ms) : Up n (n.onAsk m).1 := by
 unfold onAsk
 split
 ·dsimp only
  have h : Up n (if m.kind = 1 ∧ n.tm < m.tm then n.follow m.tm (-1) else n) := by
   split
   ·exact follow_up _ _ _
   ·exact Up.refl n
  generalize (if m.kind = 1 ∧ n.tm < m.tm then n.follow m.tm (-1) else n) = n1 at h
  split
  ·exact ⟨h.tm, h.commit, h.me, h.conf, h.base⟩
  ·exact h
 ·exact Up.refl n
theorem onAnswer_up (n : Nd) (m : Ms) : Up n (n.onAnswer m).1 := by
 unfold onAnswer
 split
 ·dsimp only
  have h : Up n (if n.tm < m.tm ∧ (m.ok = false ∨ m.kind = 2) then n.follow m.tm (-1) else n) := by
   split
   ·exact follow_up _ _ _
   ·exact Up.refl n
  generalize (if n.tm < m.tm ∧ (m.ok = false ∨ m.kind = 2) then n.follow m.tm (-1) else n) = n1 at h
  have h2 : Up n { n1 with yes := n1.yes ++ [m.src] } := ⟨h.tm, h.commit, h.me, h.conf, h.base⟩
  split
  ·split
   ·exact h2.trans (chosen_up _)
   ·exact h2
  ·exact h
 ·exact Up.refl n
theorem sureR_up (n : Nd) (r : Nat) : Up n (n.sureR r) := by
 unfold sureR
 split
 ·rename_i h
  exact ⟨Nat.le_refl _, by show n.commit ≤ r; omega, rfl, rfl, rfl⟩
 ·exact Up.refl n
theorem propose_up (n : Nd) (k : Int) (d : List UInt8) : Up n (n.propose k d).1 := by
 unfold propose
 split
 ·exact Up.refl n
 ·split
  ·exact Up.refl n
  ·split
   ·exact Up.refl n
   ·exact Up.trans (b := { n with log := n.log.add ⟨n.tm, k, d⟩, mat := n.mat.set n.me.toNat (n.log.last + 1) }) ⟨Nat.le_refl _, Nat.le_refl _, rfl, rfl, rfl⟩ (sureR_up _ _)
theorem taken_up (n : Nd) (m : Ms) : Up n (n.taken m).1 := by
 unfold taken
 split
 ·exact Up.refl n
 ·refine ⟨Nat.le_refl _, ?_, rfl, rfl, (Lg.append_base _ _ _ _).1⟩
  show n.commit ≤ max n.commit _
  omega
theorem onAppend_up (n : Nd) (m : Ms) : Up n (n.onAppend m).1 := by
 unfold onAppend
 split
 ·exact Up.refl n
 ·split
  ·exact Up.refl n
  ·have h := follow_up n m.tm m.src
   exact Up.trans (b := { n.follow m.tm m.src with heard := true }) ⟨h.tm, h.commit, h.me, h.conf, h.base⟩ (taken_up _ m)
theorem acked_up (n : Nd) (m : Ms) : Up n (n.acked m) := by
 unfold acked
 split
 ·exact ⟨Nat.le_refl _, Nat.le_refl _, rfl, rfl, rfl⟩
 ·split
  ·exact Up.trans (b := { n with mat := n.mat.set m.src.toNat (max (n.mat.getD m.src.toNat 0) m.index), next := n.next.set m.src.toNat (max (n.mat.getD m.src.toNat 0) m.index + 1) }) ⟨Nat.le_refl _, Nat.le_refl _, rfl, rfl, rfl⟩ (sureR_up _ _)
  ·exact Up.refl n
theorem onAcked_up (n : Nd) (m : Ms) : Up n (n.onAcked m).1 := by
 unfold onAcked
 split
 ·exact Up.refl n
 ·split
  ·exact follow_up _ _ _
  ·split
   ·exact Up.refl n
   ·split <;> exact acked_up n m
def hear (n : Nd) (m : Ms) : Nd × List Ms :=
 let a := n.onAsk m
 let b := a.1.onAnswer m
 let c := b.1.onAppend m
 let d := c.1.onAcked m
 (d.1, a.2 ++ b.2 ++ c.2 ++ d.2)
theorem hear_up (n : Nd) (m : Ms) : Up n (n.hear m).1 := (((onAsk_up n m).trans (onAnswer_up _ m)).trans (onAppend_up _ m)).trans (onAcked_up _ m)
end Nd
end Go.Proofs.YtmjccpfchhnfhaaGreat
/- Nodes, plainly: how great their numbers grow. -/
namespace Go.Proofs.YtmjccpfchhnfhaaGreat
set_option linter.unusedVariables false
set_option linter.unusedSimpArgs false
structure Bn (B : Nat) (n : Nd) : Prop where
 tm : n.tm ≤ B
 commit : n.commit ≤ B
 last : n.log.last ≤ B
 n16 : n.next.length = 16
 m16 : n.mat.length = 16
 nx : ∀ x ∈ n.next, x ≤ B
 mt : ∀ x ∈ n.mat, x ≤ B
structure Bm (B : Nat) (m : Ms) : Prop where
 tm : m.tm ≤ B
 index : m.index + m.es.length ≤ B
 prev : m.kind = 6 → m.prev ≤ B
 commit : m.commit ≤ B
theorem Bn.mono {B B' : Nat} {n : Nd} (h : Bn B n) (hb : B ≤ B') : Bn B' n := ⟨Nat.le_trans h.tm hb, Nat.le_trans h.commit hb, Nat.le_trans h.last hb, h.n16, h.m16, fun x hx => Nat.le_trans (h.nx x hx) hb, fun x hx => Nat.le_trans (h.mt x hx) hb⟩
theorem Bm.mono {B B' : Nat} {m : Ms} (h : Bm B m) (hb : B ≤ B') : Bm B' m := ⟨Nat.le_trans h.tm hb, Nat.le_trans h.index hb, fun k => Nat.le_trans (h.prev k) hb, Nat.le_trans h.commit hb⟩
theorem set_le {B : Nat} {l : List Nat} (h : ∀ x ∈ l, x ≤ B) (i y : Nat) (hy : y ≤ B) : ∀ x ∈ l.set i y, x ≤ B := fun x hx => by
 rcases List.mem_or_eq_of_mem_set hx with h1 | h1
 ·exact h x h1
 ·exact h1 ▸ hy
theorem getD_le {B : Nat} {l : List Nat} (h : ∀ x ∈ l, x ≤ B) (i : Nat) : l.getD i 0 ≤ B := by
 rw [List.getD_eq_getElem?_getD]
 by_cases hi : i < l.length
 ·rw [List.getElem?_eq_getElem hi]; exact h _ (List.getElem_mem hi)
 ·rw [List.getElem?_eq_none (by omega)]; exact Nat.zero_le _
theorem rep_le {B k y : Nat} (hy : y ≤ B) : ∀ x ∈ List.replicate k y, x ≤ B := fun x hx => by rw [List.eq_of_mem_replicate hx]; exact hy
theorem lay_last {B : Nat} {l : Lg} : ∀ (es : List En) (p : Nat), l.base ≤ p → p ≤ l.last → l.last ≤ B → p + es.length ≤ B → (l.lay p es).last ≤ B
 | [], p, _, _, h, _ => h
 | x :: xs, p, h1, h2, h3, h4 => by
  rw [List.length_cons] at h4
  unfold Lg.lay
  split
  ·rename_i h
   have h5 : (l.term (p + 1)).2 = true := by rw [h]
   exact lay_last xs (p + 1) (by omega) (Lg.term_is.1 h5).2 h3 (by omega)
  ·show l.base + (l.es.take (p - l.base) ++ x :: xs).length ≤ B
   rw [List.length_append, List.length_take, List.length_cons]
   omega
theorem append_last {B : Nat} {l : Lg} {p pt : Nat} {es : List En} (h : l.last ≤ B) (hi : p + es.length ≤ B) : (l.append p pt es).1.last ≤ B := by
 unfold Lg.append
 split
 ·exact h
 ·rename_i hf
  have hp : p ≤ l.last := by
   unfold Lg.fits at hf
   by_cases hh : l.last < p
   ·rw [if_pos hh] at hf; exact absurd (by decide) hf
   ·omega
  have hb : l.base ≤ l.last := by unfold Lg.last; omega
  split
  ·refine lay_last _ _ (Nat.le_refl _) hb h ?_
   rw [List.length_drop]
   omega
  ·exact lay_last _ _ (by omega) hp h hi
namespace Nd
variable {B : Nat} {n : Nd} {m : Ms}
theorem follow_b (h : Bn B n) {t : Nat} (ht : t ≤ B) (ld : Int) : Bn B (n.follow t ld) := by
 unfold follow
 split
 ·exact ⟨ht, h.commit, h.last, h.n16, h.m16, h.nx, h.mt⟩
 ·exact ⟨h.tm, h.commit, h.last, h.n16, h.m16, h.nx, h.mt⟩
theorem lead_b (h : Bn B n) : Bn (B + 1) n.lead := by
 have hl := h.last
 refine ⟨Nat.le_succ_of_le h.tm, Nat.le_succ_of_le h.commit, ?_, by simp [lead], by simp [lead], rep_le (by omega), set_le (rep_le (Nat.zero_le _)) _ _ (by omega)⟩
 show n.log.base + (n.log.es ++ [_]).length ≤ _
 unfold Lg.last at hl
 simp; omega
theorem toAll_b (m : Ms) (h : Bm B m) : ∀ x ∈ n.toAll m, Bm B x := fun x hx => by
 unfold toAll at hx
 obtain ⟨y, _, rfl⟩ := List.mem_map.1 hx
 exact ⟨h.tm, h.index, h.prev, h.commit⟩
theorem askT_b (h : Bn B n) : Bn (B + 1) n.askT.1 ∧ ∀ x ∈ n.askT.2, Bm (B + 1) x := by
 have h1 := h.mono (Nat.le_succ B)
 have hl := h.last
 have ht := h.tm
 unfold askT
 split
 ·dsimp only
  split
  ·have hh := lead_b (n := { n with tm := n.tm + 1, vote := n.me, role := 2, ld := -1, yes := [n.me] }) (B := B + 1) ⟨by show n.tm + 1 ≤ B + 1; omega, h1.commit, h1.last, h1.n16, h1.m16, h1.nx, h1.mt⟩
   refine ⟨⟨by show n.tm + 1 ≤ B + 1; omega, h1.commit, ?_, hh.n16, hh.m16, rep_le ?_, set_le (rep_le (Nat.zero_le _)) _ _ ?_⟩, fun x hx => by cases hx⟩
   ·show n.log.base + (n.log.es ++ [_]).length ≤ _
    unfold Lg.last at hl
    simp; omega
   ·show n.log.last + 1 ≤ B + 1; omega
   ·show n.log.last + 1 ≤ B + 1; omega
  ·refine ⟨⟨by show n.tm + 1 ≤ B + 1; omega, h1.commit, h1.last, h1.n16, h1.m16, h1.nx, h1.mt⟩, toAll_b _ ⟨by show n.tm + 1 ≤ B + 1; omega, by show n.log.last + 0 ≤ B + 1; omega, fun k => absurd (show (1 : Int) = 6 from k) (by decide), Nat.zero_le _⟩⟩
 ·exact ⟨h1, fun x hx => by cases hx⟩
theorem askF_b (h : Bn B n) : Bn (B + 1) n.askF.1 ∧ ∀ x ∈ n.askF.2, Bm (B + 1) x := by
 have h1 := h.mono (Nat.le_succ B)
 have hl := h.last
 have ht := h.tm
 unfold askF
 split
 ·dsimp only
  split
  ·exact askT_b (n := { n with role := 1, ld := -1, yes := [n.me] }) ⟨h.tm, h.commit, h.last, h.n16, h.m16, h.nx, h.mt⟩
  ·refine ⟨⟨h1.tm, h1.commit, h1.last, h1.n16, h1.m16, h1.nx, h1.mt⟩, toAll_b _ ⟨by show n.tm + 1 ≤ B + 1; omega, by show n.log.last + 0 ≤ B + 1; omega, fun k => absurd (show (3 : Int) = 6 from k) (by decide), Nat.zero_le _⟩⟩
 ·exact ⟨h1, fun x hx => by cases hx⟩
theorem chosen_b (h : Bn B n) : Bn (B + 1) n.chosen.1 ∧ ∀ x ∈ n.chosen.2, Bm (B + 1) x := by
 unfold chosen
 split
 ·exact askT_b h
 ·exact ⟨lead_b h, fun x hx => by cases hx⟩
theorem onAsk_b (h : Bn B n) (hm : Bm B m) : Bn B (n.onAsk m).1 ∧ ∀ x ∈ (n.onAsk m).2, Bm B x := by
 unfold onAsk
 split
 ·rename_i hk
  dsimp only
  have h1 : Bn B (if m.kind = 1 ∧ n.tm < m.tm then n.follow m.tm (-1) else n) := by
   split
   ·exact follow_b h hm.tm _
   ·exact h
  generalize (if m.kind = 1 ∧ n.tm < m.tm then n.follow m.tm (-1) else n) = n1 at h1
  refine ⟨?_, fun x hx => ?_⟩
  ·split
   ·exact ⟨h1.tm, h1.commit, h1.last, h1.n16, h1.m16, h1.nx, h1.mt⟩
   ·exact h1
  ·rw [List.mem_singleton.1 hx]
   refine ⟨?_, Nat.zero_le _, fun k => ?_, Nat.zero_le _⟩
   ·show (if _ then m.tm else n1.tm) ≤ B
    split
    ·exact hm.tm
    ·exact h1.tm
   ·have k' : m.kind + 1 = 6 := k
    omega
 ·exact ⟨h, fun x hx => by cases hx⟩
theorem onAnswer_b (h : Bn B n) (hm : Bm B m) : Bn (B + 1) (n.onAnswer m).1 ∧ ∀ x ∈ (n.onAnswer m).2, Bm (B + 1) x := by
 unfold onAnswer
 split
 ·dsimp only
  have h1 : Bn B (if n.tm < m.tm ∧ (m.ok = false ∨ m.kind = 2) then n.follow m.tm (-1) else n) := by
   split
   ·exact follow_b h hm.tm _
   ·exact h
  generalize (if n.tm < m.tm ∧ (m.ok = false ∨ m.kind = 2) then n.follow m.tm (-1) else n) = n1 at h1
  have h2 : Bn B { n1 with yes := n1.yes ++ [m.src] } := ⟨h1.tm, h1.commit, h1.last, h1.n16, h1.m16, h1.nx, h1.mt⟩
  split
  ·split
   ·exact chosen_b h2
   ·exact ⟨h2.mono (Nat.le_succ _), fun x hx => by cases hx⟩
  ·exact ⟨h1.mono (Nat.le_succ _), fun x hx => by cases hx⟩
 ·exact ⟨h.mono (Nat.le_succ _), fun x hx => by cases hx⟩
theorem sureR_b (h : Bn B n) (r : Nat) : Bn B (n.sureR r) := by
 unfold sureR
 split
 ·rename_i hh
  have h3 : (n.log.term r).2 = true := by rw [hh.2.1]
  have := (Lg.term_is.1 h3).2
  exact ⟨h.tm, by show r ≤ B; have := h.last; omega, h.last, h.n16, h.m16, h.nx, h.mt⟩
 ·exact h
theorem sendTo_b (h : Bn B n) (x : Int) : ∀ y ∈ n.sendTo x, Bm B y := fun y hy => by
 unfold sendTo at hy
 split at hy
 ·cases hy
 ·rename_i hc
  rw [List.mem_singleton.1 hy]
  have hn := getD_le h.nx x.toNat
  have hl := h.last
  refine ⟨h.tm, ?_, fun k => absurd (show (5 : Int) = 6 from k) (by decide), h.commit⟩
  show n.next.getD x.toNat 0 - 1 + (n.log.slice _ 8).length ≤ B
  unfold Lg.slice
  split
  ·rename_i hs
   have := Lg.has_iff.1 hs
   rw [List.length_take, List.length_drop]
   unfold Lg.last at *
   omega
  ·show _ + 0 ≤ B
   omega
theorem beat_b (h : Bn B n) : ∀ y ∈ n.beat, Bm B y := fun y hy => by
 unfold beat at hy
 obtain ⟨x, _, hx⟩ := List.mem_flatMap.1 hy
 exact sendTo_b h x y hx
theorem propose_b (h : Bn B n) (k : Int) (d : List UInt8) : Bn (B + 1) (n.propose k d).1 := by
 have h1 := h.mono (Nat.le_succ B)
 have hl := h.last
 unfold propose
 split
 ·exact h1
 ·split
  ·exact h1
  ·split
   ·exact h1
   ·refine sureR_b (n := { n with log := n.log.add ⟨n.tm, k, d⟩, mat := n.mat.set n.me.toNat (n.log.last + 1) }) ⟨h1.tm, h1.commit, ?_, h1.n16, by show (n.mat.set _ _).length = 16; rw [List.length_set]; exact h.m16, h1.nx, set_le h1.mt _ _ (by omega)⟩ _
    show n.log.base + (n.log.es ++ [_]).length ≤ _
    unfold Lg.last at hl
    simp; omega
theorem taken_b (h1 : Bn B n) (hm : Bm B m) : Bn B (n.taken m).1 ∧ ∀ x ∈ (n.taken m).2, Bm B x := by
 unfold taken
 split
 ·refine ⟨h1, fun x hx => ?_⟩
  rw [List.mem_singleton.1 hx]
  refine ⟨h1.tm, by have := hm.index; show m.index + 0 ≤ B; omega, fun _ => ?_, Nat.zero_le _⟩
  show n.log.hint m.index ≤ B
  have hl := h1.last
  unfold Lg.hint
  split
  ·unfold Lg.last at hl; omega
  ·have := Lg.down_le n.log (n.log.term (min m.index n.log.last)).1 (min m.index n.log.last - n.log.base)
   omega
 ·have hi := hm.index
  have hc := hm.commit
  refine ⟨⟨h1.tm, ?_, append_last h1.last hi, h1.n16, h1.m16, h1.nx, h1.mt⟩, fun x hx => ?_⟩
  ·have := h1.commit
   show max n.commit (min m.commit (m.index + m.es.length)) ≤ B
   omega
  ·rw [List.mem_singleton.1 hx]
   exact ⟨h1.tm, by show m.index + m.es.length + 0 ≤ B; omega, fun _ => Nat.zero_le _, Nat.zero_le _⟩
theorem onAppend_b (h : Bn B n) (hm : Bm B m) : Bn B (n.onAppend m).1 ∧ ∀ x ∈ (n.onAppend m).2, Bm B x := by
 unfold onAppend
 split
 ·exact ⟨h, fun x hx => by cases hx⟩
 ·split
  ·refine ⟨h, fun x hx => ?_⟩
   rw [List.mem_singleton.1 hx]
   exact ⟨h.tm, by have := hm.index; show m.index + 0 ≤ B; omega, fun _ => Nat.zero_le _, Nat.zero_le _⟩
  ·have h0 := follow_b h hm.tm m.src
   exact taken_b (n := { n.follow m.tm m.src with heard := true }) ⟨h0.tm, h0.commit, h0.last, h0.n16, h0.m16, h0.nx, h0.mt⟩ hm
theorem acked_b (h : Bn B n) (hm : Bm B m) (hk : m.kind = 6) : Bn (B + 1) (n.acked m) := by
 have h1 := h.mono (Nat.le_succ B)
 have hp := hm.prev hk
 have hi := hm.index
 have hg := getD_le h.mt m.src.toNat
 unfold acked
 split
 ·exact ⟨h1.tm, h1.commit, h1.last, by show (n.next.set _ _).length = 16; rw [List.length_set]; exact h.n16, h1.m16, set_le h1.nx _ _ (by omega), h1.mt⟩
 ·split
  ·exact sureR_b (n := { n with mat := n.mat.set m.src.toNat (max (n.mat.getD m.src.toNat 0) m.index), next := n.next.set m.src.toNat (max (n.mat.getD m.src.toNat 0) m.index + 1) }) ⟨h1.tm, h1.commit, h1.last, by show (n.next.set _ _).length = 16; rw [List.length_set]; exact h.n16, by show (n.mat.set _ _).length = 16; rw [List.length_set]; exact h.m16, set_le h1.nx _ _ (by omega), set_le h1.mt _ _ (by omega)⟩ _
  ·exact h1
theorem onAcked_b (h : Bn B n) (hm : Bm B m) : Bn (B + 1) (n.onAcked m).1 ∧ ∀ x ∈ (n.onAcked m).2, Bm (B + 1) x := by
 have h1 := h.mono (Nat.le_succ B)
 unfold onAcked
 split
 ·exact ⟨h1, fun x hx => by cases hx⟩
 ·rename_i hk
  have hk6 : m.kind = 6 := Classical.not_not.1 hk
  split
  ·exact ⟨follow_b h1 (Nat.le_succ_of_le hm.tm) _, fun x hx => by cases hx⟩
  ·split
   ·exact ⟨h1, fun x hx => by cases hx⟩
   ·have ha := acked_b h hm hk6
    split
    ·exact ⟨ha, fun x hx => by cases hx⟩
    ·exact ⟨ha, sendTo_b ha _⟩
theorem hear_b (h : Bn B n) (hm : Bm B m) : Bn (B + 2) (n.hear m).1 ∧ ∀ x ∈ (n.hear m).2, Bm (B + 2) x := by
 obtain ⟨a1, a2⟩ := onAsk_b h hm
 obtain ⟨b1, b2⟩ := onAnswer_b a1 hm
 obtain ⟨c1, c2⟩ := onAppend_b b1 (hm.mono (Nat.le_succ B))
 obtain ⟨d1, d2⟩ := onAcked_b c1 (hm.mono (Nat.le_succ B))
 refine ⟨d1, fun x hx => ?_⟩
 have hx' : x ∈ (n.onAsk m).2 ++ ((n.onAsk m).1.onAnswer m).2 ++ (((n.onAsk m).1.onAnswer m).1.onAppend m).2 ++ ((((n.onAsk m).1.onAnswer m).1.onAppend m).1.onAcked m).2 := hx
 rcases List.mem_append.1 hx' with hx' | hx'
 ·rcases List.mem_append.1 hx' with hx' | hx'
  ·rcases List.mem_append.1 hx' with hx' | hx'
   ·exact (a2 x hx').mono (by omega)
   ·exact (b2 x hx').mono (by omega)
  ·exact (c2 x hx').mono (by omega)
 ·exact d2 x hx'
end Nd
end Go.Proofs.YtmjccpfchhnfhaaGreat
/- follow: Beat (printed by fl4.py). -/
namespace Go.Proofs.YtmjccpfchhnfhaaGreat
open Go.RowKit
set_option linter.unusedVariables false
set_option linter.unusedSimpArgs false
theorem sendTo_len (n : Nd) (x : Int) : (n.sendTo x).length ≤ 1 := by
 unfold Nd.sendTo
 split
 ·exact Nat.zero_le _
 ·exact Nat.le_refl _
section
variable {X P : Nat → Prop} {w w' : World} {b : Nat} {n n' : Nd} {q q' : NV}
set_option maxRecDepth 100000 in
set_option maxHeartbeats 4000000 in
theorem beat_calls [Old] (h : PNs X P w b n q) (hc : 0 < n.conf.length ∧ n.conf.length ≤ 1000) (hnx : ∀ y ∈ n.next, y < 18446744073709551616) (hl : n.log.last + 1 < 18446744073709551616) (hle : n.log.es.length ≤ 900000) :
  Calls Tryz.prog 18 #[.pointer (some ⟨b, 0, none⟩)] w fun e w' => MOut X w n.beat e w' := by
 have OC := Lib.hid (others_calls h hc)
 have hol : n.others.length ≤ 1000 := Nat.le_trans (List.length_filter_le _ _) hc.2
 have TO := Lib.hid (fun W (f : Fr (fun _ _ => True) w W) x => to_calls (h.tt f) x hnx hl hle)
 have OUT : Hid (n.beat = n.others.flatMap n.sendTo) := rfl
 obtain ⟨ot, hot⟩ : ∃ o, n.others = o := ⟨_, rfl⟩
 rw [hot] at OC hol OUT
 have HX : Hid (∀ c, X c → c < w.heap.size) := h.hx
 have HNEW : Hid (∀ {c}, w.heap.size ≤ c → ¬ Old.o c) := h.new
 clear h hot hc hnx hl hle
 go_enter Tryz.func18, Tryz.ntmps18
 go_wp2_with fail
 (with_reducible refine OC.out.mono ?_)
 rintro e w2 ⟨⟨go, ko, rfl, ro⟩, f2⟩
 have F2 := Lib.hid f2
 have RO2 := Lib.hid ro.ints
 have ROW2 := Lib.hid ro
 have O0 : Hid (w2.ownsRow w.heap.size 32 10 (.slice none 0 0) ([] : List MV).length (([] : List MV).flatMap encM)) := ⟨rfl, .inl ⟨rfl, rfl⟩⟩
 clear ro f2 OC
 go_wp2
 go_loopw [3, 9] (fun o i wr => ∃ (k : Nat) (g : Option Addr) (l c : Nat) (T : List MV), i = .int .i64 (k : Nat) ∧ k ≤ ot.length ∧ o = .slice g l c ∧ l ≤ k ∧ Hid (T.map MV.ms = (ot.take k).flatMap n.sendTo) ∧ Hid (T.length = l) ∧ Hid (wr.ownsRow w.heap.size 32 10 (.slice g l c) T.length (T.flatMap encM)) ∧ Hid (∀ m ∈ T, MsAt X wr m) ∧ Hid (Fr KI w2 wr) ∧ Hid (Fr (fun _ _ => True) w wr)) (fun _ i _ => ot.length - (intOf i).toNat)
 case atStart => exact ⟨0, none, 0, 0, [], rfl, Nat.zero_le _, rfl, Nat.zero_le _, rfl, rfl, O0.out, (fun m hm => by cases hm), Fr.refl _ _, F2.out⟩
 case round =>
  obtain ⟨k, g, l, c, T, rfl, hk, rfl, hlk, HT, HL, HO, HM, HF2, HFW⟩ := hrel
  by_cases hlt : k < ot.length
  ·have hltI : (k : Int) < (ot.length : Int) := by omega
   obtain ⟨bo, oo, rfl⟩ := RO2.out.addr (by omega)
   have hcell := RO2.out.cell hlt
   obtain ⟨x, hx⟩ : ∃ x, ot[k] = x := ⟨_, rfl⟩
   rw [hx] at hcell
   have u0 := HF2.out.cell (p := ⟨bo, oo + k, none⟩) (fun o ho => by
    obtain ⟨cur, hc⟩ := own_tag ROW2.out (c := bo) rfl
    have hc' : w2.heap[bo]? = some o := ho
    rw [hc] at hc'
    cases hc'
    exact ⟨_, _, rfl⟩) hcell
   have TO1 := Lib.hid (TO.out wr HFW.out x)
   have HS : Hid ((ot.take (k + 1)).flatMap n.sendTo = (ot.take k).flatMap n.sendTo ++ n.sendTo x) := by
    show _ = _
    rw [List.take_succ_eq_append_getElem hlt, List.flatMap_append, hx]
    simp
   have HS1 : Hid ((n.sendTo x).length ≤ 1) := sendTo_len n x
   clear hx hcell
   go_wp2_with fail
   (with_reducible refine TO1.out.mono ?_)
   rintro e w3 ⟨⟨v3, mvs, rfl, o3, e3⟩, f3⟩
   have O3 := Lib.hid o3
   have E3 := Lib.hid e3
   have F3 := Lib.hid f3
   have FW3 := Lib.hid (HFW.out.trans f3)
   have OW3 : Hid (w3.ownsRow w.heap.size 32 10 (.slice g l c) T.length (T.flatMap encM)) := ownsRow_fr HO.out f3 fun _ _ _ _ => trivial
   have hml : mvs.length ≤ 1 := by have := HS1.out; rw [← e3, List.length_map] at this; exact this
   obtain ⟨M, hM⟩ : ∃ M, mvs.length = M := ⟨_, rfl⟩
   have HL3 : Hid ((T ++ mvs).length = l + M) := by show _ = _; rw [List.length_append, HL.out, hM]
   have RW3 := Lib.hid o3.rows
   rw [hM] at hml
   have hl1 : l + M ≤ 1000000 := by omega
   obtain ⟨ga, na, ca, hv3, _⟩ : ∃ ga na ca, v3 = .slice ga na ca ∧ True := by
    rcases o3.row.2 with ⟨e, _⟩ | ⟨g, cap, cur, e, _⟩
    ·exact ⟨_, _, _, e, trivial⟩
    ·exact ⟨_, _, _, e, trivial⟩
   subst hv3
   clear o3 e3 f3 TO1 u0 hM
   go_wp2_with (at_builtin; refine wpList_append_mss w w3 FW3 rfl _ _ rfl (.slice g l c) T rfl OW3 (.slice ga na ca) mvs rfl RW3 _ rfl (l + M) HL3 hl1 ?_)
   intro g5 c5 W5 O5 F5 G5 N5
   go_wp2
   go_roundw
   case rel =>
    have htag : ∀ cb, (Value.slice g l c).ownBlock = some cb → ∃ cur, w3.heap[cb]? = some (.cells cur 32 (0, 0)) := fun cb e => own_tag OW3.out e
    have ki5 : Fr KI w3 W5 := G5.out.monoH fun i o hi hk e => by
     obtain ⟨cur, hc⟩ := htag i e
     rw [hc] at hi
     cases hi
     obtain ⟨cs, fz, e⟩ := hk
     cases e
    refine ⟨k + 1, g5, l + M, c5, T ++ mvs, by go_num, by omega, rfl, by omega, ?_, HL3.out, ?_, fun m hm => ?_, (HF2.out.trans (F3.out.mono fun _ _ _ => trivial)).trans ki5, F5.out⟩
    ·show _ = _
     rw [List.map_append, HT.out, E3.out, HS.out]
    ·show World.ownsRow _ _ _ _ _ _ _
     rw [HL3.out, List.flatMap_append]; exact O5.out
    ·refine MsAt.keep (w := w3) ?_ G5.out ?_
     ·rcases List.mem_append.1 hm with hm | hm
      ·exact (HM.out m hm).tt F3.out
      ·exact O3.out.at' m hm
     ·intro i o hi hr e
      obtain ⟨cur, hc⟩ := htag i e
      rw [hc] at hi
      cases hi
      exact hr.ne (HNEW.out (own_new (v := .slice g l c) OW3.out i e)) rfl (by decide)
   case measure => simp [intOf]; omega
  ·have hge : ¬ (k : Int) < (ot.length : Int) := by omega
   have HTT : Hid (T.map MV.ms = n.beat) := by show _ = _; rw [HT.out, OUT.out, List.take_of_length_le (by omega)]
   go_wp2
   go_ret
   refine ⟨⟨_, T, rfl, ⟨HO.out, fun cb e hc => ?_, HM.out⟩, HTT.out⟩, HFW.out⟩
   have := HX.out cb hc
   have := own_new HO.out cb e
   omega
end
end Go.Proofs.YtmjccpfchhnfhaaGreat
