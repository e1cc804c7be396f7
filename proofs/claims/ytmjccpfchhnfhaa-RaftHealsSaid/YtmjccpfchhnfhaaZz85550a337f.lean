/- Texts of the proofs, part 49: what the functions that they reach do, walked; no conditions beyond those that each states. -/
import Derived.Test.YtmjccpfchhnfhaaZz9aa351c84d
set_option linter.unusedVariables false
set_option linter.unusedSimpArgs false
/- Law 13: RaftHeals: a group whose nodes lie where L tells, turned from outside. -/
namespace Go.Proofs.Ytmjccpfchhnfhaa
open Go.RowKit
set_option linter.unusedVariables false
set_option linter.unusedSimpArgs false
section
variable {B : Nat} {w w' : World} {G : Nat} {s : Gs} {L : List (Nat × Nat)}
abbrev Lb (L : List (Nat × Nat)) (i : Nat) : Nat := (L.getD i (0, 0)).1
abbrev Lr (L : List (Nat × Nat)) (i : Nat) : Nat := (L.getD i (0, 0)).2
theorem Gr13.ids [Old] (h : Gr13 B w G s) : ∃ L, GrL B w G L s := by
 obtain ⟨X, l, ms, tk, many, vn, vm, vt, h1, h2⟩ := h
 exact ⟨_, X, l, ms, tk, many, vn, vm, vt, h1, h2, rfl⟩
theorem GrL.tt [Old] [NoOld] (h : GrL B w G L s) (f : FT w w') : GrL B w' G L s := by
 obtain ⟨X, l, ms, tk, many, vn, vm, vt, h1, h2, h3⟩ := h
 exact ⟨X, l, ms, tk, many, vn, vm, vt, h1.tt f, h2, h3⟩
theorem ids_at {l : List Rx} {i : Nat} (hi : i < l.length) : (l.map Rx.ids).getD i (0, 0) = (l[i].b, l[i].rb) := by
 rw [List.getD_eq_getElem?_getD, List.getElem?_map, List.getElem?_eq_getElem hi]; rfl
theorem St_len (l : List Rx) (ms : List MV) (tk : List (Value × Nat)) (many : Int) : (St l ms tk many).ns.length = l.length := List.length_map _
theorem St_at {l : List Rx} {ms : List MV} {tk : List (Value × Nat)} {many : Int} {i : Nat} (hi : i < l.length) : (St l ms tk many).ns.getD i default = l[i].n ∧ (St l ms tk many).aps.getD i 0 = l[i].ap := by
 constructor
 ·show (l.map (·.n)).getD i default = _
  rw [List.getD_eq_getElem?_getD, List.getElem?_map, List.getElem?_eq_getElem hi]; rfl
 ·show (l.map (·.ap)).getD i 0 = _
  rw [List.getD_eq_getElem?_getD, List.getElem?_map, List.getElem?_eq_getElem hi]; rfl
theorem GrL.at' [Old] [NoOld] (h : GrL B w G L s) (h0 : 0 < s.ns.length) : ∃ gn cn, ∀ W, FT w W → W.cell? ⟨G, 0, none⟩ = some (.slice (some ⟨gn, 0, none⟩) s.ns.length cn) ∧ ∀ i, i < s.ns.length →
  W.cell? ⟨gn, i, none⟩ = some (.pointer (some ⟨Lr L i, 0, none⟩)) ∧ W.cell? ⟨Lr L i, 0, none⟩ = some (.pointer (some ⟨Lb L i, 0, none⟩)) := by
 obtain ⟨X, l, ms, tk, many, vn, vm, vt, h, rfl, rfl⟩ := h
 rw [St_len] at h0 ⊢
 obtain ⟨gn, cn, hvn, V⟩ := h.nrow h0
 refine ⟨gn, cn, fun W f => ⟨by rw [(h.gcells f).1, hvn], fun i hi => ?_⟩⟩
 obtain ⟨y0, y1⟩ := V W f i hi
 unfold Lr Lb
 rw [ids_at hi]
 exact ⟨y0, y1⟩
theorem GrL.node [Old] [NoOld] (h : GrL B w G L s) {i : Nat} (hi : i < s.ns.length) : ∃ X P q, PNs X P w (Lb L i) (s.ns.getD i default) q ∧ RB w (Lr L i) (Lb L i) (s.aps.getD i 0) ∧ ¬ P (Lr L i) ∧ (∀ c, P c → B ≤ c) ∧
  ∀ n' X' P' w', PN X' P' w' (Lb L i) n' → Aft X P X' P' w w' → GrL B w' G L { s with ns := s.ns.set i n' } ∧ Fr (fun c _ => c < B) w w' := by
 obtain ⟨X, l, ms, tk, many, vn, vm, vt, h, rfl, rfl⟩ := h
 rw [St_len] at hi
 obtain ⟨q, hq⟩ := h.nd _ (List.getElem_mem hi)
 obtain ⟨r0, r1, r2⟩ := h.rb _ (List.getElem_mem hi)
 obtain ⟨en, ea⟩ := St_at (ms := ms) (tk := tk) (many := many) hi
 unfold Lr Lb
 rw [en, ea, ids_at hi]
 refine ⟨X, l[i].P, q, hq, r0, fun e => r1 (hq.px _ e), fun c hc => h.lx _ (hq.px _ hc), fun n' X' P' w' hp ha => ⟨⟨X', _, ms, tk, many, vn, vm, vt, h.turn i hi hp ha, St_turn hi, ids_set hi⟩, h.frB ha⟩⟩
theorem GrL.cells [Old] [NoOld] (h : GrL B w G L s) {i : Nat} (hi : i < s.ns.length) : ∃ b bt a c es K, (s.ns.getD i default).log = lgE b bt es ∧ RowsAt K w (.slice a es.length c) 3 encE es ∧ ∀ W, FT w W → W.cell? ⟨Lb L i, 2, none⟩ = some (.int .i64 (s.ns.getD i default).role) ∧ W.cell? ⟨Lb L i, 7, none⟩ = some (.int .u64 ((s.ns.getD i default).commit : Nat)) ∧ W.cell? ⟨Lb L i, 8, none⟩ = some (.int .u64 (b : Nat)) ∧ W.cell? ⟨Lb L i, 9, none⟩ = some (.int .u64 (bt : Nat)) ∧ W.cell? ⟨Lb L i, 10, none⟩ = some (.slice a es.length c) := by
 obtain ⟨X, P, q, hq, -⟩ := h.node hi
 obtain ⟨a, c, e⟩ := hq.elen
 have el : (s.ns.getD i default).log.es.length = q.es.length := by rw [hq.ee, List.length_map]
 rw [el] at e
 have hr := hq.ev.row
 rw [e] at hr
 refine ⟨(s.ns.getD i default).log.base, (s.ns.getD i default).log.bt, a, c, q.es, _, by rw [show lgE (s.ns.getD i default).log.base (s.ns.getD i default).log.bt q.es = ⟨_, _, q.es.map EV.en⟩ from rfl, ← hq.ee], hr, fun W f => ?_⟩
 obtain ⟨x0, x1, x2, x3, x4, x5, x6, x7, x8, x9, x10, x11, x12, x13⟩ := hq.cells f
 exact ⟨x2, x7, x8, x9, by rw [x10, e]⟩
theorem GrL.calm1 [Old] [NoOld] (h : GrL B w G L s) {i : Nat} (hi : i < s.ns.length) : (∃ v, w.cell? ⟨Lb L i, 11, none⟩ = some v) ∧ w.frozen? ⟨Lb L i, 11, none⟩ = false ∧ ∃ W, w.setCell ⟨Lb L i, 11, none⟩ (.bool false) = W ∧ Hid (GrL B W G L { s with ns := s.ns.set i (s.ns.getD i default).calm }) ∧ Hid (Fr (fun c _ => c < B) w W) := by
 obtain ⟨X, P, q, hq, -, -, hb, K⟩ := h.node hi
 have f : Fr (fun c _ => c ≠ Lb L i) w (w.setCell ⟨Lb L i, 11, none⟩ (.bool false)) := (Fr.refl _ _).setCell (fun _ _ h => h rfl) _
 have H : PNs X P (w.setCell ⟨Lb L i, 11, none⟩ (.bool false)) (Lb L i) (s.ns.getD i default).calm q := hq.re f (heap_setCell_same (o := 11) hq.top _) ⟨rfl, rfl⟩ (.inl ⟨rfl, rfl⟩) ⟨rfl, rfl, rfl⟩ ⟨rfl, rfl, rfl, rfl⟩
 obtain ⟨g, fb⟩ := K _ X P _ ⟨q, H⟩ (.of (f.mono fun c _ hc e => hc (e ▸ hq.pb)) hq.px)
 exact ⟨⟨_, cell_mk hq.top rfl⟩, frozen_mk hq.top, _, rfl, g, fb⟩
theorem GrL.clear [Old] [NoOld] (h : GrL B w G L s) : (∃ v, w.cell? ⟨G, 1, none⟩ = some v) ∧ w.frozen? ⟨G, 1, none⟩ = false ∧ ∃ W, w.setCell ⟨G, 1, none⟩ (.slice none 0 0) = W ∧ Hid (GrL B W G L { s with ms := [] }) ∧ Hid (Fr (fun c _ => c < B) w W) := by
 obtain ⟨X, l, ms, tk, many, vn, vm, vt, h, rfl, rfl⟩ := h
 have f : Fr (fun c _ => c ≠ G) w (w.setCell ⟨G, 1, none⟩ (.slice none 0 0)) := (Fr.refl _ _).setCell (fun _ _ h => h rfl) _
 refine ⟨⟨_, cell_mk h.top rfl⟩, frozen_mk h.top, _, rfl, ⟨X, l, [], tk, many, vn, _, vt, h.msgs (f.mono fun _ _ h => h.1) (heap_setCell_same (o := 1) h.top _) (OwnMs.nil _ _ _), rfl, rfl⟩, f.mono fun c _ hc e => ?_⟩
 have := h.lg
 have hc' : c < B := hc
 omega
theorem GrL.beat [Old] [NoOld] (h : GrL B w G L s) {Bd : Nat} (hj : GJ Bd s) (hb : Bd ≤ 80000) {i : Nat} (hi : i < s.ns.length) : Calls Try.prog 13 #[.pointer (some ⟨Lr L i, 0, none⟩)] w fun e w1 => ∃ v, e = .returned v ∧ Hid (Calls Try.prog 12 #[.pointer (some ⟨G, 0, none⟩), v] w1 fun e w2 => GOutL B w1 G L (s.send (s.ns.getD i default).beat) e w2) ∧ Hid (Fr (fun c _ => c < B) w w1) := by
 obtain ⟨X, l, ms, tk, many, vn, vm, vt, h, rfl, rfl⟩ := h
 rw [St_len] at hi
 obtain ⟨q, hq⟩ := h.nd _ (List.getElem_mem hi)
 obtain ⟨r0, r1, r2⟩ := h.rb _ (List.getElem_mem hi)
 obtain ⟨en, ea⟩ := St_at (ms := ms) (tk := tk) (many := many) hi
 have GW : Gw Bd Bd l[i].n := hj.gi.nd _ (List.mem_map.2 ⟨_, List.getElem_mem hi, rfl⟩)
 have hl : ms.length ≤ 5000 := by have := hj.gi.ln; have e : (St l ms tk many).ms.length = ms.length := List.length_map _; omega
 unfold Lr
 rw [en, ids_at hi]
 have := GW.es
 have := GW.bn.last
 refine (rbeat_calls hq r0 ⟨GW.cf.1, by have := GW.cf.2; omega⟩ (fun y hy => by have := GW.bn.nx y hy; omega) (by omega) (by omega)).mono ?_
 rintro e w1 ⟨⟨v, mvs, rfl, o, eo⟩, f⟩
 have lb : mvs.length ≤ 100000 := by
  have e := congrArg List.length eo
  rw [List.length_map] at e
  rw [e]
  exact Nat.le_trans (Nd.beat_len _) (by have := GW.cf.2; omega)
 have SD := sendL_calls (h.tt f) o (by omega) lb
 rw [eo] at SD
 exact ⟨v, rfl, SD, f.mono fun _ _ _ => trivial⟩
theorem GrL.timeout [Old] [NoOld] (h : GrL B w G L s) {Bd : Nat} (hj : GJ Bd s) (hb : Bd ≤ 80000) {i : Nat} (hi : i < s.ns.length) : Calls Try.prog 14 #[.pointer (some ⟨Lr L i, 0, none⟩)] w fun e w1 => ∃ v, e = .returned v ∧ Hid (Calls Try.prog 12 #[.pointer (some ⟨G, 0, none⟩), v] w1 fun e w2 => GOutL B w1 G L (({ s with ns := s.ns.set i (s.ns.getD i default).timeout.1 } : Gs).send (s.ns.getD i default).timeout.2) e w2) ∧ Hid (Fr (fun c _ => c < B) w w1) := by
 obtain ⟨X, l, ms, tk, many, vn, vm, vt, h, rfl, rfl⟩ := h
 rw [St_len] at hi
 obtain ⟨q, hq⟩ := h.nd _ (List.getElem_mem hi)
 obtain ⟨r0, r1, r2⟩ := h.rb _ (List.getElem_mem hi)
 obtain ⟨en, ea⟩ := St_at (ms := ms) (tk := tk) (many := many) hi
 have GW : Gw Bd Bd l[i].n := hj.gi.nd _ (List.mem_map.2 ⟨_, List.getElem_mem hi, rfl⟩)
 have hl : ms.length ≤ 5000 := by have := hj.gi.ln; have e : (St l ms tk many).ms.length = ms.length := List.length_map _; omega
 obtain ⟨mN, hme, hm16⟩ := GW.me
 unfold Lr
 rw [en, ids_at hi]
 have := GW.es
 refine (rtimeout_calls hq r0 (fun e => r1 (hq.px _ e)) (fun c hc => absurd hc (NoOld.no c)) GW.cf mN hme hm16 (GW.bn.mono (by omega)) (by omega)).mono ?_
 rintro e w1 ⟨X6, P6, q6, v, mvs, rfl, h6, a6, o6, e6⟩
 have lb : mvs.length ≤ 100000 := by
  have e := congrArg List.length e6
  rw [List.length_map] at e
  rw [e]
  exact Nat.le_trans (Nd.timeout_len _) (by have := GW.cf.2; omega)
 have G6 := h.turn i hi ⟨q6, h6⟩ a6
 have SD := sendL_calls G6 o6 (by omega) lb
 rw [e6, St_turn hi, ids_set hi] at SD
 exact ⟨v, rfl, SD, h.frB a6⟩
theorem GrL.propose [Old] [NoOld] (h : GrL B w G L s) {Bd : Nat} (hj : GJ Bd s) (hb : Bd ≤ 80000) {i : Nat} (hi : i < s.ns.length) (b8 : UInt8) : ∀ W, FT w W → ∀ g9, W.heap[g9]? = some (.cells #[.int .u8 (b8.toNat : Nat)] 5 (0, 0)) → w.heap.size ≤ g9 → Calls Try.prog 16 #[.pointer (some ⟨Lr L i, 0, none⟩), .int .i64 1, .slice (some ⟨g9, 0, none⟩) 1 1] W fun e w1 =>
  e = .returned (.tuple #[.int .u64 (((s.ns.getD i default).propose 1 [b8]).2.1 : Nat), .int .i64 ((s.ns.getD i default).propose 1 [b8]).2.2]) ∧ Hid (GrL B w1 G L { s with ns := s.ns.set i ((s.ns.getD i default).propose 1 [b8]).1 }) ∧ Hid (Fr (fun c _ => c < B) w w1) := by
 obtain ⟨X, l, ms, tk, many, vn, vm, vt, h, rfl, rfl⟩ := h
 rw [St_len] at hi
 obtain ⟨q, hq⟩ := h.nd _ (List.getElem_mem hi)
 obtain ⟨r0, r1, r2⟩ := h.rb _ (List.getElem_mem hi)
 obtain ⟨en, ea⟩ := St_at (ms := ms) (tk := tk) (many := many) hi
 have GW : Gw Bd Bd l[i].n := hj.gi.nd _ (List.mem_map.2 ⟨_, List.getElem_mem hi, rfl⟩)
 obtain ⟨mN, hme, hm16⟩ := GW.me
 intro W f g9 t9 hg9
 unfold Lr
 rw [en, ids_at hi]
 have := GW.es
 have := GW.bn.last
 have BA : BytesAt (RO X) W (.slice (some ⟨g9, 0, none⟩) [b8].length 1) [b8] := ⟨_, 1, rfl, Nat.le_refl _, (fun e => by cases e), .inr ⟨g9, 0, _, rfl, t9, ⟨fun hx => by have := h.hx _ hx; omega, .inr ⟨_, _, _, rfl, by decide⟩⟩, fun i hi => by
  have : i = 0 := by have : i < 1 := hi; omega
  subst this
  exact cell_mk t9 rfl⟩⟩
 refine (rpropose_calls (hq.tt f) (r0.fr f fun _ => trivial) 1 (some ⟨g9, 0, none⟩) 1 [b8] BA GW.cf (fun y hy => (GW.pos y hy).1) mN hme hm16 (by omega) (by omega)).mono ?_
 rintro e w1 ⟨⟨q6, rfl, h6⟩, f6⟩
 have G4 := h.tt f
 have a6 : Aft X l[i].P X l[i].P W w1 := .of f6 hq.px
 exact ⟨rfl, ⟨X, _, ms, tk, many, vn, vm, vt, G4.turn i hi ⟨q6, h6⟩ a6, St_turn hi, ids_set hi⟩, (f.mono fun _ _ _ => trivial).trans (G4.frB a6)⟩
theorem Gr13.takeA [Old] [NoOld] (h : Gr13 B w G s) {Bd : Nat} (hj : GJ Bd s) (hb : Bd ≤ 80000) (i : Nat) (hi : i < s.ns.length) : Calls Try.prog 17 #[.pointer (some ⟨G, 0, none⟩), .int .i64 (i : Nat)] w fun e w' => GOut B w G (s.take i) e w' ∧ TkA w' G i s.ns.length ((s.ns.getD i default).commit - max (s.aps.getD i 0) (s.ns.getD i default).log.base) (max (s.aps.getD i 0) (s.ns.getD i default).log.base + ((s.ns.getD i default).commit - max (s.aps.getD i 0) (s.ns.getD i default).log.base)) := by
 obtain ⟨X, l, ms, tk, many, vn, vm, vt, h, rfl⟩ := h
 have e1 : (St l ms tk many).ns.length = l.length := List.length_map _
 have hil : i < l.length := by omega
 have hg : Gw Bd Bd l[i].n := hj.gi.nd _ (List.mem_map.2 ⟨l[i], List.getElem_mem hil, rfl⟩)
 have ha : l[i].ap ≤ Bd := hj.gi.ap _ (List.mem_map.2 ⟨l[i], List.getElem_mem hil, rfl⟩)
 have hc := hg.bn.commit
 have hl := hg.bn.last
 obtain ⟨en, ea⟩ := St_at (ms := ms) (tk := tk) (many := many) hil
 rw [en, ea, e1]
 exact takeA_calls h i hil (by omega) (by omega) (by unfold Lg.last at hl; omega) (by omega) (fun x hx => by have := tk_le hj x hx; omega) (by have := hj.n5; omega)
end
end Go.Proofs.Ytmjccpfchhnfhaa
/- Law 13: newest. -/
namespace Go.Proofs.Ytmjccpfchhnfhaa
open Go.RowKit
set_option linter.unusedVariables false
set_option linter.unusedSimpArgs false
section
variable {B : Nat} {w w' : World} {G : Nat} {s : Gs} {L : List (Nat × Nat)}
set_option maxRecDepth 100000 in
set_option maxHeartbeats 8000000 in
theorem newest_calls [Old] [NoOld] (h : GrL B w G L s) {Bd : Nat} (hj : GJ Bd s) (hb : Bd ≤ 80000) : Calls Try.prog 11 #[.pointer (some ⟨G, 0, none⟩)] w fun e w' => e = .returned (.int .i64 (newestTo s (s.ns.length - 1) : Nat)) ∧ FT w w' := by
 have h0 := hj.n0
 obtain ⟨gn, cn, V⟩ := h.at' h0
 obtain ⟨N, hN⟩ : ∃ x, s.ns.length = x := ⟨_, rfl⟩
 have hN16 : N ≤ 16 := by have := hj.n5; omega
 rw [hN] at V h0 ⊢
 have H := Lib.hid h
 have VH := Lib.hid V
 have HN := Lib.hid hN
 have HLS : Hid (∀ i, i < N → (s.ns.getD i default).log.last ≤ 80000) := fun i hi => by
  have := (hj.nd (i := i) (by omega)).bn.last
  omega
 clear h V hN hj hb
 go_enter Try.func11, Try.ntmps11
 go_wp2
 go_loopw [3, 4] (fun best k wr => ∃ j : Nat, k = .int .i64 ((j + 1 : Nat)) ∧ j + 1 ≤ N ∧ best = .int .i64 (newestTo s j : Nat) ∧ Hid (FT w wr)) (fun _ k _ => N + 1 - (intOf k).toNat)
 case atStart => exact ⟨0, rfl, h0, rfl, Fr.refl _ _⟩
 case round =>
  obtain ⟨j, rfl, hjN, rfl, HF⟩ := hrel
  obtain ⟨j1, hj1⟩ : ∃ x, j + 1 = x := ⟨_, rfl⟩
  have HJ1 := Lib.hid hj1
  rw [hj1] at hjN ⊢
  obtain ⟨bi, hbi⟩ : ∃ x, newestTo s j = x := ⟨_, rfl⟩
  have HBI := Lib.hid hbi
  have hbN : bi < N := by have := newest_le s j; omega
  rw [hbi]
  clear hbi hj1
  by_cases hlt : j1 < N
  ·have hltI : (j1 : Int) < (N : Int) := by omega
   have hbI : (bi : Int) < (N : Int) := by omega
   obtain ⟨b1, t1, a1, c1, xs1, K1, e1, r1, V1⟩ := H.out.cells (i := bi) (by have := HN.out; omega)
   obtain ⟨b2, t2, a2, c2, xs2, K2, e2, r2, V2⟩ := H.out.cells (i := j1) (by have := HN.out; omega)
   have l1 := HLS.out bi hbN
   have l2 := HLS.out j1 hlt
   rw [e1, lgE_last] at l1
   rw [e2, lgE_last] at l2
   obtain ⟨n1, hn1⟩ : ∃ x, xs1.length = x := ⟨_, rfl⟩
   obtain ⟨n2, hn2⟩ : ∃ x, xs2.length = x := ⟨_, rfl⟩
   rw [hn1] at r1 V1 l1
   rw [hn2] at r2 V2 l2
   obtain ⟨W1, hW1, F1, X1, CC1⟩ := lbox wr b1 t1 (.slice a1 n1 c1)
   obtain ⟨W2, hW2, F2, X2, CC2⟩ := lbox W1 b2 t2 (.slice a2 n2 c2)
   have FW1 : Hid (FT w W1) := HF.out.trans F1.out
   have FW2 : Hid (FT w W2) := FW1.out.trans F2.out
   obtain ⟨o2, ho2⟩ : ∃ x, lastTE t2 xs2 = x := ⟨_, rfl⟩
   obtain ⟨m2, hm2⟩ : ∃ x, b2 + n2 = x := ⟨_, rfl⟩
   obtain ⟨nw, hnw⟩ : ∃ x, (lgE b1 t1 xs1).newer o2 m2 = x := ⟨_, rfl⟩
   have NW : Hid ((s.ns.getD bi default).log.newer (s.ns.getD j1 default).log.lastT (s.ns.getD j1 default).log.last = nw) := by
    show _ = _
    rw [e1, e2, lgE_lastT, lgE_last, ho2, hn2, hm2]; exact hnw
   have LT : Hid (∀ W, FT W2 W → Calls Try.prog 30 #[.agg #[.int .u64 (b2 : Nat), .int .u64 (t2 : Nat), .slice a2 n2 c2]] W fun e w' => e = .returned (.int .u64 (o2 : Nat)) ∧ FT W w') := fun W f => by
    have := tlastT_calls W b2 t2 a2 n2 c2 xs2 (r2.tt (FW2.out.trans f)) hn2 (by omega)
    rw [ho2] at this
    exact this
   have LA : Hid (∀ W, FT W2 W → Calls Try.prog 31 #[.agg #[.int .u64 (b2 : Nat), .int .u64 (t2 : Nat), .slice a2 n2 c2]] W fun e w' => e = .returned (.int .u64 (m2 : Nat)) ∧ FT W w') := fun W f => by
    have := tlast_calls W b2 t2 a2 n2 c2 (by omega)
    rw [hm2] at this
    exact this
   have NE : Hid (∀ W, FT W2 W → Calls Try.prog 29 #[.agg #[.int .u64 (b1 : Nat), .int .u64 (t1 : Nat), .slice a1 n1 c1], .int .u64 (o2 : Nat), .int .u64 (m2 : Nat)] W fun e w' => e = .returned (.bool nw) ∧ FT W w') := fun W f => by
    have := tnewer_calls W b1 t1 o2 m2 a1 n1 c1 xs1 (r1.tt (FW2.out.trans f)) (by omega)
    rw [hnw] at this
    exact this
   have CA : Hid (∀ W, FT W2 W → (W.cell? ⟨wr.heap.size, 0, none⟩ = some (.int .u64 (b1 : Nat)) ∧ W.cell? ⟨wr.heap.size, 1, none⟩ = some (.int .u64 (t1 : Nat)) ∧ W.cell? ⟨wr.heap.size, 2, none⟩ = some (.slice a1 n1 c1)) ∧ W.cell? ⟨W1.heap.size, 0, none⟩ = some (.int .u64 (b2 : Nat)) ∧ W.cell? ⟨W1.heap.size, 1, none⟩ = some (.int .u64 (t2 : Nat)) ∧ W.cell? ⟨W1.heap.size, 2, none⟩ = some (.slice a2 n2 c2)) := fun W f => ⟨CC1.out W (F2.out.trans f), CC2.out W f⟩
   obtain ⟨y0, y1⟩ := VH.out wr HF.out
   obtain ⟨y2, y3⟩ := y1 bi hbN
   obtain ⟨-, -, y4, y5, y6⟩ := V1 wr HF.out
   obtain ⟨z0, z1⟩ := VH.out W1 FW1.out
   obtain ⟨z2, z3⟩ := z1 j1 hlt
   obtain ⟨-, -, z4, z5, z6⟩ := V2 W1 FW1.out
   clear V1 V2 y1 z1 r1 r2 e1 e2 l1 l2 hn1 hn2 ho2 hm2 hnw CC1 CC2 X1 X2 hlt
   go_wp2_with fail
   try rw [hW1]
   try rw [hW2]
   clear hW1 hW2 y0 y2 y3 y4 y5 y6 z0 z2 z3 z4 z5 z6
   have UD : Hid (FT W2 W2.drew) := (Fr.refl _ _).drew
   refine wp_region_cf (K := fun _ _ => True) (by kernel_rfl) [(43, 0), (44, 1), (45, 2), (46, 3), (47, 4), (48, 5), (7, 6)] [(0, []), (1, []), (2, [1]), (3, []), (4, [3]), (5, [0, 2, 4])] (ckR [(0, .agg #[.int .u64 (b1 : Nat), .int .u64 (t1 : Nat), .slice a1 n1 c1]), (1, .agg #[.int .u64 (b2 : Nat), .int .u64 (t2 : Nat), .slice a2 n2 c2]), (2, .int .u64 (o2 : Nat)), (3, .agg #[.int .u64 (b2 : Nat), .int .u64 (t2 : Nat), .slice a2 n2 c2]), (4, .int .u64 (m2 : Nat)), (5, .bool nw)] [] 6 0) 1 (by kernel_rfl) (by kernel_rfl) (by kernel_rfl) rfl ?cfall ?cfend
   case cfall =>
    iterate 2
     refine CfAll.kk rfl rfl rfl (fun xs W hF hE K' hK => ?_) ?_
     ·have HFF := Lib.hid hF
      clear hF
      simp only [ckEqs, ckLook, Nat.reduceBEq] at hE
      simp only [fillA, fillL, sA, sB, sC, Act.put, hE] at hK ⊢
      clear hE
      obtain ⟨⟨y0, y1, y2⟩, z0, z1, z2⟩ := CA W (UD.trans HFF)
      skip
      go_simp
      exact hK _ rfl
    refine CfAll.k rfl rfl (fun xs W hF hA hE K' hK => ?_) ?_
    ·have HFF := Lib.hid hF
     clear hA hF
     simp only [ckEqs, ckLook, Nat.reduceBEq] at hE
     simp only [fillA, fillL, sA, sB, sC, Act.put, hE] at hK ⊢
     clear hE
     have LA1 := Lib.hid (LT W (UD.trans HFF))
     skip
     go_simp
     (with_reducible refine LA1.out.mono ?_)
     rintro e w8 ⟨rfl, f8⟩
     exact hK _ _ _ rfl f8 rfl
    iterate 1
     refine CfAll.kk rfl rfl rfl (fun xs W hF hE K' hK => ?_) ?_
     ·have HFF := Lib.hid hF
      clear hF
      simp only [ckEqs, ckLook, Nat.reduceBEq] at hE
      simp only [fillA, fillL, sA, sB, sC, Act.put, hE] at hK ⊢
      clear hE
      obtain ⟨⟨y0, y1, y2⟩, z0, z1, z2⟩ := CA W (UD.trans HFF)
      skip
      go_simp
      exact hK _ rfl
    refine CfAll.k rfl rfl (fun xs W hF hA hE K' hK => ?_) ?_
    ·have HFF := Lib.hid hF
     clear hA hF
     simp only [ckEqs, ckLook, Nat.reduceBEq] at hE
     simp only [fillA, fillL, sA, sB, sC, Act.put, hE] at hK ⊢
     clear hE
     have LA1 := Lib.hid (LA W (UD.trans HFF))
     skip
     go_simp
     (with_reducible refine LA1.out.mono ?_)
     rintro e w8 ⟨rfl, f8⟩
     exact hK _ _ _ rfl f8 rfl
    refine CfAll.k rfl rfl (fun xs W hF hA hE K' hK => ?_) ?_
    ·have HFF := Lib.hid hF
     clear hA hF
     simp only [ckEqs, ckLook, Nat.reduceBEq] at hE
     simp only [fillA, fillL, sA, sB, sC, Act.put, hE] at hK ⊢
     clear hE
     have LA1 := Lib.hid (NE W (UD.trans HFF))
     skip
     go_simp
     (with_reducible refine LA1.out.mono ?_)
     rintro e w8 ⟨rfl, f8⟩
     exact hK _ _ _ rfl f8 rfl
    exact CfAll.nil
   case cfend =>
    intro xs W hF hA
    have HFF := Lib.hid hF
    have hE := ckEnd rfl hA
    clear hA hF
    simp only [List.map_cons, List.map_nil, ckEqs, ckLook, Nat.reduceBEq] at hE
    simp only [fillA, fillL, sA, sB, sC, hE]
    clear hE
    have FK : Hid (FT w W) := FW2.out.trans (UD.trans HFF)
    clear LT LA NE CA
    refine wpAny_next 6 (by kernel_rfl) rfl fun K' hK => ?_
    skip
    go_simp
    refine hK _ _ ?_
    clear hK K'
    refine wpAny_fin (by kernel_rfl) ?_
    cases nw with
    | true =>
     have E : Hid (newestTo s j1 = j1) := by
      show _ = _
      rw [← HJ1.out]
      unfold newestTo
      rw [HBI.out, HJ1.out, NW.out, if_pos rfl]
     go_wp2
     go_roundw
     case rel => exact ⟨j1, by go_num, by omega, by rw [E.out], FK.out⟩
     case measure => simp [intOf]; omega
    | false =>
     have E : Hid (newestTo s j1 = bi) := by
      show _ = _
      rw [← HJ1.out]
      unfold newestTo
      rw [HBI.out, HJ1.out, NW.out, if_neg (by decide)]
     go_wp2
     go_roundw
     case rel => exact ⟨j1, by go_num, by omega, by rw [E.out], FK.out⟩
     case measure => simp [intOf]; omega
  ·have hge : ¬ ((j1 : Int) < (N : Int)) := by omega
   have E : Hid (newestTo s (N - 1) = bi) := by show _ = _; rw [show N - 1 = j by have := HJ1.out; omega]; exact HBI.out
   clear hlt
   obtain ⟨y0, -⟩ := VH.out wr HF.out
   go_wp2
   go_ret
   exact ⟨by rw [E.out]; rfl, HF.out⟩
end
end Go.Proofs.Ytmjccpfchhnfhaa
/- Law 13: RaftHeals, plainly: plays, calm, takes. -/
namespace Go.Proofs.Ytmjccpfchhnfhaa
set_option linter.unusedVariables false
set_option linter.unusedSimpArgs false
section
variable {many w B c : Nat} {s : Gs}
theorem Hs.play (h : Hs many B c s) (h16 : many ≤ 16) (d k : Int) : Hs many (B + 3) (c + 1) (s.play d k) := by
 refine ⟨h.sf.play h16 _ _, h.gj.play _ _, h.kg.play h.sf h16 _ _, ?_, ?_⟩
 ·unfold Gs.play
  split
  ·exact h.e8
  dsimp only
  split
  ·exact e8_send (s := { s with ns := _ }) h.e8 Nd.timeout_e8'
  split
  ·exact e8_arrive h.e8 _
  split
  ·exact e8_send h.e8 Nd.beat_e8
  split
  ·exact h.e8
  split
  ·exact h.e8
  ·exact h.e8
 ·intro i
  unfold Gs.play
  split
  ·exact h.ap i
  dsimp only
  split
  ·exact ap_node h.ap (Nd.timeout_commit _) i
  split
  ·exact ap_arrive h.ap _ i
  split
  ·rw [send_ns]
   have e : ∀ l, (s.send l).aps = s.aps := fun l => by unfold Gs.send; split <;> rfl
   rw [e]; exact h.ap i
  split
  ·have := ap_node (s := s) (j := k.toNat) (n := ((s.ns.getD k.toNat default).propose 1 [UInt8.ofNat (s.many + 1).toNat]).1) (l := []) h.ap (Nd.propose_up _ 1 _).commit
   rw [send_nil] at this
   exact this i
  split
  ·show (s.aps.set k.toNat _).getD i 0 ≤ (s.ns.getD i default).commit
   have h1 := h.ap i
   by_cases e : k.toNat = i
   ·subst e
    by_cases hl : k.toNat < s.aps.length
    ·rw [List.getD_eq_getElem?_getD, List.getElem?_set_self hl]
     show max _ _ ≤ _
     omega
    ·rw [List.set_eq_of_length_le (by omega)]; exact h1
   ·rw [List.getD_eq_getElem?_getD, List.getElem?_set_ne e, ← List.getD_eq_getElem?_getD]; exact h1
  ·exact h.ap i
theorem S0_hs (h1 : 1 ≤ many) (h5 : many ≤ 5) : Hs many 16 0 (S0 many) := by
 refine ⟨S0_safe many, S0_gj h1 h5, S0_kg h5, Es8.nil, fun i => ?_⟩
 have : (S0 many).aps.getD i 0 = 0 := by
  show (List.replicate many 0).getD i 0 = 0
  rw [List.getD_eq_getElem?_getD, List.getElem?_replicate]
  split <;> rfl
 rw [this]; exact Nat.zero_le _
def calmTo (s : Gs) : Nat → Gs
 | 0 => s
 | j + 1 => { calmTo s j with ns := (calmTo s j).ns.set j ((calmTo s j).ns.getD j default).calm }
theorem calmTo_ns (s : Gs) : ∀ j, j ≤ s.ns.length → (calmTo s j).ns = (s.ns.take j).map Nd.calm ++ s.ns.drop j
 | 0, _ => rfl
 | j + 1, hj => by
  have ih := calmTo_ns s j (by omega)
  show (calmTo s j).ns.set j ((calmTo s j).ns.getD j default).calm = _
  have hl : ((s.ns.take j).map Nd.calm).length = j := by rw [List.length_map, List.length_take]; omega
  have hd : s.ns.drop j = s.ns[j] :: s.ns.drop (j + 1) := List.drop_eq_getElem_cons (by omega)
  have hg : (calmTo s j).ns.getD j default = s.ns[j] := by
   rw [ih, List.getD_eq_getElem?_getD, List.getElem?_append_right (by omega), hl, Nat.sub_self, hd]; rfl
  rw [hg, ih, List.set_append_right _ _ (by omega), hl, Nat.sub_self, List.take_succ_eq_append_getElem (by omega), List.map_append, List.append_assoc]
  congr 1
  rw [hd]; rfl
theorem calmTo_len (s : Gs) : ∀ j, (calmTo s j).ns.length = s.ns.length
 | 0 => rfl
 | j + 1 => by show ((calmTo s j).ns.set _ _).length = _; rw [List.length_set]; exact calmTo_len s j
theorem calmTo_rest (s : Gs) : ∀ j, (calmTo s j).aps = s.aps ∧ (calmTo s j).ms = s.ms ∧ (calmTo s j).tl = s.tl ∧ (calmTo s j).many = s.many
 | 0 => ⟨rfl, rfl, rfl, rfl⟩
 | j + 1 => calmTo_rest s j
theorem calmTo_all (s : Gs) : calmTo s s.ns.length = s.calm := by
 have h1 := calmTo_ns s s.ns.length (Nat.le_refl _)
 obtain ⟨h2, h3, h4, h5⟩ := calmTo_rest s s.ns.length
 rw [List.take_length, List.drop_length, List.append_nil] at h1
 unfold Gs.calm
 rw [show calmTo s s.ns.length = ⟨(calmTo s s.ns.length).ns, (calmTo s s.ns.length).aps, (calmTo s s.ns.length).ms, (calmTo s s.ns.length).tl, (calmTo s s.ns.length).many⟩ from rfl, h1, h2, h3, h4, h5]
theorem calmTo_role (s : Gs) (w : Nat) : ∀ j, ((calmTo s j).ns.getD w default).role = (s.ns.getD w default).role
 | 0 => rfl
 | j + 1 => by
  have ih := calmTo_role s w j
  show (((calmTo s j).ns.set j ((calmTo s j).ns.getD j default).calm).getD w default).role = _
  rw [← ih]
  by_cases e : j = w
  ·subst e
   by_cases hl : j < (calmTo s j).ns.length
   ·rw [List.getD_eq_getElem?_getD, List.getElem?_set_self hl]; rfl
   ·rw [List.set_eq_of_length_le (by omega)]
  ·rw [List.getD_eq_getElem?_getD, List.getElem?_set_ne e, ← List.getD_eq_getElem?_getD]
theorem Hl.start (h5 : many ≤ 5) (h1 : 1 ≤ many) (h : Hs many B c s) : newestTo s.calm (s.calm.ns.length - 1) < many ∧ Hl many (newestTo s.calm (s.calm.ns.length - 1)) B c 0 s.calm := by
 have hc := h.calm
 have hl : s.calm.ns.length = many := hc.sf.ids.1
 rw [hl]
 have hle := newest_le s.calm (many - 1)
 have hw : newestTo s.calm (many - 1) < many := by omega
 refine ⟨hw, hc.mono (by omega) (by omega), fun k hk => newest_is hc (many - 1) (by omega) k (by omega), ?_, fun _ k hk => by rw [nsT_calm]; rfl, fun e => by omega, fun e => by omega⟩
 have := (hc.kn _ hw).le
 omega
theorem wake_lead (hr : (s.ns.getD w default).role = 3) : ({ s with ms := [] } : Gs).send (s.ns.getD w default).beat = s.wake w := by
 unfold Gs.wake; exact (if_pos hr).symm
theorem wake_ask {s : Gs} (hw : w < s.ns.length) (hr : (s.ns.getD w default).role ≠ 3) : ({ s with ms := [], ns := (s.ns.set w (s.ns.getD w default).calm).set w ((s.ns.set w (s.ns.getD w default).calm).getD w default).timeout.1 } : Gs).send ((s.ns.set w (s.ns.getD w default).calm).getD w default).timeout.2 = s.wake w := by
 have e : (s.ns.set w (s.ns.getD w default).calm).getD w default = (s.ns.getD w default).calm := by
  rw [List.getD_eq_getElem?_getD, List.getElem?_set_self hw]; rfl
 rw [e, List.set_set]
 unfold Gs.wake; exact (if_neg hr).symm
theorem calm_same {s : Gs} (hh : (s.ns.getD w default).heard = false) : s.ns.set w (s.ns.getD w default).calm = s.ns := by
 have e : (s.ns.getD w default).calm = s.ns.getD w default := by rw [show (s.ns.getD w default).calm = { s.ns.getD w default with heard := false } from rfl, ← hh]
 rw [e]
 by_cases hl : w < s.ns.length
 ·rw [List.getD_eq_getElem?_getD, List.getElem?_eq_getElem hl]; exact List.set_getElem_self hl
 ·rw [List.set_eq_of_length_le (by omega)]
structure Tn (many at' k : Nat) (s : Gs) : Prop where
 gj : GJ 70000 s
 nl : s.ns.length = many
 nd : ∀ j, j < many → (s.ns.getD j default).commit = at' ∧ (s.ns.getD j default).log.base = 0
 ap : ∀ j, k ≤ j → s.aps.getD j 0 < at'
theorem Bl.tn {at' : Nat} (h5 : many ≤ 5) (hw : w < many) (hB : B ≤ 40000) (h : Bl many w B c 3 at' s) : Tn many at' 0 s :=
 ⟨h.h.gj.mono (by omega), h.h.sf.ids.1, fun j hj => by obtain ⟨a, -, b, -⟩ := h.end hw h5 hj; exact ⟨a, b.1⟩, fun j _ => h.ap j⟩
theorem Tn.take {at' k : Nat} (h : Tn many at' k s) (hk : k < many) : Tn many at' (k + 1) (s.take k) := by
 refine ⟨h.gj.take k (by rw [h.nl]; exact hk), h.nl, h.nd, fun j hj => ?_⟩
 show (s.aps.set k _).getD j 0 < at'
 rw [List.getD_eq_getElem?_getD, List.getElem?_set_ne (by omega), ← List.getD_eq_getElem?_getD]
 exact h.ap j (by omega)
end
end Go.Proofs.Ytmjccpfchhnfhaa
/- Law 13: RaftHeals, the end: all take. -/
namespace Go.Proofs.Ytmjccpfchhnfhaa
open Go.RowKit
set_option linter.unusedVariables false
set_option linter.unusedSimpArgs false
set_option maxRecDepth 100000 in
set_option maxHeartbeats 8000000 in
theorem hl_43 [Old] [NoOld] {R : Ending → World → Prop} {w : World} {B G many at' : Nat} {s : Gs} (h1 : 1 ≤ many) (h5 : many ≤ 5) (hg : Gr13 B w G s) (ht : Tn many at' 0 s) (fin : ∀ W, Fr (fun c _ => c < B) w W → R (.returned (.bool true)) W) (fu : Nat → Value) :
  Code.wp Try.prog (seqR 13 (bodyC Try.f4.body)) (bodyPost Try.prog Try.f4 R) { tmps := tU 215 fu [(0, .int .i64 (many : Nat)), (5, .bool true), (6, .pointer (some ⟨G, 0, none⟩)), (14, .int .u64 (at' : Nat))], defers := [] } w := by
 have FIN := Lib.hid fin
 have G0 := Lib.hid hg
 have T0 := Lib.hid ht
 have hm5 : (many : Int) ≤ 5 := by omega
 clear fin hg ht h1 h5
 simp only [tU, tL, Nat.reduceAdd, Nat.reduceBEq, cond_true, cond_false]
 dsimp only [seqR, bodyC, Try.f4]
 go_wp2_with fail
 go_loopw [18] (fun v wr => ∃ (j : Nat) (s' : Gs), v = .int .i64 (j : Nat) ∧ j ≤ many ∧ Hid (Gr13 B wr G s') ∧ Hid (Tn many at' j s') ∧ Hid (Fr (fun c _ => c < B) w wr)) (fun v _ => many - (intOf v).toNat)
 case atStart => exact ⟨0, s, rfl, Nat.zero_le _, G0.out, T0.out, Fr.refl _ _⟩
 case round =>
  obtain ⟨j, s', rfl, hj, HG, HT, HF⟩ := hrel
  by_cases hlt : j < many
  ·have hltI : (j : Int) < (many : Int) := by omega
   have TC := Lib.hid (HG.out.takeA HT.out.gj (by decide) j (by rw [HT.out.nl]; exact hlt))
   have HT2 := Lib.hid (HT.out.take hlt)
   go_wp2_with fail
   (with_reducible refine TC.out.mono ?_)
   rintro e W2 ⟨⟨rfl, g2, f2⟩, ta⟩
   have G2 := Lib.hid g2
   have F2 := Lib.hid (HF.out.trans f2)
   have VW : Hid (∃ gt ct g c k kk gn cn rb b, W2.cell? ⟨G, 2, none⟩ = some (.slice (some ⟨gt, 0, none⟩) many ct) ∧ W2.cell? ⟨gt, j, none⟩ = some (.slice (some ⟨g, 0, none⟩) kk c) ∧ kk = k + 1 ∧ k ≤ 1000000 ∧ W2.cell? ⟨g, k * 4, none⟩ = some (.int .u64 (at' : Nat)) ∧ W2.cell? ⟨G, 0, none⟩ = some (.slice (some ⟨gn, 0, none⟩) many cn) ∧ W2.cell? ⟨gn, j, none⟩ = some (.pointer (some ⟨rb, 0, none⟩)) ∧ W2.cell? ⟨rb, 0, none⟩ = some (.pointer (some ⟨b, 0, none⟩)) ∧ W2.cell? ⟨b, 7, none⟩ = some (.int .u64 (at' : Nat))) := by
    obtain ⟨c1, c2⟩ := HT.out.nd j hlt
    have c3 := HT.out.ap j (Nat.le_refl _)
    rw [c1, c2, HT.out.nl] at ta
    obtain ⟨gt, ct, g, c, k, t1, t2, t3, t4⟩ := ta (by omega)
    rw [show max (s'.aps.getD j 0) 0 + (at' - max (s'.aps.getD j 0) 0) = at' by omega] at t4
    have nl2 := HT2.out.nl
    obtain ⟨L, hL⟩ := g2.ids
    obtain ⟨gn, cn, V⟩ := hL.at' (by rw [nl2]; omega)
    obtain ⟨V1, V2⟩ := V W2 (Fr.refl _ _)
    rw [nl2] at V1
    obtain ⟨V3, V4⟩ := V2 j (by rw [nl2]; exact hlt)
    obtain ⟨b1, t1', a1, c1', xs1, K1, e1, r1, V5⟩ := hL.cells (i := j) (by rw [nl2]; exact hlt)
    obtain ⟨-, V6, -⟩ := V5 W2 (Fr.refl _ _)
    rw [(HT2.out.nd j hlt).1] at V6
    exact ⟨gt, ct, g, c, k, k + 1, gn, cn, _, _, t1, t2, rfl, t3, t4, V1, V3, V4, V6⟩
   obtain ⟨gt, ct, g, c, k, kk, gn, cn, rb, b, t1, t2, tk, t3, t4, t5, t6, t7, t8⟩ := VW.out
   have wk : IntKind.i64.wrap ((kk : Int) - 1) = ((k : Nat) : Int) := by rw [IntKind.wrap_i64]; omega
   have k0 : ((kk : Int) == 0) = false := by simp; omega
   have kl : (k : Int) < (kk : Int) := by omega
   have KK := Lib.hid tk
   clear VW ta g2 f2 TC tk hlt
   go_wp2
   go_roundw
   case rel => exact ⟨j + 1, _, by go_num, by omega, G2.out, HT2.out, F2.out⟩
   case measure => simp [intOf]; omega
  ·have hge : ¬ (j : Int) < (many : Int) := by omega
   clear hlt
   go_wp2
   exact FIN.out _ HF.out
end Go.Proofs.Ytmjccpfchhnfhaa
/- Law 13: RaftHeals: the proposal, three beats. -/
namespace Go.Proofs.Ytmjccpfchhnfhaa
open Go.RowKit
set_option linter.unusedVariables false
set_option linter.unusedSimpArgs false
set_option maxRecDepth 100000 in
set_option maxHeartbeats 8000000 in
theorem hl_33 [Old] [NoOld] {R : Ending → World → Prop} {w : World} {B G many at' wi rb lb : Nat} {s : Gs} {L : List (Nat × Nat)} (h1 : 1 ≤ many) (h5 : many ≤ 5) (hw : wi < many) (hrb : Lr L wi = rb) (hlb : Lb L wi = lb) (hg : GrL B w G L s) (hb : Bl many wi 36326 36110 0 at' s) (fin : ∀ W, Fr (fun c _ => c < B) w W → R (.returned (.bool true)) W) (fu : Nat → Value) :
  Code.wp Try.prog (seqR 11 (bodyC Try.f4.body)) (bodyPost Try.prog Try.f4 R) { tmps := tU 215 fu [(0, .int .i64 (many : Nat)), (5, .bool true), (6, .pointer (some ⟨G, 0, none⟩)), (10, .pointer (some ⟨rb, 0, none⟩)), (14, .int .u64 (at' : Nat)), (15, .int .i64 0)], defers := [] } w := by
 have FIN := Lib.hid fin
 have G0 := Lib.hid hg
 have B0 := Lib.hid hb
 have HRL := Lib.hid (And.intro hrb hlb)
 have NUM := Lib.hid (And.intro h1 (And.intro h5 hw))
 clear fin hg hb h1 h5 hw hrb hlb
 simp only [tU, tL, Nat.reduceAdd, Nat.reduceBEq, cond_true, cond_false]
 dsimp only [seqR, bodyC, Try.f4]
 go_upto_region 33 with fail
 rename_i K1 h1 K0 h0
 have H1 := Lib.hid h1
 have H0 := Lib.hid h0
 clear h1 h0
 go_wp2_with fail
 refine H0.out _ _ ?_
 clear H0
 go_wp2_with fail
 go_loopw [16] (fun v wr => ∃ (i : Nat) (s' : Gs), v = .int .i64 (i : Nat) ∧ i ≤ 3 ∧ Hid (GrL B wr G L s') ∧ Hid (Bl many wi 36326 36110 i at' s') ∧ Hid (Fr (fun c _ => c < B) w wr)) (fun v _ => 3 - (intOf v).toNat)
 case atStart => exact ⟨0, s, rfl, Nat.zero_le _, G0.out, B0.out, Fr.refl _ _⟩
 case round =>
  obtain ⟨i, s', rfl, hi, HG, HB, HF⟩ := hrel
  have HL : Hid (s'.ns.length = many ∧ (s'.ns.getD wi default).role = 3) := ⟨HB.out.h.sf.ids.1, HB.out.ro⟩
  by_cases hlt : i < 3
  ·have hltI : (i : Int) < 3 := by omega
   obtain ⟨⟨v1, c1⟩, z1, W1, hW1, g1, f1⟩ := HG.out.clear
   obtain ⟨s2, hs2⟩ : ∃ x, ({ s' with ms := [] } : Gs).send (s'.ns.getD wi default).beat = x := ⟨_, rfl⟩
   obtain ⟨nx1, nx2⟩ := HB.out.next NUM.out.2.1 NUM.out.2.2 (by decide) (by decide) hlt
   have gj2 : Hid (GJ 72000 s2) := by
    have := (HB.out.h.wake (by have := NUM.out; omega) NUM.out.2.2 (fun e => absurd HL.out.2 e)).gj
    rw [← wake_lead HL.out.2, hs2] at this
    exact this.mono (by omega)
   have BC : Hid (Calls Try.prog 13 #[.pointer (some ⟨rb, 0, none⟩)] W1 fun e w1 => ∃ v, e = .returned v ∧ Hid (Calls Try.prog 12 #[.pointer (some ⟨G, 0, none⟩), v] w1 fun e w2 => GOutL B w1 G L s2 e w2) ∧ Hid (Fr (fun c _ => c < B) W1 w1)) := by
    have h := g1.out.beat HB.out.h.clear.gj (by omega) (i := wi) (by show wi < s'.ns.length; rw [HL.out.1]; exact NUM.out.2.2)
    rw [HRL.out.1] at h
    rw [← hs2]
    exact h
   have E3 : Hid (s'.beatH wi = (Gs.rest 2501 s2 0).1 ∧ (Gs.rest 2501 s2 0).2 = true) := by
    rw [← hs2]
    exact ⟨rfl, nx1⟩
   have NX := Lib.hid nx2
   have F1 := Lib.hid (HF.out.trans f1.out)
   clear nx1 nx2 hs2 g1 f1 hlt
   go_wp2_with fail
   try rw [hW1]
   clear hW1 z1 c1
   (with_reducible refine BC.out.mono ?_)
   rintro e W2 ⟨v, rfl, SC, f2⟩
   have F2 := Lib.hid (F1.out.trans f2.out)
   clear BC f2 F1
   go_wp2_with fail
   (with_reducible refine SC.out.mono ?_)
   rintro e W3 ⟨rfl, g3, f3⟩
   have F3 := Lib.hid (F2.out.trans f3)
   have RC : Hid (Calls Try.prog 15 #[.pointer (some ⟨G, 0, none⟩), .int .i64 0] W3 fun e w' => e = .returned (.bool true) ∧ GrL B w' G L (s'.beatH wi) ∧ Fr (fun c _ => c < B) W3 w') := by
    have h := g3.rest gj2.out (by decide) 0 (Nat.zero_le _)
    rw [E3.out.2, ← E3.out.1] at h
    exact h
   clear SC g3 f3 F2 E3 gj2
   go_wp2_with fail
   (with_reducible refine RC.out.mono ?_)
   rintro e W4 ⟨rfl, g4, f4⟩
   have G4 := Lib.hid g4
   have F4 := Lib.hid (F3.out.trans f4)
   clear RC g4 f4 F3
   go_wp2
   go_roundw
   case rel => exact ⟨i + 1, s'.beatH wi, by go_num, by omega, G4.out, NX.out, F4.out⟩
   case measure => simp [intOf]; omega
  ·obtain rfl : i = 3 := by omega
   have hge : ¬ ((3 : Nat) : Int) < 3 := by omega
   clear hlt
   go_wp2_with fail
   refine H1.out _ _ ?_
   clear H1
   obtain ⟨gn, cn, V⟩ := HG.out.at' (by have := NUM.out; have := HL.out.1; omega)
   have y0 := ((V wr (Fr.refl _ _)).2 wi (by have := NUM.out; have := HL.out.1; omega)).2
   obtain ⟨_, _, _, _, _, _, _, _, V5⟩ := HG.out.cells (i := wi) (by have := NUM.out; have := HL.out.1; omega)
   have y1 := (V5 wr (Fr.refl _ _)).1
   rw [HRL.out.1, HRL.out.2] at y0
   rw [HRL.out.2, HL.out.2] at y1
   clear V V5
   go_upto_region 41 with fail
   rename_i K2 h2 K3 h3
   have H2 := Lib.hid h2
   have H3 := Lib.hid h3
   clear h2 h3
   go_wp2_with fail
   refine H3.out _ _ ?_
   clear H3
   go_wp2_with fail
   refine H2.out _ _ ?_
   obtain ⟨q1, q2, q3⟩ := NUM.out
   exact seg_of (fun fu => hl_43 q1 q2 HG.out.gr (HB.out.tn q2 q3 (by decide)) (fun W f => FIN.out W (HF.out.trans f)) fu) (by kernel_rfl)
set_option maxRecDepth 100000 in
set_option maxHeartbeats 8000000 in
theorem hl_32 [Old] [NoOld] {R : Ending → World → Prop} {w : World} {B G many wi rb lb : Nat} {s : Gs} {L : List (Nat × Nat)} (h1 : 1 ≤ many) (h5 : many ≤ 5) (hw : wi < many) (hrb : Lr L wi = rb) (hlb : Lb L wi = lb) (hg : GrL B w G L s) (hb : Hl many wi 316 100 4 s) (hB : B ≤ w.heap.size) (fin : ∀ W, Fr (fun c _ => c < B) w W → R (.returned (.bool true)) W) (fu : Nat → Value) :
  Code.wp Try.prog (seqR 10 (bodyC Try.f4.body)) (bodyPost Try.prog Try.f4 R) { tmps := tU 215 fu [(0, .int .i64 (many : Nat)), (5, .bool true), (6, .pointer (some ⟨G, 0, none⟩)), (10, .pointer (some ⟨rb, 0, none⟩))], defers := [] } w := by
 have FIN := Lib.hid fin
 have G0 := Lib.hid hg
 have HRL := Lib.hid (And.intro hrb hlb)
 have NUM := Lib.hid (And.intro h1 (And.intro h5 hw))
 have hl : wi < s.ns.length := by rw [hb.h.sf.ids.1]; exact hw
 obtain ⟨p1, p2, p3, p4⟩ := hb.prop h5 hw (by decide) (by decide)
 obtain ⟨at', hat⟩ : ∃ x, (nsT s wi).log.es.length + 1 = x := ⟨_, rfl⟩
 rw [hat] at p3 p4
 obtain ⟨W1, hW1⟩ : ∃ Y, w.alloc (.cells #[.int .u8 255] 5 (0, 0)) = Y := ⟨_, rfl⟩
 have f1 : FT w W1 := hW1 ▸ (Fr.refl _ _).alloc _
 have t1 : W1.heap[w.heap.size]? = some (.cells #[.int .u8 255] 5 (0, 0)) := by rw [← hW1]; exact heap_alloc_new _ _
 have PC : Hid (Calls Try.prog 16 #[.pointer (some ⟨rb, 0, none⟩), .int .i64 1, .slice (some ⟨w.heap.size, 0, none⟩) 1 1] W1 fun e w1 => e = .returned (.tuple #[.int .u64 (at' : Nat), .int .i64 0]) ∧ Hid (GrL B w1 G L { s with ns := s.ns.set wi ((nsT s wi).propose 1 [255]).1 }) ∧ Hid (Fr (fun c _ => c < B) w w1)) := by
  have h := hg.propose hb.h.gj (by decide) hl 255 W1 f1 w.heap.size t1 (Nat.le_refl _)
  have p2' : ((s.ns.getD wi default).propose 1 [255]).2.2 = 0 := p2
  have p3' : ((s.ns.getD wi default).propose 1 [255]).2.1 = at' := p3
  rw [hrb, p2', p3'] at h
  exact h
 have BL := Lib.hid p4
 clear fin hg hb h1 h5 hw hrb hlb hl p1 p2 p3 p4 hat f1 t1 hB
 simp only [tU, tL, Nat.reduceAdd, Nat.reduceBEq, cond_true, cond_false]
 dsimp only [seqR, bodyC, Try.f4]
 go_upto_region 32 with fail
 rename_i K1 h1
 have H1 := Lib.hid h1
 clear h1
 go_wp2_with fail
 try rw [hW1]
 clear hW1
 (with_reducible refine PC.out.mono ?_)
 rintro e W2 ⟨rfl, g2, f2⟩
 clear PC
 go_wp2_with fail
 refine H1.out _ _ ?_
 obtain ⟨q1, q2, q3⟩ := NUM.out
 exact seg_of (fun fu => hl_33 q1 q2 q3 HRL.out.1 HRL.out.2 g2.out BL.out (fun W f => FIN.out W (f2.out.trans f)) fu) (by kernel_rfl)
end Go.Proofs.Ytmjccpfchhnfhaa
