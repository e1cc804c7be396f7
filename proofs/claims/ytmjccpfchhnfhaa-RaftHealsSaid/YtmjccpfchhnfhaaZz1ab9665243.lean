/- Texts of the proofs, part 19: what the functions that they reach do, walked; no conditions beyond those that each states. -/
import Derived.Shelf.Abstract
import Derived.Test.YtmjccpfchhnfhaaZzccdcdd1032
set_option linter.unusedVariables false
set_option linter.unusedSimpArgs false
/- elect: Follow, Others. -/
namespace Go.Proofs.Ytmjccpfchhnfhaa
open Go.RowKit Go.Shelf
set_option linter.unusedVariables false
set_option linter.unusedSimpArgs false
def sets (w : World) (b : Nat) (l : List (Nat × Value)) : World := l.foldl (fun W q => W.setCell ⟨b, q.1, none⟩ q.2) w
theorem sets_fr (b : Nat) : ∀ (l : List (Nat × Value)) (w : World), Fr (fun c _ => c ≠ b) w (sets w b l)
 | [], w => Fr.refl _ _
 | x :: l, w => ((Fr.refl _ _).setCell (fun _ _ h => h rfl) _).trans (sets_fr b l (w.setCell ⟨b, x.1, none⟩ x.2))
theorem sets_heap {b : Nat} {t : TypeId} {fz : Nat × Nat} : ∀ (l : List (Nat × Value)) {w : World} {cs : Array Value}, w.heap[b]? = some (.cells cs t fz) → (sets w b l).heap[b]? = some (.cells (l.foldl (fun c q => c.setIfInBounds q.1 q.2) cs) t fz)
 | [], w, cs, h => h
 | x :: l, w, cs, h => sets_heap l (w := w.setCell ⟨b, x.1, none⟩ x.2) (heap_setCell_same h _)
def NV.noYes (q : NV) : NV := { q with vy := .slice none 0 0 }
section
variable {X P : Nat → Prop} {w : World} {b : Nat} {n : Nd} {q : NV}
theorem PNs.own [Old] (h : PNs X P w b n q) {w' : World} (hf : Fr (fun c _ => c ≠ b) w w') : Aft X P X P w w' := .of (hf.mono fun c _ hc e => hc (e ▸ h.pb)) h.px
set_option maxRecDepth 100000 in
set_option maxHeartbeats 1000000 in
theorem follow_calls [Old] (h : PNs X P w b n q) (t : Nat) (ld : Int) :
  Calls Try.prog 42 #[.pointer (some ⟨b, 0, none⟩), .int .u64 (t : Nat), .int .i64 ld] w fun e w' => e = .returned (.tuple #[]) ∧ PNs X P w' b (n.follow t ld) q.noYes ∧ Fr (fun c _ => c ≠ b) w w' := by
 have x6 := (h.cells (Fr.refl _ w)).2.2.2.2.2.2.1
 have x1 := (h.cells (Fr.refl _ w)).2.1
 have x2 := (h.cells (Fr.refl _ w)).2.2.1
 have x3 := (h.cells (Fr.refl _ w)).2.2.2.1
 have x5 := (h.cells (Fr.refl _ w)).2.2.2.2.2.1
 have z1 := h.free (Fr.refl _ w) 1
 have z2 := h.free (Fr.refl _ w) 2
 have z3 := h.free (Fr.refl _ w) 3
 have z5 := h.free (Fr.refl _ w) 5
 have z6 := h.free (Fr.refl _ w) 6
 by_cases hlt : n.tm < t
 ·have g : decide (n.tm < t) = true := decide_eq_true hlt
  have R : Hid (PNs X P (sets w b [(6, .int .u64 (t : Nat)), (1, .int .i64 (-1)), (2, .int .i64 0), (3, .int .i64 ld), (5, .slice none 0 0)]) b (n.follow t ld) q.noYes) := by
   unfold Nd.follow
   rw [if_pos hlt]
   exact h.re (sets_fr b _ w) (sets_heap _ h.top) ⟨rfl, rfl⟩ (.inr ⟨rfl, rfl⟩) ⟨rfl, rfl, rfl⟩ ⟨rfl, rfl, rfl, rfl⟩
  clear hlt h
  go_enter Try.func42, Try.ntmps42
  go_wp2
  go_end0
  exact ⟨rfl, R, sets_fr b [(6, .int .u64 (t : Nat)), (1, .int .i64 (-1)), (2, .int .i64 0), (3, .int .i64 ld), (5, .slice none 0 0)] w⟩
 ·have g : decide (n.tm < t) = false := decide_eq_false hlt
  have R : Hid (PNs X P (sets w b [(2, .int .i64 0), (3, .int .i64 ld), (5, .slice none 0 0)]) b (n.follow t ld) q.noYes) := by
   unfold Nd.follow
   rw [if_neg hlt]
   exact h.re (sets_fr b _ w) (sets_heap _ h.top) ⟨rfl, rfl⟩ (.inr ⟨rfl, rfl⟩) ⟨rfl, rfl, rfl⟩ ⟨rfl, rfl, rfl, rfl⟩
  clear hlt h
  go_enter Try.func42, Try.ntmps42
  go_wp2
  go_end0
  exact ⟨rfl, R, sets_fr b [(2, .int .i64 0), (3, .int .i64 ld), (5, .slice none 0 0)] w⟩
set_option maxRecDepth 100000 in
theorem oth_fn (w : World) (bx b : Nat) (me x : Int) (h0 : w.cell? ⟨bx, 0, none⟩ = some (.pointer (some ⟨b, 0, none⟩))) (h1 : w.cell? ⟨b, 0, none⟩ = some (.int .i64 me)) :
  Calls Try.prog 69 (#[.int .i64 x] ++ #[.pointer (some ⟨bx, 0, none⟩)]) w fun e w' => e = .returned (.bool (x == me)) ∧ FT w w' := by
 show Calls _ _ #[.int .i64 x, .pointer (some ⟨bx, 0, none⟩)] _ _
 go_enter Try.func69, Try.ntmps69
 go_wp2
 go_ret
 exact ⟨rfl, Fr.refl _ _⟩
set_option maxRecDepth 100000 in
set_option maxHeartbeats 1000000 in
theorem others_calls [Old] (h : PNs X P w b n q) (hc : 0 < n.conf.length ∧ n.conf.length ≤ 1000) :
  Calls Try.prog 49 #[.pointer (some ⟨b, 0, none⟩)] w fun e w' => (∃ g k, e = .returned (.slice g n.others.length k) ∧ RowI w' w.heap.size (.slice g n.others.length k) n.others) ∧ FT w w' := by
 obtain ⟨W1, hW1⟩ : ∃ W, w.alloc (.cells #[.pointer (some ⟨b, 0, none⟩)] 40 (0, 0)) = W := ⟨_, rfl⟩
 have F1 : Hid (FT w W1) := hW1 ▸ (Fr.refl _ _).alloc _
 have X1 : Hid (W1.heap[w.heap.size]? = some (.cells #[.pointer (some ⟨b, 0, none⟩)] 40 (0, 0))) := hW1 ▸ heap_alloc_new w _
 have x0 := cell_mk (i := 0) X1 rfl
 have x4 := (h.cells F1).2.2.2.2.1
 have CL := Lib.hid (clone_ints W1 q.vc n.conf (h.cf.tt F1.out) hc.1 (by omega))
 have HTOP := Lib.hid h.top
 have HLT : Hid (b < w.heap.size) := lt_of_some h.top
 obtain ⟨me, hme⟩ : ∃ m, n.me = m := ⟨_, rfl⟩
 have HME := Lib.hid hme
 obtain ⟨cf, hcf⟩ : ∃ c, n.conf = c := ⟨_, rfl⟩
 have HCF := Lib.hid hcf
 rw [hcf] at CL hc
 have OTH : Hid (kepI (fun x => x == me) cf = n.others) := by
  show _ = _
  unfold kepI Nd.others
  rw [hcf, hme]
  congr 1
  funext x
  by_cases e : x = me <;> simp [e]
 obtain ⟨ot, hot⟩ : ∃ o, n.others = o := ⟨_, rfl⟩
 rw [hot] at OTH ⊢
 have SZ : Hid (w.heap.size ≤ W1.heap.size) := F1.size
 clear h hme hcf hot
 go_enter Try.func49, Try.ntmps49
 go_wp2_with fail
 try rw [hW1]
 (with_reducible refine CL.out.mono ?_)
 rintro e w2 ⟨⟨v2, rfl, r2⟩, f2⟩
 have F2 := Lib.hid (F1.trans f2)
 have F12 := Lib.hid f2
 have R2 := Lib.hid r2
 have hc1 := hc.1
 obtain ⟨g, cap, cur, e2, gB, _⟩ : ∃ g cap cur, v2 = .slice (some ⟨g, 0, none⟩) cf.length cap ∧ W1.heap.size ≤ g ∧ w2.heap[g]? = some (.cells cur 3 (0, 0)) := by
  rcases r2.2 with ⟨_, e⟩ | ⟨g, cap, cur, e, hb, hg, _⟩
  ·omega
  ·exact ⟨g, cap, cur, e, hb, hg⟩
 subst e2
 have hgx : w.heap.size ≠ g := by have := lt_of_some X1.out; omega
 have hgb : b ≠ g := by have := HLT.out; have := SZ.out; omega
 have DC := Lib.hid (delfI_some w2 W1.heap.size g cf.length cap cf 69 #[.pointer (some ⟨w.heap.size, 0, none⟩)] (fun x => x == me) (enters_of Try.func69 (by kernel_rfl) rfl) rfl r2 (by omega) (fun W x f => oth_fn W w.heap.size b me x (f.cell (fun _ _ => hgx) (f2.cell (fun _ _ => trivial) x0)) (f.cell (fun _ _ => hgb) (cell_mk (F2.out.keep _ _ HTOP.out trivial) (by show _ = some (Value.int .i64 me); rw [← HME.out]; rfl)))))
 rw [OTH.out] at DC
 have y0 := F12.cell (fun _ _ => trivial) x0
 clear CL r2 f2 x4 x0 hc hgx hgb hc1
 go_wp2_with fail
 (with_reducible refine DC.out.mono ?_)
 rintro e w3 ⟨⟨m, rfl, hm, r3⟩, f3⟩
 have HM := Lib.hid hm
 have R3 := Lib.hid r3
 have F3 : Hid (FT w w3) := Fr.within ((F2.out.tT : Fr (fun c _ => True ∧ c < w.heap.size) w w2).trans (f3.mono fun c _ h e => by have := h.2; have := SZ.out; omega))
 clear hm r3 f3 DC y0
 go_wp2
 go_ret
 have hm' := HM
 subst hm'
 exact ⟨⟨_, cap, rfl, ⟨R3.1, by
  rcases R3.2 with h | ⟨g', c', cu', e', hb', r'⟩
  ·exact .inl h
  ·exact .inr ⟨g', c', cu', e', Nat.le_trans SZ hb', r'⟩⟩⟩, F3⟩
end
end Go.Proofs.Ytmjccpfchhnfhaa
/- elect: toAll. -/
namespace Go.Proofs.Ytmjccpfchhnfhaa
open Go.RowKit
set_option linter.unusedVariables false
set_option linter.unusedSimpArgs false
theorem Fr.monoH {K K' : Nat → Obj → Prop} {a b : World} (h : Fr K a b) (hK : ∀ i o, a.heap[i]? = some o → K' i o → K i o) : Fr K' a b := ⟨h.os, h.tape, h.output, h.size, fun i o hi hk => h.keep i o hi (hK i o hi hk)⟩
def KI (_ : Nat) (o : Obj) : Prop := ∃ cs fz, o = .cells cs 3 fz
abbrev cM (m : MV) : Array Value := #[.int .i64 m.kind, .int .i64 m.src, .int .i64 m.dst, .int .u64 (m.tm : Nat), .int .u64 (m.index : Nat), .int .u64 (m.prev : Nat), .int .u64 (m.commit : Nat), .bool m.ok, .slice m.da m.d.length m.dc, .slice m.ea m.es.length m.ec]
theorem mbox (w : World) (m : MV) : ∃ W, w.alloc (.cells (cM m) 74 (0, 0)) = W ∧ Hid (FT w W) ∧ Hid (W.heap[w.heap.size]? = some (.cells (cM m) 74 (0, 0))) := ⟨_, rfl, (Fr.refl _ _).alloc _, heap_alloc_new w _⟩
theorem mcells {W : World} {g : Nat} {m : MV} (h : W.heap[g]? = some (.cells (cM m) 74 (0, 0))) : W.cell? ⟨g, 0, none⟩ = some (.int .i64 m.kind) ∧ W.cell? ⟨g, 1, none⟩ = some (.int .i64 m.src) ∧ W.cell? ⟨g, 2, none⟩ = some (.int .i64 m.dst) ∧ W.cell? ⟨g, 3, none⟩ = some (.int .u64 (m.tm : Nat)) ∧ W.cell? ⟨g, 4, none⟩ = some (.int .u64 (m.index : Nat)) ∧ W.cell? ⟨g, 5, none⟩ = some (.int .u64 (m.prev : Nat)) ∧ W.cell? ⟨g, 6, none⟩ = some (.int .u64 (m.commit : Nat)) ∧ W.cell? ⟨g, 7, none⟩ = some (.bool m.ok) ∧ W.cell? ⟨g, 8, none⟩ = some (.slice m.da m.d.length m.dc) ∧ W.cell? ⟨g, 9, none⟩ = some (.slice m.ea m.es.length m.ec) :=
 ⟨cell_mk h rfl, cell_mk h rfl, cell_mk h rfl, cell_mk h rfl, cell_mk h rfl, cell_mk h rfl, cell_mk h rfl, cell_mk h rfl, cell_mk h rfl, cell_mk h rfl⟩
section
variable {X P : Nat → Prop} {w : World} {b : Nat} {n : Nd} {q : NV}
def toMV (me : Int) (m : MV) (x : Int) : MV := { m with src := me, dst := x }
set_option maxRecDepth 100000 in
set_option maxHeartbeats 2000000 in
theorem toall_calls [Old] (h : PNs X P w b n q) (hc : 0 < n.conf.length ∧ n.conf.length ≤ 1000) (m : MV) (hm : MsAt X w m) :
  Calls Try.prog 38 #[.pointer (some ⟨b, 0, none⟩), .agg (cM m)] w fun e w' => (∃ v, e = .returned v ∧ OwnMs X w.heap.size w' v (n.others.map (toMV n.me m))) ∧ FT w w' := by
 obtain ⟨W1, hW1, F1, X1⟩ := mbox w m
 have OC := Lib.hid (others_calls (h.tt F1) hc)
 have hol : n.others.length ≤ 1000 := Nat.le_trans (List.length_filter_le _ _) hc.2
 have H := Lib.hid h
 have HM := Lib.hid hm
 obtain ⟨ot, hot⟩ : ∃ o, n.others = o := ⟨_, rfl⟩
 rw [hot] at OC hol ⊢
 obtain ⟨me, hme⟩ : ∃ o, n.me = o := ⟨_, rfl⟩
 rw [hme]
 have CB : Hid (∀ W, Fr (fun c _ => c ≠ w.heap.size) W1 W → W.cell? ⟨b, 0, none⟩ = some (.int .i64 me)) := fun W f => by
  refine f.cell (fun _ _ => ?_) (by rw [← hme]; exact (h.cells F1.out).1)
  have := lt_of_some h.top
  show b ≠ _
  omega
 have S1 : Hid (w.heap.size < W1.heap.size) := lt_of_some X1
 have SW1 : Hid (W1.heap.size = w.heap.size + 1) := by show _ = _; rw [← hW1, World.size_alloc]
 have HX : Hid (∀ c, X c → c < w.heap.size) := h.hx
 clear h hot hme hm hc
 unfold cM
 unfold cM at hW1 X1
 go_enter Try.func38, Try.ntmps38
 go_wp2_with fail
 try rw [hW1]
 (with_reducible refine OC.out.mono ?_)
 rintro e w2 ⟨⟨go, ko, rfl, ro⟩, f2⟩
 have F2 := Lib.hid f2
 have RO2 := Lib.hid ro.ints
 have ROW2 := Lib.hid ro
 have X2 : Hid (w2.heap[w.heap.size]? = some (.cells (cM (toMV m.src m m.dst)) 74 (0, 0))) := f2.keep _ _ X1 trivial
 have O0 : Hid (w2.ownsRow w.heap.size 74 10 (.slice none 0 0) (([] : List Int).map (toMV me m)).length ((([] : List Int).map (toMV me m)).flatMap encM)) := ⟨rfl, .inl ⟨rfl, rfl⟩⟩
 have FW2 := Lib.hid (F1.trans f2)
 clear ro f2 OC hW1
 go_wp2
 go_loopw [5, 11] (fun o i wr => ∃ (k : Nat) (g : Option Addr) (l c : Nat) (s d : Int) (T : List Int), i = .int .i64 (k : Nat) ∧ k ≤ ot.length ∧ o = .slice g l c ∧ Hid (T = ot.take k) ∧ Hid ((T.map (toMV me m)).length = l) ∧ Hid (wr.ownsRow w.heap.size 74 10 (.slice g l c) (T.map (toMV me m)).length ((T.map (toMV me m)).flatMap encM)) ∧ Hid ((Value.slice g l c).ownBlock ≠ some w.heap.size) ∧ Hid (wr.heap[w.heap.size]? = some (.cells (cM (toMV s m d)) 74 (0, 0))) ∧ Hid (Fr (fun c _ => c ≠ w.heap.size) W1 wr) ∧ Hid (Fr KI w2 wr) ∧ Hid (FT w wr)) (fun _ i _ => ot.length - (intOf i).toNat)
 case atStart => exact ⟨0, none, 0, 0, m.src, m.dst, [], rfl, Nat.zero_le _, rfl, rfl, rfl, O0, fun e => (by cases e), X2, F2.tT, Fr.refl _ _, FW2⟩
 case round =>
  obtain ⟨k, g, l, c, s, d, T, rfl, hk, rfl, HT, HL, HO, HNE, HB, HF1, HF2, HFW⟩ := hrel
  by_cases hlt : k < ot.length
  ·have hltI : (k : Int) < (ot.length : Int) := by omega
   obtain ⟨bo, oo, rfl⟩ := RO2.out.addr (by omega)
   have hcell := RO2.cell hlt
   obtain ⟨x, hx⟩ : ∃ x, ot[k] = x := ⟨_, rfl⟩
   rw [hx] at hcell
   have u0 := HF2.cell (p := ⟨bo, oo + k, none⟩) (fun o ho => by
    obtain ⟨cur, hc⟩ := own_tag ROW2 (c := bo) rfl
    have hc' : w2.heap[bo]? = some o := ho
    rw [hc] at hc'
    cases hc'
    exact ⟨_, _, rfl⟩) hcell
   have n0 := CB wr HF1
   have y1 := frozen_mk (i := 1) HB
   have y2 := frozen_mk (i := 2) HB
   obtain ⟨s0, s1, s2, s3, s4, s5, s6, s7, s8, s9⟩ := mcells HB
   obtain ⟨W3, hW3⟩ : ∃ Y, sets wr w.heap.size [(1, .int .i64 me), (2, .int .i64 x)] = Y := ⟨_, rfl⟩
   have hW3' : (wr.setCell ⟨w.heap.size, 1, none⟩ (.int .i64 me)).setCell ⟨w.heap.size, 2, none⟩ (.int .i64 x) = W3 := hW3
   have T3 : Hid (W3.heap[w.heap.size]? = some (.cells (cM (toMV me m x)) 74 (0, 0))) := hW3 ▸ sets_heap _ HB.out
   have F3 : Hid (Fr (fun c _ => c ≠ w.heap.size) wr W3) := hW3 ▸ sets_fr _ _ wr
   obtain ⟨W4, hW4, F4, X4⟩ := mbox W3 (toMV me m x)
   have hW4' : W3.alloc (.cells #[.int .i64 m.kind, .int .i64 me, .int .i64 x, .int .u64 (m.tm : Nat), .int .u64 (m.index : Nat), .int .u64 (m.prev : Nat), .int .u64 (m.commit : Nat), .bool m.ok, .slice m.da m.d.length m.dc, .slice m.ea m.es.length m.ec] 74 (0, 0)) = W4 := hW4
   have ROW := Lib.hid (rows_oneM X4)
   have FW3 : Hid (FT w W3) := Fr.within ((HFW.out.tT : Fr (fun c _ => True ∧ c < w.heap.size) w wr).trans (F3.out.mono fun c _ h e => by have := h.2; omega))
   have FW4 := Lib.hid (FW3.trans F4)
   have OW4 : Hid (W4.ownsRow w.heap.size 74 10 (.slice g l c) (T.map (toMV me m)).length ((T.map (toMV me m)).flatMap encM)) := ownsRow_fr (ownsRow_fr HO.out F3.out fun c o e _ h => HNE.out (h ▸ e)) F4.out fun _ _ _ _ => trivial
   have SM : Hid (T.map (toMV me m) ++ [toMV me m x] = (ot.take (k + 1)).map (toMV me m)) := by
    show _ = _
    rw [List.take_succ_eq_append_getElem hlt, List.map_append, hx, HT.out]
    rfl
   have HL4 : Hid (((ot.take (k + 1)).map (toMV me m)).length = l + 1) := by show _ = _; rw [← SM.out, List.length_append, HL.out]; rfl
   have hl1 : l + 1 ≤ 1000000 := by
    have := HL.out
    rw [List.length_map, HT.out, List.length_take] at this
    omega
   obtain ⟨p0, p1, p2, p3, p4, p5, p6, p7, p8, p9⟩ := mcells T3
   have p1' : W3.cell? ⟨w.heap.size, 1, none⟩ = some (.int .i64 me) := p1
   have p2' : W3.cell? ⟨w.heap.size, 2, none⟩ = some (.int .i64 x) := p2
   have p0' : W3.cell? ⟨w.heap.size, 0, none⟩ = some (.int .i64 m.kind) := p0
   have p3' : W3.cell? ⟨w.heap.size, 3, none⟩ = some (.int .u64 (m.tm : Nat)) := p3
   have p4' : W3.cell? ⟨w.heap.size, 4, none⟩ = some (.int .u64 (m.index : Nat)) := p4
   have p5' : W3.cell? ⟨w.heap.size, 5, none⟩ = some (.int .u64 (m.prev : Nat)) := p5
   have p6' : W3.cell? ⟨w.heap.size, 6, none⟩ = some (.int .u64 (m.commit : Nat)) := p6
   have p7' : W3.cell? ⟨w.heap.size, 7, none⟩ = some (.bool m.ok) := p7
   have p8' : W3.cell? ⟨w.heap.size, 8, none⟩ = some (.slice m.da m.d.length m.dc) := p8
   have p9' : W3.cell? ⟨w.heap.size, 9, none⟩ = some (.slice m.ea m.es.length m.ec) := p9
   clear hx hcell s0 s3 s4 s5 s6 s7 s8 s9 p0 p1 p2 p3 p4 p5 p6 p7 p8 p9 hW3 hW4
   go_wp2_with (at_builtin; (try rw [hW3']); (try rw [hW4']); refine wpList_append_mss w W4 FW4 rfl _ _ rfl _ _ rfl OW4 _ [toMV me m x] rfl ROW _ SM (l + 1) HL4 hl1 ?_)
   intro g5 c5 W5 O5 F5 G5 N5
   go_wp2
   go_roundw
   case rel =>
    have k5 : W5.heap[w.heap.size]? = _ := G5.keep _ _ (F4.keep _ _ T3 trivial) (by exact HNE)
    have hown : ∀ cb, (Value.slice g l c).ownBlock = some cb → w.heap.size ≤ cb := own_new HO
    have htag : ∀ cb, (Value.slice g l c).ownBlock = some cb → ∃ cur, W4.heap[cb]? = some (.cells cur 74 (0, 0)) := fun cb e => own_tag OW4 e
    have ki3 : Fr KI wr W3 := F3.monoH fun i o hi hk e => by
     subst e
     have hb := HB
     rw [hb] at hi
     cases hi
     obtain ⟨cs, fz, e⟩ := hk
     cases e
    have ki5 : Fr KI W4 W5 := G5.monoH fun i o hi hk e => by
     obtain ⟨cur, hc⟩ := htag i e
     rw [hc] at hi
     cases hi
     obtain ⟨cs, fz, e⟩ := hk
     cases e
    have f1 : Fr (fun c _ => c ≠ w.heap.size) W1 W5 := by
     have q := ((HF1.mono (K' := fun c _ => c ≠ w.heap.size ∧ c < W1.heap.size) fun c _ h => h.1).trans (F3.mono fun c _ h => h.1)).trans (F4.tT)
     have q2 : Fr (fun c _ => c ≠ w.heap.size ∧ c < W1.heap.size) W4 W5 := G5.mono fun cb _ h e => by
      have := hown cb e
      have := SW1.out
      omega
     exact (q.trans q2).within
    exact ⟨k + 1, g5, l + 1, c5, me, x, ot.take (k + 1), by go_num, by omega, rfl, rfl, HL4.out, by show World.ownsRow _ _ _ _ _ _ _; rw [HL4.out, List.map_take]; exact O5.out, N5.out.ne HNE.out (Nat.lt_of_lt_of_le S1.out (by have := HF1.out.size; have := F3.out.size; have := F4.out.size; omega)), k5, f1, ((HF2.out.trans ki3).trans (F4.out.tT)).trans ki5, F5.out⟩
   case measure => simp [intOf]; omega
  ·have hge : ¬ (k : Int) < (ot.length : Int) := by omega
   have HTT : Hid (T = ot) := by show _ = _; rw [HT.out, List.take_of_length_le (by omega)]
   go_wp2
   go_ret
   have hl' := HL
   have ho' := HO
   rw [HTT.out] at hl' ho'
   refine ⟨⟨_, rfl, ⟨ho', fun cb e hc => ?_, fun z hz => ?_⟩⟩, HFW⟩
   ·have := HX.out cb hc
    have := own_new ho' cb e
    omega
   ·obtain ⟨x, _, rfl⟩ := List.mem_map.1 hz
    exact ⟨HM.dat.tt HFW, HM.es.tt HFW⟩
end
end Go.Proofs.Ytmjccpfchhnfhaa
/- elect: lead (printed by lead.py). -/
namespace Go.Proofs.Ytmjccpfchhnfhaa
open Go.RowKit
set_option linter.unusedVariables false
set_option linter.unusedSimpArgs false
theorem taddE_calls [Old] {X : Nat → Prop} (w : World) (b bt : Nat) (a : Option Addr) (n c : Nat) (xs : List EV) (y : EV) (hx : EsAt X w (.slice a n c) xs) (hd : BytesAt (RO X) w (.slice y.a y.d.length y.c) y.d) (hdl : y.d.length ≤ 9223372036854775807) (hm : n + 1 ≤ 1000000) (hX : ∀ c, X c → c < w.heap.size) :
  Calls Try.prog 40 #[vL b bt (.slice a n c), vE y] w fun e w' => (∃ a' c', e = .returned (vL b bt (.slice a' (n + 1) c')) ∧ EsAt X w' (.slice a' (n + 1) c') (xs ++ [y])) ∧ FT w w' := by
 refine (tadd_calls w b bt a n c xs y hx.row hx.row.len'.symm hm).mono fun e w' ⟨a', c', e1, r, f⟩ => ⟨⟨a', c', e1, ⟨r.mono fun c o _ q => ⟨fun hc => ?_, ?_⟩, fun n' c'' e2 => ?_, fun z hz => ?_⟩⟩, f⟩
 ·have := hX c hc
  have := q.1
  omega
 ·obtain ⟨cs, fz, e2⟩ := q.2
  exact .inr ⟨cs, _, _, e2, by decide⟩
 ·obtain ⟨b', off, o, e3, _⟩ := r.spot (by simp)
  rw [Value.slice.injEq] at e2
  rw [e2.1] at e3
  cases e3
 ·rcases List.mem_append.1 hz with h | h
  ·exact ⟨(hx.dat z h).1.tt f, (hx.dat z h).2⟩
  ·rw [List.mem_singleton.1 h]; exact ⟨hd.tt f, hdl⟩
section
variable {X P : Nat → Prop} {w w' : World} {b : Nat} {n n' : Nd} {q : NV}
theorem PNs.arrays [Old] {nx mt : List Nat} (h : PNs X P w b n q) (hf : Fr (fun c _ => c ≠ q.bn ∧ c ≠ q.bm) w w') (hn : A16 w' q.bn nx) (hm : A16 w' q.bm mt) : PNs X P w' b { n with next := nx, mat := mt } q := by
 have aft : Aft X P X P w w' := .of (hf.mono fun c _ hc => ⟨fun e => hc (e ▸ h.pn), fun e => hc (e ▸ h.pm)⟩) h.px
 exact ⟨hf.keep _ _ h.top ⟨fun e => h.bn_b e.symm, fun e => h.bm_b e.symm⟩, h.cf.aft aft, ownsRow_fr h.ye hf fun c o e ho => (h.yb c e).2, h.yp, h.ev.aft aft, h.ee, hn, hm, h.nm, h.pb, h.pn, h.pm, h.px, fun c hc => Nat.lt_of_lt_of_le (h.hx c hc) hf.size, h.od⟩
def rep (k L : Nat) (l : List Nat) : List Nat := List.replicate k L ++ l.drop k
theorem rep_zero (L : Nat) (l : List Nat) : rep 0 L l = l := by simp [rep]
theorem rep_full {k L : Nat} {l : List Nat} (h : l.length ≤ k) : rep k L l = List.replicate k L := by unfold rep; rw [List.drop_of_length_le h, List.append_nil]
theorem rep_set {k L : Nat} {l : List Nat} (h : k < l.length) : (rep k L l).set k L = rep (k + 1) L l := by
 unfold rep
 rw [List.set_append_right _ _ (by simp), List.length_replicate, Nat.sub_self, List.drop_eq_getElem_cons h, List.set_cons_zero, List.replicate_succ', List.append_assoc]
 rfl
set_option maxRecDepth 100000 in
set_option maxHeartbeats 8000000 in
theorem lead_calls [Old] (h : PNs X P w b n q) (mN : Nat) (hme : n.me = (mN : Nat)) (hm16 : mN < 16) (hl : n.log.base + q.es.length + 1 < 18446744073709551616) (hle : q.es.length ≤ 900000) :
  Calls Try.prog 59 #[.pointer (some ⟨b, 0, none⟩)] w fun e w' => e = .returned (.tuple #[]) ∧ (∃ q', PNs X P w' b n.lead q' ∧ q'.es.length = q.es.length + 1) ∧ Fr (fun c _ => ¬ P c) w w' := by
 obtain ⟨x0, x1, x2, x3, x4, x5, x6, x7, x8, x9, x10, x11, x12, x13⟩ := h.cells (Fr.refl _ w)
 have z2 := h.free (Fr.refl _ w) 2
 have z3 := h.free (Fr.refl _ w) 3
 have z5 := h.free (Fr.refl _ w) 5
 obtain ⟨n1, hn1⟩ : ∃ m : Nd, { n with role := 3, ld := n.me, yes := [] } = m := ⟨_, rfl⟩
 have h1 : PNs X P (sets w b [(2, .int .i64 3), (3, .int .i64 n.me), (5, .slice none 0 0)]) b { n with role := 3, ld := n.me, yes := [] } q.noYes := h.re (sets_fr b _ w) (sets_heap _ h.top) ⟨rfl, rfl⟩ (.inr ⟨rfl, rfl⟩) ⟨rfl, rfl, rfl⟩ ⟨rfl, rfl, rfl, rfl⟩
 obtain ⟨W1, hW1⟩ : ∃ W, sets w b [(2, .int .i64 3), (3, .int .i64 n.me), (5, .slice none 0 0)] = W := ⟨_, rfl⟩
 have hW1' : ((w.setCell ⟨b, 2, none⟩ (.int .i64 3)).setCell ⟨b, 3, none⟩ (.int .i64 n.me)).setCell ⟨b, 5, none⟩ (.slice none 0 0) = W1 := hW1
 have F1 : Hid (Fr (fun c _ => c ≠ b) w W1) := hW1 ▸ sets_fr b _ w
 rw [hW1] at h1
 obtain ⟨ae, le, ce, hve⟩ : ∃ ae le ce, q.ve = .slice ae le ce := by
  obtain ⟨a, c, e, _⟩ := h.ev.row.form
  exact ⟨a, _, c, e⟩
 have hlen : q.es.length = le := by have := h.ev.row; rw [hve] at this; exact this.len'.symm
 have ADD : Hid (∀ W, FT W1 W → Calls Try.prog 40 #[vL n.log.base n.log.bt (.slice ae le ce), vE ⟨n.tm, 0, none, 0, []⟩] W fun e w' => (∃ a' c', e = .returned (vL n.log.base n.log.bt (.slice a' (le + 1) c')) ∧ EsAt X w' (.slice a' (le + 1) c') (q.es ++ [⟨n.tm, 0, none, 0, []⟩])) ∧ FT W w') := fun W f => by
  refine taddE_calls W _ _ ae le ce q.es ⟨n.tm, 0, none, 0, []⟩ ?_ (BytesAt.nil _ _) (Nat.zero_le _) (by omega) fun c hc => Nat.lt_of_lt_of_le (h1.hx c hc) f.size
  rw [← hve]
  exact h1.ev.tt f
 have CC1 : Hid (∀ W, FT W1 W → W.cell? ⟨b, 0, none⟩ = some (.int .i64 n.me) ∧ W.cell? ⟨b, 6, none⟩ = some (.int .u64 (n.tm : Nat)) ∧ W.cell? ⟨b, 8, none⟩ = some (.int .u64 (n.log.base : Nat)) ∧ W.cell? ⟨b, 9, none⟩ = some (.int .u64 (n.log.bt : Nat)) ∧ W.cell? ⟨b, 10, none⟩ = some (.slice ae le ce)) := fun W f => by
  obtain ⟨x0, x1, x2, x3, x4, x5, x6, x7, x8, x9, x10, x11, x12, x13⟩ := h1.cells f
  exact ⟨x0, x6, x8, x9, by rw [← hve]; exact x10⟩
 have H := Lib.hid h
 have H1 := Lib.hid h1
 have HVE := Lib.hid hve
 have HLN := Lib.hid hlen
 have HN1 := Lib.hid hn1
 have U1 : Hid (FT W1 W1.drew) := (Fr.refl _ _).drew
 have HL : Hid (n.log.base + le + 1 < 18446744073709551616) := by show _ < _; omega
 have HME := Lib.hid hme
 clear h h1 hve hlen hn1 hl hW1 hme
 go_enter Try.func59, Try.ntmps59
 go_wp2_with fail
 try rw [hW1']
 clear hW1' x0 x1 x2 x3 x4 x5 x6 x7 x8 x9 x10 x11 x12 x13 z2 z3 z5
 refine wp_region_cf (K := fun _ _ => True) (by kernel_rfl) [(16, 0), (17, 1), (18, 2), (19, 3), (20, 4), (21, 5), (22, 6), (23, 7), (24, 8), (25, 9), (26, 10), (27, 11), (28, 12)] [(0, []), (1, []), (2, [1]), (3, [2]), (4, [3]), (5, []), (6, [5]), (7, [6]), (8, [7]), (9, [8]), (11, [0]), (12, [11]), (10, [4, 9])] (ckR [(0, .pointer (some ⟨b, 0, none⟩)), (1, .pointer (some ⟨b, 0, none⟩)), (2, .pointer (some ⟨b, 0, none⟩)), (3, .pointer (some ⟨b, 8, none⟩)), (4, .agg #[.int .u64 (n.log.base : Nat), .int .u64 (n.log.bt : Nat), .slice ae le ce]), (5, .pointer (some ⟨b, 0, none⟩)), (6, .pointer (some ⟨b, 0, none⟩)), (7, .pointer (some ⟨b, 6, none⟩)), (8, .int .u64 (n.tm : Nat)), (9, .agg #[.int .u64 (n.tm : Nat), .int .i64 0, .slice none 0 0]), (11, .pointer (some ⟨b, 0, none⟩)), (12, .pointer (some ⟨b, 8, none⟩))] [(10, ⟨fun v W => ∃ a' c', v = vL n.log.base n.log.bt (.slice a' (le + 1) c') ∧ EsAt X W (.slice a' (le + 1) c') (q.es ++ [⟨n.tm, 0, none, 0, []⟩]), fun v W W' h hf => by obtain ⟨a', c', h1, h2⟩ := h; exact ⟨a', c', h1, h2.tt hf⟩⟩)] 13 0) 1 (by kernel_rfl) (by kernel_rfl) (by kernel_rfl) rfl ?cfall ?cfend
 case cfall =>
  iterate 12
   refine CfAll.kk rfl rfl rfl (fun xs W hF hE K' hK => ?_) ?_
   ·have HF := Lib.hid hF
    clear hF
    simp only [ckEqs, ckLook, Nat.reduceBEq] at hE
    simp only [fillA, fillL, sA, sB, sC, Act.put, hE] at hK ⊢
    clear hE
    obtain ⟨x0, x6, x8, x9, x10⟩ := CC1 W (U1.trans HF)
    skip
    go_simp
    exact hK _ rfl
  refine CfAll.k rfl rfl (fun xs W hF hA hE K' hK => ?_) ?_
  ·have HF := Lib.hid hF
   clear hA hF
   simp only [ckEqs, ckLook, Nat.reduceBEq] at hE
   simp only [fillA, fillL, sA, sB, sC, Act.put, hE] at hK ⊢
   clear hE
   have AD1 := Lib.hid (ADD W (U1.trans HF))
   dsimp only [vL, vE, List.length_nil] at AD1 ⊢
   skip
   go_simp
   (with_reducible refine AD1.out.mono ?_)
   rintro e w8 ⟨⟨a8, c8, rfl, r8⟩, f8⟩
   exact hK _ _ _ rfl f8 ⟨a8, c8, rfl, r8⟩
  exact CfAll.nil
 case cfend =>
  intro xs W hF hA
  have HF := Lib.hid hF
  have hE := ckEnd rfl hA
  have h10 := hA (10, [4, 9]) (by decide)
  clear hA hF
  simp only [List.map_cons, List.map_nil, ckEqs, ckLook, Nat.reduceBEq] at hE
  simp only [fillA, fillL, sA, sB, sC, hE]
  clear hE
  obtain ⟨a8, c8, e10, r8⟩ := h10
  rw [e10]
  have R8 := Lib.hid r8
  clear e10 r8
  have F2 := Lib.hid (U1.trans HF)
  have H2 := Lib.hid (H1.tt F2)
  obtain ⟨x0, x1, x2, x3, x4, x5, x6, x7, x8, x9, x10, x11, x12, x13⟩ := H2.cells (Fr.refl _ W)
  have z8 := H2.free (Fr.refl _ W) 8
  have z9 := H2.free (Fr.refl _ W) 9
  have z10 := H2.free (Fr.refl _ W) 10
  unfold vL
  refine wpAny_next 13 (by kernel_rfl) rfl fun K' hK => ?_
  skip
  go_simp
  refine hK _ _ ?_
  clear hK K'
  refine wpAny_fin (by kernel_rfl) ?_
  obtain ⟨n2, hn2⟩ : ∃ m : Nd, { n with role := 3, ld := n.me, yes := [], log := n.log.add ⟨n.tm, 0, []⟩ } = m := ⟨_, rfl⟩
  obtain ⟨q2, hq2⟩ : ∃ m : NV, { q.noYes with ve := .slice a8 (le + 1) c8, es := q.es ++ [⟨n.tm, 0, none, 0, []⟩] } = m := ⟨_, rfl⟩
  obtain ⟨W2, hW2⟩ : ∃ Y, sets W b [(8, .int .u64 (n.log.base : Nat)), (9, .int .u64 (n.log.bt : Nat)), (10, .slice a8 (le + 1) c8)] = Y := ⟨_, rfl⟩
  have hW2' : ((W.setCell ⟨b, 8, none⟩ (.int .u64 (n.log.base : Nat))).setCell ⟨b, 9, none⟩ (.int .u64 (n.log.bt : Nat))).setCell ⟨b, 10, none⟩ (.slice a8 (le + 1) c8) = W2 := hW2
  have h3 : PNs X P W2 b { n with role := 3, ld := n.me, yes := [], log := n.log.add ⟨n.tm, 0, []⟩ } { q.noYes with ve := .slice a8 (le + 1) c8, es := q.es ++ [⟨n.tm, 0, none, 0, []⟩] } := by
   rw [← hW2]
   refine H2.reE (sets_fr b _ W) (sets_heap _ H2.top) ⟨rfl, rfl⟩ (.inl ⟨rfl, rfl⟩) ⟨?_, R8⟩ ⟨rfl, rfl, rfl, rfl⟩
   show n.log.es ++ _ = _
   rw [List.map_append, H.out.ee]
   rfl
  rw [hn2, hq2] at h3
  have H3 := Lib.hid h3
  have F3 : Hid (Fr (fun c _ => ¬ P c) w W2) := ((F1.out.mono fun c _ hc e => hc (e ▸ H.out.pb)).trans (F2.out.tT)).trans (hW2 ▸ (sets_fr b _ W).mono fun c _ hc e => hc (e ▸ H.out.pb))
  obtain ⟨bn, hbn⟩ : ∃ x, q2.bn = x := ⟨_, rfl⟩
  obtain ⟨bm, hbm⟩ : ∃ x, q2.bm = x := ⟨_, rfl⟩
  obtain ⟨cn, hcn⟩ : ∃ x, q2.cn = x := ⟨_, rfl⟩
  obtain ⟨cm, hcm⟩ : ∃ x, q2.cm = x := ⟨_, rfl⟩
  have HQ2 := Lib.hid (And.intro hbn (And.intro hbm (And.intro hcn hcm)))
  obtain ⟨L, hL⟩ : ∃ L, n.log.base + (le + 1) = L := ⟨_, rfl⟩
  have LAST := Lib.hid (fun W => tlast_calls W n.log.base n.log.bt a8 (le + 1) c8 (by have := HL.out; omega))
  rw [hL] at LAST
  have HLL := Lib.hid hL
  have h9 : n2.me = n.me ∧ n2.log.base = n.log.base ∧ n2.log.bt = n.log.bt ∧ q2.ve = .slice a8 (le + 1) c8 := by rw [← hn2, ← hq2]; exact ⟨rfl, rfl, rfl, rfl⟩
  have CC3 : Hid (∀ (nx mt : List Nat) W W', PNs X P W b { n2 with next := nx, mat := mt } q2 → FT W W' → W'.cell? ⟨b, 0, none⟩ = some (.int .i64 (mN : Nat)) ∧ W'.cell? ⟨b, 8, none⟩ = some (.int .u64 (n.log.base : Nat)) ∧ W'.cell? ⟨b, 9, none⟩ = some (.int .u64 (n.log.bt : Nat)) ∧ W'.cell? ⟨b, 10, none⟩ = some (.slice a8 (le + 1) c8) ∧ W'.cell? ⟨b, 12, none⟩ = some (.slice (some ⟨bn, 0, none⟩) 16 cn) ∧ W'.cell? ⟨b, 13, none⟩ = some (.slice (some ⟨bm, 0, none⟩) 16 cm)) := fun nx mt W W' h f => by
   obtain ⟨x0, x1, x2, x3, x4, x5, x6, x7, x8, x9, x10, x11, x12, x13⟩ := h.cells f
   refine ⟨?_, ?_, ?_, ?_, ?_, ?_⟩
   ·rw [x0]; show some (Value.int .i64 n2.me) = _; rw [h9.1, HME.out]
   ·rw [x8]; show some (natN n2.log.base) = _; rw [h9.2.1]
   ·rw [x9]; show some (natN n2.log.bt) = _; rw [h9.2.2.1]
   ·rw [x10, h9.2.2.2]
   ·rw [x12, HQ2.out.1, HQ2.out.2.2.1]
   ·rw [x13, HQ2.out.2.1, HQ2.out.2.2.2]
  obtain ⟨nx0, hnx0⟩ : ∃ x, n2.next = x := ⟨_, rfl⟩
  obtain ⟨mt0, hmt0⟩ : ∃ x, n2.mat = x := ⟨_, rfl⟩
  have L16 : Hid (nx0.length = 16 ∧ mt0.length = 16) := ⟨hnx0 ▸ h3.nx.1, hmt0 ▸ h3.mt.1⟩
  have H30 : Hid (PNs X P W2 b { n2 with next := rep 0 L nx0, mat := rep 0 0 mt0 } q2) := by
   show PNs _ _ _ _ _ _
   rw [rep_zero, rep_zero, ← hnx0, ← hmt0]
   exact h3
  have HN2 := Lib.hid hn2
  have HQQ := Lib.hid hq2
  have HX0 := Lib.hid (And.intro hnx0 hmt0)
  obtain ⟨y0, y8, y9, y10, y12, y13⟩ := CC3 _ _ W2 W2 H30 (Fr.refl _ _)
  try rw [hW2']
  clear hW2 hW2' h3 hn2 hq2 hbn hbm hcn hcm hL h9 hnx0 hmt0 x0 x1 x2 x3 x4 x5 x6 x7 x8 x9 x10 x11 x12 x13 z8 z9 z10
  go_wp2
  clear y0 y8 y9 y10 y12 y13
  go_loopw [34] (fun i wr => ∃ k : Nat, i = .int .i64 (k : Nat) ∧ k ≤ 16 ∧ Hid (PNs X P wr b { n2 with next := rep k L nx0, mat := rep k 0 mt0 } q2) ∧ Hid (Fr (fun c _ => ¬ P c) w wr)) (fun i _ => 16 - (intOf i).toNat)
  case atStart => exact ⟨0, rfl, Nat.zero_le _, H30, F3⟩
  case round =>
   obtain ⟨k, rfl, hk, HK, HFK⟩ := hrel
   by_cases hlt : k < 16
   ·have hltI : (k : Int) < 16 := by omega
    have k0 : (0 : Int) ≤ (k : Int) := by omega
    have UK : Hid (FT wr wr.drew) := (Fr.refl _ _).drew
    go_wp2_with fail
    refine wp_region_cf1 (K := fun _ _ => True) (vt := .int .i64 (k : Nat)) 9 rfl (by kernel_rfl) (by kernel_rfl) (by kernel_rfl) (fun _ _ _ h => h) (Or.inl ⟨by rfl, ?cfy⟩) (by kernel_rfl) [(37, 0), (38, 1), (39, 2), (40, 3), (41, 4), (42, 5), (43, 6), (44, 7), (45, 8), (46, 9), (47, 10), (48, 11), (49, 12), (50, 13), (51, 14), (52, 15), (53, 17)] [(0, []), (1, [0]), (2, [1]), (3, [2]), (4, []), (5, []), (6, [5]), (7, [6]), (8, [7]), (9, []), (10, []), (11, [10]), (12, [11]), (13, [12]), (14, [13])] (ckR [(0, .pointer (some ⟨b, 0, none⟩)), (1, .pointer (some ⟨b, 0, none⟩)), (2, .pointer (some ⟨b, 12, none⟩)), (3, .slice (some ⟨bn, 0, none⟩) 16 cn), (4, .int .i64 (k : Nat)), (5, .pointer (some ⟨b, 0, none⟩)), (6, .pointer (some ⟨b, 0, none⟩)), (7, .pointer (some ⟨b, 13, none⟩)), (8, .slice (some ⟨bm, 0, none⟩) 16 cm), (9, .int .i64 (k : Nat)), (10, .pointer (some ⟨b, 0, none⟩)), (11, .pointer (some ⟨b, 0, none⟩)), (12, .pointer (some ⟨b, 8, none⟩)), (13, .agg #[.int .u64 (n.log.base : Nat), .int .u64 (n.log.bt : Nat), .slice a8 (le + 1) c8]), (14, .int .u64 (L : Nat))] [] 15 0) 4 (by kernel_rfl) (by kernel_rfl) (by kernel_rfl) rfl (fun _ => rfl) (by rfl) 46 rfl (by simp) ?cfall ?cfend
    case cfy => (intro w; (try simp only [gA, gB, gC]); go_simp)
    case cfall =>
     iterate 14
      refine CfAll.kk rfl rfl rfl (fun xs W hF hE K' hK => ?_) ?_
      ·have HF := Lib.hid hF
       clear hF
       simp only [ckEqs, ckLook, Nat.reduceBEq] at hE
       simp only [fillA, fillL, sA, sB, sC, Act.put, hE] at hK ⊢
       clear hE
       obtain ⟨y0, y8, y9, y10, y12, y13⟩ := CC3 _ _ wr W HK (UK.trans HF)
       skip
       go_simp
       exact hK _ rfl
     refine CfAll.k rfl rfl (fun xs W hF hA hE K' hK => ?_) ?_
     ·have HF := Lib.hid hF
      clear hA hF
      simp only [ckEqs, ckLook, Nat.reduceBEq] at hE
      simp only [fillA, fillL, sA, sB, sC, Act.put, hE] at hK ⊢
      clear hE
      have LA1 := Lib.hid (LAST W)
      dsimp only [vL] at LA1
      skip
      go_simp
      (with_reducible refine LA1.out.mono ?_)
      rintro e w8 ⟨rfl, f8⟩
      exact hK _ _ _ rfl f8 rfl
     exact CfAll.nil
    case cfend =>
     intro xs W hF hA
     have HF := Lib.hid hF
     have hE := ckEnd rfl hA
     clear hA hF
     simp only [List.map_cons, List.map_nil, ckEqs, ckLook, Nat.reduceBEq] at hE
     simp only [fillA, fillL, sA, sB, sC, hE]
     clear hE
     have HB := Lib.hid (UK.trans HF)
     have HK2 := Lib.hid (HK.tt HB)
     have An := HK2.nx
     have Am := HK2.mt
     rw [HQ2.out.1] at An
     rw [HQ2.out.2.1] at Am
     have hne : bn ≠ bm := by have := HK2.out.nm; rw [HQ2.out.1, HQ2.out.2.1] at this; exact this
     have an0 := An.cell k (by omega)
     have an1 := An.free k
     have An2 := An.set k L (by omega)
     obtain ⟨WN, hWN⟩ : ∃ Y, W.setCell ⟨bn, k, none⟩ (.int .u64 (L : Nat)) = Y := ⟨_, rfl⟩
     have fN : Fr (fun c _ => c ≠ bn) W WN := hWN ▸ (Fr.refl _ _).setCell (fun _ _ h => h rfl) _
     have Am1 := Am.fr fN fun _ _ => (Ne.symm hne)
     have am0 := Am1.cell k (by omega)
     have am1 := Am1.free k
     have Am2 := Am1.set k 0 (by omega)
     obtain ⟨WM, hWM⟩ : ∃ Y, WN.setCell ⟨bm, k, none⟩ (.int .u64 0) = Y := ⟨_, rfl⟩
     have fM : Fr (fun c _ => c ≠ bm) WN WM := hWM ▸ (Fr.refl _ _).setCell (fun _ _ h => h rfl) _
     have HK3 : Hid (PNs X P WM b { n2 with next := rep (k + 1) L nx0, mat := rep (k + 1) 0 mt0 } q2) := by
      have a1 : A16 WM bn (rep (k + 1) L nx0) := by
       rw [← rep_set (by have := L16.out; omega)]
       exact (hWN ▸ An2).fr fM fun _ _ => hne
      have a2 : A16 WM bm (rep (k + 1) 0 mt0) := by
       rw [← rep_set (by have := L16.out; omega)]
       exact hWM ▸ Am2
      refine HK2.out.arrays (w' := WM) ?_ (by rw [HQ2.out.1]; exact a1) (by rw [HQ2.out.2.1]; exact a2)
      rw [HQ2.out.1, HQ2.out.2.1]
      exact (fN.mono fun c _ h => h.1).trans (fM.mono fun c _ h => h.2)
     have FK3 : Hid (Fr (fun c _ => ¬ P c) w WM) := by
      have f1 : Fr (fun c _ => ¬ P c) W WN := fN.mono fun c _ (h : ¬ P c) e => h (by rw [e, ← HQ2.out.1]; exact H3.out.pn)
      have f2 : Fr (fun c _ => ¬ P c) WN WM := fM.mono fun c _ (h : ¬ P c) e => h (by rw [e, ← HQ2.out.2.1]; exact H3.out.pm)
      exact ((HFK.trans (HB.tT)).trans f1).trans f2
     clear An Am An2 Am1 Am2 fN fM
     refine wpAny_next 15 (by kernel_rfl) rfl fun K' hK => ?_
     skip
     go_simp
     refine hK _ _ ?_
     clear hK K'
     refine wpAny_next 16 (by kernel_rfl) rfl fun K' hK => ?_
     skip
     go_simp
     refine hK _ _ ?_
     clear hK K'
     refine wpAny_next 17 (by kernel_rfl) rfl fun K' hK => ?_
     try rw [hWN]
     skip
     go_simp
     refine hK _ _ ?_
     clear hK K'
     refine wpAny_next 18 (by kernel_rfl) rfl fun K' hK => ?_
     skip
     go_simp
     refine hK _ _ ?_
     clear hK K'
     refine wpAny_fin (by kernel_rfl) ?_
     try rw [hWN]
     try rw [hWM]
     clear an0 an1 am0 am1 hWN hWM
     go_wp2
     go_roundw
     case rel => exact ⟨k + 1, by go_num, by omega, HK3.out, FK3.out⟩
     case measure => simp [intOf]; omega
   ·have hge : ¬ (k : Int) < 16 := by omega
    obtain rfl : k = 16 := by omega
    have mN0 : (0 : Int) ≤ (mN : Int) := by omega
    have mN16 : (mN : Int) < 16 := by omega
    have UK : Hid (FT wr wr.drew) := (Fr.refl _ _).drew
    go_wp2_with fail
    refine wp_region_cf (K := fun _ _ => True) (by kernel_rfl) [(55, 0), (56, 1), (57, 2), (58, 3), (59, 4), (60, 5), (61, 6), (62, 7), (63, 8), (64, 9), (65, 10), (66, 11), (67, 12), (68, 13)] [(0, []), (1, [0]), (2, [1]), (3, [2]), (4, []), (5, [4]), (6, [5]), (7, [6]), (8, []), (9, [8]), (10, [9]), (11, [10]), (12, [11])] (ckR [(0, .pointer (some ⟨b, 0, none⟩)), (1, .pointer (some ⟨b, 0, none⟩)), (2, .pointer (some ⟨b, 13, none⟩)), (3, .slice (some ⟨bm, 0, none⟩) 16 cm), (4, .pointer (some ⟨b, 0, none⟩)), (5, .pointer (some ⟨b, 0, none⟩)), (6, .pointer (some ⟨b, 0, none⟩)), (7, .int .i64 (mN : Nat)), (8, .pointer (some ⟨b, 0, none⟩)), (9, .pointer (some ⟨b, 0, none⟩)), (10, .pointer (some ⟨b, 8, none⟩)), (11, .agg #[.int .u64 (n.log.base : Nat), .int .u64 (n.log.bt : Nat), .slice a8 (le + 1) c8]), (12, .int .u64 (L : Nat))] [] 13 0) 2 (by kernel_rfl) (by kernel_rfl) (by kernel_rfl) rfl ?cfall ?cfend
    case cfall =>
     iterate 12
      refine CfAll.kk rfl rfl rfl (fun xs W hF hE K' hK => ?_) ?_
      ·have HF := Lib.hid hF
       clear hF
       simp only [ckEqs, ckLook, Nat.reduceBEq] at hE
       simp only [fillA, fillL, sA, sB, sC, Act.put, hE] at hK ⊢
       clear hE
       obtain ⟨y0, y8, y9, y10, y12, y13⟩ := CC3 _ _ wr W HK (UK.trans HF)
       skip
       go_simp
       exact hK _ rfl
     refine CfAll.k rfl rfl (fun xs W hF hA hE K' hK => ?_) ?_
     ·have HF := Lib.hid hF
      clear hA hF
      simp only [ckEqs, ckLook, Nat.reduceBEq] at hE
      simp only [fillA, fillL, sA, sB, sC, Act.put, hE] at hK ⊢
      clear hE
      have LA1 := Lib.hid (LAST W)
      dsimp only [vL] at LA1
      skip
      go_simp
      (with_reducible refine LA1.out.mono ?_)
      rintro e w8 ⟨rfl, f8⟩
      exact hK _ _ _ rfl f8 rfl
     exact CfAll.nil
    case cfend =>
     intro xs W hF hA
     have HF := Lib.hid hF
     have hE := ckEnd rfl hA
     clear hA hF
     simp only [List.map_cons, List.map_nil, ckEqs, ckLook, Nat.reduceBEq] at hE
     simp only [fillA, fillL, sA, sB, sC, hE]
     clear hE
     have HB := Lib.hid (UK.trans HF)
     have HK2 := Lib.hid (HK.tt HB)
     have Am := HK2.mt
     rw [HQ2.out.2.1] at Am
     have am0 := Am.cell mN hm16
     have am1 := Am.free mN
     have Am2 := Am.set mN L hm16
     obtain ⟨WM, hWM⟩ : ∃ Y, W.setCell ⟨bm, mN, none⟩ (.int .u64 (L : Nat)) = Y := ⟨_, rfl⟩
     have fM : Fr (fun c _ => c ≠ bm) W WM := hWM ▸ (Fr.refl _ _).setCell (fun _ _ h => h rfl) _
     have FK3 : Hid (Fr (fun c _ => ¬ P c) w WM) := (HFK.out.trans (HB.out.tT)).trans (fM.mono fun c _ h e => h (by rw [e, ← HQ2.out.2.1]; exact H3.out.pm))
     have HK3 : Hid (∃ q', PNs X P WM b n.lead q' ∧ q'.es.length = q.es.length + 1) := by
      refine ⟨q2, ?_, ?_⟩
      ·have e : n.lead = { n2 with next := rep 16 L nx0, mat := (rep 16 0 mt0).set mN L } := by
        rw [rep_full (by have := L16.out; omega), rep_full (by have := L16.out; omega), ← HN2.out]
        unfold Nd.lead
        have e1 : n.log.last + 1 = L := by
         unfold Lg.last
         rw [H.out.ee, List.length_map, HLN.out, ← HLL.out, Nat.add_assoc]
        have e2 : n.me.toNat = mN := by rw [HME.out]; rfl
        rw [e1, e2]
       rw [e]
       refine HK2.out.arrays (w' := WM) ?_ (HK2.out.nx.fr fM fun _ _ => by rw [← HQ2.out.2.1]; exact HK2.out.nm) (by rw [HQ2.out.2.1]; exact hWM ▸ Am2)
       rw [HQ2.out.2.1]
       exact fM.mono fun c _ h => h.2
      ·rw [← HQQ.out]
       show (q.es ++ [_]).length = _
       simp
     clear Am Am2 fM
     refine wpAny_next 13 (by kernel_rfl) rfl fun K' hK => ?_
     skip
     go_simp
     refine hK _ _ ?_
     clear hK K'
     refine wpAny_next 14 (by kernel_rfl) rfl fun K' hK => ?_
     skip
     go_simp
     refine hK _ _ ?_
     clear hK K'
     refine wpAny_fin (by kernel_rfl) ?_
     try rw [hWM]
     go_wp2
     go_end0
     exact ⟨rfl, HK3, FK3⟩
end
end Go.Proofs.Ytmjccpfchhnfhaa
