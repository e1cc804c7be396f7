/- Texts of the proofs, part 36: what the functions that they reach do, walked; no conditions beyond those that each states. -/
import Derived.Test.YtcpbmempfeloaaaDoorZz2795859ede
set_option linter.unusedVariables false
set_option linter.unusedSimpArgs false
/- Law 14: made. -/
namespace Go.Proofs.YtcpbmempfeloaaaDoor
open Go.RowKit
set_option linter.unusedVariables false
set_option linter.unusedSimpArgs false

theorem SA.box {n : Nat} {X : Nat → Prop} {w w' : World} {s : Sta} {v : Value} {xs : List EV} (h : SA n X w s v xs) {g : Nat} {cs : Array Value} {t : TypeId} {fz : Nat × Nat} (hg : w.heap[g]? = some (.cells cs t fz)) (ht : t ≠ 5) (ht2 : t ≠ 128) (hn : n ≤ g) (hf : Fr (fun c _ => c ≠ g) w w') : SA n X w' s v xs := by
  refine ⟨h.rows.fr hf fun c o ho hc e => ?_, h.es, fun x hx => (h.dat x hx).fr2 hf fun c o ho hc => hc.off hg ht hn ho⟩
  subst e
  rw [hg] at ho
  cases ho
  rcases hc.2 with q | ⟨cs', fz', q⟩
  · omega
  · exact ht2 (Obj.cells.inj q).2.1
theorem KO.box {n m q : Nat} {X : Nat → Prop} {w w' : World} {bk bd : Nat} {s : Sta} (h : KO n m q X w bk bd s) {g : Nat} {cs : Array Value} {t : TypeId} {fz : Nat × Nat} (hg : w.heap[g]? = some (.cells cs t fz)) (ht : t ≠ 5) (hn : n ≤ g) (hx : ¬ X g) (hf : Fr (fun c _ => c ≠ g) w w') : KO n m q X w' bk bd s := by
  obtain ⟨P, bj, K, J, D, a4, c4, hv, rs, q', h1, h2⟩ := h
  exact ⟨P, bj, K, J, D, a4, c4, hv, rs, q', h1.box hg ht hn hx hf, h2⟩
theorem KO.ki {n m q : Nat} {X : Nat → Prop} {w : World} {bk bd : Nat} {s : Sta} (h : KO n m q X w bk bd s) : s.right = true ∧ s.wf ∧ s.es.length ≤ m ∧ m ≤ 15 := by
  obtain ⟨P, bj, K, J, D, a4, c4, hv, rs, q', h1, h2, _⟩ := h
  have := h2.kb.ji.n17
  exact ⟨h2.rt, h2.wf, h2.ln, by omega⟩
/-- Opened for the first time. -/
theorem kfirst_calls {n : Nat} {P : Nat → Prop} {w : World} {bd : Nat} (m : Nat) (h1 : 1 ≤ m) (h2 : m ≤ 15) (h : SD n P w bd (Dk.new 20)) (h0 : 0 < n) (hn : n ≤ w.heap.size) (ht : TabOK w) :
    Calls Tryd.prog 36 #[.pointer (some ⟨bd, 0, none⟩), .int .i64 1, .int .i64 (m : Nat)] w fun e w' => ∃ bk X' xs a c, e = .returned (.tuple #[.pointer (some ⟨bk, 0, none⟩), vS zSta (.slice a xs.length c), .int .i64 0]) ∧ KO n m 1 X' w' bk bd zSta ∧ SA n X' w' zSta (.slice a xs.length c) xs ∧ Kp P X' w w' := by
  obtain ⟨D', e1, e2, e3⟩ := first_ki m h1 h2
  have hop : openS zSta [] = zSta := by decide
  have k := kopen_calls h h0 hn ht (by show (0 : Nat) < 1000000; decide) (m : Nat) ⟨3, m, 1, 1, 0, []⟩ D' e1 zSta [] zSta_wf ⟨by decide, by decide⟩ (.inr ⟨⟨_, _, e3⟩, rfl, rfl, rfl, rfl⟩) rfl (fun r hr => by cases hr) (by decide) (by decide)
  rw [hop] at k
  refine k.mono fun e w' hh => ?_
  obtain ⟨bk, bj, X, P', a4, c4, hv, rs, xs, a, c, g1, g2, g3, g4⟩ := hh
  exact ⟨bk, X, xs, a, c, g1, ⟨P', bj, _, _, D', a4, c4, hv, rs, 1, g2, e2, Nat.le_refl _⟩, g3, g4⟩
/-- A state that was taken, or opened. -/
def Took (s0 sv : Sta) : Prop := sv = s0 ∨ sv = raise s0
theorem Took.es {s0 sv : Sta} (h : Took s0 sv) : sv.es = s0.es ∧ sv.base = s0.base ∧ sv.bt = s0.bt := by
  rcases h with rfl | rfl
  · exact ⟨rfl, rfl, rfl⟩
  · obtain ⟨h1, h2, h3, _⟩ := raise_es s0
    exact ⟨h1, h2, h3⟩
set_option maxRecDepth 100000 in
/-- made: calls that are too many, or too long. -/
theorem made14_bad {n : Nat} (w : World) (a : Option Addr) (len cap : Nat) (l : List OpK) (h : OpsK n w (.slice a len cap) l) (hl : l.length = len) (hs : shortK l 12 = false) :
    Calls Tryd.prog 34 #[.slice a len cap] w fun e w' => e = .returned (.tuple #[.pointer none, .pointer none, .agg #[.int .u64 0, .int .i64 0, .int .u64 0, .int .u64 0, .slice none 0 0]]) ∧ Fr (fun _ _ => True) w w' := by
  obtain ⟨W1, hW1⟩ : ∃ W, w.alloc (.cells #[.int .u64 0, .int .i64 0, .int .u64 0, .int .u64 0, .slice none 0 0] 68 (0, 0)) = W := ⟨_, rfl⟩
  have F1 : Hid (Fr (fun _ _ => True) w W1) := hW1 ▸ (Fr.refl _ _).alloc _
  have X1 : Hid (W1.heap[w.heap.size]? = some (.cells #[.int .u64 0, .int .i64 0, .int .u64 0, .int .u64 0, .slice none 0 0] 68 (0, 0))) := hW1 ▸ heap_alloc_new w _
  have SC := Lib.hid (short_calls W1 a len cap l ((h.fr (F1.out.mono fun _ _ _ => trivial))) hl 12 (by decide))
  rw [hs, show ((12 : Nat) : Int) = 12 from rfl] at SC
  clear h hl hs
  go_enter Tryd.func34, Tryd.ntmps34
  go_wp2_with fail
  try rw [hW1]
  clear hW1
  (with_reducible refine SC.out.mono ?_)
  rintro e v1 ⟨rfl, rfl⟩
  clear SC
  go_wp2_with fail
  (with_reducible refine (new_calls _ 20 _ (by decide) (by decide) (by decide)).mono ?_)
  rintro e w2 ⟨⟨bd, rfl, d1⟩, f1⟩
  have T2 := f1.keep _ _ X1.out trivial
  have F2 := Lib.hid (F1.out.trans f1)
  have p0 := cell_mk (i := 0) T2 rfl
  have p1 := cell_mk (i := 1) T2 rfl
  have p2 := cell_mk (i := 2) T2 rfl
  have p3 := cell_mk (i := 3) T2 rfl
  have p4 := cell_mk (i := 4) T2 rfl
  have y0 := frozen_mk (i := 0) T2
  have y1 := frozen_mk (i := 1) T2
  have y2 := frozen_mk (i := 2) T2
  have y3 := frozen_mk (i := 3) T2
  have y4 := frozen_mk (i := 4) T2
  obtain ⟨WZ, hWZ, TZ, FZ⟩ := set5 T2 (.int .u64 0) (.int .i64 0) (.int .u64 0) (.int .u64 0) (.slice none 0 0)
  have q0 := cell_mk (i := 0) TZ rfl
  have q1 := cell_mk (i := 1) TZ rfl
  have q2 := cell_mk (i := 2) TZ rfl
  have q3 := cell_mk (i := 3) TZ rfl
  have q4 := cell_mk (i := 4) TZ rfl
  have FZH := Lib.hid FZ
  clear d1 f1 T2 TZ FZ
  go_wp2
  try rw [hWZ]
  exact bodyPost_ret (v := .tuple #[.pointer none, .pointer none, .agg #[.int .u64 0, .int .i64 0, .int .u64 0, .int .u64 0, .slice none 0 0]]) (by simp [results, Tryd.results34, go_sem, *]) rfl ⟨rfl, Fr.within ((F2.out.mono fun _ _ _ => trivial).trans (FZH.out.mono fun c _ h e => by have := h.2; omega))⟩
theorem sd_new {n : Nat} {w w' : World} {bd : Nat} {D : Dk} (h : Dsk w' bd (fun b => w.heap.size ≤ b) D) (hn : n ≤ w.heap.size) : SD n (fun c => w.heap.size ≤ c ∧ c < w'.heap.size) w' bd D :=
  ⟨⟨_, h.inside, fun c h => ⟨⟨h.1, h.2⟩, h.2⟩⟩, fun c h => Nat.le_trans hn h.1, fun c h => h.2⟩
set_option maxRecDepth 100000 in
set_option maxHeartbeats 8000000 in
/-- made. -/
theorem made14_good {n : Nat} (w : World) (a : Option Addr) (len cap : Nat) (l : List OpK) (h : OpsK n w (.slice a len cap) l) (hl : l.length = len) (hs : shortK l 12 = true) (h0 : 0 < n) (hn : n ≤ w.heap.size) (ht : TabOK w) :
    Calls Tryd.prog 34 #[.slice a len cap] w fun e w' => (∃ bd bk X s0 sv sx sa sc, e = .returned (.tuple #[.pointer (some ⟨bd, 0, none⟩), .pointer (some ⟨bk, 0, none⟩), vS sv (.slice sa sx.length sc)]) ∧ KO n 12 181 X w' bk bd s0 ∧ SA n X w' sv (.slice sa sx.length sc) sx ∧ Took s0 sv) ∧ Fr (fun c _ => c < n) w w' := by
  obtain ⟨hlen, hshort⟩ : len ≤ 12 ∧ ∀ o ∈ l, o.xs.length ≤ 12 := by
    unfold shortK at hs
    simp only [Bool.and_eq_true, decide_eq_true_eq, List.all_eq_true] at hs
    exact ⟨by omega, hs.2⟩
  obtain ⟨gt, hgt⟩ : ∃ g, w.heap.size = g := ⟨_, rfl⟩
  obtain ⟨W1, hW1⟩ : ∃ W, w.alloc (.cells #[.int .u64 0, .int .i64 0, .int .u64 0, .int .u64 0, .slice none 0 0] 68 (0, 0)) = W := ⟨_, rfl⟩
  have F1 : Hid (Fr (fun _ _ => True) w W1) := hW1 ▸ (Fr.refl _ _).alloc _
  have X1 : Hid (W1.heap[gt]? = some (.cells #[.int .u64 0, .int .i64 0, .int .u64 0, .int .u64 0, .slice none 0 0] 68 (0, 0))) := hW1 ▸ hgt ▸ heap_alloc_new w _
  have SC := Lib.hid (short_calls W1 a len cap l ((h.fr (F1.out.mono fun _ _ _ => trivial))) hl 12 (by decide))
  rw [hs, show ((12 : Nat) : Int) = 12 from rfl] at SC
  have HO := Lib.hid h
  have HL := Lib.hid hl
  have HSH := Lib.hid hshort
  have HH0 := Lib.hid h0
  have HNT : Hid (n ≤ gt) := hgt ▸ hn
  have TT : Hid (∀ W, Fr (fun c _ => c < n) w W → TabOK W) := fun W f i hi => f.cell (fun _ _ => h0) (ht i hi)
  have FA1 : Hid (Fr (fun c _ => c < n) w W1) := F1.out.mono fun _ _ _ => trivial
  have HW1 : Hid (n ≤ W1.heap.size) := Nat.le_trans hn F1.out.size
  clear h hl hs hshort h0 hn ht
  go_enter Tryd.func34, Tryd.ntmps34
  go_wp2_with fail
  try rw [hW1]
  try rw [hgt]
  clear hW1
  (with_reducible refine SC.out.mono ?_)
  rintro e v1 ⟨rfl, rfl⟩
  clear SC
  go_wp2_with fail
  (with_reducible refine (new_calls _ 20 _ (by decide) (by decide) (by decide)).mono ?_)
  rintro e w2 ⟨⟨bd, rfl, d1⟩, f1⟩
  have S2 := sd_new d1 HW1.out
  have FA2 : Hid (Fr (fun c _ => c < n) w w2) := FA1.out.trans (f1.mono fun _ _ _ => trivial)
  have T2 := Lib.hid (f1.keep _ _ X1.out trivial)
  have KC : Hid (Calls Tryd.prog 36 #[.pointer (some ⟨bd, 0, none⟩), .int .i64 1, .int .i64 12] w2 fun e w' => ∃ bk X' xs a c, e = .returned (.tuple #[.pointer (some ⟨bk, 0, none⟩), .agg #[.int .u64 0, .int .i64 (-1), .int .u64 0, .int .u64 0, .slice a xs.length c], .int .i64 0]) ∧ KO n 12 1 X' w' bk bd zSta ∧ SA n X' w' zSta (.slice a xs.length c) xs ∧ Kp (fun c => W1.heap.size ≤ c ∧ c < w2.heap.size) X' w2 w') := kfirst_calls 12 (by decide) (by decide) S2 HH0.out (Nat.le_trans HW1.out f1.size) (TT.out _ FA2.out)
  have NP : ¬ (W1.heap.size ≤ gt ∧ gt < w2.heap.size) := by have := lt_of_some X1.out; omega
  have NPH := Lib.hid NP
  have LOW : Hid (∀ c, W1.heap.size ≤ c ∧ c < w2.heap.size → n ≤ c) := fun c hc => by have := HW1.out; omega
  clear d1 f1 S2 NP X1
  go_wp2_with fail
  (with_reducible refine KC.out.mono ?_)
  rintro e w3 ⟨bk, X3, xs3, a3, c3, rfl, ko3, sa3, kp3⟩
  have T3 := kp3.fr.keep _ _ T2.out NPH.out
  have NT3 : ¬ X3 gt := kp3.out _ (lt_of_some T2.out) NPH.out
  have FA3 : Hid (Fr (fun c _ => c < n) w w3) := FA2.out.trans (kp3.low LOW.out)
  obtain ⟨Wz, hWz⟩ : ∃ W, w3.alloc (.cells #[.int .u64 0, .int .i64 0, .int .u64 0, .int .u64 0, .slice none 0 0] 68 (0, 0)) = W := ⟨_, rfl⟩
  have FZ : Fr (fun _ _ => True) w3 Wz := hWz ▸ (Fr.refl _ _).alloc _
  have TZ : Wz.heap[w3.heap.size]? = some (.cells #[.int .u64 0, .int .i64 0, .int .u64 0, .int .u64 0, .slice none 0 0] 68 (0, 0)) := hWz ▸ heap_alloc_new w3 _
  obtain ⟨gs, hgs⟩ : ∃ g, w3.heap.size = g := ⟨_, rfl⟩
  rw [hgs] at TZ
  obtain ⟨l3, hl3⟩ : ∃ x, xs3.length = x := ⟨_, rfl⟩
  have p0 := cell_mk (i := 0) TZ rfl
  have p1 := cell_mk (i := 1) TZ rfl
  have p2 := cell_mk (i := 2) TZ rfl
  have p3 := cell_mk (i := 3) TZ rfl
  have p4 := cell_mk (i := 4) TZ rfl
  have y0 := frozen_mk (i := 0) TZ
  have y1 := frozen_mk (i := 1) TZ
  have y2 := frozen_mk (i := 2) TZ
  have y3 := frozen_mk (i := 3) TZ
  have y4 := frozen_mk (i := 4) TZ
  obtain ⟨W4, hW4, t4, g4⟩ := set5 TZ (.int .u64 0) (.int .i64 (-1)) (.int .u64 0) (.int .u64 0) (.slice a3 l3 c3)
  have F34 : Fr (fun _ _ => True) w3 W4 := Fr.within ((FZ.mono fun _ _ _ => trivial).trans (g4.mono fun c _ h e => by have := h.2; omega))
  have KO4 := Lib.hid (ko3.tt F34)
  have SA4 := Lib.hid (sa3.tt F34)
  have G4 : Hid (W4.heap[gs]? = some (.cells #[.int .u64 (zSta.term : Nat), .int .i64 zSta.vote, .int .u64 (zSta.base : Nat), .int .u64 (zSta.bt : Nat), .slice a3 xs3.length c3] 68 (0, 0))) := by
    show W4.heap[gs]? = _
    rw [hl3]
    exact t4
  have T4 := Lib.hid (F34.keep _ _ T3 trivial)
  have FA4 : Hid (Fr (fun c _ => c < n) w W4) := FA3.out.trans (F34.mono fun _ _ _ => trivial)
  have NX4 : Hid (¬ X3 gs ∧ ¬ X3 gt) := ⟨fun k => by have := ko3.hi _ k; omega, NT3⟩
  have GSN : Hid (n ≤ gs ∧ gt < gs) := by
    have := lt_of_some T3
    have := HNT.out
    exact ⟨by omega, by omega⟩
  have TK4 : Hid (Took zSta zSta) := .inl rfl
  clear KC ko3 sa3 kp3 T3 NT3 FZ TZ t4 g4 F34 T2 FA2 FA3 NPH LOW
  go_wp2
  try rw [hWz]
  try rw [hgs]
  try rw [hl3]
  try rw [hW4]
  clear hWz hgs hW4 p0 p1 p2 p3 p4 y0 y1 y2 y3 y4 hl3
  go_loopw [8, 11] (fun v8 v11 wr => ∃ (j bk : Nat) (X : Nat → Prop) (s0 sv : Sta) (sx : List EV) (sa : Option Addr) (sc : Nat), v8 = .pointer (some ⟨bk, 0, none⟩) ∧ v11 = .int .i64 j ∧ j ≤ len ∧ Hid (KO n 12 (1 + 15 * j) X wr bk bd s0) ∧ Hid (wr.heap[gs]? = some (.cells #[.int .u64 (sv.term : Nat), .int .i64 sv.vote, .int .u64 (sv.base : Nat), .int .u64 (sv.bt : Nat), .slice sa sx.length sc] 68 (0, 0))) ∧ Hid (SA n X wr sv (.slice sa sx.length sc) sx) ∧ Hid (Took s0 sv) ∧ Hid (wr.heap[gt]? = some (.cells #[.int .u64 0, .int .i64 0, .int .u64 0, .int .u64 0, .slice none 0 0] 68 (0, 0))) ∧ Hid (¬ X gs ∧ ¬ X gt) ∧ Hid (Fr (fun c _ => c < n) w wr)) (fun _ v11 _ => len - (intOf v11).toNat)
  case atStart => exact ⟨0, bk, X3, zSta, zSta, xs3, a3, c3, rfl, rfl, Nat.zero_le _, KO4, G4, SA4, TK4, T4, NX4, FA4⟩
  case round =>
    clear KO4 G4 SA4 TK4 T4 NX4 FA4
    obtain ⟨j, bk, X, s0, sv, sx, sa, sc, rfl, rfl, hj, HK, HG, HS, HTK, HT, HNX, HF⟩ := hrel
    by_cases hlt : j < len
    · have hltI : decide ((j : Int) < len) = true := by simp; omega
      have hltJ : (j : Int) < len := by omega
      have hjl : j < l.length := by have := HL.out; omega
      have OF : Hid (∀ W, Fr (fun c _ => c < n) w W → ∃ b off, a = some ⟨b, off, none⟩ ∧ W.cell? ⟨b, off + j * 8, none⟩ = some (.int .i64 l[j].q) ∧ W.cell? ⟨b, off + j * 8 + 2, none⟩ = some (.int .u64 (l[j].s.term : Nat)) ∧ W.cell? ⟨b, off + j * 8 + 3, none⟩ = some (.int .i64 l[j].s.vote) ∧ W.cell? ⟨b, off + j * 8 + 4, none⟩ = some (.int .u64 (l[j].s.base : Nat)) ∧ W.cell? ⟨b, off + j * 8 + 5, none⟩ = some (.int .u64 (l[j].s.bt : Nat)) ∧ W.cell? ⟨b, off + j * 8 + 6, none⟩ = some (.slice l[j].a l[j].xs.length l[j].c) ∧ W.cell? ⟨b, off + j * 8 + 7, none⟩ = some (.slice l[j].pa l[j].zs.length l[j].pc) ∧ l[j].Lies n W) := fun W f => by
        obtain ⟨b, off, e, f0, f1, f2, f3, f4, f5, f6, f7⟩ := (HO.out.fr f).at j hjl
        exact ⟨b, off, e, f0, f2, f3, f4, f5, f6, f7, ((HO.out.lies _ (List.getElem_mem hjl)).fr f)⟩
      have OX : Hid (l[j].xs.length ≤ 12) := HSH.out _ (List.getElem_mem hjl)
      generalize l[j] = o at OF OX
      obtain ⟨q, qk, os, oxs, oa, oc, pa, pc, zs⟩ := o
      obtain ⟨otm, ovo, oba, obt, oes⟩ := os
      dsimp only at OF OX
      obtain ⟨bo, off, hao, g0, g2, g3, g4, g5, g6, g7, hlies⟩ := OF.out wr HF.out
      have HLS := Lib.hid hlies
      have OG : Hid (∀ W, Fr (fun c _ => c < n) w W → W.cell? ⟨bo, off + j * 8 + 2, none⟩ = some (.int .u64 (otm : Nat)) ∧ W.cell? ⟨bo, off + j * 8 + 3, none⟩ = some (.int .i64 ovo) ∧ W.cell? ⟨bo, off + j * 8 + 4, none⟩ = some (.int .u64 (oba : Nat)) ∧ W.cell? ⟨bo, off + j * 8 + 5, none⟩ = some (.int .u64 (obt : Nat)) ∧ W.cell? ⟨bo, off + j * 8 + 6, none⟩ = some (.slice oa oxs.length oc) ∧ OpK.Lies n W ⟨q, qk, ⟨otm, ovo, oba, obt, oes⟩, oxs, oa, oc, pa, pc, zs⟩) := fun W f => by
        obtain ⟨b', off', h', e0, e2, e3, e4, e5, e6, e7, e8⟩ := OF.out W f
        have hh := hao.symm.trans h'
        cases hh
        exact ⟨e2, e3, e4, e5, e6, e8⟩
      obtain ⟨ol, hol⟩ : ∃ x, oxs.length = x := ⟨_, rfl⟩
      obtain ⟨zl, hzl⟩ : ∃ x, zs.length = x := ⟨_, rfl⟩
      rw [hol] at g6 OX OG
      rw [hzl] at g7
      have HOL := Lib.hid hol
      have HZL := Lib.hid hzl
      subst hao
      have HNW : Hid (n ≤ wr.heap.size) := by
        have := HF.out.size
        have := HNT.out
        show n ≤ _
        rw [← hgt] at this
        omega
      have HJ12 : Hid (j < 12) := by show _ < _; omega
      clear OF hlies hol hzl hjl
      by_cases q1 : q = 1
      · have d1 : (q == 1) = true := by simp [q1]
        have SC : Hid (Calls Tryd.prog 35 #[.pointer (some ⟨bk, 0, none⟩), .agg #[.int .u64 (otm : Nat), .int .i64 ovo, .int .u64 (oba : Nat), .int .u64 (obt : Nat), .slice oa ol oc]] wr fun e w' => ∃ c X' s1, e = .returned (.int .i64 c) ∧ KO n 12 (1 + 15 * (j + 1)) X' w' bk bd s1 ∧ Kp X X' wr w' ∧ ((c = 0 ∧ s1 = ⟨otm, ovo, oba, obt, oes⟩) ∨ (c ≠ 0 ∧ s1 = s0))) := by
          have hs1 := HLS.out.hs
          dsimp only at hs1
          rw [HOL.out] at hs1
          refine (ko_save (s := ⟨otm, ovo, oba, obt, oes⟩) HK.out HH0.out HNW.out (.slice oa ol oc) oxs (hs1.sa HK.out.lo) hs1.wf (TT.out _ HF.out) (by have := HOL.out; have := OX.out; omega) (by have := HJ12.out; omega)).mono fun e w' hh => ?_
          obtain ⟨c, X', s1, he, h1, h2, h3⟩ := hh
          refine ⟨c, X', s1, he, h1.mono (by omega), h2, ?_⟩
          rcases h3 with h3 | ⟨h3, h4⟩ | ⟨h3, h4, _⟩
          · exact .inl h3
          · exact .inr ⟨by omega, h4⟩
          · exact .inr ⟨by omega, h4⟩
        clear q1
        go_wp2_with fail
        (with_reducible refine SC.out.mono ?_)
        rintro e w5 ⟨cc, X5, s5, rfl, ko5, kp5, hcs⟩
        have KO5 := Lib.hid ko5
        have HF5 : Hid (Fr (fun c _ => c < n) w w5) := HF.out.trans (kp5.low HK.out.lo)
        have HT5 := Lib.hid (kp5.fr.keep _ _ HT.out HNX.out.2)
        have HG5 := Lib.hid (kp5.fr.keep _ _ HG.out HNX.out.1)
        have NX5 : Hid (¬ X5 gs ∧ ¬ X5 gt) := ⟨kp5.out _ (lt_of_some HG.out) HNX.out.1, kp5.out _ (lt_of_some HT.out) HNX.out.2⟩
        have SA5 := Lib.hid (HS.out.kp kp5)
        obtain ⟨c2, c3', c4', c5', c6', hl5⟩ := OG.out w5 HF5.out
        have HL5 := Lib.hid hl5
        clear ko5 kp5 SC g0 g2 g3 g4 g5 g6 g7 hl5
        by_cases hc : cc = 0
        · have hcb : (cc == 0) = true := by simp [hc]
          have h5 : Hid (s5 = ⟨otm, ovo, oba, obt, oes⟩) := by
            rcases hcs with h | h
            · exact h.2
            · exact absurd hc h.1
          clear hcs
          subst hc
          have p0 := cell_mk (i := 0) HG5.out rfl
          have p1 := cell_mk (i := 1) HG5.out rfl
          have p2 := cell_mk (i := 2) HG5.out rfl
          have p3 := cell_mk (i := 3) HG5.out rfl
          have p4 := cell_mk (i := 4) HG5.out rfl
          have y0 := frozen_mk (i := 0) HG5.out
          have y1 := frozen_mk (i := 1) HG5.out
          have y2 := frozen_mk (i := 2) HG5.out
          have y3 := frozen_mk (i := 3) HG5.out
          have y4 := frozen_mk (i := 4) HG5.out
          obtain ⟨W6, hW6, t6, g6'⟩ := set5 HG5.out (.int .u64 (otm : Nat)) (.int .i64 ovo) (.int .u64 (oba : Nat)) (.int .u64 (obt : Nat)) (.slice oa ol oc)
          have KO6 : Hid (KO n 12 (1 + 15 * (j + 1)) X5 W6 bk bd ⟨otm, ovo, oba, obt, oes⟩) := h5.out ▸ KO5.out.box HG5.out (by decide) GSN.out.1 NX5.out.1 g6'
          have HF6 : Hid (Fr (fun c _ => c < n) w W6) := HF5.out.trans (g6'.mono fun c _ h e => by have := GSN.out; omega)
          have HT6 := Lib.hid (g6'.keep _ _ HT5.out (by have := GSN.out; omega))
          have HG6 : Hid (W6.heap[gs]? = some (.cells #[.int .u64 (otm : Nat), .int .i64 ovo, .int .u64 (oba : Nat), .int .u64 (obt : Nat), .slice oa oxs.length oc] 68 (0, 0))) := by
            show W6.heap[gs]? = _
            rw [HOL.out]
            exact t6
          have SA6 : Hid (SA n X5 W6 ⟨otm, ovo, oba, obt, oes⟩ (.slice oa oxs.length oc) oxs) := (HL5.out.hs.fr (g6'.mono fun c _ h e => by have := GSN.out; omega)).sa KO6.out.lo
          clear t6 g6' KO5 HG5 HT5 SA5 HF5
          go_wp2
          try rw [hW6]
          go_roundw
          case rel => exact ⟨j + 1, bk, X5, ⟨otm, ovo, oba, obt, oes⟩, ⟨otm, ovo, oba, obt, oes⟩, oxs, oa, oc, rfl, by go_num, by omega, KO6, HG6, SA6, .inl rfl, HT6, NX5, HF6⟩
          case measure => simp [intOf]; omega
        · have hcb : (cc == 0) = false := by simp [hc]
          have h5 : s5 = s0 := by
            rcases hcs with h | h
            · exact absurd h.1 hc
            · exact h.2
          subst h5
          clear hcs hc
          go_wp2
          go_roundw
          case rel => exact ⟨j + 1, bk, X5, _, sv, sx, sa, sc, rfl, by go_num, by omega, KO5, HG5, SA5, HTK, HT5, NX5, HF5⟩
          case measure => simp [intOf]; omega
      · have d1 : (q == 1) = false := by simp [q1]
        by_cases q2 : q = 2
        · have d2 : (q == 2) = true := by simp [q2]
          have SC : Hid (Calls Tryd.prog 16 #[.pointer (some ⟨bd, 0, none⟩), .slice pa zl pc] wr fun e w' => e = .returned (.tuple #[]) ∧ ∃ X', KCr n 12 (1 + 15 * j) X' w' bd s0 ∧ Kp X X' wr w') := by
            have hp := HLS.out.hp
            dsimp only at hp
            rw [HZL.out] at hp
            exact ko_crash HK.out HNW.out pa zl pc zs hp fun c _ h k => by have := HK.out.lo c k; omega
          clear q1 q2
          go_wp2_with fail
          (with_reducible refine SC.out.mono ?_)
          rintro e w5 ⟨rfl, X5, kc5, kp5⟩
          have HF5 : Hid (Fr (fun c _ => c < n) w w5) := HF.out.trans (kp5.low HK.out.lo)
          have HT5 := Lib.hid (kp5.fr.keep _ _ HT.out HNX.out.2)
          have HG5 := Lib.hid (kp5.fr.keep _ _ HG.out HNX.out.1)
          have NX5 : Hid (¬ X5 gs ∧ ¬ X5 gt) := ⟨kp5.out _ (lt_of_some HG.out) HNX.out.1, kp5.out _ (lt_of_some HT.out) HNX.out.2⟩
          have OC := Lib.hid (kc_open kc5 HH0.out (Nat.le_trans HNW.out kp5.fr.size) (TT.out _ HF5.out) (by have := HJ12.out; omega))
          rw [show ((12 : Nat) : Int) = 12 from rfl] at OC
          have LO5 := Lib.hid kc5.lo
          clear kc5 kp5 SC g0 g2 g3 g4 g5 g6 g7
          obtain ⟨rtm, hrtm⟩ : ∃ x, (raise s0).term = x := ⟨_, rfl⟩
          obtain ⟨rvo, hrvo⟩ : ∃ x, (raise s0).vote = x := ⟨_, rfl⟩
          obtain ⟨rba, hrba⟩ : ∃ x, (raise s0).base = x := ⟨_, rfl⟩
          obtain ⟨rbt, hrbt⟩ : ∃ x, (raise s0).bt = x := ⟨_, rfl⟩
          unfold vS at OC
          rw [hrtm, hrvo, hrba, hrbt] at OC
          go_wp2_with fail
          (with_reducible refine OC.out.mono ?_)
          rintro e w6 ⟨bk6, X6, xs6, a6, c6, rfl, ko6, sa6, kp6⟩
          have HF6 : Hid (Fr (fun c _ => c < n) w w6) := HF5.out.trans (kp6.low LO5.out)
          have HT6 := Lib.hid (kp6.fr.keep _ _ HT5.out NX5.out.2)
          have HG6 := Lib.hid (kp6.fr.keep _ _ HG5.out NX5.out.1)
          have NX6 : Hid (¬ X6 gs ∧ ¬ X6 gt) := ⟨kp6.out _ (lt_of_some HG5.out) NX5.out.1, kp6.out _ (lt_of_some HT5.out) NX5.out.2⟩
          obtain ⟨l6, hl6⟩ : ∃ x, xs6.length = x := ⟨_, rfl⟩
          have p0 := cell_mk (i := 0) HG6.out rfl
          have p1 := cell_mk (i := 1) HG6.out rfl
          have p2 := cell_mk (i := 2) HG6.out rfl
          have p3 := cell_mk (i := 3) HG6.out rfl
          have p4 := cell_mk (i := 4) HG6.out rfl
          have y0 := frozen_mk (i := 0) HG6.out
          have y1 := frozen_mk (i := 1) HG6.out
          have y2 := frozen_mk (i := 2) HG6.out
          have y3 := frozen_mk (i := 3) HG6.out
          have y4 := frozen_mk (i := 4) HG6.out
          obtain ⟨W7, hW7, t7, g7⟩ := set5 HG6.out (.int .u64 (rtm : Nat)) (.int .i64 rvo) (.int .u64 (rba : Nat)) (.int .u64 (rbt : Nat)) (.slice a6 l6 c6)
          have KO7 : Hid (KO n 12 (1 + 15 * (j + 1)) X6 W7 bk6 bd s0) := (ko6.box HG6.out (by decide) GSN.out.1 NX6.out.1 g7).mono (by omega)
          have HF7 : Hid (Fr (fun c _ => c < n) w W7) := HF6.out.trans (g7.mono fun c _ h e => by have := GSN.out; omega)
          have HT7 := Lib.hid (g7.keep _ _ HT6.out (by have := GSN.out; omega))
          have HG7 : Hid (W7.heap[gs]? = some (.cells #[.int .u64 ((raise s0).term : Nat), .int .i64 (raise s0).vote, .int .u64 ((raise s0).base : Nat), .int .u64 ((raise s0).bt : Nat), .slice a6 xs6.length c6] 68 (0, 0))) := by
            show W7.heap[gs]? = _
            rw [hl6, hrtm, hrvo, hrba, hrbt]
            exact t7
          have SA7 : Hid (SA n X6 W7 (raise s0) (.slice a6 xs6.length c6) xs6) := sa6.box HG6.out (by decide) (by decide) GSN.out.1 g7
          clear t7 g7 ko6 sa6 kp6 HG5 HT5 HF5 HG6 HT6 HF6 hrtm hrvo hrba hrbt
          go_wp2
          try rw [hl6]
          try rw [hW7]
          go_roundw
          case rel => exact ⟨j + 1, bk6, X6, s0, raise s0, xs6, a6, c6, rfl, by go_num, by omega, KO7, HG7, SA7, .inr rfl, HT7, NX6, HF7⟩
          case measure => simp [intOf]; omega
        · have d2 : (q == 2) = false := by simp [q2]
          clear q1 q2
          have HK2 : Hid (KO n 12 (1 + 15 * (j + 1)) X wr bk bd s0) := HK.out.mono (by omega)
          go_wp2
          go_roundw
          case rel => exact ⟨j + 1, bk, X, s0, sv, sx, sa, sc, rfl, by go_num, by omega, HK2, HG, HS, HTK, HT, HNX, HF⟩
          case measure => simp [intOf]; omega
    · have hltI : decide ((j : Int) < len) = false := by simp; omega
      have hltJ : (len : Int) ≤ j := by omega
      have HK2 : Hid (KO n 12 181 X wr bk bd s0) := HK.out.mono (by omega)
      obtain ⟨tm, vo, ba, bt, es⟩ := sv
      dsimp only at HG
      obtain ⟨xl, hxl⟩ : ∃ x, sx.length = x := ⟨_, rfl⟩
      rw [hxl] at HG
      have HXL := Lib.hid hxl
      have CF : Hid (∀ W, Fr (fun c _ => c ≠ gt) wr W → W.cell? ⟨gs, 0, none⟩ = some (.int .u64 (tm : Nat)) ∧ W.cell? ⟨gs, 1, none⟩ = some (.int .i64 vo) ∧ W.cell? ⟨gs, 2, none⟩ = some (.int .u64 (ba : Nat)) ∧ W.cell? ⟨gs, 3, none⟩ = some (.int .u64 (bt : Nat)) ∧ W.cell? ⟨gs, 4, none⟩ = some (.slice sa xl sc)) := fun W f => by
        have t := f.keep _ _ HG.out (by have := GSN.out; omega)
        exact ⟨cell_mk t rfl, cell_mk t rfl, cell_mk t rfl, cell_mk t rfl, cell_mk t rfl⟩
      have p0 := cell_mk (i := 0) HT.out rfl
      have p1 := cell_mk (i := 1) HT.out rfl
      have p2 := cell_mk (i := 2) HT.out rfl
      have p3 := cell_mk (i := 3) HT.out rfl
      have p4 := cell_mk (i := 4) HT.out rfl
      have y0 := frozen_mk (i := 0) HT.out
      have y1 := frozen_mk (i := 1) HT.out
      have y2 := frozen_mk (i := 2) HT.out
      have y3 := frozen_mk (i := 3) HT.out
      have y4 := frozen_mk (i := 4) HT.out
      have UF : Hid (Fr (fun c _ => c ≠ gt) wr wr.drew) := (Fr.refl _ _).drew
      obtain ⟨WZ, hWZ, tZ, fZ⟩ := set5 HT.out (.int .u64 (tm : Nat)) (.int .i64 vo) (.int .u64 (ba : Nat)) (.int .u64 (bt : Nat)) (.slice sa xl sc)
      have FZ := Lib.hid fZ
      have TZ := Lib.hid tZ
      clear tZ fZ hxl
      go_upto_region 19 with fail
      go_region_held3 (fun W => W.cell? ⟨gs, 0, none⟩ = some (.int .u64 (tm : Nat)) ∧ W.cell? ⟨gs, 1, none⟩ = some (.int .i64 vo) ∧ W.cell? ⟨gs, 2, none⟩ = some (.int .u64 (ba : Nat)) ∧ W.cell? ⟨gs, 3, none⟩ = some (.int .u64 (bt : Nat)) ∧ W.cell? ⟨gs, 4, none⟩ = some (.slice sa xl sc))
        (first | exact CF.out _ UF.out | exact CF.out _ FZ.out.drew | exact CF.out _ (((((UF.out.setCell (fun _ _ h => h rfl) _).setCell (fun _ _ h => h rfl) _).setCell (fun _ _ h => h rfl) _).setCell (fun _ _ h => h rfl) _).setCell (fun _ _ h => h rfl) _))
        (fail)
      all_goals
        have r0 := cell_mk (i := 0) TZ.out rfl
        have r1 := cell_mk (i := 1) TZ.out rfl
        have r2 := cell_mk (i := 2) TZ.out rfl
        have r3 := cell_mk (i := 3) TZ.out rfl
        have r4 := cell_mk (i := 4) TZ.out rfl
        try rw [hWZ]
        clear p0 p1 p2 p3 p4 y0 y1 y2 y3 y4 CF
        go_wp2
        try rw [hWZ]
        refine bodyPost_ret (v := .tuple #[.pointer (some ⟨bd, 0, none⟩), .pointer (some ⟨bk, 0, none⟩), .agg #[.int .u64 (tm : Nat), .int .i64 vo, .int .u64 (ba : Nat), .int .u64 (bt : Nat), .slice sa xl sc]]) (by simp [results, Tryd.results34, go_sem, *]) rfl ?_
        try rw [hWZ]
        refine ⟨⟨bd, bk, X, s0, ⟨tm, vo, ba, bt, es⟩, sx, sa, sc, by rw [HXL.out]; rfl, (HK2.out.box HT.out (by decide) HNT.out HNX.out.2 FZ.out).tt ((Fr.refl _ _).drew), (HS.out.box HT.out (by decide) (by decide) HNT.out FZ.out).tt ((Fr.refl _ _).drew), HTK.out⟩, (HF.out.trans (FZ.out.mono fun c _ h e => by have := HNT.out; omega)).drew⟩
end Go.Proofs.YtcpbmempfeloaaaDoor
/- Law 14: awake. -/
namespace Go.Proofs.YtcpbmempfeloaaaDoor
open Go.RowKit
set_option linter.unusedVariables false
set_option linter.unusedSimpArgs false

/-- A save of what may be saved. -/
theorem ko_saves {n m q : Nat} {X : Nat → Prop} {w : World} {bk bd : Nat} {s0 s : Sta} (h : KO n m q X w bk bd s0) (h0 : 0 < n) (hn : n ≤ w.heap.size) (v : Value) (xs : List EV) (hs : SA n X w s v xs) (hw : s.wf) (ht : TabOK w) (hl : xs.length ≤ 9223372036854775807) (hq : q + m + 8 < 250) (hr : s.right = true) (hb : s0.base ≤ s.base) (hm : s.es.length ≤ m) :
    Calls Tryd.prog 35 #[.pointer (some ⟨bk, 0, none⟩), vS s v] w fun e w' => ∃ X', e = .returned (.int .i64 0) ∧ KO n m (q + m + 3) X' w' bk bd s ∧ Kp X X' w w' := by
  obtain ⟨P, bj, K, J, D, a4, c4, hv, rs, q', h1, h2, h3⟩ := h
  have hm := h2.kb.ji.n17
  have hp := h2.kb.ji.pend
  have hrl : rs.length = K.held.length := by rw [← h1.rc, List.length_map]
  have hr3 := h2.recs_ok.2.2
  refine (ksave_calls h1 h0 hn s v xs hs hw ht (by rw [hp]; show (0 : Nat) < _; decide) hl (by omega) (by omega)).mono fun e w' hh => ?_
  obtain ⟨he, X', P', a4', c4', hv', rs', g1, g2⟩ := hh
  obtain ⟨K', J', D', e1, e2⟩ := h2.save (s := s) hr hw hb ‹_› (by omega)
  rw [e1] at he g1
  exact ⟨X', he, ⟨P', bj, K', J', D', a4', c4', hv', rs', _, g1, e2, by omega⟩, g2⟩
theorem Kp.box {X X' : Nat → Prop} {w w' : World} (k : Kp X X' w w') {g : Nat} {o : Obj} (h : w.heap[g]? = some o) (hx : ¬ X g) : w'.heap[g]? = some o ∧ ¬ X' g := ⟨k.fr.keep _ _ h hx, k.out _ (lt_of_some h) hx⟩
def sOne : Sta := ⟨3, 2, 0, 0, [⟨3, 1, [97]⟩]⟩
def sTwo : Sta := ⟨4, -1, 0, 0, [⟨4, 1, [98]⟩]⟩
/-- A box that holds a state. -/
def boxS (t v b bt : Int) (a : Option Addr) (l c : Nat) : Obj := .cells #[.int .u64 t, .int .i64 v, .int .u64 b, .int .u64 bt, .slice a l c] 68 (0, 0)
theorem size_allocK (w : World) (o : Obj) : (w.alloc o).heap.size = w.heap.size + 1 := by simp
/-- A literal of one entry. -/
theorem lit_sa {n : Nat} {X : Nat → Prop} {w V1 V2 : World} {s : Sta} {t : Nat} {k z : Int} {u : UInt8} (hz : z = u.toNat) (h1 : w.alloc (.cells #[.int .u8 z] 5 (0, 0)) = V1) (h2 : V1.alloc (.cells #[.int .u64 (t : Nat), .int .i64 k, .slice (some ⟨w.heap.size, 0, none⟩) 1 1] 128 (0, 0)) = V2) (hX : ∀ c, X c → c < w.heap.size) (hs : s.es = [⟨t, k, [u]⟩]) :
    SA n X V2 s (.slice (some ⟨w.heap.size + 1, 0, none⟩) 1 1) [⟨t, k, some ⟨w.heap.size, 0, none⟩, 1, [u]⟩] := by
  have z1 : V1.heap.size = w.heap.size + 1 := by rw [← h1, size_allocK]
  have t1 : V1.heap[w.heap.size]? = some (.cells #[.int .u8 z] 5 (0, 0)) := h1 ▸ heap_alloc_new w _
  have f2 : Fr (fun _ _ => True) V1 V2 := h2 ▸ (Fr.refl _ _).alloc _
  have t2 : V2.heap[w.heap.size + 1]? = some (.cells #[.int .u64 (t : Nat), .int .i64 k, .slice (some ⟨w.heap.size, 0, none⟩) 1 1] 128 (0, 0)) := z1 ▸ h2 ▸ heap_alloc_new V1 _
  have t3 := f2.keep _ _ t1 trivial
  refine ⟨⟨_, 1, rfl, Nat.le_refl _, .inr ⟨_, 0, _, rfl, t2, ⟨fun k => by have := hX _ k; omega, .inr ⟨_, _, rfl⟩⟩, fun i hi j v hv => ?_⟩⟩, by rw [hs]; rfl, fun x hx => ?_⟩
  · obtain rfl : i = 0 := by simp at hi; omega
    have hj : j < 3 := (List.getElem?_eq_some_iff.1 hv).1
    rcases j with _ | _ | _ | j
    · cases hv; exact cell_mk t2 rfl
    · cases hv; exact cell_mk t2 rfl
    · cases hv; exact cell_mk t2 rfl
    · omega
  · rw [List.mem_singleton.1 hx]
    refine ⟨some ⟨w.heap.size, 0, none⟩, 1, rfl, Nat.le_refl _, (fun e => by cases e), .inr ⟨w.heap.size, 0, _, rfl, t3, ⟨fun k => by have := hX _ k; omega, .inr ⟨_, _, rfl⟩⟩, fun i hi => ?_⟩⟩
    obtain rfl : i = 0 := by simp at hi; omega
    rw [hz] at t3
    exact cell_mk t3 rfl
/-- same, of two states that lie so. -/
theorem same_sa {n m : Nat} {X Y : Nat → Prop} {w : World} {s t : Sta} {a1 a2 : Option Addr} {n1 n2 c1 c2 : Nat} {A B : List EV} (hA : SA n X w s (.slice a1 n1 c1) A) (hB : SA m Y w t (.slice a2 n2 c2) B) (hd : ∀ e ∈ s.es, e.d.length ≤ 140737488355328) (hl : A.length ≤ 1000000) :
    Calls Tryd.prog 39 #[vS s (.slice a1 n1 c1), vS t (.slice a2 n2 c2)] w fun e w' => e = .returned (.bool (decide (s = t))) ∧ Fr (fun _ _ => True) w w' :=
  ssame_calls w s t a1 a2 n1 n2 c1 c2 A B hA.rows hB.rows hA.es hB.es (fun x hx => ⟨hA.dat x hx, hd x.en (by rw [hA.es]; exact List.mem_map_of_mem hx)⟩) hB.dat hl
theorem SA.nilS (n : Nat) (X : Nat → Prop) (w : World) (s : Sta) (h : s.es = []) : SA n X w s (.slice none 0 0) [] := ⟨RowsAt.nil _ _ _ _, by rw [h]; rfl, fun x hx => by cases hx⟩
set_option maxRecDepth 100000 in
set_option maxHeartbeats 4000000 in
theorem awake14 (W : World) (ht : TabOK W) : Calls Tryd.prog 33 #[] W fun e w' => e = .returned (.bool true) ∧ Fr (fun _ _ => True) W w' := by
  have h0 : 0 < W.heap.size := by have := cell_lt (ht 0 (by decide)); simpa using this
  obtain ⟨n, hnW⟩ : ∃ n, W.heap.size = n := ⟨_, rfl⟩
  rw [hnW] at h0
  have HH0 := Lib.hid h0
  have TT : Hid (∀ w', Fr (fun c _ => c < n) W w' → TabOK w') := fun w' f i hi => f.cell (fun _ _ => h0) (ht i hi)
  have OUT : Hid (∀ w', Fr (fun c _ => c < n) W w' → Fr (fun _ _ => True) W w') := fun w' f => by rw [← hnW] at f; exact Fr.within (f.mono fun c _ h => h.2)
  have HNW := Lib.hid hnW
  clear ht h0 hnW
  go_enter Tryd.func33, Tryd.ntmps33
  go_wp2_with fail
  (with_reducible refine (new_calls _ 20 _ (by decide) (by decide) (by decide)).mono ?_)
  rintro e w1 ⟨⟨bd, rfl, d1⟩, f1⟩
  have S1 : SD n (fun c => W.heap.size ≤ c ∧ c < w1.heap.size) w1 bd (Dk.new 20) := sd_new d1 (Nat.le_of_eq HNW.out.symm)
  have F1 : Hid (Fr (fun c _ => c < n) W w1) := f1.mono fun _ _ _ => trivial
  have N1 : Hid (n ≤ w1.heap.size) := HNW.out ▸ f1.size
  have LOW : Hid (∀ c, W.heap.size ≤ c ∧ c < w1.heap.size → n ≤ c) := fun c hc => by have := HNW.out; omega
  have KC : Hid (Calls Tryd.prog 36 #[.pointer (some ⟨bd, 0, none⟩), .int .i64 1, .int .i64 10] w1 fun e w' => ∃ bk X' xs a c, e = .returned (.tuple #[.pointer (some ⟨bk, 0, none⟩), .agg #[.int .u64 0, .int .i64 (-1), .int .u64 0, .int .u64 0, .slice a xs.length c], .int .i64 0]) ∧ KO n 10 1 X' w' bk bd zSta ∧ SA n X' w' zSta (.slice a xs.length c) xs ∧ Kp (fun c => W.heap.size ≤ c ∧ c < w1.heap.size) X' w1 w') := kfirst_calls 10 (by decide) (by decide) S1 HH0.out N1.out (TT.out _ F1.out)
  clear d1 f1 S1
  go_wp2_with fail
  (with_reducible refine KC.out.mono ?_)
  rintro e w2 ⟨bk, X2, xs2, a2, c2, rfl, ko2, sa2, kp2⟩
  have F2 : Hid (Fr (fun c _ => c < n) W w2) := F1.out.trans (kp2.low LOW.out)
  have KO2 := Lib.hid ko2
  have SA2 := Lib.hid sa2
  have N2 : Hid (n ≤ w2.heap.size) := Nat.le_trans N1.out kp2.fr.size
  clear KC ko2 sa2 kp2 LOW
  obtain ⟨l2, hl2⟩ : ∃ x, xs2.length = x := ⟨_, rfl⟩
  have RO : raise sOne = sOne := by decide
  have RT : raise sTwo = sTwo := by decide
  obtain ⟨V1, hV1⟩ : ∃ V, w2.alloc (.cells #[.int .u64 0, .int .i64 (-1), .int .u64 0, .int .u64 0, .slice a2 l2 c2] 68 (0, 0)) = V := ⟨_, rfl⟩
  obtain ⟨V2, hV2⟩ : ∃ V, V1.alloc (.cells #[.int .u8 97] 5 (0, 0)) = V := ⟨_, rfl⟩
  obtain ⟨V3, hV3⟩ : ∃ V, V2.alloc (.cells #[.int .u64 3, .int .i64 1, .slice (some ⟨w2.heap.size + 1, 0, none⟩) 1 1] 128 (0, 0)) = V := ⟨_, rfl⟩
  obtain ⟨V4, hV4⟩ : ∃ V, V3.alloc (.cells #[.int .u64 3, .int .i64 2, .int .u64 0, .int .u64 0, .slice (some ⟨w2.heap.size + 1 + 1, 0, none⟩) 1 1] 68 (0, 0)) = V := ⟨_, rfl⟩
  obtain ⟨V5, hV5⟩ : ∃ V, V4.alloc (.cells #[.int .u8 98] 5 (0, 0)) = V := ⟨_, rfl⟩
  obtain ⟨V6, hV6⟩ : ∃ V, V5.alloc (.cells #[.int .u64 4, .int .i64 1, .slice (some ⟨w2.heap.size + 1 + 1 + 1 + 1, 0, none⟩) 1 1] 128 (0, 0)) = V := ⟨_, rfl⟩
  obtain ⟨V7, hV7⟩ : ∃ V, V6.alloc (.cells #[.int .u64 4, .int .i64 (-1), .int .u64 0, .int .u64 0, .slice (some ⟨w2.heap.size + 1 + 1 + 1 + 1 + 1, 0, none⟩) 1 1] 68 (0, 0)) = V := ⟨_, rfl⟩
  have z1 : V1.heap.size = w2.heap.size + 1 := by rw [← hV1, size_allocK]
  have z2 : V2.heap.size = w2.heap.size + 1 + 1 := by rw [← hV2, size_allocK, z1]
  have z3 : V3.heap.size = w2.heap.size + 1 + 1 + 1 := by rw [← hV3, size_allocK, z2]
  have z4 : V4.heap.size = w2.heap.size + 1 + 1 + 1 + 1 := by rw [← hV4, size_allocK, z3]
  have z5 : V5.heap.size = w2.heap.size + 1 + 1 + 1 + 1 + 1 := by rw [← hV5, size_allocK, z4]
  have z6 : V6.heap.size = w2.heap.size + 1 + 1 + 1 + 1 + 1 + 1 := by rw [← hV6, size_allocK, z5]
  have e1 : Fr (fun _ _ => True) w2 V1 := hV1 ▸ (Fr.refl _ _).alloc _
  have e2 : Fr (fun _ _ => True) V1 V2 := hV2 ▸ (Fr.refl _ _).alloc _
  have e3 : Fr (fun _ _ => True) V2 V3 := hV3 ▸ (Fr.refl _ _).alloc _
  have e4 : Fr (fun _ _ => True) V3 V4 := hV4 ▸ (Fr.refl _ _).alloc _
  have e5 : Fr (fun _ _ => True) V4 V5 := hV5 ▸ (Fr.refl _ _).alloc _
  have e6 : Fr (fun _ _ => True) V5 V6 := hV6 ▸ (Fr.refl _ _).alloc _
  have e7 : Fr (fun _ _ => True) V6 V7 := hV7 ▸ (Fr.refl _ _).alloc _
  have hiX := KO2.out.hi
  have SO := Lib.hid ((lit_sa (n := n) (X := X2) (s := sOne) (t := 3) (k := 1) (u := 97) rfl hV2 (z1 ▸ hV3) (fun c k => by have := hiX c k; omega) rfl).tt (e4.trans (e5.trans (e6.trans e7))))
  have ST := Lib.hid ((lit_sa (n := n) (X := X2) (s := sTwo) (t := 4) (k := 1) (u := 98) rfl hV5 (z4 ▸ hV6) (fun c k => by have := hiX c k; omega) rfl).tt e7)
  rw [z1] at SO
  rw [z4] at ST
  have B1 : V7.heap[w2.heap.size]? = some (boxS 0 (-1) 0 0 a2 xs2.length c2) := (e2.trans (e3.trans (e4.trans (e5.trans (e6.trans e7))))).keep _ _ (by rw [hl2]; exact hV1 ▸ heap_alloc_new w2 _) trivial
  have B2 : V7.heap[w2.heap.size + 1 + 1 + 1]? = some (boxS 3 2 0 0 (some ⟨w2.heap.size + 1 + 1, 0, none⟩) 1 1) := (e5.trans (e6.trans e7)).keep _ _ (z3 ▸ hV4 ▸ heap_alloc_new V3 _) trivial
  have B3 : V7.heap[w2.heap.size + 1 + 1 + 1 + 1 + 1 + 1]? = some (boxS 4 (-1) 0 0 (some ⟨w2.heap.size + 1 + 1 + 1 + 1 + 1, 0, none⟩) 1 1) := z6 ▸ hV7 ▸ heap_alloc_new V6 _
  have F27 := e1.trans (e2.trans (e3.trans (e4.trans (e5.trans (e6.trans e7)))))
  have F7 : Hid (Fr (fun c _ => c < n) W V7) := F2.out.trans (F27.mono fun _ _ _ => trivial)
  have KO7 := Lib.hid (KO2.out.tt F27)
  have SA7 := Lib.hid (SA2.out.tt F27)
  have N7 : Hid (n ≤ V7.heap.size) := Nat.le_trans N2.out F27.size
  have BB1 : Hid (V7.heap[w2.heap.size]? = some (boxS 0 (-1) 0 0 a2 xs2.length c2) ∧ ¬ X2 w2.heap.size) := ⟨B1, fun k => by have := hiX _ k; omega⟩
  have BB2 : Hid (V7.heap[w2.heap.size + 1 + 1 + 1]? = some (boxS 3 2 0 0 (some ⟨w2.heap.size + 1 + 1, 0, none⟩) 1 1) ∧ ¬ X2 (w2.heap.size + 1 + 1 + 1)) := ⟨B2, fun k => by have := hiX _ k; omega⟩
  have BB3 : Hid (V7.heap[w2.heap.size + 1 + 1 + 1 + 1 + 1 + 1]? = some (boxS 4 (-1) 0 0 (some ⟨w2.heap.size + 1 + 1 + 1 + 1 + 1, 0, none⟩) 1 1) ∧ ¬ X2 (w2.heap.size + 1 + 1 + 1 + 1 + 1 + 1)) := ⟨B3, fun k => by have := hiX _ k; omega⟩
  have SC : Hid (Calls Tryd.prog 35 #[.pointer (some ⟨bk, 0, none⟩), .agg #[.int .u64 3, .int .i64 2, .int .u64 0, .int .u64 0, .slice (some ⟨w2.heap.size + 1 + 1, 0, none⟩) 1 1]] V7 fun e w' => ∃ X', e = .returned (.int .i64 0) ∧ KO n 10 14 X' w' bk bd sOne ∧ Kp X2 X' V7 w') := ko_saves KO7.out HH0.out N7.out _ _ SO.out (by unfold Sta.wf sOne; decide) (TT.out _ F7.out) (by show 1 ≤ 9223372036854775807; decide) (by decide) (by decide) (by decide) (by decide)
  clear e1 e2 e3 e4 e5 e6 e7 F27 B1 B2 B3 hiX z1 z2 z3 z4 z5 z6 SA2 KO2
  have HV1 := Lib.hid hV1
  have HV2 := Lib.hid hV2
  have HV3 := Lib.hid hV3
  have HV4 := Lib.hid hV4
  have HV5 := Lib.hid hV5
  have HV6 := Lib.hid hV6
  have HV7 := Lib.hid hV7
  clear hV1 hV2 hV3 hV4 hV5 hV6 hV7
  go_upto_region 9 with fail
  rw [HV1.out, HV2.out, HV3.out, HV4.out, HV5.out, HV6.out, HV7.out]
  clear HV1 HV2 HV3 HV4 HV5 HV6 HV7
  obtain ⟨g1, hg1⟩ : ∃ g, w2.heap.size = g := ⟨_, rfl⟩
  rw [hg1] at SC BB1 BB2 BB3 SO ST ⊢
  have p0 := cell_mk (i := 0) BB2.out.1 rfl
  have p1 := cell_mk (i := 1) BB2.out.1 rfl
  have p2 := cell_mk (i := 2) BB2.out.1 rfl
  have p3 := cell_mk (i := 3) BB2.out.1 rfl
  have p4 := cell_mk (i := 4) BB2.out.1 rfl
  go_wp2_with fail
  clear hg1
  (with_reducible refine SC.out.mono ?_)
  rintro e w8 ⟨X8, rfl, ko8, kp8⟩
  have KO8 := Lib.hid ko8
  have F8 : Hid (Fr (fun c _ => c < n) W w8) := F7.out.trans (kp8.low KO7.out.lo)
  have N8 : Hid (n ≤ w8.heap.size) := Nat.le_trans N7.out kp8.fr.size
  replace BB1 := Lib.hid (kp8.box BB1.out.1 BB1.out.2)
  replace BB2 := Lib.hid (kp8.box BB2.out.1 BB2.out.2)
  replace BB3 := Lib.hid (kp8.box BB3.out.1 BB3.out.2)
  replace SO := Lib.hid (SO.out.kp kp8)
  replace ST := Lib.hid (ST.out.kp kp8)
  replace SA7 := Lib.hid (SA7.out.kp kp8)
  have CC : Hid (Calls Tryd.prog 16 #[.pointer (some ⟨bd, 0, none⟩), .slice none 0 0] w8 fun e w' => e = .returned (.tuple #[]) ∧ ∃ X', KCr n 10 14 X' w' bd sOne ∧ Kp X8 X' w8 w') := ko_crash (K' := fun _ _ => False) KO8.out N8.out none 0 0 [] ⟨none, 0, rfl, .inl rfl⟩ fun c o h => h.elim
  clear SC ko8 kp8 KO7 p0 p1 p2 p3 p4
  go_wp2_with fail
  (with_reducible refine CC.out.mono ?_)
  rintro e w9 ⟨rfl, X9, kc9, kp9⟩
  have F9 : Hid (Fr (fun c _ => c < n) W w9) := F8.out.trans (kp9.low KO8.out.lo)
  have N9 : Hid (n ≤ w9.heap.size) := Nat.le_trans N8.out kp9.fr.size
  replace BB1 := Lib.hid (kp9.box BB1.out.1 BB1.out.2)
  replace BB2 := Lib.hid (kp9.box BB2.out.1 BB2.out.2)
  replace BB3 := Lib.hid (kp9.box BB3.out.1 BB3.out.2)
  replace SO := Lib.hid (SO.out.kp kp9)
  replace ST := Lib.hid (ST.out.kp kp9)
  replace SA7 := Lib.hid (SA7.out.kp kp9)
  have OC : Hid (Calls Tryd.prog 36 #[.pointer (some ⟨bd, 0, none⟩), .int .i64 1, .int .i64 10] w9 fun e w' => ∃ bk X' xs a c, e = .returned (.tuple #[.pointer (some ⟨bk, 0, none⟩), .agg #[.int .u64 3, .int .i64 2, .int .u64 0, .int .u64 0, .slice a xs.length c], .int .i64 0]) ∧ KO n 10 15 X' w' bk bd sOne ∧ SA n X' w' sOne (.slice a xs.length c) xs ∧ Kp X9 X' w9 w') := by
    have k := kc_open kc9 HH0.out N9.out (TT.out _ F9.out) (by decide)
    rw [RO] at k
    exact k
  have LO9 := Lib.hid kc9.lo
  clear CC kc9 kp9 KO8
  go_wp2_with fail
  (with_reducible refine OC.out.mono ?_)
  rintro e w10 ⟨bk2, X10, xsO, aO, cO, rfl, ko10, sa10, kp10⟩
  have F10 : Hid (Fr (fun c _ => c < n) W w10) := F9.out.trans (kp10.low LO9.out)
  have N10 : Hid (n ≤ w10.heap.size) := Nat.le_trans N9.out kp10.fr.size
  replace BB1 := Lib.hid (kp10.box BB1.out.1 BB1.out.2)
  replace BB2 := Lib.hid (kp10.box BB2.out.1 BB2.out.2)
  replace BB3 := Lib.hid (kp10.box BB3.out.1 BB3.out.2)
  replace SO := Lib.hid (SO.out.kp kp10)
  replace ST := Lib.hid (ST.out.kp kp10)
  replace SA7 := Lib.hid (SA7.out.kp kp10)
  obtain ⟨lg4, hlg4⟩ : ∃ x, xsO.length = x := ⟨_, rfl⟩
  obtain ⟨V11, hV11⟩ : ∃ V, w10.alloc (.cells #[.int .u64 3, .int .i64 2, .int .u64 0, .int .u64 0, .slice aO lg4 cO] 68 (0, 0)) = V := ⟨_, rfl⟩
  have eV11 : Fr (fun _ _ => True) w10 V11 := hV11 ▸ (Fr.refl _ _).alloc _
  have BB4 : Hid (V11.heap[w10.heap.size]? = some (boxS 3 2 0 0 aO xsO.length cO) ∧ ¬ X10 w10.heap.size) := ⟨by rw [hlg4]; exact hV11 ▸ heap_alloc_new w10 _, fun k => by have := ko10.hi _ k; omega⟩
  have FV11 : Hid (Fr (fun c _ => c < n) W V11) := F10.out.trans (eV11.mono fun _ _ _ => trivial)
  have NV11 : Hid (n ≤ V11.heap.size) := Nat.le_trans N10.out eV11.size
  have KOV11 := Lib.hid (ko10.tt eV11)
  have SAV11 := Lib.hid (sa10.tt eV11)
  replace BB1 := Lib.hid (And.intro (eV11.keep _ _ BB1.out.1 trivial) BB1.out.2)
  replace BB2 := Lib.hid (And.intro (eV11.keep _ _ BB2.out.1 trivial) BB2.out.2)
  replace BB3 := Lib.hid (And.intro (eV11.keep _ _ BB3.out.1 trivial) BB3.out.2)
  replace SO := Lib.hid (SO.out.tt eV11)
  replace ST := Lib.hid (ST.out.tt eV11)
  replace SA7 := Lib.hid (SA7.out.tt eV11)
  have HV11 := Lib.hid hV11
  clear eV11 ko10 sa10 hV11
  have q0 := cell_mk (i := 0) BB3.out.1 rfl
  have q1 := cell_mk (i := 1) BB3.out.1 rfl
  have q2 := cell_mk (i := 2) BB3.out.1 rfl
  have q3 := cell_mk (i := 3) BB3.out.1 rfl
  have q4 := cell_mk (i := 4) BB3.out.1 rfl
  have SC2 : Hid (Calls Tryd.prog 35 #[.pointer (some ⟨bk2, 0, none⟩), .agg #[.int .u64 4, .int .i64 (-1), .int .u64 0, .int .u64 0, .slice (some ⟨g1 + 1 + 1 + 1 + 1 + 1, 0, none⟩) 1 1]] V11 fun e w' => ∃ X', e = .returned (.int .i64 0) ∧ KO n 10 28 X' w' bk2 bd sTwo ∧ Kp X10 X' V11 w') := ko_saves KOV11.out HH0.out NV11.out _ _ ST.out (by unfold Sta.wf sTwo; decide) (TT.out _ FV11.out) (by show 1 ≤ 9223372036854775807; decide) (by decide) (by decide) (by decide) (by decide)
  clear OC kp10
  go_upto_region 14 with fail
  rw [HV11.out]
  obtain ⟨g4, hg4⟩ : ∃ g, w10.heap.size = g := ⟨_, rfl⟩
  rw [hg4] at BB4 ⊢
  clear HV11 hlg4
  go_wp2_with fail
  clear hg4
  (with_reducible refine SC2.out.mono ?_)
  rintro e w12 ⟨X12, rfl, ko12, kp12⟩
  have KO12 := Lib.hid ko12
  have F11 := FV11
  have N11 := NV11
  have F12 : Hid (Fr (fun c _ => c < n) W w12) := F11.out.trans (kp12.low KOV11.out.lo)
  have N12 : Hid (n ≤ w12.heap.size) := Nat.le_trans N11.out kp12.fr.size
  replace BB1 := Lib.hid (kp12.box BB1.out.1 BB1.out.2)
  replace BB2 := Lib.hid (kp12.box BB2.out.1 BB2.out.2)
  replace BB3 := Lib.hid (kp12.box BB3.out.1 BB3.out.2)
  replace BB4 := Lib.hid (kp12.box BB4.out.1 BB4.out.2)
  replace SO := Lib.hid (SO.out.kp kp12)
  replace ST := Lib.hid (ST.out.kp kp12)
  replace SA7 := Lib.hid (SA7.out.kp kp12)
  replace SAV11 := Lib.hid (SAV11.out.kp kp12)
  have CC2 : Hid (Calls Tryd.prog 16 #[.pointer (some ⟨bd, 0, none⟩), .slice none 0 0] w12 fun e w' => e = .returned (.tuple #[]) ∧ ∃ X', KCr n 10 28 X' w' bd sTwo ∧ Kp X12 X' w12 w') := ko_crash (K' := fun _ _ => False) KO12.out N12.out none 0 0 [] ⟨none, 0, rfl, .inl rfl⟩ fun c o h => h.elim
  clear SC2 ko12 kp12 KOV11 q0 q1 q2 q3 q4
  go_wp2_with fail
  (with_reducible refine CC2.out.mono ?_)
  rintro e w13 ⟨rfl, X13, kc13, kp13⟩
  have F13 : Hid (Fr (fun c _ => c < n) W w13) := F12.out.trans (kp13.low KO12.out.lo)
  have N13 : Hid (n ≤ w13.heap.size) := Nat.le_trans N12.out kp13.fr.size
  replace BB1 := Lib.hid (kp13.box BB1.out.1 BB1.out.2)
  replace BB2 := Lib.hid (kp13.box BB2.out.1 BB2.out.2)
  replace BB3 := Lib.hid (kp13.box BB3.out.1 BB3.out.2)
  replace BB4 := Lib.hid (kp13.box BB4.out.1 BB4.out.2)
  replace SO := Lib.hid (SO.out.kp kp13)
  replace ST := Lib.hid (ST.out.kp kp13)
  replace SA7 := Lib.hid (SA7.out.kp kp13)
  replace SAV11 := Lib.hid (SAV11.out.kp kp13)
  have OC2 : Hid (Calls Tryd.prog 36 #[.pointer (some ⟨bd, 0, none⟩), .int .i64 1, .int .i64 10] w13 fun e w' => ∃ bk X' xs a c, e = .returned (.tuple #[.pointer (some ⟨bk, 0, none⟩), .agg #[.int .u64 4, .int .i64 (-1), .int .u64 0, .int .u64 0, .slice a xs.length c], .int .i64 0]) ∧ KO n 10 29 X' w' bk bd sTwo ∧ SA n X' w' sTwo (.slice a xs.length c) xs ∧ Kp X13 X' w13 w') := by
    have k := kc_open kc13 HH0.out N13.out (TT.out _ F13.out) (by decide)
    rw [RT] at k
    exact k
  have LO13 := Lib.hid kc13.lo
  clear CC2 kc13 kp13 KO12
  go_wp2_with fail
  (with_reducible refine OC2.out.mono ?_)
  rintro e w14 ⟨bk3, X14, xsT, aT, cT, rfl, ko14, sa14, kp14⟩
  have F14 : Hid (Fr (fun c _ => c < n) W w14) := F13.out.trans (kp14.low LO13.out)
  have N14 : Hid (n ≤ w14.heap.size) := Nat.le_trans N13.out kp14.fr.size
  replace BB1 := Lib.hid (kp14.box BB1.out.1 BB1.out.2)
  replace BB2 := Lib.hid (kp14.box BB2.out.1 BB2.out.2)
  replace BB3 := Lib.hid (kp14.box BB3.out.1 BB3.out.2)
  replace BB4 := Lib.hid (kp14.box BB4.out.1 BB4.out.2)
  replace SO := Lib.hid (SO.out.kp kp14)
  replace ST := Lib.hid (ST.out.kp kp14)
  replace SA7 := Lib.hid (SA7.out.kp kp14)
  replace SAV11 := Lib.hid (SAV11.out.kp kp14)
  obtain ⟨lg5, hlg5⟩ : ∃ x, xsT.length = x := ⟨_, rfl⟩
  obtain ⟨V15, hV15⟩ : ∃ V, w14.alloc (.cells #[.int .u64 4, .int .i64 (-1), .int .u64 0, .int .u64 0, .slice aT lg5 cT] 68 (0, 0)) = V := ⟨_, rfl⟩
  have eV15 : Fr (fun _ _ => True) w14 V15 := hV15 ▸ (Fr.refl _ _).alloc _
  have BB5 : Hid (V15.heap[w14.heap.size]? = some (boxS 4 (-1) 0 0 aT xsT.length cT) ∧ ¬ X14 w14.heap.size) := ⟨by rw [hlg5]; exact hV15 ▸ heap_alloc_new w14 _, fun k => by have := ko14.hi _ k; omega⟩
  have FV15 : Hid (Fr (fun c _ => c < n) W V15) := F14.out.trans (eV15.mono fun _ _ _ => trivial)
  have NV15 : Hid (n ≤ V15.heap.size) := Nat.le_trans N14.out eV15.size
  have KOV15 := Lib.hid (ko14.tt eV15)
  have SAV15 := Lib.hid (sa14.tt eV15)
  replace BB1 := Lib.hid (And.intro (eV15.keep _ _ BB1.out.1 trivial) BB1.out.2)
  replace BB2 := Lib.hid (And.intro (eV15.keep _ _ BB2.out.1 trivial) BB2.out.2)
  replace BB3 := Lib.hid (And.intro (eV15.keep _ _ BB3.out.1 trivial) BB3.out.2)
  replace BB4 := Lib.hid (And.intro (eV15.keep _ _ BB4.out.1 trivial) BB4.out.2)
  replace SO := Lib.hid (SO.out.tt eV15)
  replace ST := Lib.hid (ST.out.tt eV15)
  replace SA7 := Lib.hid (SA7.out.tt eV15)
  replace SAV11 := Lib.hid (SAV11.out.tt eV15)
  have HV15 := Lib.hid hV15
  clear eV15 ko14 sa14 hV15
  clear OC2 kp14
  go_upto_region 17 with fail
  rw [HV15.out]
  obtain ⟨g5, hg5⟩ : ∃ g, w14.heap.size = g := ⟨_, rfl⟩
  rw [hg5] at BB5 ⊢
  clear HV15 hlg5 hg5
  have A1 : Hid (Calls Tryd.prog 39 #[.agg #[.int .u64 0, .int .i64 (-1), .int .u64 0, .int .u64 0, .slice a2 xs2.length c2], .agg #[.int .u64 0, .int .i64 (-1), .int .u64 0, .int .u64 0, .slice none 0 0]] V15 fun e w' => e = .returned (.bool true) ∧ Fr (fun _ _ => True) V15 w') := by
    have k := same_sa (t := zSta) SA7.out (SA.nilS n X14 V15 zSta rfl) (fun e he => by cases he) (by rw [← SA7.out.len]; decide)
    rw [decide_eq_true (rfl : zSta = zSta)] at k
    exact k
  have A2 : Hid (∀ W1 : World, Fr (fun _ _ => True) V15 W1 → Calls Tryd.prog 39 #[.agg #[.int .u64 3, .int .i64 2, .int .u64 0, .int .u64 0, .slice aO xsO.length cO], .agg #[.int .u64 3, .int .i64 2, .int .u64 0, .int .u64 0, .slice (some ⟨g1 + 1 + 1, 0, none⟩) 1 1]] W1 fun e w' => e = .returned (.bool true) ∧ Fr (fun _ _ => True) W1 w') := fun W1 f => by
    have k := same_sa (SAV11.out.tt f) (SO.out.tt f) (fun e he => by rw [List.mem_singleton.1 he]; decide) (by rw [← SAV11.out.len]; decide)
    rw [decide_eq_true (rfl : sOne = sOne)] at k
    exact k
  have A3 : Hid (∀ W1 : World, Fr (fun _ _ => True) V15 W1 → Calls Tryd.prog 39 #[.agg #[.int .u64 4, .int .i64 (-1), .int .u64 0, .int .u64 0, .slice aT xsT.length cT], .agg #[.int .u64 4, .int .i64 (-1), .int .u64 0, .int .u64 0, .slice (some ⟨g1 + 1 + 1 + 1 + 1 + 1, 0, none⟩) 1 1]] W1 fun e w' => e = .returned (.bool true) ∧ Fr (fun _ _ => True) W1 w') := fun W1 f => by
    have k := same_sa (SAV15.out.tt f) (ST.out.tt f) (fun e he => by rw [List.mem_singleton.1 he]; decide) (by rw [← SAV15.out.len]; decide)
    rw [decide_eq_true (rfl : sTwo = sTwo)] at k
    exact k
  obtain ⟨la, hla⟩ : ∃ x, xs2.length = x := ⟨_, rfl⟩
  obtain ⟨lb, hlb⟩ : ∃ x, xsO.length = x := ⟨_, rfl⟩
  obtain ⟨lc, hlc⟩ : ∃ x, xsT.length = x := ⟨_, rfl⟩
  rw [hla] at A1 BB1
  rw [hlb] at A2 BB4
  rw [hlc] at A3 BB5
  have D2 : Hid (∀ W1 : World, Calls Tryd.prog 37 #[.agg #[.int .u64 3, .int .i64 2, .int .u64 0, .int .u64 0, .slice (some ⟨g1 + 1 + 1, 0, none⟩) 1 1]] W1 fun e w' => e = .returned (.agg #[.int .u64 3, .int .i64 2, .int .u64 0, .int .u64 0, .slice (some ⟨g1 + 1 + 1, 0, none⟩) 1 1]) ∧ Fr (fun _ _ => True) W1 w') := fun W1 => doc_calls W1 sOne (some ⟨g1 + 1 + 1, 0, none⟩) 1 1
  have D3 : Hid (∀ W1 : World, Calls Tryd.prog 37 #[.agg #[.int .u64 4, .int .i64 (-1), .int .u64 0, .int .u64 0, .slice (some ⟨g1 + 1 + 1 + 1 + 1 + 1, 0, none⟩) 1 1]] W1 fun e w' => e = .returned (.agg #[.int .u64 4, .int .i64 (-1), .int .u64 0, .int .u64 0, .slice (some ⟨g1 + 1 + 1 + 1 + 1 + 1, 0, none⟩) 1 1]) ∧ Fr (fun _ _ => True) W1 w') := fun W1 => doc_calls W1 sTwo (some ⟨g1 + 1 + 1 + 1 + 1 + 1, 0, none⟩) 1 1
  have K1 : Hid (∀ w', Fr (fun _ _ => True) V15 w' → (w'.cell? ⟨g1, 0, none⟩ = some (.int .u64 0) ∧ w'.cell? ⟨g1, 1, none⟩ = some (.int .i64 (-1)) ∧ w'.cell? ⟨g1, 2, none⟩ = some (.int .u64 0) ∧ w'.cell? ⟨g1, 3, none⟩ = some (.int .u64 0) ∧ w'.cell? ⟨g1, 4, none⟩ = some (.slice a2 la c2))) := fun w' f => by
    have t := f.keep _ _ BB1.out.1 trivial
    exact ⟨cell_mk t rfl, cell_mk t rfl, cell_mk t rfl, cell_mk t rfl, cell_mk t rfl⟩
  have K2 : Hid (∀ w', Fr (fun _ _ => True) V15 w' → (w'.cell? ⟨g4, 0, none⟩ = some (.int .u64 3) ∧ w'.cell? ⟨g4, 1, none⟩ = some (.int .i64 2) ∧ w'.cell? ⟨g4, 2, none⟩ = some (.int .u64 0) ∧ w'.cell? ⟨g4, 3, none⟩ = some (.int .u64 0) ∧ w'.cell? ⟨g4, 4, none⟩ = some (.slice aO lb cO)) ∧ (w'.cell? ⟨g1 + 1 + 1 + 1, 0, none⟩ = some (.int .u64 3) ∧ w'.cell? ⟨g1 + 1 + 1 + 1, 1, none⟩ = some (.int .i64 2) ∧ w'.cell? ⟨g1 + 1 + 1 + 1, 2, none⟩ = some (.int .u64 0) ∧ w'.cell? ⟨g1 + 1 + 1 + 1, 3, none⟩ = some (.int .u64 0) ∧ w'.cell? ⟨g1 + 1 + 1 + 1, 4, none⟩ = some (.slice (some ⟨g1 + 1 + 1, 0, none⟩) 1 1))) := fun w' f => by
    have t := f.keep _ _ BB4.out.1 trivial
    have u := f.keep _ _ BB2.out.1 trivial
    exact ⟨⟨cell_mk t rfl, cell_mk t rfl, cell_mk t rfl, cell_mk t rfl, cell_mk t rfl⟩, cell_mk u rfl, cell_mk u rfl, cell_mk u rfl, cell_mk u rfl, cell_mk u rfl⟩
  have K3 : Hid (∀ w', Fr (fun _ _ => True) V15 w' → (w'.cell? ⟨g5, 0, none⟩ = some (.int .u64 4) ∧ w'.cell? ⟨g5, 1, none⟩ = some (.int .i64 (-1)) ∧ w'.cell? ⟨g5, 2, none⟩ = some (.int .u64 0) ∧ w'.cell? ⟨g5, 3, none⟩ = some (.int .u64 0) ∧ w'.cell? ⟨g5, 4, none⟩ = some (.slice aT lc cT)) ∧ (w'.cell? ⟨g1 + 1 + 1 + 1 + 1 + 1 + 1, 0, none⟩ = some (.int .u64 4) ∧ w'.cell? ⟨g1 + 1 + 1 + 1 + 1 + 1 + 1, 1, none⟩ = some (.int .i64 (-1)) ∧ w'.cell? ⟨g1 + 1 + 1 + 1 + 1 + 1 + 1, 2, none⟩ = some (.int .u64 0) ∧ w'.cell? ⟨g1 + 1 + 1 + 1 + 1 + 1 + 1, 3, none⟩ = some (.int .u64 0) ∧ w'.cell? ⟨g1 + 1 + 1 + 1 + 1 + 1 + 1, 4, none⟩ = some (.slice (some ⟨g1 + 1 + 1 + 1 + 1 + 1, 0, none⟩) 1 1))) := fun w' f => by
    have t := f.keep _ _ BB5.out.1 trivial
    have u := f.keep _ _ BB3.out.1 trivial
    exact ⟨⟨cell_mk t rfl, cell_mk t rfl, cell_mk t rfl, cell_mk t rfl, cell_mk t rfl⟩, cell_mk u rfl, cell_mk u rfl, cell_mk u rfl, cell_mk u rfl, cell_mk u rfl⟩
  have FW : Hid (Fr (fun _ _ => True) W V15) := OUT.out _ FV15.out
  obtain ⟨i0, i1, i2, i3, i4⟩ := K1.out V15 (Fr.refl _ _)
  clear hla hlb hlc BB1 BB2 BB3 BB4 BB5 SA7 SAV11 SAV15 SO ST KOV15 K1 FV15 OUT
  go_wp2_with fail
  (with_reducible refine A1.out.mono ?_)
  rintro e u1 ⟨rfl, v1⟩
  have G1 := Lib.hid v1
  clear A1 v1 i0 i1 i2 i3 i4
  have U1 : Hid (Fr (fun _ _ => True) V15 u1.drew) := G1.out.drew
  go_upto_region 18 with fail
  go_region_held3 (fun W => (W.cell? ⟨g4, 0, none⟩ = some (.int .u64 3) ∧ W.cell? ⟨g4, 1, none⟩ = some (.int .i64 2) ∧ W.cell? ⟨g4, 2, none⟩ = some (.int .u64 0) ∧ W.cell? ⟨g4, 3, none⟩ = some (.int .u64 0) ∧ W.cell? ⟨g4, 4, none⟩ = some (.slice aO lb cO)) ∧ (W.cell? ⟨g1 + 1 + 1 + 1, 0, none⟩ = some (.int .u64 3) ∧ W.cell? ⟨g1 + 1 + 1 + 1, 1, none⟩ = some (.int .i64 2) ∧ W.cell? ⟨g1 + 1 + 1 + 1, 2, none⟩ = some (.int .u64 0) ∧ W.cell? ⟨g1 + 1 + 1 + 1, 3, none⟩ = some (.int .u64 0) ∧ W.cell? ⟨g1 + 1 + 1 + 1, 4, none⟩ = some (.slice (some ⟨g1 + 1 + 1, 0, none⟩) 1 1)))
    (first | exact K2.out _ U1.out | exact K2.out _ G2.out | exact K2.out _ G3.out)
    (first
      | (go_at_call 37; (with_reducible refine (D2.out _).mono ?_); rintro e u2 ⟨rfl, v2⟩; have G2 := Lib.hid (U1.out.trans v2); clear v2)
      | (go_at_call 39; go_must ((with_reducible refine (A2.out _ G2.out).mono ?_); rintro e u3 ⟨rfl, v3⟩; have G3 := Lib.hid (G2.out.trans v3); clear v3)))
  all_goals
    have U3 := Lib.hid (G3.out.drew)
    go_upto_region 19 with fail
    go_region_held3 (fun W => (W.cell? ⟨g5, 0, none⟩ = some (.int .u64 4) ∧ W.cell? ⟨g5, 1, none⟩ = some (.int .i64 (-1)) ∧ W.cell? ⟨g5, 2, none⟩ = some (.int .u64 0) ∧ W.cell? ⟨g5, 3, none⟩ = some (.int .u64 0) ∧ W.cell? ⟨g5, 4, none⟩ = some (.slice aT lc cT)) ∧ (W.cell? ⟨g1 + 1 + 1 + 1 + 1 + 1 + 1, 0, none⟩ = some (.int .u64 4) ∧ W.cell? ⟨g1 + 1 + 1 + 1 + 1 + 1 + 1, 1, none⟩ = some (.int .i64 (-1)) ∧ W.cell? ⟨g1 + 1 + 1 + 1 + 1 + 1 + 1, 2, none⟩ = some (.int .u64 0) ∧ W.cell? ⟨g1 + 1 + 1 + 1 + 1 + 1 + 1, 3, none⟩ = some (.int .u64 0) ∧ W.cell? ⟨g1 + 1 + 1 + 1 + 1 + 1 + 1, 4, none⟩ = some (.slice (some ⟨g1 + 1 + 1 + 1 + 1 + 1, 0, none⟩) 1 1)))
      (first | exact K3.out _ U3.out | exact K3.out _ G4.out | exact K3.out _ G5.out)
      (first
        | (go_at_call 37; (with_reducible refine (D3.out _).mono ?_); rintro e u4 ⟨rfl, v4⟩; have G4 := Lib.hid (U3.out.trans v4); clear v4)
        | (go_at_call 39; go_must ((with_reducible refine (A3.out _ G4.out).mono ?_); rintro e u5 ⟨rfl, v5⟩; have G5 := Lib.hid (G4.out.trans v5); clear v5)))
    all_goals
      go_wp2
      go_ret
      exact ⟨rfl, FW.out.trans G5.out⟩
end Go.Proofs.YtcpbmempfeloaaaDoor
/- Law 14: KeepBack, walked. -/
namespace Go.Proofs.YtcpbmempfeloaaaDoor
open Go.RowKit
set_option linter.unusedVariables false
set_option linter.unusedSimpArgs false

theorem kn_ctx {w : World} (ht : TabOK w) {n : Nat} (hn : 0 < n) : ∀ W, Fr (fun c _ => c < n) w W → TabOK W := fun W f i hi => f.cell (fun _ _ => hn) (ht i hi)
theorem short_all {l : List OpK} {len : Nat} (hl : l.length = len) (hs : shortK l 12 = true) : len ≤ 12 := by
  unfold shortK at hs
  simp only [Bool.and_eq_true, decide_eq_true_eq, List.all_eq_true] at hs
  omega
set_option maxRecDepth 100000 in
set_option maxHeartbeats 2000000 in
theorem back_bad (W : World) (a0 : Option Addr) (len0 cap0 : Nat) (l : List OpK) (h : OpsK W.heap.size W (.slice a0 len0 cap0) l) (hl : l.length = len0) (c0 c1 c2 c3 c4 v2 : Value) (ht : TabOK W) (hs : shortK l 12 = false) :
    Calls Tryd.prog 8 #[.slice a0 len0 cap0, .agg #[c0, c1, c2, c3, c4], v2] W fun e w' => e = .returned (.bool true) ∧ Fr (fun _ _ => True) W w' := by
  obtain ⟨W0, hW0⟩ : ∃ V, W.alloc (.cells #[c0, c1, c2, c3, c4] 68 (0, 0)) = V := ⟨_, rfl⟩
  have F0 : Hid (Fr (fun _ _ => True) W W0) := hW0 ▸ (Fr.refl _ _).alloc _
  have AW := Lib.hid (awake14 W0 (ht.tt F0.out))
  have MB : Hid (∀ w, Fr (fun _ _ => True) W w → Calls Tryd.prog 34 #[.slice a0 len0 cap0] w fun e w' => e = .returned (.tuple #[.pointer none, .pointer none, .agg #[.int .u64 0, .int .i64 0, .int .u64 0, .int .u64 0, .slice none 0 0]]) ∧ Fr (fun _ _ => True) w w') := fun w f => made14_bad w a0 len0 cap0 l (h.fr (f.mono fun _ _ _ => trivial)) hl hs
  clear ht h hl hs
  have HW0 := Lib.hid hW0
  clear hW0
  go_enter Tryd.func8, Tryd.ntmps8
  go_wp2_with fail
  rw [HW0.out]
  (with_reducible refine AW.out.mono ?_)
  rintro e w1 ⟨rfl, f1⟩
  have F1 := Lib.hid (F0.out.trans f1)
  clear f1
  go_wp2_with fail
  (with_reducible refine (MB.out w1 F1.out).mono ?_)
  rintro e w2 ⟨rfl, f2⟩
  have F2 := Lib.hid (F1.out.trans f2)
  clear f2 MB
  go_wp2
  go_ret
  exact ⟨rfl, F2.out.alloc _⟩
end Go.Proofs.YtcpbmempfeloaaaDoor
