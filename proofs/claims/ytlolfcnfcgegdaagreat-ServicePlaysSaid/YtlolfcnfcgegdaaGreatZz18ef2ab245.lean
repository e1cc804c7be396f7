/- Texts of the proofs, part 40: what the functions that they reach do, walked; no conditions beyond those that each states. -/
import Derived.Test.YtlolfcnfcgegdaaGreatZz74dd258275
set_option linter.unusedVariables false
set_option linter.unusedSimpArgs false
/- ServicePlays (printed by plays20.py). -/
namespace Go.Proofs.YtlolfcnfcgegdaaGreat
open Go.RowKit
set_option linter.unusedVariables false
set_option linter.unusedSimpArgs false

section
variable {n : Nat} {P Q P' Q' G G' : Nat → Prop} {w w' : World} {bs b1 b2 bd d1 d2 : Nat} {M M2 : MT} {L L2 : Lk}
theorem SV.alive (h : SV n P Q w bs b1 b2 M L) {c : Nat} (hc : U P Q c) : c < w.heap.size := h.here hc
/-- What the program does leaves the document's state. -/
theorem DS.bySV (d : DS n G w bd d1 d2 M2 L2) (h : SV n P Q w bs b1 b2 M L) (k : Kp (U P Q) (U P' Q') w w') (dis : ∀ c, G c → ¬ P c) : DS n G w' bd d1 d2 M2 L2 ∧ ∀ c, G c → ¬ P' c := by
  have hg : ∀ c, G c → ¬ U P Q c := fun c hc hu => by
    rcases hu with hu | hu
    · exact dis c hc hu
    · obtain ⟨_, cs, t, fz, ho, ht⟩ := d.lok.own hc
      refine h.se.out ho (qk_cells ?_ ?_) hu
      · rcases ht with q | q | q <;> (rw [q]; decide)
      · rcases ht with q | q | q <;> (rw [q]; decide)
  refine ⟨d.frk k.fr fun c o ho hk hu => ?_, fun c hc hp => ?_⟩
  · rcases hk with rfl | rfl | hk | hk
    · exact h.out d.top (kp_cells (by decide) (by decide)) (qk_cells (by decide) (by decide)) hu
    · obtain ⟨D, hD, _⟩ := d.ses
      obtain ⟨_, _, h1⟩ := hD.top'
      exact h.out h1 (kp_cells (by decide) (by decide)) (qk_cells (by decide) (by decide)) hu
    · exact hg c hk hu
    · rcases hk with hk | ⟨_, _, rfl⟩
      · have := h.low hu; omega
      · exact h.out ho (kp_cells (by decide) (by decide)) (qk_cells (by decide) (by decide)) hu
  · obtain ⟨_, cs, t, fz, ho, ht⟩ := d.lok.own hc
    exact k.out c (lt_of_some ho) (hg c hc) (.inl hp)
/-- What the document does leaves the program's state. -/
theorem SV.byDS (h : SV n P Q w bs b1 b2 M L) (d : DS n G w bd d1 d2 M2 L2) (k : Kh d1 d2 G G' w w') (dis : ∀ c, G c → ¬ P c) : SV n P Q w' bs b1 b2 M L ∧ ∀ c, G' c → ¬ P c := by
  obtain ⟨hn2, _, h2⟩ := d.lok.top'
  obtain ⟨D, hD, _⟩ := d.ses
  obtain ⟨hn1, _, h1⟩ := hD.top'
  refine ⟨h.frk k.fr fun c o ho hk => ?_, fun c hc hp => ?_⟩
  · have key : ∀ x cs t, w.heap[x]? = some (.cells cs t (0, 0)) → n ≤ x → (t = 73 ∨ t = 77) → c ≠ x := fun x cs t hx hnx ht e => by
      subst e
      rw [hx] at ho
      cases ho
      rcases hk with rfl | hp | hq | hu | hw
      · rw [h.st] at hx; cases hx; rcases ht with q | q <;> exact absurd q (by decide)
      · exact h.lk.out hx (kp_cells (by rcases ht with q | q <;> (rw [q]; decide)) (by rcases ht with q | q <;> (rw [q]; decide))) hp
      · exact h.se.out hx (qk_cells (by rcases ht with q | q <;> (rw [q]; decide)) (by rcases ht with q | q <;> (rw [q]; decide))) hq
      · rcases hu with hu | ⟨_, _, e⟩
        · omega
        · cases e; rcases ht with q | q <;> exact absurd q (by decide)
      · obtain ⟨_, _, e⟩ := hw; cases e; rcases ht with q | q <;> exact absurd q (by decide)
    exact ⟨key d1 _ _ h1 hn1 (.inl rfl), key d2 _ _ h2 hn2 (.inr rfl)⟩
  · by_cases q : G c
    · exact dis c q hp
    · have := k.new c q hc
      have := h.here (.inl hp)
      omega
theorem DS.old (d : DS n G w bd d1 d2 M2 L2) (k : Kh d1 d2 G G' w w') {w0 : World} (f : Fr (fun c _ => c < n) w0 w) : Fr (fun c _ => c < n) w0 w' := by
  obtain ⟨hn2, _, h2⟩ := d.lok.top'
  obtain ⟨D, hD, _⟩ := d.ses
  obtain ⟨hn1, _, h1⟩ := hD.top'
  exact f.trans (k.fr.mono fun c _ hc => ⟨by omega, by omega⟩)
theorem SV.keepu {v : Value} {b : List UInt8} (h : SV n P Q w bs b1 b2 M L) (k : Kp (U P Q) (U P' Q') w w') (hb : BytesAt (KU n) w v b) : BytesAt (KU n) w' v b := by
  have h1 : BytesAt (fun c o => (¬ U P Q c) ∧ KU n c o) w v b := hb.mono fun c o ho hc => ⟨fun hu => by
    rcases hc with hc | ⟨_, _, rfl⟩
    · have := h.low hu; omega
    · exact h.out ho (kp_cells (by decide) (by decide)) (qk_cells (by decide) (by decide)) hu, hc⟩
  exact (h1.fr (k.fr.mono fun _ _ h => h.1)).mono fun _ _ _ h => h.2
theorem keep_bu {m : Nat} {v : Value} {b : List UInt8} {cs : Array Value} {t : TypeId} {fz : Nat × Nat} (hb : BytesAt (KU n) w v b) (f : Fr (fun c _ => c ≠ m) w w') (hm : w.heap[m]? = some (.cells cs t fz)) (hn : n ≤ m) (ht : t ≠ 5) : BytesAt (KU n) w' v b := by
  have h1 : BytesAt (fun c o => c ≠ m ∧ KU n c o) w v b := hb.mono fun c o ho hc => ⟨fun e => by
    subst e
    rcases hc with hc | ⟨_, _, rfl⟩
    · omega
    · rw [hm] at ho; cases ho; exact ht rfl, hc⟩
  exact (h1.fr (f.mono fun _ _ h => h.1)).mono fun _ _ _ h => h.2
end
set_option maxRecDepth 100000 in
theorem sess_calls (w : World) (bs : Nat) (x : Value) (b1 : Nat) (h : w.heap[bs]? = some (.cells #[.pointer (some ⟨b1, 0, none⟩), x] 68 (0, 0))) :
    Calls Tryz.prog 15 #[.pointer (some ⟨bs, 0, none⟩)] w fun e w' => e = .returned (.pointer (some ⟨b1, 0, none⟩)) ∧ w = w' := by
  have c0 := cell_mk (i := 0) h rfl
  clear h
  go_enter Tryz.func15, Tryz.ntmps15
  go_wp2
  go_ret
  exact ⟨rfl, rfl⟩
set_option maxRecDepth 100000 in
set_option maxHeartbeats 1000000 in
theorem plays_short (a : Option Addr) (len cap : Nat) (a1 : Option Addr) (len1 cap1 : Nat) (at' : Int) (w : World) (h : 80 < len ∨ 100 < len1) :
    Calls Tryz.prog 3 #[.slice a len cap, .slice a1 len1 cap1, .int .i64 at'] w fun e w' => e = .returned (.bool true) ∧ Below w.heap.size w w' := by
  have q : (80 : Int) < len ∨ (¬ (80 : Int) < len ∧ (100 : Int) < len1) := by
    by_cases q : 80 < len
    · exact .inl (by omega)
    · exact .inr ⟨by omega, by omega⟩
  clear h
  rcases q with q1 | ⟨q1, q2⟩
  all_goals
    go_enter Tryz.func3, Tryz.ntmps3
    go_wp2_with fail
    (with_reducible refine (awake_calls w).mono ?_)
    rintro e w1 ⟨rfl, f1⟩
    have F1 := Lib.hid f1
    clear f1
    go_wp2_with fail
    (with_reducible refine (new_calls (n := w.heap.size) w1 F1.out.size).mono ?_)
    rintro e w2 ⟨⟨P0, Q0, bs, b1, b2, rfl, h0, _, _⟩, f0⟩
    have F2 := Lib.hid (F1.out.trans f0)
    clear h0 f0 F1
    go_wp2_with fail
    (with_reducible refine (dnew_calls (n := w.heap.size) w2 F2.out.size).mono ?_)
    rintro e w3 ⟨⟨G0, bd, d1, d2, rfl, h0, _⟩, f0⟩
    have F3 := Lib.hid (F2.out.trans f0)
    clear h0 f0 F2
    go_wp2
    go_ret
    exact ⟨rfl, (F3.out.mono fun _ _ _ => trivial : Fr (fun b _ => b < w.heap.size) w w3).below (Nat.le_refl _)⟩
set_option maxRecDepth 100000 in
set_option maxHeartbeats 8000000 in
theorem plays_main (a : Option Addr) (len cap : Nat) (a1 : Option Addr) (len1 cap1 : Nat) (at' : Int) (w : World) (h : Rd Tryz.prog w 22 [.slice a len cap]) (ob : List UInt8) (hob : BytesAt (fun b _ => b < w.heap.size) w (.slice a1 len1 cap1) ob) (h2 : (len : Int) ≤ 80) (h3 : (len1 : Int) ≤ 100) :
    Calls Tryz.prog 3 #[.slice a len cap, .slice a1 len1 cap1, .int .i64 at'] w fun e w' => e = .returned (.bool true) ∧ Below w.heap.size w w' := by
  have HR := Lib.hid h
  have OB := Lib.hid hob
  have OL : Hid (ob.length ≤ 1000000) := by
    have := hob.len
    show _ ≤ _
    omega
  clear h hob
  go_enter Tryz.func3, Tryz.ntmps3
  go_wp2_with fail
  (with_reducible refine (awake_calls w).mono ?_)
  rintro e w1 ⟨rfl, f1⟩
  have F1 := Lib.hid f1
  clear f1
  go_wp2_with fail
  (with_reducible refine (new_calls (n := w.heap.size) w1 F1.out.size).mono ?_)
  rintro e w2 ⟨⟨P0, Q0, s1, b1, b2, rfl, h0, _, _⟩, f0⟩
  have F2 := Lib.hid (F1.out.trans f0)
  have H2 := Lib.hid h0
  clear h0 f0 F1
  go_wp2_with fail
  (with_reducible refine (dnew_calls (n := w.heap.size) w2 F2.out.size).mono ?_)
  rintro e w3 ⟨⟨G0, bd, d1, d2, rfl, h0, hlow⟩, f0⟩
  have F3 : Hid (Fr (fun b _ => b < w.heap.size) w w3) := Lib.hid ((F2.out.trans f0).mono fun _ _ _ => trivial)
  have H3 := Lib.hid (H2.out.fr f0)
  have T3 := Lib.hid h0
  have D3 : Hid (∀ c, G0 c → ¬ P0 c) := Lib.hid fun c h1 h2 => by have := H2.out.here (.inl h2); have := hlow c h1; omega
  clear h0 f0 F2 H2 hlow
  go_wp2
  go_loopw [10] (fun i wr => ∃ (j : Nat) (P Q G : Nat → Prop) (M : MT) (L : Lk), j ≤ len ∧ i = .int .i64 j ∧ Hid (SV w.heap.size P Q wr s1 b1 b2 M L) ∧ Hid (DS w.heap.size G wr bd d1 d2 M L) ∧ Hid (∀ c, G c → ¬ P c) ∧ Hid (MF M) ∧ Hid (M9 M) ∧ Hid (Fr (fun b _ => b < w.heap.size) w wr)) (fun i _ => len - (intOf i).toNat)
  case atStart => exact ⟨0, P0, Q0, G0, [], Lk.new, Nat.zero_le _, rfl, H3.out, T3.out, D3.out, MF.nil, M9.nil, F3.out⟩
  case round =>
    obtain ⟨j, P, Q, G, M, L, hj, rfl, H, T, D, HM, HN, F⟩ := hrel
    clear H3 F3 T3 D3
    by_cases hlt : j < len
    · obtain ⟨b, off, rfl, hc⟩ := cmds_at HR.out (by omega)
      obtain ⟨c, hc⟩ := hc j hlt
      have HC := Lib.hid hc
      clear hc
      obtain ⟨g0, g1, g2, g3, g4, g5, g6, hok⟩ := HC.out.fr F.out
      have BC := Lib.hid (bytes_calls wr c hok)
      unfold vC at BC
      have CL : Hid ((encM c).1.length ≤ 1000000) := by have := encM_len c; show _ ≤ _; omega
      generalize hcb : (encM c).1 = cb at BC CL
      have hlI : (j : Int) < len := by omega
      clear hok hcb
      by_cases hat : (j : Int) = at'
      · have hatb : ((j : Int) == at') = true := by simpa using hat
        clear hat
        go_wp2_with fail
        (with_reducible refine BC.out.mono ?_)
        rintro e u ⟨⟨ab, capb, rfl, bb⟩, fb⟩
        have HB := Lib.hid (H.out.fr fb)
        have TB := Lib.hid (T.out.tt fb)
        have FB := Lib.hid (F.out.trans (fb.mono fun _ _ _ => trivial))
        have BB : Hid (BytesAt (KU w.heap.size) u (.slice a1 len1 cap1) ob) := Lib.hid ((OB.out.fr FB.out).mono fun c o _ h => .inl h)
        clear BC bb fb g0 g1 g2 g3 g4 g5 g6 H T F
        obtain ⟨rc, rv, M', L', hact⟩ : ∃ rc rv M' L', applyM M L ob = (⟨rc, rv⟩, M', L') := ⟨_, _, _, _, rfl⟩
        have HM' : Hid (MF M') := by have := HM.out.applyM L ob; rwa [hact] at this
        have HN' : Hid (M9 M') := by have := HN.out.applyM L ob; rwa [hact] at this
        have AC := Lib.hid (apply_calls u s1 b1 b2 M L _ ob HB.out FB.out.size BB.out OL.out)
        rw [hact] at AC
        unfold vR at AC
        dsimp only at AC
        have HACN := Lib.hid hact
        clear hact
        go_wp2_with fail
        (with_reducible refine AC.out.mono ?_)
        rintro e y ⟨rfl, P1, Q1, hy, ky⟩
        obtain ⟨ty, dy⟩ := TB.out.bySV HB.out ky D.out
        have HY := Lib.hid hy
        have TY := Lib.hid ty
        have DY := Lib.hid dy
        have FY := Lib.hid (HB.out.old ky FB.out)
        have BY := Lib.hid (HB.out.keepu ky BB.out)
        clear AC hy ky HB TB FB BB ty dy HM D
        obtain ⟨W1, hW1⟩ : ∃ W, y.alloc (.cells #[.int .i64 0, .int .u64 0] 36 (0, 0)) = W := ⟨_, rfl⟩
        have FA : Hid (Fr (fun _ _ => True) y W1) := hW1 ▸ (Fr.refl _ _).alloc _
        have XA : Hid (W1.heap[y.heap.size]? = some (.cells #[.int .i64 0, .int .u64 0] 36 (0, 0))) := hW1 ▸ heap_alloc_new y _
        have q0 := cell_mk (i := 0) XA.out rfl
        have q1 := cell_mk (i := 1) XA.out rfl
        have z0 := frozen_mk (i := 0) XA.out
        have z1 := frozen_mk (i := 1) XA.out
        obtain ⟨v1, hWZ, TZ, FZ⟩ := set2 XA.out (.int .i64 (rc : Nat)) (.int .u64 (rv : Nat))
        have G1 : Hid (Fr (fun b _ => b < w.heap.size) w v1) := Lib.hid ((FY.out.trans (FA.out.mono fun _ _ _ => trivial)).trans (FZ.mono fun c _ h e => by have := FY.out.size; omega))
        have H1 := Lib.hid ((HY.out.fr FA.out).frk FZ ((HY.out.fr FA.out).kv_other XA.out FY.out.size (by decide)))
        have T1 := Lib.hid ((TY.out.tt FA.out).frk FZ ((TY.out.tt FA.out).kv_other XA.out FY.out.size (by decide)))
        have B1 := Lib.hid (keep_bu (BY.out.tt FA.out) FZ XA.out FY.out.size (by decide))
        have X1 := Lib.hid TZ
        have AC := Lib.hid (dapply_calls v1 bd d1 d2 M L _ ob T1.out G1.out.size B1.out OL.out HN.out)
        rw [HACN.out] at AC
        unfold vR at AC
        dsimp only at AC
        clear TZ FZ FA XA HY TY FY BY HN
        go_wp2_with fail
        try rw [hWZ]
        (with_reducible refine AC.out.mono ?_)
        rintro e y2 ⟨rfl, G2, ht, kt⟩
        obtain ⟨hy, dy⟩ := H1.out.byDS T1.out kt DY.out
        have HY := Lib.hid hy
        have TY := Lib.hid ht
        have D2 := Lib.hid dy
        have FY := Lib.hid (T1.out.old kt G1.out)
        have XY : Hid (y2.heap[y.heap.size]? = some (.cells #[.int .i64 (rc : Nat), .int .u64 (rv : Nat)] 36 (0, 0))) := Lib.hid (kt.fr.keep _ _ X1.out (by
          have e1 := X1.out
          obtain ⟨_, _, h2⟩ := T1.out.lok.top'
          obtain ⟨D0, hD0, _⟩ := T1.out.ses
          obtain ⟨_, _, h1⟩ := hD0.top'
          refine ⟨fun e => ?_, fun e => ?_⟩
          · rw [e, h1] at e1; cases e1
          · rw [e, h2] at e1; cases e1))
        clear AC ht kt H1 T1 G1 B1 hy dy DY X1 hWZ hW1 q0 q1 z0 z1
        obtain ⟨mx, hmx⟩ : ∃ m, y.heap.size = m := ⟨_, rfl⟩
        rw [hmx] at XY ⊢
        clear hmx
        obtain ⟨W2, hW2⟩ : ∃ W, y2.alloc (.cells #[.int .i64 0, .int .u64 0] 38 (0, 0)) = W := ⟨_, rfl⟩
        have FA : Hid (Fr (fun _ _ => True) y2 W2) := hW2 ▸ (Fr.refl _ _).alloc _
        have XA : Hid (W2.heap[y2.heap.size]? = some (.cells #[.int .i64 0, .int .u64 0] 38 (0, 0))) := hW2 ▸ heap_alloc_new y2 _
        have q0 := cell_mk (i := 0) XA.out rfl
        have q1 := cell_mk (i := 1) XA.out rfl
        have z0 := frozen_mk (i := 0) XA.out
        have z1 := frozen_mk (i := 1) XA.out
        obtain ⟨v2, hWZ, TZ, FZ⟩ := set2 XA.out (.int .i64 (rc : Nat)) (.int .u64 (rv : Nat))
        have G3 : Hid (Fr (fun b _ => b < w.heap.size) w v2) := Lib.hid ((FY.out.trans (FA.out.mono fun _ _ _ => trivial)).trans (FZ.mono fun c _ h e => by have := FY.out.size; omega))
        have H2 := Lib.hid ((HY.out.fr FA.out).frk FZ ((HY.out.fr FA.out).kv_other XA.out FY.out.size (by decide)))
        have T2 := Lib.hid ((TY.out.tt FA.out).frk FZ ((TY.out.tt FA.out).kv_other XA.out FY.out.size (by decide)))
        have X2 := Lib.hid (FZ.keep _ _ (FA.out.keep _ _ XY.out trivial) (by have := lt_of_some XY.out; omega))
        have XZ := Lib.hid TZ
        have PC := Lib.hid (svpack_calls v2 s1 b1 b2 M' L' H2.out HM'.out)
        clear TZ FZ FA XA HY TY FY XY
        go_wp2_with fail
        try rw [hWZ]
        (with_reducible refine PC.out.mono ?_)
        rintro e w4 ⟨⟨ap, cp, rfl, bp⟩, f4⟩
        clear hWZ hW2 q0 q1 z0 z1
        obtain ⟨mz, hmz⟩ : ∃ m, y2.heap.size = m := ⟨_, rfl⟩
        rw [hmz] at XZ ⊢
        clear hmz
        have H4 := Lib.hid (H2.out.fr f4)
        have T4 := Lib.hid (T2.out.tt f4)
        have F4 := Lib.hid (G3.out.trans (f4.mono fun _ _ _ => trivial))
        have BP := Lib.hid bp
        have x0 := cell_mk (i := 0) (f4.keep _ _ X2.out trivial) rfl
        have x1 := cell_mk (i := 1) (f4.keep _ _ X2.out trivial) rfl
        have x2 := cell_mk (i := 0) (f4.keep _ _ XZ.out trivial) rfl
        have x3 := cell_mk (i := 1) (f4.keep _ _ XZ.out trivial) rfl
        have DC := Lib.hid (dspack_calls w4 T4.out HM'.out)
        have LS := svB_len M' L'
        obtain ⟨SB, hSB⟩ : ∃ s, svB M' L' = s := ⟨_, rfl⟩
        rw [hSB] at BP DC LS ⊢
        clear hSB bp f4 PC H2 T2 G3 X2 XZ
        go_wp2_with fail
        (with_reducible refine DC.out.mono ?_)
        rintro e w5 ⟨⟨aq, cq, rfl, bq⟩, f5⟩
        have H5 := Lib.hid (H4.out.fr f5)
        have T5 := Lib.hid (T4.out.tt f5)
        have F5 := Lib.hid (F4.out.trans (f5.mono fun _ _ _ => trivial))
        have SC := Lib.hid (same_calls w5 (.slice ap SB.length cp) (.slice aq SB.length cq) SB SB (BP.out.tt f5) bq (by omega))
        rw [show decide (SB = SB) = true from decide_eq_true rfl] at SC
        clear bq f5 DC BP F4 H4 T4 LS
        go_wp2_with fail
        (with_reducible refine SC.out.mono ?_)
        rintro e w6 ⟨rfl, n6, hw6⟩
        have f6 : Fr (fun _ _ => True) w5 w6 := by rw [hw6]; exact (Fr.refl _ _).drewN n6
        have H6 := Lib.hid (H5.out.fr f6)
        have T6 := Lib.hid (T5.out.tt f6)
        have F6 := Lib.hid (F5.out.trans (f6.mono fun _ _ _ => trivial))
        have SE := Lib.hid (sess_calls w6 s1 _ b1 H6.out.st)
        have LE := Lib.hid (locks_calls w6 s1 (.bool true) _ b2 H6.out.st)
        have PM := Lib.hid (pack_calls w6 w.heap.size b1 M' H6.out.se.tm (by have := HM'.out.few; omega) fun x hx => by have := HM'.out.rng x hx; omega)
        have PS := packL_short HM'.out
        obtain ⟨SA, hSA⟩ : ∃ s, packL (sortM M') = s := ⟨_, rfl⟩
        have HSA := Lib.hid hSA
        rw [hSA] at PM PS
        clear hw6 f6 SC H5 T5 F5 x0 x1 x2 x3 hSA
        go_wp2_with fail
        (with_reducible refine SE.out.mono ?_)
        rintro e w7 ⟨rfl, rfl⟩
        go_wp2_with fail
        (with_reducible refine LE.out.mono ?_)
        rintro e w7 ⟨rfl, rfl⟩
        clear SE LE
        go_wp2_with fail
        (with_reducible refine PM.out.mono ?_)
        rintro e w7 ⟨⟨am, cm, rfl, bm⟩, f7⟩
        have H7 := Lib.hid (H6.out.fr f7)
        have T7 := Lib.hid (T6.out.tt f7)
        have F7 := Lib.hid (F6.out.trans (f7.mono fun _ _ _ => trivial))
        have BM := Lib.hid bm
        have PN := Lib.hid (lkpack_calls w7 b2 L' H7.out.lk)
        have PL : (lkB L').length ≤ 1000 := by have := lkK_len T7.out.lok.okk 4; show (lkK L' 4).length ≤ _; omega
        obtain ⟨SL, hSL⟩ : ∃ s, lkB L' = s := ⟨_, rfl⟩
        have HSL := Lib.hid hSL
        rw [hSL] at PN PL
        clear bm f7 PM H6 T6 F6 hSL
        go_wp2_with fail
        (with_reducible refine PN.out.mono ?_)
        rintro e w8 ⟨⟨an, cn, rfl, bn⟩, f8⟩
        have H8 := Lib.hid (H7.out.fr f8)
        have T8 := Lib.hid (T7.out.tt f8)
        have F8 := Lib.hid (F7.out.trans (f8.mono fun _ _ _ => trivial))
        have BN := Lib.hid bn
        have BM8 := Lib.hid (BM.out.tt f8)
        obtain ⟨t0, t1⟩ := T8.out.cells w8 (Fr.refl _ _)
        have DP := Lib.hid (ds_spack w8 T8.out)
        rw [HSA.out] at DP
        clear bn f8 PN H7 T7 F7 BM t1
        go_wp2_with fail
        (with_reducible refine DP.out.mono ?_)
        rintro e w9 ⟨⟨ao, co, rfl, bo⟩, f9⟩
        have H9 := Lib.hid (H8.out.fr f9)
        have T9 := Lib.hid (T8.out.tt f9)
        have F9 := Lib.hid (F8.out.trans (f9.mono fun _ _ _ => trivial))
        have BN9 := Lib.hid (BN.out.tt f9)
        have BO : BytesAt (New w8.heap.size) w9 (.slice ao SA.length co) SA := BytesAt.of_own bo rfl
        have SC := Lib.hid (same_calls w9 (.slice am SA.length cm) (.slice ao SA.length co) SA SA (BM8.out.tt f9) BO (by omega))
        rw [show decide (SA = SA) = true from decide_eq_true rfl] at SC
        clear bo BO f9 DP H8 T8 F8 BN BM8 t0
        go_wp2_with fail
        (with_reducible refine SC.out.mono ?_)
        rintro e wa ⟨rfl, na, hwa⟩
        have fa : Fr (fun _ _ => True) w9 wa := by rw [hwa]; exact (Fr.refl _ _).drewN na
        have HA := Lib.hid (H9.out.fr fa)
        have TA := Lib.hid (T9.out.tt fa)
        have FA := Lib.hid (F9.out.trans (fa.mono fun _ _ _ => trivial))
        have BNA := Lib.hid (BN9.out.tt fa)
        obtain ⟨t0, t1⟩ := TA.out.cells wa (Fr.refl _ _)
        have DP := Lib.hid (dlpack_calls wa d2 L' TA.out.lok)
        rw [HSL.out] at DP
        clear hwa fa SC H9 T9 F9 BN9 t0 PS
        go_wp2_with fail
        (with_reducible refine DP.out.mono ?_)
        rintro e wb ⟨⟨ar, cr, rfl, br⟩, fb⟩
        have HB := Lib.hid (HA.out.fr fb)
        have TB := Lib.hid (TA.out.tt fb)
        have FB := Lib.hid (FA.out.trans (fb.mono fun _ _ _ => trivial))
        have SC := Lib.hid (same_calls wb (.slice an SL.length cn) (.slice ar SL.length cr) SL SL (BNA.out.tt fb) br (by omega))
        rw [show decide (SL = SL) = true from decide_eq_true rfl] at SC
        clear br fb DP HA TA FA BNA t1
        go_wp2_with fail
        (with_reducible refine SC.out.mono ?_)
        rintro e wc ⟨rfl, nc, hwc⟩
        have fc : Fr (fun _ _ => True) wb wc := by rw [hwc]; exact (Fr.refl _ _).drewN nc
        have HC2 := Lib.hid (HB.out.fr fc)
        have TC := Lib.hid (TB.out.tt fc)
        have FC := Lib.hid (FB.out.trans (fc.mono fun _ _ _ => trivial))
        clear hwc fc SC HB TB FB
        go_wp2
        go_roundw
        case rel => exact ⟨j + 1, P1, Q1, G2, M', L', by omega, by go_num, HC2.out, TC.out, D2.out, HM'.out, HN'.out, FC.out⟩
        case measure => simp [intOf]; omega
      · have hatb : ((j : Int) == at') = false := by simpa using hat
        clear hat
        go_wp2_with fail
        (with_reducible refine BC.out.mono ?_)
        rintro e u ⟨⟨ab, capb, rfl, bb⟩, fb⟩
        have HB := Lib.hid (H.out.fr fb)
        have TB := Lib.hid (T.out.tt fb)
        have FB := Lib.hid (F.out.trans (fb.mono fun _ _ _ => trivial))
        have BB : Hid (BytesAt (KU w.heap.size) u (.slice ab cb.length capb) cb) := Lib.hid (bb.mono fun c o _ h => .inr h.2)
        clear BC bb fb g0 g1 g2 g3 g4 g5 g6 H T F
        obtain ⟨rc, rv, M', L', hact⟩ : ∃ rc rv M' L', applyM M L cb = (⟨rc, rv⟩, M', L') := ⟨_, _, _, _, rfl⟩
        have HM' : Hid (MF M') := by have := HM.out.applyM L cb; rwa [hact] at this
        have HN' : Hid (M9 M') := by have := HN.out.applyM L cb; rwa [hact] at this
        have AC := Lib.hid (apply_calls u s1 b1 b2 M L _ cb HB.out FB.out.size BB.out CL.out)
        rw [hact] at AC
        unfold vR at AC
        dsimp only at AC
        have HACN := Lib.hid hact
        clear hact
        go_wp2_with fail
        (with_reducible refine AC.out.mono ?_)
        rintro e y ⟨rfl, P1, Q1, hy, ky⟩
        obtain ⟨ty, dy⟩ := TB.out.bySV HB.out ky D.out
        have HY := Lib.hid hy
        have TY := Lib.hid ty
        have DY := Lib.hid dy
        have FY := Lib.hid (HB.out.old ky FB.out)
        have BY := Lib.hid (HB.out.keepu ky BB.out)
        clear AC hy ky HB TB FB BB ty dy HM D
        obtain ⟨W1, hW1⟩ : ∃ W, y.alloc (.cells #[.int .i64 0, .int .u64 0] 36 (0, 0)) = W := ⟨_, rfl⟩
        have FA : Hid (Fr (fun _ _ => True) y W1) := hW1 ▸ (Fr.refl _ _).alloc _
        have XA : Hid (W1.heap[y.heap.size]? = some (.cells #[.int .i64 0, .int .u64 0] 36 (0, 0))) := hW1 ▸ heap_alloc_new y _
        have q0 := cell_mk (i := 0) XA.out rfl
        have q1 := cell_mk (i := 1) XA.out rfl
        have z0 := frozen_mk (i := 0) XA.out
        have z1 := frozen_mk (i := 1) XA.out
        obtain ⟨v1, hWZ, TZ, FZ⟩ := set2 XA.out (.int .i64 (rc : Nat)) (.int .u64 (rv : Nat))
        have G1 : Hid (Fr (fun b _ => b < w.heap.size) w v1) := Lib.hid ((FY.out.trans (FA.out.mono fun _ _ _ => trivial)).trans (FZ.mono fun c _ h e => by have := FY.out.size; omega))
        have H1 := Lib.hid ((HY.out.fr FA.out).frk FZ ((HY.out.fr FA.out).kv_other XA.out FY.out.size (by decide)))
        have T1 := Lib.hid ((TY.out.tt FA.out).frk FZ ((TY.out.tt FA.out).kv_other XA.out FY.out.size (by decide)))
        have B1 := Lib.hid (keep_bu (BY.out.tt FA.out) FZ XA.out FY.out.size (by decide))
        have X1 := Lib.hid TZ
        have AC := Lib.hid (dapply_calls v1 bd d1 d2 M L _ cb T1.out G1.out.size B1.out CL.out HN.out)
        rw [HACN.out] at AC
        unfold vR at AC
        dsimp only at AC
        clear TZ FZ FA XA HY TY FY BY HN
        go_wp2_with fail
        try rw [hWZ]
        (with_reducible refine AC.out.mono ?_)
        rintro e y2 ⟨rfl, G2, ht, kt⟩
        obtain ⟨hy, dy⟩ := H1.out.byDS T1.out kt DY.out
        have HY := Lib.hid hy
        have TY := Lib.hid ht
        have D2 := Lib.hid dy
        have FY := Lib.hid (T1.out.old kt G1.out)
        have XY : Hid (y2.heap[y.heap.size]? = some (.cells #[.int .i64 (rc : Nat), .int .u64 (rv : Nat)] 36 (0, 0))) := Lib.hid (kt.fr.keep _ _ X1.out (by
          have e1 := X1.out
          obtain ⟨_, _, h2⟩ := T1.out.lok.top'
          obtain ⟨D0, hD0, _⟩ := T1.out.ses
          obtain ⟨_, _, h1⟩ := hD0.top'
          refine ⟨fun e => ?_, fun e => ?_⟩
          · rw [e, h1] at e1; cases e1
          · rw [e, h2] at e1; cases e1))
        clear AC ht kt H1 T1 G1 B1 hy dy DY X1 hWZ hW1 q0 q1 z0 z1
        obtain ⟨mx, hmx⟩ : ∃ m, y.heap.size = m := ⟨_, rfl⟩
        rw [hmx] at XY ⊢
        clear hmx
        obtain ⟨W2, hW2⟩ : ∃ W, y2.alloc (.cells #[.int .i64 0, .int .u64 0] 38 (0, 0)) = W := ⟨_, rfl⟩
        have FA : Hid (Fr (fun _ _ => True) y2 W2) := hW2 ▸ (Fr.refl _ _).alloc _
        have XA : Hid (W2.heap[y2.heap.size]? = some (.cells #[.int .i64 0, .int .u64 0] 38 (0, 0))) := hW2 ▸ heap_alloc_new y2 _
        have q0 := cell_mk (i := 0) XA.out rfl
        have q1 := cell_mk (i := 1) XA.out rfl
        have z0 := frozen_mk (i := 0) XA.out
        have z1 := frozen_mk (i := 1) XA.out
        obtain ⟨v2, hWZ, TZ, FZ⟩ := set2 XA.out (.int .i64 (rc : Nat)) (.int .u64 (rv : Nat))
        have G3 : Hid (Fr (fun b _ => b < w.heap.size) w v2) := Lib.hid ((FY.out.trans (FA.out.mono fun _ _ _ => trivial)).trans (FZ.mono fun c _ h e => by have := FY.out.size; omega))
        have H2 := Lib.hid ((HY.out.fr FA.out).frk FZ ((HY.out.fr FA.out).kv_other XA.out FY.out.size (by decide)))
        have T2 := Lib.hid ((TY.out.tt FA.out).frk FZ ((TY.out.tt FA.out).kv_other XA.out FY.out.size (by decide)))
        have X2 := Lib.hid (FZ.keep _ _ (FA.out.keep _ _ XY.out trivial) (by have := lt_of_some XY.out; omega))
        have XZ := Lib.hid TZ
        have PC := Lib.hid (svpack_calls v2 s1 b1 b2 M' L' H2.out HM'.out)
        clear TZ FZ FA XA HY TY FY XY
        go_wp2_with fail
        try rw [hWZ]
        (with_reducible refine PC.out.mono ?_)
        rintro e w4 ⟨⟨ap, cp, rfl, bp⟩, f4⟩
        clear hWZ hW2 q0 q1 z0 z1
        obtain ⟨mz, hmz⟩ : ∃ m, y2.heap.size = m := ⟨_, rfl⟩
        rw [hmz] at XZ ⊢
        clear hmz
        have H4 := Lib.hid (H2.out.fr f4)
        have T4 := Lib.hid (T2.out.tt f4)
        have F4 := Lib.hid (G3.out.trans (f4.mono fun _ _ _ => trivial))
        have BP := Lib.hid bp
        have x0 := cell_mk (i := 0) (f4.keep _ _ X2.out trivial) rfl
        have x1 := cell_mk (i := 1) (f4.keep _ _ X2.out trivial) rfl
        have x2 := cell_mk (i := 0) (f4.keep _ _ XZ.out trivial) rfl
        have x3 := cell_mk (i := 1) (f4.keep _ _ XZ.out trivial) rfl
        have DC := Lib.hid (dspack_calls w4 T4.out HM'.out)
        have LS := svB_len M' L'
        obtain ⟨SB, hSB⟩ : ∃ s, svB M' L' = s := ⟨_, rfl⟩
        rw [hSB] at BP DC LS ⊢
        clear hSB bp f4 PC H2 T2 G3 X2 XZ
        go_wp2_with fail
        (with_reducible refine DC.out.mono ?_)
        rintro e w5 ⟨⟨aq, cq, rfl, bq⟩, f5⟩
        have H5 := Lib.hid (H4.out.fr f5)
        have T5 := Lib.hid (T4.out.tt f5)
        have F5 := Lib.hid (F4.out.trans (f5.mono fun _ _ _ => trivial))
        have SC := Lib.hid (same_calls w5 (.slice ap SB.length cp) (.slice aq SB.length cq) SB SB (BP.out.tt f5) bq (by omega))
        rw [show decide (SB = SB) = true from decide_eq_true rfl] at SC
        clear bq f5 DC BP F4 H4 T4 LS
        go_wp2_with fail
        (with_reducible refine SC.out.mono ?_)
        rintro e w6 ⟨rfl, n6, hw6⟩
        have f6 : Fr (fun _ _ => True) w5 w6 := by rw [hw6]; exact (Fr.refl _ _).drewN n6
        have H6 := Lib.hid (H5.out.fr f6)
        have T6 := Lib.hid (T5.out.tt f6)
        have F6 := Lib.hid (F5.out.trans (f6.mono fun _ _ _ => trivial))
        have SE := Lib.hid (sess_calls w6 s1 _ b1 H6.out.st)
        have LE := Lib.hid (locks_calls w6 s1 (.bool true) _ b2 H6.out.st)
        have PM := Lib.hid (pack_calls w6 w.heap.size b1 M' H6.out.se.tm (by have := HM'.out.few; omega) fun x hx => by have := HM'.out.rng x hx; omega)
        have PS := packL_short HM'.out
        obtain ⟨SA, hSA⟩ : ∃ s, packL (sortM M') = s := ⟨_, rfl⟩
        have HSA := Lib.hid hSA
        rw [hSA] at PM PS
        clear hw6 f6 SC H5 T5 F5 x0 x1 x2 x3 hSA
        go_wp2_with fail
        (with_reducible refine SE.out.mono ?_)
        rintro e w7 ⟨rfl, rfl⟩
        go_wp2_with fail
        (with_reducible refine LE.out.mono ?_)
        rintro e w7 ⟨rfl, rfl⟩
        clear SE LE
        go_wp2_with fail
        (with_reducible refine PM.out.mono ?_)
        rintro e w7 ⟨⟨am, cm, rfl, bm⟩, f7⟩
        have H7 := Lib.hid (H6.out.fr f7)
        have T7 := Lib.hid (T6.out.tt f7)
        have F7 := Lib.hid (F6.out.trans (f7.mono fun _ _ _ => trivial))
        have BM := Lib.hid bm
        have PN := Lib.hid (lkpack_calls w7 b2 L' H7.out.lk)
        have PL : (lkB L').length ≤ 1000 := by have := lkK_len T7.out.lok.okk 4; show (lkK L' 4).length ≤ _; omega
        obtain ⟨SL, hSL⟩ : ∃ s, lkB L' = s := ⟨_, rfl⟩
        have HSL := Lib.hid hSL
        rw [hSL] at PN PL
        clear bm f7 PM H6 T6 F6 hSL
        go_wp2_with fail
        (with_reducible refine PN.out.mono ?_)
        rintro e w8 ⟨⟨an, cn, rfl, bn⟩, f8⟩
        have H8 := Lib.hid (H7.out.fr f8)
        have T8 := Lib.hid (T7.out.tt f8)
        have F8 := Lib.hid (F7.out.trans (f8.mono fun _ _ _ => trivial))
        have BN := Lib.hid bn
        have BM8 := Lib.hid (BM.out.tt f8)
        obtain ⟨t0, t1⟩ := T8.out.cells w8 (Fr.refl _ _)
        have DP := Lib.hid (ds_spack w8 T8.out)
        rw [HSA.out] at DP
        clear bn f8 PN H7 T7 F7 BM t1
        go_wp2_with fail
        (with_reducible refine DP.out.mono ?_)
        rintro e w9 ⟨⟨ao, co, rfl, bo⟩, f9⟩
        have H9 := Lib.hid (H8.out.fr f9)
        have T9 := Lib.hid (T8.out.tt f9)
        have F9 := Lib.hid (F8.out.trans (f9.mono fun _ _ _ => trivial))
        have BN9 := Lib.hid (BN.out.tt f9)
        have BO : BytesAt (New w8.heap.size) w9 (.slice ao SA.length co) SA := BytesAt.of_own bo rfl
        have SC := Lib.hid (same_calls w9 (.slice am SA.length cm) (.slice ao SA.length co) SA SA (BM8.out.tt f9) BO (by omega))
        rw [show decide (SA = SA) = true from decide_eq_true rfl] at SC
        clear bo BO f9 DP H8 T8 F8 BN BM8 t0
        go_wp2_with fail
        (with_reducible refine SC.out.mono ?_)
        rintro e wa ⟨rfl, na, hwa⟩
        have fa : Fr (fun _ _ => True) w9 wa := by rw [hwa]; exact (Fr.refl _ _).drewN na
        have HA := Lib.hid (H9.out.fr fa)
        have TA := Lib.hid (T9.out.tt fa)
        have FA := Lib.hid (F9.out.trans (fa.mono fun _ _ _ => trivial))
        have BNA := Lib.hid (BN9.out.tt fa)
        obtain ⟨t0, t1⟩ := TA.out.cells wa (Fr.refl _ _)
        have DP := Lib.hid (dlpack_calls wa d2 L' TA.out.lok)
        rw [HSL.out] at DP
        clear hwa fa SC H9 T9 F9 BN9 t0 PS
        go_wp2_with fail
        (with_reducible refine DP.out.mono ?_)
        rintro e wb ⟨⟨ar, cr, rfl, br⟩, fb⟩
        have HB := Lib.hid (HA.out.fr fb)
        have TB := Lib.hid (TA.out.tt fb)
        have FB := Lib.hid (FA.out.trans (fb.mono fun _ _ _ => trivial))
        have SC := Lib.hid (same_calls wb (.slice an SL.length cn) (.slice ar SL.length cr) SL SL (BNA.out.tt fb) br (by omega))
        rw [show decide (SL = SL) = true from decide_eq_true rfl] at SC
        clear br fb DP HA TA FA BNA t1
        go_wp2_with fail
        (with_reducible refine SC.out.mono ?_)
        rintro e wc ⟨rfl, nc, hwc⟩
        have fc : Fr (fun _ _ => True) wb wc := by rw [hwc]; exact (Fr.refl _ _).drewN nc
        have HC2 := Lib.hid (HB.out.fr fc)
        have TC := Lib.hid (TB.out.tt fc)
        have FC := Lib.hid (FB.out.trans (fc.mono fun _ _ _ => trivial))
        clear hwc fc SC HB TB FB
        go_wp2
        go_roundw
        case rel => exact ⟨j + 1, P1, Q1, G2, M', L', by omega, by go_num, HC2.out, TC.out, D2.out, HM'.out, HN'.out, FC.out⟩
        case measure => simp [intOf]; omega
    · have hge : (len : Int) ≤ j := by omega
      go_wp2
      go_ret
      exact ⟨rfl, F.out.below (Nat.le_refl _)⟩
theorem plays_walk (a : Option Addr) (len cap : Nat) (a1 : Option Addr) (len1 cap1 : Nat) (at' : Int) (w : World) (h : Rd Tryz.prog w 22 [.slice a len cap]) (h1 : Rd Tryz.prog w 23 [.slice a1 len1 cap1]) :
    Calls Tryz.prog 3 #[.slice a len cap, .slice a1 len1 cap1, .int .i64 at'] w fun e w' => e = .returned (.bool true) ∧ Below w.heap.size w w' := by
  by_cases hc : 80 < len ∨ 100 < len1
  · exact plays_short a len cap a1 len1 cap1 at' w hc
  · obtain ⟨ob, hob, _⟩ := h1.bytes Tryz.underlying23 Tryz.underlying5 (by kernel_rfl)
    exact plays_main a len cap a1 len1 cap1 at' w h ob hob (by omega) (by omega)
end Go.Proofs.YtlolfcnfcgegdaaGreat
