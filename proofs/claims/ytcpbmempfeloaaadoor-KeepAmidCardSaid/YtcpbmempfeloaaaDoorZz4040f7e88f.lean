/- Texts of the proofs, part 32: what the functions that they reach do, walked; no conditions beyond those that each states. -/
import Derived.Test.YtcpbmempfeloaaaDoorZz42f3b17235
set_option linter.unusedVariables false
set_option linter.unusedSimpArgs false
/- Keep: Save (printed by ksave.py). -/
namespace Go.Proofs.YtcpbmempfeloaaaDoor
open Go.RowKit
set_option linter.unusedVariables false
set_option linter.unusedSimpArgs false

set_option maxRecDepth 100000 in
theorem save1_calls {R : World → Prop} (w : World) (bk b2 b3 : Nat) (s : Sta) (av : Option Addr) (nv cv : Nat) (c : Int) (h2 : w.cell? ⟨b2, 0, none⟩ = some (.pointer (some ⟨bk, 0, none⟩))) (x0 : w.cell? ⟨b3, 0, none⟩ = some (.int .u64 (s.term : Nat))) (x1 : w.cell? ⟨b3, 1, none⟩ = some (.int .i64 s.vote)) (x2 : w.cell? ⟨b3, 2, none⟩ = some (.int .u64 (s.base : Nat))) (x3 : w.cell? ⟨b3, 3, none⟩ = some (.int .u64 (s.bt : Nat))) (x4 : w.cell? ⟨b3, 4, none⟩ = some (.slice av nv cv))
    (h : Calls Tryd.prog 74 #[.pointer (some ⟨bk, 0, none⟩), vS s (.slice av nv cv)] w fun e w' => e = .returned (.int .i64 c) ∧ R w') :
    Calls Tryd.prog 73 #[.pointer (some ⟨b2, 0, none⟩), .pointer (some ⟨b3, 0, none⟩)] w fun e w' => e = .returned (.int .i64 c) ∧ R w' := by
  have H := Lib.hid h
  unfold vS at H
  clear h
  go_enter Tryd.func73, Tryd.ntmps73
  go_wp2_with fail
  (with_reducible refine H.out.mono ?_)
  rintro e w1 ⟨rfl, r⟩
  have R1 := Lib.hid r
  clear r H
  go_wp2
  go_ret
  exact ⟨rfl, R1.out⟩
set_option maxRecDepth 100000 in
theorem save2_calls {R : World → Prop} (w : World) (bk b2 b3 : Nat) (s : Sta) (av : Option Addr) (nv cv : Nat) (c : Int) (h2 : w.cell? ⟨b2, 0, none⟩ = some (.pointer (some ⟨bk, 0, none⟩))) (x0 : w.cell? ⟨b3, 0, none⟩ = some (.int .u64 (s.term : Nat))) (x1 : w.cell? ⟨b3, 1, none⟩ = some (.int .i64 s.vote)) (x2 : w.cell? ⟨b3, 2, none⟩ = some (.int .u64 (s.base : Nat))) (x3 : w.cell? ⟨b3, 3, none⟩ = some (.int .u64 (s.bt : Nat))) (x4 : w.cell? ⟨b3, 4, none⟩ = some (.slice av nv cv))
    (h : Calls Tryd.prog 76 #[.pointer (some ⟨bk, 0, none⟩), vL s.base s.bt (.slice av nv cv)] w fun e w' => e = .returned (.int .i64 c) ∧ R w') :
    Calls Tryd.prog 75 #[.pointer (some ⟨b2, 0, none⟩), .pointer (some ⟨b3, 0, none⟩)] w fun e w' => e = .returned (.int .i64 c) ∧ R w' := by
  have H := Lib.hid h
  unfold vL at H
  clear h
  go_enter Tryd.func75, Tryd.ntmps75
  go_wp2_with fail
  (with_reducible refine H.out.mono ?_)
  rintro e w1 ⟨rfl, r⟩
  have R1 := Lib.hid r
  clear r H
  go_wp2
  go_ret
  exact ⟨rfl, R1.out⟩
set_option maxRecDepth 100000 in
theorem save3_calls {R : World → Prop} (w : World) (bk b2 b3 : Nat) (s : Sta) (av : Option Addr) (nv cv : Nat) (c : Int) (h2 : w.cell? ⟨b2, 0, none⟩ = some (.pointer (some ⟨bk, 0, none⟩))) (x0 : w.cell? ⟨b3, 0, none⟩ = some (.int .u64 (s.term : Nat))) (x1 : w.cell? ⟨b3, 1, none⟩ = some (.int .i64 s.vote)) (x2 : w.cell? ⟨b3, 2, none⟩ = some (.int .u64 (s.base : Nat))) (x3 : w.cell? ⟨b3, 3, none⟩ = some (.int .u64 (s.bt : Nat))) (x4 : w.cell? ⟨b3, 4, none⟩ = some (.slice av nv cv))
    (h : Calls Tryd.prog 78 #[.pointer (some ⟨bk, 0, none⟩), vL s.base s.bt (.slice av nv cv)] w fun e w' => e = .returned (.int .i64 c) ∧ R w') :
    Calls Tryd.prog 77 #[.pointer (some ⟨b2, 0, none⟩), .pointer (some ⟨b3, 0, none⟩)] w fun e w' => e = .returned (.int .i64 c) ∧ R w' := by
  have H := Lib.hid h
  unfold vL at H
  clear h
  go_enter Tryd.func77, Tryd.ntmps77
  go_wp2_with fail
  (with_reducible refine H.out.mono ?_)
  rintro e w1 ⟨rfl, r⟩
  have R1 := Lib.hid r
  clear r H
  go_wp2
  go_ret
  exact ⟨rfl, R1.out⟩
set_option maxRecDepth 100000 in
theorem save4_calls {R : World → Prop} (w : World) (bk b2 b3 : Nat) (s : Sta) (av : Option Addr) (nv cv : Nat) (c : Int) (h2 : w.cell? ⟨b2, 0, none⟩ = some (.pointer (some ⟨bk, 0, none⟩))) (x0 : w.cell? ⟨b3, 0, none⟩ = some (.int .u64 (s.term : Nat))) (x1 : w.cell? ⟨b3, 1, none⟩ = some (.int .i64 s.vote)) (x2 : w.cell? ⟨b3, 2, none⟩ = some (.int .u64 (s.base : Nat))) (x3 : w.cell? ⟨b3, 3, none⟩ = some (.int .u64 (s.bt : Nat))) (x4 : w.cell? ⟨b3, 4, none⟩ = some (.slice av nv cv))
    (h : Calls Tryd.prog 80 #[.pointer (some ⟨bk, 0, none⟩), vL s.base s.bt (.slice av nv cv)] w fun e w' => e = .returned (.int .i64 c) ∧ R w') :
    Calls Tryd.prog 79 #[.pointer (some ⟨b2, 0, none⟩), .pointer (some ⟨b3, 0, none⟩)] w fun e w' => e = .returned (.int .i64 c) ∧ R w' := by
  have H := Lib.hid h
  unfold vL at H
  clear h
  go_enter Tryd.func79, Tryd.ntmps79
  go_wp2_with fail
  (with_reducible refine H.out.mono ?_)
  rintro e w1 ⟨rfl, r⟩
  have R1 := Lib.hid r
  clear r H
  go_wp2
  go_ret
  exact ⟨rfl, R1.out⟩
/-- From step i on. -/
def rnK (s : Sta) : Nat → Ke → Jn → Dk → Int × Ke × Jn × Dk
  | 0, K, J, D => stepsK K J D s
  | 1, K, J, D => if (trimK K J D s).1 ≠ 0 then trimK K J D s else if (cutK (trimK K J D s).2.1 (trimK K J D s).2.2.1 (trimK K J D s).2.2.2 s).1 ≠ 0 then cutK (trimK K J D s).2.1 (trimK K J D s).2.2.1 (trimK K J D s).2.2.2 s
    else addK (cutK (trimK K J D s).2.1 (trimK K J D s).2.2.1 (trimK K J D s).2.2.2 s).2.1 (cutK (trimK K J D s).2.1 (trimK K J D s).2.2.1 (trimK K J D s).2.2.2 s).2.2.1 (cutK (trimK K J D s).2.1 (trimK K J D s).2.2.1 (trimK K J D s).2.2.2 s).2.2.2 s
  | 2, K, J, D => if (cutK K J D s).1 ≠ 0 then cutK K J D s else addK (cutK K J D s).2.1 (cutK K J D s).2.2.1 (cutK K J D s).2.2.2 s
  | 3, K, J, D => addK K J D s
  | _, K, J, D => (0, K, J, D)
theorem rnK0 (s : Sta) (K : Ke) (J : Jn) (D : Dk) : rnK s 0 K J D = if (markK K D s).1 ≠ 0 then ((markK K D s).1, (markK K D s).2.1, J, (markK K D s).2.2) else rnK s 1 (markK K D s).2.1 J (markK K D s).2.2 := rfl
theorem rnK1 (s : Sta) (K : Ke) (J : Jn) (D : Dk) : rnK s 1 K J D = if (trimK K J D s).1 ≠ 0 then trimK K J D s else rnK s 2 (trimK K J D s).2.1 (trimK K J D s).2.2.1 (trimK K J D s).2.2.2 := rfl
theorem rnK2 (s : Sta) (K : Ke) (J : Jn) (D : Dk) : rnK s 2 K J D = if (cutK K J D s).1 ≠ 0 then cutK K J D s else rnK s 3 (cutK K J D s).2.1 (cutK K J D s).2.2.1 (cutK K J D s).2.2.2 := rfl
theorem rnK3 (s : Sta) (K : Ke) (J : Jn) (D : Dk) : rnK s 3 K J D = if (addK K J D s).1 ≠ 0 then addK K J D s else rnK s 4 (addK K J D s).2.1 (addK K J D s).2.2.1 (addK K J D s).2.2.2 := by
  show addK K J D s = if (addK K J D s).1 ≠ 0 then addK K J D s else (0, (addK K J D s).2.1, (addK K J D s).2.2.1, (addK K J D s).2.2.2)
  by_cases h : (addK K J D s).1 = 0
  · rw [if_neg (fun k => k h)]
    generalize addK K J D s = T at h
    obtain ⟨a, b, c, d⟩ := T
    dsimp only at h
    rw [h]
  · rw [if_pos h]
theorem pend_markK (K : Ke) (D : Dk) (s : Sta) : (markK K D s).2.2.pend.length ≤ D.pend.length + 1 := by
  unfold markK
  split
  · dsimp only; omega
  · exact pend_saveM D 1 _
theorem pend_jsave (J : Jn) (D : Dk) : (jsave J D).2.pend.length ≤ D.pend.length + 1 := pend_saveM D _ _
theorem pend_jtrim (J : Jn) (D : Dk) (k : Int) : (jtrim J D k).2.2.pend.length ≤ D.pend.length + 1 := by
  unfold jtrim
  split
  · dsimp only; omega
  · exact pend_jsave _ D
theorem pend_trimK (K : Ke) (J : Jn) (D : Dk) (s : Sta) : (trimK K J D s).2.2.2.pend.length ≤ D.pend.length + 1 := by
  unfold trimK
  split
  · dsimp only; omega
  · exact pend_jtrim J D _
theorem pend_jzero (J : Jn) : ∀ (k i : Nat) (D : Dk), (jzero J k i D).pend.length ≤ D.pend.length + k
  | 0, i, D => Nat.le_refl _
  | k + 1, i, D => by
    have h1 := pend_jzero J k (i - 1) (D.write (J.sec ((J.first + (i - 1)) % 4294967296)) []).2
    have h2 := pend_write D (J.sec ((J.first + (i - 1)) % 4294967296)) []
    show (jzero J k (i - 1) _).pend.length ≤ _
    omega
theorem pend_jcut (J : Jn) (D : Dk) (k : Int) : (jcut J D k).2.2.pend.length ≤ D.pend.length + k.toNat + 1 := by
  unfold jcut
  split
  · dsimp only; omega
  · split
    · dsimp only; omega
    · refine Nat.le_trans (pend_jsave _ _) ?_
      have h1 := pend_sync (jzero J k.toNat J.held.length D.sync)
      have h2 := pend_jzero J k.toNat J.held.length D.sync
      have h3 := pend_sync D
      omega
theorem pend_cutK (K : Ke) (J : Jn) (D : Dk) (s : Sta) : (cutK K J D s).2.2.2.pend.length ≤ D.pend.length + K.held.length + 1 := by
  unfold cutK
  split
  · dsimp only; omega
  · refine Nat.le_trans (pend_jcut J D _) ?_
    rw [Int.toNat_natCast]
    omega
theorem held_markK (K : Ke) (D : Dk) (s : Sta) : (markK K D s).2.1.held = K.held := by
  unfold markK
  split <;> rfl
theorem held_trimK (K : Ke) (J : Jn) (D : Dk) (s : Sta) : (trimK K J D s).2.1.held.length ≤ K.held.length := by
  unfold trimK
  split
  · exact Nat.le_refl _
  · show (K.held.drop _).length ≤ _
    rw [List.length_drop]; omega
theorem held_cutK (K : Ke) (J : Jn) (D : Dk) (s : Sta) : (cutK K J D s).2.1.held.length ≤ K.held.length ∧ (cutK K J D s).2.1.held.length ≤ s.es.length := by
  obtain ⟨p, e1, e2, e3, e4⟩ := cutN_spec s K.held 0
  unfold cutK
  split
  · refine ⟨Nat.le_refl _, ?_⟩
    show K.held.length ≤ _
    omega
  · show (K.held.take _).length ≤ _ ∧ (K.held.take _).length ≤ _
    rw [List.length_take]; omega
end Go.Proofs.YtcpbmempfeloaaaDoor
/- Keep: Save (printed by ksave2.py). -/
namespace Go.Proofs.YtcpbmempfeloaaaDoor
open Go.RowKit
set_option linter.unusedVariables false
set_option linter.unusedSimpArgs false

theorem km_down {n : Nat} {X P : Nat → Prop} {w : World} {bk bj bd : Nat} {ring : Int} {K : Ke} {J : Jn} {D : Dk} {a4 : Option Addr} {c4 : Nat} {hv : Value} {rs : List RV} (h : KM n X P w bk bj bd ring K J D a4 c4 hv rs) :
    Calls Tryd.prog 81 #[.pointer (some ⟨bd, 0, none⟩)] w fun e w' => e = .returned (.bool D.down) ∧ w = w' := by
  obtain ⟨F, G, h1, h2, h3, h4, h5⟩ := h.st.jd
  exact down_calls w bd F D h1
/-- At step i of a save. -/
def SInv (n : Nat) (X : Nat → Prop) (W2 : World) (bk bj bd rg : Nat) (s : Sta) (T : Int × Ke × Jn × Dk) (D0 nx i : Nat) (wr : World) : Prop :=
  ∃ (K' : Ke) (J' : Jn) (D' : Dk) (X' P' : Nat → Prop) (a' : Option Addr) (c' : Nat) (hv' : Value) (rs' : List RV), rnK s i K' J' D' = T ∧ KM n X' P' wr bk bj bd (rg : Nat) K' J' D' a' c' hv' rs' ∧ Kp X X' W2 wr ∧ D'.pend.length ≤ D0 + i * 600 ∧ rs'.length ≤ 500 ∧ (i = 3 → rs'.length ≤ nx)
theorem KM.hlen {n : Nat} {X P : Nat → Prop} {w : World} {bk bj bd : Nat} {ring : Int} {K : Ke} {J : Jn} {D : Dk} {a4 : Option Addr} {c4 : Nat} {hv : Value} {rs : List RV} (h : KM n X P w bk bj bd ring K J D a4 c4 hv rs) : rs.length = K.held.length := by rw [← h.rc, List.length_map]
set_option maxRecDepth 100000 in
set_option maxHeartbeats 8000000 in
/-- Save. -/
theorem ksave_calls {n : Nat} {X P : Nat → Prop} {w : World} {bk bj bd rg : Nat} {K : Ke} {J : Jn} {D : Dk} {a4 : Option Addr} {c4 : Nat} {hv : Value} {rs : List RV} (h : KM n X P w bk bj bd (rg : Nat) K J D a4 c4 hv rs) (h0 : 0 < n) (hn : n ≤ w.heap.size)
    (s : Sta) (v : Value) (xs : List EV) (hs : SA n X w s v xs) (hw : s.wf) (ht : TabOK w) (hq : D.pend.length < 800000) (hl : xs.length ≤ 9223372036854775807) (hrg : rg ≤ 1000) (hrl : rs.length ≤ 500) :
    Calls Tryd.prog 35 #[.pointer (some ⟨bk, 0, none⟩), vS s v] w fun e w' => e = .returned (.int .i64 (saveK rg K J D s).1) ∧ ∃ X' P' a4' c4' hv' rs', KM n X' P' w' bk bj bd (rg : Nat) (saveK rg K J D s).2.1 (saveK rg K J D s).2.2.1 (saveK rg K J D s).2.2.2 a4' c4' hv' rs' ∧ Kp X X' w w' := by
  obtain ⟨av, cv, rfl, _⟩ := hs.rows.form
  obtain ⟨nx, hnx⟩ : ∃ k, xs.length = k := ⟨_, rfl⟩
  rw [hnx] at hs hl ⊢
  obtain ⟨W1, hW1⟩ : ∃ W, w.alloc (.cells #[.pointer (some ⟨bk, 0, none⟩)] 69 (0, 0)) = W := ⟨_, rfl⟩
  have F1 : Hid (Fr (fun _ _ => True) w W1) := hW1 ▸ (Fr.refl _ _).alloc _
  have X1 : Hid (W1.heap[w.heap.size]? = some (.cells #[.pointer (some ⟨bk, 0, none⟩)] 69 (0, 0))) := hW1 ▸ heap_alloc_new w _
  obtain ⟨W2, hW2⟩ : ∃ W, W1.alloc (.cells #[.int .u64 (s.term : Nat), .int .i64 s.vote, .int .u64 (s.base : Nat), .int .u64 (s.bt : Nat), .slice av nx cv] 68 (0, 0)) = W := ⟨_, rfl⟩
  have F12 : Hid (Fr (fun _ _ => True) W1 W2) := hW2 ▸ (Fr.refl _ _).alloc _
  have X2 : Hid (W2.heap[W1.heap.size]? = some (.cells #[.int .u64 (s.term : Nat), .int .i64 s.vote, .int .u64 (s.base : Nat), .int .u64 (s.bt : Nat), .slice av nx cv] 68 (0, 0))) := hW2 ▸ heap_alloc_new W1 _
  have F2 : Hid (Fr (fun _ _ => True) w W2) := Lib.hid (F1.out.trans F12.out)
  have X1' : Hid (W2.heap[w.heap.size]? = some (.cells #[.pointer (some ⟨bk, 0, none⟩)] 69 (0, 0))) := F12.out.keep _ _ X1.out trivial
  have NX2 : Hid (¬ X w.heap.size ∧ ¬ X W1.heap.size) := ⟨fun k => by have := h.hi _ k; omega, fun k => by have := h.hi _ k; have := F1.out.size; omega⟩
  obtain ⟨b2, hb2⟩ : ∃ k, w.heap.size = k := ⟨_, rfl⟩
  obtain ⟨b3, hb3⟩ : ∃ k, W1.heap.size = k := ⟨_, rfl⟩
  rw [hb2] at X1' NX2
  rw [hb3] at X2 NX2
  have M2 := Lib.hid (h.tt F2.out)
  have S2 := Lib.hid (hs.tt F2.out)
  have HZ : Hid (¬ X 0) := h.z h0
  have HT : Hid (TabOK W2) := ht.kp (Kp.rfl' X F2.out) HZ.out
  have HN : Hid (n ≤ W2.heap.size) := Nat.le_trans hn F2.out.size
  have KW : Hid (Kp X X w W2) := Kp.rfl' X F2.out
  obtain ⟨b, hbb⟩ : ∃ k, s.base = k := ⟨_, rfl⟩
  obtain ⟨kb, hkb⟩ : ∃ k, K.base = k := ⟨_, rfl⟩
  -- the boxes and the keeper's numbers
  have BX : Hid (∀ X' W, Kp X X' W2 W → W.cell? ⟨b2, 0, none⟩ = some (.pointer (some ⟨bk, 0, none⟩)) ∧ W.cell? ⟨b3, 0, none⟩ = some (.int .u64 (s.term : Nat)) ∧ W.cell? ⟨b3, 1, none⟩ = some (.int .i64 s.vote) ∧ W.cell? ⟨b3, 2, none⟩ = some (.int .u64 (b : Nat)) ∧ W.cell? ⟨b3, 3, none⟩ = some (.int .u64 (s.bt : Nat)) ∧ W.cell? ⟨b3, 4, none⟩ = some (.slice av nx cv)) := fun X' W k => by
    have t1 := k.fr.keep _ _ X1'.out NX2.out.1
    have t2 := k.fr.keep _ _ X2.out NX2.out.2
    rw [hbb] at t2
    exact ⟨cell_mk t1 rfl, cell_mk t2 rfl, cell_mk t2 rfl, cell_mk t2 rfl, cell_mk t2 rfl, cell_mk t2 rfl⟩
  have CE : Hid (∀ W, Fr (fun _ _ => True) W2 W → W.cell? ⟨b2, 0, none⟩ = some (.pointer (some ⟨bk, 0, none⟩)) ∧ W.cell? ⟨b3, 0, none⟩ = some (.int .u64 (s.term : Nat)) ∧ W.cell? ⟨b3, 1, none⟩ = some (.int .i64 s.vote) ∧ W.cell? ⟨b3, 2, none⟩ = some (.int .u64 (b : Nat)) ∧ W.cell? ⟨b3, 3, none⟩ = some (.int .u64 (s.bt : Nat)) ∧ W.cell? ⟨b3, 4, none⟩ = some (.slice av nx cv) ∧ W.cell? ⟨bk, 3, none⟩ = some (.int .i64 (rg : Nat)) ∧ W.cell? ⟨bk, 5, none⟩ = some (.int .u64 (kb : Nat))) := fun W f => by
    obtain ⟨q1, q2, q3, q4, q5, q6⟩ := BX.out X W (Kp.rfl' X f)
    have c := (M2.out.tt f).cells
    exact ⟨q1, q2, q3, q4, q5, q6, c.2.2.2.1, hkb ▸ c.2.2.2.2.2.1⟩
  have RC : Hid (∀ W, Fr (fun _ _ => True) W2 W → Calls Tryd.prog 72 #[vS s (.slice av nx cv)] W fun e w' => e = .returned (.bool s.right) ∧ Fr (fun _ _ => True) W w') := fun W f => kright_calls W s _ xs (S2.out.tt f).rows (by omega) S2.out.es
  have U2 : Hid (Fr (fun _ _ => True) W2 W2.drew) := (Fr.refl _ _).drew
  have SK : Hid (saveK rg K J D s = if s.right = false ∨ s.base < K.base then (1, K, J, D) else if rg < s.es.length then (42, K, J, D) else if (stepsK K J D s).1 ≠ 0 then stepsK K J D s else (if (stepsK K J D s).2.2.2.down then 43 else 0, (stepsK K J D s).2)) := rfl
  have hel : s.es.length = nx := by rw [hs.es, List.length_map, hnx]
  rw [hbb, hkb, hel] at SK
  generalize saveK rg K J D s = R at SK ⊢
  have RG := Lib.hid (fun (hr : s.right = true) => (right_vote hr))
  have RE1 := Lib.hid (fun (hr : s.right = true) => right_es hr)
  cases hrt : s.right with
  | false =>
    rw [hrt] at RC SK
    have RE : Hid (R = (1, K, J, D)) := Lib.hid (SK.out.trans (if_pos (.inl rfl)))
    unfold vS at RC ⊢
    rw [hbb] at RC hW2 ⊢
    clear h hs hw ht hn hel hrt SK RG RE1
    go_enter Tryd.func35, Tryd.ntmps35
    go_upto_region 1 with fail
    try rw [hW1]
    try rw [hW2]
    try rw [hb2]
    try rw [hb3]
    clear hW1 hW2 hb2 hb3
    refine wp_region_held_drew (S := fun W => W.cell? ⟨b2, 0, none⟩ = some (.pointer (some ⟨bk, 0, none⟩)) ∧ W.cell? ⟨b3, 0, none⟩ = some (.int .u64 (s.term : Nat)) ∧ W.cell? ⟨b3, 1, none⟩ = some (.int .i64 s.vote) ∧ W.cell? ⟨b3, 2, none⟩ = some (.int .u64 (b : Nat)) ∧ W.cell? ⟨b3, 3, none⟩ = some (.int .u64 (s.bt : Nat)) ∧ W.cell? ⟨b3, 4, none⟩ = some (.slice av nx cv) ∧ W.cell? ⟨bk, 3, none⟩ = some (.int .i64 (rg : Nat)) ∧ W.cell? ⟨bk, 5, none⟩ = some (.int .u64 (kb : Nat))) (by kernel_rfl) (CE.out _ U2.out) (fun hHeld => ?_)
    refine wpAnyH_take (i := 0) (v := ?v0) rfl (by kernel_rfl) (by kernel_rfl) (by kernel_rfl) (fun _ _ _ h => h) (Or.inl ⟨by rfl, ?hy0⟩) hHeld ?rest0
    case hy0 => (intro w hSw; (try dsimp only at hSw); (try simp only [List.getElem_toArray, List.getElem_cons_zero, List.getElem_cons_succ]); go_simp; try with_reducible rfl)
    try simp only [List.getElem_toArray, List.getElem_cons_zero, List.getElem_cons_succ, Act.put, List.setIfInBounds_toArray, List.set_cons_zero, List.set_cons_succ]
    refine wpAnyH_ready (rs := [1]) (by kernel_rfl) (by simp) ?_
    refine AllReadyH.cons rfl (fun K hK => ?_) AllReadyH.nil
    (try simp only [List.getElem_toArray, List.getElem_cons_zero, List.getElem_cons_succ])
    go_simp
    (with_reducible refine (RC.out _ U2.out).mono ?_)
    rintro e w8 ⟨rfl, f8⟩
    have F8 := Lib.hid (U2.out.trans f8)
    clear f8
    (try simp only [Act.put, List.setIfInBounds_toArray, List.set_cons_zero, List.set_cons_succ])
    refine hK.out _ _ (CE.out _ F8.out) (fun hHeld => ?_)
    clear hK K
    refine wpAnyH_take (i := 2) (v := ?v2) rfl (by kernel_rfl) (by kernel_rfl) (by kernel_rfl) (fun _ _ _ h => h) (Or.inl ⟨by rfl, ?hy2⟩) hHeld ?rest2
    case hy2 => (intro w hSw; (try dsimp only at hSw); (try simp only [List.getElem_toArray, List.getElem_cons_zero, List.getElem_cons_succ]); go_simp; try with_reducible rfl)
    try simp only [List.getElem_toArray, List.getElem_cons_zero, List.getElem_cons_succ, Act.put, List.setIfInBounds_toArray, List.set_cons_zero, List.set_cons_succ]
    refine wpAnyH_take (i := 3) (v := ?v3) rfl (by kernel_rfl) (by kernel_rfl) (by kernel_rfl) (fun _ _ _ h => h) (Or.inl ⟨by rfl, ?hy3⟩) hHeld ?rest3
    case hy3 => (intro w hSw; (try dsimp only at hSw); (try simp only [List.getElem_toArray, List.getElem_cons_zero, List.getElem_cons_succ]); go_simp; try with_reducible rfl)
    try simp only [List.getElem_toArray, List.getElem_cons_zero, List.getElem_cons_succ, Act.put, List.setIfInBounds_toArray, List.set_cons_zero, List.set_cons_succ]
    refine wpAnyH_take (i := 4) (v := undef) rfl (by kernel_rfl) (by kernel_rfl) (by kernel_rfl) (fun _ _ _ h => h) (Or.inr ⟨by rfl, rfl⟩) hHeld ?rest4
    try simp only [List.getElem_toArray, List.getElem_cons_zero, List.getElem_cons_succ, Act.put, List.setIfInBounds_toArray, List.set_cons_zero, List.set_cons_succ]
    refine wpAnyH_take (i := 5) (v := undef) rfl (by kernel_rfl) (by kernel_rfl) (by kernel_rfl) (fun _ _ _ h => h) (Or.inr ⟨by rfl, rfl⟩) hHeld ?rest5
    try simp only [List.getElem_toArray, List.getElem_cons_zero, List.getElem_cons_succ, Act.put, List.setIfInBounds_toArray, List.set_cons_zero, List.set_cons_succ]
    refine wpAnyH_take (i := 6) (v := undef) rfl (by kernel_rfl) (by kernel_rfl) (by kernel_rfl) (fun _ _ _ h => h) (Or.inr ⟨by rfl, rfl⟩) hHeld ?rest6
    try simp only [List.getElem_toArray, List.getElem_cons_zero, List.getElem_cons_succ, Act.put, List.setIfInBounds_toArray, List.set_cons_zero, List.set_cons_succ]
    refine wpAnyH_take (i := 7) (v := undef) rfl (by kernel_rfl) (by kernel_rfl) (by kernel_rfl) (fun _ _ _ h => h) (Or.inr ⟨by rfl, rfl⟩) hHeld ?rest7
    try simp only [List.getElem_toArray, List.getElem_cons_zero, List.getElem_cons_succ, Act.put, List.setIfInBounds_toArray, List.set_cons_zero, List.set_cons_succ]
    refine wpAnyH_take (i := 8) (v := undef) rfl (by kernel_rfl) (by kernel_rfl) (by kernel_rfl) (fun _ _ _ h => h) (Or.inr ⟨by rfl, rfl⟩) hHeld ?rest8
    try simp only [List.getElem_toArray, List.getElem_cons_zero, List.getElem_cons_succ, Act.put, List.setIfInBounds_toArray, List.set_cons_zero, List.set_cons_succ]
    refine wpAnyH_take (i := 9) (v := undef) rfl (by kernel_rfl) (by kernel_rfl) (by kernel_rfl) (fun _ _ _ h => h) (Or.inr ⟨by rfl, rfl⟩) hHeld ?rest9
    try simp only [List.getElem_toArray, List.getElem_cons_zero, List.getElem_cons_succ, Act.put, List.setIfInBounds_toArray, List.set_cons_zero, List.set_cons_succ]
    refine wpAnyH_take (i := 10) (v := undef) rfl (by kernel_rfl) (by kernel_rfl) (by kernel_rfl) (fun _ _ _ h => h) (Or.inr ⟨by rfl, rfl⟩) hHeld ?rest10
    try simp only [List.getElem_toArray, List.getElem_cons_zero, List.getElem_cons_succ, Act.put, List.setIfInBounds_toArray, List.set_cons_zero, List.set_cons_succ]
    refine wpAnyH_take (i := 11) (v := undef) rfl (by kernel_rfl) (by kernel_rfl) (by kernel_rfl) (fun _ _ _ h => h) (Or.inr ⟨by rfl, rfl⟩) hHeld ?rest11
    try simp only [List.getElem_toArray, List.getElem_cons_zero, List.getElem_cons_succ, Act.put, List.setIfInBounds_toArray, List.set_cons_zero, List.set_cons_succ]
    refine wpAnyH_take (i := 12) (v := ?v12) rfl (by kernel_rfl) (by kernel_rfl) (by kernel_rfl) (fun _ _ _ h => h) (Or.inl ⟨by rfl, ?hy12⟩) hHeld ?rest12
    case hy12 => (intro w hSw; (try dsimp only at hSw); (try simp only [List.getElem_toArray, List.getElem_cons_zero, List.getElem_cons_succ]); go_simp; try with_reducible rfl)
    try simp only [List.getElem_toArray, List.getElem_cons_zero, List.getElem_cons_succ, Act.put, List.setIfInBounds_toArray, List.set_cons_zero, List.set_cons_succ]
    refine wpAnyH_take (i := 13) (v := ?v13) rfl (by kernel_rfl) (by kernel_rfl) (by kernel_rfl) (fun _ _ _ h => h) (Or.inl ⟨by rfl, ?hy13⟩) hHeld ?rest13
    case hy13 => (intro w hSw; (try dsimp only at hSw); (try simp only [List.getElem_toArray, List.getElem_cons_zero, List.getElem_cons_succ]); go_simp; try with_reducible rfl)
    try simp only [List.getElem_toArray, List.getElem_cons_zero, List.getElem_cons_succ, Act.put, List.setIfInBounds_toArray, List.set_cons_zero, List.set_cons_succ]
    refine wpAnyH_done (by kernel_rfl) ?_ _
    go_wp2
    go_ret
    rw [RE.out]
    first
      | exact ⟨rfl, X, P, _, _, _, _, M2.out.tt F8.out, KW.out.trans (Kp.rfl' X F8.out)⟩
      | exact ⟨rfl, X, ⟨P, _, _, _, _, M2.out.tt F8.out⟩, KW.out.trans (Kp.rfl' X F8.out)⟩
  | true =>
    rw [hrt] at RC SK
    obtain ⟨vo1, vo2, tm, bm⟩ := RG.out hrt
    have hbad := RE1.out hrt
    have hbI : (b : Int) < 1152921504606846976 := by omega
    clear RG RE1
    have HW := Lib.hid hw
    have HBAD := Lib.hid hbad
    have HVO : Hid (-1 ≤ s.vote ∧ s.vote < 16) := ⟨vo1, vo2⟩
    have HEL := Lib.hid hel
    have HBB := Lib.hid hbb
    have HNX := Lib.hid hnx
    unfold vS at RC ⊢
    rw [hbb] at RC hW2 ⊢
    clear h hs hw ht hn hel hrt hbad
    go_enter Tryd.func35, Tryd.ntmps35
    go_upto_region 1 with fail
    try rw [hW1]
    try rw [hW2]
    try rw [hb2]
    try rw [hb3]
    clear hW1 hW2 hb2 hb3
    by_cases hlow : b < kb
    · have RE : Hid (R = (1, K, J, D)) := Lib.hid (SK.out.trans (if_pos (.inr hlow)))
      have lI : decide ((b : Int) < kb) = true := by simp; omega
      clear SK
      go_region_held3 (fun W => W.cell? ⟨b2, 0, none⟩ = some (.pointer (some ⟨bk, 0, none⟩)) ∧ W.cell? ⟨b3, 0, none⟩ = some (.int .u64 (s.term : Nat)) ∧ W.cell? ⟨b3, 1, none⟩ = some (.int .i64 s.vote) ∧ W.cell? ⟨b3, 2, none⟩ = some (.int .u64 (b : Nat)) ∧ W.cell? ⟨b3, 3, none⟩ = some (.int .u64 (s.bt : Nat)) ∧ W.cell? ⟨b3, 4, none⟩ = some (.slice av nx cv) ∧ W.cell? ⟨bk, 3, none⟩ = some (.int .i64 (rg : Nat)) ∧ W.cell? ⟨bk, 5, none⟩ = some (.int .u64 (kb : Nat)))
        (first | exact CE.out _ F8.out | exact CE.out _ U2.out)
        (first | (go_at_call 72; go_must ((with_reducible refine (RC.out _ U2.out).mono ?_); rintro e w8 ⟨rfl, f8⟩; have F8 := Lib.hid (U2.out.trans f8); clear f8)))
      all_goals
        go_wp2
        go_ret
        rw [RE.out]
        exact ⟨rfl, X, P, _, _, _, _, M2.out.tt F8.out, KW.out.trans (Kp.rfl' X F8.out)⟩
    · have lI : decide ((b : Int) < kb) = false := by simp; omega
      have SK2 := Lib.hid (SK.out.trans (if_neg (by simp; omega)))
      clear SK
      go_region_held3 (fun W => W.cell? ⟨b2, 0, none⟩ = some (.pointer (some ⟨bk, 0, none⟩)) ∧ W.cell? ⟨b3, 0, none⟩ = some (.int .u64 (s.term : Nat)) ∧ W.cell? ⟨b3, 1, none⟩ = some (.int .i64 s.vote) ∧ W.cell? ⟨b3, 2, none⟩ = some (.int .u64 (b : Nat)) ∧ W.cell? ⟨b3, 3, none⟩ = some (.int .u64 (s.bt : Nat)) ∧ W.cell? ⟨b3, 4, none⟩ = some (.slice av nx cv) ∧ W.cell? ⟨bk, 3, none⟩ = some (.int .i64 (rg : Nat)) ∧ W.cell? ⟨bk, 5, none⟩ = some (.int .u64 (kb : Nat)))
        (first | exact CE.out _ F8.out | exact CE.out _ U2.out)
        (first | (go_at_call 72; go_must ((with_reducible refine (RC.out _ U2.out).mono ?_); rintro e w8 ⟨rfl, f8⟩; have F8 := Lib.hid (U2.out.trans f8); clear f8)))
      all_goals
        have U8 : Hid (Fr (fun _ _ => True) W2 w8.drew) := F8.out.drew
        by_cases hlong : rg < nx
        · have RE : Hid (R = (42, K, J, D)) := Lib.hid (SK2.out.trans (if_pos hlong))
          have gI : decide ((nx : Int) > rg) = true := by simp; omega
          have gI2 : (rg : Int) < nx := by omega
          clear SK2
          go_upto_region 3 with fail
          go_region_held3 (fun W => W.cell? ⟨b2, 0, none⟩ = some (.pointer (some ⟨bk, 0, none⟩)) ∧ W.cell? ⟨b3, 0, none⟩ = some (.int .u64 (s.term : Nat)) ∧ W.cell? ⟨b3, 1, none⟩ = some (.int .i64 s.vote) ∧ W.cell? ⟨b3, 2, none⟩ = some (.int .u64 (b : Nat)) ∧ W.cell? ⟨b3, 3, none⟩ = some (.int .u64 (s.bt : Nat)) ∧ W.cell? ⟨b3, 4, none⟩ = some (.slice av nx cv) ∧ W.cell? ⟨bk, 3, none⟩ = some (.int .i64 (rg : Nat)) ∧ W.cell? ⟨bk, 5, none⟩ = some (.int .u64 (kb : Nat)))
            (exact CE.out _ U8.out)
            (fail)
          all_goals
            go_wp2
            go_ret
            rw [RE.out]
            exact ⟨rfl, X, P, _, _, _, _, M2.out.tt U8.out, KW.out.trans (Kp.rfl' X U8.out)⟩
        · have gI : decide ((nx : Int) > rg) = false := by simp; omega
          have HNB : Hid (nx ≤ 1000) := by show _ ≤ _; omega
          have gI2 : ¬ (rg : Int) < nx := by omega
          have SK3 := Lib.hid (SK2.out.trans (if_neg hlong))
          clear SK2
          go_upto_region 3 with fail
          go_region_held3 (fun W => W.cell? ⟨b2, 0, none⟩ = some (.pointer (some ⟨bk, 0, none⟩)) ∧ W.cell? ⟨b3, 0, none⟩ = some (.int .u64 (s.term : Nat)) ∧ W.cell? ⟨b3, 1, none⟩ = some (.int .i64 s.vote) ∧ W.cell? ⟨b3, 2, none⟩ = some (.int .u64 (b : Nat)) ∧ W.cell? ⟨b3, 3, none⟩ = some (.int .u64 (s.bt : Nat)) ∧ W.cell? ⟨b3, 4, none⟩ = some (.slice av nx cv) ∧ W.cell? ⟨bk, 3, none⟩ = some (.int .i64 (rg : Nat)) ∧ W.cell? ⟨bk, 5, none⟩ = some (.int .u64 (kb : Nat)))
            (exact CE.out _ U8.out)
            (fail)
          all_goals
            obtain ⟨W4, hW4⟩ : ∃ W, (w8.alloc (.cells #[.func (.func 73) #[] #[.pointer (some ⟨b2, 0, none⟩), .pointer (some ⟨b3, 0, none⟩)], .func (.func 75) #[] #[.pointer (some ⟨b2, 0, none⟩), .pointer (some ⟨b3, 0, none⟩)], .func (.func 77) #[] #[.pointer (some ⟨b2, 0, none⟩), .pointer (some ⟨b3, 0, none⟩)], .func (.func 79) #[] #[.pointer (some ⟨b2, 0, none⟩), .pointer (some ⟨b3, 0, none⟩)]] 112 (0, 0))).drew = W := ⟨_, rfl⟩
            have F4 : Hid (Fr (fun _ _ => True) W2 W4) := hW4 ▸ (F8.out.alloc _).drew
            have T4 : Hid (W4.heap[w8.heap.size]? = some (.cells #[.func (.func 73) #[] #[.pointer (some ⟨b2, 0, none⟩), .pointer (some ⟨b3, 0, none⟩)], .func (.func 75) #[] #[.pointer (some ⟨b2, 0, none⟩), .pointer (some ⟨b3, 0, none⟩)], .func (.func 77) #[] #[.pointer (some ⟨b2, 0, none⟩), .pointer (some ⟨b3, 0, none⟩)], .func (.func 79) #[] #[.pointer (some ⟨b2, 0, none⟩), .pointer (some ⟨b3, 0, none⟩)]] 112 (0, 0))) := hW4 ▸ heap_alloc_new w8 _
            obtain ⟨gs, hgs⟩ : ∃ k, w8.heap.size = k := ⟨_, rfl⟩
            have NG : Hid (¬ X gs) := fun k => by have := (M2.out.tt F8.out).hi _ k; omega
            rw [hgs] at T4
            have FC : Hid (∀ X' W, Kp X X' W4 W → W.cell? ⟨gs, 0, none⟩ = some (.func (.func 73) #[] #[.pointer (some ⟨b2, 0, none⟩), .pointer (some ⟨b3, 0, none⟩)]) ∧ W.cell? ⟨gs, 1, none⟩ = some (.func (.func 75) #[] #[.pointer (some ⟨b2, 0, none⟩), .pointer (some ⟨b3, 0, none⟩)]) ∧ W.cell? ⟨gs, 2, none⟩ = some (.func (.func 77) #[] #[.pointer (some ⟨b2, 0, none⟩), .pointer (some ⟨b3, 0, none⟩)]) ∧ W.cell? ⟨gs, 3, none⟩ = some (.func (.func 79) #[] #[.pointer (some ⟨b2, 0, none⟩), .pointer (some ⟨b3, 0, none⟩)])) := fun X' W k => by
              have t := k.fr.keep _ _ T4.out NG.out
              exact ⟨cell_mk t rfl, cell_mk t rfl, cell_mk t rfl, cell_mk t rfl⟩
            have eg1 : ∀ args w, (callFunc 73 args).run Tryd.prog w = .ok (.enter 73 args) w := enters_of Tryd.func73 (by kernel_rfl) rfl
            have eg2 : ∀ args w, (callFunc 75 args).run Tryd.prog w = .ok (.enter 75 args) w := enters_of Tryd.func75 (by kernel_rfl) rfl
            have eg3 : ∀ args w, (callFunc 77 args).run Tryd.prog w = .ok (.enter 77 args) w := enters_of Tryd.func77 (by kernel_rfl) rfl
            have eg4 : ∀ args w, (callFunc 79 args).run Tryd.prog w = .ok (.enter 79 args) w := enters_of Tryd.func79 (by kernel_rfl) rfl
            have M4 := Lib.hid (M2.out.tt F4.out)
            obtain ⟨T, hT⟩ : ∃ T, stepsK K J D s = T := ⟨_, rfl⟩
            rw [hT] at SK3
            have HT0 : Hid (rnK s 0 K J D = T) := hT
            replace HT : Hid (TabOK W4) := HT.out.kp (Kp.rfl' X F4.out) HZ.out
            replace HN : Hid (n ≤ W4.heap.size) := Nat.le_trans HN.out F4.out.size
            replace KW : Hid (Kp X X w W4) := KW.out.trans (Kp.rfl' X F4.out)
            replace S2 := Lib.hid (S2.out.tt F4.out)
            replace BX := Lib.hid (fun X' W (k : Kp X X' W4 W) => BX.out X' W ((Kp.rfl' X F4.out).trans k))
            have S0I : Hid (SInv n X W4 bk bj bd rg s T D.pend.length nx 0 W4) := ⟨K, J, D, X, P, a4, c4, hv, rs, HT0.out, M4.out, Kp.refl X W4, by omega, hrl, fun h => by cases h⟩
            clear CE RC M2 HT0 hT F8 U8
            go_wp2_with fail
            try rw [hW4]
            try rw [hgs]
            clear hW4 hgs
            go_loopw [38] (fun v38 wr => (v38 = .int .i64 0 ∧ SInv n X W4 bk bj bd rg s T D.pend.length nx 0 wr) ∨ (v38 = .int .i64 1 ∧ SInv n X W4 bk bj bd rg s T D.pend.length nx 1 wr) ∨ (v38 = .int .i64 2 ∧ SInv n X W4 bk bj bd rg s T D.pend.length nx 2 wr) ∨ (v38 = .int .i64 3 ∧ SInv n X W4 bk bj bd rg s T D.pend.length nx 3 wr) ∨ (v38 = .int .i64 4 ∧ ∃ (K' : Ke) (J' : Jn) (D' : Dk) (X' P' : Nat → Prop) (a' : Option Addr) (c' : Nat) (hv' : Value) (rs' : List RV), rnK s 4 K' J' D' = T ∧ KM n X' P' wr bk bj bd (rg : Nat) K' J' D' a' c' hv' rs' ∧ Kp X X' W4 wr)) (fun v38 _ => 4 - (intOf v38).toNat)
            case atStart => exact .inl ⟨rfl, S0I.out⟩
            case round =>
              rcases hrel with ⟨rfl, hS⟩ | ⟨rfl, hS⟩ | ⟨rfl, hS⟩ | ⟨rfl, hS⟩ | ⟨rfl, hS⟩
              · obtain ⟨K', J', D', X', P', a', c', hv', rs', hrn, mj, kj, hpd, hr5, h3⟩ := hS
                have MJ := Lib.hid mj
                have KJ := Lib.hid kj
                clear mj kj
                have hsz : n ≤ wr.heap.size := Nat.le_trans HN.out KJ.out.fr.size
                have htab : TabOK wr := HT.out.kp KJ.out HZ.out
                obtain ⟨x2', x30, x31, x32, x33, x34⟩ := BX.out X' wr KJ.out
                have x32' : wr.cell? ⟨b3, 2, none⟩ = some (.int .u64 (s.base : Nat)) := by rw [HBB.out]; exact x32
                have hlK := MJ.out.hlen
                obtain ⟨e9, K9, D9, h9⟩ : ∃ e9 K9 D9, markK K' D' s = (e9, K9, D9) := ⟨_, _, _, rfl⟩
                have hp9 := pend_markK K' D' s
                have hh9 := held_markK K' D' s
                rw [h9] at hp9 hh9
                dsimp only at hp9 hh9
                have hh9 : K9.held.length ≤ K'.held.length := by rw [hh9]; exact Nat.le_refl _
                have RN := rnK0 s K' J' D'
                rw [h9] at RN
                dsimp only at RN
                have CC := (mark_calls MJ.out h0 hsz s av nx cv HW.out ⟨HVO.out.1, by have := HVO.out.2; omega⟩ htab (by omega))
                rw [h9] at CC
                have CS := Lib.hid (save1_calls (R := fun w' => ∃ X9 P9 a9 c9, KM n X9 P9 w' bk bj bd (rg : Nat) K9 J' D9 a9 c9 hv' rs' ∧ Kp X' X9 wr w') wr bk b2 b3 s av nx cv e9 x2' x30 x31 x32' x33 x34 CC)
                have RNH := Lib.hid (hrn.symm.trans RN)
                have HPM := Lib.hid hp9
                have HHM := Lib.hid hh9
                clear hp9 hh9
                have HPD := Lib.hid hpd
                have HR5 := Lib.hid hr5
                clear CC h9 RN x2' x30 x31 x32 x33 x34 x32' htab hrn hlK hsz hpd hr5 h3
                have fc := FC.out X' wr KJ.out
                obtain ⟨f0, f1, f2, f3⟩ := fc
                go_wp2_with fail
                (with_reducible refine CS.out.mono ?_)
                rintro e w9 ⟨rfl, X9, P9, a9, c9, q1, q2⟩
                have Q1 := Lib.hid q1
                have Q2 := Lib.hid q2
                clear q1 q2 CS
                by_cases he : e9 = 0
                · have NX : Hid (rnK s 1 K9 J' D9 = T) := Lib.hid ((if_neg (not_not_intro he)).symm.trans RNH.out.symm)
                  have heb : (e9 != 0) = false := by simp [he]
                  subst he
                  clear RNH
                  go_wp2
                  go_roundw
                  case rel =>
                    refine .inr (.inl ⟨by go_num, K9, J', D9, X9, P9, _, _, _, _, NX.out, Q1.out, KJ.out.trans Q2.out, ?_, ?_, ?_⟩)
                    · have := HPM.out; have := HPD.out; omega
                    · have := HHM.out; have := HR5.out; have := MJ.out.hlen; rw [Q1.out.hlen]; omega
                    · intro h; cases h
                  case measure => (first | decide | (simp [intOf]; done) | omega)
                · have heb : (e9 != 0) = true := by simp [he]
                  have TE : Hid (T = (e9, K9, J', D9)) := Lib.hid (RNH.out.trans (if_pos he))
                  have RE : Hid (R = (e9, K9, J', D9)) := by
                    have h4 := SK3.out
                    rw [TE.out, if_pos he] at h4
                    exact h4
                  clear RNH TE
                  go_wp2
                  go_ret
                  rw [RE.out]
                  exact ⟨rfl, X9, P9, _, _, _, _, Q1.out, (KW.out.trans KJ.out).trans Q2.out⟩
              · obtain ⟨K', J', D', X', P', a', c', hv', rs', hrn, mj, kj, hpd, hr5, h3⟩ := hS
                have MJ := Lib.hid mj
                have KJ := Lib.hid kj
                clear mj kj
                have hsz : n ≤ wr.heap.size := Nat.le_trans HN.out KJ.out.fr.size
                have htab : TabOK wr := HT.out.kp KJ.out HZ.out
                obtain ⟨x2', x30, x31, x32, x33, x34⟩ := BX.out X' wr KJ.out
                have x32' : wr.cell? ⟨b3, 2, none⟩ = some (.int .u64 (s.base : Nat)) := by rw [HBB.out]; exact x32
                have hlK := MJ.out.hlen
                obtain ⟨e9, K9, J9, D9, h9⟩ : ∃ e9 K9 J9 D9, trimK K' J' D' s = (e9, K9, J9, D9) := ⟨_, _, _, _, rfl⟩
                have hp9 := pend_trimK K' J' D' s
                have hh9 := held_trimK K' J' D' s
                rw [h9] at hp9 hh9
                dsimp only at hp9 hh9
                have RN := rnK1 s K' J' D'
                rw [h9] at RN
                dsimp only at RN
                have CC := (trim_calls MJ.out h0 hsz s av nx cv htab (by omega) (by omega))
                rw [h9] at CC
                have CS := Lib.hid (save2_calls (R := fun w' => ∃ X9 P9 hv9 rs9, KM n X9 P9 w' bk bj bd (rg : Nat) K9 J9 D9 a' c' hv9 rs9 ∧ Kp X' X9 wr w') wr bk b2 b3 s av nx cv e9 x2' x30 x31 x32' x33 x34 CC)
                have RNH := Lib.hid (hrn.symm.trans RN)
                have HPM := Lib.hid hp9
                have HHM := Lib.hid hh9
                clear hp9 hh9
                have HPD := Lib.hid hpd
                have HR5 := Lib.hid hr5
                clear CC h9 RN x2' x30 x31 x32 x33 x34 x32' htab hrn hlK hsz hpd hr5 h3
                have fc := FC.out X' wr KJ.out
                obtain ⟨f0, f1, f2, f3⟩ := fc
                go_wp2_with fail
                (with_reducible refine CS.out.mono ?_)
                rintro e w9 ⟨rfl, X9, P9, hv9, rs9, q1, q2⟩
                have Q1 := Lib.hid q1
                have Q2 := Lib.hid q2
                clear q1 q2 CS
                by_cases he : e9 = 0
                · have NX : Hid (rnK s 2 K9 J9 D9 = T) := Lib.hid ((if_neg (not_not_intro he)).symm.trans RNH.out.symm)
                  have heb : (e9 != 0) = false := by simp [he]
                  subst he
                  clear RNH
                  go_wp2
                  go_roundw
                  case rel =>
                    refine .inr (.inr (.inl ⟨by go_num, K9, J9, D9, X9, P9, _, _, _, _, NX.out, Q1.out, KJ.out.trans Q2.out, ?_, ?_, ?_⟩))
                    · have := HPM.out; have := HPD.out; omega
                    · have := HHM.out; have := HR5.out; have := MJ.out.hlen; rw [Q1.out.hlen]; omega
                    · intro h; cases h
                  case measure => (first | decide | (simp [intOf]; done) | omega)
                · have heb : (e9 != 0) = true := by simp [he]
                  have TE : Hid (T = (e9, K9, J9, D9)) := Lib.hid (RNH.out.trans (if_pos he))
                  have RE : Hid (R = (e9, K9, J9, D9)) := by
                    have h4 := SK3.out
                    rw [TE.out, if_pos he] at h4
                    exact h4
                  clear RNH TE
                  go_wp2
                  go_ret
                  rw [RE.out]
                  exact ⟨rfl, X9, P9, _, _, _, _, Q1.out, (KW.out.trans KJ.out).trans Q2.out⟩
              · obtain ⟨K', J', D', X', P', a', c', hv', rs', hrn, mj, kj, hpd, hr5, h3⟩ := hS
                have MJ := Lib.hid mj
                have KJ := Lib.hid kj
                clear mj kj
                have hsz : n ≤ wr.heap.size := Nat.le_trans HN.out KJ.out.fr.size
                have htab : TabOK wr := HT.out.kp KJ.out HZ.out
                obtain ⟨x2', x30, x31, x32, x33, x34⟩ := BX.out X' wr KJ.out
                have x32' : wr.cell? ⟨b3, 2, none⟩ = some (.int .u64 (s.base : Nat)) := by rw [HBB.out]; exact x32
                have hlK := MJ.out.hlen
                obtain ⟨e9, K9, J9, D9, h9⟩ : ∃ e9 K9 J9 D9, cutK K' J' D' s = (e9, K9, J9, D9) := ⟨_, _, _, _, rfl⟩
                have hp9 := pend_cutK K' J' D' s
                obtain ⟨hh9, hk9⟩ := held_cutK K' J' D' s
                rw [h9] at hp9 hh9 hk9
                dsimp only at hp9 hh9 hk9
                rw [HEL.out] at hk9
                have RN := rnK2 s K' J' D'
                rw [h9] at RN
                dsimp only at RN
                have CC := (cut_calls MJ.out h0 hsz s av nx cv xs (S2.out.kp KJ.out) htab (by omega) (by omega) (by rw [HBB.out, HEL.out]; omega) (by rw [HBB.out]; omega))
                rw [h9] at CC
                have CS := Lib.hid (save3_calls (R := fun w' => ∃ X9 P9 hv9 rs9, KM n X9 P9 w' bk bj bd (rg : Nat) K9 J9 D9 a' c' hv9 rs9 ∧ Kp X' X9 wr w') wr bk b2 b3 s av nx cv e9 x2' x30 x31 x32' x33 x34 CC)
                have RNH := Lib.hid (hrn.symm.trans RN)
                have HPM := Lib.hid hp9
                have HHM := Lib.hid hh9
                have HKM := Lib.hid hk9
                clear hp9 hh9 hk9
                have HPD := Lib.hid hpd
                have HR5 := Lib.hid hr5
                clear CC h9 RN x2' x30 x31 x32 x33 x34 x32' htab hrn hlK hsz hpd hr5 h3
                have fc := FC.out X' wr KJ.out
                obtain ⟨f0, f1, f2, f3⟩ := fc
                go_wp2_with fail
                (with_reducible refine CS.out.mono ?_)
                rintro e w9 ⟨rfl, X9, P9, hv9, rs9, q1, q2⟩
                have Q1 := Lib.hid q1
                have Q2 := Lib.hid q2
                clear q1 q2 CS
                by_cases he : e9 = 0
                · have NX : Hid (rnK s 3 K9 J9 D9 = T) := Lib.hid ((if_neg (not_not_intro he)).symm.trans RNH.out.symm)
                  have heb : (e9 != 0) = false := by simp [he]
                  subst he
                  clear RNH
                  go_wp2
                  go_roundw
                  case rel =>
                    refine .inr (.inr (.inr (.inl ⟨by go_num, K9, J9, D9, X9, P9, _, _, _, _, NX.out, Q1.out, KJ.out.trans Q2.out, ?_, ?_, ?_⟩)))
                    · have := HPM.out; have := HPD.out; have := HR5.out; have := MJ.out.hlen; omega
                    · have := HHM.out; have := HR5.out; have := MJ.out.hlen; rw [Q1.out.hlen]; omega
                    · intro _; rw [Q1.out.hlen]; exact HKM.out
                  case measure => (first | decide | (simp [intOf]; done) | omega)
                · have heb : (e9 != 0) = true := by simp [he]
                  have TE : Hid (T = (e9, K9, J9, D9)) := Lib.hid (RNH.out.trans (if_pos he))
                  have RE : Hid (R = (e9, K9, J9, D9)) := by
                    have h4 := SK3.out
                    rw [TE.out, if_pos he] at h4
                    exact h4
                  clear RNH TE
                  go_wp2
                  go_ret
                  rw [RE.out]
                  exact ⟨rfl, X9, P9, _, _, _, _, Q1.out, (KW.out.trans KJ.out).trans Q2.out⟩
              · obtain ⟨K', J', D', X', P', a', c', hv', rs', hrn, mj, kj, hpd, hr5, h3⟩ := hS
                have MJ := Lib.hid mj
                have KJ := Lib.hid kj
                clear mj kj
                have hsz : n ≤ wr.heap.size := Nat.le_trans HN.out KJ.out.fr.size
                have htab : TabOK wr := HT.out.kp KJ.out HZ.out
                obtain ⟨x2', x30, x31, x32, x33, x34⟩ := BX.out X' wr KJ.out
                have x32' : wr.cell? ⟨b3, 2, none⟩ = some (.int .u64 (s.base : Nat)) := by rw [HBB.out]; exact x32
                have hlK := MJ.out.hlen
                obtain ⟨e9, K9, J9, D9, h9⟩ : ∃ e9 K9 J9 D9, addK K' J' D' s = (e9, K9, J9, D9) := ⟨_, _, _, _, rfl⟩

                have RN := rnK3 s K' J' D'
                rw [h9] at RN
                dsimp only at RN
                have CC := (add_calls MJ.out h0 hsz s av nx cv xs (S2.out.kp KJ.out) htab (by omega) (by rw [HNX.out]; exact HNB.out) (by rw [HNX.out]; exact h3 rfl) (by rw [HBB.out, HEL.out]; omega) HW.out.2.2.2 HBAD.out)
                rw [h9] at CC
                have CS := Lib.hid (save4_calls (R := fun w' => ∃ X9 P9 hv9 rs9, KM n X9 P9 w' bk bj bd (rg : Nat) K9 J9 D9 a' c' hv9 rs9 ∧ Kp X' X9 wr w') wr bk b2 b3 s av nx cv e9 x2' x30 x31 x32' x33 x34 CC)
                have RNH := Lib.hid (hrn.symm.trans RN)
                have HPD := Lib.hid hpd
                have HR5 := Lib.hid hr5
                clear CC h9 RN x2' x30 x31 x32 x33 x34 x32' htab hrn hlK hsz hpd hr5 h3
                have fc := FC.out X' wr KJ.out
                obtain ⟨f0, f1, f2, f3⟩ := fc
                go_wp2_with fail
                (with_reducible refine CS.out.mono ?_)
                rintro e w9 ⟨rfl, X9, P9, hv9, rs9, q1, q2⟩
                have Q1 := Lib.hid q1
                have Q2 := Lib.hid q2
                clear q1 q2 CS
                by_cases he : e9 = 0
                · have NX : Hid (rnK s 4 K9 J9 D9 = T) := Lib.hid ((if_neg (not_not_intro he)).symm.trans RNH.out.symm)
                  have heb : (e9 != 0) = false := by simp [he]
                  subst he
                  clear RNH
                  go_wp2
                  go_roundw
                  case rel =>
                    exact .inr (.inr (.inr (.inr ⟨by go_num, K9, J9, D9, X9, P9, _, _, _, _, NX.out, Q1.out, KJ.out.trans Q2.out⟩)))
                  case measure => (first | decide | (simp [intOf]; done) | omega)
                · have heb : (e9 != 0) = true := by simp [he]
                  have TE : Hid (T = (e9, K9, J9, D9)) := Lib.hid (RNH.out.trans (if_pos he))
                  have RE : Hid (R = (e9, K9, J9, D9)) := by
                    have h4 := SK3.out
                    rw [TE.out, if_pos he] at h4
                    exact h4
                  clear RNH TE
                  go_wp2
                  go_ret
                  rw [RE.out]
                  exact ⟨rfl, X9, P9, _, _, _, _, Q1.out, (KW.out.trans KJ.out).trans Q2.out⟩
              · obtain ⟨K', J', D', X', P', a', c', hv', rs', hrn, mj, kj⟩ := hS
                have MJ := Lib.hid mj
                have KJ := Lib.hid kj
                have TE : Hid (T = (0, K', J', D')) := hrn.symm
                have RE : Hid (R = (if D'.down then 43 else 0, K', J', D')) := by
                  have h4 := SK3.out
                  rw [TE.out, if_neg (fun k => k rfl)] at h4
                  exact h4
                obtain ⟨x2', _⟩ := BX.out X' wr KJ.out
                have y0 := MJ.out.cells.1
                have DC := Lib.hid (km_down MJ.out)
                clear mj kj hrn TE
                cases hdn : D'.down with
                | true =>
                  rw [hdn] at DC RE
                  go_wp2_with fail
                  (with_reducible refine DC.out.mono ?_)
                  rintro e w9 ⟨rfl, rfl⟩
                  go_wp2
                  go_ret
                  rw [RE.out]
                  exact ⟨rfl, X', P', _, _, _, _, MJ.out, KW.out.trans KJ.out⟩
                | false =>
                  rw [hdn] at DC RE
                  go_wp2_with fail
                  (with_reducible refine DC.out.mono ?_)
                  rintro e w9 ⟨rfl, rfl⟩
                  go_wp2
                  go_ret
                  rw [RE.out]
                  exact ⟨rfl, X', P', _, _, _, _, MJ.out, KW.out.trans KJ.out⟩
end Go.Proofs.YtcpbmempfeloaaaDoor
/- Keep: begin. -/
namespace Go.Proofs.YtcpbmempfeloaaaDoor
open Go.RowKit
set_option linter.unusedVariables false
set_option linter.unusedSimpArgs false

theorem set5 {w : World} {g : Nat} {t : TypeId} {a0 a1 a2 a3 a4 : Value} (h : w.heap[g]? = some (.cells #[a0, a1, a2, a3, a4] t (0, 0))) (v0 v1 v2 v3 v4 : Value) :
    ∃ W, (((((w.setCell ⟨g, 0, none⟩ v0).setCell ⟨g, 1, none⟩ v1).setCell ⟨g, 2, none⟩ v2).setCell ⟨g, 3, none⟩ v3).setCell ⟨g, 4, none⟩ v4) = W ∧ W.heap[g]? = some (.cells #[v0, v1, v2, v3, v4] t (0, 0)) ∧ Fr (fun c _ => c ≠ g) w W :=
  ⟨_, rfl, heap_setCell_same (o := 4) (heap_setCell_same (o := 3) (heap_setCell_same (o := 2) (heap_setCell_same (o := 1) (heap_setCell_same (o := 0) h v0) v1) v2) v3) v4, (((((Fr.refl _ _).setCell (fun _ _ h => h rfl) _).setCell (fun _ _ h => h rfl) _).setCell (fun _ _ h => h rfl) _).setCell (fun _ _ h => h rfl) _).setCell (fun _ _ h => h rfl) _⟩
section
variable {n : Nat} {X P : Nat → Prop} {w w' : World} {bk bj bd : Nat} {ring : Int} {K : Ke} {J : Jn} {D : Dk} {a4 : Option Addr} {c4 : Nat} {hv : Value} {rs : List RV}
/-- Where a box of another kind is written. -/
theorem KM.box (h : KM n X P w bk bj bd ring K J D a4 c4 hv rs) {g : Nat} {cs : Array Value} {t : TypeId} {fz : Nat × Nat} (hg : w.heap[g]? = some (.cells cs t fz)) (ht : t ≠ 5) (hn : n ≤ g) (hx : ¬ X g) (hf : Fr (fun c _ => c ≠ g) w w') : KM n X P w' bk bj bd ring K J D a4 c4 hv rs :=
  h.fr hf (fun c o _ hc e => hx (e ▸ hc)) fun c o ho hc e => by
    subst e
    rw [hg] at ho
    cases ho
    rcases hc.2 with q | ⟨cs', fz', q⟩
    · omega
    · exact ht (Obj.cells.inj q).2.1
theorem km_load (h : KM n X P w bk bj bd ring K J D a4 c4 hv rs) (ht : TabOK w) (i : Int) (b : List UInt8) (m : Nat) (c : Int) (hr : loadM D i = (b, m, c)) :
    Calls Tryd.prog 55 #[.pointer (some ⟨bd, 0, none⟩), .int .i64 i] w fun e w' => (∃ a cap, e = .returned (.tuple #[.slice a b.length cap, .int .u32 (m : Nat), .int .i64 c]) ∧ BytesAt (New w.heap.size) w' (.slice a b.length cap) b) ∧ Fr (fun _ _ => True) w w' := by
  obtain ⟨F, G, h1, h2, h3, h4, h5⟩ := h.st.jd
  exact load_calls w bd F D i h1 ht b m c hr
end
theorem headZ_len : (headB zSta).length = 25 := by rw [headB_len]
/-- The zero state's head. -/
theorem head_zero (w : World) (hz : List UInt8) (h : headB zSta = hz) :
    Calls Tryd.prog 110 #[.agg #[.int .u64 0, .int .i64 (-1), .int .u64 0, .int .u64 0, .slice none 0 0]] w fun e w' => (∃ a' c', e = .returned (.slice a' 25 c') ∧ BytesAt (New w.heap.size) w' (.slice a' 25 c') hz) ∧ Fr (fun _ _ => True) w w' := by
  have k := head_calls w zSta none 0 0 zSta_wf ⟨by decide, by decide⟩
  rw [h] at k
  have e : vS zSta (.slice none 0 0) = .agg #[.int .u64 0, .int .i64 (-1), .int .u64 0, .int .u64 0, .slice none 0 0] := rfl
  rw [e] at k
  exact k
set_option maxRecDepth 100000 in
set_option maxHeartbeats 4000000 in
/-- begin, where there is nothing yet. -/
theorem begin_new {n : Nat} {X P : Nat → Prop} {w : World} {bk bj bd : Nat} {ring : Int} {K : Ke} {J : Jn} {D : Dk} {a4 : Option Addr} {c4 : Nat} {hv : Value} {rs : List RV} (h : KM n X P w bk bj bd ring K J D a4 c4 hv rs) (h0 : 0 < n) (hn : n ≤ w.heap.size) (ht : TabOK w) (bb : List UInt8) (mm : Nat) (hld : loadM D 1 = (bb, mm, 41)) :
    Calls Tryd.prog 82 #[.pointer (some ⟨bk, 0, none⟩)] w fun e w' => e = .returned (.tuple #[.agg #[.int .u64 0, .int .i64 (-1), .int .u64 0, .int .u64 0, .slice none 0 0], .bool true]) ∧ (∃ a4' c4', KM n X P w' bk bj bd ring { K with slot := headB zSta } J D a4' c4' hv rs) ∧ Kp X X w w' := by
  have HZL := Lib.hid headZ_len
  have HZ0 : Hid (∀ W : World, Calls Tryd.prog 110 #[.agg #[.int .u64 0, .int .i64 (-1), .int .u64 0, .int .u64 0, .slice none 0 0]] W fun e w' => (∃ a' c', e = .returned (.slice a' 25 c') ∧ BytesAt (New W.heap.size) w' (.slice a' 25 c') (headB zSta)) ∧ Fr (fun _ _ => True) W w') := fun W => head_zero W _ rfl
  generalize headB zSta = hzb at HZL HZ0 ⊢
  obtain ⟨W1, hW1⟩ : ∃ W, w.alloc (.cells #[.int .u64 0, .int .i64 0, .int .u64 0, .int .u64 0, .slice none 0 0] 68 (0, 0)) = W := ⟨_, rfl⟩
  have F1 : Hid (Fr (fun _ _ => True) w W1) := hW1 ▸ (Fr.refl _ _).alloc _
  have X1 : Hid (W1.heap[w.heap.size]? = some (.cells #[.int .u64 0, .int .i64 0, .int .u64 0, .int .u64 0, .slice none 0 0] 68 (0, 0))) := hW1 ▸ heap_alloc_new w _
  obtain ⟨Wz, hWz⟩ : ∃ W, W1.alloc (.cells #[.int .u64 0, .int .i64 0, .int .u64 0, .int .u64 0, .slice none 0 0] 68 (0, 0)) = W := ⟨_, rfl⟩
  have F1z : Hid (Fr (fun _ _ => True) W1 Wz) := hWz ▸ (Fr.refl _ _).alloc _
  have Xz : Hid (Wz.heap[W1.heap.size]? = some (.cells #[.int .u64 0, .int .i64 0, .int .u64 0, .int .u64 0, .slice none 0 0] 68 (0, 0))) := hWz ▸ heap_alloc_new W1 _
  have o0 := cell_mk (i := 0) Xz.out rfl
  have o1 := cell_mk (i := 1) Xz.out rfl
  have o2 := cell_mk (i := 2) Xz.out rfl
  have o3 := cell_mk (i := 3) Xz.out rfl
  have o4 := cell_mk (i := 4) Xz.out rfl
  have k0 := frozen_mk (i := 0) Xz.out
  have k1 := frozen_mk (i := 1) Xz.out
  have k2 := frozen_mk (i := 2) Xz.out
  have k3 := frozen_mk (i := 3) Xz.out
  have k4 := frozen_mk (i := 4) Xz.out
  obtain ⟨W2, hW2, T2, G2⟩ := set5 Xz.out (.int .u64 0) (.int .i64 (-1)) (.int .u64 0) (.int .u64 0) (.slice none 0 0)
  have X2 : Hid (W2.heap[W1.heap.size]? = some (.cells #[.int .u64 0, .int .i64 (-1), .int .u64 0, .int .u64 0, .slice none 0 0] 68 (0, 0))) := T2
  have F12 : Hid (Fr (fun _ _ => True) W1 W2) := Fr.within ((F1z.out.mono fun _ _ _ => trivial).trans (G2.mono fun c _ h e => by have := h.2; omega))
  have F2 : Hid (Fr (fun _ _ => True) w W2) := Lib.hid (F1.out.trans F12.out)
  have XR : Hid (W2.heap[w.heap.size]? = some (.cells #[.int .u64 0, .int .i64 0, .int .u64 0, .int .u64 0, .slice none 0 0] 68 (0, 0))) := F12.out.keep _ _ X1.out trivial
  have M2 := Lib.hid (h.tt F2.out)
  have NX : Hid (¬ X w.heap.size) := fun k => by have := h.hi _ k; omega
  have BK : Hid (bk < w.heap.size) := h.hi _ h.xb
  have CE : Hid (∀ W, Fr (fun _ _ => True) W2 W → W.cell? ⟨bk, 0, none⟩ = some (.pointer (some ⟨bd, 0, none⟩)) ∧ W.cell? ⟨bk, 2, none⟩ = some (.int .i64 1)) := fun W f => ⟨(M2.out.tt f).cells.1, (M2.out.tt f).cells.2.2.1⟩
  have HT : Hid (TabOK W2) := ht.kp (Kp.rfl' X F2.out) (h.z h0)
  have HN := Lib.hid hn
  have HZ : Hid (¬ X 0) := h.z h0
  have LC : Hid (∀ W, Fr (fun _ _ => True) W2 W → Calls Tryd.prog 55 #[.pointer (some ⟨bd, 0, none⟩), .int .i64 1] W fun e w' => (∃ a cap, e = .returned (.tuple #[.slice a bb.length cap, .int .u32 (mm : Nat), .int .i64 41])) ∧ Fr (fun _ _ => True) W w') := by
    intro W f
    have M := M2.out.tt f
    have T := HT.out.kp (Kp.rfl' X f) HZ.out
    refine (km_load M T 1 bb mm 41 hld).mono fun e w' hh => ?_
    obtain ⟨⟨a, cap, he, _⟩, hf⟩ := hh
    exact ⟨⟨a, cap, he⟩, hf⟩
  have U2 : Hid (Fr (fun _ _ => True) W2 W2.drew) := (Fr.refl _ _).drew
  clear h ht hn hld T2 G2
  generalize bb.length = bl at LC
  go_enter Tryd.func82, Tryd.ntmps82
  go_upto_region 2 with fail
  try rw [hW1]
  try rw [hWz]
  try rw [hW2]
  clear hW1 hW2 hWz o0 o1 o2 o3 o4 k0 k1 k2 k3 k4
  go_region_held3 (fun W => W.cell? ⟨bk, 0, none⟩ = some (.pointer (some ⟨bd, 0, none⟩)) ∧ W.cell? ⟨bk, 2, none⟩ = some (.int .i64 1))
    (first | exact CE.out _ F3.out | exact CE.out _ U2.out)
    (first | (go_at_call 55; go_must ((with_reducible refine (LC.out _ U2.out).mono ?_); rintro e w3 ⟨⟨a8, c8, rfl⟩, f3⟩; have F3 := Lib.hid (U2.out.trans f3); clear f3)))
  all_goals
    have F03 := Lib.hid (F2.out.trans F3.out)
    have T3 := F3.out.keep _ _ X2.out trivial
    have x0 := cell_mk (i := 0) T3 rfl
    have x1 := cell_mk (i := 1) T3 rfl
    have x2 := cell_mk (i := 2) T3 rfl
    have x3 := cell_mk (i := 3) T3 rfl
    have x4 := cell_mk (i := 4) T3 rfl
    have HC := Lib.hid (HZ0.out w3)
    clear CE LC T3
    go_wp2_with fail
    (with_reducible refine HC.out.mono ?_)
    rintro e w4 ⟨⟨a5, c5, rfl, b5⟩, f4⟩
    have F4 := Lib.hid (F3.out.trans f4)
    have M4 := Lib.hid (M2.out.tt F4.out)
    have B5 : Hid (BytesAt (Yk X n 5) w4 (.slice a5 25 c5) (hzb)) := Lib.hid (b5.mono fun c o _ k => Yk.new k fun c hc => Nat.lt_of_lt_of_le (M2.out.hi c hc) F3.out.size)
    have fz4 := M4.out.cells.2.2.2.2.2.2.2 4
    have y4 := M4.out.cells.2.2.2.2.1
    obtain ⟨W5, hW5⟩ : ∃ W, w4.setCell ⟨bk, 4, none⟩ (.slice a5 25 c5) = W := ⟨_, rfl⟩
    have M5 : Hid (KM n X P W5 bk bj bd ring { K with slot := hzb } J D a5 c5 hv rs) := hW5 ▸ M4.out.setSlot (HZL.out) B5.out
    have G5 : Hid (Fr (fun c _ => c ≠ bk) w4 W5) := hW5 ▸ M4.out.setF 4 _
    have T5 := G5.out.keep _ _ (F4.out.keep _ _ X2.out trivial) (by have := BK.out; have := F1.out.size; omega)
    have x0 := cell_mk (i := 0) T5 rfl
    have x1 := cell_mk (i := 1) T5 rfl
    have x2 := cell_mk (i := 2) T5 rfl
    have x3 := cell_mk (i := 3) T5 rfl
    have x4 := cell_mk (i := 4) T5 rfl
    have R5 : Hid (W5.heap[w.heap.size]? = _) := G5.out.keep _ _ (F4.out.keep _ _ XR.out trivial) (by have := BK.out; omega)
    have q0 := cell_mk (i := 0) R5.out rfl
    have q1 := cell_mk (i := 1) R5.out rfl
    have q2 := cell_mk (i := 2) R5.out rfl
    have q3 := cell_mk (i := 3) R5.out rfl
    have q4 := cell_mk (i := 4) R5.out rfl
    have z0 := frozen_mk (i := 0) R5.out
    have z1 := frozen_mk (i := 1) R5.out
    have z2 := frozen_mk (i := 2) R5.out
    have z3 := frozen_mk (i := 3) R5.out
    have z4 := frozen_mk (i := 4) R5.out
    obtain ⟨WZ, hWZ, TZ, FZ⟩ := set5 R5.out (.int .u64 0) (.int .i64 (-1)) (.int .u64 0) (.int .u64 0) (.slice none 0 0)
    have p0 := cell_mk (i := 0) TZ rfl
    have p1 := cell_mk (i := 1) TZ rfl
    have p2 := cell_mk (i := 2) TZ rfl
    have p3 := cell_mk (i := 3) TZ rfl
    have p4 := cell_mk (i := 4) TZ rfl
    have FZH := Lib.hid FZ
    clear TZ FZ f4 b5 HC T5
    go_wp2
    try rw [hW5]
    try rw [hWZ]
    refine bodyPost_ret (v := .tuple #[.agg #[.int .u64 0, .int .i64 (-1), .int .u64 0, .int .u64 0, .slice none 0 0], .bool true]) (by simp [results, Tryd.results82, go_sem, *]) rfl ⟨rfl, ⟨a5, c5, ?_⟩, ?_⟩
    · try rw [hW5]
      try rw [hWZ]
      exact M5.out.box R5.out (by decide) HN.out NX.out FZH.out
    · try rw [hW5]
      try rw [hWZ]
      exact ⟨Fr.within ((((F2.out.trans F4.out).mono fun _ _ _ => trivial).trans (G5.out.mono fun c _ h e => h.1 (e ▸ M4.out.xb))).trans (FZH.out.mono fun c _ h e => by have := h.2; omega)), fun _ _ h => h⟩
end Go.Proofs.YtcpbmempfeloaaaDoor
