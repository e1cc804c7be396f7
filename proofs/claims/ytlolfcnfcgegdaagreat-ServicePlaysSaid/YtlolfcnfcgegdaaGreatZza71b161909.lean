/- Texts of the proofs, part 16: what the functions that they reach do, walked; no conditions beyond those that each states. -/
import Derived.Shelf.Abstract
import Derived.Deep.AppendLies
import Derived.Deep.RegionLaw
import Derived.Test.YtlolfcnfcgegdaaGreatZz02e4f3291b
set_option linter.unusedVariables false
set_option linter.unusedSimpArgs false
/- Package locks: where a client stands (printed by locksfind.py). -/
namespace Go.Proofs.YtlolfcnfcgegdaaGreat
open Go.RowKit Go.Shelf
set_option linter.unusedVariables false
set_option linter.unusedSimpArgs false

theorem eqN (a b : Nat) : ((a : Int) == (b : Int)) = decide (a = b) := by
  by_cases h : a = b
  · subst h; simp
  · rw [decide_eq_false h]; simp; omega
set_option maxRecDepth 100000 in
/-- The closure of find, of a Hold. -/
theorem cloHold_calls (w : World) (bl bc : Nat) (h : Ho) (c : Nat) (hl : w.cell? ⟨bl, 1, none⟩ = some (.func (.func 116) #[] #[])) (hc : w.cell? ⟨bc, 0, none⟩ = some (.int .i64 (c : Nat))) :
    Calls Tryz.prog 134 #[vH h, .pointer (some ⟨bl, 0, none⟩), .pointer (some ⟨bc, 0, none⟩)] w fun e w' => e = .returned (.bool (decide (h.c = c))) ∧ Fr (fun _ _ => True) w w' := by
  have eg : ∀ args w, (callFunc 116 args).run Tryz.prog w = .ok (.enter 116 args) w := enters_of Tryz.func116 (by kernel_rfl) rfl
  have HC : Hid (∀ W, Calls Tryz.prog 116 #[.agg #[.int .i64 (h.c : Nat), .int .i64 (h.m : Nat), .int .u64 (h.t : Nat), .int .u64 (h.u : Nat)]] W fun e w' => e = .returned (.int .i64 (h.c : Nat)) ∧ Fr (fun _ _ => True) W w') := fun W => holder_calls W h
  unfold vH
  obtain ⟨WX, hWX⟩ : ∃ W, w.alloc (.cells #[.int .i64 (h.c : Nat), .int .i64 (h.m : Nat), .int .u64 (h.t : Nat), .int .u64 (h.u : Nat)] 112 (0, 0)) = W := ⟨_, rfl⟩
  have F1 : Hid (Fr (fun _ _ => True) w WX) := hWX ▸ (Fr.refl _ _).alloc _
  have XB : Hid (WX.heap[w.heap.size]? = some (.cells #[.int .i64 (h.c : Nat), .int .i64 (h.m : Nat), .int .u64 (h.t : Nat), .int .u64 (h.u : Nat)] 112 (0, 0))) := hWX ▸ heap_alloc_new w _
  have CC : Hid (∀ W, Fr (fun _ _ => True) WX W → W.cell? ⟨bl, 1, none⟩ = some (.func (.func 116) #[] #[]) ∧ W.cell? ⟨bc, 0, none⟩ = some (.int .i64 (c : Nat)) ∧ W.cell? ⟨w.heap.size, 0, none⟩ = some (.int .i64 (h.c : Nat)) ∧ W.cell? ⟨w.heap.size, 1, none⟩ = some (.int .i64 (h.m : Nat)) ∧ W.cell? ⟨w.heap.size, 2, none⟩ = some (.int .u64 (h.t : Nat)) ∧ W.cell? ⟨w.heap.size, 3, none⟩ = some (.int .u64 (h.u : Nat))) := fun W f => by
    have t := f.keep _ _ XB.out trivial
    exact ⟨(F1.out.trans f).cell (fun _ _ => trivial) hl, (F1.out.trans f).cell (fun _ _ => trivial) hc, cell_mk t rfl, cell_mk t rfl, cell_mk t rfl, cell_mk t rfl⟩
  have F0 : Hid (Fr (fun _ _ => True) WX WX.drew) := (Fr.refl _ _).drew
  clear hl hc
  go_enter Tryz.func134, Tryz.ntmps134
  go_wp2_with fail
  go_region_held3 (fun W => W.cell? ⟨bl, 1, none⟩ = some (.func (.func 116) #[] #[]) ∧ W.cell? ⟨bc, 0, none⟩ = some (.int .i64 (c : Nat)) ∧ W.cell? ⟨w.heap.size, 0, none⟩ = some (.int .i64 (h.c : Nat)) ∧ W.cell? ⟨w.heap.size, 1, none⟩ = some (.int .i64 (h.m : Nat)) ∧ W.cell? ⟨w.heap.size, 2, none⟩ = some (.int .u64 (h.t : Nat)) ∧ W.cell? ⟨w.heap.size, 3, none⟩ = some (.int .u64 (h.u : Nat))) (first | exact CC.out _ F0.out | exact CC.out _ F9.out)
    ((go_at_fn 116; (with_reducible refine (HC.out _).mono ?_); rintro e w9 ⟨rfl, f9⟩; have F9 : Hid (Fr (fun _ _ => True) WX w9) := F0.out.trans f9; clear f9))
  all_goals
    go_wp2
    go_ret
    exact ⟨by rw [← eqN]; rfl, F1.out.trans F9.out⟩
set_option maxRecDepth 100000 in
/-- The closure of find, of a Want. -/
theorem cloWant_calls (w : World) (bl bc : Nat) (h : Wa) (c : Nat) (hl : w.cell? ⟨bl, 1, none⟩ = some (.func (.func 118) #[] #[])) (hc : w.cell? ⟨bc, 0, none⟩ = some (.int .i64 (c : Nat))) :
    Calls Tryz.prog 136 #[vW h, .pointer (some ⟨bl, 0, none⟩), .pointer (some ⟨bc, 0, none⟩)] w fun e w' => e = .returned (.bool (decide (h.c = c))) ∧ Fr (fun _ _ => True) w w' := by
  have eg : ∀ args w, (callFunc 118 args).run Tryz.prog w = .ok (.enter 118 args) w := enters_of Tryz.func118 (by kernel_rfl) rfl
  have HC : Hid (∀ W, Calls Tryz.prog 118 #[.agg #[.int .i64 (h.c : Nat), .int .i64 (h.m : Nat)]] W fun e w' => e = .returned (.int .i64 (h.c : Nat)) ∧ Fr (fun _ _ => True) W w') := fun W => waiter_calls W h
  unfold vW
  obtain ⟨WX, hWX⟩ : ∃ W, w.alloc (.cells #[.int .i64 (h.c : Nat), .int .i64 (h.m : Nat)] 114 (0, 0)) = W := ⟨_, rfl⟩
  have F1 : Hid (Fr (fun _ _ => True) w WX) := hWX ▸ (Fr.refl _ _).alloc _
  have XB : Hid (WX.heap[w.heap.size]? = some (.cells #[.int .i64 (h.c : Nat), .int .i64 (h.m : Nat)] 114 (0, 0))) := hWX ▸ heap_alloc_new w _
  have CC : Hid (∀ W, Fr (fun _ _ => True) WX W → W.cell? ⟨bl, 1, none⟩ = some (.func (.func 118) #[] #[]) ∧ W.cell? ⟨bc, 0, none⟩ = some (.int .i64 (c : Nat)) ∧ W.cell? ⟨w.heap.size, 0, none⟩ = some (.int .i64 (h.c : Nat)) ∧ W.cell? ⟨w.heap.size, 1, none⟩ = some (.int .i64 (h.m : Nat))) := fun W f => by
    have t := f.keep _ _ XB.out trivial
    exact ⟨(F1.out.trans f).cell (fun _ _ => trivial) hl, (F1.out.trans f).cell (fun _ _ => trivial) hc, cell_mk t rfl, cell_mk t rfl⟩
  have F0 : Hid (Fr (fun _ _ => True) WX WX.drew) := (Fr.refl _ _).drew
  clear hl hc
  go_enter Tryz.func136, Tryz.ntmps136
  go_wp2_with fail
  go_region_held3 (fun W => W.cell? ⟨bl, 1, none⟩ = some (.func (.func 118) #[] #[]) ∧ W.cell? ⟨bc, 0, none⟩ = some (.int .i64 (c : Nat)) ∧ W.cell? ⟨w.heap.size, 0, none⟩ = some (.int .i64 (h.c : Nat)) ∧ W.cell? ⟨w.heap.size, 1, none⟩ = some (.int .i64 (h.m : Nat))) (first | exact CC.out _ F0.out | exact CC.out _ F9.out)
    ((go_at_fn 118; (with_reducible refine (HC.out _).mono ?_); rintro e w9 ⟨rfl, f9⟩; have F9 : Hid (Fr (fun _ _ => True) WX w9) := F0.out.trans f9; clear f9))
  all_goals
    go_wp2
    go_ret
    exact ⟨by rw [← eqN]; rfl, F1.out.trans F9.out⟩
/-- Where p holds first, as Go counts. -/
def idxH (p : Ho → Bool) (xs : List Ho) : Int := match xs.findIdx? p with | some i => (i : Nat) | none => -1
theorem idxH_hit {p : Ho → Bool} {xs : List Ho} {i : Nat} (hi : i < xs.length) (hp : p xs[i] = true) (h : ∀ j, (hj : j < xs.length) → j < i → p xs[j] = false) : idxH p xs = (i : Nat) := by
  have e : xs.findIdx? p = some i := List.findIdx?_eq_some_iff_getElem.2 ⟨hi, hp, fun j hj => by rw [h j (by omega) hj]; simp⟩
  unfold idxH; rw [e]
theorem idxH_none {p : Ho → Bool} {xs : List Ho} (h : ∀ j, (hj : j < xs.length) → p xs[j] = false) : idxH p xs = -1 := by
  have e : xs.findIdx? p = none := List.findIdx?_eq_none_iff.2 fun x hx => by obtain ⟨j, hj, rfl⟩ := List.mem_iff_getElem.1 hx; exact h j hj
  unfold idxH; rw [e]
set_option maxRecDepth 100000 in
set_option maxHeartbeats 1000000 in
theorem indexfuncH {K : Nat → Obj → Prop} (w : World) (v : Value) (xs : List Ho) (g : Nat) (lb : Array Value) (p : Ho → Bool) (eg : ∀ args w, (callFunc g args).run Tryz.prog w = .ok (.enter g args) w) (hrow : RowsAt K w v 4 encH xs) (hl : xs.length ≤ 1000000)
    (hp : ∀ W h, Fr (fun _ _ => True) w W → Calls Tryz.prog g (#[vH h] ++ lb) W fun e w' => e = .returned (.bool (p h)) ∧ Fr (fun _ _ => True) W w') :
    Calls Tryz.prog 88 #[v, .func (.func g) #[] lb] w fun e w' => e = .returned (.int .i64 (idxH p xs)) ∧ Fr (fun _ _ => True) w w' := by
  obtain ⟨a, cp, rfl, hcp⟩ := hrow.form
  have HR := Lib.hid hrow
  have HP := Lib.hid hp
  have HIT := Lib.hid (fun i hi hp h => @idxH_hit p xs i hi hp h)
  have NONE := Lib.hid (@idxH_none p xs)
  clear hrow hp
  obtain ⟨z, hz⟩ : ∃ z, idxH p xs = z := ⟨_, rfl⟩
  rw [hz] at HIT NONE ⊢
  clear hz
  go_enter Tryz.func88, Tryz.ntmps88
  go_wp2
  go_loopw [5, 8] (fun _ v8 wr => ∃ i : Nat, v8 = .int .i64 i ∧ i ≤ xs.length ∧ Hid (∀ j, (hj : j < xs.length) → j < i → p xs[j] = false) ∧ Hid (Fr (fun _ _ => True) w wr)) (fun _ v8 _ => xs.length - (intOf v8).toNat)
  case atStart => exact ⟨0, rfl, Nat.zero_le _, fun j _ h => (by omega), Fr.refl _ _⟩
  case round =>
    obtain ⟨i, rfl, hi, HN, HF⟩ := hrel
    by_cases hlt : i < xs.length
    · have hltI : (i : Int) < xs.length := by omega
      obtain ⟨b, off, o, rfl, _, _, hc⟩ := HR.out.spot (by omega)
      obtain ⟨x, hx⟩ : ∃ x, xs[i] = x := ⟨_, rfl⟩
      have hcs := RowsAt.h4 (K := K) hc i hlt
      rw [hx] at hcs
      have HX := Lib.hid hx
      obtain ⟨k0, k1, k2, k3⟩ := hcs
      replace k0 := HF.out.cell (fun _ _ => trivial) k0
      replace k1 := HF.out.cell (fun _ _ => trivial) k1
      replace k2 := HF.out.cell (fun _ _ => trivial) k2
      replace k3 := HF.out.cell (fun _ _ => trivial) k3
      have pc := HP.out wr x HF.out
      unfold vH at pc
      have PC := Lib.hid pc
      clear hc hx pc
      cases hq : p x with
      | true =>
        rw [hq] at PC
        have HQ := Lib.hid hq
        clear hq
        go_wp2_with fail
        (with_reducible refine PC.out.mono ?_)
        rintro e w' ⟨rfl, f'⟩
        have F' := Lib.hid (HF.out.trans f')
        clear f' PC
        go_wp2
        go_ret
        refine ⟨?_, F'.out⟩
        have := HIT.out i hlt (by rw [HX.out]; exact HQ.out) HN.out
        rw [this]; rfl
      | false =>
        rw [hq] at PC
        have HQ := Lib.hid hq
        clear hq
        go_wp2_with fail
        (with_reducible refine PC.out.mono ?_)
        rintro e w' ⟨rfl, f'⟩
        have F' := Lib.hid (HF.out.trans f')
        clear f' PC
        go_wp2
        go_roundw
        case rel => exact ⟨i + 1, by go_num, hlt, fun j hj hji => by
          by_cases e : j = i
          · subst e; rw [HX.out]; exact HQ.out
          · exact HN.out j hj (by omega), F'.out⟩
        case measure => simp [intOf]; omega
    · have hge : (xs.length : Int) ≤ i := by omega
      go_wp2
      go_ret
      refine ⟨?_, HF.out⟩
      rw [NONE.out fun j hj => HN.out j hj (by omega)]; rfl
set_option maxRecDepth 100000 in
theorem findH {K : Nat → Obj → Prop} (w : World) (v : Value) (xs : List Ho) (c : Nat) (hrow : RowsAt K w v 4 encH xs) (hl : xs.length ≤ 1000000) :
    Calls Tryz.prog 117 #[.agg #[v, .func (.func 116) #[] #[]], .int .i64 (c : Nat)] w fun e w' => e = .returned (.int .i64 (idxH (fun h => decide (h.c = c)) xs)) ∧ Fr (fun _ _ => True) w w' := by
  obtain ⟨a, cp, rfl, hcp⟩ := hrow.form
  have eg : ∀ args w, (callFunc 134 args).run Tryz.prog w = .ok (.enter 134 args) w := enters_of Tryz.func134 (by kernel_rfl) rfl
  obtain ⟨W1, hW1⟩ : ∃ W, w.alloc (.cells #[.slice a xs.length cp, .func (.func 116) #[] #[]] 168 (0, 0)) = W := ⟨_, rfl⟩
  have F1 : Hid (Fr (fun _ _ => True) w W1) := hW1 ▸ (Fr.refl _ _).alloc _
  have X1 : Hid (W1.heap[w.heap.size]? = some (.cells #[.slice a xs.length cp, .func (.func 116) #[] #[]] 168 (0, 0))) := hW1 ▸ heap_alloc_new w _
  obtain ⟨W2, hW2⟩ : ∃ W, W1.alloc (.cells #[.int .i64 (c : Nat)] 3 (0, 0)) = W := ⟨_, rfl⟩
  have F2 : Hid (Fr (fun _ _ => True) W1 W2) := hW2 ▸ (Fr.refl _ _).alloc _
  have X2 : Hid (W2.heap[W1.heap.size]? = some (.cells #[.int .i64 (c : Nat)] 3 (0, 0))) := hW2 ▸ heap_alloc_new W1 _
  have IC := Lib.hid (indexfuncH W2 _ xs 134 #[.pointer (some ⟨w.heap.size, 0, none⟩), .pointer (some ⟨W1.heap.size, 0, none⟩)] (fun h => decide (h.c = c)) eg (hrow.tt (F1.out.trans F2.out)) hl
    (fun W h f => cloHold_calls W w.heap.size W1.heap.size h c (cell_mk (f.keep _ _ (F2.out.keep _ _ X1.out trivial) trivial) rfl) (cell_mk (f.keep _ _ X2.out trivial) rfl)))
  have x10 : W2.cell? ⟨w.heap.size, 0, none⟩ = some (.slice a xs.length cp) := cell_mk (F2.out.keep _ _ X1.out trivial) rfl
  obtain ⟨z, hz⟩ : ∃ z, idxH (fun h => decide (h.c = c)) xs = z := ⟨_, rfl⟩
  rw [hz] at IC ⊢
  clear hz hrow
  go_enter Tryz.func117, Tryz.ntmps117
  go_wp2_with fail
  (with_reducible refine IC.out.mono ?_)
  rintro e w' ⟨rfl, f'⟩
  have F' := Lib.hid f'
  clear f' IC
  go_wp2
  go_ret
  exact ⟨rfl, (F1.out.trans F2.out).trans F'.out⟩
set_option maxRecDepth 100000 in
theorem hold_calls {K : Nat → Obj → Prop} (w : World) (b o : Nat) (v : Value) (xs : List Ho) (c : Nat) (hc : w.cell? ⟨b, o, none⟩ = some v) (hrow : RowsAt K w v 4 encH xs) (hl : xs.length ≤ 1000000) :
    Calls Tryz.prog 94 #[.pointer (some ⟨b, o, none⟩), .int .i64 (c : Nat)] w fun e w' => e = .returned (.int .i64 (idxH (fun h => decide (h.c = c)) xs)) ∧ Fr (fun _ _ => True) w w' := by
  obtain ⟨a, cp, rfl, hcp⟩ := hrow.form
  have FC := Lib.hid (findH w _ xs c hrow hl)
  clear hrow
  go_enter Tryz.func94, Tryz.ntmps94
  go_wp2_with fail
  (with_reducible refine FC.out.mono ?_)
  rintro e w' ⟨rfl, f'⟩
  have F' := Lib.hid f'
  clear f' FC
  go_wp2
  go_ret
  exact ⟨rfl, F'.out⟩
/-- Where p holds first, as Go counts. -/
def idxW (p : Wa → Bool) (xs : List Wa) : Int := match xs.findIdx? p with | some i => (i : Nat) | none => -1
theorem idxW_hit {p : Wa → Bool} {xs : List Wa} {i : Nat} (hi : i < xs.length) (hp : p xs[i] = true) (h : ∀ j, (hj : j < xs.length) → j < i → p xs[j] = false) : idxW p xs = (i : Nat) := by
  have e : xs.findIdx? p = some i := List.findIdx?_eq_some_iff_getElem.2 ⟨hi, hp, fun j hj => by rw [h j (by omega) hj]; simp⟩
  unfold idxW; rw [e]
theorem idxW_none {p : Wa → Bool} {xs : List Wa} (h : ∀ j, (hj : j < xs.length) → p xs[j] = false) : idxW p xs = -1 := by
  have e : xs.findIdx? p = none := List.findIdx?_eq_none_iff.2 fun x hx => by obtain ⟨j, hj, rfl⟩ := List.mem_iff_getElem.1 hx; exact h j hj
  unfold idxW; rw [e]
set_option maxRecDepth 100000 in
set_option maxHeartbeats 1000000 in
theorem indexfuncW {K : Nat → Obj → Prop} (w : World) (v : Value) (xs : List Wa) (g : Nat) (lb : Array Value) (p : Wa → Bool) (eg : ∀ args w, (callFunc g args).run Tryz.prog w = .ok (.enter g args) w) (hrow : RowsAt K w v 2 encW xs) (hl : xs.length ≤ 1000000)
    (hp : ∀ W h, Fr (fun _ _ => True) w W → Calls Tryz.prog g (#[vW h] ++ lb) W fun e w' => e = .returned (.bool (p h)) ∧ Fr (fun _ _ => True) W w') :
    Calls Tryz.prog 135 #[v, .func (.func g) #[] lb] w fun e w' => e = .returned (.int .i64 (idxW p xs)) ∧ Fr (fun _ _ => True) w w' := by
  obtain ⟨a, cp, rfl, hcp⟩ := hrow.form
  have HR := Lib.hid hrow
  have HP := Lib.hid hp
  have HIT := Lib.hid (fun i hi hp h => @idxW_hit p xs i hi hp h)
  have NONE := Lib.hid (@idxW_none p xs)
  clear hrow hp
  obtain ⟨z, hz⟩ : ∃ z, idxW p xs = z := ⟨_, rfl⟩
  rw [hz] at HIT NONE ⊢
  clear hz
  go_enter Tryz.func135, Tryz.ntmps135
  go_wp2
  go_loopw [5, 8] (fun _ v8 wr => ∃ i : Nat, v8 = .int .i64 i ∧ i ≤ xs.length ∧ Hid (∀ j, (hj : j < xs.length) → j < i → p xs[j] = false) ∧ Hid (Fr (fun _ _ => True) w wr)) (fun _ v8 _ => xs.length - (intOf v8).toNat)
  case atStart => exact ⟨0, rfl, Nat.zero_le _, fun j _ h => (by omega), Fr.refl _ _⟩
  case round =>
    obtain ⟨i, rfl, hi, HN, HF⟩ := hrel
    by_cases hlt : i < xs.length
    · have hltI : (i : Int) < xs.length := by omega
      obtain ⟨b, off, o, rfl, _, _, hc⟩ := HR.out.spot (by omega)
      obtain ⟨x, hx⟩ : ∃ x, xs[i] = x := ⟨_, rfl⟩
      have hcs := RowsAt.w2 (K := K) hc i hlt
      rw [hx] at hcs
      have HX := Lib.hid hx
      obtain ⟨k0, k1⟩ := hcs
      replace k0 := HF.out.cell (fun _ _ => trivial) k0
      replace k1 := HF.out.cell (fun _ _ => trivial) k1
      have pc := HP.out wr x HF.out
      unfold vW at pc
      have PC := Lib.hid pc
      clear hc hx pc
      cases hq : p x with
      | true =>
        rw [hq] at PC
        have HQ := Lib.hid hq
        clear hq
        go_wp2_with fail
        (with_reducible refine PC.out.mono ?_)
        rintro e w' ⟨rfl, f'⟩
        have F' := Lib.hid (HF.out.trans f')
        clear f' PC
        go_wp2
        go_ret
        refine ⟨?_, F'.out⟩
        have := HIT.out i hlt (by rw [HX.out]; exact HQ.out) HN.out
        rw [this]; rfl
      | false =>
        rw [hq] at PC
        have HQ := Lib.hid hq
        clear hq
        go_wp2_with fail
        (with_reducible refine PC.out.mono ?_)
        rintro e w' ⟨rfl, f'⟩
        have F' := Lib.hid (HF.out.trans f')
        clear f' PC
        go_wp2
        go_roundw
        case rel => exact ⟨i + 1, by go_num, hlt, fun j hj hji => by
          by_cases e : j = i
          · subst e; rw [HX.out]; exact HQ.out
          · exact HN.out j hj (by omega), F'.out⟩
        case measure => simp [intOf]; omega
    · have hge : (xs.length : Int) ≤ i := by omega
      go_wp2
      go_ret
      refine ⟨?_, HF.out⟩
      rw [NONE.out fun j hj => HN.out j hj (by omega)]; rfl
set_option maxRecDepth 100000 in
theorem findW {K : Nat → Obj → Prop} (w : World) (v : Value) (xs : List Wa) (c : Nat) (hrow : RowsAt K w v 2 encW xs) (hl : xs.length ≤ 1000000) :
    Calls Tryz.prog 119 #[.agg #[v, .func (.func 118) #[] #[]], .int .i64 (c : Nat)] w fun e w' => e = .returned (.int .i64 (idxW (fun h => decide (h.c = c)) xs)) ∧ Fr (fun _ _ => True) w w' := by
  obtain ⟨a, cp, rfl, hcp⟩ := hrow.form
  have eg : ∀ args w, (callFunc 136 args).run Tryz.prog w = .ok (.enter 136 args) w := enters_of Tryz.func136 (by kernel_rfl) rfl
  obtain ⟨W1, hW1⟩ : ∃ W, w.alloc (.cells #[.slice a xs.length cp, .func (.func 118) #[] #[]] 171 (0, 0)) = W := ⟨_, rfl⟩
  have F1 : Hid (Fr (fun _ _ => True) w W1) := hW1 ▸ (Fr.refl _ _).alloc _
  have X1 : Hid (W1.heap[w.heap.size]? = some (.cells #[.slice a xs.length cp, .func (.func 118) #[] #[]] 171 (0, 0))) := hW1 ▸ heap_alloc_new w _
  obtain ⟨W2, hW2⟩ : ∃ W, W1.alloc (.cells #[.int .i64 (c : Nat)] 3 (0, 0)) = W := ⟨_, rfl⟩
  have F2 : Hid (Fr (fun _ _ => True) W1 W2) := hW2 ▸ (Fr.refl _ _).alloc _
  have X2 : Hid (W2.heap[W1.heap.size]? = some (.cells #[.int .i64 (c : Nat)] 3 (0, 0))) := hW2 ▸ heap_alloc_new W1 _
  have IC := Lib.hid (indexfuncW W2 _ xs 136 #[.pointer (some ⟨w.heap.size, 0, none⟩), .pointer (some ⟨W1.heap.size, 0, none⟩)] (fun h => decide (h.c = c)) eg (hrow.tt (F1.out.trans F2.out)) hl
    (fun W h f => cloWant_calls W w.heap.size W1.heap.size h c (cell_mk (f.keep _ _ (F2.out.keep _ _ X1.out trivial) trivial) rfl) (cell_mk (f.keep _ _ X2.out trivial) rfl)))
  have x10 : W2.cell? ⟨w.heap.size, 0, none⟩ = some (.slice a xs.length cp) := cell_mk (F2.out.keep _ _ X1.out trivial) rfl
  obtain ⟨z, hz⟩ : ∃ z, idxW (fun h => decide (h.c = c)) xs = z := ⟨_, rfl⟩
  rw [hz] at IC ⊢
  clear hz hrow
  go_enter Tryz.func119, Tryz.ntmps119
  go_wp2_with fail
  (with_reducible refine IC.out.mono ?_)
  rintro e w' ⟨rfl, f'⟩
  have F' := Lib.hid f'
  clear f' IC
  go_wp2
  go_ret
  exact ⟨rfl, (F1.out.trans F2.out).trans F'.out⟩
set_option maxRecDepth 100000 in
theorem want_calls {K : Nat → Obj → Prop} (w : World) (b o : Nat) (v : Value) (xs : List Wa) (c : Nat) (hc : w.cell? ⟨b, o + 1, none⟩ = some v) (hrow : RowsAt K w v 2 encW xs) (hl : xs.length ≤ 1000000) :
    Calls Tryz.prog 97 #[.pointer (some ⟨b, o, none⟩), .int .i64 (c : Nat)] w fun e w' => e = .returned (.int .i64 (idxW (fun h => decide (h.c = c)) xs)) ∧ Fr (fun _ _ => True) w w' := by
  obtain ⟨a, cp, rfl, hcp⟩ := hrow.form
  have FC := Lib.hid (findW w _ xs c hrow hl)
  clear hrow
  go_enter Tryz.func97, Tryz.ntmps97
  go_wp2_with fail
  (with_reducible refine FC.out.mono ?_)
  rintro e w' ⟨rfl, f'⟩
  have F' := Lib.hid f'
  clear f' FC
  go_wp2
  go_ret
  exact ⟨rfl, F'.out⟩
set_option maxRecDepth 100000 in
theorem cloBears (w : World) (bm : Nat) (h : Ho) (m : Nat) (hc : w.cell? ⟨bm, 0, none⟩ = some (.int .i64 (m : Nat))) :
    Calls Tryz.prog 114 #[vH h, .pointer (some ⟨bm, 0, none⟩)] w fun e w' => e = .returned (.bool (decide (h.m = 2) || decide (m = 2))) ∧ Fr (fun _ _ => True) w w' := by
  obtain ⟨hc', hm, ht, hu⟩ := h
  unfold vH
  have hlt := cell_lt hc
  simp only at hlt
  have hcW : ∀ o, (w.alloc o).cell? ⟨bm, 0, none⟩ = some (.int .i64 (m : Nat)) := fun o => ((Fr.refl (fun _ _ => True) w).alloc o).cell (fun _ _ => trivial) hc
  have ne : bm ≠ w.heap.size := by omega
  by_cases h2 : hm = 2
  · subst h2
    go_enter Tryz.func114, Tryz.ntmps114
    go_wp2
    go_ret
    exact ⟨rfl, (Fr.refl _ _).alloc _⟩
  · have h2' : ((hm : Int) == 2) = false := by simp; omega
    have E : Hid (decide (hm = 2) = false) := by show _ = _; simpa using h2
    clear h2
    go_enter Tryz.func114, Tryz.ntmps114
    rw [E.out]
    go_wp2
    go_ret
    refine ⟨?_, (Fr.refl _ _).alloc _⟩
    by_cases q : m = 2
    · subst q; rfl
    · have q1 : ((m : Int) == 2) = false := by simp; omega
      have q2 : decide (m = 2) = false := by simpa using q
      simp [q1, q2]
set_option maxRecDepth 100000 in
theorem containsH {K : Nat → Obj → Prop} (w : World) (v : Value) (xs : List Ho) (g : Nat) (lb : Array Value) (p : Ho → Bool) (eg : ∀ args w, (callFunc g args).run Tryz.prog w = .ok (.enter g args) w) (hrow : RowsAt K w v 4 encH xs) (hl : xs.length ≤ 1000000)
    (hp : ∀ W h, Fr (fun _ _ => True) w W → Calls Tryz.prog g (#[vH h] ++ lb) W fun e w' => e = .returned (.bool (p h)) ∧ Fr (fun _ _ => True) W w') :
    Calls Tryz.prog 115 #[v, .func (.func g) #[] lb] w fun e w' => e = .returned (.bool (xs.any p)) ∧ Fr (fun _ _ => True) w w' := by
  have IC := Lib.hid (indexfuncH w v xs g lb p eg hrow hl hp)
  have E : Hid (decide (0 ≤ idxH p xs) = xs.any p) := by
    show _ = _
    unfold idxH
    cases hf : xs.findIdx? p with
    | none =>
      have := List.findIdx?_eq_none_iff.1 hf
      rw [eq_comm, List.any_eq_false.2 (fun x hx => by rw [this x hx]; simp)]
      rfl
    | some i =>
      obtain ⟨hi, h2, _⟩ := List.findIdx?_eq_some_iff_getElem.1 hf
      rw [List.any_eq_true.2 ⟨_, List.getElem_mem hi, h2⟩]
      exact decide_eq_true (Int.natCast_nonneg i)
  obtain ⟨z, hz⟩ : ∃ z, idxH p xs = z := ⟨_, rfl⟩
  rw [hz] at IC E
  obtain ⟨y, hy⟩ : ∃ y, xs.any p = y := ⟨_, rfl⟩
  rw [hy] at E ⊢
  clear hz hy hp hrow
  go_enter Tryz.func115, Tryz.ntmps115
  go_wp2_with fail
  (with_reducible refine IC.out.mono ?_)
  rintro e w' ⟨rfl, f'⟩
  have F' := Lib.hid f'
  clear f' IC
  go_wp2
  go_ret
  exact ⟨by rw [← E.out]; rfl, F'.out⟩
set_option maxRecDepth 100000 in
theorem bears_calls {K : Nat → Obj → Prop} (w : World) (b o : Nat) (v : Value) (xs : List Ho) (m : Nat) (hc : w.cell? ⟨b, o, none⟩ = some v) (hrow : RowsAt K w v 4 encH xs) (hl : xs.length ≤ 1000000) :
    Calls Tryz.prog 89 #[.pointer (some ⟨b, o, none⟩), .int .i64 (m : Nat)] w fun e w' => e = .returned (.bool (bearsM xs m)) ∧ Fr (fun _ _ => True) w w' := by
  obtain ⟨a, cp, rfl, hcp⟩ := hrow.form
  have eg : ∀ args w, (callFunc 114 args).run Tryz.prog w = .ok (.enter 114 args) w := enters_of Tryz.func114 (by kernel_rfl) rfl
  obtain ⟨W1, hW1⟩ : ∃ W, w.alloc (.cells #[.int .i64 (m : Nat)] 3 (0, 0)) = W := ⟨_, rfl⟩
  have F1 : Hid (Fr (fun _ _ => True) w W1) := hW1 ▸ (Fr.refl _ _).alloc _
  have X1 : Hid (W1.heap[w.heap.size]? = some (.cells #[.int .i64 (m : Nat)] 3 (0, 0))) := hW1 ▸ heap_alloc_new w _
  have c1 : W1.cell? ⟨b, o, none⟩ = some (.slice a xs.length cp) := F1.out.cell (fun _ _ => trivial) hc
  have IC := Lib.hid (containsH W1 _ xs 114 #[.pointer (some ⟨w.heap.size, 0, none⟩)] (fun h => decide (h.m = 2) || decide (m = 2)) eg (hrow.tt F1.out) hl
    (fun W h f => cloBears W w.heap.size h m (cell_mk (f.keep _ _ X1.out trivial) rfl)))
  have E : Hid (bearsM xs m = !(xs.any fun h => decide (h.m = 2) || decide (m = 2))) := rfl
  obtain ⟨z, hz⟩ : ∃ z, (xs.any fun h => decide (h.m = 2) || decide (m = 2)) = z := ⟨_, rfl⟩
  rw [hz] at IC E
  obtain ⟨y, hy⟩ : ∃ y, bearsM xs m = y := ⟨_, rfl⟩
  rw [hy] at E ⊢
  clear hz hy hrow hc
  go_enter Tryz.func89, Tryz.ntmps89
  go_wp2_with fail
  (with_reducible refine IC.out.mono ?_)
  rintro e w' ⟨rfl, f'⟩
  have F' := Lib.hid f'
  clear f' IC
  go_wp2
  go_ret
  exact ⟨by rw [E.out]; rfl, F1.out.trans F'.out⟩
end Go.Proofs.YtlolfcnfcgegdaaGreat
/- The locks' table: what a store into it leaves. -/
namespace Go.Proofs.YtlolfcnfcgegdaaGreat
open Go.RowKit
set_option linter.unusedVariables false
set_option linter.unusedSimpArgs false

theorem info_ho : (Tryz.prog.info? 112).map (fun i => (i.zero, i.size, i.bytes)) = some (some (.agg #[.int .i64 0, .int .i64 0, .int .u64 0, .int .u64 0]), 4, 32) := by kernel_rfl
theorem info_wa : (Tryz.prog.info? 114).map (fun i => (i.zero, i.size, i.bytes)) = some (some (.agg #[.int .i64 0, .int .i64 0]), 2, 16) := by kernel_rfl
theorem encH_one (h : Ho) : ∀ u ∈ encH h, u.oneCell' = true := fun u hu => by
  simp only [encH, List.mem_cons, List.not_mem_nil, or_false] at hu
  rcases hu with rfl | rfl | rfl | rfl <;> rfl
theorem encW_one (h : Wa) : ∀ u ∈ encW h, u.oneCell' = true := fun u hu => by
  simp only [encW, List.mem_cons, List.not_mem_nil, or_false] at hu
  rcases hu with rfl | rfl <;> rfl
theorem flat_snoc {α : Type} (enc : α → List Value) (xs : List α) (x : α) : xs.flatMap enc ++ enc x = (xs ++ [x]).flatMap enc := by simp
/-- An append of a hold, at a step of a region that draws its order. -/
theorem step_append_ho {ops : Array Oper} {o : Oper} {a : Act} {K : Act → World → Prop} {Q : Exit → Act → World → Prop} {E : Prop} (W : World) (hgd : o.guard = none) (s x : Operand)
    (ho : o.op = .call { callee := .builtin .append, args := #[s, x], argTypes := #[60, 60] }) (v : Value) (T : List Ho) (hs : a.eval s = v) (hown : Hid (W.ownsRow 0 112 4 v T.length (T.flatMap encH)))
    (b : Nat) (hx : a.eval x = .slice (some ⟨b, 0, none⟩) 1 1) (y : Ho) (hvx : Hid (W.heap[b]? = some (.cells #[.int .i64 (y.c : Nat), .int .i64 (y.m : Nat), .int .u64 (y.t : Nat), .int .u64 (y.u : Nat)] 112 (0, 0)))) (hn : T.length ≤ 1000000)
    (h : ∀ g cap w', Hid (w'.ownsRow 0 112 4 (.slice (some ⟨g, 0, none⟩) (T.length + 1) cap) (T.length + 1) ((T ++ [y]).flatMap encH)) → Hid (W.grownBy w' v.ownBlock) → Hid (OwnNext W v (.slice (some ⟨g, 0, none⟩) (T.length + 1) cap)) → K (a.put o.dst (.slice (some ⟨g, 0, none⟩) (T.length + 1) cap)) w') :
    if Region.wanted o (yielded ops a.tmps) = true then Oper.wp Tryz.prog o a W K Q else E := by
  obtain ⟨i0, hi, hz0, hz1, hz2⟩ := info_parts info_ho
  refine step_append_lies W hgd s x 60 ho 0 112 i0 _ 4 32 Tryz.underlying60 hi hz0 hz1 hz2 rfl (by decide) v T.length (T.flatMap encH) hs hown.out ⟨b, 0, none⟩ 1 1 (encH y) hx rfl
    (World.news_of_block hvx.out) (encH_one y) (by decide) (by unfold maxLen; omega) (by omega) (Nat.zero_le _) _ rfl ?_
  intro g cap w' h1 h2 h3 h4
  rw [flat_snoc encH T y] at h1
  refine h g cap w' h1 h2 ?_
  rcases h3 with h3 | h3
  · exact .inl h3.symm
  · exact .inr ⟨g, rfl, by omega⟩

/-- The same, in a list of operations. -/
theorem wpList_append_ho {ops : Array Oper} {rest : List Oper} {o : Oper} {a : Act} {Q : Exit → Act → World → Prop} (W : World) (hgd : o.guard = none) (s x : Operand)
    (ho : o.op = .call { callee := .builtin .append, args := #[s, x], argTypes := #[60, 60] }) (v : Value) (T : List Ho) (hs : a.eval s = v) (hown : Hid (W.ownsRow 0 112 4 v T.length (T.flatMap encH)))
    (b : Nat) (hx : a.eval x = .slice (some ⟨b, 0, none⟩) 1 1) (y : Ho) (hvx : Hid (W.heap[b]? = some (.cells #[.int .i64 (y.c : Nat), .int .i64 (y.m : Nat), .int .u64 (y.t : Nat), .int .u64 (y.u : Nat)] 112 (0, 0)))) (hn : T.length ≤ 1000000)
    (h : ∀ g c w', Hid (w'.ownsRow 0 112 4 (.slice g (T.length + 1) c) (T.length + 1) ((T ++ [y]).flatMap encH)) → Hid (W.grownBy w' v.ownBlock) → Hid (OwnNext W v (.slice g (T.length + 1) c)) → wpList Tryz.prog ops Q rest (a.put o.dst (.slice g (T.length + 1) c)) w') :
    wpList Tryz.prog ops Q (o :: rest) a W := by
  obtain ⟨i0, hi, hz0, hz1, hz2⟩ := info_parts info_ho
  refine wpList_append_src2 W hgd s x 60 ho 0 112 i0 _ 4 32 Tryz.underlying60 hi hz0 hz1 hz2 rfl (by decide) v T.length (T.flatMap encH) hs hown.out _ 1 (encH y) hx (.inr ⟨_, 1, rfl, rfl, fun j u hu => ?_, encH_one y⟩) (by unfold maxLen; omega) (by omega) (Nat.zero_le _) ?_
  · rcases j with _ | _ | _ | _ | j
    · cases hu; exact cell_mk hvx.out rfl
    · cases hu; exact cell_mk hvx.out rfl
    · cases hu; exact cell_mk hvx.out rfl
    · cases hu; exact cell_mk hvx.out rfl
    · cases hu
  · intro v' w' h1 h2 h3
    obtain ⟨g, c, rfl⟩ := own_form h1
    rw [flat_snoc encH T y] at h1
    exact h g c w' h1 h2 h3

section
variable {n : Nat} {P : Nat → Prop} {w : World} {bt : Nat} {hv wv : Nat → Value} {L : Lk}
theorem LT.len (h : LT n P w bt hv wv L) {i : Nat} (hi : i < 4) : i < L.rs.length := by rw [h.ok.four]; exact hi
/-- The table's own block is written: the rest of it. -/
theorem LT.own (h : LT n P w bt hv wv L) {w' : World} {hv' wv' : Nat → Value} {L' : Lk} (f : Fr (fun c _ => c ≠ bt) w w')
    (ht : w'.heap[bt]? = some (.cells #[.int .u64 (L'.now : Nat), .int .u64 (L'.last : Nat), hv' 0, wv' 0, hv' 1, wv' 1, hv' 2, wv' 2, hv' 3, wv' 3] 66 (0, 0)))
    (hh : ∀ i, i < 4 → hv' i = hv i ∧ (L'.rg i).hs = (L.rg i).hs) (hw : ∀ i, i < 4 → RowsAt (WK P) w (wv' i) 2 encW (L'.rg i).ws) (hok : L'.ok) : LT n P w' bt hv' wv' L' :=
  ⟨ht, fun i hi => by
    rw [(hh i hi).1, (hh i hi).2]
    exact ownsRow_fr (h.hr i hi) f fun b o e _ q => h.ne hi (q ▸ e), fun i hi c e => h.hp i hi c (by rw [← (hh i hi).1]; exact e), fun i j hi hj hij c e => by
    rw [(hh i hi).1] at e
    rw [(hh j hj).1]
    exact h.sep i j hi hj hij c e, fun i hi => (hw i hi).fr f fun c o _ hc e => hc.1 (e ▸ h.pt), h.pt, fun c hc => by
    by_cases e : c = bt
    · subst e; exact ⟨_, _, _, ht, .inl rfl⟩
    · obtain ⟨cs, t, fz, he, ht⟩ := h.ps c hc
      exact ⟨cs, t, fz, f.keep _ _ he e, ht⟩, h.lo, hok⟩
theorem LT.setLast (h : LT n P w bt hv wv L) (l : Nat) (hl : l ≤ topM) : LT n P (w.setCell ⟨bt, 1, none⟩ (.int .u64 (l : Nat))) bt hv wv { L with last := l } :=
  h.own ((Fr.refl _ _).setCell (fun _ _ h => h rfl) _) (heap_setCell_same (o := 1) h.top _) (fun i hi => ⟨rfl, rfl⟩) (fun i hi => h.wr i hi) ⟨h.ok.now, hl, h.ok.four, h.ok.rs⟩
theorem LT.setNow (h : LT n P w bt hv wv L) (l : Nat) (hl : l ≤ topM) : LT n P (w.setCell ⟨bt, 0, none⟩ (.int .u64 (l : Nat))) bt hv wv { L with now := l } :=
  h.own ((Fr.refl _ _).setCell (fun _ _ h => h rfl) _) (heap_setCell_same (o := 0) h.top _) (fun i hi => ⟨rfl, rfl⟩) (fun i hi => h.wr i hi) ⟨hl, h.ok.last, h.ok.four, h.ok.rs⟩
theorem LT.setW (h : LT n P w bt hv wv L) {i : Nat} (hi : i < 4) (v : Value) (ws : List Wa) (hr : RowsAt (WK P) w v 2 encW ws) (hok : Rgn.ok ⟨(L.rg i).hs, ws⟩) :
    LT n P (w.setCell ⟨bt, 2 + i * 2 + 1, none⟩ v) bt hv (fun j => if j = i then v else wv j) (L.put i ⟨(L.rg i).hs, ws⟩) := by
  refine h.own ((Fr.refl _ _).setCell (fun _ _ h => h rfl) _) ?_ (fun j hj => ⟨rfl, ?_⟩) (fun j hj => ?_) (h.ok.put hok h.ok.now h.ok.last)
  · have := heap_setCell_same (o := 2 + i * 2 + 1) h.top v
    rw [this]
    match i, hi with
    | 0, _ => rfl
    | 1, _ => rfl
    | 2, _ => rfl
    | 3, _ => rfl
  · rw [put_rg (h.len hi)]
    split
    · rename_i e; subst e; rfl
    · rfl
  · rw [put_rg (h.len hi)]
    split
    · exact hr
    · exact h.wr j hj
/-- A region's holds are written: in their block, or in a new one. -/
theorem LT.setH (h : LT n P w bt hv wv L) {w1 : World} {i : Nat} (hi : i < 4) (v : Value) (hs : List Ho) (hn : n ≤ w.heap.size) (f : Fr (fun c _ => (hv i).ownBlock ≠ some c) w w1) (o : w1.ownsRow 0 112 4 v hs.length (hs.flatMap encH)) (nx : OwnNext w (hv i) v) (hok : Rgn.ok ⟨hs, (L.rg i).ws⟩) :
    w1.cell? ⟨bt, 2 + i * 2, none⟩ = some (hv i) ∧ w1.frozen? ⟨bt, 2 + i * 2, none⟩ = false ∧ ∃ P', LT n P' (w1.setCell ⟨bt, 2 + i * 2, none⟩ v) bt (fun j => if j = i then v else hv j) wv (L.put i ⟨hs, (L.rg i).ws⟩) ∧ Kp P P' w (w1.setCell ⟨bt, 2 + i * 2, none⟩ v) := by
  have nb := h.ne hi
  have t1 := f.keep _ _ h.top nb
  have hbt : bt < w.heap.size := lt_of_some h.top
  have F : Fr (fun c _ => (hv i).ownBlock ≠ some c ∧ c ≠ bt) w (w1.setCell ⟨bt, 2 + i * 2, none⟩ v) := (f.mono fun _ _ h => h.1).setCell (fun _ _ h => h.2 rfl) _
  have vb : v.ownBlock ≠ some bt := nx.ne nb hbt
  have hc1 : w1.cell? ⟨bt, 2 + i * 2, none⟩ = some (hv i) := by
    match i, hi with
    | 0, _ => exact cell_mk t1 rfl
    | 1, _ => exact cell_mk t1 rfl
    | 2, _ => exact cell_mk t1 rfl
    | 3, _ => exact cell_mk t1 rfl
  have nxP : ∀ c, c < w.heap.size → v.ownBlock = some c → (hv i).ownBlock = some c := fun c hc e => by
    rcases nx with q | ⟨k, q, hk⟩
    · rw [← q]; exact e
    · rw [q] at e; cases e; omega
  refine ⟨hc1, frozen_mk t1, fun c => (P c ∧ (hv i).ownBlock ≠ some c) ∨ v.ownBlock = some c, ⟨?_, fun j hj => ?_, fun j hj c e => ?_, fun j k hj hk hjk c e => ?_, fun j hj => ?_, .inl ⟨h.pt, nb⟩, fun c hc => ?_, fun c hc => ?_, h.ok.put hok h.ok.now h.ok.last⟩, F.mono fun c _ hc => ⟨fun e => hc (h.hp i hi c e), fun e => hc (e ▸ h.pt)⟩, fun c hc hp hq => ?_⟩
  · have := heap_setCell_same (o := 2 + i * 2) t1 v
    rw [this]
    match i, hi with
    | 0, _ => rfl
    | 1, _ => rfl
    | 2, _ => rfl
    | 3, _ => rfl
  · rw [put_rg (h.len hi)]
    split
    · exact ownsRow_setCell_ne o vb _
    · rename_i hji
      refine ownsRow_fr (h.hr j hj) F fun c o e _ => ⟨fun q => h.sep i j hi hj (fun x => hji x.symm) c q e, fun q => h.ne hj (q ▸ e)⟩
  · split at e
    · exact .inr e
    · rename_i q
      exact .inl ⟨h.hp j hj c e, fun x => h.sep i j hi hj (fun y => q y.symm) c x e⟩
  · split at e
    · rename_i q
      rw [if_neg (fun x => hjk (q.trans x.symm))]
      intro e2
      have hc : c < w.heap.size := by
        obtain ⟨cur, hx⟩ := own_tag (h.hr k hk) e2
        exact lt_of_some hx
      exact h.sep i k hi hk (fun x => hjk (q.trans x)) c (nxP c hc e) e2
    · rename_i q
      split
      · intro e2
        have hc : c < w.heap.size := by
          obtain ⟨cur, hx⟩ := own_tag (h.hr j hj) e
          exact lt_of_some hx
        exact h.sep j i hj hi q c e (nxP c hc e2)
      · exact h.sep j k hj hk hjk c e
  · have e : ((L.put i ⟨hs, (L.rg i).ws⟩).rg j).ws = (L.rg j).ws := by
      rw [put_rg (h.len hi)]
      split
      · rename_i q; subst q; rfl
      · rfl
    rw [e]
    have r1 : RowsAt (fun c o => WK P c o ∧ c < w.heap.size) w (wv j) 2 encW (L.rg j).ws := (h.wr j hj).mono fun c o hl hc => ⟨hc, lt_of_some hl⟩
    refine (r1.fr F fun c o _ hc => ⟨fun q => hc.1.1 (h.hp i hi c q), fun q => hc.1.1 (q ▸ h.pt)⟩).mono fun c _ _ hc => ⟨fun q => ?_, hc.1.2⟩
    rcases q with q | q
    · exact hc.1.1 q.1
    · exact hc.1.1 (h.hp i hi c (nxP c hc.2 q))
  · by_cases e : c = bt
    · subst e
      exact ⟨_, _, _, heap_setCell_same (o := 2 + i * 2) t1 v, .inl rfl⟩
    · by_cases q : v.ownBlock = some c
      · obtain ⟨cur, hx⟩ := own_tag (ownsRow_setCell_ne (p := ⟨bt, 2 + i * 2, none⟩) o vb v) q
        exact ⟨_, _, _, hx, .inr rfl⟩
      · obtain ⟨hP, q2⟩ := hc.resolve_right q
        obtain ⟨cs, t, fz, he, ht⟩ := h.ps c hP
        exact ⟨cs, t, fz, F.keep _ _ he ⟨q2, e⟩, ht⟩
  · rcases hc with hc | hc
    · exact h.lo c hc.1
    · rcases nx with q | ⟨k, q, hk⟩
      · exact h.lo c (h.hp i hi c (q ▸ hc))
      · rw [q] at hc; cases hc; omega
  · rcases hq with hq | hq
    · exact hp hq.1
    · exact hp (h.hp i hi c (nxP c hc hq))
end
end Go.Proofs.YtlolfcnfcgegdaaGreat
/- slices.Delete at a row of the function's own, of api.Hold. -/
namespace Go.Proofs.YtlolfcnfcgegdaaGreat
open Go.RowKit
set_option linter.unusedVariables false
set_option linter.unusedSimpArgs false

theorem del_ho_info : (Tryz.prog.info? 112).map (fun i => (i.zero, i.size, i.bytes)) = some (some (.agg #[.int .i64 0, .int .i64 0, .int .u64 0, .int .u64 0]), 4, 32) := by kernel_rfl
theorem del_ho_none (w : World) : Calls Tryz.prog 95 #[.slice none 0 0, .int .i64 0, .int .i64 0] w fun e w' => e = .returned (.slice none 0 0) ∧ w = w' := by
  go_enter Tryz.func95, Tryz.ntmps95
  go_wp2
  go_ret
  exact ⟨rfl, rfl⟩
set_option maxRecDepth 100000 in
theorem del_ho_same (w : World) (g n cap i : Nat) (hi : i ≤ n) (hn : n ≤ cap) (hc : cap ≤ 9223372036854775807) : Calls Tryz.prog 95 #[.slice (some ⟨g, 0, none⟩) n cap, .int .i64 i, .int .i64 i] w fun e w' => e = .returned (.slice (some ⟨g, 0, none⟩) n cap) ∧ w = w' := by
  go_enter Tryz.func95, Tryz.ntmps95
  go_wp2
  all_goals (go_ret; exact ⟨rfl, rfl⟩)
set_option maxRecDepth 100000 in
set_option maxHeartbeats 4000000 in
theorem del_ho_some (w : World) (B g n cap i j : Nat) (xs : List Value) (h : w.ownsRow B 112 4 (.slice (some ⟨g, 0, none⟩) n cap) n xs) (h1 : ∀ u ∈ xs, u.oneCell' = true) (hij : i < j) (hj : j ≤ n) (hn : n ≤ 1000000) :
    Calls Tryz.prog 95 #[.slice (some ⟨g, 0, none⟩) n cap, .int .i64 i, .int .i64 j] w fun e w' => e = .returned (.slice (some ⟨g, 0, none⟩) (i + (n - j)) cap) ∧ w'.ownsRow B 112 4 (.slice (some ⟨g, 0, none⟩) (i + (n - j)) cap) (i + (n - j)) (xs.take (i * 4) ++ xs.drop (j * 4)) ∧ Fr (fun c _ => c ≠ g) w w' := by
  obtain ⟨i0, hi0, hz0, hz1, hz2⟩ := info_parts del_ho_info
  obtain ⟨hnc, hcm⟩ := own_cap h
  have hcm' : cap ≤ 9223372036854775807 := by unfold maxLen at hcm; omega
  obtain ⟨e1, e2, e3, e4, e5, _⟩ := del_nums i j n 4 (Nat.le_of_lt hij) hj
  obtain ⟨A, hA, hsrc⟩ : ∃ A : Addr, (if cap = j then some (⟨g, 0, none⟩ : Addr) else some ⟨g, j * 4, none⟩) = some A ∧ Hid (∀ t u, (xs.drop (j * 4))[t]? = some u → w.drew.cell? (A.add t) = some u) := by
    by_cases hc : cap = j
    · refine ⟨⟨g, 0, none⟩, by simp [hc], fun t u hu => ?_⟩
      have hd : (xs.drop (j * 4)).length = 0 := by rw [List.length_drop, h.1]; omega
      rw [List.length_eq_zero_iff.1 hd] at hu
      simp at hu
    · refine ⟨⟨g, j * 4, none⟩, by simp [hc], fun t u hu => ?_⟩
      have ht : t < n * 4 - j * 4 := by
        have := (List.getElem?_eq_some_iff.1 hu).1
        rw [List.length_drop, h.1] at this
        exact this
      rw [List.getElem?_drop] at hu
      rw [Addr.add_lit]
      exact (own_frozen h (j * 4 + t) (by omega)).1.trans hu
  have s1 : Hid ((xs.drop (j * 4)).length = (n - j) * 4) := by show _ = _; rw [List.length_drop, h.1, e5]
  have s2 : Hid (∀ u ∈ xs.drop (j * 4), u.oneCell' = true) := fun u hu => h1 u (List.mem_of_mem_drop hu)
  have s3 : Hid (∀ t, t < (xs.drop (j * 4)).length → (w.drew.cell? ⟨g, 0 + i * 4 + t, none⟩).isSome = true ∧ w.drew.frozen? ⟨g, 0 + i * 4 + t, none⟩ = false) := fun t ht => by
    rw [s1.out, e5] at ht
    rw [Nat.zero_add]
    exact (own_frozen h (i * 4 + t) (by omega)).2
  have hd : w.drew.ownsRow B 112 4 (.slice (some ⟨g, 0, none⟩) n cap) n xs := h
  obtain ⟨W1, hW1⟩ : ∃ W1, W1 = w.drew.setCells g (0 + i * 4) (xs.drop (j * 4)) := ⟨_, rfl⟩
  have F1 : Hid (Fr (fun c _ => c ≠ g) w W1) := by
    rw [hW1]; exact ((Fr.refl _ w).drew).setCells (fun _ _ hk => hk rfl) _ _
  obtain ⟨Z, hZ⟩ : ∃ Z, Z = (Builtin.zeroCells (Value.cells (.agg #[.int .i64 0, .int .i64 0, .int .u64 0, .int .u64 0])) (n - (i + (n - j)))).toList := ⟨_, rfl⟩
  have hZl : Z.length = (j - i) * 4 := by
    rw [hZ, Array.length_toList, size_zeroCells, show n - (i + (n - j)) = j - i by omega]; rfl
  have hZ1 : ∀ u ∈ Z, u.oneCell' = true := by
    rw [hZ]
    intro u hu
    simp only [Builtin.zeroCells, Array.toList_map, List.mem_map] at hu
    obtain ⟨k, _, rfl⟩ := hu
    have hall : ∀ q, q < 4 → ((Value.cells (.agg #[.int .i64 0, .int .i64 0, .int .u64 0, .int .u64 0]))[q]!).oneCell' = true := by decide
    exact hall _ (Nat.mod_lt _ (by decide))
  have OS : Hid ((W1.setCells g ((i + (n - j)) * 4) Z).ownsRow B 112 4 (.slice (some ⟨g, 0, none⟩) (i + (n - j)) cap) (i + (n - j)) (xs.take (i * 4) ++ xs.drop (j * 4))) := by
    rw [hW1, Nat.zero_add]; exact own_spliced hd i j (Nat.le_of_lt hij) hj Z hZl
  have hcellW : ∀ q, q < n * 4 → (W1.cell? ⟨g, q, none⟩).isSome = true ∧ W1.frozen? ⟨g, q, none⟩ = false := fun q hq => by
    have := own_spliced hd i i (Nat.le_refl _) (by omega) [] (by simp)
    rcases hd.2 with ⟨e, _⟩ | ⟨g', cap', cur, hv, hB, hg, hnc', hcm2, hs, ht⟩
    · cases e
    · cases hv
      have hb : W1.heap[g]? = some (.cells (setsA cur (0 + i * 4) (xs.drop (j * 4))) 112 (0, 0)) := by rw [hW1]; exact heap_setCells_same _ hg
      have hqs : q < (setsA cur (0 + i * 4) (xs.drop (j * 4))).size := by rw [setsA_size, hs]; have := Nat.mul_le_mul_right 4 hnc'; omega
      refine ⟨?_, frozen_mk hb⟩
      rw [cell_mk hb (Array.getElem?_eq_getElem hqs)]; rfl
  have hcl : ∀ ty, (Builtin.clear_ #[60] ty #[.slice (some ⟨g, (i + (n - j)) * 4, none⟩) (n - (i + (n - j))) (cap - (i + (n - j)))]).run Tryz.prog W1 = .ok (.tuple #[]) (W1.setCells g ((i + (n - j)) * 4) Z) := fun ty => by
    rw [hZ]
    refine run_clear_any W1 _ _ ty (.agg #[.int .i64 0, .int .i64 0, .int .u64 0, .int .u64 0]) Tryz.underlying60 Tryz.zeroValue112 g _ _ _ (by omega) (by rw [← hZ]; exact hZ1) (fun q hq => ?_) (fun q hq => ?_)
    · rw [← hZ, hZl] at hq; exact (hcellW _ (by omega)).1
    · rw [← hZ, hZl] at hq; exact (hcellW _ (by omega)).2
  have hW : Hid (W1 = w.drew.setCells g (0 + i * 4) (xs.drop (j * 4))) := hW1
  have F2 : Hid (Fr (fun c _ => c ≠ g) w (W1.setCells g ((i + (n - j)) * 4) Z)) := F1.out.setCells (fun _ _ hk => hk rfl) _ _
  have hic : i ≤ cap := by omega
  have hjc : j ≤ cap := by omega
  clear hW1 h hd hcellW hZ hZl hZ1 e1 e2 e3 e4 e5 h1
  go_enter Tryz.func95, Tryz.ntmps95
  go_wp2_with fail
  go_region_law (refine step_append_room rfl (.tmp 22) (.tmp 25) 60 rfl 112 i0 4 Tryz.underlying60 hi0 hz1 g 0 i cap (by simp [Act.eval, Act.put]) A (n - j) (cap - j) (xs.drop (j * 4)) (by simp [Act.eval, Act.put]) s1.out hsrc.out s2.out (by omega) s3.out ?_; rw [← hW.out])
  all_goals
    go_wp2
    go_ret
    exact ⟨rfl, OS.out, F2.out⟩
/-- slices.Delete at a row of the function's own. -/
theorem del_ho_calls (w : World) (B : Nat) (v : Value) (n i j : Nat) (xs : List Value) (h : w.ownsRow B 112 4 v n xs) (h1 : ∀ u ∈ xs, u.oneCell' = true) (hij : i ≤ j) (hj : j ≤ n) (hn : n ≤ 1000000) :
    Calls Tryz.prog 95 #[v, .int .i64 i, .int .i64 j] w fun e w' => (∃ v', e = .returned v' ∧ w'.ownsRow B 112 4 v' (i + (n - j)) (xs.take (i * 4) ++ xs.drop (j * 4)) ∧ v'.ownBlock = v.ownBlock) ∧ Fr (fun c _ => v.ownBlock ≠ some c) w w' := by
  rcases id h.2 with ⟨rfl, rfl⟩ | ⟨g, cap, cur, rfl, _⟩
  · obtain rfl : j = 0 := by omega
    obtain rfl : i = 0 := by omega
    refine (del_ho_none w).mono fun e w' ⟨he, hw⟩ => ?_
    subst hw
    have hx : xs = [] := by have := h.1; simpa using this
    subst hx
    exact ⟨⟨_, he, by simpa using h, rfl⟩, Fr.refl _ _⟩
  · obtain ⟨hnc, hcm⟩ := own_cap h
    by_cases hq : i = j
    · subst hq
      refine (del_ho_same w g n cap i hj hnc (by unfold maxLen at hcm; omega)).mono fun e w' ⟨he, hw⟩ => ?_
      subst hw
      rw [show i + (n - i) = n by omega, List.take_append_drop]
      exact ⟨⟨_, he, h, rfl⟩, Fr.refl _ _⟩
    · refine (del_ho_some w B g n cap i j xs h h1 (by omega) hj hn).mono fun e w' ⟨he, ho, hf⟩ => ?_
      exact ⟨⟨_, he, ho, rfl⟩, hf.mono fun c _ hc q => hc (by rw [q]; rfl)⟩
theorem del_ho_any (w : World) (B : Nat) (v : Value) (n i j : Nat) (iz jz : Int) (hiz : iz = i) (hjz : jz = j) (xs : List Value) (h : w.ownsRow B 112 4 v n xs) (h1 : ∀ u ∈ xs, u.oneCell' = true) (hij : i ≤ j) (hj : j ≤ n) (hn : n ≤ 1000000) :
    Calls Tryz.prog 95 #[v, .int .i64 iz, .int .i64 jz] w fun e w' => (∃ v', e = .returned v' ∧ w'.ownsRow B 112 4 v' (i + (n - j)) (xs.take (i * 4) ++ xs.drop (j * 4)) ∧ v'.ownBlock = v.ownBlock) ∧ Fr (fun c _ => v.ownBlock ≠ some c) w w' := by
  subst hiz hjz
  exact del_ho_calls w B v n i j xs h h1 hij hj hn
end Go.Proofs.YtlolfcnfcgegdaaGreat
/- slices.Delete at a row of the function's own, of api.Want. -/
namespace Go.Proofs.YtlolfcnfcgegdaaGreat
open Go.RowKit
set_option linter.unusedVariables false
set_option linter.unusedSimpArgs false

theorem del_wa_info : (Tryz.prog.info? 114).map (fun i => (i.zero, i.size, i.bytes)) = some (some (.agg #[.int .i64 0, .int .i64 0]), 2, 16) := by kernel_rfl
theorem del_wa_none (w : World) : Calls Tryz.prog 98 #[.slice none 0 0, .int .i64 0, .int .i64 0] w fun e w' => e = .returned (.slice none 0 0) ∧ w = w' := by
  go_enter Tryz.func98, Tryz.ntmps98
  go_wp2
  go_ret
  exact ⟨rfl, rfl⟩
set_option maxRecDepth 100000 in
theorem del_wa_same (w : World) (g n cap i : Nat) (hi : i ≤ n) (hn : n ≤ cap) (hc : cap ≤ 9223372036854775807) : Calls Tryz.prog 98 #[.slice (some ⟨g, 0, none⟩) n cap, .int .i64 i, .int .i64 i] w fun e w' => e = .returned (.slice (some ⟨g, 0, none⟩) n cap) ∧ w = w' := by
  go_enter Tryz.func98, Tryz.ntmps98
  go_wp2
  all_goals (go_ret; exact ⟨rfl, rfl⟩)
set_option maxRecDepth 100000 in
set_option maxHeartbeats 4000000 in
theorem del_wa_some (w : World) (B g n cap i j : Nat) (xs : List Value) (h : w.ownsRow B 114 2 (.slice (some ⟨g, 0, none⟩) n cap) n xs) (h1 : ∀ u ∈ xs, u.oneCell' = true) (hij : i < j) (hj : j ≤ n) (hn : n ≤ 1000000) :
    Calls Tryz.prog 98 #[.slice (some ⟨g, 0, none⟩) n cap, .int .i64 i, .int .i64 j] w fun e w' => e = .returned (.slice (some ⟨g, 0, none⟩) (i + (n - j)) cap) ∧ w'.ownsRow B 114 2 (.slice (some ⟨g, 0, none⟩) (i + (n - j)) cap) (i + (n - j)) (xs.take (i * 2) ++ xs.drop (j * 2)) ∧ Fr (fun c _ => c ≠ g) w w' := by
  obtain ⟨i0, hi0, hz0, hz1, hz2⟩ := info_parts del_wa_info
  obtain ⟨hnc, hcm⟩ := own_cap h
  have hcm' : cap ≤ 9223372036854775807 := by unfold maxLen at hcm; omega
  obtain ⟨e1, e2, e3, e4, e5, _⟩ := del_nums i j n 2 (Nat.le_of_lt hij) hj
  obtain ⟨A, hA, hsrc⟩ : ∃ A : Addr, (if cap = j then some (⟨g, 0, none⟩ : Addr) else some ⟨g, j * 2, none⟩) = some A ∧ Hid (∀ t u, (xs.drop (j * 2))[t]? = some u → w.drew.cell? (A.add t) = some u) := by
    by_cases hc : cap = j
    · refine ⟨⟨g, 0, none⟩, by simp [hc], fun t u hu => ?_⟩
      have hd : (xs.drop (j * 2)).length = 0 := by rw [List.length_drop, h.1]; omega
      rw [List.length_eq_zero_iff.1 hd] at hu
      simp at hu
    · refine ⟨⟨g, j * 2, none⟩, by simp [hc], fun t u hu => ?_⟩
      have ht : t < n * 2 - j * 2 := by
        have := (List.getElem?_eq_some_iff.1 hu).1
        rw [List.length_drop, h.1] at this
        exact this
      rw [List.getElem?_drop] at hu
      rw [Addr.add_lit]
      exact (own_frozen h (j * 2 + t) (by omega)).1.trans hu
  have s1 : Hid ((xs.drop (j * 2)).length = (n - j) * 2) := by show _ = _; rw [List.length_drop, h.1, e5]
  have s2 : Hid (∀ u ∈ xs.drop (j * 2), u.oneCell' = true) := fun u hu => h1 u (List.mem_of_mem_drop hu)
  have s3 : Hid (∀ t, t < (xs.drop (j * 2)).length → (w.drew.cell? ⟨g, 0 + i * 2 + t, none⟩).isSome = true ∧ w.drew.frozen? ⟨g, 0 + i * 2 + t, none⟩ = false) := fun t ht => by
    rw [s1.out, e5] at ht
    rw [Nat.zero_add]
    exact (own_frozen h (i * 2 + t) (by omega)).2
  have hd : w.drew.ownsRow B 114 2 (.slice (some ⟨g, 0, none⟩) n cap) n xs := h
  obtain ⟨W1, hW1⟩ : ∃ W1, W1 = w.drew.setCells g (0 + i * 2) (xs.drop (j * 2)) := ⟨_, rfl⟩
  have F1 : Hid (Fr (fun c _ => c ≠ g) w W1) := by
    rw [hW1]; exact ((Fr.refl _ w).drew).setCells (fun _ _ hk => hk rfl) _ _
  obtain ⟨Z, hZ⟩ : ∃ Z, Z = (Builtin.zeroCells (Value.cells (.agg #[.int .i64 0, .int .i64 0])) (n - (i + (n - j)))).toList := ⟨_, rfl⟩
  have hZl : Z.length = (j - i) * 2 := by
    rw [hZ, Array.length_toList, size_zeroCells, show n - (i + (n - j)) = j - i by omega]; rfl
  have hZ1 : ∀ u ∈ Z, u.oneCell' = true := by
    rw [hZ]
    intro u hu
    simp only [Builtin.zeroCells, Array.toList_map, List.mem_map] at hu
    obtain ⟨k, _, rfl⟩ := hu
    have hall : ∀ q, q < 2 → ((Value.cells (.agg #[.int .i64 0, .int .i64 0]))[q]!).oneCell' = true := by decide
    exact hall _ (Nat.mod_lt _ (by decide))
  have OS : Hid ((W1.setCells g ((i + (n - j)) * 2) Z).ownsRow B 114 2 (.slice (some ⟨g, 0, none⟩) (i + (n - j)) cap) (i + (n - j)) (xs.take (i * 2) ++ xs.drop (j * 2))) := by
    rw [hW1, Nat.zero_add]; exact own_spliced hd i j (Nat.le_of_lt hij) hj Z hZl
  have hcellW : ∀ q, q < n * 2 → (W1.cell? ⟨g, q, none⟩).isSome = true ∧ W1.frozen? ⟨g, q, none⟩ = false := fun q hq => by
    have := own_spliced hd i i (Nat.le_refl _) (by omega) [] (by simp)
    rcases hd.2 with ⟨e, _⟩ | ⟨g', cap', cur, hv, hB, hg, hnc', hcm2, hs, ht⟩
    · cases e
    · cases hv
      have hb : W1.heap[g]? = some (.cells (setsA cur (0 + i * 2) (xs.drop (j * 2))) 114 (0, 0)) := by rw [hW1]; exact heap_setCells_same _ hg
      have hqs : q < (setsA cur (0 + i * 2) (xs.drop (j * 2))).size := by rw [setsA_size, hs]; have := Nat.mul_le_mul_right 2 hnc'; omega
      refine ⟨?_, frozen_mk hb⟩
      rw [cell_mk hb (Array.getElem?_eq_getElem hqs)]; rfl
  have hcl : ∀ ty, (Builtin.clear_ #[61] ty #[.slice (some ⟨g, (i + (n - j)) * 2, none⟩) (n - (i + (n - j))) (cap - (i + (n - j)))]).run Tryz.prog W1 = .ok (.tuple #[]) (W1.setCells g ((i + (n - j)) * 2) Z) := fun ty => by
    rw [hZ]
    refine run_clear_any W1 _ _ ty (.agg #[.int .i64 0, .int .i64 0]) Tryz.underlying61 Tryz.zeroValue114 g _ _ _ (by omega) (by rw [← hZ]; exact hZ1) (fun q hq => ?_) (fun q hq => ?_)
    · rw [← hZ, hZl] at hq; exact (hcellW _ (by omega)).1
    · rw [← hZ, hZl] at hq; exact (hcellW _ (by omega)).2
  have hW : Hid (W1 = w.drew.setCells g (0 + i * 2) (xs.drop (j * 2))) := hW1
  have F2 : Hid (Fr (fun c _ => c ≠ g) w (W1.setCells g ((i + (n - j)) * 2) Z)) := F1.out.setCells (fun _ _ hk => hk rfl) _ _
  have hic : i ≤ cap := by omega
  have hjc : j ≤ cap := by omega
  clear hW1 h hd hcellW hZ hZl hZ1 e1 e2 e3 e4 e5 h1
  go_enter Tryz.func98, Tryz.ntmps98
  go_wp2_with fail
  go_region_law (refine step_append_room rfl (.tmp 22) (.tmp 25) 61 rfl 114 i0 2 Tryz.underlying61 hi0 hz1 g 0 i cap (by simp [Act.eval, Act.put]) A (n - j) (cap - j) (xs.drop (j * 2)) (by simp [Act.eval, Act.put]) s1.out hsrc.out s2.out (by omega) s3.out ?_; rw [← hW.out])
  all_goals
    go_wp2
    go_ret
    exact ⟨rfl, OS.out, F2.out⟩
/-- slices.Delete at a row of the function's own. -/
theorem del_wa_calls (w : World) (B : Nat) (v : Value) (n i j : Nat) (xs : List Value) (h : w.ownsRow B 114 2 v n xs) (h1 : ∀ u ∈ xs, u.oneCell' = true) (hij : i ≤ j) (hj : j ≤ n) (hn : n ≤ 1000000) :
    Calls Tryz.prog 98 #[v, .int .i64 i, .int .i64 j] w fun e w' => (∃ v', e = .returned v' ∧ w'.ownsRow B 114 2 v' (i + (n - j)) (xs.take (i * 2) ++ xs.drop (j * 2)) ∧ v'.ownBlock = v.ownBlock) ∧ Fr (fun c _ => v.ownBlock ≠ some c) w w' := by
  rcases id h.2 with ⟨rfl, rfl⟩ | ⟨g, cap, cur, rfl, _⟩
  · obtain rfl : j = 0 := by omega
    obtain rfl : i = 0 := by omega
    refine (del_wa_none w).mono fun e w' ⟨he, hw⟩ => ?_
    subst hw
    have hx : xs = [] := by have := h.1; simpa using this
    subst hx
    exact ⟨⟨_, he, by simpa using h, rfl⟩, Fr.refl _ _⟩
  · obtain ⟨hnc, hcm⟩ := own_cap h
    by_cases hq : i = j
    · subst hq
      refine (del_wa_same w g n cap i hj hnc (by unfold maxLen at hcm; omega)).mono fun e w' ⟨he, hw⟩ => ?_
      subst hw
      rw [show i + (n - i) = n by omega, List.take_append_drop]
      exact ⟨⟨_, he, h, rfl⟩, Fr.refl _ _⟩
    · refine (del_wa_some w B g n cap i j xs h h1 (by omega) hj hn).mono fun e w' ⟨he, ho, hf⟩ => ?_
      exact ⟨⟨_, he, ho, rfl⟩, hf.mono fun c _ hc q => hc (by rw [q]; rfl)⟩
theorem del_wa_any (w : World) (B : Nat) (v : Value) (n i j : Nat) (iz jz : Int) (hiz : iz = i) (hjz : jz = j) (xs : List Value) (h : w.ownsRow B 114 2 v n xs) (h1 : ∀ u ∈ xs, u.oneCell' = true) (hij : i ≤ j) (hj : j ≤ n) (hn : n ≤ 1000000) :
    Calls Tryz.prog 98 #[v, .int .i64 iz, .int .i64 jz] w fun e w' => (∃ v', e = .returned v' ∧ w'.ownsRow B 114 2 v' (i + (n - j)) (xs.take (i * 2) ++ xs.drop (j * 2)) ∧ v'.ownBlock = v.ownBlock) ∧ Fr (fun c _ => v.ownBlock ≠ some c) w w' := by
  subst hiz hjz
  exact del_wa_calls w B v n i j xs h h1 hij hj hn
end Go.Proofs.YtlolfcnfcgegdaaGreat
