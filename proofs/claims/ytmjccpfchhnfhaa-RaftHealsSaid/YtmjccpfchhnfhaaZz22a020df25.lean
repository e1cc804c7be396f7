/- Texts of the proofs, part 14: what the functions that they reach do, walked; no conditions beyond those that each states. -/
import Derived.ArgAppend
import Derived.Deep.QuietTactic
import Derived.BigQuiet
import Derived.Test.YtmjccpfchhnfhaaZz43a9cb329e
import Derived.Test.YtmjccpfchhnfhaaZzb8cbe6cd57
import Derived.Test.YtmjccpfchhnfhaaZzfda70333e9
set_option linter.unusedVariables false
set_option linter.unusedSimpArgs false
/- Terms: Add (printed by tadd.py). -/
namespace Go.Proofs.Ytmjccpfchhnfhaa
open Go.RowKit
set_option linter.unusedVariables false
set_option linter.unusedSimpArgs false
theorem encE_one (h : EV) : ∀ u ∈ encE h, u.oneCell' = true := fun u hu => by
 simp only [encE, List.mem_cons, List.not_mem_nil, or_false] at hu
 rcases hu with rfl | rfl | rfl <;> rfl
theorem info_en : (Try.prog.info? 68).map (fun i => (i.zero, i.size, i.bytes)) = some (some (.agg #[.int .u64 0, .int .i64 0, .slice none 0 0]), 3, 40) := by kernel_rfl
theorem rows_oneE {w : World} {b : Nat} {y : EV} (h : w.heap[b]? = some (.cells #[.int .u64 (y.t : Nat), .int .i64 y.k, .slice y.a y.d.length y.c] 68 (0, 0))) : RowsAt (fun c _ => c = b) w (.slice (some ⟨b, 0, none⟩) 1 1) 3 encE [y] := by
 refine ⟨_, 1, rfl, Nat.le_refl _, .inr ⟨b, 0, _, rfl, h, rfl, fun i hi j u hu => ?_⟩⟩
 have : i = 0 := by simpa using hi
 subst this
 rcases j with _ | _ | _ | j
 ·cases hu; exact cell_mk h rfl
 ·cases hu; exact cell_mk h rfl
 ·cases hu; exact cell_mk h rfl
 ·cases hu
set_option maxRecDepth 100000 in
theorem clip_en_nil (w : World) (c : Nat) : Calls Try.prog 61 #[.slice none 0 c] w fun e w' => e = .returned (.slice none 0 0) ∧ w = w' := by
 go_enter Try.func61, Try.ntmps61
 go_wp2
 all_goals (go_ret; exact ⟨rfl, rfl⟩)
set_option maxRecDepth 100000 in
theorem clip_en_any (w : World) (ad : Addr) (n c : Nat) (h : n ≤ c) : Calls Try.prog 61 #[.slice (some ad) n c] w fun e w' => e = .returned (.slice (some ad) n n) ∧ w = w' := by
 go_enter Try.func61, Try.ntmps61
 go_wp2
 all_goals (go_ret; exact ⟨rfl, rfl⟩)
theorem clip_en {K : Nat → Obj → Prop} (w : World) (v : Value) (ws : List EV) (h : RowsAt K w v 3 encE ws) :
  Calls Try.prog 61 #[v] w fun e w' => (∃ a, e = .returned (.slice a ws.length ws.length) ∧ RowsAt K w (.slice a ws.length ws.length) 3 encE ws) ∧ w = w' := by
 obtain ⟨a, c, rfl, hc⟩ := h.form
 cases a with
 | none =>
  have e : ws = [] := by
   rcases Nat.eq_zero_or_pos ws.length with q | q
   ·exact List.length_eq_zero_iff.1 q
   ·obtain ⟨b, off, o, e, _⟩ := h.spot q
    cases e
  subst e
  exact (clip_en_nil w _).mono fun e w' ⟨he, hw⟩ => ⟨⟨none, he, RowsAt.nil _ _ _ _⟩, hw⟩
 | some ad =>
  refine (clip_en_any w ad _ c hc).mono fun e w' ⟨he, hw⟩ => ⟨⟨some ad, he, ?_⟩, hw⟩
  obtain ⟨a', c', e, _, hz⟩ := h
  cases e
  exact ⟨_, _, rfl, Nat.le_refl _, hz⟩
set_option maxRecDepth 100000 in
theorem step_append_en {K0 K1 : Nat → Obj → Prop} {ops : Array Oper} {o : Oper} {a : Act} {K : Act → World → Prop} {Q : Exit → Act → World → Prop} {E : Prop} (W : World) (hgd : o.guard = none) (s x : Operand)
  (ho : o.op = .call { callee := .builtin .append, args := #[s, x], argTypes := #[35, 35] }) (ao : Option Addr) (n : Nat) (xs : List EV) (hs : a.eval s = .slice ao n n) (hr : Hid (RowsAt K0 W (.slice ao n n) 3 encE xs)) (hn : Hid (xs.length = n))
  (vx : Value) (y : EV) (hx : a.eval x = vx) (hvx : Hid (RowsAt K1 W vx 3 encE [y])) (hm : n + 1 ≤ 1000000)
  (h : ∀ g c w', Hid (w'.ownsRow W.heap.size 68 3 (.slice g (n + 1) c) (n + 1) ((xs ++ [y]).flatMap encE)) → Hid (FT W w') → K (a.put o.dst (.slice g (n + 1) c)) w') :
  if Region.wanted o (yielded ops a.tmps) = true then Oper.wp Try.prog o a W K Q else E := by
 have hw : Region.wanted o (yielded ops a.tmps) = true := by simp [Region.wanted, hgd]
 rw [if_pos hw]
 have hn := hn
 subst hn
 obtain ⟨i0, hi, hz0, hz1, hz2⟩ := info_parts info_en
 cases ao with
 | none =>
  have hnil2 : xs = [] := by
   rcases Nat.eq_zero_or_pos xs.length with q | q
   ·exact List.length_eq_zero_iff.1 q
   ·obtain ⟨b, off, o, e, _⟩ := hr.spot q
    cases e
  subst hnil2
  refine wp_append_rows W s x 35 68 ho W.heap.size (Nat.le_refl _) i0 _ 3 40 Try.underlying35 hi hz0 hz1 hz2 rfl (by decide) (by decide) encE_len encE_one (.slice none 0 0) 0 [] hs ⟨rfl, .inl ⟨rfl, rfl⟩⟩ vx [y] hx hvx.out [y] rfl 1 rfl (by omega) fun g c w' o1 g1 _ => h g c w' o1 ((Fr.refl _ _).grown_new g1 fun k e => by cases e)
 | some ad =>
  rcases RowsAt.src encE_len (by decide) encE_one hr with ⟨e, _⟩ | ⟨ad', c, e, hl, hc, h1⟩
  ·cases e
  ·cases e
   obtain ⟨bv, ov, cv, hbv⟩ : ∃ bv ov c', vx = .slice (some ⟨bv, ov, none⟩) 1 c' := by
    obtain ⟨av, cv, e, _⟩ := hvx.form
    subst e
    obtain ⟨b, off, o, e, _⟩ := hvx.out.spot (by simp)
    subst e
    exact ⟨b, off, cv, rfl⟩
   subst hbv
   rcases RowsAt.src encE_len (by decide) encE_one hvx with ⟨e, _⟩ | ⟨ad2, c2, e2, hl2, hc2, _⟩
   ·cases e
   ·cases e2
    obtain ⟨v', w', hrun, hown, hgr⟩ := run_append_arg_grows (w := W) (P := Try.prog) 35 o.type 68 i0 _ 3 40 Try.underlying35 hi hz0 hz1 hz2 rfl (by decide) ad xs.length xs.length _ hl hc ⟨bv, ov, none⟩ 1 cv _ hl2 hc2 (by omega) (by unfold maxLen; omega) (by omega)
    obtain ⟨g, c', rfl⟩ := own_form hown
    unfold Oper.wp execOp
    simp only [ho, resolve, invoke, builtin, Sem.run_bind, Sem.run_pure, Result.andThen_ok, List.map_toArray, List.map_cons, List.map_nil, hs, hx, hrun]
    exact h g c' w' (by rw [List.flatMap_append]; exact hown) ((Fr.refl _ _).grown_new hgr fun k e => by cases e)
set_option maxRecDepth 100000 in
set_option maxHeartbeats 4000000 in
theorem tadd_calls {K : Nat → Obj → Prop} (w : World) (b bt : Nat) (a : Option Addr) (n c : Nat) (xs : List EV) (y : EV) (hx : RowsAt K w (.slice a n c) 3 encE xs) (hn : xs.length = n) (hm : n + 1 ≤ 1000000) :
  Calls Try.prog 40 #[vL b bt (.slice a n c), vE y] w fun e w' => ∃ a' c', e = .returned (vL b bt (.slice a' (n + 1) c')) ∧ RowsAt (fun c o => w.heap.size ≤ c ∧ ∃ cs fz, o = .cells cs 68 fz) w' (.slice a' (n + 1) c') 3 encE (xs ++ [y]) ∧ Fr (fun _ _ => True) w w' := by
 obtain ⟨W1, hW1⟩ : ∃ W, w.alloc (.cells #[.int .u64 (b : Nat), .int .u64 (bt : Nat), .slice a n c] 37 (0, 0)) = W := ⟨_, rfl⟩
 have F1 : Hid (Fr (fun _ _ => True) w W1) := hW1 ▸ (Fr.refl _ _).alloc _
 have X1 : Hid (W1.heap[w.heap.size]? = some (.cells #[.int .u64 (b : Nat), .int .u64 (bt : Nat), .slice a n c] 37 (0, 0))) := hW1 ▸ heap_alloc_new w _
 obtain ⟨W2, hW2⟩ : ∃ W, W1.alloc (.cells #[.int .u64 (y.t : Nat), .int .i64 y.k, .slice y.a y.d.length y.c] 68 (0, 0)) = W := ⟨_, rfl⟩
 have F2 : Hid (Fr (fun _ _ => True) W1 W2) := hW2 ▸ (Fr.refl _ _).alloc _
 have X2 : Hid (W2.heap[W1.heap.size]? = some (.cells #[.int .u64 (y.t : Nat), .int .i64 y.k, .slice y.a y.d.length y.c] 68 (0, 0))) := hW2 ▸ heap_alloc_new W1 _
 obtain ⟨W3, hW3⟩ : ∃ W, W2.alloc (.cells #[.int .u64 0, .int .u64 0, .slice none 0 0] 37 (0, 0)) = W := ⟨_, rfl⟩
 have F3 : Hid (Fr (fun _ _ => True) W2 W3) := hW3 ▸ (Fr.refl _ _).alloc _
 have X3 : Hid (W3.heap[W2.heap.size]? = some (.cells #[.int .u64 0, .int .u64 0, .slice none 0 0] 37 (0, 0))) := hW3 ▸ heap_alloc_new W2 _
 have FA : Hid (Fr (fun _ _ => True) w W3) := (F1.out.trans F2.out).trans F3.out
 have Y1 : Hid (W3.heap[w.heap.size]? = some (.cells #[.int .u64 (b : Nat), .int .u64 (bt : Nat), .slice a n c] 37 (0, 0))) := (F2.out.trans F3.out).keep _ _ X1.out trivial
 have Y2 : Hid (W3.heap[W1.heap.size]? = some (.cells #[.int .u64 (y.t : Nat), .int .i64 y.k, .slice y.a y.d.length y.c] 68 (0, 0))) := F3.out.keep _ _ X2.out trivial
 have LT : Hid (w.heap.size < W1.heap.size ∧ W1.heap.size < W2.heap.size) := ⟨lt_of_some X1.out, lt_of_some X2.out⟩
 have SS : Hid (∀ W, Fr (fun _ _ => True) W3 W → W.cell? ⟨w.heap.size, 2, none⟩ = some (.slice a n c) ∧ W.cell? ⟨W1.heap.size, 0, none⟩ = some (.int .u64 (y.t : Nat)) ∧ W.cell? ⟨W1.heap.size, 1, none⟩ = some (.int .i64 y.k) ∧ W.cell? ⟨W1.heap.size, 2, none⟩ = some (.slice y.a y.d.length y.c)) := fun W f => by
  have t1 := f.keep _ _ Y1.out trivial
  have t2 := f.keep _ _ Y2.out trivial
  exact ⟨cell_mk t1 rfl, cell_mk t2 rfl, cell_mk t2 rfl, cell_mk t2 rfl⟩
 have F5 : Hid (Fr (fun _ _ => True) W3 W3.drew) := (Fr.refl _ _).drew
 have CW := Lib.hid (fun W (f : Fr (fun _ _ => True) W3 W) => clip_en W _ xs ((hx.tt FA.out).tt f))
 rw [hn] at CW
 have HN := Lib.hid hn
 unfold vL vE
 clear hx hn
 go_enter Try.func40, Try.ntmps40
 go_upto_region 1 with fail
 try rw [hW1]
 try rw [hW2]
 try rw [hW3]
 clear hW1 hW2 hW3
 refine wp_region_heldK (S1 := fun _ => True) (S0 := fun W => W.cell? ⟨w.heap.size, 2, none⟩ = some (.slice a n c) ∧ W.cell? ⟨W1.heap.size, 0, none⟩ = some (.int .u64 (y.t : Nat)) ∧ W.cell? ⟨W1.heap.size, 1, none⟩ = some (.int .i64 y.k) ∧ W.cell? ⟨W1.heap.size, 2, none⟩ = some (.slice y.a y.d.length y.c)) (k := 7) (by kernel_rfl) ?_
 refine wpAnyK_take (i := 0) (v := ?v1) rfl (by rfl) (by kernel_rfl) (by kernel_rfl) (by kernel_rfl) (by kernel_rfl) (fun _ _ _ h => h) (Or.inl ⟨by rfl, ?hy1⟩) trivial (SS.out _ F5.out) ?rest1
 case hy1 => (intro w hSw; (try dsimp only at hSw); (try simp only [List.getElem_toArray, List.getElem_cons_zero, List.getElem_cons_succ]); go_simp; try with_reducible rfl)
 try simp only [List.getElem_toArray, List.getElem_cons_zero, List.getElem_cons_succ, Act.put, List.setIfInBounds_toArray, List.set_cons_zero, List.set_cons_succ]
 refine wpAnyK_take0 (i := 1) (v := ?v2) [2, 5, 7] rfl (by rfl) (by kernel_rfl) (by rfl) (by kernel_rfl) (by kernel_rfl) (by kernel_rfl) (by kernel_rfl) (fun _ _ _ h => h) (Or.inl ⟨by rfl, ?hy2⟩) trivial (SS.out _ F5.out) ?rest2
 case hy2 => (intro w hSw; (try dsimp only at hSw); (try simp only [List.getElem_toArray, List.getElem_cons_zero, List.getElem_cons_succ]); go_simp; try with_reducible rfl)
 try simp only [List.getElem_toArray, List.getElem_cons_zero, List.getElem_cons_succ, Act.put, List.setIfInBounds_toArray, List.set_cons_zero, List.set_cons_succ]
 refine wpAnyK_take0 (i := 3) (v := ?v3) [4, 5, 7] rfl (by rfl) (by kernel_rfl) (by rfl) (by kernel_rfl) (by kernel_rfl) (by kernel_rfl) (by kernel_rfl) (fun _ _ _ h => h) (Or.inl ⟨by rfl, ?hy3⟩) trivial (SS.out _ F5.out) ?rest3
 case hy3 => (intro w hSw; (try dsimp only at hSw); (try simp only [List.getElem_toArray, List.getElem_cons_zero, List.getElem_cons_succ]); go_simp; try with_reducible rfl)
 try simp only [List.getElem_toArray, List.getElem_cons_zero, List.getElem_cons_succ, Act.put, List.setIfInBounds_toArray, List.set_cons_zero, List.set_cons_succ]
 refine wpAnyK_ready (rs := [2, 4]) (by kernel_rfl) (by simp) ?_
 refine AllReadyK.cons rfl (fun K hK => ?_) (by kernel_rfl) ?_
 ·(try simp only [List.getElem_toArray, List.getElem_cons_zero, List.getElem_cons_succ])
  go_simp
  (with_reducible refine (CW.out _ F5.out).mono ?_)
  rintro e w8 ⟨⟨ax, rfl, hrx⟩, rfl⟩
  have RX := Lib.hid hrx
  clear hrx
  (try simp only [Act.put, List.setIfInBounds_toArray, List.set_cons_zero, List.set_cons_succ])
  refine hK.out _ _ trivial (fun _ => SS.out _ F5.out) ?_
  clear hK K
  refine wpAnyK_ready (rs := [4]) (by kernel_rfl) (by simp) ?_
  refine AllReadyK.cons rfl (fun K hK => ?_) (by kernel_rfl) ?_
  ·obtain ⟨WB1, hWB⟩ : ∃ W, W3.drew.alloc (.cells #[.int .u64 (y.t : Nat), .int .i64 y.k, .slice y.a y.d.length y.c] 68 (0, 0)) = W := ⟨_, rfl⟩
   have FB1 : Hid (Fr (fun _ _ => True) W3 WB1) := hWB ▸ F5.out.alloc _
   have AB1 : Hid (Fr (fun _ _ => True) W3.drew WB1) := hWB ▸ (Fr.refl _ _).alloc _
   obtain ⟨gb, hgb⟩ : ∃ g, W3.drew.heap.size = g := ⟨_, rfl⟩
   have TB1 : Hid (RowsAt (fun c _ => c = gb) WB1 (.slice (some ⟨gb, 0, none⟩) 1 1) 3 encE [y]) := hWB ▸ hgb ▸ rows_oneE (heap_alloc_new W3.drew _)
   (try simp only [List.getElem_toArray, List.getElem_cons_zero, List.getElem_cons_succ])
   go_simp
   try rw [hWB]
   try rw [hgb]
   (try simp only [Act.put, List.setIfInBounds_toArray, List.set_cons_zero, List.set_cons_succ])
   refine hK.out _ _ trivial (fun _ => SS.out _ FB1.out) ?_
   clear hK K
   clear hWB hgb
   refine wpAnyK_ready (rs := [5]) (by kernel_rfl) (by simp) ?_
   refine AllReadyK.cons rfl (fun K hK => ?_) (by kernel_rfl) ?_
   ·refine step_append_en WB1 rfl _ _ rfl _ n xs rfl (Lib.hid (RX.out.tt AB1.out)) HN _ y rfl TB1 hm ?_
    intro g9 c9 W9 O9 G9
    have F9 := Lib.hid (FB1.out.trans G9.out)
    have FB9 := O9
    (try simp only [Act.put, List.setIfInBounds_toArray, List.set_cons_zero, List.set_cons_succ])
    refine hK.out _ _ trivial (fun _ => SS.out _ F9.out) ?_
    clear hK K
    refine wpAnyK_take (i := 6) (v := ?v4) rfl (by rfl) (by kernel_rfl) (by kernel_rfl) (by kernel_rfl) (by kernel_rfl) (fun _ _ _ h => h) (Or.inl ⟨by rfl, ?hy4⟩) trivial (SS.out _ F9.out) ?rest4
    case hy4 => (intro w hSw; (try dsimp only at hSw); (try simp only [List.getElem_toArray, List.getElem_cons_zero, List.getElem_cons_succ]); go_simp; try with_reducible rfl)
    try simp only [List.getElem_toArray, List.getElem_cons_zero, List.getElem_cons_succ, Act.put, List.setIfInBounds_toArray, List.set_cons_zero, List.set_cons_succ]
    refine wpAnyK_ready (rs := [7]) (by kernel_rfl) (by simp) ?_
    refine AllReadyK.cons rfl (fun K hK => ?_) (by kernel_rfl) ?_
    ·have k9 := cell_mk (i := 2) (F9.out.keep _ _ Y1.out trivial) rfl
     have z9 := frozen_mk (i := 2) (F9.out.keep _ _ Y1.out trivial)
     (try simp only [List.getElem_toArray, List.getElem_cons_zero, List.getElem_cons_succ])
     go_simp
     refine hK.out _ _ trivial (fun h => absurd h (by decide)) ?_
     clear hK K
     refine wpAnyK_done (by kernel_rfl) ?_ _
     clear k9 z9
     obtain ⟨WA, hWA⟩ : ∃ W, W9.setCell ⟨w.heap.size, 2, none⟩ (.slice g9 (n + 1) c9) = W := ⟨_, rfl⟩
     have YA : Hid (WA.heap[w.heap.size]? = some (.cells #[.int .u64 (b : Nat), .int .u64 (bt : Nat), .slice g9 (n + 1) c9] 37 (0, 0))) := hWA ▸ heap_setCell_same (o := 2) (F9.out.keep _ _ Y1.out trivial) _
     have GA : Hid (Fr (fun c _ => c ≠ w.heap.size) W9 WA) := hWA ▸ (Fr.refl _ _).setCell (fun _ _ h => h rfl) _
     have XT : Hid (WA.heap[W2.heap.size]? = some (.cells #[.int .u64 0, .int .u64 0, .slice none 0 0] 37 (0, 0))) := GA.out.keep _ _ (F9.out.keep _ _ X3.out trivial) (by have := LT.out; omega)
     try rw [hWA]
     clear hWA
     have x0 := cell_mk (i := 0) YA.out rfl
     have x1 := cell_mk (i := 1) YA.out rfl
     have x2 := cell_mk (i := 2) YA.out rfl
     have q0 := cell_mk (i := 0) XT.out rfl
     have q1 := cell_mk (i := 1) XT.out rfl
     have q2 := cell_mk (i := 2) XT.out rfl
     have y0 := frozen_mk (i := 0) XT.out
     have y1 := frozen_mk (i := 1) XT.out
     have y2 := frozen_mk (i := 2) XT.out
     obtain ⟨WZ, hWZ, TZ, FZ⟩ := set3 XT.out (.int .u64 (b : Nat)) (.int .u64 (bt : Nat)) (.slice g9 (n + 1) c9)
     have p0 := cell_mk (i := 0) TZ rfl
     have p1 := cell_mk (i := 1) TZ rfl
     have p2 := cell_mk (i := 2) TZ rfl
     have FZH := Lib.hid FZ
     clear TZ FZ
     go_wp2
     try rw [hWZ]
     refine bodyPost_ret (v := .agg #[.int .u64 (b : Nat), .int .u64 (bt : Nat), .slice g9 (n + 1) c9]) (by simp [results, Try.results40, go_sem, *]) rfl ⟨g9, c9, rfl, ?_, ?_⟩
     ·try rw [hWZ]
      have r1 := rows_own (w := W9) (B := WB1.heap.size) (e := 68) (v := .slice g9 (n + 1) c9) (xs := xs ++ [y]) (by rw [List.length_append, HN.out]; exact FB9.out) encE_len
      have r2 := r1.mono (K' := fun c o => c ≠ w.heap.size ∧ c ≠ W2.heap.size ∧ w.heap.size ≤ c ∧ ∃ cs fz, o = .cells cs 68 fz) fun c o _ hc => by
       obtain ⟨hc, cs, e⟩ := hc
       have h1 := FB1.out.size
       have h2 := lt_of_some X3.out
       have h3 := LT.out
       exact ⟨by omega, by omega, by omega, cs, _, e⟩
      exact ((r2.fr (GA.out.mono fun _ _ h => h) fun c o _ hc => hc.1).fr FZH.out fun c o _ hc => hc.2.1).mono fun c o _ hc => hc.2.2
     ·try rw [hWZ]
      exact Fr.within ((((FA.out.trans F9.out).mono fun _ _ _ => trivial).trans (GA.out.mono fun c _ h e => by have := h.2; omega)).trans (FZH.out.mono fun c _ h e => by have := h.2; have := LT.out; omega))
    exact AllReadyK.nil
   exact AllReadyK.nil
  exact AllReadyK.nil
 refine AllReadyK.cons rfl (fun K hK => ?_) (by kernel_rfl) ?_
 ·obtain ⟨WB2, hWB⟩ : ∃ W, W3.drew.alloc (.cells #[.int .u64 (y.t : Nat), .int .i64 y.k, .slice y.a y.d.length y.c] 68 (0, 0)) = W := ⟨_, rfl⟩
  have FB2 : Hid (Fr (fun _ _ => True) W3 WB2) := hWB ▸ F5.out.alloc _
  have AB2 : Hid (Fr (fun _ _ => True) W3.drew WB2) := hWB ▸ (Fr.refl _ _).alloc _
  obtain ⟨gb, hgb⟩ : ∃ g, W3.drew.heap.size = g := ⟨_, rfl⟩
  have TB2 : Hid (RowsAt (fun c _ => c = gb) WB2 (.slice (some ⟨gb, 0, none⟩) 1 1) 3 encE [y]) := hWB ▸ hgb ▸ rows_oneE (heap_alloc_new W3.drew _)
  (try simp only [List.getElem_toArray, List.getElem_cons_zero, List.getElem_cons_succ])
  go_simp
  try rw [hWB]
  try rw [hgb]
  (try simp only [Act.put, List.setIfInBounds_toArray, List.set_cons_zero, List.set_cons_succ])
  refine hK.out _ _ trivial (fun _ => SS.out _ FB2.out) ?_
  clear hK K
  clear hWB hgb
  refine wpAnyK_ready (rs := [2]) (by kernel_rfl) (by simp) ?_
  refine AllReadyK.cons rfl (fun K hK => ?_) (by kernel_rfl) ?_
  ·(try simp only [List.getElem_toArray, List.getElem_cons_zero, List.getElem_cons_succ])
   go_simp
   (with_reducible refine (CW.out _ FB2.out).mono ?_)
   rintro e w8 ⟨⟨ax, rfl, hrx⟩, rfl⟩
   have RX := Lib.hid hrx
   clear hrx
   (try simp only [Act.put, List.setIfInBounds_toArray, List.set_cons_zero, List.set_cons_succ])
   refine hK.out _ _ trivial (fun _ => SS.out _ FB2.out) ?_
   clear hK K
   refine wpAnyK_ready (rs := [5]) (by kernel_rfl) (by simp) ?_
   refine AllReadyK.cons rfl (fun K hK => ?_) (by kernel_rfl) ?_
   ·refine step_append_en WB2 rfl _ _ rfl _ n xs rfl (Lib.hid RX.out) HN _ y rfl TB2 hm ?_
    intro g9 c9 W9 O9 G9
    have F9 := Lib.hid (FB2.out.trans G9.out)
    have FB9 := O9
    (try simp only [Act.put, List.setIfInBounds_toArray, List.set_cons_zero, List.set_cons_succ])
    refine hK.out _ _ trivial (fun _ => SS.out _ F9.out) ?_
    clear hK K
    refine wpAnyK_take (i := 6) (v := ?v5) rfl (by rfl) (by kernel_rfl) (by kernel_rfl) (by kernel_rfl) (by kernel_rfl) (fun _ _ _ h => h) (Or.inl ⟨by rfl, ?hy5⟩) trivial (SS.out _ F9.out) ?rest5
    case hy5 => (intro w hSw; (try dsimp only at hSw); (try simp only [List.getElem_toArray, List.getElem_cons_zero, List.getElem_cons_succ]); go_simp; try with_reducible rfl)
    try simp only [List.getElem_toArray, List.getElem_cons_zero, List.getElem_cons_succ, Act.put, List.setIfInBounds_toArray, List.set_cons_zero, List.set_cons_succ]
    refine wpAnyK_ready (rs := [7]) (by kernel_rfl) (by simp) ?_
    refine AllReadyK.cons rfl (fun K hK => ?_) (by kernel_rfl) ?_
    ·have k9 := cell_mk (i := 2) (F9.out.keep _ _ Y1.out trivial) rfl
     have z9 := frozen_mk (i := 2) (F9.out.keep _ _ Y1.out trivial)
     (try simp only [List.getElem_toArray, List.getElem_cons_zero, List.getElem_cons_succ])
     go_simp
     refine hK.out _ _ trivial (fun h => absurd h (by decide)) ?_
     clear hK K
     refine wpAnyK_done (by kernel_rfl) ?_ _
     clear k9 z9
     obtain ⟨WA, hWA⟩ : ∃ W, W9.setCell ⟨w.heap.size, 2, none⟩ (.slice g9 (n + 1) c9) = W := ⟨_, rfl⟩
     have YA : Hid (WA.heap[w.heap.size]? = some (.cells #[.int .u64 (b : Nat), .int .u64 (bt : Nat), .slice g9 (n + 1) c9] 37 (0, 0))) := hWA ▸ heap_setCell_same (o := 2) (F9.out.keep _ _ Y1.out trivial) _
     have GA : Hid (Fr (fun c _ => c ≠ w.heap.size) W9 WA) := hWA ▸ (Fr.refl _ _).setCell (fun _ _ h => h rfl) _
     have XT : Hid (WA.heap[W2.heap.size]? = some (.cells #[.int .u64 0, .int .u64 0, .slice none 0 0] 37 (0, 0))) := GA.out.keep _ _ (F9.out.keep _ _ X3.out trivial) (by have := LT.out; omega)
     try rw [hWA]
     clear hWA
     have x0 := cell_mk (i := 0) YA.out rfl
     have x1 := cell_mk (i := 1) YA.out rfl
     have x2 := cell_mk (i := 2) YA.out rfl
     have q0 := cell_mk (i := 0) XT.out rfl
     have q1 := cell_mk (i := 1) XT.out rfl
     have q2 := cell_mk (i := 2) XT.out rfl
     have y0 := frozen_mk (i := 0) XT.out
     have y1 := frozen_mk (i := 1) XT.out
     have y2 := frozen_mk (i := 2) XT.out
     obtain ⟨WZ, hWZ, TZ, FZ⟩ := set3 XT.out (.int .u64 (b : Nat)) (.int .u64 (bt : Nat)) (.slice g9 (n + 1) c9)
     have p0 := cell_mk (i := 0) TZ rfl
     have p1 := cell_mk (i := 1) TZ rfl
     have p2 := cell_mk (i := 2) TZ rfl
     have FZH := Lib.hid FZ
     clear TZ FZ
     go_wp2
     try rw [hWZ]
     refine bodyPost_ret (v := .agg #[.int .u64 (b : Nat), .int .u64 (bt : Nat), .slice g9 (n + 1) c9]) (by simp [results, Try.results40, go_sem, *]) rfl ⟨g9, c9, rfl, ?_, ?_⟩
     ·try rw [hWZ]
      have r1 := rows_own (w := W9) (B := WB2.heap.size) (e := 68) (v := .slice g9 (n + 1) c9) (xs := xs ++ [y]) (by rw [List.length_append, HN.out]; exact FB9.out) encE_len
      have r2 := r1.mono (K' := fun c o => c ≠ w.heap.size ∧ c ≠ W2.heap.size ∧ w.heap.size ≤ c ∧ ∃ cs fz, o = .cells cs 68 fz) fun c o _ hc => by
       obtain ⟨hc, cs, e⟩ := hc
       have h1 := FB2.out.size
       have h2 := lt_of_some X3.out
       have h3 := LT.out
       exact ⟨by omega, by omega, by omega, cs, _, e⟩
      exact ((r2.fr (GA.out.mono fun _ _ h => h) fun c o _ hc => hc.1).fr FZH.out fun c o _ hc => hc.2.1).mono fun c o _ hc => hc.2.2
     ·try rw [hWZ]
      exact Fr.within ((((FA.out.trans F9.out).mono fun _ _ _ => trivial).trans (GA.out.mono fun c _ h e => by have := h.2; omega)).trans (FZH.out.mono fun c _ h e => by have := h.2; have := LT.out; omega))
    exact AllReadyK.nil
   exact AllReadyK.nil
  exact AllReadyK.nil
 exact AllReadyK.nil
end Go.Proofs.Ytmjccpfchhnfhaa
/- Entries, logs that are the same; the document's last term (out of the text of law 14). -/
namespace Go.Proofs.Ytmjccpfchhnfhaa
open Go.RowKit
set_option linter.unusedVariables false
set_option linter.unusedSimpArgs false
theorem RowsAt.len' {α : Type} {K : Nat → Obj → Prop} {w : World} {a : Option Addr} {n c k : Nat} {enc : α → List Value} {xs : List α} (h : RowsAt K w (.slice a n c) k enc xs) : n = xs.length := by
 obtain ⟨_, _, e, _⟩ := h; cases e; rfl
end Go.Proofs.Ytmjccpfchhnfhaa
/- Entries cloned; Slice of a log (out of the text of law 14). -/
namespace Go.Proofs.Ytmjccpfchhnfhaa
open Go.RowKit
set_option linter.unusedVariables false
set_option linter.unusedSimpArgs false
theorem zero_en_size : (Value.agg #[.int .u64 0, .int .i64 0, .slice none 0 0]).cells.size = 3 := by kernel_rfl
theorem src_ttE {w w' : World} {size m : Nat} {x : Value} {xs : List Value} (h : SrcAt w size x m xs) (hf : FT w w') : SrcAt w' size x m xs := by
 rcases h with h | ⟨ad, c, h1, h2, h3, h4⟩
 ·exact .inl h
 ·exact .inr ⟨ad, c, h1, h2, fun j u hu => hf.cell (fun _ _ => trivial) (h3 j u hu), h4⟩
set_option maxRecDepth 100000 in
theorem clone_en_some (w : World) (ad : Addr) (n cap : Nat) (xs : List Value) (h : SrcAt w 3 (.slice (some ad) n cap) n xs) (hm : n ≤ 1000000) :
  Calls Try.prog 77 #[.slice (some ad) n cap] w fun e w' => (∃ v, e = .returned v ∧ w'.ownsRow w.heap.size 68 3 v n xs) ∧ FT w w' := by
 have hq := fun (w : World) (a : Option Addr) (n c n' c' : Nat) => Lib.run_eql_slice_nil (P := Try.prog) w 35 68 a n c n' c' Try.underlying35
 obtain ⟨i0, hi, hz0, hz1, hz2⟩ := info_parts info_en
 have hown : (w.alloc (.cells #[] 68)).ownsRow w.heap.size 68 3 (.slice (some ⟨w.heap.size, 0, none⟩) 0 0) 0 [] := World.ownsRow_lit w #[] 0 (Nat.le_refl _) (by simp) rfl
 have hsrc := Lib.hid (src_ttE h ((Fr.refl _ _).alloc (.cells #[] 68)))
 clear h
 go_enter Try.func77, Try.ntmps77
 go_wp2_with (at_builtin; refine wpList_append_src _ rfl _ _ 35 rfl w.heap.size 68 i0 (.agg #[.int .u64 0, .int .i64 0, .slice none 0 0]) 3 40 Try.underlying35 hi hz0 hz1 hz2 zero_en_size (by decide) _ 0 [] rfl hown _ n xs rfl hsrc.out ?c2 ?c3 ?c4 ?_)
 case c2 => unfold maxLen; omega
 case c3 => omega
 case c4 => simp
 intro v w1 hown1 hg hnil
 go_wp2
 go_ret
 exact ⟨⟨v, rfl, by simpa using hown1⟩, (Fr.alloc (Fr.refl _ _) _).grown_new hg fun k e => by simp [Value.ownBlock] at e; omega⟩
set_option maxRecDepth 100000 in
theorem clone_en_nil (w : World) (n c : Nat) : Calls Try.prog 77 #[.slice none n c] w fun e w' => e = .returned (.slice none 0 0) ∧ w = w' := by
 have hq := fun (w : World) (a : Option Addr) (n c n' c' : Nat) => Lib.run_eql_slice_nil (P := Try.prog) w 35 68 a n c n' c' Try.underlying35
 go_enter Try.func77, Try.ntmps77
 go_wp2
 go_ret
 exact ⟨rfl, rfl⟩
theorem encE_oneC (x : EV) : ∀ u ∈ encE x, u.oneCell' = true := fun u hu => by
 unfold encE at hu
 simp only [List.mem_cons, List.not_mem_nil, or_false] at hu
 rcases hu with rfl | rfl | rfl <;> rfl
theorem size_enS : (sizeOf 68).run Try.prog = fun w => .ok 3 w := by kernel_rfl
end Go.Proofs.Ytmjccpfchhnfhaa
