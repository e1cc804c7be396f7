/- Texts of the proofs, part 29: what the functions that they reach do, walked; no conditions beyond those that each states. -/
import Derived.Deep.RegionWith
import Derived.Test.YtmjccpfchhnfhaaZzb30c601fa7
set_option linter.unusedVariables false
set_option linter.unusedSimpArgs false
/- elect: New. -/
namespace Go.Proofs.Ytmjccpfchhnfhaa
open Go.RowKit
set_option linter.unusedVariables false
set_option linter.unusedSimpArgs false
def z16 : Array Value := (List.replicate 16 (Value.int .u64 0)).toArray
theorem make_u16 (w : World) : (Instr.makeSlice 26 (.int .i64 16) (.int .i64 16)).run Try.prog w = .ok (.slice (some ⟨w.heap.size, 0, none⟩) 16 16) (w.alloc (.cells z16 34 (0, 0))) := by
 obtain ⟨i0, hi, hz0, hz1, hz2⟩ := info_parts info_u64
 have hr := run_make (P := Try.prog) w 26 34 i0 (.int .u64 0) Try.underlying26 hi hz0 .i64 .i64 16 16 (by omega) (Int.le_refl _) (by rw [hz2]; omega) (by omega)
 have e16 : (16 : Int).toNat = 16 := rfl
 rw [e16] at hr
 rw [hr, hz1, Nat.mul_one]
 have e : madeCells (Value.int .u64 0).cells 16 = z16 := by
  apply Array.toList_inj.1
  rw [show (Value.int .u64 0).cells = #[.int .u64 0] from rfl, toList_madeCells_one]
  rfl
 rw [e]
theorem A16.zero {W : World} {g : Nat} (h : W.heap[g]? = some (.cells z16 34 (0, 0))) : A16 W g (List.replicate 16 0) := by
 refine ⟨rfl, _, h, fun i hi => ?_⟩
 unfold z16
 rw [List.getElem?_toArray, List.getElem?_replicate, if_pos hi, List.getD_eq_getElem?_getD, List.getElem?_replicate, if_pos hi]
 rfl
theorem RowI.intsK {w : World} {B : Nat} {v : Value} {zs : List Int} (h : RowI w B v zs) : IntsAt (fun c o => B ≤ c ∧ ∃ cs, o = .cells cs 3 (0, 0)) w v zs := by
 obtain ⟨a, cap, hv, h1⟩ := h.ints
 refine ⟨a, cap, hv, ?_⟩
 rcases h1 with h1 | ⟨b, off, o, ha, hb, hk, hc⟩
 ·exact .inl h1
 ·obtain ⟨cur, ht⟩ := own_tag h (c := b) (by rw [hv, ha]; rfl)
  rw [hb] at ht
  cases ht
  exact .inr ⟨b, off, _, ha, hb, ⟨hk, cur, rfl⟩, hc⟩
theorem new_made [Old] {X : Nat → Prop} {w W : World} {b : Nat} (me : Int) (conf : List Int) (v : Value) (g3 g4 : Nat) (h0 : 0 < conf.length) (hX : ∀ c, X c → c < w.heap.size) (hO : ∀ c, Old.o c → c < w.heap.size) (f : FT w W) (hr : RowI W w.heap.size v conf) (h3 : W.heap[g3]? = some (.cells z16 34 (0, 0))) (h4 : W.heap[g4]? = some (.cells z16 34 (0, 0))) (hne : g3 ≠ g4) (l3 : w.heap.size ≤ g3) (l4 : w.heap.size ≤ g4)
  (hb : b = W.heap.size) : ∃ X' P' q', PNs X' P' (W.alloc (.cells #[.int .i64 me, .int .i64 (-1), .int .i64 0, .int .i64 (-1), v, .slice none 0 0, .int .u64 0, .int .u64 0, .int .u64 0, .int .u64 0, .slice none 0 0, .bool false, .slice (some ⟨g3, 0, none⟩) 16 16, .slice (some ⟨g4, 0, none⟩) 16 16] 39 (0, 0))) b (Nd.new me conf) q' ∧ Aft X (fun _ => False) X' P' w (W.alloc (.cells #[.int .i64 me, .int .i64 (-1), .int .i64 0, .int .i64 (-1), v, .slice none 0 0, .int .u64 0, .int .u64 0, .int .u64 0, .int .u64 0, .slice none 0 0, .bool false, .slice (some ⟨g3, 0, none⟩) 16 16, .slice (some ⟨g4, 0, none⟩) 16 16] 39 (0, 0))) ∧ w.heap.size ≤ b := by
 subst hb
 obtain ⟨W', hW⟩ : ∃ Y, W.alloc (.cells #[.int .i64 me, .int .i64 (-1), .int .i64 0, .int .i64 (-1), v, .slice none 0 0, .int .u64 0, .int .u64 0, .int .u64 0, .int .u64 0, .slice none 0 0, .bool false, .slice (some ⟨g3, 0, none⟩) 16 16, .slice (some ⟨g4, 0, none⟩) 16 16] 39 (0, 0)) = Y := ⟨_, rfl⟩
 have T : W'.heap[W.heap.size]? = some (.cells #[.int .i64 me, .int .i64 (-1), .int .i64 0, .int .i64 (-1), v, .slice none 0 0, .int .u64 0, .int .u64 0, .int .u64 0, .int .u64 0, .slice none 0 0, .bool false, .slice (some ⟨g3, 0, none⟩) 16 16, .slice (some ⟨g4, 0, none⟩) 16 16] 39 (0, 0)) := hW ▸ heap_alloc_new _ _
 have fW : FT W W' := hW ▸ (Fr.refl _ _).alloc _
 rw [hW]
 have s3 := lt_of_some h3
 have s4 := lt_of_some h4
 have sW := lt_of_some T
 have sf := f.size
 refine ⟨fun c => X c ∨ c = W.heap.size ∨ c = g3 ∨ c = g4, fun c => c = W.heap.size ∨ c = g3 ∨ c = g4, ⟨v, .slice none 0 0, .slice none 0 0, g3, 16, g4, 16, []⟩, ⟨T, ?_, RowI.nil _ _, (fun c e => by cases e), EsAt.nil _ _, rfl, .zero (fW.keep _ _ h3 trivial), .zero (fW.keep _ _ h4 trivial), hne, .inl rfl, .inr (.inl rfl), .inr (.inr rfl), fun c hc => .inr hc, fun c hc => ?_, fun c hc => Nat.lt_of_lt_of_le (hO c hc) f.size⟩, ⟨(f.trans fW).tT, fun c => Iff.rfl, (fun c hc => hc.elim), fun c hc => .inr ?_, (fun c hc => hc.elim)⟩, sf⟩
 ·have h9 : RowI W' w.heap.size v conf := ownsRow_fr hr fW fun _ _ _ _ => trivial
  refine h9.intsK.mono3 fun c o ho hc => ⟨fun hx => ?_, ?_⟩
  ·obtain ⟨hB, cs, e⟩ := hc
   subst e
   rcases hx with hx | hx | hx | hx
   ·have := hX c hx; omega
   ·subst hx; rw [T] at ho; cases ho
   ·subst hx; rw [fW.keep _ _ h3 trivial] at ho; cases ho
   ·subst hx; rw [fW.keep _ _ h4 trivial] at ho; cases ho
  ·obtain ⟨hB, cs, e⟩ := hc
   exact .inr ⟨cs, _, _, e, by decide⟩
 ·rcases hc with hc | hc | hc | hc
  ·have := hX c hc; omega
  ·omega
  ·omega
  ·omega
 ·rcases hc with hc | hc | hc <;> omega
section
variable {P : Program} {ops : Array Oper} {Q : Exit → Act → World → Prop} {md : Region.Mode}
def NextOp (P : Program) (md : Region.Mode) (ops : Array Oper) (Q : Exit → Act → World → Prop) (m : Nat) (L : Array Bool) (a : Act) (w : World) (i : Nat) (o : Oper) : Prop :=
 ∀ K' : Act → World → Prop, Shut (∀ a' w', wpAny P md ops Q m (L.setIfInBounds i true) a' w' → K' a' w') → if Region.wanted o (yielded ops a.tmps) = true then Oper.wp P o a w K' Q else K' (a.put o.dst undef) w
theorem wpAny_fork3 {L : Array Bool} {a : Act} {w : World} {oi oj ok : Oper} {m : Nat} (i j k : Nat) (hr : Region.ready md ops L = [i, j, k]) (hi : ops[i]? = some oi) (hj : ops[j]? = some oj) (hk : ops[k]? = some ok)
  (h1 : NextOp P md ops Q m L a w i oi) (h2 : NextOp P md ops Q m L a w j oj) (h3 : NextOp P md ops Q m L a w k ok) : wpAny P md ops Q (m + 1) L a w := by
 refine ⟨fun e => (by rw [hr] at e; cases e), fun x hx => ?_⟩
 rw [hr] at hx
 rcases List.mem_cons.1 hx with rfl | hx
 ·exact wpOp_step hi fun K' hK => h1 K' fun a' w' hq => hK a' w' hq
 ·rcases List.mem_cons.1 hx with rfl | hx
  ·exact wpOp_step hj fun K' hK => h2 K' fun a' w' hq => hK a' w' hq
  ·obtain rfl := List.mem_singleton.1 hx
   exact wpOp_step hk fun K' hK => h3 K' fun a' w' hq => hK a' w' hq
theorem wpAny_fork2 {L : Array Bool} {a : Act} {w : World} {oi oj : Oper} {m : Nat} (i j : Nat) (hr : Region.ready md ops L = [i, j]) (hi : ops[i]? = some oi) (hj : ops[j]? = some oj)
  (h1 : NextOp P md ops Q m L a w i oi) (h2 : NextOp P md ops Q m L a w j oj) : wpAny P md ops Q (m + 1) L a w := by
 refine ⟨fun e => (by rw [hr] at e; cases e), fun x hx => ?_⟩
 rw [hr] at hx
 rcases List.mem_cons.1 hx with rfl | hx
 ·exact wpOp_step hi fun K' hK => h1 K' fun a' w' hq => hK a' w' hq
 ·obtain rfl := List.mem_singleton.1 hx
  exact wpOp_step hj fun K' hK => h2 K' fun a' w' hq => hK a' w' hq
end
set_option maxRecDepth 100000 in
set_option maxHeartbeats 8000000 in
theorem enew_calls [Old] {X : Nat → Prop} (w : World) (me : Int) (vc : Value) (conf : List Int) (h : IntsAt (RO X) w vc conf) (h0 : 0 < conf.length) (hl : conf.length ≤ 1000) (hX : ∀ c, X c → c < w.heap.size) (hO : ∀ c, Old.o c → c < w.heap.size) :
  Calls Try.prog 21 #[.int .i64 me, vc] w fun e w' => ∃ b X' P' q', e = .returned (.pointer (some ⟨b, 0, none⟩)) ∧ PNs X' P' w' b (Nd.new me conf) q' ∧ Aft X (fun _ => False) X' P' w w' ∧ w.heap.size ≤ b := by
 have CL : Hid (∀ W, FT w W → Calls Try.prog 45 #[vc] W fun e w' => (∃ v, e = .returned v ∧ RowI w' w.heap.size v conf) ∧ FT W w') := fun W f => (clone_ints W vc conf (h.tt f) h0 (by omega)).mono fun e w' ⟨⟨v, h1, h2⟩, h3⟩ => ⟨⟨v, h1, ⟨h2.1, by
  rcases h2.2 with q | ⟨g, c, cur, e, hb, r⟩
  ·exact .inl q
  ·exact .inr ⟨g, c, cur, e, Nat.le_trans f.size hb, r⟩⟩⟩, h3⟩
 have MK := fun W => make_u16 W
 have HH := Lib.hid (And.intro h0 (And.intro hX hO))
 clear h h0 hl hX hO
 go_enter Try.func21, Try.ntmps21
 go_wp2_with fail
 refine wp_region_any (by kernel_rfl) ?_
 show wpAny _ _ _ _ 8 _ _ _
 refine wpAny_take (i := 0) (v := .int .i64 me) rfl (by kernel_rfl) (by kernel_rfl) (by kernel_rfl) (fun _ _ _ h => h) (Or.inl ⟨by rfl, ?_⟩) ?_
 ·intro w
  (try simp only [List.getElem_toArray, List.getElem_cons_zero, List.getElem_cons_succ])
  go_simp
 refine wpAny_take (i := 1) (v := vc) rfl (by kernel_rfl) (by kernel_rfl) (by kernel_rfl) (fun _ _ _ h => h) (Or.inl ⟨by rfl, ?_⟩) ?_
 ·intro w
  (try simp only [List.getElem_toArray, List.getElem_cons_zero, List.getElem_cons_succ, Act.put, List.setIfInBounds_toArray, List.set_cons_succ, List.set_cons_zero])
  go_simp
 (try simp only [List.getElem_toArray, List.getElem_cons_zero, List.getElem_cons_succ, Act.put, List.setIfInBounds_toArray, List.set_cons_succ, List.set_cons_zero])
 obtain ⟨W0, hW0⟩ : ∃ Y, w.drew = Y := ⟨_, rfl⟩
 have F0 : Hid (FT w W0) := hW0 ▸ (Fr.refl _ _).drew
 show wpAny _ _ _ _ 6 _ _ w.drew
 rw [hW0]
 clear hW0
 refine wpAny_fork3 2 3 4 (by kernel_rfl) rfl rfl rfl ?_ ?_ ?_
 ·intro K' hK
  (try simp only [List.getElem_toArray, List.getElem_cons_zero, List.getElem_cons_succ])
  have CL1 := Lib.hid (CL W0 F0)
  go_simp
  (with_reducible refine CL1.out.mono ?_)
  rintro e W1 ⟨⟨v, rfl, hr⟩, f8⟩
  obtain ⟨ga, gn, gc, rfl⟩ : ∃ ga gn gc, v = .slice ga gn gc := by obtain ⟨a, c, e⟩ := hr.ints.form; exact ⟨a, _, c, e⟩
  have HR : Hid (RowI W1 w.heap.size (.slice ga gn gc) conf) := hr
  clear hr
  have f1 : Hid (FT W0 W1) := f8
  have F1 := Lib.hid (F0.trans f1)
  clear f8 CL1
  refine hK _ _ ?_
  clear hK K'
  refine wpAny_fork2 3 4 (by kernel_rfl) rfl rfl ?_ ?_
  ·intro K' hK
   (try simp only [List.getElem_toArray, List.getElem_cons_zero, List.getElem_cons_succ])
   have hm := MK W1
   go_simp
   clear hm
   obtain ⟨W2, hW⟩ : ∃ Y, W1.alloc (.cells z16 34 (0, 0)) = Y := ⟨_, rfl⟩
   have f2 : Hid (FT W1 W2) := hW ▸ (Fr.refl _ _).alloc _
   have F2 := Lib.hid (F1.trans f2)
   have t3 : Hid (W2.heap[W1.heap.size]? = some (.cells z16 34 (0, 0))) := hW ▸ heap_alloc_new _ _
   rw [hW]
   clear hW
   refine hK _ _ ?_
   clear hK K'
   refine wpAny_next 4 (by kernel_rfl) rfl ?_
   intro K' hK
   (try simp only [List.getElem_toArray, List.getElem_cons_zero, List.getElem_cons_succ])
   have hm := MK W2
   go_simp
   clear hm
   obtain ⟨W3, hW⟩ : ∃ Y, W2.alloc (.cells z16 34 (0, 0)) = Y := ⟨_, rfl⟩
   have f3 : Hid (FT W2 W3) := hW ▸ (Fr.refl _ _).alloc _
   have F3 := Lib.hid (F2.trans f3)
   have t4 : Hid (W3.heap[W2.heap.size]? = some (.cells z16 34 (0, 0))) := hW ▸ heap_alloc_new _ _
   rw [hW]
   clear hW
   refine hK _ _ ?_
   clear hK K'
   have NM := Lib.hid (new_made (b := W3.heap.size) me conf (.slice ga gn gc) W1.heap.size W2.heap.size HH.out.1 HH.out.2.1 HH.out.2.2 F3.out (ownsRow_fr (ownsRow_fr HR.out f2.out fun _ _ _ _ => trivial) f3.out fun _ _ _ _ => trivial) (f3.out.keep _ _ t3.out trivial) t4.out (by have h1 := lt_of_some t3.out; have h2 : W2.heap.size ≤ W2.heap.size := Nat.le_refl _; omega) F1.out.size F2.out.size rfl)
   clear CL MK
   have hbd : ∀ W : World, (Instr.build 39 #[(0, .int .i64 me), (1, .int .i64 (-1)), (3, .int .i64 (-1)), (4, .slice ga gn gc), (10, .slice (some ⟨W1.heap.size, 0, none⟩) 16 16), (11, .slice (some ⟨W2.heap.size, 0, none⟩) 16 16)]).run Try.prog W = .ok (.agg #[.int .i64 me, .int .i64 (-1), .int .i64 0, .int .i64 (-1), .slice ga gn gc, .slice none 0 0, .int .u64 0, .int .u64 0, .int .u64 0, .int .u64 0, .slice none 0 0, .bool false, .slice (some ⟨W1.heap.size, 0, none⟩) 16 16, .slice (some ⟨W2.heap.size, 0, none⟩) 16 16]) W := fun W => run_build W _ _ _ (by kernel_rfl)
   refine wpAny_next 5 (by kernel_rfl) rfl fun K' hK => ?_
   (try simp only [List.getElem_toArray, List.getElem_cons_zero, List.getElem_cons_succ])
   go_simp
   refine hK _ _ ?_
   clear hK K'
   refine wpAny_next 6 (by kernel_rfl) rfl fun K' hK => ?_
   (try simp only [List.getElem_toArray, List.getElem_cons_zero, List.getElem_cons_succ])
   go_simp
   refine hK _ _ ?_
   clear hK K'
   refine wpAny_next 7 (by kernel_rfl) rfl fun K' hK => ?_
   (try simp only [List.getElem_toArray, List.getElem_cons_zero, List.getElem_cons_succ])
   go_simp
   refine hK _ _ ?_
   clear hK K'
   refine wpAny_fin (by kernel_rfl) ?_
   go_wp2
   go_ret
   obtain ⟨X', P', q', n1, n2, n3⟩ := NM
   exact ⟨_, X', P', q', rfl, n1, n2, n3⟩
  ·intro K' hK
   (try simp only [List.getElem_toArray, List.getElem_cons_zero, List.getElem_cons_succ])
   have hm := MK W1
   go_simp
   clear hm
   obtain ⟨W2, hW⟩ : ∃ Y, W1.alloc (.cells z16 34 (0, 0)) = Y := ⟨_, rfl⟩
   have f2 : Hid (FT W1 W2) := hW ▸ (Fr.refl _ _).alloc _
   have F2 := Lib.hid (F1.trans f2)
   have t4 : Hid (W2.heap[W1.heap.size]? = some (.cells z16 34 (0, 0))) := hW ▸ heap_alloc_new _ _
   rw [hW]
   clear hW
   refine hK _ _ ?_
   clear hK K'
   refine wpAny_next 3 (by kernel_rfl) rfl ?_
   intro K' hK
   (try simp only [List.getElem_toArray, List.getElem_cons_zero, List.getElem_cons_succ])
   have hm := MK W2
   go_simp
   clear hm
   obtain ⟨W3, hW⟩ : ∃ Y, W2.alloc (.cells z16 34 (0, 0)) = Y := ⟨_, rfl⟩
   have f3 : Hid (FT W2 W3) := hW ▸ (Fr.refl _ _).alloc _
   have F3 := Lib.hid (F2.trans f3)
   have t3 : Hid (W3.heap[W2.heap.size]? = some (.cells z16 34 (0, 0))) := hW ▸ heap_alloc_new _ _
   rw [hW]
   clear hW
   refine hK _ _ ?_
   clear hK K'
   have NM := Lib.hid (new_made (b := W3.heap.size) me conf (.slice ga gn gc) W2.heap.size W1.heap.size HH.out.1 HH.out.2.1 HH.out.2.2 F3.out (ownsRow_fr (ownsRow_fr HR.out f2.out fun _ _ _ _ => trivial) f3.out fun _ _ _ _ => trivial) t3.out (f3.out.keep _ _ t4.out trivial) (by have h1 := lt_of_some t4.out; have h2 : W2.heap.size ≤ W2.heap.size := Nat.le_refl _; omega) F2.out.size F1.out.size rfl)
   clear CL MK
   have hbd : ∀ W : World, (Instr.build 39 #[(0, .int .i64 me), (1, .int .i64 (-1)), (3, .int .i64 (-1)), (4, .slice ga gn gc), (10, .slice (some ⟨W2.heap.size, 0, none⟩) 16 16), (11, .slice (some ⟨W1.heap.size, 0, none⟩) 16 16)]).run Try.prog W = .ok (.agg #[.int .i64 me, .int .i64 (-1), .int .i64 0, .int .i64 (-1), .slice ga gn gc, .slice none 0 0, .int .u64 0, .int .u64 0, .int .u64 0, .int .u64 0, .slice none 0 0, .bool false, .slice (some ⟨W2.heap.size, 0, none⟩) 16 16, .slice (some ⟨W1.heap.size, 0, none⟩) 16 16]) W := fun W => run_build W _ _ _ (by kernel_rfl)
   refine wpAny_next 5 (by kernel_rfl) rfl fun K' hK => ?_
   (try simp only [List.getElem_toArray, List.getElem_cons_zero, List.getElem_cons_succ])
   go_simp
   refine hK _ _ ?_
   clear hK K'
   refine wpAny_next 6 (by kernel_rfl) rfl fun K' hK => ?_
   (try simp only [List.getElem_toArray, List.getElem_cons_zero, List.getElem_cons_succ])
   go_simp
   refine hK _ _ ?_
   clear hK K'
   refine wpAny_next 7 (by kernel_rfl) rfl fun K' hK => ?_
   (try simp only [List.getElem_toArray, List.getElem_cons_zero, List.getElem_cons_succ])
   go_simp
   refine hK _ _ ?_
   clear hK K'
   refine wpAny_fin (by kernel_rfl) ?_
   go_wp2
   go_ret
   obtain ⟨X', P', q', n1, n2, n3⟩ := NM
   exact ⟨_, X', P', q', rfl, n1, n2, n3⟩
 ·intro K' hK
  (try simp only [List.getElem_toArray, List.getElem_cons_zero, List.getElem_cons_succ])
  have hm := MK W0
  go_simp
  clear hm
  obtain ⟨W1, hW⟩ : ∃ Y, W0.alloc (.cells z16 34 (0, 0)) = Y := ⟨_, rfl⟩
  have f1 : Hid (FT W0 W1) := hW ▸ (Fr.refl _ _).alloc _
  have F1 := Lib.hid (F0.trans f1)
  have t3 : Hid (W1.heap[W0.heap.size]? = some (.cells z16 34 (0, 0))) := hW ▸ heap_alloc_new _ _
  rw [hW]
  clear hW
  refine hK _ _ ?_
  clear hK K'
  refine wpAny_fork2 2 4 (by kernel_rfl) rfl rfl ?_ ?_
  ·intro K' hK
   (try simp only [List.getElem_toArray, List.getElem_cons_zero, List.getElem_cons_succ])
   have CL1 := Lib.hid (CL W1 F1)
   go_simp
   (with_reducible refine CL1.out.mono ?_)
   rintro e W2 ⟨⟨v, rfl, hr⟩, f8⟩
   obtain ⟨ga, gn, gc, rfl⟩ : ∃ ga gn gc, v = .slice ga gn gc := by obtain ⟨a, c, e⟩ := hr.ints.form; exact ⟨a, _, c, e⟩
   have HR : Hid (RowI W2 w.heap.size (.slice ga gn gc) conf) := hr
   clear hr
   have f2 : Hid (FT W1 W2) := f8
   have F2 := Lib.hid (F1.trans f2)
   clear f8 CL1
   refine hK _ _ ?_
   clear hK K'
   refine wpAny_next 4 (by kernel_rfl) rfl ?_
   intro K' hK
   (try simp only [List.getElem_toArray, List.getElem_cons_zero, List.getElem_cons_succ])
   have hm := MK W2
   go_simp
   clear hm
   obtain ⟨W3, hW⟩ : ∃ Y, W2.alloc (.cells z16 34 (0, 0)) = Y := ⟨_, rfl⟩
   have f3 : Hid (FT W2 W3) := hW ▸ (Fr.refl _ _).alloc _
   have F3 := Lib.hid (F2.trans f3)
   have t4 : Hid (W3.heap[W2.heap.size]? = some (.cells z16 34 (0, 0))) := hW ▸ heap_alloc_new _ _
   rw [hW]
   clear hW
   refine hK _ _ ?_
   clear hK K'
   have NM := Lib.hid (new_made (b := W3.heap.size) me conf (.slice ga gn gc) W0.heap.size W2.heap.size HH.out.1 HH.out.2.1 HH.out.2.2 F3.out (ownsRow_fr HR.out f3.out fun _ _ _ _ => trivial) (f3.out.keep _ _ (f2.out.keep _ _ t3.out trivial) trivial) t4.out (by have h1 := lt_of_some t3.out; have h2 : W1.heap.size ≤ W2.heap.size := f2.out.size; omega) F0.out.size F2.out.size rfl)
   clear CL MK
   have hbd : ∀ W : World, (Instr.build 39 #[(0, .int .i64 me), (1, .int .i64 (-1)), (3, .int .i64 (-1)), (4, .slice ga gn gc), (10, .slice (some ⟨W0.heap.size, 0, none⟩) 16 16), (11, .slice (some ⟨W2.heap.size, 0, none⟩) 16 16)]).run Try.prog W = .ok (.agg #[.int .i64 me, .int .i64 (-1), .int .i64 0, .int .i64 (-1), .slice ga gn gc, .slice none 0 0, .int .u64 0, .int .u64 0, .int .u64 0, .int .u64 0, .slice none 0 0, .bool false, .slice (some ⟨W0.heap.size, 0, none⟩) 16 16, .slice (some ⟨W2.heap.size, 0, none⟩) 16 16]) W := fun W => run_build W _ _ _ (by kernel_rfl)
   refine wpAny_next 5 (by kernel_rfl) rfl fun K' hK => ?_
   (try simp only [List.getElem_toArray, List.getElem_cons_zero, List.getElem_cons_succ])
   go_simp
   refine hK _ _ ?_
   clear hK K'
   refine wpAny_next 6 (by kernel_rfl) rfl fun K' hK => ?_
   (try simp only [List.getElem_toArray, List.getElem_cons_zero, List.getElem_cons_succ])
   go_simp
   refine hK _ _ ?_
   clear hK K'
   refine wpAny_next 7 (by kernel_rfl) rfl fun K' hK => ?_
   (try simp only [List.getElem_toArray, List.getElem_cons_zero, List.getElem_cons_succ])
   go_simp
   refine hK _ _ ?_
   clear hK K'
   refine wpAny_fin (by kernel_rfl) ?_
   go_wp2
   go_ret
   obtain ⟨X', P', q', n1, n2, n3⟩ := NM
   exact ⟨_, X', P', q', rfl, n1, n2, n3⟩
  ·intro K' hK
   (try simp only [List.getElem_toArray, List.getElem_cons_zero, List.getElem_cons_succ])
   have hm := MK W1
   go_simp
   clear hm
   obtain ⟨W2, hW⟩ : ∃ Y, W1.alloc (.cells z16 34 (0, 0)) = Y := ⟨_, rfl⟩
   have f2 : Hid (FT W1 W2) := hW ▸ (Fr.refl _ _).alloc _
   have F2 := Lib.hid (F1.trans f2)
   have t4 : Hid (W2.heap[W1.heap.size]? = some (.cells z16 34 (0, 0))) := hW ▸ heap_alloc_new _ _
   rw [hW]
   clear hW
   refine hK _ _ ?_
   clear hK K'
   refine wpAny_next 2 (by kernel_rfl) rfl ?_
   intro K' hK
   (try simp only [List.getElem_toArray, List.getElem_cons_zero, List.getElem_cons_succ])
   have CL1 := Lib.hid (CL W2 F2)
   go_simp
   (with_reducible refine CL1.out.mono ?_)
   rintro e W3 ⟨⟨v, rfl, hr⟩, f8⟩
   obtain ⟨ga, gn, gc, rfl⟩ : ∃ ga gn gc, v = .slice ga gn gc := by obtain ⟨a, c, e⟩ := hr.ints.form; exact ⟨a, _, c, e⟩
   have HR : Hid (RowI W3 w.heap.size (.slice ga gn gc) conf) := hr
   clear hr
   have f3 : Hid (FT W2 W3) := f8
   have F3 := Lib.hid (F2.trans f3)
   clear f8 CL1
   refine hK _ _ ?_
   clear hK K'
   have NM := Lib.hid (new_made (b := W3.heap.size) me conf (.slice ga gn gc) W0.heap.size W1.heap.size HH.out.1 HH.out.2.1 HH.out.2.2 F3.out HR.out (f3.out.keep _ _ (f2.out.keep _ _ t3.out trivial) trivial) (f3.out.keep _ _ t4.out trivial) (by have h1 := lt_of_some t3.out; have h2 : W1.heap.size ≤ W1.heap.size := Nat.le_refl _; omega) F0.out.size F1.out.size rfl)
   clear CL MK
   have hbd : ∀ W : World, (Instr.build 39 #[(0, .int .i64 me), (1, .int .i64 (-1)), (3, .int .i64 (-1)), (4, .slice ga gn gc), (10, .slice (some ⟨W0.heap.size, 0, none⟩) 16 16), (11, .slice (some ⟨W1.heap.size, 0, none⟩) 16 16)]).run Try.prog W = .ok (.agg #[.int .i64 me, .int .i64 (-1), .int .i64 0, .int .i64 (-1), .slice ga gn gc, .slice none 0 0, .int .u64 0, .int .u64 0, .int .u64 0, .int .u64 0, .slice none 0 0, .bool false, .slice (some ⟨W0.heap.size, 0, none⟩) 16 16, .slice (some ⟨W1.heap.size, 0, none⟩) 16 16]) W := fun W => run_build W _ _ _ (by kernel_rfl)
   refine wpAny_next 5 (by kernel_rfl) rfl fun K' hK => ?_
   (try simp only [List.getElem_toArray, List.getElem_cons_zero, List.getElem_cons_succ])
   go_simp
   refine hK _ _ ?_
   clear hK K'
   refine wpAny_next 6 (by kernel_rfl) rfl fun K' hK => ?_
   (try simp only [List.getElem_toArray, List.getElem_cons_zero, List.getElem_cons_succ])
   go_simp
   refine hK _ _ ?_
   clear hK K'
   refine wpAny_next 7 (by kernel_rfl) rfl fun K' hK => ?_
   (try simp only [List.getElem_toArray, List.getElem_cons_zero, List.getElem_cons_succ])
   go_simp
   refine hK _ _ ?_
   clear hK K'
   refine wpAny_fin (by kernel_rfl) ?_
   go_wp2
   go_ret
   obtain ⟨X', P', q', n1, n2, n3⟩ := NM
   exact ⟨_, X', P', q', rfl, n1, n2, n3⟩
 ·intro K' hK
  (try simp only [List.getElem_toArray, List.getElem_cons_zero, List.getElem_cons_succ])
  have hm := MK W0
  go_simp
  clear hm
  obtain ⟨W1, hW⟩ : ∃ Y, W0.alloc (.cells z16 34 (0, 0)) = Y := ⟨_, rfl⟩
  have f1 : Hid (FT W0 W1) := hW ▸ (Fr.refl _ _).alloc _
  have F1 := Lib.hid (F0.trans f1)
  have t4 : Hid (W1.heap[W0.heap.size]? = some (.cells z16 34 (0, 0))) := hW ▸ heap_alloc_new _ _
  rw [hW]
  clear hW
  refine hK _ _ ?_
  clear hK K'
  refine wpAny_fork2 2 3 (by kernel_rfl) rfl rfl ?_ ?_
  ·intro K' hK
   (try simp only [List.getElem_toArray, List.getElem_cons_zero, List.getElem_cons_succ])
   have CL1 := Lib.hid (CL W1 F1)
   go_simp
   (with_reducible refine CL1.out.mono ?_)
   rintro e W2 ⟨⟨v, rfl, hr⟩, f8⟩
   obtain ⟨ga, gn, gc, rfl⟩ : ∃ ga gn gc, v = .slice ga gn gc := by obtain ⟨a, c, e⟩ := hr.ints.form; exact ⟨a, _, c, e⟩
   have HR : Hid (RowI W2 w.heap.size (.slice ga gn gc) conf) := hr
   clear hr
   have f2 : Hid (FT W1 W2) := f8
   have F2 := Lib.hid (F1.trans f2)
   clear f8 CL1
   refine hK _ _ ?_
   clear hK K'
   refine wpAny_next 3 (by kernel_rfl) rfl ?_
   intro K' hK
   (try simp only [List.getElem_toArray, List.getElem_cons_zero, List.getElem_cons_succ])
   have hm := MK W2
   go_simp
   clear hm
   obtain ⟨W3, hW⟩ : ∃ Y, W2.alloc (.cells z16 34 (0, 0)) = Y := ⟨_, rfl⟩
   have f3 : Hid (FT W2 W3) := hW ▸ (Fr.refl _ _).alloc _
   have F3 := Lib.hid (F2.trans f3)
   have t3 : Hid (W3.heap[W2.heap.size]? = some (.cells z16 34 (0, 0))) := hW ▸ heap_alloc_new _ _
   rw [hW]
   clear hW
   refine hK _ _ ?_
   clear hK K'
   have NM := Lib.hid (new_made (b := W3.heap.size) me conf (.slice ga gn gc) W2.heap.size W0.heap.size HH.out.1 HH.out.2.1 HH.out.2.2 F3.out (ownsRow_fr HR.out f3.out fun _ _ _ _ => trivial) t3.out (f3.out.keep _ _ (f2.out.keep _ _ t4.out trivial) trivial) (by have h1 := lt_of_some t4.out; have h2 : W1.heap.size ≤ W2.heap.size := f2.out.size; omega) F2.out.size F0.out.size rfl)
   clear CL MK
   have hbd : ∀ W : World, (Instr.build 39 #[(0, .int .i64 me), (1, .int .i64 (-1)), (3, .int .i64 (-1)), (4, .slice ga gn gc), (10, .slice (some ⟨W2.heap.size, 0, none⟩) 16 16), (11, .slice (some ⟨W0.heap.size, 0, none⟩) 16 16)]).run Try.prog W = .ok (.agg #[.int .i64 me, .int .i64 (-1), .int .i64 0, .int .i64 (-1), .slice ga gn gc, .slice none 0 0, .int .u64 0, .int .u64 0, .int .u64 0, .int .u64 0, .slice none 0 0, .bool false, .slice (some ⟨W2.heap.size, 0, none⟩) 16 16, .slice (some ⟨W0.heap.size, 0, none⟩) 16 16]) W := fun W => run_build W _ _ _ (by kernel_rfl)
   refine wpAny_next 5 (by kernel_rfl) rfl fun K' hK => ?_
   (try simp only [List.getElem_toArray, List.getElem_cons_zero, List.getElem_cons_succ])
   go_simp
   refine hK _ _ ?_
   clear hK K'
   refine wpAny_next 6 (by kernel_rfl) rfl fun K' hK => ?_
   (try simp only [List.getElem_toArray, List.getElem_cons_zero, List.getElem_cons_succ])
   go_simp
   refine hK _ _ ?_
   clear hK K'
   refine wpAny_next 7 (by kernel_rfl) rfl fun K' hK => ?_
   (try simp only [List.getElem_toArray, List.getElem_cons_zero, List.getElem_cons_succ])
   go_simp
   refine hK _ _ ?_
   clear hK K'
   refine wpAny_fin (by kernel_rfl) ?_
   go_wp2
   go_ret
   obtain ⟨X', P', q', n1, n2, n3⟩ := NM
   exact ⟨_, X', P', q', rfl, n1, n2, n3⟩
  ·intro K' hK
   (try simp only [List.getElem_toArray, List.getElem_cons_zero, List.getElem_cons_succ])
   have hm := MK W1
   go_simp
   clear hm
   obtain ⟨W2, hW⟩ : ∃ Y, W1.alloc (.cells z16 34 (0, 0)) = Y := ⟨_, rfl⟩
   have f2 : Hid (FT W1 W2) := hW ▸ (Fr.refl _ _).alloc _
   have F2 := Lib.hid (F1.trans f2)
   have t3 : Hid (W2.heap[W1.heap.size]? = some (.cells z16 34 (0, 0))) := hW ▸ heap_alloc_new _ _
   rw [hW]
   clear hW
   refine hK _ _ ?_
   clear hK K'
   refine wpAny_next 2 (by kernel_rfl) rfl ?_
   intro K' hK
   (try simp only [List.getElem_toArray, List.getElem_cons_zero, List.getElem_cons_succ])
   have CL1 := Lib.hid (CL W2 F2)
   go_simp
   (with_reducible refine CL1.out.mono ?_)
   rintro e W3 ⟨⟨v, rfl, hr⟩, f8⟩
   obtain ⟨ga, gn, gc, rfl⟩ : ∃ ga gn gc, v = .slice ga gn gc := by obtain ⟨a, c, e⟩ := hr.ints.form; exact ⟨a, _, c, e⟩
   have HR : Hid (RowI W3 w.heap.size (.slice ga gn gc) conf) := hr
   clear hr
   have f3 : Hid (FT W2 W3) := f8
   have F3 := Lib.hid (F2.trans f3)
   clear f8 CL1
   refine hK _ _ ?_
   clear hK K'
   have NM := Lib.hid (new_made (b := W3.heap.size) me conf (.slice ga gn gc) W1.heap.size W0.heap.size HH.out.1 HH.out.2.1 HH.out.2.2 F3.out HR.out (f3.out.keep _ _ t3.out trivial) (f3.out.keep _ _ (f2.out.keep _ _ t4.out trivial) trivial) (by have h1 := lt_of_some t4.out; have h2 : W1.heap.size ≤ W1.heap.size := Nat.le_refl _; omega) F1.out.size F0.out.size rfl)
   clear CL MK
   have hbd : ∀ W : World, (Instr.build 39 #[(0, .int .i64 me), (1, .int .i64 (-1)), (3, .int .i64 (-1)), (4, .slice ga gn gc), (10, .slice (some ⟨W1.heap.size, 0, none⟩) 16 16), (11, .slice (some ⟨W0.heap.size, 0, none⟩) 16 16)]).run Try.prog W = .ok (.agg #[.int .i64 me, .int .i64 (-1), .int .i64 0, .int .i64 (-1), .slice ga gn gc, .slice none 0 0, .int .u64 0, .int .u64 0, .int .u64 0, .int .u64 0, .slice none 0 0, .bool false, .slice (some ⟨W1.heap.size, 0, none⟩) 16 16, .slice (some ⟨W0.heap.size, 0, none⟩) 16 16]) W := fun W => run_build W _ _ _ (by kernel_rfl)
   refine wpAny_next 5 (by kernel_rfl) rfl fun K' hK => ?_
   (try simp only [List.getElem_toArray, List.getElem_cons_zero, List.getElem_cons_succ])
   go_simp
   refine hK _ _ ?_
   clear hK K'
   refine wpAny_next 6 (by kernel_rfl) rfl fun K' hK => ?_
   (try simp only [List.getElem_toArray, List.getElem_cons_zero, List.getElem_cons_succ])
   go_simp
   refine hK _ _ ?_
   clear hK K'
   refine wpAny_next 7 (by kernel_rfl) rfl fun K' hK => ?_
   (try simp only [List.getElem_toArray, List.getElem_cons_zero, List.getElem_cons_succ])
   go_simp
   refine hK _ _ ?_
   clear hK K'
   refine wpAny_fin (by kernel_rfl) ?_
   go_wp2
   go_ret
   obtain ⟨X', P', q', n1, n2, n3⟩ := NM
   exact ⟨_, X', P', q', rfl, n1, n2, n3⟩
end Go.Proofs.Ytmjccpfchhnfhaa
