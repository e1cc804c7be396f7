/- Texts of the proofs, part 14: what the functions that they reach do, walked; no conditions beyond those that each states. -/
import Derived.Lib.AppendZerosOnto
import Derived.Test.YtcpbmempfeloaaaDoorZz0f32c87841
set_option linter.unusedVariables false
set_option linter.unusedSimpArgs false
/- 'append(row, make([]byte, m)...)' on a row of the function's own. -/
namespace Go.Proofs.YtcpbmempfeloaaaDoor
open Go.RowKit

theorem zeroCells_bytes (m : Nat) : (Builtin.zeroCells (Value.int .u8 0).cells m) = ((List.replicate m (0 : UInt8)).map byteV).toArray := by
  apply Array.ext
  · simp [Builtin.zeroCells, Value.cells]
  · intro i h1 h2
    simp [Builtin.zeroCells, Value.cells, byteV, Nat.mod_one]

theorem run_append_zeros_own (w : World) (base : Nat) (ty : TypeId) (g n cap : Nat) (xs : List UInt8) (hown : RowB w base (.slice (some ⟨g, 0, none⟩) n cap) n xs) (m : Nat) (hn : n + m ≤ 2000000) (hbase : base ≤ w.heap.size) :
    ∃ g' cap' w', (Builtin.append_ #[33, 3] ty #[.slice (some ⟨g, 0, none⟩) n cap, .int .i64 (m : Nat)]).run Tryd.prog w = .ok (.slice (some ⟨g', 0, none⟩) (n + m) cap') w' ∧ RowB w' base (.slice (some ⟨g', 0, none⟩) (n + m) cap') (n + m) (xs ++ List.replicate m 0) ∧ w.grownBy w' (some g) := by
  obtain ⟨i0, hi, hz0, hz1, hz2⟩ := info_parts info_u8
  obtain ⟨hl, hh⟩ := hown
  rw [Nat.mul_one] at hl
  rcases hh with ⟨e, _⟩ | ⟨g', cap', cur, e, hbg, hg, hnc, hcm, hcs, htake⟩
  · cases e
  cases e
  rw [Nat.mul_one] at hcs
  have hlx : xs.length = n := by simpa using hl
  by_cases h0 : m = 0
  · subst h0
    refine ⟨g, cap, w, ?_, ?_, ⟨rfl, rfl, rfl, Nat.le_refl _, fun _ _ _ => rfl⟩⟩
    · simp [Builtin.append_, run_underlying Tryd.underlying33, run_underlying Tryd.underlying3, sizeOf, typeInfo, hi, asInt, asIntOf, IntKind.wrap_i64, hnc, storeCells]
    · simp only [Nat.add_zero, List.replicate_zero, List.append_nil]
      exact ⟨by rw [List.length_map, Nat.mul_one]; exact hlx, .inr ⟨g, cap, cur, rfl, hbg, hg, hnc, hcm, by rw [Nat.mul_one]; exact hcs, htake⟩⟩
  · by_cases hroom : n + m ≤ cap
    · have hone : ∀ u ∈ (List.replicate m (0 : UInt8)).map byteV, u.oneCell' = true := fun u hu => by
        obtain ⟨x, _, rfl⟩ := List.mem_map.1 hu; rfl
      have hst := run_storeCells_at Tryd.prog g n 5 ((List.replicate m (0 : UInt8)).map byteV) 0 cur w hg (by simp; omega) hone
      simp only [Nat.add_zero] at hst
      have hw : IntKind.i64.wrap (m : Int) = m := by rw [IntKind.wrap_i64]; omega
      have hneg : ¬ ((m : Int) < 0) := by omega
      have h48 : ¬ ((281474976710656 : Int) < (m : Int) * ((1 : Nat) : Int)) := by omega
      refine ⟨g, cap, _, ?_, ⟨?_, .inr ⟨g, cap, _, rfl, hbg, setRow_heap w g cur (cur.toList.take n ++ ((List.replicate m (0 : UInt8)).map byteV) ++ cur.toList.drop (n + ((List.replicate m (0 : UInt8)).map byteV).length)).toArray _ _ hg, hroom, hcm, ?_, ?_⟩⟩, ⟨rfl, rfl, rfl, by simp, fun k _ hk => setRow_other w g k _ (fun e => hk (by rw [e]))⟩⟩
      · have ez := zeroCells_bytes m
        simp [Builtin.append_, run_underlying Tryd.underlying33, run_underlying Tryd.underlying3, sizeOf, typeInfo, zeroValue, hi, hz0, hz1, hz2, asInt, asIntOf, hw, hneg, hroom, h0, Addr.add_lit, ez, show ¬ ((281474976710656 : Int) < m) from by omega] at hst ⊢
        rw [hst]
        rfl
      · simp [hlx]
      · simp only [List.size_toArray, List.length_append, List.length_take, List.length_drop, Array.length_toList, List.length_map, List.length_replicate]
        omega
      · have ht : cur.toList.take n = xs.map byteV := by rw [← htake, Nat.mul_one]
        rw [ht, List.map_append]
        have e2 : (n + m) * 1 = (xs.map byteV ++ (List.replicate m (0 : UInt8)).map byteV).length := by simp [hlx]
        rw [e2]
        exact List.take_left
    · have holds : ∀ j u, (xs.map byteV)[j]? = some u → w.drew.cell? ((⟨g, 0, none⟩ : Addr).add j) = some u := World.ownsRow.cells (w := w.drew) (g := g) (v := .slice (some ⟨g, 0, none⟩) n cap) (n := n) (base := base) (e := 5) (size := 1) ⟨by rw [Nat.mul_one]; exact hl, .inr ⟨g, cap, cur, rfl, hbg, hg, hnc, hcm, by rw [Nat.mul_one]; exact hcs, htake⟩⟩ rfl
      have hf := run_firstCells_some (P := Tryd.prog) w.drew i0.size n ⟨g, 0, none⟩ n cap (xs.map byteV) (by rw [hz1, Nat.mul_one]; exact hl) holds
      have hr := Lib.run_append_grow_zeros (P := Tryd.prog) w 33 3 ty 5 i0 (.int .u8 0) .i64 .i64 Tryd.underlying33 Tryd.underlying3 hi hz0 (some ⟨g, 0, none⟩) n cap (xs.map byteV) hf m (by omega) (by omega) (by omega) (by omega) (by rw [hz2]; omega) (growslice_fits (by omega) (by rw [hz2]; omega))
      have hge := grownCap_ge w (n + m) cap 5
      have hcm' : grownCap w (n + m) cap 5 ≤ maxLen := grownCap_le_maxLen w (n + m) cap 5 (by unfold maxLen; omega)
      refine ⟨w.heap.size, _, _, hr, ⟨by simp [hlx], .inr ⟨w.heap.size, _, _, rfl, hbase, heap_alloc_new w.drew _, hge, hcm', ?_, ?_⟩⟩, ⟨rfl, rfl, rfl, by simp, fun k hk _ => Below.heap_alloc w.drew _ k hk⟩⟩
      · simp only [Array.size_append, List.size_toArray, size_zeroCells, List.length_map, hlx, show (Value.int .u8 0).cells.size = 1 from rfl, Nat.mul_one]
        omega
      · rw [zeroCells_bytes m]
        simp only [Array.toList_append]
        have e2 : (n + m) * 1 = (xs.map byteV ++ (List.replicate m (0 : UInt8)).map byteV).length := by simp [hlx]
        rw [e2, List.map_append]
        exact List.take_left

/-- An append of bytes to a row that is not nil. -/
theorem wpList_append_fs {K0 : Nat → Obj → Prop} {ops : Array Oper} {rest : List Oper} {o : Oper} {a : Act} {Q : Exit → Act → World → Prop} (W0 W : World) (hF : Hid (Fr (fun _ _ => True) W0 W)) (hgd : o.guard = none) (s x : Operand)
    (ho : o.op = .call { callee := .builtin .append, args := #[s, x], argTypes := #[33, 33] }) (ad : Addr) (n c : Nat) (xs : List UInt8) (hs : a.eval s = .slice (some ad) n c) (hown : Hid (RowB W W0.heap.size (.slice (some ad) n c) n xs))
    (vx : Value) (bs : List UInt8) (hx : a.eval x = vx) (hb : Hid (BytesAt K0 W vx bs)) (N : Nat) (r : List UInt8) (hr : Hid (xs ++ bs = r)) (hN : Hid (n + bs.length = N)) (hn : N ≤ 2000000)
    (h : ∀ g' c' w', Hid (RowB w' W0.heap.size (.slice (some ⟨g', 0, none⟩) N c') N r) → Hid (Fr (fun _ _ => True) W0 w') → wpList Tryd.prog ops Q rest (a.put o.dst (.slice (some ⟨g', 0, none⟩) N c')) w') :
    wpList Tryd.prog ops Q (o :: rest) a W := by
  obtain ⟨i0, hi, hz0, hz1, hz2⟩ := info_parts info_u8
  have hr := hr.out
  have hN := hN.out
  subst hr hN
  refine wpList_append_src W hgd s x 33 ho W0.heap.size 5 i0 (.int .u8 0) 1 1 Tryd.underlying33 hi hz0 hz1 hz2 rfl (by decide) _ n (xs.map byteV) hs hown.out vx bs.length (bs.map byteV) hx hb.out.src (by unfold maxLen; omega) (by omega) hF.out.size ?_
  intro v' w' h1 h2 h3
  rw [← List.map_append] at h1
  have h4 := h1.2
  rcases h4 with ⟨rfl, _⟩ | ⟨g', c', _, rfl, _⟩
  · have := (h3.1 rfl).1; cases this
  · exact h g' c' w' h1 (hF.out.grown_new h2 (own_new hown.out))

theorem wpList_append_zeros {ops : Array Oper} {rest : List Oper} {o : Oper} {a : Act} {Q : Exit → Act → World → Prop} (W0 W : World) (hF : Hid (Fr (fun _ _ => True) W0 W)) (hgd : o.guard = none) (s x : Operand)
    (ho : o.op = .call { callee := .builtin .append, args := #[s, x], argTypes := #[33, 3] }) (g cap n : Nat) (xs : List UInt8) (hs : a.eval s = .slice (some ⟨g, 0, none⟩) n cap) (hown : Hid (RowB W W0.heap.size (.slice (some ⟨g, 0, none⟩) n cap) n xs))
    (z : Int) (m : Nat) (hx : a.eval x = .int .i64 z) (hz : z = m) (N : Nat) (r : List UInt8) (hr : Hid (xs ++ List.replicate m 0 = r)) (hN : Hid (n + m = N)) (hn : N ≤ 2000000)
    (h : ∀ a' c' w', Hid (RowB w' W0.heap.size (.slice a' N c') N r) → Hid (Fr (fun _ _ => True) W0 w') → wpList Tryd.prog ops Q rest (a.put o.dst (.slice a' N c')) w') :
    wpList Tryd.prog ops Q (o :: rest) a W := by
  subst hz
  have hr := hr.out
  have hN := hN.out
  subst hr hN
  obtain ⟨g', c', w', h1, h2, h3⟩ := run_append_zeros_own W W0.heap.size o.type g n cap xs hown.out m hn hF.out.size
  exact Lib.wpList_append_run W hgd s x _ _ ho _ _ hs hx _ _ h1 (h _ _ _ h2 (hF.out.grown_new h3 (own_new hown.out)))
end Go.Proofs.YtcpbmempfeloaaaDoor
