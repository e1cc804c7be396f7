/- Texts of the proofs, part 2: what the functions that they reach do, walked; no conditions beyond those that each states. -/
import Derived.Shelf.Small.Bits
import Derived.Shelf.Strconv.Itoa0
import Derived.Ground.Names2Prog
import Derived.Shelf.Slices.Delete
import Derived.Shelf.Spec.SlicesInsert
import Derived.Shelf.Spec.SlicesInsertGrow
import Derived.Test.YtpecpanmdjpoiaaProg
import Derived.Deep.MidRow
import Derived.Test.YtpecpanmdjpoiaaZz488862a5d6
set_option linter.unusedVariables false
set_option linter.unusedSimpArgs false
/- Whether members are a group: the document's Right and the program's. -/
namespace Go.Proofs.Ytpecpanmdjpoiaa
open Go.RowKit
set_option linter.unusedVariables false

theorem rgt_cons (l u : Int) (r : List Int) : rgt l (u :: r) = (decide (l < u) && (decide (u ≤ 15) && rgt u r)) := rfl
theorem rgt_drop (zs : List Int) (k : Nat) (hk : k < zs.length) (l : Int) : rgt l (zs.drop k) = (decide (l < zs[k]) && (decide (zs[k] ≤ 15) && rgt zs[k] (zs.drop (k + 1)))) := by
  rw [List.drop_eq_getElem_cons hk]; rfl
theorem right_some {zs : List Int} (h : 0 < zs.length) : rightQ zs = rgt (-1) zs := by
  unfold rightQ
  cases zs with
  | nil => simp at h
  | cons x r => simp

set_option maxRecDepth 100000 in
theorem rright_nil (w : World) (a : Option Addr) (c : Nat) : Calls Try.prog 10 #[.slice a 0 c] w fun e w' => e = .returned (.bool false) ∧ w = w' := by
  go_enter Try.func10, Try.ntmps10
  go_wp2
  go_loop [4] (fun i => i = .int .i64 0) (fun _ => 0)
  case atStart => exact rfl
  case round =>
    obtain rfl := hrel
    go_wp2
    go_ret
    exact ⟨rfl, rfl⟩
set_option maxRecDepth 100000 in
theorem rright_loop {K : Nat → Obj → Prop} (w : World) (b off c : Nat) (zs : List Int) (h : IntsAt K w (.slice (some ⟨b, off, none⟩) zs.length c) zs) (hm : zs.length ≤ 9223372036854775807) (h0 : 0 < zs.length) :
    Calls Try.prog 10 #[.slice (some ⟨b, off, none⟩) zs.length c] w fun e w' => e = .returned (.bool (rightQ zs)) ∧ w = w' := by
  rw [right_some h0]
  have H := Lib.hid h
  clear h
  obtain ⟨N, hN⟩ : ∃ N, N = zs.length := ⟨_, rfl⟩
  have HN := Lib.hid hN
  rw [← hN] at hm h0 ⊢
  clear hN
  obtain ⟨R, hR⟩ : ∃ R, R = rgt (-1) zs := ⟨_, rfl⟩
  have HR := Lib.hid hR
  rw [← hR]
  clear hR
  go_enter Try.func10, Try.ntmps10
  go_wp2
  go_loop [3, 4] (fun r i => ∃ (k : Nat) (l : Int), k ≤ N ∧ i = .int .i64 k ∧ r = .int .i64 l ∧ R = rgt l (zs.drop k)) (fun _ i => N - (intOf i).toNat)
  case atStart => exact ⟨0, -1, Nat.zero_le _, rfl, rfl, HR.out⟩
  case round =>
    obtain ⟨k, l, hk, rfl, rfl, ht⟩ := hrel
    have HT := Lib.hid ht
    clear ht
    by_cases hlt : k < N
    · have l1 : k < zs.length := by rw [← HN.out]; exact hlt
      have g1 := H.out.cell l1
      have HC := Lib.hid (rgt_drop zs k l1 l)
      generalize hu : zs[k] = u at g1 HC
      clear hu l1
      by_cases c1 : u ≤ l
      · go_wp2
        go_ret
        refine ⟨?_, rfl⟩
        rw [HT.out, HC.out, show decide (l < u) = false from by simp; omega]
        rfl
      · by_cases c2 : u > 15
        · go_wp2
          go_ret
          refine ⟨?_, rfl⟩
          rw [HT.out, HC.out, show decide (u ≤ 15) = false from by simp; omega, Bool.false_and, Bool.and_false]
          rfl
        · go_wp2
          go_round
          case rel =>
            refine ⟨k + 1, u, by omega, by go_num, rfl, ?_⟩
            rw [HT.out, HC.out, show decide (l < u) = true from by simp; omega, show decide (u ≤ 15) = true from by simp; omega]
            rfl
          case measure => simp [intOf]; omega
    · go_wp2
      go_ret
      refine ⟨?_, rfl⟩
      have := HT.out
      rw [List.drop_eq_nil_of_le (by have := HN.out; omega)] at this
      rw [this]
      rfl
theorem rright_calls {K : Nat → Obj → Prop} (w : World) (v : Value) (zs : List Int) (h : IntsAt K w v zs) (hm : zs.length ≤ maxLen) :
    Calls Try.prog 10 #[v] w fun e w' => e = .returned (.bool (rightQ zs)) ∧ w = w' := by
  obtain ⟨a, c, rfl⟩ := h.form
  by_cases h0 : zs.length = 0
  · have e1 := List.length_eq_zero_iff.1 h0
    subst e1
    exact (rright_nil w a c).mono fun e w' ⟨he, hw⟩ => ⟨he, hw⟩
  · obtain ⟨b, off, rfl⟩ := h.addr (by omega)
    exact rright_loop w b off c zs h (by unfold maxLen at hm; omega) (by omega)

set_option maxRecDepth 100000 in
theorem right_nil (w : World) (a : Option Addr) (c : Nat) : Calls Try.prog 15 #[.slice a 0 c] w fun e w' => e = .returned (.bool false) ∧ w = w' := by
  go_enter Try.func15, Try.ntmps15
  go_wp2
  go_loop [7] (fun i => i = .int .i64 0) (fun _ => 0)
  case atStart => exact rfl
  case round =>
    obtain rfl := hrel
    go_wp2
    go_ret
    exact ⟨rfl, rfl⟩
set_option maxRecDepth 100000 in
theorem right_loop {K : Nat → Obj → Prop} (w : World) (b off c : Nat) (zs : List Int) (h : IntsAt K w (.slice (some ⟨b, off, none⟩) zs.length c) zs) (hm : zs.length ≤ 9223372036854775807) (h0 : 0 < zs.length) :
    Calls Try.prog 15 #[.slice (some ⟨b, off, none⟩) zs.length c] w fun e w' => e = .returned (.bool (rightQ zs)) ∧ w = w' := by
  rw [right_some h0]
  have H := Lib.hid h
  clear h
  obtain ⟨N, hN⟩ : ∃ N, N = zs.length := ⟨_, rfl⟩
  have HN := Lib.hid hN
  rw [← hN] at hm h0 ⊢
  clear hN
  obtain ⟨R, hR⟩ : ∃ R, R = rgt (-1) zs := ⟨_, rfl⟩
  have HR := Lib.hid hR
  rw [← hR]
  clear hR
  go_enter Try.func15, Try.ntmps15
  go_wp2
  go_loop [7] (fun i => ∃ (k : Nat) (l : Int), k ≤ N ∧ i = .int .i64 k ∧ -1 ≤ l ∧ (k = 0 → l = -1) ∧ (∀ j, k = j + 1 → ∃ h : j < zs.length, zs[j] = l) ∧ R = rgt l (zs.drop k)) (fun i => N - (intOf i).toNat)
  case atStart => exact ⟨0, -1, Nat.zero_le _, rfl, by omega, fun _ => rfl, fun j h => by omega, HR.out⟩
  case round =>
    obtain ⟨k, l, hk, rfl, hl, hk0, hkj, ht⟩ := hrel
    have HT := Lib.hid ht
    have HK := Lib.hid hk0
    have HJ := Lib.hid hkj
    clear ht hk0 hkj
    by_cases hlt : k < N
    · have l1 : k < zs.length := by rw [← HN.out]; exact hlt
      have g1 := H.out.cell l1
      have HC := Lib.hid (rgt_drop zs k l1 l)
      have HU := Lib.hid (rfl : zs[k] = zs[k])
      generalize hu : zs[k] = u at g1 HC
      have HV : Hid (∀ j, k + 1 = j + 1 → ∃ h : j < zs.length, zs[j] = u) := fun j hj => by
        obtain rfl : k = j := by omega
        exact ⟨l1, hu⟩
      clear hu HU
      by_cases c1 : u < 0
      · go_wp2
        go_ret
        refine ⟨?_, rfl⟩
        rw [HT.out, HC.out, show decide (l < u) = false from by simp; omega]
        rfl
      · by_cases c2 : u ≥ 16
        · go_wp2
          go_ret
          refine ⟨?_, rfl⟩
          rw [HT.out, HC.out, show decide (u ≤ 15) = false from by simp; omega, Bool.false_and, Bool.and_false]
          rfl
        · have e2 : decide (u ≤ 15) = true := by simp; omega
          have E2 := Lib.hid e2
          clear e2
          rcases k with _ | j
          · have hl0 := HK.out rfl
            replace g1 : w.cell? ⟨b, off, none⟩ = some (.int .i64 u) := g1
            go_wp2
            go_round
            case rel =>
              refine ⟨1, u, by omega, by go_num, by omega, fun h => by omega, HV.out, ?_⟩
              rw [HT.out, HC.out, show decide (l < u) = true from by simp; omega, E2.out]
              rfl
            case measure => simp [intOf]; omega
          · obtain ⟨lj, ej⟩ := HJ.out j rfl
            have g2 := H.out.cell lj
            rw [ej] at g2
            clear ej lj
            by_cases c3 : u ≤ l
            · go_wp2
              go_ret
              refine ⟨?_, rfl⟩
              rw [HT.out, HC.out, show decide (l < u) = false from by simp; omega]
              rfl
            · go_wp2
              go_round
              case rel =>
                refine ⟨j + 1 + 1, u, by omega, by go_num, by omega, fun h => by omega, HV.out, ?_⟩
                rw [HT.out, HC.out, show decide (l < u) = true from by simp; omega, E2.out]
                rfl
              case measure => simp [intOf]; omega
    · go_wp2
      go_ret
      refine ⟨?_, rfl⟩
      have := HT.out
      rw [List.drop_eq_nil_of_le (by have := HN.out; omega)] at this
      rw [this]
      rfl
theorem right_calls {K : Nat → Obj → Prop} (w : World) (v : Value) (zs : List Int) (h : IntsAt K w v zs) (hm : zs.length ≤ maxLen) :
    Calls Try.prog 15 #[v] w fun e w' => e = .returned (.bool (rightQ zs)) ∧ w = w' := by
  obtain ⟨a, c, rfl⟩ := h.form
  by_cases h0 : zs.length = 0
  · have e1 := List.length_eq_zero_iff.1 h0
    subst e1
    exact (right_nil w a c).mono fun e w' ⟨he, hw⟩ => ⟨he, hw⟩
  · obtain ⟨b, off, rfl⟩ := h.addr (by omega)
    exact right_loop w b off c zs h (by unfold maxLen at hm; omega) (by omega)
end Go.Proofs.Ytpecpanmdjpoiaa
/- Rows of ints of the function's own: an append; the document's Add and Remove; slices.Clone. -/
namespace Go.Proofs.Ytpecpanmdjpoiaa
open Go.RowKit
set_option linter.unusedVariables false

def intV (x : Int) : Value := .int .i64 x
theorem info_int : (Try.prog.info? 3).map (fun i => (i.zero, i.size, i.bytes)) = some (some (.int .i64 0), 1, 8) := by kernel_rfl
/-- A row of ints of the function's own. -/
def RowI (w : World) (B : Nat) (v : Value) (zs : List Int) : Prop := w.ownsRow B 3 1 v zs.length (zs.map intV)
theorem own_new {w : World} {B : Nat} {v : Value} {n : Nat} {xs : List Value} {e : TypeId} {s : Nat} (h : w.ownsRow B e s v n xs) : ∀ k, v.ownBlock = some k → B ≤ k := by
  intro k hk
  rcases h.2 with ⟨rfl, _⟩ | ⟨g, cap, _, rfl, hg, _⟩
  · cases hk
  · cases hk; exact hg
theorem RowI.tt {w w' : World} {B : Nat} {v : Value} {zs : List Int} (h : RowI w B v zs) (hf : Fr (fun _ _ => True) w w') : RowI w' B v zs := ownsRow_fr h hf fun _ _ _ _ => trivial
theorem RowI.ints {w : World} {B : Nat} {v : Value} {zs : List Int} (h : RowI w B v zs) : IntsAt (fun b _ => B ≤ b) w v zs := by
  obtain ⟨h1, h2⟩ := h
  rcases h2 with ⟨hv, hn⟩ | ⟨g, cap, cur, hv, hg, hh, hn, hc, hs, ht⟩
  · have e := List.length_eq_zero_iff.1 hn
    subst e hv
    exact ⟨_, _, rfl, .inl rfl⟩
  · refine ⟨_, cap, hv, .inr ⟨g, 0, _, rfl, hh, hg, fun i hi => ?_⟩⟩
    have e1 : cur.toList[i]? = (zs.map intV)[i]? := by rw [← ht, List.getElem?_take, if_pos (by omega)]
    have e2 : cur[i]? = some (intV zs[i]) := by rw [← Array.getElem?_toList, e1]; simp [hi]
    rw [Nat.zero_add]
    exact cell_mk hh e2
theorem RowI.nil (w : World) (B : Nat) : RowI w B (.slice none 0 0) [] := ⟨rfl, .inl ⟨rfl, rfl⟩⟩
theorem RowI.form {w : World} {B : Nat} {v : Value} {zs : List Int} (h : RowI w B v zs) : ∃ a c, v = .slice a zs.length c := by
  rcases h.2 with ⟨rfl, e⟩ | ⟨g, cap, _, rfl, _⟩
  · exact ⟨none, 0, by rw [e]⟩
  · exact ⟨_, _, rfl⟩
theorem NumsAt.src {K : Nat → Obj → Prop} {w : World} {v : Value} {zs : List Int} (h : IntsAt K w v zs) (h0 : 0 < zs.length) : SrcAt w 1 v zs.length (zs.map intV) := by
  obtain ⟨a, cap, rfl, h⟩ := h
  rcases h with rfl | ⟨b, off, o, rfl, hb, hk, hc⟩
  · simp at h0
  · refine .inr ⟨_, cap, rfl, by simp, fun j u hu => ?_, fun u hu => ?_⟩
    · have hj : j < zs.length := by
        rcases Nat.lt_or_ge j zs.length with h1 | h1
        · exact h1
        · rw [List.getElem?_eq_none (by simpa using h1)] at hu; cases hu
      have hu' : u = intV zs[j] := by
        rw [List.getElem?_map, List.getElem?_eq_getElem hj] at hu
        exact (Option.some.inj hu).symm
      rw [hu', add_at]
      exact hc j hj
    · obtain ⟨x, _, rfl⟩ := List.mem_map.1 hu
      rfl
theorem NumsAt.lit1 (w : World) (x : Int) : IntsAt (fun _ _ => True) (w.alloc (.cells #[.int .i64 x] 3 (0, 0))) (.slice (some ⟨w.heap.size, 0, none⟩) 1 1) [x] := by
  refine ⟨_, 1, rfl, .inr ⟨w.heap.size, 0, _, rfl, heap_alloc_new _ _, trivial, fun i hi => ?_⟩⟩
  obtain rfl : i = 0 := by simpa using hi
  exact cell_mk (heap_alloc_new _ _) rfl

/-- An append of ints to a row of the function's own. -/
theorem wpList_append_ints {K0 : Nat → Obj → Prop} {ops : Array Oper} {rest : List Oper} {o : Oper} {a : Act} {Q : Exit → Act → World → Prop} (W0 W : World) (hF : Hid (Fr (fun _ _ => True) W0 W)) (hgd : o.guard = none) (s x : Operand)
    (ho : o.op = .call { callee := .builtin .append, args := #[s, x], argTypes := #[22, 22] }) (v : Value) (xs : List Int) (hs : a.eval s = v) (hown : Hid (RowI W W0.heap.size v xs))
    (vx : Value) (bs : List Int) (hx : a.eval x = vx) (hb : Hid (IntsAt K0 W vx bs)) (h0 : 0 < bs.length) (r : List Int) (hr : Hid (xs ++ bs = r)) (hn : r.length ≤ 2000000)
    (h : ∀ a' c' w', Hid (RowI w' W0.heap.size (.slice a' r.length c') r) → Hid (Fr (fun _ _ => True) W0 w') → wpList Try.prog ops Q rest (a.put o.dst (.slice a' r.length c')) w') :
    wpList Try.prog ops Q (o :: rest) a W := by
  obtain ⟨i0, hi, hz0, hz1, hz2⟩ := info_parts info_int
  have hr := hr.out
  subst hr
  rw [List.length_append] at hn
  refine wpList_append_src W hgd s x 22 ho W0.heap.size 3 i0 (.int .i64 0) 1 8 Try.underlying22 hi hz0 hz1 hz2 rfl (by decide) v xs.length (xs.map intV) hs hown.out vx bs.length (bs.map intV) hx (hb.out.src h0) (by unfold maxLen; omega) (by omega) hF.out.size ?_
  intro v' w' h1 h2 _
  rw [← List.map_append, ← List.length_append] at h1
  obtain ⟨a', c', rfl⟩ := RowI.form h1
  exact h a' c' w' h1 (hF.out.grown_new h2 (own_new hown.out))

set_option maxRecDepth 100000 in
theorem clone_ints {K : Nat → Obj → Prop} (w : World) (v : Value) (zs : List Int) (h : IntsAt K w v zs) (h0 : 0 < zs.length) (hm : zs.length ≤ 2000000) :
    Calls Try.prog 32 #[v] w fun e w' => (∃ v, e = .returned v ∧ RowI w' w.heap.size v zs) ∧ Fr (fun _ _ => True) w w' := by
  obtain ⟨a, c, rfl⟩ := h.form
  obtain ⟨b, off, rfl⟩ := h.addr h0
  have hq := fun (w : World) (a : Option Addr) (n c n' c' : Nat) => Lib.run_eql_slice_nil (P := Try.prog) w 22 3 a n c n' c' Try.underlying22
  have hown : Hid (RowI (w.alloc (.cells #[] 3)) w.heap.size (.slice (some ⟨w.heap.size, 0, none⟩) 0 0) []) := World.ownsRow_lit w #[] 0 (Nat.le_refl _) (by simp) rfl
  have hsrc := Lib.hid (h.tt ((Fr.refl _ _).alloc (.cells #[] 3)))
  have HF := Lib.hid ((Fr.refl (fun _ _ => True) w).alloc (.cells #[] 3))
  have H0 := Lib.hid h0
  clear h h0
  go_enter Try.func32, Try.ntmps32
  go_wp2_with (at_builtin; refine wpList_append_ints w _ HF rfl _ _ rfl _ [] rfl hown _ zs rfl hsrc H0.out zs rfl hm ?_)
  intro a1 c1 w1 O1 F1
  go_wp2
  go_ret
  exact ⟨⟨_, rfl, O1.out⟩, F1.out⟩

/-- What the document's Add lays. -/
def refAdd (zs : List Int) (n : Int) (k : Nat) : List Int := ((List.range k).map fun (i : Nat) => (i : Int)).filter fun x => hasI zs x || x == n
theorem refAdd_succ (zs : List Int) (n : Int) (k : Nat) : refAdd zs n (k + 1) = refAdd zs n k ++ (if (hasI zs k || (k : Int) == n) = true then [(k : Int)] else []) := by
  unfold refAdd
  rw [List.range_succ, List.map_append, List.filter_append]
  congr 1
  show List.filter _ [(k : Int)] = _
  rw [List.filter_cons, List.filter_nil]
theorem refAdd_len (zs : List Int) (n : Int) (k : Nat) : (refAdd zs n k).length ≤ k := by
  refine Nat.le_trans (List.length_filter_le _ _) ?_
  simp
def refRem (zs : List Int) (n : Int) (k : Nat) : List Int := (zs.take k).filter fun x => x != n
theorem refRem_succ (zs : List Int) (n : Int) (k : Nat) (hk : k < zs.length) : refRem zs n (k + 1) = refRem zs n k ++ (if (zs[k] != n) = true then [zs[k]] else []) := by
  have e : zs.take (k + 1) = zs.take k ++ [zs[k]] := List.take_succ_eq_append_getElem hk
  unfold refRem
  rw [e, List.filter_append]
  congr 1
  rw [List.filter_cons, List.filter_nil]
theorem refRem_len (zs : List Int) (n : Int) (k : Nat) : (refRem zs n k).length ≤ zs.length := by
  refine Nat.le_trans (List.length_filter_le _ _) ?_
  simp
  omega

set_option maxRecDepth 100000 in
theorem radd_loop {K : Nat → Obj → Prop} (w : World) (v : Value) (zs : List Int) (n : Int) (h : IntsAt K w v zs) (hm : zs.length ≤ maxLen) (hn0 : 0 ≤ n) (hn1 : n ≤ 15) (hi : hasI zs n = false) :
    Calls Try.prog 21 #[v, .int .i64 n] w fun e w' => (∃ v, e = .returned (.tuple #[v, .int .i64 0]) ∧ RowI w' w.heap.size v (refAdd zs n 16)) ∧ Fr (fun _ _ => True) w w' := by
  have HH := fun (w' : World) (x : Int) (hf : Hid (Fr (fun _ _ => True) w w')) => Lib.hid (has_calls w' v zs x (h.tt hf.out) hm)
  have HI := Lib.hid hi
  clear h hm hi
  go_enter Try.func21, Try.ntmps21
  go_wp2_with fail
  with_reducible refine (HH w n (Lib.hid (Fr.refl _ _))).out.mono ?_
  rintro e1 w1 ⟨rfl, rfl⟩
  rw [HI.out]
  go_wp2
  go_loopw [7, 8] (fun o i wr => ∃ (k : Nat), k ≤ 16 ∧ i = .int .i64 k ∧ RowI wr w.heap.size o (refAdd zs n k) ∧ Fr (fun _ _ => True) w wr) (fun _ i _ => 16 - (intOf i).toNat)
  case atStart => exact ⟨0, Nat.zero_le _, rfl, RowI.nil _ _, Fr.refl _ _⟩
  case round =>
    obtain ⟨k, hk, rfl, ho, hf⟩ := hrel
    have HO := Lib.hid ho
    have HF := Lib.hid hf
    clear ho hf
    obtain ⟨a, c, rfl⟩ := HO.out.form
    by_cases hlt : k < 16
    · have HL := Lib.hid (refAdd_succ zs n k)
      have HN := Lib.hid (refAdd_len zs n (k + 1))
      go_wp2_with fail
      with_reducible refine (HH wr k HF).out.mono ?_
      rintro e1 w1 ⟨rfl, rfl⟩
      generalize hb : hasI zs (k : Int) = bb at HL
      clear hb
      generalize hlen : (refAdd zs n k).length = ln
      by_cases hx : (bb || (k : Int) == n) = true
      · have HL2 : Hid (refAdd zs n k ++ [(k : Int)] = refAdd zs n (k + 1)) := by
          have := HL.out; rw [if_pos hx] at this; exact this.symm
        have HO2 := Lib.hid (HO.out.tt ((Fr.refl _ _).alloc (.cells #[.int .i64 (k : Int)] 3 (0, 0))))
        rw [hlen] at HO2
        have HF2 := Lib.hid (HF.out.alloc (.cells #[.int .i64 (k : Int)] 3 (0, 0)))
        have HX := Lib.hid (NumsAt.lit1 wr k)
        cases bb
        · have hkn : ((k : Int) == n) = true := by simpa using hx
          clear hx HL hlen
          go_wp2_with (at_builtin; refine wpList_append_ints w _ HF2 rfl _ _ rfl _ _ rfl HO2 _ _ rfl HX Nat.zero_lt_one _ HL2 (by have := HN.out; omega) ?_)
          intro a1 c1 w1 O1 F1
          go_wp2
          go_roundw
          case rel => exact ⟨k + 1, by omega, by go_num, O1.out, F1.out⟩
          case measure => simp [intOf]; omega
        · clear hx HL hlen
          go_wp2_with (at_builtin; refine wpList_append_ints w _ HF2 rfl _ _ rfl _ _ rfl HO2 _ _ rfl HX Nat.zero_lt_one _ HL2 (by have := HN.out; omega) ?_)
          intro a1 c1 w1 O1 F1
          go_wp2
          go_roundw
          case rel => exact ⟨k + 1, by omega, by go_num, O1.out, F1.out⟩
          case measure => simp [intOf]; omega
      · have HL2 : Hid (refAdd zs n (k + 1) = refAdd zs n k) := by
          have := HL.out; rw [if_neg hx, List.append_nil] at this; exact this
        obtain rfl : bb = false := by cases bb <;> simp_all
        have hkn : ((k : Int) == n) = false := by simpa using hx
        have HW := Lib.hid hlen
        clear hx HL hlen
        go_wp2
        go_roundw
        case rel => exact ⟨k + 1, by omega, by go_num, by rw [HL2.out]; exact HW.out ▸ HO.out, HF.out⟩
        case measure => simp [intOf]; omega
    · obtain rfl : k = 16 := by omega
      go_wp2
      go_ret2
      exact ⟨⟨_, rfl, HO.out⟩, HF.out⟩
end Go.Proofs.Ytpecpanmdjpoiaa
/- The document's Add and Remove. -/
namespace Go.Proofs.Ytpecpanmdjpoiaa
open Go.RowKit
set_option linter.unusedVariables false

/-- A slice of ints, behind a call: the one that came in, or a new row. -/
def Out (w w' : World) (v0 : Value) (same : Bool) (v : Value) (zs : List Int) : Prop := if same = true then v = v0 else RowI w' w.heap.size v zs
set_option maxRecDepth 100000 in
theorem radd_node (w : World) (v : Value) (n : Int) (hn : n < 0 ∨ 15 < n) : Calls Try.prog 21 #[v, .int .i64 n] w fun e w' => e = .returned (.tuple #[v, .int .i64 31]) ∧ w = w' := by
  go_enter Try.func21, Try.ntmps21
  rcases hn with hn | hn <;>
  · go_wp2
    go_ret2
    exact ⟨rfl, rfl⟩
set_option maxRecDepth 100000 in
theorem radd_in {K : Nat → Obj → Prop} (w : World) (v : Value) (zs : List Int) (n : Int) (h : IntsAt K w v zs) (hm : zs.length ≤ maxLen) (hn0 : 0 ≤ n) (hn1 : n ≤ 15) (hi : hasI zs n = true) : Calls Try.prog 21 #[v, .int .i64 n] w fun e w' => e = .returned (.tuple #[v, .int .i64 1]) ∧ w = w' := by
  have HH := Lib.hid (has_calls w v zs n h hm)
  have HI := Lib.hid hi
  clear h hm hi
  go_enter Try.func21, Try.ntmps21
  go_wp2_with fail
  with_reducible refine HH.out.mono ?_
  rintro e1 w1 ⟨rfl, rfl⟩
  rw [HI.out]
  go_wp2
  go_ret2
  exact ⟨rfl, rfl⟩
set_option maxRecDepth 100000 in
theorem rrem_none {K : Nat → Obj → Prop} (w : World) (v : Value) (zs : List Int) (n : Int) (h : IntsAt K w v zs) (hm : zs.length ≤ maxLen) (hi : hasI zs n = false) : Calls Try.prog 23 #[v, .int .i64 n] w fun e w' => e = .returned (.tuple #[v, .int .i64 41]) ∧ w = w' := by
  have HH := Lib.hid (has_calls w v zs n h hm)
  have HI := Lib.hid hi
  clear h hm hi
  go_enter Try.func23, Try.ntmps23
  go_wp2_with fail
  with_reducible refine HH.out.mono ?_
  rintro e1 w1 ⟨rfl, rfl⟩
  rw [HI.out]
  go_wp2
  go_ret2
  exact ⟨rfl, rfl⟩
set_option maxRecDepth 100000 in
theorem rrem_one {K : Nat → Obj → Prop} (w : World) (v : Value) (zs : List Int) (n : Int) (h : IntsAt K w v zs) (hm : zs.length = 1) (hi : hasI zs n = true) : Calls Try.prog 23 #[v, .int .i64 n] w fun e w' => e = .returned (.tuple #[v, .int .i64 1]) ∧ w = w' := by
  have HH := Lib.hid (has_calls w v zs n h (by unfold maxLen; omega))
  have HI := Lib.hid hi
  obtain ⟨a, c, rfl⟩ := h.form
  rw [hm] at HH ⊢
  clear h hm hi
  go_enter Try.func23, Try.ntmps23
  go_wp2_with fail
  with_reducible refine HH.out.mono ?_
  rintro e1 w1 ⟨rfl, rfl⟩
  rw [HI.out]
  go_wp2
  go_ret2
  exact ⟨rfl, rfl⟩
set_option maxRecDepth 100000 in
theorem rrem_loop {K : Nat → Obj → Prop} (w : World) (b off c : Nat) (zs : List Int) (n : Int) (h : IntsAt K w (.slice (some ⟨b, off, none⟩) zs.length c) zs) (hm : zs.length ≤ 2000000) (h1 : zs.length ≠ 1) (hi : hasI zs n = true) :
    Calls Try.prog 23 #[.slice (some ⟨b, off, none⟩) zs.length c, .int .i64 n] w fun e w' => (∃ v, e = .returned (.tuple #[v, .int .i64 0]) ∧ RowI w' w.heap.size v (refRem zs n zs.length)) ∧ Fr (fun _ _ => True) w w' := by
  have HH := Lib.hid (has_calls w _ zs n h (by unfold maxLen; omega))
  have HI := Lib.hid hi
  have H := Lib.hid h
  have HZ := Lib.hid hm
  obtain ⟨N, hN⟩ : ∃ N, N = zs.length := ⟨_, rfl⟩
  have HN := Lib.hid hN
  rw [← hN] at hm h1 HH ⊢
  clear h hi hN
  have h1' : ((N : Int) == 1) = false := by simp; omega
  go_enter Try.func23, Try.ntmps23
  go_wp2_with fail
  with_reducible refine HH.out.mono ?_
  rintro e1 w1 ⟨rfl, rfl⟩
  rw [HI.out]
  clear HH
  go_wp2
  go_loopw [7, 8] (fun o i wr => ∃ (k : Nat), k ≤ N ∧ i = .int .i64 k ∧ RowI wr w.heap.size o (refRem zs n k) ∧ Fr (fun _ _ => True) w wr) (fun _ i _ => N - (intOf i).toNat)
  case atStart => exact ⟨0, Nat.zero_le _, rfl, RowI.nil _ _, Fr.refl _ _⟩
  case round =>
    obtain ⟨k, hk, rfl, ho, hf⟩ := hrel
    have HO := Lib.hid ho
    have HF := Lib.hid hf
    clear ho hf
    obtain ⟨a, c', rfl⟩ := HO.out.form
    by_cases hlt : k < N
    · have l1 : k < zs.length := by rw [← HN.out]; exact hlt
      have g1 := (H.out.tt HF.out).cell l1
      have HL := Lib.hid (refRem_succ zs n k l1)
      have HR := Lib.hid (refRem_len zs n (k + 1))
      generalize hu : zs[k] = u at g1 HL
      clear hu l1
      generalize hlen : (refRem zs n k).length = ln
      have HW := Lib.hid hlen
      by_cases hx : (u != n) = true
      · have HL2 : Hid (refRem zs n k ++ [u] = refRem zs n (k + 1)) := by
          have := HL.out; rw [if_pos hx] at this; exact this.symm
        have HO2 := Lib.hid (HO.out.tt ((Fr.refl _ _).alloc (.cells #[.int .i64 u] 3 (0, 0))))
        rw [hlen] at HO2
        have HF2 := Lib.hid (HF.out.alloc (.cells #[.int .i64 u] 3 (0, 0)))
        have HX := Lib.hid (NumsAt.lit1 wr u)
        clear HL hlen
        go_wp2_with (at_builtin; refine wpList_append_ints w _ HF2 rfl _ _ rfl _ _ rfl HO2 _ _ rfl HX Nat.zero_lt_one _ HL2 (by have := HR.out; have := HZ.out; omega) ?_)
        intro a1 c1 w1 O1 F1
        go_wp2
        go_roundw
        case rel => exact ⟨k + 1, by omega, by go_num, O1.out, F1.out⟩
        case measure => simp [intOf]; omega
      · have HL2 : Hid (refRem zs n (k + 1) = refRem zs n k) := by
          have := HL.out; rw [if_neg hx, List.append_nil] at this; exact this
        have hx' : (u != n) = false := by simpa using hx
        clear hx HL hlen
        go_wp2
        go_roundw
        case rel => exact ⟨k + 1, by omega, by go_num, by rw [HL2.out]; exact HW.out ▸ HO.out, HF.out⟩
        case measure => simp [intOf]; omega
    · obtain rfl : k = N := by omega
      go_wp2
      go_ret2
      exact ⟨⟨_, rfl, HN.out ▸ HO.out⟩, HF.out⟩
end Go.Proofs.Ytpecpanmdjpoiaa
/- slices.BinarySearch of ints that go up. -/
namespace Go.Proofs.Ytpecpanmdjpoiaa
open Go.RowKit
set_option linter.unusedVariables false

/-- Where a number stands or would stand. -/
theorem pos_of {zs : List Int} {n : Int} {k : Nat} (hk : k ≤ zs.length) (h1 : ∀ j, (h : j < zs.length) → j < k → zs[j] < n) (h2 : ∀ j, (h : j < zs.length) → k ≤ j → n ≤ zs[j]) : pos zs n = k := by
  induction zs generalizing k with
  | nil => simp at hk; subst hk; rfl
  | cons x r ih =>
    unfold pos
    rcases k with _ | k
    · rw [List.countP_eq_zero]
      intro y hy
      obtain ⟨i, hi, rfl⟩ := List.mem_iff_getElem.1 hy
      have := h2 i hi (Nat.zero_le _)
      simpa using this
    · have hx : x < n := h1 0 (by simp) (by omega)
      rw [List.countP_cons_of_pos (by simpa using hx)]
      have := ih (k := k) (by simpa using hk) (fun j h hj => h1 (j + 1) (by simpa using h) (by omega)) (fun j h hj => h2 (j + 1) (by simpa using h) (by omega))
      unfold pos at this
      rw [this]
theorem hasI_at {zs : List Int} {n : Int} {k : Nat} (hp : zs.Pairwise (· < ·)) (h1 : ∀ j, (h : j < zs.length) → j < k → zs[j] < n) (h2 : ∀ j, (h : j < zs.length) → k ≤ j → n ≤ zs[j]) (hk : k < zs.length) : hasI zs n = (zs[k] == n) := by
  rw [Bool.eq_iff_iff, hasI_mem]
  constructor
  · intro h
    obtain ⟨i, hi, e⟩ := List.mem_iff_getElem.1 h
    rcases Nat.lt_trichotomy i k with q | q | q
    · have := h1 i hi q; omega
    · subst q; simpa using e
    · have a := h2 k hk (Nat.le_refl _)
      have b := List.pairwise_iff_getElem.1 hp k i hk hi q
      omega
  · intro h
    have h : zs[k] = n := by simpa using h
    exact h ▸ List.getElem_mem hk
theorem hasI_end {zs : List Int} {n : Int} (h1 : ∀ j, (h : j < zs.length) → zs[j] < n) : hasI zs n = false := by
  cases h : hasI zs n with
  | false => rfl
  | true =>
    obtain ⟨i, hi, e⟩ := List.mem_iff_getElem.1 (hasI_mem.1 h)
    have := h1 i hi; omega

set_option maxRecDepth 100000 in
set_option maxHeartbeats 1000000 in
theorem search_calls {K : Nat → Obj → Prop} (w : World) (b off c : Nat) (zs : List Int) (n : Int) (h : IntsAt K w (.slice (some ⟨b, off, none⟩) zs.length c) zs) (hm : zs.length ≤ 2000000) (hp : zs.Pairwise (· < ·)) :
    Calls Try.prog 30 #[.slice (some ⟨b, off, none⟩) zs.length c, .int .i64 n] w fun e w' => e = .returned (.tuple #[.int .i64 (pos zs n : Nat), .bool (hasI zs n)]) ∧ w = w' := by
  have H := Lib.hid h
  have HP := Lib.hid hp
  obtain ⟨N, hN⟩ : ∃ N, N = zs.length := ⟨_, rfl⟩
  have HN := Lib.hid hN
  rw [← hN] at hm ⊢
  clear h hp hN
  go_enter Try.func30, Try.ntmps30
  go_wp2
  go_loop [7, 8] (fun i j => ∃ p q : Nat, p ≤ q ∧ q ≤ N ∧ i = .int .i64 p ∧ j = .int .i64 q ∧ (∀ m, (h : m < zs.length) → m < p → zs[m] < n) ∧ (∀ m, (h : m < zs.length) → q ≤ m → n ≤ zs[m])) (fun i j => (intOf j).toNat - (intOf i).toNat)
  case atStart => exact ⟨0, N, Nat.zero_le _, Nat.le_refl _, rfl, rfl, fun m _ hm => by omega, fun m h hm => by have := HN.out; omega⟩
  case round =>
    obtain ⟨p, q, hpq, hqN, rfl, rfl, hl, hr⟩ := hrel
    have HL := Lib.hid hl
    have HR := Lib.hid hr
    clear hl hr
    by_cases hlt : p < q
    · obtain ⟨m, hmm⟩ : ∃ m : Nat, m = (p + q) / 2 := ⟨_, rfl⟩
      have hm1 : p ≤ m := by omega
      have hm2 : m < q := by omega
      have l1 : m < zs.length := by rw [← HN.out]; omega
      have e1 : ((p : Int) + q) / 2 = (m : Nat) := by omega
      have e2 : ((p : Int) + q) % 18446744073709551616 = (p : Int) + q := by omega
      have e3 : ((m : Nat) : Int) % 18446744073709551616 = (m : Nat) := by omega
      have g1 := H.out.cell l1
      generalize hu : zs[m] = u at g1
      have HU : Hid (∃ h : m < zs.length, zs[m] = u) := ⟨l1, hu⟩
      clear hu l1 hmm
      by_cases hx : u < n
      · go_wp2
        go_round
        case rel =>
          refine ⟨m + 1, q, by omega, hqN, by go_num, rfl, fun j hj hjm => ?_, HR.out⟩
          obtain ⟨L1, EU⟩ := HU.out
          by_cases hjm' : j = m
          · subst hjm'; rw [EU]; exact hx
          · have := List.pairwise_iff_getElem.1 HP.out j m hj L1 (by omega)
            rw [EU] at this
            omega
        case measure => simp [intOf]; omega
      · go_wp2
        go_round
        case rel =>
          refine ⟨p, m, by omega, by omega, rfl, rfl, HL.out, fun j hj hjm => ?_⟩
          obtain ⟨L1, EU⟩ := HU.out
          by_cases hjm' : j = m
          · subst hjm'; rw [EU]; omega
          · have := List.pairwise_iff_getElem.1 HP.out m j L1 hj (by omega)
            rw [EU] at this
            omega
        case measure => simp [intOf]; omega
    · obtain rfl : p = q := by omega
      have HE := Lib.hid (pos_of (by rw [← HN.out]; exact hqN) HL.out HR.out)
      by_cases hq : p < N
      · have l1 : p < zs.length := by rw [← HN.out]; omega
        have g1 := H.out.cell l1
        have HA := Lib.hid (hasI_at HP.out HL.out HR.out l1)
        generalize hu : zs[p] = u at g1 HA
        clear hu l1
        by_cases hx : (u == n) = true
        · go_wp2
          go_ret2
          refine ⟨?_, rfl⟩
          rw [HE.out, HA.out, hx]
          rfl
        · have hx' : (u == n) = false := by simpa using hx
          clear hx
          go_wp2
          go_ret2
          refine ⟨?_, rfl⟩
          rw [HE.out, HA.out, hx']
          rfl
      · have HA := Lib.hid (hasI_end (zs := zs) (n := n) fun j hj => HL.out j hj (by have := HN.out; omega))
        go_wp2
        go_ret2
        refine ⟨?_, rfl⟩
        rw [HE.out, HA.out]
        rfl
end Go.Proofs.Ytpecpanmdjpoiaa
/-
  DERIVED: THE SHELF's CONTRACTS AT THIS DUMP, IN PLAIN WORDS (tools/lay-plain.mjs out of 'YtpecpanmdjpoiaaShelf.lean', which tools/lay-shelf.mjs wrote): THE SAME DECLARATIONS UNDER THE SAME NAMES: 'import', 'namespace', 'open', 'def', 'theorem' AND NOTHING ELSE: no command of the shelf's: FOR A HAND-IN. Each laying: the table of numbers ('.._ren') and one theorem, a field a fact of the dump's own or the kernel's comparison; each contract: ONE APPLICATION.
-/
namespace Go.Proofs
open Go.Shelf
def Try.lays125_ren : Go.Shelf.Ren := ⟨fun | 125 => 36 | 128 => 51 | 129 => 52 | n => n, fun | 46 => 48 | 3 => 3 | 51 => 62 | 53 => 27 | 4 => 4 | 5 => 5 | 9 => 9 | n => n, fun | n => n⟩
theorem Try.lays125 : Go.Proofs.Lays.n125 Try.prog Try.lays125_ren := {
  mixed := by kernel_rfl
  f125 := Try.func36.trans (congrArg some (by kernel_rfl))
  f128 := Try.func51.trans (congrArg some (by kernel_rfl))
  f129 := Try.func52.trans (congrArg some (by kernel_rfl))
  t3 := Try.underlying3
  a3 := Try.isAgg3
  z3 := Try.sizeOf3
  v3 := Try.zeroValue3
  t4 := Try.underlying4
  a4 := Try.isAgg4
  z4 := Try.sizeOf4
  v4 := Try.zeroValue4
  t5 := Try.underlying5
  a5 := Try.isAgg5
  z5 := Try.sizeOf5
  v5 := Try.zeroValue5
  t9 := Try.underlying9
  a9 := Try.isAgg9
  z9 := Try.sizeOf9
  v9 := Try.zeroValue9
  t46 := Try.underlying48
  a46 := Try.isAgg48
  z46 := Try.sizeOf48
  v46 := Try.zeroValue48
  t51 := Try.underlying62
  a51 := Try.isAgg62
  z51 := Try.sizeOf62
  v51 := Try.zeroValue62
  t53 := Try.underlying27
  a53 := Try.isAgg27
  z53 := Try.sizeOf27
  v53 := Try.zeroValue27 }
def Try.lays21_ren : Go.Shelf.Ren := ⟨fun | 21 => 31 | 27 => 39 | 28 => 40 | 35 => 54 | 39 => 61 | n => n, fun | 22 => 22 | 3 => 3 | 4 => 4 | 0 => 0 | n => n, fun | n => n⟩
theorem Try.lays21 : Go.Proofs.Lays2.n21 Try.prog Try.lays21_ren := {
  mixed := by kernel_rfl
  f21 := Try.func31.trans (congrArg some (by kernel_rfl))
  f27 := Try.func39.trans (congrArg some (by kernel_rfl))
  f28 := Try.func40.trans (congrArg some (by kernel_rfl))
  f35 := Try.func54.trans (congrArg some (by kernel_rfl))
  f39 := Try.func61.trans (congrArg some (by kernel_rfl))
  t0 := Try.underlying0
  a0 := Try.isAgg0
  z0 := Try.sizeOf0
  v0 := Try.zeroValue0
  t3 := Try.underlying3
  a3 := Try.isAgg3
  z3 := Try.sizeOf3
  v3 := Try.zeroValue3
  t4 := Try.underlying4
  a4 := Try.isAgg4
  z4 := Try.sizeOf4
  v4 := Try.zeroValue4
  t22 := Try.underlying22
  a22 := Try.isAgg22
  z22 := Try.sizeOf22
  v22 := Try.zeroValue22
  i3 := by kernel_rfl }
def Try.lays23_ren : Go.Shelf.Ren := ⟨fun | 23 => 33 | n => n, fun | 22 => 22 | 3 => 3 | 4 => 4 | 0 => 0 | n => n, fun | n => n⟩
theorem Try.lays23 : Go.Proofs.Lays2.n23 Try.prog Try.lays23_ren := {
  mixed := by kernel_rfl
  f23 := Try.func33.trans (congrArg some (by kernel_rfl))
  t0 := Try.underlying0
  a0 := Try.isAgg0
  z0 := Try.sizeOf0
  v0 := Try.zeroValue0
  t3 := Try.underlying3
  a3 := Try.isAgg3
  z3 := Try.sizeOf3
  v3 := Try.zeroValue3
  t4 := Try.underlying4
  a4 := Try.isAgg4
  z4 := Try.sizeOf4
  v4 := Try.zeroValue4
  t22 := Try.underlying22
  a22 := Try.isAgg22
  z22 := Try.sizeOf22
  v22 := Try.zeroValue22
  i3 := by kernel_rfl }
end Go.Proofs
/- slices.Insert of one int into a row of the function's own, off the kit's shelf. -/
namespace Go.Proofs.Ytpecpanmdjpoiaa
open Go.RowKit
set_option linter.unusedVariables false

theorem heap_setCells_ne (vs : List Value) : ∀ {w : World} {g o k : Nat}, k ≠ g → (w.setCells g o vs).heap[k]? = w.heap[k]? := by
  induction vs with
  | nil => intro w g o k h; rfl
  | cons v vs ih => intro w g o k h; exact (ih h).trans (heap_setCell_ne h v)
theorem Fr.setCells {K : Nat → Obj → Prop} {a w : World} (h : Fr K a w) {g : Nat} (hp : ∀ o, a.heap[g]? = some o → ¬ K g o) (o : Nat) (vs : List Value) : Fr K a (w.setCells g o vs) := by
  induction vs generalizing w o with
  | nil => exact h
  | cons v vs ih => exact ih (h.setCell (p := ⟨g, o, none⟩) hp v) (o + 1)
theorem NumsAt.mk' {q : IntKind} {K : Nat → Obj → Prop} {w : World} {g off c : Nat} {zs : List Int} (hK : ∀ o, K g o) (h : ∀ k u, zs[k]? = some u → w.cell? ⟨g, off + k, none⟩ = some (.int q u)) : NumsAt q K w (.slice (some ⟨g, off, none⟩) zs.length c) zs := by
  refine ⟨_, c, rfl, ?_⟩
  cases hz : zs with
  | nil => exact .inl rfl
  | cons x r =>
    rw [← hz]
    have h0 := h 0 x (by rw [hz]; rfl)
    have hl : g < w.heap.size := cell_lt h0
    refine .inr ⟨g, off, w.heap[g], rfl, Array.getElem?_eq_getElem hl, hK _, fun i hi => h i _ (List.getElem?_eq_getElem hi)⟩

/-- A list with one more at a place. -/
def insI (zs : List Int) (i : Nat) (x : Int) : List Int := zs.take i ++ x :: zs.drop i
theorem insI_len (zs : List Int) (i : Nat) (x : Int) : (insI zs i x).length = zs.length + 1 := by
  unfold insI; simp; omega
theorem insI_lo (zs : List Int) (i : Nat) (x : Int) (hi : i ≤ zs.length) (k : Nat) (hk : k < i) : (insI zs i x)[k]? = zs[k]? := by
  unfold insI
  rw [List.getElem?_append_left (by simp; omega), List.getElem?_take, if_pos hk]
theorem insI_at (zs : List Int) (i : Nat) (x : Int) (hi : i ≤ zs.length) : (insI zs i x)[i]? = some x := by
  unfold insI
  rw [List.getElem?_append_right (by simp; omega)]
  have : i - (zs.take i).length = 0 := by simp; omega
  rw [this]; rfl
theorem insI_hi (zs : List Int) (i : Nat) (x : Int) (hi : i ≤ zs.length) (j : Nat) : (insI zs i x)[i + 1 + j]? = zs[i + j]? := by
  unfold insI
  rw [List.getElem?_append_right (by simp; omega)]
  have : i + 1 + j - (zs.take i).length = j + 1 := by simp; omega
  rw [this, List.getElem?_cons_succ, List.getElem?_drop]

theorem drop_at (zs : List Int) (i j : Nat) (hj : j < (zs.map intV).length - i) : ((zs.map intV).drop i)[j]? = (zs[i + j]?).map intV := by
  rw [List.getElem?_drop, List.getElem?_map]

/-- Cells behind two copies: what stood ahead, one more, what stood behind. -/
theorem ins_cells {W : World} {g i : Nat} {zs : List Int} {x : Int} {w' : World} (hi : i ≤ zs.length)
    (lo : ∀ k, k < i → w'.cell? ⟨g, k, none⟩ = (zs[k]?).map intV) (at' : w'.cell? ⟨g, i, none⟩ = some (intV x)) (hi' : ∀ j, i + j < zs.length → w'.cell? ⟨g, i + 1 + j, none⟩ = (zs[i + j]?).map intV)
    {K : Nat → Obj → Prop} (hK : ∀ o, K g o) (c : Nat) : IntsAt K w' (.slice (some ⟨g, 0, none⟩) (zs.length + 1) c) (insI zs i x) := by
  rw [← insI_len zs i x]
  refine NumsAt.mk' hK fun k u hu => ?_
  rw [Nat.zero_add]
  rcases Nat.lt_trichotomy k i with q | q | q
  · rw [insI_lo zs i x hi k q] at hu
    rw [lo k q, hu]; rfl
  · subst q
    rw [insI_at zs k x hi] at hu
    cases hu; exact at'
  · obtain ⟨j, rfl⟩ : ∃ j, k = i + 1 + j := ⟨k - i - 1, by omega⟩
    rw [insI_hi zs i x hi j] at hu
    have hl : i + j < zs.length := by
      rcases Nat.lt_or_ge (i + j) zs.length with h | h
      · exact h
      · rw [List.getElem?_eq_none h] at hu; cases hu
    rw [hi' j hl, hu]; rfl

theorem isSome_drew {w : World} {p : Addr} : w.drew.cell? p = w.cell? p := rfl
/-- Two copies, the later part first. -/
theorem two_hi {W : World} {g i : Nat} {zs : List Int} {x : Int} (hi : i ≤ zs.length) (hs : ∀ k, k < zs.length + 1 → (W.cell? ⟨g, k, none⟩).isSome = true) (hc : ∀ k, k < i → W.cell? ⟨g, k, none⟩ = (zs[k]?).map intV) :
    ∀ w', w' = (W.setCells g (i + 1) ((zs.map intV).drop i)).setCells g i [intV x] →
      (∀ k, k < i → w'.cell? ⟨g, k, none⟩ = (zs[k]?).map intV) ∧ w'.cell? ⟨g, i, none⟩ = some (intV x) ∧ ∀ j, i + j < zs.length → w'.cell? ⟨g, i + 1 + j, none⟩ = (zs[i + j]?).map intV := by
  intro w' hw
  subst hw
  have hs1 : ∀ k, k < zs.length + 1 → ((W.setCells g (i + 1) ((zs.map intV).drop i)).cell? ⟨g, k, none⟩).isSome = true := fun k hk => World.isSome_setCells g _ _ W _ (hs k hk)
  refine ⟨fun k hk => ?_, ?_, fun j hj => ?_⟩
  · rw [World.cell?_setCells_out _ _ _ _ _ (fun _ _ => .inl hk), World.cell?_setCells_out _ _ _ _ _ (fun _ _ => .inl (by show k < i + 1; omega))]
    exact hc k hk
  · have := World.cell?_setCells_in g [intV x] i (W.setCells g (i + 1) ((zs.map intV).drop i)) (fun j hj => by
      obtain rfl : j = 0 := by simpa using hj
      exact hs1 i (by omega)) 0 (by simp)
    simpa using this
  · rw [World.cell?_setCells_out _ _ _ _ _ (fun _ _ => .inr (by show i + 1 ≤ i + 1 + j; omega))]
    have hj' : j < ((zs.map intV).drop i).length := by simp; omega
    have := World.cell?_setCells_in g ((zs.map intV).drop i) (i + 1) W (fun j hj => hs _ (by simp at hj; omega)) j hj'
    rw [this, ← List.getElem?_eq_getElem hj', List.getElem?_drop, List.getElem?_map]
/-- Two copies, the one first. -/
theorem two_lo {W : World} {g i : Nat} {zs : List Int} {x : Int} (hi : i ≤ zs.length) (hs : ∀ k, k < zs.length + 1 → (W.cell? ⟨g, k, none⟩).isSome = true) (hc : ∀ k, k < i → W.cell? ⟨g, k, none⟩ = (zs[k]?).map intV) :
    ∀ w', w' = ((W.setCells g i [intV x]).drew).setCells g (i + 1) ((zs.map intV).drop i) →
      (∀ k, k < i → w'.cell? ⟨g, k, none⟩ = (zs[k]?).map intV) ∧ w'.cell? ⟨g, i, none⟩ = some (intV x) ∧ ∀ j, i + j < zs.length → w'.cell? ⟨g, i + 1 + j, none⟩ = (zs[i + j]?).map intV := by
  intro w' hw
  subst hw
  have hs1 : ∀ k, k < zs.length + 1 → ((W.setCells g i [intV x]).cell? ⟨g, k, none⟩).isSome = true := fun k hk => World.isSome_setCells g _ _ W _ (hs k hk)
  refine ⟨fun k hk => ?_, ?_, fun j hj => ?_⟩
  · rw [World.cell?_setCells_out _ _ _ _ _ (fun _ _ => .inl (by show k < i + 1; omega)), isSome_drew, World.cell?_setCells_out _ _ _ _ _ (fun _ _ => .inl hk)]
    exact hc k hk
  · rw [World.cell?_setCells_out _ _ _ _ _ (fun _ _ => .inl (by show i < i + 1; omega)), isSome_drew]
    have := World.cell?_setCells_in g [intV x] i W (fun j hj => by
      obtain rfl : j = 0 := by simpa using hj
      exact hs i (by omega)) 0 (by simp)
    simpa using this
  · have hj' : j < ((zs.map intV).drop i).length := by simp; omega
    have := World.cell?_setCells_in g ((zs.map intV).drop i) (i + 1) ((W.setCells g i [intV x]).drew) (fun j hj => hs1 _ (by simp at hj; omega)) j hj'
    rw [this, ← List.getElem?_eq_getElem hj', List.getElem?_drop, List.getElem?_map]

theorem zeros_size (m : Nat) : (Builtin.zeroCells (Value.int .i64 0).cells m).size = m := by simp [Builtin.zeroCells, Value.cells]
/-- What a row of the function's own is. -/
theorem RowI.parts {w : World} {B : Nat} {v : Value} {zs : List Int} (h : RowI w B v zs) (h0 : 0 < zs.length) : ∃ g cap cur, v = .slice (some ⟨g, 0, none⟩) zs.length cap ∧ B ≤ g ∧ w.heap[g]? = some (.cells cur 3 (0, 0)) ∧ zs.length ≤ cap ∧ cap ≤ maxLen ∧ cur.size = cap ∧ ∀ k, k < zs.length → w.cell? ⟨g, k, none⟩ = (zs[k]?).map intV := by
  obtain ⟨h1, h2⟩ := h
  rcases h2 with ⟨hv, hn⟩ | ⟨g, cap, cur, hv, hg, hh, hn, hc, hs, ht⟩
  · omega
  · refine ⟨g, cap, cur, hv, hg, hh, hn, hc, by omega, fun k hk => ?_⟩
    have e1 : cur.toList[k]? = (zs.map intV)[k]? := by rw [← ht, List.getElem?_take, if_pos (by omega)]
    have e2 : cur[k]? = some (intV zs[k]) := by rw [← Array.getElem?_toList, e1]; simp [hk]
    rw [cell_mk hh e2, List.getElem?_eq_getElem hk]; rfl

theorem insert_calls (w : World) (B : Nat) (v : Value) (zs : List Int) (i : Nat) (x : Int) (vb : Nat) (h : RowI w B v zs) (h0 : 0 < zs.length) (hm : zs.length ≤ 2000000) (hi : i ≤ zs.length) (hv : w.heap[vb]? = some (.cells #[.int .i64 x] 3 (0, 0))) (hne : v.ownBlock ≠ some vb) (hB : B ≤ w.heap.size) :
    Calls Try.prog 31 #[v, .int .i64 i, .slice (some ⟨vb, 0, none⟩) 1 1] w fun e w' => (∃ v', e = .returned v' ∧ IntsAt (fun b _ => B ≤ b) w' v' (insI zs i x)) ∧ Fr (fun b _ => b < B) w w' := by
  obtain ⟨g, cap, cur, rfl, hg, hh, hn, hc, hs, hcell⟩ := h.parts h0
  have hgv : vb ≠ g := fun e => hne (by rw [e]; rfl)
  have hcs : ∀ j u, (zs.map intV)[j]? = some u → w.cell? ⟨g, 0 + j, none⟩ = some u := fun j u hu => by
    rw [List.getElem?_map] at hu
    have hj : j < zs.length := by
      rcases Nat.lt_or_ge j zs.length with q | q
      · exact q
      · rw [List.getElem?_eq_none q] at hu; cases hu
    rw [Nat.zero_add, hcell j hj, hu]
  have hvs : ∀ j u, [intV x][j]? = some u → w.cell? ⟨vb, 0 + j, none⟩ = some u := fun j u hu => by
    rcases j with _ | j
    · cases hu; exact cell_mk hv rfl
    · simp at hu
  have h1c : ∀ u ∈ zs.map intV, u.oneCell' = true := fun u hu => by obtain ⟨y, _, rfl⟩ := List.mem_map.1 hu; rfl
  have h1v : ∀ u ∈ [intV x], u.oneCell' = true := fun u hu => by obtain rfl := List.mem_singleton.1 hu; rfl
  have hall : ∀ k, k < cap → (w.cell? ⟨g, k, none⟩).isSome = true := fun k hk => by
    rw [cell_mk hh (Array.getElem?_eq_getElem (by omega))]; rfl
  have hgl := lt_of_some hh
  have nk : ∀ o, w.heap[g]? = some o → ¬ (g < B) := fun _ _ => by omega
  by_cases hin : i < zs.length
  · by_cases hr : zs.length + 1 ≤ cap
    · refine (Any2.slices_Insert_int_shift Try.lays21 g 0 zs.length cap i vb 0 1 1 (zs.map intV) [intV x] w hin Nat.one_pos hr (by unfold maxLen at hc; omega) hgv (by simp) rfl hcs (fun j hj => by rw [Nat.zero_add]; exact hall j (by omega)) (fun j _ => frozen_mk hh) hvs h1c h1v 3 3 1 cur.size (by simp [World.shape?, hv]) (by simp [World.shape?, hh]) (by omega) (frozen_mk hv) (frozen_mk hv)).mono ?_
      rintro e w' ⟨rfl, hw⟩
      rw [Nat.zero_add, Nat.zero_add] at hw
      obtain ⟨q1, q2, q3⟩ := two_hi (W := w.drew) (x := x) hi (fun k hk => hall k (by omega)) (fun k hk => hcell k (by omega)) w' hw
      refine ⟨⟨_, rfl, ins_cells (W := w) hi q1 q2 q3 (fun _ => hg) cap⟩, ?_⟩
      rw [hw]
      exact (((Fr.refl _ _).drew).setCells nk _ _).setCells nk _ _
    · refine (Any2.slices_Insert_int_grow Try.lays21 g 0 zs.length cap i vb 0 1 1 (zs.map intV) [intV x] w hin Nat.one_pos hn (by omega) (by omega) (by simp) rfl hcs hvs h1c h1v).mono ?_
      rintro e w' ⟨rfl, hw⟩
      generalize hA : ((List.take i (zs.map intV)).toArray ++ Builtin.zeroCells (Value.int .i64 0).cells (zs.length + 1 - i) ++ Builtin.zeroCells (Value.int .i64 0).cells (grownCap w (zs.length + 1) cap (Try.lays21_ren.t 3) - (zs.length + 1))) = A at hw
      have hAs : zs.length + 1 ≤ A.size := by
        rw [← hA, Array.size_append, Array.size_append, zeros_size]
        simp
        omega
      have hAl : ∀ k, k < i → A[k]? = (zs[k]?).map intV := fun k hk => by
        rw [← hA, Array.getElem?_append_left (by rw [Array.size_append, zeros_size]; simp; omega), Array.getElem?_append_left (by simp; omega)]
        simp [hk]
      have ha := heap_alloc_new w (.cells A (Try.lays21_ren.t 3))
      obtain ⟨q1, q2, q3⟩ := two_lo (W := (w.alloc (.cells A (Try.lays21_ren.t 3))).drew) (g := w.heap.size) (x := x) hi
        (fun k hk => by rw [isSome_drew, cell_mk ha (Array.getElem?_eq_getElem (by omega))]; rfl)
        (fun k hk => by
          rw [isSome_drew]
          have := hAl k hk
          rw [List.getElem?_eq_getElem (by omega)] at this ⊢
          exact cell_mk ha this) w' hw
      refine ⟨⟨_, rfl, ins_cells (W := w) hi q1 q2 q3 (fun _ => hB) _⟩, ?_⟩
      rw [hw]
      have nk' : ∀ o, w.heap[w.heap.size]? = some o → ¬ (w.heap.size < B) := fun _ _ => by omega
      exact (((((Fr.refl _ _).alloc _).drew).setCells nk' _ _).drew).setCells nk' _ _
  · obtain rfl : i = zs.length := by omega
    by_cases hr : zs.length + 1 ≤ cap
    · refine (Any2.slices_Insert_int_end_room Try.lays21 g 0 zs.length cap vb 0 1 1 [intV x] w Nat.one_pos hr (by unfold maxLen at hc; omega) rfl (fun j hj => by rw [Nat.zero_add]; exact hall _ (by omega)) (fun j _ => frozen_mk hh) hvs h1v).mono ?_
      rintro e w' ⟨rfl, hw⟩
      rw [Nat.zero_add] at hw
      subst hw
      refine ⟨⟨_, rfl, ins_cells (W := w) hi (fun k hk => ?_) ?_ (fun j hj => by omega) (fun _ => hg) cap⟩, (Fr.refl _ _).setCells nk _ _⟩
      · rw [World.cell?_setCells_out _ _ _ _ _ (fun _ _ => .inl hk)]
        exact hcell k hk
      · have := World.cell?_setCells_in g [intV x] zs.length w (fun j hj => hall _ (by simp at hj; omega)) 0 (by simp)
        simpa using this
    · refine (Any2.slices_Insert_int_end_grow Try.lays21 (some ⟨g, 0, none⟩) zs.length cap vb 0 1 1 (zs.map intV) [intV x] w Nat.one_pos hn (by omega) (by omega) (by simp) rfl (fun e => by cases e) (fun a ha j u hu => by cases ha; rw [add_at]; exact hcs j u hu) hvs h1v).mono ?_
      rintro e w' ⟨rfl, hw⟩
      subst hw
      have hz : ∀ k, k < zs.length + 1 → ((zs.map intV ++ [intV x]).toArray ++ Builtin.zeroCells (Value.int .i64 0).cells (grownCap w (zs.length + 1) cap (Try.lays21_ren.t 3) - (zs.length + 1)))[k]? = (zs.map intV ++ [intV x])[k]? := fun k hk => by
        rw [Array.getElem?_append_left (by simp; omega)]
        simp
      have ha := heap_alloc_new w.drew (.cells ((zs.map intV ++ [intV x]).toArray ++ Builtin.zeroCells (Value.int .i64 0).cells (grownCap w (zs.length + 1) cap (Try.lays21_ren.t 3) - (zs.length + 1))) (Try.lays21_ren.t 3))
      refine ⟨⟨_, rfl, ins_cells (W := w) hi (fun k hk => ?_) ?_ (fun j hj => by omega) (fun _ => hB) _⟩, ((Fr.refl _ _).drew).alloc _⟩
      · have := hz k (by omega)
        rw [List.getElem?_append_left (by simp; omega), List.getElem?_map, List.getElem?_eq_getElem hk] at this
        rw [List.getElem?_eq_getElem hk]
        exact cell_mk ha this
      · have := hz zs.length (by omega)
        rw [List.getElem?_append_right (by simp)] at this
        exact cell_mk ha (by simpa using this)
end Go.Proofs.Ytpecpanmdjpoiaa
/- slices.Delete of one int of a row of the function's own; package quorum: Add, Remove. -/
namespace Go.Proofs.Ytpecpanmdjpoiaa
open Go.RowKit
set_option linter.unusedVariables false

theorem Fr.ahead {K : Nat → Obj → Prop} {a w : World} (h : Fr K a w) (n : Nat) : Fr K a (Sort.ahead w n) := ⟨h.os, h.tape, h.output, h.size, h.keep⟩
theorem Fr.putRow {K : Nat → Obj → Prop} {a w : World} (h : Fr K a w) {g : Nat} (hp : ∀ o, a.heap[g]? = some o → ¬ K g o) (off : Nat) (d : Array Int) : Fr K a (Sort.putRow (Value.int .i64) w g off d) := by
  refine ⟨h.os, h.tape, h.output, by rw [Sort.size_putRow]; exact h.size, fun b o hb hk => ?_⟩
  have hne : b ≠ g := fun e => hp o (e ▸ hb) (e ▸ hk)
  have := h.keep b o hb hk
  rw [← this]
  simp only [Sort.putRow, Sort.mapBlock]
  rw [Array.getElem?_modify, if_neg (fun e => hne e.symm)]
theorem delete_calls (w : World) (B : Nat) (v : Value) (zs : List Int) (i : Nat) (h : RowI w B v zs) (h0 : 0 < zs.length) (hi : i < zs.length) (j : Int) (hj : j = (i + 1 : Nat)) :
    Calls Try.prog 33 #[v, .int .i64 i, .int .i64 j] w fun e w' => (∃ v', e = .returned v' ∧ IntsAt (fun b _ => B ≤ b) w' v' (zs.take i ++ zs.drop (i + 1))) ∧ Fr (fun b _ => b < B) w w' := by
  subst hj
  obtain ⟨g, cap, cur, rfl, hg, hh, hn, hc, hs, hcell⟩ := h.parts h0
  have nk : ∀ o, w.heap[g]? = some o → ¬ (g < B) := fun _ _ => by omega
  have hH : Sort.Holds (Value.int .i64) w g 0 zs.toArray := fun k hk => by
    have hk' : k < zs.length := by simpa using hk
    refine ⟨?_, frozen_mk hh⟩
    rw [Nat.zero_add, hcell k hk', List.getElem?_eq_getElem hk']
    simp [hk', intV]
  refine (Any.slices_Delete_int Try.lays23 g 0 cap i (i + 1) zs w hH hn (by unfold maxLen at hc; omega) (by omega) (by omega)).mono ?_
  rintro e w' ⟨rfl, q, rfl⟩
  have hl : (zs.take i ++ zs.drop (i + 1)).length = zs.length - (i + 1 - i) := by simp; omega
  refine ⟨⟨_, rfl, ?_⟩, ((Fr.refl _ _).ahead q).putRow nk _ _⟩
  rw [← hl]
  refine NumsAt.mk' (fun _ => hg) fun k u hu => ?_
  have hk : k < (zs.take i ++ zs.drop (i + 1)).length := by
    rcases Nat.lt_or_ge k (zs.take i ++ zs.drop (i + 1)).length with p | p
    · exact p
    · rw [List.getElem?_eq_none p] at hu; cases hu
  have hk2 : k < (zs.take i ++ zs.drop (i + 1) ++ List.replicate (i + 1 - i) 0).length := by rw [List.length_append]; omega
  have hz : (zs.take i ++ zs.drop (i + 1) ++ List.replicate (i + 1 - i) (0 : Int)).toArray.size = zs.toArray.size := by simp; omega
  have := Sort.cell?_putRow (Value.int .i64) (Sort.ahead w q) g 0 zs.toArray (zs.take i ++ zs.drop (i + 1) ++ List.replicate (i + 1 - i) (0 : Int)).toArray (Sort.holds_ahead _ _ _ _ _ _ hH) hz k (by simpa using hk2)
  rw [this]
  have e : (zs.take i ++ zs.drop (i + 1) ++ List.replicate (i + 1 - i) (0 : Int))[k]? = some u := by rw [List.getElem?_append_left hk]; exact hu
  rw [Array.getElem!_eq_getD, Array.getD_eq_getD_getElem?, List.getElem?_toArray, e]
  rfl
end Go.Proofs.Ytpecpanmdjpoiaa
/- Package quorum: Add, Remove. -/
namespace Go.Proofs.Ytpecpanmdjpoiaa
open Go.RowKit
set_option linter.unusedVariables false

theorem RowI.own_lt {w : World} {B : Nat} {v : Value} {zs : List Int} (h : RowI w B v zs) (k : Nat) (hk : w.heap.size ≤ k) : v.ownBlock ≠ some k := by
  rcases h.2 with ⟨rfl, _⟩ | ⟨g, cap, cur, rfl, hg, hh, _⟩
  · exact fun e => by cases e
  · intro e
    have e' : g = k := by simpa [Value.ownBlock] using e
    have := lt_of_some hh
    omega
theorem pos_le (zs : List Int) (n : Int) : pos zs n ≤ zs.length := List.countP_le_length

set_option maxRecDepth 100000 in
theorem add_node {K : Nat → Obj → Prop} (w : World) (b off c : Nat) (zs : List Int) (n : Int) (h : IntsAt K w (.slice (some ⟨b, off, none⟩) zs.length c) zs) (hm : zs.length ≤ 2000000) (hp : zs.Pairwise (· < ·)) (hn : n < 0 ∨ 15 < n) :
    Calls Try.prog 20 #[.slice (some ⟨b, off, none⟩) zs.length c, .int .i64 n] w fun e w' => e = .returned (.tuple #[.slice (some ⟨b, off, none⟩) zs.length c, .int .i64 31]) ∧ w = w' := by
  have HS := Lib.hid (search_calls w b off c zs n h hm hp)
  generalize pos zs n = ps at HS
  generalize hasI zs n = hs at HS
  generalize zs.length = N at HS ⊢
  clear h hm hp
  go_enter Try.func20, Try.ntmps20
  go_wp2_with fail
  with_reducible refine HS.out.mono ?_
  rintro e1 w1 ⟨rfl, rfl⟩
  rcases hn with hn | hn
  · go_wp2
    go_ret2
    exact ⟨rfl, rfl⟩
  · have hn' : n ≥ 16 := by omega
    go_wp2
    go_ret2
    exact ⟨rfl, rfl⟩
set_option maxRecDepth 100000 in
theorem add_in {K : Nat → Obj → Prop} (w : World) (b off c : Nat) (zs : List Int) (n : Int) (h : IntsAt K w (.slice (some ⟨b, off, none⟩) zs.length c) zs) (hm : zs.length ≤ 2000000) (hp : zs.Pairwise (· < ·)) (hn0 : 0 ≤ n) (hn1 : n ≤ 15) (hi : hasI zs n = true) :
    Calls Try.prog 20 #[.slice (some ⟨b, off, none⟩) zs.length c, .int .i64 n] w fun e w' => e = .returned (.tuple #[.slice (some ⟨b, off, none⟩) zs.length c, .int .i64 1]) ∧ w = w' := by
  have HS := Lib.hid (search_calls w b off c zs n h hm hp)
  rw [hi] at HS
  generalize pos zs n = ps at HS
  generalize zs.length = N at HS ⊢
  clear h hm hp hi
  have hn' : ¬ (n ≥ 16) := by omega
  go_enter Try.func20, Try.ntmps20
  go_wp2_with fail
  with_reducible refine HS.out.mono ?_
  rintro e1 w1 ⟨rfl, rfl⟩
  go_wp2
  go_ret2
  exact ⟨rfl, rfl⟩
set_option maxRecDepth 100000 in
theorem add_new {K : Nat → Obj → Prop} (w : World) (b off c : Nat) (zs : List Int) (n : Int) (h : IntsAt K w (.slice (some ⟨b, off, none⟩) zs.length c) zs) (h0 : 0 < zs.length) (hm : zs.length ≤ 2000000) (hp : zs.Pairwise (· < ·)) (hn0 : 0 ≤ n) (hn1 : n ≤ 15) (hi : hasI zs n = false) :
    Calls Try.prog 20 #[.slice (some ⟨b, off, none⟩) zs.length c, .int .i64 n] w fun e w' => (∃ v, e = .returned (.tuple #[v, .int .i64 0]) ∧ IntsAt (fun b _ => w.heap.size ≤ b) w' v (insI zs (pos zs n) n)) ∧ Fr (fun b _ => b < w.heap.size) w w' := by
  have HS := Lib.hid (search_calls w b off c zs n h hm hp)
  rw [hi] at HS
  have HC := Lib.hid (clone_ints w _ zs h h0 hm)
  have HM := Lib.hid hm
  have H0 := Lib.hid h0
  have HP := Lib.hid (pos_le zs n)
  obtain ⟨R, hR⟩ : ∃ R, insI zs (pos zs n) n = R := ⟨_, rfl⟩
  have HR := Lib.hid hR
  rw [hR]
  clear hR
  generalize pos zs n = ps at HS HP HR
  generalize hN : zs.length = N at HS HC ⊢
  clear h h0 hm hp hi hN
  have hn' : ¬ (n ≥ 16) := by omega
  go_enter Try.func20, Try.ntmps20
  go_wp2_with fail
  with_reducible refine HS.out.mono ?_
  rintro e1 w1 ⟨rfl, rfl⟩
  clear HS
  go_wp2_with fail
  with_reducible refine HC.out.mono ?_
  rintro e1 w1 ⟨⟨v1, rfl, r1⟩, f1⟩
  have R1 := Lib.hid r1
  have F1 := Lib.hid f1
  clear r1 f1 HC
  have HI := Lib.hid (insert_calls (w1.alloc (.cells #[.int .i64 n] 3 (0, 0))) w.heap.size v1 zs ps n w1.heap.size (R1.out.tt ((Fr.refl _ _).alloc _)) H0.out HM.out HP.out (heap_alloc_new _ _) (R1.out.own_lt _ (Nat.le_refl _)) (by have := F1.out.size; simp; omega))
  go_wp2_with fail
  with_reducible refine HI.out.mono ?_
  rintro e2 w2 ⟨⟨v2, rfl, i2⟩, f2⟩
  have I2 := Lib.hid i2
  have F2 := Lib.hid ((((F1.out.alloc _).mono fun _ _ _ => trivial).trans (f2 : Fr (fun b _ => b < w.heap.size) _ w2)))
  clear i2 f2 HI
  go_wp2
  go_ret2
  exact ⟨⟨_, rfl, HR.out ▸ I2.out⟩, F2.out⟩

set_option maxRecDepth 100000 in
theorem rem_none {K : Nat → Obj → Prop} (w : World) (b off c : Nat) (zs : List Int) (n : Int) (h : IntsAt K w (.slice (some ⟨b, off, none⟩) zs.length c) zs) (hm : zs.length ≤ 2000000) (hp : zs.Pairwise (· < ·)) (hi : hasI zs n = false) :
    Calls Try.prog 22 #[.slice (some ⟨b, off, none⟩) zs.length c, .int .i64 n] w fun e w' => e = .returned (.tuple #[.slice (some ⟨b, off, none⟩) zs.length c, .int .i64 41]) ∧ w = w' := by
  have HS := Lib.hid (search_calls w b off c zs n h hm hp)
  rw [hi] at HS
  generalize pos zs n = ps at HS
  generalize zs.length = N at HS ⊢
  clear h hm hp hi
  go_enter Try.func22, Try.ntmps22
  go_wp2_with fail
  with_reducible refine HS.out.mono ?_
  rintro e1 w1 ⟨rfl, rfl⟩
  go_wp2
  go_ret2
  exact ⟨rfl, rfl⟩
set_option maxRecDepth 100000 in
theorem rem_one {K : Nat → Obj → Prop} (w : World) (b off c : Nat) (zs : List Int) (n : Int) (h : IntsAt K w (.slice (some ⟨b, off, none⟩) zs.length c) zs) (hm : zs.length = 1) (hp : zs.Pairwise (· < ·)) (hi : hasI zs n = true) :
    Calls Try.prog 22 #[.slice (some ⟨b, off, none⟩) zs.length c, .int .i64 n] w fun e w' => e = .returned (.tuple #[.slice (some ⟨b, off, none⟩) zs.length c, .int .i64 1]) ∧ w = w' := by
  have HS := Lib.hid (search_calls w b off c zs n h (by omega) hp)
  rw [hi, hm] at HS
  rw [hm]
  generalize pos zs n = ps at HS
  clear h hm hp hi
  go_enter Try.func22, Try.ntmps22
  go_wp2_with fail
  with_reducible refine HS.out.mono ?_
  rintro e1 w1 ⟨rfl, rfl⟩
  go_wp2
  go_ret2
  exact ⟨rfl, rfl⟩
set_option maxRecDepth 100000 in
theorem rem_new {K : Nat → Obj → Prop} (w : World) (b off c : Nat) (zs : List Int) (n : Int) (h : IntsAt K w (.slice (some ⟨b, off, none⟩) zs.length c) zs) (h0 : 0 < zs.length) (hm : zs.length ≤ 2000000) (hl : zs.length ≠ 1) (hp : zs.Pairwise (· < ·)) (hi : hasI zs n = true) (hq : pos zs n < zs.length) :
    Calls Try.prog 22 #[.slice (some ⟨b, off, none⟩) zs.length c, .int .i64 n] w fun e w' => (∃ v, e = .returned (.tuple #[v, .int .i64 0]) ∧ IntsAt (fun b _ => w.heap.size ≤ b) w' v (zs.take (pos zs n) ++ zs.drop (pos zs n + 1))) ∧ Fr (fun b _ => b < w.heap.size) w w' := by
  have HS := Lib.hid (search_calls w b off c zs n h hm hp)
  rw [hi] at HS
  have HC := Lib.hid (clone_ints w _ zs h h0 hm)
  have HM := Lib.hid hm
  have H0 := Lib.hid h0
  have HP := Lib.hid hq
  have hb : pos zs n ≤ 2000000 := by omega
  obtain ⟨R, hR⟩ : ∃ R, zs.take (pos zs n) ++ zs.drop (pos zs n + 1) = R := ⟨_, rfl⟩
  have HR := Lib.hid hR
  rw [hR]
  clear hR hq
  generalize pos zs n = ps at HS HP HR hb
  have hl' : ((zs.length : Int) == 1) = false := by simp; omega
  generalize hN : zs.length = N at HS HC hl' ⊢
  clear h h0 hm hp hi hN hl
  go_enter Try.func22, Try.ntmps22
  go_wp2_with fail
  with_reducible refine HS.out.mono ?_
  rintro e1 w1 ⟨rfl, rfl⟩
  clear HS
  go_wp2_with fail
  with_reducible refine HC.out.mono ?_
  rintro e1 w1 ⟨⟨v1, rfl, r1⟩, f1⟩
  have R1 := Lib.hid r1
  have F1 := Lib.hid f1
  clear r1 f1 HC
  have HI := Lib.hid (delete_calls w1 w.heap.size v1 zs ps R1.out H0.out HP.out (ps + 1) (by omega))
  go_wp2_with fail
  with_reducible refine HI.out.mono ?_
  rintro e2 w2 ⟨⟨v2, rfl, i2⟩, f2⟩
  have I2 := Lib.hid i2
  have F2 := Lib.hid (((F1.out.mono fun _ _ _ => trivial).trans (f2 : Fr (fun b _ => b < w.heap.size) _ w2)))
  clear i2 f2 HI
  go_wp2
  go_ret2
  exact ⟨⟨_, rfl, HR.out ▸ I2.out⟩, F2.out⟩
end Go.Proofs.Ytpecpanmdjpoiaa
