/- Texts of the proofs, part 21: what the functions that they reach do, walked; no conditions beyond those that each states. -/
import Derived.Sort.WalkA
import Derived.Deep.QuietTactic
import Derived.BigQuiet
import Derived.Test.YtmjccpfchhnfhaaGreatZz39f214199b
import Derived.Test.YtmjccpfchhnfhaaGreatZz1cd4c84dd3
set_option linter.unusedVariables false
set_option linter.unusedSimpArgs false
/- slices.Sort of numbers of 64 bits, short rows: the walk of the kit's Derived/Sort/WalkA.lean (at int), turned to uint64. -/
namespace Go.Proofs.YtmjccpfchhnfhaaGreat
open Go.RowKit Go.Sort Go.Lib
set_option linter.unusedVariables false
theorem less_u64 (x y : Int) (w : World) : Calls Tryz.prog 141 #[.int .u64 x, .int .u64 y] w fun e w' => e = .returned (.bool (Sort.ltInt x y)) ∧ w' = w := by
 go_enter Tryz.func141, Tryz.ntmps141
 go_wp2
 go_ret
 exact ⟨rfl, rfl⟩
set_option maxRecDepth 100000 in
set_option maxHeartbeats 2000000 in
theorem insort_u64 (blk off cap a b : Nat) (d : Array Int) (w : World) (hH : Holds (Value.int .u64) w blk off d) (hab : a ≤ b) (hb : b ≤ d.size) (hsz : d.size < 4611686018427387904) :
  Calls Tryz.prog 135 #[.slice (some ⟨blk, off, none⟩) d.size cap, .int .i64 a, .int .i64 b] w fun e w' =>
   e = .returned (.tuple #[]) ∧ ∃ n, w' = putRow (Value.int .u64) (Sort.ahead w n) blk off (Sort.insertionSort ltInt d a b) := by
 go_enter Tryz.func135, Tryz.ntmps135
 go_wp2
 go_loopw [6] (fun vi wr => ∃ (i n : Nat) (dk : Array Int), vi = .int .i64 i ∧ a < i ∧ i ≤ b + 1 ∧ dk.size = d.size ∧ wr = putRow (Value.int .u64) (Sort.ahead w n) blk off dk ∧
   insOuter ltInt a b i dk = insOuter ltInt a b (a + 1) d) (fun vi _ => b + 1 - (intOf vi).toNat)
 case atStart => exact ⟨a + 1, 0, d, by go_num, by omega, by omega, rfl, (putRow_self _ _ _ _ _ hH).symm, rfl⟩
 case round =>
  obtain ⟨i, n, dk, rfl, hai, hib, hsk, hwr, hO⟩ := hrel
  have HO : Hid (insOuter ltInt a b i dk = insOuter ltInt a b (a + 1) d) := hO
  clear hO
  go_wp2
  ·-- i < b: the inner loop
   go_loopw [7] (fun vj wr2 => ∃ (j m : Nat) (dj : Array Int), vj = .int .i64 j ∧ a ≤ j ∧ j ≤ i ∧ dj.size = d.size ∧ wr2 = putRow (Value.int .u64) (Sort.ahead w m) blk off dj ∧
     insInner ltInt a j dj = insInner ltInt a i dk) (fun vj _ => (intOf vj).toNat)
   case atStart => exact ⟨i, n, dk, rfl, by omega, Nat.le_refl _, hsk, rfl, rfl⟩
   case round =>
    obtain ⟨j, m, dj, rfl, haj, hji, hsj, hw2, hI⟩ := hrel
    have hlt : i < b := by assumption
    -- the row's contents under a name of their own (the authors' find: with 'j < d.size' at hand the walk's simp turns 'dj[j]!' into 'dj[j]'); its two families: Derived/CellFam.lean serves every load and store from them
    obtain ⟨G, hG⟩ : ∃ G : Nat → Int, ∀ t, G t = dj[t]! := ⟨fun t => dj[t]!, fun _ => rfl⟩
    have hcw : ∀ t, t < d.size → wr.cell? ⟨blk, off + t, none⟩ = some (.int .u64 (G t)) := fun t ht => by
     rw [hw2, hG]; exact cell?_putRow _ _ _ _ d dj (holds_ahead _ _ _ _ _ _ hH) hsj t (by omega)
    have hfw : ∀ t, t < d.size → wr.frozen? ⟨blk, off + t, none⟩ = false := fun t ht => by
     rw [hw2, frozen?_putRow]; exact ((holds_ahead _ _ m _ _ _ hH) t ht).2
    have HW : Hid (wr = putRow (Value.int .u64) (Sort.ahead w m) blk off dj) := hw2
    have HG : Hid (∀ t, G t = dj[t]!) := hG
    have HI : Hid (insInner ltInt a j dj = insInner ltInt a i dk) := hI
    clear hw2 hG hI hH
    -- out of the inner loop: dj is what the inner loop makes of dk: the outer round's end
    have out : (j ≤ a ∨ ltInt dj[j]! dj[j - 1]! = false) → ∀ q, ∃ i' n' dk', Value.int .i64 ((i : Int) + 1) = .int .i64 (i' : Nat) ∧ a < i' ∧ i' ≤ b + 1 ∧ dk'.size = d.size ∧
      wr.drewN q = putRow (Value.int .u64) (Sort.ahead w n') blk off dk' ∧ insOuter ltInt a b i' dk' = insOuter ltInt a b (a + 1) d := fun hs q =>
     ⟨i + 1, m + q, dj, by go_num, by omega, by omega, hsj, by rw [HW.out]; exact putRow_drewN _ _ _ _ _ _ _,
      by rw [← HO.out, insOuter_go _ _ _ _ _ hlt, ← HI.out, insInner_stop _ _ _ _ hs]⟩
    have OUT : Hid _ := out
    clear out
    go_wp2
    by_cases hja : a < j
    ·go_quiet (first | (go_at_call 141; refine Calls.quiet_of_same (less_u64 _ _ _)))
     go_wp2
     ·-- Less: the swap, j--
      have hl : ltInt (G j) (G (j - 1)) = true := by assumption
      go_region
      all_goals go_wp2
      go_roundw
      case rel =>
       refine ⟨j - 1, m + (nq + 1), swp dj j (j - 1), by congr 1; omega, by omega, by omega, by rw [size_swp]; exact hsj, ?_, ?_⟩
       ·rw [HW.out, HG.out, HG.out]
        exact swap_worldA _ w m (nq + 1) blk off dj j (j - 1) (by omega) (by omega)
       ·rw [← HI.out, insInner_go ltInt a j dj hja (by rw [← HG.out, ← HG.out]; exact hl)]
      case measure => simp [intOf]; omega
     ·-- not Less
      have hl : ltInt (G j) (G (j - 1)) = false := by assumption
      go_roundw
      case rel => exact OUT.out (Or.inr (by rw [← HG.out, ← HG.out]; exact hl)) nq
      case measure => simp [intOf]; omega
    ·go_quiet (first | (go_at_call 141; refine Calls.quiet_of_same (less_u64 _ _ _)))
     go_wp2
     go_roundw
     case rel => exact OUT.out (Or.inl (by omega)) nq
     case measure => simp [intOf]; omega
  ·-- the outer loop is at its end
   have hge : ¬ i < b := by assumption
   go_end0
   exact ⟨rfl, n, by unfold Sort.insertionSort; rw [← HO.out, insOuter_stop _ _ _ _ _ hge]⟩
end Go.Proofs.YtmjccpfchhnfhaaGreat
/- slices.Sort of at most twelve numbers of 64 bits. -/
namespace Go.Proofs.YtmjccpfchhnfhaaGreat
open Go.RowKit Go.Sort Go.Lib
set_option linter.unusedVariables false
set_option maxRecDepth 100000 in
set_option maxHeartbeats 2000000 in
theorem pdq_small (blk off cap : Nat) (d : Array Int) (w : World) (lim : Int) (hH : Holds (Value.int .u64) w blk off d) (hb : d.size ≤ 12) :
  Calls Tryz.prog 129 #[.slice (some ⟨blk, off, none⟩) d.size cap, .int .i64 0, .int .i64 d.size, .int .i64 lim] w fun e w' =>
   e = .returned (.tuple #[]) ∧ ∃ n, w' = putRow (Value.int .u64) (Sort.ahead w n) blk off (Sort.insertionSort ltInt d 0 d.size) := by
 have HI : Hid (Calls Tryz.prog 135 #[.slice (some ⟨blk, off, none⟩) d.size cap, .int .i64 0, .int .i64 d.size] w fun e w' => e = .returned (.tuple #[]) ∧ ∃ n, w' = putRow (Value.int .u64) (Sort.ahead w n) blk off (Sort.insertionSort ltInt d 0 d.size)) := Lib.hid (insort_u64 blk off cap 0 d.size d w hH (by omega) (by omega) (by omega))
 generalize Sort.insertionSort ltInt d 0 d.size = dd at HI ⊢
 clear hH
 generalize d.size = N at HI hb ⊢
 go_enter Tryz.func129, Tryz.ntmps129
 go_wp2
 go_loopw [1, 2, 3] (fun i j l wr => i = .int .i64 0 ∧ j = .int .i64 (N : Int) ∧ l = .int .i64 lim ∧ wr = w) (fun _ _ _ _ => 0)
 case atStart => exact ⟨rfl, rfl, rfl, rfl⟩
 case round =>
  obtain ⟨rfl, rfl, rfl, rfl⟩ := hrel
  go_wp2_with fail
  with_reducible refine HI.out.mono ?_
  rintro e1 w1 ⟨rfl, hw⟩
  have HW := Lib.hid hw
  clear hw HI
  go_wp2
  exact bodyPost_ret (results_none rfl _ _ _) rfl ⟨rfl, HW.out⟩
end Go.Proofs.YtmjccpfchhnfhaaGreat
/- Package quorum: Reached, at most twelve members. -/
namespace Go.Proofs.YtmjccpfchhnfhaaGreat
open Go.RowKit
set_option linter.unusedVariables false
theorem Fr.ahead {K : Nat → Obj → Prop} {a w : World} (h : Fr K a w) (n : Nat) : Fr K a (Sort.ahead w n) := ⟨h.os, h.tape, h.output, h.size, h.keep⟩
theorem info_u64 : (Tryz.prog.info? 23).map (fun i => (i.zero, i.size, i.bytes)) = some (some (.int .u64 0), 1, 8) := by kernel_rfl
def RowU (w : World) (B : Nat) (v : Value) (zs : List Int) : Prop := w.ownsRow B 23 1 v zs.length (zs.map (Value.int .u64))
theorem RowU.tt {w w' : World} {B : Nat} {v : Value} {zs : List Int} (h : RowU w B v zs) (hf : Fr (fun _ _ => True) w w') : RowU w' B v zs := ownsRow_fr h hf fun _ _ _ _ => trivial
theorem RowU.nil (w : World) (B : Nat) : RowU w B (.slice none 0 0) [] := ⟨rfl, .inl ⟨rfl, rfl⟩⟩
theorem RowU.form {w : World} {B : Nat} {v : Value} {zs : List Int} (h : RowU w B v zs) : ∃ a c, v = .slice a zs.length c := by
 rcases h.2 with ⟨rfl, e⟩ | ⟨g, cap, _, rfl, _⟩
 ·exact ⟨none, 0, by rw [e]⟩
 ·exact ⟨_, _, rfl⟩
theorem RowU.parts {w : World} {B : Nat} {v : Value} {zs : List Int} (h : RowU w B v zs) (h0 : 0 < zs.length) : ∃ g cap, v = .slice (some ⟨g, 0, none⟩) zs.length cap ∧ B ≤ g ∧ g < w.heap.size ∧ Sort.Holds (Value.int .u64) w g 0 zs.toArray := by
 obtain ⟨h1, h2⟩ := h
 rcases h2 with ⟨hv, hn⟩ | ⟨g, cap, cur, hv, hg, hh, hn, hc, hs, ht⟩
 ·omega
 ·refine ⟨g, cap, hv, hg, lt_of_some hh, fun k hk => ⟨?_, frozen_mk hh⟩⟩
  have hk' : k < zs.length := by simpa using hk
  have e1 : cur.toList[k]? = (zs.map (Value.int .u64))[k]? := by rw [← ht, List.getElem?_take, if_pos (by omega)]
  have e2 : cur[k]? = some (Value.int .u64 zs[k]) := by rw [← Array.getElem?_toList, e1]; simp [hk']
  rw [Nat.zero_add, cell_mk hh e2]
  simp [hk']
theorem wpList_append_u64 {ops : Array Oper} {rest : List Oper} {o : Oper} {a : Act} {Q : Exit → Act → World → Prop} (W0 W1 : World) (y : Int) (hF : Hid (Fr (fun _ _ => True) W0 W1)) (hgd : o.guard = none) (s x : Operand)
  (ho : o.op = .call { callee := .builtin .append, args := #[s, x], argTypes := #[27, 27] }) (v : Value) (xs : List Int) (hs : a.eval s = v) (hown : Hid (RowU W1 W0.heap.size v xs))
  (hx : a.eval x = .slice (some ⟨W1.heap.size, 0, none⟩) 1 1) (r : List Int) (hr : Hid (xs ++ [y] = r)) (hn : r.length ≤ 2000000)
  (h : ∀ a' c' w', Hid (RowU w' W0.heap.size (.slice a' r.length c') r) → Hid (Fr (fun _ _ => True) W0 w') → wpList Tryz.prog ops Q rest (a.put o.dst (.slice a' r.length c')) w') :
  wpList Tryz.prog ops Q (o :: rest) a (W1.alloc (.cells #[.int .u64 y] 23 (0, 0))) := by
 obtain ⟨i0, hi, hz0, hz1, hz2⟩ := info_parts info_u64
 have hr := hr.out
 subst hr
 rw [List.length_append, List.length_singleton] at hn
 have hsrc : SrcAt (W1.alloc (.cells #[.int .u64 y] 23 (0, 0))) 1 (.slice (some ⟨W1.heap.size, 0, none⟩) 1 1) 1 [Value.int .u64 y] := by
  refine .inr ⟨_, 1, rfl, rfl, fun j u hu => ?_, fun u hu => by obtain rfl := List.mem_singleton.1 hu; rfl⟩
  rcases j with _ | j
  ·cases hu; rw [add_at]; exact cell_mk (heap_alloc_new _ _) rfl
  ·simp at hu
 refine wpList_append_src _ hgd s x 27 ho W0.heap.size 23 i0 (.int .u64 0) 1 8 Tryz.underlying27 hi hz0 hz1 hz2 rfl (by decide) v xs.length (xs.map (Value.int .u64)) hs (hown.out.tt ((Fr.refl _ _).alloc _)) _ 1 [Value.int .u64 y] hx hsrc (by unfold maxLen; omega) (by omega) (by have := hF.out.size; simp; omega) ?_
 intro v' w' h1 h2 _
 have e1 : xs.map (Value.int .u64) ++ [Value.int .u64 y] = (xs ++ [y]).map (Value.int .u64) := by simp
 have e2 : xs.length + 1 = (xs ++ [y]).length := by simp
 rw [e1, e2] at h1
 obtain ⟨a', c', rfl⟩ := RowU.form h1
 exact h a' c' w' h1 ((hF.out.alloc _).grown_new h2 (own_new hown.out))
theorem Fr.putRowU {K : Nat → Obj → Prop} {a w : World} (h : Fr K a w) {g : Nat} (hp : ∀ o, a.heap[g]? = some o → ¬ K g o) (off : Nat) (d : Array Int) : Fr K a (Sort.putRow (Value.int .u64) w g off d) := by
 refine ⟨h.os, h.tape, h.output, by rw [Sort.size_putRow]; exact h.size, fun b o hb hk => ?_⟩
 have hne : b ≠ g := fun e => hp o (e ▸ hb) (e ▸ hk)
 have := h.keep b o hb hk
 rw [← this]
 simp only [Sort.putRow, Sort.mapBlock]
 rw [Array.getElem?_modify, if_neg (fun e => hne e.symm)]
def atU (ms : List Int) (n : Int) : Int := if n < ms.length then ms.getD n.toNat 0 else 0
def reachL (zs ms : List Int) (k : Nat) : List Int := (zs.take k).map (atU ms)
theorem reachL_succ (zs ms : List Int) (k : Nat) (hk : k < zs.length) : reachL zs ms k ++ [atU ms zs[k]] = reachL zs ms (k + 1) := by
 unfold reachL
 rw [List.take_succ_eq_append_getElem hk, List.map_append]; rfl
theorem reachL_len (zs ms : List Int) (k : Nat) (hk : k ≤ zs.length) : (reachL zs ms k).length = k := by unfold reachL; simp; omega
end Go.Proofs.YtmjccpfchhnfhaaGreat
/- The document's Majority. -/
namespace Go.Proofs.YtmjccpfchhnfhaaGreat
open Go.RowKit
set_option linter.unusedVariables false
set_option maxRecDepth 100000 in
theorem rmaj_calls (w : World) (a : Option Addr) (n c : Nat) (hm : n ≤ 2000000) : Calls Tryz.prog 114 #[.slice a n c] w fun e w' => e = .returned (.int .i64 (majI n)) ∧ w = w' := by
 go_enter Tryz.func114, Tryz.ntmps114
 go_wp2
 go_loop [3] (fun r => ∃ k : Nat, k ≤ n / 2 + 1 ∧ r = .int .i64 k) (fun r => n + 1 - (intOf r).toNat)
 case atStart => exact ⟨0, Nat.zero_le _, rfl⟩
 case round =>
  obtain ⟨k, hk, rfl⟩ := hrel
  by_cases h2 : 2 * (k : Int) ≤ n
  ·go_wp2
   go_round
   case rel => exact ⟨k + 1, by omega, by go_num⟩
   case measure => simp [intOf]; omega
  ·have e : majI n = (k : Nat) := by unfold majI; omega
   have E := Lib.hid e
   clear e
   go_wp2
   go_ret
   exact ⟨by rw [E.out]; rfl, rfl⟩
end Go.Proofs.YtmjccpfchhnfhaaGreat
/- The document's part: the members of a set of places. -/
namespace Go.Proofs.YtmjccpfchhnfhaaGreat
open Go.RowKit
set_option linter.unusedVariables false
end Go.Proofs.YtmjccpfchhnfhaaGreat
/- Law 10: what enough have reached: plainly. -/
namespace Go.Proofs.YtmjccpfchhnfhaaGreat
open Go.RowKit
set_option linter.unusedVariables false
set_option linter.unusedSimpArgs false
def srt (l : List Int) : List Int := l.mergeSort fun x y => decide (x ≤ y)
theorem srt_perm (l : List Int) : (srt l).Perm l := List.mergeSort_perm _ _
theorem srt_len (l : List Int) : (srt l).length = l.length := (srt_perm l).length_eq
theorem srt_sorted (l : List Int) : (srt l).Pairwise (· ≤ ·) := by
 have := List.pairwise_mergeSort (le := fun (x y : Int) => decide (x ≤ y)) (fun a b c h1 h2 => by simp at *; omega) (fun a b => by simp; omega) l
 exact this.imp fun h => by simpa using h
def midV (l : List Int) : Int := (srt l).getD (l.length - (l.length / 2 + 1)) 0
theorem mid_mem {l : List Int} (h : 0 < l.length) : midV l ∈ l := by
 unfold midV
 have hk : l.length - (l.length / 2 + 1) < (srt l).length := by rw [srt_len]; omega
 rw [show (srt l).getD (l.length - (l.length / 2 + 1)) 0 = (srt l)[l.length - (l.length / 2 + 1)] from by simp [List.getD, hk]]
 exact (srt_perm l).mem_iff.1 (List.getElem_mem hk)
theorem mid_ge {l : List Int} (h : 0 < l.length) : l.length / 2 + 1 ≤ l.countP fun x => decide (midV l ≤ x) := by
 have hk : l.length - (l.length / 2 + 1) < (srt l).length := by rw [srt_len]; omega
 rw [← (srt_perm l).countP_eq]
 have hs := srt_sorted l
 have hl := srt_len l
 unfold midV
 rw [show (srt l).getD (l.length - (l.length / 2 + 1)) 0 = (srt l)[l.length - (l.length / 2 + 1)] from by simp [List.getD, hk]]
 generalize srt l = S at *
 have h1 : (S.drop (l.length - (l.length / 2 + 1))).countP (fun x => decide (S[l.length - (l.length / 2 + 1)] ≤ x)) = (S.drop (l.length - (l.length / 2 + 1))).length := by
  rw [List.countP_eq_length]
  intro x hx
  obtain ⟨i, hi, rfl⟩ := List.mem_iff_getElem.1 hx
  rw [List.getElem_drop]
  rw [List.length_drop] at hi
  rw [decide_eq_true_eq]
  by_cases h0 : i = 0
  ·subst h0; exact Int.le_refl _
  ·exact List.pairwise_iff_getElem.1 hs _ _ hk (by omega) (by omega)
 have h2 : (S.drop (l.length - (l.length / 2 + 1))).countP (fun x => decide (S[l.length - (l.length / 2 + 1)] ≤ x)) ≤ S.countP (fun x => decide (S[l.length - (l.length / 2 + 1)] ≤ x)) := (List.drop_sublist _ S).countP_le
 rw [h1, List.length_drop] at h2
 omega
theorem mid_gt {l : List Int} (h : 0 < l.length) : (l.countP fun x => decide (midV l < x)) < l.length / 2 + 1 := by
 have hk : l.length - (l.length / 2 + 1) < (srt l).length := by rw [srt_len]; omega
 rw [← (srt_perm l).countP_eq]
 have hs := srt_sorted l
 have hl := srt_len l
 unfold midV
 rw [show (srt l).getD (l.length - (l.length / 2 + 1)) 0 = (srt l)[l.length - (l.length / 2 + 1)] from by simp [List.getD, hk]]
 generalize srt l = S at *
 generalize hv : S[l.length - (l.length / 2 + 1)] = v
 have h1 : (S.take (l.length - (l.length / 2 + 1) + 1)).countP (fun x => decide (v < x)) = 0 := by
  rw [List.countP_eq_zero]
  intro x hx
  obtain ⟨i, hi, rfl⟩ := List.mem_iff_getElem.1 hx
  rw [List.getElem_take]
  rw [List.length_take] at hi
  rw [decide_eq_true_eq, ← hv]
  by_cases h0 : i = l.length - (l.length / 2 + 1)
  ·subst h0; omega
  ·have := List.pairwise_iff_getElem.1 hs i (l.length - (l.length / 2 + 1)) (by omega) hk (by omega)
   omega
 have h2 : S.countP (fun x => decide (v < x)) = (S.take (l.length - (l.length / 2 + 1) + 1)).countP (fun x => decide (v < x)) + (S.drop (l.length - (l.length / 2 + 1) + 1)).countP (fun x => decide (v < x)) := by
  rw [← List.countP_append, List.take_append_drop]
 have h3 := List.countP_le_length (p := fun x => decide (v < x)) (l := S.drop (l.length - (l.length / 2 + 1) + 1))
 rw [List.length_drop] at h3
 omega
def bestK (l : List Int) (k : Nat) : Int := (l.take k).foldl (fun b m => if l.length / 2 + 1 ≤ (l.countP fun x => decide (m ≤ x)) ∧ b < m then m else b) 0
theorem bestK_succ (l : List Int) (k : Nat) (hk : k < l.length) : bestK l (k + 1) = if l.length / 2 + 1 ≤ (l.countP fun x => decide (l[k] ≤ x)) ∧ bestK l k < l[k] then l[k] else bestK l k := by
 unfold bestK
 rw [List.take_succ_eq_append_getElem hk, List.foldl_append]
 rfl
theorem best_le {l : List Int} (h : 0 < l.length) (h0 : ∀ x ∈ l, 0 ≤ x) : ∀ k, k ≤ l.length → 0 ≤ bestK l k ∧ bestK l k ≤ midV l ∧ ∀ i, (hi : i < l.length) → i < k → l[i] = midV l → bestK l k = midV l
 | 0, _ => ⟨by simp [bestK], by have := h0 _ (mid_mem h); simpa [bestK] using this, fun i _ hi => by omega⟩
 | k + 1, hk => by
  obtain ⟨a, b, c⟩ := best_le h h0 k (by omega)
  rw [bestK_succ l k (by omega)]
  have hb := mid_gt h
  split
  next hc =>
   have hle : l[k] ≤ midV l := by
    apply Classical.byContradiction
    intro hn
    have d : (l.countP fun x => decide (l[k] ≤ x)) ≤ l.countP fun x => decide (midV l < x) := List.countP_mono_left fun x _ hx => by simp at hx ⊢; omega
    omega
   refine ⟨by omega, hle, fun i hi hik e => ?_⟩
   by_cases q : i = k
   ·subst q; exact e
   ·have := c i hi (by omega) e
    omega
  next hc =>
   refine ⟨a, b, fun i hi hik e => ?_⟩
   by_cases q : i = k
   ·subst q
    have ha := mid_ge h
    rw [e] at hc
    have : ¬ bestK l i < midV l := fun q => hc ⟨ha, q⟩
    omega
   ·exact c i hi (by omega) e
theorem best_eq {l : List Int} (h : 0 < l.length) (h0 : ∀ x ∈ l, 0 ≤ x) : bestK l l.length = midV l := by
 obtain ⟨i, hi, e⟩ := List.mem_iff_getElem.1 (mid_mem h)
 exact (best_le h h0 l.length (Nat.le_refl _)).2.2 i hi hi e
end Go.Proofs.YtmjccpfchhnfhaaGreat
/- Nodes, plainly: what elect's and follow's functions do. -/
namespace Go.Proofs.YtmjccpfchhnfhaaGreat
set_option linter.unusedVariables false
set_option linter.unusedSimpArgs false
namespace Nd
def askT (n : Nd) : Nd × List Ms :=
 if hasI n.conf n.me then
  let n1 : Nd := { n with tm := n.tm + 1, vote := n.me, role := 2, ld := -1, yes := [n.me] }
  if agrI n.conf [n.me] then (n1.lead, []) else (n1, n1.toAll { zMs with kind := 1, tm := n.tm + 1, index := n.log.last, prev := n.log.lastT })
 else (n, [])
def askF (n : Nd) : Nd × List Ms :=
 if hasI n.conf n.me then
  let n1 : Nd := { n with role := 1, ld := -1, yes := [n.me] }
  if agrI n.conf [n.me] then n1.askT else (n1, n1.toAll { zMs with kind := 3, tm := n.tm + 1, index := n.log.last, prev := n.log.lastT })
 else (n, [])
def chosen (n : Nd) : Nd × List Ms := if n.role = 1 then n.askT else (n.lead, [])
def would (n : Nd) (m : Ms) : Bool :=
 if m.kind = 3 then decide (n.tm < m.tm) && !n.heard else decide (m.tm = n.tm) && ((decide (n.vote = -1) || decide (n.vote = m.src)) && decide (n.role = 0))
def onAsk (n : Nd) (m : Ms) : Nd × List Ms :=
 if m.kind = 1 ∨ m.kind = 3 then
  let n1 : Nd := if m.kind = 1 ∧ n.tm < m.tm then n.follow m.tm (-1) else n
  let ok := n1.log.newer m.prev m.index && n1.would m
  (if ok = true ∧ m.kind = 1 then { n1 with vote := m.src } else n1, [{ zMs with kind := m.kind + 1, src := n.me, dst := m.src, tm := if ok = true ∧ m.kind = 3 then m.tm else n1.tm, ok := ok }])
 else (n, [])
def counts (n : Nd) (m : Ms) : Bool :=
 m.ok && ((decide (n.role = 2 ∧ m.kind = 2 ∧ m.tm = n.tm) || decide (n.role = 1 ∧ m.kind = 4 ∧ m.tm = n.tm + 1)) && (hasI n.conf m.src && !hasI n.yes m.src))
def onAnswer (n : Nd) (m : Ms) : Nd × List Ms :=
 if m.kind = 2 ∨ m.kind = 4 then
  let n1 : Nd := if n.tm < m.tm ∧ (m.ok = false ∨ m.kind = 2) then n.follow m.tm (-1) else n
  if n1.counts m then
   let n2 : Nd := { n1 with yes := n1.yes ++ [m.src] }
   if agrI n2.conf n2.yes then n2.chosen else (n2, [])
  else (n1, [])
 else (n, [])
def sureR (n : Nd) (r : Nat) : Nd := if n.role = 3 ∧ (n.log.term r) = (n.tm, true) ∧ n.commit < r then { n with commit := r } else n
def sendTo (n : Nd) (x : Int) : List Ms :=
 if n.role ≠ 3 ∨ x = n.me ∨ x < 0 ∨ 15 < x ∨ n.next.getD x.toNat 0 ≤ n.log.base then []
 else [{ zMs with kind := 5, src := n.me, dst := x, tm := n.tm, index := n.next.getD x.toNat 0 - 1, prev := (n.log.term (n.next.getD x.toNat 0 - 1)).1, commit := n.commit, es := n.log.slice (n.next.getD x.toNat 0) 8 }]
def beat (n : Nd) : List Ms := n.others.flatMap n.sendTo
def behind (n : Nd) : List Int := if n.role = 3 then n.others.filter fun x => decide (n.next.getD x.toNat 0 ≤ n.log.base) else []
def taken (n : Nd) (m : Ms) : Nd × List Ms :=
 if (n.log.append m.index m.prev m.es).2 = 60 then (n, [{ zMs with kind := 6, src := n.me, dst := m.src, index := m.index, tm := n.tm, prev := n.log.hint m.index }])
 else ({ n with log := (n.log.append m.index m.prev m.es).1, commit := max n.commit (min m.commit (m.index + m.es.length)) }, [{ zMs with kind := 6, src := n.me, dst := m.src, index := m.index + m.es.length, tm := n.tm, ok := true }])
def onAppend (n : Nd) (m : Ms) : Nd × List Ms :=
 if m.kind ≠ 5 then (n, []) else if m.tm < n.tm then (n, [{ zMs with kind := 6, src := n.me, dst := m.src, index := m.index, tm := n.tm }]) else ({ n.follow m.tm m.src with heard := true } : Nd).taken m
def reach (n : Nd) : Nat := (midV (reachL n.conf (n.mat.map fun (x : Nat) => (x : Int)) n.conf.length)).toNat
def sure (n : Nd) : Nd := n.sureR n.reach
def propose (n : Nd) (kind : Int) (data : List UInt8) : Nd × Nat × Int :=
 if n.role ≠ 3 then (n, 0, 70) else if kind < 1 ∨ 255 < kind then (n, 0, 30) else if 24 < data.length then (n, 0, 2) else
  (({ n with log := n.log.add ⟨n.tm, kind, data⟩, mat := n.mat.set n.me.toNat (n.log.last + 1) } : Nd).sure, n.log.last + 1, 0)
def acked (n : Nd) (m : Ms) : Nd :=
 if m.ok = false then { n with next := n.next.set m.src.toNat (max (n.mat.getD m.src.toNat 0 + 1) (min m.index (m.prev + 1))) }
 else if m.index ≤ n.log.last then ({ n with mat := n.mat.set m.src.toNat (max (n.mat.getD m.src.toNat 0) m.index), next := n.next.set m.src.toNat (max (n.mat.getD m.src.toNat 0) m.index + 1) } : Nd).sure else n
def onAcked (n : Nd) (m : Ms) : Nd × List Ms :=
 if m.kind ≠ 6 then (n, []) else if n.tm < m.tm then (n.follow m.tm (-1), []) else if m.tm < n.tm ∨ n.role ≠ 3 ∨ m.src = n.me ∨ m.src < 0 ∨ 15 < m.src then (n, []) else
  if m.ok = true ∧ (n.acked m).log.last < (n.acked m).next.getD m.src.toNat 0 then (n.acked m, []) else (n.acked m, (n.acked m).sendTo m.src)
end Nd
end Go.Proofs.YtmjccpfchhnfhaaGreat
/- elect: chosen, Ask (printed by ask.py). -/
namespace Go.Proofs.YtmjccpfchhnfhaaGreat
open Go.RowKit
set_option linter.unusedVariables false
set_option linter.unusedSimpArgs false
def NOut [Old] (X P : Nat → Prop) (w : World) (b : Nat) (r : Nd × List Ms) (e : Ending) (w' : World) : Prop :=
 ∃ X' P' q' v mvs, e = .returned v ∧ PNs X' P' w' b r.1 q' ∧ Aft X P X' P' w w' ∧ OwnMs X' w.heap.size w' v mvs ∧ mvs.map MV.ms = r.2
def zMV : MV := ⟨0, 0, 0, 0, 0, 0, 0, false, none, 0, [], none, 0, []⟩
theorem set10 {w : World} {g : Nat} {t : TypeId} {a0 a1 a2 a3 a4 a5 a6 a7 a8 a9 : Value} (h : w.heap[g]? = some (.cells #[a0, a1, a2, a3, a4, a5, a6, a7, a8, a9] t (0, 0))) (v0 v1 v2 v3 v4 v5 v6 v7 v8 v9 : Value) :
  ∃ W, ((((((((((w.setCell ⟨g, 0, none⟩ v0).setCell ⟨g, 1, none⟩ v1).setCell ⟨g, 2, none⟩ v2).setCell ⟨g, 3, none⟩ v3).setCell ⟨g, 4, none⟩ v4).setCell ⟨g, 5, none⟩ v5).setCell ⟨g, 6, none⟩ v6).setCell ⟨g, 7, none⟩ v7).setCell ⟨g, 8, none⟩ v8).setCell ⟨g, 9, none⟩ v9) = W ∧ W.heap[g]? = some (.cells #[v0, v1, v2, v3, v4, v5, v6, v7, v8, v9] t (0, 0)) ∧ Fr (fun c _ => c ≠ g) w W := by
 have f : ∀ (W : World) (o : Nat) (v : Value), Fr (fun c _ => c ≠ g) W (W.setCell ⟨g, o, none⟩ v) := fun W o v => (Fr.refl _ _).setCell (fun _ _ h => h rfl) _
 obtain ⟨w0, e0⟩ : ∃ W, w.setCell ⟨g, 0, none⟩ v0 = W := ⟨_, rfl⟩
 have h0 : w0.heap[g]? = some (.cells #[v0, a1, a2, a3, a4, a5, a6, a7, a8, a9] t (0, 0)) := by rw [← e0]; exact heap_setCell_same (o := 0) h v0
 obtain ⟨w1, e1⟩ : ∃ W, w0.setCell ⟨g, 1, none⟩ v1 = W := ⟨_, rfl⟩
 have h1 : w1.heap[g]? = some (.cells #[v0, v1, a2, a3, a4, a5, a6, a7, a8, a9] t (0, 0)) := by rw [← e1]; exact heap_setCell_same (o := 1) h0 v1
 obtain ⟨w2, e2⟩ : ∃ W, w1.setCell ⟨g, 2, none⟩ v2 = W := ⟨_, rfl⟩
 have h2 : w2.heap[g]? = some (.cells #[v0, v1, v2, a3, a4, a5, a6, a7, a8, a9] t (0, 0)) := by rw [← e2]; exact heap_setCell_same (o := 2) h1 v2
 obtain ⟨w3, e3⟩ : ∃ W, w2.setCell ⟨g, 3, none⟩ v3 = W := ⟨_, rfl⟩
 have h3 : w3.heap[g]? = some (.cells #[v0, v1, v2, v3, a4, a5, a6, a7, a8, a9] t (0, 0)) := by rw [← e3]; exact heap_setCell_same (o := 3) h2 v3
 obtain ⟨w4, e4⟩ : ∃ W, w3.setCell ⟨g, 4, none⟩ v4 = W := ⟨_, rfl⟩
 have h4 : w4.heap[g]? = some (.cells #[v0, v1, v2, v3, v4, a5, a6, a7, a8, a9] t (0, 0)) := by rw [← e4]; exact heap_setCell_same (o := 4) h3 v4
 obtain ⟨w5, e5⟩ : ∃ W, w4.setCell ⟨g, 5, none⟩ v5 = W := ⟨_, rfl⟩
 have h5 : w5.heap[g]? = some (.cells #[v0, v1, v2, v3, v4, v5, a6, a7, a8, a9] t (0, 0)) := by rw [← e5]; exact heap_setCell_same (o := 5) h4 v5
 obtain ⟨w6, e6⟩ : ∃ W, w5.setCell ⟨g, 6, none⟩ v6 = W := ⟨_, rfl⟩
 have h6 : w6.heap[g]? = some (.cells #[v0, v1, v2, v3, v4, v5, v6, a7, a8, a9] t (0, 0)) := by rw [← e6]; exact heap_setCell_same (o := 6) h5 v6
 obtain ⟨w7, e7⟩ : ∃ W, w6.setCell ⟨g, 7, none⟩ v7 = W := ⟨_, rfl⟩
 have h7 : w7.heap[g]? = some (.cells #[v0, v1, v2, v3, v4, v5, v6, v7, a8, a9] t (0, 0)) := by rw [← e7]; exact heap_setCell_same (o := 7) h6 v7
 obtain ⟨w8, e8⟩ : ∃ W, w7.setCell ⟨g, 8, none⟩ v8 = W := ⟨_, rfl⟩
 have h8 : w8.heap[g]? = some (.cells #[v0, v1, v2, v3, v4, v5, v6, v7, v8, a9] t (0, 0)) := by rw [← e8]; exact heap_setCell_same (o := 8) h7 v8
 obtain ⟨w9, e9⟩ : ∃ W, w8.setCell ⟨g, 9, none⟩ v9 = W := ⟨_, rfl⟩
 have h9 : w9.heap[g]? = some (.cells #[v0, v1, v2, v3, v4, v5, v6, v7, v8, v9] t (0, 0)) := by rw [← e9]; exact heap_setCell_same (o := 9) h8 v9
 refine ⟨w9, by rw [e0]; rw [e1]; rw [e2]; rw [e3]; rw [e4]; rw [e5]; rw [e6]; rw [e7]; rw [e8]; exact e9, h9, ?_⟩
 exact ((((((((((e0 ▸ f w 0 v0).trans (e1 ▸ f w0 1 v1)).trans (e2 ▸ f w1 2 v2)).trans (e3 ▸ f w2 3 v3)).trans (e4 ▸ f w3 4 v4)).trans (e5 ▸ f w4 5 v5)).trans (e6 ▸ f w5 6 v6)).trans (e7 ▸ f w6 7 v7)).trans (e8 ▸ f w7 8 v8)).trans (e9 ▸ f w8 9 v9))
section
variable {X P : Nat → Prop} {w w' : World} {b : Nat} {n n' : Nd} {q q' : NV}
theorem PNs.esl [Old] (h : PNs X P w b n q) : n.log.es.length = q.es.length := by rw [h.ee, List.length_map]
theorem PNs.reY [Old] (h : PNs X P w b n q) (hf : Fr (fun c _ => c ≠ b) w w') (ht : w'.heap[b]? = some (.cells (W14 n' q') 99 (0, 0)))
  (hc : n'.conf = n.conf ∧ q'.vc = q.vc) (he : n'.log.es = n.log.es ∧ q'.ve = q.ve ∧ q'.es = q.es) (ha : n'.next = n.next ∧ n'.mat = n.mat ∧ q'.bn = q.bn ∧ q'.bm = q.bm)
  (g : Nat) (hy : RowI w' 0 q'.vy n'.yes) (hyg : q'.vy.ownBlock = some g) (hg : w.heap.size ≤ g) : PNs (fun c => X c ∨ c = g) (fun c => P c ∨ c = g) w' b n' q' ∧ Aft X P (fun c => X c ∨ c = g) (fun c => P c ∨ c = g) w w' := by
 have aft : Aft X P (fun c => X c ∨ c = g) (fun c => P c ∨ c = g) w w' := ⟨hf.mono fun c _ hc e => hc (e ▸ h.pb), fun c => ⟨fun q => q.elim .inl fun e => .inr (.inr e), fun q => q.elim .inl fun e => e.elim (fun p => .inl (h.px c p)) .inr⟩, fun c => .inl, fun c q => q.elim .inl fun e => .inr (e ▸ hg), h.px⟩
 refine ⟨⟨ht, ?_, hy, fun c e => ?_, ?_, ?_, ?_, ?_, ?_, .inl h.pb, ?_, ?_, fun c hc => hc.elim (fun p => .inl (h.px c p)) .inr, fun c hc => ?_, h.od⟩, aft⟩
 ·rw [hc.1, hc.2]; exact h.cf.aft aft
 ·rw [hyg] at e; cases e; exact .inr rfl
 ·rw [he.2.1, he.2.2]; exact h.ev.aft aft
 ·rw [he.1, he.2.2]; exact h.ee
 ·rw [ha.1, ha.2.2.1]; exact h.nx.fr hf fun _ _ => h.bn_b
 ·rw [ha.2.1, ha.2.2.2]; exact h.mt.fr hf fun _ _ => h.bm_b
 ·rw [ha.2.2.1, ha.2.2.2]; exact h.nm
 ·rw [ha.2.2.1]; exact .inl h.pn
 ·rw [ha.2.2.2]; exact .inl h.pm
 ·rcases hc with hc | hc
  ·exact Nat.lt_of_lt_of_le (h.hx c hc) hf.size
  ·subst hc
   obtain ⟨cur, hh⟩ := own_tag hy hyg
   exact lt_of_some hh
theorem PNs.msg [Old] (h : PNs X P w b n q) {g : Nat} (hf : Fr (fun c _ => c ≠ g) w w') (hg : ∃ cs fz, w.heap[g]? = some (.cells cs 32 fz)) (hgo : b < g) : PNs X P w' b n q := by
 obtain ⟨cs, fz, hg⟩ := hg
 have ne : ∀ c cs' t' fz', w.heap[c]? = some (.cells cs' t' fz') → t' ≠ 32 → c ≠ g := fun c cs' t' fz' h1 h2 e => by
  subst e
  rw [hg] at h1
  cases h1
  exact h2 rfl
 have ro : ∀ c o, w.heap[c]? = some o → RO X c o → c ≠ g := fun c o ho hr => by
  rcases hr.2 with h2 | ⟨cs', t', fz', e, ht⟩
  ·have := h.od c h2; omega
  ·subst e
   exact ne c _ _ _ ho (fun e => by rw [e] at ht; exact absurd ht (by decide))
 have a16 : ∀ {c l}, A16 w c l → A16 w' c l := fun {c l} ha => ha.fr hf fun o ho => by
  obtain ⟨_, cur, h1, _⟩ := ha
  exact ne c _ _ _ h1 (by decide)
 have cf2 : IntsAt (RO X) w' q.vc n.conf := (((h.cf.mono3 (K' := fun c o => RO X c o ∧ c ≠ g) fun c o ho hr => ⟨hr, ro c o ho hr⟩).fr hf fun c o q => q.2).mono fun c o q => q.1)
 exact ⟨hf.keep _ _ h.top (ne b _ _ _ h.top (by decide)), cf2, ownsRow_fr h.ye hf fun c o e ho => by
  obtain ⟨cur, hc⟩ := own_tag h.ye e
  exact ne c _ _ _ hc (by decide), h.yp, h.ev.fr hf ro, h.ee, a16 h.nx, a16 h.mt, h.nm, h.pb, h.pn, h.pm, h.px, fun c hc => Nat.lt_of_lt_of_le (h.hx c hc) hf.size, h.od⟩
theorem OwnMs.lo [Old] {X : Nat → Prop} {B B' : Nat} {w : World} {v : Value} {ms : List MV} (h : OwnMs X B w v ms) (hB : B' ≤ B) : OwnMs X B' w v ms :=
 ⟨⟨h.row.1, by
  rcases h.row.2 with q | ⟨g, c, cur, e, hb, r⟩
  ·exact .inl q
  ·exact .inr ⟨g, c, cur, e, Nat.le_trans hB hb, r⟩⟩, h.off, h.at'⟩
theorem NOut.behind [Old] {X1 P1 : Nat → Prop} {w1 : World} {r : Nd × List Ms} {e : Ending} (h : NOut X1 P1 w1 b r e w') (k : Aft X P X1 P1 w w1) : NOut X P w b r e w' := by
 obtain ⟨X', P', q', v, mvs, h1, h2, h3, h4, h5⟩ := h
 exact ⟨X', P', q', v, mvs, h1, h2, k.trans h3, h4.lo k.fr.size, h5⟩
set_option maxRecDepth 100000 in
set_option maxHeartbeats 1000000 in
theorem chosen_lead [Old] (h : PNs X P w b n q) (hr : n.role ≠ 1) (mN : Nat) (hme : n.me = (mN : Nat)) (hm16 : mN < 16) (hl : n.log.last + 1 < 18446744073709551616) (hle : n.log.es.length ≤ 900000) :
  Calls Tryz.prog 97 #[.pointer (some ⟨b, 0, none⟩)] w fun e w' => NOut X P w b (n.lead, []) e w' := by
 have x2 := (h.cells (Fr.refl _ w)).2.2.1
 have hes := h.esl
 have LC := Lib.hid (lead_calls h mN hme hm16 (by unfold Lg.last at hl; omega) (by omega))
 have PX : Hid (∀ c, P c → X c) := h.px
 have g : (n.role == 1) = false := by simpa using hr
 obtain ⟨ro, hro⟩ : ∃ r, n.role = r := ⟨_, rfl⟩
 rw [hro] at x2 g
 clear h hr hme hl hle hro hes
 go_enter Tryz.func97, Tryz.ntmps97
 go_wp2_with fail
 (with_reducible refine LC.out.mono ?_)
 rintro e w2 ⟨rfl, ⟨q', h2, _⟩, f2⟩
 have H2 := Lib.hid h2
 have F2 := Lib.hid f2
 clear h2 f2 LC x2
 go_wp2
 go_ret
 exact ⟨X, P, q', _, [], rfl, H2.out, .of F2.out PX.out, OwnMs.nil _ _ _, rfl⟩
set_option maxRecDepth 100000 in
set_option maxHeartbeats 8000000 in
theorem askT_calls [Old] (h : PNs X P w b n q) (hcf : 0 < n.conf.length ∧ n.conf.length ≤ 1000) (mN : Nat) (hme : n.me = (mN : Nat)) (hm16 : mN < 16) (htm : n.tm + 1 < 18446744073709551616) (hl : n.log.last + 1 < 18446744073709551616) (hle : n.log.es.length ≤ 900000) :
  Calls Tryz.prog 45 #[.pointer (some ⟨b, 0, none⟩), .bool true] w fun e w' => NOut X P w b n.askT e w' := by
 have hes := h.esl
 obtain ⟨ae, le, ce, hve⟩ : ∃ ae le ce, q.ve = .slice ae le ce := by
  obtain ⟨a, c, e, _⟩ := h.ev.row.form
  exact ⟨a, _, c, e⟩
 have hrow : ∀ W, Fr (fun _ _ => True) w W → RowsAt (RO X) W (.slice ae le ce) 3 encE q.es := fun W f => by rw [← hve]; exact h.ev.row.tt f
 have hlen : q.es.length = le := (hrow w (Fr.refl _ w)).len'.symm
 obtain ⟨bs, hbs⟩ : ∃ x, n.log.base = x := ⟨_, rfl⟩
 obtain ⟨bt, hbt⟩ : ∃ x, n.log.bt = x := ⟨_, rfl⟩
 obtain ⟨tm, htm0⟩ : ∃ x, n.tm = x := ⟨_, rfl⟩
 obtain ⟨tm1, htm1⟩ : ∃ x, tm + 1 = x := ⟨_, rfl⟩
 obtain ⟨L, hL⟩ : ∃ x, n.log.last = x := ⟨_, rfl⟩
 obtain ⟨LT, hLT⟩ : ∃ x, n.log.lastT = x := ⟨_, rfl⟩
 have hL2 : bs + le = L := by rw [← hL, ← hbs]; unfold Lg.last; rw [hes, hlen]
 have hLT2 : lastTE bt q.es = LT := by
  rw [← hLT, ← hbt]
  unfold Lg.lastT lastTE
  rw [h.ee, List.getLast?_map, Option.map_map]
  rfl
 have LAST := Lib.hid (fun W => tlast_calls W bs bt ae le ce (by omega))
 have LTC := Lib.hid (fun W (f : Fr (fun _ _ => True) w W) => tlastT_calls W bs bt ae le ce q.es (hrow W f) hlen (by omega))
 rw [hL2] at LAST
 rw [hLT2] at LTC
 have CC : Hid (∀ W, Fr (fun _ _ => True) w W → W.cell? ⟨b, 0, none⟩ = some (.int .i64 (mN : Nat)) ∧ W.cell? ⟨b, 4, none⟩ = some q.vc ∧ W.cell? ⟨b, 6, none⟩ = some (.int .u64 (tm : Nat)) ∧ W.cell? ⟨b, 8, none⟩ = some (.int .u64 (bs : Nat)) ∧ W.cell? ⟨b, 9, none⟩ = some (.int .u64 (bt : Nat)) ∧ W.cell? ⟨b, 10, none⟩ = some (.slice ae le ce)) := fun W f => by
  obtain ⟨x0, x1, x2, x3, x4, x5, x6, x7, x8, x9, x10, x11, x12, x13⟩ := h.cells f
  exact ⟨by rw [x0, hme], x4, by rw [x6, htm0], by rw [x8, hbs], by rw [x9, hbt], by rw [x10, hve]⟩
 have CT := Lib.hid (fun k => (contains_calls (w.drewN k) q.vc n.conf (mN : Nat) (h.cf.tt ((Fr.refl _ w).drewN k)) (by unfold maxLen; omega)).mono fun e w' ⟨h1, h2⟩ => And.intro h1 h2.symm)
 have H := Lib.hid h
 obtain ⟨hs, hhs⟩ : ∃ x, hasI n.conf (mN : Nat) = x := ⟨_, rfl⟩
 rw [hhs] at CT
 have HHS := Lib.hid hhs
 have HME := Lib.hid hme
 have HFACT := Lib.hid (And.intro hbs (And.intro hbt (And.intro htm0 (And.intro htm1 (And.intro hL hLT)))))
 have HBD : Hid (tm + 1 < 18446744073709551616 ∧ L + 1 < 18446744073709551616 ∧ n.log.es.length ≤ 900000) := ⟨by omega, by omega, hle⟩
 have HCF := Lib.hid hcf
 have wt : IntKind.u64.wrap ((tm : Int) + 1) = (tm1 : Int) := by rw [IntKind.wrap_u64]; omega
 obtain ⟨vc, hvc⟩ : ∃ x, q.vc = x := ⟨_, rfl⟩
 have HVC := Lib.hid hvc
 rw [hvc] at CC CT
 obtain ⟨y0, y4, y6, y8, y9, y10⟩ := CC.out w (Fr.refl _ w)
 clear h hve hrow hlen hbs hbt htm0 htm1 hL hLT hL2 hLT2 hme hes htm hl hle hhs hcf hvc
 go_enter Tryz.func45, Tryz.ntmps45
 go_wp2_with fail
 go_quiet ((go_at_call 94; exact Calls.quiet_of_same (CT.out _)))
 clear y0 y4 y6 y8 y9 y10
 cases hs with
 | false =>
  go_wp2
  go_ret
  have e : n.askT = (n, []) := by unfold Nd.askT; rw [if_neg (by rw [HME.out, HHS.out]; decide)]
  rw [e]
  exact ⟨X, P, q, _, [], rfl, H.out.tt ((Fr.refl _ w).drewN nq), .tt ((Fr.refl _ w).drewN nq) H.out.px, OwnMs.nil _ _ _, rfl⟩
 | true =>
  have UD : Hid (Fr (fun _ _ => True) w (w.drewN nq).drew) := ((Fr.refl _ w).drewN nq).drew
  go_wp2_with fail
  refine wp_region_cf (K := fun _ _ => True) (by kernel_rfl) [(16, 0), (17, 1), (18, 2), (19, 3), (20, 4), (21, 5), (22, 6), (23, 7), (24, 8), (25, 9), (26, 10), (27, 11), (28, 12), (29, 13), (30, 14), (31, 15), (5, 16)] [(0, []), (1, [0]), (2, [1]), (3, [2]), (4, [3]), (5, []), (6, [5]), (7, [6]), (8, [7]), (10, []), (11, [10]), (12, [11]), (13, [12]), (15, [4, 9, 14]), (9, [8]), (14, [13]), (16, [])] (ckR [(0, .pointer (some ⟨b, 0, none⟩)), (1, .pointer (some ⟨b, 0, none⟩)), (2, .pointer (some ⟨b, 6, none⟩)), (3, .int .u64 (tm : Nat)), (4, .int .u64 (tm1 : Nat)), (5, .pointer (some ⟨b, 0, none⟩)), (6, .pointer (some ⟨b, 0, none⟩)), (7, .pointer (some ⟨b, 8, none⟩)), (8, .agg #[.int .u64 (bs : Nat), .int .u64 (bt : Nat), .slice ae le ce]), (9, .int .u64 (L : Nat)), (10, .pointer (some ⟨b, 0, none⟩)), (11, .pointer (some ⟨b, 0, none⟩)), (12, .pointer (some ⟨b, 8, none⟩)), (13, .agg #[.int .u64 (bs : Nat), .int .u64 (bt : Nat), .slice ae le ce]), (14, .int .u64 (LT : Nat)), (15, .agg #[.int .i64 3, .int .i64 0, .int .i64 0, .int .u64 (tm1 : Nat), .int .u64 (L : Nat), .int .u64 (LT : Nat), .int .u64 0, .bool false, .slice none 0 0, .slice none 0 0])] [(16, ⟨fun v W => ∃ g, v = .pointer (some ⟨g, 0, none⟩) ∧ w.heap.size ≤ g ∧ W.heap[g]? = some (.cells (cM zMV) 32 (0, 0)), fun v W W' h hf => by obtain ⟨g, h1, h2, h3⟩ := h; exact ⟨g, h1, h2, hf.keep _ _ h3 trivial⟩⟩)] 17 0) 1 (by kernel_rfl) (by kernel_rfl) (by kernel_rfl) rfl ?cfall ?cfend
  case cfall =>
   iterate 14
    refine CfAll.kk rfl rfl rfl (fun xs W hF hE K' hK => ?_) ?_
    ·have HF := Lib.hid hF
     clear hF
     simp only [ckEqs, ckLook, Nat.reduceBEq] at hE
     simp only [fillA, fillL, sA, sB, sC, Act.put, hE] at hK ⊢
     clear hE
     obtain ⟨y0, y4, y6, y8, y9, y10⟩ := CC.out W (UD.out.trans HF.out)
     (try simp only [gA, gB, gC])
     go_simp
     exact hK.out _ rfl
   refine CfAll.k rfl rfl (fun xs W hF hA hE K' hK => ?_) ?_
   ·have HF := Lib.hid hF
    clear hA hF
    simp only [ckEqs, ckLook, Nat.reduceBEq] at hE
    simp only [fillA, fillL, sA, sB, sC, Act.put, hE] at hK ⊢
    clear hE
    have LA1 := Lib.hid (LAST.out W)
    dsimp only [vL] at LA1
    (try simp only [gA, gB, gC])
    go_simp
    (with_reducible refine LA1.out.mono ?_)
    rintro e w8 ⟨rfl, f8⟩
    exact hK.out _ _ _ rfl f8 rfl
   refine CfAll.k rfl rfl (fun xs W hF hA hE K' hK => ?_) ?_
   ·have HF := Lib.hid hF
    clear hA hF
    simp only [ckEqs, ckLook, Nat.reduceBEq] at hE
    simp only [fillA, fillL, sA, sB, sC, Act.put, hE] at hK ⊢
    clear hE
    have LA1 := Lib.hid (LTC.out W (UD.out.trans HF.out))
    dsimp only [vL] at LA1
    (try simp only [gA, gB, gC])
    go_simp
    (with_reducible refine LA1.out.mono ?_)
    rintro e w8 ⟨rfl, f8⟩
    exact hK.out _ _ _ rfl f8 rfl
   refine CfAll.k rfl rfl (fun xs W hF hA hE K' hK => ?_) ?_
   ·have HF := Lib.hid hF
    clear hA hF
    simp only [ckEqs, ckLook, Nat.reduceBEq] at hE
    simp only [fillA, fillL, sA, sB, sC, Act.put, hE] at hK ⊢
    clear hE
    have SB : Hid (w.heap.size ≤ W.heap.size) := (UD.out.trans HF.out).size
    (try simp only [gA, gB, gC])
    go_simp
    exact hK.out _ _ _ rfl ((Fr.refl _ _).alloc _) ⟨_, rfl, SB.out, heap_alloc_new _ _⟩
   exact CfAll.nil
  case cfend =>
   intro xs W hF hA
   have HF := Lib.hid hF
   have hE := ckEnd rfl hA
   have h16 := hA (16, []) (by decide)
   clear hA hF
   simp only [List.map_cons, List.map_nil, ckEqs, ckLook, Nat.reduceBEq] at hE
   simp only [fillA, fillL, sA, sB, sC, hE]
   clear hE
   obtain ⟨g, e16, hgw, tg⟩ := h16
   rw [e16]
   have TG := Lib.hid tg
   have HGW := Lib.hid hgw
   have FW := Lib.hid (UD.out.trans HF.out)
   obtain ⟨m0, hm0⟩ : ∃ m : MV, (⟨3, 0, 0, tm1, L, LT, 0, false, none, 0, [], none, 0, []⟩ : MV) = m := ⟨_, rfl⟩
   obtain ⟨W2, hW2', t2, f2⟩ := set10 tg (.int .i64 3) (.int .i64 0) (.int .i64 0) (.int .u64 (tm1 : Nat)) (.int .u64 (L : Nat)) (.int .u64 (LT : Nat)) (.int .u64 0) (.bool false) (.slice none 0 0) (.slice none 0 0)
   have T2 : Hid (W2.heap[g]? = some (.cells (cM m0) 32 (0, 0))) := by rw [← hm0]; exact t2
   have F2 := Lib.hid f2
   clear t2 f2
   have H2 := Lib.hid ((H.out.tt FW.out).msg F2.out ⟨_, _, tg⟩ (by have := lt_of_some H.out.top; have := HGW.out; omega))
   have FP2 : Hid (Fr (fun c _ => ¬ P c) w W2) := ((FW.out.mono fun _ _ _ => trivial : Fr (fun c _ => ¬ P c ∧ c < w.heap.size) w W).trans (F2.out.mono fun c _ h e => by have := h.2; have := HGW.out; omega)).within
   obtain ⟨v0, v1, v2, v3, v4, v5, v6, v7, v8, v9⟩ := mcells tg
   have z0 := frozen_mk (i := 0) tg
   have z1 := frozen_mk (i := 1) tg
   have z2 := frozen_mk (i := 2) tg
   have z3 := frozen_mk (i := 3) tg
   have z4 := frozen_mk (i := 4) tg
   have z5 := frozen_mk (i := 5) tg
   have z6 := frozen_mk (i := 6) tg
   have z7 := frozen_mk (i := 7) tg
   have z8 := frozen_mk (i := 8) tg
   have z9 := frozen_mk (i := 9) tg
   refine wpAny_next 17 (by kernel_rfl) rfl fun K' hK => ?_
   (try simp only [gA, gB, gC])
   go_simp
   refine hK.out _ _ ?_
   clear hK K'
   refine wpAny_fin (by kernel_rfl) ?_
   try rw [hW2']
   clear z0 z1 z2 z3 z4 z5 z6 z7 z8 z9 v0 v1 v2 v3 v4 v5 v6 v7 v8 v9 hW2' tg
   have Ha : Hid (PNs X P (sets W2 b [(2, .int .i64 1)]) b { n with role := 1 } q) := H2.out.re (sets_fr b _ W2) (sets_heap _ H2.out.top) ⟨rfl, rfl⟩ (.inl ⟨rfl, rfl⟩) ⟨rfl, rfl, rfl⟩ ⟨rfl, rfl, rfl, rfl⟩
   have x2 := (H2.out.cells (Fr.refl _ W2)).2.2.1
   have z2 := H2.out.free (Fr.refl _ W2) 2
   obtain ⟨Wa, hWa⟩ : ∃ Y, W2.setCell ⟨b, 2, none⟩ (.int .i64 1) = Y := ⟨_, rfl⟩
   have FPa : Hid (Fr (fun c _ => ¬ P c) w Wa) := hWa ▸ FP2.out.setCell (p := ⟨b, 2, none⟩) (fun _ _ h => h H.out.pb) _
   have Ta : Hid (Wa.heap[g]? = some (.cells (cM m0) 32 (0, 0))) := by
    rw [← hWa]
    rw [show (W2.setCell ⟨b, 2, none⟩ (.int .i64 1)).heap[g]? = W2.heap[g]? from heap_setCell_ne (fun e => by have := HGW.out; have := lt_of_some H.out.top; omega) _]
    exact T2.out
   replace Ha : Hid (PNs X P Wa b { n with role := 1 } q) := hWa ▸ Ha.out
   go_wp2_with fail
   try rw [hWa]
   clear x2 z2 hWa
   obtain ⟨x0, x1, x2, x3, x4, x5, x6, x7, x8, x9, x10, x11, x12, x13⟩ := Ha.out.cells (Fr.refl _ Wa)
   have e0 : Wa.cell? ⟨b, 0, none⟩ = some (.int .i64 (mN : Nat)) := by rw [x0]; show some (Value.int .i64 n.me) = _; rw [HME.out]
   have e6 : Wa.cell? ⟨b, 6, none⟩ = some (.int .u64 (tm : Nat)) := by rw [x6]; show some (Value.int .u64 (n.tm : Nat)) = _; rw [HFACT.out.2.2.1]
   have z1 := Ha.out.free (Fr.refl _ Wa) 1
   have z2 := Ha.out.free (Fr.refl _ Wa) 2
   have z6 := Ha.out.free (Fr.refl _ Wa) 6
   clear x0 x3 x4 x5 x6 x7 x8 x9 x10 x11 x12 x13
   go_region_with (fail)
   all_goals
    obtain ⟨Wb, hWb⟩ : ∃ Y, (((Wa.setCell ⟨b, 6, none⟩ (.int .u64 (tm1 : Nat))).setCell ⟨b, 1, none⟩ (.int .i64 (mN : Nat))).setCell ⟨b, 2, none⟩ (.int .i64 2)).drew = Y := ⟨_, rfl⟩
    have Hb : Hid (PNs X P Wb b { n with role := 2, tm := tm1, vote := (mN : Nat) } q) := by
     show PNs _ _ _ _ _ _
     rw [← hWb]
     exact (Ha.out.re (n' := { n with role := 2, tm := tm1, vote := (mN : Nat) }) (w' := sets Wa b [(6, .int .u64 (tm1 : Nat)), (1, .int .i64 (mN : Nat)), (2, .int .i64 2)]) (sets_fr b _ _) (sets_heap _ Ha.out.top) ⟨rfl, rfl⟩ (.inl ⟨rfl, rfl⟩) ⟨rfl, rfl, rfl⟩ ⟨rfl, rfl, rfl, rfl⟩).tt (Fr.refl _ _).drew
    have fb : Fr (fun c _ => c ≠ b) Wa Wb := by
     rw [← hWb]
     exact (sets_fr b [(6, .int .u64 (tm1 : Nat)), (1, .int .i64 (mN : Nat)), (2, .int .i64 2)] Wa).drew
    try rw [hWb]
    clear hWb e0 e6 z1 z2 z6 x1 x2
    have hgb : g ≠ b := fun e => by have := HGW.out; have := lt_of_some H.out.top; omega
    have Tb : Hid (Wb.heap[g]? = some (.cells (cM m0) 32 (0, 0))) := fb.keep _ _ Ta.out hgb
    have FPb : Hid (Fr (fun c _ => ¬ P c) w Wb) := FPa.out.trans (fb.mono fun c _ hc e => hc (e ▸ H.out.pb))
    obtain ⟨m1, hm1⟩ : ∃ m : MV, (⟨1, 0, 0, tm1, L, LT, 0, false, none, 0, [], none, 0, []⟩ : MV) = m := ⟨_, rfl⟩
    have g0 := (mcells Tb.out).1
    have zg := frozen_mk (i := 0) Tb.out
    obtain ⟨Wc, hWc⟩ : ∃ Y, Wb.setCell ⟨g, 0, none⟩ (.int .i64 1) = Y := ⟨_, rfl⟩
    have fc : Fr (fun c _ => c ≠ g) Wb Wc := hWc ▸ (Fr.refl _ _).setCell (fun _ _ h => h rfl) _
    have Tc : Hid (Wc.heap[g]? = some (.cells (cM m1) 32 (0, 0))) := by
     rw [← hWc, ← hm1]
     have := heap_setCell_same (o := 0) Tb.out (.int .i64 1)
     rw [← hm0] at this
     exact this
    have Hc := Lib.hid (Hb.out.msg fc ⟨_, _, Tb.out⟩ (by have := lt_of_some H.out.top; have := HGW.out; omega))
    have FPc : Hid (Fr (fun c _ => ¬ P c) w Wc) := ((FPb.out.mono fun c _ h => h.1 : Fr (fun c _ => ¬ P c ∧ c < w.heap.size) w Wb).trans (fc.mono fun c _ h e => by have := h.2; have := HGW.out; omega)).within
    have SC : Hid (w.heap.size ≤ Wc.heap.size) := FPc.out.size
    have c0 : Wc.cell? ⟨b, 0, none⟩ = some (.int .i64 (mN : Nat)) := by rw [(Hc.out.cells (Fr.refl _ Wc)).1]; show some (Value.int .i64 n.me) = _; rw [HME.out]
    obtain ⟨Wd, hWd⟩ : ∃ Y, Wc.alloc (.cells #[.int .i64 (mN : Nat)] 3 (0, 0)) = Y := ⟨_, rfl⟩
    have fd : Fr (fun _ _ => True) Wc Wd := hWd ▸ (Fr.refl _ _).alloc _
    have TYd : Wd.heap[Wc.heap.size]? = some (.cells #[.int .i64 (mN : Nat)] 3 (0, 0)) := hWd ▸ heap_alloc_new _ _
    have Hd := Lib.hid (Hc.out.tt fd)
    have d3 := (Hd.out.cells (Fr.refl _ Wd)).2.2.2.1
    have d5 := (Hd.out.cells (Fr.refl _ Wd)).2.2.2.2.2.1
    have zd3 := Hd.out.free (Fr.refl _ Wd) 3
    have zd5 := Hd.out.free (Fr.refl _ Wd) 5
    obtain ⟨We, hWe⟩ : ∃ Y, (Wd.setCell ⟨b, 3, none⟩ (.int .i64 (-1))).setCell ⟨b, 5, none⟩ (.slice (some ⟨Wc.heap.size, 0, none⟩) 1 1) = Y := ⟨_, rfl⟩
    have hWe' : sets Wd b [(3, .int .i64 (-1)), (5, .slice (some ⟨Wc.heap.size, 0, none⟩) 1 1)] = We := hWe
    have fe : Fr (fun c _ => c ≠ b) Wd We := hWe' ▸ sets_fr b _ Wd
    have hby : Wc.heap.size ≠ b := fun e => by have := lt_of_some Hc.out.top; omega
    have TYe : We.heap[Wc.heap.size]? = some (.cells #[.int .i64 (mN : Nat)] 3 (0, 0)) := fe.keep _ _ TYd hby
    obtain ⟨n1, hn1⟩ : ∃ m : Nd, { n with role := 2, tm := tm1, vote := (mN : Nat), ld := -1, yes := [((mN : Nat) : Int)] } = m := ⟨_, rfl⟩
    obtain ⟨q1, hq1⟩ : ∃ m : NV, { q with vy := .slice (some ⟨Wc.heap.size, 0, none⟩) 1 1 } = m := ⟨_, rfl⟩
    have HY := Hc.out.reY (w' := We) (n' := { n with role := 2, tm := tm1, vote := (mN : Nat), ld := -1, yes := [((mN : Nat) : Int)] }) (q' := { q with vy := .slice (some ⟨Wc.heap.size, 0, none⟩) 1 1 }) ((fd.mono fun _ _ _ => trivial).trans fe) (hWe' ▸ sets_heap _ (fd.keep _ _ Hc.out.top trivial)) ⟨rfl, rfl⟩ ⟨rfl, rfl, rfl⟩ ⟨rfl, rfl, rfl, rfl⟩ Wc.heap.size ⟨rfl, .inr ⟨_, 1, _, rfl, Nat.zero_le _, TYe, Nat.le_refl _, by unfold maxLen; decide, rfl, rfl⟩⟩ rfl (Nat.le_refl _)
    rw [hn1, hq1] at HY
    have H5 := Lib.hid HY.1
    have A5 := Lib.hid ((Aft.of FPc.out H.out.px).trans HY.2)
    obtain ⟨X1, hX1⟩ : ∃ Z : Nat → Prop, (fun c => X c ∨ c = Wc.heap.size) = Z := ⟨_, rfl⟩
    obtain ⟨P1, hP1⟩ : ∃ Z : Nat → Prop, (fun c => P c ∨ c = Wc.heap.size) = Z := ⟨_, rfl⟩
    rw [hX1, hP1] at H5 A5
    have T5 : Hid (We.heap[g]? = some (.cells (cM m1) 32 (0, 0))) := fe.keep _ _ (fd.keep _ _ Tc.out trivial) hgb
    have hq4 : n1.conf = n.conf ∧ q1.vc = vc ∧ n1.yes = [((mN : Nat) : Int)] ∧ q1.vy = .slice (some ⟨Wc.heap.size, 0, none⟩) 1 1 := by rw [← hn1, ← hq1]; exact ⟨rfl, HVC.out, rfl, rfl⟩
    have AG := Lib.hid (fun k => (agrees_calls (We.drewN k) q1.vc q1.vy n1.conf n1.yes (H5.out.cf.tt ((Fr.refl _ We).drewN k)) (H5.out.ye.ints.tt ((Fr.refl _ We).drewN k)) (by rw [hq4.1]; have := HCF.out; unfold maxLen; omega) (by rw [hq4.2.2.1]; show 1 ≤ maxLen; unfold maxLen; decide)).mono fun e w' ⟨h1, h2⟩ => And.intro h1 h2.symm)
    rw [hq4.2.1, hq4.2.2.2, hq4.1, hq4.2.2.1] at AG
    obtain ⟨ag, hag⟩ : ∃ x, agrI n.conf [((mN : Nat) : Int)] = x := ⟨_, rfl⟩
    rw [hag] at AG
    have HAG := Lib.hid hag
    have HN1 := Lib.hid hn1
    have HM1 := Lib.hid hm1
    have f4 : We.cell? ⟨b, 4, none⟩ = some vc := by rw [(H5.out.cells (Fr.refl _ We)).2.2.2.2.1, hq4.2.1]
    have f5 : We.cell? ⟨b, 5, none⟩ = some (.slice (some ⟨Wc.heap.size, 0, none⟩) 1 1) := by rw [(H5.out.cells (Fr.refl _ We)).2.2.2.2.2.1, hq4.2.2.2]
    have TOF : Hid (∀ k, Calls Tryz.prog 98 #[.pointer (some ⟨b, 0, none⟩), .agg (cM m1)] (We.drewN k) fun e w' => (∃ v, e = .returned v ∧ OwnMs X1 (We.drewN k).heap.size w' v (n1.others.map (toMV n1.me m1))) ∧ Fr (fun _ _ => True) (We.drewN k) w') := fun k => toall_calls (H5.out.tt ((Fr.refl _ We).drewN k)) (by rw [hq4.1]; exact HCF.out) m1 (by rw [← hm1]; exact ⟨BytesAt.nil _ _, EsAt.nil _ _⟩)
    clear HY hX1 hP1 hq4 hag hn1 hm1 hm0 hq1 TYe TYd hWe'
    go_wp2_with fail
    try rw [hWc]
    try rw [hWd]
    try rw [hWe]
    clear hWc hWd hWe c0 d3 d5 zd3 zd5 g0 zg fb fc fd fe
    go_quiet ((go_at_call 96; exact Calls.quiet_of_same (AG.out _)))
    have U5 : Hid (Fr (fun _ _ => True) We (We.drewN nq)) := (Fr.refl _ We).drewN nq
    have OUT : Hid (n.askT = if ag = true then (n1.lead, []) else (n1, n1.toAll m1.ms)) := by
     show n.askT = _
     rw [← HAG.out, ← HN1.out, ← HM1.out]
     unfold Nd.askT
     rw [if_pos (by rw [HME.out]; exact HHS.out)]
     rw [HME.out, HFACT.out.2.2.1, HFACT.out.2.2.2.1, HFACT.out.2.2.2.2.1, HFACT.out.2.2.2.2.2]
     rfl
    clear AG f4 f5
    cases ag with
    | true =>
     replace OUT : Hid (n.askT = (n1.lead, [])) := OUT.out.trans (if_pos rfl)
     have CHO := Lib.hid (chosen_lead (H5.out.tt U5.out) (by rw [← HN1.out]; show (2 : Int) ≠ 1; decide) mN (by rw [← HN1.out]; exact HME.out) hm16 (by rw [← HN1.out]; show n.log.last + 1 < _; rw [HFACT.out.2.2.2.2.1]; exact HBD.out.2.1) (by rw [← HN1.out]; exact HBD.out.2.2))
     clear HAG HN1
     go_wp2_with fail
     (with_reducible refine CHO.out.mono ?_)
     intro e w9 ho
     replace ho := ho.behind (A5.out.tr U5.out)
     obtain ⟨X', P', q', v, mvs, rfl, h2, h3, h4, h5⟩ := ho
     have HH := Lib.hid (And.intro h2 (And.intro h3 (And.intro h4 h5)))
     clear h2 h3 h4 h5 CHO
     go_wp2
     go_ret
     rw [OUT.out]
     exact ⟨X', P', q', _, mvs, rfl, HH.out.1, HH.out.2.1, HH.out.2.2.1, HH.out.2.2.2⟩
    | false =>
     replace OUT : Hid (n.askT = (n1, n1.toAll m1.ms)) := OUT.out.trans (if_neg (by decide))
     have T6 : Hid ((We.drewN nq).heap[g]? = some (.cells (cM m1) 32 (0, 0))) := U5.out.keep _ _ T5.out trivial
     have TOF1 := Lib.hid (TOF.out nq)
     clear TOF HAG HN1
     obtain ⟨v0, v1, v2, v3, v4, v5, v6, v7, v8, v9⟩ := mcells T6.out
     rw [← HM1.out] at v0 v1 v2 v3 v4 v5 v6 v7 v8 v9 TOF1
     replace TOF1 : Hid (Calls Tryz.prog 98 #[.pointer (some ⟨b, 0, none⟩), .agg #[.int .i64 1, .int .i64 0, .int .i64 0, .int .u64 (tm1 : Nat), .int .u64 (L : Nat), .int .u64 (LT : Nat), .int .u64 0, .bool false, .slice none 0 0, .slice none 0 0]] (We.drewN nq) _) := TOF1
     go_wp2_with fail
     (with_reducible refine TOF1.out.mono ?_)
     rintro e w9 ⟨⟨v, rfl, ho⟩, f9⟩
     have HO := Lib.hid ho
     have F9 := Lib.hid f9
     have A9 := Lib.hid ((A5.out.tr U5.out).tr F9.out)
     clear ho f9
     go_wp2
     go_ret
     rw [OUT.out]
     refine ⟨X1, P1, q1, _, _, rfl, (H5.out.tt U5.out).tt F9.out, A9.out, HO.out.lo (A5.out.tr U5.out).fr.size, ?_⟩
     rw [HM1.out]
     show (n1.others.map _).map _ = _
     rw [List.map_map]
     rfl
end
end Go.Proofs.YtmjccpfchhnfhaaGreat
/- elect: would, OnAsk (printed by onask.py). -/
namespace Go.Proofs.YtmjccpfchhnfhaaGreat
open Go.RowKit
set_option linter.unusedVariables false
set_option linter.unusedSimpArgs false
section
variable {X P : Nat → Prop} {w w' : World} {b : Nat} {n n' : Nd} {q q' : NV}
end
end Go.Proofs.YtmjccpfchhnfhaaGreat
/- elect: OnAsk (printed by onask.py). -/
namespace Go.Proofs.YtmjccpfchhnfhaaGreat
open Go.RowKit
set_option linter.unusedVariables false
set_option linter.unusedSimpArgs false
section
variable {X P : Nat → Prop} {w w' : World} {b : Nat} {n n' : Nd} {q q' : NV}
theorem OwnMs.one [Old] {X : Nat → Prop} {W : World} (m : MV) (hX : ∀ c, X c → c < W.heap.size) (hm : MsAt X (W.alloc (.cells (cM m) 32 (0, 0))) m) : OwnMs X W.heap.size (W.alloc (.cells (cM m) 32 (0, 0))) (.slice (some ⟨W.heap.size, 0, none⟩) 1 1) [m] := by
 refine ⟨⟨rfl, .inr ⟨_, 1, _, rfl, Nat.le_refl _, heap_alloc_new _ _, Nat.le_refl _, by unfold maxLen; decide, rfl, rfl⟩⟩, fun c e h => ?_, fun x hx => ?_⟩
 ·cases e
  exact absurd (hX _ h) (Nat.lt_irrefl _)
 ·simp only [List.mem_cons, List.not_mem_nil, or_false] at hx
  subst hx
  exact hm
abbrev aMV (k me s : Int) (tm : Nat) (ok : Bool) : MV := ⟨k, me, s, tm, 0, 0, 0, ok, none, 0, [], none, 0, []⟩
set_option maxRecDepth 100000 in
set_option maxHeartbeats 8000000 in
theorem onAsk0_calls [Old] (h : PNs X P w b n q) (m : MV) (hk1 : m.kind ≠ 1) (hk3 : m.kind ≠ 3) (hl : n.log.last + 1 < 18446744073709551616) (hle : n.log.es.length ≤ 900000) :
  Calls Tryz.prog 86 #[.pointer (some ⟨b, 0, none⟩), .agg (cM m)] w fun e w' => NOut X P w b (n.onAsk m.ms) e w' := by
 obtain ⟨W1, hW1, F1, X1⟩ := mbox w m
 obtain ⟨g0, hg0⟩ : ∃ x, w.heap.size = x := ⟨_, rfl⟩
 rw [hg0] at X1
 have H := Lib.hid h
 have HG0 := Lib.hid hg0
 obtain ⟨k, hk⟩ : ∃ x, m.kind = x := ⟨_, rfl⟩
 obtain ⟨s, hs⟩ : ∃ x, m.src = x := ⟨_, rfl⟩
 obtain ⟨me, hme⟩ : ∃ x, n.me = x := ⟨_, rfl⟩
 have HK := Lib.hid hk
 have HS := Lib.hid hs
 have HME := Lib.hid hme
 have VC : Hid (∀ W, Fr (fun _ _ => True) W1 W → W.heap[g0]? = some (.cells (cM m) 32 (0, 0))) := fun W f => f.keep _ _ X1.out trivial
 have UD : Hid (Fr (fun _ _ => True) w W1.drew) := F1.out.drew
 unfold cM at hW1 ⊢
 clear h hg0 hk hs hme
 go_enter Tryz.func86, Tryz.ntmps86
 go_wp2_with fail
 try rw [hW1]
 rw [HG0.out]
 clear hW1
 refine wp_region_cf (K := fun _ _ => True) (by kernel_rfl) [(6, 0), (7, 1), (8, 2), (9, 3), (10, 4), (11, 5), (12, 6), (5, 7)] [(0, []), (1, [0]), (2, [1]), (3, [2]), (4, []), (5, [4]), (6, [3, 5]), (7, [])] (ckR [(0, .pointer (some ⟨b, 0, none⟩)), (1, .pointer (some ⟨b, 0, none⟩)), (2, .pointer (some ⟨b, 0, none⟩)), (3, .int .i64 me), (4, .pointer (some ⟨g0, 1, none⟩)), (5, .int .i64 s), (6, .agg #[.int .i64 0, .int .i64 me, .int .i64 s, .int .u64 0, .int .u64 0, .int .u64 0, .int .u64 0, .bool false, .slice none 0 0, .slice none 0 0])] [(7, ⟨fun v W => ∃ g, v = .pointer (some ⟨g, 0, none⟩) ∧ g0 < g ∧ W.heap[g]? = some (.cells (cM zMV) 32 (0, 0)), fun v W W' h hf => by obtain ⟨g, h1, h2, h3⟩ := h; exact ⟨g, h1, h2, hf.keep _ _ h3 trivial⟩⟩)] 8 0) 1 (by kernel_rfl) (by kernel_rfl) (by kernel_rfl) rfl ?cfall ?cfend
 case cfall =>
  iterate 7
   refine CfAll.kk rfl rfl rfl (fun xs W hF hE K' hK => ?_) ?_
   ·have HF := Lib.hid hF
    clear hF
    simp only [ckEqs, ckLook, Nat.reduceBEq] at hE
    simp only [fillA, fillL, sA, sB, sC, Act.put, hE] at hK ⊢
    clear hE
    have y0 : W.cell? ⟨b, 0, none⟩ = some (.int .i64 me) := by rw [← HME.out]; exact (H.out.cells (UD.out.trans HF.out)).1
    have v1 : W.cell? ⟨g0, 1, none⟩ = some (.int .i64 s) := by rw [← HS.out]; exact (mcells (VC.out W ((Fr.refl _ W1).drew.trans HF.out))).2.1
    (try simp only [gA, gB, gC])
    go_simp
    exact hK.out _ rfl
  refine CfAll.k rfl rfl (fun xs W hF hA hE K' hK => ?_) ?_
  ·have HF := Lib.hid hF
   clear hA hF
   simp only [ckEqs, ckLook, Nat.reduceBEq] at hE
   simp only [fillA, fillL, sA, sB, sC, Act.put, hE] at hK ⊢
   clear hE
   have SB : Hid (g0 < W.heap.size) := lt_of_some (VC.out W ((Fr.refl _ W1).drew.trans HF.out))
   (try simp only [gA, gB, gC])
   go_simp
   exact hK.out _ _ _ rfl ((Fr.refl _ _).alloc _) ⟨_, rfl, SB.out, heap_alloc_new _ _⟩
  exact CfAll.nil
 case cfend =>
  intro xs W hF hA
  have HF := Lib.hid hF
  have hE := ckEnd rfl hA
  have h7 := hA (7, []) (by decide)
  clear hA hF
  simp only [List.map_cons, List.map_nil, ckEqs, ckLook, Nat.reduceBEq] at hE
  simp only [fillA, fillL, sA, sB, sC, hE]
  clear hE
  obtain ⟨g, e7, hgw, tg⟩ := h7
  rw [e7]
  have HGW := Lib.hid hgw
  have FW := Lib.hid (UD.out.trans HF.out)
  have F1W : Hid (Fr (fun _ _ => True) W1 W) := (Fr.refl _ W1).drew.trans HF.out
  obtain ⟨W2, hW2', t2, f2⟩ := set10 tg (.int .i64 0) (.int .i64 me) (.int .i64 s) (.int .u64 0) (.int .u64 0) (.int .u64 0) (.int .u64 0) (.bool false) (.slice none 0 0) (.slice none 0 0)
  have T2 : Hid (W2.heap[g]? = some (.cells (cM (aMV 0 me s 0 false)) 32 (0, 0))) := t2
  have F2 := Lib.hid f2
  clear t2 f2
  have H2 := Lib.hid ((H.out.tt FW.out).msg F2.out ⟨_, _, tg⟩ (by have := lt_of_some H.out.top; have := HGW.out; have := HG0.out; omega))
  have FP2 : Hid (Fr (fun c _ => ¬ P c) w W2) := ((FW.out.mono fun _ _ _ => trivial : Fr (fun c _ => ¬ P c ∧ c < w.heap.size) w W).trans (F2.out.mono fun c _ h e => by have := h.2; have := HGW.out; have := HG0.out; omega)).within
  have T02 : Hid (W2.heap[g0]? = some (.cells (cM m) 32 (0, 0))) := F2.out.keep _ _ (VC.out W F1W.out) (by have := HGW.out; omega)
  obtain ⟨v0, v1, v2, v3, v4, v5, v6, v7, v8, v9⟩ := mcells tg
  have z0 := frozen_mk (i := 0) tg
  have z1 := frozen_mk (i := 1) tg
  have z2 := frozen_mk (i := 2) tg
  have z3 := frozen_mk (i := 3) tg
  have z4 := frozen_mk (i := 4) tg
  have z5 := frozen_mk (i := 5) tg
  have z6 := frozen_mk (i := 6) tg
  have z7 := frozen_mk (i := 7) tg
  have z8 := frozen_mk (i := 8) tg
  have z9 := frozen_mk (i := 9) tg
  refine wpAny_next 8 (by kernel_rfl) rfl fun K' hK => ?_
  (try simp only [gA, gB, gC])
  go_simp
  refine hK.out _ _ ?_
  clear hK K'
  refine wpAny_fin (by kernel_rfl) ?_
  try rw [hW2']
  clear z0 z1 z2 z3 z4 z5 z6 z7 z8 z9 v0 v1 v2 v3 v4 v5 v6 v7 v8 v9 hW2' tg
  have gb : Hid (g0 ≠ b ∧ g ≠ b) := by have := lt_of_some H.out.top; have := HG0.out; have := HGW.out; show _ ∧ _; omega
  have v0 : W2.cell? ⟨g0, 0, none⟩ = some (.int .i64 k) := by rw [← HK.out]; exact (mcells T02.out).1
  have k1 : (k == 1) = false := by simpa [HK.out] using hk1
  have k3 : (k == 3) = false := by simpa [HK.out] using hk3
  have e : n.onAsk m.ms = (n, []) := by unfold Nd.onAsk; rw [if_neg (by show ¬ (m.kind = 1 ∨ m.kind = 3); omega)]
  have E := Lib.hid e
  clear e hk1 hk3
  go_wp2
  go_ret
  rw [E.out]
  exact ⟨X, P, q, _, [], rfl, H2.out, .of FP2.out H.out.px, OwnMs.nil _ _ _, rfl⟩
end
end Go.Proofs.YtmjccpfchhnfhaaGreat
