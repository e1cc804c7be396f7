/- Texts of the proofs, part 22: what the functions that they reach do, walked; no conditions beyond those that each states. -/
import Derived.Sort.WalkA
import Derived.Test.YtmjccpfchhnfhaaZz8e7fa27e35
import Derived.Test.YtmjccpfchhnfhaaZz089b9c4578
set_option linter.unusedVariables false
set_option linter.unusedSimpArgs false
/- slices.Sort of numbers of 64 bits, short rows: the walk of the kit's Derived/Sort/WalkA.lean (at int), turned to uint64. -/
namespace Go.Proofs.Ytmjccpfchhnfhaa
open Go.RowKit Go.Sort Go.Lib
set_option linter.unusedVariables false
theorem less_u64 (x y : Int) (w : World) : Calls Try.prog 91 #[.int .u64 x, .int .u64 y] w fun e w' => e = .returned (.bool (Sort.ltInt x y)) ∧ w' = w := by
 go_enter Try.func91, Try.ntmps91
 go_wp2
 go_ret
 exact ⟨rfl, rfl⟩
set_option maxRecDepth 100000 in
set_option maxHeartbeats 2000000 in
theorem insort_u64 (blk off cap a b : Nat) (d : Array Int) (w : World) (hH : Holds (Value.int .u64) w blk off d) (hab : a ≤ b) (hb : b ≤ d.size) (hsz : d.size < 4611686018427387904) :
  Calls Try.prog 85 #[.slice (some ⟨blk, off, none⟩) d.size cap, .int .i64 a, .int .i64 b] w fun e w' =>
   e = .returned (.tuple #[]) ∧ ∃ n, w' = putRow (Value.int .u64) (Sort.ahead w n) blk off (Sort.insertionSort ltInt d a b) := by
 go_enter Try.func85, Try.ntmps85
 go_wp2
 go_loopw [6] (fun vi wr => ∃ (i n : Nat) (dk : Array Int), vi = .int .i64 i ∧ a < i ∧ i ≤ b + 1 ∧ dk.size = d.size ∧ wr = putRow (Value.int .u64) (Sort.ahead w n) blk off dk ∧
   insOuter ltInt a b i dk = insOuter ltInt a b (a + 1) d) (fun vi _ => b + 1 - (intOf vi).toNat)
 case atStart => exact ⟨a + 1, 0, d, by go_num, by omega, by omega, rfl, (putRow_self _ _ _ _ _ hH).symm, rfl⟩
 case round =>
  obtain ⟨i, n, dk, rfl, hai, hib, hsk, hwr, hO⟩ := hrel
  have HO : Hid (insOuter ltInt a b i dk = insOuter ltInt a b (a + 1) d) := hO
  clear hO
  go_wp2
  ·-- i < b: the inner loop
   go_loopw [7] (fun vj wr2 => ∃ (j m : Nat) (dj : Array Int), vj = .int .i64 j ∧ a ≤ j ∧ j ≤ i ∧ dj.size = d.size ∧ wr2 = putRow (Value.int .u64) (Sort.ahead w m) blk off dj ∧
     insInner ltInt a j dj = insInner ltInt a i dk) (fun vj _ => (intOf vj).toNat)
   case atStart => exact ⟨i, n, dk, rfl, by omega, Nat.le_refl _, hsk, rfl, rfl⟩
   case round =>
    obtain ⟨j, m, dj, rfl, haj, hji, hsj, hw2, hI⟩ := hrel
    have hlt : i < b := by assumption
    -- the row's contents under a name of their own (the authors' find: with 'j < d.size' at hand the walk's simp turns 'dj[j]!' into 'dj[j]'); its two families: Derived/CellFam.lean serves every load and store from them
    obtain ⟨G, hG⟩ : ∃ G : Nat → Int, ∀ t, G t = dj[t]! := ⟨fun t => dj[t]!, fun _ => rfl⟩
    have hcw : ∀ t, t < d.size → wr.cell? ⟨blk, off + t, none⟩ = some (.int .u64 (G t)) := fun t ht => by
     rw [hw2, hG]; exact cell?_putRow _ _ _ _ d dj (holds_ahead _ _ _ _ _ _ hH) hsj t (by omega)
    have hfw : ∀ t, t < d.size → wr.frozen? ⟨blk, off + t, none⟩ = false := fun t ht => by
     rw [hw2, frozen?_putRow]; exact ((holds_ahead _ _ m _ _ _ hH) t ht).2
    have HW : Hid (wr = putRow (Value.int .u64) (Sort.ahead w m) blk off dj) := hw2
    have HG : Hid (∀ t, G t = dj[t]!) := hG
    have HI : Hid (insInner ltInt a j dj = insInner ltInt a i dk) := hI
    clear hw2 hG hI hH
    -- out of the inner loop: dj is what the inner loop makes of dk: the outer round's end
    have out : (j ≤ a ∨ ltInt dj[j]! dj[j - 1]! = false) → ∀ q, ∃ i' n' dk', Value.int .i64 ((i : Int) + 1) = .int .i64 (i' : Nat) ∧ a < i' ∧ i' ≤ b + 1 ∧ dk'.size = d.size ∧
      wr.drewN q = putRow (Value.int .u64) (Sort.ahead w n') blk off dk' ∧ insOuter ltInt a b i' dk' = insOuter ltInt a b (a + 1) d := fun hs q =>
     ⟨i + 1, m + q, dj, by go_num, by omega, by omega, hsj, by rw [HW.out]; exact putRow_drewN _ _ _ _ _ _ _,
      by rw [← HO.out, insOuter_go _ _ _ _ _ hlt, ← HI.out, insInner_stop _ _ _ _ hs]⟩
    have OUT : Hid _ := out
    clear out
    go_wp2
    by_cases hja : a < j
    ·go_quiet (first | (go_at_call 91; refine Calls.quiet_of_same (less_u64 _ _ _)))
     go_wp2
     ·-- Less: the swap, j--
      have hl : ltInt (G j) (G (j - 1)) = true := by assumption
      go_region
      all_goals go_wp2
      go_roundw
      case rel =>
       refine ⟨j - 1, m + (nq + 1), swp dj j (j - 1), by congr 1; omega, by omega, by omega, by rw [size_swp]; exact hsj, ?_, ?_⟩
       ·rw [HW.out, HG.out, HG.out]
        exact swap_worldA _ w m (nq + 1) blk off dj j (j - 1) (by omega) (by omega)
       ·rw [← HI.out, insInner_go ltInt a j dj hja (by rw [← HG.out, ← HG.out]; exact hl)]
      case measure => simp [intOf]; omega
     ·-- not Less
      have hl : ltInt (G j) (G (j - 1)) = false := by assumption
      go_roundw
      case rel => exact OUT.out (Or.inr (by rw [← HG.out, ← HG.out]; exact hl)) nq
      case measure => simp [intOf]; omega
    ·go_quiet (first | (go_at_call 91; refine Calls.quiet_of_same (less_u64 _ _ _)))
     go_wp2
     go_roundw
     case rel => exact OUT.out (Or.inl (by omega)) nq
     case measure => simp [intOf]; omega
  ·-- the outer loop is at its end
   have hge : ¬ i < b := by assumption
   go_end0
   exact ⟨rfl, n, by unfold Sort.insertionSort; rw [← HO.out, insOuter_stop _ _ _ _ _ hge]⟩
end Go.Proofs.Ytmjccpfchhnfhaa
/- slices.Sort of at most twelve numbers of 64 bits. -/
namespace Go.Proofs.Ytmjccpfchhnfhaa
open Go.RowKit Go.Sort Go.Lib
set_option linter.unusedVariables false
set_option maxRecDepth 100000 in
set_option maxHeartbeats 2000000 in
theorem pdq_small (blk off cap : Nat) (d : Array Int) (w : World) (lim : Int) (hH : Holds (Value.int .u64) w blk off d) (hb : d.size ≤ 12) :
  Calls Try.prog 82 #[.slice (some ⟨blk, off, none⟩) d.size cap, .int .i64 0, .int .i64 d.size, .int .i64 lim] w fun e w' =>
   e = .returned (.tuple #[]) ∧ ∃ n, w' = putRow (Value.int .u64) (Sort.ahead w n) blk off (Sort.insertionSort ltInt d 0 d.size) := by
 have HI : Hid (Calls Try.prog 85 #[.slice (some ⟨blk, off, none⟩) d.size cap, .int .i64 0, .int .i64 d.size] w fun e w' => e = .returned (.tuple #[]) ∧ ∃ n, w' = putRow (Value.int .u64) (Sort.ahead w n) blk off (Sort.insertionSort ltInt d 0 d.size)) := Lib.hid (insort_u64 blk off cap 0 d.size d w hH (by omega) (by omega) (by omega))
 generalize Sort.insertionSort ltInt d 0 d.size = dd at HI ⊢
 clear hH
 generalize d.size = N at HI hb ⊢
 go_enter Try.func82, Try.ntmps82
 go_wp2
 go_loopw [1, 2, 3] (fun i j l wr => i = .int .i64 0 ∧ j = .int .i64 (N : Int) ∧ l = .int .i64 lim ∧ wr = w) (fun _ _ _ _ => 0)
 case atStart => exact ⟨rfl, rfl, rfl, rfl⟩
 case round =>
  obtain ⟨rfl, rfl, rfl, rfl⟩ := hrel
  go_wp2_with fail
  with_reducible refine HI.out.mono ?_
  rintro e1 w1 ⟨rfl, hw⟩
  have HW := Lib.hid hw
  clear hw HI
  go_wp2
  exact bodyPost_ret (results_none rfl _ _ _) rfl ⟨rfl, HW⟩
set_option maxRecDepth 100000 in
theorem sort_small (blk off cap : Nat) (d : Array Int) (w : World) (hH : Holds (Value.int .u64) w blk off d) (hb : d.size ≤ 12) :
  Calls Try.prog 73 #[.slice (some ⟨blk, off, none⟩) d.size cap] w fun e w' =>
   e = .returned (.tuple #[]) ∧ ∃ n, w' = putRow (Value.int .u64) (Sort.ahead w n) blk off (Sort.insertionSort ltInt d 0 d.size) := by
 have HP := fun lim => Lib.hid (pdq_small blk off cap d w lim hH hb)
 have HB : Hid (∃ bl : Int, Calls Try.prog 83 #[.int .u64 (d.size : Int)] w fun e w' => e = .returned (.int .i64 bl) ∧ w' = w) := ⟨_, Any.bits_Len Try.lays125 d.size w (by omega) (by omega)⟩
 generalize Sort.insertionSort ltInt d 0 d.size = dd at HP ⊢
 clear hH
 generalize d.size = N at HP HB hb ⊢
 go_enter Try.func73, Try.ntmps73
 obtain ⟨bl, hbl⟩ := HB.out
 have HL := Lib.hid hbl
 clear hbl HB
 go_wp2_with fail
 with_reducible refine HL.out.mono ?_
 rintro e1 w1 ⟨rfl, rfl⟩
 go_wp2_with fail
 with_reducible refine (HP _).out.mono ?_
 rintro e1 w1 ⟨rfl, hw⟩
 have HW := Lib.hid hw
 clear hw HP HL
 go_wp2
 go_end0
 exact ⟨rfl, HW.out⟩
end Go.Proofs.Ytmjccpfchhnfhaa
/- Package quorum: Reached, at most twelve members. -/
namespace Go.Proofs.Ytmjccpfchhnfhaa
open Go.RowKit
set_option linter.unusedVariables false
theorem Fr.ahead {K : Nat → Obj → Prop} {a w : World} (h : Fr K a w) (n : Nat) : Fr K a (Sort.ahead w n) := ⟨h.os, h.tape, h.output, h.size, h.keep⟩
theorem info_u64 : (Try.prog.info? 34).map (fun i => (i.zero, i.size, i.bytes)) = some (some (.int .u64 0), 1, 8) := by kernel_rfl
def RowU (w : World) (B : Nat) (v : Value) (zs : List Int) : Prop := w.ownsRow B 34 1 v zs.length (zs.map (Value.int .u64))
theorem RowU.tt {w w' : World} {B : Nat} {v : Value} {zs : List Int} (h : RowU w B v zs) (hf : FT w w') : RowU w' B v zs := ownsRow_fr h hf fun _ _ _ _ => trivial
theorem RowU.nil (w : World) (B : Nat) : RowU w B (.slice none 0 0) [] := ⟨rfl, .inl ⟨rfl, rfl⟩⟩
theorem RowU.form {w : World} {B : Nat} {v : Value} {zs : List Int} (h : RowU w B v zs) : ∃ a c, v = .slice a zs.length c := by
 rcases h.2 with ⟨rfl, e⟩ | ⟨g, cap, _, rfl, _⟩
 ·exact ⟨none, 0, by rw [e]⟩
 ·exact ⟨_, _, rfl⟩
theorem RowU.parts {w : World} {B : Nat} {v : Value} {zs : List Int} (h : RowU w B v zs) (h0 : 0 < zs.length) : ∃ g cap, v = .slice (some ⟨g, 0, none⟩) zs.length cap ∧ B ≤ g ∧ g < w.heap.size ∧ Sort.Holds (Value.int .u64) w g 0 zs.toArray := by
 obtain ⟨h1, h2⟩ := h
 rcases h2 with ⟨hv, hn⟩ | ⟨g, cap, cur, hv, hg, hh, hn, hc, hs, ht⟩
 ·omega
 ·refine ⟨g, cap, hv, hg, lt_of_some hh, fun k hk => ⟨?_, frozen_mk hh⟩⟩
  have hk' : k < zs.length := by simpa using hk
  have e1 : cur.toList[k]? = (zs.map (Value.int .u64))[k]? := by rw [← ht, List.getElem?_take, if_pos (by omega)]
  have e2 : cur[k]? = some (Value.int .u64 zs[k]) := by rw [← Array.getElem?_toList, e1]; simp [hk']
  rw [Nat.zero_add, cell_mk hh e2]
  simp [hk']
theorem wpList_append_u64 {ops : Array Oper} {rest : List Oper} {o : Oper} {a : Act} {Q : Exit → Act → World → Prop} (W0 W1 : World) (y : Int) (hF : Hid (FT W0 W1)) (hgd : o.guard = none) (s x : Operand)
  (ho : o.op = .call { callee := .builtin .append, args := #[s, x], argTypes := #[26, 26] }) (v : Value) (xs : List Int) (hs : a.eval s = v) (hown : Hid (RowU W1 W0.heap.size v xs))
  (hx : a.eval x = .slice (some ⟨W1.heap.size, 0, none⟩) 1 1) (r : List Int) (hr : Hid (xs ++ [y] = r)) (hn : r.length ≤ 2000000)
  (h : ∀ a' c' w', Hid (RowU w' W0.heap.size (.slice a' r.length c') r) → Hid (FT W0 w') → wpList Try.prog ops Q rest (a.put o.dst (.slice a' r.length c')) w') :
  wpList Try.prog ops Q (o :: rest) a (W1.alloc (.cells #[.int .u64 y] 34 (0, 0))) := by
 obtain ⟨i0, hi, hz0, hz1, hz2⟩ := info_parts info_u64
 have hr := hr
 subst hr
 rw [List.length_append, List.length_singleton] at hn
 have hsrc : SrcAt (W1.alloc (.cells #[.int .u64 y] 34 (0, 0))) 1 (.slice (some ⟨W1.heap.size, 0, none⟩) 1 1) 1 [Value.int .u64 y] := by
  refine .inr ⟨_, 1, rfl, rfl, fun j u hu => ?_, fun u hu => by obtain rfl := List.mem_singleton.1 hu; rfl⟩
  rcases j with _ | j
  ·cases hu; rw [add_at]; exact cell_mk (heap_alloc_new _ _) rfl
  ·simp at hu
 refine wpList_append_src _ hgd s x 26 ho W0.heap.size 34 i0 (.int .u64 0) 1 8 Try.underlying26 hi hz0 hz1 hz2 rfl (by decide) v xs.length (xs.map (Value.int .u64)) hs (hown.out.tt ((Fr.refl _ _).alloc _)) _ 1 [Value.int .u64 y] hx hsrc (by unfold maxLen; omega) (by omega) (by have := hF.out.size; simp; omega) ?_
 intro v' w' h1 h2 _
 have e1 : xs.map (Value.int .u64) ++ [Value.int .u64 y] = (xs ++ [y]).map (Value.int .u64) := by simp
 have e2 : xs.length + 1 = (xs ++ [y]).length := by simp
 rw [e1, e2] at h1
 obtain ⟨a', c', rfl⟩ := RowU.form h1
 exact h a' c' w' h1 ((hF.alloc _).grown_new h2 (own_new hown))
theorem Fr.putRowU {K : Nat → Obj → Prop} {a w : World} (h : Fr K a w) {g : Nat} (hp : ∀ o, a.heap[g]? = some o → ¬ K g o) (off : Nat) (d : Array Int) : Fr K a (Sort.putRow (Value.int .u64) w g off d) := by
 refine ⟨h.os, h.tape, h.output, by rw [Sort.size_putRow]; exact h.size, fun b o hb hk => ?_⟩
 have hne : b ≠ g := fun e => hp o (e ▸ hb) (e ▸ hk)
 have := h.keep b o hb hk
 rw [← this]
 simp only [Sort.putRow, Sort.mapBlock]
 rw [Array.getElem?_modify, if_neg (fun e => hne e.symm)]
def atU (ms : List Int) (n : Int) : Int := if n < ms.length then ms.getD n.toNat 0 else 0
def reachL (zs ms : List Int) (k : Nat) : List Int := (zs.take k).map (atU ms)
theorem reachL_succ (zs ms : List Int) (k : Nat) (hk : k < zs.length) : reachL zs ms k ++ [atU ms zs[k]] = reachL zs ms (k + 1) := by
 unfold reachL
 rw [List.take_succ_eq_append_getElem hk, List.map_append]; rfl
theorem reachL_len (zs ms : List Int) (k : Nat) (hk : k ≤ zs.length) : (reachL zs ms k).length = k := by unfold reachL; simp; omega
end Go.Proofs.Ytmjccpfchhnfhaa
/- The document's Majority. -/
namespace Go.Proofs.Ytmjccpfchhnfhaa
open Go.RowKit
set_option linter.unusedVariables false
end Go.Proofs.Ytmjccpfchhnfhaa
/- The document's part: the members of a set of places. -/
namespace Go.Proofs.Ytmjccpfchhnfhaa
open Go.RowKit
set_option linter.unusedVariables false
end Go.Proofs.Ytmjccpfchhnfhaa
/- Law 10: what enough have reached: plainly. -/
namespace Go.Proofs.Ytmjccpfchhnfhaa
open Go.RowKit
set_option linter.unusedVariables false
set_option linter.unusedSimpArgs false
def srt (l : List Int) : List Int := l.mergeSort fun x y => decide (x ≤ y)
theorem srt_perm (l : List Int) : (srt l).Perm l := List.mergeSort_perm _ _
theorem srt_len (l : List Int) : (srt l).length = l.length := (srt_perm l).length_eq
theorem srt_sorted (l : List Int) : (srt l).Pairwise (· ≤ ·) := by
 have := List.pairwise_mergeSort (le := fun (x y : Int) => decide (x ≤ y)) (fun a b c h1 h2 => by simp at *; omega) (fun a b => by simp; omega) l
 exact this.imp fun h => by simpa using h
def midV (l : List Int) : Int := (srt l).getD (l.length - (l.length / 2 + 1)) 0
theorem mid_mem {l : List Int} (h : 0 < l.length) : midV l ∈ l := by
 unfold midV
 have hk : l.length - (l.length / 2 + 1) < (srt l).length := by rw [srt_len]; omega
 rw [show (srt l).getD (l.length - (l.length / 2 + 1)) 0 = (srt l)[l.length - (l.length / 2 + 1)] from by simp [List.getD, hk]]
 exact (srt_perm l).mem_iff.1 (List.getElem_mem hk)
theorem mid_ge {l : List Int} (h : 0 < l.length) : l.length / 2 + 1 ≤ l.countP fun x => decide (midV l ≤ x) := by
 have hk : l.length - (l.length / 2 + 1) < (srt l).length := by rw [srt_len]; omega
 rw [← (srt_perm l).countP_eq]
 have hs := srt_sorted l
 have hl := srt_len l
 unfold midV
 rw [show (srt l).getD (l.length - (l.length / 2 + 1)) 0 = (srt l)[l.length - (l.length / 2 + 1)] from by simp [List.getD, hk]]
 generalize srt l = S at *
 have h1 : (S.drop (l.length - (l.length / 2 + 1))).countP (fun x => decide (S[l.length - (l.length / 2 + 1)] ≤ x)) = (S.drop (l.length - (l.length / 2 + 1))).length := by
  rw [List.countP_eq_length]
  intro x hx
  obtain ⟨i, hi, rfl⟩ := List.mem_iff_getElem.1 hx
  rw [List.getElem_drop]
  rw [List.length_drop] at hi
  rw [decide_eq_true_eq]
  by_cases h0 : i = 0
  ·subst h0; exact Int.le_refl _
  ·exact List.pairwise_iff_getElem.1 hs _ _ hk (by omega) (by omega)
 have h2 : (S.drop (l.length - (l.length / 2 + 1))).countP (fun x => decide (S[l.length - (l.length / 2 + 1)] ≤ x)) ≤ S.countP (fun x => decide (S[l.length - (l.length / 2 + 1)] ≤ x)) := (List.drop_sublist _ S).countP_le
 rw [h1, List.length_drop] at h2
 omega
end Go.Proofs.Ytmjccpfchhnfhaa
/- Nodes, plainly: what elect's and follow's functions do. -/
namespace Go.Proofs.Ytmjccpfchhnfhaa
set_option linter.unusedVariables false
set_option linter.unusedSimpArgs false
namespace Nd
def askT (n : Nd) : Nd × List Ms :=
 if hasI n.conf n.me then
  let n1 : Nd := { n with tm := n.tm + 1, vote := n.me, role := 2, ld := -1, yes := [n.me] }
  if agrI n.conf [n.me] then (n1.lead, []) else (n1, n1.toAll { zMs with kind := 1, tm := n.tm + 1, index := n.log.last, prev := n.log.lastT })
 else (n, [])
def askF (n : Nd) : Nd × List Ms :=
 if hasI n.conf n.me then
  let n1 : Nd := { n with role := 1, ld := -1, yes := [n.me] }
  if agrI n.conf [n.me] then n1.askT else (n1, n1.toAll { zMs with kind := 3, tm := n.tm + 1, index := n.log.last, prev := n.log.lastT })
 else (n, [])
def chosen (n : Nd) : Nd × List Ms := if n.role = 1 then n.askT else (n.lead, [])
def would (n : Nd) (m : Ms) : Bool :=
 if m.kind = 3 then decide (n.tm < m.tm) && !n.heard else decide (m.tm = n.tm) && ((decide (n.vote = -1) || decide (n.vote = m.src)) && decide (n.role = 0))
def onAsk (n : Nd) (m : Ms) : Nd × List Ms :=
 if m.kind = 1 ∨ m.kind = 3 then
  let n1 : Nd := if m.kind = 1 ∧ n.tm < m.tm then n.follow m.tm (-1) else n
  let ok := n1.log.newer m.prev m.index && n1.would m
  (if ok = true ∧ m.kind = 1 then { n1 with vote := m.src } else n1, [{ zMs with kind := m.kind + 1, src := n.me, dst := m.src, tm := if ok = true ∧ m.kind = 3 then m.tm else n1.tm, ok := ok }])
 else (n, [])
def counts (n : Nd) (m : Ms) : Bool :=
 m.ok && ((decide (n.role = 2 ∧ m.kind = 2 ∧ m.tm = n.tm) || decide (n.role = 1 ∧ m.kind = 4 ∧ m.tm = n.tm + 1)) && (hasI n.conf m.src && !hasI n.yes m.src))
def onAnswer (n : Nd) (m : Ms) : Nd × List Ms :=
 if m.kind = 2 ∨ m.kind = 4 then
  let n1 : Nd := if n.tm < m.tm ∧ (m.ok = false ∨ m.kind = 2) then n.follow m.tm (-1) else n
  if n1.counts m then
   let n2 : Nd := { n1 with yes := n1.yes ++ [m.src] }
   if agrI n2.conf n2.yes then n2.chosen else (n2, [])
  else (n1, [])
 else (n, [])
def sureR (n : Nd) (r : Nat) : Nd := if n.role = 3 ∧ (n.log.term r) = (n.tm, true) ∧ n.commit < r then { n with commit := r } else n
def sendTo (n : Nd) (x : Int) : List Ms :=
 if n.role ≠ 3 ∨ x = n.me ∨ x < 0 ∨ 15 < x ∨ n.next.getD x.toNat 0 ≤ n.log.base then []
 else [{ zMs with kind := 5, src := n.me, dst := x, tm := n.tm, index := n.next.getD x.toNat 0 - 1, prev := (n.log.term (n.next.getD x.toNat 0 - 1)).1, commit := n.commit, es := n.log.slice (n.next.getD x.toNat 0) 8 }]
def beat (n : Nd) : List Ms := n.others.flatMap n.sendTo
def behind (n : Nd) : List Int := if n.role = 3 then n.others.filter fun x => decide (n.next.getD x.toNat 0 ≤ n.log.base) else []
def taken (n : Nd) (m : Ms) : Nd × List Ms :=
 if (n.log.append m.index m.prev m.es).2 = 60 then (n, [{ zMs with kind := 6, src := n.me, dst := m.src, index := m.index, tm := n.tm, prev := n.log.hint m.index }])
 else ({ n with log := (n.log.append m.index m.prev m.es).1, commit := max n.commit (min m.commit (m.index + m.es.length)) }, [{ zMs with kind := 6, src := n.me, dst := m.src, index := m.index + m.es.length, tm := n.tm, ok := true }])
def onAppend (n : Nd) (m : Ms) : Nd × List Ms :=
 if m.kind ≠ 5 then (n, []) else if m.tm < n.tm then (n, [{ zMs with kind := 6, src := n.me, dst := m.src, index := m.index, tm := n.tm }]) else ({ n.follow m.tm m.src with heard := true } : Nd).taken m
def reach (n : Nd) : Nat := (midV (reachL n.conf (n.mat.map fun (x : Nat) => (x : Int)) n.conf.length)).toNat
def sure (n : Nd) : Nd := n.sureR n.reach
def propose (n : Nd) (kind : Int) (data : List UInt8) : Nd × Nat × Int :=
 if n.role ≠ 3 then (n, 0, 70) else if kind < 1 ∨ 255 < kind then (n, 0, 30) else if 24 < data.length then (n, 0, 2) else
  (({ n with log := n.log.add ⟨n.tm, kind, data⟩, mat := n.mat.set n.me.toNat (n.log.last + 1) } : Nd).sure, n.log.last + 1, 0)
def acked (n : Nd) (m : Ms) : Nd :=
 if m.ok = false then { n with next := n.next.set m.src.toNat (max (n.mat.getD m.src.toNat 0 + 1) (min m.index (m.prev + 1))) }
 else if m.index ≤ n.log.last then ({ n with mat := n.mat.set m.src.toNat (max (n.mat.getD m.src.toNat 0) m.index), next := n.next.set m.src.toNat (max (n.mat.getD m.src.toNat 0) m.index + 1) } : Nd).sure else n
def onAcked (n : Nd) (m : Ms) : Nd × List Ms :=
 if m.kind ≠ 6 then (n, []) else if n.tm < m.tm then (n.follow m.tm (-1), []) else if m.tm < n.tm ∨ n.role ≠ 3 ∨ m.src = n.me ∨ m.src < 0 ∨ 15 < m.src then (n, []) else
  if m.ok = true ∧ (n.acked m).log.last < (n.acked m).next.getD m.src.toNat 0 then (n.acked m, []) else (n.acked m, (n.acked m).sendTo m.src)
end Nd
end Go.Proofs.Ytmjccpfchhnfhaa
/- Nodes, plainly: terms do not fall, what is sure never becomes less. -/
namespace Go.Proofs.Ytmjccpfchhnfhaa
set_option linter.unusedVariables false
set_option linter.unusedSimpArgs false
namespace Nd
structure Up (n n' : Nd) : Prop where
 tm : n.tm ≤ n'.tm
 commit : n.commit ≤ n'.commit
 me : n'.me = n.me
 conf : n'.conf = n.conf
 base : n'.log.base = n.log.base
theorem Up.refl (n : Nd) : Up n n := ⟨Nat.le_refl _, Nat.le_refl _, rfl, rfl, rfl⟩
theorem Up.trans {a b c : Nd} (h : Up a b) (k : Up b c) : Up a c := ⟨Nat.le_trans h.tm k.tm, Nat.le_trans h.commit k.commit, k.me.trans h.me, k.conf.trans h.conf, k.base.trans h.base⟩
theorem follow_up (n : Nd) (t : Nat) (ld : Int) : Up n (n.follow t ld) := by
 unfold follow
 split
 ·exact ⟨by show n.tm ≤ t; omega, Nat.le_refl _, rfl, rfl, rfl⟩
 ·exact ⟨Nat.le_refl _, Nat.le_refl _, rfl, rfl, rfl⟩
theorem lead_up (n : Nd) : Up n n.lead := ⟨Nat.le_refl _, Nat.le_refl _, rfl, rfl, rfl⟩
theorem askT_up (n : Nd) : Up n n.askT.1 := by
 unfold askT
 split
 ·dsimp only
  split
  ·exact ⟨Nat.le_succ _, Nat.le_refl _, rfl, rfl, rfl⟩
  ·exact ⟨Nat.le_succ _, Nat.le_refl _, rfl, rfl, rfl⟩
 ·exact Up.refl n
theorem askF_up (n : Nd) : Up n n.askF.1 := by
 unfold askF
 split
 ·dsimp only
  split
  ·exact Up.trans (b := { n with role := 1, ld := -1, yes := [n.me] }) ⟨Nat.le_refl _, Nat.le_refl _, rfl, rfl, rfl⟩ (askT_up _)
  ·exact ⟨Nat.le_refl _, Nat.le_refl _, rfl, rfl, rfl⟩
 ·exact Up.refl n
theorem chosen_up (n : Nd) : Up n n.chosen.1 := by
 unfold chosen
 split
 ·exact askT_up n
 ·exact lead_up n
theorem onAsk_up (n : Nd) (m : Ms) : Up n (n.onAsk m).1 := by
 unfold onAsk
 split
 ·dsimp only
  have h : Up n (if m.kind = 1 ∧ n.tm < m.tm then n.follow m.tm (-1) else n) := by
   split
   ·exact follow_up _ _ _
   ·exact Up.refl n
  generalize (if m.kind = 1 ∧ n.tm < m.tm then n.follow m.tm (-1) else n) = n1 at h
  split
  ·exact ⟨h.tm, h.commit, h.me, h.conf, h.base⟩
  ·exact h
 ·exact Up.refl n
theorem onAnswer_up (n : Nd) (m : Ms) : Up n (n.onAnswer m).1 := by
 unfold onAnswer
 split
 ·dsimp only
  have h : Up n (if n.tm < m.tm ∧ (m.ok = false ∨ m.kind = 2) then n.follow m.tm (-1) else n) := by
   split
   ·exact follow_up _ _ _
   ·exact Up.refl n
  generalize (if n.tm < m.tm ∧ (m.ok = false ∨ m.kind = 2) then n.follow m.tm (-1) else n) = n1 at h
  have h2 : Up n { n1 with yes := n1.yes ++ [m.src] } := ⟨h.tm, h.commit, h.me, h.conf, h.base⟩
  split
  ·split
   ·exact h2.trans (chosen_up _)
   ·exact h2
  ·exact h
 ·exact Up.refl n
theorem sureR_up (n : Nd) (r : Nat) : Up n (n.sureR r) := by
 unfold sureR
 split
 ·rename_i h
  exact ⟨Nat.le_refl _, by show n.commit ≤ r; omega, rfl, rfl, rfl⟩
 ·exact Up.refl n
theorem propose_up (n : Nd) (k : Int) (d : List UInt8) : Up n (n.propose k d).1 := by
 unfold propose
 split
 ·exact Up.refl n
 ·split
  ·exact Up.refl n
  ·split
   ·exact Up.refl n
   ·exact Up.trans (b := { n with log := n.log.add ⟨n.tm, k, d⟩, mat := n.mat.set n.me.toNat (n.log.last + 1) }) ⟨Nat.le_refl _, Nat.le_refl _, rfl, rfl, rfl⟩ (sureR_up _ _)
theorem taken_up (n : Nd) (m : Ms) : Up n (n.taken m).1 := by
 unfold taken
 split
 ·exact Up.refl n
 ·refine ⟨Nat.le_refl _, ?_, rfl, rfl, (Lg.append_base _ _ _ _).1⟩
  show n.commit ≤ max n.commit _
  omega
theorem onAppend_up (n : Nd) (m : Ms) : Up n (n.onAppend m).1 := by
 unfold onAppend
 split
 ·exact Up.refl n
 ·split
  ·exact Up.refl n
  ·have h := follow_up n m.tm m.src
   exact Up.trans (b := { n.follow m.tm m.src with heard := true }) ⟨h.tm, h.commit, h.me, h.conf, h.base⟩ (taken_up _ m)
theorem acked_up (n : Nd) (m : Ms) : Up n (n.acked m) := by
 unfold acked
 split
 ·exact ⟨Nat.le_refl _, Nat.le_refl _, rfl, rfl, rfl⟩
 ·split
  ·exact Up.trans (b := { n with mat := n.mat.set m.src.toNat (max (n.mat.getD m.src.toNat 0) m.index), next := n.next.set m.src.toNat (max (n.mat.getD m.src.toNat 0) m.index + 1) }) ⟨Nat.le_refl _, Nat.le_refl _, rfl, rfl, rfl⟩ (sureR_up _ _)
  ·exact Up.refl n
theorem onAcked_up (n : Nd) (m : Ms) : Up n (n.onAcked m).1 := by
 unfold onAcked
 split
 ·exact Up.refl n
 ·split
  ·exact follow_up _ _ _
  ·split
   ·exact Up.refl n
   ·split <;> exact acked_up n m
def hear (n : Nd) (m : Ms) : Nd × List Ms :=
 let a := n.onAsk m
 let b := a.1.onAnswer m
 let c := b.1.onAppend m
 let d := c.1.onAcked m
 (d.1, a.2 ++ b.2 ++ c.2 ++ d.2)
theorem hear_up (n : Nd) (m : Ms) : Up n (n.hear m).1 := (((onAsk_up n m).trans (onAnswer_up _ m)).trans (onAppend_up _ m)).trans (onAcked_up _ m)
end Nd
end Go.Proofs.Ytmjccpfchhnfhaa
/- Nodes, plainly: how great their numbers grow. -/
namespace Go.Proofs.Ytmjccpfchhnfhaa
set_option linter.unusedVariables false
set_option linter.unusedSimpArgs false
structure Bn (B : Nat) (n : Nd) : Prop where
 tm : n.tm ≤ B
 commit : n.commit ≤ B
 last : n.log.last ≤ B
 n16 : n.next.length = 16
 m16 : n.mat.length = 16
 nx : ∀ x ∈ n.next, x ≤ B
 mt : ∀ x ∈ n.mat, x ≤ B
structure Bm (B : Nat) (m : Ms) : Prop where
 tm : m.tm ≤ B
 index : m.index + m.es.length ≤ B
 prev : m.kind = 6 → m.prev ≤ B
 commit : m.commit ≤ B
theorem Bn.mono {B B' : Nat} {n : Nd} (h : Bn B n) (hb : B ≤ B') : Bn B' n := ⟨Nat.le_trans h.tm hb, Nat.le_trans h.commit hb, Nat.le_trans h.last hb, h.n16, h.m16, fun x hx => Nat.le_trans (h.nx x hx) hb, fun x hx => Nat.le_trans (h.mt x hx) hb⟩
theorem Bm.mono {B B' : Nat} {m : Ms} (h : Bm B m) (hb : B ≤ B') : Bm B' m := ⟨Nat.le_trans h.tm hb, Nat.le_trans h.index hb, fun k => Nat.le_trans (h.prev k) hb, Nat.le_trans h.commit hb⟩
theorem set_le {B : Nat} {l : List Nat} (h : ∀ x ∈ l, x ≤ B) (i y : Nat) (hy : y ≤ B) : ∀ x ∈ l.set i y, x ≤ B := fun x hx => by
 rcases List.mem_or_eq_of_mem_set hx with h1 | h1
 ·exact h x h1
 ·exact h1 ▸ hy
theorem getD_le {B : Nat} {l : List Nat} (h : ∀ x ∈ l, x ≤ B) (i : Nat) : l.getD i 0 ≤ B := by
 rw [List.getD_eq_getElem?_getD]
 by_cases hi : i < l.length
 ·rw [List.getElem?_eq_getElem hi]; exact h _ (List.getElem_mem hi)
 ·rw [List.getElem?_eq_none (by omega)]; exact Nat.zero_le _
theorem rep_le {B k y : Nat} (hy : y ≤ B) : ∀ x ∈ List.replicate k y, x ≤ B := fun x hx => by rw [List.eq_of_mem_replicate hx]; exact hy
theorem lay_last {B : Nat} {l : Lg} : ∀ (es : List En) (p : Nat), l.base ≤ p → p ≤ l.last → l.last ≤ B → p + es.length ≤ B → (l.lay p es).last ≤ B
 | [], p, _, _, h, _ => h
 | x :: xs, p, h1, h2, h3, h4 => by
  rw [List.length_cons] at h4
  unfold Lg.lay
  split
  ·rename_i h
   have h5 : (l.term (p + 1)).2 = true := by rw [h]
   exact lay_last xs (p + 1) (by omega) (Lg.term_is.1 h5).2 h3 (by omega)
  ·show l.base + (l.es.take (p - l.base) ++ x :: xs).length ≤ B
   rw [List.length_append, List.length_take, List.length_cons]
   omega
theorem append_last {B : Nat} {l : Lg} {p pt : Nat} {es : List En} (h : l.last ≤ B) (hi : p + es.length ≤ B) : (l.append p pt es).1.last ≤ B := by
 unfold Lg.append
 split
 ·exact h
 ·rename_i hf
  have hp : p ≤ l.last := by
   unfold Lg.fits at hf
   by_cases hh : l.last < p
   ·rw [if_pos hh] at hf; exact absurd (by decide) hf
   ·omega
  have hb : l.base ≤ l.last := by unfold Lg.last; omega
  split
  ·refine lay_last _ _ (Nat.le_refl _) hb h ?_
   rw [List.length_drop]
   omega
  ·exact lay_last _ _ (by omega) hp h hi
namespace Nd
variable {B : Nat} {n : Nd} {m : Ms}
theorem follow_b (h : Bn B n) {t : Nat} (ht : t ≤ B) (ld : Int) : Bn B (n.follow t ld) := by
 unfold follow
 split
 ·exact ⟨ht, h.commit, h.last, h.n16, h.m16, h.nx, h.mt⟩
 ·exact ⟨h.tm, h.commit, h.last, h.n16, h.m16, h.nx, h.mt⟩
theorem lead_b (h : Bn B n) : Bn (B + 1) n.lead := by
 have hl := h.last
 refine ⟨Nat.le_succ_of_le h.tm, Nat.le_succ_of_le h.commit, ?_, by simp [lead], by simp [lead], rep_le (by omega), set_le (rep_le (Nat.zero_le _)) _ _ (by omega)⟩
 show n.log.base + (n.log.es ++ [_]).length ≤ _
 unfold Lg.last at hl
 simp; omega
theorem toAll_b (m : Ms) (h : Bm B m) : ∀ x ∈ n.toAll m, Bm B x := fun x hx => by
 unfold toAll at hx
 obtain ⟨y, _, rfl⟩ := List.mem_map.1 hx
 exact ⟨h.tm, h.index, h.prev, h.commit⟩
theorem askT_b (h : Bn B n) : Bn (B + 1) n.askT.1 ∧ ∀ x ∈ n.askT.2, Bm (B + 1) x := by
 have h1 := h.mono (Nat.le_succ B)
 have hl := h.last
 have ht := h.tm
 unfold askT
 split
 ·dsimp only
  split
  ·have hh := lead_b (n := { n with tm := n.tm + 1, vote := n.me, role := 2, ld := -1, yes := [n.me] }) (B := B + 1) ⟨by show n.tm + 1 ≤ B + 1; omega, h1.commit, h1.last, h1.n16, h1.m16, h1.nx, h1.mt⟩
   refine ⟨⟨by show n.tm + 1 ≤ B + 1; omega, h1.commit, ?_, hh.n16, hh.m16, rep_le ?_, set_le (rep_le (Nat.zero_le _)) _ _ ?_⟩, fun x hx => by cases hx⟩
   ·show n.log.base + (n.log.es ++ [_]).length ≤ _
    unfold Lg.last at hl
    simp; omega
   ·show n.log.last + 1 ≤ B + 1; omega
   ·show n.log.last + 1 ≤ B + 1; omega
  ·refine ⟨⟨by show n.tm + 1 ≤ B + 1; omega, h1.commit, h1.last, h1.n16, h1.m16, h1.nx, h1.mt⟩, toAll_b _ ⟨by show n.tm + 1 ≤ B + 1; omega, by show n.log.last + 0 ≤ B + 1; omega, fun k => absurd (show (1 : Int) = 6 from k) (by decide), Nat.zero_le _⟩⟩
 ·exact ⟨h1, fun x hx => by cases hx⟩
theorem askF_b (h : Bn B n) : Bn (B + 1) n.askF.1 ∧ ∀ x ∈ n.askF.2, Bm (B + 1) x := by
 have h1 := h.mono (Nat.le_succ B)
 have hl := h.last
 have ht := h.tm
 unfold askF
 split
 ·dsimp only
  split
  ·exact askT_b (n := { n with role := 1, ld := -1, yes := [n.me] }) ⟨h.tm, h.commit, h.last, h.n16, h.m16, h.nx, h.mt⟩
  ·refine ⟨⟨h1.tm, h1.commit, h1.last, h1.n16, h1.m16, h1.nx, h1.mt⟩, toAll_b _ ⟨by show n.tm + 1 ≤ B + 1; omega, by show n.log.last + 0 ≤ B + 1; omega, fun k => absurd (show (3 : Int) = 6 from k) (by decide), Nat.zero_le _⟩⟩
 ·exact ⟨h1, fun x hx => by cases hx⟩
theorem chosen_b (h : Bn B n) : Bn (B + 1) n.chosen.1 ∧ ∀ x ∈ n.chosen.2, Bm (B + 1) x := by
 unfold chosen
 split
 ·exact askT_b h
 ·exact ⟨lead_b h, fun x hx => by cases hx⟩
theorem onAsk_b (h : Bn B n) (hm : Bm B m) : Bn B (n.onAsk m).1 ∧ ∀ x ∈ (n.onAsk m).2, Bm B x := by
 unfold onAsk
 split
 ·rename_i hk
  dsimp only
  have h1 : Bn B (if m.kind = 1 ∧ n.tm < m.tm then n.follow m.tm (-1) else n) := by
   split
   ·exact follow_b h hm.tm _
   ·exact h
  generalize (if m.kind = 1 ∧ n.tm < m.tm then n.follow m.tm (-1) else n) = n1 at h1
  refine ⟨?_, fun x hx => ?_⟩
  ·split
   ·exact ⟨h1.tm, h1.commit, h1.last, h1.n16, h1.m16, h1.nx, h1.mt⟩
   ·exact h1
  ·rw [List.mem_singleton.1 hx]
   refine ⟨?_, Nat.zero_le _, fun k => ?_, Nat.zero_le _⟩
   ·show (if _ then m.tm else n1.tm) ≤ B
    split
    ·exact hm.tm
    ·exact h1.tm
   ·have k' : m.kind + 1 = 6 := k
    omega
 ·exact ⟨h, fun x hx => by cases hx⟩
theorem onAnswer_b (h : Bn B n) (hm : Bm B m) : Bn (B + 1) (n.onAnswer m).1 ∧ ∀ x ∈ (n.onAnswer m).2, Bm (B + 1) x := by
 unfold onAnswer
 split
 ·dsimp only
  have h1 : Bn B (if n.tm < m.tm ∧ (m.ok = false ∨ m.kind = 2) then n.follow m.tm (-1) else n) := by
   split
   ·exact follow_b h hm.tm _
   ·exact h
  generalize (if n.tm < m.tm ∧ (m.ok = false ∨ m.kind = 2) then n.follow m.tm (-1) else n) = n1 at h1
  have h2 : Bn B { n1 with yes := n1.yes ++ [m.src] } := ⟨h1.tm, h1.commit, h1.last, h1.n16, h1.m16, h1.nx, h1.mt⟩
  split
  ·split
   ·exact chosen_b h2
   ·exact ⟨h2.mono (Nat.le_succ _), fun x hx => by cases hx⟩
  ·exact ⟨h1.mono (Nat.le_succ _), fun x hx => by cases hx⟩
 ·exact ⟨h.mono (Nat.le_succ _), fun x hx => by cases hx⟩
theorem sureR_b (h : Bn B n) (r : Nat) : Bn B (n.sureR r) := by
 unfold sureR
 split
 ·rename_i hh
  have h3 : (n.log.term r).2 = true := by rw [hh.2.1]
  have := (Lg.term_is.1 h3).2
  exact ⟨h.tm, by show r ≤ B; have := h.last; omega, h.last, h.n16, h.m16, h.nx, h.mt⟩
 ·exact h
theorem sendTo_b (h : Bn B n) (x : Int) : ∀ y ∈ n.sendTo x, Bm B y := fun y hy => by
 unfold sendTo at hy
 split at hy
 ·cases hy
 ·rename_i hc
  rw [List.mem_singleton.1 hy]
  have hn := getD_le h.nx x.toNat
  have hl := h.last
  refine ⟨h.tm, ?_, fun k => absurd (show (5 : Int) = 6 from k) (by decide), h.commit⟩
  show n.next.getD x.toNat 0 - 1 + (n.log.slice _ 8).length ≤ B
  unfold Lg.slice
  split
  ·rename_i hs
   have := Lg.has_iff.1 hs
   rw [List.length_take, List.length_drop]
   unfold Lg.last at *
   omega
  ·show _ + 0 ≤ B
   omega
theorem beat_b (h : Bn B n) : ∀ y ∈ n.beat, Bm B y := fun y hy => by
 unfold beat at hy
 obtain ⟨x, _, hx⟩ := List.mem_flatMap.1 hy
 exact sendTo_b h x y hx
theorem propose_b (h : Bn B n) (k : Int) (d : List UInt8) : Bn (B + 1) (n.propose k d).1 := by
 have h1 := h.mono (Nat.le_succ B)
 have hl := h.last
 unfold propose
 split
 ·exact h1
 ·split
  ·exact h1
  ·split
   ·exact h1
   ·refine sureR_b (n := { n with log := n.log.add ⟨n.tm, k, d⟩, mat := n.mat.set n.me.toNat (n.log.last + 1) }) ⟨h1.tm, h1.commit, ?_, h1.n16, by show (n.mat.set _ _).length = 16; rw [List.length_set]; exact h.m16, h1.nx, set_le h1.mt _ _ (by omega)⟩ _
    show n.log.base + (n.log.es ++ [_]).length ≤ _
    unfold Lg.last at hl
    simp; omega
theorem taken_b (h1 : Bn B n) (hm : Bm B m) : Bn B (n.taken m).1 ∧ ∀ x ∈ (n.taken m).2, Bm B x := by
 unfold taken
 split
 ·refine ⟨h1, fun x hx => ?_⟩
  rw [List.mem_singleton.1 hx]
  refine ⟨h1.tm, by have := hm.index; show m.index + 0 ≤ B; omega, fun _ => ?_, Nat.zero_le _⟩
  show n.log.hint m.index ≤ B
  have hl := h1.last
  unfold Lg.hint
  split
  ·unfold Lg.last at hl; omega
  ·have := Lg.down_le n.log (n.log.term (min m.index n.log.last)).1 (min m.index n.log.last - n.log.base)
   omega
 ·have hi := hm.index
  have hc := hm.commit
  refine ⟨⟨h1.tm, ?_, append_last h1.last hi, h1.n16, h1.m16, h1.nx, h1.mt⟩, fun x hx => ?_⟩
  ·have := h1.commit
   show max n.commit (min m.commit (m.index + m.es.length)) ≤ B
   omega
  ·rw [List.mem_singleton.1 hx]
   exact ⟨h1.tm, by show m.index + m.es.length + 0 ≤ B; omega, fun _ => Nat.zero_le _, Nat.zero_le _⟩
theorem onAppend_b (h : Bn B n) (hm : Bm B m) : Bn B (n.onAppend m).1 ∧ ∀ x ∈ (n.onAppend m).2, Bm B x := by
 unfold onAppend
 split
 ·exact ⟨h, fun x hx => by cases hx⟩
 ·split
  ·refine ⟨h, fun x hx => ?_⟩
   rw [List.mem_singleton.1 hx]
   exact ⟨h.tm, by have := hm.index; show m.index + 0 ≤ B; omega, fun _ => Nat.zero_le _, Nat.zero_le _⟩
  ·have h0 := follow_b h hm.tm m.src
   exact taken_b (n := { n.follow m.tm m.src with heard := true }) ⟨h0.tm, h0.commit, h0.last, h0.n16, h0.m16, h0.nx, h0.mt⟩ hm
theorem acked_b (h : Bn B n) (hm : Bm B m) (hk : m.kind = 6) : Bn (B + 1) (n.acked m) := by
 have h1 := h.mono (Nat.le_succ B)
 have hp := hm.prev hk
 have hi := hm.index
 have hg := getD_le h.mt m.src.toNat
 unfold acked
 split
 ·exact ⟨h1.tm, h1.commit, h1.last, by show (n.next.set _ _).length = 16; rw [List.length_set]; exact h.n16, h1.m16, set_le h1.nx _ _ (by omega), h1.mt⟩
 ·split
  ·exact sureR_b (n := { n with mat := n.mat.set m.src.toNat (max (n.mat.getD m.src.toNat 0) m.index), next := n.next.set m.src.toNat (max (n.mat.getD m.src.toNat 0) m.index + 1) }) ⟨h1.tm, h1.commit, h1.last, by show (n.next.set _ _).length = 16; rw [List.length_set]; exact h.n16, by show (n.mat.set _ _).length = 16; rw [List.length_set]; exact h.m16, set_le h1.nx _ _ (by omega), set_le h1.mt _ _ (by omega)⟩ _
  ·exact h1
theorem onAcked_b (h : Bn B n) (hm : Bm B m) : Bn (B + 1) (n.onAcked m).1 ∧ ∀ x ∈ (n.onAcked m).2, Bm (B + 1) x := by
 have h1 := h.mono (Nat.le_succ B)
 unfold onAcked
 split
 ·exact ⟨h1, fun x hx => by cases hx⟩
 ·rename_i hk
  have hk6 : m.kind = 6 := Classical.not_not.1 hk
  split
  ·exact ⟨follow_b h1 (Nat.le_succ_of_le hm.tm) _, fun x hx => by cases hx⟩
  ·split
   ·exact ⟨h1, fun x hx => by cases hx⟩
   ·have ha := acked_b h hm hk6
    split
    ·exact ⟨ha, fun x hx => by cases hx⟩
    ·exact ⟨ha, sendTo_b ha _⟩
theorem hear_b (h : Bn B n) (hm : Bm B m) : Bn (B + 2) (n.hear m).1 ∧ ∀ x ∈ (n.hear m).2, Bm (B + 2) x := by
 obtain ⟨a1, a2⟩ := onAsk_b h hm
 obtain ⟨b1, b2⟩ := onAnswer_b a1 hm
 obtain ⟨c1, c2⟩ := onAppend_b b1 (hm.mono (Nat.le_succ B))
 obtain ⟨d1, d2⟩ := onAcked_b c1 (hm.mono (Nat.le_succ B))
 refine ⟨d1, fun x hx => ?_⟩
 have hx' : x ∈ (n.onAsk m).2 ++ ((n.onAsk m).1.onAnswer m).2 ++ (((n.onAsk m).1.onAnswer m).1.onAppend m).2 ++ ((((n.onAsk m).1.onAnswer m).1.onAppend m).1.onAcked m).2 := hx
 rcases List.mem_append.1 hx' with hx' | hx'
 ·rcases List.mem_append.1 hx' with hx' | hx'
  ·rcases List.mem_append.1 hx' with hx' | hx'
   ·exact (a2 x hx').mono (by omega)
   ·exact (b2 x hx').mono (by omega)
  ·exact (c2 x hx').mono (by omega)
 ·exact d2 x hx'
end Nd
end Go.Proofs.Ytmjccpfchhnfhaa
