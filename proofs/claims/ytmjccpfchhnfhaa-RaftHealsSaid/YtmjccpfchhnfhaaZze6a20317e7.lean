/- Texts of the proofs, part 16: what the functions that they reach do, walked; no conditions beyond those that each states. -/
import Derived.Lib.AppendZeros
import Derived.Test.YtmjccpfchhnfhaaZz92246ed9b0
set_option linter.unusedVariables false
set_option linter.unusedSimpArgs false
/- slices.Grow and slices.Concat at entries (turned from those at bytes). -/
namespace Go.Proofs.Ytmjccpfchhnfhaa
open Go.RowKit
set_option linter.unusedVariables false
theorem srcE {K : Nat → Obj → Prop} {w : World} {v : Value} {xs : List EV} (h : RowsAt K w v 3 encE xs) (hz : ∀ n c, v = .slice none n c → c = 0) : SrcAt w 3 v xs.length (xs.flatMap encE) := by
 obtain ⟨a, c, rfl, _⟩ := h.form
 cases a with
 | none =>
  have hc := hz _ _ rfl
  subst hc
  have e : xs = [] := by
   rcases Nat.eq_zero_or_pos xs.length with q | q
   ·exact List.length_eq_zero_iff.1 q
   ·obtain ⟨b, off, o, e, _⟩ := h.spot q
    cases e
  subst e
  exact .inl ⟨rfl, rfl, rfl⟩
 | some ad => exact h.src encE_len (by decide) encE_oneC
set_option maxRecDepth 100000 in
theorem growE_nil0 (w : World) : Calls Try.prog 74 #[.slice none 0 0, .int .i64 0] w fun e w' => e = .returned (.slice none 0 0) ∧ w = w' := by
 go_enter Try.func74, Try.ntmps74
 go_wp2
 go_ret
 exact ⟨rfl, rfl⟩
set_option maxRecDepth 100000 in
theorem growE_nil (w : World) (n : Nat) (h0 : 0 < n) (hn : n ≤ 2000000) : Calls Try.prog 74 #[.slice none 0 0, .int .i64 n] w fun e w' => (∃ cap, e = .returned (.slice (some ⟨w.heap.size, 0, none⟩) 0 cap) ∧ w'.ownsRow w.heap.size 68 3 (.slice (some ⟨w.heap.size, 0, none⟩) 0 cap) 0 []) ∧ FT w w' := by
 obtain ⟨i0, hi, hz0, hz1, hz2⟩ := info_parts info_en
 have hr := fun ty => Lib.run_append_nil_zeros (P := Try.prog) w 35 3 ty 68 i0 (.agg #[.int .u64 0, .int .i64 0, .slice none 0 0]) .i64 .i64 Try.underlying35 Try.underlying3 hi hz0 n h0 (by omega) (by omega) (by rw [hz2]; omega)
 have HR := Lib.hid hr
 have hn' : (0 : Int) < n := by omega
 clear hr
 go_enter Try.func74, Try.ntmps74
 go_wp2_with (at_builtin; refine Lib.wpList_append_run _ rfl _ _ 35 3 rfl _ _ rfl rfl _ _ (HR.out _) ?_)
 go_ret
 refine ⟨⟨_, rfl, ⟨rfl, .inr ⟨w.heap.size, _, _, rfl, Nat.le_refl _, heap_alloc_new w _, Nat.zero_le _, grownCap_le_maxLen _ _ _ _ (by unfold maxLen; omega), ?_, by simp⟩⟩⟩, ((Fr.refl _ _).alloc _).drew⟩
 have := grownCap_ge w n 0 68
 simp only [Array.size_append, size_zeroCells]
 simp
 omega
theorem growE_any (w : World) (n : Nat) (hn : n ≤ 2000000) : Calls Try.prog 74 #[.slice none 0 0, .int .i64 n] w fun e w' => (∃ v, e = .returned v ∧ w'.ownsRow w.heap.size 68 3 v 0 []) ∧ FT w w' := by
 by_cases h0 : n = 0
 ·subst h0
  exact (growE_nil0 w).mono fun e w' ⟨he, hw⟩ => ⟨⟨_, he, rfl, .inl ⟨rfl, rfl⟩⟩, hw ▸ Fr.refl _ _⟩
 ·exact (growE_nil w n (by omega) hn).mono fun e w' ⟨⟨cap, he, ho⟩, hf⟩ => ⟨⟨_, he, ho⟩, hf⟩
def ListsE (K : Nat → Obj → Prop) (w : World) (b off : Nat) (bss : List (List EV)) : Prop := ∀ i, (h : i < bss.length) → ∃ v, w.cell? ⟨b, off + i, none⟩ = some v ∧ (RowsAt K w v 3 encE bss[i] ∧ ∀ n c, v = .slice none n c → c = 0)
def sizesE (bss : List (List EV)) : Nat := bss.flatten.length
theorem sizesE_snoc (l : List (List EV)) (x : List EV) : sizesE (l ++ [x]) = sizesE l + x.length := by simp [sizesE]
theorem flattenE_snoc (l : List (List EV)) (x : List EV) : (l ++ [x]).flatten = l.flatten ++ x := by simp
theorem sizesE_le (l : List (List EV)) (k : Nat) : sizesE (l.take k) ≤ sizesE l := by
 have := congrArg List.length (congrArg List.flatten (List.take_append_drop k l))
 simp only [List.flatten_append, List.length_append] at this
 unfold sizesE
 omega
set_option maxRecDepth 100000 in
set_option maxHeartbeats 1000000 in
theorem concatE_calls {K : Nat → Obj → Prop} (w : World) (b off m c : Nat) (bss : List (List EV)) (hm : bss.length = m) (hl : ListsE K w b off bss) (hs : sizesE bss ≤ 2000000) (hmm : m ≤ 1000) (hb : b < w.heap.size) :
  Calls Try.prog 63 #[.slice (some ⟨b, off, none⟩) m c] w fun e w' => (∃ v, e = .returned v ∧ w'.ownsRow w.heap.size 68 3 v bss.flatten.length (bss.flatten.flatMap encE)) ∧ Fr (fun _ _ => True) w w' := by
 have HL := Lib.hid hl
 have HM := Lib.hid hm
 have HS := Lib.hid hs
 clear hl hm hs
 obtain ⟨i0, hi, hz0, hz1, hz2⟩ := info_parts info_en
 have HI := Lib.hid (And.intro hi (And.intro hz0 (And.intro hz1 hz2)))
 clear hi hz0 hz1 hz2
 go_enter Try.func63, Try.ntmps63
 go_wp2
 go_loop [3, 11] (fun s i => ∃ k : Nat, k ≤ m ∧ i = .int .i64 k ∧ s = .int .i64 (sizesE (bss.take k) : Nat)) (fun _ i => m - (intOf i).toNat)
 case atStart => exact ⟨0, Nat.zero_le _, rfl, rfl⟩
 case round =>
  obtain ⟨k, hk, rfl, rfl⟩ := hrel
  have h1 := sizesE_le bss k
  have h1' := sizesE_le bss (k + 1)
  have hs' := HS.out
  by_cases hlt : k < m
  ·have hkl : k < bss.length := by have := HM.out; omega
   obtain ⟨v, g, hv, hz⟩ := HL.out k hkl
   obtain ⟨a, cap, rfl, _⟩ := hv.form
   clear hz
   have hsn : sizesE (bss.take (k + 1)) = sizesE (bss.take k) + bss[k].length := by rw [List.take_succ_eq_append_getElem hkl, sizesE_snoc]
   have HSN := Lib.hid hsn
   rw [hsn] at h1'
   clear hsn hv
   generalize sizesE (bss.take k) = s at HSN h1 h1'
   generalize hL : bss[k].length = L at HSN h1' g
   have hneg : (s : Int) + L ≥ 0 := by omega
   clear hL
   go_wp2
   go_round
   case rel => exact ⟨k + 1, by omega, by go_num, by rw [HSN.out]; go_num⟩
   case measure => simp [intOf]; omega
  ·obtain rfl : k = m := by omega
   have e1 : bss.take k = bss := List.take_of_length_le (by have := HM.out; omega)
   rw [e1]
   clear e1 hlt h1 h1'
   go_wp2_with fail
   (with_reducible refine (growE_any _ _ hs').mono ?_)
   rintro e w1 ⟨⟨v1, rfl, o1⟩, f1⟩
   have O1 := Lib.hid o1
   have F1 := Lib.hid f1
   clear o1 f1
   go_wp2
   go_loopw [6, 27] (fun v i wr => ∃ j : Nat, j ≤ k ∧ i = .int .i64 j ∧ wr.ownsRow w.heap.size 68 3 v (bss.take j).flatten.length ((bss.take j).flatten.flatMap encE) ∧ Fr (fun _ _ => True) w wr) (fun _ i _ => k - (intOf i).toNat)
   case atStart => exact ⟨0, Nat.zero_le _, rfl, O1.out, F1.out⟩
   case round =>
    obtain ⟨j, hj, rfl, ho, hf⟩ := hrel
    have hsz := sizesE_le bss j
    unfold sizesE at hsz hs'
    generalize hcur : (bss.take j).flatten = cur at ho hsz
    have HC := Lib.hid hcur
    clear hcur
    have HO := Lib.hid ho
    have HF := Lib.hid hf
    clear ho hf O1 F1
    by_cases hlt : j < k
    ·have hkl : j < bss.length := by have := HM.out; omega
     obtain ⟨v, g0, hv, hz⟩ := HL.out j hkl
     have g := HF.out.cell (fun _ _ => trivial) g0
     have HV := Lib.hid (srcE (hv.tt HF.out) hz)
     obtain ⟨a, cap, rfl, _⟩ := hv.form
     clear hz
     have hq : Hid ((bss.take (j + 1)).flatten = cur ++ bss[j]) := by
      rw [List.take_succ_eq_append_getElem hkl, flattenE_snoc, HC.out]; rfl
     have hx : cur.length + bss[j].length ≤ 2000000 := by
      have h1 := sizesE_le bss (j + 1)
      unfold sizesE at h1
      rw [hq.out, List.length_append] at h1
      omega
     generalize hy : bss[j] = y at HV hq hx g
     clear hy
     clear g0 hv
     obtain ⟨hi, hz0, hz1, hz2⟩ := HI.out
     go_wp2_with (at_builtin; refine wpList_append_src _ rfl _ _ 35 rfl w.heap.size 68 i0 (.agg #[.int .u64 0, .int .i64 0, .slice none 0 0]) 3 40 Try.underlying35 hi hz0 hz1 hz2 zero_en_size (by decide) _ _ _ rfl HO.out _ _ _ rfl HV.out ?c2 ?c3 ?c4 ?_)
     case c2 => unfold maxLen; omega
     case c3 => omega
     case c4 => exact HF.out.size
     intro v2 w2 o2 g2 _
     have F2 := Lib.hid (HF.out.grown_new g2 fun q e => by
      rcases HO.out.2 with ⟨h, _⟩ | ⟨g', _, _, h, hle, _⟩
      ·rw [h] at e; cases e
      ·rw [h] at e; cases e; exact hle)
     rw [← List.length_append, ← List.flatMap_append, ← hq.out] at o2
     have O2 := Lib.hid o2
     clear o2 g2 hi hz0 hz1 hz2
     go_wp2
     go_roundw
     case rel => exact ⟨j + 1, by omega, by go_num, O2.out, F2.out⟩
     case measure => simp [intOf]; omega
    ·have e1 : bss.take j = bss := List.take_of_length_le (by have := HM.out; omega)
     have o := HO.out
     rw [← HC.out, e1] at o
     have O := Lib.hid o
     clear o e1
     go_wp2
     go_ret
     exact ⟨⟨_, rfl, O.out⟩, HF.out⟩
end Go.Proofs.Ytmjccpfchhnfhaa
