/- Texts of the proofs, part 30: what the functions that they reach do, walked; no conditions beyond those that each states. -/
import Derived.Sort.AssemblyPlain
import Derived.Test.YtmjccpfchhnfhaaZzf7e2787f7f
set_option linter.unusedVariables false
set_option linter.unusedSimpArgs false
/- quorum.Reached of any group. -/
namespace Go.Proofs.Ytmjccpfchhnfhaa
open Go.RowKit
set_option linter.unusedVariables false
set_option linter.unusedSimpArgs false
theorem sort_calls12 (blk off cap : Nat) (zs : List Int) (w : World) (hH : Sort.Holds (Value.int .u64) w blk off zs.toArray) (hb : zs.length ≤ 12) :
  Calls Try.prog 73 #[.slice (some ⟨blk, off, none⟩) zs.length cap] w fun e w' =>
   e = .returned (.tuple #[]) ∧ ∃ n, w' = Sort.putRow (Value.int .u64) (Sort.ahead w n) blk off (srt zs).toArray := by
 have h := sort_small blk off cap zs.toArray w hH (by simpa using hb)
 have hs : (Sort.insertionSort Sort.ltInt zs.toArray 0 zs.toArray.size) = (srt zs).toArray := by
  obtain ⟨hP, hSo⟩ := Sort.insertionSort_holds (lt := Sort.ltInt) Sort.swo_ltInt zs.toArray 0 zs.toArray.size (Nat.zero_le _) (Nat.le_refl _)
  have h := Sort.sorted_unique_holds Sort.swo_ltInt (fun x y h1 h2 => by simp only [Sort.ltInt, decide_eq_false_iff_not] at h1 h2; omega) zs.toArray _ hP hSo
  apply Array.toList_inj.1
  rw [h]
  show zs.mergeSort _ = zs.mergeSort _
  congr 1
  funext x y
  show (!decide (y < x)) = decide (x ≤ y)
  by_cases h : x ≤ y
  ·have h' : ¬ y < x := by omega
   simp [h, h']
  ·have h' : y < x := by omega
   simp [h, h']
 rw [hs] at h
 simpa using h
set_option maxRecDepth 100000 in
set_option maxHeartbeats 2000000 in
theorem reached_calls {K K' : Nat → Obj → Prop} (w : World) (b off c : Nat) (vm : Value) (zs ms : List Int) (h : IntsAt K w (.slice (some ⟨b, off, none⟩) zs.length c) zs) (hq : NumsAt .u64 K' w vm ms) (hm : ms.length ≤ maxLen) (h0 : 0 < zs.length) (h12 : zs.length ≤ 12) (hp : ∀ x ∈ zs, 0 ≤ x) :
  Calls Try.prog 60 #[.slice (some ⟨b, off, none⟩) zs.length c, vm] w fun e w' => e = .returned (.int .u64 (midV (reachL zs ms zs.length))) ∧ Fr (fun b _ => b < w.heap.size) w w' := by
 obtain ⟨am, cm, rfl⟩ := hq.form
 have H := Lib.hid h
 have HQ := Lib.hid hq
 have HP := Lib.hid hp
 obtain ⟨N, hN⟩ : ∃ N, N = zs.length := ⟨_, rfl⟩
 have HN := Lib.hid hN
 obtain ⟨M, hM⟩ : ∃ M, M = ms.length := ⟨_, rfl⟩
 have HMM := Lib.hid hM
 have hMb : M ≤ 9223372036854775807 := by unfold maxLen at hm; omega
 rw [← hN] at h0 h12 ⊢
 rw [← hM]
 have HJ := fun w' => Lib.hid (maj_calls w' (some ⟨b, off, none⟩) N c (by omega))
 obtain ⟨mj, hmj⟩ : ∃ mj, mj = N / 2 + 1 := ⟨_, rfl⟩
 have HMJ := Lib.hid hmj
 have hmj1 : mj ≤ N := by omega
 have e0 : majI N = (mj : Nat) := by unfold majI; omega
 rw [e0] at HJ
 clear h hq hp hN hM e0 hm hmj
 go_enter Try.func60, Try.ntmps60
 go_wp2
 go_loopw [5, 11] (fun o i wr => ∃ (k : Nat) (a : Option Addr) (c : Nat), k ≤ N ∧ i = .int .i64 k ∧ o = .slice a k c ∧ RowU wr w.heap.size (.slice a k c) (reachL zs ms k) ∧ FT w wr) (fun _ i _ => N - (intOf i).toNat)
 case atStart => exact ⟨0, none, 0, Nat.zero_le _, rfl, rfl, RowU.nil _ _, Fr.refl _ _⟩
 case round =>
  obtain ⟨k, a, c', hk, rfl, rfl, ho, hf⟩ := hrel
  have HO := Lib.hid ho
  have HF := Lib.hid hf
  clear ho hf
  by_cases hlt : k < N
  ·have l1 : k < zs.length := by rw [← HN.out]; exact hlt
   have g1 := (H.tt HF).cell l1
   have HL := Lib.hid (reachL_succ zs ms k l1)
   have hu0 := HP _ (List.getElem_mem l1)
   have HR := Lib.hid (reachL_len zs ms (k + 1) (by omega))
   generalize hu : zs[k] = u at g1 HL hu0
   clear hu l1
   obtain ⟨p, rfl⟩ := Int.eq_ofNat_of_zero_le hu0
   clear hu0
   by_cases hpm : p < M
   ·have l2 : p < ms.length := by rw [← HMM.out]; exact hpm
    have ea : atU ms (p : Int) = ms[p] := by
     unfold atU; rw [if_pos (by omega)]; simp [l2]
    rw [ea] at HL
    obtain ⟨bm, om, ham⟩ := HQ.out.addr (by omega)
    have g2 := ((ham ▸ HQ.out).tt HF.out).cell l2
    generalize ms[p] = y at g2 HL
    clear ea
    subst ham
    clear l2
    go_wp2_with (at_builtin; refine wpList_append_u64 w _ y HF rfl _ _ rfl _ _ rfl HO rfl _ HL (by have := HR.out; omega) ?_)
    intro a1 c1 w1 O1 F1
    rw [HR.out] at O1 ⊢
    go_wp2
    go_roundw
    case rel => exact ⟨k + 1, a1, c1, by omega, by go_num, rfl, O1.out, F1.out⟩
    case measure => simp [intOf]; omega
   ·have ea : atU ms (p : Int) = 0 := by
     unfold atU; rw [if_neg (by have := HMM.out; omega)]
    rw [ea] at HL
    clear ea
    go_wp2_with (at_builtin; refine wpList_append_u64 w _ 0 HF rfl _ _ rfl _ _ rfl HO rfl _ HL (by have := HR.out; omega) ?_)
    intro a1 c1 w1 O1 F1
    rw [HR.out] at O1 ⊢
    go_wp2
    go_roundw
    case rel => exact ⟨k + 1, a1, c1, by omega, by go_num, rfl, O1.out, F1.out⟩
    case measure => simp [intOf]; omega
  ·obtain rfl : k = N := by omega
   have hrl := reachL_len zs ms k (by have := HN.out; omega)
   obtain ⟨g, cap, hv, hg, hgl, hH⟩ := HO.out.parts (by omega)
   rw [hrl] at hv
   cases hv
   have key : ∀ m, m = (reachL zs ms k).toArray.size → Calls Try.prog 73 #[.slice (some ⟨g, 0, none⟩) m c'] wr fun e w' =>
     e = .returned (.tuple #[]) ∧ ∃ n, w' = Sort.putRow (Value.int .u64) (Sort.ahead wr n) g 0 (srt (reachL zs ms k)).toArray := by
    rintro _ rfl
    exact sort_calls12 g 0 c' _ wr hH (by rw [hrl]; omega)
   have HK := Lib.hid (key k (by simp [hrl]))
   have HH := Lib.hid hH
   have HG := Lib.hid hg
   have HRL := Lib.hid hrl
   have HGL := Lib.hid hgl
   clear key hH hg hrl hgl
   go_wp2_with fail
   with_reducible refine HK.out.mono ?_
   rintro e1 w2 ⟨rfl, n, hw⟩
   obtain ⟨j, hj⟩ : ∃ j : Nat, j = k - mj := ⟨_, rfl⟩
   have ej : (k : Int) - (mj : Nat) = (j : Nat) := by omega
   have hjk : j < k := by have := HMJ.out; omega
   have hS : (srt (reachL zs ms k)).toArray.size = (reachL zs ms k).toArray.size := by simp [srt_len]
   have hlt3 : j < (srt (reachL zs ms k)).length := by rw [srt_len, HRL.out]; exact hjk
   have gc : w2.cell? ⟨g, j, none⟩ = some (.int .u64 ((srt (reachL zs ms k))[j])) := by
    have := Sort.cell?_putRow (Value.int .u64) (Sort.ahead wr n) g 0 (reachL zs ms k).toArray (srt (reachL zs ms k)).toArray (Sort.holds_ahead _ _ _ _ _ _ HH.out) hS j (by simpa using hlt3)
    rw [hw]
    rw [Nat.zero_add] at this
    rw [this]
    simp [hlt3]
   have hV : midV (reachL zs ms k) = (srt (reachL zs ms k))[j] := by
    unfold midV
    rw [HRL.out, ← HMJ.out, ← hj]
    simp [List.getD, hlt3]
   have HV := Lib.hid hV
   have F2 : Hid (Fr (fun b _ => b < w.heap.size) w w2) := by
    rw [hw]
    have h1 : Fr (fun b _ => b < w.heap.size) w (Sort.ahead wr n) := (HF.tT).ahead n
    exact h1.putRowU (fun o ho => by have := HG.out; omega) _ _
   generalize (srt (reachL zs ms k))[j] = y at gc HV
   clear hw hS hV hj HK hlt3
   go_wp2_with fail
   with_reducible refine (HJ _).out.mono ?_
   rintro e1 w3 ⟨rfl, rfl⟩
   go_wp2
   go_ret
   exact ⟨by rw [HV.out]; rfl, F2.out⟩
end Go.Proofs.Ytmjccpfchhnfhaa
