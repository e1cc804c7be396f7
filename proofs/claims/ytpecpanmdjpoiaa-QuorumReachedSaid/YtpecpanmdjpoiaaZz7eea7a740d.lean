/- Texts of the proofs, part 6: what the functions that they reach do, walked; no conditions beyond those that each states. -/
import Derived.Test.YtpecpanmdjpoiaaZz82a4fa55d1
set_option linter.unusedVariables false
set_option linter.unusedSimpArgs false
/- Package quorum: Reached, at most twelve members. -/
namespace Go.Proofs.Ytpecpanmdjpoiaa
open Go.RowKit
set_option linter.unusedVariables false

theorem info_u64 : (Try.prog.info? 27).map (fun i => (i.zero, i.size, i.bytes)) = some (some (.int .u64 0), 1, 8) := by kernel_rfl
/-- A row of numbers of 64 bits of the function's own. -/
def RowU (w : World) (B : Nat) (v : Value) (zs : List Int) : Prop := w.ownsRow B 27 1 v zs.length (zs.map (Value.int .u64))
theorem RowU.tt {w w' : World} {B : Nat} {v : Value} {zs : List Int} (h : RowU w B v zs) (hf : Fr (fun _ _ => True) w w') : RowU w' B v zs := ownsRow_fr h hf fun _ _ _ _ => trivial
theorem RowU.nil (w : World) (B : Nat) : RowU w B (.slice none 0 0) [] := ⟨rfl, .inl ⟨rfl, rfl⟩⟩
theorem RowU.form {w : World} {B : Nat} {v : Value} {zs : List Int} (h : RowU w B v zs) : ∃ a c, v = .slice a zs.length c := by
  rcases h.2 with ⟨rfl, e⟩ | ⟨g, cap, _, rfl, _⟩
  · exact ⟨none, 0, by rw [e]⟩
  · exact ⟨_, _, rfl⟩
theorem RowU.parts {w : World} {B : Nat} {v : Value} {zs : List Int} (h : RowU w B v zs) (h0 : 0 < zs.length) : ∃ g cap, v = .slice (some ⟨g, 0, none⟩) zs.length cap ∧ B ≤ g ∧ g < w.heap.size ∧ Sort.Holds (Value.int .u64) w g 0 zs.toArray := by
  obtain ⟨h1, h2⟩ := h
  rcases h2 with ⟨hv, hn⟩ | ⟨g, cap, cur, hv, hg, hh, hn, hc, hs, ht⟩
  · omega
  · refine ⟨g, cap, hv, hg, lt_of_some hh, fun k hk => ⟨?_, frozen_mk hh⟩⟩
    have hk' : k < zs.length := by simpa using hk
    have e1 : cur.toList[k]? = (zs.map (Value.int .u64))[k]? := by rw [← ht, List.getElem?_take, if_pos (by omega)]
    have e2 : cur[k]? = some (Value.int .u64 zs[k]) := by rw [← Array.getElem?_toList, e1]; simp [hk']
    rw [Nat.zero_add, cell_mk hh e2]
    simp [hk']
/-- An append of one number. -/
theorem wpList_append_u64 {ops : Array Oper} {rest : List Oper} {o : Oper} {a : Act} {Q : Exit → Act → World → Prop} (W0 W1 : World) (y : Int) (hF : Hid (Fr (fun _ _ => True) W0 W1)) (hgd : o.guard = none) (s x : Operand)
    (ho : o.op = .call { callee := .builtin .append, args := #[s, x], argTypes := #[26, 26] }) (v : Value) (xs : List Int) (hs : a.eval s = v) (hown : Hid (RowU W1 W0.heap.size v xs))
    (hx : a.eval x = .slice (some ⟨W1.heap.size, 0, none⟩) 1 1) (r : List Int) (hr : Hid (xs ++ [y] = r)) (hn : r.length ≤ 2000000)
    (h : ∀ a' c' w', Hid (RowU w' W0.heap.size (.slice a' r.length c') r) → Hid (Fr (fun _ _ => True) W0 w') → wpList Try.prog ops Q rest (a.put o.dst (.slice a' r.length c')) w') :
    wpList Try.prog ops Q (o :: rest) a (W1.alloc (.cells #[.int .u64 y] 27 (0, 0))) := by
  obtain ⟨i0, hi, hz0, hz1, hz2⟩ := info_parts info_u64
  have hr := hr.out
  subst hr
  rw [List.length_append, List.length_singleton] at hn
  have hsrc : SrcAt (W1.alloc (.cells #[.int .u64 y] 27 (0, 0))) 1 (.slice (some ⟨W1.heap.size, 0, none⟩) 1 1) 1 [Value.int .u64 y] := by
    refine .inr ⟨_, 1, rfl, rfl, fun j u hu => ?_, fun u hu => by obtain rfl := List.mem_singleton.1 hu; rfl⟩
    rcases j with _ | j
    · cases hu; rw [add_at]; exact cell_mk (heap_alloc_new _ _) rfl
    · simp at hu
  refine wpList_append_src _ hgd s x 26 ho W0.heap.size 27 i0 (.int .u64 0) 1 8 Try.underlying26 hi hz0 hz1 hz2 rfl (by decide) v xs.length (xs.map (Value.int .u64)) hs (hown.out.tt ((Fr.refl _ _).alloc _)) _ 1 [Value.int .u64 y] hx hsrc (by unfold maxLen; omega) (by omega) (by have := hF.out.size; simp; omega) ?_
  intro v' w' h1 h2 _
  have e1 : xs.map (Value.int .u64) ++ [Value.int .u64 y] = (xs ++ [y]).map (Value.int .u64) := by simp
  have e2 : xs.length + 1 = (xs ++ [y]).length := by simp
  rw [e1, e2] at h1
  obtain ⟨a', c', rfl⟩ := RowU.form h1
  exact h a' c' w' h1 ((hF.out.alloc _).grown_new h2 (own_new hown.out))

theorem Fr.putRowU {K : Nat → Obj → Prop} {a w : World} (h : Fr K a w) {g : Nat} (hp : ∀ o, a.heap[g]? = some o → ¬ K g o) (off : Nat) (d : Array Int) : Fr K a (Sort.putRow (Value.int .u64) w g off d) := by
  refine ⟨h.os, h.tape, h.output, by rw [Sort.size_putRow]; exact h.size, fun b o hb hk => ?_⟩
  have hne : b ≠ g := fun e => hp o (e ▸ hb) (e ▸ hk)
  have := h.keep b o hb hk
  rw [← this]
  simp only [Sort.putRow, Sort.mapBlock]
  rw [Array.getElem?_modify, if_neg (fun e => hne e.symm)]
/-- What a member has reached. -/
def atU (ms : List Int) (n : Int) : Int := if n < ms.length then ms.getD n.toNat 0 else 0
def reachL (zs ms : List Int) (k : Nat) : List Int := (zs.take k).map (atU ms)
theorem reachL_succ (zs ms : List Int) (k : Nat) (hk : k < zs.length) : reachL zs ms k ++ [atU ms zs[k]] = reachL zs ms (k + 1) := by
  unfold reachL
  rw [List.take_succ_eq_append_getElem hk, List.map_append]; rfl
theorem reachL_len (zs ms : List Int) (k : Nat) (hk : k ≤ zs.length) : (reachL zs ms k).length = k := by unfold reachL; simp; omega
def sorted (l : List Int) : Array Int := Sort.insertionSort Sort.ltInt l.toArray 0 l.toArray.size
def reachV (zs ms : List Int) : Int := (sorted (reachL zs ms zs.length))[zs.length - (zs.length / 2 + 1)]!

set_option maxRecDepth 100000 in
set_option maxHeartbeats 2000000 in
theorem reached_small {K K' : Nat → Obj → Prop} (w : World) (b off c : Nat) (vm : Value) (zs ms : List Int) (h : IntsAt K w (.slice (some ⟨b, off, none⟩) zs.length c) zs) (hq : NumsAt .u64 K' w vm ms) (hm : ms.length ≤ maxLen) (h0 : 0 < zs.length) (h12 : zs.length ≤ 12) (hp : ∀ x ∈ zs, 0 ≤ x) (hss : (sorted (reachL zs ms zs.length)).size = zs.length) :
    Calls Try.prog 13 #[.slice (some ⟨b, off, none⟩) zs.length c, vm] w fun e w' => e = .returned (.int .u64 (reachV zs ms)) ∧ Fr (fun b _ => b < w.heap.size) w w' := by
  obtain ⟨am, cm, rfl⟩ := hq.form
  have H := Lib.hid h
  have HQ := Lib.hid hq
  have HP := Lib.hid hp
  have HS := Lib.hid hss
  obtain ⟨N, hN⟩ : ∃ N, N = zs.length := ⟨_, rfl⟩
  have HN := Lib.hid hN
  obtain ⟨M, hM⟩ : ∃ M, M = ms.length := ⟨_, rfl⟩
  have HMM := Lib.hid hM
  have hMb : M ≤ 9223372036854775807 := by unfold maxLen at hm; omega
  rw [← hN] at h0 h12 ⊢
  rw [← hM]
  have HJ := fun w' => Lib.hid (maj_calls w' (some ⟨b, off, none⟩) N c (by omega))
  obtain ⟨mj, hmj⟩ : ∃ mj, mj = N / 2 + 1 := ⟨_, rfl⟩
  have HMJ := Lib.hid hmj
  have hmj1 : mj ≤ N := by omega
  have e0 : majI N = (mj : Nat) := by unfold majI; omega
  rw [e0] at HJ
  clear h hq hp hss hN hM e0 hm hmj
  go_enter Try.func13, Try.ntmps13
  go_wp2
  go_loopw [5, 11] (fun o i wr => ∃ (k : Nat) (a : Option Addr) (c : Nat), k ≤ N ∧ i = .int .i64 k ∧ o = .slice a k c ∧ RowU wr w.heap.size (.slice a k c) (reachL zs ms k) ∧ Fr (fun _ _ => True) w wr) (fun _ i _ => N - (intOf i).toNat)
  case atStart => exact ⟨0, none, 0, Nat.zero_le _, rfl, rfl, RowU.nil _ _, Fr.refl _ _⟩
  case round =>
    obtain ⟨k, a, c', hk, rfl, rfl, ho, hf⟩ := hrel
    have HO := Lib.hid ho
    have HF := Lib.hid hf
    clear ho hf
    by_cases hlt : k < N
    · have l1 : k < zs.length := by rw [← HN.out]; exact hlt
      have g1 := (H.out.tt HF.out).cell l1
      have HL := Lib.hid (reachL_succ zs ms k l1)
      have hu0 := HP.out _ (List.getElem_mem l1)
      have HR := Lib.hid (reachL_len zs ms (k + 1) (by omega))
      generalize hu : zs[k] = u at g1 HL hu0
      clear hu l1
      obtain ⟨p, rfl⟩ := Int.eq_ofNat_of_zero_le hu0
      clear hu0
      by_cases hpm : p < M
      · have l2 : p < ms.length := by rw [← HMM.out]; exact hpm
        have ea : atU ms (p : Int) = ms[p] := by
          unfold atU; rw [if_pos (by omega)]; simp [l2]
        rw [ea] at HL
        obtain ⟨bm, om, ham⟩ := HQ.out.addr (by omega)
        have g2 := ((ham ▸ HQ.out).tt HF.out).cell l2
        generalize ms[p] = y at g2 HL
        clear ea
        subst ham
        clear l2
        go_wp2_with (at_builtin; refine wpList_append_u64 w _ y HF rfl _ _ rfl _ _ rfl HO rfl _ HL (by have := HR.out; omega) ?_)
        intro a1 c1 w1 O1 F1
        rw [HR.out] at O1 ⊢
        go_wp2
        go_roundw
        case rel => exact ⟨k + 1, a1, c1, by omega, by go_num, rfl, O1.out, F1.out⟩
        case measure => simp [intOf]; omega
      · have ea : atU ms (p : Int) = 0 := by
          unfold atU; rw [if_neg (by have := HMM.out; omega)]
        rw [ea] at HL
        clear ea
        go_wp2_with (at_builtin; refine wpList_append_u64 w _ 0 HF rfl _ _ rfl _ _ rfl HO rfl _ HL (by have := HR.out; omega) ?_)
        intro a1 c1 w1 O1 F1
        rw [HR.out] at O1 ⊢
        go_wp2
        go_roundw
        case rel => exact ⟨k + 1, a1, c1, by omega, by go_num, rfl, O1.out, F1.out⟩
        case measure => simp [intOf]; omega
    · obtain rfl : k = N := by omega
      have hrl := reachL_len zs ms k (by have := HN.out; omega)
      obtain ⟨g, cap, hv, hg, hgl, hH⟩ := HO.out.parts (by omega)
      rw [hrl] at hv
      cases hv
      have key : ∀ m, m = (reachL zs ms k).toArray.size → Calls Try.prog 28 #[.slice (some ⟨g, 0, none⟩) m c'] wr fun e w' =>
          e = .returned (.tuple #[]) ∧ ∃ n, w' = Sort.putRow (Value.int .u64) (Sort.ahead wr n) g 0 (sorted (reachL zs ms k)) := by
        rintro _ rfl
        exact sort_small g 0 c' _ wr hH (by simp; omega)
      have HK := Lib.hid (key k (by simp [hrl]))
      have HH := Lib.hid hH
      have HG := Lib.hid hg
      have HRL := Lib.hid hrl
      clear key hH hg hrl hgl
      go_wp2_with fail
      with_reducible refine HK.out.mono ?_
      rintro e1 w2 ⟨rfl, n, hw⟩
      obtain ⟨j, hj⟩ : ∃ j : Nat, j = k - mj := ⟨_, rfl⟩
      have ej : (k : Int) - (mj : Nat) = (j : Nat) := by omega
      have hjk : j < k := by have := HMJ.out; omega
      have hS : (sorted (reachL zs ms k)).size = (reachL zs ms k).toArray.size := by
        have := HS.out
        rw [← HN.out] at this
        rw [this]; simp [HRL.out]
      have gc : w2.cell? ⟨g, j, none⟩ = some (.int .u64 (sorted (reachL zs ms k))[j]!) := by
        have := Sort.cell?_putRow (Value.int .u64) (Sort.ahead wr n) g 0 (reachL zs ms k).toArray (sorted (reachL zs ms k)) (Sort.holds_ahead _ _ _ _ _ _ HH.out) hS j (by rw [hS]; simp [HRL.out]; omega)
        rw [hw]
        rw [Nat.zero_add] at this
        exact this
      have hV : reachV zs ms = (sorted (reachL zs ms k))[j]! := by
        unfold reachV
        rw [← HN.out, ← HMJ.out, ← hj]
      have HV := Lib.hid hV
      have F2 : Hid (Fr (fun b _ => b < w.heap.size) w w2) := by
        rw [hw]
        have h1 : Fr (fun b _ => b < w.heap.size) w (Sort.ahead wr n) := (HF.out.mono fun _ _ _ => trivial).ahead n
        exact h1.putRowU (fun o ho => by have := HG.out; omega) _ _
      generalize (sorted (reachL zs ms k))[j]! = y at gc HV
      clear hw hS hV hj HK
      go_wp2_with fail
      with_reducible refine (HJ _).out.mono ?_
      rintro e1 w3 ⟨rfl, rfl⟩
      go_wp2
      go_ret
      exact ⟨by rw [HV.out]; rfl, F2.out⟩
end Go.Proofs.Ytpecpanmdjpoiaa
/- Law 10: the chapter's examples. -/
namespace Go.Proofs.Ytpecpanmdjpoiaa
open Go.RowKit
set_option linter.unusedVariables false

theorem lit_nums {q : IntKind} (t : TypeId) (w : World) (zs : List Int) : NumsAt q (fun b _ => w.heap.size ≤ b) (w.alloc (.cells (zs.map (Value.int q)).toArray t (0, 0))) (.slice (some ⟨w.heap.size, 0, none⟩) zs.length zs.length) zs :=
  NumsAt.mk' (fun _ => Nat.le_refl _) fun k u hu => by
    rw [Nat.zero_add]
    refine cell_mk (heap_alloc_new _ _) ?_
    rw [List.getElem?_toArray, List.getElem?_map, hu]; rfl
theorem sorted_ex : sorted (reachL [0, 1, 2] [5, 9, 7] 3) = #[5, 7, 9] := by
  show Sort.insOuter Sort.ltInt 0 3 1 #[5, 9, 7] = _
  rw [insOuter_go _ _ _ _ _ (by decide), insOuter_go _ _ _ _ _ (by decide), insOuter_stop _ _ _ _ _ (by decide)]
  rfl
theorem reach_ex : reachV [0, 1, 2] [5, 9, 7] = 7 := by
  show (sorted (reachL [0, 1, 2] [5, 9, 7] 3))[3 - (3 / 2 + 1)]! = 7
  rw [sorted_ex]; rfl

set_option maxRecDepth 100000 in
set_option maxHeartbeats 4000000 in
theorem awake_calls (w : World) : Calls Try.prog 9 #[] w fun e w' => e = .returned (.bool true) ∧ Fr (fun b _ => b < w.heap.size) w w' := by
  have F0 : Hid (Fr (fun b _ => b < w.heap.size) w w) := Fr.refl _ _
  go_enter Try.func9, Try.ntmps9
  have A0 := Lib.hid (maj_calls (w.alloc (.cells #[.int .i64 1, .int .i64 2, .int .i64 3] 3 (0, 0))) (some ⟨w.heap.size, 0, none⟩) 3 3 (by decide))
  rw [show majI 3 = 2 from rfl] at A0
  have G0 : Hid (Fr (fun b _ => b < w.heap.size) w (w.alloc (.cells #[.int .i64 1, .int .i64 2, .int .i64 3] 3 (0, 0)))) := F0.out.alloc _
  go_wp2_with fail
  with_reducible refine A0.out.mono ?_
  rintro e1 w1 ⟨rfl, h0⟩
  have F1 : Hid (Fr (fun b _ => b < w.heap.size) w w1) := h0 ▸ G0.out
  clear h0 G0 A0 F0
  have A1 := Lib.hid (maj_calls (w1.alloc (.cells #[.int .i64 1, .int .i64 2, .int .i64 3, .int .i64 4] 3 (0, 0))) (some ⟨w1.heap.size, 0, none⟩) 4 4 (by decide))
  rw [show majI 4 = 3 from rfl] at A1
  have G1 : Hid (Fr (fun b _ => b < w.heap.size) w (w1.alloc (.cells #[.int .i64 1, .int .i64 2, .int .i64 3, .int .i64 4] 3 (0, 0)))) := F1.out.alloc _
  go_wp2_with fail
  with_reducible refine A1.out.mono ?_
  rintro e1 w2 ⟨rfl, h1⟩
  have F2 : Hid (Fr (fun b _ => b < w.heap.size) w w2) := h1 ▸ G1.out
  clear h1 G1 A1 F1
  have A2 := Lib.hid (agrees_calls ((w2.alloc (.cells #[.int .i64 1, .int .i64 2, .int .i64 3] 3 (0, 0))).alloc (.cells #[.int .i64 3, .int .i64 3, .int .i64 7] 3 (0, 0))) (.slice (some ⟨w2.heap.size, 0, none⟩) 3 3) (.slice (some ⟨(w2.alloc (.cells #[.int .i64 1, .int .i64 2, .int .i64 3] 3 (0, 0))).heap.size, 0, none⟩) 3 3) [1, 2, 3] [3, 3, 7] ((lit_nums 3 w2 [1, 2, 3]).tt ((Fr.refl _ _).alloc _)) (lit_nums 3 (w2.alloc (.cells #[.int .i64 1, .int .i64 2, .int .i64 3] 3 (0, 0))) [3, 3, 7]) (by decide) (by decide))
  have G2 : Hid (Fr (fun b _ => b < w.heap.size) w ((w2.alloc (.cells #[.int .i64 1, .int .i64 2, .int .i64 3] 3 (0, 0))).alloc (.cells #[.int .i64 3, .int .i64 3, .int .i64 7] 3 (0, 0)))) := (F2.out.alloc _).alloc _
  rw [show agrI [1, 2, 3] [3, 3, 7] = false from by decide] at A2
  have hz2 : (w2.alloc (.cells #[.int .i64 1, .int .i64 2, .int .i64 3] 3 (0, 0))).heap.size = w2.heap.size + 1 := by simp
  rw [hz2] at A2
  go_wp2_with fail
  with_reducible refine A2.out.mono ?_
  rintro e1 w3 ⟨rfl, h2⟩
  have F3 : Hid (Fr (fun b _ => b < w.heap.size) w w3) := h2 ▸ G2.out
  clear h2 G2 A2 F2 hz2
  have A3 := Lib.hid (agrees_calls ((w3.alloc (.cells #[.int .i64 1, .int .i64 2, .int .i64 3] 3 (0, 0))).alloc (.cells #[.int .i64 3, .int .i64 1] 3 (0, 0))) (.slice (some ⟨w3.heap.size, 0, none⟩) 3 3) (.slice (some ⟨(w3.alloc (.cells #[.int .i64 1, .int .i64 2, .int .i64 3] 3 (0, 0))).heap.size, 0, none⟩) 2 2) [1, 2, 3] [3, 1] ((lit_nums 3 w3 [1, 2, 3]).tt ((Fr.refl _ _).alloc _)) (lit_nums 3 (w3.alloc (.cells #[.int .i64 1, .int .i64 2, .int .i64 3] 3 (0, 0))) [3, 1]) (by decide) (by decide))
  have G3 : Hid (Fr (fun b _ => b < w.heap.size) w ((w3.alloc (.cells #[.int .i64 1, .int .i64 2, .int .i64 3] 3 (0, 0))).alloc (.cells #[.int .i64 3, .int .i64 1] 3 (0, 0)))) := (F3.out.alloc _).alloc _
  rw [show agrI [1, 2, 3] [3, 1] = true from by decide] at A3
  have hz3 : (w3.alloc (.cells #[.int .i64 1, .int .i64 2, .int .i64 3] 3 (0, 0))).heap.size = w3.heap.size + 1 := by simp
  rw [hz3] at A3
  go_wp2_with fail
  with_reducible refine A3.out.mono ?_
  rintro e1 w4 ⟨rfl, h3⟩
  have F4 : Hid (Fr (fun b _ => b < w.heap.size) w w4) := h3 ▸ G3.out
  clear h3 G3 A3 F3 hz3
  have A4 := Lib.hid (reached_small ((w4.alloc (.cells #[.int .i64 0, .int .i64 1, .int .i64 2] 3 (0, 0))).alloc (.cells #[.int .u64 5, .int .u64 9, .int .u64 7] 27 (0, 0))) w4.heap.size 0 3 (.slice (some ⟨(w4.alloc (.cells #[.int .i64 0, .int .i64 1, .int .i64 2] 3 (0, 0))).heap.size, 0, none⟩) 3 3) [0, 1, 2] [5, 9, 7] ((lit_nums 3 w4 [0, 1, 2]).tt ((Fr.refl _ _).alloc _)) (lit_nums 27 (w4.alloc (.cells #[.int .i64 0, .int .i64 1, .int .i64 2] 3 (0, 0))) [5, 9, 7]) (by decide) (by decide) (by decide) (by decide) (by show (sorted (reachL [0, 1, 2] [5, 9, 7] 3)).size = 3; rw [sorted_ex]; rfl))
  have G4 : Hid (Fr (fun b _ => b < w.heap.size) w ((w4.alloc (.cells #[.int .i64 0, .int .i64 1, .int .i64 2] 3 (0, 0))).alloc (.cells #[.int .u64 5, .int .u64 9, .int .u64 7] 27 (0, 0)))) := (F4.out.alloc _).alloc _
  rw [reach_ex, show ([0, 1, 2] : List Int).length = 3 from rfl] at A4
  have hz4 : (w4.alloc (.cells #[.int .i64 0, .int .i64 1, .int .i64 2] 3 (0, 0))).heap.size = w4.heap.size + 1 := by simp
  rw [hz4] at A4
  go_wp2_with fail
  with_reducible refine A4.out.mono ?_
  rintro e1 w5 ⟨rfl, f4⟩
  have F5 : Hid (Fr (fun b _ => b < w.heap.size) w w5) := G4.out.trans (f4.mono fun b _ hb => by have := G4.out.size; have hb : b < w.heap.size := hb; omega)
  clear f4 G4 A4 F4 hz4
  have A5 := Lib.hid (meet_calls ((w5.alloc (.cells #[.int .i64 1, .int .i64 2, .int .i64 3] 3 (0, 0))).alloc (.cells #[.int .i64 1, .int .i64 2, .int .i64 3, .int .i64 4] 3 (0, 0))) (.slice (some ⟨w5.heap.size, 0, none⟩) 3 3) (.slice (some ⟨(w5.alloc (.cells #[.int .i64 1, .int .i64 2, .int .i64 3] 3 (0, 0))).heap.size, 0, none⟩) 4 4) [1, 2, 3] [1, 2, 3, 4] ((lit_nums 3 w5 [1, 2, 3]).tt ((Fr.refl _ _).alloc _)) (lit_nums 3 (w5.alloc (.cells #[.int .i64 1, .int .i64 2, .int .i64 3] 3 (0, 0))) [1, 2, 3, 4]) (by decide) (by decide))
  have G5 : Hid (Fr (fun b _ => b < w.heap.size) w ((w5.alloc (.cells #[.int .i64 1, .int .i64 2, .int .i64 3] 3 (0, 0))).alloc (.cells #[.int .i64 1, .int .i64 2, .int .i64 3, .int .i64 4] 3 (0, 0)))) := (F5.out.alloc _).alloc _
  rw [show meetI [1, 2, 3] [1, 2, 3, 4] = true from by decide] at A5
  have hz5 : (w5.alloc (.cells #[.int .i64 1, .int .i64 2, .int .i64 3] 3 (0, 0))).heap.size = w5.heap.size + 1 := by simp
  rw [hz5] at A5
  go_wp2_with fail
  with_reducible refine A5.out.mono ?_
  rintro e1 w6 ⟨rfl, h5⟩
  have F6 : Hid (Fr (fun b _ => b < w.heap.size) w w6) := h5 ▸ G5.out
  clear h5 G5 A5 F5 hz5
  have A6 := Lib.hid (meet_calls ((w6.alloc (.cells #[.int .i64 1, .int .i64 2] 3 (0, 0))).alloc (.cells #[.int .i64 3, .int .i64 4] 3 (0, 0))) (.slice (some ⟨w6.heap.size, 0, none⟩) 2 2) (.slice (some ⟨(w6.alloc (.cells #[.int .i64 1, .int .i64 2] 3 (0, 0))).heap.size, 0, none⟩) 2 2) [1, 2] [3, 4] ((lit_nums 3 w6 [1, 2]).tt ((Fr.refl _ _).alloc _)) (lit_nums 3 (w6.alloc (.cells #[.int .i64 1, .int .i64 2] 3 (0, 0))) [3, 4]) (by decide) (by decide))
  have G6 : Hid (Fr (fun b _ => b < w.heap.size) w ((w6.alloc (.cells #[.int .i64 1, .int .i64 2] 3 (0, 0))).alloc (.cells #[.int .i64 3, .int .i64 4] 3 (0, 0)))) := (F6.out.alloc _).alloc _
  rw [show meetI [1, 2] [3, 4] = false from by decide] at A6
  have hz6 : (w6.alloc (.cells #[.int .i64 1, .int .i64 2] 3 (0, 0))).heap.size = w6.heap.size + 1 := by simp
  rw [hz6] at A6
  go_wp2_with fail
  with_reducible refine A6.out.mono ?_
  rintro e1 w7 ⟨rfl, h6⟩
  have F7 : Hid (Fr (fun b _ => b < w.heap.size) w w7) := h6 ▸ G6.out
  clear h6 G6 A6 F6 hz6
  have A7 := Lib.hid (meet_calls ((w7.alloc (.cells #[.int .i64 1, .int .i64 2, .int .i64 3] 3 (0, 0))).alloc (.cells #[.int .i64 3, .int .i64 4, .int .i64 5] 3 (0, 0))) (.slice (some ⟨w7.heap.size, 0, none⟩) 3 3) (.slice (some ⟨(w7.alloc (.cells #[.int .i64 1, .int .i64 2, .int .i64 3] 3 (0, 0))).heap.size, 0, none⟩) 3 3) [1, 2, 3] [3, 4, 5] ((lit_nums 3 w7 [1, 2, 3]).tt ((Fr.refl _ _).alloc _)) (lit_nums 3 (w7.alloc (.cells #[.int .i64 1, .int .i64 2, .int .i64 3] 3 (0, 0))) [3, 4, 5]) (by decide) (by decide))
  have G7 : Hid (Fr (fun b _ => b < w.heap.size) w ((w7.alloc (.cells #[.int .i64 1, .int .i64 2, .int .i64 3] 3 (0, 0))).alloc (.cells #[.int .i64 3, .int .i64 4, .int .i64 5] 3 (0, 0)))) := (F7.out.alloc _).alloc _
  rw [show meetI [1, 2, 3] [3, 4, 5] = false from by decide] at A7
  have hz7 : (w7.alloc (.cells #[.int .i64 1, .int .i64 2, .int .i64 3] 3 (0, 0))).heap.size = w7.heap.size + 1 := by simp
  rw [hz7] at A7
  go_wp2_with fail
  with_reducible refine A7.out.mono ?_
  rintro e1 w8 ⟨rfl, h7⟩
  have F8 : Hid (Fr (fun b _ => b < w.heap.size) w w8) := h7 ▸ G7.out
  clear h7 G7 A7 F7 hz7
  go_wp2
  go_ret
  exact ⟨rfl, F8.out⟩
end Go.Proofs.Ytpecpanmdjpoiaa
/- Law 10: what Add and Remove lay, plainly. -/
namespace Go.Proofs.Ytpecpanmdjpoiaa
open Go.RowKit
set_option linter.unusedVariables false

theorem right_all {zs : List Int} (h : rightQ zs = true) : zs.Pairwise (· < ·) ∧ (∀ x ∈ zs, 0 ≤ x ∧ x ≤ 15) ∧ 0 < zs.length ∧ zs.length ≤ 16 := by
  have hl := right_len h
  unfold rightQ at h
  simp only [Bool.and_eq_true] at h
  obtain ⟨a, b⟩ := rgt_all h.1
  exact ⟨a, fun x hx => by have := b x hx; omega, hl.1, hl.2⟩
theorem right_of {zs : List Int} (hp : zs.Pairwise (· < ·)) (hr : ∀ x ∈ zs, 0 ≤ x ∧ x ≤ 15) (h0 : 0 < zs.length) : rightQ zs = true := by
  rw [right_some h0]
  exact rgt_of hp fun x hx => by have := hr x hx; omega
theorem take_pos {zs : List Int} {n : Int} (hp : zs.Pairwise (· < ·)) : ∀ x ∈ zs.take (pos zs n), x < n := by
  intro x hx
  rw [(pos_split n hp).1] at hx
  simpa using (List.mem_filter.1 hx).2
theorem drop_pos {zs : List Int} {n : Int} (hp : zs.Pairwise (· < ·)) : ∀ x ∈ zs.drop (pos zs n), n ≤ x := by
  intro x hx
  rw [(pos_split n hp).2] at hx
  simpa using (List.mem_filter.1 hx).2
theorem mem_insI {zs : List Int} {i : Nat} {x y : Int} : y ∈ insI zs i x ↔ y = x ∨ y ∈ zs := by
  unfold insI
  rw [List.mem_append, List.mem_cons]
  constructor
  · rintro (h | h | h)
    · exact .inr (List.mem_of_mem_take h)
    · exact .inl h
    · exact .inr (List.mem_of_mem_drop h)
  · rintro (h | h)
    · exact .inr (.inl h)
    · rw [← List.take_append_drop i zs, List.mem_append] at h
      rcases h with h | h
      · exact .inl h
      · exact .inr (.inr h)
theorem ins_sorted {zs : List Int} {n : Int} (hp : zs.Pairwise (· < ·)) (hi : hasI zs n = false) : (insI zs (pos zs n) n).Pairwise (· < ·) := by
  have hd : ∀ x ∈ zs.drop (pos zs n), n < x := fun x hx => by
    have h1 := drop_pos hp x hx
    have h2 : x ≠ n := fun e => by
      rw [hasI_mem.2 (e ▸ List.mem_of_mem_drop hx)] at hi; cases hi
    omega
  unfold insI
  rw [List.pairwise_append]
  refine ⟨hp.sublist (List.take_sublist _ _), List.pairwise_cons.2 ⟨hd, hp.sublist (List.drop_sublist _ _)⟩, fun a ha b hb => ?_⟩
  have h1 := take_pos hp a ha
  rcases List.mem_cons.1 hb with rfl | hb
  · exact h1
  · have := hd b hb; omega
theorem ins_right {zs : List Int} {n : Int} (h : rightQ zs = true) (hi : hasI zs n = false) (h0 : 0 ≤ n) (h1 : n ≤ 15) : rightQ (insI zs (pos zs n) n) = true := by
  obtain ⟨a, b, _, _⟩ := right_all h
  refine right_of (ins_sorted a hi) (fun x hx => ?_) (by rw [insI_len]; omega)
  rcases mem_insI.1 hx with rfl | hx
  · exact ⟨h0, h1⟩
  · exact b x hx
theorem ins_pos {zs : List Int} {n : Int} (hp : zs.Pairwise (· < ·)) : pos (insI zs (pos zs n) n) n = pos zs n := by
  have hl : (zs.take (pos zs n)).length = pos zs n := by have := pos_le zs n; simp; omega
  have e1 : (zs.take (pos zs n)).countP (fun x => decide (x < n)) = pos zs n := by
    rw [List.countP_eq_length.2 fun x hx => by simpa using take_pos hp x hx, hl]
  have e2 : (zs.drop (pos zs n)).countP (fun x => decide (x < n)) = 0 := by
    rw [List.countP_eq_zero]
    intro x hx
    have := drop_pos hp x hx
    simp; omega
  show (insI zs (pos zs n) n).countP (fun x => decide (x < n)) = pos zs n
  unfold insI
  rw [List.countP_append, List.countP_cons, e1, e2]
  simp
theorem ins_back {zs : List Int} {i : Nat} {x : Int} (hi : i ≤ zs.length) : (insI zs i x).take i ++ (insI zs i x).drop (i + 1) = zs := by
  have hl : (zs.take i).length = i := by simp; omega
  have e1 : (insI zs i x).take i = zs.take i := by
    unfold insI; rw [List.take_append_of_le_length (by omega), List.take_of_length_le (by omega)]
  have e2 : (insI zs i x).drop (i + 1) = zs.drop i := by
    unfold insI
    rw [List.drop_append, hl, List.drop_eq_nil_of_le (by omega), show i + 1 - i = 1 from by omega]
    rfl
  rw [e1, e2, List.take_append_drop]
theorem NumsAt.old {q : IntKind} {K : Nat → Obj → Prop} {w : World} {v : Value} {zs : List Int} (h : NumsAt q K w v zs) : NumsAt q (fun b _ => b < w.heap.size) w v zs := by
  obtain ⟨a, cap, hv, h⟩ := h
  refine ⟨a, cap, hv, ?_⟩
  rcases h with h | ⟨b, off, o, ha, hb, hkb, hc⟩
  · exact .inl h
  · exact .inr ⟨b, off, o, ha, hb, lt_of_some hb, hc⟩
end Go.Proofs.Ytpecpanmdjpoiaa
/- Law 10: Add and Remove, each in one contract; the document's the same. -/
namespace Go.Proofs.Ytpecpanmdjpoiaa
open Go.RowKit
set_option linter.unusedVariables false

theorem sorted_ext : ∀ {a b : List Int}, a.Pairwise (· < ·) → b.Pairwise (· < ·) → (∀ x, x ∈ a ↔ x ∈ b) → a = b
  | [], [], _, _, _ => rfl
  | [], y :: b, _, _, h => by have := (h y).2 (by simp); cases this
  | x :: a, [], _, _, h => by have := (h x).1 (by simp); cases this
  | x :: a, y :: b, ha, hb, h => by
    obtain ⟨a1, a2⟩ := List.pairwise_cons.1 ha
    obtain ⟨b1, b2⟩ := List.pairwise_cons.1 hb
    have e : x = y := by
      have h1 := (h x).1 (by simp)
      have h2 := (h y).2 (by simp)
      rcases List.mem_cons.1 h1 with q | q
      · exact q
      · rcases List.mem_cons.1 h2 with r | r
        · exact r.symm
        · have := b1 x q; have := a1 y r; omega
    subst e
    rw [sorted_ext a2 b2 fun z => ?_]
    constructor
    · intro hz
      have hl := a1 z hz
      rcases List.mem_cons.1 ((h z).1 (by simp [hz])) with q | q
      · omega
      · exact q
    · intro hz
      have hl := b1 z hz
      rcases List.mem_cons.1 ((h z).2 (by simp [hz])) with q | q
      · omega
      · exact q
theorem refAdd_sorted (zs : List Int) (n : Int) (k : Nat) : (refAdd zs n k).Pairwise (· < ·) := by
  unfold refAdd
  refine List.Pairwise.filter _ ?_
  rw [List.pairwise_map]
  exact List.pairwise_lt_range.imp fun h => by omega
theorem refAdd_mem {zs : List Int} {n x : Int} {k : Nat} : x ∈ refAdd zs n k ↔ (0 ≤ x ∧ x < k) ∧ (x ∈ zs ∨ x = n) := by
  unfold refAdd
  rw [List.mem_filter, List.mem_map]
  constructor
  · rintro ⟨⟨i, hi, rfl⟩, h⟩
    have := List.mem_range.1 hi
    refine ⟨⟨by omega, by omega⟩, ?_⟩
    rw [Bool.or_eq_true, hasI_mem] at h
    simpa using h
  · rintro ⟨⟨h0, h1⟩, h⟩
    refine ⟨⟨x.toNat, List.mem_range.2 (by omega), by omega⟩, ?_⟩
    rw [Bool.or_eq_true, hasI_mem]
    simpa using h
theorem refAdd_eq {zs : List Int} {n : Int} (h : rightQ zs = true) (hi : hasI zs n = false) (h0 : 0 ≤ n) (h1 : n ≤ 15) : refAdd zs n 16 = insI zs (pos zs n) n := by
  obtain ⟨hp, hr, _, _⟩ := right_all h
  refine sorted_ext (refAdd_sorted _ _ _) (ins_sorted hp hi) fun x => ?_
  rw [refAdd_mem, mem_insI]
  constructor
  · rintro ⟨_, h | h⟩
    · exact .inr h
    · exact .inl h
  · rintro (h | h)
    · exact ⟨by omega, .inr h⟩
    · have := hr x h; exact ⟨by omega, .inl h⟩
theorem split_at {zs : List Int} {n : Int} (hp : zs.Pairwise (· < ·)) (hi : hasI zs n = true) : pos zs n < zs.length ∧ zs.drop (pos zs n) = n :: zs.drop (pos zs n + 1) := by
  have hm := hasI_mem.1 hi
  have hd : n ∈ zs.drop (pos zs n) := by
    rw [← List.take_append_drop (pos zs n) zs, List.mem_append] at hm
    rcases hm with q | q
    · have := take_pos hp n q; omega
    · exact q
  have hl : pos zs n < zs.length := by
    rcases Nat.lt_or_ge (pos zs n) zs.length with q | q
    · exact q
    · rw [List.drop_eq_nil_of_le q] at hd; cases hd
  refine ⟨hl, ?_⟩
  rw [List.drop_eq_getElem_cons hl] at hd ⊢
  have hs : (zs.drop (pos zs n)).Pairwise (· < ·) := hp.sublist (List.drop_sublist _ _)
  rw [List.drop_eq_getElem_cons hl] at hs
  have hge := drop_pos (n := n) hp zs[pos zs n] (by rw [List.drop_eq_getElem_cons hl]; exact List.mem_cons_self)
  rcases List.mem_cons.1 hd with q | q
  · rw [← q]
  · have := (List.pairwise_cons.1 hs).1 n q; omega
theorem refRem_eq {zs : List Int} {n : Int} (hp : zs.Pairwise (· < ·)) (hi : hasI zs n = true) : refRem zs n zs.length = zs.take (pos zs n) ++ zs.drop (pos zs n + 1) := by
  obtain ⟨hl, hd⟩ := split_at hp hi
  have hs : (zs.drop (pos zs n)).Pairwise (· < ·) := hp.sublist (List.drop_sublist _ _)
  rw [hd] at hs
  have h1 := (List.pairwise_cons.1 hs).1
  unfold refRem
  rw [List.take_length]
  have e : zs = zs.take (pos zs n) ++ n :: zs.drop (pos zs n + 1) := by rw [← hd, List.take_append_drop]
  generalize hA : zs.take (pos zs n) = A at e ⊢
  have hA2 : ∀ x ∈ A, x < n := fun x hx => take_pos hp x (by rw [hA]; exact hx)
  generalize zs.drop (pos zs n + 1) = B at e h1 ⊢
  rw [e, List.filter_append, List.filter_cons_of_neg (by simp), List.filter_eq_self.2 fun x hx => by have := hA2 x hx; simp; omega, List.filter_eq_self.2 fun x hx => by have := h1 x hx; simp; omega]

/-- Add's answer, and Remove's. -/
def addL (zs : List Int) (n : Int) : List Int := if (decide (n < 0) || decide (15 < n) || hasI zs n) = true then zs else insI zs (pos zs n) n
def addE (zs : List Int) (n : Int) : Int := if n < 0 ∨ 15 < n then 31 else if hasI zs n = true then 1 else 0
def remL (zs : List Int) (n : Int) : List Int := if hasI zs n = true ∧ zs.length ≠ 1 then zs.take (pos zs n) ++ zs.drop (pos zs n + 1) else zs
def remE (zs : List Int) (n : Int) : Int := if hasI zs n = true then (if zs.length = 1 then 1 else 0) else 41

/-- A slice behind a call, in what lies now. -/
def Got (w w' : World) (e : Ending) (er : Int) (zs : List Int) : Prop := (∃ v, e = .returned (.tuple #[v, .int .i64 er]) ∧ IntsAt (fun b _ => b < w'.heap.size) w' v zs) ∧ Fr (fun b _ => b < w.heap.size) w w'
theorem add_any {K : Nat → Obj → Prop} (w : World) (b off c : Nat) (zs : List Int) (n : Int) (h : IntsAt K w (.slice (some ⟨b, off, none⟩) zs.length c) zs) (hr : rightQ zs = true) :
    Calls Try.prog 20 #[.slice (some ⟨b, off, none⟩) zs.length c, .int .i64 n] w fun e w' => Got w w' e (addE zs n) (addL zs n) := by
  obtain ⟨hp, _, hl0, h16⟩ := right_all hr
  unfold addE addL
  by_cases hn : n < 0 ∨ 15 < n
  · rw [if_pos hn, if_pos (by simp; omega)]
    exact (add_node w b off c zs n h (by omega) hp hn).mono fun e w' ⟨he, hw⟩ => hw ▸ ⟨⟨_, he, h.old⟩, Fr.refl _ _⟩
  · rw [if_neg hn]
    cases hi : hasI zs n with
    | true =>
      rw [if_pos rfl, if_pos (by simp)]
      exact (add_in w b off c zs n h (by omega) hp (by omega) (by omega) hi).mono fun e w' ⟨he, hw⟩ => hw ▸ ⟨⟨_, he, h.old⟩, Fr.refl _ _⟩
    | false =>
      rw [if_neg (by simp), if_neg (by simp; omega)]
      exact (add_new w b off c zs n h hl0 (by omega) hp (by omega) (by omega) hi).mono fun e w' ⟨⟨v, he, hv⟩, hf⟩ => ⟨⟨v, he, hv.old⟩, hf⟩
theorem radd_any {K : Nat → Obj → Prop} (w : World) (b off c : Nat) (zs : List Int) (n : Int) (h : IntsAt K w (.slice (some ⟨b, off, none⟩) zs.length c) zs) (hr : rightQ zs = true) :
    Calls Try.prog 21 #[.slice (some ⟨b, off, none⟩) zs.length c, .int .i64 n] w fun e w' => Got w w' e (addE zs n) (addL zs n) := by
  obtain ⟨hp, _, hl0, h16⟩ := right_all hr
  have hm : zs.length ≤ maxLen := by unfold maxLen; omega
  unfold addE addL
  by_cases hn : n < 0 ∨ 15 < n
  · rw [if_pos hn, if_pos (by simp; omega)]
    exact (radd_node w _ n hn).mono fun e w' ⟨he, hw⟩ => hw ▸ ⟨⟨_, he, h.old⟩, Fr.refl _ _⟩
  · rw [if_neg hn]
    cases hi : hasI zs n with
    | true =>
      rw [if_pos rfl, if_pos (by simp)]
      exact (radd_in w _ zs n h hm (by omega) (by omega) hi).mono fun e w' ⟨he, hw⟩ => hw ▸ ⟨⟨_, he, h.old⟩, Fr.refl _ _⟩
    | false =>
      rw [if_neg (by simp), if_neg (by simp; omega), ← refAdd_eq hr hi (by omega) (by omega)]
      exact (radd_loop w _ zs n h hm (by omega) (by omega) hi).mono fun e w' ⟨⟨v, he, hv⟩, hf⟩ => ⟨⟨v, he, hv.ints.old⟩, hf.mono fun _ _ _ => trivial⟩
theorem rem_any {K : Nat → Obj → Prop} (w : World) (b off c : Nat) (zs : List Int) (n : Int) (h : IntsAt K w (.slice (some ⟨b, off, none⟩) zs.length c) zs) (hr : rightQ zs = true) :
    Calls Try.prog 22 #[.slice (some ⟨b, off, none⟩) zs.length c, .int .i64 n] w fun e w' => Got w w' e (remE zs n) (remL zs n) := by
  obtain ⟨hp, _, hl0, h16⟩ := right_all hr
  unfold remE remL
  cases hi : hasI zs n with
  | false =>
    rw [if_neg (by simp), if_neg (by simp)]
    exact (rem_none w b off c zs n h (by omega) hp hi).mono fun e w' ⟨he, hw⟩ => hw ▸ ⟨⟨_, he, h.old⟩, Fr.refl _ _⟩
  | true =>
    rw [if_pos rfl]
    by_cases h1 : zs.length = 1
    · rw [if_pos h1, if_neg (fun q => q.2 h1)]
      exact (rem_one w b off c zs n h h1 hp hi).mono fun e w' ⟨he, hw⟩ => hw ▸ ⟨⟨_, he, h.old⟩, Fr.refl _ _⟩
    · rw [if_neg h1, if_pos ⟨rfl, h1⟩]
      exact (rem_new w b off c zs n h hl0 (by omega) h1 hp hi (split_at hp hi).1).mono fun e w' ⟨⟨v, he, hv⟩, hf⟩ => ⟨⟨v, he, hv.old⟩, hf⟩
theorem rrem_any {K : Nat → Obj → Prop} (w : World) (b off c : Nat) (zs : List Int) (n : Int) (h : IntsAt K w (.slice (some ⟨b, off, none⟩) zs.length c) zs) (hr : rightQ zs = true) :
    Calls Try.prog 23 #[.slice (some ⟨b, off, none⟩) zs.length c, .int .i64 n] w fun e w' => Got w w' e (remE zs n) (remL zs n) := by
  obtain ⟨hp, _, hl0, h16⟩ := right_all hr
  have hm : zs.length ≤ maxLen := by unfold maxLen; omega
  unfold remE remL
  cases hi : hasI zs n with
  | false =>
    rw [if_neg (by simp), if_neg (by simp)]
    exact (rrem_none w _ zs n h hm hi).mono fun e w' ⟨he, hw⟩ => hw ▸ ⟨⟨_, he, h.old⟩, Fr.refl _ _⟩
  | true =>
    rw [if_pos rfl]
    by_cases h1 : zs.length = 1
    · rw [if_pos h1, if_neg (fun q => q.2 h1)]
      exact (rrem_one w _ zs n h h1 hi).mono fun e w' ⟨he, hw⟩ => hw ▸ ⟨⟨_, he, h.old⟩, Fr.refl _ _⟩
    · rw [if_neg h1, if_pos ⟨rfl, h1⟩, ← refRem_eq hp hi]
      exact (rrem_loop w b off c zs n h (by omega) h1 hi).mono fun e w' ⟨⟨v, he, hv⟩, hf⟩ => ⟨⟨v, he, hv.ints.old⟩, hf.mono fun _ _ _ => trivial⟩
end Go.Proofs.Ytpecpanmdjpoiaa
/- Law 10: one member more, or less, and all majorities still meet: plainly. -/
namespace Go.Proofs.Ytpecpanmdjpoiaa
open Go.RowKit
set_option linter.unusedVariables false

theorem cnt_all {zs s : List Int} (h : ∀ x ∈ zs, x ∈ s) : cntI zs s = zs.length := List.countP_eq_length.2 fun x hx => hasI_mem.2 (h x hx)
theorem meet_same (zs : List Int) : meetI zs zs = true := by
  have h := cnt_all (zs := zs) (s := zs) fun _ h => h
  unfold meetI majI
  rw [h, decide_eq_true_eq]
  omega
theorem meet_add (zs : List Int) (n : Int) : meetI zs (addL zs n) = true := by
  unfold addL
  split
  · exact meet_same zs
  · have h := cnt_all (zs := zs) (s := insI zs (pos zs n) n) fun _ h => mem_insI.2 (.inr h)
    unfold meetI majI
    rw [h, insI_len, decide_eq_true_eq]
    omega
theorem meet_rem {zs : List Int} {n : Int} (hr : rightQ zs = true) : meetI zs (remL zs n) = true := by
  obtain ⟨hp, _, hl0, h16⟩ := right_all hr
  unfold remL
  split
  next hc =>
    obtain ⟨hi, h1⟩ := hc
    obtain ⟨hl, hd⟩ := split_at hp hi
    have hs : (zs.drop (pos zs n)).Pairwise (· < ·) := hp.sublist (List.drop_sublist _ _)
    rw [hd] at hs
    have hgt := (List.pairwise_cons.1 hs).1
    have hlt := take_pos (n := n) hp
    have e : zs = zs.take (pos zs n) ++ n :: zs.drop (pos zs n + 1) := by rw [← hd, List.take_append_drop]
    have hA : (zs.take (pos zs n)).length = pos zs n := by simp; omega
    have hB : (zs.drop (pos zs n + 1)).length = zs.length - pos zs n - 1 := by simp; omega
    have hc : cntI zs (zs.take (pos zs n) ++ zs.drop (pos zs n + 1)) = zs.length - 1 := by
      generalize zs.take (pos zs n) = A at e hA hlt ⊢
      generalize zs.drop (pos zs n + 1) = B at e hB hgt ⊢
      have hn : hasI (A ++ B) n = false := by
        cases q : hasI (A ++ B) n with
        | false => rfl
        | true =>
          rcases List.mem_append.1 (hasI_mem.1 q) with q | q
          · have := hlt n q; omega
          · have := hgt n q; omega
      have c1 : A.countP (fun x => hasI (A ++ B) x) = A.length := List.countP_eq_length.2 fun x hx => hasI_mem.2 (by simp [hx])
      have c2 : B.countP (fun x => hasI (A ++ B) x) = B.length := List.countP_eq_length.2 fun x hx => hasI_mem.2 (by simp [hx])
      have : cntI zs (A ++ B) = A.length + B.length := by
        unfold cntI
        conv => lhs; rw [e]
        rw [List.countP_append, List.countP_cons, c1, c2, hn]
        simp
      omega
    unfold meetI majI
    rw [hc, decide_eq_true_eq, List.length_append, hA, hB]
    omega
  next => exact meet_same zs
theorem two_counts (p q : Int → Bool) : ∀ (l : List Int), (∀ x ∈ l, ¬ (p x = true ∧ q x = true)) → l.countP p + l.countP q ≤ l.length
  | [], _ => Nat.le_refl _
  | x :: r, h => by
    have ih := two_counts p q r fun y hy => h y (by simp [hy])
    have hx := h x (by simp)
    rw [List.countP_cons, List.countP_cons, List.length_cons]
    cases hp : p x <;> cases hq : q x <;> simp_all <;> omega
theorem ins_sub (zs : List Int) (i : Nat) (x : Int) : zs.Sublist (insI zs i x) := by
  unfold insI
  conv => lhs; rw [← List.take_append_drop i zs]
  exact (List.Sublist.refl _).append (List.sublist_cons_self _ _)
theorem add_sub (zs : List Int) (n : Int) : zs.Sublist (addL zs n) ∧ (addL zs n).length ≤ zs.length + 1 := by
  unfold addL
  split
  · exact ⟨List.Sublist.refl _, by omega⟩
  · exact ⟨ins_sub _ _ _, by rw [insI_len]; omega⟩
/-- Two lists of yes that agree have a member in common. -/
theorem common (zs yes also : List Int) (n : Int) (h1 : agrI zs yes = true) (h2 : agrI (addL zs n) also = true) : ∃ x ∈ yes, x ∈ also := by
  obtain ⟨hs, hl⟩ := add_sub zs n
  have hlen := hs.length_le
  generalize addL zs n = A at hs hl h2 hlen
  apply Classical.byContradiction
  intro hno
  have hk := two_counts (fun x => hasI yes x) (fun x => hasI also x) A fun x _ hx => hno ⟨x, hasI_mem.1 hx.1, hasI_mem.1 hx.2⟩
  have hle : cntI zs yes ≤ cntI A yes := hs.countP_le
  unfold agrI majI at h1 h2
  rw [decide_eq_true_eq] at h1 h2
  have hk' : cntI A yes + cntI A also ≤ A.length := hk
  omega
end Go.Proofs.Ytpecpanmdjpoiaa
/- The document's Majority. -/
namespace Go.Proofs.Ytpecpanmdjpoiaa
open Go.RowKit
set_option linter.unusedVariables false

set_option maxRecDepth 100000 in
theorem rmaj_calls (w : World) (a : Option Addr) (n c : Nat) (hm : n ≤ 2000000) : Calls Try.prog 17 #[.slice a n c] w fun e w' => e = .returned (.int .i64 (majI n)) ∧ w = w' := by
  go_enter Try.func17, Try.ntmps17
  go_wp2
  go_loop [3] (fun r => ∃ k : Nat, k ≤ n / 2 + 1 ∧ r = .int .i64 k) (fun r => n + 1 - (intOf r).toNat)
  case atStart => exact ⟨0, Nat.zero_le _, rfl⟩
  case round =>
    obtain ⟨k, hk, rfl⟩ := hrel
    by_cases h2 : 2 * (k : Int) ≤ n
    · go_wp2
      go_round
      case rel => exact ⟨k + 1, by omega, by go_num⟩
      case measure => simp [intOf]; omega
    · have e : majI n = (k : Nat) := by unfold majI; omega
      have E := Lib.hid e
      clear e
      go_wp2
      go_ret
      exact ⟨by rw [E.out]; rfl, rfl⟩
end Go.Proofs.Ytpecpanmdjpoiaa
/- The document's part: the members of a set of places. -/
namespace Go.Proofs.Ytpecpanmdjpoiaa
open Go.RowKit
set_option linter.unusedVariables false

def partL (zs : List Int) (s : Nat) : Nat → List Int
  | 0 => []
  | k + 1 => partL zs s k ++ (if (s / 2 ^ k % 2 == 1) = true then [zs.getD k 0] else [])
theorem partL_len (zs : List Int) (s : Nat) : ∀ k, (partL zs s k).length ≤ k
  | 0 => Nat.le_refl _
  | k + 1 => by
    have := partL_len zs s k
    unfold partL
    rw [List.length_append]
    split <;> simp <;> omega

theorem bit_fin : ∀ x : Fin 129, bits BinOp.and IntKind.i64 ((x.val : Nat) : Int) 1 = ((x.val % 2 : Nat) : Int) := by decide +kernel
theorem bit_is (s k : Nat) (hs : s ≤ 128) : (bits BinOp.and IntKind.i64 ((s : Int) / 2 ^ k) 1 == 1) = (s / 2 ^ k % 2 == 1) := by
  have hx : s / 2 ^ k < 129 := Nat.lt_of_le_of_lt (Nat.div_le_self _ _) (by omega)
  have e : ((s : Int) / 2 ^ k) = ((s / 2 ^ k : Nat) : Int) := by rw [Int.natCast_ediv]; norm_cast
  rw [e, bit_fin ⟨s / 2 ^ k, hx⟩, Bool.eq_iff_iff]
  simp
  omega
set_option maxRecDepth 100000 in
set_option maxHeartbeats 1000000 in
theorem part_loop {K : Nat → Obj → Prop} (w : World) (b off c : Nat) (zs : List Int) (s : Nat) (h : IntsAt K w (.slice (some ⟨b, off, none⟩) zs.length c) zs) (hm : zs.length ≤ 7) (hs : s ≤ 128) :
    Calls Try.prog 27 #[.slice (some ⟨b, off, none⟩) zs.length c, .int .i64 (s : Nat)] w fun e w' => (∃ v, e = .returned v ∧ RowI w' w.heap.size v (partL zs s zs.length)) ∧ Fr (fun _ _ => True) w w' := by
  have H := Lib.hid h
  obtain ⟨N, hN⟩ : ∃ N, N = zs.length := ⟨_, rfl⟩
  have HN := Lib.hid hN
  rw [← hN] at hm ⊢
  clear h hN
  go_enter Try.func27, Try.ntmps27
  go_wp2
  go_loopw [5, 6] (fun o i wr => ∃ (k : Nat), k ≤ N ∧ i = .int .i64 k ∧ RowI wr w.heap.size o (partL zs s k) ∧ Fr (fun _ _ => True) w wr) (fun _ i _ => N - (intOf i).toNat)
  case atStart => exact ⟨0, Nat.zero_le _, rfl, RowI.nil _ _, Fr.refl _ _⟩
  case round =>
    obtain ⟨k, hk, rfl, ho, hf⟩ := hrel
    have HO := Lib.hid ho
    have HF := Lib.hid hf
    clear ho hf
    by_cases hlt : k < N
    · have hk7 : k < 7 := by omega
      have l1 : k < zs.length := by rw [← HN.out]; exact hlt
      have g1 := (H.out.tt HF.out).cell l1
      have HB := Lib.hid (bit_is s k hs)
      have HL : Hid (partL zs s (k + 1) = partL zs s k ++ (if (s / 2 ^ k % 2 == 1) = true then [zs[k]] else [])) := by
        show partL zs s k ++ _ = _
        rw [show zs.getD k 0 = zs[k] from by simp [l1]]
      have HR := Lib.hid (partL_len zs s (k + 1))
      generalize hu : zs[k] = u at g1 HL
      clear hu l1
      obtain ⟨a, c', rfl⟩ := HO.out.form
      generalize hlen : (partL zs s k).length = ln
      have HW := Lib.hid hlen
      generalize (s / 2 ^ k % 2 == 1) = bb at HB HL
      cases bb
      · have hb := HB.out
        have HL2 : Hid (partL zs s (k + 1) = partL zs s k) := by
          have := HL.out; rw [if_neg (by simp), List.append_nil] at this; exact this
        clear HL hlen HB
        go_wp2
        go_roundw
        case rel => exact ⟨k + 1, by omega, by go_num, by rw [HL2.out]; exact HW.out ▸ HO.out, HF.out⟩
        case measure => simp [intOf]; omega
      · have hb := HB.out
        have HL2 : Hid (partL zs s k ++ [u] = partL zs s (k + 1)) := by
          have := HL.out; rw [if_pos rfl] at this; exact this.symm
        have HO2 := Lib.hid (HO.out.tt ((Fr.refl _ _).alloc (.cells #[.int .i64 u] 3 (0, 0))))
        rw [hlen] at HO2
        have HF2 := Lib.hid (HF.out.alloc (.cells #[.int .i64 u] 3 (0, 0)))
        have HX := Lib.hid (NumsAt.lit1 wr u)
        clear HL hlen HB
        go_wp2_with (at_builtin; refine wpList_append_ints w _ HF2 rfl _ _ rfl _ _ rfl HO2 _ _ rfl HX Nat.zero_lt_one _ HL2 (by have := HR.out; omega) ?_)
        intro a1 c1 w1 O1 F1
        go_wp2
        go_roundw
        case rel => exact ⟨k + 1, by omega, by go_num, O1.out, F1.out⟩
        case measure => simp [intOf]; omega
    · obtain rfl : k = N := by omega
      go_wp2
      go_ret
      exact ⟨⟨_, rfl, HO.out⟩, HF.out⟩
end Go.Proofs.Ytpecpanmdjpoiaa
/- Law 10: what enough have reached: plainly. -/
namespace Go.Proofs.Ytpecpanmdjpoiaa
open Go.RowKit
set_option linter.unusedVariables false
set_option linter.unusedSimpArgs false

def srt (l : List Int) : List Int := l.mergeSort fun x y => decide (x ≤ y)
theorem srt_perm (l : List Int) : (srt l).Perm l := List.mergeSort_perm _ _
theorem srt_len (l : List Int) : (srt l).length = l.length := (srt_perm l).length_eq
theorem srt_sorted (l : List Int) : (srt l).Pairwise (· ≤ ·) := by
  have := List.pairwise_mergeSort (le := fun (x y : Int) => decide (x ≤ y)) (fun a b c h1 h2 => by simp at *; omega) (fun a b => by simp; omega) l
  exact this.imp fun h => by simpa using h
/-- The one in the midst: enough are at it, or above. -/
def midV (l : List Int) : Int := (srt l).getD (l.length - (l.length / 2 + 1)) 0
theorem mid_mem {l : List Int} (h : 0 < l.length) : midV l ∈ l := by
  unfold midV
  have hk : l.length - (l.length / 2 + 1) < (srt l).length := by rw [srt_len]; omega
  rw [show (srt l).getD (l.length - (l.length / 2 + 1)) 0 = (srt l)[l.length - (l.length / 2 + 1)] from by simp [List.getD, hk]]
  exact (srt_perm l).mem_iff.1 (List.getElem_mem hk)
theorem mid_ge {l : List Int} (h : 0 < l.length) : l.length / 2 + 1 ≤ l.countP fun x => decide (midV l ≤ x) := by
  have hk : l.length - (l.length / 2 + 1) < (srt l).length := by rw [srt_len]; omega
  rw [← (srt_perm l).countP_eq]
  have hs := srt_sorted l
  have hl := srt_len l
  unfold midV
  rw [show (srt l).getD (l.length - (l.length / 2 + 1)) 0 = (srt l)[l.length - (l.length / 2 + 1)] from by simp [List.getD, hk]]
  generalize srt l = S at *
  have h1 : (S.drop (l.length - (l.length / 2 + 1))).countP (fun x => decide (S[l.length - (l.length / 2 + 1)] ≤ x)) = (S.drop (l.length - (l.length / 2 + 1))).length := by
    rw [List.countP_eq_length]
    intro x hx
    obtain ⟨i, hi, rfl⟩ := List.mem_iff_getElem.1 hx
    rw [List.getElem_drop]
    rw [List.length_drop] at hi
    rw [decide_eq_true_eq]
    by_cases h0 : i = 0
    · subst h0; exact Int.le_refl _
    · exact List.pairwise_iff_getElem.1 hs _ _ hk (by omega) (by omega)
  have h2 : (S.drop (l.length - (l.length / 2 + 1))).countP (fun x => decide (S[l.length - (l.length / 2 + 1)] ≤ x)) ≤ S.countP (fun x => decide (S[l.length - (l.length / 2 + 1)] ≤ x)) := (List.drop_sublist _ S).countP_le
  rw [h1, List.length_drop] at h2
  omega
theorem mid_gt {l : List Int} (h : 0 < l.length) : (l.countP fun x => decide (midV l < x)) < l.length / 2 + 1 := by
  have hk : l.length - (l.length / 2 + 1) < (srt l).length := by rw [srt_len]; omega
  rw [← (srt_perm l).countP_eq]
  have hs := srt_sorted l
  have hl := srt_len l
  unfold midV
  rw [show (srt l).getD (l.length - (l.length / 2 + 1)) 0 = (srt l)[l.length - (l.length / 2 + 1)] from by simp [List.getD, hk]]
  generalize srt l = S at *
  generalize hv : S[l.length - (l.length / 2 + 1)] = v
  have h1 : (S.take (l.length - (l.length / 2 + 1) + 1)).countP (fun x => decide (v < x)) = 0 := by
    rw [List.countP_eq_zero]
    intro x hx
    obtain ⟨i, hi, rfl⟩ := List.mem_iff_getElem.1 hx
    rw [List.getElem_take]
    rw [List.length_take] at hi
    rw [decide_eq_true_eq, ← hv]
    by_cases h0 : i = l.length - (l.length / 2 + 1)
    · subst h0; omega
    · have := List.pairwise_iff_getElem.1 hs i (l.length - (l.length / 2 + 1)) (by omega) hk (by omega)
      omega
  have h2 : S.countP (fun x => decide (v < x)) = (S.take (l.length - (l.length / 2 + 1) + 1)).countP (fun x => decide (v < x)) + (S.drop (l.length - (l.length / 2 + 1) + 1)).countP (fun x => decide (v < x)) := by
    rw [← List.countP_append, List.take_append_drop]
  have h3 := List.countP_le_length (p := fun x => decide (v < x)) (l := S.drop (l.length - (l.length / 2 + 1) + 1))
  rw [List.length_drop] at h3
  omega
/-- Whoever has these two is it. -/
theorem mid_mono {l l' : List Int} (hl : l.length = l'.length) (h : 0 < l.length) (hle : ∀ v : Int, (l.countP fun x => decide (v ≤ x)) ≤ l'.countP fun x => decide (v ≤ x)) : midV l ≤ midV l' := by
  have a := mid_ge h
  have b := mid_gt (l := l') (by omega)
  have c := hle (midV l)
  apply Classical.byContradiction
  intro hn
  have d : (l'.countP fun x => decide (midV l ≤ x)) ≤ l'.countP fun x => decide (midV l' < x) := List.countP_mono_left fun x _ hx => by simp at hx ⊢; omega
  omega

/-- The document's: the greatest of what members have, that enough of them have. -/
def bestK (l : List Int) (k : Nat) : Int := (l.take k).foldl (fun b m => if l.length / 2 + 1 ≤ (l.countP fun x => decide (m ≤ x)) ∧ b < m then m else b) 0
theorem bestK_succ (l : List Int) (k : Nat) (hk : k < l.length) : bestK l (k + 1) = if l.length / 2 + 1 ≤ (l.countP fun x => decide (l[k] ≤ x)) ∧ bestK l k < l[k] then l[k] else bestK l k := by
  unfold bestK
  rw [List.take_succ_eq_append_getElem hk, List.foldl_append]
  rfl
theorem best_le {l : List Int} (h : 0 < l.length) (h0 : ∀ x ∈ l, 0 ≤ x) : ∀ k, k ≤ l.length → 0 ≤ bestK l k ∧ bestK l k ≤ midV l ∧ ∀ i, (hi : i < l.length) → i < k → l[i] = midV l → bestK l k = midV l
  | 0, _ => ⟨by simp [bestK], by have := h0 _ (mid_mem h); simpa [bestK] using this, fun i _ hi => by omega⟩
  | k + 1, hk => by
    obtain ⟨a, b, c⟩ := best_le h h0 k (by omega)
    rw [bestK_succ l k (by omega)]
    have hb := mid_gt h
    split
    next hc =>
      have hle : l[k] ≤ midV l := by
        apply Classical.byContradiction
        intro hn
        have d : (l.countP fun x => decide (l[k] ≤ x)) ≤ l.countP fun x => decide (midV l < x) := List.countP_mono_left fun x _ hx => by simp at hx ⊢; omega
        omega
      refine ⟨by omega, hle, fun i hi hik e => ?_⟩
      by_cases q : i = k
      · subst q; exact e
      · have := c i hi (by omega) e
        omega
    next hc =>
      refine ⟨a, b, fun i hi hik e => ?_⟩
      by_cases q : i = k
      · subst q
        have ha := mid_ge h
        rw [e] at hc
        have : ¬ bestK l i < midV l := fun q => hc ⟨ha, q⟩
        omega
      · exact c i hi (by omega) e
theorem best_eq {l : List Int} (h : 0 < l.length) (h0 : ∀ x ∈ l, 0 ≤ x) : bestK l l.length = midV l := by
  obtain ⟨i, hi, e⟩ := List.mem_iff_getElem.1 (mid_mem h)
  exact (best_le h h0 l.length (Nat.le_refl _)).2.2 i hi hi e
end Go.Proofs.Ytpecpanmdjpoiaa
/- quorum.Reached of any group. -/
namespace Go.Proofs.Ytpecpanmdjpoiaa
open Go.RowKit
set_option linter.unusedVariables false
set_option linter.unusedSimpArgs false

theorem Fr.growU {K : Nat → Obj → Prop} {a w : World} (h : Fr K a w) (os : Array Obj) : Fr K a (Sort.grow w os) :=
  ⟨h.os, h.tape, h.output, by have := h.size; show _ ≤ (w.heap ++ os).size; simp; omega, fun b o hb hk => by
    have h1 := h.keep b o hb hk
    have h2 := lt_of_some h1
    show (w.heap ++ os)[b]? = some o
    rw [Array.getElem?_append_left h2]; exact h1⟩
theorem putRow_size {α : Type} [Inhabited α] (enc : α → Value) (w : World) (n blk off : Nat) (d : Array α) : (Sort.putRow enc (Sort.ahead w n) blk off d).heap.size = w.heap.size := Sort.size_putRow enc (Sort.ahead w n) blk off d
set_option maxRecDepth 100000 in
set_option maxHeartbeats 2000000 in
theorem reached_calls {K K' : Nat → Obj → Prop} (w : World) (b off c : Nat) (vm : Value) (zs ms : List Int) (h : IntsAt K w (.slice (some ⟨b, off, none⟩) zs.length c) zs) (hq : NumsAt .u64 K' w vm ms) (hm : ms.length ≤ maxLen) (h0 : 0 < zs.length) (h12 : zs.length ≤ 16) (hp : ∀ x ∈ zs, 0 ≤ x) :
    Calls Try.prog 13 #[.slice (some ⟨b, off, none⟩) zs.length c, vm] w fun e w' => e = .returned (.int .u64 (midV (reachL zs ms zs.length))) ∧ Fr (fun b _ => b < w.heap.size) w w' := by
  obtain ⟨am, cm, rfl⟩ := hq.form
  have H := Lib.hid h
  have HQ := Lib.hid hq
  have HP := Lib.hid hp
  obtain ⟨N, hN⟩ : ∃ N, N = zs.length := ⟨_, rfl⟩
  have HN := Lib.hid hN
  obtain ⟨M, hM⟩ : ∃ M, M = ms.length := ⟨_, rfl⟩
  have HMM := Lib.hid hM
  have hMb : M ≤ 9223372036854775807 := by unfold maxLen at hm; omega
  rw [← hN] at h0 h12 ⊢
  rw [← hM]
  have HJ := fun w' => Lib.hid (maj_calls w' (some ⟨b, off, none⟩) N c (by omega))
  obtain ⟨mj, hmj⟩ : ∃ mj, mj = N / 2 + 1 := ⟨_, rfl⟩
  have HMJ := Lib.hid hmj
  have hmj1 : mj ≤ N := by omega
  have e0 : majI N = (mj : Nat) := by unfold majI; omega
  rw [e0] at HJ
  clear h hq hp hN hM e0 hm hmj
  go_enter Try.func13, Try.ntmps13
  go_wp2
  go_loopw [5, 11] (fun o i wr => ∃ (k : Nat) (a : Option Addr) (c : Nat), k ≤ N ∧ i = .int .i64 k ∧ o = .slice a k c ∧ RowU wr w.heap.size (.slice a k c) (reachL zs ms k) ∧ Fr (fun _ _ => True) w wr) (fun _ i _ => N - (intOf i).toNat)
  case atStart => exact ⟨0, none, 0, Nat.zero_le _, rfl, rfl, RowU.nil _ _, Fr.refl _ _⟩
  case round =>
    obtain ⟨k, a, c', hk, rfl, rfl, ho, hf⟩ := hrel
    have HO := Lib.hid ho
    have HF := Lib.hid hf
    clear ho hf
    by_cases hlt : k < N
    · have l1 : k < zs.length := by rw [← HN.out]; exact hlt
      have g1 := (H.out.tt HF.out).cell l1
      have HL := Lib.hid (reachL_succ zs ms k l1)
      have hu0 := HP.out _ (List.getElem_mem l1)
      have HR := Lib.hid (reachL_len zs ms (k + 1) (by omega))
      generalize hu : zs[k] = u at g1 HL hu0
      clear hu l1
      obtain ⟨p, rfl⟩ := Int.eq_ofNat_of_zero_le hu0
      clear hu0
      by_cases hpm : p < M
      · have l2 : p < ms.length := by rw [← HMM.out]; exact hpm
        have ea : atU ms (p : Int) = ms[p] := by
          unfold atU; rw [if_pos (by omega)]; simp [l2]
        rw [ea] at HL
        obtain ⟨bm, om, ham⟩ := HQ.out.addr (by omega)
        have g2 := ((ham ▸ HQ.out).tt HF.out).cell l2
        generalize ms[p] = y at g2 HL
        clear ea
        subst ham
        clear l2
        go_wp2_with (at_builtin; refine wpList_append_u64 w _ y HF rfl _ _ rfl _ _ rfl HO rfl _ HL (by have := HR.out; omega) ?_)
        intro a1 c1 w1 O1 F1
        rw [HR.out] at O1 ⊢
        go_wp2
        go_roundw
        case rel => exact ⟨k + 1, a1, c1, by omega, by go_num, rfl, O1.out, F1.out⟩
        case measure => simp [intOf]; omega
      · have ea : atU ms (p : Int) = 0 := by
          unfold atU; rw [if_neg (by have := HMM.out; omega)]
        rw [ea] at HL
        clear ea
        go_wp2_with (at_builtin; refine wpList_append_u64 w _ 0 HF rfl _ _ rfl _ _ rfl HO rfl _ HL (by have := HR.out; omega) ?_)
        intro a1 c1 w1 O1 F1
        rw [HR.out] at O1 ⊢
        go_wp2
        go_roundw
        case rel => exact ⟨k + 1, a1, c1, by omega, by go_num, rfl, O1.out, F1.out⟩
        case measure => simp [intOf]; omega
    · obtain rfl : k = N := by omega
      have hrl := reachL_len zs ms k (by have := HN.out; omega)
      obtain ⟨g, cap, hv, hg, hgl, hH⟩ := HO.out.parts (by omega)
      rw [hrl] at hv
      cases hv
      have key : ∀ m, m = (reachL zs ms k).toArray.size → Calls Try.prog 28 #[.slice (some ⟨g, 0, none⟩) m c'] wr fun e w' =>
          e = .returned (.tuple #[]) ∧ ∃ n os, w' = Sort.grow (Sort.putRow (Value.int .u64) (Sort.ahead wr n) g 0 (srt (reachL zs ms k)).toArray) os := by
        rintro _ rfl
        exact sort_calls g 0 c' _ wr hH hgl (by rw [hrl]; omega)
      have HK := Lib.hid (key k (by simp [hrl]))
      have HH := Lib.hid hH
      have HG := Lib.hid hg
      have HRL := Lib.hid hrl
      have HGL := Lib.hid hgl
      clear key hH hg hrl hgl
      go_wp2_with fail
      with_reducible refine HK.out.mono ?_
      rintro e1 w2 ⟨rfl, n, os, hw⟩
      obtain ⟨j, hj⟩ : ∃ j : Nat, j = k - mj := ⟨_, rfl⟩
      have ej : (k : Int) - (mj : Nat) = (j : Nat) := by omega
      have hjk : j < k := by have := HMJ.out; omega
      have hS : (srt (reachL zs ms k)).toArray.size = (reachL zs ms k).toArray.size := by simp [srt_len]
      have hlt3 : j < (srt (reachL zs ms k)).length := by rw [srt_len, HRL.out]; exact hjk
      have gc : w2.cell? ⟨g, j, none⟩ = some (.int .u64 ((srt (reachL zs ms k))[j])) := by
        have := Sort.cell?_putRow (Value.int .u64) (Sort.ahead wr n) g 0 (reachL zs ms k).toArray (srt (reachL zs ms k)).toArray (Sort.holds_ahead _ _ _ _ _ _ HH.out) hS j (by simpa using hlt3)
        rw [hw]
        rw [Nat.zero_add] at this
        rw [Sort.cell?_grow _ _ _ (by rw [putRow_size]; exact HGL.out), this]
        simp [hlt3]
      have hV : midV (reachL zs ms k) = (srt (reachL zs ms k))[j] := by
        unfold midV
        rw [HRL.out, ← HMJ.out, ← hj]
        simp [List.getD, hlt3]
      have HV := Lib.hid hV
      have F2 : Hid (Fr (fun b _ => b < w.heap.size) w w2) := by
        rw [hw]
        have h1 : Fr (fun b _ => b < w.heap.size) w (Sort.ahead wr n) := (HF.out.mono fun _ _ _ => trivial).ahead n
        exact (h1.putRowU (fun o ho => by have := HG.out; omega) _ _).growU os
      generalize (srt (reachL zs ms k))[j] = y at gc HV
      clear hw hS hV hj HK hlt3
      go_wp2_with fail
      with_reducible refine (HJ _).out.mono ?_
      rintro e1 w3 ⟨rfl, rfl⟩
      go_wp2
      go_ret
      exact ⟨by rw [HV.out]; rfl, F2.out⟩
end Go.Proofs.Ytpecpanmdjpoiaa
