/- Texts of the proofs, part 5: what the functions that they reach do, walked; no conditions beyond those that each states. -/
import Derived.OpenShut
import Derived.Test.YtkaikckehkcfhaaZz21e16f6cc1
set_option linter.unusedVariables false
set_option linter.unusedSimpArgs false
/- The walk of SessionOnce: it returns true, and nothing that was there is written. -/
namespace Go.Proofs.Ytkaikckehkcfhaa
open Go.RowKit

/-- What was answered last. -/
def rep (d : Int) : List UInt8 := if d = 0 then [] else [UInt8.ofNat d.toNat]
theorem rep_len {d : Int} (h : 0 < d) : (rep d).length = 1 := by rw [rep, if_neg (by omega)]; rfl
theorem rep_short (d : Int) : (rep d).length ≤ 9 := by unfold rep; split <;> simp
theorem open_in {c : Int} (h0 : 0 ≤ c) (h1 : c ≤ 15) : openM [] c = (0, [(c, 0, rep 0)]) := by
  unfold openM; rw [if_neg (by omega)]; rfl
theorem open_out {c : Int} (h : c < 0 ∨ 15 < c) : openM [] c = (31, []) := by
  unfold openM; rw [if_pos (by omega)]
theorem find_one (c d : Int) (r : List UInt8) : findM [(c, d, r)] c = some (c, d, r) := by simp [findM]
theorem ask_same {c d : Int} (h : 0 < d) : askM [(c, d, rep d)] c d = (rep d, true, 0) := by simp [askM, find_one, h]
theorem ask_other {c d s : Int} (h : ¬ (0 < s ∧ d = s)) : askM [(c, d, rep d)] c s = ([], false, askCode d s) := by simp only [askM, find_one]; rw [if_neg h]
theorem done_next {c d : Int} (r : List UInt8) (h : 0 ≤ d) (bs : List UInt8) (hb : bs.length ≤ 9) : doneM [(c, d, r)] c (d + 1) bs = (0, [(c, d + 1, bs)]) := by
  simp [doneM, find_one, hb, setM]

theorem rep_cell {d : Int} (h : 0 < d) (h1 : d ≤ 255) {w : World} {a : Option Addr} {n cap : Nat} {K : Nat → Obj → Prop} (hb : BytesAt K w (.slice a n cap) (rep d)) : ∀ b o, a = some ⟨b, o, none⟩ → w.cell? ⟨b, o, none⟩ = some (.int .u8 d) := by
  rintro b o rfl
  have e := hb.cell (i := 0) (by rw [rep_len h]; decide)
  have e2 : byteV ((rep d)[0]'(by rw [rep_len h]; decide)) = .int .u8 d := by
    have e3 : (rep d)[0]'(by rw [rep_len h]; decide) = UInt8.ofNat d.toNat := by
      simp only [rep, show ¬ d = 0 from by omega, ↓reduceIte, List.getElem_cons_zero]
    rw [e3, byteV]
    congr 1
    have : (UInt8.ofNat d.toNat).toNat = d.toNat := by
      rw [UInt8.toNat_ofNat']; omega
    omega
  rw [e2] at e
  exact e

set_option maxRecDepth 100000 in
set_option maxHeartbeats 1000000 in
/-- No client's number, or too many things. -/
theorem once_short (c : Int) (a : Option Addr) (len cap : Nat) (w : World) (h : c < 0 ∨ 15 < c ∨ 100 < len) :
    Calls Try.prog 3 #[.int .i64 c, .slice a len cap] w fun e w' => e = .returned (.bool true) ∧ Below w.heap.size w w' := by
  go_enter Try.func3, Try.ntmps3
  go_wp2_with fail
  (with_reducible refine (awake_calls _).mono ?_)
  rintro e w1 ⟨rfl, f1⟩
  have F1 := Lib.hid f1
  clear f1
  go_wp2_with fail
  have hB : w.heap.size ≤ w1.heap.size := F1.out.size
  by_cases hc : c < 0 ∨ 15 < c
  · (with_reducible refine (open_calls _ w.heap.size w1.heap.size [] c (TabM.new w1 _ hB) (by simp; omega) 31 [] (open_out hc)).mono ?_)
    rintro e w2 ⟨rfl, t2, f2⟩
    have F2 := Lib.hid ((F1.out.alloc _).kt f2)
    clear t2 f2 h
    rcases hc with hc | hc
    · go_wp2
      go_ret
      exact ⟨rfl, F2.out.below (Nat.le_refl _)⟩
    · go_wp2
      go_ret
      exact ⟨rfl, F2.out.below (Nat.le_refl _)⟩
  · have hl : (100 : Int) < len := by omega
    have h0 : 0 ≤ c := by omega
    have h1 : c ≤ 15 := by omega
    (with_reducible refine (open_calls _ w.heap.size w1.heap.size [] c (TabM.new w1 _ hB) (by simp; omega) 0 _ (open_in h0 h1)).mono ?_)
    rintro e w2 ⟨rfl, t2, f2⟩
    have F2 := Lib.hid ((F1.out.alloc _).kt f2)
    clear t2 f2 h hc
    go_wp2
    go_ret
    exact ⟨rfl, F2.out.below (Nat.le_refl _)⟩

set_option maxRecDepth 100000 in
set_option maxHeartbeats 1000000 in
theorem once_main (c : Int) (a : Option Addr) (len cap : Nat) (zs : List Int) (w : World) (h : IsRow .u32 w a len cap zs) (h0 : 0 ≤ c) (h1 : c ≤ 15) (h2 : len ≤ 100) :
    Calls Try.prog 3 #[.int .i64 c, .slice a len cap] w fun e w' => e = .returned (.bool true) ∧ Below w.heap.size w w' := by
  have hl : (len : Int) ≤ 100 := by omega
  go_enter Try.func3, Try.ntmps3
  go_wp2_with fail
  (with_reducible refine (awake_calls _).mono ?_)
  rintro e w1 ⟨rfl, f1⟩
  have F1 := Lib.hid f1
  clear f1
  go_wp2_with fail
  have hB : w.heap.size ≤ w1.heap.size := F1.out.size
  (with_reducible refine (open_calls _ w.heap.size w1.heap.size [] c (TabM.new w1 _ hB) (by simp; omega) 0 _ (open_in h0 h1)).mono ?_)
  rintro e w2 ⟨rfl, t2, f2⟩
  have F2 := Lib.hid ((F1.out.alloc _).kt f2)
  have T2 := Lib.hid t2
  clear t2 f2 F1 hB
  go_wp2
  go_loopw [8, 9] (fun dn i wr => ∃ (k : Nat) (d : Int), k ≤ len ∧ 0 ≤ d ∧ d ≤ k ∧ i = .int .i64 k ∧ dn = .int .u32 d ∧ TabM wr w.heap.size w1.heap.size [(c, d, rep d)] ∧ Fr (fun b _ => b < w.heap.size) w wr) (fun _ i _ => len - (intOf i).toNat)
  case atStart => exact ⟨0, 0, Nat.zero_le _, by omega, by omega, rfl, rfl, T2.out, F2.out⟩
  case round =>
    obtain ⟨k, d, hk, hd0, hdk, rfl, rfl, ht, hf⟩ := hrel
    have T := Lib.hid ht
    have F := Lib.hid hf
    clear ht hf T2 F2
    by_cases hlt : k < len
    · obtain ⟨b, off, rfl, hz, hcell⟩ := h.at (by omega)
      have hwf := h.wf k hlt
      have g0 := hcell k hlt
      generalize zs.getD k 0 = s at g0 hwf
      obtain ⟨hs0, hs1⟩ := bounds_u32 hwf
      have G := Lib.hid g0
      have g := F.out.old g0
      clear hcell hz hwf h g0
      by_cases hs : 0 < s ∧ d = s
      · obtain ⟨hp, rfl⟩ := hs
        go_wp2_with fail
        (with_reducible refine (ask_calls _ _ _ _ c d T.out hd0 (by omega) _ true 0 (ask_same hp)).mono ?_)
        rintro e w3 ⟨a3, c3, rfl, b3, t3, f3⟩
        have e1 := rep_len hp
        rw [e1] at b3 ⊢
        have g3 := rep_cell hp (by omega) b3
        obtain ⟨b', o', rfl⟩ := b3.addr (by omega)
        have g3' := g3 b' o' rfl
        have F3 := Lib.hid (F.out.tt f3)
        have T3 := Lib.hid t3
        have g4 := F3.out.old G.out
        clear e1 b3 g3 t3 f3 g T F
        go_wp2
        go_roundw
        case rel => exact ⟨k + 1, d, by omega, hd0, by omega, by go_num, rfl, T3.out, F3.out⟩
        case measure => simp [intOf]; omega
      · by_cases hn : s = d + 1
        · subst hn
          have hA : askM [(c, d, rep d)] c (d + 1) = ([], false, 0) := by
            rw [ask_other hs, askCode, if_neg (by omega), if_neg (by omega)]
          clear hs
          go_wp2_with fail
          (with_reducible refine (ask_calls _ _ _ _ c (d + 1) T.out (by omega) (by omega) _ false 0 hA).mono ?_)
          rintro e w3 ⟨a3, c3, rfl, b3, t3, f3⟩
          have F3 := Lib.hid (F.out.tt f3)
          have T3 := Lib.hid t3
          have g4 := F3.out.old G.out
          clear b3 t3 f3 g T F hA
          go_wp2_with fail
          have er : rep (d + 1) = [UInt8.ofNat (d + 1).toNat] := by rw [rep, if_neg (by omega)]
          have hD := done_next (c := c) (rep d) hd0 [UInt8.ofNat (d + 1).toNat] (by simp)
          (with_reducible refine (done_calls _ _ _ _ c (d + 1) _ [UInt8.ofNat (d + 1).toNat] (T3.out.fr ((Fr.refl _ _).alloc _)) (by omega) (by omega) (BytesAt.lit1 w3 _ (d + 1) (by rw [UInt8.toNat_ofNat']; omega)) 0 _ hD).mono ?_)
          rintro e w4 ⟨rfl, t4, f4⟩
          rw [← er] at t4
          have F4 := Lib.hid ((F3.out.alloc _).kt f4)
          have T4 := Lib.hid t4
          have g5 := F4.out.old G.out
          clear t4 f4 T3 F3 g4 er hD
          go_wp2
          go_roundw
          case rel => exact ⟨k + 1, d + 1, by omega, by omega, by omega, by go_num, rfl, T4.out, F4.out⟩
          case measure => simp [intOf]; omega
        · have hA : askM [(c, d, rep d)] c s = ([], false, askCode d s) := ask_other hs
          have hz : (askCode d s != 0) = true := by
            unfold askCode
            by_cases hsd : s ≤ d
            · rw [if_pos hsd]; decide
            · rw [if_neg hsd, if_pos hn]; decide
          have hn' : (s == d + 1) = false := by simp [hn]
          generalize askCode d s = q at hA hz
          clear hs hn
          go_wp2_with fail
          (with_reducible refine (ask_calls _ _ _ _ c s T.out (by omega) (by omega) _ false q hA).mono ?_)
          rintro e w3 ⟨a3, c3, rfl, b3, t3, f3⟩
          have F3 := Lib.hid (F.out.tt f3)
          have T3 := Lib.hid t3
          have g4 := F3.out.old G.out
          clear b3 t3 f3 g T F hA
          go_wp2
          go_roundw
          case rel => exact ⟨k + 1, d, by omega, hd0, by omega, by go_num, rfl, T3.out, F3.out⟩
          case measure => simp [intOf]; omega
    · go_wp2
      go_ret
      exact ⟨rfl, F.out.below (Nat.le_refl _)⟩
theorem once_walk (c : Int) (a : Option Addr) (len cap : Nat) (zs : List Int) (w : World) (h : IsRow .u32 w a len cap zs) :
    Calls Try.prog 3 #[.int .i64 c, .slice a len cap] w fun e w' => e = .returned (.bool true) ∧ Below w.heap.size w w' := by
  by_cases hc : c < 0 ∨ 15 < c ∨ 100 < len
  · exact once_short c a len cap w hc
  · exact once_main c a len cap zs w h (by omega) (by omega) (by omega)

end Go.Proofs.Ytkaikckehkcfhaa
