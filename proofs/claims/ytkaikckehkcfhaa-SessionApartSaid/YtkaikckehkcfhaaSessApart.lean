/- The walk of SessionApart. -/
import Derived.Test.YtkaikckehkcfhaaSessOnce
import Derived.Test.YtkaikckehkcfhaaSessClose
import Derived.Test.YtkaikckehkcfhaaRdBytes
import Derived.StillTailTactics
namespace Go.Proofs.Ytkaikckehkcfhaa
open Go.RowKit

theorem find_app (M : MT) (n c s : Int) (r : List UInt8) (h : n ≠ c) : findM (M ++ [(n, s, r)]) c = findM M c := by
  simp [findM, List.find?_append, h]
theorem find_open (M : MT) (n c : Int) (h : n ≠ c) : findM (openM M n).2 c = findM M c := by
  unfold openM
  split
  · rfl
  · split
    · rfl
    · split
      · rfl
      · exact find_app M n c 0 [] h
theorem find_set (n c s : Int) (bs : List UInt8) (h : n ≠ c) : ∀ M : MT, findM (setM M n s bs) c = findM M c
  | [] => rfl
  | x :: M => by
    have ih := find_set n c s bs h M
    simp only [findM, setM, List.map_cons, List.find?_cons] at ih ⊢
    by_cases hx : x.1 = n
    · have : ¬ x.1 = c := fun e => h (hx.symm.trans e)
      simp only [hx, ↓reduceIte, h, decide_false]
      exact ih
    · simp only [hx, ↓reduceIte]
      split
      · rfl
      · exact ih
theorem find_done (M : MT) (n c s : Int) (bs : List UInt8) (h : n ≠ c) : findM (doneM M n s bs).2 c = findM M c := by
  unfold doneM
  split
  · rfl
  · split
    · exact find_set n c s bs h M
    · rfl
theorem find_filter (n c : Int) (h : n ≠ c) : ∀ M : MT, findM (M.filter fun x => !decide (x.1 = n)) c = findM M c
  | [] => rfl
  | x :: M => by
    have ih := find_filter n c h M
    simp only [findM, List.filter_cons, List.find?_cons] at ih ⊢
    by_cases hx : x.1 = n
    · have : ¬ x.1 = c := fun e => h (hx.symm.trans e)
      simp only [hx, decide_true, Bool.not_true, Bool.false_eq_true, ↓reduceIte, h, decide_false]
      exact ih
    · simp only [hx, decide_false, Bool.not_false, ↓reduceIte, List.find?_cons]
      split
      · rfl
      · exact ih
theorem find_close (M : MT) (n c : Int) (h : n ≠ c) : findM (closeM M n).2 c = findM M c := by
  unfold closeM
  split
  · exact find_filter n c h M
  · rfl

theorem ask_found {M : MT} {c d : Int} (hf : findM M c = some (c, d, rep d)) (h : 0 < d) : askM M c d = (rep d, true, 0) := by simp [askM, hf, h]
theorem ask_next {M : MT} {c d : Int} (hf : findM M c = some (c, d, rep d)) : askM M c (d + 1) = ([], false, 0) := by
  simp only [askM, hf]
  rw [if_neg (by omega), askCode, if_neg (by omega), if_neg (by omega)]

/-- What the walk reads of the i-th call. -/
def OpAt (w : World) (b off i : Nat) (x y z : Int) (v : Value) (bs : List UInt8) : Prop :=
  w.cell? ⟨b, off + i * 4, none⟩ = some (.int .i64 x) ∧ w.cell? ⟨b, off + i * 4 + 1, none⟩ = some (.int .i64 y) ∧ w.cell? ⟨b, off + i * 4 + 2, none⟩ = some (.int .u32 z) ∧ w.cell? ⟨b, off + i * 4 + 3, none⟩ = some v ∧
    0 ≤ z ∧ z < 4294967296 ∧ BytesAt (fun b _ => b < w.heap.size) w v bs
set_option maxRecDepth 100000 in
theorem ops_at {w : World} {a : Option Addr} {len cap : Nat} (h : Rd Try.prog w 36 [.slice a len cap]) (hl : 0 < len) :
    ∃ b off, a = some ⟨b, off, none⟩ ∧ ∀ i, i < len → ∃ x y z v bs, OpAt w b off i x y z v bs := by
  obtain ⟨a', len', cap', hv, _, _, _, hc⟩ := h.slice (sz := 4) Try.underlying36 (by kernel_rfl)
  obtain ⟨rfl, rfl, rfl⟩ : a = a' ∧ len = len' ∧ cap = cap' := by simpa using hv
  have key : ∀ i, i < len → ∃ ad x y z v bs, a = some ad ∧ w.cell? (ad.add (i * 4)) = some (.int .i64 x) ∧ w.cell? (ad.add (i * 4 + 1)) = some (.int .i64 y) ∧ w.cell? (ad.add (i * 4 + 2)) = some (.int .u32 z) ∧ w.cell? (ad.add (i * 4 + 3)) = some v ∧ 0 ≤ z ∧ z < 4294967296 ∧ BytesAt (fun b _ => b < w.heap.size) w v bs := by
    intro i hi
    obtain ⟨ad, cs, ha, hcl, hat, hr⟩ := hc i hi
    obtain ⟨_, hf⟩ := hr.struct (sz := 4) Try.underlying38 (by kernel_rfl)
    obtain ⟨c0, c1, c2, c3, rfl⟩ := list4 hcl
    obtain ⟨x, hx, _⟩ := (show Rd Try.prog w 3 [c0] from hf 0 _ rfl).int Try.underlying3
    obtain ⟨y, hy, _⟩ := (show Rd Try.prog w 3 [c1] from hf 1 _ rfl).int Try.underlying3
    obtain ⟨z, hz, hzw⟩ := (show Rd Try.prog w 30 [c2] from hf 2 _ rfl).int Try.underlying30
    obtain ⟨bs, hb, _⟩ := (show Rd Try.prog w 31 [c3] from hf 3 _ rfl).bytes Try.underlying31 Try.underlying5 (by kernel_rfl)
    obtain ⟨z0, z1⟩ := bounds_u32 hzw
    have hx' : c0 = .int .i64 x := by injection hx
    have hy' : c1 = .int .i64 y := by injection hy
    have hz' : c2 = .int .u32 z := by injection hz
    subst hx' hy' hz'
    exact ⟨ad, x, y, z, c3, bs, ha, hat 0 (by omega), hat 1 (by omega), hat 2 (by omega), hat 3 (by omega), z0, by omega, hb⟩
  obtain ⟨ad, x, y, z, v, bs, ha, e0, _⟩ := key 0 hl
  rw [Nat.zero_mul] at e0
  obtain ⟨b, off, rfl⟩ := spot_of e0
  refine ⟨b, off, ha, fun i hi => ?_⟩
  obtain ⟨ad', x, y, z, v, bs, ha', e0, e1, e2, e3, h4⟩ := key i hi
  rw [ha] at ha'
  cases ha'
  simp only [add_at] at e0 e1 e2 e3
  exact ⟨x, y, z, v, bs, e0, e1, e2, e3, h4⟩


set_option maxRecDepth 100000 in
set_option maxHeartbeats 1000000 in
theorem apart_short (a : Option Addr) (len cap : Nat) (c d : Int) (w : World) (h : c < 0 ∨ 15 < c ∨ 80 < len ∨ d < 1 ∨ 20 < d) :
    Calls Try.prog 4 #[.slice a len cap, .int .i64 c, .int .i64 d] w fun e w' => e = .returned (.bool true) ∧ Below w.heap.size w w' := by
  go_enter Try.func4, Try.ntmps4
  go_wp2_with fail
  (with_reducible refine (awake_calls _).mono ?_)
  rintro e w1 ⟨rfl, f1⟩
  have F1 := Lib.hid f1
  clear f1
  go_wp2_with fail
  have hB : w.heap.size ≤ w1.heap.size := F1.out.size
  by_cases hc : c < 0 ∨ 15 < c
  · (with_reducible refine (open_calls _ w.heap.size w1.heap.size [] c (TabM.new w1 _ hB) (by simp; omega) 31 [] (open_out hc)).mono ?_)
    rintro e w2 ⟨rfl, t2, f2⟩
    have F2 := Lib.hid ((F1.out.alloc _).kt f2)
    clear t2 f2 h
    rcases hc with hc | hc
    · go_wp2
      go_ret
      exact ⟨rfl, F2.out.below (Nat.le_refl _)⟩
    · go_wp2
      go_ret
      exact ⟨rfl, F2.out.below (Nat.le_refl _)⟩
  · have h0 : 0 ≤ c := by omega
    have h1 : c ≤ 15 := by omega
    have h' : (80 : Int) < len ∨ d < 1 ∨ 20 < d := by omega
    (with_reducible refine (open_calls _ w.heap.size w1.heap.size [] c (TabM.new w1 _ hB) (by simp; omega) 0 _ (open_in h0 h1)).mono ?_)
    rintro e w2 ⟨rfl, t2, f2⟩
    have F2 := Lib.hid ((F1.out.alloc _).kt f2)
    clear t2 f2 h hc
    rcases h' with h | h | h
    · go_wp2
      go_ret
      exact ⟨rfl, F2.out.below (Nat.le_refl _)⟩
    · by_cases hl : (80 : Int) < len
      · go_wp2
        go_ret
        exact ⟨rfl, F2.out.below (Nat.le_refl _)⟩
      · go_wp2
        go_ret
        exact ⟨rfl, F2.out.below (Nat.le_refl _)⟩
    · by_cases hl : (80 : Int) < len
      · go_wp2
        go_ret
        exact ⟨rfl, F2.out.below (Nat.le_refl _)⟩
      · by_cases hl' : d < 1
        · omega
        · go_wp2
          go_ret
          exact ⟨rfl, F2.out.below (Nat.le_refl _)⟩

set_option maxRecDepth 100000 in
set_option maxHeartbeats 1000000 in
theorem apart_main (a : Option Addr) (len cap : Nat) (c d : Int) (w : World) (h : Rd Try.prog w 36 [.slice a len cap]) (h0 : 0 ≤ c) (h1 : c ≤ 15) (h2 : (len : Int) ≤ 80) (h3 : 1 ≤ d) (h4 : d ≤ 20) :
    Calls Try.prog 4 #[.slice a len cap, .int .i64 c, .int .i64 d] w fun e w' => e = .returned (.bool true) ∧ Below w.heap.size w w' := by
  have HR := Lib.hid h
  clear h
  go_enter Try.func4, Try.ntmps4
  go_wp2_with fail
  (with_reducible refine (awake_calls _).mono ?_)
  rintro e w1 ⟨rfl, f1⟩
  have F1 := Lib.hid f1
  clear f1
  go_wp2_with fail
  have hB : w.heap.size ≤ w1.heap.size := F1.out.size
  (with_reducible refine (open_calls _ w.heap.size w1.heap.size [] c (TabM.new w1 _ hB) (by simp; omega) 0 _ (open_in h0 h1)).mono ?_)
  rintro e w2 ⟨rfl, t2, f2⟩
  have F2 := Lib.hid ((F1.out.alloc _).kt f2)
  have T2 := Lib.hid t2
  clear t2 f2 F1 hB
  go_wp2
  go_loopw [10] (fun i wr => ∃ (k : Int), 0 ≤ k ∧ k ≤ d ∧ i = .int .i64 (k + 1) ∧ TabM wr w.heap.size w1.heap.size [(c, k, rep k)] ∧ Fr (fun b _ => b < w.heap.size) w wr) (fun i _ => (d + 1 - intOf i).toNat)
  case atStart => exact ⟨0, by omega, by omega, rfl, T2.out, F2.out⟩
  case round =>
    obtain ⟨k, hk0, hk, rfl, ht, hf⟩ := hrel
    have T := Lib.hid ht
    have F := Lib.hid hf
    clear ht hf T2 F2
    by_cases hlt : k < d
    · go_wp2_with fail
      have er : rep (k + 1) = [UInt8.ofNat (k + 1).toNat] := by rw [rep, if_neg (by omega)]
      have hD := done_next (c := c) (rep k) hk0 [UInt8.ofNat (k + 1).toNat] (by simp)
      (with_reducible refine (done_calls _ _ _ _ c (k + 1) _ [UInt8.ofNat (k + 1).toNat] (T.out.fr ((Fr.refl _ _).alloc _)) (by omega) (by omega) (BytesAt.lit1 wr _ (k + 1) (by rw [UInt8.toNat_ofNat']; omega)) 0 _ hD).mono ?_)
      rintro e w4 ⟨rfl, t4, f4⟩
      rw [← er] at t4
      have F4 := Lib.hid ((F.out.alloc _).kt f4)
      have T4 := Lib.hid t4
      clear t4 f4 er hD
      go_wp2
      go_roundw
      case rel => exact ⟨k + 1, by omega, by omega, rfl, T4.out, F4.out⟩
      case measure => simp [intOf]; omega
    · have hkd : k = d := by omega
      subst hkd
      clear hlt
      go_wp2
      go_loopw [11] (fun i wr => ∃ (j : Nat) (M : MT), j ≤ len ∧ i = .int .i64 j ∧ findM M c = some (c, k, rep k) ∧ TabM wr w.heap.size w1.heap.size M ∧ Fr (fun b _ => b < w.heap.size) w wr) (fun i _ => len - (intOf i).toNat)
      case atStart => exact ⟨0, [(c, k, rep k)], Nat.zero_le _, rfl, find_one c k _, T.out, F.out⟩
      case round =>
        obtain ⟨j, M, hj, rfl, hfind, ht, hf⟩ := hrel
        clear T F
        have T := Lib.hid ht
        have F := Lib.hid hf
        have FM := Lib.hid hfind
        clear ht hf hfind
        by_cases hlt : j < len
        · obtain ⟨b, off, rfl, hops⟩ := ops_at HR.out (by omega)
          obtain ⟨x, y, z, v, bs, e0, e1, e2, e3, hz0, hz1, hbs⟩ := hops j hlt
          have BS := Lib.hid (hbs.fr F.out)
          have g0 := F.out.old e0
          have g1 := F.out.old e1
          have g2 := F.out.old e2
          have g3 := F.out.old e3
          clear hops e0 e1 e2 e3 hbs
          by_cases hy : y = c
          · subst hy
            go_wp2
            go_roundw
            case rel => exact ⟨j + 1, M, by omega, by go_num, FM.out, T.out, F.out⟩
            case measure => simp [intOf]; omega
          · have hyc : (y == c) = false := by simp [hy]
            have HY := Lib.hid hy
            clear hy
            by_cases hx1 : x = 1
            · subst hx1
              go_wp2_with fail
              (with_reducible refine (open_calls _ w.heap.size w1.heap.size M y T.out (F.out.size) _ _ rfl).mono ?_)
              rintro e w3 ⟨rfl, t3, f3⟩
              have F3 := Lib.hid (F.out.kt f3)
              have T3 := Lib.hid t3
              clear t3 f3 g0 g1 g2 g3
              go_wp2
              go_roundw
              case rel => exact ⟨j + 1, _, by omega, by go_num, (find_open M y c HY.out).trans FM.out, T3.out, F3.out⟩
              case measure => simp [intOf]; omega
            · have hx1' : (x == 1) = false := by simp [hx1]
              by_cases hx2 : x = 2
              · subst hx2
                clear hx1 hx1'
                go_wp2_with fail
                (with_reducible refine (close_calls _ w.heap.size w1.heap.size M y T.out _ _ rfl).mono ?_)
                rintro e w3 ⟨rfl, t3, f3⟩
                have F3 := Lib.hid (F.out.kt f3)
                have T3 := Lib.hid t3
                clear t3 f3 g0 g1 g2 g3
                go_wp2
                go_roundw
                case rel => exact ⟨j + 1, _, by omega, by go_num, (find_close M y c HY.out).trans FM.out, T3.out, F3.out⟩
                case measure => simp [intOf]; omega
              · have hx2' : (x == 2) = false := by simp [hx2]
                by_cases hx4 : x = 4
                · subst hx4
                  clear hx1 hx1' hx2 hx2'
                  obtain ⟨a', cap', rfl⟩ := BS.out.form
                  go_wp2_with fail
                  go_still_tail 16, (by kernel_rfl)
                  go_wp2_with fail
                  (with_reducible refine (done_calls _ w.heap.size w1.heap.size M y z _ bs (T.out.fr (Fr.refl _ _).drew) hz0 hz1 (BS.out.tt (Fr.refl _ _).drew) _ _ rfl).mono ?_)
                  rintro e w3 ⟨rfl, t3, f3⟩
                  have F3 := Lib.hid (F.out.drew.kt f3)
                  have T3 := Lib.hid t3
                  clear t3 f3 g0 g1 g2 g3
                  go_wp2
                  go_roundw
                  case rel => exact ⟨j + 1, _, by omega, by go_num, (find_done M y c z bs HY.out).trans FM.out, T3.out, F3.out⟩
                  case measure => simp [intOf]; omega
                · have hx4' : (x == 4) = false := by simp [hx4]
                  clear hx1 hx2 hx4
                  go_wp2
                  go_roundw
                  case rel => exact ⟨j + 1, M, by omega, by go_num, FM.out, T.out, F.out⟩
                  case measure => simp [intOf]; omega
        · have hn := ask_next FM.out
          have ha := ask_found FM.out (by omega)
          go_wp2_with fail
          (with_reducible refine (ask_calls _ _ _ _ c k T.out hk0 (by omega) _ true 0 ha).mono ?_)
          rintro e w3 ⟨a3, c3, rfl, b3, t3, f3⟩
          have F3 := Lib.hid (F.out.tt f3)
          have T3 := Lib.hid t3
          have e1 := rep_len (d := k) (by omega)
          rw [e1] at b3 ⊢
          have B3 := Lib.hid b3
          clear t3 f3 b3 e1 ha T F
          go_wp2_with fail
          (with_reducible refine (ask_calls _ _ _ _ c (k + 1) T3.out (by omega) (by omega) _ false 0 hn).mono ?_)
          rintro e w4 ⟨a4, c4, rfl, b4, t4, f4⟩
          have F4 := Lib.hid (F3.out.tt f4)
          have B4 := Lib.hid (B3.out.tt f4)
          clear t4 f4 b4 hn
          go_wp2_with fail
          have er : rep k = [UInt8.ofNat k.toNat] := by rw [rep, if_neg (by omega)]
          (with_reducible refine (same_calls _ _ _ (rep k) [UInt8.ofNat k.toNat] (B4.out.tt ((Fr.refl _ _).alloc _)) (BytesAt.lit1 w4 _ k (by rw [UInt8.toNat_ofNat']; omega)) (by have := rep_short k; omega)).mono ?_)
          rintro e w5 ⟨rfl, n5, rfl⟩
          rw [show decide (rep k = [UInt8.ofNat k.toNat]) = true from decide_eq_true er]
          clear er
          go_wp2
          go_ret
          exact ⟨rfl, ((F4.out.alloc _).drewN n5).below (Nat.le_refl _)⟩
theorem apart_walk (a : Option Addr) (len cap : Nat) (c d : Int) (w : World) (h : Rd Try.prog w 36 [.slice a len cap]) :
    Calls Try.prog 4 #[.slice a len cap, .int .i64 c, .int .i64 d] w fun e w' => e = .returned (.bool true) ∧ Below w.heap.size w w' := by
  by_cases hc : c < 0 ∨ 15 < c ∨ 80 < len ∨ d < 1 ∨ 20 < d
  · exact apart_short a len cap c d w hc
  · exact apart_main a len cap c d w h (by omega) (by omega) (by omega) (by omega) (by omega)

end Go.Proofs.Ytkaikckehkcfhaa
