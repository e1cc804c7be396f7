/- Texts of the proofs, part 31: what the functions that they reach do, walked; no conditions beyond those that each states. -/
import Derived.Sort.Walk13
import Derived.Sort.WalkA14
import Derived.Sort.AssemblyPlain
import Derived.Test.YtmjccpfchhnfhaaGreatZz300e99fa70
import Derived.Test.YtmjccpfchhnfhaaGreatZz6947547fb2
import Derived.Test.YtmjccpfchhnfhaaGreatZz6384748139
import Derived.Test.YtmjccpfchhnfhaaGreatZz6eae3219e7
import Derived.Test.YtmjccpfchhnfhaaGreatZz138c0e8e91
set_option linter.unusedVariables false
set_option linter.unusedSimpArgs false
/- slices.Sort of numbers of 64 bits: pdqsort, Sort: the kit's walk at int (Derived/Sort/Walk13, WalkA14), turned to uint64. -/
namespace Go.Proofs.YtmjccpfchhnfhaaGreat
open Go.RowKit Go.Sort Go.Lib
set_option linter.unusedVariables false
set_option linter.unusedSimpArgs false
structure Callees13u : Prop where
 ins : ∀ (blk off cap a b : Nat) (d : Array Int) (w : World), Holds encU w blk off d → a ≤ b → b ≤ d.size → d.size < 4611686018427387904 →
  Calls Tryz.prog 135 #[.slice (some ⟨blk, off, none⟩) d.size cap, .int .i64 a, .int .i64 b] w fun e w' => e = .returned (.tuple #[]) ∧ ∃ n, w' = putRow encU (Sort.ahead w n) blk off (insertionSort ltInt d a b)
 brk : ∀ (blk off cap a b : Nat) (d : Array Int) (w : World), Holds encU w blk off d → blk < w.heap.size → a ≤ b → b ≤ d.size → d.size < 4611686018427387904 →
  Calls Tryz.prog 137 #[.slice (some ⟨blk, off, none⟩) d.size cap, .int .i64 a, .int .i64 b] w fun e w' => e = .returned (.tuple #[]) ∧ ∃ n os, w' = grow (putRow encU (Sort.ahead w n) blk off (breakPatterns d a b)) os
 piv : ∀ (blk off cap a b : Nat) (d : Array Int) (w : World), Holds encU w blk off d → blk < w.heap.size → a < b → b ≤ d.size → d.size < 4611686018427387904 →
  Calls Tryz.prog 138 #[.slice (some ⟨blk, off, none⟩) d.size cap, .int .i64 a, .int .i64 b] w fun e w' => e = .returned (.tuple #[.int .i64 (choosePivot ltInt d a b).1, .int .i64 (hintCode (choosePivot ltInt d a b).2)]) ∧ ∃ n os, w' = grow (Sort.ahead w n) os
 par : ∀ (blk off cap a b : Nat) (d : Array Int) (w : World), Holds encU w blk off d → a < b → b ≤ d.size → d.size < 4611686018427387904 →
  Calls Tryz.prog 140 #[.slice (some ⟨blk, off, none⟩) d.size cap, .int .i64 a, .int .i64 b] w fun e w' => e = .returned (.bool (partialInsertionSort ltInt d a b).2) ∧ ∃ n, w' = putRow encU (Sort.ahead w n) blk off (partialInsertionSort ltInt d a b).1
 peq : ∀ (blk off cap a b pivot : Nat) (d : Array Int) (w : World), Holds encU w blk off d → a ≤ pivot → pivot < b → b ≤ d.size → d.size < 4611686018427387904 →
  Calls Tryz.prog 142 #[.slice (some ⟨blk, off, none⟩) d.size cap, .int .i64 a, .int .i64 b, .int .i64 pivot] w fun e w' => e = .returned (.int .i64 (partitionEqual ltInt d a b pivot).1) ∧ ∃ n, w' = putRow encU (Sort.ahead w n) blk off (partitionEqual ltInt d a b pivot).2
 prt : ∀ (blk off cap a b pivot : Nat) (d : Array Int) (w : World), Holds encU w blk off d → a ≤ pivot → pivot < b → b ≤ d.size → d.size < 4611686018427387904 →
  Calls Tryz.prog 143 #[.slice (some ⟨blk, off, none⟩) d.size cap, .int .i64 a, .int .i64 b, .int .i64 pivot] w fun e w' => e = .returned (.tuple #[.int .i64 (partition ltInt d a b pivot).1, .bool (partition ltInt d a b pivot).2.1]) ∧ ∃ n, w' = putRow encU (Sort.ahead w n) blk off (partition ltInt d a b pivot).2.2
set_option maxRecDepth 100000 in
set_option maxHeartbeats 6400000 in
theorem pdqsort_u64 (C : Callees13u) (S : Plain13) : ∀ (N blk off cap a b limit : Nat) (d : Array Int) (w : World), b - a < N → Holds encU w blk off d → blk < w.heap.size → a ≤ b → b ≤ d.size → d.size < 4611686018427387904 → limit < 4611686018427387904 → Below ltInt a b d →
    Calls Tryz.prog 129 #[.slice (some ⟨blk, off, none⟩) d.size cap, .int .i64 a, .int .i64 b, .int .i64 limit] w fun e w' => e = .returned (.tuple #[]) ∧ At encU w blk off (pdq ltInt d a b limit true true) w' := by
  intro N
  induction N with
  | zero => intro _ _ _ _ _ _ _ _ h; exact absurd h (Nat.not_lt_zero _)
  | succ N ih =>
    intro blk off cap a b limit d w hN hH hblk hab hb hsz hlimit hBel0
    go_enter Tryz.func129, Tryz.ntmps129
    go_wp2
    go_loopg [1, 2, 3, 8, 9] (b - a) (fun k s1 s2 s3 s8 s9 wr => ∃ (a' b' lim : Nat) (wb wp : Bool) (dk : Array Int), s1 = .int .i64 a' ∧ s2 = .int .i64 b' ∧ s3 = .int .i64 lim ∧ s8 = .bool wb ∧ s9 = .bool wp ∧
      a' ≤ b' ∧ b' ≤ d.size ∧ b' - a' ≤ k ∧ k ≤ b - a ∧ lim ≤ limit ∧ dk.size = d.size ∧ Below ltInt a' b' dk ∧ At encU w blk off dk wr ∧ pdq ltInt dk a' b' lim wb wp = pdq ltInt d a b limit true true)
    case atStart => exact ⟨a, b, limit, true, true, d, rfl, rfl, rfl, rfl, rfl, hab, hb, Nat.le_refl _, Nat.le_refl _, Nat.le_refl _, rfl, hBel0, At.refl hH, rfl⟩
    case round =>
      obtain ⟨a', b', lim, wb, wp, dk, rfl, rfl, rfl, rfl, rfl, hab', hb', hk, hkN, hlim, hds, hBel, hAt, heq⟩ := hrel
      obtain ⟨hHk, hblk'⟩ := hAt.holds hH hds hblk
      have A : Aside (pdq ltInt dk a' b' lim wb wp = pdq ltInt d a b limit true true) := heq
      clear heq
      by_cases h12 : b' - a' ≤ 12
      · -- 'if length <= maxInsertion'
        have h12z : (b' : Int) - (a' : Int) ≤ 12 := by omega
        have hc := C.ins blk off cap a' b' dk wr hHk hab' (by omega) (by omega)
        rw [hds] at hc
        go_wp2_with (go_at_call 135; refine hc.mono ?_; rintro e w1 ⟨rfl, hw1⟩)
        (try simp only [Exit.inBlock, Exit.then]); refine bodyPost_ret (results_none rfl _ _ _) rfl ?_
        refine ⟨rfl, ?_⟩
        rw [← A.out, Go.Sort.pdq_small h12]
        exact hAt.step hblk (S.ins S.swo dk a' b' hab' (by omega)).1.1 hw1
      · have h12z : ¬ ((b' : Int) - (a' : Int) ≤ 12) := by omega
        by_cases hl0 : lim = 0
        · -- 'if limit == 0'
          subst hl0
          have hc := heapSort_u64 blk off d.size cap dk hds a' b' wr hHk hab' (by omega) (by omega)
          go_wp2_with (go_at_call 136; refine hc.mono ?_; rintro e w1 ⟨rfl, hw1⟩)
          (try simp only [Exit.inBlock, Exit.then]); refine bodyPost_ret (results_none rfl _ _ _) rfl ?_
          refine ⟨rfl, ?_⟩
          rw [← A.out, pdq_heap h12 rfl]
          exact hAt.step hblk (heapSort_holds S.swo dk a' b' hab' (by omega)).1.1 hw1
        · have hl0z : ¬ ((lim : Int) = 0) := by omega
          -- THE ROUND's VALUES: sizes, ranges, 'Below', stage by stage
          obtain ⟨s1, B1, hc1, s2, B2, hpv, s3, B3⟩ := rd_facts (limit := lim) (wb := wb) (wp := wp) S.swo S.par reverseRange_holds (show a' < b' by omega) (show b' ≤ dk.size by omega) hBel
          -- ████ 'if !wasBalanced { breakPatterns; limit-- }': THE WAYS MEET
          go_upto_if 35 with fail
          go_cut [3] from 19 (fun s3 wc => s3 = .int .i64 (rd ltInt dk a' b' lim wb wp).lim ∧ At encU w blk off (rd ltInt dk a' b' lim wb wp).d1 wc)
          case first =>
            cases wb
            · have hc := C.brk blk off cap a' b' dk wr hHk hblk' hab' (by omega) (by omega)
              rw [hds] at hc
              go_wp2_with (go_at_call 137; refine hc.mono ?_; rintro e w1 ⟨rfl, hw1⟩)
              go_meet
              case rel =>
                refine ⟨?_, hAt.stepG hblk s1 hw1⟩
                show Value.int .i64 ((lim : Int) - 1) = Value.int .i64 ((lim - 1 : Nat) : Int)
                congr 1
                omega
            · go_wp2_with fail
              go_meet
              case rel => exact ⟨rfl, hAt⟩
          case rest =>
            obtain ⟨rfl, hAt1⟩ := hcut
            obtain ⟨hH1, hblk1⟩ := hAt1.holds hH (s1.trans hds) hblk
            have hc17 : Calls Tryz.prog 138 #[.slice (some ⟨blk, off, none⟩) d.size cap, .int .i64 a', .int .i64 b'] wc fun e w' => e = .returned (.tuple #[.int .i64 (rd ltInt dk a' b' lim wb wp).c.1, .int .i64 (hintCode (rd ltInt dk a' b' lim wb wp).c.2)]) ∧ ∃ n os, w' = grow (Sort.ahead wc n) os := by
              have := C.piv blk off cap a' b' (rd ltInt dk a' b' lim wb wp).d1 wc hH1 hblk1 (by omega) (by omega) (by omega)
              rw [s1, hds] at this
              exact this
            go_upto_if 50 with (go_at_call 138; refine hc17.mono ?_; rintro e w2 ⟨rfl, hw2⟩)
            have hAt2 : At encU w blk off (rd ltInt dk a' b' lim wb wp).d1 w2 := hAt1.same hH (s1.trans hds) hblk hw2
            obtain ⟨hH2, hblk2⟩ := hAt2.holds hH (s1.trans hds) hblk
            -- ████ 'if hint == decreasingHint { reverseRange; pivot = ..; hint = increasingHint }': THE WAYS MEET
            go_cut [11, 12] from 19 (fun s11 s12 wc => s11 = .int .i64 (rd ltInt dk a' b' lim wb wp).pivot ∧ s12 = .int .i64 (hintCode (rd ltInt dk a' b' lim wb wp).hint) ∧ At encU w blk off (rd ltInt dk a' b' lim wb wp).d2 wc)
            case first =>
              by_cases hh : (rd ltInt dk a' b' lim wb wp).c.2 = .decreasing
              · have hcode : hintCode (rd ltInt dk a' b' lim wb wp).c.2 = 2 := by rw [hh]; rfl
                obtain ⟨e2, epv, eht⟩ := rd_dec hh
                have hc18 := reverseRange_u64 blk off cap (rd ltInt dk a' b' lim wb wp).d1 a' b' w2 hH2 hab' (by omega) (by omega)
                rw [s1, hds] at hc18
                go_wp2_with (go_at_call 139; refine hc18.mono ?_; rintro e w3 ⟨rfl, hw3⟩)
                go_meet
                case rel =>
                  refine ⟨?_, by rw [eht]; rfl, by rw [e2]; exact hAt2.step hblk (by rw [← e2, s2, s1]) hw3⟩
                  rw [epv]
                  congr 1
                  omega
              · have hcode : ¬ (hintCode (rd ltInt dk a' b' lim wb wp).c.2 = 2) := fun h => hh (hintCode_two h)
                obtain ⟨e2, epv, eht⟩ := rd_not hh
                go_wp2_with fail
                go_meet
                case rel => exact ⟨by rw [epv], by rw [eht], by rw [e2]; exact hAt2⟩
            case rest =>
              obtain ⟨rfl, rfl, hAt3⟩ := hcut
              obtain ⟨hH3, hblk3⟩ := hAt3.holds hH (s2.trans hds) hblk
              -- ████ THE TEST 'wasBalanced && wasPartitioned && hint == increasingHint', over Booleans that are variables: THE WAYS THROUGH THE REGION MEET
              go_upto_region 15 with fail
              go_cut [12, 68] from 19 (fun s12 s68 wx => s12 = .int .i64 (hintCode (rd ltInt dk a' b' lim wb wp).hint) ∧ s68 = .bool (wb && wp && decide ((rd ltInt dk a' b' lim wb wp).hint = .increasing)) ∧ wx = wc)
              case first =>
                cases wb <;> cases wp <;> cases hh3 : (rd ltInt dk a' b' lim _ _).hint <;>
                  (have hcode3 := congrArg hintCode hh3
                   simp only [hintCode] at hcode3
                   go_wp2_with fail
                   go_meet
                   exact ⟨by simp [hh3, hintCode], by simp [hh3, hintCode], rfl⟩)
              case rest =>
                obtain ⟨rfl, rfl, rfl⟩ := hcut
                -- ████ 'if .. { if partialInsertionSort(..) { return } }': THE WAYS MEET (one returns)
                go_upto_if 68 with fail
                go_cut [] from 19 (fun wx => (rd ltInt dk a' b' lim wb wp).pi.2 = false ∧ At encU w blk off (rd ltInt dk a' b' lim wb wp).pi.1 wx)
                case first =>
                  cases h68 : (wb && wp && decide ((rd ltInt dk a' b' lim wb wp).hint = .increasing))
                  · have epi := rd_pi_no h68
                    go_wp2_with fail
                    go_meet
                    case rel => exact ⟨by rw [epi], by rw [epi]; exact hAt3⟩
                  · have epi := rd_pi_yes h68
                    have hc19 := C.par blk off cap a' b' (rd ltInt dk a' b' lim wb wp).d2 wc hH3 (by omega) (by omega) (by omega)
                    rw [s2, hds, ← epi] at hc19
                    go_wp2_with (go_at_call 140; refine hc19.mono ?_; rintro e w4 ⟨rfl, hw4⟩)
                    -- (the walk parts on what the callee says: each way is closed by the script that fits it)
                    all_goals first
                      | (have hp2 : (rd ltInt dk a' b' lim wb wp).pi.2 = false := by rw [epi]; assumption
                         go_meet
                         exact ⟨hp2, hAt3.step hblk (by rw [s3, s2]) hw4⟩)
                      | (have hp2 : (rd ltInt dk a' b' lim wb wp).pi.2 = true := by rw [epi]; assumption
                         (try simp only [Exit.inBlock, Exit.then]); refine bodyPost_ret (results_none rfl _ _ _) rfl ?_
                         refine ⟨rfl, ?_⟩
                         rw [← A.out, pdq_done h12 hl0 hp2]
                         exact hAt3.step hblk (by rw [s3, s2]) hw4)
                case rest =>
                  obtain ⟨hp2, hAt5⟩ := hcut
                  obtain ⟨hH5, hblk5⟩ := hAt5.holds hH (s3.trans hds) hblk
                  -- THE ROW's TWO FAMILIES (the authors' Derived/CellFam.lean)
                  have hcw : ∀ t, t < d.size → wc.cell? ⟨blk, off + t, none⟩ = some (.int .u64 (rd ltInt dk a' b' lim wb wp).pi.1[t]!) := fun t ht => (hH5 t (by omega)).1
                  have hfw : ∀ t, t < d.size → wc.frozen? ⟨blk, off + t, none⟩ = false := fun t ht => (hH5 t (by omega)).2
                  -- ████ THE TEST 'a > 0 && !cmp.Less(data[a-1], data[pivot])': it draws; its guard must be parted on: THE WAYS THROUGH THE REGION MEET
                  go_upto_region 17 with fail
                  go_cut [87] from 19 (fun s87 wx => s87 = .bool (decide (a' > 0) && !ltInt (rd ltInt dk a' b' lim wb wp).pi.1[a' - 1]! (rd ltInt dk a' b' lim wb wp).pi.1[(rd ltInt dk a' b' lim wb wp).pivot]!) ∧ At encU w blk off (rd ltInt dk a' b' lim wb wp).pi.1 wx)
                  case first =>
                    rcases Nat.eq_zero_or_pos a' with ha0 | ha0
                    · have ha0z : decide ((a' : Int) > 0) = false := decide_eq_false (by omega)
                      go_big_quiet (first | (go_at_call 141; refine Calls.quiet_of_same (less_u64 _ _ _)))
                      go_wp2_with fail
                      go_meet
                      case rel => exact ⟨by simp [ha0], hAt5.ahead nq⟩
                    · have ha0z : (a' : Int) > 0 := by omega
                      go_big_quiet (first | (go_at_call 141; refine Calls.quiet_of_same (less_u64 _ _ _)))
                      go_wp2_with fail
                      go_meet
                      case rel => exact ⟨by simp [ha0], hAt5.ahead nq⟩
                  case rest =>
                    obtain ⟨rfl, hAt6⟩ := hcut
                    obtain ⟨hH6, hblk6⟩ := hAt6.holds hH (s3.trans hds) hblk
                    clear hcw hfw
                    cases h87 : (decide (a' > 0) && !ltInt (rd ltInt dk a' b' lim wb wp).pi.1[a' - 1]! (rd ltInt dk a' b' lim wb wp).pi.1[(rd ltInt dk a' b' lim wb wp).pivot]!)
                    · -- ████ 'mid, alreadyPartitioned := partitionOrdered(..)'; THE SMALLER SIDE BY A CALL OF ITSELF, the other by the next round
                      -- (✋ WHAT THE PARTITION GIVES, AS VARIABLES WITH ONE EQUATION: handed 'rfl' for it, the unifier UNFOLDED 'partition' to find the triple's parts, and the ranges came back over 'partLoop ..': nothing met them any more)
                      obtain ⟨mid, ap, d4, hx⟩ : ∃ mid ap d4, partition ltInt (rd ltInt dk a' b' lim wb wp).pi.1 a' b' (rd ltInt dk a' b' lim wb wp).pivot = (mid, ap, d4) := ⟨(partition ltInt (rd ltInt dk a' b' lim wb wp).pi.1 a' b' (rd ltInt dk a' b' lim wb wp).pivot).1, (partition ltInt (rd ltInt dk a' b' lim wb wp).pi.1 a' b' (rd ltInt dk a' b' lim wb wp).pivot).2.1, (partition ltInt (rd ltInt dk a' b' lim wb wp).pi.1 a' b' (rd ltInt dk a' b' lim wb wp).pivot).2.2, rfl⟩
                      obtain ⟨r1, r2, r3, r4, r5, r6, r7⟩ := round_part S.swo S.prt hpv.1 hpv.2 (show b' ≤ (rd ltInt dk a' b' lim wb wp).pi.1.size by omega) B3 hx
                      have hc22 := C.prt blk off cap a' b' (rd ltInt dk a' b' lim wb wp).pivot (rd ltInt dk a' b' lim wb wp).pi.1 wc hH6 hpv.1 hpv.2 (by omega) (by omega)
                      rw [s3, hds, hx] at hc22
                      have X : Aside (partition ltInt (rd ltInt dk a' b' lim wb wp).pi.1 a' b' (rd ltInt dk a' b' lim wb wp).pivot = (mid, ap, d4)) := hx
                      clear hx
                      go_upto_if 113 with (go_at_call 143; refine hc22.mono ?_; rintro e w7 ⟨rfl, hw7⟩)
                      have hx := X.out
                      have hAt7 : At encU w blk off d4 w7 := hAt6.step hblk r3 hw7
                      obtain ⟨hH7, hblk7⟩ := hAt7.holds hH (r3.trans (s3.trans hds)) hblk
                      by_cases h4 : mid - a' < b' - mid
                      · have h4z : (mid : Int) - (a' : Int) < (b' : Int) - (mid : Int) := by omega
                        have hih := ih blk off cap a' mid (rd ltInt dk a' b' lim wb wp).lim d4 w7 (by omega) hH7 hblk7 (by omega) (by omega) (by omega) (Nat.lt_of_le_of_lt (Nat.le_trans rd_lim_le hlim) hlimit) r4
                        rw [r3, s3, hds] at hih
                        obtain ⟨pL, sL⟩ := S.pdq S.swo d4 a' mid (rd ltInt dk a' b' lim wb wp).lim true true (by omega) (by omega) r4
                        go_wp2_with (go_at_call 129; refine hih.mono ?_; rintro e w8 ⟨rfl, hw8⟩)
                        go_roundg (b' - (mid + 1))
                        case measure => omega
                        case rel =>
                          refine ⟨mid + 1, b', (rd ltInt dk a' b' lim wb wp).lim, decide (mid - a' ≥ (b' - a') / 8), ap, pdq ltInt d4 a' mid (rd ltInt dk a' b' lim wb wp).lim true true, by simp, rfl, rfl, ?_, rfl, by omega, by omega, Nat.le_refl _, by omega, Nat.le_trans rd_lim_le hlim, by rw [pL.1, r3, s3, hds], (r6 _ pL sL).1, hAt7.stepG hblk pL.1 hw8, ?_⟩
                          · exact congrArg Value.bool (eighth (by omega) (by omega))
                          · rw [← A.out, pdq_left h12 hl0 hp2 h87 (by rw [hx]; exact ⟨r1, r2⟩) (by rw [hx]; exact h4), hx]
                      · have h4z : ¬ ((mid : Int) - (a' : Int) < (b' : Int) - (mid : Int)) := by omega
                        have hih := ih blk off cap (mid + 1) b' (rd ltInt dk a' b' lim wb wp).lim d4 w7 (by omega) hH7 hblk7 (by omega) (by omega) (by omega) (Nat.lt_of_le_of_lt (Nat.le_trans rd_lim_le hlim) hlimit) r5
                        rw [r3, s3, hds] at hih
                        obtain ⟨pL, sL⟩ := S.pdq S.swo d4 (mid + 1) b' (rd ltInt dk a' b' lim wb wp).lim true true (by omega) (by omega) r5
                        go_wp2_with (go_at_call 129; refine hih.mono ?_; rintro e w8 ⟨rfl, hw8⟩)
                        go_roundg (mid - a')
                        case measure => omega
                        case rel =>
                          refine ⟨a', mid, (rd ltInt dk a' b' lim wb wp).lim, decide (b' - mid ≥ (b' - a') / 8), ap, pdq ltInt d4 (mid + 1) b' (rd ltInt dk a' b' lim wb wp).lim true true, rfl, rfl, rfl, ?_, rfl, by omega, by omega, Nat.le_refl _, by omega, Nat.le_trans rd_lim_le hlim, by rw [pL.1, r3, s3, hds], (r7 _ pL sL).1, hAt7.stepG hblk pL.1 hw8, ?_⟩
                          · exact congrArg Value.bool (eighth (by omega) (by omega))
                          · rw [← A.out, pdq_right h12 hl0 hp2 h87 (by rw [hx]; exact ⟨r1, r2⟩) (by rw [hx]; exact h4), hx]
                    · -- ████ 'mid := partitionEqualOrdered(..); a = mid; continue'
                      have h87' := h87
                      simp only [Bool.and_eq_true, decide_eq_true_eq, Bool.not_eq_true'] at h87'
                      obtain ⟨mid, d4, hx⟩ : ∃ mid d4, partitionEqual ltInt (rd ltInt dk a' b' lim wb wp).pi.1 a' b' (rd ltInt dk a' b' lim wb wp).pivot = (mid, d4) := ⟨(partitionEqual ltInt (rd ltInt dk a' b' lim wb wp).pi.1 a' b' (rd ltInt dk a' b' lim wb wp).pivot).1, (partitionEqual ltInt (rd ltInt dk a' b' lim wb wp).pi.1 a' b' (rd ltInt dk a' b' lim wb wp).pivot).2, rfl⟩
                      obtain ⟨r1, r2, r3, r4, _⟩ := round_eq S.swo S.peq h87'.1 hpv.1 hpv.2 (show b' ≤ (rd ltInt dk a' b' lim wb wp).pi.1.size by omega) B3 h87'.2 hx
                      have hc21 := C.peq blk off cap a' b' (rd ltInt dk a' b' lim wb wp).pivot (rd ltInt dk a' b' lim wb wp).pi.1 wc hH6 hpv.1 hpv.2 (by omega) (by omega)
                      rw [s3, hds, hx] at hc21
                      have X : Aside (partitionEqual ltInt (rd ltInt dk a' b' lim wb wp).pi.1 a' b' (rd ltInt dk a' b' lim wb wp).pivot = (mid, d4)) := hx
                      clear hx
                      go_wp2_with (go_at_call 142; refine hc21.mono ?_; rintro e w7 ⟨rfl, hw7⟩)
                      go_roundg (b' - mid)
                      case measure => omega
                      case rel =>
                        have hx := X.out
                        exact ⟨mid, b', (rd ltInt dk a' b' lim wb wp).lim, wb, wp, d4, rfl, rfl, rfl, rfl, rfl, r2, hb', Nat.le_refl _, by omega, Nat.le_trans rd_lim_le hlim, by rw [r3, s3, hds], r4, hAt6.step hblk r3 hw7, by rw [← A.out, pdq_eq h12 hl0 hp2 h87 (by rw [hx]; exact ⟨r1, r2⟩), hx]⟩
def pdqWalk_u : Prop := ∀ (blk off cap a b limit : Nat) (d : Array Int) (w : World), Holds (Value.int .u64) w blk off d → blk < w.heap.size → a ≤ b → b ≤ d.size → d.size < 4611686018427387904 → limit < 4611686018427387904 → Below ltInt a b d →
 Calls Tryz.prog 129 #[.slice (some ⟨blk, off, none⟩) d.size cap, .int .i64 a, .int .i64 b, .int .i64 limit] w fun e w' =>
  e = .returned (.tuple #[]) ∧ ∃ n os, w' = grow (putRow (Value.int .u64) (Sort.ahead w n) blk off (Sort.pdq ltInt d a b limit true true)) os
set_option maxRecDepth 100000 in
theorem Sort_u64 (hpdq : pdqWalk_u) (blk off cap : Nat) (d : Array Int) (w : World) (hH : Holds (Value.int .u64) w blk off d) (hblk : blk < w.heap.size) (hsz : d.size < 4611686018427387904) :
  Calls Tryz.prog 111 #[.slice (some ⟨blk, off, none⟩) d.size cap] w fun e w' => e = .returned (.tuple #[]) ∧ ∃ n os, w' = grow (putRow (Value.int .u64) (Sort.ahead w n) blk off (Sort.sort ltInt d)) os := by
 have HH : Hid (Holds (Value.int .u64) w blk off d) := hH
 clear hH
 have hLen : ∀ w, Calls Tryz.prog 130 #[.int .u64 (d.size : Int)] w fun e w' => e = .returned (.int .i64 (bitsLen d.size : Nat)) ∧ w' = w := fun w => by
  have h := Any.bits_Len Tryz.lays125 (d.size : Int) w (by omega) (by omega)
  rwa [Int.toNat_natCast, bitLen_eq _ (by omega)] at h
 have hk : bitsLen d.size ≤ 62 := (bitsLen_le_iff d.size 62).2 (by omega)
 go_enter Tryz.func111, Tryz.ntmps111
 go_wp2_with (first
  | (go_at_call 130; refine (hLen _).mono ?_; rintro e w' ⟨rfl, rfl⟩)
  | (go_at_call 129; refine (hpdq blk off cap 0 d.size (bitsLen d.size) d _ (by exact HH.out) (by exact hblk) (Nat.zero_le _) (Nat.le_refl _) hsz (by omega) (Or.inl rfl)).mono ?_; rintro e w' ⟨rfl, n, os, rfl⟩))
 go_end0
 exact ⟨rfl, n, os, rfl⟩
end Go.Proofs.YtmjccpfchhnfhaaGreat
/- slices.Sort of numbers of 64 bits: the parts joined (after the kit's Derived/Sort/Assembly at int). -/
namespace Go.Proofs.YtmjccpfchhnfhaaGreat
open Go.RowKit Go.Sort Go.Lib
set_option linter.unusedVariables false
theorem callees13u : Callees13u where
 ins := insort_u64
 brk := breakPatterns_u64
 piv := choosePivot_u64
 par := partialInsertionSort_u64
 peq := partitionEqualOrdered_u64
 prt := partitionOrdered_u64
theorem plain13u : Plain13 where
 swo := swo_ltInt
 ins := insertionSort_holds
 par := partialInsertionSort_holds
 prt := partition_holds _
 peq := partitionEqual_holds _
 pdq := pdq_sorts _
theorem pdqWalkU : pdqWalk_u := fun blk off cap a b limit d w hH hb hab hbd hsz hl hB =>
 pdqsort_u64 callees13u plain13u (b - a + 1) blk off cap a b limit d w (by omega) hH hb hab hbd hsz hl hB
theorem sort_calls (blk off cap : Nat) (zs : List Int) (w : World) (hH : Holds (Value.int .u64) w blk off zs.toArray) (hblk : blk < w.heap.size) (hsz : zs.length < 4611686018427387904) :
  Calls Tryz.prog 111 #[.slice (some ⟨blk, off, none⟩) zs.length cap] w fun e w' =>
   e = .returned (.tuple #[]) ∧ ∃ n os, w' = grow (putRow (Value.int .u64) (Sort.ahead w n) blk off (zs.mergeSort fun x y => decide (x ≤ y)).toArray) os := by
 have h := Sort_u64 pdqWalkU blk off cap zs.toArray w hH hblk (by simpa using hsz)
 have e : Sort.sort ltInt zs.toArray = (zs.mergeSort fun x y => decide (x ≤ y)).toArray := by rw [← sortInt zs]
 rw [e] at h
 simpa using h
end Go.Proofs.YtmjccpfchhnfhaaGreat
/- quorum.Reached of any group. -/
namespace Go.Proofs.YtmjccpfchhnfhaaGreat
open Go.RowKit
set_option linter.unusedVariables false
set_option linter.unusedSimpArgs false
theorem Fr.growU {K : Nat → Obj → Prop} {a w : World} (h : Fr K a w) (os : Array Obj) : Fr K a (Sort.grow w os) :=
 ⟨h.os, h.tape, h.output, by have := h.size; show _ ≤ (w.heap ++ os).size; simp; omega, fun b o hb hk => by
  have h1 := h.keep b o hb hk
  have h2 := lt_of_some h1
  show (w.heap ++ os)[b]? = some o
  rw [Array.getElem?_append_left h2]; exact h1⟩
theorem putRow_size {α : Type} [Inhabited α] (enc : α → Value) (w : World) (n blk off : Nat) (d : Array α) : (Sort.putRow enc (Sort.ahead w n) blk off d).heap.size = w.heap.size := Sort.size_putRow enc (Sort.ahead w n) blk off d
set_option maxRecDepth 100000 in
set_option maxHeartbeats 2000000 in
theorem reached_calls {K K' : Nat → Obj → Prop} (w : World) (b off c : Nat) (vm : Value) (zs ms : List Int) (h : IntsAt K w (.slice (some ⟨b, off, none⟩) zs.length c) zs) (hq : NumsAt .u64 K' w vm ms) (hm : ms.length ≤ maxLen) (h0 : 0 < zs.length) (h12 : zs.length ≤ 16) (hp : ∀ x ∈ zs, 0 ≤ x) :
  Calls Tryz.prog 77 #[.slice (some ⟨b, off, none⟩) zs.length c, vm] w fun e w' => e = .returned (.int .u64 (midV (reachL zs ms zs.length))) ∧ Fr (fun b _ => b < w.heap.size) w w' := by
 obtain ⟨am, cm, rfl⟩ := hq.form
 have H := Lib.hid h
 have HQ := Lib.hid hq
 have HP := Lib.hid hp
 obtain ⟨N, hN⟩ : ∃ N, N = zs.length := ⟨_, rfl⟩
 have HN := Lib.hid hN
 obtain ⟨M, hM⟩ : ∃ M, M = ms.length := ⟨_, rfl⟩
 have HMM := Lib.hid hM
 have hMb : M ≤ 9223372036854775807 := by unfold maxLen at hm; omega
 rw [← hN] at h0 h12 ⊢
 rw [← hM]
 have HJ := fun w' => Lib.hid (maj_calls w' (some ⟨b, off, none⟩) N c (by omega))
 obtain ⟨mj, hmj⟩ : ∃ mj, mj = N / 2 + 1 := ⟨_, rfl⟩
 have HMJ := Lib.hid hmj
 have hmj1 : mj ≤ N := by omega
 have e0 : majI N = (mj : Nat) := by unfold majI; omega
 rw [e0] at HJ
 clear h hq hp hN hM e0 hm hmj
 go_enter Tryz.func77, Tryz.ntmps77
 go_wp2
 go_loopw [5, 11] (fun o i wr => ∃ (k : Nat) (a : Option Addr) (c : Nat), k ≤ N ∧ i = .int .i64 k ∧ o = .slice a k c ∧ RowU wr w.heap.size (.slice a k c) (reachL zs ms k) ∧ Fr (fun _ _ => True) w wr) (fun _ i _ => N - (intOf i).toNat)
 case atStart => exact ⟨0, none, 0, Nat.zero_le _, rfl, rfl, RowU.nil _ _, Fr.refl _ _⟩
 case round =>
  obtain ⟨k, a, c', hk, rfl, rfl, ho, hf⟩ := hrel
  have HO := Lib.hid ho
  have HF := Lib.hid hf
  clear ho hf
  by_cases hlt : k < N
  ·have l1 : k < zs.length := by rw [← HN.out]; exact hlt
   have g1 := (H.out.tt HF.out).cell l1
   have HL := Lib.hid (reachL_succ zs ms k l1)
   have hu0 := HP.out _ (List.getElem_mem l1)
   have HR := Lib.hid (reachL_len zs ms (k + 1) (by omega))
   generalize hu : zs[k] = u at g1 HL hu0
   clear hu l1
   obtain ⟨p, rfl⟩ := Int.eq_ofNat_of_zero_le hu0
   clear hu0
   by_cases hpm : p < M
   ·have l2 : p < ms.length := by rw [← HMM.out]; exact hpm
    have ea : atU ms (p : Int) = ms[p] := by
     unfold atU; rw [if_pos (by omega)]; simp [l2]
    rw [ea] at HL
    obtain ⟨bm, om, ham⟩ := HQ.out.addr (by omega)
    have g2 := ((ham ▸ HQ.out).tt HF.out).cell l2
    generalize ms[p] = y at g2 HL
    clear ea
    subst ham
    clear l2
    go_wp2_with (at_builtin; refine wpList_append_u64 w _ y HF rfl _ _ rfl _ _ rfl HO rfl _ HL (by have := HR.out; omega) ?_)
    intro a1 c1 w1 O1 F1
    rw [HR.out] at O1 ⊢
    go_wp2
    go_roundw
    case rel => exact ⟨k + 1, a1, c1, by omega, by go_num, rfl, O1.out, F1.out⟩
    case measure => simp [intOf]; omega
   ·have ea : atU ms (p : Int) = 0 := by
     unfold atU; rw [if_neg (by have := HMM.out; omega)]
    rw [ea] at HL
    clear ea
    go_wp2_with (at_builtin; refine wpList_append_u64 w _ 0 HF rfl _ _ rfl _ _ rfl HO rfl _ HL (by have := HR.out; omega) ?_)
    intro a1 c1 w1 O1 F1
    rw [HR.out] at O1 ⊢
    go_wp2
    go_roundw
    case rel => exact ⟨k + 1, a1, c1, by omega, by go_num, rfl, O1.out, F1.out⟩
    case measure => simp [intOf]; omega
  ·obtain rfl : k = N := by omega
   have hrl := reachL_len zs ms k (by have := HN.out; omega)
   obtain ⟨g, cap, hv, hg, hgl, hH⟩ := HO.out.parts (by omega)
   rw [hrl] at hv
   cases hv
   have key : ∀ m, m = (reachL zs ms k).toArray.size → Calls Tryz.prog 111 #[.slice (some ⟨g, 0, none⟩) m c'] wr fun e w' =>
     e = .returned (.tuple #[]) ∧ ∃ n os, w' = Sort.grow (Sort.putRow (Value.int .u64) (Sort.ahead wr n) g 0 (srt (reachL zs ms k)).toArray) os := by
    rintro _ rfl
    exact sort_calls g 0 c' _ wr hH hgl (by rw [hrl]; omega)
   have HK := Lib.hid (key k (by simp [hrl]))
   have HH := Lib.hid hH
   have HG := Lib.hid hg
   have HRL := Lib.hid hrl
   have HGL := Lib.hid hgl
   clear key hH hg hrl hgl
   go_wp2_with fail
   with_reducible refine HK.out.mono ?_
   rintro e1 w2 ⟨rfl, n, os, hw⟩
   obtain ⟨j, hj⟩ : ∃ j : Nat, j = k - mj := ⟨_, rfl⟩
   have ej : (k : Int) - (mj : Nat) = (j : Nat) := by omega
   have hjk : j < k := by have := HMJ.out; omega
   have hS : (srt (reachL zs ms k)).toArray.size = (reachL zs ms k).toArray.size := by simp [srt_len]
   have hlt3 : j < (srt (reachL zs ms k)).length := by rw [srt_len, HRL.out]; exact hjk
   have gc : w2.cell? ⟨g, j, none⟩ = some (.int .u64 ((srt (reachL zs ms k))[j])) := by
    have := Sort.cell?_putRow (Value.int .u64) (Sort.ahead wr n) g 0 (reachL zs ms k).toArray (srt (reachL zs ms k)).toArray (Sort.holds_ahead _ _ _ _ _ _ HH.out) hS j (by simpa using hlt3)
    rw [hw]
    rw [Nat.zero_add] at this
    rw [Sort.cell?_grow _ _ _ (by rw [putRow_size]; exact HGL.out), this]
    simp [hlt3]
   have hV : midV (reachL zs ms k) = (srt (reachL zs ms k))[j] := by
    unfold midV
    rw [HRL.out, ← HMJ.out, ← hj]
    simp [List.getD, hlt3]
   have HV := Lib.hid hV
   have F2 : Hid (Fr (fun b _ => b < w.heap.size) w w2) := by
    rw [hw]
    have h1 : Fr (fun b _ => b < w.heap.size) w (Sort.ahead wr n) := (HF.out.mono fun _ _ _ => trivial).ahead n
    exact (h1.putRowU (fun o ho => by have := HG.out; omega) _ _).growU os
   generalize (srt (reachL zs ms k))[j] = y at gc HV
   clear hw hS hV hj HK hlt3
   go_wp2_with fail
   with_reducible refine (HJ _).out.mono ?_
   rintro e1 w3 ⟨rfl, rfl⟩
   go_wp2
   go_ret
   exact ⟨by rw [HV.out]; rfl, F2.out⟩
end Go.Proofs.YtmjccpfchhnfhaaGreat
/- The document's at, Agrees and Reached. -/
namespace Go.Proofs.YtmjccpfchhnfhaaGreat
open Go.RowKit
set_option linter.unusedVariables false
set_option linter.unusedSimpArgs false
set_option maxRecDepth 100000 in
theorem at_calls {K : Nat → Obj → Prop} (w : World) (vm : Value) (ms : List Int) (p : Nat) (hq : NumsAt .u64 K w vm ms) (hm : ms.length ≤ maxLen) (hp : p ≤ 15) :
  Calls Tryz.prog 113 #[vm, .int .i64 (p : Nat)] w fun e w' => e = .returned (.int .u64 (atU ms (p : Nat))) ∧ w = w' := by
 obtain ⟨am, cm, rfl⟩ := hq.form
 unfold maxLen at hm
 by_cases h : p < ms.length
 ·obtain ⟨bm, om, rfl⟩ := hq.addr (by omega)
  have g := hq.cell h
  have ea : atU ms (p : Int) = ms[p] := by unfold atU; rw [if_pos (by omega)]; simp [h]
  have HE := Lib.hid ea
  generalize ms[p] = y at g HE
  clear ea hq
  generalize ms.length = M at *
  go_enter Tryz.func113, Tryz.ntmps113
  go_wp2
  go_ret
  exact ⟨by rw [HE.out]; rfl, rfl⟩
 ·have ea : atU ms (p : Int) = 0 := by unfold atU; rw [if_neg (by omega)]
  have HE := Lib.hid ea
  clear ea hq
  generalize ms.length = M at *
  go_enter Tryz.func113, Tryz.ntmps113
  go_wp2
  go_ret
  exact ⟨by rw [HE.out]; rfl, rfl⟩
theorem reachL_get (zs ms : List Int) (k : Nat) (hk : k < zs.length) (h : k < (reachL zs ms zs.length).length) : (reachL zs ms zs.length)[k] = atU ms zs[k] := by
 unfold reachL
 simp [List.getElem_map]
def cntG (l : List Int) (m : Int) (k : Nat) : Nat := (l.take k).countP fun x => decide (m ≤ x)
theorem cntG_succ (l : List Int) (m : Int) (k : Nat) (hk : k < l.length) : cntG l m (k + 1) = cntG l m k + (decide (m ≤ l[k])).toNat := by
 unfold cntG
 rw [List.take_succ_eq_append_getElem hk, List.countP_append, List.countP_singleton]
 cases decide (m ≤ l[k]) <;> rfl
theorem cntG_le (l : List Int) (m : Int) (k : Nat) : cntG l m k ≤ k := by
 have := List.countP_le_length (p := fun x => decide (m ≤ x)) (l := l.take k)
 rw [List.length_take] at this
 unfold cntG; omega
set_option maxRecDepth 100000 in
set_option maxHeartbeats 2000000 in
theorem rreached_calls {K K' : Nat → Obj → Prop} (w : World) (b off c : Nat) (vm : Value) (zs ms : List Int) (h : IntsAt K w (.slice (some ⟨b, off, none⟩) zs.length c) zs) (hq : NumsAt .u64 K' w vm ms) (hm : ms.length ≤ maxLen) (h16 : zs.length ≤ 16) (hp : ∀ x ∈ zs, 0 ≤ x ∧ x ≤ 15) :
  Calls Tryz.prog 78 #[.slice (some ⟨b, off, none⟩) zs.length c, vm] w fun e w' => e = .returned (.int .u64 (bestK (reachL zs ms zs.length) zs.length)) ∧ w = w' := by
 have H := Lib.hid h
 have HP := Lib.hid hp
 have HA : Hid (∀ x : Int, 0 ≤ x → x ≤ 15 → Calls Tryz.prog 113 #[vm, .int .i64 x] w fun e w' => e = .returned (.int .u64 (atU ms x)) ∧ w = w') := fun x h0 h1 => by
  obtain ⟨p, rfl⟩ := Int.eq_ofNat_of_zero_le h0
  exact at_calls w vm ms p hq hm (by omega)
 have HM := Lib.hid (rmaj_calls w (some ⟨b, off, none⟩) zs.length c (by omega))
 have HG : Hid (∀ k, (hk : k < zs.length) → ∃ hk2 : k < (reachL zs ms zs.length).length, (reachL zs ms zs.length)[k] = atU ms zs[k]) := fun k hk =>
  ⟨by rw [reachL_len _ _ _ (Nat.le_refl _)]; exact hk, reachL_get zs ms k hk _⟩
 have HLL := Lib.hid (reachL_len zs ms zs.length (Nat.le_refl _))
 obtain ⟨N, hN⟩ : ∃ N, N = zs.length := ⟨_, rfl⟩
 have HN := Lib.hid hN
 generalize reachL zs ms zs.length = L at *
 have HG : Hid (∀ k, (hk : k < zs.length) → ∃ hk2 : k < L.length, L[k] = atU ms zs[k]) := HG
 rw [← hN] at h16 HM HLL ⊢
 clear h hN hq hm hp
 obtain ⟨mj, hmj⟩ : ∃ mj, mj = N / 2 + 1 := ⟨_, rfl⟩
 have HMJ := Lib.hid hmj
 have e0 : majI N = (mj : Nat) := by unfold majI; omega
 rw [e0] at HM
 clear hmj e0
 go_enter Tryz.func78, Tryz.ntmps78
 go_wp2_with fail
 go_loop [5, 6, 7, 8, 9] (fun n i _ _ _ => ∃ k : Nat, k ≤ N ∧ i = .int .i64 k ∧ n = .int .u64 (bestK L k)) (fun _ i _ _ _ => N - (intOf i).toNat)
 case atStart => exact ⟨0, Nat.zero_le _, rfl, rfl⟩
 case round =>
  obtain ⟨k, hk, rfl, rfl⟩ := hrel
  by_cases hlt : k < N
  ·have l1 : k < zs.length := by rw [← HN.out]; exact hlt
   have g1 := H.out.cell l1
   obtain ⟨l2, e2⟩ := HG.out k l1
   have p1 := HP.out _ (List.getElem_mem l1)
   have K1 := Lib.hid (HA.out _ p1.1 p1.2)
   have HB := Lib.hid (bestK_succ L k l2)
   rw [e2] at HB
   generalize atU ms zs[k] = m at *
   generalize zs[k] = u at *
   generalize bestK L k = bk at *
   have HB2 : Hid (bestK L (k + 1) = if mj ≤ cntG L m N ∧ bk < m then m else bk) := by
    rw [HB.out, HLL.out, ← HMJ.out, show cntG L m N = L.countP fun x => decide (m ≤ x) from by unfold cntG; rw [← HLL.out, List.take_length]]; exact rfl
   clear e2 p1 HB l1 l2
   go_wp2_with fail
   with_reducible refine K1.out.mono ?_
   rintro e1 w6 ⟨rfl, rfl⟩
   clear K1
   go_wp2_with fail
   go_loop [8, 9] (fun n i => ∃ j : Nat, j ≤ N ∧ i = .int .i64 j ∧ n = .int .i64 (cntG L m j : Nat)) (fun _ i => N - (intOf i).toNat)
   case atStart => exact ⟨0, Nat.zero_le _, rfl, rfl⟩
   case round =>
    obtain ⟨j, hj, rfl, rfl⟩ := hrel
    have hc16 := cntG_le L m j
    by_cases hlt2 : j < N
    ·have l1 : j < zs.length := by rw [← HN.out]; exact hlt2
     have g2 := H.out.cell l1
     obtain ⟨l2, e2⟩ := HG.out j l1
     have p1 := HP.out _ (List.getElem_mem l1)
     have K1 := Lib.hid (HA.out _ p1.1 p1.2)
     have HC := Lib.hid (cntG_succ L m j l2)
     rw [e2] at HC
     generalize atU ms zs[j] = y at *
     generalize zs[j] = z at *
     generalize cntG L m j = cc at *
     clear e2 p1 l1 l2
     go_wp2_with fail
     with_reducible refine K1.out.mono ?_
     rintro e1 w6 ⟨rfl, rfl⟩
     clear K1
     by_cases hy : m ≤ y
     ·have HC2 : Hid (cntG L m (j + 1) = cc + 1) := by rw [HC.out, decide_eq_true hy]; exact rfl
      clear HC
      go_wp2
      go_round
      case rel => exact ⟨j + 1, by omega, by go_num, by rw [HC2.out]; simp⟩
      case measure => simp [intOf]; omega
     ·have HC2 : Hid (cntG L m (j + 1) = cc) := by rw [HC.out, decide_eq_false hy]; exact rfl
      clear HC
      go_wp2
      go_round
      case rel => exact ⟨j + 1, by omega, by go_num, by rw [HC2.out]⟩
      case measure => simp [intOf]; omega
    ·obtain rfl : j = N := by omega
     generalize cntG L m j = cc at *
     go_wp2_with fail
     with_reducible refine HM.out.mono ?_
     rintro e1 w6 ⟨rfl, rfl⟩
     by_cases h1 : mj ≤ cc
     ·by_cases h2 : bk < m
      ·have HB3 : Hid (bestK L (k + 1) = m) := by rw [HB2.out, if_pos ⟨h1, h2⟩]; exact rfl
       clear HB2
       go_wp2
       go_round
       case rel => exact ⟨k + 1, by omega, by go_num, by rw [HB3.out]⟩
       case measure => simp [intOf]; omega
      ·have HB3 : Hid (bestK L (k + 1) = bk) := by rw [HB2.out, if_neg (fun q => h2 q.2)]; exact rfl
       clear HB2
       go_wp2
       go_round
       case rel => exact ⟨k + 1, by omega, by go_num, by rw [HB3.out]⟩
       case measure => simp [intOf]; omega
     ·have HB3 : Hid (bestK L (k + 1) = bk) := by rw [HB2.out, if_neg (fun q => h1 q.1)]; exact rfl
      clear HB2
      go_wp2
      go_round
      case rel => exact ⟨k + 1, by omega, by go_num, by rw [HB3.out]⟩
      case measure => simp [intOf]; omega
  ·obtain rfl : k = N := by omega
   go_wp2
   go_ret
   exact ⟨rfl, rfl⟩
end Go.Proofs.YtmjccpfchhnfhaaGreat
