/- Package slot: records, an iterator. -/
import Derived.Test.YtaeonlafcbgpcaaDoorRange
import Derived.Test.YtaeonlafcbgpcaaDoorDiskCopy
import Derived.Shelf.Abstract
import Derived.Shelf.RegionOpen
import Derived.WalkKit
import Derived.OwnWalkIn
import Derived.TacticsInMore
import Derived.LoopNIn
import Derived.LoopIn
namespace Go.Proofs.YtaeonlafcbgpcaaDoor
open Go.RowKit Go.Shelf

/-- A sector's record of the first epoch. -/
def secRec (D : Dk) (i : Nat) : Option (Nat × Nat × List UInt8) := match parseP (D.seen.getD i []) with
  | some (s, 0, b) => some (i, s, b)
  | _ => none
def recsUpto (D : Dk) (k j : Nat) : List (Nat × Nat × List UInt8) := (List.range j).filterMap fun i => secRec D (k + i)
theorem recsUpto_succ (D : Dk) (k j : Nat) : recsUpto D k (j + 1) = recsUpto D k j ++ (secRec D (k + j)).toList := by
  unfold recsUpto
  rw [List.range_succ, List.filterMap_append]
  cases h : secRec D (k + j) <;> simp [h]

/-- A record as it is handed out. -/
structure SRec where
  at' : Nat
  seq : Nat
  a : Option Addr
  cap : Nat
  bs : List UInt8
def SRec.tup (x : SRec) : Nat × Nat × List UInt8 := (x.at', x.seq, x.bs)
def SRec.v (x : SRec) : Value := .slice x.a x.bs.length x.cap
def SRec.cells (x : SRec) : Array Value := #[.int .i64 (x.at' : Nat), .int .u32 (x.seq : Nat), .slice x.a x.bs.length x.cap]
def SRec.encs (x : SRec) : Array Value := #[.agg x.cells]
/-- Its bytes lie in memory that is new since n. -/
def SRec.lies (n : Nat) (x : SRec) (w : World) : Prop := BytesAt (New n) w (.slice x.a x.bs.length x.cap) x.bs ∧ x.seq < 4294967296 ∧ 0 < x.seq

theorem SRec.lies.fr {n : Nat} {x : SRec} {K : Nat → Obj → Prop} {w w' : World} (h : x.lies n w) (hf : Fr K w w') (hk : ∀ c o, New n c o → K c o) : x.lies n w' := ⟨h.1.fr (hf.mono hk), h.2⟩
theorem New.kc {n c : Nat} {o : Obj} (h : New n c o) : KC c o := by
  obtain ⟨_, cs, fz, rfl⟩ := h; rfl

theorem parseP_pos {l : List UInt8} {s p : Nat} {b : List UInt8} (h : parseP l = some (s, p, b)) : 0 < s ∧ s < 4294967296 ∧ p < 4294967296 ∧ b.length ≤ 43 := by
  unfold parseP at h
  split at h
  · rename_i hc
    cases h
    refine ⟨by omega, ofLE_take_lt _ 4, ofLE_take_lt _ 4, ?_⟩
    rw [List.length_take]; omega
  · cases h

attribute [local go_sem] Oper.semAt_some

set_option maxRecDepth 100000 in
set_option maxHeartbeats 1000000 in
theorem records_seq (n : Nat) (W0 : World) (B F : Nat → Prop) (bd : Nat) (D : Dk) (k bat bdk : Nat) (hd : Dsk W0 bd F D) (hFB : ∀ c, F c → B c) (hat : W0.cell? ⟨bat, 0, none⟩ = some (.int .i64 (k : Nat))) (hdk : W0.cell? ⟨bdk, 0, none⟩ = some (.pointer (some ⟨bd, 0, none⟩)))
    (hBa : B bat) (hBd : B bdk) (hB0 : B 0) (ht : TabOK W0) (hB : ∀ c, W0.heap.size ≤ c → B c) (hk : k + 1 < D.seen.length) :
    SeqW Fence.wide n Tryd.prog 80 #[.pointer (some ⟨bat, 0, none⟩), .pointer (some ⟨bdk, 0, none⟩)] SRec.encs (SRec.lies W0.heap.size) B (fun xs W => xs.map SRec.tup = recsUpto D k 2 ∧ ∀ x ∈ xs, x.lies W0.heap.size W) W0 := by
  intro l J W hW hJ hY h0
  have hbnd : k ≤ 511 := by have := hd.wf.max; have := hd.wf.len; omega
  refine callsIn_of_wp Tryd.func80 rfl trivial ?_ rfl
  simp only [Tryd.ntmps80, List.size_toArray, List.length_cons, List.length_nil, Nat.reduceAdd, Nat.reduceSub, Array.replicate_succ, Array.replicate_zero, List.push_toArray, List.append_toArray, List.nil_append, List.cons_append]
  have HAT := Lib.hid hat
  have HDK := Lib.hid hdk
  have ca := hW.cell (fun _ _ => trivial) hat
  have FW := Lib.hid hW
  have HJ := Lib.hid hJ
  have HY := Lib.hid hY
  have H0 := Lib.hid h0
  have HD := Lib.hid hd
  have HT := Lib.hid ht
  clear hat hdk hW hJ hY h0 hd ht
  gi_wp2
  gi_loopw [4] (fun i wr => ∃ (j : Nat) (xs : List SRec), j ≤ 2 ∧ i = .int .i64 ((k + j : Nat) : Int) ∧ J xs wr ∧ xs.map SRec.tup = recsUpto D k j ∧ (∀ x ∈ xs, x.lies W0.heap.size wr) ∧ Fr (fun c _ => B c) W0 wr) (fun i _ => k + 2 - (intOf i).toNat)
  case atStart => exact ⟨0, [], by omega, rfl, H0.out, rfl, (fun x hx => by cases hx), FW.out.mono fun _ _ _ => trivial⟩
  case round =>
    obtain ⟨j, xs, hj, rfl, hJx, hxs, hl, hf⟩ := hrel
    have HX := Lib.hid hxs
    have HL := Lib.hid hl
    have HF := Lib.hid hf
    have HJx := Lib.hid hJx
    have ca1 := hf.cell (fun _ _ => hBa) HAT.out
    have cd1 := hf.cell (fun _ _ => hBd) HDK.out
    clear hxs hl hf hJx ca H0 FW
    by_cases hlt : j < 2
    · gi_wp2
      have hm : k + j < D.seen.length := by omega
      refine ⟨trivial, (fun h => by cases h), (callsIn_wide.2 (read_in wr bd F D (k + j) _ (by omega) (HD.out.fr HF.out fun c _ _ h => hFB c h) hm)).mono ?_⟩
      rintro e w1 ⟨⟨a1, c1, rfl, b1⟩, f1⟩
      have hg : D.seen[k + j] = D.seen.getD (k + j) [] := by simp [List.getD, hm]
      rw [hg] at b1
      have hsr : Hid (secRec D (k + j) = match parseP (D.seen.getD (k + j) []) with | some (s, 0, b) => some (k + j, s, b) | _ => none) := rfl
      generalize D.seen.getD (k + j) [] = sec at b1 hsr
      have B1 := Lib.hid b1
      have F1 := Lib.hid (HF.out.trans (f1.mono (K' := fun c _ => B c) fun _ _ _ => trivial))
      have E1 := Lib.hid f1
      have HJ1 := Lib.hid (HJ.out _ _ _ HJx.out f1)
      clear b1 f1 hg
      gi_wp2
      refine ⟨trivial, (fun h => by cases h), (callsIn_wide.2 (parse_calls w1 _ sec B1.out (fun i hi => F1.out.cell (fun _ _ => hB0) (HT.out i hi)))).mono ?_⟩
      rintro e w2 ⟨(⟨hp, rfl⟩ | ⟨s, p, b, a2, c2, hp, rfl, b2⟩), f2⟩
      · have hsn : Hid (secRec D (k + j) = none) := by rw [hsr.out, hp]; rfl
        have F2 := Lib.hid (F1.out.trans (f2.mono (K' := fun c _ => B c) fun _ _ _ => trivial))
        have HL2 := Lib.hid (fun x hx => ((HL.out x hx).fr (E1.out.trans f2) (fun _ _ _ => trivial)))
        have HJ2 := Lib.hid (HJ.out _ _ _ HJ1.out f2)
        clear f2 hp hsr
        gi_wp2
        refine ⟨(fun _ h => by cases h), ?_⟩
        gi_wp2
        go_roundw
        case rel => exact ⟨j + 1, xs, by omega, by go_num, HJ2.out, by rw [recsUpto_succ, hsn.out, HX.out]; simp, HL2.out, F2.out⟩
        case measure => simp [intOf]; omega
      · obtain ⟨hs0, hs1, hp1, hb43⟩ := parseP_pos hp
        have F2 := Lib.hid (F1.out.trans (f2.mono (K' := fun c _ => B c) fun _ _ _ => trivial))
        have HL2 := Lib.hid (fun x hx => ((HL.out x hx).fr (E1.out.trans f2) (fun _ _ _ => trivial)))
        have HJ2 := Lib.hid (HJ.out _ _ _ HJ1.out f2)
        have hsz : W0.heap.size ≤ w1.heap.size := F1.out.size
        have B2 := Lib.hid (b2.mono (K' := New W0.heap.size) fun c o _ h => ⟨Nat.le_trans hsz h.1, h.2⟩)
        clear f2 b2
        by_cases hp0 : p = 0
        · subst hp0
          have hss : Hid (secRec D (k + j) = some (k + j, s, b)) := by rw [hsr.out, hp]; rfl
          clear hp hsr
          obtain ⟨fn, tmps, assign, body, hy, hR⟩ := HY.out xs ⟨k + j, s, a2, c2, b⟩ w2 HJ2.out ⟨B2.out, hs1, hs0⟩
          have HR := Lib.hid hR
          clear hR
          dsimp only [SRec.encs, SRec.cells] at hy
          simp only [Int.natCast_add] at hy
          gi_wp2
          refine ⟨(fun h => by cases h), HR.out.mono ?_⟩
          rintro e w3 ⟨rfl, hJ3, f3⟩
          have HJ3 := Lib.hid hJ3
          have F3 := Lib.hid (F2.out.trans f3)
          have HL3 : Hid (∀ x ∈ xs ++ [⟨k + j, s, a2, c2, b⟩], x.lies W0.heap.size w3) := fun x hx => by
            rcases List.mem_append.1 hx with h | h
            · exact (HL2.out x h).fr f3 fun c _ h => hB c h.1
            · rw [List.mem_singleton.1 h]
              exact SRec.lies.fr ⟨B2.out, hs1, hs0⟩ f3 fun c _ h => hB c h.1
          clear hJ3 f3 hy HR
          gi_wp2
          go_roundw
          case rel => exact ⟨j + 1, _, by omega, by go_num, HJ3.out, by rw [recsUpto_succ, hss.out, List.map_append, HX.out]; rfl, HL3.out, F3.out⟩
          case measure => simp [intOf]; omega
        · have hsn : Hid (secRec D (k + j) = none) := by
            rw [hsr.out, hp]
            cases p with
            | zero => exact absurd rfl hp0
            | succ p => rfl
          have hpz : ((p : Int) == 0) = false := by simp; omega
          clear hp hsr
          gi_wp2
          refine ⟨(fun _ h => by cases h), ?_⟩
          gi_wp2
          go_roundw
          case rel => exact ⟨j + 1, xs, by omega, by go_num, HJ2.out, by rw [recsUpto_succ, hsn.out, HX.out]; simp, HL2.out, F2.out⟩
          case measure => simp [intOf]; omega
    · gi_wp2
      go_end0
      exact ⟨⟨_, rfl⟩, xs, ⟨by rw [HX.out]; congr 1; omega, HL.out⟩, HJx.out⟩
end Go.Proofs.YtaeonlafcbgpcaaDoor
