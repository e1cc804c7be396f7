/- Texts of the proofs, part 19: what the functions that they reach do, walked; no conditions beyond those that each states. -/
import Derived.Shelf.Abstract
import Derived.Shelf.RegionOpen
import Derived.WalkKit
import Derived.OwnWalkIn
import Derived.TacticsInMore
import Derived.LoopNIn
import Derived.LoopIn
import Derived.Test.YtcpbmempfeloaaaDoorZz6b32f0b6b2
set_option linter.unusedVariables false
set_option linter.unusedSimpArgs false
/- Package slot: records, an iterator. -/
namespace Go.Proofs.YtcpbmempfeloaaaDoor
open Go.RowKit Go.Shelf

/-- A sector's record of the first epoch. -/
def secRec (D : Dk) (i : Nat) : Option (Nat × Nat × List UInt8) := match parseP (D.seen.getD i []) with
  | some (s, 0, b) => some (i, s, b)
  | _ => none
def recsUpto (D : Dk) (k j : Nat) : List (Nat × Nat × List UInt8) := (List.range j).filterMap fun i => secRec D (k + i)
theorem recsUpto_succ (D : Dk) (k j : Nat) : recsUpto D k (j + 1) = recsUpto D k j ++ (secRec D (k + j)).toList := by
  unfold recsUpto
  rw [List.range_succ, List.filterMap_append]
  cases h : secRec D (k + j) <;> simp [h]

/-- A record as it is handed out. -/
structure SRec where
  at' : Nat
  seq : Nat
  a : Option Addr
  cap : Nat
  bs : List UInt8
def SRec.tup (x : SRec) : Nat × Nat × List UInt8 := (x.at', x.seq, x.bs)
def SRec.v (x : SRec) : Value := .slice x.a x.bs.length x.cap
def SRec.cells (x : SRec) : Array Value := #[.int .i64 (x.at' : Nat), .int .u32 (x.seq : Nat), .slice x.a x.bs.length x.cap]
def SRec.encs (x : SRec) : Array Value := #[.agg x.cells]
/-- Its bytes lie in memory that is new since n. -/
def SRec.lies (n : Nat) (x : SRec) (w : World) : Prop := BytesAt (New n) w (.slice x.a x.bs.length x.cap) x.bs ∧ x.seq < 4294967296 ∧ 0 < x.seq

theorem SRec.lies.fr {n : Nat} {x : SRec} {K : Nat → Obj → Prop} {w w' : World} (h : x.lies n w) (hf : Fr K w w') (hk : ∀ c o, New n c o → K c o) : x.lies n w' := ⟨h.1.fr (hf.mono hk), h.2⟩
theorem New.kc {n c : Nat} {o : Obj} (h : New n c o) : KC c o := by
  obtain ⟨_, cs, fz, rfl⟩ := h; rfl

theorem parseP_pos {l : List UInt8} {s p : Nat} {b : List UInt8} (h : parseP l = some (s, p, b)) : 0 < s ∧ s < 4294967296 ∧ p < 4294967296 ∧ b.length ≤ 43 := by
  unfold parseP at h
  split at h
  · rename_i hc
    cases h
    refine ⟨by omega, ofLE_take_lt _ 4, ofLE_take_lt _ 4, ?_⟩
    rw [List.length_take]; omega
  · cases h

attribute [local go_sem] Oper.semAt_some

set_option maxRecDepth 100000 in
set_option maxHeartbeats 1000000 in
theorem records_seq (n : Nat) (W0 : World) (B F : Nat → Prop) (bd : Nat) (D : Dk) (k bat bdk : Nat) (hd : Dsk W0 bd F D) (hFB : ∀ c, F c → B c) (hat : W0.cell? ⟨bat, 0, none⟩ = some (.int .i64 (k : Nat))) (hdk : W0.cell? ⟨bdk, 0, none⟩ = some (.pointer (some ⟨bd, 0, none⟩)))
    (hBa : B bat) (hBd : B bdk) (hB0 : B 0) (ht : TabOK W0) (hB : ∀ c, W0.heap.size ≤ c → B c) (hk : k + 1 < D.seen.length) :
    SeqW Fence.wide n Tryd.prog 127 #[.pointer (some ⟨bat, 0, none⟩), .pointer (some ⟨bdk, 0, none⟩)] SRec.encs (SRec.lies W0.heap.size) B (fun xs W => xs.map SRec.tup = recsUpto D k 2 ∧ ∀ x ∈ xs, x.lies W0.heap.size W) W0 := by
  intro l J W hW hJ hY h0
  have hbnd : k ≤ 511 := by have := hd.wf.max; have := hd.wf.len; omega
  refine callsIn_of_wp Tryd.func127 rfl trivial ?_ rfl
  simp only [Tryd.ntmps127, List.size_toArray, List.length_cons, List.length_nil, Nat.reduceAdd, Nat.reduceSub, Array.replicate_succ, Array.replicate_zero, List.push_toArray, List.append_toArray, List.nil_append, List.cons_append]
  have HAT := Lib.hid hat
  have HDK := Lib.hid hdk
  have ca := hW.cell (fun _ _ => trivial) hat
  have FW := Lib.hid hW
  have HJ := Lib.hid hJ
  have HY := Lib.hid hY
  have H0 := Lib.hid h0
  have HD := Lib.hid hd
  have HT := Lib.hid ht
  clear hat hdk hW hJ hY h0 hd ht
  gi_wp2
  gi_loopw [4] (fun i wr => ∃ (j : Nat) (xs : List SRec), j ≤ 2 ∧ i = .int .i64 ((k + j : Nat) : Int) ∧ J xs wr ∧ xs.map SRec.tup = recsUpto D k j ∧ (∀ x ∈ xs, x.lies W0.heap.size wr) ∧ Fr (fun c _ => B c) W0 wr) (fun i _ => k + 2 - (intOf i).toNat)
  case atStart => exact ⟨0, [], by omega, rfl, H0.out, rfl, (fun x hx => by cases hx), FW.out.mono fun _ _ _ => trivial⟩
  case round =>
    obtain ⟨j, xs, hj, rfl, hJx, hxs, hl, hf⟩ := hrel
    have HX := Lib.hid hxs
    have HL := Lib.hid hl
    have HF := Lib.hid hf
    have HJx := Lib.hid hJx
    have ca1 := hf.cell (fun _ _ => hBa) HAT.out
    have cd1 := hf.cell (fun _ _ => hBd) HDK.out
    clear hxs hl hf hJx ca H0 FW
    by_cases hlt : j < 2
    · gi_wp2
      have hm : k + j < D.seen.length := by omega
      refine ⟨trivial, (fun h => by cases h), (callsIn_wide.2 (read_in wr bd F D (k + j) _ (by omega) (HD.out.fr HF.out fun c _ _ h => hFB c h) hm)).mono ?_⟩
      rintro e w1 ⟨⟨a1, c1, rfl, b1⟩, f1⟩
      have hg : D.seen[k + j] = D.seen.getD (k + j) [] := by simp [List.getD, hm]
      rw [hg] at b1
      have hsr : Hid (secRec D (k + j) = match parseP (D.seen.getD (k + j) []) with | some (s, 0, b) => some (k + j, s, b) | _ => none) := rfl
      generalize D.seen.getD (k + j) [] = sec at b1 hsr
      have B1 := Lib.hid b1
      have F1 := Lib.hid (HF.out.trans (f1.mono (K' := fun c _ => B c) fun _ _ _ => trivial))
      have E1 := Lib.hid f1
      have HJ1 := Lib.hid (HJ.out _ _ _ HJx.out f1)
      clear b1 f1 hg
      gi_wp2
      refine ⟨trivial, (fun h => by cases h), (callsIn_wide.2 (parse_calls w1 _ sec B1.out (fun i hi => F1.out.cell (fun _ _ => hB0) (HT.out i hi)))).mono ?_⟩
      rintro e w2 ⟨(⟨hp, rfl⟩ | ⟨s, p, b, a2, c2, hp, rfl, b2⟩), f2⟩
      · have hsn : Hid (secRec D (k + j) = none) := by rw [hsr.out, hp]; rfl
        have F2 := Lib.hid (F1.out.trans (f2.mono (K' := fun c _ => B c) fun _ _ _ => trivial))
        have HL2 := Lib.hid (fun x hx => ((HL.out x hx).fr (E1.out.trans f2) (fun _ _ _ => trivial)))
        have HJ2 := Lib.hid (HJ.out _ _ _ HJ1.out f2)
        clear f2 hp hsr
        gi_wp2
        refine ⟨(fun _ h => by cases h), ?_⟩
        gi_wp2
        go_roundw
        case rel => exact ⟨j + 1, xs, by omega, by go_num, HJ2.out, by rw [recsUpto_succ, hsn.out, HX.out]; simp, HL2.out, F2.out⟩
        case measure => simp [intOf]; omega
      · obtain ⟨hs0, hs1, hp1, hb43⟩ := parseP_pos hp
        have F2 := Lib.hid (F1.out.trans (f2.mono (K' := fun c _ => B c) fun _ _ _ => trivial))
        have HL2 := Lib.hid (fun x hx => ((HL.out x hx).fr (E1.out.trans f2) (fun _ _ _ => trivial)))
        have HJ2 := Lib.hid (HJ.out _ _ _ HJ1.out f2)
        have hsz : W0.heap.size ≤ w1.heap.size := F1.out.size
        have B2 := Lib.hid (b2.mono (K' := New W0.heap.size) fun c o _ h => ⟨Nat.le_trans hsz h.1, h.2⟩)
        clear f2 b2
        by_cases hp0 : p = 0
        · subst hp0
          have hss : Hid (secRec D (k + j) = some (k + j, s, b)) := by rw [hsr.out, hp]; rfl
          clear hp hsr
          obtain ⟨fn, tmps, assign, body, hy, hR⟩ := HY.out xs ⟨k + j, s, a2, c2, b⟩ w2 HJ2.out ⟨B2.out, hs1, hs0⟩
          have HR := Lib.hid hR
          clear hR
          dsimp only [SRec.encs, SRec.cells] at hy
          simp only [Int.natCast_add] at hy
          gi_wp2
          refine ⟨(fun h => by cases h), HR.out.mono ?_⟩
          rintro e w3 ⟨rfl, hJ3, f3⟩
          have HJ3 := Lib.hid hJ3
          have F3 := Lib.hid (F2.out.trans f3)
          have HL3 : Hid (∀ x ∈ xs ++ [⟨k + j, s, a2, c2, b⟩], x.lies W0.heap.size w3) := fun x hx => by
            rcases List.mem_append.1 hx with h | h
            · exact (HL2.out x h).fr f3 fun c _ h => hB c h.1
            · rw [List.mem_singleton.1 h]
              exact SRec.lies.fr ⟨B2.out, hs1, hs0⟩ f3 fun c _ h => hB c h.1
          clear hJ3 f3 hy HR
          gi_wp2
          go_roundw
          case rel => exact ⟨j + 1, _, by omega, by go_num, HJ3.out, by rw [recsUpto_succ, hss.out, List.map_append, HX.out]; rfl, HL3.out, F3.out⟩
          case measure => simp [intOf]; omega
        · have hsn : Hid (secRec D (k + j) = none) := by
            rw [hsr.out, hp]
            cases p with
            | zero => exact absurd rfl hp0
            | succ p => rfl
          have hpz : ((p : Int) == 0) = false := by simp; omega
          clear hp hsr
          gi_wp2
          refine ⟨(fun _ h => by cases h), ?_⟩
          gi_wp2
          go_roundw
          case rel => exact ⟨j + 1, xs, by omega, by go_num, HJ2.out, by rw [recsUpto_succ, hsn.out, HX.out]; simp, HL2.out, F2.out⟩
          case measure => simp [intOf]; omega
    · gi_wp2
      go_end0
      exact ⟨⟨_, rfl⟩, xs, ⟨by rw [HX.out]; congr 1; omega, HL.out⟩, HJx.out⟩
end Go.Proofs.YtcpbmempfeloaaaDoor
/- Package slot: last. -/
namespace Go.Proofs.YtcpbmempfeloaaaDoor
open Go.RowKit Go.Shelf

theorem records_calls (w : World) (bd : Nat) (k : Nat) :
    Calls Tryd.prog 121 #[.pointer (some ⟨bd, 0, none⟩), .int .i64 (k : Nat)] w fun e w' => e = .returned (.func (.func 127) #[] #[.pointer (some ⟨w.heap.size + 1, 0, none⟩), .pointer (some ⟨w.heap.size, 0, none⟩)]) ∧ w' = (w.alloc (.cells #[.pointer (some ⟨bd, 0, none⟩)] 26)).alloc (.cells #[.int .i64 (k : Nat)] 3) := by
  go_enter Tryd.func121, Tryd.ntmps121
  go_wp2
  go_ret
  exact ⟨rfl, rfl⟩

def bestOf (z : SRec) (l : List SRec) : SRec := l.foldl (fun o x => if o.seq < x.seq then x else o) z
theorem bestOf_snoc (z : SRec) (l : List SRec) (x : SRec) : bestOf z (l ++ [x]) = if (bestOf z l).seq < x.seq then x else bestOf z l := by unfold bestOf; rw [List.foldl_append]; rfl
def noRec (k : Nat) : SRec := ⟨k + 1, 0, none, 0, []⟩
def lastOf (z : Nat × Nat × List UInt8) (l : List (Nat × Nat × List UInt8)) : Nat × Nat × List UInt8 := l.foldl (fun o x => if o.2.1 < x.2.1 then x else o) z
/-- The last record at a place: where, its number, its bytes. -/
def lastRec (D : Dk) (k : Nat) : Nat × Nat × List UInt8 := lastOf (k + 1, 0, []) (recsUpto D k 2)
theorem bestOf_tup (l : List SRec) : ∀ z : SRec, (bestOf z l).tup = lastOf z.tup (l.map SRec.tup) := by
  induction l with
  | nil => intro z; rfl
  | cons x l ih =>
    intro z
    show (bestOf (if z.seq < x.seq then x else z) l).tup = lastOf (if z.seq < x.seq then x.tup else z.tup) (l.map SRec.tup)
    rw [ih]
    split <;> rfl
theorem bestOf_mem (l : List SRec) : ∀ z : SRec, bestOf z l = z ∨ bestOf z l ∈ l := by
  induction l with
  | nil => intro z; exact .inl rfl
  | cons x l ih =>
    intro z
    show bestOf (if z.seq < x.seq then x else z) l = z ∨ bestOf (if z.seq < x.seq then x else z) l ∈ x :: l
    split
    · rcases ih x with h | h
      · exact .inr (by rw [h]; simp)
      · exact .inr (by simp [h])
    · rcases ih z with h | h
      · exact .inl h
      · exact .inr (by simp [h])

attribute [local go_sem] Oper.semAt_some

set_option maxRecDepth 100000 in
set_option maxHeartbeats 1000000 in
theorem last_calls (w : World) (bd : Nat) (F : Nat → Prop) (D : Dk) (k : Nat) (hd : Dsk w bd F D) (ht : TabOK w) (hk : k + 1 < D.seen.length) (hF : ∀ c, F c → c < w.heap.size) (h0 : 0 < w.heap.size) :
    Calls Tryd.prog 98 #[.pointer (some ⟨bd, 0, none⟩), .int .i64 (k : Nat)] w fun e w' => (∃ x : SRec, e = .returned (.agg x.cells) ∧ x.tup = lastRec D k ∧ BytesAt (New w.heap.size) w' x.v x.bs) ∧ Fr (fun _ _ => True) w w' := by
  have hbnd : k ≤ 511 := by have := hd.wf.max; have := hd.wf.len; omega
  refine (callsIn_wide (n := 3)).1 ?_
  refine callsIn_of_wp_marks Tryd.func98 rfl trivial ?_ rfl
  simp only [Tryd.ntmps98, List.size_toArray, List.length_cons, List.length_nil, Nat.reduceAdd, Nat.reduceSub, Array.replicate_succ, Array.replicate_zero, List.push_toArray, List.append_toArray, List.nil_append, List.cons_append]
  gi_wp2
  refine ⟨trivial, (callsIn_wide.2 (records_calls _ bd k)).mono ?_⟩
  rintro e w2 ⟨rfl, rfl⟩
  gi_wp2
  have hW0 : ∃ W0, ((((w.alloc (.cells #[.int .i64 0, .int .u32 0, .slice none 0 0] 160)).alloc (.cells #[.int .i64 ((k : Int) + 1), .int .u32 0, .slice none 0 0] 160)).alloc (.cells #[.pointer (some ⟨bd, 0, none⟩)] 26)).alloc (.cells #[.int .i64 (k : Nat)] 3)) = W0 := ⟨_, rfl⟩
  obtain ⟨W0, hW0⟩ := hW0
  have fW : Fr (fun _ _ => True) w W0 := by rw [← hW0]; exact ((((Fr.refl _ _).alloc _).alloc _).alloc _).alloc _
  have sW : W0.heap.size = w.heap.size + 4 := by rw [← hW0]; simp
  have t0 : W0.heap[w.heap.size]? = some (.cells #[.int .i64 0, .int .u32 0, .slice none 0 0] 160 (0, 0)) := by
    rw [← hW0]; exact heap_alloc_lt (heap_alloc_lt (heap_alloc_lt (heap_alloc_new w _) _) _) _
  have t1 : W0.heap[w.heap.size + 1]? = some (.cells #[.int .i64 ((k : Int) + 1), .int .u32 0, .slice none 0 0] 160 (0, 0)) := by
    rw [← hW0]; exact heap_alloc_lt (heap_alloc_lt (heap_alloc_at (by simp) _) _) _
  have t2 : W0.heap[w.heap.size + 1 + 1]? = some (.cells #[.pointer (some ⟨bd, 0, none⟩)] 26 (0, 0)) := by
    rw [← hW0]; exact heap_alloc_lt (heap_alloc_at (by simp) _) _
  have t3 : W0.heap[w.heap.size + 1 + 1 + 1]? = some (.cells #[.int .i64 (k : Nat)] 3 (0, 0)) := by
    rw [← hW0]; exact heap_alloc_at (by simp) _
  rw [hW0]
  have hlen : bd < w.heap.size := by obtain ⟨_, _, _, q, _⟩ := hd; exact lt_of_some q.top
  have hseq := records_seq 2 W0 (fun c => c ≠ w.heap.size + 1) F bd D k (w.heap.size + 1 + 1 + 1) (w.heap.size + 1 + 1) (hd.tt fW) (fun c h e => by have := hF c h; omega) (cell_mk t3 rfl) (cell_mk t2 rfl) (by omega) (by omega) (by omega) (ht.tt fW) (fun c h => by omega) hk
  have HT0 := Lib.hid t0
  have FW := Lib.hid fW
  have HSEQ := Lib.hid hseq
  have hI0 : Hid (W0.heap[w.heap.size + 1]? = some (.cells (bestOf (noRec k) []).cells 160 (0, 0))) := t1
  clear hseq hd ht t0 t1 t2 t3 fW hW0
  refine wpIn_range (F := Fence.wide) (n := 3) rfl (by omega) (gf := 127) (lb := #[.pointer (some ⟨w.heap.size + 1 + 1 + 1, 0, none⟩), .pointer (some ⟨w.heap.size + 1 + 1, 0, none⟩)]) rfl trivial (enters_of Tryd.func127 (by kernel_rfl) rfl) HSEQ.out (fun c h => by omega)
    (fun x A A' h hf => h.fr hf fun _ _ hn => hn.kc) (fun xs A A' h hf => ⟨h.1, fun x hx => (h.2 x hx).fr hf fun _ _ hn => hn.kc⟩) (fun _ => rfl)
    (fun pre W => W.heap[w.heap.size + 1]? = some (.cells (bestOf (noRec k) pre).cells 160 (0, 0))) (fun xs A A' h hf => hf.keep _ _ h rfl) hI0.out
    (fun x W a' W' => W' = W.alloc (.cells x.cells 160 (0, 0)) ∧ a' = { tmps := #[.pointer (some ⟨bd, 0, none⟩), .int .i64 (k : Nat), undef, undef, .pointer (some ⟨w.heap.size, 0, none⟩), .pointer (some ⟨w.heap.size + 1, 0, none⟩), .pointer (some ⟨W.heap.size, 0, none⟩), .int .i64 (k : Nat), .int .i64 ((k : Int) + 1), .agg #[.int .i64 ((k : Int) + 1), .int .u32 0, .slice none 0 0], .pointer (some ⟨bd, 0, none⟩), .int .i64 (k : Nat), .func (.func 127) #[] #[.pointer (some ⟨w.heap.size + 1 + 1 + 1, 0, none⟩), .pointer (some ⟨w.heap.size + 1 + 1, 0, none⟩)], .agg x.cells, undef, undef, undef, undef, undef, undef, undef], defers := [] }) ?assign ?body ?done
  case assign =>
    intro l x W K hK
    have HK := Lib.hid hK
    clear hK
    unfold SRec.encs SRec.cells
    gi_wp2
    exact HK.out _ _ ⟨rfl, rfl⟩ ((Fr.refl _ _).alloc _)
  case body =>
    rintro l pre x W a' W' Wb hfw hi hx ⟨rfl, rfl⟩ hfa hfb
    have u1 := hfb.keep _ _ (heap_alloc_lt hi _) rfl
    have u2 := hfb.keep _ _ (heap_alloc_new W (.cells x.cells 160 (0, 0))) rfl
    have hb := bestOf_snoc (noRec k) pre x
    generalize bestOf (noRec k) pre = o at u1 hb
    have HB := Lib.hid hb
    have hxs : x.seq < 4294967296 := hx.2.1
    clear hb hx hfa hi hfw
    unfold SRec.cells at u1 u2
    have ca0 : Wb.cell? ⟨w.heap.size + 1, 0, none⟩ = some (.int .i64 (o.at' : Nat)) := cell_mk u1 rfl
    have ca1 : Wb.cell? ⟨w.heap.size + 1, 1, none⟩ = some (.int .u32 (o.seq : Nat)) := cell_mk u1 rfl
    have ca2 : Wb.cell? ⟨w.heap.size + 1, 2, none⟩ = some (.slice o.a o.bs.length o.cap) := cell_mk u1 rfl
    have cb0 : Wb.cell? ⟨W.heap.size, 0, none⟩ = some (.int .i64 (x.at' : Nat)) := cell_mk u2 rfl
    have cb1 : Wb.cell? ⟨W.heap.size, 1, none⟩ = some (.int .u32 (x.seq : Nat)) := cell_mk u2 rfl
    have cb2 : Wb.cell? ⟨W.heap.size, 2, none⟩ = some (.slice x.a x.bs.length x.cap) := cell_mk u2 rfl
    have g0 := frozen_mk (i := 0) u1
    have g1 := frozen_mk (i := 1) u1
    have g2 := frozen_mk (i := 2) u1
    have U1 := Lib.hid u1
    clear u1 u2 hfb
    by_cases hlt : o.seq < x.seq
    · gi_wp2
      refine ⟨(((Fr.refl _ _).setCell (fun _ _ h => h rfl) _).setCell (fun _ _ h => h rfl) _).setCell (fun _ _ h => h rfl) _, ?_⟩
      show _ = some (Obj.cells (bestOf (noRec k) (pre ++ [x])).cells _ _)
      rw [HB.out, if_pos hlt]
      exact heap_setCell_same (heap_setCell_same (heap_setCell_same U1.out _) _) _
    · gi_wp2
      refine ⟨Fr.refl _ _, ?_⟩
      show _ = some (Obj.cells (bestOf (noRec k) (pre ++ [x])).cells _ _)
      rw [HB.out, if_neg hlt]
      exact U1.out
  case done =>
    rintro D' xs W hD hs hi hK hfr
    have u0 := hfr.keep _ _ HT0.out (by omega)
    have htp := bestOf_tup xs (noRec k)
    rw [hs.1] at htp
    have hmm : BytesAt (New W0.heap.size) W (bestOf (noRec k) xs).v (bestOf (noRec k) xs).bs := by
      rcases bestOf_mem xs (noRec k) with h | h
      · rw [h]; exact BytesAt.nil _ _
      · exact (hs.2 _ h).1
    generalize bestOf (noRec k) xs = o at hi htp hmm
    have HTP := Lib.hid htp
    have HMM := Lib.hid hmm
    have FR := Lib.hid hfr
    have HKK := Lib.hid hK
    unfold SRec.cells at hi
    have ca0 : W.cell? ⟨w.heap.size + 1, 0, none⟩ = some (.int .i64 (o.at' : Nat)) := cell_mk hi rfl
    have ca1 : W.cell? ⟨w.heap.size + 1, 1, none⟩ = some (.int .u32 (o.seq : Nat)) := cell_mk hi rfl
    have ca2 : W.cell? ⟨w.heap.size + 1, 2, none⟩ = some (.slice o.a o.bs.length o.cap) := cell_mk hi rfl
    have cb0 : W.cell? ⟨w.heap.size, 0, none⟩ = some (.int .i64 0) := cell_mk u0 rfl
    have cb1 : W.cell? ⟨w.heap.size, 1, none⟩ = some (.int .u32 0) := cell_mk u0 rfl
    have cb2 : W.cell? ⟨w.heap.size, 2, none⟩ = some (.slice none 0 0) := cell_mk u0 rfl
    have g0 := frozen_mk (i := 0) u0
    have g1 := frozen_mk (i := 1) u0
    have g2 := frozen_mk (i := 2) u0
    have U0 := Lib.hid u0
    clear hs hi hfr u0 htp hmm hK
    gi_wp2
    have v2 := heap_setCell_same (o := 2) (heap_setCell_same (o := 1) (heap_setCell_same (o := 0) U0.out (.int .i64 (o.at' : Nat))) (.int .u32 (o.seq : Nat))) (.slice o.a o.bs.length o.cap)
    have hfq : Fr (fun c _ => c ≠ w.heap.size) W (((W.setCell ⟨w.heap.size, 0, none⟩ (.int .i64 (o.at' : Nat))).setCell ⟨w.heap.size, 1, none⟩ (.int .u32 (o.seq : Nat))).setCell ⟨w.heap.size, 2, none⟩ (.slice o.a o.bs.length o.cap)) := (((Fr.refl _ _).setCell (fun _ _ h => h rfl) _).setCell (fun _ _ h => h rfl) _).setCell (fun _ _ h => h rfl) _
    generalize ((W.setCell ⟨w.heap.size, 0, none⟩ (.int .i64 (o.at' : Nat))).setCell ⟨w.heap.size, 1, none⟩ (.int .u32 (o.seq : Nat))).setCell ⟨w.heap.size, 2, none⟩ (.slice o.a o.bs.length o.cap) = Wz at v2 hfq ⊢
    have hKz := hfq.keep _ _ HKK.out (by omega)
    have v3 : (Wz.putObj D' (.deferred none)).heap[w.heap.size]? = _ := (World.putObj_heap_other (by omega)).trans v2
    have hfz : Fr (fun c _ => c ≠ w.heap.size ∧ c ≠ D') W (Wz.putObj D' (.deferred none)) := (hfq.mono fun _ _ h => h.1).putObj (fun _ _ h => h.2 rfl) _
    have hfall : Fr (fun _ _ => True) w (Wz.putObj D' (.deferred none)) := by
      refine ⟨hfz.os.trans (FR.out.os.trans FW.out.os), hfz.tape.trans (FR.out.tape.trans FW.out.tape), hfz.output.trans (FR.out.output.trans FW.out.output), Nat.le_trans FW.out.size (Nat.le_trans FR.out.size hfz.size), fun b x hb _ => ?_⟩
      have hlt := lt_of_some hb
      exact hfz.keep b x (FR.out.keep b x (FW.out.keep b x hb trivial) (by omega)) ⟨by omega, by omega⟩
    refine ⟨by simp, .inl ⟨_, _, rfl, run_takeDeferred hKz, ?_⟩⟩
    have hsz2 := FW.out.size
    have hfk : Fr (fun c x => c ≠ w.heap.size ∧ KC c x) W (Wz.putObj D' (.deferred none)) := (hfq.mono fun _ _ h => h.1).putObj (fun x hx h => by rw [HKK.out] at hx; cases hx; cases h.2) _
    have hby := (HMM.out.fr (hfk.mono fun c x h => ⟨by have := h.1; omega, h.kc⟩)).mono (K' := New w.heap.size) fun c _ _ h => ⟨by have := h.1; omega, h.2⟩
    exact ⟨_, results_cell_row rfl _ _ _ _ _ _ _ rfl v3 Tryd.underlying160 rfl rfl, ⟨o, rfl, HTP.out, hby⟩, hfall⟩
end Go.Proofs.YtcpbmempfeloaaaDoor
/- Package slot: right, Load. -/
namespace Go.Proofs.YtcpbmempfeloaaaDoor
open Go.RowKit

theorem Dsk.inside {w : World} {bd : Nat} {F : Nat → Prop} {D : Dk} (h : Dsk w bd F D) : Dsk w bd (fun c => F c ∧ c < w.heap.size) D := by
  obtain ⟨vs, vu, vp, h, h1, h2, h3, h4⟩ := h
  refine ⟨vs, vu, vp, h, ⟨h1, lt_of_some h.top⟩, fun c e => ⟨h2 c e, ?_⟩, fun c e => ⟨h3 c e, ?_⟩, fun c e => ⟨h4 c e, ?_⟩⟩
  · obtain ⟨_, q⟩ := own_tag h.seen e; exact lt_of_some q
  · obtain ⟨_, q⟩ := own_tag h.sure e; exact lt_of_some q
  · obtain ⟨_, q⟩ := own_tag h.pend e; exact lt_of_some q
theorem last_any (w : World) (bd : Nat) (F : Nat → Prop) (D : Dk) (k : Nat) (z : Int) (hz : z = k) (hd : Dsk w bd F D) (ht : TabOK w) (hk : k + 1 < D.sure.length) :
    Calls Tryd.prog 98 #[.pointer (some ⟨bd, 0, none⟩), .int .i64 z] w fun e w' => (∃ x : SRec, e = .returned (.agg x.cells) ∧ x.tup = lastRec D k ∧ BytesAt (New w.heap.size) w' x.v x.bs) ∧ Fr (fun _ _ => True) w w' := by
  subst hz
  have h0 : 0 < w.heap.size := by have := cell_lt (ht 0 (by decide)); simpa using this
  exact last_calls w bd _ D k hd.inside ht (by have := hd.wf.len; omega) (fun c h => h.2) h0

/-- Both sectors are there. -/
def Dk.right (D : Dk) (i : Int) : Bool := decide (0 ≤ i ∧ i < (D.sure.length : Int) - 1)

set_option maxRecDepth 100000 in
theorem right_calls (w : World) (bd : Nat) (F : Nat → Prop) (D : Dk) (i : Int) (h : Dsk w bd F D) :
    Calls Tryd.prog 97 #[.pointer (some ⟨bd, 0, none⟩), .int .i64 i] w fun e w' => e = .returned (.bool (D.right i)) ∧ w = w' := by
  have hl := len_calls w bd F D h
  have HL := Lib.hid hl
  have hm := h.wf.max
  have h1 := h.wf.one
  clear h hl
  by_cases h0 : 0 ≤ i
  · have e1 : D.right i = decide (i < (D.sure.length : Int) - 1) := by simp [Dk.right, h0]
    have E1 := Lib.hid e1
    clear e1
    go_enter Tryd.func97, Tryd.ntmps97
    go_wp2_with fail
    (with_reducible refine HL.out.mono ?_)
    rintro e w1 ⟨rfl, rfl⟩
    go_wp2
    go_ret
    exact ⟨by rw [E1.out]; rfl, rfl⟩
  · have e1 : D.right i = false := by simp [Dk.right, h0]
    have E1 := Lib.hid e1
    have d0 : decide (0 ≤ i) = false := by simp [h0]
    clear e1
    go_enter Tryd.func97, Tryd.ntmps97
    go_wp2
    go_ret
    exact ⟨by rw [E1.out]; rfl, rfl⟩

/-- What Load answers. -/
def loadM (D : Dk) (i : Int) : List UInt8 × Nat × Int :=
  if D.right i then (if (lastRec D i.toNat).2.1 = 0 then ([], 0, 41) else ((lastRec D i.toNat).2.2, (lastRec D i.toNat).2.1, 0)) else ([], 0, 40)
theorem right_nat {D : Dk} {i : Int} (h : D.right i = true) : ∃ k : Nat, i = k ∧ k + 1 < D.sure.length := by
  have h := of_decide_eq_true h
  exact ⟨i.toNat, by omega, by omega⟩

set_option maxRecDepth 100000 in
theorem load_calls (w : World) (bd : Nat) (F : Nat → Prop) (D : Dk) (i : Int) (h : Dsk w bd F D) (ht : TabOK w) (b : List UInt8) (s : Nat) (c : Int) (hr : loadM D i = (b, s, c)) :
    Calls Tryd.prog 55 #[.pointer (some ⟨bd, 0, none⟩), .int .i64 i] w fun e w' => (∃ a cap, e = .returned (.tuple #[.slice a b.length cap, .int .u32 (s : Nat), .int .i64 c]) ∧ BytesAt (New w.heap.size) w' (.slice a b.length cap) b) ∧ Fr (fun _ _ => True) w w' := by
  have hrc := right_calls w bd F D i h
  unfold loadM at hr
  cases hq : D.right i with
  | false =>
    rw [hq] at hrc hr
    cases hr
    have HR := Lib.hid hrc
    clear hrc h ht hq
    go_enter Tryd.func55, Tryd.ntmps55
    go_wp2_with fail
    (with_reducible refine HR.out.mono ?_)
    rintro e w1 ⟨rfl, rfl⟩
    go_wp2
    go_ret3
    exact ⟨⟨_, _, rfl, BytesAt.nil _ _⟩, Fr.refl _ _⟩
  | true =>
    rw [hq, if_pos rfl] at hr
    rw [hq] at hrc
    obtain ⟨k, rfl, hk⟩ := right_nat hq
    have hla := last_any w bd F D k k rfl h ht hk
    rw [Int.toNat_natCast] at hr
    generalize lastRec D k = r at hr hla
    have HR := Lib.hid hrc
    have HL := Lib.hid hla
    have HE := Lib.hid hr
    clear hrc hla h ht hq hr
    go_enter Tryd.func55, Tryd.ntmps55
    go_wp2_with fail
    (with_reducible refine HR.out.mono ?_)
    rintro e w1 ⟨rfl, rfl⟩
    go_wp2_with fail
    (with_reducible refine HL.out.mono ?_)
    rintro e w2 ⟨⟨x, rfl, hx, b2⟩, f2⟩
    subst hx
    have he : (if x.seq = 0 then (([] : List UInt8), (0 : Nat), (41 : Int)) else (x.bs, x.seq, 0)) = (b, s, c) := HE.out
    have F2 := Lib.hid f2
    have B2 := Lib.hid b2
    unfold SRec.cells
    by_cases h0 : x.seq = 0
    · rw [if_pos h0] at he
      cases he
      clear f2 b2 HE
      have h0' : ((x.seq : Nat) : Int) = 0 := by omega
      go_wp2
      go_ret3
      exact ⟨⟨_, _, rfl, BytesAt.nil _ _⟩, F2.out.alloc _⟩
    · rw [if_neg h0] at he
      cases he
      clear f2 b2 HE
      have h0' : ¬ ((x.seq : Nat) : Int) = 0 := by omega
      go_wp2
      go_region
      all_goals
        go_wp2
        go_ret3
        exact ⟨⟨_, _, rfl, B2.out.tt ((Fr.refl _ _).alloc _).drew⟩, (F2.out.alloc _).drew⟩
end Go.Proofs.YtcpbmempfeloaaaDoor
/- Package slot: Put, Save. -/
namespace Go.Proofs.YtcpbmempfeloaaaDoor
open Go.RowKit

theorem lastOf_mem (l : List (Nat × Nat × List UInt8)) : ∀ z, lastOf z l = z ∨ lastOf z l ∈ l := by
  induction l with
  | nil => intro z; exact .inl rfl
  | cons x l ih =>
    intro z
    show lastOf (if z.2.1 < x.2.1 then x else z) l = z ∨ lastOf (if z.2.1 < x.2.1 then x else z) l ∈ x :: l
    split
    · rcases ih x with h | h
      · exact .inr (by rw [h]; simp)
      · exact .inr (by simp [h])
    · rcases ih z with h | h
      · exact .inl h
      · exact .inr (by simp [h])
theorem secRec_some {D : Dk} {i : Nat} {x : Nat × Nat × List UInt8} (h : secRec D i = some x) : parseP (D.seen.getD i []) = some (x.2.1, 0, x.2.2) ∧ x.1 = i := by
  unfold secRec at h
  split at h
  · rename_i s b hp
    cases h
    exact ⟨hp, rfl⟩
  · cases h
theorem lastRec_form (D : Dk) (k : Nat) : lastRec D k = (k + 1, 0, []) ∨ ∃ i, i < 2 ∧ secRec D (k + i) = some (lastRec D k) := by
  rcases lastOf_mem (recsUpto D k 2) (k + 1, 0, []) with h | h
  · exact .inl h
  · obtain ⟨i, hi, hs⟩ := List.mem_filterMap.1 h
    exact .inr ⟨i, List.mem_range.1 hi, hs⟩
theorem lastRec_bound (D : Dk) (k : Nat) : (lastRec D k).2.1 < 4294967296 ∧ (lastRec D k).2.2.length ≤ 43 ∧ k ≤ (lastRec D k).1 ∧ (lastRec D k).1 ≤ k + 1 := by
  rcases lastRec_form D k with h | ⟨i, hi, h⟩
  · rw [h]; simp
  · obtain ⟨h1, h2⟩ := secRec_some h
    obtain ⟨_, h3, _, h4⟩ := parseP_pos h1
    exact ⟨h3, h4, by omega, by omega⟩

/-- What Put answers, and leaves. -/
def putM (D : Dk) (i : Int) (b : List UInt8) : Int × Dk :=
  if D.right i then (if 43 < b.length then (2, D) else if (lastRec D i.toNat).2.1 = 4294967295 then (42, D) else D.sync.write (2 * i + 1 - (lastRec D i.toNat).1) (stampB ((lastRec D i.toNat).2.1 + 1) 0 b)) else (40, D)

theorem pend_sync (D : Dk) : D.sync.pend.length ≤ D.pend.length := by
  unfold Dk.sync
  split
  · exact Nat.le_refl _
  · exact Nat.zero_le _

theorem stamp_any {K : Nat → Obj → Prop} (w : World) (s : Nat) (z y : Int) (hz : z = s) (hy : y = 0) (v : Value) (b : List UInt8) (hb : BytesAt K w v b) (ht : TabOK w) (hs : s < 4294967296) :
    Calls Tryd.prog 50 #[.int .u32 z, .int .u32 y, v] w fun e w' =>
      ((43 < b.length ∧ e = .returned (.tuple #[.slice none 0 0, .int .i64 2])) ∨ (b.length ≤ 43 ∧ ∃ a' cap', e = .returned (.tuple #[.slice a' 64 cap', .int .i64 0]) ∧ BytesAt (New w.heap.size) w' (.slice a' 64 cap') (stampB s 0 b))) ∧ Fr (fun _ _ => True) w w' := by
  subst hz; subst hy
  refine (stamp_calls w s 0 v b hb ht hs (by decide)).mono fun e w' ⟨h, hf⟩ => ⟨?_, hf⟩
  split at h
  · exact .inl ⟨by assumption, h⟩
  · exact .inr ⟨by omega, h⟩

set_option maxRecDepth 100000 in
set_option maxHeartbeats 1000000 in
theorem put_calls {K : Nat → Obj → Prop} (w : World) (bd : Nat) (F : Nat → Prop) (D : Dk) (i : Int) (v : Value) (b : List UInt8) (h : Dsk w bd F D) (hb : BytesAt K w v b) (ht : TabOK w) (hq : D.pend.length < 1000000) :
    Calls Tryd.prog 123 #[.pointer (some ⟨bd, 0, none⟩), .int .i64 i, v] w fun e w' => e = .returned (.int .i64 (putM D i b).1) ∧ Dsk w' bd (fun c => F c ∨ w.heap.size ≤ c) (putM D i b).2 ∧ Fr (fun c _ => ¬ F c) w w' := by
  obtain ⟨va, vc, rfl⟩ := hb.form
  have hrc := right_calls w bd F D i h
  cases hr : D.right i with
  | false =>
    rw [hr] at hrc
    have e1 : putM D i b = (40, D) := by unfold putM; rw [hr]; rfl
    have E1 := Lib.hid e1
    have HR := Lib.hid hrc
    have HD := Lib.hid h
    clear hrc h hb ht hq hr e1
    go_enter Tryd.func123, Tryd.ntmps123
    go_wp2_with fail
    (with_reducible refine HR.out.mono ?_)
    rintro e w1 ⟨rfl, rfl⟩
    go_wp2
    go_ret
    rw [E1.out]
    exact ⟨rfl, HD.out.wide _, Fr.refl _ _⟩
  | true =>
    rw [hr] at hrc
    obtain ⟨k, rfl, hk⟩ := right_nat hr
    have e1 : putM D k b = (if 43 < b.length then (2, D) else if (lastRec D k).2.1 = 4294967295 then (42, D) else D.sync.write (2 * k + 1 - (lastRec D k).1) (stampB ((lastRec D k).2.1 + 1) 0 b)) := by
      unfold putM; rw [hr, if_pos rfl, Int.toNat_natCast]
    have hla := last_any w bd F D k k rfl h ht hk
    obtain ⟨hb1, hb2, hb3, hb4⟩ := lastRec_bound D k
    have hkm : k ≤ 511 := by have := h.wf.max; omega
    generalize lastRec D k = r at e1 hla hb1 hb2 hb3 hb4
    have E1 := Lib.hid e1
    have HR := Lib.hid hrc
    have HL := Lib.hid hla
    have HD := Lib.hid h
    have HB := Lib.hid hb
    have HT := Lib.hid ht
    clear hrc h hb ht hr e1 hla
    go_enter Tryd.func123, Tryd.ntmps123
    go_wp2_with fail
    (with_reducible refine HR.out.mono ?_)
    rintro e w1 ⟨rfl, rfl⟩
    go_wp2_with fail
    (with_reducible refine HL.out.mono ?_)
    rintro e w2 ⟨⟨x, rfl, hx, b2⟩, f2⟩
    subst hx
    have E2 : Hid (putM D k b = (if 43 < b.length then (2, D) else if x.seq = 4294967295 then (42, D) else D.sync.write (2 * k + 1 - x.at') (stampB (x.seq + 1) 0 b))) := E1.out
    have hs1 : x.seq < 4294967296 := hb1
    have hs2 : k ≤ x.at' := hb3
    have hs3 : x.at' ≤ k + 1 := hb4
    have F2 := Lib.hid f2
    clear f2 b2 E1 hb1 hb2 hb3 hb4
    unfold SRec.cells
    have F3 := Lib.hid (F2.out.alloc (.cells #[.int .i64 (x.at' : Nat), .int .u32 (x.seq : Nat), .slice x.a x.bs.length x.cap] 160 (0, 0)))
    have T3 := Lib.hid (heap_alloc_new w2 (.cells #[.int .i64 (x.at' : Nat), .int .u32 (x.seq : Nat), .slice x.a x.bs.length x.cap] 160 (0, 0)))
    have hw2 : w.heap.size ≤ w2.heap.size := F2.out.size
    have hTW : Hid (TabOK (w2.alloc (.cells #[.int .i64 (x.at' : Nat), .int .u32 (x.seq : Nat), .slice x.a x.bs.length x.cap] 160 (0, 0)))) := HT.out.tt F3.out
    have HBW := Lib.hid (HB.out.tt F3.out)
    have hsl : (w2.alloc (.cells #[.int .i64 (x.at' : Nat), .int .u32 (x.seq : Nat), .slice x.a x.bs.length x.cap] 160 (0, 0))).heap.size = w2.heap.size + 1 := by simp
    have HSL := Lib.hid hsl
    clear hsl HB HT
    generalize hseq : ((x.seq : Nat) : Int) = zq at F3 T3 hTW HBW HSL ⊢
    have hz0 : 0 ≤ zq := by omega
    have hz1 : zq < 4294967296 := by omega
    have HSQ := Lib.hid hseq
    clear hseq
    by_cases hmax : zq = 4294967295
    · subst hmax
      go_wp2_with fail
      (with_reducible refine (stamp_any _ 0 _ _ (by simp) (by rfl) _ b HBW.out hTW.out (by decide)).mono ?_)
      rintro e w4 ⟨(⟨hbl, rfl⟩ | ⟨hbl, a4, c4, rfl, b4⟩), f4⟩
      · have e2 := E2.out
        rw [if_pos hbl] at e2
        have EE := Lib.hid e2
        have F4 := Lib.hid (F3.out.trans f4)
        clear f4 e2 E2
        go_wp2
        go_ret
        rw [EE.out]
        exact ⟨rfl, (HD.out.tt F4.out).wide _, F4.out.mono fun _ _ _ => trivial⟩
      · have e2 := E2.out
        rw [if_neg (by omega), if_pos (by have := HSQ.out; omega)] at e2
        have EE := Lib.hid e2
        have F4 := Lib.hid (F3.out.trans f4)
        have t4 := f4.keep _ _ T3.out trivial
        have c41 : w4.cell? ⟨w2.heap.size, 1, none⟩ = some (.int .u32 4294967295) := cell_mk t4 rfl
        clear f4 e2 E2 t4 b4
        go_wp2
        go_ret
        rw [EE.out]
        exact ⟨rfl, (HD.out.tt F4.out).wide _, F4.out.mono fun _ _ _ => trivial⟩
    · go_wp2_with fail
      (with_reducible refine (stamp_any _ (x.seq + 1) _ _ (by have := HSQ.out; omega) (by rfl) _ b HBW.out hTW.out (by have := HSQ.out; omega)).mono ?_)
      rintro e w4 ⟨(⟨hbl, rfl⟩ | ⟨hbl, a4, c4, rfl, b4⟩), f4⟩
      · have e2 := E2.out
        rw [if_pos hbl] at e2
        have EE := Lib.hid e2
        have F4 := Lib.hid (F3.out.trans f4)
        clear f4 e2 E2
        go_wp2
        go_ret
        rw [EE.out]
        exact ⟨rfl, (HD.out.tt F4.out).wide _, F4.out.mono fun _ _ _ => trivial⟩
      · have e2 := E2.out
        rw [if_neg (by omega), if_neg (by have := HSQ.out; omega)] at e2
        have EE := Lib.hid e2
        have F4 := Lib.hid (F3.out.trans f4)
        have t4 := f4.keep _ _ T3.out trivial
        have c40 : w4.cell? ⟨w2.heap.size, 0, none⟩ = some (.int .i64 (x.at' : Nat)) := cell_mk t4 rfl
        have c41 : w4.cell? ⟨w2.heap.size, 1, none⟩ = some (.int .u32 zq) := cell_mk t4 rfl
        have D4 := Lib.hid (HD.out.inside.tt F4.out)
        have hs4 : w2.heap.size + 1 ≤ w4.heap.size := by have := f4.size; have := HSL.out; omega
        have B4 : Hid (BytesAt (fun c _ => w.heap.size ≤ c ∧ c < w4.heap.size) w4 (.slice a4 64 c4) (stampB (x.seq + 1) 0 b)) := b4.mono fun c o ho h => ⟨by have := h.1; have := HSL.out; omega, lt_of_some ho⟩
        have T4 := Lib.hid t4
        clear f4 e2 E2 t4 b4
        go_wp2_with fail
        (with_reducible refine (sync_calls w4 bd _ D D4.out).mono ?_)
        rintro e w5 ⟨rfl, d5, f5⟩
        have t5 := f5.keep _ _ T4.out (by intro h; have := h.2; omega)
        have c50 : w5.cell? ⟨w2.heap.size, 0, none⟩ = some (.int .i64 (x.at' : Nat)) := cell_mk t5 rfl
        have B5 := Lib.hid (B4.out.fr (f5.mono fun c _ h hc => by have := h.1; have := hc.2; omega))
        have F5 := Lib.hid f5
        have D5 := Lib.hid d5
        have hq5 : D.sync.pend.length < 1000000 := Nat.lt_of_le_of_lt (pend_sync D) hq
        clear f5 d5 t5
        go_wp2_with fail
        have hap : Hid (∀ c o, w5.heap[c]? = some o → (w.heap.size ≤ c ∧ c < w4.heap.size) → ¬ ((F c ∧ c < w.heap.size) ∨ w4.heap.size ≤ c)) := by
          intro c o _ h1 h2
          rcases h2 with h2 | h2 <;> omega
        (with_reducible refine (write_calls w5 bd _ D.sync _ _ _ D5.out B5.out hap.out hq5).mono ?_)
        rintro e w6 ⟨rfl, d6, f6⟩
        have D6 := Lib.hid d6
        have F6 := Lib.hid f6
        clear d6 f6
        go_wp2
        go_ret
        rw [EE.out]
        have hs5 := F5.out.size
        refine ⟨rfl, D6.out.mono fun c h => ?_, Fr.within ?_⟩
        · rcases h with (h | h) | h
          · exact .inl h.1
          · exact .inr (by omega)
          · exact .inr (by omega)
        · exact ((F4.out.mono fun _ _ _ => trivial).trans (F5.out.mono fun c _ h hc => h.1 hc.1)).trans (F6.out.mono fun c _ h hc => by
            rcases hc with hc | hc
            · exact h.1 hc.1
            · have := h.2; omega)

/-- What Save answers, and leaves. -/
def saveM (D : Dk) (i : Int) (b : List UInt8) : Int × Dk :=
  if (putM D i b).1 = 0 then (if (putM D i b).2.sync.down then 43 else 0, (putM D i b).2.sync) else putM D i b

set_option maxRecDepth 100000 in
theorem save_calls {K : Nat → Obj → Prop} (w : World) (bd : Nat) (F : Nat → Prop) (D : Dk) (i : Int) (v : Value) (b : List UInt8) (h : Dsk w bd F D) (hb : BytesAt K w v b) (ht : TabOK w) (hq : D.pend.length < 1000000) :
    Calls Tryd.prog 104 #[.pointer (some ⟨bd, 0, none⟩), .int .i64 i, v] w fun e w' => e = .returned (.int .i64 (saveM D i b).1) ∧ Dsk w' bd (fun c => F c ∨ w.heap.size ≤ c) (saveM D i b).2 ∧ Fr (fun c _ => ¬ F c) w w' := by
  have hp := put_calls w bd F D i v b h hb ht hq
  obtain ⟨va, vc, rfl⟩ := hb.form
  have hsv : Hid (saveM D i b = if (putM D i b).1 = 0 then (if (putM D i b).2.sync.down then 43 else 0, (putM D i b).2.sync) else putM D i b) := rfl
  generalize saveM D i b = r at hsv ⊢
  generalize putM D i b = p at hp hsv
  obtain ⟨c, D1⟩ := p
  have HP := Lib.hid hp
  clear hp h hb ht
  by_cases hc : c = 0
  · subst hc
    go_enter Tryd.func104, Tryd.ntmps104
    go_wp2_with fail
    (with_reducible refine HP.out.mono ?_)
    rintro e w1 ⟨rfl, d1, f1⟩
    have D1' := Lib.hid d1.inside
    have F1 := Lib.hid f1
    clear d1 f1
    go_wp2_with fail
    (with_reducible refine (sync_calls w1 bd _ D1 D1'.out).mono ?_)
    rintro e w2 ⟨rfl, d2, f2⟩
    have hdn := down_calls w2 bd _ D1.sync d2
    have DD := Lib.hid hdn
    have D2 : Hid (Dsk w2 bd (fun c => F c ∨ w.heap.size ≤ c) D1.sync) := d2.mono fun c hc => by
      rcases hc with hc | hc
      · exact hc.1
      · exact .inr (Nat.le_trans F1.out.size hc)
    have F2 : Hid (Fr (fun c _ => ¬ F c) w w2) := Fr.within ((F1.out.mono fun _ _ h => h.1).trans (f2.mono fun c _ h hc => by
      rcases hc.1 with hc | hc
      · exact h.1 hc
      · have := h.2; omega))
    clear d2 f2 hdn
    cases hdw : D1.sync.down with
    | true =>
      have e1 := hsv.out
      simp only [hdw, if_pos] at e1
      rw [hdw] at DD
      clear hdw
      have E1 := Lib.hid e1
      clear e1 hsv
      go_wp2_with fail
      (with_reducible refine DD.out.mono ?_)
      rintro e w3 ⟨rfl, rfl⟩
      go_wp2
      go_ret
      rw [E1.out]
      exact ⟨rfl, D2.out, F2.out⟩
    | false =>
      have e1 := hsv.out
      simp only [hdw, if_pos] at e1
      rw [hdw] at DD
      clear hdw
      have E1 := Lib.hid e1
      clear e1 hsv
      go_wp2_with fail
      (with_reducible refine DD.out.mono ?_)
      rintro e w3 ⟨rfl, rfl⟩
      go_wp2
      go_ret
      rw [E1.out]
      exact ⟨rfl, D2.out, F2.out⟩
  · have e1 : r = (c, D1) := by rw [hsv.out, if_neg hc]
    have E1 := Lib.hid e1
    clear e1 hsv
    go_enter Tryd.func104, Tryd.ntmps104
    go_wp2_with fail
    (with_reducible refine HP.out.mono ?_)
    rintro e w1 ⟨rfl, d1, f1⟩
    have D1' := Lib.hid d1
    have F1 := Lib.hid f1
    clear d1 f1
    go_wp2
    go_ret
    rw [E1.out]
    exact ⟨rfl, D1'.out, F1.out⟩
end Go.Proofs.YtcpbmempfeloaaaDoor
/- Disks, plainly: what stays true of one, whatever is done. -/
namespace Go.Proofs.YtcpbmempfeloaaaDoor
open Go.RowKit

structure Dk.good (D : Dk) : Prop where
  ok : D.ok
  seen : D.seen = laySure D.sure D.pend

theorem Dk.new_good (n : Nat) (h1 : 1 ≤ n) (h2 : n ≤ 512) : (Dk.new n).good := ⟨Dk.new_ok n h1 h2, rfl⟩
theorem Dk.good.fuse {D : Dk} (h : D.good) (n : Int) (h0 : -9223372036854775808 ≤ n) (h1 : n ≤ 9223372036854775807) : ({ D with fuse := n } : Dk).good := ⟨{ h.ok with lo := h0, hi := h1 }, h.seen⟩
theorem Dk.good.burn {D : Dk} (h : D.good) : D.burn.good := by
  refine ⟨{ h.ok with lo := ?_, hi := ?_ }, h.seen⟩
  · have := h.ok.lo; have := h.ok.hi; show _ ≤ D.fuse - min 1 (max 0 D.fuse); omega
  · have := h.ok.lo; have := h.ok.hi; show D.fuse - min 1 (max 0 D.fuse) ≤ _; omega
theorem mem_set64 {l : List (List UInt8)} {k : Nat} {x : List UInt8} (h : ∀ y ∈ l, y.length = 64) (hx : x.length = 64) : ∀ y ∈ l.set k x, y.length = 64 := fun y hy => by
  rcases List.mem_or_eq_of_mem_set hy with h1 | h1
  · exact h y h1
  · exact h1 ▸ hx
theorem Dk.good.put {D : Dk} (h : D.good) (k : Nat) (x : List UInt8) (hk : k < D.sure.length) (hx : x.length = 64) (hq : D.pend.length < 1000000) : (D.put k x).good := by
  have hb := h.burn
  refine ⟨{ hb.ok with len := ?_, s64 := ?_, p64 := ?_, few := ?_ }, ?_⟩
  · show (D.seen.set k x).length = D.sure.length
    rw [List.length_set]; exact h.ok.len
  · exact mem_set64 h.ok.s64 hx
  · intro y hy
    have hy' : y ∈ D.pend ++ [(k, x)] := hy
    rcases List.mem_append.1 hy' with h1 | h1
    · exact h.ok.p64 y h1
    · rw [List.mem_singleton.1 h1]; exact ⟨hk, hx⟩
  · show (D.pend ++ [(k, x)]).length ≤ _
    rw [List.length_append]; simp; omega
  · show D.seen.set k x = laySure D.sure (D.pend ++ [(k, x)])
    rw [laySure_snoc, ← h.seen]
theorem Dk.good.sync {D : Dk} (h : D.good) : D.sync.good := by
  unfold Dk.sync
  split
  · exact h.burn
  · refine ⟨{ h.burn.ok with len := ?_, one := ?_, max := ?_, u64 := ?_, p64 := ?_, few := ?_ }, h.seen⟩
    · show D.seen.length = (laySure D.sure D.pend).length
      rw [laySure_length]; exact h.ok.len
    · show 1 ≤ (laySure D.sure D.pend).length
      rw [laySure_length]; exact h.ok.one
    · show (laySure D.sure D.pend).length ≤ 512
      rw [laySure_length]; exact h.ok.max
    · exact laySure_64 D.pend D.sure h.ok.u64 fun x hx => (h.ok.p64 x hx).2
    · intro x hx; cases hx
    · exact Nat.zero_le _
theorem foldTorn_64 (zs : List Int) (l : List ((Nat × List UInt8) × Nat)) : ∀ s : List (List UInt8), (∀ x ∈ s, x.length = 64) → (∀ x ∈ l, x.1.1 < s.length ∧ x.1.2.length = 64) → ∀ x ∈ l.foldl (tornAt zs) s, x.length = 64 := by
  induction l with
  | nil => intro s h _; exact h
  | cons y l ih =>
    intro s h hl
    have hy := hl y (by simp)
    refine ih (tornAt zs s y) ?_ fun x hx => ?_
    · refine mem_set64 h (tear_64 _ _ _ hy.2 ?_)
      rw [List.getD_eq_getElem?_getD, List.getElem?_eq_getElem hy.1]
      exact h _ (List.getElem_mem hy.1)
    · rw [show (tornAt zs s y).length = s.length from by simp [tornAt]]
      exact hl x (by simp [hx])
theorem layTorn_64 (zs : List Int) (s : List (List UInt8)) (l : List (Nat × List UInt8)) (h : ∀ x ∈ s, x.length = 64) (hl : ∀ x ∈ l, x.1 < s.length ∧ x.2.length = 64) : ∀ x ∈ layTorn zs s l, x.length = 64 :=
  foldTorn_64 zs _ s h fun x hx => hl x.1 (by
    have := List.mem_map_of_mem (f := Prod.fst) hx
    rwa [List.zipIdx_map_fst] at this)
theorem Dk.good.crash {D : Dk} (h : D.good) (zs : List Int) : (D.crash zs).good := by
  refine ⟨⟨rfl, ?_, ?_, layTorn_64 zs _ _ h.ok.u64 h.ok.p64, layTorn_64 zs _ _ h.ok.u64 h.ok.p64, ?_, Nat.zero_le _, ?_, ?_⟩, rfl⟩
  · show 1 ≤ (layTorn zs D.sure D.pend).length
    rw [layTorn_length]; exact h.ok.one
  · show (layTorn zs D.sure D.pend).length ≤ 512
    rw [layTorn_length]; exact h.ok.max
  · intro x hx; cases hx
  · show (-9223372036854775808 : Int) ≤ -1; decide
  · show (-1 : Int) ≤ 9223372036854775807; decide
theorem pad_64 (b : List UInt8) (h : b.length ≤ 64) : (pad b).length = 64 := by simp [pad]; omega
theorem Dk.good.write {D : Dk} (h : D.good) (i : Int) (b : List UInt8) (hq : D.pend.length < 1000000) : (D.write i b).2.good := by
  unfold Dk.write
  split
  · exact h
  · split
    · exact h
    · split
      · exact h.burn
      · exact h.put _ _ (by omega) (pad_64 b (by omega)) hq
theorem pend_write (D : Dk) (i : Int) (b : List UInt8) : (D.write i b).2.pend.length ≤ D.pend.length + 1 := by
  unfold Dk.write
  split
  · exact Nat.le_succ _
  · split
    · exact Nat.le_succ _
    · split
      · exact Nat.le_succ _
      · show (D.pend ++ [_]).length ≤ _; simp
theorem Dk.good.putM {D : Dk} (h : D.good) (i : Int) (b : List UInt8) (hq : D.pend.length < 1000000) : (putM D i b).2.good := by
  unfold Go.Proofs.YtcpbmempfeloaaaDoor.putM
  split
  · split
    · exact h
    · split
      · exact h
      · exact h.sync.write _ _ (Nat.lt_of_le_of_lt (pend_sync D) hq)
  · exact h
theorem pend_putM (D : Dk) (i : Int) (b : List UInt8) : (putM D i b).2.pend.length ≤ D.pend.length + 1 := by
  unfold Go.Proofs.YtcpbmempfeloaaaDoor.putM
  split
  · split
    · exact Nat.le_succ _
    · split
      · exact Nat.le_succ _
      · exact Nat.le_trans (pend_write _ _ _) (Nat.succ_le_succ (pend_sync D))
  · exact Nat.le_succ _
theorem Dk.good.saveM {D : Dk} (h : D.good) (i : Int) (b : List UInt8) (hq : D.pend.length < 1000000) : (saveM D i b).2.good := by
  unfold Go.Proofs.YtcpbmempfeloaaaDoor.saveM
  split
  · exact (h.putM i b hq).sync
  · exact h.putM i b hq
theorem pend_saveM (D : Dk) (i : Int) (b : List UInt8) : (saveM D i b).2.pend.length ≤ D.pend.length + 1 := by
  unfold Go.Proofs.YtcpbmempfeloaaaDoor.saveM
  split
  · exact Nat.le_trans (pend_sync _) (pend_putM D i b)
  · exact pend_putM D i b
end Go.Proofs.YtcpbmempfeloaaaDoor
