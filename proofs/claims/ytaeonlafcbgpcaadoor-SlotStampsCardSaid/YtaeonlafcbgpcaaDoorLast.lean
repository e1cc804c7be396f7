/- Package slot: last. -/
import Derived.Test.YtaeonlafcbgpcaaDoorRecords
namespace Go.Proofs.YtaeonlafcbgpcaaDoor
open Go.RowKit Go.Shelf

theorem records_calls (w : World) (bd : Nat) (k : Nat) :
    Calls Tryd.prog 73 #[.pointer (some ⟨bd, 0, none⟩), .int .i64 (k : Nat)] w fun e w' => e = .returned (.func (.func 80) #[] #[.pointer (some ⟨w.heap.size + 1, 0, none⟩), .pointer (some ⟨w.heap.size, 0, none⟩)]) ∧ w' = (w.alloc (.cells #[.pointer (some ⟨bd, 0, none⟩)] 38)).alloc (.cells #[.int .i64 (k : Nat)] 3) := by
  go_enter Tryd.func73, Tryd.ntmps73
  go_wp2
  go_ret
  exact ⟨rfl, rfl⟩

def bestOf (z : SRec) (l : List SRec) : SRec := l.foldl (fun o x => if o.seq < x.seq then x else o) z
theorem bestOf_snoc (z : SRec) (l : List SRec) (x : SRec) : bestOf z (l ++ [x]) = if (bestOf z l).seq < x.seq then x else bestOf z l := by unfold bestOf; rw [List.foldl_append]; rfl
def noRec (k : Nat) : SRec := ⟨k + 1, 0, none, 0, []⟩
def lastOf (z : Nat × Nat × List UInt8) (l : List (Nat × Nat × List UInt8)) : Nat × Nat × List UInt8 := l.foldl (fun o x => if o.2.1 < x.2.1 then x else o) z
/-- The last record at a place: where, its number, its bytes. -/
def lastRec (D : Dk) (k : Nat) : Nat × Nat × List UInt8 := lastOf (k + 1, 0, []) (recsUpto D k 2)
theorem bestOf_tup (l : List SRec) : ∀ z : SRec, (bestOf z l).tup = lastOf z.tup (l.map SRec.tup) := by
  induction l with
  | nil => intro z; rfl
  | cons x l ih =>
    intro z
    show (bestOf (if z.seq < x.seq then x else z) l).tup = lastOf (if z.seq < x.seq then x.tup else z.tup) (l.map SRec.tup)
    rw [ih]
    split <;> rfl
theorem bestOf_mem (l : List SRec) : ∀ z : SRec, bestOf z l = z ∨ bestOf z l ∈ l := by
  induction l with
  | nil => intro z; exact .inl rfl
  | cons x l ih =>
    intro z
    show bestOf (if z.seq < x.seq then x else z) l = z ∨ bestOf (if z.seq < x.seq then x else z) l ∈ x :: l
    split
    · rcases ih x with h | h
      · exact .inr (by rw [h]; simp)
      · exact .inr (by simp [h])
    · rcases ih z with h | h
      · exact .inl h
      · exact .inr (by simp [h])

attribute [local go_sem] Oper.semAt_some

set_option maxRecDepth 100000 in
set_option maxHeartbeats 1000000 in
theorem last_calls (w : World) (bd : Nat) (F : Nat → Prop) (D : Dk) (k : Nat) (hd : Dsk w bd F D) (ht : TabOK w) (hk : k + 1 < D.seen.length) (hF : ∀ c, F c → c < w.heap.size) (h0 : 0 < w.heap.size) :
    Calls Tryd.prog 49 #[.pointer (some ⟨bd, 0, none⟩), .int .i64 (k : Nat)] w fun e w' => (∃ x : SRec, e = .returned (.agg x.cells) ∧ x.tup = lastRec D k ∧ BytesAt (New w.heap.size) w' x.v x.bs) ∧ Fr (fun _ _ => True) w w' := by
  have hbnd : k ≤ 511 := by have := hd.wf.max; have := hd.wf.len; omega
  refine (callsIn_wide (n := 3)).1 ?_
  refine callsIn_of_wp_marks Tryd.func49 rfl trivial ?_ rfl
  simp only [Tryd.ntmps49, List.size_toArray, List.length_cons, List.length_nil, Nat.reduceAdd, Nat.reduceSub, Array.replicate_succ, Array.replicate_zero, List.push_toArray, List.append_toArray, List.nil_append, List.cons_append]
  gi_wp2
  refine ⟨trivial, (callsIn_wide.2 (records_calls _ bd k)).mono ?_⟩
  rintro e w2 ⟨rfl, rfl⟩
  gi_wp2
  have hW0 : ∃ W0, ((((w.alloc (.cells #[.int .i64 0, .int .u32 0, .slice none 0 0] 85)).alloc (.cells #[.int .i64 ((k : Int) + 1), .int .u32 0, .slice none 0 0] 85)).alloc (.cells #[.pointer (some ⟨bd, 0, none⟩)] 38)).alloc (.cells #[.int .i64 (k : Nat)] 3)) = W0 := ⟨_, rfl⟩
  obtain ⟨W0, hW0⟩ := hW0
  have fW : Fr (fun _ _ => True) w W0 := by rw [← hW0]; exact ((((Fr.refl _ _).alloc _).alloc _).alloc _).alloc _
  have sW : W0.heap.size = w.heap.size + 4 := by rw [← hW0]; simp
  have t0 : W0.heap[w.heap.size]? = some (.cells #[.int .i64 0, .int .u32 0, .slice none 0 0] 85 (0, 0)) := by
    rw [← hW0]; exact heap_alloc_lt (heap_alloc_lt (heap_alloc_lt (heap_alloc_new w _) _) _) _
  have t1 : W0.heap[w.heap.size + 1]? = some (.cells #[.int .i64 ((k : Int) + 1), .int .u32 0, .slice none 0 0] 85 (0, 0)) := by
    rw [← hW0]; exact heap_alloc_lt (heap_alloc_lt (heap_alloc_at (by simp) _) _) _
  have t2 : W0.heap[w.heap.size + 1 + 1]? = some (.cells #[.pointer (some ⟨bd, 0, none⟩)] 38 (0, 0)) := by
    rw [← hW0]; exact heap_alloc_lt (heap_alloc_at (by simp) _) _
  have t3 : W0.heap[w.heap.size + 1 + 1 + 1]? = some (.cells #[.int .i64 (k : Nat)] 3 (0, 0)) := by
    rw [← hW0]; exact heap_alloc_at (by simp) _
  rw [hW0]
  have hlen : bd < w.heap.size := by obtain ⟨_, _, _, q, _⟩ := hd; exact lt_of_some q.top
  have hseq := records_seq 2 W0 (fun c => c ≠ w.heap.size + 1) F bd D k (w.heap.size + 1 + 1 + 1) (w.heap.size + 1 + 1) (hd.tt fW) (fun c h e => by have := hF c h; omega) (cell_mk t3 rfl) (cell_mk t2 rfl) (by omega) (by omega) (by omega) (ht.tt fW) (fun c h => by omega) hk
  have HT0 := Lib.hid t0
  have FW := Lib.hid fW
  have HSEQ := Lib.hid hseq
  have hI0 : Hid (W0.heap[w.heap.size + 1]? = some (.cells (bestOf (noRec k) []).cells 85 (0, 0))) := t1
  clear hseq hd ht t0 t1 t2 t3 fW hW0
  refine wpIn_range (F := Fence.wide) (n := 3) rfl (by omega) (gf := 80) (lb := #[.pointer (some ⟨w.heap.size + 1 + 1 + 1, 0, none⟩), .pointer (some ⟨w.heap.size + 1 + 1, 0, none⟩)]) rfl trivial (enters_of Tryd.func80 (by kernel_rfl) rfl) HSEQ.out (fun c h => by omega)
    (fun x A A' h hf => h.fr hf fun _ _ hn => hn.kc) (fun xs A A' h hf => ⟨h.1, fun x hx => (h.2 x hx).fr hf fun _ _ hn => hn.kc⟩) (fun _ => rfl)
    (fun pre W => W.heap[w.heap.size + 1]? = some (.cells (bestOf (noRec k) pre).cells 85 (0, 0))) (fun xs A A' h hf => hf.keep _ _ h rfl) hI0.out
    (fun x W a' W' => W' = W.alloc (.cells x.cells 85 (0, 0)) ∧ a' = { tmps := #[.pointer (some ⟨bd, 0, none⟩), .int .i64 (k : Nat), undef, undef, .pointer (some ⟨w.heap.size, 0, none⟩), .pointer (some ⟨w.heap.size + 1, 0, none⟩), .pointer (some ⟨W.heap.size, 0, none⟩), .int .i64 (k : Nat), .int .i64 ((k : Int) + 1), .agg #[.int .i64 ((k : Int) + 1), .int .u32 0, .slice none 0 0], .pointer (some ⟨bd, 0, none⟩), .int .i64 (k : Nat), .func (.func 80) #[] #[.pointer (some ⟨w.heap.size + 1 + 1 + 1, 0, none⟩), .pointer (some ⟨w.heap.size + 1 + 1, 0, none⟩)], .agg x.cells, undef, undef, undef, undef, undef, undef, undef], defers := [] }) ?assign ?body ?done
  case assign =>
    intro l x W K hK
    have HK := Lib.hid hK
    clear hK
    unfold SRec.encs SRec.cells
    gi_wp2
    exact HK.out _ _ ⟨rfl, rfl⟩ ((Fr.refl _ _).alloc _)
  case body =>
    rintro l pre x W a' W' Wb hfw hi hx ⟨rfl, rfl⟩ hfa hfb
    have u1 := hfb.keep _ _ (heap_alloc_lt hi _) rfl
    have u2 := hfb.keep _ _ (heap_alloc_new W (.cells x.cells 85 (0, 0))) rfl
    have hb := bestOf_snoc (noRec k) pre x
    generalize bestOf (noRec k) pre = o at u1 hb
    have HB := Lib.hid hb
    have hxs : x.seq < 4294967296 := hx.2.1
    clear hb hx hfa hi hfw
    unfold SRec.cells at u1 u2
    have ca0 : Wb.cell? ⟨w.heap.size + 1, 0, none⟩ = some (.int .i64 (o.at' : Nat)) := cell_mk u1 rfl
    have ca1 : Wb.cell? ⟨w.heap.size + 1, 1, none⟩ = some (.int .u32 (o.seq : Nat)) := cell_mk u1 rfl
    have ca2 : Wb.cell? ⟨w.heap.size + 1, 2, none⟩ = some (.slice o.a o.bs.length o.cap) := cell_mk u1 rfl
    have cb0 : Wb.cell? ⟨W.heap.size, 0, none⟩ = some (.int .i64 (x.at' : Nat)) := cell_mk u2 rfl
    have cb1 : Wb.cell? ⟨W.heap.size, 1, none⟩ = some (.int .u32 (x.seq : Nat)) := cell_mk u2 rfl
    have cb2 : Wb.cell? ⟨W.heap.size, 2, none⟩ = some (.slice x.a x.bs.length x.cap) := cell_mk u2 rfl
    have g0 := frozen_mk (i := 0) u1
    have g1 := frozen_mk (i := 1) u1
    have g2 := frozen_mk (i := 2) u1
    have U1 := Lib.hid u1
    clear u1 u2 hfb
    by_cases hlt : o.seq < x.seq
    · gi_wp2
      refine ⟨(((Fr.refl _ _).setCell (fun _ _ h => h rfl) _).setCell (fun _ _ h => h rfl) _).setCell (fun _ _ h => h rfl) _, ?_⟩
      show _ = some (Obj.cells (bestOf (noRec k) (pre ++ [x])).cells _ _)
      rw [HB.out, if_pos hlt]
      exact heap_setCell_same (heap_setCell_same (heap_setCell_same U1.out _) _) _
    · gi_wp2
      refine ⟨Fr.refl _ _, ?_⟩
      show _ = some (Obj.cells (bestOf (noRec k) (pre ++ [x])).cells _ _)
      rw [HB.out, if_neg hlt]
      exact U1.out
  case done =>
    rintro D' xs W hD hs hi hK hfr
    have u0 := hfr.keep _ _ HT0.out (by omega)
    have htp := bestOf_tup xs (noRec k)
    rw [hs.1] at htp
    have hmm : BytesAt (New W0.heap.size) W (bestOf (noRec k) xs).v (bestOf (noRec k) xs).bs := by
      rcases bestOf_mem xs (noRec k) with h | h
      · rw [h]; exact BytesAt.nil _ _
      · exact (hs.2 _ h).1
    generalize bestOf (noRec k) xs = o at hi htp hmm
    have HTP := Lib.hid htp
    have HMM := Lib.hid hmm
    have FR := Lib.hid hfr
    have HKK := Lib.hid hK
    unfold SRec.cells at hi
    have ca0 : W.cell? ⟨w.heap.size + 1, 0, none⟩ = some (.int .i64 (o.at' : Nat)) := cell_mk hi rfl
    have ca1 : W.cell? ⟨w.heap.size + 1, 1, none⟩ = some (.int .u32 (o.seq : Nat)) := cell_mk hi rfl
    have ca2 : W.cell? ⟨w.heap.size + 1, 2, none⟩ = some (.slice o.a o.bs.length o.cap) := cell_mk hi rfl
    have cb0 : W.cell? ⟨w.heap.size, 0, none⟩ = some (.int .i64 0) := cell_mk u0 rfl
    have cb1 : W.cell? ⟨w.heap.size, 1, none⟩ = some (.int .u32 0) := cell_mk u0 rfl
    have cb2 : W.cell? ⟨w.heap.size, 2, none⟩ = some (.slice none 0 0) := cell_mk u0 rfl
    have g0 := frozen_mk (i := 0) u0
    have g1 := frozen_mk (i := 1) u0
    have g2 := frozen_mk (i := 2) u0
    have U0 := Lib.hid u0
    clear hs hi hfr u0 htp hmm hK
    gi_wp2
    have v2 := heap_setCell_same (o := 2) (heap_setCell_same (o := 1) (heap_setCell_same (o := 0) U0.out (.int .i64 (o.at' : Nat))) (.int .u32 (o.seq : Nat))) (.slice o.a o.bs.length o.cap)
    have hfq : Fr (fun c _ => c ≠ w.heap.size) W (((W.setCell ⟨w.heap.size, 0, none⟩ (.int .i64 (o.at' : Nat))).setCell ⟨w.heap.size, 1, none⟩ (.int .u32 (o.seq : Nat))).setCell ⟨w.heap.size, 2, none⟩ (.slice o.a o.bs.length o.cap)) := (((Fr.refl _ _).setCell (fun _ _ h => h rfl) _).setCell (fun _ _ h => h rfl) _).setCell (fun _ _ h => h rfl) _
    generalize ((W.setCell ⟨w.heap.size, 0, none⟩ (.int .i64 (o.at' : Nat))).setCell ⟨w.heap.size, 1, none⟩ (.int .u32 (o.seq : Nat))).setCell ⟨w.heap.size, 2, none⟩ (.slice o.a o.bs.length o.cap) = Wz at v2 hfq ⊢
    have hKz := hfq.keep _ _ HKK.out (by omega)
    have v3 : (Wz.putObj D' (.deferred none)).heap[w.heap.size]? = _ := (World.putObj_heap_other (by omega)).trans v2
    have hfz : Fr (fun c _ => c ≠ w.heap.size ∧ c ≠ D') W (Wz.putObj D' (.deferred none)) := (hfq.mono fun _ _ h => h.1).putObj (fun _ _ h => h.2 rfl) _
    have hfall : Fr (fun _ _ => True) w (Wz.putObj D' (.deferred none)) := by
      refine ⟨hfz.os.trans (FR.out.os.trans FW.out.os), hfz.tape.trans (FR.out.tape.trans FW.out.tape), hfz.output.trans (FR.out.output.trans FW.out.output), Nat.le_trans FW.out.size (Nat.le_trans FR.out.size hfz.size), fun b x hb _ => ?_⟩
      have hlt := lt_of_some hb
      exact hfz.keep b x (FR.out.keep b x (FW.out.keep b x hb trivial) (by omega)) ⟨by omega, by omega⟩
    refine ⟨by simp, .inl ⟨_, _, rfl, run_takeDeferred hKz, ?_⟩⟩
    have hsz2 := FW.out.size
    have hfk : Fr (fun c x => c ≠ w.heap.size ∧ KC c x) W (Wz.putObj D' (.deferred none)) := (hfq.mono fun _ _ h => h.1).putObj (fun x hx h => by rw [HKK.out] at hx; cases hx; cases h.2) _
    have hby := (HMM.out.fr (hfk.mono fun c x h => ⟨by have := h.1; omega, h.kc⟩)).mono (K' := New w.heap.size) fun c _ _ h => ⟨by have := h.1; omega, h.2⟩
    exact ⟨_, results_cell_row rfl _ _ _ _ _ _ _ rfl v3 Tryd.underlying85 rfl rfl, ⟨o, rfl, HTP.out, hby⟩, hfall⟩
end Go.Proofs.YtaeonlafcbgpcaaDoor
