/- Package disk: the disk in memory; its small functions. -/
import Derived.Test.YtaeonlafcbgpcaaDoorParse
import Derived.StillTailTactics
import Derived.Deep.MidRow
namespace Go.Proofs.YtaeonlafcbgpcaaDoor
open Go.RowKit

/-- A disk: what is to be read, what is sure, what is pending, the fuse, whether it is down. -/
structure Dk where
  seen : List (List UInt8)
  sure : List (List UInt8)
  pend : List (Nat × List UInt8)
  fuse : Int
  down : Bool
structure Dk.ok (D : Dk) : Prop where
  len : D.seen.length = D.sure.length
  one : 1 ≤ D.sure.length
  max : D.sure.length ≤ 512
  s64 : ∀ x ∈ D.seen, x.length = 64
  u64 : ∀ x ∈ D.sure, x.length = 64
  p64 : ∀ x ∈ D.pend, x.1 < D.sure.length ∧ x.2.length = 64
  few : D.pend.length ≤ 1000000
  lo : -9223372036854775808 ≤ D.fuse
  hi : D.fuse ≤ 9223372036854775807

/-- Sectors' cells. -/
def flatS (l : List (List UInt8)) : List Value := l.flatten.map byteV
/-- Pending writes' cells. -/
def cellsW (x : Nat × List UInt8) : List Value := .int .i64 (x.1 : Nat) :: x.2.map byteV
def flatW (l : List (Nat × List UInt8)) : List Value := (l.map cellsW).flatten

structure DskAt (w : World) (bd : Nat) (vs vu vp : Value) (D : Dk) : Prop where
  top : w.heap[bd]? = some (.cells #[vs, vu, vp, .int .i64 D.fuse, .bool D.down] 91 (0, 0))
  seen : w.ownsRow 0 93 64 vs D.seen.length (flatS D.seen)
  sure : w.ownsRow 0 93 64 vu D.sure.length (flatS D.sure)
  pend : w.ownsRow 0 95 65 vp D.pend.length (flatW D.pend)
  apart : ∀ b, vs.ownBlock = some b → vu.ownBlock ≠ some b
  wf : D.ok
/-- A disk at bd whose blocks are among F. -/
def Dsk (w : World) (bd : Nat) (F : Nat → Prop) (D : Dk) : Prop :=
  ∃ vs vu vp, DskAt w bd vs vu vp D ∧ F bd ∧ (∀ b, vs.ownBlock = some b → F b) ∧ (∀ b, vu.ownBlock = some b → F b) ∧ (∀ b, vp.ownBlock = some b → F b)

theorem Dsk.mono {w : World} {bd : Nat} {F G : Nat → Prop} {D : Dk} (h : Dsk w bd F D) (hg : ∀ b, F b → G b) : Dsk w bd G D := by
  obtain ⟨vs, vu, vp, h, h1, h2, h3, h4⟩ := h
  exact ⟨vs, vu, vp, h, hg _ h1, fun b e => hg _ (h2 b e), fun b e => hg _ (h3 b e), fun b e => hg _ (h4 b e)⟩
theorem Dsk.fr {w w' : World} {bd : Nat} {F : Nat → Prop} {D : Dk} {K : Nat → Obj → Prop} (h : Dsk w bd F D) (hf : Fr K w w') (hk : ∀ b o, w.heap[b]? = some o → F b → K b o) : Dsk w' bd F D := by
  obtain ⟨vs, vu, vp, h, h1, h2, h3, h4⟩ := h
  exact ⟨vs, vu, vp, ⟨hf.keep _ _ h.top (hk _ _ h.top h1), ownsRow_fr h.seen hf (fun b o e hb => hk b o hb (h2 b e)), ownsRow_fr h.sure hf (fun b o e hb => hk b o hb (h3 b e)), ownsRow_fr h.pend hf (fun b o e hb => hk b o hb (h4 b e)), h.apart, h.wf⟩, h1, h2, h3, h4⟩
theorem Dsk.tt {w w' : World} {bd : Nat} {F : Nat → Prop} {D : Dk} (h : Dsk w bd F D) (hf : Fr (fun _ _ => True) w w') : Dsk w' bd F D := h.fr hf fun _ _ _ _ => trivial
theorem Dsk.wf {w : World} {bd : Nat} {F : Nat → Prop} {D : Dk} (h : Dsk w bd F D) : D.ok := by
  obtain ⟨_, _, _, h, _⟩ := h
  exact h.wf

/-- What a value looks like that owns a row. -/
theorem own_form {w : World} {B : Nat} {e : TypeId} {size : Nat} {v : Value} {n : Nat} {xs : List Value} (h : w.ownsRow B e size v n xs) : ∃ a cap, v = .slice a n cap := by
  rcases h.2 with ⟨rfl, rfl⟩ | ⟨g, cap, _, rfl, _⟩
  · exact ⟨none, 0, rfl⟩
  · exact ⟨_, _, rfl⟩

set_option maxRecDepth 100000 in
theorem len_calls (w : World) (bd : Nat) (F : Nat → Prop) (D : Dk) (h : Dsk w bd F D) :
    Calls Tryd.prog 72 #[.pointer (some ⟨bd, 0, none⟩)] w fun e w' => e = .returned (.int .i64 D.sure.length) ∧ w = w' := by
  obtain ⟨vs, vu, vp, h, _⟩ := h
  obtain ⟨a, cap, rfl⟩ := own_form h.seen
  have c0 := cell_mk (i := 0) h.top rfl
  have hl := h.wf.len
  rw [hl] at c0
  clear h hl
  go_enter Tryd.func72, Tryd.ntmps72
  go_wp2
  go_ret
  exact ⟨rfl, rfl⟩

set_option maxRecDepth 100000 in
theorem has_calls (w : World) (bd : Nat) (F : Nat → Prop) (D : Dk) (i : Int) (h : Dsk w bd F D) :
    Calls Tryd.prog 75 #[.pointer (some ⟨bd, 0, none⟩), .int .i64 i] w fun e w' => e = .returned (.bool (decide (0 ≤ i ∧ i < D.sure.length))) ∧ w = w' := by
  obtain ⟨vs, vu, vp, h, _⟩ := h
  obtain ⟨a, cap, rfl⟩ := own_form h.seen
  have c0 := cell_mk (i := 0) h.top rfl
  have hl := h.wf.len
  rw [hl] at c0
  clear h hl
  by_cases h0 : 0 ≤ i
  · have e1 : decide (0 ≤ i ∧ i < D.sure.length) = decide (i < (D.sure.length : Int)) := by simp [h0]
    rw [e1]
    clear e1
    go_enter Tryd.func75, Tryd.ntmps75
    go_wp2
    go_ret
    exact ⟨rfl, rfl⟩
  · have e1 : decide (0 ≤ i ∧ i < D.sure.length) = false := by simp [h0]
    rw [e1]
    clear e1
    have d0 : decide (0 ≤ i) = false := by simp [h0]
    go_enter Tryd.func75, Tryd.ntmps75
    go_wp2
    go_ret
    exact ⟨rfl, rfl⟩

set_option maxRecDepth 100000 in
theorem down_calls (w : World) (bd : Nat) (F : Nat → Prop) (D : Dk) (h : Dsk w bd F D) :
    Calls Tryd.prog 23 #[.pointer (some ⟨bd, 0, none⟩)] w fun e w' => e = .returned (.bool D.down) ∧ w = w' := by
  obtain ⟨vs, vu, vp, h, _⟩ := h
  have c0 := cell_mk (i := 4) h.top rfl
  clear h
  go_enter Tryd.func23, Tryd.ntmps23
  go_wp2
  go_ret
  exact ⟨rfl, rfl⟩

set_option maxRecDepth 100000 in
theorem pending_calls (w : World) (bd : Nat) (F : Nat → Prop) (D : Dk) (h : Dsk w bd F D) :
    Calls Tryd.prog 35 #[.pointer (some ⟨bd, 0, none⟩)] w fun e w' => e = .returned (.int .i64 D.pend.length) ∧ w = w' := by
  obtain ⟨vs, vu, vp, h, _⟩ := h
  obtain ⟨a, cap, rfl⟩ := own_form h.pend
  have c0 := cell_mk (i := 2) h.top rfl
  clear h
  go_enter Tryd.func35, Tryd.ntmps35
  go_wp2
  go_ret
  exact ⟨rfl, rfl⟩

/-- A disk whose struct is written anew. -/
theorem DskAt.turn {w w' : World} {bd : Nat} {vs vu vp : Value} {D D' : Dk} (h : DskAt w bd vs vu vp D) (hf : Fr (fun b _ => b ≠ bd) w w')
    (ht : w'.heap[bd]? = some (.cells #[vs, vu, vp, .int .i64 D'.fuse, .bool D'.down] 91 (0, 0))) (h1 : D'.seen = D.seen) (h2 : D'.sure = D.sure) (h3 : D'.pend = D.pend) (hw : D'.ok) : DskAt w' bd vs vu vp D' := by
  have key : ∀ (e : TypeId) (size : Nat) (v : Value) (n : Nat) (xs : List Value), w.ownsRow 0 e size v n xs → e ≠ 91 → ∀ b o, v.ownBlock = some b → w.heap[b]? = some o → b ≠ bd := by
    intro e size v n xs ho hne b o hb hw e'
    rcases ho.2 with ⟨rfl, _⟩ | ⟨g, cap, cur, rfl, _, hg, _⟩
    · cases hb
    · cases hb
      have e2 : g = bd := e'
      rw [e2, h.top] at hg
      cases hg
      exact hne rfl
  refine ⟨ht, ?_, ?_, ?_, h.apart, hw⟩
  · rw [h1]; exact ownsRow_fr h.seen hf (key _ _ _ _ _ h.seen (by decide))
  · rw [h2]; exact ownsRow_fr h.sure hf (key _ _ _ _ _ h.sure (by decide))
  · rw [h3]; exact ownsRow_fr h.pend hf (key _ _ _ _ _ h.pend (by decide))

set_option maxRecDepth 100000 in
theorem fuse_calls (w : World) (bd : Nat) (F : Nat → Prop) (D : Dk) (n : Int) (h : Dsk w bd F D) (h0 : -9223372036854775808 ≤ n) (h1 : n ≤ 9223372036854775807) :
    Calls Tryd.prog 24 #[.pointer (some ⟨bd, 0, none⟩), .int .i64 n] w fun e w' => e = .returned (.tuple #[]) ∧ Dsk w' bd F { D with fuse := n } ∧ Fr (fun b _ => b ≠ bd) w w' := by
  obtain ⟨vs, vu, vp, h, hF⟩ := h
  have c0 := cell_mk (i := 3) h.top rfl
  have f0 := frozen_mk (i := 3) h.top
  have H := Lib.hid h
  clear h
  go_enter Tryd.func24, Tryd.ntmps24
  go_wp2
  go_end0
  have hf : Fr (fun b _ => b ≠ bd) w (w.setCell ⟨bd, 3, none⟩ (.int .i64 n)) := (Fr.refl _ _).setCell (fun _ _ h => h rfl) _
  exact ⟨rfl, ⟨vs, vu, vp, H.out.turn hf (heap_setCell_same H.out.top _) rfl rfl rfl { H.out.wf with lo := h0, hi := h1 }, hF⟩, hf⟩

/-- One thing is done, if any is. -/
def Dk.burn (D : Dk) : Dk := { D with fuse := D.fuse - min 1 (max 0 D.fuse), down := D.down || D.fuse == 0 }

set_option maxRecDepth 100000 in
theorem done_disk (w : World) (bd : Nat) (F : Nat → Prop) (D : Dk) (h : Dsk w bd F D) :
    Calls Tryd.prog 74 #[.pointer (some ⟨bd, 0, none⟩)] w fun e w' => e = .returned (.bool (!D.burn.down)) ∧ Dsk w' bd F D.burn ∧ Fr (fun b _ => b ≠ bd) w w' := by
  obtain ⟨vs, vu, vp, h, hF⟩ := h
  have c3 := cell_mk (i := 3) h.top rfl
  have c4 := cell_mk (i := 4) h.top rfl
  have f3 := frozen_mk (i := 3) h.top
  have f4 := frozen_mk (i := 4) h.top
  have lo := h.wf.lo
  have hi := h.wf.hi
  have H := Lib.hid h
  clear h
  generalize hfu : D.fuse = fu at c3 lo hi
  generalize hdo : D.down = dn at c4
  have HF := Lib.hid hfu
  have HD := Lib.hid hdo
  clear hfu hdo
  have H2 : Hid (w.setCell ⟨bd, 4, none⟩ (.bool (dn || fu == 0)) = w.setCell ⟨bd, 4, none⟩ (.bool D.burn.down)) := by rw [Dk.burn, HF.out, HD.out]; rfl
  have key : ∀ w2 : World, w2.heap[bd]? = some (.cells #[vs, vu, vp, .int .i64 fu, .bool D.burn.down] 91 (0, 0)) → Fr (fun b _ => b ≠ bd) w w2 → Dsk (w2.setCell ⟨bd, 3, none⟩ (.int .i64 D.burn.fuse)) bd F D.burn ∧ Fr (fun b _ => b ≠ bd) w (w2.setCell ⟨bd, 3, none⟩ (.int .i64 D.burn.fuse)) := by
    intro w2 t2 f2
    have hf : Fr (fun b _ => b ≠ bd) w (w2.setCell ⟨bd, 3, none⟩ (.int .i64 D.burn.fuse)) := f2.setCell (fun _ _ h => h rfl) _
    refine ⟨⟨vs, vu, vp, H.out.turn hf (heap_setCell_same t2 _) rfl rfl rfl ?_, hF⟩, hf⟩
    have h1 : D.burn.fuse = fu - min 1 (max 0 fu) := by rw [Dk.burn, HF.out]
    exact { H.out.wf with lo := by rw [h1]; omega, hi := by rw [h1]; omega }
  have KEY := Lib.hid key
  have hbf : Hid (D.burn.fuse = fu - min 1 (max 0 fu)) := by rw [Dk.burn, HF.out]; rfl
  clear key
  rcases dn with _ | _
  · by_cases hd : fu = 0
    · have hbd : Hid (D.burn.down = true) := by rw [Dk.burn, HF.out, HD.out, hd]; rfl
      have hz : ((fu : Int) == 0) = true := by simp [hd]
      clear hd
      have t1 : (w.setCell ⟨bd, 4, none⟩ (.bool true)).heap[bd]? = some (.cells #[vs, vu, vp, .int .i64 fu, .bool D.burn.down] 91 (0, 0)) := by
        rw [hbd.out, heap_setCell_same H.out.top, HF.out]; rfl
      have g1 : Fr (fun b _ => b ≠ bd) w (w.setCell ⟨bd, 4, none⟩ (.bool true)) := (Fr.refl _ _).setCell (fun _ _ h => h rfl) _
      have T1 := Lib.hid t1
      have G1 := Lib.hid g1
      clear t1 g1
      go_enter Tryd.func74, Tryd.ntmps74
      go_wp2
      generalize w.setCell ⟨bd, 4, none⟩ (.bool true) = w2 at T1 G1 ⊢
      have k3 : w2.cell? ⟨bd, 3, none⟩ = some (.int .i64 fu) := cell_mk T1.out rfl
      have k4 : w2.cell? ⟨bd, 4, none⟩ = some (.bool true) := (show w2.cell? ⟨bd, 4, none⟩ = some (.bool D.burn.down) from cell_mk T1.out rfl).trans (by rw [hbd.out])
      have j3 := frozen_mk (i := 3) T1.out
      have T2 : Hid (w2.drew.heap[bd]? = some (.cells #[vs, vu, vp, .int .i64 fu, .bool D.burn.down] 91 (0, 0))) := T1.out
      have G2 := Lib.hid G1.out.drew
      clear c3 c4 f3 f4
      go_still_tail 13, (by kernel_rfl)
      go_wp2
      all_goals
        go_ret
        obtain ⟨k1, k2⟩ := KEY.out _ T2.out G2.out
        rw [hbd.out]
        have hbf' := hbf.out
        first
        | (have hx : D.burn.fuse = fu - 1 := by omega
           rw [hx] at k1 k2
           exact ⟨rfl, k1, k2⟩)
        | (have hx : D.burn.fuse = fu := by omega
           rw [hx] at k1 k2
           exact ⟨rfl, k1, k2⟩)
    · have hbd : Hid (D.burn.down = false) := by rw [Dk.burn, HF.out, HD.out]; simp [hd, Hid]
      have hz : ((fu : Int) == 0) = false := by simp [hd]
      clear hd
      have t1 : (w.setCell ⟨bd, 4, none⟩ (.bool false)).heap[bd]? = some (.cells #[vs, vu, vp, .int .i64 fu, .bool D.burn.down] 91 (0, 0)) := by
        rw [hbd.out, heap_setCell_same H.out.top, HF.out]; rfl
      have g1 : Fr (fun b _ => b ≠ bd) w (w.setCell ⟨bd, 4, none⟩ (.bool false)) := (Fr.refl _ _).setCell (fun _ _ h => h rfl) _
      have T1 := Lib.hid t1
      have G1 := Lib.hid g1
      clear t1 g1
      go_enter Tryd.func74, Tryd.ntmps74
      go_wp2
      generalize w.setCell ⟨bd, 4, none⟩ (.bool false) = w2 at T1 G1 ⊢
      have k3 : w2.cell? ⟨bd, 3, none⟩ = some (.int .i64 fu) := cell_mk T1.out rfl
      have k4 : w2.cell? ⟨bd, 4, none⟩ = some (.bool false) := (show w2.cell? ⟨bd, 4, none⟩ = some (.bool D.burn.down) from cell_mk T1.out rfl).trans (by rw [hbd.out])
      have j3 := frozen_mk (i := 3) T1.out
      have T2 : Hid (w2.drew.heap[bd]? = some (.cells #[vs, vu, vp, .int .i64 fu, .bool D.burn.down] 91 (0, 0))) := T1.out
      have G2 := Lib.hid G1.out.drew
      clear c3 c4 f3 f4
      go_still_tail 13, (by kernel_rfl)
      go_wp2
      all_goals
        go_ret
        obtain ⟨k1, k2⟩ := KEY.out _ T2.out G2.out
        rw [hbd.out]
        have hbf' := hbf.out
        first
        | (have hx : D.burn.fuse = fu - 1 := by omega
           rw [hx] at k1 k2
           exact ⟨rfl, k1, k2⟩)
        | (have hx : D.burn.fuse = fu := by omega
           rw [hx] at k1 k2
           exact ⟨rfl, k1, k2⟩)
  · have hbd : Hid (D.burn.down = true) := by rw [Dk.burn, HF.out, HD.out]; rfl
    have t1 : (w.setCell ⟨bd, 4, none⟩ (.bool true)).heap[bd]? = some (.cells #[vs, vu, vp, .int .i64 fu, .bool D.burn.down] 91 (0, 0)) := by
      rw [hbd.out, heap_setCell_same H.out.top, HF.out]; rfl
    have g1 : Fr (fun b _ => b ≠ bd) w (w.setCell ⟨bd, 4, none⟩ (.bool true)) := (Fr.refl _ _).setCell (fun _ _ h => h rfl) _
    have T1 := Lib.hid t1
    have G1 := Lib.hid g1
    clear t1 g1
    go_enter Tryd.func74, Tryd.ntmps74
    go_wp2
    generalize w.setCell ⟨bd, 4, none⟩ (.bool true) = w2 at T1 G1 ⊢
    have k3 : w2.cell? ⟨bd, 3, none⟩ = some (.int .i64 fu) := cell_mk T1.out rfl
    have k4 : w2.cell? ⟨bd, 4, none⟩ = some (.bool true) := (show w2.cell? ⟨bd, 4, none⟩ = some (.bool D.burn.down) from cell_mk T1.out rfl).trans (by rw [hbd.out])
    have j3 := frozen_mk (i := 3) T1.out
    have T2 : Hid (w2.drew.heap[bd]? = some (.cells #[vs, vu, vp, .int .i64 fu, .bool D.burn.down] 91 (0, 0))) := T1.out
    have G2 := Lib.hid G1.out.drew
    clear c3 c4 f3 f4
    go_still_tail 13, (by kernel_rfl)
    go_wp2
    all_goals
      go_ret
      obtain ⟨k1, k2⟩ := KEY.out _ T2.out G2.out
      rw [hbd.out]
      have hbf' := hbf.out
      first
      | (have hx : D.burn.fuse = fu - 1 := by omega
         rw [hx] at k1 k2
         exact ⟨rfl, k1, k2⟩)
      | (have hx : D.burn.fuse = fu := by omega
         rw [hx] at k1 k2
         exact ⟨rfl, k1, k2⟩)
end Go.Proofs.YtaeonlafcbgpcaaDoor
