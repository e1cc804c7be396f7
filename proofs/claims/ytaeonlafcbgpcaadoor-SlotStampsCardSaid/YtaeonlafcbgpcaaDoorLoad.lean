/- Package slot: right, Load. -/
import Derived.Test.YtaeonlafcbgpcaaDoorLast
namespace Go.Proofs.YtaeonlafcbgpcaaDoor
open Go.RowKit

theorem Dsk.inside {w : World} {bd : Nat} {F : Nat → Prop} {D : Dk} (h : Dsk w bd F D) : Dsk w bd (fun c => F c ∧ c < w.heap.size) D := by
  obtain ⟨vs, vu, vp, h, h1, h2, h3, h4⟩ := h
  refine ⟨vs, vu, vp, h, ⟨h1, lt_of_some h.top⟩, fun c e => ⟨h2 c e, ?_⟩, fun c e => ⟨h3 c e, ?_⟩, fun c e => ⟨h4 c e, ?_⟩⟩
  · obtain ⟨_, q⟩ := own_tag h.seen e; exact lt_of_some q
  · obtain ⟨_, q⟩ := own_tag h.sure e; exact lt_of_some q
  · obtain ⟨_, q⟩ := own_tag h.pend e; exact lt_of_some q
theorem last_any (w : World) (bd : Nat) (F : Nat → Prop) (D : Dk) (k : Nat) (z : Int) (hz : z = k) (hd : Dsk w bd F D) (ht : TabOK w) (hk : k + 1 < D.sure.length) :
    Calls Tryd.prog 49 #[.pointer (some ⟨bd, 0, none⟩), .int .i64 z] w fun e w' => (∃ x : SRec, e = .returned (.agg x.cells) ∧ x.tup = lastRec D k ∧ BytesAt (New w.heap.size) w' x.v x.bs) ∧ Fr (fun _ _ => True) w w' := by
  subst hz
  have h0 : 0 < w.heap.size := by have := cell_lt (ht 0 (by decide)); simpa using this
  exact last_calls w bd _ D k hd.inside ht (by have := hd.wf.len; omega) (fun c h => h.2) h0

/-- Both sectors are there. -/
def Dk.right (D : Dk) (i : Int) : Bool := decide (0 ≤ i ∧ i < (D.sure.length : Int) - 1)

set_option maxRecDepth 100000 in
theorem right_calls (w : World) (bd : Nat) (F : Nat → Prop) (D : Dk) (i : Int) (h : Dsk w bd F D) :
    Calls Tryd.prog 48 #[.pointer (some ⟨bd, 0, none⟩), .int .i64 i] w fun e w' => e = .returned (.bool (D.right i)) ∧ w = w' := by
  have hl := len_calls w bd F D h
  have HL := Lib.hid hl
  have hm := h.wf.max
  have h1 := h.wf.one
  clear h hl
  by_cases h0 : 0 ≤ i
  · have e1 : D.right i = decide (i < (D.sure.length : Int) - 1) := by simp [Dk.right, h0]
    have E1 := Lib.hid e1
    clear e1
    go_enter Tryd.func48, Tryd.ntmps48
    go_wp2_with fail
    (with_reducible refine HL.out.mono ?_)
    rintro e w1 ⟨rfl, rfl⟩
    go_wp2
    go_ret
    exact ⟨by rw [E1.out]; rfl, rfl⟩
  · have e1 : D.right i = false := by simp [Dk.right, h0]
    have E1 := Lib.hid e1
    have d0 : decide (0 ≤ i) = false := by simp [h0]
    clear e1
    go_enter Tryd.func48, Tryd.ntmps48
    go_wp2
    go_ret
    exact ⟨by rw [E1.out]; rfl, rfl⟩

/-- What Load answers. -/
def loadM (D : Dk) (i : Int) : List UInt8 × Nat × Int :=
  if D.right i then (if (lastRec D i.toNat).2.1 = 0 then ([], 0, 41) else ((lastRec D i.toNat).2.2, (lastRec D i.toNat).2.1, 0)) else ([], 0, 40)
theorem right_nat {D : Dk} {i : Int} (h : D.right i = true) : ∃ k : Nat, i = k ∧ k + 1 < D.sure.length := by
  have h := of_decide_eq_true h
  exact ⟨i.toNat, by omega, by omega⟩

set_option maxRecDepth 100000 in
theorem load_calls (w : World) (bd : Nat) (F : Nat → Prop) (D : Dk) (i : Int) (h : Dsk w bd F D) (ht : TabOK w) (b : List UInt8) (s : Nat) (c : Int) (hr : loadM D i = (b, s, c)) :
    Calls Tryd.prog 20 #[.pointer (some ⟨bd, 0, none⟩), .int .i64 i] w fun e w' => (∃ a cap, e = .returned (.tuple #[.slice a b.length cap, .int .u32 (s : Nat), .int .i64 c]) ∧ BytesAt (New w.heap.size) w' (.slice a b.length cap) b) ∧ Fr (fun _ _ => True) w w' := by
  have hrc := right_calls w bd F D i h
  unfold loadM at hr
  cases hq : D.right i with
  | false =>
    rw [hq] at hrc hr
    cases hr
    have HR := Lib.hid hrc
    clear hrc h ht hq
    go_enter Tryd.func20, Tryd.ntmps20
    go_wp2_with fail
    (with_reducible refine HR.out.mono ?_)
    rintro e w1 ⟨rfl, rfl⟩
    go_wp2
    go_ret3
    exact ⟨⟨_, _, rfl, BytesAt.nil _ _⟩, Fr.refl _ _⟩
  | true =>
    rw [hq, if_pos rfl] at hr
    rw [hq] at hrc
    obtain ⟨k, rfl, hk⟩ := right_nat hq
    have hla := last_any w bd F D k k rfl h ht hk
    rw [Int.toNat_natCast] at hr
    generalize lastRec D k = r at hr hla
    have HR := Lib.hid hrc
    have HL := Lib.hid hla
    have HE := Lib.hid hr
    clear hrc hla h ht hq hr
    go_enter Tryd.func20, Tryd.ntmps20
    go_wp2_with fail
    (with_reducible refine HR.out.mono ?_)
    rintro e w1 ⟨rfl, rfl⟩
    go_wp2_with fail
    (with_reducible refine HL.out.mono ?_)
    rintro e w2 ⟨⟨x, rfl, hx, b2⟩, f2⟩
    subst hx
    have he : (if x.seq = 0 then (([] : List UInt8), (0 : Nat), (41 : Int)) else (x.bs, x.seq, 0)) = (b, s, c) := HE.out
    have F2 := Lib.hid f2
    have B2 := Lib.hid b2
    unfold SRec.cells
    by_cases h0 : x.seq = 0
    · rw [if_pos h0] at he
      cases he
      clear f2 b2 HE
      have h0' : ((x.seq : Nat) : Int) = 0 := by omega
      go_wp2
      go_ret3
      exact ⟨⟨_, _, rfl, BytesAt.nil _ _⟩, F2.out.alloc _⟩
    · rw [if_neg h0] at he
      cases he
      clear f2 b2 HE
      have h0' : ¬ ((x.seq : Nat) : Int) = 0 := by omega
      go_wp2
      go_region
      all_goals
        go_wp2
        go_ret3
        exact ⟨⟨_, _, rfl, B2.out.tt ((Fr.refl _ _).alloc _).drew⟩, (F2.out.alloc _).drew⟩
end Go.Proofs.YtaeonlafcbgpcaaDoor
