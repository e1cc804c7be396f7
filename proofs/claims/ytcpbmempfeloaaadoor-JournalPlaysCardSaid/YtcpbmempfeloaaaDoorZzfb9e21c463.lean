/- Texts of the proofs, part 31: what the functions that they reach do, walked; no conditions beyond those that each states. -/
import Derived.Deep.RegionHeld3
import Derived.Deep.RegionHeldLaw
import Derived.Test.YtcpbmempfeloaaaDoorZz3031403bb0
set_option linter.unusedVariables false
set_option linter.unusedSimpArgs false
/- The reference of layer 5: Load, Put, Save. -/
namespace Go.Proofs.YtcpbmempfeloaaaDoor
open Go.RowKit
set_option linter.unusedVariables false

theorem Rdk.wide {w : World} {br : Nat} {G : Nat → Prop} {D : Dk} (h : Rdk w br G D) (n : Nat) : Rdk w br (fun c => G c ∨ n ≤ c) D := h.mono fun _ h => .inl h

set_option maxRecDepth 100000 in
set_option maxHeartbeats 2000000 in
theorem r_put {K : Nat → Obj → Prop} (w : World) (br : Nat) (G : Nat → Prop) (D : Dk) (i : Int) (v : Value) (b : List UInt8) (h : Rdk w br G D) (hb : BytesAt K w v b) (hq : D.pend.length < 1000000) :
    Calls Tryd.prog 124 #[.pointer (some ⟨br, 0, none⟩), .int .i64 i, v] w fun e w' => e = .returned (.int .i64 (putM D i b).1) ∧ Rdk w' br (fun c => G c ∨ w.heap.size ≤ c) (putM D i b).2 ∧ Fr (fun c _ => c ≠ br) w w' := by
  obtain ⟨va, vc, rfl⟩ := hb.form
  have hrc := r_right w br G D i h
  cases hr : D.right i with
  | false =>
    rw [hr] at hrc
    have e1 : putM D i b = (40, D) := by unfold putM; rw [hr]; rfl
    have E1 := Lib.hid e1
    have HR := Lib.hid hrc
    have HD := Lib.hid h
    clear hrc h hb hq hr e1
    go_enter Tryd.func124, Tryd.ntmps124
    go_wp2_with fail
    (with_reducible refine HR.out.mono ?_)
    rintro e w1 ⟨rfl, rfl⟩
    go_wp2
    go_ret
    rw [E1.out]
    exact ⟨rfl, HD.out.wide _, Fr.refl _ _⟩
  | true =>
    rw [hr] at hrc
    obtain ⟨k, rfl, hk⟩ := right_nat hr
    have e1 : putM D k b = (if 43 < b.length then (2, D) else if (lastRec D k).2.1 = 4294967295 then (42, D) else D.sync.write (2 * k + 1 - (lastRec D k).1) (stampB ((lastRec D k).2.1 + 1) 0 b)) := by
      unfold putM; rw [hr, if_pos rfl, Int.toNat_natCast]
    have HR := Lib.hid hrc
    have HD := Lib.hid h
    have hkm : k ≤ 511 := by have := h.gd.ok.max; omega
    by_cases hbl : 43 < b.length
    · rw [if_pos hbl] at e1
      have E1 := Lib.hid e1
      have hbI : (43 : Int) < b.length := by omega
      clear hrc h hb hq hr e1 hbl
      go_enter Tryd.func124, Tryd.ntmps124
      go_wp2_with fail
      (with_reducible refine HR.out.mono ?_)
      rintro e w1 ⟨rfl, rfl⟩
      go_wp2
      go_ret
      rw [E1.out]
      exact ⟨rfl, HD.out.wide _, Fr.refl _ _⟩
    · rw [if_neg hbl] at e1
      have hbI : (b.length : Int) ≤ 43 := by omega
      obtain ⟨q1, q2, q3, q4⟩ := lastM_rec D k
      obtain ⟨hb1, hb2, hb3, hb4⟩ := lastRec_bound D k
      obtain ⟨ls, lb, lw, hlm⟩ : ∃ ls lb lw, lastM D k = (ls, lb, lw) := ⟨_, _, _, rfl⟩
      have hla := r_last w br G D k k rfl h hk ls lb lw hlm
      rw [hlm] at q1 q2 q3 q4
      replace q1 : ls = (lastRec D k).2.1 := q1
      replace q3 : 0 < ls → lw = (lastRec D k).1 := q3
      replace q4 : ls = 0 → lw = k ∧ (lastRec D k).1 = k + 1 := q4
      rw [← q1] at e1 hb1
      generalize (lastRec D k).1 = la at e1 q3 q4 hb3 hb4
      have HL := Lib.hid hla
      have HB := Lib.hid hb
      have E1 := Lib.hid e1
      have Q3 := Lib.hid q3
      have Q4 := Lib.hid q4
      clear hrc h hb hr e1 hla hlm q1 q2 q3 q4 hb2 hbl
      by_cases hmax : ls = 4294967295
      · have dq : (((ls : Nat) : Int) == 4294967295) = true := by simp; omega
        have EE : Hid (putM D k b = (42, D)) := by rw [E1.out, if_pos hmax]; rfl
        clear hmax
        go_enter Tryd.func124, Tryd.ntmps124
        go_wp2_with fail
        (with_reducible refine HR.out.mono ?_)
        rintro e w1 ⟨rfl, rfl⟩
        go_wp2_with fail
        (with_reducible refine HL.out.mono ?_)
        rintro e w2 ⟨⟨a2, c2, rfl, b2⟩, f2⟩
        have F2 := Lib.hid f2
        clear f2 b2
        go_wp2
        go_ret
        rw [EE.out]
        exact ⟨rfl, (HD.out.tt (F2.out.alloc _)).wide _, (F2.out.alloc _).mono fun _ _ _ => trivial⟩
      · have dq : (((ls : Nat) : Int) == 4294967295) = false := by simp; omega
        have E2 : Hid (putM D k b = D.sync.write (2 * k + 1 - la) (stampB (ls + 1) 0 b)) := by rw [E1.out, if_neg hmax]; rfl
        have hls : ls + 1 < 4294967296 := by omega
        clear hmax E1 hb1
        go_enter Tryd.func124, Tryd.ntmps124
        go_wp2_with fail
        (with_reducible refine HR.out.mono ?_)
        rintro e w1 ⟨rfl, rfl⟩
        go_wp2_with fail
        (with_reducible refine HL.out.mono ?_)
        rintro e w2 ⟨⟨a2, c2, rfl, b2⟩, f2⟩
        have hW : ∃ W, w2.alloc (.cells #[.int .u32 (ls : Nat), .int .u32 0, .slice a2 lb.length c2] 116) = W := ⟨_, rfl⟩
        obtain ⟨W, hW⟩ := hW
        have f3 : Fr (fun _ _ => True) w W := by rw [← hW]; exact f2.alloc _
        have sz : w.heap.size ≤ W.heap.size := f3.size
        have top := (show W.heap[w2.heap.size]? = some (.cells #[.int .u32 (ls : Nat), .int .u32 0, .slice a2 lb.length c2] 116 (0, 0)) by rw [← hW]; exact heap_alloc_new _ _)
        have c0 := cell_mk (i := 0) top rfl
        have F3 := Lib.hid f3
        have B3 := Lib.hid (HB.out.tt f3)
        have D3 := Lib.hid (HD.out.inside.tt f3)
        clear f2 b2 f3 top
        obtain ⟨hA, hA2⟩ | ⟨hA, hA2⟩ | ⟨hA, hA2⟩ : (0 < ls ∧ lw = k) ∨ (0 < ls ∧ lw ≠ k) ∨ (ls = 0 ∧ lw = k) := by
          have := Q4.out
          omega
        · have hI : (0 : Int) < ls := by omega
          have dw : (((lw : Nat) : Int) == (k : Int)) = true := by simp; omega
          have EE : Hid (putM D k b = D.sync.write ((k : Int) + 1) (stampB (ls + 1) 0 b)) := by
            have := Q3.out hA
            rw [E2.out, show (2 * (k : Int) + 1 - (la : Int)) = (k : Int) + 1 by omega]; rfl
          clear hA hA2
          go_wp2_with fail
          clear hW
          (with_reducible refine (stamp05_calls _ (ls + 1) 0 _ _ (by omega) (by omega) _ b B3.out hls (by decide)).mono ?_)
          rintro e w4 ⟨(⟨hbl, rfl⟩ | ⟨hbl, a4, c4, rfl, b4⟩), f4⟩
          · exfalso; omega
          · have F4 := Lib.hid (F3.out.trans f4)
            have D4 := Lib.hid (D3.out.tt f4)
            have B4 := Lib.hid b4
            have s4 : W.heap.size ≤ w4.heap.size := f4.size
            clear f4 b4 hbl c0
            go_wp2_with fail
            (with_reducible refine (r_sync w4 br _ D D4.out).mono ?_)
            rintro e w5 ⟨rfl, d5, f5⟩
            have hbr : br < w.heap.size := by obtain ⟨_, _, _, _, _, q⟩ := HD.out; exact lt_of_some q.top
            have B5 := Lib.hid (B4.out.fr (f5.mono fun c _ h hc => by have := h.1; omega))
            have D5 := Lib.hid d5
            have F5 := Lib.hid f5
            have hq5 : D.sync.pend.length < 1000000 := Nat.lt_of_le_of_lt (pend_sync D) hq
            have hap : Hid (∀ c o, w5.heap[c]? = some o → New W.heap.size c o → c ≠ br) := fun c o _ h1 h2 => by have := h1.1; omega
            clear d5 f5
            go_wp2_with fail
            (with_reducible refine (r_write w5 br _ D.sync _ _ _ D5.out B5.out hap.out hq5).mono ?_)
            rintro e w6 ⟨rfl, d6, f6⟩
            have D6 := Lib.hid d6
            have F6 := Lib.hid f6
            clear d6 f6
            go_wp2
            go_ret
            rw [EE.out]
            have s5 := F5.out.size
            refine ⟨rfl, D6.out.mono fun c h => ?_, ((F4.out.mono fun _ _ _ => trivial).trans F5.out).trans F6.out⟩
            rcases h with (h | h) | h
            · exact .inl h.1
            · exact .inr (by omega)
            · exact .inr (by omega)
        · have hI : (0 : Int) < ls := by omega
          have dw : (((lw : Nat) : Int) == (k : Int)) = false := by simp; omega
          have EE : Hid (putM D k b = D.sync.write (k : Int) (stampB (ls + 1) 0 b)) := by
            have := Q3.out hA
            rw [E2.out, show (2 * (k : Int) + 1 - (la : Int)) = (k : Int) by omega]; rfl
          clear hA hA2
          go_wp2_with fail
          clear hW
          (with_reducible refine (stamp05_calls _ (ls + 1) 0 _ _ (by omega) (by omega) _ b B3.out hls (by decide)).mono ?_)
          rintro e w4 ⟨(⟨hbl, rfl⟩ | ⟨hbl, a4, c4, rfl, b4⟩), f4⟩
          · exfalso; omega
          · have F4 := Lib.hid (F3.out.trans f4)
            have D4 := Lib.hid (D3.out.tt f4)
            have B4 := Lib.hid b4
            have s4 : W.heap.size ≤ w4.heap.size := f4.size
            clear f4 b4 hbl c0
            go_wp2_with fail
            (with_reducible refine (r_sync w4 br _ D D4.out).mono ?_)
            rintro e w5 ⟨rfl, d5, f5⟩
            have hbr : br < w.heap.size := by obtain ⟨_, _, _, _, _, q⟩ := HD.out; exact lt_of_some q.top
            have B5 := Lib.hid (B4.out.fr (f5.mono fun c _ h hc => by have := h.1; omega))
            have D5 := Lib.hid d5
            have F5 := Lib.hid f5
            have hq5 : D.sync.pend.length < 1000000 := Nat.lt_of_le_of_lt (pend_sync D) hq
            have hap : Hid (∀ c o, w5.heap[c]? = some o → New W.heap.size c o → c ≠ br) := fun c o _ h1 h2 => by have := h1.1; omega
            clear d5 f5
            go_wp2_with fail
            (with_reducible refine (r_write w5 br _ D.sync _ _ _ D5.out B5.out hap.out hq5).mono ?_)
            rintro e w6 ⟨rfl, d6, f6⟩
            have D6 := Lib.hid d6
            have F6 := Lib.hid f6
            clear d6 f6
            go_wp2
            go_ret
            rw [EE.out]
            have s5 := F5.out.size
            refine ⟨rfl, D6.out.mono fun c h => ?_, ((F4.out.mono fun _ _ _ => trivial).trans F5.out).trans F6.out⟩
            rcases h with (h | h) | h
            · exact .inl h.1
            · exact .inr (by omega)
            · exact .inr (by omega)
        · have hI : (ls : Int) ≤ 0 := by omega
          have EE : Hid (putM D k b = D.sync.write (k : Int) (stampB (ls + 1) 0 b)) := by
            have := (Q4.out hA).2
            rw [E2.out, show (2 * (k : Int) + 1 - (la : Int)) = (k : Int) by omega]; rfl
          clear hA hA2
          go_wp2_with fail
          clear hW
          (with_reducible refine (stamp05_calls _ (ls + 1) 0 _ _ (by omega) (by omega) _ b B3.out hls (by decide)).mono ?_)
          rintro e w4 ⟨(⟨hbl, rfl⟩ | ⟨hbl, a4, c4, rfl, b4⟩), f4⟩
          · exfalso; omega
          · have F4 := Lib.hid (F3.out.trans f4)
            have D4 := Lib.hid (D3.out.tt f4)
            have B4 := Lib.hid b4
            have s4 : W.heap.size ≤ w4.heap.size := f4.size
            clear f4 b4 hbl c0
            go_wp2_with fail
            (with_reducible refine (r_sync w4 br _ D D4.out).mono ?_)
            rintro e w5 ⟨rfl, d5, f5⟩
            have hbr : br < w.heap.size := by obtain ⟨_, _, _, _, _, q⟩ := HD.out; exact lt_of_some q.top
            have B5 := Lib.hid (B4.out.fr (f5.mono fun c _ h hc => by have := h.1; omega))
            have D5 := Lib.hid d5
            have F5 := Lib.hid f5
            have hq5 : D.sync.pend.length < 1000000 := Nat.lt_of_le_of_lt (pend_sync D) hq
            have hap : Hid (∀ c o, w5.heap[c]? = some o → New W.heap.size c o → c ≠ br) := fun c o _ h1 h2 => by have := h1.1; omega
            clear d5 f5
            go_wp2_with fail
            (with_reducible refine (r_write w5 br _ D.sync _ _ _ D5.out B5.out hap.out hq5).mono ?_)
            rintro e w6 ⟨rfl, d6, f6⟩
            have D6 := Lib.hid d6
            have F6 := Lib.hid f6
            clear d6 f6
            go_wp2
            go_ret
            rw [EE.out]
            have s5 := F5.out.size
            refine ⟨rfl, D6.out.mono fun c h => ?_, ((F4.out.mono fun _ _ _ => trivial).trans F5.out).trans F6.out⟩
            rcases h with (h | h) | h
            · exact .inl h.1
            · exact .inr (by omega)
            · exact .inr (by omega)

set_option maxRecDepth 100000 in
theorem r_save {K : Nat → Obj → Prop} (w : World) (br : Nat) (G : Nat → Prop) (D : Dk) (i : Int) (v : Value) (b : List UInt8) (h : Rdk w br G D) (hb : BytesAt K w v b) (hq : D.pend.length < 1000000) :
    Calls Tryd.prog 107 #[.pointer (some ⟨br, 0, none⟩), .int .i64 i, v] w fun e w' => e = .returned (.int .i64 (saveM D i b).1) ∧ Rdk w' br (fun c => G c ∨ w.heap.size ≤ c) (saveM D i b).2 ∧ Fr (fun c _ => c ≠ br) w w' := by
  have hp := r_put w br G D i v b h hb hq
  obtain ⟨va, vc, rfl⟩ := hb.form
  have hsv : Hid (saveM D i b = if (putM D i b).1 = 0 then (if (putM D i b).2.sync.down then 43 else 0, (putM D i b).2.sync) else putM D i b) := rfl
  generalize saveM D i b = r at hsv ⊢
  generalize putM D i b = p at hp hsv
  obtain ⟨c, D1⟩ := p
  have HP := Lib.hid hp
  clear hp h hb
  by_cases hc : c = 0
  · subst hc
    go_enter Tryd.func107, Tryd.ntmps107
    go_wp2_with fail
    (with_reducible refine HP.out.mono ?_)
    rintro e w1 ⟨rfl, d1, f1⟩
    have D1' := Lib.hid d1
    have F1 := Lib.hid f1
    clear d1 f1
    go_wp2_with fail
    (with_reducible refine (r_sync w1 br _ D1 D1'.out).mono ?_)
    rintro e w2 ⟨rfl, d2, f2⟩
    have D2 : Hid (Rdk w2 br (fun c => G c ∨ w.heap.size ≤ c) D1.sync) := d2.mono fun c hc => by
      rcases hc with hc | hc
      · exact hc
      · exact .inr (Nat.le_trans F1.out.size hc)
    have F2 : Hid (Fr (fun c _ => c ≠ br) w w2) := F1.out.trans f2
    have e0 := hsv.out
    have dd : w2.cell? ⟨br, 4, none⟩ = some (.bool D1.sync.down) := by
      obtain ⟨_, _, _, _, _, q⟩ := d2
      exact cell_mk q.top rfl
    generalize hdw : D1.sync.down = dn at dd
    have e1 : r = (if dn then 43 else 0, D1.sync) := by rw [e0, ← hdw]; simp
    have E1 := Lib.hid e1
    clear e1
    clear d2 f2 hsv hdw e0
    cases dn with
    | true =>
      go_wp2
      go_ret
      rw [E1.out]
      exact ⟨rfl, D2.out, F2.out⟩
    | false =>
      go_wp2
      go_ret
      rw [E1.out]
      exact ⟨rfl, D2.out, F2.out⟩
  · have e1 : r = (c, D1) := by rw [hsv.out, if_neg hc]
    have E1 := Lib.hid e1
    have hc' : (c != 0) = true := by simp [hc]
    clear e1 hsv hc
    go_enter Tryd.func107, Tryd.ntmps107
    go_wp2_with fail
    (with_reducible refine HP.out.mono ?_)
    rintro e w1 ⟨rfl, d1, f1⟩
    have D1' := Lib.hid d1
    have F1 := Lib.hid f1
    clear d1 f1
    go_wp2
    go_ret
    rw [E1.out]
    exact ⟨rfl, D1'.out, F1.out⟩
end Go.Proofs.YtcpbmempfeloaaaDoor
/- The document's journal in memory: what it is; place, All. -/
namespace Go.Proofs.YtcpbmempfeloaaaDoor
open Go.RowKit
set_option linter.unusedVariables false
set_option linter.unusedSimpArgs false

def cellsU (T : List (Nat × Value × List UInt8)) : List Value := T.flatMap fun x => [.int .u64 (x.1 : Nat), x.2.1]
/-- A slice of records that is read. -/
def RecsU (K : Nat → Prop) (w : World) (v : Value) (T : List (Nat × Value × List UInt8)) : Prop :=
  ∃ a c, v = .slice a T.length c ∧ T.length ≤ c ∧ (T = [] ∨ ∃ b off o, a = some ⟨b, off, none⟩ ∧ w.heap[b]? = some o ∧ K b ∧ ∀ i, (h : i < T.length) → w.cell? ⟨b, off + i * 2, none⟩ = some (.int .u64 (T[i].1 : Nat)) ∧ w.cell? ⟨b, off + i * 2 + 1, none⟩ = some T[i].2.1)
structure RJAt (w : World) (bk br : Nat) (H : Nat → Prop) (vh : Value) (T : List (Nat × Value × List UInt8)) (J : Jn) : Prop where
  top : w.heap[bk]? = some (.cells #[.pointer (some ⟨br, 0, none⟩), .int .i64 (J.loc : Nat), .int .i64 (J.n : Nat), .int .u64 (J.first : Nat), .int .u64 (J.epoch : Nat), .int .u64 (J.low : Nat), vh] 58 (0, 0))
  row : RecsU (fun c => H c ∧ c ≠ br ∧ c ≠ bk) w vh T
  tr : J.held = T.map fun x => (x.1, x.2.2)
  bs : ∀ x ∈ T, BytesAt (fun c _ => H c ∧ c ≠ br ∧ c ≠ bk) w x.2.1 x.2.2
  gb : H bk ∧ bk ≠ br
  wf : J.ok
def RJ (w : World) (bk br : Nat) (H : Nat → Prop) (J : Jn) : Prop := ∃ vh T, RJAt w bk br H vh T J
theorem RecsU.fr {K : Nat → Prop} {K' : Nat → Obj → Prop} {w w' : World} {v : Value} {T : List (Nat × Value × List UInt8)} (h : RecsU K w v T) (hf : Fr K' w w') (hk : ∀ c o, w.heap[c]? = some o → K c → K' c o) : RecsU K w' v T := by
  obtain ⟨a, c, hv, hc, h⟩ := h
  refine ⟨a, c, hv, hc, ?_⟩
  rcases h with h | ⟨b, off, o, ha, ho, hb, h⟩
  · exact .inl h
  · exact .inr ⟨b, off, o, ha, hf.keep _ _ ho (hk _ _ ho hb), hb, fun i hi => ⟨hf.cell (fun o' ho' => hk _ _ ho' hb) (h i hi).1, hf.cell (fun o' ho' => hk _ _ ho' hb) (h i hi).2⟩⟩
theorem RecsU.mono {K K' : Nat → Prop} {w : World} {v : Value} {T : List (Nat × Value × List UInt8)} (h : RecsU K w v T) (hk : ∀ c, c < w.heap.size → K c → K' c) : RecsU K' w v T := by
  obtain ⟨a, c, hv, hc, h⟩ := h
  refine ⟨a, c, hv, hc, ?_⟩
  rcases h with h | ⟨b, off, o, ha, ho, hb, h⟩
  · exact .inl h
  · exact .inr ⟨b, off, o, ha, ho, hk _ (lt_of_some ho) hb, h⟩
theorem RecsU.form {K : Nat → Prop} {w : World} {v : Value} {T : List (Nat × Value × List UInt8)} (h : RecsU K w v T) : ∃ a c, v = .slice a T.length c := by
  obtain ⟨a, c, hv, _⟩ := h
  exact ⟨a, c, hv⟩
theorem RJAt.fr {K : Nat → Obj → Prop} {w w' : World} {bk br : Nat} {H : Nat → Prop} {vh : Value} {T : List (Nat × Value × List UInt8)} {J : Jn} (h : RJAt w bk br H vh T J) (hf : Fr K w w') (hk : ∀ c o, w.heap[c]? = some o → H c → c ≠ br → K c o) : RJAt w' bk br H vh T J :=
  ⟨hf.keep _ _ h.top (hk _ _ h.top h.gb.1 h.gb.2), h.row.fr hf fun c o ho hc => hk c o ho hc.1 hc.2.1, h.tr, fun x hx => by
    have h1 : BytesAt (fun c o => (H c ∧ c ≠ br ∧ c ≠ bk) ∧ K c o) w x.2.1 x.2.2 := (h.bs x hx).mono fun c o ho hc => ⟨hc, hk c o ho hc.1 hc.2.1⟩
    exact (h1.fr (hf.mono fun _ _ h => h.2)).mono fun _ _ _ h => h.1, h.gb, h.wf⟩
theorem RJ.fr {K : Nat → Obj → Prop} {w w' : World} {bk br : Nat} {H : Nat → Prop} {J : Jn} (h : RJ w bk br H J) (hf : Fr K w w') (hk : ∀ c o, w.heap[c]? = some o → H c → c ≠ br → K c o) : RJ w' bk br H J := by
  obtain ⟨vh, T, h⟩ := h
  exact ⟨vh, T, h.fr hf hk⟩
theorem RJ.tt {w w' : World} {bk br : Nat} {H : Nat → Prop} {J : Jn} (h : RJ w bk br H J) (hf : Fr (fun _ _ => True) w w') : RJ w' bk br H J := h.fr hf fun _ _ _ _ _ => trivial
theorem RJAt.mono {w : World} {bk br : Nat} {H H' : Nat → Prop} {vh : Value} {T : List (Nat × Value × List UInt8)} {J : Jn} (h : RJAt w bk br H vh T J) (hk : ∀ c, c < w.heap.size → H c → H' c) : RJAt w bk br H' vh T J :=
  ⟨h.top, h.row.mono fun c hl hc => ⟨hk c hl hc.1, hc.2⟩, h.tr, fun x hx => (h.bs x hx).mono fun c o ho hc => ⟨hk c (lt_of_some ho) hc.1, hc.2⟩, ⟨hk _ (lt_of_some h.top) h.gb.1, h.gb.2⟩, h.wf⟩
theorem RJ.mono {w : World} {bk br : Nat} {H H' : Nat → Prop} {J : Jn} (h : RJ w bk br H J) (hk : ∀ c, c < w.heap.size → H c → H' c) : RJ w bk br H' J := by
  obtain ⟨vh, T, h⟩ := h
  exact ⟨vh, T, h.mono hk⟩
theorem RJ.kp {P P' : Nat → Prop} {w w' : World} {bk br : Nat} {J : Jn} (h : RJ w bk br (fun c => ¬ P c) J) (k : Kp P P' w w') : RJ w' bk br (fun c => ¬ P' c) J :=
  ((h.mono (H' := fun c => ¬ P c ∧ c < w.heap.size) fun c hl hc => ⟨hc, hl⟩).fr k.fr fun c _ _ hc _ => hc.1).mono fun c _ hc => k.out c hc.2 hc.1
theorem Rdk.kp {P P' : Nat → Prop} {w w' : World} {br : Nat} {E : Dk} (h : Rdk w br (fun c => ¬ P c) E) (k : Kp P P' w w') : Rdk w' br (fun c => ¬ P' c) E :=
  (h.inside.fr k.fr fun c _ _ hc => hc.1).mono fun c hc => k.out c hc.2 hc.1
theorem RJAt.reads {w : World} {bk br : Nat} {H : Nat → Prop} {vh : Value} {T : List (Nat × Value × List UInt8)} {J : Jn} (h : RJAt w bk br H vh T J) (W : World) (f : Fr (fun _ _ => True) w W) :
    W.cell? ⟨bk, 0, none⟩ = some (.pointer (some ⟨br, 0, none⟩)) ∧ W.cell? ⟨bk, 1, none⟩ = some (.int .i64 (J.loc : Nat)) ∧ W.cell? ⟨bk, 2, none⟩ = some (.int .i64 (J.n : Nat)) ∧ W.cell? ⟨bk, 3, none⟩ = some (.int .u64 (J.first : Nat)) ∧ W.cell? ⟨bk, 4, none⟩ = some (.int .u64 (J.epoch : Nat)) ∧ W.cell? ⟨bk, 5, none⟩ = some (.int .u64 (J.low : Nat)) ∧ W.cell? ⟨bk, 6, none⟩ = some vh := by
  have t := f.keep _ _ h.top trivial
  exact ⟨cell_mk t rfl, cell_mk t rfl, cell_mk t rfl, cell_mk t rfl, cell_mk t rfl, cell_mk t rfl, cell_mk t rfl⟩
theorem RJAt.len {w : World} {bk br : Nat} {H : Nat → Prop} {vh : Value} {T : List (Nat × Value × List UInt8)} {J : Jn} (h : RJAt w bk br H vh T J) : T.length = J.held.length := by rw [h.tr, List.length_map]

set_option maxRecDepth 100000 in
theorem place_calls (w : World) (bk br : Nat) (H : Nat → Prop) (J : Jn) (s : Nat) (z : Int) (hz : z = s) (h : RJ w bk br H J) (hs : s < 4294967296) :
    Calls Tryd.prog 65 #[.pointer (some ⟨bk, 0, none⟩), .int .u64 z] w fun e w' => e = .returned (.int .i64 (J.sec s : Nat)) ∧ Fr (fun _ _ => True) w w' := by
  subst hz
  obtain ⟨vh, T, h⟩ := h
  have c1 := cell_mk (i := 1) h.top rfl
  have c2 := cell_mk (i := 2) h.top rfl
  have n1 := h.wf.n1
  have n2 := h.wf.n100
  have n3 := h.wf.locm
  unfold Jn.sec
  generalize J.loc = l at *
  generalize J.n = n at *
  clear h
  have e0 : (n : Int) % 18446744073709551616 = n := by omega
  have e1 : 0 ≤ (s : Int) % n := Int.emod_nonneg _ (by omega)
  have e2 : (s : Int) % n < n := Int.emod_lt_of_pos _ (by omega)
  go_enter Tryd.func65, Tryd.ntmps65
  go_wp2
  go_region
  all_goals
    go_wp2
    go_ret
    exact ⟨by push_cast; rfl, (Fr.refl _ _).drew⟩

set_option maxRecDepth 100000 in
set_option maxHeartbeats 2000000 in
theorem rall_calls (w : World) (bk br : Nat) (H : Nat → Prop) (J : Jn) (h : RJ w bk br H J) :
    Calls Tryd.prog 32 #[.pointer (some ⟨bk, 0, none⟩)] w fun e w' => (∃ a c, e = .returned (.slice a J.all.length c) ∧ LsAt (fun _ _ => True) w' (.slice a J.all.length c) J.all) ∧ Fr (fun _ _ => True) w w' := by
  obtain ⟨vh, T, h⟩ := h
  obtain ⟨ah, ch, rfl⟩ := h.row.form
  have CX : Hid (∀ W, Fr (fun _ _ => True) w W → W.cell? ⟨bk, 6, none⟩ = some (.slice ah T.length ch)) := fun W f => (h.reads W f).2.2.2.2.2.2
  have HJ := Lib.hid h
  have hT : T.length ≤ 100 := by have := h.wf.few; have := h.wf.n100; rw [h.len]; omega
  have HA : Hid (J.all = T.map (·.2.2)) := by
    show J.all = _
    unfold Jn.all; rw [h.tr, List.map_map]; rfl
  have HAL : Hid (J.all.length = T.length) := by show J.all.length = _; rw [HA.out, List.length_map]
  clear h
  go_enter Tryd.func32, Tryd.ntmps32
  go_wp2
  go_loopw [3, 4] (fun vo i wr => ∃ (j : Nat) (V : List (Value × List UInt8)) (a : Option Addr) (c : Nat), i = .int .i64 (j : Nat) ∧ vo = .slice a V.length c ∧ j ≤ T.length ∧ Hid (V.map (·.2) = (T.map (·.2.2)).take j) ∧ Hid (Row w.heap.size (fun _ => False) wr a c V) ∧ Hid (Fr (fun _ _ => True) w wr)) (fun _ i _ => T.length - (intOf i).toNat)
  case atStart => exact ⟨0, [], none, 0, rfl, rfl, Nat.zero_le _, rfl, ⟨OwnL.nil _ _, fun k e => by cases e⟩, Fr.refl _ _⟩
  case round =>
    obtain ⟨j, V, av, cv, rfl, rfl, hj, HV, HO, HF⟩ := hrel
    have hVl : Hid (V.length = j) := by
      have := congrArg List.length HV.out
      simp at this
      show V.length = j
      omega
    have c6 := CX.out wr HF.out
    by_cases hlt : j < T.length
    · have hltI : (j : Int) < T.length := by omega
      obtain ⟨g, off, o, rfl, _, hK, hcs⟩ : ∃ b off o, ah = some ⟨b, off, none⟩ ∧ w.heap[b]? = some o ∧ (H b ∧ b ≠ br ∧ b ≠ bk) ∧ ∀ i, (h : i < T.length) → w.cell? ⟨b, off + i * 2, none⟩ = some (.int .u64 (T[i].1 : Nat)) ∧ w.cell? ⟨b, off + i * 2 + 1, none⟩ = some T[i].2.1 := by
        obtain ⟨a, c, e, _, h⟩ := HJ.out.row
        cases e
        rcases h with h | ⟨b, off, o, ha, ho, hb, h⟩
        · rw [h] at hlt; cases hlt
        · exact ⟨b, off, o, ha, ho, hb, h⟩
      have k1 := HF.out.cell (fun _ _ => trivial) (hcs j hlt).2
      have hb := HJ.out.bs T[j] (List.getElem_mem hlt)
      have HTJ : Hid ((T.map (·.2.2)).take (j + 1) = (T.map (·.2.2)).take j ++ [T[j].2.2]) := by
        show _ = _
        rw [List.take_succ_eq_append_getElem (by simpa using hlt), List.getElem_map]
      obtain ⟨aj, cj, hvj⟩ := hb.form
      obtain ⟨x, hx⟩ : ∃ x, T[j] = x := ⟨_, rfl⟩
      rw [hx] at k1 hb HTJ hvj
      rw [hvj] at k1 hb
      obtain ⟨W3, hW3⟩ : ∃ W3, wr.alloc (.cells #[.slice aj x.2.2.length cj] 33 (0, 0)) = W3 := ⟨_, rfl⟩
      have FW : Hid (Fr (fun _ _ => True) wr W3) := hW3 ▸ (Fr.refl _ wr).alloc _
      have HX : Hid (∃ fz, W3.heap[wr.heap.size]? = some (.cells #[.slice aj x.2.2.length cj] 33 fz)) := ⟨_, hW3 ▸ heap_alloc_new _ _⟩
      have OW := Lib.hid (HO.out.own.tt FW.out)
      have BX : Hid (BytesAt (fun k _ => ¬ False ∧ (Value.slice av V.length cv).ownBlock ≠ some k) W3 (.slice aj x.2.2.length cj) x.2.2) := (((hb.mono (K' := fun c _ => c < w.heap.size) fun c o ho _ => lt_of_some ho).tt HF.out).tt FW.out).mono fun k o _ hk => ⟨fun h => h, fun e => by have := HO.out.ab k e; omega⟩
      have hVV : V.length ≤ 1000000 := by have := hVl.out; omega
      have VL := Lib.hid hVl.out
      clear hb hx hvj hcs hK
      go_wp2_with (at_builtin; refine wpList_append_l2 W3 rfl _ _ rfl (fun _ => ¬ False) _ V rfl OW wr.heap.size rfl (.slice aj x.2.2.length cj) x.2.2 HX BX hVV (fun _ _ h => h) ?_)
      intro a4 c4 w4 O4 G4 N4
      have F4 : Hid (Fr (fun _ _ => True) w w4) := (HF.out.trans FW.out).grown_new G4.out fun k e => HO.out.ab k e
      have R4 : Hid (Row w.heap.size (fun _ => False) w4 a4 c4 (V ++ [(.slice aj x.2.2.length cj, x.2.2)])) := ⟨by
        rw [List.length_append]
        exact O4.out.mono fun _ _ _ h => h, by
        rw [List.length_append]
        exact N4.out.above HO.out.ab (by have := HF.out.size; have := FW.out.size; omega)⟩
      clear hW3 OW BX HX O4 G4 N4
      go_wp2
      go_roundw
      case rel =>
        refine ⟨j + 1, V ++ [(.slice aj x.2.2.length cj, x.2.2)], a4, c4, by go_num, by rw [List.length_append]; rfl, by omega, ?_, R4, F4⟩
        show _ = _
        rw [List.map_append, HV.out, HTJ.out]; rfl
      case measure => simp [intOf]; omega
    · have hge : (T.length : Int) ≤ j := by omega
      go_wp2
      go_ret
      have hjT : j = T.length := by omega
      refine ⟨⟨av, cv, ?_, ?_⟩, HF.out⟩
      · rw [HAL.out, ← hjT, ← hVl.out]; rfl
      · have h1 := HO.out.own.ls
        rw [HV.out, hjT, List.take_of_length_le (by simp), ← HA.out] at h1
        rw [HAL.out, ← hjT, ← hVl.out]
        exact h1.mono fun _ _ _ _ => trivial
end Go.Proofs.YtcpbmempfeloaaaDoor
/- The document's journal: save. -/
namespace Go.Proofs.YtcpbmempfeloaaaDoor
open Go.RowKit
set_option linter.unusedVariables false
set_option linter.unusedSimpArgs false

set_option maxRecDepth 100000 in
set_option maxHeartbeats 2000000 in
theorem rsave_calls (w : World) (bk br : Nat) (H G : Nat → Prop) (J : Jn) (E : Dk) (h : RJ w bk br H J) (hr : Rdk w br G E) (hq : E.pend.length < 1000000) :
    Calls Tryd.prog 67 #[.pointer (some ⟨bk, 0, none⟩)] w fun e w' => e = .returned (.int .i64 (jsave J E).1) ∧ Rdk w' br (fun c => G c ∨ w.heap.size ≤ c) (jsave J E).2 ∧ Fr (fun c _ => c ≠ br) w w' := by
  obtain ⟨vh, T, h⟩ := h
  have CC := Lib.hid h.reads
  have KB : Hid (∀ W, Fr (fun c _ => c ≠ br) w W → W.cell? ⟨bk, 0, none⟩ = some (.pointer (some ⟨br, 0, none⟩)) ∧ W.cell? ⟨bk, 1, none⟩ = some (.int .i64 (J.loc : Nat))) := fun W f => by
    have t := f.keep _ _ h.top h.gb.2
    exact ⟨cell_mk t rfl, cell_mk t rfl⟩
  have HS : Hid (jsave J E = saveM E J.loc (le J.first 4 ++ le J.epoch 4 ++ le J.low 4)) := rfl
  have hf := h.wf.f
  have he := h.wf.e
  have hl := h.wf.l
  generalize J.first = f at *
  generalize J.epoch = p at *
  generalize J.low = l at *
  generalize J.loc = k at *
  have HR := Lib.hid hr
  have HQ := Lib.hid hq
  have c3 := (CC.out w (Fr.refl _ _)).2.2.2.1
  have K1 := Lib.hid (num01_calls w f 4 f 4 rfl rfl (by decide) (by omega))
  clear h hr hq
  go_enter Tryd.func67, Tryd.ntmps67
  go_wp2_with fail
  (with_reducible refine K1.out.mono ?_)
  rintro e w1 ⟨⟨a1, c1, rfl, o1⟩, f1⟩
  have O1 := Lib.hid o1
  have F1 := Lib.hid f1
  have c4 := (CC.out w1 f1).2.2.2.2.1
  have K2 := Lib.hid (num01_calls w1 p 4 p 4 rfl rfl (by decide) (by omega))
  clear o1 f1 K1 c3
  go_wp2_with fail
  (with_reducible refine K2.out.mono ?_)
  rintro e w2 ⟨⟨a2, c2, rfl, o2⟩, f2⟩
  have O2 : Hid (RowB w2 w.heap.size (.slice a1 4 c1) 4 (le f 4)) := own_tt O1.out f2
  have B2 : Hid (BytesAt (New w1.heap.size) w2 (.slice a2 4 c2) (le p 4)) := BytesAt.of_owns o2
  have F2 := Lib.hid (F1.out.trans f2)
  have R2 : Hid (le f 4 ++ le p 4 = le f 4 ++ le p 4) := rfl
  obtain ⟨r2, hr2⟩ : ∃ r, le f 4 ++ le p 4 = r := ⟨_, rfl⟩
  have R2' := Lib.hid hr2
  have N2 : Hid (4 + (le p 4).length = 8) := by show _ = _; rw [le_length]
  clear o2 f2 K2 c4 hr2 R2
  go_wp2_with (at_builtin; refine wpList_append_hid w2 rfl _ _ rfl w.heap.size F2.out.size _ 4 (le f 4) rfl O2 _ (le p 4) rfl B2 8 r2 R2' N2 (by decide) ?_)
  intro a3 c3 w3 O3 G3
  have F3 : Hid (Fr (fun _ _ => True) w w3) := F2.out.grown_new G3.out (own_new O2.out)
  have c5 := (CC.out w3 F3.out).2.2.2.2.2.1
  have K3 := Lib.hid (num01_calls w3 l 4 l 4 rfl rfl (by decide) (by omega))
  clear O1 O2 B2 F1 F2 G3
  go_wp2_with fail
  (with_reducible refine K3.out.mono ?_)
  rintro e w4 ⟨⟨a4, c4, rfl, o4⟩, f4⟩
  have O4 : Hid (RowB w4 w.heap.size (.slice a3 8 c3) 8 r2) := own_tt O3.out f4
  have B4 : Hid (BytesAt (New w3.heap.size) w4 (.slice a4 4 c4) (le l 4)) := BytesAt.of_owns o4
  have F4 := Lib.hid (F3.out.trans f4)
  obtain ⟨r4, hr4⟩ : ∃ r, r2 ++ le l 4 = r := ⟨_, rfl⟩
  have R4' := Lib.hid hr4
  have N4 : Hid (8 + (le l 4).length = 12) := by show _ = _; rw [le_length]
  clear o4 f4 K3 c5 hr4
  go_wp2_with (at_builtin; refine wpList_append_hid w4 rfl _ _ rfl w.heap.size F4.out.size _ 8 r2 rfl O4 _ (le l 4) rfl B4 12 r4 R4' N4 (by decide) ?_)
  intro a5 c5 w5 O5 G5
  have F5 : Hid (Fr (fun _ _ => True) w w5) := F4.out.grown_new G5.out (own_new O4.out)
  have hlen : r4.length = 12 := by rw [← R4'.out, ← R2'.out]; simp [le_length]
  have B5 : Hid (BytesAt (New w.heap.size) w5 (.slice a5 12 c5) r4) := by
    have h := O5.out
    have h2 : w5.ownsRow w.heap.size 5 1 (.slice a5 12 c5) r4.length (r4.map byteV) := by rw [hlen]; exact h
    exact BytesAt.of_owns h2
  have SC : Hid (∀ W, Fr (fun _ _ => True) w5 W → Calls Tryd.prog 107 #[.pointer (some ⟨br, 0, none⟩), .int .i64 (k : Nat), .slice a5 12 c5] W fun e w' => e = .returned (.int .i64 (jsave J E).1) ∧ Rdk w' br (fun c => G c ∨ W.heap.size ≤ c) (jsave J E).2 ∧ Fr (fun c _ => c ≠ br) W w') := fun W ff => by
    have := r_save W br G E k _ _ (HR.out.tt (F5.out.trans ff)) (B5.out.tt ff) HQ.out
    rw [← R4'.out, ← R2'.out, ← HS.out] at this
    exact this
  have S5 : Hid (Fr (fun c _ => c ≠ br) w w5) := F5.out.mono fun _ _ _ => trivial
  have s5 : Hid (w.heap.size ≤ w5.heap.size) := F5.out.size
  clear O3 O4 B4 F3 F4 O5 G5 hlen
  go_wp2_with fail
  go_region_held3 (fun W => W.cell? ⟨bk, 0, none⟩ = some (.pointer (some ⟨br, 0, none⟩)) ∧ W.cell? ⟨bk, 1, none⟩ = some (.int .i64 (k : Nat))) (first | exact KB.out _ S5.out.drew | exact KB.out _ S6.out)
    (first
      | (go_at_call 107; (with_reducible refine (SC.out _ (Fr.refl _ _).drew).mono ?_); rintro e w6 ⟨rfl, d6, f6⟩; have D6 := Lib.hid d6; have S6 : Hid (Fr (fun c _ => c ≠ br) w w6) := S5.out.drew.trans f6; clear d6 f6))
  all_goals
    go_wp2
    go_ret
    exact ⟨rfl, D6.out.mono fun c h => by
      have := s5.out
      rcases h with h | h
      · exact .inl h
      · exact .inr (Nat.le_trans this h), S6.out⟩
end Go.Proofs.YtcpbmempfeloaaaDoor
/- The document's journal: appends of records. -/
namespace Go.Proofs.YtcpbmempfeloaaaDoor
open Go.RowKit
set_option linter.unusedVariables false
set_option linter.unusedSimpArgs false

theorem info_rr : (Tryd.prog.info? 124).map (fun i => (i.zero, i.size, i.bytes)) = some (some (.agg #[.int .u64 0, .slice none 0 0]), 2, 32) := by kernel_rfl
theorem cellsU_length (T : List (Nat × Value × List UInt8)) : (cellsU T).length = T.length * 2 := by
  unfold cellsU
  induction T with
  | nil => rfl
  | cons x T ih => rw [List.flatMap_cons, List.length_append, ih]; simp; omega
theorem cellsU_append (T X : List (Nat × Value × List UInt8)) : cellsU (T ++ X) = cellsU T ++ cellsU X := by simp [cellsU]
theorem cellsU_get (T : List (Nat × Value × List UInt8)) (i : Nat) (h : i < T.length) : (cellsU T)[i * 2]? = some (.int .u64 (T[i].1 : Nat)) ∧ (cellsU T)[i * 2 + 1]? = some T[i].2.1 := by
  induction T generalizing i with
  | nil => cases h
  | cons x T ih =>
    cases i with
    | zero => exact ⟨rfl, rfl⟩
    | succ i =>
      have := ih i (by simpa using h)
      have e : (i + 1) * 2 = i * 2 + 1 + 1 := by omega
      rw [e]
      exact this
/-- A row of one's own is a slice of records that is read. -/
theorem RecsU.of_own {K : Nat → Prop} {w : World} {B : Nat} {v : Value} {T : List (Nat × Value × List UInt8)} (h : w.ownsRow B 124 2 v T.length (cellsU T)) (hk : ∀ c, v.ownBlock = some c → K c) : RecsU K w v T := by
  have h0 := h
  rcases h.2 with ⟨hv, h0⟩ | ⟨g, cap, cur, hv, hb, hg, hnc, _, _, ht⟩
  · exact ⟨none, 0, by rw [hv, h0], by omega, .inl (List.length_eq_zero_iff.1 h0)⟩
  · refine ⟨_, cap, hv, hnc, .inr ⟨g, 0, _, rfl, hg, hk g (by rw [hv]; rfl), fun i hi => ?_⟩⟩
    have k := fun j u => h0.cells (g := g) (by rw [hv]; rfl) j u
    obtain ⟨g1, g2⟩ := cellsU_get T i hi
    have k1 := k _ _ g1
    have k2 := k _ _ g2
    rw [Addr.add_lit, Nat.zero_add] at k1 k2
    exact ⟨by rw [Nat.zero_add]; exact k1, by rw [Nat.zero_add]; exact k2⟩
theorem none_run0 {P : Program} (w : World) (t ty e : TypeId) (i : TypeInfo) (ht : P.underlying t = some (.slice e)) (hi : P.info? e = some i) (c : Nat) : (Builtin.append_ #[t, t] ty #[.slice none 0 0, .slice none 0 c]).run P w = .ok (.slice none 0 0) w := by
  simp [Builtin.append_, run_underlying ht, sizeOf, typeInfo, hi, Builtin.lenOf, Builtin.firstCells]
theorem none_run1 {P : Program} (w : World) (t ty e : TypeId) (i : TypeInfo) (ht : P.underlying t = some (.slice e)) (hi : P.info? e = some i) (c g n cap : Nat) (hnc : n ≤ cap) : (Builtin.append_ #[t, t] ty #[.slice (some ⟨g, 0, none⟩) n cap, .slice none 0 c]).run P w = .ok (.slice (some ⟨g, 0, none⟩) n cap) w := by
  simp [Builtin.append_, run_underlying ht, sizeOf, typeInfo, hi, Builtin.lenOf, Builtin.firstCells, hnc, storeCells]
set_option maxRecDepth 100000 in
/-- An append of records, at a step of a region that draws its order. -/
theorem step_append_ru {ops : Array Oper} {o : Oper} {a : Act} {K : Act → World → Prop} {Q : Exit → Act → World → Prop} {E : Prop} (W : World) (hgd : o.guard = none) (s x : Operand)
    (ho : o.op = .call { callee := .builtin .append, args := #[s, x], argTypes := #[56, 56] }) (v : Value) (T : List (Nat × Value × List UInt8)) (hs : a.eval s = v) (hown : Hid (W.ownsRow 0 124 2 v T.length (cellsU T)))
    (vx : Value) (X : List (Nat × Value × List UInt8)) (hx : a.eval x = vx) (hX : Hid (RecsU (fun _ => True) W vx X)) (hone : Hid (∀ x ∈ X, x.2.1.oneCell' = true)) (n : Nat) (hn : T.length + X.length = n) (hn6 : n ≤ 1000000)
    (h : ∀ g c w', Hid (w'.ownsRow 0 124 2 (.slice g n c) n (cellsU (T ++ X))) → Hid (W.grownBy w' v.ownBlock) → Hid (OwnNext W v (.slice g n c)) → K (a.put o.dst (.slice g n c)) w') :
    if Region.wanted o (yielded ops a.tmps) = true then Oper.wp Tryd.prog o a W K Q else E := by
  subst hn
  obtain ⟨i0, hi, hz0, hz1, hz2⟩ := info_parts info_rr
  have hw : Region.wanted o (yielded ops a.tmps) = true := by simp [Region.wanted, hgd]
  rw [if_pos hw]
  obtain ⟨ax, cx, rfl, hcx, hXX⟩ := hX.out
  have fin : ∀ v' w', w'.ownsRow 0 124 2 v' (T.length + X.length) (cellsU T ++ cellsU X) → W.grownBy w' v.ownBlock → OwnNext W v v' → K (a.put o.dst v') w' := fun v' w' h1 h2 h3 => by
    obtain ⟨g, c, rfl⟩ := own_form h1
    rw [← cellsU_append] at h1
    exact h g c w' h1 h2 h3
  cases hax : ax with
  | none =>
    subst hax
    have hX0 : X = [] := by
      rcases hXX with h | ⟨b, off, o, e, _⟩
      · exact h
      · cases e
    subst hX0
    have hr : (Builtin.append_ #[56, 56] o.type #[v, .slice none 0 cx]).run Tryd.prog W = .ok v W := by
      have ht := Tryd.underlying56
      rcases hown.out.2 with ⟨rfl, h0⟩ | ⟨g, cap, cur, rfl, _, _, hnc, _⟩
      · exact none_run0 (P := Tryd.prog) W _ _ _ i0 ht hi cx
      · exact none_run1 (P := Tryd.prog) W _ _ _ i0 ht hi cx g _ cap hnc
    replace hx : a.eval x = .slice none 0 cx := hx
    unfold Oper.wp execOp
    simp only [ho, resolve, invoke, builtin, Sem.run_bind, Sem.run_pure, Result.andThen_ok, List.map_toArray, List.map_cons, List.map_nil, hs, hx, hr]
    exact fin v W (by simpa [cellsU] using hown.out) ⟨rfl, rfl, rfl, Nat.le_refl _, fun _ _ _ => rfl⟩ (.inl rfl)
  | some ad =>
    subst hax
    refine wp_append_own2 W s x 56 ho 0 124 i0 _ 2 32 Tryd.underlying56 hi hz0 hz1 hz2 rfl (by decide) v T.length (cellsU T) hs hown.out ad X.length cx (cellsU X) hx (cellsU_length X) (fun j u hu => ?_) (fun u hu => ?_) (by unfold maxLen; omega) (by omega) (Nat.zero_le _) fin
    · have hj : j < X.length * 2 := by
        rw [← cellsU_length]
        exact (List.getElem?_eq_some_iff.1 hu).1
      rcases hXX with h | ⟨b, off, o, e, _, _, hc⟩
      · subst h; cases hu
      · cases e
        have hi2 : j / 2 < X.length := by omega
        obtain ⟨g1, g2⟩ := cellsU_get X (j / 2) hi2
        obtain ⟨k1, k2⟩ := hc (j / 2) hi2
        rcases Nat.mod_two_eq_zero_or_one j with hm | hm
        · have e2 : j / 2 * 2 = j := by omega
          rw [e2] at g1 k1
          rw [hu] at g1
          cases g1
          rw [Addr.add_lit]
          exact k1
        · have e2 : j / 2 * 2 + 1 = j := by omega
          rw [e2] at g2
          have e3 : off + j / 2 * 2 + 1 = off + j := by omega
          rw [e3] at k2
          rw [hu] at g2
          cases g2
          rw [Addr.add_lit]
          exact k2
    · unfold cellsU at hu
      obtain ⟨y, hy, hyu⟩ := List.mem_flatMap.1 hu
      rcases List.mem_cons.1 hyu with rfl | hyu
      · rfl
      · rw [List.mem_singleton.1 hyu]; exact hone.out y hy

theorem RJAt.one {w : World} {bk br : Nat} {H : Nat → Prop} {vh : Value} {T : List (Nat × Value × List UInt8)} {J : Jn} (h : RJAt w bk br H vh T J) : ∀ x ∈ T, x.2.1.oneCell' = true := fun x hx => by
  obtain ⟨a, c, e⟩ := (h.bs x hx).form
  rw [e]; rfl
/-- The store of an append: what the journal is behind it. -/
theorem RJAt.put {w w6 : World} {bk br : Nat} {H : Nat → Prop} {vh v6 : Value} {T : List (Nat × Value × List UInt8)} {J : Jn} (h : RJAt w bk br H vh T J) (f : Fr (fun _ _ => True) w w6) (x : Nat × Value × List UInt8)
    (ho : w6.ownsRow 0 124 2 v6 (T.length + 1) (cellsU (T ++ [x]))) (hn : ∀ k, v6.ownBlock = some k → w.heap.size ≤ k) (hb : BytesAt (fun c _ => H c ∧ c ≠ br ∧ c ≠ bk) w x.2.1 x.2.2) (hbr : br < w.heap.size) (hx : x.1 < 4294967296 ∧ x.2.2.length ≤ 43) (hfew : T.length < J.n) :
    w6.cell? ⟨bk, 6, none⟩ = some vh ∧ w6.frozen? ⟨bk, 6, none⟩ = false ∧ RJAt (w6.setCell ⟨bk, 6, none⟩ v6) bk br (fun c => H c ∨ w.heap.size ≤ c) v6 (T ++ [x]) { J with held := J.held ++ [(x.1, x.2.2)] } ∧ Fr (fun c _ => c ≠ bk) w (w6.setCell ⟨bk, 6, none⟩ v6) := by
  have t1 := f.keep _ _ h.top trivial
  have hbk : bk < w.heap.size := lt_of_some h.top
  have F : Fr (fun c _ => c ≠ bk) w (w6.setCell ⟨bk, 6, none⟩ v6) := (f.mono fun _ _ _ => trivial).setCell (fun _ _ h => h rfl) _
  have hB : ∀ {v : Value} {bs : List UInt8}, BytesAt (fun c _ => H c ∧ c ≠ br ∧ c ≠ bk) w v bs → BytesAt (fun c _ => (H c ∨ w.heap.size ≤ c) ∧ c ≠ br ∧ c ≠ bk) (w6.setCell ⟨bk, 6, none⟩ v6) v bs := fun {v bs} hb => by
    have h1 : BytesAt (fun c o => (H c ∧ c ≠ br ∧ c ≠ bk) ∧ c ≠ bk) w v bs := hb.mono fun c o ho hc => ⟨hc, hc.2.2⟩
    exact (h1.fr (F.mono fun _ _ h => h.2)).mono fun _ _ _ h => ⟨.inl h.1.1, h.1.2⟩
  refine ⟨cell_mk t1 rfl, frozen_mk t1, ⟨?_, ?_, ?_, fun y hy => ?_, ⟨.inl h.gb.1, h.gb.2⟩, ?_⟩, F⟩
  · have := heap_setCell_same (o := 6) t1 v6
    rw [this]; rfl
  · have o2 : (w6.setCell ⟨bk, 6, none⟩ v6).ownsRow 0 124 2 v6 (T ++ [x]).length (cellsU (T ++ [x])) := by
      rw [List.length_append]
      exact ownsRow_setCell_ne ho (fun e => by have := hn _ e; exact Nat.lt_irrefl _ (Nat.lt_of_lt_of_le hbk this)) _
    refine RecsU.of_own o2 fun c e => ?_
    have := hn c e
    exact ⟨.inr this, by omega, by omega⟩
  · show J.held ++ _ = _
    rw [h.tr]; simp
  · rcases List.mem_append.1 hy with hy | hy
    · exact hB (h.bs y hy)
    · rw [List.mem_singleton.1 hy]; exact hB hb
  · have hw := h.wf
    refine ⟨hw.n1, hw.n100, hw.locm, hw.f, hw.e, hw.l, ?_, fun y hy => ?_⟩
    · show (J.held ++ _).length ≤ J.n
      rw [List.length_append, ← h.len]; simp; omega
    · rcases List.mem_append.1 hy with hy | hy
      · exact hw.hd y hy
      · rw [List.mem_singleton.1 hy]; exact hx
end Go.Proofs.YtcpbmempfeloaaaDoor
/- The document's journal: Trim. -/
namespace Go.Proofs.YtcpbmempfeloaaaDoor
open Go.RowKit
set_option linter.unusedVariables false
set_option linter.unusedSimpArgs false

/-- The journal's own block is written. -/
theorem RJAt.turn {w w' : World} {bk br : Nat} {H : Nat → Prop} {vh v' : Value} {T T' : List (Nat × Value × List UInt8)} {J J' : Jn} (h : RJAt w bk br H vh T J) (f : Fr (fun c _ => c ≠ bk) w w')
    (t : w'.heap[bk]? = some (.cells #[.pointer (some ⟨br, 0, none⟩), .int .i64 (J'.loc : Nat), .int .i64 (J'.n : Nat), .int .u64 (J'.first : Nat), .int .u64 (J'.epoch : Nat), .int .u64 (J'.low : Nat), v'] 58 (0, 0)))
    (hr : RecsU (fun c => H c ∧ c ≠ br ∧ c ≠ bk) w v' T') (hT : ∀ x ∈ T', x ∈ T) (hH : J'.held = T'.map fun x => (x.1, x.2.2)) (ho : J'.ok) : RJAt w' bk br H v' T' J' :=
  ⟨t, hr.fr f fun c _ _ hc => hc.2.2, hH, fun x hx => by
    have h1 : BytesAt (fun c o => (H c ∧ c ≠ br ∧ c ≠ bk) ∧ c ≠ bk) w x.2.1 x.2.2 := (h.bs x (hT x hx)).mono fun c o _ hc => ⟨hc, hc.2.2⟩
    exact (h1.fr (f.mono fun _ _ h => h.2)).mono fun _ _ _ h => h.1, h.gb, ho⟩
theorem RecsU.drop {K : Nat → Prop} {w : World} {b off c : Nat} {T : List (Nat × Value × List UInt8)} (h : RecsU K w (.slice (some ⟨b, off, none⟩) T.length c) T) (k : Nat) (hk : k ≤ T.length) : RecsU K w (.slice (some ⟨b, off + k * 2, none⟩) (T.length - k) (c - k)) (T.drop k) := by
  obtain ⟨a, c', e, hc, h⟩ := h
  cases e
  refine ⟨_, _, by rw [List.length_drop], by rw [List.length_drop]; omega, ?_⟩
  rcases h with h | ⟨b', off', o, e, ho, hb, h⟩
  · exact .inl (by rw [h, List.drop_nil])
  · cases e
    refine .inr ⟨_, _, o, rfl, ho, hb, fun i hi => ?_⟩
    have hi' : k + i < T.length := by rw [List.length_drop] at hi; omega
    obtain ⟨h1, h2⟩ := h (k + i) hi'
    have e : off + k * 2 + i * 2 = off + (k + i) * 2 := by omega
    rw [e, List.getElem_drop]
    exact ⟨h1, h2⟩
theorem RecsU.tail {K : Nat → Prop} {w : World} {b off c k : Nat} {T : List (Nat × Value × List UInt8)} (h : RecsU K w (.slice (some ⟨b, off, none⟩) T.length c) T) (hc : c = k) (hT : T.length = k) : RecsU K w (.slice (some ⟨b, off, none⟩) 0 0) (T.drop k) :=
  ⟨_, 0, by rw [List.length_drop, hT, Nat.sub_self], by rw [List.length_drop, hT]; omega, .inl (by rw [← hT, List.drop_length])⟩
theorem RecsU.take {K : Nat → Prop} {w : World} {a : Option Addr} {c : Nat} {T : List (Nat × Value × List UInt8)} (h : RecsU K w (.slice a T.length c) T) (k : Nat) (hk : k ≤ T.length) : RecsU K w (.slice a k c) (T.take k) := by
  have hl : (T.take k).length = k := by rw [List.length_take]; omega
  obtain ⟨a', c', e, hc, h⟩ := h
  cases e
  refine ⟨_, _, by rw [hl], by rw [hl]; omega, ?_⟩
  rcases h with h | ⟨b', off', o, e, ho, hb, h⟩
  · exact .inl (by rw [h, List.take_nil])
  · refine .inr ⟨b', off', o, e, ho, hb, fun i hi => ?_⟩
    have hi' : i < T.length := by omega
    rw [List.getElem_take]
    exact h i hi'

set_option maxRecDepth 100000 in
set_option maxHeartbeats 4000000 in
theorem rtrim_calls (w : World) (bk br : Nat) (H G : Nat → Prop) (J : Jn) (E : Dk) (k : Int) (h : RJ w bk br H J) (hr : Rdk w br G E) (hGk : ¬ G bk) (hq : E.pend.length < 1000000) (hfn : J.first + J.held.length < 4294967296) :
    Calls Tryd.prog 27 #[.pointer (some ⟨bk, 0, none⟩), .int .i64 k] w fun e w' => e = .returned (.int .i64 (jtrim J E k).1) ∧ Rdk w' br (fun c => G c ∨ w.heap.size ≤ c) (jtrim J E k).2.2 ∧ RJ w' bk br H (jtrim J E k).2.1 ∧ Fr (fun c _ => c ≠ br ∧ c ≠ bk) w w' := by
  obtain ⟨loc, n, first, ep, low, HH⟩ := J
  obtain ⟨vh, T, hj⟩ := h
  obtain ⟨av, cv, rfl⟩ := hj.row.form
  have hn100 : n ≤ 100 := hj.wf.n100
  have hf : first < 4294967296 := hj.wf.f
  have hlw : low < 4294967296 := hj.wf.l
  have HLEN : Hid (T.length = HH.length) := hj.len
  replace hfn : first + T.length < 4294967296 := by rw [HLEN.out]; exact hfn
  have hTn : T.length ≤ n := by rw [HLEN.out]; exact hj.wf.few
  have HTR : Hid (HH = T.map fun x => (x.1, x.2.2)) := hj.tr
  have EJ : Hid (jtrim ⟨loc, n, first, ep, low, HH⟩ E k = if k < 0 ∨ (HH.length : Int) < k then (1, ⟨loc, n, first, ep, low, HH⟩, E) else ((jsave ⟨loc, n, (first + k.toNat) % 4294967296, ep, lastE low (HH.take k.toNat), HH.drop k.toNat⟩ E).1, ⟨loc, n, (first + k.toNat) % 4294967296, ep, lastE low (HH.take k.toNat), HH.drop k.toNat⟩, (jsave ⟨loc, n, (first + k.toNat) % 4294967296, ep, lastE low (HH.take k.toNat), HH.drop k.toNat⟩ E).2)) := rfl
  obtain ⟨_, _, _, c3, c4, c5, c6⟩ := hj.reads w (Fr.refl _ _)
  have HJ := Lib.hid hj
  have HR := Lib.hid hr
  have HQ := Lib.hid hq
  clear hr hq
  by_cases hk : k < 0 ∨ (T.length : Int) < k
  · have OUT : Hid (jtrim ⟨loc, n, first, ep, low, HH⟩ E k = (1, ⟨loc, n, first, ep, low, HH⟩, E)) := by
      show _ = _
      rw [EJ.out, if_pos (by rw [← HLEN.out]; exact hk)]
    clear hj
    by_cases h0 : k < 0
    · have h0' : decide (k < 0) = true := by simpa using h0
      clear hk
      go_enter Tryd.func27, Tryd.ntmps27
      go_wp2
      go_ret
      rw [OUT.out]
      exact ⟨rfl, HR.out.mono fun c hc => .inl hc, ⟨_, T, HJ.out⟩, Fr.refl _ _⟩
    · have h0' : decide (k < 0) = false := by simpa using h0
      have h1' : (T.length : Int) < k := by omega
      clear hk
      go_enter Tryd.func27, Tryd.ntmps27
      go_wp2
      go_ret
      rw [OUT.out]
      exact ⟨rfl, HR.out.mono fun c hc => .inl hc, ⟨_, T, HJ.out⟩, Fr.refl _ _⟩
  · obtain ⟨kn, rfl⟩ := Int.eq_ofNat_of_zero_le (show 0 ≤ k by omega)
    have hkT : kn ≤ T.length := by omega
    have hkc : kn ≤ cv := by obtain ⟨a, c, e, hc, _⟩ := hj.row; cases e; omega
    have h1' : decide ((T.length : Int) < kn) = false := by simp; omega
    have h1n : decide (T.length < kn) = false := by simp; omega
    have hwk : IntKind.u64.wrap (kn : Int) = kn := by rw [IntKind.wrap_u64]; omega
    obtain ⟨f', hf'⟩ : ∃ f', (first + kn) % 4294967296 = f' := ⟨_, rfl⟩
    have hwf : IntKind.u64.wrap ((first : Int) + (kn : Int)) = (f' : Int) := by rw [IntKind.wrap_u64, ← hf']; omega
    have hff : f' < 4294967296 := by rw [← hf']; exact Nat.mod_lt _ (by decide)
    obtain ⟨l', hl'⟩ : ∃ l', lastE low (HH.take kn) = l' := ⟨_, rfl⟩
    have E2 := EJ.out
    rw [if_neg (by rw [← HLEN.out]; exact hk), Int.toNat_natCast, hf', hl'] at E2
    obtain ⟨c9, E9, h9⟩ : ∃ c9 E9, jsave ⟨loc, n, f', ep, l', HH.drop kn⟩ E = (c9, E9) := ⟨_, _, rfl⟩
    rw [h9] at E2
    have EQ := Lib.hid E2
    have H9 := Lib.hid h9
    have HL := Lib.hid hl'
    have OK : Hid (l' < 4294967296 → Jn.ok ⟨loc, n, f', ep, l', HH.drop kn⟩) := fun hl => by
      have hw := HJ.out.wf
      exact ⟨hw.n1, hw.n100, hw.locm, hff, hw.e, hl, Nat.le_trans (by show (HH.drop kn).length ≤ HH.length; rw [List.length_drop]; omega) hw.few, fun x hx => hw.hd x (List.mem_of_mem_drop hx)⟩
    have HMD : Hid (HH.drop kn = (T.drop kn).map fun x => (x.1, x.2.2)) := by show _ = _; rw [HTR.out, List.map_drop]
    have SV : Hid (∀ W v' T', RJAt W bk br H v' T' ⟨loc, n, f', ep, l', HH.drop kn⟩ → Fr (fun c _ => c ≠ bk) w W → Calls Tryd.prog 67 #[.pointer (some ⟨bk, 0, none⟩)] W fun e w' => e = .returned (.int .i64 c9) ∧ Rdk w' br (fun c => G c ∨ w.heap.size ≤ c) E9 ∧ RJ w' bk br H ⟨loc, n, f', ep, l', HH.drop kn⟩ ∧ Fr (fun c _ => c ≠ br ∧ c ≠ bk) w w') := fun W v' T' hJ hF => (rsave_calls W bk br H G _ E ⟨_, _, hJ⟩ (HR.out.fr hF fun c _ _ hc e => hGk (e ▸ hc)) HQ.out).mono fun e w' ⟨h1, h2, h3⟩ => ⟨by rw [H9.out] at h1; exact h1, Rdk.mono (by rw [H9.out] at h2; exact h2) fun c (hc : G c ∨ W.heap.size ≤ c) => hc.imp id (Nat.le_trans hF.size), RJ.fr ⟨_, _, hJ⟩ h3 (fun _ _ _ _ h => h), (hF.mono fun c _ h => h.2).trans (h3.mono fun c _ h => h.1)⟩
    have z3 := frozen_mk (i := 3) hj.top
    have z5 := frozen_mk (i := 5) hj.top
    have z6 := frozen_mk (i := 6) hj.top
    clear hk E2 hf' hl' EJ h9
    by_cases hz : kn = 0
    · subst hz
      have hl0 : l' = low := by rw [← HL.out]; rfl
      have hwf' : IntKind.u64.wrap (first : Int) = (f' : Int) := by have := hwf; simpa using this
      have hfe : (first : Int) = f' := by rw [← hwf', IntKind.wrap_u64]; omega
      have hfn2 : f' = first := by omega
      clear hj
      have hcv : T.length ≤ cv := by obtain ⟨a, c, e, hc, _⟩ := HJ.out.row; cases e; exact hc
      go_enter Tryd.func27, Tryd.ntmps27
      go_wp2_with fail
      obtain ⟨w2, hw2⟩ : ∃ w2, (w.setCell ⟨bk, 3, none⟩ (.int .u64 (f' : Nat))).setCell ⟨bk, 6, none⟩ (.slice av T.length cv) = w2 := ⟨_, rfl⟩
      have t2 : w2.heap[bk]? = some (.cells #[.pointer (some ⟨br, 0, none⟩), .int .i64 (loc : Nat), .int .i64 (n : Nat), .int .u64 (f' : Nat), .int .u64 (ep : Nat), .int .u64 (l' : Nat), .slice av T.length cv] 58 (0, 0)) := by
        rw [← hw2, hl0]
        exact heap_setCell_same (o := 6) (heap_setCell_same (o := 3) HJ.out.top _) _
      have f2 : Fr (fun c _ => c ≠ bk) w w2 := by
        rw [← hw2]
        exact ((Fr.refl _ w).setCell (fun _ _ h => h rfl) _).setCell (fun _ _ h => h rfl) _
      have j2 : RJAt w2 bk br H (.slice av T.length cv) T ⟨loc, n, f', ep, l', HH.drop 0⟩ := HJ.out.turn f2 t2 HJ.out.row (fun _ h => h) HTR.out (OK.out (by omega))
      rw [hw2]
      have SX := Lib.hid (SV.out w2 _ _ j2 f2)
      clear hw2 t2 f2 j2 SV c3 c4 c5 c6 hl0 hfn2 hfe hwf'
      (with_reducible refine SX.out.mono ?_)
      rintro e w3 ⟨rfl, P3⟩
      have P := Lib.hid P3
      clear P3 SX
      go_wp2
      go_ret
      rw [EQ.out]
      exact ⟨rfl, P.out⟩
    · obtain ⟨kp, rfl⟩ : ∃ kp, kn = kp + 1 := ⟨kn - 1, by omega⟩
      obtain ⟨b, off, o, rfl, _, hK, hcs⟩ : ∃ b off o, av = some ⟨b, off, none⟩ ∧ w.heap[b]? = some o ∧ (H b ∧ b ≠ br ∧ b ≠ bk) ∧ ∀ i, (h : i < T.length) → w.cell? ⟨b, off + i * 2, none⟩ = some (.int .u64 (T[i].1 : Nat)) ∧ w.cell? ⟨b, off + i * 2 + 1, none⟩ = some T[i].2.1 := by
        obtain ⟨a, c, e, _, h⟩ := HJ.out.row
        cases e
        rcases h with h | ⟨b, off, o, ha, ho, hb, h⟩
        · rw [h] at hkT; exact absurd hkT (by simp)
        · exact ⟨b, off, o, ha, ho, hb, h⟩
      have hcv : T.length ≤ cv := by obtain ⟨a, c, e, hc, _⟩ := HJ.out.row; cases e; exact hc
      have k0 := (hcs kp (by omega)).1
      have hlk : l' = T[kp].1 := by
        rw [← HL.out, lastE_get low HH kp (by rw [← HLEN.out]; omega)]
        have := HTR.out
        subst this
        simp
      have hll : l' < 4294967296 := by
        have := HJ.out.wf.hd (T[kp].1, T[kp].2.2) (by rw [HJ.out.tr]; exact List.mem_map.2 ⟨T[kp], List.getElem_mem _, rfl⟩)
        rw [hlk]; exact this.1
      rw [← hlk] at k0
      obtain ⟨kz, hkz⟩ : ∃ kz : Int, ((kp + 1 : Nat) : Int) = kz := ⟨_, rfl⟩
      have hk2 : ((kp + 1 : Nat) : Int) = kz := hkz
      have hks : kz.toNat - 1 = kp := by omega
      have hk0 : 0 < kz := by omega
      have hkk : kz ≤ T.length := by omega
      have hkn : ¬ kz < 0 := by omega
      have hkx : kz.toNat = kp + 1 := by omega
      rw [hkz] at hwk hwf
      have HLL := Lib.hid hll
      have HRO := Lib.hid HJ.out.row
      clear hcs hj h1' h1n hlk hll hk2
      by_cases hce : cv = kp + 1
      · have hte : T.length = kp + 1 := by omega
        have HTE := Lib.hid hte
        go_enter Tryd.func27, Tryd.ntmps27
        go_wp2_with fail
        obtain ⟨w2, hw2⟩ : ∃ w2, ((w.setCell ⟨bk, 5, none⟩ (.int .u64 (l' : Nat))).setCell ⟨bk, 3, none⟩ (.int .u64 (f' : Nat))).setCell ⟨bk, 6, none⟩ (.slice (some ⟨b, off, none⟩) 0 0) = w2 := ⟨_, rfl⟩
        have t2 : w2.heap[bk]? = some (.cells #[.pointer (some ⟨br, 0, none⟩), .int .i64 (loc : Nat), .int .i64 (n : Nat), .int .u64 (f' : Nat), .int .u64 (ep : Nat), .int .u64 (l' : Nat), .slice (some ⟨b, off, none⟩) 0 0] 58 (0, 0)) := by
          rw [← hw2]
          exact heap_setCell_same (o := 6) (heap_setCell_same (o := 3) (heap_setCell_same (o := 5) HJ.out.top _) _) _
        have f2 : Fr (fun c _ => c ≠ bk) w w2 := by
          rw [← hw2]
          exact (((Fr.refl _ w).setCell (fun _ _ h => h rfl) _).setCell (fun _ _ h => h rfl) _).setCell (fun _ _ h => h rfl) _
        have j2 : RJAt w2 bk br H (.slice (some ⟨b, off, none⟩) 0 0) (T.drop (kp + 1)) ⟨loc, n, f', ep, l', HH.drop (kp + 1)⟩ := HJ.out.turn f2 t2 (HRO.out.tail hce HTE.out) (fun x hx => List.mem_of_mem_drop hx) HMD.out (OK.out HLL.out)
        rw [hw2]
        have SX := Lib.hid (SV.out w2 _ _ j2 f2)
        clear hw2 t2 f2 j2 SV c3 c4 c5 c6 k0
        (with_reducible refine SX.out.mono ?_)
        rintro e w3 ⟨rfl, P3⟩
        have P := Lib.hid P3
        clear P3 SX
        go_wp2
        go_ret
        have hkz2 := hkz
        subst hkz2
        rw [EQ.out]
        exact ⟨rfl, P.out⟩
      · have hce' : kp + 1 < cv := by omega
        go_enter Tryd.func27, Tryd.ntmps27
        go_wp2_with fail
        obtain ⟨w2, hw2⟩ : ∃ w2, ((w.setCell ⟨bk, 5, none⟩ (.int .u64 (l' : Nat))).setCell ⟨bk, 3, none⟩ (.int .u64 (f' : Nat))).setCell ⟨bk, 6, none⟩ (.slice (some ⟨b, off + (kp + 1) * 2, none⟩) (T.length - (kp + 1)) (cv - (kp + 1))) = w2 := ⟨_, rfl⟩
        have t2 : w2.heap[bk]? = some (.cells #[.pointer (some ⟨br, 0, none⟩), .int .i64 (loc : Nat), .int .i64 (n : Nat), .int .u64 (f' : Nat), .int .u64 (ep : Nat), .int .u64 (l' : Nat), .slice (some ⟨b, off + (kp + 1) * 2, none⟩) (T.length - (kp + 1)) (cv - (kp + 1))] 58 (0, 0)) := by
          rw [← hw2]
          exact heap_setCell_same (o := 6) (heap_setCell_same (o := 3) (heap_setCell_same (o := 5) HJ.out.top _) _) _
        have f2 : Fr (fun c _ => c ≠ bk) w w2 := by
          rw [← hw2]
          exact (((Fr.refl _ w).setCell (fun _ _ h => h rfl) _).setCell (fun _ _ h => h rfl) _).setCell (fun _ _ h => h rfl) _
        have j2 : RJAt w2 bk br H (.slice (some ⟨b, off + (kp + 1) * 2, none⟩) (T.length - (kp + 1)) (cv - (kp + 1))) (T.drop (kp + 1)) ⟨loc, n, f', ep, l', HH.drop (kp + 1)⟩ := HJ.out.turn f2 t2 (HRO.out.drop (kp + 1) hkT) (fun x hx => List.mem_of_mem_drop hx) HMD.out (OK.out HLL.out)
        rw [hw2]
        have SX := Lib.hid (SV.out w2 _ _ j2 f2)
        clear hw2 t2 f2 j2 SV c3 c4 c5 c6 k0
        (with_reducible refine SX.out.mono ?_)
        rintro e w3 ⟨rfl, P3⟩
        have P := Lib.hid P3
        clear P3 SX
        go_wp2
        go_ret
        have hkz2 := hkz
        subst hkz2
        rw [EQ.out]
        exact ⟨rfl, P.out⟩
end Go.Proofs.YtcpbmempfeloaaaDoor
