/- Package slot: Put, Save. -/
import Derived.Test.YtaeonlafcbgpcaaDoorLoad
namespace Go.Proofs.YtaeonlafcbgpcaaDoor
open Go.RowKit

theorem lastOf_mem (l : List (Nat × Nat × List UInt8)) : ∀ z, lastOf z l = z ∨ lastOf z l ∈ l := by
  induction l with
  | nil => intro z; exact .inl rfl
  | cons x l ih =>
    intro z
    show lastOf (if z.2.1 < x.2.1 then x else z) l = z ∨ lastOf (if z.2.1 < x.2.1 then x else z) l ∈ x :: l
    split
    · rcases ih x with h | h
      · exact .inr (by rw [h]; simp)
      · exact .inr (by simp [h])
    · rcases ih z with h | h
      · exact .inl h
      · exact .inr (by simp [h])
theorem secRec_some {D : Dk} {i : Nat} {x : Nat × Nat × List UInt8} (h : secRec D i = some x) : parseP (D.seen.getD i []) = some (x.2.1, 0, x.2.2) ∧ x.1 = i := by
  unfold secRec at h
  split at h
  · rename_i s b hp
    cases h
    exact ⟨hp, rfl⟩
  · cases h
theorem lastRec_form (D : Dk) (k : Nat) : lastRec D k = (k + 1, 0, []) ∨ ∃ i, i < 2 ∧ secRec D (k + i) = some (lastRec D k) := by
  rcases lastOf_mem (recsUpto D k 2) (k + 1, 0, []) with h | h
  · exact .inl h
  · obtain ⟨i, hi, hs⟩ := List.mem_filterMap.1 h
    exact .inr ⟨i, List.mem_range.1 hi, hs⟩
theorem lastRec_bound (D : Dk) (k : Nat) : (lastRec D k).2.1 < 4294967296 ∧ (lastRec D k).2.2.length ≤ 43 ∧ k ≤ (lastRec D k).1 ∧ (lastRec D k).1 ≤ k + 1 := by
  rcases lastRec_form D k with h | ⟨i, hi, h⟩
  · rw [h]; simp
  · obtain ⟨h1, h2⟩ := secRec_some h
    obtain ⟨_, h3, _, h4⟩ := parseP_pos h1
    exact ⟨h3, h4, by omega, by omega⟩

/-- What Put answers, and leaves. -/
def putM (D : Dk) (i : Int) (b : List UInt8) : Int × Dk :=
  if D.right i then (if 43 < b.length then (2, D) else if (lastRec D i.toNat).2.1 = 4294967295 then (42, D) else D.sync.write (2 * i + 1 - (lastRec D i.toNat).1) (stampB ((lastRec D i.toNat).2.1 + 1) 0 b)) else (40, D)

theorem Fr.within {K : Nat → Obj → Prop} {w w' : World} (h : Fr (fun c o => K c o ∧ c < w.heap.size) w w') : Fr K w w' :=
  ⟨h.os, h.tape, h.output, h.size, fun b o hb hk => h.keep b o hb ⟨hk, lt_of_some hb⟩⟩
theorem pend_sync (D : Dk) : D.sync.pend.length ≤ D.pend.length := by
  unfold Dk.sync
  split
  · exact Nat.le_refl _
  · exact Nat.zero_le _

theorem stamp_any {K : Nat → Obj → Prop} (w : World) (s : Nat) (z y : Int) (hz : z = s) (hy : y = 0) (v : Value) (b : List UInt8) (hb : BytesAt K w v b) (ht : TabOK w) (hs : s < 4294967296) :
    Calls Tryd.prog 13 #[.int .u32 z, .int .u32 y, v] w fun e w' =>
      ((43 < b.length ∧ e = .returned (.tuple #[.slice none 0 0, .int .i64 2])) ∨ (b.length ≤ 43 ∧ ∃ a' cap', e = .returned (.tuple #[.slice a' 64 cap', .int .i64 0]) ∧ BytesAt (New w.heap.size) w' (.slice a' 64 cap') (stampB s 0 b))) ∧ Fr (fun _ _ => True) w w' := by
  subst hz; subst hy
  refine (stamp_calls w s 0 v b hb ht hs (by decide)).mono fun e w' ⟨h, hf⟩ => ⟨?_, hf⟩
  split at h
  · exact .inl ⟨by assumption, h⟩
  · exact .inr ⟨by omega, h⟩

set_option maxRecDepth 100000 in
set_option maxHeartbeats 1000000 in
theorem put_calls {K : Nat → Obj → Prop} (w : World) (bd : Nat) (F : Nat → Prop) (D : Dk) (i : Int) (v : Value) (b : List UInt8) (h : Dsk w bd F D) (hb : BytesAt K w v b) (ht : TabOK w) (hq : D.pend.length < 1000000) :
    Calls Tryd.prog 21 #[.pointer (some ⟨bd, 0, none⟩), .int .i64 i, v] w fun e w' => e = .returned (.int .i64 (putM D i b).1) ∧ Dsk w' bd (fun c => F c ∨ w.heap.size ≤ c) (putM D i b).2 ∧ Fr (fun c _ => ¬ F c) w w' := by
  obtain ⟨va, vc, rfl⟩ := hb.form
  have hrc := right_calls w bd F D i h
  cases hr : D.right i with
  | false =>
    rw [hr] at hrc
    have e1 : putM D i b = (40, D) := by unfold putM; rw [hr]; rfl
    have E1 := Lib.hid e1
    have HR := Lib.hid hrc
    have HD := Lib.hid h
    clear hrc h hb ht hq hr e1
    go_enter Tryd.func21, Tryd.ntmps21
    go_wp2_with fail
    (with_reducible refine HR.out.mono ?_)
    rintro e w1 ⟨rfl, rfl⟩
    go_wp2
    go_ret
    rw [E1.out]
    exact ⟨rfl, HD.out.wide _, Fr.refl _ _⟩
  | true =>
    rw [hr] at hrc
    obtain ⟨k, rfl, hk⟩ := right_nat hr
    have e1 : putM D k b = (if 43 < b.length then (2, D) else if (lastRec D k).2.1 = 4294967295 then (42, D) else D.sync.write (2 * k + 1 - (lastRec D k).1) (stampB ((lastRec D k).2.1 + 1) 0 b)) := by
      unfold putM; rw [hr, if_pos rfl, Int.toNat_natCast]
    have hla := last_any w bd F D k k rfl h ht hk
    obtain ⟨hb1, hb2, hb3, hb4⟩ := lastRec_bound D k
    have hkm : k ≤ 511 := by have := h.wf.max; omega
    generalize lastRec D k = r at e1 hla hb1 hb2 hb3 hb4
    have E1 := Lib.hid e1
    have HR := Lib.hid hrc
    have HL := Lib.hid hla
    have HD := Lib.hid h
    have HB := Lib.hid hb
    have HT := Lib.hid ht
    clear hrc h hb ht hr e1 hla
    go_enter Tryd.func21, Tryd.ntmps21
    go_wp2_with fail
    (with_reducible refine HR.out.mono ?_)
    rintro e w1 ⟨rfl, rfl⟩
    go_wp2_with fail
    (with_reducible refine HL.out.mono ?_)
    rintro e w2 ⟨⟨x, rfl, hx, b2⟩, f2⟩
    subst hx
    have E2 : Hid (putM D k b = (if 43 < b.length then (2, D) else if x.seq = 4294967295 then (42, D) else D.sync.write (2 * k + 1 - x.at') (stampB (x.seq + 1) 0 b))) := E1.out
    have hs1 : x.seq < 4294967296 := hb1
    have hs2 : k ≤ x.at' := hb3
    have hs3 : x.at' ≤ k + 1 := hb4
    have F2 := Lib.hid f2
    clear f2 b2 E1 hb1 hb2 hb3 hb4
    unfold SRec.cells
    have F3 := Lib.hid (F2.out.alloc (.cells #[.int .i64 (x.at' : Nat), .int .u32 (x.seq : Nat), .slice x.a x.bs.length x.cap] 85 (0, 0)))
    have T3 := Lib.hid (heap_alloc_new w2 (.cells #[.int .i64 (x.at' : Nat), .int .u32 (x.seq : Nat), .slice x.a x.bs.length x.cap] 85 (0, 0)))
    have hw2 : w.heap.size ≤ w2.heap.size := F2.out.size
    have hTW : Hid (TabOK (w2.alloc (.cells #[.int .i64 (x.at' : Nat), .int .u32 (x.seq : Nat), .slice x.a x.bs.length x.cap] 85 (0, 0)))) := HT.out.tt F3.out
    have HBW := Lib.hid (HB.out.tt F3.out)
    have hsl : (w2.alloc (.cells #[.int .i64 (x.at' : Nat), .int .u32 (x.seq : Nat), .slice x.a x.bs.length x.cap] 85 (0, 0))).heap.size = w2.heap.size + 1 := by simp
    have HSL := Lib.hid hsl
    clear hsl HB HT
    generalize hseq : ((x.seq : Nat) : Int) = zq at F3 T3 hTW HBW HSL ⊢
    have hz0 : 0 ≤ zq := by omega
    have hz1 : zq < 4294967296 := by omega
    have HSQ := Lib.hid hseq
    clear hseq
    by_cases hmax : zq = 4294967295
    · subst hmax
      go_wp2_with fail
      (with_reducible refine (stamp_any _ 0 _ _ (by simp) (by rfl) _ b HBW.out hTW.out (by decide)).mono ?_)
      rintro e w4 ⟨(⟨hbl, rfl⟩ | ⟨hbl, a4, c4, rfl, b4⟩), f4⟩
      · have e2 := E2.out
        rw [if_pos hbl] at e2
        have EE := Lib.hid e2
        have F4 := Lib.hid (F3.out.trans f4)
        clear f4 e2 E2
        go_wp2
        go_ret
        rw [EE.out]
        exact ⟨rfl, (HD.out.tt F4.out).wide _, F4.out.mono fun _ _ _ => trivial⟩
      · have e2 := E2.out
        rw [if_neg (by omega), if_pos (by have := HSQ.out; omega)] at e2
        have EE := Lib.hid e2
        have F4 := Lib.hid (F3.out.trans f4)
        have t4 := f4.keep _ _ T3.out trivial
        have c41 : w4.cell? ⟨w2.heap.size, 1, none⟩ = some (.int .u32 4294967295) := cell_mk t4 rfl
        clear f4 e2 E2 t4 b4
        go_wp2
        go_ret
        rw [EE.out]
        exact ⟨rfl, (HD.out.tt F4.out).wide _, F4.out.mono fun _ _ _ => trivial⟩
    · go_wp2_with fail
      (with_reducible refine (stamp_any _ (x.seq + 1) _ _ (by have := HSQ.out; omega) (by rfl) _ b HBW.out hTW.out (by have := HSQ.out; omega)).mono ?_)
      rintro e w4 ⟨(⟨hbl, rfl⟩ | ⟨hbl, a4, c4, rfl, b4⟩), f4⟩
      · have e2 := E2.out
        rw [if_pos hbl] at e2
        have EE := Lib.hid e2
        have F4 := Lib.hid (F3.out.trans f4)
        clear f4 e2 E2
        go_wp2
        go_ret
        rw [EE.out]
        exact ⟨rfl, (HD.out.tt F4.out).wide _, F4.out.mono fun _ _ _ => trivial⟩
      · have e2 := E2.out
        rw [if_neg (by omega), if_neg (by have := HSQ.out; omega)] at e2
        have EE := Lib.hid e2
        have F4 := Lib.hid (F3.out.trans f4)
        have t4 := f4.keep _ _ T3.out trivial
        have c40 : w4.cell? ⟨w2.heap.size, 0, none⟩ = some (.int .i64 (x.at' : Nat)) := cell_mk t4 rfl
        have c41 : w4.cell? ⟨w2.heap.size, 1, none⟩ = some (.int .u32 zq) := cell_mk t4 rfl
        have D4 := Lib.hid (HD.out.inside.tt F4.out)
        have hs4 : w2.heap.size + 1 ≤ w4.heap.size := by have := f4.size; have := HSL.out; omega
        have B4 : Hid (BytesAt (fun c _ => w.heap.size ≤ c ∧ c < w4.heap.size) w4 (.slice a4 64 c4) (stampB (x.seq + 1) 0 b)) := b4.mono fun c o ho h => ⟨by have := h.1; have := HSL.out; omega, lt_of_some ho⟩
        have T4 := Lib.hid t4
        clear f4 e2 E2 t4 b4
        go_wp2_with fail
        (with_reducible refine (sync_calls w4 bd _ D D4.out).mono ?_)
        rintro e w5 ⟨rfl, d5, f5⟩
        have t5 := f5.keep _ _ T4.out (by intro h; have := h.2; omega)
        have c50 : w5.cell? ⟨w2.heap.size, 0, none⟩ = some (.int .i64 (x.at' : Nat)) := cell_mk t5 rfl
        have B5 := Lib.hid (B4.out.fr (f5.mono fun c _ h hc => by have := h.1; have := hc.2; omega))
        have F5 := Lib.hid f5
        have D5 := Lib.hid d5
        have hq5 : D.sync.pend.length < 1000000 := Nat.lt_of_le_of_lt (pend_sync D) hq
        clear f5 d5 t5
        go_wp2_with fail
        have hap : Hid (∀ c o, w5.heap[c]? = some o → (w.heap.size ≤ c ∧ c < w4.heap.size) → ¬ ((F c ∧ c < w.heap.size) ∨ w4.heap.size ≤ c)) := by
          intro c o _ h1 h2
          rcases h2 with h2 | h2 <;> omega
        (with_reducible refine (write_calls w5 bd _ D.sync _ _ _ D5.out B5.out hap.out hq5).mono ?_)
        rintro e w6 ⟨rfl, d6, f6⟩
        have D6 := Lib.hid d6
        have F6 := Lib.hid f6
        clear d6 f6
        go_wp2
        go_ret
        rw [EE.out]
        have hs5 := F5.out.size
        refine ⟨rfl, D6.out.mono fun c h => ?_, Fr.within ?_⟩
        · rcases h with (h | h) | h
          · exact .inl h.1
          · exact .inr (by omega)
          · exact .inr (by omega)
        · exact ((F4.out.mono fun _ _ _ => trivial).trans (F5.out.mono fun c _ h hc => h.1 hc.1)).trans (F6.out.mono fun c _ h hc => by
            rcases hc with hc | hc
            · exact h.1 hc.1
            · have := h.2; omega)

/-- What Save answers, and leaves. -/
def saveM (D : Dk) (i : Int) (b : List UInt8) : Int × Dk :=
  if (putM D i b).1 = 0 then (if (putM D i b).2.sync.down then 43 else 0, (putM D i b).2.sync) else putM D i b

set_option maxRecDepth 100000 in
theorem save_calls {K : Nat → Obj → Prop} (w : World) (bd : Nat) (F : Nat → Prop) (D : Dk) (i : Int) (v : Value) (b : List UInt8) (h : Dsk w bd F D) (hb : BytesAt K w v b) (ht : TabOK w) (hq : D.pend.length < 1000000) :
    Calls Tryd.prog 25 #[.pointer (some ⟨bd, 0, none⟩), .int .i64 i, v] w fun e w' => e = .returned (.int .i64 (saveM D i b).1) ∧ Dsk w' bd (fun c => F c ∨ w.heap.size ≤ c) (saveM D i b).2 ∧ Fr (fun c _ => ¬ F c) w w' := by
  have hp := put_calls w bd F D i v b h hb ht hq
  obtain ⟨va, vc, rfl⟩ := hb.form
  have hsv : Hid (saveM D i b = if (putM D i b).1 = 0 then (if (putM D i b).2.sync.down then 43 else 0, (putM D i b).2.sync) else putM D i b) := rfl
  generalize saveM D i b = r at hsv ⊢
  generalize putM D i b = p at hp hsv
  obtain ⟨c, D1⟩ := p
  have HP := Lib.hid hp
  clear hp h hb ht
  by_cases hc : c = 0
  · subst hc
    go_enter Tryd.func25, Tryd.ntmps25
    go_wp2_with fail
    (with_reducible refine HP.out.mono ?_)
    rintro e w1 ⟨rfl, d1, f1⟩
    have D1' := Lib.hid d1.inside
    have F1 := Lib.hid f1
    clear d1 f1
    go_wp2_with fail
    (with_reducible refine (sync_calls w1 bd _ D1 D1'.out).mono ?_)
    rintro e w2 ⟨rfl, d2, f2⟩
    have hdn := down_calls w2 bd _ D1.sync d2
    have DD := Lib.hid hdn
    have D2 : Hid (Dsk w2 bd (fun c => F c ∨ w.heap.size ≤ c) D1.sync) := d2.mono fun c hc => by
      rcases hc with hc | hc
      · exact hc.1
      · exact .inr (Nat.le_trans F1.out.size hc)
    have F2 : Hid (Fr (fun c _ => ¬ F c) w w2) := Fr.within ((F1.out.mono fun _ _ h => h.1).trans (f2.mono fun c _ h hc => by
      rcases hc.1 with hc | hc
      · exact h.1 hc
      · have := h.2; omega))
    clear d2 f2 hdn
    cases hdw : D1.sync.down with
    | true =>
      have e1 := hsv.out
      simp only [hdw, if_pos] at e1
      rw [hdw] at DD
      clear hdw
      have E1 := Lib.hid e1
      clear e1 hsv
      go_wp2_with fail
      (with_reducible refine DD.out.mono ?_)
      rintro e w3 ⟨rfl, rfl⟩
      go_wp2
      go_ret
      rw [E1.out]
      exact ⟨rfl, D2.out, F2.out⟩
    | false =>
      have e1 := hsv.out
      simp only [hdw, if_pos] at e1
      rw [hdw] at DD
      clear hdw
      have E1 := Lib.hid e1
      clear e1 hsv
      go_wp2_with fail
      (with_reducible refine DD.out.mono ?_)
      rintro e w3 ⟨rfl, rfl⟩
      go_wp2
      go_ret
      rw [E1.out]
      exact ⟨rfl, D2.out, F2.out⟩
  · have e1 : r = (c, D1) := by rw [hsv.out, if_neg hc]
    have E1 := Lib.hid e1
    clear e1 hsv
    go_enter Tryd.func25, Tryd.ntmps25
    go_wp2_with fail
    (with_reducible refine HP.out.mono ?_)
    rintro e w1 ⟨rfl, d1, f1⟩
    have D1' := Lib.hid d1
    have F1 := Lib.hid f1
    clear d1 f1
    go_wp2
    go_ret
    rw [E1.out]
    exact ⟨rfl, D1'.out, F1.out⟩
end Go.Proofs.YtaeonlafcbgpcaaDoor
