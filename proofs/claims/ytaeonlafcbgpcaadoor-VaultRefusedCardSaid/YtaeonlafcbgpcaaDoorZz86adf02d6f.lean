/- Texts of the proofs, part 6: what the functions that they reach do, walked; no conditions beyond those that each states. -/
import Derived.Deep.QuietTactic
import Derived.BigQuiet
import Derived.Test.YtaeonlafcbgpcaaDoorZzb38cfc48d0
set_option linter.unusedVariables false
set_option linter.unusedSimpArgs false
/- Package slot: Put, Save. -/
namespace Go.Proofs.YtaeonlafcbgpcaaDoor
open Go.RowKit

theorem lastOf_mem (l : List (Nat × Nat × List UInt8)) : ∀ z, lastOf z l = z ∨ lastOf z l ∈ l := by
  induction l with
  | nil => intro z; exact .inl rfl
  | cons x l ih =>
    intro z
    show lastOf (if z.2.1 < x.2.1 then x else z) l = z ∨ lastOf (if z.2.1 < x.2.1 then x else z) l ∈ x :: l
    split
    · rcases ih x with h | h
      · exact .inr (by rw [h]; simp)
      · exact .inr (by simp [h])
    · rcases ih z with h | h
      · exact .inl h
      · exact .inr (by simp [h])
theorem secRec_some {D : Dk} {i : Nat} {x : Nat × Nat × List UInt8} (h : secRec D i = some x) : parseP (D.seen.getD i []) = some (x.2.1, 0, x.2.2) ∧ x.1 = i := by
  unfold secRec at h
  split at h
  · rename_i s b hp
    cases h
    exact ⟨hp, rfl⟩
  · cases h
theorem lastRec_form (D : Dk) (k : Nat) : lastRec D k = (k + 1, 0, []) ∨ ∃ i, i < 2 ∧ secRec D (k + i) = some (lastRec D k) := by
  rcases lastOf_mem (recsUpto D k 2) (k + 1, 0, []) with h | h
  · exact .inl h
  · obtain ⟨i, hi, hs⟩ := List.mem_filterMap.1 h
    exact .inr ⟨i, List.mem_range.1 hi, hs⟩
theorem lastRec_bound (D : Dk) (k : Nat) : (lastRec D k).2.1 < 4294967296 ∧ (lastRec D k).2.2.length ≤ 43 ∧ k ≤ (lastRec D k).1 ∧ (lastRec D k).1 ≤ k + 1 := by
  rcases lastRec_form D k with h | ⟨i, hi, h⟩
  · rw [h]; simp
  · obtain ⟨h1, h2⟩ := secRec_some h
    obtain ⟨_, h3, _, h4⟩ := parseP_pos h1
    exact ⟨h3, h4, by omega, by omega⟩

/-- What Put answers, and leaves. -/
def putM (D : Dk) (i : Int) (b : List UInt8) : Int × Dk :=
  if D.right i then (if 43 < b.length then (2, D) else if (lastRec D i.toNat).2.1 = 4294967295 then (42, D) else D.sync.write (2 * i + 1 - (lastRec D i.toNat).1) (stampB ((lastRec D i.toNat).2.1 + 1) 0 b)) else (40, D)

theorem Fr.within {K : Nat → Obj → Prop} {w w' : World} (h : Fr (fun c o => K c o ∧ c < w.heap.size) w w') : Fr K w w' :=
  ⟨h.os, h.tape, h.output, h.size, fun b o hb hk => h.keep b o hb ⟨hk, lt_of_some hb⟩⟩
theorem pend_sync (D : Dk) : D.sync.pend.length ≤ D.pend.length := by
  unfold Dk.sync
  split
  · exact Nat.le_refl _
  · exact Nat.zero_le _

theorem stamp_any {K : Nat → Obj → Prop} (w : World) (s : Nat) (z y : Int) (hz : z = s) (hy : y = 0) (v : Value) (b : List UInt8) (hb : BytesAt K w v b) (ht : TabOK w) (hs : s < 4294967296) :
    Calls Tryd.prog 13 #[.int .u32 z, .int .u32 y, v] w fun e w' =>
      ((43 < b.length ∧ e = .returned (.tuple #[.slice none 0 0, .int .i64 2])) ∨ (b.length ≤ 43 ∧ ∃ a' cap', e = .returned (.tuple #[.slice a' 64 cap', .int .i64 0]) ∧ BytesAt (New w.heap.size) w' (.slice a' 64 cap') (stampB s 0 b))) ∧ Fr (fun _ _ => True) w w' := by
  subst hz; subst hy
  refine (stamp_calls w s 0 v b hb ht hs (by decide)).mono fun e w' ⟨h, hf⟩ => ⟨?_, hf⟩
  split at h
  · exact .inl ⟨by assumption, h⟩
  · exact .inr ⟨by omega, h⟩

set_option maxRecDepth 100000 in
set_option maxHeartbeats 1000000 in
theorem put_calls {K : Nat → Obj → Prop} (w : World) (bd : Nat) (F : Nat → Prop) (D : Dk) (i : Int) (v : Value) (b : List UInt8) (h : Dsk w bd F D) (hb : BytesAt K w v b) (ht : TabOK w) (hq : D.pend.length < 1000000) :
    Calls Tryd.prog 21 #[.pointer (some ⟨bd, 0, none⟩), .int .i64 i, v] w fun e w' => e = .returned (.int .i64 (putM D i b).1) ∧ Dsk w' bd (fun c => F c ∨ w.heap.size ≤ c) (putM D i b).2 ∧ Fr (fun c _ => ¬ F c) w w' := by
  obtain ⟨va, vc, rfl⟩ := hb.form
  have hrc := right_calls w bd F D i h
  cases hr : D.right i with
  | false =>
    rw [hr] at hrc
    have e1 : putM D i b = (40, D) := by unfold putM; rw [hr]; rfl
    have E1 := Lib.hid e1
    have HR := Lib.hid hrc
    have HD := Lib.hid h
    clear hrc h hb ht hq hr e1
    go_enter Tryd.func21, Tryd.ntmps21
    go_wp2_with fail
    (with_reducible refine HR.out.mono ?_)
    rintro e w1 ⟨rfl, rfl⟩
    go_wp2
    go_ret
    rw [E1.out]
    exact ⟨rfl, HD.out.wide _, Fr.refl _ _⟩
  | true =>
    rw [hr] at hrc
    obtain ⟨k, rfl, hk⟩ := right_nat hr
    have e1 : putM D k b = (if 43 < b.length then (2, D) else if (lastRec D k).2.1 = 4294967295 then (42, D) else D.sync.write (2 * k + 1 - (lastRec D k).1) (stampB ((lastRec D k).2.1 + 1) 0 b)) := by
      unfold putM; rw [hr, if_pos rfl, Int.toNat_natCast]
    have hla := last_any w bd F D k k rfl h ht hk
    obtain ⟨hb1, hb2, hb3, hb4⟩ := lastRec_bound D k
    have hkm : k ≤ 511 := by have := h.wf.max; omega
    generalize lastRec D k = r at e1 hla hb1 hb2 hb3 hb4
    have E1 := Lib.hid e1
    have HR := Lib.hid hrc
    have HL := Lib.hid hla
    have HD := Lib.hid h
    have HB := Lib.hid hb
    have HT := Lib.hid ht
    clear hrc h hb ht hr e1 hla
    go_enter Tryd.func21, Tryd.ntmps21
    go_wp2_with fail
    (with_reducible refine HR.out.mono ?_)
    rintro e w1 ⟨rfl, rfl⟩
    go_wp2_with fail
    (with_reducible refine HL.out.mono ?_)
    rintro e w2 ⟨⟨x, rfl, hx, b2⟩, f2⟩
    subst hx
    have E2 : Hid (putM D k b = (if 43 < b.length then (2, D) else if x.seq = 4294967295 then (42, D) else D.sync.write (2 * k + 1 - x.at') (stampB (x.seq + 1) 0 b))) := E1.out
    have hs1 : x.seq < 4294967296 := hb1
    have hs2 : k ≤ x.at' := hb3
    have hs3 : x.at' ≤ k + 1 := hb4
    have F2 := Lib.hid f2
    clear f2 b2 E1 hb1 hb2 hb3 hb4
    unfold SRec.cells
    have F3 := Lib.hid (F2.out.alloc (.cells #[.int .i64 (x.at' : Nat), .int .u32 (x.seq : Nat), .slice x.a x.bs.length x.cap] 85 (0, 0)))
    have T3 := Lib.hid (heap_alloc_new w2 (.cells #[.int .i64 (x.at' : Nat), .int .u32 (x.seq : Nat), .slice x.a x.bs.length x.cap] 85 (0, 0)))
    have hw2 : w.heap.size ≤ w2.heap.size := F2.out.size
    have hTW : Hid (TabOK (w2.alloc (.cells #[.int .i64 (x.at' : Nat), .int .u32 (x.seq : Nat), .slice x.a x.bs.length x.cap] 85 (0, 0)))) := HT.out.tt F3.out
    have HBW := Lib.hid (HB.out.tt F3.out)
    have hsl : (w2.alloc (.cells #[.int .i64 (x.at' : Nat), .int .u32 (x.seq : Nat), .slice x.a x.bs.length x.cap] 85 (0, 0))).heap.size = w2.heap.size + 1 := by simp
    have HSL := Lib.hid hsl
    clear hsl HB HT
    generalize hseq : ((x.seq : Nat) : Int) = zq at F3 T3 hTW HBW HSL ⊢
    have hz0 : 0 ≤ zq := by omega
    have hz1 : zq < 4294967296 := by omega
    have HSQ := Lib.hid hseq
    clear hseq
    by_cases hmax : zq = 4294967295
    · subst hmax
      go_wp2_with fail
      (with_reducible refine (stamp_any _ 0 _ _ (by simp) (by rfl) _ b HBW.out hTW.out (by decide)).mono ?_)
      rintro e w4 ⟨(⟨hbl, rfl⟩ | ⟨hbl, a4, c4, rfl, b4⟩), f4⟩
      · have e2 := E2.out
        rw [if_pos hbl] at e2
        have EE := Lib.hid e2
        have F4 := Lib.hid (F3.out.trans f4)
        clear f4 e2 E2
        go_wp2
        go_ret
        rw [EE.out]
        exact ⟨rfl, (HD.out.tt F4.out).wide _, F4.out.mono fun _ _ _ => trivial⟩
      · have e2 := E2.out
        rw [if_neg (by omega), if_pos (by have := HSQ.out; omega)] at e2
        have EE := Lib.hid e2
        have F4 := Lib.hid (F3.out.trans f4)
        have t4 := f4.keep _ _ T3.out trivial
        have c41 : w4.cell? ⟨w2.heap.size, 1, none⟩ = some (.int .u32 4294967295) := cell_mk t4 rfl
        clear f4 e2 E2 t4 b4
        go_wp2
        go_ret
        rw [EE.out]
        exact ⟨rfl, (HD.out.tt F4.out).wide _, F4.out.mono fun _ _ _ => trivial⟩
    · go_wp2_with fail
      (with_reducible refine (stamp_any _ (x.seq + 1) _ _ (by have := HSQ.out; omega) (by rfl) _ b HBW.out hTW.out (by have := HSQ.out; omega)).mono ?_)
      rintro e w4 ⟨(⟨hbl, rfl⟩ | ⟨hbl, a4, c4, rfl, b4⟩), f4⟩
      · have e2 := E2.out
        rw [if_pos hbl] at e2
        have EE := Lib.hid e2
        have F4 := Lib.hid (F3.out.trans f4)
        clear f4 e2 E2
        go_wp2
        go_ret
        rw [EE.out]
        exact ⟨rfl, (HD.out.tt F4.out).wide _, F4.out.mono fun _ _ _ => trivial⟩
      · have e2 := E2.out
        rw [if_neg (by omega), if_neg (by have := HSQ.out; omega)] at e2
        have EE := Lib.hid e2
        have F4 := Lib.hid (F3.out.trans f4)
        have t4 := f4.keep _ _ T3.out trivial
        have c40 : w4.cell? ⟨w2.heap.size, 0, none⟩ = some (.int .i64 (x.at' : Nat)) := cell_mk t4 rfl
        have c41 : w4.cell? ⟨w2.heap.size, 1, none⟩ = some (.int .u32 zq) := cell_mk t4 rfl
        have D4 := Lib.hid (HD.out.inside.tt F4.out)
        have hs4 : w2.heap.size + 1 ≤ w4.heap.size := by have := f4.size; have := HSL.out; omega
        have B4 : Hid (BytesAt (fun c _ => w.heap.size ≤ c ∧ c < w4.heap.size) w4 (.slice a4 64 c4) (stampB (x.seq + 1) 0 b)) := b4.mono fun c o ho h => ⟨by have := h.1; have := HSL.out; omega, lt_of_some ho⟩
        have T4 := Lib.hid t4
        clear f4 e2 E2 t4 b4
        go_wp2_with fail
        (with_reducible refine (sync_calls w4 bd _ D D4.out).mono ?_)
        rintro e w5 ⟨rfl, d5, f5⟩
        have t5 := f5.keep _ _ T4.out (by intro h; have := h.2; omega)
        have c50 : w5.cell? ⟨w2.heap.size, 0, none⟩ = some (.int .i64 (x.at' : Nat)) := cell_mk t5 rfl
        have B5 := Lib.hid (B4.out.fr (f5.mono fun c _ h hc => by have := h.1; have := hc.2; omega))
        have F5 := Lib.hid f5
        have D5 := Lib.hid d5
        have hq5 : D.sync.pend.length < 1000000 := Nat.lt_of_le_of_lt (pend_sync D) hq
        clear f5 d5 t5
        go_wp2_with fail
        have hap : Hid (∀ c o, w5.heap[c]? = some o → (w.heap.size ≤ c ∧ c < w4.heap.size) → ¬ ((F c ∧ c < w.heap.size) ∨ w4.heap.size ≤ c)) := by
          intro c o _ h1 h2
          rcases h2 with h2 | h2 <;> omega
        (with_reducible refine (write_calls w5 bd _ D.sync _ _ _ D5.out B5.out hap.out hq5).mono ?_)
        rintro e w6 ⟨rfl, d6, f6⟩
        have D6 := Lib.hid d6
        have F6 := Lib.hid f6
        clear d6 f6
        go_wp2
        go_ret
        rw [EE.out]
        have hs5 := F5.out.size
        refine ⟨rfl, D6.out.mono fun c h => ?_, Fr.within ?_⟩
        · rcases h with (h | h) | h
          · exact .inl h.1
          · exact .inr (by omega)
          · exact .inr (by omega)
        · exact ((F4.out.mono fun _ _ _ => trivial).trans (F5.out.mono fun c _ h hc => h.1 hc.1)).trans (F6.out.mono fun c _ h hc => by
            rcases hc with hc | hc
            · exact h.1 hc.1
            · have := h.2; omega)

/-- What Save answers, and leaves. -/
def saveM (D : Dk) (i : Int) (b : List UInt8) : Int × Dk :=
  if (putM D i b).1 = 0 then (if (putM D i b).2.sync.down then 43 else 0, (putM D i b).2.sync) else putM D i b

set_option maxRecDepth 100000 in
theorem save_calls {K : Nat → Obj → Prop} (w : World) (bd : Nat) (F : Nat → Prop) (D : Dk) (i : Int) (v : Value) (b : List UInt8) (h : Dsk w bd F D) (hb : BytesAt K w v b) (ht : TabOK w) (hq : D.pend.length < 1000000) :
    Calls Tryd.prog 25 #[.pointer (some ⟨bd, 0, none⟩), .int .i64 i, v] w fun e w' => e = .returned (.int .i64 (saveM D i b).1) ∧ Dsk w' bd (fun c => F c ∨ w.heap.size ≤ c) (saveM D i b).2 ∧ Fr (fun c _ => ¬ F c) w w' := by
  have hp := put_calls w bd F D i v b h hb ht hq
  obtain ⟨va, vc, rfl⟩ := hb.form
  have hsv : Hid (saveM D i b = if (putM D i b).1 = 0 then (if (putM D i b).2.sync.down then 43 else 0, (putM D i b).2.sync) else putM D i b) := rfl
  generalize saveM D i b = r at hsv ⊢
  generalize putM D i b = p at hp hsv
  obtain ⟨c, D1⟩ := p
  have HP := Lib.hid hp
  clear hp h hb ht
  by_cases hc : c = 0
  · subst hc
    go_enter Tryd.func25, Tryd.ntmps25
    go_wp2_with fail
    (with_reducible refine HP.out.mono ?_)
    rintro e w1 ⟨rfl, d1, f1⟩
    have D1' := Lib.hid d1.inside
    have F1 := Lib.hid f1
    clear d1 f1
    go_wp2_with fail
    (with_reducible refine (sync_calls w1 bd _ D1 D1'.out).mono ?_)
    rintro e w2 ⟨rfl, d2, f2⟩
    have hdn := down_calls w2 bd _ D1.sync d2
    have DD := Lib.hid hdn
    have D2 : Hid (Dsk w2 bd (fun c => F c ∨ w.heap.size ≤ c) D1.sync) := d2.mono fun c hc => by
      rcases hc with hc | hc
      · exact hc.1
      · exact .inr (Nat.le_trans F1.out.size hc)
    have F2 : Hid (Fr (fun c _ => ¬ F c) w w2) := Fr.within ((F1.out.mono fun _ _ h => h.1).trans (f2.mono fun c _ h hc => by
      rcases hc.1 with hc | hc
      · exact h.1 hc
      · have := h.2; omega))
    clear d2 f2 hdn
    cases hdw : D1.sync.down with
    | true =>
      have e1 := hsv.out
      simp only [hdw, if_pos] at e1
      rw [hdw] at DD
      clear hdw
      have E1 := Lib.hid e1
      clear e1 hsv
      go_wp2_with fail
      (with_reducible refine DD.out.mono ?_)
      rintro e w3 ⟨rfl, rfl⟩
      go_wp2
      go_ret
      rw [E1.out]
      exact ⟨rfl, D2.out, F2.out⟩
    | false =>
      have e1 := hsv.out
      simp only [hdw, if_pos] at e1
      rw [hdw] at DD
      clear hdw
      have E1 := Lib.hid e1
      clear e1 hsv
      go_wp2_with fail
      (with_reducible refine DD.out.mono ?_)
      rintro e w3 ⟨rfl, rfl⟩
      go_wp2
      go_ret
      rw [E1.out]
      exact ⟨rfl, D2.out, F2.out⟩
  · have e1 : r = (c, D1) := by rw [hsv.out, if_neg hc]
    have E1 := Lib.hid e1
    clear e1 hsv
    go_enter Tryd.func25, Tryd.ntmps25
    go_wp2_with fail
    (with_reducible refine HP.out.mono ?_)
    rintro e w1 ⟨rfl, d1, f1⟩
    have D1' := Lib.hid d1
    have F1 := Lib.hid f1
    clear d1 f1
    go_wp2
    go_ret
    rw [E1.out]
    exact ⟨rfl, D1'.out, F1.out⟩
end Go.Proofs.YtaeonlafcbgpcaaDoor
/- Disks, plainly: what stays true of one, whatever is done. -/
namespace Go.Proofs.YtaeonlafcbgpcaaDoor
open Go.RowKit

structure Dk.good (D : Dk) : Prop where
  ok : D.ok
  seen : D.seen = laySure D.sure D.pend

theorem Dk.new_good (n : Nat) (h1 : 1 ≤ n) (h2 : n ≤ 512) : (Dk.new n).good := ⟨Dk.new_ok n h1 h2, rfl⟩
theorem Dk.good.fuse {D : Dk} (h : D.good) (n : Int) (h0 : -9223372036854775808 ≤ n) (h1 : n ≤ 9223372036854775807) : ({ D with fuse := n } : Dk).good := ⟨{ h.ok with lo := h0, hi := h1 }, h.seen⟩
theorem Dk.good.burn {D : Dk} (h : D.good) : D.burn.good := by
  refine ⟨{ h.ok with lo := ?_, hi := ?_ }, h.seen⟩
  · have := h.ok.lo; have := h.ok.hi; show _ ≤ D.fuse - min 1 (max 0 D.fuse); omega
  · have := h.ok.lo; have := h.ok.hi; show D.fuse - min 1 (max 0 D.fuse) ≤ _; omega
theorem mem_set64 {l : List (List UInt8)} {k : Nat} {x : List UInt8} (h : ∀ y ∈ l, y.length = 64) (hx : x.length = 64) : ∀ y ∈ l.set k x, y.length = 64 := fun y hy => by
  rcases List.mem_or_eq_of_mem_set hy with h1 | h1
  · exact h y h1
  · exact h1 ▸ hx
theorem Dk.good.put {D : Dk} (h : D.good) (k : Nat) (x : List UInt8) (hk : k < D.sure.length) (hx : x.length = 64) (hq : D.pend.length < 1000000) : (D.put k x).good := by
  have hb := h.burn
  refine ⟨{ hb.ok with len := ?_, s64 := ?_, p64 := ?_, few := ?_ }, ?_⟩
  · show (D.seen.set k x).length = D.sure.length
    rw [List.length_set]; exact h.ok.len
  · exact mem_set64 h.ok.s64 hx
  · intro y hy
    have hy' : y ∈ D.pend ++ [(k, x)] := hy
    rcases List.mem_append.1 hy' with h1 | h1
    · exact h.ok.p64 y h1
    · rw [List.mem_singleton.1 h1]; exact ⟨hk, hx⟩
  · show (D.pend ++ [(k, x)]).length ≤ _
    rw [List.length_append]; simp; omega
  · show D.seen.set k x = laySure D.sure (D.pend ++ [(k, x)])
    rw [laySure_snoc, ← h.seen]
theorem Dk.good.sync {D : Dk} (h : D.good) : D.sync.good := by
  unfold Dk.sync
  split
  · exact h.burn
  · refine ⟨{ h.burn.ok with len := ?_, one := ?_, max := ?_, u64 := ?_, p64 := ?_, few := ?_ }, h.seen⟩
    · show D.seen.length = (laySure D.sure D.pend).length
      rw [laySure_length]; exact h.ok.len
    · show 1 ≤ (laySure D.sure D.pend).length
      rw [laySure_length]; exact h.ok.one
    · show (laySure D.sure D.pend).length ≤ 512
      rw [laySure_length]; exact h.ok.max
    · exact laySure_64 D.pend D.sure h.ok.u64 fun x hx => (h.ok.p64 x hx).2
    · intro x hx; cases hx
    · exact Nat.zero_le _
theorem foldTorn_64 (zs : List Int) (l : List ((Nat × List UInt8) × Nat)) : ∀ s : List (List UInt8), (∀ x ∈ s, x.length = 64) → (∀ x ∈ l, x.1.1 < s.length ∧ x.1.2.length = 64) → ∀ x ∈ l.foldl (tornAt zs) s, x.length = 64 := by
  induction l with
  | nil => intro s h _; exact h
  | cons y l ih =>
    intro s h hl
    have hy := hl y (by simp)
    refine ih (tornAt zs s y) ?_ fun x hx => ?_
    · refine mem_set64 h (tear_64 _ _ _ hy.2 ?_)
      rw [List.getD_eq_getElem?_getD, List.getElem?_eq_getElem hy.1]
      exact h _ (List.getElem_mem hy.1)
    · rw [show (tornAt zs s y).length = s.length from by simp [tornAt]]
      exact hl x (by simp [hx])
theorem layTorn_64 (zs : List Int) (s : List (List UInt8)) (l : List (Nat × List UInt8)) (h : ∀ x ∈ s, x.length = 64) (hl : ∀ x ∈ l, x.1 < s.length ∧ x.2.length = 64) : ∀ x ∈ layTorn zs s l, x.length = 64 :=
  foldTorn_64 zs _ s h fun x hx => hl x.1 (by
    have := List.mem_map_of_mem (f := Prod.fst) hx
    rwa [List.zipIdx_map_fst] at this)
theorem Dk.good.crash {D : Dk} (h : D.good) (zs : List Int) : (D.crash zs).good := by
  refine ⟨⟨rfl, ?_, ?_, layTorn_64 zs _ _ h.ok.u64 h.ok.p64, layTorn_64 zs _ _ h.ok.u64 h.ok.p64, ?_, Nat.zero_le _, ?_, ?_⟩, rfl⟩
  · show 1 ≤ (layTorn zs D.sure D.pend).length
    rw [layTorn_length]; exact h.ok.one
  · show (layTorn zs D.sure D.pend).length ≤ 512
    rw [layTorn_length]; exact h.ok.max
  · intro x hx; cases hx
  · show (-9223372036854775808 : Int) ≤ -1; decide
  · show (-1 : Int) ≤ 9223372036854775807; decide
theorem pad_64 (b : List UInt8) (h : b.length ≤ 64) : (pad b).length = 64 := by simp [pad]; omega
theorem Dk.good.write {D : Dk} (h : D.good) (i : Int) (b : List UInt8) (hq : D.pend.length < 1000000) : (D.write i b).2.good := by
  unfold Dk.write
  split
  · exact h
  · split
    · exact h
    · split
      · exact h.burn
      · exact h.put _ _ (by omega) (pad_64 b (by omega)) hq
theorem pend_write (D : Dk) (i : Int) (b : List UInt8) : (D.write i b).2.pend.length ≤ D.pend.length + 1 := by
  unfold Dk.write
  split
  · exact Nat.le_succ _
  · split
    · exact Nat.le_succ _
    · split
      · exact Nat.le_succ _
      · show (D.pend ++ [_]).length ≤ _; simp
theorem Dk.good.putM {D : Dk} (h : D.good) (i : Int) (b : List UInt8) (hq : D.pend.length < 1000000) : (putM D i b).2.good := by
  unfold Go.Proofs.YtaeonlafcbgpcaaDoor.putM
  split
  · split
    · exact h
    · split
      · exact h
      · exact h.sync.write _ _ (Nat.lt_of_le_of_lt (pend_sync D) hq)
  · exact h
theorem pend_putM (D : Dk) (i : Int) (b : List UInt8) : (putM D i b).2.pend.length ≤ D.pend.length + 1 := by
  unfold Go.Proofs.YtaeonlafcbgpcaaDoor.putM
  split
  · split
    · exact Nat.le_succ _
    · split
      · exact Nat.le_succ _
      · exact Nat.le_trans (pend_write _ _ _) (Nat.succ_le_succ (pend_sync D))
  · exact Nat.le_succ _
theorem Dk.good.saveM {D : Dk} (h : D.good) (i : Int) (b : List UInt8) (hq : D.pend.length < 1000000) : (saveM D i b).2.good := by
  unfold Go.Proofs.YtaeonlafcbgpcaaDoor.saveM
  split
  · exact (h.putM i b hq).sync
  · exact h.putM i b hq
theorem pend_saveM (D : Dk) (i : Int) (b : List UInt8) : (saveM D i b).2.pend.length ≤ D.pend.length + 1 := by
  unfold Go.Proofs.YtaeonlafcbgpcaaDoor.saveM
  split
  · exact Nat.le_trans (pend_sync _) (pend_putM D i b)
  · exact pend_putM D i b
end Go.Proofs.YtaeonlafcbgpcaaDoor
/- Stamps, plainly: what is stamped is parsed; a sector that is torn between two stamps. -/
namespace Go.Proofs.YtaeonlafcbgpcaaDoor
open Go.RowKit

theorem ofLE_le : ∀ (k n : Nat), n < 256 ^ k → ofLE (le n k) = n
  | 0, n, h => by simp at h; subst h; rfl
  | k + 1, n, h => by
    have h2 : n / 256 < 256 ^ k := by rw [Nat.pow_succ] at h; exact Nat.div_lt_of_lt_mul (by omega)
    rw [le, ofLE, ofLE_le k _ h2, UInt8.toNat_ofNat']
    omega
theorem ofLE_inj : ∀ (l m : List UInt8), l.length = m.length → ofLE l = ofLE m → l = m
  | [], [], _, _ => rfl
  | [], b :: m, h, _ => by simp at h
  | a :: l, [], h, _ => by simp at h
  | a :: l, b :: m, h, e => by
    have ha := a.toNat_lt
    have hb := b.toNat_lt
    rw [ofLE, ofLE] at e
    have e1 : a.toNat = b.toNat := by omega
    have e2 : ofLE l = ofLE m := by omega
    rw [UInt8.toNat_inj.1 e1, ofLE_inj l m (by simpa using h) e2]
theorem seg {α : Type} (x y z : List α) {n m : Nat} (hx : x.length = n) (hy : y.length = m) : ((x ++ (y ++ z)).drop n).take m = y := by
  subst hx hy; simp

theorem st_seq (s p : Nat) (b : List UInt8) : (stampB s p b).take 4 = le s 4 := by
  have := seg [] (le s 4) (le p 4 ++ ([UInt8.ofNat b.length] ++ (b ++ List.replicate (43 - b.length) 0)) ++ (le (sumOf (stampHead s p b)) 4 ++ (le s 4 ++ le p 4))) rfl (le_length s 4)
  simpa [stampB, stampHead] using this
theorem st_epoch (s p : Nat) (b : List UInt8) : ((stampB s p b).drop 4).take 4 = le p 4 := by
  have := seg (le s 4) (le p 4) (([UInt8.ofNat b.length] ++ (b ++ List.replicate (43 - b.length) 0)) ++ (le (sumOf (stampHead s p b)) 4 ++ (le s 4 ++ le p 4))) (le_length s 4) (le_length p 4)
  simpa [stampB, stampHead] using this
theorem st_len (s p : Nat) (b : List UInt8) : ((stampB s p b).drop 8).take 1 = [UInt8.ofNat b.length] := by
  have := seg (le s 4 ++ le p 4) [UInt8.ofNat b.length] ((b ++ List.replicate (43 - b.length) 0) ++ (le (sumOf (stampHead s p b)) 4 ++ (le s 4 ++ le p 4))) (n := 8) (by simp [le_length]) rfl
  simpa [stampB, stampHead] using this
theorem st_bytes (s p : Nat) (b : List UInt8) : ((stampB s p b).drop 9).take b.length = b := by
  have := seg (le s 4 ++ le p 4 ++ [UInt8.ofNat b.length]) b (List.replicate (43 - b.length) 0 ++ (le (sumOf (stampHead s p b)) 4 ++ (le s 4 ++ le p 4))) (n := 9) (by simp [le_length]) rfl
  simpa [stampB, stampHead] using this
theorem st_head (s p : Nat) (b : List UInt8) (h : b.length ≤ 43) : (stampB s p b).take 52 = stampHead s p b := by
  unfold stampB
  rw [List.take_append_of_le_length (by rw [stampHead_length s p b h]; exact Nat.le_refl _), List.take_of_length_le (by rw [stampHead_length s p b h]; exact Nat.le_refl _)]
theorem st_sum (s p : Nat) (b : List UInt8) (h : b.length ≤ 43) : ((stampB s p b).drop 52).take 4 = le (sumOf (stampHead s p b)) 4 := seg _ _ _ (stampHead_length s p b h) (le_length _ 4)
theorem st_again (s p : Nat) (b : List UInt8) (h : b.length ≤ 43) : ((stampB s p b).drop 56).take 4 = le s 4 := by
  have := seg (stampHead s p b ++ le (sumOf (stampHead s p b)) 4) (le s 4) (le p 4) (n := 56) (by rw [List.length_append, stampHead_length s p b h, le_length]) (le_length _ 4)
  rw [List.append_assoc] at this
  exact this
theorem st_also (s p : Nat) (b : List UInt8) (h : b.length ≤ 43) : ((stampB s p b).drop 60).take 4 = le p 4 := by
  have := seg (stampHead s p b ++ (le (sumOf (stampHead s p b)) 4 ++ le s 4)) (le p 4) [] (n := 60) (by rw [List.length_append, List.length_append, stampHead_length s p b h, le_length, le_length]) (le_length _ 4)
  rw [List.append_nil, List.append_assoc, List.append_assoc] at this
  exact this

/-- What is stamped is parsed. -/
theorem parse_stamp (s p : Nat) (b : List UInt8) (h0 : 0 < s) (hs : s < 4294967296) (hp : p < 4294967296) (hb : b.length ≤ 43) : parseP (stampB s p b) = some (s, p, b) := by
  have e1 : pSeq (stampB s p b) = s := by unfold pSeq; rw [st_seq, ofLE_le 4 s hs]
  have e2 : pEpoch (stampB s p b) = p := by unfold pEpoch; rw [st_epoch, ofLE_le 4 p hp]
  have e3 : pLen (stampB s p b) = b.length := by
    unfold pLen; rw [st_len]
    show (UInt8.ofNat b.length).toNat + 256 * 0 = _
    rw [UInt8.toNat_ofNat']; omega
  have e4 : pSum (stampB s p b) = sumOf (stampHead s p b) := by unfold pSum; rw [st_sum s p b hb, ofLE_le 4 _ (sumOf_lt _)]
  have e5 : pAgain (stampB s p b) = s := by unfold pAgain; rw [st_again s p b hb, ofLE_le 4 s hs]
  have e6 : pAlso (stampB s p b) = p := by unfold pAlso; rw [st_also s p b hb, ofLE_le 4 p hp]
  unfold parseP
  rw [if_pos ⟨stampB_length s p b hb, by omega, by omega, by omega, by omega, by rw [e4, st_head s p b hb]⟩, e1, e2, e3, st_bytes]

/-- Two lists' first and other bytes, at a place. -/
theorem torn_get (A B : List UInt8) (hA : A.length = 64) (hB : B.length = 64) (cut j : Nat) (hc : cut ≤ 64) : (A.take cut ++ B.drop cut)[j]? = if j < cut then A[j]? else B[j]? := by
  have hl : (A.take cut).length = cut := by rw [List.length_take]; omega
  by_cases h : j < cut
  · rw [List.getElem?_append_left (by omega), if_pos h, List.getElem?_take, if_pos h]
  · rw [List.getElem?_append_right (by omega), if_neg h, hl, List.getElem?_drop]
    congr 1; omega
theorem sub_get (l : List UInt8) (n m i : Nat) : ((l.drop n).take m)[i]? = if i < m then l[n + i]? else none := by
  rw [List.getElem?_take, List.getElem?_drop]
theorem sub_eq {l m : List UInt8} {n k : Nat} (h : ∀ i, i < k → l[n + i]? = m[n + i]?) : (l.drop n).take k = (m.drop n).take k := by
  apply List.ext_getElem?
  intro i
  rw [sub_get, sub_get]
  split
  · exact h i (by assumption)
  · rfl
theorem sub_of {l m : List UInt8} {n k i : Nat} (h : (l.drop n).take k = (m.drop n).take k) (hi : i < k) : l[n + i]? = m[n + i]? := by
  have := congrArg (fun x : List UInt8 => x[i]?) h
  simpa [sub_get, hi] using this

/-- A sector that is torn between two stamps has one of them, or none. -/
theorem torn_law (s m : Nat) (one two : List UInt8) (cut : Nat) (hc : cut ≤ 64) (hsm : s ≠ m) (hs : s < 4294967296) (hm : m < 4294967296) (h1 : one.length ≤ 43) (h2 : two.length ≤ 43) :
    parseP ((stampB s 0 one).take cut ++ (stampB m 0 two).drop cut) = none ∨ (stampB s 0 one).take cut ++ (stampB m 0 two).drop cut = stampB s 0 one ∨ (stampB s 0 one).take cut ++ (stampB m 0 two).drop cut = stampB m 0 two := by
  have hA : (stampB s 0 one).length = 64 := stampB_length s 0 one h1
  have hB : (stampB m 0 two).length = 64 := stampB_length m 0 two h2
  have aq := st_seq s 0 one
  have bq := st_seq m 0 two
  have aa := st_again s 0 one h1
  have ba := st_again m 0 two h2
  have al := st_also s 0 one h1
  have bl := st_also m 0 two h2
  generalize stampB s 0 one = A at hA aq aa al ⊢
  generalize stampB m 0 two = B at hB bq ba bl ⊢
  have hg := torn_get A B hA hB cut
  have hll : (A.take cut ++ B.drop cut).length = 64 := by rw [List.length_append, List.length_take, List.length_drop]; omega
  generalize A.take cut ++ B.drop cut = l at hg hll ⊢
  cases hp : parseP l with
  | none => exact .inl rfl
  | some r =>
    refine .inr ?_
    have hpa : pSeq l = pAgain l := by
      unfold parseP at hp
      split at hp
      · rename_i hc; exact hc.2.2.1
      · cases hp
    have hle : l.take 4 = (l.drop 56).take 4 := ofLE_inj _ _ (by rw [List.length_take, List.length_take, List.length_drop]; omega) hpa
    have hne : le s 4 ≠ le m 4 := fun e => hsm (by rw [← ofLE_le 4 s hs, ← ofLE_le 4 m hm, e])
    have hbig : ∀ X : List UInt8, X.length = 64 → (∀ j, j < 64 → l[j]? = X[j]?) → l = X := fun X hX h => by
      apply List.ext_getElem?
      intro j
      by_cases hj : j < 64
      · exact h j hj
      · rw [List.getElem?_eq_none (by omega), List.getElem?_eq_none (by omega)]
    by_cases h56 : cut ≤ 56
    · -- the tail is the second's
      have ht : (l.drop 56).take 4 = (B.drop 56).take 4 := sub_eq fun i hi => by rw [hg _ hc, if_neg (by omega)]
      rw [ht, ba] at hle
      have h4 : cut < 4 := by
        rcases Nat.lt_or_ge cut 4 with h | h
        · exact h
        · exfalso
          have : (l.drop 0).take 4 = (A.drop 0).take 4 := sub_eq fun i hi => by rw [hg _ hc, if_pos (by omega)]
          rw [List.drop_zero, List.drop_zero, hle, aq] at this
          exact hne this.symm
      refine .inr (hbig B hB fun j hj => ?_)
      by_cases hj4 : j < 4
      · have : (l.drop 0).take 4 = (B.drop 0).take 4 := by rw [List.drop_zero, List.drop_zero, hle, bq]
        have := sub_of this hj4
        simpa using this
      · rw [hg _ hc, if_neg (by omega)]
    · -- the head is the first's
      have hh : (l.drop 0).take 4 = (A.drop 0).take 4 := sub_eq fun i hi => by rw [hg _ hc, if_pos (by omega)]
      rw [List.drop_zero, List.drop_zero, aq] at hh
      rw [hh] at hle
      refine .inl (hbig A hA fun j hj => ?_)
      by_cases hj1 : j < 56
      · rw [hg _ hc, if_pos (by omega)]
      · by_cases hj2 : j < 60
        · have : (l.drop 56).take 4 = (A.drop 56).take 4 := by rw [← hle, aa]
          have := sub_of this (i := j - 56) (by omega)
          rwa [show 56 + (j - 56) = j from by omega] at this
        · have : (A.drop 60).take 4 = (B.drop 60).take 4 := by rw [al, bl]
          have := sub_of this (i := j - 60) (by omega)
          rw [show 60 + (j - 60) = j from by omega] at this
          rw [hg _ hc]
          split
          · rfl
          · exact this.symm
end Go.Proofs.YtaeonlafcbgpcaaDoor
/- Package vault: Room, right, read, bytes; pack.Reader.End. -/
namespace Go.Proofs.YtaeonlafcbgpcaaDoor
open Go.RowKit
set_option linter.unusedVariables false

def vroom (n : Int) : Int := min (max 0 (min n 24) * 43) 1000
theorem vroom_bd (n : Int) : 0 ≤ vroom n ∧ vroom n ≤ 1000 := by unfold vroom; omega

set_option maxRecDepth 100000 in
theorem room_calls (w : World) (n : Int) : Calls Tryd.prog 63 #[.int .i64 n] w fun e w' => e = .returned (.int .i64 (vroom n)) ∧ w = w' := by
  have HV : Hid (vroom n = min (max 0 (min n 24) * 43) 1000) := rfl
  by_cases h0 : n ≤ 0
  · have HE : Hid (vroom n = 0) := by have := HV.out; show _ = _; omega
    by_cases h1 : n < 0
    · go_enter Tryd.func63, Tryd.ntmps63
      go_wp2
      go_ret
      exact ⟨by rw [HE.out]; rfl, rfl⟩
    · obtain rfl : n = 0 := by omega
      go_enter Tryd.func63, Tryd.ntmps63
      go_wp2
      go_ret
      exact ⟨by rw [HE.out]; rfl, rfl⟩
  · have h0' : 0 < n := by omega
    by_cases h1 : n ≤ 23
    · have HE : Hid (vroom n = n * 43) := by have := HV.out; show _ = _; omega
      have h2 : n * 43 ≤ 989 := by omega
      go_enter Tryd.func63, Tryd.ntmps63
      go_wp2
      go_ret
      exact ⟨by rw [HE.out]; rfl, rfl⟩
    · have HE : Hid (vroom n = 1000) := by have := HV.out; show _ = _; omega
      by_cases h2 : n = 24
      · subst h2
        go_enter Tryd.func63, Tryd.ntmps63
        go_wp2
        go_ret
        exact ⟨by rw [HE.out]; rfl, rfl⟩
      · have h3 : 24 < n := by omega
        go_enter Tryd.func63, Tryd.ntmps63
        go_wp2
        go_ret
        exact ⟨by rw [HE.out]; rfl, rfl⟩

/-- What is wrong with a vault's place. -/
def vright (D : Dk) (i n : Int) : Int := if n < 1 ∨ 24 < n then 1 else if i < 0 ∨ (D.sure.length : Int) - 2 - 2 * n < i then 40 else 0

set_option maxRecDepth 100000 in
theorem vright_calls (w : World) (bd : Nat) (F : Nat → Prop) (D : Dk) (i n : Int) (h : Dsk w bd F D) :
    Calls Tryd.prog 65 #[.pointer (some ⟨bd, 0, none⟩), .int .i64 i, .int .i64 n] w fun e w' => e = .returned (.int .i64 (vright D i n)) ∧ w = w' := by
  have HL := Lib.hid (len_calls w bd F D h)
  have hm := h.wf.max
  have HV : Hid (vright D i n = if n < 1 ∨ 24 < n then 1 else if i < 0 ∨ (D.sure.length : Int) - 2 - 2 * n < i then 40 else 0) := rfl
  clear h
  by_cases h1 : n < 1
  · have HE : Hid (vright D i n = 1) := by rw [HV.out, if_pos (.inl h1)]; rfl
    have d1 : decide (n < 1) = true := by simpa using h1
    go_enter Tryd.func65, Tryd.ntmps65
    go_wp2
    go_ret
    exact ⟨by rw [HE.out]; rfl, rfl⟩
  · have d1 : decide (n < 1) = false := by simpa using h1
    by_cases h2 : 24 < n
    · have HE : Hid (vright D i n = 1) := by rw [HV.out, if_pos (.inr h2)]; rfl
      have d2 : decide (24 < n) = true := by simpa using h2
      go_enter Tryd.func65, Tryd.ntmps65
      go_wp2
      go_ret
      exact ⟨by rw [HE.out]; rfl, rfl⟩
    · have d2 : decide (24 < n) = false := by simpa using h2
      have HE1 : Hid (vright D i n = if i < 0 ∨ (D.sure.length : Int) - 2 - 2 * n < i then 40 else 0) := by rw [HV.out, if_neg (by omega)]; rfl
      have b1 : 1 ≤ n := by omega
      have b2 : n ≤ 24 := by omega
      by_cases h3 : i < 0
      · have d3 : decide (i < 0) = true := by simpa using h3
        have HE : Hid (vright D i n = 40) := by rw [HE1.out, if_pos (.inl h3)]; rfl
        go_enter Tryd.func65, Tryd.ntmps65
        go_wp2
        go_ret
        exact ⟨by rw [HE.out]; rfl, rfl⟩
      · have d3 : decide (i < 0) = false := by simpa using h3
        by_cases h4 : (D.sure.length : Int) - 2 - 2 * n < i
        · have HE : Hid (vright D i n = 40) := by rw [HE1.out, if_pos (.inr h4)]; rfl
          go_enter Tryd.func65, Tryd.ntmps65
          go_wp2_with fail
          (with_reducible refine HL.out.mono ?_)
          rintro e w1 ⟨rfl, rfl⟩
          go_wp2
          go_ret
          exact ⟨by rw [HE.out]; rfl, rfl⟩
        · have HE : Hid (vright D i n = 0) := by rw [HE1.out, if_neg (by omega)]; rfl
          have h4' : i ≤ (D.sure.length : Int) - 2 - 2 * n := by omega
          go_enter Tryd.func65, Tryd.ntmps65
          go_wp2_with fail
          (with_reducible refine HL.out.mono ?_)
          rintro e w1 ⟨rfl, rfl⟩
          go_wp2
          go_ret
          exact ⟨by rw [HE.out]; rfl, rfl⟩

/-- How a reader ended. -/
def endR (bs : List UInt8) (sh : Bool) : Int := if sh then 10 else if 0 < bs.length then 11 else 0
set_option maxRecDepth 100000 in
theorem rend_calls {K : Nat → Obj → Prop} (w : World) (br : Nat) (v : Value) (bs : List UInt8) (sh : Bool) (h : RdrAt K w br v bs sh) :
    Calls Tryd.prog 78 #[.pointer (some ⟨br, 0, none⟩)] w fun e w' => e = .returned (.int .i64 (endR bs sh)) ∧ w = w' := by
  obtain ⟨a, cap, rfl⟩ := h.bytes.form
  have c0 := cell_mk (i := 0) h.top rfl
  have c1 := cell_mk (i := 1) h.top rfl
  clear h
  cases sh with
  | true =>
    go_enter Tryd.func78, Tryd.ntmps78
    go_wp2
    go_ret
    exact ⟨rfl, rfl⟩
  | false =>
    by_cases hl : 0 < bs.length
    · have HE : Hid (endR bs false = 11) := by unfold endR; rw [if_neg (by decide), if_pos hl]; rfl
      have hl' : (0 : Int) < bs.length := by omega
      go_enter Tryd.func78, Tryd.ntmps78
      go_wp2
      go_ret
      exact ⟨by rw [HE.out]; rfl, rfl⟩
    · have HE : Hid (endR bs false = 0) := by unfold endR; rw [if_neg (by decide), if_neg hl]; rfl
      have hl' : (bs.length : Int) ≤ 0 := by omega
      go_enter Tryd.func78, Tryd.ntmps78
      go_wp2
      go_ret
      exact ⟨by rw [HE.out]; rfl, rfl⟩

/-- A mark's bytes. -/
def markB (a num size : Nat) : List UInt8 := le a 1 ++ (le num 4 ++ le size 2)
theorem markB_length (a num size : Nat) : (markB a num size).length = 7 := by unfold markB; simp [le_length]
/-- What bytes tell as a mark. -/
def markOf (bs : List UInt8) : Option (Nat × Nat × Nat) :=
  let r1 := numR bs false 1
  let r2 := numR r1.2.1 r1.2.2 4
  let r3 := numR r2.2.1 r2.2.2 2
  if endR r3.2.1 r3.2.2 ≠ 0 ∨ 1 < r1.1 then none else some (r1.1, r2.1, r3.1)
/-- What read reads. -/
def readV (D : Dk) (i : Int) : Nat × Nat × Nat × Bool := match (if (loadM D i).2.2 = 0 then markOf (loadM D i).1 else none) with
  | some (a, n, s) => (a, n, s, true)
  | none => (1, 0, 0, false)
theorem numR_lt (bs : List UInt8) (sh : Bool) (n : Nat) : (numR bs sh n).1 < 256 ^ n := by
  unfold numR
  split
  · exact Nat.pow_pos (by decide)
  · exact ofLE_take_lt _ _
theorem numR_len (bs : List UInt8) (sh : Bool) (n : Nat) : (numR bs sh n).2.1.length ≤ bs.length := by
  unfold numR
  split
  · exact Nat.zero_le _
  · simp
theorem readV_bd {D : Dk} {i : Int} {a n s : Nat} {ok : Bool} (h : readV D i = (a, n, s, ok)) : a ≤ 1 ∧ n < 4294967296 ∧ s < 65536 := by
  unfold readV at h
  split at h
  · rename_i a' n' s' hm
    cases h
    split at hm
    · unfold markOf at hm
      simp only at hm
      split at hm
      · cases hm
      · rename_i hc
        simp only [Option.some.injEq, Prod.mk.injEq] at hm
        obtain ⟨rfl, rfl, rfl⟩ := hm
        refine ⟨by omega, numR_lt _ _ 4, numR_lt _ _ 2⟩
    · cases hm
  · cases h; decide

theorem rnum_any {K : Nat → Obj → Prop} (w : World) (br : Nat) (v : Value) (bs : List UInt8) (sh : Bool) (n : Nat) (z : Int) (hz : z = n) (h : RdrAt K w br v bs sh) (h1 : 1 ≤ n) (h8 : n ≤ 8) (hm : bs.length ≤ 140737488355328) (q : Nat) (bs' : List UInt8) (sh' : Bool) (hq : numR bs sh n = (q, bs', sh')) :
    Calls Tryd.prog 45 #[.pointer (some ⟨br, 0, none⟩), .int .i64 z] w fun e w' => e = .returned (.int .u64 (q : Nat)) ∧ (∃ v', RdrAt K w' br v' bs' sh') ∧ Fr (fun b _ => b ≠ br) w w' := by
  subst hz
  have := rnum_calls w br v bs sh n h h1 h8 hm
  rw [hq] at this
  exact this

set_option maxRecDepth 100000 in
set_option maxHeartbeats 1000000 in
theorem vread_calls (w : World) (bd : Nat) (F : Nat → Prop) (D : Dk) (i : Int) (h : Dsk w bd F D) (ht : TabOK w) (a n s : Nat) (ok : Bool) (hr : readV D i = (a, n, s, ok)) :
    Calls Tryd.prog 66 #[.pointer (some ⟨bd, 0, none⟩), .int .i64 i] w fun e w' => e = .returned (.tuple #[.agg #[.int .i64 (a : Nat), .int .u32 (n : Nat), .int .i64 (s : Nat)], .bool ok]) ∧ Fr (fun _ _ => True) w w' := by
  obtain ⟨b, q, c, hld⟩ : ∃ b q c, loadM D i = (b, q, c) := ⟨_, _, _, rfl⟩
  have hbl : b.length ≤ 43 := by
    unfold loadM at hld
    split at hld
    · split at hld
      · cases hld; decide
      · cases hld; exact (lastRec_bound D _).2.1
    · cases hld; decide
  obtain ⟨W1, hW1⟩ : ∃ W1, w.alloc (.cells #[.int .i64 0, .int .u32 0, .int .i64 0] 111) = W1 := ⟨_, rfl⟩
  have f1 : Fr (fun _ _ => True) w W1 := by rw [← hW1]; exact (Fr.refl _ _).alloc _
  have top : W1.heap[w.heap.size]? = some (.cells #[.int .i64 0, .int .u32 0, .int .i64 0] 111 (0, 0)) := by rw [← hW1]; exact heap_alloc_new _ _
  have LC := Lib.hid (load_calls W1 bd F D i (h.tt f1) (ht.tt f1) _ _ _ hld)
  have F1 := Lib.hid f1
  have TOP := Lib.hid top
  have hs1 : w.heap.size < W1.heap.size := lt_of_some top
  unfold readV at hr
  rw [hld] at hr
  have HR := Lib.hid hr
  clear h ht hld f1 top hr
  have fin : ∀ (W : World) (x y z : Value), Fr (fun _ _ => True) W1 W → Fr (fun _ _ => True) w (((W.setCell ⟨w.heap.size, 0, none⟩ x).setCell ⟨w.heap.size, 1, none⟩ y).setCell ⟨w.heap.size, 2, none⟩ z) := fun W x y z hW =>
    (((F1.out.tt hW).setCell_new (p := ⟨w.heap.size, 0, none⟩) (Nat.le_refl _) x).setCell_new (p := ⟨w.heap.size, 1, none⟩) (Nat.le_refl _) y).setCell_new (p := ⟨w.heap.size, 2, none⟩) (Nat.le_refl _) z
  have FIN := Lib.hid fin
  clear fin
  by_cases hc : c = 0
  · subst hc
    have hr2 : (match markOf b with | some (a, n, s) => (a, n, s, true) | none => (1, 0, 0, false)) = (a, n, s, ok) := HR.out
    have HR2 := Lib.hid hr2
    clear hr2 HR
    obtain ⟨q1, b1, s1, hq1⟩ : ∃ q1 b1 s1, numR b false 1 = (q1, b1, s1) := ⟨_, _, _, rfl⟩
    obtain ⟨q2, b2, t2, hq2⟩ : ∃ q2 b2 t2, numR b1 s1 4 = (q2, b2, t2) := ⟨_, _, _, rfl⟩
    obtain ⟨q3, b3, s3, hq3⟩ : ∃ q3 b3 s3, numR b2 t2 2 = (q3, b3, s3) := ⟨_, _, _, rfl⟩
    have l1 : b1.length ≤ 43 := by have := numR_len b false 1; rw [hq1] at this; exact Nat.le_trans this hbl
    have l2 : b2.length ≤ 43 := by have := numR_len b1 s1 4; rw [hq2] at this; exact Nat.le_trans this l1
    have n1 : q1 < 256 := by have := numR_lt b false 1; rw [hq1] at this; exact this
    have n2 : q2 < 4294967296 := by have := numR_lt b1 s1 4; rw [hq2] at this; exact this
    have n3 : q3 < 65536 := by have := numR_lt b2 t2 2; rw [hq3] at this; exact this
    have hmk : markOf b = if endR b3 s3 ≠ 0 ∨ 1 < q1 then none else some (q1, q2, q3) := by
      unfold markOf
      simp only [hq1, hq2, hq3]
    have HM := Lib.hid hmk
    have HQ1 := Lib.hid hq1
    have HQ2 := Lib.hid hq2
    have HQ3 := Lib.hid hq3
    clear hq1 hq2 hq3 hmk
    go_enter Tryd.func66, Tryd.ntmps66
    go_wp2_with fail
    clear hW1
    (with_reducible refine LC.out.mono ?_)
    rintro e w2 ⟨⟨a2, c2, rfl, bb⟩, f2⟩
    have F2 := Lib.hid f2
    have s2 : W1.heap.size ≤ w2.heap.size := f2.size
    obtain ⟨w3, hw3⟩ : ∃ w3, w2.alloc (.cells #[.slice a2 b.length c2, .bool false] 123 (0, 0)) = w3 := ⟨_, rfl⟩
    have f3 : Fr (fun _ _ => True) w2 w3 := by rw [← hw3]; exact (Fr.refl _ _).alloc _
    have F3 := Lib.hid (f2.trans f3)
    have R3 : Hid (RdrAt (New W1.heap.size) w3 w2.heap.size (.slice a2 b.length c2) b false) := ⟨by rw [← hw3]; exact heap_alloc_new _ _, bb.tt f3, fun cs fz h => by obtain ⟨_, cs', fz', e⟩ := h; cases e⟩
    clear bb f2 f3
    go_wp2_with fail
    (with_reducible refine (read_calls w2 a2 b.length c2).mono ?_)
    rintro e w3' ⟨rfl, hw3'⟩
    rw [hw3] at hw3'
    replace hw3' := hw3'.symm
    subst hw3'
    clear hw3
    go_wp2_with fail
    (with_reducible refine (rnum_any w3 w2.heap.size _ b false 1 _ (by omega) R3.out (by decide) (by decide) (by omega) _ _ _ HQ1.out).mono ?_)
    rintro e w4 ⟨rfl, ⟨v4, r4⟩, f4⟩
    have F4 := Lib.hid (F3.out.not f4 s2)
    have R4 := Lib.hid r4
    clear r4 f4 R3 F3
    go_wp2_with fail
    (with_reducible refine (rnum_any w4 w2.heap.size _ b1 s1 4 _ (by omega) R4.out (by decide) (by decide) (by omega) _ _ _ HQ2.out).mono ?_)
    rintro e w5 ⟨rfl, ⟨v5, r5⟩, f5⟩
    have F5 := Lib.hid (F4.out.not f5 s2)
    have R5 := Lib.hid r5
    clear r5 f5 R4 F4
    go_wp2_with fail
    (with_reducible refine (rnum_any w5 w2.heap.size _ b2 t2 2 _ (by omega) R5.out (by decide) (by decide) (by omega) _ _ _ HQ3.out).mono ?_)
    rintro e w6 ⟨rfl, ⟨v6, r6⟩, f6⟩
    obtain ⟨w7, hw7⟩ : ∃ w7, w6.alloc (.cells #[.int .i64 (q1 : Nat), .int .u32 (q2 : Nat), .int .i64 (q3 : Nat)] 111) = w7 := ⟨_, rfl⟩
    have f7 : Fr (fun _ _ => True) w6 w7 := by rw [← hw7]; exact (Fr.refl _ _).alloc _
    have F7 := Lib.hid ((F5.out.not f6 s2).trans f7)
    have R7 := Lib.hid (r6.tt f7)
    have top7 : w7.heap[w6.heap.size]? = some (.cells #[.int .i64 (q1 : Nat), .int .u32 (q2 : Nat), .int .i64 (q3 : Nat)] 111 (0, 0)) := by rw [← hw7]; exact heap_alloc_new _ _
    have tt7 := F7.out.keep _ _ TOP.out trivial
    have m0 := cell_mk (i := 0) top7 rfl
    have m1 := cell_mk (i := 1) top7 rfl
    have m2 := cell_mk (i := 2) top7 rfl
    have r0 := cell_mk (i := 0) tt7 rfl
    have r1 := cell_mk (i := 1) tt7 rfl
    have r2 := cell_mk (i := 2) tt7 rfl
    have z0 := frozen_mk (i := 0) tt7
    have z1 := frozen_mk (i := 1) tt7
    have z2 := frozen_mk (i := 2) tt7
    have s6 : W1.heap.size ≤ w6.heap.size := (F5.out.not f6 s2).size
    have ne1 : ¬ w.heap.size = w6.heap.size := by omega
    have ne2 : ¬ w6.heap.size = w.heap.size := by omega
    clear r6 f6 f7 R5 F5 top7 tt7
    go_wp2_with fail
    clear hw7
    (with_reducible refine (rend_calls w7 w2.heap.size _ b3 s3 R7.out).mono ?_)
    rintro e w7' ⟨rfl, rfl⟩
    obtain ⟨ec, hec⟩ : ∃ ec, endR b3 s3 = ec := ⟨_, rfl⟩
    rw [hec]
    have HEC := Lib.hid hec
    clear hec
    by_cases he : ec = 0
    · subst he
      by_cases hq : 1 < q1
      · have hqI : (1 : Int) < q1 := by omega
        have EQ : Hid ((1, 0, 0, false) = (a, n, s, ok)) := by
          have := HR2.out
          rw [HM.out, if_pos (.inr hq)] at this
          exact this
        go_wp2
        have eq := EQ.out
        simp only [Prod.mk.injEq] at eq
        obtain ⟨rfl, rfl, rfl, rfl⟩ := eq
        exact bodyPost_ret (v := .tuple #[.agg #[.int .i64 1, .int .u32 0, .int .i64 0], .bool false]) (by simp [results, Tryd.results66, go_sem, r0, r1, r2]) rfl ⟨rfl, FIN.out _ _ _ _ F7.out⟩
      · have hqI : (q1 : Int) ≤ 1 := by omega
        have EQ : Hid ((q1, q2, q3, true) = (a, n, s, ok)) := by
          have := HR2.out
          rw [HM.out, if_neg (by rw [HEC.out]; omega)] at this
          exact this
        go_wp2
        have eq := EQ.out
        simp only [Prod.mk.injEq] at eq
        obtain ⟨rfl, rfl, rfl, rfl⟩ := eq
        exact bodyPost_ret (v := .tuple #[.agg #[.int .i64 (q1 : Nat), .int .u32 (q2 : Nat), .int .i64 (q3 : Nat)], .bool true]) (by simp [results, Tryd.results66, go_sem, r0, r1, r2]) rfl ⟨rfl, FIN.out _ _ _ _ F7.out⟩
    · have heB : (ec != 0) = true := by simpa using he
      have EQ : Hid ((1, 0, 0, false) = (a, n, s, ok)) := by
        have := HR2.out
        rw [HM.out, if_pos (.inl (by rw [HEC.out]; exact he))] at this
        exact this
      clear he
      go_wp2
      have eq := EQ.out
      simp only [Prod.mk.injEq] at eq
      obtain ⟨rfl, rfl, rfl, rfl⟩ := eq
      exact bodyPost_ret (v := .tuple #[.agg #[.int .i64 1, .int .u32 0, .int .i64 0], .bool false]) (by simp [results, Tryd.results66, go_sem, r0, r1, r2]) rfl ⟨rfl, FIN.out _ _ _ _ F7.out⟩
  · have hcB : (c != 0) = true := by simpa using hc
    have EQ : Hid ((1, 0, 0, false) = (a, n, s, ok)) := by
      have := HR.out
      rw [if_neg hc] at this
      exact this
    clear hc
    go_enter Tryd.func66, Tryd.ntmps66
    go_wp2_with fail
    clear hW1
    (with_reducible refine LC.out.mono ?_)
    rintro e w2 ⟨⟨a2, c2, rfl, bb⟩, f2⟩
    have F2 := Lib.hid f2
    have tt2 := f2.keep _ _ TOP.out trivial
    have r0 := cell_mk (i := 0) tt2 rfl
    have r1 := cell_mk (i := 1) tt2 rfl
    have r2 := cell_mk (i := 2) tt2 rfl
    have z0 := frozen_mk (i := 0) tt2
    have z1 := frozen_mk (i := 1) tt2
    have z2 := frozen_mk (i := 2) tt2
    clear bb f2 tt2
    go_wp2
    have eq := EQ.out
    simp only [Prod.mk.injEq] at eq
    obtain ⟨rfl, rfl, rfl, rfl⟩ := eq
    exact bodyPost_ret (v := .tuple #[.agg #[.int .i64 1, .int .u32 0, .int .i64 0], .bool false]) (by simp [results, Tryd.results66, go_sem, r0, r1, r2]) rfl ⟨rfl, FIN.out _ _ _ _ F2.out⟩

set_option maxRecDepth 100000 in
set_option maxHeartbeats 1000000 in
theorem mbytes_calls (w : World) (a n s : Nat) (ha : a ≤ 1) (hn : n < 4294967296) (hs : s < 65536) :
    Calls Tryd.prog 68 #[.agg #[.int .i64 (a : Nat), .int .u32 (n : Nat), .int .i64 (s : Nat)]] w fun e w' => (∃ q cap, e = .returned (.slice q 7 cap) ∧ BytesAt (New w.heap.size) w' (.slice q 7 cap) (markB a n s)) ∧ Fr (fun _ _ => True) w w' := by
  obtain ⟨W1, hW1⟩ : ∃ W1, w.alloc (.cells #[.int .i64 (a : Nat), .int .u32 (n : Nat), .int .i64 (s : Nat)] 111) = W1 := ⟨_, rfl⟩
  have f1 : Fr (fun _ _ => True) w W1 := by rw [← hW1]; exact (Fr.refl _ _).alloc _
  have top : W1.heap[w.heap.size]? = some (.cells #[.int .i64 (a : Nat), .int .u32 (n : Nat), .int .i64 (s : Nat)] 111 (0, 0)) := by rw [← hW1]; exact heap_alloc_new _ _
  have TOP := Lib.hid top
  have s1 : w.heap.size < W1.heap.size := lt_of_some top
  have F1 := Lib.hid f1
  have haI : (a : Int) ≤ 1 := by omega
  have hsI : (s : Int) < 65536 := by omega
  obtain ⟨W2, hW2⟩ : ∃ W2, W1.alloc (.cells #[.slice none 0 0] 69 (0, 0)) = W2 := ⟨_, rfl⟩
  have WR : Hid (WrAt W2 W1.heap.size (.slice none 0 0) []) := by rw [← hW2]; exact WrAt.new W1
  have F2 : Hid (Fr (fun _ _ => True) w W2) := by rw [← hW2]; exact f1.alloc _
  have T2 : Hid (W2.heap[w.heap.size]? = some (.cells #[.int .i64 (a : Nat), .int .u32 (n : Nat), .int .i64 (s : Nat)] 111 (0, 0))) := by rw [← hW2]; exact heap_alloc_lt top _
  have s2 : W1.heap.size < W2.heap.size := by rw [← hW2]; simp
  have t20 := cell_mk (i := 0) T2.out rfl
  clear f1 top
  go_enter Tryd.func68, Tryd.ntmps68
  go_wp2_with fail
  clear hW1 hW2
  (with_reducible refine (wnum_calls W2 W1.heap.size _ [] a 1 _ _ (by omega) (by omega) WR.out (by decide) (by decide) (by omega) (by decide)).mono ?_)
  rintro e w3 ⟨rfl, ⟨v3, h3, l3⟩, f3⟩
  rw [List.nil_append] at h3
  have H3 := Lib.hid h3
  have L3 := Lib.hid l3.new
  have F3 := Lib.hid (F2.out.old_trans f3 fun c o hc => ⟨by omega, by simp [Value.ownBlock]⟩)
  have T3 := Lib.hid (f3.keep _ _ T2.out ⟨by omega, by simp [Value.ownBlock]⟩)
  have s3 : W2.heap.size ≤ w3.heap.size := f3.size
  have t31 := cell_mk (i := 1) T3.out rfl
  clear h3 l3 f3 t20 WR
  go_wp2_with fail
  (with_reducible refine (wnum_calls w3 W1.heap.size v3 _ n 4 _ _ (by omega) (by omega) H3.out (by decide) (by decide) (by omega) (by rw [le_length]; decide)).mono ?_)
  rintro e w4 ⟨rfl, ⟨v4, h4, l4⟩, f4⟩
  have kw : ∀ c, c < W1.heap.size → KW W1.heap.size v3 c (.cells #[] 0 (0, 0)) := fun c hc => ⟨by omega, fun e => by have := L3.out c e; omega⟩
  have H4 := Lib.hid h4
  have F4 := Lib.hid (F3.out.old_trans f4 fun c o hc => ⟨by omega, fun e => by have := L3.out c e; omega⟩)
  have T4 := Lib.hid (f4.keep _ _ T3.out ⟨by omega, fun e => by have := L3.out _ e; omega⟩)
  have L4 : Hid (∀ c, v4.ownBlock = some c → W2.heap.size ≤ c) := fun c hc => by
    rcases l4 with l | l
    · rw [l] at hc; exact L3.out c hc
    · have := l c hc; omega
  have s4 : w3.heap.size ≤ w4.heap.size := f4.size
  have t42 := cell_mk (i := 2) T4.out rfl
  clear h4 l4 f4 t31 H3 kw
  go_wp2_with fail
  (with_reducible refine (wnum_calls w4 W1.heap.size v4 _ s 2 _ _ (by omega) (by omega) H4.out (by decide) (by decide) (by omega) (by rw [List.length_append, le_length, le_length]; decide)).mono ?_)
  rintro e w5 ⟨rfl, ⟨v5, h5, l5⟩, f5⟩
  rw [List.append_assoc] at h5
  have H5 := Lib.hid (show WrAt w5 W1.heap.size v5 (markB a n s) from h5)
  have F5 := Lib.hid (F4.out.old_trans f5 fun c o hc => ⟨by omega, fun e => by have := L4.out c e; omega⟩)
  have hml := Lib.hid (markB_length a n s)
  have s5 : w4.heap.size ≤ w5.heap.size := f5.size
  clear h5 l5 f5 t42 H4
  have OC := out_calls w5 W1.heap.size v5 _ H5.out (by rw [hml.out]; decide)
  rw [hml.out] at OC
  have OC := Lib.hid OC
  go_wp2_with fail
  (with_reducible refine OC.out.mono ?_)
  rintro e w6 ⟨⟨q6, c6, rfl, b6⟩, f6⟩
  have B6 := Lib.hid (b6.mono (K' := New w.heap.size) fun c o _ h => ⟨by have := h.1; omega, h.2⟩)
  have F6 := Lib.hid (F5.out.trans f6)
  clear b6 f6 OC
  go_wp2
  go_ret
  exact ⟨⟨_, _, rfl, B6.out⟩, F6.out⟩
end Go.Proofs.YtaeonlafcbgpcaaDoor
/- The references' Same: whether two slices of bytes hold the same bytes. -/
namespace Go.Proofs.YtaeonlafcbgpcaaDoor
open Go.RowKit

theorem Fr.drewN {K : Nat → Obj → Prop} {a w : World} (h : Fr K a w) (n : Nat) : Fr K a (w.drewN n) := by
  induction n generalizing w with
  | zero => exact h
  | succ n ih => exact (ih h).drew

theorem byteV_inj {a b : UInt8} : ((a.toNat : Int) != (b.toNat : Int)) = (a != b) := by
  rw [Bool.eq_iff_iff, bne_iff_ne, bne_iff_ne]
  exact ⟨fun h e => h (by rw [e]), fun h e => h (UInt8.toNat_inj.1 (by omega))⟩

set_option maxRecDepth 100000 in
theorem same_len (w : World) (a1 a2 : Option Addr) (n1 n2 c1 c2 : Nat) (hn : ¬ n1 = n2) : Calls Tryd.prog 17 #[.slice a1 n1 c1, .slice a2 n2 c2] w fun e w' => e = .returned (.bool false) ∧ w = w' := by
  have hq : ((n1 : Int) != n2) = true := by simp; omega
  clear hn
  go_enter Tryd.func17, Tryd.ntmps17
  go_wp2
  go_ret
  exact ⟨rfl, rfl⟩

set_option maxRecDepth 100000 in
theorem same_nil (w : World) (a1 a2 : Option Addr) (c1 c2 : Nat) : Calls Tryd.prog 17 #[.slice a1 0 c1, .slice a2 0 c2] w fun e w' => e = .returned (.bool true) ∧ w = w' := by
  go_enter Tryd.func17, Tryd.ntmps17
  go_wp2
  go_loop [5] (fun i => i = .int .i64 0) (fun _ => 0)
  case atStart => exact rfl
  case round =>
    obtain rfl := hrel
    go_wp2
    go_ret
    exact ⟨rfl, rfl⟩

set_option maxRecDepth 100000 in
theorem same_loop (w : World) (b1 b2 o1 o2 n c1 c2 : Nat) (x y : List UInt8) {K K' : Nat → Obj → Prop} (hx : BytesAt K w (.slice (some ⟨b1, o1, none⟩) n c1) x) (hy : BytesAt K' w (.slice (some ⟨b2, o2, none⟩) n c2) y) (hm : n ≤ 140737488355328) :
    Calls Tryd.prog 17 #[.slice (some ⟨b1, o1, none⟩) n c1, .slice (some ⟨b2, o2, none⟩) n c2] w fun e w' => e = .returned (.bool (decide (x = y))) ∧ ∃ k, w' = w.drewN k := by
  have h1 := hx.len
  have h2 := hy.len
  have HX := Lib.hid hx
  have HY := Lib.hid hy
  have H1 := Lib.hid h1
  have H2 := Lib.hid h2
  clear hx hy h1 h2
  go_enter Tryd.func17, Tryd.ntmps17
  go_wp2
  go_loopw [5] (fun i wr => ∃ k : Nat, k ≤ n ∧ i = .int .i64 k ∧ x.take k = y.take k ∧ ∃ j, wr = w.drewN j) (fun i _ => n - (intOf i).toNat)
  case atStart => exact ⟨0, Nat.zero_le _, rfl, rfl, 0, rfl⟩
  case round =>
    obtain ⟨k, hk, rfl, ht, j, rfl⟩ := hrel
    have HT := Lib.hid ht
    clear ht
    by_cases hlt : k < n
    · have g1 := HX.out.cell (i := k) (by have := H1.out; omega)
      have g2 := HY.out.cell (i := k) (by have := H2.out; omega)
      have l1 : k < x.length := by have := H1.out; omega
      have l2 : k < y.length := by have := H2.out; omega
      generalize hu : x[k] = u at g1
      generalize hv : y[k] = v at g2
      have HU := Lib.hid hu
      have HV := Lib.hid hv
      clear hu hv
      unfold byteV at g1 g2
      go_wp2
      go_quiet (fail)
      go_wp2
      · go_ret
        have hne : (↑u.toNat != (↑v.toNat : Int)) = true := by assumption
        rw [byteV_inj] at hne
        refine ⟨?_, j + nq, World.drewN_drewN _ _ _⟩
        have e1 : x ≠ y := fun e => by
          have := HU.out; have := HV.out; subst e; simp_all
        simp [e1]
      · have heq : (↑u.toNat != (↑v.toNat : Int)) = false := by assumption
        rw [byteV_inj] at heq
        go_roundw
        case rel =>
          refine ⟨k + 1, by omega, by go_num, ?_, _, rfl⟩
          rw [List.take_succ_eq_append_getElem l1, List.take_succ_eq_append_getElem l2, HT.out, HU.out, HV.out]
          simp at heq
          rw [heq]
        case measure => simp [intOf]; omega
    · go_wp2
      go_ret
      have e1 : x = y := by
        have := HT.out
        rwa [List.take_of_length_le (by have := H1.out; omega), List.take_of_length_le (by have := H2.out; omega)] at this
      exact ⟨by simp [e1], _, rfl⟩

theorem same_calls (w : World) (v1 v2 : Value) (x y : List UInt8) {K K' : Nat → Obj → Prop} (hx : BytesAt K w v1 x) (hy : BytesAt K' w v2 y) (hm : x.length ≤ 140737488355328) :
    Calls Tryd.prog 17 #[v1, v2] w fun e w' => e = .returned (.bool (decide (x = y))) ∧ ∃ k, w' = w.drewN k := by
  obtain ⟨a1, c1, rfl⟩ := hx.form
  obtain ⟨a2, c2, rfl⟩ := hy.form
  by_cases hl : x.length = y.length
  · by_cases h0 : x.length = 0
    · have e1 := List.length_eq_zero_iff.1 h0
      have e2 := List.length_eq_zero_iff.1 (hl ▸ h0)
      subst e1 e2
      exact (same_nil w a1 a2 c1 c2).mono fun e w' ⟨he, hw⟩ => ⟨he, 0, hw.symm⟩
    · obtain ⟨b1, o1, rfl⟩ := hx.addr (by omega)
      obtain ⟨b2, o2, rfl⟩ := hy.addr (by omega)
      rw [← hl] at hy ⊢
      exact same_loop w b1 b2 o1 o2 _ c1 c2 x y hx hy hm
  · refine (same_len w a1 a2 _ _ c1 c2 hl).mono fun e w' ⟨he, hw⟩ => ⟨?_, 0, hw.symm⟩
    rw [he, show decide (x = y) = false from by simp; exact fun e => hl (by rw [e])]

end Go.Proofs.YtaeonlafcbgpcaaDoor
