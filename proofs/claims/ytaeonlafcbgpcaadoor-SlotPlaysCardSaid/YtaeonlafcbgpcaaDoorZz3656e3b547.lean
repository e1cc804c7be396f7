/- Texts of the proofs, part 6: what the functions that they reach do, walked; no conditions beyond those that each states. -/
import Derived.Deep.QuietTactic
import Derived.BigQuiet
import Derived.Laws.BitsAllLaws
import Derived.Test.YtaeonlafcbgpcaaDoorZzb38cfc48d0
set_option linter.unusedVariables false
set_option linter.unusedSimpArgs false
/- Package slot: Put, Save. -/
namespace Go.Proofs.YtaeonlafcbgpcaaDoor
open Go.RowKit

theorem lastOf_mem (l : List (Nat × Nat × List UInt8)) : ∀ z, lastOf z l = z ∨ lastOf z l ∈ l := by
  induction l with
  | nil => intro z; exact .inl rfl
  | cons x l ih =>
    intro z
    show lastOf (if z.2.1 < x.2.1 then x else z) l = z ∨ lastOf (if z.2.1 < x.2.1 then x else z) l ∈ x :: l
    split
    · rcases ih x with h | h
      · exact .inr (by rw [h]; simp)
      · exact .inr (by simp [h])
    · rcases ih z with h | h
      · exact .inl h
      · exact .inr (by simp [h])
theorem secRec_some {D : Dk} {i : Nat} {x : Nat × Nat × List UInt8} (h : secRec D i = some x) : parseP (D.seen.getD i []) = some (x.2.1, 0, x.2.2) ∧ x.1 = i := by
  unfold secRec at h
  split at h
  · rename_i s b hp
    cases h
    exact ⟨hp, rfl⟩
  · cases h
theorem lastRec_form (D : Dk) (k : Nat) : lastRec D k = (k + 1, 0, []) ∨ ∃ i, i < 2 ∧ secRec D (k + i) = some (lastRec D k) := by
  rcases lastOf_mem (recsUpto D k 2) (k + 1, 0, []) with h | h
  · exact .inl h
  · obtain ⟨i, hi, hs⟩ := List.mem_filterMap.1 h
    exact .inr ⟨i, List.mem_range.1 hi, hs⟩
theorem lastRec_bound (D : Dk) (k : Nat) : (lastRec D k).2.1 < 4294967296 ∧ (lastRec D k).2.2.length ≤ 43 ∧ k ≤ (lastRec D k).1 ∧ (lastRec D k).1 ≤ k + 1 := by
  rcases lastRec_form D k with h | ⟨i, hi, h⟩
  · rw [h]; simp
  · obtain ⟨h1, h2⟩ := secRec_some h
    obtain ⟨_, h3, _, h4⟩ := parseP_pos h1
    exact ⟨h3, h4, by omega, by omega⟩

/-- What Put answers, and leaves. -/
def putM (D : Dk) (i : Int) (b : List UInt8) : Int × Dk :=
  if D.right i then (if 43 < b.length then (2, D) else if (lastRec D i.toNat).2.1 = 4294967295 then (42, D) else D.sync.write (2 * i + 1 - (lastRec D i.toNat).1) (stampB ((lastRec D i.toNat).2.1 + 1) 0 b)) else (40, D)

theorem Fr.within {K : Nat → Obj → Prop} {w w' : World} (h : Fr (fun c o => K c o ∧ c < w.heap.size) w w') : Fr K w w' :=
  ⟨h.os, h.tape, h.output, h.size, fun b o hb hk => h.keep b o hb ⟨hk, lt_of_some hb⟩⟩
theorem pend_sync (D : Dk) : D.sync.pend.length ≤ D.pend.length := by
  unfold Dk.sync
  split
  · exact Nat.le_refl _
  · exact Nat.zero_le _

theorem stamp_any {K : Nat → Obj → Prop} (w : World) (s : Nat) (z y : Int) (hz : z = s) (hy : y = 0) (v : Value) (b : List UInt8) (hb : BytesAt K w v b) (ht : TabOK w) (hs : s < 4294967296) :
    Calls Tryd.prog 13 #[.int .u32 z, .int .u32 y, v] w fun e w' =>
      ((43 < b.length ∧ e = .returned (.tuple #[.slice none 0 0, .int .i64 2])) ∨ (b.length ≤ 43 ∧ ∃ a' cap', e = .returned (.tuple #[.slice a' 64 cap', .int .i64 0]) ∧ BytesAt (New w.heap.size) w' (.slice a' 64 cap') (stampB s 0 b))) ∧ Fr (fun _ _ => True) w w' := by
  subst hz; subst hy
  refine (stamp_calls w s 0 v b hb ht hs (by decide)).mono fun e w' ⟨h, hf⟩ => ⟨?_, hf⟩
  split at h
  · exact .inl ⟨by assumption, h⟩
  · exact .inr ⟨by omega, h⟩

set_option maxRecDepth 100000 in
set_option maxHeartbeats 1000000 in
theorem put_calls {K : Nat → Obj → Prop} (w : World) (bd : Nat) (F : Nat → Prop) (D : Dk) (i : Int) (v : Value) (b : List UInt8) (h : Dsk w bd F D) (hb : BytesAt K w v b) (ht : TabOK w) (hq : D.pend.length < 1000000) :
    Calls Tryd.prog 21 #[.pointer (some ⟨bd, 0, none⟩), .int .i64 i, v] w fun e w' => e = .returned (.int .i64 (putM D i b).1) ∧ Dsk w' bd (fun c => F c ∨ w.heap.size ≤ c) (putM D i b).2 ∧ Fr (fun c _ => ¬ F c) w w' := by
  obtain ⟨va, vc, rfl⟩ := hb.form
  have hrc := right_calls w bd F D i h
  cases hr : D.right i with
  | false =>
    rw [hr] at hrc
    have e1 : putM D i b = (40, D) := by unfold putM; rw [hr]; rfl
    have E1 := Lib.hid e1
    have HR := Lib.hid hrc
    have HD := Lib.hid h
    clear hrc h hb ht hq hr e1
    go_enter Tryd.func21, Tryd.ntmps21
    go_wp2_with fail
    (with_reducible refine HR.out.mono ?_)
    rintro e w1 ⟨rfl, rfl⟩
    go_wp2
    go_ret
    rw [E1.out]
    exact ⟨rfl, HD.out.wide _, Fr.refl _ _⟩
  | true =>
    rw [hr] at hrc
    obtain ⟨k, rfl, hk⟩ := right_nat hr
    have e1 : putM D k b = (if 43 < b.length then (2, D) else if (lastRec D k).2.1 = 4294967295 then (42, D) else D.sync.write (2 * k + 1 - (lastRec D k).1) (stampB ((lastRec D k).2.1 + 1) 0 b)) := by
      unfold putM; rw [hr, if_pos rfl, Int.toNat_natCast]
    have hla := last_any w bd F D k k rfl h ht hk
    obtain ⟨hb1, hb2, hb3, hb4⟩ := lastRec_bound D k
    have hkm : k ≤ 511 := by have := h.wf.max; omega
    generalize lastRec D k = r at e1 hla hb1 hb2 hb3 hb4
    have E1 := Lib.hid e1
    have HR := Lib.hid hrc
    have HL := Lib.hid hla
    have HD := Lib.hid h
    have HB := Lib.hid hb
    have HT := Lib.hid ht
    clear hrc h hb ht hr e1 hla
    go_enter Tryd.func21, Tryd.ntmps21
    go_wp2_with fail
    (with_reducible refine HR.out.mono ?_)
    rintro e w1 ⟨rfl, rfl⟩
    go_wp2_with fail
    (with_reducible refine HL.out.mono ?_)
    rintro e w2 ⟨⟨x, rfl, hx, b2⟩, f2⟩
    subst hx
    have E2 : Hid (putM D k b = (if 43 < b.length then (2, D) else if x.seq = 4294967295 then (42, D) else D.sync.write (2 * k + 1 - x.at') (stampB (x.seq + 1) 0 b))) := E1.out
    have hs1 : x.seq < 4294967296 := hb1
    have hs2 : k ≤ x.at' := hb3
    have hs3 : x.at' ≤ k + 1 := hb4
    have F2 := Lib.hid f2
    clear f2 b2 E1 hb1 hb2 hb3 hb4
    unfold SRec.cells
    have F3 := Lib.hid (F2.out.alloc (.cells #[.int .i64 (x.at' : Nat), .int .u32 (x.seq : Nat), .slice x.a x.bs.length x.cap] 85 (0, 0)))
    have T3 := Lib.hid (heap_alloc_new w2 (.cells #[.int .i64 (x.at' : Nat), .int .u32 (x.seq : Nat), .slice x.a x.bs.length x.cap] 85 (0, 0)))
    have hw2 : w.heap.size ≤ w2.heap.size := F2.out.size
    have hTW : Hid (TabOK (w2.alloc (.cells #[.int .i64 (x.at' : Nat), .int .u32 (x.seq : Nat), .slice x.a x.bs.length x.cap] 85 (0, 0)))) := HT.out.tt F3.out
    have HBW := Lib.hid (HB.out.tt F3.out)
    have hsl : (w2.alloc (.cells #[.int .i64 (x.at' : Nat), .int .u32 (x.seq : Nat), .slice x.a x.bs.length x.cap] 85 (0, 0))).heap.size = w2.heap.size + 1 := by simp
    have HSL := Lib.hid hsl
    clear hsl HB HT
    generalize hseq : ((x.seq : Nat) : Int) = zq at F3 T3 hTW HBW HSL ⊢
    have hz0 : 0 ≤ zq := by omega
    have hz1 : zq < 4294967296 := by omega
    have HSQ := Lib.hid hseq
    clear hseq
    by_cases hmax : zq = 4294967295
    · subst hmax
      go_wp2_with fail
      (with_reducible refine (stamp_any _ 0 _ _ (by simp) (by rfl) _ b HBW.out hTW.out (by decide)).mono ?_)
      rintro e w4 ⟨(⟨hbl, rfl⟩ | ⟨hbl, a4, c4, rfl, b4⟩), f4⟩
      · have e2 := E2.out
        rw [if_pos hbl] at e2
        have EE := Lib.hid e2
        have F4 := Lib.hid (F3.out.trans f4)
        clear f4 e2 E2
        go_wp2
        go_ret
        rw [EE.out]
        exact ⟨rfl, (HD.out.tt F4.out).wide _, F4.out.mono fun _ _ _ => trivial⟩
      · have e2 := E2.out
        rw [if_neg (by omega), if_pos (by have := HSQ.out; omega)] at e2
        have EE := Lib.hid e2
        have F4 := Lib.hid (F3.out.trans f4)
        have t4 := f4.keep _ _ T3.out trivial
        have c41 : w4.cell? ⟨w2.heap.size, 1, none⟩ = some (.int .u32 4294967295) := cell_mk t4 rfl
        clear f4 e2 E2 t4 b4
        go_wp2
        go_ret
        rw [EE.out]
        exact ⟨rfl, (HD.out.tt F4.out).wide _, F4.out.mono fun _ _ _ => trivial⟩
    · go_wp2_with fail
      (with_reducible refine (stamp_any _ (x.seq + 1) _ _ (by have := HSQ.out; omega) (by rfl) _ b HBW.out hTW.out (by have := HSQ.out; omega)).mono ?_)
      rintro e w4 ⟨(⟨hbl, rfl⟩ | ⟨hbl, a4, c4, rfl, b4⟩), f4⟩
      · have e2 := E2.out
        rw [if_pos hbl] at e2
        have EE := Lib.hid e2
        have F4 := Lib.hid (F3.out.trans f4)
        clear f4 e2 E2
        go_wp2
        go_ret
        rw [EE.out]
        exact ⟨rfl, (HD.out.tt F4.out).wide _, F4.out.mono fun _ _ _ => trivial⟩
      · have e2 := E2.out
        rw [if_neg (by omega), if_neg (by have := HSQ.out; omega)] at e2
        have EE := Lib.hid e2
        have F4 := Lib.hid (F3.out.trans f4)
        have t4 := f4.keep _ _ T3.out trivial
        have c40 : w4.cell? ⟨w2.heap.size, 0, none⟩ = some (.int .i64 (x.at' : Nat)) := cell_mk t4 rfl
        have c41 : w4.cell? ⟨w2.heap.size, 1, none⟩ = some (.int .u32 zq) := cell_mk t4 rfl
        have D4 := Lib.hid (HD.out.inside.tt F4.out)
        have hs4 : w2.heap.size + 1 ≤ w4.heap.size := by have := f4.size; have := HSL.out; omega
        have B4 : Hid (BytesAt (fun c _ => w.heap.size ≤ c ∧ c < w4.heap.size) w4 (.slice a4 64 c4) (stampB (x.seq + 1) 0 b)) := b4.mono fun c o ho h => ⟨by have := h.1; have := HSL.out; omega, lt_of_some ho⟩
        have T4 := Lib.hid t4
        clear f4 e2 E2 t4 b4
        go_wp2_with fail
        (with_reducible refine (sync_calls w4 bd _ D D4.out).mono ?_)
        rintro e w5 ⟨rfl, d5, f5⟩
        have t5 := f5.keep _ _ T4.out (by intro h; have := h.2; omega)
        have c50 : w5.cell? ⟨w2.heap.size, 0, none⟩ = some (.int .i64 (x.at' : Nat)) := cell_mk t5 rfl
        have B5 := Lib.hid (B4.out.fr (f5.mono fun c _ h hc => by have := h.1; have := hc.2; omega))
        have F5 := Lib.hid f5
        have D5 := Lib.hid d5
        have hq5 : D.sync.pend.length < 1000000 := Nat.lt_of_le_of_lt (pend_sync D) hq
        clear f5 d5 t5
        go_wp2_with fail
        have hap : Hid (∀ c o, w5.heap[c]? = some o → (w.heap.size ≤ c ∧ c < w4.heap.size) → ¬ ((F c ∧ c < w.heap.size) ∨ w4.heap.size ≤ c)) := by
          intro c o _ h1 h2
          rcases h2 with h2 | h2 <;> omega
        (with_reducible refine (write_calls w5 bd _ D.sync _ _ _ D5.out B5.out hap.out hq5).mono ?_)
        rintro e w6 ⟨rfl, d6, f6⟩
        have D6 := Lib.hid d6
        have F6 := Lib.hid f6
        clear d6 f6
        go_wp2
        go_ret
        rw [EE.out]
        have hs5 := F5.out.size
        refine ⟨rfl, D6.out.mono fun c h => ?_, Fr.within ?_⟩
        · rcases h with (h | h) | h
          · exact .inl h.1
          · exact .inr (by omega)
          · exact .inr (by omega)
        · exact ((F4.out.mono fun _ _ _ => trivial).trans (F5.out.mono fun c _ h hc => h.1 hc.1)).trans (F6.out.mono fun c _ h hc => by
            rcases hc with hc | hc
            · exact h.1 hc.1
            · have := h.2; omega)

/-- What Save answers, and leaves. -/
def saveM (D : Dk) (i : Int) (b : List UInt8) : Int × Dk :=
  if (putM D i b).1 = 0 then (if (putM D i b).2.sync.down then 43 else 0, (putM D i b).2.sync) else putM D i b

set_option maxRecDepth 100000 in
theorem save_calls {K : Nat → Obj → Prop} (w : World) (bd : Nat) (F : Nat → Prop) (D : Dk) (i : Int) (v : Value) (b : List UInt8) (h : Dsk w bd F D) (hb : BytesAt K w v b) (ht : TabOK w) (hq : D.pend.length < 1000000) :
    Calls Tryd.prog 25 #[.pointer (some ⟨bd, 0, none⟩), .int .i64 i, v] w fun e w' => e = .returned (.int .i64 (saveM D i b).1) ∧ Dsk w' bd (fun c => F c ∨ w.heap.size ≤ c) (saveM D i b).2 ∧ Fr (fun c _ => ¬ F c) w w' := by
  have hp := put_calls w bd F D i v b h hb ht hq
  obtain ⟨va, vc, rfl⟩ := hb.form
  have hsv : Hid (saveM D i b = if (putM D i b).1 = 0 then (if (putM D i b).2.sync.down then 43 else 0, (putM D i b).2.sync) else putM D i b) := rfl
  generalize saveM D i b = r at hsv ⊢
  generalize putM D i b = p at hp hsv
  obtain ⟨c, D1⟩ := p
  have HP := Lib.hid hp
  clear hp h hb ht
  by_cases hc : c = 0
  · subst hc
    go_enter Tryd.func25, Tryd.ntmps25
    go_wp2_with fail
    (with_reducible refine HP.out.mono ?_)
    rintro e w1 ⟨rfl, d1, f1⟩
    have D1' := Lib.hid d1.inside
    have F1 := Lib.hid f1
    clear d1 f1
    go_wp2_with fail
    (with_reducible refine (sync_calls w1 bd _ D1 D1'.out).mono ?_)
    rintro e w2 ⟨rfl, d2, f2⟩
    have hdn := down_calls w2 bd _ D1.sync d2
    have DD := Lib.hid hdn
    have D2 : Hid (Dsk w2 bd (fun c => F c ∨ w.heap.size ≤ c) D1.sync) := d2.mono fun c hc => by
      rcases hc with hc | hc
      · exact hc.1
      · exact .inr (Nat.le_trans F1.out.size hc)
    have F2 : Hid (Fr (fun c _ => ¬ F c) w w2) := Fr.within ((F1.out.mono fun _ _ h => h.1).trans (f2.mono fun c _ h hc => by
      rcases hc.1 with hc | hc
      · exact h.1 hc
      · have := h.2; omega))
    clear d2 f2 hdn
    cases hdw : D1.sync.down with
    | true =>
      have e1 := hsv.out
      simp only [hdw, if_pos] at e1
      rw [hdw] at DD
      clear hdw
      have E1 := Lib.hid e1
      clear e1 hsv
      go_wp2_with fail
      (with_reducible refine DD.out.mono ?_)
      rintro e w3 ⟨rfl, rfl⟩
      go_wp2
      go_ret
      rw [E1.out]
      exact ⟨rfl, D2.out, F2.out⟩
    | false =>
      have e1 := hsv.out
      simp only [hdw, if_pos] at e1
      rw [hdw] at DD
      clear hdw
      have E1 := Lib.hid e1
      clear e1 hsv
      go_wp2_with fail
      (with_reducible refine DD.out.mono ?_)
      rintro e w3 ⟨rfl, rfl⟩
      go_wp2
      go_ret
      rw [E1.out]
      exact ⟨rfl, D2.out, F2.out⟩
  · have e1 : r = (c, D1) := by rw [hsv.out, if_neg hc]
    have E1 := Lib.hid e1
    clear e1 hsv
    go_enter Tryd.func25, Tryd.ntmps25
    go_wp2_with fail
    (with_reducible refine HP.out.mono ?_)
    rintro e w1 ⟨rfl, d1, f1⟩
    have D1' := Lib.hid d1
    have F1 := Lib.hid f1
    clear d1 f1
    go_wp2
    go_ret
    rw [E1.out]
    exact ⟨rfl, D1'.out, F1.out⟩
end Go.Proofs.YtaeonlafcbgpcaaDoor
/- Disks, plainly: what stays true of one, whatever is done. -/
namespace Go.Proofs.YtaeonlafcbgpcaaDoor
open Go.RowKit

structure Dk.good (D : Dk) : Prop where
  ok : D.ok
  seen : D.seen = laySure D.sure D.pend

theorem Dk.new_good (n : Nat) (h1 : 1 ≤ n) (h2 : n ≤ 512) : (Dk.new n).good := ⟨Dk.new_ok n h1 h2, rfl⟩
theorem Dk.good.fuse {D : Dk} (h : D.good) (n : Int) (h0 : -9223372036854775808 ≤ n) (h1 : n ≤ 9223372036854775807) : ({ D with fuse := n } : Dk).good := ⟨{ h.ok with lo := h0, hi := h1 }, h.seen⟩
theorem Dk.good.burn {D : Dk} (h : D.good) : D.burn.good := by
  refine ⟨{ h.ok with lo := ?_, hi := ?_ }, h.seen⟩
  · have := h.ok.lo; have := h.ok.hi; show _ ≤ D.fuse - min 1 (max 0 D.fuse); omega
  · have := h.ok.lo; have := h.ok.hi; show D.fuse - min 1 (max 0 D.fuse) ≤ _; omega
theorem mem_set64 {l : List (List UInt8)} {k : Nat} {x : List UInt8} (h : ∀ y ∈ l, y.length = 64) (hx : x.length = 64) : ∀ y ∈ l.set k x, y.length = 64 := fun y hy => by
  rcases List.mem_or_eq_of_mem_set hy with h1 | h1
  · exact h y h1
  · exact h1 ▸ hx
theorem Dk.good.put {D : Dk} (h : D.good) (k : Nat) (x : List UInt8) (hk : k < D.sure.length) (hx : x.length = 64) (hq : D.pend.length < 1000000) : (D.put k x).good := by
  have hb := h.burn
  refine ⟨{ hb.ok with len := ?_, s64 := ?_, p64 := ?_, few := ?_ }, ?_⟩
  · show (D.seen.set k x).length = D.sure.length
    rw [List.length_set]; exact h.ok.len
  · exact mem_set64 h.ok.s64 hx
  · intro y hy
    have hy' : y ∈ D.pend ++ [(k, x)] := hy
    rcases List.mem_append.1 hy' with h1 | h1
    · exact h.ok.p64 y h1
    · rw [List.mem_singleton.1 h1]; exact ⟨hk, hx⟩
  · show (D.pend ++ [(k, x)]).length ≤ _
    rw [List.length_append]; simp; omega
  · show D.seen.set k x = laySure D.sure (D.pend ++ [(k, x)])
    rw [laySure_snoc, ← h.seen]
theorem Dk.good.sync {D : Dk} (h : D.good) : D.sync.good := by
  unfold Dk.sync
  split
  · exact h.burn
  · refine ⟨{ h.burn.ok with len := ?_, one := ?_, max := ?_, u64 := ?_, p64 := ?_, few := ?_ }, h.seen⟩
    · show D.seen.length = (laySure D.sure D.pend).length
      rw [laySure_length]; exact h.ok.len
    · show 1 ≤ (laySure D.sure D.pend).length
      rw [laySure_length]; exact h.ok.one
    · show (laySure D.sure D.pend).length ≤ 512
      rw [laySure_length]; exact h.ok.max
    · exact laySure_64 D.pend D.sure h.ok.u64 fun x hx => (h.ok.p64 x hx).2
    · intro x hx; cases hx
    · exact Nat.zero_le _
theorem foldTorn_64 (zs : List Int) (l : List ((Nat × List UInt8) × Nat)) : ∀ s : List (List UInt8), (∀ x ∈ s, x.length = 64) → (∀ x ∈ l, x.1.1 < s.length ∧ x.1.2.length = 64) → ∀ x ∈ l.foldl (tornAt zs) s, x.length = 64 := by
  induction l with
  | nil => intro s h _; exact h
  | cons y l ih =>
    intro s h hl
    have hy := hl y (by simp)
    refine ih (tornAt zs s y) ?_ fun x hx => ?_
    · refine mem_set64 h (tear_64 _ _ _ hy.2 ?_)
      rw [List.getD_eq_getElem?_getD, List.getElem?_eq_getElem hy.1]
      exact h _ (List.getElem_mem hy.1)
    · rw [show (tornAt zs s y).length = s.length from by simp [tornAt]]
      exact hl x (by simp [hx])
theorem layTorn_64 (zs : List Int) (s : List (List UInt8)) (l : List (Nat × List UInt8)) (h : ∀ x ∈ s, x.length = 64) (hl : ∀ x ∈ l, x.1 < s.length ∧ x.2.length = 64) : ∀ x ∈ layTorn zs s l, x.length = 64 :=
  foldTorn_64 zs _ s h fun x hx => hl x.1 (by
    have := List.mem_map_of_mem (f := Prod.fst) hx
    rwa [List.zipIdx_map_fst] at this)
theorem Dk.good.crash {D : Dk} (h : D.good) (zs : List Int) : (D.crash zs).good := by
  refine ⟨⟨rfl, ?_, ?_, layTorn_64 zs _ _ h.ok.u64 h.ok.p64, layTorn_64 zs _ _ h.ok.u64 h.ok.p64, ?_, Nat.zero_le _, ?_, ?_⟩, rfl⟩
  · show 1 ≤ (layTorn zs D.sure D.pend).length
    rw [layTorn_length]; exact h.ok.one
  · show (layTorn zs D.sure D.pend).length ≤ 512
    rw [layTorn_length]; exact h.ok.max
  · intro x hx; cases hx
  · show (-9223372036854775808 : Int) ≤ -1; decide
  · show (-1 : Int) ≤ 9223372036854775807; decide
theorem pad_64 (b : List UInt8) (h : b.length ≤ 64) : (pad b).length = 64 := by simp [pad]; omega
theorem Dk.good.write {D : Dk} (h : D.good) (i : Int) (b : List UInt8) (hq : D.pend.length < 1000000) : (D.write i b).2.good := by
  unfold Dk.write
  split
  · exact h
  · split
    · exact h
    · split
      · exact h.burn
      · exact h.put _ _ (by omega) (pad_64 b (by omega)) hq
theorem pend_write (D : Dk) (i : Int) (b : List UInt8) : (D.write i b).2.pend.length ≤ D.pend.length + 1 := by
  unfold Dk.write
  split
  · exact Nat.le_succ _
  · split
    · exact Nat.le_succ _
    · split
      · exact Nat.le_succ _
      · show (D.pend ++ [_]).length ≤ _; simp
theorem Dk.good.putM {D : Dk} (h : D.good) (i : Int) (b : List UInt8) (hq : D.pend.length < 1000000) : (putM D i b).2.good := by
  unfold Go.Proofs.YtaeonlafcbgpcaaDoor.putM
  split
  · split
    · exact h
    · split
      · exact h
      · exact h.sync.write _ _ (Nat.lt_of_le_of_lt (pend_sync D) hq)
  · exact h
theorem pend_putM (D : Dk) (i : Int) (b : List UInt8) : (putM D i b).2.pend.length ≤ D.pend.length + 1 := by
  unfold Go.Proofs.YtaeonlafcbgpcaaDoor.putM
  split
  · split
    · exact Nat.le_succ _
    · split
      · exact Nat.le_succ _
      · exact Nat.le_trans (pend_write _ _ _) (Nat.succ_le_succ (pend_sync D))
  · exact Nat.le_succ _
theorem Dk.good.saveM {D : Dk} (h : D.good) (i : Int) (b : List UInt8) (hq : D.pend.length < 1000000) : (saveM D i b).2.good := by
  unfold Go.Proofs.YtaeonlafcbgpcaaDoor.saveM
  split
  · exact (h.putM i b hq).sync
  · exact h.putM i b hq
theorem pend_saveM (D : Dk) (i : Int) (b : List UInt8) : (saveM D i b).2.pend.length ≤ D.pend.length + 1 := by
  unfold Go.Proofs.YtaeonlafcbgpcaaDoor.saveM
  split
  · exact Nat.le_trans (pend_sync _) (pend_putM D i b)
  · exact pend_putM D i b
end Go.Proofs.YtaeonlafcbgpcaaDoor
/- The references' Same: whether two slices of bytes hold the same bytes. -/
namespace Go.Proofs.YtaeonlafcbgpcaaDoor
open Go.RowKit

theorem Fr.drewN {K : Nat → Obj → Prop} {a w : World} (h : Fr K a w) (n : Nat) : Fr K a (w.drewN n) := by
  induction n generalizing w with
  | zero => exact h
  | succ n ih => exact (ih h).drew

theorem byteV_inj {a b : UInt8} : ((a.toNat : Int) != (b.toNat : Int)) = (a != b) := by
  rw [Bool.eq_iff_iff, bne_iff_ne, bne_iff_ne]
  exact ⟨fun h e => h (by rw [e]), fun h e => h (UInt8.toNat_inj.1 (by omega))⟩

set_option maxRecDepth 100000 in
theorem same_len (w : World) (a1 a2 : Option Addr) (n1 n2 c1 c2 : Nat) (hn : ¬ n1 = n2) : Calls Tryd.prog 17 #[.slice a1 n1 c1, .slice a2 n2 c2] w fun e w' => e = .returned (.bool false) ∧ w = w' := by
  have hq : ((n1 : Int) != n2) = true := by simp; omega
  clear hn
  go_enter Tryd.func17, Tryd.ntmps17
  go_wp2
  go_ret
  exact ⟨rfl, rfl⟩

set_option maxRecDepth 100000 in
theorem same_nil (w : World) (a1 a2 : Option Addr) (c1 c2 : Nat) : Calls Tryd.prog 17 #[.slice a1 0 c1, .slice a2 0 c2] w fun e w' => e = .returned (.bool true) ∧ w = w' := by
  go_enter Tryd.func17, Tryd.ntmps17
  go_wp2
  go_loop [5] (fun i => i = .int .i64 0) (fun _ => 0)
  case atStart => exact rfl
  case round =>
    obtain rfl := hrel
    go_wp2
    go_ret
    exact ⟨rfl, rfl⟩

set_option maxRecDepth 100000 in
theorem same_loop (w : World) (b1 b2 o1 o2 n c1 c2 : Nat) (x y : List UInt8) {K K' : Nat → Obj → Prop} (hx : BytesAt K w (.slice (some ⟨b1, o1, none⟩) n c1) x) (hy : BytesAt K' w (.slice (some ⟨b2, o2, none⟩) n c2) y) (hm : n ≤ 140737488355328) :
    Calls Tryd.prog 17 #[.slice (some ⟨b1, o1, none⟩) n c1, .slice (some ⟨b2, o2, none⟩) n c2] w fun e w' => e = .returned (.bool (decide (x = y))) ∧ ∃ k, w' = w.drewN k := by
  have h1 := hx.len
  have h2 := hy.len
  have HX := Lib.hid hx
  have HY := Lib.hid hy
  have H1 := Lib.hid h1
  have H2 := Lib.hid h2
  clear hx hy h1 h2
  go_enter Tryd.func17, Tryd.ntmps17
  go_wp2
  go_loopw [5] (fun i wr => ∃ k : Nat, k ≤ n ∧ i = .int .i64 k ∧ x.take k = y.take k ∧ ∃ j, wr = w.drewN j) (fun i _ => n - (intOf i).toNat)
  case atStart => exact ⟨0, Nat.zero_le _, rfl, rfl, 0, rfl⟩
  case round =>
    obtain ⟨k, hk, rfl, ht, j, rfl⟩ := hrel
    have HT := Lib.hid ht
    clear ht
    by_cases hlt : k < n
    · have g1 := HX.out.cell (i := k) (by have := H1.out; omega)
      have g2 := HY.out.cell (i := k) (by have := H2.out; omega)
      have l1 : k < x.length := by have := H1.out; omega
      have l2 : k < y.length := by have := H2.out; omega
      generalize hu : x[k] = u at g1
      generalize hv : y[k] = v at g2
      have HU := Lib.hid hu
      have HV := Lib.hid hv
      clear hu hv
      unfold byteV at g1 g2
      go_wp2
      go_quiet (fail)
      go_wp2
      · go_ret
        have hne : (↑u.toNat != (↑v.toNat : Int)) = true := by assumption
        rw [byteV_inj] at hne
        refine ⟨?_, j + nq, World.drewN_drewN _ _ _⟩
        have e1 : x ≠ y := fun e => by
          have := HU.out; have := HV.out; subst e; simp_all
        simp [e1]
      · have heq : (↑u.toNat != (↑v.toNat : Int)) = false := by assumption
        rw [byteV_inj] at heq
        go_roundw
        case rel =>
          refine ⟨k + 1, by omega, by go_num, ?_, _, rfl⟩
          rw [List.take_succ_eq_append_getElem l1, List.take_succ_eq_append_getElem l2, HT.out, HU.out, HV.out]
          simp at heq
          rw [heq]
        case measure => simp [intOf]; omega
    · go_wp2
      go_ret
      have e1 : x = y := by
        have := HT.out
        rwa [List.take_of_length_le (by have := H1.out; omega), List.take_of_length_le (by have := H2.out; omega)] at this
      exact ⟨by simp [e1], _, rfl⟩

theorem same_calls (w : World) (v1 v2 : Value) (x y : List UInt8) {K K' : Nat → Obj → Prop} (hx : BytesAt K w v1 x) (hy : BytesAt K' w v2 y) (hm : x.length ≤ 140737488355328) :
    Calls Tryd.prog 17 #[v1, v2] w fun e w' => e = .returned (.bool (decide (x = y))) ∧ ∃ k, w' = w.drewN k := by
  obtain ⟨a1, c1, rfl⟩ := hx.form
  obtain ⟨a2, c2, rfl⟩ := hy.form
  by_cases hl : x.length = y.length
  · by_cases h0 : x.length = 0
    · have e1 := List.length_eq_zero_iff.1 h0
      have e2 := List.length_eq_zero_iff.1 (hl ▸ h0)
      subst e1 e2
      exact (same_nil w a1 a2 c1 c2).mono fun e w' ⟨he, hw⟩ => ⟨he, 0, hw.symm⟩
    · obtain ⟨b1, o1, rfl⟩ := hx.addr (by omega)
      obtain ⟨b2, o2, rfl⟩ := hy.addr (by omega)
      rw [← hl] at hy ⊢
      exact same_loop w b1 b2 o1 o2 _ c1 c2 x y hx hy hm
  · refine (same_len w a1 a2 _ _ c1 c2 hl).mono fun e w' ⟨he, hw⟩ => ⟨?_, 0, hw.symm⟩
    rw [he, show decide (x = y) = false from by simp; exact fun e => hl (by rw [e])]

end Go.Proofs.YtaeonlafcbgpcaaDoor
/- The references: Number, Of, Sum. -/
namespace Go.Proofs.YtaeonlafcbgpcaaDoor
open Go.RowKit

/-- An append of bytes to a row of the function's own. -/
theorem wpList_append_bytes {K0 : Nat → Obj → Prop} {ops : Array Oper} {rest : List Oper} {o : Oper} {a : Act} {Q : Exit → Act → World → Prop} (W : World) (hgd : o.guard = none) (s x : Operand)
    (ho : o.op = .call { callee := .builtin .append, args := #[s, x], argTypes := #[23, 23] }) (B : Nat) (hB : B ≤ W.heap.size) (v : Value) (n : Nat) (xs : List UInt8) (hs : a.eval s = v) (hown : W.ownsRow B 5 1 v n (xs.map byteV))
    (vx : Value) (bs : List UInt8) (hx : a.eval x = vx) (hb : BytesAt K0 W vx bs) (N : Nat) (r : List UInt8) (hr : xs ++ bs = r) (hN : n + bs.length = N) (hn : N ≤ 2000000)
    (h : ∀ a' c' w', w'.ownsRow B 5 1 (.slice a' N c') N (r.map byteV) → W.grownBy w' v.ownBlock → wpList Tryd.prog ops Q rest (a.put o.dst (.slice a' N c')) w') :
    wpList Tryd.prog ops Q (o :: rest) a W := by
  obtain ⟨i0, hi, hz0, hz1, hz2⟩ := info_parts info_u8
  subst hr hN
  refine wpList_append_src W hgd s x 23 ho B 5 i0 (.int .u8 0) 1 1 Tryd.underlying23 hi hz0 hz1 hz2 rfl (by decide) v n (xs.map byteV) hs hown vx bs.length (bs.map byteV) hx hb.src (by unfold maxLen; omega) (by omega) hB ?_
  intro v' w' h1 h2 _
  rw [← List.map_append] at h1
  have hv' : ∃ a' c', v' = .slice a' (n + bs.length) c' := by
    rcases h1.2 with ⟨rfl, e⟩ | ⟨g, cap, _, rfl, _⟩
    · exact ⟨none, 0, by rw [e]⟩
    · exact ⟨_, _, rfl⟩
  obtain ⟨a', c', rfl⟩ := hv'
  exact h a' c' w' h1 h2

theorem BytesAt.lit' (w : World) (m : UInt8) : BytesAt (New w.heap.size) (w.alloc (.cells #[.int .u8 m.toNat] 5 (0, 0))) (.slice (some ⟨w.heap.size, 0, none⟩) 1 1) [m] := by
  refine ⟨_, 1, rfl, Nat.le_refl _, (fun e => by cases e), .inr ⟨w.heap.size, 0, _, rfl, heap_alloc_new _ _, ⟨Nat.le_refl _, _, _, rfl⟩, fun i hi => ?_⟩⟩
  obtain rfl : i = 0 := by simpa using hi
  exact cell_mk (heap_alloc_new _ _) rfl
theorem own_new {w : World} {B : Nat} {v : Value} {n : Nat} {xs : List Value} {e : TypeId} {s : Nat} (h : w.ownsRow B e s v n xs) : ∀ k, v.ownBlock = some k → B ≤ k := by
  intro k hk
  rcases h.2 with ⟨rfl, _⟩ | ⟨g, cap, _, rfl, hg, _⟩
  · cases hk
  · cases hk; exact hg

/-- A row of bytes of the function's own. -/
def RowB (w : World) (B : Nat) (v : Value) (n : Nat) (bs : List UInt8) : Prop := w.ownsRow B 5 1 v n (bs.map byteV)
/-- The same, told of what was there when a world began. -/
theorem wpList_append_fr {K0 : Nat → Obj → Prop} {ops : Array Oper} {rest : List Oper} {o : Oper} {a : Act} {Q : Exit → Act → World → Prop} (W0 W : World) (hF : Hid (Fr (fun _ _ => True) W0 W)) (hgd : o.guard = none) (s x : Operand)
    (ho : o.op = .call { callee := .builtin .append, args := #[s, x], argTypes := #[23, 23] }) (v : Value) (n : Nat) (xs : List UInt8) (hs : a.eval s = v) (hown : Hid (RowB W W0.heap.size v n xs))
    (vx : Value) (bs : List UInt8) (hx : a.eval x = vx) (hb : Hid (BytesAt K0 W vx bs)) (N : Nat) (r : List UInt8) (hr : Hid (xs ++ bs = r)) (hN : Hid (n + bs.length = N)) (hn : N ≤ 2000000)
    (h : ∀ a' c' w', Hid (RowB w' W0.heap.size (.slice a' N c') N r) → Hid (Fr (fun _ _ => True) W0 w') → wpList Tryd.prog ops Q rest (a.put o.dst (.slice a' N c')) w') :
    wpList Tryd.prog ops Q (o :: rest) a W :=
  wpList_append_bytes W hgd s x ho W0.heap.size hF.out.size v n xs hs hown.out vx bs hx hb.out N r hr.out hN.out hn fun a' c' w' h1 h2 => h a' c' w' h1 (hF.out.grown_new h2 (own_new hown.out))
theorem own_tt {w w' : World} {B : Nat} {v : Value} {n : Nat} {xs : List Value} {e : TypeId} {s : Nat} (h : w.ownsRow B e s v n xs) (hf : Fr (fun _ _ => True) w w') : w'.ownsRow B e s v n xs := ownsRow_fr h hf fun _ _ _ _ => trivial
theorem RowB.tt {w w' : World} {B : Nat} {v : Value} {n : Nat} {bs : List UInt8} (h : RowB w B v n bs) (hf : Fr (fun _ _ => True) w w') : RowB w' B v n bs := own_tt h hf
theorem BytesAt.of_own {w : World} {B : Nat} {v : Value} {n : Nat} {bs : List UInt8} (h : RowB w B v n bs) (hn : bs.length = n) : BytesAt (New B) w v bs := by
  subst hn; exact BytesAt.of_owns h

set_option maxRecDepth 100000 in
set_option maxHeartbeats 1000000 in
theorem num01_calls (w : World) (n : Nat) (size : Nat) (nz sz : Int) (hnz : nz = n) (hsz : sz = size) (h8 : size ≤ 8) (hn : n < 18446744073709551616) :
    Calls Tryd.prog 42 #[.int .u64 nz, .int .i64 sz] w fun e w' => (∃ a c, e = .returned (.slice a size c) ∧ RowB w' w.heap.size (.slice a size c) size (le n size)) ∧ Fr (fun _ _ => True) w w' := by
  subst hnz hsz
  have h8' : (size : Int) ≤ 8 := by omega
  go_enter Tryd.func42, Tryd.ntmps42
  go_wp2
  go_loopw [0, 5, 6] (fun nn out i wr => ∃ (k q : Nat) (a : Option Addr) (c : Nat), k ≤ size ∧ i = .int .i64 k ∧ nn = .int .u64 (q : Nat) ∧ q = n / 256 ^ k ∧ out = .slice a k c ∧ wr.ownsRow w.heap.size 5 1 (.slice a k c) k ((le n k).map byteV) ∧ Fr (fun _ _ => True) w wr) (fun _ _ i _ => size - (intOf i).toNat)
  case atStart => exact ⟨0, n, none, 0, Nat.zero_le _, rfl, rfl, by simp, rfl, ⟨rfl, .inl ⟨rfl, rfl⟩⟩, Fr.refl _ _⟩
  case round =>
    obtain ⟨k, q, a, c, hk, rfl, rfl, hq, rfl, ho, hf⟩ := hrel
    have hql : q < 18446744073709551616 := by rw [hq]; exact Nat.lt_of_le_of_lt (Nat.div_le_self _ _) hn
    have HQ := Lib.hid hq
    have HO := Lib.hid ho
    have HF := Lib.hid hf
    clear hq ho hf
    by_cases hlt : k < size
    · have e1 : (q : Int) % 256 = ((UInt8.ofNat q).toNat : Nat) := by rw [UInt8.toNat_ofNat']; omega
      have e2 := Lib.hid e1
      have e3 : ((UInt8.ofNat q).toNat : Int) % 256 = ((UInt8.ofNat q).toNat : Nat) := by have := (UInt8.ofNat q).toNat_lt; omega
      have HL := Lib.hid (le_snoc n k)
      have hm : (UInt8.ofNat q).toNat < 256 := (UInt8.ofNat q).toNat_lt
      generalize hmm : UInt8.ofNat q = m at e1 e2 e3 hm
      have HM := Lib.hid hmm
      clear hmm
      go_wp2_with (at_builtin; refine wpList_append_bytes _ rfl _ _ rfl w.heap.size ?c1 _ k (le n k) rfl (HO.out.alloc _) _ [m] rfl (BytesAt.lit' wr m) (k + 1) (le n (k + 1)) ?c2 rfl ?c3 ?_)
      case c1 => have := HF.out.size; simp; omega
      case c2 => rw [HL.out, ← HQ.out, HM.out]
      case c3 => omega
      intro a1 c1 w1 o1 g1
      have O1 := Lib.hid o1
      have F1 := Lib.hid ((HF.out.alloc _).grown_new g1 (own_new HO.out))
      clear o1 g1
      go_wp2
      go_roundw
      case rel => exact ⟨k + 1, q / 256, a1, c1, by omega, by go_num, by go_num, by rw [HQ.out, Nat.div_div_eq_div_mul, Nat.pow_succ], rfl, O1.out, F1.out⟩
      case measure => simp [intOf]; omega
    · obtain rfl : k = size := by omega
      go_wp2
      go_ret
      exact ⟨⟨a, c, rfl, HO.out⟩, HF.out⟩
end Go.Proofs.YtaeonlafcbgpcaaDoor
/- The references: Of; the sum bit by bit. -/
namespace Go.Proofs.YtaeonlafcbgpcaaDoor
open Go.RowKit

def zz (x : Nat) : Nat := (x / 2) ^^^ (if x % 2 = 1 then 3988292384 else 0)
theorem mod2_xor (a b : Nat) : (a ^^^ b) % 2 = (a % 2 + b % 2) % 2 := by
  have h := Nat.testBit_xor a b 0
  rw [Nat.testBit_zero, Nat.testBit_zero, Nat.testBit_zero] at h
  rcases Nat.mod_two_eq_zero_or_one a with ha | ha <;> rcases Nat.mod_two_eq_zero_or_one b with hb | hb <;> rcases Nat.mod_two_eq_zero_or_one (a ^^^ b) with hc | hc <;> simp [ha, hb, hc] at h ⊢
theorem div2_xor (a b : Nat) : (a ^^^ b) / 2 = (a / 2) ^^^ (b / 2) := by
  have := Nat.shiftRight_xor_distrib (a := a) (b := b) (i := 1)
  simpa [Nat.shiftRight_succ] using this
theorem xor_swap (a b c d : Nat) : (a ^^^ b) ^^^ (c ^^^ d) = (a ^^^ c) ^^^ (b ^^^ d) := by
  rw [Nat.xor_assoc, ← Nat.xor_assoc b c d, Nat.xor_comm b c, Nat.xor_assoc c b d, ← Nat.xor_assoc a c]
theorem zz_xor (a b : Nat) : zz (a ^^^ b) = zz a ^^^ zz b := by
  unfold zz
  rw [div2_xor, mod2_xor, xor_swap]
  congr 1
  rcases Nat.mod_two_eq_zero_or_one a with ha | ha <;> rcases Nat.mod_two_eq_zero_or_one b with hb | hb <;> simp [ha, hb]
theorem zz_two (m : Nat) : zz (m * 2) = m := by
  unfold zz
  rw [Nat.mul_mod_left, if_neg (by decide), Nat.mul_div_cancel _ (by decide), Nat.xor_zero]
theorem split16 (s : Nat) : s = (s / 16 * 16) ^^^ (s % 16) := by
  apply Nat.eq_of_testBit_eq
  intro i
  rw [Nat.testBit_xor, show (16 : Nat) = 2 ^ 4 from rfl, Nat.testBit_mul_two_pow, Nat.testBit_mod_two_pow, Nat.testBit_div_two_pow]
  by_cases h : i < 4
  · simp [h, Nat.not_le.2 h]
  · have h' : 4 ≤ i := by omega
    simp [h, h']
theorem zz_low : ∀ l, l < 16 → zz (zz (zz (zz l))) = tb l := by decide +kernel
theorem zz4 (s : Nat) : zz (zz (zz (zz s))) = nib s := by
  have h := split16 s
  have h2 : s / 16 * 16 = (s / 16 * 2 * 2 * 2) * 2 := by omega
  rw [h2] at h
  have e : zz (zz (zz (zz s))) = zz (zz (zz (zz (s / 16 * 2 * 2 * 2 * 2 ^^^ s % 16)))) := by rw [← h]
  rw [e, zz_xor, zz_two, zz_xor, zz_two, zz_xor, zz_two, zz_xor, zz_two, zz_low _ (Nat.mod_lt _ (by decide))]
  rfl
/-- The sum of a byte, behind so many bits. -/
def zzN (x : Nat) : Nat → Nat
  | 0 => x
  | k + 1 => zz (zzN x k)
theorem zz8 (s : Nat) (c : UInt8) : zzN (s ^^^ c.toNat) 8 = step8 s c := by
  show zz (zz (zz (zz (zz (zz (zz (zz (s ^^^ c.toNat)))))))) = _
  rw [zz4, zz4]; rfl
/-- What the bits of a byte make of a sum: behind k of them. -/
def bitS (s : Nat) (c : UInt8) (k : Nat) : Nat := zzN (s ^^^ c.toNat) k ^^^ (c.toNat / 2 ^ k)
theorem bitS_zero (s : Nat) (c : UInt8) : bitS s c 0 = s := by
  unfold bitS zzN
  rw [Nat.pow_zero, Nat.div_one, Nat.xor_assoc, Nat.xor_self, Nat.xor_zero]
theorem bitS_eight (s : Nat) (c : UInt8) : bitS s c 8 = step8 s c := by
  unfold bitS
  rw [zz8, Nat.div_eq_of_lt (by have := c.toNat_lt; omega), Nat.xor_zero]
theorem bitS_succ (s : Nat) (c : UInt8) (k : Nat) : bitS s c (k + 1) = (bitS s c k / 2) ^^^ (if (bitS s c k % 2 + (c.toNat / 2 ^ k) % 2) % 2 = 1 then 3988292384 else 0) := by
  unfold bitS
  rw [div2_xor, mod2_xor, zzN, zz, Nat.pow_succ, ← Nat.div_div_eq_div_mul, Nat.xor_assoc, Nat.xor_comm _ (c.toNat / 2 ^ k / 2), ← Nat.xor_assoc]
  congr 1
  have : ((zzN (s ^^^ c.toNat) k % 2 + c.toNat / 2 ^ k % 2) % 2 + c.toNat / 2 ^ k % 2) % 2 = zzN (s ^^^ c.toNat) k % 2 := by omega
  rw [this]
theorem zz_lt {x : Nat} (h : x < 4294967296) : zz x < 4294967296 := xor_u32_lt (by omega) (by split <;> decide)
theorem bitS_lt (s : Nat) (c : UInt8) (hs : s < 4294967296) (k : Nat) : bitS s c k < 4294967296 := by
  have hc := c.toNat_lt
  have h1 : ∀ k, zzN (s ^^^ c.toNat) k < 4294967296 := by
    intro k
    induction k with
    | zero => exact xor_u32_lt hs (by omega)
    | succ k ih => exact zz_lt ih
  exact xor_u32_lt (h1 k) (Nat.lt_of_le_of_lt (Nat.div_le_self _ _) (by omega))

set_option maxRecDepth 100000 in
theorem of_calls {K : Nat → Obj → Prop} (w : World) (v : Value) (bs : List UInt8) (h : BytesAt K w v bs) (hm : bs.length ≤ 8) :
    Calls Tryd.prog 47 #[v] w fun e w' => e = .returned (.int .u64 (ofLE bs : Nat)) ∧ w = w' := by
  obtain ⟨a, cap, rfl⟩ := h.form
  have HB := Lib.hid h
  clear h
  generalize hn : bs.length = n at hm
  have HN := Lib.hid hn
  clear hn
  go_enter Tryd.func47, Tryd.ntmps47
  go_wp2
  go_loop [3, 4] (fun s i => (i = .int .i64 (-1) ∧ s = .int .u64 (ofLE bs : Nat)) ∨ ∃ j : Nat, j < n ∧ i = .int .i64 (j : Nat) ∧ s = .int .u64 (ofLE (bs.drop (j + 1)) : Nat)) (fun _ i => (intOf i + 1).toNat)
  case atStart =>
    cases n with
    | zero => exact .inl ⟨rfl, by rw [List.length_eq_zero_iff.1 HN.out]; rfl⟩
    | succ m => exact .inr ⟨m, by omega, by go_num, by rw [List.drop_of_length_le (by have := HN.out; omega)]; rfl⟩
  case round =>
    rcases hrel with ⟨rfl, rfl⟩ | ⟨j, hj, rfl, rfl⟩
    · go_wp2
      go_ret
      exact ⟨rfl, rfl⟩
    · have hkl : j < bs.length := by have := HN.out; omega
      have hb' : BytesAt K w (.slice a n cap) bs := by have := HB.out; rwa [HN.out] at this
      obtain ⟨b, off, rfl⟩ := hb'.addr (by omega)
      have g := hb'.cell hkl
      unfold byteV at g
      clear hb'
      have hst : Hid (ofLE (bs.drop j) = bs[j].toNat + 256 * ofLE (bs.drop (j + 1))) := by rw [List.drop_eq_getElem_cons hkl, ofLE]; rfl
      have hlt : ofLE (bs.drop (j + 1)) < 256 ^ 7 := Nat.lt_of_lt_of_le (ofLE_lt _) (Nat.pow_le_pow_right (by decide) (by rw [List.length_drop]; have := HN.out; omega))
      rw [show (256 : Nat) ^ 7 = 72057594037927936 from by decide] at hlt
      have hlt' : (ofLE (bs.drop (j + 1)) : Int) < 72057594037927936 := by omega
      clear hlt
      have hc := bs[j].toNat_lt
      generalize ofLE (bs.drop (j + 1)) = s at hst hlt'
      generalize bs[j] = c at g hst hc
      go_wp2
      go_round
      case rel =>
        cases j with
        | zero => exact .inl ⟨by go_num, by have e := hst.out; rw [List.drop_zero] at e; rw [e, Nat.add_comm, Nat.mul_comm]; go_num⟩
        | succ m => exact .inr ⟨m, by omega, by go_num, by rw [hst.out, Nat.add_comm, Nat.mul_comm]; go_num⟩
      case measure => simp [intOf]
end Go.Proofs.YtaeonlafcbgpcaaDoor
/- The references: the sum, walked. -/
namespace Go.Proofs.YtaeonlafcbgpcaaDoor
open Go.RowKit
set_option linter.unusedVariables false

theorem and1 (x : Nat) : x &&& 1 = x % 2 := Nat.and_two_pow_sub_one_eq_mod x 1
theorem low_xor : ∀ t z : Nat, t < 2 → z < 2 → t ^^^ z = (t + z) % 2 := by
  intro t z ht hz
  have h1 : t = 0 ∨ t = 1 := by omega
  have h2 : z = 0 ∨ z = 1 := by omega
  rcases h1 with rfl | rfl <;> rcases h2 with rfl | rfl <;> rfl
/-- One bit, in the walk's spelling. -/
theorem bit_facts (x : Nat) (c : UInt8) (q : Nat) (hx : x < 4294967296) : ∃ y z t l : Nat, ((c.toNat : Int) / 2 ^ q = (y : Int)) ∧ bits .and .u8 (y : Int) 1 = (z : Int) ∧ z < 2 ∧ bits .and .u32 (x : Int) 1 = (t : Int) ∧ t < 2 ∧ bits .xor .u32 (t : Int) (z : Int) = (l : Int) ∧ Hid (l = (x % 2 + (c.toNat / 2 ^ q) % 2) % 2) := by
  have hc := c.toNat_lt
  have hy : c.toNat / 2 ^ q < 256 := Nat.lt_of_le_of_lt (Nat.div_le_self _ _) (by omega)
  have h1 : x % 2 < 2 := Nat.mod_lt _ (by decide)
  have h2 : c.toNat / 2 ^ q % 2 < 2 := Nat.mod_lt _ (by decide)
  refine ⟨c.toNat / 2 ^ q, c.toNat / 2 ^ q % 2, x % 2, (x % 2 + (c.toNat / 2 ^ q) % 2) % 2, by simp, ?_, h2, ?_, h1, ?_, rfl⟩
  · rw [← and1]; exact u8_and_nat _ 1 hy (by decide)
  · rw [← and1]; exact u32_and_nat _ 1 hx (by decide)
  · rw [← low_xor _ _ h1 h2]; exact u32_xor_nat _ _ (by omega) (by omega)
theorem poly_facts (x : Nat) (hx : x < 4294967296) : ∃ y : Nat, bits .xor .u32 ((x : Int) / 2) 3988292384 = (y : Int) ∧ Hid (y = (x / 2) ^^^ 3988292384) :=
  ⟨_, by have := u32_xor_nat (x / 2) 3988292384 (by omega) (by decide); exact this, rfl⟩

set_option maxRecDepth 100000 in
set_option maxHeartbeats 1000000 in
theorem sum02_calls {K : Nat → Obj → Prop} (w : World) (v : Value) (bs : List UInt8) (h : BytesAt K w v bs) (hm : bs.length ≤ 140737488355328) :
    Calls Tryd.prog 43 #[v] w fun e w' => e = .returned (.int .u32 (sumOf bs : Nat)) ∧ w = w' := by
  obtain ⟨a, cap, rfl⟩ := h.form
  have HB := Lib.hid h
  clear h
  generalize hn : bs.length = n at hm
  have HN := Lib.hid hn
  clear hn
  go_enter Tryd.func43, Tryd.ntmps43
  go_wp2
  go_loop [3, 4] (fun s i => ∃ k : Nat, k ≤ n ∧ i = .int .i64 k ∧ s = .int .u32 (crc (bs.take k) : Nat)) (fun _ i => n - (intOf i).toNat)
  case atStart => exact ⟨0, Nat.zero_le _, rfl, rfl⟩
  case round =>
    obtain ⟨k, hk, rfl, rfl⟩ := hrel
    have hlt0 := crc_lt (bs.take k)
    by_cases hlt : k < n
    · have hkl : k < bs.length := by have := HN.out; omega
      have hb' : BytesAt K w (.slice a n cap) bs := by have := HB.out; rwa [HN.out] at this
      obtain ⟨b, off, rfl⟩ := hb'.addr (by omega)
      have g := hb'.cell hkl
      unfold byteV at g
      clear hb'
      have hst : Hid (crc (bs.take (k + 1)) = step8 (crc (bs.take k)) bs[k]) := by
        rw [List.take_succ_eq_append_getElem hkl, crc, List.foldl_append]; rfl
      generalize crc (bs.take k) = s at hst hlt0
      generalize bs[k] = c at g hst
      go_wp2
      go_loop [3, 5] (fun x j => ∃ q : Nat, q ≤ 8 ∧ j = .int .i64 q ∧ x = .int .u32 (bitS s c q : Nat)) (fun _ j => 8 - (intOf j).toNat)
      case atStart => exact ⟨0, Nat.zero_le _, rfl, by rw [bitS_zero]⟩
      case round =>
        obtain ⟨q, hq, rfl, rfl⟩ := hrel
        have hl := bitS_lt s c hlt0 q
        have HS := Lib.hid (bitS_succ s c q)
        by_cases hq8 : q < 8
        · generalize bitS s c q = x at hl HS
          obtain ⟨y, z, t, l, e1, e2, hz, e3, ht, e4, HL⟩ := bit_facts x c q hl
          obtain ⟨p, e5, HP⟩ := poly_facts x hl
          have e6 : (z : Int) % 4294967296 = z := by omega
          by_cases h1 : l = 1
          · subst h1
            go_wp2
            go_round
            case rel => exact ⟨q + 1, by omega, by go_num, by rw [HS.out, if_pos HL.out.symm, ← HP.out]⟩
            case measure => simp [intOf]; omega
          · have e7 : ((l : Int) == 1) = false := by simp; omega
            go_wp2
            go_round
            case rel => exact ⟨q + 1, by omega, by go_num, by rw [HS.out, if_neg (fun e => h1 (HL.out.trans e)), Nat.xor_zero]; go_num⟩
            case measure => simp [intOf]; omega
        · obtain rfl : q = 8 := by omega
          have H8 := Lib.hid (bitS_eight s c)
          generalize bitS s c 8 = x at hl HS H8
          go_wp2
          go_round
          case rel => exact ⟨k + 1, by omega, by go_num, by rw [hst.out, ← H8.out]⟩
          case measure => simp [intOf]; omega
    · have hk' : k = n := by omega
      have e2 : Hid (crc (bs.take k) = crc bs) := by rw [List.take_of_length_le (by have := HN.out; omega)]; rfl
      generalize crc (bs.take k) = s at e2 hlt0
      go_wp2
      go_ret
      refine ⟨?_, rfl⟩
      rw [sumOf, ← e2.out]
      go_num
end Go.Proofs.YtaeonlafcbgpcaaDoor
/- The references: a record's sector. -/
namespace Go.Proofs.YtaeonlafcbgpcaaDoor
open Go.RowKit
set_option linter.unusedVariables false

def endB (s p : Nat) : List UInt8 := le s 4 ++ le p 4
def preB (s p : Nat) (b : List UInt8) : List UInt8 := endB s p ++ [UInt8.ofNat b.length]
def bodyB (s p : Nat) (b : List UInt8) (k : Nat) : List UInt8 := preB s p b ++ b ++ List.replicate k 0
def sumB (s p : Nat) (b : List UInt8) : List UInt8 := stampHead s p b ++ le (sumOf (stampHead s p b)) 4
theorem endB_length (s p : Nat) : (endB s p).length = 8 := by rw [endB, List.length_append, le_length, le_length]

set_option maxRecDepth 100000 in
theorem stamp05_long (w : World) (s p : Int) (a : Option Addr) (len cap : Nat) (hl : 43 < len) :
    Calls Tryd.prog 14 #[.int .u32 s, .int .u32 p, .slice a len cap] w fun e w' => e = .returned (.tuple #[.slice none 0 0, .int .i64 2]) ∧ w = w' := by
  have hl' : (43 : Int) < len := by omega
  go_enter Tryd.func14, Tryd.ntmps14
  go_wp2
  go_ret2
  exact ⟨rfl, rfl⟩

theorem BytesAt.lit1 (w : World) (z : Int) (m : UInt8) (hz : z = m.toNat) : BytesAt (New w.heap.size) (w.alloc (.cells #[.int .u8 z] 5 (0, 0))) (.slice (some ⟨w.heap.size, 0, none⟩) 1 1) [m] := by
  subst hz; exact BytesAt.lit' w m

set_option maxRecDepth 100000 in
set_option maxHeartbeats 2000000 in
theorem stamp05_ok {K : Nat → Obj → Prop} (w : World) (s p : Nat) (a : Option Addr) (len cap : Nat) (b : List UInt8) (hb : BytesAt K w (.slice a len cap) b) (hs : s < 4294967296) (hp : p < 4294967296) (hl : len ≤ 43) :
    Calls Tryd.prog 14 #[.int .u32 s, .int .u32 p, .slice a len cap] w fun e w' => (∃ a' cap', e = .returned (.tuple #[.slice a' 64 cap', .int .i64 0]) ∧ BytesAt (New w.heap.size) w' (.slice a' 64 cap') (stampB s p b)) ∧ Fr (fun _ _ => True) w w' := by
  have hl' : (len : Int) ≤ 43 := by omega
  have HL := Lib.hid hb.len
  have HB := Lib.hid hb
  clear hb
  have HM : Hid ((len : Int) = (UInt8.ofNat b.length).toNat) := by
    show _ = _
    rw [UInt8.toNat_ofNat', ← HL.out]; omega
  have N1 : Hid (4 + (le p 4).length = 8) := by show _ = _; rw [le_length]
  have R1 : Hid (le s 4 ++ le p 4 = endB s p) := rfl
  have R2 : Hid ([] ++ endB s p = endB s p) := rfl
  have R3 : Hid (endB s p ++ [UInt8.ofNat b.length] = preB s p b) := rfl
  have R4 : Hid (preB s p b ++ b = bodyB s p b 0) := by show _ = _; unfold bodyB; simp
  have N2 : Hid (0 + (endB s p).length = 8) := by show _ = _; rw [endB_length]
  have N3 : Hid (8 + [UInt8.ofNat b.length].length = 9) := rfl
  have N4 : Hid (9 + b.length = 9 + len) := by show _ = _; rw [HL.out]
  go_enter Tryd.func14, Tryd.ntmps14
  go_wp2_with fail
  (with_reducible refine (num01_calls _ s 4 _ _ ?_ ?_ (by decide) ?_).mono ?_)
  · omega
  · rfl
  · omega
  rintro e w1 ⟨⟨a1, c1, rfl, o1⟩, f1⟩
  have O1 := Lib.hid o1
  have F1 := Lib.hid f1
  clear o1 f1
  go_wp2_with fail
  (with_reducible refine (num01_calls _ p 4 _ _ ?_ ?_ (by decide) ?_).mono ?_)
  · omega
  · rfl
  · omega
  rintro e w2 ⟨⟨a2, c2, rfl, o2⟩, f2⟩
  have O1' := Lib.hid (O1.out.tt f2)
  have B2 := Lib.hid (BytesAt.of_own o2 (le_length p 4))
  have F2 := Lib.hid (F1.out.tt f2)
  clear o2 f2 O1
  go_wp2_with (at_builtin; refine wpList_append_fr w _ F2 rfl _ _ rfl _ 4 (le s 4) rfl O1' _ (le p 4) rfl B2 8 _ R1 N1 (by decide) ?_)
  intro aE cE wE OE FE
  have BE := Lib.hid (BytesAt.of_own OE.out (endB_length s p))
  clear O1' B2 OE
  have LE : Hid (RowB (wE.alloc (.cells #[] 5)) wE.heap.size (.slice (some ⟨wE.heap.size, 0, none⟩) 0 0) 0 []) := World.ownsRow_lit wE #[] 0 (Nat.le_refl _) (by simp) rfl
  have FA : Hid (Fr (fun _ _ => True) wE (wE.alloc (.cells #[] 5))) := (Fr.refl _ _).alloc _
  have BA := Lib.hid (BE.out.tt FA.out)
  go_wp2_with (at_builtin; refine wpList_append_fr wE _ FA rfl _ _ rfl _ 0 [] rfl LE _ (endB s p) rfl BA 8 _ R2 N2 (by decide) ?_)
  intro a4 c4 w4 O4 F4
  clear LE FA BA
  have O4' := Lib.hid (O4.out.tt ((Fr.refl _ _).alloc (.cells #[.int .u8 (len : Int)] 5 (0, 0))))
  have F4' := Lib.hid (F4.out.alloc (.cells #[.int .u8 (len : Int)] 5 (0, 0)))
  have B4' := Lib.hid (BytesAt.lit1 w4 len (UInt8.ofNat b.length) HM.out)
  go_wp2_with (at_builtin; refine wpList_append_fr wE _ F4' rfl _ _ rfl _ 8 _ rfl O4' _ [UInt8.ofNat b.length] rfl B4' 9 _ R3 N3 (by decide) ?_)
  intro a5 c5 w5 O5 F5
  clear O4 F4 O4' F4' B4'
  have B5 := Lib.hid (HB.out.tt (FE.out.tt F5.out))
  go_wp2_with (at_builtin; refine wpList_append_fr wE _ F5 rfl _ _ rfl _ 9 _ rfl O5 _ b rfl B5 (9 + len) _ R4 N4 (by omega) ?_)
  intro a6 c6 w6 O6 F6
  clear O5 F5 B5
  go_wp2
  go_loopw [9] (fun v wr => ∃ (k n : Nat) (ar : Option Addr) (cr : Nat), n = 9 + len + k ∧ n ≤ 52 ∧ v = .slice ar n cr ∧ Hid (RowB wr wE.heap.size (.slice ar n cr) n (bodyB s p b k)) ∧ Hid (Fr (fun _ _ => True) wE wr)) (fun v _ => match v with | .slice _ n _ => 52 - n | _ => 0)
  case atStart => exact ⟨0, 9 + len, a6, c6, rfl, by omega, rfl, O6, F6⟩
  case round =>
    obtain ⟨k, n, ar, cr, hk, hn, rfl, OR, FR⟩ := hrel
    by_cases hlt : n < 52
    · have hlt' : (n : Int) < 52 := by omega
      have OR' := Lib.hid (OR.out.tt ((Fr.refl _ _).alloc (.cells #[.int .u8 0] 5 (0, 0))))
      have FR' := Lib.hid (FR.out.alloc (.cells #[.int .u8 0] 5 (0, 0)))
      have BR' := Lib.hid (BytesAt.lit1 wr 0 0 rfl)
      have RR : Hid (bodyB s p b k ++ [0] = bodyB s p b (k + 1)) := by show _ = _; unfold bodyB; rw [List.append_assoc, ← List.replicate_succ']
      have NN : Hid (n + ([0] : List UInt8).length = n + 1) := rfl
      have HK := Lib.hid hk
      clear hk
      go_wp2_with (at_builtin; refine wpList_append_fr wE _ FR' rfl _ _ rfl _ n _ rfl OR' _ [0] rfl BR' (n + 1) _ RR NN (by omega) ?_)
      intro a7 c7 w7 O7 F7
      go_wp2
      go_roundw
      case rel => exact ⟨k + 1, n + 1, a7, c7, by have := HK.out; omega, by omega, rfl, O7, F7⟩
      case measure => simp; omega
    · obtain rfl : n = 52 := by omega
      have hk43 : k = 43 - b.length := by have := HL.out; omega
      have O8 : Hid (RowB wr wE.heap.size (.slice ar 52 cr) 52 (stampHead s p b)) := by
        have e : bodyB s p b k = stampHead s p b := by rw [hk43]; simp [bodyB, preB, endB, stampHead]
        rw [← e]; exact OR
      have LH := Lib.hid (stampHead_length s p b (by have := HL.out; omega))
      have B8 := Lib.hid (BytesAt.of_own O8.out LH.out)
      have hsl := sumOf_lt (stampHead s p b)
      have N9 : Hid (52 + (le (sumOf (stampHead s p b)) 4).length = 56) := by show _ = _; rw [le_length]
      have R9 : Hid (stampHead s p b ++ le (sumOf (stampHead s p b)) 4 = sumB s p b) := rfl
      have R10 : Hid (sumB s p b ++ endB s p = stampB s p b) := by show _ = _; rw [sumB, List.append_assoc]; rfl
      have N10 : Hid (56 + (endB s p).length = 64) := by show _ = _; rw [endB_length]
      have L64 := Lib.hid (stampB_length s p b (by have := HL.out; omega))
      clear hk hk43 OR
      go_wp2_with fail
      (with_reducible refine (sum02_calls _ _ _ B8.out (by rw [LH.out]; decide)).mono ?_)
      rintro e w9 ⟨rfl, rfl⟩
      generalize sumOf (stampHead s p b) = q at hsl N9 R9
      go_wp2_with fail
      (with_reducible refine (num01_calls _ q 4 _ _ ?_ ?_ (by decide) ?_).mono ?_)
      · omega
      · rfl
      · omega
      rintro e w10 ⟨⟨a10, c10, rfl, o10⟩, f10⟩
      have O10 := Lib.hid (O8.out.tt f10)
      have B10 := Lib.hid (BytesAt.of_own o10 (le_length q 4))
      have F10 := Lib.hid (FR.out.tt f10)
      clear o10 f10 O8 B8
      go_wp2_with (at_builtin; refine wpList_append_fr wE _ F10 rfl _ _ rfl _ 52 _ rfl O10 _ (le q 4) rfl B10 56 _ R9 N9 (by decide) ?_)
      intro a11 c11 w11 O11 F11
      have BE' := Lib.hid (BE.out.tt F11.out)
      clear O10 F10 B10
      go_wp2_with (at_builtin; refine wpList_append_fr wE _ F11 rfl _ _ rfl _ 56 _ rfl O11 _ (endB s p) rfl BE' 64 _ R10 N10 (by decide) ?_)
      intro a12 c12 w12 O12 F12
      have B12 := Lib.hid (BytesAt.of_own O12.out L64.out)
      clear O11 F11 O12 BE'
      go_wp2
      go_ret2
      exact ⟨⟨a12, c12, rfl, B12.out.mono fun c o _ h => ⟨Nat.le_trans FE.out.size h.1, h.2⟩⟩, FE.out.tt F12.out⟩

/-- ref05.Stamp. -/
theorem stamp05_calls {K : Nat → Obj → Prop} (w : World) (s p : Nat) (z y : Int) (hz : z = s) (hy : y = p) (v : Value) (b : List UInt8) (hb : BytesAt K w v b) (hs : s < 4294967296) (hp : p < 4294967296) :
    Calls Tryd.prog 14 #[.int .u32 z, .int .u32 y, v] w fun e w' =>
      ((43 < b.length ∧ e = .returned (.tuple #[.slice none 0 0, .int .i64 2])) ∨ (b.length ≤ 43 ∧ ∃ a' cap', e = .returned (.tuple #[.slice a' 64 cap', .int .i64 0]) ∧ BytesAt (New w.heap.size) w' (.slice a' 64 cap') (stampB s p b))) ∧ Fr (fun _ _ => True) w w' := by
  subst hz; subst hy
  obtain ⟨a, cap, rfl⟩ := hb.form
  by_cases hl : 43 < b.length
  · exact (stamp05_long w s p a b.length cap hl).mono fun e w' ⟨he, hw⟩ => ⟨.inl ⟨hl, he⟩, hw ▸ Fr.refl _ _⟩
  · exact (stamp05_ok w s p a b.length cap b hb hs hp (by omega)).mono fun e w' ⟨he, hf⟩ => ⟨.inr ⟨by omega, he⟩, hf⟩
end Go.Proofs.YtaeonlafcbgpcaaDoor
