/- Texts of the proofs, part 5: what the functions that they reach do, walked; no conditions beyond those that each states. -/
import Derived.Deep.RegionHeld3
import Derived.Shelf.Abstract
import Derived.Shelf.RegionOpen
import Derived.WalkKit
import Derived.OwnWalkIn
import Derived.TacticsInMore
import Derived.LoopNIn
import Derived.LoopIn
import Derived.Test.YtaeonlafcbgpcaaDoorZza5fef788fc
set_option linter.unusedVariables false
set_option linter.unusedSimpArgs false
/- Package disk: Crash. -/
namespace Go.Proofs.YtaeonlafcbgpcaaDoor
open Go.RowKit

/-- A slice of ints that reads as zs, in a block that K names. -/
def IntsAt (K : Nat → Obj → Prop) (w : World) (v : Value) (zs : List Int) : Prop :=
  ∃ a cap, v = .slice a zs.length cap ∧ (zs = [] ∨ ∃ b off o, a = some ⟨b, off, none⟩ ∧ w.heap[b]? = some o ∧ K b o ∧ ∀ i, (h : i < zs.length) → w.cell? ⟨b, off + i, none⟩ = some (.int .i64 zs[i]))
theorem IntsAt.fr {K K' : Nat → Obj → Prop} {w w' : World} {v : Value} {zs : List Int} (h : IntsAt K w v zs) (hf : Fr K' w w') (hk : ∀ c o, K c o → K' c o) : IntsAt K w' v zs := by
  obtain ⟨a, cap, hv, h⟩ := h
  refine ⟨a, cap, hv, ?_⟩
  rcases h with h | ⟨b, off, o, ha, hb, hkb, hc⟩
  · exact .inl h
  · refine .inr ⟨b, off, o, ha, hf.keep _ _ hb (hk _ _ hkb), hkb, fun i hi => hf.cell (fun o' e => ?_) (hc i hi)⟩
    have e' : w.heap[b]? = some o' := e
    rw [hb] at e'
    cases e'
    exact hk _ _ hkb

def pickAt (zs : List Int) (k : Nat) : Nat := match zs[k]? with | some z => (max 0 (min z 64)).toNat | none => 0
theorem pickAt_le (zs : List Int) (k : Nat) : pickAt zs k ≤ 64 := by
  unfold pickAt; split <;> omega
def tear (p : Nat) (x old : List UInt8) : List UInt8 := x.take p ++ old.drop p
theorem tear_64 (p : Nat) (x old : List UInt8) (hx : x.length = 64) (ho : old.length = 64) : (tear p x old).length = 64 := by simp [tear]; omega
def tornAt (zs : List Int) (s : List (List UInt8)) (x : (Nat × List UInt8) × Nat) : List (List UInt8) := s.set x.1.1 (tear (pickAt zs x.2) x.1.2 (s.getD x.1.1 []))
def layTorn (zs : List Int) (s : List (List UInt8)) (l : List (Nat × List UInt8)) : List (List UInt8) := l.zipIdx.foldl (tornAt zs) s
theorem layTorn_snoc (zs : List Int) (s : List (List UInt8)) (l : List (Nat × List UInt8)) (x : Nat × List UInt8) : layTorn zs s (l ++ [x]) = tornAt zs (layTorn zs s l) (x, l.length) := by simp [layTorn, List.zipIdx_append]
theorem foldTorn_length (zs : List Int) (l : List ((Nat × List UInt8) × Nat)) : ∀ s, (l.foldl (tornAt zs) s).length = s.length := by
  induction l with
  | nil => intro s; rfl
  | cons x l ih => intro s; rw [List.foldl_cons, ih, tornAt, List.length_set]
theorem layTorn_length (zs : List Int) (s : List (List UInt8)) (l : List (Nat × List UInt8)) : (layTorn zs s l).length = s.length := foldTorn_length zs _ s
def Dk.crash (D : Dk) (zs : List Int) : Dk := ⟨layTorn zs D.sure D.pend, layTorn zs D.sure D.pend, [], -1, false⟩

theorem setCells_size (vs : List Value) : ∀ (w : World) (g o : Nat), (w.setCells g o vs).heap.size = w.heap.size := by
  induction vs with
  | nil => intro w g o; rfl
  | cons v vs ih => intro w g o; exact (ih _ _ _).trans (by simp [World.setCell])
theorem DskAt.sureBy {w w' : World} {bd gu cu n : Nat} {vs vp : Value} {D : Dk} (h : DskAt w bd vs (.slice (some ⟨gu, 0, none⟩) n cu) vp D) (hn : D.sure.length = n) (k : Nat) (hk : k < n) (x : List UInt8) (hx : x.length = 64)
    (hf : Fr (fun c _ => c ≠ gu) w w') {cur : Array Value} (hc : w.heap[gu]? = some (.cells cur 93 (0, 0))) (hc' : w'.heap[gu]? = some (.cells (setsA cur (k * 64) (x.map byteV)) 93 (0, 0))) :
    DskAt w' bd vs (.slice (some ⟨gu, 0, none⟩) n cu) vp { D with sure := D.sure.set k x } := by
  have h2 := h.setSure' hn k hk x hx
  have hs := heap_setCells_same (x.map byteV) (o := k * 64) hc
  have f0 : Fr (fun c _ => c ≠ gu) (w.setCells gu (k * 64) (x.map byteV)) w := by
    have hq : Fr (fun c _ => c ≠ gu) w (w.setCells gu (k * 64) (x.map byteV)) := (Fr.refl _ _).setCells (fun _ _ h => h rfl) _ _
    refine ⟨hq.os.symm, hq.tape.symm, hq.output.symm, ?_, fun b o hb hne => ?_⟩
    · rw [setCells_size]; exact Nat.le_refl _
    · rw [heap_setCells_ne _ hne] at hb; exact hb
  have f1 := f0.trans hf
  refine h2.tt ⟨f1.os, f1.tape, f1.output, f1.size, fun b o hb _ => ?_⟩
  by_cases hg : b = gu
  · subst hg; rw [hs] at hb; rw [hc', hb]
  · exact f1.keep b o hb hg
theorem Fr.setRow {K : Nat → Obj → Prop} {a w : World} (h : Fr K a w) {g : Nat} (hp : ∀ o, a.heap[g]? = some o → ¬ K g o) (cs : Array Value) : Fr K a (w.setRow g cs) := by
  refine ⟨h.os, h.tape, h.output, by rw [show (w.setRow g cs).heap.size = w.heap.size from by simp [World.setRow]]; exact h.size, fun b o hb hk => ?_⟩
  by_cases hg : b = g
  · subst hg; exact absurd hk (hp o hb)
  · rw [setRow_other w g b cs hg]; exact h.keep b o hb hk
/-- A part of a sector, laid: the whole sector is laid. -/
theorem torn_cells (cur : Array Value) (o p : Nat) (x old : List UInt8) (hx : x.length = 64) (ho : old.length = 64) (hp : p ≤ 64) (hs : o + 64 ≤ cur.size) (hold : ∀ i, (h : i < old.length) → cur[o + i]? = some (byteV old[i])) :
    (cur.toList.take o ++ ((x.take p).map byteV ++ cur.toList.drop (o + ((x.take p).map byteV).length))).toArray = setsA cur o ((tear p x old).map byteV) := by
  have hl : ((x.take p).map byteV).length = p := by simp; omega
  have ht : ((tear p x old).map byteV).length = 64 := by rw [List.length_map]; exact tear_64 p x old hx ho
  apply Array.ext_getElem?
  intro j
  rw [setsA_get _ _ _ _ (by omega), ht]
  have := splice_get cur.toList ((x.take p).map byteV) o j (by rw [hl]; simp; omega)
  rw [List.getElem?_toArray, this, hl]
  by_cases h1 : o ≤ j ∧ j < o + p
  · rw [if_pos h1, if_pos (by omega)]
    simp only [tear, List.map_append]
    rw [List.getElem?_append_left (by rw [hl]; omega)]
  · rw [if_neg h1]
    by_cases h2 : o ≤ j ∧ j < o + 64
    · rw [if_pos h2]
      simp only [tear, List.map_append]
      rw [List.getElem?_append_right (by rw [hl]; omega), hl, List.map_drop, List.getElem?_drop, List.getElem?_map, show p + (j - o - p) = j - o from by omega, List.getElem?_eq_getElem (l := old) (by omega)]
      have := hold (j - o) (by omega)
      rw [show o + (j - o) = j from by omega] at this
      simpa using this
    · rw [if_neg h2]; simp

theorem wr_k {D : Dk} (h : D.ok) (j : Nat) (hj : j < D.pend.length) : D.pend[j].1 < D.sure.length ∧ D.pend[j].2.length = 64 := h.p64 _ (List.getElem_mem hj)

theorem run_slice_arr (w : World) (b o p : Nat) (hp : p ≤ 64) : (Instr.sliceAt 93 (.pointer (some ⟨b, o, none⟩)) none (some (.int .i64 p)) none).run Tryd.prog w = .ok (.slice (some ⟨b, o, none⟩) p 64) w := by
  have h0 : (0 : Int) ≤ p ∧ (p : Int) ≤ 64 := by omega
  have e1 := congrFun size_u8 w
  simp [Instr.sliceAt, Sem.run_bind, run_underlying Tryd.underlying93, Result.andThen, Instr.sliceBounds, Instr.sliceBound, asIntOf, Sem.run_pure, h0, Addr.add, Instr.sureAddr, hp, e1]
/-- 'copy(d.sure[w.i][:], w.b[:p])'. -/
theorem wpList_copy_torn {ops : Array Oper} {rest : List Oper} {o : Oper} {a : Act} {Q : Exit → Act → World → Prop} {w3 : World} {bd gu cu n m k k0 q : Nat} {vs vp : Value} {D : Dk} {x : List UInt8} (hgd : o.guard = none) (d s : Operand)
    (ho : o.op = .call { callee := .builtin .copy, args := #[d, s], argTypes := #[23, 23] }) (hd : a.eval d = .slice (some ⟨gu, k * 64, none⟩) 64 64) (hs : a.eval s = .slice (some ⟨m, 1, none⟩) q 64) (hq : q ≤ 64)
    (h3 : DskAt w3 bd vs (.slice (some ⟨gu, 0, none⟩) n cu) vp D) (hn : D.sure.length = n) (hk : k < n) (t3 : w3.heap[m]? = some (.cells (wA k0 x) 95 (0, 0))) (hx : x.length = 64)
    (h : ∀ w4, DskAt w4 bd vs (.slice (some ⟨gu, 0, none⟩) n cu) vp { D with sure := D.sure.set k (tear q x (D.sure.getD k [])) } → Fr (fun c _ => c ≠ gu) w3 w4 → wpList Tryd.prog ops Q rest (a.put o.dst (goInt q)) w4) : wpList Tryd.prog ops Q (o :: rest) a w3 := by
  subst hn
  obtain ⟨cur, hg⟩ := own_tag h3.sure (c := gu) rfl
  have hrg := sec_range h3.sure h3.wf.u64 k hk
  have h64 : D.sure[k].length = 64 := h3.wf.u64 _ (List.getElem_mem hk)
  have hsz : k * 64 + 64 ≤ cur.size := by
    have h1 := hrg 63 (byteV (D.sure[k][63]'(by omega))) (by rw [List.getElem?_map, List.getElem?_eq_getElem (by omega)]; rfl)
    have h2 : w3.cell? ⟨gu, k * 64 + 63, none⟩ = cur[k * 64 + 63]? := by simp [World.cell?, hg]
    rw [h2] at h1
    rcases Nat.lt_or_ge (k * 64 + 63) cur.size with h3 | h3
    · omega
    · rw [Array.getElem?_eq_none h3] at h1; cases h1
  have hlc : ((x.take q).map byteV).length = q := by simp; omega
  refine wpList_copy_own hgd d s _ _ ho 5 Tryd.underlying23 size_byte gu (k * 64) 64 64 ⟨m, 1, none⟩ q 64 hd hs cur 93 hg ((x.take q).map byteV) (by rw [hlc]; exact (Nat.min_eq_left hq).symm) (fun j v hv => ?_) (by rw [hlc]; omega) (fun v hv => ?_) ?_
  · have hr := range_wA1 t3 j v (by
      rw [List.map_take, List.getElem?_take] at hv
      split at hv
      · exact hv
      · cases hv)
    unfold Addr.add
    split
    · subst j; exact hr
    · exact hr
  · obtain ⟨y, _, rfl⟩ := List.mem_map.1 hv; rfl
  · have e := torn_cells cur (k * 64) q x D.sure[k] hx h64 hq hsz (fun i hi => by
      have h1 := hrg i (byteV D.sure[k][i]) (by rw [List.getElem?_map, List.getElem?_eq_getElem hi]; rfl)
      have h2 : w3.cell? ⟨gu, k * 64 + i, none⟩ = cur[k * 64 + i]? := by simp [World.cell?, hg]
      rw [← h2]; exact h1)
    rw [e, hlc]
    have hf : Fr (fun c _ => c ≠ gu) w3 (w3.setRow gu (setsA cur (k * 64) ((tear q x D.sure[k]).map byteV))) := (Fr.refl _ _).setRow (fun _ _ h => h rfl) _
    have eg : D.sure.getD k [] = D.sure[k] := by simp [List.getD, hk]
    refine h _ ?_ hf
    rw [eg]
    exact h3.sureBy rfl k hk _ (tear_64 q x _ hx h64) hf hg (setRow_heap w3 gu _ _ _ _ hg)

attribute [local go_sem ↓] shutWr shutSec

set_option maxRecDepth 100000 in
set_option maxHeartbeats 1000000 in
theorem crash_main {K : Nat → Obj → Prop} (w : World) (bd : Nat) (F : Nat → Prop) (D : Dk) (pa : Option Addr) (pn pc : Nat) (zs : List Int) (h : Dsk w bd F D) (hp : IntsAt K w (.slice pa pn pc) zs) (hK : ∀ c o, K c o → ¬ F c) :
    Calls Tryd.prog 22 #[.pointer (some ⟨bd, 0, none⟩), .slice pa pn pc] w fun e w' => e = .returned (.tuple #[]) ∧ Dsk w' bd (fun c => F c ∨ w.heap.size ≤ c) (D.crash zs) ∧ Fr (fun c _ => ¬ F c) w w' := by
  have hFb : F bd := by obtain ⟨_, _, _, _, h1, _⟩ := h; exact h1
  have hpn : zs.length = pn := by obtain ⟨_, _, e, _⟩ := hp; cases e; rfl
  obtain ⟨vs, vu, vp, d1, hF⟩ := h
  obtain ⟨gu, cu, rfl, hcu, hgl⟩ := row_form d1.sure (by have := d1.wf.one; omega)
  obtain ⟨ap, cp, rfl⟩ := own_form d1.pend
  have D1 := Lib.hid d1
  have HP := Lib.hid hp
  have HPN := Lib.hid hpn
  have hsl : D.sure.length ≤ 512 := d1.wf.max
  have hpl : D.pend.length ≤ 1000000 := d1.wf.few
  have HC := Lib.hid (show D.sure.length ≤ cu from hcu)
  have c2 : w.cell? ⟨bd, 2, none⟩ = some (.slice ap D.pend.length cp) := cell_mk d1.top rfl
  clear d1 hcu hp hpn
  go_enter Tryd.func22, Tryd.ntmps22
  go_wp2
  go_loopw [12] (fun i wr => ∃ j : Nat, j ≤ D.pend.length ∧ i = .int .i64 j ∧ DskAt wr bd vs (.slice (some ⟨gu, 0, none⟩) D.sure.length cu) (.slice ap D.pend.length cp) { D with sure := layTorn zs D.sure (D.pend.take j) } ∧ Fr (fun c _ => ¬ F c) w wr) (fun i _ => D.pend.length - (intOf i).toNat)
  case atStart => exact ⟨0, Nat.zero_le _, rfl, D1.out, Fr.refl _ _⟩
  case round =>
    obtain ⟨j, hj, rfl, hdj, hfj⟩ := hrel
    have DJ := Lib.hid hdj
    have FJ := Lib.hid hfj
    clear hdj hfj c2
    by_cases hlt : j < D.pend.length
    · obtain ⟨gp, cp', he, hcp, _⟩ := wr_form DJ.out.pend (by show 0 < D.pend.length; omega)
      cases he
      have hr := wr_range DJ.out.pend (fun x hx => (DJ.out.wf.p64 x hx).2) j hlt
      obtain ⟨hxk, hx64⟩ := wr_k D1.out.wf j hlt
      have hnx : Hid (layTorn zs D.sure (D.pend.take (j + 1)) = (layTorn zs D.sure (D.pend.take j)).set D.pend[j].1 (tear (pickAt zs j) D.pend[j].2 ((layTorn zs D.sure (D.pend.take j)).getD D.pend[j].1 []))) := by
        rw [List.take_succ_eq_append_getElem hlt, layTorn_snoc, List.length_take, Nat.min_eq_left hj]; rfl
      have hld : (shutLd 95 (.pointer (some ⟨gp, j * 65, none⟩))).run Tryd.prog wr = .ok (.agg (wA D.pend[j].1 D.pend[j].2)) wr := ldWr_at (k := D.pend[j].1) (bs := D.pend[j].2) hr hx64
      generalize hxx : D.pend[j].1 = k at hld hnx hxk
      generalize hyy : D.pend[j].2 = x at hld hnx hx64
      have hst := fun W => store_copy W k x hx64
      have HX := Lib.hid hx64
      clear hxx hyy hr hx64
      have h65 : (wA k x).size = 65 := by rw [wA_size, HX.out]
      have hcase : (∃ pb po z, pa = some ⟨pb, po, none⟩ ∧ wr.cell? ⟨pb, po + j, none⟩ = some (.int .i64 z) ∧ j < pn ∧ (pickAt zs j = (max 0 (min z 64)).toNat)) ∨ (¬ j < pn ∧ Hid (pickAt zs j = 0)) := by
        have hpn := HPN.out
        by_cases hpk : j < pn
        · refine .inl ?_
          obtain ⟨_, _, e, hq⟩ := HP.out.fr FJ.out hK
          cases e
          rcases hq with rfl | ⟨pb, po, o, rfl, _, _, hc⟩
          · simp at hpk
          · refine ⟨pb, po, zs[j], rfl, hc j hpk, hpk, ?_⟩
            unfold pickAt; rw [List.getElem?_eq_getElem hpk]
        · refine .inr ⟨hpk, ?_⟩
          show pickAt zs j = 0
          unfold pickAt
          rw [List.getElem?_eq_none (by omega)]
      have hcase2 : (∃ pb po z, pa = some ⟨pb, po, none⟩ ∧ (wr.alloc (.cells (wA k x) 95 (0, 0))).cell? ⟨pb, po + j, none⟩ = some (.int .i64 z) ∧ j < pn ∧ z ≤ 0 ∧ Hid (pickAt zs j = 0)) ∨ (∃ pb po, ∃ q : Nat, pa = some ⟨pb, po, none⟩ ∧ (wr.alloc (.cells (wA k x) 95 (0, 0))).cell? ⟨pb, po + j, none⟩ = some (.int .i64 q) ∧ j < pn ∧ (0 < (q : Int) ∧ (q : Int) ≤ 64) ∧ Hid (pickAt zs j = q)) ∨ (∃ pb po z, pa = some ⟨pb, po, none⟩ ∧ (wr.alloc (.cells (wA k x) 95 (0, 0))).cell? ⟨pb, po + j, none⟩ = some (.int .i64 z) ∧ j < pn ∧ 64 < z ∧ Hid (pickAt zs j = 64)) ∨ (¬ j < pn ∧ Hid (pickAt zs j = 0)) := by
        rcases hcase with ⟨pb, po, z, rfl, hcz, hpk, hz⟩ | h
        · have hcz' : (wr.alloc (.cells (wA k x) 95 (0, 0))).cell? ⟨pb, po + j, none⟩ = some (.int .i64 z) := ((Fr.refl (fun _ _ => True) _).alloc _).cell (fun _ _ => trivial) hcz
          by_cases h1 : z ≤ 0
          · exact .inl ⟨pb, po, z, rfl, hcz', hpk, h1, (show pickAt zs j = 0 by omega)⟩
          · by_cases h2 : z ≤ 64
            · obtain ⟨q, rfl⟩ : ∃ q : Nat, z = q := ⟨z.toNat, by omega⟩
              exact .inr (.inl ⟨pb, po, q, rfl, hcz', hpk, by omega, (show pickAt zs j = q by omega)⟩)
            · exact .inr (.inr (.inl ⟨pb, po, z, rfl, hcz', hpk, by omega, (show pickAt zs j = 64 by omega)⟩))
        · exact .inr (.inr (.inr h))
      clear hcase
      have d3 := DJ.out.tt ((Fr.refl _ _).alloc (.cells (wA k x) 95 (0, 0))).drew
      have t3 : (wr.alloc (.cells (wA k x) 95 (0, 0))).drew.heap[wr.heap.size]? = some (.cells (wA k x) 95 (0, 0)) := heap_alloc_new wr _
      have F3 := Lib.hid (FJ.out.alloc (.cells (wA k x) 95 (0, 0))).drew
      have D3 := Lib.hid d3
      have T3 := Lib.hid t3
      have hlen : Hid ((layTorn zs D.sure (D.pend.take j)).length = D.sure.length) := layTorn_length _ _ _
      clear d3 t3
      rcases hcase2 with ⟨pb, po, z, rfl, hcz, hpk, hz, HZ⟩ | ⟨pb, po, q, rfl, hcz, hpk, ⟨hz0, hz⟩, HZ⟩ | ⟨pb, po, z, rfl, hcz, hpk, hz, HZ⟩ | ⟨hpk, HZ⟩
      all_goals
        go_wp2
        refine wp_region_still_tail 11 (by kernel_rfl) (by kernel_rfl) ?_
        simp only [List.take_succ_cons, List.take_zero, List.drop_succ_cons, List.drop_zero]
        change wpStill Tryd.prog _ (wr.alloc (.cells (wA k x) 95 (0, 0))).drew (fun a' => wpList Tryd.prog _ _ _ a' (wr.alloc (.cells (wA k x) 95 (0, 0))).drew) _ _
        generalize (wr.alloc (.cells (wA k x) 95 (0, 0))).drew = w3 at D3 T3 F3 ⊢
        have c1 : w3.cell? ⟨bd, 1, none⟩ = some (.slice (some ⟨gu, 0, none⟩) D.sure.length cu) := cell_mk D3.out.top rfl
        have c3 : w3.cell? ⟨wr.heap.size, 0, none⟩ = some (.int .i64 k) := cell_mk T3.out rfl
        clear hld hst h65 DJ FJ
        try clear hcz
        repeat still_step
        try (have hsl2 := fun W b o => run_slice_arr W b o q (by omega); still_step; clear hsl2)
        refine wpStill_nil ?_
        go_wp2_with (refine wpList_copy_torn rfl (.tmp 34) (.tmp 37) rfl rfl rfl (by omega) D3.out hlen.out hxk T3.out HX.out ?_)
        intro w4 d4 f4
        have hnx' := hnx.out
        rw [HZ.out] at hnx'
        have e4 := congrArg (fun s => ({ D with sure := s } : Dk)) hnx'
        have D4 : Hid (DskAt w4 bd vs (.slice (some ⟨gu, 0, none⟩) D.sure.length cu) (.slice (some ⟨gp, 0, none⟩) D.pend.length cp) { D with sure := layTorn zs D.sure (D.pend.take (j + 1)) }) := e4 ▸ d4
        have F4 : Hid (Fr (fun c _ => ¬ F c) w w4) := F3.out.trans (f4.mono fun c _ h e => h (e ▸ hF.2.2.1 gu rfl))
        clear d4 f4 hnx' e4 c1 c3
        go_wp2
        go_roundw
        case rel => exact ⟨j + 1, by omega, by go_num, D4.out, F4.out⟩
        case measure => simp [intOf]; omega
    · have e1 : D.pend.take j = D.pend := List.take_of_length_le (by omega)
      have dj := DJ.out
      rw [e1] at dj
      have hSl : (layTorn zs D.sure D.pend).length = D.sure.length := layTorn_length _ _ _
      have hcr : Hid (D.crash zs = ⟨layTorn zs D.sure D.pend, layTorn zs D.sure D.pend, [], -1, false⟩) := rfl
      generalize layTorn zs D.sure D.pend = S at dj hSl hcr
      have HSL := Lib.hid hSl
      clear hSl
      have f2 := frozen_mk (i := 2) dj.top
      have f3 := frozen_mk (i := 3) dj.top
      have f4 := frozen_mk (i := 4) dj.top
      have c2 : wr.cell? ⟨bd, 2, none⟩ = some (.slice ap D.pend.length cp) := cell_mk dj.top rfl
      have c3 : wr.cell? ⟨bd, 3, none⟩ = some (.int .i64 D.fuse) := cell_mk dj.top rfl
      have c4 : wr.cell? ⟨bd, 4, none⟩ = some (.bool D.down) := cell_mk dj.top rfl
      have t2 := heap_setCell_same (o := 2) dj.top (.slice none 0 0)
      have t3 := heap_setCell_same (o := 3) t2 (.int .i64 (-1))
      have t4 := heap_setCell_same (o := 4) t3 (.bool false)
      have hf6 : Fr (fun c _ => c ≠ bd) wr (((wr.setCell ⟨bd, 2, none⟩ (.slice none 0 0)).setCell ⟨bd, 3, none⟩ (.int .i64 (-1))).setCell ⟨bd, 4, none⟩ (.bool false)) := (((Fr.refl _ _).setCell (fun _ _ h => h rfl) _).setCell (fun _ _ h => h rfl) _).setCell (fun _ _ h => h rfl) _
      have T4 := Lib.hid t4
      have G4 := Lib.hid hf6
      have DD := Lib.hid dj
      clear dj e1 hf6 t2 t3 t4
      have c1 : wr.cell? ⟨bd, 1, none⟩ = some (.slice (some ⟨gu, 0, none⟩) D.sure.length cu) := cell_mk DD.out.top rfl
      have hgb : gu ≠ bd := fun e => by
        obtain ⟨cur, hc⟩ := own_tag DD.out.sure (c := gu) rfl
        rw [e, DD.out.top] at hc; cases hc
      have O6 := ownsRow_fr DD.out.sure G4.out (fun c _ e _ => by cases e; exact hgb)
      have O6' := O6
      rw [show ({ D with sure := S } : Dk).sure.length = S.length from rfl, HSL.out] at O6'
      have HCL := Lib.hid (clone_sec _ _ S (show World.ownsRow _ 0 _ 64 (.slice (some ⟨gu, 0, none⟩) D.sure.length cu) S.length (flatS S) from O6) (by have := HSL.out; omega))
      clear O6 O6'
      go_wp2_with fail
      (with_reducible refine HCL.out.mono ?_)
      rintro e w7 ⟨⟨v7, rfl, o7⟩, f7⟩
      obtain ⟨a7, c7, hv⟩ := own_form o7
      have HV := Lib.hid hv
      clear hv
      have T7 := f7.keep _ _ T4.out trivial
      have f70 := frozen_mk (i := 0) T7
      have k7 : w7.cell? ⟨bd, 0, none⟩ = some vs := cell_mk T7 rfl
      have G7 : Fr (fun c _ => c ≠ bd) wr w7 := G4.out.trans (f7.mono fun _ _ _ => trivial)
      have hv7 : v7.ownBlock ≠ some bd := fun q => by
        obtain ⟨cur, hc⟩ := own_tag o7 q
        rw [T7] at hc; cases hc
      have F8 : Hid (Fr (fun c _ => ¬ F c) w (w7.setCell ⟨bd, 0, none⟩ v7)) := (FJ.out.trans (G7.mono fun c _ h e => h (e ▸ hFb))).setCell (p := ⟨bd, 0, none⟩) (fun _ _ h => h hFb) v7
      have hB : w.heap.size ≤ (((wr.setCell ⟨bd, 2, none⟩ (.slice none 0 0)).setCell ⟨bd, 3, none⟩ (.int .i64 (-1))).setCell ⟨bd, 4, none⟩ (.bool false)).heap.size := Nat.le_trans FJ.out.size G4.out.size
      have D8 : Hid (Dsk (w7.setCell ⟨bd, 0, none⟩ v7) bd (fun c => F c ∨ w.heap.size ≤ c) (D.crash zs)) := by
        have wf := DD.out.wf
        have q0 := HSL.out
        have hlt7 : ∀ c, v7.ownBlock = some c → (((wr.setCell ⟨bd, 2, none⟩ (.slice none 0 0)).setCell ⟨bd, 3, none⟩ (.int .i64 (-1))).setCell ⟨bd, 4, none⟩ (.bool false)).heap.size ≤ c := fun c e => by
          rcases o7.2 with ⟨rfl, _⟩ | ⟨g, cap, cur, rfl, hb, _⟩
          · cases e
          · cases e; exact hb
        have hgu : gu < (((wr.setCell ⟨bd, 2, none⟩ (.slice none 0 0)).setCell ⟨bd, 3, none⟩ (.int .i64 (-1))).setCell ⟨bd, 4, none⟩ (.bool false)).heap.size := by
          obtain ⟨cur, hc⟩ := own_tag DD.out.sure (c := gu) rfl
          exact Nat.lt_of_lt_of_le (lt_of_some hc) G4.out.size
        show Dsk _ _ _ (D.crash zs)
        rw [hcr.out]
        refine ⟨v7, .slice (some ⟨gu, 0, none⟩) D.sure.length cu, .slice none 0 0, ⟨heap_setCell_same T7 v7, ?_, ?_, ⟨rfl, .inl ⟨rfl, rfl⟩⟩, ?_, ?_⟩, .inl hFb, fun c e => .inr (Nat.le_trans hB (hlt7 c e)), fun c e => .inl (hF.2.2.1 c e), (fun c e => by cases e)⟩
        · refine ownsRow_setCell_ne (p := ⟨bd, 0, none⟩) ?_ hv7 _
          obtain ⟨a7, b7⟩ := o7
          refine ⟨a7, ?_⟩
          rcases b7 with h | ⟨g, cap, cur, h1, h2, h3⟩
          · exact .inl h
          · exact .inr ⟨g, cap, cur, h1, Nat.zero_le _, h3⟩
        · refine ownsRow_setCell_ne (p := ⟨bd, 0, none⟩) ?_ (fun q => by cases q; exact hgb rfl) _
          exact ownsRow_fr DD.out.sure G7 (fun c _ e _ => by cases e; exact hgb)
        · intro c e e'
          cases e'
          exact Nat.not_lt.2 (hlt7 _ e) hgu
        · refine { wf with len := rfl, s64 := wf.u64, p64 := (fun x hx => by cases hx), few := Nat.zero_le _, lo := (by show (-9223372036854775808 : Int) ≤ -1; decide), hi := (by show (-1 : Int) ≤ 9223372036854775807; decide) }
      clear T7 G7 hv7 o7 f7 hB
      have hv := HV.out
      subst hv
      go_wp2
      go_end0
      exact ⟨rfl, D8.out, F8.out⟩
end Go.Proofs.YtaeonlafcbgpcaaDoor
/- Package disk: Copy. -/
namespace Go.Proofs.YtaeonlafcbgpcaaDoor
open Go.RowKit

theorem own_base {w : World} {B B' : Nat} {e : TypeId} {size : Nat} {v : Value} {n : Nat} {xs : List Value} (h : w.ownsRow B e size v n xs) (hb : B' ≤ B) : w.ownsRow B' e size v n xs := by
  obtain ⟨a, b⟩ := h
  refine ⟨a, ?_⟩
  rcases b with h | ⟨g, cap, cur, h1, h2, h3⟩
  · exact .inl h
  · exact .inr ⟨g, cap, cur, h1, Nat.le_trans hb h2, h3⟩
theorem own_le {w : World} {B : Nat} {e : TypeId} {size : Nat} {v : Value} {n : Nat} {xs : List Value} (h : w.ownsRow B e size v n xs) {c : Nat} (hc : v.ownBlock = some c) : B ≤ c := by
  rcases h.2 with ⟨rfl, _⟩ | ⟨g, cap, cur, rfl, hb, _⟩
  · cases hc
  · cases hc; exact hb

set_option maxRecDepth 100000 in
set_option maxHeartbeats 1000000 in
theorem copy_calls (w : World) (bd : Nat) (F : Nat → Prop) (D : Dk) (h : Dsk w bd F D) :
    Calls Tryd.prog 36 #[.pointer (some ⟨bd, 0, none⟩)] w fun e w' => (∃ b', e = .returned (.pointer (some ⟨b', 0, none⟩)) ∧ Dsk w' b' (fun c => w.heap.size ≤ c) D) ∧ Fr (fun _ _ => True) w w' := by
  obtain ⟨vs, vu, vp, d1, hF⟩ := h
  obtain ⟨as1, cs, rfl⟩ := own_form d1.seen
  obtain ⟨au, cu, rfl⟩ := own_form d1.sure
  obtain ⟨ap, cp, rfl⟩ := own_form d1.pend
  have ks : ∀ W, Fr (fun _ _ => True) w W → W.cell? ⟨bd, 0, none⟩ = some (.slice as1 D.seen.length cs) ∧ W.cell? ⟨bd, 1, none⟩ = some (.slice au D.sure.length cu) ∧ W.cell? ⟨bd, 2, none⟩ = some (.slice ap D.pend.length cp) ∧ W.cell? ⟨bd, 3, none⟩ = some (.int .i64 D.fuse) ∧ W.cell? ⟨bd, 4, none⟩ = some (.bool D.down) := fun W hW => by
    have t := hW.keep _ _ d1.top trivial
    exact ⟨cell_mk t rfl, cell_mk t rfl, cell_mk t rfl, cell_mk t rfl, cell_mk t rfl⟩
  have KS := Lib.hid ks
  have HS := Lib.hid d1.seen
  have HU := Lib.hid d1.sure
  have HP := Lib.hid d1.pend
  have HW := Lib.hid d1.wf
  have hl1 : Hid (D.seen.length ≤ 1000000) := by have := d1.wf.len; have := d1.wf.max; show _ ≤ _; omega
  have hl2 : Hid (D.sure.length ≤ 1000000) := by have := d1.wf.max; show _ ≤ _; omega
  have hl3 : Hid (D.pend.length ≤ 1000000) := d1.wf.few
  clear d1 ks hF
  go_enter Tryd.func36, Tryd.ntmps36
  go_wp2_with fail
  go_region_held3 (fun W => W.cell? ⟨bd, 0, none⟩ = some (.slice as1 D.seen.length cs) ∧ W.cell? ⟨bd, 1, none⟩ = some (.slice au D.sure.length cu) ∧ W.cell? ⟨bd, 2, none⟩ = some (.slice ap D.pend.length cp) ∧ W.cell? ⟨bd, 3, none⟩ = some (.int .i64 D.fuse) ∧ W.cell? ⟨bd, 4, none⟩ = some (.bool D.down)) (first | exact KS.out _ (Fr.refl _ _).drew | exact KS.out _ G1.out | exact KS.out _ G2.out | exact KS.out _ G3.out | exact KS.out _ (G3.out.alloc _))
    (first
      | (go_at_call 52; (with_reducible refine (clone_sec _ _ D.seen (ownsRow_fr HS.out ((Fr.refl (fun _ _ => True) w).drew) (fun _ _ _ _ => trivial)) hl1.out).mono ?_); rintro e w1 ⟨⟨v1, rfl, o1⟩, f1⟩; obtain ⟨a1, c1, rfl⟩ := own_form o1; have O1 := Lib.hid o1; have G1 := Lib.hid ((Fr.refl (fun _ _ => True) w).drew.trans f1); clear o1 f1)
      | (go_at_call 52; (with_reducible refine (clone_sec _ _ D.sure (ownsRow_fr HU.out G1.out (fun _ _ _ _ => trivial)) hl2.out).mono ?_); rintro e w2 ⟨⟨v2, rfl, o2⟩, f2⟩; obtain ⟨a2, c2, rfl⟩ := own_form o2; have O2 := Lib.hid o2; have E2 := Lib.hid f2; have G2 := Lib.hid (G1.out.trans f2); clear o2 f2)
      | (go_at_call 69; (with_reducible refine (clone_wr _ _ D.pend (ownsRow_fr HP.out G2.out (fun _ _ _ _ => trivial)) hl3.out).mono ?_); rintro e w3 ⟨⟨v3, rfl, o3⟩, f3⟩; obtain ⟨a3, c3, rfl⟩ := own_form o3; have O3 := Lib.hid o3; have E3 := Lib.hid f3; have G3 := Lib.hid (G2.out.trans f3); clear o3 f3))
  all_goals
    go_wp2
    go_ret
    refine ⟨⟨_, rfl, ?_⟩, G3.out.alloc _⟩
    have t := heap_alloc_new w3 (.cells #[.slice a1 D.seen.length c1, .slice a2 D.sure.length c2, .slice a3 D.pend.length c3, .int .i64 D.fuse, .bool D.down] 91 (0, 0))
    have q1 : Fr (fun _ _ => True) w1 (w3.alloc (.cells #[.slice a1 D.seen.length c1, .slice a2 D.sure.length c2, .slice a3 D.pend.length c3, .int .i64 D.fuse, .bool D.down] 91 (0, 0))) := (E2.out.trans E3.out).alloc _
    have s1 := G1.out.size
    have s2 := G2.out.size
    have s3 := G3.out.size
    refine ⟨_, _, _, ⟨t, own_base (ownsRow_fr O1.out q1 (fun _ _ _ _ => trivial)) (Nat.zero_le _), own_base (ownsRow_fr O2.out (E3.out.alloc _) (fun _ _ _ _ => trivial)) (Nat.zero_le _), own_base (ownsRow_fr O3.out ((Fr.refl (fun _ _ => True) w3).alloc _) (fun _ _ _ _ => trivial)) (Nat.zero_le _), ?_, HW.out⟩, s3, fun c e => ?_, fun c e => Nat.le_trans s1 (own_le O2.out e), fun c e => Nat.le_trans s2 (own_le O3.out e)⟩
    · intro c e e'
      have h2 := own_le O2.out e'
      obtain ⟨cur, hc⟩ := own_tag O1.out e
      have := lt_of_some hc
      omega
    · have := own_le O1.out e
      simpa using this
end Go.Proofs.YtaeonlafcbgpcaaDoor
/- Package slot: records, an iterator. -/
namespace Go.Proofs.YtaeonlafcbgpcaaDoor
open Go.RowKit Go.Shelf

/-- A sector's record of the first epoch. -/
def secRec (D : Dk) (i : Nat) : Option (Nat × Nat × List UInt8) := match parseP (D.seen.getD i []) with
  | some (s, 0, b) => some (i, s, b)
  | _ => none
def recsUpto (D : Dk) (k j : Nat) : List (Nat × Nat × List UInt8) := (List.range j).filterMap fun i => secRec D (k + i)
theorem recsUpto_succ (D : Dk) (k j : Nat) : recsUpto D k (j + 1) = recsUpto D k j ++ (secRec D (k + j)).toList := by
  unfold recsUpto
  rw [List.range_succ, List.filterMap_append]
  cases h : secRec D (k + j) <;> simp [h]

/-- A record as it is handed out. -/
structure SRec where
  at' : Nat
  seq : Nat
  a : Option Addr
  cap : Nat
  bs : List UInt8
def SRec.tup (x : SRec) : Nat × Nat × List UInt8 := (x.at', x.seq, x.bs)
def SRec.v (x : SRec) : Value := .slice x.a x.bs.length x.cap
def SRec.cells (x : SRec) : Array Value := #[.int .i64 (x.at' : Nat), .int .u32 (x.seq : Nat), .slice x.a x.bs.length x.cap]
def SRec.encs (x : SRec) : Array Value := #[.agg x.cells]
/-- Its bytes lie in memory that is new since n. -/
def SRec.lies (n : Nat) (x : SRec) (w : World) : Prop := BytesAt (New n) w (.slice x.a x.bs.length x.cap) x.bs ∧ x.seq < 4294967296 ∧ 0 < x.seq

theorem SRec.lies.fr {n : Nat} {x : SRec} {K : Nat → Obj → Prop} {w w' : World} (h : x.lies n w) (hf : Fr K w w') (hk : ∀ c o, New n c o → K c o) : x.lies n w' := ⟨h.1.fr (hf.mono hk), h.2⟩
theorem New.kc {n c : Nat} {o : Obj} (h : New n c o) : KC c o := by
  obtain ⟨_, cs, fz, rfl⟩ := h; rfl

theorem parseP_pos {l : List UInt8} {s p : Nat} {b : List UInt8} (h : parseP l = some (s, p, b)) : 0 < s ∧ s < 4294967296 ∧ p < 4294967296 ∧ b.length ≤ 43 := by
  unfold parseP at h
  split at h
  · rename_i hc
    cases h
    refine ⟨by omega, ofLE_take_lt _ 4, ofLE_take_lt _ 4, ?_⟩
    rw [List.length_take]; omega
  · cases h

attribute [local go_sem] Oper.semAt_some

set_option maxRecDepth 100000 in
set_option maxHeartbeats 1000000 in
theorem records_seq (n : Nat) (W0 : World) (B F : Nat → Prop) (bd : Nat) (D : Dk) (k bat bdk : Nat) (hd : Dsk W0 bd F D) (hFB : ∀ c, F c → B c) (hat : W0.cell? ⟨bat, 0, none⟩ = some (.int .i64 (k : Nat))) (hdk : W0.cell? ⟨bdk, 0, none⟩ = some (.pointer (some ⟨bd, 0, none⟩)))
    (hBa : B bat) (hBd : B bdk) (hB0 : B 0) (ht : TabOK W0) (hB : ∀ c, W0.heap.size ≤ c → B c) (hk : k + 1 < D.seen.length) :
    SeqW Fence.wide n Tryd.prog 80 #[.pointer (some ⟨bat, 0, none⟩), .pointer (some ⟨bdk, 0, none⟩)] SRec.encs (SRec.lies W0.heap.size) B (fun xs W => xs.map SRec.tup = recsUpto D k 2 ∧ ∀ x ∈ xs, x.lies W0.heap.size W) W0 := by
  intro l J W hW hJ hY h0
  have hbnd : k ≤ 511 := by have := hd.wf.max; have := hd.wf.len; omega
  refine callsIn_of_wp Tryd.func80 rfl trivial ?_ rfl
  simp only [Tryd.ntmps80, List.size_toArray, List.length_cons, List.length_nil, Nat.reduceAdd, Nat.reduceSub, Array.replicate_succ, Array.replicate_zero, List.push_toArray, List.append_toArray, List.nil_append, List.cons_append]
  have HAT := Lib.hid hat
  have HDK := Lib.hid hdk
  have ca := hW.cell (fun _ _ => trivial) hat
  have FW := Lib.hid hW
  have HJ := Lib.hid hJ
  have HY := Lib.hid hY
  have H0 := Lib.hid h0
  have HD := Lib.hid hd
  have HT := Lib.hid ht
  clear hat hdk hW hJ hY h0 hd ht
  gi_wp2
  gi_loopw [4] (fun i wr => ∃ (j : Nat) (xs : List SRec), j ≤ 2 ∧ i = .int .i64 ((k + j : Nat) : Int) ∧ J xs wr ∧ xs.map SRec.tup = recsUpto D k j ∧ (∀ x ∈ xs, x.lies W0.heap.size wr) ∧ Fr (fun c _ => B c) W0 wr) (fun i _ => k + 2 - (intOf i).toNat)
  case atStart => exact ⟨0, [], by omega, rfl, H0.out, rfl, (fun x hx => by cases hx), FW.out.mono fun _ _ _ => trivial⟩
  case round =>
    obtain ⟨j, xs, hj, rfl, hJx, hxs, hl, hf⟩ := hrel
    have HX := Lib.hid hxs
    have HL := Lib.hid hl
    have HF := Lib.hid hf
    have HJx := Lib.hid hJx
    have ca1 := hf.cell (fun _ _ => hBa) HAT.out
    have cd1 := hf.cell (fun _ _ => hBd) HDK.out
    clear hxs hl hf hJx ca H0 FW
    by_cases hlt : j < 2
    · gi_wp2
      have hm : k + j < D.seen.length := by omega
      refine ⟨trivial, (fun h => by cases h), (callsIn_wide.2 (read_in wr bd F D (k + j) _ (by omega) (HD.out.fr HF.out fun c _ _ h => hFB c h) hm)).mono ?_⟩
      rintro e w1 ⟨⟨a1, c1, rfl, b1⟩, f1⟩
      have hg : D.seen[k + j] = D.seen.getD (k + j) [] := by simp [List.getD, hm]
      rw [hg] at b1
      have hsr : Hid (secRec D (k + j) = match parseP (D.seen.getD (k + j) []) with | some (s, 0, b) => some (k + j, s, b) | _ => none) := rfl
      generalize D.seen.getD (k + j) [] = sec at b1 hsr
      have B1 := Lib.hid b1
      have F1 := Lib.hid (HF.out.trans (f1.mono (K' := fun c _ => B c) fun _ _ _ => trivial))
      have E1 := Lib.hid f1
      have HJ1 := Lib.hid (HJ.out _ _ _ HJx.out f1)
      clear b1 f1 hg
      gi_wp2
      refine ⟨trivial, (fun h => by cases h), (callsIn_wide.2 (parse_calls w1 _ sec B1.out (fun i hi => F1.out.cell (fun _ _ => hB0) (HT.out i hi)))).mono ?_⟩
      rintro e w2 ⟨(⟨hp, rfl⟩ | ⟨s, p, b, a2, c2, hp, rfl, b2⟩), f2⟩
      · have hsn : Hid (secRec D (k + j) = none) := by rw [hsr.out, hp]; rfl
        have F2 := Lib.hid (F1.out.trans (f2.mono (K' := fun c _ => B c) fun _ _ _ => trivial))
        have HL2 := Lib.hid (fun x hx => ((HL.out x hx).fr (E1.out.trans f2) (fun _ _ _ => trivial)))
        have HJ2 := Lib.hid (HJ.out _ _ _ HJ1.out f2)
        clear f2 hp hsr
        gi_wp2
        refine ⟨(fun _ h => by cases h), ?_⟩
        gi_wp2
        go_roundw
        case rel => exact ⟨j + 1, xs, by omega, by go_num, HJ2.out, by rw [recsUpto_succ, hsn.out, HX.out]; simp, HL2.out, F2.out⟩
        case measure => simp [intOf]; omega
      · obtain ⟨hs0, hs1, hp1, hb43⟩ := parseP_pos hp
        have F2 := Lib.hid (F1.out.trans (f2.mono (K' := fun c _ => B c) fun _ _ _ => trivial))
        have HL2 := Lib.hid (fun x hx => ((HL.out x hx).fr (E1.out.trans f2) (fun _ _ _ => trivial)))
        have HJ2 := Lib.hid (HJ.out _ _ _ HJ1.out f2)
        have hsz : W0.heap.size ≤ w1.heap.size := F1.out.size
        have B2 := Lib.hid (b2.mono (K' := New W0.heap.size) fun c o _ h => ⟨Nat.le_trans hsz h.1, h.2⟩)
        clear f2 b2
        by_cases hp0 : p = 0
        · subst hp0
          have hss : Hid (secRec D (k + j) = some (k + j, s, b)) := by rw [hsr.out, hp]; rfl
          clear hp hsr
          obtain ⟨fn, tmps, assign, body, hy, hR⟩ := HY.out xs ⟨k + j, s, a2, c2, b⟩ w2 HJ2.out ⟨B2.out, hs1, hs0⟩
          have HR := Lib.hid hR
          clear hR
          dsimp only [SRec.encs, SRec.cells] at hy
          simp only [Int.natCast_add] at hy
          gi_wp2
          refine ⟨(fun h => by cases h), HR.out.mono ?_⟩
          rintro e w3 ⟨rfl, hJ3, f3⟩
          have HJ3 := Lib.hid hJ3
          have F3 := Lib.hid (F2.out.trans f3)
          have HL3 : Hid (∀ x ∈ xs ++ [⟨k + j, s, a2, c2, b⟩], x.lies W0.heap.size w3) := fun x hx => by
            rcases List.mem_append.1 hx with h | h
            · exact (HL2.out x h).fr f3 fun c _ h => hB c h.1
            · rw [List.mem_singleton.1 h]
              exact SRec.lies.fr ⟨B2.out, hs1, hs0⟩ f3 fun c _ h => hB c h.1
          clear hJ3 f3 hy HR
          gi_wp2
          go_roundw
          case rel => exact ⟨j + 1, _, by omega, by go_num, HJ3.out, by rw [recsUpto_succ, hss.out, List.map_append, HX.out]; rfl, HL3.out, F3.out⟩
          case measure => simp [intOf]; omega
        · have hsn : Hid (secRec D (k + j) = none) := by
            rw [hsr.out, hp]
            cases p with
            | zero => exact absurd rfl hp0
            | succ p => rfl
          have hpz : ((p : Int) == 0) = false := by simp; omega
          clear hp hsr
          gi_wp2
          refine ⟨(fun _ h => by cases h), ?_⟩
          gi_wp2
          go_roundw
          case rel => exact ⟨j + 1, xs, by omega, by go_num, HJ2.out, by rw [recsUpto_succ, hsn.out, HX.out]; simp, HL2.out, F2.out⟩
          case measure => simp [intOf]; omega
    · gi_wp2
      go_end0
      exact ⟨⟨_, rfl⟩, xs, ⟨by rw [HX.out]; congr 1; omega, HL.out⟩, HJx.out⟩
end Go.Proofs.YtaeonlafcbgpcaaDoor
/- Package slot: last. -/
namespace Go.Proofs.YtaeonlafcbgpcaaDoor
open Go.RowKit Go.Shelf

theorem records_calls (w : World) (bd : Nat) (k : Nat) :
    Calls Tryd.prog 73 #[.pointer (some ⟨bd, 0, none⟩), .int .i64 (k : Nat)] w fun e w' => e = .returned (.func (.func 80) #[] #[.pointer (some ⟨w.heap.size + 1, 0, none⟩), .pointer (some ⟨w.heap.size, 0, none⟩)]) ∧ w' = (w.alloc (.cells #[.pointer (some ⟨bd, 0, none⟩)] 38)).alloc (.cells #[.int .i64 (k : Nat)] 3) := by
  go_enter Tryd.func73, Tryd.ntmps73
  go_wp2
  go_ret
  exact ⟨rfl, rfl⟩

def bestOf (z : SRec) (l : List SRec) : SRec := l.foldl (fun o x => if o.seq < x.seq then x else o) z
theorem bestOf_snoc (z : SRec) (l : List SRec) (x : SRec) : bestOf z (l ++ [x]) = if (bestOf z l).seq < x.seq then x else bestOf z l := by unfold bestOf; rw [List.foldl_append]; rfl
def noRec (k : Nat) : SRec := ⟨k + 1, 0, none, 0, []⟩
def lastOf (z : Nat × Nat × List UInt8) (l : List (Nat × Nat × List UInt8)) : Nat × Nat × List UInt8 := l.foldl (fun o x => if o.2.1 < x.2.1 then x else o) z
/-- The last record at a place: where, its number, its bytes. -/
def lastRec (D : Dk) (k : Nat) : Nat × Nat × List UInt8 := lastOf (k + 1, 0, []) (recsUpto D k 2)
theorem bestOf_tup (l : List SRec) : ∀ z : SRec, (bestOf z l).tup = lastOf z.tup (l.map SRec.tup) := by
  induction l with
  | nil => intro z; rfl
  | cons x l ih =>
    intro z
    show (bestOf (if z.seq < x.seq then x else z) l).tup = lastOf (if z.seq < x.seq then x.tup else z.tup) (l.map SRec.tup)
    rw [ih]
    split <;> rfl
theorem bestOf_mem (l : List SRec) : ∀ z : SRec, bestOf z l = z ∨ bestOf z l ∈ l := by
  induction l with
  | nil => intro z; exact .inl rfl
  | cons x l ih =>
    intro z
    show bestOf (if z.seq < x.seq then x else z) l = z ∨ bestOf (if z.seq < x.seq then x else z) l ∈ x :: l
    split
    · rcases ih x with h | h
      · exact .inr (by rw [h]; simp)
      · exact .inr (by simp [h])
    · rcases ih z with h | h
      · exact .inl h
      · exact .inr (by simp [h])

attribute [local go_sem] Oper.semAt_some

set_option maxRecDepth 100000 in
set_option maxHeartbeats 1000000 in
theorem last_calls (w : World) (bd : Nat) (F : Nat → Prop) (D : Dk) (k : Nat) (hd : Dsk w bd F D) (ht : TabOK w) (hk : k + 1 < D.seen.length) (hF : ∀ c, F c → c < w.heap.size) (h0 : 0 < w.heap.size) :
    Calls Tryd.prog 49 #[.pointer (some ⟨bd, 0, none⟩), .int .i64 (k : Nat)] w fun e w' => (∃ x : SRec, e = .returned (.agg x.cells) ∧ x.tup = lastRec D k ∧ BytesAt (New w.heap.size) w' x.v x.bs) ∧ Fr (fun _ _ => True) w w' := by
  have hbnd : k ≤ 511 := by have := hd.wf.max; have := hd.wf.len; omega
  refine (callsIn_wide (n := 3)).1 ?_
  refine callsIn_of_wp_marks Tryd.func49 rfl trivial ?_ rfl
  simp only [Tryd.ntmps49, List.size_toArray, List.length_cons, List.length_nil, Nat.reduceAdd, Nat.reduceSub, Array.replicate_succ, Array.replicate_zero, List.push_toArray, List.append_toArray, List.nil_append, List.cons_append]
  gi_wp2
  refine ⟨trivial, (callsIn_wide.2 (records_calls _ bd k)).mono ?_⟩
  rintro e w2 ⟨rfl, rfl⟩
  gi_wp2
  have hW0 : ∃ W0, ((((w.alloc (.cells #[.int .i64 0, .int .u32 0, .slice none 0 0] 85)).alloc (.cells #[.int .i64 ((k : Int) + 1), .int .u32 0, .slice none 0 0] 85)).alloc (.cells #[.pointer (some ⟨bd, 0, none⟩)] 38)).alloc (.cells #[.int .i64 (k : Nat)] 3)) = W0 := ⟨_, rfl⟩
  obtain ⟨W0, hW0⟩ := hW0
  have fW : Fr (fun _ _ => True) w W0 := by rw [← hW0]; exact ((((Fr.refl _ _).alloc _).alloc _).alloc _).alloc _
  have sW : W0.heap.size = w.heap.size + 4 := by rw [← hW0]; simp
  have t0 : W0.heap[w.heap.size]? = some (.cells #[.int .i64 0, .int .u32 0, .slice none 0 0] 85 (0, 0)) := by
    rw [← hW0]; exact heap_alloc_lt (heap_alloc_lt (heap_alloc_lt (heap_alloc_new w _) _) _) _
  have t1 : W0.heap[w.heap.size + 1]? = some (.cells #[.int .i64 ((k : Int) + 1), .int .u32 0, .slice none 0 0] 85 (0, 0)) := by
    rw [← hW0]; exact heap_alloc_lt (heap_alloc_lt (heap_alloc_at (by simp) _) _) _
  have t2 : W0.heap[w.heap.size + 1 + 1]? = some (.cells #[.pointer (some ⟨bd, 0, none⟩)] 38 (0, 0)) := by
    rw [← hW0]; exact heap_alloc_lt (heap_alloc_at (by simp) _) _
  have t3 : W0.heap[w.heap.size + 1 + 1 + 1]? = some (.cells #[.int .i64 (k : Nat)] 3 (0, 0)) := by
    rw [← hW0]; exact heap_alloc_at (by simp) _
  rw [hW0]
  have hlen : bd < w.heap.size := by obtain ⟨_, _, _, q, _⟩ := hd; exact lt_of_some q.top
  have hseq := records_seq 2 W0 (fun c => c ≠ w.heap.size + 1) F bd D k (w.heap.size + 1 + 1 + 1) (w.heap.size + 1 + 1) (hd.tt fW) (fun c h e => by have := hF c h; omega) (cell_mk t3 rfl) (cell_mk t2 rfl) (by omega) (by omega) (by omega) (ht.tt fW) (fun c h => by omega) hk
  have HT0 := Lib.hid t0
  have FW := Lib.hid fW
  have HSEQ := Lib.hid hseq
  have hI0 : Hid (W0.heap[w.heap.size + 1]? = some (.cells (bestOf (noRec k) []).cells 85 (0, 0))) := t1
  clear hseq hd ht t0 t1 t2 t3 fW hW0
  refine wpIn_range (F := Fence.wide) (n := 3) rfl (by omega) (gf := 80) (lb := #[.pointer (some ⟨w.heap.size + 1 + 1 + 1, 0, none⟩), .pointer (some ⟨w.heap.size + 1 + 1, 0, none⟩)]) rfl trivial (enters_of Tryd.func80 (by kernel_rfl) rfl) HSEQ.out (fun c h => by omega)
    (fun x A A' h hf => h.fr hf fun _ _ hn => hn.kc) (fun xs A A' h hf => ⟨h.1, fun x hx => (h.2 x hx).fr hf fun _ _ hn => hn.kc⟩) (fun _ => rfl)
    (fun pre W => W.heap[w.heap.size + 1]? = some (.cells (bestOf (noRec k) pre).cells 85 (0, 0))) (fun xs A A' h hf => hf.keep _ _ h rfl) hI0.out
    (fun x W a' W' => W' = W.alloc (.cells x.cells 85 (0, 0)) ∧ a' = { tmps := #[.pointer (some ⟨bd, 0, none⟩), .int .i64 (k : Nat), undef, undef, .pointer (some ⟨w.heap.size, 0, none⟩), .pointer (some ⟨w.heap.size + 1, 0, none⟩), .pointer (some ⟨W.heap.size, 0, none⟩), .int .i64 (k : Nat), .int .i64 ((k : Int) + 1), .agg #[.int .i64 ((k : Int) + 1), .int .u32 0, .slice none 0 0], .pointer (some ⟨bd, 0, none⟩), .int .i64 (k : Nat), .func (.func 80) #[] #[.pointer (some ⟨w.heap.size + 1 + 1 + 1, 0, none⟩), .pointer (some ⟨w.heap.size + 1 + 1, 0, none⟩)], .agg x.cells, undef, undef, undef, undef, undef, undef, undef], defers := [] }) ?assign ?body ?done
  case assign =>
    intro l x W K hK
    have HK := Lib.hid hK
    clear hK
    unfold SRec.encs SRec.cells
    gi_wp2
    exact HK.out _ _ ⟨rfl, rfl⟩ ((Fr.refl _ _).alloc _)
  case body =>
    rintro l pre x W a' W' Wb hfw hi hx ⟨rfl, rfl⟩ hfa hfb
    have u1 := hfb.keep _ _ (heap_alloc_lt hi _) rfl
    have u2 := hfb.keep _ _ (heap_alloc_new W (.cells x.cells 85 (0, 0))) rfl
    have hb := bestOf_snoc (noRec k) pre x
    generalize bestOf (noRec k) pre = o at u1 hb
    have HB := Lib.hid hb
    have hxs : x.seq < 4294967296 := hx.2.1
    clear hb hx hfa hi hfw
    unfold SRec.cells at u1 u2
    have ca0 : Wb.cell? ⟨w.heap.size + 1, 0, none⟩ = some (.int .i64 (o.at' : Nat)) := cell_mk u1 rfl
    have ca1 : Wb.cell? ⟨w.heap.size + 1, 1, none⟩ = some (.int .u32 (o.seq : Nat)) := cell_mk u1 rfl
    have ca2 : Wb.cell? ⟨w.heap.size + 1, 2, none⟩ = some (.slice o.a o.bs.length o.cap) := cell_mk u1 rfl
    have cb0 : Wb.cell? ⟨W.heap.size, 0, none⟩ = some (.int .i64 (x.at' : Nat)) := cell_mk u2 rfl
    have cb1 : Wb.cell? ⟨W.heap.size, 1, none⟩ = some (.int .u32 (x.seq : Nat)) := cell_mk u2 rfl
    have cb2 : Wb.cell? ⟨W.heap.size, 2, none⟩ = some (.slice x.a x.bs.length x.cap) := cell_mk u2 rfl
    have g0 := frozen_mk (i := 0) u1
    have g1 := frozen_mk (i := 1) u1
    have g2 := frozen_mk (i := 2) u1
    have U1 := Lib.hid u1
    clear u1 u2 hfb
    by_cases hlt : o.seq < x.seq
    · gi_wp2
      refine ⟨(((Fr.refl _ _).setCell (fun _ _ h => h rfl) _).setCell (fun _ _ h => h rfl) _).setCell (fun _ _ h => h rfl) _, ?_⟩
      show _ = some (Obj.cells (bestOf (noRec k) (pre ++ [x])).cells _ _)
      rw [HB.out, if_pos hlt]
      exact heap_setCell_same (heap_setCell_same (heap_setCell_same U1.out _) _) _
    · gi_wp2
      refine ⟨Fr.refl _ _, ?_⟩
      show _ = some (Obj.cells (bestOf (noRec k) (pre ++ [x])).cells _ _)
      rw [HB.out, if_neg hlt]
      exact U1.out
  case done =>
    rintro D' xs W hD hs hi hK hfr
    have u0 := hfr.keep _ _ HT0.out (by omega)
    have htp := bestOf_tup xs (noRec k)
    rw [hs.1] at htp
    have hmm : BytesAt (New W0.heap.size) W (bestOf (noRec k) xs).v (bestOf (noRec k) xs).bs := by
      rcases bestOf_mem xs (noRec k) with h | h
      · rw [h]; exact BytesAt.nil _ _
      · exact (hs.2 _ h).1
    generalize bestOf (noRec k) xs = o at hi htp hmm
    have HTP := Lib.hid htp
    have HMM := Lib.hid hmm
    have FR := Lib.hid hfr
    have HKK := Lib.hid hK
    unfold SRec.cells at hi
    have ca0 : W.cell? ⟨w.heap.size + 1, 0, none⟩ = some (.int .i64 (o.at' : Nat)) := cell_mk hi rfl
    have ca1 : W.cell? ⟨w.heap.size + 1, 1, none⟩ = some (.int .u32 (o.seq : Nat)) := cell_mk hi rfl
    have ca2 : W.cell? ⟨w.heap.size + 1, 2, none⟩ = some (.slice o.a o.bs.length o.cap) := cell_mk hi rfl
    have cb0 : W.cell? ⟨w.heap.size, 0, none⟩ = some (.int .i64 0) := cell_mk u0 rfl
    have cb1 : W.cell? ⟨w.heap.size, 1, none⟩ = some (.int .u32 0) := cell_mk u0 rfl
    have cb2 : W.cell? ⟨w.heap.size, 2, none⟩ = some (.slice none 0 0) := cell_mk u0 rfl
    have g0 := frozen_mk (i := 0) u0
    have g1 := frozen_mk (i := 1) u0
    have g2 := frozen_mk (i := 2) u0
    have U0 := Lib.hid u0
    clear hs hi hfr u0 htp hmm hK
    gi_wp2
    have v2 := heap_setCell_same (o := 2) (heap_setCell_same (o := 1) (heap_setCell_same (o := 0) U0.out (.int .i64 (o.at' : Nat))) (.int .u32 (o.seq : Nat))) (.slice o.a o.bs.length o.cap)
    have hfq : Fr (fun c _ => c ≠ w.heap.size) W (((W.setCell ⟨w.heap.size, 0, none⟩ (.int .i64 (o.at' : Nat))).setCell ⟨w.heap.size, 1, none⟩ (.int .u32 (o.seq : Nat))).setCell ⟨w.heap.size, 2, none⟩ (.slice o.a o.bs.length o.cap)) := (((Fr.refl _ _).setCell (fun _ _ h => h rfl) _).setCell (fun _ _ h => h rfl) _).setCell (fun _ _ h => h rfl) _
    generalize ((W.setCell ⟨w.heap.size, 0, none⟩ (.int .i64 (o.at' : Nat))).setCell ⟨w.heap.size, 1, none⟩ (.int .u32 (o.seq : Nat))).setCell ⟨w.heap.size, 2, none⟩ (.slice o.a o.bs.length o.cap) = Wz at v2 hfq ⊢
    have hKz := hfq.keep _ _ HKK.out (by omega)
    have v3 : (Wz.putObj D' (.deferred none)).heap[w.heap.size]? = _ := (World.putObj_heap_other (by omega)).trans v2
    have hfz : Fr (fun c _ => c ≠ w.heap.size ∧ c ≠ D') W (Wz.putObj D' (.deferred none)) := (hfq.mono fun _ _ h => h.1).putObj (fun _ _ h => h.2 rfl) _
    have hfall : Fr (fun _ _ => True) w (Wz.putObj D' (.deferred none)) := by
      refine ⟨hfz.os.trans (FR.out.os.trans FW.out.os), hfz.tape.trans (FR.out.tape.trans FW.out.tape), hfz.output.trans (FR.out.output.trans FW.out.output), Nat.le_trans FW.out.size (Nat.le_trans FR.out.size hfz.size), fun b x hb _ => ?_⟩
      have hlt := lt_of_some hb
      exact hfz.keep b x (FR.out.keep b x (FW.out.keep b x hb trivial) (by omega)) ⟨by omega, by omega⟩
    refine ⟨by simp, .inl ⟨_, _, rfl, run_takeDeferred hKz, ?_⟩⟩
    have hsz2 := FW.out.size
    have hfk : Fr (fun c x => c ≠ w.heap.size ∧ KC c x) W (Wz.putObj D' (.deferred none)) := (hfq.mono fun _ _ h => h.1).putObj (fun x hx h => by rw [HKK.out] at hx; cases hx; cases h.2) _
    have hby := (HMM.out.fr (hfk.mono fun c x h => ⟨by have := h.1; omega, h.kc⟩)).mono (K' := New w.heap.size) fun c _ _ h => ⟨by have := h.1; omega, h.2⟩
    exact ⟨_, results_cell_row rfl _ _ _ _ _ _ _ rfl v3 Tryd.underlying85 rfl rfl, ⟨o, rfl, HTP.out, hby⟩, hfall⟩
end Go.Proofs.YtaeonlafcbgpcaaDoor
/- Package slot: right, Load. -/
namespace Go.Proofs.YtaeonlafcbgpcaaDoor
open Go.RowKit

theorem Dsk.inside {w : World} {bd : Nat} {F : Nat → Prop} {D : Dk} (h : Dsk w bd F D) : Dsk w bd (fun c => F c ∧ c < w.heap.size) D := by
  obtain ⟨vs, vu, vp, h, h1, h2, h3, h4⟩ := h
  refine ⟨vs, vu, vp, h, ⟨h1, lt_of_some h.top⟩, fun c e => ⟨h2 c e, ?_⟩, fun c e => ⟨h3 c e, ?_⟩, fun c e => ⟨h4 c e, ?_⟩⟩
  · obtain ⟨_, q⟩ := own_tag h.seen e; exact lt_of_some q
  · obtain ⟨_, q⟩ := own_tag h.sure e; exact lt_of_some q
  · obtain ⟨_, q⟩ := own_tag h.pend e; exact lt_of_some q
theorem last_any (w : World) (bd : Nat) (F : Nat → Prop) (D : Dk) (k : Nat) (z : Int) (hz : z = k) (hd : Dsk w bd F D) (ht : TabOK w) (hk : k + 1 < D.sure.length) :
    Calls Tryd.prog 49 #[.pointer (some ⟨bd, 0, none⟩), .int .i64 z] w fun e w' => (∃ x : SRec, e = .returned (.agg x.cells) ∧ x.tup = lastRec D k ∧ BytesAt (New w.heap.size) w' x.v x.bs) ∧ Fr (fun _ _ => True) w w' := by
  subst hz
  have h0 : 0 < w.heap.size := by have := cell_lt (ht 0 (by decide)); simpa using this
  exact last_calls w bd _ D k hd.inside ht (by have := hd.wf.len; omega) (fun c h => h.2) h0

/-- Both sectors are there. -/
def Dk.right (D : Dk) (i : Int) : Bool := decide (0 ≤ i ∧ i < (D.sure.length : Int) - 1)

set_option maxRecDepth 100000 in
theorem right_calls (w : World) (bd : Nat) (F : Nat → Prop) (D : Dk) (i : Int) (h : Dsk w bd F D) :
    Calls Tryd.prog 48 #[.pointer (some ⟨bd, 0, none⟩), .int .i64 i] w fun e w' => e = .returned (.bool (D.right i)) ∧ w = w' := by
  have hl := len_calls w bd F D h
  have HL := Lib.hid hl
  have hm := h.wf.max
  have h1 := h.wf.one
  clear h hl
  by_cases h0 : 0 ≤ i
  · have e1 : D.right i = decide (i < (D.sure.length : Int) - 1) := by simp [Dk.right, h0]
    have E1 := Lib.hid e1
    clear e1
    go_enter Tryd.func48, Tryd.ntmps48
    go_wp2_with fail
    (with_reducible refine HL.out.mono ?_)
    rintro e w1 ⟨rfl, rfl⟩
    go_wp2
    go_ret
    exact ⟨by rw [E1.out]; rfl, rfl⟩
  · have e1 : D.right i = false := by simp [Dk.right, h0]
    have E1 := Lib.hid e1
    have d0 : decide (0 ≤ i) = false := by simp [h0]
    clear e1
    go_enter Tryd.func48, Tryd.ntmps48
    go_wp2
    go_ret
    exact ⟨by rw [E1.out]; rfl, rfl⟩

/-- What Load answers. -/
def loadM (D : Dk) (i : Int) : List UInt8 × Nat × Int :=
  if D.right i then (if (lastRec D i.toNat).2.1 = 0 then ([], 0, 41) else ((lastRec D i.toNat).2.2, (lastRec D i.toNat).2.1, 0)) else ([], 0, 40)
theorem right_nat {D : Dk} {i : Int} (h : D.right i = true) : ∃ k : Nat, i = k ∧ k + 1 < D.sure.length := by
  have h := of_decide_eq_true h
  exact ⟨i.toNat, by omega, by omega⟩

set_option maxRecDepth 100000 in
theorem load_calls (w : World) (bd : Nat) (F : Nat → Prop) (D : Dk) (i : Int) (h : Dsk w bd F D) (ht : TabOK w) (b : List UInt8) (s : Nat) (c : Int) (hr : loadM D i = (b, s, c)) :
    Calls Tryd.prog 20 #[.pointer (some ⟨bd, 0, none⟩), .int .i64 i] w fun e w' => (∃ a cap, e = .returned (.tuple #[.slice a b.length cap, .int .u32 (s : Nat), .int .i64 c]) ∧ BytesAt (New w.heap.size) w' (.slice a b.length cap) b) ∧ Fr (fun _ _ => True) w w' := by
  have hrc := right_calls w bd F D i h
  unfold loadM at hr
  cases hq : D.right i with
  | false =>
    rw [hq] at hrc hr
    cases hr
    have HR := Lib.hid hrc
    clear hrc h ht hq
    go_enter Tryd.func20, Tryd.ntmps20
    go_wp2_with fail
    (with_reducible refine HR.out.mono ?_)
    rintro e w1 ⟨rfl, rfl⟩
    go_wp2
    go_ret3
    exact ⟨⟨_, _, rfl, BytesAt.nil _ _⟩, Fr.refl _ _⟩
  | true =>
    rw [hq, if_pos rfl] at hr
    rw [hq] at hrc
    obtain ⟨k, rfl, hk⟩ := right_nat hq
    have hla := last_any w bd F D k k rfl h ht hk
    rw [Int.toNat_natCast] at hr
    generalize lastRec D k = r at hr hla
    have HR := Lib.hid hrc
    have HL := Lib.hid hla
    have HE := Lib.hid hr
    clear hrc hla h ht hq hr
    go_enter Tryd.func20, Tryd.ntmps20
    go_wp2_with fail
    (with_reducible refine HR.out.mono ?_)
    rintro e w1 ⟨rfl, rfl⟩
    go_wp2_with fail
    (with_reducible refine HL.out.mono ?_)
    rintro e w2 ⟨⟨x, rfl, hx, b2⟩, f2⟩
    subst hx
    have he : (if x.seq = 0 then (([] : List UInt8), (0 : Nat), (41 : Int)) else (x.bs, x.seq, 0)) = (b, s, c) := HE.out
    have F2 := Lib.hid f2
    have B2 := Lib.hid b2
    unfold SRec.cells
    by_cases h0 : x.seq = 0
    · rw [if_pos h0] at he
      cases he
      clear f2 b2 HE
      have h0' : ((x.seq : Nat) : Int) = 0 := by omega
      go_wp2
      go_ret3
      exact ⟨⟨_, _, rfl, BytesAt.nil _ _⟩, F2.out.alloc _⟩
    · rw [if_neg h0] at he
      cases he
      clear f2 b2 HE
      have h0' : ¬ ((x.seq : Nat) : Int) = 0 := by omega
      go_wp2
      go_region
      all_goals
        go_wp2
        go_ret3
        exact ⟨⟨_, _, rfl, B2.out.tt ((Fr.refl _ _).alloc _).drew⟩, (F2.out.alloc _).drew⟩
end Go.Proofs.YtaeonlafcbgpcaaDoor
