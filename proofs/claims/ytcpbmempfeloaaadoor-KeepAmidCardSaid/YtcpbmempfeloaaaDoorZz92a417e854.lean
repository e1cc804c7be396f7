/- Texts of the proofs, part 16: what the functions that they reach do, walked; no conditions beyond those that each states. -/
import Derived.Deep.RegionHeld3
import Derived.Test.YtcpbmempfeloaaaDoorZz8fc20e4a0b
set_option linter.unusedVariables false
set_option linter.unusedSimpArgs false
/- Package disk: Crash. -/
namespace Go.Proofs.YtcpbmempfeloaaaDoor
open Go.RowKit

/-- A slice of ints that reads as zs, in a block that K names. -/
def IntsAt (K : Nat → Obj → Prop) (w : World) (v : Value) (zs : List Int) : Prop :=
  ∃ a cap, v = .slice a zs.length cap ∧ (zs = [] ∨ ∃ b off o, a = some ⟨b, off, none⟩ ∧ w.heap[b]? = some o ∧ K b o ∧ ∀ i, (h : i < zs.length) → w.cell? ⟨b, off + i, none⟩ = some (.int .i64 zs[i]))
theorem IntsAt.fr {K K' : Nat → Obj → Prop} {w w' : World} {v : Value} {zs : List Int} (h : IntsAt K w v zs) (hf : Fr K' w w') (hk : ∀ c o, K c o → K' c o) : IntsAt K w' v zs := by
  obtain ⟨a, cap, hv, h⟩ := h
  refine ⟨a, cap, hv, ?_⟩
  rcases h with h | ⟨b, off, o, ha, hb, hkb, hc⟩
  · exact .inl h
  · refine .inr ⟨b, off, o, ha, hf.keep _ _ hb (hk _ _ hkb), hkb, fun i hi => hf.cell (fun o' e => ?_) (hc i hi)⟩
    have e' : w.heap[b]? = some o' := e
    rw [hb] at e'
    cases e'
    exact hk _ _ hkb

def pickAt (zs : List Int) (k : Nat) : Nat := match zs[k]? with | some z => (max 0 (min z 64)).toNat | none => 0
theorem pickAt_le (zs : List Int) (k : Nat) : pickAt zs k ≤ 64 := by
  unfold pickAt; split <;> omega
def tear (p : Nat) (x old : List UInt8) : List UInt8 := x.take p ++ old.drop p
theorem tear_64 (p : Nat) (x old : List UInt8) (hx : x.length = 64) (ho : old.length = 64) : (tear p x old).length = 64 := by simp [tear]; omega
def tornAt (zs : List Int) (s : List (List UInt8)) (x : (Nat × List UInt8) × Nat) : List (List UInt8) := s.set x.1.1 (tear (pickAt zs x.2) x.1.2 (s.getD x.1.1 []))
def layTorn (zs : List Int) (s : List (List UInt8)) (l : List (Nat × List UInt8)) : List (List UInt8) := l.zipIdx.foldl (tornAt zs) s
theorem layTorn_snoc (zs : List Int) (s : List (List UInt8)) (l : List (Nat × List UInt8)) (x : Nat × List UInt8) : layTorn zs s (l ++ [x]) = tornAt zs (layTorn zs s l) (x, l.length) := by simp [layTorn, List.zipIdx_append]
theorem foldTorn_length (zs : List Int) (l : List ((Nat × List UInt8) × Nat)) : ∀ s, (l.foldl (tornAt zs) s).length = s.length := by
  induction l with
  | nil => intro s; rfl
  | cons x l ih => intro s; rw [List.foldl_cons, ih, tornAt, List.length_set]
theorem layTorn_length (zs : List Int) (s : List (List UInt8)) (l : List (Nat × List UInt8)) : (layTorn zs s l).length = s.length := foldTorn_length zs _ s
def Dk.crash (D : Dk) (zs : List Int) : Dk := ⟨layTorn zs D.sure D.pend, layTorn zs D.sure D.pend, [], -1, false⟩

theorem setCells_size (vs : List Value) : ∀ (w : World) (g o : Nat), (w.setCells g o vs).heap.size = w.heap.size := by
  induction vs with
  | nil => intro w g o; rfl
  | cons v vs ih => intro w g o; exact (ih _ _ _).trans (by simp [World.setCell])
theorem DskAt.sureBy {w w' : World} {bd gu cu n : Nat} {vs vp : Value} {D : Dk} (h : DskAt w bd vs (.slice (some ⟨gu, 0, none⟩) n cu) vp D) (hn : D.sure.length = n) (k : Nat) (hk : k < n) (x : List UInt8) (hx : x.length = 64)
    (hf : Fr (fun c _ => c ≠ gu) w w') {cur : Array Value} (hc : w.heap[gu]? = some (.cells cur 105 (0, 0))) (hc' : w'.heap[gu]? = some (.cells (setsA cur (k * 64) (x.map byteV)) 105 (0, 0))) :
    DskAt w' bd vs (.slice (some ⟨gu, 0, none⟩) n cu) vp { D with sure := D.sure.set k x } := by
  have h2 := h.setSure' hn k hk x hx
  have hs := heap_setCells_same (x.map byteV) (o := k * 64) hc
  have f0 : Fr (fun c _ => c ≠ gu) (w.setCells gu (k * 64) (x.map byteV)) w := by
    have hq : Fr (fun c _ => c ≠ gu) w (w.setCells gu (k * 64) (x.map byteV)) := (Fr.refl _ _).setCells (fun _ _ h => h rfl) _ _
    refine ⟨hq.os.symm, hq.tape.symm, hq.output.symm, ?_, fun b o hb hne => ?_⟩
    · rw [setCells_size]; exact Nat.le_refl _
    · rw [heap_setCells_ne _ hne] at hb; exact hb
  have f1 := f0.trans hf
  refine h2.tt ⟨f1.os, f1.tape, f1.output, f1.size, fun b o hb _ => ?_⟩
  by_cases hg : b = gu
  · subst hg; rw [hs] at hb; rw [hc', hb]
  · exact f1.keep b o hb hg
theorem Fr.setRow {K : Nat → Obj → Prop} {a w : World} (h : Fr K a w) {g : Nat} (hp : ∀ o, a.heap[g]? = some o → ¬ K g o) (cs : Array Value) : Fr K a (w.setRow g cs) := by
  refine ⟨h.os, h.tape, h.output, by rw [show (w.setRow g cs).heap.size = w.heap.size from by simp [World.setRow]]; exact h.size, fun b o hb hk => ?_⟩
  by_cases hg : b = g
  · subst hg; exact absurd hk (hp o hb)
  · rw [setRow_other w g b cs hg]; exact h.keep b o hb hk
/-- A part of a sector, laid: the whole sector is laid. -/
theorem torn_cells (cur : Array Value) (o p : Nat) (x old : List UInt8) (hx : x.length = 64) (ho : old.length = 64) (hp : p ≤ 64) (hs : o + 64 ≤ cur.size) (hold : ∀ i, (h : i < old.length) → cur[o + i]? = some (byteV old[i])) :
    (cur.toList.take o ++ ((x.take p).map byteV ++ cur.toList.drop (o + ((x.take p).map byteV).length))).toArray = setsA cur o ((tear p x old).map byteV) := by
  have hl : ((x.take p).map byteV).length = p := by simp; omega
  have ht : ((tear p x old).map byteV).length = 64 := by rw [List.length_map]; exact tear_64 p x old hx ho
  apply Array.ext_getElem?
  intro j
  rw [setsA_get _ _ _ _ (by omega), ht]
  have := splice_get cur.toList ((x.take p).map byteV) o j (by rw [hl]; simp; omega)
  rw [List.getElem?_toArray, this, hl]
  by_cases h1 : o ≤ j ∧ j < o + p
  · rw [if_pos h1, if_pos (by omega)]
    simp only [tear, List.map_append]
    rw [List.getElem?_append_left (by rw [hl]; omega)]
  · rw [if_neg h1]
    by_cases h2 : o ≤ j ∧ j < o + 64
    · rw [if_pos h2]
      simp only [tear, List.map_append]
      rw [List.getElem?_append_right (by rw [hl]; omega), hl, List.map_drop, List.getElem?_drop, List.getElem?_map, show p + (j - o - p) = j - o from by omega, List.getElem?_eq_getElem (l := old) (by omega)]
      have := hold (j - o) (by omega)
      rw [show o + (j - o) = j from by omega] at this
      simpa using this
    · rw [if_neg h2]; simp

theorem wr_k {D : Dk} (h : D.ok) (j : Nat) (hj : j < D.pend.length) : D.pend[j].1 < D.sure.length ∧ D.pend[j].2.length = 64 := h.p64 _ (List.getElem_mem hj)

theorem run_slice_arr (w : World) (b o p : Nat) (hp : p ≤ 64) : (Instr.sliceAt 105 (.pointer (some ⟨b, o, none⟩)) none (some (.int .i64 p)) none).run Tryd.prog w = .ok (.slice (some ⟨b, o, none⟩) p 64) w := by
  have h0 : (0 : Int) ≤ p ∧ (p : Int) ≤ 64 := by omega
  have e1 := congrFun size_u8 w
  simp [Instr.sliceAt, Sem.run_bind, run_underlying Tryd.underlying105, Result.andThen, Instr.sliceBounds, Instr.sliceBound, asIntOf, Sem.run_pure, h0, Addr.add, Instr.sureAddr, hp, e1]
/-- 'copy(d.sure[w.i][:], w.b[:p])'. -/
theorem wpList_copy_torn {ops : Array Oper} {rest : List Oper} {o : Oper} {a : Act} {Q : Exit → Act → World → Prop} {w3 : World} {bd gu cu n m k k0 q : Nat} {vs vp : Value} {D : Dk} {x : List UInt8} (hgd : o.guard = none) (d s : Operand)
    (ho : o.op = .call { callee := .builtin .copy, args := #[d, s], argTypes := #[33, 33] }) (hd : a.eval d = .slice (some ⟨gu, k * 64, none⟩) 64 64) (hs : a.eval s = .slice (some ⟨m, 1, none⟩) q 64) (hq : q ≤ 64)
    (h3 : DskAt w3 bd vs (.slice (some ⟨gu, 0, none⟩) n cu) vp D) (hn : D.sure.length = n) (hk : k < n) (t3 : w3.heap[m]? = some (.cells (wA k0 x) 107 (0, 0))) (hx : x.length = 64)
    (h : ∀ w4, DskAt w4 bd vs (.slice (some ⟨gu, 0, none⟩) n cu) vp { D with sure := D.sure.set k (tear q x (D.sure.getD k [])) } → Fr (fun c _ => c ≠ gu) w3 w4 → wpList Tryd.prog ops Q rest (a.put o.dst (goInt q)) w4) : wpList Tryd.prog ops Q (o :: rest) a w3 := by
  subst hn
  obtain ⟨cur, hg⟩ := own_tag h3.sure (c := gu) rfl
  have hrg := sec_range h3.sure h3.wf.u64 k hk
  have h64 : D.sure[k].length = 64 := h3.wf.u64 _ (List.getElem_mem hk)
  have hsz : k * 64 + 64 ≤ cur.size := by
    have h1 := hrg 63 (byteV (D.sure[k][63]'(by omega))) (by rw [List.getElem?_map, List.getElem?_eq_getElem (by omega)]; rfl)
    have h2 : w3.cell? ⟨gu, k * 64 + 63, none⟩ = cur[k * 64 + 63]? := by simp [World.cell?, hg]
    rw [h2] at h1
    rcases Nat.lt_or_ge (k * 64 + 63) cur.size with h3 | h3
    · omega
    · rw [Array.getElem?_eq_none h3] at h1; cases h1
  have hlc : ((x.take q).map byteV).length = q := by simp; omega
  refine wpList_copy_own hgd d s _ _ ho 5 Tryd.underlying33 size_byte gu (k * 64) 64 64 ⟨m, 1, none⟩ q 64 hd hs cur 105 hg ((x.take q).map byteV) (by rw [hlc]; exact (Nat.min_eq_left hq).symm) (fun j v hv => ?_) (by rw [hlc]; omega) (fun v hv => ?_) ?_
  · have hr := range_wA1 t3 j v (by
      rw [List.map_take, List.getElem?_take] at hv
      split at hv
      · exact hv
      · cases hv)
    unfold Addr.add
    split
    · subst j; exact hr
    · exact hr
  · obtain ⟨y, _, rfl⟩ := List.mem_map.1 hv; rfl
  · have e := torn_cells cur (k * 64) q x D.sure[k] hx h64 hq hsz (fun i hi => by
      have h1 := hrg i (byteV D.sure[k][i]) (by rw [List.getElem?_map, List.getElem?_eq_getElem hi]; rfl)
      have h2 : w3.cell? ⟨gu, k * 64 + i, none⟩ = cur[k * 64 + i]? := by simp [World.cell?, hg]
      rw [← h2]; exact h1)
    rw [e, hlc]
    have hf : Fr (fun c _ => c ≠ gu) w3 (w3.setRow gu (setsA cur (k * 64) ((tear q x D.sure[k]).map byteV))) := (Fr.refl _ _).setRow (fun _ _ h => h rfl) _
    have eg : D.sure.getD k [] = D.sure[k] := by simp [List.getD, hk]
    refine h _ ?_ hf
    rw [eg]
    exact h3.sureBy rfl k hk _ (tear_64 q x _ hx h64) hf hg (setRow_heap w3 gu _ _ _ _ hg)

attribute [local go_sem ↓] shutWr shutSec

set_option maxRecDepth 100000 in
set_option maxHeartbeats 1000000 in
theorem crash_main {K : Nat → Obj → Prop} (w : World) (bd : Nat) (F : Nat → Prop) (D : Dk) (pa : Option Addr) (pn pc : Nat) (zs : List Int) (h : Dsk w bd F D) (hp : IntsAt K w (.slice pa pn pc) zs) (hK : ∀ c o, K c o → ¬ F c) :
    Calls Tryd.prog 16 #[.pointer (some ⟨bd, 0, none⟩), .slice pa pn pc] w fun e w' => e = .returned (.tuple #[]) ∧ Dsk w' bd (fun c => F c ∨ w.heap.size ≤ c) (D.crash zs) ∧ Fr (fun c _ => ¬ F c) w w' := by
  have hFb : F bd := by obtain ⟨_, _, _, _, h1, _⟩ := h; exact h1
  have hpn : zs.length = pn := by obtain ⟨_, _, e, _⟩ := hp; cases e; rfl
  obtain ⟨vs, vu, vp, d1, hF⟩ := h
  obtain ⟨gu, cu, rfl, hcu, hgl⟩ := row_form d1.sure (by have := d1.wf.one; omega)
  obtain ⟨ap, cp, rfl⟩ := own_form d1.pend
  have D1 := Lib.hid d1
  have HP := Lib.hid hp
  have HPN := Lib.hid hpn
  have hsl : D.sure.length ≤ 512 := d1.wf.max
  have hpl : D.pend.length ≤ 1000000 := d1.wf.few
  have HC := Lib.hid (show D.sure.length ≤ cu from hcu)
  have c2 : w.cell? ⟨bd, 2, none⟩ = some (.slice ap D.pend.length cp) := cell_mk d1.top rfl
  clear d1 hcu hp hpn
  go_enter Tryd.func16, Tryd.ntmps16
  go_wp2
  go_loopw [12] (fun i wr => ∃ j : Nat, j ≤ D.pend.length ∧ i = .int .i64 j ∧ DskAt wr bd vs (.slice (some ⟨gu, 0, none⟩) D.sure.length cu) (.slice ap D.pend.length cp) { D with sure := layTorn zs D.sure (D.pend.take j) } ∧ Fr (fun c _ => ¬ F c) w wr) (fun i _ => D.pend.length - (intOf i).toNat)
  case atStart => exact ⟨0, Nat.zero_le _, rfl, D1.out, Fr.refl _ _⟩
  case round =>
    obtain ⟨j, hj, rfl, hdj, hfj⟩ := hrel
    have DJ := Lib.hid hdj
    have FJ := Lib.hid hfj
    clear hdj hfj c2
    by_cases hlt : j < D.pend.length
    · obtain ⟨gp, cp', he, hcp, _⟩ := wr_form DJ.out.pend (by show 0 < D.pend.length; omega)
      cases he
      have hr := wr_range DJ.out.pend (fun x hx => (DJ.out.wf.p64 x hx).2) j hlt
      obtain ⟨hxk, hx64⟩ := wr_k D1.out.wf j hlt
      have hnx : Hid (layTorn zs D.sure (D.pend.take (j + 1)) = (layTorn zs D.sure (D.pend.take j)).set D.pend[j].1 (tear (pickAt zs j) D.pend[j].2 ((layTorn zs D.sure (D.pend.take j)).getD D.pend[j].1 []))) := by
        rw [List.take_succ_eq_append_getElem hlt, layTorn_snoc, List.length_take, Nat.min_eq_left hj]; rfl
      have hld : (shutLd 107 (.pointer (some ⟨gp, j * 65, none⟩))).run Tryd.prog wr = .ok (.agg (wA D.pend[j].1 D.pend[j].2)) wr := ldWr_at (k := D.pend[j].1) (bs := D.pend[j].2) hr hx64
      generalize hxx : D.pend[j].1 = k at hld hnx hxk
      generalize hyy : D.pend[j].2 = x at hld hnx hx64
      have hst := fun W => store_copy W k x hx64
      have HX := Lib.hid hx64
      clear hxx hyy hr hx64
      have h65 : (wA k x).size = 65 := by rw [wA_size, HX.out]
      have hcase : (∃ pb po z, pa = some ⟨pb, po, none⟩ ∧ wr.cell? ⟨pb, po + j, none⟩ = some (.int .i64 z) ∧ j < pn ∧ (pickAt zs j = (max 0 (min z 64)).toNat)) ∨ (¬ j < pn ∧ Hid (pickAt zs j = 0)) := by
        have hpn := HPN.out
        by_cases hpk : j < pn
        · refine .inl ?_
          obtain ⟨_, _, e, hq⟩ := HP.out.fr FJ.out hK
          cases e
          rcases hq with rfl | ⟨pb, po, o, rfl, _, _, hc⟩
          · simp at hpk
          · refine ⟨pb, po, zs[j], rfl, hc j hpk, hpk, ?_⟩
            unfold pickAt; rw [List.getElem?_eq_getElem hpk]
        · refine .inr ⟨hpk, ?_⟩
          show pickAt zs j = 0
          unfold pickAt
          rw [List.getElem?_eq_none (by omega)]
      have hcase2 : (∃ pb po z, pa = some ⟨pb, po, none⟩ ∧ (wr.alloc (.cells (wA k x) 107 (0, 0))).cell? ⟨pb, po + j, none⟩ = some (.int .i64 z) ∧ j < pn ∧ z ≤ 0 ∧ Hid (pickAt zs j = 0)) ∨ (∃ pb po, ∃ q : Nat, pa = some ⟨pb, po, none⟩ ∧ (wr.alloc (.cells (wA k x) 107 (0, 0))).cell? ⟨pb, po + j, none⟩ = some (.int .i64 q) ∧ j < pn ∧ (0 < (q : Int) ∧ (q : Int) ≤ 64) ∧ Hid (pickAt zs j = q)) ∨ (∃ pb po z, pa = some ⟨pb, po, none⟩ ∧ (wr.alloc (.cells (wA k x) 107 (0, 0))).cell? ⟨pb, po + j, none⟩ = some (.int .i64 z) ∧ j < pn ∧ 64 < z ∧ Hid (pickAt zs j = 64)) ∨ (¬ j < pn ∧ Hid (pickAt zs j = 0)) := by
        rcases hcase with ⟨pb, po, z, rfl, hcz, hpk, hz⟩ | h
        · have hcz' : (wr.alloc (.cells (wA k x) 107 (0, 0))).cell? ⟨pb, po + j, none⟩ = some (.int .i64 z) := ((Fr.refl (fun _ _ => True) _).alloc _).cell (fun _ _ => trivial) hcz
          by_cases h1 : z ≤ 0
          · exact .inl ⟨pb, po, z, rfl, hcz', hpk, h1, (show pickAt zs j = 0 by omega)⟩
          · by_cases h2 : z ≤ 64
            · obtain ⟨q, rfl⟩ : ∃ q : Nat, z = q := ⟨z.toNat, by omega⟩
              exact .inr (.inl ⟨pb, po, q, rfl, hcz', hpk, by omega, (show pickAt zs j = q by omega)⟩)
            · exact .inr (.inr (.inl ⟨pb, po, z, rfl, hcz', hpk, by omega, (show pickAt zs j = 64 by omega)⟩))
        · exact .inr (.inr (.inr h))
      clear hcase
      have d3 := DJ.out.tt ((Fr.refl _ _).alloc (.cells (wA k x) 107 (0, 0))).drew
      have t3 : (wr.alloc (.cells (wA k x) 107 (0, 0))).drew.heap[wr.heap.size]? = some (.cells (wA k x) 107 (0, 0)) := heap_alloc_new wr _
      have F3 := Lib.hid (FJ.out.alloc (.cells (wA k x) 107 (0, 0))).drew
      have D3 := Lib.hid d3
      have T3 := Lib.hid t3
      have hlen : Hid ((layTorn zs D.sure (D.pend.take j)).length = D.sure.length) := layTorn_length _ _ _
      clear d3 t3
      rcases hcase2 with ⟨pb, po, z, rfl, hcz, hpk, hz, HZ⟩ | ⟨pb, po, q, rfl, hcz, hpk, ⟨hz0, hz⟩, HZ⟩ | ⟨pb, po, z, rfl, hcz, hpk, hz, HZ⟩ | ⟨hpk, HZ⟩
      all_goals
        go_wp2
        refine wp_region_still_tail 11 (by kernel_rfl) (by kernel_rfl) ?_
        simp only [List.take_succ_cons, List.take_zero, List.drop_succ_cons, List.drop_zero]
        change wpStill Tryd.prog _ (wr.alloc (.cells (wA k x) 107 (0, 0))).drew (fun a' => wpList Tryd.prog _ _ _ a' (wr.alloc (.cells (wA k x) 107 (0, 0))).drew) _ _
        generalize (wr.alloc (.cells (wA k x) 107 (0, 0))).drew = w3 at D3 T3 F3 ⊢
        have c1 : w3.cell? ⟨bd, 1, none⟩ = some (.slice (some ⟨gu, 0, none⟩) D.sure.length cu) := cell_mk D3.out.top rfl
        have c3 : w3.cell? ⟨wr.heap.size, 0, none⟩ = some (.int .i64 k) := cell_mk T3.out rfl
        clear hld hst h65 DJ FJ
        try clear hcz
        repeat still_step
        try (have hsl2 := fun W b o => run_slice_arr W b o q (by omega); still_step; clear hsl2)
        refine wpStill_nil ?_
        go_wp2_with (refine wpList_copy_torn rfl (.tmp 34) (.tmp 37) rfl rfl rfl (by omega) D3.out hlen.out hxk T3.out HX.out ?_)
        intro w4 d4 f4
        have hnx' := hnx.out
        rw [HZ.out] at hnx'
        have e4 := congrArg (fun s => ({ D with sure := s } : Dk)) hnx'
        have D4 : Hid (DskAt w4 bd vs (.slice (some ⟨gu, 0, none⟩) D.sure.length cu) (.slice (some ⟨gp, 0, none⟩) D.pend.length cp) { D with sure := layTorn zs D.sure (D.pend.take (j + 1)) }) := e4 ▸ d4
        have F4 : Hid (Fr (fun c _ => ¬ F c) w w4) := F3.out.trans (f4.mono fun c _ h e => h (e ▸ hF.2.2.1 gu rfl))
        clear d4 f4 hnx' e4 c1 c3
        go_wp2
        go_roundw
        case rel => exact ⟨j + 1, by omega, by go_num, D4.out, F4.out⟩
        case measure => simp [intOf]; omega
    · have e1 : D.pend.take j = D.pend := List.take_of_length_le (by omega)
      have dj := DJ.out
      rw [e1] at dj
      have hSl : (layTorn zs D.sure D.pend).length = D.sure.length := layTorn_length _ _ _
      have hcr : Hid (D.crash zs = ⟨layTorn zs D.sure D.pend, layTorn zs D.sure D.pend, [], -1, false⟩) := rfl
      generalize layTorn zs D.sure D.pend = S at dj hSl hcr
      have HSL := Lib.hid hSl
      clear hSl
      have f2 := frozen_mk (i := 2) dj.top
      have f3 := frozen_mk (i := 3) dj.top
      have f4 := frozen_mk (i := 4) dj.top
      have c2 : wr.cell? ⟨bd, 2, none⟩ = some (.slice ap D.pend.length cp) := cell_mk dj.top rfl
      have c3 : wr.cell? ⟨bd, 3, none⟩ = some (.int .i64 D.fuse) := cell_mk dj.top rfl
      have c4 : wr.cell? ⟨bd, 4, none⟩ = some (.bool D.down) := cell_mk dj.top rfl
      have t2 := heap_setCell_same (o := 2) dj.top (.slice none 0 0)
      have t3 := heap_setCell_same (o := 3) t2 (.int .i64 (-1))
      have t4 := heap_setCell_same (o := 4) t3 (.bool false)
      have hf6 : Fr (fun c _ => c ≠ bd) wr (((wr.setCell ⟨bd, 2, none⟩ (.slice none 0 0)).setCell ⟨bd, 3, none⟩ (.int .i64 (-1))).setCell ⟨bd, 4, none⟩ (.bool false)) := (((Fr.refl _ _).setCell (fun _ _ h => h rfl) _).setCell (fun _ _ h => h rfl) _).setCell (fun _ _ h => h rfl) _
      have T4 := Lib.hid t4
      have G4 := Lib.hid hf6
      have DD := Lib.hid dj
      clear dj e1 hf6 t2 t3 t4
      have c1 : wr.cell? ⟨bd, 1, none⟩ = some (.slice (some ⟨gu, 0, none⟩) D.sure.length cu) := cell_mk DD.out.top rfl
      have hgb : gu ≠ bd := fun e => by
        obtain ⟨cur, hc⟩ := own_tag DD.out.sure (c := gu) rfl
        rw [e, DD.out.top] at hc; cases hc
      have O6 := ownsRow_fr DD.out.sure G4.out (fun c _ e _ => by cases e; exact hgb)
      have O6' := O6
      rw [show ({ D with sure := S } : Dk).sure.length = S.length from rfl, HSL.out] at O6'
      have HCL := Lib.hid (clone_sec _ _ S (show World.ownsRow _ 0 _ 64 (.slice (some ⟨gu, 0, none⟩) D.sure.length cu) S.length (flatS S) from O6) (by have := HSL.out; omega))
      clear O6 O6'
      go_wp2_with fail
      (with_reducible refine HCL.out.mono ?_)
      rintro e w7 ⟨⟨v7, rfl, o7⟩, f7⟩
      obtain ⟨a7, c7, hv⟩ := own_form o7
      have HV := Lib.hid hv
      clear hv
      have T7 := f7.keep _ _ T4.out trivial
      have f70 := frozen_mk (i := 0) T7
      have k7 : w7.cell? ⟨bd, 0, none⟩ = some vs := cell_mk T7 rfl
      have G7 : Fr (fun c _ => c ≠ bd) wr w7 := G4.out.trans (f7.mono fun _ _ _ => trivial)
      have hv7 : v7.ownBlock ≠ some bd := fun q => by
        obtain ⟨cur, hc⟩ := own_tag o7 q
        rw [T7] at hc; cases hc
      have F8 : Hid (Fr (fun c _ => ¬ F c) w (w7.setCell ⟨bd, 0, none⟩ v7)) := (FJ.out.trans (G7.mono fun c _ h e => h (e ▸ hFb))).setCell (p := ⟨bd, 0, none⟩) (fun _ _ h => h hFb) v7
      have hB : w.heap.size ≤ (((wr.setCell ⟨bd, 2, none⟩ (.slice none 0 0)).setCell ⟨bd, 3, none⟩ (.int .i64 (-1))).setCell ⟨bd, 4, none⟩ (.bool false)).heap.size := Nat.le_trans FJ.out.size G4.out.size
      have D8 : Hid (Dsk (w7.setCell ⟨bd, 0, none⟩ v7) bd (fun c => F c ∨ w.heap.size ≤ c) (D.crash zs)) := by
        have wf := DD.out.wf
        have q0 := HSL.out
        have hlt7 : ∀ c, v7.ownBlock = some c → (((wr.setCell ⟨bd, 2, none⟩ (.slice none 0 0)).setCell ⟨bd, 3, none⟩ (.int .i64 (-1))).setCell ⟨bd, 4, none⟩ (.bool false)).heap.size ≤ c := fun c e => by
          rcases o7.2 with ⟨rfl, _⟩ | ⟨g, cap, cur, rfl, hb, _⟩
          · cases e
          · cases e; exact hb
        have hgu : gu < (((wr.setCell ⟨bd, 2, none⟩ (.slice none 0 0)).setCell ⟨bd, 3, none⟩ (.int .i64 (-1))).setCell ⟨bd, 4, none⟩ (.bool false)).heap.size := by
          obtain ⟨cur, hc⟩ := own_tag DD.out.sure (c := gu) rfl
          exact Nat.lt_of_lt_of_le (lt_of_some hc) G4.out.size
        show Dsk _ _ _ (D.crash zs)
        rw [hcr.out]
        refine ⟨v7, .slice (some ⟨gu, 0, none⟩) D.sure.length cu, .slice none 0 0, ⟨heap_setCell_same T7 v7, ?_, ?_, ⟨rfl, .inl ⟨rfl, rfl⟩⟩, ?_, ?_⟩, .inl hFb, fun c e => .inr (Nat.le_trans hB (hlt7 c e)), fun c e => .inl (hF.2.2.1 c e), (fun c e => by cases e)⟩
        · refine ownsRow_setCell_ne (p := ⟨bd, 0, none⟩) ?_ hv7 _
          obtain ⟨a7, b7⟩ := o7
          refine ⟨a7, ?_⟩
          rcases b7 with h | ⟨g, cap, cur, h1, h2, h3⟩
          · exact .inl h
          · exact .inr ⟨g, cap, cur, h1, Nat.zero_le _, h3⟩
        · refine ownsRow_setCell_ne (p := ⟨bd, 0, none⟩) ?_ (fun q => by cases q; exact hgb rfl) _
          exact ownsRow_fr DD.out.sure G7 (fun c _ e _ => by cases e; exact hgb)
        · intro c e e'
          cases e'
          exact Nat.not_lt.2 (hlt7 _ e) hgu
        · refine { wf with len := rfl, s64 := wf.u64, p64 := (fun x hx => by cases hx), few := Nat.zero_le _, lo := (by show (-9223372036854775808 : Int) ≤ -1; decide), hi := (by show (-1 : Int) ≤ 9223372036854775807; decide) }
      clear T7 G7 hv7 o7 f7 hB
      have hv := HV.out
      subst hv
      go_wp2
      go_end0
      exact ⟨rfl, D8.out, F8.out⟩
end Go.Proofs.YtcpbmempfeloaaaDoor
/- Package disk: Copy. -/
namespace Go.Proofs.YtcpbmempfeloaaaDoor
open Go.RowKit

theorem own_base {w : World} {B B' : Nat} {e : TypeId} {size : Nat} {v : Value} {n : Nat} {xs : List Value} (h : w.ownsRow B e size v n xs) (hb : B' ≤ B) : w.ownsRow B' e size v n xs := by
  obtain ⟨a, b⟩ := h
  refine ⟨a, ?_⟩
  rcases b with h | ⟨g, cap, cur, h1, h2, h3⟩
  · exact .inl h
  · exact .inr ⟨g, cap, cur, h1, Nat.le_trans hb h2, h3⟩
theorem own_le {w : World} {B : Nat} {e : TypeId} {size : Nat} {v : Value} {n : Nat} {xs : List Value} (h : w.ownsRow B e size v n xs) {c : Nat} (hc : v.ownBlock = some c) : B ≤ c := by
  rcases h.2 with ⟨rfl, _⟩ | ⟨g, cap, cur, rfl, hb, _⟩
  · cases hc
  · cases hc; exact hb

end Go.Proofs.YtcpbmempfeloaaaDoor
