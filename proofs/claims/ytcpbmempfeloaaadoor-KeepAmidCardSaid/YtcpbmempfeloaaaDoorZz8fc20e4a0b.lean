/- Texts of the proofs, part 15: what the functions that they reach do, walked; no conditions beyond those that each states. -/
import Derived.Laws.CopyOwn
import Derived.Deep.WholeRow
import Derived.Maps.RangeWalk
import Derived.Deep.RegionHeldLaw
import Derived.Test.YtcpbmempfeloaaaDoorZz2ac0666a95
set_option linter.unusedVariables false
set_option linter.unusedSimpArgs false
/- Package disk: Write. -/
namespace Go.Proofs.YtcpbmempfeloaaaDoor
open Go.RowKit

/-- A sector's bytes: what is written, and zeros. -/
def pad (b : List UInt8) : List UInt8 := b ++ List.replicate (64 - b.length) 0

/-- A pending write's cells, as an array. -/
def wA (k : Nat) (bs : List UInt8) : Array Value := (cellsW (k, bs)).toArray
theorem wA_size (k : Nat) (bs : List UInt8) : (wA k bs).size = bs.length + 1 := by simp [wA, cellsW]
theorem wA_one (k : Nat) (bs : List UInt8) : ((wA k bs).all fun x => x.oneCell') = true := by
  refine Array.all_eq_true_iff_forall_mem.2 fun v hv => ?_
  simp only [wA, cellsW, List.mem_toArray, List.mem_cons, List.mem_map] at hv
  rcases hv with rfl | ⟨x, _, rfl⟩ <;> rfl

theorem zero_write : Tryd.zeroCells107 = wA 0 (List.replicate 64 0) := by kernel_rfl
theorem size_write : Option.map (fun (x : TypeInfo) => x.size) (Tryd.prog.info? 107) = some 65 := by kernel_rfl
theorem size_sector : Option.map (fun (x : TypeInfo) => x.size) (Tryd.prog.info? 105) = some 64 := by kernel_rfl
theorem size_byte : Option.map (fun (x : TypeInfo) => x.size) (Tryd.prog.info? 5) = some 1 := by kernel_rfl
/-- 'w := write{i: i}': the new block. -/
theorem store_write (W : World) (k : Nat) : (storeCells ⟨W.heap.size, 0, none⟩ (Tryd.zeroCells107.toList.set 0 (.int .i64 k))).run Tryd.prog (W.alloc (.cells Tryd.zeroCells107 107)) = .ok () (W.alloc (.cells (wA k (List.replicate 64 0)) 107 (0, 0))) := by
  have e : Tryd.zeroCells107.toList.set 0 (.int .i64 k) = (wA k (List.replicate 64 0)).toList := by rw [zero_write]; rfl
  rw [e]
  exact run_storeCells_new W 107 _ (wA k (List.replicate 64 0)) (by rw [size_write, wA_size]; rfl) (by rw [zero_write, wA_size, wA_size]) (wA_one _ _)

/-- A whole array read in a region that draws its order. -/
theorem wpStill_load_mid {P : Program} {ops : Array Oper} {rest : List Oper} {op : Oper} {a : Act} {w : World} {Q : Act → Prop} (hgd : op.guard = none) (ty : TypeId) (x : Operand) (ho : op.op = .load ty x)
    (b o : Nat) (hx : a.eval x = .pointer (some ⟨b, o, none⟩)) (cs : Array Value) (d : TypeDesc) (hc : w.rangeAt b o cs.toList)
    (hu : P.underlying ty = some d) (hd : d.isRow = true) (hi : (P.info? ty).map (·.size) = some cs.size)
    (h : wpStill P ops w Q rest (a.put op.dst (.agg cs))) : wpStill P ops w Q (op :: rest) a := by
  refine wpStill_step fun K hK => ?_
  have hw : Region.wanted op (yielded ops a.tmps) = true := by simp [Region.wanted, hgd]
  rw [if_pos hw]
  unfold Oper.still execOp
  have hr := run_loadVar_mid (P := P) w b o ty cs.toList d hc hu hd (by simpa using hi)
  simp only [ho, hx, Instr.loadAt, Instr.sureAddr, Sem.run_bind, Sem.run_pure, Result.andThen_ok, hr, Oper.stillUpon_value]
  exact hK _ h

/-- 'copy(w.b[:], b)'. -/
theorem wpList_copy_sector {K : Nat → Obj → Prop} {ops : Array Oper} {rest : List Oper} {o : Oper} {a : Act} {Q : Exit → Act → World → Prop} (W : World) (hgd : o.guard = none) (d s : Operand)
    (ho : o.op = .call { callee := .builtin .copy, args := #[d, s], argTypes := #[33, 33] }) (k : Nat) (z : List UInt8) (hz : z.length = 64) (v : Value) (b : List UInt8) (hd : a.eval d = .slice (some ⟨W.heap.size, 1, none⟩) 64 64) (hs : a.eval s = v)
    (hb : BytesAt K (W.alloc (.cells (wA k z) 107 (0, 0))) v b) (hl : b.length ≤ 64)
    (h : wpList Tryd.prog ops Q rest (a.put o.dst (goInt b.length)) (W.alloc (.cells (wA k (b ++ z.drop b.length)) 107 (0, 0)))) : wpList Tryd.prog ops Q (o :: rest) a (W.alloc (.cells (wA k z) 107 (0, 0))) := by
  obtain ⟨ao, cap, rfl⟩ := hb.form
  by_cases h0 : b.length = 0
  · have e := List.length_eq_zero_iff.1 h0
    subst e
    exact wpList_copy_nothing hgd d s _ _ ho 5 Tryd.underlying33 size_byte _ _ _ _ _ _ hd hs (by simp) (by simpa using h)
  · have hsrc := hb.src
    obtain ⟨bk, off, rfl⟩ := hb.addr (by omega)
    rcases hsrc with ⟨he, _⟩ | ⟨ad, c, he, _, hc, h1⟩
    · cases he
    · cases he
      refine wpList_copy_own hgd d s _ _ ho 5 Tryd.underlying33 size_byte W.heap.size 1 64 64 ⟨bk, off, none⟩ b.length cap hd hs (wA k z) 107 (heap_alloc_new _ _) (b.map byteV) (by rw [List.length_map]; exact (Nat.min_eq_left hl).symm) hc (by rw [wA_size, List.length_map]; omega) h1 ?_
      rw [World.setRow_alloc_new]
      have e : ((wA k z).toList.take 1 ++ (b.map byteV ++ (wA k z).toList.drop (1 + (b.map byteV).length))).toArray = wA k (b ++ z.drop b.length) := by
        simp only [wA, cellsW, List.length_map, List.take_succ_cons, List.take_zero, List.map_append, List.map_drop]
        rw [Nat.add_comm 1, List.drop_succ_cons]
        rfl
      rw [e, List.length_map]
      exact h

/- Whole arrays that are read and written: kept shut in the walk. -/
def shutLd (t : TypeId) (v : Value) : Sem Value := Instr.loadAt t v
theorem info_write : (Tryd.prog.info? 107).map (fun i => (i.zero, i.size, i.bytes)) = some (some (.agg (wA 0 (List.replicate 64 0))), 65, 72) := by kernel_rfl
theorem shutB (n : Nat) (ps : Array (Nat × Value)) : Instr.buildSlice 101 n ps = shutBs 101 n ps := rfl
theorem build_write (W : World) (k : Nat) (bs : List UInt8) (hb : bs.length = 64) : (shutBs 101 1 #[(0, .agg (wA k bs))]).run Tryd.prog W = .ok (.slice (some ⟨W.heap.size, 0, none⟩) 1 1) (W.alloc (.cells (wA k bs) 107 (0, 0))) := by
  obtain ⟨i0, hi, hz0, hz1, hz2⟩ := info_parts info_write
  exact build_one W 101 107 65 (wA k bs) (wA 0 (List.replicate 64 0)) Tryd.underlying101 (by rw [hi, Option.map_some, hz0, hz1]) (by rw [wA_size, hb]) (by decide) (by decide)
/-- 'append(pending, w)', at a step of a region that draws its order. -/
theorem step_append_write {ops : Array Oper} {o : Oper} {a : Act} {K : Act → World → Prop} {Q : Exit → Act → World → Prop} {E : Prop} (W : World) (hgd : o.guard = none) (s x : Operand)
    (ho : o.op = .call { callee := .builtin .append, args := #[s, x], argTypes := #[101, 101] }) (v : Value) (n : Nat) (xs : List Value) (hs : a.eval s = v) (hown : W.ownsRow 0 107 65 v n xs)
    (B : Nat) (k : Nat) (bs : List UInt8) (hbs : bs.length = 64) (hx : a.eval x = .slice (some ⟨B, 0, none⟩) 1 1) (hb : W.heap[B]? = some (.cells (wA k bs) 107 (0, 0))) (hn : n ≤ 2000000)
    (h : ∀ g cap w', w'.ownsRow 0 107 65 (.slice (some ⟨g, 0, none⟩) (n + 1) cap) (n + 1) (xs ++ cellsW (k, bs)) → W.grownBy w' v.ownBlock → (v.ownBlock = some g ∨ g = W.heap.size) → g < w'.heap.size → K (a.put o.dst (.slice (some ⟨g, 0, none⟩) (n + 1) cap)) w') :
    if Region.wanted o (yielded ops a.tmps) = true then Oper.wp Tryd.prog o a W K Q else E := by
  obtain ⟨i0, hi, hz0, hz1, hz2⟩ := info_parts info_write
  refine step_append_lies W hgd s x 101 ho 0 107 i0 (.agg (wA 0 (List.replicate 64 0))) 65 72 Tryd.underlying101 hi hz0 hz1 hz2 (by show (wA 0 (List.replicate 64 0)).size = 65; rw [wA_size]; simp) (by decide) v n xs hs hown ⟨B, 0, none⟩ 1 1 (cellsW (k, bs)) hx (by simp [cellsW, hbs])
    (World.news_of_block hb) (fun u hu => ?_) (by decide) (by unfold maxLen; omega) (by omega) (Nat.zero_le _) _ rfl h
  rcases List.mem_cons.1 hu with rfl | hu
  · rfl
  · obtain ⟨y, _, rfl⟩ := List.mem_map.1 hu; rfl
theorem shutWr (v : Value) : Instr.loadAt 107 v = shutLd 107 v := rfl
def ldAt (P : Program) (t : TypeId) (W : World) (v : Value) : Result Value := (Instr.loadAt t v).run P W
def stAt (P : Program) (t : TypeId) (W : World) (p v : Value) : Result Unit := (Instr.storeAt t p v).run P W
theorem ldSec_eq (W : World) (v : Value) : (Instr.loadAt 105 v).run Tryd.prog W = ldAt Tryd.prog 105 W v := rfl
theorem ldWr_eq (W : World) (v : Value) : (Instr.loadAt 107 v).run Tryd.prog W = ldAt Tryd.prog 107 W v := rfl
theorem stSec_eq (W : World) (p v : Value) : (Instr.storeAt 105 p v).run Tryd.prog W = stAt Tryd.prog 105 W p v := rfl
/-- A sector's cells, as an array. -/
def secC (bs : List UInt8) : Array Value := (bs.map byteV).toArray
theorem secC_size (bs : List UInt8) : (secC bs).size = bs.length := by simp [secC]
theorem secC_one (bs : List UInt8) : (secC bs).all (·.oneCell') = true := all_oneCell_toArray fun v hv => by
  obtain ⟨x, _, rfl⟩ := List.mem_map.1 hv; rfl
theorem ldSec_at {W : World} {m o : Nat} {bs : List UInt8} (h : W.rangeAt m o (bs.map byteV)) (hl : bs.length = 64) : ldAt Tryd.prog 105 W (.pointer (some ⟨m, o, none⟩)) = .ok (.agg (secC bs)) W :=
  run_loadAt_mid W m o 105 (bs.map byteV) _ h Tryd.underlying105 rfl (by rw [size_sector, List.length_map, hl])
theorem ldWr_at {W : World} {m o : Nat} {k : Nat} {bs : List UInt8} (h : W.rangeAt m o (cellsW (k, bs))) (hl : bs.length = 64) : ldAt Tryd.prog 107 W (.pointer (some ⟨m, o, none⟩)) = .ok (.agg (wA k bs)) W :=
  run_loadAt_mid W m o 107 (cellsW (k, bs)) _ h Tryd.underlying107 rfl (by rw [size_write]; simp [cellsW, hl])
theorem stSec_at {W : World} {g o : Nat} {bs : List UInt8} (h : W.there g o 64) (hl : bs.length = 64) : stAt Tryd.prog 105 W (.pointer (some ⟨g, o, none⟩)) (.agg (secC bs)) = .ok () (W.setCells g o (bs.map byteV)) :=
  run_storeAt_mid W g o 105 (secC bs) (by rw [secC_size, hl]; exact h) (by rw [size_sector, secC_size, hl]) (secC_one bs)
theorem range_wA {W : World} {m k : Nat} {bs : List UInt8} (h : W.heap[m]? = some (.cells (wA k bs) 107 (0, 0))) : W.rangeAt m 0 (cellsW (k, bs)) := fun j v hv => by
  rw [Nat.zero_add]; exact cell_mk h (by simpa [wA] using hv)
theorem range_wA1 {W : World} {m k : Nat} {bs : List UInt8} (h : W.heap[m]? = some (.cells (wA k bs) 107 (0, 0))) : W.rangeAt m 1 (bs.map byteV) := fun j v hv => by
  refine cell_mk h ?_
  rw [Nat.add_comm]
  simpa [wA, cellsW] using hv

/-- A write is pending. -/
def Dk.put (D : Dk) (k : Nat) (x : List UInt8) : Dk := { D.burn with seen := D.seen.set k x, pend := D.pend ++ [(k, x)] }
theorem Dk.burn_ok {D : Dk} (h : D.burn.ok) : True := trivial
theorem flatW_snoc (l : List (Nat × List UInt8)) (x : Nat × List UInt8) : flatW (l ++ [x]) = flatW l ++ cellsW x := by simp [flatW]

/-- What a write leaves. -/
theorem dsk_write {w w3 w4 w5 : World} {bd gs g5 cs cp cap5 k : Nat} {ap : Option Addr} {vu : Value} {F : Nat → Prop} {D : Dk} {sb : List UInt8} {o : Obj} (F3 : Fr (fun c _ => c ≠ bd) w w3)
    (D3 : DskAt w3 bd (.slice (some ⟨gs, 0, none⟩) D.seen.length cs) vu (.slice ap D.pend.length cp) D.burn) (h1 : F bd) (h2 : F gs) (h3 : ∀ c, vu.ownBlock = some c → F c) (h4 : ∀ c, (Value.slice ap D.pend.length cp).ownBlock = some c → F c)
    (O4 : w4.ownsRow 0 105 64 (.slice (some ⟨gs, 0, none⟩) D.seen.length cs) D.seen.length (flatS (D.seen.set k sb))) (G4 : Fr (fun c _ => c ≠ gs) w3 w4)
    (U5 : w5.heap[bd]? = some (.cells #[.slice (some ⟨gs, 0, none⟩) D.seen.length cs, vu, .slice ap D.pend.length cp, .int .i64 D.burn.fuse, .bool D.burn.down] 103 (0, 0)))
    (hg5 : (w4.alloc o).drew.grownBy w5 (Value.slice ap D.pend.length cp).ownBlock) (hown5 : w5.ownsRow 0 107 65 (.slice (some ⟨g5, 0, none⟩) (D.pend.length + 1) cap5) (D.pend.length + 1) (flatW D.pend ++ cellsW (k, sb)))
    (hat5 : (Value.slice ap D.pend.length cp).ownBlock = some g5 ∨ g5 = (w4.alloc o).drew.heap.size) (hsb : sb.length = 64) (hk : k < D.seen.length) (hq : D.pend.length < 1000000) :
    Dsk (w5.setCell ⟨bd, 2, none⟩ (.slice (some ⟨g5, 0, none⟩) (D.pend.length + 1) cap5)) bd (fun c => F c ∨ w.heap.size ≤ c) (D.put k sb) ∧ Fr (fun c _ => ¬ F c) w (w5.setCell ⟨bd, 2, none⟩ (.slice (some ⟨g5, 0, none⟩) (D.pend.length + 1) cap5)) := by
  have hbs : gs ≠ bd := fun e => by
    obtain ⟨cur, hc⟩ := own_tag D3.seen (c := gs) rfl
    rw [e, D3.top] at hc; cases hc
  have f4 : Fr (fun c _ => ¬ F c) w w4 := (F3.mono fun c _ h e => h (e ▸ h1)).trans (G4.mono fun c _ h e => h (e ▸ h2))
  have f5 : Fr (fun c _ => ¬ F c) w w5 := ((f4.alloc o).drew).grown hg5 fun c _ e _ h => h (h4 c e)
  have f6 : Fr (fun c _ => ¬ F c) w (w5.setCell ⟨bd, 2, none⟩ (.slice (some ⟨g5, 0, none⟩) (D.pend.length + 1) cap5)) := f5.setCell (fun _ _ h => h h1) _
  have k5 : Fr (fun c _ => (Value.slice ap D.pend.length cp).ownBlock ≠ some c) w4 w5 := (((Fr.refl _ _).alloc o).drew).grown hg5 fun c _ e _ h => h e
  have k6 : Fr (fun c _ => (Value.slice ap D.pend.length cp).ownBlock ≠ some c ∧ c ≠ bd) w4 (w5.setCell ⟨bd, 2, none⟩ (.slice (some ⟨g5, 0, none⟩) (D.pend.length + 1) cap5)) := (k5.mono fun _ _ h => h.1).setCell (fun _ _ h => h.2 rfl) _
  have hwf := D3.wf
  refine ⟨⟨.slice (some ⟨gs, 0, none⟩) D.seen.length cs, vu, .slice (some ⟨g5, 0, none⟩) (D.pend.length + 1) cap5, ⟨heap_setCell_same U5 _, ?_, ?_, ?_, D3.apart, ?_⟩, .inl h1, fun c e => .inl (by cases e; exact h2), fun c e => .inl (h3 c e), fun c e => ?_⟩, f6⟩
  · have e1 : (D.put k sb).seen = D.seen.set k sb := rfl
    rw [e1, List.length_set]
    exact ownsRow_fr O4 k6 fun c o' e _ => by
      cases e
      exact ⟨fun q => own_ne (e := 107) (e' := 105) D3.pend D3.seen (by decide) q rfl rfl, hbs⟩
  · have s4 := ownsRow_fr D3.sure G4 (fun c _ e _ q => D3.apart gs rfl (q ▸ e))
    refine ownsRow_fr s4 k6 fun c o' e hc => ⟨fun q => own_ne (e := 107) (e' := 105) D3.pend D3.sure (by decide) q e rfl, fun q => ?_⟩
    obtain ⟨cur, hc⟩ := own_tag D3.sure e
    rw [q, D3.top] at hc; cases hc
  · have e1 : (D.put k sb).pend = D.pend ++ [(k, sb)] := rfl
    rw [e1, flatW_snoc, List.length_append]
    refine ownsRow_setCell_ne (p := ⟨bd, 2, none⟩) hown5 (fun q => ?_) _
    obtain ⟨cur, hc⟩ := own_tag hown5 q
    rw [U5] at hc; cases hc
  · refine { hwf with len := ?_, s64 := ?_, p64 := ?_, few := ?_ }
    · show (D.seen.set k sb).length = _
      rw [List.length_set]; exact hwf.len
    · intro x hx
      rcases List.mem_or_eq_of_mem_set hx with h | h
      · exact hwf.s64 x h
      · rw [h]; exact hsb
    · intro x hx
      rcases List.mem_append.1 hx with h | h
      · exact hwf.p64 x h
      · rw [List.mem_singleton.1 h]
        exact ⟨by have := hwf.len; show k < D.sure.length; have : D.seen.length = D.sure.length := this; omega, hsb⟩
    · show (D.pend ++ [(k, sb)]).length ≤ 1000000
      rw [List.length_append, List.length_singleton]; omega
  · cases e
    rcases hat5 with h | h
    · exact .inl (h4 _ h)
    · refine .inr ?_
      have := f4.size
      have e2 : g5 = w4.heap.size + 1 := by simpa using h
      show w.heap.size ≤ g5
      omega

attribute [local go_sem ↓] shutWr shutB

set_option maxRecDepth 100000 in
set_option maxHeartbeats 1000000 in
theorem write_main {K : Nat → Obj → Prop} (w : World) (bd : Nat) (F : Nat → Prop) (D : Dk) (k : Nat) (a : Option Addr) (len cap : Nat) (b : List UInt8) (h : Dsk w bd F D) (hk : k < D.seen.length) (hb : BytesAt K w (.slice a len cap) b) (hKb : ∀ c o, w.heap[c]? = some o → K c o → c ≠ bd) (hl : len ≤ 64) (hd : D.burn.down = false) (hq : D.pend.length < 1000000) :
    Calls Tryd.prog 51 #[.pointer (some ⟨bd, 0, none⟩), .int .i64 k, .slice a len cap] w fun e w' => e = .returned (.int .i64 0) ∧ Dsk w' bd (fun c => F c ∨ w.heap.size ≤ c) (D.put k (pad b)) ∧ Fr (fun c _ => ¬ F c) w w' := by
  have hc := has_calls w bd F D k h
  have hwf := h.wf
  rw [show decide (0 ≤ (k : Int) ∧ (k : Int) < (D.sure.length : Int)) = true from by have := hwf.len; simp; omega] at hc
  have HC := Lib.hid hc
  have hdn := done_disk w bd F D h
  rw [hd] at hdn
  have HD := Lib.hid hdn
  have hl' : (len : Int) ≤ 64 := by omega
  have hbl := hb.len
  have HB := Lib.hid (hb.mono (K' := fun c _ => c ≠ bd) fun c o hc hk => hKb c o hc hk)
  have HBL := Lib.hid hbl
  have hst := fun W => store_write W k
  have hmax : D.seen.length ≤ 512 := by have := hwf.len; have := hwf.max; omega
  clear hc hdn hb hbl hwf h
  go_enter Tryd.func51, Tryd.ntmps51
  go_wp2_with fail
  (with_reducible refine HC.out.mono ?_)
  rintro e w1 ⟨rfl, rfl⟩
  go_wp2_with fail
  (with_reducible refine HD.out.mono ?_)
  rintro e w1 ⟨rfl, d1, f1⟩
  have D1 := Lib.hid d1
  have F1 := Lib.hid f1
  clear d1 f1
  go_wp2_with (refine wpList_copy_sector w1 rfl (.tmp 24) (.tmp 25) rfl k (List.replicate 64 0) (by simp) _ b rfl rfl ((HB.out.fr F1.out).tt ((Fr.refl _ _).alloc _)) (by have := HBL.out; omega) ?_)
  go_frame
  have e1 : b ++ List.drop b.length (List.replicate 64 0) = pad b := by rw [List.drop_replicate]; rfl
  rw [e1]
  have hpl : (pad b).length = 64 := by simp [pad]; have := HBL.out; omega
  have HPL := Lib.hid hpl
  have d2 := D1.out.tt ((Fr.refl _ _).alloc (.cells (wA k (pad b)) 107 (0, 0)))
  have t2 := heap_alloc_new w1 (.cells (wA k (pad b)) 107 (0, 0))
  have F2 := Lib.hid (F1.out.alloc (.cells (wA k (pad b)) 107 (0, 0)))
  have hsz : w.heap.size ≤ w1.heap.size := F1.out.size
  generalize w1.alloc (.cells (wA k (pad b)) 107 (0, 0)) = w2 at d2 t2 F2 ⊢
  go_wp2
  refine wp_region_still_tail 8 (by kernel_rfl) (by kernel_rfl) ?_
  simp only [List.take_succ_cons, List.take_zero, List.drop_succ_cons, List.drop_zero]
  change wpStill Tryd.prog _ w2.drew (fun a' => wpList Tryd.prog _ _ _ a' w2.drew) _ _
  have d3 : Dsk w2.drew bd F D.burn := d2.tt (Fr.refl _ _).drew
  have t3 : w2.drew.heap[w1.heap.size]? = some (.cells (wA k (pad b)) 107 (0, 0)) := t2
  have F3 := Lib.hid F2.out.drew
  clear d2 t2 F2
  generalize w2.drew = w3 at d3 t3 F3 ⊢
  obtain ⟨vs, vu, vp, d3, hF⟩ := d3
  obtain ⟨gs, cs, rfl, hcs, hgl⟩ := row_form d3.seen (by show 0 < D.seen.length; omega)
  have T3 := Lib.hid t3
  have D3 := Lib.hid d3
  have c0 : w3.cell? ⟨bd, 0, none⟩ = some (.slice (some ⟨gs, 0, none⟩) D.seen.length cs) := cell_mk d3.top rfl
  have l93 : ldAt Tryd.prog 105 w3 (.pointer (some ⟨w1.heap.size, 1, none⟩)) = .ok (.agg (secC (pad b))) w3 := ldSec_at (range_wA1 t3) hpl
  have s93 : stAt Tryd.prog 105 w3 (.pointer (some ⟨gs, k * 64, none⟩)) (.agg (secC (pad b))) = .ok () (w3.setCells gs (k * 64) ((pad b).map byteV)) := stSec_at (row_there d3.seen k hk) hpl
  clear t3 d3 e1 hpl HC HD HB hst
  repeat still_step
  refine wpStill_load_mid rfl 105 (.tmp 32) rfl w1.heap.size 1 rfl (secC (pad b)) _ (range_wA1 T3.out) Tryd.underlying105 rfl (by rw [size_sector, secC_size, HPL.out]) ?_
  go_frame
  repeat still_step
  refine wpStill_nil ?_
  go_wp2_with (refine wpList_store_mid rfl 105 (.tmp 34) (.tmp 33) rfl gs (k * 64) (secC (pad b)) rfl rfl (by rw [secC_size, HPL.out]; exact row_there D3.out.seen k hk) (by rw [size_sector, secC_size, HPL.out]) (secC_one _) ?_)
  go_frame
  have e2 : (secC (pad b)).toList = (pad b).map byteV := rfl
  rw [e2]
  have hgm : gs ≠ w1.heap.size := fun e => by
    have := D3.out.seen.2
    rcases this with ⟨h, _⟩ | ⟨g, _, _, h, _, hg, _⟩
    · cases h
    · cases h; rw [e, T3.out] at hg; cases hg
  have hgb : bd ≠ gs := fun e => by
    rcases D3.out.seen.2 with ⟨h, _⟩ | ⟨g, _, _, h, _, hg, _⟩
    · cases h
    · cases h; rw [← e, D3.out.top] at hg; cases hg
  have T4 : (w3.setCells gs (k * 64) ((pad b).map byteV)).heap[w1.heap.size]? = some (.cells (wA k (pad b)) 107 (0, 0)) := by rw [heap_setCells_ne _ (fun e => hgm e.symm)]; exact T3.out
  have U4 := heap_setCells_ne ((pad b).map byteV) (w := w3) (o := k * 64) hgb
  rw [D3.out.top] at U4
  have O4 := sec_set D3.out.seen (fun x hx => D3.out.wf.s64 x hx) k hk (pad b) HPL.out
  have G4 : Fr (fun c _ => c ≠ gs) w3 (w3.setCells gs (k * 64) ((pad b).map byteV)) := (Fr.refl _ _).setCells (fun _ _ h => h rfl) _ _
  generalize w3.setCells gs (k * 64) ((pad b).map byteV) = w4 at T4 U4 O4 G4 ⊢
  obtain ⟨ap, cp, rfl⟩ := own_form D3.out.pend
  have c2 : w4.cell? ⟨bd, 2, none⟩ = some (.slice ap D.pend.length cp) := cell_mk U4 rfl
  have f2 : w4.frozen? ⟨bd, 2, none⟩ = false := frozen_mk U4
  have hbl4 : bd < w4.heap.size := lt_of_some U4
  have hld : (shutLd 107 (.pointer (some ⟨w1.heap.size, 0, none⟩))).run Tryd.prog w4.drew = .ok (.agg (wA k (pad b))) w4.drew := ldWr_at (range_wA T4) HPL.out
  have T4' := Lib.hid T4
  have U4' := Lib.hid U4
  have O4' := Lib.hid O4
  have G4' := Lib.hid G4
  clear U4 O4 G4 e2 c0 hgm hgb l93 s93
  go_wp2
  have hbs := fun W => build_write W k (pad b) HPL.out
  have hpl : D.pend.length ≤ 1000000 := D3.out.wf.few
  have P4 : Hid (w4.ownsRow 0 107 65 (.slice ap D.pend.length cp) D.pend.length (flatW D.pend)) := ownsRow_fr D3.out.pend G4'.out (fun c o e _ => own_ne (e := 107) (e' := 105) D3.out.pend D3.out.seen (by decide) e rfl)
  clear T4
  have hpb : Hid ((Value.slice ap D.pend.length cp).ownBlock ≠ some bd) := fun q => by
    obtain ⟨cur, hc⟩ := own_tag P4.out q
    rw [U4'.out] at hc; cases hc
  go_region_law ((refine step_append_write _ rfl _ _ rfl _ _ (flatW D.pend) rfl (P4.out.alloc _).drew _ k (pad b) HPL.out rfl (heap_alloc_new w4 _) (by omega) ?_; intro g5 cap5 w5 hown5 hg5 hat5 hlt5; have t5 := Lib.hid (grown_block hg5 (heap_alloc_lt U4'.out _) hpb.out); have c5 : w5.cell? ⟨bd, 2, none⟩ = some (.slice ap D.pend.length cp) := cell_mk t5.out rfl; have f5 : w5.frozen? ⟨bd, 2, none⟩ = false := frozen_mk t5.out; have A5 := Lib.hid hat5; have O5 := Lib.hid hown5; have G5 := Lib.hid hg5; clear hat5 hown5 hg5))
  all_goals
    obtain ⟨r1, r2⟩ := dsk_write (D := D) F3.out D3.out hF.1 (hF.2.1 gs rfl) hF.2.2.1 hF.2.2.2 O4'.out G4'.out t5.out G5.out O5.out A5.out HPL.out hk hq
    have R1 := Lib.hid r1
    have R2 := Lib.hid r2
    clear r1 r2
    go_wp2
    go_ret
    exact ⟨rfl, R1.out, R2.out⟩
end Go.Proofs.YtcpbmempfeloaaaDoor
/- Package disk: Write, whole. -/
namespace Go.Proofs.YtcpbmempfeloaaaDoor
open Go.RowKit

def Dk.write (D : Dk) (i : Int) (b : List UInt8) : Int × Dk :=
  if ¬ (0 ≤ i ∧ i < D.sure.length) then (40, D) else if 64 < b.length then (2, D) else if D.burn.down then (43, D.burn) else (0, D.put i.toNat (pad b))

theorem Dsk.wide {w : World} {bd : Nat} {F : Nat → Prop} {D : Dk} (h : Dsk w bd F D) (n : Nat) : Dsk w bd (fun c => F c ∨ n ≤ c) D := h.mono fun _ h => .inl h

set_option maxRecDepth 100000 in
theorem write_out (w : World) (bd : Nat) (F : Nat → Prop) (D : Dk) (i : Int) (a : Option Addr) (len cap : Nat) (h : Dsk w bd F D) (hi : ¬ (0 ≤ i ∧ i < D.sure.length)) :
    Calls Tryd.prog 51 #[.pointer (some ⟨bd, 0, none⟩), .int .i64 i, .slice a len cap] w fun e w' => e = .returned (.int .i64 40) ∧ w = w' := by
  have hc := has_calls w bd F D i h
  rw [show decide (0 ≤ i ∧ i < (D.sure.length : Int)) = false from by simpa using hi] at hc
  have HC := Lib.hid hc
  clear hc h hi
  go_enter Tryd.func51, Tryd.ntmps51
  go_wp2_with fail
  (with_reducible refine HC.out.mono ?_)
  rintro e w1 ⟨rfl, rfl⟩
  go_wp2
  go_ret
  exact ⟨rfl, rfl⟩

set_option maxRecDepth 100000 in
theorem write_long (w : World) (bd : Nat) (F : Nat → Prop) (D : Dk) (i : Int) (a : Option Addr) (len cap : Nat) (h : Dsk w bd F D) (hi : 0 ≤ i ∧ i < D.sure.length) (hl : 64 < len) :
    Calls Tryd.prog 51 #[.pointer (some ⟨bd, 0, none⟩), .int .i64 i, .slice a len cap] w fun e w' => e = .returned (.int .i64 2) ∧ w = w' := by
  have hc := has_calls w bd F D i h
  rw [show decide (0 ≤ i ∧ i < (D.sure.length : Int)) = true from by simpa using hi] at hc
  have HC := Lib.hid hc
  have hl' : (64 : Int) < len := by omega
  clear hc h hi
  go_enter Tryd.func51, Tryd.ntmps51
  go_wp2_with fail
  (with_reducible refine HC.out.mono ?_)
  rintro e w1 ⟨rfl, rfl⟩
  go_wp2
  go_ret
  exact ⟨rfl, rfl⟩

set_option maxRecDepth 100000 in
theorem write_down (w : World) (bd : Nat) (F : Nat → Prop) (D : Dk) (i : Int) (a : Option Addr) (len cap : Nat) (h : Dsk w bd F D) (hi : 0 ≤ i ∧ i < D.sure.length) (hl : len ≤ 64) (hd : D.burn.down = true) :
    Calls Tryd.prog 51 #[.pointer (some ⟨bd, 0, none⟩), .int .i64 i, .slice a len cap] w fun e w' => e = .returned (.int .i64 43) ∧ Dsk w' bd F D.burn ∧ Fr (fun c _ => c ≠ bd) w w' := by
  have hc := has_calls w bd F D i h
  rw [show decide (0 ≤ i ∧ i < (D.sure.length : Int)) = true from by simpa using hi] at hc
  have HC := Lib.hid hc
  have hl' : (len : Int) ≤ 64 := by omega
  have hdn := done_disk w bd F D h
  rw [hd] at hdn
  have HD := Lib.hid hdn
  clear hc h hi hdn
  go_enter Tryd.func51, Tryd.ntmps51
  go_wp2_with fail
  (with_reducible refine HC.out.mono ?_)
  rintro e w1 ⟨rfl, rfl⟩
  go_wp2_with fail
  (with_reducible refine HD.out.mono ?_)
  rintro e w1 ⟨rfl, d1, f1⟩
  have D1 := Lib.hid d1
  have F1 := Lib.hid f1
  clear d1 f1
  go_wp2
  go_ret
  exact ⟨rfl, D1.out, F1.out⟩

/-- disk.Write. -/
theorem write_calls {K : Nat → Obj → Prop} (w : World) (bd : Nat) (F : Nat → Prop) (D : Dk) (i : Int) (v : Value) (b : List UInt8) (h : Dsk w bd F D) (hb : BytesAt K w v b) (hK : ∀ c o, w.heap[c]? = some o → K c o → ¬ F c) (hq : D.pend.length < 1000000) :
    Calls Tryd.prog 51 #[.pointer (some ⟨bd, 0, none⟩), .int .i64 i, v] w fun e w' => e = .returned (.int .i64 (D.write i b).1) ∧ Dsk w' bd (fun c => F c ∨ w.heap.size ≤ c) (D.write i b).2 ∧ Fr (fun c _ => ¬ F c) w w' := by
  obtain ⟨a, cap, rfl⟩ := hb.form
  have hFb : F bd := by obtain ⟨_, _, _, _, h1, _⟩ := h; exact h1
  unfold Dk.write
  by_cases hi : 0 ≤ i ∧ i < D.sure.length
  · rw [if_neg (by simpa using hi)]
    by_cases hl : 64 < b.length
    · rw [if_pos hl]
      exact (write_long w bd F D i a b.length cap h hi hl).mono fun e w' ⟨he, hw⟩ => ⟨he, hw ▸ h.wide _, hw ▸ Fr.refl _ _⟩
    · rw [if_neg hl]
      cases hd : D.burn.down with
      | true =>
        exact (write_down w bd F D i a b.length cap h hi (by omega) hd).mono fun e w' ⟨he, hd, hf⟩ => ⟨he, hd.wide _, hf.mono fun c _ hc e => hc (e ▸ hFb)⟩
      | false =>
        obtain ⟨k, rfl⟩ := Int.eq_ofNat_of_zero_le hi.1
        have hk : k < D.seen.length := by have := h.wf.len; omega
        have := write_main w bd F D k a b.length cap b h hk hb (fun c o hc hk e => hK c o hc hk (e ▸ hFb)) (by omega) hd hq
        simpa using this
  · rw [if_pos hi]
    exact (write_out w bd F D i a b.length cap h hi).mono fun e w' ⟨he, hw⟩ => ⟨he, hw ▸ h.wide _, hw ▸ Fr.refl _ _⟩

end Go.Proofs.YtcpbmempfeloaaaDoor
/- Package disk: Sync. -/
namespace Go.Proofs.YtcpbmempfeloaaaDoor
open Go.RowKit

def laySure (s : List (List UInt8)) (l : List (Nat × List UInt8)) : List (List UInt8) := l.foldl (fun s x => s.set x.1 x.2) s
theorem laySure_snoc (s : List (List UInt8)) (l : List (Nat × List UInt8)) (x : Nat × List UInt8) : laySure s (l ++ [x]) = (laySure s l).set x.1 x.2 := by simp [laySure]
theorem laySure_length (l : List (Nat × List UInt8)) : ∀ s : List (List UInt8), (laySure s l).length = s.length := by
  induction l with
  | nil => intro s; rfl
  | cons x l ih => intro s; show (laySure (s.set x.1 x.2) l).length = _; rw [ih, List.length_set]
theorem laySure_64 (l : List (Nat × List UInt8)) : ∀ s : List (List UInt8), (∀ x ∈ s, x.length = 64) → (∀ x ∈ l, x.2.length = 64) → ∀ x ∈ laySure s l, x.length = 64 := by
  induction l with
  | nil => intro s h _; exact h
  | cons y l ih =>
    intro s h hl
    refine ih _ (fun x hx => ?_) (fun x hx => hl x (by simp [hx]))
    rcases List.mem_or_eq_of_mem_set hx with h1 | h1
    · exact h x h1
    · rw [h1]; exact hl y (by simp)
def Dk.sync (D : Dk) : Dk := if D.burn.down then D.burn else { D.burn with sure := laySure D.sure D.pend, pend := [] }

theorem mem65 {l : List (Nat × List UInt8)} (h : ∀ x ∈ l, x.2.length = 64) : ∀ x ∈ l.map cellsW, x.length = 65 := by
  intro x hx
  obtain ⟨y, hy, rfl⟩ := List.mem_map.1 hx
  simp [cellsW, h y hy]
theorem wr_form {w : World} {e : TypeId} {v : Value} {l : List (Nat × List UInt8)} (h : w.ownsRow 0 e 65 v l.length (flatW l)) (h1 : 0 < l.length) : ∃ g cap, v = .slice (some ⟨g, 0, none⟩) l.length cap ∧ l.length ≤ cap ∧ g < w.heap.size := by
  rcases h.2 with ⟨_, h0⟩ | ⟨g, cap, cur, hv, hb, hg, hc, _⟩
  · omega
  · exact ⟨g, cap, hv, hc, lt_of_some hg⟩
theorem wr_range {w : World} {e : TypeId} {g cap : Nat} {l : List (Nat × List UInt8)} (h : w.ownsRow 0 e 65 (.slice (some ⟨g, 0, none⟩) l.length cap) l.length (flatW l)) (hl : ∀ x ∈ l, x.2.length = 64) (i : Nat) (hi : i < l.length) : w.rangeAt g (i * 65) (cellsW l[i]) := by
  have := row_range (l := l.map cellsW) h (mem65 hl) i (by simpa using hi) (by decide)
  simpa using this
theorem store_copy (W : World) (k : Nat) (x : List UInt8) (hx : x.length = 64) : (storeCells ⟨W.heap.size, 0, none⟩ (wA k x).toList).run Tryd.prog (W.alloc (.cells Tryd.zeroCells107 107)) = .ok () (W.alloc (.cells (wA k x) 107 (0, 0))) :=
  run_storeCells_new W 107 _ (wA k x) (by rw [size_write, wA_size, hx]) (by rw [zero_write, wA_size, wA_size, hx]; rfl) (wA_one _ _)
theorem shutSec (v : Value) : Instr.loadAt 105 v = shutLd 105 v := rfl

/-- A disk whose sure row is written at a place. -/
theorem DskAt.setSure {w : World} {bd gu cu : Nat} {vs vp : Value} {D : Dk} (h : DskAt w bd vs (.slice (some ⟨gu, 0, none⟩) D.sure.length cu) vp D) (k : Nat) (hk : k < D.sure.length) (x : List UInt8) (hx : x.length = 64) :
    DskAt (w.setCells gu (k * 64) (x.map byteV)) bd vs (.slice (some ⟨gu, 0, none⟩) D.sure.length cu) vp { D with sure := D.sure.set k x } := by
  have hf : Fr (fun c _ => c ≠ gu) w (w.setCells gu (k * 64) (x.map byteV)) := (Fr.refl _ _).setCells (fun _ _ h => h rfl) _ _
  have hbd : bd ≠ gu := fun e => by
    obtain ⟨cur, hc⟩ := own_tag h.sure (c := gu) rfl
    rw [← e, h.top] at hc; cases hc
  refine ⟨hf.keep _ _ h.top hbd, ownsRow_fr h.seen hf (fun c _ e _ q => h.apart c e (q ▸ rfl)), ?_, ownsRow_fr h.pend hf (fun c _ e _ => own_ne (e := 107) (e' := 105) h.pend h.sure (by decide) e rfl), h.apart, ?_⟩
  · have := sec_set h.sure h.wf.u64 k hk x hx
    show World.ownsRow _ 0 _ 64 _ (D.sure.set k x).length (flatS (D.sure.set k x))
    rw [List.length_set]; exact this
  · refine { h.wf with len := ?_, one := ?_, max := ?_, u64 := ?_, p64 := ?_ }
    · show _ = (D.sure.set k x).length; rw [List.length_set]; exact h.wf.len
    · show _ ≤ (D.sure.set k x).length; rw [List.length_set]; exact h.wf.one
    · show (D.sure.set k x).length ≤ _; rw [List.length_set]; exact h.wf.max
    · intro y hy
      rcases List.mem_or_eq_of_mem_set hy with h1 | h1
      · exact h.wf.u64 y h1
      · rw [h1]; exact hx
    · intro y hy
      show y.1 < (D.sure.set k x).length ∧ _
      rw [List.length_set]; exact h.wf.p64 y hy
theorem DskAt.setSure' {w : World} {bd gu cu n : Nat} {vs vp : Value} {D : Dk} (h : DskAt w bd vs (.slice (some ⟨gu, 0, none⟩) n cu) vp D) (hn : D.sure.length = n) (k : Nat) (hk : k < n) (x : List UInt8) (hx : x.length = 64) :
    DskAt (w.setCells gu (k * 64) (x.map byteV)) bd vs (.slice (some ⟨gu, 0, none⟩) n cu) vp { D with sure := D.sure.set k x } := by
  subst hn
  exact h.setSure k hk x hx
theorem DskAt.tt {w w' : World} {bd : Nat} {vs vu vp : Value} {D : Dk} (h : DskAt w bd vs vu vp D) (hf : Fr (fun _ _ => True) w w') : DskAt w' bd vs vu vp D :=
  ⟨hf.keep _ _ h.top trivial, ownsRow_fr h.seen hf (fun _ _ _ _ => trivial), ownsRow_fr h.sure hf (fun _ _ _ _ => trivial), ownsRow_fr h.pend hf (fun _ _ _ _ => trivial), h.apart, h.wf⟩

attribute [local go_sem ↓] shutWr shutSec

set_option maxRecDepth 100000 in
set_option maxHeartbeats 1000000 in
theorem sync_main (w : World) (bd : Nat) (F : Nat → Prop) (D : Dk) (h : Dsk w bd F D) (hd : D.burn.down = false) :
    Calls Tryd.prog 40 #[.pointer (some ⟨bd, 0, none⟩)] w fun e w' => e = .returned (.tuple #[]) ∧ Dsk w' bd (fun c => F c ∨ w.heap.size ≤ c) { D.burn with sure := laySure D.sure D.pend, pend := [] } ∧ Fr (fun c _ => ¬ F c) w w' := by
  have hdn := done_disk w bd F D h
  rw [hd] at hdn
  have HD := Lib.hid hdn
  have hFb : F bd := by obtain ⟨_, _, _, _, h1, _⟩ := h; exact h1
  clear hdn h hd
  go_enter Tryd.func40, Tryd.ntmps40
  go_wp2_with fail
  (with_reducible refine HD.out.mono ?_)
  rintro e w1 ⟨rfl, d1, f1⟩
  obtain ⟨vs, vu, vp, d1, hF⟩ := d1
  obtain ⟨gu, cu, rfl, hcu, hgl⟩ := row_form d1.sure (by have := d1.wf.one; omega)
  obtain ⟨ap, cp, rfl⟩ := own_form d1.pend
  have D1 := Lib.hid d1
  have F1 : Hid (Fr (fun c _ => ¬ F c) w w1) := f1.mono fun c _ hc e => hc (e ▸ hFb)
  have hsl : D.sure.length ≤ 512 := d1.wf.max
  have hpl : D.pend.length ≤ 1000000 := d1.wf.few
  have HC := Lib.hid (show D.sure.length ≤ cu from hcu)
  have c2 : w1.cell? ⟨bd, 2, none⟩ = some (.slice ap D.pend.length cp) := cell_mk d1.top rfl
  clear d1 f1 HD hcu
  go_wp2
  go_loopw [12] (fun i wr => ∃ j : Nat, j ≤ D.pend.length ∧ i = .int .i64 j ∧ DskAt wr bd vs (.slice (some ⟨gu, 0, none⟩) D.sure.length cu) (.slice ap D.pend.length cp) { D.burn with sure := laySure D.sure (D.pend.take j) } ∧ Fr (fun c _ => ¬ F c) w wr) (fun i _ => D.pend.length - (intOf i).toNat)
  case atStart => exact ⟨0, Nat.zero_le _, rfl, D1.out, F1.out⟩
  case round =>
    obtain ⟨j, hj, rfl, hdj, hfj⟩ := hrel
    have DJ := Lib.hid hdj
    have FJ := Lib.hid hfj
    clear hdj hfj c2 D1 F1
    by_cases hlt : j < D.pend.length
    · have hp64 := DJ.out.wf.p64
      obtain ⟨gp, cp', he, hcp, _⟩ := wr_form DJ.out.pend (by show 0 < D.pend.length; omega)
      cases he
      have hr := wr_range DJ.out.pend (fun x hx => (DJ.out.wf.p64 x hx).2) j hlt
      have hx64 : (D.pend[j]).2.length = 64 := (DJ.out.wf.p64 _ (List.getElem_mem hlt)).2
      have hxk : (D.pend[j]).1 < D.sure.length := by
        have := (DJ.out.wf.p64 _ (List.getElem_mem hlt)).1
        have e : (laySure D.sure (D.pend.take j)).length = D.sure.length := laySure_length _ _
        show D.pend[j].1 < D.sure.length
        rw [← e]; exact this
      have hnx : Hid (laySure D.sure (D.pend.take (j + 1)) = (laySure D.sure (D.pend.take j)).set D.pend[j].1 D.pend[j].2) := by
        rw [List.take_succ_eq_append_getElem hlt, laySure_snoc]; rfl
      have hld : (shutLd 107 (.pointer (some ⟨gp, j * 65, none⟩))).run Tryd.prog wr = .ok (.agg (wA D.pend[j].1 D.pend[j].2)) wr := ldWr_at (k := D.pend[j].1) (bs := D.pend[j].2) hr hx64
      generalize hxx : D.pend[j].1 = k at hld hnx hxk
      generalize hyy : D.pend[j].2 = x at hld hnx hx64
      have hst := fun W => store_copy W k x hx64
      have HX := Lib.hid hx64
      clear hxx hyy hr hp64 hx64
      have h65 : (wA k x).size = 65 := by rw [wA_size, HX.out]
      go_wp2
      have d3 := DJ.out.tt ((Fr.refl _ _).alloc (.cells (wA k x) 107 (0, 0))).drew
      have t3 : (wr.alloc (.cells (wA k x) 107 (0, 0))).drew.heap[wr.heap.size]? = some (.cells (wA k x) 107 (0, 0)) := heap_alloc_new wr _
      have F3 := Lib.hid (FJ.out.alloc (.cells (wA k x) 107 (0, 0))).drew
      refine wp_region_still_tail 9 (by kernel_rfl) (by kernel_rfl) ?_
      simp only [List.take_succ_cons, List.take_zero, List.drop_succ_cons, List.drop_zero]
      change wpStill Tryd.prog _ (wr.alloc (.cells (wA k x) 107 (0, 0))).drew (fun a' => wpList Tryd.prog _ _ _ a' (wr.alloc (.cells (wA k x) 107 (0, 0))).drew) _ _
      generalize (wr.alloc (.cells (wA k x) 107 (0, 0))).drew = w3 at d3 t3 F3 ⊢
      have c1 : w3.cell? ⟨bd, 1, none⟩ = some (.slice (some ⟨gu, 0, none⟩) D.sure.length cu) := cell_mk d3.top rfl
      have c3 : w3.cell? ⟨wr.heap.size, 0, none⟩ = some (.int .i64 k) := cell_mk t3 rfl
      have l3 : (shutLd 105 (.pointer (some ⟨wr.heap.size, 1, none⟩))).run Tryd.prog w3 = .ok (.agg (secC x)) w3 := ldSec_at (range_wA1 t3) HX.out
      have D3 := Lib.hid d3
      clear d3 t3 hld hst h65 DJ FJ
      repeat still_step
      refine wpStill_nil ?_
      have hlen : (laySure D.sure (D.pend.take j)).length = D.sure.length := laySure_length _ _
      have O3 := D3.out.sure
      have O3' : w3.ownsRow 0 105 64 (.slice (some ⟨gu, 0, none⟩) D.sure.length cu) D.sure.length (flatS (laySure D.sure (D.pend.take j))) := by
        have e : (laySure D.sure (D.pend.take j)).length = D.sure.length := hlen
        rw [← e]
        rw [← e] at O3
        exact O3
      have TH := Lib.hid (row_there O3' k hxk)
      have D4 := Lib.hid (D3.out.setSure' hlen k hxk x HX.out)
      have F4 := Lib.hid (F3.out.setCells (g := gu) (fun _ _ h => h (hF.2.2.1 gu rfl)) (k * 64) (x.map byteV))
      clear O3 O3' hlen
      go_wp2_with (refine wpList_store_mid rfl 105 (.tmp 24) (.tmp 23) rfl gu (k * 64) (secC x) rfl rfl (by rw [secC_size, HX.out]; exact TH.out) (by rw [size_sector, secC_size, HX.out]) (secC_one _) ?_)
      have e2 : (secC x).toList = x.map byteV := rfl
      rw [e2]
      generalize w3.setCells gu (k * 64) (x.map byteV) = w4 at D4 F4 ⊢
      clear e2 c1 c3 l3
      go_wp2
      go_roundw
      case rel =>
        refine ⟨j + 1, by omega, by go_num, ?_, F4.out⟩
        rw [hnx.out]
        exact D4.out
      case measure => simp [intOf]; omega
    · have e1 : D.pend.take j = D.pend := List.take_of_length_le (by omega)
      have dj := DJ.out
      rw [e1] at dj
      have f2 := frozen_mk (i := 2) dj.top
      have c2 : wr.cell? ⟨bd, 2, none⟩ = some (.slice ap D.pend.length cp) := cell_mk dj.top rfl
      have hf6 : Fr (fun c _ => c ≠ bd) wr (wr.setCell ⟨bd, 2, none⟩ (.slice none 0 0)) := (Fr.refl _ _).setCell (fun _ _ h => h rfl) _
      have F6 := Lib.hid (FJ.out.setCell (p := ⟨bd, 2, none⟩) (fun _ _ h => h hFb) (.slice none 0 0))
      have D6 : Hid (Dsk (wr.setCell ⟨bd, 2, none⟩ (.slice none 0 0)) bd (fun c => F c ∨ w.heap.size ≤ c) { D.burn with sure := laySure D.sure D.pend, pend := [] }) := by
        refine ⟨vs, _, .slice none 0 0, ⟨heap_setCell_same dj.top _, ?_, ?_, ⟨rfl, .inl ⟨rfl, rfl⟩⟩, dj.apart, { dj.wf with p64 := (fun x hx => by cases hx), few := Nat.zero_le _ }⟩, .inl hFb, fun c e => .inl (hF.2.1 c e), fun c e => .inl (hF.2.2.1 c e), (fun c e => by cases e)⟩
        · refine ownsRow_setCell_ne (p := ⟨bd, 2, none⟩) dj.seen (fun q => ?_) _
          obtain ⟨cur, hc⟩ := own_tag dj.seen q
          rw [dj.top] at hc; cases hc
        · refine ownsRow_setCell_ne (p := ⟨bd, 2, none⟩) dj.sure (fun q => ?_) _
          obtain ⟨cur, hc⟩ := own_tag dj.sure q
          rw [dj.top] at hc; cases hc
      clear dj e1 hf6
      go_wp2
      go_end0
      exact ⟨rfl, D6.out, F6.out⟩

set_option maxRecDepth 100000 in
theorem sync_down (w : World) (bd : Nat) (F : Nat → Prop) (D : Dk) (h : Dsk w bd F D) (hd : D.burn.down = true) :
    Calls Tryd.prog 40 #[.pointer (some ⟨bd, 0, none⟩)] w fun e w' => e = .returned (.tuple #[]) ∧ Dsk w' bd F D.burn ∧ Fr (fun c _ => c ≠ bd) w w' := by
  have hdn := done_disk w bd F D h
  rw [hd] at hdn
  have HD := Lib.hid hdn
  clear hdn h hd
  go_enter Tryd.func40, Tryd.ntmps40
  go_wp2_with fail
  (with_reducible refine HD.out.mono ?_)
  rintro e w1 ⟨rfl, d1, f1⟩
  have D1 := Lib.hid d1
  have F1 := Lib.hid f1
  clear d1 f1
  go_wp2
  exact bodyPost_ret (results_none rfl _ _ _) rfl ⟨rfl, D1.out, F1.out⟩

/-- disk.Sync. -/
theorem sync_calls (w : World) (bd : Nat) (F : Nat → Prop) (D : Dk) (h : Dsk w bd F D) :
    Calls Tryd.prog 40 #[.pointer (some ⟨bd, 0, none⟩)] w fun e w' => e = .returned (.tuple #[]) ∧ Dsk w' bd (fun c => F c ∨ w.heap.size ≤ c) D.sync ∧ Fr (fun c _ => ¬ F c) w w' := by
  have hFb : F bd := by obtain ⟨_, _, _, _, h1, _⟩ := h; exact h1
  unfold Dk.sync
  cases hd : D.burn.down with
  | true =>
    rw [if_pos rfl]
    exact (sync_down w bd F D h hd).mono fun e w' ⟨he, hd, hf⟩ => ⟨he, hd.wide _, hf.mono fun c _ hc e => hc (e ▸ hFb)⟩
  | false =>
    rw [if_neg (by decide)]
    exact sync_main w bd F D h hd

end Go.Proofs.YtcpbmempfeloaaaDoor
/- slices.Clone of sectors and of pending writes. -/
namespace Go.Proofs.YtcpbmempfeloaaaDoor
open Go.RowKit

theorem src_of_own {w : World} {B : Nat} {e : TypeId} {size n : Nat} {g cap : Nat} {xs : List Value} (h : w.ownsRow B e size (.slice (some ⟨g, 0, none⟩) n cap) n xs) (h1 : ∀ u ∈ xs, u.oneCell' = true) : SrcAt w size (.slice (some ⟨g, 0, none⟩) n cap) n xs := by
  refine .inr ⟨⟨g, 0, none⟩, cap, rfl, h.1, fun j u hu => ?_, h1⟩
  have hj : j < xs.length := by
    rcases Nat.lt_or_ge j xs.length with q | q
    · exact q
    · rw [List.getElem?_eq_none q] at hu; cases hu
  have hc := h.cellAt j (by have := h.1; omega)
  rw [hu] at hc
  unfold Addr.add
  split
  · subst j; exact hc
  · simpa using hc

theorem SrcAt.tt {w w' : World} {size m : Nat} {x : Value} {xs : List Value} (h : SrcAt w size x m xs) (hf : Fr (fun _ _ => True) w w') : SrcAt w' size x m xs := by
  rcases h with h | ⟨ad, c, h1, h2, h3, h4⟩
  · exact .inl h
  · exact .inr ⟨ad, c, h1, h2, fun j u hu => hf.cell (fun _ _ => trivial) (h3 j u hu), h4⟩
theorem one_flatS (l : List (List UInt8)) : ∀ u ∈ flatS l, u.oneCell' = true := fun u hu => by
  obtain ⟨x, _, rfl⟩ := List.mem_map.1 hu; rfl
theorem one_flatW (l : List (Nat × List UInt8)) : ∀ u ∈ flatW l, u.oneCell' = true := fun u hu => by
  obtain ⟨x, hx, hu⟩ := List.mem_flatten.1 hu
  obtain ⟨y, _, rfl⟩ := List.mem_map.1 hx
  rcases List.mem_cons.1 hu with rfl | hu
  · rfl
  · obtain ⟨z, _, rfl⟩ := List.mem_map.1 hu; rfl
theorem zero_sec_size : (Value.agg (Array.replicate 64 (.int .u8 0))).cells.size = 64 := by simp [Value.cells]
theorem zero_wr_size : (Value.agg (wA 0 (List.replicate 64 0))).cells.size = 65 := by show (wA 0 (List.replicate 64 0)).size = 65; rw [wA_size]; simp

set_option maxRecDepth 100000 in
theorem clone_sec_some (w : World) (g n cap : Nat) (xs : List Value) (h : SrcAt w 64 (.slice (some ⟨g, 0, none⟩) n cap) n xs) (hm : n ≤ 1000000) :
    Calls Tryd.prog 53 #[.slice (some ⟨g, 0, none⟩) n cap] w fun e w' => (∃ v, e = .returned v ∧ w'.ownsRow w.heap.size 105 64 v n xs) ∧ Fr (fun _ _ => True) w w' := by
  have hq := fun (w : World) (a : Option Addr) (n c n' c' : Nat) => Lib.run_eql_slice_nil (P := Tryd.prog) w 100 105 a n c n' c' Tryd.underlying100
  obtain ⟨i0, hi, hz0, hz1, hz2⟩ := info_parts info_sector
  have hown : (w.alloc (.cells #[] 105)).ownsRow w.heap.size 105 64 (.slice (some ⟨w.heap.size, 0, none⟩) 0 0) 0 [] := World.ownsRow_lit w #[] 0 (Nat.le_refl _) (by simp) rfl
  have hsrc := Lib.hid (h.tt ((Fr.refl _ _).alloc (.cells #[] 105)))
  clear h
  go_enter Tryd.func53, Tryd.ntmps53
  go_wp2_with (at_builtin; refine wpList_append_src _ rfl _ _ 100 rfl w.heap.size 105 i0 (.agg (Array.replicate 64 (.int .u8 0))) 64 64 Tryd.underlying100 hi hz0 hz1 hz2 zero_sec_size (by decide) _ 0 [] rfl hown _ n xs rfl hsrc.out ?c2 ?c3 ?c4 ?_)
  case c2 => unfold maxLen; omega
  case c3 => omega
  case c4 => simp
  intro v w1 hown1 hg hnil
  go_wp2
  go_ret
  exact ⟨⟨v, rfl, by simpa using hown1⟩, (Fr.alloc (Fr.refl _ _) _).grown_new hg fun k e => by simp [Value.ownBlock] at e; omega⟩

set_option maxRecDepth 100000 in
theorem clone_sec_nil (w : World) : Calls Tryd.prog 53 #[.slice none 0 0] w fun e w' => e = .returned (.slice none 0 0) ∧ w = w' := by
  have hq := fun (w : World) (a : Option Addr) (n c n' c' : Nat) => Lib.run_eql_slice_nil (P := Tryd.prog) w 100 105 a n c n' c' Tryd.underlying100
  go_enter Tryd.func53, Tryd.ntmps53
  go_wp2
  go_ret
  exact ⟨rfl, rfl⟩
/-- slices.Clone of sectors. -/
theorem clone_sec (w : World) (v : Value) (l : List (List UInt8)) (h : w.ownsRow 0 105 64 v l.length (flatS l)) (hm : l.length ≤ 1000000) :
    Calls Tryd.prog 53 #[v] w fun e w' => (∃ v, e = .returned v ∧ w'.ownsRow w.heap.size 105 64 v l.length (flatS l)) ∧ Fr (fun _ _ => True) w w' := by
  rcases id h.2 with ⟨rfl, h0⟩ | ⟨g, cap, cur, rfl, _⟩
  · have e := List.length_eq_zero_iff.1 h0
    subst e
    exact (clone_sec_nil w).mono fun e w' ⟨he, hw⟩ => ⟨⟨_, he, rfl, .inl ⟨rfl, rfl⟩⟩, hw ▸ Fr.refl _ _⟩
  · exact clone_sec_some w g _ cap _ (src_of_own h (one_flatS l)) hm
end Go.Proofs.YtcpbmempfeloaaaDoor
