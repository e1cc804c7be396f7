/- Package disk: Write. -/
import Derived.Test.YtaeonlafcbgpcaaDoorDiskRead
import Derived.Test.YtaeonlafcbgpcaaDoorBuild
import Derived.Laws.CopyOwn
import Derived.Deep.WholeRow
import Derived.Maps.RangeWalk
import Derived.Deep.RegionHeldLaw
namespace Go.Proofs.YtaeonlafcbgpcaaDoor
open Go.RowKit

/-- A sector's bytes: what is written, and zeros. -/
def pad (b : List UInt8) : List UInt8 := b ++ List.replicate (64 - b.length) 0

theorem own_tag {w : World} {B : Nat} {e : TypeId} {size : Nat} {v : Value} {n : Nat} {xs : List Value} (h : w.ownsRow B e size v n xs) {c : Nat} (hc : v.ownBlock = some c) : ∃ cur, w.heap[c]? = some (.cells cur e (0, 0)) := by
  rcases h.2 with ⟨rfl, _⟩ | ⟨g, cap, cur, rfl, _, hg, _⟩
  · cases hc
  · cases hc; exact ⟨cur, hg⟩
theorem own_ne {w : World} {B B' : Nat} {e e' : TypeId} {size size' : Nat} {v v' : Value} {n n' : Nat} {xs xs' : List Value} (h : w.ownsRow B e size v n xs) (h' : w.ownsRow B' e' size' v' n' xs') (hne : e ≠ e') {c c' : Nat} (hc : v.ownBlock = some c) (hc' : v'.ownBlock = some c') : c ≠ c' := fun q => by
  obtain ⟨cur, h1⟩ := own_tag h hc
  obtain ⟨cur', h2⟩ := own_tag h' hc'
  rw [q, h2] at h1
  cases h1
  exact hne rfl

/-- A pending write's cells, as an array. -/
def wA (k : Nat) (bs : List UInt8) : Array Value := (cellsW (k, bs)).toArray
theorem wA_size (k : Nat) (bs : List UInt8) : (wA k bs).size = bs.length + 1 := by simp [wA, cellsW]
theorem wA_one (k : Nat) (bs : List UInt8) : ((wA k bs).all fun x => x.oneCell') = true := by
  refine Array.all_eq_true_iff_forall_mem.2 fun v hv => ?_
  simp only [wA, cellsW, List.mem_toArray, List.mem_cons, List.mem_map] at hv
  rcases hv with rfl | ⟨x, _, rfl⟩ <;> rfl

theorem zero_write : Tryd.zeroCells95 = wA 0 (List.replicate 64 0) := by kernel_rfl
theorem size_write : Option.map (fun (x : TypeInfo) => x.size) (Tryd.prog.info? 95) = some 65 := by kernel_rfl
theorem size_sector : Option.map (fun (x : TypeInfo) => x.size) (Tryd.prog.info? 93) = some 64 := by kernel_rfl
theorem size_byte : Option.map (fun (x : TypeInfo) => x.size) (Tryd.prog.info? 5) = some 1 := by kernel_rfl
/-- 'w := write{i: i}': the new block. -/
theorem store_write (W : World) (k : Nat) : (storeCells ⟨W.heap.size, 0, none⟩ (Tryd.zeroCells95.toList.set 0 (.int .i64 k))).run Tryd.prog (W.alloc (.cells Tryd.zeroCells95 95)) = .ok () (W.alloc (.cells (wA k (List.replicate 64 0)) 95 (0, 0))) := by
  have e : Tryd.zeroCells95.toList.set 0 (.int .i64 k) = (wA k (List.replicate 64 0)).toList := by rw [zero_write]; rfl
  rw [e]
  exact run_storeCells_new W 95 _ (wA k (List.replicate 64 0)) (by rw [size_write, wA_size]; rfl) (by rw [zero_write, wA_size, wA_size]) (wA_one _ _)

/-- A whole array read in a region that draws its order. -/
theorem wpStill_load_mid {P : Program} {ops : Array Oper} {rest : List Oper} {op : Oper} {a : Act} {w : World} {Q : Act → Prop} (hgd : op.guard = none) (ty : TypeId) (x : Operand) (ho : op.op = .load ty x)
    (b o : Nat) (hx : a.eval x = .pointer (some ⟨b, o, none⟩)) (cs : Array Value) (d : TypeDesc) (hc : w.rangeAt b o cs.toList)
    (hu : P.underlying ty = some d) (hd : d.isRow = true) (hi : (P.info? ty).map (·.size) = some cs.size)
    (h : wpStill P ops w Q rest (a.put op.dst (.agg cs))) : wpStill P ops w Q (op :: rest) a := by
  refine wpStill_step fun K hK => ?_
  have hw : Region.wanted op (yielded ops a.tmps) = true := by simp [Region.wanted, hgd]
  rw [if_pos hw]
  unfold Oper.still execOp
  have hr := run_loadVar_mid (P := P) w b o ty cs.toList d hc hu hd (by simpa using hi)
  simp only [ho, hx, Instr.loadAt, Instr.sureAddr, Sem.run_bind, Sem.run_pure, Result.andThen_ok, hr, Oper.stillUpon_value]
  exact hK _ h

/-- 'copy(w.b[:], b)'. -/
theorem wpList_copy_sector {K : Nat → Obj → Prop} {ops : Array Oper} {rest : List Oper} {o : Oper} {a : Act} {Q : Exit → Act → World → Prop} (W : World) (hgd : o.guard = none) (d s : Operand)
    (ho : o.op = .call { callee := .builtin .copy, args := #[d, s], argTypes := #[23, 23] }) (k : Nat) (z : List UInt8) (hz : z.length = 64) (v : Value) (b : List UInt8) (hd : a.eval d = .slice (some ⟨W.heap.size, 1, none⟩) 64 64) (hs : a.eval s = v)
    (hb : BytesAt K (W.alloc (.cells (wA k z) 95 (0, 0))) v b) (hl : b.length ≤ 64)
    (h : wpList Tryd.prog ops Q rest (a.put o.dst (goInt b.length)) (W.alloc (.cells (wA k (b ++ z.drop b.length)) 95 (0, 0)))) : wpList Tryd.prog ops Q (o :: rest) a (W.alloc (.cells (wA k z) 95 (0, 0))) := by
  obtain ⟨ao, cap, rfl⟩ := hb.form
  by_cases h0 : b.length = 0
  · have e := List.length_eq_zero_iff.1 h0
    subst e
    exact wpList_copy_nothing hgd d s _ _ ho 5 Tryd.underlying23 size_byte _ _ _ _ _ _ hd hs (by simp) (by simpa using h)
  · have hsrc := hb.src
    obtain ⟨bk, off, rfl⟩ := hb.addr (by omega)
    rcases hsrc with ⟨he, _⟩ | ⟨ad, c, he, _, hc, h1⟩
    · cases he
    · cases he
      refine wpList_copy_own hgd d s _ _ ho 5 Tryd.underlying23 size_byte W.heap.size 1 64 64 ⟨bk, off, none⟩ b.length cap hd hs (wA k z) 95 (heap_alloc_new _ _) (b.map byteV) (by rw [List.length_map]; exact (Nat.min_eq_left hl).symm) hc (by rw [wA_size, List.length_map]; omega) h1 ?_
      rw [World.setRow_alloc_new]
      have e : ((wA k z).toList.take 1 ++ (b.map byteV ++ (wA k z).toList.drop (1 + (b.map byteV).length))).toArray = wA k (b ++ z.drop b.length) := by
        simp only [wA, cellsW, List.length_map, List.take_succ_cons, List.take_zero, List.map_append, List.map_drop]
        rw [Nat.add_comm 1, List.drop_succ_cons]
        rfl
      rw [e, List.length_map]
      exact h

/- Whole arrays that are read and written: kept shut in the walk. -/
def shutLd (t : TypeId) (v : Value) : Sem Value := Instr.loadAt t v
theorem info_write : (Tryd.prog.info? 95).map (fun i => (i.zero, i.size, i.bytes)) = some (some (.agg (wA 0 (List.replicate 64 0))), 65, 72) := by kernel_rfl
theorem shutB (n : Nat) (ps : Array (Nat × Value)) : Instr.buildSlice 89 n ps = shutBs 89 n ps := rfl
theorem build_write (W : World) (k : Nat) (bs : List UInt8) (hb : bs.length = 64) : (shutBs 89 1 #[(0, .agg (wA k bs))]).run Tryd.prog W = .ok (.slice (some ⟨W.heap.size, 0, none⟩) 1 1) (W.alloc (.cells (wA k bs) 95 (0, 0))) := by
  obtain ⟨i0, hi, hz0, hz1, hz2⟩ := info_parts info_write
  exact build_one W 89 95 65 (wA k bs) (wA 0 (List.replicate 64 0)) Tryd.underlying89 (by rw [hi, Option.map_some, hz0, hz1]) (by rw [wA_size, hb]) (by decide) (by decide)
/-- 'append(pending, w)', at a step of a region that draws its order. -/
theorem step_append_write {ops : Array Oper} {o : Oper} {a : Act} {K : Act → World → Prop} {Q : Exit → Act → World → Prop} {E : Prop} (W : World) (hgd : o.guard = none) (s x : Operand)
    (ho : o.op = .call { callee := .builtin .append, args := #[s, x], argTypes := #[89, 89] }) (v : Value) (n : Nat) (xs : List Value) (hs : a.eval s = v) (hown : W.ownsRow 0 95 65 v n xs)
    (B : Nat) (k : Nat) (bs : List UInt8) (hbs : bs.length = 64) (hx : a.eval x = .slice (some ⟨B, 0, none⟩) 1 1) (hb : W.heap[B]? = some (.cells (wA k bs) 95 (0, 0))) (hn : n ≤ 2000000)
    (h : ∀ g cap w', w'.ownsRow 0 95 65 (.slice (some ⟨g, 0, none⟩) (n + 1) cap) (n + 1) (xs ++ cellsW (k, bs)) → W.grownBy w' v.ownBlock → (v.ownBlock = some g ∨ g = W.heap.size) → g < w'.heap.size → K (a.put o.dst (.slice (some ⟨g, 0, none⟩) (n + 1) cap)) w') :
    if Region.wanted o (yielded ops a.tmps) = true then Oper.wp Tryd.prog o a W K Q else E := by
  obtain ⟨i0, hi, hz0, hz1, hz2⟩ := info_parts info_write
  refine step_append_lies W hgd s x 89 ho 0 95 i0 (.agg (wA 0 (List.replicate 64 0))) 65 72 Tryd.underlying89 hi hz0 hz1 hz2 (by show (wA 0 (List.replicate 64 0)).size = 65; rw [wA_size]; simp) (by decide) v n xs hs hown ⟨B, 0, none⟩ 1 1 (cellsW (k, bs)) hx (by simp [cellsW, hbs])
    (World.news_of_block hb) (fun u hu => ?_) (by decide) (by unfold maxLen; omega) (by omega) (Nat.zero_le _) _ rfl h
  rcases List.mem_cons.1 hu with rfl | hu
  · rfl
  · obtain ⟨y, _, rfl⟩ := List.mem_map.1 hu; rfl
theorem shutWr (v : Value) : Instr.loadAt 95 v = shutLd 95 v := rfl
def ldAt (P : Program) (t : TypeId) (W : World) (v : Value) : Result Value := (Instr.loadAt t v).run P W
def stAt (P : Program) (t : TypeId) (W : World) (p v : Value) : Result Unit := (Instr.storeAt t p v).run P W
theorem ldSec_eq (W : World) (v : Value) : (Instr.loadAt 93 v).run Tryd.prog W = ldAt Tryd.prog 93 W v := rfl
theorem ldWr_eq (W : World) (v : Value) : (Instr.loadAt 95 v).run Tryd.prog W = ldAt Tryd.prog 95 W v := rfl
theorem stSec_eq (W : World) (p v : Value) : (Instr.storeAt 93 p v).run Tryd.prog W = stAt Tryd.prog 93 W p v := rfl
/-- A sector's cells, as an array. -/
def secC (bs : List UInt8) : Array Value := (bs.map byteV).toArray
theorem secC_size (bs : List UInt8) : (secC bs).size = bs.length := by simp [secC]
theorem secC_one (bs : List UInt8) : (secC bs).all (·.oneCell') = true := all_oneCell_toArray fun v hv => by
  obtain ⟨x, _, rfl⟩ := List.mem_map.1 hv; rfl
theorem ldSec_at {W : World} {m o : Nat} {bs : List UInt8} (h : W.rangeAt m o (bs.map byteV)) (hl : bs.length = 64) : ldAt Tryd.prog 93 W (.pointer (some ⟨m, o, none⟩)) = .ok (.agg (secC bs)) W :=
  run_loadAt_mid W m o 93 (bs.map byteV) _ h Tryd.underlying93 rfl (by rw [size_sector, List.length_map, hl])
theorem ldWr_at {W : World} {m o : Nat} {k : Nat} {bs : List UInt8} (h : W.rangeAt m o (cellsW (k, bs))) (hl : bs.length = 64) : ldAt Tryd.prog 95 W (.pointer (some ⟨m, o, none⟩)) = .ok (.agg (wA k bs)) W :=
  run_loadAt_mid W m o 95 (cellsW (k, bs)) _ h Tryd.underlying95 rfl (by rw [size_write]; simp [cellsW, hl])
theorem stSec_at {W : World} {g o : Nat} {bs : List UInt8} (h : W.there g o 64) (hl : bs.length = 64) : stAt Tryd.prog 93 W (.pointer (some ⟨g, o, none⟩)) (.agg (secC bs)) = .ok () (W.setCells g o (bs.map byteV)) :=
  run_storeAt_mid W g o 93 (secC bs) (by rw [secC_size, hl]; exact h) (by rw [size_sector, secC_size, hl]) (secC_one bs)
theorem range_wA {W : World} {m k : Nat} {bs : List UInt8} (h : W.heap[m]? = some (.cells (wA k bs) 95 (0, 0))) : W.rangeAt m 0 (cellsW (k, bs)) := fun j v hv => by
  rw [Nat.zero_add]; exact cell_mk h (by simpa [wA] using hv)
theorem range_wA1 {W : World} {m k : Nat} {bs : List UInt8} (h : W.heap[m]? = some (.cells (wA k bs) 95 (0, 0))) : W.rangeAt m 1 (bs.map byteV) := fun j v hv => by
  refine cell_mk h ?_
  rw [Nat.add_comm]
  simpa [wA, cellsW] using hv

/-- A write is pending. -/
def Dk.put (D : Dk) (k : Nat) (x : List UInt8) : Dk := { D.burn with seen := D.seen.set k x, pend := D.pend ++ [(k, x)] }
theorem Dk.burn_ok {D : Dk} (h : D.burn.ok) : True := trivial
theorem flatW_snoc (l : List (Nat × List UInt8)) (x : Nat × List UInt8) : flatW (l ++ [x]) = flatW l ++ cellsW x := by simp [flatW]

/-- What a write leaves. -/
theorem dsk_write {w w3 w4 w5 : World} {bd gs g5 cs cp cap5 k : Nat} {ap : Option Addr} {vu : Value} {F : Nat → Prop} {D : Dk} {sb : List UInt8} {o : Obj} (F3 : Fr (fun c _ => c ≠ bd) w w3)
    (D3 : DskAt w3 bd (.slice (some ⟨gs, 0, none⟩) D.seen.length cs) vu (.slice ap D.pend.length cp) D.burn) (h1 : F bd) (h2 : F gs) (h3 : ∀ c, vu.ownBlock = some c → F c) (h4 : ∀ c, (Value.slice ap D.pend.length cp).ownBlock = some c → F c)
    (O4 : w4.ownsRow 0 93 64 (.slice (some ⟨gs, 0, none⟩) D.seen.length cs) D.seen.length (flatS (D.seen.set k sb))) (G4 : Fr (fun c _ => c ≠ gs) w3 w4)
    (U5 : w5.heap[bd]? = some (.cells #[.slice (some ⟨gs, 0, none⟩) D.seen.length cs, vu, .slice ap D.pend.length cp, .int .i64 D.burn.fuse, .bool D.burn.down] 91 (0, 0)))
    (hg5 : (w4.alloc o).drew.grownBy w5 (Value.slice ap D.pend.length cp).ownBlock) (hown5 : w5.ownsRow 0 95 65 (.slice (some ⟨g5, 0, none⟩) (D.pend.length + 1) cap5) (D.pend.length + 1) (flatW D.pend ++ cellsW (k, sb)))
    (hat5 : (Value.slice ap D.pend.length cp).ownBlock = some g5 ∨ g5 = (w4.alloc o).drew.heap.size) (hsb : sb.length = 64) (hk : k < D.seen.length) (hq : D.pend.length < 1000000) :
    Dsk (w5.setCell ⟨bd, 2, none⟩ (.slice (some ⟨g5, 0, none⟩) (D.pend.length + 1) cap5)) bd (fun c => F c ∨ w.heap.size ≤ c) (D.put k sb) ∧ Fr (fun c _ => ¬ F c) w (w5.setCell ⟨bd, 2, none⟩ (.slice (some ⟨g5, 0, none⟩) (D.pend.length + 1) cap5)) := by
  have hbs : gs ≠ bd := fun e => by
    obtain ⟨cur, hc⟩ := own_tag D3.seen (c := gs) rfl
    rw [e, D3.top] at hc; cases hc
  have f4 : Fr (fun c _ => ¬ F c) w w4 := (F3.mono fun c _ h e => h (e ▸ h1)).trans (G4.mono fun c _ h e => h (e ▸ h2))
  have f5 : Fr (fun c _ => ¬ F c) w w5 := ((f4.alloc o).drew).grown hg5 fun c _ e _ h => h (h4 c e)
  have f6 : Fr (fun c _ => ¬ F c) w (w5.setCell ⟨bd, 2, none⟩ (.slice (some ⟨g5, 0, none⟩) (D.pend.length + 1) cap5)) := f5.setCell (fun _ _ h => h h1) _
  have k5 : Fr (fun c _ => (Value.slice ap D.pend.length cp).ownBlock ≠ some c) w4 w5 := (((Fr.refl _ _).alloc o).drew).grown hg5 fun c _ e _ h => h e
  have k6 : Fr (fun c _ => (Value.slice ap D.pend.length cp).ownBlock ≠ some c ∧ c ≠ bd) w4 (w5.setCell ⟨bd, 2, none⟩ (.slice (some ⟨g5, 0, none⟩) (D.pend.length + 1) cap5)) := (k5.mono fun _ _ h => h.1).setCell (fun _ _ h => h.2 rfl) _
  have hwf := D3.wf
  refine ⟨⟨.slice (some ⟨gs, 0, none⟩) D.seen.length cs, vu, .slice (some ⟨g5, 0, none⟩) (D.pend.length + 1) cap5, ⟨heap_setCell_same U5 _, ?_, ?_, ?_, D3.apart, ?_⟩, .inl h1, fun c e => .inl (by cases e; exact h2), fun c e => .inl (h3 c e), fun c e => ?_⟩, f6⟩
  · have e1 : (D.put k sb).seen = D.seen.set k sb := rfl
    rw [e1, List.length_set]
    exact ownsRow_fr O4 k6 fun c o' e _ => by
      cases e
      exact ⟨fun q => own_ne (e := 95) (e' := 93) D3.pend D3.seen (by decide) q rfl rfl, hbs⟩
  · have s4 := ownsRow_fr D3.sure G4 (fun c _ e _ q => D3.apart gs rfl (q ▸ e))
    refine ownsRow_fr s4 k6 fun c o' e hc => ⟨fun q => own_ne (e := 95) (e' := 93) D3.pend D3.sure (by decide) q e rfl, fun q => ?_⟩
    obtain ⟨cur, hc⟩ := own_tag D3.sure e
    rw [q, D3.top] at hc; cases hc
  · have e1 : (D.put k sb).pend = D.pend ++ [(k, sb)] := rfl
    rw [e1, flatW_snoc, List.length_append]
    refine ownsRow_setCell_ne (p := ⟨bd, 2, none⟩) hown5 (fun q => ?_) _
    obtain ⟨cur, hc⟩ := own_tag hown5 q
    rw [U5] at hc; cases hc
  · refine { hwf with len := ?_, s64 := ?_, p64 := ?_, few := ?_ }
    · show (D.seen.set k sb).length = _
      rw [List.length_set]; exact hwf.len
    · intro x hx
      rcases List.mem_or_eq_of_mem_set hx with h | h
      · exact hwf.s64 x h
      · rw [h]; exact hsb
    · intro x hx
      rcases List.mem_append.1 hx with h | h
      · exact hwf.p64 x h
      · rw [List.mem_singleton.1 h]
        exact ⟨by have := hwf.len; show k < D.sure.length; have : D.seen.length = D.sure.length := this; omega, hsb⟩
    · show (D.pend ++ [(k, sb)]).length ≤ 1000000
      rw [List.length_append, List.length_singleton]; omega
  · cases e
    rcases hat5 with h | h
    · exact .inl (h4 _ h)
    · refine .inr ?_
      have := f4.size
      have e2 : g5 = w4.heap.size + 1 := by simpa using h
      show w.heap.size ≤ g5
      omega

attribute [local go_sem ↓] shutWr shutB

set_option maxRecDepth 100000 in
set_option maxHeartbeats 1000000 in
theorem write_main {K : Nat → Obj → Prop} (w : World) (bd : Nat) (F : Nat → Prop) (D : Dk) (k : Nat) (a : Option Addr) (len cap : Nat) (b : List UInt8) (h : Dsk w bd F D) (hk : k < D.seen.length) (hb : BytesAt K w (.slice a len cap) b) (hKb : ∀ c o, w.heap[c]? = some o → K c o → c ≠ bd) (hl : len ≤ 64) (hd : D.burn.down = false) (hq : D.pend.length < 1000000) :
    Calls Tryd.prog 51 #[.pointer (some ⟨bd, 0, none⟩), .int .i64 k, .slice a len cap] w fun e w' => e = .returned (.int .i64 0) ∧ Dsk w' bd (fun c => F c ∨ w.heap.size ≤ c) (D.put k (pad b)) ∧ Fr (fun c _ => ¬ F c) w w' := by
  have hc := has_calls w bd F D k h
  have hwf := h.wf
  rw [show decide (0 ≤ (k : Int) ∧ (k : Int) < (D.sure.length : Int)) = true from by have := hwf.len; simp; omega] at hc
  have HC := Lib.hid hc
  have hdn := done_disk w bd F D h
  rw [hd] at hdn
  have HD := Lib.hid hdn
  have hl' : (len : Int) ≤ 64 := by omega
  have hbl := hb.len
  have HB := Lib.hid (hb.mono (K' := fun c _ => c ≠ bd) fun c o hc hk => hKb c o hc hk)
  have HBL := Lib.hid hbl
  have hst := fun W => store_write W k
  have hmax : D.seen.length ≤ 512 := by have := hwf.len; have := hwf.max; omega
  clear hc hdn hb hbl hwf h
  go_enter Tryd.func51, Tryd.ntmps51
  go_wp2_with fail
  (with_reducible refine HC.out.mono ?_)
  rintro e w1 ⟨rfl, rfl⟩
  go_wp2_with fail
  (with_reducible refine HD.out.mono ?_)
  rintro e w1 ⟨rfl, d1, f1⟩
  have D1 := Lib.hid d1
  have F1 := Lib.hid f1
  clear d1 f1
  go_wp2_with (refine wpList_copy_sector w1 rfl (.tmp 24) (.tmp 25) rfl k (List.replicate 64 0) (by simp) _ b rfl rfl ((HB.out.fr F1.out).tt ((Fr.refl _ _).alloc _)) (by have := HBL.out; omega) ?_)
  go_frame
  have e1 : b ++ List.drop b.length (List.replicate 64 0) = pad b := by rw [List.drop_replicate]; rfl
  rw [e1]
  have hpl : (pad b).length = 64 := by simp [pad]; have := HBL.out; omega
  have HPL := Lib.hid hpl
  have d2 := D1.out.tt ((Fr.refl _ _).alloc (.cells (wA k (pad b)) 95 (0, 0)))
  have t2 := heap_alloc_new w1 (.cells (wA k (pad b)) 95 (0, 0))
  have F2 := Lib.hid (F1.out.alloc (.cells (wA k (pad b)) 95 (0, 0)))
  have hsz : w.heap.size ≤ w1.heap.size := F1.out.size
  generalize w1.alloc (.cells (wA k (pad b)) 95 (0, 0)) = w2 at d2 t2 F2 ⊢
  go_wp2
  refine wp_region_still_tail 8 (by kernel_rfl) (by kernel_rfl) ?_
  simp only [List.take_succ_cons, List.take_zero, List.drop_succ_cons, List.drop_zero]
  change wpStill Tryd.prog _ w2.drew (fun a' => wpList Tryd.prog _ _ _ a' w2.drew) _ _
  have d3 : Dsk w2.drew bd F D.burn := d2.tt (Fr.refl _ _).drew
  have t3 : w2.drew.heap[w1.heap.size]? = some (.cells (wA k (pad b)) 95 (0, 0)) := t2
  have F3 := Lib.hid F2.out.drew
  clear d2 t2 F2
  generalize w2.drew = w3 at d3 t3 F3 ⊢
  obtain ⟨vs, vu, vp, d3, hF⟩ := d3
  obtain ⟨gs, cs, rfl, hcs, hgl⟩ := row_form d3.seen (by show 0 < D.seen.length; omega)
  have T3 := Lib.hid t3
  have D3 := Lib.hid d3
  have c0 : w3.cell? ⟨bd, 0, none⟩ = some (.slice (some ⟨gs, 0, none⟩) D.seen.length cs) := cell_mk d3.top rfl
  have l93 : ldAt Tryd.prog 93 w3 (.pointer (some ⟨w1.heap.size, 1, none⟩)) = .ok (.agg (secC (pad b))) w3 := ldSec_at (range_wA1 t3) hpl
  have s93 : stAt Tryd.prog 93 w3 (.pointer (some ⟨gs, k * 64, none⟩)) (.agg (secC (pad b))) = .ok () (w3.setCells gs (k * 64) ((pad b).map byteV)) := stSec_at (row_there d3.seen k hk) hpl
  clear t3 d3 e1 hpl HC HD HB hst
  repeat still_step
  refine wpStill_load_mid rfl 93 (.tmp 32) rfl w1.heap.size 1 rfl (secC (pad b)) _ (range_wA1 T3.out) Tryd.underlying93 rfl (by rw [size_sector, secC_size, HPL.out]) ?_
  go_frame
  repeat still_step
  refine wpStill_nil ?_
  go_wp2_with (refine wpList_store_mid rfl 93 (.tmp 34) (.tmp 33) rfl gs (k * 64) (secC (pad b)) rfl rfl (by rw [secC_size, HPL.out]; exact row_there D3.out.seen k hk) (by rw [size_sector, secC_size, HPL.out]) (secC_one _) ?_)
  go_frame
  have e2 : (secC (pad b)).toList = (pad b).map byteV := rfl
  rw [e2]
  have hgm : gs ≠ w1.heap.size := fun e => by
    have := D3.out.seen.2
    rcases this with ⟨h, _⟩ | ⟨g, _, _, h, _, hg, _⟩
    · cases h
    · cases h; rw [e, T3.out] at hg; cases hg
  have hgb : bd ≠ gs := fun e => by
    rcases D3.out.seen.2 with ⟨h, _⟩ | ⟨g, _, _, h, _, hg, _⟩
    · cases h
    · cases h; rw [← e, D3.out.top] at hg; cases hg
  have T4 : (w3.setCells gs (k * 64) ((pad b).map byteV)).heap[w1.heap.size]? = some (.cells (wA k (pad b)) 95 (0, 0)) := by rw [heap_setCells_ne _ (fun e => hgm e.symm)]; exact T3.out
  have U4 := heap_setCells_ne ((pad b).map byteV) (w := w3) (o := k * 64) hgb
  rw [D3.out.top] at U4
  have O4 := sec_set D3.out.seen (fun x hx => D3.out.wf.s64 x hx) k hk (pad b) HPL.out
  have G4 : Fr (fun c _ => c ≠ gs) w3 (w3.setCells gs (k * 64) ((pad b).map byteV)) := (Fr.refl _ _).setCells (fun _ _ h => h rfl) _ _
  generalize w3.setCells gs (k * 64) ((pad b).map byteV) = w4 at T4 U4 O4 G4 ⊢
  obtain ⟨ap, cp, rfl⟩ := own_form D3.out.pend
  have c2 : w4.cell? ⟨bd, 2, none⟩ = some (.slice ap D.pend.length cp) := cell_mk U4 rfl
  have f2 : w4.frozen? ⟨bd, 2, none⟩ = false := frozen_mk U4
  have hbl4 : bd < w4.heap.size := lt_of_some U4
  have hld : (shutLd 95 (.pointer (some ⟨w1.heap.size, 0, none⟩))).run Tryd.prog w4.drew = .ok (.agg (wA k (pad b))) w4.drew := ldWr_at (range_wA T4) HPL.out
  have T4' := Lib.hid T4
  have U4' := Lib.hid U4
  have O4' := Lib.hid O4
  have G4' := Lib.hid G4
  clear U4 O4 G4 e2 c0 hgm hgb l93 s93
  go_wp2
  have hbs := fun W => build_write W k (pad b) HPL.out
  have hpl : D.pend.length ≤ 1000000 := D3.out.wf.few
  have P4 : Hid (w4.ownsRow 0 95 65 (.slice ap D.pend.length cp) D.pend.length (flatW D.pend)) := ownsRow_fr D3.out.pend G4'.out (fun c o e _ => own_ne (e := 95) (e' := 93) D3.out.pend D3.out.seen (by decide) e rfl)
  clear T4
  have hpb : Hid ((Value.slice ap D.pend.length cp).ownBlock ≠ some bd) := fun q => by
    obtain ⟨cur, hc⟩ := own_tag P4.out q
    rw [U4'.out] at hc; cases hc
  go_region_law ((refine step_append_write _ rfl _ _ rfl _ _ (flatW D.pend) rfl (P4.out.alloc _).drew _ k (pad b) HPL.out rfl (heap_alloc_new w4 _) (by omega) ?_; intro g5 cap5 w5 hown5 hg5 hat5 hlt5; have t5 := Lib.hid (grown_block hg5 (heap_alloc_lt U4'.out _) hpb.out); have c5 : w5.cell? ⟨bd, 2, none⟩ = some (.slice ap D.pend.length cp) := cell_mk t5.out rfl; have f5 : w5.frozen? ⟨bd, 2, none⟩ = false := frozen_mk t5.out; have A5 := Lib.hid hat5; have O5 := Lib.hid hown5; have G5 := Lib.hid hg5; clear hat5 hown5 hg5))
  all_goals
    obtain ⟨r1, r2⟩ := dsk_write (D := D) F3.out D3.out hF.1 (hF.2.1 gs rfl) hF.2.2.1 hF.2.2.2 O4'.out G4'.out t5.out G5.out O5.out A5.out HPL.out hk hq
    have R1 := Lib.hid r1
    have R2 := Lib.hid r2
    clear r1 r2
    go_wp2
    go_ret
    exact ⟨rfl, R1.out, R2.out⟩
end Go.Proofs.YtaeonlafcbgpcaaDoor
