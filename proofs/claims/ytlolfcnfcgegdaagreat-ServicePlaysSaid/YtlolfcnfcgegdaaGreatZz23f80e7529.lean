/- Texts of the proofs, part 9: what the functions that they reach do, walked; no conditions beyond those that each states. -/
import Derived.Deep.AppendLies
import Derived.Deep.RegionLaw
import Derived.BigQuiet
import Derived.Deep.QuietTactic
import Derived.Test.YtlolfcnfcgegdaaGreatZz7696873f75
set_option linter.unusedVariables false
set_option linter.unusedSimpArgs false
/- Package pack: the Writer. -/
namespace Go.Proofs.YtlolfcnfcgegdaaGreat
open Go.RowKit

/-- A number's bytes, the lowest first. -/
def le (n : Nat) : Nat → List UInt8
  | 0 => []
  | k + 1 => UInt8.ofNat n :: le (n / 256) k
theorem le_length (n : Nat) : ∀ k, (le n k).length = k
  | 0 => rfl
  | k + 1 => by rw [le, List.length_cons, le_length]
theorem le_snoc (n : Nat) : ∀ k, le n (k + 1) = le n k ++ [UInt8.ofNat (n / 256 ^ k)]
  | 0 => by simp [le]
  | k + 1 => by
    rw [le, le_snoc (n / 256) k, le, List.cons_append, Nat.div_div_eq_div_mul, Nat.pow_succ, Nat.mul_comm 256]

theorem wrap_byte (m : Nat) : IntKind.u8.wrap (m : Int) = ((UInt8.ofNat m).toNat : Int) := by
  rw [UInt8.toNat_ofNat', IntKind.wrap_u8]
  omega
theorem shr_byte (n k : Nat) : IntKind.u8.wrap ((n : Int) / 2 ^ (8 * (k : Int)).toNat) = ((UInt8.ofNat (n / 256 ^ k)).toNat : Int) := by
  have h1 : (8 * (k : Int)).toNat = 8 * k := by omega
  rw [h1, ← wrap_byte, show (256 : Nat) ^ k = 2 ^ (8 * k) from by rw [Nat.pow_mul]]
  simp

theorem snoc_length {α : Type} (l : List α) (m : α) : (l ++ [m]).length = l.length + 1 := by simp
theorem snoc_map {α β : Type} (f : α → β) (l : List α) (m : α) : (l ++ [m]).map f = l.map f ++ [f m] := by simp

/-- A Writer at bw whose slice v owns the bytes bs. -/
structure WrAt (w : World) (bw : Nat) (v : Value) (bs : List UInt8) : Prop where
  top : w.heap[bw]? = some (.cells #[v] 102 (0, 0))
  own : w.ownsRow 0 5 1 v bs.length (bs.map byteV)
/-- What a Writer's functions leave alone. -/
def KW (bw : Nat) (v : Value) (b : Nat) (_ : Obj) : Prop := b ≠ bw ∧ v.ownBlock ≠ some b

theorem WrAt.ne {w : World} {bw : Nat} {v : Value} {bs : List UInt8} (h : WrAt w bw v bs) : v.ownBlock ≠ some bw := by
  rcases h.own.2 with ⟨rfl, _⟩ | ⟨g, cap, cur, rfl, _, hg, _⟩
  · simp [Value.ownBlock]
  · intro e
    simp only [Value.ownBlock, Option.some.injEq] at e
    rw [e, h.top] at hg
    cases hg

/-- 'append(v, m)' of one byte, at a step of a region that draws its order. -/
theorem step_append_byte {ops : Array Oper} {o : Oper} {a : Act} {K : Act → World → Prop} {Q : Exit → Act → World → Prop} {E : Prop} (W : World) (hgd : o.guard = none) (s x : Operand)
    (ho : o.op = .call { callee := .builtin .append, args := #[s, x], argTypes := #[23, 23] }) (v : Value) (n : Nat) (xs : List Value) (hs : a.eval s = v) (hown : W.ownsRow 0 5 1 v n xs)
    (B : Nat) (m : UInt8) (hx : a.eval x = .slice (some ⟨B, 0, none⟩) 1 1) (hb : W.heap[B]? = some (.cells #[byteV m] 5 (0, 0))) (hn : n ≤ 2000000)
    (h : ∀ g cap w', w'.ownsRow 0 5 1 (.slice (some ⟨g, 0, none⟩) (n + 1) cap) (n + 1) (xs ++ [byteV m]) → W.grownBy w' v.ownBlock → (v.ownBlock = some g ∨ g = W.heap.size) → g < w'.heap.size → K (a.put o.dst (.slice (some ⟨g, 0, none⟩) (n + 1) cap)) w') :
    if Region.wanted o (yielded ops a.tmps) = true then Oper.wp Tryz.prog o a W K Q else E := by
  obtain ⟨i0, hi, hz0, hz1, hz2⟩ := info_parts info_u8
  exact step_append_lies W hgd s x 23 ho 0 5 i0 (.int .u8 0) 1 1 Tryz.underlying23 hi hz0 hz1 hz2 rfl (by decide) v n xs hs hown ⟨B, 0, none⟩ 1 1 [byteV m] hx rfl
    (World.news_of_block hb) (fun u hu => by rw [List.mem_singleton.1 hu]; rfl) (by decide) (by unfold maxLen; omega) (by omega) (Nat.zero_le _) _ rfl h

set_option maxRecDepth 100000 in
set_option maxHeartbeats 1000000 in
theorem wnum_main (w : World) (bw : Nat) (v : Value) (bs : List UInt8) (n : Nat) (size : Nat) (h : WrAt w bw v bs) (h1 : 1 ≤ size) (h8 : size ≤ 8) (hn : n < 18446744073709551616) (hb : bs.length ≤ 1000000) :
    Calls Tryz.prog 48 #[.pointer (some ⟨bw, 0, none⟩), .int .u64 n, .int .i64 size] w fun e w' => e = .returned (.tuple #[]) ∧
      ∃ v', WrAt w' bw v' (bs ++ le n size) ∧ Fr (KW bw v) w w' ∧ (v'.ownBlock = v.ownBlock ∨ ∀ k, v'.ownBlock = some k → w.heap.size ≤ k) := by
  have h1' : (1 : Int) ≤ size := by omega
  have h8' : (size : Int) ≤ 8 := by omega
  have H := Lib.hid h
  clear h
  go_enter Tryz.func48, Tryz.ntmps48
  go_wp2
  go_loopw [14] (fun i wr => ∃ (k : Nat) (v' : Value), k ≤ size ∧ i = .int .i64 k ∧ WrAt wr bw v' (bs ++ le n k) ∧ Fr (KW bw v) w wr ∧ (v'.ownBlock = v.ownBlock ∨ ∀ k, v'.ownBlock = some k → w.heap.size ≤ k)) (fun i _ => size - (intOf i).toNat)
  case atStart => exact ⟨0, v, Nat.zero_le _, rfl, by simpa [le] using H.out, Fr.refl _ _, .inl rfl⟩
  case round =>
    obtain ⟨k, v', hk, rfl, hw, hf, hv⟩ := hrel
    have hcl : (bs ++ le n k).length ≤ 1000008 := by rw [List.length_append, le_length]; omega
    generalize hcur : bs ++ le n k = cur at hw hcl
    have HC := Lib.hid hcur
    clear hcur
    have HW := Lib.hid hw
    have HF := Lib.hid hf
    have HV := Lib.hid hv
    clear hf hv
    by_cases hlt : k < size
    · have hc := cell_mk (i := 0) hw.top rfl
      have hfz := frozen_mk (i := 0) hw.top
      have hbw : bw < wr.heap.size := lt_of_some hw.top
      clear hw
      have e8 : IntKind.i64.wrap (8 * (k : Int)) = 8 * (k : Int) := IntWalk.i64_in _ (by omega)
      have hX := shr_byte n k
      have hle := Lib.hid (le_snoc n k)
      generalize UInt8.ofNat (n / 256 ^ k) = m at hX hle
      go_wp2
      go_region_law ((refine step_append_byte _ rfl _ _ rfl v' _ _ rfl (HW.out.own.alloc _).drew wr.heap.size m rfl (heap_alloc_new wr _) (by omega) ?_; intro g cap w1 hown1 hg1 hat1 hlt1; have t1 := Lib.hid (grown_block hg1 (heap_alloc_lt HW.out.top _) HW.out.ne); have c1 : w1.cell? ⟨bw, 0, none⟩ = some v' := cell_mk t1.out rfl; have f1 : w1.frozen? ⟨bw, 0, none⟩ = false := frozen_mk t1.out))
      all_goals
        have F1 := Lib.hid ((HF.out.alloc _).drew.grown hg1 fun q o e ho hk => by
          rcases HV.out with hv | hv
          · exact hk.2 (hv ▸ e)
          · have := hv q e; have := lt_of_some ho; omega)
        have hgne : g ≠ bw := fun e => by
          rcases hat1 with h | h
          · exact HW.out.ne (e ▸ h)
          · have : g = wr.heap.size + 1 := by simpa using h
            omega
        have hV1 : Hid ((some g : Option Nat) = v.ownBlock ∨ ∀ q, some g = some q → w.heap.size ≤ q) := by
          rcases hat1 with h | h
          · rcases HV.out with hv | hv
            · exact .inl (h.symm.trans hv)
            · exact .inr fun q e => hv q (h.trans e)
          · refine .inr fun q e => ?_
            cases e
            have e1 : g = wr.heap.size + 1 := by simpa using h
            have := HF.out.size
            omega
        have O1 := Lib.hid hown1
        clear hown1 hg1 hat1
        go_wp2
        go_roundw
        case rel =>
          refine ⟨k + 1, _, by omega, by go_num, ⟨heap_setCell_same t1.out _, ?_⟩, F1.out.setCell (fun _ _ h => h.1 rfl) _, hV1.out⟩
          have e1 : bs ++ le n (k + 1) = cur ++ [m] := by rw [hle.out, ← HC.out, List.append_assoc]
          rw [e1, snoc_length, snoc_map]
          exact ownsRow_setCell_ne (p := ⟨bw, 0, none⟩) O1.out (fun e => hgne (Option.some.inj e)) _
        case measure => simp [intOf]; omega
    · obtain rfl : k = size := by omega
      clear hw
      go_wp2
      go_end0
      exact ⟨rfl, v', HC.out ▸ HW.out, HF.out, HV.out⟩
end Go.Proofs.YtlolfcnfcgegdaaGreat
/- Package pack: the Reader. -/
namespace Go.Proofs.YtlolfcnfcgegdaaGreat
open Go.RowKit

/-- Where a slice begins that is cut at n. -/
def subA (a : Option Addr) (cap n : Nat) : Option Addr := if cap = n then a else a.map (·.add n)
theorem run_slice_from {P : Program} {t e : TypeId} (ht : P.underlying t = some (.slice e)) (hs : (sizeOf e).run P = fun w => .ok 1 w) (w : World) (a : Option Addr) (len cap n : Nat) (k : IntKind) (h : n ≤ len) :
    (Instr.slice t (.slice a len cap) (some (.int k n)) none none).run P w = .ok (.slice (subA a cap n) (len - n) (cap - n)) w := by
  have h0 : (0 : Int) ≤ n ∧ (n : Int) ≤ len := by omega
  simp only [Instr.slice, Sem.run_bind, run_underlying ht, Result.andThen, Instr.sliceBounds, Instr.sliceBound, asIntOf, Sem.run_pure, h0, and_self, ↓reduceIte, hs]
  simp [subA]
theorem run_slice_to {P : Program} {t e : TypeId} (ht : P.underlying t = some (.slice e)) (hs : (sizeOf e).run P = fun w => .ok 1 w) (w : World) (a : Option Addr) (len cap n : Nat) (k : IntKind) (h : n ≤ cap) :
    (Instr.slice t (.slice a len cap) none (some (.int k n)) none).run P w = .ok (.slice a n cap) w := by
  have h0 : (0 : Int) ≤ n ∧ (n : Int) ≤ cap := by omega
  simp only [Instr.slice, Sem.run_bind, run_underlying ht, Result.andThen, Instr.sliceBounds, Instr.sliceBound, asIntOf, Sem.run_pure, h0, and_self, ↓reduceIte, hs]
  cases a <;> simp [Addr.add]
theorem run_slice_mid {P : Program} {t e : TypeId} (ht : P.underlying t = some (.slice e)) (hs : (sizeOf e).run P = fun w => .ok 1 w) (w : World) (a : Option Addr) (len cap n m : Nat) (k k' : IntKind) (h : n ≤ m) (h' : m ≤ cap) :
    (Instr.slice t (.slice a len cap) (some (.int k n)) (some (.int k' m)) none).run P w = .ok (.slice (subA a cap n) (m - n) (cap - n)) w := by
  have h0 : (0 : Int) ≤ n ∧ (n : Int) ≤ m := by omega
  have h1 : (0 : Int) ≤ m ∧ (m : Int) ≤ cap := by omega
  simp only [Instr.slice, Sem.run_bind, run_underlying ht, Result.andThen, Instr.sliceBounds, Instr.sliceBound, asIntOf, Sem.run_pure, h0, h1, and_self, ↓reduceIte, hs]
  simp [subA, h]

theorem BytesAt.take {K : Nat → Obj → Prop} {w : World} {a : Option Addr} {len cap : Nat} {bs : List UInt8} (h : BytesAt K w (.slice a len cap) bs) (n : Nat) (hn : n ≤ bs.length) : BytesAt K w (.slice a n cap) (bs.take n) := by
  obtain ⟨a', cap', hv, hl, hz, h⟩ := h
  cases hv
  have e : (bs.take n).length = n := by rw [List.length_take]; omega
  refine ⟨a, cap, by rw [e], by omega, hz, ?_⟩
  rcases h with rfl | ⟨b, off, o, ha, hb, hk, hc⟩
  · left; simp
  · refine .inr ⟨b, off, o, ha, hb, hk, fun i hi => ?_⟩
    rw [hc i (by omega)]
    simp
theorem BytesAt.drop {K : Nat → Obj → Prop} {w : World} {a : Option Addr} {len cap : Nat} {bs : List UInt8} (h : BytesAt K w (.slice a len cap) bs) (n : Nat) (hn : n ≤ bs.length) : BytesAt K w (.slice (subA a cap n) (len - n) (cap - n)) (bs.drop n) := by
  obtain ⟨a', cap', hv, hl, hz, h⟩ := h
  cases hv
  have e : (bs.drop n).length = bs.length - n := by rw [List.length_drop]
  refine ⟨_, cap - n, by rw [e], by omega, ?_, ?_⟩
  · intro h0
    unfold subA at h0
    split at h0
    · have := hz h0; omega
    · have : a = none := by simpa using h0
      have := hz this; omega
  · by_cases h0 : bs.drop n = []
    · exact .inl h0
    · have hlt : n < bs.length := by
        rcases Nat.lt_or_ge n bs.length with h1 | h1
        · exact h1
        · exact absurd (List.drop_eq_nil_of_le h1) h0
      rcases h with rfl | ⟨b, off, o, ha, hb, hk, hc⟩
      · simp at hlt
      · subst ha
        refine .inr ⟨b, off + n, o, ?_, hb, hk, fun i hi => ?_⟩
        · unfold subA
          rw [if_neg (by omega)]
          show some (Addr.add ⟨b, off, none⟩ n) = _
          unfold Addr.add
          split
          · subst n; rfl
          · rfl
        · rw [e] at hi
          rw [Nat.add_assoc, hc (n + i) (by omega)]
          simp

theorem subA_some (b off cap n : Nat) (h : n < cap) : subA (some ⟨b, off, none⟩) cap n = some ⟨b, off + n, none⟩ := by
  unfold subA
  rw [if_neg (by omega)]
  show some (Addr.add ⟨b, off, none⟩ n) = _
  unfold Addr.add
  split
  · subst n; rfl
  · rfl
theorem BytesAt.cap {K : Nat → Obj → Prop} {w : World} {a : Option Addr} {n cap : Nat} {bs : List UInt8} (h : BytesAt K w (.slice a n cap) bs) : n ≤ cap := by
  obtain ⟨a', cap', hv, hl, _⟩ := h
  simp only [Value.slice.injEq] at hv
  obtain ⟨_, h1, h2⟩ := hv
  omega

/-- A Reader at br that has the bytes bs left. -/
structure RdrAt (K : Nat → Obj → Prop) (w : World) (br : Nat) (v : Value) (bs : List UInt8) (shut : Bool) : Prop where
  top : w.heap[br]? = some (.cells #[v, .bool shut] 146 (0, 0))
  bytes : BytesAt K w v bs
  off : ∀ cs fz, ¬ K br (.cells cs 146 fz)

set_option maxRecDepth 100000 in
theorem read_calls (w : World) (a : Option Addr) (len cap : Nat) : Calls Tryz.prog 51 #[.slice a len cap] w fun e w' => e = .returned (.pointer (some ⟨w.heap.size, 0, none⟩)) ∧ w' = w.alloc (.cells #[.slice a len cap, .bool false] 146 (0, 0)) := by
  go_enter Tryz.func51, Tryz.ntmps51
  go_wp2
  go_ret
  exact ⟨rfl, rfl⟩

theorem size_u8 : (sizeOf 5).run Tryz.prog = fun w => .ok 1 w := by kernel_rfl

theorem RdrAt.turn {K : Nat → Obj → Prop} {w : World} {br : Nat} {v : Value} {bs : List UInt8} {sh : Bool} (h : RdrAt K w br v bs sh) (v2 : Value) (sh2 : Bool) :
    ((w.setCell ⟨br, 1, none⟩ (.bool sh2)).setCell ⟨br, 0, none⟩ v2).heap[br]? = some (.cells #[v2, .bool sh2] 146 (0, 0)) ∧
    Fr K w ((w.setCell ⟨br, 1, none⟩ (.bool sh2)).setCell ⟨br, 0, none⟩ v2) ∧ Fr (fun b _ => b ≠ br) w ((w.setCell ⟨br, 1, none⟩ (.bool sh2)).setCell ⟨br, 0, none⟩ v2) := by
  have hp : ∀ o, w.heap[(⟨br, 1, none⟩ : Addr).block]? = some o → ¬ K br o := fun o ho => by
    rw [h.top] at ho; cases ho; exact h.off _ _
  exact ⟨heap_setCell_same (heap_setCell_same h.top _) _, ((Fr.refl _ _).setCell (p := ⟨br, 1, none⟩) hp _).setCell (p := ⟨br, 0, none⟩) hp _, ((Fr.refl _ _).setCell (fun _ _ h => h rfl) _).setCell (fun _ _ h => h rfl) _⟩

set_option maxRecDepth 100000 in
theorem take_ok {K : Nat → Obj → Prop} (w : World) (br : Nat) (v : Value) (bs : List UInt8) (n : Nat) (h : RdrAt K w br v bs false) (hn : n ≤ bs.length) (hm : bs.length ≤ 140737488355328) :
    Calls Tryz.prog 83 #[.pointer (some ⟨br, 0, none⟩), .int .i64 n] w fun e w' => ∃ out v', e = .returned out ∧ BytesAt K w' out (bs.take n) ∧ RdrAt K w' br v' (bs.drop n) false ∧ Fr (fun b _ => b ≠ br) w w' := by
  obtain ⟨a, cap, rfl⟩ := h.bytes.form
  have hcap : bs.length ≤ cap := by
    obtain ⟨a', cap', hv, hl, _⟩ := h.bytes
    cases hv; exact hl
  have c0 := cell_mk (i := 0) h.top rfl
  have c1 := cell_mk (i := 1) h.top rfl
  have f0 := frozen_mk (i := 0) h.top
  have f1 := frozen_mk (i := 1) h.top
  have s1 := fun W => run_slice_to Tryz.underlying23 size_u8 W a bs.length cap n .i64 (by omega)
  have s2 := fun W => run_slice_from Tryz.underlying23 size_u8 W a bs.length cap n .i64 hn
  have hle : decide ((bs.length : Int) < n) = false := by simp; omega
  have H := Lib.hid h
  clear h hcap
  generalize hsub : subA a cap n = a2 at s2
  have HS := Lib.hid hsub
  clear hsub
  go_enter Tryz.func83, Tryz.ntmps83
  go_wp2
  go_ret
  obtain ⟨t1, f2, f3⟩ := H.out.turn (.slice a2 (bs.length - n) (cap - n)) false
  have b2 := H.out.bytes.drop n hn
  rw [HS.out] at b2
  exact ⟨_, _, rfl, (H.out.bytes.take n hn).fr f2, ⟨t1, b2.fr f2, H.out.off⟩, f3⟩

set_option maxRecDepth 100000 in
theorem take_no {K : Nat → Obj → Prop} (w : World) (br : Nat) (v : Value) (bs : List UInt8) (sh : Bool) (n : Nat) (h : RdrAt K w br v bs sh) (hn : sh = true ∨ bs.length < n) (hm : n ≤ 140737488355328) :
    Calls Tryz.prog 83 #[.pointer (some ⟨br, 0, none⟩), .int .i64 n] w fun e w' => e = .returned (.slice none 0 0) ∧ RdrAt K w' br (.slice none 0 0) [] true ∧ Fr (fun b _ => b ≠ br) w w' := by
  obtain ⟨a, cap, rfl⟩ := h.bytes.form
  have c0 := cell_mk (i := 0) h.top rfl
  have c1 := cell_mk (i := 1) h.top rfl
  have f0 := frozen_mk (i := 0) h.top
  have f1 := frozen_mk (i := 1) h.top
  have H := Lib.hid h
  clear h
  cases sh with
  | true =>
    clear hn
    go_enter Tryz.func83, Tryz.ntmps83
    go_wp2
    go_ret
    obtain ⟨t1, f2, f3⟩ := H.out.turn (.slice none 0 0) true
    exact ⟨rfl, ⟨t1, BytesAt.nil _ _, H.out.off⟩, f3⟩
  | false =>
    have hlt : (bs.length : Int) < n := by
      rcases hn with hn | hn
      · cases hn
      · omega
    clear hn
    go_enter Tryz.func83, Tryz.ntmps83
    go_wp2
    go_ret
    obtain ⟨t1, f2, f3⟩ := H.out.turn (.slice none 0 0) true
    exact ⟨rfl, ⟨t1, BytesAt.nil _ _, H.out.off⟩, f3⟩

/-- A number of bytes, the lowest first. -/
def ofLE : List UInt8 → Nat
  | [] => 0
  | b :: r => b.toNat + 256 * ofLE r
theorem ofLE_lt : ∀ l : List UInt8, ofLE l < 256 ^ l.length
  | [] => by decide
  | b :: r => by
    have h1 := ofLE_lt r
    have h2 := UInt8.toNat_lt b
    rw [ofLE, List.length_cons, Nat.pow_succ]
    omega
theorem ofLE_snoc (c : UInt8) : ∀ l : List UInt8, ofLE (l ++ [c]) = ofLE l + c.toNat * 256 ^ l.length
  | [] => by simp [ofLE]
  | b :: r => by
    rw [List.cons_append, ofLE, ofLE_snoc c r, ofLE, List.length_cons, Nat.pow_succ, Nat.mul_add, ← Nat.add_assoc, Nat.mul_comm 256 (c.toNat * _), Nat.mul_assoc]

theorem or_byte (s : Nat) (c : UInt8) (k : Nat) (hs : s < 256 ^ k) (hk : k < 8) :
    bits .or .u64 (s : Int) (IntKind.u64.wrap (IntKind.u64.wrap (c.toNat : Int) * 2 ^ (8 * k))) = ((s + c.toNat * 256 ^ k : Nat) : Int) := by
  have hc := UInt8.toNat_lt c
  have e256 : (256 : Nat) ^ k = 2 ^ (8 * k) := by rw [Nat.pow_mul]
  have hle : (256 : Nat) ^ k ≤ 256 ^ 7 := Nat.pow_le_pow_right (by decide) (by omega)
  have hle' : c.toNat * 256 ^ k ≤ 255 * 256 ^ 7 := Nat.mul_le_mul (by omega) hle
  have h1 : IntKind.u64.wrap (c.toNat : Int) = (c.toNat : Int) := by rw [IntKind.wrap_u64]; omega
  have h2 : IntKind.u64.wrap ((c.toNat : Int) * 2 ^ (8 * k)) = ((c.toNat * 256 ^ k : Nat) : Int) := by
    rw [show (c.toNat : Int) * 2 ^ (8 * k) = ((c.toNat * 256 ^ k : Nat) : Int) from by rw [e256]; simp, IntKind.wrap_u64]
    omega
  rw [h1, h2, bits_or_u64_nat s _ (by omega) (by omega)]
  congr 1
  rw [e256] at hs ⊢
  rw [Nat.or_comm, ← Nat.shiftLeft_eq, ← Nat.shiftLeft_add_eq_or_of_lt hs, Nat.add_comm]

set_option maxRecDepth 100000 in
set_option maxHeartbeats 1000000 in
theorem rnum_ok {K : Nat → Obj → Prop} (w : World) (br : Nat) (v : Value) (bs : List UInt8) (n : Nat) (h : RdrAt K w br v bs false) (h1 : 1 ≤ n) (h8 : n ≤ 8) (hn : n ≤ bs.length) (hm : bs.length ≤ 140737488355328) :
    Calls Tryz.prog 61 #[.pointer (some ⟨br, 0, none⟩), .int .i64 n] w fun e w' => e = .returned (.int .u64 (ofLE (bs.take n) : Nat)) ∧ (∃ v', RdrAt K w' br v' (bs.drop n) false) ∧ Fr (fun b _ => b ≠ br) w w' := by
  have h1' : (1 : Int) ≤ n := by omega
  have h8' : (n : Int) ≤ 8 := by omega
  have H := Lib.hid h
  clear h
  go_enter Tryz.func61, Tryz.ntmps61
  go_wp2_with fail
  (with_reducible refine (take_ok w br v bs n H.out hn hm).mono ?_)
  rintro e w1 ⟨out, v1, rfl, hb, hr, hf⟩
  obtain ⟨a1, cap1, rfl⟩ := hb.form
  have hl : (bs.take n).length = n := by rw [List.length_take]; omega
  rw [hl] at hb ⊢
  generalize hxs : bs.take n = xs at hb hl
  have HX := Lib.hid hxs
  have HB := Lib.hid hb
  have HL := Lib.hid hl
  have HR := Lib.hid hr
  have HF := Lib.hid hf
  clear hxs hb hl hr hf H
  go_wp2
  go_loop [5, 24] (fun s i => ∃ k : Nat, k ≤ n ∧ i = .int .i64 k ∧ s = .int .u64 (ofLE (xs.take k) : Nat)) (fun _ i => n - (intOf i).toNat)
  case atStart => exact ⟨0, Nat.zero_le _, rfl, rfl⟩
  case round =>
    obtain ⟨k, hk, rfl, rfl⟩ := hrel
    by_cases hlt : k < n
    · have hkl : k < xs.length := by have := HL.out; omega
      obtain ⟨b, off, rfl⟩ := HB.out.addr (by omega)
      have g := HB.out.cell hkl
      unfold byteV at g
      have hsn := Lib.hid (ofLE_snoc xs[k] (xs.take k))
      have hup := ofLE_lt (xs.take k)
      generalize ofLE (xs.take k) = s at hsn hup
      generalize hc : xs[k] = c at g hsn
      have HC := Lib.hid hc
      clear hc
      have hkk : (xs.take k).length = k := by rw [List.length_take]; omega
      rw [hkk] at hup
      have HU := Lib.hid hup
      have HK := Lib.hid hkk
      clear hup hkk
      go_wp2
      go_round
      case rel =>
        refine ⟨k + 1, by omega, by go_num, ?_⟩
        rw [List.take_succ_eq_append_getElem hkl, HC.out, hsn.out, HK.out, or_byte s c k HU.out (by omega)]
      case measure => simp [intOf]; omega
    · go_wp2
      go_ret
      have e1 : k = n := by omega
      subst e1
      refine ⟨?_, ⟨v1, HR.out⟩, HF.out⟩
      have e2 : ofLE (bs.take k) = ofLE (xs.take k) := by rw [HX.out, List.take_of_length_le (by have := HL.out; omega)]
      rw [e2]
      rfl

set_option maxRecDepth 100000 in
set_option maxHeartbeats 1000000 in
theorem rnum_no {K : Nat → Obj → Prop} (w : World) (br : Nat) (v : Value) (bs : List UInt8) (sh : Bool) (n : Nat) (h : RdrAt K w br v bs sh) (h1 : 1 ≤ n) (h8 : n ≤ 8) (hn : sh = true ∨ bs.length < n) :
    Calls Tryz.prog 61 #[.pointer (some ⟨br, 0, none⟩), .int .i64 n] w fun e w' => e = .returned (.int .u64 0) ∧ (∃ v', RdrAt K w' br v' [] true) ∧ Fr (fun b _ => b ≠ br) w w' := by
  have h1' : (1 : Int) ≤ n := by omega
  have h8' : (n : Int) ≤ 8 := by omega
  have H := Lib.hid h
  have HN := Lib.hid hn
  clear h hn
  go_enter Tryz.func61, Tryz.ntmps61
  go_wp2_with fail
  (with_reducible refine (take_no w br v bs sh n H.out HN.out (by omega)).mono ?_)
  rintro e w1 ⟨rfl, hr, hf⟩
  have HR := Lib.hid hr
  have HF := Lib.hid hf
  clear hr hf H
  go_wp2
  go_loop [5, 24] (fun s i => s = .int .u64 0 ∧ i = .int .i64 0) (fun _ _ => 0)
  case atStart => exact ⟨rfl, rfl⟩
  case round =>
    obtain ⟨rfl, rfl⟩ := hrel
    go_wp2
    go_ret
    exact ⟨rfl, ⟨_, HR.out⟩, HF.out⟩

/-- What Number gives, and what is left. -/
def numR (bs : List UInt8) (sh : Bool) (n : Nat) : Nat × List UInt8 × Bool := if sh = true ∨ bs.length < n then (0, [], true) else (ofLE (bs.take n), bs.drop n, false)

theorem rnum_calls {K : Nat → Obj → Prop} (w : World) (br : Nat) (v : Value) (bs : List UInt8) (sh : Bool) (n : Nat) (h : RdrAt K w br v bs sh) (h1 : 1 ≤ n) (h8 : n ≤ 8) (hm : bs.length ≤ 140737488355328) :
    Calls Tryz.prog 61 #[.pointer (some ⟨br, 0, none⟩), .int .i64 n] w fun e w' => e = .returned (.int .u64 ((numR bs sh n).1 : Nat)) ∧ (∃ v', RdrAt K w' br v' (numR bs sh n).2.1 (numR bs sh n).2.2) ∧ Fr (fun b _ => b ≠ br) w w' := by
  unfold numR
  by_cases hn : sh = true ∨ bs.length < n
  · rw [if_pos hn]
    exact rnum_no w br v bs sh n h h1 h8 hn
  · rw [if_neg hn]
    have : sh = false := by cases sh <;> simp_all
    subst this
    exact rnum_ok w br v bs n h h1 h8 (by omega) hm

end Go.Proofs.YtlolfcnfcgegdaaGreat
/- The references: Number; appends of bytes. -/
namespace Go.Proofs.YtlolfcnfcgegdaaGreat
open Go.RowKit

/-- An append of bytes to a row of the function's own. -/
theorem wpList_append_bytes {K0 : Nat → Obj → Prop} {ops : Array Oper} {rest : List Oper} {o : Oper} {a : Act} {Q : Exit → Act → World → Prop} (W : World) (hgd : o.guard = none) (s x : Operand)
    (ho : o.op = .call { callee := .builtin .append, args := #[s, x], argTypes := #[23, 23] }) (B : Nat) (hB : B ≤ W.heap.size) (v : Value) (n : Nat) (xs : List UInt8) (hs : a.eval s = v) (hown : W.ownsRow B 5 1 v n (xs.map byteV))
    (vx : Value) (bs : List UInt8) (hx : a.eval x = vx) (hb : BytesAt K0 W vx bs) (N : Nat) (r : List UInt8) (hr : xs ++ bs = r) (hN : n + bs.length = N) (hn : N ≤ 2000000)
    (h : ∀ a' c' w', w'.ownsRow B 5 1 (.slice a' N c') N (r.map byteV) → W.grownBy w' v.ownBlock → wpList Tryz.prog ops Q rest (a.put o.dst (.slice a' N c')) w') :
    wpList Tryz.prog ops Q (o :: rest) a W := by
  obtain ⟨i0, hi, hz0, hz1, hz2⟩ := info_parts info_u8
  subst hr hN
  refine wpList_append_src W hgd s x 23 ho B 5 i0 (.int .u8 0) 1 1 Tryz.underlying23 hi hz0 hz1 hz2 rfl (by decide) v n (xs.map byteV) hs hown vx bs.length (bs.map byteV) hx hb.src (by unfold maxLen; omega) (by omega) hB ?_
  intro v' w' h1 h2 _
  rw [← List.map_append] at h1
  have hv' : ∃ a' c', v' = .slice a' (n + bs.length) c' := by
    rcases h1.2 with ⟨rfl, e⟩ | ⟨g, cap, _, rfl, _⟩
    · exact ⟨none, 0, by rw [e]⟩
    · exact ⟨_, _, rfl⟩
  obtain ⟨a', c', rfl⟩ := hv'
  exact h a' c' w' h1 h2

theorem BytesAt.lit' (w : World) (m : UInt8) : BytesAt (New w.heap.size) (w.alloc (.cells #[.int .u8 m.toNat] 5 (0, 0))) (.slice (some ⟨w.heap.size, 0, none⟩) 1 1) [m] := by
  refine ⟨_, 1, rfl, Nat.le_refl _, (fun e => by cases e), .inr ⟨w.heap.size, 0, _, rfl, heap_alloc_new _ _, ⟨Nat.le_refl _, _, _, rfl⟩, fun i hi => ?_⟩⟩
  obtain rfl : i = 0 := by simpa using hi
  exact cell_mk (heap_alloc_new _ _) rfl
theorem own_new {w : World} {B : Nat} {v : Value} {n : Nat} {xs : List Value} {e : TypeId} {s : Nat} (h : w.ownsRow B e s v n xs) : ∀ k, v.ownBlock = some k → B ≤ k := by
  intro k hk
  rcases h.2 with ⟨rfl, _⟩ | ⟨g, cap, _, rfl, hg, _⟩
  · cases hk
  · cases hk; exact hg

/-- A row of bytes of the function's own. -/
def RowB (w : World) (B : Nat) (v : Value) (n : Nat) (bs : List UInt8) : Prop := w.ownsRow B 5 1 v n (bs.map byteV)
/-- The same, told of what was there when a world began. -/
theorem wpList_append_fr {K0 : Nat → Obj → Prop} {ops : Array Oper} {rest : List Oper} {o : Oper} {a : Act} {Q : Exit → Act → World → Prop} (W0 W : World) (hF : Hid (Fr (fun _ _ => True) W0 W)) (hgd : o.guard = none) (s x : Operand)
    (ho : o.op = .call { callee := .builtin .append, args := #[s, x], argTypes := #[23, 23] }) (v : Value) (n : Nat) (xs : List UInt8) (hs : a.eval s = v) (hown : Hid (RowB W W0.heap.size v n xs))
    (vx : Value) (bs : List UInt8) (hx : a.eval x = vx) (hb : Hid (BytesAt K0 W vx bs)) (N : Nat) (r : List UInt8) (hr : Hid (xs ++ bs = r)) (hN : Hid (n + bs.length = N)) (hn : N ≤ 2000000)
    (h : ∀ a' c' w', Hid (RowB w' W0.heap.size (.slice a' N c') N r) → Hid (Fr (fun _ _ => True) W0 w') → wpList Tryz.prog ops Q rest (a.put o.dst (.slice a' N c')) w') :
    wpList Tryz.prog ops Q (o :: rest) a W :=
  wpList_append_bytes W hgd s x ho W0.heap.size hF.out.size v n xs hs hown.out vx bs hx hb.out N r hr.out hN.out hn fun a' c' w' h1 h2 => h a' c' w' h1 (hF.out.grown_new h2 (own_new hown.out))
theorem own_tt {w w' : World} {B : Nat} {v : Value} {n : Nat} {xs : List Value} {e : TypeId} {s : Nat} (h : w.ownsRow B e s v n xs) (hf : Fr (fun _ _ => True) w w') : w'.ownsRow B e s v n xs := ownsRow_fr h hf fun _ _ _ _ => trivial
theorem RowB.tt {w w' : World} {B : Nat} {v : Value} {n : Nat} {bs : List UInt8} (h : RowB w B v n bs) (hf : Fr (fun _ _ => True) w w') : RowB w' B v n bs := own_tt h hf
theorem BytesAt.of_own {w : World} {B : Nat} {v : Value} {n : Nat} {bs : List UInt8} (h : RowB w B v n bs) (hn : bs.length = n) : BytesAt (New B) w v bs := by
  subst hn; exact BytesAt.of_owns h

set_option maxRecDepth 100000 in
set_option maxHeartbeats 1000000 in
theorem num01_calls (w : World) (n : Nat) (size : Nat) (nz sz : Int) (hnz : nz = n) (hsz : sz = size) (h8 : size ≤ 8) (hn : n < 18446744073709551616) :
    Calls Tryz.prog 44 #[.int .u64 nz, .int .i64 sz] w fun e w' => (∃ a c, e = .returned (.slice a size c) ∧ RowB w' w.heap.size (.slice a size c) size (le n size)) ∧ Fr (fun _ _ => True) w w' := by
  subst hnz hsz
  have h8' : (size : Int) ≤ 8 := by omega
  go_enter Tryz.func44, Tryz.ntmps44
  go_wp2
  go_loopw [0, 5, 6] (fun nn out i wr => ∃ (k q : Nat) (a : Option Addr) (c : Nat), k ≤ size ∧ i = .int .i64 k ∧ nn = .int .u64 (q : Nat) ∧ q = n / 256 ^ k ∧ out = .slice a k c ∧ wr.ownsRow w.heap.size 5 1 (.slice a k c) k ((le n k).map byteV) ∧ Fr (fun _ _ => True) w wr) (fun _ _ i _ => size - (intOf i).toNat)
  case atStart => exact ⟨0, n, none, 0, Nat.zero_le _, rfl, rfl, by simp, rfl, ⟨rfl, .inl ⟨rfl, rfl⟩⟩, Fr.refl _ _⟩
  case round =>
    obtain ⟨k, q, a, c, hk, rfl, rfl, hq, rfl, ho, hf⟩ := hrel
    have hql : q < 18446744073709551616 := by rw [hq]; exact Nat.lt_of_le_of_lt (Nat.div_le_self _ _) hn
    have HQ := Lib.hid hq
    have HO := Lib.hid ho
    have HF := Lib.hid hf
    clear hq ho hf
    by_cases hlt : k < size
    · have e1 : (q : Int) % 256 = ((UInt8.ofNat q).toNat : Nat) := by rw [UInt8.toNat_ofNat']; omega
      have e2 := Lib.hid e1
      have e3 : ((UInt8.ofNat q).toNat : Int) % 256 = ((UInt8.ofNat q).toNat : Nat) := by have := (UInt8.ofNat q).toNat_lt; omega
      have HL := Lib.hid (le_snoc n k)
      have hm : (UInt8.ofNat q).toNat < 256 := (UInt8.ofNat q).toNat_lt
      generalize hmm : UInt8.ofNat q = m at e1 e2 e3 hm
      have HM := Lib.hid hmm
      clear hmm
      go_wp2_with (at_builtin; refine wpList_append_bytes _ rfl _ _ rfl w.heap.size ?c1 _ k (le n k) rfl (HO.out.alloc _) _ [m] rfl (BytesAt.lit' wr m) (k + 1) (le n (k + 1)) ?c2 rfl ?c3 ?_)
      case c1 => have := HF.out.size; simp; omega
      case c2 => rw [HL.out, ← HQ.out, HM.out]
      case c3 => omega
      intro a1 c1 w1 o1 g1
      have O1 := Lib.hid o1
      have F1 := Lib.hid ((HF.out.alloc _).grown_new g1 (own_new HO.out))
      clear o1 g1
      go_wp2
      go_roundw
      case rel => exact ⟨k + 1, q / 256, a1, c1, by omega, by go_num, by go_num, by rw [HQ.out, Nat.div_div_eq_div_mul, Nat.pow_succ], rfl, O1.out, F1.out⟩
      case measure => simp [intOf]; omega
    · obtain rfl : k = size := by omega
      go_wp2
      go_ret
      exact ⟨⟨a, c, rfl, HO.out⟩, HF.out⟩
end Go.Proofs.YtlolfcnfcgegdaaGreat
/- The references: Of. -/
namespace Go.Proofs.YtlolfcnfcgegdaaGreat
open Go.RowKit

set_option maxRecDepth 100000 in
theorem of_calls {K : Nat → Obj → Prop} (w : World) (v : Value) (bs : List UInt8) (h : BytesAt K w v bs) (hm : bs.length ≤ 8) :
    Calls Tryz.prog 38 #[v] w fun e w' => e = .returned (.int .u64 (ofLE bs : Nat)) ∧ w = w' := by
  obtain ⟨a, cap, rfl⟩ := h.form
  have HB := Lib.hid h
  clear h
  generalize hn : bs.length = n at hm
  have HN := Lib.hid hn
  clear hn
  go_enter Tryz.func38, Tryz.ntmps38
  go_wp2
  go_loop [3, 4] (fun s i => (i = .int .i64 (-1) ∧ s = .int .u64 (ofLE bs : Nat)) ∨ ∃ j : Nat, j < n ∧ i = .int .i64 (j : Nat) ∧ s = .int .u64 (ofLE (bs.drop (j + 1)) : Nat)) (fun _ i => (intOf i + 1).toNat)
  case atStart =>
    cases n with
    | zero => exact .inl ⟨rfl, by rw [List.length_eq_zero_iff.1 HN.out]; rfl⟩
    | succ m => exact .inr ⟨m, by omega, by go_num, by rw [List.drop_of_length_le (by have := HN.out; omega)]; rfl⟩
  case round =>
    rcases hrel with ⟨rfl, rfl⟩ | ⟨j, hj, rfl, rfl⟩
    · go_wp2
      go_ret
      exact ⟨rfl, rfl⟩
    · have hkl : j < bs.length := by have := HN.out; omega
      have hb' : BytesAt K w (.slice a n cap) bs := by have := HB.out; rwa [HN.out] at this
      obtain ⟨b, off, rfl⟩ := hb'.addr (by omega)
      have g := hb'.cell hkl
      unfold byteV at g
      clear hb'
      have hst : Hid (ofLE (bs.drop j) = bs[j].toNat + 256 * ofLE (bs.drop (j + 1))) := by rw [List.drop_eq_getElem_cons hkl, ofLE]; rfl
      have hlt : ofLE (bs.drop (j + 1)) < 256 ^ 7 := Nat.lt_of_lt_of_le (ofLE_lt _) (Nat.pow_le_pow_right (by decide) (by rw [List.length_drop]; have := HN.out; omega))
      rw [show (256 : Nat) ^ 7 = 72057594037927936 from by decide] at hlt
      have hlt' : (ofLE (bs.drop (j + 1)) : Int) < 72057594037927936 := by omega
      clear hlt
      have hc := bs[j].toNat_lt
      generalize ofLE (bs.drop (j + 1)) = s at hst hlt'
      generalize bs[j] = c at g hst hc
      go_wp2
      go_round
      case rel =>
        cases j with
        | zero => exact .inl ⟨by go_num, by have e := hst.out; rw [List.drop_zero] at e; rw [e, Nat.add_comm, Nat.mul_comm]; go_num⟩
        | succ m => exact .inr ⟨m, by omega, by go_num, by rw [hst.out, Nat.add_comm, Nat.mul_comm]; go_num⟩
      case measure => simp [intOf]
end Go.Proofs.YtlolfcnfcgegdaaGreat
/- What a Reader's Number gives, plainly. -/
namespace Go.Proofs.YtlolfcnfcgegdaaGreat
open Go.RowKit

theorem numR_ge (b : List UInt8) (n : Nat) (h : n ≤ b.length) : numR b false n = (ofLE (b.take n), b.drop n, false) := by
  unfold numR
  rw [if_neg (by simp; omega)]
theorem numR_short (b : List UInt8) (s : Bool) (n : Nat) (h : s = true ∨ b.length < n) : (numR b s n).2.2 = true := by
  unfold numR
  rw [if_pos h]
theorem numR_ok {b r : List UInt8} {s : Bool} {n x : Nat} (h : numR b s n = (x, r, false)) : s = false ∧ n ≤ b.length ∧ r = b.drop n ∧ x = ofLE (b.take n) := by
  unfold numR at h
  split at h
  · cases h
  · rename_i hh
    cases h
    refine ⟨?_, ?_, rfl, rfl⟩
    · cases s
      · rfl
      · exact absurd (.inl rfl) hh
    · exact Nat.le_of_not_lt fun q => hh (.inr q)
theorem BytesAt.piece {K : Nat → Obj → Prop} {w : World} {b off len cap : Nat} {bs : List UInt8} (h : BytesAt K w (.slice (some ⟨b, off, none⟩) len cap) bs) (lo n : Nat) (h1 : lo + n ≤ bs.length) (h2 : lo < cap) : BytesAt K w (.slice (some ⟨b, off + lo, none⟩) n (cap - lo)) ((bs.drop lo).take n) := by
  have := h.drop lo (by omega)
  rw [subA_some _ _ _ _ h2] at this
  exact this.take n (by rw [List.length_drop]; omega)
end Go.Proofs.YtlolfcnfcgegdaaGreat
