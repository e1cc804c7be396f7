/- Texts of the proofs, part 2: what the functions that they reach do, walked; no conditions beyond those that each states. -/
import Derived.BigQuiet
import Derived.Deep.QuietTactic
import Derived.Lib.AppendZeros
import Derived.Deep.RegionWith
import Derived.Deep.DeepCutAuto
import Derived.Test.YtaeonlafcbgpcaaDoorZz6ab9376393
set_option linter.unusedVariables false
set_option linter.unusedSimpArgs false
/- Package pack: the Reader. -/
namespace Go.Proofs.YtaeonlafcbgpcaaDoor
open Go.RowKit

/-- Where a slice begins that is cut at n. -/
def subA (a : Option Addr) (cap n : Nat) : Option Addr := if cap = n then a else a.map (·.add n)
theorem run_slice_from {P : Program} {t e : TypeId} (ht : P.underlying t = some (.slice e)) (hs : (sizeOf e).run P = fun w => .ok 1 w) (w : World) (a : Option Addr) (len cap n : Nat) (k : IntKind) (h : n ≤ len) :
    (Instr.slice t (.slice a len cap) (some (.int k n)) none none).run P w = .ok (.slice (subA a cap n) (len - n) (cap - n)) w := by
  have h0 : (0 : Int) ≤ n ∧ (n : Int) ≤ len := by omega
  simp only [Instr.slice, Sem.run_bind, run_underlying ht, Result.andThen, Instr.sliceBounds, Instr.sliceBound, asIntOf, Sem.run_pure, h0, and_self, ↓reduceIte, hs]
  simp [subA]
theorem run_slice_to {P : Program} {t e : TypeId} (ht : P.underlying t = some (.slice e)) (hs : (sizeOf e).run P = fun w => .ok 1 w) (w : World) (a : Option Addr) (len cap n : Nat) (k : IntKind) (h : n ≤ cap) :
    (Instr.slice t (.slice a len cap) none (some (.int k n)) none).run P w = .ok (.slice a n cap) w := by
  have h0 : (0 : Int) ≤ n ∧ (n : Int) ≤ cap := by omega
  simp only [Instr.slice, Sem.run_bind, run_underlying ht, Result.andThen, Instr.sliceBounds, Instr.sliceBound, asIntOf, Sem.run_pure, h0, and_self, ↓reduceIte, hs]
  cases a <;> simp [Addr.add]
theorem run_slice_mid {P : Program} {t e : TypeId} (ht : P.underlying t = some (.slice e)) (hs : (sizeOf e).run P = fun w => .ok 1 w) (w : World) (a : Option Addr) (len cap n m : Nat) (k k' : IntKind) (h : n ≤ m) (h' : m ≤ cap) :
    (Instr.slice t (.slice a len cap) (some (.int k n)) (some (.int k' m)) none).run P w = .ok (.slice (subA a cap n) (m - n) (cap - n)) w := by
  have h0 : (0 : Int) ≤ n ∧ (n : Int) ≤ m := by omega
  have h1 : (0 : Int) ≤ m ∧ (m : Int) ≤ cap := by omega
  simp only [Instr.slice, Sem.run_bind, run_underlying ht, Result.andThen, Instr.sliceBounds, Instr.sliceBound, asIntOf, Sem.run_pure, h0, h1, and_self, ↓reduceIte, hs]
  simp [subA, h]

theorem BytesAt.take {K : Nat → Obj → Prop} {w : World} {a : Option Addr} {len cap : Nat} {bs : List UInt8} (h : BytesAt K w (.slice a len cap) bs) (n : Nat) (hn : n ≤ bs.length) : BytesAt K w (.slice a n cap) (bs.take n) := by
  obtain ⟨a', cap', hv, hl, hz, h⟩ := h
  cases hv
  have e : (bs.take n).length = n := by rw [List.length_take]; omega
  refine ⟨a, cap, by rw [e], by omega, hz, ?_⟩
  rcases h with rfl | ⟨b, off, o, ha, hb, hk, hc⟩
  · left; simp
  · refine .inr ⟨b, off, o, ha, hb, hk, fun i hi => ?_⟩
    rw [hc i (by omega)]
    simp
theorem BytesAt.drop {K : Nat → Obj → Prop} {w : World} {a : Option Addr} {len cap : Nat} {bs : List UInt8} (h : BytesAt K w (.slice a len cap) bs) (n : Nat) (hn : n ≤ bs.length) : BytesAt K w (.slice (subA a cap n) (len - n) (cap - n)) (bs.drop n) := by
  obtain ⟨a', cap', hv, hl, hz, h⟩ := h
  cases hv
  have e : (bs.drop n).length = bs.length - n := by rw [List.length_drop]
  refine ⟨_, cap - n, by rw [e], by omega, ?_, ?_⟩
  · intro h0
    unfold subA at h0
    split at h0
    · have := hz h0; omega
    · have : a = none := by simpa using h0
      have := hz this; omega
  · by_cases h0 : bs.drop n = []
    · exact .inl h0
    · have hlt : n < bs.length := by
        rcases Nat.lt_or_ge n bs.length with h1 | h1
        · exact h1
        · exact absurd (List.drop_eq_nil_of_le h1) h0
      rcases h with rfl | ⟨b, off, o, ha, hb, hk, hc⟩
      · simp at hlt
      · subst ha
        refine .inr ⟨b, off + n, o, ?_, hb, hk, fun i hi => ?_⟩
        · unfold subA
          rw [if_neg (by omega)]
          show some (Addr.add ⟨b, off, none⟩ n) = _
          unfold Addr.add
          split
          · subst n; rfl
          · rfl
        · rw [e] at hi
          rw [Nat.add_assoc, hc (n + i) (by omega)]
          simp

theorem subA_some (b off cap n : Nat) (h : n < cap) : subA (some ⟨b, off, none⟩) cap n = some ⟨b, off + n, none⟩ := by
  unfold subA
  rw [if_neg (by omega)]
  show some (Addr.add ⟨b, off, none⟩ n) = _
  unfold Addr.add
  split
  · subst n; rfl
  · rfl
theorem BytesAt.cap {K : Nat → Obj → Prop} {w : World} {a : Option Addr} {n cap : Nat} {bs : List UInt8} (h : BytesAt K w (.slice a n cap) bs) : n ≤ cap := by
  obtain ⟨a', cap', hv, hl, _⟩ := h
  simp only [Value.slice.injEq] at hv
  obtain ⟨_, h1, h2⟩ := hv
  omega

/-- A Reader at br that has the bytes bs left. -/
structure RdrAt (K : Nat → Obj → Prop) (w : World) (br : Nat) (v : Value) (bs : List UInt8) (shut : Bool) : Prop where
  top : w.heap[br]? = some (.cells #[v, .bool shut] 123 (0, 0))
  bytes : BytesAt K w v bs
  off : ∀ cs fz, ¬ K br (.cells cs 123 fz)

set_option maxRecDepth 100000 in
theorem read_calls (w : World) (a : Option Addr) (len cap : Nat) : Calls Tryd.prog 44 #[.slice a len cap] w fun e w' => e = .returned (.pointer (some ⟨w.heap.size, 0, none⟩)) ∧ w' = w.alloc (.cells #[.slice a len cap, .bool false] 123 (0, 0)) := by
  go_enter Tryd.func44, Tryd.ntmps44
  go_wp2
  go_ret
  exact ⟨rfl, rfl⟩

theorem size_u8 : (sizeOf 5).run Tryd.prog = fun w => .ok 1 w := by kernel_rfl

theorem RdrAt.turn {K : Nat → Obj → Prop} {w : World} {br : Nat} {v : Value} {bs : List UInt8} {sh : Bool} (h : RdrAt K w br v bs sh) (v2 : Value) (sh2 : Bool) :
    ((w.setCell ⟨br, 1, none⟩ (.bool sh2)).setCell ⟨br, 0, none⟩ v2).heap[br]? = some (.cells #[v2, .bool sh2] 123 (0, 0)) ∧
    Fr K w ((w.setCell ⟨br, 1, none⟩ (.bool sh2)).setCell ⟨br, 0, none⟩ v2) ∧ Fr (fun b _ => b ≠ br) w ((w.setCell ⟨br, 1, none⟩ (.bool sh2)).setCell ⟨br, 0, none⟩ v2) := by
  have hp : ∀ o, w.heap[(⟨br, 1, none⟩ : Addr).block]? = some o → ¬ K br o := fun o ho => by
    rw [h.top] at ho; cases ho; exact h.off _ _
  exact ⟨heap_setCell_same (heap_setCell_same h.top _) _, ((Fr.refl _ _).setCell (p := ⟨br, 1, none⟩) hp _).setCell (p := ⟨br, 0, none⟩) hp _, ((Fr.refl _ _).setCell (fun _ _ h => h rfl) _).setCell (fun _ _ h => h rfl) _⟩

set_option maxRecDepth 100000 in
theorem take_ok {K : Nat → Obj → Prop} (w : World) (br : Nat) (v : Value) (bs : List UInt8) (n : Nat) (h : RdrAt K w br v bs false) (hn : n ≤ bs.length) (hm : bs.length ≤ 140737488355328) :
    Calls Tryd.prog 71 #[.pointer (some ⟨br, 0, none⟩), .int .i64 n] w fun e w' => ∃ out v', e = .returned out ∧ BytesAt K w' out (bs.take n) ∧ RdrAt K w' br v' (bs.drop n) false ∧ Fr (fun b _ => b ≠ br) w w' := by
  obtain ⟨a, cap, rfl⟩ := h.bytes.form
  have hcap : bs.length ≤ cap := by
    obtain ⟨a', cap', hv, hl, _⟩ := h.bytes
    cases hv; exact hl
  have c0 := cell_mk (i := 0) h.top rfl
  have c1 := cell_mk (i := 1) h.top rfl
  have f0 := frozen_mk (i := 0) h.top
  have f1 := frozen_mk (i := 1) h.top
  have s1 := fun W => run_slice_to Tryd.underlying23 size_u8 W a bs.length cap n .i64 (by omega)
  have s2 := fun W => run_slice_from Tryd.underlying23 size_u8 W a bs.length cap n .i64 hn
  have hle : decide ((bs.length : Int) < n) = false := by simp; omega
  have H := Lib.hid h
  clear h hcap
  generalize hsub : subA a cap n = a2 at s2
  have HS := Lib.hid hsub
  clear hsub
  go_enter Tryd.func71, Tryd.ntmps71
  go_wp2
  go_ret
  obtain ⟨t1, f2, f3⟩ := H.out.turn (.slice a2 (bs.length - n) (cap - n)) false
  have b2 := H.out.bytes.drop n hn
  rw [HS.out] at b2
  exact ⟨_, _, rfl, (H.out.bytes.take n hn).fr f2, ⟨t1, b2.fr f2, H.out.off⟩, f3⟩

set_option maxRecDepth 100000 in
theorem take_no {K : Nat → Obj → Prop} (w : World) (br : Nat) (v : Value) (bs : List UInt8) (sh : Bool) (n : Nat) (h : RdrAt K w br v bs sh) (hn : sh = true ∨ bs.length < n) (hm : n ≤ 140737488355328) :
    Calls Tryd.prog 71 #[.pointer (some ⟨br, 0, none⟩), .int .i64 n] w fun e w' => e = .returned (.slice none 0 0) ∧ RdrAt K w' br (.slice none 0 0) [] true ∧ Fr (fun b _ => b ≠ br) w w' := by
  obtain ⟨a, cap, rfl⟩ := h.bytes.form
  have c0 := cell_mk (i := 0) h.top rfl
  have c1 := cell_mk (i := 1) h.top rfl
  have f0 := frozen_mk (i := 0) h.top
  have f1 := frozen_mk (i := 1) h.top
  have H := Lib.hid h
  clear h
  cases sh with
  | true =>
    clear hn
    go_enter Tryd.func71, Tryd.ntmps71
    go_wp2
    go_ret
    obtain ⟨t1, f2, f3⟩ := H.out.turn (.slice none 0 0) true
    exact ⟨rfl, ⟨t1, BytesAt.nil _ _, H.out.off⟩, f3⟩
  | false =>
    have hlt : (bs.length : Int) < n := by
      rcases hn with hn | hn
      · cases hn
      · omega
    clear hn
    go_enter Tryd.func71, Tryd.ntmps71
    go_wp2
    go_ret
    obtain ⟨t1, f2, f3⟩ := H.out.turn (.slice none 0 0) true
    exact ⟨rfl, ⟨t1, BytesAt.nil _ _, H.out.off⟩, f3⟩

/-- A number of bytes, the lowest first. -/
def ofLE : List UInt8 → Nat
  | [] => 0
  | b :: r => b.toNat + 256 * ofLE r
theorem ofLE_lt : ∀ l : List UInt8, ofLE l < 256 ^ l.length
  | [] => by decide
  | b :: r => by
    have h1 := ofLE_lt r
    have h2 := UInt8.toNat_lt b
    rw [ofLE, List.length_cons, Nat.pow_succ]
    omega
theorem ofLE_snoc (c : UInt8) : ∀ l : List UInt8, ofLE (l ++ [c]) = ofLE l + c.toNat * 256 ^ l.length
  | [] => by simp [ofLE]
  | b :: r => by
    rw [List.cons_append, ofLE, ofLE_snoc c r, ofLE, List.length_cons, Nat.pow_succ, Nat.mul_add, ← Nat.add_assoc, Nat.mul_comm 256 (c.toNat * _), Nat.mul_assoc]

theorem or_byte (s : Nat) (c : UInt8) (k : Nat) (hs : s < 256 ^ k) (hk : k < 8) :
    bits .or .u64 (s : Int) (IntKind.u64.wrap (IntKind.u64.wrap (c.toNat : Int) * 2 ^ (8 * k))) = ((s + c.toNat * 256 ^ k : Nat) : Int) := by
  have hc := UInt8.toNat_lt c
  have e256 : (256 : Nat) ^ k = 2 ^ (8 * k) := by rw [Nat.pow_mul]
  have hle : (256 : Nat) ^ k ≤ 256 ^ 7 := Nat.pow_le_pow_right (by decide) (by omega)
  have hle' : c.toNat * 256 ^ k ≤ 255 * 256 ^ 7 := Nat.mul_le_mul (by omega) hle
  have h1 : IntKind.u64.wrap (c.toNat : Int) = (c.toNat : Int) := by rw [IntKind.wrap_u64]; omega
  have h2 : IntKind.u64.wrap ((c.toNat : Int) * 2 ^ (8 * k)) = ((c.toNat * 256 ^ k : Nat) : Int) := by
    rw [show (c.toNat : Int) * 2 ^ (8 * k) = ((c.toNat * 256 ^ k : Nat) : Int) from by rw [e256]; simp, IntKind.wrap_u64]
    omega
  rw [h1, h2, bits_or_u64_nat s _ (by omega) (by omega)]
  congr 1
  rw [e256] at hs ⊢
  rw [Nat.or_comm, ← Nat.shiftLeft_eq, ← Nat.shiftLeft_add_eq_or_of_lt hs, Nat.add_comm]

set_option maxRecDepth 100000 in
set_option maxHeartbeats 1000000 in
theorem rnum_ok {K : Nat → Obj → Prop} (w : World) (br : Nat) (v : Value) (bs : List UInt8) (n : Nat) (h : RdrAt K w br v bs false) (h1 : 1 ≤ n) (h8 : n ≤ 8) (hn : n ≤ bs.length) (hm : bs.length ≤ 140737488355328) :
    Calls Tryd.prog 45 #[.pointer (some ⟨br, 0, none⟩), .int .i64 n] w fun e w' => e = .returned (.int .u64 (ofLE (bs.take n) : Nat)) ∧ (∃ v', RdrAt K w' br v' (bs.drop n) false) ∧ Fr (fun b _ => b ≠ br) w w' := by
  have h1' : (1 : Int) ≤ n := by omega
  have h8' : (n : Int) ≤ 8 := by omega
  have H := Lib.hid h
  clear h
  go_enter Tryd.func45, Tryd.ntmps45
  go_wp2_with fail
  (with_reducible refine (take_ok w br v bs n H.out hn hm).mono ?_)
  rintro e w1 ⟨out, v1, rfl, hb, hr, hf⟩
  obtain ⟨a1, cap1, rfl⟩ := hb.form
  have hl : (bs.take n).length = n := by rw [List.length_take]; omega
  rw [hl] at hb ⊢
  generalize hxs : bs.take n = xs at hb hl
  have HX := Lib.hid hxs
  have HB := Lib.hid hb
  have HL := Lib.hid hl
  have HR := Lib.hid hr
  have HF := Lib.hid hf
  clear hxs hb hl hr hf H
  go_wp2
  go_loop [5, 24] (fun s i => ∃ k : Nat, k ≤ n ∧ i = .int .i64 k ∧ s = .int .u64 (ofLE (xs.take k) : Nat)) (fun _ i => n - (intOf i).toNat)
  case atStart => exact ⟨0, Nat.zero_le _, rfl, rfl⟩
  case round =>
    obtain ⟨k, hk, rfl, rfl⟩ := hrel
    by_cases hlt : k < n
    · have hkl : k < xs.length := by have := HL.out; omega
      obtain ⟨b, off, rfl⟩ := HB.out.addr (by omega)
      have g := HB.out.cell hkl
      unfold byteV at g
      have hsn := Lib.hid (ofLE_snoc xs[k] (xs.take k))
      have hup := ofLE_lt (xs.take k)
      generalize ofLE (xs.take k) = s at hsn hup
      generalize hc : xs[k] = c at g hsn
      have HC := Lib.hid hc
      clear hc
      have hkk : (xs.take k).length = k := by rw [List.length_take]; omega
      rw [hkk] at hup
      have HU := Lib.hid hup
      have HK := Lib.hid hkk
      clear hup hkk
      go_wp2
      go_round
      case rel =>
        refine ⟨k + 1, by omega, by go_num, ?_⟩
        rw [List.take_succ_eq_append_getElem hkl, HC.out, hsn.out, HK.out, or_byte s c k HU.out (by omega)]
      case measure => simp [intOf]; omega
    · go_wp2
      go_ret
      have e1 : k = n := by omega
      subst e1
      refine ⟨?_, ⟨v1, HR.out⟩, HF.out⟩
      have e2 : ofLE (bs.take k) = ofLE (xs.take k) := by rw [HX.out, List.take_of_length_le (by have := HL.out; omega)]
      rw [e2]
      rfl

set_option maxRecDepth 100000 in
set_option maxHeartbeats 1000000 in
theorem rnum_no {K : Nat → Obj → Prop} (w : World) (br : Nat) (v : Value) (bs : List UInt8) (sh : Bool) (n : Nat) (h : RdrAt K w br v bs sh) (h1 : 1 ≤ n) (h8 : n ≤ 8) (hn : sh = true ∨ bs.length < n) :
    Calls Tryd.prog 45 #[.pointer (some ⟨br, 0, none⟩), .int .i64 n] w fun e w' => e = .returned (.int .u64 0) ∧ (∃ v', RdrAt K w' br v' [] true) ∧ Fr (fun b _ => b ≠ br) w w' := by
  have h1' : (1 : Int) ≤ n := by omega
  have h8' : (n : Int) ≤ 8 := by omega
  have H := Lib.hid h
  have HN := Lib.hid hn
  clear h hn
  go_enter Tryd.func45, Tryd.ntmps45
  go_wp2_with fail
  (with_reducible refine (take_no w br v bs sh n H.out HN.out (by omega)).mono ?_)
  rintro e w1 ⟨rfl, hr, hf⟩
  have HR := Lib.hid hr
  have HF := Lib.hid hf
  clear hr hf H
  go_wp2
  go_loop [5, 24] (fun s i => s = .int .u64 0 ∧ i = .int .i64 0) (fun _ _ => 0)
  case atStart => exact ⟨rfl, rfl⟩
  case round =>
    obtain ⟨rfl, rfl⟩ := hrel
    go_wp2
    go_ret
    exact ⟨rfl, ⟨_, HR.out⟩, HF.out⟩

/-- What Number gives, and what is left. -/
def numR (bs : List UInt8) (sh : Bool) (n : Nat) : Nat × List UInt8 × Bool := if sh = true ∨ bs.length < n then (0, [], true) else (ofLE (bs.take n), bs.drop n, false)

theorem rnum_calls {K : Nat → Obj → Prop} (w : World) (br : Nat) (v : Value) (bs : List UInt8) (sh : Bool) (n : Nat) (h : RdrAt K w br v bs sh) (h1 : 1 ≤ n) (h8 : n ≤ 8) (hm : bs.length ≤ 140737488355328) :
    Calls Tryd.prog 45 #[.pointer (some ⟨br, 0, none⟩), .int .i64 n] w fun e w' => e = .returned (.int .u64 ((numR bs sh n).1 : Nat)) ∧ (∃ v', RdrAt K w' br v' (numR bs sh n).2.1 (numR bs sh n).2.2) ∧ Fr (fun b _ => b ≠ br) w w' := by
  unfold numR
  by_cases hn : sh = true ∨ bs.length < n
  · rw [if_pos hn]
    exact rnum_no w br v bs sh n h h1 h8 hn
  · rw [if_neg hn]
    have : sh = false := by cases sh <;> simp_all
    subst this
    exact rnum_ok w br v bs n h h1 h8 (by omega) hm

end Go.Proofs.YtaeonlafcbgpcaaDoor
/- slices.Grow and slices.Concat at bytes. -/
namespace Go.Proofs.YtaeonlafcbgpcaaDoor
open Go.RowKit

set_option maxRecDepth 100000 in
theorem grow_nil0 (w : World) : Calls Tryd.prog 70 #[.slice none 0 0, .int .i64 0] w fun e w' => e = .returned (.slice none 0 0) ∧ w = w' := by
  go_enter Tryd.func70, Tryd.ntmps70
  go_wp2
  go_ret
  exact ⟨rfl, rfl⟩

set_option maxRecDepth 100000 in
theorem grow_nil (w : World) (n : Nat) (h0 : 0 < n) (hn : n ≤ 140737488355328) : Calls Tryd.prog 70 #[.slice none 0 0, .int .i64 n] w fun e w' => (∃ cap, e = .returned (.slice (some ⟨w.heap.size, 0, none⟩) 0 cap) ∧ w'.ownsRow w.heap.size 5 1 (.slice (some ⟨w.heap.size, 0, none⟩) 0 cap) 0 []) ∧ Fr (fun _ _ => True) w w' := by
  obtain ⟨i0, hi, hz0, hz1, hz2⟩ := info_parts info_u8
  have hr := fun ty => Lib.run_append_nil_zeros (P := Tryd.prog) w 23 3 ty 5 i0 (.int .u8 0) .i64 .i64 Tryd.underlying23 Tryd.underlying3 hi hz0 n h0 (by omega) (by omega) (by rw [hz2]; omega)
  have HR := Lib.hid hr
  have hn' : (0 : Int) < n := by omega
  clear hr
  go_enter Tryd.func70, Tryd.ntmps70
  go_wp2_with (at_builtin; refine Lib.wpList_append_run _ rfl _ _ 23 3 rfl _ _ rfl rfl _ _ (HR.out _) ?_)
  go_ret
  refine ⟨⟨_, rfl, ⟨rfl, .inr ⟨w.heap.size, _, _, rfl, Nat.le_refl _, heap_alloc_new w _, Nat.zero_le _, grownCap_le_maxLen _ _ _ _ (by unfold maxLen; omega), ?_, by simp⟩⟩⟩, ((Fr.refl _ _).alloc _).drew⟩
  have := grownCap_ge w n 0 5
  simp only [Array.size_append, size_zeroCells]
  simp
  omega

theorem grow_any (w : World) (n : Nat) (hn : n ≤ 140737488355328) : Calls Tryd.prog 70 #[.slice none 0 0, .int .i64 n] w fun e w' => (∃ v, e = .returned v ∧ w'.ownsRow w.heap.size 5 1 v 0 []) ∧ Fr (fun _ _ => True) w w' := by
  by_cases h0 : n = 0
  · subst h0
    exact (grow_nil0 w).mono fun e w' ⟨he, hw⟩ => ⟨⟨_, he, rfl, .inl ⟨rfl, rfl⟩⟩, hw ▸ Fr.refl _ _⟩
  · exact (grow_nil w n (by omega) hn).mono fun e w' ⟨⟨cap, he, ho⟩, hf⟩ => ⟨⟨_, he, ho⟩, hf⟩

/-- The slices at a place, one behind the other, read as bss. -/
def ListsAt (K : Nat → Obj → Prop) (w : World) (b off : Nat) (bss : List (List UInt8)) : Prop := ∀ i, (h : i < bss.length) → ∃ v, w.cell? ⟨b, off + i, none⟩ = some v ∧ BytesAt K w v bss[i]

def sizes (bss : List (List UInt8)) : Nat := bss.flatten.length
theorem sizes_snoc (l : List (List UInt8)) (x : List UInt8) : sizes (l ++ [x]) = sizes l + x.length := by simp [sizes]
theorem flatten_snoc (l : List (List UInt8)) (x : List UInt8) : (l ++ [x]).flatten = l.flatten ++ x := by simp
theorem sizes_le (l : List (List UInt8)) (k : Nat) : sizes (l.take k) ≤ sizes l := by
  have := congrArg List.length (congrArg List.flatten (List.take_append_drop k l))
  simp only [List.flatten_append, List.length_append] at this
  unfold sizes
  omega

set_option maxRecDepth 100000 in
set_option maxHeartbeats 1000000 in
theorem concat_calls {K : Nat → Obj → Prop} (w : World) (b off m c : Nat) (bss : List (List UInt8)) (hm : bss.length = m) (hl : ListsAt K w b off bss) (hs : sizes bss ≤ 140737488355328) (hmm : m ≤ 1000) (hb : b < w.heap.size) :
    Calls Tryd.prog 39 #[.slice (some ⟨b, off, none⟩) m c] w fun e w' => (∃ v, e = .returned v ∧ w'.ownsRow w.heap.size 5 1 v bss.flatten.length (bss.flatten.map byteV)) ∧ Fr (fun _ _ => True) w w' := by
  have HL := Lib.hid hl
  have HM := Lib.hid hm
  have HS := Lib.hid hs
  clear hl hm hs
  obtain ⟨i0, hi, hz0, hz1, hz2⟩ := info_parts info_u8
  have HI := Lib.hid (And.intro hi (And.intro hz0 (And.intro hz1 hz2)))
  clear hi hz0 hz1 hz2
  go_enter Tryd.func39, Tryd.ntmps39
  go_wp2
  go_loop [3, 11] (fun s i => ∃ k : Nat, k ≤ m ∧ i = .int .i64 k ∧ s = .int .i64 (sizes (bss.take k) : Nat)) (fun _ i => m - (intOf i).toNat)
  case atStart => exact ⟨0, Nat.zero_le _, rfl, rfl⟩
  case round =>
    obtain ⟨k, hk, rfl, rfl⟩ := hrel
    have h1 := sizes_le bss k
    have h1' := sizes_le bss (k + 1)
    have hs' := HS.out
    by_cases hlt : k < m
    · have hkl : k < bss.length := by have := HM.out; omega
      obtain ⟨v, g, hv⟩ := HL.out k hkl
      obtain ⟨a, cap, rfl⟩ := hv.form
      have hsn : sizes (bss.take (k + 1)) = sizes (bss.take k) + bss[k].length := by rw [List.take_succ_eq_append_getElem hkl, sizes_snoc]
      have HSN := Lib.hid hsn
      rw [hsn] at h1'
      clear hsn hv
      generalize sizes (bss.take k) = s at HSN h1 h1'
      generalize hL : bss[k].length = L at HSN h1' g
      have hneg : (s : Int) + L ≥ 0 := by omega
      clear hL
      go_wp2
      go_round
      case rel => exact ⟨k + 1, by omega, by go_num, by rw [HSN.out]; go_num⟩
      case measure => simp [intOf]; omega
    · obtain rfl : k = m := by omega
      have e1 : bss.take k = bss := List.take_of_length_le (by have := HM.out; omega)
      rw [e1]
      clear e1 hlt h1 h1'
      go_wp2_with fail
      (with_reducible refine (grow_any _ _ hs').mono ?_)
      rintro e w1 ⟨⟨v1, rfl, o1⟩, f1⟩
      have O1 := Lib.hid o1
      have F1 := Lib.hid f1
      clear o1 f1
      go_wp2
      go_loopw [6, 27] (fun v i wr => ∃ j : Nat, j ≤ k ∧ i = .int .i64 j ∧ wr.ownsRow w.heap.size 5 1 v (bss.take j).flatten.length ((bss.take j).flatten.map byteV) ∧ Fr (fun _ _ => True) w wr) (fun _ i _ => k - (intOf i).toNat)
      case atStart => exact ⟨0, Nat.zero_le _, rfl, O1.out, F1.out⟩
      case round =>
        obtain ⟨j, hj, rfl, ho, hf⟩ := hrel
        have hsz := sizes_le bss j
        unfold sizes at hsz hs'
        generalize hcur : (bss.take j).flatten = cur at ho hsz
        have HC := Lib.hid hcur
        clear hcur
        have HO := Lib.hid ho
        have HF := Lib.hid hf
        clear ho hf O1 F1
        by_cases hlt : j < k
        · have hkl : j < bss.length := by have := HM.out; omega
          obtain ⟨v, g0, hv⟩ := HL.out j hkl
          have g := HF.out.cell (fun _ _ => trivial) g0
          have HV := Lib.hid (hv.tt HF.out)
          obtain ⟨a, cap, rfl⟩ := hv.form
          have hq : Hid ((bss.take (j + 1)).flatten = cur ++ bss[j]) := by
            rw [List.take_succ_eq_append_getElem hkl, flatten_snoc, HC.out]; rfl
          have hx : cur.length + bss[j].length ≤ 140737488355328 := by
            have h1 := sizes_le bss (j + 1)
            unfold sizes at h1
            rw [hq.out, List.length_append] at h1
            omega
          generalize hy : bss[j] = y at HV hq hx g
          clear hy
          clear g0 hv
          obtain ⟨hi, hz0, hz1, hz2⟩ := HI.out
          go_wp2_with (at_builtin; refine wpList_append_src _ rfl _ _ 23 rfl w.heap.size 5 i0 (.int .u8 0) 1 1 Tryd.underlying23 hi hz0 hz1 hz2 rfl (by decide) _ _ _ rfl HO.out _ _ _ rfl HV.out.src ?c2 ?c3 ?c4 ?_)
          case c2 => unfold maxLen; omega
          case c3 => omega
          case c4 => exact HF.out.size
          intro v2 w2 o2 g2 _
          have F2 := Lib.hid (HF.out.grown_new g2 fun q e => by
            rcases HO.out.2 with ⟨h, _⟩ | ⟨g', _, _, h, hle, _⟩
            · rw [h] at e; cases e
            · rw [h] at e; cases e; exact hle)
          rw [← List.length_append, ← List.map_append, ← hq.out] at o2
          have O2 := Lib.hid o2
          clear o2 g2 hi hz0 hz1 hz2
          go_wp2
          go_roundw
          case rel => exact ⟨j + 1, by omega, by go_num, O2.out, F2.out⟩
          case measure => simp [intOf]; omega
        · have e1 : bss.take j = bss := List.take_of_length_le (by have := HM.out; omega)
          have o := HO.out
          rw [← HC.out, e1] at o
          have O := Lib.hid o
          clear o e1
          go_wp2
          go_ret
          exact ⟨⟨_, rfl, O.out⟩, HF.out⟩
end Go.Proofs.YtaeonlafcbgpcaaDoor
/- Package check: the sum of bytes. -/
namespace Go.Proofs.YtaeonlafcbgpcaaDoor
open Go.RowKit

def tbl : List Nat := [0, 498536548, 997073096, 651767980, 1994146192, 1802195444, 1303535960, 1342533948, 3988292384, 4027552580, 3604390888, 3412177804, 2607071920, 2262029012, 2685067896, 3183342108]
def tb (i : Nat) : Nat := tbl.getD i 0
/-- The table stands in block 0. -/
def TabOK (w : World) : Prop := ∀ i, i < 16 → w.cell? ⟨0, i, none⟩ = some (.int .u32 (tb i : Nat))

def nib (s : Nat) : Nat := (s / 16) ^^^ tb (s % 16)
def step8 (s : Nat) (c : UInt8) : Nat := nib (nib (s ^^^ c.toNat))
def crc (l : List UInt8) : Nat := l.foldl step8 4294967295
def sumOf (l : List UInt8) : Nat := 4294967295 - crc l

theorem xor_u32_lt {a b : Nat} (ha : a < 4294967296) (hb : b < 4294967296) : a ^^^ b < 4294967296 := Nat.xor_lt_two_pow (n := 32) ha hb
theorem tb_lt (i : Nat) (h : i < 16) : tb i < 4294967296 := by
  have : ∀ j, j < 16 → tb j < 4294967296 := by decide
  exact this i h
theorem nib_lt {s : Nat} (h : s < 4294967296) : nib s < 4294967296 := xor_u32_lt (by omega) (tb_lt _ (by omega))
theorem step8_lt {s : Nat} (h : s < 4294967296) (c : UInt8) : step8 s c < 4294967296 := nib_lt (nib_lt (xor_u32_lt h (by have := UInt8.toNat_lt c; omega)))
theorem crc_lt : ∀ l : List UInt8, crc l < 4294967296 := by
  intro l
  unfold crc
  have : ∀ (l : List UInt8) (s : Nat), s < 4294967296 → l.foldl step8 s < 4294967296 := by
    intro l
    induction l with
    | nil => intro s h; exact h
    | cons c r ih => intro s h; exact ih _ (step8_lt h c)
  exact this l _ (by decide)

theorem and15 (x : Nat) : x &&& 15 = x % 16 := Nat.and_two_pow_sub_one_eq_mod x 4
/-- One half byte, in the walk's spelling. -/
theorem nib_facts (w : World) (ht : TabOK w) (x : Nat) (hx : x < 4294967296) : ∃ i t y : Nat, bits .and .u32 (x : Int) 15 = (i : Int) ∧ (i : Int) < 16 ∧ w.cell? ⟨0, i, none⟩ = some (.int .u32 (t : Int)) ∧ bits .xor .u32 ((x : Int) / 16) (t : Int) = (y : Int) ∧ y < 4294967296 ∧ Hid (y = nib x) := by
  refine ⟨x % 16, tb (x % 16), nib x, ?_, by omega, ht _ (by omega), ?_, nib_lt hx, rfl⟩
  · have := u32_and_nat x 15 hx (by decide)
    rw [and15] at this
    exact this
  · have := u32_xor_nat (x / 16) (tb (x % 16)) (by omega) (tb_lt _ (by omega))
    exact this
theorem xor_facts (s : Nat) (c : UInt8) (hs : s < 4294967296) : ∃ x : Nat, bits .xor .u32 (s : Int) ((c.toNat : Int) % 4294967296) = (x : Int) ∧ x < 4294967296 ∧ Hid (x = s ^^^ c.toNat) := by
  have hc := UInt8.toNat_lt c
  refine ⟨s ^^^ c.toNat, ?_, xor_u32_lt hs (by omega), rfl⟩
  rw [show ((c.toNat : Int) % 4294967296) = ((c.toNat : Nat) : Int) from by omega]
  exact u32_xor_nat s c.toNat hs (by omega)

theorem xor_all (s : Nat) (hs : s < 4294967296) : 4294967295 ^^^ s = 4294967295 - s := by
  have h : (BitVec.allOnes 32 ^^^ BitVec.ofNat 32 s).toNat = (~~~(BitVec.ofNat 32 s)).toNat := by rw [BitVec.allOnes_xor]
  rw [BitVec.toNat_xor, BitVec.toNat_not, BitVec.toNat_allOnes, BitVec.toNat_ofNat, Nat.mod_eq_of_lt hs] at h
  exact h
theorem not_u32 (s : Nat) (hs : s < 4294967296) : bits .xor .u32 IntKind.u32.max (s : Int) = ((4294967295 - s : Nat) : Int) := by
  have := u32_xor_nat 4294967295 s (by decide) hs
  rw [xor_all s hs] at this
  exact this

set_option maxRecDepth 100000 in
set_option maxHeartbeats 1000000 in
theorem sum_calls {K : Nat → Obj → Prop} (w : World) (v : Value) (bs : List UInt8) (ht : TabOK w) (h : BytesAt K w v bs) (hm : bs.length ≤ 140737488355328) :
    Calls Tryd.prog 41 #[v] w fun e w' => e = .returned (.int .u32 (sumOf bs : Nat)) ∧ w = w' := by
  obtain ⟨a, cap, rfl⟩ := h.form
  have HB := Lib.hid h
  have HT := Lib.hid ht
  clear h ht
  generalize hn : bs.length = n at hm
  have HN := Lib.hid hn
  clear hn
  go_enter Tryd.func41, Tryd.ntmps41
  go_wp2
  go_loop [3, 8] (fun s i => ∃ k : Nat, k ≤ n ∧ i = .int .i64 k ∧ s = .int .u32 (crc (bs.take k) : Nat)) (fun _ i => n - (intOf i).toNat)
  case atStart => exact ⟨0, Nat.zero_le _, rfl, rfl⟩
  case round =>
    obtain ⟨k, hk, rfl, rfl⟩ := hrel
    have hlt0 := crc_lt (bs.take k)
    by_cases hlt : k < n
    · have hkl : k < bs.length := by have := HN.out; omega
      have hb' : BytesAt K w (.slice a n cap) bs := by have := HB.out; rwa [HN.out] at this
      obtain ⟨b, off, rfl⟩ := hb'.addr (by omega)
      have g := hb'.cell hkl
      unfold byteV at g
      clear hb'
      have hst : Hid (crc (bs.take (k + 1)) = step8 (crc (bs.take k)) bs[k]) := by
        rw [List.take_succ_eq_append_getElem hkl, crc, List.foldl_append]; rfl
      generalize crc (bs.take k) = s at hst hlt0
      generalize hc : bs[k] = c at g hst
      have HC := Lib.hid hc
      clear hc
      obtain ⟨x0, e0, l0, X0⟩ := xor_facts s c hlt0
      obtain ⟨i1, t1, x1, a1, b1, c1, d1, l1, X1⟩ := nib_facts w HT.out x0 l0
      obtain ⟨i2, t2, x2, a2, b2, c2, d2, l2, X2⟩ := nib_facts w HT.out x1 l1
      have hfin : Hid (x2 = step8 s c) := by unfold step8; rw [← X0.out, ← X1.out]; exact X2.out
      go_wp2
      go_round
      case rel => exact ⟨k + 1, by omega, by go_num, by rw [hst.out, ← hfin.out]⟩
      case measure => simp [intOf]; omega
    · have hk' : k = n := by omega
      have e2 : Hid (crc (bs.take k) = crc bs) := by rw [List.take_of_length_le (by have := HN.out; omega)]; rfl
      generalize crc (bs.take k) = s at e2 hlt0
      go_wp2
      go_ret
      refine ⟨?_, rfl⟩
      rw [sumOf, ← e2.out, ← not_u32 s hlt0]
      rfl
end Go.Proofs.YtaeonlafcbgpcaaDoor
/- Package slot: Stamp. -/
namespace Go.Proofs.YtaeonlafcbgpcaaDoor
open Go.RowKit

/-- Where a Writer's bytes lie behind a step: where they lay, or in new memory. -/
def Lies (n : Nat) (v v' : Value) : Prop := v'.ownBlock = v.ownBlock ∨ ∀ k, v'.ownBlock = some k → n ≤ k
theorem Fr.chain {bw n : Nat} {v v1 : Value} {w w1 w2 : World} (h1 : Fr (KW bw v) w w1) (hv : Lies n v v1) (hn : w.heap.size ≤ n) (h2 : Fr (KW bw v1) w1 w2) : Fr (KW bw v) w w2 := by
  refine ⟨h2.os.trans h1.os, h2.tape.trans h1.tape, h2.output.trans h1.output, Nat.le_trans h1.size h2.size, fun b o hb hk => ?_⟩
  refine h2.keep b o (h1.keep b o hb hk) ⟨hk.1, fun e => ?_⟩
  rcases hv with hv | hv
  · exact hk.2 (hv ▸ e)
  · have := hv b e; have := lt_of_some hb; omega
theorem Lies.chain {n m : Nat} {v v1 v2 : Value} (h1 : Lies n v v1) (h2 : Lies m v1 v2) (hm : n ≤ m) : Lies n v v2 := by
  rcases h2 with h2 | h2
  · rcases h1 with h1 | h1
    · exact .inl (h2.trans h1)
    · exact .inr fun k e => h1 k (h2 ▸ e)
  · exact .inr fun k e => Nat.le_trans hm (h2 k e)
/-- Nothing older than a is touched. -/
theorem Fr.old_trans {K : Nat → Obj → Prop} {a w w' : World} (h : Fr (fun _ _ => True) a w) (hf : Fr K w w') (hk : ∀ b o, b < a.heap.size → K b o) : Fr (fun _ _ => True) a w' :=
  ⟨hf.os.trans h.os, hf.tape.trans h.tape, hf.output.trans h.output, Nat.le_trans h.size hf.size, fun b o hb _ => hf.keep b o (h.keep b o hb trivial) (hk b o (lt_of_some hb))⟩
theorem TabOK.tt {w w' : World} (h : TabOK w) (hf : Fr (fun _ _ => True) w w') : TabOK w' := fun i hi => hf.cell (fun _ _ => trivial) (h i hi)

theorem wnum_calls (w : World) (bw : Nat) (v : Value) (bs : List UInt8) (n : Nat) (size : Nat) (nz sz : Int) (hnz : nz = n) (hsz : sz = size) (h : WrAt w bw v bs) (h1 : 1 ≤ size) (h8 : size ≤ 8) (hn : n < 18446744073709551616) (hb : bs.length ≤ 1000000) :
    Calls Tryd.prog 38 #[.pointer (some ⟨bw, 0, none⟩), .int .u64 nz, .int .i64 sz] w fun e w' => e = .returned (.tuple #[]) ∧ (∃ v', WrAt w' bw v' (bs ++ le n size) ∧ Lies w.heap.size v v') ∧ Fr (KW bw v) w w' := by
  subst hnz hsz
  exact (wnum_main w bw v bs n size h h1 h8 hn hb).mono fun _ _ ⟨he, v', h1, h2, h3⟩ => ⟨he, ⟨v', h1, h3⟩, h2⟩

set_option maxRecDepth 100000 in
theorem out_calls (w : World) (bw : Nat) (v : Value) (bs : List UInt8) (h : WrAt w bw v bs) (hb : bs.length ≤ 1000000) :
    Calls Tryd.prog 40 #[.pointer (some ⟨bw, 0, none⟩)] w fun e w' => (∃ a cap, e = .returned (.slice a bs.length cap) ∧ BytesAt (New w.heap.size) w' (.slice a bs.length cap) bs) ∧ Fr (fun _ _ => True) w w' := by
  have hc : w.cell? ⟨bw, 0, none⟩ = some v := cell_mk h.top rfl
  have hcl := clone_calls w v bs (BytesAt.of_owns h.own) (by omega)
  have HC := Lib.hid hcl
  clear hcl h
  go_enter Tryd.func40, Tryd.ntmps40
  go_wp2_with fail
  (with_reducible refine HC.out.mono ?_)
  rintro e w1 ⟨a, cap, rfl, hb1, hf1⟩
  have HB := Lib.hid hb1
  have HF := Lib.hid hf1
  clear hb1 hf1
  go_wp2
  go_ret
  exact ⟨⟨_, _, rfl, HB.out⟩, HF.out⟩

set_option maxRecDepth 100000 in
theorem ends_calls (w : World) (bw : Nat) (v : Value) (bs : List UInt8) (s p : Nat) (h : WrAt w bw v bs) (hs : s < 4294967296) (hp : p < 4294967296) (hb : bs.length ≤ 1000) :
    Calls Tryd.prog 37 #[.pointer (some ⟨bw, 0, none⟩), .int .u32 s, .int .u32 p] w fun e w' => e = .returned (.tuple #[]) ∧ (∃ v', WrAt w' bw v' (bs ++ (le s 4 ++ le p 4)) ∧ Lies w.heap.size v v') ∧ Fr (KW bw v) w w' := by
  have H := Lib.hid h
  clear h
  go_enter Tryd.func37, Tryd.ntmps37
  go_wp2_with fail
  (with_reducible refine (wnum_calls w bw v bs s 4 _ _ rfl (by omega) H.out (by decide) (by decide) (by omega) (by omega)).mono ?_)
  rintro e w1 ⟨rfl, ⟨v1, h1, l1⟩, f1⟩
  have H1 := Lib.hid h1
  have L1 := Lib.hid l1
  have F1 := Lib.hid f1
  clear h1 l1 f1
  go_wp2_with fail
  have hl : (bs ++ le s 4).length ≤ 2000 := by rw [List.length_append, le_length]; omega
  (with_reducible refine (wnum_calls w1 bw v1 _ p 4 _ _ rfl (by omega) H1.out (by decide) (by decide) (by omega) (by omega)).mono ?_)
  rintro e w2 ⟨rfl, ⟨v2, h2, l2⟩, f2⟩
  rw [List.append_assoc] at h2
  have H2 := Lib.hid h2
  have L2 := Lib.hid (L1.out.chain l2 F1.out.size)
  have F2 := Lib.hid (F1.out.chain L1.out (Nat.le_refl _) f2)
  clear h2 l2 f2 hl
  go_wp2
  go_end0
  exact ⟨rfl, ⟨v2, H2.out, L2.out⟩, F2.out⟩

def stampHead (s p : Nat) (b : List UInt8) : List UInt8 := (le s 4 ++ le p 4) ++ ([UInt8.ofNat b.length] ++ (b ++ List.replicate (43 - b.length) 0))
def stampB (s p : Nat) (b : List UInt8) : List UInt8 := stampHead s p b ++ (le (sumOf (stampHead s p b)) 4 ++ (le s 4 ++ le p 4))
theorem stampHead_length (s p : Nat) (b : List UInt8) (h : b.length ≤ 43) : (stampHead s p b).length = 52 := by
  simp [stampHead, le_length]; omega
theorem stampB_length (s p : Nat) (b : List UInt8) (h : b.length ≤ 43) : (stampB s p b).length = 64 := by
  simp [stampB, le_length, stampHead_length s p b h]
theorem sumOf_lt (l : List UInt8) : sumOf l < 4294967296 := by unfold sumOf; omega

/-- So many zeros. -/
def zeros (n : Nat) : Array Value := (List.replicate n (.int .u8 0)).toArray
theorem make_bytes (w : World) (n : Nat) (z : Int) (hz : z = n) (hn : n ≤ 100000) : (Instr.makeSlice 23 (.int .i64 z) (.int .i64 z)).run Tryd.prog w = .ok (.slice (some ⟨w.heap.size, 0, none⟩) n n) (w.alloc (.cells (zeros n) 5 (0, 0))) := by
  subst hz
  obtain ⟨i0, hi, hz0, hz1, hz2⟩ := info_parts info_u8
  have hr := run_make (P := Tryd.prog) w 23 5 i0 (.int .u8 0) Tryd.underlying23 hi hz0 .i64 .i64 n n (by omega) (Int.le_refl _) (by rw [hz2]; omega) (by omega)
  simp only [Int.toNat_natCast] at hr
  rw [hr, hz1, Nat.mul_one]
  have e : madeCells (Value.int .u8 0).cells n = zeros n := by
    apply Array.toList_inj.1
    rw [show (Value.int .u8 0).cells = #[.int .u8 0] from rfl, toList_madeCells_one]
    rfl
  rw [e]
theorem BytesAt.zeros (w : World) (n : Nat) : BytesAt (New w.heap.size) (w.alloc (.cells (zeros n) 5 (0, 0))) (.slice (some ⟨w.heap.size, 0, none⟩) n n) (List.replicate n 0) := by
  refine ⟨_, n, by simp, by simp, (fun e => by cases e), .inr ⟨w.heap.size, 0, _, rfl, heap_alloc_new _ _, ⟨Nat.le_refl _, _, _, rfl⟩, fun i hi => ?_⟩⟩
  have hi' : i < n := by simpa using hi
  refine cell_mk (heap_alloc_new _ _) ?_
  simp [Go.Proofs.YtaeonlafcbgpcaaDoor.zeros, hi', byteV]

theorem WrAt.tt {w w' : World} {bw : Nat} {v : Value} {bs : List UInt8} (h : WrAt w bw v bs) (hf : Fr (fun _ _ => True) w w') : WrAt w' bw v bs :=
  ⟨hf.keep _ _ h.top trivial, ownsRow_fr h.own hf (fun _ _ _ _ => trivial)⟩
theorem WrAt.new (w : World) : WrAt (w.alloc (.cells #[.slice none 0 0] 69 (0, 0))) w.heap.size (.slice none 0 0) [] :=
  ⟨heap_alloc_new _ _, rfl, .inl ⟨rfl, rfl⟩⟩
theorem Lies.new {n : Nat} {v' : Value} (h : Lies n (.slice none 0 0) v') : ∀ k, v'.ownBlock = some k → n ≤ k := by
  rcases h with h | h
  · intro k e; rw [h] at e; cases e
  · exact h

theorem BytesAt.any {K : Nat → Obj → Prop} {w w' : World} {v : Value} {bs : List UInt8} (h : BytesAt K w v bs) (hf : Fr (fun _ _ => True) w w') : BytesAt (fun _ _ => True) w' v bs := (h.mono fun _ _ _ _ => trivial).fr hf
theorem concat3 {K0 K1 K2 : Nat → Obj → Prop} (W : World) (B : Nat) (v0 v1 v2 : Value) (b0 b1 b2 : List UInt8) (hB : W.heap[B]? = some (.cells #[v0, v1, v2] 23 (0, 0))) (h0 : BytesAt K0 W v0 b0) (h1 : BytesAt K1 W v1 b1) (h2 : BytesAt K2 W v2 b2) (hs : b0.length + b1.length + b2.length ≤ 140737488355328) (r : List UInt8) (n : Nat) (hr : b0 ++ (b1 ++ b2) = r) (hn : r.length = n) :
    Calls Tryd.prog 39 #[.slice (some ⟨B, 0, none⟩) 3 3] W fun e w' => (∃ a cap, e = .returned (.slice a n cap) ∧ BytesAt (New W.heap.size) w' (.slice a n cap) r) ∧ Fr (fun _ _ => True) W w' := by
  have hl : ListsAt (fun _ _ => True) W B 0 [b0, b1, b2] := by
    intro i hi
    match i, hi with
    | 0, _ => exact ⟨v0, cell_mk hB rfl, h0.any (Fr.refl _ _)⟩
    | 1, _ => exact ⟨v1, cell_mk hB rfl, h1.any (Fr.refl _ _)⟩
    | 2, _ => exact ⟨v2, cell_mk hB rfl, h2.any (Fr.refl _ _)⟩
  refine (concat_calls W B 0 3 3 [b0, b1, b2] rfl hl (by simp [sizes]; omega) (by decide) (lt_of_some hB)).mono fun e w' ⟨⟨v, he, ho⟩, hf⟩ => ⟨?_, hf⟩
  subst hn
  have e1 : [b0, b1, b2].flatten = r := by rw [← hr]; simp
  rw [e1] at ho
  have hb := BytesAt.of_owns ho
  obtain ⟨a, cap, rfl⟩ := hb.form
  exact ⟨a, cap, he, hb⟩
theorem concat2 {K0 K1 : Nat → Obj → Prop} (W : World) (B : Nat) (v0 v1 : Value) (b0 b1 : List UInt8) (hB : W.heap[B]? = some (.cells #[v0, v1] 23 (0, 0))) (h0 : BytesAt K0 W v0 b0) (h1 : BytesAt K1 W v1 b1) (hs : b0.length + b1.length ≤ 140737488355328) (r : List UInt8) (n : Nat) (hr : b0 ++ b1 = r) (hn : r.length = n) :
    Calls Tryd.prog 39 #[.slice (some ⟨B, 0, none⟩) 2 2] W fun e w' => (∃ a cap, e = .returned (.slice a n cap) ∧ BytesAt (New W.heap.size) w' (.slice a n cap) r) ∧ Fr (fun _ _ => True) W w' := by
  have hl : ListsAt (fun _ _ => True) W B 0 [b0, b1] := by
    intro i hi
    match i, hi with
    | 0, _ => exact ⟨v0, cell_mk hB rfl, h0.any (Fr.refl _ _)⟩
    | 1, _ => exact ⟨v1, cell_mk hB rfl, h1.any (Fr.refl _ _)⟩
  refine (concat_calls W B 0 2 2 [b0, b1] rfl hl (by simp [sizes]; omega) (by decide) (lt_of_some hB)).mono fun e w' ⟨⟨v, he, ho⟩, hf⟩ => ⟨?_, hf⟩
  subst hn
  have e1 : [b0, b1].flatten = r := by rw [← hr]; simp
  rw [e1] at ho
  have hb := BytesAt.of_owns ho
  obtain ⟨a, cap, rfl⟩ := hb.form
  exact ⟨a, cap, he, hb⟩

set_option maxRecDepth 100000 in
theorem stamp_long (w : World) (s p : Int) (a : Option Addr) (len cap : Nat) (hl : 43 < len) :
    Calls Tryd.prog 13 #[.int .u32 s, .int .u32 p, .slice a len cap] w fun e w' => e = .returned (.tuple #[.slice none 0 0, .int .i64 2]) ∧ w = w' := by
  have hl' : (43 : Int) < len := by omega
  go_enter Tryd.func13, Tryd.ntmps13
  go_wp2
  go_ret2
  exact ⟨rfl, rfl⟩

set_option maxRecDepth 100000 in
set_option maxHeartbeats 1000000 in
theorem stamp_ok {K : Nat → Obj → Prop} (w : World) (s p : Nat) (a : Option Addr) (len cap : Nat) (b : List UInt8) (hb : BytesAt K w (.slice a len cap) b) (ht : TabOK w) (hs : s < 4294967296) (hp : p < 4294967296) (hl : len ≤ 43) :
    Calls Tryd.prog 13 #[.int .u32 s, .int .u32 p, .slice a len cap] w fun e w' => (∃ a' cap', e = .returned (.tuple #[.slice a' 64 cap', .int .i64 0]) ∧ BytesAt (New w.heap.size) w' (.slice a' 64 cap') (stampB s p b)) ∧ Fr (fun _ _ => True) w w' := by
  have hl' : (len : Int) ≤ 43 := by omega
  have HL := Lib.hid hb.len
  have HB := Lib.hid hb
  have HT := Lib.hid ht
  clear hb ht
  go_enter Tryd.func13, Tryd.ntmps13
  go_wp2_with fail
  (with_reducible refine (ends_calls _ w.heap.size _ [] s p (WrAt.new w) hs hp (by decide)).mono ?_)
  rintro e w1 ⟨rfl, ⟨v1, h1, l1⟩, f1⟩
  rw [List.nil_append] at h1
  have H1 := Lib.hid h1
  have L1 := Lib.hid l1
  have F1 := Lib.hid f1
  clear h1 l1 f1
  go_wp2_with fail
  (with_reducible refine (wnum_calls w1 w.heap.size v1 _ len 1 _ _ rfl (by omega) H1.out (by decide) (by decide) (by omega) (by rw [List.length_append, le_length, le_length]; omega)).mono ?_)
  rintro e w2 ⟨rfl, ⟨v2, h2, l2⟩, f2⟩
  have G1 : Fr (fun _ _ => True) w w1 := ((Fr.refl _ _).alloc _).old_trans F1.out fun b o hb => ⟨by omega, by simp [Value.ownBlock]⟩
  have G2 : Fr (fun _ _ => True) w w2 := G1.old_trans f2 fun b o hb => ⟨by omega, fun e => by have := L1.out.new b e; simp at this; omega⟩
  have HG := Lib.hid G2
  have hx9 : (le s 4 ++ le p 4 ++ le len 1).length = 9 := by simp [le_length]
  generalize hx2 : le s 4 ++ le p 4 ++ le len 1 = x2 at h2 hx9
  have HX := Lib.hid hx2
  have H9 := Lib.hid hx9
  have H2 := Lib.hid h2
  clear h2 l2 f2 H1 L1 F1 G1 G2 hx2 hx9
  have hw43 : IntKind.i64.wrap (43 - (len : Int)) = 43 - (len : Int) := IntWalk.i64_in _ (by omega)
  have hmk := fun (W : World) => make_bytes W (43 - len) (43 - (len : Int)) (by omega) (by omega)
  have E52 : Hid (x2 ++ (b ++ List.replicate (43 - len) 0) = stampHead s p b) := by
    rw [← HX.out, HL.out, stampHead, List.append_assoc (le s 4 ++ le p 4)]
    rfl
  have L52 := Lib.hid (stampHead_length s p b (by have := HL.out; omega))
  go_upto_region 6 with fail
  go_cut [9] (fun s9 wx => ∃ a9 c9, s9 = .slice a9 52 c9 ∧ BytesAt (New w.heap.size) wx (.slice a9 52 c9) (stampHead s p b) ∧ Fr (fun _ _ => True) w wx)
  case first =>
    go_region_with (first | (go_at_call 40; (with_reducible refine (out_calls _ w.heap.size v2 _ (by first | exact H2.out.tt (Fr.refl _ _).drew | exact H2.out.tt ((Fr.refl _ _).alloc _).drew) (by have := H9.out; omega)).mono ?_); rintro e w4 ⟨⟨a4, c4, rfl, b4⟩, f4⟩) | (go_at_call 39; (with_reducible refine (concat3 _ _ _ _ _ x2 b (List.replicate (43 - len) 0) (heap_alloc_at (by simp) _) (b4.tt (((Fr.refl _ _).alloc _).alloc _)) (HB.out.tt (((HG.out.drew.tt f4).alloc _).alloc _)) ((BytesAt.zeros w4 (43 - len)).tt ((Fr.refl _ _).alloc _)) (by have := H9.out; have := HL.out; simp; omega) (stampHead s p b) 52 E52.out L52.out).mono ?_); rintro e w5 ⟨⟨a5, c5, rfl, b5⟩, f5⟩; have F5 := Lib.hid ((((HG.out.drew.tt f4).alloc _).alloc _).tt f5)) | (go_at_call 39; (with_reducible refine (concat3 _ _ _ _ _ x2 b (List.replicate (43 - len) 0) (heap_alloc_at (by simp) _) (b4.tt ((Fr.refl _ _).alloc _)) (HB.out.tt (((HG.out.alloc _).drew.tt f4).alloc _)) ((BytesAt.zeros w2 (43 - len)).tt (((Fr.refl _ _).drew.tt f4).alloc _)) (by have := H9.out; have := HL.out; simp; omega) (stampHead s p b) 52 E52.out L52.out).mono ?_); rintro e w5 ⟨⟨a5, c5, rfl, b5⟩, f5⟩; have F5 := Lib.hid ((((HG.out.alloc _).drew.tt f4).alloc _).tt f5)))
    all_goals
      have B5 := Lib.hid (b5.mono (K' := New w.heap.size) fun q o _ h => ⟨by have := F5.out.size; have := h.1; have := HG.out.size; have := f4.size; simp at *; omega, h.2⟩)
      clear b5 f5 f4 b4
      go_wp2_with fail
      go_meet
      exact ⟨a5, c5, rfl, B5.out, F5.out⟩
  case rest =>
    obtain ⟨a9, c9, rfl, hb9, hf9⟩ := hcut
    obtain ⟨wx, rfl⟩ : ∃ wx, wx = wc := ⟨_, rfl⟩
    have HB9 := Lib.hid hb9
    have HF9 := Lib.hid hf9
    clear hb9 hf9 hmk hw43
    go_wp2_with fail
    (with_reducible refine (sum_calls _ _ (stampHead s p b) (HT.out.tt (HF9.out.alloc _)) (HB9.out.tt ((Fr.refl _ _).alloc _)) (by have := L52.out; omega)).mono ?_)
    rintro e w5 ⟨rfl, rfl⟩
    have hsl := sumOf_lt (stampHead s p b)
    generalize hsm : sumOf (stampHead s p b) = sm at hsl
    have HS := Lib.hid hsm
    clear hsm
    go_wp2_with fail
    (with_reducible refine (wnum_calls _ wx.heap.size _ [] sm 4 _ _ rfl (by omega) (WrAt.new wx) (by decide) (by decide) (by omega) (by decide)).mono ?_)
    rintro e w6 ⟨rfl, ⟨v6, h6, l6⟩, f6⟩
    rw [List.nil_append] at h6
    have G6 : Fr (fun _ _ => True) wx w6 := ((Fr.refl _ _).alloc _).old_trans f6 fun q o hq => ⟨by omega, by simp [Value.ownBlock]⟩
    have HG6 := Lib.hid G6
    have H6 := Lib.hid h6
    have L6 := Lib.hid l6
    clear h6 l6 f6 G6
    go_wp2_with fail
    (with_reducible refine (ends_calls _ wx.heap.size v6 _ s p H6.out hs hp (by rw [le_length]; omega)).mono ?_)
    rintro e w7 ⟨rfl, ⟨v7, h7, l7⟩, f7⟩
    have G7 : Fr (fun _ _ => True) wx w7 := HG6.out.old_trans f7 fun q o hq => ⟨by omega, fun e => by have := L6.out.new q e; simp at this; omega⟩
    have HG7 := Lib.hid G7
    have h12 : (le sm 4 ++ (le s 4 ++ le p 4)).length = 12 := by simp [le_length]
    have E64 : Hid (stampHead s p b ++ (le sm 4 ++ (le s 4 ++ le p 4)) = stampB s p b) := by rw [stampB, HS.out]; rfl
    generalize le sm 4 ++ (le s 4 ++ le p 4) = y7 at h7 h12 E64
    have H7 := Lib.hid h7
    have H12 := Lib.hid h12
    have L64 := Lib.hid (stampB_length s p b (by have := HL.out; omega))
    clear h7 l7 f7 G7 h12 H6 L6 HG6
    go_wp2_with fail
    (with_reducible refine (out_calls _ wx.heap.size v7 y7 H7.out (by have := H12.out; omega)).mono ?_)
    rintro e w8 ⟨⟨a8, c8, rfl, b8⟩, f8⟩
    have B8 := Lib.hid b8
    have F8 := Lib.hid f8
    clear b8 f8
    go_wp2_with fail
    (with_reducible refine (concat2 _ _ _ _ (stampHead s p b) y7 (heap_alloc_at rfl _) (HB9.out.tt ((HG7.out.tt F8.out).alloc _)) (B8.out.tt ((Fr.refl _ _).alloc _)) (by have := H12.out; have := L52.out; omega) (stampB s p b) 64 E64.out L64.out).mono ?_)
    rintro e w9 ⟨⟨a, c, rfl, b9⟩, f9⟩
    have F9 := Lib.hid ((((HF9.out.tt HG7.out).tt F8.out).alloc _).tt f9)
    have B9 := Lib.hid (b9.mono (K' := New w.heap.size) fun q o _ h => ⟨by have h1 := h.1; have := HF9.out.size; have := HG7.out.size; have := F8.out.size; simp at h1; omega, h.2⟩)
    clear b9 f9
    go_wp2
    go_ret2
    exact ⟨⟨_, _, rfl, B9.out⟩, F9.out⟩

theorem stamp_calls {K : Nat → Obj → Prop} (w : World) (s p : Nat) (v : Value) (b : List UInt8) (hb : BytesAt K w v b) (ht : TabOK w) (hs : s < 4294967296) (hp : p < 4294967296) :
    Calls Tryd.prog 13 #[.int .u32 s, .int .u32 p, v] w fun e w' =>
      (if 43 < b.length then e = .returned (.tuple #[.slice none 0 0, .int .i64 2]) else ∃ a' cap', e = .returned (.tuple #[.slice a' 64 cap', .int .i64 0]) ∧ BytesAt (New w.heap.size) w' (.slice a' 64 cap') (stampB s p b)) ∧ Fr (fun _ _ => True) w w' := by
  obtain ⟨a, cap, rfl⟩ := hb.form
  by_cases h : 43 < b.length
  · simp only [h, ↓reduceIte]
    exact (stamp_long w s p a b.length cap h).mono fun e w' ⟨he, hw⟩ => ⟨he, hw ▸ Fr.refl _ _⟩
  · simp only [h, ↓reduceIte]
    exact stamp_ok w s p a b.length cap b hb ht hs hp (by omega)

end Go.Proofs.YtaeonlafcbgpcaaDoor
