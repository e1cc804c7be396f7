/- Package pack: the Reader. -/
import Derived.Test.YtaeonlafcbgpcaaDoorPack
import Derived.BigQuiet
import Derived.Deep.QuietTactic
namespace Go.Proofs.YtaeonlafcbgpcaaDoor
open Go.RowKit

/-- Where a slice begins that is cut at n. -/
def subA (a : Option Addr) (cap n : Nat) : Option Addr := if cap = n then a else a.map (·.add n)
theorem run_slice_from {P : Program} {t e : TypeId} (ht : P.underlying t = some (.slice e)) (hs : (sizeOf e).run P = fun w => .ok 1 w) (w : World) (a : Option Addr) (len cap n : Nat) (k : IntKind) (h : n ≤ len) :
    (Instr.slice t (.slice a len cap) (some (.int k n)) none none).run P w = .ok (.slice (subA a cap n) (len - n) (cap - n)) w := by
  have h0 : (0 : Int) ≤ n ∧ (n : Int) ≤ len := by omega
  simp only [Instr.slice, Sem.run_bind, run_underlying ht, Result.andThen, Instr.sliceBounds, Instr.sliceBound, asIntOf, Sem.run_pure, h0, and_self, ↓reduceIte, hs]
  simp [subA]
theorem run_slice_to {P : Program} {t e : TypeId} (ht : P.underlying t = some (.slice e)) (hs : (sizeOf e).run P = fun w => .ok 1 w) (w : World) (a : Option Addr) (len cap n : Nat) (k : IntKind) (h : n ≤ cap) :
    (Instr.slice t (.slice a len cap) none (some (.int k n)) none).run P w = .ok (.slice a n cap) w := by
  have h0 : (0 : Int) ≤ n ∧ (n : Int) ≤ cap := by omega
  simp only [Instr.slice, Sem.run_bind, run_underlying ht, Result.andThen, Instr.sliceBounds, Instr.sliceBound, asIntOf, Sem.run_pure, h0, and_self, ↓reduceIte, hs]
  cases a <;> simp [Addr.add]
theorem run_slice_mid {P : Program} {t e : TypeId} (ht : P.underlying t = some (.slice e)) (hs : (sizeOf e).run P = fun w => .ok 1 w) (w : World) (a : Option Addr) (len cap n m : Nat) (k k' : IntKind) (h : n ≤ m) (h' : m ≤ cap) :
    (Instr.slice t (.slice a len cap) (some (.int k n)) (some (.int k' m)) none).run P w = .ok (.slice (subA a cap n) (m - n) (cap - n)) w := by
  have h0 : (0 : Int) ≤ n ∧ (n : Int) ≤ m := by omega
  have h1 : (0 : Int) ≤ m ∧ (m : Int) ≤ cap := by omega
  simp only [Instr.slice, Sem.run_bind, run_underlying ht, Result.andThen, Instr.sliceBounds, Instr.sliceBound, asIntOf, Sem.run_pure, h0, h1, and_self, ↓reduceIte, hs]
  simp [subA, h]

theorem BytesAt.take {K : Nat → Obj → Prop} {w : World} {a : Option Addr} {len cap : Nat} {bs : List UInt8} (h : BytesAt K w (.slice a len cap) bs) (n : Nat) (hn : n ≤ bs.length) : BytesAt K w (.slice a n cap) (bs.take n) := by
  obtain ⟨a', cap', hv, hl, hz, h⟩ := h
  cases hv
  have e : (bs.take n).length = n := by rw [List.length_take]; omega
  refine ⟨a, cap, by rw [e], by omega, hz, ?_⟩
  rcases h with rfl | ⟨b, off, o, ha, hb, hk, hc⟩
  · left; simp
  · refine .inr ⟨b, off, o, ha, hb, hk, fun i hi => ?_⟩
    rw [hc i (by omega)]
    simp
theorem BytesAt.drop {K : Nat → Obj → Prop} {w : World} {a : Option Addr} {len cap : Nat} {bs : List UInt8} (h : BytesAt K w (.slice a len cap) bs) (n : Nat) (hn : n ≤ bs.length) : BytesAt K w (.slice (subA a cap n) (len - n) (cap - n)) (bs.drop n) := by
  obtain ⟨a', cap', hv, hl, hz, h⟩ := h
  cases hv
  have e : (bs.drop n).length = bs.length - n := by rw [List.length_drop]
  refine ⟨_, cap - n, by rw [e], by omega, ?_, ?_⟩
  · intro h0
    unfold subA at h0
    split at h0
    · have := hz h0; omega
    · have : a = none := by simpa using h0
      have := hz this; omega
  · by_cases h0 : bs.drop n = []
    · exact .inl h0
    · have hlt : n < bs.length := by
        rcases Nat.lt_or_ge n bs.length with h1 | h1
        · exact h1
        · exact absurd (List.drop_eq_nil_of_le h1) h0
      rcases h with rfl | ⟨b, off, o, ha, hb, hk, hc⟩
      · simp at hlt
      · subst ha
        refine .inr ⟨b, off + n, o, ?_, hb, hk, fun i hi => ?_⟩
        · unfold subA
          rw [if_neg (by omega)]
          show some (Addr.add ⟨b, off, none⟩ n) = _
          unfold Addr.add
          split
          · subst n; rfl
          · rfl
        · rw [e] at hi
          rw [Nat.add_assoc, hc (n + i) (by omega)]
          simp

theorem subA_some (b off cap n : Nat) (h : n < cap) : subA (some ⟨b, off, none⟩) cap n = some ⟨b, off + n, none⟩ := by
  unfold subA
  rw [if_neg (by omega)]
  show some (Addr.add ⟨b, off, none⟩ n) = _
  unfold Addr.add
  split
  · subst n; rfl
  · rfl
theorem BytesAt.cap {K : Nat → Obj → Prop} {w : World} {a : Option Addr} {n cap : Nat} {bs : List UInt8} (h : BytesAt K w (.slice a n cap) bs) : n ≤ cap := by
  obtain ⟨a', cap', hv, hl, _⟩ := h
  simp only [Value.slice.injEq] at hv
  obtain ⟨_, h1, h2⟩ := hv
  omega

/-- A Reader at br that has the bytes bs left. -/
structure RdrAt (K : Nat → Obj → Prop) (w : World) (br : Nat) (v : Value) (bs : List UInt8) (shut : Bool) : Prop where
  top : w.heap[br]? = some (.cells #[v, .bool shut] 123 (0, 0))
  bytes : BytesAt K w v bs
  off : ∀ cs fz, ¬ K br (.cells cs 123 fz)

set_option maxRecDepth 100000 in
theorem read_calls (w : World) (a : Option Addr) (len cap : Nat) : Calls Tryd.prog 44 #[.slice a len cap] w fun e w' => e = .returned (.pointer (some ⟨w.heap.size, 0, none⟩)) ∧ w' = w.alloc (.cells #[.slice a len cap, .bool false] 123 (0, 0)) := by
  go_enter Tryd.func44, Tryd.ntmps44
  go_wp2
  go_ret
  exact ⟨rfl, rfl⟩

theorem size_u8 : (sizeOf 5).run Tryd.prog = fun w => .ok 1 w := by kernel_rfl

theorem RdrAt.turn {K : Nat → Obj → Prop} {w : World} {br : Nat} {v : Value} {bs : List UInt8} {sh : Bool} (h : RdrAt K w br v bs sh) (v2 : Value) (sh2 : Bool) :
    ((w.setCell ⟨br, 1, none⟩ (.bool sh2)).setCell ⟨br, 0, none⟩ v2).heap[br]? = some (.cells #[v2, .bool sh2] 123 (0, 0)) ∧
    Fr K w ((w.setCell ⟨br, 1, none⟩ (.bool sh2)).setCell ⟨br, 0, none⟩ v2) ∧ Fr (fun b _ => b ≠ br) w ((w.setCell ⟨br, 1, none⟩ (.bool sh2)).setCell ⟨br, 0, none⟩ v2) := by
  have hp : ∀ o, w.heap[(⟨br, 1, none⟩ : Addr).block]? = some o → ¬ K br o := fun o ho => by
    rw [h.top] at ho; cases ho; exact h.off _ _
  exact ⟨heap_setCell_same (heap_setCell_same h.top _) _, ((Fr.refl _ _).setCell (p := ⟨br, 1, none⟩) hp _).setCell (p := ⟨br, 0, none⟩) hp _, ((Fr.refl _ _).setCell (fun _ _ h => h rfl) _).setCell (fun _ _ h => h rfl) _⟩

set_option maxRecDepth 100000 in
theorem take_ok {K : Nat → Obj → Prop} (w : World) (br : Nat) (v : Value) (bs : List UInt8) (n : Nat) (h : RdrAt K w br v bs false) (hn : n ≤ bs.length) (hm : bs.length ≤ 140737488355328) :
    Calls Tryd.prog 71 #[.pointer (some ⟨br, 0, none⟩), .int .i64 n] w fun e w' => ∃ out v', e = .returned out ∧ BytesAt K w' out (bs.take n) ∧ RdrAt K w' br v' (bs.drop n) false ∧ Fr (fun b _ => b ≠ br) w w' := by
  obtain ⟨a, cap, rfl⟩ := h.bytes.form
  have hcap : bs.length ≤ cap := by
    obtain ⟨a', cap', hv, hl, _⟩ := h.bytes
    cases hv; exact hl
  have c0 := cell_mk (i := 0) h.top rfl
  have c1 := cell_mk (i := 1) h.top rfl
  have f0 := frozen_mk (i := 0) h.top
  have f1 := frozen_mk (i := 1) h.top
  have s1 := fun W => run_slice_to Tryd.underlying23 size_u8 W a bs.length cap n .i64 (by omega)
  have s2 := fun W => run_slice_from Tryd.underlying23 size_u8 W a bs.length cap n .i64 hn
  have hle : decide ((bs.length : Int) < n) = false := by simp; omega
  have H := Lib.hid h
  clear h hcap
  generalize hsub : subA a cap n = a2 at s2
  have HS := Lib.hid hsub
  clear hsub
  go_enter Tryd.func71, Tryd.ntmps71
  go_wp2
  go_ret
  obtain ⟨t1, f2, f3⟩ := H.out.turn (.slice a2 (bs.length - n) (cap - n)) false
  have b2 := H.out.bytes.drop n hn
  rw [HS.out] at b2
  exact ⟨_, _, rfl, (H.out.bytes.take n hn).fr f2, ⟨t1, b2.fr f2, H.out.off⟩, f3⟩

set_option maxRecDepth 100000 in
theorem take_no {K : Nat → Obj → Prop} (w : World) (br : Nat) (v : Value) (bs : List UInt8) (sh : Bool) (n : Nat) (h : RdrAt K w br v bs sh) (hn : sh = true ∨ bs.length < n) (hm : n ≤ 140737488355328) :
    Calls Tryd.prog 71 #[.pointer (some ⟨br, 0, none⟩), .int .i64 n] w fun e w' => e = .returned (.slice none 0 0) ∧ RdrAt K w' br (.slice none 0 0) [] true ∧ Fr (fun b _ => b ≠ br) w w' := by
  obtain ⟨a, cap, rfl⟩ := h.bytes.form
  have c0 := cell_mk (i := 0) h.top rfl
  have c1 := cell_mk (i := 1) h.top rfl
  have f0 := frozen_mk (i := 0) h.top
  have f1 := frozen_mk (i := 1) h.top
  have H := Lib.hid h
  clear h
  cases sh with
  | true =>
    clear hn
    go_enter Tryd.func71, Tryd.ntmps71
    go_wp2
    go_ret
    obtain ⟨t1, f2, f3⟩ := H.out.turn (.slice none 0 0) true
    exact ⟨rfl, ⟨t1, BytesAt.nil _ _, H.out.off⟩, f3⟩
  | false =>
    have hlt : (bs.length : Int) < n := by
      rcases hn with hn | hn
      · cases hn
      · omega
    clear hn
    go_enter Tryd.func71, Tryd.ntmps71
    go_wp2
    go_ret
    obtain ⟨t1, f2, f3⟩ := H.out.turn (.slice none 0 0) true
    exact ⟨rfl, ⟨t1, BytesAt.nil _ _, H.out.off⟩, f3⟩

/-- A number of bytes, the lowest first. -/
def ofLE : List UInt8 → Nat
  | [] => 0
  | b :: r => b.toNat + 256 * ofLE r
theorem ofLE_lt : ∀ l : List UInt8, ofLE l < 256 ^ l.length
  | [] => by decide
  | b :: r => by
    have h1 := ofLE_lt r
    have h2 := UInt8.toNat_lt b
    rw [ofLE, List.length_cons, Nat.pow_succ]
    omega
theorem ofLE_snoc (c : UInt8) : ∀ l : List UInt8, ofLE (l ++ [c]) = ofLE l + c.toNat * 256 ^ l.length
  | [] => by simp [ofLE]
  | b :: r => by
    rw [List.cons_append, ofLE, ofLE_snoc c r, ofLE, List.length_cons, Nat.pow_succ, Nat.mul_add, ← Nat.add_assoc, Nat.mul_comm 256 (c.toNat * _), Nat.mul_assoc]

theorem or_byte (s : Nat) (c : UInt8) (k : Nat) (hs : s < 256 ^ k) (hk : k < 8) :
    bits .or .u64 (s : Int) (IntKind.u64.wrap (IntKind.u64.wrap (c.toNat : Int) * 2 ^ (8 * k))) = ((s + c.toNat * 256 ^ k : Nat) : Int) := by
  have hc := UInt8.toNat_lt c
  have e256 : (256 : Nat) ^ k = 2 ^ (8 * k) := by rw [Nat.pow_mul]
  have hle : (256 : Nat) ^ k ≤ 256 ^ 7 := Nat.pow_le_pow_right (by decide) (by omega)
  have hle' : c.toNat * 256 ^ k ≤ 255 * 256 ^ 7 := Nat.mul_le_mul (by omega) hle
  have h1 : IntKind.u64.wrap (c.toNat : Int) = (c.toNat : Int) := by rw [IntKind.wrap_u64]; omega
  have h2 : IntKind.u64.wrap ((c.toNat : Int) * 2 ^ (8 * k)) = ((c.toNat * 256 ^ k : Nat) : Int) := by
    rw [show (c.toNat : Int) * 2 ^ (8 * k) = ((c.toNat * 256 ^ k : Nat) : Int) from by rw [e256]; simp, IntKind.wrap_u64]
    omega
  rw [h1, h2, bits_or_u64_nat s _ (by omega) (by omega)]
  congr 1
  rw [e256] at hs ⊢
  rw [Nat.or_comm, ← Nat.shiftLeft_eq, ← Nat.shiftLeft_add_eq_or_of_lt hs, Nat.add_comm]

set_option maxRecDepth 100000 in
set_option maxHeartbeats 1000000 in
theorem rnum_ok {K : Nat → Obj → Prop} (w : World) (br : Nat) (v : Value) (bs : List UInt8) (n : Nat) (h : RdrAt K w br v bs false) (h1 : 1 ≤ n) (h8 : n ≤ 8) (hn : n ≤ bs.length) (hm : bs.length ≤ 140737488355328) :
    Calls Tryd.prog 45 #[.pointer (some ⟨br, 0, none⟩), .int .i64 n] w fun e w' => e = .returned (.int .u64 (ofLE (bs.take n) : Nat)) ∧ (∃ v', RdrAt K w' br v' (bs.drop n) false) ∧ Fr (fun b _ => b ≠ br) w w' := by
  have h1' : (1 : Int) ≤ n := by omega
  have h8' : (n : Int) ≤ 8 := by omega
  have H := Lib.hid h
  clear h
  go_enter Tryd.func45, Tryd.ntmps45
  go_wp2_with fail
  (with_reducible refine (take_ok w br v bs n H.out hn hm).mono ?_)
  rintro e w1 ⟨out, v1, rfl, hb, hr, hf⟩
  obtain ⟨a1, cap1, rfl⟩ := hb.form
  have hl : (bs.take n).length = n := by rw [List.length_take]; omega
  rw [hl] at hb ⊢
  generalize hxs : bs.take n = xs at hb hl
  have HX := Lib.hid hxs
  have HB := Lib.hid hb
  have HL := Lib.hid hl
  have HR := Lib.hid hr
  have HF := Lib.hid hf
  clear hxs hb hl hr hf H
  go_wp2
  go_loop [5, 24] (fun s i => ∃ k : Nat, k ≤ n ∧ i = .int .i64 k ∧ s = .int .u64 (ofLE (xs.take k) : Nat)) (fun _ i => n - (intOf i).toNat)
  case atStart => exact ⟨0, Nat.zero_le _, rfl, rfl⟩
  case round =>
    obtain ⟨k, hk, rfl, rfl⟩ := hrel
    by_cases hlt : k < n
    · have hkl : k < xs.length := by have := HL.out; omega
      obtain ⟨b, off, rfl⟩ := HB.out.addr (by omega)
      have g := HB.out.cell hkl
      unfold byteV at g
      have hsn := Lib.hid (ofLE_snoc xs[k] (xs.take k))
      have hup := ofLE_lt (xs.take k)
      generalize ofLE (xs.take k) = s at hsn hup
      generalize hc : xs[k] = c at g hsn
      have HC := Lib.hid hc
      clear hc
      have hkk : (xs.take k).length = k := by rw [List.length_take]; omega
      rw [hkk] at hup
      have HU := Lib.hid hup
      have HK := Lib.hid hkk
      clear hup hkk
      go_wp2
      go_round
      case rel =>
        refine ⟨k + 1, by omega, by go_num, ?_⟩
        rw [List.take_succ_eq_append_getElem hkl, HC.out, hsn.out, HK.out, or_byte s c k HU.out (by omega)]
      case measure => simp [intOf]; omega
    · go_wp2
      go_ret
      have e1 : k = n := by omega
      subst e1
      refine ⟨?_, ⟨v1, HR.out⟩, HF.out⟩
      have e2 : ofLE (bs.take k) = ofLE (xs.take k) := by rw [HX.out, List.take_of_length_le (by have := HL.out; omega)]
      rw [e2]
      rfl

set_option maxRecDepth 100000 in
set_option maxHeartbeats 1000000 in
theorem rnum_no {K : Nat → Obj → Prop} (w : World) (br : Nat) (v : Value) (bs : List UInt8) (sh : Bool) (n : Nat) (h : RdrAt K w br v bs sh) (h1 : 1 ≤ n) (h8 : n ≤ 8) (hn : sh = true ∨ bs.length < n) :
    Calls Tryd.prog 45 #[.pointer (some ⟨br, 0, none⟩), .int .i64 n] w fun e w' => e = .returned (.int .u64 0) ∧ (∃ v', RdrAt K w' br v' [] true) ∧ Fr (fun b _ => b ≠ br) w w' := by
  have h1' : (1 : Int) ≤ n := by omega
  have h8' : (n : Int) ≤ 8 := by omega
  have H := Lib.hid h
  have HN := Lib.hid hn
  clear h hn
  go_enter Tryd.func45, Tryd.ntmps45
  go_wp2_with fail
  (with_reducible refine (take_no w br v bs sh n H.out HN.out (by omega)).mono ?_)
  rintro e w1 ⟨rfl, hr, hf⟩
  have HR := Lib.hid hr
  have HF := Lib.hid hf
  clear hr hf H
  go_wp2
  go_loop [5, 24] (fun s i => s = .int .u64 0 ∧ i = .int .i64 0) (fun _ _ => 0)
  case atStart => exact ⟨rfl, rfl⟩
  case round =>
    obtain ⟨rfl, rfl⟩ := hrel
    go_wp2
    go_ret
    exact ⟨rfl, ⟨_, HR.out⟩, HF.out⟩

/-- What Number gives, and what is left. -/
def numR (bs : List UInt8) (sh : Bool) (n : Nat) : Nat × List UInt8 × Bool := if sh = true ∨ bs.length < n then (0, [], true) else (ofLE (bs.take n), bs.drop n, false)

theorem rnum_calls {K : Nat → Obj → Prop} (w : World) (br : Nat) (v : Value) (bs : List UInt8) (sh : Bool) (n : Nat) (h : RdrAt K w br v bs sh) (h1 : 1 ≤ n) (h8 : n ≤ 8) (hm : bs.length ≤ 140737488355328) :
    Calls Tryd.prog 45 #[.pointer (some ⟨br, 0, none⟩), .int .i64 n] w fun e w' => e = .returned (.int .u64 ((numR bs sh n).1 : Nat)) ∧ (∃ v', RdrAt K w' br v' (numR bs sh n).2.1 (numR bs sh n).2.2) ∧ Fr (fun b _ => b ≠ br) w w' := by
  unfold numR
  by_cases hn : sh = true ∨ bs.length < n
  · rw [if_pos hn]
    exact rnum_no w br v bs sh n h h1 h8 hn
  · rw [if_neg hn]
    have : sh = false := by cases sh <;> simp_all
    subst this
    exact rnum_ok w br v bs n h h1 h8 (by omega) hm

end Go.Proofs.YtaeonlafcbgpcaaDoor
