/- Texts of the proofs, part 8: what the functions that they reach do, walked; no conditions beyond those that each states. -/
import Derived.BigQuiet
import Derived.Deep.QuietTactic
import Derived.Test.YtlolfcnfcgegdaaZz7d7b768bc0
set_option linter.unusedVariables false
set_option linter.unusedSimpArgs false
/- Package pack: the Reader. -/
namespace Go.Proofs.Ytlolfcnfcgegdaa
open Go.RowKit

/-- Where a slice begins that is cut at n. -/
def subA (a : Option Addr) (cap n : Nat) : Option Addr := if cap = n then a else a.map (·.add n)
theorem run_slice_from {P : Program} {t e : TypeId} (ht : P.underlying t = some (.slice e)) (hs : (sizeOf e).run P = fun w => .ok 1 w) (w : World) (a : Option Addr) (len cap n : Nat) (k : IntKind) (h : n ≤ len) :
    (Instr.slice t (.slice a len cap) (some (.int k n)) none none).run P w = .ok (.slice (subA a cap n) (len - n) (cap - n)) w := by
  have h0 : (0 : Int) ≤ n ∧ (n : Int) ≤ len := by omega
  simp only [Instr.slice, Sem.run_bind, run_underlying ht, Result.andThen, Instr.sliceBounds, Instr.sliceBound, asIntOf, Sem.run_pure, h0, and_self, ↓reduceIte, hs]
  simp [subA]
theorem run_slice_to {P : Program} {t e : TypeId} (ht : P.underlying t = some (.slice e)) (hs : (sizeOf e).run P = fun w => .ok 1 w) (w : World) (a : Option Addr) (len cap n : Nat) (k : IntKind) (h : n ≤ cap) :
    (Instr.slice t (.slice a len cap) none (some (.int k n)) none).run P w = .ok (.slice a n cap) w := by
  have h0 : (0 : Int) ≤ n ∧ (n : Int) ≤ cap := by omega
  simp only [Instr.slice, Sem.run_bind, run_underlying ht, Result.andThen, Instr.sliceBounds, Instr.sliceBound, asIntOf, Sem.run_pure, h0, and_self, ↓reduceIte, hs]
  cases a <;> simp [Addr.add]
theorem run_slice_mid {P : Program} {t e : TypeId} (ht : P.underlying t = some (.slice e)) (hs : (sizeOf e).run P = fun w => .ok 1 w) (w : World) (a : Option Addr) (len cap n m : Nat) (k k' : IntKind) (h : n ≤ m) (h' : m ≤ cap) :
    (Instr.slice t (.slice a len cap) (some (.int k n)) (some (.int k' m)) none).run P w = .ok (.slice (subA a cap n) (m - n) (cap - n)) w := by
  have h0 : (0 : Int) ≤ n ∧ (n : Int) ≤ m := by omega
  have h1 : (0 : Int) ≤ m ∧ (m : Int) ≤ cap := by omega
  simp only [Instr.slice, Sem.run_bind, run_underlying ht, Result.andThen, Instr.sliceBounds, Instr.sliceBound, asIntOf, Sem.run_pure, h0, h1, and_self, ↓reduceIte, hs]
  simp [subA, h]

theorem BytesAt.take {K : Nat → Obj → Prop} {w : World} {a : Option Addr} {len cap : Nat} {bs : List UInt8} (h : BytesAt K w (.slice a len cap) bs) (n : Nat) (hn : n ≤ bs.length) : BytesAt K w (.slice a n cap) (bs.take n) := by
  obtain ⟨a', cap', hv, hl, hz, h⟩ := h
  cases hv
  have e : (bs.take n).length = n := by rw [List.length_take]; omega
  refine ⟨a, cap, by rw [e], by omega, hz, ?_⟩
  rcases h with rfl | ⟨b, off, o, ha, hb, hk, hc⟩
  · left; simp
  · refine .inr ⟨b, off, o, ha, hb, hk, fun i hi => ?_⟩
    rw [hc i (by omega)]
    simp
theorem BytesAt.drop {K : Nat → Obj → Prop} {w : World} {a : Option Addr} {len cap : Nat} {bs : List UInt8} (h : BytesAt K w (.slice a len cap) bs) (n : Nat) (hn : n ≤ bs.length) : BytesAt K w (.slice (subA a cap n) (len - n) (cap - n)) (bs.drop n) := by
  obtain ⟨a', cap', hv, hl, hz, h⟩ := h
  cases hv
  have e : (bs.drop n).length = bs.length - n := by rw [List.length_drop]
  refine ⟨_, cap - n, by rw [e], by omega, ?_, ?_⟩
  · intro h0
    unfold subA at h0
    split at h0
    · have := hz h0; omega
    · have : a = none := by simpa using h0
      have := hz this; omega
  · by_cases h0 : bs.drop n = []
    · exact .inl h0
    · have hlt : n < bs.length := by
        rcases Nat.lt_or_ge n bs.length with h1 | h1
        · exact h1
        · exact absurd (List.drop_eq_nil_of_le h1) h0
      rcases h with rfl | ⟨b, off, o, ha, hb, hk, hc⟩
      · simp at hlt
      · subst ha
        refine .inr ⟨b, off + n, o, ?_, hb, hk, fun i hi => ?_⟩
        · unfold subA
          rw [if_neg (by omega)]
          show some (Addr.add ⟨b, off, none⟩ n) = _
          unfold Addr.add
          split
          · subst n; rfl
          · rfl
        · rw [e] at hi
          rw [Nat.add_assoc, hc (n + i) (by omega)]
          simp

theorem subA_some (b off cap n : Nat) (h : n < cap) : subA (some ⟨b, off, none⟩) cap n = some ⟨b, off + n, none⟩ := by
  unfold subA
  rw [if_neg (by omega)]
  show some (Addr.add ⟨b, off, none⟩ n) = _
  unfold Addr.add
  split
  · subst n; rfl
  · rfl
theorem BytesAt.cap {K : Nat → Obj → Prop} {w : World} {a : Option Addr} {n cap : Nat} {bs : List UInt8} (h : BytesAt K w (.slice a n cap) bs) : n ≤ cap := by
  obtain ⟨a', cap', hv, hl, _⟩ := h
  simp only [Value.slice.injEq] at hv
  obtain ⟨_, h1, h2⟩ := hv
  omega

/-- A Reader at br that has the bytes bs left. -/
structure RdrAt (K : Nat → Obj → Prop) (w : World) (br : Nat) (v : Value) (bs : List UInt8) (shut : Bool) : Prop where
  top : w.heap[br]? = some (.cells #[v, .bool shut] 107 (0, 0))
  bytes : BytesAt K w v bs
  off : ∀ cs fz, ¬ K br (.cells cs 107 fz)

set_option maxRecDepth 100000 in
theorem read_calls (w : World) (a : Option Addr) (len cap : Nat) : Calls Try.prog 34 #[.slice a len cap] w fun e w' => e = .returned (.pointer (some ⟨w.heap.size, 0, none⟩)) ∧ w' = w.alloc (.cells #[.slice a len cap, .bool false] 107 (0, 0)) := by
  go_enter Try.func34, Try.ntmps34
  go_wp2
  go_ret
  exact ⟨rfl, rfl⟩

theorem size_u8 : (sizeOf 5).run Try.prog = fun w => .ok 1 w := by kernel_rfl

theorem RdrAt.turn {K : Nat → Obj → Prop} {w : World} {br : Nat} {v : Value} {bs : List UInt8} {sh : Bool} (h : RdrAt K w br v bs sh) (v2 : Value) (sh2 : Bool) :
    ((w.setCell ⟨br, 1, none⟩ (.bool sh2)).setCell ⟨br, 0, none⟩ v2).heap[br]? = some (.cells #[v2, .bool sh2] 107 (0, 0)) ∧
    Fr K w ((w.setCell ⟨br, 1, none⟩ (.bool sh2)).setCell ⟨br, 0, none⟩ v2) ∧ Fr (fun b _ => b ≠ br) w ((w.setCell ⟨br, 1, none⟩ (.bool sh2)).setCell ⟨br, 0, none⟩ v2) := by
  have hp : ∀ o, w.heap[(⟨br, 1, none⟩ : Addr).block]? = some o → ¬ K br o := fun o ho => by
    rw [h.top] at ho; cases ho; exact h.off _ _
  exact ⟨heap_setCell_same (heap_setCell_same h.top _) _, ((Fr.refl _ _).setCell (p := ⟨br, 1, none⟩) hp _).setCell (p := ⟨br, 0, none⟩) hp _, ((Fr.refl _ _).setCell (fun _ _ h => h rfl) _).setCell (fun _ _ h => h rfl) _⟩

set_option maxRecDepth 100000 in
theorem take_ok {K : Nat → Obj → Prop} (w : World) (br : Nat) (v : Value) (bs : List UInt8) (n : Nat) (h : RdrAt K w br v bs false) (hn : n ≤ bs.length) (hm : bs.length ≤ 140737488355328) :
    Calls Try.prog 52 #[.pointer (some ⟨br, 0, none⟩), .int .i64 n] w fun e w' => ∃ out v', e = .returned out ∧ BytesAt K w' out (bs.take n) ∧ RdrAt K w' br v' (bs.drop n) false ∧ Fr (fun b _ => b ≠ br) w w' := by
  obtain ⟨a, cap, rfl⟩ := h.bytes.form
  have hcap : bs.length ≤ cap := by
    obtain ⟨a', cap', hv, hl, _⟩ := h.bytes
    cases hv; exact hl
  have c0 := cell_mk (i := 0) h.top rfl
  have c1 := cell_mk (i := 1) h.top rfl
  have f0 := frozen_mk (i := 0) h.top
  have f1 := frozen_mk (i := 1) h.top
  have s1 := fun W => run_slice_to Try.underlying31 size_u8 W a bs.length cap n .i64 (by omega)
  have s2 := fun W => run_slice_from Try.underlying31 size_u8 W a bs.length cap n .i64 hn
  have hle : decide ((bs.length : Int) < n) = false := by simp; omega
  have H := Lib.hid h
  clear h hcap
  generalize hsub : subA a cap n = a2 at s2
  have HS := Lib.hid hsub
  clear hsub
  go_enter Try.func52, Try.ntmps52
  go_wp2
  go_ret
  obtain ⟨t1, f2, f3⟩ := H.out.turn (.slice a2 (bs.length - n) (cap - n)) false
  have b2 := H.out.bytes.drop n hn
  rw [HS.out] at b2
  exact ⟨_, _, rfl, (H.out.bytes.take n hn).fr f2, ⟨t1, b2.fr f2, H.out.off⟩, f3⟩

set_option maxRecDepth 100000 in
theorem take_no {K : Nat → Obj → Prop} (w : World) (br : Nat) (v : Value) (bs : List UInt8) (sh : Bool) (n : Nat) (h : RdrAt K w br v bs sh) (hn : sh = true ∨ bs.length < n) (hm : n ≤ 140737488355328) :
    Calls Try.prog 52 #[.pointer (some ⟨br, 0, none⟩), .int .i64 n] w fun e w' => e = .returned (.slice none 0 0) ∧ RdrAt K w' br (.slice none 0 0) [] true ∧ Fr (fun b _ => b ≠ br) w w' := by
  obtain ⟨a, cap, rfl⟩ := h.bytes.form
  have c0 := cell_mk (i := 0) h.top rfl
  have c1 := cell_mk (i := 1) h.top rfl
  have f0 := frozen_mk (i := 0) h.top
  have f1 := frozen_mk (i := 1) h.top
  have H := Lib.hid h
  clear h
  cases sh with
  | true =>
    clear hn
    go_enter Try.func52, Try.ntmps52
    go_wp2
    go_ret
    obtain ⟨t1, f2, f3⟩ := H.out.turn (.slice none 0 0) true
    exact ⟨rfl, ⟨t1, BytesAt.nil _ _, H.out.off⟩, f3⟩
  | false =>
    have hlt : (bs.length : Int) < n := by
      rcases hn with hn | hn
      · cases hn
      · omega
    clear hn
    go_enter Try.func52, Try.ntmps52
    go_wp2
    go_ret
    obtain ⟨t1, f2, f3⟩ := H.out.turn (.slice none 0 0) true
    exact ⟨rfl, ⟨t1, BytesAt.nil _ _, H.out.off⟩, f3⟩

/-- A number of bytes, the lowest first. -/
def ofLE : List UInt8 → Nat
  | [] => 0
  | b :: r => b.toNat + 256 * ofLE r
theorem ofLE_lt : ∀ l : List UInt8, ofLE l < 256 ^ l.length
  | [] => by decide
  | b :: r => by
    have h1 := ofLE_lt r
    have h2 := UInt8.toNat_lt b
    rw [ofLE, List.length_cons, Nat.pow_succ]
    omega
theorem ofLE_snoc (c : UInt8) : ∀ l : List UInt8, ofLE (l ++ [c]) = ofLE l + c.toNat * 256 ^ l.length
  | [] => by simp [ofLE]
  | b :: r => by
    rw [List.cons_append, ofLE, ofLE_snoc c r, ofLE, List.length_cons, Nat.pow_succ, Nat.mul_add, ← Nat.add_assoc, Nat.mul_comm 256 (c.toNat * _), Nat.mul_assoc]

theorem or_byte (s : Nat) (c : UInt8) (k : Nat) (hs : s < 256 ^ k) (hk : k < 8) :
    bits .or .u64 (s : Int) (IntKind.u64.wrap (IntKind.u64.wrap (c.toNat : Int) * 2 ^ (8 * k))) = ((s + c.toNat * 256 ^ k : Nat) : Int) := by
  have hc := UInt8.toNat_lt c
  have e256 : (256 : Nat) ^ k = 2 ^ (8 * k) := by rw [Nat.pow_mul]
  have hle : (256 : Nat) ^ k ≤ 256 ^ 7 := Nat.pow_le_pow_right (by decide) (by omega)
  have hle' : c.toNat * 256 ^ k ≤ 255 * 256 ^ 7 := Nat.mul_le_mul (by omega) hle
  have h1 : IntKind.u64.wrap (c.toNat : Int) = (c.toNat : Int) := by rw [IntKind.wrap_u64]; omega
  have h2 : IntKind.u64.wrap ((c.toNat : Int) * 2 ^ (8 * k)) = ((c.toNat * 256 ^ k : Nat) : Int) := by
    rw [show (c.toNat : Int) * 2 ^ (8 * k) = ((c.toNat * 256 ^ k : Nat) : Int) from by rw [e256]; simp, IntKind.wrap_u64]
    omega
  rw [h1, h2, bits_or_u64_nat s _ (by omega) (by omega)]
  congr 1
  rw [e256] at hs ⊢
  rw [Nat.or_comm, ← Nat.shiftLeft_eq, ← Nat.shiftLeft_add_eq_or_of_lt hs, Nat.add_comm]

set_option maxRecDepth 100000 in
set_option maxHeartbeats 1000000 in
theorem rnum_ok {K : Nat → Obj → Prop} (w : World) (br : Nat) (v : Value) (bs : List UInt8) (n : Nat) (h : RdrAt K w br v bs false) (h1 : 1 ≤ n) (h8 : n ≤ 8) (hn : n ≤ bs.length) (hm : bs.length ≤ 140737488355328) :
    Calls Try.prog 35 #[.pointer (some ⟨br, 0, none⟩), .int .i64 n] w fun e w' => e = .returned (.int .u64 (ofLE (bs.take n) : Nat)) ∧ (∃ v', RdrAt K w' br v' (bs.drop n) false) ∧ Fr (fun b _ => b ≠ br) w w' := by
  have h1' : (1 : Int) ≤ n := by omega
  have h8' : (n : Int) ≤ 8 := by omega
  have H := Lib.hid h
  clear h
  go_enter Try.func35, Try.ntmps35
  go_wp2_with fail
  (with_reducible refine (take_ok w br v bs n H.out hn hm).mono ?_)
  rintro e w1 ⟨out, v1, rfl, hb, hr, hf⟩
  obtain ⟨a1, cap1, rfl⟩ := hb.form
  have hl : (bs.take n).length = n := by rw [List.length_take]; omega
  rw [hl] at hb ⊢
  generalize hxs : bs.take n = xs at hb hl
  have HX := Lib.hid hxs
  have HB := Lib.hid hb
  have HL := Lib.hid hl
  have HR := Lib.hid hr
  have HF := Lib.hid hf
  clear hxs hb hl hr hf H
  go_wp2
  go_loop [5, 24] (fun s i => ∃ k : Nat, k ≤ n ∧ i = .int .i64 k ∧ s = .int .u64 (ofLE (xs.take k) : Nat)) (fun _ i => n - (intOf i).toNat)
  case atStart => exact ⟨0, Nat.zero_le _, rfl, rfl⟩
  case round =>
    obtain ⟨k, hk, rfl, rfl⟩ := hrel
    by_cases hlt : k < n
    · have hkl : k < xs.length := by have := HL.out; omega
      obtain ⟨b, off, rfl⟩ := HB.out.addr (by omega)
      have g := HB.out.cell hkl
      unfold byteV at g
      have hsn := Lib.hid (ofLE_snoc xs[k] (xs.take k))
      have hup := ofLE_lt (xs.take k)
      generalize ofLE (xs.take k) = s at hsn hup
      generalize hc : xs[k] = c at g hsn
      have HC := Lib.hid hc
      clear hc
      have hkk : (xs.take k).length = k := by rw [List.length_take]; omega
      rw [hkk] at hup
      have HU := Lib.hid hup
      have HK := Lib.hid hkk
      clear hup hkk
      go_wp2
      go_round
      case rel =>
        refine ⟨k + 1, by omega, by go_num, ?_⟩
        rw [List.take_succ_eq_append_getElem hkl, HC.out, hsn.out, HK.out, or_byte s c k HU.out (by omega)]
      case measure => simp [intOf]; omega
    · go_wp2
      go_ret
      have e1 : k = n := by omega
      subst e1
      refine ⟨?_, ⟨v1, HR.out⟩, HF.out⟩
      have e2 : ofLE (bs.take k) = ofLE (xs.take k) := by rw [HX.out, List.take_of_length_le (by have := HL.out; omega)]
      rw [e2]
      rfl

set_option maxRecDepth 100000 in
set_option maxHeartbeats 1000000 in
theorem rnum_no {K : Nat → Obj → Prop} (w : World) (br : Nat) (v : Value) (bs : List UInt8) (sh : Bool) (n : Nat) (h : RdrAt K w br v bs sh) (h1 : 1 ≤ n) (h8 : n ≤ 8) (hn : sh = true ∨ bs.length < n) :
    Calls Try.prog 35 #[.pointer (some ⟨br, 0, none⟩), .int .i64 n] w fun e w' => e = .returned (.int .u64 0) ∧ (∃ v', RdrAt K w' br v' [] true) ∧ Fr (fun b _ => b ≠ br) w w' := by
  have h1' : (1 : Int) ≤ n := by omega
  have h8' : (n : Int) ≤ 8 := by omega
  have H := Lib.hid h
  have HN := Lib.hid hn
  clear h hn
  go_enter Try.func35, Try.ntmps35
  go_wp2_with fail
  (with_reducible refine (take_no w br v bs sh n H.out HN.out (by omega)).mono ?_)
  rintro e w1 ⟨rfl, hr, hf⟩
  have HR := Lib.hid hr
  have HF := Lib.hid hf
  clear hr hf H
  go_wp2
  go_loop [5, 24] (fun s i => s = .int .u64 0 ∧ i = .int .i64 0) (fun _ _ => 0)
  case atStart => exact ⟨rfl, rfl⟩
  case round =>
    obtain ⟨rfl, rfl⟩ := hrel
    go_wp2
    go_ret
    exact ⟨rfl, ⟨_, HR.out⟩, HF.out⟩

/-- What Number gives, and what is left. -/
def numR (bs : List UInt8) (sh : Bool) (n : Nat) : Nat × List UInt8 × Bool := if sh = true ∨ bs.length < n then (0, [], true) else (ofLE (bs.take n), bs.drop n, false)

theorem rnum_calls {K : Nat → Obj → Prop} (w : World) (br : Nat) (v : Value) (bs : List UInt8) (sh : Bool) (n : Nat) (h : RdrAt K w br v bs sh) (h1 : 1 ≤ n) (h8 : n ≤ 8) (hm : bs.length ≤ 140737488355328) :
    Calls Try.prog 35 #[.pointer (some ⟨br, 0, none⟩), .int .i64 n] w fun e w' => e = .returned (.int .u64 ((numR bs sh n).1 : Nat)) ∧ (∃ v', RdrAt K w' br v' (numR bs sh n).2.1 (numR bs sh n).2.2) ∧ Fr (fun b _ => b ≠ br) w w' := by
  unfold numR
  by_cases hn : sh = true ∨ bs.length < n
  · rw [if_pos hn]
    exact rnum_no w br v bs sh n h h1 h8 hn
  · rw [if_neg hn]
    have : sh = false := by cases sh <;> simp_all
    subst this
    exact rnum_ok w br v bs n h h1 h8 (by omega) hm

end Go.Proofs.Ytlolfcnfcgegdaa
/- The references' Same: whether two slices of bytes hold the same bytes. -/
namespace Go.Proofs.Ytlolfcnfcgegdaa
open Go.RowKit

theorem Fr.drewN {K : Nat → Obj → Prop} {a w : World} (h : Fr K a w) (n : Nat) : Fr K a (w.drewN n) := by
  induction n generalizing w with
  | zero => exact h
  | succ n ih => exact (ih h).drew

theorem byteV_inj {a b : UInt8} : ((a.toNat : Int) != (b.toNat : Int)) = (a != b) := by
  rw [Bool.eq_iff_iff, bne_iff_ne, bne_iff_ne]
  exact ⟨fun h e => h (by rw [e]), fun h e => h (UInt8.toNat_inj.1 (by omega))⟩

set_option maxRecDepth 100000 in
theorem same_len (w : World) (a1 a2 : Option Addr) (n1 n2 c1 c2 : Nat) (hn : ¬ n1 = n2) : Calls Try.prog 18 #[.slice a1 n1 c1, .slice a2 n2 c2] w fun e w' => e = .returned (.bool false) ∧ w = w' := by
  have hq : ((n1 : Int) != n2) = true := by simp; omega
  clear hn
  go_enter Try.func18, Try.ntmps18
  go_wp2
  go_ret
  exact ⟨rfl, rfl⟩

set_option maxRecDepth 100000 in
theorem same_nil (w : World) (a1 a2 : Option Addr) (c1 c2 : Nat) : Calls Try.prog 18 #[.slice a1 0 c1, .slice a2 0 c2] w fun e w' => e = .returned (.bool true) ∧ w = w' := by
  go_enter Try.func18, Try.ntmps18
  go_wp2
  go_loop [5] (fun i => i = .int .i64 0) (fun _ => 0)
  case atStart => exact rfl
  case round =>
    obtain rfl := hrel
    go_wp2
    go_ret
    exact ⟨rfl, rfl⟩

set_option maxRecDepth 100000 in
theorem same_loop (w : World) (b1 b2 o1 o2 n c1 c2 : Nat) (x y : List UInt8) {K K' : Nat → Obj → Prop} (hx : BytesAt K w (.slice (some ⟨b1, o1, none⟩) n c1) x) (hy : BytesAt K' w (.slice (some ⟨b2, o2, none⟩) n c2) y) (hm : n ≤ 140737488355328) :
    Calls Try.prog 18 #[.slice (some ⟨b1, o1, none⟩) n c1, .slice (some ⟨b2, o2, none⟩) n c2] w fun e w' => e = .returned (.bool (decide (x = y))) ∧ ∃ k, w' = w.drewN k := by
  have h1 := hx.len
  have h2 := hy.len
  have HX := Lib.hid hx
  have HY := Lib.hid hy
  have H1 := Lib.hid h1
  have H2 := Lib.hid h2
  clear hx hy h1 h2
  go_enter Try.func18, Try.ntmps18
  go_wp2
  go_loopw [5] (fun i wr => ∃ k : Nat, k ≤ n ∧ i = .int .i64 k ∧ x.take k = y.take k ∧ ∃ j, wr = w.drewN j) (fun i _ => n - (intOf i).toNat)
  case atStart => exact ⟨0, Nat.zero_le _, rfl, rfl, 0, rfl⟩
  case round =>
    obtain ⟨k, hk, rfl, ht, j, rfl⟩ := hrel
    have HT := Lib.hid ht
    clear ht
    by_cases hlt : k < n
    · have g1 := HX.out.cell (i := k) (by have := H1.out; omega)
      have g2 := HY.out.cell (i := k) (by have := H2.out; omega)
      have l1 : k < x.length := by have := H1.out; omega
      have l2 : k < y.length := by have := H2.out; omega
      generalize hu : x[k] = u at g1
      generalize hv : y[k] = v at g2
      have HU := Lib.hid hu
      have HV := Lib.hid hv
      clear hu hv
      unfold byteV at g1 g2
      go_wp2
      go_quiet (fail)
      go_wp2
      · go_ret
        have hne : (↑u.toNat != (↑v.toNat : Int)) = true := by assumption
        rw [byteV_inj] at hne
        refine ⟨?_, j + nq, World.drewN_drewN _ _ _⟩
        have e1 : x ≠ y := fun e => by
          have := HU.out; have := HV.out; subst e; simp_all
        simp [e1]
      · have heq : (↑u.toNat != (↑v.toNat : Int)) = false := by assumption
        rw [byteV_inj] at heq
        go_roundw
        case rel =>
          refine ⟨k + 1, by omega, by go_num, ?_, _, rfl⟩
          rw [List.take_succ_eq_append_getElem l1, List.take_succ_eq_append_getElem l2, HT.out, HU.out, HV.out]
          simp at heq
          rw [heq]
        case measure => simp [intOf]; omega
    · go_wp2
      go_ret
      have e1 : x = y := by
        have := HT.out
        rwa [List.take_of_length_le (by have := H1.out; omega), List.take_of_length_le (by have := H2.out; omega)] at this
      exact ⟨by simp [e1], _, rfl⟩

theorem same_calls (w : World) (v1 v2 : Value) (x y : List UInt8) {K K' : Nat → Obj → Prop} (hx : BytesAt K w v1 x) (hy : BytesAt K' w v2 y) (hm : x.length ≤ 140737488355328) :
    Calls Try.prog 18 #[v1, v2] w fun e w' => e = .returned (.bool (decide (x = y))) ∧ ∃ k, w' = w.drewN k := by
  obtain ⟨a1, c1, rfl⟩ := hx.form
  obtain ⟨a2, c2, rfl⟩ := hy.form
  by_cases hl : x.length = y.length
  · by_cases h0 : x.length = 0
    · have e1 := List.length_eq_zero_iff.1 h0
      have e2 := List.length_eq_zero_iff.1 (hl ▸ h0)
      subst e1 e2
      exact (same_nil w a1 a2 c1 c2).mono fun e w' ⟨he, hw⟩ => ⟨he, 0, hw.symm⟩
    · obtain ⟨b1, o1, rfl⟩ := hx.addr (by omega)
      obtain ⟨b2, o2, rfl⟩ := hy.addr (by omega)
      rw [← hl] at hy ⊢
      exact same_loop w b1 b2 o1 o2 _ c1 c2 x y hx hy hm
  · refine (same_len w a1 a2 _ _ c1 c2 hl).mono fun e w' ⟨he, hw⟩ => ⟨?_, 0, hw.symm⟩
    rw [he, show decide (x = y) = false from by simp; exact fun e => hl (by rw [e])]

end Go.Proofs.Ytlolfcnfcgegdaa
/- The references: Number; appends of bytes. -/
namespace Go.Proofs.Ytlolfcnfcgegdaa
open Go.RowKit

/-- An append of bytes to a row of the function's own. -/
theorem wpList_append_bytes {K0 : Nat → Obj → Prop} {ops : Array Oper} {rest : List Oper} {o : Oper} {a : Act} {Q : Exit → Act → World → Prop} (W : World) (hgd : o.guard = none) (s x : Operand)
    (ho : o.op = .call { callee := .builtin .append, args := #[s, x], argTypes := #[31, 31] }) (B : Nat) (hB : B ≤ W.heap.size) (v : Value) (n : Nat) (xs : List UInt8) (hs : a.eval s = v) (hown : W.ownsRow B 5 1 v n (xs.map byteV))
    (vx : Value) (bs : List UInt8) (hx : a.eval x = vx) (hb : BytesAt K0 W vx bs) (N : Nat) (r : List UInt8) (hr : xs ++ bs = r) (hN : n + bs.length = N) (hn : N ≤ 2000000)
    (h : ∀ a' c' w', w'.ownsRow B 5 1 (.slice a' N c') N (r.map byteV) → W.grownBy w' v.ownBlock → wpList Try.prog ops Q rest (a.put o.dst (.slice a' N c')) w') :
    wpList Try.prog ops Q (o :: rest) a W := by
  obtain ⟨i0, hi, hz0, hz1, hz2⟩ := info_parts info_u8
  subst hr hN
  refine wpList_append_src W hgd s x 31 ho B 5 i0 (.int .u8 0) 1 1 Try.underlying31 hi hz0 hz1 hz2 rfl (by decide) v n (xs.map byteV) hs hown vx bs.length (bs.map byteV) hx hb.src (by unfold maxLen; omega) (by omega) hB ?_
  intro v' w' h1 h2 _
  rw [← List.map_append] at h1
  have hv' : ∃ a' c', v' = .slice a' (n + bs.length) c' := by
    rcases h1.2 with ⟨rfl, e⟩ | ⟨g, cap, _, rfl, _⟩
    · exact ⟨none, 0, by rw [e]⟩
    · exact ⟨_, _, rfl⟩
  obtain ⟨a', c', rfl⟩ := hv'
  exact h a' c' w' h1 h2

theorem BytesAt.lit' (w : World) (m : UInt8) : BytesAt (New w.heap.size) (w.alloc (.cells #[.int .u8 m.toNat] 5 (0, 0))) (.slice (some ⟨w.heap.size, 0, none⟩) 1 1) [m] := by
  refine ⟨_, 1, rfl, Nat.le_refl _, (fun e => by cases e), .inr ⟨w.heap.size, 0, _, rfl, heap_alloc_new _ _, ⟨Nat.le_refl _, _, _, rfl⟩, fun i hi => ?_⟩⟩
  obtain rfl : i = 0 := by simpa using hi
  exact cell_mk (heap_alloc_new _ _) rfl
theorem own_new {w : World} {B : Nat} {v : Value} {n : Nat} {xs : List Value} {e : TypeId} {s : Nat} (h : w.ownsRow B e s v n xs) : ∀ k, v.ownBlock = some k → B ≤ k := by
  intro k hk
  rcases h.2 with ⟨rfl, _⟩ | ⟨g, cap, _, rfl, hg, _⟩
  · cases hk
  · cases hk; exact hg

/-- A row of bytes of the function's own. -/
def RowB (w : World) (B : Nat) (v : Value) (n : Nat) (bs : List UInt8) : Prop := w.ownsRow B 5 1 v n (bs.map byteV)
/-- The same, told of what was there when a world began. -/
theorem wpList_append_fr {K0 : Nat → Obj → Prop} {ops : Array Oper} {rest : List Oper} {o : Oper} {a : Act} {Q : Exit → Act → World → Prop} (W0 W : World) (hF : Hid (Fr (fun _ _ => True) W0 W)) (hgd : o.guard = none) (s x : Operand)
    (ho : o.op = .call { callee := .builtin .append, args := #[s, x], argTypes := #[31, 31] }) (v : Value) (n : Nat) (xs : List UInt8) (hs : a.eval s = v) (hown : Hid (RowB W W0.heap.size v n xs))
    (vx : Value) (bs : List UInt8) (hx : a.eval x = vx) (hb : Hid (BytesAt K0 W vx bs)) (N : Nat) (r : List UInt8) (hr : Hid (xs ++ bs = r)) (hN : Hid (n + bs.length = N)) (hn : N ≤ 2000000)
    (h : ∀ a' c' w', Hid (RowB w' W0.heap.size (.slice a' N c') N r) → Hid (Fr (fun _ _ => True) W0 w') → wpList Try.prog ops Q rest (a.put o.dst (.slice a' N c')) w') :
    wpList Try.prog ops Q (o :: rest) a W :=
  wpList_append_bytes W hgd s x ho W0.heap.size hF.out.size v n xs hs hown.out vx bs hx hb.out N r hr.out hN.out hn fun a' c' w' h1 h2 => h a' c' w' h1 (hF.out.grown_new h2 (own_new hown.out))
theorem own_tt {w w' : World} {B : Nat} {v : Value} {n : Nat} {xs : List Value} {e : TypeId} {s : Nat} (h : w.ownsRow B e s v n xs) (hf : Fr (fun _ _ => True) w w') : w'.ownsRow B e s v n xs := ownsRow_fr h hf fun _ _ _ _ => trivial
theorem RowB.tt {w w' : World} {B : Nat} {v : Value} {n : Nat} {bs : List UInt8} (h : RowB w B v n bs) (hf : Fr (fun _ _ => True) w w') : RowB w' B v n bs := own_tt h hf
theorem BytesAt.of_own {w : World} {B : Nat} {v : Value} {n : Nat} {bs : List UInt8} (h : RowB w B v n bs) (hn : bs.length = n) : BytesAt (New B) w v bs := by
  subst hn; exact BytesAt.of_owns h

set_option maxRecDepth 100000 in
set_option maxHeartbeats 1000000 in
theorem num01_calls (w : World) (n : Nat) (size : Nat) (nz sz : Int) (hnz : nz = n) (hsz : sz = size) (h8 : size ≤ 8) (hn : n < 18446744073709551616) :
    Calls Try.prog 33 #[.int .u64 nz, .int .i64 sz] w fun e w' => (∃ a c, e = .returned (.slice a size c) ∧ RowB w' w.heap.size (.slice a size c) size (le n size)) ∧ Fr (fun _ _ => True) w w' := by
  subst hnz hsz
  have h8' : (size : Int) ≤ 8 := by omega
  go_enter Try.func33, Try.ntmps33
  go_wp2
  go_loopw [0, 5, 6] (fun nn out i wr => ∃ (k q : Nat) (a : Option Addr) (c : Nat), k ≤ size ∧ i = .int .i64 k ∧ nn = .int .u64 (q : Nat) ∧ q = n / 256 ^ k ∧ out = .slice a k c ∧ wr.ownsRow w.heap.size 5 1 (.slice a k c) k ((le n k).map byteV) ∧ Fr (fun _ _ => True) w wr) (fun _ _ i _ => size - (intOf i).toNat)
  case atStart => exact ⟨0, n, none, 0, Nat.zero_le _, rfl, rfl, by simp, rfl, ⟨rfl, .inl ⟨rfl, rfl⟩⟩, Fr.refl _ _⟩
  case round =>
    obtain ⟨k, q, a, c, hk, rfl, rfl, hq, rfl, ho, hf⟩ := hrel
    have hql : q < 18446744073709551616 := by rw [hq]; exact Nat.lt_of_le_of_lt (Nat.div_le_self _ _) hn
    have HQ := Lib.hid hq
    have HO := Lib.hid ho
    have HF := Lib.hid hf
    clear hq ho hf
    by_cases hlt : k < size
    · have e1 : (q : Int) % 256 = ((UInt8.ofNat q).toNat : Nat) := by rw [UInt8.toNat_ofNat']; omega
      have e2 := Lib.hid e1
      have e3 : ((UInt8.ofNat q).toNat : Int) % 256 = ((UInt8.ofNat q).toNat : Nat) := by have := (UInt8.ofNat q).toNat_lt; omega
      have HL := Lib.hid (le_snoc n k)
      have hm : (UInt8.ofNat q).toNat < 256 := (UInt8.ofNat q).toNat_lt
      generalize hmm : UInt8.ofNat q = m at e1 e2 e3 hm
      have HM := Lib.hid hmm
      clear hmm
      go_wp2_with (at_builtin; refine wpList_append_bytes _ rfl _ _ rfl w.heap.size ?c1 _ k (le n k) rfl (HO.out.alloc _) _ [m] rfl (BytesAt.lit' wr m) (k + 1) (le n (k + 1)) ?c2 rfl ?c3 ?_)
      case c1 => have := HF.out.size; simp; omega
      case c2 => rw [HL.out, ← HQ.out, HM.out]
      case c3 => omega
      intro a1 c1 w1 o1 g1
      have O1 := Lib.hid o1
      have F1 := Lib.hid ((HF.out.alloc _).grown_new g1 (own_new HO.out))
      clear o1 g1
      go_wp2
      go_roundw
      case rel => exact ⟨k + 1, q / 256, a1, c1, by omega, by go_num, by go_num, by rw [HQ.out, Nat.div_div_eq_div_mul, Nat.pow_succ], rfl, O1.out, F1.out⟩
      case measure => simp [intOf]; omega
    · obtain rfl : k = size := by omega
      go_wp2
      go_ret
      exact ⟨⟨a, c, rfl, HO.out⟩, HF.out⟩
end Go.Proofs.Ytlolfcnfcgegdaa
/- The references: Of. -/
namespace Go.Proofs.Ytlolfcnfcgegdaa
open Go.RowKit

set_option maxRecDepth 100000 in
theorem of_calls {K : Nat → Obj → Prop} (w : World) (v : Value) (bs : List UInt8) (h : BytesAt K w v bs) (hm : bs.length ≤ 8) :
    Calls Try.prog 37 #[v] w fun e w' => e = .returned (.int .u64 (ofLE bs : Nat)) ∧ w = w' := by
  obtain ⟨a, cap, rfl⟩ := h.form
  have HB := Lib.hid h
  clear h
  generalize hn : bs.length = n at hm
  have HN := Lib.hid hn
  clear hn
  go_enter Try.func37, Try.ntmps37
  go_wp2
  go_loop [3, 4] (fun s i => (i = .int .i64 (-1) ∧ s = .int .u64 (ofLE bs : Nat)) ∨ ∃ j : Nat, j < n ∧ i = .int .i64 (j : Nat) ∧ s = .int .u64 (ofLE (bs.drop (j + 1)) : Nat)) (fun _ i => (intOf i + 1).toNat)
  case atStart =>
    cases n with
    | zero => exact .inl ⟨rfl, by rw [List.length_eq_zero_iff.1 HN.out]; rfl⟩
    | succ m => exact .inr ⟨m, by omega, by go_num, by rw [List.drop_of_length_le (by have := HN.out; omega)]; rfl⟩
  case round =>
    rcases hrel with ⟨rfl, rfl⟩ | ⟨j, hj, rfl, rfl⟩
    · go_wp2
      go_ret
      exact ⟨rfl, rfl⟩
    · have hkl : j < bs.length := by have := HN.out; omega
      have hb' : BytesAt K w (.slice a n cap) bs := by have := HB.out; rwa [HN.out] at this
      obtain ⟨b, off, rfl⟩ := hb'.addr (by omega)
      have g := hb'.cell hkl
      unfold byteV at g
      clear hb'
      have hst : Hid (ofLE (bs.drop j) = bs[j].toNat + 256 * ofLE (bs.drop (j + 1))) := by rw [List.drop_eq_getElem_cons hkl, ofLE]; rfl
      have hlt : ofLE (bs.drop (j + 1)) < 256 ^ 7 := Nat.lt_of_lt_of_le (ofLE_lt _) (Nat.pow_le_pow_right (by decide) (by rw [List.length_drop]; have := HN.out; omega))
      rw [show (256 : Nat) ^ 7 = 72057594037927936 from by decide] at hlt
      have hlt' : (ofLE (bs.drop (j + 1)) : Int) < 72057594037927936 := by omega
      clear hlt
      have hc := bs[j].toNat_lt
      generalize ofLE (bs.drop (j + 1)) = s at hst hlt'
      generalize bs[j] = c at g hst hc
      go_wp2
      go_round
      case rel =>
        cases j with
        | zero => exact .inl ⟨by go_num, by have e := hst.out; rw [List.drop_zero] at e; rw [e, Nat.add_comm, Nat.mul_comm]; go_num⟩
        | succ m => exact .inr ⟨m, by omega, by go_num, by rw [hst.out, Nat.add_comm, Nat.mul_comm]; go_num⟩
      case measure => simp [intOf]
end Go.Proofs.Ytlolfcnfcgegdaa
/- What a Reader's Number gives, plainly. -/
namespace Go.Proofs.Ytlolfcnfcgegdaa
open Go.RowKit

theorem numR_ge (b : List UInt8) (n : Nat) (h : n ≤ b.length) : numR b false n = (ofLE (b.take n), b.drop n, false) := by
  unfold numR
  rw [if_neg (by simp; omega)]
theorem numR_short (b : List UInt8) (s : Bool) (n : Nat) (h : s = true ∨ b.length < n) : (numR b s n).2.2 = true := by
  unfold numR
  rw [if_pos h]
theorem numR_ok {b r : List UInt8} {s : Bool} {n x : Nat} (h : numR b s n = (x, r, false)) : s = false ∧ n ≤ b.length ∧ r = b.drop n ∧ x = ofLE (b.take n) := by
  unfold numR at h
  split at h
  · cases h
  · rename_i hh
    cases h
    refine ⟨?_, ?_, rfl, rfl⟩
    · cases s
      · rfl
      · exact absurd (.inl rfl) hh
    · exact Nat.le_of_not_lt fun q => hh (.inr q)
theorem BytesAt.piece {K : Nat → Obj → Prop} {w : World} {b off len cap : Nat} {bs : List UInt8} (h : BytesAt K w (.slice (some ⟨b, off, none⟩) len cap) bs) (lo n : Nat) (h1 : lo + n ≤ bs.length) (h2 : lo < cap) : BytesAt K w (.slice (some ⟨b, off + lo, none⟩) n (cap - lo)) ((bs.drop lo).take n) := by
  have := h.drop lo (by omega)
  rw [subA_some _ _ _ _ h2] at this
  exact this.take n (by rw [List.length_drop]; omega)
end Go.Proofs.Ytlolfcnfcgegdaa
/- The sessions' table as a list of clients, last numbers and answers: one contract a function. -/
namespace Go.Proofs.Ytlolfcnfcgegdaa
open Go.RowKit

abbrev MT := List (Int × Int × List UInt8)
def TabM (w : World) (B bt : Nat) (M : MT) : Prop := ∃ mv c R, Tab w B bt mv c R ∧ R.map Rec.abs = M
def findM (M : MT) (n : Int) : Option (Int × Int × List UInt8) := M.find? fun x => decide (x.1 = n)
def askM (M : MT) (n s : Int) : List UInt8 × Bool × Int :=
  match findM M n with
  | none => ([], false, 81)
  | some x => if 0 < s ∧ x.2.1 = s then (x.2.2, true, 0) else ([], false, askCode x.2.1 s)
def setM (M : MT) (n s : Int) (bs : List UInt8) : MT := M.map fun x => if x.1 = n then (x.1, s, bs) else x
def doneM (M : MT) (n s : Int) (bs : List UInt8) : Int × MT :=
  match findM M n with
  | none => (81, M)
  | some x => if s = x.2.1 + 1 ∧ bs.length ≤ 9 then (0, setM M n s bs) else (doneCode x.2.1 s bs.length, M)
def openM (M : MT) (n : Int) : Int × MT :=
  if n < 0 ∨ 16 ≤ n then (31, M) else if (findM M n).isSome then (1, M) else if 6 ≤ M.length then (42, M) else (0, M ++ [(n, 0, [])])
def closeM (M : MT) (n : Int) : Int × MT := if (findM M n).isSome then (0, M.filter fun x => !decide (x.1 = n)) else (81, M)

theorem findM_abs (n : Int) : ∀ R : List Rec, findM (R.map Rec.abs) n = (findR R n).map Rec.abs
  | [] => rfl
  | r :: R => by
    have ih := findM_abs n R
    by_cases h : r.key = n
    · simp [findM, findR, Rec.abs, h]
    · simp only [findM, findR, List.map_cons, List.find?_cons, Rec.abs, h, decide_false] at ih ⊢
      exact ih
theorem setM_abs (R : List Rec) (n s : Int) (v : Value) (bs : List UInt8) : (setR R n s v bs).map Rec.abs = setM (R.map Rec.abs) n s bs := by
  simp only [setR, setM, List.map_map]
  refine List.map_congr_left fun r _ => ?_
  by_cases h : r.key = n <;> simp [Rec.abs, h]

theorem TabM.fr {w w' : World} {B bt : Nat} {M : MT} (h : TabM w B bt M) (hf : Fr (fun _ _ => True) w w') : TabM w' B bt M := by
  obtain ⟨mv, c, R, h, e⟩ := h
  exact ⟨mv, c, R, h.fr hf, e⟩

theorem TabM.frk {K : Nat → Obj → Prop} {w w' : World} {B bt : Nat} {M : MT} (h : TabM w B bt M) (hf : Fr K w w') (hk : ∀ b o, w.heap[b]? = some o → KS B b o → K b o) : TabM w' B bt M := by
  obtain ⟨mv, c, R, h, e⟩ := h
  exact ⟨mv, c, R, h.frk hf hk, e⟩
/-- A new table. -/
theorem TabM.new (w : World) (B : Nat) (hB : B ≤ w.heap.size) : TabM (w.alloc (.cells #[.map none] 63 (0, 0))) B w.heap.size [] :=
  ⟨none, 0, [], ⟨heap_alloc_new _ _, hB, fun _ => rfl, (fun _ e => by cases e), (fun _ h => by cases h), List.nodup_nil, List.nodup_nil, List.nodup_nil, (fun _ h => by cases h)⟩, rfl⟩

theorem ask_calls (w : World) (B bt : Nat) (M : MT) (n s : Int) (h : TabM w B bt M) (h0 : 0 ≤ s) (h1 : s < 4294967296) (bs : List UInt8) (again : Bool) (code : Int) (hr : askM M n s = (bs, again, code)) :
    Calls Try.prog 46 #[.pointer (some ⟨bt, 0, none⟩), .int .i64 n, .int .u32 s] w fun e w' =>
      ∃ a cap, e = .returned (.tuple #[.slice a bs.length cap, .bool again, .int .i64 code]) ∧ BytesAt (New w.heap.size) w' (.slice a bs.length cap) bs ∧ TabM w' B bt M ∧ Fr (fun _ _ => True) w w' := by
  have hM := h
  obtain ⟨mv, c, R, h, e⟩ := h
  have hf := findM_abs n R
  rw [e] at hf
  cases hn : findR R n with
  | none =>
    rw [hn] at hf
    simp only [askM, hf, Option.map_none, Prod.mk.injEq] at hr
    obtain ⟨rfl, rfl, rfl⟩ := hr
    exact (ask_none w B bt mv c R n s h hn).mono fun e w' ⟨he, hw⟩ => ⟨none, 0, he, BytesAt.nil _ _, hw ▸ hM, hw ▸ Fr.refl _ _⟩
  | some r =>
    rw [hn] at hf
    simp only [askM, hf, Option.map_some, Rec.abs] at hr
    by_cases hs : 0 < s ∧ r.seq = s
    · rw [if_pos hs] at hr
      simp only [Prod.mk.injEq] at hr
      obtain ⟨rfl, rfl, rfl⟩ := hr
      refine (ask_again w B bt mv c R n s r h hn hs.1 hs.2).mono fun e w' ⟨v, he, hv, hf⟩ => ?_
      obtain ⟨a, cap, rfl⟩ := hv.form
      exact ⟨a, cap, he, hv, hM.fr hf, hf⟩
    · rw [if_neg hs] at hr
      simp only [Prod.mk.injEq] at hr
      obtain ⟨rfl, rfl, rfl⟩ := hr
      exact (ask_code w B bt mv c R n s r h hn h0 h1 hs).mono fun e w' ⟨he, hw⟩ => ⟨none, 0, he, BytesAt.nil _ _, hw ▸ hM, hw ▸ Fr.refl _ _⟩

theorem done_calls (w : World) (B bt : Nat) (M : MT) (n s : Int) (v : Value) (bs : List UInt8) (h : TabM w B bt M) (h0 : 0 ≤ s) (h1 : s < 4294967296) {K : Nat → Obj → Prop} (hb : BytesAt K w v bs) (code : Int) (M' : MT) (hr : doneM M n s bs = (code, M')) :
    Calls Try.prog 49 #[.pointer (some ⟨bt, 0, none⟩), .int .i64 n, .int .u32 s, v] w fun e w' =>
      e = .returned (.int .i64 code) ∧ TabM w' B bt M' ∧ Fr (KT B) w w' := by
  have hM := h
  obtain ⟨mv, c, R, h, e⟩ := h
  obtain ⟨a, cap, rfl⟩ := hb.form
  have hf := findM_abs n R
  rw [e] at hf
  cases hn : findR R n with
  | none =>
    rw [hn] at hf
    simp only [doneM, hf, Option.map_none, Prod.mk.injEq] at hr
    obtain ⟨rfl, rfl⟩ := hr
    exact (done_none w B bt mv c R n s _ h hn).mono fun e w' ⟨he, hw⟩ => ⟨he, hw ▸ hM, hw ▸ Fr.refl _ _⟩
  | some r =>
    rw [hn] at hf
    simp only [doneM, hf, Option.map_some, Rec.abs] at hr
    by_cases hs : s = r.seq + 1 ∧ bs.length ≤ 9
    · rw [if_pos hs] at hr
      simp only [Prod.mk.injEq] at hr
      obtain ⟨rfl, rfl⟩ := hr
      refine (done_ok w B bt mv c R n s r a cap bs h hn h0 h1 hs.1 hs.2 hb).mono fun e' w' ⟨v, he, ht, hf⟩ => ?_
      exact ⟨he, ⟨mv, c, _, ht, by rw [setM_abs, e]⟩, hf.but (KT.keep (h.each r (findR_mem hn).1) (Nat.le_refl _))⟩
    · rw [if_neg hs] at hr
      simp only [Prod.mk.injEq] at hr
      obtain ⟨rfl, rfl⟩ := hr
      exact (done_code w B bt mv c R n s r a _ cap h hn h0 h1 (by omega)).mono fun e w' ⟨he, hw⟩ => ⟨he, hw ▸ hM, hw ▸ Fr.refl _ _⟩

theorem open_calls (w : World) (B bt : Nat) (M : MT) (n : Int) (h : TabM w B bt M) (hB : B ≤ w.heap.size) (code : Int) (M' : MT) (hr : openM M n = (code, M')) :
    Calls Try.prog 22 #[.pointer (some ⟨bt, 0, none⟩), .int .i64 n] w fun e w' =>
      e = .returned (.int .i64 code) ∧ TabM w' B bt M' ∧ Fr (KT B) w w' := by
  have hM := h
  obtain ⟨mv, c, R, h, e⟩ := h
  have hf := findM_abs n R
  have hl : M.length = R.length := by rw [← e, List.length_map]
  rw [e] at hf
  unfold openM at hr
  by_cases hrg : n < 0 ∨ 16 ≤ n
  · rw [if_pos hrg] at hr
    obtain ⟨rfl, rfl⟩ := Prod.mk.inj hr
    exact (open_range w B bt mv c R n h hrg).mono fun e w' ⟨he, hw⟩ => ⟨he, hw ▸ hM, hw ▸ Fr.refl _ _⟩
  · rw [if_neg hrg] at hr
    cases hn : findR R n with
    | some r =>
      rw [hf, hn] at hr
      obtain ⟨rfl, rfl⟩ := Prod.mk.inj hr
      exact (open_there w B bt mv c R n r h (by omega) (by omega) hn).mono fun e w' ⟨he, hw⟩ => ⟨he, hw ▸ hM, hw ▸ Fr.refl _ _⟩
    | none =>
      rw [hf, hn] at hr
      simp only [Option.map_none, Option.isSome_none, Bool.false_eq_true, ↓reduceIte] at hr
      by_cases h6 : 6 ≤ M.length
      · rw [if_pos h6] at hr
        obtain ⟨rfl, rfl⟩ := Prod.mk.inj hr
        exact (open_full w B bt mv c R n h (by omega) (by omega) hn (by omega)).mono fun e w' ⟨he, hw⟩ => ⟨he, hw ▸ hM, hw ▸ Fr.refl _ _⟩
      · rw [if_neg h6] at hr
        obtain ⟨rfl, rfl⟩ := Prod.mk.inj hr
        cases mv with
        | none =>
          refine (open_first w B bt c R n h hB (by omega) (by omega)).mono fun e' w' ⟨he, ⟨bm, c', be, cc, ht, _⟩, hf⟩ => ⟨he, ⟨_, _, _, ht, ?_⟩, hf.but (KT.top h)⟩
          rw [List.map_append, e]; rfl
        | some bm =>
          refine (open_ok w B bt bm c R n h hB (by omega) (by omega) hn (by omega)).mono fun e' w' ⟨he, ⟨c', be, cc, ht, _⟩, hf⟩ => ⟨he, ⟨_, _, _, ht, ?_⟩, hf.but (KT.map (h.map bm rfl).1 (h.map bm rfl).2)⟩
          rw [List.map_append, e]; rfl

end Go.Proofs.Ytlolfcnfcgegdaa
/- The statements' awake: the chapter's examples hold. -/
namespace Go.Proofs.Ytlolfcnfcgegdaa
open Go.RowKit

/-- A slice literal of one byte. -/
theorem BytesAt.lit1 (w : World) (b : UInt8) (n : Int) (hn : n = b.toNat) : BytesAt (New w.heap.size) (w.alloc (.cells #[.int .u8 n] 5 (0, 0))) (.slice (some ⟨w.heap.size, 0, none⟩) 1 1) [b] := by
  refine ⟨_, 1, rfl, by simp, (fun e => by cases e), .inr ⟨w.heap.size, 0, _, rfl, heap_alloc_new _ _, ⟨Nat.le_refl _, _, _, rfl⟩, fun i hi => ?_⟩⟩
  have : i = 0 := by simpa using hi
  subst this hn
  exact cell_mk (heap_alloc_new _ _) rfl

/-- Behind a table's step: the table and what lay below. -/
theorem Fr.kt {B : Nat} {a w w' : World} (h : Fr (fun b _ => b < B) a w) (hf : Fr (KT B) w w') : Fr (fun b _ => b < B) a w' := h.trans (hf.mono fun _ _ h => .inl h)
theorem BytesAt.kt {B n : Nat} {w w' : World} {v : Value} {bs : List UInt8} (h : BytesAt (New n) w v bs) (hf : Fr (KT B) w w') : BytesAt (KT B) w' v bs := (h.mono fun _ _ _ h => KT.new h).fr hf

end Go.Proofs.Ytlolfcnfcgegdaa
