/- Texts of the proofs, part 7: what the functions that they reach do, walked; no conditions beyond those that each states. -/
import Derived.BigQuiet
import Derived.Deep.QuietTactic
import Derived.Test.YtcpbmempfeloaaaDoorZz07b80fbfc1
set_option linter.unusedVariables false
set_option linter.unusedSimpArgs false
/- Package pack: the Reader. -/
namespace Go.Proofs.YtcpbmempfeloaaaDoor
open Go.RowKit

/-- Where a slice begins that is cut at n. -/
def subA (a : Option Addr) (cap n : Nat) : Option Addr := if cap = n then a else a.map (·.add n)
theorem run_slice_from {P : Program} {t e : TypeId} (ht : P.underlying t = some (.slice e)) (hs : (sizeOf e).run P = fun w => .ok 1 w) (w : World) (a : Option Addr) (len cap n : Nat) (k : IntKind) (h : n ≤ len) :
    (Instr.slice t (.slice a len cap) (some (.int k n)) none none).run P w = .ok (.slice (subA a cap n) (len - n) (cap - n)) w := by
  have h0 : (0 : Int) ≤ n ∧ (n : Int) ≤ len := by omega
  simp only [Instr.slice, Sem.run_bind, run_underlying ht, Result.andThen, Instr.sliceBounds, Instr.sliceBound, asIntOf, Sem.run_pure, h0, and_self, ↓reduceIte, hs]
  simp [subA]
theorem run_slice_to {P : Program} {t e : TypeId} (ht : P.underlying t = some (.slice e)) (hs : (sizeOf e).run P = fun w => .ok 1 w) (w : World) (a : Option Addr) (len cap n : Nat) (k : IntKind) (h : n ≤ cap) :
    (Instr.slice t (.slice a len cap) none (some (.int k n)) none).run P w = .ok (.slice a n cap) w := by
  have h0 : (0 : Int) ≤ n ∧ (n : Int) ≤ cap := by omega
  simp only [Instr.slice, Sem.run_bind, run_underlying ht, Result.andThen, Instr.sliceBounds, Instr.sliceBound, asIntOf, Sem.run_pure, h0, and_self, ↓reduceIte, hs]
  cases a <;> simp [Addr.add]
theorem run_slice_mid {P : Program} {t e : TypeId} (ht : P.underlying t = some (.slice e)) (hs : (sizeOf e).run P = fun w => .ok 1 w) (w : World) (a : Option Addr) (len cap n m : Nat) (k k' : IntKind) (h : n ≤ m) (h' : m ≤ cap) :
    (Instr.slice t (.slice a len cap) (some (.int k n)) (some (.int k' m)) none).run P w = .ok (.slice (subA a cap n) (m - n) (cap - n)) w := by
  have h0 : (0 : Int) ≤ n ∧ (n : Int) ≤ m := by omega
  have h1 : (0 : Int) ≤ m ∧ (m : Int) ≤ cap := by omega
  simp only [Instr.slice, Sem.run_bind, run_underlying ht, Result.andThen, Instr.sliceBounds, Instr.sliceBound, asIntOf, Sem.run_pure, h0, h1, and_self, ↓reduceIte, hs]
  simp [subA, h]

theorem BytesAt.take {K : Nat → Obj → Prop} {w : World} {a : Option Addr} {len cap : Nat} {bs : List UInt8} (h : BytesAt K w (.slice a len cap) bs) (n : Nat) (hn : n ≤ bs.length) : BytesAt K w (.slice a n cap) (bs.take n) := by
  obtain ⟨a', cap', hv, hl, hz, h⟩ := h
  cases hv
  have e : (bs.take n).length = n := by rw [List.length_take]; omega
  refine ⟨a, cap, by rw [e], by omega, hz, ?_⟩
  rcases h with rfl | ⟨b, off, o, ha, hb, hk, hc⟩
  · left; simp
  · refine .inr ⟨b, off, o, ha, hb, hk, fun i hi => ?_⟩
    rw [hc i (by omega)]
    simp
theorem BytesAt.drop {K : Nat → Obj → Prop} {w : World} {a : Option Addr} {len cap : Nat} {bs : List UInt8} (h : BytesAt K w (.slice a len cap) bs) (n : Nat) (hn : n ≤ bs.length) : BytesAt K w (.slice (subA a cap n) (len - n) (cap - n)) (bs.drop n) := by
  obtain ⟨a', cap', hv, hl, hz, h⟩ := h
  cases hv
  have e : (bs.drop n).length = bs.length - n := by rw [List.length_drop]
  refine ⟨_, cap - n, by rw [e], by omega, ?_, ?_⟩
  · intro h0
    unfold subA at h0
    split at h0
    · have := hz h0; omega
    · have : a = none := by simpa using h0
      have := hz this; omega
  · by_cases h0 : bs.drop n = []
    · exact .inl h0
    · have hlt : n < bs.length := by
        rcases Nat.lt_or_ge n bs.length with h1 | h1
        · exact h1
        · exact absurd (List.drop_eq_nil_of_le h1) h0
      rcases h with rfl | ⟨b, off, o, ha, hb, hk, hc⟩
      · simp at hlt
      · subst ha
        refine .inr ⟨b, off + n, o, ?_, hb, hk, fun i hi => ?_⟩
        · unfold subA
          rw [if_neg (by omega)]
          show some (Addr.add ⟨b, off, none⟩ n) = _
          unfold Addr.add
          split
          · subst n; rfl
          · rfl
        · rw [e] at hi
          rw [Nat.add_assoc, hc (n + i) (by omega)]
          simp

theorem subA_some (b off cap n : Nat) (h : n < cap) : subA (some ⟨b, off, none⟩) cap n = some ⟨b, off + n, none⟩ := by
  unfold subA
  rw [if_neg (by omega)]
  show some (Addr.add ⟨b, off, none⟩ n) = _
  unfold Addr.add
  split
  · subst n; rfl
  · rfl
theorem BytesAt.cap {K : Nat → Obj → Prop} {w : World} {a : Option Addr} {n cap : Nat} {bs : List UInt8} (h : BytesAt K w (.slice a n cap) bs) : n ≤ cap := by
  obtain ⟨a', cap', hv, hl, _⟩ := h
  simp only [Value.slice.injEq] at hv
  obtain ⟨_, h1, h2⟩ := hv
  omega

/-- A Reader at br that has the bytes bs left. -/
structure RdrAt (K : Nat → Obj → Prop) (w : World) (br : Nat) (v : Value) (bs : List UInt8) (shut : Bool) : Prop where
  top : w.heap[br]? = some (.cells #[v, .bool shut] 185 (0, 0))
  bytes : BytesAt K w v bs
  off : ∀ cs fz, ¬ K br (.cells cs 185 fz)

set_option maxRecDepth 100000 in
theorem read_calls (w : World) (a : Option Addr) (len cap : Nat) : Calls Tryd.prog 99 #[.slice a len cap] w fun e w' => e = .returned (.pointer (some ⟨w.heap.size, 0, none⟩)) ∧ w' = w.alloc (.cells #[.slice a len cap, .bool false] 185 (0, 0)) := by
  go_enter Tryd.func99, Tryd.ntmps99
  go_wp2
  go_ret
  exact ⟨rfl, rfl⟩

theorem size_u8 : (sizeOf 5).run Tryd.prog = fun w => .ok 1 w := by kernel_rfl

theorem RdrAt.turn {K : Nat → Obj → Prop} {w : World} {br : Nat} {v : Value} {bs : List UInt8} {sh : Bool} (h : RdrAt K w br v bs sh) (v2 : Value) (sh2 : Bool) :
    ((w.setCell ⟨br, 1, none⟩ (.bool sh2)).setCell ⟨br, 0, none⟩ v2).heap[br]? = some (.cells #[v2, .bool sh2] 185 (0, 0)) ∧
    Fr K w ((w.setCell ⟨br, 1, none⟩ (.bool sh2)).setCell ⟨br, 0, none⟩ v2) ∧ Fr (fun b _ => b ≠ br) w ((w.setCell ⟨br, 1, none⟩ (.bool sh2)).setCell ⟨br, 0, none⟩ v2) := by
  have hp : ∀ o, w.heap[(⟨br, 1, none⟩ : Addr).block]? = some o → ¬ K br o := fun o ho => by
    rw [h.top] at ho; cases ho; exact h.off _ _
  exact ⟨heap_setCell_same (heap_setCell_same h.top _) _, ((Fr.refl _ _).setCell (p := ⟨br, 1, none⟩) hp _).setCell (p := ⟨br, 0, none⟩) hp _, ((Fr.refl _ _).setCell (fun _ _ h => h rfl) _).setCell (fun _ _ h => h rfl) _⟩

set_option maxRecDepth 100000 in
theorem take_ok {K : Nat → Obj → Prop} (w : World) (br : Nat) (v : Value) (bs : List UInt8) (n : Nat) (h : RdrAt K w br v bs false) (hn : n ≤ bs.length) (hm : bs.length ≤ 140737488355328) :
    Calls Tryd.prog 122 #[.pointer (some ⟨br, 0, none⟩), .int .i64 n] w fun e w' => ∃ out v', e = .returned out ∧ BytesAt K w' out (bs.take n) ∧ RdrAt K w' br v' (bs.drop n) false ∧ Fr (fun b _ => b ≠ br) w w' := by
  obtain ⟨a, cap, rfl⟩ := h.bytes.form
  have hcap : bs.length ≤ cap := by
    obtain ⟨a', cap', hv, hl, _⟩ := h.bytes
    cases hv; exact hl
  have c0 := cell_mk (i := 0) h.top rfl
  have c1 := cell_mk (i := 1) h.top rfl
  have f0 := frozen_mk (i := 0) h.top
  have f1 := frozen_mk (i := 1) h.top
  have s1 := fun W => run_slice_to Tryd.underlying33 size_u8 W a bs.length cap n .i64 (by omega)
  have s2 := fun W => run_slice_from Tryd.underlying33 size_u8 W a bs.length cap n .i64 hn
  have hle : decide ((bs.length : Int) < n) = false := by simp; omega
  have H := Lib.hid h
  clear h hcap
  generalize hsub : subA a cap n = a2 at s2
  have HS := Lib.hid hsub
  clear hsub
  go_enter Tryd.func122, Tryd.ntmps122
  go_wp2
  go_ret
  obtain ⟨t1, f2, f3⟩ := H.out.turn (.slice a2 (bs.length - n) (cap - n)) false
  have b2 := H.out.bytes.drop n hn
  rw [HS.out] at b2
  exact ⟨_, _, rfl, (H.out.bytes.take n hn).fr f2, ⟨t1, b2.fr f2, H.out.off⟩, f3⟩

set_option maxRecDepth 100000 in
theorem take_no {K : Nat → Obj → Prop} (w : World) (br : Nat) (v : Value) (bs : List UInt8) (sh : Bool) (n : Nat) (h : RdrAt K w br v bs sh) (hn : sh = true ∨ bs.length < n) (hm : n ≤ 140737488355328) :
    Calls Tryd.prog 122 #[.pointer (some ⟨br, 0, none⟩), .int .i64 n] w fun e w' => e = .returned (.slice none 0 0) ∧ RdrAt K w' br (.slice none 0 0) [] true ∧ Fr (fun b _ => b ≠ br) w w' := by
  obtain ⟨a, cap, rfl⟩ := h.bytes.form
  have c0 := cell_mk (i := 0) h.top rfl
  have c1 := cell_mk (i := 1) h.top rfl
  have f0 := frozen_mk (i := 0) h.top
  have f1 := frozen_mk (i := 1) h.top
  have H := Lib.hid h
  clear h
  cases sh with
  | true =>
    clear hn
    go_enter Tryd.func122, Tryd.ntmps122
    go_wp2
    go_ret
    obtain ⟨t1, f2, f3⟩ := H.out.turn (.slice none 0 0) true
    exact ⟨rfl, ⟨t1, BytesAt.nil _ _, H.out.off⟩, f3⟩
  | false =>
    have hlt : (bs.length : Int) < n := by
      rcases hn with hn | hn
      · cases hn
      · omega
    clear hn
    go_enter Tryd.func122, Tryd.ntmps122
    go_wp2
    go_ret
    obtain ⟨t1, f2, f3⟩ := H.out.turn (.slice none 0 0) true
    exact ⟨rfl, ⟨t1, BytesAt.nil _ _, H.out.off⟩, f3⟩

/-- A number of bytes, the lowest first. -/
def ofLE : List UInt8 → Nat
  | [] => 0
  | b :: r => b.toNat + 256 * ofLE r
theorem ofLE_lt : ∀ l : List UInt8, ofLE l < 256 ^ l.length
  | [] => by decide
  | b :: r => by
    have h1 := ofLE_lt r
    have h2 := UInt8.toNat_lt b
    rw [ofLE, List.length_cons, Nat.pow_succ]
    omega
theorem ofLE_snoc (c : UInt8) : ∀ l : List UInt8, ofLE (l ++ [c]) = ofLE l + c.toNat * 256 ^ l.length
  | [] => by simp [ofLE]
  | b :: r => by
    rw [List.cons_append, ofLE, ofLE_snoc c r, ofLE, List.length_cons, Nat.pow_succ, Nat.mul_add, ← Nat.add_assoc, Nat.mul_comm 256 (c.toNat * _), Nat.mul_assoc]

theorem or_byte (s : Nat) (c : UInt8) (k : Nat) (hs : s < 256 ^ k) (hk : k < 8) :
    bits .or .u64 (s : Int) (IntKind.u64.wrap (IntKind.u64.wrap (c.toNat : Int) * 2 ^ (8 * k))) = ((s + c.toNat * 256 ^ k : Nat) : Int) := by
  have hc := UInt8.toNat_lt c
  have e256 : (256 : Nat) ^ k = 2 ^ (8 * k) := by rw [Nat.pow_mul]
  have hle : (256 : Nat) ^ k ≤ 256 ^ 7 := Nat.pow_le_pow_right (by decide) (by omega)
  have hle' : c.toNat * 256 ^ k ≤ 255 * 256 ^ 7 := Nat.mul_le_mul (by omega) hle
  have h1 : IntKind.u64.wrap (c.toNat : Int) = (c.toNat : Int) := by rw [IntKind.wrap_u64]; omega
  have h2 : IntKind.u64.wrap ((c.toNat : Int) * 2 ^ (8 * k)) = ((c.toNat * 256 ^ k : Nat) : Int) := by
    rw [show (c.toNat : Int) * 2 ^ (8 * k) = ((c.toNat * 256 ^ k : Nat) : Int) from by rw [e256]; simp, IntKind.wrap_u64]
    omega
  rw [h1, h2, bits_or_u64_nat s _ (by omega) (by omega)]
  congr 1
  rw [e256] at hs ⊢
  rw [Nat.or_comm, ← Nat.shiftLeft_eq, ← Nat.shiftLeft_add_eq_or_of_lt hs, Nat.add_comm]

set_option maxRecDepth 100000 in
set_option maxHeartbeats 1000000 in
theorem rnum_ok {K : Nat → Obj → Prop} (w : World) (br : Nat) (v : Value) (bs : List UInt8) (n : Nat) (h : RdrAt K w br v bs false) (h1 : 1 ≤ n) (h8 : n ≤ 8) (hn : n ≤ bs.length) (hm : bs.length ≤ 140737488355328) :
    Calls Tryd.prog 100 #[.pointer (some ⟨br, 0, none⟩), .int .i64 n] w fun e w' => e = .returned (.int .u64 (ofLE (bs.take n) : Nat)) ∧ (∃ v', RdrAt K w' br v' (bs.drop n) false) ∧ Fr (fun b _ => b ≠ br) w w' := by
  have h1' : (1 : Int) ≤ n := by omega
  have h8' : (n : Int) ≤ 8 := by omega
  have H := Lib.hid h
  clear h
  go_enter Tryd.func100, Tryd.ntmps100
  go_wp2_with fail
  (with_reducible refine (take_ok w br v bs n H.out hn hm).mono ?_)
  rintro e w1 ⟨out, v1, rfl, hb, hr, hf⟩
  obtain ⟨a1, cap1, rfl⟩ := hb.form
  have hl : (bs.take n).length = n := by rw [List.length_take]; omega
  rw [hl] at hb ⊢
  generalize hxs : bs.take n = xs at hb hl
  have HX := Lib.hid hxs
  have HB := Lib.hid hb
  have HL := Lib.hid hl
  have HR := Lib.hid hr
  have HF := Lib.hid hf
  clear hxs hb hl hr hf H
  go_wp2
  go_loop [5, 24] (fun s i => ∃ k : Nat, k ≤ n ∧ i = .int .i64 k ∧ s = .int .u64 (ofLE (xs.take k) : Nat)) (fun _ i => n - (intOf i).toNat)
  case atStart => exact ⟨0, Nat.zero_le _, rfl, rfl⟩
  case round =>
    obtain ⟨k, hk, rfl, rfl⟩ := hrel
    by_cases hlt : k < n
    · have hkl : k < xs.length := by have := HL.out; omega
      obtain ⟨b, off, rfl⟩ := HB.out.addr (by omega)
      have g := HB.out.cell hkl
      unfold byteV at g
      have hsn := Lib.hid (ofLE_snoc xs[k] (xs.take k))
      have hup := ofLE_lt (xs.take k)
      generalize ofLE (xs.take k) = s at hsn hup
      generalize hc : xs[k] = c at g hsn
      have HC := Lib.hid hc
      clear hc
      have hkk : (xs.take k).length = k := by rw [List.length_take]; omega
      rw [hkk] at hup
      have HU := Lib.hid hup
      have HK := Lib.hid hkk
      clear hup hkk
      go_wp2
      go_round
      case rel =>
        refine ⟨k + 1, by omega, by go_num, ?_⟩
        rw [List.take_succ_eq_append_getElem hkl, HC.out, hsn.out, HK.out, or_byte s c k HU.out (by omega)]
      case measure => simp [intOf]; omega
    · go_wp2
      go_ret
      have e1 : k = n := by omega
      subst e1
      refine ⟨?_, ⟨v1, HR.out⟩, HF.out⟩
      have e2 : ofLE (bs.take k) = ofLE (xs.take k) := by rw [HX.out, List.take_of_length_le (by have := HL.out; omega)]
      rw [e2]
      rfl

set_option maxRecDepth 100000 in
set_option maxHeartbeats 1000000 in
theorem rnum_no {K : Nat → Obj → Prop} (w : World) (br : Nat) (v : Value) (bs : List UInt8) (sh : Bool) (n : Nat) (h : RdrAt K w br v bs sh) (h1 : 1 ≤ n) (h8 : n ≤ 8) (hn : sh = true ∨ bs.length < n) :
    Calls Tryd.prog 100 #[.pointer (some ⟨br, 0, none⟩), .int .i64 n] w fun e w' => e = .returned (.int .u64 0) ∧ (∃ v', RdrAt K w' br v' [] true) ∧ Fr (fun b _ => b ≠ br) w w' := by
  have h1' : (1 : Int) ≤ n := by omega
  have h8' : (n : Int) ≤ 8 := by omega
  have H := Lib.hid h
  have HN := Lib.hid hn
  clear h hn
  go_enter Tryd.func100, Tryd.ntmps100
  go_wp2_with fail
  (with_reducible refine (take_no w br v bs sh n H.out HN.out (by omega)).mono ?_)
  rintro e w1 ⟨rfl, hr, hf⟩
  have HR := Lib.hid hr
  have HF := Lib.hid hf
  clear hr hf H
  go_wp2
  go_loop [5, 24] (fun s i => s = .int .u64 0 ∧ i = .int .i64 0) (fun _ _ => 0)
  case atStart => exact ⟨rfl, rfl⟩
  case round =>
    obtain ⟨rfl, rfl⟩ := hrel
    go_wp2
    go_ret
    exact ⟨rfl, ⟨_, HR.out⟩, HF.out⟩

/-- What Number gives, and what is left. -/
def numR (bs : List UInt8) (sh : Bool) (n : Nat) : Nat × List UInt8 × Bool := if sh = true ∨ bs.length < n then (0, [], true) else (ofLE (bs.take n), bs.drop n, false)

theorem rnum_calls {K : Nat → Obj → Prop} (w : World) (br : Nat) (v : Value) (bs : List UInt8) (sh : Bool) (n : Nat) (h : RdrAt K w br v bs sh) (h1 : 1 ≤ n) (h8 : n ≤ 8) (hm : bs.length ≤ 140737488355328) :
    Calls Tryd.prog 100 #[.pointer (some ⟨br, 0, none⟩), .int .i64 n] w fun e w' => e = .returned (.int .u64 ((numR bs sh n).1 : Nat)) ∧ (∃ v', RdrAt K w' br v' (numR bs sh n).2.1 (numR bs sh n).2.2) ∧ Fr (fun b _ => b ≠ br) w w' := by
  unfold numR
  by_cases hn : sh = true ∨ bs.length < n
  · rw [if_pos hn]
    exact rnum_no w br v bs sh n h h1 h8 hn
  · rw [if_neg hn]
    have : sh = false := by cases sh <;> simp_all
    subst this
    exact rnum_ok w br v bs n h h1 h8 (by omega) hm

end Go.Proofs.YtcpbmempfeloaaaDoor
/- The references' Same: whether two slices of bytes hold the same bytes. -/
namespace Go.Proofs.YtcpbmempfeloaaaDoor
open Go.RowKit

theorem Fr.drewN {K : Nat → Obj → Prop} {a w : World} (h : Fr K a w) (n : Nat) : Fr K a (w.drewN n) := by
  induction n generalizing w with
  | zero => exact h
  | succ n ih => exact (ih h).drew

theorem byteV_inj {a b : UInt8} : ((a.toNat : Int) != (b.toNat : Int)) = (a != b) := by
  rw [Bool.eq_iff_iff, bne_iff_ne, bne_iff_ne]
  exact ⟨fun h e => h (by rw [e]), fun h e => h (UInt8.toNat_inj.1 (by omega))⟩

set_option maxRecDepth 100000 in
theorem same_len (w : World) (a1 a2 : Option Addr) (n1 n2 c1 c2 : Nat) (hn : ¬ n1 = n2) : Calls Tryd.prog 59 #[.slice a1 n1 c1, .slice a2 n2 c2] w fun e w' => e = .returned (.bool false) ∧ w = w' := by
  have hq : ((n1 : Int) != n2) = true := by simp; omega
  clear hn
  go_enter Tryd.func59, Tryd.ntmps59
  go_wp2
  go_ret
  exact ⟨rfl, rfl⟩

set_option maxRecDepth 100000 in
theorem same_nil (w : World) (a1 a2 : Option Addr) (c1 c2 : Nat) : Calls Tryd.prog 59 #[.slice a1 0 c1, .slice a2 0 c2] w fun e w' => e = .returned (.bool true) ∧ w = w' := by
  go_enter Tryd.func59, Tryd.ntmps59
  go_wp2
  go_loop [5] (fun i => i = .int .i64 0) (fun _ => 0)
  case atStart => exact rfl
  case round =>
    obtain rfl := hrel
    go_wp2
    go_ret
    exact ⟨rfl, rfl⟩

set_option maxRecDepth 100000 in
theorem same_loop (w : World) (b1 b2 o1 o2 n c1 c2 : Nat) (x y : List UInt8) {K K' : Nat → Obj → Prop} (hx : BytesAt K w (.slice (some ⟨b1, o1, none⟩) n c1) x) (hy : BytesAt K' w (.slice (some ⟨b2, o2, none⟩) n c2) y) (hm : n ≤ 140737488355328) :
    Calls Tryd.prog 59 #[.slice (some ⟨b1, o1, none⟩) n c1, .slice (some ⟨b2, o2, none⟩) n c2] w fun e w' => e = .returned (.bool (decide (x = y))) ∧ ∃ k, w' = w.drewN k := by
  have h1 := hx.len
  have h2 := hy.len
  have HX := Lib.hid hx
  have HY := Lib.hid hy
  have H1 := Lib.hid h1
  have H2 := Lib.hid h2
  clear hx hy h1 h2
  go_enter Tryd.func59, Tryd.ntmps59
  go_wp2
  go_loopw [5] (fun i wr => ∃ k : Nat, k ≤ n ∧ i = .int .i64 k ∧ x.take k = y.take k ∧ ∃ j, wr = w.drewN j) (fun i _ => n - (intOf i).toNat)
  case atStart => exact ⟨0, Nat.zero_le _, rfl, rfl, 0, rfl⟩
  case round =>
    obtain ⟨k, hk, rfl, ht, j, rfl⟩ := hrel
    have HT := Lib.hid ht
    clear ht
    by_cases hlt : k < n
    · have g1 := HX.out.cell (i := k) (by have := H1.out; omega)
      have g2 := HY.out.cell (i := k) (by have := H2.out; omega)
      have l1 : k < x.length := by have := H1.out; omega
      have l2 : k < y.length := by have := H2.out; omega
      generalize hu : x[k] = u at g1
      generalize hv : y[k] = v at g2
      have HU := Lib.hid hu
      have HV := Lib.hid hv
      clear hu hv
      unfold byteV at g1 g2
      go_wp2
      go_quiet (fail)
      go_wp2
      · go_ret
        have hne : (↑u.toNat != (↑v.toNat : Int)) = true := by assumption
        rw [byteV_inj] at hne
        refine ⟨?_, j + nq, World.drewN_drewN _ _ _⟩
        have e1 : x ≠ y := fun e => by
          have := HU.out; have := HV.out; subst e; simp_all
        simp [e1]
      · have heq : (↑u.toNat != (↑v.toNat : Int)) = false := by assumption
        rw [byteV_inj] at heq
        go_roundw
        case rel =>
          refine ⟨k + 1, by omega, by go_num, ?_, _, rfl⟩
          rw [List.take_succ_eq_append_getElem l1, List.take_succ_eq_append_getElem l2, HT.out, HU.out, HV.out]
          simp at heq
          rw [heq]
        case measure => simp [intOf]; omega
    · go_wp2
      go_ret
      have e1 : x = y := by
        have := HT.out
        rwa [List.take_of_length_le (by have := H1.out; omega), List.take_of_length_le (by have := H2.out; omega)] at this
      exact ⟨by simp [e1], _, rfl⟩

theorem same_calls (w : World) (v1 v2 : Value) (x y : List UInt8) {K K' : Nat → Obj → Prop} (hx : BytesAt K w v1 x) (hy : BytesAt K' w v2 y) (hm : x.length ≤ 140737488355328) :
    Calls Tryd.prog 59 #[v1, v2] w fun e w' => e = .returned (.bool (decide (x = y))) ∧ ∃ k, w' = w.drewN k := by
  obtain ⟨a1, c1, rfl⟩ := hx.form
  obtain ⟨a2, c2, rfl⟩ := hy.form
  by_cases hl : x.length = y.length
  · by_cases h0 : x.length = 0
    · have e1 := List.length_eq_zero_iff.1 h0
      have e2 := List.length_eq_zero_iff.1 (hl ▸ h0)
      subst e1 e2
      exact (same_nil w a1 a2 c1 c2).mono fun e w' ⟨he, hw⟩ => ⟨he, 0, hw.symm⟩
    · obtain ⟨b1, o1, rfl⟩ := hx.addr (by omega)
      obtain ⟨b2, o2, rfl⟩ := hy.addr (by omega)
      rw [← hl] at hy ⊢
      exact same_loop w b1 b2 o1 o2 _ c1 c2 x y hx hy hm
  · refine (same_len w a1 a2 _ _ c1 c2 hl).mono fun e w' ⟨he, hw⟩ => ⟨?_, 0, hw.symm⟩
    rw [he, show decide (x = y) = false from by simp; exact fun e => hl (by rw [e])]

end Go.Proofs.YtcpbmempfeloaaaDoor
/- The references: Number; appends of bytes. -/
namespace Go.Proofs.YtcpbmempfeloaaaDoor
open Go.RowKit

/-- An append of bytes to a row of the function's own. -/
theorem wpList_append_bytes {K0 : Nat → Obj → Prop} {ops : Array Oper} {rest : List Oper} {o : Oper} {a : Act} {Q : Exit → Act → World → Prop} (W : World) (hgd : o.guard = none) (s x : Operand)
    (ho : o.op = .call { callee := .builtin .append, args := #[s, x], argTypes := #[33, 33] }) (B : Nat) (hB : B ≤ W.heap.size) (v : Value) (n : Nat) (xs : List UInt8) (hs : a.eval s = v) (hown : W.ownsRow B 5 1 v n (xs.map byteV))
    (vx : Value) (bs : List UInt8) (hx : a.eval x = vx) (hb : BytesAt K0 W vx bs) (N : Nat) (r : List UInt8) (hr : xs ++ bs = r) (hN : n + bs.length = N) (hn : N ≤ 2000000)
    (h : ∀ a' c' w', w'.ownsRow B 5 1 (.slice a' N c') N (r.map byteV) → W.grownBy w' v.ownBlock → wpList Tryd.prog ops Q rest (a.put o.dst (.slice a' N c')) w') :
    wpList Tryd.prog ops Q (o :: rest) a W := by
  obtain ⟨i0, hi, hz0, hz1, hz2⟩ := info_parts info_u8
  subst hr hN
  refine wpList_append_src W hgd s x 33 ho B 5 i0 (.int .u8 0) 1 1 Tryd.underlying33 hi hz0 hz1 hz2 rfl (by decide) v n (xs.map byteV) hs hown vx bs.length (bs.map byteV) hx hb.src (by unfold maxLen; omega) (by omega) hB ?_
  intro v' w' h1 h2 _
  rw [← List.map_append] at h1
  have hv' : ∃ a' c', v' = .slice a' (n + bs.length) c' := by
    rcases h1.2 with ⟨rfl, e⟩ | ⟨g, cap, _, rfl, _⟩
    · exact ⟨none, 0, by rw [e]⟩
    · exact ⟨_, _, rfl⟩
  obtain ⟨a', c', rfl⟩ := hv'
  exact h a' c' w' h1 h2

theorem BytesAt.lit' (w : World) (m : UInt8) : BytesAt (New w.heap.size) (w.alloc (.cells #[.int .u8 m.toNat] 5 (0, 0))) (.slice (some ⟨w.heap.size, 0, none⟩) 1 1) [m] := by
  refine ⟨_, 1, rfl, Nat.le_refl _, (fun e => by cases e), .inr ⟨w.heap.size, 0, _, rfl, heap_alloc_new _ _, ⟨Nat.le_refl _, _, _, rfl⟩, fun i hi => ?_⟩⟩
  obtain rfl : i = 0 := by simpa using hi
  exact cell_mk (heap_alloc_new _ _) rfl
theorem own_new {w : World} {B : Nat} {v : Value} {n : Nat} {xs : List Value} {e : TypeId} {s : Nat} (h : w.ownsRow B e s v n xs) : ∀ k, v.ownBlock = some k → B ≤ k := by
  intro k hk
  rcases h.2 with ⟨rfl, _⟩ | ⟨g, cap, _, rfl, hg, _⟩
  · cases hk
  · cases hk; exact hg

/-- A row of bytes of the function's own. -/
def RowB (w : World) (B : Nat) (v : Value) (n : Nat) (bs : List UInt8) : Prop := w.ownsRow B 5 1 v n (bs.map byteV)
/-- The same, told of what was there when a world began. -/
theorem wpList_append_fr {K0 : Nat → Obj → Prop} {ops : Array Oper} {rest : List Oper} {o : Oper} {a : Act} {Q : Exit → Act → World → Prop} (W0 W : World) (hF : Hid (Fr (fun _ _ => True) W0 W)) (hgd : o.guard = none) (s x : Operand)
    (ho : o.op = .call { callee := .builtin .append, args := #[s, x], argTypes := #[33, 33] }) (v : Value) (n : Nat) (xs : List UInt8) (hs : a.eval s = v) (hown : Hid (RowB W W0.heap.size v n xs))
    (vx : Value) (bs : List UInt8) (hx : a.eval x = vx) (hb : Hid (BytesAt K0 W vx bs)) (N : Nat) (r : List UInt8) (hr : Hid (xs ++ bs = r)) (hN : Hid (n + bs.length = N)) (hn : N ≤ 2000000)
    (h : ∀ a' c' w', Hid (RowB w' W0.heap.size (.slice a' N c') N r) → Hid (Fr (fun _ _ => True) W0 w') → wpList Tryd.prog ops Q rest (a.put o.dst (.slice a' N c')) w') :
    wpList Tryd.prog ops Q (o :: rest) a W :=
  wpList_append_bytes W hgd s x ho W0.heap.size hF.out.size v n xs hs hown.out vx bs hx hb.out N r hr.out hN.out hn fun a' c' w' h1 h2 => h a' c' w' h1 (hF.out.grown_new h2 (own_new hown.out))
theorem own_tt {w w' : World} {B : Nat} {v : Value} {n : Nat} {xs : List Value} {e : TypeId} {s : Nat} (h : w.ownsRow B e s v n xs) (hf : Fr (fun _ _ => True) w w') : w'.ownsRow B e s v n xs := ownsRow_fr h hf fun _ _ _ _ => trivial
theorem RowB.tt {w w' : World} {B : Nat} {v : Value} {n : Nat} {bs : List UInt8} (h : RowB w B v n bs) (hf : Fr (fun _ _ => True) w w') : RowB w' B v n bs := own_tt h hf
theorem BytesAt.of_own {w : World} {B : Nat} {v : Value} {n : Nat} {bs : List UInt8} (h : RowB w B v n bs) (hn : bs.length = n) : BytesAt (New B) w v bs := by
  subst hn; exact BytesAt.of_owns h

set_option maxRecDepth 100000 in
set_option maxHeartbeats 1000000 in
theorem num01_calls (w : World) (n : Nat) (size : Nat) (nz sz : Int) (hnz : nz = n) (hsz : sz = size) (h8 : size ≤ 8) (hn : n < 18446744073709551616) :
    Calls Tryd.prog 106 #[.int .u64 nz, .int .i64 sz] w fun e w' => (∃ a c, e = .returned (.slice a size c) ∧ RowB w' w.heap.size (.slice a size c) size (le n size)) ∧ Fr (fun _ _ => True) w w' := by
  subst hnz hsz
  have h8' : (size : Int) ≤ 8 := by omega
  go_enter Tryd.func106, Tryd.ntmps106
  go_wp2
  go_loopw [0, 5, 6] (fun nn out i wr => ∃ (k q : Nat) (a : Option Addr) (c : Nat), k ≤ size ∧ i = .int .i64 k ∧ nn = .int .u64 (q : Nat) ∧ q = n / 256 ^ k ∧ out = .slice a k c ∧ wr.ownsRow w.heap.size 5 1 (.slice a k c) k ((le n k).map byteV) ∧ Fr (fun _ _ => True) w wr) (fun _ _ i _ => size - (intOf i).toNat)
  case atStart => exact ⟨0, n, none, 0, Nat.zero_le _, rfl, rfl, by simp, rfl, ⟨rfl, .inl ⟨rfl, rfl⟩⟩, Fr.refl _ _⟩
  case round =>
    obtain ⟨k, q, a, c, hk, rfl, rfl, hq, rfl, ho, hf⟩ := hrel
    have hql : q < 18446744073709551616 := by rw [hq]; exact Nat.lt_of_le_of_lt (Nat.div_le_self _ _) hn
    have HQ := Lib.hid hq
    have HO := Lib.hid ho
    have HF := Lib.hid hf
    clear hq ho hf
    by_cases hlt : k < size
    · have e1 : (q : Int) % 256 = ((UInt8.ofNat q).toNat : Nat) := by rw [UInt8.toNat_ofNat']; omega
      have e2 := Lib.hid e1
      have e3 : ((UInt8.ofNat q).toNat : Int) % 256 = ((UInt8.ofNat q).toNat : Nat) := by have := (UInt8.ofNat q).toNat_lt; omega
      have HL := Lib.hid (le_snoc n k)
      have hm : (UInt8.ofNat q).toNat < 256 := (UInt8.ofNat q).toNat_lt
      generalize hmm : UInt8.ofNat q = m at e1 e2 e3 hm
      have HM := Lib.hid hmm
      clear hmm
      go_wp2_with (at_builtin; refine wpList_append_bytes _ rfl _ _ rfl w.heap.size ?c1 _ k (le n k) rfl (HO.out.alloc _) _ [m] rfl (BytesAt.lit' wr m) (k + 1) (le n (k + 1)) ?c2 rfl ?c3 ?_)
      case c1 => have := HF.out.size; simp; omega
      case c2 => rw [HL.out, ← HQ.out, HM.out]
      case c3 => omega
      intro a1 c1 w1 o1 g1
      have O1 := Lib.hid o1
      have F1 := Lib.hid ((HF.out.alloc _).grown_new g1 (own_new HO.out))
      clear o1 g1
      go_wp2
      go_roundw
      case rel => exact ⟨k + 1, q / 256, a1, c1, by omega, by go_num, by go_num, by rw [HQ.out, Nat.div_div_eq_div_mul, Nat.pow_succ], rfl, O1.out, F1.out⟩
      case measure => simp [intOf]; omega
    · obtain rfl : k = size := by omega
      go_wp2
      go_ret
      exact ⟨⟨a, c, rfl, HO.out⟩, HF.out⟩
end Go.Proofs.YtcpbmempfeloaaaDoor
/- The references: Of. -/
namespace Go.Proofs.YtcpbmempfeloaaaDoor
open Go.RowKit

set_option maxRecDepth 100000 in
theorem of_calls {K : Nat → Obj → Prop} (w : World) (v : Value) (bs : List UInt8) (h : BytesAt K w v bs) (hm : bs.length ≤ 8) :
    Calls Tryd.prog 63 #[v] w fun e w' => e = .returned (.int .u64 (ofLE bs : Nat)) ∧ w = w' := by
  obtain ⟨a, cap, rfl⟩ := h.form
  have HB := Lib.hid h
  clear h
  generalize hn : bs.length = n at hm
  have HN := Lib.hid hn
  clear hn
  go_enter Tryd.func63, Tryd.ntmps63
  go_wp2
  go_loop [3, 4] (fun s i => (i = .int .i64 (-1) ∧ s = .int .u64 (ofLE bs : Nat)) ∨ ∃ j : Nat, j < n ∧ i = .int .i64 (j : Nat) ∧ s = .int .u64 (ofLE (bs.drop (j + 1)) : Nat)) (fun _ i => (intOf i + 1).toNat)
  case atStart =>
    cases n with
    | zero => exact .inl ⟨rfl, by rw [List.length_eq_zero_iff.1 HN.out]; rfl⟩
    | succ m => exact .inr ⟨m, by omega, by go_num, by rw [List.drop_of_length_le (by have := HN.out; omega)]; rfl⟩
  case round =>
    rcases hrel with ⟨rfl, rfl⟩ | ⟨j, hj, rfl, rfl⟩
    · go_wp2
      go_ret
      exact ⟨rfl, rfl⟩
    · have hkl : j < bs.length := by have := HN.out; omega
      have hb' : BytesAt K w (.slice a n cap) bs := by have := HB.out; rwa [HN.out] at this
      obtain ⟨b, off, rfl⟩ := hb'.addr (by omega)
      have g := hb'.cell hkl
      unfold byteV at g
      clear hb'
      have hst : Hid (ofLE (bs.drop j) = bs[j].toNat + 256 * ofLE (bs.drop (j + 1))) := by rw [List.drop_eq_getElem_cons hkl, ofLE]; rfl
      have hlt : ofLE (bs.drop (j + 1)) < 256 ^ 7 := Nat.lt_of_lt_of_le (ofLE_lt _) (Nat.pow_le_pow_right (by decide) (by rw [List.length_drop]; have := HN.out; omega))
      rw [show (256 : Nat) ^ 7 = 72057594037927936 from by decide] at hlt
      have hlt' : (ofLE (bs.drop (j + 1)) : Int) < 72057594037927936 := by omega
      clear hlt
      have hc := bs[j].toNat_lt
      generalize ofLE (bs.drop (j + 1)) = s at hst hlt'
      generalize bs[j] = c at g hst hc
      go_wp2
      go_round
      case rel =>
        cases j with
        | zero => exact .inl ⟨by go_num, by have e := hst.out; rw [List.drop_zero] at e; rw [e, Nat.add_comm, Nat.mul_comm]; go_num⟩
        | succ m => exact .inr ⟨m, by omega, by go_num, by rw [hst.out, Nat.add_comm, Nat.mul_comm]; go_num⟩
      case measure => simp [intOf]
end Go.Proofs.YtcpbmempfeloaaaDoor
/- Rows of elements that are read; rows of one's own (printed by rows.py). -/
namespace Go.Proofs.YtcpbmempfeloaaaDoor
open Go.RowKit
set_option linter.unusedVariables false
set_option linter.unusedSimpArgs false

/-- A slice of elements that is read: each of k cells. -/
def RowsAt {α : Type} (K : Nat → Obj → Prop) (w : World) (v : Value) (k : Nat) (enc : α → List Value) (xs : List α) : Prop :=
  ∃ a c, v = .slice a xs.length c ∧ xs.length ≤ c ∧ (xs = [] ∨ ∃ b off o, a = some ⟨b, off, none⟩ ∧ w.heap[b]? = some o ∧ K b o ∧ ∀ i, (h : i < xs.length) → ∀ j u, (enc xs[i])[j]? = some u → w.cell? ⟨b, off + i * k + j, none⟩ = some u)
section
variable {α : Type} {K : Nat → Obj → Prop} {w w' : World} {v : Value} {k : Nat} {enc : α → List Value} {xs : List α}
theorem RowsAt.fr {K' : Nat → Obj → Prop} (h : RowsAt K w v k enc xs) (hf : Fr K' w w') (hk : ∀ c o, w.heap[c]? = some o → K c o → K' c o) : RowsAt K w' v k enc xs := by
  obtain ⟨a, c, hv, hc, h⟩ := h
  refine ⟨a, c, hv, hc, ?_⟩
  rcases h with h | ⟨b, off, o, ha, ho, hb, h⟩
  · exact .inl h
  · exact .inr ⟨b, off, o, ha, hf.keep _ _ ho (hk _ _ ho hb), hb, fun i hi j u hu => hf.cell (fun o' ho' => by have e : o' = o := Option.some.inj (ho'.symm.trans ho); subst e; exact hk _ _ ho' hb) (h i hi j u hu)⟩
theorem RowsAt.mono {K' : Nat → Obj → Prop} (h : RowsAt K w v k enc xs) (hk : ∀ c o, w.heap[c]? = some o → K c o → K' c o) : RowsAt K' w v k enc xs := by
  obtain ⟨a, c, hv, hc, h⟩ := h
  refine ⟨a, c, hv, hc, ?_⟩
  rcases h with h | ⟨b, off, o, ha, ho, hb, h⟩
  · exact .inl h
  · exact .inr ⟨b, off, o, ha, ho, hk _ _ ho hb, h⟩
theorem RowsAt.tt (h : RowsAt K w v k enc xs) (hf : Fr (fun _ _ => True) w w') : RowsAt K w' v k enc xs := h.fr hf fun _ _ _ _ => trivial
theorem RowsAt.form (h : RowsAt K w v k enc xs) : ∃ a c, v = .slice a xs.length c ∧ xs.length ≤ c := by
  obtain ⟨a, c, hv, hc, _⟩ := h
  exact ⟨a, c, hv, hc⟩
theorem RowsAt.nil (K : Nat → Obj → Prop) (w : World) (k : Nat) (enc : α → List Value) : RowsAt K w (.slice none 0 0) k enc [] := ⟨none, 0, rfl, Nat.le_refl _, .inl rfl⟩
theorem RowsAt.spot {a : Option Addr} {n c : Nat} (h : RowsAt K w (.slice a n c) k enc xs) (h0 : 0 < xs.length) : ∃ b off o, a = some ⟨b, off, none⟩ ∧ w.heap[b]? = some o ∧ K b o ∧ ∀ i, (h : i < xs.length) → ∀ j u, (enc xs[i])[j]? = some u → w.cell? ⟨b, off + i * k + j, none⟩ = some u := by
  obtain ⟨a', c', e, _, h⟩ := h
  cases e
  rcases h with h | h
  · rw [h] at h0; cases h0
  · exact h
theorem flat_get (hk : ∀ x, (enc x).length = k) : ∀ (xs : List α) (i : Nat) (h : i < xs.length) (j : Nat) (u : Value), (enc xs[i])[j]? = some u → (xs.flatMap enc)[i * k + j]? = some u
  | x :: xs, 0, _, j, u, hu => by
    rw [List.flatMap_cons, List.getElem?_append_left (by rw [Nat.zero_mul, Nat.zero_add]; exact (List.getElem?_eq_some_iff.1 hu).1), Nat.zero_mul, Nat.zero_add]
    exact hu
  | x :: xs, i + 1, h, j, u, hu => by
    have ih := flat_get hk xs i (by simpa using h) j u hu
    rw [List.flatMap_cons, List.getElem?_append_right (by rw [hk]; have := Nat.add_mul i 1 k; rw [Nat.one_mul] at this; omega), hk]
    have e : (i + 1) * k + j - k = i * k + j := by have := Nat.add_mul i 1 k; rw [Nat.one_mul] at this; omega
    rw [e]
    exact ih
theorem flat_length (hk : ∀ x, (enc x).length = k) : ∀ (xs : List α), (xs.flatMap enc).length = xs.length * k
  | [] => by simp
  | x :: xs => by rw [List.flatMap_cons, List.length_append, hk, flat_length hk xs, List.length_cons, Nat.succ_mul]; omega
/-- A row of one's own is a slice that is read. -/
theorem RowsAt.of_own {B : Nat} {t : TypeId} (hk : ∀ x, (enc x).length = k) (h : w.ownsRow B t k v xs.length (xs.flatMap enc)) (hK : ∀ c cs, v.ownBlock = some c → K c (.cells cs t (0, 0))) : RowsAt K w v k enc xs := by
  have h0 := h
  rcases h.2 with ⟨hv, h0⟩ | ⟨g, cap, cur, hv, hb, hg, hnc, _, _, ht⟩
  · exact ⟨none, 0, by rw [hv, h0], by omega, .inl (List.length_eq_zero_iff.1 h0)⟩
  · refine ⟨_, cap, hv, hnc, .inr ⟨g, 0, _, rfl, hg, hK g _ (by rw [hv]; rfl), fun i hi j u hu => ?_⟩⟩
    have k1 := h0.cells (g := g) (by rw [hv]; rfl) _ u (flat_get hk xs i hi j u hu)
    rw [Addr.add_lit, Nat.zero_add] at k1
    rw [Nat.zero_add]
    exact k1
theorem RowsAt.drop1 {b off c n : Nat} (h : RowsAt K w (.slice (some ⟨b, off, none⟩) n c) k enc xs) (h0 : 1 < c) : RowsAt K w (.slice (some ⟨b, off + 1 * k, none⟩) (n - 1) (c - 1)) k enc (xs.drop 1) := by
  obtain ⟨a, c', e, hc, h⟩ := h
  cases e
  refine ⟨_, _, by rw [List.length_drop], by rw [List.length_drop]; omega, ?_⟩
  rcases h with h | ⟨b', off', o, e, ho, hb, h⟩
  · exact .inl (by rw [h, List.drop_nil])
  · cases e
    refine .inr ⟨_, _, o, rfl, ho, hb, fun i hi j u hu => ?_⟩
    have hi' : 1 + i < xs.length := by rw [List.length_drop] at hi; omega
    rw [List.getElem_drop] at hu
    have := h (1 + i) hi' j u hu
    have e : off + (1 + i) * k + j = off + 1 * k + i * k + j := by rw [Nat.add_mul]; omega
    rw [e] at this
    exact this
end
theorem flat_snoc {α : Type} (enc : α → List Value) (xs : List α) (x : α) : xs.flatMap enc ++ enc x = (xs ++ [x]).flatMap enc := by simp
theorem flat_of {α : Type} {enc : α → List Value} {k : Nat} (hk : ∀ x, (enc x).length = k) (h0 : 0 < k) (xs : List α) (j : Nat) (u : Value) (h : (xs.flatMap enc)[j]? = some u) : ∃ (hi : j / k < xs.length), (enc xs[j / k])[j % k]? = some u := by
  obtain ⟨hj, _⟩ := List.getElem?_eq_some_iff.1 h
  rw [flat_length hk] at hj
  have hi : j / k < xs.length := (Nat.div_lt_iff_lt_mul h0).2 hj
  refine ⟨hi, ?_⟩
  have ht : j % k < (enc xs[j / k]).length := by rw [hk]; exact Nat.mod_lt _ h0
  have hg := flat_get hk xs (j / k) hi (j % k) _ (List.getElem?_eq_getElem ht)
  rw [Nat.mul_comm, Nat.div_add_mod, h] at hg
  rw [List.getElem?_eq_getElem ht, ← hg]
theorem RowsAt.src {α : Type} {enc : α → List Value} {k : Nat} {K : Nat → Obj → Prop} {w : World} {ad : Addr} {n c : Nat} {xs : List α} (hk : ∀ x, (enc x).length = k) (h0 : 0 < k) (h1 : ∀ x, ∀ u ∈ enc x, u.oneCell' = true) (h : RowsAt K w (.slice (some ad) n c) k enc xs) : SrcAt w k (.slice (some ad) n c) n (xs.flatMap enc) := by
  have hn : n = xs.length := by
    obtain ⟨a, c, e, _⟩ := h.form
    cases e; rfl
  subst hn
  refine .inr ⟨ad, c, rfl, flat_length hk xs, fun j u hu => ?_, fun u hu => ?_⟩
  · obtain ⟨hi, ht⟩ := flat_of hk h0 xs j u hu
    obtain ⟨b, off, o, e, _, _, hc⟩ := h.spot (Nat.lt_of_le_of_lt (Nat.zero_le _) hi)
    cases e
    have := hc _ hi _ _ ht
    rw [Nat.add_assoc, Nat.mul_comm, Nat.div_add_mod] at this
    unfold Addr.add
    split
    · subst j; exact this
    · exact this
  · obtain ⟨x, _, hx⟩ := List.mem_flatMap.1 hu
    exact h1 x u hx
theorem getD_at {α : Type} [Inhabited α] {l : List α} {i : Nat} (hi : i < l.length) : l.getD i default = l[i] := by rw [List.getD_eq_getElem?_getD, List.getElem?_eq_getElem hi]; rfl
/-- A row of one's own is read. -/
theorem rows_own {α : Type} {enc : α → List Value} {k : Nat} {w : World} {B : Nat} {e : TypeId} {v : Value} {xs : List α} (h : w.ownsRow B e k v xs.length (xs.flatMap enc)) (hk : ∀ x, (enc x).length = k) : RowsAt (fun c o => B ≤ c ∧ ∃ cs, o = .cells cs e (0, 0)) w v k enc xs := by
  rcases h.2 with ⟨rfl, h0⟩ | ⟨g, cap, cur, rfl, hb, hg, hn, _, hc, ht⟩
  · rw [List.length_eq_zero_iff] at h0
    subst h0
    exact RowsAt.nil _ _ _ _
  · refine ⟨_, cap, rfl, hn, .inr ⟨g, 0, _, rfl, hg, ⟨hb, cur, rfl⟩, fun i hi j u hu => ?_⟩⟩
    have h1 := flat_get hk xs i hi j u hu
    rw [← ht, List.getElem?_take] at h1
    split at h1
    · rw [Nat.zero_add]
      exact cell_mk hg (by simpa using h1)
    · cases h1
/-- An append of nothing to a row of one's own. -/
theorem run_append_zero {P : Program} {w : World} (base : Nat) (t ty e : TypeId) (i : TypeInfo) (size : Nat) (ht : P.underlying t = some (.slice e)) (hi : P.info? e = some i)
    (v : Value) (n : Nat) (xs : List Value) (hown : w.ownsRow base e size v n xs) (ad : Option Addr) (c : Nat) : (Builtin.append_ #[t, t] ty #[v, .slice ad 0 c]).run P w = .ok v w := by
  rcases hown.2 with ⟨rfl, rfl⟩ | ⟨g, cap, cur, rfl, _, _, hnc, _⟩
  · cases ad <;> simp [Builtin.append_, run_underlying ht, sizeOf, typeInfo, hi, Builtin.lenOf, Builtin.firstCells, loadCells, loadCellsFrom]
  · cases ad <;> simp [Builtin.append_, run_underlying ht, sizeOf, typeInfo, hi, Builtin.lenOf, Builtin.firstCells, hnc, storeCells, loadCells, loadCellsFrom]
theorem wp_append_rows {α : Type} {enc : α → List Value} {P : Program} {K0 : Nat → Obj → Prop} {o : Oper} {a : Act} {K : Act → World → Prop} {Q : Exit → Act → World → Prop} (W : World) (s x : Operand) (t e : TypeId)
    (ho : o.op = .call { callee := .builtin .append, args := #[s, x], argTypes := #[t, t] }) (B : Nat) (hB : B ≤ W.heap.size) (i : TypeInfo) (z : Value) (size bytes : Nat) (ht : P.underlying t = some (.slice e)) (hi : P.info? e = some i) (hz : i.zero = some z)
    (hsize : i.size = size) (hby : i.bytes = bytes) (hzs : z.cells.size = size) (hsz : 0 < size) (hb32 : bytes ≤ 64) (hk : ∀ x, (enc x).length = size) (h1 : ∀ x, ∀ u ∈ enc x, u.oneCell' = true)
    (v : Value) (n : Nat) (T : List α) (hs : a.eval s = v) (hown : W.ownsRow B e size v n (T.flatMap enc)) (vx : Value) (ys : List α) (hx : a.eval x = vx) (hvx : RowsAt K0 W vx size enc ys)
    (R : List α) (hR : T ++ ys = R) (N : Nat) (hN : n + ys.length = N) (hn : N ≤ 1000000)
    (h : ∀ g c w', w'.ownsRow B e size (.slice g N c) N (R.flatMap enc) → W.grownBy w' v.ownBlock → OwnNext W v (.slice g N c) → K (a.put o.dst (.slice g N c)) w') : o.wp P a W K Q := by
  subst hR hN
  have hcont : ∀ v' w', w'.ownsRow B e size v' (n + ys.length) (T.flatMap enc ++ ys.flatMap enc) → W.grownBy w' v.ownBlock → OwnNext W v v' → K (a.put o.dst v') w' := fun v' w' q1 q2 q3 => by
    obtain ⟨g, c, rfl⟩ := own_form q1
    exact h g c w' (by rw [List.flatMap_append]; exact q1) q2 q3
  obtain ⟨ax, cx, rfl, _⟩ := hvx.form
  by_cases h0 : ys.length = 0
  · have e0 := List.length_eq_zero_iff.1 h0
    subst e0
    have hrun := run_append_zero (P := P) (w := W) B t o.type e i size ht hi v n _ hown ax cx
    unfold Oper.wp execOp
    simp only [List.length_nil] at hx
    simp only [ho, resolve, invoke, builtin, Sem.run_bind, Sem.run_pure, Result.andThen_ok, List.map_toArray, List.map_cons, List.map_nil, hs, hx, hrun]
    exact hcont v W (by simpa using hown) ⟨rfl, rfl, rfl, Nat.le_refl _, fun _ _ _ => rfl⟩ (.inl rfl)
  · obtain ⟨b, off, ob, rfl, _⟩ := hvx.spot (by omega)
    rcases RowsAt.src hk hsz h1 hvx with ⟨he, _⟩ | ⟨ad, c, he, hl, hc, ho1⟩
    · cases he
    · cases he
      have hbb : (n + ys.length) * bytes ≤ 1000000 * 64 := Nat.mul_le_mul hn hb32
      exact wp_append_own2 W s x t ho B e i z size bytes ht hi hz hsize hby hzs hsz v n _ hs hown _ ys.length _ _ hx hl hc ho1 (by unfold maxLen; omega) (by omega) hB hcont
/-- An element's block, behind an append to a row elsewhere. -/
theorem rows_past {α : Type} {enc : α → List Value} {k b : Nat} {w w' : World} {v vx : Value} {ys : List α} (h : RowsAt (fun c _ => c = b) w vx k enc ys) (g : w.grownBy w' v.ownBlock) (hne : v.ownBlock ≠ some b) : RowsAt (fun c _ => c = b) w' vx k enc ys :=
  h.fr (K' := fun c _ => v.ownBlock ≠ some c) ((Fr.refl _ w).grown g (fun k o e _ hk => hk e)) fun c o _ hc => hc ▸ hne
theorem own_ltv {w : World} {B : Nat} {e : TypeId} {s : Nat} {v : Value} {n : Nat} {xs : List Value} (h : w.ownsRow B e s v n xs) {b : Nat} (hb : w.heap.size ≤ b) : v.ownBlock ≠ some b := fun e => by
  obtain ⟨cur, hc⟩ := own_tag h e
  have := lt_of_some hc
  omega
/-- Where a slice begins that is cut at n, elements of s cells. -/
def subS (a : Option Addr) (cap n s : Nat) : Option Addr := if cap = n then a else a.map (·.add (n * s))
theorem run_sliceS {P : Program} {t e : TypeId} (s : Nat) (ht : P.underlying t = some (.slice e)) (hs : (sizeOf e).run P = fun w => .ok s w) (w : World) (a : Option Addr) (len cap n : Nat) (k : IntKind) (h : n ≤ cap) :
    (Instr.slice t (.slice a len cap) none (some (.int k n)) none).run P w = .ok (.slice a n cap) w := by
  have h0 : (0 : Int) ≤ n ∧ (n : Int) ≤ cap := by omega
  simp only [Instr.slice, Sem.run_bind, run_underlying ht, Result.andThen, Instr.sliceBounds, Instr.sliceBound, asIntOf, Sem.run_pure, h0, and_self, ↓reduceIte, hs]
  cases a <;> simp [Addr.add]
theorem run_sliceF {P : Program} {t e : TypeId} (s : Nat) (ht : P.underlying t = some (.slice e)) (hs : (sizeOf e).run P = fun w => .ok s w) (w : World) (a : Option Addr) (len cap n : Nat) (k : IntKind) (h : n ≤ len) :
    (Instr.slice t (.slice a len cap) (some (.int k n)) none none).run P w = .ok (.slice (subS a cap n s) (len - n) (cap - n)) w := by
  have h0 : (0 : Int) ≤ n ∧ (n : Int) ≤ len := by omega
  simp only [Instr.slice, Sem.run_bind, run_underlying ht, Result.andThen, Instr.sliceBounds, Instr.sliceBound, asIntOf, Sem.run_pure, h0, and_self, ↓reduceIte, hs]
  simp [subS]
section
variable {α : Type} {K : Nat → Obj → Prop} {w : World} {k : Nat} {enc : α → List Value} {xs : List α} {a : Option Addr} {n c : Nat}
theorem RowsAt.takeS (h : RowsAt K w (.slice a n c) k enc xs) {m : Nat} (hm : m ≤ xs.length) : RowsAt K w (.slice a m c) k enc (xs.take m) := by
  obtain ⟨a', c', e, hc, h⟩ := h
  cases e
  refine ⟨a, c, by rw [List.length_take, Nat.min_eq_left hm], by rw [List.length_take]; omega, ?_⟩
  rcases h with h | ⟨b, off, o, e, ho, hb, h⟩
  · exact .inl (by rw [h, List.take_nil])
  · cases e
    refine .inr ⟨b, off, o, rfl, ho, hb, fun i hi j u hu => ?_⟩
    have hi' : i < xs.length := by rw [List.length_take] at hi; omega
    rw [List.getElem_take] at hu
    exact h i hi' j u hu
theorem RowsAt.dropS (h : RowsAt K w (.slice a n c) k enc xs) {m : Nat} (hm : m ≤ xs.length) : RowsAt K w (.slice (subS a c m k) (n - m) (c - m)) k enc (xs.drop m) := by
  obtain ⟨a', c', e, hc, h⟩ := h
  cases e
  refine ⟨_, c - m, by rw [List.length_drop], by rw [List.length_drop]; omega, ?_⟩
  rcases h with h | ⟨b, off, o, e, ho, hb, h⟩
  · exact .inl (by rw [h, List.drop_nil])
  · cases e
    by_cases hcm : c = m
    · exact .inl (List.eq_nil_of_length_eq_zero (by rw [List.length_drop]; omega))
    · refine .inr ⟨b, off + m * k, o, ?_, ho, hb, fun i hi j u hu => ?_⟩
      · unfold subS
        rw [if_neg hcm]
        simp only [Option.map_some, Option.some.injEq]
        unfold Addr.add
        split
        · rename_i q; rw [q]; rfl
        · rfl
      · have hi' : m + i < xs.length := by rw [List.length_drop] at hi; omega
        rw [List.getElem_drop] at hu
        have := h (m + i) hi' j u hu
        rw [Nat.add_mul] at this
        rw [show off + m * k + i * k + j = off + (m * k + i * k) + j from by omega]
        exact this
end
theorem own_slot {w : World} {B : Nat} {t : TypeId} {g : Option Addr} {n c : Nat} {xs : List Value} {sz : Nat} (h : w.ownsRow B t sz (.slice g n c) n xs) (hn : 0 < n) : ∃ b cur, g = some ⟨b, 0, none⟩ ∧ B ≤ b ∧ w.heap[b]? = some (.cells cur t (0, 0)) := by
  rcases h.2 with ⟨e, h0⟩ | ⟨b, cap, cur, e, hb, hg, _⟩
  · cases e; omega
  · cases e; exact ⟨b, cur, rfl, hb, hg⟩
theorem own_setCell {w : World} {B g n cap size : Nat} {t : TypeId} {xs : List Value} (h : w.ownsRow B t size (.slice (some ⟨g, 0, none⟩) n cap) n xs) (i : Nat) (v : Value) : (w.setCell ⟨g, i, none⟩ v).ownsRow B t size (.slice (some ⟨g, 0, none⟩) n cap) n (xs.set i v) := by
  rcases h with ⟨hl, ⟨e, _⟩ | ⟨g', cap', cur, e, hB, hg, h1, h2, h3, h4⟩⟩
  · cases e
  · cases e
    refine ⟨by rw [List.length_set]; exact hl, .inr ⟨g, cap, cur.setIfInBounds i v, rfl, hB, heap_setCell_same hg v, h1, h2, by rw [Array.size_setIfInBounds]; exact h3, ?_⟩⟩
    rw [Array.toList_setIfInBounds, List.take_set, h4]
end Go.Proofs.YtcpbmempfeloaaaDoor
/- Terms: Last, has, Entry, Term, LastTerm. -/
namespace Go.Proofs.YtcpbmempfeloaaaDoor
open Go.RowKit
set_option linter.unusedVariables false
set_option linter.unusedSimpArgs false

/-- An entry as it lies: its numbers, its bytes' value, its bytes. -/
structure EV where
  t : Nat
  k : Int
  a : Option Addr
  c : Nat
  d : List UInt8
  deriving Inhabited
abbrev EV.v (x : EV) : Value := .slice x.a x.d.length x.c
def encE (x : EV) : List Value := [.int .u64 (x.t : Nat), .int .i64 x.k, .slice x.a x.d.length x.c]
def vE (x : EV) : Value := .agg #[.int .u64 (x.t : Nat), .int .i64 x.k, .slice x.a x.d.length x.c]
theorem encE_len (x : EV) : (encE x).length = 3 := rfl
theorem RowsAt.e3 {K : Nat → Obj → Prop} {w : World} {b off : Nat} {xs : List EV} (h : ∀ i, (h : i < xs.length) → ∀ j u, (encE xs[i])[j]? = some u → w.cell? ⟨b, off + i * 3 + j, none⟩ = some u) (i : Nat) (hi : i < xs.length) :
    w.cell? ⟨b, off + i * 3, none⟩ = some (.int .u64 (xs[i].t : Nat)) ∧ w.cell? ⟨b, off + i * 3 + 1, none⟩ = some (.int .i64 xs[i].k) ∧ w.cell? ⟨b, off + i * 3 + 2, none⟩ = some (.slice xs[i].a xs[i].d.length xs[i].c) :=
  ⟨h i hi 0 _ rfl, h i hi 1 _ rfl, h i hi 2 _ rfl⟩
/-- A log's value. -/
def vL (b bt : Nat) (v : Value) : Value := .agg #[.int .u64 (b : Nat), .int .u64 (bt : Nat), v]
set_option maxRecDepth 100000 in
theorem tlast_calls (w : World) (b bt : Nat) (a : Option Addr) (n c : Nat) (h : b + n < 18446744073709551616) :
    Calls Tryd.prog 84 #[vL b bt (.slice a n c)] w fun e w' => e = .returned (.int .u64 (b + n : Nat)) ∧ Fr (fun _ _ => True) w w' := by
  obtain ⟨W1, hW1⟩ : ∃ W, w.alloc (.cells #[.int .u64 (b : Nat), .int .u64 (bt : Nat), .slice a n c] 66 (0, 0)) = W := ⟨_, rfl⟩
  have F1 : Hid (Fr (fun _ _ => True) w W1) := hW1 ▸ (Fr.refl _ _).alloc _
  have X1 : Hid (W1.heap[w.heap.size]? = some (.cells #[.int .u64 (b : Nat), .int .u64 (bt : Nat), .slice a n c] 66 (0, 0))) := hW1 ▸ heap_alloc_new w _
  have x0 := cell_mk (i := 0) X1.out rfl
  have x2 := cell_mk (i := 2) X1.out rfl
  have hn : IntKind.u64.wrap (n : Int) = n := by rw [IntKind.wrap_u64]; omega
  have hs : IntKind.u64.wrap ((b : Int) + n) = ((b + n : Nat) : Int) := by rw [IntKind.wrap_u64]; omega
  clear h
  unfold vL
  go_enter Tryd.func84, Tryd.ntmps84
  go_wp2
  go_ret
  exact ⟨rfl, F1.out⟩
set_option maxRecDepth 100000 in
theorem thas_calls (w : World) (b bt i : Nat) (a : Option Addr) (n c : Nat) (h : b + n < 18446744073709551616) :
    Calls Tryd.prog 89 #[vL b bt (.slice a n c), .int .u64 (i : Nat)] w fun e w' => e = .returned (.bool (decide (b < i ∧ i ≤ b + n))) ∧ Fr (fun _ _ => True) w w' := by
  obtain ⟨W1, hW1⟩ : ∃ W, w.alloc (.cells #[.int .u64 (b : Nat), .int .u64 (bt : Nat), .slice a n c] 66 (0, 0)) = W := ⟨_, rfl⟩
  have F1 : Hid (Fr (fun _ _ => True) w W1) := hW1 ▸ (Fr.refl _ _).alloc _
  have X1 : Hid (W1.heap[w.heap.size]? = some (.cells #[.int .u64 (b : Nat), .int .u64 (bt : Nat), .slice a n c] 66 (0, 0))) := hW1 ▸ heap_alloc_new w _
  have x0 := cell_mk (i := 0) X1.out rfl
  have x1 := cell_mk (i := 1) X1.out rfl
  have x2 := cell_mk (i := 2) X1.out rfl
  by_cases h0 : b < i
  · have h0I : (b : Int) < i := by omega
    have LC := Lib.hid (tlast_calls W1 b bt a n c h)
    unfold vL at LC ⊢
    obtain ⟨l, hl⟩ : ∃ l, b + n = l := ⟨_, rfl⟩
    rw [hl] at LC h ⊢
    by_cases h1 : i ≤ l
    · have h1I : (i : Int) ≤ (l : Nat) := by omega
      have e : decide (b < i ∧ i ≤ l) = true := by simp; omega
      rw [e]
      clear h h0 e
      go_enter Tryd.func89, Tryd.ntmps89
      go_wp2_with fail
      try rw [hW1]
      (with_reducible refine LC.out.mono ?_)
      rintro e w2 ⟨rfl, f2⟩
      have F2 := Lib.hid (F1.out.trans f2)
      clear f2 LC
      go_wp2
      go_ret
      exact ⟨rfl, F2.out⟩
    · have h1I : ¬ (i : Int) ≤ (l : Nat) := by omega
      have e : decide (b < i ∧ i ≤ l) = false := by simp; omega
      rw [e]
      clear h h0 e
      go_enter Tryd.func89, Tryd.ntmps89
      go_wp2_with fail
      try rw [hW1]
      (with_reducible refine LC.out.mono ?_)
      rintro e w2 ⟨rfl, f2⟩
      have F2 := Lib.hid (F1.out.trans f2)
      clear f2 LC
      go_wp2
      go_ret
      exact ⟨rfl, F2.out⟩
  · have h0I : ¬ (b : Int) < i := by omega
    have e : decide (b < i ∧ i ≤ b + n) = false := by simp; omega
    rw [e]
    unfold vL
    clear h h0 e
    go_enter Tryd.func89, Tryd.ntmps89
    go_wp2
    try rw [hW1]
    go_ret
    exact ⟨rfl, F1.out⟩
def zEV : EV := ⟨0, 0, none, 0, []⟩
theorem set3 {w : World} {g : Nat} {t : TypeId} {a0 a1 a2 : Value} (h : w.heap[g]? = some (.cells #[a0, a1, a2] t (0, 0))) (v0 v1 v2 : Value) :
    ∃ W, (((w.setCell ⟨g, 0, none⟩ v0).setCell ⟨g, 1, none⟩ v1).setCell ⟨g, 2, none⟩ v2) = W ∧ W.heap[g]? = some (.cells #[v0, v1, v2] t (0, 0)) ∧ Fr (fun c _ => c ≠ g) w W :=
  ⟨_, rfl, heap_setCell_same (o := 2) (heap_setCell_same (o := 1) (heap_setCell_same (o := 0) h v0) v1) v2, (((Fr.refl _ _).setCell (fun _ _ h => h rfl) _).setCell (fun _ _ h => h rfl) _).setCell (fun _ _ h => h rfl) _⟩
set_option maxRecDepth 100000 in
theorem tentry_no (w : World) (b bt i : Nat) (a : Option Addr) (n c : Nat) (h : b + n < 18446744073709551616) (hi : ¬ (b < i ∧ i ≤ b + n)) :
    Calls Tryd.prog 119 #[vL b bt (.slice a n c), .int .u64 (i : Nat)] w fun e w' => e = .returned (.tuple #[vE zEV, .bool false]) ∧ Fr (fun _ _ => True) w w' := by
  obtain ⟨W1, hW1⟩ : ∃ W, w.alloc (.cells #[.int .u64 (b : Nat), .int .u64 (bt : Nat), .slice a n c] 66 (0, 0)) = W := ⟨_, rfl⟩
  have F1 : Hid (Fr (fun _ _ => True) w W1) := hW1 ▸ (Fr.refl _ _).alloc _
  have X1 : Hid (W1.heap[w.heap.size]? = some (.cells #[.int .u64 (b : Nat), .int .u64 (bt : Nat), .slice a n c] 66 (0, 0))) := hW1 ▸ heap_alloc_new w _
  obtain ⟨W2, hW2⟩ : ∃ W, W1.alloc (.cells #[.int .u64 0, .int .i64 0, .slice none 0 0] 128 (0, 0)) = W := ⟨_, rfl⟩
  have F2 : Hid (Fr (fun _ _ => True) W1 W2) := hW2 ▸ (Fr.refl _ _).alloc _
  have X2 : Hid (W2.heap[W1.heap.size]? = some (.cells #[.int .u64 0, .int .i64 0, .slice none 0 0] 128 (0, 0))) := hW2 ▸ heap_alloc_new W1 _
  have XL : Hid (W2.heap[w.heap.size]? = some (.cells #[.int .u64 (b : Nat), .int .u64 (bt : Nat), .slice a n c] 66 (0, 0))) := F2.out.keep _ _ X1.out trivial
  have x0 := cell_mk (i := 0) XL.out rfl
  have x1 := cell_mk (i := 1) XL.out rfl
  have x2 := cell_mk (i := 2) XL.out rfl
  have HCL := Lib.hid (thas_calls W2 b bt i a n c h)
  rw [show decide (b < i ∧ i ≤ b + n) = false by simp; omega] at HCL
  unfold vL at HCL ⊢
  have FW := Lib.hid (F1.out.trans F2.out)
  have NS : Hid (w.heap.size ≤ W1.heap.size) := F1.out.size
  clear h hi
  unfold vE zEV
  go_enter Tryd.func119, Tryd.ntmps119
  go_wp2_with fail
  try rw [hW1]
  try rw [hW2]
  (with_reducible refine HCL.out.mono ?_)
  rintro e w3 ⟨rfl, f3⟩
  have F3 := Lib.hid (FW.out.trans f3)
  have X3 : Hid (w3.heap[W1.heap.size]? = some (.cells #[.int .u64 0, .int .i64 0, .slice none 0 0] 128 (0, 0))) := f3.keep _ _ X2.out trivial
  have x0 := cell_mk (i := 0) (f3.keep _ _ XL.out trivial) rfl
  have x2 := cell_mk (i := 2) (f3.keep _ _ XL.out trivial) rfl
  have q0 := cell_mk (i := 0) X3.out rfl
  have q1 := cell_mk (i := 1) X3.out rfl
  have q2 := cell_mk (i := 2) X3.out rfl
  have y0 := frozen_mk (i := 0) X3.out
  have y1 := frozen_mk (i := 1) X3.out
  have y2 := frozen_mk (i := 2) X3.out
  obtain ⟨WZ, hWZ, TZ, FZ⟩ := set3 X3.out (.int .u64 0) (.int .i64 0) (.slice none 0 0)
  have p0 := cell_mk (i := 0) TZ rfl
  have p1 := cell_mk (i := 1) TZ rfl
  have p2 := cell_mk (i := 2) TZ rfl
  have FZH := Lib.hid FZ
  clear TZ FZ f3 HCL
  go_wp2
  try rw [hWZ]
  refine bodyPost_ret (v := .tuple #[.agg #[.int .u64 0, .int .i64 0, .slice none 0 0], .bool false]) (by simp [results, Tryd.results119, go_sem, *]) rfl ⟨rfl, ?_⟩
  try rw [hWZ]
  exact Fr.within ((F3.out.mono fun _ _ _ => trivial).trans (FZH.out.mono fun c _ h e => by have := h.2; have := NS.out; omega))
set_option maxRecDepth 100000 in
theorem tentry_yes {K : Nat → Obj → Prop} (w : World) (b bt i k : Nat) (a : Option Addr) (n c : Nat) (xs : List EV) (hx : RowsAt K w (.slice a n c) 3 encE xs) (hn : xs.length = n) (h : b + n < 18446744073709551616) (hk : k < xs.length) (hi : i = b + 1 + k) :
    Calls Tryd.prog 119 #[vL b bt (.slice a n c), .int .u64 (i : Nat)] w fun e w' => e = .returned (.tuple #[vE (xs[k]), .bool true]) ∧ Fr (fun _ _ => True) w w' := by
  obtain ⟨W1, hW1⟩ : ∃ W, w.alloc (.cells #[.int .u64 (b : Nat), .int .u64 (bt : Nat), .slice a n c] 66 (0, 0)) = W := ⟨_, rfl⟩
  have F1 : Hid (Fr (fun _ _ => True) w W1) := hW1 ▸ (Fr.refl _ _).alloc _
  have X1 : Hid (W1.heap[w.heap.size]? = some (.cells #[.int .u64 (b : Nat), .int .u64 (bt : Nat), .slice a n c] 66 (0, 0))) := hW1 ▸ heap_alloc_new w _
  obtain ⟨W2, hW2⟩ : ∃ W, W1.alloc (.cells #[.int .u64 0, .int .i64 0, .slice none 0 0] 128 (0, 0)) = W := ⟨_, rfl⟩
  have F2 : Hid (Fr (fun _ _ => True) W1 W2) := hW2 ▸ (Fr.refl _ _).alloc _
  have X2 : Hid (W2.heap[W1.heap.size]? = some (.cells #[.int .u64 0, .int .i64 0, .slice none 0 0] 128 (0, 0))) := hW2 ▸ heap_alloc_new W1 _
  have XL : Hid (W2.heap[w.heap.size]? = some (.cells #[.int .u64 (b : Nat), .int .u64 (bt : Nat), .slice a n c] 66 (0, 0))) := F2.out.keep _ _ X1.out trivial
  have x0 := cell_mk (i := 0) XL.out rfl
  have x1 := cell_mk (i := 1) XL.out rfl
  have x2 := cell_mk (i := 2) XL.out rfl
  have HCL := Lib.hid (thas_calls W2 b bt i a n c h)
  rw [show decide (b < i ∧ i ≤ b + n) = true by simp; omega] at HCL
  unfold vL at HCL ⊢
  have FW := Lib.hid (F1.out.trans F2.out)
  have NS : Hid (w.heap.size ≤ W1.heap.size) := F1.out.size
  have HX := Lib.hid hx
  obtain ⟨m, hm⟩ : ∃ m, 1 + k = m := ⟨_, rfl⟩
  have s1 : IntKind.u64.wrap ((i : Int) - b) = (m : Int) := by rw [IntKind.wrap_u64]; omega
  have s2 : IntKind.u64.wrap ((m : Int) - 1) = (k : Int) := by rw [IntKind.wrap_u64]; omega
  clear hm
  have kI : (k : Int) < n := by omega
  have k0 : (0 : Int) ≤ (k : Int) := by omega
  obtain ⟨bx, off, o, rfl, _, _, hcl⟩ := hx.spot (by omega)
  have hcs := RowsAt.e3 (K := K) hcl k hk
  obtain ⟨x, hxx⟩ : ∃ x, xs[k] = x := ⟨_, rfl⟩
  rw [hxx] at hcs ⊢
  have HCS := Lib.hid hcs
  unfold vE
  clear h hi hk hx hcl hcs hxx hn
  go_enter Tryd.func119, Tryd.ntmps119
  go_wp2_with fail
  try rw [hW1]
  try rw [hW2]
  (with_reducible refine HCL.out.mono ?_)
  rintro e w3 ⟨rfl, f3⟩
  have F3 := Lib.hid (FW.out.trans f3)
  have X3 : Hid (w3.heap[W1.heap.size]? = some (.cells #[.int .u64 0, .int .i64 0, .slice none 0 0] 128 (0, 0))) := f3.keep _ _ X2.out trivial
  have x0 := cell_mk (i := 0) (f3.keep _ _ XL.out trivial) rfl
  have x2 := cell_mk (i := 2) (f3.keep _ _ XL.out trivial) rfl
  have q0 := cell_mk (i := 0) X3.out rfl
  have q1 := cell_mk (i := 1) X3.out rfl
  have q2 := cell_mk (i := 2) X3.out rfl
  have y0 := frozen_mk (i := 0) X3.out
  have y1 := frozen_mk (i := 1) X3.out
  have y2 := frozen_mk (i := 2) X3.out
  obtain ⟨WZ, hWZ, TZ, FZ⟩ := set3 X3.out (.int .u64 (x.t : Nat)) (.int .i64 x.k) (.slice x.a x.d.length x.c)
  have p0 := cell_mk (i := 0) TZ rfl
  have p1 := cell_mk (i := 1) TZ rfl
  have p2 := cell_mk (i := 2) TZ rfl
  have FZH := Lib.hid FZ
  have e0 := F3.out.cell (fun _ _ => trivial) HCS.out.1
  have e1 := F3.out.cell (fun _ _ => trivial) HCS.out.2.1
  have e2 := F3.out.cell (fun _ _ => trivial) HCS.out.2.2
  clear TZ FZ f3 HCL
  go_wp2
  try rw [hWZ]
  refine bodyPost_ret (v := .tuple #[.agg #[.int .u64 (x.t : Nat), .int .i64 x.k, .slice x.a x.d.length x.c], .bool true]) (by simp [results, Tryd.results119, go_sem, *]) rfl ⟨rfl, ?_⟩
  try rw [hWZ]
  exact Fr.within ((F3.out.mono fun _ _ _ => trivial).trans (FZH.out.mono fun c _ h e => by have := h.2; have := NS.out; omega))
end Go.Proofs.YtcpbmempfeloaaaDoor
