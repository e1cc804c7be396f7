/- Texts of the proofs, part 11: what the functions that they reach do, walked; no conditions beyond those that each states. -/
import Derived.Deep.Slices
import Derived.Deep.Fields
import Derived.ChangeSame
import Derived.ProofKit
import Derived.Test.YtmjccpfchhnfhaaProg
import Derived.Deep.QuietTactic
import Derived.BigQuiet
import Derived.Test.YtmjccpfchhnfhaaZz519c775e7d
set_option linter.unusedVariables false
set_option linter.unusedSimpArgs false
/- Arguments that can be read as data: what lies in memory, by the type's shape. -/
namespace Go.Proofs.Ytmjccpfchhnfhaa
open Go.RowKit Go.ChangeShapes Go.WideShapes
def Rd (P : Program) (w : World) (t : TypeId) (cs : List Value) : Prop :=
 ∃ (H : Type) (enc : TypeId × Value → H) (sp : Nat → Bool) (held : Bool) (fuel : Nat) (x : DataW H × List MemPlace), DataW.trod enc P w 0 sp held fuel t cs = some x
theorem Rd.of {H : Type} {enc : TypeId × Value → H} {P : Program} {w : World} {sp : Nat → Bool} {held : Bool} {t : TypeId} {v : Value} {d : DataW H} {p : List MemPlace} (h : DataW.Trod enc P w 0 sp held t v d p) : Rd P w t v.cells.toList := by
 obtain ⟨fuel, hf⟩ := h
 exact ⟨H, enc, sp, held, fuel, _, hf⟩
section
variable {P : Program} {w : World} {t e : TypeId} {cs : List Value}
theorem Rd.int {k : IntKind} (ht : P.underlying t = some (.int k)) (h : Rd P w t cs) : ∃ n, cs = [.int k n] ∧ (Lit.int k n).wf = true := by
 obtain ⟨H, enc, sp, held, fuel, x, h⟩ := h
 obtain ⟨n, h1, _, h2⟩ := DataW.trod_int ht h
 exact ⟨n, h1, h2⟩
theorem Rd.bool (ht : P.underlying t = some .bool) (h : Rd P w t cs) : ∃ b, cs = [.bool b] := by
 obtain ⟨H, enc, sp, held, fuel, x, h⟩ := h
 obtain ⟨n, h1, _⟩ := DataW.trod_bool ht h
 exact ⟨n, h1⟩
theorem Rd.slice {sz : Nat} (ht : P.underlying t = some (.slice e)) (hs : P.cellsOf e = sz) (h : Rd P w t cs) :
  ∃ a len cap, cs = [.slice a len cap] ∧ len ≤ cap ∧ cap ≤ maxLen ∧ (a = none → cap = 0) ∧
   ∀ i, i < len → ∃ ad cs', a = some ad ∧ cs'.length = sz ∧ (∀ j, j < sz → w.cell? (ad.add (i * sz + j)) = cs'[j]?) ∧ Rd P w e cs' := by
 obtain ⟨H, enc, sp, held, fuel, x, h⟩ := h
 rcases Go.Deep.open_slice ht h with ⟨rfl, _⟩ | ⟨a, len, cap, m, n, D, Pl, rfl, _, hl, hm, hmm, _, hi⟩
 ·exact ⟨none, 0, 0, rfl, Nat.le_refl _, by simp, fun _ => rfl, fun i hi => by omega⟩
 ·refine ⟨some a, len, cap, rfl, hl, hm, (fun e => by cases e), fun i hil => ?_⟩
  have him : i < m := by rw [hmm]; split <;> omega
  obtain ⟨cs', hc, ht'⟩ := hi i him
  obtain ⟨_, hcl, hat⟩ := World.cells?_some hc
  refine ⟨a, cs', rfl, by omega, fun j hj => ?_, H, enc, sp, held, n, _, ht'⟩
  rw [← hat j (by omega), Go.Deep.add_add, hs]
theorem Rd.struct {fs : Array Field} {sz : Nat} (ht : P.underlying t = some (.struct fs)) (hs : P.cellsOf t = sz) (h : Rd P w t cs) :
  cs.length = sz ∧ ∀ (i : Nat) (f : Field), fs[i]? = some f → Rd P w f.type (List.take (P.cellsOf f.type) (List.drop f.offset cs)) := by
 obtain ⟨H, enc, sp, held, fuel, x, h⟩ := h
 obtain ⟨xs, n, _, _, hl, hx, hf⟩ := DataW.trod_struct ht h
 refine ⟨by omega, fun i f hi => ?_⟩
 have h1 := hf i f hi
 have hlt : i < xs.length := by
  have := (Array.getElem?_eq_some_iff.1 hi).1
  omega
 rw [List.getElem?_eq_getElem hlt] at h1
 exact ⟨H, enc, sp, held, n, _, h1⟩
end
theorem list2 {α : Type} {l : List α} (h : l.length = 2) : ∃ a b, l = [a, b] := by match l, h with | [a, b], _ => exact ⟨a, b, rfl⟩
theorem add_at (b off k : Nat) : Addr.add ⟨b, off, none⟩ k = ⟨b, off + k, none⟩ := by
 unfold Addr.add
 split
 ·subst k; rfl
 ·rfl
theorem spot_of {w : World} {ad : Addr} {v : Value} (h : w.cell? (ad.add 0) = some v) : ∃ b off, ad = ⟨b, off, none⟩ := by
 have := cell_spot h
 obtain ⟨b, off, sp⟩ := ad
 simp [Addr.add] at this
 exact ⟨b, off, by rw [this]⟩
end Go.Proofs.Ytmjccpfchhnfhaa
/- Slices of ints. -/
namespace Go.Proofs.Ytmjccpfchhnfhaa
open Go.RowKit
set_option linter.unusedVariables false
theorem Fr.drewN {K : Nat → Obj → Prop} {a w : World} (h : Fr K a w) (n : Nat) : Fr K a (w.drewN n) := by
 induction n generalizing w with
 | zero => exact h
 | succ n ih => exact (ih h).drew
theorem list_of {α : Type} {p : Nat → α → Prop} : ∀ n : Nat, (∀ i, i < n → ∃ x, p i x) → ∃ l : List α, l.length = n ∧ ∀ i, (h : i < l.length) → p i l[i]
 | 0, _ => ⟨[], rfl, fun i h => absurd h (Nat.not_lt_zero i)⟩
 | n + 1, h => by
  obtain ⟨l, hl, hp⟩ := list_of n fun i hi => h i (by omega)
  obtain ⟨x, hx⟩ := h n (by omega)
  refine ⟨l ++ [x], by simp [hl], fun i hi => ?_⟩
  rw [List.length_append, List.length_singleton] at hi
  by_cases h1 : i < l.length
  ·rw [List.getElem_append_left h1]; exact hp i h1
  ·obtain rfl : i = l.length := by omega
   rw [List.getElem_append_right (Nat.le_refl _)]
   simp only [Nat.sub_self, List.getElem_cons_zero]
   rw [hl]; exact hx
def NumsAt (q : IntKind) (K : Nat → Obj → Prop) (w : World) (v : Value) (zs : List Int) : Prop :=
 ∃ a cap, v = .slice a zs.length cap ∧ (zs = [] ∨ ∃ b off o, a = some ⟨b, off, none⟩ ∧ w.heap[b]? = some o ∧ K b o ∧ ∀ i, (h : i < zs.length) → w.cell? ⟨b, off + i, none⟩ = some (.int q zs[i]))
abbrev IntsAt := NumsAt .i64
theorem NumsAt.fr {q : IntKind} {K K' : Nat → Obj → Prop} {w w' : World} {v : Value} {zs : List Int} (h : NumsAt q K w v zs) (hf : Fr K' w w') (hk : ∀ c o, K c o → K' c o) : NumsAt q K w' v zs := by
 obtain ⟨a, cap, hv, h⟩ := h
 refine ⟨a, cap, hv, ?_⟩
 rcases h with h | ⟨b, off, o, ha, hb, hkb, hc⟩
 ·exact .inl h
 ·refine .inr ⟨b, off, o, ha, hf.keep _ _ hb (hk _ _ hkb), hkb, fun i hi => hf.cell (fun o' e => ?_) (hc i hi)⟩
  have e' : w.heap[b]? = some o' := e
  rw [hb] at e'
  cases e'
  exact hk _ _ hkb
theorem NumsAt.tt {q : IntKind} {K : Nat → Obj → Prop} {w w' : World} {v : Value} {zs : List Int} (h : NumsAt q K w v zs) (hf : FT w w') : NumsAt q K w' v zs := h.fr hf fun _ _ _ => trivial
theorem NumsAt.mono {q : IntKind} {K K' : Nat → Obj → Prop} {w : World} {v : Value} {zs : List Int} (h : NumsAt q K w v zs) (hk : ∀ c o, K c o → K' c o) : NumsAt q K' w v zs := by
 obtain ⟨a, cap, hv, h⟩ := h
 refine ⟨a, cap, hv, ?_⟩
 rcases h with h | ⟨b, off, o, ha, hb, hkb, hc⟩
 ·exact .inl h
 ·exact .inr ⟨b, off, o, ha, hb, hk _ _ hkb, hc⟩
theorem NumsAt.form {q : IntKind} {K : Nat → Obj → Prop} {w : World} {v : Value} {zs : List Int} (h : NumsAt q K w v zs) : ∃ a cap, v = .slice a zs.length cap := by
 obtain ⟨a, cap, hv, _⟩ := h
 exact ⟨a, cap, hv⟩
theorem NumsAt.len {q : IntKind} {K : Nat → Obj → Prop} {w : World} {a : Option Addr} {n c : Nat} {zs : List Int} (h : NumsAt q K w (.slice a n c) zs) : n = zs.length := by
 obtain ⟨a', cap, hv, _⟩ := h
 cases hv; rfl
theorem NumsAt.addr {q : IntKind} {K : Nat → Obj → Prop} {w : World} {a : Option Addr} {n c : Nat} {zs : List Int} (h : NumsAt q K w (.slice a n c) zs) (hn : 0 < zs.length) : ∃ b off, a = some ⟨b, off, none⟩ := by
 obtain ⟨a', cap, hv, h⟩ := h
 cases hv
 rcases h with h | ⟨b, off, _, ha, _⟩
 ·subst h; simp at hn
 ·exact ⟨b, off, ha⟩
theorem NumsAt.cell {q : IntKind} {K : Nat → Obj → Prop} {w : World} {b off n c : Nat} {zs : List Int} (h : NumsAt q K w (.slice (some ⟨b, off, none⟩) n c) zs) {i : Nat} (hi : i < zs.length) : w.cell? ⟨b, off + i, none⟩ = some (.int q zs[i]) := by
 obtain ⟨a', cap, hv, h⟩ := h
 cases hv
 rcases h with h | ⟨b', off', _, ha, _, _, hc⟩
 ·subst h; simp at hi
 ·cases ha; exact hc i hi
theorem Rd.nums {q : IntKind} {P : Program} {w : World} {t e : TypeId} {v : Value} (ht : P.underlying t = some (.slice e)) (he : P.underlying e = some (.int q)) (hs : P.cellsOf e = 1) (h : Rd P w t [v]) :
  ∃ zs, NumsAt q (fun b _ => b < w.heap.size) w v zs ∧ zs.length ≤ maxLen ∧ ∀ x ∈ zs, (Lit.int q x).wf = true := by
 obtain ⟨a, len, cap, hv, hl, hm, hn, hc⟩ := h.slice ht hs
 obtain rfl : v = .slice a len cap := by simpa using hv
 obtain ⟨bs, hbl, hb⟩ := list_of (p := fun i (x : Int) => (Lit.int q x).wf = true ∧ ∃ ad, a = some ad ∧ w.cell? (ad.add i) = some (.int q x)) len fun i hi => by
  obtain ⟨ad, cs', ha, _, hj, hr⟩ := hc i hi
  obtain ⟨n, rfl, hw⟩ := hr.int he
  refine ⟨n, hw, ad, ha, ?_⟩
  have e1 := hj 0 (by omega)
  rw [Nat.mul_one, Nat.add_zero] at e1
  exact e1
 refine ⟨bs, ⟨a, cap, by rw [hbl], ?_⟩, by omega, fun x hx => by obtain ⟨i, hi, rfl⟩ := List.mem_iff_getElem.1 hx; exact (hb i hi).1⟩
 by_cases h0 : bs = []
 ·exact .inl h0
 ·have hp : 0 < bs.length := List.length_pos_iff.2 h0
  obtain ⟨_, ad, ha, e0⟩ := hb 0 hp
  obtain ⟨b, off, rfl⟩ := spot_of e0
  have hlt := cell_lt e0
  have hlt' : b < w.heap.size := by simpa [add_at] using hlt
  refine .inr ⟨b, off, w.heap[b], ha, Array.getElem?_eq_getElem hlt', hlt', fun i hi => ?_⟩
  obtain ⟨_, ad', ha', e1⟩ := hb i hi
  rw [ha] at ha'
  cases ha'
  rw [add_at] at e1
  exact e1
theorem size_intc : Try.prog.cellsOf 3 = 1 := by kernel_rfl
theorem Rd.is {w : World} {v : Value} (h : Rd Try.prog w 33 [v]) : ∃ zs, IntsAt (fun b _ => b < w.heap.size) w v zs ∧ zs.length ≤ maxLen ∧ ∀ x ∈ zs, (Lit.int .i64 x).wf = true := Rd.nums Try.underlying33 Try.underlying3 size_intc h
def hasI (zs : List Int) (n : Int) : Bool := zs.contains n
theorem hasI_mem {zs : List Int} {n : Int} : hasI zs n = true ↔ n ∈ zs := by unfold hasI; simp
theorem take_contains (zs : List Int) (k : Nat) (hk : k < zs.length) (n : Int) : hasI (zs.take (k + 1)) n = (hasI (zs.take k) n || (n == zs[k])) := by
 have e : zs.take (k + 1) = zs.take k ++ [zs[k]] := List.take_succ_eq_append_getElem hk
 rw [e]
 unfold hasI
 generalize zs.take k = l
 generalize zs[k] = u
 clear e hk
 induction l with
 | nil => simp only [List.nil_append, List.contains_cons, List.contains_nil, Bool.or_false, Bool.false_or]
 | cons x l ih => simp only [List.cons_append, List.contains_cons, ih, Bool.or_assoc]
theorem contains_take {zs : List Int} {k : Nat} {n : Int} (h : hasI (zs.take k) n = true) : hasI zs n = true := hasI_mem.2 (List.mem_of_mem_take (hasI_mem.1 h))
theorem hasI_take0 (zs : List Int) (n : Int) : hasI (zs.take 0) n = false := by simp [hasI]
end Go.Proofs.Ytmjccpfchhnfhaa
/- Numbers among others: slices.Index, slices.Contains, ref10.Has, ref08.Numbers. -/
namespace Go.Proofs.Ytmjccpfchhnfhaa
open Go.RowKit
set_option linter.unusedVariables false
end Go.Proofs.Ytmjccpfchhnfhaa
/- Numbers among others: slices.Index, slices.Contains, ref10.Has, ref08.Numbers. -/
namespace Go.Proofs.Ytmjccpfchhnfhaa
open Go.RowKit
set_option linter.unusedVariables false
set_option maxRecDepth 100000 in
theorem index_nil (w : World) (a : Option Addr) (c : Nat) (n : Int) : Calls Try.prog 56 #[.slice a 0 c, .int .i64 n] w fun e w' => e = .returned (.int .i64 (-1)) ∧ w = w' := by
 go_enter Try.func56, Try.ntmps56
 go_wp2
 go_loop [8] (fun i => i = .int .i64 0) (fun _ => 0)
 case atStart => exact rfl
 case round =>
  obtain rfl := hrel
  go_wp2
  go_ret
  exact ⟨rfl, rfl⟩
set_option maxRecDepth 100000 in
theorem index_loop {K : Nat → Obj → Prop} (w : World) (b off c : Nat) (zs : List Int) (n : Int) (h : IntsAt K w (.slice (some ⟨b, off, none⟩) zs.length c) zs) (hm : zs.length ≤ 9223372036854775807) :
  Calls Try.prog 56 #[.slice (some ⟨b, off, none⟩) zs.length c, .int .i64 n] w fun e w' => (∃ r, e = .returned (.int .i64 r) ∧ hasI zs n = decide (0 ≤ r)) ∧ w = w' := by
 have H := Lib.hid h
 clear h
 obtain ⟨N, hN⟩ : ∃ N, N = zs.length := ⟨_, rfl⟩
 have HN := Lib.hid hN
 rw [← hN] at hm ⊢
 clear hN
 go_enter Try.func56, Try.ntmps56
 go_wp2
 go_loop [8] (fun i => ∃ k : Nat, k ≤ N ∧ i = .int .i64 k ∧ hasI (zs.take k) n = false) (fun i => N - (intOf i).toNat)
 case atStart => exact ⟨0, Nat.zero_le _, rfl, hasI_take0 _ _⟩
 case round =>
  obtain ⟨k, hk, rfl, ht⟩ := hrel
  have HT := Lib.hid ht
  clear ht
  by_cases hlt : k < N
  ·have l1 : k < zs.length := by rw [← HN.out]; exact hlt
   have g1 := H.cell l1
   have HC := Lib.hid (take_contains zs k l1 n)
   generalize hu : zs[k] = u at g1 HC
   clear hu l1
   go_wp2
   ·go_ret
    have he : (n == u) = true := by assumption
    refine ⟨⟨_, rfl, ?_⟩, rfl⟩
    have : hasI (zs.take (k + 1)) n = true := by rw [HC.out]; simp at he; simp [he]
    rw [contains_take this]
    simp
   ·have he : (n == u) = false := by assumption
    go_round
    case rel =>
     refine ⟨k + 1, by omega, by go_num, ?_⟩
     rw [HC.out, HT.out, he]
     rfl
    case measure => simp [intOf]; omega
  ·go_wp2
   go_ret
   refine ⟨⟨_, rfl, ?_⟩, rfl⟩
   have := HT.out
   rw [List.take_of_length_le (by have := HN.out; omega)] at this
   rw [this]
   rfl
set_option maxRecDepth 100000 in
theorem contains_calls {K : Nat → Obj → Prop} (w : World) (v : Value) (zs : List Int) (n : Int) (h : IntsAt K w v zs) (hm : zs.length ≤ maxLen) :
  Calls Try.prog 35 #[v, .int .i64 n] w fun e w' => e = .returned (.bool (hasI zs n)) ∧ w = w' := by
 have hi : Calls Try.prog 56 #[v, .int .i64 n] w fun e w' => (∃ r, e = .returned (.int .i64 r) ∧ hasI zs n = decide (0 ≤ r)) ∧ w = w' := by
  obtain ⟨a, c, rfl⟩ := h.form
  by_cases h0 : zs.length = 0
  ·have e1 := List.length_eq_zero_iff.1 h0
   subst e1
   exact (index_nil w a c n).mono fun e w' ⟨he, hw⟩ => ⟨⟨_, he, rfl⟩, hw⟩
  ·obtain ⟨b, off, rfl⟩ := h.addr (by omega)
   exact index_loop w b off c zs n h (by unfold maxLen at hm; omega)
 have HI := Lib.hid hi
 clear hi h hm
 go_enter Try.func35, Try.ntmps35
 go_wp2_with fail
 with_reducible refine HI.out.mono ?_
 rintro e1 w1 ⟨⟨r, rfl, hr⟩, rfl⟩
 have HR := Lib.hid hr
 clear hr HI
 go_wp2
 go_ret
 refine ⟨?_, rfl⟩
 rw [HR.out]
 rfl
end Go.Proofs.Ytmjccpfchhnfhaa
/- Numbers among others: slices.Index, slices.Contains, ref10.Has, ref08.Numbers. -/
namespace Go.Proofs.Ytmjccpfchhnfhaa
open Go.RowKit
set_option linter.unusedVariables false
end Go.Proofs.Ytmjccpfchhnfhaa
/- Package quorum: Majority, count, Agrees, Meet. -/
namespace Go.Proofs.Ytmjccpfchhnfhaa
open Go.RowKit
set_option linter.unusedVariables false
def majI (n : Nat) : Int := (n : Int) / 2 + 1
set_option maxRecDepth 100000 in
theorem maj_calls (w : World) (a : Option Addr) (n c : Nat) (hm : n ≤ 9223372036854775807) : Calls Try.prog 58 #[.slice a n c] w fun e w' => e = .returned (.int .i64 (majI n)) ∧ w = w' := by
 have e1 : (n : Int).tdiv 2 = (n : Int) / 2 := Int.tdiv_eq_ediv_of_nonneg (by omega)
 go_enter Try.func58, Try.ntmps58
 go_wp2
 go_ret
 refine ⟨?_, rfl⟩
 unfold majI
 congr 1
def cntI (c s : List Int) : Nat := c.countP fun x => hasI s x
theorem cntI_take (c s : List Int) (k : Nat) (hk : k < c.length) : cntI (c.take (k + 1)) s = cntI (c.take k) s + (hasI s c[k]).toNat := by
 have e : c.take (k + 1) = c.take k ++ [c[k]] := List.take_succ_eq_append_getElem hk
 rw [e]
 unfold cntI
 rw [List.countP_append]
 cases h : hasI s c[k] <;> simp [h]
set_option maxRecDepth 100000 in
theorem count_nil (w : World) (a : Option Addr) (c : Nat) (v : Value) : Calls Try.prog 57 #[.slice a 0 c, v] w fun e w' => e = .returned (.int .i64 0) ∧ w = w' := by
 go_enter Try.func57, Try.ntmps57
 go_wp2
 go_loop [5, 10] (fun r i => r = .int .i64 0 ∧ i = .int .i64 0) (fun _ _ => 0)
 case atStart => exact ⟨rfl, rfl⟩
 case round =>
  obtain ⟨rfl, rfl⟩ := hrel
  go_wp2
  go_ret
  exact ⟨rfl, rfl⟩
set_option maxRecDepth 100000 in
theorem count_loop {K K' : Nat → Obj → Prop} (w : World) (b off c : Nat) (v : Value) (zs s : List Int) (h : IntsAt K w (.slice (some ⟨b, off, none⟩) zs.length c) zs) (hs : IntsAt K' w v s) (hm : zs.length ≤ 9223372036854775807) (hms : s.length ≤ maxLen) :
  Calls Try.prog 57 #[.slice (some ⟨b, off, none⟩) zs.length c, v] w fun e w' => e = .returned (.int .i64 (cntI zs s : Nat)) ∧ w = w' := by
 have H := Lib.hid h
 have HS := Lib.hid hs
 have HM := Lib.hid hms
 clear h hs hms
 obtain ⟨N, hN⟩ : ∃ N, N = zs.length := ⟨_, rfl⟩
 have HN := Lib.hid hN
 rw [← hN] at hm ⊢
 clear hN
 go_enter Try.func57, Try.ntmps57
 go_wp2
 go_loop [5, 10] (fun r i => ∃ k m : Nat, k ≤ N ∧ i = .int .i64 k ∧ r = .int .i64 m ∧ m ≤ k ∧ cntI (zs.take k) s = m) (fun _ i => N - (intOf i).toNat)
 case atStart => exact ⟨0, 0, Nat.zero_le _, rfl, rfl, Nat.le_refl _, rfl⟩
 case round =>
  obtain ⟨k, m, hk, rfl, rfl, hmk, ht⟩ := hrel
  have HT := Lib.hid ht
  clear ht
  by_cases hlt : k < N
  ·have l1 : k < zs.length := by rw [← HN.out]; exact hlt
   have g1 := H.cell l1
   have HC := Lib.hid (cntI_take zs s k l1)
   generalize hu : zs[k] = u at g1 HC
   clear hu l1
   go_wp2_with fail
   with_reducible refine (contains_calls w v s u HS.out HM.out).mono ?_
   rintro e1 w1 ⟨rfl, rfl⟩
   generalize hb : hasI s u = bb at HC
   clear hb
   cases bb
   ·go_wp2
    go_round
    case rel => exact ⟨k + 1, m, by omega, by go_num, rfl, by omega, by rw [HC.out, HT.out]; rfl⟩
    case measure => simp [intOf]; omega
   ·go_wp2
    go_round
    case rel => exact ⟨k + 1, m + 1, by omega, by go_num, by go_num, by omega, by rw [HC.out, HT.out]; rfl⟩
    case measure => simp [intOf]; omega
  ·go_wp2
   go_ret
   refine ⟨?_, rfl⟩
   have := HT.out
   rw [List.take_of_length_le (by have := HN.out; omega)] at this
   rw [this]
   rfl
theorem count_calls {K K' : Nat → Obj → Prop} (w : World) (v1 v : Value) (zs s : List Int) (h : IntsAt K w v1 zs) (hs : IntsAt K' w v s) (hm : zs.length ≤ maxLen) (hms : s.length ≤ maxLen) :
  Calls Try.prog 57 #[v1, v] w fun e w' => e = .returned (.int .i64 (cntI zs s : Nat)) ∧ w = w' := by
 obtain ⟨a, c, rfl⟩ := h.form
 by_cases h0 : zs.length = 0
 ·have e1 := List.length_eq_zero_iff.1 h0
  subst e1
  exact (count_nil w a c v).mono fun e w' ⟨he, hw⟩ => ⟨he, hw⟩
 ·obtain ⟨b, off, rfl⟩ := h.addr (by omega)
  exact count_loop w b off c v zs s h hs (by unfold maxLen at hm; omega) hms
def agrI (c y : List Int) : Bool := decide (majI c.length ≤ (cntI c y : Int))
set_option maxRecDepth 100000 in
theorem agrees_calls {K K' : Nat → Obj → Prop} (w : World) (v1 v : Value) (zs s : List Int) (h : IntsAt K w v1 zs) (hs : IntsAt K' w v s) (hm : zs.length ≤ maxLen) (hms : s.length ≤ maxLen) :
  Calls Try.prog 36 #[v1, v] w fun e w' => e = .returned (.bool (agrI zs s)) ∧ w = w' := by
 have HC := Lib.hid (count_calls w v1 v zs s h hs hm hms)
 obtain ⟨a, c, rfl⟩ := h.form
 have HJ := Lib.hid (maj_calls w a zs.length c (by unfold maxLen at hm; omega))
 have HM : Hid (agrI zs s = decide (majI zs.length ≤ (cntI zs s : Int))) := rfl
 generalize majI zs.length = mj at HJ HM
 generalize cntI zs s = cn at HC HM
 clear h hs hm hms
 go_enter Try.func36, Try.ntmps36
 go_wp2_with fail
 with_reducible refine HC.out.mono ?_
 rintro e1 w1 ⟨rfl, rfl⟩
 go_wp2_with fail
 with_reducible refine HJ.out.mono ?_
 rintro e1 w1 ⟨rfl, rfl⟩
 go_wp2
 go_ret
 refine ⟨?_, rfl⟩
 rw [HM.out]
 rfl
end Go.Proofs.Ytmjccpfchhnfhaa
/- Whether members are a group: the document's Right and the program's. -/
namespace Go.Proofs.Ytmjccpfchhnfhaa
open Go.RowKit
set_option linter.unusedVariables false
theorem rgt_drop (zs : List Int) (k : Nat) (hk : k < zs.length) (l : Int) : rgt l (zs.drop k) = (decide (l < zs[k]) && (decide (zs[k] ≤ 15) && rgt zs[k] (zs.drop (k + 1)))) := by
 rw [List.drop_eq_getElem_cons hk]; rfl
theorem right_some {zs : List Int} (h : 0 < zs.length) : rightQ zs = rgt (-1) zs := by
 unfold rightQ
 cases zs with
 | nil => simp at h
 | cons x r => simp
set_option maxRecDepth 100000 in
theorem right_nil (w : World) (a : Option Addr) (c : Nat) : Calls Try.prog 54 #[.slice a 0 c] w fun e w' => e = .returned (.bool false) ∧ w = w' := by
 go_enter Try.func54, Try.ntmps54
 go_wp2
 go_loop [7] (fun i => i = .int .i64 0) (fun _ => 0)
 case atStart => exact rfl
 case round =>
  obtain rfl := hrel
  go_wp2
  go_ret
  exact ⟨rfl, rfl⟩
set_option maxRecDepth 100000 in
theorem right_loop {K : Nat → Obj → Prop} (w : World) (b off c : Nat) (zs : List Int) (h : IntsAt K w (.slice (some ⟨b, off, none⟩) zs.length c) zs) (hm : zs.length ≤ 9223372036854775807) (h0 : 0 < zs.length) :
  Calls Try.prog 54 #[.slice (some ⟨b, off, none⟩) zs.length c] w fun e w' => e = .returned (.bool (rightQ zs)) ∧ w = w' := by
 rw [right_some h0]
 have H := Lib.hid h
 clear h
 obtain ⟨N, hN⟩ : ∃ N, N = zs.length := ⟨_, rfl⟩
 have HN := Lib.hid hN
 rw [← hN] at hm h0 ⊢
 clear hN
 obtain ⟨R, hR⟩ : ∃ R, R = rgt (-1) zs := ⟨_, rfl⟩
 have HR := Lib.hid hR
 rw [← hR]
 clear hR
 go_enter Try.func54, Try.ntmps54
 go_wp2
 go_loop [7] (fun i => ∃ (k : Nat) (l : Int), k ≤ N ∧ i = .int .i64 k ∧ -1 ≤ l ∧ (k = 0 → l = -1) ∧ (∀ j, k = j + 1 → ∃ h : j < zs.length, zs[j] = l) ∧ R = rgt l (zs.drop k)) (fun i => N - (intOf i).toNat)
 case atStart => exact ⟨0, -1, Nat.zero_le _, rfl, by omega, fun _ => rfl, fun j h => by omega, HR.out⟩
 case round =>
  obtain ⟨k, l, hk, rfl, hl, hk0, hkj, ht⟩ := hrel
  have HT := Lib.hid ht
  have HK := Lib.hid hk0
  have HJ := Lib.hid hkj
  clear ht hk0 hkj
  by_cases hlt : k < N
  ·have l1 : k < zs.length := by rw [← HN.out]; exact hlt
   have g1 := H.cell l1
   have HC := Lib.hid (rgt_drop zs k l1 l)
   have HU := Lib.hid (rfl : zs[k] = zs[k])
   generalize hu : zs[k] = u at g1 HC
   have HV : Hid (∀ j, k + 1 = j + 1 → ∃ h : j < zs.length, zs[j] = u) := fun j hj => by
    obtain rfl : k = j := by omega
    exact ⟨l1, hu⟩
   clear hu HU
   by_cases c1 : u < 0
   ·go_wp2
    go_ret
    refine ⟨?_, rfl⟩
    rw [HT.out, HC.out, show decide (l < u) = false from by simp; omega]
    rfl
   ·by_cases c2 : u ≥ 16
    ·go_wp2
     go_ret
     refine ⟨?_, rfl⟩
     rw [HT.out, HC.out, show decide (u ≤ 15) = false from by simp; omega, Bool.false_and, Bool.and_false]
     rfl
    ·have e2 : decide (u ≤ 15) = true := by simp; omega
     have E2 := Lib.hid e2
     clear e2
     rcases k with _ | j
     ·have hl0 := HK rfl
      replace g1 : w.cell? ⟨b, off, none⟩ = some (.int .i64 u) := g1
      go_wp2
      go_round
      case rel =>
       refine ⟨1, u, by omega, by go_num, by omega, fun h => by omega, HV.out, ?_⟩
       rw [HT.out, HC.out, show decide (l < u) = true from by simp; omega, E2.out]
       rfl
      case measure => simp [intOf]; omega
     ·obtain ⟨lj, ej⟩ := HJ j rfl
      have g2 := H.cell lj
      rw [ej] at g2
      clear ej lj
      by_cases c3 : u ≤ l
      ·go_wp2
       go_ret
       refine ⟨?_, rfl⟩
       rw [HT.out, HC.out, show decide (l < u) = false from by simp; omega]
       rfl
      ·go_wp2
       go_round
       case rel =>
        refine ⟨j + 1 + 1, u, by omega, by go_num, by omega, fun h => by omega, HV.out, ?_⟩
        rw [HT.out, HC.out, show decide (l < u) = true from by simp; omega, E2.out]
        rfl
       case measure => simp [intOf]; omega
  ·go_wp2
   go_ret
   refine ⟨?_, rfl⟩
   have := HT.out
   rw [List.drop_eq_nil_of_le (by have := HN.out; omega)] at this
   rw [this]
   rfl
theorem right_calls {K : Nat → Obj → Prop} (w : World) (v : Value) (zs : List Int) (h : IntsAt K w v zs) (hm : zs.length ≤ maxLen) :
  Calls Try.prog 54 #[v] w fun e w' => e = .returned (.bool (rightQ zs)) ∧ w = w' := by
 obtain ⟨a, c, rfl⟩ := h.form
 by_cases h0 : zs.length = 0
 ·have e1 := List.length_eq_zero_iff.1 h0
  subst e1
  exact (right_nil w a c).mono fun e w' ⟨he, hw⟩ => ⟨he, hw⟩
 ·obtain ⟨b, off, rfl⟩ := h.addr (by omega)
  exact right_loop w b off c zs h (by unfold maxLen at hm; omega) (by omega)
end Go.Proofs.Ytmjccpfchhnfhaa
/- Rows of ints of the function's own: an append; the document's Add and Remove; slices.Clone. -/
namespace Go.Proofs.Ytmjccpfchhnfhaa
open Go.RowKit
set_option linter.unusedVariables false
def intV (x : Int) : Value := .int .i64 x
theorem info_int : (Try.prog.info? 3).map (fun i => (i.zero, i.size, i.bytes)) = some (some (.int .i64 0), 1, 8) := by kernel_rfl
def RowI (w : World) (B : Nat) (v : Value) (zs : List Int) : Prop := w.ownsRow B 3 1 v zs.length (zs.map intV)
theorem own_new {w : World} {B : Nat} {v : Value} {n : Nat} {xs : List Value} {e : TypeId} {s : Nat} (h : w.ownsRow B e s v n xs) : ∀ k, v.ownBlock = some k → B ≤ k := by
 intro k hk
 rcases h.2 with ⟨rfl, _⟩ | ⟨g, cap, _, rfl, hg, _⟩
 ·cases hk
 ·cases hk; exact hg
theorem RowI.tt {w w' : World} {B : Nat} {v : Value} {zs : List Int} (h : RowI w B v zs) (hf : FT w w') : RowI w' B v zs := ownsRow_fr h hf fun _ _ _ _ => trivial
theorem RowI.ints {w : World} {B : Nat} {v : Value} {zs : List Int} (h : RowI w B v zs) : IntsAt (fun b _ => B ≤ b) w v zs := by
 obtain ⟨h1, h2⟩ := h
 rcases h2 with ⟨hv, hn⟩ | ⟨g, cap, cur, hv, hg, hh, hn, hc, hs, ht⟩
 ·have e := List.length_eq_zero_iff.1 hn
  subst e hv
  exact ⟨_, _, rfl, .inl rfl⟩
 ·refine ⟨_, cap, hv, .inr ⟨g, 0, _, rfl, hh, hg, fun i hi => ?_⟩⟩
  have e1 : cur.toList[i]? = (zs.map intV)[i]? := by rw [← ht, List.getElem?_take, if_pos (by omega)]
  have e2 : cur[i]? = some (intV zs[i]) := by rw [← Array.getElem?_toList, e1]; simp [hi]
  rw [Nat.zero_add]
  exact cell_mk hh e2
theorem RowI.nil (w : World) (B : Nat) : RowI w B (.slice none 0 0) [] := ⟨rfl, .inl ⟨rfl, rfl⟩⟩
theorem RowI.form {w : World} {B : Nat} {v : Value} {zs : List Int} (h : RowI w B v zs) : ∃ a c, v = .slice a zs.length c := by
 rcases h.2 with ⟨rfl, e⟩ | ⟨g, cap, _, rfl, _⟩
 ·exact ⟨none, 0, by rw [e]⟩
 ·exact ⟨_, _, rfl⟩
theorem NumsAt.src {K : Nat → Obj → Prop} {w : World} {v : Value} {zs : List Int} (h : IntsAt K w v zs) (h0 : 0 < zs.length) : SrcAt w 1 v zs.length (zs.map intV) := by
 obtain ⟨a, cap, rfl, h⟩ := h
 rcases h with rfl | ⟨b, off, o, rfl, hb, hk, hc⟩
 ·simp at h0
 ·refine .inr ⟨_, cap, rfl, by simp, fun j u hu => ?_, fun u hu => ?_⟩
  ·have hj : j < zs.length := by
    rcases Nat.lt_or_ge j zs.length with h1 | h1
    ·exact h1
    ·rw [List.getElem?_eq_none (by simpa using h1)] at hu; cases hu
   have hu' : u = intV zs[j] := by
    rw [List.getElem?_map, List.getElem?_eq_getElem hj] at hu
    exact (Option.some.inj hu).symm
   rw [hu', add_at]
   exact hc j hj
  ·obtain ⟨x, _, rfl⟩ := List.mem_map.1 hu
   rfl
theorem wpList_append_ints {K0 : Nat → Obj → Prop} {ops : Array Oper} {rest : List Oper} {o : Oper} {a : Act} {Q : Exit → Act → World → Prop} (W0 W : World) (hF : Hid (FT W0 W)) (hgd : o.guard = none) (s x : Operand)
  (ho : o.op = .call { callee := .builtin .append, args := #[s, x], argTypes := #[33, 33] }) (v : Value) (xs : List Int) (hs : a.eval s = v) (hown : Hid (RowI W W0.heap.size v xs))
  (vx : Value) (bs : List Int) (hx : a.eval x = vx) (hb : Hid (IntsAt K0 W vx bs)) (h0 : 0 < bs.length) (r : List Int) (hr : Hid (xs ++ bs = r)) (hn : r.length ≤ 2000000)
  (h : ∀ a' c' w', Hid (RowI w' W0.heap.size (.slice a' r.length c') r) → Hid (FT W0 w') → wpList Try.prog ops Q rest (a.put o.dst (.slice a' r.length c')) w') :
  wpList Try.prog ops Q (o :: rest) a W := by
 obtain ⟨i0, hi, hz0, hz1, hz2⟩ := info_parts info_int
 have hr := hr
 subst hr
 rw [List.length_append] at hn
 refine wpList_append_src W hgd s x 33 ho W0.heap.size 3 i0 (.int .i64 0) 1 8 Try.underlying33 hi hz0 hz1 hz2 rfl (by decide) v xs.length (xs.map intV) hs hown.out vx bs.length (bs.map intV) hx (hb.out.src h0) (by unfold maxLen; omega) (by omega) hF.out.size ?_
 intro v' w' h1 h2 _
 rw [← List.map_append, ← List.length_append] at h1
 obtain ⟨a', c', rfl⟩ := RowI.form h1
 exact h a' c' w' h1 (hF.grown_new h2 (own_new hown))
set_option maxRecDepth 100000 in
theorem clone_ints {K : Nat → Obj → Prop} (w : World) (v : Value) (zs : List Int) (h : IntsAt K w v zs) (h0 : 0 < zs.length) (hm : zs.length ≤ 2000000) :
  Calls Try.prog 45 #[v] w fun e w' => (∃ v, e = .returned v ∧ RowI w' w.heap.size v zs) ∧ FT w w' := by
 obtain ⟨a, c, rfl⟩ := h.form
 obtain ⟨b, off, rfl⟩ := h.addr h0
 have hq := fun (w : World) (a : Option Addr) (n c n' c' : Nat) => Lib.run_eql_slice_nil (P := Try.prog) w 33 3 a n c n' c' Try.underlying33
 have hown : Hid (RowI (w.alloc (.cells #[] 3)) w.heap.size (.slice (some ⟨w.heap.size, 0, none⟩) 0 0) []) := World.ownsRow_lit w #[] 0 (Nat.le_refl _) (by simp) rfl
 have hsrc := Lib.hid (h.tt ((Fr.refl _ _).alloc (.cells #[] 3)))
 have HF := Lib.hid ((Fr.refl (fun _ _ => True) w).alloc (.cells #[] 3))
 have H0 := Lib.hid h0
 clear h h0
 go_enter Try.func45, Try.ntmps45
 go_wp2_with (at_builtin; refine wpList_append_ints w _ HF rfl _ _ rfl _ [] rfl hown _ zs rfl hsrc H0.out zs rfl hm ?_)
 intro a1 c1 w1 O1 F1
 go_wp2
 go_ret
 exact ⟨⟨_, rfl, O1⟩, F1⟩
end Go.Proofs.Ytmjccpfchhnfhaa
