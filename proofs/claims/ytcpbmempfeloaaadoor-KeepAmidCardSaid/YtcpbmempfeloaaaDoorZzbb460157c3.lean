/- Texts of the proofs, part 5: what the functions that they reach do, walked; no conditions beyond those that each states. -/
import Derived.Deep.AppendLies
import Derived.Deep.RegionLaw
import Derived.Test.YtcpbmempfeloaaaDoorZzc49ae06a14
set_option linter.unusedVariables false
set_option linter.unusedSimpArgs false
/- Package pack: the Writer. -/
namespace Go.Proofs.YtcpbmempfeloaaaDoor
open Go.RowKit

/-- A number's bytes, the lowest first. -/
def le (n : Nat) : Nat → List UInt8
  | 0 => []
  | k + 1 => UInt8.ofNat n :: le (n / 256) k
theorem le_length (n : Nat) : ∀ k, (le n k).length = k
  | 0 => rfl
  | k + 1 => by rw [le, List.length_cons, le_length]
theorem le_snoc (n : Nat) : ∀ k, le n (k + 1) = le n k ++ [UInt8.ofNat (n / 256 ^ k)]
  | 0 => by simp [le]
  | k + 1 => by
    rw [le, le_snoc (n / 256) k, le, List.cons_append, Nat.div_div_eq_div_mul, Nat.pow_succ, Nat.mul_comm 256]

theorem wrap_byte (m : Nat) : IntKind.u8.wrap (m : Int) = ((UInt8.ofNat m).toNat : Int) := by
  rw [UInt8.toNat_ofNat', IntKind.wrap_u8]
  omega
theorem shr_byte (n k : Nat) : IntKind.u8.wrap ((n : Int) / 2 ^ (8 * (k : Int)).toNat) = ((UInt8.ofNat (n / 256 ^ k)).toNat : Int) := by
  have h1 : (8 * (k : Int)).toNat = 8 * k := by omega
  rw [h1, ← wrap_byte, show (256 : Nat) ^ k = 2 ^ (8 * k) from by rw [Nat.pow_mul]]
  simp

theorem snoc_length {α : Type} (l : List α) (m : α) : (l ++ [m]).length = l.length + 1 := by simp
theorem snoc_map {α β : Type} (f : α → β) (l : List α) (m : α) : (l ++ [m]).map f = l.map f ++ [f m] := by simp

/-- A Writer at bw whose slice v owns the bytes bs. -/
structure WrAt (w : World) (bw : Nat) (v : Value) (bs : List UInt8) : Prop where
  top : w.heap[bw]? = some (.cells #[v] 150 (0, 0))
  own : w.ownsRow 0 5 1 v bs.length (bs.map byteV)
/-- What a Writer's functions leave alone. -/
def KW (bw : Nat) (v : Value) (b : Nat) (_ : Obj) : Prop := b ≠ bw ∧ v.ownBlock ≠ some b

theorem WrAt.ne {w : World} {bw : Nat} {v : Value} {bs : List UInt8} (h : WrAt w bw v bs) : v.ownBlock ≠ some bw := by
  rcases h.own.2 with ⟨rfl, _⟩ | ⟨g, cap, cur, rfl, _, hg, _⟩
  · simp [Value.ownBlock]
  · intro e
    simp only [Value.ownBlock, Option.some.injEq] at e
    rw [e, h.top] at hg
    cases hg

/-- 'append(v, m)' of one byte, at a step of a region that draws its order. -/
theorem step_append_byte {ops : Array Oper} {o : Oper} {a : Act} {K : Act → World → Prop} {Q : Exit → Act → World → Prop} {E : Prop} (W : World) (hgd : o.guard = none) (s x : Operand)
    (ho : o.op = .call { callee := .builtin .append, args := #[s, x], argTypes := #[33, 33] }) (v : Value) (n : Nat) (xs : List Value) (hs : a.eval s = v) (hown : W.ownsRow 0 5 1 v n xs)
    (B : Nat) (m : UInt8) (hx : a.eval x = .slice (some ⟨B, 0, none⟩) 1 1) (hb : W.heap[B]? = some (.cells #[byteV m] 5 (0, 0))) (hn : n ≤ 2000000)
    (h : ∀ g cap w', w'.ownsRow 0 5 1 (.slice (some ⟨g, 0, none⟩) (n + 1) cap) (n + 1) (xs ++ [byteV m]) → W.grownBy w' v.ownBlock → (v.ownBlock = some g ∨ g = W.heap.size) → g < w'.heap.size → K (a.put o.dst (.slice (some ⟨g, 0, none⟩) (n + 1) cap)) w') :
    if Region.wanted o (yielded ops a.tmps) = true then Oper.wp Tryd.prog o a W K Q else E := by
  obtain ⟨i0, hi, hz0, hz1, hz2⟩ := info_parts info_u8
  exact step_append_lies W hgd s x 33 ho 0 5 i0 (.int .u8 0) 1 1 Tryd.underlying33 hi hz0 hz1 hz2 rfl (by decide) v n xs hs hown ⟨B, 0, none⟩ 1 1 [byteV m] hx rfl
    (World.news_of_block hb) (fun u hu => by rw [List.mem_singleton.1 hu]; rfl) (by decide) (by unfold maxLen; omega) (by omega) (Nat.zero_le _) _ rfl h

set_option maxRecDepth 100000 in
set_option maxHeartbeats 1000000 in
theorem wnum_main (w : World) (bw : Nat) (v : Value) (bs : List UInt8) (n : Nat) (size : Nat) (h : WrAt w bw v bs) (h1 : 1 ≤ size) (h8 : size ≤ 8) (hn : n < 18446744073709551616) (hb : bs.length ≤ 1000000) :
    Calls Tryd.prog 92 #[.pointer (some ⟨bw, 0, none⟩), .int .u64 n, .int .i64 size] w fun e w' => e = .returned (.tuple #[]) ∧
      ∃ v', WrAt w' bw v' (bs ++ le n size) ∧ Fr (KW bw v) w w' ∧ (v'.ownBlock = v.ownBlock ∨ ∀ k, v'.ownBlock = some k → w.heap.size ≤ k) := by
  have h1' : (1 : Int) ≤ size := by omega
  have h8' : (size : Int) ≤ 8 := by omega
  have H := Lib.hid h
  clear h
  go_enter Tryd.func92, Tryd.ntmps92
  go_wp2
  go_loopw [14] (fun i wr => ∃ (k : Nat) (v' : Value), k ≤ size ∧ i = .int .i64 k ∧ WrAt wr bw v' (bs ++ le n k) ∧ Fr (KW bw v) w wr ∧ (v'.ownBlock = v.ownBlock ∨ ∀ k, v'.ownBlock = some k → w.heap.size ≤ k)) (fun i _ => size - (intOf i).toNat)
  case atStart => exact ⟨0, v, Nat.zero_le _, rfl, by simpa [le] using H.out, Fr.refl _ _, .inl rfl⟩
  case round =>
    obtain ⟨k, v', hk, rfl, hw, hf, hv⟩ := hrel
    have hcl : (bs ++ le n k).length ≤ 1000008 := by rw [List.length_append, le_length]; omega
    generalize hcur : bs ++ le n k = cur at hw hcl
    have HC := Lib.hid hcur
    clear hcur
    have HW := Lib.hid hw
    have HF := Lib.hid hf
    have HV := Lib.hid hv
    clear hf hv
    by_cases hlt : k < size
    · have hc := cell_mk (i := 0) hw.top rfl
      have hfz := frozen_mk (i := 0) hw.top
      have hbw : bw < wr.heap.size := lt_of_some hw.top
      clear hw
      have e8 : IntKind.i64.wrap (8 * (k : Int)) = 8 * (k : Int) := IntWalk.i64_in _ (by omega)
      have hX := shr_byte n k
      have hle := Lib.hid (le_snoc n k)
      generalize UInt8.ofNat (n / 256 ^ k) = m at hX hle
      go_wp2
      go_region_law ((refine step_append_byte _ rfl _ _ rfl v' _ _ rfl (HW.out.own.alloc _).drew wr.heap.size m rfl (heap_alloc_new wr _) (by omega) ?_; intro g cap w1 hown1 hg1 hat1 hlt1; have t1 := Lib.hid (grown_block hg1 (heap_alloc_lt HW.out.top _) HW.out.ne); have c1 : w1.cell? ⟨bw, 0, none⟩ = some v' := cell_mk t1.out rfl; have f1 : w1.frozen? ⟨bw, 0, none⟩ = false := frozen_mk t1.out))
      all_goals
        have F1 := Lib.hid ((HF.out.alloc _).drew.grown hg1 fun q o e ho hk => by
          rcases HV.out with hv | hv
          · exact hk.2 (hv ▸ e)
          · have := hv q e; have := lt_of_some ho; omega)
        have hgne : g ≠ bw := fun e => by
          rcases hat1 with h | h
          · exact HW.out.ne (e ▸ h)
          · have : g = wr.heap.size + 1 := by simpa using h
            omega
        have hV1 : Hid ((some g : Option Nat) = v.ownBlock ∨ ∀ q, some g = some q → w.heap.size ≤ q) := by
          rcases hat1 with h | h
          · rcases HV.out with hv | hv
            · exact .inl (h.symm.trans hv)
            · exact .inr fun q e => hv q (h.trans e)
          · refine .inr fun q e => ?_
            cases e
            have e1 : g = wr.heap.size + 1 := by simpa using h
            have := HF.out.size
            omega
        have O1 := Lib.hid hown1
        clear hown1 hg1 hat1
        go_wp2
        go_roundw
        case rel =>
          refine ⟨k + 1, _, by omega, by go_num, ⟨heap_setCell_same t1.out _, ?_⟩, F1.out.setCell (fun _ _ h => h.1 rfl) _, hV1.out⟩
          have e1 : bs ++ le n (k + 1) = cur ++ [m] := by rw [hle.out, ← HC.out, List.append_assoc]
          rw [e1, snoc_length, snoc_map]
          exact ownsRow_setCell_ne (p := ⟨bw, 0, none⟩) O1.out (fun e => hgne (Option.some.inj e)) _
        case measure => simp [intOf]; omega
    · obtain rfl : k = size := by omega
      clear hw
      go_wp2
      go_end0
      exact ⟨rfl, v', HC.out ▸ HW.out, HF.out, HV.out⟩
end Go.Proofs.YtcpbmempfeloaaaDoor
