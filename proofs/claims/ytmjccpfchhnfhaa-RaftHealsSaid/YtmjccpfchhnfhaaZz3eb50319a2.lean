/- Texts of the proofs, part 5: what the functions that they reach do, walked; no conditions beyond those that each states. -/
import Derived.Test.YtmjccpfchhnfhaaZz1c146201ae
set_option linter.unusedVariables false
set_option linter.unusedSimpArgs false
/- A region that draws its order: as XCf has it, where some operations float past a store: they are of no world. -/
namespace Go.Proofs.Ytmjccpfchhnfhaa
set_option linter.unusedVariables false
set_option linter.unusedSimpArgs false
section
variable {P : Program} {ops : Array Oper} {Q : Exit → Act → World → Prop} {md : Region.Mode} {K : Nat → Obj → Prop}
theorem once_filter : ∀ (A : List (Nat × List Nat)), onceB (A.map fun q => (q.1, q.1)) = true → ∀ q ∈ A, (A.filter fun x => x.1 == q.1).length = 1
 | [], _, q, h => by cases h
 | x :: r, h, q, hq => by
  rw [List.map_cons] at h
  unfold onceB at h
  rw [Bool.and_eq_true, List.all_eq_true] at h
  rw [List.filter_cons]
  by_cases hxq : x.1 = q.1
  ·have e : (r.filter fun x => x.1 == q.1) = [] := List.filter_eq_nil_iff.2 fun y hy he => by
    have := h.1 (y.1, y.1) (List.mem_map.2 ⟨y, hy, rfl⟩)
    rw [beq_iff_eq] at he
    simp [he, hxq] at this
   simp [hxq, e]
  ·rcases List.mem_cons.1 hq with e | hm
   ·exact absurd (by rw [e]) hxq
   ·simp [hxq]
    exact once_filter r h.2 q hm
def flB (md : Region.Mode) (ops : Array Oper) (A : List (Nat × List Nat)) (E : List Nat) : Bool :=
 E.all fun e => match ops[e]? with
  | some o => (o.after.all fun x => !Region.binds md x || A.any fun q => q.1 == x.on && !E.contains q.1) &&
   ((List.range ops.size).all fun j => (j == e || A.any fun q => q.1 == j && !E.contains q.1) || match ops[j]? with
    | some oj => oj.after.any (fun x => Region.binds md x && x.on == e) || o.apart ops oj
    | none => true) && o.dst.isSome
  | none => false
def FlAll (P : Program) (ops : Array Oper) (K : Nat → Obj → Prop) (T : List (Nat × Nat)) (a : Act) (w0 : World) (R : List (SP K)) (A : List (Nat × List Nat)) (E : List Nat) : List Nat → Prop
 | [] => True
 | e :: r => (∀ oe, ops[e]? = some oe → ∀ (xs : Nat → Value) (w : World), Fr K w0 w → (∀ q ∈ A, E.contains q.1 = false → (R.getD q.1 SP.any).p (xs q.1) w) → ∃ v, Yields P ops oe v (fillA T a xs) ∧ (R.getD e SP.any).p v w) ∧ FlAll P ops K T a w0 R A E r
theorem FlAll.nil {T : List (Nat × Nat)} {a : Act} {w0 : World} {R : List (SP K)} {A : List (Nat × List Nat)} {E : List Nat} : FlAll P ops K T a w0 R A E [] := trivial
theorem FlAll.cons {T : List (Nat × Nat)} {a : Act} {w0 : World} {R : List (SP K)} {A : List (Nat × List Nat)} {E r : List Nat} {e : Nat} {o : Oper} (ho : ops[e]? = some o)
  (h : ∀ (xs : Nat → Value) (w : World), Fr K w0 w → (∀ q ∈ A, E.contains q.1 = false → (R.getD q.1 SP.any).p (xs q.1) w) → ∃ v, Yields P ops o v (fillA T a xs) ∧ (R.getD e SP.any).p v w)
  (hr : FlAll P ops K T a w0 R A E r) : FlAll P ops K T a w0 R A E (e :: r) := ⟨fun o' ho' => by rw [ho] at ho'; cases ho'; exact h, hr⟩
theorem FlAll.get {T : List (Nat × Nat)} {a : Act} {w0 : World} {R : List (SP K)} {A : List (Nat × List Nat)} {E : List Nat} : ∀ (F : List Nat), FlAll P ops K T a w0 R A E F → ∀ e ∈ F, ∀ oe, ops[e]? = some oe → ∀ (xs : Nat → Value) (w : World), Fr K w0 w → (∀ q ∈ A, E.contains q.1 = false → (R.getD q.1 SP.any).p (xs q.1) w) → ∃ v, Yields P ops oe v (fillA T a xs) ∧ (R.getD e SP.any).p v w
 | [], _, _, h => by cases h
 | f :: r, h, e, he => by
  rcases List.mem_cons.1 he with rfl | he
  ·exact h.1
  ·exact FlAll.get r h.2 e he
theorem wpAny_cfl {E : List Nat} {T : List (Nat × Nat)} {a0 : Act} {w0 : World} {R : List (SP K)} {A : List (Nat × List Nat)} (hT : dstsOf ops = T) (ho : onceB T = true) (hA : cfB md ops A E = true) (hE : flB md ops A E = true) (hsel : Region.noSelect ops = true) (hQ : ∀ c (d : Tmp) v a w, Q (.panic c) (a.put (some d) v) w → Q (.panic c) a w)
  (hall : CfAll P ops Q K T a0 w0 R A) (hfl : FlAll P ops K T a0 w0 R A E E) (m : Nat)
  (hend : ∀ xs w, Fr K w0 w → (∀ q ∈ A, (R.getD q.1 SP.any).p (xs q.1) w) → wpAny P md ops Q m (bitsOf ops.size A) (fillA T a0 xs) w) :
  ∀ (fuel : Nat) (L : Array Bool) (a : Act) (w : World), CfInv md ops K T a0 w0 R A [] L a w → fuel = m + (A.filter fun q => !L.getD q.1 true).length → (L.size = ops.size) → wpAny P md ops Q fuel L a w := by
 unfold cfB at hA
 rw [Bool.and_eq_true, Bool.and_eq_true, Bool.and_eq_true, List.all_eq_true, List.all_eq_true, List.all_eq_true] at hA
 obtain ⟨⟨⟨hA1, hA3⟩, hA4⟩, hA2⟩ := hA
 have done : ∀ (L : Array Bool) (a : Act) (w : World), CfInv md ops K T a0 w0 R A [] L a w → (∀ q ∈ A, L.getD q.1 true = true) → wpAny P md ops Q m L a w := fun L a w h hq => by
  have eL : L = bitsOf ops.size A := by
   apply Array.ext
   ·rw [h.sz]; simp [bitsOf]
   ·intro i h1 h2
    have h3 : i < ops.size := by rw [← h.sz]; exact h1
    have e1 := bitsOf_get ops.size A i true h3
    simp only [h2, Array.getD_eq_getD_getElem?, Array.getElem?_eq_getElem, Option.getD_some] at e1
    rw [e1]
    cases hl : L[i] with
    | true =>
     obtain ⟨q, hqA, hqi⟩ := h.on i h3 (by simp [h1, hl])
     exact (List.any_eq_true.2 ⟨q, hqA, by simp [hqi]⟩).symm
    | false =>
     cases hn : A.any fun q => q.1 == i with
     | false => rfl
     | true =>
      obtain ⟨q, hqA, hqi⟩ := List.any_eq_true.1 hn
      have := hq q hqA
      rw [beq_iff_eq] at hqi
      rw [hqi] at this
      simp [h1, hl] at this
  obtain ⟨xs, hxa, hx⟩ := h.xs
  rw [eL, hxa]
  refine hend xs w h.fr fun q hqA => hx q.1 ?_ ?_
  ·have := hA1 q hqA; simp at this; exact this.1
  ·have h4 := hq q hqA
   have h5 : q.1 < ops.size := by have := hA1 q hqA; simp at this; exact this.1
   have h6 : q.1 < L.size := by rw [h.sz]; exact h5
   simp [h6] at h4 ⊢; exact h4
 intro fuel
 induction fuel with
 | zero =>
  intro L a w h hf _
  have h0 : m = 0 := by omega
  have h1 : (A.filter fun q => !L.getD q.1 true).length = 0 := by omega
  rw [h0] at done
  refine done L a w h fun q hq => ?_
  have h2 := List.length_eq_zero_iff.1 h1
  rw [List.filter_eq_nil_iff] at h2
  simpa using h2 q hq
 | succ fuel ih =>
  intro L a w h hf hsz
  by_cases hq : ∀ q ∈ A, L.getD q.1 true = true
  ·have h1 : (A.filter fun q => !L.getD q.1 true).length = 0 := by
    rw [List.length_eq_zero_iff, List.filter_eq_nil_iff]
    intro q hqA
    simp [hq q hqA]
   have h2 : m = fuel + 1 := by omega
   rw [← h2]
   exact done L a w h hq
  ·by_cases hq2 : ∃ q ∈ A, L.getD q.1 true = false ∧ E.contains q.1 = false
   rotate_left
   ·obtain ⟨q0, hq0, hL0⟩ : ∃ q ∈ A, L.getD q.1 true = false := by
     apply Classical.byContradiction
     intro hn
     exact hq fun q hqA => by
      cases hv : L.getD q.1 true with
      | true => rfl
      | false => exact absurd ⟨q, hqA, hv⟩ hn
    have hrest : ∀ q ∈ A, E.contains q.1 = false → L.getD q.1 true = true := fun q hqA hqE => by
     cases hv : L.getD q.1 true with
     | true => rfl
     | false => exact absurd ⟨q, hqA, hv, hqE⟩ hq2
    have hqE : E.contains q0.1 = true := by
     cases hv : E.contains q0.1 with
     | true => rfl
     | false => exact absurd ⟨q0, hq0, hL0, hv⟩ hq2
    have hlt : q0.1 < ops.size := by have := hA1 q0 hq0; simp at this; exact this.1
    have hltL : q0.1 < L.size := by rw [h.sz]; exact hlt
    have h2 : ops[q0.1]? = some ops[q0.1] := Array.getElem?_eq_getElem hlt
    have hmem : q0.1 ∈ E := by simpa using hqE
    unfold flB at hE
    rw [List.all_eq_true] at hE
    have h3 := hE q0.1 hmem
    rw [h2] at h3
    simp only [Bool.and_eq_true] at h3
    obtain ⟨⟨h3a, h3b⟩, h3c⟩ := h3
    obtain ⟨xs, hxa, hx⟩ := h.xs
    have hfree : Region.free md ops L q0.1 = true := by
     unfold Region.free
     rw [h2]
     simp only []
     rw [List.all_eq_true]
     intro j hj
     have h5 := List.all_eq_true.1 h3b j hj
     rw [Bool.or_eq_true] at h5
     rcases h5 with h5 | h5
     ·rw [Bool.or_eq_true] at h5
      rcases h5 with h5 | h5
      ·rw [h5]; simp
      ·obtain ⟨x, hxA, hxx⟩ := List.any_eq_true.1 h5
       simp only [Bool.and_eq_true, beq_iff_eq, Bool.not_eq_true'] at hxx
       have := hrest x hxA hxx.2
       rw [hxx.1] at this
       rw [this]; simp
     ·rw [Bool.or_eq_true]; exact .inr h5
    have hready : (Region.ready md ops L).contains q0.1 = true := by
     rw [List.contains_iff_mem]
     refine mem_ready.2 ⟨hL0, _, h2, fun e he hb => ?_⟩
     have h5 := Array.all_eq_true_iff_forall_mem.1 h3a e he
     rw [hb] at h5
     simp only [Bool.not_true, Bool.false_or] at h5
     obtain ⟨x, hxA, hxx⟩ := List.any_eq_true.1 h5
     simp only [Bool.and_eq_true, beq_iff_eq, Bool.not_eq_true'] at hxx
     have h6 := hrest x hxA hxx.2
     have hls : x.1 < L.size := by rw [h.sz]; have := hA1 x hxA; simp at this; exact this.1
     rw [hxx.1] at h6 hls
     simp [hls] at h6 ⊢
     exact h6
    obtain ⟨v, hyv, hpv⟩ := FlAll.get E hfl q0.1 hmem _ h2 xs w h.fr (fun q hqA hqE2 => by
     have h6 := hrest q hqA hqE2
     have h7 : q.1 < ops.size := by have := hA1 q hqA; simp at this; exact this.1
     have h8 : q.1 < L.size := by rw [h.sz]; exact h7
     refine hx q.1 h7 ?_
     simp [h8] at h6 ⊢
     exact h6)
    obtain ⟨d, hd⟩ := Option.isSome_iff_exists.1 h3c
    rw [hxa]
    refine wpAny_take h2 hsel hfree hready (fun c a w h9 => hQ c d v a w (by rw [hd] at h9; exact h9)) hyv ?_
    refine ih _ _ _ ⟨fun e he => (by cases he), by simpa using h.sz, h.fr, ?_, ?_, ?_⟩ ?_ (by simpa using h.sz)
    ·intro j oj hj hl e he hb
     by_cases hij : q0.1 = j
     ·subst hij
      rw [h2] at hj
      cases hj
      refine getD_set_true ?_
      obtain ⟨_, o9, h9, h10⟩ := mem_ready.1 (List.contains_iff_mem.1 hready)
      rw [h2] at h9
      cases h9
      exact h10 e he hb
     ·rw [getD_set_ne true hij] at hl
      exact getD_set_true (h.sh j oj hj hl e he hb)
    ·intro j hj hl
     by_cases hij : q0.1 = j
     ·exact ⟨q0, hq0, hij⟩
     ·rw [getD_set_ne false hij] at hl
      exact h.on j hj hl
    ·refine ⟨fun k => if k = q0.1 then v else xs k, ?_, fun j hj hl => ?_⟩
     ·rw [hd]
      show ({ fillA T a0 xs with tmps := (fillA T a0 xs).tmps.setIfInBounds d v } : Act) = _
      unfold fillA
      rw [fillL_put T xs a0.tmps d q0.1 v ho (hT ▸ mem_dstsOf h2 hd)]
     ·show (R.getD j SP.any).p (if j = q0.1 then v else xs j) w
      by_cases hij : q0.1 = j
      ·subst hij
       rw [if_pos rfl]
       exact hpv
      ·rw [if_neg (fun e => hij e.symm)]
       rw [getD_set_ne false hij] at hl
       exact hx j hj hl
    ·have e1 : (A.filter fun x => !L.getD x.1 true).length = (A.filter fun x => !(L.setIfInBounds q0.1 true).getD x.1 true).length + (A.filter fun x => x.1 == q0.1).length := by
      have g : ∀ x : Nat × List Nat, (!L.getD x.1 true) = ((!(L.setIfInBounds q0.1 true).getD x.1 true) || (x.1 == q0.1)) ∧ ((!(L.setIfInBounds q0.1 true).getD x.1 true) && (x.1 == q0.1)) = false := fun x => by
       by_cases hij : q0.1 = x.1
       ·rw [← hij, hL0]
        simp [hltL]
       ·rw [getD_set_ne true hij]
        have e : (x.1 == q0.1) = false := by simpa using fun e => hij e.symm
        rw [e]
        simp
      exact filter_parts _ _ _ g A
     have e2 := once_filter A hA4 q0 hq0
     omega
   obtain ⟨q0, hq0, hL0, hE0⟩ := hq2
   have hin : ∀ i ∈ Region.ready md ops L, ∃ q ∈ A, q.1 = i := fun i hi => by
    obtain ⟨h1, o, h2, h3⟩ := mem_ready.1 hi
    have hlt : i < ops.size := (Array.getElem?_eq_some_iff.1 h2).1
    have h4 := hA2 i (List.mem_range.2 hlt)
    rw [Bool.or_eq_true] at h4
    rcases h4 with h4 | h4
    ·obtain ⟨q, hqA, hqi⟩ := List.any_eq_true.1 h4
     exact ⟨q, hqA, by simpa using hqi⟩
    ·have h5 := List.all_eq_true.1 h4 q0 hq0
     have h5' : ancB md ops ops.size i q0.1 = true := by
      rw [Bool.or_eq_true] at h5
      rcases h5 with h5 | h5
      ·rw [hE0] at h5; cases h5
      ·exact h5
     have h6 := ancB_on (L := L) h.sh ops.size i q0.1 h5' fun o' ho' => by rw [h2] at ho'; cases ho'; exact h3
     have h7 : q0.1 < L.size := by rw [h.sz]; have := hA1 q0 hq0; simp at this; exact this.1
     simp [h7] at h6 hL0
     rw [hL0] at h6
     cases h6
   have hor : ∀ n, ∀ q ∈ A, q.1 = n → L.getD q.1 true = false → ∃ i, i ∈ Region.ready md ops L := fun n => by
    induction n using Nat.strongRecOn with
    | ind n ihn =>
     intro q hqA hqn hL
     have hlt : q.1 < ops.size := by have := hA1 q hqA; simp at this; exact this.1
     have h2 : ops[q.1]? = some ops[q.1] := Array.getElem?_eq_getElem hlt
     have h3 := hA3 q hqA
     rw [h2] at h3
     by_cases hall : ∀ e ∈ (ops[q.1]).after, Region.binds md e = true → L.getD e.on false = true
     ·exact ⟨q.1, mem_ready.2 ⟨hL, _, h2, hall⟩⟩
     ·obtain ⟨e, he, hb, hne⟩ : ∃ e ∈ (ops[q.1]).after, Region.binds md e = true ∧ L.getD e.on false = false := by
       apply Classical.byContradiction
       intro hn
       exact hall fun e he hb => by
        cases hv : L.getD e.on false with
        | true => rfl
        | false => exact absurd ⟨e, he, hb, hv⟩ hn
      have h4 := Array.all_eq_true_iff_forall_mem.1 h3 e he
      rw [hb] at h4
      simp only [Bool.not_true, Bool.false_or, Bool.and_eq_true, decide_eq_true_eq] at h4
      obtain ⟨x, hxA, hx⟩ := List.any_eq_true.1 h4.2
      rw [beq_iff_eq] at hx
      have hls : e.on < L.size := by rw [h.sz, ← hx]; have := hA1 x hxA; simp at this; exact this.1
      refine ihn e.on (by omega) x hxA hx ?_
      rw [hx]
      simp [hls] at hne ⊢
      exact hne
   have step : ∀ i ∈ Region.ready md ops L, wpOp P ops Q i (wpAny P md ops Q fuel (L.setIfInBounds i true)) a w := fun i hi => by
    obtain ⟨q, hqA, rfl⟩ := hin i hi
    obtain ⟨h1, o, h2, h3⟩ := mem_ready.1 hi
    have hlt : q.1 < ops.size := (Array.getElem?_eq_some_iff.1 h2).1
    have hltL : q.1 < L.size := by rw [h.sz]; exact hlt
    obtain ⟨xs, hxa, hx⟩ := h.xs
    have hst := CfAll.get A hall q hqA o h2 xs w h.fr (fun j hj => by
     have h5 := (hA1 q hqA)
     rw [Bool.and_eq_true, List.all_eq_true] at h5
     have h6 := ancB_on (L := L) h.sh ops.size q.1 j (h5.2 j hj) fun o' ho' => by rw [h2] at ho'; cases ho'; exact h3
     have h7 : j < ops.size := by
      rcases Nat.lt_or_ge j L.size with h' | h'
      ·rw [← h.sz]; exact h'
      ·simp [Array.getElem?_eq_none h'] at h6
     exact hx j h7 h6)
    refine wpOp_step h2 fun K' hK => ?_
    rw [hxa]
    refine hst K' fun a' v w' ha' hf' hv => hK _ _ ?_
    subst ha'
    refine ih _ _ _ ⟨fun e he => (by by_cases h9 : q.1 = e; (· rw [← h9]; simp [hltL]); (· rw [getD_set_ne true h9]; exact h.el e he)), by simpa using h.sz, h.fr.trans hf', ?_, ?_, ?_⟩ ?_ (by simpa using h.sz)
    ·intro j oj hj hl e he hb
     by_cases hij : q.1 = j
     ·subst hij
      rw [h2] at hj
      cases hj
      exact getD_set_true (h3 e he hb)
     ·rw [getD_set_ne true hij] at hl
      exact getD_set_true (h.sh j oj hj hl e he hb)
    ·intro j hj hl
     by_cases hij : q.1 = j
     ·exact ⟨q, hqA, hij⟩
     ·rw [getD_set_ne false hij] at hl
      exact h.on j hj hl
    ·refine ⟨fun k => if k = q.1 then v else xs k, ?_, fun j hj hl => ?_⟩
     ·cases hd : o.dst with
      | none =>
       show fillA T a0 xs = _
       unfold fillA
       rw [fillL_congr T xs (fun k => if k = q.1 then v else xs k)]
       intro p hp
       have hne : p.2 ≠ q.1 := fun e => by
        have h8 : (p.1, p.2) ∈ dstsOf ops := by rw [hT]; exact hp
        obtain ⟨o', h9, h10⟩ := of_mem_dstsOf h8
        rw [e, h2] at h9
        cases h9
        rw [hd] at h10
        cases h10
       show xs p.2 = if p.2 = q.1 then v else xs p.2
       rw [if_neg hne]
      | some d =>
       show ({ fillA T a0 xs with tmps := (fillA T a0 xs).tmps.setIfInBounds d v } : Act) = _
       unfold fillA
       rw [fillL_put T xs a0.tmps d q.1 v ho (hT ▸ mem_dstsOf h2 hd)]
     ·show (R.getD j SP.any).p (if j = q.1 then v else xs j) w'
      by_cases hij : q.1 = j
      ·subst hij
       rw [if_pos rfl]
       exact hv
      ·rw [if_neg (fun e => hij e.symm)]
       rw [getD_set_ne false hij] at hl
       exact (R.getD j SP.any).st _ _ _ (hx j hj hl) hf'
    ·have e1 : (A.filter fun x => !L.getD x.1 true).length = (A.filter fun x => !(L.setIfInBounds q.1 true).getD x.1 true).length + (A.filter fun x => x.1 == q.1).length := by
      clear hall hend done hA1 hA2 hin hfl hE
      have g : ∀ x : Nat × List Nat, (!L.getD x.1 true) = ((!(L.setIfInBounds q.1 true).getD x.1 true) || (x.1 == q.1)) ∧ ((!(L.setIfInBounds q.1 true).getD x.1 true) && (x.1 == q.1)) = false := fun x => by
       by_cases hij : q.1 = x.1
       ·rw [← hij, h1]
        simp [hltL]
       ·rw [getD_set_ne true hij]
        have e : (x.1 == q.1) = false := by simpa using fun e => hij e.symm
        rw [e]
        simp
      exact filter_parts _ _ _ g A
     have e2 := once_filter A hA4 q hqA
     omega
   refine ⟨fun hr => ?_, step⟩
   obtain ⟨i, hi⟩ := hor _ q0 hq0 rfl hL0
   rw [hr] at hi
   cases hi
theorem wp_region_cfl {id : Nat} {a : Act} {w : World} (hm : P.follows .mixedOrders = true) (T : List (Nat × Nat)) (A : List (Nat × List Nat)) (R : List (SP K)) (E : List Nat) (m : Nat) (hT : dstsOf ops = T) (ho : onceB T = true) (hA : cfB .any ops A E = true) (hE : flB .any ops A E = true) (hsel : Region.noSelect ops = true) (hQ : ∀ c (d : Tmp) v a w, Q (.panic c) (a.put (some d) v) w → Q (.panic c) a w) (hn : A.length + m = ops.size)
  (hall : CfAll P ops Q K T a w.drew R A) (hfl : FlAll P ops K T a w.drew R A E E)
  (hend : ∀ xs w', Fr K w.drew w' → (∀ q ∈ A, (R.getD q.1 SP.any).p (xs q.1) w') → wpAny P .any ops Q m (bitsOf ops.size A) (fillA T a xs) w') : (Code.region id ops true).wp P Q a w := by
 refine wp_region_any hm ?_
 have hrep : ∀ j, (Array.replicate ops.size false).getD j false = false := fun j => by
  by_cases h : j < ops.size
  ·simp [h]
  ·simp [h]
 refine wpAny_cfl hT ho hA hE hsel hQ hall hfl m hend _ _ _ _ ⟨fun e he => (by cases he), by simp, Fr.refl _ _, fun j oj hj hl => ?_, fun j hj hl => ?_, fun j => (a.tmps.getD ((ops.getD j default).dst.getD 0) undef), ?_, fun j hj hl => ?_⟩ ?_ (by simp)
 ·have hlt := (Array.getElem?_eq_some_iff.1 hj).1
  simp [hlt] at hl
 ·rw [hrep] at hl; cases hl
 ·unfold fillA
  rw [fillL_same]
  intro q hq
  have h8 : (q.1, q.2) ∈ dstsOf ops := by rw [hT]; exact hq
  obtain ⟨o', h9, h10⟩ := of_mem_dstsOf h8
  have hlt := (Array.getElem?_eq_some_iff.1 h9).1
  have e : ops.getD q.2 default = o' := by
   obtain ⟨e1, e2⟩ := Array.getElem?_eq_some_iff.1 h9
   simp [e1, e2]
  show a.tmps.getD _ undef = _
  rw [e, h10]
  rfl
 ·rw [hrep] at hl; cases hl
 ·have : (A.filter fun q => !(Array.replicate ops.size false).getD q.1 true) = A := by
   rw [List.filter_eq_self]
   intro q hq
   unfold cfB at hA
   rw [Bool.and_eq_true, Bool.and_eq_true, Bool.and_eq_true, List.all_eq_true] at hA
   have := hA.1.1.1 q hq
   simp at this
   simp [this.1]
  rw [this]
  omega
end
end Go.Proofs.Ytmjccpfchhnfhaa
/- The temporaries of a walk's part: some are known, the others are letters. -/
namespace Go.Proofs.Ytmjccpfchhnfhaa
open Go.RowKit
set_option linter.unusedVariables false
set_option linter.unusedSimpArgs false
def tL : Nat → Nat → (Nat → Value) → List (Nat × Value) → List Value
 | 0, _, _, _ => []
 | n + 1, i, f, [] => f i :: tL n (i + 1) f []
 | n + 1, i, f, q :: r => bif i == q.1 then q.2 :: tL n (i + 1) f r else f i :: tL n (i + 1) f (q :: r)
def tU (n : Nat) (f : Nat → Value) (l : List (Nat × Value)) : Array Value := (tL n 0 f l).toArray
theorem seg_of {P : Program} {c : Code} {Q : Exit → Act → World → Prop} {a : Act} {w : World} {n : Nat} {l : List (Nat × Value)} (H : ∀ f : Nat → Value, Code.wp P c Q { tmps := tU n f l, defers := [] } w)
  (h : a = { tmps := tU n (fun i => a.tmps.getD i (.bool false)) l, defers := [] }) : Code.wp P c Q a w := by
 rw [h]
 exact H _
theorem K_of {K : Act → World → Prop} {a : Act} {w : World} {n : Nat} {l : List (Nat × Value)} (H : ∀ fu : Nat → Value, K { tmps := tU n fu l, defers := [] } w) (h : a = { tmps := tU n (fun i => a.tmps.getD i (.bool false)) l, defers := [] }) : K a w := by
 rw [h]
 exact H _
end Go.Proofs.Ytmjccpfchhnfhaa
/- A region that draws its order: operations that change the world in turn, by what was done. -/
namespace Go.Proofs.Ytmjccpfchhnfhaa
set_option linter.unusedVariables false
set_option linter.unusedSimpArgs false
section
variable {P : Program} {ops : Array Oper} {Q : Exit → Act → World → Prop} {md : Region.Mode}
def CjStep (P : Program) (ops : Array Oper) (Q : Exit → Act → World → Prop) (T : List (Nat × Nat)) (a : Act) (J : (Nat → Bool) → (Nat → Value) → World → Prop) (anc : List Nat) (i : Nat) : Prop :=
 ∀ o, ops[i]? = some o → ∀ (d : Nat → Bool) (xs : Nat → Value) (w : World), d i = false → (∀ j ∈ anc, d j = true) → J d xs w →
  ∀ K' : Act → World → Prop, Shut (∀ a' v w', a' = (fillA T a xs).put o.dst v → J (fun k => if k = i then true else d k) (fun k => if k = i then v else xs k) w' → K' a' w') →
   if Region.wanted o (yielded ops (fillA T a xs).tmps) = true then Oper.wp P o (fillA T a xs) w K' Q else K' ((fillA T a xs).put o.dst undef) w
def CjAll (P : Program) (ops : Array Oper) (Q : Exit → Act → World → Prop) (T : List (Nat × Nat)) (a : Act) (J : (Nat → Bool) → (Nat → Value) → World → Prop) : List (Nat × List Nat) → Prop
 | [] => True
 | (i, anc) :: r => CjStep P ops Q T a J anc i ∧ CjAll P ops Q T a J r
theorem CjAll.nil {T : List (Nat × Nat)} {a : Act} {J : (Nat → Bool) → (Nat → Value) → World → Prop} : CjAll P ops Q T a J [] := trivial
theorem CjAll.cons {T : List (Nat × Nat)} {a : Act} {J : (Nat → Bool) → (Nat → Value) → World → Prop} {i : Nat} {anc : List Nat} {r : List (Nat × List Nat)} {o : Oper} (ho : ops[i]? = some o)
  (h : ∀ (d : Nat → Bool) (xs : Nat → Value) (w : World), d i = false → (∀ j ∈ anc, d j = true) → J d xs w →
   ∀ K' : Act → World → Prop, Shut (∀ a' v w', a' = (fillA T a xs).put o.dst v → J (fun k => if k = i then true else d k) (fun k => if k = i then v else xs k) w' → K' a' w') → if Region.wanted o (yielded ops (fillA T a xs).tmps) = true then Oper.wp P o (fillA T a xs) w K' Q else K' ((fillA T a xs).put o.dst undef) w)
  (hr : CjAll P ops Q T a J r) : CjAll P ops Q T a J ((i, anc) :: r) := ⟨fun o' ho' => by rw [ho] at ho'; cases ho'; exact h, hr⟩
theorem CjAll.get {T : List (Nat × Nat)} {a : Act} {J : (Nat → Bool) → (Nat → Value) → World → Prop} : ∀ (A : List (Nat × List Nat)), CjAll P ops Q T a J A → ∀ q ∈ A, CjStep P ops Q T a J q.2 q.1
 | [], _, _, h => by cases h
 | (i, anc) :: r, h, q, hq => by
  rcases List.mem_cons.1 hq with rfl | hq
  ·exact h.1
  ·exact CjAll.get r h.2 q hq
structure CjInv (md : Region.Mode) (ops : Array Oper) (T : List (Nat × Nat)) (a0 : Act) (J : (Nat → Bool) → (Nat → Value) → World → Prop) (A : List (Nat × List Nat)) (E : List Nat) (L : Array Bool) (a : Act) (w : World) : Prop where
 el : ∀ e ∈ E, L.getD e true = true
 sz : L.size = ops.size
 sh : ∀ (j : Nat) oj, ops[j]? = some oj → L.getD j true = true → ∀ e ∈ oj.after, Region.binds md e = true → L.getD e.on false = true
 on : ∀ j, j < ops.size → L.getD j false = true → ∃ q ∈ A, q.1 = j
 xs : ∃ xs : Nat → Value, a = fillA T a0 xs ∧ J (fun j => L.getD j false) xs w
theorem wpAny_cj {E : List Nat} {T : List (Nat × Nat)} {a0 : Act} {J : (Nat → Bool) → (Nat → Value) → World → Prop} {A : List (Nat × List Nat)} (hT : tB ops A T = true) (ho : onceB T = true) (hA : cfB md ops A E = true)
  (hall : CjAll P ops Q T a0 J A) (m : Nat)
  (hend : ∀ d xs w, (∀ q ∈ A, d q.1 = true) → J d xs w → wpAny P md ops Q m (bitsOf ops.size A) (fillA T a0 xs) w) :
  ∀ (fuel : Nat) (L : Array Bool) (a : Act) (w : World), CjInv md ops T a0 J A E L a w → fuel = m + (A.filter fun q => !L.getD q.1 true).length → (L.size = ops.size) → wpAny P md ops Q fuel L a w := by
 unfold cfB at hA
 rw [Bool.and_eq_true, Bool.and_eq_true, Bool.and_eq_true, List.all_eq_true, List.all_eq_true, List.all_eq_true] at hA
 obtain ⟨⟨⟨hA1, hA3⟩, hA4⟩, hA2⟩ := hA
 have done : ∀ (L : Array Bool) (a : Act) (w : World), CjInv md ops T a0 J A E L a w → (∀ q ∈ A, L.getD q.1 true = true) → wpAny P md ops Q m L a w := fun L a w h hq => by
  have eL : L = bitsOf ops.size A := by
   apply Array.ext
   ·rw [h.sz]; simp [bitsOf]
   ·intro i h1 h2
    have h3 : i < ops.size := by rw [← h.sz]; exact h1
    have e1 := bitsOf_get ops.size A i true h3
    simp only [h2, Array.getD_eq_getD_getElem?, Array.getElem?_eq_getElem, Option.getD_some] at e1
    rw [e1]
    cases hl : L[i] with
    | true =>
     obtain ⟨q, hqA, hqi⟩ := h.on i h3 (by simp [h1, hl])
     exact (List.any_eq_true.2 ⟨q, hqA, by simp [hqi]⟩).symm
    | false =>
     cases hn : A.any fun q => q.1 == i with
     | false => rfl
     | true =>
      obtain ⟨q, hqA, hqi⟩ := List.any_eq_true.1 hn
      have := hq q hqA
      rw [beq_iff_eq] at hqi
      rw [hqi] at this
      simp [h1, hl] at this
  obtain ⟨xs, hxa, hx⟩ := h.xs
  rw [eL, hxa]
  refine hend _ xs w (fun q hqA => ?_) hx
  ·have h4 := hq q hqA
   have h5 : q.1 < ops.size := by have := hA1 q hqA; simp at this; exact this.1
   have h6 : q.1 < L.size := by rw [h.sz]; exact h5
   simp [h6] at h4 ⊢; exact h4
 intro fuel
 induction fuel with
 | zero =>
  intro L a w h hf _
  have h0 : m = 0 := by omega
  have h1 : (A.filter fun q => !L.getD q.1 true).length = 0 := by omega
  rw [h0] at done
  refine done L a w h fun q hq => ?_
  have h2 := List.length_eq_zero_iff.1 h1
  rw [List.filter_eq_nil_iff] at h2
  simpa using h2 q hq
 | succ fuel ih =>
  intro L a w h hf hsz
  by_cases hq : ∀ q ∈ A, L.getD q.1 true = true
  ·have h1 : (A.filter fun q => !L.getD q.1 true).length = 0 := by
    rw [List.length_eq_zero_iff, List.filter_eq_nil_iff]
    intro q hqA
    simp [hq q hqA]
   have h2 : m = fuel + 1 := by omega
   rw [← h2]
   exact done L a w h hq
  ·obtain ⟨q0, hq0, hL0⟩ : ∃ q ∈ A, L.getD q.1 true = false := by
    apply Classical.byContradiction
    intro hn
    exact hq fun q hqA => by
     cases hv : L.getD q.1 true with
     | true => rfl
     | false => exact absurd ⟨q, hqA, hv⟩ hn
   have hin : ∀ i ∈ Region.ready md ops L, ∃ q ∈ A, q.1 = i := fun i hi => by
    obtain ⟨h1, o, h2, h3⟩ := mem_ready.1 hi
    have hlt : i < ops.size := (Array.getElem?_eq_some_iff.1 h2).1
    have h4 := hA2 i (List.mem_range.2 hlt)
    rw [Bool.or_eq_true] at h4
    rcases h4 with h4 | h4
    ·obtain ⟨q, hqA, hqi⟩ := List.any_eq_true.1 h4
     exact ⟨q, hqA, by simpa using hqi⟩
    ·have h5 := List.all_eq_true.1 h4 q0 hq0
     have h5' : ancB md ops ops.size i q0.1 = true := by
      rw [Bool.or_eq_true] at h5
      rcases h5 with h5 | h5
      ·have h6 := h.el q0.1 (by simpa using h5)
       rw [hL0] at h6; cases h6
      ·exact h5
     have h6 := ancB_on (L := L) h.sh ops.size i q0.1 h5' fun o' ho' => by rw [h2] at ho'; cases ho'; exact h3
     have h7 : q0.1 < L.size := by rw [h.sz]; have := hA1 q0 hq0; simp at this; exact this.1
     simp [h7] at h6 hL0
     rw [hL0] at h6
     cases h6
   have hor : ∀ n, ∀ q ∈ A, q.1 = n → L.getD q.1 true = false → ∃ i, i ∈ Region.ready md ops L := fun n => by
    induction n using Nat.strongRecOn with
    | ind n ihn =>
     intro q hqA hqn hL
     have hlt : q.1 < ops.size := by have := hA1 q hqA; simp at this; exact this.1
     have h2 : ops[q.1]? = some ops[q.1] := Array.getElem?_eq_getElem hlt
     have h3 := hA3 q hqA
     rw [h2] at h3
     by_cases hall : ∀ e ∈ (ops[q.1]).after, Region.binds md e = true → L.getD e.on false = true
     ·exact ⟨q.1, mem_ready.2 ⟨hL, _, h2, hall⟩⟩
     ·obtain ⟨e, he, hb, hne⟩ : ∃ e ∈ (ops[q.1]).after, Region.binds md e = true ∧ L.getD e.on false = false := by
       apply Classical.byContradiction
       intro hn
       exact hall fun e he hb => by
        cases hv : L.getD e.on false with
        | true => rfl
        | false => exact absurd ⟨e, he, hb, hv⟩ hn
      have h4 := Array.all_eq_true_iff_forall_mem.1 h3 e he
      rw [hb] at h4
      simp only [Bool.not_true, Bool.false_or, Bool.and_eq_true, decide_eq_true_eq] at h4
      obtain ⟨x, hxA, hx⟩ := List.any_eq_true.1 h4.2
      rw [beq_iff_eq] at hx
      have hls : e.on < L.size := by rw [h.sz, ← hx]; have := hA1 x hxA; simp at this; exact this.1
      refine ihn e.on (by omega) x hxA hx ?_
      rw [hx]
      simp [hls] at hne ⊢
      exact hne
   have step : ∀ i ∈ Region.ready md ops L, wpOp P ops Q i (wpAny P md ops Q fuel (L.setIfInBounds i true)) a w := fun i hi => by
    obtain ⟨q, hqA, rfl⟩ := hin i hi
    obtain ⟨h1, o, h2, h3⟩ := mem_ready.1 hi
    have hlt : q.1 < ops.size := (Array.getElem?_eq_some_iff.1 h2).1
    have hltL : q.1 < L.size := by rw [h.sz]; exact hlt
    obtain ⟨xs, hxa, hx⟩ := h.xs
    have hst := CjAll.get A hall q hqA o h2 (fun j => L.getD j false) xs w (by simp [hltL] at h1 ⊢; exact h1) (fun j hj => by
     have h5 := (hA1 q hqA)
     rw [Bool.and_eq_true, List.all_eq_true] at h5
     have h6 := ancB_on (L := L) h.sh ops.size q.1 j (h5.2 j hj) fun o' ho' => by rw [h2] at ho'; cases ho'; exact h3
     exact h6) hx
    refine wpOp_step h2 fun K' hK => ?_
    rw [hxa]
    refine hst K' fun a' v w' ha' hv => hK _ _ ?_
    subst ha'
    refine ih _ _ _ ⟨fun e he => (by by_cases h9 : q.1 = e; (· rw [← h9]; simp [hltL]); (· rw [getD_set_ne true h9]; exact h.el e he)), by simpa using h.sz, ?_, ?_, ?_⟩ ?_ (by simpa using h.sz)
    ·intro j oj hj hl e he hb
     by_cases hij : q.1 = j
     ·subst hij
      rw [h2] at hj
      cases hj
      exact getD_set_true (h3 e he hb)
     ·rw [getD_set_ne true hij] at hl
      exact getD_set_true (h.sh j oj hj hl e he hb)
    ·intro j hj hl
     by_cases hij : q.1 = j
     ·exact ⟨q, hqA, hij⟩
     ·rw [getD_set_ne false hij] at hl
      exact h.on j hj hl
    ·refine ⟨fun k => if k = q.1 then v else xs k, ?_, ?_⟩
     ·cases hd : o.dst with
      | none =>
       show fillA T a0 xs = _
       unfold fillA
       rw [fillL_congr T xs (fun k => if k = q.1 then v else xs k)]
       intro p hp
       have hne : p.2 ≠ q.1 := fun e => by
        have h8 : (p.1, p.2) ∈ dstsOf ops := tB_in hT hp
        obtain ⟨o', h9, h10⟩ := of_mem_dstsOf h8
        rw [e, h2] at h9
        cases h9
        rw [hd] at h10
        cases h10
       show xs p.2 = if p.2 = q.1 then v else xs p.2
       rw [if_neg hne]
      | some d =>
       show ({ fillA T a0 xs with tmps := (fillA T a0 xs).tmps.setIfInBounds d v } : Act) = _
       unfold fillA
       rw [fillL_put T xs a0.tmps d q.1 v ho (tB_of hT (mem_dstsOf h2 hd) hqA rfl)]
     ·have e : (fun k => (L.setIfInBounds q.1 true).getD k false) = fun k => if k = q.1 then true else L.getD k false := by
       funext k
       by_cases hk : q.1 = k
       ·subst hk
        rw [if_pos rfl]
        simp [hltL]
       ·rw [if_neg (fun e => hk e.symm), getD_set_ne false hk]
      rw [e]
      exact hv
    ·have e1 : (A.filter fun x => !L.getD x.1 true).length = (A.filter fun x => !(L.setIfInBounds q.1 true).getD x.1 true).length + (A.filter fun x => x.1 == q.1).length := by
      clear hall hend done hA1 hA2 hin
      have g : ∀ x : Nat × List Nat, (!L.getD x.1 true) = ((!(L.setIfInBounds q.1 true).getD x.1 true) || (x.1 == q.1)) ∧ ((!(L.setIfInBounds q.1 true).getD x.1 true) && (x.1 == q.1)) = false := fun x => by
       by_cases hij : q.1 = x.1
       ·rw [← hij, h1]
        simp [hltL]
       ·rw [getD_set_ne true hij]
        have e : (x.1 == q.1) = false := by simpa using fun e => hij e.symm
        rw [e]
        simp
      exact filter_parts _ _ _ g A
     have e2 : (A.filter fun x => x.1 == q.1).length = 1 := by
      clear e1 hall hend done hA1 hA2 hin hor hA3 ih h hf hq hq0
      clear hT
      induction A with
      | nil => cases hqA
      | cons x r ihr =>
       rw [List.map_cons] at hA4
       unfold onceB at hA4
       rw [Bool.and_eq_true, List.all_eq_true] at hA4
       rw [List.filter_cons]
       by_cases hxq : x.1 = q.1
       ·have e : (r.filter fun x => x.1 == q.1) = [] := List.filter_eq_nil_iff.2 fun y hy he => by
         have := hA4.1 (y.1, y.1) (List.mem_map.2 ⟨y, hy, rfl⟩)
         rw [beq_iff_eq] at he
         simp [he, hxq] at this
        simp [hxq, e]
       ·rcases List.mem_cons.1 hqA with e | hm
        ·exact absurd (by rw [e]) hxq
        ·simp [hxq]
         exact ihr hA4.2 hm
     omega
   refine ⟨fun hr => ?_, step⟩
   obtain ⟨i, hi⟩ := hor _ q0 hq0 rfl hL0
   rw [hr] at hi
   cases hi
theorem wp_region_cj {id : Nat} {a : Act} {w : World} (hm : P.follows .mixedOrders = true) (T : List (Nat × Nat)) (A : List (Nat × List Nat)) (J : (Nat → Bool) → (Nat → Value) → World → Prop) (m : Nat) (hT : tB ops A T = true) (ho : onceB T = true) (hA : cfB .any ops A = true) (hn : A.length + m = ops.size)
  (h0 : ∀ xs, J (fun _ => false) xs w.drew) (hall : CjAll P ops Q T a J A)
  (hend : ∀ d xs w', (∀ q ∈ A, d q.1 = true) → J d xs w' → wpAny P .any ops Q m (bitsOf ops.size A) (fillA T a xs) w') : (Code.region id ops true).wp P Q a w := by
 refine wp_region_any hm ?_
 have hrep : ∀ j, (Array.replicate ops.size false).getD j false = false := fun j => by
  by_cases h : j < ops.size
  ·simp [h]
  ·simp [h]
 refine wpAny_cj (E := []) hT ho hA hall m hend _ _ _ _ ⟨fun e he => (by cases he), by simp, fun j oj hj hl => ?_, fun j hj hl => ?_, fun j => (a.tmps.getD ((ops.getD j default).dst.getD 0) undef), ?_, ?_⟩ ?_ (by simp)
 ·have hlt := (Array.getElem?_eq_some_iff.1 hj).1
  simp [hlt] at hl
 ·rw [hrep] at hl; cases hl
 ·unfold fillA
  rw [fillL_same]
  intro q hq
  have h8 : (q.1, q.2) ∈ dstsOf ops := tB_in hT hq
  obtain ⟨o', h9, h10⟩ := of_mem_dstsOf h8
  have hlt := (Array.getElem?_eq_some_iff.1 h9).1
  have e : ops.getD q.2 default = o' := by
   obtain ⟨e1, e2⟩ := Array.getElem?_eq_some_iff.1 h9
   simp [e1, e2]
  show a.tmps.getD _ undef = _
  rw [e, h10]
  rfl
 ·have e : (fun j => (Array.replicate ops.size false).getD j false) = fun _ => false := funext hrep
  rw [e]
  exact h0 _
 ·have : (A.filter fun q => !(Array.replicate ops.size false).getD q.1 true) = A := by
   rw [List.filter_eq_self]
   intro q hq
   unfold cfB at hA
   rw [Bool.and_eq_true, Bool.and_eq_true, Bool.and_eq_true, List.all_eq_true] at hA
   have := hA.1.1.1 q hq
   simp at this
   simp [this.1]
  rw [this]
  omega
structure JJ (V : List (Nat × Value)) (s1 s2 : Nat) (w0 : World) (p1 : Value → World → Prop) (p2 : Value → Value → World → Prop) (d : Nat → Bool) (xs : Nat → Value) (w : World) : Prop where
 k : ∀ j v, ckLook V j = some v → d j = true → xs j = v
 a : d s1 = false → w = w0
 b : d s1 = true → d s2 = false → p1 (xs s1) w
 c : d s2 = true → p2 (xs s1) (xs s2) w
 e : d s2 = true → d s1 = true
section
variable {V : List (Nat × Value)} {s1 s2 : Nat} {w0 w w' : World} {p1 : Value → World → Prop} {p2 : Value → Value → World → Prop} {d : Nat → Bool} {xs : Nat → Value} {i : Nat} {v : Value}
theorem JJ.eqs (h : JJ V s1 s2 w0 p1 p2 d xs w) : ∀ (anc : List Nat), (∀ j ∈ anc, d j = true) → ckEqs V xs anc
 | [], _ => trivial
 | j :: r, hd => by
  have ih := h.eqs r fun k hk => hd k (List.mem_cons_of_mem _ hk)
  unfold ckEqs
  cases el : ckLook V j with
  | none => exact ih
  | some v => exact ⟨h.k j v el (hd j (List.mem_cons_self ..)), ih⟩
theorem JJ.all (h : JJ V s1 s2 w0 p1 p2 d xs w) {R : World → Prop} (h0 : R w0) (h1 : ∀ v w, p1 v w → R w) (h2 : ∀ v u w, p2 v u w → R w) : R w := by
 cases e1 : d s1 with
 | false => rw [h.a e1]; exact h0
 | true =>
  cases e2 : d s2 with
  | false => exact h1 _ _ (h.b e1 e2)
  | true => exact h2 _ _ _ (h.c e2)
theorem JJ.known (h : JJ V s1 s2 w0 p1 p2 d xs w) (h1 : s1 ≠ i) (h2 : s2 ≠ i) (hv : ckLook V i = some v) : JJ V s1 s2 w0 p1 p2 (fun k => if k = i then true else d k) (fun k => if k = i then v else xs k) w := by
 refine ⟨fun j u hu hd => ?_, fun hd => ?_, fun hd hd2 => ?_, fun hd => ?_, fun hd => ?_⟩
 ·show (if j = i then v else xs j) = u
  have hd' : (if j = i then true else d j) = true := hd
  by_cases e : j = i
  ·rw [if_pos e]
   rw [e, hv] at hu
   injection hu
  ·rw [if_neg e] at hd' ⊢
   exact h.k j u hu hd'
 ·have hd' : (if s1 = i then true else d s1) = false := hd
  rw [if_neg h1] at hd'
  exact h.a hd'
 ·have hd' : (if s1 = i then true else d s1) = true := hd
  have hd2' : (if s2 = i then true else d s2) = false := hd2
  rw [if_neg h1] at hd'
  rw [if_neg h2] at hd2'
  show p1 (if s1 = i then v else xs s1) w
  rw [if_neg h1]
  exact h.b hd' hd2'
 ·have hd' : (if s2 = i then true else d s2) = true := hd
  rw [if_neg h2] at hd'
  show p2 (if s1 = i then v else xs s1) (if s2 = i then v else xs s2) w
  rw [if_neg h1, if_neg h2]
  exact h.c hd'
 ·have hd' : (if s2 = i then true else d s2) = true := hd
  rw [if_neg h2] at hd'
  show (if s1 = i then true else d s1) = true
  rw [if_neg h1]
  exact h.e hd'
theorem JJ.one (h : JJ V s1 s2 w0 p1 p2 d xs w) (h12 : s1 ≠ s2) (hd1 : d s1 = false) (hV : ckLook V s1 = none) (hp : p1 v w') : JJ V s1 s2 w0 p1 p2 (fun k => if k = s1 then true else d k) (fun k => if k = s1 then v else xs k) w' := by
 have hd2 : d s2 = false := by
  cases hh : d s2 with
  | false => rfl
  | true => have := h.e hh; rw [hd1] at this; cases this
 have no : ∀ {R : Prop}, (if s2 = s1 then true else d s2) = true → R := fun hd => by
  rw [if_neg (Ne.symm h12), hd2] at hd
  cases hd
 refine ⟨fun j u hu hd => ?_, fun hd => ?_, fun _ _ => ?_, fun hd => no hd, fun hd => no hd⟩
 ·show (if j = s1 then v else xs j) = u
  have hd' : (if j = s1 then true else d j) = true := hd
  by_cases e : j = s1
  ·rw [e, hV] at hu; cases hu
  ·rw [if_neg e] at hd' ⊢
   exact h.k j u hu hd'
 ·have hd' : (if s1 = s1 then true else d s1) = false := hd
  rw [if_pos rfl] at hd'
  cases hd'
 ·show p1 (if s1 = s1 then v else xs s1) w'
  rw [if_pos rfl]
  exact hp
theorem JJ.two (h : JJ V s1 s2 w0 p1 p2 d xs w) (h12 : s1 ≠ s2) (hd1 : d s1 = true) (hV : ckLook V s2 = none) (hp : p2 (xs s1) v w') : JJ V s1 s2 w0 p1 p2 (fun k => if k = s2 then true else d k) (fun k => if k = s2 then v else xs k) w' := by
 refine ⟨fun j u hu hd => ?_, fun hd => ?_, fun _ hd => ?_, fun _ => ?_, fun _ => ?_⟩
 ·show (if j = s2 then v else xs j) = u
  have hd' : (if j = s2 then true else d j) = true := hd
  by_cases e : j = s2
  ·rw [e, hV] at hu; cases hu
  ·rw [if_neg e] at hd' ⊢
   exact h.k j u hu hd'
 ·have hd' : (if s1 = s2 then true else d s1) = false := hd
  rw [if_neg h12, hd1] at hd'
  cases hd'
 ·have hd' : (if s2 = s2 then true else d s2) = false := hd
  rw [if_pos rfl] at hd'
  cases hd'
 ·show p2 (if s1 = s2 then v else xs s1) (if s2 = s2 then v else xs s2) w'
  rw [if_neg h12, if_pos rfl]
  exact hp
 ·show (if s1 = s2 then true else d s1) = true
  rw [if_neg h12]
  exact hd1
theorem CjAll.kk {T : List (Nat × Nat)} {a : Act} {anc : List Nat} {r : List (Nat × List Nat)} {o : Oper} (ho : ops[i]? = some o) (hv : ckLook V i = some v) (h1 : s1 ≠ i) (h2 : s2 ≠ i)
  (h : ∀ (d : Nat → Bool) (xs : Nat → Value) (w : World), JJ V s1 s2 w0 p1 p2 d xs w → ckEqs V xs anc → ∀ K' : Act → World → Prop, Shut (∀ a', a' = (fillA T a xs).put o.dst v → K' a' w) →
    if Region.wanted o (yielded ops (fillA T a xs).tmps) = true then Oper.wp P o (fillA T a xs) w K' Q else K' ((fillA T a xs).put o.dst undef) w)
  (hr : CjAll P ops Q T a (JJ V s1 s2 w0 p1 p2) r) : CjAll P ops Q T a (JJ V s1 s2 w0 p1 p2) ((i, anc) :: r) :=
 ⟨fun o' ho' => by
  rw [ho] at ho'
  cases ho'
  intro d xs w hd ha hJ K' hK
  exact h d xs w hJ (hJ.eqs anc ha) K' fun a' e => hK a' v w e (hJ.known h1 h2 hv), hr⟩
end
end
end Go.Proofs.Ytmjccpfchhnfhaa
