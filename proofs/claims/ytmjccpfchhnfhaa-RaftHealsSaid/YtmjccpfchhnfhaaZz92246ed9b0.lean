/- Texts of the proofs, part 15: what the functions that they reach do, walked; no conditions beyond those that each states. -/
import Derived.Test.YtmjccpfchhnfhaaZzbd1e46fc50
set_option linter.unusedVariables false
set_option linter.unusedSimpArgs false
/- Terms: Term of any number, Newer, fits. -/
namespace Go.Proofs.Ytmjccpfchhnfhaa
open Go.RowKit
set_option linter.unusedVariables false
set_option linter.unusedSimpArgs false
theorem lbox (w : World) (b bt : Nat) (v : Value) : ∃ W, w.alloc (.cells #[.int .u64 (b : Nat), .int .u64 (bt : Nat), v] 37 (0, 0)) = W ∧ Hid (FT w W) ∧ Hid (W.heap[w.heap.size]? = some (.cells #[.int .u64 (b : Nat), .int .u64 (bt : Nat), v] 37 (0, 0))) ∧
  Hid (∀ W', FT W W' → W'.cell? ⟨w.heap.size, 0, none⟩ = some (.int .u64 (b : Nat)) ∧ W'.cell? ⟨w.heap.size, 1, none⟩ = some (.int .u64 (bt : Nat)) ∧ W'.cell? ⟨w.heap.size, 2, none⟩ = some v) :=
 ⟨_, rfl, (Fr.refl _ _).alloc _, heap_alloc_new w _, fun W' f => by
  have t := f.keep _ _ (heap_alloc_new w _) trivial
  exact ⟨cell_mk t rfl, cell_mk t rfl, cell_mk t rfl⟩⟩
abbrev lgE (b bt : Nat) (xs : List EV) : Lg := ⟨b, bt, xs.map EV.en⟩
theorem lgE_last (b bt : Nat) (xs : List EV) : (lgE b bt xs).last = b + xs.length := by unfold Lg.last; simp
theorem lgE_lastT (b bt : Nat) (xs : List EV) : (lgE b bt xs).lastT = lastTE bt xs := by
 unfold Lg.lastT lastTE
 show (((xs.map EV.en).getLast?.map _).getD bt) = _
 rw [List.getLast?_map, Option.map_map]
 rfl
theorem lgE_term_at (b bt i k : Nat) (xs : List EV) (hk : k < xs.length) (hi : i = b + 1 + k) : (lgE b bt xs).term i = (xs[k].t, true) := by
 obtain ⟨h', e⟩ := Lg.term_in (l := lgE b bt xs) (i := i) ⟨by show b < i; omega, by rw [lgE_last]; omega⟩
 rw [e]
 have e2 : i - (lgE b bt xs).base - 1 = k := by show i - b - 1 = k; omega
 simp only [e2]
 show (((xs.map EV.en)[k]'(by simpa using hk)).t, true) = _
 rw [List.getElem_map]
 rfl
set_option maxRecDepth 100000 in
theorem tterm_out (w : World) (b bt i : Nat) (a : Option Addr) (n c : Nat) (h : b + n < 18446744073709551616) (hi : i < b ∨ b + n < i) :
  Calls Try.prog 55 #[vL b bt (.slice a n c), .int .u64 (i : Nat)] w fun e w' => e = .returned (.tuple #[.int .u64 0, .bool false]) ∧ FT w w' := by
 obtain ⟨W1, hW1, F1, X1, CC⟩ := lbox w b bt (.slice a n c)
 obtain ⟨x0, x1, x2⟩ := CC W1 (Fr.refl _ _)
 have hne : ((i : Int) == (b : Int)) = false := by simp; omega
 have EC := Lib.hid (tentry_no W1 b bt i a n c h (by omega))
 unfold vL vE zEV at EC
 unfold vL
 clear h hi
 go_enter Try.func55, Try.ntmps55
 go_wp2_with fail
 try rw [hW1]
 (with_reducible refine EC.out.mono ?_)
 rintro e w2 ⟨rfl, f2⟩
 have F2 := Lib.hid (F1.trans f2)
 obtain ⟨W3, hW3⟩ : ∃ W, w2.alloc (.cells #[.int .u64 0, .int .i64 0, .slice none 0 0] 68 (0, 0)) = W := ⟨_, rfl⟩
 have F3 : Hid (FT w W3) := hW3 ▸ F2.out.alloc _
 have X3 : Hid (W3.heap[w2.heap.size]? = some (.cells #[.int .u64 0, .int .i64 0, .slice none 0 0] 68 (0, 0))) := hW3 ▸ heap_alloc_new w2 _
 have y0 := frozen_mk (i := 0) X3
 have y1 := frozen_mk (i := 1) X3
 have y2 := frozen_mk (i := 2) X3
 have q0 := cell_mk (i := 0) X3 rfl
 have q1 := cell_mk (i := 1) X3 rfl
 have q2 := cell_mk (i := 2) X3 rfl
 obtain ⟨WZ, hWZ, TZ, FZ⟩ := set3 X3 (.int .u64 0) (.int .i64 0) (.slice none 0 0)
 have p0 := cell_mk (i := 0) TZ rfl
 have FZH := Lib.hid FZ
 have SZ : Hid (w.heap.size ≤ w2.heap.size) := F2.size
 clear f2 EC TZ FZ
 go_wp2
 try rw [hW3]
 try rw [hWZ]
 go_ret2
 exact ⟨rfl, Fr.within ((F3.out.tT).trans (FZH.out.mono fun c _ h e => by have := h.2; have := SZ.out; omega))⟩
theorem tterm_calls {K : Nat → Obj → Prop} (w : World) (b bt i : Nat) (a : Option Addr) (n c : Nat) (xs : List EV) (hx : RowsAt K w (.slice a n c) 3 encE xs) (h : b + n < 18446744073709551616) :
  Calls Try.prog 55 #[vL b bt (.slice a n c), .int .u64 (i : Nat)] w fun e w' => e = .returned (.tuple #[.int .u64 (((lgE b bt xs).term i).1 : Nat), .bool ((lgE b bt xs).term i).2]) ∧ FT w w' := by
 have hn := hx.len'
 by_cases h0 : i = b
 ·subst h0
  rw [show (lgE i bt xs).term i = (bt, true) from Lg.term_base _]
  exact tterm_base w i bt a n c
 ·by_cases h1 : b < i ∧ i ≤ b + n
  ·have hk : i - b - 1 < xs.length := by omega
   rw [lgE_term_at b bt i (i - b - 1) xs hk (by omega)]
   exact tterm_at w b bt i (i - b - 1) a n c xs hx hn.symm h hk (by omega)
  ·rw [Lg.term_out (l := lgE b bt xs) (i := i) (by rw [lgE_last]; show i < b ∨ _; omega)]
   exact tterm_out w b bt i a n c h (by omega)
set_option maxRecDepth 100000 in
theorem tnewer_calls {K : Nat → Obj → Prop} (w : World) (b bt t i : Nat) (a : Option Addr) (n c : Nat) (xs : List EV) (hx : RowsAt K w (.slice a n c) 3 encE xs) (h : b + n < 18446744073709551616) :
    Calls Try.prog 29 #[vL b bt (.slice a n c), .int .u64 (t : Nat), .int .u64 (i : Nat)] w fun e w' => e = .returned (.bool ((lgE b bt xs).newer t i)) ∧ FT w w' := by
  have hn := hx.len'
  unfold Lg.newer
  rw [lgE_last, lgE_lastT, ← hn]
  obtain ⟨W1, hW1, F1, X1, CC⟩ := lbox w b bt (.slice a n c)
  obtain ⟨x0, x1, x2⟩ := CC W1 (Fr.refl _ _)
  have TC := Lib.hid (tlastT_calls W1 b bt a n c xs (hx.tt F1) hn.symm h)
  have LC := Lib.hid (fun W => tlast_calls W b bt a n c h)
  obtain ⟨l, hl⟩ : ∃ l, b + n = l := ⟨_, rfl⟩
  generalize lastTE bt xs = o at TC ⊢
  rw [hl] at LC ⊢
  unfold vL at TC LC ⊢
  clear hx h hn hl
  by_cases h1 : o < t
  · have g1 : decide (o < t) = true := decide_eq_true h1
    rw [decide_eq_true h1]
    clear h1
    go_enter Try.func29, Try.ntmps29
    go_wp2_with fail
    try rw [hW1]
    (with_reducible refine TC.out.mono ?_)
    rintro e w2 ⟨rfl, f2⟩
    have F2 := Lib.hid (F1.trans f2)
    obtain ⟨y0, y1, y2⟩ := CC w2 f2
    clear f2 TC x0 x1 x2
    go_wp2
    go_ret
    exact ⟨rfl, F2⟩
  · have g1 : decide (o < t) = false := decide_eq_false h1
    rw [decide_eq_false h1]
    by_cases h2 : t = o
    · subst h2
      have g2 : ((t : Int) == (t : Int)) = true := by simp
      rw [decide_eq_true rfl]
      by_cases h3 : l ≤ i
      all_goals
        first
          | (have g3 : decide (l ≤ i) = true := decide_eq_true h3
             rw [decide_eq_true h3])
          | (have g3 : decide (l ≤ i) = false := decide_eq_false h3
             rw [decide_eq_false h3])
        clear h3 h1
        go_enter Try.func29, Try.ntmps29
        go_wp2_with fail
        try rw [hW1]
        (with_reducible refine TC.out.mono ?_)
        rintro e w2 ⟨rfl, f2⟩
        have F2 := Lib.hid (F1.trans f2)
        obtain ⟨y0, y1, y2⟩ := CC w2 f2
        clear f2 TC x0 x1 x2
        go_wp2_with fail
        (with_reducible refine (LC.out _).mono ?_)
        rintro e w3 ⟨rfl, f3⟩
        have F3 := Lib.hid (F2.trans f3)
        clear f3 LC
        go_wp2
        go_ret
        exact ⟨rfl, F3⟩
    · have g2 : ((t : Int) == (o : Int)) = false := by simp; omega
      rw [decide_eq_false h2]
      clear h1 h2
      go_enter Try.func29, Try.ntmps29
      go_wp2_with fail
      try rw [hW1]
      (with_reducible refine TC.out.mono ?_)
      rintro e w2 ⟨rfl, f2⟩
      have F2 := Lib.hid (F1.trans f2)
      obtain ⟨y0, y1, y2⟩ := CC w2 f2
      clear f2 TC x0 x1 x2
      go_wp2
      go_ret
      exact ⟨rfl, F2⟩
set_option maxRecDepth 100000 in
theorem tfits_calls {K : Nat → Obj → Prop} (w : World) (b bt p pt m : Nat) (a : Option Addr) (n c : Nat) (xs : List EV) (hx : RowsAt K w (.slice a n c) 3 encE xs) (h : b + n < 18446744073709551616) (hp : p + m < 18446744073709551616) (hm : m ≤ 1000000) :
    Calls Try.prog 62 #[vL b bt (.slice a n c), .int .u64 (p : Nat), .int .u64 (pt : Nat), .int .i64 (m : Nat)] w fun e w' => e = .returned (.int .i64 ((lgE b bt xs).fits p pt m)) ∧ FT w w' := by
  have hn := hx.len'
  obtain ⟨W1, hW1, F1, X1, CC⟩ := lbox w b bt (.slice a n c)
  obtain ⟨x0, x1, x2⟩ := CC W1 (Fr.refl _ _)
  have LC := Lib.hid (tlast_calls W1 b bt a n c h)
  have TC := Lib.hid (fun W (f : FT W1 W) => tterm_calls W b bt p a n c xs ((hx.tt F1).tt f) h)
  unfold Lg.fits
  rw [lgE_last, ← hn]
  show Calls _ _ _ _ fun e w' => e = .returned (.int .i64 (if b + n < p then 60 else if p < b then (if p + m ≤ b then 61 else 0) else if ((lgE b bt xs).term p).1 = pt then 0 else 60)) ∧ _
  generalize (lgE b bt xs).term p = T at TC ⊢
  obtain ⟨l, hl⟩ : ∃ l, b + n = l := ⟨_, rfl⟩
  rw [hl] at LC ⊢
  unfold vL at TC LC ⊢
  have w1 : IntKind.u64.wrap (m : Int) = (m : Int) := by rw [IntKind.wrap_u64]; omega
  have w2 : IntKind.u64.wrap ((p : Int) + (m : Int)) = ((p + m : Nat) : Int) := by rw [IntKind.wrap_u64]; omega
  clear hx h hn hp hm
  by_cases h1 : l < p
  · have g1 : (l : Int) < (p : Int) := by omega
    rw [if_pos h1]
    clear h1 hl
    go_enter Try.func62, Try.ntmps62
    go_wp2_with fail
    try rw [hW1]
    (with_reducible refine LC.out.mono ?_)
    rintro e w2 ⟨rfl, f2⟩
    have F2 := Lib.hid (F1.trans f2)
    clear f2 LC x0 x1 x2
    go_wp2
    go_ret
    exact ⟨rfl, F2⟩
  · have g1 : ¬ (l : Int) < (p : Int) := by omega
    rw [if_neg h1]
    by_cases h2 : p < b
    · have g2 : (p : Int) < (b : Int) := by omega
      rw [if_pos h2]
      clear h1 hl h2
      by_cases h3 : p + m ≤ b
      all_goals
        first
          | (have g3 : ((p + m : Nat) : Int) ≤ (b : Int) := by omega
             rw [if_pos h3])
          | (have g3 : ¬ ((p + m : Nat) : Int) ≤ (b : Int) := by omega
             rw [if_neg h3])
        clear h3
        generalize p + m = z at w2 g3
        go_enter Try.func62, Try.ntmps62
        go_wp2_with fail
        try rw [hW1]
        (with_reducible refine LC.out.mono ?_)
        rintro e w2 ⟨rfl, f2⟩
        have F2 := Lib.hid (F1.trans f2)
        obtain ⟨y0, y1, y2⟩ := CC w2 f2
        clear f2 LC x0 x1 x2
        go_wp2
        go_ret
        exact ⟨rfl, F2⟩
    · have g2 : ¬ (p : Int) < (b : Int) := by omega
      rw [if_neg h2]
      clear h1 hl h2
      obtain ⟨T1, T2⟩ := T
      dsimp only at TC ⊢
      by_cases h3 : T1 = pt
      all_goals
        first
          | (have g3 : ((T1 : Int) != (pt : Int)) = false := by simp; omega
             rw [if_pos h3])
          | (have g3 : ((T1 : Int) != (pt : Int)) = true := by simp; omega
             rw [if_neg h3])
        clear h3
        go_enter Try.func62, Try.ntmps62
        go_wp2_with fail
        try rw [hW1]
        (with_reducible refine LC.out.mono ?_)
        rintro e w2 ⟨rfl, f2⟩
        have F2 := Lib.hid (F1.trans f2)
        obtain ⟨y0, y1, y2⟩ := CC w2 f2
        have TD := Lib.hid (TC _ f2)
        clear f2 LC x0 x1 x2
        go_wp2_with fail
        (with_reducible refine TD.out.mono ?_)
        rintro e w3 ⟨rfl, f3⟩
        have F3 := Lib.hid (F2.trans f3)
        clear f3 TD TC
        go_wp2
        go_ret
        exact ⟨rfl, F3⟩
end Go.Proofs.Ytmjccpfchhnfhaa
/- Slice of a log, sharper (printed by tslice2.py out of XFs2). -/
namespace Go.Proofs.Ytmjccpfchhnfhaa
open Go.RowKit
set_option linter.unusedVariables false
set_option linter.unusedSimpArgs false
theorem clone_en2 {K : Nat → Obj → Prop} (w : World) (v : Value) (xs : List EV) (h : RowsAt K w v 3 encE xs) (hm : xs.length ≤ 1000000) :
  Calls Try.prog 77 #[v] w fun e w' => (∃ a c, e = .returned (.slice a xs.length c) ∧ RowsAt (fun c o => w.heap.size ≤ c ∧ ∃ cs, o = Obj.cells cs 68 (0, 0)) w' (.slice a xs.length c) 3 encE xs ∧ (a = none → c = 0)) ∧ FT w w' := by
 obtain ⟨a, c, rfl, _⟩ := h.form
 cases a with
 | none =>
  have e : xs = [] := by
   rcases Nat.eq_zero_or_pos xs.length with q | q
   ·exact List.length_eq_zero_iff.1 q
   ·obtain ⟨b, off, o, e, _⟩ := h.spot q
    cases e
  subst e
  exact (clone_en_nil w _ _).mono fun e w' ⟨he, hw⟩ => ⟨⟨none, 0, he, RowsAt.nil _ _ _ _, fun _ => rfl⟩, hw ▸ Fr.refl _ _⟩
 | some ad =>
  refine (clone_en_some w ad _ c _ (h.src encE_len (by decide) encE_oneC) hm).mono fun e w' ⟨⟨v, he, ho⟩, hf⟩ => ?_
  have r := rows_own ho encE_len
  obtain ⟨a', c', rfl, _⟩ := r.form
  refine ⟨⟨a', c', he, r, fun e0 => ?_⟩, hf⟩
  subst e0
  rcases ho.2 with ⟨e1, _⟩ | ⟨g, cap, cur, e1, _⟩
  ·rw [Value.slice.injEq] at e1; exact e1.2.2
  ·rw [Value.slice.injEq] at e1; exact absurd e1.1 (by simp)
set_option maxRecDepth 100000 in
set_option maxHeartbeats 4000000 in
theorem tslice2_calls {K : Nat → Obj → Prop} (w : World) (b bt i most : Nat) (a : Option Addr) (n c : Nat) (xs : List EV) (hx : RowsAt K w (.slice a n c) 3 encE xs) (hm : xs.length ≤ 1000000) (hmo : 1 ≤ most) (hmo2 : most ≤ 1000000) (hb : b + xs.length < 18446744073709551616) (hi : i < 18446744073709551616) :
  Calls Try.prog 71 #[vL b bt (.slice a n c), .int .u64 (i : Nat), .int .i64 (most : Nat)] w fun e w' => (∃ a' c', e = .returned (.slice a' (if b < i ∧ i ≤ b + xs.length then (xs.drop (i - b - 1)).take most else []).length c') ∧ RowsAt (fun c o => w.heap.size ≤ c ∧ ∃ cs, o = Obj.cells cs 68 (0, 0)) w' (.slice a' (if b < i ∧ i ≤ b + xs.length then (xs.drop (i - b - 1)).take most else []).length c') 3 encE (if b < i ∧ i ≤ b + xs.length then (xs.drop (i - b - 1)).take most else []) ∧ (a' = none → c' = 0)) ∧ FT w w' := by
 have hnl := hx.len'
 subst hnl
 obtain ⟨W1, hW1⟩ : ∃ W, w.alloc (.cells #[.int .u64 (b : Nat), .int .u64 (bt : Nat), .slice a xs.length c] 37 (0, 0)) = W := ⟨_, rfl⟩
 have F1 : Hid (FT w W1) := hW1 ▸ (Fr.refl _ _).alloc _
 have X1 : Hid (W1.heap[w.heap.size]? = some (.cells #[.int .u64 (b : Nat), .int .u64 (bt : Nat), .slice a xs.length c] 37 (0, 0))) := hW1 ▸ heap_alloc_new w _
 have p0 := cell_mk (i := 0) X1 rfl
 have p1 := cell_mk (i := 1) X1 rfl
 have p2 := cell_mk (i := 2) X1 rfl
 have HC := Lib.hid (thas_calls W1 b bt i a xs.length c hb)
 by_cases h : b < i ∧ i ≤ b + xs.length
 ·rw [decide_eq_true h] at HC
  rw [if_pos h]
  obtain ⟨k, hk⟩ : ∃ k, i - b - 1 = k := ⟨_, rfl⟩
  rw [hk]
  have hkx : k ≤ xs.length := by omega
  obtain ⟨L, hL⟩ : ∃ L, xs.length = L := ⟨_, rfl⟩
  have R1 := (hx.tt F1).dropS hkx
  rw [hL] at R1 HC hkx hb hm h hW1 p2 X1
  obtain ⟨ad, had⟩ : ∃ x, subS a c k 3 = x := ⟨_, rfl⟩
  rw [had] at R1
  have hdl : (xs.drop k).length = L - k := by rw [List.length_drop, hL]
  have hcap := hx.form
  have hLc : L ≤ c := by obtain ⟨_, _, e, q⟩ := hx.form; cases e; rw [← hL]; exact q
  obtain ⟨q, hq⟩ : ∃ q, L - k = q := ⟨_, rfl⟩
  obtain ⟨cc, hcc⟩ : ∃ x, c - k = x := ⟨_, rfl⟩
  rw [hq, hcc] at R1
  have hqc : q ≤ cc := by omega
  have hq1 : 1 ≤ q := by omega
  have hs1 : ∀ w : World, (Instr.slice 35 (.slice a L c) (some (.int .u64 (k : Nat))) none none).run Try.prog w = .ok (.slice ad q cc) w := fun w => by
   rw [run_sliceF 3 Try.underlying35 size_enS w a L c k .u64 hkx, had, hq, hcc]
  have w1 : IntKind.u64.wrap ((i : Int) - (b : Int)) = ((i - b : Nat) : Int) := by rw [IntKind.wrap_u64]; omega
  have w2 : IntKind.u64.wrap (((i - b : Nat) : Int) - 1) = ((k : Nat) : Int) := by rw [IntKind.wrap_u64]; omega
  have HR := Lib.hid (show min most q = ((xs.drop k).take most).length by rw [List.length_take, hdl, hq])
  obtain ⟨mm, hmm⟩ : ∃ x, min most q = x := ⟨_, rfl⟩
  have hm1 : mm ≤ q := by omega
  have hmi : min (most : Int) (q : Int) = (mm : Int) := by omega
  have hs2 : ∀ w : World, (Instr.slice 35 (.slice ad q cc) none (some (.int .i64 (mm : Nat))) none).run Try.prog w = .ok (.slice ad mm cc) w := fun w => run_sliceS 3 Try.underlying35 size_enS w ad q cc mm .i64 (by omega)
  have R2 := R1.takeS (m := mm) (by rw [hdl, hq]; exact hm1)
  have e2 : (xs.drop k).take mm = (xs.drop k).take most := by
   rw [← hmm]
   rcases Nat.le_total most q with z | z
   ·rw [Nat.min_eq_left z]
   ·rw [Nat.min_eq_right z, List.take_of_length_le (by rw [hdl, hq]; exact Nat.le_refl _), List.take_of_length_le (by rw [hdl, hq]; exact z)]
  rw [e2] at R2
  have RH := Lib.hid R2
  have hml : ((xs.drop k).take most).length ≤ 1000000 := by rw [List.length_take]; omega
  generalize (xs.drop k).take most = ys at RH hml HR R2
  rw [hmm] at HR
  rw [hL]
  have HW1 := Lib.hid hW1
  have m1 : decide ((most : Int) < 1) = false := by simp; omega
  clear hx R1 R2 hW1 e2 hdl hcap hL h hb
  unfold vL at HC ⊢
  go_enter Try.func71, Try.ntmps71
  go_wp2_with fail
  try rw [HW1.out]
  (with_reducible refine HC.out.mono ?_)
  rintro e w2 ⟨rfl, f2⟩
  have F2 := Lib.hid (F1.trans f2)
  have X2 := f2.keep _ _ X1 trivial
  have CC := Lib.hid (clone_en2 w2 (.slice ad mm cc) ys (by have := RH.out.tt f2; exact this) hml)
  clear p0 p1 p2
  have p0 := cell_mk (i := 0) X2 rfl
  have p1 := cell_mk (i := 1) X2 rfl
  have p2 := cell_mk (i := 2) X2 rfl
  have SZ : Hid (w.heap.size ≤ w2.heap.size) := F2.size
  clear f2 X2 HC
  clear hkx had hq hcc hqc hq1 hLc hm hml hk hm1 hmi F1 X1 HW1 HR
  have fin : ∀ e w', ((∃ a c, e = Ending.returned (.slice a ys.length c) ∧ RowsAt (fun c o => w2.heap.size ≤ c ∧ ∃ cs, o = Obj.cells cs 68 (0, 0)) w' (.slice a ys.length c) 3 encE ys ∧ (a = none → c = 0)) ∧ FT w2 w') → (∃ a' c', e = Ending.returned (.slice a' ys.length c') ∧ RowsAt (fun c o => w.heap.size ≤ c ∧ ∃ cs, o = Obj.cells cs 68 (0, 0)) w' (.slice a' ys.length c') 3 encE ys ∧ (a' = none → c' = 0)) ∧ FT w w' := fun e w' hh => by
   obtain ⟨⟨a', c', e1, e2, e4⟩, e3⟩ := hh
   exact ⟨⟨a', c', e1, e2.mono fun c _ _ hc => ⟨Nat.le_trans SZ hc.1, hc.2⟩, e4⟩, F2.trans e3⟩
  have FIN := Lib.hid fin
  clear fin
  rcases Nat.lt_or_ge q most with z | z
  rotate_left
  ·have z1 : (most : Int) ≤ (q : Int) := by omega
   have z2 : mm = most := by omega
   subst z2
   clear hmm z
   go_wp2_with fail
   (with_reducible refine CC.out.mono ?_)
   rintro e w3 hh
   obtain ⟨⟨a3, c3, rfl, r3, z3⟩, f3⟩ := FIN _ _ hh
   have R3 := Lib.hid r3
   have Z3 := Lib.hid z3
   have F3 := Lib.hid f3
   clear hh r3 z3 f3 CC FIN
   go_wp2
   go_ret
   exact ⟨⟨_, _, rfl, R3, Z3⟩, F3⟩
  ·have z1 : ¬ (most : Int) ≤ (q : Int) := by omega
   have z5 : (q : Int) < (most : Int) := by omega
   have z2 : mm = q := by omega
   subst z2
   clear hmm z
   go_wp2_with fail
   (with_reducible refine CC.out.mono ?_)
   rintro e w3 hh
   obtain ⟨⟨a3, c3, rfl, r3, z3⟩, f3⟩ := FIN _ _ hh
   have R3 := Lib.hid r3
   have Z3 := Lib.hid z3
   have F3 := Lib.hid f3
   clear hh r3 z3 f3 CC FIN
   go_wp2
   go_ret
   exact ⟨⟨_, _, rfl, R3, Z3⟩, F3⟩
 ·rw [decide_eq_false h] at HC
  rw [if_neg h]
  clear hx hb hm
  have HW1 := Lib.hid hW1
  clear hW1
  have m1 : decide ((most : Int) < 1) = false := by simp; omega
  unfold vL at HC ⊢
  go_enter Try.func71, Try.ntmps71
  go_wp2_with fail
  try rw [HW1.out]
  (with_reducible refine HC.out.mono ?_)
  rintro e w2 ⟨rfl, f2⟩
  have F2 := Lib.hid (F1.trans f2)
  go_wp2
  go_ret
  exact ⟨⟨none, 0, rfl, RowsAt.nil _ _ _ _, fun _ => rfl⟩, F2⟩
theorem tsliceE_calls [Old] {X : Nat → Prop} (w : World) (b bt i most : Nat) (a : Option Addr) (n c : Nat) (xs : List EV) (hx : EsAt X w (.slice a n c) xs) (hm : n ≤ 1000000) (hmo : 1 ≤ most) (hmo2 : most ≤ 1000000) (hb : b + n < 18446744073709551616) (hi : i < 18446744073709551616) (hX : ∀ c, X c → c < w.heap.size) :
  Calls Try.prog 71 #[vL b bt (.slice a n c), .int .u64 (i : Nat), .int .i64 (most : Nat)] w fun e w' => (∃ a' c' ys, e = .returned (.slice a' ys.length c') ∧ EsAt X w' (.slice a' ys.length c') ys ∧ ys.map EV.en = (⟨b, bt, xs.map EV.en⟩ : Lg).slice i most) ∧ FT w w' := by
 have hl := hx.row.len'
 refine (tslice2_calls w b bt i most a n c xs hx.row (by omega) hmo hmo2 (by omega) hi).mono fun e w' ⟨⟨a', c', h1, h2, h3⟩, hf⟩ => ⟨⟨a', c', _, h1, ⟨h2.mono fun c o _ hc => ⟨fun h => ?_, ?_⟩, fun n2 c2 e2 => ?_, fun x hx2 => ?_⟩, ?_⟩, hf⟩
 ·have := hX c h
  have := hc.1
  omega
 ·obtain ⟨cs, e⟩ := hc.2
  exact .inr ⟨cs, _, _, e, by decide⟩
 ·rw [Value.slice.injEq] at e2
  rw [← e2.2.2]
  exact h3 e2.1
 ·have hin : x ∈ xs := by
   split at hx2
   ·exact List.mem_of_mem_drop (List.mem_of_mem_take hx2)
   ·cases hx2
  exact ⟨(hx.dat x hin).1.tt hf, (hx.dat x hin).2⟩
 ·unfold Lg.slice Lg.has Lg.last
  simp only [List.length_map]
  by_cases q : b < i ∧ i ≤ b + xs.length
  ·rw [if_pos q, if_pos (by simpa using q), List.map_take, List.map_drop]
  ·rw [if_neg q, if_neg (by simpa using q)]
   rfl
end Go.Proofs.Ytmjccpfchhnfhaa
