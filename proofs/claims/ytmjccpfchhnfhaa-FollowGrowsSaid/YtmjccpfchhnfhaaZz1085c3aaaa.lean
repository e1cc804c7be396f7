/- Texts of the proofs, part 12: what the functions that they reach do, walked; no conditions beyond those that each states. -/
import Derived.ArgAppend
import Derived.Test.YtmjccpfchhnfhaaZzb3ca278682
set_option linter.unusedVariables false
set_option linter.unusedSimpArgs false
/- Appends of entries, messages, ints to rows of one's own (printed by appends.py). -/
namespace Go.Proofs.Ytmjccpfchhnfhaa
open Go.RowKit
set_option linter.unusedVariables false
set_option linter.unusedSimpArgs false

theorem info_msg : (Try.prog.info? 74).map (fun i => (i.zero, i.size, i.bytes)) = some (some (.agg #[.int .i64 0, .int .i64 0, .int .i64 0, .int .u64 0, .int .u64 0, .int .u64 0, .int .u64 0, .bool false, .slice none 0 0, .slice none 0 0]), 10, 112) := by kernel_rfl
theorem rows_oneM {w : World} {b : Nat} {m : MV} (h : w.heap[b]? = some (.cells #[.int .i64 m.kind, .int .i64 m.src, .int .i64 m.dst, natN m.tm, natN m.index, natN m.prev, natN m.commit, .bool m.ok, .slice m.da m.d.length m.dc, .slice m.ea m.es.length m.ec] 74 (0, 0))) : RowsAt (fun c _ => c = b) w (.slice (some ⟨b, 0, none⟩) 1 1) 10 encM [m] := by
  refine ⟨_, 1, rfl, by simp, .inr ⟨b, 0, _, rfl, h, rfl, fun i hi j u hu => ?_⟩⟩
  obtain rfl : i = 0 := by simpa using hi
  rw [Nat.zero_mul, Nat.add_zero, Nat.zero_add]
  refine cell_mk h ?_
  rw [← hu]
  unfold encM
  simp
def encI (x : Int) : List Value := [.int .i64 x]
theorem encI_len (x : Int) : (encI x).length = 1 := rfl
theorem encI_one (x : Int) : ∀ u ∈ encI x, u.oneCell' = true := fun u hu => by rw [List.mem_singleton.1 hu]; rfl
theorem encI_flat : ∀ (xs : List Int), xs.flatMap encI = xs.map intV
  | [] => rfl
  | x :: xs => by rw [List.flatMap_cons, encI_flat xs]; rfl
theorem rows_oneI {w : World} {b : Nat} {x : Int} (h : w.heap[b]? = some (.cells #[.int .i64 x] 3 (0, 0))) : RowsAt (fun c _ => c = b) w (.slice (some ⟨b, 0, none⟩) 1 1) 1 encI [x] := by
  refine ⟨_, 1, rfl, by simp, .inr ⟨b, 0, _, rfl, h, rfl, fun i hi j u hu => ?_⟩⟩
  obtain rfl : i = 0 := by simpa using hi
  have hj : j = 0 := by have := (List.getElem?_eq_some_iff.1 hu).1; simp [encI] at this; omega
  subst hj
  refine cell_mk h ?_
  rw [← hu]
  rfl
theorem wp_append_rows2 {α : Type} {enc : α → List Value} {P : Program} {K0 : Nat → Obj → Prop} {o : Oper} {a : Act} {K : Act → World → Prop} {Q : Exit → Act → World → Prop} (W : World) (s x : Operand) (t e : TypeId)
    (ho : o.op = .call { callee := .builtin .append, args := #[s, x], argTypes := #[t, t] }) (B : Nat) (hB : B ≤ W.heap.size) (i : TypeInfo) (z : Value) (size bytes : Nat) (ht : P.underlying t = some (.slice e)) (hi : P.info? e = some i) (hz : i.zero = some z)
    (hsize : i.size = size) (hby : i.bytes = bytes) (hzs : z.cells.size = size) (hsz : 0 < size) (hb32 : bytes ≤ 128) (hk : ∀ x, (enc x).length = size) (h1 : ∀ x, ∀ u ∈ enc x, u.oneCell' = true)
    (v : Value) (n : Nat) (T : List α) (hs : a.eval s = v) (hown : W.ownsRow B e size v n (T.flatMap enc)) (vx : Value) (ys : List α) (hx : a.eval x = vx) (hvx : RowsAt K0 W vx size enc ys)
    (R : List α) (hR : T ++ ys = R) (N : Nat) (hN : n + ys.length = N) (hn : N ≤ 1000000)
    (h : ∀ g c w', w'.ownsRow B e size (.slice g N c) N (R.flatMap enc) → W.grownBy w' v.ownBlock → OwnNext W v (.slice g N c) → K (a.put o.dst (.slice g N c)) w') : o.wp P a W K Q := by
  subst hR hN
  have hcont : ∀ v' w', w'.ownsRow B e size v' (n + ys.length) (T.flatMap enc ++ ys.flatMap enc) → W.grownBy w' v.ownBlock → OwnNext W v v' → K (a.put o.dst v') w' := fun v' w' q1 q2 q3 => by
    obtain ⟨g, c, rfl⟩ := own_form q1
    exact h g c w' (by rw [List.flatMap_append]; exact q1) q2 q3
  obtain ⟨ax, cx, rfl, _⟩ := hvx.form
  by_cases h0 : ys.length = 0
  · have e0 := List.length_eq_zero_iff.1 h0
    subst e0
    have hrun := run_append_zero (P := P) (w := W) B t o.type e i size ht hi v n _ hown ax cx
    unfold Oper.wp execOp
    simp only [List.length_nil] at hx
    simp only [ho, resolve, invoke, builtin, Sem.run_bind, Sem.run_pure, Result.andThen_ok, List.map_toArray, List.map_cons, List.map_nil, hs, hx, hrun]
    exact hcont v W (by simpa using hown) ⟨rfl, rfl, rfl, Nat.le_refl _, fun _ _ _ => rfl⟩ (.inl rfl)
  · obtain ⟨b, off, ob, rfl, _⟩ := hvx.spot (by omega)
    rcases RowsAt.src hk hsz h1 hvx with ⟨he, _⟩ | ⟨ad, c, he, hl, hc, ho1⟩
    · cases he
    · cases he
      have hbb : (n + ys.length) * bytes ≤ 1000000 * 128 := Nat.mul_le_mul hn hb32
      exact wp_append_own2 W s x t ho B e i z size bytes ht hi hz hsize hby hzs hsz v n _ hs hown _ ys.length _ _ hx hl hc ho1 (by unfold maxLen; omega) (by omega) hB hcont

theorem step_append_mss {K0 : Nat → Obj → Prop} {o : Oper} {a : Act} {K : Act → World → Prop} {Q : Exit → Act → World → Prop} (W0 W : World) (hF : Hid (Fr (fun _ _ => True) W0 W)) (s x : Operand)
    (ho : o.op = .call { callee := .builtin .append, args := #[s, x], argTypes := #[28, 28] }) (v : Value) (T : List MV) (hs : a.eval s = v) (hown : Hid (W.ownsRow W0.heap.size 74 10 v T.length (T.flatMap encM)))
    (vx : Value) (ys : List MV) (hx : a.eval x = vx) (hvx : Hid (RowsAt K0 W vx 10 encM ys)) (R : List MV) (hR : Hid (T ++ ys = R)) (N : Nat) (hN : Hid (R.length = N)) (hn : N ≤ 1000000)
    (h : ∀ g c w', Hid (w'.ownsRow W0.heap.size 74 10 (.slice g N c) N (R.flatMap encM)) → Hid (Fr (fun _ _ => True) W0 w') → Hid (Fr (fun b _ => v.ownBlock ≠ some b) W w') → Hid (OwnNext W v (.slice g N c)) → K (a.put o.dst (.slice g N c)) w') : o.wp Try.prog a W K Q := by
  obtain ⟨i0, hi, hz0, hz1, hz2⟩ := info_parts info_msg
  have e2 : T.length + ys.length = N := by rw [← hN.out, ← hR.out, List.length_append]
  exact wp_append_rows2 W s x 28 74 ho W0.heap.size hF.out.size i0 _ 10 112 Try.underlying28 hi hz0 hz1 hz2 (by decide) (by decide) (by decide) encM_len encM_one v T.length T hs hown.out vx ys hx hvx.out R hR.out N e2 hn fun g c w' h1 h2 h3 => h g c w' h1 (hF.out.grown_new h2 (own_new hown.out)) (.of_grown h2 fun k o e _ hk => hk e) h3
theorem wpList_append_mss {K0 : Nat → Obj → Prop} {ops : Array Oper} {rest : List Oper} {o : Oper} {a : Act} {Q : Exit → Act → World → Prop} (W0 W : World) (hF : Hid (Fr (fun _ _ => True) W0 W)) (hgd : o.guard = none) (s x : Operand)
    (ho : o.op = .call { callee := .builtin .append, args := #[s, x], argTypes := #[28, 28] }) (v : Value) (T : List MV) (hs : a.eval s = v) (hown : Hid (W.ownsRow W0.heap.size 74 10 v T.length (T.flatMap encM)))
    (vx : Value) (ys : List MV) (hx : a.eval x = vx) (hvx : Hid (RowsAt K0 W vx 10 encM ys)) (R : List MV) (hR : Hid (T ++ ys = R)) (N : Nat) (hN : Hid (R.length = N)) (hn : N ≤ 1000000)
    (h : ∀ g c w', Hid (w'.ownsRow W0.heap.size 74 10 (.slice g N c) N (R.flatMap encM)) → Hid (Fr (fun _ _ => True) W0 w') → Hid (Fr (fun b _ => v.ownBlock ≠ some b) W w') → Hid (OwnNext W v (.slice g N c)) → wpList Try.prog ops Q rest (a.put o.dst (.slice g N c)) w') :
    wpList Try.prog ops Q (o :: rest) a W :=
  wpList_plain hgd fun _ hK => step_append_mss W0 W hF s x ho v T hs hown vx ys hx hvx R hR N hN hn fun g c w' h1 h2 h3 h4 => hK _ _ (h g c w' h1 h2 h3 h4)

theorem step_append_ins {K0 : Nat → Obj → Prop} {o : Oper} {a : Act} {K : Act → World → Prop} {Q : Exit → Act → World → Prop} (W0 W : World) (hF : Hid (Fr (fun _ _ => True) W0 W)) (s x : Operand)
    (ho : o.op = .call { callee := .builtin .append, args := #[s, x], argTypes := #[33, 33] }) (v : Value) (T : List Int) (hs : a.eval s = v) (hown : Hid (W.ownsRow W0.heap.size 3 1 v T.length (T.flatMap encI)))
    (vx : Value) (ys : List Int) (hx : a.eval x = vx) (hvx : Hid (RowsAt K0 W vx 1 encI ys)) (R : List Int) (hR : Hid (T ++ ys = R)) (N : Nat) (hN : Hid (R.length = N)) (hn : N ≤ 1000000)
    (h : ∀ g c w', Hid (w'.ownsRow W0.heap.size 3 1 (.slice g N c) N (R.flatMap encI)) → Hid (Fr (fun _ _ => True) W0 w') → Hid (Fr (fun b _ => v.ownBlock ≠ some b) W w') → Hid (OwnNext W v (.slice g N c)) → K (a.put o.dst (.slice g N c)) w') : o.wp Try.prog a W K Q := by
  obtain ⟨i0, hi, hz0, hz1, hz2⟩ := info_parts info_int
  have e2 : T.length + ys.length = N := by rw [← hN.out, ← hR.out, List.length_append]
  exact wp_append_rows W s x 33 3 ho W0.heap.size hF.out.size i0 _ 1 8 Try.underlying33 hi hz0 hz1 hz2 rfl (by decide) (by decide) encI_len encI_one v T.length T hs hown.out vx ys hx hvx.out R hR.out N e2 hn fun g c w' h1 h2 h3 => h g c w' h1 (hF.out.grown_new h2 (own_new hown.out)) (.of_grown h2 fun k o e _ hk => hk e) h3
theorem wpList_append_ins {K0 : Nat → Obj → Prop} {ops : Array Oper} {rest : List Oper} {o : Oper} {a : Act} {Q : Exit → Act → World → Prop} (W0 W : World) (hF : Hid (Fr (fun _ _ => True) W0 W)) (hgd : o.guard = none) (s x : Operand)
    (ho : o.op = .call { callee := .builtin .append, args := #[s, x], argTypes := #[33, 33] }) (v : Value) (T : List Int) (hs : a.eval s = v) (hown : Hid (W.ownsRow W0.heap.size 3 1 v T.length (T.flatMap encI)))
    (vx : Value) (ys : List Int) (hx : a.eval x = vx) (hvx : Hid (RowsAt K0 W vx 1 encI ys)) (R : List Int) (hR : Hid (T ++ ys = R)) (N : Nat) (hN : Hid (R.length = N)) (hn : N ≤ 1000000)
    (h : ∀ g c w', Hid (w'.ownsRow W0.heap.size 3 1 (.slice g N c) N (R.flatMap encI)) → Hid (Fr (fun _ _ => True) W0 w') → Hid (Fr (fun b _ => v.ownBlock ≠ some b) W w') → Hid (OwnNext W v (.slice g N c)) → wpList Try.prog ops Q rest (a.put o.dst (.slice g N c)) w') :
    wpList Try.prog ops Q (o :: rest) a W :=
  wpList_plain hgd fun _ hK => step_append_ins W0 W hF s x ho v T hs hown vx ys hx hvx R hR N hN hn fun g c w' h1 h2 h3 h4 => hK _ _ (h g c w' h1 h2 h3 h4)
end Go.Proofs.Ytmjccpfchhnfhaa
/- Terms: Term of any number, Newer, fits. -/
namespace Go.Proofs.Ytmjccpfchhnfhaa
open Go.RowKit
set_option linter.unusedVariables false
set_option linter.unusedSimpArgs false

theorem lbox (w : World) (b bt : Nat) (v : Value) : ∃ W, w.alloc (.cells #[.int .u64 (b : Nat), .int .u64 (bt : Nat), v] 37 (0, 0)) = W ∧ Hid (Fr (fun _ _ => True) w W) ∧ Hid (W.heap[w.heap.size]? = some (.cells #[.int .u64 (b : Nat), .int .u64 (bt : Nat), v] 37 (0, 0))) ∧
    Hid (∀ W', Fr (fun _ _ => True) W W' → W'.cell? ⟨w.heap.size, 0, none⟩ = some (.int .u64 (b : Nat)) ∧ W'.cell? ⟨w.heap.size, 1, none⟩ = some (.int .u64 (bt : Nat)) ∧ W'.cell? ⟨w.heap.size, 2, none⟩ = some v) :=
  ⟨_, rfl, (Fr.refl _ _).alloc _, heap_alloc_new w _, fun W' f => by
    have t := f.keep _ _ (heap_alloc_new w _) trivial
    exact ⟨cell_mk t rfl, cell_mk t rfl, cell_mk t rfl⟩⟩
abbrev lgE (b bt : Nat) (xs : List EV) : Lg := ⟨b, bt, xs.map EV.en⟩
theorem lgE_last (b bt : Nat) (xs : List EV) : (lgE b bt xs).last = b + xs.length := by unfold Lg.last; simp
theorem lgE_lastT (b bt : Nat) (xs : List EV) : (lgE b bt xs).lastT = lastTE bt xs := by
  unfold Lg.lastT lastTE
  show (((xs.map EV.en).getLast?.map _).getD bt) = _
  rw [List.getLast?_map, Option.map_map]
  rfl
theorem lgE_term_at (b bt i k : Nat) (xs : List EV) (hk : k < xs.length) (hi : i = b + 1 + k) : (lgE b bt xs).term i = (xs[k].t, true) := by
  obtain ⟨h', e⟩ := Lg.term_in (l := lgE b bt xs) (i := i) ⟨by show b < i; omega, by rw [lgE_last]; omega⟩
  rw [e]
  have e2 : i - (lgE b bt xs).base - 1 = k := by show i - b - 1 = k; omega
  simp only [e2]
  show (((xs.map EV.en)[k]'(by simpa using hk)).t, true) = _
  rw [List.getElem_map]
  rfl
set_option maxRecDepth 100000 in
theorem tterm_out (w : World) (b bt i : Nat) (a : Option Addr) (n c : Nat) (h : b + n < 18446744073709551616) (hi : i < b ∨ b + n < i) :
    Calls Try.prog 55 #[vL b bt (.slice a n c), .int .u64 (i : Nat)] w fun e w' => e = .returned (.tuple #[.int .u64 0, .bool false]) ∧ Fr (fun _ _ => True) w w' := by
  obtain ⟨W1, hW1, F1, X1, CC⟩ := lbox w b bt (.slice a n c)
  obtain ⟨x0, x1, x2⟩ := CC.out W1 (Fr.refl _ _)
  have hne : ((i : Int) == (b : Int)) = false := by simp; omega
  have EC := Lib.hid (tentry_no W1 b bt i a n c h (by omega))
  unfold vL vE zEV at EC
  unfold vL
  clear h hi
  go_enter Try.func55, Try.ntmps55
  go_wp2_with fail
  try rw [hW1]
  (with_reducible refine EC.out.mono ?_)
  rintro e w2 ⟨rfl, f2⟩
  have F2 := Lib.hid (F1.out.trans f2)
  obtain ⟨W3, hW3⟩ : ∃ W, w2.alloc (.cells #[.int .u64 0, .int .i64 0, .slice none 0 0] 68 (0, 0)) = W := ⟨_, rfl⟩
  have F3 : Hid (Fr (fun _ _ => True) w W3) := hW3 ▸ F2.out.alloc _
  have X3 : Hid (W3.heap[w2.heap.size]? = some (.cells #[.int .u64 0, .int .i64 0, .slice none 0 0] 68 (0, 0))) := hW3 ▸ heap_alloc_new w2 _
  have y0 := frozen_mk (i := 0) X3.out
  have y1 := frozen_mk (i := 1) X3.out
  have y2 := frozen_mk (i := 2) X3.out
  have q0 := cell_mk (i := 0) X3.out rfl
  have q1 := cell_mk (i := 1) X3.out rfl
  have q2 := cell_mk (i := 2) X3.out rfl
  obtain ⟨WZ, hWZ, TZ, FZ⟩ := set3 X3.out (.int .u64 0) (.int .i64 0) (.slice none 0 0)
  have p0 := cell_mk (i := 0) TZ rfl
  have FZH := Lib.hid FZ
  have SZ : Hid (w.heap.size ≤ w2.heap.size) := F2.out.size
  clear f2 EC TZ FZ
  go_wp2
  try rw [hW3]
  try rw [hWZ]
  go_ret2
  exact ⟨rfl, Fr.within ((F3.out.mono fun _ _ _ => trivial).trans (FZH.out.mono fun c _ h e => by have := h.2; have := SZ.out; omega))⟩
theorem tterm_calls {K : Nat → Obj → Prop} (w : World) (b bt i : Nat) (a : Option Addr) (n c : Nat) (xs : List EV) (hx : RowsAt K w (.slice a n c) 3 encE xs) (h : b + n < 18446744073709551616) :
    Calls Try.prog 55 #[vL b bt (.slice a n c), .int .u64 (i : Nat)] w fun e w' => e = .returned (.tuple #[.int .u64 (((lgE b bt xs).term i).1 : Nat), .bool ((lgE b bt xs).term i).2]) ∧ Fr (fun _ _ => True) w w' := by
  have hn := hx.len'
  by_cases h0 : i = b
  · subst h0
    rw [show (lgE i bt xs).term i = (bt, true) from Lg.term_base _]
    exact tterm_base w i bt a n c
  · by_cases h1 : b < i ∧ i ≤ b + n
    · have hk : i - b - 1 < xs.length := by omega
      rw [lgE_term_at b bt i (i - b - 1) xs hk (by omega)]
      exact tterm_at w b bt i (i - b - 1) a n c xs hx hn.symm h hk (by omega)
    · rw [Lg.term_out (l := lgE b bt xs) (i := i) (by rw [lgE_last]; show i < b ∨ _; omega)]
      exact tterm_out w b bt i a n c h (by omega)
set_option maxRecDepth 100000 in
theorem tnewer_calls {K : Nat → Obj → Prop} (w : World) (b bt t i : Nat) (a : Option Addr) (n c : Nat) (xs : List EV) (hx : RowsAt K w (.slice a n c) 3 encE xs) (h : b + n < 18446744073709551616) :
    Calls Try.prog 29 #[vL b bt (.slice a n c), .int .u64 (t : Nat), .int .u64 (i : Nat)] w fun e w' => e = .returned (.bool ((lgE b bt xs).newer t i)) ∧ Fr (fun _ _ => True) w w' := by
  have hn := hx.len'
  unfold Lg.newer
  rw [lgE_last, lgE_lastT, ← hn]
  obtain ⟨W1, hW1, F1, X1, CC⟩ := lbox w b bt (.slice a n c)
  obtain ⟨x0, x1, x2⟩ := CC.out W1 (Fr.refl _ _)
  have TC := Lib.hid (tlastT_calls W1 b bt a n c xs (hx.tt F1.out) hn.symm h)
  have LC := Lib.hid (fun W => tlast_calls W b bt a n c h)
  obtain ⟨l, hl⟩ : ∃ l, b + n = l := ⟨_, rfl⟩
  generalize lastTE bt xs = o at TC ⊢
  rw [hl] at LC ⊢
  unfold vL at TC LC ⊢
  clear hx h hn hl
  by_cases h1 : o < t
  · have g1 : decide (o < t) = true := decide_eq_true h1
    rw [decide_eq_true h1]
    clear h1
    go_enter Try.func29, Try.ntmps29
    go_wp2_with fail
    try rw [hW1]
    (with_reducible refine TC.out.mono ?_)
    rintro e w2 ⟨rfl, f2⟩
    have F2 := Lib.hid (F1.out.trans f2)
    obtain ⟨y0, y1, y2⟩ := CC.out w2 f2
    clear f2 TC x0 x1 x2
    go_wp2
    go_ret
    exact ⟨rfl, F2.out⟩
  · have g1 : decide (o < t) = false := decide_eq_false h1
    rw [decide_eq_false h1]
    by_cases h2 : t = o
    · subst h2
      have g2 : ((t : Int) == (t : Int)) = true := by simp
      rw [decide_eq_true rfl]
      by_cases h3 : l ≤ i
      all_goals
        first
          | (have g3 : decide (l ≤ i) = true := decide_eq_true h3
             rw [decide_eq_true h3])
          | (have g3 : decide (l ≤ i) = false := decide_eq_false h3
             rw [decide_eq_false h3])
        clear h3 h1
        go_enter Try.func29, Try.ntmps29
        go_wp2_with fail
        try rw [hW1]
        (with_reducible refine TC.out.mono ?_)
        rintro e w2 ⟨rfl, f2⟩
        have F2 := Lib.hid (F1.out.trans f2)
        obtain ⟨y0, y1, y2⟩ := CC.out w2 f2
        clear f2 TC x0 x1 x2
        go_wp2_with fail
        (with_reducible refine (LC.out _).mono ?_)
        rintro e w3 ⟨rfl, f3⟩
        have F3 := Lib.hid (F2.out.trans f3)
        clear f3 LC
        go_wp2
        go_ret
        exact ⟨rfl, F3.out⟩
    · have g2 : ((t : Int) == (o : Int)) = false := by simp; omega
      rw [decide_eq_false h2]
      clear h1 h2
      go_enter Try.func29, Try.ntmps29
      go_wp2_with fail
      try rw [hW1]
      (with_reducible refine TC.out.mono ?_)
      rintro e w2 ⟨rfl, f2⟩
      have F2 := Lib.hid (F1.out.trans f2)
      obtain ⟨y0, y1, y2⟩ := CC.out w2 f2
      clear f2 TC x0 x1 x2
      go_wp2
      go_ret
      exact ⟨rfl, F2.out⟩
set_option maxRecDepth 100000 in
theorem tfits_calls {K : Nat → Obj → Prop} (w : World) (b bt p pt m : Nat) (a : Option Addr) (n c : Nat) (xs : List EV) (hx : RowsAt K w (.slice a n c) 3 encE xs) (h : b + n < 18446744073709551616) (hp : p + m < 18446744073709551616) (hm : m ≤ 1000000) :
    Calls Try.prog 62 #[vL b bt (.slice a n c), .int .u64 (p : Nat), .int .u64 (pt : Nat), .int .i64 (m : Nat)] w fun e w' => e = .returned (.int .i64 ((lgE b bt xs).fits p pt m)) ∧ Fr (fun _ _ => True) w w' := by
  have hn := hx.len'
  obtain ⟨W1, hW1, F1, X1, CC⟩ := lbox w b bt (.slice a n c)
  obtain ⟨x0, x1, x2⟩ := CC.out W1 (Fr.refl _ _)
  have LC := Lib.hid (tlast_calls W1 b bt a n c h)
  have TC := Lib.hid (fun W (f : Fr (fun _ _ => True) W1 W) => tterm_calls W b bt p a n c xs ((hx.tt F1.out).tt f) h)
  unfold Lg.fits
  rw [lgE_last, ← hn]
  show Calls _ _ _ _ fun e w' => e = .returned (.int .i64 (if b + n < p then 60 else if p < b then (if p + m ≤ b then 61 else 0) else if ((lgE b bt xs).term p).1 = pt then 0 else 60)) ∧ _
  generalize (lgE b bt xs).term p = T at TC ⊢
  obtain ⟨l, hl⟩ : ∃ l, b + n = l := ⟨_, rfl⟩
  rw [hl] at LC ⊢
  unfold vL at TC LC ⊢
  have w1 : IntKind.u64.wrap (m : Int) = (m : Int) := by rw [IntKind.wrap_u64]; omega
  have w2 : IntKind.u64.wrap ((p : Int) + (m : Int)) = ((p + m : Nat) : Int) := by rw [IntKind.wrap_u64]; omega
  clear hx h hn hp hm
  by_cases h1 : l < p
  · have g1 : (l : Int) < (p : Int) := by omega
    rw [if_pos h1]
    clear h1 hl
    go_enter Try.func62, Try.ntmps62
    go_wp2_with fail
    try rw [hW1]
    (with_reducible refine LC.out.mono ?_)
    rintro e w2 ⟨rfl, f2⟩
    have F2 := Lib.hid (F1.out.trans f2)
    clear f2 LC x0 x1 x2
    go_wp2
    go_ret
    exact ⟨rfl, F2.out⟩
  · have g1 : ¬ (l : Int) < (p : Int) := by omega
    rw [if_neg h1]
    by_cases h2 : p < b
    · have g2 : (p : Int) < (b : Int) := by omega
      rw [if_pos h2]
      clear h1 hl h2
      by_cases h3 : p + m ≤ b
      all_goals
        first
          | (have g3 : ((p + m : Nat) : Int) ≤ (b : Int) := by omega
             rw [if_pos h3])
          | (have g3 : ¬ ((p + m : Nat) : Int) ≤ (b : Int) := by omega
             rw [if_neg h3])
        clear h3
        generalize p + m = z at w2 g3
        go_enter Try.func62, Try.ntmps62
        go_wp2_with fail
        try rw [hW1]
        (with_reducible refine LC.out.mono ?_)
        rintro e w2 ⟨rfl, f2⟩
        have F2 := Lib.hid (F1.out.trans f2)
        obtain ⟨y0, y1, y2⟩ := CC.out w2 f2
        clear f2 LC x0 x1 x2
        go_wp2
        go_ret
        exact ⟨rfl, F2.out⟩
    · have g2 : ¬ (p : Int) < (b : Int) := by omega
      rw [if_neg h2]
      clear h1 hl h2
      obtain ⟨T1, T2⟩ := T
      dsimp only at TC ⊢
      by_cases h3 : T1 = pt
      all_goals
        first
          | (have g3 : ((T1 : Int) != (pt : Int)) = false := by simp; omega
             rw [if_pos h3])
          | (have g3 : ((T1 : Int) != (pt : Int)) = true := by simp; omega
             rw [if_neg h3])
        clear h3
        go_enter Try.func62, Try.ntmps62
        go_wp2_with fail
        try rw [hW1]
        (with_reducible refine LC.out.mono ?_)
        rintro e w2 ⟨rfl, f2⟩
        have F2 := Lib.hid (F1.out.trans f2)
        obtain ⟨y0, y1, y2⟩ := CC.out w2 f2
        have TD := Lib.hid (TC.out _ f2)
        clear f2 LC x0 x1 x2
        go_wp2_with fail
        (with_reducible refine TD.out.mono ?_)
        rintro e w3 ⟨rfl, f3⟩
        have F3 := Lib.hid (F2.out.trans f3)
        clear f3 TD TC
        go_wp2
        go_ret
        exact ⟨rfl, F3.out⟩
end Go.Proofs.Ytmjccpfchhnfhaa
/- Slice of a log, sharper (printed by tslice2.py out of XFs2). -/
namespace Go.Proofs.Ytmjccpfchhnfhaa
open Go.RowKit
set_option linter.unusedVariables false
set_option linter.unusedSimpArgs false

theorem clone_en2 {K : Nat → Obj → Prop} (w : World) (v : Value) (xs : List EV) (h : RowsAt K w v 3 encE xs) (hm : xs.length ≤ 1000000) :
    Calls Try.prog 77 #[v] w fun e w' => (∃ a c, e = .returned (.slice a xs.length c) ∧ RowsAt (fun c o => w.heap.size ≤ c ∧ ∃ cs, o = Obj.cells cs 68 (0, 0)) w' (.slice a xs.length c) 3 encE xs ∧ (a = none → c = 0)) ∧ Fr (fun _ _ => True) w w' := by
  obtain ⟨a, c, rfl, _⟩ := h.form
  cases a with
  | none =>
    have e : xs = [] := by
      rcases Nat.eq_zero_or_pos xs.length with q | q
      · exact List.length_eq_zero_iff.1 q
      · obtain ⟨b, off, o, e, _⟩ := h.spot q
        cases e
    subst e
    exact (clone_en_nil w _ _).mono fun e w' ⟨he, hw⟩ => ⟨⟨none, 0, he, RowsAt.nil _ _ _ _, fun _ => rfl⟩, hw ▸ Fr.refl _ _⟩
  | some ad =>
    refine (clone_en_some w ad _ c _ (h.src encE_len (by decide) encE_oneC) hm).mono fun e w' ⟨⟨v, he, ho⟩, hf⟩ => ?_
    have r := rows_own ho encE_len
    obtain ⟨a', c', rfl, _⟩ := r.form
    refine ⟨⟨a', c', he, r, fun e0 => ?_⟩, hf⟩
    subst e0
    rcases ho.2 with ⟨e1, _⟩ | ⟨g, cap, cur, e1, _⟩
    · rw [Value.slice.injEq] at e1; exact e1.2.2
    · rw [Value.slice.injEq] at e1; exact absurd e1.1 (by simp)
set_option maxRecDepth 100000 in
set_option maxHeartbeats 4000000 in
theorem tslice2_calls {K : Nat → Obj → Prop} (w : World) (b bt i most : Nat) (a : Option Addr) (n c : Nat) (xs : List EV) (hx : RowsAt K w (.slice a n c) 3 encE xs) (hm : xs.length ≤ 1000000) (hmo : 1 ≤ most) (hmo2 : most ≤ 1000000) (hb : b + xs.length < 18446744073709551616) (hi : i < 18446744073709551616) :
    Calls Try.prog 71 #[vL b bt (.slice a n c), .int .u64 (i : Nat), .int .i64 (most : Nat)] w fun e w' => (∃ a' c', e = .returned (.slice a' (if b < i ∧ i ≤ b + xs.length then (xs.drop (i - b - 1)).take most else []).length c') ∧ RowsAt (fun c o => w.heap.size ≤ c ∧ ∃ cs, o = Obj.cells cs 68 (0, 0)) w' (.slice a' (if b < i ∧ i ≤ b + xs.length then (xs.drop (i - b - 1)).take most else []).length c') 3 encE (if b < i ∧ i ≤ b + xs.length then (xs.drop (i - b - 1)).take most else []) ∧ (a' = none → c' = 0)) ∧ Fr (fun _ _ => True) w w' := by
  have hnl := hx.len'
  subst hnl
  obtain ⟨W1, hW1⟩ : ∃ W, w.alloc (.cells #[.int .u64 (b : Nat), .int .u64 (bt : Nat), .slice a xs.length c] 37 (0, 0)) = W := ⟨_, rfl⟩
  have F1 : Hid (Fr (fun _ _ => True) w W1) := hW1 ▸ (Fr.refl _ _).alloc _
  have X1 : Hid (W1.heap[w.heap.size]? = some (.cells #[.int .u64 (b : Nat), .int .u64 (bt : Nat), .slice a xs.length c] 37 (0, 0))) := hW1 ▸ heap_alloc_new w _
  have p0 := cell_mk (i := 0) X1.out rfl
  have p1 := cell_mk (i := 1) X1.out rfl
  have p2 := cell_mk (i := 2) X1.out rfl
  have HC := Lib.hid (thas_calls W1 b bt i a xs.length c hb)
  by_cases h : b < i ∧ i ≤ b + xs.length
  · rw [decide_eq_true h] at HC
    rw [if_pos h]
    obtain ⟨k, hk⟩ : ∃ k, i - b - 1 = k := ⟨_, rfl⟩
    rw [hk]
    have hkx : k ≤ xs.length := by omega
    obtain ⟨L, hL⟩ : ∃ L, xs.length = L := ⟨_, rfl⟩
    have R1 := (hx.tt F1.out).dropS hkx
    rw [hL] at R1 HC hkx hb hm h hW1 p2 X1
    obtain ⟨ad, had⟩ : ∃ x, subS a c k 3 = x := ⟨_, rfl⟩
    rw [had] at R1
    have hdl : (xs.drop k).length = L - k := by rw [List.length_drop, hL]
    have hcap := hx.form
    have hLc : L ≤ c := by obtain ⟨_, _, e, q⟩ := hx.form; cases e; rw [← hL]; exact q
    obtain ⟨q, hq⟩ : ∃ q, L - k = q := ⟨_, rfl⟩
    obtain ⟨cc, hcc⟩ : ∃ x, c - k = x := ⟨_, rfl⟩
    rw [hq, hcc] at R1
    have hqc : q ≤ cc := by omega
    have hq1 : 1 ≤ q := by omega
    have hs1 : ∀ w : World, (Instr.slice 35 (.slice a L c) (some (.int .u64 (k : Nat))) none none).run Try.prog w = .ok (.slice ad q cc) w := fun w => by
      rw [run_sliceF 3 Try.underlying35 size_enS w a L c k .u64 hkx, had, hq, hcc]
    have w1 : IntKind.u64.wrap ((i : Int) - (b : Int)) = ((i - b : Nat) : Int) := by rw [IntKind.wrap_u64]; omega
    have w2 : IntKind.u64.wrap (((i - b : Nat) : Int) - 1) = ((k : Nat) : Int) := by rw [IntKind.wrap_u64]; omega
    have HR := Lib.hid (show min most q = ((xs.drop k).take most).length by rw [List.length_take, hdl, hq])
    obtain ⟨mm, hmm⟩ : ∃ x, min most q = x := ⟨_, rfl⟩
    have hm1 : mm ≤ q := by omega
    have hmi : min (most : Int) (q : Int) = (mm : Int) := by omega
    have hs2 : ∀ w : World, (Instr.slice 35 (.slice ad q cc) none (some (.int .i64 (mm : Nat))) none).run Try.prog w = .ok (.slice ad mm cc) w := fun w => run_sliceS 3 Try.underlying35 size_enS w ad q cc mm .i64 (by omega)
    have R2 := R1.takeS (m := mm) (by rw [hdl, hq]; exact hm1)
    have e2 : (xs.drop k).take mm = (xs.drop k).take most := by
      rw [← hmm]
      rcases Nat.le_total most q with z | z
      · rw [Nat.min_eq_left z]
      · rw [Nat.min_eq_right z, List.take_of_length_le (by rw [hdl, hq]; exact Nat.le_refl _), List.take_of_length_le (by rw [hdl, hq]; exact z)]
    rw [e2] at R2
    have RH := Lib.hid R2
    have hml : ((xs.drop k).take most).length ≤ 1000000 := by rw [List.length_take]; omega
    generalize (xs.drop k).take most = ys at RH hml HR R2
    rw [hmm] at HR
    rw [hL]
    have HW1 := Lib.hid hW1
    have m1 : decide ((most : Int) < 1) = false := by simp; omega
    clear hx R1 R2 hW1 e2 hdl hcap hL h hb
    unfold vL at HC ⊢
    go_enter Try.func71, Try.ntmps71
    go_wp2_with fail
    try rw [HW1.out]
    (with_reducible refine HC.out.mono ?_)
    rintro e w2 ⟨rfl, f2⟩
    have F2 := Lib.hid (F1.out.trans f2)
    have X2 := f2.keep _ _ X1.out trivial
    have CC := Lib.hid (clone_en2 w2 (.slice ad mm cc) ys (by have := RH.out.tt f2; exact this) hml)
    clear p0 p1 p2
    have p0 := cell_mk (i := 0) X2 rfl
    have p1 := cell_mk (i := 1) X2 rfl
    have p2 := cell_mk (i := 2) X2 rfl
    have SZ : Hid (w.heap.size ≤ w2.heap.size) := F2.out.size
    clear f2 X2 HC
    clear hkx had hq hcc hqc hq1 hLc hm hml hk hm1 hmi F1 X1 HW1 HR
    have fin : ∀ e w', ((∃ a c, e = Ending.returned (.slice a ys.length c) ∧ RowsAt (fun c o => w2.heap.size ≤ c ∧ ∃ cs, o = Obj.cells cs 68 (0, 0)) w' (.slice a ys.length c) 3 encE ys ∧ (a = none → c = 0)) ∧ Fr (fun _ _ => True) w2 w') → (∃ a' c', e = Ending.returned (.slice a' ys.length c') ∧ RowsAt (fun c o => w.heap.size ≤ c ∧ ∃ cs, o = Obj.cells cs 68 (0, 0)) w' (.slice a' ys.length c') 3 encE ys ∧ (a' = none → c' = 0)) ∧ Fr (fun _ _ => True) w w' := fun e w' hh => by
      obtain ⟨⟨a', c', e1, e2, e4⟩, e3⟩ := hh
      exact ⟨⟨a', c', e1, e2.mono fun c _ _ hc => ⟨Nat.le_trans SZ.out hc.1, hc.2⟩, e4⟩, F2.out.trans e3⟩
    have FIN := Lib.hid fin
    clear fin
    rcases Nat.lt_or_ge q most with z | z
    rotate_left
    · have z1 : (most : Int) ≤ (q : Int) := by omega
      have z2 : mm = most := by omega
      subst z2
      clear hmm z
      go_wp2_with fail
      (with_reducible refine CC.out.mono ?_)
      rintro e w3 hh
      obtain ⟨⟨a3, c3, rfl, r3, z3⟩, f3⟩ := FIN.out _ _ hh
      have R3 := Lib.hid r3
      have Z3 := Lib.hid z3
      have F3 := Lib.hid f3
      clear hh r3 z3 f3 CC FIN
      go_wp2
      go_ret
      exact ⟨⟨_, _, rfl, R3.out, Z3.out⟩, F3.out⟩
    · have z1 : ¬ (most : Int) ≤ (q : Int) := by omega
      have z5 : (q : Int) < (most : Int) := by omega
      have z2 : mm = q := by omega
      subst z2
      clear hmm z
      go_wp2_with fail
      (with_reducible refine CC.out.mono ?_)
      rintro e w3 hh
      obtain ⟨⟨a3, c3, rfl, r3, z3⟩, f3⟩ := FIN.out _ _ hh
      have R3 := Lib.hid r3
      have Z3 := Lib.hid z3
      have F3 := Lib.hid f3
      clear hh r3 z3 f3 CC FIN
      go_wp2
      go_ret
      exact ⟨⟨_, _, rfl, R3.out, Z3.out⟩, F3.out⟩
  · rw [decide_eq_false h] at HC
    rw [if_neg h]
    clear hx hb hm
    have HW1 := Lib.hid hW1
    clear hW1
    have m1 : decide ((most : Int) < 1) = false := by simp; omega
    unfold vL at HC ⊢
    go_enter Try.func71, Try.ntmps71
    go_wp2_with fail
    try rw [HW1.out]
    (with_reducible refine HC.out.mono ?_)
    rintro e w2 ⟨rfl, f2⟩
    have F2 := Lib.hid (F1.out.trans f2)
    go_wp2
    go_ret
    exact ⟨⟨none, 0, rfl, RowsAt.nil _ _ _ _, fun _ => rfl⟩, F2.out⟩
theorem tsliceE_calls {X : Nat → Prop} (w : World) (b bt i most : Nat) (a : Option Addr) (n c : Nat) (xs : List EV) (hx : EsAt X w (.slice a n c) xs) (hm : n ≤ 1000000) (hmo : 1 ≤ most) (hmo2 : most ≤ 1000000) (hb : b + n < 18446744073709551616) (hi : i < 18446744073709551616) (hX : ∀ c, X c → c < w.heap.size) :
    Calls Try.prog 71 #[vL b bt (.slice a n c), .int .u64 (i : Nat), .int .i64 (most : Nat)] w fun e w' => (∃ a' c' ys, e = .returned (.slice a' ys.length c') ∧ EsAt X w' (.slice a' ys.length c') ys ∧ ys.map EV.en = (⟨b, bt, xs.map EV.en⟩ : Lg).slice i most) ∧ Fr (fun _ _ => True) w w' := by
  have hl := hx.row.len'
  refine (tslice2_calls w b bt i most a n c xs hx.row (by omega) hmo hmo2 (by omega) hi).mono fun e w' ⟨⟨a', c', h1, h2, h3⟩, hf⟩ => ⟨⟨a', c', _, h1, ⟨h2.mono fun c o _ hc => ⟨fun h => ?_, ?_⟩, fun n2 c2 e2 => ?_, fun x hx2 => ?_⟩, ?_⟩, hf⟩
  · have := hX c h
    have := hc.1
    omega
  · obtain ⟨cs, e⟩ := hc.2
    exact ⟨cs, _, _, e, by decide⟩
  · rw [Value.slice.injEq] at e2
    rw [← e2.2.2]
    exact h3 e2.1
  · have hin : x ∈ xs := by
      split at hx2
      · exact List.mem_of_mem_drop (List.mem_of_mem_take hx2)
      · cases hx2
    exact ⟨(hx.dat x hin).1.tt hf, (hx.dat x hin).2⟩
  · unfold Lg.slice Lg.has Lg.last
    simp only [List.length_map]
    by_cases q : b < i ∧ i ≤ b + xs.length
    · rw [if_pos q, if_pos (by simpa using q), List.map_take, List.map_drop]
    · rw [if_neg q, if_neg (by simpa using q)]
      rfl
end Go.Proofs.Ytmjccpfchhnfhaa
