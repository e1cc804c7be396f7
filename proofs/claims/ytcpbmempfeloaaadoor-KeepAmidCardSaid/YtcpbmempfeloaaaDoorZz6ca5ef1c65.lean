/- Texts of the proofs, part 39: what the functions that they reach do, walked; no conditions beyond those that each states. -/
import Derived.Test.YtcpbmempfeloaaaDoorZz38890ac87a
set_option linter.unusedVariables false
set_option linter.unusedSimpArgs false
/- Law 14: entries cloned, sliced; begins. -/
namespace Go.Proofs.YtcpbmempfeloaaaDoor
open Go.RowKit
set_option linter.unusedVariables false
set_option linter.unusedSimpArgs false

theorem zero_en_size : (Value.agg #[.int .u64 0, .int .i64 0, .slice none 0 0]).cells.size = 3 := by kernel_rfl
theorem src_ttE {w w' : World} {size m : Nat} {x : Value} {xs : List Value} (h : SrcAt w size x m xs) (hf : Fr (fun _ _ => True) w w') : SrcAt w' size x m xs := by
  rcases h with h | ⟨ad, c, h1, h2, h3, h4⟩
  · exact .inl h
  · exact .inr ⟨ad, c, h1, h2, fun j u hu => hf.cell (fun _ _ => trivial) (h3 j u hu), h4⟩
set_option maxRecDepth 100000 in
theorem clone_en_some (w : World) (ad : Addr) (n cap : Nat) (xs : List Value) (h : SrcAt w 3 (.slice (some ad) n cap) n xs) (hm : n ≤ 1000000) :
    Calls Tryd.prog 90 #[.slice (some ad) n cap] w fun e w' => (∃ v, e = .returned v ∧ w'.ownsRow w.heap.size 128 3 v n xs) ∧ Fr (fun _ _ => True) w w' := by
  have hq := fun (w : World) (a : Option Addr) (n c n' c' : Nat) => Lib.run_eql_slice_nil (P := Tryd.prog) w 64 128 a n c n' c' Tryd.underlying64
  obtain ⟨i0, hi, hz0, hz1, hz2⟩ := info_parts info_en
  have hown : (w.alloc (.cells #[] 128)).ownsRow w.heap.size 128 3 (.slice (some ⟨w.heap.size, 0, none⟩) 0 0) 0 [] := World.ownsRow_lit w #[] 0 (Nat.le_refl _) (by simp) rfl
  have hsrc := Lib.hid (src_ttE h ((Fr.refl _ _).alloc (.cells #[] 128)))
  clear h
  go_enter Tryd.func90, Tryd.ntmps90
  go_wp2_with (at_builtin; refine wpList_append_src _ rfl _ _ 64 rfl w.heap.size 128 i0 (.agg #[.int .u64 0, .int .i64 0, .slice none 0 0]) 3 40 Tryd.underlying64 hi hz0 hz1 hz2 zero_en_size (by decide) _ 0 [] rfl hown _ n xs rfl hsrc.out ?c2 ?c3 ?c4 ?_)
  case c2 => unfold maxLen; omega
  case c3 => omega
  case c4 => simp
  intro v w1 hown1 hg hnil
  go_wp2
  go_ret
  exact ⟨⟨v, rfl, by simpa using hown1⟩, (Fr.alloc (Fr.refl _ _) _).grown_new hg fun k e => by simp [Value.ownBlock] at e; omega⟩
set_option maxRecDepth 100000 in
theorem clone_en_nil (w : World) (n c : Nat) : Calls Tryd.prog 90 #[.slice none n c] w fun e w' => e = .returned (.slice none 0 0) ∧ w = w' := by
  have hq := fun (w : World) (a : Option Addr) (n c n' c' : Nat) => Lib.run_eql_slice_nil (P := Tryd.prog) w 64 128 a n c n' c' Tryd.underlying64
  go_enter Tryd.func90, Tryd.ntmps90
  go_wp2
  go_ret
  exact ⟨rfl, rfl⟩
theorem encE_oneC (x : EV) : ∀ u ∈ encE x, u.oneCell' = true := fun u hu => by
  unfold encE at hu
  simp only [List.mem_cons, List.not_mem_nil, or_false] at hu
  rcases hu with rfl | rfl | rfl <;> rfl
/-- A clone of entries that are read. -/
theorem clone_en {K : Nat → Obj → Prop} (w : World) (v : Value) (xs : List EV) (h : RowsAt K w v 3 encE xs) (hm : xs.length ≤ 1000000) :
    Calls Tryd.prog 90 #[v] w fun e w' => (∃ a c, e = .returned (.slice a xs.length c) ∧ RowsAt (fun c _ => w.heap.size ≤ c) w' (.slice a xs.length c) 3 encE xs) ∧ Fr (fun _ _ => True) w w' := by
  obtain ⟨a, c, rfl, _⟩ := h.form
  cases a with
  | none =>
    have e : xs = [] := by
      rcases Nat.eq_zero_or_pos xs.length with q | q
      · exact List.length_eq_zero_iff.1 q
      · obtain ⟨b, off, o, e, _⟩ := h.spot q
        cases e
    subst e
    exact (clone_en_nil w _ _).mono fun e w' ⟨he, hw⟩ => ⟨⟨none, 0, he, RowsAt.nil _ _ _ _⟩, hw ▸ Fr.refl _ _⟩
  | some ad =>
    refine (clone_en_some w ad _ c _ (h.src encE_len (by decide) encE_oneC) hm).mono fun e w' ⟨⟨v, he, ho⟩, hf⟩ => ?_
    have r := (rows_own ho encE_len).mono fun c o _ hc => hc.1
    obtain ⟨a', c', rfl, _⟩ := r.form
    exact ⟨⟨a', c', he, r⟩, hf⟩
theorem size_enS : (sizeOf 128).run Tryd.prog = fun w => .ok 3 w := by kernel_rfl
set_option maxRecDepth 100000 in
set_option maxHeartbeats 4000000 in
/-- Slice of a log. -/
theorem tslice_calls {K : Nat → Obj → Prop} (w : World) (b bt i most : Nat) (a : Option Addr) (n c : Nat) (xs : List EV) (hx : RowsAt K w (.slice a n c) 3 encE xs) (hm : xs.length ≤ 1000000) (hmo : 1 ≤ most) (hmo2 : most ≤ 1000000) (hb : b + xs.length < 18446744073709551616) (hi : i < 18446744073709551616) :
    Calls Tryd.prog 43 #[vL b bt (.slice a n c), .int .u64 (i : Nat), .int .i64 (most : Nat)] w fun e w' => (∃ a' c', e = .returned (.slice a' (if b < i ∧ i ≤ b + xs.length then (xs.drop (i - b - 1)).take most else []).length c') ∧ RowsAt (fun c _ => w.heap.size ≤ c) w' (.slice a' (if b < i ∧ i ≤ b + xs.length then (xs.drop (i - b - 1)).take most else []).length c') 3 encE (if b < i ∧ i ≤ b + xs.length then (xs.drop (i - b - 1)).take most else [])) ∧ Fr (fun _ _ => True) w w' := by
  have hnl := hx.len'
  subst hnl
  obtain ⟨W1, hW1⟩ : ∃ W, w.alloc (.cells #[.int .u64 (b : Nat), .int .u64 (bt : Nat), .slice a xs.length c] 66 (0, 0)) = W := ⟨_, rfl⟩
  have F1 : Hid (Fr (fun _ _ => True) w W1) := hW1 ▸ (Fr.refl _ _).alloc _
  have X1 : Hid (W1.heap[w.heap.size]? = some (.cells #[.int .u64 (b : Nat), .int .u64 (bt : Nat), .slice a xs.length c] 66 (0, 0))) := hW1 ▸ heap_alloc_new w _
  have p0 := cell_mk (i := 0) X1.out rfl
  have p1 := cell_mk (i := 1) X1.out rfl
  have p2 := cell_mk (i := 2) X1.out rfl
  have HC := Lib.hid (thas_calls W1 b bt i a xs.length c hb)
  by_cases h : b < i ∧ i ≤ b + xs.length
  · rw [decide_eq_true h] at HC
    rw [if_pos h]
    obtain ⟨k, hk⟩ : ∃ k, i - b - 1 = k := ⟨_, rfl⟩
    rw [hk]
    have hkx : k ≤ xs.length := by omega
    obtain ⟨L, hL⟩ : ∃ L, xs.length = L := ⟨_, rfl⟩
    have R1 := (hx.tt F1.out).dropS hkx
    rw [hL] at R1 HC hkx hb hm h hW1 p2 X1
    obtain ⟨ad, had⟩ : ∃ x, subS a c k 3 = x := ⟨_, rfl⟩
    rw [had] at R1
    have hdl : (xs.drop k).length = L - k := by rw [List.length_drop, hL]
    have hcap := hx.form
    have hLc : L ≤ c := by obtain ⟨_, _, e, q⟩ := hx.form; cases e; rw [← hL]; exact q
    obtain ⟨q, hq⟩ : ∃ q, L - k = q := ⟨_, rfl⟩
    obtain ⟨cc, hcc⟩ : ∃ x, c - k = x := ⟨_, rfl⟩
    rw [hq, hcc] at R1
    have hqc : q ≤ cc := by omega
    have hq1 : 1 ≤ q := by omega
    have hs1 : ∀ w : World, (Instr.slice 64 (.slice a L c) (some (.int .u64 (k : Nat))) none none).run Tryd.prog w = .ok (.slice ad q cc) w := fun w => by
      rw [run_sliceF 3 Tryd.underlying64 size_enS w a L c k .u64 hkx, had, hq, hcc]
    have w1 : IntKind.u64.wrap ((i : Int) - (b : Int)) = ((i - b : Nat) : Int) := by rw [IntKind.wrap_u64]; omega
    have w2 : IntKind.u64.wrap (((i - b : Nat) : Int) - 1) = ((k : Nat) : Int) := by rw [IntKind.wrap_u64]; omega
    have HR := Lib.hid (show min most q = ((xs.drop k).take most).length by rw [List.length_take, hdl, hq])
    obtain ⟨mm, hmm⟩ : ∃ x, min most q = x := ⟨_, rfl⟩
    have hm1 : mm ≤ q := by omega
    have hmi : min (most : Int) (q : Int) = (mm : Int) := by omega
    have hs2 : ∀ w : World, (Instr.slice 64 (.slice ad q cc) none (some (.int .i64 (mm : Nat))) none).run Tryd.prog w = .ok (.slice ad mm cc) w := fun w => run_sliceS 3 Tryd.underlying64 size_enS w ad q cc mm .i64 (by omega)
    have R2 := R1.takeS (m := mm) (by rw [hdl, hq]; exact hm1)
    have e2 : (xs.drop k).take mm = (xs.drop k).take most := by
      rw [← hmm]
      rcases Nat.le_total most q with z | z
      · rw [Nat.min_eq_left z]
      · rw [Nat.min_eq_right z, List.take_of_length_le (by rw [hdl, hq]; exact Nat.le_refl _), List.take_of_length_le (by rw [hdl, hq]; exact z)]
    rw [e2] at R2
    have RH := Lib.hid R2
    have hml : ((xs.drop k).take most).length ≤ 1000000 := by rw [List.length_take]; omega
    generalize (xs.drop k).take most = ys at RH hml HR R2
    rw [hmm] at HR
    rw [hL]
    have HW1 := Lib.hid hW1
    have m1 : decide ((most : Int) < 1) = false := by simp; omega
    clear hx R1 R2 hW1 e2 hdl hcap hL h hb
    unfold vL at HC ⊢
    go_enter Tryd.func43, Tryd.ntmps43
    go_wp2_with fail
    try rw [HW1.out]
    (with_reducible refine HC.out.mono ?_)
    rintro e w2 ⟨rfl, f2⟩
    have F2 := Lib.hid (F1.out.trans f2)
    have X2 := f2.keep _ _ X1.out trivial
    have CC := Lib.hid (clone_en w2 (.slice ad mm cc) ys (by have := RH.out.tt f2; exact this) hml)
    clear p0 p1 p2
    have p0 := cell_mk (i := 0) X2 rfl
    have p1 := cell_mk (i := 1) X2 rfl
    have p2 := cell_mk (i := 2) X2 rfl
    have SZ : Hid (w.heap.size ≤ w2.heap.size) := F2.out.size
    clear f2 X2 HC
    clear hkx had hq hcc hqc hq1 hLc hm hml hk hm1 hmi F1 X1 HW1 HR
    have fin : ∀ e w', ((∃ a c, e = Ending.returned (.slice a ys.length c) ∧ RowsAt (fun c _ => w2.heap.size ≤ c) w' (.slice a ys.length c) 3 encE ys) ∧ Fr (fun _ _ => True) w2 w') → (∃ a' c', e = Ending.returned (.slice a' ys.length c') ∧ RowsAt (fun c _ => w.heap.size ≤ c) w' (.slice a' ys.length c') 3 encE ys) ∧ Fr (fun _ _ => True) w w' := fun e w' hh => by
      obtain ⟨⟨a', c', e1, e2⟩, e3⟩ := hh
      exact ⟨⟨a', c', e1, e2.mono fun c _ _ hc => Nat.le_trans SZ.out hc⟩, F2.out.trans e3⟩
    have FIN := Lib.hid fin
    clear fin
    rcases Nat.lt_or_ge q most with z | z
    rotate_left
    · have z1 : (most : Int) ≤ (q : Int) := by omega
      have z2 : mm = most := by omega
      subst z2
      clear hmm z
      go_wp2_with fail
      (with_reducible refine CC.out.mono ?_)
      rintro e w3 hh
      obtain ⟨⟨a3, c3, rfl, r3⟩, f3⟩ := FIN.out _ _ hh
      have R3 := Lib.hid r3
      have F3 := Lib.hid f3
      clear hh r3 f3 CC FIN
      go_wp2
      go_ret
      exact ⟨⟨_, _, rfl, R3.out⟩, F3.out⟩
    · have z1 : ¬ (most : Int) ≤ (q : Int) := by omega
      have z3 : (q : Int) < (most : Int) := by omega
      have z2 : mm = q := by omega
      subst z2
      clear hmm z
      go_wp2_with fail
      (with_reducible refine CC.out.mono ?_)
      rintro e w3 hh
      obtain ⟨⟨a3, c3, rfl, r3⟩, f3⟩ := FIN.out _ _ hh
      have R3 := Lib.hid r3
      have F3 := Lib.hid f3
      clear hh r3 f3 CC FIN
      go_wp2
      go_ret
      exact ⟨⟨_, _, rfl, R3.out⟩, F3.out⟩
  · rw [decide_eq_false h] at HC
    rw [if_neg h]
    clear hx hb hm
    have HW1 := Lib.hid hW1
    clear hW1
    have m1 : decide ((most : Int) < 1) = false := by simp; omega
    unfold vL at HC ⊢
    go_enter Tryd.func43, Tryd.ntmps43
    go_wp2_with fail
    try rw [HW1.out]
    (with_reducible refine HC.out.mono ?_)
    rintro e w2 ⟨rfl, f2⟩
    have F2 := Lib.hid (F1.out.trans f2)
    go_wp2
    go_ret
    exact ⟨⟨none, 0, rfl, RowsAt.nil _ _ _ _⟩, F2.out⟩
set_option maxRecDepth 100000 in
set_option maxHeartbeats 2000000 in
/-- begins. -/
theorem begins_calls {K1 K2 K3 K4 : Nat → Obj → Prop} (w : World) (a1 : Option Addr) (c1 : Nat) (a2 : Option Addr) (c2 : Nat) (A B : List EV) (hA : RowsAt K1 w (.slice a1 A.length c1) 3 encE A) (hB : RowsAt K2 w (.slice a2 B.length c2) 3 encE B) (dA : ∀ x ∈ A, BytesAt K3 w (.slice x.a x.d.length x.c) x.d ∧ x.d.length ≤ 140737488355328) (dB : ∀ x ∈ B, BytesAt K4 w (.slice x.a x.d.length x.c) x.d) (hl : A.length ≤ 1000000) :
    Calls Tryd.prog 45 #[.slice a1 A.length c1, .slice a2 B.length c2] w fun e w' => e = .returned (.bool (decide (A.length ≤ B.length ∧ A.map EV.en = (B.map EV.en).take A.length))) ∧ Fr (fun _ _ => True) w w' := by
  have hBc : B.length ≤ c2 := by obtain ⟨_, _, e, q⟩ := hB.form; cases e; exact q
  by_cases h : A.length ≤ B.length
  · have R2 := hB.takeS h
    have EC := Lib.hid (esame_calls w _ _ A (B.take A.length) hA R2 dA (fun x hx => dB x (List.mem_of_mem_take hx)) hl)
    have HR : Hid (decide (A.length ≤ B.length ∧ A.map EV.en = (B.map EV.en).take A.length) = decide (A.map EV.en = (B.take A.length).map EV.en)) := by
      show _ = _
      rw [List.map_take]
      simp [h]
    have hs2 : ∀ w : World, (Instr.slice 64 (.slice a2 B.length c2) none (some (.int .i64 (A.length : Nat))) none).run Tryd.prog w = .ok (.slice a2 A.length c2) w := fun w => run_sliceS 3 Tryd.underlying64 size_enS w a2 B.length c2 A.length .i64 (by omega)
    generalize decide (A.length ≤ B.length ∧ A.map EV.en = (B.map EV.en).take A.length) = R at HR ⊢
    generalize decide (A.map EV.en = (B.take A.length).map EV.en) = S at EC HR
    have hc : decide ((A.length : Int) > (B.length : Int)) = false := by simp; omega
    have hc2 : (A.length : Int) ≤ (B.length : Int) := by omega
    generalize A.length = la at *
    generalize B.length = lb at *
    clear hA hB dA dB R2 h hl hBc
    go_enter Tryd.func45, Tryd.ntmps45
    go_wp2_with fail
    (with_reducible refine EC.out.mono ?_)
    rintro e w2 ⟨rfl, k, rfl⟩
    go_wp2
    go_ret
    exact ⟨by rw [HR.out]; rfl, (Fr.refl _ _).drewN k⟩
  · have HR : Hid (decide (A.length ≤ B.length ∧ A.map EV.en = (B.map EV.en).take A.length) = false) := decide_eq_false fun k => h k.1
    generalize decide (A.length ≤ B.length ∧ A.map EV.en = (B.map EV.en).take A.length) = R at HR ⊢
    have hc : decide ((A.length : Int) > (B.length : Int)) = true := by simp; omega
    have hc2 : (B.length : Int) < (A.length : Int) := by omega
    generalize A.length = la at *
    generalize B.length = lb at *
    clear hA hB dA dB h hl hBc
    go_enter Tryd.func45, Tryd.ntmps45
    go_wp2
    go_ret
    exact ⟨by rw [HR.out]; rfl, Fr.refl _ _⟩
end Go.Proofs.YtcpbmempfeloaaaDoor
/- Law 14: what is found behind a crash amid a save is as the law says, plainly. -/
namespace Go.Proofs.YtcpbmempfeloaaaDoor
open Go.RowKit
set_option linter.unusedVariables false
set_option linter.unusedSimpArgs false

theorem raise_vote (s : Sta) : (raise s).vote = s.vote ∨ (raise s).vote = -1 := by
  rw [(raise_es s).2.2.2.2]
  split
  · exact .inr rfl
  · exact .inl rfl
theorem took_max {s0 sv : Sta} (h : Took s0 sv) : (raise s0).term = max sv.term (lastT (raise s0)) := by
  have h1 := (raise_es s0).2.2.2.1
  rw [raise_last]
  rcases h with rfl | rfl
  · exact h1
  · omega
theorem AmidT.term {s0 s sv t : Sta} {c : Int} (h : AmidT s0 s t c) (k : Took s0 sv) : t.term = max sv.term (lastT t) ∨ t.term = max s.term (lastT t) := by
  rcases h with ⟨_, rfl⟩ | ⟨_, _, _, es', rfl, _⟩
  · exact .inl (took_max k)
  · refine .inr ?_
    have := (raise_es { s with es := es' }).2.2.2.1
    rw [raise_last]
    exact this
theorem AmidT.vote {s0 s sv t : Sta} {c : Int} (h : AmidT s0 s t c) (k : Took s0 sv) : t.vote = sv.vote ∨ t.vote = s.vote ∨ t.vote = -1 := by
  rcases h with ⟨_, rfl⟩ | ⟨_, _, _, es', rfl, _⟩
  · rcases k with rfl | rfl
    · rcases raise_vote sv with h | h
      · exact .inl h
      · exact .inr (.inr h)
    · exact .inl rfl
  · rcases raise_vote { s with es := es' } with h | h
    · exact .inr (.inl h)
    · exact .inr (.inr h)
theorem AmidT.was {s0 s sv t : Sta} {c : Int} (h : AmidT s0 s t c) (k : Took s0 sv) (hc : c = 1 ∨ t.base ≠ s.base) : t.base = sv.base ∧ t.bt = sv.bt ∧ t.es = sv.es ∧ c ≠ 0 := by
  obtain ⟨k1, k2, k3⟩ := k.es
  rcases h with ⟨h1, rfl⟩ | ⟨h1, _, _, es', rfl, _⟩
  · obtain ⟨r1, r2, r3, _⟩ := raise_es s0
    exact ⟨r2.trans k2.symm, r3.trans k3.symm, r1.trans k1.symm, h1⟩
  · rcases hc with hc | hc
    · exact absurd hc h1
    · exact absurd (raise_es { s with es := es' }).2.1 hc
/-- One list begins another one. -/
def Beg (a b : List En) : Prop := a.length ≤ b.length ∧ a = b.take a.length
theorem beg_take (b : List En) (m : Nat) : Beg (b.take m) b := by
  refine ⟨by rw [List.length_take]; omega, ?_⟩
  rw [List.length_take]
  rcases Nat.le_total m b.length with h | h
  · rw [Nat.min_eq_left h]
  · rw [Nat.min_eq_right h, List.take_of_length_le h, List.take_length]
theorem AmidT.ends {s0 s sv t : Sta} {c : Int} (h : AmidT s0 s t c) (k : Took s0 sv) (hc : c ≠ 1) (hb : t.base = s.base) : sv.base ≤ s.base ∧ (Beg t.es (behindS sv s) ∨ Beg t.es s.es) ∧ comm (behindS sv s) s.es ≤ t.es.length ∧ (c ≠ 0 ∨ (t.es.length = s.es.length ∧ Beg t.es s.es)) := by
  obtain ⟨k1, k2, k3⟩ := k.es
  have hbe : behindS sv s = behindS s0 s := by unfold behindS; rw [k1, k2]
  rw [hbe]
  obtain ⟨l1, l2, _⟩ := comm_le (behindS s0 s) s.es
  rcases h with ⟨h1, rfl⟩ | ⟨_, h2, _, es', rfl, h3⟩
  · obtain ⟨r1, r2, r3, _⟩ := raise_es s0
    rw [r2] at hb
    have e : behindS s0 s = s0.es := by unfold behindS; rw [hb, Nat.sub_self]; rfl
    rw [r1, k2]
    rw [e] at l1 ⊢
    exact ⟨by omega, .inl ⟨Nat.le_refl _, (List.take_length).symm⟩, l1, .inl h1⟩
  · obtain ⟨r1, _⟩ := raise_es { s with es := es' }
    rw [r1, k2]
    refine ⟨h2, ?_⟩
    dsimp only
    rcases h3 with ⟨h4, m, h5, rfl⟩ | ⟨m, h5, rfl, h6⟩
    · exact ⟨.inl (beg_take _ _), by rw [List.length_take]; omega, .inl h4⟩
    · refine ⟨.inr (beg_take _ _), by rw [List.length_take]; omega, ?_⟩
      by_cases h7 : c = 0
      · exact .inr ⟨by rw [List.length_take]; have := h6 h7; omega, beg_take _ _⟩
      · exact .inl h7
theorem comm_step {A B : List En} {j : Nat} (h1 : j < A.length) (h2 : j < B.length) (h : A[j] = B[j]) : comm (A.drop j) (B.drop j) = comm (A.drop (j + 1)) (B.drop (j + 1)) + 1 := by
  rw [List.drop_eq_getElem_cons h1, List.drop_eq_getElem_cons h2]
  show (if A[j] = B[j] then _ else _) = _
  rw [if_pos h]
theorem comm_stop {A B : List En} {j : Nat} (h : ∀ (h1 : j < A.length) (h2 : j < B.length), A[j] ≠ B[j]) : comm (A.drop j) (B.drop j) = 0 := by
  by_cases h1 : j < A.length
  · by_cases h2 : j < B.length
    · rw [List.drop_eq_getElem_cons h1, List.drop_eq_getElem_cons h2]
      show (if A[j] = B[j] then _ else _) = _
      rw [if_neg (h h1 h2)]
    · rw [List.drop_of_length_le (show B.length ≤ j by omega)]
      cases A.drop j <;> rfl
  · rw [List.drop_of_length_le (show A.length ≤ j by omega)]
    rfl
/-- The entries behind a number. -/
theorem slice_behind {sv s : Sta} {xs : List EV} (he : sv.es = xs.map EV.en) (hb : sv.base ≤ s.base) (hl : xs.length ≤ 100) : (if sv.base < s.base + 1 ∧ s.base + 1 ≤ sv.base + xs.length then (xs.drop (s.base + 1 - sv.base - 1)).take 100 else []).map EV.en = behindS sv s := by
  unfold behindS
  rw [he, ← List.map_drop]
  by_cases h : s.base + 1 ≤ sv.base + xs.length
  · rw [if_pos ⟨by omega, h⟩, List.take_of_length_le (by rw [List.length_drop]; omega)]
    congr 2
    omega
  · rw [if_neg (fun k => h k.2), List.drop_of_length_le (by omega)]
theorem AmidT.small {s0 s t : Sta} {c : Int} {m : Nat} (h : AmidT s0 s t c) (h0 : s0.right = true) (l0 : s0.es.length ≤ m) (l1 : s.es.length ≤ m) : t.base < 1152921504606846976 ∧ t.es.length ≤ m ∧ ∀ x ∈ t.es, x.d.length ≤ 24 := by
  obtain ⟨b0, p0, _⟩ := Sta.right_bad h0
  have dl : ∀ x : En, badE x = false → x.d.length ≤ 24 := fun x hx => by
    unfold badE at hx
    simp only [Bool.or_eq_false_iff, decide_eq_false_iff_not] at hx
    omega
  rcases h with ⟨_, rfl⟩ | ⟨_, h2, h3, es', rfl, h4⟩
  · obtain ⟨r1, r2, _⟩ := raise_es s0
    rw [r1, r2]
    exact ⟨p0, l0, fun x hx => dl x (b0 x hx)⟩
  · obtain ⟨b1, p1, _⟩ := Sta.right_bad h3
    obtain ⟨r1, r2, _⟩ := raise_es { s with es := es' }
    rw [r1, r2]
    dsimp only
    rcases h4 with ⟨_, k, _, rfl⟩ | ⟨k, _, rfl, _⟩
    · unfold behindS
      exact ⟨p1, by rw [List.length_take, List.length_drop]; omega, fun x hx => dl x (b0 x (List.mem_of_mem_drop (List.mem_of_mem_take hx)))⟩
    · exact ⟨p1, by rw [List.length_take]; omega, fun x hx => dl x (b1 x (List.mem_of_mem_take hx))⟩
theorem run_sliceJ {P : Program} {t e : TypeId} (s : Nat) (ht : P.underlying t = some (.slice e)) (hs : (sizeOf e).run P = fun w => .ok s w) (w : World) (a : Option Addr) (len cap n m : Nat) (k k' : IntKind) (h1 : n ≤ m) (h2 : m ≤ cap) :
    (Instr.slice t (.slice a len cap) (some (.int k n)) (some (.int k' m)) none).run P w = .ok (.slice (subS a cap n s) (m - n) (cap - n)) w := by
  have h0 : (0 : Int) ≤ m ∧ (m : Int) ≤ cap := by omega
  have h3 : (0 : Int) ≤ n ∧ (n : Int) ≤ m := by omega
  simp only [Instr.slice, Sem.run_bind, run_underlying ht, Result.andThen, Instr.sliceBounds, Instr.sliceBound, asIntOf, Sem.run_pure, h0, h3, and_self, ↓reduceIte, hs]
  simp [subS, h3]
theorem one_at {l : List EV} {j : Nat} (h : j < l.length) : (l.drop j).take 1 = [l[j]] := by rw [List.drop_eq_getElem_cons h]; rfl
theorem dec_ends {c : Int} {lt la lx : Nat} {r1 r2 : Bool} {k : Nat} (h1 : r1 = true ∨ r2 = true) (h2 : k ≤ lt) (h3 : c ≠ 0 ∨ (lt = lx ∧ r2 = true)) : (r1 || r2) = true ∧ decide ((lt : Int) ≥ (k : Int)) = true ∧ (c ≠ 0 ∨ (decide ((lt : Int) = (lx : Int)) = true ∧ r2 = true)) := by
  refine ⟨by simpa using h1, by simp; omega, ?_⟩
  rcases h3 with h | ⟨h, h'⟩
  · exact .inl h
  · exact .inr ⟨by simp [h], h'⟩
theorem beg_dec {A B : List EV} (h : Beg (A.map EV.en) (B.map EV.en)) : decide (A.length ≤ B.length ∧ A.map EV.en = (B.map EV.en).take A.length) = true := by
  obtain ⟨h1, h2⟩ := h
  rw [List.length_map] at h1 h2
  rw [List.length_map] at h1
  exact decide_eq_true ⟨h1, h2⟩
end Go.Proofs.YtcpbmempfeloaaaDoor
