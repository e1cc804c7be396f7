/- Texts of the proofs, part 10: what the functions that they reach do, walked; no conditions beyond those that each states. -/
import Derived.Deep.Slices
import Derived.Deep.Fields
import Derived.ChangeSame
import Derived.ProofKit
import Derived.OpenShut
import Derived.Test.YtaeonlafcbgpcaaDoorZzc669be4569
set_option linter.unusedVariables false
set_option linter.unusedSimpArgs false
/- Law 5: SlotTorn, the way in. -/
namespace Go.Proofs.YtaeonlafcbgpcaaDoor
open Go.RowKit

theorem step_append_fr {K0 : Nat → Obj → Prop} {ops : Array Oper} {o : Oper} {a : Act} {K : Act → World → Prop} {Q : Exit → Act → World → Prop} {E : Prop} (W0 W : World) (hF : Hid (Fr (fun _ _ => True) W0 W)) (hgd : o.guard = none) (s x : Operand)
    (ho : o.op = .call { callee := .builtin .append, args := #[s, x], argTypes := #[23, 23] }) (v : Value) (n : Nat) (xs : List UInt8) (hs : a.eval s = v) (hown : W.ownsRow W0.heap.size 5 1 v n (xs.map byteV))
    (ad : Addr) (m c : Nat) (bs : List UInt8) (hx : a.eval x = .slice (some ad) m c) (hb : BytesAt K0 W (.slice (some ad) m c) bs) (hn : n + m ≤ 2000000)
    (h : ∀ v' w', Hid (w'.ownsRow W0.heap.size 5 1 v' (n + m) ((xs ++ bs).map byteV)) → Hid (Fr (fun _ _ => True) W0 w') → K (a.put o.dst v') w') :
    if Region.wanted o (yielded ops a.tmps) = true then Oper.wp Tryd.prog o a W K Q else E :=
  step_append_bytes W hgd s x ho W0.heap.size hF.out.size v n xs hs hown ad m c bs hx hb hn fun v' w' h1 h2 => h v' w' h1 (hF.out.grown_new h2 fun _ e => own_le hown e)

set_option maxRecDepth 100000 in
set_option maxHeartbeats 2000000 in
theorem torn_in {K1 K2 : Nat → Obj → Prop} (w : World) (s m : Nat) (a1 a2 : Option Addr) (l1 l2 c1 c2 : Nat) (one two : List UInt8) (cut : Nat) (h1 : BytesAt K1 w (.slice a1 l1 c1) one) (h2 : BytesAt K2 w (.slice a2 l2 c2) two) (ht : TabOK w) (hs : s < 4294967296) (hm : m < 4294967296) (hb1 : one.length ≤ 43) (hb2 : two.length ≤ 43) (hcut : cut ≤ 64) (hsm : s ≠ m) (hs0 : 0 < s) (hm0 : 0 < m) :
    Calls Tryd.prog 4 #[.int .u32 (s : Nat), .int .u32 (m : Nat), .slice a1 l1 c1, .slice a2 l2 c2, .int .i64 (cut : Nat)] w fun e w' => e = .returned (.bool true) ∧ Fr (fun _ _ => True) w w' := by
  have HT := Lib.hid ht
  have H1 := Lib.hid h1
  have H2 := Lib.hid h2
  have HB1 := Lib.hid hb1
  have HB2 := Lib.hid hb2
  have HLAW := Lib.hid (torn_law s m one two cut hcut hsm hs hm hb1 hb2)
  have HPA := Lib.hid (parse_stamp s 0 one hs0 hs (by decide) hb1)
  have HPB := Lib.hid (parse_stamp m 0 two hm0 hm (by decide) hb2)
  have LA := Lib.hid (stampB_length s 0 one hb1)
  have LB := Lib.hid (stampB_length m 0 two hb2)
  have HTL : Hid (((stampB s 0 one).take cut ++ (stampB m 0 two).drop cut).length = 64) := by
    have h1 := LA.out
    have h2 := LB.out
    show _ = _
    rw [List.length_append, List.length_take, List.length_drop]; omega
  clear h1 h2 ht hb1 hb2
  have qsm : ((s : Int) == m) = false := by simp; omega
  have qms : ((m : Int) == s) = false := by simp; omega
  have qs : ((s : Int) == 0) = false := by simp; omega
  have qm : ((m : Int) == 0) = false := by simp; omega
  clear hsm
  go_enter Tryd.func4, Tryd.ntmps4
  go_wp2_with fail
  (with_reducible refine (awake_calls _ HT.out).mono ?_)
  rintro e w1 ⟨rfl, f1⟩
  have F1 := Lib.hid f1
  clear f1
  go_wp2_with fail
  (with_reducible refine (stamp_any _ s _ _ (by rfl) (by rfl) _ one (H1.out.tt F1.out) (HT.out.tt F1.out) hs).mono ?_)
  rintro e w2 ⟨hx, f2⟩
  have F2 := Lib.hid (F1.out.tt f2)
  clear f2
  rcases hx with ⟨hq, rfl⟩ | ⟨hq, a4, c4, rfl, b4⟩
  · exact absurd HB1.out (Nat.not_le.2 hq)
  clear hq
  have B4 := Lib.hid b4
  clear b4
  go_wp2_with fail
  (with_reducible refine (stamp_any _ m _ _ (by rfl) (by rfl) _ two (H2.out.tt F2.out) (HT.out.tt F2.out) hm).mono ?_)
  rintro e w3 ⟨hx, f3⟩
  rcases hx with ⟨hq, rfl⟩ | ⟨hq, a5, c5, rfl, b5⟩
  · exact absurd HB2.out (Nat.not_le.2 hq)
  have F3 := Lib.hid (F2.out.tt f3)
  have B4' := Lib.hid (B4.out.tt f3)
  have B5 := Lib.hid b5
  clear hq b5 f3 B4
  go_wp2
  have b4 := B4'.out
  have b5 := B5.out
  obtain ⟨g4, o4, rfl⟩ := b4.addr (by rw [LA.out]; decide)
  obtain ⟨g5, o5, rfl⟩ := b5.addr (by rw [LB.out]; decide)
  have hc4 : 64 ≤ c4 := b4.cap
  have hc5 : 64 ≤ c5 := b5.cap
  have hsl1 := fun W => run_slice_to (P := Tryd.prog) Tryd.underlying23 size_u8 W (some ⟨g4, o4, none⟩) 64 c4 cut .i64 (by omega)
  have hsl2 := fun W => run_slice_from (P := Tryd.prog) Tryd.underlying23 size_u8 W (some ⟨g5, o5, none⟩) 64 c5 cut .i64 hcut
  have T4 := Lib.hid (b4.take cut (by rw [LA.out]; exact hcut))
  have T5 := Lib.hid (b5.drop cut (by rw [LB.out]; exact hcut))
  have hsub : ∃ ad, subA (some ⟨g5, o5, none⟩) c5 cut = some ad := by unfold subA; split; exact ⟨_, rfl⟩; exact ⟨_, rfl⟩
  obtain ⟨ad5, had⟩ := hsub
  rw [had] at T5
  simp only [had] at hsl2
  clear b4 b5 had
  have O4 : Hid (((w3.alloc (.cells #[] 5)).drew).ownsRow w3.heap.size 5 1 (.slice (some ⟨w3.heap.size, 0, none⟩) 0 0) 0 (([] : List UInt8).map byteV)) := (World.ownsRow_lit w3 #[] 0 (Nat.le_refl _) (by simp) rfl).drew
  have T4' := Lib.hid (T4.out.tt (w' := (w3.alloc (.cells #[] 5)).drew) ((Fr.refl _ _).alloc _).drew)
  have F4' : Hid (Fr (fun _ _ => True) w3 (w3.alloc (.cells #[] 5)).drew) := ((Fr.refl _ _).alloc _).drew
  have hnA : 0 + cut ≤ 2000000 := by omega
  have hnB : 0 + cut + (64 - cut) ≤ 2000000 := by omega
  go_upto_region 6 with fail
  go_cut [16] (fun s9 wx => ∃ a9 c9, s9 = .slice a9 64 c9 ∧ BytesAt (New w3.heap.size) wx (.slice a9 64 c9) ((stampB s 0 one).take cut ++ (stampB m 0 two).drop cut) ∧ Fr (fun _ _ => True) w3 wx)
  case first =>
    go_region_law (first | (refine step_append_fr w3 _ F4' rfl _ _ rfl _ 0 [] rfl O4.out _ _ _ _ rfl T4'.out hnA ?_; intro v6 w6 O6 F6) | (refine step_append_fr w3 _ F6 rfl _ _ rfl _ _ _ rfl O6.out _ _ _ _ rfl (T5.out.tt F6.out) hnB ?_; intro v7 w7 O7 F7))
    all_goals
      have o7 : w7.ownsRow w3.heap.size 5 1 v7 64 (((stampB s 0 one).take cut ++ (stampB m 0 two).drop cut).map byteV) := by
        have := O7.out
        rwa [List.nil_append, show 0 + cut + (64 - cut) = 64 from by omega] at this
      obtain ⟨a9, c9, rfl⟩ := own_form o7
      have b7 := Lib.hid (BytesAt.of_owns (w := w7) (B := w3.heap.size) (v := .slice a9 64 c9) (bs := (stampB s 0 one).take cut ++ (stampB m 0 two).drop cut) (by rw [HTL.out]; exact o7))
      clear o7 O7
      go_wp2_with fail
      go_meet
    exact ⟨a9, c9, rfl, b7.out, F7.out⟩
  case rest =>
    obtain ⟨a9, c9, rfl, b9, f9⟩ := hcut
    have B9 := Lib.hid b9
    have F9 := Lib.hid f9
    clear b9 f9
    go_wp2_with fail
    (with_reducible refine (parse_calls _ _ _ B9.out (HT.out.tt (F3.out.tt F9.out))).mono ?_)
    rintro e w10 ⟨hx, f10⟩
    have F10 := Lib.hid ((F3.out.tt F9.out).tt f10)
    clear f10
    rcases hx with ⟨_, rfl⟩ | ⟨s', p', b', a10, c10, hpp, rfl, b10⟩
    · go_wp2
      go_ret
      exact ⟨rfl, F10.out⟩
    · have hpick : (s' = s ∧ b' = one) ∨ (s' = m ∧ b' = two) := by
        rcases HLAW.out with h | h | h
        · rw [h] at hpp; cases hpp
        · rw [h, HPA.out] at hpp; cases hpp; exact .inl ⟨rfl, rfl⟩
        · rw [h, HPB.out] at hpp; cases hpp; exact .inr ⟨rfl, rfl⟩
      have B10 := Lib.hid b10
      clear hpp b10
      rcases hpick with ⟨rfl, rfl⟩ | ⟨rfl, rfl⟩
      · go_wp2_with fail
        (with_reducible refine (same_calls _ _ _ _ _ B10.out (H1.out.tt F10.out) (by have := HB1.out; omega)).mono ?_)
        rintro e w11 ⟨rfl, k11, hw⟩
        have F11 : Hid (Fr (fun _ _ => True) w w11) := by rw [hw]; exact F10.out.drewN k11
        clear hw
        simp only [decide_true]
        go_wp2
        go_ret
        exact ⟨rfl, F11.out⟩
      · go_wp2_with fail
        (with_reducible refine (same_calls _ _ _ _ _ B10.out (H2.out.tt F10.out) (by have := HB2.out; omega)).mono ?_)
        rintro e w11 ⟨rfl, k11, hw⟩
        have F11 : Hid (Fr (fun _ _ => True) w w11) := by rw [hw]; exact F10.out.drewN k11
        clear hw
        simp only [decide_true]
        go_wp2
        go_ret
        exact ⟨rfl, F11.out⟩
end Go.Proofs.YtaeonlafcbgpcaaDoor
/- Arguments that can be read as data: what lies in memory, by the type's shape. -/
namespace Go.Proofs.YtaeonlafcbgpcaaDoor
open Go.RowKit Go.ChangeShapes Go.WideShapes

/-- The cells can be read as a value of the type. -/
def Rd (P : Program) (w : World) (t : TypeId) (cs : List Value) : Prop :=
  ∃ (H : Type) (enc : TypeId × Value → H) (sp : Nat → Bool) (held : Bool) (fuel : Nat) (x : DataW H × List MemPlace), DataW.trod enc P w 0 sp held fuel t cs = some x

theorem Rd.of {H : Type} {enc : TypeId × Value → H} {P : Program} {w : World} {sp : Nat → Bool} {held : Bool} {t : TypeId} {v : Value} {d : DataW H} {p : List MemPlace} (h : DataW.Trod enc P w 0 sp held t v d p) : Rd P w t v.cells.toList := by
  obtain ⟨fuel, hf⟩ := h
  exact ⟨H, enc, sp, held, fuel, _, hf⟩

section
variable {P : Program} {w : World} {t e : TypeId} {cs : List Value}
theorem Rd.int {k : IntKind} (ht : P.underlying t = some (.int k)) (h : Rd P w t cs) : ∃ n, cs = [.int k n] ∧ (Lit.int k n).wf = true := by
  obtain ⟨H, enc, sp, held, fuel, x, h⟩ := h
  obtain ⟨n, h1, _, h2⟩ := DataW.trod_int ht h
  exact ⟨n, h1, h2⟩
theorem Rd.bool (ht : P.underlying t = some .bool) (h : Rd P w t cs) : ∃ b, cs = [.bool b] := by
  obtain ⟨H, enc, sp, held, fuel, x, h⟩ := h
  obtain ⟨n, h1, _⟩ := DataW.trod_bool ht h
  exact ⟨n, h1⟩
/-- A slice: nil, or len elements of sz cells each. -/
theorem Rd.slice {sz : Nat} (ht : P.underlying t = some (.slice e)) (hs : P.cellsOf e = sz) (h : Rd P w t cs) :
    ∃ a len cap, cs = [.slice a len cap] ∧ len ≤ cap ∧ cap ≤ maxLen ∧ (a = none → cap = 0) ∧
      ∀ i, i < len → ∃ ad cs', a = some ad ∧ cs'.length = sz ∧ (∀ j, j < sz → w.cell? (ad.add (i * sz + j)) = cs'[j]?) ∧ Rd P w e cs' := by
  obtain ⟨H, enc, sp, held, fuel, x, h⟩ := h
  rcases Go.Deep.open_slice ht h with ⟨rfl, _⟩ | ⟨a, len, cap, m, n, D, Pl, rfl, _, hl, hm, hmm, _, hi⟩
  · exact ⟨none, 0, 0, rfl, Nat.le_refl _, by simp, fun _ => rfl, fun i hi => by omega⟩
  · refine ⟨some a, len, cap, rfl, hl, hm, (fun e => by cases e), fun i hil => ?_⟩
    have him : i < m := by rw [hmm]; split <;> omega
    obtain ⟨cs', hc, ht'⟩ := hi i him
    obtain ⟨_, hcl, hat⟩ := World.cells?_some hc
    refine ⟨a, cs', rfl, by omega, fun j hj => ?_, H, enc, sp, held, n, _, ht'⟩
    rw [← hat j (by omega), Go.Deep.add_add, hs]
theorem Rd.struct {fs : Array Field} {sz : Nat} (ht : P.underlying t = some (.struct fs)) (hs : P.cellsOf t = sz) (h : Rd P w t cs) :
    cs.length = sz ∧ ∀ (i : Nat) (f : Field), fs[i]? = some f → Rd P w f.type (List.take (P.cellsOf f.type) (List.drop f.offset cs)) := by
  obtain ⟨H, enc, sp, held, fuel, x, h⟩ := h
  obtain ⟨xs, n, _, _, hl, hx, hf⟩ := DataW.trod_struct ht h
  refine ⟨by omega, fun i f hi => ?_⟩
  have h1 := hf i f hi
  have hlt : i < xs.length := by
    have := (Array.getElem?_eq_some_iff.1 hi).1
    omega
  rw [List.getElem?_eq_getElem hlt] at h1
  exact ⟨H, enc, sp, held, n, _, h1⟩
end

theorem list2 {α : Type} {l : List α} (h : l.length = 2) : ∃ a b, l = [a, b] := by match l, h with | [a, b], _ => exact ⟨a, b, rfl⟩
theorem list3 {α : Type} {l : List α} (h : l.length = 3) : ∃ a b c, l = [a, b, c] := by match l, h with | [a, b, c], _ => exact ⟨a, b, c, rfl⟩
theorem list4 {α : Type} {l : List α} (h : l.length = 4) : ∃ a b c d, l = [a, b, c, d] := by match l, h with | [a, b, c, d], _ => exact ⟨a, b, c, d, rfl⟩
theorem list5 {α : Type} {l : List α} (h : l.length = 5) : ∃ a b c d e, l = [a, b, c, d, e] := by match l, h with | [a, b, c, d, e], _ => exact ⟨a, b, c, d, e, rfl⟩
theorem list6 {α : Type} {l : List α} (h : l.length = 6) : ∃ a b c d e f, l = [a, b, c, d, e, f] := by match l, h with | [a, b, c, d, e, f], _ => exact ⟨a, b, c, d, e, f, rfl⟩

/-- The cell at the place of a field. -/
theorem add_at (b off k : Nat) : Addr.add ⟨b, off, none⟩ k = ⟨b, off + k, none⟩ := by
  unfold Addr.add
  split
  · subst k; rfl
  · rfl
theorem spot_of {w : World} {ad : Addr} {v : Value} (h : w.cell? (ad.add 0) = some v) : ∃ b off, ad = ⟨b, off, none⟩ := by
  have := cell_spot h
  obtain ⟨b, off, sp⟩ := ad
  simp [Addr.add] at this
  exact ⟨b, off, by rw [this]⟩
end Go.Proofs.YtaeonlafcbgpcaaDoor
/- An argument that is a slice of bytes. -/
namespace Go.Proofs.YtaeonlafcbgpcaaDoor
open Go.RowKit

theorem list_of {α : Type} {p : Nat → α → Prop} : ∀ n : Nat, (∀ i, i < n → ∃ x, p i x) → ∃ l : List α, l.length = n ∧ ∀ i, (h : i < l.length) → p i l[i]
  | 0, _ => ⟨[], rfl, fun i h => by simp at h⟩
  | n + 1, h => by
    obtain ⟨l, hl, hp⟩ := list_of n fun i hi => h i (by omega)
    obtain ⟨x, hx⟩ := h n (by omega)
    refine ⟨l ++ [x], by simp [hl], fun i hi => ?_⟩
    by_cases hc : i < l.length
    · rw [List.getElem_append_left hc]; exact hp i hc
    · have : i = n := by simp at hi; omega
      subst this
      rw [List.getElem_append_right (by omega)]
      simpa [hl] using hx

theorem Rd.bytes {P : Program} {w : World} {t e : TypeId} {v : Value} (ht : P.underlying t = some (.slice e)) (he : P.underlying e = some (.int .u8)) (hs : P.cellsOf e = 1) (h : Rd P w t [v]) :
    ∃ bs, BytesAt (fun b _ => b < w.heap.size) w v bs ∧ bs.length ≤ maxLen := by
  obtain ⟨a, len, cap, hv, hl, hm, hn, hc⟩ := h.slice ht hs
  obtain rfl : v = .slice a len cap := by simpa using hv
  obtain ⟨bs, hbl, hb⟩ := list_of (p := fun i (x : UInt8) => ∃ ad, a = some ad ∧ w.cell? (ad.add i) = some (byteV x)) len fun i hi => by
    obtain ⟨ad, cs', ha, _, hj, hr⟩ := hc i hi
    obtain ⟨n, rfl, hw⟩ := hr.int he
    obtain ⟨h0, h1⟩ := bounds_u8 hw
    refine ⟨UInt8.ofNat n.toNat, ad, ha, ?_⟩
    have e1 := hj 0 (by omega)
    rw [Nat.mul_one, Nat.add_zero] at e1
    rw [e1, byteV, UInt8.toNat_ofNat']
    show some (Value.int .u8 n) = _
    congr 2
    omega
  refine ⟨bs, ⟨a, cap, by rw [hbl], by omega, hn, ?_⟩, by omega⟩
  by_cases h0 : bs = []
  · exact .inl h0
  · have hp : 0 < bs.length := List.length_pos_iff.2 h0
    obtain ⟨ad, ha, e0⟩ := hb 0 hp
    obtain ⟨b, off, rfl⟩ := spot_of e0
    have hlt := cell_lt e0
    have hlt' : b < w.heap.size := by simpa [add_at] using hlt
    refine .inr ⟨b, off, w.heap[b], ha, Array.getElem?_eq_getElem hlt', hlt', fun i hi => ?_⟩
    obtain ⟨ad', ha', e1⟩ := hb i hi
    rw [ha] at ha'
    cases ha'
    rw [add_at] at e1
    exact e1

end Go.Proofs.YtaeonlafcbgpcaaDoor
/- Law 5: SlotTorn, whole. -/
namespace Go.Proofs.YtaeonlafcbgpcaaDoor
open Go.RowKit

theorem nat_u32 {z : Int} (h : (Lit.int .u32 z).wf = true) : ∃ n : Nat, z = n ∧ n < 4294967296 := by
  obtain ⟨h0, h1⟩ := bounds_u32 h
  exact ⟨z.toNat, by omega, by omega⟩
theorem size_u8c : Tryd.prog.cellsOf 5 = 1 := by kernel_rfl
theorem Rd.bs {w : World} {v : Value} (h : Rd Tryd.prog w 23 [v]) : ∃ bs, BytesAt (fun b _ => b < w.heap.size) w v bs ∧ bs.length ≤ maxLen := Rd.bytes Tryd.underlying23 Tryd.underlying5 size_u8c h
theorem Fr.bel {w w' : World} (h : Fr (fun _ _ => True) w w') : Below w.heap.size w w' := (h.mono fun _ _ _ => trivial : Fr (fun b _ => b < w.heap.size) w w').below (Nat.le_refl _)

theorem torn_walk (W : World) (zs zm cut : Int) (hs : (Lit.int .u32 zs).wf = true) (hm : (Lit.int .u32 zm).wf = true) (a1 a2 : Option Addr) (l1 l2 c1 c2 : Nat) (r1 : Rd Tryd.prog W 23 [.slice a1 l1 c1]) (r2 : Rd Tryd.prog W 23 [.slice a2 l2 c2]) (ht : TabOK W) :
    Calls Tryd.prog 4 #[.int .u32 zs, .int .u32 zm, .slice a1 l1 c1, .slice a2 l2 c2, .int .i64 cut] W fun e w' => e = .returned (.bool true) ∧ Below W.heap.size W w' := by
  obtain ⟨s, rfl, ks⟩ := nat_u32 hs
  obtain ⟨m, rfl, km⟩ := nat_u32 hm
  obtain ⟨one, h1, _⟩ := r1.bs
  obtain ⟨two, h2, _⟩ := r2.bs
  by_cases ho : tornOut s m one two cut
  · exact (torn_out W s m a1 a2 l1 l2 c1 c2 one two cut h1 h2 ht ks km ho).mono fun e w' ⟨he, hf⟩ => ⟨he, hf.bel⟩
  · unfold tornOut at ho
    obtain ⟨k, rfl⟩ := Int.eq_ofNat_of_zero_le (a := cut) (by omega)
    exact (torn_in W s m a1 a2 l1 l2 c1 c2 one two k h1 h2 ht ks km (by omega) (by omega) (by omega) (by omega) (by omega) (by omega)).mono fun e w' ⟨he, hf⟩ => ⟨he, hf.bel⟩
end Go.Proofs.YtaeonlafcbgpcaaDoor
/- Clean disks, plainly: what two sectors of one place have, whatever is put, saved, synced and crashed there. -/
namespace Go.Proofs.YtaeonlafcbgpcaaDoor
open Go.RowKit

theorem ofLE_torn : ∀ (j : Nat) (u v : List UInt8), u.length = v.length → ofLE (u.take j ++ v.drop j) = ofLE u % 256 ^ j + ofLE v / 256 ^ j * 256 ^ j
  | 0, u, v, _ => by simp [Nat.mod_one]
  | j + 1, [], [], _ => by simp [ofLE]
  | j + 1, [], c :: v, h => by simp at h
  | j + 1, a :: u, [], h => by simp at h
  | j + 1, a :: u, c :: v, h => by
    have ih := ofLE_torn j u v (by simpa using h)
    have ha := a.toNat_lt
    have hc := c.toNat_lt
    rw [List.take_succ_cons, List.drop_succ_cons, List.cons_append, ofLE, ih, ofLE, ofLE, Nat.pow_succ, Nat.mul_comm (256 ^ j) 256, Nat.mod_mul, ← Nat.div_div_eq_div_mul]
    have e1 : (a.toNat + 256 * ofLE u) % 256 = a.toNat := by omega
    have e2 : (a.toNat + 256 * ofLE u) / 256 = ofLE u := by omega
    have e3 : (c.toNat + 256 * ofLE v) / 256 = ofLE v := by omega
    rw [e1, e2, e3, Nat.mul_add]
    have e4 : 256 * (ofLE v / 256 ^ j * 256 ^ j) = ofLE v / 256 ^ j * (256 * 256 ^ j) := by rw [Nat.mul_left_comm]
    omega
theorem torn_get' (U V : List UInt8) (h : U.length = V.length) (q i : Nat) : (U.take q ++ V.drop q)[i]? = if i < q then U[i]? else V[i]? := by
  by_cases hq : q ≤ U.length
  · have hl : (U.take q).length = q := by simp; omega
    by_cases hi : i < q
    · rw [List.getElem?_append_left (by omega), if_pos hi, List.getElem?_take, if_pos hi]
    · rw [List.getElem?_append_right (by omega), if_neg hi, hl, List.getElem?_drop]
      congr 1; omega
  · rw [List.take_of_length_le (by omega), List.drop_of_length_le (by omega), List.append_nil]
    split
    · rfl
    · rw [List.getElem?_eq_none (by omega), List.getElem?_eq_none (by omega)]
theorem tear_sub (p n m : Nat) (A Y : List UInt8) (h : A.length = Y.length) : ((tear p A Y).drop n).take m = ((A.drop n).take m).take (p - n) ++ ((Y.drop n).take m).drop (p - n) := by
  apply List.ext_getElem?
  intro i
  rw [sub_get, torn_get' _ _ (by simp [h]), sub_get, sub_get]
  unfold tear
  rw [torn_get' _ _ h]
  by_cases hm : i < m
  · simp only [if_pos hm]
    by_cases hi : n + i < p
    · rw [if_pos hi, if_pos (by omega)]
    · rw [if_neg hi, if_neg (by omega)]
  · simp only [if_neg hm, ite_self]
theorem again_tear (p : Nat) (A Y : List UInt8) (h : A.length = Y.length) : pAgain (tear p A Y) = pAgain A % 256 ^ (p - 56) + pAgain Y / 256 ^ (p - 56) * 256 ^ (p - 56) := by
  unfold pAgain
  rw [tear_sub p 56 4 A Y h, ofLE_torn _ _ _ (by simp [h])]
theorem also_tear (p : Nat) (A Y : List UInt8) (h : A.length = Y.length) : pAlso (tear p A Y) = pAlso A % 256 ^ (p - 60) + pAlso Y / 256 ^ (p - 60) * 256 ^ (p - 60) := by
  unfold pAlso
  rw [tear_sub p 60 4 A Y h, ofLE_torn _ _ _ (by simp [h])]
/-- A torn number is below the old one, or it is the new one. -/
theorem torn_num (n t j : Nat) (h : (n = 0 ∧ t = 0) ∨ t < n) (hn : n + 1 < 4294967296) :
    (j ≠ 0 ∧ (n + 1) % 256 ^ j + t / 256 ^ j * 256 ^ j = n + 1) ∨ ((n = 0 ∧ (n + 1) % 256 ^ j + t / 256 ^ j * 256 ^ j = 0) ∨ (n + 1) % 256 ^ j + t / 256 ^ j * 256 ^ j < n) := by
  rcases j with _ | _ | _ | _ | j
  · simp [Nat.mod_one]; omega
  · simp; omega
  · simp; omega
  · simp; omega
  · have hj : (4294967296 : Nat) ≤ 256 ^ (j + 1 + 1 + 1 + 1) := by
      have := Nat.pow_le_pow_right (n := 256) (by decide) (show 4 ≤ j + 1 + 1 + 1 + 1 by omega)
      omega
    rw [Nat.mod_eq_of_lt (by omega), Nat.div_eq_of_lt (by omega)]
    omega

/-- Of the place k the last number is n, its bytes b; the sector y is written next. -/
structure Pl (s : List (List UInt8)) (k n y : Nat) (b : List UInt8) : Prop where
  yk : y = k ∨ y = k + 1
  lt : n < 4294967296
  also : pAlso (s.getD y []) = 0
  num : (n = 0 ∧ pAgain (s.getD y []) = 0) ∨ pAgain (s.getD y []) < n
  zero : n = 0 → y = k ∧ b = [] ∧ pAgain (s.getD (k + 1) []) = 0 ∧ pAlso (s.getD (k + 1) []) = 0
  pos : 0 < n → s.getD (2 * k + 1 - y) [] = stampB n 0 b ∧ b.length ≤ 43

theorem getD_set_same {s : List (List UInt8)} {y : Nat} (h : y < s.length) (x : List UInt8) : (s.set y x).getD y [] = x := by
  rw [List.getD_eq_getElem?_getD, List.getElem?_set_self h]; rfl
theorem getD_set_other {s : List (List UInt8)} {y z : Nat} (h : y ≠ z) (x : List UInt8) : (s.set y x).getD z [] = s.getD z [] := by
  rw [List.getD_eq_getElem?_getD, List.getElem?_set_ne h, ← List.getD_eq_getElem?_getD]
theorem getD_64 {s : List (List UInt8)} (h : ∀ x ∈ s, x.length = 64) {y : Nat} (hy : y < s.length) : (s.getD y []).length = 64 := by
  rw [List.getD_eq_getElem?_getD, List.getElem?_eq_getElem hy]
  exact h _ (List.getElem_mem hy)

theorem Pl.step {s : List (List UInt8)} {k n y : Nat} {b b' : List UInt8} (h : Pl s k n y b) (hy : k + 1 < s.length) (hn : n + 1 < 4294967296) (hb : b'.length ≤ 43) : Pl (s.set y (stampB (n + 1) 0 b')) k (n + 1) (2 * k + 1 - y) b' := by
  have hyk := h.yk
  have hlt : y < s.length := by omega
  have hne : y ≠ 2 * k + 1 - y := by omega
  refine ⟨by omega, hn, ?_, ?_, fun e => by omega, fun _ => ⟨?_, hb⟩⟩
  · rw [getD_set_other hne]
    rcases Nat.eq_zero_or_pos n with h0 | h0
    · obtain ⟨e, _, _, h2⟩ := h.zero h0
      rw [show 2 * k + 1 - y = k + 1 by omega]; exact h2
    · rw [(h.pos h0).1]; unfold pAlso; rw [st_also _ _ _ (h.pos h0).2]; decide
  · rw [getD_set_other hne]
    refine .inr ?_
    rcases Nat.eq_zero_or_pos n with h0 | h0
    · obtain ⟨e, _, h2, _⟩ := h.zero h0
      rw [show 2 * k + 1 - y = k + 1 by omega, h2]; omega
    · rw [(h.pos h0).1]; unfold pAgain; rw [st_again _ _ _ (h.pos h0).2, ofLE_le 4 n h.lt]; omega
  · rw [show 2 * k + 1 - (2 * k + 1 - y) = y by omega, getD_set_same hlt]
theorem Pl.stay {s : List (List UInt8)} {k n y : Nat} {b x : List UInt8} (h : Pl s k n y b) (hy : k + 1 < s.length) (ha : pAlso x = 0) (hx : (n = 0 ∧ pAgain x = 0) ∨ pAgain x < n) : Pl (s.set y x) k n y b := by
  have hyk := h.yk
  have hlt : y < s.length := by omega
  refine ⟨h.yk, h.lt, by rw [getD_set_same hlt]; exact ha, by rw [getD_set_same hlt]; exact hx, fun e => ?_, fun e => ?_⟩
  · obtain ⟨e1, e2, e3, e4⟩ := h.zero e
    exact ⟨e1, e2, by rw [getD_set_other (by omega)]; exact e3, by rw [getD_set_other (by omega)]; exact e4⟩
  · rw [getD_set_other (by omega)]; exact h.pos e
theorem Pl.other {s : List (List UInt8)} {k n y z : Nat} {b x : List UInt8} (h : Pl s k n y b) (h1 : z ≠ k) (h2 : z ≠ k + 1) : Pl (s.set z x) k n y b := by
  have hyk := h.yk
  have e : ∀ q, (q = k ∨ q = k + 1) → (s.set z x).getD q [] = s.getD q [] := fun q hq => getD_set_other (by omega) _
  exact ⟨h.yk, h.lt, by rw [e y h.yk]; exact h.also, by rw [e y h.yk]; exact h.num, fun q => by rw [e (k + 1) (.inr rfl)]; exact h.zero q, fun q => by rw [e _ (by omega)]; exact h.pos q⟩

/-- A put that is torn: all as it was, or all is written. -/
theorem Pl.tear {s : List (List UInt8)} {k n y : Nat} {b b' : List UInt8} (h : Pl s k n y b) (hs : ∀ x ∈ s, x.length = 64) (hy : k + 1 < s.length) (hn : n + 1 < 4294967296) (hb : b'.length ≤ 43) (p : Nat) :
    Pl (s.set y (tear p (stampB (n + 1) 0 b') (s.getD y []))) k n y b ∨ tear p (stampB (n + 1) 0 b') (s.getD y []) = stampB (n + 1) 0 b' := by
  have hyk := h.yk
  have hY : (s.getD y []).length = 64 := getD_64 hs (by omega)
  have hA : (stampB (n + 1) 0 b').length = 64 := stampB_length _ _ _ hb
  have aa := st_again (n + 1) 0 b' hb
  have al := st_also (n + 1) 0 b' hb
  have na := h.num
  have ya := h.also
  have hst := fun x => Pl.stay (x := x) h hy
  clear h
  generalize stampB (n + 1) 0 b' = A at hA aa al ⊢
  generalize s.getD y [] = Y at hY na ya ⊢
  have eA : pAgain A = n + 1 := by unfold pAgain; rw [aa, ofLE_le 4 _ hn]
  have eL : pAlso A = 0 := by unfold pAlso; rw [al]; decide
  have h1 := again_tear p A Y (by omega)
  have h2 := also_tear p A Y (by omega)
  rw [eL, ya] at h2
  simp at h2
  rw [eA] at h1
  rcases torn_num n (pAgain Y) (p - 56) na hn with ⟨hj, hr⟩ | hr
  · refine .inr ?_
    rw [hr] at h1
    have i1 : ((_root_.Go.Proofs.YtaeonlafcbgpcaaDoor.tear p A Y).drop 56).take 4 = (A.drop 56).take 4 := ofLE_inj _ _ (by simp [_root_.Go.Proofs.YtaeonlafcbgpcaaDoor.tear]; omega) (by show pAgain _ = pAgain _; rw [h1, eA])
    have i2 : ((_root_.Go.Proofs.YtaeonlafcbgpcaaDoor.tear p A Y).drop 60).take 4 = (A.drop 60).take 4 := ofLE_inj _ _ (by simp [_root_.Go.Proofs.YtaeonlafcbgpcaaDoor.tear]; omega) (by show pAlso _ = pAlso _; rw [h2, eL])
    apply List.ext_getElem?
    intro j
    by_cases hj1 : j < 56
    · unfold _root_.Go.Proofs.YtaeonlafcbgpcaaDoor.tear
      rw [torn_get' _ _ (by omega), if_pos (by omega)]
    · by_cases hj2 : j < 60
      · have := sub_of i1 (i := j - 56) (by omega)
        rwa [show 56 + (j - 56) = j from by omega] at this
      · by_cases hj3 : j < 64
        · have := sub_of i2 (i := j - 60) (by omega)
          rwa [show 60 + (j - 60) = j from by omega] at this
        · rw [List.getElem?_eq_none (by rw [show (_root_.Go.Proofs.YtaeonlafcbgpcaaDoor.tear p A Y).length = 64 from tear_64 p A Y hA hY]; omega), List.getElem?_eq_none (by omega)]
  · exact .inl (hst _ h2 (by rw [h1]; exact hr))

theorem parse_again {l : List UInt8} {s p : Nat} {b : List UInt8} (h : parseP l = some (s, p, b)) : s = pAgain l ∧ p = pAlso l := by
  unfold parseP at h
  split at h
  · rename_i hc
    cases h
    exact ⟨hc.2.2.1, hc.2.2.2.1⟩
  · cases h
theorem lastRec_two (D : Dk) (k : Nat) : lastRec D k = lastOf (k + 1, 0, []) ((secRec D k).toList ++ (secRec D (k + 1)).toList) := by
  unfold lastRec
  rw [recsUpto_succ, recsUpto_succ]
  simp [recsUpto]
theorem secRec_zero {D : Dk} {i : Nat} (h : pAgain (D.seen.getD i []) = 0) : secRec D i = none := by
  cases hs : secRec D i with
  | none => rfl
  | some x =>
    obtain ⟨h1, _⟩ := secRec_some hs
    have := (parse_again h1).1
    have := (parseP_pos h1).1
    omega
theorem secRec_lt {D : Dk} {i n : Nat} (h : pAgain (D.seen.getD i []) < n) : secRec D i = none ∨ ∃ s b, secRec D i = some (i, s, b) ∧ s < n ∧ 0 < s := by
  cases hs : secRec D i with
  | none => exact .inl rfl
  | some x =>
    obtain ⟨h1, h2⟩ := secRec_some hs
    obtain ⟨x1, x2, x3⟩ := x
    have := (parse_again h1).1
    have := (parseP_pos h1).1
    have e : x1 = i := h2
    subst e
    exact .inr ⟨x2, x3, rfl, by simp_all, by simp_all⟩
theorem secRec_stamp {D : Dk} {i n : Nat} {b : List UInt8} (h : D.seen.getD i [] = stampB n 0 b) (h0 : 0 < n) (hn : n < 4294967296) (hb : b.length ≤ 43) : secRec D i = some (i, n, b) := by
  unfold secRec
  rw [h, parse_stamp n 0 b h0 hn (by decide) hb]
  rfl
theorem Pl.last {D : Dk} {k n y : Nat} {b : List UInt8} (h : Pl D.seen k n y b) : lastRec D k = (2 * k + 1 - y, n, b) := by
  rw [lastRec_two]
  rcases Nat.eq_zero_or_pos n with h0 | h0
  · obtain ⟨e, e2, h2, _⟩ := h.zero h0
    have h1 := h.num
    subst h0 e2 e
    rw [secRec_zero (i := y) (by omega), secRec_zero h2]
    show (y + 1, 0, []) = _
    rw [show 2 * y + 1 - y = y + 1 by omega]
  · have h1 : pAgain (D.seen.getD y []) < n := by have := h.num; omega
    obtain ⟨h2, h3⟩ := h.pos h0
    have hx := secRec_stamp h2 h0 h.lt h3
    rcases h.yk with e | e
    · subst e
      rw [show 2 * y + 1 - y = y + 1 by omega] at hx ⊢
      rw [hx]
      rcases secRec_lt h1 with h4 | ⟨s, b1, h4, h5, h6⟩
      · rw [h4]; simp [lastOf, h0]
      · rw [h4]; simp [lastOf, h5, h6]
    · subst e
      rw [show 2 * k + 1 - (k + 1) = k by omega] at hx ⊢
      rw [hx]
      rcases secRec_lt h1 with h4 | ⟨s, b1, h4, h5, h6⟩
      · rw [h4]; simp [lastOf, h0]
      · rw [h4]; simp [lastOf, h0]; omega

/-- All even places are so. -/
def PlAll (s : List (List UInt8)) : Prop := ∀ k, k % 2 = 0 → k + 1 < 8 → ∃ n y b, Pl s k n y b
structure Cl (D : Dk) : Prop where
  len : D.sure.length = 8
  good : D.good
  pl : PlAll D.sure
  pend : D.pend = [] ∨ ∃ k n y b b', k % 2 = 0 ∧ k + 1 < 8 ∧ Pl D.sure k n y b ∧ n + 1 < 4294967296 ∧ b'.length ≤ 43 ∧ D.pend = [(y, stampB (n + 1) 0 b')]

theorem PlAll.set {s : List (List UInt8)} {k n y : Nat} {b b' x : List UInt8} (h : PlAll s) (hl : s.length = 8) (he : k % 2 = 0) (hk : k + 1 < 8) (hp : Pl s k n y b) (hn : n + 1 < 4294967296) (hb : b'.length ≤ 43) (hx : Pl (s.set y x) k n y b ∨ x = stampB (n + 1) 0 b') : PlAll (s.set y x) := by
  intro j hj1 hj2
  by_cases hjk : j = k
  · subst hjk
    rcases hx with hx | hx
    · exact ⟨_, _, _, hx⟩
    · subst hx; exact ⟨_, _, _, hp.step (by omega) hn hb⟩
  · obtain ⟨n', y', b1, h1⟩ := h j hj1 hj2
    have := hp.yk
    exact ⟨n', y', b1, h1.other (by omega) (by omega)⟩
theorem Cl.torn {D : Dk} (h : Cl D) (zs : List Int) : PlAll (layTorn zs D.sure D.pend) := by
  rcases h.pend with hp | ⟨k, n, y, b, b', he, hk, hp, hn, hb, e⟩
  · rw [hp]; exact h.pl
  · rw [e]
    show PlAll (D.sure.set y (tear (pickAt zs 0) (stampB (n + 1) 0 b') (D.sure.getD y [])))
    exact h.pl.set h.len he hk hp hn hb (hp.tear h.good.ok.u64 (by have := h.len; omega) hn hb _)
theorem Cl.laid {D : Dk} (h : Cl D) : PlAll (laySure D.sure D.pend) := by
  rcases h.pend with hp | ⟨k, n, y, b, b', he, hk, hp, hn, hb, e⟩
  · rw [hp]; exact h.pl
  · rw [e]
    show PlAll (D.sure.set y (stampB (n + 1) 0 b'))
    exact h.pl.set h.len he hk hp hn hb (.inr rfl)
theorem Cl.seen {D : Dk} (h : Cl D) : PlAll D.seen := by rw [h.good.seen]; exact h.laid
theorem Cl.crash {D : Dk} (h : Cl D) (zs : List Int) : Cl (D.crash zs) :=
  ⟨by show (layTorn zs D.sure D.pend).length = 8; rw [layTorn_length]; exact h.len, h.good.crash zs, h.torn zs, .inl rfl⟩
theorem Cl.burn {D : Dk} (h : Cl D) : Cl D.burn := ⟨h.len, h.good.burn, h.pl, h.pend⟩
theorem Cl.fuse {D : Dk} (h : Cl D) (n : Int) (h0 : -9223372036854775808 ≤ n) (h1 : n ≤ 9223372036854775807) : Cl { D with fuse := n } := ⟨h.len, h.good.fuse n h0 h1, h.pl, h.pend⟩
theorem Cl.sync {D : Dk} (h : Cl D) : Cl D.sync := by
  have hg := h.good.sync
  unfold Dk.sync at hg ⊢
  split
  · exact h.burn
  · rename_i hd
    rw [if_neg hd] at hg
    exact ⟨by show (laySure D.sure D.pend).length = 8; rw [laySure_length]; exact h.len, hg, h.laid, .inl rfl⟩
theorem stamp_pad (s p : Nat) (b : List UInt8) (h : b.length ≤ 43) : pad (stampB s p b) = stampB s p b := by
  unfold pad; rw [stampB_length s p b h]; simp
/-- What a put to a clean disk does: nothing but to the fuse, or it is pending. -/
theorem Cl.put {D : Dk} (h : Cl D) {k n y : Nat} {b : List UInt8} (he : k % 2 = 0) (hk : k + 1 < 8) (hp : Pl D.seen k n y b) (b' : List UInt8) (hb : b'.length ≤ 43) (hn : n + 1 < 4294967296) :
    (D.sync.burn.down = true ∧ D.sync.write (2 * (k : Int) + 1 - ((2 * k + 1 - y : Nat) : Int)) (stampB (n + 1) 0 b') = (43, D.sync.burn)) ∨
    (D.burn.down = false ∧ D.sync.burn.down = false ∧ D.sync.write (2 * (k : Int) + 1 - ((2 * k + 1 - y : Nat) : Int)) (stampB (n + 1) 0 b') = (0, D.sync.put y (stampB (n + 1) 0 b')) ∧ D.sync.sure = D.seen ∧ D.sync.seen = D.seen ∧ D.sync.pend = []) := by
  have hyk := hp.yk
  have ei : 2 * (k : Int) + 1 - ((2 * k + 1 - y : Nat) : Int) = (y : Int) := by omega
  have hl := h.sync.len
  rw [ei]
  unfold Dk.write
  rw [if_neg (by omega), if_neg (by rw [stampB_length _ _ _ hb]; omega), stamp_pad _ _ _ hb, Int.toNat_natCast]
  cases hd : D.sync.burn.down with
  | true => exact .inl ⟨rfl, by rw [if_pos rfl]⟩
  | false =>
    refine .inr ?_
    have hd1 : D.burn.down = false := by
      cases hq : D.burn.down with
      | false => rfl
      | true =>
        exfalso
        have e : D.sync = D.burn := by unfold Dk.sync; rw [if_pos hq]
        rw [e] at hd
        have : (D.burn.down || D.burn.fuse == 0) = false := hd
        rw [hq] at this; simp at this
    have e : D.sync = { D.burn with sure := laySure D.sure D.pend, pend := [] } := by unfold Dk.sync; rw [if_neg (by rw [hd1]; decide)]
    refine ⟨hd1, rfl, by rw [if_neg (by decide)], ?_, ?_, ?_⟩
    · rw [e]; exact h.good.seen.symm
    · rw [e]; rfl
    · rw [e]
theorem Cl.putY {D : Dk} (h : Cl D) {k n y : Nat} {b b' : List UInt8} (he : k % 2 = 0) (hk : k + 1 < 8) (hp : Pl D.seen k n y b) (hb : b'.length ≤ 43) (hn : n + 1 < 4294967296) (e1 : D.sync.sure = D.seen) (e2 : D.sync.pend = []) : Cl (D.sync.put y (stampB (n + 1) 0 b')) := by
  have hyk := hp.yk
  have hs := h.sync
  have hl := hs.len
  refine ⟨hs.len, hs.good.put y _ (by omega) (stampB_length _ _ _ hb) (by rw [e2]; decide), hs.pl, .inr ⟨k, n, y, b, b', he, hk, ?_, hn, hb, ?_⟩⟩
  · show Pl D.sync.sure k n y b
    rw [e1]; exact hp
  · show D.sync.pend ++ _ = _
    rw [e2]; rfl
theorem Cl.right {D : Dk} (h : Cl D) (i : Int) : D.right i = decide (0 ≤ i ∧ i < 7) := by
  unfold Dk.right; rw [h.len]; rfl
theorem putM_pl {D : Dk} (h : Cl D) {k n y : Nat} {b : List UInt8} (hk : k + 1 < 8) (hp : Pl D.seen k n y b) (b' : List UInt8) :
    putM D k b' = if 43 < b'.length then (2, D) else if n = 4294967295 then (42, D) else D.sync.write (2 * (k : Int) + 1 - ((2 * k + 1 - y : Nat) : Int)) (stampB (n + 1) 0 b') := by
  unfold putM
  rw [h.right, if_pos (by simp; omega), Int.toNat_natCast, hp.last]
theorem Cl.putM {D : Dk} (h : Cl D) (i : Int) (b : List UInt8) (hi : i.tmod 2 = 0) : Cl (putM D i b).2 := by
  cases hr : D.right i with
  | false => unfold Go.Proofs.YtaeonlafcbgpcaaDoor.putM; rw [hr]; exact h
  | true =>
    have hr' := hr
    rw [h.right] at hr'
    have hr' := of_decide_eq_true hr'
    obtain ⟨k, rfl⟩ : ∃ k : Nat, i = k := ⟨i.toNat, by omega⟩
    have he : k % 2 = 0 := by
      rw [Int.tmod_eq_emod_of_nonneg (by omega)] at hi; omega
    obtain ⟨n, y, b0, hp⟩ := h.seen k he (by omega)
    rw [putM_pl h (by omega) hp]
    split
    · exact h
    · split
      · exact h
      · have hlt := hp.lt
        rcases h.put he (by omega) hp b (by omega) (by omega) with ⟨_, e⟩ | ⟨_, _, e, e1, _, e2⟩
        · rw [e]; exact h.sync.burn
        · rw [e]; exact h.putY he (by omega) hp (by omega) (by omega) e1 e2
theorem Cl.saveM {D : Dk} (h : Cl D) (i : Int) (b : List UInt8) (hi : i.tmod 2 = 0) : Cl (saveM D i b).2 := by
  unfold Go.Proofs.YtaeonlafcbgpcaaDoor.saveM
  split
  · exact (h.putM i b hi).sync
  · exact h.putM i b hi
theorem Cl.new : Cl (Dk.new 8) := by
  refine ⟨rfl, Dk.new_good 8 (by decide) (by decide), fun k hk h8 => ⟨0, k, [], ?_⟩, .inl rfl⟩
  have e : ∀ q, q < 8 → (Dk.new 8).sure.getD q [] = List.replicate 64 0 := fun q hq => by
    show (List.replicate 8 (List.replicate 64 (0 : UInt8))).getD q [] = _
    rw [List.getD_eq_getElem?_getD, List.getElem?_replicate, if_pos hq]; rfl
  have z1 : pAgain (List.replicate 64 0) = 0 := by decide
  have z2 : pAlso (List.replicate 64 0) = 0 := by decide
  refine ⟨.inl rfl, by decide, by rw [e k (by omega)]; exact z2, .inl ⟨rfl, by rw [e k (by omega)]; exact z1⟩, fun _ => ⟨rfl, rfl, by rw [e _ h8]; exact z1, by rw [e _ h8]; exact z2⟩, fun h => by omega⟩
/-- What is loaded. -/
theorem Pl.load {D : Dk} {k n y : Nat} {b : List UInt8} (h : Pl D.seen k n y b) (hr : D.right k = true) : loadM D k = if n = 0 then ([], 0, 41) else (b, n, 0) := by
  unfold loadM
  rw [hr, if_pos rfl, Int.toNat_natCast, h.last]
end Go.Proofs.YtaeonlafcbgpcaaDoor
/- Law 5: calls as they came in; two disks that lie apart. -/
namespace Go.Proofs.YtaeonlafcbgpcaaDoor
open Go.RowKit
set_option linter.unusedVariables false

theorem Rd.ints {P : Program} {w : World} {t e : TypeId} {v : Value} (ht : P.underlying t = some (.slice e)) (he : P.underlying e = some (.int .i64)) (hs : P.cellsOf e = 1) (h : Rd P w t [v]) :
    ∃ zs, IntsAt (fun b _ => b < w.heap.size) w v zs ∧ zs.length ≤ maxLen := by
  obtain ⟨a, len, cap, hv, hl, hm, hn, hc⟩ := h.slice ht hs
  obtain rfl : v = .slice a len cap := by simpa using hv
  obtain ⟨bs, hbl, hb⟩ := list_of (p := fun i (x : Int) => ∃ ad, a = some ad ∧ w.cell? (ad.add i) = some (.int .i64 x)) len fun i hi => by
    obtain ⟨ad, cs', ha, _, hj, hr⟩ := hc i hi
    obtain ⟨n, rfl, hw⟩ := hr.int he
    refine ⟨n, ad, ha, ?_⟩
    have e1 := hj 0 (by omega)
    rw [Nat.mul_one, Nat.add_zero] at e1
    exact e1
  refine ⟨bs, ⟨a, cap, by rw [hbl], ?_⟩, by omega⟩
  by_cases h0 : bs = []
  · exact .inl h0
  · have hp : 0 < bs.length := List.length_pos_iff.2 h0
    obtain ⟨ad, ha, e0⟩ := hb 0 hp
    obtain ⟨b, off, rfl⟩ := spot_of e0
    have hlt := cell_lt e0
    have hlt' : b < w.heap.size := by simpa [add_at] using hlt
    refine .inr ⟨b, off, w.heap[b], ha, Array.getElem?_eq_getElem hlt', hlt', fun i hi => ?_⟩
    obtain ⟨ad', ha', e1⟩ := hb i hi
    rw [ha] at ha'
    cases ha'
    rw [add_at] at e1
    exact e1
theorem size_intc : Tryd.prog.cellsOf 3 = 1 := by kernel_rfl
theorem Rd.is {w : World} {v : Value} (h : Rd Tryd.prog w 37 [v]) : ∃ zs, IntsAt (fun b _ => b < w.heap.size) w v zs ∧ zs.length ≤ maxLen := Rd.ints Tryd.underlying37 Tryd.underlying3 size_intc h
theorem IntsAt.form {K : Nat → Obj → Prop} {w : World} {v : Value} {zs : List Int} (h : IntsAt K w v zs) : ∃ a cap, v = .slice a zs.length cap := by
  obtain ⟨a, cap, hv, _⟩ := h
  exact ⟨a, cap, hv⟩

/-- One call. -/
structure OpV where
  q : Int
  at' : Int
  vb : Value
  vp : Value
  b : List UInt8
  zs : List Int
  s : Nat
  p : Nat
def OpV.cells (o : OpV) : Array Value := #[.int .i64 o.q, .int .i64 o.at', o.vb, o.vp, .int .u32 (o.s : Nat), .int .u32 (o.p : Nat)]
structure OpV.Lies (n : Nat) (w : World) (o : OpV) : Prop where
  hb : BytesAt (fun c _ => c < n) w o.vb o.b
  hp : IntsAt (fun c _ => c < n) w o.vp o.zs
  hs : o.s < 4294967296
  hq : o.p < 4294967296
  lo : -9223372036854775808 ≤ o.at'
  hi : o.at' ≤ 9223372036854775807
theorem OpV.Lies.fr {n : Nat} {w w' : World} {o : OpV} (h : o.Lies n w) (hf : Fr (fun c _ => c < n) w w') : o.Lies n w' := { h with hb := h.hb.fr hf, hp := h.hp.fr hf fun _ _ h => h }
/-- What the walk reads of the i-th call. -/
def OpAt (n : Nat) (w : World) (b off i : Nat) (o : OpV) : Prop :=
  w.cell? ⟨b, off + i * 6, none⟩ = some (.int .i64 o.q) ∧ w.cell? ⟨b, off + i * 6 + 1, none⟩ = some (.int .i64 o.at') ∧ w.cell? ⟨b, off + i * 6 + 2, none⟩ = some o.vb ∧ w.cell? ⟨b, off + i * 6 + 3, none⟩ = some o.vp ∧ w.cell? ⟨b, off + i * 6 + 4, none⟩ = some (.int .u32 (o.s : Nat)) ∧ w.cell? ⟨b, off + i * 6 + 5, none⟩ = some (.int .u32 (o.p : Nat)) ∧ b < n ∧ o.Lies n w
theorem OpAt.fr {n : Nat} {w w' : World} {b off i : Nat} {o : OpV} (h : OpAt n w b off i o) (hf : Fr (fun c _ => c < n) w w') : OpAt n w' b off i o := by
  obtain ⟨h0, h1, h2, h3, h4, h5, hb, h6⟩ := h
  exact ⟨hf.cell (fun _ _ => hb) h0, hf.cell (fun _ _ => hb) h1, hf.cell (fun _ _ => hb) h2, hf.cell (fun _ _ => hb) h3, hf.cell (fun _ _ => hb) h4, hf.cell (fun _ _ => hb) h5, hb, h6.fr hf⟩
/-- A slice of calls. -/
def OpsAt (n : Nat) (w : World) (v : Value) (l : List OpV) : Prop := ∃ a cap, v = .slice a l.length cap ∧ (l = [] ∨ ∃ b off, a = some ⟨b, off, none⟩ ∧ ∀ i, (h : i < l.length) → OpAt n w b off i l[i])
theorem OpsAt.fr {n : Nat} {w w' : World} {v : Value} {l : List OpV} (h : OpsAt n w v l) (hf : Fr (fun c _ => c < n) w w') : OpsAt n w' v l := by
  obtain ⟨a, cap, hv, h⟩ := h
  refine ⟨a, cap, hv, ?_⟩
  rcases h with h | ⟨b, off, ha, h⟩
  · exact .inl h
  · exact .inr ⟨b, off, ha, fun i hi => (h i hi).fr hf⟩
set_option maxRecDepth 100000 in
theorem ops_of {w : World} {a : Option Addr} {len cap : Nat} (h : Rd Tryd.prog w 36 [.slice a len cap]) : ∃ l, OpsAt w.heap.size w (.slice a len cap) l ∧ len ≤ 9223372036854775807 := by
  obtain ⟨a', len', cap', hv, hl1, hl2, _, hc⟩ := h.slice (sz := 6) Tryd.underlying36 (by kernel_rfl)
  unfold maxLen at hl2
  obtain ⟨rfl, rfl, rfl⟩ : a = a' ∧ len = len' ∧ cap = cap' := by simpa using hv
  obtain ⟨l, hl, hp⟩ := list_of (p := fun i (o : OpV) => ∃ ad, a = some ad ∧ w.cell? (ad.add (i * 6)) = some (.int .i64 o.q) ∧ w.cell? (ad.add (i * 6 + 1)) = some (.int .i64 o.at') ∧ w.cell? (ad.add (i * 6 + 2)) = some o.vb ∧ w.cell? (ad.add (i * 6 + 3)) = some o.vp ∧ w.cell? (ad.add (i * 6 + 4)) = some (.int .u32 (o.s : Nat)) ∧ w.cell? (ad.add (i * 6 + 5)) = some (.int .u32 (o.p : Nat)) ∧ o.Lies w.heap.size w) len fun i hi => by
    obtain ⟨ad, cs, ha, hcl, hat, hr⟩ := hc i hi
    obtain ⟨_, hf⟩ := hr.struct (sz := 6) Tryd.underlying55 (by kernel_rfl)
    obtain ⟨c0, c1, c2, c3, c4, c5, rfl⟩ := list6 hcl
    obtain ⟨x, hx, _⟩ := (show Rd Tryd.prog w 3 [c0] from hf 0 _ rfl).int Tryd.underlying3
    obtain ⟨y, hy, hyw⟩ := (show Rd Tryd.prog w 3 [c1] from hf 1 _ rfl).int Tryd.underlying3
    obtain ⟨bs, hb, _⟩ := (show Rd Tryd.prog w 23 [c2] from hf 2 _ rfl).bs
    obtain ⟨zs, hz, _⟩ := (show Rd Tryd.prog w 37 [c3] from hf 3 _ rfl).is
    obtain ⟨s, hs, hsw⟩ := (show Rd Tryd.prog w 22 [c4] from hf 4 _ rfl).int Tryd.underlying22
    obtain ⟨p, hpp, hpw⟩ := (show Rd Tryd.prog w 22 [c5] from hf 5 _ rfl).int Tryd.underlying22
    obtain ⟨s', rfl, hs'⟩ := nat_u32 hsw
    obtain ⟨p', rfl, hp'⟩ := nat_u32 hpw
    obtain ⟨y0, y1⟩ := bounds_i64 hyw
    have hx' : c0 = .int .i64 x := by injection hx
    have hy' : c1 = .int .i64 y := by injection hy
    have hs1 : c4 = .int .u32 (s' : Nat) := by injection hs
    have hp1 : c5 = .int .u32 (p' : Nat) := by injection hpp
    subst hx' hy' hs1 hp1
    exact ⟨⟨x, y, c2, c3, bs, zs, s', p'⟩, ad, ha, hat 0 (by omega), hat 1 (by omega), hat 2 (by omega), hat 3 (by omega), hat 4 (by omega), hat 5 (by omega), hb, hz, hs', hp', y0, y1⟩
  refine ⟨l, ⟨a, cap, by rw [hl], ?_⟩, by omega⟩
  by_cases h0 : l = []
  · exact .inl h0
  · obtain ⟨ad, ha, e0, _⟩ := hp 0 (List.length_pos_iff.2 h0)
    rw [Nat.zero_mul] at e0
    obtain ⟨b, off, rfl⟩ := spot_of e0
    have hlt : b < w.heap.size := by have := cell_lt e0; simpa [add_at] using this
    refine .inr ⟨b, off, ha, fun i hi => ?_⟩
    obtain ⟨ad', ha', e0, e1, e2, e3, e4, e5, h6⟩ := hp i hi
    rw [ha] at ha'
    cases ha'
    simp only [add_at] at e0 e1 e2 e3 e4 e5
    exact ⟨e0, e1, e2, e3, e4, e5, hlt, h6⟩

/-- Two disks that lie apart, above n: the program's is D, the document's is E. -/
def Two (n : Nat) (w : World) (bd br : Nat) (D E : Dk) : Prop := ∃ F G, Dsk w bd F D ∧ Rdk w br G E ∧ (∀ c, F c → n ≤ c ∧ c < w.heap.size) ∧ (∀ c, G c → n ≤ c ∧ c < w.heap.size) ∧ ∀ c, F c → ¬ G c
theorem Dsk.fb {w : World} {bd : Nat} {F : Nat → Prop} {D : Dk} (h : Dsk w bd F D) : F bd := by obtain ⟨_, _, _, _, h1, _⟩ := h; exact h1
theorem Dsk.lt {w : World} {bd : Nat} {F : Nat → Prop} {D : Dk} (h : Dsk w bd F D) : bd < w.heap.size := by obtain ⟨_, _, _, h1, _⟩ := h; exact lt_of_some h1.top
theorem Rdk.gb {w : World} {br : Nat} {G : Nat → Prop} {D : Dk} (h : Rdk w br G D) : G br := by obtain ⟨_, _, _, _, _, h⟩ := h; exact h.gb
theorem Two.tt {n : Nat} {w w' : World} {bd br : Nat} {D E : Dk} (h : Two n w bd br D E) (hf : Fr (fun _ _ => True) w w') : Two n w' bd br D E := by
  obtain ⟨F, G, hd, hr, hF, hG, hFG⟩ := h
  have hs := hf.size
  exact ⟨F, G, hd.tt hf, hr.tt hf, fun c h => ⟨(hF c h).1, by have := (hF c h).2; omega⟩, fun c h => ⟨(hG c h).1, by have := (hG c h).2; omega⟩, hFG⟩
theorem two_d {n : Nat} {w w' : World} {bd br : Nat} {D D' E : Dk} {F G : Nat → Prop} (hd : Dsk w bd F D) (hr : Rdk w br G E) (hF : ∀ c, F c → n ≤ c ∧ c < w.heap.size) (hG : ∀ c, G c → n ≤ c ∧ c < w.heap.size) (hFG : ∀ c, F c → ¬ G c)
    (d1 : Dsk w' bd (fun c => F c ∨ w.heap.size ≤ c) D') (f1 : Fr (fun c _ => ¬ F c) w w') : Two n w' bd br D' E ∧ Fr (fun c _ => c < n) w w' := by
  have hs := f1.size
  have hb := hF _ hd.fb
  refine ⟨⟨_, G, d1.inside, hr.fr f1 fun c _ _ hg hf => hFG c hf hg, fun c h => ⟨?_, h.2⟩, fun c h => ⟨(hG c h).1, by have := (hG c h).2; omega⟩, fun c h hg => ?_⟩, f1.mono fun c _ h hf => by have := (hF c hf).1; omega⟩
  · rcases h.1 with h | h
    · exact (hF c h).1
    · omega
  · rcases h.1 with h | h
    · exact hFG c h hg
    · have := (hG c hg).2; omega
theorem two_r {n : Nat} {w w' : World} {bd br : Nat} {D E E' : Dk} {F G : Nat → Prop} (hd : Dsk w bd F D) (hr : Rdk w br G E) (hF : ∀ c, F c → n ≤ c ∧ c < w.heap.size) (hG : ∀ c, G c → n ≤ c ∧ c < w.heap.size) (hFG : ∀ c, F c → ¬ G c)
    (r1 : Rdk w' br (fun c => G c ∨ w.heap.size ≤ c) E') (f1 : Fr (fun c _ => c ≠ br) w w') : Two n w' bd br D E' ∧ Fr (fun c _ => c < n) w w' := by
  have hs := f1.size
  have hb := hG _ hr.gb
  refine ⟨⟨F, _, hd.fr f1 fun c _ _ hf e => hFG c hf (e ▸ hr.gb), r1.inside, fun c h => ⟨(hF c h).1, by have := (hF c h).2; omega⟩, fun c h => ⟨?_, h.2⟩, fun c hf h => ?_⟩, f1.mono fun c _ h e => by omega⟩
  · rcases h.1 with h | h
    · exact (hG c h).1
    · omega
  · rcases h.1 with h | h
    · exact hFG c hf h
    · have := (hF c hf).2; omega
theorem dsk_ne {w w' : World} {bd : Nat} {F : Nat → Prop} {D D' : Dk} (h : Dsk w bd F D) (hf : Fr (fun c _ => c ≠ bd) w w') : Fr (fun c _ => ¬ F c) w w' := hf.mono fun c _ hc e => hc (e ▸ h.fb)

def stampS (s p : Nat) (b : List UInt8) : List UInt8 := if 43 < b.length then [] else stampB s p b
/-- What a call does to a disk. -/
def opM (D : Dk) (o : OpV) : Dk :=
  if o.q = 1 then (saveM D o.at' o.b).2 else if o.q = 2 then (putM D o.at' o.b).2 else if o.q = 3 then D.crash o.zs else if o.q = 4 then (D.write o.at' o.b).2 else if o.q = 5 then (D.write o.at' (stampS o.s o.p o.b)).2 else if o.q = 6 then D.sync else if o.q = 7 then { D with fuse := o.at' } else D
theorem pend_op (D : Dk) (o : OpV) : (opM D o).pend.length ≤ D.pend.length + 1 := by
  unfold opM
  split
  · exact pend_saveM _ _ _
  · split
    · exact pend_putM _ _ _
    · split
      · exact Nat.zero_le _
      · split
        · exact pend_write _ _ _
        · split
          · exact pend_write _ _ _
          · split
            · exact Nat.le_succ_of_le (pend_sync D)
            · split
              · exact Nat.le_succ _
              · exact Nat.le_succ _
end Go.Proofs.YtaeonlafcbgpcaaDoor
