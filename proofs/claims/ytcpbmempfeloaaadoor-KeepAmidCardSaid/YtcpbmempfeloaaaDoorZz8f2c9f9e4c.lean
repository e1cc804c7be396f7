/- Texts of the proofs, part 22: what the functions that they reach do, walked; no conditions beyond those that each states. -/
import Derived.Test.YtcpbmempfeloaaaDoorZz65e427551b
set_option linter.unusedVariables false
set_option linter.unusedSimpArgs false
/- Keep: what its functions do, plainly. -/
namespace Go.Proofs.YtcpbmempfeloaaaDoor
open Go.RowKit
set_option linter.unusedVariables false
set_option linter.unusedSimpArgs false

/-- An entry; a state. -/
structure En where
  t : Nat
  k : Int
  d : List UInt8
  deriving DecidableEq, Inhabited
structure Sta where
  term : Nat
  vote : Int
  base : Nat
  bt : Nat
  es : List En
  deriving DecidableEq, Inhabited
def badE (x : En) : Bool := decide (x.k < 0) || (decide (255 < x.k) || decide (24 < x.d.length))
def Sta.right (s : Sta) : Bool := decide (s.term < 1152921504606846976) && decide (s.base < 1152921504606846976) && decide (-1 ≤ s.vote) && decide (s.vote < 16) && !s.es.any badE
def Sta.wf (s : Sta) : Prop := s.term < 18446744073709551616 ∧ s.base < 18446744073709551616 ∧ s.bt < 18446744073709551616 ∧ ∀ x ∈ s.es, x.t < 18446744073709551616
def headB (s : Sta) : List UInt8 := le s.term 8 ++ le (s.vote + 1).toNat 1 ++ le s.base 8 ++ le s.bt 8
def recB (r : Nat × En) : List UInt8 := le r.1 8 ++ le r.2.t 8 ++ le r.2.k.toNat 1 ++ byt r.2.d
def zSta : Sta := ⟨0, -1, 0, 0, []⟩
def lastT (s : Sta) : Nat := (s.es.getLast?.map (·.t)).getD s.bt
def raise (s : Sta) : Sta := if s.term < lastT s then { s with term := lastT s, vote := -1 } else s
def recs (b : Nat) : List En → List (Nat × En)
  | [] => []
  | x :: xs => (b + 1, x) :: recs (b + 1) xs
/-- What a keeper has: the slot's bytes, the base, the records. -/
structure Ke where
  slot : List UInt8
  base : Nat
  held : List (Nat × En)
  deriving DecidableEq, Inhabited
def markK (K : Ke) (D : Dk) (s : Sta) : Int × Ke × Dk :=
  if headB s = K.slot then (0, { K with base := s.base }, D) else ((saveM D 1 (headB s)).1, ⟨headB s, s.base, K.held⟩, (saveM D 1 (headB s)).2)
def trimN (held : List (Nat × En)) (b : Nat) : Nat := (held.findIdx? fun r => decide (b < r.1)).getD held.length
def trimK (K : Ke) (J : Jn) (D : Dk) (s : Sta) : Int × Ke × Jn × Dk :=
  if trimN K.held s.base = 0 then (0, K, J, D) else ((jtrim J D (trimN K.held s.base : Nat)).1, { K with held := K.held.drop (trimN K.held s.base) }, (jtrim J D (trimN K.held s.base : Nat)).2)
def sameR (r : Nat × En) (s : Sta) : Bool := decide (s.base < r.1) && decide (r.1 ≤ s.base + s.es.length) && decide (s.es.getD (r.1 - s.base - 1) default = r.2)
def cutN (s : Sta) : List (Nat × En) → Nat → Nat
  | [], i => i
  | r :: rs, i => if r.1 = s.base + 1 + i ∧ sameR r s = true then cutN s rs (i + 1) else i
def cutK (K : Ke) (J : Jn) (D : Dk) (s : Sta) : Int × Ke × Jn × Dk :=
  if K.held.length - cutN s K.held 0 = 0 then (0, K, J, D) else ((jcut J D (K.held.length - cutN s K.held 0 : Nat)).1, { K with held := K.held.take (cutN s K.held 0) }, (jcut J D (K.held.length - cutN s K.held 0 : Nat)).2)
def addL (b : Nat) : List En → Ke → Jn → Dk → Int × Ke × Jn × Dk
  | [], K, J, D => (0, K, J, D)
  | x :: xs, K, J, D =>
    if (jappend J D (recB (b + 1 + K.held.length, x))).1 ≠ 0 then ((jappend J D (recB (b + 1 + K.held.length, x))).1, { K with held := K.held ++ [(b + 1 + K.held.length, x)] }, (jappend J D (recB (b + 1 + K.held.length, x))).2)
    else addL b xs { K with held := K.held ++ [(b + 1 + K.held.length, x)] } (jappend J D (recB (b + 1 + K.held.length, x))).2.1 (jappend J D (recB (b + 1 + K.held.length, x))).2.2
def addK (K : Ke) (J : Jn) (D : Dk) (s : Sta) : Int × Ke × Jn × Dk :=
  if (addL s.base (s.es.drop K.held.length) K J D).1 ≠ 0 then addL s.base (s.es.drop K.held.length) K J D
  else if s.es.drop K.held.length = [] then (0, K, J, D)
  else (0, (addL s.base (s.es.drop K.held.length) K J D).2.1, (addL s.base (s.es.drop K.held.length) K J D).2.2.1, (addL s.base (s.es.drop K.held.length) K J D).2.2.2.sync)
def stepsK (K : Ke) (J : Jn) (D : Dk) (s : Sta) : Int × Ke × Jn × Dk :=
  if (markK K D s).1 ≠ 0 then ((markK K D s).1, (markK K D s).2.1, J, (markK K D s).2.2)
  else if (trimK (markK K D s).2.1 J (markK K D s).2.2 s).1 ≠ 0 then trimK (markK K D s).2.1 J (markK K D s).2.2 s
  else if (cutK (trimK (markK K D s).2.1 J (markK K D s).2.2 s).2.1 (trimK (markK K D s).2.1 J (markK K D s).2.2 s).2.2.1 (trimK (markK K D s).2.1 J (markK K D s).2.2 s).2.2.2 s).1 ≠ 0 then
    cutK (trimK (markK K D s).2.1 J (markK K D s).2.2 s).2.1 (trimK (markK K D s).2.1 J (markK K D s).2.2 s).2.2.1 (trimK (markK K D s).2.1 J (markK K D s).2.2 s).2.2.2 s
  else addK (cutK (trimK (markK K D s).2.1 J (markK K D s).2.2 s).2.1 (trimK (markK K D s).2.1 J (markK K D s).2.2 s).2.2.1 (trimK (markK K D s).2.1 J (markK K D s).2.2 s).2.2.2 s).2.1
    (cutK (trimK (markK K D s).2.1 J (markK K D s).2.2 s).2.1 (trimK (markK K D s).2.1 J (markK K D s).2.2 s).2.2.1 (trimK (markK K D s).2.1 J (markK K D s).2.2 s).2.2.2 s).2.2.1
    (cutK (trimK (markK K D s).2.1 J (markK K D s).2.2 s).2.1 (trimK (markK K D s).2.1 J (markK K D s).2.2 s).2.2.1 (trimK (markK K D s).2.1 J (markK K D s).2.2 s).2.2.2 s).2.2.2 s
def saveK (n : Nat) (K : Ke) (J : Jn) (D : Dk) (s : Sta) : Int × Ke × Jn × Dk :=
  if s.right = false ∨ s.base < K.base then (1, K, J, D) else if n < s.es.length then (42, K, J, D)
  else if (stepsK K J D s).1 ≠ 0 then stepsK K J D s else (if (stepsK K J D s).2.2.2.down then 43 else 0, (stepsK K J D s).2)
/-- What is opened: the entries behind the base, as far as their numbers go on. -/
def addE (b : Nat) : List En → List (Nat × En) → List En
  | es, [] => es
  | es, r :: rs => if b < r.1 then (if r.1 = b + es.length + 1 then addE b (es ++ [r.2]) rs else es) else addE b es rs
def openS (s0 : Sta) (rs : List (Nat × En)) : Sta := raise { s0 with es := addE s0.base [] rs }

theorem recs_len (b : Nat) : ∀ es, (recs b es).length = es.length
  | [] => rfl
  | x :: xs => by show (recs (b + 1) xs).length + 1 = _; rw [recs_len (b + 1) xs]; rfl
theorem recs_append (b : Nat) (es fs : List En) : recs b (es ++ fs) = recs b es ++ recs (b + es.length) fs := by
  induction es generalizing b with
  | nil => rfl
  | cons x xs ih =>
    show _ :: recs (b + 1) (xs ++ fs) = _ :: (recs (b + 1) xs ++ _)
    rw [ih, List.length_cons, show b + 1 + xs.length = b + (xs.length + 1) from by omega]
theorem recs_get (b : Nat) (es : List En) (i : Nat) (h : i < (recs b es).length) : (recs b es)[i] = (b + 1 + i, es[i]'(by rw [recs_len] at h; exact h)) := by
  induction es generalizing b i with
  | nil => cases h
  | cons x xs ih =>
    cases i with
    | zero => rfl
    | succ i =>
      show (recs (b + 1) xs)[i]'_ = _
      rw [ih (b + 1) i (by have := recs_len (b + 1) xs; have := recs_len b (x :: xs); simp at *; omega)]
      simp only [List.getElem_cons_succ, Prod.mk.injEq, and_true]
      omega
theorem recs_drop (b : Nat) (es : List En) (k : Nat) (hk : k ≤ es.length) : (recs b es).drop k = recs (b + k) (es.drop k) := by
  have e : es = es.take k ++ es.drop k := (List.take_append_drop k es).symm
  have hl : (es.take k).length = k := by rw [List.length_take]; omega
  conv => lhs; rw [e, recs_append]
  rw [List.drop_append_of_le_length (by rw [recs_len, hl]; exact Nat.le_refl _), List.drop_of_length_le (by rw [recs_len, hl]; exact Nat.le_refl _), List.nil_append, hl]
theorem recs_take (b : Nat) (es : List En) (k : Nat) : (recs b es).take k = recs b (es.take k) := by
  by_cases hk : k ≤ es.length
  · have e : es = es.take k ++ es.drop k := (List.take_append_drop k es).symm
    have hl : (es.take k).length = k := by rw [List.length_take]; omega
    conv => lhs; rw [e, recs_append]
    rw [List.take_append_of_le_length (by rw [recs_len, hl]; exact Nat.le_refl _), List.take_of_length_le (by rw [recs_len, hl]; exact Nat.le_refl _)]
  · rw [List.take_of_length_le (by rw [recs_len]; omega), List.take_of_length_le (by omega)]
theorem addE_recs (b : Nat) : ∀ (es fs : List En), addE b fs (recs (b + fs.length) es) = fs ++ es
  | [], fs => by simp [recs, addE]
  | x :: xs, fs => by
    show addE b fs ((b + fs.length + 1, x) :: recs (b + fs.length + 1) xs) = _
    unfold addE
    rw [if_pos (by show b < b + fs.length + 1; omega), if_pos rfl]
    have := addE_recs b xs (fs ++ [x])
    rw [List.length_append] at this
    simp only [List.length_singleton, ← Nat.add_assoc] at this
    rw [this]
    simp
theorem openS_recs (s0 : Sta) : openS s0 (recs s0.base s0.es) = raise s0 := by
  unfold openS
  have := addE_recs s0.base s0.es []
  rw [List.length_nil, Nat.add_zero, List.nil_append] at this
  rw [this]
end Go.Proofs.YtcpbmempfeloaaaDoor
/- Law 6: calls as they came in; rows of bytes as they came in. -/
namespace Go.Proofs.YtcpbmempfeloaaaDoor
open Go.RowKit
set_option linter.unusedVariables false

theorem nat_u32 {z : Int} (h : (Lit.int .u32 z).wf = true) : ∃ n : Nat, z = n ∧ n < 4294967296 := by
  obtain ⟨h0, h1⟩ := bounds_u32 h
  exact ⟨z.toNat, by omega, by omega⟩
theorem size_u8c : Tryd.prog.cellsOf 5 = 1 := by kernel_rfl
theorem Rd.bs {w : World} {v : Value} (h : Rd Tryd.prog w 33 [v]) : ∃ bs, BytesAt (fun b _ => b < w.heap.size) w v bs ∧ bs.length ≤ maxLen := Rd.bytes Tryd.underlying33 Tryd.underlying5 size_u8c h
theorem Fr.bel {w w' : World} (h : Fr (fun _ _ => True) w w') : Below w.heap.size w w' := (h.mono fun _ _ _ => trivial : Fr (fun b _ => b < w.heap.size) w w').below (Nat.le_refl _)

theorem Rd.ints {P : Program} {w : World} {t e : TypeId} {v : Value} (ht : P.underlying t = some (.slice e)) (he : P.underlying e = some (.int .i64)) (hs : P.cellsOf e = 1) (h : Rd P w t [v]) :
    ∃ zs, IntsAt (fun b _ => b < w.heap.size) w v zs ∧ zs.length ≤ maxLen := by
  obtain ⟨a, len, cap, hv, hl, hm, hn, hc⟩ := h.slice ht hs
  obtain rfl : v = .slice a len cap := by simpa using hv
  obtain ⟨bs, hbl, hb⟩ := list_of (p := fun i (x : Int) => ∃ ad, a = some ad ∧ w.cell? (ad.add i) = some (.int .i64 x)) len fun i hi => by
    obtain ⟨ad, cs', ha, _, hj, hr⟩ := hc i hi
    obtain ⟨n, rfl, hw⟩ := hr.int he
    refine ⟨n, ad, ha, ?_⟩
    have e1 := hj 0 (by omega)
    rw [Nat.mul_one, Nat.add_zero] at e1
    exact e1
  refine ⟨bs, ⟨a, cap, by rw [hbl], ?_⟩, by omega⟩
  by_cases h0 : bs = []
  · exact .inl h0
  · have hp : 0 < bs.length := List.length_pos_iff.2 h0
    obtain ⟨ad, ha, e0⟩ := hb 0 hp
    obtain ⟨b, off, rfl⟩ := spot_of e0
    have hlt := cell_lt e0
    have hlt' : b < w.heap.size := by simpa [add_at] using hlt
    refine .inr ⟨b, off, w.heap[b], ha, Array.getElem?_eq_getElem hlt', hlt', fun i hi => ?_⟩
    obtain ⟨ad', ha', e1⟩ := hb i hi
    rw [ha] at ha'
    cases ha'
    rw [add_at] at e1
    exact e1
theorem size_intc : Tryd.prog.cellsOf 3 = 1 := by kernel_rfl
theorem Rd.is {w : World} {v : Value} (h : Rd Tryd.prog w 24 [v]) : ∃ zs, IntsAt (fun b _ => b < w.heap.size) w v zs ∧ zs.length ≤ maxLen := Rd.ints Tryd.underlying24 Tryd.underlying3 size_intc h
theorem IntsAt.form {K : Nat → Obj → Prop} {w : World} {v : Value} {zs : List Int} (h : IntsAt K w v zs) : ∃ a cap, v = .slice a zs.length cap := by
  obtain ⟨a, cap, hv, _⟩ := h
  exact ⟨a, cap, hv⟩

structure OpJ.Lies (n : Nat) (w : World) (o : OpJ) : Prop where
  hb : BytesAt (fun c _ => c < n) w o.vb o.b
  hp : IntsAt (fun c _ => c < n) w o.vp o.zs
theorem OpJ.Lies.fr {n : Nat} {w w' : World} {o : OpJ} (h : o.Lies n w) (hf : Fr (fun c _ => c < n) w w') : o.Lies n w' := { h with hb := h.hb.fr hf, hp := h.hp.fr hf fun _ _ h => h }
/-- What the walk reads of the i-th call. -/
def OpAt (n : Nat) (w : World) (b off i : Nat) (o : OpJ) : Prop :=
  w.cell? ⟨b, off + i * 4, none⟩ = some (.int .i64 o.q) ∧ w.cell? ⟨b, off + i * 4 + 1, none⟩ = some (.int .i64 o.k) ∧ w.cell? ⟨b, off + i * 4 + 2, none⟩ = some o.vb ∧ w.cell? ⟨b, off + i * 4 + 3, none⟩ = some o.vp ∧ b < n ∧ o.Lies n w
theorem OpAt.fr {n : Nat} {w w' : World} {b off i : Nat} {o : OpJ} (h : OpAt n w b off i o) (hf : Fr (fun c _ => c < n) w w') : OpAt n w' b off i o := by
  obtain ⟨h0, h1, h2, h3, hb, h6⟩ := h
  exact ⟨hf.cell (fun _ _ => hb) h0, hf.cell (fun _ _ => hb) h1, hf.cell (fun _ _ => hb) h2, hf.cell (fun _ _ => hb) h3, hb, h6.fr hf⟩
/-- A slice of calls. -/
def OpsAt (n : Nat) (w : World) (v : Value) (l : List OpJ) : Prop := ∃ a cap, v = .slice a l.length cap ∧ (l = [] ∨ ∃ b off, a = some ⟨b, off, none⟩ ∧ ∀ i, (h : i < l.length) → OpAt n w b off i l[i])
theorem OpsAt.fr {n : Nat} {w w' : World} {v : Value} {l : List OpJ} (h : OpsAt n w v l) (hf : Fr (fun c _ => c < n) w w') : OpsAt n w' v l := by
  obtain ⟨a, cap, hv, h⟩ := h
  refine ⟨a, cap, hv, ?_⟩
  rcases h with h | ⟨b, off, ha, h⟩
  · exact .inl h
  · exact .inr ⟨b, off, ha, fun i hi => (h i hi).fr hf⟩
set_option maxRecDepth 100000 in
/-- One call that came in. -/
theorem op_of {w : World} {cs : List Value} (h : Rd Tryd.prog w 43 cs) : ∃ o : OpJ, cs = [.int .i64 o.q, .int .i64 o.k, o.vb, o.vp] ∧ o.Lies w.heap.size w ∧ -9223372036854775808 ≤ o.k ∧ o.k ≤ 9223372036854775807 := by
  obtain ⟨hcl, hf⟩ := h.struct (sz := 4) Tryd.underlying43 (by kernel_rfl)
  obtain ⟨c0, c1, c2, c3, rfl⟩ := list4 hcl
  obtain ⟨x, hx, _⟩ := (show Rd Tryd.prog w 3 [c0] from hf 0 _ rfl).int Tryd.underlying3
  obtain ⟨y, hy, hyw⟩ := (show Rd Tryd.prog w 3 [c1] from hf 1 _ rfl).int Tryd.underlying3
  obtain ⟨bs, hb, _⟩ := (show Rd Tryd.prog w 33 [c2] from hf 2 _ rfl).bs
  obtain ⟨zs, hz, _⟩ := (show Rd Tryd.prog w 24 [c3] from hf 3 _ rfl).is
  obtain ⟨y0, y1⟩ := bounds_i64 hyw
  have hx' : c0 = .int .i64 x := by injection hx
  have hy' : c1 = .int .i64 y := by injection hy
  subst hx' hy'
  exact ⟨⟨x, y, c2, c3, bs, zs⟩, rfl, ⟨hb, hz⟩, y0, y1⟩
set_option maxRecDepth 100000 in
theorem ops_of {w : World} {a : Option Addr} {len cap : Nat} (h : Rd Tryd.prog w 22 [.slice a len cap]) : ∃ l, OpsAt w.heap.size w (.slice a len cap) l ∧ len ≤ 9223372036854775807 := by
  obtain ⟨a', len', cap', hv, hl1, hl2, _, hc⟩ := h.slice (sz := 4) Tryd.underlying22 (by kernel_rfl)
  unfold maxLen at hl2
  obtain ⟨rfl, rfl, rfl⟩ : a = a' ∧ len = len' ∧ cap = cap' := by simpa using hv
  obtain ⟨l, hl, hp⟩ := list_of (p := fun i (o : OpJ) => ∃ ad, a = some ad ∧ w.cell? (ad.add (i * 4)) = some (.int .i64 o.q) ∧ w.cell? (ad.add (i * 4 + 1)) = some (.int .i64 o.k) ∧ w.cell? (ad.add (i * 4 + 2)) = some o.vb ∧ w.cell? (ad.add (i * 4 + 3)) = some o.vp ∧ o.Lies w.heap.size w) len fun i hi => by
    obtain ⟨ad, cs, ha, hcl, hat, hr⟩ := hc i hi
    obtain ⟨o, rfl, ho, _⟩ := op_of hr
    exact ⟨o, ad, ha, hat 0 (by omega), hat 1 (by omega), hat 2 (by omega), hat 3 (by omega), ho⟩
  refine ⟨l, ⟨a, cap, by rw [hl], ?_⟩, by omega⟩
  by_cases h0 : l = []
  · exact .inl h0
  · obtain ⟨ad, ha, e0, _⟩ := hp 0 (List.length_pos_iff.2 h0)
    rw [Nat.zero_mul] at e0
    obtain ⟨b, off, rfl⟩ := spot_of e0
    have hlt : b < w.heap.size := by have := cell_lt e0; simpa [add_at] using this
    refine .inr ⟨b, off, ha, fun i hi => ?_⟩
    obtain ⟨ad', ha', e0, e1, e2, e3, h6⟩ := hp i hi
    rw [ha] at ha'
    cases ha'
    simp only [add_at] at e0 e1 e2 e3
    exact ⟨e0, e1, e2, e3, hlt, h6⟩
theorem IntsAt.mono {K K' : Nat → Obj → Prop} {w : World} {v : Value} {zs : List Int} (h : IntsAt K w v zs) (hk : ∀ c o, K c o → K' c o) : IntsAt K' w v zs := by
  obtain ⟨a, cap, hv, h⟩ := h
  refine ⟨a, cap, hv, ?_⟩
  rcases h with h | ⟨b, off, o, h1, h2, h3, h4⟩
  · exact .inl h
  · exact .inr ⟨b, off, o, h1, h2, hk _ _ h3, h4⟩
theorem OpJ.Lies.mono {n m : Nat} {w : World} {o : OpJ} (h : o.Lies n w) (hm : n ≤ m) : o.Lies m w := { h with hb := h.hb.mono fun c _ _ h => by omega, hp := h.hp.mono fun c _ h => by omega }
theorem OpsAt.mono {n m : Nat} {w : World} {v : Value} {l : List OpJ} (h : OpsAt n w v l) (hm : n ≤ m) : OpsAt m w v l := by
  obtain ⟨a, cap, hv, h⟩ := h
  refine ⟨a, cap, hv, ?_⟩
  rcases h with h | ⟨b, off, ha, h⟩
  · exact .inl h
  · refine .inr ⟨b, off, ha, fun i hi => ?_⟩
    obtain ⟨h0, h1, h2, h3, hb, h6⟩ := h i hi
    exact ⟨h0, h1, h2, h3, by omega, h6.mono hm⟩
theorem OpsAt.len {n : Nat} {w : World} {a : Option Addr} {len cap : Nat} {l : List OpJ} (h : OpsAt n w (.slice a len cap) l) : len = l.length := by
  obtain ⟨_, _, e, _⟩ := h; cases e; rfl

/-- A slice of slices of bytes, to be read. -/
def LsAt (K : Nat → Obj → Prop) (w : World) (v : Value) (L : List (List UInt8)) : Prop := ∃ a cap, v = .slice a L.length cap ∧ L.length ≤ cap ∧ (L = [] ∨ ∃ b off o, a = some ⟨b, off, none⟩ ∧ w.heap[b]? = some o ∧ K b o ∧ ∀ i, (h : i < L.length) → ∃ vb, w.cell? ⟨b, off + i, none⟩ = some vb ∧ BytesAt K w vb L[i])
theorem LsAt.fr {K : Nat → Obj → Prop} {w w' : World} {v : Value} {L : List (List UInt8)} (h : LsAt K w v L) (hf : Fr K w w') : LsAt K w' v L := by
  obtain ⟨a, cap, hv, hc, h⟩ := h
  refine ⟨a, cap, hv, hc, ?_⟩
  rcases h with h | ⟨b, off, o, ha, ho, hk, h⟩
  · exact .inl h
  · refine .inr ⟨b, off, o, ha, hf.keep _ _ ho hk, hk, fun i hi => ?_⟩
    obtain ⟨vb, h1, h2⟩ := h i hi
    exact ⟨vb, hf.cell (fun o' ho' => by rw [show w.heap[b]? = some o from ho] at ho'; cases ho'; exact hk) h1, h2.fr hf⟩
theorem LsAt.mono {K K' : Nat → Obj → Prop} {w : World} {v : Value} {L : List (List UInt8)} (h : LsAt K w v L) (hk : ∀ c o, w.heap[c]? = some o → K c o → K' c o) : LsAt K' w v L := by
  obtain ⟨a, cap, hv, hc, h⟩ := h
  refine ⟨a, cap, hv, hc, ?_⟩
  rcases h with h | ⟨b, off, o, ha, ho, hkb, h⟩
  · exact .inl h
  · refine .inr ⟨b, off, o, ha, ho, hk _ _ ho hkb, fun i hi => ?_⟩
    obtain ⟨vb, h1, h2⟩ := h i hi
    exact ⟨vb, h1, h2.mono hk⟩
theorem LsAt.form {K : Nat → Obj → Prop} {w : World} {v : Value} {L : List (List UInt8)} (h : LsAt K w v L) : ∃ a cap, v = .slice a L.length cap := by
  obtain ⟨a, cap, hv, _⟩ := h
  exact ⟨a, cap, hv⟩
theorem LsAt.at {K : Nat → Obj → Prop} {w : World} {a : Option Addr} {n cap : Nat} {L : List (List UInt8)} (h : LsAt K w (.slice a n cap) L) (i : Nat) (hi : i < L.length) : ∃ b off vb, a = some ⟨b, off, none⟩ ∧ w.cell? ⟨b, off + i, none⟩ = some vb ∧ BytesAt K w vb L[i] := by
  obtain ⟨a', cap', hv, _, h⟩ := h
  cases hv
  rcases h with h | ⟨b, off, o, ha, ho, hkb, h⟩
  · subst h; cases hi
  · obtain ⟨vb, h1, h2⟩ := h i hi
    exact ⟨b, off, vb, ha, h1, h2⟩
theorem ls_of {w : World} {v : Value} (h : Rd Tryd.prog w 23 [v]) : ∃ L, LsAt (fun c _ => c < w.heap.size) w v L ∧ L.length ≤ 9223372036854775807 := by
  obtain ⟨a, len, cap, hv, hl1, hl2, _, hc⟩ := h.slice (sz := 1) Tryd.underlying23 (by kernel_rfl)
  obtain rfl : v = .slice a len cap := by simpa using hv
  unfold maxLen at hl2
  obtain ⟨L, hl, hp⟩ := list_of (p := fun i (x : List UInt8) => ∃ ad vb, a = some ad ∧ w.cell? (ad.add i) = some vb ∧ BytesAt (fun c _ => c < w.heap.size) w vb x) len fun i hi => by
    obtain ⟨ad, cs, ha, hcl, hat, hr⟩ := hc i hi
    obtain ⟨c0, rfl⟩ : ∃ c0, cs = [c0] := by match cs, hcl with | [c0], _ => exact ⟨c0, rfl⟩
    obtain ⟨bs, hb, _⟩ := Rd.bs hr
    have e1 := hat 0 (by omega)
    rw [Nat.mul_one, Nat.add_zero] at e1
    exact ⟨bs, ad, c0, ha, e1, hb⟩
  refine ⟨L, ⟨a, cap, by rw [hl], by omega, ?_⟩, by omega⟩
  by_cases h0 : L = []
  · exact .inl h0
  · obtain ⟨ad, vb, ha, e0, _⟩ := hp 0 (List.length_pos_iff.2 h0)
    obtain ⟨b, off, rfl⟩ := spot_of e0
    have hlt : b < w.heap.size := by have := cell_lt e0; simpa [add_at] using this
    refine .inr ⟨b, off, w.heap[b], ha, Array.getElem?_eq_getElem hlt, hlt, fun i hi => ?_⟩
    obtain ⟨ad', vb, ha', e1, h2⟩ := hp i hi
    rw [ha] at ha'
    cases ha'
    rw [add_at] at e1
    exact ⟨vb, e1, h2⟩
theorem LsAt.take {K : Nat → Obj → Prop} {w : World} {a : Option Addr} {n cap : Nat} {L : List (List UInt8)} (h : LsAt K w (.slice a n cap) L) (m : Nat) (hm : m ≤ L.length) : LsAt K w (.slice a m cap) (L.take m) := by
  obtain ⟨a', cap', hv, hc, h⟩ := h
  cases hv
  refine ⟨a, cap, by rw [List.length_take, Nat.min_eq_left hm], by rw [List.length_take]; omega, ?_⟩
  rcases h with h | ⟨b, off, o, ha, ho, hkb, h⟩
  · subst h; exact .inl (by simp)
  · refine .inr ⟨b, off, o, ha, ho, hkb, fun i hi => ?_⟩
    rw [List.length_take] at hi
    obtain ⟨vb, h1, h2⟩ := h i (by omega)
    exact ⟨vb, h1, by rw [List.getElem_take]; exact h2⟩
end Go.Proofs.YtcpbmempfeloaaaDoor
/- Package journal: scan, walked. -/
namespace Go.Proofs.YtcpbmempfeloaaaDoor
open Go.RowKit
set_option linter.unusedVariables false
set_option linter.unusedSimpArgs false

/-- How many records the row has. -/
def rowLen (w : World) (bj : Nat) : Nat := match w.cell? ⟨bj, 6, none⟩ with
  | some (.slice _ n _) => n
  | _ => 0
theorem Jnl.rowLen {w : World} {bj bd : Nat} {G : Nat → Prop} {J : Jn} (h : Jnl w bj bd G J) : rowLen w bj = J.held.length := by
  obtain ⟨vh, T, h⟩ := h
  obtain ⟨a, cap, rfl⟩ := own_form h.row
  have c6 : w.cell? ⟨bj, 6, none⟩ = some (.slice a T.length cap) := cell_mk h.top rfl
  unfold Go.Proofs.YtcpbmempfeloaaaDoor.rowLen
  rw [c6, ← h.len]
theorem scanM_none {P : Nat → Option (Nat × Nat × List UInt8)} {ep k s low : Nat} (h : P s = none) : scanM P ep k s low = [] := by
  cases k with
  | zero => rfl
  | succ k => unfold scanM; rw [h]
theorem scanM_stop {P : Nat → Option (Nat × Nat × List UInt8)} {ep k s low q e : Nat} {b : List UInt8} (h : P s = some (q, e, b)) (hn : ¬ (s ≤ 4294967295 ∧ q = s ∧ low ≤ e ∧ e ≤ ep)) : scanM P ep k s low = [] := by
  cases k with
  | zero => rfl
  | succ k => unfold scanM; rw [h]; exact if_neg hn
theorem scanM_far {P : Nat → Option (Nat × Nat × List UInt8)} {ep k s low : Nat} (h : ¬ s ≤ 4294967295) : scanM P ep k s low = [] := by
  cases k with
  | zero => rfl
  | succ k =>
    unfold scanM
    split
    · rw [if_neg (fun hh => h hh.1)]
    · rfl
theorem scanM_go {P : Nat → Option (Nat × Nat × List UInt8)} {ep k s low e : Nat} {b : List UInt8} (h : P s = some (s, e, b)) (h1 : s ≤ 4294967295) (h2 : low ≤ e) (h3 : e ≤ ep) : scanM P ep (k + 1) s low = (e, b) :: scanM P ep k (s + 1) e := by
  conv => lhs; unfold scanM
  rw [h]
  exact if_pos ⟨h1, rfl, h2, h3⟩

set_option maxRecDepth 100000 in
set_option maxHeartbeats 4000000 in
theorem scan_calls (w : World) (bj bd : Nat) (G F : Nat → Prop) (J : Jn) (D : Dk) (h : Jnl w bj bd G J) (hd : Dsk w bd F D) (hFG : ∀ c, G c → ¬ F c) (hG0 : ¬ G 0) (ht : TabOK w) (h0 : J.held = []) (hsz : J.loc + 2 + J.n ≤ D.sure.length) :
    Calls Tryd.prog 57 #[.pointer (some ⟨bj, 0, none⟩)] w fun e w' => e = .returned (.tuple #[]) ∧ Jnl w' bj bd (fun c => G c ∨ w.heap.size ≤ c) { J with held := jheld D J.loc J.n J.first J.epoch J.low } ∧ Fr (fun c _ => ¬ G c) w w' := by
  have hwf := h.wf
  have n1 := hwf.n1
  have n100 := hwf.n100
  have hf := hwf.f
  have he := hwf.e
  have hl := hwf.l
  obtain ⟨loc, n, first, ep, low, held⟩ := J
  replace n1 : 1 ≤ n := n1
  replace n100 : n ≤ 100 := n100
  replace hf : first < 4294967296 := hf
  replace he : ep < 4294967296 := he
  replace hl : low < 4294967296 := hl
  replace h0 : held = [] := h0
  subst h0
  replace hsz : loc + 2 + n ≤ D.sure.length := hsz
  have hcl : w.cell? ⟨bj, 5, none⟩ = some (.int .u32 (low : Nat)) := by
    obtain ⟨vh, T, h⟩ := h
    exact cell_mk h.top rfl
  have DT : Hid (∀ W, Fr (fun c _ => ¬ G c) w W → Dsk W bd F D ∧ TabOK W) := fun W f => ⟨hd.fr f fun c _ _ hc hg => hFG c hg hc, fun i hi => f.cell (fun _ _ => hG0) (ht i hi)⟩
  obtain ⟨Gn, hGn⟩ : ∃ Gn : Nat → Prop, (fun c => G c ∨ w.heap.size ≤ c) = Gn := ⟨_, rfl⟩
  have HGN : Hid (∀ c, Gn c ↔ (G c ∨ w.heap.size ≤ c)) := fun c => by rw [← hGn]
  have J0 : Hid (Jnl w bj bd Gn ⟨loc, n, first, ep, low, []⟩) := h.mono fun c hc => (HGN.out c).2 (.inl hc)
  obtain ⟨P, hP⟩ : ∃ P : Nat → Option (Nat × Nat × List UInt8), (fun s => parseP (D.seen.getD (loc + 2 + s % n) [])) = P := ⟨_, rfl⟩
  have HP : Hid (∀ s, P s = parseP (D.seen.getD (loc + 2 + s % n) [])) := fun s => by rw [← hP]
  have hjh : jheld D loc n first ep low = scanM P ep n first low := by rw [← hP]; rfl
  show Calls _ _ _ _ fun e w' => e = .returned (.tuple #[]) ∧ Jnl w' bj bd (fun c => G c ∨ w.heap.size ≤ c) ⟨loc, n, first, ep, low, jheld D loc n first ep low⟩ ∧ Fr (fun c _ => ¬ G c) w w'
  rw [hjh, hGn]
  have HSZ := Lib.hid hsz
  clear h hd ht hsz hP hjh hGn hwf
  go_enter Tryd.func57, Tryd.ntmps57
  go_wp2
  go_step3
  go_wp2
  go_step3
  go_wp2
  go_loopw [2] (fun i wr => ∃ (H : List (Nat × List UInt8)) (lo : Nat), i = .int .u32 (lo : Nat) ∧ lo < 4294967296 ∧ H.length ≤ n ∧ Hid (scanM P ep n first low = H ++ scanM P ep (n - H.length) (first + H.length) lo) ∧ Hid (Jnl wr bj bd Gn ⟨loc, n, first, ep, low, H⟩) ∧ Hid (Fr (fun c _ => ¬ G c) w wr)) (fun _ wr => n - rowLen wr bj)
  case atStart => exact ⟨[], low, rfl, hl, Nat.zero_le _, rfl, J0, Fr.refl _ _⟩
  case round =>
    obtain ⟨H, lo, rfl, hlo, hH, HS, HJ, HF⟩ := hrel
    have hrl := Lib.hid HJ.out.rowLen
    have NQ : Hid (∀ k, Calls Tryd.prog 49 #[.pointer (some ⟨bj, 0, none⟩)] (wr.drewN k) fun e w' => e = .returned (.int .u64 ((first + H.length : Nat) : Int)) ∧ ∃ m, w' = (wr.drewN k).drewN m) := fun k => next_q (wr.drewN k) bj bd Gn _ (HJ.out.tt ((Fr.refl _ wr).drewN k))
    have NX : Hid (∀ W, Fr (fun _ _ => True) wr W → Calls Tryd.prog 49 #[.pointer (some ⟨bj, 0, none⟩)] W fun e w' => e = .returned (.int .u64 ((first + H.length : Nat) : Int)) ∧ Fr (fun _ _ => True) W w') := fun W f => next_calls W bj bd Gn _ (HJ.out.tt f)
    have SX : Hid (first + H.length ≤ 4294967295 → ∀ W, Fr (fun _ _ => True) wr W → Calls Tryd.prog 52 #[.pointer (some ⟨bj, 0, none⟩), .int .u32 ((first + H.length : Nat) : Int)] W fun e w' => e = .returned (.int .i64 ((loc + 2 + (first + H.length) % n : Nat) : Int)) ∧ Fr (fun _ _ => True) W w') := fun hs W f => sector_calls W bj bd Gn _ _ _ rfl (HJ.out.tt f) (by omega)
    have RX : Hid (∀ W, Fr (fun _ _ => True) wr W → Calls Tryd.prog 102 #[.pointer (some ⟨bd, 0, none⟩), .int .i64 ((loc + 2 + (first + H.length) % n : Nat) : Int)] W fun e w' => (∃ a cap, e = .returned (.tuple #[.slice a 64 cap, .int .i64 0]) ∧ BytesAt (New W.heap.size) w' (.slice a 64 cap) (D.seen.getD (loc + 2 + (first + H.length) % n) [])) ∧ Fr (fun _ _ => True) W w') := fun W f => read_sec W bd F D _ _ rfl ((DT.out wr HF.out).1.tt f) (by
      have := HSZ.out
      have := Nat.mod_lt (first + H.length) n1
      omega)
    have CX : Hid (∀ W, Fr (fun _ _ => True) wr W → W.cell? ⟨bj, 0, none⟩ = some (.pointer (some ⟨bd, 0, none⟩)) ∧ W.cell? ⟨bj, 4, none⟩ = some (.int .u32 (ep : Nat))) := fun W f => by
      obtain ⟨vh, T, hj⟩ := HJ.out.tt f
      exact ⟨cell_mk hj.top rfl, cell_mk hj.top rfl⟩
    obtain ⟨a6, cap6, c6⟩ : ∃ a cap, wr.cell? ⟨bj, 6, none⟩ = some (.slice a H.length cap) := by
      obtain ⟨vh, T, hj⟩ := HJ.out
      obtain ⟨a, cap, rfl⟩ := own_form hj.row
      have := cell_mk (i := 6) hj.top rfl
      rw [hj.len] at this
      exact ⟨a, cap, this⟩
    have c2 : wr.cell? ⟨bj, 2, none⟩ = some (.int .i64 (n : Nat)) := by
      obtain ⟨vh, T, hj⟩ := HJ.out
      exact cell_mk hj.top rfl
    have HPP := Lib.hid (HP.out (first + H.length))
    by_cases hlt : H.length < n
    · have hlt' : (H.length : Int) < n := by omega
      obtain ⟨sq, hsq⟩ : ∃ sq, first + H.length = sq := ⟨_, rfl⟩
      rw [hsq] at NQ NX SX RX HS HPP
      obtain ⟨sec, hsec⟩ : ∃ sec, loc + 2 + sq % n = sec := ⟨_, rfl⟩
      rw [hsec] at SX RX HPP
      have HSQ := Lib.hid hsq
      clear hsq hsec
      by_cases hm : sq ≤ 4294967295
      · have hm' : (sq : Int) ≤ 4294967295 := by omega
        replace SX := Lib.hid (SX.out hm)
        have hwr : IntKind.u32.wrap (sq : Int) = sq := by rw [IntKind.wrap_u32]; omega
        go_wp2_with fail
        go_quiet ((go_at_call 49; exact Calls.quiet_of (NQ.out _)))
        obtain ⟨wa, hwa⟩ : ∃ wa, wr.drewN nq = wa := ⟨_, rfl⟩
        have FA : Hid (Fr (fun _ _ => True) wr wa) := hwa ▸ (Fr.refl _ wr).drewN nq
        rw [hwa]
        clear hwa c6 c2 NQ
        go_wp2_with fail
        go_region_held3 (fun W => W.cell? ⟨bj, 0, none⟩ = some (.pointer (some ⟨bd, 0, none⟩))) (first | exact (CX.out _ FA.out.drew).1 | exact (CX.out _ F1.out).1 | exact (CX.out _ F2.out).1 | exact (CX.out _ F3.out).1)
          (first
            | (go_at_call 49; (with_reducible refine (NX.out _ FA.out.drew).mono ?_); rintro e w1 ⟨rfl, f1⟩; have F1 := Lib.hid (FA.out.drew.trans f1); clear f1)
            | (go_at_call 52; (with_reducible refine (SX.out _ F1.out).mono ?_); rintro e w2 ⟨rfl, f2⟩; have F2 := Lib.hid (F1.out.trans f2); clear f2)
            | (go_at_call 102; (with_reducible refine (RX.out _ F2.out).mono ?_); rintro e w3 ⟨⟨ar, cr, rfl, br⟩, f3⟩; have F3 := Lib.hid (F2.out.trans f3); have BR := Lib.hid br; clear br f3))
        all_goals
          have S3 : Hid (w.heap.size ≤ w3.heap.size) := Nat.le_trans HF.out.size F3.out.size
          have PC := Lib.hid (parse_calls w3 _ _ BR.out (DT.out w3 (HF.out.trans (F3.out.mono fun _ _ _ => trivial))).2)
          clear F1 F2 BR SX RX
          go_wp2_with fail
          (with_reducible refine PC.out.mono ?_)
          rintro e w4 ⟨(⟨hpn, rfl⟩ | ⟨s, p, b, a', cap', hps, rfl, hb⟩), f4⟩
          · have F4 := Lib.hid (F3.out.trans f4)
            have HN := Lib.hid (HPP.out.trans hpn)
            clear hpn f4 PC F3 FA NX
            go_wp2
            rw [Exit.noGoto_normal]
            go_end0
            refine ⟨rfl, ?_, HF.out.trans (F4.out.mono fun _ _ _ => trivial)⟩
            rw [HS.out, scanM_none HN.out, List.append_nil]
            exact HJ.out.tt F4.out
          · have F4 := Lib.hid (F3.out.trans f4)
            have HN := Lib.hid (HPP.out.trans hps)
            have hpos := parseP_pos hps
            have HB := Lib.hid hb
            have hs1 : s < 4294967296 := hpos.2.1
            have hp1 : p < 4294967296 := hpos.2.2.1
            have HBL : Hid (b.length ≤ 43) := hpos.2.2.2
            clear hps hb hpos f4 PC F3 FA
            have STOP : Hid (¬ (sq ≤ 4294967295 ∧ s = sq ∧ lo ≤ p ∧ p ≤ ep) → ∀ w', Fr (fun _ _ => True) wr w' → Jnl w' bj bd Gn ⟨loc, n, first, ep, low, scanM P ep n first low⟩ ∧ Fr (fun c _ => ¬ G c) w w') := fun hn w' f => by
              rw [HS.out, scanM_stop HN.out hn, List.append_nil]
              exact ⟨HJ.out.tt f, HF.out.trans (f.mono fun _ _ _ => trivial)⟩
            have C4 := (CX.out w4 F4.out).2
            by_cases q1 : s = sq
            · subst q1
              by_cases q2 : p < lo
              · have NX4 := Lib.hid (NX.out w4 F4.out)
                clear NX
                go_wp2_with fail
                (with_reducible refine NX4.out.mono ?_)
                rintro e w5 ⟨rfl, f5⟩
                have F5 := Lib.hid (F4.out.trans f5)
                clear f5 NX4 C4
                go_wp2
                rw [Exit.noGoto_normal]
                go_end0
                exact ⟨rfl, STOP.out (fun h => by omega) _ F5.out⟩
              · have q2' : decide (p < lo) = false := by simp; omega
                by_cases q3 : ep < p
                · have NX4 := Lib.hid (NX.out w4 F4.out)
                  clear NX C4
                  go_wp2_with fail
                  (with_reducible refine NX4.out.mono ?_)
                  rintro e w5 ⟨rfl, f5⟩
                  have F5 := Lib.hid (F4.out.trans f5)
                  have C5 := (CX.out w5 F5.out).2
                  clear f5 NX4
                  go_wp2
                  rw [Exit.noGoto_normal]
                  go_end0
                  exact ⟨rfl, STOP.out (fun h => by omega) _ F5.out⟩
                · have q3' : decide (ep < p) = false := by simp; omega
                  have NX4 := Lib.hid (NX.out w4 F4.out)
                  clear NX C4 STOP
                  go_wp2_with fail
                  (with_reducible refine NX4.out.mono ?_)
                  rintro e w5 ⟨rfl, f5⟩
                  have F5 := Lib.hid (F4.out.trans f5)
                  have HB5 := Lib.hid (HB.out.tt f5)
                  obtain ⟨vh, T, hj⟩ := HJ.out.tt F5.out
                  obtain ⟨av, cv, rfl⟩ := own_form hj.row
                  have HLEN : Hid (T.length = H.length) := hj.len
                  have hT : T.length ≤ 1000000 := by have := HLEN.out; omega
                  have hTn : Hid (T.length < n) := by have := HLEN.out; show T.length < n; omega
                  have c6 : w5.cell? ⟨bj, 6, none⟩ = some (.slice av T.length cv) := cell_mk hj.top rfl
                  have c4 := (CX.out w5 F5.out).2
                  obtain ⟨WA, hWA⟩ : ∃ WA, w5.alloc (.cells #[.int .u32 (p : Nat), .slice a' b.length cap'] 94 (0, 0)) = WA := ⟨_, rfl⟩
                  have FWA : Hid (Fr (fun _ _ => True) w5 WA) := hWA ▸ (Fr.refl _ w5).alloc _
                  have JA : Hid (JAt WA bj bd Gn (.slice av T.length cv) T ⟨loc, n, first, ep, low, H⟩) := hj.fr (K := fun _ _ => True) FWA.out fun _ _ _ _ => trivial
                  have OA := Lib.hid JA.out.row
                  have HX : Hid (∃ fz, WA.heap[w5.heap.size]? = some (.cells #[.int .u32 (p : Nat), .slice a' b.length cap'] 94 fz)) := ⟨_, hWA ▸ heap_alloc_new _ _⟩
                  have BA : Hid (BytesAt (KJ Gn) WA (.slice a' b.length cap') b) := (HB5.out.tt FWA.out).mono fun c o _ hc => ⟨(HGN.out c).2 (.inr (by
                    have := S3.out
                    have := hc.1
                    omega)), hc.2⟩
                  have SZ : Hid (∀ c, WA.heap.size ≤ c → Gn c) := fun c hc => (HGN.out c).2 (.inr (by
                    have := HF.out.size
                    have := F5.out.size
                    have := FWA.out.size
                    omega))
                  clear f5 NX4 hj HB HB5
                  go_wp2_with (at_builtin; refine wpList_append_jr WA rfl _ _ rfl _ T rfl OA w5.heap.size rfl p (.slice a' b.length cap') b HX rfl hT ?_)
                  intro v' w6 O6 G6 N6
                  obtain ⟨av', cv', rfl⟩ := own_form O6.out
                  obtain ⟨c6', z6', j6, f6⟩ := JA.out.store G6.out O6.out N6.out (fun c h => h) SZ.out (p, .slice a' b.length cap', b) rfl BA.out JA.out.rowkind ⟨hp1, HBL.out⟩ hTn.out
                  have J6 := Lib.hid j6
                  have F6 : Hid (Fr (fun c _ => ¬ G c) w (w6.setCell ⟨bj, 6, none⟩ (.slice av' (T.length + 1) cv'))) := Fr.within (((HF.out.mono fun c _ h => h.1).trans ((F5.out.trans FWA.out).mono fun _ _ _ => trivial)).trans (f6.mono fun c _ h hg => by
                    rcases (HGN.out c).1 hg with q | q
                    · exact h.1 q
                    · omega))
                  clear j6 f6 hWA c6 c4 O6 G6 N6 OA HX BA SZ JA FWA
                  go_wp2
                  go_roundw
                  case rel =>
                    refine ⟨H ++ [(p, b)], p, rfl, hp1, by simp; omega, ?_, ⟨_, _, J6.out⟩, F6.out⟩
                    show _ = _
                    rw [HS.out, List.append_assoc]
                    congr 1
                    have e1 : n - H.length = (n - (H ++ [(p, b)]).length) + 1 := by simp; omega
                    have e2 : first + (H ++ [(p, b)]).length = s + 1 := by have := HSQ.out; simp; omega
                    rw [e1, e2, scanM_go HN.out (by omega) (by omega) (by omega)]
                    rfl
                  case measure =>
                    have h1 := hrl.out
                    have h2 : rowLen (w6.setCell ⟨bj, 6, none⟩ (.slice av' (T.length + 1) cv')) bj = (H ++ [(p, b)]).length := Jnl.rowLen ⟨_, _, J6.out⟩
                    replace h1 : rowLen wr bj = H.length := h1
                    rw [h1, h2]
                    simp
                    omega
            · have e1 : ((s : Int) == sq) = false := by simp; omega
              have e2 : ((s : Int) != sq) = true := by simp; omega
              have NX4 := Lib.hid (NX.out w4 F4.out)
              clear NX
              go_wp2_with fail
              (with_reducible refine NX4.out.mono ?_)
              rintro e w5 ⟨rfl, f5⟩
              have F5 := Lib.hid (F4.out.trans f5)
              clear f5 NX4 C4
              go_wp2
              rw [Exit.noGoto_normal]
              go_end0
              exact ⟨rfl, STOP.out (fun h => q1 h.2.1) _ F5.out⟩
      · have hm' : (4294967295 : Int) < sq := by omega
        go_wp2_with fail
        go_quiet ((go_at_call 49; exact Calls.quiet_of (NQ.out _)))
        go_wp2
        rw [Exit.noGoto_normal]
        go_end0
        refine ⟨rfl, ?_, HF.out.drewN _⟩
        rw [HS.out, scanM_far hm, List.append_nil]
        exact HJ.out.tt ((Fr.refl _ _).drewN _)
    · have hlt' : decide (H.length < n) = false := by simp; omega
      go_wp2_with fail
      go_quiet ((go_at_call 49; exact Calls.quiet_of (NQ.out _)))
      go_wp2
      rw [Exit.noGoto_normal]
      go_end0
      refine ⟨rfl, ?_, HF.out.drewN _⟩
      have e : n - H.length = 0 := by omega
      rw [HS.out, e]
      show Jnl _ bj bd Gn ⟨loc, n, first, ep, low, H ++ []⟩
      rw [List.append_nil]
      exact HJ.out.tt ((Fr.refl _ _).drewN _)
end Go.Proofs.YtcpbmempfeloaaaDoor
/- Package journal: Open. -/
namespace Go.Proofs.YtcpbmempfeloaaaDoor
open Go.RowKit
set_option linter.unusedVariables false
set_option linter.unusedSimpArgs false

/-- A disk and a journal that lie apart, within P. -/
def JD (P : Nat → Prop) (w : World) (bj bd : Nat) (J : Jn) (D : Dk) : Prop := ∃ F G : Nat → Prop, Dsk w bd F D ∧ Jnl w bj bd G J ∧ (∀ c, F c → P c ∧ c < w.heap.size) ∧ (∀ c, G c → P c ∧ c < w.heap.size) ∧ ∀ c, G c → ¬ F c
/-- What Open answers, and leaves. -/
def OpenPost (w : World) (bd : Nat) (F : Nat → Prop) (r : Int × Option Jn × Dk) (e : Ending) (w' : World) : Prop :=
  Fr (fun c _ => ¬ F c) w w' ∧ ((r.2.1 = none ∧ e = .returned (.tuple #[.pointer none, .slice none 0 0, .int .i64 r.1]) ∧ Dsk w' bd (fun c => F c ∨ w.heap.size ≤ c) r.2.2) ∨
    ∃ (J : Jn) (bj : Nat) (a : Option Addr) (c : Nat) (V : List (Value × List UInt8)) (P R : Nat → Prop), r.2.1 = some J ∧ e = .returned (.tuple #[.pointer (some ⟨bj, 0, none⟩), .slice a J.all.length c, .int .i64 r.1]) ∧ JD P w' bj bd J r.2.2 ∧ OwnL w' R (.slice a J.all.length c) V ∧ V.map (·.2) = J.all ∧ (∀ c, P c → F c ∨ w.heap.size ≤ c) ∧ ∀ c, R c → w.heap.size ≤ c ∧ ¬ P c)

theorem Dsk.fbJ {w : World} {bd : Nat} {F : Nat → Prop} {D : Dk} (h : Dsk w bd F D) : F bd := by obtain ⟨_, _, _, _, h1, _⟩ := h; exact h1
theorem Dsk.ltJ {w : World} {bd : Nat} {F : Nat → Prop} {D : Dk} (h : Dsk w bd F D) : bd < w.heap.size := by obtain ⟨_, _, _, h1, _⟩ := h; exact lt_of_some h1.top
theorem load_code {D : Dk} {k : Nat} {b : List UInt8} {s : Nat} {c : Int} (h : loadM D k = (b, s, c)) (hr : D.right k = true) : c = 0 ∨ c = 41 := by
  unfold loadM at h
  rw [if_pos hr] at h
  split at h
  · cases h; exact .inr rfl
  · cases h; exact .inl rfl
theorem load_len' {D : Dk} {i : Int} {b : List UInt8} {n : Nat} {c : Int} (h : loadM D i = (b, n, c)) : b.length ≤ 43 := by
  unfold loadM at h
  split at h
  · split at h
    · cases h; decide
    · cases h; exact (lastRec_bound D _).2.1
  · cases h; decide

set_option maxRecDepth 100000 in
set_option maxHeartbeats 4000000 in
theorem jopen_main (w : World) (bd : Nat) (F : Nat → Prop) (D : Dk) (l n : Nat) (hd : Dsk w bd F D) (ht : TabOK w) (hFs : ∀ c, F c → c < w.heap.size) (hq : D.pend.length < 1000000) (h1 : 1 ≤ n) (h2 : n ≤ 100) (h3 : l + 2 + n ≤ D.sure.length) :
    Calls Tryd.prog 17 #[.pointer (some ⟨bd, 0, none⟩), .int .i64 (l : Nat), .int .i64 (n : Nat)] w (OpenPost w bd F (jopenIn D l n)) := by
  have hw0 : 0 < w.heap.size := by have := cell_lt (ht 0 (by decide)); simpa using this
  have hmax := hd.wf.max
  have HL := Lib.hid (len_calls w bd F D hd)
  obtain ⟨m, hm⟩ : ∃ m, D.sure.length = m := ⟨_, rfl⟩
  rw [hm] at HL hmax h3
  have HM := Lib.hid hm
  clear hm
  have DT : Hid (∀ W, Fr (fun c _ => c < w.heap.size) w W → Dsk W bd F D ∧ TabOK W) := fun W f => ⟨hd.fr f fun c _ _ hc => hFs c hc, fun i hi => f.cell (fun _ _ => hw0) (ht i hi)⟩
  have hbd : bd < w.heap.size := hd.ltJ
  obtain ⟨b, s, c, hld⟩ : ∃ b s c, loadM D l = (b, s, c) := ⟨_, _, _, rfl⟩
  have hcc := load_code hld (by unfold Dk.right; rw [HM.out]; simp; omega)
  have hbl := load_len' hld
  obtain ⟨W1, hW1⟩ : ∃ W1, w.alloc (.cells #[.pointer (some ⟨bd, 0, none⟩), .int .i64 (l : Nat), .int .i64 (n : Nat), .int .u32 1, .int .u32 0, .int .u32 0, .slice none 0 0] 92 (0, 0)) = W1 := ⟨_, rfl⟩
  have F1 : Hid (Fr (fun c _ => c < w.heap.size) w W1) := hW1 ▸ (Fr.refl _ _).alloc _
  have J1 : Hid (Jnl W1 w.heap.size bd (fun c => w.heap.size ≤ c) ⟨l, n, 1, 0, 0, []⟩) := ⟨.slice none 0 0, [], hW1 ▸ heap_alloc_new _ _, ⟨rfl, .inl ⟨rfl, rfl⟩⟩, fun c e => (by cases e), rfl, fun x hx => (by cases hx), Nat.le_refl _, ⟨h1, h2, by show l ≤ 512; omega, by show (1 : Nat) < _; decide, by show (0 : Nat) < _; decide, by show (0 : Nat) < _; decide, by simp, fun x hx => (by cases hx)⟩⟩
  have LC := Lib.hid (load_calls W1 bd F D l (DT.out W1 F1.out).1 (DT.out W1 F1.out).2 b s c hld)
  have HLD := Lib.hid hld
  have HFS := Lib.hid hFs
  have hl0 : decide ((l : Int) < 0) = false := by simp
  have i1 : (1 : Int) ≤ n := by omega
  have i2 : (n : Int) ≤ 100 := by omega
  have i3 : (l : Int) ≤ (m : Int) - 2 - n := by omega
  have i4 : (m : Int) ≤ 512 := by omega
  clear hd ht hFs hld
  go_enter Tryd.func17, Tryd.ntmps17
  go_wp2_with fail
  (with_reducible refine HL.out.mono ?_)
  rintro e w0 ⟨rfl, rfl⟩
  go_wp2_with fail
  (with_reducible refine LC.out.mono ?_)
  rintro e w2 ⟨⟨a2, c2, rfl, b2⟩, f2⟩
  clear hW1 LC
  have HFG : Hid (∀ c, w.heap.size ≤ c → ¬ F c) := fun c h hf => by have := HFS.out c hf; omega
  have HQ := Lib.hid hq
  clear hq
  rcases hcc with rfl | rfl
  rotate_left
  · -- nothing was saved
    obtain ⟨f, hf⟩ : ∃ f : Nat, f = 1 := ⟨_, rfl⟩
    obtain ⟨p, hp0⟩ : ∃ p : Nat, p = 0 := ⟨_, rfl⟩
    obtain ⟨lo, hlo⟩ : ∃ lo : Nat, lo = 0 := ⟨_, rfl⟩
    have HSL : Hid (jslot D l = (f, p, lo, true)) := by show _ = _; unfold jslot; rw [HLD.out, if_neg (show ¬ ((41 : Int) = 0) by decide), hf, hp0, hlo]
    have J3 : Hid (Jnl w2 w.heap.size bd (fun c => w.heap.size ≤ c) ⟨l, n, f, p, lo, []⟩) := by
      rw [hf, hp0, hlo]; exact J1.out.tt f2
    have F3 : Hid (Fr (fun c _ => c < w.heap.size) w w2) := F1.out.tt f2
    have hpm : p < 4294967296 := by omega
    have hp : ¬ p = 4294967295 := by omega
    have hp' : ((p : Int) == 4294967295) = false := by simp; omega
    have c4 : w2.cell? ⟨w.heap.size, 4, none⟩ = some (.int .u32 (p : Nat)) := by
      obtain ⟨vh, T, hj⟩ := J3.out
      exact cell_mk hj.top rfl
    have OUT : Hid (∀ w', Fr (fun c _ => c < w.heap.size) w w' → Fr (fun c _ => ¬ F c) w w' ∧ Dsk w' bd (fun c => F c ∨ w.heap.size ≤ c) D) := fun w' f => ⟨Fr.within (f.mono fun _ _ h => h.2), (DT.out w' f).1.mono fun c h => .inl h⟩
    have SC := Lib.hid (scan_calls w2 w.heap.size bd (fun c => w.heap.size ≤ c) F ⟨l, n, f, p, lo, []⟩ D J3.out (DT.out w2 F3.out).1 HFG.out (by omega) (DT.out w2 F3.out).2 rfl (by show l + 2 + n ≤ _; rw [HM.out]; exact h3))
    clear J3 f2 b2 J1 F1 hf hlo hp0
    obtain ⟨w3, hw3⟩ : ∃ w3, w3 = w2 := ⟨_, rfl⟩
    subst hw3
    go_wp2_with fail
    (with_reducible refine SC.out.mono ?_)
    rintro e w4 ⟨rfl, j4, f4⟩
    obtain ⟨H, hH⟩ : ∃ H, jheld D l n f p lo = H := ⟨_, rfl⟩
    have j4' : Jnl w4 w.heap.size bd (fun c => w.heap.size ≤ c) ⟨l, n, f, p, lo, H⟩ := by
      rw [← hH]
      exact j4.mono fun c h => by
        have := F3.out.size
        omega
    have F4 : Hid (Fr (fun c _ => c < w.heap.size) w w4) := F3.out.trans (f4.mono fun c _ h => by omega)
    have HH := Lib.hid hH
    clear j4 f4 hH SC c4 F3
    obtain ⟨vh, T, hj⟩ := j4'
    have c4 : w4.cell? ⟨w.heap.size, 4, none⟩ = some (.int .u32 (p : Nat)) := cell_mk hj.top rfl
    have z4 := frozen_mk (i := 4) hj.top
    have hj5 : Jnl (w4.setCell ⟨w.heap.size, 4, none⟩ (.int .u32 ((p : Int) + 1))) w.heap.size bd (fun c => w.heap.size ≤ c) ⟨l, n, f, p + 1, lo, H⟩ := ⟨vh, T, hj.turn ((Fr.refl _ w4).setCell (fun _ _ h => h rfl) _) (by
      have := heap_setCell_same (o := 4) hj.top (.int .u32 ((p : Int) + 1))
      rw [this]
      push_cast
      rfl) rfl (by
      have hw := hj.wf
      exact ⟨hw.n1, hw.n100, hw.locm, hw.f, by show p + 1 < 4294967296; omega, hw.l, hw.few, hw.hd⟩)⟩
    have hf5 : Fr (fun c _ => c < w.heap.size) w (w4.setCell ⟨w.heap.size, 4, none⟩ (.int .u32 ((p : Int) + 1))) := F4.out.setCell (fun _ _ h => by simp at h) _
    have J5 := Lib.hid hj5
    have F5 := Lib.hid hf5
    have hpi : (p : Int) + 1 < 4294967296 := by omega
    clear hj hj5 hf5
    go_wp2_with fail
    obtain ⟨w5, hw5⟩ : ∃ w5, w4.setCell ⟨w.heap.size, 4, none⟩ (.int .u32 ((p : Int) + 1)) = w5 := ⟨_, rfl⟩
    rw [hw5] at J5 F5 ⊢
    clear hw5 c4 z4
    obtain ⟨sc, sd, hs⟩ : ∃ sc sd, jsave ⟨l, n, f, p + 1, lo, H⟩ D = (sc, sd) := ⟨_, _, rfl⟩
    have SV := jsave_calls w5 w.heap.size bd (fun c => w.heap.size ≤ c ∧ c < w5.heap.size) F ⟨l, n, f, p + 1, lo, H⟩ D J5.out.inside (DT.out w5 F5.out).1 (fun c h => HFG.out c h.1) (DT.out w5 F5.out).2 HQ.out
    rw [hs] at SV
    have SV := Lib.hid SV
    have HS := Lib.hid hs
    clear hs
    (with_reducible refine SV.out.mono ?_)
    rintro e w6 ⟨rfl, d6, f6⟩
    have D6 : Hid (Dsk w6 bd (fun c => F c ∨ w5.heap.size ≤ c) sd) := d6
    have J6 : Hid (Jnl w6 w.heap.size bd (fun c => w.heap.size ≤ c ∧ c < w5.heap.size) ⟨l, n, f, p + 1, lo, H⟩) := J5.out.inside.fr f6 fun c _ _ h => HFG.out c h.1
    have F6 : Hid (Fr (fun c _ => ¬ F c ∧ c < w.heap.size) w w6) := (F5.out.mono fun c _ h => h.2).trans (f6.mono fun c _ h => h.1)
    have S5 : Hid (w.heap.size ≤ w5.heap.size) := F5.out.size
    have S6 : Hid (w5.heap.size ≤ w6.heap.size) := f6.size
    clear d6 f6 SV J5 F5 F4
    have EQ : Hid (jopenIn D l n = if sc = 0 then (0, some ⟨l, n, f, p + 1, lo, H⟩, sd) else (sc, none, sd)) := by
      show _ = _
      unfold jopenIn
      rw [HSL.out]
      simp only
      rw [if_neg (by decide), if_neg hp, HH.out, HS.out]
    by_cases q : sc = 0
    · subst q
      have AC := Lib.hid (all_calls w6 w.heap.size bd _ _ J6.out)
      go_wp2_with fail
      (with_reducible refine AC.out.mono ?_)
      rintro e w7 ⟨⟨a7, c7, V, rfl, o7, hV⟩, f7⟩
      have O7 := Lib.hid o7
      have HV := Lib.hid hV
      have F7 := Lib.hid f7
      clear o7 hV f7 AC
      go_wp2
      go_ret3
      refine ⟨Fr.within (F6.out.tt F7.out), .inr ⟨⟨l, n, f, p + 1, lo, H⟩, w.heap.size, a7, c7, V, fun c => (F c ∨ w.heap.size ≤ c) ∧ c < w6.heap.size, fun c => w6.heap.size ≤ c, ?_, ?_, ?_, O7.out, HV.out, fun c h => h.1, fun c h => ⟨?_, fun h2 => ?_⟩⟩⟩
      · rw [EQ.out]; rfl
      · rw [EQ.out]; rfl
      · rw [EQ.out]
        have := F7.out.size
        have := S5.out
        have := S6.out
        refine ⟨_, _, D6.out.inside.tt F7.out, J6.out.tt F7.out, fun c h => ⟨⟨?_, h.2⟩, ?_⟩, fun c h => ⟨⟨.inr h.1, ?_⟩, ?_⟩, fun c h h2 => ?_⟩
        · rcases h.1 with h | h
          · exact .inl h
          · exact .inr (by omega)
        · have := h.2; omega
        · have := h.2; omega
        · have := h.2; omega
        · rcases h2.1 with h3 | h3
          · exact HFG.out c h.1 h3
          · have := h.2; omega
      · have := S5.out
        have := S6.out
        omega
      · have := h2.2; omega
    · have q' : (sc != 0) = true := by simpa using q
      go_wp2
      go_ret3
      refine ⟨Fr.within F6.out, .inl ?_⟩
      rw [EQ.out, if_neg q]
      refine ⟨rfl, rfl, D6.out.mono fun c h => ?_⟩
      have := S5.out
      rcases h with h | h
      · exact .inl h
      · exact .inr (by omega)
  · obtain ⟨f, p, lo, ok, hmt⟩ : ∃ f p lo ok, metaM b = (f, p, lo, ok) := ⟨_, _, _, _, rfl⟩
    have MC := Lib.hid (meta_calls w2 w.heap.size bd _ _ _ b (J1.out.tt f2) b2 (by omega) f p lo ok hmt)
    have HSL : Hid (jslot D l = (f, p, lo, ok)) := by show _ = _; unfold jslot; rw [HLD.out, if_pos rfl, hmt]
    have F2 := Lib.hid (F1.out.tt f2)
    clear f2 b2 hmt
    go_wp2_with fail
    (with_reducible refine MC.out.mono ?_)
    rintro e w3 ⟨rfl, j3, f3⟩
    have J3 : Hid (Jnl w3 w.heap.size bd (fun c => w.heap.size ≤ c) ⟨l, n, f, p, lo, []⟩) := j3
    have F3 : Hid (Fr (fun c _ => c < w.heap.size) w w3) := F2.out.trans (f3.mono fun c _ h => by omega)
    clear j3 f3 MC F2 J1 F1
    have OUT : Hid (∀ w', Fr (fun c _ => c < w.heap.size) w w' → Fr (fun c _ => ¬ F c) w w' ∧ Dsk w' bd (fun c => F c ∨ w.heap.size ≤ c) D) := fun w' f => ⟨Fr.within (f.mono fun _ _ h => h.2), (DT.out w' f).1.mono fun c h => .inl h⟩
    rcases ok with _ | _
    · go_wp2
      go_ret3
      refine ⟨(OUT.out _ F3.out).1, .inl ?_⟩
      have e1 : jopenIn D l n = (41, none, D) := by unfold jopenIn; rw [HSL.out]; rfl
      rw [e1]
      exact ⟨rfl, rfl, (OUT.out _ F3.out).2⟩
    · obtain ⟨vh, T, hj⟩ := J3.out
      have hpm : p < 4294967296 := hj.wf.e
      have c4 : w3.cell? ⟨w.heap.size, 4, none⟩ = some (.int .u32 (p : Nat)) := cell_mk hj.top rfl
      clear hj
      by_cases hp : p = 4294967295
      · have hp' : ((p : Int) == 4294967295) = true := by simp; omega
        go_wp2
        go_ret3
        refine ⟨(OUT.out _ F3.out).1, .inl ?_⟩
        have e1 : jopenIn D l n = (42, none, D) := by unfold jopenIn; rw [HSL.out]; simp only; rw [if_neg (by decide), if_pos hp]
        rw [e1]
        exact ⟨rfl, rfl, (OUT.out _ F3.out).2⟩
      · have hp' : ((p : Int) == 4294967295) = false := by simp; omega
        have SC := Lib.hid (scan_calls w3 w.heap.size bd (fun c => w.heap.size ≤ c) F ⟨l, n, f, p, lo, []⟩ D J3.out (DT.out w3 F3.out).1 HFG.out (by omega) (DT.out w3 F3.out).2 rfl (by show l + 2 + n ≤ _; rw [HM.out]; exact h3))
        clear J3
        go_wp2_with fail
        (with_reducible refine SC.out.mono ?_)
        rintro e w4 ⟨rfl, j4, f4⟩
        obtain ⟨H, hH⟩ : ∃ H, jheld D l n f p lo = H := ⟨_, rfl⟩
        have j4' : Jnl w4 w.heap.size bd (fun c => w.heap.size ≤ c) ⟨l, n, f, p, lo, H⟩ := by
          rw [← hH]
          exact j4.mono fun c h => by
            have := F3.out.size
            omega
        have F4 : Hid (Fr (fun c _ => c < w.heap.size) w w4) := F3.out.trans (f4.mono fun c _ h => by omega)
        have HH := Lib.hid hH
        clear j4 f4 hH SC c4 F3
        obtain ⟨vh, T, hj⟩ := j4'
        have c4 : w4.cell? ⟨w.heap.size, 4, none⟩ = some (.int .u32 (p : Nat)) := cell_mk hj.top rfl
        have z4 := frozen_mk (i := 4) hj.top
        have hj5 : Jnl (w4.setCell ⟨w.heap.size, 4, none⟩ (.int .u32 ((p : Int) + 1))) w.heap.size bd (fun c => w.heap.size ≤ c) ⟨l, n, f, p + 1, lo, H⟩ := ⟨vh, T, hj.turn ((Fr.refl _ w4).setCell (fun _ _ h => h rfl) _) (by
          have := heap_setCell_same (o := 4) hj.top (.int .u32 ((p : Int) + 1))
          rw [this]
          push_cast
          rfl) rfl (by
          have hw := hj.wf
          exact ⟨hw.n1, hw.n100, hw.locm, hw.f, by show p + 1 < 4294967296; omega, hw.l, hw.few, hw.hd⟩)⟩
        have hf5 : Fr (fun c _ => c < w.heap.size) w (w4.setCell ⟨w.heap.size, 4, none⟩ (.int .u32 ((p : Int) + 1))) := F4.out.setCell (fun _ _ h => by simp at h) _
        have J5 := Lib.hid hj5
        have F5 := Lib.hid hf5
        have hpi : (p : Int) + 1 < 4294967296 := by omega
        clear hj hj5 hf5
        go_wp2_with fail
        obtain ⟨w5, hw5⟩ : ∃ w5, w4.setCell ⟨w.heap.size, 4, none⟩ (.int .u32 ((p : Int) + 1)) = w5 := ⟨_, rfl⟩
        rw [hw5] at J5 F5 ⊢
        clear hw5 c4 z4
        obtain ⟨sc, sd, hs⟩ : ∃ sc sd, jsave ⟨l, n, f, p + 1, lo, H⟩ D = (sc, sd) := ⟨_, _, rfl⟩
        have SV := jsave_calls w5 w.heap.size bd (fun c => w.heap.size ≤ c ∧ c < w5.heap.size) F ⟨l, n, f, p + 1, lo, H⟩ D J5.out.inside (DT.out w5 F5.out).1 (fun c h => HFG.out c h.1) (DT.out w5 F5.out).2 HQ.out
        rw [hs] at SV
        have SV := Lib.hid SV
        have HS := Lib.hid hs
        clear hs
        (with_reducible refine SV.out.mono ?_)
        rintro e w6 ⟨rfl, d6, f6⟩
        have D6 : Hid (Dsk w6 bd (fun c => F c ∨ w5.heap.size ≤ c) sd) := d6
        have J6 : Hid (Jnl w6 w.heap.size bd (fun c => w.heap.size ≤ c ∧ c < w5.heap.size) ⟨l, n, f, p + 1, lo, H⟩) := J5.out.inside.fr f6 fun c _ _ h => HFG.out c h.1
        have F6 : Hid (Fr (fun c _ => ¬ F c ∧ c < w.heap.size) w w6) := (F5.out.mono fun c _ h => h.2).trans (f6.mono fun c _ h => h.1)
        have S5 : Hid (w.heap.size ≤ w5.heap.size) := F5.out.size
        have S6 : Hid (w5.heap.size ≤ w6.heap.size) := f6.size
        clear d6 f6 SV J5 F5 F4
        have EQ : Hid (jopenIn D l n = if sc = 0 then (0, some ⟨l, n, f, p + 1, lo, H⟩, sd) else (sc, none, sd)) := by
          show _ = _
          unfold jopenIn
          rw [HSL.out]
          simp only
          rw [if_neg (by decide), if_neg hp, HH.out, HS.out]
        by_cases q : sc = 0
        · subst q
          have AC := Lib.hid (all_calls w6 w.heap.size bd _ _ J6.out)
          go_wp2_with fail
          (with_reducible refine AC.out.mono ?_)
          rintro e w7 ⟨⟨a7, c7, V, rfl, o7, hV⟩, f7⟩
          have O7 := Lib.hid o7
          have HV := Lib.hid hV
          have F7 := Lib.hid f7
          clear o7 hV f7 AC
          go_wp2
          go_ret3
          refine ⟨Fr.within (F6.out.tt F7.out), .inr ⟨⟨l, n, f, p + 1, lo, H⟩, w.heap.size, a7, c7, V, fun c => (F c ∨ w.heap.size ≤ c) ∧ c < w6.heap.size, fun c => w6.heap.size ≤ c, ?_, ?_, ?_, O7.out, HV.out, fun c h => h.1, fun c h => ⟨?_, fun h2 => ?_⟩⟩⟩
          · rw [EQ.out]; rfl
          · rw [EQ.out]; rfl
          · rw [EQ.out]
            have := F7.out.size
            have := S5.out
            have := S6.out
            refine ⟨_, _, D6.out.inside.tt F7.out, J6.out.tt F7.out, fun c h => ⟨⟨?_, h.2⟩, ?_⟩, fun c h => ⟨⟨.inr h.1, ?_⟩, ?_⟩, fun c h h2 => ?_⟩
            · rcases h.1 with h | h
              · exact .inl h
              · exact .inr (by omega)
            · have := h.2; omega
            · have := h.2; omega
            · have := h.2; omega
            · rcases h2.1 with h3 | h3
              · exact HFG.out c h.1 h3
              · have := h.2; omega
          · have := S5.out
            have := S6.out
            omega
          · have := h2.2; omega
        · have q' : (sc != 0) = true := by simpa using q
          go_wp2
          go_ret3
          refine ⟨Fr.within F6.out, .inl ?_⟩
          rw [EQ.out, if_neg q]
          refine ⟨rfl, rfl, D6.out.mono fun c h => ?_⟩
          have := S5.out
          rcases h with h | h
          · exact .inl h
          · exact .inr (by omega)
end Go.Proofs.YtcpbmempfeloaaaDoor
