/- Texts of the proofs, part 10: what the functions that they reach do, walked; no conditions beyond those that each states. -/
import Derived.Test.YtaeonlafcbgpcaaDoorZz1ede97c00e
set_option linter.unusedVariables false
set_option linter.unusedSimpArgs false
/- Law 18: calls as they came in. -/
namespace Go.Proofs.YtaeonlafcbgpcaaDoor
open Go.RowKit
set_option linter.unusedVariables false

theorem nat_u32 {z : Int} (h : (Lit.int .u32 z).wf = true) : ∃ n : Nat, z = n ∧ n < 4294967296 := by
  obtain ⟨h0, h1⟩ := bounds_u32 h
  exact ⟨z.toNat, by omega, by omega⟩
theorem size_u8c : Tryd.prog.cellsOf 5 = 1 := by kernel_rfl
theorem Rd.bs {w : World} {v : Value} (h : Rd Tryd.prog w 23 [v]) : ∃ bs, BytesAt (fun b _ => b < w.heap.size) w v bs ∧ bs.length ≤ maxLen := Rd.bytes Tryd.underlying23 Tryd.underlying5 size_u8c h
theorem Fr.bel {w w' : World} (h : Fr (fun _ _ => True) w w') : Below w.heap.size w w' := (h.mono fun _ _ _ => trivial : Fr (fun b _ => b < w.heap.size) w w').below (Nat.le_refl _)

theorem Rd.ints {P : Program} {w : World} {t e : TypeId} {v : Value} (ht : P.underlying t = some (.slice e)) (he : P.underlying e = some (.int .i64)) (hs : P.cellsOf e = 1) (h : Rd P w t [v]) :
    ∃ zs, IntsAt (fun b _ => b < w.heap.size) w v zs ∧ zs.length ≤ maxLen := by
  obtain ⟨a, len, cap, hv, hl, hm, hn, hc⟩ := h.slice ht hs
  obtain rfl : v = .slice a len cap := by simpa using hv
  obtain ⟨bs, hbl, hb⟩ := list_of (p := fun i (x : Int) => ∃ ad, a = some ad ∧ w.cell? (ad.add i) = some (.int .i64 x)) len fun i hi => by
    obtain ⟨ad, cs', ha, _, hj, hr⟩ := hc i hi
    obtain ⟨n, rfl, hw⟩ := hr.int he
    refine ⟨n, ad, ha, ?_⟩
    have e1 := hj 0 (by omega)
    rw [Nat.mul_one, Nat.add_zero] at e1
    exact e1
  refine ⟨bs, ⟨a, cap, by rw [hbl], ?_⟩, by omega⟩
  by_cases h0 : bs = []
  · exact .inl h0
  · have hp : 0 < bs.length := List.length_pos_iff.2 h0
    obtain ⟨ad, ha, e0⟩ := hb 0 hp
    obtain ⟨b, off, rfl⟩ := spot_of e0
    have hlt := cell_lt e0
    have hlt' : b < w.heap.size := by simpa [add_at] using hlt
    refine .inr ⟨b, off, w.heap[b], ha, Array.getElem?_eq_getElem hlt', hlt', fun i hi => ?_⟩
    obtain ⟨ad', ha', e1⟩ := hb i hi
    rw [ha] at ha'
    cases ha'
    rw [add_at] at e1
    exact e1
theorem size_intc : Tryd.prog.cellsOf 3 = 1 := by kernel_rfl
theorem Rd.is {w : World} {v : Value} (h : Rd Tryd.prog w 37 [v]) : ∃ zs, IntsAt (fun b _ => b < w.heap.size) w v zs ∧ zs.length ≤ maxLen := Rd.ints Tryd.underlying37 Tryd.underlying3 size_intc h
theorem IntsAt.form {K : Nat → Obj → Prop} {w : World} {v : Value} {zs : List Int} (h : IntsAt K w v zs) : ∃ a cap, v = .slice a zs.length cap := by
  obtain ⟨a, cap, hv, _⟩ := h
  exact ⟨a, cap, hv⟩

/-- One call. -/
structure OpV where
  q : Int
  at' : Int
  vb : Value
  vp : Value
  b : List UInt8
  zs : List Int
  s : Nat
  p : Nat
def OpV.cells (o : OpV) : Array Value := #[.int .i64 o.q, .int .i64 o.at', o.vb, o.vp, .int .u32 (o.s : Nat), .int .u32 (o.p : Nat)]
structure OpV.Lies (n : Nat) (w : World) (o : OpV) : Prop where
  hb : BytesAt (fun c _ => c < n) w o.vb o.b
  hp : IntsAt (fun c _ => c < n) w o.vp o.zs
  hs : o.s < 4294967296
  hq : o.p < 4294967296
  lo : -9223372036854775808 ≤ o.at'
  hi : o.at' ≤ 9223372036854775807
theorem OpV.Lies.fr {n : Nat} {w w' : World} {o : OpV} (h : o.Lies n w) (hf : Fr (fun c _ => c < n) w w') : o.Lies n w' := { h with hb := h.hb.fr hf, hp := h.hp.fr hf fun _ _ h => h }
/-- What the walk reads of the i-th call. -/
def OpAt (n : Nat) (w : World) (b off i : Nat) (o : OpV) : Prop :=
  w.cell? ⟨b, off + i * 6, none⟩ = some (.int .i64 o.q) ∧ w.cell? ⟨b, off + i * 6 + 1, none⟩ = some (.int .i64 o.at') ∧ w.cell? ⟨b, off + i * 6 + 2, none⟩ = some o.vb ∧ w.cell? ⟨b, off + i * 6 + 3, none⟩ = some o.vp ∧ w.cell? ⟨b, off + i * 6 + 4, none⟩ = some (.int .u32 (o.s : Nat)) ∧ w.cell? ⟨b, off + i * 6 + 5, none⟩ = some (.int .u32 (o.p : Nat)) ∧ b < n ∧ o.Lies n w
theorem OpAt.fr {n : Nat} {w w' : World} {b off i : Nat} {o : OpV} (h : OpAt n w b off i o) (hf : Fr (fun c _ => c < n) w w') : OpAt n w' b off i o := by
  obtain ⟨h0, h1, h2, h3, h4, h5, hb, h6⟩ := h
  exact ⟨hf.cell (fun _ _ => hb) h0, hf.cell (fun _ _ => hb) h1, hf.cell (fun _ _ => hb) h2, hf.cell (fun _ _ => hb) h3, hf.cell (fun _ _ => hb) h4, hf.cell (fun _ _ => hb) h5, hb, h6.fr hf⟩
/-- A slice of calls. -/
def OpsAt (n : Nat) (w : World) (v : Value) (l : List OpV) : Prop := ∃ a cap, v = .slice a l.length cap ∧ (l = [] ∨ ∃ b off, a = some ⟨b, off, none⟩ ∧ ∀ i, (h : i < l.length) → OpAt n w b off i l[i])
theorem OpsAt.fr {n : Nat} {w w' : World} {v : Value} {l : List OpV} (h : OpsAt n w v l) (hf : Fr (fun c _ => c < n) w w') : OpsAt n w' v l := by
  obtain ⟨a, cap, hv, h⟩ := h
  refine ⟨a, cap, hv, ?_⟩
  rcases h with h | ⟨b, off, ha, h⟩
  · exact .inl h
  · exact .inr ⟨b, off, ha, fun i hi => (h i hi).fr hf⟩
set_option maxRecDepth 100000 in
theorem ops_of {w : World} {a : Option Addr} {len cap : Nat} (h : Rd Tryd.prog w 59 [.slice a len cap]) : ∃ l, OpsAt w.heap.size w (.slice a len cap) l ∧ len ≤ 9223372036854775807 := by
  obtain ⟨a', len', cap', hv, hl1, hl2, _, hc⟩ := h.slice (sz := 6) Tryd.underlying59 (by kernel_rfl)
  unfold maxLen at hl2
  obtain ⟨rfl, rfl, rfl⟩ : a = a' ∧ len = len' ∧ cap = cap' := by simpa using hv
  obtain ⟨l, hl, hp⟩ := list_of (p := fun i (o : OpV) => ∃ ad, a = some ad ∧ w.cell? (ad.add (i * 6)) = some (.int .i64 o.q) ∧ w.cell? (ad.add (i * 6 + 1)) = some (.int .i64 o.at') ∧ w.cell? (ad.add (i * 6 + 2)) = some o.vb ∧ w.cell? (ad.add (i * 6 + 3)) = some o.vp ∧ w.cell? (ad.add (i * 6 + 4)) = some (.int .u32 (o.s : Nat)) ∧ w.cell? (ad.add (i * 6 + 5)) = some (.int .u32 (o.p : Nat)) ∧ o.Lies w.heap.size w) len fun i hi => by
    obtain ⟨ad, cs, ha, hcl, hat, hr⟩ := hc i hi
    obtain ⟨_, hf⟩ := hr.struct (sz := 6) Tryd.underlying108 (by kernel_rfl)
    obtain ⟨c0, c1, c2, c3, c4, c5, rfl⟩ := list6 hcl
    obtain ⟨x, hx, _⟩ := (show Rd Tryd.prog w 3 [c0] from hf 0 _ rfl).int Tryd.underlying3
    obtain ⟨y, hy, hyw⟩ := (show Rd Tryd.prog w 3 [c1] from hf 1 _ rfl).int Tryd.underlying3
    obtain ⟨bs, hb, _⟩ := (show Rd Tryd.prog w 23 [c2] from hf 2 _ rfl).bs
    obtain ⟨zs, hz, _⟩ := (show Rd Tryd.prog w 37 [c3] from hf 3 _ rfl).is
    obtain ⟨s, hs, hsw⟩ := (show Rd Tryd.prog w 22 [c4] from hf 4 _ rfl).int Tryd.underlying22
    obtain ⟨p, hpp, hpw⟩ := (show Rd Tryd.prog w 22 [c5] from hf 5 _ rfl).int Tryd.underlying22
    obtain ⟨s', rfl, hs'⟩ := nat_u32 hsw
    obtain ⟨p', rfl, hp'⟩ := nat_u32 hpw
    obtain ⟨y0, y1⟩ := bounds_i64 hyw
    have hx' : c0 = .int .i64 x := by injection hx
    have hy' : c1 = .int .i64 y := by injection hy
    have hs1 : c4 = .int .u32 (s' : Nat) := by injection hs
    have hp1 : c5 = .int .u32 (p' : Nat) := by injection hpp
    subst hx' hy' hs1 hp1
    exact ⟨⟨x, y, c2, c3, bs, zs, s', p'⟩, ad, ha, hat 0 (by omega), hat 1 (by omega), hat 2 (by omega), hat 3 (by omega), hat 4 (by omega), hat 5 (by omega), hb, hz, hs', hp', y0, y1⟩
  refine ⟨l, ⟨a, cap, by rw [hl], ?_⟩, by omega⟩
  by_cases h0 : l = []
  · exact .inl h0
  · obtain ⟨ad, ha, e0, _⟩ := hp 0 (List.length_pos_iff.2 h0)
    rw [Nat.zero_mul] at e0
    obtain ⟨b, off, rfl⟩ := spot_of e0
    have hlt : b < w.heap.size := by have := cell_lt e0; simpa [add_at] using this
    refine .inr ⟨b, off, ha, fun i hi => ?_⟩
    obtain ⟨ad', ha', e0, e1, e2, e3, e4, e5, h6⟩ := hp i hi
    rw [ha] at ha'
    cases ha'
    simp only [add_at] at e0 e1 e2 e3 e4 e5
    exact ⟨e0, e1, e2, e3, e4, e5, hlt, h6⟩

theorem IntsAt.mono {K K' : Nat → Obj → Prop} {w : World} {v : Value} {zs : List Int} (h : IntsAt K w v zs) (hk : ∀ c o, K c o → K' c o) : IntsAt K' w v zs := by
  obtain ⟨a, cap, hv, h⟩ := h
  refine ⟨a, cap, hv, ?_⟩
  rcases h with h | ⟨b, off, o, h1, h2, h3, h4⟩
  · exact .inl h
  · exact .inr ⟨b, off, o, h1, h2, hk _ _ h3, h4⟩
theorem OpV.Lies.mono {n m : Nat} {w : World} {o : OpV} (h : o.Lies n w) (hm : n ≤ m) : o.Lies m w := { h with hb := h.hb.mono fun c _ _ h => by omega, hp := h.hp.mono fun c _ h => by omega }
theorem OpsAt.mono {n m : Nat} {w : World} {v : Value} {l : List OpV} (h : OpsAt n w v l) (hm : n ≤ m) : OpsAt m w v l := by
  obtain ⟨a, cap, hv, h⟩ := h
  refine ⟨a, cap, hv, ?_⟩
  rcases h with h | ⟨b, off, ha, h⟩
  · exact .inl h
  · refine .inr ⟨b, off, ha, fun i hi => ?_⟩
    obtain ⟨h0, h1, h2, h3, h4, h5, hb, h6⟩ := h i hi
    exact ⟨h0, h1, h2, h3, h4, h5, by omega, h6.mono hm⟩
theorem OpsAt.len {n : Nat} {w : World} {a : Option Addr} {len cap : Nat} {l : List OpV} (h : OpsAt n w (.slice a len cap) l) : len = l.length := by
  obtain ⟨_, _, e, _⟩ := h; cases e; rfl
/-- Calls that lie in memory. -/
theorem OpsAt.lies {n : Nat} {w : World} {v : Value} {l : List OpV} (h : OpsAt n w v l) (j : Nat) (hj : j < l.length) : l[j].Lies n w := by
  obtain ⟨_, _, _, h⟩ := h
  rcases h with h | ⟨b, off, _, h⟩
  · subst h; simp at hj
  · exact (h j hj).2.2.2.2.2.2.2
end Go.Proofs.YtaeonlafcbgpcaaDoor
/- Vaults, plainly: the laws. -/
namespace Go.Proofs.YtaeonlafcbgpcaaDoor
open Go.RowKit
set_option linter.unusedVariables false

theorem up_burn {D : Dk} (hd : D.down = false) (hf : D.fuse < 0) : D.burn = D := by
  unfold Dk.burn
  have h1 : D.fuse - min 1 (max 0 D.fuse) = D.fuse := by omega
  have h2 : (D.down || D.fuse == 0) = D.down := by rw [hd]; simp; omega
  rw [h1, h2]
theorem up_sync {D : Dk} (hd : D.down = false) (hf : D.fuse < 0) : D.sync = { D with sure := laySure D.sure D.pend, pend := [] } := by
  unfold Dk.sync
  rw [up_burn hd hf, if_neg (by rw [hd]; decide)]
theorem up_write {D : Dk} (hd : D.down = false) (hf : D.fuse < 0) {y : Nat} {x : List UInt8} (hy : y < D.sure.length) (hx : x.length = 64) : D.write y x = (0, { D with seen := D.seen.set y x, pend := D.pend ++ [(y, x)] }) := by
  rcases write_cases hy hx with ⟨h, _⟩ | ⟨_, e⟩
  · rw [up_burn hd hf, hd] at h; cases h
  · rw [e]; unfold Dk.put; rw [up_burn hd hf]
theorem vwr_on {D : Dk} (hd : D.down = false) (hf : D.fuse < 0) (base num : Nat) (x : List UInt8) : ∀ j, base + j ≤ D.sure.length → (vwr D base num x j).1 = 0 ∧ (vwr D base num x j).2.down = false ∧ (vwr D base num x j).2.fuse < 0 ∧ (vwr D base num x j).2.sure = D.sure ∧ ∀ z, z < base → (vwr D base num x j).2.seen.getD z [] = D.seen.getD z []
  | 0, _ => ⟨rfl, hd, hf, rfl, fun _ _ => rfl⟩
  | j + 1, h => by
    obtain ⟨h0, h1, h2, h3, h4⟩ := vwr_on hd hf base num x j (by omega)
    rw [vwr, if_pos h0, up_write h1 h2 (by rw [h3]; omega) (stampB_length _ _ _ (chunk43 x j))]
    refine ⟨rfl, h1, h2, h3, fun z hz => ?_⟩
    show (List.set _ (base + j) _).getD z [] = _
    rw [getD_set_other (by omega)]
    exact h4 z hz
theorem vsave_on {D : Dk} (hd : D.down = false) (hf : D.fuse < 0) (hm : D.sure.length ≤ 512) (i n : Int) (x : List UInt8) (hr : vright D i n = 0) (hroom : ¬ vroom n < (x.length : Nat)) (hnum : (readV D i).2.1 ≠ 4294967295) (hseq : (lastRec D i.toNat).2.1 < 4294967295) : (vsave D i n x).1 = 0 := by
  unfold vsave
  rw [if_neg (by rw [hr]; decide), if_neg hroom, if_neg hnum]
  obtain ⟨a, num, size, ok, hrd⟩ : ∃ a num size ok, readV D i = (a, num, size, ok) := ⟨_, _, _, _, rfl⟩
  obtain ⟨ha, _, _⟩ := readV_bd hrd
  rw [hrd]
  obtain ⟨k, N, rfl, rfl, hN1, hN2, hkN⟩ := vright_zero hr hm
  rw [Int.toNat_natCast, Int.toNat_natCast]
  rw [Int.toNat_natCast] at hseq
  show (if (vwr D (k + 2 + (1 - a) * N) (num + 1) x ((x.length + 42) / 43)).1 = 0 then saveM (vwr D (k + 2 + (1 - a) * N) (num + 1) x ((x.length + 42) / 43)).2.sync k (markB (1 - a) (num + 1) x.length) else vwr D (k + 2 + (1 - a) * N) (num + 1) x ((x.length + 42) / 43)).1 = 0
  have haN : (1 - a) * N ≤ N := Nat.le_trans (Nat.mul_le_mul_right N (show 1 - a ≤ 1 by omega)) (by omega)
  have hxN : x.length ≤ 43 * N := by
    have : vroom N ≤ 43 * N := by unfold vroom; omega
    omega
  obtain ⟨base, hbase⟩ : ∃ base, k + 2 + (1 - a) * N = base := ⟨_, rfl⟩
  rw [hbase]
  obtain ⟨h0, h1, h2, h3, h4⟩ := vwr_on hd hf base (num + 1) x ((x.length + 42) / 43) (by omega)
  rw [if_pos h0]
  generalize (vwr D base (num + 1) x ((x.length + 42) / 43)).2 = E at h1 h2 h3 h4
  have es := up_sync h1 h2
  have u1 : E.sync.down = false := by rw [es]; exact h1
  have u2 : E.sync.fuse < 0 := by rw [es]; exact h2
  have u3 : E.sync.sure.length = D.sure.length := by rw [es]; show (laySure E.sure E.pend).length = _; rw [laySure_length, h3]
  have u4 : ∀ z, z < base → E.sync.seen.getD z [] = D.seen.getD z [] := fun z hz => by rw [es]; exact h4 z hz
  generalize E.sync = E' at u1 u2 u3 u4
  have hl : lastRec E' k = lastRec D k := by
    have e1 : ∀ z, z < base → secRec E' z = secRec D z := fun z hz => by unfold secRec; rw [u4 z hz]
    rw [lastRec_two, lastRec_two, e1 k (by omega), e1 (k + 1) (by omega)]
  have hb := lastRec_bound D k
  obtain ⟨y, hy⟩ : ∃ y : Nat, (2 * (k : Int) + 1 - ((lastRec D k).1 : Nat)) = y := ⟨2 * k + 1 - (lastRec D k).1, by omega⟩
  have v1 := up_sync u1 u2
  have w1 : E'.sync.down = false := by rw [v1]; exact u1
  have w2 : E'.sync.fuse < 0 := by rw [v1]; exact u2
  have w3 : E'.sync.sure.length = D.sure.length := by rw [v1]; show (laySure E'.sure E'.pend).length = _; rw [laySure_length, u3]
  obtain ⟨Z, ep, hzd, hzf⟩ : ∃ Z, putM E' k (markB (1 - a) (num + 1) x.length) = (0, Z) ∧ Z.down = false ∧ Z.fuse < 0 := by
    refine ⟨{ E'.sync with seen := E'.sync.seen.set y (stampB ((lastRec D k).2.1 + 1) 0 (markB (1 - a) (num + 1) x.length)), pend := E'.sync.pend ++ [(y, stampB ((lastRec D k).2.1 + 1) 0 (markB (1 - a) (num + 1) x.length))] }, ?_, w1, w2⟩
    · unfold putM
      have hr : E'.right (k : Int) = true := by unfold Dk.right; rw [u3]; simp; omega
      rw [hr, if_pos rfl, if_neg (by rw [markB_length]; decide), Int.toNat_natCast, hl, if_neg (by omega), hy]
      exact up_write w1 w2 (by rw [w3]; omega) (stampB_length _ _ _ (by rw [markB_length]; decide))
  unfold saveM
  rw [ep, if_pos rfl]
  have hsd : Z.sync.down = false := by rw [up_sync hzd hzf]; exact hzd
  show (if Z.sync.down = true then (43 : Int) else 0) = 0
  rw [hsd]; rfl

theorem write_ln (D : Dk) (i : Int) (b : List UInt8) : (D.write i b).2.sure.length = D.sure.length := by
  unfold Dk.write
  split
  · rfl
  · split
    · rfl
    · split <;> rfl
theorem sync_ln (D : Dk) : D.sync.sure.length = D.sure.length := by
  unfold Dk.sync
  split
  · rfl
  · exact laySure_length _ _
theorem putM_ln (D : Dk) (i : Int) (b : List UInt8) : (putM D i b).2.sure.length = D.sure.length := by
  unfold putM
  split
  · split
    · rfl
    · split
      · rfl
      · rw [write_ln, sync_ln]
  · rfl
theorem saveM_ln (D : Dk) (i : Int) (b : List UInt8) : (saveM D i b).2.sure.length = D.sure.length := by
  unfold saveM
  split
  · show (putM D i b).2.sync.sure.length = _
    rw [sync_ln, putM_ln]
  · exact putM_ln D i b
theorem vwr_ln (D : Dk) (base num : Nat) (x : List UInt8) : ∀ j, (vwr D base num x j).2.sure.length = D.sure.length
  | 0 => rfl
  | j + 1 => by
    rw [vwr]
    split
    · rw [write_ln]; exact vwr_ln D base num x j
    · exact vwr_ln D base num x j
theorem vsave_ln (D : Dk) (i n : Int) (x : List UInt8) : (vsave D i n x).2.sure.length = D.sure.length := by
  unfold vsave
  split
  · rfl
  · split
    · rfl
    · split
      · rfl
      · split
        · rw [saveM_ln, sync_ln, vwr_ln]
        · exact vwr_ln _ _ _ _ _
theorem vsave_len {D : Dk} (h : D.sure.length = 20) (x : List UInt8) : (vsave D 1 3 x).2.sure.length = 20 := by rw [vsave_ln]; exact h

/-- What a call does to a disk. -/
def opVM (D : Dk) (o : OpV) : Dk := if o.q = 1 then (vsave D 1 3 o.b).2 else if o.q = 2 then D.crash o.zs else if o.q = 3 then { D with fuse := o.at' } else if o.q = 4 then D.sync else D
/-- Disks behind calls, at place 1, three sectors. -/
structure VM (D : Dk) (cnt : Nat) : Prop where
  good : D.good
  h20 : D.sure.length = 20
  mid : ∃ n y a b rec x, n ≤ cnt ∧ Mid D n y a b rec x
  up : D.down = false → D.pend = []
theorem VM.vs {D : Dk} {cnt : Nat} (h : VM D cnt) (hd : D.down = false) : ∃ n y a b rec, n ≤ cnt ∧ VS D.sure n y a b rec := by
  obtain ⟨n, y, a, b, rec, x, hn, hm⟩ := h.mid
  exact ⟨n, y, a, b, rec, hn, hm.vs⟩
theorem VM.few {D : Dk} {cnt : Nat} (h : VM D cnt) : D.pend.length ≤ 10 := by
  obtain ⟨n, y, a, b, rec, x, hn, hm⟩ := h.mid
  exact hm.few
theorem VM.crash {D : Dk} {cnt : Nat} (h : VM D cnt) (zs : List Int) : VM (D.crash zs) (cnt + 1) := by
  obtain ⟨n, y, a, b, rec, x, hn, hm⟩ := h.mid
  have h20' : (D.crash zs).sure.length = 20 := by show (layTorn zs D.sure D.pend).length = 20; rw [layTorn_length]; exact h.h20
  refine ⟨h.good.crash zs, h20', ?_, fun _ => rfl⟩
  rcases hm.crash h.good h.h20 zs with hv | hv
  · exact ⟨n, y, a, b, rec, [], by omega, hv, Nat.zero_le _, .inl fun e he => by cases he⟩
  · exact ⟨n + 1, 3 - y, 1 - a, _, x, [], by omega, hv, Nat.zero_le _, .inl fun e he => by cases he⟩
theorem Mid.same {D E : Dk} {n y a : Nat} {b rec x : List UInt8} (h : Mid D n y a b rec x) (h1 : E.sure = D.sure) (h2 : E.pend = D.pend) : Mid E n y a b rec x := ⟨by rw [h1]; exact h.vs, by rw [h2]; exact h.few, by rw [h1, h2]; exact h.pe⟩
theorem VM.save {D : Dk} {cnt : Nat} (h : VM D cnt) (hc : cnt ≤ 100) (x : List UInt8) : VM (vsave D 1 3 x).2 (cnt + 1) := by
  have hg := vsave_good h.good 1 3 x (by have := h.few; omega)
  obtain ⟨n, y, a, b, rec, x0, hn, hm⟩ := h.mid
  cases hd : D.down with
  | true =>
    obtain ⟨_, h1, h2, h3⟩ := vsave_dn hd 1 3 x
    exact ⟨hg, by rw [h1]; exact h.h20, ⟨n, y, a, b, rec, x0, by omega, hm.same h1 h2⟩, fun e => by rw [h3] at e; cases e⟩
  | false =>
    by_cases hx : x.length ≤ 129
    · have hl : (vsave D 1 3 x).2.sure.length = 20 := by
        have hok := hg.ok
        rcases vsave_up h.good h.h20 hd (h.up hd) hm.vs (by omega) x hx with ⟨_, _, hmid⟩ | ⟨_, _, _, hv⟩
        · exact vsave_len h.h20 x
        · exact vsave_len h.h20 x
      rcases vsave_up h.good h.h20 hd (h.up hd) hm.vs (by omega) x hx with ⟨_, h2, hmid⟩ | ⟨_, h2, h3, hv⟩
      · exact ⟨hg, hl, ⟨n, y, a, b, rec, x, by omega, hmid⟩, fun e => by rw [h2] at e; cases e⟩
      · exact ⟨hg, hl, ⟨n + 1, 3 - y, 1 - a, _, x, [], by omega, hv, by rw [h3]; decide, .inl (by rw [h3]; intro e he; cases he)⟩, fun _ => h3⟩
    · have e : vsave D 1 3 x = (2, D) := by
        unfold vsave
        rw [vright13 h.h20, if_neg (by decide), if_pos (by rw [show vroom 3 = 129 by decide]; omega)]
      rw [e]
      exact ⟨h.good, h.h20, ⟨n, y, a, b, rec, x0, by omega, hm⟩, h.up⟩
theorem VM.op {D : Dk} {cnt : Nat} (h : VM D cnt) (hc : cnt ≤ 100) {m : Nat} {w : World} {o : OpV} (ho : o.Lies m w) : VM (opVM D o) (cnt + 1) := by
  unfold opVM
  split
  · exact h.save hc o.b
  · split
    · exact h.crash o.zs
    · obtain ⟨n, y, a, b, rec, x, hn, hm⟩ := h.mid
      split
      · exact ⟨h.good.fuse _ ho.lo ho.hi, h.h20, ⟨n, y, a, b, rec, x, by omega, hm.same rfl rfl⟩, h.up⟩
      · split
        · have hsame : D.sync.sure = D.sure ∧ D.sync.pend = D.pend ∧ (D.sync.down = false → D.sync.pend = []) := by
            unfold Dk.sync
            split
            · rename_i hb
              exact ⟨rfl, rfl, fun e => by rw [hb] at e; cases e⟩
            · rename_i hb
              have hd : D.down = false := burn_down (by simpa using hb)
              have hp := h.up hd
              exact ⟨by show laySure D.sure D.pend = _; rw [hp]; rfl, by show [] = _; exact hp.symm, fun _ => rfl⟩
          exact ⟨h.good.sync, by rw [hsame.1]; exact h.h20, ⟨n, y, a, b, rec, x, by omega, hm.same hsame.1 hsame.2.1⟩, hsame.2.2⟩
        · exact ⟨h.good, h.h20, ⟨n, y, a, b, rec, x, by omega, hm⟩, h.up⟩
def madeV (l : List OpV) : Dk := l.foldl opVM (Dk.new 20)
theorem madeV_snoc (l : List OpV) (j : Nat) (h : j < l.length) : madeV (l.take (j + 1)) = opVM (madeV (l.take j)) l[j] := by
  unfold madeV
  rw [List.take_succ_eq_append_getElem h, List.foldl_append]
  rfl
theorem VM.new : VM (Dk.new 20) 0 := by
  have e : ∀ q, q < 20 → (Dk.new 20).sure.getD q [] = List.replicate 64 0 := fun q hq => by
    show (List.replicate 20 (List.replicate 64 (0 : UInt8))).getD q [] = _
    rw [List.getD_eq_getElem?_getD, List.getElem?_replicate, if_pos hq]; rfl
  have z1 : pAgain (List.replicate 64 0) = 0 := by decide
  have z2 : pAlso (List.replicate 64 0) = 0 := by decide
  have hp : Pl (Dk.new 20).sure 1 0 1 [] := ⟨.inl rfl, by decide, by rw [e 1 (by decide)]; exact z2, .inl ⟨rfl, by rw [e 1 (by decide)]; exact z1⟩, fun _ => ⟨rfl, rfl, by rw [e _ (by decide)]; exact z1, by rw [e _ (by decide)]; exact z2⟩, fun h => by omega⟩
  exact ⟨Dk.new_good 20 (by decide) (by decide), rfl, ⟨0, 1, 1, [], [], [], Nat.le_refl _, ⟨hp, by decide, fun _ => rfl, fun h => by omega⟩, Nat.zero_le _, .inl fun e he => by cases he⟩, fun _ => rfl⟩
theorem madeV_vm {n : Nat} {w : World} {v : Value} {l : List OpV} (h : OpsAt n w v l) (hl : l.length ≤ 15) : ∀ j, j ≤ l.length → VM (madeV (l.take j)) j
  | 0, _ => by simp [madeV]; exact VM.new
  | j + 1, hj => by
    rw [madeV_snoc l j hj]
    exact (madeV_vm h hl j (by omega)).op (by omega) (h.lies j hj)
theorem madeV_all {n : Nat} {w : World} {v : Value} {l : List OpV} (h : OpsAt n w v l) (hl : l.length ≤ 15) : VM (madeV l) 15 := by
  have := madeV_vm h hl l.length (Nat.le_refl _)
  rw [List.take_length] at this
  obtain ⟨n, y, a, b, rec, x, hn, hm⟩ := this.mid
  exact ⟨this.good, this.h20, ⟨n, y, a, b, rec, x, by omega, hm⟩, this.up⟩

/-- VaultBack. -/
theorem back_law {D : Dk} (h : VM D 15) (x : List UInt8) (zs : List Int) :
    ((vsave { D with fuse := -1 } 1 3 x).1 ≠ 0 ∧ (D.down = true ∨ 129 < x.length)) ∨ ((vsave { D with fuse := -1 } 1 3 x).1 = 0 ∧ vload ((vsave { D with fuse := -1 } 1 3 x).2.crash zs) 1 3 = (x, 0)) := by
  obtain ⟨n, y, a, b, rec, x0, hn, hm⟩ := h.mid
  have hg : ({ D with fuse := -1 } : Dk).good := h.good.fuse (-1) (by decide) (by decide)
  by_cases hdd : D.down = true
  · exact .inl ⟨(vsave_dn (D := { D with fuse := -1 }) hdd 1 3 x).1, .inl hdd⟩
  · have hd : D.down = false := by simpa using hdd
    by_cases hx : x.length ≤ 129
    · have hpn : ({ D with fuse := -1 } : Dk).pend = [] := h.up hd
      have hv : VS ({ D with fuse := -1 } : Dk).sure n y a b rec := hm.vs
      have h20 : ({ D with fuse := -1 } : Dk).sure.length = 20 := h.h20
      have hd' : ({ D with fuse := -1 } : Dk).down = false := hd
      have hf' : ({ D with fuse := -1 } : Dk).fuse < 0 := (by decide : (-1 : Int) < 0)
      have hseen : ({ D with fuse := -1 } : Dk).seen = ({ D with fuse := -1 } : Dk).sure := by rw [hg.seen, hpn]; rfl
      generalize ({ D with fuse := -1 } : Dk) = D1 at hg hpn hv h20 hd' hf' hseen
      have hvs : VS D1.seen n y a b rec := by rw [hseen]; exact hv
      have hl : (lastRec D1 1).2.1 = n := by rw [hvs.pl.last]
      have h0 : (vsave D1 1 3 x).1 = 0 := vsave_on hd' hf' (by omega) 1 3 x (vright13 h20) (by rw [show vroom 3 = 129 by decide]; omega) (by rw [(hvs.readA h20).2]; omega) (by show (lastRec D1 1).2.1 < _; rw [hl]; omega)
      rcases vsave_up hg h20 hd' hpn hv (by omega) x hx with ⟨h1, _⟩ | ⟨_, _, h3, hv'⟩
      · exact absurd h0 h1
      · refine .inr ⟨h0, ?_⟩
        have e1 : ((vsave D1 1 3 x).2.crash zs).seen = (vsave D1 1 3 x).2.sure := by
          show layTorn zs _ _ = _
          rw [h3]; rfl
        have e2 : ((vsave D1 1 3 x).2.crash zs).sure.length = 20 := by
          show (layTorn zs _ _).length = 20
          rw [layTorn_length]; exact vsave_len h20 x
        rw [VS.vload (by rw [e1]; exact hv') e2, if_neg (by omega)]
    · refine .inl ⟨?_, .inr (by omega)⟩
      unfold vsave
      rw [vright13 (D := { D with fuse := -1 }) h.h20, if_neg (by decide), if_pos (by rw [show vroom 3 = 129 by decide]; omega)]
      exact (by decide : (2 : Int) ≠ 0)
/-- VaultAmid. -/
theorem vamid_law {D : Dk} (h : VM D 15) (fu : Int) (hf0 : -9223372036854775808 ≤ fu) (hf1 : fu ≤ 9223372036854775807) (x : List UInt8) (zs : List Int) :
    ((vsave { D.crash [] with fuse := fu } 1 3 x).1 ≠ 0 ∧ vload ((vsave { D.crash [] with fuse := fu } 1 3 x).2.crash zs) 1 3 = vload (D.crash []) 1 3) ∨ vload ((vsave { D.crash [] with fuse := fu } 1 3 x).2.crash zs) 1 3 = (x, 0) := by
  have hc := h.crash []
  obtain ⟨n, y, a, b, rec, x0, hn, hm⟩ := hc.mid
  have hg : ({ D.crash [] with fuse := fu } : Dk).good := hc.good.fuse fu hf0 hf1
  have hL : vload (D.crash []) 1 3 = if n = 0 then ([], 41) else (rec, 0) := VS.vload (D := D.crash []) hm.vs hc.h20
  rw [hL]
  have hpn : ({ D.crash [] with fuse := fu } : Dk).pend = [] := rfl
  have hv : VS ({ D.crash [] with fuse := fu } : Dk).sure n y a b rec := hm.vs
  have h20 : ({ D.crash [] with fuse := fu } : Dk).sure.length = 20 := hc.h20
  have hd' : ({ D.crash [] with fuse := fu } : Dk).down = false := rfl
  generalize ({ D.crash [] with fuse := fu } : Dk) = D1 at hg hpn hv h20 hd'
  have old : ∀ (E : Dk), VS (E.crash zs).sure n y a b rec → E.sure.length = 20 → vload (E.crash zs) 1 3 = if n = 0 then ([], 41) else (rec, 0) := fun E hE h2 => VS.vload (D := E.crash zs) hE (by show (layTorn zs _ _).length = 20; rw [layTorn_length]; exact h2)
  by_cases hx : x.length ≤ 129
  · have hl := vsave_len h20 x
    have hgs := vsave_good hg 1 3 x (by rw [hpn]; decide)
    rcases vsave_up hg h20 hd' hpn hv (by omega) x hx with ⟨h1, _, hmid⟩ | ⟨_, _, h3, hv'⟩
    · rcases hmid.crash hgs hl zs with hv2 | hv2
      · exact .inl ⟨h1, old _ hv2 hl⟩
      · refine .inr ?_
        rw [VS.vload (D := (vsave D1 1 3 x).2.crash zs) hv2 (by show (layTorn zs _ _).length = 20; rw [layTorn_length]; exact hl), if_neg (by omega)]
    · refine .inr ?_
      have e1 : ((vsave D1 1 3 x).2.crash zs).seen = (vsave D1 1 3 x).2.sure := by
        show layTorn zs _ _ = _
        rw [h3]; rfl
      rw [VS.vload (by rw [e1]; exact hv') (by show (layTorn zs _ _).length = 20; rw [layTorn_length]; exact hl), if_neg (by omega)]
  · have e : vsave D1 1 3 x = (2, D1) := by
      unfold vsave
      rw [vright13 h20, if_neg (by decide), if_pos (by rw [show vroom 3 = 129 by decide]; omega)]
    rw [e]
    refine .inl ⟨(by decide : (2 : Int) ≠ 0), old D1 ?_ h20⟩
    show VS (layTorn zs D1.sure D1.pend) _ _ _ _ _
    rw [hpn]; exact hv
end Go.Proofs.YtaeonlafcbgpcaaDoor
/- Law 18: some, awake. -/
namespace Go.Proofs.YtaeonlafcbgpcaaDoor
open Go.RowKit
set_option linter.unusedVariables false

/-- So many bytes. -/
def someB (f : Nat) : Nat → List UInt8
  | 0 => []
  | j + 1 => someB f j ++ [UInt8.ofNat (f + j)]
theorem someB_len (f : Nat) : ∀ j, (someB f j).length = j
  | 0 => rfl
  | j + 1 => by rw [someB, List.length_append, someB_len f j]; rfl

set_option maxRecDepth 100000 in
set_option maxHeartbeats 1000000 in
theorem some_calls (w : World) (n f : Nat) (z y : Int) (hz : z = n) (hy : y = f) (hn : n ≤ 100) (hf : f ≤ 100) :
    Calls Tryd.prog 64 #[.int .i64 z, .int .u8 y] w fun e w' => (∃ a c, e = .returned (.slice a n c) ∧ BytesAt (New w.heap.size) w' (.slice a n c) (someB f n)) ∧ Fr (fun _ _ => True) w w' := by
  subst hz hy
  have hnI : (n : Int) ≤ 100 := by omega
  go_enter Tryd.func64, Tryd.ntmps64
  go_wp2
  go_loopw [5, 6] (fun out i wr => ∃ (k : Nat) (a : Option Addr) (c : Nat), k ≤ n ∧ i = .int .i64 k ∧ out = .slice a k c ∧ Hid (RowB wr w.heap.size (.slice a k c) k (someB f k)) ∧ Hid (Fr (fun _ _ => True) w wr)) (fun _ i _ => n - (intOf i).toNat)
  case atStart => exact ⟨0, none, 0, Nat.zero_le _, rfl, rfl, World.ownsRow_nil _ _ _ _, Fr.refl _ _⟩
  case round =>
    obtain ⟨k, a, c, hk, rfl, rfl, HO, HF⟩ := hrel
    by_cases hlt : k < n
    · have hltI : (k : Int) < n := by omega
      obtain ⟨m, hm⟩ : ∃ m, UInt8.ofNat (f + k) = m := ⟨_, rfl⟩
      have em : ((f : Nat) : Int) + (k : Nat) = ((m.toNat : Nat) : Int) := by rw [← hm, UInt8.toNat_ofNat']; omega
      have HM := Lib.hid hm
      have HOA : Hid (RowB (wr.alloc (.cells #[.int .u8 m.toNat] 5 (0, 0))) w.heap.size (.slice a k c) k (someB f k)) := HO.out.tt ((Fr.refl _ _).alloc _)
      have HFA := Lib.hid (HF.out.alloc (.cells #[.int .u8 m.toNat] 5 (0, 0)))
      have HBL := Lib.hid (BytesAt.lit' wr m)
      have HSN : Hid (someB f k ++ [m] = someB f (k + 1)) := by show _ = _; rw [someB, HM.out]
      have HN1 : Hid (k + [m].length = k + 1) := rfl
      clear hm
      go_wp2_with (at_builtin; refine wpList_append_fr w _ HFA rfl _ _ rfl _ k (someB f k) rfl HOA _ [m] rfl HBL (k + 1) (someB f (k + 1)) HSN HN1 (by omega) ?_)
      intro a1 c1 w1 O1 F1
      clear em
      go_wp2
      go_roundw
      case rel => exact ⟨k + 1, a1, c1, by omega, by go_num, rfl, O1, F1⟩
      case measure => simp [intOf]; omega
    · obtain rfl : k = n := by omega
      go_wp2
      go_ret
      exact ⟨⟨a, c, rfl, BytesAt.of_own HO.out (someB_len f k)⟩, HF.out⟩

theorem Dsk.fbV {w : World} {bd : Nat} {F : Nat → Prop} {D : Dk} (h : Dsk w bd F D) : F bd := by obtain ⟨_, _, _, _, h1, _⟩ := h; exact h1
def avD1 : Dk := (vsave (Dk.new 20) 1 3 (someB 1 100)).2
def avD2 : Dk := { avD1 with fuse := 2 }
def avD3 : Dk := (vsave avD2 1 3 (someB 9 100)).2
theorem av0 : vload (Dk.new 20) 1 3 = ([], 41) := by decide +kernel
theorem av1 : (vsave (Dk.new 20) 1 3 (someB 1 100)).1 = 0 := by decide +kernel
theorem av2 : vload avD1 1 3 = (someB 1 100, 0) := by decide +kernel
theorem av3 : (vsave avD2 1 3 (someB 9 100)).1 = 43 := by decide +kernel
theorem av4 : vload (avD3.crash [64, 64]) 1 3 = (someB 1 100, 0) := by decide +kernel
theorem av5 : (Dk.new 20).pend.length < 900000 := by decide +kernel
theorem av6 : avD2.pend.length < 900000 := by decide +kernel
end Go.Proofs.YtaeonlafcbgpcaaDoor
/- Law 18: awake, walked. -/
namespace Go.Proofs.YtaeonlafcbgpcaaDoor
open Go.RowKit
set_option linter.unusedVariables false

set_option maxRecDepth 100000 in
set_option maxHeartbeats 4000000 in
theorem awake18_calls (w : World) (ht : TabOK w) :
    Calls Tryd.prog 31 #[] w fun e w' => e = .returned (.bool true) ∧ Fr (fun _ _ => True) w w' := by
  have HT := Lib.hid ht
  have h0 : 0 < w.heap.size := by have := cell_lt (ht 0 (by decide)); simpa using this
  clear ht
  have TT : Hid (∀ W, Fr (fun c _ => c < w.heap.size) w W → TabOK W) := fun W hW i hi => hW.cell (fun _ _ => h0) (HT.out i hi)
  clear HT
  go_enter Tryd.func31, Tryd.ntmps31
  go_wp2_with fail
  (with_reducible refine (new_calls _ 20 _ (by decide) (by decide) (by decide)).mono ?_)
  rintro e w1 ⟨⟨bd, rfl, d1⟩, f1⟩
  have D1 := Lib.hid d1.inside
  have F1 := Lib.hid (f1.mono (K' := fun c _ => c < w.heap.size) fun _ _ _ => trivial)
  have s1 : w.heap.size ≤ w1.heap.size := f1.size
  clear d1 f1
  go_wp2_with fail
  (with_reducible refine (vload_calls w1 bd _ _ 1 3 D1.out (TT.out _ F1.out) _ _ av0).mono ?_)
  rintro e w2 ⟨⟨a2, c2, rfl, b2⟩, f2⟩
  have D2 := Lib.hid (D1.out.tt f2)
  have F2 := Lib.hid (F1.out.tt f2)
  have s2 : w1.heap.size ≤ w2.heap.size := f2.size
  clear b2 f2 D1
  have RM := room_calls
  have RM3 : Hid (∀ W, Calls Tryd.prog 63 #[.int .i64 3] W fun e w' => e = .returned (.int .i64 129) ∧ W = w') := fun W => by have := RM W 3; rw [show vroom 3 = 129 by decide] at this; exact this
  clear RM
  go_wp2_with fail
  (with_reducible refine (RM3.out w2).mono ?_)
  rintro e w2' ⟨rfl, rfl⟩
  go_wp2_with fail
  (with_reducible refine (some_calls w2 100 1 _ _ (by decide) (by decide) (by decide) (by decide)).mono ?_)
  rintro e w3 ⟨⟨a3, c3, rfl, b3⟩, f3⟩
  have D3 := Lib.hid (D2.out.tt f3)
  have F3 := Lib.hid (F2.out.tt f3)
  have s3 : w2.heap.size ≤ w3.heap.size := f3.size
  have B3 : Hid (BytesAt (fun c _ => w2.heap.size ≤ c ∧ c < w3.heap.size) w3 (.slice a3 100 c3) (someB 1 100)) := b3.mono fun c o ho h => ⟨h.1, lt_of_some ho⟩
  clear b3 f3 D2
  have SV := vsave_calls w3 bd _ _ 1 3 _ _ D3.out (fun c h => by omega) B3.out (fun c o h => ⟨fun h2 => by omega, h.2⟩) (TT.out _ F3.out) (by omega) av5
  rw [av1] at SV
  have SV := Lib.hid SV
  go_wp2_with fail
  (with_reducible refine SV.out.mono ?_)
  rintro e w4 ⟨rfl, d4, f4⟩
  have D4 := Lib.hid (show Dsk w4 bd _ avD1 from d4).inside
  have F4 : Hid (Fr (fun c _ => c < w.heap.size) w w4) := F3.out.trans (f4.mono fun c _ h e => by omega)
  have s4 : w3.heap.size ≤ w4.heap.size := f4.size
  clear d4 f4 D3 B3 SV
  go_wp2_with fail
  (with_reducible refine (vload_calls w4 bd _ _ 1 3 D4.out (TT.out _ F4.out) _ _ av2).mono ?_)
  rintro e w5 ⟨⟨a5, c5, rfl, b5⟩, f5⟩
  have D5 := Lib.hid (D4.out.tt f5)
  have F5 := Lib.hid (F4.out.tt f5)
  have s5 : w4.heap.size ≤ w5.heap.size := f5.size
  have B5 := Lib.hid (b5.mono (K' := fun c _ => w4.heap.size ≤ c ∧ c < w5.heap.size) fun c o ho h => ⟨h.1, lt_of_some ho⟩)
  clear b5 f5 D4
  go_wp2_with fail
  (with_reducible refine (fuse_calls w5 bd _ _ 2 D5.out (by decide) (by decide)).mono ?_)
  rintro e w6 ⟨rfl, d6, f6⟩
  have D6 : Hid (Dsk w6 bd _ avD2) := d6
  have hbd : Hid ((((w.heap.size ≤ bd ∧ bd < w1.heap.size) ∨ w3.heap.size ≤ bd) ∧ bd < w4.heap.size)) := d6.fbV
  have F6 : Hid (Fr (fun c _ => c < w.heap.size) w w6) := F5.out.trans (f6.mono fun c _ h e => by have := hbd.out; omega)
  have s6 : w5.heap.size ≤ w6.heap.size := f6.size
  have B6 := Lib.hid (B5.out.fr (f6.mono fun c _ h e => by have := hbd.out; omega))
  clear d6 f6 D5 B5
  go_wp2_with fail
  (with_reducible refine (some_calls w6 100 9 _ _ (by decide) (by decide) (by decide) (by decide)).mono ?_)
  rintro e w7 ⟨⟨a7, c7, rfl, b7⟩, f7⟩
  have D7 := Lib.hid (D6.out.tt f7)
  have F7 := Lib.hid (F6.out.tt f7)
  have B7 := Lib.hid (B6.out.tt f7)
  have s7 : w6.heap.size ≤ w7.heap.size := f7.size
  have C7 : Hid (BytesAt (fun c _ => w6.heap.size ≤ c ∧ c < w7.heap.size) w7 (.slice a7 100 c7) (someB 9 100)) := b7.mono fun c o ho h => ⟨h.1, lt_of_some ho⟩
  clear b7 f7 D6 B6
  have SV := vsave_calls w7 bd _ _ 1 3 _ _ D7.out (fun c h => by omega) C7.out (fun c o h => ⟨fun h2 => by omega, h.2⟩) (TT.out _ F7.out) (by omega) av6
  rw [av3] at SV
  have SV := Lib.hid SV
  go_wp2_with fail
  (with_reducible refine SV.out.mono ?_)
  rintro e w8 ⟨rfl, d8, f8⟩
  have D8 := Lib.hid ((show Dsk w8 bd _ avD3 from d8).inside.tt ((Fr.refl _ _).alloc (.cells #[.int .i64 64, .int .i64 64] 3 (0, 0))))
  have F8 : Hid (Fr (fun c _ => c < w.heap.size) w (w8.alloc (.cells #[.int .i64 64, .int .i64 64] 3 (0, 0)))) := (F7.out.trans (f8.mono fun c _ h e => by omega)).alloc _
  have B8 := Lib.hid ((B7.out.fr (f8.mono fun c _ h e => by omega)).tt ((Fr.refl _ _).alloc (.cells #[.int .i64 64, .int .i64 64] 3 (0, 0))))
  have s8 : w7.heap.size ≤ w8.heap.size := f8.size
  have I8 : Hid (IntsAt (fun c _ => w8.heap.size ≤ c) (w8.alloc (.cells #[.int .i64 64, .int .i64 64] 3 (0, 0))) (.slice (some ⟨w8.heap.size, 0, none⟩) 2 2) [64, 64]) :=
    ⟨some ⟨w8.heap.size, 0, none⟩, 2, rfl, .inr ⟨w8.heap.size, 0, _, rfl, heap_alloc_new _ _, Nat.le_refl _, fun i hi => by
      have : i < 2 := by simpa using hi
      rcases i with _ | _ | i
      · exact cell_mk (heap_alloc_new _ _) rfl
      · exact cell_mk (heap_alloc_new _ _) rfl
      · omega⟩⟩
  have q8 := Lib.hid (World.size_alloc w8 (.cells #[.int .i64 64, .int .i64 64] 3 (0, 0)))
  clear d8 f8 D7 B7 C7 SV
  go_wp2_with fail
  generalize w8.alloc (.cells #[.int .i64 64, .int .i64 64] 3 (0, 0)) = v8 at D8 F8 B8 I8 q8 ⊢
  have q8' : w8.heap.size + 1 ≤ v8.heap.size := Nat.le_of_eq q8.out.symm
  (with_reducible refine (crash_main v8 bd _ _ _ 2 2 [64, 64] D8.out I8.out (fun c _ h h2 => by omega)).mono ?_)
  rintro e w9 ⟨rfl, d9, f9⟩
  have D9 := Lib.hid d9
  have F9 : Hid (Fr (fun c _ => c < w.heap.size) w w9) := F8.out.trans (f9.mono fun c _ h e => by omega)
  have B9 := Lib.hid (B8.out.fr (f9.mono fun c _ h e => by omega))
  have s9 : v8.heap.size ≤ w9.heap.size := f9.size
  clear d9 f9 D8 B8 I8 q8
  go_wp2_with fail
  (with_reducible refine (vload_calls w9 bd _ _ 1 3 D9.out (TT.out _ F9.out) _ _ av4).mono ?_)
  rintro e w10 ⟨⟨a10, c10, rfl, b10⟩, f10⟩
  have F10 := Lib.hid (F9.out.tt f10)
  have B10 := Lib.hid (B9.out.tt f10)
  have C10 := Lib.hid b10
  clear b10 f10 D9 B9
  go_wp2_with fail
  (with_reducible refine (some_calls w10 100 1 _ _ (by decide) (by decide) (by decide) (by decide)).mono ?_)
  rintro e w11 ⟨⟨a11, c11, rfl, b11⟩, f11⟩
  have F11 := Lib.hid (F10.out.tt f11)
  have B11 := Lib.hid (B10.out.tt f11)
  have C11 := Lib.hid (C10.out.tt f11)
  have hl := someB_len 1 100
  have SM := same_calls w11 _ _ _ _ B11.out b11 (by rw [hl]; decide)
  rw [hl, decide_eq_true rfl] at SM
  have SM := Lib.hid SM
  clear b11 f11 B10 C10
  go_wp2_with fail
  (with_reducible refine SM.out.mono ?_)
  rintro e w12 ⟨rfl, k12, hw12⟩
  have G12 : Hid (Fr (fun _ _ => True) w11 w12) := by rw [hw12]; exact (Fr.refl (fun _ _ => True) w11).drewN k12
  have SM := same_calls w12 _ _ _ _ (C11.out.tt G12.out) (B11.out.tt G12.out) (by rw [hl]; decide)
  rw [hl, decide_eq_true rfl] at SM
  have SM := Lib.hid SM
  clear hw12
  go_wp2_with fail
  (with_reducible refine SM.out.mono ?_)
  rintro e w13 ⟨rfl, k13, hw13⟩
  have G13 : Hid (Fr (fun _ _ => True) w11 w13) := by rw [hw13]; exact G12.out.drewN k13
  clear hw13
  go_wp2
  go_ret
  exact ⟨rfl, Fr.within ((F11.out.tt G13.out).mono fun _ _ h => h.2)⟩
end Go.Proofs.YtaeonlafcbgpcaaDoor
/- Law 18: made. -/
namespace Go.Proofs.YtaeonlafcbgpcaaDoor
open Go.RowKit
set_option linter.unusedVariables false

set_option maxRecDepth 100000 in
theorem made18_long (w : World) (a : Option Addr) (len cap : Nat) (hl : 15 < len) :
    Calls Tryd.prog 32 #[.slice a len cap] w fun e w' => e = .returned (.pointer none) ∧ Fr (fun _ _ => True) w w' := by
  have hI : (15 : Int) < len := by omega
  go_enter Tryd.func32, Tryd.ntmps32
  go_wp2_with fail
  (with_reducible refine (new_calls _ 20 _ (by decide) (by decide) (by decide)).mono ?_)
  rintro e w1 ⟨⟨bd, rfl, d1⟩, f1⟩
  have F1 := Lib.hid f1
  clear d1 f1
  go_wp2
  go_ret
  exact ⟨rfl, F1.out⟩

set_option maxRecDepth 100000 in
set_option maxHeartbeats 4000000 in
theorem made18_some (w : World) (a : Option Addr) (len cap : Nat) (l : List OpV) (ho : OpsAt w.heap.size w (.slice a len cap) l) (ht : TabOK w) (hl : len ≤ 15) :
    Calls Tryd.prog 32 #[.slice a len cap] w fun e w' => (∃ bd, e = .returned (.pointer (some ⟨bd, 0, none⟩)) ∧ Dsk w' bd (fun c => w.heap.size ≤ c) (madeV l)) ∧ Fr (fun _ _ => True) w w' := by
  have h0 : 0 < w.heap.size := by have := cell_lt (ht 0 (by decide)); simpa using this
  have hln := ho.len
  have VMJ : Hid (∀ j, j ≤ l.length → (madeV (l.take j)).pend.length ≤ 10) := fun j hj => (madeV_vm ho (by omega) j hj).few
  have HT := Lib.hid ht
  have HO := Lib.hid ho
  have HLN := Lib.hid hln
  have hI : (len : Int) ≤ 15 := by omega
  clear ht ho hln
  go_enter Tryd.func32, Tryd.ntmps32
  go_wp2_with fail
  (with_reducible refine (new_calls _ 20 _ (by decide) (by decide) (by decide)).mono ?_)
  rintro e w1 ⟨⟨bd, rfl, d1⟩, f1⟩
  have D1 : Hid (Dsk w1 bd (fun c => w.heap.size ≤ c) (Dk.new 20)) := d1
  have F1 : Hid (Fr (fun c _ => c < w.heap.size) w w1) := f1.mono fun _ _ _ => trivial
  clear d1 f1
  go_wp2
  go_loopw [5] (fun i wr => ∃ j : Nat, j ≤ len ∧ i = .int .i64 j ∧ Hid (Dsk wr bd (fun c => w.heap.size ≤ c) (madeV (l.take j))) ∧ Hid (Fr (fun c _ => c < w.heap.size) w wr)) (fun i _ => len - (intOf i).toNat)
  case atStart => exact ⟨0, Nat.zero_le _, rfl, D1, F1⟩
  case round =>
    obtain ⟨j, hj, rfl, DJ, FJ⟩ := hrel
    by_cases hlt : j < len
    · have hlt' : j < l.length := by have := HLN.out; omega
      obtain ⟨b, off, rfl, hop⟩ : ∃ b off, a = some ⟨b, off, none⟩ ∧ OpAt w.heap.size w b off j l[j] := by
        obtain ⟨_, _, e, h⟩ := HO.out
        cases e
        rcases h with h | ⟨b, off, ha, h⟩
        · rw [h] at hlt'; simp at hlt'
        · exact ⟨b, off, ha, h j hlt'⟩
      obtain ⟨o, hoj⟩ : ∃ o, l[j] = o := ⟨_, rfl⟩
      have hm := madeV_snoc l j hlt'
      rw [hoj] at hop hm
      obtain ⟨e0, e1, e2, e3, e4, e5, hb, hlies⟩ := hop.fr FJ.out
      have hltI : (j : Int) < len := by omega
      have hpe := VMJ.out j (by omega)
      have HM := Lib.hid hm
      have OPM : Hid (opVM (madeV (l.take j)) o = if o.q = 1 then (vsave (madeV (l.take j)) 1 3 o.b).2 else if o.q = 2 then (madeV (l.take j)).crash o.zs else if o.q = 3 then { madeV (l.take j) with fuse := o.at' } else if o.q = 4 then (madeV (l.take j)).sync else madeV (l.take j)) := rfl
      generalize madeV (l.take j) = D at DJ HM hpe OPM
      have DI := Lib.hid DJ.out.inside
      have TJ : Hid (TabOK wr) := fun i hi => FJ.out.cell (fun _ _ => h0) (HT.out i hi)
      have HLS := Lib.hid hlies
      clear hop hoj hm hlies hlt' e4 e5 VMJ
      by_cases q1 : o.q = 1
      · have d1 : (o.q == 1) = true := by simp [q1]
        have hres : Hid (opVM D o = (vsave D 1 3 o.b).2) := by show _ = _; rw [OPM.out, if_pos q1]
        have SC := Lib.hid (vsave_calls wr bd _ D 1 3 o.vb o.b DI.out (fun c h => h.2) HLS.out.hb (fun c o h => ⟨fun h2 => by omega, by have := FJ.out.size; omega⟩) TJ.out (by omega) (by omega))
        clear q1
        go_wp2_with fail
        (with_reducible refine SC.out.mono ?_)
        rintro e w2 ⟨rfl, d2, f2⟩
        have D2 : Hid (Dsk w2 bd (fun c => w.heap.size ≤ c) (madeV (l.take (j + 1)))) := by
          rw [HM.out, hres.out]
          exact d2.mono fun c h => by
            have := FJ.out.size
            rcases h with h | h
            · exact h.1
            · omega
        have F2 : Hid (Fr (fun c _ => c < w.heap.size) w w2) := FJ.out.trans (f2.mono fun c _ h h2 => by omega)
        clear d2 f2 SC e0 e1 e2 e3
        go_wp2
        go_roundw
        case rel => exact ⟨j + 1, by omega, by go_num, D2, F2⟩
        case measure => simp [intOf]; omega
      · have d1 : (o.q == 1) = false := by simp [q1]
        by_cases q2 : o.q = 2
        · have d2 : (o.q == 2) = true := by simp [q2]
          have hres : Hid (opVM D o = D.crash o.zs) := by show _ = _; rw [OPM.out, if_neg q1, if_pos q2]
          obtain ⟨pa, pc, hvp⟩ := HLS.out.hp.form
          have hpz := HLS.out.hp
          rw [hvp] at e3 hpz
          have SC := Lib.hid (crash_main wr bd _ D pa o.zs.length pc o.zs DI.out hpz (fun c _ h h2 => by omega))
          clear q1 q2 hvp hpz
          go_wp2_with fail
          (with_reducible refine SC.out.mono ?_)
          rintro e w2 ⟨rfl, d2', f2⟩
          have D2 : Hid (Dsk w2 bd (fun c => w.heap.size ≤ c) (madeV (l.take (j + 1)))) := by
            rw [HM.out, hres.out]
            exact d2'.mono fun c h => by
              have := FJ.out.size
              rcases h with h | h
              · exact h.1
              · omega
          have F2 : Hid (Fr (fun c _ => c < w.heap.size) w w2) := FJ.out.trans (f2.mono fun c _ h h2 => by omega)
          clear d2' f2 SC e0 e1 e2 e3
          go_wp2
          go_roundw
          case rel => exact ⟨j + 1, by omega, by go_num, D2, F2⟩
          case measure => simp [intOf]; omega
        · have d2 : (o.q == 2) = false := by simp [q2]
          by_cases q3 : o.q = 3
          · have d3 : (o.q == 3) = true := by simp [q3]
            have hres : Hid (opVM D o = { D with fuse := o.at' }) := by show _ = _; rw [OPM.out, if_neg q1, if_neg q2, if_pos q3]
            have SC := Lib.hid (fuse_calls wr bd _ D o.at' DI.out HLS.out.lo HLS.out.hi)
            clear q1 q2 q3
            go_wp2_with fail
            (with_reducible refine SC.out.mono ?_)
            rintro e w2 ⟨rfl, d2', f2⟩
            have hbd := d2'.fbV
            have D2 : Hid (Dsk w2 bd (fun c => w.heap.size ≤ c) (madeV (l.take (j + 1)))) := by
              rw [HM.out, hres.out]
              exact d2'.mono fun c h => h.1
            have F2 : Hid (Fr (fun c _ => c < w.heap.size) w w2) := FJ.out.trans (f2.mono fun c _ h h2 => by have := hbd.1; omega)
            clear d2' f2 SC e0 e1 e2 e3 hbd
            go_wp2
            go_roundw
            case rel => exact ⟨j + 1, by omega, by go_num, D2, F2⟩
            case measure => simp [intOf]; omega
          · have d3 : (o.q == 3) = false := by simp [q3]
            by_cases q4 : o.q = 4
            · have d4 : (o.q == 4) = true := by simp [q4]
              have hres : Hid (opVM D o = D.sync) := by show _ = _; rw [OPM.out, if_neg q1, if_neg q2, if_neg q3, if_pos q4]
              have SC := Lib.hid (sync_calls wr bd _ D DI.out)
              clear q1 q2 q3 q4
              go_wp2_with fail
              (with_reducible refine SC.out.mono ?_)
              rintro e w2 ⟨rfl, d2', f2⟩
              have D2 : Hid (Dsk w2 bd (fun c => w.heap.size ≤ c) (madeV (l.take (j + 1)))) := by
                rw [HM.out, hres.out]
                exact d2'.mono fun c h => by
                  have := FJ.out.size
                  rcases h with h | h
                  · exact h.1
                  · omega
              have F2 : Hid (Fr (fun c _ => c < w.heap.size) w w2) := FJ.out.trans (f2.mono fun c _ h h2 => by omega)
              clear d2' f2 SC e0 e1 e2 e3
              go_wp2
              go_roundw
              case rel => exact ⟨j + 1, by omega, by go_num, D2, F2⟩
              case measure => simp [intOf]; omega
            · have d4 : (o.q == 4) = false := by simp [q4]
              have hres : Hid (opVM D o = D) := by show _ = _; rw [OPM.out, if_neg q1, if_neg q2, if_neg q3, if_neg q4]
              clear q1 q2 q3 q4
              go_wp2
              go_roundw
              case rel => exact ⟨j + 1, by omega, by go_num, by rw [HM.out, hres.out]; exact DJ, FJ⟩
              case measure => simp [intOf]; omega
    · have hge : (len : Int) ≤ j := by omega
      have hfull : Hid (madeV (l.take j) = madeV l) := by
        have := HLN.out
        rw [List.take_of_length_le (by omega)]; rfl
      go_wp2
      go_ret
      refine ⟨⟨bd, rfl, ?_⟩, Fr.within (FJ.out.mono fun _ _ h => h.2)⟩
      rw [← hfull.out]; exact DJ.out
end Go.Proofs.YtaeonlafcbgpcaaDoor
/- Vaults, plainly: every sector's last number is small; what is refused changes nothing. -/
namespace Go.Proofs.YtaeonlafcbgpcaaDoor
open Go.RowKit
set_option linter.unusedVariables false

structure SmallD (D : Dk) : Prop where
  sure : ∀ i, pAgain (D.sure.getD i []) ≤ 20
  pend : ∀ e ∈ D.pend, pAgain e.2 ≤ 20
theorem again_stamp (s p : Nat) (b : List UInt8) (hs : s < 4294967296) (hb : b.length ≤ 43) : pAgain (stampB s p b) = s := by unfold pAgain; rw [st_again s p b hb, ofLE_le 4 s hs]
theorem SmallD.same {D E : Dk} (h : SmallD D) (h1 : E.sure = D.sure) (h2 : E.pend = D.pend) : SmallD E := ⟨by rw [h1]; exact h.sure, by rw [h2]; exact h.pend⟩
theorem SmallD.write {D : Dk} (h : SmallD D) (i : Int) (b : List UInt8) (hb : pAgain (pad b) ≤ 20) : SmallD (D.write i b).2 := by
  unfold Dk.write
  split
  · exact h
  · split
    · exact h
    · split
      · exact ⟨h.sure, h.pend⟩
      · refine ⟨h.sure, fun e he => ?_⟩
        have he' : e ∈ D.pend ++ [(i.toNat, pad b)] := he
        rcases List.mem_append.1 he' with h1 | h1
        · exact h.pend e h1
        · rw [List.mem_singleton.1 h1]; exact hb
theorem small_set {s : List (List UInt8)} (h : ∀ i, pAgain (s.getD i []) ≤ 20) (z : Nat) (v : List UInt8) (hv : pAgain v ≤ 20) : ∀ i, pAgain ((s.set z v).getD i []) ≤ 20 := fun i => by
  by_cases hz : z = i
  · subst hz
    by_cases hl : z < s.length
    · rw [getD_set_same hl]; exact hv
    · rw [List.set_eq_of_length_le (by omega)]; exact h z
  · rw [getD_set_other hz]; exact h i
theorem small_laid (p : List (Nat × List UInt8)) : ∀ s : List (List UInt8), (∀ i, pAgain (s.getD i []) ≤ 20) → (∀ e ∈ p, pAgain e.2 ≤ 20) → ∀ i, pAgain ((laySure s p).getD i []) ≤ 20 := by
  unfold laySure
  induction p with
  | nil => intro s h _; exact h
  | cons e p ih =>
    intro s h hp
    exact ih _ (small_set h e.1 e.2 (hp e (by simp))) fun e' h' => hp e' (by simp [h'])
theorem SmallD.sync {D : Dk} (h : SmallD D) : SmallD D.sync := by
  unfold Dk.sync
  split
  · exact ⟨h.sure, h.pend⟩
  · exact ⟨small_laid D.pend D.sure h.sure h.pend, fun e he => by cases he⟩
theorem small_tear (p : Nat) (A Y : List UInt8) (h : A.length = Y.length) (hA : pAgain A ≤ 20) (hY : pAgain Y ≤ 20) : pAgain (tear p A Y) ≤ 20 := by
  rw [again_tear p A Y h]
  rcases p - 56 with _ | j
  · simp [Nat.mod_one]; exact hY
  · have hj : (256 : Nat) ≤ 256 ^ (j + 1) := by
      have := Nat.pow_le_pow_right (n := 256) (by decide) (show 1 ≤ j + 1 by omega)
      omega
    rw [Nat.mod_eq_of_lt (by omega), Nat.div_eq_of_lt (by omega)]
    omega
theorem small_torn (zs : List Int) (l : List ((Nat × List UInt8) × Nat)) : ∀ s : List (List UInt8), (∀ x ∈ s, x.length = 64) → (∀ i, pAgain (s.getD i []) ≤ 20) → (∀ e ∈ l, e.1.1 < s.length ∧ e.1.2.length = 64 ∧ pAgain e.1.2 ≤ 20) → ∀ i, pAgain ((l.foldl (tornAt zs) s).getD i []) ≤ 20 := by
  induction l with
  | nil => intro s _ h _; exact h
  | cons e l ih =>
    intro s h64 h hl
    obtain ⟨e1, e2, e3⟩ := hl e (by simp)
    have hY : (s.getD e.1.1 []).length = 64 := getD_64 h64 e1
    refine ih (tornAt zs s e) ?_ (small_set h _ _ (small_tear _ _ _ (by omega) e3 (h _))) fun e' h' => ?_
    · exact mem_set64 h64 (tear_64 _ _ _ e2 hY)
    · rw [show (tornAt zs s e).length = s.length from by simp [tornAt]]
      exact hl e' (by simp [h'])
theorem SmallD.crash {D : Dk} (h : SmallD D) (hg : D.good) (zs : List Int) : SmallD (D.crash zs) := by
  refine ⟨?_, fun e he => by cases he⟩
  show ∀ i, pAgain ((layTorn zs D.sure D.pend).getD i []) ≤ 20
  exact small_torn zs _ D.sure hg.ok.u64 h.sure fun e he => by
    have hm : e.1 ∈ D.pend := by
      have := List.mem_map_of_mem (f := Prod.fst) he
      rwa [List.zipIdx_map_fst] at this
    exact ⟨(hg.ok.p64 _ hm).1, (hg.ok.p64 _ hm).2, h.pend _ hm⟩
theorem stamp_pd (s p : Nat) (b : List UInt8) (h : b.length ≤ 43) : pad (stampB s p b) = stampB s p b := by unfold pad; rw [stampB_length s p b h]; simp
theorem SmallD.vwr {D : Dk} (h : SmallD D) (base num : Nat) (x : List UInt8) : ∀ j, j ≤ 15 → SmallD (vwr D base num x j).2
  | 0, _ => h
  | j + 1, hj => by
    have ih := SmallD.vwr h base num x j (by omega)
    rw [Go.Proofs.YtaeonlafcbgpcaaDoor.vwr]
    split
    · exact ih.write _ _ (by rw [stamp_pd _ _ _ (chunk43 x j), again_stamp _ _ _ (by omega) (chunk43 x j)]; omega)
    · exact ih
theorem SmallD.saveM {D : Dk} (h : SmallD D) (i : Int) (b : List UInt8) (hs : (lastRec D i.toNat).2.1 ≤ 19) : SmallD (saveM D i b).2 := by
  have hp : SmallD (putM D i b).2 := by
    unfold putM
    split
    · split
      · exact h
      · split
        · exact h
        · exact h.sync.write _ _ (by rw [stamp_pd _ _ _ (by omega), again_stamp _ _ _ (by omega) (by omega)]; omega)
    · exact h
  unfold Go.Proofs.YtaeonlafcbgpcaaDoor.saveM
  split
  · exact hp.sync
  · exact hp
theorem vwr_seen (D : Dk) (base num : Nat) (x : List UInt8) : ∀ j z, z < base → (vwr D base num x j).2.seen.getD z [] = D.seen.getD z []
  | 0, _, _ => rfl
  | j + 1, z, hz => by
    have ih := vwr_seen D base num x j z hz
    rw [vwr]
    split
    · unfold Dk.write
      split
      · exact ih
      · split
        · exact ih
        · split
          · exact ih
          · show (List.set _ ((base + j : Nat) : Int).toNat _).getD z [] = _
            rw [getD_set_other (by omega)]; exact ih
    · exact ih
theorem sync_seen (D : Dk) : D.sync.seen = D.seen := by
  unfold Dk.sync; split <;> rfl
theorem SmallD.vsave {D : Dk} (h : SmallD D) {cnt : Nat} (hv : VM D cnt) (hc : cnt ≤ 15) (x : List UInt8) : SmallD (vsave D 1 3 x).2 := by
  by_cases hdd : D.down = true
  · obtain ⟨_, h1, h2, _⟩ := vsave_dn hdd 1 3 x
    exact h.same h1 h2
  · have hd : D.down = false := by simpa using hdd
    have hpn := hv.up hd
    obtain ⟨n, y, a, b, rec, hn, vs⟩ := hv.vs hd
    have hseen : D.seen = D.sure := by rw [hv.good.seen, hpn]; rfl
    have hvs : VS D.seen n y a b rec := by rw [hseen]; exact vs
    unfold Go.Proofs.YtaeonlafcbgpcaaDoor.vsave
    rw [vright13 hv.h20, if_neg (by decide)]
    split
    · exact h
    · rename_i hr
      rw [show vroom 3 = 129 by decide] at hr
      split
      · exact h
      · have hw := h.vwr ((1 : Int).toNat + 2 + (1 - (readV D 1).1) * (3 : Int).toNat) ((readV D 1).2.1 + 1) x ((x.length + 42) / 43) (by omega)
        have hsn := vwr_seen D ((1 : Int).toNat + 2 + (1 - (readV D 1).1) * (3 : Int).toNat) ((readV D 1).2.1 + 1) x ((x.length + 42) / 43)
        split
        · refine hw.sync.saveM 1 _ ?_
          have e1 : ∀ z, z < 3 → secRec (Go.Proofs.YtaeonlafcbgpcaaDoor.vwr D ((1 : Int).toNat + 2 + (1 - (readV D 1).1) * (3 : Int).toNat) ((readV D 1).2.1 + 1) x ((x.length + 42) / 43)).2.sync z = secRec D z := fun z hz => by
            unfold secRec
            rw [sync_seen, hsn z (by show z < 1 + 2 + _; omega)]
          show (lastRec (Go.Proofs.YtaeonlafcbgpcaaDoor.vwr D ((1 : Int).toNat + 2 + (1 - (readV D 1).1) * (3 : Int).toNat) ((readV D 1).2.1 + 1) x ((x.length + 42) / 43)).2.sync 1).2.1 ≤ 19
          rw [lastRec_two, e1 1 (by decide), e1 (1 + 1) (by decide), ← lastRec_two, hvs.pl.last]
          show n ≤ 19
          omega
        · exact hw
theorem SmallD.new : SmallD (Dk.new 20) := by
  refine ⟨fun i => ?_, fun e he => by cases he⟩
  show pAgain ((List.replicate 20 (List.replicate 64 (0 : UInt8))).getD i []) ≤ 20
  rw [List.getD_eq_getElem?_getD, List.getElem?_replicate]
  split
  · show pAgain (List.replicate 64 0) ≤ 20; decide
  · show pAgain [] ≤ 20; decide
theorem SmallD.op {D : Dk} (h : SmallD D) {cnt : Nat} (hv : VM D cnt) (hc : cnt ≤ 15) (o : OpV) : SmallD (opVM D o) := by
  unfold opVM
  split
  · exact h.vsave hv hc o.b
  · split
    · exact h.crash hv.good o.zs
    · split
      · exact ⟨h.sure, h.pend⟩
      · split
        · exact h.sync
        · exact h
theorem madeV_small {n : Nat} {w : World} {v : Value} {l : List OpV} (h : OpsAt n w v l) (hl : l.length ≤ 15) : ∀ j, j ≤ l.length → SmallD (madeV (l.take j))
  | 0, _ => by simp [madeV]; exact SmallD.new
  | j + 1, hj => by
    rw [madeV_snoc l j hj]
    exact (madeV_small h hl j (by omega)).op (madeV_vm h hl j (by omega)) (by omega) l[j]
theorem lastRec_small {D : Dk} (h : ∀ i, pAgain (D.seen.getD i []) ≤ 20) (k : Nat) : (lastRec D k).2.1 ≤ 20 := by
  rcases lastRec_form D k with h1 | ⟨i, _, h1⟩
  · rw [h1]; exact Nat.zero_le _
  · obtain ⟨h2, _⟩ := secRec_some h1
    have := (parse_again h2).1
    have := h (k + i)
    omega
/-- VaultRefused. -/
theorem refused_law {D : Dk} (h : VM D 15) (hs : SmallD D) (i n : Int) (x : List UInt8) (hc : (vsave (D.crash []) i n x).1 ≠ 0) : (vsave (D.crash []) i n x).2 = D.crash [] := by
  have hc20 := (h.crash []).h20
  by_cases h1 : vright (D.crash []) i n = 0
  · by_cases h2 : vroom n < (x.length : Nat)
    · unfold vsave; rw [if_neg (by rw [h1]; decide), if_pos h2]
    · by_cases h3 : (readV (D.crash []) i).2.1 = 4294967295
      · unfold vsave; rw [if_neg (by rw [h1]; decide), if_neg h2, if_pos h3]
      · exfalso
        refine hc (vsave_on rfl (by show (-1 : Int) < 0; decide) (by omega) i n x h1 h2 h3 ?_)
        have hsm : ∀ j, pAgain ((D.crash []).seen.getD j []) ≤ 20 := (hs.crash h.good []).sure
        have := lastRec_small hsm i.toNat
        omega
  · unfold vsave; rw [if_pos h1]
end Go.Proofs.YtaeonlafcbgpcaaDoor
