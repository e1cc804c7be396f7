/- Texts of the proofs, part 30: what the functions that they reach do, walked; no conditions beyond those that each states. -/
import Derived.Deep.RegionHeld3
import Derived.Test.YtcpbmempfeloaaaDoorZzcc150a638a
set_option linter.unusedVariables false
set_option linter.unusedSimpArgs false
/- Keep: the keeper in memory; a save of the slot beside its journal. -/
namespace Go.Proofs.YtcpbmempfeloaaaDoor
open Go.RowKit
set_option linter.unusedVariables false
set_option linter.unusedSimpArgs false

/-- A save of a slot on a journal's disk. -/
theorem st_save {K : Nat → Obj → Prop} {n : Nat} {P : Nat → Prop} {w : World} {bj bd : Nat} {J : Jn} {D : Dk} (h : St n P w bj bd J D) (hn : n ≤ w.heap.size) (i : Int) (v : Value) (b : List UInt8) (hb : BytesAt K w v b) (ht : TabOK w) (hq : D.pend.length < 1000000) :
    Calls Tryd.prog 104 #[.pointer (some ⟨bd, 0, none⟩), .int .i64 i, v] w fun e w' => e = .returned (.int .i64 (saveM D i b).1) ∧ ∃ P', St n P' w' bj bd J (saveM D i b).2 ∧ Kp P P' w w' := by
  obtain ⟨F, G, h1, h2, h3, h4, h5⟩ := h.jd
  refine (save_calls w bd F D i v b h1 hb ht hq).mono fun e w' ⟨he, hd, hf⟩ => ⟨he, st_step h hn (JPost.jd (F := F) (G := G) ⟨w.heap.size, Nat.le_refl _, hf.size, ?_, hd⟩ h3 h4 h5) (hf.mono fun c _ hc k => hc (h3 c k).1)⟩
  exact (h2.fr hf fun c _ _ k => h5 c k).mono fun c k => ⟨.inl k, (h4 c k).2⟩
theorem BytesAt.fr2 {K K' : Nat → Obj → Prop} {w w' : World} {v : Value} {bs : List UInt8} (h : BytesAt K w v bs) (hf : Fr K' w w') (hk : ∀ c o, w.heap[c]? = some o → K c o → K' c o) : BytesAt K w' v bs := by
  obtain ⟨a, cap, hv, hl, hn, h⟩ := h
  refine ⟨a, cap, hv, hl, hn, ?_⟩
  rcases h with h | ⟨b, off, o, ha, hb, hk', hc⟩
  · exact .inl h
  · refine .inr ⟨b, off, o, ha, hf.keep b o hb (hk b o hb hk'), hk', fun i hi => ?_⟩
    exact hf.cell (fun o' ho => by rw [hb] at ho; cases ho; exact hk b _ hb hk') (hc i hi)
/-- Beside X; of an argument, or of this kind. -/
def Yk (X : Nat → Prop) (n : Nat) (t : TypeId) (c : Nat) (o : Obj) : Prop := ¬ X c ∧ (c < n ∨ ∃ cs fz, o = .cells cs t fz)
def W7 (bd bj : Nat) (ring : Int) (sv : Value) (b : Nat) (hv : Value) : Obj := .cells #[.pointer (some ⟨bd, 0, none⟩), .pointer (some ⟨bj, 0, none⟩), .int .i64 1, .int .i64 ring, sv, .int .u64 (b : Nat), hv] 135 (0, 0)
/-- A keeper in memory: X are the blocks that may be written, P its journal's and its disk's. -/
structure KM (n : Nat) (X P : Nat → Prop) (w : World) (bk bj bd : Nat) (ring : Int) (K : Ke) (J : Jn) (D : Dk) (a4 : Option Addr) (c4 : Nat) (hv : Value) (rs : List RV) : Prop where
  st : St n P w bj bd J D
  top : w.heap[bk]? = some (W7 bd bj ring (.slice a4 K.slot.length c4) K.base hv)
  px : ∀ c, P c → X c
  xb : X bk
  nb : ¬ P bk
  lo : ∀ c, X c → n ≤ c
  hi : ∀ c, X c → c < w.heap.size
  sl : BytesAt (Yk X n 5) w (.slice a4 K.slot.length c4) K.slot
  own : w.ownsRow n 141 4 hv rs.length (rs.flatMap encR)
  ox : ∀ c, hv.ownBlock = some c → X c ∧ ¬ P c ∧ c ≠ bk
  rc : rs.map RV.rc = K.held
  dat : ∀ r ∈ rs, BytesAt (Yk X n 5) w (.slice r.x.a r.x.d.length r.x.c) r.x.d
section
variable {n : Nat} {X P : Nat → Prop} {w w' : World} {bk bj bd : Nat} {ring : Int} {K : Ke} {J : Jn} {D : Dk} {a4 : Option Addr} {c4 : Nat} {hv : Value} {rs : List RV}
theorem KM.tt (h : KM n X P w bk bj bd ring K J D a4 c4 hv rs) (hf : Fr (fun _ _ => True) w w') : KM n X P w' bk bj bd ring K J D a4 c4 hv rs :=
  ⟨h.st.tt hf, hf.keep _ _ h.top trivial, h.px, h.xb, h.nb, h.lo, fun c hc => Nat.lt_of_lt_of_le (h.hi c hc) hf.size, h.sl.tt hf, ownsRow_fr h.own hf fun _ _ _ _ => trivial, h.ox, h.rc, fun r hr => (h.dat r hr).tt hf⟩
/-- Where blocks of another kind are written, beside X. -/
theorem KM.fr {K' : Nat → Obj → Prop} (h : KM n X P w bk bj bd ring K J D a4 c4 hv rs) (hf : Fr K' w w') (hk : ∀ c o, w.heap[c]? = some o → X c → K' c o) (hu : ∀ c o, w.heap[c]? = some o → Yk X n 5 c o → K' c o) : KM n X P w' bk bj bd ring K J D a4 c4 hv rs :=
  ⟨⟨h.st.jd.fr hf fun c o ho hc => hk c o ho (h.px c hc), h.st.lo, fun c hc => Nat.lt_of_lt_of_le (h.st.hi c hc) hf.size⟩, hf.keep _ _ h.top (hk _ _ h.top h.xb), h.px, h.xb, h.nb, h.lo, fun c hc => Nat.lt_of_lt_of_le (h.hi c hc) hf.size,
    h.sl.fr2 hf hu, ownsRow_fr h.own hf fun b o e hb => hk b o hb (h.ox b e).1, h.ox, h.rc, fun r hr => (h.dat r hr).fr2 hf hu⟩
theorem Yk.of {t : TypeId} {c : Nat} {o : Obj} {X' : Nat → Prop} (h : Yk X n t c o) (hx : ¬ X c → ¬ X' c) : Yk X' n t c o := ⟨hx h.1, h.2⟩
theorem Yk.new {m c : Nat} {o : Obj} (h : New m c o) (hx : ∀ c, X c → c < m) : Yk X n 5 c o := by
  obtain ⟨h1, h2⟩ := h
  exact ⟨fun k => by have := hx c k; omega, .inr h2⟩
/-- A cell of the keeper's own block is written. -/
theorem KM.setF (h : KM n X P w bk bj bd ring K J D a4 c4 hv rs) (i : Nat) (v : Value) : Fr (fun c _ => c ≠ bk) w (w.setCell ⟨bk, i, none⟩ v) := (Fr.refl _ _).setCell (fun _ _ h => h rfl) _
theorem KM.setK (h : KM n X P w bk bj bd ring K J D a4 c4 hv rs) (i : Nat) (v : Value) : Kp X X w (w.setCell ⟨bk, i, none⟩ v) := ⟨(h.setF i v).mono fun c _ hc e => hc (e ▸ h.xb), fun _ _ h => h⟩
theorem KM.set (h : KM n X P w bk bj bd ring K J D a4 c4 hv rs) (i : Nat) (v : Value) {K' : Ke} {a4' : Option Addr} {c4' : Nat} (ht : (w.setCell ⟨bk, i, none⟩ v).heap[bk]? = some (W7 bd bj ring (.slice a4' K'.slot.length c4') K'.base hv)) (hh : K'.held = K.held) (hs : BytesAt (Yk X n 5) w (.slice a4' K'.slot.length c4') K'.slot) :
    KM n X P (w.setCell ⟨bk, i, none⟩ v) bk bj bd ring K' J D a4' c4' hv rs := by
  have hf := h.setF i v
  have hy : ∀ c (o : Obj), w.heap[c]? = some o → Yk X n 5 c o → c ≠ bk := fun c o _ hc e => hc.1 (e ▸ h.xb)
  exact ⟨⟨h.st.jd.fr hf fun c o ho hc e => h.nb (e ▸ hc), h.st.lo, fun c hc => Nat.lt_of_lt_of_le (h.st.hi c hc) hf.size⟩, ht, h.px, h.xb, h.nb, h.lo, fun c hc => Nat.lt_of_lt_of_le (h.hi c hc) hf.size, hs.fr2 hf hy,
    ownsRow_fr h.own hf fun b o e hb => (h.ox b e).2.2, h.ox, by rw [hh]; exact h.rc, fun r hr => (h.dat r hr).fr2 hf hy⟩
theorem KM.setBase (h : KM n X P w bk bj bd ring K J D a4 c4 hv rs) (b : Nat) : KM n X P (w.setCell ⟨bk, 5, none⟩ (.int .u64 (b : Nat))) bk bj bd ring { K with base := b } J D a4 c4 hv rs :=
  h.set 5 _ (K' := { K with base := b }) (heap_setCell_same (o := 5) h.top _) rfl h.sl
theorem KM.setSlot (h : KM n X P w bk bj bd ring K J D a4 c4 hv rs) {a : Option Addr} {c m : Nat} {b : List UInt8} (hm : b.length = m) (hb : BytesAt (Yk X n 5) w (.slice a m c) b) : KM n X P (w.setCell ⟨bk, 4, none⟩ (.slice a m c)) bk bj bd ring { K with slot := b } J D a c hv rs := by
  subst hm
  exact h.set 4 _ (K' := { K with slot := b }) (heap_setCell_same (o := 4) h.top _) rfl hb
/-- Behind a step of the journal or the disk. -/
theorem KM.jd {P' : Nat → Prop} {J' : Jn} {D' : Dk} (h : KM n X P w bk bj bd ring K J D a4 c4 hv rs) (hn : n ≤ w.heap.size) (hs : St n P' w' bj bd J' D') (k : Kp P P' w w') : ∃ X', KM n X' P' w' bk bj bd ring K J' D' a4 c4 hv rs ∧ Kp X X' w w' := by
  have hsz := k.fr.size
  have ho : ∀ c, c < w.heap.size → ¬ X c → ¬ ((X c ∨ w.heap.size ≤ c) ∧ c < w'.heap.size) := fun c hc hx ⟨h1, _⟩ => by
    rcases h1 with h1 | h1
    · exact hx h1
    · omega
  have hy : ∀ c (o : Obj), w.heap[c]? = some o → Yk X n 5 c o → ¬ P c := fun c o _ hc e => hc.1 (h.px c e)
  have hb : ∀ {v : Value} {l : List UInt8}, BytesAt (Yk X n 5) w v l → BytesAt (Yk (fun c => (X c ∨ w.heap.size ≤ c) ∧ c < w'.heap.size) n 5) w' v l := fun {v l} hl => by
    have h1 : BytesAt (fun c o => Yk X n 5 c o ∧ c < w.heap.size) w v l := hl.mono fun c o ho hc => ⟨hc, lt_of_some ho⟩
    exact (h1.fr2 k.fr fun c o ho hc => hy c o ho hc.1).mono fun c o _ hc => hc.1.of (ho c hc.2)
  refine ⟨fun c => (X c ∨ w.heap.size ≤ c) ∧ c < w'.heap.size, ⟨hs, k.fr.keep _ _ h.top h.nb, fun c hc => ⟨?_, hs.hi c hc⟩, ⟨.inl h.xb, by have := h.hi _ h.xb; omega⟩, k.out _ (h.hi _ h.xb) h.nb, fun c hc => ?_, fun c hc => hc.2, hb h.sl, ownsRow_fr h.own k.fr fun b o e hb => (h.ox b e).2.1, fun c e => ?_, h.rc, fun r hr => hb (h.dat r hr)⟩, k.fr.mono fun c _ hc hp => hc (h.px c hp), ho⟩
  · by_cases hl : c < w.heap.size
    · exact .inl (h.px c (Classical.byContradiction fun hp => k.out c hl hp hc))
    · exact .inr (by omega)
  · rcases hc.1 with h1 | h1
    · exact h.lo c h1
    · omega
  · obtain ⟨h1, h2, h3⟩ := h.ox c e
    have := h.hi c h1
    exact ⟨⟨.inl h1, by omega⟩, k.out c this h2, h3⟩
/-- Another row of records. -/
theorem KM.rowAt (h : KM n X P w bk bj bd ring K J D a4 c4 hv rs) : RowsAt (fun c _ => X c ∧ ¬ P c ∧ c ≠ bk) w hv 4 encR rs := RowsAt.of_own encR_len h.own fun c _ e => h.ox c e
end
end Go.Proofs.YtcpbmempfeloaaaDoor
/- Keep: a state's rows; same. -/
namespace Go.Proofs.YtcpbmempfeloaaaDoor
open Go.RowKit
set_option linter.unusedVariables false
set_option linter.unusedSimpArgs false

/-- A state's rows and bytes: beside X. -/
structure SA (n : Nat) (X : Nat → Prop) (w : World) (s : Sta) (v : Value) (xs : List EV) : Prop where
  rows : RowsAt (Yk X n 128) w v 3 encE xs
  es : s.es = xs.map EV.en
  dat : ∀ x ∈ xs, BytesAt (Yk X n 5) w (.slice x.a x.d.length x.c) x.d
theorem SA.kp {n : Nat} {X X' : Nat → Prop} {w w' : World} {s : Sta} {v : Value} {xs : List EV} (h : SA n X w s v xs) (k : Kp X X' w w') : SA n X' w' s v xs := by
  refine ⟨?_, h.es, fun x hx => ?_⟩
  · have h1 : RowsAt (fun c o => Yk X n 128 c o ∧ c < w.heap.size) w v 3 encE xs := h.rows.mono fun c o ho hc => ⟨hc, lt_of_some ho⟩
    exact (h1.fr k.fr fun c o ho hc => hc.1.1).mono fun c o _ hc => hc.1.of (k.out c hc.2)
  · have h1 : BytesAt (fun c o => Yk X n 5 c o ∧ c < w.heap.size) w (.slice x.a x.d.length x.c) x.d := (h.dat x hx).mono fun c o ho hc => ⟨hc, lt_of_some ho⟩
    exact (h1.fr2 k.fr fun c o ho hc => hc.1.1).mono fun c o _ hc => hc.1.of (k.out c hc.2)
theorem SA.tt {n : Nat} {X : Nat → Prop} {w w' : World} {s : Sta} {v : Value} {xs : List EV} (h : SA n X w s v xs) (k : Fr (fun _ _ => True) w w') : SA n X w' s v xs := h.kp (Kp.rfl' X k)
theorem SA.len {n : Nat} {X : Nat → Prop} {w : World} {s : Sta} {v : Value} {xs : List EV} (h : SA n X w s v xs) : s.es.length = xs.length := by rw [h.es, List.length_map]
theorem sameR_eq {s : Sta} {xs : List EV} (he : s.es = xs.map EV.en) (r : RV) (k : Nat) (hk : k < xs.length) (ha : r.at_ = s.base + 1 + k) : sameR r.rc s = (decide (xs[k].t = r.x.t) && (decide (xs[k].k = r.x.k) && decide (xs[k].d = r.x.d))) := by
  unfold sameR RV.rc
  dsimp only
  have e1 : r.at_ - s.base - 1 = k := by omega
  have hl : s.es.length = xs.length := by rw [he, List.length_map]
  rw [decide_eq_true (by omega), decide_eq_true (by omega), Bool.true_and, Bool.true_and, e1, he, List.getD_eq_getElem?_getD, List.getElem?_map, List.getElem?_eq_getElem hk]
  simp only [Option.map_some, Option.getD_some, EV.en, En.mk.injEq]
  rw [Bool.decide_and, Bool.decide_and]
set_option maxRecDepth 100000 in
set_option maxHeartbeats 2000000 in
/-- same: whether a log has a record's entry. -/
theorem ksame_calls {K K' : Nat → Obj → Prop} (w : World) (s : Sta) (v : Value) (xs : List EV) (r : RV) (hx : RowsAt K w v 3 encE xs) (he : s.es = xs.map EV.en) (hd : ∀ x ∈ xs, BytesAt K' w (.slice x.a x.d.length x.c) x.d) (hr : BytesAt K' w (.slice r.x.a r.x.d.length r.x.c) r.x.d) (hb : s.base + s.es.length < 18446744073709551616) :
    Calls Tryd.prog 115 #[vRec r, vL s.base s.bt v] w fun e w' => e = .returned (.bool (sameR r.rc s)) ∧ Fr (fun _ _ => True) w w' := by
  obtain ⟨av, cv, rfl, _⟩ := hx.form
  have hl : s.es.length = xs.length := by rw [he, List.length_map]
  rw [hl] at hb
  have SE := Lib.hid (sameR_eq he r)
  have SN : Hid (¬ (s.base < r.at_ ∧ r.at_ ≤ s.base + xs.length) → sameR r.rc s = false) := fun hn => by
    unfold sameR RV.rc
    dsimp only
    rw [hl]
    simp only [Bool.and_eq_false_iff, decide_eq_false_iff_not]
    exact .inl (by omega)
  generalize sameR r.rc s = R at SE SN ⊢
  obtain ⟨at_, t, k, a, c, d⟩ := r
  obtain ⟨term, vote, b, bt, es⟩ := s
  dsimp only at *
  obtain ⟨W1, hW1⟩ : ∃ W, w.alloc (.cells #[.int .u64 (at_ : Nat), .int .u64 (t : Nat), .int .i64 k, .slice a d.length c] 141 (0, 0)) = W := ⟨_, rfl⟩
  have F1 : Hid (Fr (fun _ _ => True) w W1) := hW1 ▸ (Fr.refl _ _).alloc _
  have X1 : Hid (W1.heap[w.heap.size]? = some (.cells #[.int .u64 (at_ : Nat), .int .u64 (t : Nat), .int .i64 k, .slice a d.length c] 141 (0, 0))) := hW1 ▸ heap_alloc_new w _
  obtain ⟨W2, hW2⟩ : ∃ W, W1.alloc (.cells #[.int .u64 (b : Nat), .int .u64 (bt : Nat), .slice av xs.length cv] 66 (0, 0)) = W := ⟨_, rfl⟩
  have F2 : Hid (Fr (fun _ _ => True) w W2) := hW2 ▸ F1.out.alloc _
  have X2 : Hid (W2.heap[W1.heap.size]? = some (.cells #[.int .u64 (b : Nat), .int .u64 (bt : Nat), .slice av xs.length cv] 66 (0, 0))) := hW2 ▸ heap_alloc_new W1 _
  have G12 : Hid (Fr (fun _ _ => True) W1 W2) := hW2 ▸ (Fr.refl _ _).alloc _
  have X1' : Hid (W2.heap[w.heap.size]? = some (.cells #[.int .u64 (at_ : Nat), .int .u64 (t : Nat), .int .i64 k, .slice a d.length c] 141 (0, 0))) := G12.out.keep _ _ X1.out trivial
  have p0 := cell_mk (i := 0) X1'.out rfl
  have q0 := cell_mk (i := 0) X2.out rfl
  have q1 := cell_mk (i := 1) X2.out rfl
  have q2 := cell_mk (i := 2) X2.out rfl
  unfold vRec
  dsimp only
  clear es he hl
  by_cases hin : b < at_ ∧ at_ ≤ b + xs.length
  · obtain ⟨j, hj⟩ : ∃ j, j = at_ - b - 1 := ⟨_, rfl⟩
    have hjl : j < xs.length := by omega
    have EC := Lib.hid (tentry_yes W2 b bt at_ j av xs.length cv xs (hx.tt F2.out) rfl hb hjl (by omega))
    have SR := Lib.hid (SE.out j hjl (by omega))
    have hxd := (hd xs[j] (List.getElem_mem hjl)).tt F2.out
    obtain ⟨x, hxx⟩ : ∃ x, xs[j] = x := ⟨_, rfl⟩
    rw [hxx] at EC SR hxd
    have HXD := Lib.hid hxd
    have HRD := Lib.hid (hr.tt F2.out)
    clear hxx hin hjl hj hd hx SE SN hb hxd hr
    generalize xs.length = nn at *
    unfold vL vE at EC
    unfold vL
    obtain ⟨xt, xk, xa, xc, xd⟩ := x
    dsimp only at *
    rw [SR.out]
    clear SR
    have BQ : Hid (∀ W, Fr (fun _ _ => True) W2 W → Calls Tryd.prog 111 #[.slice xa xd.length xc, .slice a d.length c] W fun e w' => e = .returned (.bool (decide (xd = d))) ∧ W = w') := fun W f => beq_calls W _ _ xd d (HXD.out.tt f) (HRD.out.tt f)
    generalize xd.length = xn at *
    generalize d.length = dn at *
    by_cases h1 : xt = t
    · subst h1
      rw [decide_eq_true rfl, Bool.true_and]
      by_cases h2 : xk = k
      · subst h2
        rw [decide_eq_true rfl, Bool.true_and]
        generalize decide (xd = d) = bb at *
        go_enter Tryd.func115, Tryd.ntmps115
        go_wp2_with fail
        try rw [hW1]
        try rw [hW2]
        (with_reducible refine EC.out.mono ?_)
        rintro e w3 ⟨rfl, f3⟩
        have F3 := Lib.hid f3
        obtain ⟨W4, hW4⟩ : ∃ W, w3.alloc (.cells #[.int .u64 (xt : Nat), .int .i64 xk, .slice xa xn xc] 128 (0, 0)) = W := ⟨_, rfl⟩
        have F4 : Hid (Fr (fun _ _ => True) W2 W4) := hW4 ▸ F3.out.alloc _
        have X4 : Hid (W4.heap[w3.heap.size]? = some (.cells #[.int .u64 (xt : Nat), .int .i64 xk, .slice xa xn xc] 128 (0, 0))) := hW4 ▸ heap_alloc_new w3 _
        have y0 := cell_mk (i := 0) X4.out rfl
        have y1 := cell_mk (i := 1) X4.out rfl
        have y2 := cell_mk (i := 2) X4.out rfl
        have X5 := F4.out.keep _ _ X1'.out trivial
        have z1 := cell_mk (i := 1) X5 rfl
        have z2 := cell_mk (i := 2) X5 rfl
        have z3 := cell_mk (i := 3) X5 rfl
        clear f3 EC p0 q0 q1 q2 X5
        go_wp2_with fail
        try rw [hW4]
        (with_reducible refine (BQ.out _ F4.out).mono ?_)
        rintro e w5 ⟨rfl, rfl⟩
        go_wp2
        go_ret
        exact ⟨rfl, F2.out.trans F4.out⟩
      · have hkb : ((xk : Int) == (k : Int)) = false := by simpa using h2
        rw [decide_eq_false h2, Bool.false_and]
        go_enter Tryd.func115, Tryd.ntmps115
        go_wp2_with fail
        try rw [hW1]
        try rw [hW2]
        (with_reducible refine EC.out.mono ?_)
        rintro e w3 ⟨rfl, f3⟩
        have F3 := Lib.hid f3
        obtain ⟨W4, hW4⟩ : ∃ W, w3.alloc (.cells #[.int .u64 (xt : Nat), .int .i64 xk, .slice xa xn xc] 128 (0, 0)) = W := ⟨_, rfl⟩
        have F4 : Hid (Fr (fun _ _ => True) W2 W4) := hW4 ▸ F3.out.alloc _
        have X4 : Hid (W4.heap[w3.heap.size]? = some (.cells #[.int .u64 (xt : Nat), .int .i64 xk, .slice xa xn xc] 128 (0, 0))) := hW4 ▸ heap_alloc_new w3 _
        have y0 := cell_mk (i := 0) X4.out rfl
        have y1 := cell_mk (i := 1) X4.out rfl
        have X5 := F4.out.keep _ _ X1'.out trivial
        have z1 := cell_mk (i := 1) X5 rfl
        have z2 := cell_mk (i := 2) X5 rfl
        clear f3 EC p0 q0 q1 q2 X5
        go_wp2
        try rw [hW4]
        go_ret
        exact ⟨rfl, F2.out.trans F4.out⟩
    · have htb : ((xt : Int) == (t : Int)) = false := by simp; omega
      rw [decide_eq_false h1, Bool.false_and]
      go_enter Tryd.func115, Tryd.ntmps115
      go_wp2_with fail
      try rw [hW1]
      try rw [hW2]
      (with_reducible refine EC.out.mono ?_)
      rintro e w3 ⟨rfl, f3⟩
      have F3 := Lib.hid f3
      obtain ⟨W4, hW4⟩ : ∃ W, w3.alloc (.cells #[.int .u64 (xt : Nat), .int .i64 xk, .slice xa xn xc] 128 (0, 0)) = W := ⟨_, rfl⟩
      have F4 : Hid (Fr (fun _ _ => True) W2 W4) := hW4 ▸ F3.out.alloc _
      have X4 : Hid (W4.heap[w3.heap.size]? = some (.cells #[.int .u64 (xt : Nat), .int .i64 xk, .slice xa xn xc] 128 (0, 0))) := hW4 ▸ heap_alloc_new w3 _
      have y0 := cell_mk (i := 0) X4.out rfl
      have X5 := F4.out.keep _ _ X1'.out trivial
      have z1 := cell_mk (i := 1) X5 rfl
      clear f3 EC p0 q0 q1 q2 X5
      go_wp2
      try rw [hW4]
      go_ret
      exact ⟨rfl, F2.out.trans F4.out⟩
  · rw [SN.out hin]
    have EC := Lib.hid (tentry_no W2 b bt at_ av xs.length cv hb hin)
    clear hin hb hx hd hr SE SN
    generalize xs.length = nn at *
    generalize d.length = dn at *
    unfold vL vE zEV at EC
    unfold vL
    dsimp only [List.length_nil] at EC
    go_enter Tryd.func115, Tryd.ntmps115
    go_wp2_with fail
    try rw [hW1]
    try rw [hW2]
    (with_reducible refine EC.out.mono ?_)
    rintro e w3 ⟨rfl, f3⟩
    have F3 := Lib.hid f3
    clear f3 EC p0 q0 q1 q2
    go_wp2
    go_ret
    exact ⟨rfl, (F2.out.trans F3.out).alloc _⟩
end Go.Proofs.YtcpbmempfeloaaaDoor
/- Keep: mark. -/
namespace Go.Proofs.YtcpbmempfeloaaaDoor
open Go.RowKit
set_option linter.unusedVariables false
set_option linter.unusedSimpArgs false

theorem TabOK.kp {X X' : Nat → Prop} {w w' : World} (h : TabOK w) (k : Kp X X' w w') (hx : ¬ X 0) : TabOK w' := fun i hi => k.fr.cell (fun _ _ => hx) (h i hi)
section
variable {n : Nat} {X P : Nat → Prop} {w : World} {bk bj bd : Nat} {ring : Int} {K : Ke} {J : Jn} {D : Dk} {a4 : Option Addr} {c4 : Nat} {hv : Value} {rs : List RV}
theorem KM.z (h : KM n X P w bk bj bd ring K J D a4 c4 hv rs) (h0 : 0 < n) : ¬ X 0 := fun k => by have := h.lo 0 k; omega
theorem KM.cells (h : KM n X P w bk bj bd ring K J D a4 c4 hv rs) : w.cell? ⟨bk, 0, none⟩ = some (.pointer (some ⟨bd, 0, none⟩)) ∧ w.cell? ⟨bk, 1, none⟩ = some (.pointer (some ⟨bj, 0, none⟩)) ∧ w.cell? ⟨bk, 2, none⟩ = some (.int .i64 1) ∧ w.cell? ⟨bk, 3, none⟩ = some (.int .i64 ring) ∧ w.cell? ⟨bk, 4, none⟩ = some (.slice a4 K.slot.length c4) ∧ w.cell? ⟨bk, 5, none⟩ = some (.int .u64 (K.base : Nat)) ∧ w.cell? ⟨bk, 6, none⟩ = some hv ∧ ∀ i, w.frozen? ⟨bk, i, none⟩ = false := by
  have t := h.top
  unfold W7 at t
  exact ⟨cell_mk t rfl, cell_mk t rfl, cell_mk t rfl, cell_mk t rfl, cell_mk t rfl, cell_mk t rfl, cell_mk t rfl, fun i => frozen_mk t⟩
end
set_option maxRecDepth 100000 in
set_option maxHeartbeats 2000000 in
theorem mark_calls {n : Nat} {X P : Nat → Prop} {w : World} {bk bj bd : Nat} {ring : Int} {K : Ke} {J : Jn} {D : Dk} {a4 : Option Addr} {c4 : Nat} {hv : Value} {rs : List RV} (h : KM n X P w bk bj bd ring K J D a4 c4 hv rs) (h0 : 0 < n) (hn : n ≤ w.heap.size)
    (s : Sta) (av : Option Addr) (nv cv : Nat) (hs : s.wf) (hvo : -1 ≤ s.vote ∧ s.vote < 255) (ht : TabOK w) (hq : D.pend.length < 1000000) :
    Calls Tryd.prog 74 #[.pointer (some ⟨bk, 0, none⟩), vS s (.slice av nv cv)] w fun e w' => e = .returned (.int .i64 (markK K D s).1) ∧ ∃ X' P' a4' c4', KM n X' P' w' bk bj bd ring (markK K D s).2.1 J (markK K D s).2.2 a4' c4' hv rs ∧ Kp X X' w w' := by
  obtain ⟨W1, hW1⟩ : ∃ W, w.alloc (.cells #[.int .u64 (s.term : Nat), .int .i64 s.vote, .int .u64 (s.base : Nat), .int .u64 (s.bt : Nat), .slice av nv cv] 68 (0, 0)) = W := ⟨_, rfl⟩
  have F1 : Hid (Fr (fun _ _ => True) w W1) := hW1 ▸ (Fr.refl _ _).alloc _
  have X1 : Hid (W1.heap[w.heap.size]? = some (.cells #[.int .u64 (s.term : Nat), .int .i64 s.vote, .int .u64 (s.base : Nat), .int .u64 (s.bt : Nat), .slice av nv cv] 68 (0, 0))) := hW1 ▸ heap_alloc_new w _
  have x0 := cell_mk (i := 0) X1.out rfl
  have x1 := cell_mk (i := 1) X1.out rfl
  have x2 := cell_mk (i := 2) X1.out rfl
  have x3 := cell_mk (i := 3) X1.out rfl
  have x4 := cell_mk (i := 4) X1.out rfl
  have HC := Lib.hid (head_calls W1 s av nv cv hs hvo)
  have HH := Lib.hid h
  have HT := Lib.hid ht
  have HN := Lib.hid hn
  have HZ : Hid (¬ X 0) := h.z h0
  have HL := Lib.hid (headB_len s)
  have MK : Hid (markK K D s = if headB s = K.slot then (0, { K with base := s.base }, D) else ((saveM D 1 (headB s)).1, ⟨headB s, s.base, K.held⟩, (saveM D 1 (headB s)).2)) := rfl
  generalize markK K D s = R at MK ⊢
  obtain ⟨b, hb⟩ : ∃ b, s.base = b := ⟨_, rfl⟩
  rw [hb] at x2 MK
  obtain ⟨m4, hm4⟩ : ∃ m, K.slot.length = m := ⟨_, rfl⟩
  have HM4 := Lib.hid hm4
  unfold vS at HC ⊢
  generalize headB s = hd at HC HL MK
  rw [hb] at HC ⊢
  rw [hb] at hW1 X1
  clear h ht hs hvo hm4 hb hn h0
  go_enter Tryd.func74, Tryd.ntmps74
  go_wp2_with fail
  try rw [hW1]
  (with_reducible refine HC.out.mono ?_)
  rintro e w2 ⟨⟨a5, c5, rfl, b5⟩, f2⟩
  have F2 := Lib.hid (F1.out.trans f2)
  have M2 := Lib.hid (HH.out.tt F2.out)
  have B5 : Hid (BytesAt (Yk X n 5) w2 (.slice a5 25 c5) hd) := Lib.hid (b5.mono fun c o _ k => Yk.new k fun c hc => Nat.lt_of_lt_of_le (HH.out.hi c hc) F1.out.size)
  have y5 := M2.out.cells.2.2.2.2.2.1
  have fz5 := M2.out.cells.2.2.2.2.2.2.2 5
  have x2 := cell_mk (i := 2) (f2.keep _ _ X1.out trivial) rfl
  obtain ⟨W3, hW3⟩ : ∃ W, w2.setCell ⟨bk, 5, none⟩ (.int .u64 (b : Nat)) = W := ⟨_, rfl⟩
  have M3 : Hid (KM n X P W3 bk bj bd ring { K with base := b } J D a4 c4 hv rs) := hW3 ▸ M2.out.setBase b
  have K3 : Hid (Kp X X w2 W3) := hW3 ▸ M2.out.setK 5 _
  have K03 : Hid (Kp X X w W3) := (Kp.rfl' X F2.out).trans K3.out
  have z4 : W3.cell? ⟨bk, 4, none⟩ = some (.slice a4 m4 c4) := by have t := M3.out.cells.2.2.2.2.1; rw [← HM4.out]; exact t
  have B53 : Hid (BytesAt (Yk X n 5) W3 (.slice a5 25 c5) hd) := B5.out.fr2 K3.out.fr fun c o _ k => k.1
  have SL3 : Hid (BytesAt (Yk X n 5) W3 (.slice a4 m4 c4) K.slot) := HM4.out ▸ M3.out.sl
  have BQ := Lib.hid (beq_calls W3 _ _ hd K.slot B53.out SL3.out)
  by_cases e : hd = K.slot
  · rw [decide_eq_true e] at BQ
    have ME : Hid (R = (0, { K with base := b }, D)) := Lib.hid (MK.out.trans (if_pos e))
    clear f2 HC b5 MK e
    go_wp2_with fail
    try rw [hW3]
    (with_reducible refine BQ.out.mono ?_)
    rintro e w4 ⟨rfl, rfl⟩
    clear BQ
    go_wp2
    go_ret
    rw [ME.out]
    exact ⟨rfl, X, P, a4, c4, M3.out, K03.out⟩
  · rw [decide_eq_false e] at BQ
    have ME : Hid (R = ((saveM D 1 hd).1, ⟨hd, b, K.held⟩, (saveM D 1 hd).2)) := Lib.hid (MK.out.trans (if_neg e))
    have fz4 := M3.out.cells.2.2.2.2.2.2.2 4
    obtain ⟨W4, hW4⟩ : ∃ W, W3.setCell ⟨bk, 4, none⟩ (.slice a5 25 c5) = W := ⟨_, rfl⟩
    have M4 : Hid (KM n X P W4 bk bj bd ring ⟨hd, b, K.held⟩ J D a5 c5 hv rs) := hW4 ▸ M3.out.setSlot HL.out B53.out
    have K4 : Hid (Kp X X w W4) := hW4 ▸ K03.out.trans (M3.out.setK 4 _)
    have u0 := M4.out.cells.1
    have u2 := M4.out.cells.2.2.1
    have B54 : Hid (BytesAt (Yk X n 5) W4 (.slice a5 25 c5) hd) := by
      have t := M4.out.sl
      show BytesAt _ _ _ _
      rw [← HL.out]; exact t
    have SV : Hid (∀ W, Fr (fun _ _ => True) W4 W → Calls Tryd.prog 104 #[.pointer (some ⟨bd, 0, none⟩), .int .i64 1, .slice a5 25 c5] W fun e w' => e = .returned (.int .i64 (saveM D 1 hd).1) ∧ ∃ X' P', KM n X' P' w' bk bj bd ring ⟨hd, b, K.held⟩ J (saveM D 1 hd).2 a5 c5 hv rs ∧ Kp X X' w w') := fun W f => by
      have M5 := M4.out.tt f
      have K5 := K4.out.trans (Kp.rfl' X f)
      refine (st_save M5.st (Nat.le_trans HN.out K5.fr.size) 1 _ hd (B54.out.tt f) (HT.out.kp K5 HZ.out) hq).mono fun e w' ⟨he, P', st', kp'⟩ => ?_
      obtain ⟨X', q1, q2⟩ := M5.jd (Nat.le_trans HN.out K5.fr.size) st' kp'
      exact ⟨he, X', P', q1, K5.trans q2⟩
    have CE : Hid (∀ W, Fr (fun _ _ => True) W4 W → W.cell? ⟨bk, 0, none⟩ = some (.pointer (some ⟨bd, 0, none⟩)) ∧ W.cell? ⟨bk, 2, none⟩ = some (.int .i64 1)) := fun W f => ⟨(M4.out.tt f).cells.1, (M4.out.tt f).cells.2.2.1⟩
    have U4 : Hid (Fr (fun _ _ => True) W4 W4.drew) := (Fr.refl _ _).drew
    clear f2 HC b5 MK e
    go_wp2_with fail
    try rw [hW3]
    (with_reducible refine BQ.out.mono ?_)
    rintro e w4 ⟨rfl, rfl⟩
    clear BQ
    go_upto_region 6 with fail
    try rw [hW4]
    clear hW4 hW3 hW1
    go_region_held3 (fun W => W.cell? ⟨bk, 0, none⟩ = some (.pointer (some ⟨bd, 0, none⟩)) ∧ W.cell? ⟨bk, 2, none⟩ = some (.int .i64 1))
      (first | exact CE.out _ U4.out | exact ⟨Q1.out.cells.1, Q1.out.cells.2.2.1⟩)
      (first | (go_at_call 104; go_must ((with_reducible refine (SV.out _ U4.out).mono ?_); rintro e w8 ⟨rfl, X', P', q1, q2⟩; have Q1 := Lib.hid q1; have Q2 := Lib.hid q2; clear q1 q2)))
    all_goals
      go_wp2
      go_ret
      rw [ME.out]
      exact ⟨rfl, X', P', a5, c5, Q1.out, Q2.out⟩
end Go.Proofs.YtcpbmempfeloaaaDoor
/- Keep: trim (printed by ktrim.py). -/
namespace Go.Proofs.YtcpbmempfeloaaaDoor
open Go.RowKit
set_option linter.unusedVariables false
set_option linter.unusedSimpArgs false

theorem flat_drop {α : Type} {enc : α → List Value} {k : Nat} (hk : ∀ x, (enc x).length = k) : ∀ (m : Nat) (xs : List α), (xs.flatMap enc).drop (m * k) = (xs.drop m).flatMap enc
  | 0, xs => by simp
  | m + 1, [] => by simp
  | m + 1, x :: xs => by
    have e : (enc x ++ xs.flatMap enc).drop k = xs.flatMap enc := List.drop_left' (hk x)
    rw [List.flatMap_cons, List.drop_succ_cons, ← flat_drop hk m xs, Nat.succ_mul, Nat.add_comm, ← List.drop_drop, e]
theorem own_ge {w : World} {B : Nat} {e : TypeId} {size : Nat} {v : Value} {n : Nat} {xs : List Value} (h : w.ownsRow B e size v n xs) {c : Nat} (hc : v.ownBlock = some c) : B ≤ c := by
  rcases h.2 with ⟨rfl, _⟩ | ⟨g, cap, cur, rfl, hb, _⟩
  · cases hc
  · cases hc; exact hb
theorem idx_trim (rs : List RV) (b : Nat) : (idxR (fun r => decide (b < r.at_)) rs = -1 ∧ trimN (rs.map RV.rc) b = rs.length) ∨ idxR (fun r => decide (b < r.at_)) rs = (trimN (rs.map RV.rc) b : Nat) := by
  have e : (rs.map RV.rc).findIdx? (fun r => decide (b < r.1)) = rs.findIdx? fun r => decide (b < r.at_) := by rw [List.findIdx?_map]; rfl
  unfold idxR trimN
  rw [e]
  cases h : rs.findIdx? fun r => decide (b < r.at_) with
  | none => exact .inl ⟨rfl, by simp⟩
  | some i => exact .inr rfl
section
variable {n : Nat} {X P : Nat → Prop} {w : World} {bk bj bd : Nat} {ring : Int} {K : Ke} {J : Jn} {D : Dk} {a4 : Option Addr} {c4 : Nat} {hv : Value} {rs : List RV}
theorem KM.setH (h : KM n X P w bk bj bd ring K J D a4 c4 hv rs) {w1 : World} {hv' : Value} {rs' : List RV} {H : List (Nat × En)} (hf : Fr (fun c _ => hv.ownBlock ≠ some c) w w1) (ho : w1.ownsRow n 141 4 hv' rs'.length (rs'.flatMap encR)) (hb : ∀ c, hv'.ownBlock = some c → hv.ownBlock = some c ∨ w.heap.size ≤ c)
    (hd : ∀ r ∈ rs', BytesAt (Yk X n 5) w1 (.slice r.x.a r.x.d.length r.x.c) r.x.d) (hn : n ≤ w.heap.size) (hH : rs'.map RV.rc = H) : ∃ X', KM n X' P (w1.setCell ⟨bk, 6, none⟩ hv') bk bj bd ring { K with held := H } J D a4 c4 hv' rs' ∧ Kp X X' w (w1.setCell ⟨bk, 6, none⟩ hv') := by
  subst hH
  have hbk := h.hi _ h.xb
  have nx : ∀ c, hv.ownBlock = some c → X c := fun c e => (h.ox c e).1
  have f2 : Fr (fun c _ => c ≠ bk) w1 (w1.setCell ⟨bk, 6, none⟩ hv') := (Fr.refl _ _).setCell (fun _ _ h => h rfl) _
  have fX : Fr (fun c _ => ¬ X c) w (w1.setCell ⟨bk, 6, none⟩ hv') := (hf.mono fun c _ hc e => hc (nx c e)).trans (f2.mono fun c _ hc e => hc (e ▸ h.xb))
  have ht : w1.heap[bk]? = _ := hf.keep _ _ h.top fun e => (h.ox _ e).2.2 rfl
  have hy : ∀ {v : Value} {l : List UInt8}, BytesAt (Yk X n 5) w1 v l → BytesAt (Yk (fun c => X c ∨ hv'.ownBlock = some c) n 5) (w1.setCell ⟨bk, 6, none⟩ hv') v l := fun {v l} hl => by
    have h1 : BytesAt (Yk (fun c => X c ∨ hv'.ownBlock = some c) n 5) w1 v l := hl.mono fun c o hc ⟨k1, k2⟩ => ⟨fun e => by
      rcases e with e | e
      · exact k1 e
      · obtain ⟨cur, hg⟩ := own_tag ho e
        rw [hg] at hc
        cases hc
        rcases k2 with k2 | ⟨cs, fz, k2⟩
        · have := own_ge ho e; omega
        · have := (Obj.cells.inj k2).2.1
          exact absurd this (by decide), k2⟩
    exact h1.fr2 f2 fun c o _ hc e => hc.1 (.inl (e ▸ h.xb))
  refine ⟨fun c => X c ∨ hv'.ownBlock = some c, ⟨⟨(h.st.jd.fr hf fun c o _ hc e => (h.ox c e).2.1 hc).fr f2 fun c o _ hc e => h.nb (e ▸ hc), h.st.lo, fun c hc => Nat.lt_of_lt_of_le (h.st.hi c hc) fX.size⟩, heap_setCell_same (o := 6) ht hv', fun c hc => .inl (h.px c hc), .inl h.xb, h.nb, fun c hc => ?_, fun c hc => ?_, hy (h.sl.fr2 hf fun c o _ hc e => hc.1 (nx c e)), ?_, fun c e => ?_, rfl, fun r hr => hy (hd r hr)⟩, fX, fun c hc hx e => ?_⟩
  · rcases hc with hc | hc
    · exact h.lo c hc
    · exact own_ge ho hc
  · rcases hc with hc | hc
    · exact Nat.lt_of_lt_of_le (h.hi c hc) fX.size
    · obtain ⟨cur, hg⟩ := own_tag ho hc
      exact Nat.lt_of_lt_of_le (lt_of_some hg) f2.size
  · refine ownsRow_fr ho f2 fun b o e _ q => ?_
    subst q
    rcases hb b e with k | k
    · exact (h.ox b k).2.2 rfl
    · omega
  · refine ⟨.inr e, fun hp => ?_, fun q => ?_⟩
    · rcases hb c e with k | k
      · exact (h.ox c k).2.1 hp
      · have := h.hi c (h.px c hp); omega
    · subst q
      rcases hb c e with k | k
      · exact (h.ox c k).2.2 rfl
      · omega
  · rcases e with e | e
    · exact hx e
    · rcases hb c e with k | k
      · exact hx (nx c k)
      · omega
end
set_option maxRecDepth 100000 in
set_option maxHeartbeats 2000000 in
theorem trim_calls {n : Nat} {X P : Nat → Prop} {w : World} {bk bj bd : Nat} {ring : Int} {K : Ke} {J : Jn} {D : Dk} {a4 : Option Addr} {c4 : Nat} {hv : Value} {rs : List RV} (h : KM n X P w bk bj bd ring K J D a4 c4 hv rs) (h0 : 0 < n) (hn : n ≤ w.heap.size)
    (s : Sta) (av : Option Addr) (nv cv : Nat) (ht : TabOK w) (hq : D.pend.length < 1000000) (hl : rs.length ≤ 1000000) :
    Calls Tryd.prog 76 #[.pointer (some ⟨bk, 0, none⟩), vL s.base s.bt (.slice av nv cv)] w fun e w' => e = .returned (.int .i64 (trimK K J D s).1) ∧ ∃ X' P' hv' rs', KM n X' P' w' bk bj bd ring (trimK K J D s).2.1 (trimK K J D s).2.2.1 (trimK K J D s).2.2.2 a4 c4 hv' rs' ∧ Kp X X' w w' := by
  obtain ⟨W1, hW1⟩ : ∃ W, w.alloc (.cells #[.int .u64 (s.base : Nat), .int .u64 (s.bt : Nat), .slice av nv cv] 66 (0, 0)) = W := ⟨_, rfl⟩
  have F1 : Hid (Fr (fun _ _ => True) w W1) := hW1 ▸ (Fr.refl _ _).alloc _
  have X1 : Hid (W1.heap[w.heap.size]? = some (.cells #[.int .u64 (s.base : Nat), .int .u64 (s.bt : Nat), .slice av nv cv] 66 (0, 0))) := hW1 ▸ heap_alloc_new w _
  have x0 := cell_mk (i := 0) X1.out rfl
  have M1 := Lib.hid (h.tt F1.out)
  have MW : Hid (∀ W, Fr (fun _ _ => True) W1 W → KM n X P W bk bj bd ring K J D a4 c4 hv rs) := fun W f => M1.out.tt f
  have HT := Lib.hid ht
  have HN := Lib.hid hn
  have HZ : Hid (¬ X 0) := h.z h0
  have y6 := M1.out.cells.2.2.2.2.2.2.1
  have eg : ∀ args w, (callFunc 113 args).run Tryd.prog w = .ok (.enter 113 args) w := enters_of Tryd.func113 (by kernel_rfl) rfl
  have IC := Lib.hid (indexfuncR W1 hv rs 113 #[.pointer (some ⟨w.heap.size, 0, none⟩)] (fun r => decide (s.base < r.at_)) eg M1.out.rowAt hl fun W r f => above_calls W r w.heap.size s.base (f.cell (fun _ _ => trivial) x0))
  have IX := idx_trim rs s.base
  rw [h.rc] at IX
  have TK : Hid (trimK K J D s = if trimN K.held s.base = 0 then (0, K, J, D) else ((jtrim J D (trimN K.held s.base : Nat)).1, { K with held := K.held.drop (trimN K.held s.base) }, (jtrim J D (trimN K.held s.base : Nat)).2)) := rfl
  have HLE : Hid (trimN K.held s.base ≤ rs.length) := by have := trimN_le K.held s.base; rw [← h.rc, List.length_map] at this; show _ ≤ _; rw [← h.rc]; exact this
  have HLL := Lib.hid hl
  have MM := fun {m : Nat} (hm : m ≤ rs.length) => (show (rs.drop m).map RV.rc = K.held.drop m by rw [List.map_drop, h.rc])
  have HMM := Lib.hid (fun m (hm : m ≤ rs.length) => MM hm)
  clear MM
  generalize trimK K J D s = R at TK ⊢
  generalize trimN K.held s.base = m at IX TK HLE
  generalize idxR (fun r => decide (s.base < r.at_)) rs = ix at IX IC
  obtain ⟨aw, cw, hvw⟩ := own_form h.own
  have HV := Lib.hid hvw
  obtain ⟨nr, hnr⟩ : ∃ k, rs.length = k := ⟨_, rfl⟩
  rw [hnr] at hvw IX HLE HLL HMM
  have HNR := Lib.hid hnr
  subst hvw
  -- the rest: m records go
  have DC : Hid (0 < m → ∀ W, Fr (fun _ _ => True) W1 W → Calls Tryd.prog 114 #[.slice aw nr cw, .int .i64 0, .int .i64 (m : Nat)] W fun e w' => ∃ a' c', e = .returned (.slice a' (nr - m) c') ∧ ∃ X', KM n X' P (w'.setCell ⟨bk, 6, none⟩ (.slice a' (nr - m) c')) bk bj bd ring { K with held := K.held.drop m } J D a4 c4 (.slice a' (nr - m) c') (rs.drop m) ∧ Kp X X' w (w'.setCell ⟨bk, 6, none⟩ (.slice a' (nr - m) c')) ∧ w'.frozen? ⟨bk, 6, none⟩ = false ∧ ∃ v, w'.cell? ⟨bk, 6, none⟩ = some v) := fun h0 W f => by
    have M2 := M1.out.tt f
    have o2 := M2.own
    rw [HNR.out] at o2
    refine (del_rc_any W n (.slice aw nr cw) nr 0 m 0 m rfl rfl _ o2 (fun u hu => by obtain ⟨x, _, hx⟩ := List.mem_flatMap.1 hu; exact encR_one x u hx) (Nat.zero_le _) HLE.out HLL.out).mono fun e w3 ⟨⟨v3, he, o3, b3⟩, f3⟩ => ?_
    rw [Nat.zero_mul, List.take_zero, List.nil_append, flat_drop encR_len, Nat.zero_add] at o3
    obtain ⟨a3, c3, rfl⟩ := own_form o3
    refine ⟨a3, c3, he, ?_⟩
    have hl3 : (rs.drop m).length = nr - m := by rw [List.length_drop, HNR.out]
    obtain ⟨X', q1, q2⟩ := M2.setH f3 (by rw [hl3]; exact o3) (fun c e => .inl (b3 ▸ e)) (fun r hr => (M2.dat r (List.mem_of_mem_drop hr)).fr2 f3 fun c o _ hc e => hc.1 (M2.ox c e).1) (Nat.le_trans HN.out (F1.out.trans f).size) (HMM.out m HLE.out)
    have t3 : w3.heap[bk]? = _ := f3.keep _ _ M2.top fun e => (M2.ox _ e).2.2 rfl
    unfold W7 at t3
    exact ⟨X', q1, (Kp.rfl' X (F1.out.trans f)).trans q2, frozen_mk t3, _, cell_mk (i := 6) t3 rfl⟩
  have JT : Hid (∀ X' W a' c', KM n X' P W bk bj bd ring { K with held := K.held.drop m } J D a4 c4 (.slice a' (nr - m) c') (rs.drop m) → Kp X X' w W → W.cell? ⟨bk, 1, none⟩ = some (.pointer (some ⟨bj, 0, none⟩)) ∧ Calls Tryd.prog 19 #[.pointer (some ⟨bj, 0, none⟩), .int .i64 (m : Nat)] W fun e w' => e = .returned (.int .i64 (jtrim J D (m : Nat)).1) ∧ ∃ X' P', KM n X' P' w' bk bj bd ring { K with held := K.held.drop m } (jtrim J D (m : Nat)).2.1 (jtrim J D (m : Nat)).2.2 a4 c4 (.slice a' (nr - m) c') (rs.drop m) ∧ Kp X X' w w') := fun X' W a' c' k1 k2 => by
    have hsz := Nat.le_trans HN.out k2.fr.size
    refine ⟨k1.cells.2.1, (st_trim k1.st h0 hsz (m : Nat) (HT.out.kp k2 HZ.out) hq).mono fun e w' ⟨he, P', st', kp'⟩ => ?_⟩
    obtain ⟨X'', q1, q2⟩ := k1.jd hsz st' kp'
    exact ⟨he, X'', P', q1, k2.trans q2⟩
  have I1 := F1.out
  have mI : (m : Int) ≤ nr := by have := HLE.out; omega
  unfold vL
  clear h ht hn h0 hl hnr HV M1
  rcases IX with ⟨rfl, hmr⟩ | rfl
  · subst hmr
    go_enter Tryd.func76, Tryd.ntmps76
    go_wp2_with fail
    try rw [hW1]
    (with_reducible refine IC.out.mono ?_)
    rintro e w2 ⟨rfl, f2⟩
    have I2 := Lib.hid f2
    clear f2 IC
    by_cases hm : m = 0
    · subst hm
      have RE : Hid (R = (0, K, J, D)) := Lib.hid (TK.out.trans (if_pos rfl))
      have MZ : Hid (KM n X P w2 bk bj bd ring K J D a4 c4 (.slice aw 0 cw) rs) := Lib.hid (MW.out w2 I2.out)
      have y6 := MZ.out.cells.2.2.2.2.2.2.1
      go_wp2
      go_ret
      rw [RE.out]
      exact ⟨rfl, X, P, _, _, MZ.out, Kp.rfl' X (F1.out.trans I2.out)⟩
    · have hm0 : ((m : Int) == 0) = false := by simp; omega
      have RE : Hid (R = ((jtrim J D (m : Nat)).1, { K with held := K.held.drop m }, (jtrim J D (m : Nat)).2)) := Lib.hid (TK.out.trans (if_neg hm))
      have D2 := Lib.hid (DC.out (by omega) w2 I2.out)
      have y6 := (MW.out w2 I2.out).cells.2.2.2.2.2.2.1
      clear DC TK
      generalize jtrim J D (m : Nat) = T at *
      go_wp2_with fail
      (with_reducible refine D2.out.mono ?_)
      rintro e w3 ⟨a', c', rfl, X', q1, q2, fz, vo, co⟩
      obtain ⟨j1, j2⟩ := JT.out X' _ a' c' q1 q2
      have J2 := Lib.hid j2
      clear q1 q2 j2 JT D2
      generalize m - m = nm at *
      generalize hW4 : w3.setCell ⟨bk, 6, none⟩ (.slice a' nm c') = W4 at *
      go_wp2_with fail
      try rw [hW4]
      (with_reducible refine J2.out.mono ?_)
      rintro e w5 ⟨rfl, X5, P5, q1, q2⟩
      have Q1 := Lib.hid q1
      have Q2 := Lib.hid q2
      clear q1 q2 J2
      go_wp2
      go_ret
      rw [RE.out]
      exact ⟨rfl, X5, P5, _, _, Q1.out, Q2.out⟩
  · have hneg : decide ((m : Int) < 0) = false := by simp
    go_enter Tryd.func76, Tryd.ntmps76
    go_wp2_with fail
    try rw [hW1]
    (with_reducible refine IC.out.mono ?_)
    rintro e w2 ⟨rfl, f2⟩
    have I2 := Lib.hid f2
    clear f2 IC
    by_cases hm : m = 0
    · subst hm
      have RE : Hid (R = (0, K, J, D)) := Lib.hid (TK.out.trans (if_pos rfl))
      have MZ : Hid (KM n X P w2 bk bj bd ring K J D a4 c4 (.slice aw nr cw) rs) := Lib.hid (MW.out w2 I2.out)
      have y6 := MZ.out.cells.2.2.2.2.2.2.1
      go_wp2
      go_ret
      rw [RE.out]
      exact ⟨rfl, X, P, _, _, MZ.out, Kp.rfl' X (F1.out.trans I2.out)⟩
    · have hm0 : ((m : Int) == 0) = false := by simp; omega
      have RE : Hid (R = ((jtrim J D (m : Nat)).1, { K with held := K.held.drop m }, (jtrim J D (m : Nat)).2)) := Lib.hid (TK.out.trans (if_neg hm))
      have D2 := Lib.hid (DC.out (by omega) w2 I2.out)
      have y6 := (MW.out w2 I2.out).cells.2.2.2.2.2.2.1
      clear DC TK
      generalize jtrim J D (m : Nat) = T at *
      go_wp2_with fail
      (with_reducible refine D2.out.mono ?_)
      rintro e w3 ⟨a', c', rfl, X', q1, q2, fz, vo, co⟩
      obtain ⟨j1, j2⟩ := JT.out X' _ a' c' q1 q2
      have J2 := Lib.hid j2
      clear q1 q2 j2 JT D2
      generalize nr - m = nm at *
      generalize hW4 : w3.setCell ⟨bk, 6, none⟩ (.slice a' nm c') = W4 at *
      go_wp2_with fail
      try rw [hW4]
      (with_reducible refine J2.out.mono ?_)
      rintro e w5 ⟨rfl, X5, P5, q1, q2⟩
      have Q1 := Lib.hid q1
      have Q2 := Lib.hid q2
      clear q1 q2 J2
      go_wp2
      go_ret
      rw [RE.out]
      exact ⟨rfl, X5, P5, _, _, Q1.out, Q2.out⟩

end Go.Proofs.YtcpbmempfeloaaaDoor
