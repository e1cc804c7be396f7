/- Texts of the proofs, part 29: what the functions that they reach do, walked; no conditions beyond those that each states. -/
import Derived.Test.YtlolfcnfcgegdaaGreatZzd789cc9ad8
set_option linter.unusedVariables false
set_option linter.unusedSimpArgs false
/- The service: Unpack. -/
namespace Go.Proofs.YtlolfcnfcgegdaaGreat
open Go.RowKit
set_option linter.unusedVariables false
set_option linter.unusedSimpArgs false

theorem TabN.to {k n : Nat} {w : World} {bt : Nat} {M : MT} (h : TabN k w n bt M) : ∃ Q, TO n Q w bt M ∧ ∀ c, Q c → k ≤ c := by
  obtain ⟨mv, c, R, ht, e, h1, h2, h3⟩ := h
  refine ⟨fun c => c = bt ∨ mv = some c ∨ ∃ r ∈ R, r.blk = c, ⟨⟨mv, c, R, ht, e, .inl rfl, fun b e => .inr (.inl e), fun r hr => .inr (.inr ⟨r, hr, rfl⟩)⟩, fun c hc => (ht.kind hc).1, fun c hc => (ht.kind hc).2⟩, fun c hc => ?_⟩
  rcases hc with rfl | hc | ⟨r, hr, rfl⟩
  · exact h1
  · exact h2 c hc
  · exact h3 r hr
/-- The state of bytes, and what is wrong with them. -/
def svU (b : List UInt8) : Int × MT × Lk :=
  if endL (bytR (bytR b false).2.1 (bytR b false).2.2).2.1 (bytR (bytR b false).2.1 (bytR b false).2.2).2.2 ≠ 0 then (endL (bytR (bytR b false).2.1 (bytR b false).2.2).2.1 (bytR (bytR b false).2.1 (bytR b false).2.2).2.2, [], Lk.new)
  else if (unpM (bytR b false).1).1 ≠ 0 then ((unpM (bytR b false).1).1, [], Lk.new)
  else ((lkU (bytR (bytR b false).2.1 (bytR b false).2.2).1).1, (unpM (bytR b false).1).2, (lkU (bytR (bytR b false).2.1 (bytR b false).2.2).1).2)
set_option maxRecDepth 100000 in
set_option maxHeartbeats 4000000 in
theorem svunpack_calls {K : Nat → Obj → Prop} {n : Nat} (w : World) (v : Value) (b : List UInt8) (hn : n ≤ w.heap.size) (hb : BytesAt K w v b) (hm : b.length ≤ 100000) (code : Int) (M : MT) (L : Lk) (hr : svU b = (code, M, L)) :
    Calls Tryz.prog 21 #[v] w fun e w' => ((code ≠ 0 ∧ e = .returned (.tuple #[.pointer none, .int .i64 code])) ∨ (code = 0 ∧ ∃ P Q bs b1 b2, e = .returned (.tuple #[.pointer (some ⟨bs, 0, none⟩), .int .i64 0]) ∧ SV n P Q w' bs b1 b2 M L ∧ ∀ c, U P Q c → w.heap.size ≤ c)) ∧ Fr (fun _ _ => True) w w' := by
  obtain ⟨av, cv, rfl⟩ := hb.form
  obtain ⟨W2, hW2⟩ : ∃ W, w.alloc (.cells #[.slice av b.length cv, .bool false] 146 (0, 0)) = W := ⟨_, rfl⟩
  have l0 : LR w W2 w.heap.size b false := hW2 ▸ LR.mk0 (Fr.refl _ _) hb
  have RC := Lib.hid (read_calls w av b.length cv)
  rw [hW2] at RC
  obtain ⟨one, r1, s1, e1⟩ : ∃ x r s, bytR b false = (x, r, s) := ⟨_, _, _, rfl⟩
  obtain ⟨two, r2, s2, e2⟩ : ∃ x r s, bytR r1 s1 = (x, r, s) := ⟨_, _, _, rfl⟩
  have g1 := bytR_len b false
  have g2 := bytR_len r1 s1
  rw [e1] at g1
  rw [e2] at g2
  dsimp only at g1 g2
  obtain ⟨E, hE⟩ : ∃ E, endL r2 s2 = E := ⟨_, rfl⟩
  obtain ⟨c1, M1, hu1⟩ : ∃ c M, unpM one = (c, M) := ⟨_, _, rfl⟩
  obtain ⟨c2, L2, hu2⟩ : ∃ c L, lkU two = (c, L) := ⟨_, _, rfl⟩
  have HRR : Hid ((code, M, L) = if E ≠ 0 then (E, [], Lk.new) else if c1 ≠ 0 then (c1, [], Lk.new) else (c2, M1, L2)) := by
    show _ = _
    rw [← hr]
    unfold svU
    rw [e1]
    dsimp only
    rw [e2]
    dsimp only
    rw [hE, hu1, hu2]
  have HN := Lib.hid hn
  have hok2 := @lkU_ok two
  rw [hu2] at hok2
  have HOK2 := Lib.hid hok2
  have hmc : one.length ≤ 100000 := by omega
  have hr1 : r1.length ≤ 100000 := by omega
  have hr2 : r2.length ≤ 100000 := by omega
  have htc : two.length ≤ 1000000 := by omega
  have C1 := Lib.hid (lr_bytes w W2 w.heap.size b false l0 (by omega) one r1 s1 e1)
  clear hm hb hW2 hr hn hok2 e1
  go_enter Tryz.func21, Tryz.ntmps21
  go_wp2_with fail
  (with_reducible refine RC.out.mono ?_)
  rintro e w1 ⟨rfl, rfl⟩
  go_wp2_with fail
  (with_reducible refine C1.out.mono ?_)
  rintro e w2 ⟨⟨a1, cp1, rfl, bb1⟩, l1, f1⟩
  have C2 := Lib.hid (lr_bytes w w2 w.heap.size r1 s1 l1 (by omega) two r2 s2 e2)
  have B1 := Lib.hid bb1
  clear l0 f1 bb1 C1 RC e2
  go_wp2_with fail
  (with_reducible refine C2.out.mono ?_)
  rintro e w3 ⟨⟨a2, cp2, rfl, bb2⟩, l2, f2⟩
  have B2 := Lib.hid bb2
  have B1' := Lib.hid ((B1.out.mono (K' := fun c _ => c ≠ w.heap.size) fun c o ho hc => by have := hc.1; have := l1.fr.size; obtain ⟨vv, hv⟩ := l1.at'; have := lt_of_some hv.top; obtain ⟨cs, fz, rfl⟩ := hc.2; rintro rfl; rw [hv.top] at ho; cases ho).fr f2)
  have EC := Lib.hid (lr_end w w3 w.heap.size r2 s2 l2 (by omega))
  rw [hE] at EC
  have F3 := Lib.hid l2.fr
  clear l1 l2 f2 bb2 C2 B1 hE g1 g2
  go_wp2_with fail
  (with_reducible refine EC.out.mono ?_)
  rintro e w4 ⟨rfl, rfl⟩
  clear EC
  by_cases hE0 : E = 0
  · have hE2 : (E != 0) = false := by simpa using hE0
    have HE0 := Lib.hid hE0
    clear hE0
    have C3 := Lib.hid (unpack_callsN n w3 (Nat.le_trans HN.out F3.out.size) _ one B1'.out hmc c1 M1 hu1)
    clear hu1
    go_wp2_with fail
    (with_reducible refine C3.out.mono ?_)
    rintro e w5 ⟨hx, f5⟩
    have F5 := Lib.hid (F3.out.trans f5)
    have B2' := Lib.hid (B2.out.tt f5)
    clear f5 C3 B2 B1'
    rcases hx with ⟨hc, rfl⟩ | ⟨hc, b1, rfl, htn⟩
    · have hc2 : (c1 != 0) = true := by simpa using hc
      have HR1 : Hid (code = c1) := by
        have := HRR.out
        rw [if_neg (fun x => x HE0.out), if_pos hc] at this
        exact (Prod.mk.inj this).1
      have HC := Lib.hid hc
      clear HRR hc
      go_wp2
      go_ret2
      rw [HR1.out]
      exact ⟨.inl ⟨HC.out, rfl⟩, F5.out⟩
    · obtain ⟨Q, hto, hq⟩ := htn.to
      have HTO := Lib.hid hto
      have HQ := Lib.hid hq
      have HR2 : Hid ((code, M, L) = (c2, M1, L2)) := by
        have := HRR.out
        rw [if_neg (fun x => x HE0.out), if_neg (fun x => x hc)] at this
        exact this
      clear HRR htn hto hq
      subst hc
      have C4 := Lib.hid (lkunpack_calls w5 _ two B2'.out htc)
      rw [hu2] at C4
      dsimp only at C4
      clear hu2 B2'
      go_wp2_with fail
      (with_reducible refine C4.out.mono ?_)
      rintro e w6 ⟨hx, f6⟩
      have F6 := Lib.hid (F5.out.trans f6)
      have F56 := Lib.hid f6
      clear f6 C4
      rcases hx with ⟨hc, rfl⟩ | ⟨hc, b2, hv, wv, rfl, hut⟩
      · have hc2 : (c2 != 0) = true := by simpa using hc
        have HR1 : Hid (code = c2) := (Prod.mk.inj HR2.out).1
        have HC := Lib.hid hc
        clear HR2 hc
        go_wp2
        go_ret2
        rw [HR1.out]
        exact ⟨.inl ⟨HC.out, rfl⟩, F6.out⟩
      · subst hc
        obtain ⟨hlt, hp⟩ := hut.lte (n := n) (Nat.le_trans HN.out F5.out.size) (HOK2.out rfl)
        obtain ⟨W7, hW7⟩ : ∃ W, w6.alloc (.cells #[.pointer (some ⟨b1, 0, none⟩), .pointer (some ⟨b2, 0, none⟩)] 68 (0, 0)) = W := ⟨_, rfl⟩
        have F7 : Fr (fun _ _ => True) w6 W7 := hW7 ▸ (Fr.refl _ _).alloc _
        have X7 : W7.heap[w6.heap.size]? = some (.cells #[.pointer (some ⟨b1, 0, none⟩), .pointer (some ⟨b2, 0, none⟩)] 68 (0, 0)) := hW7 ▸ heap_alloc_new w6 _
        have SVH := Lib.hid (⟨X7, (HTO.out.fr F56.out).fr F7, hlt.tt F7⟩ : SV n (PU b2 hv) Q W7 w6.heap.size b1 b2 M1 L2)
        have HUQ : Hid (∀ c, U (PU b2 hv) Q c → w.heap.size ≤ c) := Lib.hid fun c hc => by
          rcases hc with hc | hc
          · exact Nat.le_trans F5.out.size (hp c hc)
          · exact Nat.le_trans F3.out.size (HQ.out c hc)
        have FE := Lib.hid (F6.out.trans F7)
        obtain ⟨e1, e2, e3⟩ : code = 0 ∧ M = M1 ∧ L = L2 := by
          have := HR2.out
          simp only [Prod.mk.injEq] at this
          exact this
        have HC0 := Lib.hid e1
        subst e2 e3
        clear e1 hut hlt hp F7 X7 HR2 HQ HTO F56
        go_wp2
        go_ret2
        try rw [hW7]
        exact ⟨.inr ⟨HC0.out, _, _, _, _, _, rfl, SVH.out, HUQ.out⟩, FE.out⟩
  · have hE2 : (E != 0) = true := by simpa using hE0
    have HR1 : Hid (code = E) := by
      have := HRR.out
      rw [if_pos hE0] at this
      exact (Prod.mk.inj this).1
    have HC := Lib.hid hE0
    clear HRR hE0
    go_wp2
    go_ret2
    rw [HR1.out]
    exact ⟨.inl ⟨HC.out, rfl⟩, F3.out⟩
/-- What is packed is unpacked. -/
theorem sv_round {M : MT} {L : Lk} (hM : MS M) (hL : L.ok) (h2 : L.ok2) : svU (svB M L) = (0, sortM M, L) := by
  have hl1 : (packL (sortM M)).length ≤ 1000 := by
    have hr : ∀ x ∈ sortM M, (entB x).length ≤ 16 := fun x hx => by
      have := hM.mf.rep x ((sortM_mem hM.nd x).1 hx)
      unfold entB byt
      simp [le_length]
      omega
    have : ∀ l : MT, (∀ x ∈ l, (entB x).length ≤ 16) → ((l.map entB).flatten).length ≤ 16 * l.length := by
      intro l
      induction l with
      | nil => intro _; simp
      | cons x l ih =>
        intro h
        have h1 := h x (by simp)
        have h2 := ih fun y hy => h y (by simp [hy])
        simp only [List.map_cons, List.flatten_cons, List.length_append, List.length_cons]
        omega
    have h1 := this (sortM M) hr
    have h6 : (sortM M).length ≤ 6 := by rw [sortM_len]; exact hM.mf.few
    unfold packL
    rw [List.length_append, le_length]
    omega
  have hl2 : (lkB L).length ≤ 1000 := by have := lkK_len hL 4; show (lkK L 4).length ≤ _; omega
  have e1 : bytR (svB M L) false = (packL (sortM M), byt (lkB L), false) := bytR_byt hl1
  have e2 : bytR (byt (lkB L)) false = (lkB L, [], false) := by
    have := bytR_byt (r := []) hl2
    rwa [List.append_nil] at this
  unfold svU
  rw [e1]
  dsimp only
  rw [e2]
  dsimp only
  rw [hM.unp, lk_pack hL h2]
  rfl
end Go.Proofs.YtlolfcnfcgegdaaGreat
/- The document's locks' table, in memory (printed by doctable19.py). -/
namespace Go.Proofs.YtlolfcnfcgegdaaGreat
open Go.RowKit
set_option linter.unusedVariables false
set_option linter.unusedSimpArgs false

theorem RR.frk {W0 w w' : World} {br : Nat} {bs : List UInt8} {sh : Bool} {K : Nat → Obj → Prop} (h : RR W0 w br bs sh) (hf : Fr K w w') (hk : ∀ c o, c = br ∨ c < W0.heap.size → K c o) : RR W0 w' br bs sh := by
  obtain ⟨a, cap, full, i, h⟩ := h
  exact ⟨a, cap, full, i, h.new, hf.keep _ _ h.top (hk _ _ (.inl rfl)), h.bytes, h.le, h.big, h.rest, old_tt h.fr hf fun b o hb => hk b o (.inr hb)⟩
/-- A table that is built: all its rows are its own. -/
structure DU (n : Nat) (w : World) (bt : Nat) (hv wv : Nat → Value) (L : Lk) : Prop where
  top : w.heap[bt]? = some (.cells #[.int .u64 (L.now : Nat), .int .u64 (L.last : Nat), hv 0, hv 1, hv 2, hv 3, wv 0, wv 1, wv 2, wv 3] 77 (0, 0))
  hr : ∀ i, i < 4 → w.ownsRow n 112 4 (hv i) (L.rg i).hs.length ((L.rg i).hs.flatMap encH)
  wr : ∀ i, i < 4 → w.ownsRow n 114 2 (wv i) (L.rg i).ws.length ((L.rg i).ws.flatMap encW)
  sep : ∀ i j, i < 4 → j < 4 → i ≠ j → ∀ c, (hv i).ownBlock = some c → (hv j).ownBlock ≠ some c
  sepw : ∀ i j, i < 4 → j < 4 → i ≠ j → ∀ c, (wv i).ownBlock = some c → (wv j).ownBlock ≠ some c
  four : L.rs.length = 4
  le : n ≤ bt
section
variable {n : Nat} {w w' : World} {bt : Nat} {hv wv : Nat → Value} {L : Lk}
def KTD (n bt : Nat) (c : Nat) (o : Obj) : Prop := n ≤ c ∧ (c = bt ∨ (∃ cs fz, o = .cells cs 112 fz) ∨ ∃ cs fz, o = .cells cs 114 fz)
theorem DU.frk {K : Nat → Obj → Prop} (h : DU n w bt hv wv L) (f : Fr K w w') (hk : ∀ c o, w.heap[c]? = some o → KTD n bt c o → K c o) : DU n w' bt hv wv L :=
  ⟨f.keep _ _ h.top (hk _ _ h.top ⟨h.le, .inl rfl⟩), fun i hi => ownsRow_fr (h.hr i hi) f fun b o e ho => by
    obtain ⟨cur, hc⟩ := own_tag (h.hr i hi) e
    exact hk _ _ ho ⟨own_above (h.hr i hi) e, .inr (.inl ⟨cur, _, Option.some.inj (ho.symm.trans hc)⟩)⟩, fun i hi => ownsRow_fr (h.wr i hi) f fun b o e ho => by
    obtain ⟨cur, hc⟩ := own_tag (h.wr i hi) e
    exact hk _ _ ho ⟨own_above (h.wr i hi) e, .inr (.inr ⟨cur, _, Option.some.inj (ho.symm.trans hc)⟩)⟩, h.sep, h.sepw, h.four, h.le⟩
theorem DU.tt (h : DU n w bt hv wv L) (f : Fr (fun _ _ => True) w w') : DU n w' bt hv wv L := h.frk f fun _ _ _ _ => trivial
/-- A block of another type may be written. -/
theorem DU.other (h : DU n w bt hv wv L) {m : Nat} {cs : Array Value} {t : TypeId} {fz : Nat × Nat} (hm : w.heap[m]? = some (.cells cs t fz)) (ht : t ≠ 77 ∧ t ≠ 112 ∧ t ≠ 114) : ∀ c o, w.heap[c]? = some o → KTD n bt c o → c ≠ m := fun c o ho hk e => by
  subst e
  rw [hm] at ho
  cases ho
  rcases hk.2 with rfl | ⟨_, _, q⟩ | ⟨_, _, q⟩
  · rw [h.top] at hm; cases hm; exact ht.1 rfl
  · cases q; exact ht.2.1 rfl
  · cases q; exact ht.2.2 rfl
theorem DU.hne (h : DU n w bt hv wv L) {i : Nat} (hi : i < 4) : (hv i).ownBlock ≠ some bt := fun e => by
  obtain ⟨cur, hc⟩ := own_tag (h.hr i hi) e
  rw [h.top] at hc
  cases hc
theorem DU.wne (h : DU n w bt hv wv L) {i : Nat} (hi : i < 4) : (wv i).ownBlock ≠ some bt := fun e => by
  obtain ⟨cur, hc⟩ := own_tag (h.wr i hi) e
  rw [h.top] at hc
  cases hc
theorem DU.hw (h : DU n w bt hv wv L) {i j : Nat} (hi : i < 4) (hj : j < 4) : ∀ c, (hv i).ownBlock = some c → (wv j).ownBlock ≠ some c := fun c e => own_ne (h.hr i hi) (h.wr j hj) (by decide) e |> fun q e2 => q e2 rfl
theorem DU.cells (h : DU n w bt hv wv L) (W : World) (f : Fr (fun _ _ => True) w W) : W.cell? ⟨bt, 1, none⟩ = some (.int .u64 (L.last : Nat)) ∧ ∀ i, i < 4 → W.cell? ⟨bt, 2 + i, none⟩ = some (hv i) ∧ W.cell? ⟨bt, 6 + i, none⟩ = some (wv i) ∧ W.frozen? ⟨bt, 2 + i, none⟩ = false ∧ W.frozen? ⟨bt, 6 + i, none⟩ = false := by
  have t := f.keep _ _ h.top trivial
  refine ⟨cell_mk t rfl, fun i hi => ?_⟩
  match i, hi with
  | 0, _ => exact ⟨cell_mk t rfl, cell_mk t rfl, frozen_mk t, frozen_mk t⟩
  | 1, _ => exact ⟨cell_mk t rfl, cell_mk t rfl, frozen_mk t, frozen_mk t⟩
  | 2, _ => exact ⟨cell_mk t rfl, cell_mk t rfl, frozen_mk t, frozen_mk t⟩
  | 3, _ => exact ⟨cell_mk t rfl, cell_mk t rfl, frozen_mk t, frozen_mk t⟩
/-- A region's holds are written. -/
theorem DU.setH (h : DU n w bt hv wv L) {w1 : World} {i : Nat} (hi : i < 4) (v : Value) (hs : List Ho) (hn : n ≤ w.heap.size) (f : Fr (fun c _ => (hv i).ownBlock ≠ some c) w w1) (o : w1.ownsRow 0 112 4 v hs.length (hs.flatMap encH)) (nx : OwnNext w (hv i) v) :
    w1.cell? ⟨bt, 2 + i, none⟩ = some (hv i) ∧ w1.frozen? ⟨bt, 2 + i, none⟩ = false ∧ DU n (w1.setCell ⟨bt, 2 + i, none⟩ v) bt (fun j => if j = i then v else hv j) wv (L.put i ⟨hs, (L.rg i).ws⟩) ∧ Fr (fun c _ => (hv i).ownBlock ≠ some c ∧ c ≠ bt) w (w1.setCell ⟨bt, 2 + i, none⟩ v) := by
  have nb := h.hne hi
  have t1 := f.keep _ _ h.top nb
  have F : Fr (fun c _ => (hv i).ownBlock ≠ some c ∧ c ≠ bt) w (w1.setCell ⟨bt, 2 + i, none⟩ v) := (f.mono fun _ _ h => h.1).setCell (fun _ _ h => h.2 rfl) _
  have vb : v.ownBlock ≠ some bt := nx.ne nb (lt_of_some h.top)
  have hc1 : w1.cell? ⟨bt, 2 + i, none⟩ = some (hv i) := by
    match i, hi with
    | 0, _ => exact cell_mk t1 rfl
    | 1, _ => exact cell_mk t1 rfl
    | 2, _ => exact cell_mk t1 rfl
    | 3, _ => exact cell_mk t1 rfl
  have vn : ∀ k, v.ownBlock = some k → n ≤ k := fun k e => by
    rcases nx with q | ⟨k', q, hk⟩
    · exact own_above (h.hr i hi) (q ▸ e)
    · rw [q] at e; cases e; omega
  have hlen : i < L.rs.length := by rw [h.four]; exact hi
  refine ⟨hc1, frozen_mk t1, ⟨?_, fun j hj => ?_, fun j hj => ?_, fun j k hj hk hjk c e => ?_, h.sepw, by rw [put_len]; exact h.four, h.le⟩, F⟩
  · have := heap_setCell_same (o := 2 + i) t1 v
    rw [this]
    match i, hi with
    | 0, _ => rfl
    | 1, _ => rfl
    | 2, _ => rfl
    | 3, _ => rfl
  · rw [put_rg hlen]
    split
    · exact ownsRow_setCell_ne (own_basew o vn) vb _
    · rename_i e
      exact ownsRow_fr (h.hr j hj) F fun b o eb _ => ⟨fun q => h.sep i j hi hj (fun x => e x.symm) b q eb, fun q => h.hne hj (q ▸ eb)⟩
  · rw [put_rg hlen]
    have hwj : (if j = i then (⟨hs, (L.rg i).ws⟩ : Rgn) else L.rg j).ws = (L.rg j).ws := by split <;> (try rename_i e; try subst e) <;> rfl
    rw [hwj]
    exact ownsRow_fr (h.wr j hj) F fun b o eb _ => ⟨fun q => h.hw hi hj b q eb, fun q => h.wne hj (q ▸ eb)⟩
  · have hin : ∀ m, m < 4 → m ≠ i → ∀ c, v.ownBlock = some c → (hv m).ownBlock ≠ some c := fun m hm hmi c e q => by
      rcases nx with x | ⟨k', x, hk⟩
      · exact h.sep i m hi hm (fun y => hmi y.symm) c (x ▸ e) q
      · rw [x] at e
        cases e
        obtain ⟨cur, hc⟩ := own_tag (h.hr m hm) q
        have := lt_of_some hc
        omega
    try dsimp only at e ⊢
    by_cases e1 : j = i
    · rw [if_pos e1] at e
      rw [if_neg (fun x => hjk (e1.trans x.symm))]
      exact hin k hk (fun x => hjk (e1.trans x.symm)) c e
    · rw [if_neg e1] at e
      by_cases e2 : k = i
      · rw [if_pos e2]
        exact fun q => hin j hj e1 c q e
      · rw [if_neg e2]
        exact h.sep j k hj hk hjk c e
/-- A region's wants are written. -/
theorem DU.setW (h : DU n w bt hv wv L) {w1 : World} {i : Nat} (hi : i < 4) (v : Value) (ws : List Wa) (hn : n ≤ w.heap.size) (f : Fr (fun c _ => (wv i).ownBlock ≠ some c) w w1) (o : w1.ownsRow 0 114 2 v ws.length (ws.flatMap encW)) (nx : OwnNext w (wv i) v) :
    w1.cell? ⟨bt, 6 + i, none⟩ = some (wv i) ∧ w1.frozen? ⟨bt, 6 + i, none⟩ = false ∧ DU n (w1.setCell ⟨bt, 6 + i, none⟩ v) bt hv (fun j => if j = i then v else wv j) (L.put i ⟨(L.rg i).hs, ws⟩) ∧ Fr (fun c _ => (wv i).ownBlock ≠ some c ∧ c ≠ bt) w (w1.setCell ⟨bt, 6 + i, none⟩ v) := by
  have nb := h.wne hi
  have t1 := f.keep _ _ h.top nb
  have F : Fr (fun c _ => (wv i).ownBlock ≠ some c ∧ c ≠ bt) w (w1.setCell ⟨bt, 6 + i, none⟩ v) := (f.mono fun _ _ h => h.1).setCell (fun _ _ h => h.2 rfl) _
  have vb : v.ownBlock ≠ some bt := nx.ne nb (lt_of_some h.top)
  have hc1 : w1.cell? ⟨bt, 6 + i, none⟩ = some (wv i) := by
    match i, hi with
    | 0, _ => exact cell_mk t1 rfl
    | 1, _ => exact cell_mk t1 rfl
    | 2, _ => exact cell_mk t1 rfl
    | 3, _ => exact cell_mk t1 rfl
  have vn : ∀ k, v.ownBlock = some k → n ≤ k := fun k e => by
    rcases nx with q | ⟨k', q, hk⟩
    · exact own_above (h.wr i hi) (q ▸ e)
    · rw [q] at e; cases e; omega
  have hlen : i < L.rs.length := by rw [h.four]; exact hi
  refine ⟨hc1, frozen_mk t1, ⟨?_, fun j hj => ?_, fun j hj => ?_, h.sep, fun j k hj hk hjk c e => ?_, by rw [put_len]; exact h.four, h.le⟩, F⟩
  · have := heap_setCell_same (o := 6 + i) t1 v
    rw [this]
    match i, hi with
    | 0, _ => rfl
    | 1, _ => rfl
    | 2, _ => rfl
    | 3, _ => rfl
  · rw [put_rg hlen]
    have hwj : (if j = i then (⟨(L.rg i).hs, ws⟩ : Rgn) else L.rg j).hs = (L.rg j).hs := by split <;> (try rename_i e; try subst e) <;> rfl
    rw [hwj]
    exact ownsRow_fr (h.hr j hj) F fun b o eb _ => ⟨fun q => h.hw hj hi b eb q, fun q => h.hne hj (q ▸ eb)⟩
  · rw [put_rg hlen]
    split
    · exact ownsRow_setCell_ne (own_basew o vn) vb _
    · rename_i e
      exact ownsRow_fr (h.wr j hj) F fun b o eb _ => ⟨fun q => h.sepw i j hi hj (fun x => e x.symm) b q eb, fun q => h.wne hj (q ▸ eb)⟩
  · have hin : ∀ m, m < 4 → m ≠ i → ∀ c, v.ownBlock = some c → (wv m).ownBlock ≠ some c := fun m hm hmi c e q => by
      rcases nx with x | ⟨k', x, hk⟩
      · exact h.sepw i m hi hm (fun y => hmi y.symm) c (x ▸ e) q
      · rw [x] at e
        cases e
        obtain ⟨cur, hc⟩ := own_tag (h.wr m hm) q
        have := lt_of_some hc
        omega
    try dsimp only at e ⊢
    by_cases e1 : j = i
    · rw [if_pos e1] at e
      rw [if_neg (fun x => hjk (e1.trans x.symm))]
      exact hin k hk (fun x => hjk (e1.trans x.symm)) c e
    · rw [if_neg e1] at e
      by_cases e2 : k = i
      · rw [if_pos e2]
        exact fun q => hin j hj e1 c q e
      · rw [if_neg e2]
        exact h.sepw j k hj hk hjk c e
end
/-- What Unpack has at hand: the reader, the table, the tokens. -/
structure DUU (W0 w : World) (br bt : Nat) (hv wv : Nat → Value) (p : Rs) (tv : Value) (tk : List Int) (L : Lk) : Prop where
  lr : RR W0 w br p.1 p.2
  ut : DU W0.heap.size w bt hv wv L
  tk : RowU w W0.heap.size tv tk
section
variable {W0 w w' : World} {br bt : Nat} {hv wv : Nat → Value} {p : Rs} {tv : Value} {tk : List Int} {L : Lk}
theorem RR.top {bs : List UInt8} {sh : Bool} (h : RR W0 w br bs sh) : ∃ cs, w.heap[br]? = some (.cells cs 125 (0, 0)) := by
  obtain ⟨a, cap, full, i, h⟩ := h
  exact ⟨_, h.top⟩
theorem DUU.tt (h : DUU W0 w br bt hv wv p tv tk L) (f : Fr (fun _ _ => True) w w') : DUU W0 w' br bt hv wv p tv tk L := ⟨h.lr.tt f, h.ut.tt f, h.tk.tt f⟩
theorem DUU.number (h : DUU W0 w br bt hv wv p tv tk L) {p' : Rs} (l : RR W0 w' br p'.1 p'.2) (f : Fr (fun c _ => c ≠ br) w w') : DUU W0 w' br bt hv wv p' tv tk L := by
  obtain ⟨cs, ht⟩ := h.lr.top
  refine ⟨l, h.ut.frk f (h.ut.other ht (by decide)), ownsRow_fr h.tk f fun b o e ho q => ?_⟩
  obtain ⟨cur, hc⟩ := own_tag h.tk e
  rw [q, ht] at hc
  cases hc
theorem DUU.tokens (h : DUU W0 w br bt hv wv p tv tk L) {tv' : Value} {tk' : List Int} (r : RowU w' W0.heap.size tv' tk') (f : Fr (fun c _ => tv.ownBlock ≠ some c) w w') : DUU W0 w' br bt hv wv p tv' tk' L := by
  obtain ⟨cs, ht⟩ := h.lr.top
  refine ⟨h.lr.frk f fun c o hc e => ?_, h.ut.frk f fun c o ho hk e => ?_, r⟩
  · rcases hc with rfl | hc
    · obtain ⟨cur, q⟩ := own_tag h.tk e
      rw [ht] at q
      cases q
    · have := own_above h.tk e; omega
  · obtain ⟨cur, q⟩ := own_tag h.tk e
    exact h.ut.other q (by decide) c o ho hk rfl
theorem DUU.setH (h : DUU W0 w br bt hv wv p tv tk L) {w1 : World} {i : Nat} (hi : i < 4) (v : Value) (hs : List Ho) (f : Fr (fun c _ => (hv i).ownBlock ≠ some c) w w1) (o : w1.ownsRow 0 112 4 v hs.length (hs.flatMap encH)) (nx : OwnNext w (hv i) v) :
    w1.cell? ⟨bt, 2 + i, none⟩ = some (hv i) ∧ w1.frozen? ⟨bt, 2 + i, none⟩ = false ∧ DUU W0 (w1.setCell ⟨bt, 2 + i, none⟩ v) br bt (fun j => if j = i then v else hv j) wv p tv tk (L.put i ⟨hs, (L.rg i).ws⟩) := by
  obtain ⟨c1, c2, u, F⟩ := h.ut.setH hi v hs h.lr.fr.size f o nx
  obtain ⟨cs, ht⟩ := h.lr.top
  refine ⟨c1, c2, h.lr.frk F fun c o hc => ?_, u, ownsRow_fr h.tk F fun b o e ho => ?_⟩
  · rcases hc with rfl | hc
    · refine ⟨fun e => ?_, fun e => ?_⟩
      · obtain ⟨cur, q⟩ := own_tag (h.ut.hr i hi) e; rw [ht] at q; cases q
      · rw [e, h.ut.top] at ht; cases ht
    · refine ⟨fun e => ?_, fun e => ?_⟩
      · have := own_above (h.ut.hr i hi) e; omega
      · have := h.ut.le; omega
  · obtain ⟨cur, q⟩ := own_tag h.tk e
    refine ⟨fun e2 => ?_, fun e2 => ?_⟩
    · obtain ⟨cur2, q2⟩ := own_tag (h.ut.hr i hi) e2; rw [q] at q2; cases q2
    · rw [e2, h.ut.top] at q; cases q
theorem DUU.setW (h : DUU W0 w br bt hv wv p tv tk L) {w1 : World} {i : Nat} (hi : i < 4) (v : Value) (ws : List Wa) (f : Fr (fun c _ => (wv i).ownBlock ≠ some c) w w1) (o : w1.ownsRow 0 114 2 v ws.length (ws.flatMap encW)) (nx : OwnNext w (wv i) v) :
    w1.cell? ⟨bt, 6 + i, none⟩ = some (wv i) ∧ w1.frozen? ⟨bt, 6 + i, none⟩ = false ∧ DUU W0 (w1.setCell ⟨bt, 6 + i, none⟩ v) br bt hv (fun j => if j = i then v else wv j) p tv tk (L.put i ⟨(L.rg i).hs, ws⟩) := by
  obtain ⟨c1, c2, u, F⟩ := h.ut.setW hi v ws h.lr.fr.size f o nx
  obtain ⟨cs, ht⟩ := h.lr.top
  refine ⟨c1, c2, h.lr.frk F fun c o hc => ?_, u, ownsRow_fr h.tk F fun b o e ho => ?_⟩
  · rcases hc with rfl | hc
    · refine ⟨fun e => ?_, fun e => ?_⟩
      · obtain ⟨cur, q⟩ := own_tag (h.ut.wr i hi) e; rw [ht] at q; cases q
      · rw [e, h.ut.top] at ht; cases ht
    · refine ⟨fun e => ?_, fun e => ?_⟩
      · have := own_above (h.ut.wr i hi) e; omega
      · have := h.ut.le; omega
  · obtain ⟨cur, q⟩ := own_tag h.tk e
    refine ⟨fun e2 => ?_, fun e2 => ?_⟩
    · obtain ⟨cur2, q2⟩ := own_tag (h.ut.wr i hi) e2; rw [q] at q2; cases q2
    · rw [e2, h.ut.top] at q; cases q
end
end Go.Proofs.YtlolfcnfcgegdaaGreat
/- The document's locks' Unpack, plainly: why there is no table is the same. -/
namespace Go.Proofs.YtlolfcnfcgegdaaGreat
open Go.RowKit
set_option linter.unusedVariables false
set_option linter.unusedSimpArgs false

def fH (last : Nat) (r : Rgn) (j : Nat) : Bool := decide ((r.hs.getD j default).m = 1 ∨ (r.hs.getD j default).m = 2) && !(decide ((r.hs.getD j default).m = 2) && decide (1 < r.hs.length)) && decide (0 < (r.hs.getD j default).t) && decide ((r.hs.getD j default).t ≤ last)
def fW (r : Rgn) (j : Nat) : Bool := decide ((r.ws.getD j default).m = 1 ∨ (r.ws.getD j default).m = 2)
def whoR (r : Rgn) : List Int := r.hs.map cI ++ r.ws.map cW
def fC (l : List Int) (j : Nat) : Bool := !(hasI (l.take j) (l.getD j default)) && decide (l.getD j default ≤ 15)
def fineD (last : Nat) (r : Rgn) : Bool := decide (r.hs.length ≤ 4) && decide (r.ws.length ≤ 4) && (List.range r.hs.length).all (fH last r) && (List.range r.ws.length).all (fW r) && (List.range (whoR r).length).all (fC (whoR r))
theorem fine_iff {last : Nat} {r : Rgn} : fineD last r = true ↔ checkM r = true ∧ ∀ h ∈ r.hs, 0 < h.t ∧ h.t ≤ last := by
  have hl : (whoR r).length = r.hs.length + r.ws.length := by unfold whoR; simp
  have eH : ∀ j (hj : j < r.hs.length), (whoR r).getD j default = cI r.hs[j] ∧ (whoR r).take j = (r.hs.take j).map cI := fun j hj => by
    rw [getD_at (by omega)]
    unfold whoR
    exact ⟨by rw [List.getElem_append_left (by simpa using hj)]; simp, by rw [List.take_append_of_le_length (by simp; omega), List.map_take]⟩
  have eW : ∀ j (hj : j < r.ws.length), (whoR r).getD (r.hs.length + j) default = cW r.ws[j] ∧ (whoR r).take (r.hs.length + j) = r.hs.map cI ++ (r.ws.take j).map cW := fun j hj => by
    rw [getD_at (by omega)]
    unfold whoR
    refine ⟨by rw [List.getElem_append_right (by simp)]; simp, ?_⟩
    rw [List.take_append, List.take_of_length_le (by simp), List.length_map, List.map_take]
    congr 2
    omega
  constructor
  · intro h
    unfold fineD at h
    simp only [Bool.and_eq_true, decide_eq_true_eq, List.all_eq_true, List.mem_range] at h
    obtain ⟨⟨⟨⟨h4, w4⟩, hh⟩, hw⟩, hc⟩ := h
    refine ⟨check_yes h4 w4 (fun j hj => ?_) fun j hj => ?_, fun x hx => ?_⟩
    · have a := hh j hj
      have b := hc j (by omega)
      unfold fH at a
      unfold fC at b
      rw [(eH j hj).1, (eH j hj).2] at b
      rw [getD_at hj] at a
      unfold okH
      rw [getD_at hj]
      simp only [Bool.and_eq_true, decide_eq_true_eq, Bool.not_eq_true'] at a b ⊢
      refine ⟨⟨⟨by have := b.2; unfold cI at this; omega, a.1.1.1⟩, b.1⟩, ?_⟩
      rw [Bool.and_comm]
      exact a.1.1.2
    · have a := hw j hj
      have b := hc (r.hs.length + j) (by omega)
      unfold fW at a
      unfold fC at b
      rw [(eW j hj).1, (eW j hj).2] at b
      rw [getD_at hj] at a
      unfold okW
      rw [getD_at hj]
      simp only [Bool.and_eq_true, decide_eq_true_eq, Bool.not_eq_true'] at a b ⊢
      exact ⟨⟨by have := b.2; unfold cW at this; omega, a⟩, b.1⟩
    · obtain ⟨j, hj, rfl⟩ := List.mem_iff_getElem.1 hx
      have a := hh j hj
      unfold fH at a
      rw [getD_at hj] at a
      simp only [Bool.and_eq_true, decide_eq_true_eq] at a
      exact ⟨a.1.2, a.2⟩
  · rintro ⟨h, ht⟩
    unfold checkM at h
    simp only [Bool.and_eq_true, decide_eq_true_eq, List.all_eq_true, List.mem_range] at h
    obtain ⟨⟨⟨h4, w4⟩, hh⟩, hw⟩ := h
    unfold fineD
    simp only [Bool.and_eq_true, decide_eq_true_eq, List.all_eq_true, List.mem_range]
    refine ⟨⟨⟨⟨h4, w4⟩, fun j hj => ?_⟩, fun j hj => ?_⟩, fun j hj => ?_⟩
    · have a := hh j hj
      have b := ht _ (List.getElem_mem hj)
      unfold okH at a
      unfold fH
      rw [getD_at hj] at a ⊢
      simp only [Bool.and_eq_true, decide_eq_true_eq, Bool.not_eq_true'] at a ⊢
      refine ⟨⟨⟨a.1.1.2, ?_⟩, b.1⟩, b.2⟩
      rw [Bool.and_comm]
      exact a.2
    · have a := hw j hj
      unfold okW at a
      unfold fW
      rw [getD_at hj] at a ⊢
      simp only [Bool.and_eq_true, decide_eq_true_eq] at a ⊢
      exact a.1.2
    · unfold fC
      simp only [Bool.and_eq_true, decide_eq_true_eq, Bool.not_eq_true']
      by_cases q : j < r.hs.length
      · rw [(eH j q).1, (eH j q).2]
        have a := hh j q
        unfold okH at a
        rw [getD_at q] at a
        simp only [Bool.and_eq_true, decide_eq_true_eq, Bool.not_eq_true'] at a
        exact ⟨a.1.2, by have := a.1.1.1; unfold cI; omega⟩
      · obtain ⟨i, rfl⟩ : ∃ i, j = r.hs.length + i := ⟨j - r.hs.length, by omega⟩
        have hi : i < r.ws.length := by omega
        rw [(eW i hi).1, (eW i hi).2]
        have a := hw i hi
        unfold okW at a
        rw [getD_at hi] at a
        simp only [Bool.and_eq_true, decide_eq_true_eq, Bool.not_eq_true'] at a
        exact ⟨a.2, by have := a.1.1; unfold cW; omega⟩
theorem nodup_snoc {l : List Int} {x : Int} : (l ++ [x]).Nodup ↔ l.Nodup ∧ x ∉ l := by
  rw [List.nodup_append]
  constructor
  · rintro ⟨a, _, c⟩
    exact ⟨a, fun q => c x q x (by simp) rfl⟩
  · rintro ⟨a, b⟩
    exact ⟨a, by simp, fun y hy z hz e => b (by rw [List.mem_singleton] at hz; rw [← hz, ← e]; exact hy)⟩
theorem hsU_iff (last : Nat) (u : UB) (hu : u.hs = []) : ∀ i, ((hsU last u i).ok = true ∧ u.tk.Nodup) ↔ (u.ok = true ∧ (∀ h ∈ (hsU last u i).hs, 0 < h.t ∧ h.t ≤ last) ∧ (hsU last u i).tk.Nodup)
  | 0 => by
    show (u.ok = true ∧ u.tk.Nodup) ↔ (u.ok = true ∧ (∀ h ∈ u.hs, _) ∧ u.tk.Nodup)
    rw [hu]
    exact ⟨fun ⟨a, b⟩ => ⟨a, (fun h hh => by cases hh), b⟩, fun ⟨a, _, b⟩ => ⟨a, b⟩⟩
  | i + 1 => by
    have ih := hsU_iff last u hu i
    show (((hsU last u i).ok && okT last (hsU last u i).tk (holdU (hsU last u i).p).1.t) = true ∧ u.tk.Nodup) ↔ (u.ok = true ∧ (∀ h ∈ (hsU last u i).hs ++ [(holdU (hsU last u i).p).1], 0 < h.t ∧ h.t ≤ last) ∧ ((hsU last u i).tk ++ [tI (holdU (hsU last u i).p).1.t]).Nodup)
    generalize hsU last u i = v at *
    generalize (holdU v.p).1 = h0
    rw [nodup_snoc, Bool.and_eq_true]
    unfold okT
    simp only [Bool.and_eq_true, decide_eq_true_eq, Bool.not_eq_true']
    constructor
    · rintro ⟨⟨a, b⟩, c⟩
      obtain ⟨d, e, f⟩ := ih.1 ⟨a, c⟩
      refine ⟨d, fun h hh => ?_, f, hasI_false.1 b.2⟩
      rcases List.mem_append.1 hh with q | q
      · exact e h q
      · rw [List.mem_singleton.1 q]; exact ⟨b.1.1, b.1.2⟩
    · rintro ⟨a, b, c, d⟩
      obtain ⟨e, f⟩ := ih.2 ⟨a, fun h hh => b h (List.mem_append_left _ hh), c⟩
      have g := b h0 (List.mem_append_right _ (by simp))
      exact ⟨⟨e, ⟨⟨g.1, g.2⟩, hasI_false.2 d⟩⟩, f⟩
theorem hsU_tk_sub (last : Nat) (u : UB) : ∀ i, ∃ x, (hsU last u i).tk = u.tk ++ x
  | 0 => ⟨[], by simp [hsU]⟩
  | i + 1 => by
    obtain ⟨x, hx⟩ := hsU_tk_sub last u i
    refine ⟨x ++ [tI (holdU (hsU last u i).p).1.t], ?_⟩
    show (hsU last u i).tk ++ _ = _
    rw [hx, List.append_assoc]
theorem rgs_iff (u : UR) (h4 : u.L.rs.length = 4) (ho : u.ok = true) (ht : u.tk = []) : ∀ r, r ≤ 4 → (rgsU u r).L.rs.length = 4 ∧ (rgsU u r).L.last = u.L.last ∧ (((rgsU u r).ok = true) ↔ (∀ j, j < r → fineD u.L.last ((rgsU u r).L.rg j) = true) ∧ (rgsU u r).tk.Nodup)
  | 0, _ => ⟨h4, rfl, by
      show u.ok = true ↔ (∀ j, j < 0 → _) ∧ u.tk.Nodup
      rw [ht]
      exact ⟨fun _ => ⟨fun j hj => absurd hj (Nat.not_lt_zero j), List.nodup_nil⟩, fun _ => ho⟩⟩
  | r + 1, hr => by
    obtain ⟨i1, i2, i3⟩ := rgs_iff u h4 ho ht r (by omega)
    have e : rgsU u (r + 1) = rgU (rgsU u r) r := rfl
    rw [e]
    generalize rgsU u r = v at *
    refine ⟨by show (v.L.put r _).rs.length = 4; rw [put_len]; exact i1, i2, ?_⟩
    show ((rgH v).ok && checkM ⟨(rgH v).hs, (rgW v).2⟩) = true ↔ (∀ j, j < r + 1 → fineD u.L.last ((v.L.put r ⟨(rgH v).hs, (rgW v).2⟩).rg j) = true) ∧ (rgH v).tk.Nodup
    have hq := hsU_iff v.L.last ⟨(num2 v.p 1).2, v.ok, v.tk, []⟩ rfl (num2 v.p 1).1
    have hH : hsU v.L.last ⟨(num2 v.p 1).2, v.ok, v.tk, []⟩ (num2 v.p 1).1 = rgH v := rfl
    rw [hH] at hq
    dsimp only at hq
    obtain ⟨x, hx⟩ := hsU_tk_sub v.L.last ⟨(num2 v.p 1).2, v.ok, v.tk, []⟩ (num2 v.p 1).1
    rw [hH] at hx
    dsimp only at hx
    rw [i2] at hq
    rw [Bool.and_eq_true]
    constructor
    · rintro ⟨a, b⟩
      have hvn : v.tk.Nodup ∧ v.ok = true := by
        have hvok : v.ok = true := by
          have : ∀ i, (hsU v.L.last ⟨(num2 v.p 1).2, v.ok, v.tk, []⟩ i).ok = true → v.ok = true := fun i => by
            induction i with
            | zero => exact id
            | succ i ih =>
              intro q
              have q' : ((hsU v.L.last ⟨(num2 v.p 1).2, v.ok, v.tk, []⟩ i).ok && _) = true := q
              rw [Bool.and_eq_true] at q'
              exact ih q'.1
          exact this _ a
        exact ⟨(i3.1 hvok).2, hvok⟩
      obtain ⟨d, f, g⟩ := hq.1 ⟨a, hvn.1⟩
      refine ⟨fun j hj => ?_, g⟩
      rw [put_rg (by omega)]
      split
      · exact fine_iff.2 ⟨b, f⟩
      · exact (i3.1 hvn.2).1 j (by omega)
    · rintro ⟨a, b⟩
      have hvn : v.tk.Nodup := by rw [hx] at b; exact (List.nodup_append.1 b).1
      have hvok : v.ok = true := i3.2 ⟨fun j hj => by
        have := a j (by omega)
        rw [put_rg (by omega), if_neg (by omega)] at this
        exact this, hvn⟩
      have hr' := a r (by omega)
      rw [put_rg (by omega), if_pos rfl] at hr'
      obtain ⟨c, d⟩ := fine_iff.1 hr'
      exact ⟨(hq.2 ⟨hvok, d, b⟩).1, c⟩
/-- Why there is no table, as the document finds it. -/
def codeD (u : UR) : Int := if endL u.p.1 u.p.2 ≠ 0 then endL u.p.1 u.p.2 else if ((List.range 4).all fun j => fineD u.L.last (u.L.rg j)) = true ∧ u.tk.Nodup then 0 else 1
theorem code_eq (b : List UInt8) : codeD (rgsU (lkU0 b) 4) = codeU (rgsU (lkU0 b) 4) := by
  obtain ⟨u, hu⟩ : ∃ u, lkU0 b = u := ⟨_, rfl⟩
  have e1 : u.L.rs.length = 4 := by rw [← hu]; rfl
  have e2 : u.ok = true := by rw [← hu]; rfl
  have e3 : u.tk = [] := by rw [← hu]; rfl
  rw [hu]
  obtain ⟨_, k2, k3⟩ := rgs_iff u e1 e2 e3 4 (Nat.le_refl _)
  generalize rgsU u 4 = v at *
  unfold codeD codeU
  rw [k2]
  have ka : ((List.range 4).all fun j => fineD u.L.last (v.L.rg j)) = true ↔ ∀ j, j < 4 → fineD u.L.last (v.L.rg j) = true := by
    rw [List.all_eq_true]
    exact ⟨fun h j hj => h j (List.mem_range.2 hj), fun h j hj => h j (List.mem_range.1 hj)⟩
  rw [← ka] at k3
  by_cases q : endL v.p.1 v.p.2 = 0
  · rw [if_neg (fun x => x q)]
    by_cases o : v.ok = true
    · rw [if_pos (k3.1 o), if_neg (fun x => by rw [o] at x; cases x.2), q]
    · rw [if_neg (fun x => o (k3.2 x)), if_pos ⟨q, by simpa using o⟩]
  · rw [if_pos q, if_neg (fun x => q x.1)]
end Go.Proofs.YtlolfcnfcgegdaaGreat
