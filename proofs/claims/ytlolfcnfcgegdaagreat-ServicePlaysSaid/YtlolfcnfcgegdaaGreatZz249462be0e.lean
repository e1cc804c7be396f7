/- Texts of the proofs, part 30: what the functions that they reach do, walked; no conditions beyond those that each states. -/
import Derived.Deep.RegionLaw
import Derived.Deep.QuietTactic
import Derived.BigQuiet
import Derived.Test.YtlolfcnfcgegdaaGreatZz4ed9a013c6
set_option linter.unusedVariables false
set_option linter.unusedSimpArgs false
/- The service: Unpack. -/
namespace Go.Proofs.YtlolfcnfcgegdaaGreat
open Go.RowKit
set_option linter.unusedVariables false
set_option linter.unusedSimpArgs false

theorem TabN.to {k n : Nat} {w : World} {bt : Nat} {M : MT} (h : TabN k w n bt M) : ∃ Q, TO n Q w bt M ∧ ∀ c, Q c → k ≤ c := by
  obtain ⟨mv, c, R, ht, e, h1, h2, h3⟩ := h
  refine ⟨fun c => c = bt ∨ mv = some c ∨ ∃ r ∈ R, r.blk = c, ⟨⟨mv, c, R, ht, e, .inl rfl, fun b e => .inr (.inl e), fun r hr => .inr (.inr ⟨r, hr, rfl⟩)⟩, fun c hc => (ht.kind hc).1, fun c hc => (ht.kind hc).2⟩, fun c hc => ?_⟩
  rcases hc with rfl | hc | ⟨r, hr, rfl⟩
  · exact h1
  · exact h2 c hc
  · exact h3 r hr
/-- The state of bytes, and what is wrong with them. -/
def svU (b : List UInt8) : Int × MT × Lk :=
  if endL (bytR (bytR b false).2.1 (bytR b false).2.2).2.1 (bytR (bytR b false).2.1 (bytR b false).2.2).2.2 ≠ 0 then (endL (bytR (bytR b false).2.1 (bytR b false).2.2).2.1 (bytR (bytR b false).2.1 (bytR b false).2.2).2.2, [], Lk.new)
  else if (unpM (bytR b false).1).1 ≠ 0 then ((unpM (bytR b false).1).1, [], Lk.new)
  else ((lkU (bytR (bytR b false).2.1 (bytR b false).2.2).1).1, (unpM (bytR b false).1).2, (lkU (bytR (bytR b false).2.1 (bytR b false).2.2).1).2)
set_option maxRecDepth 100000 in
set_option maxHeartbeats 4000000 in
theorem svunpack_calls {K : Nat → Obj → Prop} {n : Nat} (w : World) (v : Value) (b : List UInt8) (hn : n ≤ w.heap.size) (hb : BytesAt K w v b) (hm : b.length ≤ 100000) (code : Int) (M : MT) (L : Lk) (hr : svU b = (code, M, L)) :
    Calls Tryz.prog 21 #[v] w fun e w' => ((code ≠ 0 ∧ e = .returned (.tuple #[.pointer none, .int .i64 code])) ∨ (code = 0 ∧ ∃ P Q bs b1 b2, e = .returned (.tuple #[.pointer (some ⟨bs, 0, none⟩), .int .i64 0]) ∧ SV n P Q w' bs b1 b2 M L ∧ ∀ c, U P Q c → w.heap.size ≤ c)) ∧ Fr (fun _ _ => True) w w' := by
  obtain ⟨av, cv, rfl⟩ := hb.form
  obtain ⟨W2, hW2⟩ : ∃ W, w.alloc (.cells #[.slice av b.length cv, .bool false] 146 (0, 0)) = W := ⟨_, rfl⟩
  have l0 : LR w W2 w.heap.size b false := hW2 ▸ LR.mk0 (Fr.refl _ _) hb
  have RC := Lib.hid (read_calls w av b.length cv)
  rw [hW2] at RC
  obtain ⟨one, r1, s1, e1⟩ : ∃ x r s, bytR b false = (x, r, s) := ⟨_, _, _, rfl⟩
  obtain ⟨two, r2, s2, e2⟩ : ∃ x r s, bytR r1 s1 = (x, r, s) := ⟨_, _, _, rfl⟩
  have g1 := bytR_len b false
  have g2 := bytR_len r1 s1
  rw [e1] at g1
  rw [e2] at g2
  dsimp only at g1 g2
  obtain ⟨E, hE⟩ : ∃ E, endL r2 s2 = E := ⟨_, rfl⟩
  obtain ⟨c1, M1, hu1⟩ : ∃ c M, unpM one = (c, M) := ⟨_, _, rfl⟩
  obtain ⟨c2, L2, hu2⟩ : ∃ c L, lkU two = (c, L) := ⟨_, _, rfl⟩
  have HRR : Hid ((code, M, L) = if E ≠ 0 then (E, [], Lk.new) else if c1 ≠ 0 then (c1, [], Lk.new) else (c2, M1, L2)) := by
    show _ = _
    rw [← hr]
    unfold svU
    rw [e1]
    dsimp only
    rw [e2]
    dsimp only
    rw [hE, hu1, hu2]
  have HN := Lib.hid hn
  have hok2 := @lkU_ok two
  rw [hu2] at hok2
  have HOK2 := Lib.hid hok2
  have hmc : one.length ≤ 100000 := by omega
  have hr1 : r1.length ≤ 100000 := by omega
  have hr2 : r2.length ≤ 100000 := by omega
  have htc : two.length ≤ 1000000 := by omega
  have C1 := Lib.hid (lr_bytes w W2 w.heap.size b false l0 (by omega) one r1 s1 e1)
  clear hm hb hW2 hr hn hok2 e1
  go_enter Tryz.func21, Tryz.ntmps21
  go_wp2_with fail
  (with_reducible refine RC.out.mono ?_)
  rintro e w1 ⟨rfl, rfl⟩
  go_wp2_with fail
  (with_reducible refine C1.out.mono ?_)
  rintro e w2 ⟨⟨a1, cp1, rfl, bb1⟩, l1, f1⟩
  have C2 := Lib.hid (lr_bytes w w2 w.heap.size r1 s1 l1 (by omega) two r2 s2 e2)
  have B1 := Lib.hid bb1
  clear l0 f1 bb1 C1 RC e2
  go_wp2_with fail
  (with_reducible refine C2.out.mono ?_)
  rintro e w3 ⟨⟨a2, cp2, rfl, bb2⟩, l2, f2⟩
  have B2 := Lib.hid bb2
  have B1' := Lib.hid ((B1.out.mono (K' := fun c _ => c ≠ w.heap.size) fun c o ho hc => by have := hc.1; have := l1.fr.size; obtain ⟨vv, hv⟩ := l1.at'; have := lt_of_some hv.top; obtain ⟨cs, fz, rfl⟩ := hc.2; rintro rfl; rw [hv.top] at ho; cases ho).fr f2)
  have EC := Lib.hid (lr_end w w3 w.heap.size r2 s2 l2 (by omega))
  rw [hE] at EC
  have F3 := Lib.hid l2.fr
  clear l1 l2 f2 bb2 C2 B1 hE g1 g2
  go_wp2_with fail
  (with_reducible refine EC.out.mono ?_)
  rintro e w4 ⟨rfl, rfl⟩
  clear EC
  by_cases hE0 : E = 0
  · have hE2 : (E != 0) = false := by simpa using hE0
    have HE0 := Lib.hid hE0
    clear hE0
    have C3 := Lib.hid (unpack_callsN n w3 (Nat.le_trans HN.out F3.out.size) _ one B1'.out hmc c1 M1 hu1)
    clear hu1
    go_wp2_with fail
    (with_reducible refine C3.out.mono ?_)
    rintro e w5 ⟨hx, f5⟩
    have F5 := Lib.hid (F3.out.trans f5)
    have B2' := Lib.hid (B2.out.tt f5)
    clear f5 C3 B2 B1'
    rcases hx with ⟨hc, rfl⟩ | ⟨hc, b1, rfl, htn⟩
    · have hc2 : (c1 != 0) = true := by simpa using hc
      have HR1 : Hid (code = c1) := by
        have := HRR.out
        rw [if_neg (fun x => x HE0.out), if_pos hc] at this
        exact (Prod.mk.inj this).1
      have HC := Lib.hid hc
      clear HRR hc
      go_wp2
      go_ret2
      rw [HR1.out]
      exact ⟨.inl ⟨HC.out, rfl⟩, F5.out⟩
    · obtain ⟨Q, hto, hq⟩ := htn.to
      have HTO := Lib.hid hto
      have HQ := Lib.hid hq
      have HR2 : Hid ((code, M, L) = (c2, M1, L2)) := by
        have := HRR.out
        rw [if_neg (fun x => x HE0.out), if_neg (fun x => x hc)] at this
        exact this
      clear HRR htn hto hq
      subst hc
      have C4 := Lib.hid (lkunpack_calls w5 _ two B2'.out htc)
      rw [hu2] at C4
      dsimp only at C4
      clear hu2 B2'
      go_wp2_with fail
      (with_reducible refine C4.out.mono ?_)
      rintro e w6 ⟨hx, f6⟩
      have F6 := Lib.hid (F5.out.trans f6)
      have F56 := Lib.hid f6
      clear f6 C4
      rcases hx with ⟨hc, rfl⟩ | ⟨hc, b2, hv, wv, rfl, hut⟩
      · have hc2 : (c2 != 0) = true := by simpa using hc
        have HR1 : Hid (code = c2) := (Prod.mk.inj HR2.out).1
        have HC := Lib.hid hc
        clear HR2 hc
        go_wp2
        go_ret2
        rw [HR1.out]
        exact ⟨.inl ⟨HC.out, rfl⟩, F6.out⟩
      · subst hc
        obtain ⟨hlt, hp⟩ := hut.lte (n := n) (Nat.le_trans HN.out F5.out.size) (HOK2.out rfl)
        obtain ⟨W7, hW7⟩ : ∃ W, w6.alloc (.cells #[.pointer (some ⟨b1, 0, none⟩), .pointer (some ⟨b2, 0, none⟩)] 68 (0, 0)) = W := ⟨_, rfl⟩
        have F7 : Fr (fun _ _ => True) w6 W7 := hW7 ▸ (Fr.refl _ _).alloc _
        have X7 : W7.heap[w6.heap.size]? = some (.cells #[.pointer (some ⟨b1, 0, none⟩), .pointer (some ⟨b2, 0, none⟩)] 68 (0, 0)) := hW7 ▸ heap_alloc_new w6 _
        have SVH := Lib.hid (⟨X7, (HTO.out.fr F56.out).fr F7, hlt.tt F7⟩ : SV n (PU b2 hv) Q W7 w6.heap.size b1 b2 M1 L2)
        have HUQ : Hid (∀ c, U (PU b2 hv) Q c → w.heap.size ≤ c) := Lib.hid fun c hc => by
          rcases hc with hc | hc
          · exact Nat.le_trans F5.out.size (hp c hc)
          · exact Nat.le_trans F3.out.size (HQ.out c hc)
        have FE := Lib.hid (F6.out.trans F7)
        obtain ⟨e1, e2, e3⟩ : code = 0 ∧ M = M1 ∧ L = L2 := by
          have := HR2.out
          simp only [Prod.mk.injEq] at this
          exact this
        have HC0 := Lib.hid e1
        subst e2 e3
        clear e1 hut hlt hp F7 X7 HR2 HQ HTO F56
        go_wp2
        go_ret2
        try rw [hW7]
        exact ⟨.inr ⟨HC0.out, _, _, _, _, _, rfl, SVH.out, HUQ.out⟩, FE.out⟩
  · have hE2 : (E != 0) = true := by simpa using hE0
    have HR1 : Hid (code = E) := by
      have := HRR.out
      rw [if_pos hE0] at this
      exact (Prod.mk.inj this).1
    have HC := Lib.hid hE0
    clear HRR hE0
    go_wp2
    go_ret2
    rw [HR1.out]
    exact ⟨.inl ⟨HC.out, rfl⟩, F3.out⟩
/-- What is packed is unpacked. -/
theorem sv_round {M : MT} {L : Lk} (hM : MS M) (hL : L.ok) (h2 : L.ok2) : svU (svB M L) = (0, sortM M, L) := by
  have hl1 : (packL (sortM M)).length ≤ 1000 := by
    have hr : ∀ x ∈ sortM M, (entB x).length ≤ 16 := fun x hx => by
      have := hM.mf.rep x ((sortM_mem hM.nd x).1 hx)
      unfold entB byt
      simp [le_length]
      omega
    have : ∀ l : MT, (∀ x ∈ l, (entB x).length ≤ 16) → ((l.map entB).flatten).length ≤ 16 * l.length := by
      intro l
      induction l with
      | nil => intro _; simp
      | cons x l ih =>
        intro h
        have h1 := h x (by simp)
        have h2 := ih fun y hy => h y (by simp [hy])
        simp only [List.map_cons, List.flatten_cons, List.length_append, List.length_cons]
        omega
    have h1 := this (sortM M) hr
    have h6 : (sortM M).length ≤ 6 := by rw [sortM_len]; exact hM.mf.few
    unfold packL
    rw [List.length_append, le_length]
    omega
  have hl2 : (lkB L).length ≤ 1000 := by have := lkK_len hL 4; show (lkK L 4).length ≤ _; omega
  have e1 : bytR (svB M L) false = (packL (sortM M), byt (lkB L), false) := bytR_byt hl1
  have e2 : bytR (byt (lkB L)) false = (lkB L, [], false) := by
    have := bytR_byt (r := []) hl2
    rwa [List.append_nil] at this
  unfold svU
  rw [e1]
  dsimp only
  rw [e2]
  dsimp only
  rw [hM.unp, lk_pack hL h2]
  rfl
end Go.Proofs.YtlolfcnfcgegdaaGreat
/- The document's locks' table, in memory (printed by doctable19.py). -/
namespace Go.Proofs.YtlolfcnfcgegdaaGreat
open Go.RowKit
set_option linter.unusedVariables false
set_option linter.unusedSimpArgs false

theorem RR.frk {W0 w w' : World} {br : Nat} {bs : List UInt8} {sh : Bool} {K : Nat → Obj → Prop} (h : RR W0 w br bs sh) (hf : Fr K w w') (hk : ∀ c o, c = br ∨ c < W0.heap.size → K c o) : RR W0 w' br bs sh := by
  obtain ⟨a, cap, full, i, h⟩ := h
  exact ⟨a, cap, full, i, h.new, hf.keep _ _ h.top (hk _ _ (.inl rfl)), h.bytes, h.le, h.big, h.rest, old_tt h.fr hf fun b o hb => hk b o (.inr hb)⟩
/-- A table that is built: all its rows are its own. -/
structure DU (n : Nat) (w : World) (bt : Nat) (hv wv : Nat → Value) (L : Lk) : Prop where
  top : w.heap[bt]? = some (.cells #[.int .u64 (L.now : Nat), .int .u64 (L.last : Nat), hv 0, hv 1, hv 2, hv 3, wv 0, wv 1, wv 2, wv 3] 77 (0, 0))
  hr : ∀ i, i < 4 → w.ownsRow n 112 4 (hv i) (L.rg i).hs.length ((L.rg i).hs.flatMap encH)
  wr : ∀ i, i < 4 → w.ownsRow n 114 2 (wv i) (L.rg i).ws.length ((L.rg i).ws.flatMap encW)
  sep : ∀ i j, i < 4 → j < 4 → i ≠ j → ∀ c, (hv i).ownBlock = some c → (hv j).ownBlock ≠ some c
  sepw : ∀ i j, i < 4 → j < 4 → i ≠ j → ∀ c, (wv i).ownBlock = some c → (wv j).ownBlock ≠ some c
  four : L.rs.length = 4
  le : n ≤ bt
section
variable {n : Nat} {w w' : World} {bt : Nat} {hv wv : Nat → Value} {L : Lk}
def KTD (n bt : Nat) (c : Nat) (o : Obj) : Prop := n ≤ c ∧ (c = bt ∨ (∃ cs fz, o = .cells cs 112 fz) ∨ ∃ cs fz, o = .cells cs 114 fz)
theorem DU.frk {K : Nat → Obj → Prop} (h : DU n w bt hv wv L) (f : Fr K w w') (hk : ∀ c o, w.heap[c]? = some o → KTD n bt c o → K c o) : DU n w' bt hv wv L :=
  ⟨f.keep _ _ h.top (hk _ _ h.top ⟨h.le, .inl rfl⟩), fun i hi => ownsRow_fr (h.hr i hi) f fun b o e ho => by
    obtain ⟨cur, hc⟩ := own_tag (h.hr i hi) e
    exact hk _ _ ho ⟨own_above (h.hr i hi) e, .inr (.inl ⟨cur, _, Option.some.inj (ho.symm.trans hc)⟩)⟩, fun i hi => ownsRow_fr (h.wr i hi) f fun b o e ho => by
    obtain ⟨cur, hc⟩ := own_tag (h.wr i hi) e
    exact hk _ _ ho ⟨own_above (h.wr i hi) e, .inr (.inr ⟨cur, _, Option.some.inj (ho.symm.trans hc)⟩)⟩, h.sep, h.sepw, h.four, h.le⟩
theorem DU.tt (h : DU n w bt hv wv L) (f : Fr (fun _ _ => True) w w') : DU n w' bt hv wv L := h.frk f fun _ _ _ _ => trivial
/-- A block of another type may be written. -/
theorem DU.other (h : DU n w bt hv wv L) {m : Nat} {cs : Array Value} {t : TypeId} {fz : Nat × Nat} (hm : w.heap[m]? = some (.cells cs t fz)) (ht : t ≠ 77 ∧ t ≠ 112 ∧ t ≠ 114) : ∀ c o, w.heap[c]? = some o → KTD n bt c o → c ≠ m := fun c o ho hk e => by
  subst e
  rw [hm] at ho
  cases ho
  rcases hk.2 with rfl | ⟨_, _, q⟩ | ⟨_, _, q⟩
  · rw [h.top] at hm; cases hm; exact ht.1 rfl
  · cases q; exact ht.2.1 rfl
  · cases q; exact ht.2.2 rfl
theorem DU.hne (h : DU n w bt hv wv L) {i : Nat} (hi : i < 4) : (hv i).ownBlock ≠ some bt := fun e => by
  obtain ⟨cur, hc⟩ := own_tag (h.hr i hi) e
  rw [h.top] at hc
  cases hc
theorem DU.wne (h : DU n w bt hv wv L) {i : Nat} (hi : i < 4) : (wv i).ownBlock ≠ some bt := fun e => by
  obtain ⟨cur, hc⟩ := own_tag (h.wr i hi) e
  rw [h.top] at hc
  cases hc
theorem DU.hw (h : DU n w bt hv wv L) {i j : Nat} (hi : i < 4) (hj : j < 4) : ∀ c, (hv i).ownBlock = some c → (wv j).ownBlock ≠ some c := fun c e => own_ne (h.hr i hi) (h.wr j hj) (by decide) e |> fun q e2 => q e2 rfl
theorem DU.cells (h : DU n w bt hv wv L) (W : World) (f : Fr (fun _ _ => True) w W) : W.cell? ⟨bt, 1, none⟩ = some (.int .u64 (L.last : Nat)) ∧ ∀ i, i < 4 → W.cell? ⟨bt, 2 + i, none⟩ = some (hv i) ∧ W.cell? ⟨bt, 6 + i, none⟩ = some (wv i) ∧ W.frozen? ⟨bt, 2 + i, none⟩ = false ∧ W.frozen? ⟨bt, 6 + i, none⟩ = false := by
  have t := f.keep _ _ h.top trivial
  refine ⟨cell_mk t rfl, fun i hi => ?_⟩
  match i, hi with
  | 0, _ => exact ⟨cell_mk t rfl, cell_mk t rfl, frozen_mk t, frozen_mk t⟩
  | 1, _ => exact ⟨cell_mk t rfl, cell_mk t rfl, frozen_mk t, frozen_mk t⟩
  | 2, _ => exact ⟨cell_mk t rfl, cell_mk t rfl, frozen_mk t, frozen_mk t⟩
  | 3, _ => exact ⟨cell_mk t rfl, cell_mk t rfl, frozen_mk t, frozen_mk t⟩
/-- A region's holds are written. -/
theorem DU.setH (h : DU n w bt hv wv L) {w1 : World} {i : Nat} (hi : i < 4) (v : Value) (hs : List Ho) (hn : n ≤ w.heap.size) (f : Fr (fun c _ => (hv i).ownBlock ≠ some c) w w1) (o : w1.ownsRow 0 112 4 v hs.length (hs.flatMap encH)) (nx : OwnNext w (hv i) v) :
    w1.cell? ⟨bt, 2 + i, none⟩ = some (hv i) ∧ w1.frozen? ⟨bt, 2 + i, none⟩ = false ∧ DU n (w1.setCell ⟨bt, 2 + i, none⟩ v) bt (fun j => if j = i then v else hv j) wv (L.put i ⟨hs, (L.rg i).ws⟩) ∧ Fr (fun c _ => (hv i).ownBlock ≠ some c ∧ c ≠ bt) w (w1.setCell ⟨bt, 2 + i, none⟩ v) := by
  have nb := h.hne hi
  have t1 := f.keep _ _ h.top nb
  have F : Fr (fun c _ => (hv i).ownBlock ≠ some c ∧ c ≠ bt) w (w1.setCell ⟨bt, 2 + i, none⟩ v) := (f.mono fun _ _ h => h.1).setCell (fun _ _ h => h.2 rfl) _
  have vb : v.ownBlock ≠ some bt := nx.ne nb (lt_of_some h.top)
  have hc1 : w1.cell? ⟨bt, 2 + i, none⟩ = some (hv i) := by
    match i, hi with
    | 0, _ => exact cell_mk t1 rfl
    | 1, _ => exact cell_mk t1 rfl
    | 2, _ => exact cell_mk t1 rfl
    | 3, _ => exact cell_mk t1 rfl
  have vn : ∀ k, v.ownBlock = some k → n ≤ k := fun k e => by
    rcases nx with q | ⟨k', q, hk⟩
    · exact own_above (h.hr i hi) (q ▸ e)
    · rw [q] at e; cases e; omega
  have hlen : i < L.rs.length := by rw [h.four]; exact hi
  refine ⟨hc1, frozen_mk t1, ⟨?_, fun j hj => ?_, fun j hj => ?_, fun j k hj hk hjk c e => ?_, h.sepw, by rw [put_len]; exact h.four, h.le⟩, F⟩
  · have := heap_setCell_same (o := 2 + i) t1 v
    rw [this]
    match i, hi with
    | 0, _ => rfl
    | 1, _ => rfl
    | 2, _ => rfl
    | 3, _ => rfl
  · rw [put_rg hlen]
    split
    · exact ownsRow_setCell_ne (own_basew o vn) vb _
    · rename_i e
      exact ownsRow_fr (h.hr j hj) F fun b o eb _ => ⟨fun q => h.sep i j hi hj (fun x => e x.symm) b q eb, fun q => h.hne hj (q ▸ eb)⟩
  · rw [put_rg hlen]
    have hwj : (if j = i then (⟨hs, (L.rg i).ws⟩ : Rgn) else L.rg j).ws = (L.rg j).ws := by split <;> (try rename_i e; try subst e) <;> rfl
    rw [hwj]
    exact ownsRow_fr (h.wr j hj) F fun b o eb _ => ⟨fun q => h.hw hi hj b q eb, fun q => h.wne hj (q ▸ eb)⟩
  · have hin : ∀ m, m < 4 → m ≠ i → ∀ c, v.ownBlock = some c → (hv m).ownBlock ≠ some c := fun m hm hmi c e q => by
      rcases nx with x | ⟨k', x, hk⟩
      · exact h.sep i m hi hm (fun y => hmi y.symm) c (x ▸ e) q
      · rw [x] at e
        cases e
        obtain ⟨cur, hc⟩ := own_tag (h.hr m hm) q
        have := lt_of_some hc
        omega
    try dsimp only at e ⊢
    by_cases e1 : j = i
    · rw [if_pos e1] at e
      rw [if_neg (fun x => hjk (e1.trans x.symm))]
      exact hin k hk (fun x => hjk (e1.trans x.symm)) c e
    · rw [if_neg e1] at e
      by_cases e2 : k = i
      · rw [if_pos e2]
        exact fun q => hin j hj e1 c q e
      · rw [if_neg e2]
        exact h.sep j k hj hk hjk c e
/-- A region's wants are written. -/
theorem DU.setW (h : DU n w bt hv wv L) {w1 : World} {i : Nat} (hi : i < 4) (v : Value) (ws : List Wa) (hn : n ≤ w.heap.size) (f : Fr (fun c _ => (wv i).ownBlock ≠ some c) w w1) (o : w1.ownsRow 0 114 2 v ws.length (ws.flatMap encW)) (nx : OwnNext w (wv i) v) :
    w1.cell? ⟨bt, 6 + i, none⟩ = some (wv i) ∧ w1.frozen? ⟨bt, 6 + i, none⟩ = false ∧ DU n (w1.setCell ⟨bt, 6 + i, none⟩ v) bt hv (fun j => if j = i then v else wv j) (L.put i ⟨(L.rg i).hs, ws⟩) ∧ Fr (fun c _ => (wv i).ownBlock ≠ some c ∧ c ≠ bt) w (w1.setCell ⟨bt, 6 + i, none⟩ v) := by
  have nb := h.wne hi
  have t1 := f.keep _ _ h.top nb
  have F : Fr (fun c _ => (wv i).ownBlock ≠ some c ∧ c ≠ bt) w (w1.setCell ⟨bt, 6 + i, none⟩ v) := (f.mono fun _ _ h => h.1).setCell (fun _ _ h => h.2 rfl) _
  have vb : v.ownBlock ≠ some bt := nx.ne nb (lt_of_some h.top)
  have hc1 : w1.cell? ⟨bt, 6 + i, none⟩ = some (wv i) := by
    match i, hi with
    | 0, _ => exact cell_mk t1 rfl
    | 1, _ => exact cell_mk t1 rfl
    | 2, _ => exact cell_mk t1 rfl
    | 3, _ => exact cell_mk t1 rfl
  have vn : ∀ k, v.ownBlock = some k → n ≤ k := fun k e => by
    rcases nx with q | ⟨k', q, hk⟩
    · exact own_above (h.wr i hi) (q ▸ e)
    · rw [q] at e; cases e; omega
  have hlen : i < L.rs.length := by rw [h.four]; exact hi
  refine ⟨hc1, frozen_mk t1, ⟨?_, fun j hj => ?_, fun j hj => ?_, h.sep, fun j k hj hk hjk c e => ?_, by rw [put_len]; exact h.four, h.le⟩, F⟩
  · have := heap_setCell_same (o := 6 + i) t1 v
    rw [this]
    match i, hi with
    | 0, _ => rfl
    | 1, _ => rfl
    | 2, _ => rfl
    | 3, _ => rfl
  · rw [put_rg hlen]
    have hwj : (if j = i then (⟨(L.rg i).hs, ws⟩ : Rgn) else L.rg j).hs = (L.rg j).hs := by split <;> (try rename_i e; try subst e) <;> rfl
    rw [hwj]
    exact ownsRow_fr (h.hr j hj) F fun b o eb _ => ⟨fun q => h.hw hj hi b eb q, fun q => h.hne hj (q ▸ eb)⟩
  · rw [put_rg hlen]
    split
    · exact ownsRow_setCell_ne (own_basew o vn) vb _
    · rename_i e
      exact ownsRow_fr (h.wr j hj) F fun b o eb _ => ⟨fun q => h.sepw i j hi hj (fun x => e x.symm) b q eb, fun q => h.wne hj (q ▸ eb)⟩
  · have hin : ∀ m, m < 4 → m ≠ i → ∀ c, v.ownBlock = some c → (wv m).ownBlock ≠ some c := fun m hm hmi c e q => by
      rcases nx with x | ⟨k', x, hk⟩
      · exact h.sepw i m hi hm (fun y => hmi y.symm) c (x ▸ e) q
      · rw [x] at e
        cases e
        obtain ⟨cur, hc⟩ := own_tag (h.wr m hm) q
        have := lt_of_some hc
        omega
    try dsimp only at e ⊢
    by_cases e1 : j = i
    · rw [if_pos e1] at e
      rw [if_neg (fun x => hjk (e1.trans x.symm))]
      exact hin k hk (fun x => hjk (e1.trans x.symm)) c e
    · rw [if_neg e1] at e
      by_cases e2 : k = i
      · rw [if_pos e2]
        exact fun q => hin j hj e1 c q e
      · rw [if_neg e2]
        exact h.sepw j k hj hk hjk c e
end
/-- What Unpack has at hand: the reader, the table, the tokens. -/
structure DUU (W0 w : World) (br bt : Nat) (hv wv : Nat → Value) (p : Rs) (tv : Value) (tk : List Int) (L : Lk) : Prop where
  lr : RR W0 w br p.1 p.2
  ut : DU W0.heap.size w bt hv wv L
  tk : RowU w W0.heap.size tv tk
section
variable {W0 w w' : World} {br bt : Nat} {hv wv : Nat → Value} {p : Rs} {tv : Value} {tk : List Int} {L : Lk}
theorem RR.top {bs : List UInt8} {sh : Bool} (h : RR W0 w br bs sh) : ∃ cs, w.heap[br]? = some (.cells cs 125 (0, 0)) := by
  obtain ⟨a, cap, full, i, h⟩ := h
  exact ⟨_, h.top⟩
theorem DUU.tt (h : DUU W0 w br bt hv wv p tv tk L) (f : Fr (fun _ _ => True) w w') : DUU W0 w' br bt hv wv p tv tk L := ⟨h.lr.tt f, h.ut.tt f, h.tk.tt f⟩
theorem DUU.number (h : DUU W0 w br bt hv wv p tv tk L) {p' : Rs} (l : RR W0 w' br p'.1 p'.2) (f : Fr (fun c _ => c ≠ br) w w') : DUU W0 w' br bt hv wv p' tv tk L := by
  obtain ⟨cs, ht⟩ := h.lr.top
  refine ⟨l, h.ut.frk f (h.ut.other ht (by decide)), ownsRow_fr h.tk f fun b o e ho q => ?_⟩
  obtain ⟨cur, hc⟩ := own_tag h.tk e
  rw [q, ht] at hc
  cases hc
theorem DUU.tokens (h : DUU W0 w br bt hv wv p tv tk L) {tv' : Value} {tk' : List Int} (r : RowU w' W0.heap.size tv' tk') (f : Fr (fun c _ => tv.ownBlock ≠ some c) w w') : DUU W0 w' br bt hv wv p tv' tk' L := by
  obtain ⟨cs, ht⟩ := h.lr.top
  refine ⟨h.lr.frk f fun c o hc e => ?_, h.ut.frk f fun c o ho hk e => ?_, r⟩
  · rcases hc with rfl | hc
    · obtain ⟨cur, q⟩ := own_tag h.tk e
      rw [ht] at q
      cases q
    · have := own_above h.tk e; omega
  · obtain ⟨cur, q⟩ := own_tag h.tk e
    exact h.ut.other q (by decide) c o ho hk rfl
theorem DUU.setH (h : DUU W0 w br bt hv wv p tv tk L) {w1 : World} {i : Nat} (hi : i < 4) (v : Value) (hs : List Ho) (f : Fr (fun c _ => (hv i).ownBlock ≠ some c) w w1) (o : w1.ownsRow 0 112 4 v hs.length (hs.flatMap encH)) (nx : OwnNext w (hv i) v) :
    w1.cell? ⟨bt, 2 + i, none⟩ = some (hv i) ∧ w1.frozen? ⟨bt, 2 + i, none⟩ = false ∧ DUU W0 (w1.setCell ⟨bt, 2 + i, none⟩ v) br bt (fun j => if j = i then v else hv j) wv p tv tk (L.put i ⟨hs, (L.rg i).ws⟩) := by
  obtain ⟨c1, c2, u, F⟩ := h.ut.setH hi v hs h.lr.fr.size f o nx
  obtain ⟨cs, ht⟩ := h.lr.top
  refine ⟨c1, c2, h.lr.frk F fun c o hc => ?_, u, ownsRow_fr h.tk F fun b o e ho => ?_⟩
  · rcases hc with rfl | hc
    · refine ⟨fun e => ?_, fun e => ?_⟩
      · obtain ⟨cur, q⟩ := own_tag (h.ut.hr i hi) e; rw [ht] at q; cases q
      · rw [e, h.ut.top] at ht; cases ht
    · refine ⟨fun e => ?_, fun e => ?_⟩
      · have := own_above (h.ut.hr i hi) e; omega
      · have := h.ut.le; omega
  · obtain ⟨cur, q⟩ := own_tag h.tk e
    refine ⟨fun e2 => ?_, fun e2 => ?_⟩
    · obtain ⟨cur2, q2⟩ := own_tag (h.ut.hr i hi) e2; rw [q] at q2; cases q2
    · rw [e2, h.ut.top] at q; cases q
theorem DUU.setW (h : DUU W0 w br bt hv wv p tv tk L) {w1 : World} {i : Nat} (hi : i < 4) (v : Value) (ws : List Wa) (f : Fr (fun c _ => (wv i).ownBlock ≠ some c) w w1) (o : w1.ownsRow 0 114 2 v ws.length (ws.flatMap encW)) (nx : OwnNext w (wv i) v) :
    w1.cell? ⟨bt, 6 + i, none⟩ = some (wv i) ∧ w1.frozen? ⟨bt, 6 + i, none⟩ = false ∧ DUU W0 (w1.setCell ⟨bt, 6 + i, none⟩ v) br bt hv (fun j => if j = i then v else wv j) p tv tk (L.put i ⟨(L.rg i).hs, ws⟩) := by
  obtain ⟨c1, c2, u, F⟩ := h.ut.setW hi v ws h.lr.fr.size f o nx
  obtain ⟨cs, ht⟩ := h.lr.top
  refine ⟨c1, c2, h.lr.frk F fun c o hc => ?_, u, ownsRow_fr h.tk F fun b o e ho => ?_⟩
  · rcases hc with rfl | hc
    · refine ⟨fun e => ?_, fun e => ?_⟩
      · obtain ⟨cur, q⟩ := own_tag (h.ut.wr i hi) e; rw [ht] at q; cases q
      · rw [e, h.ut.top] at ht; cases ht
    · refine ⟨fun e => ?_, fun e => ?_⟩
      · have := own_above (h.ut.wr i hi) e; omega
      · have := h.ut.le; omega
  · obtain ⟨cur, q⟩ := own_tag h.tk e
    refine ⟨fun e2 => ?_, fun e2 => ?_⟩
    · obtain ⟨cur2, q2⟩ := own_tag (h.ut.wr i hi) e2; rw [q] at q2; cases q2
    · rw [e2, h.ut.top] at q; cases q
end
end Go.Proofs.YtlolfcnfcgegdaaGreat
/- The document's locks' table whose lists are read: Right, until, bears. -/
namespace Go.Proofs.YtlolfcnfcgegdaaGreat
open Go.RowKit
set_option linter.unusedVariables false
set_option linter.unusedSimpArgs false

def tyD (t : TypeId) : Prop := t = 77 ∨ t = 112 ∨ t = 114
/-- The document's table at bt; what is its own lies in G. -/
structure DR (n : Nat) (G : Nat → Prop) (w : World) (bt : Nat) (hv wv : Nat → Value) (L : Lk) : Prop where
  top : w.heap[bt]? = some (.cells #[.int .u64 (L.now : Nat), .int .u64 (L.last : Nat), hv 0, hv 1, hv 2, hv 3, wv 0, wv 1, wv 2, wv 3] 77 (0, 0))
  hr : ∀ i, i < 4 → RowsAt (fun c _ => G c ∧ c ≠ bt) w (hv i) 4 encH (L.rg i).hs
  wr : ∀ i, i < 4 → RowsAt (fun c _ => G c ∧ c ≠ bt) w (wv i) 2 encW (L.rg i).ws
  gt : G bt
  ge : ∀ c, G c → ∃ cs t fz, w.heap[c]? = some (.cells cs t fz) ∧ tyD t
  lo : ∀ c, G c → n ≤ c
  ok : L.ok
def DRE (n : Nat) (G : Nat → Prop) (w : World) (bt : Nat) (L : Lk) : Prop := ∃ hv wv, DR n G w bt hv wv L
section
variable {n : Nat} {G G' : Nat → Prop} {w w' : World} {bt : Nat} {hv wv hv' wv' : Nat → Value} {L L' : Lk}
theorem DR.frk {K : Nat → Obj → Prop} (h : DR n G w bt hv wv L) (f : Fr K w w') (hk : ∀ c o, w.heap[c]? = some o → G c → K c o) : DR n G w' bt hv wv L :=
  ⟨f.keep _ _ h.top (hk _ _ h.top h.gt), fun i hi => (h.hr i hi).fr f (fun c o ho hc => hk c o ho hc.1) |>.mono fun _ _ _ h => h, fun i hi => (h.wr i hi).fr f (fun c o ho hc => hk c o ho hc.1) |>.mono fun _ _ _ h => h, h.gt, fun c hc => by
    obtain ⟨cs, t, fz, he, ht⟩ := h.ge c hc
    exact ⟨cs, t, fz, f.keep _ _ he (hk _ _ he hc), ht⟩, h.lo, h.ok⟩
theorem DR.tt (h : DR n G w bt hv wv L) (f : Fr (fun _ _ => True) w w') : DR n G w' bt hv wv L := h.frk f fun _ _ _ _ => trivial
theorem DRE.tt (h : DRE n G w bt L) (f : Fr (fun _ _ => True) w w') : DRE n G w' bt L := by
  obtain ⟨hv, wv, h⟩ := h
  exact ⟨hv, wv, h.tt f⟩
theorem DR.cells (h : DR n G w bt hv wv L) (W : World) (f : Fr (fun _ _ => True) w W) : W.cell? ⟨bt, 0, none⟩ = some (.int .u64 (L.now : Nat)) ∧ W.cell? ⟨bt, 1, none⟩ = some (.int .u64 (L.last : Nat)) ∧ W.frozen? ⟨bt, 0, none⟩ = false ∧ W.frozen? ⟨bt, 1, none⟩ = false ∧ ∀ i, i < 4 → W.cell? ⟨bt, 2 + i, none⟩ = some (hv i) ∧ W.cell? ⟨bt, 6 + i, none⟩ = some (wv i) ∧ W.frozen? ⟨bt, 2 + i, none⟩ = false ∧ W.frozen? ⟨bt, 6 + i, none⟩ = false := by
  have t := f.keep _ _ h.top trivial
  refine ⟨cell_mk t rfl, cell_mk t rfl, frozen_mk t, frozen_mk t, fun i hi => ?_⟩
  match i, hi with
  | 0, _ => exact ⟨cell_mk t rfl, cell_mk t rfl, frozen_mk t, frozen_mk t⟩
  | 1, _ => exact ⟨cell_mk t rfl, cell_mk t rfl, frozen_mk t, frozen_mk t⟩
  | 2, _ => exact ⟨cell_mk t rfl, cell_mk t rfl, frozen_mk t, frozen_mk t⟩
  | 3, _ => exact ⟨cell_mk t rfl, cell_mk t rfl, frozen_mk t, frozen_mk t⟩
/-- The table's own block is written. -/
theorem DR.put (h : DR n G w bt hv wv L) (f : Fr (fun c _ => c < w.heap.size ∧ c ≠ bt) w w') (ht : w'.heap[bt]? = some (.cells #[.int .u64 (L'.now : Nat), .int .u64 (L'.last : Nat), hv' 0, hv' 1, hv' 2, hv' 3, wv' 0, wv' 1, wv' 2, wv' 3] 77 (0, 0)))
    (hG : ∀ c, G c → G' c) (hN : ∀ c, G' c → G c ∨ n ≤ c ∧ w.heap.size ≤ c ∧ ∃ cs t fz, w'.heap[c]? = some (.cells cs t fz) ∧ tyD t)
    (hh : ∀ i, i < 4 → RowsAt (fun c _ => G' c ∧ c ≠ bt) w' (hv' i) 4 encH (L'.rg i).hs) (hw : ∀ i, i < 4 → RowsAt (fun c _ => G' c ∧ c ≠ bt) w' (wv' i) 2 encW (L'.rg i).ws) (hok : L'.ok) : DR n G' w' bt hv' wv' L' ∧ Kp G G' w w' := by
  refine ⟨⟨ht, hh, hw, hG _ h.gt, fun c hc => ?_, fun c hc => ?_, hok⟩, Fr.within (f.mono fun c o hc => ⟨hc.2, fun e => hc.1 (e ▸ h.gt)⟩), fun c hc h1 h2 => ?_⟩
  · rcases hN c hc with q | q
    · by_cases e : c = bt
      · subst e; exact ⟨_, _, _, ht, .inl rfl⟩
      · obtain ⟨cs, t, fz, he, q2⟩ := h.ge c q
        exact ⟨cs, t, fz, f.keep _ _ he ⟨lt_of_some he, e⟩, q2⟩
    · exact q.2.2
  · rcases hN c hc with q | q
    · exact h.lo c q
    · exact q.1
  · rcases hN c h2 with q | q
    · exact h1 q
    · have := q.2.1; omega
/-- Rows of one's own that were there, seen behind a write of the table's block. -/
theorem DR.rows {α : Type} {k : Nat} {enc : α → List Value} {xs : List α} {v : Value} (hG : ∀ c, G c → G' c) (f : Fr (fun c _ => c < w.heap.size ∧ c ≠ bt) w w') (h : RowsAt (fun c _ => G c ∧ c ≠ bt) w v k enc xs) : RowsAt (fun c _ => G' c ∧ c ≠ bt) w' v k enc xs :=
  (h.fr (K' := fun c _ => c < w.heap.size ∧ c ≠ bt) f fun c o ho hc => ⟨lt_of_some ho, hc.2⟩).mono fun c o _ hc => ⟨hG c hc.1, hc.2⟩
end
set_option maxRecDepth 100000 in
theorem dright_calls (w : World) (c r : Nat) : Calls Tryz.prog 78 #[.int .i64 (c : Nat), .int .i64 (r : Nat)] w fun e w' => e = .returned (.int .i64 (rightM c r : Nat)) ∧ w = w' := by
  have h0 : ¬ (c : Int) < 0 := by omega
  have h0' : ¬ (r : Int) < 0 := by omega
  unfold rightM
  by_cases hc : 16 ≤ c
  · rw [if_pos hc]
    have h1 : (15 : Int) < c := by omega
    clear hc
    go_enter Tryz.func78, Tryz.ntmps78
    go_wp2
    go_ret
    exact ⟨rfl, rfl⟩
  · rw [if_neg hc]
    have h1 : ¬ (15 : Int) < c := by omega
    clear hc
    by_cases hr : 4 ≤ r
    · rw [if_pos hr]
      have h2 : (3 : Int) < r := by omega
      clear hr
      go_enter Tryz.func78, Tryz.ntmps78
      go_wp2
      go_ret
      exact ⟨rfl, rfl⟩
    · rw [if_neg hr]
      have h2 : ¬ (3 : Int) < r := by omega
      clear hr
      go_enter Tryz.func78, Tryz.ntmps78
      go_wp2
      go_ret
      exact ⟨rfl, rfl⟩
set_option maxRecDepth 100000 in
theorem duntil_calls (w : World) (bt now : Nat) (h : w.cell? ⟨bt, 0, none⟩ = some (.int .u64 (now : Nat))) (hn : now ≤ topM) : Calls Tryz.prog 80 #[.pointer (some ⟨bt, 0, none⟩)] w fun e w' => e = .returned (.int .u64 (untilM now : Nat)) ∧ w = w' := by
  rw [topM_eq] at hn
  have hw : IntKind.u64.wrap (18446744073709551615 - (now : Int)) = 18446744073709551615 - (now : Int) := by rw [IntKind.wrap_u64]; omega
  unfold untilM
  rw [topM_eq]
  by_cases hc : 18446744073709551615 - 10 < now
  · rw [if_pos hc]
    have h1 : (18446744073709551615 : Int) - now < 10 := by omega
    clear hc hn
    go_enter Tryz.func80, Tryz.ntmps80
    go_wp2
    go_ret
    exact ⟨rfl, rfl⟩
  · rw [if_neg hc]
    have h1 : ¬ (18446744073709551615 : Int) - now < 10 := by omega
    have hw2 : IntKind.u64.wrap ((now : Int) + 10) = (now : Int) + 10 := by rw [IntKind.wrap_u64]; omega
    clear hc hn
    go_enter Tryz.func80, Tryz.ntmps80
    go_wp2
    go_ret
    exact ⟨rfl, rfl⟩
theorem bears_take (hs : List Ho) (m i : Nat) (hi : i < hs.length) : (hs.take (i + 1)).any (fun h => decide (h.m = 2) || decide (m = 2)) = ((hs.take i).any (fun h => decide (h.m = 2) || decide (m = 2)) || (decide (hs[i].m = 2) || decide (m = 2))) := by
  rw [List.take_add_one, List.getElem?_eq_getElem hi, Option.toList_some, List.any_append]; simp
set_option maxRecDepth 100000 in
theorem dbears_calls {K : Nat → Obj → Prop} (w : World) (ah : Option Addr) (ch : Nat) (hs : List Ho) (m : Nat) (h : RowsAt K w (.slice ah hs.length ch) 4 encH hs) (hl : hs.length ≤ 1000000) (hm : m = 1 ∨ m = 2) (hh : ∀ x ∈ hs, x.m = 1 ∨ x.m = 2) :
    Calls Tryz.prog 121 #[.slice ah hs.length ch, .int .i64 (m : Nat)] w fun e w' => e = .returned (.bool (bearsM hs m)) ∧ w = w' := by
  have H := Lib.hid h
  have HH := Lib.hid hh
  obtain ⟨bm, hbm⟩ : ∃ b, bearsM hs m = b := ⟨_, rfl⟩
  have HBM := Lib.hid hbm
  have HM := Lib.hid hm
  rw [hbm]
  clear h hh hbm hm
  go_enter Tryz.func121, Tryz.ntmps121
  go_wp2_with fail
  go_loopw [5] (fun v5 wz => ∃ i : Nat, i ≤ hs.length ∧ v5 = .int .i64 i ∧ wz = w ∧ Hid ((hs.take i).any (fun h => decide (h.m = 2) || decide (m = 2)) = false)) (fun v5 _ => hs.length - (intOf v5).toNat)
  case atStart => exact ⟨0, Nat.zero_le _, rfl, rfl, rfl⟩
  case round =>
    obtain ⟨i, hi, rfl, rfl, G⟩ := hrel
    by_cases hil : i < hs.length
    · have hilI : (i : Int) < hs.length := by omega
      obtain ⟨b, off, o, rfl, _, _, hcl⟩ := H.out.spot (by omega)
      obtain ⟨x, hx⟩ : ∃ x, hs[i] = x := ⟨_, rfl⟩
      have hcs := RowsAt.h4 (K := K) hcl i hil
      rw [hx] at hcs
      obtain ⟨k0, k1, k2, k3⟩ := hcs
      have ET := Lib.hid (bears_take hs m i hil)
      rw [hx, G.out] at ET
      have hxm := HH.out hs[i] (List.getElem_mem _)
      rw [hx] at hxm
      clear hcl hx
      by_cases h2 : x.m = 2 ∨ m = 2
      · have hb : bm = false := by
          rw [← HBM.out]
          unfold bearsM
          have h1 : (hs.take (i + 1)).any (fun h => decide (h.m = 2) || decide (m = 2)) = true := by
            rw [ET.out]
            rcases h2 with q | q <;> simp [q]
          have : hs.any (fun h => decide (h.m = 2) || decide (m = 2)) = true := by
            rw [List.any_eq_true] at h1 ⊢
            obtain ⟨y, hy, e⟩ := h1
            exact ⟨y, List.mem_of_mem_take hy, e⟩
          rw [this]
          rfl
        clear HBM
        subst hb
        rcases h2 with q | q
        · have c1 : ((x.m : Int) != 1) = true := by simp; omega
          clear q hxm
          go_wp2
          go_ret
          exact ⟨rfl, rfl⟩
        · have c2 : ((m : Int) != 1) = true := by simp; omega
          rcases hxm with p | p
          · have c1 : ((x.m : Int) != 1) = false := by simp; omega
            clear q p
            go_wp2
            go_ret
            exact ⟨rfl, rfl⟩
          · have c1 : ((x.m : Int) != 1) = true := by simp; omega
            clear q p
            go_wp2
            go_ret
            exact ⟨rfl, rfl⟩
      · have c1 : ((x.m : Int) != 1) = false := by simp; omega
        have c2 : ((m : Int) != 1) = false := by have := HM.out; simp; omega
        have EN : Hid ((hs.take (i + 1)).any (fun h => decide (h.m = 2) || decide (m = 2)) = false) := by
          show _ = _
          rw [ET.out, decide_eq_false (p := x.m = 2) (fun q => h2 (.inl q)), decide_eq_false (p := m = 2) (fun q => h2 (.inr q))]
          rfl
        clear h2 hxm
        go_wp2
        go_roundw
        case rel => exact ⟨i + 1, hil, by go_num, by first | rfl | trivial, EN.out⟩
        case measure => simp [intOf]; omega
    · have hge : (hs.length : Int) ≤ i := by omega
      have hb : bm = true := by
        rw [← HBM.out]
        unfold bearsM
        have := G.out
        rw [List.take_of_length_le (by omega)] at this
        rw [this]
        rfl
      clear HBM
      subst hb
      go_wp2
      go_ret
      exact ⟨rfl, rfl⟩
end Go.Proofs.YtlolfcnfcgegdaaGreat
/- The document's locks: Hold, Want (printed by dfind19.py). -/
namespace Go.Proofs.YtlolfcnfcgegdaaGreat
open Go.RowKit
set_option linter.unusedVariables false
set_option linter.unusedSimpArgs false

set_option maxRecDepth 100000 in
theorem dhold_calls {n : Nat} {G : Nat → Prop} (w : World) (bt c r : Nat) (L : Lk) (h : DRE n G w bt L) (hr : r < 4) :
    Calls Tryz.prog 75 #[.pointer (some ⟨bt, 0, none⟩), .int .i64 (c : Nat), .int .i64 (r : Nat)] w fun e w' => e = .returned (.int .i64 (idxH (fun h => decide (h.c = c)) (L.rg r).hs)) ∧ w = w' := by
  obtain ⟨hv, wv, h⟩ := h
  obtain ⟨_, _, _, _, cc⟩ := h.cells w (Fr.refl _ _)
  obtain ⟨cc0, cc1, _, _⟩ := cc r hr
  have HR := h.hr r hr
  have n4 := (h.ok.rg r).h4
  have hrI : (r : Int) < 4 := by omega
  obtain ⟨ah, ch, eh, _⟩ := HR.form
  rw [eh] at cc0 HR
  obtain ⟨hs, hhs⟩ : ∃ hs, (L.rg r).hs = hs := ⟨_, rfl⟩
  rw [hhs] at cc0 HR n4 ⊢
  have HH := Lib.hid HR
  have HIT := Lib.hid (fun i hi hp h => @idxH_hit (fun h => decide (h.c = c)) hs i hi hp h)
  have NONE := Lib.hid (@idxH_none (fun h => decide (h.c = c)) hs)
  obtain ⟨z, hz⟩ : ∃ z, idxH (fun h => decide (h.c = c)) hs = z := ⟨_, rfl⟩
  rw [hz] at HIT NONE ⊢
  clear h cc HR eh hhs hz cc1
  go_enter Tryz.func75, Tryz.ntmps75
  go_wp2_with fail
  go_loopw [7] (fun v7 wz => ∃ i : Nat, i ≤ hs.length ∧ v7 = .int .i64 i ∧ wz = w ∧ Hid (∀ j, (hj : j < hs.length) → j < i → decide (hs[j].c = c) = false)) (fun v7 _ => hs.length - (intOf v7).toNat)
  case atStart => exact ⟨0, Nat.zero_le _, rfl, rfl, fun j _ hj => absurd hj (Nat.not_lt_zero j)⟩
  case round =>
    obtain ⟨i, hi, rfl, rfl, G⟩ := hrel
    by_cases hil : i < hs.length
    · have hilI : (i : Int) < hs.length := by omega
      obtain ⟨b, off, o, rfl, _, _, hcl⟩ := HH.out.spot (by omega)
      obtain ⟨x, hx⟩ : ∃ x, hs[i] = x := ⟨_, rfl⟩
      have hcs := RowsAt.h4 (K := fun _ _ => True) hcl i hil
      rw [hx] at hcs
      have k0 := hcs.1
      have HX := Lib.hid hx
      clear hcl hcs hx
      by_cases hc : x.c = c
      · have hcI : ((x.c : Int) == (c : Int)) = true := by simp; omega
        have HZ : Hid (z = (i : Nat)) := Lib.hid (HIT.out i hil (by rw [HX.out]; exact decide_eq_true hc) fun j hj hji => G.out j hj hji)
        clear hc
        go_wp2
        go_ret
        rw [HZ.out]
        exact ⟨rfl, rfl⟩
      · have hcI : ((x.c : Int) == (c : Int)) = false := by simp; omega
        have HN : Hid (decide (x.c = c) = false) := Lib.hid (decide_eq_false hc)
        clear hc
        go_wp2
        go_roundw
        case rel =>
          refine ⟨i + 1, hil, by go_num, by first | rfl | trivial, fun j hj hji => ?_⟩
          by_cases e : j = i
          · subst e; rw [HX.out]; exact HN.out
          · exact G.out j hj (by omega)
        case measure => simp [intOf]; omega
    · have hge : (hs.length : Int) ≤ i := by omega
      have HZ : Hid (z = -1) := Lib.hid (NONE.out fun j hj => G.out j hj (by omega))
      go_wp2
      go_ret
      rw [HZ.out]
      exact ⟨rfl, rfl⟩

set_option maxRecDepth 100000 in
theorem dwant_calls {n : Nat} {G : Nat → Prop} (w : World) (bt c r : Nat) (L : Lk) (h : DRE n G w bt L) (hr : r < 4) :
    Calls Tryz.prog 76 #[.pointer (some ⟨bt, 0, none⟩), .int .i64 (c : Nat), .int .i64 (r : Nat)] w fun e w' => e = .returned (.int .i64 (idxW (fun h => decide (h.c = c)) (L.rg r).ws)) ∧ w = w' := by
  obtain ⟨hv, wv, h⟩ := h
  obtain ⟨_, _, _, _, cc⟩ := h.cells w (Fr.refl _ _)
  obtain ⟨cc0, cc1, _, _⟩ := cc r hr
  have HR := h.wr r hr
  have n4 := (h.ok.rg r).w4
  have hrI : (r : Int) < 4 := by omega
  obtain ⟨ah, ch, eh, _⟩ := HR.form
  rw [eh] at cc1 HR
  obtain ⟨hs, hhs⟩ : ∃ hs, (L.rg r).ws = hs := ⟨_, rfl⟩
  rw [hhs] at cc1 HR n4 ⊢
  have HH := Lib.hid HR
  have HIT := Lib.hid (fun i hi hp h => @idxW_hit (fun h => decide (h.c = c)) hs i hi hp h)
  have NONE := Lib.hid (@idxW_none (fun h => decide (h.c = c)) hs)
  obtain ⟨z, hz⟩ : ∃ z, idxW (fun h => decide (h.c = c)) hs = z := ⟨_, rfl⟩
  rw [hz] at HIT NONE ⊢
  clear h cc HR eh hhs hz cc0
  go_enter Tryz.func76, Tryz.ntmps76
  go_wp2_with fail
  go_loopw [7] (fun v7 wz => ∃ i : Nat, i ≤ hs.length ∧ v7 = .int .i64 i ∧ wz = w ∧ Hid (∀ j, (hj : j < hs.length) → j < i → decide (hs[j].c = c) = false)) (fun v7 _ => hs.length - (intOf v7).toNat)
  case atStart => exact ⟨0, Nat.zero_le _, rfl, rfl, fun j _ hj => absurd hj (Nat.not_lt_zero j)⟩
  case round =>
    obtain ⟨i, hi, rfl, rfl, G⟩ := hrel
    by_cases hil : i < hs.length
    · have hilI : (i : Int) < hs.length := by omega
      obtain ⟨b, off, o, rfl, _, _, hcl⟩ := HH.out.spot (by omega)
      obtain ⟨x, hx⟩ : ∃ x, hs[i] = x := ⟨_, rfl⟩
      have hcs := RowsAt.w2 (K := fun _ _ => True) hcl i hil
      rw [hx] at hcs
      have k0 := hcs.1
      have HX := Lib.hid hx
      clear hcl hcs hx
      by_cases hc : x.c = c
      · have hcI : ((x.c : Int) == (c : Int)) = true := by simp; omega
        have HZ : Hid (z = (i : Nat)) := Lib.hid (HIT.out i hil (by rw [HX.out]; exact decide_eq_true hc) fun j hj hji => G.out j hj hji)
        clear hc
        go_wp2
        go_ret
        rw [HZ.out]
        exact ⟨rfl, rfl⟩
      · have hcI : ((x.c : Int) == (c : Int)) = false := by simp; omega
        have HN : Hid (decide (x.c = c) = false) := Lib.hid (decide_eq_false hc)
        clear hc
        go_wp2
        go_roundw
        case rel =>
          refine ⟨i + 1, hil, by go_num, by first | rfl | trivial, fun j hj hji => ?_⟩
          by_cases e : j = i
          · subst e; rw [HX.out]; exact HN.out
          · exact G.out j hj (by omega)
        case measure => simp [intOf]; omega
    · have hge : (hs.length : Int) ≤ i := by omega
      have HZ : Hid (z = -1) := Lib.hid (NONE.out fun j hj => G.out j hj (by omega))
      go_wp2
      go_ret
      rw [HZ.out]
      exact ⟨rfl, rfl⟩

end Go.Proofs.YtlolfcnfcgegdaaGreat
/- The document's locks: held; a step of give, plainly. -/
namespace Go.Proofs.YtlolfcnfcgegdaaGreat
open Go.RowKit
set_option linter.unusedVariables false
set_option linter.unusedSimpArgs false

/-- One step of give. -/
def giveS (L : Lk) (r : Nat) : Option Lk :=
  match (L.rg r).ws with
  | [] => none
  | w :: ws => if (L.rg r).hs.length < 4 ∧ bearsM (L.rg r).hs w.m = true ∧ L.last < topM then some ⟨L.now, L.last + 1, L.rs.set r ⟨(L.rg r).hs ++ [⟨w.c, w.m, L.last + 1, untilM L.now⟩], ws⟩⟩ else none
theorem giveS_none {L : Lk} {r : Nat} (hr : r < L.rs.length) (h : giveS L r = none) : L.give r = L := by
  have e : giveL L.now L.last (L.rg r).hs (L.rg r).ws = (L.last, (L.rg r).hs, (L.rg r).ws) := by
    unfold giveS at h
    cases hw : (L.rg r).ws with
    | nil => rfl
    | cons w ws =>
      rw [hw] at h
      dsimp only at h
      unfold giveL
      split
      · rename_i q; rw [if_pos q] at h; cases h
      · rfl
  unfold Lk.give
  rw [e]
  have := put_same hr
  unfold Lk.put at this
  exact this
theorem giveS_some {L L' : Lk} {r : Nat} (hr : r < L.rs.length) (h : giveS L r = some L') : L.give r = L'.give r ∧ (L'.rg r).ws.length < (L.rg r).ws.length := by
  unfold giveS at h
  cases hw : (L.rg r).ws with
  | nil => rw [hw] at h; cases h
  | cons w ws =>
    rw [hw] at h
    dsimp only at h
    split at h
    · rename_i q
      cases h
      have e1 : (⟨L.now, L.last + 1, L.rs.set r ⟨(L.rg r).hs ++ [⟨w.c, w.m, L.last + 1, untilM L.now⟩], ws⟩⟩ : Lk).rg r = ⟨(L.rg r).hs ++ [⟨w.c, w.m, L.last + 1, untilM L.now⟩], ws⟩ := by rw [rg_set hr, if_pos rfl]
      refine ⟨?_, by rw [e1]; simp⟩
      have e2 : giveL L.now L.last (L.rg r).hs (w :: ws) = giveL L.now (L.last + 1) ((L.rg r).hs ++ [⟨w.c, w.m, L.last + 1, untilM L.now⟩]) ws := by
        conv => lhs; unfold giveL
        rw [if_pos q]
      unfold Lk.give
      rw [hw, e2, e1]
      dsimp only
      rw [List.set_set]
    · cases h
theorem giveS_ok {L L' : Lk} {r : Nat} (h : L.ok) (hr : r < 4) (hs : giveS L r = some L') : L'.ok := by
  unfold giveS at hs
  cases hw : (L.rg r).ws with
  | nil => rw [hw] at hs; cases hs
  | cons w ws =>
    rw [hw] at hs
    dsimp only at hs
    split at hs
    · rename_i q
      cases hs
      have ho := h.rg r
      have hwc := ho.wc w (by rw [hw]; simp)
      refine h.put ⟨by simp; omega, by have := ho.w4; rw [hw] at this; simp at this; show ws.length ≤ 4; omega, fun x hx => ?_, fun x hx => ho.wc x (by rw [hw]; simp [hx]), ?_⟩ h.now (by omega)
      · rcases List.mem_append.1 hx with hx | hx
        · exact ho.hc x hx
        · rw [List.mem_singleton.1 hx]
          exact ⟨hwc.1, hwc.2, by show L.last + 1 ≤ topM; omega, untilM_le _⟩
      · have := ho.nd
        rw [hw] at this
        simp only [List.map_append, List.map_cons, List.map_nil, List.append_assoc, List.singleton_append] at this ⊢
        exact this
    · cases hs
theorem hI_idx (hs : List Ho) (c : Nat) : idxH (fun h => decide (h.c = c)) hs = match hI hs c with | some i => ((i : Nat) : Int) | none => -1 := rfl
set_option maxRecDepth 100000 in
set_option maxHeartbeats 2000000 in
theorem dheld_calls {n : Nat} {G : Nat → Prop} (w : World) (bt c r t : Nat) (L : Lk) (h : DRE n G w bt L) :
    Calls Tryz.prog 79 #[.pointer (some ⟨bt, 0, none⟩), .int .i64 (c : Nat), .int .i64 (r : Nat), .int .u64 (t : Nat)] w fun e w' => e = .returned (.tuple #[.int .i64 ((heldM L c r t).1 : Nat), .int .i64 ((heldM L c r t).2 : Nat)]) ∧ w = w' := by
  have RC := Lib.hid (dright_calls w c r)
  by_cases hr0 : rightM c r = 0
  · have hr4 : r < 4 := right_r (c := c) (fun q => q hr0)
    have HC := Lib.hid (dhold_calls w bt c r L h hr4)
    obtain ⟨hv, wv, h⟩ := h
    obtain ⟨_, _, _, _, cc⟩ := h.cells w (Fr.refl _ _)
    obtain ⟨cc0, cc1, _, _⟩ := cc r hr4
    have HR := h.hr r hr4
    have n4 := (h.ok.rg r).h4
    have hrI : (r : Int) < 4 := by omega
    obtain ⟨ah, ch, eh, _⟩ := HR.form
    rw [eh] at cc0 HR
    have HH := Lib.hid HR
    rw [hr0] at RC
    have EM : Hid (heldM L c r t = match hI (L.rg r).hs c with | some h => if ((L.rg r).hs.getD h default).t = t then (h, 0) else (0, 92) | none => (0, 92)) := by
      show _ = _
      unfold heldM
      rw [if_neg (fun q => q hr0)]
      rfl
    rw [hI_idx] at HC
    generalize (L.rg r).hs = hs at cc0 HR HH HC n4 EM
    clear h cc HR eh hr0 hr4 cc1
    cases hi : hI hs c with
    | none =>
      rw [hi] at HC EM
      dsimp only at HC EM
      go_enter Tryz.func79, Tryz.ntmps79
      go_wp2_with fail
      (with_reducible refine RC.out.mono ?_)
      rintro e w1 ⟨rfl, rfl⟩
      go_wp2_with fail
      (with_reducible refine HC.out.mono ?_)
      rintro e w1 ⟨rfl, rfl⟩
      go_wp2
      go_ret2
      rw [EM.out]
      exact ⟨rfl, rfl⟩
    | some i =>
      rw [hi] at HC EM
      dsimp only at HC EM
      obtain ⟨hil, _⟩ := hI_some hi
      have hilI : (i : Int) < hs.length := by omega
      have hi0 : (0 : Int) ≤ (i : Int) := by omega
      obtain ⟨b, off, o, rfl, _, _, hcl⟩ := HH.out.spot (by omega)
      obtain ⟨x, hx⟩ : ∃ x, hs[i] = x := ⟨_, rfl⟩
      have hcs := RowsAt.h4 (K := fun _ _ => True) hcl i hil
      rw [hx] at hcs
      have k2 := hcs.2.2.1
      have EG : hs.getD i default = x := (getD_at hil).trans hx
      rw [EG] at EM
      clear hcl hcs hx hi EG
      by_cases ht : x.t = t
      · have htI : ((x.t : Int) != (t : Int)) = false := by simp; omega
        rw [if_pos ht] at EM
        clear ht
        go_enter Tryz.func79, Tryz.ntmps79
        go_wp2_with fail
        (with_reducible refine RC.out.mono ?_)
        rintro e w1 ⟨rfl, rfl⟩
        go_wp2_with fail
        (with_reducible refine HC.out.mono ?_)
        rintro e w1 ⟨rfl, rfl⟩
        go_wp2
        go_ret2
        rw [EM.out]
        exact ⟨rfl, rfl⟩
      · have htI : ((x.t : Int) != (t : Int)) = true := by simp; omega
        rw [if_neg ht] at EM
        clear ht
        go_enter Tryz.func79, Tryz.ntmps79
        go_wp2_with fail
        (with_reducible refine RC.out.mono ?_)
        rintro e w1 ⟨rfl, rfl⟩
        go_wp2_with fail
        (with_reducible refine HC.out.mono ?_)
        rintro e w1 ⟨rfl, rfl⟩
        go_wp2
        go_ret2
        rw [EM.out]
        exact ⟨rfl, rfl⟩
  · have EM : Hid (heldM L c r t = (0, rightM c r)) := by
      show _ = _
      unfold heldM
      rw [if_pos hr0]
    have hne : ((rightM c r : Int) != 0) = true := by simp; omega
    generalize rightM c r = e0 at RC EM hne
    clear hr0 h
    go_enter Tryz.func79, Tryz.ntmps79
    go_wp2_with fail
    (with_reducible refine RC.out.mono ?_)
    rintro e w1 ⟨rfl, rfl⟩
    go_wp2
    go_ret2
    rw [EM.out]
    exact ⟨rfl, rfl⟩
end Go.Proofs.YtlolfcnfcgegdaaGreat
/- The document's locks: a step of give (not done: its region 9). -/
namespace Go.Proofs.YtlolfcnfcgegdaaGreat
open Go.RowKit
set_option linter.unusedVariables false
set_option linter.unusedSimpArgs false

set_option maxRecDepth 100000 in
set_option maxHeartbeats 4000000 in
theorem dgive_no {n : Nat} {G : Nat → Prop} (w : World) (bt r : Nat) (L : Lk) (h : DRE n G w bt L) (hr : r < 4) (hn : giveS L r = none) :
    Calls Tryz.prog 107 #[.pointer (some ⟨bt, 0, none⟩), .int .i64 (r : Nat)] w fun e w' => e = .returned (.bool false) ∧ Fr (fun _ _ => True) w w' := by
  obtain ⟨hv, wv, h⟩ := h
  obtain ⟨c0, c1, _, _, cc⟩ := h.cells w (Fr.refl _ _)
  obtain ⟨cc0, cc1, _, _⟩ := cc r hr
  have HR := h.hr r hr
  have WR := h.wr r hr
  have ho := h.ok.rg r
  have n4 := ho.h4
  have n4' := ho.w4
  have hlast := topM_eq ▸ h.ok.last
  have hrI : (r : Int) < 4 := by omega
  obtain ⟨ah, ch, eh, _⟩ := HR.form
  obtain ⟨aw, cw, ew, _⟩ := WR.form
  rw [eh] at cc0 HR
  rw [ew] at cc1 WR
  have HH := Lib.hid HR
  have HW := Lib.hid WR
  have DRH := Lib.hid h
  have HMC := Lib.hid ho.hc
  have WMC := Lib.hid ho.wc
  unfold giveS at hn
  have EV := Lib.hid eh
  have EWV := Lib.hid ew
  obtain ⟨hs, hhs⟩ : ∃ hs, (L.rg r).hs = hs := ⟨_, rfl⟩
  obtain ⟨ws, hws⟩ : ∃ ws, (L.rg r).ws = ws := ⟨_, rfl⟩
  have HHS := Lib.hid hhs
  have HWS := Lib.hid hws
  rw [hhs] at cc0 HR HH n4 hn HMC EV
  rw [hws] at cc1 WR HW n4' hn WMC EWV
  have HRX := Lib.hid hr
  clear h cc HR WR eh ew ho hhs hws hr
  cases ws with
  | nil =>
    rw [List.length_nil] at cc1
    clear hn
    go_enter Tryz.func107, Tryz.ntmps107
    go_wp2
    go_ret
    exact ⟨rfl, Fr.refl _ _⟩
  | cons x xs =>
    dsimp only at hn
    obtain ⟨k, hk⟩ : ∃ k, (x :: xs).length = k := ⟨_, rfl⟩
    have hk0 : ((k : Int) == 0) = false := by rw [List.length_cons] at hk; simp; omega
    have HKK := Lib.hid hk
    rw [hk] at cc1 HW n4' EWV
    clear hk
    by_cases h4 : 4 ≤ hs.length
    · have h4I : (4 : Int) ≤ hs.length := by omega
      clear hn h4 n4
      go_enter Tryz.func107, Tryz.ntmps107
      go_wp2
      go_ret
      exact ⟨rfl, Fr.refl _ _⟩
    · have h4I : ¬ (4 : Int) ≤ hs.length := by omega
      by_cases hl : L.last = topM
      · have hlI : ((L.last : Int) == 18446744073709551615) = true := by rw [hl, topM_eq]; rfl
        clear hn h4 hl hlast
        go_enter Tryz.func107, Tryz.ntmps107
        go_wp2
        go_ret
        exact ⟨rfl, Fr.refl _ _⟩
      · have hlI : ((L.last : Int) == 18446744073709551615) = false := by rw [topM_eq] at hl; simp; omega
        have hbm : bearsM hs x.m = false := by
          cases q : bearsM hs x.m with
          | false => rfl
          | true => rw [if_pos ⟨by omega, q, by rw [topM_eq] at hl ⊢; omega⟩] at hn; cases hn
        have hxm := (WMC.out x (by simp)).2
        have hkI : (0 : Int) < (k : Int) := by have := HKK.out; rw [List.length_cons] at this; omega
        have SP := HW.out
        rw [← HKK.out] at SP
        obtain ⟨b, off, o, rfl, _, _, hcl⟩ := SP.spot (by simp)
        have hcs := RowsAt.w2 (K := fun _ _ => True) hcl 0 (by simp)
        simp only [List.getElem_cons_zero, Nat.zero_mul, Nat.add_zero] at hcs
        obtain ⟨k0, k1⟩ := hcs
        clear hn h4 hl hcl SP
        obtain ⟨W3, hW3⟩ : ∃ W, w.alloc (.cells #[.int .i64 0, .int .i64 0] 114 (0, 0)) = W := ⟨_, rfl⟩
        have FA : Hid (Fr (fun _ _ => True) w W3) := hW3 ▸ (Fr.refl _ _).alloc _
        have XA : Hid (W3.heap[w.heap.size]? = some (.cells #[.int .i64 0, .int .i64 0] 114 (0, 0))) := hW3 ▸ heap_alloc_new w _
        have q0 := cell_mk (i := 0) XA.out rfl
        have q1 := cell_mk (i := 1) XA.out rfl
        have z0 := frozen_mk (i := 0) XA.out
        have z1 := frozen_mk (i := 1) XA.out
        obtain ⟨v3, hWZ, TZ, FZ⟩ := set2 XA.out (.int .i64 (x.c : Nat)) (.int .i64 (x.m : Nat))
        have FV : Hid (Fr (fun _ _ => True) w v3) := Lib.hid (Fr.within ((FA.out.mono fun _ _ _ => trivial).trans (FZ.mono fun c _ h e => by have := h.2; omega)))
        have D3 := Lib.hid (DRH.out.tt FV.out)
        have T3 := Lib.hid TZ
        clear FA XA TZ FZ
        go_enter Tryz.func107, Tryz.ntmps107
        go_upto_region 4 with fail
        try rw [hWZ]
        clear hWZ hW3 q0 q1 z0 z1 k0 k1 c0 c1 cc0 cc1
        obtain ⟨bh, hbh⟩ : ∃ m, w.heap.size = m := ⟨_, rfl⟩
        rw [hbh] at T3 ⊢
        clear hbh
        have e1 := cell_mk (i := 1) T3.out rfl
        have cc0 : v3.cell? ⟨bt, 2 + r, none⟩ = some (.slice ah hs.length ch) := EV.out ▸ ((D3.out.cells v3 (Fr.refl _ _)).2.2.2.2 r HRX.out).1
        have BC : Hid (∀ k, Calls Tryz.prog 121 #[.slice ah hs.length ch, .int .i64 (x.m : Nat)] (v3.drewN k) fun e w' => e = .returned (.bool false) ∧ w' = v3.drewN k) := Lib.hid fun k => (dbears_calls (v3.drewN k) ah ch hs x.m ((HH.out.tt FV.out).tt ((Fr.refl _ _).drewN k)) (by omega) hxm fun y hy => (HMC.out y hy).2.1).mono fun e w' ⟨h1, h2⟩ => ⟨by rw [h1, hbm], h2.symm⟩
        clear hxm
        go_quiet ((go_at_call 121; exact Calls.quiet_of_same (BC.out _)))
        go_wp2
        go_ret
        exact ⟨rfl, FV.out.trans ((Fr.refl _ _).drewN _)⟩
end Go.Proofs.YtlolfcnfcgegdaaGreat
