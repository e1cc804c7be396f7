/- Texts of the proofs, part 27: what the functions that they reach do, walked; no conditions beyond those that each states. -/
import Derived.Deep.RegionLaw
import Derived.Deep.QuietTactic
import Derived.BigQuiet
import Derived.Test.YtlolfcnfcgegdaaGreatZzc4a83d567e
set_option linter.unusedVariables false
set_option linter.unusedSimpArgs false
/- The locks' Unpack, plainly, and what it builds, in memory. -/
namespace Go.Proofs.YtlolfcnfcgegdaaGreat
open Go.RowKit
set_option linter.unusedVariables false
set_option linter.unusedSimpArgs false

/-- A reader's state: the bytes left, and whether it is short. -/
abbrev Rs := List UInt8 × Bool
def num2 (p : Rs) (n : Nat) : Nat × Rs := numR p.1 p.2 n
def holdU (p : Rs) : Ho × Rs :=
  (⟨(num2 p 1).1, (num2 (num2 p 1).2 1).1, (num2 (num2 (num2 p 1).2 1).2 8).1, (num2 (num2 (num2 (num2 p 1).2 1).2 8).2 8).1⟩, (num2 (num2 (num2 (num2 p 1).2 1).2 8).2 8).2)
structure UB where
  p : Rs
  ok : Bool
  tk : List Int
  hs : List Ho
def tI (n : Nat) : Int := ((n : Nat) : Int)
def okT (last : Nat) (tk : List Int) (t : Nat) : Bool := decide (0 < t) && decide (t ≤ last) && !(hasI tk (tI t))
def stepH (last : Nat) (u : UB) : UB := ⟨(holdU u.p).2, u.ok && okT last u.tk (holdU u.p).1.t, u.tk ++ [tI (holdU u.p).1.t], u.hs ++ [(holdU u.p).1]⟩
def hsU (last : Nat) (u : UB) : Nat → UB
  | 0 => u
  | i + 1 => stepH last (hsU last u i)
def stepW (v : Rs × List Wa) : Rs × List Wa := ((num2 (num2 v.1 1).2 1).2, v.2 ++ [⟨(num2 v.1 1).1, (num2 (num2 v.1 1).2 1).1⟩])
def wsU (v : Rs × List Wa) : Nat → Rs × List Wa
  | 0 => v
  | i + 1 => stepW (wsU v i)
structure UR where
  p : Rs
  ok : Bool
  tk : List Int
  L : Lk
def rgH (u : UR) : UB := hsU u.L.last ⟨(num2 u.p 1).2, u.ok, u.tk, []⟩ (num2 u.p 1).1
def rgW (u : UR) : Rs × List Wa := wsU ((num2 (rgH u).p 1).2, []) (num2 (rgH u).p 1).1
def rgU (u : UR) (r : Nat) : UR := ⟨(rgW u).1, (rgH u).ok && checkM ⟨(rgH u).hs, (rgW u).2⟩, (rgH u).tk, u.L.put r ⟨(rgH u).hs, (rgW u).2⟩⟩
def rgsU (u : UR) : Nat → UR
  | 0 => u
  | r + 1 => rgU (rgsU u r) r
def lkU0 (b : List UInt8) : UR := ⟨(num2 (num2 (b, false) 8).2 8).2, true, [], ⟨(num2 (b, false) 8).1, (num2 (num2 (b, false) 8).2 8).1, [⟨[], []⟩, ⟨[], []⟩, ⟨[], []⟩, ⟨[], []⟩]⟩⟩
def codeU (u : UR) : Int := if endL u.p.1 u.p.2 = 0 ∧ u.ok = false then 1 else endL u.p.1 u.p.2
/-- The table of bytes, and what is wrong with them. -/
def lkU (b : List UInt8) : Int × Lk := (codeU (rgsU (lkU0 b) 4), (rgsU (lkU0 b) 4).L)
theorem hsU_len (last : Nat) (u : UB) : ∀ i, (hsU last u i).hs.length = u.hs.length + i ∧ (hsU last u i).tk.length = u.tk.length + i
  | 0 => ⟨rfl, rfl⟩
  | i + 1 => by
    have := hsU_len last u i
    unfold hsU stepH
    constructor
    · show ((hsU last u i).hs ++ [_]).length = _; rw [List.length_append, this.1]; rfl
    · show ((hsU last u i).tk ++ [_]).length = _; rw [List.length_append, this.2]; rfl
theorem wsU_len (v : Rs × List Wa) : ∀ i, (wsU v i).2.length = v.2.length + i
  | 0 => rfl
  | i + 1 => by
    have := wsU_len v i
    unfold wsU stepW
    show ((wsU v i).2 ++ [_]).length = _; rw [List.length_append, this]; rfl
theorem num2_len (p : Rs) (n : Nat) : (num2 p n).2.1.length ≤ p.1.length := numR_len _ _ _
theorem holdU_len (p : Rs) : (holdU p).2.1.length ≤ p.1.length := by
  unfold holdU
  exact Nat.le_trans (num2_len _ _) (Nat.le_trans (num2_len _ _) (Nat.le_trans (num2_len _ _) (num2_len _ _)))
theorem hsU_plen (last : Nat) (u : UB) : ∀ i, (hsU last u i).p.1.length ≤ u.p.1.length
  | 0 => Nat.le_refl _
  | i + 1 => Nat.le_trans (holdU_len _) (hsU_plen last u i)
theorem wsU_plen (v : Rs × List Wa) : ∀ i, (wsU v i).1.1.length ≤ v.1.1.length
  | 0 => Nat.le_refl _
  | i + 1 => Nat.le_trans (Nat.le_trans (num2_len _ _) (num2_len _ _)) (wsU_plen v i)
theorem put_put (L : Lk) (i : Nat) (a b : Rgn) : (L.put i a).put i b = L.put i b := by unfold Lk.put; simp
theorem put_same {L : Lk} {i : Nat} (hi : i < L.rs.length) : L.put i (L.rg i) = L := by
  unfold Lk.put Lk.rg
  have : L.rs.set i (L.rs.getD i ⟨[], []⟩) = L.rs := by
    rw [List.getD_eq_getElem?_getD, List.getElem?_eq_getElem hi]
    exact List.set_getElem_self hi
  rw [this]
theorem put_len (L : Lk) (i : Nat) (a : Rgn) : (L.put i a).rs.length = L.rs.length := by unfold Lk.put; simp

/-- A table that is built: all its rows are its own. -/
structure UT (n : Nat) (w : World) (bt : Nat) (hv wv : Nat → Value) (L : Lk) : Prop where
  top : w.heap[bt]? = some (.cells #[.int .u64 (L.now : Nat), .int .u64 (L.last : Nat), hv 0, wv 0, hv 1, wv 1, hv 2, wv 2, hv 3, wv 3] 66 (0, 0))
  hr : ∀ i, i < 4 → w.ownsRow n 112 4 (hv i) (L.rg i).hs.length ((L.rg i).hs.flatMap encH)
  wr : ∀ i, i < 4 → w.ownsRow n 114 2 (wv i) (L.rg i).ws.length ((L.rg i).ws.flatMap encW)
  sep : ∀ i j, i < 4 → j < 4 → i ≠ j → ∀ c, (hv i).ownBlock = some c → (hv j).ownBlock ≠ some c
  sepw : ∀ i j, i < 4 → j < 4 → i ≠ j → ∀ c, (wv i).ownBlock = some c → (wv j).ownBlock ≠ some c
  four : L.rs.length = 4
  le : n ≤ bt
section
variable {n : Nat} {w w' : World} {bt : Nat} {hv wv : Nat → Value} {L : Lk}
def KTU (n bt : Nat) (c : Nat) (o : Obj) : Prop := n ≤ c ∧ (c = bt ∨ (∃ cs fz, o = .cells cs 112 fz) ∨ ∃ cs fz, o = .cells cs 114 fz)
theorem UT.frk {K : Nat → Obj → Prop} (h : UT n w bt hv wv L) (f : Fr K w w') (hk : ∀ c o, w.heap[c]? = some o → KTU n bt c o → K c o) : UT n w' bt hv wv L :=
  ⟨f.keep _ _ h.top (hk _ _ h.top ⟨h.le, .inl rfl⟩), fun i hi => ownsRow_fr (h.hr i hi) f fun b o e ho => by
    obtain ⟨cur, hc⟩ := own_tag (h.hr i hi) e
    exact hk _ _ ho ⟨own_above (h.hr i hi) e, .inr (.inl ⟨cur, _, Option.some.inj (ho.symm.trans hc)⟩)⟩, fun i hi => ownsRow_fr (h.wr i hi) f fun b o e ho => by
    obtain ⟨cur, hc⟩ := own_tag (h.wr i hi) e
    exact hk _ _ ho ⟨own_above (h.wr i hi) e, .inr (.inr ⟨cur, _, Option.some.inj (ho.symm.trans hc)⟩)⟩, h.sep, h.sepw, h.four, h.le⟩
theorem UT.tt (h : UT n w bt hv wv L) (f : Fr (fun _ _ => True) w w') : UT n w' bt hv wv L := h.frk f fun _ _ _ _ => trivial
/-- A block of another type may be written. -/
theorem UT.other (h : UT n w bt hv wv L) {m : Nat} {cs : Array Value} {t : TypeId} {fz : Nat × Nat} (hm : w.heap[m]? = some (.cells cs t fz)) (ht : t ≠ 66 ∧ t ≠ 112 ∧ t ≠ 114) : ∀ c o, w.heap[c]? = some o → KTU n bt c o → c ≠ m := fun c o ho hk e => by
  subst e
  rw [hm] at ho
  cases ho
  rcases hk.2 with rfl | ⟨_, _, q⟩ | ⟨_, _, q⟩
  · rw [h.top] at hm; cases hm; exact ht.1 rfl
  · cases q; exact ht.2.1 rfl
  · cases q; exact ht.2.2 rfl
theorem UT.hne (h : UT n w bt hv wv L) {i : Nat} (hi : i < 4) : (hv i).ownBlock ≠ some bt := fun e => by
  obtain ⟨cur, hc⟩ := own_tag (h.hr i hi) e
  rw [h.top] at hc
  cases hc
theorem UT.wne (h : UT n w bt hv wv L) {i : Nat} (hi : i < 4) : (wv i).ownBlock ≠ some bt := fun e => by
  obtain ⟨cur, hc⟩ := own_tag (h.wr i hi) e
  rw [h.top] at hc
  cases hc
theorem UT.hw (h : UT n w bt hv wv L) {i j : Nat} (hi : i < 4) (hj : j < 4) : ∀ c, (hv i).ownBlock = some c → (wv j).ownBlock ≠ some c := fun c e => own_ne (h.hr i hi) (h.wr j hj) (by decide) e |> fun q e2 => q e2 rfl
theorem UT.cells (h : UT n w bt hv wv L) (W : World) (f : Fr (fun _ _ => True) w W) : W.cell? ⟨bt, 1, none⟩ = some (.int .u64 (L.last : Nat)) ∧ ∀ i, i < 4 → W.cell? ⟨bt, 2 + i * 2, none⟩ = some (hv i) ∧ W.cell? ⟨bt, 2 + i * 2 + 1, none⟩ = some (wv i) ∧ W.frozen? ⟨bt, 2 + i * 2, none⟩ = false ∧ W.frozen? ⟨bt, 2 + i * 2 + 1, none⟩ = false := by
  have t := f.keep _ _ h.top trivial
  refine ⟨cell_mk t rfl, fun i hi => ?_⟩
  match i, hi with
  | 0, _ => exact ⟨cell_mk t rfl, cell_mk t rfl, frozen_mk t, frozen_mk t⟩
  | 1, _ => exact ⟨cell_mk t rfl, cell_mk t rfl, frozen_mk t, frozen_mk t⟩
  | 2, _ => exact ⟨cell_mk t rfl, cell_mk t rfl, frozen_mk t, frozen_mk t⟩
  | 3, _ => exact ⟨cell_mk t rfl, cell_mk t rfl, frozen_mk t, frozen_mk t⟩
/-- A region's holds are written. -/
theorem UT.setH (h : UT n w bt hv wv L) {w1 : World} {i : Nat} (hi : i < 4) (v : Value) (hs : List Ho) (hn : n ≤ w.heap.size) (f : Fr (fun c _ => (hv i).ownBlock ≠ some c) w w1) (o : w1.ownsRow 0 112 4 v hs.length (hs.flatMap encH)) (nx : OwnNext w (hv i) v) :
    w1.cell? ⟨bt, 2 + i * 2, none⟩ = some (hv i) ∧ w1.frozen? ⟨bt, 2 + i * 2, none⟩ = false ∧ UT n (w1.setCell ⟨bt, 2 + i * 2, none⟩ v) bt (fun j => if j = i then v else hv j) wv (L.put i ⟨hs, (L.rg i).ws⟩) ∧ Fr (fun c _ => (hv i).ownBlock ≠ some c ∧ c ≠ bt) w (w1.setCell ⟨bt, 2 + i * 2, none⟩ v) := by
  have nb := h.hne hi
  have t1 := f.keep _ _ h.top nb
  have F : Fr (fun c _ => (hv i).ownBlock ≠ some c ∧ c ≠ bt) w (w1.setCell ⟨bt, 2 + i * 2, none⟩ v) := (f.mono fun _ _ h => h.1).setCell (fun _ _ h => h.2 rfl) _
  have vb : v.ownBlock ≠ some bt := nx.ne nb (lt_of_some h.top)
  have hc1 : w1.cell? ⟨bt, 2 + i * 2, none⟩ = some (hv i) := by
    match i, hi with
    | 0, _ => exact cell_mk t1 rfl
    | 1, _ => exact cell_mk t1 rfl
    | 2, _ => exact cell_mk t1 rfl
    | 3, _ => exact cell_mk t1 rfl
  have vn : ∀ k, v.ownBlock = some k → n ≤ k := fun k e => by
    rcases nx with q | ⟨k', q, hk⟩
    · exact own_above (h.hr i hi) (q ▸ e)
    · rw [q] at e; cases e; omega
  have hlen : i < L.rs.length := by rw [h.four]; exact hi
  refine ⟨hc1, frozen_mk t1, ⟨?_, fun j hj => ?_, fun j hj => ?_, fun j k hj hk hjk c e => ?_, h.sepw, by rw [put_len]; exact h.four, h.le⟩, F⟩
  · have := heap_setCell_same (o := 2 + i * 2) t1 v
    rw [this]
    match i, hi with
    | 0, _ => rfl
    | 1, _ => rfl
    | 2, _ => rfl
    | 3, _ => rfl
  · rw [put_rg hlen]
    split
    · exact ownsRow_setCell_ne (own_basew o vn) vb _
    · rename_i e
      exact ownsRow_fr (h.hr j hj) F fun b o eb _ => ⟨fun q => h.sep i j hi hj (fun x => e x.symm) b q eb, fun q => h.hne hj (q ▸ eb)⟩
  · rw [put_rg hlen]
    have hwj : (if j = i then (⟨hs, (L.rg i).ws⟩ : Rgn) else L.rg j).ws = (L.rg j).ws := by split <;> (try rename_i e; try subst e) <;> rfl
    rw [hwj]
    exact ownsRow_fr (h.wr j hj) F fun b o eb _ => ⟨fun q => h.hw hi hj b q eb, fun q => h.wne hj (q ▸ eb)⟩
  · have hin : ∀ m, m < 4 → m ≠ i → ∀ c, v.ownBlock = some c → (hv m).ownBlock ≠ some c := fun m hm hmi c e q => by
      rcases nx with x | ⟨k', x, hk⟩
      · exact h.sep i m hi hm (fun y => hmi y.symm) c (x ▸ e) q
      · rw [x] at e
        cases e
        obtain ⟨cur, hc⟩ := own_tag (h.hr m hm) q
        have := lt_of_some hc
        omega
    try dsimp only at e ⊢
    by_cases e1 : j = i
    · rw [if_pos e1] at e
      rw [if_neg (fun x => hjk (e1.trans x.symm))]
      exact hin k hk (fun x => hjk (e1.trans x.symm)) c e
    · rw [if_neg e1] at e
      by_cases e2 : k = i
      · rw [if_pos e2]
        exact fun q => hin j hj e1 c q e
      · rw [if_neg e2]
        exact h.sep j k hj hk hjk c e
/-- A region's wants are written. -/
theorem UT.setW (h : UT n w bt hv wv L) {w1 : World} {i : Nat} (hi : i < 4) (v : Value) (ws : List Wa) (hn : n ≤ w.heap.size) (f : Fr (fun c _ => (wv i).ownBlock ≠ some c) w w1) (o : w1.ownsRow 0 114 2 v ws.length (ws.flatMap encW)) (nx : OwnNext w (wv i) v) :
    w1.cell? ⟨bt, 2 + i * 2 + 1, none⟩ = some (wv i) ∧ w1.frozen? ⟨bt, 2 + i * 2 + 1, none⟩ = false ∧ UT n (w1.setCell ⟨bt, 2 + i * 2 + 1, none⟩ v) bt hv (fun j => if j = i then v else wv j) (L.put i ⟨(L.rg i).hs, ws⟩) ∧ Fr (fun c _ => (wv i).ownBlock ≠ some c ∧ c ≠ bt) w (w1.setCell ⟨bt, 2 + i * 2 + 1, none⟩ v) := by
  have nb := h.wne hi
  have t1 := f.keep _ _ h.top nb
  have F : Fr (fun c _ => (wv i).ownBlock ≠ some c ∧ c ≠ bt) w (w1.setCell ⟨bt, 2 + i * 2 + 1, none⟩ v) := (f.mono fun _ _ h => h.1).setCell (fun _ _ h => h.2 rfl) _
  have vb : v.ownBlock ≠ some bt := nx.ne nb (lt_of_some h.top)
  have hc1 : w1.cell? ⟨bt, 2 + i * 2 + 1, none⟩ = some (wv i) := by
    match i, hi with
    | 0, _ => exact cell_mk t1 rfl
    | 1, _ => exact cell_mk t1 rfl
    | 2, _ => exact cell_mk t1 rfl
    | 3, _ => exact cell_mk t1 rfl
  have vn : ∀ k, v.ownBlock = some k → n ≤ k := fun k e => by
    rcases nx with q | ⟨k', q, hk⟩
    · exact own_above (h.wr i hi) (q ▸ e)
    · rw [q] at e; cases e; omega
  have hlen : i < L.rs.length := by rw [h.four]; exact hi
  refine ⟨hc1, frozen_mk t1, ⟨?_, fun j hj => ?_, fun j hj => ?_, h.sep, fun j k hj hk hjk c e => ?_, by rw [put_len]; exact h.four, h.le⟩, F⟩
  · have := heap_setCell_same (o := 2 + i * 2 + 1) t1 v
    rw [this]
    match i, hi with
    | 0, _ => rfl
    | 1, _ => rfl
    | 2, _ => rfl
    | 3, _ => rfl
  · rw [put_rg hlen]
    have hwj : (if j = i then (⟨(L.rg i).hs, ws⟩ : Rgn) else L.rg j).hs = (L.rg j).hs := by split <;> (try rename_i e; try subst e) <;> rfl
    rw [hwj]
    exact ownsRow_fr (h.hr j hj) F fun b o eb _ => ⟨fun q => h.hw hj hi b eb q, fun q => h.hne hj (q ▸ eb)⟩
  · rw [put_rg hlen]
    split
    · exact ownsRow_setCell_ne (own_basew o vn) vb _
    · rename_i e
      exact ownsRow_fr (h.wr j hj) F fun b o eb _ => ⟨fun q => h.sepw i j hi hj (fun x => e x.symm) b q eb, fun q => h.wne hj (q ▸ eb)⟩
  · have hin : ∀ m, m < 4 → m ≠ i → ∀ c, v.ownBlock = some c → (wv m).ownBlock ≠ some c := fun m hm hmi c e q => by
      rcases nx with x | ⟨k', x, hk⟩
      · exact h.sepw i m hi hm (fun y => hmi y.symm) c (x ▸ e) q
      · rw [x] at e
        cases e
        obtain ⟨cur, hc⟩ := own_tag (h.wr m hm) q
        have := lt_of_some hc
        omega
    try dsimp only at e ⊢
    by_cases e1 : j = i
    · rw [if_pos e1] at e
      rw [if_neg (fun x => hjk (e1.trans x.symm))]
      exact hin k hk (fun x => hjk (e1.trans x.symm)) c e
    · rw [if_neg e1] at e
      by_cases e2 : k = i
      · rw [if_pos e2]
        exact fun q => hin j hj e1 c q e
      · rw [if_neg e2]
        exact h.sepw j k hj hk hjk c e
end
/-- What Unpack has at hand: the reader, the table, the tokens. -/
structure UU (W0 w : World) (br bt : Nat) (hv wv : Nat → Value) (p : Rs) (tv : Value) (tk : List Int) (L : Lk) : Prop where
  lr : LR W0 w br p.1 p.2
  ut : UT W0.heap.size w bt hv wv L
  tk : RowU w W0.heap.size tv tk
section
variable {W0 w w' : World} {br bt : Nat} {hv wv : Nat → Value} {p : Rs} {tv : Value} {tk : List Int} {L : Lk}
theorem LR.top {bs : List UInt8} {sh : Bool} (h : LR W0 w br bs sh) : ∃ cs, w.heap[br]? = some (.cells cs 146 (0, 0)) := by
  obtain ⟨v, hv⟩ := h.at'
  exact ⟨_, hv.top⟩
theorem UU.tt (h : UU W0 w br bt hv wv p tv tk L) (f : Fr (fun _ _ => True) w w') : UU W0 w' br bt hv wv p tv tk L := ⟨h.lr.tt f, h.ut.tt f, h.tk.tt f⟩
theorem UU.number (h : UU W0 w br bt hv wv p tv tk L) {p' : Rs} (l : LR W0 w' br p'.1 p'.2) (f : Fr (fun c _ => c ≠ br) w w') : UU W0 w' br bt hv wv p' tv tk L := by
  obtain ⟨cs, ht⟩ := h.lr.top
  refine ⟨l, h.ut.frk f (h.ut.other ht (by decide)), ownsRow_fr h.tk f fun b o e ho q => ?_⟩
  obtain ⟨cur, hc⟩ := own_tag h.tk e
  rw [q, ht] at hc
  cases hc
theorem UU.tokens (h : UU W0 w br bt hv wv p tv tk L) {tv' : Value} {tk' : List Int} (r : RowU w' W0.heap.size tv' tk') (f : Fr (fun c _ => tv.ownBlock ≠ some c) w w') : UU W0 w' br bt hv wv p tv' tk' L := by
  obtain ⟨cs, ht⟩ := h.lr.top
  refine ⟨h.lr.frk f fun c o hc e => ?_, h.ut.frk f fun c o ho hk e => ?_, r⟩
  · rcases hc with rfl | hc
    · obtain ⟨cur, q⟩ := own_tag h.tk e
      rw [ht] at q
      cases q
    · have := own_above h.tk e; omega
  · obtain ⟨cur, q⟩ := own_tag h.tk e
    exact h.ut.other q (by decide) c o ho hk rfl
theorem UU.setH (h : UU W0 w br bt hv wv p tv tk L) {w1 : World} {i : Nat} (hi : i < 4) (v : Value) (hs : List Ho) (f : Fr (fun c _ => (hv i).ownBlock ≠ some c) w w1) (o : w1.ownsRow 0 112 4 v hs.length (hs.flatMap encH)) (nx : OwnNext w (hv i) v) :
    w1.cell? ⟨bt, 2 + i * 2, none⟩ = some (hv i) ∧ w1.frozen? ⟨bt, 2 + i * 2, none⟩ = false ∧ UU W0 (w1.setCell ⟨bt, 2 + i * 2, none⟩ v) br bt (fun j => if j = i then v else hv j) wv p tv tk (L.put i ⟨hs, (L.rg i).ws⟩) := by
  obtain ⟨c1, c2, u, F⟩ := h.ut.setH hi v hs h.lr.fr.size f o nx
  obtain ⟨cs, ht⟩ := h.lr.top
  refine ⟨c1, c2, h.lr.frk F fun c o hc => ?_, u, ownsRow_fr h.tk F fun b o e ho => ?_⟩
  · rcases hc with rfl | hc
    · refine ⟨fun e => ?_, fun e => ?_⟩
      · obtain ⟨cur, q⟩ := own_tag (h.ut.hr i hi) e; rw [ht] at q; cases q
      · rw [e, h.ut.top] at ht; cases ht
    · refine ⟨fun e => ?_, fun e => ?_⟩
      · have := own_above (h.ut.hr i hi) e; omega
      · have := h.ut.le; omega
  · obtain ⟨cur, q⟩ := own_tag h.tk e
    refine ⟨fun e2 => ?_, fun e2 => ?_⟩
    · obtain ⟨cur2, q2⟩ := own_tag (h.ut.hr i hi) e2; rw [q] at q2; cases q2
    · rw [e2, h.ut.top] at q; cases q
theorem UU.setW (h : UU W0 w br bt hv wv p tv tk L) {w1 : World} {i : Nat} (hi : i < 4) (v : Value) (ws : List Wa) (f : Fr (fun c _ => (wv i).ownBlock ≠ some c) w w1) (o : w1.ownsRow 0 114 2 v ws.length (ws.flatMap encW)) (nx : OwnNext w (wv i) v) :
    w1.cell? ⟨bt, 2 + i * 2 + 1, none⟩ = some (wv i) ∧ w1.frozen? ⟨bt, 2 + i * 2 + 1, none⟩ = false ∧ UU W0 (w1.setCell ⟨bt, 2 + i * 2 + 1, none⟩ v) br bt hv (fun j => if j = i then v else wv j) p tv tk (L.put i ⟨(L.rg i).hs, ws⟩) := by
  obtain ⟨c1, c2, u, F⟩ := h.ut.setW hi v ws h.lr.fr.size f o nx
  obtain ⟨cs, ht⟩ := h.lr.top
  refine ⟨c1, c2, h.lr.frk F fun c o hc => ?_, u, ownsRow_fr h.tk F fun b o e ho => ?_⟩
  · rcases hc with rfl | hc
    · refine ⟨fun e => ?_, fun e => ?_⟩
      · obtain ⟨cur, q⟩ := own_tag (h.ut.wr i hi) e; rw [ht] at q; cases q
      · rw [e, h.ut.top] at ht; cases ht
    · refine ⟨fun e => ?_, fun e => ?_⟩
      · have := own_above (h.ut.wr i hi) e; omega
      · have := h.ut.le; omega
  · obtain ⟨cur, q⟩ := own_tag h.tk e
    refine ⟨fun e2 => ?_, fun e2 => ?_⟩
    · obtain ⟨cur2, q2⟩ := own_tag (h.ut.wr i hi) e2; rw [q] at q2; cases q2
    · rw [e2, h.ut.top] at q; cases q
end
end Go.Proofs.YtlolfcnfcgegdaaGreat
/- The locks: Unpack (printed by lkunpack19.py). -/
namespace Go.Proofs.YtlolfcnfcgegdaaGreat
open Go.RowKit
set_option linter.unusedVariables false
set_option linter.unusedSimpArgs false

/-- An append of a want, at a step of a region that draws its order. -/
theorem step_append_wa {ops : Array Oper} {o : Oper} {a : Act} {K : Act → World → Prop} {Q : Exit → Act → World → Prop} {E : Prop} (W : World) (hgd : o.guard = none) (s x : Operand)
    (ho : o.op = .call { callee := .builtin .append, args := #[s, x], argTypes := #[61, 61] }) (v : Value) (T : List Wa) (hs : a.eval s = v) (hown : Hid (W.ownsRow 0 114 2 v T.length (T.flatMap encW)))
    (b : Nat) (hx : a.eval x = .slice (some ⟨b, 0, none⟩) 1 1) (y : Wa) (hvx : Hid (W.heap[b]? = some (.cells #[.int .i64 (y.c : Nat), .int .i64 (y.m : Nat)] 114 (0, 0)))) (hn : T.length ≤ 1000000)
    (h : ∀ g cap w', Hid (w'.ownsRow 0 114 2 (.slice (some ⟨g, 0, none⟩) (T.length + 1) cap) (T.length + 1) ((T ++ [y]).flatMap encW)) → Hid (W.grownBy w' v.ownBlock) → Hid (OwnNext W v (.slice (some ⟨g, 0, none⟩) (T.length + 1) cap)) → K (a.put o.dst (.slice (some ⟨g, 0, none⟩) (T.length + 1) cap)) w') :
    if Region.wanted o (yielded ops a.tmps) = true then Oper.wp Tryz.prog o a W K Q else E := by
  obtain ⟨i0, hi, hz0, hz1, hz2⟩ := info_parts info_wa
  refine step_append_lies W hgd s x 61 ho 0 114 i0 _ 2 16 Tryz.underlying61 hi hz0 hz1 hz2 rfl (by decide) v T.length (T.flatMap encW) hs hown.out ⟨b, 0, none⟩ 1 1 (encW y) hx rfl
    (World.news_of_block hvx.out) (encW_one y) (by decide) (by unfold maxLen; omega) (by omega) (Nat.zero_le _) _ rfl ?_
  intro g cap w' h1 h2 h3 h4
  rw [flat_snoc encW T y] at h1
  refine h g cap w' h1 h2 ?_
  rcases h3 with h3 | h3
  · exact .inl h3.symm
  · exact .inr ⟨g, rfl, by omega⟩
theorem num2_lt (p : Rs) (n : Nat) : (num2 p n).1 < 256 ^ n := numR_lt _ _ _
set_option maxRecDepth 100000 in
set_option maxHeartbeats 8000000 in
theorem lkunpack_calls {K : Nat → Obj → Prop} (w : World) (v : Value) (b : List UInt8) (hb : BytesAt K w v b) (hm : b.length ≤ 1000000) :
    Calls Tryz.prog 55 #[v] w fun e w' => (((lkU b).1 ≠ 0 ∧ e = .returned (.tuple #[.pointer none, .int .i64 (lkU b).1])) ∨ ((lkU b).1 = 0 ∧ ∃ bt hv wv, e = .returned (.tuple #[.pointer (some ⟨bt, 0, none⟩), .int .i64 0]) ∧ UT w.heap.size w' bt hv wv (lkU b).2)) ∧ Fr (fun _ _ => True) w w' := by
  obtain ⟨av, cv, rfl⟩ := hb.form
  obtain ⟨W2, hW2⟩ : ∃ W, w.alloc (.cells #[.slice av b.length cv, .bool false] 146 (0, 0)) = W := ⟨_, rfl⟩
  have l0 : LR w W2 w.heap.size b false := hW2 ▸ LR.mk0 (Fr.refl _ _) hb
  have HLEN := Lib.hid hm
  have RC := Lib.hid (read_calls w av b.length cv)
  rw [hW2] at RC
  clear hm hb hW2
  obtain ⟨U0, hU0⟩ : ∃ u, lkU0 b = u := ⟨_, rfl⟩
  have HU0 := Lib.hid hU0
  obtain ⟨now, p1, e1⟩ : ∃ x p, num2 (b, false) 8 = (x, p) := ⟨_, _, rfl⟩
  obtain ⟨last, p2, e2⟩ : ∃ x p, num2 p1 8 = (x, p) := ⟨_, _, rfl⟩
  have g1 := num2_len (b, false) 8
  have g2 := num2_len p1 8
  have b1 := num2_lt (b, false) 8
  have b2 := num2_lt p1 8
  rw [e1] at g1 b1
  rw [e2] at g2 b2
  dsimp only at g1 g2 b1 b2
  have EU0 : Hid (U0 = ⟨p2, true, [], ⟨now, last, [⟨[], []⟩, ⟨[], []⟩, ⟨[], []⟩, ⟨[], []⟩]⟩⟩) := by
    show _ = _
    rw [← hU0]
    unfold lkU0
    rw [e1]
    dsimp only
    rw [e2]
  have ELK : Hid (lkU b = (codeU (rgsU U0 4), (rgsU U0 4).L)) := by show _ = _; unfold lkU; rw [hU0]
  have C1 := Lib.hid (lr_number w W2 w.heap.size b false 8 8 rfl l0 (by omega) (by omega) (by have := HLEN.out; omega) now p1.1 p1.2 e1)
  clear hU0 HU0 e1
  rw [ELK.out]
  go_enter Tryz.func55, Tryz.ntmps55
  go_wp2_with fail
  (with_reducible refine RC.out.mono ?_)
  rintro e w1 ⟨rfl, rfl⟩
  go_wp2_with fail
  (with_reducible refine C1.out.mono ?_)
  rintro e w2 ⟨rfl, l1, f1⟩
  have C2 := Lib.hid (lr_number w w2 w.heap.size p1.1 p1.2 8 8 rfl l1 (by omega) (by omega) (by have := HLEN.out; omega) last p2.1 p2.2 e2)
  clear l0 l1 f1 C1 RC e2
  go_wp2_with fail
  (with_reducible refine C2.out.mono ?_)
  rintro e w3 ⟨rfl, l2, f2⟩
  obtain ⟨W4, hW4⟩ : ∃ W, w3.alloc (.cells #[.int .u64 (now : Nat), .int .u64 (last : Nat), .slice none 0 0, .slice none 0 0, .slice none 0 0, .slice none 0 0, .slice none 0 0, .slice none 0 0, .slice none 0 0, .slice none 0 0] 66 (0, 0)) = W := ⟨_, rfl⟩
  have F4 : Hid (Fr (fun _ _ => True) w3 W4) := hW4 ▸ (Fr.refl _ _).alloc _
  have X4 : Hid (W4.heap[w3.heap.size]? = some (.cells #[.int .u64 (now : Nat), .int .u64 (last : Nat), .slice none 0 0, .slice none 0 0, .slice none 0 0, .slice none 0 0, .slice none 0 0, .slice none 0 0, .slice none 0 0, .slice none 0 0] 66 (0, 0))) := hW4 ▸ heap_alloc_new w3 _
  have UI : Hid (UU w W4 w.heap.size w3.heap.size (fun _ => .slice none 0 0) (fun _ => .slice none 0 0) p2 (.slice none 0 0) [] ⟨now, last, [⟨[], []⟩, ⟨[], []⟩, ⟨[], []⟩, ⟨[], []⟩]⟩) := by
    have e : ∀ i, i < 4 → (⟨now, last, [⟨[], []⟩, ⟨[], []⟩, ⟨[], []⟩, ⟨[], []⟩]⟩ : Lk).rg i = ⟨[], []⟩ := fun i hi => by
      match i, hi with
      | 0, _ => rfl
      | 1, _ => rfl
      | 2, _ => rfl
      | 3, _ => rfl
    refine ⟨l2.tt F4.out, ⟨X4.out, fun i hi => ?_, fun i hi => ?_, fun i j _ _ _ c h => (by cases h), fun i j _ _ _ c h => (by cases h), rfl, l2.fr.size⟩, RowU.nil _ _⟩
    · rw [e i hi]; exact ⟨rfl, .inl ⟨rfl, rfl⟩⟩
    · rw [e i hi]; exact ⟨rfl, .inl ⟨rfl, rfl⟩⟩
  have G2 : p2.1.length ≤ 1000000 := by have := HLEN.out; omega
  clear l2 f2 C2 g1 g2 X4
  go_wp2_with fail
  try rw [hW4]
  obtain ⟨bt, hbt⟩ : ∃ x, w3.heap.size = x := ⟨_, rfl⟩
  rw [hbt] at UI ⊢
  clear hW4 hbt F4
  go_loopw [6, 7, 20] (fun ok tv v20 wz => ∃ (r : Nat) (hv wv : Nat → Value), r ≤ 4 ∧ v20 = .int .i64 r ∧ ok = .bool (rgsU U0 r).ok ∧ Hid (UU w wz w.heap.size bt hv wv (rgsU U0 r).p tv (rgsU U0 r).tk (rgsU U0 r).L) ∧ Hid ((∀ j, r ≤ j → j < 4 → (rgsU U0 r).L.rg j = ⟨[], []⟩) ∧ (rgsU U0 r).tk.length ≤ 255 * r ∧ (rgsU U0 r).p.1.length ≤ 1000000 ∧ (rgsU U0 r).L.last < 18446744073709551616)) (fun _ _ v20 _ => 4 - (intOf v20).toNat)
  case atStart =>
    refine ⟨0, fun _ => .slice none 0 0, fun _ => .slice none 0 0, by omega, rfl, ?_, ?_, ?_⟩
    · show _ = Value.bool U0.ok; rw [EU0.out]
    · show UU w W4 w.heap.size bt _ _ U0.p _ U0.tk U0.L; rw [EU0.out]; exact UI.out
    · show (∀ j, 0 ≤ j → j < 4 → U0.L.rg j = ⟨[], []⟩) ∧ U0.tk.length ≤ 255 * 0 ∧ U0.p.1.length ≤ 1000000 ∧ U0.L.last < 18446744073709551616
      rw [EU0.out]
      refine ⟨fun j _ hj => ?_, Nat.zero_le _, G2, b2⟩
      match j, hj with
      | 0, _ => rfl
      | 1, _ => rfl
      | 2, _ => rfl
      | 3, _ => rfl
  case round =>
    obtain ⟨r, hv, wv, hr, rfl, rfl, U, B⟩ := hrel
    clear UI b1 b2 G2
    have ENX : Hid (rgsU U0 (r + 1) = rgU (rgsU U0 r) r) := rfl
    by_cases hlt : r < 4
    · have hltI : (r : Int) < 4 := by omega
      obtain ⟨⟨p, ok, tk, L⟩, hu⟩ : ∃ u, rgsU U0 r = u := ⟨_, rfl⟩
      rw [hu] at U B ENX ⊢
      dsimp only at U B ⊢
      clear hu
      obtain ⟨B1, B2, B3, B4⟩ := B.out
      obtain ⟨N, q, eN⟩ : ∃ x y, num2 p 1 = (x, y) := ⟨_, _, rfl⟩
      have hN := num2_lt p 1
      have gq := num2_len p 1
      rw [eN] at hN gq
      dsimp only at hN gq
      have C1 := Lib.hid (lr_number w wr w.heap.size p.1 p.2 1 1 rfl U.out.lr (by omega) (by omega) (by omega) N q.1 q.2 eN)
      go_wp2_with fail
      (with_reducible refine C1.out.mono ?_)
      rintro e w5 ⟨rfl, l5, f5⟩
      obtain ⟨US, hUS⟩ : ∃ u : UB, u = ⟨q, ok, tk, []⟩ := ⟨_, rfl⟩
      have HUS := Lib.hid hUS
      have EH : Hid (rgH ⟨p, ok, tk, L⟩ = hsU L.last US N) := by show _ = _; unfold rgH; rw [eN, hUS]
      have U5 := Lib.hid (U.out.number (p' := q) l5 f5)
      have hL4 : L.rs.length = 4 := U.out.ut.four
      have EL : Hid (L = L.put r ⟨[], []⟩) := by show _ = _; have := put_same (L := L) (i := r) (by omega); rw [B1 r (Nat.le_refl _) hlt] at this; exact this.symm
      clear l5 f5 C1 U eN
      go_wp2_with fail
      go_loopw [6, 7, 30] (fun okv tv v30 wz => ∃ (i : Nat) (hv : Nat → Value), i ≤ N ∧ v30 = .int .u64 i ∧ okv = .bool (hsU L.last US i).ok ∧ Hid (UU w wz w.heap.size bt hv wv (hsU L.last US i).p tv (hsU L.last US i).tk (L.put r ⟨(hsU L.last US i).hs, []⟩))) (fun _ _ v30 _ => N - (intOf v30).toNat)
      case atStart =>
        refine ⟨0, hv, Nat.zero_le _, rfl, ?_, ?_⟩
        · show _ = Value.bool US.ok; rw [HUS.out]
        · show UU w w5 w.heap.size bt hv wv US.p _ US.tk (L.put r ⟨US.hs, []⟩); rw [HUS.out]; dsimp only; rw [← EL.out]; exact U5.out
      case round =>
        obtain ⟨i, hv, hi, rfl, rfl, U⟩ := hrel
        clear U5
        have hlh := hsU_len L.last US i
        have hlp := hsU_plen L.last US i
        have ENS : Hid (hsU L.last US (i + 1) = stepH L.last (hsU L.last US i)) := rfl
        have u1 : US.hs.length = 0 ∧ US.tk.length = tk.length ∧ US.p.1.length ≤ 1000000 := by rw [HUS.out]; exact ⟨rfl, rfl, by dsimp only; omega⟩
        by_cases hil : i < N
        · have hilI : (i : Int) < N := by omega
          have hiw : IntKind.u64.wrap ((i : Int) + 1) = (i : Int) + 1 := by rw [IntKind.wrap_u64]; omega
          obtain ⟨⟨p, ok, tk, hs⟩, hu⟩ : ∃ u, hsU L.last US i = u := ⟨_, rfl⟩
          rw [hu] at U ENS hlh hlp ⊢
          dsimp only at U hlh hlp ⊢
          clear hu
          obtain ⟨ta, tc, rfl⟩ := U.out.tk.form
          obtain ⟨lens, hlens⟩ : ∃ n, tk.length = n := ⟨_, rfl⟩
          have lensB : lens ≤ 1000000 := by omega
          rw [hlens] at U ⊢
          obtain ⟨x0, q0, e0⟩ : ∃ x y, num2 p 1 = (x, y) := ⟨_, _, rfl⟩
          have hx0 := num2_lt p 1
          have gx0 := num2_len p 1
          rw [e0] at hx0 gx0
          dsimp only at hx0 gx0
          obtain ⟨x1, q1, e1⟩ : ∃ x y, num2 q0 1 = (x, y) := ⟨_, _, rfl⟩
          have hx1 := num2_lt q0 1
          have gx1 := num2_len q0 1
          rw [e1] at hx1 gx1
          dsimp only at hx1 gx1
          obtain ⟨x2, q2, e2⟩ : ∃ x y, num2 q1 8 = (x, y) := ⟨_, _, rfl⟩
          have hx2 := num2_lt q1 8
          have gx2 := num2_len q1 8
          rw [e2] at hx2 gx2
          dsimp only at hx2 gx2
          obtain ⟨x3, q3, e3⟩ : ∃ x y, num2 q2 8 = (x, y) := ⟨_, _, rfl⟩
          have hx3 := num2_lt q2 8
          have gx3 := num2_len q2 8
          rw [e3] at hx3 gx3
          dsimp only at hx3 gx3
          have EHO : Hid (holdU p = (⟨x0, x1, x2, x3⟩, q3)) := by
            show _ = _
            unfold holdU
            rw [e0]
            dsimp only
            rw [e1]
            dsimp only
            rw [e2]
            dsimp only
            rw [e3]
          have C1 := Lib.hid (lr_number w wr w.heap.size p.1 p.2 1 1 rfl U.out.lr (by omega) (by omega) (by omega) x0 q0.1 q0.2 e0)
          go_wp2_with fail
          (with_reducible refine C1.out.mono ?_)
          rintro e y0 ⟨rfl, l5, f5⟩
          have V0 := Lib.hid (U.out.number (p' := q0) l5 f5)
          clear l5 f5 C1 U e0
          have vx0 : IntKind.i64.wrap (x0 : Int) = x0 := IntWalk.i64_in _ (by omega)
          have C1 := Lib.hid (lr_number w y0 w.heap.size q0.1 q0.2 1 1 rfl V0.out.lr (by omega) (by omega) (by omega) x1 q1.1 q1.2 e1)
          go_wp2_with fail
          (with_reducible refine C1.out.mono ?_)
          rintro e y1 ⟨rfl, l5, f5⟩
          have V1 := Lib.hid (V0.out.number (p' := q1) l5 f5)
          clear l5 f5 C1 V0 e1
          have vx1 : IntKind.i64.wrap (x1 : Int) = x1 := IntWalk.i64_in _ (by omega)
          have C1 := Lib.hid (lr_number w y1 w.heap.size q1.1 q1.2 8 8 rfl V1.out.lr (by omega) (by omega) (by omega) x2 q2.1 q2.2 e2)
          go_wp2_with fail
          (with_reducible refine C1.out.mono ?_)
          rintro e y2 ⟨rfl, l5, f5⟩
          have V2 := Lib.hid (V1.out.number (p' := q2) l5 f5)
          clear l5 f5 C1 V1 e2
          have C1 := Lib.hid (lr_number w y2 w.heap.size q2.1 q2.2 8 8 rfl V2.out.lr (by omega) (by omega) (by omega) x3 q3.1 q3.2 e3)
          go_wp2_with fail
          (with_reducible refine C1.out.mono ?_)
          rintro e y3 ⟨rfl, l5, f5⟩
          have V3 := Lib.hid (V2.out.number (p' := q3) l5 f5)
          clear l5 f5 C1 V2 e3
          obtain ⟨W5, hW5⟩ : ∃ W, y3.alloc (.cells #[.int .i64 0, .int .i64 0, .int .u64 0, .int .u64 0] 112 (0, 0)) = W := ⟨_, rfl⟩
          have FA : Hid (Fr (fun _ _ => True) y3 W5) := hW5 ▸ (Fr.refl _ _).alloc _
          have XA : Hid (W5.heap[y3.heap.size]? = some (.cells #[.int .i64 0, .int .i64 0, .int .u64 0, .int .u64 0] 112 (0, 0))) := hW5 ▸ heap_alloc_new y3 _
          have c0 := cell_mk (i := 0) XA.out rfl
          have c1 := cell_mk (i := 1) XA.out rfl
          have c2 := cell_mk (i := 2) XA.out rfl
          have c3 := cell_mk (i := 3) XA.out rfl
          have z0 := frozen_mk (i := 0) XA.out
          have z1 := frozen_mk (i := 1) XA.out
          have z2 := frozen_mk (i := 2) XA.out
          have z3 := frozen_mk (i := 3) XA.out
          obtain ⟨v5, hWZ, TZ, FZ⟩ := set4 XA.out (.int .i64 (x0 : Nat)) (.int .i64 (x1 : Nat)) (.int .u64 (x2 : Nat)) (.int .u64 (x3 : Nat))
          have FV : Hid (Fr (fun c _ => c < y3.heap.size) y3 v5) := Lib.hid ((FA.out.mono fun _ _ _ => trivial).trans (FZ.mono fun c _ h e => by omega))
          have V5 : Hid (UU w v5 w.heap.size bt hv wv q3 (.slice ta lens tc) tk (L.put r ⟨hs, []⟩)) := V3.out.tt (Fr.within (FV.out.mono fun _ _ h => h.2))
          have T5 := Lib.hid TZ
          clear FA XA TZ FZ FV V3
          go_upto_region 12 with fail
          try rw [hWZ]
          clear hWZ hW5 c0 c1 c2 c3 z0 z1 z2 z3
          obtain ⟨bh, hbh⟩ : ∃ m, y3.heap.size = m := ⟨_, rfl⟩
          rw [hbh] at T5 ⊢
          clear hbh
          obtain ⟨okn, hokn⟩ : ∃ o, (ok && okT L.last tk x2) = o := ⟨_, rfl⟩
          have d0 := cell_mk (i := 2) T5.out rfl
          have d1 : v5.cell? ⟨bt, 1, none⟩ = some (.int .u64 (L.last : Nat)) := (V5.out.ut.cells v5 (Fr.refl _ _)).1
          obtain ⟨hsn, hhsn⟩ : ∃ o, hasI tk (tI x2) = o := ⟨_, rfl⟩
          have NC : Hid (∀ k, Calls Tryz.prog 84 #[.slice ta lens tc, .int .u64 (x2 : Nat)] (v5.drewN k) fun e w' => e = .returned (.bool hsn) ∧ w' = v5.drewN k) := Lib.hid fun k => (contains_calls_u (v5.drewN k) (.slice ta lens tc) tk (x2 : Nat) (V5.out.tk.ints.tt ((Fr.refl _ _).drewN k)) (by rw [hlens]; unfold maxLen; omega)).mono fun e w' ⟨h1, h2⟩ => ⟨by rw [h1, ← hhsn]; rfl, h2.symm⟩
          unfold okT at hokn
          rw [hhsn] at hokn
          have HOKN := Lib.hid hokn
          have HHSN := Lib.hid hhsn
          clear hokn hhsn
          go_cut [6] (fun v6 wx => v6 = .bool okn ∧ ∃ n, wx = v5.drewN n)
          case first =>
            cases ok with
            | false =>
              go_quiet ((go_at_call 84; exact Calls.quiet_of_same (NC.out _)))
              go_wp2_with fail
              go_meet
              case rel => exact ⟨by rw [← HOKN.out]; rfl, nq, rfl⟩
            | true =>
              by_cases t0 : 0 < x2
              · have t0I : (0 : Int) < x2 := by omega
                by_cases t1 : x2 ≤ L.last
                · have t1I : (x2 : Int) ≤ L.last := by omega
                  go_quiet ((go_at_call 84; exact Calls.quiet_of_same (NC.out _)))
                  go_wp2_with fail
                  go_meet
                  case rel => exact ⟨by rw [← HOKN.out, decide_eq_true t0, decide_eq_true t1]; simp, nq, rfl⟩
                · have t1I : ¬ (x2 : Int) ≤ L.last := by omega
                  go_quiet ((go_at_call 84; exact Calls.quiet_of_same (NC.out _)))
                  go_wp2_with fail
                  go_meet
                  case rel => exact ⟨by rw [← HOKN.out, decide_eq_false t1]; simp, nq, rfl⟩
              · have t0I : ¬ (0 : Int) < x2 := by omega
                go_quiet ((go_at_call 84; exact Calls.quiet_of_same (NC.out _)))
                go_wp2_with fail
                go_meet
                case rel => exact ⟨by rw [← HOKN.out, decide_eq_false t0]; simp, nq, rfl⟩
          case rest =>
            obtain ⟨rfl, nd, hnd⟩ := hcut
            have FD : Hid (Fr (fun _ _ => True) v5 wc) := Lib.hid (by rw [hnd]; exact (Fr.refl _ _).drewN nd)
            have V6 := Lib.hid (V5.out.tt FD.out)
            have T6 := Lib.hid (FD.out.keep _ _ T5.out trivial)
            have ES : Hid (hsU L.last US (i + 1) = ⟨q3, okn, tk ++ [tI x2], hs ++ [⟨x0, x1, x2, x3⟩]⟩) := by
              show _ = _
              rw [ENS.out]
              unfold stepH
              rw [EHO.out]
              dsimp only
              unfold okT
              rw [← HOKN.out, ← HHSN.out]
            have F6 : Hid (Fr (fun _ _ => True) w wc) := V6.out.lr.fr
            clear hnd FD V5 T5 NC d0 d1 ENS EHO HOKN HHSN
            have d0 := cell_mk (i := 2) T6.out rfl
            have ET : Hid (tk ++ [((x2 : Nat) : Int)] = tk ++ [tI x2]) := rfl
            have HLN : Hid ((tk ++ [tI x2]).length = lens + 1) := by show _ = _; rw [List.length_append, hlens]; rfl
            go_wp2_with (at_builtin; refine wpList_append_nat1 w wc (x2 : Nat) F6 rfl _ _ rfl _ _ rfl V6.out.tk rfl _ ET (lens + 1) HLN (by omega) ?_)
            intro a1 c1 w7 O1 G1 G2 N1
            have V7 := Lib.hid (V6.out.tokens O1.out G2.out)
            have T7 := Lib.hid (G2.out.keep _ _ T6.out (fun e => by obtain ⟨cur, q⟩ := own_tag V6.out.tk e; rw [T6.out] at q; cases q))
            clear d0 V6 T6 O1 G1 G2 N1 F6 ET HLN
            go_upto_region 14 with fail
            have hrg : (L.put r ⟨hs, []⟩).rg r = ⟨hs, []⟩ := by rw [put_rg (by omega), if_pos rfl]
            have OW := V7.out.ut.hr r hlt
            rw [hrg] at OW
            dsimp only at OW
            obtain ⟨ah, ch, eh⟩ := own_form OW
            obtain ⟨W8, hW8⟩ : ∃ W, w7.drew.alloc (.cells #[.int .i64 (x0 : Nat), .int .i64 (x1 : Nat), .int .u64 (x2 : Nat), .int .u64 (x3 : Nat)] 112 (0, 0)) = W := ⟨_, rfl⟩
            have F8 : Hid (Fr (fun _ _ => True) w7 W8) := hW8 ▸ ((Fr.refl _ _).drew.alloc _)
            have X8 : Hid (W8.heap[w7.heap.size]? = some (.cells #[.int .i64 (x0 : Nat), .int .i64 (x1 : Nat), .int .u64 (x2 : Nat), .int .u64 (x3 : Nat)] 112 (0, 0))) := hW8 ▸ heap_alloc_new w7.drew _
            have V8 := Lib.hid (V7.out.tt F8.out)
            have OW8 : Hid (W8.ownsRow 0 112 4 (.slice ah hs.length ch) hs.length (hs.flatMap encH)) := by
              have := V8.out.ut.hr r hlt
              rw [hrg, eh] at this
              exact own_basew this fun _ _ => Nat.zero_le _
            have k0 := cell_mk (i := 0) (F8.out.keep _ _ T7.out trivial) rfl
            have k1 := cell_mk (i := 1) (F8.out.keep _ _ T7.out trivial) rfl
            have k2 := cell_mk (i := 2) (F8.out.keep _ _ T7.out trivial) rfl
            have k3 := cell_mk (i := 3) (F8.out.keep _ _ T7.out trivial) rfl
            have m0 : w7.drew.cell? ⟨bh, 0, none⟩ = some (.int .i64 (x0 : Nat)) := cell_mk (i := 0) T7.out rfl
            have m1 : w7.drew.cell? ⟨bh, 1, none⟩ = some (.int .i64 (x1 : Nat)) := cell_mk (i := 1) T7.out rfl
            have m2 : w7.drew.cell? ⟨bh, 2, none⟩ = some (.int .u64 (x2 : Nat)) := cell_mk (i := 2) T7.out rfl
            have m3 : w7.drew.cell? ⟨bh, 3, none⟩ = some (.int .u64 (x3 : Nat)) := cell_mk (i := 3) T7.out rfl
            have m4 : w7.drew.cell? ⟨bt, 2 + r * 2, none⟩ = some (.slice ah hs.length ch) := eh ▸ ((V7.out.ut.cells w7 (Fr.refl _ _)).2 r hlt).1
            have m5 : W8.cell? ⟨bt, 2 + r * 2, none⟩ = some (.slice ah hs.length ch) := eh ▸ ((V8.out.ut.cells W8 (Fr.refl _ _)).2 r hlt).1
            have hsB : hs.length ≤ 1000000 := by omega
            have SET : Hid (∀ g cap w9, w9.ownsRow 0 112 4 (.slice (some ⟨g, 0, none⟩) (hs.length + 1) cap) (hs.length + 1) ((hs ++ [(⟨x0, x1, x2, x3⟩ : Ho)]).flatMap encH) → W8.grownBy w9 (Value.slice ah hs.length ch).ownBlock → OwnNext W8 (.slice ah hs.length ch) (.slice (some ⟨g, 0, none⟩) (hs.length + 1) cap) → w9.cell? ⟨bt, 2 + r * 2, none⟩ = some (.slice ah hs.length ch) ∧ w9.frozen? ⟨bt, 2 + r * 2, none⟩ = false ∧ UU w (w9.setCell ⟨bt, 2 + r * 2, none⟩ (.slice (some ⟨g, 0, none⟩) (hs.length + 1) cap)) w.heap.size bt (fun j => if j = r then (.slice (some ⟨g, 0, none⟩) (hs.length + 1) cap) else hv j) wv (hsU L.last US (i + 1)).p (.slice a1 (lens + 1) c1) (hsU L.last US (i + 1)).tk (L.put r ⟨(hsU L.last US (i + 1)).hs, []⟩)) := Lib.hid fun g cap w9 o9 g9 n9 => by
              have e1 : hs.length + 1 = (hs ++ [(⟨x0, x1, x2, x3⟩ : Ho)]).length := by rw [List.length_append]; rfl
              have s := V8.out.setH hlt (.slice (some ⟨g, 0, none⟩) (hs.length + 1) cap) (hs ++ [(⟨x0, x1, x2, x3⟩ : Ho)]) (w1 := w9) (by rw [eh]; exact Fr.of_grown g9 fun k o e _ hne => hne e) (by rw [← e1]; exact o9) (by rw [eh]; exact n9)
              rw [hrg, put_put, eh] at s
              rw [ES.out]
              exact s
            clear OW V7 V8 T7 F8 hrg eh hlh u1 hlp
            go_region_law ((refine step_append_ho W8 rfl _ _ rfl (.slice ah hs.length ch) hs rfl OW8 w7.heap.size rfl ⟨x0, x1, x2, x3⟩ X8 hsB ?_; intro g9 c9 w9 O9 G9 N9; obtain ⟨s9, z9, u9⟩ := SET.out g9 c9 w9 O9.out G9.out N9.out; have U9 := Lib.hid u9; clear u9 O9 G9 N9))
            all_goals
              go_wp2
              go_roundw
              case rel => exact ⟨i + 1, _, hil, by first | rfl | go_num, by rw [ES.out], U9.out⟩
              case measure => simp [intOf]; omega
        · have hiN : i = N := by omega
          have hgeI : (N : Int) ≤ i := by omega
          rw [hiN] at hlh hlp U ⊢
          obtain ⟨⟨p3, ok3, tk3, hs⟩, hu⟩ : ∃ u, hsU L.last US N = u := ⟨_, rfl⟩
          rw [hu] at U hlh hlp EH ⊢
          dsimp only at U hlh hlp ⊢
          clear ENS hu hiN
          obtain ⟨ta, tc, rfl⟩ := U.out.tk.form
          obtain ⟨lens, hlens⟩ : ∃ n, tk3.length = n := ⟨_, rfl⟩
          rw [hlens] at U ⊢
          obtain ⟨M, q9, eM⟩ : ∃ x y, num2 p3 1 = (x, y) := ⟨_, _, rfl⟩
          have hM := num2_lt p3 1
          have gM := num2_len p3 1
          rw [eM] at hM gM
          dsimp only at hM gM
          have C1 := Lib.hid (lr_number w wr w.heap.size p3.1 p3.2 1 1 rfl U.out.lr (by omega) (by omega) (by omega) M q9.1 q9.2 eM)
          go_wp2_with fail
          (with_reducible refine C1.out.mono ?_)
          rintro e w6 ⟨rfl, l5, f5⟩
          have U6 := Lib.hid (U.out.number (p' := q9) l5 f5)
          obtain ⟨VS, hVS⟩ : ∃ v : Rs × List Wa, v = (q9, []) := ⟨_, rfl⟩
          have HVS := Lib.hid hVS
          have EW : Hid (rgW ⟨p, ok, tk, L⟩ = wsU VS M) := by show _ = _; unfold rgW; rw [EH.out]; dsimp only; rw [eM, hVS]
          have EH2 : Hid (rgH ⟨p, ok, tk, L⟩ = ⟨p3, ok3, tk3, hs⟩) := EH
          have tk3B : tk3.length ≤ 255 * (r + 1) := by omega
          have hsB : hs.length ≤ 255 := by omega
          have q9B : q9.1.length ≤ 1000000 := by omega
          clear l5 f5 C1 U eM hVS EH hlh hlp u1 gM
          go_wp2_with fail
          go_loopw [83] (fun v62 wz => ∃ (i : Nat) (wv : Nat → Value), i ≤ M ∧ v62 = .int .u64 i ∧ Hid (UU w wz w.heap.size bt hv wv (wsU VS i).1 (.slice ta lens tc) tk3 (L.put r ⟨hs, (wsU VS i).2⟩))) (fun v62 _ => M - (intOf v62).toNat)
          case atStart =>
            refine ⟨0, wv, Nat.zero_le _, rfl, ?_⟩
            show UU w w6 w.heap.size bt hv wv VS.1 _ tk3 (L.put r ⟨hs, VS.2⟩)
            rw [HVS.out]
            exact U6.out
          case round =>
            obtain ⟨i2, wv, hi2, rfl, U⟩ := hrel
            clear U6
            have hlh := wsU_len VS i2
            have hlp := wsU_plen VS i2
            have ENS : Hid (wsU VS (i2 + 1) = stepW (wsU VS i2)) := rfl
            have u1 : VS.2.length = 0 ∧ VS.1.1.length ≤ 1000000 := by rw [HVS.out]; exact ⟨rfl, q9B⟩
            by_cases hil2 : i2 < M
            · have hil2I : (i2 : Int) < M := by omega
              have hiw : IntKind.u64.wrap ((i2 : Int) + 1) = (i2 : Int) + 1 := by rw [IntKind.wrap_u64]; omega
              obtain ⟨⟨p4, ws⟩, hu⟩ : ∃ u, wsU VS i2 = u := ⟨_, rfl⟩
              rw [hu] at U ENS hlh hlp
              dsimp only at U hlh hlp
              clear hu
              obtain ⟨x0, q0, e0⟩ : ∃ x y, num2 p4 1 = (x, y) := ⟨_, _, rfl⟩
              obtain ⟨x1, q1, e1⟩ : ∃ x y, num2 q0 1 = (x, y) := ⟨_, _, rfl⟩
              have hx0 := num2_lt p4 1
              have gx0 := num2_len p4 1
              have hx1 := num2_lt q0 1
              rw [e0] at hx0 gx0
              rw [e1] at hx1
              dsimp only at hx0 gx0 hx1
              have vx0 : IntKind.i64.wrap (x0 : Int) = x0 := IntWalk.i64_in _ (by omega)
              have vx1 : IntKind.i64.wrap (x1 : Int) = x1 := IntWalk.i64_in _ (by omega)
              have ES : Hid (wsU VS (i2 + 1) = (q1, ws ++ [(⟨x0, x1⟩ : Wa)])) := by
                show _ = _
                rw [ENS.out]
                unfold stepW
                dsimp only
                rw [e0]
                dsimp only
                rw [e1]
              have hrg : (L.put r ⟨hs, ws⟩).rg r = ⟨hs, ws⟩ := by rw [put_rg (by omega), if_pos rfl]
              have OW := U.out.ut.wr r hlt
              rw [hrg] at OW
              dsimp only at OW
              obtain ⟨aw, cw, ew⟩ := own_form OW
              have wsB : ws.length ≤ 1000000 := by omega
              have p4B : p4.1.length ≤ 1000000 := by omega
              have q0B : q0.1.length ≤ 1000000 := by omega
              have C0 := Lib.hid (lr_number w wr.drew w.heap.size p4.1 p4.2 1 1 rfl (U.out.lr.tt (Fr.refl _ _).drew) (by omega) (by omega) (by omega) x0 q0.1 q0.2 e0)
              have U0' := Lib.hid (U.out.tt (Fr.refl _ _).drew)
              have CA : Hid (∀ W, UU w W w.heap.size bt hv wv q0 (.slice ta lens tc) tk3 (L.put r ⟨hs, ws⟩) → Calls Tryz.prog 61 #[.pointer (some ⟨w.heap.size, 0, none⟩), .int .i64 1] W fun e w' => e = .returned (.int .u64 (x1 : Nat)) ∧ UU w w' w.heap.size bt hv wv q1 (.slice ta lens tc) tk3 (L.put r ⟨hs, ws⟩)) := Lib.hid fun W u => (lr_number w W w.heap.size q0.1 q0.2 1 1 rfl u.lr (by omega) (by omega) (by omega) x1 q1.1 q1.2 e1).mono fun e w' ⟨h1, h2, h3⟩ => ⟨h1, u.number (p' := q1) h2 h3⟩
              have CB : Hid (∀ {W p tw}, UU w W w.heap.size bt hv wv p tw tk3 (L.put r ⟨hs, ws⟩) → W.cell? ⟨bt, 2 + r * 2 + 1, none⟩ = some (.slice aw ws.length cw)) := Lib.hid fun u => ew ▸ ((u.ut.cells _ (Fr.refl _ _)).2 r hlt).2.1
              have SET : Hid (∀ W8 g cap w9, UU w W8 w.heap.size bt hv wv q1 (.slice ta lens tc) tk3 (L.put r ⟨hs, ws⟩) → w9.ownsRow 0 114 2 (.slice (some ⟨g, 0, none⟩) (ws.length + 1) cap) (ws.length + 1) ((ws ++ [(⟨x0, x1⟩ : Wa)]).flatMap encW) → W8.grownBy w9 (Value.slice aw ws.length cw).ownBlock → OwnNext W8 (.slice aw ws.length cw) (.slice (some ⟨g, 0, none⟩) (ws.length + 1) cap) → w9.cell? ⟨bt, 2 + r * 2 + 1, none⟩ = some (.slice aw ws.length cw) ∧ w9.frozen? ⟨bt, 2 + r * 2 + 1, none⟩ = false ∧ UU w (w9.setCell ⟨bt, 2 + r * 2 + 1, none⟩ (.slice (some ⟨g, 0, none⟩) (ws.length + 1) cap)) w.heap.size bt hv (fun j => if j = r then (.slice (some ⟨g, 0, none⟩) (ws.length + 1) cap) else wv j) (wsU VS (i2 + 1)).1 (.slice ta lens tc) tk3 (L.put r ⟨hs, (wsU VS (i2 + 1)).2⟩)) := Lib.hid fun W8 g cap w9 u8 o9 g9 n9 => by
                have e1 : ws.length + 1 = (ws ++ [(⟨x0, x1⟩ : Wa)]).length := by rw [List.length_append]; rfl
                have s := u8.setW hlt (.slice (some ⟨g, 0, none⟩) (ws.length + 1) cap) (ws ++ [(⟨x0, x1⟩ : Wa)]) (w1 := w9) (by rw [ew]; exact Fr.of_grown g9 fun k o e _ hne => hne e) (by rw [← e1]; exact o9) (by rw [ew]; exact n9)
                rw [hrg, put_put, ew] at s
                rw [ES.out]
                exact s
              have OWN : Hid (∀ {W p tw}, UU w W w.heap.size bt hv wv p tw tk3 (L.put r ⟨hs, ws⟩) → W.ownsRow 0 114 2 (.slice aw ws.length cw) ws.length (ws.flatMap encW)) := Lib.hid fun u => by
                have := u.ut.wr r hlt
                rw [hrg, ew] at this
                exact own_basew this fun _ _ => Nat.zero_le _
              have m0 := CB.out U0'.out
              clear U OW ENS hlh hlp u1 e0 e1 hrg ew gx0 hx0 hx1
              go_upto_region 18 with fail
              go_region_law (first
                | (go_simp; go_at_call 61; (with_reducible refine C0.out.mono ?_); go_must (rintro e y0 ⟨rfl, l5, f5⟩; have V0 := Lib.hid (U0'.out.number (p' := q0) l5 f5); have m1 := CB.out V0.out; clear l5 f5))
                | (go_simp; go_at_call 61; (with_reducible refine (CA.out _ V0.out).mono ?_); go_must (rintro e y1 ⟨rfl, u5⟩; have V1 := Lib.hid u5; have m2 := CB.out V1.out; obtain ⟨W8, hW8⟩ : ∃ W, y1.alloc (.cells #[.int .i64 (x0 : Nat), .int .i64 (x1 : Nat)] 114 (0, 0)) = W := ⟨_, rfl⟩; have X8 : Hid (W8.heap[y1.heap.size]? = some (.cells #[.int .i64 (x0 : Nat), .int .i64 (x1 : Nat)] 114 (0, 0))) := hW8 ▸ heap_alloc_new y1 _; have V8 : Hid (UU w W8 w.heap.size bt hv wv q1 (.slice ta lens tc) tk3 (L.put r ⟨hs, ws⟩)) := hW8 ▸ V1.out.tt ((Fr.refl _ _).alloc _); have m3 := CB.out V8.out; have OW8 := Lib.hid (OWN.out V8.out); clear u5))
                | (refine step_append_wa W8 rfl _ _ rfl (.slice aw ws.length cw) ws rfl OW8 y1.heap.size rfl ⟨x0, x1⟩ X8 wsB ?_; intro g9 c9 w9 O9 G9 N9; obtain ⟨s9, z9, u9⟩ := SET.out W8 g9 c9 w9 V8.out O9.out G9.out N9.out; have U9 := Lib.hid u9; clear u9 O9 G9 N9))
              all_goals
                go_wp2
                go_roundw
                case rel => exact ⟨i2 + 1, _, hil2, by first | rfl | go_num, U9.out⟩
                case measure => simp [intOf]; omega
            · have hiM : i2 = M := by omega
              have hgeM : (M : Int) ≤ i2 := by omega
              rw [hiM] at hlh hlp U
              obtain ⟨⟨p4, ws⟩, hu⟩ : ∃ u, wsU VS M = u := ⟨_, rfl⟩
              rw [hu] at U hlh hlp EW
              dsimp only at U hlh hlp
              have wsB : ws.length ≤ 1000000 := by omega
              have p4B : p4.1.length ≤ 1000000 := by omega
              have hrg : (L.put r ⟨hs, ws⟩).rg r = ⟨hs, ws⟩ := by rw [put_rg (by omega), if_pos rfl]
              have OH := U.out.ut.hr r hlt
              have OW := U.out.ut.wr r hlt
              rw [hrg] at OH OW
              dsimp only at OH OW
              obtain ⟨ah, ch, eh⟩ := own_form OH
              obtain ⟨aw, cw, ew⟩ := own_form OW
              obtain ⟨_, cc⟩ := U.out.ut.cells wr (Fr.refl _ _)
              obtain ⟨cc0, cc1, _, _⟩ := cc r hlt
              rw [eh] at cc0 OH
              rw [ew] at cc1 OW
              obtain ⟨ck, hck⟩ : ∃ c, checkM ⟨hs, ws⟩ = c := ⟨_, rfl⟩
              have CK := Lib.hid (check_calls wr bt (2 + r * 2) ah aw ch cw hs ws cc0 cc1 (RowsAt.of_own (K := fun _ _ => True) encH_len OH fun _ _ _ => trivial) (RowsAt.of_own (K := fun _ _ => True) encW_len OW fun _ _ _ => trivial) (by omega) wsB)
              rw [hck] at CK
              have ENY : Hid (rgsU U0 (r + 1) = ⟨p4, ok3 && ck, tk3, L.put r ⟨hs, ws⟩⟩) := by
                show _ = _
                rw [ENX.out]
                unfold rgU
                rw [EH2.out, EW.out]
                dsimp only
                rw [hck]
              have BN : Hid ((∀ j, r + 1 ≤ j → j < 4 → (rgsU U0 (r + 1)).L.rg j = ⟨[], []⟩) ∧ (rgsU U0 (r + 1)).tk.length ≤ 255 * (r + 1) ∧ (rgsU U0 (r + 1)).p.1.length ≤ 1000000 ∧ (rgsU U0 (r + 1)).L.last < 18446744073709551616) := by
                show _ ∧ _
                rw [ENY.out]
                refine ⟨fun j hj hj4 => ?_, tk3B, p4B, B4⟩
                show (L.put r _).rg j = _
                rw [put_rg (by omega), if_neg (by omega)]
                exact B1 j (by omega) hj4
              clear ENS hiM hu hlh hlp u1 OH OW eh ew cc cc0 cc1 hck hrg EW EH2 ENX
              cases ok3 with
              | false =>
                go_wp2
                go_roundw
                case rel => exact ⟨r + 1, hv, wv, hlt, by go_num, by rw [ENY.out]; rfl, by show UU _ _ _ _ _ _ _ _ _ _; rw [ENY.out]; exact U.out, BN.out⟩
                case measure => simp [intOf]; omega
              | true =>
                go_wp2_with fail
                (with_reducible refine CK.out.mono ?_)
                rintro e y9 ⟨rfl, f9⟩
                have U9 := Lib.hid (U.out.tt f9)
                clear U f9 CK
                go_wp2
                go_roundw
                case rel => exact ⟨r + 1, hv, wv, hlt, by go_num, by rw [ENY.out]; rfl, by show UU _ _ _ _ _ _ _ _ _ _; rw [ENY.out]; exact U9.out, BN.out⟩
                case measure => simp [intOf]; omega
    · have hr4 : r = 4 := by omega
      have hge4 : (4 : Int) ≤ r := by omega
      rw [hr4] at U B ⊢
      clear ENX hr4
      obtain ⟨⟨p, ok, tk, L⟩, hu⟩ : ∃ u, rgsU U0 4 = u := ⟨_, rfl⟩
      rw [hu] at U B ⊢
      dsimp only at U B ⊢
      have HU4 := Lib.hid hu
      clear hu
      have EC := Lib.hid (lr_end w wr w.heap.size p.1 p.2 U.out.lr (by have := B.out.2.2.1; omega))
      obtain ⟨E, hE⟩ : ∃ E, endL p.1 p.2 = E := ⟨_, rfl⟩
      have CE : Hid (codeU ⟨p, ok, tk, L⟩ = if E = 0 ∧ ok = false then 1 else E) := by show _ = _; unfold codeU; dsimp only; rw [hE]
      rw [hE] at EC
      have FW := Lib.hid U.out.lr.fr
      have UT1 := Lib.hid U.out.ut
      clear hE B U
      go_wp2_with fail
      (with_reducible refine EC.out.mono ?_)
      rintro e y9 ⟨rfl, rfl⟩
      clear EC
      by_cases hE0 : E = 0
      · have hE1 : (E == 0) = true := by simpa using hE0
        have hE2 : (E != 0) = false := by simpa using hE0
        cases ok with
        | true =>
          have CF : Hid (codeU ⟨p, true, tk, L⟩ = 0) := by show _ = _; rw [CE.out, if_neg (fun q => by cases q.2)]; exact hE0
          clear CE hE0
          go_wp2
          go_ret2
          rw [HU4.out]
          refine ⟨.inr ⟨CF.out, bt, hv, wv, rfl, ?_⟩, FW.out⟩
          exact UT1.out
        | false =>
          have CF : Hid (codeU ⟨p, false, tk, L⟩ = 1) := by show _ = _; rw [CE.out, if_pos ⟨hE0, rfl⟩]
          clear CE hE0
          go_wp2
          go_ret2
          rw [HU4.out, CF.out]
          exact ⟨.inl ⟨by decide, rfl⟩, FW.out⟩
      · have hE1 : (E == 0) = false := by simpa using hE0
        have hE2 : (E != 0) = true := by simpa using hE0
        have CF : Hid (codeU ⟨p, ok, tk, L⟩ = E) := by show _ = _; rw [CE.out, if_neg (fun q => hE0 q.1)]
        have HE0 := Lib.hid hE0
        clear CE hE0
        go_wp2
        go_ret2
        rw [HU4.out, CF.out]
        exact ⟨.inl ⟨HE0.out, rfl⟩, FW.out⟩
end Go.Proofs.YtlolfcnfcgegdaaGreat
