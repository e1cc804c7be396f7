/- Package disk: Sync. -/
import Derived.Test.YtaeonlafcbgpcaaDoorDiskWr
namespace Go.Proofs.YtaeonlafcbgpcaaDoor
open Go.RowKit

def laySure (s : List (List UInt8)) (l : List (Nat × List UInt8)) : List (List UInt8) := l.foldl (fun s x => s.set x.1 x.2) s
theorem laySure_snoc (s : List (List UInt8)) (l : List (Nat × List UInt8)) (x : Nat × List UInt8) : laySure s (l ++ [x]) = (laySure s l).set x.1 x.2 := by simp [laySure]
theorem laySure_length (l : List (Nat × List UInt8)) : ∀ s : List (List UInt8), (laySure s l).length = s.length := by
  induction l with
  | nil => intro s; rfl
  | cons x l ih => intro s; show (laySure (s.set x.1 x.2) l).length = _; rw [ih, List.length_set]
theorem laySure_64 (l : List (Nat × List UInt8)) : ∀ s : List (List UInt8), (∀ x ∈ s, x.length = 64) → (∀ x ∈ l, x.2.length = 64) → ∀ x ∈ laySure s l, x.length = 64 := by
  induction l with
  | nil => intro s h _; exact h
  | cons y l ih =>
    intro s h hl
    refine ih _ (fun x hx => ?_) (fun x hx => hl x (by simp [hx]))
    rcases List.mem_or_eq_of_mem_set hx with h1 | h1
    · exact h x h1
    · rw [h1]; exact hl y (by simp)
def Dk.sync (D : Dk) : Dk := if D.burn.down then D.burn else { D.burn with sure := laySure D.sure D.pend, pend := [] }

theorem mem65 {l : List (Nat × List UInt8)} (h : ∀ x ∈ l, x.2.length = 64) : ∀ x ∈ l.map cellsW, x.length = 65 := by
  intro x hx
  obtain ⟨y, hy, rfl⟩ := List.mem_map.1 hx
  simp [cellsW, h y hy]
theorem wr_form {w : World} {e : TypeId} {v : Value} {l : List (Nat × List UInt8)} (h : w.ownsRow 0 e 65 v l.length (flatW l)) (h1 : 0 < l.length) : ∃ g cap, v = .slice (some ⟨g, 0, none⟩) l.length cap ∧ l.length ≤ cap ∧ g < w.heap.size := by
  rcases h.2 with ⟨_, h0⟩ | ⟨g, cap, cur, hv, hb, hg, hc, _⟩
  · omega
  · exact ⟨g, cap, hv, hc, lt_of_some hg⟩
theorem wr_range {w : World} {e : TypeId} {g cap : Nat} {l : List (Nat × List UInt8)} (h : w.ownsRow 0 e 65 (.slice (some ⟨g, 0, none⟩) l.length cap) l.length (flatW l)) (hl : ∀ x ∈ l, x.2.length = 64) (i : Nat) (hi : i < l.length) : w.rangeAt g (i * 65) (cellsW l[i]) := by
  have := row_range (l := l.map cellsW) h (mem65 hl) i (by simpa using hi) (by decide)
  simpa using this
theorem store_copy (W : World) (k : Nat) (x : List UInt8) (hx : x.length = 64) : (storeCells ⟨W.heap.size, 0, none⟩ (wA k x).toList).run Tryd.prog (W.alloc (.cells Tryd.zeroCells95 95)) = .ok () (W.alloc (.cells (wA k x) 95 (0, 0))) :=
  run_storeCells_new W 95 _ (wA k x) (by rw [size_write, wA_size, hx]) (by rw [zero_write, wA_size, wA_size, hx]; rfl) (wA_one _ _)
theorem shutSec (v : Value) : Instr.loadAt 93 v = shutLd 93 v := rfl

/-- A disk whose sure row is written at a place. -/
theorem DskAt.setSure {w : World} {bd gu cu : Nat} {vs vp : Value} {D : Dk} (h : DskAt w bd vs (.slice (some ⟨gu, 0, none⟩) D.sure.length cu) vp D) (k : Nat) (hk : k < D.sure.length) (x : List UInt8) (hx : x.length = 64) :
    DskAt (w.setCells gu (k * 64) (x.map byteV)) bd vs (.slice (some ⟨gu, 0, none⟩) D.sure.length cu) vp { D with sure := D.sure.set k x } := by
  have hf : Fr (fun c _ => c ≠ gu) w (w.setCells gu (k * 64) (x.map byteV)) := (Fr.refl _ _).setCells (fun _ _ h => h rfl) _ _
  have hbd : bd ≠ gu := fun e => by
    obtain ⟨cur, hc⟩ := own_tag h.sure (c := gu) rfl
    rw [← e, h.top] at hc; cases hc
  refine ⟨hf.keep _ _ h.top hbd, ownsRow_fr h.seen hf (fun c _ e _ q => h.apart c e (q ▸ rfl)), ?_, ownsRow_fr h.pend hf (fun c _ e _ => own_ne (e := 95) (e' := 93) h.pend h.sure (by decide) e rfl), h.apart, ?_⟩
  · have := sec_set h.sure h.wf.u64 k hk x hx
    show World.ownsRow _ 0 _ 64 _ (D.sure.set k x).length (flatS (D.sure.set k x))
    rw [List.length_set]; exact this
  · refine { h.wf with len := ?_, one := ?_, max := ?_, u64 := ?_, p64 := ?_ }
    · show _ = (D.sure.set k x).length; rw [List.length_set]; exact h.wf.len
    · show _ ≤ (D.sure.set k x).length; rw [List.length_set]; exact h.wf.one
    · show (D.sure.set k x).length ≤ _; rw [List.length_set]; exact h.wf.max
    · intro y hy
      rcases List.mem_or_eq_of_mem_set hy with h1 | h1
      · exact h.wf.u64 y h1
      · rw [h1]; exact hx
    · intro y hy
      show y.1 < (D.sure.set k x).length ∧ _
      rw [List.length_set]; exact h.wf.p64 y hy
theorem DskAt.setSure' {w : World} {bd gu cu n : Nat} {vs vp : Value} {D : Dk} (h : DskAt w bd vs (.slice (some ⟨gu, 0, none⟩) n cu) vp D) (hn : D.sure.length = n) (k : Nat) (hk : k < n) (x : List UInt8) (hx : x.length = 64) :
    DskAt (w.setCells gu (k * 64) (x.map byteV)) bd vs (.slice (some ⟨gu, 0, none⟩) n cu) vp { D with sure := D.sure.set k x } := by
  subst hn
  exact h.setSure k hk x hx
theorem DskAt.tt {w w' : World} {bd : Nat} {vs vu vp : Value} {D : Dk} (h : DskAt w bd vs vu vp D) (hf : Fr (fun _ _ => True) w w') : DskAt w' bd vs vu vp D :=
  ⟨hf.keep _ _ h.top trivial, ownsRow_fr h.seen hf (fun _ _ _ _ => trivial), ownsRow_fr h.sure hf (fun _ _ _ _ => trivial), ownsRow_fr h.pend hf (fun _ _ _ _ => trivial), h.apart, h.wf⟩

attribute [local go_sem ↓] shutWr shutSec

set_option maxRecDepth 100000 in
set_option maxHeartbeats 1000000 in
theorem sync_main (w : World) (bd : Nat) (F : Nat → Prop) (D : Dk) (h : Dsk w bd F D) (hd : D.burn.down = false) :
    Calls Tryd.prog 50 #[.pointer (some ⟨bd, 0, none⟩)] w fun e w' => e = .returned (.tuple #[]) ∧ Dsk w' bd (fun c => F c ∨ w.heap.size ≤ c) { D.burn with sure := laySure D.sure D.pend, pend := [] } ∧ Fr (fun c _ => ¬ F c) w w' := by
  have hdn := done_disk w bd F D h
  rw [hd] at hdn
  have HD := Lib.hid hdn
  have hFb : F bd := by obtain ⟨_, _, _, _, h1, _⟩ := h; exact h1
  clear hdn h hd
  go_enter Tryd.func50, Tryd.ntmps50
  go_wp2_with fail
  (with_reducible refine HD.out.mono ?_)
  rintro e w1 ⟨rfl, d1, f1⟩
  obtain ⟨vs, vu, vp, d1, hF⟩ := d1
  obtain ⟨gu, cu, rfl, hcu, hgl⟩ := row_form d1.sure (by have := d1.wf.one; omega)
  obtain ⟨ap, cp, rfl⟩ := own_form d1.pend
  have D1 := Lib.hid d1
  have F1 : Hid (Fr (fun c _ => ¬ F c) w w1) := f1.mono fun c _ hc e => hc (e ▸ hFb)
  have hsl : D.sure.length ≤ 512 := d1.wf.max
  have hpl : D.pend.length ≤ 1000000 := d1.wf.few
  have HC := Lib.hid (show D.sure.length ≤ cu from hcu)
  have c2 : w1.cell? ⟨bd, 2, none⟩ = some (.slice ap D.pend.length cp) := cell_mk d1.top rfl
  clear d1 f1 HD hcu
  go_wp2
  go_loopw [12] (fun i wr => ∃ j : Nat, j ≤ D.pend.length ∧ i = .int .i64 j ∧ DskAt wr bd vs (.slice (some ⟨gu, 0, none⟩) D.sure.length cu) (.slice ap D.pend.length cp) { D.burn with sure := laySure D.sure (D.pend.take j) } ∧ Fr (fun c _ => ¬ F c) w wr) (fun i _ => D.pend.length - (intOf i).toNat)
  case atStart => exact ⟨0, Nat.zero_le _, rfl, D1.out, F1.out⟩
  case round =>
    obtain ⟨j, hj, rfl, hdj, hfj⟩ := hrel
    have DJ := Lib.hid hdj
    have FJ := Lib.hid hfj
    clear hdj hfj c2 D1 F1
    by_cases hlt : j < D.pend.length
    · have hp64 := DJ.out.wf.p64
      obtain ⟨gp, cp', he, hcp, _⟩ := wr_form DJ.out.pend (by show 0 < D.pend.length; omega)
      cases he
      have hr := wr_range DJ.out.pend (fun x hx => (DJ.out.wf.p64 x hx).2) j hlt
      have hx64 : (D.pend[j]).2.length = 64 := (DJ.out.wf.p64 _ (List.getElem_mem hlt)).2
      have hxk : (D.pend[j]).1 < D.sure.length := by
        have := (DJ.out.wf.p64 _ (List.getElem_mem hlt)).1
        have e : (laySure D.sure (D.pend.take j)).length = D.sure.length := laySure_length _ _
        show D.pend[j].1 < D.sure.length
        rw [← e]; exact this
      have hnx : Hid (laySure D.sure (D.pend.take (j + 1)) = (laySure D.sure (D.pend.take j)).set D.pend[j].1 D.pend[j].2) := by
        rw [List.take_succ_eq_append_getElem hlt, laySure_snoc]; rfl
      have hld : (shutLd 95 (.pointer (some ⟨gp, j * 65, none⟩))).run Tryd.prog wr = .ok (.agg (wA D.pend[j].1 D.pend[j].2)) wr := ldWr_at (k := D.pend[j].1) (bs := D.pend[j].2) hr hx64
      generalize hxx : D.pend[j].1 = k at hld hnx hxk
      generalize hyy : D.pend[j].2 = x at hld hnx hx64
      have hst := fun W => store_copy W k x hx64
      have HX := Lib.hid hx64
      clear hxx hyy hr hp64 hx64
      have h65 : (wA k x).size = 65 := by rw [wA_size, HX.out]
      go_wp2
      have d3 := DJ.out.tt ((Fr.refl _ _).alloc (.cells (wA k x) 95 (0, 0))).drew
      have t3 : (wr.alloc (.cells (wA k x) 95 (0, 0))).drew.heap[wr.heap.size]? = some (.cells (wA k x) 95 (0, 0)) := heap_alloc_new wr _
      have F3 := Lib.hid (FJ.out.alloc (.cells (wA k x) 95 (0, 0))).drew
      refine wp_region_still_tail 9 (by kernel_rfl) (by kernel_rfl) ?_
      simp only [List.take_succ_cons, List.take_zero, List.drop_succ_cons, List.drop_zero]
      change wpStill Tryd.prog _ (wr.alloc (.cells (wA k x) 95 (0, 0))).drew (fun a' => wpList Tryd.prog _ _ _ a' (wr.alloc (.cells (wA k x) 95 (0, 0))).drew) _ _
      generalize (wr.alloc (.cells (wA k x) 95 (0, 0))).drew = w3 at d3 t3 F3 ⊢
      have c1 : w3.cell? ⟨bd, 1, none⟩ = some (.slice (some ⟨gu, 0, none⟩) D.sure.length cu) := cell_mk d3.top rfl
      have c3 : w3.cell? ⟨wr.heap.size, 0, none⟩ = some (.int .i64 k) := cell_mk t3 rfl
      have l3 : (shutLd 93 (.pointer (some ⟨wr.heap.size, 1, none⟩))).run Tryd.prog w3 = .ok (.agg (secC x)) w3 := ldSec_at (range_wA1 t3) HX.out
      have D3 := Lib.hid d3
      clear d3 t3 hld hst h65 DJ FJ
      repeat still_step
      refine wpStill_nil ?_
      have hlen : (laySure D.sure (D.pend.take j)).length = D.sure.length := laySure_length _ _
      have O3 := D3.out.sure
      have O3' : w3.ownsRow 0 93 64 (.slice (some ⟨gu, 0, none⟩) D.sure.length cu) D.sure.length (flatS (laySure D.sure (D.pend.take j))) := by
        have e : (laySure D.sure (D.pend.take j)).length = D.sure.length := hlen
        rw [← e]
        rw [← e] at O3
        exact O3
      have TH := Lib.hid (row_there O3' k hxk)
      have D4 := Lib.hid (D3.out.setSure' hlen k hxk x HX.out)
      have F4 := Lib.hid (F3.out.setCells (g := gu) (fun _ _ h => h (hF.2.2.1 gu rfl)) (k * 64) (x.map byteV))
      clear O3 O3' hlen
      go_wp2_with (refine wpList_store_mid rfl 93 (.tmp 24) (.tmp 23) rfl gu (k * 64) (secC x) rfl rfl (by rw [secC_size, HX.out]; exact TH.out) (by rw [size_sector, secC_size, HX.out]) (secC_one _) ?_)
      have e2 : (secC x).toList = x.map byteV := rfl
      rw [e2]
      generalize w3.setCells gu (k * 64) (x.map byteV) = w4 at D4 F4 ⊢
      clear e2 c1 c3 l3
      go_wp2
      go_roundw
      case rel =>
        refine ⟨j + 1, by omega, by go_num, ?_, F4.out⟩
        rw [hnx.out]
        exact D4.out
      case measure => simp [intOf]; omega
    · have e1 : D.pend.take j = D.pend := List.take_of_length_le (by omega)
      have dj := DJ.out
      rw [e1] at dj
      have f2 := frozen_mk (i := 2) dj.top
      have c2 : wr.cell? ⟨bd, 2, none⟩ = some (.slice ap D.pend.length cp) := cell_mk dj.top rfl
      have hf6 : Fr (fun c _ => c ≠ bd) wr (wr.setCell ⟨bd, 2, none⟩ (.slice none 0 0)) := (Fr.refl _ _).setCell (fun _ _ h => h rfl) _
      have F6 := Lib.hid (FJ.out.setCell (p := ⟨bd, 2, none⟩) (fun _ _ h => h hFb) (.slice none 0 0))
      have D6 : Hid (Dsk (wr.setCell ⟨bd, 2, none⟩ (.slice none 0 0)) bd (fun c => F c ∨ w.heap.size ≤ c) { D.burn with sure := laySure D.sure D.pend, pend := [] }) := by
        refine ⟨vs, _, .slice none 0 0, ⟨heap_setCell_same dj.top _, ?_, ?_, ⟨rfl, .inl ⟨rfl, rfl⟩⟩, dj.apart, { dj.wf with p64 := (fun x hx => by cases hx), few := Nat.zero_le _ }⟩, .inl hFb, fun c e => .inl (hF.2.1 c e), fun c e => .inl (hF.2.2.1 c e), (fun c e => by cases e)⟩
        · refine ownsRow_setCell_ne (p := ⟨bd, 2, none⟩) dj.seen (fun q => ?_) _
          obtain ⟨cur, hc⟩ := own_tag dj.seen q
          rw [dj.top] at hc; cases hc
        · refine ownsRow_setCell_ne (p := ⟨bd, 2, none⟩) dj.sure (fun q => ?_) _
          obtain ⟨cur, hc⟩ := own_tag dj.sure q
          rw [dj.top] at hc; cases hc
      clear dj e1 hf6
      go_wp2
      go_end0
      exact ⟨rfl, D6.out, F6.out⟩

set_option maxRecDepth 100000 in
theorem sync_down (w : World) (bd : Nat) (F : Nat → Prop) (D : Dk) (h : Dsk w bd F D) (hd : D.burn.down = true) :
    Calls Tryd.prog 50 #[.pointer (some ⟨bd, 0, none⟩)] w fun e w' => e = .returned (.tuple #[]) ∧ Dsk w' bd F D.burn ∧ Fr (fun c _ => c ≠ bd) w w' := by
  have hdn := done_disk w bd F D h
  rw [hd] at hdn
  have HD := Lib.hid hdn
  clear hdn h hd
  go_enter Tryd.func50, Tryd.ntmps50
  go_wp2_with fail
  (with_reducible refine HD.out.mono ?_)
  rintro e w1 ⟨rfl, d1, f1⟩
  have D1 := Lib.hid d1
  have F1 := Lib.hid f1
  clear d1 f1
  go_wp2
  exact bodyPost_ret (results_none rfl _ _ _) rfl ⟨rfl, D1.out, F1.out⟩

/-- disk.Sync. -/
theorem sync_calls (w : World) (bd : Nat) (F : Nat → Prop) (D : Dk) (h : Dsk w bd F D) :
    Calls Tryd.prog 50 #[.pointer (some ⟨bd, 0, none⟩)] w fun e w' => e = .returned (.tuple #[]) ∧ Dsk w' bd (fun c => F c ∨ w.heap.size ≤ c) D.sync ∧ Fr (fun c _ => ¬ F c) w w' := by
  have hFb : F bd := by obtain ⟨_, _, _, _, h1, _⟩ := h; exact h1
  unfold Dk.sync
  cases hd : D.burn.down with
  | true =>
    rw [if_pos rfl]
    exact (sync_down w bd F D h hd).mono fun e w' ⟨he, hd, hf⟩ => ⟨he, hd.wide _, hf.mono fun c _ hc e => hc (e ▸ hFb)⟩
  | false =>
    rw [if_neg (by decide)]
    exact sync_main w bd F D h hd

end Go.Proofs.YtaeonlafcbgpcaaDoor
