/- Texts of the proofs, part 4: what the functions that they reach do, walked; no conditions beyond those that each states. -/
import Derived.Maps.OwnSet
import Derived.Test.YtkaikckehkcfhaaZza6d0128b14
set_option linter.unusedVariables false
set_option linter.unusedSimpArgs false
/- The sessions' table: Close. -/
namespace Go.Proofs.Ytkaikckehkcfhaa
open Go.RowKit

def delR (R : List Rec) (n : Int) : List Rec := R.filter fun r => !decide (r.key = n)
theorem drp_ent (n : Int) : ∀ R : List Rec, (R.map Rec.key).Nodup → drp (R.map Rec.ent) n = (delR R n).map Rec.ent
  | [], _ => rfl
  | r :: R, hd => by
    rw [List.map_cons, List.nodup_cons] at hd
    by_cases h : r.key = n
    · have e : delR (r :: R) n = R := by
        simp only [delR, List.filter_cons, h, decide_true, Bool.not_true, Bool.false_eq_true, ↓reduceIte]
        refine List.filter_eq_self.2 fun x hx => ?_
        have : x.key ≠ n := fun e => hd.1 (by rw [h, ← e]; exact List.mem_map_of_mem hx)
        simp [this]
      rw [e]
      simp [drp, Rec.ent, h]
    · have e : delR (r :: R) n = r :: delR R n := by simp [delR, List.filter_cons, h]
      rw [e]
      simp only [List.map_cons, drp, Rec.ent, h, ↓reduceIte]
      rw [← drp_ent n R hd.2]
theorem delM_abs (R : List Rec) (n : Int) : (delR R n).map Rec.abs = (R.map Rec.abs).filter fun x => !decide (x.1 = n) := by
  rw [List.filter_map]; rfl

theorem Tab.del {w : World} {B bt bm : Nat} {c : Nat} {R : List Rec} (n : Int) (h : Tab w B bt (some bm) c R) :
    Tab (w.putObj bm (.map (entriesOf .i64 (drp (R.map Rec.ent) n)) c)) B bt (some bm) c (delR R n) := by
  have hm := h.map bm rfl
  have hnb : ∀ b cs t fz, w.heap[b]? = some (.cells cs t fz) → b ≠ bm := fun b cs t fz hb e => by rw [e, hm.2] at hb; cases hb
  have hf : Fr (fun b _ => b ≠ bm) w (w.putObj bm (.map (entriesOf .i64 (drp (R.map Rec.ent) n)) c)) := (Fr.refl _ _).putObj (fun _ _ h => h rfl) _
  refine ⟨hf.keep _ _ h.top (hnb _ _ _ _ h.top), h.le, (fun e => by cases e), fun b e => ?_, fun r hr => ?_, ?_, ?_, ?_, ?_⟩
  · cases e
    exact ⟨hm.1, by rw [drp_ent n R h.keys]; exact heap_putObj_same hm.2 _⟩
  · have ho := h.each r ((List.mem_filter.1 hr).1)
    refine ho.fr hf (hnb _ _ _ _ ho.cells) (fun b o hb hk e => ?_)
    rw [e, hm.2] at hb
    cases hb
    rcases hk with hk | ⟨_, _, _, e', _⟩
    · have := hm.1; omega
    · cases e'
  · exact h.keys.sublist (List.filter_sublist.map _)
  · exact h.blks.sublist (List.filter_sublist.map _)
  · exact h.borns.sublist (List.filter_sublist.map _)
  · exact fun r hr => h.old r (List.mem_filter.1 hr).1

set_option maxRecDepth 100000 in
theorem close_none (w : World) (B bt : Nat) (mv : Option Nat) (c : Nat) (R : List Rec) (n : Int) (h : Tab w B bt mv c R) (hn : findR R n = none) :
    Calls Try.prog 11 #[.pointer (some ⟨bt, 0, none⟩), .int .i64 n] w fun e w' => e = .returned (.int .i64 81) ∧ w = w' := by
  have hl := h.lookup n
  have hc := h.cell
  rw [hn] at hl
  simp only [Option.map_none, Option.getD_none, Option.isSome_none] at hl
  go_enter Try.func11, Try.ntmps11
  go_wp2
  go_ret
  exact ⟨rfl, rfl⟩

set_option maxRecDepth 100000 in
theorem close_some (w : World) (B bt : Nat) (mv : Option Nat) (c : Nat) (R : List Rec) (n : Int) (r : Rec) (h : Tab w B bt mv c R) (hn : findR R n = some r) :
    Calls Try.prog 11 #[.pointer (some ⟨bt, 0, none⟩), .int .i64 n] w fun e w' => e = .returned (.int .i64 0) ∧ Tab w' B bt mv c (delR R n) ∧ Fr (KT B) w w' := by
  cases mv with
  | none => rw [h.nil rfl] at hn; cases hn
  | some bm =>
  have hl := h.lookup n
  have hc := h.cell
  have hm := h.map bm rfl
  have hs : (look (R.map Rec.ent) n).isSome = true := by rw [look_ent, hn]; rfl
  rw [hn] at hl
  simp only [Option.map_some, Option.getD_some, Option.isSome_some] at hl
  have H := Lib.hid h
  have HM := Lib.hid hm
  have HS := Lib.hid hs
  clear h hm hn hs
  go_enter Try.func11, Try.ntmps11
  go_wp2_with (at_delete; refine wpList_delete_int _ rfl _ _ 25 3 rfl 58 .i64 Try.underlying25 Try.underlying3 bm c (R.map Rec.ent) n rfl rfl HM.out.2 HS.out ?_)
  go_ret
  exact ⟨rfl, H.out.del n, (Fr.refl _ _).putObj (KT.map HM.out.1 HM.out.2) _⟩

theorem close_calls (w : World) (B bt : Nat) (M : MT) (n : Int) (h : TabM w B bt M) (code : Int) (M' : MT) (hr : closeM M n = (code, M')) :
    Calls Try.prog 11 #[.pointer (some ⟨bt, 0, none⟩), .int .i64 n] w fun e w' => e = .returned (.int .i64 code) ∧ TabM w' B bt M' ∧ Fr (KT B) w w' := by
  have hM := h
  obtain ⟨mv, c, R, h, e⟩ := h
  have hf := findM_abs n R
  rw [e] at hf
  unfold closeM at hr
  cases hn : findR R n with
  | none =>
    rw [hf, hn] at hr
    obtain ⟨rfl, rfl⟩ := Prod.mk.inj hr
    exact (close_none w B bt mv c R n h hn).mono fun e w' ⟨he, hw⟩ => ⟨he, hw ▸ hM, hw ▸ Fr.refl _ _⟩
  | some r =>
    rw [hf, hn] at hr
    obtain ⟨rfl, rfl⟩ := Prod.mk.inj hr
    exact (close_some w B bt mv c R n r h hn).mono fun e' w' ⟨he, ht, hf⟩ => ⟨he, ⟨_, _, _, ht, by rw [delM_abs, e]⟩, hf⟩

end Go.Proofs.Ytkaikckehkcfhaa
