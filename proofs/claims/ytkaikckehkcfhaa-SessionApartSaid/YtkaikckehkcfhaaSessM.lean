/- The sessions' table as a list of clients, last numbers and answers: one contract a function. -/
import Derived.Test.YtkaikckehkcfhaaSess
import Derived.Test.YtkaikckehkcfhaaSame
namespace Go.Proofs.Ytkaikckehkcfhaa
open Go.RowKit

abbrev MT := List (Int × Int × List UInt8)
def TabM (w : World) (B bt : Nat) (M : MT) : Prop := ∃ mv c R, Tab w B bt mv c R ∧ R.map Rec.abs = M
def findM (M : MT) (n : Int) : Option (Int × Int × List UInt8) := M.find? fun x => decide (x.1 = n)
def askM (M : MT) (n s : Int) : List UInt8 × Bool × Int :=
  match findM M n with
  | none => ([], false, 81)
  | some x => if 0 < s ∧ x.2.1 = s then (x.2.2, true, 0) else ([], false, askCode x.2.1 s)
def setM (M : MT) (n s : Int) (bs : List UInt8) : MT := M.map fun x => if x.1 = n then (x.1, s, bs) else x
def doneM (M : MT) (n s : Int) (bs : List UInt8) : Int × MT :=
  match findM M n with
  | none => (81, M)
  | some x => if s = x.2.1 + 1 ∧ bs.length ≤ 9 then (0, setM M n s bs) else (doneCode x.2.1 s bs.length, M)
def openM (M : MT) (n : Int) : Int × MT :=
  if n < 0 ∨ 16 ≤ n then (31, M) else if (findM M n).isSome then (1, M) else if 6 ≤ M.length then (42, M) else (0, M ++ [(n, 0, [])])
def closeM (M : MT) (n : Int) : Int × MT := if (findM M n).isSome then (0, M.filter fun x => !decide (x.1 = n)) else (81, M)

theorem findM_abs (n : Int) : ∀ R : List Rec, findM (R.map Rec.abs) n = (findR R n).map Rec.abs
  | [] => rfl
  | r :: R => by
    have ih := findM_abs n R
    by_cases h : r.key = n
    · simp [findM, findR, Rec.abs, h]
    · simp only [findM, findR, List.map_cons, List.find?_cons, Rec.abs, h, decide_false] at ih ⊢
      exact ih
theorem setM_abs (R : List Rec) (n s : Int) (v : Value) (bs : List UInt8) : (setR R n s v bs).map Rec.abs = setM (R.map Rec.abs) n s bs := by
  simp only [setR, setM, List.map_map]
  refine List.map_congr_left fun r _ => ?_
  by_cases h : r.key = n <;> simp [Rec.abs, h]

theorem TabM.fr {w w' : World} {B bt : Nat} {M : MT} (h : TabM w B bt M) (hf : Fr (fun _ _ => True) w w') : TabM w' B bt M := by
  obtain ⟨mv, c, R, h, e⟩ := h
  exact ⟨mv, c, R, h.fr hf, e⟩

/-- A new table. -/
theorem TabM.new (w : World) (B : Nat) (hB : B ≤ w.heap.size) : TabM (w.alloc (.cells #[.map none] 27 (0, 0))) B w.heap.size [] :=
  ⟨none, 0, [], ⟨heap_alloc_new _ _, hB, fun _ => rfl, (fun _ e => by cases e), (fun _ h => by cases h), List.nodup_nil, List.nodup_nil⟩, rfl⟩

theorem ask_calls (w : World) (B bt : Nat) (M : MT) (n s : Int) (h : TabM w B bt M) (h0 : 0 ≤ s) (h1 : s < 4294967296) (bs : List UInt8) (again : Bool) (code : Int) (hr : askM M n s = (bs, again, code)) :
    Calls Try.prog 9 #[.pointer (some ⟨bt, 0, none⟩), .int .i64 n, .int .u32 s] w fun e w' =>
      ∃ a cap, e = .returned (.tuple #[.slice a bs.length cap, .bool again, .int .i64 code]) ∧ BytesAt (New w.heap.size) w' (.slice a bs.length cap) bs ∧ TabM w' B bt M ∧ Fr (fun _ _ => True) w w' := by
  have hM := h
  obtain ⟨mv, c, R, h, e⟩ := h
  have hf := findM_abs n R
  rw [e] at hf
  cases hn : findR R n with
  | none =>
    rw [hn] at hf
    simp only [askM, hf, Option.map_none, Prod.mk.injEq] at hr
    obtain ⟨rfl, rfl, rfl⟩ := hr
    exact (ask_none w B bt mv c R n s h hn).mono fun e w' ⟨he, hw⟩ => ⟨none, 0, he, BytesAt.nil _ _, hw ▸ hM, hw ▸ Fr.refl _ _⟩
  | some r =>
    rw [hn] at hf
    simp only [askM, hf, Option.map_some, Rec.abs] at hr
    by_cases hs : 0 < s ∧ r.seq = s
    · rw [if_pos hs] at hr
      simp only [Prod.mk.injEq] at hr
      obtain ⟨rfl, rfl, rfl⟩ := hr
      refine (ask_again w B bt mv c R n s r h hn hs.1 hs.2).mono fun e w' ⟨v, he, hv, hf⟩ => ?_
      obtain ⟨a, cap, rfl⟩ := hv.form
      exact ⟨a, cap, he, hv, hM.fr hf, hf⟩
    · rw [if_neg hs] at hr
      simp only [Prod.mk.injEq] at hr
      obtain ⟨rfl, rfl, rfl⟩ := hr
      exact (ask_code w B bt mv c R n s r h hn h0 h1 hs).mono fun e w' ⟨he, hw⟩ => ⟨none, 0, he, BytesAt.nil _ _, hw ▸ hM, hw ▸ Fr.refl _ _⟩

theorem done_calls (w : World) (B bt : Nat) (M : MT) (n s : Int) (v : Value) (bs : List UInt8) (h : TabM w B bt M) (h0 : 0 ≤ s) (h1 : s < 4294967296) {K : Nat → Obj → Prop} (hb : BytesAt K w v bs) (code : Int) (M' : MT) (hr : doneM M n s bs = (code, M')) :
    Calls Try.prog 10 #[.pointer (some ⟨bt, 0, none⟩), .int .i64 n, .int .u32 s, v] w fun e w' =>
      e = .returned (.int .i64 code) ∧ TabM w' B bt M' ∧ Fr (KT B) w w' := by
  have hM := h
  obtain ⟨mv, c, R, h, e⟩ := h
  obtain ⟨a, cap, rfl⟩ := hb.form
  have hf := findM_abs n R
  rw [e] at hf
  cases hn : findR R n with
  | none =>
    rw [hn] at hf
    simp only [doneM, hf, Option.map_none, Prod.mk.injEq] at hr
    obtain ⟨rfl, rfl⟩ := hr
    exact (done_none w B bt mv c R n s _ h hn).mono fun e w' ⟨he, hw⟩ => ⟨he, hw ▸ hM, hw ▸ Fr.refl _ _⟩
  | some r =>
    rw [hn] at hf
    simp only [doneM, hf, Option.map_some, Rec.abs] at hr
    by_cases hs : s = r.seq + 1 ∧ bs.length ≤ 9
    · rw [if_pos hs] at hr
      simp only [Prod.mk.injEq] at hr
      obtain ⟨rfl, rfl⟩ := hr
      refine (done_ok w B bt mv c R n s r a cap bs h hn h0 h1 hs.1 hs.2 hb).mono fun e' w' ⟨v, he, ht, hf⟩ => ?_
      exact ⟨he, ⟨mv, c, _, ht, by rw [setM_abs, e]⟩, hf⟩
    · rw [if_neg hs] at hr
      simp only [Prod.mk.injEq] at hr
      obtain ⟨rfl, rfl⟩ := hr
      exact (done_code w B bt mv c R n s r a _ cap h hn h0 h1 (by omega)).mono fun e w' ⟨he, hw⟩ => ⟨he, hw ▸ hM, hw ▸ Fr.refl _ _⟩

theorem open_calls (w : World) (B bt : Nat) (M : MT) (n : Int) (h : TabM w B bt M) (hB : B ≤ w.heap.size) (code : Int) (M' : MT) (hr : openM M n = (code, M')) :
    Calls Try.prog 8 #[.pointer (some ⟨bt, 0, none⟩), .int .i64 n] w fun e w' =>
      e = .returned (.int .i64 code) ∧ TabM w' B bt M' ∧ Fr (KT B) w w' := by
  have hM := h
  obtain ⟨mv, c, R, h, e⟩ := h
  have hf := findM_abs n R
  have hl : M.length = R.length := by rw [← e, List.length_map]
  rw [e] at hf
  unfold openM at hr
  by_cases hrg : n < 0 ∨ 16 ≤ n
  · rw [if_pos hrg] at hr
    obtain ⟨rfl, rfl⟩ := Prod.mk.inj hr
    exact (open_range w B bt mv c R n h hrg).mono fun e w' ⟨he, hw⟩ => ⟨he, hw ▸ hM, hw ▸ Fr.refl _ _⟩
  · rw [if_neg hrg] at hr
    cases hn : findR R n with
    | some r =>
      rw [hf, hn] at hr
      obtain ⟨rfl, rfl⟩ := Prod.mk.inj hr
      exact (open_there w B bt mv c R n r h (by omega) (by omega) hn).mono fun e w' ⟨he, hw⟩ => ⟨he, hw ▸ hM, hw ▸ Fr.refl _ _⟩
    | none =>
      rw [hf, hn] at hr
      simp only [Option.map_none, Option.isSome_none, Bool.false_eq_true, ↓reduceIte] at hr
      by_cases h6 : 6 ≤ M.length
      · rw [if_pos h6] at hr
        obtain ⟨rfl, rfl⟩ := Prod.mk.inj hr
        exact (open_full w B bt mv c R n h (by omega) (by omega) hn (by omega)).mono fun e w' ⟨he, hw⟩ => ⟨he, hw ▸ hM, hw ▸ Fr.refl _ _⟩
      · rw [if_neg h6] at hr
        obtain ⟨rfl, rfl⟩ := Prod.mk.inj hr
        cases mv with
        | none =>
          refine (open_first w B bt c R n h hB (by omega) (by omega)).mono fun e' w' ⟨he, ⟨bm, c', be, cc, ht⟩, hf⟩ => ⟨he, ⟨_, _, _, ht, ?_⟩, hf⟩
          rw [List.map_append, e]; rfl
        | some bm =>
          refine (open_ok w B bt bm c R n h hB (by omega) (by omega) hn (by omega)).mono fun e' w' ⟨he, ⟨c', be, cc, ht⟩, hf⟩ => ⟨he, ⟨_, _, _, ht, ?_⟩, hf⟩
          rw [List.map_append, e]; rfl

end Go.Proofs.Ytkaikckehkcfhaa
