/- Texts of the proofs, part 7: what the functions that they reach do, walked; no conditions beyond those that each states. -/
import Derived.Deep.QuietTactic
import Derived.BigQuiet
import Derived.Test.YtlolfcnfcgegdaaGreatZz5d1d6b8dc4
set_option linter.unusedVariables false
set_option linter.unusedSimpArgs false
/- The references' Same: whether two slices of bytes hold the same bytes. -/
namespace Go.Proofs.YtlolfcnfcgegdaaGreat
open Go.RowKit

theorem Fr.drewN {K : Nat → Obj → Prop} {a w : World} (h : Fr K a w) (n : Nat) : Fr K a (w.drewN n) := by
  induction n generalizing w with
  | zero => exact h
  | succ n ih => exact (ih h).drew

theorem byteV_inj {a b : UInt8} : ((a.toNat : Int) != (b.toNat : Int)) = (a != b) := by
  rw [Bool.eq_iff_iff, bne_iff_ne, bne_iff_ne]
  exact ⟨fun h e => h (by rw [e]), fun h e => h (UInt8.toNat_inj.1 (by omega))⟩

set_option maxRecDepth 100000 in
theorem same_len (w : World) (a1 a2 : Option Addr) (n1 n2 c1 c2 : Nat) (hn : ¬ n1 = n2) : Calls Tryz.prog 13 #[.slice a1 n1 c1, .slice a2 n2 c2] w fun e w' => e = .returned (.bool false) ∧ w = w' := by
  have hq : ((n1 : Int) != n2) = true := by simp; omega
  clear hn
  go_enter Tryz.func13, Tryz.ntmps13
  go_wp2
  go_ret
  exact ⟨rfl, rfl⟩

set_option maxRecDepth 100000 in
theorem same_nil (w : World) (a1 a2 : Option Addr) (c1 c2 : Nat) : Calls Tryz.prog 13 #[.slice a1 0 c1, .slice a2 0 c2] w fun e w' => e = .returned (.bool true) ∧ w = w' := by
  go_enter Tryz.func13, Tryz.ntmps13
  go_wp2
  go_loop [5] (fun i => i = .int .i64 0) (fun _ => 0)
  case atStart => exact rfl
  case round =>
    obtain rfl := hrel
    go_wp2
    go_ret
    exact ⟨rfl, rfl⟩

set_option maxRecDepth 100000 in
theorem same_loop (w : World) (b1 b2 o1 o2 n c1 c2 : Nat) (x y : List UInt8) {K K' : Nat → Obj → Prop} (hx : BytesAt K w (.slice (some ⟨b1, o1, none⟩) n c1) x) (hy : BytesAt K' w (.slice (some ⟨b2, o2, none⟩) n c2) y) (hm : n ≤ 140737488355328) :
    Calls Tryz.prog 13 #[.slice (some ⟨b1, o1, none⟩) n c1, .slice (some ⟨b2, o2, none⟩) n c2] w fun e w' => e = .returned (.bool (decide (x = y))) ∧ ∃ k, w' = w.drewN k := by
  have h1 := hx.len
  have h2 := hy.len
  have HX := Lib.hid hx
  have HY := Lib.hid hy
  have H1 := Lib.hid h1
  have H2 := Lib.hid h2
  clear hx hy h1 h2
  go_enter Tryz.func13, Tryz.ntmps13
  go_wp2
  go_loopw [5] (fun i wr => ∃ k : Nat, k ≤ n ∧ i = .int .i64 k ∧ x.take k = y.take k ∧ ∃ j, wr = w.drewN j) (fun i _ => n - (intOf i).toNat)
  case atStart => exact ⟨0, Nat.zero_le _, rfl, rfl, 0, rfl⟩
  case round =>
    obtain ⟨k, hk, rfl, ht, j, rfl⟩ := hrel
    have HT := Lib.hid ht
    clear ht
    by_cases hlt : k < n
    · have g1 := HX.out.cell (i := k) (by have := H1.out; omega)
      have g2 := HY.out.cell (i := k) (by have := H2.out; omega)
      have l1 : k < x.length := by have := H1.out; omega
      have l2 : k < y.length := by have := H2.out; omega
      generalize hu : x[k] = u at g1
      generalize hv : y[k] = v at g2
      have HU := Lib.hid hu
      have HV := Lib.hid hv
      clear hu hv
      unfold byteV at g1 g2
      go_wp2
      go_quiet (fail)
      go_wp2
      · go_ret
        have hne : (↑u.toNat != (↑v.toNat : Int)) = true := by assumption
        rw [byteV_inj] at hne
        refine ⟨?_, j + nq, World.drewN_drewN _ _ _⟩
        have e1 : x ≠ y := fun e => by
          have := HU.out; have := HV.out; subst e; simp_all
        simp [e1]
      · have heq : (↑u.toNat != (↑v.toNat : Int)) = false := by assumption
        rw [byteV_inj] at heq
        go_roundw
        case rel =>
          refine ⟨k + 1, by omega, by go_num, ?_, _, rfl⟩
          rw [List.take_succ_eq_append_getElem l1, List.take_succ_eq_append_getElem l2, HT.out, HU.out, HV.out]
          simp at heq
          rw [heq]
        case measure => simp [intOf]; omega
    · go_wp2
      go_ret
      have e1 : x = y := by
        have := HT.out
        rwa [List.take_of_length_le (by have := H1.out; omega), List.take_of_length_le (by have := H2.out; omega)] at this
      exact ⟨by simp [e1], _, rfl⟩

theorem same_calls (w : World) (v1 v2 : Value) (x y : List UInt8) {K K' : Nat → Obj → Prop} (hx : BytesAt K w v1 x) (hy : BytesAt K' w v2 y) (hm : x.length ≤ 140737488355328) :
    Calls Tryz.prog 13 #[v1, v2] w fun e w' => e = .returned (.bool (decide (x = y))) ∧ ∃ k, w' = w.drewN k := by
  obtain ⟨a1, c1, rfl⟩ := hx.form
  obtain ⟨a2, c2, rfl⟩ := hy.form
  by_cases hl : x.length = y.length
  · by_cases h0 : x.length = 0
    · have e1 := List.length_eq_zero_iff.1 h0
      have e2 := List.length_eq_zero_iff.1 (hl ▸ h0)
      subst e1 e2
      exact (same_nil w a1 a2 c1 c2).mono fun e w' ⟨he, hw⟩ => ⟨he, 0, hw.symm⟩
    · obtain ⟨b1, o1, rfl⟩ := hx.addr (by omega)
      obtain ⟨b2, o2, rfl⟩ := hy.addr (by omega)
      rw [← hl] at hy ⊢
      exact same_loop w b1 b2 o1 o2 _ c1 c2 x y hx hy hm
  · refine (same_len w a1 a2 _ _ c1 c2 hl).mono fun e w' ⟨he, hw⟩ => ⟨?_, 0, hw.symm⟩
    rw [he, show decide (x = y) = false from by simp; exact fun e => hl (by rw [e])]

end Go.Proofs.YtlolfcnfcgegdaaGreat
/- The sessions' table as a list of clients, last numbers and answers: one contract a function. -/
namespace Go.Proofs.YtlolfcnfcgegdaaGreat
open Go.RowKit

abbrev MT := List (Int × Int × List UInt8)
def TabM (w : World) (B bt : Nat) (M : MT) : Prop := ∃ mv c R, Tab w B bt mv c R ∧ R.map Rec.abs = M
def findM (M : MT) (n : Int) : Option (Int × Int × List UInt8) := M.find? fun x => decide (x.1 = n)
def askM (M : MT) (n s : Int) : List UInt8 × Bool × Int :=
  match findM M n with
  | none => ([], false, 81)
  | some x => if 0 < s ∧ x.2.1 = s then (x.2.2, true, 0) else ([], false, askCode x.2.1 s)
def setM (M : MT) (n s : Int) (bs : List UInt8) : MT := M.map fun x => if x.1 = n then (x.1, s, bs) else x
def doneM (M : MT) (n s : Int) (bs : List UInt8) : Int × MT :=
  match findM M n with
  | none => (81, M)
  | some x => if s = x.2.1 + 1 ∧ bs.length ≤ 9 then (0, setM M n s bs) else (doneCode x.2.1 s bs.length, M)
def openM (M : MT) (n : Int) : Int × MT :=
  if n < 0 ∨ 16 ≤ n then (31, M) else if (findM M n).isSome then (1, M) else if 6 ≤ M.length then (42, M) else (0, M ++ [(n, 0, [])])
def closeM (M : MT) (n : Int) : Int × MT := if (findM M n).isSome then (0, M.filter fun x => !decide (x.1 = n)) else (81, M)

theorem findM_abs (n : Int) : ∀ R : List Rec, findM (R.map Rec.abs) n = (findR R n).map Rec.abs
  | [] => rfl
  | r :: R => by
    have ih := findM_abs n R
    by_cases h : r.key = n
    · simp [findM, findR, Rec.abs, h]
    · simp only [findM, findR, List.map_cons, List.find?_cons, Rec.abs, h, decide_false] at ih ⊢
      exact ih
theorem setM_abs (R : List Rec) (n s : Int) (v : Value) (bs : List UInt8) : (setR R n s v bs).map Rec.abs = setM (R.map Rec.abs) n s bs := by
  simp only [setR, setM, List.map_map]
  refine List.map_congr_left fun r _ => ?_
  by_cases h : r.key = n <;> simp [Rec.abs, h]

theorem TabM.fr {w w' : World} {B bt : Nat} {M : MT} (h : TabM w B bt M) (hf : Fr (fun _ _ => True) w w') : TabM w' B bt M := by
  obtain ⟨mv, c, R, h, e⟩ := h
  exact ⟨mv, c, R, h.fr hf, e⟩

theorem TabM.frk {K : Nat → Obj → Prop} {w w' : World} {B bt : Nat} {M : MT} (h : TabM w B bt M) (hf : Fr K w w') (hk : ∀ b o, w.heap[b]? = some o → KS B b o → K b o) : TabM w' B bt M := by
  obtain ⟨mv, c, R, h, e⟩ := h
  exact ⟨mv, c, R, h.frk hf hk, e⟩
/-- A new table. -/
theorem TabM.new (w : World) (B : Nat) (hB : B ≤ w.heap.size) : TabM (w.alloc (.cells #[.map none] 59 (0, 0))) B w.heap.size [] :=
  ⟨none, 0, [], ⟨heap_alloc_new _ _, hB, fun _ => rfl, (fun _ e => by cases e), (fun _ h => by cases h), List.nodup_nil, List.nodup_nil, List.nodup_nil, (fun _ h => by cases h)⟩, rfl⟩

theorem ask_calls (w : World) (B bt : Nat) (M : MT) (n s : Int) (h : TabM w B bt M) (h0 : 0 ≤ s) (h1 : s < 4294967296) (bs : List UInt8) (again : Bool) (code : Int) (hr : askM M n s = (bs, again, code)) :
    Calls Tryz.prog 68 #[.pointer (some ⟨bt, 0, none⟩), .int .i64 n, .int .u32 s] w fun e w' =>
      ∃ a cap, e = .returned (.tuple #[.slice a bs.length cap, .bool again, .int .i64 code]) ∧ BytesAt (New w.heap.size) w' (.slice a bs.length cap) bs ∧ TabM w' B bt M ∧ Fr (fun _ _ => True) w w' := by
  have hM := h
  obtain ⟨mv, c, R, h, e⟩ := h
  have hf := findM_abs n R
  rw [e] at hf
  cases hn : findR R n with
  | none =>
    rw [hn] at hf
    simp only [askM, hf, Option.map_none, Prod.mk.injEq] at hr
    obtain ⟨rfl, rfl, rfl⟩ := hr
    exact (ask_none w B bt mv c R n s h hn).mono fun e w' ⟨he, hw⟩ => ⟨none, 0, he, BytesAt.nil _ _, hw ▸ hM, hw ▸ Fr.refl _ _⟩
  | some r =>
    rw [hn] at hf
    simp only [askM, hf, Option.map_some, Rec.abs] at hr
    by_cases hs : 0 < s ∧ r.seq = s
    · rw [if_pos hs] at hr
      simp only [Prod.mk.injEq] at hr
      obtain ⟨rfl, rfl, rfl⟩ := hr
      refine (ask_again w B bt mv c R n s r h hn hs.1 hs.2).mono fun e w' ⟨v, he, hv, hf⟩ => ?_
      obtain ⟨a, cap, rfl⟩ := hv.form
      exact ⟨a, cap, he, hv, hM.fr hf, hf⟩
    · rw [if_neg hs] at hr
      simp only [Prod.mk.injEq] at hr
      obtain ⟨rfl, rfl, rfl⟩ := hr
      exact (ask_code w B bt mv c R n s r h hn h0 h1 hs).mono fun e w' ⟨he, hw⟩ => ⟨none, 0, he, BytesAt.nil _ _, hw ▸ hM, hw ▸ Fr.refl _ _⟩

theorem done_calls (w : World) (B bt : Nat) (M : MT) (n s : Int) (v : Value) (bs : List UInt8) (h : TabM w B bt M) (h0 : 0 ≤ s) (h1 : s < 4294967296) {K : Nat → Obj → Prop} (hb : BytesAt K w v bs) (code : Int) (M' : MT) (hr : doneM M n s bs = (code, M')) :
    Calls Tryz.prog 71 #[.pointer (some ⟨bt, 0, none⟩), .int .i64 n, .int .u32 s, v] w fun e w' =>
      e = .returned (.int .i64 code) ∧ TabM w' B bt M' ∧ Fr (KT B) w w' := by
  have hM := h
  obtain ⟨mv, c, R, h, e⟩ := h
  obtain ⟨a, cap, rfl⟩ := hb.form
  have hf := findM_abs n R
  rw [e] at hf
  cases hn : findR R n with
  | none =>
    rw [hn] at hf
    simp only [doneM, hf, Option.map_none, Prod.mk.injEq] at hr
    obtain ⟨rfl, rfl⟩ := hr
    exact (done_none w B bt mv c R n s _ h hn).mono fun e w' ⟨he, hw⟩ => ⟨he, hw ▸ hM, hw ▸ Fr.refl _ _⟩
  | some r =>
    rw [hn] at hf
    simp only [doneM, hf, Option.map_some, Rec.abs] at hr
    by_cases hs : s = r.seq + 1 ∧ bs.length ≤ 9
    · rw [if_pos hs] at hr
      simp only [Prod.mk.injEq] at hr
      obtain ⟨rfl, rfl⟩ := hr
      refine (done_ok w B bt mv c R n s r a cap bs h hn h0 h1 hs.1 hs.2 hb).mono fun e' w' ⟨v, he, ht, hf⟩ => ?_
      exact ⟨he, ⟨mv, c, _, ht, by rw [setM_abs, e]⟩, hf.but (KT.keep (h.each r (findR_mem hn).1) (Nat.le_refl _))⟩
    · rw [if_neg hs] at hr
      simp only [Prod.mk.injEq] at hr
      obtain ⟨rfl, rfl⟩ := hr
      exact (done_code w B bt mv c R n s r a _ cap h hn h0 h1 (by omega)).mono fun e w' ⟨he, hw⟩ => ⟨he, hw ▸ hM, hw ▸ Fr.refl _ _⟩

theorem open_calls (w : World) (B bt : Nat) (M : MT) (n : Int) (h : TabM w B bt M) (hB : B ≤ w.heap.size) (code : Int) (M' : MT) (hr : openM M n = (code, M')) :
    Calls Tryz.prog 28 #[.pointer (some ⟨bt, 0, none⟩), .int .i64 n] w fun e w' =>
      e = .returned (.int .i64 code) ∧ TabM w' B bt M' ∧ Fr (KT B) w w' := by
  have hM := h
  obtain ⟨mv, c, R, h, e⟩ := h
  have hf := findM_abs n R
  have hl : M.length = R.length := by rw [← e, List.length_map]
  rw [e] at hf
  unfold openM at hr
  by_cases hrg : n < 0 ∨ 16 ≤ n
  · rw [if_pos hrg] at hr
    obtain ⟨rfl, rfl⟩ := Prod.mk.inj hr
    exact (open_range w B bt mv c R n h hrg).mono fun e w' ⟨he, hw⟩ => ⟨he, hw ▸ hM, hw ▸ Fr.refl _ _⟩
  · rw [if_neg hrg] at hr
    cases hn : findR R n with
    | some r =>
      rw [hf, hn] at hr
      obtain ⟨rfl, rfl⟩ := Prod.mk.inj hr
      exact (open_there w B bt mv c R n r h (by omega) (by omega) hn).mono fun e w' ⟨he, hw⟩ => ⟨he, hw ▸ hM, hw ▸ Fr.refl _ _⟩
    | none =>
      rw [hf, hn] at hr
      simp only [Option.map_none, Option.isSome_none, Bool.false_eq_true, ↓reduceIte] at hr
      by_cases h6 : 6 ≤ M.length
      · rw [if_pos h6] at hr
        obtain ⟨rfl, rfl⟩ := Prod.mk.inj hr
        exact (open_full w B bt mv c R n h (by omega) (by omega) hn (by omega)).mono fun e w' ⟨he, hw⟩ => ⟨he, hw ▸ hM, hw ▸ Fr.refl _ _⟩
      · rw [if_neg h6] at hr
        obtain ⟨rfl, rfl⟩ := Prod.mk.inj hr
        cases mv with
        | none =>
          refine (open_first w B bt c R n h hB (by omega) (by omega)).mono fun e' w' ⟨he, ⟨bm, c', be, cc, ht, _⟩, hf⟩ => ⟨he, ⟨_, _, _, ht, ?_⟩, hf.but (KT.top h)⟩
          rw [List.map_append, e]; rfl
        | some bm =>
          refine (open_ok w B bt bm c R n h hB (by omega) (by omega) hn (by omega)).mono fun e' w' ⟨he, ⟨c', be, cc, ht, _⟩, hf⟩ => ⟨he, ⟨_, _, _, ht, ?_⟩, hf.but (KT.map (h.map bm rfl).1 (h.map bm rfl).2)⟩
          rw [List.map_append, e]; rfl

end Go.Proofs.YtlolfcnfcgegdaaGreat
/- The statements' awake: the chapter's examples hold. -/
namespace Go.Proofs.YtlolfcnfcgegdaaGreat
open Go.RowKit

/-- A slice literal of one byte. -/
theorem BytesAt.lit1 (w : World) (b : UInt8) (n : Int) (hn : n = b.toNat) : BytesAt (New w.heap.size) (w.alloc (.cells #[.int .u8 n] 5 (0, 0))) (.slice (some ⟨w.heap.size, 0, none⟩) 1 1) [b] := by
  refine ⟨_, 1, rfl, by simp, (fun e => by cases e), .inr ⟨w.heap.size, 0, _, rfl, heap_alloc_new _ _, ⟨Nat.le_refl _, _, _, rfl⟩, fun i hi => ?_⟩⟩
  have : i = 0 := by simpa using hi
  subst this hn
  exact cell_mk (heap_alloc_new _ _) rfl

/-- Behind a table's step: the table and what lay below. -/
theorem Fr.kt {B : Nat} {a w w' : World} (h : Fr (fun b _ => b < B) a w) (hf : Fr (KT B) w w') : Fr (fun b _ => b < B) a w' := h.trans (hf.mono fun _ _ h => .inl h)
theorem BytesAt.kt {B n : Nat} {w w' : World} {v : Value} {bs : List UInt8} (h : BytesAt (New n) w v bs) (hf : Fr (KT B) w w') : BytesAt (KT B) w' v bs := (h.mono fun _ _ _ h => KT.new h).fr hf

end Go.Proofs.YtlolfcnfcgegdaaGreat
