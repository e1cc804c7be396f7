/- Texts of the proofs, part 25: what the functions that they reach do, walked; no conditions beyond those that each states. -/
import Derived.Test.YtmjccpfchhnfhaaZz56c07f9bee
set_option linter.unusedVariables false
set_option linter.unusedSimpArgs false
/- elect: OnAnswer (printed by onans2.py). -/
namespace Go.Proofs.Ytmjccpfchhnfhaa
open Go.RowKit
set_option linter.unusedVariables false
set_option linter.unusedSimpArgs false

section
variable {X P : Nat → Prop} {w w' : World} {b : Nat} {n n' : Nd} {q q' : NV}
theorem onAnswer_calls (h : PNs X P w b n q) (m : MV) (hcf : 0 < n.conf.length ∧ n.conf.length ≤ 1000) (hy : n.yes.length ≤ 900000) (mN : Nat) (hme : n.me = (mN : Nat)) (hm16 : mN < 16) (htm : n.tm + 1 < 18446744073709551616) (htm2 : m.tm + 1 < 18446744073709551616) (hl : n.log.last + 1 < 18446744073709551616) (hle : n.log.es.length ≤ 900000) :
    Calls Try.prog 47 #[.pointer (some ⟨b, 0, none⟩), .agg (cM m)] w fun e w' => NOut X P w b (n.onAnswer m.ms) e w' := by
  by_cases k2 : m.kind = 2
  · by_cases lt : n.tm < m.tm
    · cases ho : m.ok with
      | true => exact onAnswer2ty_calls h m k2 lt ho hcf hy mN hme hm16 htm htm2 hl hle
      | false => exact onAnswer2tn_calls h m k2 lt ho hcf hy mN hme hm16 htm htm2 hl hle
    · exact onAnswer2f_calls h m k2 lt hcf hy mN hme hm16 htm htm2 hl hle
  · by_cases k4 : m.kind = 4
    · by_cases lt : n.tm < m.tm
      · cases ho : m.ok with
        | true => exact onAnswer4ty_calls h m k4 lt ho hcf hy mN hme hm16 htm htm2 hl hle
        | false => exact onAnswer4tn_calls h m k4 lt ho hcf hy mN hme hm16 htm htm2 hl hle
      · exact onAnswer4f_calls h m k4 lt hcf hy mN hme hm16 htm htm2 hl hle
    · exact onAnswer0_calls h m k2 k4 hcf hy mN hme hm16 htm htm2 hl hle
end
end Go.Proofs.Ytmjccpfchhnfhaa
/- Nodes, plainly: terms do not fall, what is sure never becomes less. -/
namespace Go.Proofs.Ytmjccpfchhnfhaa
set_option linter.unusedVariables false
set_option linter.unusedSimpArgs false

namespace Nd
structure Up (n n' : Nd) : Prop where
  tm : n.tm ≤ n'.tm
  commit : n.commit ≤ n'.commit
  me : n'.me = n.me
  conf : n'.conf = n.conf
  base : n'.log.base = n.log.base
theorem Up.refl (n : Nd) : Up n n := ⟨Nat.le_refl _, Nat.le_refl _, rfl, rfl, rfl⟩
theorem Up.trans {a b c : Nd} (h : Up a b) (k : Up b c) : Up a c := ⟨Nat.le_trans h.tm k.tm, Nat.le_trans h.commit k.commit, k.me.trans h.me, k.conf.trans h.conf, k.base.trans h.base⟩
theorem follow_up (n : Nd) (t : Nat) (ld : Int) : Up n (n.follow t ld) := by
  unfold follow
  split
  · exact ⟨by show n.tm ≤ t; omega, Nat.le_refl _, rfl, rfl, rfl⟩
  · exact ⟨Nat.le_refl _, Nat.le_refl _, rfl, rfl, rfl⟩
theorem lead_up (n : Nd) : Up n n.lead := ⟨Nat.le_refl _, Nat.le_refl _, rfl, rfl, rfl⟩
theorem askT_up (n : Nd) : Up n n.askT.1 := by
  unfold askT
  split
  · dsimp only
    split
    · exact ⟨Nat.le_succ _, Nat.le_refl _, rfl, rfl, rfl⟩
    · exact ⟨Nat.le_succ _, Nat.le_refl _, rfl, rfl, rfl⟩
  · exact Up.refl n
theorem askF_up (n : Nd) : Up n n.askF.1 := by
  unfold askF
  split
  · dsimp only
    split
    · exact Up.trans (b := { n with role := 1, ld := -1, yes := [n.me] }) ⟨Nat.le_refl _, Nat.le_refl _, rfl, rfl, rfl⟩ (askT_up _)
    · exact ⟨Nat.le_refl _, Nat.le_refl _, rfl, rfl, rfl⟩
  · exact Up.refl n
theorem chosen_up (n : Nd) : Up n n.chosen.1 := by
  unfold chosen
  split
  · exact askT_up n
  · exact lead_up n
theorem onAsk_up (n : Nd) (m : Ms) : Up n (n.onAsk m).1 := by
  unfold onAsk
  split
  · dsimp only
    have h : Up n (if m.kind = 1 ∧ n.tm < m.tm then n.follow m.tm (-1) else n) := by
      split
      · exact follow_up _ _ _
      · exact Up.refl n
    generalize (if m.kind = 1 ∧ n.tm < m.tm then n.follow m.tm (-1) else n) = n1 at h
    split
    · exact ⟨h.tm, h.commit, h.me, h.conf, h.base⟩
    · exact h
  · exact Up.refl n
theorem onAnswer_up (n : Nd) (m : Ms) : Up n (n.onAnswer m).1 := by
  unfold onAnswer
  split
  · dsimp only
    have h : Up n (if n.tm < m.tm ∧ (m.ok = false ∨ m.kind = 2) then n.follow m.tm (-1) else n) := by
      split
      · exact follow_up _ _ _
      · exact Up.refl n
    generalize (if n.tm < m.tm ∧ (m.ok = false ∨ m.kind = 2) then n.follow m.tm (-1) else n) = n1 at h
    have h2 : Up n { n1 with yes := n1.yes ++ [m.src] } := ⟨h.tm, h.commit, h.me, h.conf, h.base⟩
    split
    · split
      · exact h2.trans (chosen_up _)
      · exact h2
    · exact h
  · exact Up.refl n
theorem sureR_up (n : Nd) (r : Nat) : Up n (n.sureR r) := by
  unfold sureR
  split
  · rename_i h
    exact ⟨Nat.le_refl _, by show n.commit ≤ r; omega, rfl, rfl, rfl⟩
  · exact Up.refl n
theorem propose_up (n : Nd) (k : Int) (d : List UInt8) : Up n (n.propose k d).1 := by
  unfold propose
  split
  · exact Up.refl n
  · split
    · exact Up.refl n
    · split
      · exact Up.refl n
      · exact Up.trans (b := { n with log := n.log.add ⟨n.tm, k, d⟩, mat := n.mat.set n.me.toNat (n.log.last + 1) }) ⟨Nat.le_refl _, Nat.le_refl _, rfl, rfl, rfl⟩ (sureR_up _ _)
theorem taken_up (n : Nd) (m : Ms) : Up n (n.taken m).1 := by
  unfold taken
  split
  · exact Up.refl n
  · refine ⟨Nat.le_refl _, ?_, rfl, rfl, (Lg.append_base _ _ _ _).1⟩
    show n.commit ≤ max n.commit _
    omega
theorem onAppend_up (n : Nd) (m : Ms) : Up n (n.onAppend m).1 := by
  unfold onAppend
  split
  · exact Up.refl n
  · split
    · exact Up.refl n
    · have h := follow_up n m.tm m.src
      exact Up.trans (b := { n.follow m.tm m.src with heard := true }) ⟨h.tm, h.commit, h.me, h.conf, h.base⟩ (taken_up _ m)
theorem acked_up (n : Nd) (m : Ms) : Up n (n.acked m) := by
  unfold acked
  split
  · exact ⟨Nat.le_refl _, Nat.le_refl _, rfl, rfl, rfl⟩
  · split
    · exact Up.trans (b := { n with mat := n.mat.set m.src.toNat (max (n.mat.getD m.src.toNat 0) m.index), next := n.next.set m.src.toNat (max (n.mat.getD m.src.toNat 0) m.index + 1) }) ⟨Nat.le_refl _, Nat.le_refl _, rfl, rfl, rfl⟩ (sureR_up _ _)
    · exact Up.refl n
theorem onAcked_up (n : Nd) (m : Ms) : Up n (n.onAcked m).1 := by
  unfold onAcked
  split
  · exact Up.refl n
  · split
    · exact follow_up _ _ _
    · split
      · exact Up.refl n
      · split <;> exact acked_up n m
def hear (n : Nd) (m : Ms) : Nd × List Ms :=
  let a := n.onAsk m
  let b := a.1.onAnswer m
  let c := b.1.onAppend m
  let d := c.1.onAcked m
  (d.1, a.2 ++ b.2 ++ c.2 ++ d.2)
theorem hear_up (n : Nd) (m : Ms) : Up n (n.hear m).1 := (((onAsk_up n m).trans (onAnswer_up _ m)).trans (onAppend_up _ m)).trans (onAcked_up _ m)
end Nd
end Go.Proofs.Ytmjccpfchhnfhaa
/- Nodes, plainly: how great their numbers grow. -/
namespace Go.Proofs.Ytmjccpfchhnfhaa
set_option linter.unusedVariables false
set_option linter.unusedSimpArgs false

structure Bn (B : Nat) (n : Nd) : Prop where
  tm : n.tm ≤ B
  commit : n.commit ≤ B
  last : n.log.last ≤ B
  n16 : n.next.length = 16
  m16 : n.mat.length = 16
  nx : ∀ x ∈ n.next, x ≤ B
  mt : ∀ x ∈ n.mat, x ≤ B
structure Bm (B : Nat) (m : Ms) : Prop where
  tm : m.tm ≤ B
  index : m.index + m.es.length ≤ B
  prev : m.kind = 6 → m.prev ≤ B
  commit : m.commit ≤ B
theorem Bn.mono {B B' : Nat} {n : Nd} (h : Bn B n) (hb : B ≤ B') : Bn B' n := ⟨Nat.le_trans h.tm hb, Nat.le_trans h.commit hb, Nat.le_trans h.last hb, h.n16, h.m16, fun x hx => Nat.le_trans (h.nx x hx) hb, fun x hx => Nat.le_trans (h.mt x hx) hb⟩
theorem Bm.mono {B B' : Nat} {m : Ms} (h : Bm B m) (hb : B ≤ B') : Bm B' m := ⟨Nat.le_trans h.tm hb, Nat.le_trans h.index hb, fun k => Nat.le_trans (h.prev k) hb, Nat.le_trans h.commit hb⟩
theorem set_le {B : Nat} {l : List Nat} (h : ∀ x ∈ l, x ≤ B) (i y : Nat) (hy : y ≤ B) : ∀ x ∈ l.set i y, x ≤ B := fun x hx => by
  rcases List.mem_or_eq_of_mem_set hx with h1 | h1
  · exact h x h1
  · exact h1 ▸ hy
theorem getD_le {B : Nat} {l : List Nat} (h : ∀ x ∈ l, x ≤ B) (i : Nat) : l.getD i 0 ≤ B := by
  rw [List.getD_eq_getElem?_getD]
  by_cases hi : i < l.length
  · rw [List.getElem?_eq_getElem hi]; exact h _ (List.getElem_mem hi)
  · rw [List.getElem?_eq_none (by omega)]; exact Nat.zero_le _
theorem rep_le {B k y : Nat} (hy : y ≤ B) : ∀ x ∈ List.replicate k y, x ≤ B := fun x hx => by rw [List.eq_of_mem_replicate hx]; exact hy
theorem lay_last {B : Nat} {l : Lg} : ∀ (es : List En) (p : Nat), l.base ≤ p → p ≤ l.last → l.last ≤ B → p + es.length ≤ B → (l.lay p es).last ≤ B
  | [], p, _, _, h, _ => h
  | x :: xs, p, h1, h2, h3, h4 => by
    rw [List.length_cons] at h4
    unfold Lg.lay
    split
    · rename_i h
      have h5 : (l.term (p + 1)).2 = true := by rw [h]
      exact lay_last xs (p + 1) (by omega) (Lg.term_is.1 h5).2 h3 (by omega)
    · show l.base + (l.es.take (p - l.base) ++ x :: xs).length ≤ B
      rw [List.length_append, List.length_take, List.length_cons]
      omega
theorem append_last {B : Nat} {l : Lg} {p pt : Nat} {es : List En} (h : l.last ≤ B) (hi : p + es.length ≤ B) : (l.append p pt es).1.last ≤ B := by
  unfold Lg.append
  split
  · exact h
  · rename_i hf
    have hp : p ≤ l.last := by
      unfold Lg.fits at hf
      by_cases hh : l.last < p
      · rw [if_pos hh] at hf; exact absurd (by decide) hf
      · omega
    have hb : l.base ≤ l.last := by unfold Lg.last; omega
    split
    · refine lay_last _ _ (Nat.le_refl _) hb h ?_
      rw [List.length_drop]
      omega
    · exact lay_last _ _ (by omega) hp h hi
namespace Nd
variable {B : Nat} {n : Nd} {m : Ms}
theorem follow_b (h : Bn B n) {t : Nat} (ht : t ≤ B) (ld : Int) : Bn B (n.follow t ld) := by
  unfold follow
  split
  · exact ⟨ht, h.commit, h.last, h.n16, h.m16, h.nx, h.mt⟩
  · exact ⟨h.tm, h.commit, h.last, h.n16, h.m16, h.nx, h.mt⟩
theorem lead_b (h : Bn B n) : Bn (B + 1) n.lead := by
  have hl := h.last
  refine ⟨Nat.le_succ_of_le h.tm, Nat.le_succ_of_le h.commit, ?_, by simp [lead], by simp [lead], rep_le (by omega), set_le (rep_le (Nat.zero_le _)) _ _ (by omega)⟩
  show n.log.base + (n.log.es ++ [_]).length ≤ _
  unfold Lg.last at hl
  simp; omega
theorem toAll_b (m : Ms) (h : Bm B m) : ∀ x ∈ n.toAll m, Bm B x := fun x hx => by
  unfold toAll at hx
  obtain ⟨y, _, rfl⟩ := List.mem_map.1 hx
  exact ⟨h.tm, h.index, h.prev, h.commit⟩
theorem askT_b (h : Bn B n) : Bn (B + 1) n.askT.1 ∧ ∀ x ∈ n.askT.2, Bm (B + 1) x := by
  have h1 := h.mono (Nat.le_succ B)
  have hl := h.last
  have ht := h.tm
  unfold askT
  split
  · dsimp only
    split
    · have hh := lead_b (n := { n with tm := n.tm + 1, vote := n.me, role := 2, ld := -1, yes := [n.me] }) (B := B + 1) ⟨by show n.tm + 1 ≤ B + 1; omega, h1.commit, h1.last, h1.n16, h1.m16, h1.nx, h1.mt⟩
      refine ⟨⟨by show n.tm + 1 ≤ B + 1; omega, h1.commit, ?_, hh.n16, hh.m16, rep_le ?_, set_le (rep_le (Nat.zero_le _)) _ _ ?_⟩, fun x hx => by cases hx⟩
      · show n.log.base + (n.log.es ++ [_]).length ≤ _
        unfold Lg.last at hl
        simp; omega
      · show n.log.last + 1 ≤ B + 1; omega
      · show n.log.last + 1 ≤ B + 1; omega
    · refine ⟨⟨by show n.tm + 1 ≤ B + 1; omega, h1.commit, h1.last, h1.n16, h1.m16, h1.nx, h1.mt⟩, toAll_b _ ⟨by show n.tm + 1 ≤ B + 1; omega, by show n.log.last + 0 ≤ B + 1; omega, fun k => absurd (show (1 : Int) = 6 from k) (by decide), Nat.zero_le _⟩⟩
  · exact ⟨h1, fun x hx => by cases hx⟩
theorem askF_b (h : Bn B n) : Bn (B + 1) n.askF.1 ∧ ∀ x ∈ n.askF.2, Bm (B + 1) x := by
  have h1 := h.mono (Nat.le_succ B)
  have hl := h.last
  have ht := h.tm
  unfold askF
  split
  · dsimp only
    split
    · exact askT_b (n := { n with role := 1, ld := -1, yes := [n.me] }) ⟨h.tm, h.commit, h.last, h.n16, h.m16, h.nx, h.mt⟩
    · refine ⟨⟨h1.tm, h1.commit, h1.last, h1.n16, h1.m16, h1.nx, h1.mt⟩, toAll_b _ ⟨by show n.tm + 1 ≤ B + 1; omega, by show n.log.last + 0 ≤ B + 1; omega, fun k => absurd (show (3 : Int) = 6 from k) (by decide), Nat.zero_le _⟩⟩
  · exact ⟨h1, fun x hx => by cases hx⟩
theorem chosen_b (h : Bn B n) : Bn (B + 1) n.chosen.1 ∧ ∀ x ∈ n.chosen.2, Bm (B + 1) x := by
  unfold chosen
  split
  · exact askT_b h
  · exact ⟨lead_b h, fun x hx => by cases hx⟩
theorem onAsk_b (h : Bn B n) (hm : Bm B m) : Bn B (n.onAsk m).1 ∧ ∀ x ∈ (n.onAsk m).2, Bm B x := by
  unfold onAsk
  split
  · rename_i hk
    dsimp only
    have h1 : Bn B (if m.kind = 1 ∧ n.tm < m.tm then n.follow m.tm (-1) else n) := by
      split
      · exact follow_b h hm.tm _
      · exact h
    generalize (if m.kind = 1 ∧ n.tm < m.tm then n.follow m.tm (-1) else n) = n1 at h1
    refine ⟨?_, fun x hx => ?_⟩
    · split
      · exact ⟨h1.tm, h1.commit, h1.last, h1.n16, h1.m16, h1.nx, h1.mt⟩
      · exact h1
    · rw [List.mem_singleton.1 hx]
      refine ⟨?_, Nat.zero_le _, fun k => ?_, Nat.zero_le _⟩
      · show (if _ then m.tm else n1.tm) ≤ B
        split
        · exact hm.tm
        · exact h1.tm
      · have k' : m.kind + 1 = 6 := k
        omega
  · exact ⟨h, fun x hx => by cases hx⟩
theorem onAnswer_b (h : Bn B n) (hm : Bm B m) : Bn (B + 1) (n.onAnswer m).1 ∧ ∀ x ∈ (n.onAnswer m).2, Bm (B + 1) x := by
  unfold onAnswer
  split
  · dsimp only
    have h1 : Bn B (if n.tm < m.tm ∧ (m.ok = false ∨ m.kind = 2) then n.follow m.tm (-1) else n) := by
      split
      · exact follow_b h hm.tm _
      · exact h
    generalize (if n.tm < m.tm ∧ (m.ok = false ∨ m.kind = 2) then n.follow m.tm (-1) else n) = n1 at h1
    have h2 : Bn B { n1 with yes := n1.yes ++ [m.src] } := ⟨h1.tm, h1.commit, h1.last, h1.n16, h1.m16, h1.nx, h1.mt⟩
    split
    · split
      · exact chosen_b h2
      · exact ⟨h2.mono (Nat.le_succ _), fun x hx => by cases hx⟩
    · exact ⟨h1.mono (Nat.le_succ _), fun x hx => by cases hx⟩
  · exact ⟨h.mono (Nat.le_succ _), fun x hx => by cases hx⟩
theorem sureR_b (h : Bn B n) (r : Nat) : Bn B (n.sureR r) := by
  unfold sureR
  split
  · rename_i hh
    have h3 : (n.log.term r).2 = true := by rw [hh.2.1]
    have := (Lg.term_is.1 h3).2
    exact ⟨h.tm, by show r ≤ B; have := h.last; omega, h.last, h.n16, h.m16, h.nx, h.mt⟩
  · exact h
theorem sendTo_b (h : Bn B n) (x : Int) : ∀ y ∈ n.sendTo x, Bm B y := fun y hy => by
  unfold sendTo at hy
  split at hy
  · cases hy
  · rename_i hc
    rw [List.mem_singleton.1 hy]
    have hn := getD_le h.nx x.toNat
    have hl := h.last
    refine ⟨h.tm, ?_, fun k => absurd (show (5 : Int) = 6 from k) (by decide), h.commit⟩
    show n.next.getD x.toNat 0 - 1 + (n.log.slice _ 8).length ≤ B
    unfold Lg.slice
    split
    · rename_i hs
      have := Lg.has_iff.1 hs
      rw [List.length_take, List.length_drop]
      unfold Lg.last at *
      omega
    · show _ + 0 ≤ B
      omega
theorem beat_b (h : Bn B n) : ∀ y ∈ n.beat, Bm B y := fun y hy => by
  unfold beat at hy
  obtain ⟨x, _, hx⟩ := List.mem_flatMap.1 hy
  exact sendTo_b h x y hx
theorem propose_b (h : Bn B n) (k : Int) (d : List UInt8) : Bn (B + 1) (n.propose k d).1 := by
  have h1 := h.mono (Nat.le_succ B)
  have hl := h.last
  unfold propose
  split
  · exact h1
  · split
    · exact h1
    · split
      · exact h1
      · refine sureR_b (n := { n with log := n.log.add ⟨n.tm, k, d⟩, mat := n.mat.set n.me.toNat (n.log.last + 1) }) ⟨h1.tm, h1.commit, ?_, h1.n16, by show (n.mat.set _ _).length = 16; rw [List.length_set]; exact h.m16, h1.nx, set_le h1.mt _ _ (by omega)⟩ _
        show n.log.base + (n.log.es ++ [_]).length ≤ _
        unfold Lg.last at hl
        simp; omega
theorem taken_b (h1 : Bn B n) (hm : Bm B m) : Bn B (n.taken m).1 ∧ ∀ x ∈ (n.taken m).2, Bm B x := by
  unfold taken
  split
  · refine ⟨h1, fun x hx => ?_⟩
    rw [List.mem_singleton.1 hx]
    refine ⟨h1.tm, by have := hm.index; show m.index + 0 ≤ B; omega, fun _ => ?_, Nat.zero_le _⟩
    show n.log.hint m.index ≤ B
    have hl := h1.last
    unfold Lg.hint
    split
    · unfold Lg.last at hl; omega
    · have := Lg.down_le n.log (n.log.term (min m.index n.log.last)).1 (min m.index n.log.last - n.log.base)
      omega
  · have hi := hm.index
    have hc := hm.commit
    refine ⟨⟨h1.tm, ?_, append_last h1.last hi, h1.n16, h1.m16, h1.nx, h1.mt⟩, fun x hx => ?_⟩
    · have := h1.commit
      show max n.commit (min m.commit (m.index + m.es.length)) ≤ B
      omega
    · rw [List.mem_singleton.1 hx]
      exact ⟨h1.tm, by show m.index + m.es.length + 0 ≤ B; omega, fun _ => Nat.zero_le _, Nat.zero_le _⟩
theorem onAppend_b (h : Bn B n) (hm : Bm B m) : Bn B (n.onAppend m).1 ∧ ∀ x ∈ (n.onAppend m).2, Bm B x := by
  unfold onAppend
  split
  · exact ⟨h, fun x hx => by cases hx⟩
  · split
    · refine ⟨h, fun x hx => ?_⟩
      rw [List.mem_singleton.1 hx]
      exact ⟨h.tm, by have := hm.index; show m.index + 0 ≤ B; omega, fun _ => Nat.zero_le _, Nat.zero_le _⟩
    · have h0 := follow_b h hm.tm m.src
      exact taken_b (n := { n.follow m.tm m.src with heard := true }) ⟨h0.tm, h0.commit, h0.last, h0.n16, h0.m16, h0.nx, h0.mt⟩ hm
theorem acked_b (h : Bn B n) (hm : Bm B m) (hk : m.kind = 6) : Bn (B + 1) (n.acked m) := by
  have h1 := h.mono (Nat.le_succ B)
  have hp := hm.prev hk
  have hi := hm.index
  have hg := getD_le h.mt m.src.toNat
  unfold acked
  split
  · exact ⟨h1.tm, h1.commit, h1.last, by show (n.next.set _ _).length = 16; rw [List.length_set]; exact h.n16, h1.m16, set_le h1.nx _ _ (by omega), h1.mt⟩
  · split
    · exact sureR_b (n := { n with mat := n.mat.set m.src.toNat (max (n.mat.getD m.src.toNat 0) m.index), next := n.next.set m.src.toNat (max (n.mat.getD m.src.toNat 0) m.index + 1) }) ⟨h1.tm, h1.commit, h1.last, by show (n.next.set _ _).length = 16; rw [List.length_set]; exact h.n16, by show (n.mat.set _ _).length = 16; rw [List.length_set]; exact h.m16, set_le h1.nx _ _ (by omega), set_le h1.mt _ _ (by omega)⟩ _
    · exact h1
theorem onAcked_b (h : Bn B n) (hm : Bm B m) : Bn (B + 1) (n.onAcked m).1 ∧ ∀ x ∈ (n.onAcked m).2, Bm (B + 1) x := by
  have h1 := h.mono (Nat.le_succ B)
  unfold onAcked
  split
  · exact ⟨h1, fun x hx => by cases hx⟩
  · rename_i hk
    have hk6 : m.kind = 6 := Classical.not_not.1 hk
    split
    · exact ⟨follow_b h1 (Nat.le_succ_of_le hm.tm) _, fun x hx => by cases hx⟩
    · split
      · exact ⟨h1, fun x hx => by cases hx⟩
      · have ha := acked_b h hm hk6
        split
        · exact ⟨ha, fun x hx => by cases hx⟩
        · exact ⟨ha, sendTo_b ha _⟩
theorem hear_b (h : Bn B n) (hm : Bm B m) : Bn (B + 2) (n.hear m).1 ∧ ∀ x ∈ (n.hear m).2, Bm (B + 2) x := by
  obtain ⟨a1, a2⟩ := onAsk_b h hm
  obtain ⟨b1, b2⟩ := onAnswer_b a1 hm
  obtain ⟨c1, c2⟩ := onAppend_b b1 (hm.mono (Nat.le_succ B))
  obtain ⟨d1, d2⟩ := onAcked_b c1 (hm.mono (Nat.le_succ B))
  refine ⟨d1, fun x hx => ?_⟩
  have hx' : x ∈ (n.onAsk m).2 ++ ((n.onAsk m).1.onAnswer m).2 ++ (((n.onAsk m).1.onAnswer m).1.onAppend m).2 ++ ((((n.onAsk m).1.onAnswer m).1.onAppend m).1.onAcked m).2 := hx
  rcases List.mem_append.1 hx' with hx' | hx'
  · rcases List.mem_append.1 hx' with hx' | hx'
    · rcases List.mem_append.1 hx' with hx' | hx'
      · exact (a2 x hx').mono (by omega)
      · exact (b2 x hx').mono (by omega)
    · exact (c2 x hx').mono (by omega)
  · exact d2 x hx'
end Nd
end Go.Proofs.Ytmjccpfchhnfhaa
