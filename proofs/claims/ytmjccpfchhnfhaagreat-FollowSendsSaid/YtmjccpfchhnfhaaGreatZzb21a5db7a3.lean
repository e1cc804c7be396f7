/- Texts of the proofs, part 10: what the functions that they reach do, walked; no conditions beyond those that each states. -/
import Derived.Test.YtmjccpfchhnfhaaGreatZzc437cbf81c
set_option linter.unusedVariables false
set_option linter.unusedSimpArgs false
/- Logs, plainly: what terms' functions do. -/
namespace Go.Proofs.YtmjccpfchhnfhaaGreat
set_option linter.unusedVariables false
set_option linter.unusedSimpArgs false
structure Lg where
 base : Nat
 bt : Nat
 es : List En
 deriving DecidableEq, Inhabited
namespace Lg
def last (l : Lg) : Nat := l.base + l.es.length
def has (l : Lg) (i : Nat) : Bool := decide (l.base < i ∧ i ≤ l.last)
def entry (l : Lg) (i : Nat) : Option En := if l.has i then l.es[i - l.base - 1]? else none
def term (l : Lg) (i : Nat) : Nat × Bool := if i = l.base then (l.bt, true) else match l.entry i with
 | some x => (x.t, true)
 | none => (0, false)
def lastT (l : Lg) : Nat := (l.es.getLast?.map (·.t)).getD l.bt
def newer (l : Lg) (t i : Nat) : Bool := decide (l.lastT < t) || (decide (t = l.lastT) && decide (l.last ≤ i))
def add (l : Lg) (x : En) : Lg := { l with es := l.es ++ [x] }
def slice (l : Lg) (i most : Nat) : List En := if l.has i then (l.es.drop (i - l.base - 1)).take most else []
def fits (l : Lg) (p pt n : Nat) : Int := if l.last < p then 60 else if p < l.base then (if p + n ≤ l.base then 61 else 0) else if (l.term p).1 = pt then 0 else 60
def lay (l : Lg) : Nat → List En → Lg
 | _, [] => l
 | p, x :: xs => if l.term (p + 1) = (x.t, true) then lay l (p + 1) xs else { l with es := l.es.take (p - l.base) ++ x :: xs }
def append (l : Lg) (p pt : Nat) (es : List En) : Lg × Int :=
 if l.fits p pt es.length ≠ 0 then (l, l.fits p pt es.length) else if p < l.base then (l.lay l.base (es.drop (l.base - p)), 0) else (l.lay p es, 0)
def down (l : Lg) (own : Nat) : Nat → Nat
 | 0 => l.base
 | k + 1 => if (l.term (l.base + (k + 1))).1 = own then down l own k else l.base + (k + 1)
def hint (l : Lg) (p : Nat) : Nat := if min p l.last ≤ l.base then l.base else l.down (l.term (min p l.last)).1 (min p l.last - l.base)
theorem has_iff {l : Lg} {i : Nat} : l.has i = true ↔ l.base < i ∧ i ≤ l.last := by unfold has; simp
theorem entry_some {l : Lg} {i : Nat} (h : l.base < i ∧ i ≤ l.last) : ∃ h' : i - l.base - 1 < l.es.length, l.entry i = some (l.es[i - l.base - 1]'h') := by
 have hl : i - l.base - 1 < l.es.length := by unfold last at h; omega
 refine ⟨hl, ?_⟩
 unfold entry
 rw [if_pos (has_iff.2 h), List.getElem?_eq_getElem hl]
theorem entry_none {l : Lg} {i : Nat} (h : ¬ (l.base < i ∧ i ≤ l.last)) : l.entry i = none := by
 unfold entry
 rw [if_neg (fun k => h (has_iff.1 k))]
theorem term_base (l : Lg) : l.term l.base = (l.bt, true) := by unfold term; rw [if_pos rfl]
theorem term_in {l : Lg} {i : Nat} (h : l.base < i ∧ i ≤ l.last) : ∃ h' : i - l.base - 1 < l.es.length, l.term i = ((l.es[i - l.base - 1]'h').t, true) := by
 obtain ⟨h', e⟩ := entry_some h
 refine ⟨h', ?_⟩
 unfold term
 rw [if_neg (by omega), e]
theorem term_out {l : Lg} {i : Nat} (h : i < l.base ∨ l.last < i) : l.term i = (0, false) := by
 unfold term
 rw [if_neg (by unfold last at h; omega), entry_none (by omega)]
theorem term_is {l : Lg} {i : Nat} : (l.term i).2 = true ↔ l.base ≤ i ∧ i ≤ l.last := by
 by_cases h0 : i = l.base
 ·subst h0
  rw [term_base]
  unfold last
  simp
 ·by_cases h : l.base < i ∧ i ≤ l.last
  ·obtain ⟨_, e⟩ := term_in h
   rw [e]
   simp
   omega
  ·rw [term_out (by omega)]
   simp
   omega
theorem lay_base (l : Lg) : ∀ (es : List En) (p : Nat), (l.lay p es).base = l.base ∧ (l.lay p es).bt = l.bt
 | [], p => ⟨rfl, rfl⟩
 | x :: xs, p => by
  unfold lay
  split
  ·exact lay_base l xs (p + 1)
  ·exact ⟨rfl, rfl⟩
theorem append_base (l : Lg) (p pt : Nat) (es : List En) : (l.append p pt es).1.base = l.base ∧ (l.append p pt es).1.bt = l.bt := by
 unfold append
 split
 ·exact ⟨rfl, rfl⟩
 ·split <;> exact lay_base _ _ _
theorem down_le (l : Lg) (own : Nat) : ∀ k, l.base ≤ l.down own k ∧ l.down own k ≤ l.base + k
 | 0 => ⟨Nat.le_refl _, Nat.le_refl _⟩
 | k + 1 => by
  unfold down
  split
  ·have := down_le l own k; omega
  ·omega
end Lg
structure Nd where
 me : Int
 vote : Int
 role : Int
 ld : Int
 conf : List Int
 yes : List Int
 tm : Nat
 commit : Nat
 log : Lg
 heard : Bool
 next : List Nat
 mat : List Nat
 deriving DecidableEq, Inhabited
structure Ms where
 kind : Int
 src : Int
 dst : Int
 tm : Nat
 index : Nat
 prev : Nat
 commit : Nat
 ok : Bool
 data : List UInt8
 es : List En
 deriving DecidableEq, Inhabited
def zMs : Ms := ⟨0, 0, 0, 0, 0, 0, 0, false, [], []⟩
namespace Nd
def new (me : Int) (conf : List Int) : Nd := ⟨me, -1, 0, -1, conf, [], 0, 0, ⟨0, 0, []⟩, false, List.replicate 16 0, List.replicate 16 0⟩
def follow (n : Nd) (t : Nat) (ld : Int) : Nd := if n.tm < t then { n with tm := t, vote := -1, role := 0, ld := ld, yes := [] } else { n with role := 0, ld := ld, yes := [] }
def others (n : Nd) : List Int := n.conf.filter fun m => decide (m ≠ n.me)
def lead (n : Nd) : Nd := { n with role := 3, ld := n.me, yes := [], log := n.log.add ⟨n.tm, 0, []⟩, next := List.replicate 16 (n.log.last + 1), mat := (List.replicate 16 0).set n.me.toNat (n.log.last + 1) }
def toAll (n : Nd) (m : Ms) : List Ms := n.others.map fun x => { m with src := n.me, dst := x }
end Nd
end Go.Proofs.YtmjccpfchhnfhaaGreat
