/- Texts of the proofs, part 49: what the functions that they reach do, walked; no conditions beyond those that each states. -/
import Derived.Test.YtmjccpfchhnfhaaGreatZzf89031a007
import Derived.Test.YtmjccpfchhnfhaaGreatZzc6a0aab95b
set_option linter.unusedVariables false
set_option linter.unusedSimpArgs false
/- Law 12: FollowHears. -/
namespace Go.Proofs.YtmjccpfchhnfhaaGreat
open Go.RowKit
set_option linter.unusedVariables false
set_option linter.unusedSimpArgs false
theorem StV.lies.tt [Old] {w w' : World} {s : StV} (h : s.lies w) (f : Fr (fun _ _ => True) w w') : s.lies w' :=
 ⟨h.cf.tt f, h.ev.tt f, h.nx.tt f, h.mt.tt f, fun c q => Nat.lt_of_lt_of_le (h.od c q) f.size⟩
def BO [Old] (s : StV) (w : World) (e : Ending) (w' : World) : Prop := ((∃ X P b q b2 q2, e = .returned (.tuple #[.pointer (some ⟨b, 0, none⟩), .pointer (some ⟨b2, 0, none⟩)]) ∧ PNs X P w' b s.nd q ∧ DNs X w' b2 s.nd q2 ∧ ¬ P b2 ∧ (∀ c, X c → w.heap.size ≤ c) ∧ nm60 s.next s.mat ∧ s.good) ∨ e = .returned (.tuple #[.pointer none, .pointer none])) ∧ Fr (fun _ _ => True) w w'
theorem both_calls [Old] (w : World) (s : StV) (h : s.lies w) (hcl : s.conf.length ≤ maxLen) : Calls Tryz.prog 8 #[.agg (cS s)] w fun e w' => BO s w e w' := by
 by_cases hg : s.good
 ·have hr := right_all hg.right
  refine (both_some w s h hg ⟨hr.2.1, by omega⟩).mono fun e w' ⟨h1, h2⟩ => ⟨?_, (h2.mono fun c _ k => k.2 : Fr (fun c _ => True ∧ c < w.heap.size) w w').within⟩
  rcases h1 with ⟨X, P, b, q, b2, q2, h1, h3, h4, h5, h6, h7⟩ | h1
  ·exact .inl ⟨X, P, b, q, b2, q2, h1, h3, h4, h5, h6, h7, hg⟩
  ·exact .inr h1
 ·exact (both_none w s h.cf hcl hg).mono fun e w' ⟨h1, h2⟩ => ⟨.inr h1, h2⟩
end Go.Proofs.YtmjccpfchhnfhaaGreat
/- Law 12: FollowHears. -/
namespace Go.Proofs.YtmjccpfchhnfhaaGreat
open Go.RowKit
set_option linter.unusedVariables false
set_option linter.unusedSimpArgs false
theorem getD_all {l : List Nat} {p : Nat → Prop} (h : l.length = 16) (hp : ∀ i, i < 16 → p (l.getD i 0)) : ∀ x ∈ l, p x := fun x hx => by
 obtain ⟨i, hi, rfl⟩ := List.getElem_of_mem hx
 have := hp i (by omega)
 rw [List.getD_eq_getElem?_getD, List.getElem?_eq_getElem hi] at this
 exact this
theorem StV.good.bn {s : StV} (h : s.good) (hn : nm60 s.next s.mat) : Bn 2305843009213693952 s.nd ∧ s.nd.log.es.length ≤ 20 := by
 have hl : s.nd.log.es.length = s.es.length := List.length_map ..
 have h20 := h.len
 have hb := h.base
 refine ⟨⟨by have := h.tm; show s.tm ≤ _; omega, by have := h.commit; show s.commit ≤ _; omega, ?_, h.n16, h.m16, getD_all (p := fun x => x ≤ 2305843009213693952) h.n16 (fun i hi => by have := hn i hi; show s.next.getD i 0 ≤ _; omega), getD_all (p := fun x => x ≤ 2305843009213693952) h.m16 (fun i hi => by have := hn i hi; show s.mat.getD i 0 ≤ _; omega)⟩, by omega⟩
 show s.base + s.nd.log.es.length ≤ _
 omega
def Boxes (W2 : World) (g0 g1 : Nat) (s : StV) (m : MV) (W : World) : Prop := W.heap[g0]? = some (.cells (cS s) 29 (0, 0)) ∧ W.heap[g1]? = some (.cells (cM m) 32 (0, 0)) ∧ Fr (fun c _ => c < W2.heap.size) W2 W
theorem Boxes.fr {W2 W W' : World} {g0 g1 : Nat} {s : StV} {m : MV} {K : Nat → Obj → Prop} (h : Boxes W2 g0 g1 s m W) (f : Fr K W W') (hk : ∀ c o, c < W2.heap.size → K c o) (h0 : g0 < W2.heap.size) (h1 : g1 < W2.heap.size) : Boxes W2 g0 g1 s m W' :=
 ⟨f.keep _ _ h.1 (hk _ _ h0), f.keep _ _ h.2.1 (hk _ _ h1), h.2.2.trans (f.mono fun c o q => hk c o q)⟩
end Go.Proofs.YtmjccpfchhnfhaaGreat
