/- Texts of the proofs, part 7: what the functions that they reach do, walked; no conditions beyond those that each states. -/
import Derived.Deep.MidRow
import Derived.Test.YtmjccpfchhnfhaaGreatZkc3329a6c2b
set_option linter.unusedVariables false
set_option linter.unusedSimpArgs false
set_option maxRecDepth 100000
set_option maxHeartbeats 8000000
namespace Go.Proofs.YtmjccpfchhnfhaaGreat
open Go.RowKit
section
variable {α:Type} {m:Nat}
end
def vK (cur:Array Value) (o:Nat):List Value→Array Value
 | []=>cur
 | v :: vs=>vK (cur.setIfInBounds o v) (o+1) vs
theorem l9 (vs:List Value):∀(cur:Array Value) (o:Nat),(vK cur o vs).size=cur.size:=by
 induction vs with
 | nil=>intro cur o;rfl
 | cons v vs ih=>intro cur o;rw[vK,ih];simp
theorem M4 (vs:List Value):∀(cur:Array Value) (o j:Nat),o+vs.length≤cur.size→(vK cur o vs)[j]? = if o≤j∧j<o+vs.length then vs[j-o]? else cur[j]?:=by
 induction vs with
 | nil=>intro cur o j _;rw[if_neg (by simp only[List.length_nil];omega)];rfl
 | cons v vs ih=>
  intro cur o j h;simp only[List.length_cons] at h ⊢;rw[vK,ih _ _ _ (by simp;omega),Array.getElem?_setIfInBounds];by_cases h1:o+1≤j∧j<o+1+vs.length
  ·rw[if_pos h1,if_pos (by omega),show j-o=(j-(o+1))+1 from by omega,List.getElem?_cons_succ]
  ·rw[if_neg h1];by_cases h2:o=j
   ·subst h2;rw[if_pos rfl,if_pos (by omega),if_pos (by omega)];simp
   ·rw[if_neg h2,if_neg (by omega)]
theorem gX (vs:List Value):∀{w:World} {g o:Nat} {cur:Array Value} {t:TypeId} {fz:Nat×Nat},w.heap[g]? = some (.cells cur t fz)→(w.setCells g o vs).heap[g]? = some (.cells (vK cur o vs) t fz):=by
 induction vs with
 | nil=>intro w g o cur t fz h;exact h
 | cons v vs ih=>intro w g o cur t fz h;exact ih (bJ h v)
theorem Fr.setCells {K:Nat→Obj→Prop} {a w:World} (h:Fr K a w) {g:Nat} (hp:∀o,a.heap[g]? = some o→¬K g o) (o:Nat) (vs:List Value):Fr K a (w.setCells g o vs):=by
 induction vs generalizing w o with
 | nil=>exact h
 | cons v vs ih=>exact ih (h.setCell (p:=⟨g,o,none⟩) hp v) (o+1)
end Go.Proofs.YtmjccpfchhnfhaaGreat
