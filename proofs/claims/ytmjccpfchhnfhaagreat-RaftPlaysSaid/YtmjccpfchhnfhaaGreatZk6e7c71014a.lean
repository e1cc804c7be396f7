/- Texts of the proofs, part 9: what the functions that they reach do, walked; no conditions beyond those that each states. -/
import Derived.Lib.SliceRun
import Derived.Deep.AppendLies
import Derived.Deep.RegionLaw
import Derived.Test.YtmjccpfchhnfhaaGreatZk4fc5b34611
set_option linter.unusedVariables false
set_option linter.unusedSimpArgs false
set_option maxRecDepth 100000
set_option maxHeartbeats 8000000
namespace Go.Proofs.YtmjccpfchhnfhaaGreat
open Go.RowKit
theorem vY {P:Program} (w:World) (t e ty:TypeId) (z:Value) (ht:P.underlying t=some (.slice e)) (hv:∀w,(zeroValue e).run P w=.ok z w) (b o n c:Nat) (hn:0<n)
 (h1:∀u∈(Builtin.zeroCells z.cells n).toList,u.oneCell'=true) (hc:∀j,j<(Builtin.zeroCells z.cells n).toList.length→(w.cell? ⟨b,o+j,none⟩).isSome=true) (hf:∀j,j<(Builtin.zeroCells z.cells n).toList.length→w.frozen? ⟨b,o+j,none⟩=false):
 (Builtin.clear_ #[t] ty #[.slice (some ⟨b,o,none⟩) n c]).run P w=.ok (.tuple #[]) (w.setCells b o (Builtin.zeroCells z.cells n).toList):=by
 have hst:=run_storeCells_cells (P:=P) b o (Builtin.zeroCells z.cells n).toList 0 w (by simpa using hc) (by simpa using hf) h1;simp only[Nat.add_zero] at hst;obtain⟨m,rfl⟩:∃m,n=m+1:=⟨n-1,by omega⟩
 simp [Builtin.clear_,run_underlying ht,hv,hst]
theorem sk (x:List Value) (cur:Array Value) (o j:Nat) (h:o+x.length≤cur.size):(vK cur o x)[j]? = if o≤j∧j<o+x.length then x[j-o]? else cur[j]?:=M4 x cur o j h
theorem del_nums (i j n s:Nat) (hij:i≤j) (hj:j≤n):i*s≤j*s∧j*s≤n*s∧(i+(n-j))*s=i*s+(n*s-j*s)∧(j-i)*s=j*s-i*s∧(n-j)*s=n*s-j*s∧(n-(j-i))*s=i*s+(n*s-j*s):=by
 refine⟨Nat.mul_le_mul_right _ hij,Nat.mul_le_mul_right _ hj,by rw[Nat.add_mul,Nat.sub_mul],Nat.sub_mul _ _ _,Nat.sub_mul _ _ _,?_⟩;rw[show n-(j-i)=i+(n-j) by omega,Nat.add_mul,Nat.sub_mul]
theorem DZ {w:World} {B:Nat} {e:TypeId} {s g n cap:Nat} {xs:List Value} (h:w.ownsRow B e s (.slice (some ⟨g,0,none⟩) n cap) n xs) (i j:Nat) (hij:i≤j) (hj:j≤n) (Z:List Value) (hZ:Z.length=(j-i)*s):
 ((w.setCells g (i*s) (xs.drop (j*s))).setCells g ((i+(n-j))*s) Z).ownsRow B e s (.slice (some ⟨g,0,none⟩) (i+(n-j)) cap) (i+(n-j)) (xs.take (i*s)++xs.drop (j*s)):=by
 obtain⟨hl,h2⟩:=h;obtain⟨e1,e2,e3,e4,e5,_⟩:=del_nums i j n s hij hj;rcases h2 with⟨h2,_⟩ | ⟨g',cap',cur,hv,hB,hg,hnc,hcm,hs,ht⟩
 ·cases h2
 ·cases hv;have hcs:n*s≤cur.size:=by rw[hs];exact Nat.mul_le_mul_right _ hnc
  have hnl:(xs.drop (j*s)).length=n*s-j*s:=by rw[List.length_drop,hl]
  refine⟨by rw[List.length_append,List.length_take,hnl,hl,e3];omega,.inr ⟨g,cap,vK (vK cur (i*s) (xs.drop (j*s))) ((i+(n-j))*s) Z,rfl,hB,gX _ (gX _ hg),by omega,hcm,by rw[l9,l9];exact hs,?_⟩⟩;apply List.ext_getElem?;intro q;rw[List.getElem?_take,e3];by_cases hq:q<i*s+(n*s-j*s)
  ·rw[if_pos hq,Array.getElem?_toList,sk _ _ _ _ (by rw[l9,hZ];omega),if_neg (by omega),sk _ _ _ _ (by omega),hnl];by_cases hq2:q<i*s
   ·rw[if_neg (by omega),List.getElem?_append_left (by rw[List.length_take,hl];omega),List.getElem?_take,if_pos hq2,←ht,List.getElem?_take,if_pos (by omega),Array.getElem?_toList]
   ·rw[if_pos (by omega),List.getElem?_append_right (by rw[List.length_take,hl];omega),List.length_take,hl,Nat.min_eq_left (by omega)]
  ·rw[if_neg hq,List.getElem?_eq_none];rw[List.length_append,List.length_take,hnl,hl];omega
theorem j0 {w:World} {B:Nat} {e:TypeId} {s g n cap:Nat} {xs:List Value} (h:w.ownsRow B e s (.slice (some ⟨g,0,none⟩) n cap) n xs) (q:Nat) (hq:q<n*s):w.cell? ⟨g,q,none⟩=xs[q]?∧(w.cell? ⟨g,q,none⟩).isSome=true∧w.frozen? ⟨g,q,none⟩=false:=by
 have h1:=h.cellAt q hq;refine⟨h1,?_,h.frozenAt q⟩;rw[h1,List.getElem?_eq_getElem (by rw[h.1];exact hq)];rfl
theorem own_cap {w:World} {B:Nat} {e:TypeId} {s g n cap:Nat} {xs:List Value} (h:w.ownsRow B e s (.slice (some ⟨g,0,none⟩) n cap) n xs):n≤cap∧cap≤maxLen:=by
 rcases h.2 with⟨h2,_⟩ | ⟨g',cap',cur,hv,hB,hg,hnc,hcm,hs,ht⟩
 ·cases h2
 ·cases hv;exact⟨hnc,hcm⟩
end Go.Proofs.YtmjccpfchhnfhaaGreat
