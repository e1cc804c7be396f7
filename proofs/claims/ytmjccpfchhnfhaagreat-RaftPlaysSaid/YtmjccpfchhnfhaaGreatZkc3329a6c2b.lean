/- Texts of the proofs, part 3: what the functions that they reach do, walked; no conditions beyond those that each states. -/
import Derived.WalkKit
import Derived.WalkSpells
import Derived.WalkLawsBesides
import Derived.Lib.Hide
import Derived.Maps.OwnOps
import Derived.RangeFuncRecord
import Derived.Laws.AppendOwnNone
set_option linter.unusedVariables false
set_option linter.unusedSimpArgs false
set_option maxRecDepth 100000
set_option maxHeartbeats 8000000
namespace Go.Proofs.YtmjccpfchhnfhaaGreat
open Go.RowKit
theorem k9v {p q:Prop} (k:q) (h:q→p:=by
 have g1:=HX.out.cell (i:=k) (by have:=H1.out;omega);have g2:=HY.out.cell (i:=k) (by have:=H2.out;omega);have l1:k<x.length:=by have:=H1.out;omega
 have l2:k<y.length:=by have:=H2.out;omega
 intro kk0;revert l2;revert l1;revert g2;revert g1;exact kk0):p:=h k
theorem m28 {p:Prop} (h:p:=by
 have e1:x≠y:=fun e=>by have:=HU.out;have:=HV.out;subst e;simp_all
 simp [e1]):p:=h
theorem m6T {p:Prop} (h:p:=by
 go_wp2;go_ret;exact⟨rfl,rfl⟩):p:=h
theorem m7q {p:Prop} (h:p:=by
 obtain rfl:=hrel;exact m6T):p:=h
theorem mEe {p:Prop} (h:p:=by
 refine⟨k+1,by omega,by go_num,?_,_,rfl⟩;rw[List.take_succ_eq_append_getElem l1,List.take_succ_eq_append_getElem l2,HT.out,HU.out,HV.out];simp at heq;rw[heq]):p:=h
theorem meX {p:Prop} (h:p:=by
 have:=HT.out
 rwa [List.take_of_length_le (by have:=H1.out;omega),List.take_of_length_le (by have:=H2.out;omega)] at this):p:=h
theorem mur {p:Prop} (h:p:=by
 rw[List.getElem?_map,List.getElem?_eq_getElem hj] at hu;exact(Option.some.inj hu).symm):p:=h
structure Fr (K:Nat→Obj→Prop) (w w':World):Prop where
 os:w'.os=w.os
 tape:w'.tape=w.tape
 output:w'.output=w.output
 size:w.heap.size≤w'.heap.size
 keep:∀(b:Nat) (o:Obj),w.heap[b]? = some o→K b o→w'.heap[b]? = some o
theorem Fr.refl (K:Nat→Obj→Prop) (w:World):Fr K w w:=⟨rfl,rfl,rfl,Nat.le_refl _,fun _ _ h _=>h⟩
theorem Fr.trans {K:Nat→Obj→Prop} {a b c:World} (h:Fr K a b) (k:Fr K b c):Fr K a c:=
 ⟨k.os.trans h.os,k.tape.trans h.tape,k.output.trans h.output,Nat.le_trans h.size k.size,fun i o hi hk=>k.keep i o (h.keep i o hi hk) hk⟩
theorem Fr.mono {K K':Nat→Obj→Prop} {a b:World} (h:Fr K a b) (hK:∀i o,K' i o→K i o):Fr K' a b:=
 ⟨h.os,h.tape,h.output,h.size,fun i o hi hk=>h.keep i o hi (hK i o hk)⟩
abbrev FT:=Fr (fun _ _=>True)
theorem Fr.tT {K:Nat→Obj→Prop} {a b:World} (h:FT a b):Fr K a b:=h.mono fun _ _ _=>trivial
theorem Fr.tt {K:Nat→Obj→Prop} {a w w':World} (h:Fr K a w) (hf:FT w w'):Fr K a w':=h.trans (hf.tT)
theorem Fr.drew {K:Nat→Obj→Prop} {a w:World} (h:Fr K a w):Fr K a w.drew:=⟨h.os,h.tape,h.output,h.size,h.keep⟩
theorem bX {w:World} {b:Nat} {o:Obj} (h:w.heap[b]? = some o):b<w.heap.size:=by
 rcases Nat.lt_or_ge b w.heap.size with h1 | h1
 ·exact h1
 ·rw[Array.getElem?_eq_none h1] at h;cases h
theorem Fr.alloc {K:Nat→Obj→Prop} {a w:World} (h:Fr K a w) (o:Obj):Fr K a (w.alloc o):=
 h.trans ⟨rfl,rfl,rfl,by simp,fun b _ hb _=>by rw[Below.heap_alloc _ _ _ (bX hb)];exact hb⟩
theorem Fr.of_grown {K:Nat→Obj→Prop} {w w':World} {row:Option Nat} (hg:w.grownBy w' row) (hr:∀k o,row=some k→w.heap[k]? = some o→¬K k o):Fr K w w':=
 ⟨hg.os,hg.tape,hg.output,hg.size,fun b o hb hk=>by rw[hg.block b (bX hb) (fun e=>hr b o e.symm hb hk)];exact hb⟩
theorem Fr.below {w w':World} {B:Nat} (h:Fr (fun b _=>b<B) w w') (hB:B≤w.heap.size):Below B w w':=
 ⟨h.os,h.tape,h.output,h.size,fun b hb=>by
  have hl:b<w.heap.size:=Nat.lt_of_lt_of_le hb hB
  have e:w.heap[b]? = some (w.heap[b]):=Array.getElem?_eq_getElem hl
  rw[e];exact h.keep b _ e hb⟩
theorem Fr.grown {K:Nat→Obj→Prop} {a w w':World} {row:Option Nat} (h:Fr K a w) (hg:w.grownBy w' row) (hr:∀k o,row=some k→a.heap[k]? = some o→¬K k o):Fr K a w':=
 ⟨hg.os.trans h.os,hg.tape.trans h.tape,hg.output.trans h.output,Nat.le_trans h.size hg.size,fun b o hb hk=>by
  have h1:=h.keep b o hb hk
  rw[hg.block b (bX h1) (fun e=>hr b o e.symm hb hk)];exact h1⟩
theorem Fr.grown_new {K:Nat→Obj→Prop} {a w w':World} {row:Option Nat} (h:Fr K a w) (hg:w.grownBy w' row) (hr:∀k,row=some k→a.heap.size≤k):Fr K a w':=
 h.grown hg fun k o e ho=>by have:=bX ho;have:=hr k e;omega
theorem Fr.setCell {K:Nat→Obj→Prop} {a w:World} (h:Fr K a w) {p:Addr} (hp:∀o,a.heap[p.block]? = some o→¬K p.block o) (u:Value):Fr K a (w.setCell p u):=
 ⟨h.os,h.tape,h.output,by have:=h.size;simpa [World.setCell] using this,fun b o hb hk=>by
  have h1:=h.keep b o hb hk
  rw[Below.heap_setCell _ _ _ _ (fun e=>hp o (e▸hb) (e▸hk))];exact h1⟩
theorem Fr.putObj {K:Nat→Obj→Prop} {a w:World} (h:Fr K a w) {r:Nat} (hp:∀o,a.heap[r]? = some o→¬K r o) (x:Obj):Fr K a (w.putObj r x):=
 ⟨h.os,h.tape,h.output,by have:=h.size;simpa [World.putObj] using this,fun b o hb hk=>by
  have h1:=h.keep b o hb hk
  have hne:b≠r:=fun e=>hp o (e▸hb) (e▸hk)
  rw[World.putObj_heap_other hne];exact h1⟩
theorem Fr.within {K:Nat→Obj→Prop} {w w':World} (h:Fr (fun c o=>K c o∧c<w.heap.size) w w'):Fr K w w':=
 ⟨h.os,h.tape,h.output,h.size,fun b o hb hk=>h.keep b o hb ⟨hk,bX hb⟩⟩
theorem bJ {w:World} {b o:Nat} {cs:Array Value} {t:TypeId} {fz:Nat×Nat} (h:w.heap[b]? = some (.cells cs t fz)) (v:Value):(w.setCell ⟨b,o,none⟩ v).heap[b]? = some (.cells (cs.setIfInBounds o v) t fz):=by
 simp [World.setCell,Array.getElem?_modify,h]
theorem p_ {w:World} {b o k:Nat} (h:k≠b) (v:Value):(w.setCell ⟨b,o,none⟩ v).heap[k]? = w.heap[k]?:=Below.heap_setCell w ⟨b,o,none⟩ v k h
theorem jX {w:World} {k:Nat} {x:Obj} (h:w.heap[k]? = some x) (o:Obj):(w.alloc o).heap[k]? = some x:=by rw[Below.heap_alloc _ _ _ (bX h)];exact h
theorem bZ (w:World) (o:Obj):(w.alloc o).heap[w.heap.size]? = some o:=by show (w.heap.push o)[w.heap.size]? = _;simp
theorem bQ {w:World} {b i:Nat} {cs:Array Value} {t:TypeId} {fz:Nat×Nat} {v:Value} (h:w.heap[b]? = some (.cells cs t fz)) (hc:cs[i]? = some v):w.cell? ⟨b,i,none⟩=some v:=by
 unfold World.cell?;rw[h];exact hc
theorem bV {w:World} {b i:Nat} {cs:Array Value} {t:TypeId} (h:w.heap[b]? = some (.cells cs t (0,0))):w.frozen? ⟨b,i,none⟩=false:=by
 unfold World.frozen?;rw[h];simp
theorem jJ {w:World} {n:Nat} (h:w.heap.size=n) (o:Obj):(w.alloc o).heap[n]? = some o:=h▸bZ w o
theorem bK {K:Nat→Obj→Prop} {w w':World} {base:Nat} {e:TypeId} {size:Nat} {v:Value} {n:Nat} {xs:List Value} (h:w.ownsRow base e size v n xs) (hf:Fr K w w') (hk:∀b o,v.ownBlock=some b→w.heap[b]? = some o→K b o):w'.ownsRow base e size v n xs:=by
 obtain⟨h1,h2⟩:=h;refine⟨h1,?_⟩;rcases h2 with h2 | ⟨g,cap,cur,hv,hg,hh,r⟩
 ·exact Or.inl h2
 ·subst hv;exact Or.inr ⟨g,cap,cur,rfl,hg,hf.keep _ _ hh (hk g _ rfl hh),r⟩
def lay:List (Int×Value×Nat)→Int→Value→Nat→List (Int×Value×Nat)
 | [],n,v,c=>[(n,v,c)]
 | x :: r,n,v,c=>if x.1=n then(n,v,x.2.2) :: r else x :: lay r n v c
def spot:List (Int×Value×Nat)→Int→Nat
 | [],_=>0
 | x :: r,n=>if x.1=n then 0 else spot r n+1
section
variable {P:Program} {t k e:TypeId} {q:IntKind} (ht:P.underlying t=some (.map k e)) (hk:P.underlying k=some (.int q))
include hk in
end
def sX (w:World) (size:Nat) (x:Value) (m:Nat) (news:List Value):Prop:=
 (x=.slice none 0 0∧m=0∧news=[])∨∃ad c,x=.slice (some ad) m c∧news.length=m*size∧(∀j u,news[j]? = some u→w.cell? (ad.add j)=some u)∧∀u∈news,u.oneCell'=true
theorem cj {P:Program} (w:World) {ops:Array Oper} {rest:List Oper} {o:Oper} {a:Act} {Q:Exit→Act→World→Prop} (hgd:o.guard=none) (s x:Operand) (t:TypeId)
 (ho:o.op=.call { callee:=.builtin .append,args:=#[s,x],argTypes:=#[t,t] })
 (base:Nat) (e:TypeId) (i:TypeInfo) (z:Value) (size bytes:Nat) (ht:P.underlying t=some (.slice e)) (hi:P.info? e=some i) (hz:i.zero=some z)
 (hsize:i.size=size) (hby:i.bytes=bytes) (hzs:z.cells.size=size) (hsz:0<size)
 (v:Value) (n:Nat) (xs:List Value) (hs:a.eval s=v) (hown:w.ownsRow base e size v n xs)
 (vx:Value) (m:Nat) (news:List Value) (hx:a.eval x=vx) (hsrc:sX w size vx m news)
 (h63:n+m≤maxLen) (hbytes:(n+m)*bytes≤140737488355328) (hbase:base≤w.heap.size)
 (h:∀v' w',w'.ownsRow base e size v' (n+m) (xs++news)→w.grownBy w' v.ownBlock→(v'=.slice none 0 0↔v=.slice none 0 0∧m=0)→wpList P ops Q rest (a.put o.dst v') w'):wpList P ops Q (o :: rest) a w:=by
 rcases hsrc with⟨rfl,rfl,rfl⟩ | ⟨ad,c,rfl,hl,hc,h1⟩
 ·exact wpList_append_own_none hgd s x t ho base e i size ht hi v n xs hs hown hx (h v w (by simpa using hown) ⟨rfl,rfl,rfl,Nat.le_refl _,fun _ _ _=>rfl⟩ (by simp))
 ·exact wpList_append_own w hgd s x t ho base e i z size bytes ht hi hz hsize hby hzs hsz v n xs hs hown ad m c news hx hl hc h1 h63 hbytes hbase h
def IsRow (k:IntKind) (w:World) (a:Option Addr) (len cap:Nat) (zs:List Int):Prop:=
 (a=none∧len=0∧cap=0∧zs=[])∨
 ∃x,a=some x∧len≤cap∧cap≤maxLen∧zs.length=cap∧(∀i,i<zs.length→w.cell? (x.add i)=some (.int k (zs.getD i 0)))∧∀n∈zs,(Lit.int k n).wf=true
theorem xz {w:World} {p:Addr} {v:Value} (h:w.cell? p=some v):p.block<w.heap.size:=by
 unfold World.cell? at h;cases hb:w.heap[p.block]? with
 | none=>rw[hb] at h;cases h
 | some o=>exact bX hb
theorem B_ {w:World} {p:Addr} {v:Value} (h:w.cell? p=some v):p.spot=none:=by
 unfold World.cell? at h;split at h
 ·split at h
  ·cases h
  ·rename_i hs;simpa using hs
 ·cases h
theorem Fr.cell {K:Nat→Obj→Prop} {w w':World} {p:Addr} {v:Value} (h:Fr K w w') (hK:∀o,w.heap[p.block]? = some o→K p.block o) (hc:w.cell? p=some v):w'.cell? p=some v:=by
 have hl:=xz hc;have e:w.heap[p.block]? = some (w.heap[p.block]):=Array.getElem?_eq_getElem hl;rw[World.cell?_of_block (w:=w) (a:=p) ((h.keep p.block _ e (hK _ e)).trans e.symm)];exact hc
theorem Fr.old {w w':World} {p:Addr} {v:Value} (h:Fr (fun b _=>b<w.heap.size) w w') (hc:w.cell? p=some v):w'.cell? p=some v:=h.cell (fun _ _=>xz hc) hc
theorem IsRow.at {k:IntKind} {w:World} {a:Option Addr} {len cap:Nat} {zs:List Int} (h:IsRow k w a len cap zs) (hl:0<len):
 ∃b off,a=some ⟨b,off,none⟩∧len≤zs.length∧∀i,i<len→w.cell? ⟨b,off+i,none⟩=some (.int k (zs.getD i 0)):=by
 rcases h with⟨_,h,_⟩ | ⟨x,rfl,h1,h2,h3,h4,h5⟩
 ·omega
 ·have e0:=h4 0 (by omega)
  have hs:x.spot=none:=by have:=B_ e0;simpa [Addr.add] using this
  obtain⟨b,off,sp⟩:=x;cases hs;refine⟨b,off,rfl,by omega,fun i hi=>?_⟩;rw[←h4 i (by omega)];unfold Addr.add;split
  ·subst i;rfl
  ·rfl
theorem IsRow.wf {k:IntKind} {w:World} {a:Option Addr} {len cap:Nat} {zs:List Int} (h:IsRow k w a len cap zs) (i:Nat) (hi:i<len):(Lit.int k (zs.getD i 0)).wf=true:=by
 rcases h with⟨_,h,_⟩ | ⟨x,rfl,h1,h2,h3,h4,h5⟩
 ·omega
 ·have hz:i<zs.length:=by omega
  rw[List.getD_eq_getElem?_getD,List.getElem?_eq_getElem hz];exact h5 _ (List.getElem_mem hz)
theorem zH {p:Prop} (h:p):Hid p:=h
theorem zE.{u} {α:Sort u} (a:α):∃x,a=x:=⟨a,rfl⟩
def rgt:Int→List Int→Bool
 | _,[]=>true
 | l,x :: r=>decide (l<x)&&(decide (x≤15)&&rgt x r)
def dV (c:List Int):Bool:=rgt (-1) c&&!c.isEmpty
theorem Cy:∀{c:List Int} {l:Int},rgt l c=true→c.Pairwise (· < ·)∧∀x∈c,l<x∧x≤15
 | [],l,_=>⟨List.Pairwise.nil,fun x hx=>by cases hx⟩
 | x :: r,l,h=>by
  unfold rgt at h;simp only[Bool.and_eq_true,decide_eq_true_eq] at h;obtain⟨h1,h2,h3⟩:=h;obtain⟨p,q⟩:=Cy h3;refine⟨List.Pairwise.cons (fun y hy=>(q y hy).1) p,fun y hy=>?_⟩;rcases List.mem_cons.1 hy with rfl | hy
  ·exact⟨h1,h2⟩
  ·have:=q y hy;exact⟨by omega,this.2⟩
theorem sorted_len:∀{c:List Int} {l:Int},rgt l c=true→-1≤l→(c.length:Int)≤15-l∨c=[]
 | [],l,_,_=>.inr rfl
 | x :: r,l,h,hl=>by
  unfold rgt at h;simp only[Bool.and_eq_true,decide_eq_true_eq] at h;obtain⟨h1,h2,h3⟩:=h;refine .inl ?_;rcases sorted_len h3 (by omega) with h4 | h4
  ·rw[List.length_cons];omega
  ·subst h4;simp;omega
theorem y_ {c:List Int} (h:dV c=true):1≤c.length∧c.length≤16:=by
 unfold dV at h;simp only[Bool.and_eq_true,Bool.not_eq_true'] at h;have h0:c≠[]:=fun e=>by rw[e] at h;simp at h
 have h1:0<c.length:=List.length_pos_iff.2 h0;rcases sorted_len h.1 (by decide) with h2 | h2
 ·exact⟨h1,by omega⟩
 ·exact absurd h2 h0
def cnt (c s:List Int):Nat:=c.countP fun x=>s.contains x
def pos (c:List Int) (n:Int):Nat:=c.countP fun x=>decide (x<n)
structure Kp (P P':Nat→Prop) (w w':World):Prop where
 fr:Fr (fun c _=>¬P c) w w'
 out:∀c,c<w.heap.size→¬P c→¬P' c
theorem Kp.refl (P:Nat→Prop) (w:World):Kp P P w w:=⟨Fr.refl _ _,fun _ _ h=>h⟩
theorem Kp.trans {P P' P'':Nat→Prop} {a b c:World} (h:Kp P P' a b) (k:Kp P' P'' b c):Kp P P'' a c:=
 ⟨⟨k.fr.os.trans h.fr.os,k.fr.tape.trans h.fr.tape,k.fr.output.trans h.fr.output,Nat.le_trans h.fr.size k.fr.size,fun i o hi hp=>k.fr.keep i o (h.fr.keep i o hi hp) (h.out i (bX hi) hp)⟩,
  fun i hi hp=>k.out i (Nat.lt_of_lt_of_le hi h.fr.size) (h.out i hi hp)⟩
def OwnNext (w:World) (v v':Value):Prop:=v'.ownBlock=v.ownBlock∨∃k,v'.ownBlock=some k∧w.heap.size≤k
theorem OwnNext.ne {w:World} {v v':Value} {b:Nat} (h:OwnNext w v v') (hv:v.ownBlock≠some b) (hb:b<w.heap.size):v'.ownBlock≠some b:=by
 rcases h with h | ⟨k,h,hk⟩
 ·rw[h];exact hv
 ·rw[h];intro e;cases e;omega
section
variable {P:Program} (w:World)
theorem B5 (base:Nat) (t ty e:TypeId) (i:TypeInfo) (z:Value) (size bytes:Nat) (ht:P.underlying t=some (.slice e)) (hi:P.info? e=some i) (hz:i.zero=some z)
 (hsize:i.size=size) (hby:i.bytes=bytes) (hzs:z.cells.size=size) (hsz:0<size)
 (v:Value) (n:Nat) (xs:List Value) (hown:w.ownsRow base e size v n xs)
 (a:Addr) (m c:Nat) (news:List Value) (hl:news.length=m*size) (hnews:∀j u,news[j]? = some u→w.cell? (a.add j)=some u) (h1:∀u∈news,u.oneCell'=true)
 (h63:n+m≤maxLen) (hbytes:(n+m)*bytes≤140737488355328) {v':Value} {w':World}
 (hr:(Builtin.append_ #[t,t] ty #[v,.slice (some a) m c]).run P w=.ok v' w'):OwnNext w v v':=by
 subst hsize;subst hby;have hsmall:n+m≤9223372036854775807:=by simp only[maxLen] at h63;omega
 rcases hown.2 with⟨rfl,rfl⟩ | ⟨g,cap,cur,rfl,hbg,hg,hnc,hcm,hcs,htake⟩
 ·by_cases hm:m=0
  ·subst hm
   have e:(Builtin.append_ #[t,t] ty #[.slice none 0 0,.slice (some a) 0 c]).run P w=.ok (.slice none 0 0) w:=by simp [Builtin.append_,run_underlying ht,sizeOf,typeInfo,hi,Builtin.lenOf,Builtin.firstCells,loadCells,loadCellsFrom]
   rw[e] at hr;cases hr;exact .inl rfl
  ·have e:=run_append_nil (P:=P) w t ty e i z ht hi hz a m c news hl hnews (by omega) (by omega) (by have hb:=hbytes;simp only[Nat.zero_add] at hb;omega);rw[e] at hr;cases hr;exact .inr ⟨w.heap.size,rfl,Nat.le_refl _⟩
 ·by_cases hroom:n+m≤cap
  ·have hfit:n*i.size+news.length≤cur.size:=by rw[hl,hcs,←Nat.add_mul];exact Nat.mul_le_mul_right _ hroom
   have e:=run_append_room (P:=P) w t ty e i ht hi g n cap cur hg a m c news hl hnews h1 hroom hfit;rw[e] at hr;cases hr;exact .inl rfl
  ·have holds:∀j u,xs[j]? = some u→w.cell? ((⟨g,0,none⟩:Addr).add j)=some u:=hown.cells (g:=g) rfl;have e:=run_append_grow (P:=P) w t ty e i z ht hi hz ⟨g,0,none⟩ n cap xs hown.1 holds a m c news hl hnews (by omega) (by omega) (growslice_fits (by omega) hbytes);rw[e] at hr;cases hr;exact .inr ⟨w.heap.size,rfl,Nat.le_refl _⟩
theorem gW {o:Oper} {a:Act} {K:Act→World→Prop} {Q:Exit→Act→World→Prop} (s x:Operand) (t:TypeId)
 (ho:o.op=.call { callee:=.builtin .append,args:=#[s,x],argTypes:=#[t,t] })
 (base:Nat) (e:TypeId) (i:TypeInfo) (z:Value) (size bytes:Nat) (ht:P.underlying t=some (.slice e)) (hi:P.info? e=some i) (hz:i.zero=some z)
 (hsize:i.size=size) (hby:i.bytes=bytes) (hzs:z.cells.size=size) (hsz:0<size)
 (v:Value) (n:Nat) (xs:List Value) (hs:a.eval s=v) (hown:w.ownsRow base e size v n xs)
 (ad:Addr) (m c:Nat) (news:List Value) (hx:a.eval x=.slice (some ad) m c) (hl:news.length=m*size) (hnews:∀j u,news[j]? = some u→w.cell? (ad.add j)=some u) (h1:∀u∈news,u.oneCell'=true)
 (h63:n+m≤maxLen) (hbytes:(n+m)*bytes≤140737488355328) (hbase:base≤w.heap.size)
 (h:∀v' w',w'.ownsRow base e size v' (n+m) (xs++news)→w.grownBy w' v.ownBlock→OwnNext w v v'→K (a.put o.dst v') w'):o.wp P a w K Q:=by
 obtain⟨v',w',hr,h2,h3,h4⟩:=run_append_own (P:=P) w base t o.type e i z size bytes ht hi hz hsize hby hzs hsz v n xs hown ad m c news hl hnews h1 h63 hbytes hbase;have h5:=B5 (P:=P) w base t o.type e i z size bytes ht hi hz hsize hby hzs hsz v n xs hown ad m c news hl hnews h1 h63 hbytes hr;unfold Oper.wp execOp;simp only[ho,resolve,invoke,builtin,Sem.run_bind,Sem.run_pure,Result.andThen_ok,List.map_toArray,List.map_cons,List.map_nil,hs,hx,hr];exact h v' w' h2 h3 h5
end
theorem j1 {w:World} {B:Nat} {e:TypeId} {size:Nat} {v:Value} {n:Nat} {xs:List Value} (h:w.ownsRow B e size v n xs):∃a cap,v=.slice a n cap:=by
 rcases h.2 with⟨rfl,rfl⟩ | ⟨g,cap,_,rfl,_⟩
 ·exact⟨none,0,rfl⟩
 ·exact⟨_,_,rfl⟩
theorem cZ {w:World} {B:Nat} {e:TypeId} {size:Nat} {v:Value} {n:Nat} {xs:List Value} (h:w.ownsRow B e size v n xs) {c:Nat} (hc:v.ownBlock=some c):∃cur,w.heap[c]? = some (.cells cur e (0,0)):=by
 rcases h.2 with⟨rfl,_⟩ | ⟨g,cap,cur,rfl,_,hg,_⟩
 ·cases hc
 ·cases hc;exact⟨cur,hg⟩
end Go.Proofs.YtmjccpfchhnfhaaGreat
