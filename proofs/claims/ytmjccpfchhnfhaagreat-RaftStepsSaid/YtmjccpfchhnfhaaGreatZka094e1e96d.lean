/- Texts of the proofs, part 3: what the functions that they reach do, walked; no conditions beyond those that each states. -/
import Derived.WalkKit
import Derived.WalkSpells
import Derived.WalkLawsBesides
import Derived.Lib.Hide
import Derived.Maps.OwnOps
import Derived.RangeFuncRecord
import Derived.Laws.AppendOwnNone
import Derived.Deep.RegionHeld
set_option linter.unusedVariables false
set_option linter.unusedSimpArgs false
set_option maxRecDepth 100000
set_option maxHeartbeats 8000000
namespace Go.Proofs.YtmjccpfchhnfhaaGreat
open Go.RowKit
structure Fr (K:Nat→Obj→Prop) (w w':World):Prop where
 os:w'.os=w.os
 tape:w'.tape=w.tape
 output:w'.output=w.output
 size:w.heap.size≤w'.heap.size
 keep:∀(b:Nat) (o:Obj),w.heap[b]? = some o→K b o→w'.heap[b]? = some o
theorem Fr.refl (K:Nat→Obj→Prop) (w:World):Fr K w w:=⟨rfl,rfl,rfl,Nat.le_refl _,fun _ _ h _=>h⟩
theorem Fr.trans {K:Nat→Obj→Prop} {a b c:World} (h:Fr K a b) (k:Fr K b c):Fr K a c:=
 ⟨k.os.trans h.os,k.tape.trans h.tape,k.output.trans h.output,Nat.le_trans h.size k.size,fun i o hi hk=>k.keep i o (h.keep i o hi hk) hk⟩
theorem Fr.mono {K K':Nat→Obj→Prop} {a b:World} (h:Fr K a b) (hK:∀i o,K' i o→K i o):Fr K' a b:=
 ⟨h.os,h.tape,h.output,h.size,fun i o hi hk=>h.keep i o hi (hK i o hk)⟩
theorem Fr.tt {K:Nat→Obj→Prop} {a w w':World} (h:Fr K a w) (hf:Fr (fun _ _=>True) w w'):Fr K a w':=h.trans (hf.mono fun _ _ _=>trivial)
theorem Fr.drew {K:Nat→Obj→Prop} {a w:World} (h:Fr K a w):Fr K a w.drew:=⟨h.os,h.tape,h.output,h.size,h.keep⟩
theorem bZ {w:World} {b:Nat} {o:Obj} (h:w.heap[b]? = some o):b<w.heap.size:=by
 rcases Nat.lt_or_ge b w.heap.size with h1 | h1
 ·exact h1
 ·rw[Array.getElem?_eq_none h1] at h;cases h
theorem Fr.alloc {K:Nat→Obj→Prop} {a w:World} (h:Fr K a w) (o:Obj):Fr K a (w.alloc o):=
 h.trans ⟨rfl,rfl,rfl,by simp,fun b _ hb _=>by rw[Below.heap_alloc _ _ _ (bZ hb)];exact hb⟩
theorem Fr.of_grown {K:Nat→Obj→Prop} {w w':World} {row:Option Nat} (hg:w.grownBy w' row) (hr:∀k o,row=some k→w.heap[k]? = some o→¬K k o):Fr K w w':=
 ⟨hg.os,hg.tape,hg.output,hg.size,fun b o hb hk=>by rw[hg.block b (bZ hb) (fun e=>hr b o e.symm hb hk)];exact hb⟩
theorem Fr.below {w w':World} {B:Nat} (h:Fr (fun b _=>b<B) w w') (hB:B≤w.heap.size):Below B w w':=
 ⟨h.os,h.tape,h.output,h.size,fun b hb=>by
  have hl:b<w.heap.size:=Nat.lt_of_lt_of_le hb hB
  have e:w.heap[b]? = some (w.heap[b]):=Array.getElem?_eq_getElem hl
  rw[e];exact h.keep b _ e hb⟩
theorem Fr.grown {K:Nat→Obj→Prop} {a w w':World} {row:Option Nat} (h:Fr K a w) (hg:w.grownBy w' row) (hr:∀k o,row=some k→a.heap[k]? = some o→¬K k o):Fr K a w':=
 ⟨hg.os.trans h.os,hg.tape.trans h.tape,hg.output.trans h.output,Nat.le_trans h.size hg.size,fun b o hb hk=>by
  have h1:=h.keep b o hb hk
  rw[hg.block b (bZ h1) (fun e=>hr b o e.symm hb hk)];exact h1⟩
theorem Fr.grown_new {K:Nat→Obj→Prop} {a w w':World} {row:Option Nat} (h:Fr K a w) (hg:w.grownBy w' row) (hr:∀k,row=some k→a.heap.size≤k):Fr K a w':=
 h.grown hg fun k o e ho=>by have:=bZ ho;have:=hr k e;omega
theorem Fr.setCell {K:Nat→Obj→Prop} {a w:World} (h:Fr K a w) {p:Addr} (hp:∀o,a.heap[p.block]? = some o→¬K p.block o) (u:Value):Fr K a (w.setCell p u):=
 ⟨h.os,h.tape,h.output,by have:=h.size;simpa [World.setCell] using this,fun b o hb hk=>by
  have h1:=h.keep b o hb hk
  rw[Below.heap_setCell _ _ _ _ (fun e=>hp o (e▸hb) (e▸hk))];exact h1⟩
theorem Fr.putObj {K:Nat→Obj→Prop} {a w:World} (h:Fr K a w) {r:Nat} (hp:∀o,a.heap[r]? = some o→¬K r o) (x:Obj):Fr K a (w.putObj r x):=
 ⟨h.os,h.tape,h.output,by have:=h.size;simpa [World.putObj] using this,fun b o hb hk=>by
  have h1:=h.keep b o hb hk
  have hne:b≠r:=fun e=>hp o (e▸hb) (e▸hk)
  rw[World.putObj_heap_other hne];exact h1⟩
theorem Fr.within {K:Nat→Obj→Prop} {w w':World} (h:Fr (fun c o=>K c o∧c<w.heap.size) w w'):Fr K w w':=
 ⟨h.os,h.tape,h.output,h.size,fun b o hb hk=>h.keep b o hb ⟨hk,bZ hb⟩⟩
theorem bK {w:World} {b o:Nat} {cs:Array Value} {t:TypeId} {fz:Nat×Nat} (h:w.heap[b]? = some (.cells cs t fz)) (v:Value):(w.setCell ⟨b,o,none⟩ v).heap[b]? = some (.cells (cs.setIfInBounds o v) t fz):=by
 simp [World.setCell,Array.getElem?_modify,h]
theorem j0 {w:World} {b o k:Nat} (h:k≠b) (v:Value):(w.setCell ⟨b,o,none⟩ v).heap[k]? = w.heap[k]?:=Below.heap_setCell w ⟨b,o,none⟩ v k h
theorem jV {w:World} {k:Nat} {x:Obj} (h:w.heap[k]? = some x) (o:Obj):(w.alloc o).heap[k]? = some x:=by rw[Below.heap_alloc _ _ _ (bZ h)];exact h
theorem bX (w:World) (o:Obj):(w.alloc o).heap[w.heap.size]? = some o:=by show (w.heap.push o)[w.heap.size]? = _;simp
theorem bQ {w:World} {b i:Nat} {cs:Array Value} {t:TypeId} {fz:Nat×Nat} {v:Value} (h:w.heap[b]? = some (.cells cs t fz)) (hc:cs[i]? = some v):w.cell? ⟨b,i,none⟩=some v:=by
 unfold World.cell?;rw[h];exact hc
theorem bJ {w:World} {b i:Nat} {cs:Array Value} {t:TypeId} (h:w.heap[b]? = some (.cells cs t (0,0))):w.frozen? ⟨b,i,none⟩=false:=by
 unfold World.frozen?;rw[h];simp
theorem jW {w:World} {n:Nat} (h:w.heap.size=n) (o:Obj):(w.alloc o).heap[n]? = some o:=h▸bX w o
theorem bY {K:Nat→Obj→Prop} {w w':World} {base:Nat} {e:TypeId} {size:Nat} {v:Value} {n:Nat} {xs:List Value} (h:w.ownsRow base e size v n xs) (hf:Fr K w w') (hk:∀b o,v.ownBlock=some b→w.heap[b]? = some o→K b o):w'.ownsRow base e size v n xs:=by
 obtain⟨h1,h2⟩:=h;refine⟨h1,?_⟩;rcases h2 with h2 | ⟨g,cap,cur,hv,hg,hh,r⟩
 ·exact Or.inl h2
 ·subst hv;exact Or.inr ⟨g,cap,cur,rfl,hg,hf.keep _ _ hh (hk g _ rfl hh),r⟩
def lay:List (Int×Value×Nat)→Int→Value→Nat→List (Int×Value×Nat)
 | [],n,v,c=>[(n,v,c)]
 | x :: r,n,v,c=>if x.1=n then(n,v,x.2.2) :: r else x :: lay r n v c
def spot:List (Int×Value×Nat)→Int→Nat
 | [],_=>0
 | x :: r,n=>if x.1=n then 0 else spot r n+1
section
variable {P:Program} {t k e:TypeId} {q:IntKind} (ht:P.underlying t=some (.map k e)) (hk:P.underlying k=some (.int q))
include hk in
end
def r6 (w:World) (size:Nat) (x:Value) (m:Nat) (news:List Value):Prop:=
 (x=.slice none 0 0∧m=0∧news=[])∨∃ad c,x=.slice (some ad) m c∧news.length=m*size∧(∀j u,news[j]? = some u→w.cell? (ad.add j)=some u)∧∀u∈news,u.oneCell'=true
theorem cz {P:Program} (w:World) {ops:Array Oper} {rest:List Oper} {o:Oper} {a:Act} {Q:Exit→Act→World→Prop} (hgd:o.guard=none) (s x:Operand) (t:TypeId)
 (ho:o.op=.call { callee:=.builtin .append,args:=#[s,x],argTypes:=#[t,t] })
 (base:Nat) (e:TypeId) (i:TypeInfo) (z:Value) (size bytes:Nat) (ht:P.underlying t=some (.slice e)) (hi:P.info? e=some i) (hz:i.zero=some z)
 (hsize:i.size=size) (hby:i.bytes=bytes) (hzs:z.cells.size=size) (hsz:0<size)
 (v:Value) (n:Nat) (xs:List Value) (hs:a.eval s=v) (hown:w.ownsRow base e size v n xs)
 (vx:Value) (m:Nat) (news:List Value) (hx:a.eval x=vx) (hsrc:r6 w size vx m news)
 (h63:n+m≤maxLen) (hbytes:(n+m)*bytes≤140737488355328) (hbase:base≤w.heap.size)
 (h:∀v' w',w'.ownsRow base e size v' (n+m) (xs++news)→w.grownBy w' v.ownBlock→(v'=.slice none 0 0↔v=.slice none 0 0∧m=0)→wpList P ops Q rest (a.put o.dst v') w'):wpList P ops Q (o :: rest) a w:=by
 rcases hsrc with⟨rfl,rfl,rfl⟩ | ⟨ad,c,rfl,hl,hc,h1⟩
 ·exact wpList_append_own_none hgd s x t ho base e i size ht hi v n xs hs hown hx (h v w (by simpa using hown) ⟨rfl,rfl,rfl,Nat.le_refl _,fun _ _ _=>rfl⟩ (by simp))
 ·exact wpList_append_own w hgd s x t ho base e i z size bytes ht hi hz hsize hby hzs hsz v n xs hs hown ad m c news hx hl hc h1 h63 hbytes hbase h
def IsRow (k:IntKind) (w:World) (a:Option Addr) (len cap:Nat) (zs:List Int):Prop:=
 (a=none∧len=0∧cap=0∧zs=[])∨
 ∃x,a=some x∧len≤cap∧cap≤maxLen∧zs.length=cap∧(∀i,i<zs.length→w.cell? (x.add i)=some (.int k (zs.getD i 0)))∧∀n∈zs,(Lit.int k n).wf=true
theorem qW {w:World} {p:Addr} {v:Value} (h:w.cell? p=some v):p.block<w.heap.size:=by
 unfold World.cell? at h;cases hb:w.heap[p.block]? with
 | none=>rw[hb] at h;cases h
 | some o=>exact bZ hb
theorem zV {w:World} {p:Addr} {v:Value} (h:w.cell? p=some v):p.spot=none:=by
 unfold World.cell? at h;split at h
 ·split at h
  ·cases h
  ·rename_i hs;simpa using hs
 ·cases h
theorem Fr.cell {K:Nat→Obj→Prop} {w w':World} {p:Addr} {v:Value} (h:Fr K w w') (hK:∀o,w.heap[p.block]? = some o→K p.block o) (hc:w.cell? p=some v):w'.cell? p=some v:=by
 have hl:=qW hc;have e:w.heap[p.block]? = some (w.heap[p.block]):=Array.getElem?_eq_getElem hl;rw[World.cell?_of_block (w:=w) (a:=p) ((h.keep p.block _ e (hK _ e)).trans e.symm)];exact hc
theorem Fr.old {w w':World} {p:Addr} {v:Value} (h:Fr (fun b _=>b<w.heap.size) w w') (hc:w.cell? p=some v):w'.cell? p=some v:=h.cell (fun _ _=>qW hc) hc
theorem IsRow.at {k:IntKind} {w:World} {a:Option Addr} {len cap:Nat} {zs:List Int} (h:IsRow k w a len cap zs) (hl:0<len):
 ∃b off,a=some ⟨b,off,none⟩∧len≤zs.length∧∀i,i<len→w.cell? ⟨b,off+i,none⟩=some (.int k (zs.getD i 0)):=by
 rcases h with⟨_,h,_⟩ | ⟨x,rfl,h1,h2,h3,h4,h5⟩
 ·omega
 ·have e0:=h4 0 (by omega)
  have hs:x.spot=none:=by have:=zV e0;simpa [Addr.add] using this
  obtain⟨b,off,sp⟩:=x;cases hs;refine⟨b,off,rfl,by omega,fun i hi=>?_⟩;rw[←h4 i (by omega)];unfold Addr.add;split
  ·subst i;rfl
  ·rfl
theorem IsRow.wf {k:IntKind} {w:World} {a:Option Addr} {len cap:Nat} {zs:List Int} (h:IsRow k w a len cap zs) (i:Nat) (hi:i<len):(Lit.int k (zs.getD i 0)).wf=true:=by
 rcases h with⟨_,h,_⟩ | ⟨x,rfl,h1,h2,h3,h4,h5⟩
 ·omega
 ·have hz:i<zs.length:=by omega
  rw[List.getD_eq_getElem?_getD,List.getElem?_eq_getElem hz];exact h5 _ (List.getElem_mem hz)
theorem zH {p : Prop} (h : p) : Hid p := h
theorem zE.{u} {α : Sort u} (a : α) : ∃ x, a = x := ⟨a, rfl⟩
def rgt:Int→List Int→Bool
 | _,[]=>true
 | l,x :: r=>decide (l<x)&&(decide (x≤15)&&rgt x r)
def dw (c:List Int):Bool:=rgt (-1) c&&!c.isEmpty
theorem Bj:∀{c:List Int} {l:Int},rgt l c=true→c.Pairwise (· < ·)∧∀x∈c,l<x∧x≤15
 | [],l,_=>⟨List.Pairwise.nil,fun x hx=>by cases hx⟩
 | x :: r,l,h=>by
  unfold rgt at h;simp only[Bool.and_eq_true,decide_eq_true_eq] at h;obtain⟨h1,h2,h3⟩:=h;obtain⟨p,q⟩:=Bj h3;refine⟨List.Pairwise.cons (fun y hy=>(q y hy).1) p,fun y hy=>?_⟩;rcases List.mem_cons.1 hy with rfl | hy
  ·exact⟨h1,h2⟩
  ·have:=q y hy;exact⟨by omega,this.2⟩
theorem sorted_len:∀{c:List Int} {l:Int},rgt l c=true→-1≤l→(c.length:Int)≤15-l∨c=[]
 | [],l,_,_=>.inr rfl
 | x :: r,l,h,hl=>by
  unfold rgt at h;simp only[Bool.and_eq_true,decide_eq_true_eq] at h;obtain⟨h1,h2,h3⟩:=h;refine .inl ?_;rcases sorted_len h3 (by omega) with h4 | h4
  ·rw[List.length_cons];omega
  ·subst h4;simp;omega
theorem xj {c:List Int} (h:dw c=true):1≤c.length∧c.length≤16:=by
 unfold dw at h;simp only[Bool.and_eq_true,Bool.not_eq_true'] at h;have h0:c≠[]:=fun e=>by rw[e] at h;simp at h
 have h1:0<c.length:=List.length_pos_iff.2 h0;rcases sorted_len h.1 (by decide) with h2 | h2
 ·exact⟨h1,by omega⟩
 ·exact absurd h2 h0
def cnt (c s:List Int):Nat:=c.countP fun x=>s.contains x
def pos (c:List Int) (n:Int):Nat:=c.countP fun x=>decide (x<n)
structure Kp (P P':Nat→Prop) (w w':World):Prop where
 fr:Fr (fun c _=>¬P c) w w'
 out:∀c,c<w.heap.size→¬P c→¬P' c
theorem Kp.refl (P:Nat→Prop) (w:World):Kp P P w w:=⟨Fr.refl _ _,fun _ _ h=>h⟩
theorem Kp.trans {P P' P'':Nat→Prop} {a b c:World} (h:Kp P P' a b) (k:Kp P' P'' b c):Kp P P'' a c:=
 ⟨⟨k.fr.os.trans h.fr.os,k.fr.tape.trans h.fr.tape,k.fr.output.trans h.fr.output,Nat.le_trans h.fr.size k.fr.size,fun i o hi hp=>k.fr.keep i o (h.fr.keep i o hi hp) (h.out i (bZ hi) hp)⟩,
  fun i hi hp=>k.out i (Nat.lt_of_lt_of_le hi h.fr.size) (h.out i hi hp)⟩
def OwnNext (w:World) (v v':Value):Prop:=v'.ownBlock=v.ownBlock∨∃k,v'.ownBlock=some k∧w.heap.size≤k
theorem OwnNext.ne {w:World} {v v':Value} {b:Nat} (h:OwnNext w v v') (hv:v.ownBlock≠some b) (hb:b<w.heap.size):v'.ownBlock≠some b:=by
 rcases h with h | ⟨k,h,hk⟩
 ·rw[h];exact hv
 ·rw[h];intro e;cases e;omega
section
variable {P:Program} (w:World)
theorem zq (base:Nat) (t ty e:TypeId) (i:TypeInfo) (z:Value) (size bytes:Nat) (ht:P.underlying t=some (.slice e)) (hi:P.info? e=some i) (hz:i.zero=some z)
 (hsize:i.size=size) (hby:i.bytes=bytes) (hzs:z.cells.size=size) (hsz:0<size)
 (v:Value) (n:Nat) (xs:List Value) (hown:w.ownsRow base e size v n xs)
 (a:Addr) (m c:Nat) (news:List Value) (hl:news.length=m*size) (hnews:∀j u,news[j]? = some u→w.cell? (a.add j)=some u) (h1:∀u∈news,u.oneCell'=true)
 (h63:n+m≤maxLen) (hbytes:(n+m)*bytes≤140737488355328) {v':Value} {w':World}
 (hr:(Builtin.append_ #[t,t] ty #[v,.slice (some a) m c]).run P w=.ok v' w'):OwnNext w v v':=by
 subst hsize;subst hby;have hsmall:n+m≤9223372036854775807:=by simp only[maxLen] at h63;omega
 rcases hown.2 with⟨rfl,rfl⟩ | ⟨g,cap,cur,rfl,hbg,hg,hnc,hcm,hcs,htake⟩
 ·by_cases hm:m=0
  ·subst hm
   have e:(Builtin.append_ #[t,t] ty #[.slice none 0 0,.slice (some a) 0 c]).run P w=.ok (.slice none 0 0) w:=by simp [Builtin.append_,run_underlying ht,sizeOf,typeInfo,hi,Builtin.lenOf,Builtin.firstCells,loadCells,loadCellsFrom]
   rw[e] at hr;cases hr;exact .inl rfl
  ·have e:=run_append_nil (P:=P) w t ty e i z ht hi hz a m c news hl hnews (by omega) (by omega) (by have hb:=hbytes;simp only[Nat.zero_add] at hb;omega);rw[e] at hr;cases hr;exact .inr ⟨w.heap.size,rfl,Nat.le_refl _⟩
 ·by_cases hroom:n+m≤cap
  ·have hfit:n*i.size+news.length≤cur.size:=by rw[hl,hcs,←Nat.add_mul];exact Nat.mul_le_mul_right _ hroom
   have e:=run_append_room (P:=P) w t ty e i ht hi g n cap cur hg a m c news hl hnews h1 hroom hfit;rw[e] at hr;cases hr;exact .inl rfl
  ·have holds:∀j u,xs[j]? = some u→w.cell? ((⟨g,0,none⟩:Addr).add j)=some u:=hown.cells (g:=g) rfl;have e:=run_append_grow (P:=P) w t ty e i z ht hi hz ⟨g,0,none⟩ n cap xs hown.1 holds a m c news hl hnews (by omega) (by omega) (growslice_fits (by omega) hbytes);rw[e] at hr;cases hr;exact .inr ⟨w.heap.size,rfl,Nat.le_refl _⟩
theorem fV {o:Oper} {a:Act} {K:Act→World→Prop} {Q:Exit→Act→World→Prop} (s x:Operand) (t:TypeId)
 (ho:o.op=.call { callee:=.builtin .append,args:=#[s,x],argTypes:=#[t,t] })
 (base:Nat) (e:TypeId) (i:TypeInfo) (z:Value) (size bytes:Nat) (ht:P.underlying t=some (.slice e)) (hi:P.info? e=some i) (hz:i.zero=some z)
 (hsize:i.size=size) (hby:i.bytes=bytes) (hzs:z.cells.size=size) (hsz:0<size)
 (v:Value) (n:Nat) (xs:List Value) (hs:a.eval s=v) (hown:w.ownsRow base e size v n xs)
 (ad:Addr) (m c:Nat) (news:List Value) (hx:a.eval x=.slice (some ad) m c) (hl:news.length=m*size) (hnews:∀j u,news[j]? = some u→w.cell? (ad.add j)=some u) (h1:∀u∈news,u.oneCell'=true)
 (h63:n+m≤maxLen) (hbytes:(n+m)*bytes≤140737488355328) (hbase:base≤w.heap.size)
 (h:∀v' w',w'.ownsRow base e size v' (n+m) (xs++news)→w.grownBy w' v.ownBlock→OwnNext w v v'→K (a.put o.dst v') w'):o.wp P a w K Q:=by
 obtain⟨v',w',hr,h2,h3,h4⟩:=run_append_own (P:=P) w base t o.type e i z size bytes ht hi hz hsize hby hzs hsz v n xs hown ad m c news hl hnews h1 h63 hbytes hbase;have h5:=zq (P:=P) w base t o.type e i z size bytes ht hi hz hsize hby hzs hsz v n xs hown ad m c news hl hnews h1 h63 hbytes hr;unfold Oper.wp execOp;simp only[ho,resolve,invoke,builtin,Sem.run_bind,Sem.run_pure,Result.andThen_ok,List.map_toArray,List.map_cons,List.map_nil,hs,hx,hr];exact h v' w' h2 h3 h5
end
theorem jK {w:World} {B:Nat} {e:TypeId} {size:Nat} {v:Value} {n:Nat} {xs:List Value} (h:w.ownsRow B e size v n xs):∃a cap,v=.slice a n cap:=by
 rcases h.2 with⟨rfl,rfl⟩ | ⟨g,cap,_,rfl,_⟩
 ·exact⟨none,0,rfl⟩
 ·exact⟨_,_,rfl⟩
theorem bw {w:World} {B:Nat} {e:TypeId} {size:Nat} {v:Value} {n:Nat} {xs:List Value} (h:w.ownsRow B e size v n xs) {c:Nat} (hc:v.ownBlock=some c):∃cur,w.heap[c]? = some (.cells cur e (0,0)):=by
 rcases h.2 with⟨rfl,_⟩ | ⟨g,cap,cur,rfl,_,hg,_⟩
 ·cases hc
 ·cases hc;exact⟨cur,hg⟩
theorem sA {α:Type} (l:List α) (i:Nat) (x:α):l.toArray.setIfInBounds i x=(l.set i x).toArray:=List.setIfInBounds_toArray ..
theorem sB {α:Type} (x y:α) (l:List α) (i:Nat):(x :: l).set (i+1) y=x :: l.set i y:=List.set_cons_succ ..
theorem sC {α:Type} (x y:α) (l:List α):(x :: l).set 0 y=y :: l:=List.set_cons_zero ..
theorem gA {α:Type} (l:List α) (i:Nat) (h:i<l.toArray.size):l.toArray[i]=l[i]'(by simpa using h):=List.getElem_toArray ..
theorem gB {α:Type} (x:α) (l:List α) (h:0<(x :: l).length):(x :: l)[0]=x:=List.getElem_cons_zero ..
theorem gC {α:Type} (x:α) (l:List α) (i:Nat) (h:i+1<(x :: l).length):(x :: l)[i+1]=l[i]'(by simpa using h):=List.getElem_cons_succ ..
section
variable {P:Program} {ops:Array Oper} {Q:Exit→Act→World→Prop} {md:Region.Mode} {K:Nat→Obj→Prop}
structure SP (K:Nat→Obj→Prop) where
 p:Value→World→Prop
 st:∀v w w',p v w→Fr K w w'→p v w'
def SP.any {K:Nat→Obj→Prop}:SP K:=⟨fun _ _=>True,fun _ _ _ h _=>h⟩
def SP.eq {K:Nat→Obj→Prop} (c:Value):SP K:=⟨fun v _=>v=c,fun _ _ _ h _=>h⟩
def fillL:List (Nat×Nat)→(Nat→Value)→Array Value→Array Value
 | [],_,t=>t
 | (d,j) :: r,xs,t=>fillL r xs (t.setIfInBounds d (xs j))
def fillA (T:List (Nat×Nat)) (a:Act) (xs:Nat→Value):Act:={ a with tmps:=fillL T xs a.tmps }
theorem mQ:∀(T:List (Nat×Nat)) (xs:Nat→Value) (t:Array Value),(fillL T xs t).size=t.size
 | [],_,_=>rfl
 | (d,j) :: r,xs,t=>by rw[fillL,mQ r];simp
theorem pV:∀(T:List (Nat×Nat)) (xs:Nat→Value) (t:Array Value) (d:Nat) (v:Value),(∀q∈T,q.1≠d)→fillL T xs (t.setIfInBounds d v)=(fillL T xs t).setIfInBounds d v
 | [],_,_,_,_,_=>rfl
 | (d,j) :: r,xs,t,e,v,h=>by have h1:d≠e:=h (d,j) (List.mem_cons_self ..);rw[fillL,fillL,Array.setIfInBounds_comm _ _ (Ne.symm h1),pV r xs _ e v (fun q hq=>h q (List.mem_cons_of_mem _ hq))]
theorem f_:∀(T:List (Nat×Nat)) (xs ys:Nat→Value) (t:Array Value),(∀q∈T,xs q.2=ys q.2)→fillL T xs t=fillL T ys t
 | [],_,_,_,_=>rfl
 | (d,j) :: r,xs,ys,t,h=>by rw[fillL,fillL,h (d,j) (List.mem_cons_self ..),f_ r xs ys _ fun q hq=>h q (List.mem_cons_of_mem _ hq)]
def gJ:List (Nat×Nat)→Bool
 | []=>true
 | (d,j) :: r=>r.all (fun q=>q.1 != d&&q.2 != j)&&gJ r
theorem g_:∀(T:List (Nat×Nat)) (xs:Nat→Value) (t:Array Value) (d j:Nat) (v:Value),gJ T=true→(d,j)∈T→
 fillL T (fun k=>if k=j then v else xs k) t=(fillL T xs t).setIfInBounds d v
 | [],_,_,_,_,_,_,h=>by cases h
 | (e,i) :: r,xs,t,d,j,v,ho,hm=>by
  unfold gJ at ho;rw[Bool.and_eq_true,List.all_eq_true] at ho;have hx:∀q∈r,q.1≠e∧q.2≠i:=fun q hq=>by simpa using ho.1 q hq
  rcases List.mem_cons.1 hm with h | h
  ·cases h;rw[fillL,fillL,if_pos rfl,pV r _ _ _ _ (fun q hq=>(hx q hq).1),pV r _ _ _ _ (fun q hq=>(hx q hq).1),Array.setIfInBounds_setIfInBounds];rw[f_ r _ xs _ fun q hq=>if_neg (hx q hq).2]
  ·have hji:i≠j:=fun e=>(hx _ h).2 e.symm
   rw[fillL,fillL,if_neg hji,g_ r xs _ d j v ho.2 h]
theorem gw:∀(T:List (Nat×Nat)) (xs:Nat→Value) (t:Array Value),(∀q∈T,xs q.2=t.getD q.1 undef)→fillL T xs t=t
 | [],_,_,_=>rfl
 | (d,j) :: r,xs,t,h=>by
  have e:t.setIfInBounds d (xs j)=t:=by
   apply Array.ext
   ·simp
   ·intro i h1 h2;rw[Array.getElem_setIfInBounds h2];split
    ·rename_i he;subst he;rw[h (d,j) (List.mem_cons_self ..)];simp [h2]
    ·rfl
  rw[fillL,e];exact gw r xs t fun q hq=>h q (List.mem_cons_of_mem _ hq)
def fY (ops:Array Oper):List (Nat×Nat):=(ops.toList.zipIdx).filterMap fun q=>q.1.dst.map fun d=>(d,q.2)
theorem j8 {i d:Nat} {o:Oper} (h:ops[i]? = some o) (hd:o.dst=some d):(d,i)∈fY ops:=by
 unfold fY;rw[List.mem_filterMap];refine⟨(o,i),?_,by simp [hd]⟩;rw[List.mem_zipIdx_iff_getElem?];simpa using h
theorem cw {i d:Nat} (h:(d,i)∈fY ops):∃o,ops[i]? = some o∧o.dst=some d:=by
 unfold fY at h;rw[List.mem_filterMap] at h;obtain⟨⟨o,k⟩,hm,he⟩:=h;rw[List.mem_zipIdx_iff_getElem?] at hm;cases hd:o.dst with
 | none=>simp [hd] at he
 | some d'=>
  simp [hd] at he;obtain⟨rfl,rfl⟩:=he;exact⟨o,by simpa using hm,hd⟩
def tB (ops:Array Oper) (A:List (Nat×List Nat)) (T:List (Nat×Nat)):Bool:=T.all (fun q=>(fY ops).contains q)&&(fY ops).all fun q=>T.contains q||!(A.any fun p=>p.1==q.2)
theorem LJ {A:List (Nat×List Nat)} {T:List (Nat×Nat)} (h:tB ops A T=true) {q:Nat×Nat} (hq:q∈T):q∈fY ops:=by
 unfold tB at h;rw[Bool.and_eq_true,List.all_eq_true] at h;exact List.contains_iff_mem.1 (h.1 q hq)
theorem tB_of {A:List (Nat×List Nat)} {T:List (Nat×Nat)} (h:tB ops A T=true) {q:Nat×Nat} (hq:q∈fY ops) {p:Nat×List Nat} (hp:p∈A) (e:p.1=q.2):q∈T:=by
 unfold tB at h;rw[Bool.and_eq_true,List.all_eq_true,List.all_eq_true] at h;have h2:=h.2 q hq;rw[Bool.or_eq_true] at h2;rcases h2 with h2 | h2
 ·exact List.contains_iff_mem.1 h2
 ·rw[List.any_eq_true.2 ⟨p,hp,by simp [e]⟩] at h2;cases h2
def ancB (md:Region.Mode) (ops:Array Oper):Nat→Nat→Nat→Bool
 | 0,_,_=>false
 | f+1,i,j=>match ops[i]? with
  | some o=>o.after.any fun e=>Region.binds md e&&(e.on==j||ancB md ops f e.on j)
  | none=>false
theorem kz {L:Array Bool} (hs:∀(j:Nat) oj,ops[j]? = some oj→L.getD j true=true→∀e∈oj.after,Region.binds md e=true→L.getD e.on false=true):∀(f i j:Nat),ancB md ops f i j=true→
 (∀o,ops[i]? = some o→∀e∈o.after,Region.binds md e=true→L.getD e.on false=true)→L.getD j false=true
 | 0,_,_,h,_=>by cases h
 | f+1,i,j,h,hi=>by
  unfold ancB at h;cases ho:ops[i]? with
  | none=>rw[ho] at h;cases h
  | some o=>
   rw[ho] at h;obtain⟨e,he,hb⟩:=Array.any_eq_true'.1 h;simp only[Bool.and_eq_true,Bool.or_eq_true,beq_iff_eq] at hb;have h1:=hi o ho e he hb.1;rcases hb.2 with h2 | h2
   ·rw[←h2];exact h1
   ·refine kz hs f e.on j h2 fun o' ho' e' he' hb'=>hs e.on o' ho' ?_ e' he' hb'
    rcases Nat.lt_or_ge e.on L.size with hl | hl
    ·simp [hl] at h1 ⊢;exact h1
    ·simp [Array.getElem?_eq_none hl] at h1
theorem dz {α:Type} (p r s:α→Bool) (h:∀x,p x=(r x||s x)∧(r x&&s x)=false):∀l:List α,(l.filter p).length=(l.filter r).length+(l.filter s).length
 | []=>rfl
 | x :: l=>by
  have ih:=dz p r s h l;obtain⟨h1,h2⟩:=h x;rw[List.filter_cons,List.filter_cons,List.filter_cons,h1];cases ha:r x <;> cases hb:s x
  ·simpa using ih
  ·simp;omega
  ·simp;omega
  ·rw[ha,hb] at h2;cases h2
def CfStep (P:Program) (ops:Array Oper) (Q:Exit→Act→World→Prop) (K:Nat→Obj→Prop) (T:List (Nat×Nat)) (a:Act) (w0:World) (R:List (SP K)) (anc:List Nat) (i:Nat):Prop:=
 ∀o,ops[i]? = some o→∀(xs:Nat→Value) (w:World),Fr K w0 w→(∀j∈anc,(R.getD j SP.any).p (xs j) w)→
  ∀K':Act→World→Prop,Shut (∀a' v w',a'=(fillA T a xs).put o.dst v→Fr K w w'→(R.getD i SP.any).p v w'→K' a' w')→
   if Region.wanted o (yielded ops (fillA T a xs).tmps)=true then Oper.wp P o (fillA T a xs) w K' Q else K' ((fillA T a xs).put o.dst undef) w
def bV (P:Program) (ops:Array Oper) (Q:Exit→Act→World→Prop) (K:Nat→Obj→Prop) (T:List (Nat×Nat)) (a:Act) (w0:World) (R:List (SP K)):List (Nat×List Nat)→Prop
 | []=>True
 | (i,anc) :: r=>CfStep P ops Q K T a w0 R anc i∧bV P ops Q K T a w0 R r
theorem bV.nil {T:List (Nat×Nat)} {a:Act} {w0:World} {R:List (SP K)}:bV P ops Q K T a w0 R []:=trivial
theorem bV.cons {T:List (Nat×Nat)} {a:Act} {w0:World} {R:List (SP K)} {i:Nat} {anc:List Nat} {r:List (Nat×List Nat)} {o:Oper} (ho:ops[i]? = some o)
  (h:∀(xs:Nat→Value) (w:World),Fr K w0 w→(∀j∈anc,(R.getD j SP.any).p (xs j) w)→
   ∀K':Act→World→Prop,Shut (∀a' v w',a'=(fillA T a xs).put o.dst v→Fr K w w'→(R.getD i SP.any).p v w'→K' a' w')→
    if Region.wanted o (yielded ops (fillA T a xs).tmps)=true then Oper.wp P o (fillA T a xs) w K' Q else K' ((fillA T a xs).put o.dst undef) w)
  (hr:bV P ops Q K T a w0 R r):bV P ops Q K T a w0 R ((i,anc) :: r):=⟨fun o' ho'=>by rw[ho] at ho';cases ho';exact h,hr⟩
theorem bV.get {T:List (Nat×Nat)} {a:Act} {w0:World} {R:List (SP K)}:∀(A:List (Nat×List Nat)),bV P ops Q K T a w0 R A→∀q∈A,CfStep P ops Q K T a w0 R q.2 q.1
 | [],_,_,h=>by cases h
 | (i,anc) :: r,h,q,hq=>by
  rcases List.mem_cons.1 hq with rfl | hq
  ·exact h.1
  ·exact bV.get r h.2 q hq
def cfB (md:Region.Mode) (ops:Array Oper) (A:List (Nat×List Nat)) (E:List Nat:=[]):Bool:=
 (A.all fun q=>decide (q.1<ops.size)&&q.2.all fun j=>ancB md ops ops.size q.1 j) &&
 (A.all fun q=>match ops[q.1]? with
  | some o=>o.after.all fun e=>!Region.binds md e||(decide (e.on<q.1)&&A.any fun x=>x.1==e.on)
  | none=>false)&&gJ (A.map fun q=>(q.1,q.1)) &&
 ((List.range ops.size).all fun j=>(A.any fun q=>q.1==j)||A.all fun q=>E.contains q.1||ancB md ops ops.size j q.1)
def bitsOf (n:Nat) (A:List (Nat×List Nat)):Array Bool:=((List.range n).map fun j=>A.any fun q=>q.1==j).toArray
theorem mZ (n:Nat) (A:List (Nat×List Nat)) (j:Nat) (b:Bool) (h:j<n):(bitsOf n A).getD j b=A.any fun q=>q.1==j:=by
 unfold bitsOf;simp [h]
structure CfInv (md:Region.Mode) (ops:Array Oper) (K:Nat→Obj→Prop) (T:List (Nat×Nat)) (a0:Act) (w0:World) (R:List (SP K)) (A:List (Nat×List Nat)) (E:List Nat) (L:Array Bool) (a:Act) (w:World):Prop where
 el:∀e∈E,L.getD e true=true
 sz:L.size=ops.size
 fr:Fr K w0 w
 sh:∀(j:Nat) oj,ops[j]? = some oj→L.getD j true=true→∀e∈oj.after,Region.binds md e=true→L.getD e.on false=true
 on:∀j,j<ops.size→L.getD j false=true→∃q∈A,q.1=j
 xs:∃xs:Nat→Value,a=fillA T a0 xs∧∀j,j<ops.size→L.getD j false=true→(R.getD j SP.any).p (xs j) w
theorem DQ {E:List Nat} {T:List (Nat×Nat)} {a0:Act} {w0:World} {R:List (SP K)} {A:List (Nat×List Nat)} (hT:tB ops A T=true) (ho:gJ T=true) (hA:cfB md ops A E=true)
 (hall:bV P ops Q K T a0 w0 R A) (m:Nat)
 (hend:∀xs w,Fr K w0 w→(∀q∈A,(R.getD q.1 SP.any).p (xs q.1) w)→wpAny P md ops Q m (bitsOf ops.size A) (fillA T a0 xs) w):
 ∀(fuel:Nat) (L:Array Bool) (a:Act) (w:World),CfInv md ops K T a0 w0 R A E L a w→fuel=m+(A.filter fun q=>!L.getD q.1 true).length→(L.size=ops.size)→wpAny P md ops Q fuel L a w:=by
 unfold cfB at hA;rw[Bool.and_eq_true,Bool.and_eq_true,Bool.and_eq_true,List.all_eq_true,List.all_eq_true,List.all_eq_true] at hA;obtain⟨⟨⟨hA1,hA3⟩,hA4⟩,hA2⟩:=hA
 have done:∀(L:Array Bool) (a:Act) (w:World),CfInv md ops K T a0 w0 R A E L a w→(∀q∈A,L.getD q.1 true=true)→wpAny P md ops Q m L a w:=fun L a w h hq=>by
  have eL:L=bitsOf ops.size A:=by
   apply Array.ext
   ·rw[h.sz];simp [bitsOf]
   ·intro i h1 h2;have h3:i<ops.size:=by rw[←h.sz];exact h1
    have e1:=mZ ops.size A i true h3;simp only[h2,Array.getD_eq_getD_getElem?,Array.getElem?_eq_getElem,Option.getD_some] at e1;rw[e1];cases hl:L[i] with
    | true=>
     obtain⟨q,hqA,hqi⟩:=h.on i h3 (by simp [h1,hl]);exact(List.any_eq_true.2 ⟨q,hqA,by simp [hqi]⟩).symm
    | false=>
     cases hn:A.any fun q=>q.1==i with
     | false=>rfl
     | true=>
      obtain⟨q,hqA,hqi⟩:=List.any_eq_true.1 hn;have:=hq q hqA;rw[beq_iff_eq] at hqi;rw[hqi] at this;simp [h1,hl] at this
  obtain⟨xs,hxa,hx⟩:=h.xs;rw[eL,hxa];refine hend xs w h.fr fun q hqA=>hx q.1 ?_ ?_
  ·have:=hA1 q hqA;simp at this;exact this.1
  ·have h4:=hq q hqA;have h5:q.1<ops.size:=by have:=hA1 q hqA;simp at this;exact this.1
   have h6:q.1<L.size:=by rw[h.sz];exact h5
   simp [h6] at h4 ⊢;exact h4
 intro fuel
 induction fuel with
 | zero=>
  intro L a w h hf _;have h0:m=0:=by omega
  have h1:(A.filter fun q=>!L.getD q.1 true).length=0:=by omega
  rw[h0] at done;refine done L a w h fun q hq=>?_
  have h2:=List.length_eq_zero_iff.1 h1;rw[List.filter_eq_nil_iff] at h2;simpa using h2 q hq
 | succ fuel ih=>
  intro L a w h hf hsz;by_cases hq:∀q∈A,L.getD q.1 true=true
  ·have h1:(A.filter fun q=>!L.getD q.1 true).length=0:=by rw[List.length_eq_zero_iff,List.filter_eq_nil_iff];intro q hqA;simp [hq q hqA]
   have h2:m=fuel+1:=by omega
   rw[←h2];exact done L a w h hq
  ·obtain⟨q0,hq0,hL0⟩:∃q∈A,L.getD q.1 true=false:=by
    apply Classical.byContradiction;intro hn
    exact hq fun q hqA=>by
     cases hv:L.getD q.1 true with
     | true=>rfl
     | false=>exact absurd ⟨q,hqA,hv⟩ hn
   have hin:∀i∈Region.ready md ops L,∃q∈A,q.1=i:=fun i hi=>by
    obtain⟨h1,o,h2,h3⟩:=mem_ready.1 hi;have hlt:i<ops.size:=(Array.getElem?_eq_some_iff.1 h2).1;have h4:=hA2 i (List.mem_range.2 hlt);rw[Bool.or_eq_true] at h4;rcases h4 with h4 | h4
    ·obtain⟨q,hqA,hqi⟩:=List.any_eq_true.1 h4;exact⟨q,hqA,by simpa using hqi⟩
    ·have h5:=List.all_eq_true.1 h4 q0 hq0
     have h5':ancB md ops ops.size i q0.1=true:=by
      rw[Bool.or_eq_true] at h5;rcases h5 with h5 | h5
      ·have h6:=h.el q0.1 (by simpa using h5);rw[hL0] at h6;cases h6
      ·exact h5
     have h6:=kz (L:=L) h.sh ops.size i q0.1 h5' fun o' ho'=>by rw[h2] at ho';cases ho';exact h3
     have h7:q0.1<L.size:=by rw[h.sz];have:=hA1 q0 hq0;simp at this;exact this.1
     simp [h7] at h6 hL0;rw[hL0] at h6;cases h6
   have hor:∀n,∀q∈A,q.1=n→L.getD q.1 true=false→∃i,i∈Region.ready md ops L:=fun n=>by
    induction n using Nat.strongRecOn with
    | ind n ihn=>
     intro q hqA hqn hL;have hlt:q.1<ops.size:=by have:=hA1 q hqA;simp at this;exact this.1
     have h2:ops[q.1]? = some ops[q.1]:=Array.getElem?_eq_getElem hlt;have h3:=hA3 q hqA;rw[h2] at h3;by_cases hall:∀e∈(ops[q.1]).after,Region.binds md e=true→L.getD e.on false=true
     ·exact⟨q.1,mem_ready.2 ⟨hL,_,h2,hall⟩⟩
     ·obtain⟨e,he,hb,hne⟩:∃e∈(ops[q.1]).after,Region.binds md e=true∧L.getD e.on false=false:=by
       apply Classical.byContradiction;intro hn
       exact hall fun e he hb=>by
        cases hv:L.getD e.on false with
        | true=>rfl
        | false=>exact absurd ⟨e,he,hb,hv⟩ hn
      have h4:=Array.all_eq_true_iff_forall_mem.1 h3 e he;rw[hb] at h4;simp only[Bool.not_true,Bool.false_or,Bool.and_eq_true,decide_eq_true_eq] at h4;obtain⟨x,hxA,hx⟩:=List.any_eq_true.1 h4.2;rw[beq_iff_eq] at hx;have hls:e.on<L.size:=by rw[h.sz,←hx];have:=hA1 x hxA;simp at this;exact this.1
      refine ihn e.on (by omega) x hxA hx ?_;rw[hx];simp [hls] at hne ⊢;exact hne
   have step:∀i∈Region.ready md ops L,wpOp P ops Q i (wpAny P md ops Q fuel (L.setIfInBounds i true)) a w:=fun i hi=>by
    obtain⟨q,hqA,rfl⟩:=hin i hi;obtain⟨h1,o,h2,h3⟩:=mem_ready.1 hi;have hlt:q.1<ops.size:=(Array.getElem?_eq_some_iff.1 h2).1;have hltL:q.1<L.size:=by rw[h.sz];exact hlt
    obtain⟨xs,hxa,hx⟩:=h.xs
    have hst:=bV.get A hall q hqA o h2 xs w h.fr (fun j hj=>by
     have h5:=(hA1 q hqA)
     rw[Bool.and_eq_true,List.all_eq_true] at h5;have h6:=kz (L:=L) h.sh ops.size q.1 j (h5.2 j hj) fun o' ho'=>by rw[h2] at ho';cases ho';exact h3
     have h7:j<ops.size:=by
      rcases Nat.lt_or_ge j L.size with h' | h'
      ·rw[←h.sz];exact h'
      ·simp [Array.getElem?_eq_none h'] at h6
     exact hx j h7 h6)
    refine wpOp_step h2 fun K' hK=>?_
    rw[hxa];refine hst K' fun a' v w' ha' hf' hv=>hK _ _ ?_
    subst ha';refine ih _ _ _ ⟨fun e he=>(by by_cases h9:q.1=e;(· rw[←h9];simp [hltL]);(· rw[getD_set_ne true h9];exact h.el e he)),by simpa using h.sz,h.fr.trans hf',?_,?_,?_⟩ ?_ (by simpa using h.sz)
    ·intro j oj hj hl e he hb;by_cases hij:q.1=j
     ·subst hij;rw[h2] at hj;cases hj;exact getD_set_true (h3 e he hb)
     ·rw[getD_set_ne true hij] at hl;exact getD_set_true (h.sh j oj hj hl e he hb)
    ·intro j hj hl;by_cases hij:q.1=j
     ·exact⟨q,hqA,hij⟩
     ·rw[getD_set_ne false hij] at hl;exact h.on j hj hl
    ·refine⟨fun k=>if k=q.1 then v else xs k,?_,fun j hj hl=>?_⟩
     ·cases hd:o.dst with
      | none=>
       show fillA T a0 xs=_;unfold fillA;rw[f_ T xs (fun k=>if k=q.1 then v else xs k)];intro p hp
       have hne:p.2≠q.1:=fun e=>by have h8:(p.1,p.2)∈fY ops:=LJ hT hp;obtain⟨o',h9,h10⟩:=cw h8;rw[e,h2] at h9;cases h9;rw[hd] at h10;cases h10
       show xs p.2=if p.2=q.1 then v else xs p.2
       rw[if_neg hne]
      | some d=>
       show ({ fillA T a0 xs with tmps:=(fillA T a0 xs).tmps.setIfInBounds d v }:Act)=_;unfold fillA;rw[g_ T xs a0.tmps d q.1 v ho (tB_of hT (j8 h2 hd) hqA rfl)]
     ·show (R.getD j SP.any).p (if j=q.1 then v else xs j) w';by_cases hij:q.1=j
      ·subst hij;rw[if_pos rfl];exact hv
      ·rw[if_neg (fun e=>hij e.symm)];rw[getD_set_ne false hij] at hl;exact(R.getD j SP.any).st _ _ _ (hx j hj hl) hf'
    ·have e1:(A.filter fun x=>!L.getD x.1 true).length=(A.filter fun x=>!(L.setIfInBounds q.1 true).getD x.1 true).length+(A.filter fun x=>x.1==q.1).length:=by
      clear hall hend done hA1 hA2 hin
      have g:∀x:Nat×List Nat,(!L.getD x.1 true)=((!(L.setIfInBounds q.1 true).getD x.1 true)||(x.1==q.1))∧((!(L.setIfInBounds q.1 true).getD x.1 true)&&(x.1==q.1))=false:=fun x=>by
       by_cases hij:q.1=x.1
       ·rw[←hij,h1];simp [hltL]
       ·rw[getD_set_ne true hij];have e:(x.1==q.1)=false:=by simpa using fun e=>hij e.symm
        rw[e];simp
      exact dz _ _ _ g A
     have e2:(A.filter fun x=>x.1==q.1).length=1:=by
      clear e1 hall hend done hA1 hA2 hin hor hA3 ih h hf hq hq0;clear hT
      induction A with
      | nil=>cases hqA
      | cons x r ihr=>
       rw[List.map_cons] at hA4;unfold gJ at hA4;rw[Bool.and_eq_true,List.all_eq_true] at hA4;rw[List.filter_cons];by_cases hxq:x.1=q.1
       ·have e:(r.filter fun x=>x.1==q.1)=[]:=List.filter_eq_nil_iff.2 fun y hy he=>by have:=hA4.1 (y.1,y.1) (List.mem_map.2 ⟨y,hy,rfl⟩);rw[beq_iff_eq] at he;simp [he,hxq] at this
        simp [hxq,e]
       ·rcases List.mem_cons.1 hqA with e | hm
        ·exact absurd (by rw[e]) hxq
        ·simp [hxq];exact ihr hA4.2 hm
     omega
   refine⟨fun hr=>?_,step⟩;obtain⟨i,hi⟩:=hor _ q0 hq0 rfl hL0;rw[hr] at hi;cases hi
theorem dY {id:Nat} {a:Act} {w:World} (hm:P.follows .mixedOrders=true) (T:List (Nat×Nat)) (A:List (Nat×List Nat)) (R:List (SP K)) (m:Nat) (hT:tB ops A T=true) (ho:gJ T=true) (hA:cfB .any ops A=true) (hn:A.length+m=ops.size)
 (hall:bV P ops Q K T a w.drew R A)
 (hend:∀xs w',Fr K w.drew w'→(∀q∈A,(R.getD q.1 SP.any).p (xs q.1) w')→wpAny P .any ops Q m (bitsOf ops.size A) (fillA T a xs) w'):(Code.region id ops true).wp P Q a w:=by
 refine wp_region_any hm ?_
 have hrep:∀j,(Array.replicate ops.size false).getD j false=false:=fun j=>by
  by_cases h:j<ops.size
  ·simp [h]
  ·simp [h]
 refine DQ (E:=[]) hT ho hA hall m hend _ _ _ _ ⟨fun e he=>(by cases he),by simp,Fr.refl _ _,fun j oj hj hl=>?_,fun j hj hl=>?_,fun j=>(a.tmps.getD ((ops.getD j default).dst.getD 0) undef),?_,fun j hj hl=>?_⟩ ?_ (by simp)
 ·have hlt:=(Array.getElem?_eq_some_iff.1 hj).1;simp [hlt] at hl
 ·rw[hrep] at hl;cases hl
 ·unfold fillA;rw[gw];intro q hq;have h8:(q.1,q.2)∈fY ops:=LJ hT hq;obtain⟨o',h9,h10⟩:=cw h8;have hlt:=(Array.getElem?_eq_some_iff.1 h9).1
  have e:ops.getD q.2 default=o':=by obtain⟨e1,e2⟩:=Array.getElem?_eq_some_iff.1 h9;simp [e1,e2]
  show a.tmps.getD _ undef=_;rw[e,h10];rfl
 ·rw[hrep] at hl;cases hl
 ·have:(A.filter fun q=>!(Array.replicate ops.size false).getD q.1 true)=A:=by rw[List.filter_eq_self];intro q hq;unfold cfB at hA;rw[Bool.and_eq_true,Bool.and_eq_true,Bool.and_eq_true,List.all_eq_true] at hA;have:=hA.1.1.1 q hq;simp at this;simp [this.1]
  rw[this];omega
theorem wpR {id:Nat} {a:Act} {w:World} (T:List (Nat×Nat)) (A:List (Nat×List Nat)) (R:List (SP (fun(_:Nat) (_:Obj)=>True))) (m:Nat) (hn:A.length+m=ops.size)
 (hall:bV P ops Q (fun(_:Nat) (_:Obj)=>True) T a w.drew R A)
 (hend:∀xs w',Fr (fun(_:Nat) (_:Obj)=>True) w.drew w'→(∀q∈A,(R.getD q.1 SP.any).p (xs q.1) w')→wpAny P .any ops Q m (bitsOf ops.size A) (fillA T a xs) w') (hm:P.follows .mixedOrders=true:=by kernel_rfl) (hT:tB ops A T=true:=by kernel_rfl) (ho:gJ T=true:=by kernel_rfl) (hA:cfB .any ops A=true:=by kernel_rfl):(Code.region id ops true).wp P Q a w:=
 dY hm T A R m hT ho hA hn hall hend
theorem mY {id:Nat} {a:Act} {w:World} (hm:P.follows .mixedOrders=true) (T:List (Nat×Nat)) (A:List (Nat×List Nat)) (R:List (SP K)) (hT:tB ops A T=true) (ho:gJ T=true) (hA:cfB .any ops A=true) (hn:A.length=ops.size)
 (hall:bV P ops Q K T a w.drew R A)
 (hr:Region.ready .any ops (bitsOf ops.size A)=[])
 (hend:∀xs w',Fr K w.drew w'→(∀q∈A,(R.getD q.1 SP.any).p (xs q.1) w')→Q .normal (fillA T a xs) w'):(Code.region id ops true).wp P Q a w:=
 dY hm T A R 0 hT ho hA (by omega) hall fun xs w' hf h=>⟨hr,hend xs w' hf h⟩
theorem wy {id:Nat} {a:Act} {w:World} (T:List (Nat×Nat)) (A:List (Nat×List Nat)) (R:List (SP (fun(_:Nat) (_:Obj)=>True))) (hn:A.length=ops.size)
 (hall:bV P ops Q (fun(_:Nat) (_:Obj)=>True) T a w.drew R A)
  (hend:∀xs w',Fr (fun(_:Nat) (_:Obj)=>True) w.drew w'→(∀q∈A,(R.getD q.1 SP.any).p (xs q.1) w')→Q .normal (fillA T a xs) w') (hm:P.follows .mixedOrders=true:=by kernel_rfl) (hT:tB ops A T=true:=by kernel_rfl) (ho:gJ T=true:=by kernel_rfl) (hA:cfB .any ops A=true:=by kernel_rfl) (hr:Region.ready .any ops (bitsOf ops.size A)=[]:=by kernel_rfl):(Code.region id ops true).wp P Q a w:=
 mY hm T A R hT ho hA hn hall hr hend
theorem cY {id:Nat} {a:Act} {w:World} {ot:Oper} {vt:Value} (t:Nat) (ht:ops[t]? = some ot) (hs:Region.noSelect ops=true) (hfr:Region.free .any ops (Array.replicate ops.size false) t=true) (hrd:(Region.ready .any ops (Array.replicate ops.size false)).contains t=true)
 (hQ:∀c a w,Q (.panic c) (a.put ot.dst vt) w→Q (.panic c) a w) (hy:Yields P ops ot vt a)
 (hm:P.follows .mixedOrders=true) (T:List (Nat×Nat)) (A:List (Nat×List Nat)) (R:List (SP K)) (m:Nat) (hT:tB ops A T=true) (ho:gJ T=true) (hA:cfB .any ops A [t]=true) (hn:A.length+m=ops.size) (hRt:∀w',(R.getD t SP.any).p vt w') (hAt:(A.any fun q=>q.1==t)=true) (d:Nat) (hd:ot.dst=some d) (hds:d<a.tmps.size)
 (hall:bV P ops Q K T (a.put (some d) vt) w.drew R A)
 (hend:∀xs w',Fr K w.drew w'→(∀q∈A,(R.getD q.1 SP.any).p (xs q.1) w')→wpAny P .any ops Q m (bitsOf ops.size A) (fillA T (a.put (some d) vt) xs) w'):(Code.region id ops true).wp P Q a w:=by
 refine wp_region_any hm ?_;have htl:t<ops.size:=(Array.getElem?_eq_some_iff.1 ht).1;rw[←hd] at hall hend
 have hrep:∀j,(Array.replicate ops.size false).getD j false=false:=fun j=>by
  by_cases h:j<ops.size
  ·simp [h]
  ·simp [h]
 obtain⟨f,hf⟩:∃f,ops.size=f+1:=⟨ops.size-1,by omega⟩
 have hgo:wpAny P .any ops Q f ((Array.replicate ops.size false).setIfInBounds t true) (a.put ot.dst vt) w.drew:=by
  have hbit:∀j,((Array.replicate ops.size false).setIfInBounds t true).getD j false=true→j=t:=fun j h=>by
   by_cases e:t=j
   ·exact e.symm
   ·rw[getD_set_ne false e,hrep] at h;cases h
  refine DQ (E:=[t]) hT ho hA hall m hend _ _ _ _ ⟨fun e he=>?_,by simp,Fr.refl _ _,fun j oj hj hl=>?_,fun j hj hl=>?_,fun j=>((a.put ot.dst vt).tmps.getD ((ops.getD j default).dst.getD 0) undef),?_,fun j hj hl=>?_⟩ ?_ (by simp)
  ·rw[List.mem_singleton.1 he];simp [htl]
  ·by_cases e:t=j
   ·subst e;rw[ht] at hj;cases hj;obtain⟨_,o,h1,h2⟩:=mem_ready.1 (List.contains_iff_mem.1 hrd);rw[ht] at h1;cases h1;exact fun e he hb=>by have:=h2 e he hb;rw[hrep] at this;cases this
   ·have hlt:=(Array.getElem?_eq_some_iff.1 hj).1;rw[getD_set_ne true e] at hl;simp [hlt] at hl
  ·obtain⟨q,hq,hqt⟩:=List.any_eq_true.1 hAt;exact⟨q,hq,by rw[hbit j hl];simpa using hqt⟩
  ·unfold fillA;rw[gw];intro q hq;have h8:(q.1,q.2)∈fY ops:=LJ hT hq;obtain⟨o',h9,h10⟩:=cw h8
   have e:ops.getD q.2 default=o':=by obtain⟨e1,e2⟩:=Array.getElem?_eq_some_iff.1 h9;simp [e1,e2]
   show (a.put ot.dst vt).tmps.getD _ undef=_;rw[e,h10];rfl
  ·rw[hbit j hl]
   have e:ops.getD t default=ot:=by obtain⟨e1,e2⟩:=Array.getElem?_eq_some_iff.1 ht;simp [e1,e2]
   have e2:(a.put ot.dst vt).tmps.getD d undef=vt:=by rw[hd];show (a.tmps.setIfInBounds d vt).getD d undef=vt;simp [hds]
   show (R.getD t SP.any).p ((a.put ot.dst vt).tmps.getD ((ops.getD t default).dst.getD 0) undef) _;rw[e,hd];show (R.getD t SP.any).p ((a.put (some d) vt).tmps.getD d undef) _;rw[←hd,e2];exact hRt _
  ·have e1:(A.filter fun q=>!((Array.replicate ops.size false).setIfInBounds t true).getD q.1 true).length+(A.filter fun q=>q.1==t).length=A.length:=by
    have g:∀x:Nat×List Nat,(decide (x.1<ops.size))=((!((Array.replicate ops.size false).setIfInBounds t true).getD x.1 true)||(x.1==t))∧((!((Array.replicate ops.size false).setIfInBounds t true).getD x.1 true)&&(x.1==t))=false:=fun x=>by
     by_cases e:t=x.1
     ·rw[←e];simp [htl]
     ·rw[getD_set_ne true e];have e':(x.1==t)=false:=by simpa using fun h=>e h.symm
      rw[e'];by_cases hx:x.1<ops.size <;> simp [hx]
    have:=dz _ _ _ g A;rw[←this,List.filter_eq_self.2];intro q hq;unfold cfB at hA;rw[Bool.and_eq_true,Bool.and_eq_true,Bool.and_eq_true,List.all_eq_true] at hA;have:=hA.1.1.1 q hq;simp at this;simp [this.1]
   have e2:(A.filter fun q=>q.1==t).length=1:=by
    unfold cfB at hA;rw[Bool.and_eq_true,Bool.and_eq_true,Bool.and_eq_true] at hA;have hA4:=hA.1.2;obtain⟨q,hqA,hqt⟩:=List.any_eq_true.1 hAt;rw[beq_iff_eq] at hqt;clear hall hend hA e1 hn hAt;clear hT
    induction A with
    | nil=>cases hqA
    | cons x r ihr=>
     rw[List.map_cons] at hA4;unfold gJ at hA4;rw[Bool.and_eq_true,List.all_eq_true] at hA4;rw[List.filter_cons];by_cases hxq:x.1=t
     ·have e:(r.filter fun x=>x.1==t)=[]:=List.filter_eq_nil_iff.2 fun y hy he=>by have:=hA4.1 (y.1,y.1) (List.mem_map.2 ⟨y,hy,rfl⟩);rw[beq_iff_eq] at he;simp [he,hxq] at this
      simp [hxq,e]
     ·rcases List.mem_cons.1 hqA with e | hm
      ·exact absurd (by rw[←e];exact hqt) hxq
      ·simp [hxq];exact ihr hA4.2 hm
   omega
 show wpAny P .any ops Q ops.size (Array.replicate ops.size false) a w.drew
 conv=>arg 5;rw[hf]
 exact wpAny_take ht hs hfr hrd hQ hy hgo
theorem r7 {L:Array Bool} {a:Act} {w:World} {o:Oper} (i:Nat) (hr:Region.ready md ops L=[i]) (hr2:Region.ready md ops (L.setIfInBounds i true)=[]) (ho:ops[i]? = some o)
 (h:∀K':Act→World→Prop,Shut (∀a' w',Q .normal a' w'→K' a' w')→if Region.wanted o (yielded ops a.tmps)=true then Oper.wp P o a w K' Q else K' (a.put o.dst undef) w):wpAny P md ops Q 1 L a w:=by
 refine⟨fun e=>(by rw[hr] at e;cases e),fun j hj=>?_⟩;rw[hr] at hj;obtain rfl:=List.mem_singleton.1 hj;exact wpOp_step ho fun K' hK=>h K' fun a' w' hq=>hK a' w' ⟨hr2,hq⟩
theorem fX {L:Array Bool} {a:Act} {w:World} {o:Oper} {m:Nat} (i:Nat) (hr:Region.ready md ops L=[i]) (ho:ops[i]? = some o)
 (h:∀K':Act→World→Prop,Shut (∀a' w',wpAny P md ops Q m (L.setIfInBounds i true) a' w'→K' a' w')→if Region.wanted o (yielded ops a.tmps)=true then Oper.wp P o a w K' Q else K' (a.put o.dst undef) w):wpAny P md ops Q (m+1) L a w:=by
 refine⟨fun e=>(by rw[hr] at e;cases e),fun j hj=>?_⟩;rw[hr] at hj;obtain rfl:=List.mem_singleton.1 hj;exact wpOp_step ho fun K' hK=>h K' fun a' w' hq=>hK a' w' hq
theorem wpN {L:Array Bool} {a:Act} {w:World} {o:Oper} {m:Nat} (i:Nat) (ho:ops[i]? = some o)
 (h:∀K':Act→World→Prop,Shut (∀a' w',wpAny P md ops Q m (L.setIfInBounds i true) a' w'→K' a' w')→if Region.wanted o (yielded ops a.tmps)=true then Oper.wp P o a w K' Q else K' (a.put o.dst undef) w) (hr:Region.ready md ops L=[i]:=by kernel_rfl):wpAny P md ops Q (m+1) L a w:=fX i hr ho h
theorem wpAny_fin {L:Array Bool} {a:Act} {w:World} (hr:Region.ready md ops L=[]) (h:Q .normal a w):wpAny P md ops Q 0 L a w:=⟨hr,h⟩
theorem wpF {L:Array Bool} {a:Act} {w:World} (h:Q .normal a w) (hr:Region.ready md ops L=[]:=by kernel_rfl):wpAny P md ops Q 0 L a w:=⟨hr,h⟩
def ckLook:List (Nat×Value)→Nat→Option Value
 | [],_=>none
 | (i,v) :: r,j=>match i==j with
  | true=>some v
  | false=>ckLook r j
def ckEqs (V:List (Nat×Value)) (xs:Nat→Value):List Nat→Prop
 | []=>True
 | j :: r=>match ckLook V j with
  | some v=>xs j=v∧ckEqs V xs r
  | none=>ckEqs V xs r
def ckU:List (Nat×SP K)→Nat→SP K
 | [],_=>SP.any
 | (i,s) :: r,j=>match i==j with
  | true=>s
  | false=>ckU r j
def ckS (V:List (Nat×Value)) (U:List (Nat×SP K)) (j:Nat):SP K:=match ckLook V j with
 | some v=>SP.eq v
 | none=>ckU U j
def ckR (V:List (Nat×Value)) (U:List (Nat×SP K)):Nat→Nat→List (SP K)
 | 0,_=>[]
 | n+1,i=>ckS V U i :: ckR V U n (i+1)
def ckB (V:List (Nat×Value)) (n:Nat):Bool:=V.all fun q=>Nat.blt q.1 n
theorem qX (V:List (Nat×Value)) (U:List (Nat×SP K)):∀(n i j:Nat),j<n→(ckR V U n i).getD j SP.any=ckS V U (i+j)
 | 0,_,_,h=>by omega
 | n+1,i,0,_=>rfl
 | n+1,i,j+1,h=>by unfold ckR;rw[List.getD_cons_succ,qX V U n (i+1) j (by omega)];congr 1;omega
theorem j2 {n:Nat}:∀(V:List (Nat×Value)) (j:Nat) (v:Value),ckB V n=true→ckLook V j=some v→j<n
 | [],_,_,_,h=>by cases h
 | (i,x) :: r,j,v,hb,h=>by
  unfold ckB at hb;rw[List.all_cons,Bool.and_eq_true] at hb;unfold ckLook at h;cases e:i==j with
  | true=>rw[←eq_of_beq e];exact Nat.ble_eq.mp hb.1
  | false=>rw[e] at h;exact j2 r j v hb.2 h
theorem wY {V:List (Nat×Value)} {U:List (Nat×SP K)} {n:Nat} (hb:ckB V n=true) {xs:Nat→Value} {w:World}:∀(anc:List Nat),(∀j∈anc,((ckR V U n 0).getD j SP.any).p (xs j) w)→ckEqs V xs anc
 | [],_=>trivial
 | j :: r,h=>by
  have ih:=wY hb r fun k hk=>h k (List.mem_cons_of_mem _ hk)
  unfold ckEqs;cases el:ckLook V j with
  | none=>exact ih
  | some v=>
   have h1:=h j (List.mem_cons_self ..);rw[qX V U n 0 j (j2 V j v hb el),Nat.zero_add] at h1;unfold ckS at h1;rw[el] at h1;exact⟨h1,ih⟩
theorem bV.k {V:List (Nat×Value)} {U:List (Nat×SP K)} {n:Nat} {T:List (Nat×Nat)} {a:Act} {w0:World} {i:Nat} {anc:List Nat} {r:List (Nat×List Nat)} {o:Oper} (ho:ops[i]? = some o) (hb:ckB V n=true)
  (h:∀(xs:Nat→Value) (w:World),Fr K w0 w→(∀j∈anc,((ckR V U n 0).getD j SP.any).p (xs j) w)→ckEqs V xs anc→
   ∀K':Act→World→Prop,Shut (∀a' v w',a'=(fillA T a xs).put o.dst v→Fr K w w'→((ckR V U n 0).getD i SP.any).p v w'→K' a' w')→
    if Region.wanted o (yielded ops (fillA T a xs).tmps)=true then Oper.wp P o (fillA T a xs) w K' Q else K' ((fillA T a xs).put o.dst undef) w)
  (hr:bV P ops Q K T a w0 (ckR V U n 0) r):bV P ops Q K T a w0 (ckR V U n 0) ((i,anc) :: r):=
 bV.cons ho (fun xs w hf hA K' hK=>h xs w hf hA (wY hb anc hA) K' hK) hr
theorem bV.p {V:List (Nat×Value)} {U:List (Nat×SP K)} {n:Nat} {T:List (Nat×Nat)} {a:Act} {w0:World} {i:Nat} {anc:List Nat} {r:List (Nat×List Nat)} {o:Oper} (ho:ops[i]? = some o) (hb:ckB V n=true)
  (h:∀(xs:Nat→Value) (w:World),Go.RowKit.Hid (Fr K w0 w)→(∀j∈anc,((ckR V U n 0).getD j SP.any).p (xs j) w)→ckEqs V xs anc→
   ∀K':Act→World→Prop,Shut (∀a' v w',a'=(fillA T a xs).put o.dst v→Fr K w w'→((ckR V U n 0).getD i SP.any).p v w'→K' a' w')→
    if Region.wanted o (yielded ops (fillA T a xs).tmps)=true then Oper.wp P o (fillA T a xs) w K' Q else K' ((fillA T a xs).put o.dst undef) w)
  (hr:bV P ops Q K T a w0 (ckR V U n 0) r):bV P ops Q K T a w0 (ckR V U n 0) ((i,anc) :: r):=bV.k ho hb (fun xs w hf=>h xs w (Go.Lib.hid hf)) hr
theorem bV.kk {V:List (Nat×Value)} {U:List (Nat×SP K)} {n:Nat} {T:List (Nat×Nat)} {a:Act} {w0:World} {i:Nat} {anc:List Nat} {r:List (Nat×List Nat)} {o:Oper} {v:Value} (ho:ops[i]? = some o) (hb:ckB V n=true) (hv:ckLook V i=some v)
 (h:∀(xs:Nat→Value) (w:World),Fr K w0 w→ckEqs V xs anc→∀K':Act→World→Prop,Shut (∀a',a'=(fillA T a xs).put o.dst v→K' a' w)→
  if Region.wanted o (yielded ops (fillA T a xs).tmps)=true then Oper.wp P o (fillA T a xs) w K' Q else K' ((fillA T a xs).put o.dst undef) w)
 (hr:bV P ops Q K T a w0 (ckR V U n 0) r):bV P ops Q K T a w0 (ckR V U n 0) ((i,anc) :: r):=
 bV.k ho hb (fun xs w hf hA hE K' hK=>h xs w hf hE K' fun a' ha=>hK _ _ _ ha (Fr.refl _ _) (by rw[qX V U n 0 i (j2 V i v hb hv),Nat.zero_add];unfold ckS;rw[hv];rfl)) hr
theorem bV.q {V:List (Nat×Value)} {U:List (Nat×SP K)} {n:Nat} {T:List (Nat×Nat)} {a:Act} {w0:World} {i:Nat} {anc:List Nat} {r:List (Nat×List Nat)} {o:Oper} {v:Value} (ho:ops[i]? = some o) (hb:ckB V n=true) (hv:ckLook V i=some v)
 (h:∀(xs:Nat→Value) (w:World),Go.RowKit.Hid (Fr K w0 w)→ckEqs V xs anc→∀K':Act→World→Prop,Shut (∀a',a'=(fillA T a xs).put o.dst v→K' a' w)→
  if Region.wanted o (yielded ops (fillA T a xs).tmps)=true then Oper.wp P o (fillA T a xs) w K' Q else K' ((fillA T a xs).put o.dst undef) w)
 (hr:bV P ops Q K T a w0 (ckR V U n 0) r):bV P ops Q K T a w0 (ckR V U n 0) ((i,anc) :: r):=bV.kk ho hb hv (fun xs w hf=>h xs w (Go.Lib.hid hf)) hr
theorem b_ {V:List (Nat×Value)} {U:List (Nat×SP K)} {n:Nat} {A:List (Nat×List Nat)} {xs:Nat→Value} {w:World} (hb:ckB V n=true) (hA:∀q∈A,((ckR V U n 0).getD q.1 SP.any).p (xs q.1) w):ckEqs V xs (A.map (·.1)):=
 wY hb _ fun j hj=>by obtain⟨q,hq,rfl⟩:=List.mem_map.1 hj;exact hA q hq
end
end Go.Proofs.YtmjccpfchhnfhaaGreat
