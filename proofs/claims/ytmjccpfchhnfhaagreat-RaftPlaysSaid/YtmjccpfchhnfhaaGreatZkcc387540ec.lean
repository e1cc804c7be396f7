/- Texts of the proofs, part 14: what the functions that they reach do, walked; no conditions beyond those that each states. -/
import Derived.Deep.MidRow
import Derived.ArgAppend
import Derived.Test.YtmjccpfchhnfhaaGreatZk6e7c71014a
import Derived.Test.YtmjccpfchhnfhaaGreatZk8a3aaf1c86
set_option linter.unusedVariables false
set_option linter.unusedSimpArgs false
set_option maxRecDepth 100000
set_option maxHeartbeats 8000000
namespace Go.Proofs.YtmjccpfchhnfhaaGreat
open Go.RowKit
theorem kpX {p q:Prop} (k:q) (h:q→p:=by
 have S1:Hid (w.heap.size<W1.heap.size):=bX X1;intro kk0;revert S1;exact kk0):p:=h k
theorem m12 {p:Prop} (h:p:=by
 rcases Nat.eq_zero_or_pos xs.length with q | q
 ·exact List.length_eq_zero_iff.1 q
 ·obtain⟨b,off,o,e,_⟩:=h.spot q;cases e):p:=h
theorem m20 {p:Prop} (h:p:=by
 rw[ha.2.2.1,ha.2.2.2];exact h.nm):p:=h
theorem m8H {p:Prop} (h:p:=by
 rw[ha.1,ha.2.2.1];exact h.nx.fr hf fun _ _=>h.bn_b):p:=h
theorem mMB {p:Prop} (h:p:=by
 rcases hy with⟨e1,e2⟩ | ⟨e1,e2⟩
 ·rw[e1,e2];exact bK h.ye hf fun c o e ho=>(h.yb c e).1
 ·rw[e1,e2];exact RowI.nil _ _):p:=h
theorem mZr {p:Prop} (h:p:=by
 rcases hy with⟨e1,e2⟩ | ⟨e1,e2⟩
 ·rw[e2];exact h.yp
 ·rw[e2];intro c e;cases e):p:=h
theorem mlU {p:Prop} (h:p:=by
 rw[hc.1,hc.2];exact h.cf.aft aft):p:=h
theorem my3 {p:Prop} (h:p:=by
 rw[ha.2.1,ha.2.2.2];exact h.mt.fr hf fun _ _=>h.bm_b):p:=h
abbrev d8 (x:Nat):Value:=.int .u64 (x:Nat)
abbrev roT (t:TypeId):Bool:=t==3||t==5||t==85
class Old where
 o:Nat→Prop
class bj [Old]:Prop where
 no:∀c,¬Old.o c
def RO [Old] (X:Nat→Prop) (c:Nat) (o:Obj):Prop:=¬X c∧(Old.o c∨∃cs t fz,o=.cells cs t fz∧roT t=true)
theorem RO.ne [Old] {X:Nat→Prop} {c:Nat} {o:Obj} (h:RO X c o) (hn:¬Old.o c) {cs:Array Value} {t:TypeId} {fz:Nat×Nat} (e:o=.cells cs t fz) (ht:roT t=false):False:=by
 rcases h.2 with h2 | ⟨cs',t',fz',e',h'⟩
 ·exact hn h2
 ·rw[e] at e';cases e';rw[ht] at h';cases h'
theorem RO.ne0 [Old] [bj] {X:Nat→Prop} {c:Nat} {o:Obj} (h:RO X c o) {cs:Array Value} {t:TypeId} {fz:Nat×Nat} (e:o=.cells cs t fz) (ht:roT t=false):False:=h.ne (bj.no c) e ht
structure Aft (X P X' P':Nat→Prop) (w w':World):Prop where
 fr:Fr (fun c _=>¬P c) w w'
 xx:∀c,X' c↔X c∨P' c
 pp:∀c,P c→P' c
 nw:∀c,P' c→P c∨w.heap.size≤c
 hp:∀c,P c→X c
section
variable {X P X' P' X'' P'':Nat→Prop} {w w' w'':World}
theorem Aft.of (h:Fr (fun c _=>¬P c) w w') (hp:∀c,P c→X c):Aft X P X P w w':=⟨h,fun c=>⟨.inl,fun h=>h.elim id (hp c)⟩,fun _ h=>h,fun _ h=>.inl h,hp⟩
theorem Aft.tt (h:FT w w') (hp:∀c,P c→X c):Aft X P X P w w':=.of (h.tT) hp
theorem Aft.refl (hp:∀c,P c→X c) (w:World):Aft X P X P w w:=.tt (Fr.refl _ _) hp
theorem Aft.px (h:Aft X P X' P' w w') {c:Nat} (q:P' c):X' c:=(h.xx c).2 (.inr q)
theorem Aft.trans (h:Aft X P X' P' w w') (k:Aft X' P' X'' P'' w' w''):Aft X P X'' P'' w w'':=
 ⟨⟨k.fr.os.trans h.fr.os,k.fr.tape.trans h.fr.tape,k.fr.output.trans h.fr.output,Nat.le_trans h.fr.size k.fr.size,fun c o ho hp=>k.fr.keep c o (h.fr.keep c o ho hp) fun hc=>by
   rcases h.nw c hc with q | q
   ·exact hp q
   ·have:=bX ho
    omega⟩,
  fun c=>by rw[k.xx,h.xx];exact⟨fun q=>q.elim (fun q=>q.elim .inl fun q=>.inr (k.pp c q)) .inr,fun q=>q.elim (fun q=>.inl (.inl q)) .inr⟩,
  fun c q=>k.pp c (h.pp c q),fun c q=>by
   rcases k.nw c q with q | q
   ·exact h.nw c q
   ·exact .inr (Nat.le_trans h.fr.size q),h.hp⟩
theorem Aft.tr (h:Aft X P X' P' w w') (k:FT w' w''):Aft X P X' P' w w'':=h.trans (.tt k fun _ q=>h.px q)
theorem Aft.lead (h:FT w w') (k:Aft X P X' P' w' w''):Aft X P X' P' w w'':=(Aft.tt h k.hp).trans k
theorem Aft.off (h:Aft X P X' P' w w') {c:Nat} {o:Obj} (ho:w.heap[c]? = some o) (hx:¬X c):¬P c∧¬X' c:=
 ⟨fun q=>hx (h.hp c q),fun q=>by
  rcases(h.xx c).1 q with q | q
  ·exact hx q
  ·rcases h.nw c q with q | q
   ·exact hx (h.hp c q)
   ·have:=bX ho;omega⟩
theorem Aft.far (h:Aft X P X' P' w w') {c:Nat} (hc:c<w.heap.size) (hp:¬P c):¬P' c:=fun q=>by
 rcases h.nw c q with q | q
 ·exact hp q
 ·omega
theorem Aft.xo (h:Aft X P X' P' w w') {c:Nat} (q:X c):X' c:=(h.xx c).2 (.inl q)
theorem Aft.ro [Old] (h:Aft X P X' P' w w') {c:Nat} {o:Obj} (ho:w.heap[c]? = some o) (hr:RO X c o):¬P c∧RO X' c o:=⟨(h.off ho hr.1).1,(h.off ho hr.1).2,hr.2⟩
end
theorem BytesAt.fr3 {K K':Nat→Obj→Prop} {w w':World} {v:Value} {bs:List UInt8} (h:BytesAt K w v bs) (hf:Fr K' w w') (hk:∀c o,w.heap[c]? = some o→K c o→K' c o):BytesAt K w' v bs:=by
 obtain⟨a,cap,hv,hl,hn,h⟩:=h;refine⟨a,cap,hv,hl,hn,?_⟩;rcases h with h | ⟨b,off,o,ha,hb,hk',hc⟩
 ·exact .inl h
 ·refine .inr ⟨b,off,o,ha,hf.keep b o hb (hk b o hb hk'),hk',fun i hi=>?_⟩;exact hf.cell (fun o' ho=>by rw[hb] at ho;cases ho;exact hk b _ hb hk') (hc i hi)
theorem NumsAt.mono3 {q:IntKind} {K K':Nat→Obj→Prop} {w:World} {v:Value} {zs:List Int} (h:NumsAt q K w v zs) (hk:∀c o,w.heap[c]? = some o→K c o→K' c o):NumsAt q K' w v zs:=by
 obtain⟨a,cap,hv,h⟩:=h;refine⟨a,cap,hv,?_⟩;rcases h with h | ⟨b,off,o,ha,hb,hkb,hc⟩
 ·exact .inl h
 ·exact .inr ⟨b,off,o,ha,hb,hk _ _ hb hkb,hc⟩
section
variable {X P X' P':Nat→Prop} {w w':World}
theorem BytesAt.aft [Old] {v:Value} {bs:List UInt8} (hb:BytesAt (RO X) w v bs) (h:Aft X P X' P' w w'):BytesAt (RO X') w' v bs:=
 ((hb.mono (K':=fun c o=>¬P c∧RO X' c o) fun c o ho hr=>h.ro ho hr).fr3 (h.fr) fun c o _ q=>q.1).mono fun c o _ q=>q.2
theorem NumsAt.aft [Old] {q:IntKind} {v:Value} {zs:List Int} (hb:NumsAt q (RO X) w v zs) (h:Aft X P X' P' w w'):NumsAt q (RO X') w' v zs:=
 ((hb.mono3 (K':=fun c o=>¬P c∧RO X' c o) fun c o ho hr=>h.ro ho hr).fr h.fr fun c o q=>q.1).mono fun c o q=>q.2
theorem RowsAt.aft [Old] {α:Type} {v:Value} {k:Nat} {enc:α→List Value} {xs:List α} (hb:RowsAt (RO X) w v k enc xs) (h:Aft X P X' P' w w'):RowsAt (RO X') w' v k enc xs:=
 ((hb.mono (K':=fun c o=>¬P c∧RO X' c o) fun c o ho hr=>h.ro ho hr).fr h.fr fun c o _ q=>q.1).mono fun c o _ q=>q.2
end
structure EsAt [Old] (X:Nat→Prop) (w:World) (v:Value) (xs:List EV):Prop where
 row:RowsAt (RO X) w v 3 encE xs
 nz:∀n c,v=.slice none n c→c=0
 dat:∀x∈xs,BytesAt (RO X) w (.slice x.a x.d.length x.c) x.d∧x.d.length≤9223372036854775807
section
variable {X P X' P':Nat→Prop} {w w':World}
theorem EsAt.aft [Old] {v:Value} {xs:List EV} (hb:EsAt X w v xs) (h:Aft X P X' P' w w'):EsAt X' w' v xs:=⟨hb.row.aft h,hb.nz,fun x hx=>⟨(hb.dat x hx).1.aft h,(hb.dat x hx).2⟩⟩
theorem EsAt.tt [Old] {v:Value} {xs:List EV} (hb:EsAt X w v xs) (h:FT w w'):EsAt X w' v xs:=⟨hb.row.tt h,hb.nz,fun x hx=>⟨(hb.dat x hx).1.tt h,(hb.dat x hx).2⟩⟩
theorem EsAt.nil [Old] (X:Nat→Prop) (w:World):EsAt X w (.slice none 0 0) []:=⟨RowsAt.nil _ _ _ _,(fun n c e=>by cases e;rfl),(fun x hx=>by cases hx)⟩
end
def A16 (w:World) (b:Nat) (l:List Nat):Prop:=l.length=16∧∃cur,w.heap[b]? = some (.cells cur 23 (0,0))∧∀i,i<16→cur[i]? = some (d8 (l.getD i 0))
theorem A16.fr {K:Nat→Obj→Prop} {w w':World} {b:Nat} {l:List Nat} (h:A16 w b l) (hf:Fr K w w') (hk:∀o,w.heap[b]? = some o→K b o):A16 w' b l:=by
 obtain⟨h1,cur,h2,h3⟩:=h;exact⟨h1,cur,hf.keep _ _ h2 (hk _ h2),h3⟩
theorem A16.cell {w:World} {b:Nat} {l:List Nat} (h:A16 w b l) (i:Nat) (hi:i<16):w.cell? ⟨b,i,none⟩=some (d8 (l.getD i 0)):=by
 obtain⟨h1,cur,h2,h3⟩:=h;exact bQ h2 (h3 i hi)
theorem A16.free {w:World} {b:Nat} {l:List Nat} (h:A16 w b l) (i:Nat):w.frozen? ⟨b,i,none⟩=false:=by
 obtain⟨h1,cur,h2,h3⟩:=h;exact bV h2
theorem A16.lt {w:World} {b:Nat} {l:List Nat} (h:A16 w b l):b<w.heap.size:=by
 obtain⟨h1,cur,h2,h3⟩:=h;exact bX h2
theorem jV {l:List Nat} {i j y:Nat} (hi:i<l.length):(l.set i y).getD j 0=if i=j then y else l.getD j 0:=by
 rw[List.getD_eq_getElem?_getD,List.getD_eq_getElem?_getD,List.getElem?_set];split
 ·rename_i h;subst h;simp [hi]
 ·rfl
theorem A16.set {w:World} {b:Nat} {l:List Nat} (h:A16 w b l) (i y:Nat) (hi:i<16):A16 (w.setCell ⟨b,i,none⟩ (d8 y)) b (l.set i y):=by
 obtain⟨h1,cur,h2,h3⟩:=h;refine⟨by rw[List.length_set,h1],_,bJ h2 _,fun j hj=>?_⟩;rw[jV (by omega),Array.getElem?_setIfInBounds];have hs:i<cur.size:=(Array.getElem?_eq_some_iff.1 (h3 i hi)).1;split
 ·first | rfl | rw[if_pos hs]
 ·exact h3 j hj
theorem A16.nums {w:World} {b c:Nat} {l:List Nat} (h:A16 w b l):NumsAt .u64 (fun k _=>k=b) w (.slice (some ⟨b,0,none⟩) 16 c) (l.map fun(x:Nat)=>(x:Int)):=by
 obtain⟨h1,cur,h2,h3⟩:=h;refine⟨_,c,by rw[List.length_map,h1],.inr ⟨b,0,_,rfl,h2,rfl,fun i hi=>?_⟩⟩;rw[List.length_map,h1] at hi;rw[Nat.zero_add,List.getElem_map];have e:=h3 i hi;rw[List.getD_eq_getElem?_getD,List.getElem?_eq_getElem (by omega)] at e;exact bQ h2 e
structure NV where
 vc:Value
 vy:Value
 ve:Value
 bn:Nat
 cn:Nat
 bm:Nat
 cm:Nat
 es:List EV
 deriving Inhabited
def W14 (n:Nd) (q:NV):Array Value:=#[.int .i64 n.me,.int .i64 n.vote,.int .i64 n.role,.int .i64 n.ld,q.vc,q.vy,d8 n.tm,d8 n.commit,d8 n.log.base,d8 n.log.bt,q.ve,.bool n.heard,.slice (some ⟨q.bn,0,none⟩) 16 q.cn,.slice (some ⟨q.bm,0,none⟩) 16 q.cm]
structure PNs [Old] (X P:Nat→Prop) (w:World) (b:Nat) (n:Nd) (q:NV):Prop where
 top:w.heap[b]? = some (.cells (W14 n q) 99 (0,0))
 cf:IntsAt (RO X) w q.vc n.conf
 ye:RowI w 0 q.vy n.yes
 yp:∀c,q.vy.ownBlock=some c→P c
 ev:EsAt X w q.ve q.es
 ee:n.log.es=q.es.map EV.en
 nx:A16 w q.bn n.next
 mt:A16 w q.bm n.mat
 nm:q.bn≠q.bm
 pb:P b
 pn:P q.bn
 pm:P q.bm
 px:∀c,P c→X c
 hx:∀c,X c→c<w.heap.size
 od:∀c,Old.o c→c<b
def PN [Old] (X P:Nat→Prop) (w:World) (b:Nat) (n:Nd):Prop:=∃q,PNs X P w b n q
section
variable {X P X' P' X2 P2:Nat→Prop} {w w':World} {b:Nat} {n n':Nd} {q:NV}
theorem PNs.bn_b [Old] (h:PNs X P w b n q):q.bn≠b:=fun e=>by
 obtain⟨_,cur,h2,_⟩:=h.nx;rw[e,h.top] at h2;cases h2
theorem PNs.bm_b [Old] (h:PNs X P w b n q):q.bm≠b:=fun e=>by
 obtain⟨_,cur,h2,_⟩:=h.mt;rw[e,h.top] at h2;cases h2
theorem PNs.yb [Old] (h:PNs X P w b n q):∀c,q.vy.ownBlock=some c→c≠b∧c≠q.bn∧c≠q.bm:=fun c hc=>by
 obtain⟨cur,h0⟩:=cZ h.ye hc;refine⟨fun e=>?_,fun e=>?_,fun e=>?_⟩
 ·rw[e,h.top] at h0;cases h0
 ·obtain⟨_,cur,h2,_⟩:=h.nx;rw[e,h2] at h0;cases h0
 ·obtain⟨_,cur,h2,_⟩:=h.mt;rw[e,h2] at h0;cases h0
theorem PNs.tt [Old] (h:PNs X P w b n q) (hf:FT w w'):PNs X P w' b n q:=
 ⟨hf.keep _ _ h.top trivial,h.cf.tt hf,h.ye.tt hf,h.yp,h.ev.tt hf,h.ee,h.nx.fr hf fun _ _=>trivial,h.mt.fr hf fun _ _=>trivial,h.nm,h.pb,h.pn,h.pm,h.px,fun c hc=>Nat.lt_of_lt_of_le (h.hx c hc) hf.size,h.od⟩
theorem PNs.new [Old] (h:PNs X P w b n q) {g:Nat} (hg:w.heap.size≤g):¬Old.o g:=fun e=>by
 have:=h.od g e;have:=bX h.top;omega
theorem PN.tt [Old] (h:PN X P w b n) (hf:FT w w'):PN X P w' b n:=by
 obtain⟨q,h⟩:=h;exact⟨q,h.tt hf⟩
theorem PNs.far [Old] (h:PNs X P w b n q) (k:Aft X P2 X' P' w w') (hd:∀c,P c→¬P2 c) (hx:∀c,X' c→c<w'.heap.size):PNs X' P w' b n q:=
 ⟨k.fr.keep _ _ h.top (hd b h.pb),h.cf.aft k,bK h.ye k.fr fun c o e ho=>hd c (h.yp c e),h.yp,h.ev.aft k,h.ee,h.nx.fr k.fr fun _ _=>hd _ h.pn,h.mt.fr k.fr fun _ _=>hd _ h.pm,h.nm,h.pb,h.pn,h.pm,fun c hc=>k.xo (h.px c hc),hx,h.od⟩
theorem PNs.cells [Old] (h:PNs X P w b n q) (f:FT w w'):w'.cell? ⟨b,0,none⟩=some (.int .i64 n.me)∧w'.cell? ⟨b,1,none⟩=some (.int .i64 n.vote)∧w'.cell? ⟨b,2,none⟩=some (.int .i64 n.role)∧w'.cell? ⟨b,3,none⟩=some (.int .i64 n.ld)∧w'.cell? ⟨b,4,none⟩=some q.vc∧w'.cell? ⟨b,5,none⟩=some q.vy∧w'.cell? ⟨b,6,none⟩=some (d8 n.tm)∧w'.cell? ⟨b,7,none⟩=some (d8 n.commit)∧w'.cell? ⟨b,8,none⟩=some (d8 n.log.base)∧w'.cell? ⟨b,9,none⟩=some (d8 n.log.bt)∧w'.cell? ⟨b,10,none⟩=some q.ve∧w'.cell? ⟨b,11,none⟩=some (.bool n.heard)∧w'.cell? ⟨b,12,none⟩=some (.slice (some ⟨q.bn,0,none⟩) 16 q.cn)∧w'.cell? ⟨b,13,none⟩=some (.slice (some ⟨q.bm,0,none⟩) 16 q.cm):=by
 have t:=f.keep _ _ h.top trivial;exact⟨bQ t rfl,bQ t rfl,bQ t rfl,bQ t rfl,bQ t rfl,bQ t rfl,bQ t rfl,bQ t rfl,bQ t rfl,bQ t rfl,bQ t rfl,bQ t rfl,bQ t rfl,bQ t rfl⟩
theorem PNs.free [Old] (h:PNs X P w b n q) (f:FT w w') (i:Nat):w'.frozen? ⟨b,i,none⟩=false:=bV (f.keep _ _ h.top trivial)
theorem PNs.re [Old] {q':NV} (h:PNs X P w b n q) (hf:Fr (fun c _=>c≠b) w w') (ht:w'.heap[b]? = some (.cells (W14 n' q') 99 (0,0)))
 (hc:n'.conf=n.conf∧q'.vc=q.vc) (hy:(n'.yes=n.yes∧q'.vy=q.vy)∨(n'.yes=[]∧q'.vy=.slice none 0 0)) (he:n'.log.es=n.log.es∧q'.ve=q.ve∧q'.es=q.es)
 (ha:n'.next=n.next∧n'.mat=n.mat∧q'.bn=q.bn∧q'.bm=q.bm):PNs X P w' b n' q':=by
 have hfx:Fr (fun c o=>¬X c) w w':=hf.mono fun c _ hc e=>hc (e▸h.px b h.pb)
 have aft:Aft X P X P w w':=.of (hf.mono fun c _ hc e=>hc (e▸h.pb)) h.px;refine⟨ht,?_,?_,?_,?_,?_,?_,?_,?_,h.pb,?_,?_,h.px,fun c hc=>Nat.lt_of_lt_of_le (h.hx c hc) hf.size,h.od⟩
 ·exact mlU
 ·exact mMB
 ·exact mZr
 ·rw[he.2.1,he.2.2];exact h.ev.aft aft
 ·rw[he.1,he.2.2];exact h.ee
 ·exact m8H
 ·exact my3
 ·exact m20
 ·rw[ha.2.2.1];exact h.pn
 ·rw[ha.2.2.2];exact h.pm
theorem PNs.reE [Old] {q':NV} (h:PNs X P w b n q) (hf:Fr (fun c _=>c≠b) w w') (ht:w'.heap[b]? = some (.cells (W14 n' q') 99 (0,0)))
 (hc:n'.conf=n.conf∧q'.vc=q.vc) (hy:(n'.yes=n.yes∧q'.vy=q.vy)∨(n'.yes=[]∧q'.vy=.slice none 0 0)) (he:n'.log.es=q'.es.map EV.en∧EsAt X w q'.ve q'.es)
 (ha:n'.next=n.next∧n'.mat=n.mat∧q'.bn=q.bn∧q'.bm=q.bm):PNs X P w' b n' q':=by
 have aft:Aft X P X P w w':=.of (hf.mono fun c _ hc e=>hc (e▸h.pb)) h.px;refine⟨ht,?_,?_,?_,he.2.aft aft,he.1,?_,?_,?_,h.pb,?_,?_,h.px,fun c hc=>Nat.lt_of_lt_of_le (h.hx c hc) hf.size,h.od⟩
 ·exact mlU
 ·exact mMB
 ·exact mZr
 ·exact m8H
 ·exact my3
 ·exact m20
 ·rw[ha.2.2.1];exact h.pn
 ·rw[ha.2.2.2];exact h.pm
end
structure MV where
 kind:Int
 src:Int
 dst:Int
 tm:Nat
 index:Nat
 prev:Nat
 commit:Nat
 ok:Bool
 da:Option Addr
 dc:Nat
 d:List UInt8
 ea:Option Addr
 ec:Nat
 es:List EV
 deriving Inhabited
def MV.ms (m:MV):Ms:=⟨m.kind,m.src,m.dst,m.tm,m.index,m.prev,m.commit,m.ok,m.d,m.es.map EV.en⟩
def encM (m:MV):List Value:=[.int .i64 m.kind,.int .i64 m.src,.int .i64 m.dst,d8 m.tm,d8 m.index,d8 m.prev,d8 m.commit,.bool m.ok,.slice m.da m.d.length m.dc,.slice m.ea m.es.length m.ec]
theorem Hq (m:MV):(encM m).length=10:=rfl
theorem encM_one (m:MV):∀u∈encM m,u.oneCell'=true:=fun u hu=>by
 unfold encM at hu;simp only[List.mem_cons,List.not_mem_nil,or_false] at hu;rcases hu with rfl | rfl | rfl | rfl | rfl | rfl | rfl | rfl | rfl | rfl <;> rfl
structure MsAt [Old] (X:Nat→Prop) (w:World) (m:MV):Prop where
 dat:BytesAt (RO X) w (.slice m.da m.d.length m.dc) m.d
 es:EsAt X w (.slice m.ea m.es.length m.ec) m.es
section
variable {X P X' P':Nat→Prop} {w w':World} {m:MV}
theorem MsAt.aft [Old] (h:MsAt X w m) (k:Aft X P X' P' w w'):MsAt X' w' m:=⟨h.dat.aft k,h.es.aft k⟩
theorem MsAt.tt [Old] (h:MsAt X w m) (k:FT w w'):MsAt X w' m:=⟨h.dat.tt k,h.es.tt k⟩
theorem MsAt.keep [Old] {K:Nat→Obj→Prop} (h:MsAt X w m) (hf:Fr K w w') (hk:∀c o,w.heap[c]? = some o→RO X c o→K c o):MsAt X w' m:=
 ⟨h.dat.fr3 hf hk,h.es.row.fr hf hk,h.es.nz,fun x hx=>⟨(h.es.dat x hx).1.fr3 hf hk,(h.es.dat x hx).2⟩⟩
end
structure OwnMs [Old] (X:Nat→Prop) (B:Nat) (w:World) (v:Value) (ms:List MV):Prop where
 row:w.ownsRow B 32 10 v ms.length (ms.flatMap encM)
 off:∀c,v.ownBlock=some c→¬X c
 at':∀m∈ms,MsAt X w m
theorem OwnMs.nil [Old] (X:Nat→Prop) (B:Nat) (w:World):OwnMs X B w (.slice none 0 0) []:=⟨⟨rfl,.inl ⟨rfl,rfl⟩⟩,(fun c e=>by cases e),(fun m hm=>by cases hm)⟩
theorem OwnMs.tt [Old] {X:Nat→Prop} {B:Nat} {w w':World} {v:Value} {ms:List MV} (h:OwnMs X B w v ms) (hf:FT w w'):OwnMs X B w' v ms:=
 ⟨bK h.row hf fun _ _ _ _=>trivial,h.off,fun m hm=>(h.at' m hm).tt hf⟩
theorem OwnMs.aft [Old] {X P X' P':Nat→Prop} {B:Nat} {w w':World} {v:Value} {ms:List MV} (h:OwnMs X B w v ms) (k:Aft X P X' P' w w'):OwnMs X' B w' v ms:=
 ⟨bK h.row k.fr fun c o e ho=>(k.off ho (h.off c e)).1,fun c e=>by
  obtain⟨cur,ho⟩:=cZ h.row e
  exact(k.off ho (h.off c e)).2,fun m hm=>(h.at' m hm).aft k⟩
theorem OwnMs.rows [Old] {X:Nat→Prop} {B:Nat} {w:World} {v:Value} {ms:List MV} (h:OwnMs X B w v ms):RowsAt (fun c _=>¬X c) w v 10 encM ms:=by
 refine RowsAt.of_own Hq h.row fun c cs e=>h.off c e
def idxF (p:Int→Bool) (xs:List Int):Int:=match xs.findIdx? p with | some i=>(i:Nat) | none=>-1
theorem idxF_hit {p:Int→Bool} {xs:List Int} {i:Nat} (hi:i<xs.length) (hp:p xs[i]=true) (h:∀j,(hj:j<xs.length)→j<i→p xs[j]=false):idxF p xs=(i:Nat):=by
 have e:xs.findIdx? p=some i:=List.findIdx?_eq_some_iff_getElem.2 ⟨hi,hp,fun j hj=>by rw[h j (by omega) hj];simp⟩;unfold idxF;rw[e]
theorem Nw {p:Int→Bool} {xs:List Int} (h:∀j,(hj:j<xs.length)→p xs[j]=false):idxF p xs=-1:=by
 have e:xs.findIdx? p=none:=List.findIdx?_eq_none_iff.2 fun x hx=>by obtain⟨j,hj,rfl⟩:=List.mem_iff_getElem.1 hx;exact h j hj
 unfold idxF;rw[e]
theorem KX {K:Nat→Obj→Prop} (w:World) (v:Value) (xs:List Int) (g:Nat) (lb:Array Value) (p:Int→Bool) (eg:∀args w,(callFunc g args).run Tryz.prog w=.ok (.enter g args) w) (hrow:IntsAt K w v xs) (hl:xs.length≤1000000)
 (hp:∀W h,FT w W→Calls Tryz.prog g (#[.int .i64 h]++lb) W fun e w'=>e=.returned (.bool (p h))∧FT W w'):
 Calls Tryz.prog 109 #[v,.func (.func g) #[] lb] w fun e w'=>e=.returned (.int .i64 (idxF p xs))∧FT w w':=by
 obtain⟨a,cp,rfl⟩:=hrow.form;have HR:=zH hrow;have HP:=zH hp;have HIT:=zH (fun i hi hp h=>@idxF_hit p xs i hi hp h);have NONE:=zH (@Nw p xs);clear hrow hp;obtain⟨z,hz⟩:=zE (idxF p xs);rw[hz] at HIT NONE ⊢;clear hz;go_enter Tryz.func109,Tryz.ntmps109
 go_wp2;go_loopw [8] (fun v8 wr=>∃i:Nat,v8=.int .i64 i∧i≤xs.length∧Hid (∀j,(hj:j<xs.length)→j<i→p xs[j]=false)∧Hid (FT w wr)) (fun v8 _=>xs.length-(intOf v8).toNat)
 case atStart=>exact⟨0,rfl,Nat.zero_le _,fun j _ h=>(by omega),Fr.refl _ _⟩
 case round=>
  obtain⟨i,rfl,hi,HN,HF⟩:=hrel;by_cases hlt:i<xs.length
  ·have hltI:(i:Int)<xs.length:=by omega
   obtain⟨b,off,rfl⟩:=HR.out.addr (by omega);have k0:=(HR.tt HF).cell hlt;obtain⟨x,hx⟩:=zE (xs[i]);rw[hx] at k0;have HX:=zH hx;have PC:=zH (HP wr x HF);clear hx;cases hq:p x with
   | true=>
    rw[hq] at PC;have HQ:=zH hq;clear hq;go_wp2_with fail
    (with_reducible refine PC.out.mono ?_);rintro e w' ⟨rfl,f'⟩;have F':=zH (HF.trans f');clear f' PC;go_wp2;go_ret;refine⟨?_,F'⟩;have:=HIT.out i hlt (by rw[HX.out];exact HQ.out) HN.out;rw[this];rfl
   | false=>
    rw[hq] at PC;have HQ:=zH hq;clear hq;go_wp2_with fail
    (with_reducible refine PC.out.mono ?_);rintro e w' ⟨rfl,f'⟩;have F':=zH (HF.trans f');clear f' PC;go_wp2;go_roundw
    case rel=>exact⟨i+1,by go_num,hlt,fun j hj hji=>by
     by_cases e:j=i
     ·subst e;rw[HX.out];exact HQ.out
     ·exact HN.out j hj (by omega),F'.out⟩
    case measure=>simp [intOf];omega
  ·have hge:(xs.length:Int)≤i:=by omega
   go_wp2;go_ret;refine⟨?_,HF⟩;rw[NONE.out fun j hj=>HN.out j hj (by omega)];rfl
def B8 (p:Int→Bool) (xs:List Int):List Int:=xs.filter fun h=>!p h
theorem zq (p:Int→Bool) (xs:List Int) (j:Nat) (hj:j<xs.length):B8 p (xs.take (j+1))=if p xs[j]=true then B8 p (xs.take j) else B8 p (xs.take j)++[xs[j]]:=by
 unfold B8;rw[List.take_succ_eq_append_getElem hj,List.filter_append];by_cases h:p xs[j]=true
 ·rw[if_pos h];simp [h]
 ·rw[if_neg h];simp [h]
theorem LK (w:World) (B g n cap:Nat) (xs:List Int) (fn:Nat) (lb:Array Value) (p:Int→Bool) (eg:∀args w,(callFunc fn args).run Tryz.prog w=.ok (.enter fn args) w) (hx:xs.length=n) (h:RowI w B (.slice (some ⟨g,0,none⟩) n cap) xs) (hn:n≤1000000)
 (hp:∀W h,Fr (fun c _=>c≠g) w W→Calls Tryz.prog fn (#[.int .i64 h]++lb) W fun e w'=>e=.returned (.bool (p h))∧FT W w'):
 Calls Tryz.prog 72 #[.slice (some ⟨g,0,none⟩) n cap,.func (.func fn) #[] lb] w fun e w'=>(∃m,e=.returned (.slice (some ⟨g,0,none⟩) m cap)∧m=(B8 p xs).length∧RowI w' B (.slice (some ⟨g,0,none⟩) m cap) (B8 p xs))∧Fr (fun c _=>c≠g) w w':=by
 subst hx;have IX:=zH (KX (K:=fun b _=>B≤b) w (.slice (some ⟨g,0,none⟩) xs.length cap) xs fn lb p eg h.ints hn (fun W h f=>hp W h (f.tT)));have HP:=zH hp;have H0:Hid (w.ownsRow B 3 1 (.slice (some ⟨g,0,none⟩) xs.length cap) xs.length (xs.map B9)):=h;obtain⟨hnc,hcm⟩:=own_cap h;clear h hp;obtain⟨n,hX⟩:=zE xs.length;rw[hX] at IX H0 hn hnc ⊢;have HX:=zH hX;clear hX;cases hi:xs.findIdx? p with
 | none=>
  have hz:idxF p xs=-1:=by unfold idxF;rw[hi]
  have hk:B8 p xs=xs:=by unfold B8;rw[List.filter_eq_self];intro a ha;have:=List.findIdx?_eq_none_iff.1 hi a ha;simpa using this
  rw[hz] at IX;rw[hk];clear hz hk hi;go_enter Tryz.func72,Tryz.ntmps72
  go_wp2_with fail
  (with_reducible refine IX.out.mono ?_);rintro e w1 ⟨rfl,f1⟩;have F1:=zH f1;clear f1 IX;go_wp2;go_ret;refine⟨⟨n,rfl,HX.symm,?_⟩,F1.tT⟩;show World.ownsRow _ _ _ _ _ _ _;rw[HX.out];exact bK H0 F1 (fun _ _ _ _=>trivial)
 | some k=>
  have hz:idxF p xs=(k:Nat):=by unfold idxF;rw[hi]
  rw[hz] at IX;obtain⟨hkl,hkp,hkb⟩:=List.findIdx?_eq_some_iff_getElem.1 hi;have hkn:k<n:=by have:=HX.out;omega
  have hk0:B8 p (xs.take (k+1))=xs.take k:=by rw[zq p xs k hkl,if_pos hkp];unfold B8;rw[List.filter_eq_self];intro a ha;obtain⟨q,hq,rfl⟩:=List.mem_iff_getElem.1 ha;rw[List.length_take] at hq;rw[List.getElem_take];have:=hkb q (by omega);simpa using this
  have HK0:=zH hk0;have w1i:IntKind.i64.wrap ((k:Int)+1)=((k+1:Nat):Int):=by rw[IntKind.wrap_i64];omega
  have hkm:((k:Int)==-1)=false:=by simp
  clear hz hi hkp hkb hkl hk0;go_enter Tryz.func72,Tryz.ntmps72
  go_wp2_with fail
  (with_reducible refine IX.out.mono ?_);rintro e w1 ⟨rfl,f1⟩;have F1:=zH f1;clear f1 IX;go_wp2;go_loopw [5,6] (fun v5 v6 wr=>∃(i j:Nat) (Y:List Int),v5=.int .i64 i∧v6=.int .i64 j∧i<j∧j≤n∧Y.length=n∧Hid (Y.take i=B8 p (xs.take j))∧Hid (Y.drop j=xs.drop j)∧Hid (wr.ownsRow B 3 1 (.slice (some ⟨g,0,none⟩) n cap) n (Y.map B9))∧Hid (Fr (fun c _=>c≠g) w wr)) (fun _ v6 _=>n-(intOf v6).toNat)
  case atStart=>exact⟨k,k+1,xs,rfl,rfl,by first | done | exact Nat.lt_succ_self k,hkn,HX,HK0.symm,rfl,bK H0 F1 (fun _ _ _ _=>trivial),F1.tT⟩
  case round=>
   obtain⟨i,j,Y,rfl,rfl,hij,hjn,hYl,HT,HD,HO,HF⟩:=hrel;have HYL:=zH hYl;by_cases hlt:j<n
   ·have hltI:(j:Int)<n:=by omega
    have hxj:j<xs.length:=by have:=HX.out;omega
    obtain⟨x,hx⟩:=zE (xs[j])
    have hYj:Y[j]'(by omega)=x:=by
     have h1:(Y.drop j)[0]? = (xs.drop j)[0]?:=by rw[HD.out]
     rw[List.getElem?_drop,List.getElem?_drop,Nat.add_zero,List.getElem?_eq_getElem (by omega),List.getElem?_eq_getElem hxj] at h1;rw[←hx];exact Option.some.inj h1
    have ej:=j0 HO.out j (by omega)
    have k0:wr.cell? ⟨g,j,none⟩=some (.int .i64 x):=by rw[ej.1,List.getElem?_map,List.getElem?_eq_getElem (by omega),Option.map_some,hYj];rfl
    have KS:=zH (zq p xs j hxj);rw[hx] at KS;have PC:=zH (HP wr x HF);have hin:(i:Int)<n:=by omega
    have iw:IntKind.i64.wrap ((i:Int)+1)=((i+1:Nat):Int):=by rw[IntKind.wrap_i64];omega
    have jw:IntKind.i64.wrap ((j:Int)+1)=((j+1:Nat):Int):=by rw[IntKind.wrap_i64];omega
    clear hx ej hYj hYl;cases hq:p x with
    | true=>
     rw[hq] at PC;have HQ:=zH hq;clear hq;go_wp2_with fail
     (with_reducible refine PC.out.mono ?_);rintro e w' ⟨rfl,f'⟩;have F2:=zH f';clear f' PC;go_wp2;go_roundw
     case rel=>
      refine⟨i,j+1,Y,rfl,by go_num,by omega,by omega,HYL.out,?_,?_,bK HO.out F2.out (fun _ _ _ _=>trivial),HF.out.trans (F2.out.tT)⟩
      ·show _=_;rw[KS.out,if_pos HQ.out];exact HT.out
      ·show _=_;rw[←List.drop_drop,←List.drop_drop,HD.out]
     case measure=>simp [intOf];omega
    | false=>
     rw[hq] at PC;have HQ:=zH hq;clear hq;go_wp2_with fail
     (with_reducible refine PC.out.mono ?_);rintro e w' ⟨rfl,f'⟩;have F':=zH (HF.trans (f'.tT));have O':=zH (bK HO f' (fun _ _ _ _=>trivial));have ei:=j0 O'.out i (by omega);obtain⟨ec,es,ef⟩:=ei;obtain⟨uo,huo⟩:=Option.isSome_iff_exists.1 es;clear f' PC ec es k0;obtain⟨W4,hW4⟩:=zE (w'.setCell ⟨g,i,none⟩ (.int .i64 x))
     have O4:Hid (W4.ownsRow B 3 1 (.slice (some ⟨g,0,none⟩) n cap) n ((Y.set i x).map B9)):=by rw[←hW4,List.map_set];exact DX O'.out i (.int .i64 x)
     have F4:Hid (Fr (fun c _=>c≠g) w W4):=by rw[←hW4];exact F'.out.setCell (fun _ _ hk=>hk rfl) _
     go_wp2
     try rw[hW4]
     go_roundw
     case rel=>
      refine⟨i+1,j+1,Y.set i x,by go_num,by go_num,by omega,by omega,by rw[List.length_set];exact HYL.out,?_,?_,O4.out,F4.out⟩
      ·show _=_;have:=HYL.out;rw[KS.out,if_neg (by rw[HQ.out];decide),List.take_set,List.take_add_one,List.getElem?_eq_getElem (by omega),Option.toList_some,←HT.out,List.set_append_right _ _ (by rw[List.length_take];omega),List.length_take,Nat.min_eq_left (by omega),Nat.sub_self];rfl
      ·show _=_;rw[List.drop_set_of_lt (by omega),←List.drop_drop,←List.drop_drop,HD.out]
     case measure=>simp [intOf];omega
   ·have hge:(n:Int)≤j:=by omega
    have hin:i<n:=by omega
    have hjn':j=n:=by omega
    subst hjn'
    have HL:Hid (i=(B8 p xs).length):=by have h1:=congrArg List.length HT;rw[List.length_take,List.take_of_length_le (by have:=HX.out;omega)] at h1;show _=_;omega
    have HT2:Hid ((Y.map B9).take i=(B8 p xs).map B9):=by show _=_;rw[←List.map_take,HT.out,List.take_of_length_le (by have:=HX.out;omega)]
    obtain⟨Z,hZ⟩:∃Z,Z=(Builtin.zeroCells (Value.cells (.int .i64 0)) (j-i)).toList:=⟨_,rfl⟩
    have hZl:Z.length=(j-i)*1:=by rw[hZ,Array.length_toList,size_zeroCells];rfl
    have hZ1:∀u∈Z,u.oneCell'=true:=by
     rw[hZ];intro u hu;simp only[Builtin.zeroCells,Array.toList_map,List.mem_map] at hu;obtain⟨k,_,rfl⟩:=hu;have hall:∀q,q<1→((Value.cells (.int .i64 0))[q]!).oneCell'=true:=by decide
     exact hall _ (Nat.mod_lt _ (by decide))
    have OS:Hid ((wr.setCells g i Z).ownsRow B 3 1 (.slice (some ⟨g,0,none⟩) i cap) i ((B8 p xs).map B9)):=by have:=DZ HO.out i j (by omega) (Nat.le_refl _) Z hZl;rw[List.drop_of_length_le (by rw[List.length_map];omega),Nat.sub_self,Nat.add_zero,List.append_nil,Nat.mul_one,HT2.out] at this;exact this
    have FS:Hid (Fr (fun c _=>c≠g) w (wr.setCells g i Z)):=HF.setCells (fun _ _ hk=>hk rfl) _ _
    have hcl:∀ty,(Builtin.clear_ #[22] ty #[.slice (some ⟨g,i,none⟩) (j-i) (cap-i)]).run Tryz.prog wr=.ok (.tuple #[]) (wr.setCells g i Z):=fun ty=>by
     rw[hZ];refine vY wr _ _ ty (.int .i64 0) Tryz.underlying22 Tryz.zeroValue3 g _ _ _ (by omega) (by rw[←hZ];exact hZ1) (fun q hq=>?_) (fun q hq=>?_)
     ·rw[←hZ,hZl] at hq;exact(j0 HO.out _ (by omega)).2.1
     ·rw[←hZ,hZl] at hq;exact(j0 HO.out _ (by omega)).2.2
    have hic:i≤cap:=by omega
    have hjc:j≤cap:=by omega
    clear hZ hZl hZ1;go_wp2;go_ret;refine⟨⟨i,rfl,HL,?_⟩,FS⟩;show World.ownsRow _ _ _ _ _ _ _;rw[←HL.out];exact OS
theorem kLT {p q:Prop} (k:q) (h:q→p:=by
 have e2:T.length+ys.length=N:=by rw[←hN.out,←hR.out,List.length_append]
 intro kk0;revert e2;exact kk0):p:=h k
theorem info_msg:(Tryz.prog.info? 32).map (fun i=>(i.zero,i.size,i.bytes))=some (some (.agg #[.int .i64 0,.int .i64 0,.int .i64 0,.int .u64 0,.int .u64 0,.int .u64 0,.int .u64 0,.bool false,.slice none 0 0,.slice none 0 0]),10,112):=by kernel_rfl
theorem yj {w:World} {b:Nat} {m:MV} (h:w.heap[b]? = some (.cells #[.int .i64 m.kind,.int .i64 m.src,.int .i64 m.dst,d8 m.tm,d8 m.index,d8 m.prev,d8 m.commit,.bool m.ok,.slice m.da m.d.length m.dc,.slice m.ea m.es.length m.ec] 32 (0,0))):RowsAt (fun c _=>c=b) w (.slice (some ⟨b,0,none⟩) 1 1) 10 encM [m]:=by
 refine⟨_,1,rfl,by simp,.inr ⟨b,0,_,rfl,h,rfl,fun i hi j u hu=>?_⟩⟩;obtain rfl:i=0:=by simpa using hi
 rw[Nat.zero_mul,Nat.add_zero,Nat.zero_add];refine bQ h ?_;rw[←hu];unfold encM;simp
theorem c_ {w:World} {B B':Nat} {e:TypeId} {s:Nat} {v:Value} {n:Nat} {xs:List Value} (h:w.ownsRow B e s v n xs) (hb:∀c,v.ownBlock=some c→B'≤c):w.ownsRow B' e s v n xs:=by
 refine⟨h.1,?_⟩;rcases h.2 with q | ⟨g,cap,cur,e,_,r⟩
 ·exact .inl q
 ·exact .inr ⟨g,cap,cur,e,hb g (by rw[e];rfl),r⟩
theorem getD_get {α:Type} {l:List α} {i:Nat} (h:i<l.length) (d:α):l[i]=l.getD i d:=by
 rw[List.getD_eq_getElem?_getD,List.getElem?_eq_getElem h];rfl
def encI (x:Int):List Value:=[.int .i64 x]
theorem encI_len (x:Int):(encI x).length=1:=rfl
theorem encI_one (x:Int):∀u∈encI x,u.oneCell'=true:=fun u hu=>by rw[List.mem_singleton.1 hu];rfl
theorem jv:∀(xs:List Int),xs.flatMap encI=xs.map B9
 | []=>rfl
 | x :: xs=>by rw[List.flatMap_cons,jv xs];rfl
theorem lX {w:World} {b:Nat} {x:Int} (h:w.heap[b]? = some (.cells #[.int .i64 x] 3 (0,0))):RowsAt (fun c _=>c=b) w (.slice (some ⟨b,0,none⟩) 1 1) 1 encI [x]:=by
 refine⟨_,1,rfl,by simp,.inr ⟨b,0,_,rfl,h,rfl,fun i hi j u hu=>?_⟩⟩;obtain rfl:i=0:=by simpa using hi
 have hj:j=0:=by have:=(List.getElem?_eq_some_iff.1 hu).1;simp [encI] at this;omega
 subst hj;refine bQ h ?_;rw[←hu];rfl
theorem nJ {α:Type} {enc:α→List Value} {P:Program} {K0:Nat→Obj→Prop} {o:Oper} {a:Act} {K:Act→World→Prop} {Q:Exit→Act→World→Prop} (W:World) (s x:Operand) (t e:TypeId)
 (ho:o.op=.call { callee:=.builtin .append,args:=#[s,x],argTypes:=#[t,t] }) (B:Nat) (hB:B≤W.heap.size) (i:TypeInfo) (z:Value) (size bytes:Nat) (ht:P.underlying t=some (.slice e)) (hi:P.info? e=some i) (hz:i.zero=some z)
 (hsize:i.size=size) (hby:i.bytes=bytes) (hzs:z.cells.size=size) (hsz:0<size) (hb32:bytes≤128) (hk:∀x,(enc x).length=size) (h1:∀x,∀u∈enc x,u.oneCell'=true)
 (v:Value) (n:Nat) (T:List α) (hs:a.eval s=v) (hown:W.ownsRow B e size v n (T.flatMap enc)) (vx:Value) (ys:List α) (hx:a.eval x=vx) (hvx:RowsAt K0 W vx size enc ys)
 (R:List α) (hR:T++ys=R) (N:Nat) (hN:n+ys.length=N) (hn:N≤1000000)
 (h:∀g c w',w'.ownsRow B e size (.slice g N c) N (R.flatMap enc)→W.grownBy w' v.ownBlock→OwnNext W v (.slice g N c)→K (a.put o.dst (.slice g N c)) w'):o.wp P a W K Q:=by
 subst hR hN
 have hcont:∀v' w',w'.ownsRow B e size v' (n+ys.length) (T.flatMap enc++ys.flatMap enc)→W.grownBy w' v.ownBlock→OwnNext W v v'→K (a.put o.dst v') w':=fun v' w' q1 q2 q3=>by exact mLO
 obtain⟨ax,cx,rfl,_⟩:=hvx.form;by_cases h0:ys.length=0
 ·exact mdb
 ·obtain⟨b,off,ob,rfl,_⟩:=hvx.spot (by omega);rcases RowsAt.src hk hsz h1 hvx with⟨he,_⟩ | ⟨ad,c,he,hl,hc,ho1⟩
  ·cases he
  ·cases he;have hbb:(n+ys.length)*bytes≤1000000*128:=Nat.mul_le_mul hn hb32;exact m2h
theorem ck {K0:Nat→Obj→Prop} {o:Oper} {a:Act} {K:Act→World→Prop} {Q:Exit→Act→World→Prop} (W0 W:World) (hF:Hid (FT W0 W)) (s x:Operand)
 (ho:o.op=.call { callee:=.builtin .append,args:=#[s,x],argTypes:=#[24,24] }) (v:Value) (T:List EV) (hs:a.eval s=v) (hown:Hid (W.ownsRow W0.heap.size 85 3 v T.length (T.flatMap encE)))
 (vx:Value) (ys:List EV) (hx:a.eval x=vx) (hvx:Hid (RowsAt K0 W vx 3 encE ys)) (R:List EV) (hR:Hid (T++ys=R)) (N:Nat) (hN:Hid (R.length=N)) (hn:N≤1000000)
 (h:∀g c w',Hid (w'.ownsRow W0.heap.size 85 3 (.slice g N c) N (R.flatMap encE))→Hid (FT W0 w')→Hid (Fr (fun b _=>v.ownBlock≠some b) W w')→Hid (OwnNext W v (.slice g N c))→K (a.put o.dst (.slice g N c)) w'):o.wp Tryz.prog a W K Q:=by
 obtain⟨i0,hi,hz0,hz1,hz2⟩:=info_parts pj;refine kLT ?_;intro e2;exact gV W s x 24 85 ho W0.heap.size hF.size i0 _ 3 40 Tryz.underlying24 hi hz0 hz1 hz2 jk (by decide) (by decide) encE_len qJ v T.length T hs hown vx ys hx hvx R hR N e2 hn fun g c w' h1 h2 h3=>h g c w' h1 (hF.grown_new h2 (d_ hown)) (.of_grown h2 fun k o e _ hk=>hk e) h3
theorem cV {K0:Nat→Obj→Prop} {ops:Array Oper} {rest:List Oper} {o:Oper} {a:Act} {Q:Exit→Act→World→Prop} (W0 W:World) (hF:Hid (FT W0 W)) (hgd:o.guard=none) (s x:Operand)
 (ho:o.op=.call { callee:=.builtin .append,args:=#[s,x],argTypes:=#[24,24] }) (v:Value) (T:List EV) (hs:a.eval s=v) (hown:Hid (W.ownsRow W0.heap.size 85 3 v T.length (T.flatMap encE)))
 (vx:Value) (ys:List EV) (hx:a.eval x=vx) (hvx:Hid (RowsAt K0 W vx 3 encE ys)) (R:List EV) (hR:Hid (T++ys=R)) (N:Nat) (hN:Hid (R.length=N)) (hn:N≤1000000)
 (h:∀g c w',Hid (w'.ownsRow W0.heap.size 85 3 (.slice g N c) N (R.flatMap encE))→Hid (FT W0 w')→Hid (Fr (fun b _=>v.ownBlock≠some b) W w')→Hid (OwnNext W v (.slice g N c))→wpList Tryz.prog ops Q rest (a.put o.dst (.slice g N c)) w'):
 wpList Tryz.prog ops Q (o :: rest) a W:=
 wpList_plain hgd fun _ hK=>ck W0 W hF s x ho v T hs hown vx ys hx hvx R hR N hN hn fun g c w' h1 h2 h3 h4=>hK _ _ (h g c w' h1 h2 h3 h4)
theorem fq {K0:Nat→Obj→Prop} {o:Oper} {a:Act} {K:Act→World→Prop} {Q:Exit→Act→World→Prop} (W0 W:World) (hF:Hid (FT W0 W)) (s x:Operand)
 (ho:o.op=.call { callee:=.builtin .append,args:=#[s,x],argTypes:=#[39,39] }) (v:Value) (T:List MV) (hs:a.eval s=v) (hown:Hid (W.ownsRow W0.heap.size 32 10 v T.length (T.flatMap encM)))
 (vx:Value) (ys:List MV) (hx:a.eval x=vx) (hvx:Hid (RowsAt K0 W vx 10 encM ys)) (R:List MV) (hR:Hid (T++ys=R)) (N:Nat) (hN:Hid (R.length=N)) (hn:N≤1000000)
 (h:∀g c w',Hid (w'.ownsRow W0.heap.size 32 10 (.slice g N c) N (R.flatMap encM))→Hid (FT W0 w')→Hid (Fr (fun b _=>v.ownBlock≠some b) W w')→Hid (OwnNext W v (.slice g N c))→K (a.put o.dst (.slice g N c)) w'):o.wp Tryz.prog a W K Q:=by
 obtain⟨i0,hi,hz0,hz1,hz2⟩:=info_parts info_msg;refine kLT ?_;intro e2;exact nJ W s x 39 32 ho W0.heap.size hF.size i0 _ 10 112 Tryz.underlying39 hi hz0 hz1 hz2 (by decide) (by decide) (by decide) Hq encM_one v T.length T hs hown vx ys hx hvx R hR N e2 hn fun g c w' h1 h2 h3=>h g c w' h1 (hF.grown_new h2 (d_ hown)) (.of_grown h2 fun k o e _ hk=>hk e) h3
theorem dx {K0:Nat→Obj→Prop} {ops:Array Oper} {rest:List Oper} {o:Oper} {a:Act} {Q:Exit→Act→World→Prop} (W0 W:World) (hF:Hid (FT W0 W)) (hgd:o.guard=none) (s x:Operand)
 (ho:o.op=.call { callee:=.builtin .append,args:=#[s,x],argTypes:=#[39,39] }) (v:Value) (T:List MV) (hs:a.eval s=v) (hown:Hid (W.ownsRow W0.heap.size 32 10 v T.length (T.flatMap encM)))
 (vx:Value) (ys:List MV) (hx:a.eval x=vx) (hvx:Hid (RowsAt K0 W vx 10 encM ys)) (R:List MV) (hR:Hid (T++ys=R)) (N:Nat) (hN:Hid (R.length=N)) (hn:N≤1000000)
 (h:∀g c w',Hid (w'.ownsRow W0.heap.size 32 10 (.slice g N c) N (R.flatMap encM))→Hid (FT W0 w')→Hid (Fr (fun b _=>v.ownBlock≠some b) W w')→Hid (OwnNext W v (.slice g N c))→wpList Tryz.prog ops Q rest (a.put o.dst (.slice g N c)) w'):
 wpList Tryz.prog ops Q (o :: rest) a W:=
 wpList_plain hgd fun _ hK=>fq W0 W hF s x ho v T hs hown vx ys hx hvx R hR N hN hn fun g c w' h1 h2 h3 h4=>hK _ _ (h g c w' h1 h2 h3 h4)
theorem fj {K0:Nat→Obj→Prop} {o:Oper} {a:Act} {K:Act→World→Prop} {Q:Exit→Act→World→Prop} (W0 W:World) (hF:Hid (FT W0 W)) (s x:Operand)
 (ho:o.op=.call { callee:=.builtin .append,args:=#[s,x],argTypes:=#[22,22] }) (v:Value) (T:List Int) (hs:a.eval s=v) (hown:Hid (W.ownsRow W0.heap.size 3 1 v T.length (T.flatMap encI)))
 (vx:Value) (ys:List Int) (hx:a.eval x=vx) (hvx:Hid (RowsAt K0 W vx 1 encI ys)) (R:List Int) (hR:Hid (T++ys=R)) (N:Nat) (hN:Hid (R.length=N)) (hn:N≤1000000)
 (h:∀g c w',Hid (w'.ownsRow W0.heap.size 3 1 (.slice g N c) N (R.flatMap encI))→Hid (FT W0 w')→Hid (Fr (fun b _=>v.ownBlock≠some b) W w')→Hid (OwnNext W v (.slice g N c))→K (a.put o.dst (.slice g N c)) w'):o.wp Tryz.prog a W K Q:=by
 obtain⟨i0,hi,hz0,hz1,hz2⟩:=info_parts wZ;refine kLT ?_;intro e2;exact gV W s x 22 3 ho W0.heap.size hF.size i0 _ 1 8 Tryz.underlying22 hi hz0 hz1 hz2 rfl (by decide) (by decide) encI_len encI_one v T.length T hs hown vx ys hx hvx R hR N e2 hn fun g c w' h1 h2 h3=>h g c w' h1 (hF.grown_new h2 (d_ hown)) (.of_grown h2 fun k o e _ hk=>hk e) h3
theorem gz {K0:Nat→Obj→Prop} {ops:Array Oper} {rest:List Oper} {o:Oper} {a:Act} {Q:Exit→Act→World→Prop} (W0 W:World) (hF:Hid (FT W0 W)) (hgd:o.guard=none) (s x:Operand)
 (ho:o.op=.call { callee:=.builtin .append,args:=#[s,x],argTypes:=#[22,22] }) (v:Value) (T:List Int) (hs:a.eval s=v) (hown:Hid (W.ownsRow W0.heap.size 3 1 v T.length (T.flatMap encI)))
 (vx:Value) (ys:List Int) (hx:a.eval x=vx) (hvx:Hid (RowsAt K0 W vx 1 encI ys)) (R:List Int) (hR:Hid (T++ys=R)) (N:Nat) (hN:Hid (R.length=N)) (hn:N≤1000000)
 (h:∀g c w',Hid (w'.ownsRow W0.heap.size 3 1 (.slice g N c) N (R.flatMap encI))→Hid (FT W0 w')→Hid (Fr (fun b _=>v.ownBlock≠some b) W w')→Hid (OwnNext W v (.slice g N c))→wpList Tryz.prog ops Q rest (a.put o.dst (.slice g N c)) w'):
 wpList Tryz.prog ops Q (o :: rest) a W:=
 wpList_plain hgd fun _ hK=>fj W0 W hF s x ho v T hs hown vx ys hx hvx R hR N hN hn fun g c w' h1 h2 h3 h4=>hK _ _ (h g c w' h1 h2 h3 h4)
end Go.Proofs.YtmjccpfchhnfhaaGreat
