/- Texts of the proofs, part 51: what the functions that they reach do, walked; no conditions beyond those that each states. -/
import Derived.OpenShut
import Derived.Test.YtmjccpfchhnfhaaGreatZke7243ac8ae
import Derived.Test.YtmjccpfchhnfhaaGreatZk5da37aa578
set_option linter.unusedVariables false
set_option linter.unusedSimpArgs false
set_option maxRecDepth 100000
set_option maxHeartbeats 8000000
namespace Go.Proofs.YtmjccpfchhnfhaaGreat
open Go.RowKit
theorem RowsAt.ints {K:Nat→Obj→Prop} {w:World} {a:Option Addr} {c:Nat} {zs:List Int} (h:RowsAt K w (.slice a zs.length c) 1 (fun x=>[.int .i64 x]) zs):IntsAt K w (.slice a zs.length c) zs:=by
 obtain⟨a',c',e,hcc,h1⟩:=h;cases e;refine⟨a,c,rfl,?_⟩;rcases h1 with h1 | ⟨b,off,o,ha,ho,hk,hc⟩
 ·exact .inl h1
 ·refine .inr ⟨b,off,o,ha,ho,hk,fun i hi=>?_⟩;have:=hc i hi 0 _ rfl
  rwa [Nat.mul_one,Nat.add_zero] at this
namespace Lg
end Lg
namespace Nd
end Nd

theorem L3 {P:Program} {c:Code} {Q:Exit→Act→World→Prop} {a:Act} {w:World} (h:∀a0,a=a0→Code.wp P c Q a0 w):Code.wp P c Q a w:=h a rfl
theorem PNs.frK2 [Old] {X P:Nat→Prop} {w w':World} {b:Nat} {n:Nd} {q:NV} (h:PNs X P w b n q) {K:Nat→Obj→Prop} (hf:Fr K w w') (hk:∀c o,w.heap[c]? = some o→P c∨RO X c o→K c o):PNs X P w' b n q:=by
 exact mgm
structure RSt [Old] (X P:Nat→Prop) (w:World) (rb rd b d ap:Nat) (n:Nd) (q:NV) (m:MV) (g9:Nat):Prop where
 hp:PNs X P w b n q
 rb':RB w rb b ap
 rd':∃a',RD w rd d a'
 nb:¬P rb
 dp:¬P d
 dr:¬P rd
 ne:rd≠d
 bd:rb≠d
 br:rb≠rd
 hm:MsAt X w m
 t9:w.heap[g9]? = some (.cells (cM m) 32 (0,0))
 h9:¬X g9
 n9:g9≠rd
 od:∀c,Old.o c→c<w.heap.size
 or:¬Old.o rd
 xd:X d
 dlt:d<w.heap.size
section
variable {X P:Nat→Prop} {w w':World} {rb rd b d ap:Nat} {n:Nd} {q:NV} {m:MV} {g9:Nat}
theorem RSt.ro [Old] (h:RSt X P w rb rd b d ap n q m g9):∀c o,w.heap[c]? = some o→RO X c o→c≠d∧c≠rd:=fun c o ho hr=>⟨fun e=>hr.1 (e▸h.xd),fun e=>by
 obtain⟨a',ha⟩:=h.rd';unfold RD at ha;rw[e,ha] at ho;cases ho;exact(e▸hr).ne h.or rfl (by decide)⟩
theorem RSt.go [Old] (h:RSt X P w rb rd b d ap n q m g9) {a1:Nat} (hr:RD w' rd d a1) (f:Fr (fun c _=>c≠d∧c≠rd) w w'):RSt X P w' rb rd b d ap n q m g9:=
 ⟨h.hp.frK2 f fun c o ho hc=>hc.elim (fun k=>⟨fun e=>h.dp (e▸k),fun e=>h.dr (e▸k)⟩) (h.ro c o ho),h.rb'.fr f fun _=>⟨h.bd,h.br⟩,⟨a1,hr⟩,h.nb,h.dp,h.dr,h.ne,h.bd,h.br,h.hm.keep f h.ro,f.keep _ _ h.t9 ⟨fun e=>h.h9 (e▸h.xd),h.n9⟩,h.h9,h.n9,fun c hc=>Nat.lt_of_lt_of_le (h.od c hc) f.size,h.or,h.xd,Nat.lt_of_lt_of_le h.dlt f.size⟩
theorem RSt.fin [Old] (h:RSt X P w rb rd b d ap n q m g9) {w2:World} (f:Fr (fun c _=>c≠d∧c≠rd) w w') (g:Fr (fun c _=>¬X c∧c≠rd) w' w2):Fr (fun c _=>¬X c∧c≠rd) w w2:=(f.mono fun c _ k=>⟨fun e=>k.1 (e▸h.xd),k.2⟩).trans g
end
theorem kAF {p q:Prop} (k:q) (h:q→p:=by
 have TAIL:=zH hQ;have G2:=zH ZM.g;have D2:=zH ZM.dc;have HST:=zH ZM.st;have HS:=zH (And.intro trivial (And.intro ZM.gj ZM.sf));have HS':=zH ZM.nx;have HN:Hid (l.length=many):=ZM.ln;have HI:Hid (i<l.length):=by have:=ZM.il;have:=ZM.ln;show i<l.length;omega
 have KB:Hid (16+3*k≤1000):=by have:=ZM.kb;show _≤_;omega
 intro kk0;revert KB;revert HI;revert HN;revert HS';revert HS;revert HST;revert D2;revert G2;revert TAIL;exact kk0):p:=h k
theorem kPr {p q:Prop} (k:q) (h:q→p:=by
 have HDD:Hid (D.getD i (0,0)=dd):=hdd;obtain⟨q,hq⟩:=G2.out.nd x hxl;have hdn:=D2.out.dn i HI.out;have hrd:=D2.out.dr i HI.out;intro kk0;revert hrd;revert hdn;revert hq;revert q;revert HDD;exact kk0):p:=h k
theorem kmr {p q:Prop} (k:q) (h:q→p:=by
 have hrb:=G2.out.rb x hxl;have hdm:dd∈D:=HDD.out▸mJ (by rw[D2.out.dl];exact HI.out);have HB:Hid (Bn 4611686018427387904 x.n∧x.n.log.es.length≤1000∧x.n.yes.length≤1000):=⟨GW.out.bn.mono (by have:=KB.out;omega),by have:=GW.out.es;have:=KB.out;omega,by have:=GW.out.ye;have:=KB.out;omega⟩
 have HQ:=zH hq;have HDQ:=zH hdq;have HRD:=zH hrd;have HRB:=zH hrb;have HNP:Hid (¬x.P dd.2∧¬x.P dd.1∧¬x.P x.rb∧X dd.2∧¬X dd.1):=⟨D2.out.dp dd hdm x hxl,fun e=>(D2.out.rx dd hdm).1 (hq.px _ e),fun e=>hrb.2.1 (hq.px _ e),hdq.xb,(D2.out.rx dd hdm).1⟩
 have HXL:Hid (∀c,X c→B≤c):=G2.out.lx;have HBD:Hid (B≤dd.1∧B≤x.rb):=⟨(D2.out.rx dd hdm).2,hrb.2.2⟩
 have CELLS:Hid (∀W,Fr (fun _ _=>True) w2 W→True∧True∧True∧True∧W.cell? ⟨dd.1,0,none⟩=some (.pointer (some ⟨dd.2,0,none⟩))):=fun W f=>⟨trivial,trivial,trivial,trivial,bQ (f.keep _ _ hrd trivial) rfl⟩
 obtain⟨y0,y2,y3,y4,y5⟩:=CELLS.out w2 (Fr.refl _ _);intro kk0;revert y5;revert y4;revert y3;revert y2;revert y0;revert CELLS;revert HBD;revert HXL;revert HNP;revert HRB;revert HRD;revert HDQ;revert HQ;revert HB;revert hdm;revert hrb;exact kk0):p:=h k
theorem mH4 {p:Prop} (h:p:=by
 have:=ZM.gj.gi.ln;rw[←ZM.st] at this;have e:(St l ms tk 0).ms.length=ms.length:=List.length_map _;show _≤_;omega):p:=h
theorem mJh {p:Prop} (h:p:=by
 have:=hx;rw[List.getElem?_eq_getElem HI.out] at this;exact Option.some.inj this):p:=h
theorem mNg {p:Prop} (h:p:=by
 have:=HS.out.2.1.nd (i:=i) (by rw[HS.out.2.2.ids.1,←HN.out];exact HI.out);rw[NX.out.1] at this;exact this):p:=h
theorem ml6 {p:Prop} (h:p:=by
 rw[HX.out,HDD.out] at h;exact h):p:=h
theorem mzN {p:Prop} (h:p:=by
 rw[←HST.out];refine⟨?_,?_⟩
 ·show (l.map (·.n)).getD i default=x.n;rw[List.getD_eq_getElem?_getD,List.getElem?_map,hx];rfl
 ·show (l.map (·.ap)).getD i 0=x.ap;rw[List.getD_eq_getElem?_getD,List.getElem?_map,hx];rfl):p:=h
def Pp [Old] (B:Nat) (w:World) (G:Nat) (D:List (Nat×Nat)) (vr:Value) (s:Gs):Prop:=∃X l ms tk vn vm vt,G13 B X w G l ms tk 0 vn vm vt∧Dc B X w l D vr∧St l ms tk 0=s
theorem Dc.rcell [Old] [bj] {B:Nat} {X:Nat→Prop} {w:World} {l:List Rx} {D:List (Nat×Nat)} {vr:Value} (h:Dc B X w l D vr) (h0:0<l.length):∃gr cr,vr=.slice (some ⟨gr,0,none⟩) l.length cr∧∀W,FT w W→∀i,(hi:i<l.length)→W.cell? ⟨gr,i,none⟩=some (.pointer (some ⟨(D.getD i (0,0)).1,0,none⟩))∧W.cell? ⟨(D.getD i (0,0)).1,0,none⟩=some (.pointer (some ⟨(D.getD i (0,0)).2,0,none⟩)):=by
 rcases h.row.2 with⟨_,e⟩ | ⟨g,cap,cur,e,r⟩
 ·rw[h.dl] at e;omega
 ·refine⟨g,cap,by rw[←h.dl];exact e,fun W f i hi=>?_⟩;have hr:=bK h.row f fun _ _ _ _=>trivial
  rw[e] at hr;have hD:i<D.length:=by rw[h.dl];exact hi
  have:=gv hr i (by rw[List.length_map];exact hD);rw[List.getElem_map] at this;have e1:D.getD i (0,0)=D[i]:=by rw[List.getD_eq_getElem?_getD,List.getElem?_eq_getElem hD];rfl
  exact⟨by rw[e1];exact this,bQ (f.keep _ _ (h.dr i hi) trivial) rfl⟩
structure Tl [Old] (B:Nat) (w:World) (G:Nat) (D:List (Nat×Nat)) (vr:Value) (s':Gs) (rb rd:Nat) (v v2:Value) (X:Nat→Prop) (l:List Rx) (ms:List MV) (tk:List (Value×Nat)) (vn vm vt:Value) (b d ap:Nat) (n:Nd) (P:Nat→Prop) (q:NV) (q2:DV) (mvs mvs2:List MV) (B1 B2:Nat):Prop where
 g:G13 B X w G l ms tk 0 vn vm vt
 dc:Dc B X w l D vr
 rb':RB w rb b ap
 rd':RD w rd d ap
 pn:PNs X P w b n q
 dn:DNs X w d n q2
 o1:OwnMs X B1 w v mvs
 o2:OwnMs X B2 w v2 mvs2
 e:mvs.map MV.ms=mvs2.map MV.ms
 e8:Es8 (mvs.map MV.ms)
 ed:Dat (mvs.map MV.ms)
 len:mvs.length≤1000
 ml:ms.length≤5000
 st:(St l ms tk 0).send (mvs.map MV.ms)=s'
 ye:n.yes.length≤100000
 cf:n.conf.length≤1000
 es:n.log.es.length≤100000
def TlE [Old] (B:Nat) (w:World) (G:Nat) (D:List (Nat×Nat)) (vr:Value) (s':Gs) (rb rd:Nat) (v v2:Value):Prop:=∃X l ms tk vn vm vt b d ap n P q q2 mvs mvs2 B1 B2,Tl B w G D vr s' rb rd v v2 X l ms tk vn vm vt b d ap n P q q2 mvs mvs2 B1 B2
theorem TlE.calls [Old] [bj] {B:Nat} {w:World} {G:Nat} {D:List (Nat×Nat)} {vr:Value} {s':Gs} {rb rd:Nat} {v v2:Value} (h:TlE B w G D vr s' rb rd v v2):
 (Calls Tryz.prog 12 #[v,v2] w fun e w'=>e=.returned (.bool true)∧FT w w')∧
 (∀W,FT w W→Calls Tryz.prog 40 #[.pointer (some ⟨rb,0,none⟩),.pointer (some ⟨rd,0,none⟩)] W fun e w'=>e=.returned (.bool true)∧FT W w')∧
 (∀W,FT w W→Calls Tryz.prog 41 #[.pointer (some ⟨G,0,none⟩),v] W fun e w'=>e=.returned (.tuple #[])∧Pp B w' G D vr s'∧Fr (fun c _=>c<B) W w'):=by
 obtain⟨X,l,ms,tk,vn,vm,vt,b,d,ap,n,P,q,q2,mvs,mvs2,B1,B2,h⟩:=h;refine⟨NK w v v2 mvs mvs2 h.o1.rows h.o2.rows h.o1.at' h.o2.at' (fun x hx=>?_) h.e (by have:=h.len;omega),fun W f=>Ck (h.rb'.fr f fun _=>trivial) (h.rd'.fr f fun _=>trivial) (h.pn.tt f) (h.dn.tt f) (by have:=h.ye;unfold maxLen;omega) (by have:=h.cf;unfold maxLen;omega) (by have:=h.es;omega),fun W f=>?_⟩
 ·have hx':x.ms∈mvs.map MV.ms:=List.mem_map_of_mem hx;have k1:=h.e8 _ hx'
  have k1':x.es.length≤8:=by have:x.ms.es.length=x.es.length:=List.length_map ..;omega
  have k2:x.d=[]:=h.ed _ hx';rw[k2];exact⟨by omega,by simp⟩
 ·have g:=h.g.tt f;refine(yW g (h.o1.tt f) (by have:=h.ml;omega) (by have:=h.len;omega)).mono fun e w' ⟨h1,⟨ms',vm',h2,h3⟩,h4⟩=>⟨h1,⟨X,l,ms',tk,vn,vm',vt,h2,(h.dc.tt f).sent g h4,h3.trans h.st⟩,h4.mono fun q _ hq=>⟨fun e=>by have:=g.lg;have hq':q<B:=hq;omega,fun e=>by have:=cK g.rm.row q e;have hq':q<B:=hq;omega⟩⟩
theorem Dc.tl [Old] [bj] {B:Nat} {X X' P':Nat→Prop} {w2 w3 w4:World} {G:Nat} {l:List Rx} {ms:List MV} {tk:List (Value×Nat)} {vn vm vt vr v v2:Value} {D:List (Nat×Nat)} {s':Gs} {mvs mvs2:List MV} {B1 B2:Nat} (hd0:Dc B X w2 l D vr) (hg0:G13 B X w2 G l ms tk 0 vn vm vt) (i:Nat) (hi:i<l.length) {n':Nd} (hp:PN X' P' w3 l[i].b n') (ha:Aft X l[i].P X' P' w2 w3) (o1:OwnMs X' B1 w3 v mvs) (hdn:DN X' w4 (D.getD i (0,0)).2 n') (hf:Fr (fun c _=>c≠(D.getD i (0,0)).2) w3 w4) (o2:OwnMs X' B2 w4 v2 mvs2) (e:mvs.map MV.ms=mvs2.map MV.ms)
 (e8:Es8 (mvs.map MV.ms)) (ed:Dat (mvs.map MV.ms)) (len:mvs.length≤1000) (ml:ms.length≤5000) (st:({ St l ms tk 0 with ns:=(St l ms tk 0).ns.set i n' }:Gs).send (mvs.map MV.ms)=s') (ye:n'.yes.length≤100000) (cf:n'.conf.length≤1000) (es:n'.log.es.length≤100000):TlE B w4 G D vr s' l[i].rb (D.getD i (0,0)).1 v v2:=by
 obtain⟨g4,d4⟩:=hd0.turn hg0 i hi hp ha hdn hf;obtain⟨q2,hq2⟩:=hdn;have hl:i<(l.set i ⟨l[i].b,l[i].rb,n',l[i].ap,P'⟩).length:=by rw[List.length_set];exact hi
 have ex:(l.set i ⟨l[i].b,l[i].rb,n',l[i].ap,P'⟩)[i]=⟨l[i].b,l[i].rb,n',l[i].ap,P'⟩:=List.getElem_set_self _;obtain⟨q,hq⟩:=g4.nd _ (List.getElem_mem hl);have hr:=(g4.rb _ (List.getElem_mem hl)).1;have hrd:=d4.dr i hl;rw[ex] at hq hr hrd;have a5:Aft X' (·=(D.getD i (0,0)).2) X' (·=(D.getD i (0,0)).2) w3 w4:=.of (hf.mono fun c _ hc e=>hc e) (fun c e=>e▸hq2.xb);exact⟨X',_,ms,tk,vn,vm,vt,_,_,_,n',P',q,q2,mvs,mvs2,B1,B2,g4,d4,hr,hrd,hq,hq2,o1.aft a5,o2,e,e8,ed,len,ml,by rw[Fx hi];exact st,ye,cf,es⟩
theorem G13.offD [Old] [bj] {B:Nat} {X:Nat→Prop} {w w':World} {G:Nat} {l:List Rx} {ms:List MV} {tk:List (Value×Nat)} {many:Int} {vn vm vt:Value} (h:G13 B X w G l ms tk many vn vm vt) {rd d ap:Nat} (hr:RD w rd d ap) (hx:¬X rd) (f:Fr (fun k _=>k≠rd) w w'):G13 B X w' G l ms tk many vn vm vt:=by
 have og:=dq hr (by decide) hx;have rw':∀{e:TypeId} {s:Nat} {u:Value} {n:Nat} {xs:List Value},w.ownsRow B e s u n xs→e≠78→w'.ownsRow B e s u n xs:=fun hu h1=>bK hu f fun k o e ho hk=>cX hu hr h1 (hk▸e)
 exact⟨f.keep _ _ h.top (fun e=>by have h1:=hr;unfold RD at h1;rw[←e,h.top] at h1;cases h1),h.lg,h.lx,h.gx,rw' h.rn (by decide),h.xn,⟨rw' h.rm.row (by decide),h.rm.off,fun m hm=>(h.rm.at' m hm).keep f fun c o ho hr=>og c o ho (.inr hr)⟩,rw' h.rt (by decide),h.xt,h.tl,fun x hx=>by obtain⟨⟨xs,h1⟩,h2⟩:=h.ts x hx;exact⟨⟨xs,rw' h1 (by decide)⟩,h2⟩,h.td,fun x hx=>(h.nd x hx).keep f og,h.dj,fun x hx=>⟨f.keep _ _ (h.rb x hx).1 (fun e=>by have h1:=hr;have h2:=(h.rb x hx).1;unfold RD at h1;unfold RB at h2;rw[←e,h2] at h1;exact absurd (Obj.cells.inj (Option.some.inj h1)).2.1 (by decide)),(h.rb x hx).2⟩,h.rd,fun k hk=>Nat.lt_of_lt_of_le (h.hx k hk) f.size⟩
theorem Dc.tlA [Old] [bj] {B:Nat} {X:Nat→Prop} {w2 w3 w4:World} {G:Nat} {l:List Rx} {ms:List MV} {tk:List (Value×Nat)} {vn vm vt vr:Value} {D:List (Nat×Nat)} {s':Gs} (hd0:Dc B X w2 l D vr) (hg0:G13 B X w2 G l ms tk 0 vn vm vt) (i:Nat) (hi:i<l.length) {ap':Nat} (f1:Fr (fun k _=>k≠l[i].rb) w2 w3) (t1:RB w3 l[i].rb l[i].b ap') (f2:Fr (fun k _=>k≠(D.getD i (0,0)).1) w3 w4) (t2:RD w4 (D.getD i (0,0)).1 (D.getD i (0,0)).2 ap') (ml:ms.length≤5000)
 (st:({ St l ms tk 0 with aps:=(St l ms tk 0).aps.set i ap' }:Gs)=s') (ye:l[i].n.yes.length≤100000) (cf:l[i].n.conf.length≤1000) (es:l[i].n.log.es.length≤100000):TlE B w4 G D vr s' l[i].rb (D.getD i (0,0)).1 (.slice none 0 0) (.slice none 0 0):=by
 have hr0:=hg0.rb _ (List.getElem_mem hi);have d4:=hd0.apply i hi f1 hr0.1 hr0.2.1 f2 t2;have g3:=hg0.apply i hi f1 t1;have hiD:i<D.length:=by rw[hd0.dl];exact hi
 have g4:=g3.offD ((hd0.dr i hi).fr f1 fun _ e=>by have h1:=hd0.dr i hi;have h2:=hr0.1;unfold RD at h1;unfold RB at h2;rw[e,h2] at h1;exact absurd (Obj.cells.inj (Option.some.inj h1)).2.1 (by decide)) (hd0.rx _ (mJ hiD)).1 f2;have hl:i<(l.set i ⟨l[i].b,l[i].rb,l[i].n,ap',l[i].P⟩).length:=by rw[List.length_set];exact hi
 have ex:(l.set i ⟨l[i].b,l[i].rb,l[i].n,ap',l[i].P⟩)[i]=⟨l[i].b,l[i].rb,l[i].n,ap',l[i].P⟩:=List.getElem_set_self _;obtain⟨q,hq⟩:=g4.nd _ (List.getElem_mem hl);have hr:=(g4.rb _ (List.getElem_mem hl)).1;have hrd:=d4.dr i hl;obtain⟨q2,hq2⟩:=d4.dn i hl;rw[ex] at hq hr hrd hq2;refine⟨X,_,ms,tk,vn,vm,vt,_,_,_,l[i].n,l[i].P,q,q2,[],[],0,0,g4,d4,hr,hrd,hq,hq2,OwnMs.nil _ _ _,OwnMs.nil _ _ _,rfl,Es8.nil,Dat.nil,Nat.zero_le _,ml,?_,ye,cf,es⟩;show Gs.send _ []=s';rw[m9,←st];unfold St;rw[List.map_set,List.map_set];congr 1;apply List.ext_getElem?;intro j;rw[List.getElem?_set];split
 ·rename_i e;subst e;simp [hi]
 ·rfl
theorem L7 [Old] {X:Nat→Prop} {w4:World} {v1 v2:Value} {es1 es2:List EV} (h1:EsAt X w4 v1 es1) (h2:EsAt X w4 v2 es2) (e:es1.map EV.en=es2.map EV.en) {lo cnt:Nat} (hl:lo+cnt≤es1.length) {g1 g2:Option Addr} {c1 c2 B1 B2:Nat} (r1:w4.ownsRow B1 87 4 (.slice g1 cnt c1) cnt ((dK 0 es1 lo cnt).flatMap encS)) (r2:w4.ownsRow B2 88 4 (.slice g2 cnt c2) cnt ((dK 0 es2 lo cnt).flatMap encS)) (j:Nat) (hj:j<cnt):
 ∃b1 o1 b2 o2 t a1 a2 n k1 k2,g1=some ⟨b1,o1,none⟩∧g2=some ⟨b2,o2,none⟩∧∀W,FT w4 W→W.cell? ⟨b1,o1+j*4,none⟩=some (.int .u64 ((lo+1+j:Nat):Nat))∧W.cell? ⟨b1,o1+j*4+1,none⟩=some (.int .u64 (t:Nat))∧W.cell? ⟨b1,o1+j*4+3,none⟩=some (.slice a1 n k1)∧W.cell? ⟨b2,o2+j*4,none⟩=some (.int .u64 ((lo+1+j:Nat):Nat))∧W.cell? ⟨b2,o2+j*4+1,none⟩=some (.int .u64 (t:Nat))∧W.cell? ⟨b2,o2+j*4+3,none⟩=some (.slice a2 n k2)∧
  Calls Tryz.prog 39 #[.slice a1 n k1,.slice a2 n k2] W fun e w'=>e=.returned (.bool true)∧∃k,w'=W.drewN k:=by
 have R1:RowsAt (fun _ _=>True) w4 (.slice g1 cnt c1) 4 encS (dK 0 es1 lo cnt):=RowsAt.of_own encS_len (by rw[fY];exact r1) (fun _ _ _=>trivial);have R2:RowsAt (fun _ _=>True) w4 (.slice g2 cnt c2) 4 encS (dK 0 es2 lo cnt):=RowsAt.of_own encS_len (by rw[fY];exact r2) (fun _ _ _=>trivial);obtain⟨b1,o1,_,e1,_,_,k1⟩:=R1.spot (by rw[fY];omega);obtain⟨b2,o2,_,e2,_,_,k2⟩:=R2.spot (by rw[fY];omega);have hj1:j<(dK 0 es1 lo cnt).length:=by rw[fY];exact hj
 have hj2:j<(dK 0 es2 lo cnt).length:=by rw[fY];exact hj
 have ll:=congrArg List.length e;rw[List.length_map,List.length_map] at ll;have m1:lo+j<es1.length:=by omega
 have m2:lo+j<es2.length:=by omega
 have ev:∀(es:List EV) (h:lo+j<es.length),Dx 0 es (lo+1+j)=es[lo+j]:=fun es h=>by unfold Dx;rw[if_pos (by omega),show lo+1+j-0-1=lo+j by omega,List.getD_eq_getElem?_getD,List.getElem?_eq_getElem h];rfl
 have x1:(dK 0 es1 lo cnt)[j]'hj1=(lo+1+j,es1[lo+j]):=by rw[←ev es1 m1];simp [dK]
 have x2:(dK 0 es2 lo cnt)[j]'hj2=(lo+1+j,es2[lo+j]):=by rw[←ev es2 m2];simp [dK]
 have he:=List.getElem_of_eq e (i:=lo+j) (by rw[List.length_map];exact m1);rw[List.getElem_map,List.getElem_map] at he;have d1:=h1.dat _ (List.getElem_mem m1);have d2:=h2.dat _ (List.getElem_mem m2);obtain⟨y1,hy1⟩:=zE (es1[lo+j]);obtain⟨y2,hy2⟩:=zE (es2[lo+j]);rw[hy1] at x1 he d1;rw[hy2] at x2 he d2;have he1:y2.t=y1.t:=(congrArg En.t he).symm;have he2:y2.d=y1.d:=(congrArg En.d he).symm;have z1:∀i u,(encS (lo+1+j,y1))[i]? = some u→w4.cell? ⟨b1,o1+j*4+i,none⟩=some u:=fun i u h=>k1 j hj1 i u (by rw[x1];exact h)
 have z2:∀i u,(encS (lo+1+j,y2))[i]? = some u→w4.cell? ⟨b2,o2+j*4+i,none⟩=some u:=fun i u h=>k2 j hj2 i u (by rw[x2];exact h)
 refine⟨b1,o1,b2,o2,y1.t,y1.a,y2.a,y1.d.length,y1.c,y2.c,e1,e2,fun W f=>⟨f.cell (fun _ _=>trivial) (z1 0 _ rfl),f.cell (fun _ _=>trivial) (z1 1 _ rfl),f.cell (fun _ _=>trivial) (z1 3 _ rfl),f.cell (fun _ _=>trivial) (z2 0 _ rfl),f.cell (fun _ _=>trivial) (z2 1 _ (by rw[←he1];rfl)),f.cell (fun _ _=>trivial) (z2 3 _ (by rw[←he2];rfl)),?_⟩⟩;have S:=mQ W (.slice y1.a y1.d.length y1.c) (.slice y2.a y2.d.length y2.c) y1.d y2.d (d1.1.tt f) (d2.1.tt f) d1.2;rw[he2,decide_eq_true rfl] at S;exact S
theorem Nd.timeout_e8 {n:Nd}:Es8 n.timeout.2:=by
 unfold Nd.timeout;split
 ·exact Es8.nil
 ·split
  ·exact Es8.nil
  ·exact Nd.led_e8 Nd.askF_e8
theorem Gs.send_ns (s:Gs) (l:List Ms):(s.send l).ns=s.ns:=by unfold Gs.send;split <;> rfl
theorem FrW {W0 w w':World} {B:Nat} (h:FT W0 w) (k:Fr (fun c _=>c<B) w w') (hB:W0.heap.size≤B):FT W0 w':=
 ((h.tT).trans k).monoH fun i o hi _=>Nat.lt_of_lt_of_le (bX hi) hB
def kfL (fu:Nat→Value) (r:List (Nat×Value)):List (Nat×Value):=(24,fu 24) :: (25,fu 25) :: (26,fu 26) :: (27,fu 27) :: (28,fu 28) :: (29,fu 29) :: (30,fu 30) :: (31,fu 31) :: (32,fu 32) :: (33,fu 33) :: (34,fu 34) :: (35,fu 35) :: (36,fu 36) :: (37,fu 37) :: (38,fu 38) :: (39,fu 39) :: (40,fu 40) :: (41,fu 41) :: (42,fu 42) :: (43,fu 43) :: (44,fu 44) :: (45,fu 45) :: (46,fu 46) :: (47,fu 47) :: (48,fu 48) :: (49,fu 49) :: (50,fu 50) :: (51,fu 51) :: (52,fu 52) :: (53,fu 53) :: (54,fu 54) :: r
def cL:Code→Code
 | .seq a _=>a
 | c=>c
def cR:Code→Code
 | .seq _ b=>b
 | c=>c
def cBk:Code→Code
 | .block _ c=>c
 | c=>c
def cLp:Code→Code
 | .loop c=>c
 | c=>c
def plX (c:Code):Code:=cBk (cL (cR (cLp (cBk (cR (cL (fK 6 c)))))))
structure Md [Old] (B G len many k i gr cr:Nat) (X:Nat→Prop) (w2:World) (l:List Rx) (ms:List MV) (tk:List (Value×Nat)) (vn vm vt vr:Value) (D:List (Nat×Nat)) (s s':Gs):Prop where
 g:G13 B X w2 G l ms tk 0 vn vm vt
 dc:Dc B X w2 l D vr
 st:St l ms tk 0=s
 gj:GJ (16+3*k) s
 sf:kv many s
 nx:GJ (16+3*(k+1)) s'∧kv many s'
 ln:l.length=many
 il:i<many
 kb:k<len∧len≤200
theorem l_ [Old] [bj] {Q:Exit→Act→World→Prop} {B G b0 off len cap many k gr cr:Nat} {w5:World} {vr:Value} {D:List (Nat×Nat)} {s':Gs} (fu:Nat→Value) (hvr:vr=.slice (some ⟨gr,0,none⟩) many cr) {rb rd:Nat} {v v2:Value} {ec:Int} (hT:TlE B w5 G D vr s' rb rd v v2) (hQ:∀(fv:Nat→Value) (w8:World),Pp B w8 G D vr s'→Fr (fun c _=>c<B) w5 w8→Q .normal { tmps:=tU 264 fv ((0,.int .i64 (many:Nat)) :: (1,.slice (some ⟨b0,off,none⟩) len cap) :: (2,fu 2) :: (3,fu 3) :: (5,.bool true) :: (6,.pointer (some ⟨G,0,none⟩)) :: (7,.slice (some ⟨gr,0,none⟩) many cr) :: (8,fu 8) :: (9,fu 9) :: (10,fu 10) :: (11,.int .i64 (k:Nat)) :: kfL fu [(263,fu 263)]),defers:=[] } w8) (fv:Nat→Value):
 Code.wp Tryz.prog (fK 12 (plX (cW Tryz.f5.body))) Q { tmps:=tU 264 fv ((0,.int .i64 (many:Nat)) :: (1,.slice (some ⟨b0,off,none⟩) len cap) :: (2,fu 2) :: (3,fu 3) :: (5,.bool true) :: (6,.pointer (some ⟨G,0,none⟩)) :: (7,.slice (some ⟨gr,0,none⟩) many cr) :: (8,fu 8) :: (9,fu 9) :: (10,fu 10) :: (11,.int .i64 (k:Nat)) :: (14,.pointer (some ⟨rb,0,none⟩)) :: (15,.pointer (some ⟨rd,0,none⟩)) :: (16,v) :: (17,v2) :: (18,.int .i64 ec) :: (19,.int .i64 ec) :: kfL fu [(263,fu 263)]),defers:=[] } w5:=by
 obtain⟨C1,C2,C3⟩:=hT.calls;have C1:=zH C1;have C2:=zH C2;have C3:=zH C3;have HQ:=zH hQ;clear hT hQ;simp only[kfL];simp only[tU,tL,Nat.reduceAdd,Nat.reduceBEq,cond_true,cond_false];dsimp only[plX,cBk,cL,cR,cLp,fK,cW,Tryz.f5];go_wp2_with fail
 (with_reducible refine C1.out.mono ?_);rintro e w6 ⟨rfl,f6⟩;have D6:=zH (C2.out w6 f6);have E6:=zH f6;clear f6 C1 C2;go_wp2_with fail
 (with_reducible refine D6.out.mono ?_);rintro e w7 ⟨rfl,f7⟩;have D7:=zH (C3.out w7 (E6.out.trans f7));have F7:Hid (Fr (fun c _=>c<B) w5 w7):=(E6.out.trans f7).mono fun _ _ _=>trivial
 clear f7 D6 E6 C3;go_wp2_with fail
 (with_reducible refine D7.out.mono ?_);rintro e w8 ⟨rfl,p8,f8⟩;have P8:=zH p8;have F8:=zH (F7.out.trans f8);clear p8 f8 D7 F7;go_wp2_with fail
 exact L_ (K:=Q .normal) (fun fv=>HQ.out fv w8 P8.out F8.out) (by kernel_rfl)
theorem zg_d1 [Old] [bj] {Q:Exit→Act→World→Prop} {B G g0 b0 off len cap many k i gr cr:Nat} {X:Nat→Prop} {w2:World} {l:List Rx} {ms:List MV} {tk:List (Value×Nat)} {vn vm vt vr:Value} {D:List (Nat×Nat)} {s s':Gs} (fu:Nat→Value) (ZM:Md B G len many k i gr cr X w2 l ms tk vn vm vt vr D s s') {x:Rx} {dd:Nat×Nat} (hx:l[i]? = some x) (hdd:D.getD i (0,0)=dd) (hout:({ s with ns:=s.ns.set i (s.ns.getD i default).timeout.1 }:Gs).send (s.ns.getD i default).timeout.2=s') (hQ:∀(fv:Nat→Value) (w5:World) (rb rd:Nat) (v v2:Value) (ec:Int),TlE B w5 G D vr s' rb rd v v2→Fr (fun c _=>c<B) w2 w5→Q .normal { tmps:=tU 264 fv ((0,.int .i64 (many:Nat)) :: (1,.slice (some ⟨b0,off,none⟩) len cap) :: (2,fu 2) :: (3,fu 3) :: (5,.bool true) :: (6,.pointer (some ⟨G,0,none⟩)) :: (7,.slice (some ⟨gr,0,none⟩) many cr) :: (8,fu 8) :: (9,fu 9) :: (10,fu 10) :: (11,.int .i64 (k:Nat)) :: (14,.pointer (some ⟨rb,0,none⟩)) :: (15,.pointer (some ⟨rd,0,none⟩)) :: (16,v) :: (17,v2) :: (18,.int .i64 ec) :: (19,.int .i64 ec) :: kfL fu [(263,fu 263)]),defers:=[] } w5) (fw:Nat→Value):
 Code.wp Tryz.prog (cR (cBk (cR (cL (fK 11 (plX (cW Tryz.f5.body))))))) Q { tmps:=tU 264 fw ((0,.int .i64 (many:Nat)) :: (1,.slice (some ⟨b0,off,none⟩) len cap) :: (2,fu 2) :: (3,fu 3) :: (5,.bool true) :: (6,.pointer (some ⟨G,0,none⟩)) :: (7,.slice (some ⟨gr,0,none⟩) many cr) :: (8,fu 8) :: (9,fu 9) :: (10,fu 10) :: (11,.int .i64 (k:Nat)) :: (12,.pointer (some ⟨g0,0,none⟩)) :: (14,.pointer (some ⟨x.rb,0,none⟩)) :: (15,.pointer (some ⟨dd.1,0,none⟩)) :: (16,.slice none 0 0) :: (17,.slice none 0 0) :: (18,.int .i64 0) :: (19,.int .i64 0) :: kfL fu [(127,.int .i64 1),(128,.bool true),(263,fu 263)]),defers:=[] } w2:=by
 refine kAF ?_;intro TAIL G2 D2 HST HS HS' HN HI KB
 have HML:Hid (ms.length≤5000):=by exact mH4
 have F2:Hid (Fr (fun _ _=>True) w2 w2):=Fr.refl _ _;clear hQ ZM
 have NX:Hid (s.ns.getD i default=x.n∧s.aps.getD i 0=x.ap):=by exact mzN
 have HX:Hid (l[i]'HI.out=x):=by exact mJh
 have hxl:x∈l:=HX.out▸List.getElem_mem HI.out
 have GW:Hid (Gw (16+3*k) (16+3*k) x.n):=by exact mNg
 refine kPr ?_;intro HDD q hq hdn hrd;rw[HDD.out,HX.out] at hdn hrd;obtain⟨q2,hdq⟩:=hdn;refine kmr ?_;intro hrb hdm HB HQ HDQ HRD HRB HNP HXL HBD CELLS y0 y2 y3 y4 y5;clear hq hdq hrd hrb hdm hx hdd
 have OUT:Hid (({ s with ns:=s.ns.set i x.n.timeout.1 }:Gs).send x.n.timeout.2=s'):=by show _=s';rw[←hout,NX.out.1]
 obtain⟨mN,hme,hm16⟩:=GW.out.me;have TC:=zH (j8 HQ.out HRB.out.1 HNP.out.2.2.1 (fun c hc=>absurd hc (bj.no c)) GW.out.cf mN hme hm16 HB.out.1 (by have:=HB.out.2.1;omega))
 have DC:Hid (∀X' P' w3 q',PNs X' P' w3 x.b x.n.timeout.1 q'→Aft X x.P X' P' w2 w3→Calls Tryz.prog 32 #[.pointer (some ⟨dd.1,0,none⟩)] w3 fun e w'=>gQ X' w3 dd.2 x.n.timeout e w'):=fun X' P' w3 q' p a=>
  ry (HDQ.out.far a HNP.out.1 p.hx) (HRD.out.fr a.fr fun _=>HNP.out.2.1) (fun c hc=>absurd hc (bj.no c)) GW.out.cf mN hme hm16 HB.out.1 (by have:=HB.out.2.1;omega)
 have ND:Hid (Es8 x.n.timeout.2∧Dat x.n.timeout.2∧x.n.timeout.2.length≤1000∧x.n.timeout.1.yes.length≤100000∧x.n.timeout.1.conf.length≤1000∧x.n.timeout.1.log.es.length≤100000):=by have g:=Nd.timeout_gw (GW.out.gd (Nat.le_refl _));have kb:=KB.out;have l:=Nd.timeout_len x.n;have c:=GW.out.cf.2;refine⟨Nd.timeout_e8,g.2.2,by omega,by have:=g.1.ye;omega,by rw[Nd.timeout_conf];omega,by have:=g.1.es;omega⟩
 clear hme hm16 HS CELLS hout;simp only[kfL];simp only[tU,tL,Nat.reduceAdd,Nat.reduceBEq,cond_true,cond_false];dsimp only[plX,cBk,cL,cR,cLp,fK,cW,Tryz.f5];go_wp2_with fail
 (with_reducible refine TC.out.mono ?_);rintro e w3 ⟨X3,P3,q3,v,mvs,rfl,p3,a3,o3,e3⟩;have HH:=zH (And.intro p3 (And.intro a3 (And.intro o3 e3)));have C2:=zH (DC.out X3 P3 w3 q3 p3 a3);clear p3 a3 o3 e3 TC DC;go_wp2_with fail
 (with_reducible refine C2.out.mono ?_);rintro e w4 ⟨q4,v2,mvs2,rfl,d4,f4,o4,e4⟩
 have TLE:Hid (TlE B w4 G D vr s' x.rb dd.1 v v2):=by have h:=D2.out.tl (n':=x.n.timeout.1) (s':=s') G2.out i HI.out (by rw[HX.out];exact⟨q3,HH.out.1⟩) (by rw[HX.out];exact HH.out.2.1) HH.out.2.2.1 (by rw[HDD.out];exact⟨q4,d4⟩) (by rw[HDD.out];exact f4) o4 (HH.out.2.2.2.trans e4.symm) (by rw[HH.out.2.2.2];exact ND.out.1) (by rw[HH.out.2.2.2];exact ND.out.2.1) (by have:=congrArg List.length HH.out.2.2.2;rw[List.length_map] at this;have:=ND.out.2.2.1;omega) HML.out (by rw[HH.out.2.2.2,HST.out];exact OUT.out) ND.out.2.2.2.1 ND.out.2.2.2.2.1 ND.out.2.2.2.2.2;exact ml6
 have F4:Hid (Fr (fun c _=>c<B) w2 w4):=((F2.out.mono fun _ _ _=>trivial).trans (HH.out.2.1.fr.mono fun c _ hc k=>by have:=HXL.out c (HH.out.2.1.hp c k);omega)).trans (f4.mono fun c _ hc e=>by have:=HXL.out _ HNP.out.2.2.2.1;omega);clear d4 f4 o4 e4 C2 HH;go_wp2_with fail
 exact L_ (K:=Q .normal) (fun fv=>TAIL.out fv w4 x.rb dd.1 v v2 0 TLE.out F4.out) (by kernel_rfl)
theorem zg_d2 [Old] [bj] {Q:Exit→Act→World→Prop} {B G g0 b0 off len cap many k i gr cr:Nat} {X:Nat→Prop} {w2:World} {l:List Rx} {ms:List MV} {tk:List (Value×Nat)} {vn vm vt vr:Value} {D:List (Nat×Nat)} {s s':Gs} (fu:Nat→Value) (ZM:Md B G len many k i gr cr X w2 l ms tk vn vm vt vr D s s') {x:Rx} {dd:Nat×Nat} (hx:l[i]? = some x) (hdd:D.getD i (0,0)=dd) {d:Int} (g2:(d==2)=true) {mi:Nat} {gm off2 M cm:Nat} (hvm:vm=.slice (some ⟨gm,off2,none⟩) M cm) (hM:ms.length=M) (hmi:mi<ms.length) (hdst:(ms[mi]).dst=((i:Nat):Int)) (t0:w2.heap[g0]? = some (.cells #[.int .i64 d,.int .i64 (mi:Nat)] 72 (0,0))) (hout:s.arrive mi=s') (hQ:∀(fv:Nat→Value) (w5:World) (rb rd:Nat) (v v2:Value) (ec:Int),TlE B w5 G D vr s' rb rd v v2→Fr (fun c _=>c<B) w2 w5→Q .normal { tmps:=tU 264 fv ((0,.int .i64 (many:Nat)) :: (1,.slice (some ⟨b0,off,none⟩) len cap) :: (2,fu 2) :: (3,fu 3) :: (5,.bool true) :: (6,.pointer (some ⟨G,0,none⟩)) :: (7,.slice (some ⟨gr,0,none⟩) many cr) :: (8,fu 8) :: (9,fu 9) :: (10,fu 10) :: (11,.int .i64 (k:Nat)) :: (14,.pointer (some ⟨rb,0,none⟩)) :: (15,.pointer (some ⟨rd,0,none⟩)) :: (16,v) :: (17,v2) :: (18,.int .i64 ec) :: (19,.int .i64 ec) :: kfL fu [(263,fu 263)]),defers:=[] } w5) (fw:Nat→Value):
 Code.wp Tryz.prog (cR (cBk (cR (cL (fK 11 (plX (cW Tryz.f5.body))))))) Q { tmps:=tU 264 fw ((0,.int .i64 (many:Nat)) :: (1,.slice (some ⟨b0,off,none⟩) len cap) :: (2,fu 2) :: (3,fu 3) :: (5,.bool true) :: (6,.pointer (some ⟨G,0,none⟩)) :: (7,.slice (some ⟨gr,0,none⟩) many cr) :: (8,fu 8) :: (9,fu 9) :: (10,fu 10) :: (11,.int .i64 (k:Nat)) :: (12,.pointer (some ⟨g0,0,none⟩)) :: (14,.pointer (some ⟨x.rb,0,none⟩)) :: (15,.pointer (some ⟨dd.1,0,none⟩)) :: (16,.slice none 0 0) :: (17,.slice none 0 0) :: (18,.int .i64 0) :: (19,.int .i64 0) :: kfL fu [(127,.int .i64 d),(128,.bool false),(263,fu 263)]),defers:=[] } w2:=by
 have M0:=ZM;obtain⟨m,hm⟩:=zE (ms[mi]'hmi);have hmm:m∈ms:=hm▸List.getElem_mem hmi
 have GDM:Hid (s.ms.getD mi zMs=m.ms):=by rw[←M0.st];show (ms.map MV.ms).getD mi zMs=m.ms;rw[List.getD_eq_getElem?_getD,List.getElem?_map,List.getElem?_eq_getElem hmi,hm];rfl
 have hmS:m.ms∈s.ms:=by rw[←M0.st];exact List.mem_map.2 ⟨m,hmm,rfl⟩
 rw[hm] at hdst;have HDI:Hid (m.dst=((i:Nat):Int)):=hdst;have HMB:=zH (M0.gj.gi.ms _ hmS);have HMS:=zH (M0.g.rm.at' m hmm)
 have MC:Hid (∀W,Fr (fun _ _=>True) w2 W→W.cell? ⟨G,1,none⟩=some (.slice (some ⟨gm,off2,none⟩) M cm)∧W.cell? ⟨g0,1,none⟩=some (.int .i64 (mi:Nat))∧W.cell? ⟨gm,off2+mi*10,none⟩=some (.int .i64 m.kind)∧W.cell? ⟨gm,off2+mi*10+1,none⟩=some (.int .i64 m.src)∧W.cell? ⟨gm,off2+mi*10+2,none⟩=some (.int .i64 (i:Nat))∧W.cell? ⟨gm,off2+mi*10+3,none⟩=some (.int .u64 (m.tm:Nat))∧W.cell? ⟨gm,off2+mi*10+4,none⟩=some (.int .u64 (m.index:Nat))∧W.cell? ⟨gm,off2+mi*10+5,none⟩=some (.int .u64 (m.prev:Nat))∧W.cell? ⟨gm,off2+mi*10+6,none⟩=some (.int .u64 (m.commit:Nat))∧W.cell? ⟨gm,off2+mi*10+7,none⟩=some (.bool m.ok)∧W.cell? ⟨gm,off2+mi*10+8,none⟩=some (.slice m.da m.d.length m.dc)∧W.cell? ⟨gm,off2+mi*10+9,none⟩=some (.slice m.ea m.es.length m.ec)):=fun W f=>by
  obtain⟨gm',off',cm',hv2,MC0⟩:=M0.g.mcell mi hmi;rw[hm] at MC0
  obtain⟨rfl,rfl,rfl⟩:gm'=gm∧off'=off2∧cm'=cm:=by
   have e:=hvm.symm.trans hv2;injection e with e1 _ e3
   injection e1 with e4
   injection e4 with e5 e6
   exact⟨e5.symm,e6.symm,e3.symm⟩
  have h:=MC0 W f;have h2:=h 2 _ rfl;rw[HDI.out] at h2;refine⟨?_,bQ (i:=1) (f.keep _ _ t0 trivial) rfl,h 0 _ rfl,h 1 _ rfl,h2,h 3 _ rfl,h 4 _ rfl,h 5 _ rfl,h 6 _ rfl,h 7 _ rfl,h 8 _ rfl,h 9 _ rfl⟩;rw[(M0.g.gcells f).2.1,hvm]
 have HMI:Hid (mi<M):=by show _<_;omega
 have hmiI:(mi:Int)<(M:Int):=by omega
 have hM5:(M:Int)≤5000:=by have:=M0.gj.gi.ln;rw[←M0.st] at this;have e:(St l ms tk 0).ms.length=ms.length:=List.length_map _;omega
 have i0:¬((mi:Int)<0):=by omega
 clear hm hmm hmS hvm hM hmi t0 hdst M0;refine kAF ?_;intro TAIL G2 D2 HST HS HS' HN HI KB
 have HML:Hid (ms.length≤5000):=by exact mH4
 have F2:Hid (Fr (fun _ _=>True) w2 w2):=Fr.refl _ _;clear hQ ZM
 have NX:Hid (s.ns.getD i default=x.n∧s.aps.getD i 0=x.ap):=by exact mzN
 have HX:Hid (l[i]'HI.out=x):=by exact mJh
 have hxl:x∈l:=HX.out▸List.getElem_mem HI.out
 have GW:Hid (Gw (16+3*k) (16+3*k) x.n):=by exact mNg
 refine kPr ?_;intro HDD q hq hdn hrd;rw[HDD.out,HX.out] at hdn hrd;obtain⟨q2,hdq⟩:=hdn;refine kmr ?_;intro hrb hdm HB HQ HDQ HRD HRB HNP HXL HBD CELLS y0 y2 y3 y4 y5;clear hq hdq hrd hrb hdm hx hdd
 have OUT:Hid (({ s with ns:=s.ns.set i ((x.n.step m.ms).1).1 }:Gs).send ((x.n.step m.ms).1).2=s'):=by
  show _=s';rw[←hout];have e3:(s.ns.length:Int)=(many:Int):=by rw[HS.out.2.2.ids.1]
  have e4:m.ms.dst=(i:Int):=HDI.out;have e5:i<many:=by have:=HN.out;have:=HI.out;omega
  unfold Gs.arrive;dsimp only;rw[GDM.out,if_neg (by rw[e4,e3];omega),e4,Int.toNat_natCast,NX.out.1]
 clear GDM;have U2:=zH (Fr.refl (fun _ _=>True) w2);have gn13:=GW.out.gn (m:=m.ms) (by have:=KB.out;omega) (by have:=KB.out;omega) HMB.out.1;have hes:m.es.length≤80000:=by have:=HMB.out.1.index;rw[m.esl] at this;have:=KB.out;omega
 have TC:Hid (∀W,Fr (fun _ _=>True) w2 W→Calls Tryz.prog 33 #[.pointer (some ⟨x.rb,0,none⟩),.agg (cM m)] W fun e w'=>SOut X x.P W x.b (x.n.step m.ms) e w'):=fun W f=>
  h_ (HQ.out.tt f) (HRB.out.1.fr f fun _=>trivial) HNP.out.2.2.1 m ((HMS.out).tt f) (by omega) (by rw[show m.d=[] from HMB.out.2];exact Nat.zero_le _) (fun c hc=>absurd hc (bj.no c)) (fun _=>gn13)
 have DC:Hid (∀W X' P' w3 q',Fr (fun _ _=>True) w2 W→PNs X' P' w3 x.b ((x.n.step m.ms).1).1 q'→Aft X x.P X' P' W w3→Calls Tryz.prog 34 #[.pointer (some ⟨dd.1,0,none⟩),.agg (cM m)] w3 fun e w'=>DSOut X' w3 dd.2 (x.n.step m.ms) e w'):=fun W X' P' w3 q' f p a=>
  Dk ((HDQ.out.tt f).far a HNP.out.1 p.hx) ((HRD.out.fr f fun _=>trivial).fr a.fr fun _=>HNP.out.2.1) (fun e=>HNP.out.2.2.2.2 (e▸HNP.out.2.2.2.1)) m ((HMS.out).aft (.lead f a)) (fun c hc=>absurd hc (bj.no c)) GW.out.pos (fun _=>gn13)
 have ND:Hid (Es8 (x.n.step m.ms).1.2∧Dat (x.n.step m.ms).1.2∧(x.n.step m.ms).1.2.length≤1000∧(x.n.step m.ms).1.1.yes.length≤100000∧(x.n.step m.ms).1.1.conf.length≤1000∧(x.n.step m.ms).1.1.log.es.length≤100000):=by
  have h0:i<s.ns.length:=by rw[HS.out.2.2.ids.1,←HN.out];exact HI.out
  have hl:i<s'.ns.length:=by rw[←OUT.out,Gs.send_ns];show i<(s.ns.set i _).length;rw[List.length_set];exact h0
  have g:=HS'.out.1.nd (i:=i) hl
  have e:s'.ns.getD i default=(x.n.step m.ms).1.1:=by
   rw[←OUT.out,Gs.send_ns];show (s.ns.set i _).getD i default=_
   rw[List.getD_eq_getElem?_getD,List.getElem?_set_self h0];rfl
  rw[e] at g;have kb:=KB.out;have l:=Nd.step_len x.n m.ms;have c:=GW.out.cf.2;exact⟨Nd.step_e8,Nd.step_d,by omega,by have:=g.ye;omega,by have:=g.cf.2;omega,by have:=g.es;omega⟩
 have UD:Hid (Fr (fun _ _=>True) w2 w2.drew):=(Fr.refl _ _).drew;dsimp only[cM] at TC DC;rw[HDI.out] at TC DC;clear gn13 hes HS hout;simp only[kfL];simp only[tU,tL,Nat.reduceAdd,Nat.reduceBEq,cond_true,cond_false];dsimp only[plX,cBk,cL,cR,cLp,fK,cW,Tryz.f5];go_wp2_with fail
 refine L3 fun a0 ha0=>?_
 have HS:Hid (a0.tmps.size=264):=by rw[←ha0];rfl
 have HE:Hid (dJ a0 [(6,.pointer (some ⟨G,0,none⟩)),(12,.pointer (some ⟨g0,0,none⟩))]):=by rw[←ha0];exact⟨rfl,rfl,trivial⟩
 have HT:tmB [(136,0),(137,1),(138,2),(139,3),(140,4),(141,5),(142,6),(143,7),(20,8)] [(6,.pointer (some ⟨G,0,none⟩)),(12,.pointer (some ⟨g0,0,none⟩))] 264=true:=by rfl
 refine wpR [(136,0),(137,1),(138,2),(139,3),(140,4),(141,5),(142,6),(143,7),(20,8)] [(0,[]),(1,[0]),(2,[1]),(3,[2]),(4,[]),(5,[4]),(6,[3,5]),(7,[6]),(8,[])] (ckR [(0,.pointer (some ⟨G,0,none⟩)),(1,.pointer (some ⟨G,0,none⟩)),(2,.pointer (some ⟨G,1,none⟩)),(3,.slice (some ⟨gm,off2,none⟩) M cm),(4,.pointer (some ⟨g0,1,none⟩)),(5,.int .i64 (mi:Nat)),(6,.pointer (some ⟨gm,off2+mi*10,none⟩)),(7,.agg #[.int .i64 m.kind,.int .i64 m.src,.int .i64 (i:Nat),.int .u64 (m.tm:Nat),.int .u64 (m.index:Nat),.int .u64 (m.prev:Nat),.int .u64 (m.commit:Nat),.bool m.ok,.slice m.da m.d.length m.dc,.slice m.ea m.es.length m.ec])] [(8,⟨fun v W=>∃g,v=.pointer (some ⟨g,0,none⟩)∧w2.heap.size≤g∧W.heap[g]? = some (.cells (cM zMV) 32 (0,0)),fun v W W' h hf=>by obtain⟨g,h1,h2,h3⟩:=h;exact⟨g,h1,h2,hf.keep _ _ h3 trivial⟩⟩)] 9 0) 1 rfl ?cfall ?cfend
 case cfall=>
  clear ha0
  iterate 8
   refine bY.w HT HS.out HE.out rfl rfl rfl (fun A W HF hT hE K' hK=>?_) ?_
   ·simp only[tmEqs,ckLook,jY,Nat.reduceBEq] at hT;simp only[dJ] at hE;obtain⟨y1,o1,c0,c1,c2,c3,c4,c5,c6,c7,c8,c9⟩:=MC.out W (UD.out.trans HF.out);go_simp;exact hK.out _ _ rfl (Fr.refl _ _)
  refine bY.k rfl rfl (fun xs W hF hA hE K' hK=>?_) ?_
  ·have HF:=zH hF;clear hA hF hE;have SB:Hid (w2.heap.size≤W.heap.size):=(UD.out.trans HF.out).size;go_simp;exact hK.out _ _ _ rfl ((Fr.refl _ _).alloc _) ⟨_,rfl,SB.out,bZ _ _⟩
  exact m36
 case cfend=>
  intro xs W hF hA;have HF:=zH hF;have hE:=ckEnd rfl hA;have h8:=hA (8,[]) (by decide);clear hA hF HS HE HT;simp only[List.map_cons,List.map_nil,ckEqs,ckLook,Nat.reduceBEq] at hE;rw[←ha0];clear ha0;simp only[fillA,fillL,sA,sB,sC,hE];clear hE;obtain⟨g,e8,hgw,tg⟩:=h8;rw[e8];obtain⟨wm,hwm,t2,f2⟩:=Jj tg (.int .i64 m.kind) (.int .i64 m.src) (.int .i64 (i:Nat)) (.int .u64 (m.tm:Nat)) (.int .u64 (m.index:Nat)) (.int .u64 (m.prev:Nat)) (.int .u64 (m.commit:Nat)) (.bool m.ok) (.slice m.da m.d.length m.dc) (.slice m.ea m.es.length m.ec)
  have TM:Hid (wm.heap[g]? = some (.cells (cM m) 32 (0,0))):=by show _=_;rw[t2];unfold cM;rw[HDI.out]
  have FM:Hid (Fr (fun _ _=>True) w2 wm):=(((UD.out.trans HF.out).mono fun _ _ _=>trivial:Fr (fun c _=>True∧c<w2.heap.size) w2 W).trans (f2.mono fun c _ h e=>by have:=h.2;omega)).within;have PG:Hid (¬x.P g):=fun k=>by have:=G2.out.hx _ (HQ.out.px g k);omega
  have TC1:=zH (TC.out wm FM.out);have DC1:=zH (DC.out wm);clear TC DC hgw;refine kwD ?_;intro v0 v1 v2 v3 v4 v5 v6 v7 v8 v9 z0 z1 z2 z3 z4 z5 z6 z7 z8 z9;refine wpN 9 rfl fun K' hK=>?_
  (try simp only[gA,gB,gC]);go_simp;refine hK.out _ _ ?_;clear hK K';refine wpF ?_
  try rw[hwm]
  clear z0 z1 z2 z3 z4 z5 z6 z7 z8 z9 v0 v1 v2 v3 v4 v5 v6 v7 v8 v9 hwm tg t2 f2 y0 y2 y3 y4 y5;obtain⟨v0,v1,v2,v3,v4,v5,v6,v7,v8,v9⟩:=bq TM.out;rw[HDI.out] at v2;go_wp2_with fail
  (with_reducible refine TC1.out.mono ?_);rintro e w3 ⟨X3,P3,q3,v,mvs,rfl,p3,a3,o3,e3⟩;have HH:=zH (And.intro p3 (And.intro (Aft.lead FM.out a3) (And.intro o3 e3)));have TM3:Hid (w3.heap[g]? = some (.cells (cM m) 32 (0,0))):=a3.fr.keep _ _ TM.out PG.out;have C2:=zH (DC1.out X3 P3 w3 q3 FM.out p3 a3);clear p3 a3 o3 e3 TC1 DC1 v0 v1 v2 v3 v4 v5 v6 v7 v8 v9;obtain⟨v0,v1,v2,v3,v4,v5,v6,v7,v8,v9⟩:=bq TM3.out;rw[HDI.out] at v2;go_wp2_with fail
  (with_reducible refine C2.out.mono ?_);rintro e w4 ⟨q4,vv2,mvs2,rfl,d4,f4,o4,e4⟩
  have TLE:Hid (TlE B w4 G D vr s' x.rb dd.1 v vv2):=by have h:=D2.out.tl (n':=(x.n.step m.ms).1.1) (s':=s') G2.out i HI.out (by rw[HX.out];exact⟨q3,HH.out.1⟩) (by rw[HX.out];exact HH.out.2.1) HH.out.2.2.1 (by rw[HDD.out];exact⟨q4,d4⟩) (by rw[HDD.out];exact f4) o4 (HH.out.2.2.2.trans e4.symm) (by rw[HH.out.2.2.2];exact ND.out.1) (by rw[HH.out.2.2.2];exact ND.out.2.1) (by have:=congrArg List.length HH.out.2.2.2;rw[List.length_map] at this;have:=ND.out.2.2.1;omega) HML.out (by rw[HH.out.2.2.2,HST.out];exact OUT.out) ND.out.2.2.2.1 ND.out.2.2.2.2.1 ND.out.2.2.2.2.2;exact ml6
  have F4:Hid (Fr (fun c _=>c<B) w2 w4):=((F2.out.mono fun _ _ _=>trivial).trans (HH.out.2.1.fr.mono fun c _ hc k=>by have:=HXL.out c (HH.out.2.1.hp c k);omega)).trans (f4.mono fun c _ hc e=>by have:=HXL.out _ HNP.out.2.2.2.1;omega);clear d4 f4 o4 e4 C2 HH v0 v1 v2 v3 v4 v5 v6 v7 v8 v9;go_wp2_with fail
  refine L_ (K:=Q .normal) (fun fv=>TAIL.out fv w4 x.rb dd.1 v vv2 (x.n.step m.ms).2 TLE.out F4.out) ?_;generalize (x.n.step m.ms)=stp;kernel_rfl
end Go.Proofs.YtmjccpfchhnfhaaGreat
