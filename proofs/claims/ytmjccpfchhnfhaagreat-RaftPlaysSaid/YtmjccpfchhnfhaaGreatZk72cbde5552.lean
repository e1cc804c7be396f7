/- Texts of the proofs, part 32: what the functions that they reach do, walked; no conditions beyond those that each states. -/
import Derived.Defers
import Derived.Test.YtmjccpfchhnfhaaGreatZkffcfb3ab06
import Derived.Test.YtmjccpfchhnfhaaGreatZk5ca664ffe4
import Derived.Test.YtmjccpfchhnfhaaGreatZk7ed379ac39
set_option linter.unusedVariables false
set_option linter.unusedSimpArgs false
set_option maxRecDepth 100000
set_option maxHeartbeats 8000000
namespace Go.Proofs.YtmjccpfchhnfhaaGreat
open Go.RowKit
theorem k0C {p q:Prop} (k:q) (h:q→p:=by
 have hqA:nA.log=n.log∧nA.next=n.next:=by rw[←hnA];exact⟨rfl,rfl⟩
 have hnn:nt=nA.next.getD t 0:=by rw[←hnA,hnt]
 obtain⟨NT,hNT⟩:=zE nt;rw[hNT] at hnn;have hlA:nA.log=n.log:=hqA.1;intro kk0;revert hlA;revert hnn;revert hNT;revert NT;revert hqA;exact kk0):p:=h k
theorem k0z {p q:Prop} (k:q) (h:q→p:=by
 have F2:=zH (F1.trans UQ);have H2:=zH (H.tt F2);have T2:Hid (W2.heap[g0]? = some (.cells (cM m) 32 (0,0))):=UQ.keep _ _ X1 trivial;have y6:W2.cell? ⟨b,6,none⟩=some (.int .u64 (tm:Nat)):=by rw[←HL.out.2.2.1];exact(H2.out.cells (Fr.refl _ W2)).2.2.2.2.2.2.1
 have y2:W2.cell? ⟨b,2,none⟩=some (.int .i64 3):=by rw[←HL.out.2.1];exact(H2.out.cells (Fr.refl _ W2)).2.2.1
 have y0:W2.cell? ⟨b,0,none⟩=some (.int .i64 me):=by rw[←HL.out.1];exact(H2.out.cells (Fr.refl _ W2)).1
 have v3:=(VH W2 T2).2.1;have v1:=(VH W2 T2).1;intro kk0;revert v1;revert v3;revert y0;revert y2;revert y6;revert T2;revert H2;revert F2;exact kk0):p:=h k
theorem k2N {p q:Prop} (k:q) (h:q→p:=by
 have F2:=zH (F1.trans UQ);have H2:=zH (H.tt F2);have T2:Hid (W2.heap[g0]? = some (.cells (cM m) 32 (0,0))):=UQ.keep _ _ X1 trivial;have y6:W2.cell? ⟨b,6,none⟩=some (.int .u64 (tm:Nat)):=by rw[←HL.out.2.2.1];exact(H2.out.cells (Fr.refl _ W2)).2.2.2.2.2.2.1
 have y2:W2.cell? ⟨b,2,none⟩=some (.int .i64 ro):=by rw[←HL.out.2.1];exact(H2.out.cells (Fr.refl _ W2)).2.2.1
 have y0:W2.cell? ⟨b,0,none⟩=some (.int .i64 me):=by rw[←HL.out.1];exact(H2.out.cells (Fr.refl _ W2)).1
 have v3:=(VH W2 T2).2.1;have v1:=(VH W2 T2).1;intro kk0;revert v1;revert v3;revert y0;revert y2;revert y6;revert T2;revert H2;revert F2;exact kk0):p:=h k
theorem k7D {p q:Prop} (k:q) (h:q→p:=by
 obtain⟨W2,hW2⟩:=zE (kV W b [(8,.int .u64 (bs:Nat)),(9,.int .u64 (bt:Nat)),(10,.slice a8 (le+1) c8)]);have hW2':((W.setCell ⟨b,8,none⟩ (.int .u64 (bs:Nat))).setCell ⟨b,9,none⟩ (.int .u64 (bt:Nat))).setCell ⟨b,10,none⟩ (.slice a8 (le+1) c8)=W2:=hW2;intro kk0;revert hW2';revert hW2;revert W2;exact kk0):p:=h k
theorem k7m {p q:Prop} (k:q) (h:q→p:=by
 have v0:W1.cell? ⟨g0,0,none⟩=some (.int .i64 6):=by rw[←hk6];exact(bq X1.out).1
 have y6:W1.cell? ⟨b,6,none⟩=some (.int .u64 (tm:Nat)):=by rw[←htm];exact(h.cells F1.out).2.2.2.2.2.2.1
 have v3:=(VH W1 X1).2.1;intro kk0;revert v3;revert y6;revert v0;exact kk0):p:=h k
theorem kHL {p q:Prop} (k:q) (h:q→p:=by
 have UD:Hid (FT W3 W3.drew):=(Fr.refl _ _).drew;have v1:=(VH W3 T3).1;intro kk0;revert v1;revert UD;exact kk0):p:=h k
theorem kHf {p q:Prop} (k:q) (h:q→p:=by
 have F4:=zH (UD.trans HF);have H4:=zH (H3.tt F4);have T4:Hid (W.heap[g0]? = some (.cells (cM m) 32 (0,0))):=F4.keep _ _ T3 trivial;intro kk0;revert T4;revert H4;revert F4;exact kk0):p:=h k
theorem kTB {p q:Prop} (k:q) (h:q→p:=by
 have V:=VH W ((UK.trans HF).keep _ _ T9 trivial);have v4:=V.2.2.1;intro kk0;revert v4;revert V;exact kk0):p:=h k
theorem kVx {p q:Prop} (k:q) (h:q→p:=by
 have OUT0:n.propose kind d=(({ n with log:=n.log.add ⟨n.tm,kind,d⟩,mat:=n.mat.set n.me.toNat (n.log.last+1) }:Nd).sure,n.log.last+1,0):=by unfold Nd.propose;rw[if_neg (by rw[hr];decide),if_neg (by omega),if_neg hdl]
 intro kk0;revert OUT0;exact kk0):p:=h k
theorem kXu {p q:Prop} (k:q) (h:q→p:=by
 obtain⟨W1,hW1,F1,X1⟩:=xv w m;obtain⟨g0,hg0⟩:=zE w.heap.size;rw[hg0] at X1;have H:=zH h;have HG0:=zH hg0;have gb:Hid (g0≠b):=by have:=bX h.top;show _≠_;omega
 obtain⟨me,hme⟩:=zE n.me;obtain⟨ro,hro⟩:=zE n.role;obtain⟨tm,htm⟩:=zE n.tm;obtain⟨s,hs⟩:=zE m.src;obtain⟨mt,hmt⟩:=zE m.tm;obtain⟨ix,hixx⟩:=zE m.index;obtain⟨pv,hpv⟩:=zE m.prev;obtain⟨ok,hok⟩:=zE m.ok;have HL:=zH (And.intro hme (And.intro hro (And.intro htm (And.intro hs (And.intro hmt (And.intro hixx (And.intro hpv hok)))))));intro kk0;revert HL;revert hok;revert ok;revert hpv;revert pv;revert hixx;revert ix;revert hmt;revert mt;revert hs;revert s;revert htm;revert tm;revert hro;revert ro;revert hme;revert me;revert gb;revert HG0;revert H;revert X1;revert hg0;revert g0;revert F1;revert hW1;revert W1;exact kk0):p:=h k
theorem kbs {p q:Prop} (k:q) (h:q→p:=by
 have F3:=zH (F2.trans UQ2);have H3:=zH (H2.tt UQ2);have T3:Hid (W3.heap[g0]? = some (.cells (cM m) 32 (0,0))):=UQ2.keep _ _ T2 trivial;intro kk0;revert T3;revert H3;revert F3;exact kk0):p:=h k
theorem ke3 {p q:Prop} (k:q) (h:q→p:=by
 have V:=VH W ((UD.trans HF).keep _ _ T3 trivial);have v4:=V.2.2.1;intro kk0;revert v4;revert V;exact kk0):p:=h k
theorem kgb {p q:Prop} (k:q) (h:q→p:=by
 have UD:Hid (FT w w.drew):=(Fr.refl _ _).drew;intro kk0;revert UD;exact kk0):p:=h k
theorem kiq {p q:Prop} (k:q) (h:q→p:=by
 have F2:=zH (F1.trans UQ);have H2:=zH (H.tt F2);have T2:Hid (W2.heap[g0]? = some (.cells (cM m) 32 (0,0))):=UQ.keep _ _ X1 trivial;have y6:W2.cell? ⟨b,6,none⟩=some (.int .u64 (tm:Nat)):=by rw[←HL.out.2.2.1];exact(H2.out.cells (Fr.refl _ W2)).2.2.2.2.2.2.1
 have y2:W2.cell? ⟨b,2,none⟩=some (.int .i64 3):=by rw[←HL.out.2.1];exact(H2.out.cells (Fr.refl _ W2)).2.2.1
 have y0:W2.cell? ⟨b,0,none⟩=some (.int .i64 s):=by rw[←HL.out.1];exact(H2.out.cells (Fr.refl _ W2)).1
 have v3:=(VH W2 T2).2.1;have v1:=(VH W2 T2).1;intro kk0;revert v1;revert v3;revert y0;revert y2;revert y6;revert T2;revert H2;revert F2;exact kk0):p:=h k
theorem koo {p q:Prop} (k:q) (h:q→p:=by
 have v0:W1.cell? ⟨g0,0,none⟩=some (.int .i64 6):=by rw[←hk6];exact(bq X1.out).1
 have y6:W1.cell? ⟨b,6,none⟩=some (.int .u64 (tm:Nat)):=by rw[←htm];exact(h.cells F1.out).2.2.2.2.2.2.1
 have v3:=(VH W1 X1).2.1;have gl:decide (tm<mt)=false:=by rw[←hmt,←htm];exact decide_eq_false hnlt
 have g1:decide (mt<tm)=false:=by rw[←hmt,←htm];exact decide_eq_false hlt
 intro kk0;revert g1;revert gl;revert v3;revert y6;revert v0;exact kk0):p:=h k
theorem kpq {p q:Prop} (k:q) (h:q→p:=by
 have gl:decide (tm<mt)=false:=by rw[←hmt,←htm];exact decide_eq_false hnlt
 have g1:decide (mt<tm)=true:=by rw[←hmt,←htm];exact decide_eq_true hlt
 intro kk0;revert g1;revert gl;exact kk0):p:=h k
theorem kpu {p q:Prop} (k:q) (h:q→p:=by
 have HT:=zH ht;have HNK:=zH (And.intro hnt hkt);have hil2:ix≤LST:=by omega
 have gi:decide (ix≤LST)=true:=decide_eq_true hil2;intro kk0;revert gi;revert hil2;revert HNK;revert HT;exact kk0):p:=h k
theorem krq {p q:Prop} (k:q) (h:q→p:=by
 have g2:(s==me)=false:=by rw[←hs,←hme];simpa using hx
 intro kk0;revert g2;exact kk0):p:=h k
theorem kxU {p q:Prop} (k:q) (h:q→p:=by
 have wp1:IntKind.u64.wrap ((pv:Int)+1)=((pv+1:Nat):Int):=by rw[IntKind.wrap_u64];omega
 have wk1:IntKind.u64.wrap ((kt:Int)+1)=((kt+1:Nat):Int):=by rw[IntKind.wrap_u64];omega
 intro kk0;revert wk1;revert wp1;exact kk0):p:=h k
theorem m0L {p:Prop} (h:p:=by
 show _=_;rw[E0,hac,hlA,hlast,←hnn];by_cases e:LST<NT
 ·rw[if_pos e,if_pos ⟨ho,e⟩]
 ·rw[if_neg e,if_neg (fun e2=>e e2.2)]):p:=h
theorem m5c {p:Prop} (h:p:=by
 rw[←hnA];unfold Nd.sure Nd.sureR;split <;> exact⟨rfl,rfl⟩):p:=h
theorem m6I {p:Prop} (h:p:=by
 unfold Nd.acked;rw[if_neg (show ¬m.ms.ok=false by show ¬m.ok=false;rw[ho];decide),if_neg (show ¬m.ms.index≤n.log.last from hil),hnA]):p:=h
theorem m7A {p:Prop} (h:p:=by
 show _=_;unfold Nd.onAcked;rw[if_neg (fun e=>e hk6),if_pos (show n.tm<m.ms.tm from hlt),←hmt];rfl):p:=h
theorem mEh {p:Prop} (h:p:=by
 show _=_;unfold Nd.onAcked;rw[if_neg (fun e=>e hk6),if_neg (show ¬n.tm<m.ms.tm from hnlt),if_pos (show m.ms.tm<n.tm∨n.role≠3∨m.ms.src=n.me∨m.ms.src<0∨15<m.ms.src from Or.inr (Or.inl hr))]):p:=h
theorem mFs {p:Prop} (h:p:=by
 unfold Nd.onAcked
 rw[if_neg (fun e=>e hk6),if_neg (show ¬n.tm<m.ms.tm from hnlt),if_neg (show ¬(m.ms.tm<n.tm∨n.role≠3∨m.ms.src=n.me∨m.ms.src<0∨15<m.ms.src) by
  have e:m.ms.src=(t:Nat):=hst;rw[e];rintro(e | e | e | e | e)
  ·exact hlt e
  ·exact e hr
  ·exact hx (hst.trans e)
  ·omega
  ·omega)]
 have e:m.ms.src=(t:Nat):=hst;rw[e];rfl):p:=h
theorem mJn {p:Prop} (h:p:=by
 show _=_;unfold Nd.onAcked;rw[if_neg (fun e=>e hk6),if_neg (show ¬n.tm<m.ms.tm from hnlt),if_pos (show m.ms.tm<n.tm∨n.role≠3∨m.ms.src=n.me∨m.ms.src<0∨15<m.ms.src from Or.inr (Or.inr (Or.inl hx)))]):p:=h
theorem mQr {p:Prop} (h:p:=by
 obtain⟨v0,v1,v2,v3,v4,v5,v6,v7,v8,v9⟩:=bq t;exact⟨by rw[v1,hs],by rw[v3,hmt],by rw[v4,hixx],by rw[v5,hpv],by rw[v7,hok]⟩):p:=h
theorem mUI {p:Prop} (h:p:=by
 rw[←HLS.out];show n.log.base+(n.log.es++[_]).length=_;unfold Lg.last;simp;omega):p:=h
theorem mfP {p:Prop} (h:p:=by
 go_wp2_with fail
 (with_reducible refine(TC.out W FB.out).mono ?_);rintro e wc ⟨rfl,f2⟩;have FC:=zH (FB.trans f2);clear TC f2 y4 y6 y7 y8 y9 y10 y13;obtain⟨y4,y6,y7,y8,y9,y10,y13⟩:=CC wc FC;go_wp2;go_end0;rw[E.out];exact⟨rfl,H.tt FC,FC.tT⟩):p:=h
theorem mk0 {p:Prop} (h:p:=by
 unfold Nd.acked;have e:m.ms.src.toNat=t:=by show m.src.toNat=t;rw[hst];rfl
 rw[if_neg (show ¬m.ms.ok=false by show ¬m.ok=false;rw[ho];decide),if_pos (show m.ms.index≤n.log.last from hil),e,hkt,show m.ms.index=ix from hixx,hmxx,hmx1,hn6,hnA]):p:=h
theorem mld {p:Prop} (h:p:=by
 show _=_;unfold Nd.onAcked;rw[if_neg (fun e=>e hk6),if_neg (show ¬n.tm<m.ms.tm from hnlt),if_pos (show m.ms.tm<n.tm∨n.role≠3∨m.ms.src=n.me∨m.ms.src<0∨15<m.ms.src from Or.inl hlt)]):p:=h
def CallsB (P:Program) (f:FuncId) (args:Array Value) (w:World) (R:Ending→World→Prop):Prop:=Calls P f args w R∧∀u,CallsD P f args u w fun e u' w'=>u'=u∧R e w'
theorem my {P:Program} {f:FuncId} {fn:Func} {c:Code} {args:Array Value} {w:World} {R:Ending→World→Prop} (hf:P.funcs[f]? = some fn) (hb:fn.body=some c)
 (h:c.wp P (bodyPost P fn R) { tmps:=args++Array.replicate (fn.ntmps-args.size) undef,defers:=[] } w):CallsB P f args w R:=⟨calls_of_wp hf hb h,fun u=>callsD_of_wp hf hb h⟩
theorem Pw {l:List Nat} (x:Int):0≤atU (l.map fun(x:Nat)=>(x:Int)) x:=by
 unfold atU;split
 ·rw[List.getD_eq_getElem?_getD,List.getElem?_map];cases l[x.toNat]? with
  | none=>exact Int.le_refl _
  | some y=>exact Int.natCast_nonneg y
 ·exact Int.le_refl _
theorem zQ {l:List Nat} (zs:List Int) (h:0<zs.length):0≤midV (reachL zs (l.map fun(x:Nat)=>(x:Int)) zs.length):=by
 have hm:=Dq (l:=reachL zs (l.map fun(x:Nat)=>(x:Int)) zs.length) (by rw[fV _ _ _ (Nat.le_refl _)];exact h);unfold reachL at hm ⊢;obtain⟨x,_,e⟩:=List.mem_map.1 hm;rw[←e];exact Pw x
section
variable {X P:Nat→Prop} {w w':World} {b:Nat} {n n':Nd} {q q':NV}
theorem PNs.reach [Old] (h:PNs X P w b n q) (hcf:0<n.conf.length∧n.conf.length≤12) (hpos:∀x∈n.conf,0≤x):Calls Tryz.prog 77 #[q.vc,.slice (some ⟨q.bm,0,none⟩) 16 q.cm] w fun e w'=>e=.returned (.int .u64 (n.reach:Nat))∧FT w w':=by
 obtain⟨a,c,e⟩:=h.cf.form;have hc:=h.cf;rw[e] at hc;obtain⟨b1,off,rfl⟩:=hc.addr hcf.1;rw[e];refine(vk w b1 off c _ n.conf _ hc (h.mt.nums (c:=q.cm)) (by rw[List.length_map,h.mt.1];unfold maxLen;decide) hcf.1 hcf.2 hpos).mono fun e w' ⟨h1,h2⟩=>⟨?_,?_⟩
 ·rw[h1];have:=zQ (l:=n.mat) n.conf hcf.1;unfold Nd.reach;rw[Int.toNat_of_nonneg this]
 ·exact Fr.within (h2.mono fun c _ q=>q.2)
theorem JY [Old] (h:PNs X P w b n q) (hr:n.role≠3) (hcf:0<n.conf.length∧n.conf.length≤12) (hpos:∀x∈n.conf,0≤x) (hl:n.log.last+1<18446744073709551616):
 CallsB Tryz.prog 25 #[.pointer (some ⟨b,0,none⟩)] w fun e w'=>e=.returned (.tuple #[])∧PNs X P w' b n.sure q∧Fr (fun c _=>c≠b) w w':=by
 have E:n.sure=n:=if_neg (fun e=>hr e.1);rw[E];refine kpb ?_;intro x2;obtain⟨ro,hro⟩:=zE n.role;rw[hro] at x2 hr;refine kaZ ?_;intro g1 g2;have H:=zH h;clear h hr hro E hpos hl hcf;refine my Tryz.func25 rfl ?_;simp only[Tryz.ntmps25,List.size_toArray,List.length_cons,List.length_nil,Nat.reduceAdd,Nat.reduceSub,Array.replicate_succ,Array.replicate_zero,List.push_toArray,List.append_toArray,List.nil_append,List.cons_append];go_wp2;(try simp only[Exit.inBlock,Exit.then]);refine bodyPost_ret (results_none rfl _ _ _) rfl ?_;exact⟨rfl,H,Fr.refl _ _⟩
theorem Jq [Old] (h:PNs X P w b n q) (hr:n.role=3) (hcf:0<n.conf.length∧n.conf.length≤12) (hpos:∀x∈n.conf,0≤x) (hl:n.log.last+1<18446744073709551616):
 CallsB Tryz.prog 25 #[.pointer (some ⟨b,0,none⟩)] w fun e w'=>e=.returned (.tuple #[])∧PNs X P w' b n.sure q∧Fr (fun c _=>c≠b) w w':=by
 obtain⟨ae,le,ce,hve,hle,hes,hlg⟩:=h.lg;have RC0:∀W,FT w W→Calls Tryz.prog 77 #[q.vc,.slice (some ⟨q.bm,0,none⟩) 16 q.cm] W fun e w'=>e=.returned (.int .u64 (n.reach:Nat))∧FT W w':=fun W f=>(h.tt f).reach hcf hpos
 refine kr8 ?_;intro bs hbs bt hbt;obtain⟨tm,htm⟩:=zE n.tm;obtain⟨cm,hcm⟩:=zE n.commit;obtain⟨bm,hbm⟩:=zE q.bm;obtain⟨km,hkm⟩:=zE q.cm;obtain⟨vc,hvc⟩:=zE q.vc;obtain⟨r,hrr⟩:=zE n.reach;obtain⟨pt,hpt⟩:=zE ((n.log.term r).1);obtain⟨pk,hpk⟩:=zE ((n.log.term r).2);refine kJf ?_;intro hl2;rw[hvc,hbm,hkm,hrr] at RC0;have RC:=zH RC0;have TC:=zH (fun W (f:FT w W)=>dy W bs bt r ae le ce q.es (hes W f).row (by omega));rw[show lgE bs bt q.es=n.log by rw[←hbs,←hbt];exact hlg,hpt,hpk] at TC
 have CC:Hid (∀W,FT w W→W.cell? ⟨b,4,none⟩=some vc∧W.cell? ⟨b,6,none⟩=some (.int .u64 (tm:Nat))∧W.cell? ⟨b,7,none⟩=some (.int .u64 (cm:Nat))∧W.cell? ⟨b,8,none⟩=some (.int .u64 (bs:Nat))∧W.cell? ⟨b,9,none⟩=some (.int .u64 (bt:Nat))∧W.cell? ⟨b,10,none⟩=some (.slice ae le ce)∧W.cell? ⟨b,13,none⟩=some (.slice (some ⟨bm,0,none⟩) 16 km)):=fun W f=>by obtain⟨x0,x1,x2,x3,x4,x5,x6,x7,x8,x9,x10,x11,x12,x13⟩:=h.cells f;exact⟨by rw[x4,hvc],by rw[x6,htm],by rw[x7,hcm],by rw[x8,hbs],by rw[x9,hbt],by rw[x10,hve],by rw[x13,hbm,hkm]⟩
 have CON:(n.role=3∧n.log.term n.reach=(n.tm,true)∧n.commit<n.reach)↔(pk=true∧pt=tm∧cm<r):=by rw[hrr,htm,hcm,←hpk,←hpt,Prod.ext_iff];exact⟨fun e=>⟨e.2.1.2,e.2.1.1,e.2.2⟩,fun e=>⟨hr,⟨e.2.1,e.1⟩,e.2.2⟩⟩
 have hs1:n.sure=if n.role=3∧n.log.term n.reach=(n.tm,true)∧n.commit<n.reach then { n with commit:=n.reach } else n:=rfl
 rw[hrr] at hs1 CON;have H:=zH h;refine kpb ?_;intro x2;rw[hr] at x2;refine kgb ?_;intro UD;have HS:=zH hs1;have HC:=zH CON;clear h hr hpos hcf hl hve hle hes hlg RC0 hbs hbt htm hcm hbm hkm hvc hrr hpt hpk hl2 CON hs1;dsimp only[vL] at TC;refine my Tryz.func25 rfl ?_;simp only[Tryz.ntmps25,List.size_toArray,List.length_cons,List.length_nil,Nat.reduceAdd,Nat.reduceSub,Array.replicate_succ,Array.replicate_zero,List.push_toArray,List.append_toArray,List.nil_append,List.cons_append];go_wp2_with fail
 clear x2;refine L4 [(10,0),(11,1),(12,2),(13,3),(14,4),(15,5),(16,6),(17,7),(18,8),(2,9)] [(0,[]),(1,[0]),(2,[1]),(3,[2]),(4,[]),(5,[4]),(6,[5]),(7,[6]),(9,[8]),(8,[3,7])] (ckR [(0,.pointer (some ⟨b,0,none⟩)),(1,.pointer (some ⟨b,0,none⟩)),(2,.pointer (some ⟨b,4,none⟩)),(3,vc),(4,.pointer (some ⟨b,0,none⟩)),(5,.pointer (some ⟨b,0,none⟩)),(6,.pointer (some ⟨b,13,none⟩)),(7,.slice (some ⟨bm,0,none⟩) 16 km),(8,.int .u64 (r:Nat)),(9,.int .u64 (r:Nat))] [] 10 0) rfl ?cfall ?cfend
 case cfall=>
  iterate 9
   refine bY.q rfl rfl rfl (kQQ ?_) ?_
   ·intro xs W HF K' hK;obtain⟨y4,y6,y7,y8,y9,y10,y13⟩:=CC W (UD.trans HF);exact mD8
  refine bY.p rfl rfl (kPP ?_) ?_
  ·intro xs W HF K' hK;have RC1:=zH (RC W (UD.trans HF))
   skip
   go_simp;(with_reducible refine RC1.out.mono ?_);exact msd
  exact m36
 case cfend=>
  refine kEE ?_;intro xs W HF;have FB:=zH (UD.trans HF);obtain⟨y4,y6,y7,y8,y9,y10,y13⟩:=CC W FB;clear RC HF;cases pk with
  | false=>
   have E:Hid (n.sure=n):=HS.out.trans (if_neg (fun e=>by have:=(HC.out.1 e).1;cases this));clear HS HC;go_wp2_with fail
   (with_reducible refine(TC.out W FB.out).mono ?_);rintro e wc ⟨rfl,f2⟩;have FC:=zH (FB.trans f2);clear TC f2 y4 y6 y7 y8 y9 y10 y13;obtain⟨y4,y6,y7,y8,y9,y10,y13⟩:=CC wc FC;go_wp2;go_end0;rw[E.out];exact⟨rfl,H.tt FC,FC.tT⟩
  | true=>
   by_cases he:pt=tm
   ·subst he;have g1:((pt:Int)==(pt:Int))=true:=by simp
    by_cases hlt:cm<r
    ·have g2:decide (cm<r)=true:=decide_eq_true hlt;have E:Hid (n.sure={ n with commit:=r }):=HS.trans (if_pos (HC.2 ⟨rfl,rfl,hlt⟩));clear HS HC hlt;go_wp2_with fail
     (with_reducible refine(TC.out W FB.out).mono ?_);rintro e wc ⟨rfl,f2⟩;have FC:=zH (FB.trans f2);clear TC f2 y4 y6 y7 y8 y9 y10 y13;obtain⟨y4,y6,y7,y8,y9,y10,y13⟩:=CC wc FC;have z7:=H.free FC 7;go_wp2;go_end0;rw[E.out];exact⟨rfl,(H.tt FC).re (b_ b [(7,.int .u64 (r:Nat))] wc) (bw [(7,.int .u64 (r:Nat))] (FC.keep _ _ H.top trivial)) ⟨rfl,rfl⟩ (.inl ⟨rfl,rfl⟩) ⟨rfl,rfl,rfl⟩ ⟨rfl,rfl,rfl,rfl⟩,(FC.tT).trans (b_ b [(7,.int .u64 (r:Nat))] wc)⟩
    ·have g2:decide (cm<r)=false:=decide_eq_false hlt;have E:Hid (n.sure=n):=HS.trans (if_neg (fun e=>hlt (HC.1 e).2.2));clear HS HC hlt;exact mfP
   ·have g1:((pt:Int)==(tm:Int))=false:=by simp;omega
    have E:Hid (n.sure=n):=HS.trans (if_neg (fun e=>he (HC.1 e).2.1));clear HS HC he;exact mfP
theorem yJ [Old] (h:PNs X P w b n q) (hcf:0<n.conf.length∧n.conf.length≤12) (hpos:∀x∈n.conf,0≤x) (hl:n.log.last+1<18446744073709551616):
 CallsB Tryz.prog 25 #[.pointer (some ⟨b,0,none⟩)] w fun e w'=>e=.returned (.tuple #[])∧PNs X P w' b n.sure q∧Fr (fun c _=>c≠b) w w':=by
 by_cases hr:n.role=3
 ·exact Jq h hr hcf hpos hl
 ·exact JY h hr hcf hpos hl
end
theorem RowU.numsK {w:World} {B:Nat} {v:Value} {zs:List Int} (h:RowU w B v zs):NumsAt .u64 (fun b _=>B≤b) w v zs:=by
 obtain⟨a,c,rfl⟩:=h.form;refine⟨a,c,rfl,?_⟩;by_cases h0:0<zs.length
 ·obtain⟨g,cap,e,hB,hlt,hh⟩:=h.parts h0;cases e;obtain⟨cur,hg⟩:=cZ h (c:=g) rfl;refine .inr ⟨g,0,_,rfl,hg,hB,fun i hi=>?_⟩;have:=(hh i (by simpa using hi)).1;simpa [hi] using this
 ·exact .inl (List.length_eq_zero_iff.1 (by omega))
section
variable {X:Nat→Prop} {w w':World} {b:Nat} {n n':Nd} {q q':DV}
theorem DNs.reach [Old] (h:DNs X w b n q) (hcf:0<n.conf.length∧n.conf.length≤12) (hpos:∀x∈n.conf,0≤x∧x≤15) {K:Nat→Obj→Prop} (vm:Value) (hm:NumsAt .u64 K w vm (n.mat.map fun(x:Nat)=>(x:Int))):Calls Tryz.prog 78 #[q.vc,vm] w fun e w'=>e=.returned (.int .u64 (n.reach:Nat))∧w=w':=by
 obtain⟨a,c,e⟩:=h.cf.form;have hc:=h.cf;rw[e] at hc;obtain⟨b1,off,rfl⟩:=hc.addr hcf.1;rw[e];refine(q8 w b1 off c vm n.conf _ hc hm (by rw[List.length_map,h.ml];unfold maxLen;decide) hcf.2 hpos).mono fun e w' ⟨h1,h2⟩=>⟨?_,h2⟩
 have hp:=zQ (l:=n.mat) n.conf hcf.1
 have hb:bestK (reachL n.conf (n.mat.map fun(x:Nat)=>(x:Int)) n.conf.length) n.conf.length=midV (reachL n.conf (n.mat.map fun(x:Nat)=>(x:Int)) n.conf.length):=by
  have hlen:=fV n.conf (n.mat.map fun(x:Nat)=>(x:Int)) n.conf.length (Nat.le_refl _)
  have:=best_eq (l:=reachL n.conf (n.mat.map fun(x:Nat)=>(x:Int)) n.conf.length) (by omega) (fun x hx=>by unfold reachL at hx;obtain⟨y,_,e⟩:=List.mem_map.1 hx;rw[←e];exact Pw y)
  rw[hlen] at this;exact this
 rw[h1,hb];unfold Nd.reach;rw[Int.toNat_of_nonneg hp]
theorem qK [Old] (h:DNs X w b n q) (hcf:0<n.conf.length∧n.conf.length≤12) (hpos:∀x∈n.conf,0≤x∧x≤15) (hl:n.log.last+1<18446744073709551616) (hle:n.log.es.length≤900000):
 Calls Tryz.prog 26 #[.pointer (some ⟨b,0,none⟩)] w fun e w'=>e=.returned (.tuple #[])∧DNs X w' b n.sure q∧Fr (fun c _=>c≠b) w w':=by
 have H:=zH h;obtain⟨-,-,x2,-,-,-,-,-,-,-,-,-⟩:=h.cells (Fr.refl _ w);by_cases hr:n.role=3
 rotate_left
 ·have E:Hid (n.sure=n):=if_neg (fun e=>hr e.1);obtain⟨ro,hro⟩:=zE n.role;rw[hro] at x2 hr;refine kaZ ?_;intro g1 g2;clear h hr hro hcf hpos hl hle;go_enter Tryz.func26,Tryz.ntmps26
  go_wp2;(try simp only[Exit.inBlock,Exit.then]);refine bodyPost_ret (results_none rfl _ _ _) rfl ?_;rw[E.out];exact⟨rfl,H,Fr.refl _ _⟩
 ·rw[hr] at x2;have HML:Hid (n.mat.length=16):=h.ml;have MC:Hid (∀W,FT w W→∀k,k<16→W.cell? ⟨b,28+k,none⟩=some (.int .u64 (n.mat.getD k 0:Nat))):=fun W f k hk=>h.mtc f k hk
  have HC:=zH (And.intro hcf (And.intro hpos (And.intro hl (And.intro hle hr))));have RR:Hid (∀W,FT w W→W.cell? ⟨b,2,none⟩=some (.int .i64 3)):=fun W f=>by rw[(h.cells f).2.2.1,hr]
  clear h hcf hpos hl hle hr;go_enter Tryz.func26,Tryz.ntmps26
  go_wp2;go_loopw [2,3] (fun o i wr=>∃(k:Nat) (g:Option Addr) (c:Nat),i=.int .i64 (k:Nat)∧k≤16∧o=.slice g k c∧Hid (RowU wr w.heap.size (.slice g k c) ((n.mat.take k).map fun(x:Nat)=>(x:Int)))∧Hid (FT w wr)) (fun _ i _=>16-(intOf i).toNat)
  case atStart=>exact⟨0,none,0,rfl,Nat.zero_le _,rfl,RowU.nil _ _,Fr.refl _ _⟩
  case round=>
   obtain⟨k,g,c,rfl,hk,rfl,HO,HF⟩:=hrel;by_cases hlt:k<16
   ·have hltI:(k:Int)<16:=by omega
    have k0:(0:Int)≤(k:Int):=by omega
    have m0:=MC wr HF k hlt;obtain⟨y,hy⟩:=zE (n.mat.getD k 0);rw[hy] at m0
    have HR:Hid ((n.mat.take k).map (fun(x:Nat)=>(x:Int))++[((y:Nat):Int)]=(n.mat.take (k+1)).map fun(x:Nat)=>(x:Int)):=by
     show _=_;have hlt2:k<n.mat.length:=by rw[HML.out];exact hlt
     rw[List.take_succ_eq_append_getElem hlt2,List.map_append,←hy,List.getD_eq_getElem?_getD,List.getElem?_eq_getElem hlt2];rfl
    have HN:Hid (((n.mat.take (k+1)).map fun(x:Nat)=>(x:Int)).length=k+1):=by show _=_;rw[List.length_map,List.length_take,HML.out];omega
    obtain⟨ML,hML⟩:=zE (((n.mat.take (k+1)).map fun(x:Nat)=>(x:Int)));rw[hML] at HR HN;have HMM:=zH hML;clear hy hML;go_wp2_with (at_builtin;refine dz w wr (y:Nat) HF rfl _ _ rfl (.slice g k c) _ rfl HO rfl _ HR (by have:=HN.out;omega) ?_)
    intro a1 c1 w1 O1 F1;rw[HN.out] at O1 ⊢;go_wp2;go_roundw
    case rel=>exact⟨k+1,a1,c1,by go_num,by omega,rfl,by rw[HMM.out];exact O1.out,F1.out⟩
    case measure=>simp [intOf];omega
   ·have hge:¬(k:Int)<16:=by omega
    have hk16:k=16:=by omega
    subst hk16
    have HO2:Hid (RowU wr w.heap.size (.slice g 16 c) (n.mat.map fun(x:Nat)=>(x:Int))):=by have:=HO.out;rw[List.take_of_length_le (by rw[HML.out];exact Nat.le_refl _)] at this;exact this
    have HW:=zH (H.tt HF);have RC0:=HW.reach HC.1 HC.2.1 (.slice g 16 c) HO2.numsK
    obtain⟨ae,ce,hve,hrow⟩:∃a c',q.ve=.slice a q.es.length c'∧RowsAt (RO X) wr (.slice a q.es.length c') 3 encE q.es:=by obtain⟨a,c',e,_⟩:=HW.ev.row.form;exact⟨a,c',e,by rw[←e];exact HW.out.ev.row⟩
    obtain⟨le,hle⟩:=zE q.es.length;rw[hle] at hve hrow;have hel:=H.esl;obtain⟨r,hrr⟩:=zE n.reach;refine kr8 ?_;intro bs hbs bt hbt;obtain⟨tm,htm⟩:=zE n.tm;obtain⟨cm,hcm⟩:=zE n.commit;obtain⟨vc,hvc⟩:=zE q.vc;obtain⟨pt,hpt⟩:=zE ((n.log.term r).1);obtain⟨pk,hpk⟩:=zE ((n.log.term r).2);have hlg:lgE bs bt q.es=n.log:=by unfold lgE;rw[←hbs,←hbt,←H.out.ee]
    have hl2:bs+le<18446744073709551616:=by have:=HC.out.2.2.1;unfold Lg.last at this;omega
    have hle2:le≤2000000:=by have:=HC.out.2.2.2.1;omega
    have TC:=zH (fun W (f:FT wr W)=>f_ W bs bt r ae le ce q.es (hrow.tt f) hl2 hle2);rw[hlg,hpt,hpk] at TC;dsimp only[vL9] at TC;rw[hrr,hvc] at RC0;have RC:=zH RC0
    have CON:(n.role=3∧n.log.term n.reach=(n.tm,true)∧n.commit<n.reach)↔(pk=true∧pt=tm∧cm<r):=by rw[hrr,htm,hcm,←hpk,←hpt,Prod.ext_iff];exact⟨fun e=>⟨e.2.1.2,e.2.1.1,e.2.2⟩,fun e=>⟨HC.2.2.2.2,⟨e.2.1,e.1⟩,e.2.2⟩⟩
    have hs1:n.sure=if n.role=3∧n.log.term n.reach=(n.tm,true)∧n.commit<n.reach then { n with commit:=n.reach } else n:=rfl
    rw[hrr] at hs1 CON;have HS:=zH hs1;have HCC:=zH CON
    have CD:Hid (∀W,FT wr W→W.cell? ⟨b,4,none⟩=some vc∧W.cell? ⟨b,6,none⟩=some (.int .u64 (tm:Nat))∧W.cell? ⟨b,7,none⟩=some (.int .u64 (cm:Nat))∧W.cell? ⟨b,8,none⟩=some (.int .u64 (bs:Nat))∧W.cell? ⟨b,9,none⟩=some (.int .u64 (bt:Nat))∧W.cell? ⟨b,10,none⟩=some (.slice ae le ce)):=fun W f=>by obtain⟨x0,x1,x2,x3,x4,x5,x6,x7,x8,x9,x10,x11⟩:=HW.cells f;exact⟨by rw[x4,hvc],by rw[x6,htm],by rw[x7,hcm],by rw[x8,hbs],by rw[x9,hbt],by rw[x10,hve]⟩
    obtain⟨y4,y6,y7,y8,y9,y10⟩:=CD wr (Fr.refl _ _);clear RC0 hve hrow hle hel hrr hbs hbt htm hcm hvc hpt hpk hlg hl2 hle2 CON hs1 x2;go_wp2_with fail
    (with_reducible refine RC.out.mono ?_);rintro e w1 ⟨rfl,rfl⟩;clear RC;go_wp2_with fail
    (with_reducible refine(TC.out _ (Fr.refl _ _)).mono ?_);rintro e w2 ⟨rfl,f2⟩;have F2:=zH f2;have FE:=zH (HF.trans f2);have H2:=zH (HW.tt f2);clear TC f2 y4 y6 y7 y8 y9 y10;obtain⟨y4,y6,y7,y8,y9,y10⟩:=CD w2 F2;by_cases hlt:cm<r
    ·have g2:decide (cm<r)=true:=decide_eq_true hlt;cases pk with
     | false=>
      have E:Hid (n.sure=n):=HS.out.trans (if_neg (fun e=>by have:=(HCC.out.1 e).1;cases this));clear HS HCC hlt;go_wp2;go_end0;rw[E.out];exact⟨rfl,H2,FE.tT⟩
     | true=>
      by_cases he:pt=tm
      ·subst he;have g1:((pt:Int)==(pt:Int))=true:=by simp
       have E:Hid (n.sure={ n with commit:=r }):=HS.trans (if_pos (HCC.2 ⟨rfl,rfl,hlt⟩));have z7:=H2.free (Fr.refl _ w2) 7;clear HS HCC hlt;go_wp2;go_end0;rw[E.out];exact⟨rfl,H2.re (b_ b [(7,.int .u64 (r:Nat))] w2) (bw [(7,.int .u64 (r:Nat))] H2.top) ⟨rfl,rfl⟩ (H2.ye.aft (H2.own (b_ b [(7,.int .u64 (r:Nat))] w2))) ⟨H2.ee,H2.ev.aft (H2.own (b_ b [(7,.int .u64 (r:Nat))] w2))⟩ ⟨H2.nl,H2.ml⟩,(FE.tT).trans (b_ b [(7,.int .u64 (r:Nat))] w2)⟩
      ·have g1:((pt:Int)==(tm:Int))=false:=by simp;omega
       have E:Hid (n.sure=n):=HS.trans (if_neg (fun e=>he (HCC.1 e).2.1));clear HS HCC hlt he;go_wp2;go_end0;rw[E.out];exact⟨rfl,H2,FE.tT⟩
    ·have g2:decide (cm<r)=false:=decide_eq_false hlt;have E:Hid (n.sure=n):=HS.trans (if_neg (fun e=>hlt (HCC.1 e).2.2));clear HS HCC hlt;go_wp2;go_end0;rw[E.out];exact⟨rfl,H2,FE.tT⟩
end
end Go.Proofs.YtmjccpfchhnfhaaGreat
