/- Texts of the proofs, part 29: what the functions that they reach do, walked; no conditions beyond those that each states. -/
import Derived.Deep.QuietTactic
import Derived.BigQuiet
import Derived.Test.YtmjccpfchhnfhaaGreatZkd240972508
import Derived.Test.YtmjccpfchhnfhaaGreatZk48c22ed045
set_option linter.unusedVariables false
set_option linter.unusedSimpArgs false
set_option maxRecDepth 100000
set_option maxHeartbeats 8000000
namespace Go.Proofs.YtmjccpfchhnfhaaGreat
open Go.RowKit
theorem kf6 {p q:Prop} (k:q) (h:q→p:=by
 have FX:Hid (FT W7 W):=(Fr.refl _ W7).drew.trans HF;have T9:Hid (W.heap[g]? = some (.cells (cM (aMV k1 me s 0 false)) 32 (0,0))):=FX.keep _ _ T7 trivial;have v7:=(bq T9).2.2.2.2.2.2.2.1;have z7:=bV (i:=7) T9;intro kk0;revert z7;revert v7;revert T9;revert FX;exact kk0):p:=h k
theorem mDN {p:Prop} (h:p:=by
 skip
 go_simp;exact hK _ _ _ rfl (Fr.refl _ _) trivial):p:=h
theorem mHO {p:Prop} (h:p:=by
 clear NC WC CC VC7 FX f10 T9;refine wpN 15 rfl fun K' hK=>?_
 skip
 go_simp;refine hK _ _ ?_;clear hK K';refine wpF ?_
 try rw[hW10]
 exact L_ (fun fu=>TAIL10 _ _ PRE fu) (by kernel_rfl)):p:=h
theorem mMr {p:Prop} (h:p:=by
 intro xs W HF K' hK;obtain⟨y8,y9,y10⟩:=CC W ((Fr.refl _ W7).drew.trans HF);obtain⟨v0,v1,v2,v3,v4,v5,v6,v7,v8,v9⟩:=bq (VC7 W ((Fr.refl _ W7).drew.trans HF));exact mD8):p:=h
section
variable {X P:Nat→Prop} {w w':World} {b:Nat} {n n':Nd} {q q':NV}
theorem DJ [Old] (h:PNs X P w b n q) (m:MV) (hl:n.log.last+1<18446744073709551616) (hle:n.log.es.length≤900000):
 Calls Tryz.prog 86 #[.pointer (some ⟨b,0,none⟩),.agg (cM m)] w fun e w'=>jq X P w b (n.onAsk m.ms) e w':=by
 obtain⟨W1,hW1,F1,X1⟩:=xv w m;obtain⟨g0,hg0⟩:=zE w.heap.size;rw[hg0] at X1;have H:=zH h;have HG0:=zH hg0;obtain⟨k,hk⟩:=zE m.kind;obtain⟨s,hs⟩:=zE m.src;obtain⟨me,hme⟩:=zE n.me;have HK:=zH hk;have HS:=zH hs;have HME:=zH hme;have VC:Hid (∀W,FT W1 W→W.heap[g0]? = some (.cells (cM m) 32 (0,0))):=fun W f=>f.keep _ _ X1 trivial
 have UD:Hid (FT w W1.drew):=F1.drew;unfold cM at hW1 ⊢;clear h hg0 hk hs hme;go_enter Tryz.func86,Tryz.ntmps86
 go_wp2_with fail
 try rw[hW1]
 rw[HG0.out];clear hW1;refine wpR [(6,0),(7,1),(8,2),(9,3),(10,4),(11,5),(12,6),(5,7)] [(0,[]),(1,[0]),(2,[1]),(3,[2]),(4,[]),(5,[4]),(6,[3,5]),(7,[])] (ckR [(0,.pointer (some ⟨b,0,none⟩)),(1,.pointer (some ⟨b,0,none⟩)),(2,.pointer (some ⟨b,0,none⟩)),(3,.int .i64 me),(4,.pointer (some ⟨g0,1,none⟩)),(5,.int .i64 s),(6,.agg #[.int .i64 0,.int .i64 me,.int .i64 s,.int .u64 0,.int .u64 0,.int .u64 0,.int .u64 0,.bool false,.slice none 0 0,.slice none 0 0])] [(7,⟨fun v W=>∃g,v=.pointer (some ⟨g,0,none⟩)∧g0<g∧W.heap[g]? = some (.cells (cM zMV) 32 (0,0)),fun v W W' h hf=>by obtain⟨g,h1,h2,h3⟩:=h;exact⟨g,h1,h2,hf.keep _ _ h3 trivial⟩⟩)] 8 0) 1 rfl ?cfall ?cfend
 case cfall=>
  iterate 7
   refine bY.q rfl rfl rfl (kQQ ?_) ?_
   ·intro xs W HF K' hK;have y0:W.cell? ⟨b,0,none⟩=some (.int .i64 me):=by rw[←HME.out];exact(H.out.cells (UD.out.trans HF.out)).1
    have v1:W.cell? ⟨g0,1,none⟩=some (.int .i64 s):=by rw[←HS.out];exact(bq (VC.out W ((Fr.refl _ W1).drew.trans HF.out))).2.1
    exact mD8
  refine bY.p rfl rfl (kPP ?_) ?_
  ·intro xs W HF K' hK;have SB:Hid (g0<W.heap.size):=bX (VC W ((Fr.refl _ W1).drew.trans HF));exact mWB
  exact m36
 case cfend=>
  refine kEH ?_;intro xs W HF hA;have h7:=hA (7,[]) (by decide);clear hA;obtain⟨g,e7,hgw,tg⟩:=h7;rw[e7];have HGW:=zH hgw;have FW:=zH (UD.trans HF);have F1W:Hid (FT W1 W):=(Fr.refl _ W1).drew.trans HF;obtain⟨W2,hW2',t2,f2⟩:=Jj tg (.int .i64 0) (.int .i64 me) (.int .i64 s) (.int .u64 0) (.int .u64 0) (.int .u64 0) (.int .u64 0) (.bool false) (.slice none 0 0) (.slice none 0 0);have T2:Hid (W2.heap[g]? = some (.cells (cM (aMV 0 me s 0 false)) 32 (0,0))):=t2;have F2:=zH f2;clear t2 f2;have H2:=zH ((H.out.tt FW.out).msg F2.out ⟨_,_,tg⟩ (by have:=bX H.out.top;have:=HGW.out;have:=HG0.out;omega));have FP2:Hid (Fr (fun c _=>¬P c) w W2):=((FW.out.tT:Fr (fun c _=>¬P c∧c<w.heap.size) w W).trans (F2.out.mono fun c _ h e=>by have:=h.2;have:=HGW.out;have:=HG0.out;omega)).within;have T02:Hid (W2.heap[g0]? = some (.cells (cM m) 32 (0,0))):=F2.out.keep _ _ (VC.out W F1W.out) (by have:=HGW.out;omega);refine kwD ?_;intro v0 v1 v2 v3 v4 v5 v6 v7 v8 v9 z0 z1 z2 z3 z4 z5 z6 z7 z8 z9;refine wpN 8 rfl fun K' hK=>?_
  skip
  go_simp;refine hK _ _ ?_;clear hK K';refine wpF ?_
  try rw[hW2']
  clear z0 z1 z2 z3 z4 z5 z6 z7 z8 z9 v0 v1 v2 v3 v4 v5 v6 v7 v8 v9 hW2' tg;have gb:Hid (g0≠b∧g≠b):=by have:=bX H.out.top;have:=HG0.out;have:=HGW.out;show _∧_;omega
  have v0:W2.cell? ⟨g0,0,none⟩=some (.int .i64 k):=by rw[←HK.out];exact(bq T02.out).1
  go_upto_region 3 with fail
  rename_i K9 h9 K8 h8 K7 h7 K6 h6 K5 h5 K4 h4 K3 h3;have H9:=zH h9
  have TAIL:∀(n1:Nd) (q1:NV) (Wf:World),Hid ((k=1∨k=3)∧PNs X P Wf b n1 q1∧Fr (fun c _=>c≠b) W2 Wf∧q1.es=q.es∧n1.log=n.log∧(if m.kind=1∧n.tm<m.tm then n.follow m.tm (-1) else n)=n1)→∀(fu:Nat→Value),K7 { tmps:=tU 75 fu [(0,.pointer (some ⟨b,0,none⟩)),(3,.pointer (some ⟨g0,0,none⟩)),(5,.pointer (some ⟨g,0,none⟩)),(14,.int .i64 k)],defers:=[] } Wf:=by
   intro n1 q1 Wf PR fu;simp only[tU,tL,Nat.reduceAdd,Nat.reduceBEq,cond_true,cond_false];refine h7 _ _ ?_;clear h9 h8 h7 h6 h5 h4 h3 v0;obtain⟨k1,hk1⟩:=zE (k+1);have wk:IntKind.i64.wrap (k+1)=k1:=by rw[IntKind.wrap_i64];have:=PR.out.1;omega
   have HK1:=zH hk1;have Tf:Hid (Wf.heap[g]? = some (.cells (cM (aMV 0 me s 0 false)) 32 (0,0))):=PR.2.2.1.keep _ _ T2 gb.2;have T0f:Hid (Wf.heap[g0]? = some (.cells (cM m) 32 (0,0))):=PR.2.2.1.keep _ _ T02 gb.1;have FPf:Hid (Fr (fun c _=>¬P c) w Wf):=FP2.out.trans (PR.out.2.2.1.mono fun c _ hc e=>hc (e▸H.out.pb));have v0:Wf.cell? ⟨g0,0,none⟩=some (.int .i64 k):=by rw[←HK.out];exact(bq T0f.out).1
   have v1:=(bq Tf).1;have z0:=bV (i:=0) Tf;obtain⟨W7,hW7⟩:=zE (Wf.setCell ⟨g,0,none⟩ (.int .i64 k1));have f7:Fr (fun c _=>c≠g) Wf W7:=hW7▸(Fr.refl _ _).setCell (fun _ _ h=>h rfl) _;have T7:Hid (W7.heap[g]? = some (.cells (cM (aMV k1 me s 0 false)) 32 (0,0))):=hW7▸bJ (o:=0) Tf.out (.int .i64 k1);have T07:Hid (W7.heap[g0]? = some (.cells (cM m) 32 (0,0))):=f7.keep _ _ T0f.out (by have:=HGW.out;omega);have H7:=zH (PR.out.2.1.msg f7 ⟨_,_,Tf.out⟩ (by have:=bX H.out.top;have:=HGW.out;have:=HG0.out;omega));have FP7:Hid (Fr (fun c _=>¬P c) w W7):=((FPf.out.mono fun _ _ h=>h.1:Fr (fun c _=>¬P c∧c<w.heap.size) w Wf).trans (f7.mono fun c _ h e=>by have:=h.2;have:=HGW.out;have:=HG0.out;omega)).within;clear hk1;go_wp2
   try rw[hW7]
   clear v0 v1 z0 hW7 f7 wk;refine H9 _ _ ?_;clear H9
   obtain⟨ae,le,ce,hve⟩:∃ae le ce,q1.ve=.slice ae le ce:=by obtain⟨a,c,e,_⟩:=H7.ev.row.form;exact⟨a,_,c,e⟩
   obtain⟨bs,hbs⟩:=zE n1.log.base;obtain⟨bt,hbt⟩:=zE n1.log.bt;have hle1:q1.es.length=le:=by have:=H7.out.ev.row;rw[hve] at this;exact this.len'.symm
   have hlg:n1.log=lgE bs bt q1.es:=by unfold lgE;rw[←hbs,←hbt,←H7.out.ee]
   obtain⟨nw,hnw⟩:=zE (n1.log.newer m.prev m.index);obtain⟨wd,hwd⟩:=zE (n1.would m.ms)
   have NC:Hid (∀W,FT W7 W→Calls Tryz.prog 120 #[.agg #[.int .u64 (bs:Nat),.int .u64 (bt:Nat),.slice ae le ce],.int .u64 (m.prev:Nat),.int .u64 (m.index:Nat)] W fun e w'=>e=.returned (.bool nw)∧FT W w'):=fun W f=>by rw[←hnw,hlg];refine yQ W bs bt m.prev m.index ae le ce q1.es (hve▸H7.out.ev.row.tt f) ?_;have e1:=PR.2.2.2.2.1;have e2:=H.esl;have e3:=PR.2.2.2.1;rw[←hbs,e1,←hle1,e3,←e2];unfold Lg.last at hl;omega
   have WC:Hid (∀W,FT W7 W→Calls Tryz.prog 121 #[.pointer (some ⟨b,0,none⟩),.agg #[.int .i64 m.kind,.int .i64 m.src,.int .i64 m.dst,.int .u64 (m.tm:Nat),.int .u64 (m.index:Nat),.int .u64 (m.prev:Nat),.int .u64 (m.commit:Nat),.bool m.ok,.slice m.da m.d.length m.dc,.slice m.ea m.es.length m.ec]] W fun e w'=>e=.returned (.bool wd)∧FT W w'):=fun W f=>by rw[←hwd];exact Cq (H7.tt f) m
   have CC:Hid (∀W,FT W7 W→W.cell? ⟨b,8,none⟩=some (.int .u64 (bs:Nat))∧W.cell? ⟨b,9,none⟩=some (.int .u64 (bt:Nat))∧W.cell? ⟨b,10,none⟩=some (.slice ae le ce)):=fun W f=>by obtain⟨x0,x1,x2,x3,x4,x5,x6,x7,x8,x9,x10,x11,x12,x13⟩:=H7.cells f;exact⟨by rw[x8,hbs],by rw[x9,hbt],by rw[x10,hve]⟩
   have VC7:Hid (∀W,FT W7 W→W.heap[g0]? = some (.cells (cM m) 32 (0,0))):=fun W f=>f.keep _ _ T07 trivial
   have AT10:Hid (∀(ok:Bool) (W W10:World),FT W7 W→Fr (fun c _=>c≠g) W W10→W10.heap[g]? = some (.cells (cM (aMV k1 me s 0 ok)) 32 (0,0))→(n1.log.newer m.prev m.index&&n1.would m.ms)=ok→Hid (PNs X P W10 b n1 q1∧Fr (fun c _=>¬P c) w W10∧W10.heap[g]? = some (.cells (cM (aMV k1 me s 0 ok)) 32 (0,0))∧W10.heap[g0]? = some (.cells (cM m) 32 (0,0))∧(n1.log.newer m.prev m.index&&n1.would m.ms)=ok)):=fun ok W W10 f f10 t10 e=>by have t9:=f.keep _ _ T7 trivial;exact⟨(H7.out.tt f).msg f10 ⟨_,_,t9⟩ (by have:=bX H.out.top;have:=HGW.out;have:=HG0.out;omega),(((FP7.out.trans (f.tT)).mono fun _ _ h=>h.1:Fr (fun c _=>¬P c∧c<w.heap.size) w W).trans (f10.mono fun c _ h e=>by have:=h.2;have:=HGW.out;have:=HG0.out;omega)).within,t10,f10.keep _ _ (f.keep _ _ T07.out trivial) (by have:=HGW.out;omega),e⟩
   have HNW:=zH hnw;have HWD:=zH hwd;clear hve hbs hbt hle1 hlg hnw hwd;go_upto_region 9 with fail
   rename_i K10 h10
   have TAIL10:∀(ok:Bool) (W10:World),Hid (PNs X P W10 b n1 q1∧Fr (fun c _=>¬P c) w W10∧W10.heap[g]? = some (.cells (cM (aMV k1 me s 0 ok)) 32 (0,0))∧W10.heap[g0]? = some (.cells (cM m) 32 (0,0))∧(n1.log.newer m.prev m.index&&n1.would m.ms)=ok)→∀(fu:Nat→Value),K10 { tmps:=tU 75 fu [(0,.pointer (some ⟨b,0,none⟩)),(3,.pointer (some ⟨g0,0,none⟩)),(5,.pointer (some ⟨g,0,none⟩)),(14,.int .i64 k)],defers:=[] } W10:=by
    intro ok W10 PQ fu;simp only[tU,tL,Nat.reduceAdd,Nat.reduceBEq,cond_true,cond_false];refine h10 _ _ ?_;clear h10;obtain⟨t1,ht1⟩:=zE n1.tm;have y6:=(PQ.1.cells (Fr.refl _ W10)).2.2.2.2.2.2.1;rw[ht1] at y6;have v3:=(bq PQ.2.2.1).2.2.2.1;have z3:=bV (i:=3) PQ.2.2.1;obtain⟨W11,hW11⟩:=zE (W10.setCell ⟨g,3,none⟩ (.int .u64 (t1:Nat)));have f11:Fr (fun c _=>c≠g) W10 W11:=hW11▸(Fr.refl _ _).setCell (fun _ _ h=>h rfl) _;have T11:Hid (W11.heap[g]? = some (.cells (cM (aMV k1 me s t1 ok)) 32 (0,0))):=hW11▸bJ (o:=3) PQ.out.2.2.1 (.int .u64 (t1:Nat));have T011:Hid (W11.heap[g0]? = some (.cells (cM m) 32 (0,0))):=f11.keep _ _ PQ.out.2.2.2.1 (by have:=HGW.out;omega);have H11:=zH (PQ.out.1.msg f11 ⟨_,_,PQ.out.2.2.1⟩ (by have:=bX H.out.top;have:=HGW.out;have:=HG0.out;omega));have FP11:Hid (Fr (fun c _=>¬P c) w W11):=((PQ.out.2.1.mono fun _ _ h=>h.1:Fr (fun c _=>¬P c∧c<w.heap.size) w W10).trans (f11.mono fun c _ h e=>by have:=h.2;have:=HGW.out;have:=HG0.out;omega)).within;have w7:=(bq T11).2.2.2.2.2.2.2.1;have u0:W11.cell? ⟨g0,0,none⟩=some (.int .i64 k):=by rw[←HK.out];exact(bq T011.out).1
    have OUTG:Hid (∀(n2:Nd) (tt:Nat),(if ok=true∧k=1 then { n1 with vote:=s } else n1)=n2→(if ok=true∧k=3 then m.tm else t1)=tt→n.onAsk m.ms=(n2,[(aMV k1 me s tt ok).ms])):=fun n2 tt e1 e2=>by
     unfold Nd.onAsk;refine(if_pos (show m.kind=1∨m.kind=3 by rw[HK.out];exact PR.out.1)).trans ?_
     show (let n1:Nd:=if m.kind=1∧n.tm<m.tm then n.follow m.tm (-1) else n
      let ok:=n1.log.newer m.prev m.index&&n1.would m.ms
      ((if ok=true∧m.kind=1 then { n1 with vote:=m.src } else n1,[{ zMs with kind:=m.kind+1,src:=n.me,dst:=m.src,tm:=if ok=true∧m.kind=3 then m.tm else n1.tm,ok:=ok }]):Nd×List Ms))=_
     rw[PR.out.2.2.2.2.2];dsimp only;rw[PQ.out.2.2.2.2,HK.out,HME.out,HS.out,e1,ht1,e2,HK1.out];rfl
    have KOR:Hid (k=1∨k=3):=PR.1;clear ht1 f11 PQ AT10 PR;cases ok with
    | false=>
     have OUT:=zH (OUTG n1 t1 (if_neg (fun e=>by cases e.1)) (if_neg (fun e=>by cases e.1)));obtain⟨a0,a1,a2,a3,a4,a5,a6,a7,a8,a9⟩:=bq T11;clear OUTG;go_wp2
     try rw[hW11]
     go_ret;rw[OUT.out];exact⟨X,P,q1,_,[aMV k1 me s t1 false],rfl,H11.tt ((Fr.refl _ W11).alloc _),(Aft.of FP11 H.px).tr ((Fr.refl _ W11).alloc _),(OwnMs.one (aMV k1 me s t1 false) H11.hx (q_ _ _ _ _ _ _ _)).lo FP11.size,rfl⟩
    | true=>
     by_cases hk3:k=3
     ·subst hk3;have u3:=(bq T011).2.2.2.1;have w3:=(bq T11).2.2.2.1;have x3:=bV (i:=3) T11;obtain⟨W12,hW12⟩:=zE (W11.setCell ⟨g,3,none⟩ (.int .u64 (m.tm:Nat)));have f12:Fr (fun c _=>c≠g) W11 W12:=hW12▸(Fr.refl _ _).setCell (fun _ _ h=>h rfl) _;have T12:Hid (W12.heap[g]? = some (.cells (cM (aMV k1 me s m.tm true)) 32 (0,0))):=hW12▸bJ (o:=3) T11.out (.int .u64 (m.tm:Nat));have H12:=zH (H11.out.msg f12 ⟨_,_,T11.out⟩ (by have:=bX H.out.top;have:=HGW.out;have:=HG0.out;omega));have FP12:Hid (Fr (fun c _=>¬P c) w W12):=((FP11.out.mono fun _ _ h=>h.1:Fr (fun c _=>¬P c∧c<w.heap.size) w W11).trans (f12.mono fun c _ h e=>by have:=h.2;have:=HGW.out;have:=HG0.out;omega)).within;have OUT:=zH (OUTG.out n1 m.tm (if_neg (fun e=>by have:=e.2;revert this;decide)) (if_pos ⟨rfl,rfl⟩));obtain⟨a0,a1,a2,a3,a4,a5,a6,a7,a8,a9⟩:=bq T12;clear OUTG;go_wp2
      try rw[hW11]
      try rw[hW12]
      go_ret;rw[OUT.out];exact⟨X,P,q1,_,[aMV k1 me s m.tm true],rfl,H12.tt ((Fr.refl _ W12).alloc _),(Aft.of FP12 H.px).tr ((Fr.refl _ W12).alloc _),(OwnMs.one (aMV k1 me s m.tm true) H12.hx (q_ _ _ _ _ _ _ _)).lo FP12.size,rfl⟩
     ·obtain rfl:k=1:=by have:=KOR.out;omega
      have u1:W11.cell? ⟨g0,1,none⟩=some (.int .i64 s):=by rw[←HS.out];exact(bq T011.out).2.1
      have w1:=(H11.cells (Fr.refl _ W11)).2.1;have x1:=H11.free (Fr.refl _ W11) 1;obtain⟨W12,hW12⟩:=zE (W11.setCell ⟨b,1,none⟩ (.int .i64 s));have f12:Fr (fun c _=>c≠b) W11 W12:=hW12▸(Fr.refl _ _).setCell (fun _ _ h=>h rfl) _;have T12:Hid (W12.heap[g]? = some (.cells (cM (aMV k1 me s t1 true)) 32 (0,0))):=f12.keep _ _ T11 gb.2;have H12:Hid (PNs X P W12 b { n1 with vote:=s } q1):=hW12▸H11.out.re (n':={ n1 with vote:=s }) (w':=kV W11 b [(1,.int .i64 s)]) (b_ b _ _) (bw _ H11.out.top) ⟨rfl,rfl⟩ (.inl ⟨rfl,rfl⟩) ⟨rfl,rfl,rfl⟩ ⟨rfl,rfl,rfl,rfl⟩;have FP12:Hid (Fr (fun c _=>¬P c) w W12):=FP11.out.trans (f12.mono fun c _ hc e=>hc (e▸H.out.pb));have OUT:=zH (OUTG.out { n1 with vote:=s } t1 (if_pos ⟨rfl,rfl⟩) (if_neg (fun e=>by have:=e.2;revert this;decide)));obtain⟨a0,a1,a2,a3,a4,a5,a6,a7,a8,a9⟩:=bq T12;clear OUTG;go_wp2
      try rw[hW11]
      try rw[hW12]
      go_ret;rw[OUT.out];exact⟨X,P,q1,_,[aMV k1 me s t1 true],rfl,H12.tt ((Fr.refl _ W12).alloc _),(Aft.of FP12 H.px).tr ((Fr.refl _ W12).alloc _),(OwnMs.one (aMV k1 me s t1 true) H12.hx (q_ _ _ _ _ _ _ _)).lo FP12.size,rfl⟩
   clear h10;cases nw with
   | false=>
    refine wpR [(34,0),(35,1),(36,2),(37,3),(38,4),(39,5),(40,6),(41,7),(42,8),(43,9),(44,10),(45,11),(46,12),(47,13),(48,14)] [(0,[]),(1,[0]),(2,[1]),(3,[2]),(4,[]),(5,[4]),(6,[]),(7,[6]),(9,[8]),(13,[9,12]),(14,[]),(8,[3,5,7]),(10,[9]),(11,[9]),(12,[9,10,11])] (ckR [(0,.pointer (some ⟨b,0,none⟩)),(1,.pointer (some ⟨b,0,none⟩)),(2,.pointer (some ⟨b,8,none⟩)),(3,.agg #[.int .u64 (bs:Nat),.int .u64 (bt:Nat),.slice ae le ce]),(4,.pointer (some ⟨g0,5,none⟩)),(5,.int .u64 (m.prev:Nat)),(6,.pointer (some ⟨g0,4,none⟩)),(7,.int .u64 (m.index:Nat)),(8,.bool false),(9,.bool false),(13,.bool false),(14,.pointer (some ⟨g,7,none⟩))] [] 15 0) 1 rfl ?cfall ?cfend
    case cfall=>
     iterate 11
      refine bY.q rfl rfl rfl (kQQ ?_) ?_
      ·exact mMr
     refine bY.p rfl rfl (kPP ?_) ?_
     ·intro xs W HF K' hK;have LA1:=zH (NC W ((Fr.refl _ W7).drew.trans HF));exact mBg
     refine bY.p rfl rfl (kPP ?_) ?_
     ·intro xs W HF K' hK;exact mDN
     refine bY.p rfl rfl (kPP ?_) ?_
     ·intro xs W HF K' hK;exact mDN
     refine bY.p rfl rfl (kPH ?_) ?_
     ·intro xs W HF hA K' hK;have h10:=hA 10 (by decide);have h11:=hA 11 (by decide);clear hA;exact mDN
     exact m36
    case cfend=>refine kEE ?_;intro xs W HF;refine kf6 ?_;intro FX T9 v7 z7;obtain⟨W10,hW10⟩:=zE (W.setCell ⟨g,7,none⟩ (.bool false));have f10:Fr (fun c _=>c≠g) W W10:=hW10▸(Fr.refl _ _).setCell (fun _ _ h=>h rfl) _;have PRE:=AT10.out false W W10 FX.out f10 (hW10▸bJ (o:=7) T9.out (.bool false)) (by rw[HNW.out];rfl);exact mHO
   | true=>
    refine wpR [(34,0),(35,1),(36,2),(37,3),(38,4),(39,5),(40,6),(41,7),(42,8),(43,9),(44,10),(45,11),(46,12),(47,13),(48,14)] [(0,[]),(1,[0]),(2,[1]),(3,[2]),(4,[]),(5,[4]),(6,[]),(7,[6]),(9,[8]),(10,[9]),(11,[9]),(13,[9,12]),(14,[]),(8,[3,5,7]),(12,[9,10,11])] (ckR [(0,.pointer (some ⟨b,0,none⟩)),(1,.pointer (some ⟨b,0,none⟩)),(2,.pointer (some ⟨b,8,none⟩)),(3,.agg #[.int .u64 (bs:Nat),.int .u64 (bt:Nat),.slice ae le ce]),(4,.pointer (some ⟨g0,5,none⟩)),(5,.int .u64 (m.prev:Nat)),(6,.pointer (some ⟨g0,4,none⟩)),(7,.int .u64 (m.index:Nat)),(8,.bool true),(9,.bool true),(10,.pointer (some ⟨b,0,none⟩)),(11,.agg #[.int .i64 m.kind,.int .i64 m.src,.int .i64 m.dst,.int .u64 (m.tm:Nat),.int .u64 (m.index:Nat),.int .u64 (m.prev:Nat),.int .u64 (m.commit:Nat),.bool m.ok,.slice m.da m.d.length m.dc,.slice m.ea m.es.length m.ec]),(12,.bool wd),(13,.bool wd),(14,.pointer (some ⟨g,7,none⟩))] [] 15 0) 1 rfl ?cfall ?cfend
    case cfall=>
     iterate 13
      refine bY.q rfl rfl rfl (kQQ ?_) ?_
      ·exact mMr
     refine bY.p rfl rfl (kPP ?_) ?_
     ·intro xs W HF K' hK;have LA1:=zH (NC W ((Fr.refl _ W7).drew.trans HF));exact mBg
     refine bY.p rfl rfl (kPP ?_) ?_
     ·intro xs W HF K' hK;have LA1:=zH (WC W ((Fr.refl _ W7).drew.trans HF));exact mBg
     exact m36
    case cfend=>refine kEE ?_;intro xs W HF;refine kf6 ?_;intro FX T9 v7 z7;obtain⟨W10,hW10⟩:=zE (W.setCell ⟨g,7,none⟩ (.bool wd));have f10:Fr (fun c _=>c≠g) W W10:=hW10▸(Fr.refl _ _).setCell (fun _ _ h=>h rfl) _;have PRE:=AT10.out wd W W10 FX.out f10 (hW10▸bJ (o:=7) T9.out (.bool wd)) (by rw[HNW.out];rw[Bool.true_and,HWD.out]);exact mHO
  by_cases c1:k=1
  ·subst c1;have v3:=(bq T02).2.2.2.1;have y6:=(H2.cells (Fr.refl _ W2)).2.2.2.2.2.2.1;by_cases hf:n.tm<m.tm
   ·refine khT ?_;intro gl;have HF0:=zH hf;clear hf h9 h8 h7;go_wp2_with fail
    go_quiet (fail)
    clear v3 y6 gl v0;have FO:=zH (gJ (H2.tt ((Fr.refl _ W2).drewN nq)) m.tm (-1));have v3:=(bq (((Fr.refl _ W2).drewN nq:FT _ _).keep _ _ T02 trivial)).2.2.2.1;go_wp2_with fail
    (with_reducible refine FO.out.mono ?_);rintro e Wf ⟨rfl,h3,f3⟩;have H3:=zH (And.intro h3 f3);clear v3 FO h3 f3;go_wp2;exact L_ (fun fu=>TAIL _ _ _ ⟨(by simp),H3.out.1,((Fr.refl _ W2).drewN nq).trans H3.out.2,rfl,by unfold Nd.follow;split <;> rfl,if_pos ⟨HK.out,HF0.out⟩⟩ fu) (by kernel_rfl)
   ·have gl:decide (n.tm<m.tm)=false:=decide_eq_false hf;have HF0:=zH hf;clear hf h9 h8 h7;go_wp2_with fail
    go_quiet (fail)
    clear v3 y6 gl v0;go_wp2;exact L_ (fun fu=>TAIL n q _ ⟨(by simp),H2.out.tt ((Fr.refl _ W2).drewN nq),(Fr.refl _ W2).drewN nq,rfl,rfl,if_neg (fun e=>HF0.out e.2)⟩ fu) (by kernel_rfl)
  ·have g1:(k==1)=false:=by simpa using c1
   by_cases c3:k=3
   ·subst c3;clear c1 h9 h8 h7;go_wp2;exact L_ (fun fu=>TAIL n q _ ⟨(by simp),H2.out,Fr.refl _ _,rfl,rfl,if_neg (fun e=>by have:=e.1;rw[HK.out] at this;omega)⟩ fu) (by kernel_rfl)
   ·have g3:(k==3)=false:=by simpa using c3
    have E:Hid (n.onAsk m.ms=(n,[])):=by show _=_;unfold Nd.onAsk;rw[if_neg (by rw[show m.ms.kind=k from HK.out];omega)]
    clear c1 c3 TAIL h9 H9 h7;go_wp2;go_ret;rw[E.out];exact⟨X,P,q,_,[],rfl,H2,.of FP2 H.px,OwnMs.nil _ _ _,rfl⟩
end
def encW (x:Nat):List Value:=[.int .u64 (x:Nat)]
theorem zx:∀(xs:List Nat),xs.flatMap encW=xs.map d8
 | []=>rfl
 | x :: xs=>by rw[List.flatMap_cons,zx xs];rfl
end Go.Proofs.YtmjccpfchhnfhaaGreat
