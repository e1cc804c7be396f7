/- Texts of the proofs, part 22: what the functions that they reach do, walked; no conditions beyond those that each states. -/
import Derived.Deep.QuietTactic
import Derived.BigQuiet
import Derived.Test.YtmjccpfchhnfhaaGreatZkcbf6ef3281
import Derived.Test.YtmjccpfchhnfhaaGreatZkf3f7eef4fd
set_option linter.unusedVariables false
set_option linter.unusedSimpArgs false
set_option maxRecDepth 100000
set_option maxHeartbeats 8000000
namespace Go.Proofs.YtmjccpfchhnfhaaGreat
open Go.RowKit
section
variable {X P:Nat→Prop} {w w':World} {b:Nat} {n n':Nd} {q q':NV}
theorem Nd.follow_log (n:Nd) (t:Nat) (l:Int):(n.follow t l).log=n.log∧(n.follow t l).me=n.me∧(n.follow t l).commit=n.commit:=by
 unfold Nd.follow;split <;> exact⟨rfl,rfl,rfl⟩
theorem n_ [Old] (h:PNs X P w b n q) (m:MV) (hm:MsAt X w m) (hk5:m.kind≠5) (hix:m.index+m.es.length+1<18446744073709551616) (hes:m.es.length≤900000) (hl:n.log.last+1<18446744073709551616) (hle:n.log.es.length≤900000):
 Calls Tryz.prog 10 #[.pointer (some ⟨b,0,none⟩),.agg (cM m)] w fun e w'=>jz X P w b (n.onAppend m.ms) e w':=by
 obtain⟨W1,hW1,F1,X1⟩:=gW w m;obtain⟨g0,hg0⟩:=zE w.heap.size;rw[hg0] at X1;have H:=zH h;have HG0:=zH hg0;have gb:Hid (g0≠b):=by have:=bZ h.top;show _≠_;omega
 obtain⟨k,hk⟩:=zE m.kind;have v0:W1.cell? ⟨g0,0,none⟩=some (.int .i64 k):=by rw[←hk];exact(bq X1.out).1
 have k5:(k==5)=false:=by rw[←hk];simpa using hk5
 have k5':(k != 5)=true:=by rw[bne,k5];rfl
 have E:Hid (n.onAppend m.ms=(n,[])):=if_pos hk5;unfold cM at hW1 ⊢;clear h hk hk5 hm hix hes hl hle;go_enter Tryz.func10,Tryz.ntmps10
 go_wp2
 try rw[hW1]
 go_ret;rw[E.out];exact⟨X,P,q,_,[],rfl,H.out.tt F1.out,.tt F1.out H.out.px,OwnMs.nil _ _ _,rfl⟩
theorem nv [Old] (h:PNs X P w b n q) (m:MV) (hm:MsAt X w m) (hk5:m.kind=5) (hlt:m.tm<n.tm) (hix:m.index+m.es.length+1<18446744073709551616) (hes:m.es.length≤900000) (hl:n.log.last+1<18446744073709551616) (hle:n.log.es.length≤900000):
 Calls Tryz.prog 10 #[.pointer (some ⟨b,0,none⟩),.agg (cM m)] w fun e w'=>jz X P w b (n.onAppend m.ms) e w':=by
 obtain⟨W1,hW1,F1,X1⟩:=gW w m;obtain⟨g0,hg0⟩:=zE w.heap.size;rw[hg0] at X1;have H:=zH h;have HG0:=zH hg0;have gb:Hid (g0≠b):=by have:=bZ h.top;show _≠_;omega
 obtain⟨me,hme⟩:=zE n.me;obtain⟨tm,htm⟩:=zE n.tm;obtain⟨s,hs⟩:=zE m.src;obtain⟨mt,hmt⟩:=zE m.tm;obtain⟨ix,hixx⟩:=zE m.index;obtain⟨pv,hpv⟩:=zE m.prev;obtain⟨mc,hmc⟩:=zE m.commit;have HL:=zH (And.intro hme (And.intro htm (And.intro hs (And.intro hmt (And.intro hixx (And.intro hpv hmc))))))
 have CC:Hid (∀W,Fr (fun _ _=>True) W1 W→W.cell? ⟨b,0,none⟩=some (.int .i64 me)∧W.cell? ⟨b,6,none⟩=some (.int .u64 (tm:Nat))):=fun W f=>by obtain⟨x0,x1,x2,x3,x4,x5,x6,x7,x8,x9,x10,x11,x12,x13⟩:=h.cells (F1.out.trans f);exact⟨by rw[x0,hme],by rw[x6,htm]⟩
 have V0:∀W:World,W.heap[g0]? = some (.cells (cM m) 32 (0,0))→W.cell? ⟨g0,1,none⟩=some (.int .i64 s)∧W.cell? ⟨g0,3,none⟩=some (.int .u64 (mt:Nat))∧W.cell? ⟨g0,4,none⟩=some (.int .u64 (ix:Nat))∧W.cell? ⟨g0,5,none⟩=some (.int .u64 (pv:Nat))∧W.cell? ⟨g0,6,none⟩=some (.int .u64 (mc:Nat))∧W.cell? ⟨g0,9,none⟩=some (.slice m.ea m.es.length m.ec):=fun W t=>by obtain⟨v0,v1,v2,v3,v4,v5,v6,v7,v8,v9⟩:=bq t;exact⟨by rw[v1,hs],by rw[v3,hmt],by rw[v4,hixx],by rw[v5,hpv],by rw[v6,hmc],v9⟩
 have VH:=zH V0;have VC:Hid (∀W,Fr (fun _ _=>True) W1 W→W.cell? ⟨g0,1,none⟩=some (.int .i64 s)∧W.cell? ⟨g0,3,none⟩=some (.int .u64 (mt:Nat))∧W.cell? ⟨g0,4,none⟩=some (.int .u64 (ix:Nat))∧W.cell? ⟨g0,5,none⟩=some (.int .u64 (pv:Nat))∧W.cell? ⟨g0,6,none⟩=some (.int .u64 (mc:Nat))∧W.cell? ⟨g0,9,none⟩=some (.slice m.ea m.es.length m.ec)):=fun W f=>V0 W (f.keep _ _ X1.out trivial)
 have UD:Hid (Fr (fun _ _=>True) W1 W1.drew):=(Fr.refl _ _).drew;have v0:W1.cell? ⟨g0,0,none⟩=some (.int .i64 5):=by rw[←hk5];exact(bq X1.out).1
 have gl:decide (mt<tm)=true:=by rw[←hmt,←htm];exact decide_eq_true hlt
 have E:Hid (n.onAppend m.ms=(n,[{ zMs with kind:=6,src:=me,dst:=s,index:=ix,tm:=tm }])):=by show n.onAppend m.ms=_;unfold Nd.onAppend;rw[if_neg (fun e=>e hk5),if_pos (show m.ms.tm<n.tm from hlt)];rw[←hme,←hs,←hixx,←htm];rfl
 have HM:=zH hm;unfold cM at hW1 ⊢;clear hk5 hlt hix hes hl hle h hme htm hs hmt hixx hpv hmc hm V0;go_enter Tryz.func10,Tryz.ntmps10
 go_wp2_with fail
 try rw[hW1]
 try rw[HG0.out]
 clear hW1 hg0 v0;refine wpR [(12,0),(13,1),(14,2),(15,3),(16,4),(17,5),(18,6),(19,7),(20,8),(21,9),(22,10),(23,11),(24,12),(5,13)] [(0,[]),(1,[0]),(2,[1]),(3,[2]),(4,[]),(5,[4]),(6,[]),(7,[6]),(8,[]),(9,[8]),(10,[9]),(11,[10]),(12,[3,5,7,11]),(13,[])] (ckR [(0,.pointer (some ⟨b,0,none⟩)),(1,.pointer (some ⟨b,0,none⟩)),(2,.pointer (some ⟨b,0,none⟩)),(3,.int .i64 me),(4,.pointer (some ⟨g0,1,none⟩)),(5,.int .i64 s),(6,.pointer (some ⟨g0,4,none⟩)),(7,.int .u64 (ix:Nat)),(8,.pointer (some ⟨b,0,none⟩)),(9,.pointer (some ⟨b,0,none⟩)),(10,.pointer (some ⟨b,6,none⟩)),(11,.int .u64 (tm:Nat)),(12,.agg #[.int .i64 6,.int .i64 me,.int .i64 s,.int .u64 (tm:Nat),.int .u64 (ix:Nat),.int .u64 0,.int .u64 0,.bool false,.slice none 0 0,.slice none 0 0])] [(13,⟨fun v W=>∃g,v=.pointer (some ⟨g,0,none⟩)∧g0<g∧W.heap[g]? = some (.cells (cM zMV) 32 (0,0)),fun v W W' h hf=>by obtain⟨g,h1,h2,h3⟩:=h;exact⟨g,h1,h2,hf.keep _ _ h3 trivial⟩⟩)] 14 0) 1 rfl ?cfall ?cfend
 case cfall=>
  iterate 13
   refine bV.q rfl rfl rfl (fun xs W HF hE K' hK=>?_) ?_
   ·simp only[ckEqs,ckLook,Nat.reduceBEq] at hE;simp only[fillA,fillL,sA,sB,sC,Act.put,hE] at hK ⊢;clear hE;obtain⟨y0,y6⟩:=CC.out W (UD.out.trans HF.out);obtain⟨v1,v3,v4,v5,v6,v9⟩:=VC.out W (UD.out.trans HF.out);(try simp only[gA,gB,gC]);go_simp;exact hK.out _ rfl
  refine bV.p rfl rfl (fun xs W HF hA hE K' hK=>?_) ?_
  ·clear hA;simp only[ckEqs,ckLook,Nat.reduceBEq] at hE;simp only[fillA,fillL,sA,sB,sC,Act.put,hE] at hK ⊢;clear hE;have SB:Hid (g0<W.heap.size):=bZ ((UD.out.trans HF.out).keep _ _ X1.out trivial);(try simp only[gA,gB,gC]);go_simp;exact hK.out _ _ _ rfl ((Fr.refl _ _).alloc _) ⟨_,rfl,SB.out,bX _ _⟩
  exact bV.nil
 case cfend=>
  intro xs W hF hA;have HF:=zH hF;have hE:=b_ rfl hA;have h13:=hA (13,[]) (by decide);clear hA hF;simp only[List.map_cons,List.map_nil,ckEqs,ckLook,Nat.reduceBEq] at hE;simp only[fillA,fillL,sA,sB,sC,hE];clear hE;obtain⟨g,e13,hgw,tg⟩:=h13;rw[e13];have TG:=zH tg;have HGW:=zH hgw;have FW:=zH (F1.out.trans (UD.out.trans HF.out));have FW1:=zH (UD.out.trans HF.out);obtain⟨m0,hm0⟩:∃m:MV,(⟨6,me,s,tm,ix,0,0,false,none,0,[],none,0,[]⟩:MV)=m:=⟨_,rfl⟩
  obtain⟨W2,hW2',t2,f2⟩:=BW tg (.int .i64 6) (.int .i64 me) (.int .i64 s) (.int .u64 (tm:Nat)) (.int .u64 (ix:Nat)) (.int .u64 0) (.int .u64 0) (.bool false) (.slice none 0 0) (.slice none 0 0);have T2:Hid (W2.heap[g]? = some (.cells (cM m0) 32 (0,0))):=by rw[←hm0];exact t2
  have F2:=zH f2;have HM0:=zH hm0;clear t2 f2 hm0 hgw;have H2:=zH ((H.out.tt FW.out).msg F2.out ⟨_,_,tg⟩ (by have:=bZ H.out.top;have:=HGW.out;have:=HG0.out;omega));have HGS:Hid (w.heap.size≤g):=by have:=HGW.out;have:=HG0.out;show _≤_;omega
  have FP2:Hid (Fr (fun c _=>¬P c) w W2):=((FW.out.mono fun _ _ _=>trivial:Fr (fun c _=>¬P c∧c<w.heap.size) w W).trans (F2.out.mono fun c _ h e=>by have:=h.2;have:=HGS.out;omega)).within;have MX:Hid (W2.heap[g0]? = some (.cells (cM m) 32 (0,0))):=F2.out.keep _ _ (FW1.out.keep _ _ X1.out trivial) (by have:=HGW.out;omega);obtain⟨v0,v1,v2,v3,v4,v5,v6,v7,v8,v9⟩:=bq tg;have z0:=bJ (i:=0) tg;have z1:=bJ (i:=1) tg;have z2:=bJ (i:=2) tg;have z3:=bJ (i:=3) tg;have z4:=bJ (i:=4) tg;have z5:=bJ (i:=5) tg;have z6:=bJ (i:=6) tg;have z7:=bJ (i:=7) tg;have z8:=bJ (i:=8) tg;have z9:=bJ (i:=9) tg;refine wpN 14 rfl fun K' hK=>?_
  (try simp only[gA,gB,gC]);go_simp;refine hK.out _ _ ?_;clear hK K';refine wpF ?_
  try rw[hW2']
  clear z0 z1 z2 z3 z4 z5 z6 z7 z8 z9 v0 v1 v2 v3 v4 v5 v6 v7 v8 v9 hW2' tg;have MA2:=zH (HM.out.keep (K:=fun c _=>¬P c) FP2.out (fun c o ho hr e=>hr.1 (H.out.px c e)));obtain⟨WA,hWA⟩:=zE W;rw[hWA] at HF FW FW1 F2 TG;clear hWA;have y6:W2.cell? ⟨b,6,none⟩=some (.int .u64 (tm:Nat)):=by rw[←HL.out.2.1];exact(H2.out.cells (Fr.refl _ W2)).2.2.2.2.2.2.1
  have v3:=(VH.out W2 MX.out).2.1;go_wp2_with fail
  go_quiet (fail)
  clear y6 v3 gl;have UQ:Hid (Fr (fun _ _=>True) W2 (W2.drewN nq)):=(Fr.refl _ W2).drewN nq;generalize W2.drewN nq=W3 at UQ ⊢;have H3:=zH (H2.out.tt UQ.out);have FP3:Hid (Fr (fun c _=>¬P c) w W3):=FP2.out.trans (UQ.out.mono fun _ _ _=>trivial);have T3:Hid (W3.heap[g]? = some (.cells (cM m0) 32 (0,0))):=UQ.out.keep _ _ T2.out trivial;have MX3:Hid (W3.heap[g0]? = some (.cells (cM m) 32 (0,0))):=UQ.out.keep _ _ MX.out trivial;have MA3:=zH (MA2.out.tt UQ.out);have F3S:Hid (w.heap.size≤W3.heap.size):=FP3.out.size;obtain⟨u0,u1,u2,u3,u4,u5,u6,u7,u8,u9⟩:=bq T3.out;rw[←HM0.out] at u0 u1 u2 u3 u4 u5 u6 u7 u8 u9;go_wp2;go_ret;rw[E.out];refine⟨X,P,q,_,[⟨6,me,s,tm,ix,0,0,false,none,0,[],none,0,[]⟩],rfl,H3.out.tt ((Fr.refl _ W3).alloc _),(Aft.of FP3.out H.out.px).tr ((Fr.refl _ W3).alloc _),(OwnMs.one ⟨6,me,s,tm,ix,0,0,false,none,0,[],none,0,[]⟩ H3.out.hx ⟨BytesAt.nil _ _,EsAt.nil _ _⟩).lo F3S.out,rfl⟩
theorem nj [Old] (h:PNs X P w b n q) (m:MV) (hm:MsAt X w m) (hk5:m.kind=5) (hlt:¬m.tm<n.tm) (hix:m.index+m.es.length+1<18446744073709551616) (hes:m.es.length≤900000) (hl:n.log.last+1<18446744073709551616) (hle:n.log.es.length≤900000):
 Calls Tryz.prog 10 #[.pointer (some ⟨b,0,none⟩),.agg (cM m)] w fun e w'=>jz X P w b (n.onAppend m.ms) e w':=by
 obtain⟨W1,hW1,F1,X1⟩:=gW w m;obtain⟨g0,hg0⟩:=zE w.heap.size;rw[hg0] at X1;have H:=zH h;have HG0:=zH hg0;have gb:Hid (g0≠b):=by have:=bZ h.top;show _≠_;omega
 obtain⟨me,hme⟩:=zE n.me;obtain⟨tm,htm⟩:=zE n.tm;obtain⟨s,hs⟩:=zE m.src;obtain⟨mt,hmt⟩:=zE m.tm;obtain⟨ix,hixx⟩:=zE m.index;obtain⟨pv,hpv⟩:=zE m.prev;obtain⟨mc,hmc⟩:=zE m.commit;have HL:=zH (And.intro hme (And.intro htm (And.intro hs (And.intro hmt (And.intro hixx (And.intro hpv hmc))))))
 have CC:Hid (∀W,Fr (fun _ _=>True) W1 W→W.cell? ⟨b,0,none⟩=some (.int .i64 me)∧W.cell? ⟨b,6,none⟩=some (.int .u64 (tm:Nat))):=fun W f=>by obtain⟨x0,x1,x2,x3,x4,x5,x6,x7,x8,x9,x10,x11,x12,x13⟩:=h.cells (F1.out.trans f);exact⟨by rw[x0,hme],by rw[x6,htm]⟩
 have V0:∀W:World,W.heap[g0]? = some (.cells (cM m) 32 (0,0))→W.cell? ⟨g0,1,none⟩=some (.int .i64 s)∧W.cell? ⟨g0,3,none⟩=some (.int .u64 (mt:Nat))∧W.cell? ⟨g0,4,none⟩=some (.int .u64 (ix:Nat))∧W.cell? ⟨g0,5,none⟩=some (.int .u64 (pv:Nat))∧W.cell? ⟨g0,6,none⟩=some (.int .u64 (mc:Nat))∧W.cell? ⟨g0,9,none⟩=some (.slice m.ea m.es.length m.ec):=fun W t=>by obtain⟨v0,v1,v2,v3,v4,v5,v6,v7,v8,v9⟩:=bq t;exact⟨by rw[v1,hs],by rw[v3,hmt],by rw[v4,hixx],by rw[v5,hpv],by rw[v6,hmc],v9⟩
 have VH:=zH V0;have VC:Hid (∀W,Fr (fun _ _=>True) W1 W→W.cell? ⟨g0,1,none⟩=some (.int .i64 s)∧W.cell? ⟨g0,3,none⟩=some (.int .u64 (mt:Nat))∧W.cell? ⟨g0,4,none⟩=some (.int .u64 (ix:Nat))∧W.cell? ⟨g0,5,none⟩=some (.int .u64 (pv:Nat))∧W.cell? ⟨g0,6,none⟩=some (.int .u64 (mc:Nat))∧W.cell? ⟨g0,9,none⟩=some (.slice m.ea m.es.length m.ec)):=fun W f=>V0 W (f.keep _ _ X1.out trivial)
 have UD:Hid (Fr (fun _ _=>True) W1 W1.drew):=(Fr.refl _ _).drew;have v0:W1.cell? ⟨g0,0,none⟩=some (.int .i64 5):=by rw[←hk5];exact(bq X1.out).1
 have gl:decide (mt<tm)=false:=by rw[←hmt,←htm];exact decide_eq_false hlt
 obtain⟨n2,hn2⟩:∃x:Nd,{ n.follow m.tm m.src with heard:=true }=x:=⟨_,rfl⟩
 have E:Hid (n.onAppend m.ms=n2.taken m.ms):=by show n.onAppend m.ms=_;unfold Nd.onAppend;rw[if_neg (fun e=>e hk5),if_neg (show ¬m.ms.tm<n.tm from hlt),←hn2];rfl
 have hn2p:n2.log=n.log∧n2.me=n.me∧n2.commit=n.commit:=by rw[←hn2];exact Nd.follow_log n m.tm m.src
 obtain⟨bs,hbs⟩:=zE n.log.base;obtain⟨bt,hbt⟩:=zE n.log.bt;obtain⟨tm2,htm2⟩:=zE n2.tm;obtain⟨cm,hcm⟩:=zE n.commit;obtain⟨cd,hcdd⟩:=zE ((n.log.append m.index m.prev (m.es.map EV.en)).2);obtain⟨LA,hLA⟩:=zE ((n.log.append m.index m.prev (m.es.map EV.en)).1);obtain⟨ae,le,ce,hve,hlel,hesl,hlg⟩:=h.lg;have hl2:bs+le+1<18446744073709551616:=by unfold Lg.last at hl;omega
 have APC:=zH (fun W (hx:EsAt X W (.slice ae le ce) q.es) (hy:EsAt X W (.slice m.ea m.es.length m.ec) m.es) (hX:∀c,X c→c<W.heap.size)=>tz W bs bt ix pv ae le ce q.es hx m.ea m.es.length m.ec m.es hy (by omega) (by omega) (by omega) hes hX);rw[show lgE bs bt q.es=n.log by rw[←hbs,←hbt];exact hlg,←hixx,←hpv,hcdd,hLA,hixx,hpv] at APC;obtain⟨hi,hhi⟩:=zE (n.log.hint m.index);have HIC0:=zH (fun W (hx:EsAt X W (.slice ae le ce) q.es)=>BX W bs bt ix ae le ce q.es hx.row (by omega));rw[show lgE bs bt q.es=n.log by rw[←hbs,←hbt];exact hlg,←hixx,hhi,hixx] at HIC0
 have EG:Hid (cd=60→n.onAppend m.ms=(n2,[{ zMs with kind:=6,src:=me,dst:=s,index:=ix,tm:=tm2,prev:=hi }])):=fun gc=>by rw[E.out];unfold Nd.taken;rw[hn2p.1,if_pos (show (n.log.append m.ms.index m.ms.prev m.ms.es).2=60 from hcdd.trans gc),htm2,hn2p.2.1,hme];show (n2,[{ zMs with kind:=6,src:=me,dst:=m.src,index:=m.index,tm:=tm2,prev:=n.log.hint m.index }])=_;rw[hhi,hs,hixx]
 obtain⟨en,hen⟩:=zE (ix+m.es.length);obtain⟨mn,hmn⟩:=zE (min mc en);obtain⟨mx,hmx⟩:=zE (max cm mn);have WE:Hid (IntKind.u64.wrap ((ix:Int)+IntKind.u64.wrap (m.es.length:Int))=((en:Nat):Int)∧IntKind.u64.wrap (m.es.length:Int)=((m.es.length:Nat):Int)∧IntKind.u64.wrap ((ix:Int)+(m.es.length:Int))=((en:Nat):Int)):=⟨by rw[IntKind.wrap_u64,IntKind.wrap_u64];omega,by rw[IntKind.wrap_u64];omega,by rw[IntKind.wrap_u64];omega⟩
 have ET:Hid (cd≠60→n.onAppend m.ms=({ n2 with log:=LA,commit:=mx },[{ zMs with kind:=6,src:=me,dst:=s,index:=en,tm:=tm2,ok:=true }])):=fun gc=>by rw[E.out];unfold Nd.taken;rw[hn2p.1,if_neg (show ¬(n.log.append m.ms.index m.ms.prev m.ms.es).2=60 from fun e=>gc (hcdd.symm.trans e)),htm2,hn2p.2.1,hme,hn2p.2.2];rw[show (n.log.append m.ms.index m.ms.prev m.ms.es).1=LA from hLA,show m.ms.src=s from hs,show m.ms.index=ix from hixx,show m.ms.es.length=m.es.length from List.length_map _,hen,show m.ms.commit=mc from hmc,hcm,hmn,hmx]
 have HMX:=zH (And.intro hmn hmx);have HLB:Hid (LA.base=bs∧LA.bt=bt):=by rw[←hLA,←hbs,←hbt];exact Lg.append_base _ _ _ _
 have HVE:=zH (And.intro hve (And.intro hbs (And.intro hbt hcm)));have HN2:=zH hn2;have HN2P:=zH hn2p;have HT2:=zH htm2;have HM:=zH hm;unfold cM at hW1 ⊢;clear hk5 hlt hix hes hl hle hl2 hcdd hLA hve hlel hesl hlg hbs hbt htm2 hcm hn2 hn2p h hme htm hs hmt hixx hpv hmc hm V0 E hhi hen hmn hmx;go_enter Tryz.func10,Tryz.ntmps10
 go_wp2_with fail
 try rw[hW1]
 try rw[HG0.out]
 clear hW1 hg0 v0;refine wpR [(12,0),(13,1),(14,2),(15,3),(16,4),(17,5),(18,6),(19,7),(20,8),(21,9),(22,10),(23,11),(24,12),(5,13)] [(0,[]),(1,[0]),(2,[1]),(3,[2]),(4,[]),(5,[4]),(6,[]),(7,[6]),(8,[]),(9,[8]),(10,[9]),(11,[10]),(12,[3,5,7,11]),(13,[])] (ckR [(0,.pointer (some ⟨b,0,none⟩)),(1,.pointer (some ⟨b,0,none⟩)),(2,.pointer (some ⟨b,0,none⟩)),(3,.int .i64 me),(4,.pointer (some ⟨g0,1,none⟩)),(5,.int .i64 s),(6,.pointer (some ⟨g0,4,none⟩)),(7,.int .u64 (ix:Nat)),(8,.pointer (some ⟨b,0,none⟩)),(9,.pointer (some ⟨b,0,none⟩)),(10,.pointer (some ⟨b,6,none⟩)),(11,.int .u64 (tm:Nat)),(12,.agg #[.int .i64 6,.int .i64 me,.int .i64 s,.int .u64 (tm:Nat),.int .u64 (ix:Nat),.int .u64 0,.int .u64 0,.bool false,.slice none 0 0,.slice none 0 0])] [(13,⟨fun v W=>∃g,v=.pointer (some ⟨g,0,none⟩)∧g0<g∧W.heap[g]? = some (.cells (cM zMV) 32 (0,0)),fun v W W' h hf=>by obtain⟨g,h1,h2,h3⟩:=h;exact⟨g,h1,h2,hf.keep _ _ h3 trivial⟩⟩)] 14 0) 1 rfl ?cfall ?cfend
 case cfall=>
  iterate 13
   refine bV.q rfl rfl rfl (fun xs W HF hE K' hK=>?_) ?_
   ·simp only[ckEqs,ckLook,Nat.reduceBEq] at hE;simp only[fillA,fillL,sA,sB,sC,Act.put,hE] at hK ⊢;clear hE;obtain⟨y0,y6⟩:=CC.out W (UD.out.trans HF.out);obtain⟨v1,v3,v4,v5,v6,v9⟩:=VC.out W (UD.out.trans HF.out);(try simp only[gA,gB,gC]);go_simp;exact hK.out _ rfl
  refine bV.p rfl rfl (fun xs W HF hA hE K' hK=>?_) ?_
  ·clear hA;simp only[ckEqs,ckLook,Nat.reduceBEq] at hE;simp only[fillA,fillL,sA,sB,sC,Act.put,hE] at hK ⊢;clear hE;have SB:Hid (g0<W.heap.size):=bZ ((UD.out.trans HF.out).keep _ _ X1.out trivial);(try simp only[gA,gB,gC]);go_simp;exact hK.out _ _ _ rfl ((Fr.refl _ _).alloc _) ⟨_,rfl,SB.out,bX _ _⟩
  exact bV.nil
 case cfend=>
  intro xs W hF hA;have HF:=zH hF;have hE:=b_ rfl hA;have h13:=hA (13,[]) (by decide);clear hA hF;simp only[List.map_cons,List.map_nil,ckEqs,ckLook,Nat.reduceBEq] at hE;simp only[fillA,fillL,sA,sB,sC,hE];clear hE;obtain⟨g,e13,hgw,tg⟩:=h13;rw[e13];have TG:=zH tg;have HGW:=zH hgw;have FW:=zH (F1.out.trans (UD.out.trans HF.out));have FW1:=zH (UD.out.trans HF.out);obtain⟨m0,hm0⟩:∃m:MV,(⟨6,me,s,tm,ix,0,0,false,none,0,[],none,0,[]⟩:MV)=m:=⟨_,rfl⟩
  obtain⟨W2,hW2',t2,f2⟩:=BW tg (.int .i64 6) (.int .i64 me) (.int .i64 s) (.int .u64 (tm:Nat)) (.int .u64 (ix:Nat)) (.int .u64 0) (.int .u64 0) (.bool false) (.slice none 0 0) (.slice none 0 0);have T2:Hid (W2.heap[g]? = some (.cells (cM m0) 32 (0,0))):=by rw[←hm0];exact t2
  have F2:=zH f2;have HM0:=zH hm0;clear t2 f2 hm0 hgw;have H2:=zH ((H.out.tt FW.out).msg F2.out ⟨_,_,tg⟩ (by have:=bZ H.out.top;have:=HGW.out;have:=HG0.out;omega));have HGS:Hid (w.heap.size≤g):=by have:=HGW.out;have:=HG0.out;show _≤_;omega
  have FP2:Hid (Fr (fun c _=>¬P c) w W2):=((FW.out.mono fun _ _ _=>trivial:Fr (fun c _=>¬P c∧c<w.heap.size) w W).trans (F2.out.mono fun c _ h e=>by have:=h.2;have:=HGS.out;omega)).within;have MX:Hid (W2.heap[g0]? = some (.cells (cM m) 32 (0,0))):=F2.out.keep _ _ (FW1.out.keep _ _ X1.out trivial) (by have:=HGW.out;omega);obtain⟨v0,v1,v2,v3,v4,v5,v6,v7,v8,v9⟩:=bq tg;have z0:=bJ (i:=0) tg;have z1:=bJ (i:=1) tg;have z2:=bJ (i:=2) tg;have z3:=bJ (i:=3) tg;have z4:=bJ (i:=4) tg;have z5:=bJ (i:=5) tg;have z6:=bJ (i:=6) tg;have z7:=bJ (i:=7) tg;have z8:=bJ (i:=8) tg;have z9:=bJ (i:=9) tg;refine wpN 14 rfl fun K' hK=>?_
  (try simp only[gA,gB,gC]);go_simp;refine hK.out _ _ ?_;clear hK K';refine wpF ?_
  try rw[hW2']
  clear z0 z1 z2 z3 z4 z5 z6 z7 z8 z9 v0 v1 v2 v3 v4 v5 v6 v7 v8 v9 hW2' tg;have MA2:=zH (HM.out.keep (K:=fun c _=>¬P c) FP2.out (fun c o ho hr e=>hr.1 (H.out.px c e)));obtain⟨WA,hWA⟩:=zE W;rw[hWA] at HF FW FW1 F2 TG;clear hWA;have y6:W2.cell? ⟨b,6,none⟩=some (.int .u64 (tm:Nat)):=by rw[←HL.out.2.1];exact(H2.out.cells (Fr.refl _ W2)).2.2.2.2.2.2.1
  have v3:=(VH.out W2 MX.out).2.1;go_wp2_with fail
  go_quiet (fail)
  clear y6 v3 gl;have UQ:Hid (Fr (fun _ _=>True) W2 (W2.drewN nq)):=(Fr.refl _ W2).drewN nq;generalize W2.drewN nq=W3 at UQ ⊢;have H3:=zH (H2.out.tt UQ.out);have FP3:Hid (Fr (fun c _=>¬P c) w W3):=FP2.out.trans (UQ.out.mono fun _ _ _=>trivial);have T3:Hid (W3.heap[g]? = some (.cells (cM m0) 32 (0,0))):=UQ.out.keep _ _ T2.out trivial;have MX3:Hid (W3.heap[g0]? = some (.cells (cM m) 32 (0,0))):=UQ.out.keep _ _ MX.out trivial;have MA3:=zH (MA2.out.tt UQ.out);have F3S:Hid (w.heap.size≤W3.heap.size):=FP3.out.size;have FO:=zH (dq H3.out mt s);have v1:=(VH.out W3 MX3.out).1;have v3:=(VH.out W3 MX3.out).2.1;go_wp2_with fail
  (with_reducible refine FO.out.mono ?_);rintro e Wf ⟨rfl,hf3,ff⟩;clear v1 v3 FO;have FF:Hid (Fr (fun c _=>c≠b) W3 Wf):=ff;rw[←HL.out.2.2.2.1,←HL.out.2.2.1] at hf3;have HFO:=zH hf3;have hgb:g≠b:=fun e=>by have:=HGS.out;have:=bZ H.out.top;omega
  have hbg:b≠g:=fun e=>hgb e.symm
  have Tf:Hid (Wf.heap[g]? = some (.cells (cM m0) 32 (0,0))):=FF.out.keep _ _ T3.out hgb;have MXf:Hid (Wf.heap[g0]? = some (.cells (cM m) 32 (0,0))):=FF.out.keep _ _ MX3.out gb.out;have x11:=(HFO.out.cells (Fr.refl _ Wf)).2.2.2.2.2.2.2.2.2.2.2.1;have x6:Wf.cell? ⟨b,6,none⟩=some (.int .u64 (tm2:Nat)):=by rw[←HT2.out,←HN2.out];exact(HFO.out.cells (Fr.refl _ Wf)).2.2.2.2.2.2.1
  have z11:=HFO.out.free (Fr.refl _ Wf) 11;have y3:=(bq Tf.out).2.2.2.1;have zg3:=bJ (i:=3) Tf.out
  have hh:PNs X P (j4 Wf b [(11,.bool true)]) b n2 q.noYes:=by rw[←HN2.out];exact HFO.out.re (bj b _ Wf) (bz _ HFO.out.top) ⟨rfl,rfl⟩ (.inl ⟨rfl,rfl⟩) ⟨rfl,rfl,rfl⟩ ⟨rfl,rfl,rfl,rfl⟩
  obtain⟨Wh,hWh⟩:=zE (Wf.setCell ⟨b,11,none⟩ (.bool true));have hWhs:j4 Wf b [(11,.bool true)]=Wh:=hWh;rw[hWhs] at hh;have fh:Fr (fun c _=>c≠b) Wf Wh:=hWhs▸bj b _ Wf;have Th:Wh.heap[g]? = some (.cells (cM m0) 32 (0,0)):=fh.keep _ _ Tf.out hgb;have x6h:Wh.cell? ⟨b,6,none⟩=some (.int .u64 (tm2:Nat)):=by rw[←HT2.out];exact(hh.cells (Fr.refl _ Wh)).2.2.2.2.2.2.1
  have y3h:=(bq Th).2.2.2.1;have zg3h:=bJ (i:=3) Th;obtain⟨m1,hm1⟩:∃m:MV,(⟨6,me,s,tm2,ix,0,0,false,none,0,[],none,0,[]⟩:MV)=m:=⟨_,rfl⟩
  obtain⟨W4,hW4⟩:=zE (Wh.setCell ⟨g,3,none⟩ (.int .u64 (tm2:Nat)));have f4:Fr (fun c _=>c≠g) Wh W4:=hW4▸(Fr.refl _ _).setCell (fun _ _ h=>h rfl) _
  have T4:Hid (W4.heap[g]? = some (.cells (cM m1) 32 (0,0))):=by rw[←hW4,←hm1];have:=bK (o:=3) Th (.int .u64 (tm2:Nat));rw[←HM0.out] at this;exact this
  have H4:=zH (hh.msg f4 ⟨_,_,Th⟩ (by have:=bZ H.out.top;have:=HGW.out;have:=HG0.out;omega));have FPh:Fr (fun c _=>¬P c) w Wh:=(FP3.out.trans (FF.out.mono fun c _ hc e=>hc (e▸H.out.pb))).trans (fh.mono fun c _ hc e=>hc (e▸H.out.pb));have FP4:Hid (Fr (fun c _=>¬P c) w W4):=((FPh.mono fun c _ h=>h.1:Fr (fun c _=>¬P c∧c<w.heap.size) w Wh).trans (f4.mono fun c _ h e=>by have:=h.2;have:=HGS.out;omega)).within;have MX4:Hid (W4.heap[g0]? = some (.cells (cM m) 32 (0,0))):=f4.keep _ _ (fh.keep _ _ MXf.out gb.out) (by have:=HGW.out;omega);have MA4:=zH (HM.out.keep (K:=fun c _=>¬P c) FP4.out (fun c o ho hr e=>hr.1 (H.out.px c e)))
  have CD:Hid (∀W,Fr (fun _ _=>True) W4 W→W.cell? ⟨b,0,none⟩=some (.int .i64 me)∧W.cell? ⟨b,6,none⟩=some (.int .u64 (tm2:Nat))∧W.cell? ⟨b,8,none⟩=some (.int .u64 (bs:Nat))∧W.cell? ⟨b,9,none⟩=some (.int .u64 (bt:Nat))∧W.cell? ⟨b,10,none⟩=some (.slice ae le ce)):=fun W f=>by obtain⟨x0,x1,x2,x3,x4,x5,x6,x7,x8,x9,x10,x11,x12,x13⟩:=H4.out.cells f;exact⟨by rw[x0,HN2P.out.2.1,HL.out.1],by rw[x6,HT2.out],by rw[x8,HN2P.out.1,HVE.out.2.1],by rw[x9,HN2P.out.1,HVE.out.2.2.1],by rw[x10];show some q.ve=_;rw[HVE.out.1]⟩
  have EV4:Hid (∀W,Fr (fun _ _=>True) W4 W→EsAt X W (.slice ae le ce) q.es):=fun W f=>by have:=H4.out.ev.tt f;have e:q.noYes.ve=.slice ae le ce:=HVE.out.1;rw[e] at this;exact this
  replace APC:=zH (fun W (f:Fr (fun _ _=>True) W4 W)=>APC.out W (EV4.out W f) (MA4.out.es.tt f) (fun c hc=>Nat.lt_of_lt_of_le (H4.out.hx c hc) f.size));have HIC:=zH (fun W (f:Fr (fun _ _=>True) W4 W)=>HIC0.out W (EV4.out W f));clear HIC0;have UE:Hid (Fr (fun _ _=>True) W4 W4.drew):=(Fr.refl _ _).drew;have HM1:=zH hm1;have FP4S:Hid (w.heap.size≤W4.heap.size):=FP4.out.size;clear hWhs hh fh Th f4 FPh hm1 hf3 ff;go_wp2_with fail
  try rw[hWh]
  try rw[hW4]
  clear hWh hW4 x11 x6 z11 y3 zg3 x6h y3h zg3h;refine jZ (K:=fun _ _=>True) (by kernel_rfl) [(49,0),(50,1),(51,2),(52,3),(53,4),(54,5),(55,6),(56,7),(57,8),(58,9),(59,10),(48,11),(60,12),(61,13),(62,14),(6,15),(7,17),(8,18)] [(0,[]),(1,[0]),(2,[1]),(3,[2]),(4,[]),(5,[4]),(6,[]),(7,[6]),(8,[]),(9,[8]),(10,[3,5,7,9]),(11,[10]),(12,[11]),(13,[11]),(14,[11]),(15,[])] (ckR [(0,.pointer (some ⟨b,0,none⟩)),(1,.pointer (some ⟨b,0,none⟩)),(2,.pointer (some ⟨b,8,none⟩)),(3,.agg #[.int .u64 (bs:Nat),.int .u64 (bt:Nat),.slice ae le ce]),(4,.pointer (some ⟨g0,4,none⟩)),(5,.int .u64 (ix:Nat)),(6,.pointer (some ⟨g0,5,none⟩)),(7,.int .u64 (pv:Nat)),(8,.pointer (some ⟨g0,9,none⟩)),(9,.slice m.ea m.es.length m.ec),(14,.int .i64 cd)] [(10,⟨fun v W=>∃a k c f zs,v=.tuple #[.agg #[.int .u64 (bs:Nat),.int .u64 (bt:Nat),.slice a k c],.int .u64 f,.int .i64 cd]∧EsAt X W (.slice a k c) zs∧zs.map EV.en=LA.es,fun v W W' h hf=>by obtain⟨a,k,c,f,zs,h1,h2,h3⟩:=h;exact⟨a,k,c,f,zs,h1,h2.tt hf,h3⟩⟩),(11,⟨fun v W=>∃a k c f zs,v=.tuple #[.agg #[.int .u64 (bs:Nat),.int .u64 (bt:Nat),.slice a k c],.int .u64 f,.int .i64 cd]∧EsAt X W (.slice a k c) zs∧zs.map EV.en=LA.es,fun v W W' h hf=>by obtain⟨a,k,c,f,zs,h1,h2,h3⟩:=h;exact⟨a,k,c,f,zs,h1,h2.tt hf,h3⟩⟩),(12,⟨fun v W=>∃a k c zs,v=.agg #[.int .u64 (bs:Nat),.int .u64 (bt:Nat),.slice a k c]∧EsAt X W (.slice a k c) zs∧zs.map EV.en=LA.es,fun v W W' h hf=>by obtain⟨a,k,c,zs,h1,h2,h3⟩:=h;exact⟨a,k,c,zs,h1,h2.tt hf,h3⟩⟩),(13,⟨fun v W=>∃f,v=.int .u64 f,fun v W W' h hf=>h⟩),(15,⟨fun v W=>∃g9,v=.pointer (some ⟨g9,0,none⟩)∧g<g9∧W4.heap.size≤g9∧W.heap[g9]? = some (.cells #[.int .u64 0,.int .u64 0,.slice none 0 0] 26 (0,0)),fun v W W' h hf=>by obtain⟨g9,h1,h2,h3,h4⟩:=h;exact⟨g9,h1,h2,h3,hf.keep _ _ h4 trivial⟩⟩)] 16 0) [13,14] 3 (by kernel_rfl) (by kernel_rfl) (by kernel_rfl) (by kernel_rfl) (by kernel_rfl) (by exact fun _ _ _ _ _ h=>h) (by rfl) ?cfall ?cffl ?cfend
  case cffl=>
   refine FlAll.cons rfl (fun xs W hF hA=>?_) ?_
   ·have HF:=zH hF;have h11:=hA (11,[10]) (by decide) (by decide);clear hA hF;simp only[fillA,fillL,sA,sB,sC];obtain⟨a,k,c,f,zs,e11,hz,hzl⟩:=h11;rw[e11];refine⟨.int .u64 f,Or.inl ⟨by rfl,fun w=>?_⟩,⟨f,rfl⟩⟩;(try simp only[gA,gB,gC]);go_simp
   refine FlAll.cons rfl (fun xs W hF hA=>?_) ?_
   ·have HF:=zH hF;have h11:=hA (11,[10]) (by decide) (by decide);clear hA hF;simp only[fillA,fillL,sA,sB,sC];obtain⟨a,k,c,f,zs,e11,hz,hzl⟩:=h11;rw[e11];refine⟨.int .i64 cd,Or.inl ⟨by rfl,fun w=>?_⟩,rfl⟩;(try simp only[gA,gB,gC]);go_simp
   exact FlAll.nil
  case cfall=>
   iterate 10
    refine bV.q rfl rfl rfl (fun xs W HF hE K' hK=>?_) ?_
    ·simp only[ckEqs,ckLook,Nat.reduceBEq] at hE;simp only[fillA,fillL,sA,sB,sC,Act.put,hE] at hK ⊢;clear hE;obtain⟨y0,y6,y8,y9,y10⟩:=CD.out W (UE.out.trans HF.out);obtain⟨v1,v3,v4,v5,v6,v9⟩:=VH.out W ((UE.out.trans HF.out).keep _ _ MX4.out trivial);(try simp only[gA,gB,gC]);go_simp;exact hK.out _ rfl
   refine bV.p rfl rfl (fun xs W HF hA hE K' hK=>?_) ?_
   ·clear hA;simp only[ckEqs,ckLook,Nat.reduceBEq] at hE;simp only[fillA,fillL,sA,sB,sC,Act.put,hE] at hK ⊢;clear hE;obtain⟨y0,y6,y8,y9,y10⟩:=CD.out W (UE.out.trans HF.out);obtain⟨v1,v3,v4,v5,v6,v9⟩:=VH.out W ((UE.out.trans HF.out).keep _ _ MX4.out trivial);have AP1:=zH (APC.out W (UE.out.trans HF.out));dsimp only[vL] at AP1;(try simp only[gA,gB,gC]);go_simp;(with_reducible refine AP1.out.mono ?_);rintro e w8 ⟨⟨a,k,c,f,zs,rfl,hz,hzl⟩,f8⟩;exact hK.out _ _ _ rfl f8 ⟨a,k,c,f,zs,rfl,hz,hzl⟩
   refine bV.p rfl rfl (fun xs W HF hA hE K' hK=>?_) ?_
   ·have h10:=hA 10 (by decide);clear hA;simp only[ckEqs,ckLook,Nat.reduceBEq] at hE;simp only[fillA,fillL,sA,sB,sC,Act.put,hE] at hK ⊢;clear hE;obtain⟨a,k,c,f,zs,e10,hz,hzl⟩:=h10;rw[e10] at hK ⊢;clear e10;(try simp only[gA,gB,gC]);go_simp;exact hK.out _ _ _ rfl (Fr.refl _ _) ⟨a,k,c,f,zs,rfl,hz,hzl⟩
   refine bV.p rfl rfl (fun xs W HF hA hE K' hK=>?_) ?_
   ·have h11:=hA 11 (by decide);clear hA;simp only[ckEqs,ckLook,Nat.reduceBEq] at hE;simp only[fillA,fillL,sA,sB,sC,Act.put,hE] at hK ⊢;clear hE;obtain⟨a,k,c,f,zs,e11,hz,hzl⟩:=h11;rw[e11] at hK ⊢;clear e11;(try simp only[gA,gB,gC]);go_simp;exact hK.out _ _ _ rfl (Fr.refl _ _) ⟨a,k,c,zs,rfl,hz,hzl⟩
   refine bV.p rfl rfl (fun xs W HF hA hE K' hK=>?_) ?_
   ·have h11:=hA 11 (by decide);clear hA;simp only[ckEqs,ckLook,Nat.reduceBEq] at hE;simp only[fillA,fillL,sA,sB,sC,Act.put,hE] at hK ⊢;clear hE;obtain⟨a,k,c,f,zs,e11,hz,hzl⟩:=h11;rw[e11] at hK ⊢;clear e11;(try simp only[gA,gB,gC]);go_simp;exact hK.out _ _ _ rfl (Fr.refl _ _) ⟨f,rfl⟩
   refine bV.p rfl rfl (fun xs W HF hA hE K' hK=>?_) ?_
   ·have h11:=hA 11 (by decide);clear hA;simp only[ckEqs,ckLook,Nat.reduceBEq] at hE;simp only[fillA,fillL,sA,sB,sC,Act.put,hE] at hK ⊢;clear hE;obtain⟨a,k,c,f,zs,e11,hz,hzl⟩:=h11;rw[e11] at hK ⊢;clear e11;(try simp only[gA,gB,gC]);go_simp;exact hK.out _ _ _ rfl (Fr.refl _ _) rfl
   refine bV.p rfl rfl (fun xs W HF hA hE K' hK=>?_) ?_
   ·clear hA;simp only[ckEqs,ckLook,Nat.reduceBEq] at hE;simp only[fillA,fillL,sA,sB,sC,Act.put,hE] at hK ⊢;clear hE;have SB:Hid (W4.heap.size≤W.heap.size):=(UE.out.trans HF.out).size;have SG:Hid (g<W.heap.size):=Nat.lt_of_lt_of_le (bZ T4.out) SB.out;(try simp only[gA,gB,gC]);go_simp;exact hK.out _ _ _ rfl ((Fr.refl _ _).alloc _) ⟨_,rfl,SG.out,SB.out,bX _ _⟩
   exact bV.nil
  case cfend=>
   intro xs W hF hA;have HF:=zH hF;have hE:=b_ rfl hA;have h10:=hA (10,[3,5,7,9]) (by decide);have h11:=hA (11,[10]) (by decide);have h12:=hA (12,[11]) (by decide);have h13:=hA (13,[11]) (by decide);have h15:=hA (15,[]) (by decide);clear hA hF;simp only[List.map_cons,List.map_nil,ckEqs,ckLook,Nat.reduceBEq] at hE;simp only[fillA,fillL,sA,sB,sC,hE];clear hE;obtain⟨a,k,c,zs,e12,hz,hzl⟩:=h12;obtain⟨f,e13⟩:=h13;obtain⟨g9,e15,hgg,hg9,tg9⟩:=h15;rw[e12,e13,e15];clear e12 e13 e15;have HZ:=zH (And.intro hz (And.intro hzl (And.intro hgg hg9)));have FE:=zH (UE.out.trans HF.out);have T9:=zH tg9;obtain⟨W5,hW5,l0,l1,l2,F5⟩:=lset (b:=bs) (bt:=bt) (v:=.slice a k c) tg9;have p0:=bQ (i:=0) tg9 rfl;have p1:=bQ (i:=1) tg9 rfl;have p2:=bQ (i:=2) tg9 rfl;have q0:=bJ (i:=0) tg9;have q1:=bJ (i:=1) tg9;have q2:=bJ (i:=2) tg9;clear hz hzl hgg hg9 tg9;refine wpN 16 rfl fun K' hK=>?_
   (try simp only[gA,gB,gC]);go_simp;refine hK.out _ _ ?_;clear hK K';refine wpN 17 rfl fun K' hK=>?_
   (try simp only[gA,gB,gC]);go_simp;refine hK.out _ _ ?_;clear hK K';refine wpN 18 rfl fun K' hK=>?_
   (try simp only[gA,gB,gC]);go_simp;refine hK.out _ _ ?_;clear hK K';refine wpF ?_
   try rw[hW5]
   clear p0 p1 p2 q0 q1 q2 hW5;have hb9:b≠g9:=fun e=>by have:=HZ.out.2.2.2;have:=bZ H4.out.top;omega
   have hg9:g≠g9:=fun e=>by have:=HZ.out.2.2.1;omega
   have h09:g0≠g9:=fun e=>by have:=HZ.out.2.2.1;have:=HGW.out;omega
   have FE5:Hid (Fr (fun _ _=>True) W4 W5):=Fr.within ((FE.out.mono fun _ _ _=>trivial:Fr (fun c _=>True∧c<W4.heap.size) W4 W).trans (F5.out.mono fun c _ h e=>by have:=h.2;have:=HZ.out.2.2.2;omega));have H5:=zH (H4.out.tt FE5.out);have T5:Hid (W5.heap[g]? = some (.cells (cM m1) 32 (0,0))):=FE5.out.keep _ _ T4.out trivial;have MX5:Hid (W5.heap[g0]? = some (.cells (cM m) 32 (0,0))):=FE5.out.keep _ _ MX4.out trivial;have FP5:Hid (Fr (fun c _=>¬P c) w W5):=FP4.out.trans (FE5.out.mono fun _ _ _=>trivial);have HGW5:Hid (w.heap.size≤W5.heap.size):=FP5.out.size;obtain⟨WB,hWB⟩:=zE W;rw[hWB] at HF FE T9 F5 HZ;clear hWB;by_cases gc:cd=60
   ·subst gc;have E:=zH (EG.out rfl);have UG:Hid (Fr (fun _ _=>True) W5 W5.drew):=(Fr.refl _ _).drew;clear l0 l1 l2 APC;go_wp2_with fail
    refine wpR [(65,0),(66,1),(67,2),(68,3),(69,4),(70,5),(71,6),(72,7)] [(0,[]),(1,[0]),(2,[1]),(3,[2]),(4,[]),(5,[4]),(6,[3,5])] (ckR [(0,.pointer (some ⟨b,0,none⟩)),(1,.pointer (some ⟨b,0,none⟩)),(2,.pointer (some ⟨b,8,none⟩)),(3,.agg #[.int .u64 (bs:Nat),.int .u64 (bt:Nat),.slice ae le ce]),(4,.pointer (some ⟨g0,4,none⟩)),(5,.int .u64 (ix:Nat)),(6,.int .u64 (hi:Nat))] [] 7 0) 2 rfl ?cfall ?cfend
    case cfall=>
     iterate 6
      refine bV.q rfl rfl rfl (fun xs W HF hE K' hK=>?_) ?_
      ·simp only[ckEqs,ckLook,Nat.reduceBEq] at hE;simp only[fillA,fillL,sA,sB,sC,Act.put,hE] at hK ⊢;clear hE;obtain⟨y0,y6,y8,y9,y10⟩:=CD.out W (FE5.out.trans (UG.out.trans HF.out));obtain⟨v1,v3,v4,v5,v6,v9⟩:=VH.out W ((UG.out.trans HF.out).keep _ _ MX5.out trivial);(try simp only[gA,gB,gC]);go_simp;exact hK.out _ rfl
     refine bV.p rfl rfl (fun xs W HF hA hE K' hK=>?_) ?_
     ·clear hA;simp only[ckEqs,ckLook,Nat.reduceBEq] at hE;simp only[fillA,fillL,sA,sB,sC,Act.put,hE] at hK ⊢;clear hE;obtain⟨y0,y6,y8,y9,y10⟩:=CD.out W (FE5.out.trans (UG.out.trans HF.out));obtain⟨v1,v3,v4,v5,v6,v9⟩:=VH.out W ((UG.out.trans HF.out).keep _ _ MX5.out trivial);have HI1:=zH (HIC.out W (FE5.out.trans (UG.out.trans HF.out)));dsimp only[vL] at HI1;(try simp only[gA,gB,gC]);go_simp;(with_reducible refine HI1.out.mono ?_);rintro e w8 ⟨rfl,f8⟩;exact hK.out _ _ _ rfl f8 rfl
     exact bV.nil
    case cfend=>
     intro xs W hF hA;have HF:=zH hF;have hE:=b_ rfl hA;clear hA hF;simp only[List.map_cons,List.map_nil,ckEqs,ckLook,Nat.reduceBEq] at hE;simp only[fillA,fillL,sA,sB,sC,hE];clear hE;have F6:=zH (UG.out.trans HF.out);have T6:Hid (W.heap[g]? = some (.cells (cM m1) 32 (0,0))):=F6.out.keep _ _ T5.out trivial;have y5:=(bq T6.out).2.2.2.2.2.1;have zg5:=bJ (i:=5) T6.out;obtain⟨W7,hW7⟩:=zE (W.setCell ⟨g,5,none⟩ (.int .u64 (hi:Nat)));have f7:Fr (fun c _=>c≠g) W W7:=hW7▸(Fr.refl _ _).setCell (fun _ _ h=>h rfl) _;obtain⟨m2,hm2⟩:∃m:MV,(⟨6,me,s,tm2,ix,hi,0,false,none,0,[],none,0,[]⟩:MV)=m:=⟨_,rfl⟩
     have T7:Hid (W7.heap[g]? = some (.cells (cM m2) 32 (0,0))):=by rw[←hW7,←hm2];have:=bK (o:=5) T6.out (.int .u64 (hi:Nat));rw[←HM1.out] at this;exact this
     have H7:=zH ((H5.out.tt F6.out).msg f7 ⟨_,_,T6.out⟩ (by have:=bZ H.out.top;have:=HGW.out;have:=HG0.out;omega));have FP7:Hid (Fr (fun c _=>¬P c) w W7):=(((FP5.out.trans (F6.out.mono fun _ _ _=>trivial)).mono fun c _ h=>h.1:Fr (fun c _=>¬P c∧c<w.heap.size) w W).trans (f7.mono fun c _ h e=>by have:=h.2;have:=HGS.out;omega)).within;have HM2:=zH hm2;have F7S:Hid (w.heap.size≤W7.heap.size):=FP7.out.size;clear f7 hm2 HIC CD;refine wpN 7 rfl fun K' hK=>?_
     (try simp only[gA,gB,gC]);go_simp;refine hK.out _ _ ?_;clear hK K';refine wpN 8 rfl fun K' hK=>?_
     (try simp only[gA,gB,gC]);go_simp;refine hK.out _ _ ?_;clear hK K';refine wpF ?_
     try rw[hW7]
     clear hW7 y5 zg5;obtain⟨u0,u1,u2,u3,u4,u5,u6,u7,u8,u9⟩:=bq T7.out;rw[←HM2.out] at u0 u1 u2 u3 u4 u5 u6 u7 u8 u9;go_wp2;go_ret;rw[E.out];refine⟨X,P,q.noYes,_,[⟨6,me,s,tm2,ix,hi,0,false,none,0,[],none,0,[]⟩],rfl,H7.out.tt ((Fr.refl _ W7).alloc _),(Aft.of FP7.out H.out.px).tr ((Fr.refl _ W7).alloc _),(OwnMs.one ⟨6,me,s,tm2,ix,hi,0,false,none,0,[],none,0,[]⟩ H7.out.hx ⟨BytesAt.nil _ _,EsAt.nil _ _⟩).lo F7S.out,rfl⟩
   ·have E:=zH (ET.out gc);have gc':(cd==60)=false:=by simpa using gc
    obtain⟨we,we0,we1⟩:=WE.out;have HZ5:Hid (EsAt X W5 (.slice a k c) zs):=HZ.out.1.fr F5.out (fun c o ho hr e=>hr.ne (e▸H4.out.new HZ.out.2.2.2) (by rw[e,T9.out] at ho;exact(Option.some.inj ho).symm) (by decide));have x8:=(H5.out.cells (Fr.refl _ W5)).2.2.2.2.2.2.2.2.1;have x9:=(H5.out.cells (Fr.refl _ W5)).2.2.2.2.2.2.2.2.2.1;have x10:=(H5.out.cells (Fr.refl _ W5)).2.2.2.2.2.2.2.2.2.2.1;have z8:=H5.out.free (Fr.refl _ W5) 8;have z9:=H5.out.free (Fr.refl _ W5) 9;have z10:=H5.out.free (Fr.refl _ W5) 10
    have h6:PNs X P (j4 W5 b [(8,.int .u64 (bs:Nat)),(9,.int .u64 (bt:Nat)),(10,.slice a k c)]) b { n2 with log:=LA } { q.noYes with ve:=.slice a k c,es:=zs }:=by refine H5.out.reE (bj b _ W5) ?_ ⟨rfl,rfl⟩ (.inl ⟨rfl,rfl⟩) ⟨HZ.out.2.1.symm,HZ5.out⟩ ⟨rfl,rfl,rfl,rfl⟩;rw[←HLB.out.1,←HLB.out.2];exact bz _ H5.out.top
    obtain⟨n3,hn3⟩:∃x:Nd,{ n2 with log:=LA }=x:=⟨_,rfl⟩
    obtain⟨q3,hq3⟩:∃x:NV,{ q.noYes with ve:=.slice a k c,es:=zs }=x:=⟨_,rfl⟩
    rw[hn3,hq3] at h6;have n3c:Hid (n3.commit=cm∧n3.me=me):=by rw[←hn3];exact⟨HN2P.out.2.2.trans HVE.out.2.2.2,HN2P.out.2.1.trans HL.out.1⟩
    replace E:Hid (n.onAppend m.ms=({ n3 with commit:=mx },[{ zMs with kind:=6,src:=me,dst:=s,index:=en,tm:=tm2,ok:=true }])):=by show _=_;rw[E.out,←hn3]
    obtain⟨W6,hW6⟩:=zE (j4 W5 b [(8,.int .u64 (bs:Nat)),(9,.int .u64 (bt:Nat)),(10,.slice a k c)]);have hW6':((W5.setCell ⟨b,8,none⟩ (.int .u64 (bs:Nat))).setCell ⟨b,9,none⟩ (.int .u64 (bt:Nat))).setCell ⟨b,10,none⟩ (.slice a k c)=W6:=hW6;have f6:Fr (fun c _=>c≠b) W5 W6:=hW6▸bj b _ W5;rw[hW6] at h6;have t6:W6.heap[g]? = some (.cells (cM m1) 32 (0,0)):=f6.keep _ _ T5.out hgb;have MX6:W6.heap[g0]? = some (.cells (cM m) 32 (0,0)):=f6.keep _ _ MX5.out gb.out;have y7:=(bq t6).2.2.2.2.2.2.2.1;have zg7:=bJ (i:=7) t6;obtain⟨W7,hW7⟩:=zE (W6.setCell ⟨g,7,none⟩ (.bool true));have f7:Fr (fun c _=>c≠g) W6 W7:=hW7▸(Fr.refl _ _).setCell (fun _ _ h=>h rfl) _;obtain⟨m2,hm2⟩:∃m:MV,(⟨6,me,s,tm2,ix,0,0,true,none,0,[],none,0,[]⟩:MV)=m:=⟨_,rfl⟩
    have t7:W7.heap[g]? = some (.cells (cM m2) 32 (0,0)):=by rw[←hW7,←hm2];have:=bK (o:=7) t6 (.bool true);rw[←HM1.out] at this;exact this
    have g0g:g0≠g:=fun e=>by have:=HGW.out;omega
    have MX7:W7.heap[g0]? = some (.cells (cM m) 32 (0,0)):=f7.keep _ _ MX6 g0g;have y4:W7.cell? ⟨g,4,none⟩=some (.int .u64 (ix:Nat)):=by rw[(bq t7).2.2.2.2.1,←hm2]
    have zg4:=bJ (i:=4) t7;have v9:=(VH.out W7 MX7).2.2.2.2.2;obtain⟨W8,hW8⟩:=zE (W7.setCell ⟨g,4,none⟩ (.int .u64 (en:Nat)));have f8:Fr (fun c _=>c≠g) W7 W8:=hW8▸(Fr.refl _ _).setCell (fun _ _ h=>h rfl) _;obtain⟨m3,hm3⟩:∃m:MV,(⟨6,me,s,tm2,en,0,0,true,none,0,[],none,0,[]⟩:MV)=m:=⟨_,rfl⟩
    have T8:Hid (W8.heap[g]? = some (.cells (cM m3) 32 (0,0))):=by rw[←hW8,←hm3];have:=bK (o:=4) t7 (.int .u64 (en:Nat));rw[←hm2] at this;exact this
    have MX8:Hid (W8.heap[g0]? = some (.cells (cM m) 32 (0,0))):=f8.keep _ _ MX7 g0g;have H8:=zH (h6.msg (f7.trans f8) ⟨_,_,t6⟩ (by have:=bZ H.out.top;have:=HGW.out;have:=HG0.out;omega));have FP6:Fr (fun c _=>¬P c) w W6:=FP5.out.trans (f6.mono fun c _ hc e=>hc (e▸H.out.pb));have FP8:Hid (Fr (fun c _=>¬P c) w W8):=((FP6.mono fun c _ h=>h.1:Fr (fun c _=>¬P c∧c<w.heap.size) w W6).trans ((f7.trans f8).mono fun c _ h e=>by have:=h.2;have:=HGS.out;omega)).within;have HM3:=zH hm3;have UH:Hid (Fr (fun _ _=>True) W8 W8.drew):=(Fr.refl _ _).drew;clear h6 hn3 hq3 hW6 f6 MX6 f7 g0g MX7 f8 FP6 hm2 hm3 t6 t7;go_wp2_with fail
    try rw[hW6']
    try rw[hW7]
    try rw[hW8]
    clear l0 l1 l2 x8 x9 x10 z8 z9 z10 hW6' y7 zg7 hW7 y4 zg4 v9 hW8 we we0 we1 gc gc' hb9 hg9 h09;refine wpR [(88,0),(89,1),(90,2),(91,3),(92,4),(93,5),(94,6),(95,7),(96,8),(97,9),(98,10),(99,11),(100,12)] [(0,[]),(1,[]),(2,[1]),(3,[2]),(4,[3]),(5,[]),(6,[5]),(7,[]),(8,[7]),(9,[6,8]),(10,[4,9])] (ckR [(0,.pointer (some ⟨b,0,none⟩)),(1,.pointer (some ⟨b,0,none⟩)),(2,.pointer (some ⟨b,0,none⟩)),(3,.pointer (some ⟨b,7,none⟩)),(4,.int .u64 (cm:Nat)),(5,.pointer (some ⟨g0,6,none⟩)),(6,.int .u64 (mc:Nat)),(7,.pointer (some ⟨g,4,none⟩)),(8,.int .u64 (en:Nat)),(9,.int .u64 (mn:Nat)),(10,.int .u64 (mx:Nat))] [] 11 0) 3 rfl ?cfall ?cfend
    case cfall=>
     iterate 9
      refine bV.q rfl rfl rfl (fun xs W HF hE K' hK=>?_) ?_
      ·simp only[ckEqs,ckLook,Nat.reduceBEq] at hE;simp only[fillA,fillL,sA,sB,sC,Act.put,hE] at hK ⊢;clear hE;have y7:W.cell? ⟨b,7,none⟩=some (.int .u64 (cm:Nat)):=by rw[←n3c.out.1];exact(H8.out.cells (UH.out.trans HF.out)).2.2.2.2.2.2.2.1
       have v6:=(VH.out W ((UH.out.trans HF.out).keep _ _ MX8.out trivial)).2.2.2.2.1;have y4:W.cell? ⟨g,4,none⟩=some (.int .u64 (en:Nat)):=by rw[(bq ((UH.out.trans HF.out).keep _ _ T8.out trivial)).2.2.2.2.1,←HM3.out]
       (try simp only[gA,gB,gC]);go_simp;exact hK.out _ rfl
     refine bV.p rfl rfl (fun xs W HF hA hE K' hK=>?_) ?_
     ·clear hA;simp only[ckEqs,ckLook,Nat.reduceBEq] at hE;simp only[fillA,fillL,sA,sB,sC,Act.put,hE] at hK ⊢;clear hE;(try simp only[gA,gB,gC]);go_simp;exact hK.out _ _ _ rfl (Fr.refl _ _) (congrArg (Value.int .u64) (show (min (mc:Int) (en:Int))=((mn:Nat):Int) from by have:=HMX.out.1;omega))
     refine bV.p rfl rfl (fun xs W HF hA hE K' hK=>?_) ?_
     ·clear hA;simp only[ckEqs,ckLook,Nat.reduceBEq] at hE;simp only[fillA,fillL,sA,sB,sC,Act.put,hE] at hK ⊢;clear hE;(try simp only[gA,gB,gC]);go_simp;exact hK.out _ _ _ rfl (Fr.refl _ _) (congrArg (Value.int .u64) (show (max (cm:Int) (mn:Int))=((mx:Nat):Int) from by have:=HMX.out.2;omega))
     exact bV.nil
    case cfend=>
     intro xs W hF hA;have HF:=zH hF;have hE:=b_ rfl hA;clear hA hF;simp only[List.map_cons,List.map_nil,ckEqs,ckLook,Nat.reduceBEq] at hE;simp only[fillA,fillL,sA,sB,sC,hE];clear hE;have F9:=zH (UH.out.trans HF.out);have H9:=zH (H8.out.tt F9.out);have x7:=(H9.out.cells (Fr.refl _ W)).2.2.2.2.2.2.2.1;have z7:=H9.out.free (Fr.refl _ W) 7;obtain⟨W10,hW10⟩:=zE (W.setCell ⟨b,7,none⟩ (.int .u64 (mx:Nat)));have hW10s:j4 W b [(7,.int .u64 (mx:Nat))]=W10:=hW10;have f10:Fr (fun c _=>c≠b) W W10:=hW10s▸bj b _ W;have h10:PNs X P W10 b { n3 with commit:=mx } q3:=H9.out.re f10 (hW10s▸bz _ H9.out.top) ⟨rfl,rfl⟩ (.inl ⟨rfl,rfl⟩) ⟨rfl,rfl,rfl⟩ ⟨rfl,rfl,rfl,rfl⟩;have H10:=zH h10;have T10:Hid (W10.heap[g]? = some (.cells (cM m3) 32 (0,0))):=f10.keep _ _ (F9.out.keep _ _ T8.out trivial) hgb;have FP10:Hid (Fr (fun c _=>¬P c) w W10):=(FP8.out.trans (F9.out.mono fun _ _ _=>trivial)).trans (f10.mono fun c _ hc e=>hc (e▸H.out.pb));have F10S:Hid (w.heap.size≤W10.heap.size):=FP10.out.size;clear h10 f10 hW10s;refine wpN 11 rfl fun K' hK=>?_
     (try simp only[gA,gB,gC]);go_simp;refine hK.out _ _ ?_;clear hK K';refine wpN 12 rfl fun K' hK=>?_
     (try simp only[gA,gB,gC]);go_simp;refine hK.out _ _ ?_;clear hK K';refine wpN 13 rfl fun K' hK=>?_
     (try simp only[gA,gB,gC]);go_simp;refine hK.out _ _ ?_;clear hK K';refine wpF ?_
     try rw[hW10]
     clear hW10 x7 z7;obtain⟨u0,u1,u2,u3,u4,u5,u6,u7,u8,u9⟩:=bq T10.out;rw[←HM3.out] at u0 u1 u2 u3 u4 u5 u6 u7 u8 u9;go_wp2;go_ret;rw[E.out];refine⟨X,P,q3,_,[⟨6,me,s,tm2,en,0,0,true,none,0,[],none,0,[]⟩],rfl,H10.out.tt ((Fr.refl _ W10).alloc _),(Aft.of FP10.out H.out.px).tr ((Fr.refl _ W10).alloc _),(OwnMs.one ⟨6,me,s,tm2,en,0,0,true,none,0,[],none,0,[]⟩ H10.out.hx ⟨BytesAt.nil _ _,EsAt.nil _ _⟩).lo F10S.out,rfl⟩
theorem qy [Old] (h:PNs X P w b n q) (m:MV) (hm:MsAt X w m) (hix:m.index+m.es.length+1<18446744073709551616) (hes:m.es.length≤900000) (hl:n.log.last+1<18446744073709551616) (hle:n.log.es.length≤900000):
 Calls Tryz.prog 10 #[.pointer (some ⟨b,0,none⟩),.agg (cM m)] w fun e w'=>jz X P w b (n.onAppend m.ms) e w':=by
 by_cases hk5:m.kind=5
 ·by_cases hlt:m.tm<n.tm
  ·exact nv h m hm hk5 hlt hix hes hl hle
  ·exact nj h m hm hk5 hlt hix hes hl hle
 ·exact n_ h m hm hk5 hix hes hl hle
end
theorem sY (n:Nd) (x:Int):(n.sendTo x).length≤1:=by
 unfold Nd.sendTo;split
 ·exact Nat.zero_le _
 ·exact Nat.le_refl _
section
variable {X P:Nat→Prop} {w w':World} {b:Nat} {n n':Nd} {q q':NV}
theorem KK [Old] (h:PNs X P w b n q) (hc:0<n.conf.length∧n.conf.length≤1000) (hnx:∀y∈n.next,y<18446744073709551616) (hl:n.log.last+1<18446744073709551616) (hle:n.log.es.length≤900000):
 Calls Tryz.prog 18 #[.pointer (some ⟨b,0,none⟩)] w fun e w'=>jj X w n.beat e w':=by
 have OC:=zH (mK h hc);have hol:n.others.length≤1000:=Nat.le_trans (List.length_filter_le _ _) hc.2;have TO:=zH (fun W (f:Fr (fun _ _=>True) w W) x=>mz (h.tt f) x hnx hl hle);have OUT:Hid (n.beat=n.others.flatMap n.sendTo):=rfl;obtain⟨ot,hot⟩:=zE n.others;rw[hot] at OC hol OUT;have HX:Hid (∀c,X c→c<w.heap.size):=h.hx;have HNEW:Hid (∀{c},w.heap.size≤c→¬Old.o c):=h.new;clear h hot hc hnx hl hle;go_enter Tryz.func18,Tryz.ntmps18
 go_wp2_with fail
 (with_reducible refine OC.out.mono ?_);rintro e w2 ⟨⟨go,ko,rfl,ro⟩,f2⟩;have F2:=zH f2;have RO2:=zH ro.ints;have ROW2:=zH ro;have O0:Hid (w2.ownsRow w.heap.size 32 10 (.slice none 0 0) ([]:List MV).length (([]:List MV).flatMap encM)):=⟨rfl,.inl ⟨rfl,rfl⟩⟩
 clear ro f2 OC;go_wp2;go_loopw [3,9] (fun o i wr=>∃(k:Nat) (g:Option Addr) (l c:Nat) (T:List MV),i=.int .i64 (k:Nat)∧k≤ot.length∧o=.slice g l c∧l≤k∧Hid (T.map MV.ms=(ot.take k).flatMap n.sendTo)∧Hid (T.length=l)∧Hid (wr.ownsRow w.heap.size 32 10 (.slice g l c) T.length (T.flatMap encM))∧Hid (∀m∈T,MsAt X wr m)∧Hid (Fr KI w2 wr)∧Hid (Fr (fun _ _=>True) w wr)) (fun _ i _=>ot.length-(intOf i).toNat)
 case atStart=>exact⟨0,none,0,0,[],rfl,Nat.zero_le _,rfl,Nat.zero_le _,rfl,rfl,O0.out,(fun m hm=>by cases hm),Fr.refl _ _,F2.out⟩
 case round=>
  obtain⟨k,g,l,c,T,rfl,hk,rfl,hlk,HT,HL,HO,HM,HF2,HFW⟩:=hrel;by_cases hlt:k<ot.length
  ·have hltI:(k:Int)<(ot.length:Int):=by omega
   obtain⟨bo,oo,rfl⟩:=RO2.out.addr (by omega);have hcell:=RO2.out.cell hlt;obtain⟨x,hx⟩:=zE (ot[k]);rw[hx] at hcell
   have u0:=HF2.out.cell (p:=⟨bo,oo+k,none⟩) (fun o ho=>by obtain⟨cur,hc⟩:=bw ROW2.out (c:=bo) rfl;have hc':w2.heap[bo]? = some o:=ho;rw[hc] at hc';cases hc';exact⟨_,_,rfl⟩) hcell
   have TO1:=zH (TO.out wr HFW.out x)
   have HS:Hid ((ot.take (k+1)).flatMap n.sendTo=(ot.take k).flatMap n.sendTo++n.sendTo x):=by show _=_;rw[List.take_succ_eq_append_getElem hlt,List.flatMap_append,hx];simp
   have HS1:Hid ((n.sendTo x).length≤1):=sY n x;clear hx hcell;go_wp2_with fail
   (with_reducible refine TO1.out.mono ?_);rintro e w3 ⟨⟨v3,mvs,rfl,o3,e3⟩,f3⟩;have O3:=zH o3;have E3:=zH e3;have F3:=zH f3;have FW3:=zH (HFW.out.trans f3);have OW3:Hid (w3.ownsRow w.heap.size 32 10 (.slice g l c) T.length (T.flatMap encM)):=bY HO.out f3 fun _ _ _ _=>trivial
   have hml:mvs.length≤1:=by have:=HS1.out;rw[←e3,List.length_map] at this;exact this
   obtain⟨M,hM⟩:=zE mvs.length;have HL3:Hid ((T++mvs).length=l+M):=by show _=_;rw[List.length_append,HL.out,hM]
   have RW3:=zH o3.rows;rw[hM] at hml;have hl1:l+M≤1000000:=by omega
   obtain⟨ga,na,ca,hv3,_⟩:∃ga na ca,v3=.slice ga na ca∧True:=by
    rcases o3.row.2 with⟨e,_⟩ | ⟨g,cap,cur,e,_⟩
    ·exact⟨_,_,_,e,trivial⟩
    ·exact⟨_,_,_,e,trivial⟩
   subst hv3;clear o3 e3 f3 TO1 u0 hM;go_wp2_with (at_builtin;refine dX w w3 FW3 rfl _ _ rfl (.slice g l c) T rfl OW3 (.slice ga na ca) mvs rfl RW3 _ rfl (l+M) HL3 hl1 ?_)
   intro g5 c5 W5 O5 F5 G5 N5;go_wp2;go_roundw
   case rel=>
    have htag:∀cb,(Value.slice g l c).ownBlock=some cb→∃cur,w3.heap[cb]? = some (.cells cur 32 (0,0)):=fun cb e=>bw OW3.out e
    have ki5:Fr KI w3 W5:=G5.out.monoH fun i o hi hk e=>by obtain⟨cur,hc⟩:=htag i e;rw[hc] at hi;cases hi;obtain⟨cs,fz,e⟩:=hk;cases e
    refine⟨k+1,g5,l+M,c5,T++mvs,by go_num,by omega,rfl,by omega,?_,HL3.out,?_,fun m hm=>?_,(HF2.out.trans (F3.out.mono fun _ _ _=>trivial)).trans ki5,F5.out⟩
    ·show _=_;rw[List.map_append,HT.out,E3.out,HS.out]
    ·show World.ownsRow _ _ _ _ _ _ _;rw[HL3.out,List.flatMap_append];exact O5.out
    ·refine MsAt.keep (w:=w3) ?_ G5.out ?_
     ·rcases List.mem_append.1 hm with hm | hm
      ·exact(HM.out m hm).tt F3.out
      ·exact O3.out.at' m hm
     ·intro i o hi hr e;obtain⟨cur,hc⟩:=htag i e;rw[hc] at hi;cases hi;exact hr.ne (HNEW.out (dV (v:=.slice g l c) OW3.out i e)) rfl (by decide)
   case measure=>simp [intOf];omega
  ·have hge:¬(k:Int)<(ot.length:Int):=by omega
   have HTT:Hid (T.map MV.ms=n.beat):=by show _=_;rw[HT.out,OUT.out,List.take_of_length_le (by omega)]
   go_wp2;go_ret;refine⟨⟨_,T,rfl,⟨HO.out,fun cb e hc=>?_,HM.out⟩,HTT.out⟩,HFW.out⟩;have:=HX.out cb hc;have:=dV HO.out cb e;omega
end
section
variable {X P:Nat→Prop} {w w':World} {b:Nat} {n n':Nd} {q q':NV}
theorem zQ [Old] (h:PNs X P w b n q) (m:MV) (hc:n.conf.length≤1000) (hy:n.yes.length≤900001) (ht:n.tm+1<18446744073709551616):
 Calls Tryz.prog 122 #[.pointer (some ⟨b,0,none⟩),.agg (cM m)] w fun e w'=>e=.returned (.bool (n.counts m.ms))∧Fr (fun _ _=>True) w w':=by
 obtain⟨W1,hW1,F1,X1⟩:=gW w m;obtain⟨g0,hg0⟩:=zE w.heap.size;rw[hg0] at X1;have hW:n.counts m.ms=(m.ok&&((decide (n.role=2∧m.kind=2∧m.tm=n.tm)||decide (n.role=1∧m.kind=4∧m.tm=n.tm+1))&&(jY n.conf m.src&&!jY n.yes m.src))):=rfl;obtain⟨vc,hvc⟩:=zE q.vc;obtain⟨vy,hvy⟩:=zE q.vy;obtain⟨hcf,hhc⟩:=zE (jY n.conf m.src);obtain⟨hys,hhy⟩:=zE (jY n.yes m.src)
 have CT:Hid (∀W,Fr (fun _ _=>True) W1 W→Calls Tryz.prog 94 #[vc,.int .i64 m.src] W fun e w'=>e=.returned (.bool hcf)∧w'=W):=fun W f=>by rw[←hhc,←hvc];exact(dK W q.vc n.conf m.src (h.cf.tt (F1.out.trans f)) (by unfold maxLen;omega)).mono fun e w' ⟨h1,h2⟩=>And.intro h1 (by first | exact h2 | exact h2.symm)
 have CY:Hid (∀W,Fr (fun _ _=>True) W1 W→Calls Tryz.prog 94 #[vy,.int .i64 m.src] W fun e w'=>e=.returned (.bool hys)∧w'=W):=fun W f=>by rw[←hhy,←hvy];exact(dK W q.vy n.yes m.src (h.ye.ints.tt (F1.out.trans f)) (by unfold maxLen;omega)).mono fun e w' ⟨h1,h2⟩=>And.intro h1 (by first | exact h2 | exact h2.symm)
 obtain⟨k,hk⟩:=zE m.kind;obtain⟨mt,hmt⟩:=zE m.tm;obtain⟨s,hs⟩:=zE m.src;obtain⟨mo,hmo⟩:=zE m.ok;obtain⟨tm,htm⟩:=zE n.tm;obtain⟨ro,hro⟩:=zE n.role
 have CC:Hid (∀W,Fr (fun _ _=>True) W1 W→(W.cell? ⟨b,2,none⟩=some (.int .i64 ro)∧W.cell? ⟨b,4,none⟩=some vc∧W.cell? ⟨b,5,none⟩=some vy∧W.cell? ⟨b,6,none⟩=some (.int .u64 (tm:Nat)))∧W.cell? ⟨g0,0,none⟩=some (.int .i64 k)∧W.cell? ⟨g0,1,none⟩=some (.int .i64 s)∧W.cell? ⟨g0,3,none⟩=some (.int .u64 (mt:Nat))∧W.cell? ⟨g0,7,none⟩=some (.bool mo)):=fun W f=>by obtain⟨x0,x1,x2,x3,x4,x5,x6,x7,x8,x9,x10,x11,x12,x13⟩:=h.cells (F1.out.trans f);obtain⟨v0,v1,v2,v3,v4,v5,v6,v7,v8,v9⟩:=bq (f.keep _ _ X1.out trivial);exact⟨⟨by rw[x2,hro],by rw[x4,hvc],by rw[x5,hvy],by rw[x6,htm]⟩,by rw[v0,hk],by rw[v1,hs],by rw[v3,hmt],by rw[v7,hmo]⟩
 rw[hW,hhc,hhy,hmo,hro,hk,hmt,htm];rw[htm] at ht;rw[hs] at CT CY;unfold cM at hW1 ⊢;rw[hk,hs,hmt,hmo] at hW1 ⊢;have HG0:=zH hg0;have wt:IntKind.u64.wrap ((tm:Int)+1)=((tm+1:Nat):Int):=by rw[IntKind.wrap_u64];omega
 obtain⟨tm1,htm1⟩:=zE (tm+1);rw[htm1] at wt ⊢;obtain⟨⟨x2,x4,x5,x6⟩,v0,v1,v3,v7⟩:=CC.out W1 (Fr.refl _ _);clear hW hk hmt hs htm hro hmo hvc hvy hhc hhy hg0 ht htm1 hc hy h;by_cases r2:ro=2
 ·subst r2;have g3:((2:Int)==1)=false:=rfl;rw[decide_eq_false (show ¬((2:Int)=1∧k=4∧mt=tm1) from fun e=>by omega)];by_cases k2:k=2
  ·subst k2;by_cases e2:mt=tm
   ·subst e2;have g1:((mt:Int)==(mt:Int))=true:=by simp
    rw[decide_eq_true (show (2:Int)=2∧(2:Int)=2∧mt=mt from⟨rfl,rfl,rfl⟩)];go_enter Tryz.func122,Tryz.ntmps122
    go_wp2_with fail
    try rw[hW1]
    try rw[HG0.out]
    go_quiet (fail)
    generalize hA:W1.drewN nq=WA;have FA:Hid (Fr (fun _ _=>True) W1 WA):=hA▸(Fr.refl _ W1).drewN nq;clear hA x2 x4 x5 x6 v0 v1 v3 v7;obtain⟨⟨x2,x4,x5,x6⟩,v0,v1,v3,v7⟩:=CC.out WA FA.out;go_wp2_with fail
    go_quiet (fail)
    generalize hB:WA.drewN nq=WB;have FB:Hid (Fr (fun _ _=>True) W1 WB):=FA.out.trans (hB▸(Fr.refl _ WA).drewN nq);clear hB x2 x4 x5 x6 v0 v1 v3 v7;obtain⟨⟨x2,x4,x5,x6⟩,v0,v1,v3,v7⟩:=CC.out WB FB.out;go_wp2_with fail
    cases mo with
    | false=>
     go_quiet (fail)
     go_wp2;go_ret;exact⟨rfl,(F1.out.trans FB.out).drewN _⟩
    | true=>
     cases hcf with
     | false=>
      go_quiet ((go_at_call 94;exact Calls.quiet_of_same (CT.out _ (FB.out.drewN _))))
      go_wp2;go_ret;exact⟨rfl,(F1.out.trans FB.out).drewN _⟩
     | true=>
      cases hys with
      | false=>
       go_quiet ((go_at_call 94;first | exact Calls.quiet_of_same (CT.out _ (FB.out.drewN _)) | exact Calls.quiet_of_same (CY.out _ (FB.out.drewN _))))
       go_wp2;go_ret;exact⟨rfl,(F1.out.trans FB.out).drewN _⟩
      | true=>
       go_quiet ((go_at_call 94;first | exact Calls.quiet_of_same (CT.out _ (FB.out.drewN _)) | exact Calls.quiet_of_same (CY.out _ (FB.out.drewN _))))
       go_wp2;go_ret;exact⟨rfl,(F1.out.trans FB.out).drewN _⟩
   ·have g1:((mt:Int)==(tm:Int))=false:=by simp;omega
    rw[decide_eq_false (show ¬((2:Int)=2∧(2:Int)=2∧mt=tm) from fun e=>e2 e.2.2)];clear e2;go_enter Tryz.func122,Tryz.ntmps122
    go_wp2_with fail
    try rw[hW1]
    try rw[HG0.out]
    go_quiet (fail)
    generalize hA:W1.drewN nq=WA;have FA:Hid (Fr (fun _ _=>True) W1 WA):=hA▸(Fr.refl _ W1).drewN nq;clear hA x2 x4 x5 x6 v0 v1 v3 v7;obtain⟨⟨x2,x4,x5,x6⟩,v0,v1,v3,v7⟩:=CC.out WA FA.out;go_wp2_with fail
    go_quiet (fail)
    generalize hB:WA.drewN nq=WB;have FB:Hid (Fr (fun _ _=>True) W1 WB):=FA.out.trans (hB▸(Fr.refl _ WA).drewN nq);clear hB x2 x4 x5 x6 v0 v1 v3 v7;obtain⟨⟨x2,x4,x5,x6⟩,v0,v1,v3,v7⟩:=CC.out WB FB.out;go_wp2_with fail
    cases mo with
    | false=>
     go_quiet (fail)
     go_wp2;go_ret;exact⟨rfl,(F1.out.trans FB.out).drewN _⟩
    | true=>
     go_quiet (fail)
     go_wp2;go_ret;exact⟨rfl,(F1.out.trans FB.out).drewN _⟩
  ·have g1:(k==2)=false:=by simpa using k2
   rw[decide_eq_false (show ¬((2:Int)=2∧k=2∧mt=tm) from fun e=>k2 e.2.1)];clear k2;go_enter Tryz.func122,Tryz.ntmps122
   go_wp2_with fail
   try rw[hW1]
   try rw[HG0.out]
   go_quiet (fail)
   generalize hA:W1.drewN nq=WA;have FA:Hid (Fr (fun _ _=>True) W1 WA):=hA▸(Fr.refl _ W1).drewN nq;clear hA x2 x4 x5 x6 v0 v1 v3 v7;obtain⟨⟨x2,x4,x5,x6⟩,v0,v1,v3,v7⟩:=CC.out WA FA.out;go_wp2_with fail
   go_quiet (fail)
   generalize hB:WA.drewN nq=WB;have FB:Hid (Fr (fun _ _=>True) W1 WB):=FA.out.trans (hB▸(Fr.refl _ WA).drewN nq);clear hB x2 x4 x5 x6 v0 v1 v3 v7;obtain⟨⟨x2,x4,x5,x6⟩,v0,v1,v3,v7⟩:=CC.out WB FB.out;go_wp2_with fail
   cases mo with
   | false=>
    go_quiet (fail)
    go_wp2;go_ret;exact⟨rfl,(F1.out.trans FB.out).drewN _⟩
   | true=>
    go_quiet (fail)
    go_wp2;go_ret;exact⟨rfl,(F1.out.trans FB.out).drewN _⟩
 ·have g1:(ro==2)=false:=by simpa using r2
  rw[decide_eq_false (show ¬(ro=2∧k=2∧mt=tm) from fun e=>r2 e.1)];clear r2;by_cases r1:ro=1
  ·subst r1;by_cases k4:k=4
   ·subst k4;by_cases e2:mt=tm1
    ·subst e2;have g2:((mt:Int)==(mt:Int))=true:=by simp
     rw[decide_eq_true (show (1:Int)=1∧(4:Int)=4∧mt=mt from⟨rfl,rfl,rfl⟩)];go_enter Tryz.func122,Tryz.ntmps122
     go_wp2_with fail
     try rw[hW1]
     try rw[HG0.out]
     go_quiet (fail)
     generalize hA:W1.drewN nq=WA;have FA:Hid (Fr (fun _ _=>True) W1 WA):=hA▸(Fr.refl _ W1).drewN nq;clear hA x2 x4 x5 x6 v0 v1 v3 v7;obtain⟨⟨x2,x4,x5,x6⟩,v0,v1,v3,v7⟩:=CC.out WA FA.out;go_wp2_with fail
     go_quiet (fail)
     generalize hB:WA.drewN nq=WB;have FB:Hid (Fr (fun _ _=>True) W1 WB):=FA.out.trans (hB▸(Fr.refl _ WA).drewN nq);clear hB x2 x4 x5 x6 v0 v1 v3 v7;obtain⟨⟨x2,x4,x5,x6⟩,v0,v1,v3,v7⟩:=CC.out WB FB.out;go_wp2_with fail
     cases mo with
     | false=>
      go_quiet (fail)
      go_wp2;go_ret;exact⟨rfl,(F1.out.trans FB.out).drewN _⟩
     | true=>
      cases hcf with
      | false=>
       go_quiet ((go_at_call 94;exact Calls.quiet_of_same (CT.out _ (FB.out.drewN _))))
       go_wp2;go_ret;exact⟨rfl,(F1.out.trans FB.out).drewN _⟩
      | true=>
       cases hys with
       | false=>
        go_quiet ((go_at_call 94;first | exact Calls.quiet_of_same (CT.out _ (FB.out.drewN _)) | exact Calls.quiet_of_same (CY.out _ (FB.out.drewN _))))
        go_wp2;go_ret;exact⟨rfl,(F1.out.trans FB.out).drewN _⟩
       | true=>
        go_quiet ((go_at_call 94;first | exact Calls.quiet_of_same (CT.out _ (FB.out.drewN _)) | exact Calls.quiet_of_same (CY.out _ (FB.out.drewN _))))
        go_wp2;go_ret;exact⟨rfl,(F1.out.trans FB.out).drewN _⟩
    ·have g2:((mt:Int)==(tm1:Int))=false:=by simp;omega
     rw[decide_eq_false (show ¬((1:Int)=1∧(4:Int)=4∧mt=tm1) from fun e=>e2 e.2.2)];clear e2;go_enter Tryz.func122,Tryz.ntmps122
     go_wp2_with fail
     try rw[hW1]
     try rw[HG0.out]
     go_quiet (fail)
     generalize hA:W1.drewN nq=WA;have FA:Hid (Fr (fun _ _=>True) W1 WA):=hA▸(Fr.refl _ W1).drewN nq;clear hA x2 x4 x5 x6 v0 v1 v3 v7;obtain⟨⟨x2,x4,x5,x6⟩,v0,v1,v3,v7⟩:=CC.out WA FA.out;go_wp2_with fail
     go_quiet (fail)
     generalize hB:WA.drewN nq=WB;have FB:Hid (Fr (fun _ _=>True) W1 WB):=FA.out.trans (hB▸(Fr.refl _ WA).drewN nq);clear hB x2 x4 x5 x6 v0 v1 v3 v7;obtain⟨⟨x2,x4,x5,x6⟩,v0,v1,v3,v7⟩:=CC.out WB FB.out;go_wp2_with fail
     cases mo with
     | false=>
      go_quiet (fail)
      go_wp2;go_ret;exact⟨rfl,(F1.out.trans FB.out).drewN _⟩
     | true=>
      go_quiet (fail)
      go_wp2;go_ret;exact⟨rfl,(F1.out.trans FB.out).drewN _⟩
   ·have g2:(k==4)=false:=by simpa using k4
    rw[decide_eq_false (show ¬((1:Int)=1∧k=4∧mt=tm1) from fun e=>k4 e.2.1)];clear k4;go_enter Tryz.func122,Tryz.ntmps122
    go_wp2_with fail
    try rw[hW1]
    try rw[HG0.out]
    go_quiet (fail)
    generalize hA:W1.drewN nq=WA;have FA:Hid (Fr (fun _ _=>True) W1 WA):=hA▸(Fr.refl _ W1).drewN nq;clear hA x2 x4 x5 x6 v0 v1 v3 v7;obtain⟨⟨x2,x4,x5,x6⟩,v0,v1,v3,v7⟩:=CC.out WA FA.out;go_wp2_with fail
    go_quiet (fail)
    generalize hB:WA.drewN nq=WB;have FB:Hid (Fr (fun _ _=>True) W1 WB):=FA.out.trans (hB▸(Fr.refl _ WA).drewN nq);clear hB x2 x4 x5 x6 v0 v1 v3 v7;obtain⟨⟨x2,x4,x5,x6⟩,v0,v1,v3,v7⟩:=CC.out WB FB.out;go_wp2_with fail
    cases mo with
    | false=>
     go_quiet (fail)
     go_wp2;go_ret;exact⟨rfl,(F1.out.trans FB.out).drewN _⟩
    | true=>
     go_quiet (fail)
     go_wp2;go_ret;exact⟨rfl,(F1.out.trans FB.out).drewN _⟩
  ·have g2:(ro==1)=false:=by simpa using r1
   rw[decide_eq_false (show ¬(ro=1∧k=4∧mt=tm1) from fun e=>r1 e.1)];clear r1;go_enter Tryz.func122,Tryz.ntmps122
   go_wp2_with fail
   try rw[hW1]
   try rw[HG0.out]
   go_quiet (fail)
   generalize hA:W1.drewN nq=WA;have FA:Hid (Fr (fun _ _=>True) W1 WA):=hA▸(Fr.refl _ W1).drewN nq;clear hA x2 x4 x5 x6 v0 v1 v3 v7;obtain⟨⟨x2,x4,x5,x6⟩,v0,v1,v3,v7⟩:=CC.out WA FA.out;go_wp2_with fail
   go_quiet (fail)
   generalize hB:WA.drewN nq=WB;have FB:Hid (Fr (fun _ _=>True) W1 WB):=FA.out.trans (hB▸(Fr.refl _ WA).drewN nq);clear hB x2 x4 x5 x6 v0 v1 v3 v7;obtain⟨⟨x2,x4,x5,x6⟩,v0,v1,v3,v7⟩:=CC.out WB FB.out;go_wp2_with fail
   cases mo with
   | false=>
    go_quiet (fail)
    go_wp2;go_ret;exact⟨rfl,(F1.out.trans FB.out).drewN _⟩
   | true=>
    go_quiet (fail)
    go_wp2;go_ret;exact⟨rfl,(F1.out.trans FB.out).drewN _⟩
end
end Go.Proofs.YtmjccpfchhnfhaaGreat
