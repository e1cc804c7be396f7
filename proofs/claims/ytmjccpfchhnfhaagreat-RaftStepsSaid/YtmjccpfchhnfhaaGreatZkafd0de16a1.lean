/- Texts of the proofs, part 28: what the functions that they reach do, walked; no conditions beyond those that each states. -/
import Derived.Test.YtmjccpfchhnfhaaGreatZk0a5f8f3a6b
import Derived.Test.YtmjccpfchhnfhaaGreatZkb9b594ed00
set_option linter.unusedVariables false
set_option linter.unusedSimpArgs false
set_option maxRecDepth 100000
set_option maxHeartbeats 8000000
namespace Go.Proofs.YtmjccpfchhnfhaaGreat
open Go.RowKit
section
variable {X P:Nat→Prop} {w w':World} {b:Nat} {n n':Nd} {q q':NV}
theorem rY [Old] (h:PNs X P w b n q) (m:MV) (hk6:m.kind=6) (hnlt:¬n.tm<m.tm) (hlt:¬m.tm<n.tm) (hr:n.role=3) (hx:m.src≠n.me) (t:Nat) (ht:t<16) (hst:m.src=(t:Nat)) (ho:m.ok=false) (hcf:0<n.conf.length∧n.conf.length≤12) (hpos:∀x∈n.conf,0≤x) (hnx:∀y∈n.next,y+1<18446744073709551616) (hmx:∀y∈n.mat,y+1<18446744073709551616) (hix:m.index+1<18446744073709551616) (hpv1:m.prev+1<18446744073709551616) (hl:n.log.last+1<18446744073709551616) (hle:n.log.es.length≤900000):
 Calls Tryz.prog 14 #[.pointer (some ⟨b,0,none⟩),.agg (cM m)] w fun e w'=>jz X P w b (n.onAcked m.ms) e w':=by
 obtain⟨W1,hW1,F1,X1⟩:=gW w m;obtain⟨g0,hg0⟩:=zE w.heap.size;rw[hg0] at X1;have H:=zH h;have HG0:=zH hg0;have gb:Hid (g0≠b):=by have:=bZ h.top;show _≠_;omega
 obtain⟨me,hme⟩:=zE n.me;obtain⟨ro,hro⟩:=zE n.role;obtain⟨tm,htm⟩:=zE n.tm;obtain⟨s,hs⟩:=zE m.src;obtain⟨mt,hmt⟩:=zE m.tm;obtain⟨ix,hixx⟩:=zE m.index;obtain⟨pv,hpv⟩:=zE m.prev;obtain⟨ok,hok⟩:=zE m.ok;have HL:=zH (And.intro hme (And.intro hro (And.intro htm (And.intro hs (And.intro hmt (And.intro hixx (And.intro hpv hok)))))))
 have VH:Hid (∀W:World,W.heap[g0]? = some (.cells (cM m) 32 (0,0))→W.cell? ⟨g0,1,none⟩=some (.int .i64 s)∧W.cell? ⟨g0,3,none⟩=some (.int .u64 (mt:Nat))∧W.cell? ⟨g0,4,none⟩=some (.int .u64 (ix:Nat))∧W.cell? ⟨g0,5,none⟩=some (.int .u64 (pv:Nat))∧W.cell? ⟨g0,7,none⟩=some (.bool ok)):=fun W t=>by obtain⟨v0,v1,v2,v3,v4,v5,v6,v7,v8,v9⟩:=bq t;exact⟨by rw[v1,hs],by rw[v3,hmt],by rw[v4,hixx],by rw[v5,hpv],by rw[v7,hok]⟩
 have v0:W1.cell? ⟨g0,0,none⟩=some (.int .i64 6):=by rw[←hk6];exact(bq X1.out).1
 have y6:W1.cell? ⟨b,6,none⟩=some (.int .u64 (tm:Nat)):=by rw[←htm];exact(h.cells F1.out).2.2.2.2.2.2.1
 have v3:=(VH.out W1 X1.out).2.1;have gl:decide (tm<mt)=false:=by rw[←hmt,←htm];exact decide_eq_false hnlt
 have g1:decide (mt<tm)=false:=by rw[←hmt,←htm];exact decide_eq_false hlt
 obtain rfl:ro=3:=by rw[←hro];exact hr
 have g2:(s==me)=false:=by rw[←hs,←hme];simpa using hx
 obtain rfl:s=(t:Nat):=by rw[←hs];exact hst
 obtain rfl:ok=false:=by rw[←hok];exact ho
 have NC:=zH (fun W=>dW W (t:Nat));rw[decide_eq_true (show (0:Int)≤(t:Nat)∧((t:Nat):Int)<16 by omega)] at NC;obtain⟨bs,hbs⟩:=zE n.log.base;obtain⟨bt,hbt⟩:=zE n.log.bt;obtain⟨ae,le,ce,hve,hlel,hesl,hlg⟩:=h.lg;have hl2:bs+le+1<18446744073709551616:=by unfold Lg.last at hl;omega
 obtain⟨LST,hLST⟩:=zE (bs+le);have hlast:n.log.last=LST:=by unfold Lg.last;omega
 have LAST:=zH (fun W=>cJ W bs bt ae le ce (by omega));rw[hLST] at LAST;obtain⟨bn,hbn⟩:=zE q.bn;obtain⟨cn,hcn⟩:=zE q.cn;obtain⟨bm,hbm⟩:=zE q.bm;obtain⟨km,hkm⟩:=zE q.cm;have HQ:=zH (And.intro hbn (And.intro hcn (And.intro hbm (And.intro hkm (And.intro hve (And.intro hbs hbt))))));obtain⟨nt,hnt⟩:=zE (n.next.getD t 0);obtain⟨kt,hkt⟩:=zE (n.mat.getD t 0)
 have hkt64:kt+1<18446744073709551616:=by rw[←hkt,List.getD_eq_getElem?_getD,List.getElem?_eq_getElem (by have:=h.mt.1;omega)];exact hmx _ (List.getElem_mem _)
 have ht2:((t:Nat):Int)<16:=by omega
 have E0:n.onAcked m.ms=if m.ok=true∧(n.acked m.ms).log.last<(n.acked m.ms).next.getD t 0 then(n.acked m.ms,[]) else(n.acked m.ms,(n.acked m.ms).sendTo (t:Nat)):=by
  unfold Nd.onAcked
  rw[if_neg (fun e=>e hk6),if_neg (show ¬n.tm<m.ms.tm from hnlt),if_neg (show ¬(m.ms.tm<n.tm∨n.role≠3∨m.ms.src=n.me∨m.ms.src<0∨15<m.ms.src) by
   have e:m.ms.src=(t:Nat):=hst;rw[e];rintro(e | e | e | e | e)
   ·exact hlt e
   ·exact e hr
   ·exact hx (hst.trans e)
   ·omega
   ·omega)]
  have e:m.ms.src=(t:Nat):=hst;rw[e];rfl
 have CC:Hid (∀W W' nA,PNs X P W b nA q→nA.log=n.log→Fr (fun _ _=>True) W W'→W'.cell? ⟨b,8,none⟩=some (.int .u64 (bs:Nat))∧W'.cell? ⟨b,9,none⟩=some (.int .u64 (bt:Nat))∧W'.cell? ⟨b,10,none⟩=some (.slice ae le ce)∧W'.cell? ⟨b,12,none⟩=some (.slice (some ⟨bn,0,none⟩) 16 cn)∧W'.cell? ⟨b,13,none⟩=some (.slice (some ⟨bm,0,none⟩) 16 km)∧W'.cell? ⟨bn,t,none⟩=some (.int .u64 (nA.next.getD t 0:Nat))∧W'.cell? ⟨bm,t,none⟩=some (.int .u64 (nA.mat.getD t 0:Nat))):=fun W W' nA hA hlA f=>by obtain⟨x0,x1,x2,x3,x4,x5,x6,x7,x8,x9,x10,x11,x12,x13⟩:=hA.cells f;exact⟨by rw[x8,hlA,hbs],by rw[x9,hlA,hbt],by rw[x10,hve],by rw[x12,hbn,hcn],by rw[x13,hbm,hkm],by rw[←hbn];exact(hA.nx.fr f fun _ _=>trivial).cell t ht,by rw[←hbm];exact(hA.mt.fr f fun _ _=>trivial).cell t ht⟩
 have HT:=zH ht;have HNK:=zH (And.intro hnt hkt);have hpv2:pv+1<18446744073709551616:=by omega
 have wp1:IntKind.u64.wrap ((pv:Int)+1)=((pv+1:Nat):Int):=by rw[IntKind.wrap_u64];omega
 have wk1:IntKind.u64.wrap ((kt:Int)+1)=((kt+1:Nat):Int):=by rw[IntKind.wrap_u64];omega
 obtain⟨pv1,hpv11⟩:=zE (pv+1);obtain⟨kt1,hkt1⟩:=zE (kt+1);obtain⟨mn,hmn⟩:=zE (min ix pv1);obtain⟨mx,hmxx⟩:=zE (max kt1 mn);rw[hpv11] at wp1;rw[hkt1] at wk1;have HMX:=zH (And.intro hmn hmxx);obtain⟨nA,hnA⟩:∃x:Nd,{ n with next:=n.next.set t mx }=x:=⟨_,rfl⟩
 have hac:n.acked m.ms=nA:=by
  unfold Nd.acked;have e:m.ms.src.toNat=t:=by show m.src.toNat=t;rw[hst];rfl
  rw[if_pos (show m.ms.ok=false from ho),e,hkt,show m.ms.index=ix from hixx,show m.ms.prev=pv from hpv,hpv11,hkt1,hmn,hmxx,hnA]
 have E:Hid (n.onAcked m.ms=(nA,nA.sendTo (t:Nat))):=by show _=_;rw[E0,if_neg (fun e=>by rw[ho] at e;cases e.1),hac]
 have TO:Hid (∀W,PNs X P W b nA q→Calls Tryz.prog 16 #[.pointer (some ⟨b,0,none⟩),.int .i64 (t:Nat)] W fun e w'=>jj X W (nA.sendTo (t:Nat)) e w'):=fun W hA=>mz hA (t:Nat) (fun y hy=>by
  rw[←hnA] at hy;rcases List.mem_or_eq_of_mem_set hy with hy | hy
  ·have:=hnx y hy;omega
  ·omega) (by rw[←hnA];exact hl) (by rw[←hnA];exact hle)
 have HNA:=zH hnA;unfold cM at hW1 ⊢;clear hk6 hnlt hlt hr hx hst ho hnt hkt hbs hbt hve hlel hesl hlg hl2 hLST hlast hbn hcn hbm hkm hkt64 E0 hpv2 hpv11 hkt1 hmn hmxx hnA hac ht h hme hro htm hs hmt hixx hpv hok hcf hpos hnx hmx hix hpv1 hl hle;go_enter Tryz.func14,Tryz.ntmps14
 go_wp2_with fail
 try rw[hW1]
 try rw[HG0.out]
 clear hW1 hg0 v0;go_quiet (fail)
 clear y6 v3 gl;have UQ:Hid (Fr (fun _ _=>True) W1 (W1.drewN nq)):=(Fr.refl _ W1).drewN nq;generalize W1.drewN nq=W2 at UQ ⊢;have F2:=zH (F1.out.trans UQ.out);have H2:=zH (H.out.tt F2.out);have T2:Hid (W2.heap[g0]? = some (.cells (cM m) 32 (0,0))):=UQ.out.keep _ _ X1.out trivial;have y6:W2.cell? ⟨b,6,none⟩=some (.int .u64 (tm:Nat)):=by rw[←HL.out.2.2.1];exact(H2.out.cells (Fr.refl _ W2)).2.2.2.2.2.2.1
 have y2:W2.cell? ⟨b,2,none⟩=some (.int .i64 3):=by rw[←HL.out.2.1];exact(H2.out.cells (Fr.refl _ W2)).2.2.1
 have y0:W2.cell? ⟨b,0,none⟩=some (.int .i64 me):=by rw[←HL.out.1];exact(H2.out.cells (Fr.refl _ W2)).1
 have v3:=(VH.out W2 T2.out).2.1;have v1:=(VH.out W2 T2.out).1;go_wp2_with fail
 go_quiet ((go_at_call 62;exact Calls.quiet_of_same ((NC.out _).mono fun e w' h=>And.intro h.1 h.2.symm)))
 clear y6 y2 y0 v3 v1 g1 g2 NC;have UQ2:Hid (Fr (fun _ _=>True) W2 (W2.drewN nq)):=(Fr.refl _ W2).drewN nq;generalize W2.drewN nq=W3 at UQ2 ⊢;have F3:=zH (F2.out.trans UQ2.out);have H3:=zH (H2.out.tt UQ2.out);have T3:Hid (W3.heap[g0]? = some (.cells (cM m) 32 (0,0))):=UQ2.out.keep _ _ T2.out trivial;have UD:Hid (Fr (fun _ _=>True) W3 W3.drew):=(Fr.refl _ _).drew;have v1:=(VH.out W3 T3.out).1;have v7:=(VH.out W3 T3.out).2.2.2.2;go_wp2_with fail
 clear v1 v7;refine wpR [(58,0),(59,1),(60,2),(61,3),(62,4),(63,5),(64,6),(65,7),(66,8),(67,9),(68,10),(69,11),(70,12),(71,13),(72,14),(73,15),(74,16),(75,17),(76,18),(77,19),(78,20)] [(0,[]),(1,[0]),(2,[1]),(3,[2]),(4,[]),(5,[]),(6,[5]),(7,[6]),(8,[7]),(9,[]),(10,[8,9]),(11,[10]),(12,[11]),(13,[]),(14,[13]),(15,[]),(16,[15]),(17,[16]),(18,[14,17]),(19,[12,18])] (ckR [(0,.pointer (some ⟨b,0,none⟩)),(1,.pointer (some ⟨b,0,none⟩)),(2,.pointer (some ⟨b,12,none⟩)),(3,.slice (some ⟨bn,0,none⟩) 16 cn),(4,.int .i64 (t:Nat)),(5,.pointer (some ⟨b,0,none⟩)),(6,.pointer (some ⟨b,0,none⟩)),(7,.pointer (some ⟨b,13,none⟩)),(8,.slice (some ⟨bm,0,none⟩) 16 km),(9,.int .i64 (t:Nat)),(10,.pointer (some ⟨bm,t,none⟩)),(11,.int .u64 (kt:Nat)),(12,.int .u64 (kt1:Nat)),(13,.pointer (some ⟨g0,4,none⟩)),(14,.int .u64 (ix:Nat)),(15,.pointer (some ⟨g0,5,none⟩)),(16,.int .u64 (pv:Nat)),(17,.int .u64 (pv1:Nat)),(18,.int .u64 (mn:Nat)),(19,.int .u64 (mx:Nat))] [] 20 0) 2 rfl ?cfall ?cfend
 case cfall=>
  iterate 18
   refine bV.q rfl rfl rfl (fun xs W HF hE K' hK=>?_) ?_
   ·simp only[ckEqs,ckLook,Nat.reduceBEq] at hE;simp only[fillA,fillL,sA,sB,sC,Act.put,hE] at hK ⊢;clear hE;obtain⟨y8,y9,y10,y12,y13,yn,ym⟩:=CC.out W3 W n H3.out rfl (UD.out.trans HF.out);rw[HNK.out.2] at ym;have V:=VH.out W ((UD.out.trans HF.out).keep _ _ T3.out trivial);have v4:=V.2.2.1;have v5:=V.2.2.2.1;clear V;(try simp only[gA,gB,gC]);go_simp;exact hK.out _ rfl
  refine bV.p rfl rfl (fun xs W HF hA hE K' hK=>?_) ?_
  ·clear hA;simp only[ckEqs,ckLook,Nat.reduceBEq] at hE;simp only[fillA,fillL,sA,sB,sC,Act.put,hE] at hK ⊢;clear hE;obtain⟨y8,y9,y10,y12,y13,yn,ym⟩:=CC.out W3 W n H3.out rfl (UD.out.trans HF.out);rw[HNK.out.2] at ym;have V:=VH.out W ((UD.out.trans HF.out).keep _ _ T3.out trivial);have v4:=V.2.2.1;have v5:=V.2.2.2.1;clear V;(try simp only[gA,gB,gC]);go_simp;exact hK.out _ _ _ rfl (Fr.refl _ _) (congrArg (Value.int .u64) (show (min (ix:Int) (pv1:Int))=((mn:Nat):Int) from by have:=HMX.out.1;omega))
  refine bV.p rfl rfl (fun xs W HF hA hE K' hK=>?_) ?_
  ·clear hA;simp only[ckEqs,ckLook,Nat.reduceBEq] at hE;simp only[fillA,fillL,sA,sB,sC,Act.put,hE] at hK ⊢;clear hE;obtain⟨y8,y9,y10,y12,y13,yn,ym⟩:=CC.out W3 W n H3.out rfl (UD.out.trans HF.out);rw[HNK.out.2] at ym;have V:=VH.out W ((UD.out.trans HF.out).keep _ _ T3.out trivial);have v4:=V.2.2.1;have v5:=V.2.2.2.1;clear V;(try simp only[gA,gB,gC]);go_simp;exact hK.out _ _ _ rfl (Fr.refl _ _) (congrArg (Value.int .u64) (show (max (kt1:Int) (mn:Int))=((mx:Nat):Int) from by have:=HMX.out.2;omega))
  exact bV.nil
 case cfend=>
  intro xs W hF hA;have HF:=zH hF;have hE:=b_ rfl hA;clear hA hF;simp only[List.map_cons,List.map_nil,ckEqs,ckLook,Nat.reduceBEq] at hE;simp only[fillA,fillL,sA,sB,sC,hE];clear hE;have F4:=zH (UD.out.trans HF.out);have H4:=zH (H3.out.tt F4.out);have An:=H4.out.nx;rw[HQ.out.1] at An;have an0:=An.cell t HT.out;have an1:=An.free t;have An2:=An.set t mx HT.out;obtain⟨WN,hWN⟩:=zE (W.setCell ⟨bn,t,none⟩ (.int .u64 (mx:Nat)));have fN:Fr (fun c _=>c≠bn) W WN:=hWN▸(Fr.refl _ _).setCell (fun _ _ h=>h rfl) _
  have h5:PNs X P WN b nA q:=by rw[←HNA.out];exact H4.out.arrays (nx:=n.next.set t mx) (mt:=n.mat) (fN.mono fun c _ hc=>by rw[←HQ.out.1];exact hc.1) (by rw[HQ.out.1,←hWN];exact An2) (H4.out.mt.fr fN fun _ _=>by rw[←HQ.out.1];exact Ne.symm H4.out.nm)
  have T5:Hid (WN.heap[g0]? = some (.cells (cM m) 32 (0,0))):=fN.keep _ _ (F4.out.keep _ _ T3.out trivial) (fun e=>by obtain⟨_,cur,hc,_⟩:=An;have:=F4.out.keep _ _ T3.out trivial;rw[e,hc] at this;cases this)
  have H5:=zH h5;have FP5:Hid (Fr (fun c _=>¬P c) w WN):=(F3.out.trans F4.out |>.mono fun _ _ _=>trivial).trans (fN.mono fun c _ hc e=>hc (e▸(HQ.out.1▸H.out.pn)));have TOC:=zH (fun W' (f:Fr (fun _ _=>True) WN W')=>TO.out W' (H5.out.tt f));clear An An2 fN h5;refine wpN 20 rfl fun K' hK=>?_
  (try simp only[gA,gB,gC]);go_simp;refine hK.out _ _ ?_;clear hK K';refine wpN 21 rfl fun K' hK=>?_
  (try simp only[gA,gB,gC]);go_simp;refine hK.out _ _ ?_;clear hK K';refine wpF ?_
  try rw[hWN]
  clear hWN an0 an1;have v7:=(VH.out WN T5.out).2.2.2.2;go_wp2_with fail
  go_quiet (fail)
  have UQ5:Hid (Fr (fun _ _=>True) WN (WN.drewN nq)):=(Fr.refl _ WN).drewN nq;generalize WN.drewN nq=W6 at UQ5 ⊢;have TOC1:=zH (TOC.out W6 UQ5.out);clear v7 TOC;go_wp2_with fail
  (with_reducible refine TOC1.out.mono ?_);rintro e W7 ⟨⟨v,mvs,rfl,o7,e7⟩,f7⟩;have HH:=zH (And.intro o7 (And.intro e7 f7));clear o7 e7 f7 TOC1;go_wp2;go_ret;rw[E.out];exact⟨X,P,q,_,mvs,rfl,(H5.out.tt UQ5.out).tt HH.out.2.2,((Aft.of FP5.out H.out.px).tr UQ5.out).tr HH.out.2.2,HH.out.1.lo (FP5.out.trans (UQ5.out.mono fun _ _ _=>trivial)).size,HH.out.2.1⟩
end
section
variable {X P:Nat→Prop} {w w':World} {b:Nat} {n n':Nd} {q q':NV}
theorem rK [Old] (h:PNs X P w b n q) (m:MV) (hk6:m.kind=6) (hnlt:¬n.tm<m.tm) (hlt:¬m.tm<n.tm) (hr:n.role=3) (hx:m.src≠n.me) (t:Nat) (ht:t<16) (hst:m.src=(t:Nat)) (ho:m.ok=true) (hil:m.index≤n.log.last) (hcf:0<n.conf.length∧n.conf.length≤12) (hpos:∀x∈n.conf,0≤x) (hnx:∀y∈n.next,y+1<18446744073709551616) (hmx:∀y∈n.mat,y+1<18446744073709551616) (hix:m.index+1<18446744073709551616) (hpv1:m.prev+1<18446744073709551616) (hl:n.log.last+1<18446744073709551616) (hle:n.log.es.length≤900000):
 Calls Tryz.prog 14 #[.pointer (some ⟨b,0,none⟩),.agg (cM m)] w fun e w'=>jz X P w b (n.onAcked m.ms) e w':=by
 obtain⟨W1,hW1,F1,X1⟩:=gW w m;obtain⟨g0,hg0⟩:=zE w.heap.size;rw[hg0] at X1;have H:=zH h;have HG0:=zH hg0;have gb:Hid (g0≠b):=by have:=bZ h.top;show _≠_;omega
 obtain⟨me,hme⟩:=zE n.me;obtain⟨ro,hro⟩:=zE n.role;obtain⟨tm,htm⟩:=zE n.tm;obtain⟨s,hs⟩:=zE m.src;obtain⟨mt,hmt⟩:=zE m.tm;obtain⟨ix,hixx⟩:=zE m.index;obtain⟨pv,hpv⟩:=zE m.prev;obtain⟨ok,hok⟩:=zE m.ok;have HL:=zH (And.intro hme (And.intro hro (And.intro htm (And.intro hs (And.intro hmt (And.intro hixx (And.intro hpv hok)))))))
 have VH:Hid (∀W:World,W.heap[g0]? = some (.cells (cM m) 32 (0,0))→W.cell? ⟨g0,1,none⟩=some (.int .i64 s)∧W.cell? ⟨g0,3,none⟩=some (.int .u64 (mt:Nat))∧W.cell? ⟨g0,4,none⟩=some (.int .u64 (ix:Nat))∧W.cell? ⟨g0,5,none⟩=some (.int .u64 (pv:Nat))∧W.cell? ⟨g0,7,none⟩=some (.bool ok)):=fun W t=>by obtain⟨v0,v1,v2,v3,v4,v5,v6,v7,v8,v9⟩:=bq t;exact⟨by rw[v1,hs],by rw[v3,hmt],by rw[v4,hixx],by rw[v5,hpv],by rw[v7,hok]⟩
 have v0:W1.cell? ⟨g0,0,none⟩=some (.int .i64 6):=by rw[←hk6];exact(bq X1.out).1
 have y6:W1.cell? ⟨b,6,none⟩=some (.int .u64 (tm:Nat)):=by rw[←htm];exact(h.cells F1.out).2.2.2.2.2.2.1
 have v3:=(VH.out W1 X1.out).2.1;have gl:decide (tm<mt)=false:=by rw[←hmt,←htm];exact decide_eq_false hnlt
 have g1:decide (mt<tm)=false:=by rw[←hmt,←htm];exact decide_eq_false hlt
 obtain rfl:ro=3:=by rw[←hro];exact hr
 have g2:(s==me)=false:=by rw[←hs,←hme];simpa using hx
 obtain rfl:s=(t:Nat):=by rw[←hs];exact hst
 obtain rfl:ok=true:=by rw[←hok];exact ho
 have NC:=zH (fun W=>dW W (t:Nat));rw[decide_eq_true (show (0:Int)≤(t:Nat)∧((t:Nat):Int)<16 by omega)] at NC;obtain⟨bs,hbs⟩:=zE n.log.base;obtain⟨bt,hbt⟩:=zE n.log.bt;obtain⟨ae,le,ce,hve,hlel,hesl,hlg⟩:=h.lg;have hl2:bs+le+1<18446744073709551616:=by unfold Lg.last at hl;omega
 obtain⟨LST,hLST⟩:=zE (bs+le);have hlast:n.log.last=LST:=by unfold Lg.last;omega
 have LAST:=zH (fun W=>cJ W bs bt ae le ce (by omega));rw[hLST] at LAST;obtain⟨bn,hbn⟩:=zE q.bn;obtain⟨cn,hcn⟩:=zE q.cn;obtain⟨bm,hbm⟩:=zE q.bm;obtain⟨km,hkm⟩:=zE q.cm;have HQ:=zH (And.intro hbn (And.intro hcn (And.intro hbm (And.intro hkm (And.intro hve (And.intro hbs hbt))))));obtain⟨nt,hnt⟩:=zE (n.next.getD t 0);obtain⟨kt,hkt⟩:=zE (n.mat.getD t 0)
 have hkt64:kt+1<18446744073709551616:=by rw[←hkt,List.getD_eq_getElem?_getD,List.getElem?_eq_getElem (by have:=h.mt.1;omega)];exact hmx _ (List.getElem_mem _)
 have ht2:((t:Nat):Int)<16:=by omega
 have E0:n.onAcked m.ms=if m.ok=true∧(n.acked m.ms).log.last<(n.acked m.ms).next.getD t 0 then(n.acked m.ms,[]) else(n.acked m.ms,(n.acked m.ms).sendTo (t:Nat)):=by
  unfold Nd.onAcked
  rw[if_neg (fun e=>e hk6),if_neg (show ¬n.tm<m.ms.tm from hnlt),if_neg (show ¬(m.ms.tm<n.tm∨n.role≠3∨m.ms.src=n.me∨m.ms.src<0∨15<m.ms.src) by
   have e:m.ms.src=(t:Nat):=hst;rw[e];rintro(e | e | e | e | e)
   ·exact hlt e
   ·exact e hr
   ·exact hx (hst.trans e)
   ·omega
   ·omega)]
  have e:m.ms.src=(t:Nat):=hst;rw[e];rfl
 have CC:Hid (∀W W' nA,PNs X P W b nA q→nA.log=n.log→Fr (fun _ _=>True) W W'→W'.cell? ⟨b,8,none⟩=some (.int .u64 (bs:Nat))∧W'.cell? ⟨b,9,none⟩=some (.int .u64 (bt:Nat))∧W'.cell? ⟨b,10,none⟩=some (.slice ae le ce)∧W'.cell? ⟨b,12,none⟩=some (.slice (some ⟨bn,0,none⟩) 16 cn)∧W'.cell? ⟨b,13,none⟩=some (.slice (some ⟨bm,0,none⟩) 16 km)∧W'.cell? ⟨bn,t,none⟩=some (.int .u64 (nA.next.getD t 0:Nat))∧W'.cell? ⟨bm,t,none⟩=some (.int .u64 (nA.mat.getD t 0:Nat))):=fun W W' nA hA hlA f=>by obtain⟨x0,x1,x2,x3,x4,x5,x6,x7,x8,x9,x10,x11,x12,x13⟩:=hA.cells f;exact⟨by rw[x8,hlA,hbs],by rw[x9,hlA,hbt],by rw[x10,hve],by rw[x12,hbn,hcn],by rw[x13,hbm,hkm],by rw[←hbn];exact(hA.nx.fr f fun _ _=>trivial).cell t ht,by rw[←hbm];exact(hA.mt.fr f fun _ _=>trivial).cell t ht⟩
 have HT:=zH ht;have HNK:=zH (And.intro hnt hkt);have hil2:ix≤LST:=by omega
 have gi:decide (ix≤LST)=true:=decide_eq_true hil2;obtain⟨mx,hmxx⟩:=zE (max kt ix);obtain⟨mx1,hmx1⟩:=zE (mx+1);have wk1:IntKind.u64.wrap ((mx:Int)+1)=((mx1:Nat):Int):=by rw[IntKind.wrap_u64];omega
 obtain⟨n5,hn5⟩:∃x:Nd,{ n with mat:=n.mat.set t mx }=x:=⟨_,rfl⟩
 obtain⟨n6,hn6⟩:∃x:Nd,{ n with mat:=n.mat.set t mx,next:=n.next.set t mx1 }=x:=⟨_,rfl⟩
 obtain⟨nA,hnA⟩:∃x:Nd,n6.sure=x:=⟨_,rfl⟩
 have hac:n.acked m.ms=nA:=by
  unfold Nd.acked;have e:m.ms.src.toNat=t:=by show m.src.toNat=t;rw[hst];rfl
  rw[if_neg (show ¬m.ms.ok=false by show ¬m.ok=false;rw[ho];decide),if_pos (show m.ms.index≤n.log.last from hil),e,hkt,show m.ms.index=ix from hixx,hmxx,hmx1,hn6,hnA]
 have hq6:n6.log=n.log∧n6.conf=n.conf∧n6.next=n.next.set t mx1∧n6.mat=n.mat.set t mx∧n5.log=n.log∧n5.next=n.next∧n5.mat=n.mat.set t mx:=by rw[←hn6,←hn5];exact⟨rfl,rfl,rfl,rfl,rfl,rfl,rfl⟩
 have hqA:nA.log=n6.log∧nA.next=n6.next:=by rw[←hnA];unfold Nd.sure Nd.sureR;split <;> exact⟨rfl,rfl⟩
 have SU:=zH (fun W (hA:PNs X P W b n6 q)=>(xJ hA (by rw[hq6.2.1];exact hcf) (by rw[hq6.2.1];exact hpos) (by rw[hq6.1];exact hl)).1);rw[hnA] at SU;have hnn:mx1=nA.next.getD t 0:=by rw[hqA.2,hq6.2.2.1,d_ (by have:=h.nx.1;omega),if_pos rfl]
 obtain⟨NT,hNT⟩:=zE mx1;rw[hNT] at hnn;have hlA:nA.log=n.log:=hqA.1.trans hq6.1
 have E:Hid (n.onAcked m.ms=if LST<NT then(nA,[]) else(nA,nA.sendTo (t:Nat))):=by
  show _=_;rw[E0,hac,hlA,hlast,←hnn];by_cases e:LST<NT
  ·rw[if_pos e,if_pos ⟨ho,e⟩]
  ·rw[if_neg e,if_neg (fun e2=>e e2.2)]
 have TO:Hid (∀W,PNs X P W b nA q→Calls Tryz.prog 16 #[.pointer (some ⟨b,0,none⟩),.int .i64 (t:Nat)] W fun e w'=>jj X W (nA.sendTo (t:Nat)) e w'):=fun W hA=>mz hA (t:Nat) (fun y hy=>by
  rw[hqA.2,hq6.2.2.1] at hy;rcases List.mem_or_eq_of_mem_set hy with hy | hy
  ·have:=hnx y hy;omega
  ·omega) (by rw[hlA];exact hl) (by rw[hlA];exact hle)
 have HNA:Hid (nA.next.getD t 0=NT∧nA.log=n.log):=⟨hnn.symm,hlA⟩
 unfold cM at hW1 ⊢;have H56:=zH (And.intro hn5 (And.intro hn6 (And.intro hmxx hq6)));clear hk6 hnlt hlt hr hx hst ho hil hil2 hnt hkt hbs hbt hve hlel hesl hlg hl2 hLST hlast hbn hcn hbm hkm hkt64 E0 hac hqA hnn hNT hlA ht hmxx hmx1 hn5 hn6 hnA hq6 h hme hro htm hs hmt hixx hpv hok hcf hpos hnx hmx hix hpv1 hl hle;go_enter Tryz.func14,Tryz.ntmps14
 go_wp2_with fail
 try rw[hW1]
 try rw[HG0.out]
 clear hW1 hg0 v0;go_quiet (fail)
 clear y6 v3 gl;have UQ:Hid (Fr (fun _ _=>True) W1 (W1.drewN nq)):=(Fr.refl _ W1).drewN nq;generalize W1.drewN nq=W2 at UQ ⊢;have F2:=zH (F1.out.trans UQ.out);have H2:=zH (H.out.tt F2.out);have T2:Hid (W2.heap[g0]? = some (.cells (cM m) 32 (0,0))):=UQ.out.keep _ _ X1.out trivial;have y6:W2.cell? ⟨b,6,none⟩=some (.int .u64 (tm:Nat)):=by rw[←HL.out.2.2.1];exact(H2.out.cells (Fr.refl _ W2)).2.2.2.2.2.2.1
 have y2:W2.cell? ⟨b,2,none⟩=some (.int .i64 3):=by rw[←HL.out.2.1];exact(H2.out.cells (Fr.refl _ W2)).2.2.1
 have y0:W2.cell? ⟨b,0,none⟩=some (.int .i64 me):=by rw[←HL.out.1];exact(H2.out.cells (Fr.refl _ W2)).1
 have v3:=(VH.out W2 T2.out).2.1;have v1:=(VH.out W2 T2.out).1;go_wp2_with fail
 go_quiet ((go_at_call 62;exact Calls.quiet_of_same ((NC.out _).mono fun e w' h=>And.intro h.1 h.2.symm)))
 clear y6 y2 y0 v3 v1 g1 g2 NC;have UQ2:Hid (Fr (fun _ _=>True) W2 (W2.drewN nq)):=(Fr.refl _ W2).drewN nq;generalize W2.drewN nq=W3 at UQ2 ⊢;have F3:=zH (F2.out.trans UQ2.out);have H3:=zH (H2.out.tt UQ2.out);have T3:Hid (W3.heap[g0]? = some (.cells (cM m) 32 (0,0))):=UQ2.out.keep _ _ T2.out trivial;have UD:Hid (Fr (fun _ _=>True) W3 W3.drew):=(Fr.refl _ _).drew;have v1:=(VH.out W3 T3.out).1;have v7:=(VH.out W3 T3.out).2.2.2.2;go_wp2_with fail
 clear v1 v7;refine wy [(80,0),(81,1),(82,2),(83,3),(84,4),(85,5),(86,6),(87,7),(79,8)] [(0,[]),(1,[0]),(2,[]),(3,[2]),(4,[3]),(5,[4]),(7,[1,6]),(8,[7]),(6,[5])] (ckR [(0,.pointer (some ⟨g0,4,none⟩)),(1,.int .u64 (ix:Nat)),(2,.pointer (some ⟨b,0,none⟩)),(3,.pointer (some ⟨b,0,none⟩)),(4,.pointer (some ⟨b,8,none⟩)),(5,.agg #[.int .u64 (bs:Nat),.int .u64 (bt:Nat),.slice ae le ce]),(6,.int .u64 (LST:Nat)),(7,.bool true),(8,.bool true)] [] 9 0) rfl ?cfall ?cfend
 case cfall=>
  iterate 8
   refine bV.q rfl rfl rfl (fun xs W HF hE K' hK=>?_) ?_
   ·simp only[ckEqs,ckLook,Nat.reduceBEq] at hE;simp only[fillA,fillL,sA,sB,sC,Act.put,hE] at hK ⊢;clear hE;obtain⟨y8,y9,y10,y12,y13,yn,ym⟩:=CC.out W3 W n H3.out rfl (UD.out.trans HF.out);have V:=VH.out W ((UD.out.trans HF.out).keep _ _ T3.out trivial);have v4:=V.2.2.1;have v7:=V.2.2.2.2;clear V;(try simp only[gA,gB,gC]);go_simp;exact hK.out _ rfl
  refine bV.p rfl rfl (fun xs W HF hA hE K' hK=>?_) ?_
  ·clear hA;simp only[ckEqs,ckLook,Nat.reduceBEq] at hE;simp only[fillA,fillL,sA,sB,sC,Act.put,hE] at hK ⊢;clear hE;obtain⟨y8,y9,y10,y12,y13,yn,ym⟩:=CC.out W3 W n H3.out rfl (UD.out.trans HF.out);have V:=VH.out W ((UD.out.trans HF.out).keep _ _ T3.out trivial);have v4:=V.2.2.1;have v7:=V.2.2.2.2;clear V;have LA1:=zH (LAST.out W);dsimp only[vL] at LA1;(try simp only[gA,gB,gC]);go_simp;(with_reducible refine LA1.out.mono ?_);rintro e w8 ⟨rfl,f8⟩;exact hK.out _ _ _ rfl f8 rfl
  exact bV.nil
 case cfend=>
  intro xs W hF hA;have HF:=zH hF;have hE:=b_ rfl hA;clear hA hF;simp only[List.map_cons,List.map_nil,ckEqs,ckLook,Nat.reduceBEq] at hE;simp only[fillA,fillL,sA,sB,sC,hE];clear hE;have F4:=zH (UD.out.trans HF.out);have H4:=zH (H3.out.tt F4.out);have T4:Hid (W.heap[g0]? = some (.cells (cM m) 32 (0,0))):=F4.out.keep _ _ T3.out trivial;have FP4:Hid (Fr (fun c _=>¬P c) w W):=F3.out.trans F4.out |>.mono fun _ _ _=>trivial
  have HL16:Hid (n.next.length=16∧n.mat.length=16):=⟨H4.out.nx.1,H4.out.mt.1⟩
  obtain⟨W4,hW4⟩:=zE W;rw[hW4] at HF F4 H4 T4 FP4 ⊢;clear hW4;have UE:Hid (Fr (fun _ _=>True) W4 W4.drew):=(Fr.refl _ _).drew;go_wp2_with fail
  clear gi;refine wpR [(88,0),(89,1),(90,2),(91,3),(92,4),(93,5),(94,6),(95,7),(96,8),(97,9),(98,10),(99,11),(100,12),(101,13),(102,14),(103,15)] [(0,[]),(1,[0]),(2,[1]),(3,[2]),(4,[]),(5,[]),(6,[5]),(7,[6]),(8,[7]),(9,[]),(10,[8,9]),(11,[10]),(12,[]),(13,[12]),(14,[11,13])] (ckR [(0,.pointer (some ⟨b,0,none⟩)),(1,.pointer (some ⟨b,0,none⟩)),(2,.pointer (some ⟨b,13,none⟩)),(3,.slice (some ⟨bm,0,none⟩) 16 km),(4,.int .i64 (t:Nat)),(5,.pointer (some ⟨b,0,none⟩)),(6,.pointer (some ⟨b,0,none⟩)),(7,.pointer (some ⟨b,13,none⟩)),(8,.slice (some ⟨bm,0,none⟩) 16 km),(9,.int .i64 (t:Nat)),(10,.pointer (some ⟨bm,t,none⟩)),(11,.int .u64 (kt:Nat)),(12,.pointer (some ⟨g0,4,none⟩)),(13,.int .u64 (ix:Nat)),(14,.int .u64 (mx:Nat))] [] 15 0) 2 rfl ?cfall ?cfend
  case cfall=>
   iterate 14
    refine bV.q rfl rfl rfl (fun xs W HF hE K' hK=>?_) ?_
    ·simp only[ckEqs,ckLook,Nat.reduceBEq] at hE;simp only[fillA,fillL,sA,sB,sC,Act.put,hE] at hK ⊢;clear hE;obtain⟨y8,y9,y10,y12,y13,yn,ym⟩:=CC.out W4 W n H4.out rfl (UE.out.trans HF.out);have V:=VH.out W ((UE.out.trans HF.out).keep _ _ T4.out trivial);have v4:=V.2.2.1;have v7:=V.2.2.2.2;clear V;rw[HNK.out.2] at ym;(try simp only[gA,gB,gC]);go_simp;exact hK.out _ rfl
   refine bV.p rfl rfl (fun xs W HF hA hE K' hK=>?_) ?_
   ·clear hA;simp only[ckEqs,ckLook,Nat.reduceBEq] at hE;simp only[fillA,fillL,sA,sB,sC,Act.put,hE] at hK ⊢;clear hE;obtain⟨y8,y9,y10,y12,y13,yn,ym⟩:=CC.out W4 W n H4.out rfl (UE.out.trans HF.out);have V:=VH.out W ((UE.out.trans HF.out).keep _ _ T4.out trivial);have v4:=V.2.2.1;have v7:=V.2.2.2.2;clear V;rw[HNK.out.2] at ym;(try simp only[gA,gB,gC]);go_simp;exact hK.out _ _ _ rfl (Fr.refl _ _) (congrArg (Value.int .u64) (show (max (kt:Int) (ix:Int))=((mx:Nat):Int) from by have:=H56.out.2.2.1;omega))
   exact bV.nil
  case cfend=>
   intro xs W hF hA;have HF:=zH hF;have hE:=b_ rfl hA;clear hA hF;simp only[List.map_cons,List.map_nil,ckEqs,ckLook,Nat.reduceBEq] at hE;simp only[fillA,fillL,sA,sB,sC,hE];clear hE;have F5:=zH (UE.out.trans HF.out);have H5:=zH (H4.out.tt F5.out);have Am:=H5.out.mt;rw[HQ.out.2.2.1] at Am;have am0:=Am.cell t HT.out;have am1:=Am.free t;have Am2:=Am.set t mx HT.out;obtain⟨W6,hW6⟩:=zE (W.setCell ⟨bm,t,none⟩ (.int .u64 (mx:Nat)));have fN:Fr (fun c _=>c≠bm) W W6:=hW6▸(Fr.refl _ _).setCell (fun _ _ h=>h rfl) _
   have h6:PNs X P W6 b n5 q:=by rw[←H56.out.1];exact H5.out.arrays (nx:=n.next) (mt:=n.mat.set t mx) (fN.mono fun c _ hc=>by rw[←HQ.out.2.2.1];exact hc.2) (H5.out.nx.fr fN fun _ _=>by rw[←HQ.out.2.2.1];exact H5.out.nm) (by rw[HQ.out.2.2.1,←hW6];exact Am2)
   have T6:Hid (W6.heap[g0]? = some (.cells (cM m) 32 (0,0))):=fN.keep _ _ (F5.out.keep _ _ T4.out trivial) (fun e=>by obtain⟨_,cur,hc,_⟩:=Am;have:=F5.out.keep _ _ T4.out trivial;rw[e,hc] at this;cases this)
   have H6:=zH h6;have FP6:Hid (Fr (fun c _=>¬P c) w W6):=(FP4.out.trans (F5.out.mono fun _ _ _=>trivial)).trans (fN.mono fun c _ hc e=>hc (e▸(HQ.out.2.2.1▸H.out.pm)));have UG:Hid (Fr (fun _ _=>True) W6 W6.drew):=(Fr.refl _ _).drew;clear Am Am2 fN h6;refine wpN 15 rfl fun K' hK=>?_
   (try simp only[gA,gB,gC]);go_simp;refine hK.out _ _ ?_;clear hK K';refine wpN 16 rfl fun K' hK=>?_
   (try simp only[gA,gB,gC]);go_simp;refine hK.out _ _ ?_;clear hK K';refine wpF ?_
   try rw[hW6]
   clear hW6 am0 am1;obtain⟨W5,hW5⟩:=zE W;rw[hW5] at HF F5 H5;clear hW5;go_wp2_with fail
   refine wpR [(104,0),(105,1),(106,2),(107,3),(108,4),(109,5),(110,6),(111,7),(112,8),(113,9),(114,10),(115,11),(116,12),(117,13)] [(0,[]),(1,[0]),(2,[1]),(3,[2]),(4,[]),(5,[]),(6,[5]),(7,[6]),(8,[7]),(9,[]),(10,[8,9]),(11,[10]),(12,[11])] (ckR [(0,.pointer (some ⟨b,0,none⟩)),(1,.pointer (some ⟨b,0,none⟩)),(2,.pointer (some ⟨b,12,none⟩)),(3,.slice (some ⟨bn,0,none⟩) 16 cn),(4,.int .i64 (t:Nat)),(5,.pointer (some ⟨b,0,none⟩)),(6,.pointer (some ⟨b,0,none⟩)),(7,.pointer (some ⟨b,13,none⟩)),(8,.slice (some ⟨bm,0,none⟩) 16 km),(9,.int .i64 (t:Nat)),(10,.pointer (some ⟨bm,t,none⟩)),(11,.int .u64 (mx:Nat)),(12,.int .u64 (mx1:Nat))] [] 13 0) 2 rfl ?cfall ?cfend
   case cfall=>
    iterate 13
     refine bV.q rfl rfl rfl (fun xs W HF hE K' hK=>?_) ?_
     ·simp only[ckEqs,ckLook,Nat.reduceBEq] at hE;simp only[fillA,fillL,sA,sB,sC,Act.put,hE] at hK ⊢;clear hE;obtain⟨y8,y9,y10,y12,y13,yn,ym⟩:=CC.out W6 W n5 H6.out H56.out.2.2.2.2.2.2.2.1 (UG.out.trans HF.out);have V:=VH.out W ((UG.out.trans HF.out).keep _ _ T6.out trivial);have v4:=V.2.2.1;have v7:=V.2.2.2.2;clear V;rw[H56.out.2.2.2.2.2.2.2.2.2,d_ (by rw[HL16.out.2];exact HT.out),if_pos rfl] at ym;(try simp only[gA,gB,gC]);go_simp;exact hK.out _ rfl
    exact bV.nil
   case cfend=>
    intro xs W hF hA;have HF:=zH hF;have hE:=b_ rfl hA;clear hA hF;simp only[List.map_cons,List.map_nil,ckEqs,ckLook,Nat.reduceBEq] at hE;simp only[fillA,fillL,sA,sB,sC,hE];clear hE;have F7:=zH (UG.out.trans HF.out);have H7:=zH (H6.out.tt F7.out);have An:=H7.out.nx;rw[HQ.out.1] at An;have an0:=An.cell t HT.out;have an1:=An.free t;have An2:=An.set t mx1 HT.out;obtain⟨W8,hW8⟩:=zE (W.setCell ⟨bn,t,none⟩ (.int .u64 (mx1:Nat)));have fN:Fr (fun c _=>c≠bn) W W8:=hW8▸(Fr.refl _ _).setCell (fun _ _ h=>h rfl) _
    have h8:PNs X P W8 b n6 q:=by have hh:=H7.out.arrays (nx:=n5.next.set t mx1) (mt:=n5.mat) (fN.mono fun c _ hc=>by rw[←HQ.out.1];exact hc.1) (by rw[HQ.out.1,←hW8];exact An2) (H7.out.mt.fr fN fun _ _=>by rw[←HQ.out.1];exact Ne.symm H7.out.nm);rw[←H56.out.1] at hh;rw[←H56.out.2.1];exact hh
    have T8:Hid (W8.heap[g0]? = some (.cells (cM m) 32 (0,0))):=fN.keep _ _ (F7.out.keep _ _ T6.out trivial) (fun e=>by obtain⟨_,cur,hc,_⟩:=An;have:=F7.out.keep _ _ T6.out trivial;rw[e,hc] at this;cases this)
    have H8:=zH h8;have FP8:Hid (Fr (fun c _=>¬P c) w W8):=(FP6.out.trans (F7.out.mono fun _ _ _=>trivial)).trans (fN.mono fun c _ hc e=>hc (e▸(HQ.out.1▸H.out.pn)));have SU1:=zH (SU.out W8 h8);clear An An2 fN h8 SU;refine wpN 13 rfl fun K' hK=>?_
    (try simp only[gA,gB,gC]);go_simp;refine hK.out _ _ ?_;clear hK K';refine wpN 14 rfl fun K' hK=>?_
    (try simp only[gA,gB,gC]);go_simp;refine hK.out _ _ ?_;clear hK K';refine wpF ?_
    try rw[hW8]
    clear hW8 an0 an1;go_wp2_with fail
    (with_reducible refine SU1.out.mono ?_);rintro e W9 ⟨rfl,h9,f9⟩;have H9:=zH h9;have T9:Hid (W9.heap[g0]? = some (.cells (cM m) 32 (0,0))):=f9.keep _ _ T8.out gb.out;have FP9:Hid (Fr (fun c _=>¬P c) w W9):=FP8.out.trans (f9.mono fun c _ hc e=>hc (e▸H.out.pb));clear h9 f9 SU1;by_cases hb:LST<NT
    ·have gi:decide (LST<NT)=true:=decide_eq_true hb;have E1:Hid (n.onAcked m.ms=(nA,[])):=E.out.trans (if_pos hb);clear hb E;have UK:Hid (Fr (fun _ _=>True) W9 W9.drew):=(Fr.refl _ _).drew;go_wp2_with fail
     refine wy [(120,0),(121,1),(122,2),(123,3),(124,4),(125,5),(126,6),(127,7),(128,8),(129,9),(130,10),(131,11),(132,12),(133,13),(134,14),(135,15),(136,16)] [(0,[]),(1,[0]),(2,[1]),(3,[2]),(4,[2,3]),(5,[2,4]),(6,[2,5]),(7,[2]),(8,[2,6,7]),(9,[2,8]),(10,[2]),(11,[2,10]),(12,[2,11]),(13,[2,12]),(15,[2,9,14]),(16,[2,15]),(14,[2,13])] (ckR [(0,.pointer (some ⟨g0,7,none⟩)),(1,.bool true),(2,.bool true),(3,.pointer (some ⟨b,0,none⟩)),(4,.pointer (some ⟨b,0,none⟩)),(5,.pointer (some ⟨b,12,none⟩)),(6,.slice (some ⟨bn,0,none⟩) 16 cn),(7,.int .i64 (t:Nat)),(8,.pointer (some ⟨bn,t,none⟩)),(9,.int .u64 (NT:Nat)),(10,.pointer (some ⟨b,0,none⟩)),(11,.pointer (some ⟨b,0,none⟩)),(12,.pointer (some ⟨b,8,none⟩)),(13,.agg #[.int .u64 (bs:Nat),.int .u64 (bt:Nat),.slice ae le ce]),(14,.int .u64 (LST:Nat)),(15,.bool true),(16,.bool true)] [] 17 0) rfl ?cfall ?cfend
     case cfall=>
      iterate 16
       refine bV.q rfl rfl rfl (fun xs W HF hE K' hK=>?_) ?_
       ·simp only[ckEqs,ckLook,Nat.reduceBEq] at hE;simp only[fillA,fillL,sA,sB,sC,Act.put,hE] at hK ⊢;clear hE;obtain⟨y8,y9,y10,y12,y13,yn,ym⟩:=CC.out W9 W nA H9.out HNA.out.2 (UK.out.trans HF.out);have V:=VH.out W ((UK.out.trans HF.out).keep _ _ T9.out trivial);have v4:=V.2.2.1;have v7:=V.2.2.2.2;clear V;rw[HNA.out.1] at yn;(try simp only[gA,gB,gC]);go_simp;exact hK.out _ rfl
      refine bV.p rfl rfl (fun xs W HF hA hE K' hK=>?_) ?_
      ·clear hA;simp only[ckEqs,ckLook,Nat.reduceBEq] at hE;simp only[fillA,fillL,sA,sB,sC,Act.put,hE] at hK ⊢;clear hE;obtain⟨y8,y9,y10,y12,y13,yn,ym⟩:=CC.out W9 W nA H9.out HNA.out.2 (UK.out.trans HF.out);have V:=VH.out W ((UK.out.trans HF.out).keep _ _ T9.out trivial);have v4:=V.2.2.1;have v7:=V.2.2.2.2;clear V;rw[HNA.out.1] at yn;have LA1:=zH (LAST.out W);dsimp only[vL] at LA1;(try simp only[gA,gB,gC]);go_simp;(with_reducible refine LA1.out.mono ?_);rintro e w8 ⟨rfl,f8⟩;exact hK.out _ _ _ rfl f8 rfl
      exact bV.nil
     case cfend=>intro xs W hF hA;have HF:=zH hF;have hE:=b_ rfl hA;clear hA hF;simp only[List.map_cons,List.map_nil,ckEqs,ckLook,Nat.reduceBEq] at hE;simp only[fillA,fillL,sA,sB,sC,hE];clear hE;have FK:=zH (UK.out.trans HF.out);clear gi;go_wp2;go_ret;rw[E1.out];exact⟨X,P,q,_,[],rfl,H9.out.tt FK.out,(Aft.of FP9.out H.out.px).tr FK.out,OwnMs.nil _ _ _,rfl⟩
    ·have gi:decide (LST<NT)=false:=decide_eq_false hb;have E1:Hid (n.onAcked m.ms=(nA,nA.sendTo (t:Nat))):=E.out.trans (if_neg hb);clear hb E;have UK:Hid (Fr (fun _ _=>True) W9 W9.drew):=(Fr.refl _ _).drew;go_wp2_with fail
     refine wy [(120,0),(121,1),(122,2),(123,3),(124,4),(125,5),(126,6),(127,7),(128,8),(129,9),(130,10),(131,11),(132,12),(133,13),(134,14),(135,15),(136,16)] [(0,[]),(1,[0]),(2,[1]),(3,[2]),(4,[2,3]),(5,[2,4]),(6,[2,5]),(7,[2]),(8,[2,6,7]),(9,[2,8]),(10,[2]),(11,[2,10]),(12,[2,11]),(13,[2,12]),(15,[2,9,14]),(16,[2,15]),(14,[2,13])] (ckR [(0,.pointer (some ⟨g0,7,none⟩)),(1,.bool true),(2,.bool true),(3,.pointer (some ⟨b,0,none⟩)),(4,.pointer (some ⟨b,0,none⟩)),(5,.pointer (some ⟨b,12,none⟩)),(6,.slice (some ⟨bn,0,none⟩) 16 cn),(7,.int .i64 (t:Nat)),(8,.pointer (some ⟨bn,t,none⟩)),(9,.int .u64 (NT:Nat)),(10,.pointer (some ⟨b,0,none⟩)),(11,.pointer (some ⟨b,0,none⟩)),(12,.pointer (some ⟨b,8,none⟩)),(13,.agg #[.int .u64 (bs:Nat),.int .u64 (bt:Nat),.slice ae le ce]),(14,.int .u64 (LST:Nat)),(15,.bool false),(16,.bool false)] [] 17 0) rfl ?cfall ?cfend
     case cfall=>
      iterate 16
       refine bV.q rfl rfl rfl (fun xs W HF hE K' hK=>?_) ?_
       ·simp only[ckEqs,ckLook,Nat.reduceBEq] at hE;simp only[fillA,fillL,sA,sB,sC,Act.put,hE] at hK ⊢;clear hE;obtain⟨y8,y9,y10,y12,y13,yn,ym⟩:=CC.out W9 W nA H9.out HNA.out.2 (UK.out.trans HF.out);have V:=VH.out W ((UK.out.trans HF.out).keep _ _ T9.out trivial);have v4:=V.2.2.1;have v7:=V.2.2.2.2;clear V;rw[HNA.out.1] at yn;(try simp only[gA,gB,gC]);go_simp;exact hK.out _ rfl
      refine bV.p rfl rfl (fun xs W HF hA hE K' hK=>?_) ?_
      ·clear hA;simp only[ckEqs,ckLook,Nat.reduceBEq] at hE;simp only[fillA,fillL,sA,sB,sC,Act.put,hE] at hK ⊢;clear hE;obtain⟨y8,y9,y10,y12,y13,yn,ym⟩:=CC.out W9 W nA H9.out HNA.out.2 (UK.out.trans HF.out);have V:=VH.out W ((UK.out.trans HF.out).keep _ _ T9.out trivial);have v4:=V.2.2.1;have v7:=V.2.2.2.2;clear V;rw[HNA.out.1] at yn;have LA1:=zH (LAST.out W);dsimp only[vL] at LA1;(try simp only[gA,gB,gC]);go_simp;(with_reducible refine LA1.out.mono ?_);rintro e w8 ⟨rfl,f8⟩;exact hK.out _ _ _ rfl f8 rfl
      exact bV.nil
     case cfend=>
      intro xs W hF hA;have HF:=zH hF;have hE:=b_ rfl hA;clear hA hF;simp only[List.map_cons,List.map_nil,ckEqs,ckLook,Nat.reduceBEq] at hE;simp only[fillA,fillL,sA,sB,sC,hE];clear hE;have FK:=zH (UK.out.trans HF.out);clear gi;have TOC1:=zH (TO.out W (H9.out.tt FK.out));clear TO;go_wp2_with fail
      (with_reducible refine TOC1.out.mono ?_);rintro e W7 ⟨⟨v,mvs,rfl,o7,e7⟩,f7⟩;have HH:=zH (And.intro o7 (And.intro e7 f7));clear o7 e7 f7 TOC1;go_wp2;go_ret;rw[E1.out];exact⟨X,P,q,_,mvs,rfl,(H9.out.tt FK.out).tt HH.out.2.2,((Aft.of FP9.out H.out.px).tr FK.out).tr HH.out.2.2,HH.out.1.lo (FP9.out.trans (FK.out.mono fun _ _ _=>trivial)).size,HH.out.2.1⟩
end
section
variable {X P:Nat→Prop} {w w':World} {b:Nat} {n n':Nd} {q q':NV}
theorem rz [Old] (h:PNs X P w b n q) (m:MV) (hk6:m.kind=6) (hnlt:¬n.tm<m.tm) (hlt:¬m.tm<n.tm) (hr:n.role=3) (hx:m.src≠n.me) (t:Nat) (ht:t<16) (hst:m.src=(t:Nat)) (ho:m.ok=true) (hil:¬m.index≤n.log.last) (hcf:0<n.conf.length∧n.conf.length≤12) (hpos:∀x∈n.conf,0≤x) (hnx:∀y∈n.next,y+1<18446744073709551616) (hmx:∀y∈n.mat,y+1<18446744073709551616) (hix:m.index+1<18446744073709551616) (hpv1:m.prev+1<18446744073709551616) (hl:n.log.last+1<18446744073709551616) (hle:n.log.es.length≤900000):
 Calls Tryz.prog 14 #[.pointer (some ⟨b,0,none⟩),.agg (cM m)] w fun e w'=>jz X P w b (n.onAcked m.ms) e w':=by
 obtain⟨W1,hW1,F1,X1⟩:=gW w m;obtain⟨g0,hg0⟩:=zE w.heap.size;rw[hg0] at X1;have H:=zH h;have HG0:=zH hg0;have gb:Hid (g0≠b):=by have:=bZ h.top;show _≠_;omega
 obtain⟨me,hme⟩:=zE n.me;obtain⟨ro,hro⟩:=zE n.role;obtain⟨tm,htm⟩:=zE n.tm;obtain⟨s,hs⟩:=zE m.src;obtain⟨mt,hmt⟩:=zE m.tm;obtain⟨ix,hixx⟩:=zE m.index;obtain⟨pv,hpv⟩:=zE m.prev;obtain⟨ok,hok⟩:=zE m.ok;have HL:=zH (And.intro hme (And.intro hro (And.intro htm (And.intro hs (And.intro hmt (And.intro hixx (And.intro hpv hok)))))))
 have VH:Hid (∀W:World,W.heap[g0]? = some (.cells (cM m) 32 (0,0))→W.cell? ⟨g0,1,none⟩=some (.int .i64 s)∧W.cell? ⟨g0,3,none⟩=some (.int .u64 (mt:Nat))∧W.cell? ⟨g0,4,none⟩=some (.int .u64 (ix:Nat))∧W.cell? ⟨g0,5,none⟩=some (.int .u64 (pv:Nat))∧W.cell? ⟨g0,7,none⟩=some (.bool ok)):=fun W t=>by obtain⟨v0,v1,v2,v3,v4,v5,v6,v7,v8,v9⟩:=bq t;exact⟨by rw[v1,hs],by rw[v3,hmt],by rw[v4,hixx],by rw[v5,hpv],by rw[v7,hok]⟩
 have v0:W1.cell? ⟨g0,0,none⟩=some (.int .i64 6):=by rw[←hk6];exact(bq X1.out).1
 have y6:W1.cell? ⟨b,6,none⟩=some (.int .u64 (tm:Nat)):=by rw[←htm];exact(h.cells F1.out).2.2.2.2.2.2.1
 have v3:=(VH.out W1 X1.out).2.1;have gl:decide (tm<mt)=false:=by rw[←hmt,←htm];exact decide_eq_false hnlt
 have g1:decide (mt<tm)=false:=by rw[←hmt,←htm];exact decide_eq_false hlt
 obtain rfl:ro=3:=by rw[←hro];exact hr
 have g2:(s==me)=false:=by rw[←hs,←hme];simpa using hx
 obtain rfl:s=(t:Nat):=by rw[←hs];exact hst
 obtain rfl:ok=true:=by rw[←hok];exact ho
 have NC:=zH (fun W=>dW W (t:Nat));rw[decide_eq_true (show (0:Int)≤(t:Nat)∧((t:Nat):Int)<16 by omega)] at NC;obtain⟨bs,hbs⟩:=zE n.log.base;obtain⟨bt,hbt⟩:=zE n.log.bt;obtain⟨ae,le,ce,hve,hlel,hesl,hlg⟩:=h.lg;have hl2:bs+le+1<18446744073709551616:=by unfold Lg.last at hl;omega
 obtain⟨LST,hLST⟩:=zE (bs+le);have hlast:n.log.last=LST:=by unfold Lg.last;omega
 have LAST:=zH (fun W=>cJ W bs bt ae le ce (by omega));rw[hLST] at LAST;obtain⟨bn,hbn⟩:=zE q.bn;obtain⟨cn,hcn⟩:=zE q.cn;obtain⟨bm,hbm⟩:=zE q.bm;obtain⟨km,hkm⟩:=zE q.cm;have HQ:=zH (And.intro hbn (And.intro hcn (And.intro hbm (And.intro hkm (And.intro hve (And.intro hbs hbt))))));obtain⟨nt,hnt⟩:=zE (n.next.getD t 0);obtain⟨kt,hkt⟩:=zE (n.mat.getD t 0)
 have hkt64:kt+1<18446744073709551616:=by rw[←hkt,List.getD_eq_getElem?_getD,List.getElem?_eq_getElem (by have:=h.mt.1;omega)];exact hmx _ (List.getElem_mem _)
 have ht2:((t:Nat):Int)<16:=by omega
 have E0:n.onAcked m.ms=if m.ok=true∧(n.acked m.ms).log.last<(n.acked m.ms).next.getD t 0 then(n.acked m.ms,[]) else(n.acked m.ms,(n.acked m.ms).sendTo (t:Nat)):=by
  unfold Nd.onAcked
  rw[if_neg (fun e=>e hk6),if_neg (show ¬n.tm<m.ms.tm from hnlt),if_neg (show ¬(m.ms.tm<n.tm∨n.role≠3∨m.ms.src=n.me∨m.ms.src<0∨15<m.ms.src) by
   have e:m.ms.src=(t:Nat):=hst;rw[e];rintro(e | e | e | e | e)
   ·exact hlt e
   ·exact e hr
   ·exact hx (hst.trans e)
   ·omega
   ·omega)]
  have e:m.ms.src=(t:Nat):=hst;rw[e];rfl
 have CC:Hid (∀W W' nA,PNs X P W b nA q→nA.log=n.log→Fr (fun _ _=>True) W W'→W'.cell? ⟨b,8,none⟩=some (.int .u64 (bs:Nat))∧W'.cell? ⟨b,9,none⟩=some (.int .u64 (bt:Nat))∧W'.cell? ⟨b,10,none⟩=some (.slice ae le ce)∧W'.cell? ⟨b,12,none⟩=some (.slice (some ⟨bn,0,none⟩) 16 cn)∧W'.cell? ⟨b,13,none⟩=some (.slice (some ⟨bm,0,none⟩) 16 km)∧W'.cell? ⟨bn,t,none⟩=some (.int .u64 (nA.next.getD t 0:Nat))∧W'.cell? ⟨bm,t,none⟩=some (.int .u64 (nA.mat.getD t 0:Nat))):=fun W W' nA hA hlA f=>by obtain⟨x0,x1,x2,x3,x4,x5,x6,x7,x8,x9,x10,x11,x12,x13⟩:=hA.cells f;exact⟨by rw[x8,hlA,hbs],by rw[x9,hlA,hbt],by rw[x10,hve],by rw[x12,hbn,hcn],by rw[x13,hbm,hkm],by rw[←hbn];exact(hA.nx.fr f fun _ _=>trivial).cell t ht,by rw[←hbm];exact(hA.mt.fr f fun _ _=>trivial).cell t ht⟩
 have HT:=zH ht;have HNK:=zH (And.intro hnt hkt);have hil2:¬ix≤LST:=by omega
 have gi:decide (ix≤LST)=false:=decide_eq_false hil2;obtain⟨nA,hnA⟩:∃x:Nd,n=x:=⟨_,rfl⟩
 have hac:n.acked m.ms=nA:=by unfold Nd.acked;rw[if_neg (show ¬m.ms.ok=false by show ¬m.ok=false;rw[ho];decide),if_neg (show ¬m.ms.index≤n.log.last from hil),hnA]
 have hqA:nA.log=n.log∧nA.next=n.next:=by rw[←hnA];exact⟨rfl,rfl⟩
 have hnn:nt=nA.next.getD t 0:=by rw[←hnA,hnt]
 obtain⟨NT,hNT⟩:=zE nt;rw[hNT] at hnn;have hlA:nA.log=n.log:=hqA.1
 have E:Hid (n.onAcked m.ms=if LST<NT then(nA,[]) else(nA,nA.sendTo (t:Nat))):=by
  show _=_;rw[E0,hac,hlA,hlast,←hnn];by_cases e:LST<NT
  ·rw[if_pos e,if_pos ⟨ho,e⟩]
  ·rw[if_neg e,if_neg (fun e2=>e e2.2)]
 have TO:Hid (∀W,PNs X P W b nA q→Calls Tryz.prog 16 #[.pointer (some ⟨b,0,none⟩),.int .i64 (t:Nat)] W fun e w'=>jj X W (nA.sendTo (t:Nat)) e w'):=fun W hA=>mz hA (t:Nat) (fun y hy=>by rw[hqA.2] at hy;have:=hnx y hy;omega) (by rw[hlA];exact hl) (by rw[hlA];exact hle)
 have HNA:Hid (nA.next.getD t 0=NT∧nA.log=n.log):=⟨hnn.symm,hlA⟩
 unfold cM at hW1 ⊢;have HNN:=zH hnA;clear hk6 hnlt hlt hr hx hst ho hil hil2 hnt hkt hbs hbt hve hlel hesl hlg hl2 hLST hlast hbn hcn hbm hkm hkt64 E0 hac hqA hnn hNT hlA ht hnA h hme hro htm hs hmt hixx hpv hok hcf hpos hnx hmx hix hpv1 hl hle;go_enter Tryz.func14,Tryz.ntmps14
 go_wp2_with fail
 try rw[hW1]
 try rw[HG0.out]
 clear hW1 hg0 v0;go_quiet (fail)
 clear y6 v3 gl;have UQ:Hid (Fr (fun _ _=>True) W1 (W1.drewN nq)):=(Fr.refl _ W1).drewN nq;generalize W1.drewN nq=W2 at UQ ⊢;have F2:=zH (F1.out.trans UQ.out);have H2:=zH (H.out.tt F2.out);have T2:Hid (W2.heap[g0]? = some (.cells (cM m) 32 (0,0))):=UQ.out.keep _ _ X1.out trivial;have y6:W2.cell? ⟨b,6,none⟩=some (.int .u64 (tm:Nat)):=by rw[←HL.out.2.2.1];exact(H2.out.cells (Fr.refl _ W2)).2.2.2.2.2.2.1
 have y2:W2.cell? ⟨b,2,none⟩=some (.int .i64 3):=by rw[←HL.out.2.1];exact(H2.out.cells (Fr.refl _ W2)).2.2.1
 have y0:W2.cell? ⟨b,0,none⟩=some (.int .i64 me):=by rw[←HL.out.1];exact(H2.out.cells (Fr.refl _ W2)).1
 have v3:=(VH.out W2 T2.out).2.1;have v1:=(VH.out W2 T2.out).1;go_wp2_with fail
 go_quiet ((go_at_call 62;exact Calls.quiet_of_same ((NC.out _).mono fun e w' h=>And.intro h.1 h.2.symm)))
 clear y6 y2 y0 v3 v1 g1 g2 NC;have UQ2:Hid (Fr (fun _ _=>True) W2 (W2.drewN nq)):=(Fr.refl _ W2).drewN nq;generalize W2.drewN nq=W3 at UQ2 ⊢;have F3:=zH (F2.out.trans UQ2.out);have H3:=zH (H2.out.tt UQ2.out);have T3:Hid (W3.heap[g0]? = some (.cells (cM m) 32 (0,0))):=UQ2.out.keep _ _ T2.out trivial;have UD:Hid (Fr (fun _ _=>True) W3 W3.drew):=(Fr.refl _ _).drew;have v1:=(VH.out W3 T3.out).1;have v7:=(VH.out W3 T3.out).2.2.2.2;go_wp2_with fail
 clear v1 v7;refine wy [(80,0),(81,1),(82,2),(83,3),(84,4),(85,5),(86,6),(87,7),(79,8)] [(0,[]),(1,[0]),(2,[]),(3,[2]),(4,[3]),(5,[4]),(7,[1,6]),(8,[7]),(6,[5])] (ckR [(0,.pointer (some ⟨g0,4,none⟩)),(1,.int .u64 (ix:Nat)),(2,.pointer (some ⟨b,0,none⟩)),(3,.pointer (some ⟨b,0,none⟩)),(4,.pointer (some ⟨b,8,none⟩)),(5,.agg #[.int .u64 (bs:Nat),.int .u64 (bt:Nat),.slice ae le ce]),(6,.int .u64 (LST:Nat)),(7,.bool false),(8,.bool false)] [] 9 0) rfl ?cfall ?cfend
 case cfall=>
  iterate 8
   refine bV.q rfl rfl rfl (fun xs W HF hE K' hK=>?_) ?_
   ·simp only[ckEqs,ckLook,Nat.reduceBEq] at hE;simp only[fillA,fillL,sA,sB,sC,Act.put,hE] at hK ⊢;clear hE;obtain⟨y8,y9,y10,y12,y13,yn,ym⟩:=CC.out W3 W n H3.out rfl (UD.out.trans HF.out);have V:=VH.out W ((UD.out.trans HF.out).keep _ _ T3.out trivial);have v4:=V.2.2.1;have v7:=V.2.2.2.2;clear V;(try simp only[gA,gB,gC]);go_simp;exact hK.out _ rfl
  refine bV.p rfl rfl (fun xs W HF hA hE K' hK=>?_) ?_
  ·clear hA;simp only[ckEqs,ckLook,Nat.reduceBEq] at hE;simp only[fillA,fillL,sA,sB,sC,Act.put,hE] at hK ⊢;clear hE;obtain⟨y8,y9,y10,y12,y13,yn,ym⟩:=CC.out W3 W n H3.out rfl (UD.out.trans HF.out);have V:=VH.out W ((UD.out.trans HF.out).keep _ _ T3.out trivial);have v4:=V.2.2.1;have v7:=V.2.2.2.2;clear V;have LA1:=zH (LAST.out W);dsimp only[vL] at LA1;(try simp only[gA,gB,gC]);go_simp;(with_reducible refine LA1.out.mono ?_);rintro e w8 ⟨rfl,f8⟩;exact hK.out _ _ _ rfl f8 rfl
  exact bV.nil
 case cfend=>
  intro xs W hF hA;have HF:=zH hF;have hE:=b_ rfl hA;clear hA hF;simp only[List.map_cons,List.map_nil,ckEqs,ckLook,Nat.reduceBEq] at hE;simp only[fillA,fillL,sA,sB,sC,hE];clear hE;have F9:=zH (UD.out.trans HF.out);obtain⟨W9,hW9⟩:=zE W;rw[hW9] at HF F9 ⊢;have H9:Hid (PNs X P W9 b nA q):=by rw[←HNN.out];exact H3.out.tt F9.out
  have T9:Hid (W9.heap[g0]? = some (.cells (cM m) 32 (0,0))):=F9.out.keep _ _ T3.out trivial;have FP9:Hid (Fr (fun c _=>¬P c) w W9):=F3.out.trans F9.out |>.mono fun _ _ _=>trivial
  clear hW9;by_cases hb:LST<NT
  ·have gi:decide (LST<NT)=true:=decide_eq_true hb;have E1:Hid (n.onAcked m.ms=(nA,[])):=E.out.trans (if_pos hb);clear hb E;have UK:Hid (Fr (fun _ _=>True) W9 W9.drew):=(Fr.refl _ _).drew;go_wp2_with fail
   refine wy [(120,0),(121,1),(122,2),(123,3),(124,4),(125,5),(126,6),(127,7),(128,8),(129,9),(130,10),(131,11),(132,12),(133,13),(134,14),(135,15),(136,16)] [(0,[]),(1,[0]),(2,[1]),(3,[2]),(4,[2,3]),(5,[2,4]),(6,[2,5]),(7,[2]),(8,[2,6,7]),(9,[2,8]),(10,[2]),(11,[2,10]),(12,[2,11]),(13,[2,12]),(15,[2,9,14]),(16,[2,15]),(14,[2,13])] (ckR [(0,.pointer (some ⟨g0,7,none⟩)),(1,.bool true),(2,.bool true),(3,.pointer (some ⟨b,0,none⟩)),(4,.pointer (some ⟨b,0,none⟩)),(5,.pointer (some ⟨b,12,none⟩)),(6,.slice (some ⟨bn,0,none⟩) 16 cn),(7,.int .i64 (t:Nat)),(8,.pointer (some ⟨bn,t,none⟩)),(9,.int .u64 (NT:Nat)),(10,.pointer (some ⟨b,0,none⟩)),(11,.pointer (some ⟨b,0,none⟩)),(12,.pointer (some ⟨b,8,none⟩)),(13,.agg #[.int .u64 (bs:Nat),.int .u64 (bt:Nat),.slice ae le ce]),(14,.int .u64 (LST:Nat)),(15,.bool true),(16,.bool true)] [] 17 0) rfl ?cfall ?cfend
   case cfall=>
    iterate 16
     refine bV.q rfl rfl rfl (fun xs W HF hE K' hK=>?_) ?_
     ·simp only[ckEqs,ckLook,Nat.reduceBEq] at hE;simp only[fillA,fillL,sA,sB,sC,Act.put,hE] at hK ⊢;clear hE;obtain⟨y8,y9,y10,y12,y13,yn,ym⟩:=CC.out W9 W nA H9.out HNA.out.2 (UK.out.trans HF.out);have V:=VH.out W ((UK.out.trans HF.out).keep _ _ T9.out trivial);have v4:=V.2.2.1;have v7:=V.2.2.2.2;clear V;rw[HNA.out.1] at yn;(try simp only[gA,gB,gC]);go_simp;exact hK.out _ rfl
    refine bV.p rfl rfl (fun xs W HF hA hE K' hK=>?_) ?_
    ·clear hA;simp only[ckEqs,ckLook,Nat.reduceBEq] at hE;simp only[fillA,fillL,sA,sB,sC,Act.put,hE] at hK ⊢;clear hE;obtain⟨y8,y9,y10,y12,y13,yn,ym⟩:=CC.out W9 W nA H9.out HNA.out.2 (UK.out.trans HF.out);have V:=VH.out W ((UK.out.trans HF.out).keep _ _ T9.out trivial);have v4:=V.2.2.1;have v7:=V.2.2.2.2;clear V;rw[HNA.out.1] at yn;have LA1:=zH (LAST.out W);dsimp only[vL] at LA1;(try simp only[gA,gB,gC]);go_simp;(with_reducible refine LA1.out.mono ?_);rintro e w8 ⟨rfl,f8⟩;exact hK.out _ _ _ rfl f8 rfl
    exact bV.nil
   case cfend=>intro xs W hF hA;have HF:=zH hF;have hE:=b_ rfl hA;clear hA hF;simp only[List.map_cons,List.map_nil,ckEqs,ckLook,Nat.reduceBEq] at hE;simp only[fillA,fillL,sA,sB,sC,hE];clear hE;have FK:=zH (UK.out.trans HF.out);clear gi;go_wp2;go_ret;rw[E1.out];exact⟨X,P,q,_,[],rfl,H9.out.tt FK.out,(Aft.of FP9.out H.out.px).tr FK.out,OwnMs.nil _ _ _,rfl⟩
  ·have gi:decide (LST<NT)=false:=decide_eq_false hb;have E1:Hid (n.onAcked m.ms=(nA,nA.sendTo (t:Nat))):=E.out.trans (if_neg hb);clear hb E;have UK:Hid (Fr (fun _ _=>True) W9 W9.drew):=(Fr.refl _ _).drew;go_wp2_with fail
   refine wy [(120,0),(121,1),(122,2),(123,3),(124,4),(125,5),(126,6),(127,7),(128,8),(129,9),(130,10),(131,11),(132,12),(133,13),(134,14),(135,15),(136,16)] [(0,[]),(1,[0]),(2,[1]),(3,[2]),(4,[2,3]),(5,[2,4]),(6,[2,5]),(7,[2]),(8,[2,6,7]),(9,[2,8]),(10,[2]),(11,[2,10]),(12,[2,11]),(13,[2,12]),(15,[2,9,14]),(16,[2,15]),(14,[2,13])] (ckR [(0,.pointer (some ⟨g0,7,none⟩)),(1,.bool true),(2,.bool true),(3,.pointer (some ⟨b,0,none⟩)),(4,.pointer (some ⟨b,0,none⟩)),(5,.pointer (some ⟨b,12,none⟩)),(6,.slice (some ⟨bn,0,none⟩) 16 cn),(7,.int .i64 (t:Nat)),(8,.pointer (some ⟨bn,t,none⟩)),(9,.int .u64 (NT:Nat)),(10,.pointer (some ⟨b,0,none⟩)),(11,.pointer (some ⟨b,0,none⟩)),(12,.pointer (some ⟨b,8,none⟩)),(13,.agg #[.int .u64 (bs:Nat),.int .u64 (bt:Nat),.slice ae le ce]),(14,.int .u64 (LST:Nat)),(15,.bool false),(16,.bool false)] [] 17 0) rfl ?cfall ?cfend
   case cfall=>
    iterate 16
     refine bV.q rfl rfl rfl (fun xs W HF hE K' hK=>?_) ?_
     ·simp only[ckEqs,ckLook,Nat.reduceBEq] at hE;simp only[fillA,fillL,sA,sB,sC,Act.put,hE] at hK ⊢;clear hE;obtain⟨y8,y9,y10,y12,y13,yn,ym⟩:=CC.out W9 W nA H9.out HNA.out.2 (UK.out.trans HF.out);have V:=VH.out W ((UK.out.trans HF.out).keep _ _ T9.out trivial);have v4:=V.2.2.1;have v7:=V.2.2.2.2;clear V;rw[HNA.out.1] at yn;(try simp only[gA,gB,gC]);go_simp;exact hK.out _ rfl
    refine bV.p rfl rfl (fun xs W HF hA hE K' hK=>?_) ?_
    ·clear hA;simp only[ckEqs,ckLook,Nat.reduceBEq] at hE;simp only[fillA,fillL,sA,sB,sC,Act.put,hE] at hK ⊢;clear hE;obtain⟨y8,y9,y10,y12,y13,yn,ym⟩:=CC.out W9 W nA H9.out HNA.out.2 (UK.out.trans HF.out);have V:=VH.out W ((UK.out.trans HF.out).keep _ _ T9.out trivial);have v4:=V.2.2.1;have v7:=V.2.2.2.2;clear V;rw[HNA.out.1] at yn;have LA1:=zH (LAST.out W);dsimp only[vL] at LA1;(try simp only[gA,gB,gC]);go_simp;(with_reducible refine LA1.out.mono ?_);rintro e w8 ⟨rfl,f8⟩;exact hK.out _ _ _ rfl f8 rfl
    exact bV.nil
   case cfend=>
    intro xs W hF hA;have HF:=zH hF;have hE:=b_ rfl hA;clear hA hF;simp only[List.map_cons,List.map_nil,ckEqs,ckLook,Nat.reduceBEq] at hE;simp only[fillA,fillL,sA,sB,sC,hE];clear hE;have FK:=zH (UK.out.trans HF.out);clear gi;have TOC1:=zH (TO.out W (H9.out.tt FK.out));clear TO;go_wp2_with fail
    (with_reducible refine TOC1.out.mono ?_);rintro e W7 ⟨⟨v,mvs,rfl,o7,e7⟩,f7⟩;have HH:=zH (And.intro o7 (And.intro e7 f7));clear o7 e7 f7 TOC1;go_wp2;go_ret;rw[E1.out];exact⟨X,P,q,_,mvs,rfl,(H9.out.tt FK.out).tt HH.out.2.2,((Aft.of FP9.out H.out.px).tr FK.out).tr HH.out.2.2,HH.out.1.lo (FP9.out.trans (FK.out.mono fun _ _ _=>trivial)).size,HH.out.2.1⟩
end
section
variable {X P:Nat→Prop} {w w':World} {b:Nat} {n n':Nd} {q q':NV}
theorem rQ [Old] (h:PNs X P w b n q) (m:MV) (hk6:m.kind≠6) (hcf:0<n.conf.length∧n.conf.length≤12) (hpos:∀x∈n.conf,0≤x) (hnx:∀y∈n.next,y+1<18446744073709551616) (hmx:∀y∈n.mat,y+1<18446744073709551616) (hix:m.index+1<18446744073709551616) (hl:n.log.last+1<18446744073709551616) (hle:n.log.es.length≤900000):
 Calls Tryz.prog 14 #[.pointer (some ⟨b,0,none⟩),.agg (cM m)] w fun e w'=>jz X P w b (n.onAcked m.ms) e w':=by
 obtain⟨W1,hW1,F1,X1⟩:=gW w m;obtain⟨g0,hg0⟩:=zE w.heap.size;rw[hg0] at X1;have H:=zH h;have HG0:=zH hg0;have gb:Hid (g0≠b):=by have:=bZ h.top;show _≠_;omega
 obtain⟨k,hk⟩:=zE m.kind;have v0:W1.cell? ⟨g0,0,none⟩=some (.int .i64 k):=by rw[←hk];exact(bq X1.out).1
 have k5:(k==6)=false:=by rw[←hk];simpa using hk6
 have k5':(k != 6)=true:=by rw[bne,k5];rfl
 have E:Hid (n.onAcked m.ms=(n,[])):=if_pos hk6;unfold cM at hW1 ⊢;clear h hk hk6 hcf hpos hnx hmx hix hl hle;go_enter Tryz.func14,Tryz.ntmps14
 go_wp2
 try rw[hW1]
 go_ret;rw[E.out];exact⟨X,P,q,_,[],rfl,H.out.tt F1.out,.tt F1.out H.out.px,OwnMs.nil _ _ _,rfl⟩
theorem vZ [Old] (h:PNs X P w b n q) (m:MV) (hcf:0<n.conf.length∧n.conf.length≤12) (hpos:∀x∈n.conf,0≤x) (hnx:∀y∈n.next,y+1<18446744073709551616) (hmx:∀y∈n.mat,y+1<18446744073709551616) (hix:m.index+1<18446744073709551616) (hpv1:m.kind=6→m.prev+1<18446744073709551616) (hl:n.log.last+1<18446744073709551616) (hle:n.log.es.length≤900000):
 Calls Tryz.prog 14 #[.pointer (some ⟨b,0,none⟩),.agg (cM m)] w fun e w'=>jz X P w b (n.onAcked m.ms) e w':=by
 by_cases hk6:m.kind=6
 ·by_cases hup:n.tm<m.tm
  ·exact rZ h m hk6 hup hcf hpos hnx hmx hix (hpv1 hk6) hl hle
  ·by_cases hlt:m.tm<n.tm
   ·exact rJ h m hk6 hup hlt hcf hpos hnx hmx hix (hpv1 hk6) hl hle
   ·by_cases hr:n.role=3
    ·by_cases hx:m.src=n.me
     ·exact rW h m hk6 hup hlt hr hx hcf hpos hnx hmx hix (hpv1 hk6) hl hle
     ·by_cases h16:0≤m.src∧m.src<16
      ·obtain⟨t,ht⟩:=Int.eq_ofNat_of_zero_le h16.1;have ht16:t<16:=by omega
       cases ho:m.ok with
       | false=>exact rY h m hk6 hup hlt hr hx t ht16 ht ho hcf hpos hnx hmx hix (hpv1 hk6) hl hle
       | true=>
        by_cases hil:m.index≤n.log.last
        ·exact rK h m hk6 hup hlt hr hx t ht16 ht ho hil hcf hpos hnx hmx hix (hpv1 hk6) hl hle
        ·exact rz h m hk6 hup hlt hr hx t ht16 ht ho hil hcf hpos hnx hmx hix (hpv1 hk6) hl hle
      ·exact rV h m hk6 hup hlt hr hx h16 hcf hpos hnx hmx hix (hpv1 hk6) hl hle
    ·exact rX h m hk6 hup hlt hr hcf hpos hnx hmx hix (hpv1 hk6) hl hle
 ·exact rQ h m hk6 hcf hpos hnx hmx hix hl hle
end
structure Gd (B:Nat) (n:Nd):Prop where
 bn:Bn B n
 me:∃mN:Nat,n.me=(mN:Nat)∧mN<16
 cf:0<n.conf.length∧n.conf.length≤12
 pos:∀x∈n.conf,0≤x
 ye:n.yes.length≤B
theorem Gd.mono {B B':Nat} {n:Nd} (h:Gd B n) (hb:B≤B'):Gd B' n:=⟨h.bn.mono hb,h.me,h.cf,h.pos,Nat.le_trans h.ye hb⟩
theorem Gd.es {B:Nat} {n:Nd} (h:Gd B n):n.log.es.length≤B:=by have:=h.bn.last;unfold Lg.last at this;omega
theorem Gd.up {B B':Nat} {n n':Nd} (h:Gd B n) (hu:Nd.Up n n') (hb:Bn B' n') (hy:n'.yes.length≤B'):Gd B' n':=⟨hb,by rw[hu.me];exact h.me,by rw[hu.conf];exact h.cf,by rw[hu.conf];exact h.pos,hy⟩
namespace Nd
variable {B:Nat} {n:Nd} {m:Ms}
theorem lZ (n:Nd) (t:Nat) (l:Int):(n.follow t l).yes=[]:=by unfold follow;split <;> rfl
theorem askT_m (n:Nd):n.askT.1.yes.length≤max 1 n.yes.length:=by
 unfold askT;split
 ·dsimp only;split
  ·exact Nat.zero_le _
  ·show 1≤_;omega
 ·exact Nat.le_max_right _ _
theorem askF_y (h:n.yes.length≤B):n.askF.1.yes.length≤B+1:=by
 unfold askF;split
 ·dsimp only;split
  ·have:=askT_m ({ n with role:=1,ld:=-1,yes:=[n.me] }:Nd);have e:({ n with role:=1,ld:=-1,yes:=[n.me] }:Nd).yes.length=1:=rfl;omega
  ·show 1≤_;omega
 ·exact Nat.le_succ_of_le h
theorem onAsk_y (h:n.yes.length≤B):(n.onAsk m).1.yes.length≤B:=by
 unfold onAsk;split
 ·dsimp only
  have h1:(if m.kind=1∧n.tm<m.tm then n.follow m.tm (-1) else n).yes.length≤B:=by
   split
   ·rw[lZ];exact Nat.zero_le _
   ·exact h
  generalize (if m.kind=1∧n.tm<m.tm then n.follow m.tm (-1) else n)=n1 at h1;split
  ·exact h1
  ·exact h1
 ·exact h
theorem onAnswer_y (h:n.yes.length≤B):(n.onAnswer m).1.yes.length≤B+1:=by
 unfold onAnswer;split
 ·dsimp only
  have h1:(if n.tm<m.tm∧(m.ok=false∨m.kind=2) then n.follow m.tm (-1) else n).yes.length≤B:=by
   split
   ·rw[lZ];exact Nat.zero_le _
   ·exact h
  generalize (if n.tm<m.tm∧(m.ok=false∨m.kind=2) then n.follow m.tm (-1) else n)=n1 at h1;have h2:({ n1 with yes:=n1.yes++[m.src] }:Nd).yes.length≤B+1:=by show (n1.yes++[m.src]).length≤_;simp;omega
  split
  ·split
   ·unfold chosen;split
    ·have:=askT_m ({ n1 with yes:=n1.yes++[m.src] }:Nd);omega
    ·exact Nat.zero_le _
   ·exact h2
  ·exact Nat.le_succ_of_le h1
 ·exact Nat.le_succ_of_le h
theorem LK (n:Nd) (r:Nat):(n.sureR r).yes=n.yes:=by unfold sureR;split <;> rfl
theorem onAppend_y (h:n.yes.length≤B):(n.onAppend m).1.yes.length≤B:=by
 unfold onAppend;split
 ·exact h
 ·split
  ·exact h
  ·unfold taken;split
   ·show (n.follow m.tm m.src).yes.length≤B;rw[lZ];exact Nat.zero_le _
   ·show (n.follow m.tm m.src).yes.length≤B;rw[lZ];exact Nat.zero_le _
theorem onAcked_y (h:n.yes.length≤B):(n.onAcked m).1.yes.length≤B:=by
 have ha:(n.acked m).yes=n.yes:=by
  unfold acked;split
  ·rfl
  ·split
   ·exact LK _ _
   ·rfl
 unfold onAcked;split
 ·exact h
 ·split
  ·rw[lZ];exact Nat.zero_le _
  ·split
   ·exact h
   ·split
    ·rw[ha];exact h
    ·rw[ha];exact h
theorem propose_y (n:Nd) (k:Int) (d:List UInt8):(n.propose k d).1.yes=n.yes:=by
 unfold propose;split
 ·rfl
 ·split
  ·rfl
  ·split
   ·rfl
   ·exact LK _ _
end Nd
section
variable {X P X' P':Nat→Prop} {w w':World} {b:Nat} {n n':Nd} {q q':NV}
theorem PNs.frK [Old] [cK] (h:PNs X P w b n q) {K:Nat→Obj→Prop} (hf:Fr K w w') (hk:∀c o,w.heap[c]? = some o→P c∨RO X c o→K c o):PNs X P w' b n q:=by
 have a16:∀{c l},A16 w c l→P c→A16 w' c l:=fun {c l} ha hp=>ha.fr hf fun o ho=>hk _ _ ho (.inl hp)
 have cf2:IntsAt (RO X) w' q.vc n.conf:=(((h.cf.mono3 (K':=fun c o=>RO X c o∧K c o) fun c o ho hr=>⟨hr,hk c o ho (.inr hr)⟩).fr hf fun c o q=>q.2).mono fun c o q=>q.1)
 exact⟨hf.keep _ _ h.top (hk _ _ h.top (.inl h.pb)),cf2,bY h.ye hf fun c o e ho=>hk c o ho (.inl (h.yp c e)),h.yp,h.ev.fr hf fun c o ho hr=>hk c o ho (.inr hr),h.ee,a16 h.nx h.pn,a16 h.mt h.pm,h.nm,h.pb,h.pn,h.pm,h.px,fun c hc=>Nat.lt_of_lt_of_le (h.hx c hc) hf.size,h.od⟩
theorem PNs.mrow [Old] [cK] (h:PNs X P w b n q) {v:Value} {k:Nat} {xs:List Value} {B:Nat} (hv:w.ownsRow B 32 10 v k xs) (hx:∀c,v.ownBlock=some c→¬X c) (hf:Fr (fun c _=>v.ownBlock≠some c) w w'):PNs X P w' b n q:=
 h.frK hf fun c o ho hc e=>by
  rcases hc with hc | hc
  ·exact hx c e (h.px c hc)
  ·obtain⟨cur,h2⟩:=bw hv e;rw[ho] at h2;cases h2;exact hc.ne0 rfl (by decide)
theorem OwnMs.app [Old] [cK] {B:Nat} {W W':World} {v v':Value} {ts bs:List MV} (ha:OwnMs X B W v ts) (hb:∀m∈bs,MsAt X W m) (hX:∀c,X c→c<W.heap.size) (hr:W'.ownsRow B 32 10 v' (ts++bs).length ((ts++bs).flatMap encM)) (hf:Fr (fun c _=>v.ownBlock≠some c) W W') (hn:OwnNext W v v'):OwnMs X B W' v' (ts++bs):=by
 refine⟨hr,fun c e hx=>?_,fun m hm=>?_⟩
 ·rcases hn with h | ⟨k,h,hk⟩
  ·rw[h] at e;exact ha.off c e hx
  ·rw[h] at e;cases e;have:=hX c hx;omega
 ·have h1:MsAt X W m:=by
   rcases List.mem_append.1 hm with h | h
   ·exact ha.at' m h
   ·exact hb m h
  refine h1.keep hf fun c o ho hr e=>?_
  obtain⟨cur,h2⟩:=bw ha.row e;rw[ho] at h2;cases h2;exact hr.ne0 rfl (by decide)
theorem Aft.mrow {v:Value} {k:Nat} {xs:List Value} {B:Nat} (h:Aft X P X' P' w w') (hv:w'.ownsRow B 32 10 v k xs) (hB:∀c,v.ownBlock=some c→w.heap.size≤c∧¬X' c) {w'':World} (hf:Fr (fun c _=>v.ownBlock≠some c) w' w''):Aft X P X' P' w w'':=
 ⟨((h.fr.mono (K':=fun c _=>¬P c∧c<w.heap.size) fun c _ q=>q.1).trans (hf.mono fun c _ q e=>by have:=(hB c e).1;have:=q.2;omega)).within,h.xx,h.pp,h.nw,h.hp⟩
theorem cQ {w:World} {B:Nat} {e:TypeId} {s:Nat} {v:Value} {n:Nat} {xs:List Value} (h:w.ownsRow B e s v n xs):∃g c,v=.slice g n c:=by
 rcases h.2 with⟨h,h0⟩ | ⟨g,cap,cur,h,_⟩
 ·exact⟨none,0,by rw[h,h0]⟩
 ·exact⟨_,_,h⟩
end
end Go.Proofs.YtmjccpfchhnfhaaGreat
