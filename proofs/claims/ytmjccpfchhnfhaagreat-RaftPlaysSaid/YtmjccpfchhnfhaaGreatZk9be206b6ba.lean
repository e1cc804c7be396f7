/- Texts of the proofs, part 35: what the functions that they reach do, walked; no conditions beyond those that each states. -/
import Derived.Test.YtmjccpfchhnfhaaGreatZk72cbde5552
set_option linter.unusedVariables false
set_option linter.unusedSimpArgs false
set_option maxRecDepth 100000
set_option maxHeartbeats 8000000
namespace Go.Proofs.YtmjccpfchhnfhaaGreat
open Go.RowKit
theorem kfg {p q:Prop} (k:q) (h:q→p:=by
 have NC:=zH (fun W=>jW W (t:Nat));rw[decide_eq_true (show (0:Int)≤(t:Nat)∧((t:Nat):Int)<16 by omega)] at NC;obtain⟨bs,hbs⟩:=zE n.log.base;obtain⟨bt,hbt⟩:=zE n.log.bt;obtain⟨ae,le,ce,hve,hlel,hesl,hlg⟩:=h.lg;have hl2:bs+le+1<18446744073709551616:=by unfold Lg.last at hl;omega
 obtain⟨LST,hLST⟩:=zE (bs+le);have hlast:n.log.last=LST:=by unfold Lg.last;omega
 have LAST:=zH (fun W=>cz W bs bt ae le ce (by omega));rw[hLST] at LAST;obtain⟨bn,hbn⟩:=zE q.bn;obtain⟨cn,hcn⟩:=zE q.cn;obtain⟨bm,hbm⟩:=zE q.bm;obtain⟨km,hkm⟩:=zE q.cm;have HQ:=zH (And.intro hbn (And.intro hcn (And.intro hbm (And.intro hkm (And.intro hve (And.intro hbs hbt))))));obtain⟨nt,hnt⟩:=zE (n.next.getD t 0);obtain⟨kt,hkt⟩:=zE (n.mat.getD t 0);intro kk0;revert hkt;revert kt;revert hnt;revert nt;revert HQ;revert hkm;revert km;revert hbm;revert bm;revert hcn;revert cn;revert hbn;revert bn;revert LAST;revert hlast;revert hLST;revert LST;revert hl2;revert hlg;revert hesl;revert hlel;revert hve;revert ce;revert le;revert ae;revert hbt;revert bt;revert hbs;revert bs;revert NC;exact kk0):p:=h k
theorem mNL {p:Prop} (h:p:=by
 rw[←hkt,List.getD_eq_getElem?_getD,List.getElem?_eq_getElem (by have:=h.mt.1;omega)];exact hmx _ (List.getElem_mem _)):p:=h
theorem mUt {p:Prop} (h:p:=by
 iterate 8
  refine bY.q rfl rfl rfl (kQQ ?_) ?_
  ·intro xs W HF K' hK;obtain⟨y8,y9,y10,y12,y13,yn,ym⟩:=CC W3 W n H3 rfl (UD.trans HF);refine ke3 ?_;intro V v4;have v7:=V.2.2.2.2;clear V;exact mD8
 refine bY.p rfl rfl (kPP ?_) ?_
 ·intro xs W HF K' hK;obtain⟨y8,y9,y10,y12,y13,yn,ym⟩:=CC W3 W n H3 rfl (UD.trans HF);refine ke3 ?_;intro V v4;have v7:=V.2.2.2.2;clear V;exact moD
 exact m36):p:=h
theorem mib {p:Prop} (h:p:=by
 iterate 16
  refine bY.q rfl rfl rfl (kQQ ?_) ?_
  ·intro xs W HF K' hK;obtain⟨y8,y9,y10,y12,y13,yn,ym⟩:=CC W9 W nA H9 HNA.2 (UK.trans HF);refine kTB ?_;intro V v4;have v7:=V.2.2.2.2;clear V;rw[HNA.out.1] at yn;exact mD8
 refine bY.p rfl rfl (kPP ?_) ?_
 ·intro xs W HF K' hK;obtain⟨y8,y9,y10,y12,y13,yn,ym⟩:=CC W9 W nA H9 HNA.2 (UK.trans HF);refine kTB ?_;intro V v4;have v7:=V.2.2.2.2;clear V;rw[HNA.out.1] at yn;exact moD
 exact bY.nil):p:=h
theorem mmW {p:Prop} (h:p:=by
 by_cases hb:LST<NT
 ·have gi:decide (LST<NT)=true:=decide_eq_true hb;have E1:Hid (n.onAcked m.ms=(nA,[])):=E.trans (if_pos hb);clear hb E;have UK:Hid (FT W9 W9.drew):=(Fr.refl _ _).drew;go_wp2_with fail
  refine L4 [(120,0),(121,1),(122,2),(123,3),(124,4),(125,5),(126,6),(127,7),(128,8),(129,9),(130,10),(131,11),(132,12),(133,13),(134,14),(135,15),(136,16)] [(0,[]),(1,[0]),(2,[1]),(3,[2]),(4,[2,3]),(5,[2,4]),(6,[2,5]),(7,[2]),(8,[2,6,7]),(9,[2,8]),(10,[2]),(11,[2,10]),(12,[2,11]),(13,[2,12]),(15,[2,9,14]),(16,[2,15]),(14,[2,13])] (ckR [(0,.pointer (some ⟨g0,7,none⟩)),(1,.bool true),(2,.bool true),(3,.pointer (some ⟨b,0,none⟩)),(4,.pointer (some ⟨b,0,none⟩)),(5,.pointer (some ⟨b,12,none⟩)),(6,.slice (some ⟨bn,0,none⟩) 16 cn),(7,.int .i64 (t:Nat)),(8,.pointer (some ⟨bn,t,none⟩)),(9,.int .u64 (NT:Nat)),(10,.pointer (some ⟨b,0,none⟩)),(11,.pointer (some ⟨b,0,none⟩)),(12,.pointer (some ⟨b,8,none⟩)),(13,.agg #[.int .u64 (bs:Nat),.int .u64 (bt:Nat),.slice ae le ce]),(14,.int .u64 (LST:Nat)),(15,.bool true),(16,.bool true)] [] 17 0) rfl ?cfall ?cfend
  case cfall=>exact mib
  case cfend=>refine kEE ?_;intro xs W HF;have FK:=zH (UK.trans HF);clear gi;go_wp2;go_ret;rw[E1.out];exact⟨X,P,q,_,[],rfl,H9.tt FK,(Aft.of FP9 H.px).tr FK,OwnMs.nil _ _ _,rfl⟩
 ·have gi:decide (LST<NT)=false:=decide_eq_false hb;have E1:Hid (n.onAcked m.ms=(nA,nA.sendTo (t:Nat))):=E.trans (if_neg hb);clear hb E;have UK:Hid (FT W9 W9.drew):=(Fr.refl _ _).drew;go_wp2_with fail
  refine L4 [(120,0),(121,1),(122,2),(123,3),(124,4),(125,5),(126,6),(127,7),(128,8),(129,9),(130,10),(131,11),(132,12),(133,13),(134,14),(135,15),(136,16)] [(0,[]),(1,[0]),(2,[1]),(3,[2]),(4,[2,3]),(5,[2,4]),(6,[2,5]),(7,[2]),(8,[2,6,7]),(9,[2,8]),(10,[2]),(11,[2,10]),(12,[2,11]),(13,[2,12]),(15,[2,9,14]),(16,[2,15]),(14,[2,13])] (ckR [(0,.pointer (some ⟨g0,7,none⟩)),(1,.bool true),(2,.bool true),(3,.pointer (some ⟨b,0,none⟩)),(4,.pointer (some ⟨b,0,none⟩)),(5,.pointer (some ⟨b,12,none⟩)),(6,.slice (some ⟨bn,0,none⟩) 16 cn),(7,.int .i64 (t:Nat)),(8,.pointer (some ⟨bn,t,none⟩)),(9,.int .u64 (NT:Nat)),(10,.pointer (some ⟨b,0,none⟩)),(11,.pointer (some ⟨b,0,none⟩)),(12,.pointer (some ⟨b,8,none⟩)),(13,.agg #[.int .u64 (bs:Nat),.int .u64 (bt:Nat),.slice ae le ce]),(14,.int .u64 (LST:Nat)),(15,.bool false),(16,.bool false)] [] 17 0) rfl ?cfall ?cfend
  case cfall=>exact mib
  case cfend=>
   refine kEE ?_;intro xs W HF;have FK:=zH (UK.trans HF);clear gi;have TOC1:=zH (TO W (H9.tt FK));clear TO;go_wp2_with fail
   (with_reducible refine TOC1.out.mono ?_);rintro e W7 ⟨⟨v,mvs,rfl,o7,e7⟩,f7⟩;have HH:=zH (And.intro o7 (And.intro e7 f7));clear o7 e7 f7 TOC1;go_wp2;go_ret;rw[E1.out];exact⟨X,P,q,_,mvs,rfl,(H9.tt FK).tt HH.2.2,((Aft.of FP9 H.px).tr FK).tr HH.2.2,HH.1.lo (FP9.trans (FK.tT)).size,HH.2.1⟩):p:=h
theorem mrn {p:Prop} (h:p:=by
 obtain⟨x0,x1,x2,x3,x4,x5,x6,x7,x8,x9,x10,x11,x12,x13⟩:=hA.cells f;exact⟨by rw[x8,hlA,hbs],by rw[x9,hlA,hbt],by rw[x10,hve],by rw[x12,hbn,hcn],by rw[x13,hbm,hkm],by rw[←hbn];exact(hA.nx.fr f fun _ _=>trivial).cell t ht,by rw[←hbm];exact(hA.mt.fr f fun _ _=>trivial).cell t ht⟩):p:=h
section
variable {X P:Nat→Prop} {w w':World} {b:Nat} {n n':Nd} {q q':NV}
theorem rK [Old] (h:PNs X P w b n q) (m:MV) (hk6:m.kind=6) (hlt:n.tm<m.tm) (hcf:0<n.conf.length∧n.conf.length≤12) (hpos:∀x∈n.conf,0≤x) (hnx:∀y∈n.next,y+1<18446744073709551616) (hmx:∀y∈n.mat,y+1<18446744073709551616) (hix:m.index+1<18446744073709551616) (hpv1:m.prev+1<18446744073709551616) (hl:n.log.last+1<18446744073709551616) (hle:n.log.es.length≤900000):
 Calls Tryz.prog 14 #[.pointer (some ⟨b,0,none⟩),.agg (cM m)] w fun e w'=>jq X P w b (n.onAcked m.ms) e w':=by
 refine kXu ?_;intro W1 hW1 F1 g0 hg0 X1 H HG0 gb me hme ro hro tm htm s hs mt hmt ix hixx pv hpv ok hok HL
 have VH:Hid (∀W:World,W.heap[g0]? = some (.cells (cM m) 32 (0,0))→W.cell? ⟨g0,1,none⟩=some (.int .i64 s)∧W.cell? ⟨g0,3,none⟩=some (.int .u64 (mt:Nat))∧W.cell? ⟨g0,4,none⟩=some (.int .u64 (ix:Nat))∧W.cell? ⟨g0,5,none⟩=some (.int .u64 (pv:Nat))∧W.cell? ⟨g0,7,none⟩=some (.bool ok)):=fun W t=>by exact mQr
 refine k7m ?_;intro v0 y6 v3;have gl:decide (tm<mt)=true:=by rw[←hmt,←htm];exact decide_eq_true hlt
 have E:Hid (n.onAcked m.ms=(n.follow mt (-1),[])):=by exact m7A
 unfold cM at hW1 ⊢;clear hk6 hlt h hme hro htm hs hmt hixx hpv hok hcf hpos hnx hmx hix hpv1 hl hle;go_enter Tryz.func14,Tryz.ntmps14
 go_wp2_with fail
 try rw[hW1]
 try rw[HG0.out]
 clear hW1 hg0 v0;go_quiet (fail)
 clear y6 v3 gl;have UQ:Hid (FT W1 (W1.drewN nq)):=(Fr.refl _ W1).drewN nq;generalize W1.drewN nq=W2 at UQ ⊢;have F2:=zH (F1.trans UQ);have H2:=zH (H.tt F2);have T2:Hid (W2.heap[g0]? = some (.cells (cM m) 32 (0,0))):=UQ.keep _ _ X1 trivial;have FO:=zH (gJ H2 mt (-1));have v3:=(VH W2 T2).2.1;go_wp2_with fail
 (with_reducible refine FO.out.mono ?_);rintro e Wf ⟨rfl,hf,ff⟩;have HF:=zH hf;have FF:Hid (Fr (fun c _=>c≠b) W2 Wf):=ff;clear v3 FO hf ff;go_wp2;go_ret;rw[E.out];exact⟨X,P,q.noYes,_,[],rfl,HF.out,.of ((F2.out.tT).trans (FF.out.mono fun c _ hc e=>hc (e▸H.out.pb))) H.out.px,OwnMs.nil _ _ _,rfl⟩
theorem rW [Old] (h:PNs X P w b n q) (m:MV) (hk6:m.kind=6) (hnlt:¬n.tm<m.tm) (hlt:m.tm<n.tm) (hcf:0<n.conf.length∧n.conf.length≤12) (hpos:∀x∈n.conf,0≤x) (hnx:∀y∈n.next,y+1<18446744073709551616) (hmx:∀y∈n.mat,y+1<18446744073709551616) (hix:m.index+1<18446744073709551616) (hpv1:m.prev+1<18446744073709551616) (hl:n.log.last+1<18446744073709551616) (hle:n.log.es.length≤900000):
 Calls Tryz.prog 14 #[.pointer (some ⟨b,0,none⟩),.agg (cM m)] w fun e w'=>jq X P w b (n.onAcked m.ms) e w':=by
 refine kXu ?_;intro W1 hW1 F1 g0 hg0 X1 H HG0 gb me hme ro hro tm htm s hs mt hmt ix hixx pv hpv ok hok HL
 have VH:Hid (∀W:World,W.heap[g0]? = some (.cells (cM m) 32 (0,0))→W.cell? ⟨g0,1,none⟩=some (.int .i64 s)∧W.cell? ⟨g0,3,none⟩=some (.int .u64 (mt:Nat))∧W.cell? ⟨g0,4,none⟩=some (.int .u64 (ix:Nat))∧W.cell? ⟨g0,5,none⟩=some (.int .u64 (pv:Nat))∧W.cell? ⟨g0,7,none⟩=some (.bool ok)):=fun W t=>by exact mQr
 refine k7m ?_;intro v0 y6 v3;refine kpq ?_;intro gl g1
 have E:Hid (n.onAcked m.ms=(n,[])):=by exact mld
 unfold cM at hW1 ⊢;clear hk6 hnlt h hme hro htm hs hmt hixx hpv hok hcf hpos hnx hmx hix hpv1 hl hle hlt;go_enter Tryz.func14,Tryz.ntmps14
 go_wp2_with fail
 try rw[hW1]
 try rw[HG0.out]
 clear hW1 hg0 v0;go_quiet (fail)
 clear y6 v3 gl;have UQ:Hid (FT W1 (W1.drewN nq)):=(Fr.refl _ W1).drewN nq;generalize W1.drewN nq=W2 at UQ ⊢;refine k2N ?_;intro F2 H2 T2 y6 y2 y0 v3 v1;go_wp2_with fail
 go_quiet (fail)
 clear y6 y2 y0 v3 v1 g1;have UQ2:Hid (FT W2 (W2.drewN nq)):=(Fr.refl _ W2).drewN nq;generalize W2.drewN nq=W3 at UQ2 ⊢;refine kbs ?_;intro F3 H3 T3;go_wp2;go_ret;rw[E.out];exact⟨X,P,q,_,[],rfl,H3,.tt F3 H.px,OwnMs.nil _ _ _,rfl⟩
theorem rV [Old] (h:PNs X P w b n q) (m:MV) (hk6:m.kind=6) (hnlt:¬n.tm<m.tm) (hlt:¬m.tm<n.tm) (hr:n.role≠3) (hcf:0<n.conf.length∧n.conf.length≤12) (hpos:∀x∈n.conf,0≤x) (hnx:∀y∈n.next,y+1<18446744073709551616) (hmx:∀y∈n.mat,y+1<18446744073709551616) (hix:m.index+1<18446744073709551616) (hpv1:m.prev+1<18446744073709551616) (hl:n.log.last+1<18446744073709551616) (hle:n.log.es.length≤900000):
 Calls Tryz.prog 14 #[.pointer (some ⟨b,0,none⟩),.agg (cM m)] w fun e w'=>jq X P w b (n.onAcked m.ms) e w':=by
 refine kXu ?_;intro W1 hW1 F1 g0 hg0 X1 H HG0 gb me hme ro hro tm htm s hs mt hmt ix hixx pv hpv ok hok HL
 have VH:Hid (∀W:World,W.heap[g0]? = some (.cells (cM m) 32 (0,0))→W.cell? ⟨g0,1,none⟩=some (.int .i64 s)∧W.cell? ⟨g0,3,none⟩=some (.int .u64 (mt:Nat))∧W.cell? ⟨g0,4,none⟩=some (.int .u64 (ix:Nat))∧W.cell? ⟨g0,5,none⟩=some (.int .u64 (pv:Nat))∧W.cell? ⟨g0,7,none⟩=some (.bool ok)):=fun W t=>by exact mQr
 refine koo ?_;intro v0 y6 v3 gl g1;have g2:(ro==3)=false:=by rw[←hro];simpa using hr
 have g3:(ro != 3)=true:=by rw[bne,g2];rfl
 have E:Hid (n.onAcked m.ms=(n,[])):=by exact mEh
 unfold cM at hW1 ⊢;clear hk6 hnlt h hme hro htm hs hmt hixx hpv hok hcf hpos hnx hmx hix hpv1 hl hle hlt hr;go_enter Tryz.func14,Tryz.ntmps14
 go_wp2_with fail
 try rw[hW1]
 try rw[HG0.out]
 clear hW1 hg0 v0;go_quiet (fail)
 clear y6 v3 gl;have UQ:Hid (FT W1 (W1.drewN nq)):=(Fr.refl _ W1).drewN nq;generalize W1.drewN nq=W2 at UQ ⊢;refine k2N ?_;intro F2 H2 T2 y6 y2 y0 v3 v1;go_wp2_with fail
 go_quiet (fail)
 clear y6 y2 y0 v3 v1 g1 g2 g3;have UQ2:Hid (FT W2 (W2.drewN nq)):=(Fr.refl _ W2).drewN nq;generalize W2.drewN nq=W3 at UQ2 ⊢;refine kbs ?_;intro F3 H3 T3;go_wp2;go_ret;rw[E.out];exact⟨X,P,q,_,[],rfl,H3,.tt F3 H.px,OwnMs.nil _ _ _,rfl⟩
theorem rj [Old] (h:PNs X P w b n q) (m:MV) (hk6:m.kind=6) (hnlt:¬n.tm<m.tm) (hlt:¬m.tm<n.tm) (hr:n.role=3) (hx:m.src=n.me) (hcf:0<n.conf.length∧n.conf.length≤12) (hpos:∀x∈n.conf,0≤x) (hnx:∀y∈n.next,y+1<18446744073709551616) (hmx:∀y∈n.mat,y+1<18446744073709551616) (hix:m.index+1<18446744073709551616) (hpv1:m.prev+1<18446744073709551616) (hl:n.log.last+1<18446744073709551616) (hle:n.log.es.length≤900000):
 Calls Tryz.prog 14 #[.pointer (some ⟨b,0,none⟩),.agg (cM m)] w fun e w'=>jq X P w b (n.onAcked m.ms) e w':=by
 refine kXu ?_;intro W1 hW1 F1 g0 hg0 X1 H HG0 gb me hme ro hro tm htm s hs mt hmt ix hixx pv hpv ok hok HL
 have VH:Hid (∀W:World,W.heap[g0]? = some (.cells (cM m) 32 (0,0))→W.cell? ⟨g0,1,none⟩=some (.int .i64 s)∧W.cell? ⟨g0,3,none⟩=some (.int .u64 (mt:Nat))∧W.cell? ⟨g0,4,none⟩=some (.int .u64 (ix:Nat))∧W.cell? ⟨g0,5,none⟩=some (.int .u64 (pv:Nat))∧W.cell? ⟨g0,7,none⟩=some (.bool ok)):=fun W t=>by exact mQr
 refine koo ?_;intro v0 y6 v3 gl g1;obtain rfl:ro=3:=by rw[←hro];exact hr
 obtain rfl:s=me:=by rw[←hs,←hme];exact hx
 have g2:(s==s)=true:=by simp
 have E:Hid (n.onAcked m.ms=(n,[])):=by exact mJn
 unfold cM at hW1 ⊢;clear hk6 hnlt h hme hro htm hs hmt hixx hpv hok hcf hpos hnx hmx hix hpv1 hl hle hlt hr hx;go_enter Tryz.func14,Tryz.ntmps14
 go_wp2_with fail
 try rw[hW1]
 try rw[HG0.out]
 clear hW1 hg0 v0;go_quiet (fail)
 clear y6 v3 gl;have UQ:Hid (FT W1 (W1.drewN nq)):=(Fr.refl _ W1).drewN nq;generalize W1.drewN nq=W2 at UQ ⊢;refine kiq ?_;intro F2 H2 T2 y6 y2 y0 v3 v1;go_wp2_with fail
 go_quiet (fail)
 clear y6 y2 y0 v3 v1 g1 g2;have UQ2:Hid (FT W2 (W2.drewN nq)):=(Fr.refl _ W2).drewN nq;generalize W2.drewN nq=W3 at UQ2 ⊢;refine kbs ?_;intro F3 H3 T3;go_wp2;go_ret;rw[E.out];exact⟨X,P,q,_,[],rfl,H3,.tt F3 H.px,OwnMs.nil _ _ _,rfl⟩
theorem rz [Old] (h:PNs X P w b n q) (m:MV) (hk6:m.kind=6) (hnlt:¬n.tm<m.tm) (hlt:¬m.tm<n.tm) (hr:n.role=3) (hx:m.src≠n.me) (h16:¬(0≤m.src∧m.src<16)) (hcf:0<n.conf.length∧n.conf.length≤12) (hpos:∀x∈n.conf,0≤x) (hnx:∀y∈n.next,y+1<18446744073709551616) (hmx:∀y∈n.mat,y+1<18446744073709551616) (hix:m.index+1<18446744073709551616) (hpv1:m.prev+1<18446744073709551616) (hl:n.log.last+1<18446744073709551616) (hle:n.log.es.length≤900000):
 Calls Tryz.prog 14 #[.pointer (some ⟨b,0,none⟩),.agg (cM m)] w fun e w'=>jq X P w b (n.onAcked m.ms) e w':=by
 refine kXu ?_;intro W1 hW1 F1 g0 hg0 X1 H HG0 gb me hme ro hro tm htm s hs mt hmt ix hixx pv hpv ok hok HL
 have VH:Hid (∀W:World,W.heap[g0]? = some (.cells (cM m) 32 (0,0))→W.cell? ⟨g0,1,none⟩=some (.int .i64 s)∧W.cell? ⟨g0,3,none⟩=some (.int .u64 (mt:Nat))∧W.cell? ⟨g0,4,none⟩=some (.int .u64 (ix:Nat))∧W.cell? ⟨g0,5,none⟩=some (.int .u64 (pv:Nat))∧W.cell? ⟨g0,7,none⟩=some (.bool ok)):=fun W t=>by exact mQr
 refine koo ?_;intro v0 y6 v3 gl g1;obtain rfl:ro=3:=by rw[←hro];exact hr
 refine krq ?_;intro g2;have NC:=zH (fun W=>jW W s);rw[decide_eq_false (show ¬(0≤s∧s<16) by rw[←hs];exact h16)] at NC
 have E:Hid (n.onAcked m.ms=(n,[])):=by show _=_;unfold Nd.onAcked;rw[if_neg (fun e=>e hk6),if_neg (show ¬n.tm<m.ms.tm from hnlt),if_pos (show m.ms.tm<n.tm∨n.role≠3∨m.ms.src=n.me∨m.ms.src<0∨15<m.ms.src from Or.inr (Or.inr (Or.inr (by show m.src<0∨15<m.src;omega))))]
 unfold cM at hW1 ⊢;clear hk6 hnlt h hme hro htm hs hmt hixx hpv hok hcf hpos hnx hmx hix hpv1 hl hle hlt hr hx h16;go_enter Tryz.func14,Tryz.ntmps14
 go_wp2_with fail
 try rw[hW1]
 try rw[HG0.out]
 clear hW1 hg0 v0;go_quiet (fail)
 clear y6 v3 gl;have UQ:Hid (FT W1 (W1.drewN nq)):=(Fr.refl _ W1).drewN nq;generalize W1.drewN nq=W2 at UQ ⊢;refine k0z ?_;intro F2 H2 T2 y6 y2 y0 v3 v1;go_wp2_with fail
 go_quiet ((go_at_call 62;exact Calls.quiet_of_same ((NC.out _).mono fun e w' h=>And.intro h.1 h.2.symm)))
 clear y6 y2 y0 v3 v1 g1 g2 NC;have UQ2:Hid (FT W2 (W2.drewN nq)):=(Fr.refl _ W2).drewN nq;generalize W2.drewN nq=W3 at UQ2 ⊢;refine kbs ?_;intro F3 H3 T3;go_wp2;go_ret;rw[E.out];exact⟨X,P,q,_,[],rfl,H3,.tt F3 H.px,OwnMs.nil _ _ _,rfl⟩
end
section
variable {X P:Nat→Prop} {w w':World} {b:Nat} {n n':Nd} {q q':NV}
theorem rk [Old] (h:PNs X P w b n q) (m:MV) (hk6:m.kind=6) (hnlt:¬n.tm<m.tm) (hlt:¬m.tm<n.tm) (hr:n.role=3) (hx:m.src≠n.me) (t:Nat) (ht:t<16) (hst:m.src=(t:Nat)) (ho:m.ok=false) (hcf:0<n.conf.length∧n.conf.length≤12) (hpos:∀x∈n.conf,0≤x) (hnx:∀y∈n.next,y+1<18446744073709551616) (hmx:∀y∈n.mat,y+1<18446744073709551616) (hix:m.index+1<18446744073709551616) (hpv1:m.prev+1<18446744073709551616) (hl:n.log.last+1<18446744073709551616) (hle:n.log.es.length≤900000):
 Calls Tryz.prog 14 #[.pointer (some ⟨b,0,none⟩),.agg (cM m)] w fun e w'=>jq X P w b (n.onAcked m.ms) e w':=by
 refine kXu ?_;intro W1 hW1 F1 g0 hg0 X1 H HG0 gb me hme ro hro tm htm s hs mt hmt ix hixx pv hpv ok hok HL
 have VH:Hid (∀W:World,W.heap[g0]? = some (.cells (cM m) 32 (0,0))→W.cell? ⟨g0,1,none⟩=some (.int .i64 s)∧W.cell? ⟨g0,3,none⟩=some (.int .u64 (mt:Nat))∧W.cell? ⟨g0,4,none⟩=some (.int .u64 (ix:Nat))∧W.cell? ⟨g0,5,none⟩=some (.int .u64 (pv:Nat))∧W.cell? ⟨g0,7,none⟩=some (.bool ok)):=fun W t=>by exact mQr
 refine koo ?_;intro v0 y6 v3 gl g1;obtain rfl:ro=3:=by rw[←hro];exact hr
 refine krq ?_;intro g2;obtain rfl:s=(t:Nat):=by rw[←hs];exact hst
 obtain rfl:ok=false:=by rw[←hok];exact ho
 refine kfg ?_;intro NC bs hbs bt hbt ae le ce hve hlel hesl hlg hl2 LST hLST hlast LAST bn hbn cn hcn bm hbm km hkm HQ nt hnt kt hkt
 have hkt64:kt+1<18446744073709551616:=by exact mNL
 have ht2:((t:Nat):Int)<16:=by omega
 have E0:n.onAcked m.ms=if m.ok=true∧(n.acked m.ms).log.last<(n.acked m.ms).next.getD t 0 then(n.acked m.ms,[]) else(n.acked m.ms,(n.acked m.ms).sendTo (t:Nat)):=by exact mFs
 have CC:Hid (∀W W' nA,PNs X P W b nA q→nA.log=n.log→FT W W'→W'.cell? ⟨b,8,none⟩=some (.int .u64 (bs:Nat))∧W'.cell? ⟨b,9,none⟩=some (.int .u64 (bt:Nat))∧W'.cell? ⟨b,10,none⟩=some (.slice ae le ce)∧W'.cell? ⟨b,12,none⟩=some (.slice (some ⟨bn,0,none⟩) 16 cn)∧W'.cell? ⟨b,13,none⟩=some (.slice (some ⟨bm,0,none⟩) 16 km)∧W'.cell? ⟨bn,t,none⟩=some (.int .u64 (nA.next.getD t 0:Nat))∧W'.cell? ⟨bm,t,none⟩=some (.int .u64 (nA.mat.getD t 0:Nat))):=fun W W' nA hA hlA f=>by exact mrn
 have HT:=zH ht;have HNK:=zH (And.intro hnt hkt);have hpv2:pv+1<18446744073709551616:=by omega
 refine kxU ?_;intro wp1 wk1;obtain⟨pv1,hpv11⟩:=zE (pv+1);obtain⟨kt1,hkt1⟩:=zE (kt+1);obtain⟨mn,hmn⟩:=zE (min ix pv1);obtain⟨mx,hmxx⟩:=zE (max kt1 mn);rw[hpv11] at wp1;rw[hkt1] at wk1;have HMX:=zH (And.intro hmn hmxx);obtain⟨nA,hnA⟩:∃x:Nd,{ n with next:=n.next.set t mx }=x:=⟨_,rfl⟩
 have hac:n.acked m.ms=nA:=by
  unfold Nd.acked;have e:m.ms.src.toNat=t:=by show m.src.toNat=t;rw[hst];rfl
  rw[if_pos (show m.ms.ok=false from ho),e,hkt,show m.ms.index=ix from hixx,show m.ms.prev=pv from hpv,hpv11,hkt1,hmn,hmxx,hnA]
 have E:Hid (n.onAcked m.ms=(nA,nA.sendTo (t:Nat))):=by show _=_;rw[E0,if_neg (fun e=>by rw[ho] at e;cases e.1),hac]
 have TO:Hid (∀W,PNs X P W b nA q→Calls Tryz.prog 16 #[.pointer (some ⟨b,0,none⟩),.int .i64 (t:Nat)] W fun e w'=>jj X W (nA.sendTo (t:Nat)) e w'):=fun W hA=>m7 hA (t:Nat) (fun y hy=>by
  rw[←hnA] at hy;rcases List.mem_or_eq_of_mem_set hy with hy | hy
  ·have:=hnx y hy;omega
  ·omega) (by rw[←hnA];exact hl) (by rw[←hnA];exact hle)
 have HNA:=zH hnA;unfold cM at hW1 ⊢;clear hk6 hnlt hlt hr hx hst ho hnt hkt hbs hbt hve hlel hesl hlg hl2 hLST hlast hbn hcn hbm hkm hkt64 E0 hpv2 hpv11 hkt1 hmn hmxx hnA hac ht h hme hro htm hs hmt hixx hpv hok hcf hpos hnx hmx hix hpv1 hl hle;go_enter Tryz.func14,Tryz.ntmps14
 go_wp2_with fail
 try rw[hW1]
 try rw[HG0.out]
 clear hW1 hg0 v0;go_quiet (fail)
 clear y6 v3 gl;have UQ:Hid (FT W1 (W1.drewN nq)):=(Fr.refl _ W1).drewN nq;generalize W1.drewN nq=W2 at UQ ⊢;refine k0z ?_;intro F2 H2 T2 y6 y2 y0 v3 v1;go_wp2_with fail
 go_quiet ((go_at_call 62;exact Calls.quiet_of_same ((NC.out _).mono fun e w' h=>And.intro h.1 h.2.symm)))
 clear y6 y2 y0 v3 v1 g1 g2 NC;have UQ2:Hid (FT W2 (W2.drewN nq)):=(Fr.refl _ W2).drewN nq;generalize W2.drewN nq=W3 at UQ2 ⊢;refine kbs ?_;intro F3 H3 T3;refine kHL ?_;intro UD v1;have v7:=(VH W3 T3).2.2.2.2;go_wp2_with fail
 clear v1 v7;refine wpR [(58,0),(59,1),(60,2),(61,3),(62,4),(63,5),(64,6),(65,7),(66,8),(67,9),(68,10),(69,11),(70,12),(71,13),(72,14),(73,15),(74,16),(75,17),(76,18),(77,19),(78,20)] [(0,[]),(1,[0]),(2,[1]),(3,[2]),(4,[]),(5,[]),(6,[5]),(7,[6]),(8,[7]),(9,[]),(10,[8,9]),(11,[10]),(12,[11]),(13,[]),(14,[13]),(15,[]),(16,[15]),(17,[16]),(18,[14,17]),(19,[12,18])] (ckR [(0,.pointer (some ⟨b,0,none⟩)),(1,.pointer (some ⟨b,0,none⟩)),(2,.pointer (some ⟨b,12,none⟩)),(3,.slice (some ⟨bn,0,none⟩) 16 cn),(4,.int .i64 (t:Nat)),(5,.pointer (some ⟨b,0,none⟩)),(6,.pointer (some ⟨b,0,none⟩)),(7,.pointer (some ⟨b,13,none⟩)),(8,.slice (some ⟨bm,0,none⟩) 16 km),(9,.int .i64 (t:Nat)),(10,.pointer (some ⟨bm,t,none⟩)),(11,.int .u64 (kt:Nat)),(12,.int .u64 (kt1:Nat)),(13,.pointer (some ⟨g0,4,none⟩)),(14,.int .u64 (ix:Nat)),(15,.pointer (some ⟨g0,5,none⟩)),(16,.int .u64 (pv:Nat)),(17,.int .u64 (pv1:Nat)),(18,.int .u64 (mn:Nat)),(19,.int .u64 (mx:Nat))] [] 20 0) 2 rfl ?cfall ?cfend
 case cfall=>
  iterate 18
   refine bY.q rfl rfl rfl (kQQ ?_) ?_
   ·intro xs W HF K' hK;obtain⟨y8,y9,y10,y12,y13,yn,ym⟩:=CC W3 W n H3 rfl (UD.trans HF);rw[HNK.out.2] at ym;refine ke3 ?_;intro V v4;have v5:=V.2.2.2.1;clear V;exact mD8
  refine bY.p rfl rfl (kPP ?_) ?_
  ·intro xs W HF K' hK;obtain⟨y8,y9,y10,y12,y13,yn,ym⟩:=CC W3 W n H3 rfl (UD.trans HF);rw[HNK.out.2] at ym;refine ke3 ?_;intro V v4;have v5:=V.2.2.2.1;clear V
   skip
   go_simp;exact hK.out _ _ _ rfl (Fr.refl _ _) (congrArg (Value.int .u64) (show (min (ix:Int) (pv1:Int))=((mn:Nat):Int) from by have:=HMX.out.1;omega))
  refine bY.p rfl rfl (kPP ?_) ?_
  ·intro xs W HF K' hK;obtain⟨y8,y9,y10,y12,y13,yn,ym⟩:=CC W3 W n H3 rfl (UD.trans HF);rw[HNK.out.2] at ym;refine ke3 ?_;intro V v4;have v5:=V.2.2.2.1;clear V
   skip
   go_simp;exact hK.out _ _ _ rfl (Fr.refl _ _) (congrArg (Value.int .u64) (show (max (kt1:Int) (mn:Int))=((mx:Nat):Int) from by have:=HMX.out.2;omega))
  exact m36
 case cfend=>
  refine kEE ?_;intro xs W HF;have F4:=zH (UD.trans HF);have H4:=zH (H3.tt F4);have An:=H4.nx;rw[HQ.out.1] at An;have an0:=An.cell t HT;have an1:=An.free t;have An2:=An.set t mx HT;obtain⟨WN,hWN⟩:=zE (W.setCell ⟨bn,t,none⟩ (.int .u64 (mx:Nat)));have fN:Fr (fun c _=>c≠bn) W WN:=hWN▸(Fr.refl _ _).setCell (fun _ _ h=>h rfl) _
  have h5:PNs X P WN b nA q:=by rw[←HNA.out];exact H4.out.arrays (nx:=n.next.set t mx) (mt:=n.mat) (fN.mono fun c _ hc=>by rw[←HQ.out.1];exact hc.1) (by rw[HQ.out.1,←hWN];exact An2) (H4.out.mt.fr fN fun _ _=>by rw[←HQ.out.1];exact Ne.symm H4.out.nm)
  have T5:Hid (WN.heap[g0]? = some (.cells (cM m) 32 (0,0))):=fN.keep _ _ (F4.keep _ _ T3 trivial) (fun e=>by obtain⟨_,cur,hc,_⟩:=An;have:=F4.out.keep _ _ T3.out trivial;rw[e,hc] at this;cases this)
  have H5:=zH h5;have FP5:Hid (Fr (fun c _=>¬P c) w WN):=(F3.out.trans F4.out |>.tT).trans (fN.mono fun c _ hc e=>hc (e▸(HQ.out.1▸H.out.pn)));have TOC:=zH (fun W' (f:FT WN W')=>TO W' (H5.tt f));clear An An2 fN h5;refine wpN 20 rfl fun K' hK=>?_
  skip
  go_simp;refine hK _ _ ?_;clear hK K';refine wpN 21 rfl fun K' hK=>?_
  skip
  go_simp;refine hK _ _ ?_;clear hK K';refine wpF ?_
  try rw[hWN]
  clear hWN an0 an1;have v7:=(VH WN T5).2.2.2.2;go_wp2_with fail
  go_quiet (fail)
  have UQ5:Hid (FT WN (WN.drewN nq)):=(Fr.refl _ WN).drewN nq;generalize WN.drewN nq=W6 at UQ5 ⊢;have TOC1:=zH (TOC W6 UQ5);clear v7 TOC;go_wp2_with fail
  (with_reducible refine TOC1.out.mono ?_);rintro e W7 ⟨⟨v,mvs,rfl,o7,e7⟩,f7⟩;have HH:=zH (And.intro o7 (And.intro e7 f7));clear o7 e7 f7 TOC1;go_wp2;go_ret;rw[E.out];exact⟨X,P,q,_,mvs,rfl,(H5.tt UQ5).tt HH.2.2,((Aft.of FP5 H.px).tr UQ5).tr HH.2.2,HH.1.lo (FP5.trans (UQ5.tT)).size,HH.2.1⟩
end
section
variable {X P:Nat→Prop} {w w':World} {b:Nat} {n n':Nd} {q q':NV}
theorem rY [Old] (h:PNs X P w b n q) (m:MV) (hk6:m.kind=6) (hnlt:¬n.tm<m.tm) (hlt:¬m.tm<n.tm) (hr:n.role=3) (hx:m.src≠n.me) (t:Nat) (ht:t<16) (hst:m.src=(t:Nat)) (ho:m.ok=true) (hil:m.index≤n.log.last) (hcf:0<n.conf.length∧n.conf.length≤12) (hpos:∀x∈n.conf,0≤x) (hnx:∀y∈n.next,y+1<18446744073709551616) (hmx:∀y∈n.mat,y+1<18446744073709551616) (hix:m.index+1<18446744073709551616) (hpv1:m.prev+1<18446744073709551616) (hl:n.log.last+1<18446744073709551616) (hle:n.log.es.length≤900000):
 Calls Tryz.prog 14 #[.pointer (some ⟨b,0,none⟩),.agg (cM m)] w fun e w'=>jq X P w b (n.onAcked m.ms) e w':=by
 refine kXu ?_;intro W1 hW1 F1 g0 hg0 X1 H HG0 gb me hme ro hro tm htm s hs mt hmt ix hixx pv hpv ok hok HL
 have VH:Hid (∀W:World,W.heap[g0]? = some (.cells (cM m) 32 (0,0))→W.cell? ⟨g0,1,none⟩=some (.int .i64 s)∧W.cell? ⟨g0,3,none⟩=some (.int .u64 (mt:Nat))∧W.cell? ⟨g0,4,none⟩=some (.int .u64 (ix:Nat))∧W.cell? ⟨g0,5,none⟩=some (.int .u64 (pv:Nat))∧W.cell? ⟨g0,7,none⟩=some (.bool ok)):=fun W t=>by exact mQr
 refine koo ?_;intro v0 y6 v3 gl g1;obtain rfl:ro=3:=by rw[←hro];exact hr
 refine krq ?_;intro g2;obtain rfl:s=(t:Nat):=by rw[←hs];exact hst
 obtain rfl:ok=true:=by rw[←hok];exact ho
 refine kfg ?_;intro NC bs hbs bt hbt ae le ce hve hlel hesl hlg hl2 LST hLST hlast LAST bn hbn cn hcn bm hbm km hkm HQ nt hnt kt hkt
 have hkt64:kt+1<18446744073709551616:=by exact mNL
 have ht2:((t:Nat):Int)<16:=by omega
 have E0:n.onAcked m.ms=if m.ok=true∧(n.acked m.ms).log.last<(n.acked m.ms).next.getD t 0 then(n.acked m.ms,[]) else(n.acked m.ms,(n.acked m.ms).sendTo (t:Nat)):=by exact mFs
 have CC:Hid (∀W W' nA,PNs X P W b nA q→nA.log=n.log→FT W W'→W'.cell? ⟨b,8,none⟩=some (.int .u64 (bs:Nat))∧W'.cell? ⟨b,9,none⟩=some (.int .u64 (bt:Nat))∧W'.cell? ⟨b,10,none⟩=some (.slice ae le ce)∧W'.cell? ⟨b,12,none⟩=some (.slice (some ⟨bn,0,none⟩) 16 cn)∧W'.cell? ⟨b,13,none⟩=some (.slice (some ⟨bm,0,none⟩) 16 km)∧W'.cell? ⟨bn,t,none⟩=some (.int .u64 (nA.next.getD t 0:Nat))∧W'.cell? ⟨bm,t,none⟩=some (.int .u64 (nA.mat.getD t 0:Nat))):=fun W W' nA hA hlA f=>by exact mrn
 refine kpu ?_;intro HT HNK hil2 gi;obtain⟨mx,hmxx⟩:=zE (max kt ix);obtain⟨mx1,hmx1⟩:=zE (mx+1);have wk1:IntKind.u64.wrap ((mx:Int)+1)=((mx1:Nat):Int):=by rw[IntKind.wrap_u64];omega
 obtain⟨n5,hn5⟩:∃x:Nd,{ n with mat:=n.mat.set t mx }=x:=⟨_,rfl⟩
 obtain⟨n6,hn6⟩:∃x:Nd,{ n with mat:=n.mat.set t mx,next:=n.next.set t mx1 }=x:=⟨_,rfl⟩
 obtain⟨nA,hnA⟩:∃x:Nd,n6.sure=x:=⟨_,rfl⟩
 have hac:n.acked m.ms=nA:=by exact mk0
 have hq6:n6.log=n.log∧n6.conf=n.conf∧n6.next=n.next.set t mx1∧n6.mat=n.mat.set t mx∧n5.log=n.log∧n5.next=n.next∧n5.mat=n.mat.set t mx:=by rw[←hn6,←hn5];exact⟨rfl,rfl,rfl,rfl,rfl,rfl,rfl⟩
 have hqA:nA.log=n6.log∧nA.next=n6.next:=by exact m5c
 have SU:=zH (fun W (hA:PNs X P W b n6 q)=>(yJ hA (by rw[hq6.2.1];exact hcf) (by rw[hq6.2.1];exact hpos) (by rw[hq6.1];exact hl)).1);rw[hnA] at SU;have hnn:mx1=nA.next.getD t 0:=by rw[hqA.2,hq6.2.2.1,jV (by have:=h.nx.1;omega),if_pos rfl]
 obtain⟨NT,hNT⟩:=zE mx1;rw[hNT] at hnn;have hlA:nA.log=n.log:=hqA.1.trans hq6.1
 have E:Hid (n.onAcked m.ms=if LST<NT then(nA,[]) else(nA,nA.sendTo (t:Nat))):=by exact m0L
 have TO:Hid (∀W,PNs X P W b nA q→Calls Tryz.prog 16 #[.pointer (some ⟨b,0,none⟩),.int .i64 (t:Nat)] W fun e w'=>jj X W (nA.sendTo (t:Nat)) e w'):=fun W hA=>m7 hA (t:Nat) (fun y hy=>by
  rw[hqA.2,hq6.2.2.1] at hy;rcases List.mem_or_eq_of_mem_set hy with hy | hy
  ·have:=hnx y hy;omega
  ·omega) (by rw[hlA];exact hl) (by rw[hlA];exact hle)
 have HNA:Hid (nA.next.getD t 0=NT∧nA.log=n.log):=⟨hnn.symm,hlA⟩
 unfold cM at hW1 ⊢;have H56:=zH (And.intro hn5 (And.intro hn6 (And.intro hmxx hq6)));clear hk6 hnlt hlt hr hx hst ho hil hil2 hnt hkt hbs hbt hve hlel hesl hlg hl2 hLST hlast hbn hcn hbm hkm hkt64 E0 hac hqA hnn hNT hlA ht hmxx hmx1 hn5 hn6 hnA hq6 h hme hro htm hs hmt hixx hpv hok hcf hpos hnx hmx hix hpv1 hl hle;go_enter Tryz.func14,Tryz.ntmps14
 go_wp2_with fail
 try rw[hW1]
 try rw[HG0.out]
 clear hW1 hg0 v0;go_quiet (fail)
 clear y6 v3 gl;have UQ:Hid (FT W1 (W1.drewN nq)):=(Fr.refl _ W1).drewN nq;generalize W1.drewN nq=W2 at UQ ⊢;refine k0z ?_;intro F2 H2 T2 y6 y2 y0 v3 v1;go_wp2_with fail
 go_quiet ((go_at_call 62;exact Calls.quiet_of_same ((NC.out _).mono fun e w' h=>And.intro h.1 h.2.symm)))
 clear y6 y2 y0 v3 v1 g1 g2 NC;have UQ2:Hid (FT W2 (W2.drewN nq)):=(Fr.refl _ W2).drewN nq;generalize W2.drewN nq=W3 at UQ2 ⊢;refine kbs ?_;intro F3 H3 T3;refine kHL ?_;intro UD v1;have v7:=(VH W3 T3).2.2.2.2;go_wp2_with fail
 clear v1 v7;refine L4 [(80,0),(81,1),(82,2),(83,3),(84,4),(85,5),(86,6),(87,7),(79,8)] [(0,[]),(1,[0]),(2,[]),(3,[2]),(4,[3]),(5,[4]),(7,[1,6]),(8,[7]),(6,[5])] (ckR [(0,.pointer (some ⟨g0,4,none⟩)),(1,.int .u64 (ix:Nat)),(2,.pointer (some ⟨b,0,none⟩)),(3,.pointer (some ⟨b,0,none⟩)),(4,.pointer (some ⟨b,8,none⟩)),(5,.agg #[.int .u64 (bs:Nat),.int .u64 (bt:Nat),.slice ae le ce]),(6,.int .u64 (LST:Nat)),(7,.bool true),(8,.bool true)] [] 9 0) rfl ?cfall ?cfend
 case cfall=>exact mUt
 case cfend=>
  refine kEE ?_;intro xs W HF;refine kHf ?_;intro F4 H4 T4;have FP4:Hid (Fr (fun c _=>¬P c) w W):=F3.trans F4 |>.tT;have HL16:Hid (n.next.length=16∧n.mat.length=16):=⟨H4.nx.1,H4.mt.1⟩
  obtain⟨W4,hW4⟩:=zE W;rw[hW4] at HF F4 H4 T4 FP4 ⊢;clear hW4;have UE:Hid (FT W4 W4.drew):=(Fr.refl _ _).drew;go_wp2_with fail
  clear gi;refine wpR [(88,0),(89,1),(90,2),(91,3),(92,4),(93,5),(94,6),(95,7),(96,8),(97,9),(98,10),(99,11),(100,12),(101,13),(102,14),(103,15)] [(0,[]),(1,[0]),(2,[1]),(3,[2]),(4,[]),(5,[]),(6,[5]),(7,[6]),(8,[7]),(9,[]),(10,[8,9]),(11,[10]),(12,[]),(13,[12]),(14,[11,13])] (ckR [(0,.pointer (some ⟨b,0,none⟩)),(1,.pointer (some ⟨b,0,none⟩)),(2,.pointer (some ⟨b,13,none⟩)),(3,.slice (some ⟨bm,0,none⟩) 16 km),(4,.int .i64 (t:Nat)),(5,.pointer (some ⟨b,0,none⟩)),(6,.pointer (some ⟨b,0,none⟩)),(7,.pointer (some ⟨b,13,none⟩)),(8,.slice (some ⟨bm,0,none⟩) 16 km),(9,.int .i64 (t:Nat)),(10,.pointer (some ⟨bm,t,none⟩)),(11,.int .u64 (kt:Nat)),(12,.pointer (some ⟨g0,4,none⟩)),(13,.int .u64 (ix:Nat)),(14,.int .u64 (mx:Nat))] [] 15 0) 2 rfl ?cfall ?cfend
  case cfall=>
   iterate 14
    refine bY.q rfl rfl rfl (kQQ ?_) ?_
    ·intro xs W HF K' hK;obtain⟨y8,y9,y10,y12,y13,yn,ym⟩:=CC W4 W n H4 rfl (UE.trans HF);have V:=VH W ((UE.trans HF).keep _ _ T4 trivial);have v4:=V.2.2.1;have v7:=V.2.2.2.2;clear V;rw[HNK.out.2] at ym;exact mD8
   refine bY.p rfl rfl (kPP ?_) ?_
   ·intro xs W HF K' hK;obtain⟨y8,y9,y10,y12,y13,yn,ym⟩:=CC W4 W n H4 rfl (UE.trans HF);have V:=VH W ((UE.trans HF).keep _ _ T4 trivial);have v4:=V.2.2.1;have v7:=V.2.2.2.2;clear V;rw[HNK.out.2] at ym
    skip
    go_simp;exact hK.out _ _ _ rfl (Fr.refl _ _) (congrArg (Value.int .u64) (show (max (kt:Int) (ix:Int))=((mx:Nat):Int) from by have:=H56.out.2.2.1;omega))
   exact m36
  case cfend=>
   refine kEE ?_;intro xs W HF;have F5:=zH (UE.trans HF);have H5:=zH (H4.tt F5);have Am:=H5.mt;rw[HQ.out.2.2.1] at Am;have am0:=Am.cell t HT;have am1:=Am.free t;have Am2:=Am.set t mx HT;obtain⟨W6,hW6⟩:=zE (W.setCell ⟨bm,t,none⟩ (.int .u64 (mx:Nat)));have fN:Fr (fun c _=>c≠bm) W W6:=hW6▸(Fr.refl _ _).setCell (fun _ _ h=>h rfl) _
   have h6:PNs X P W6 b n5 q:=by rw[←H56.out.1];exact H5.out.arrays (nx:=n.next) (mt:=n.mat.set t mx) (fN.mono fun c _ hc=>by rw[←HQ.out.2.2.1];exact hc.2) (H5.out.nx.fr fN fun _ _=>by rw[←HQ.out.2.2.1];exact H5.out.nm) (by rw[HQ.out.2.2.1,←hW6];exact Am2)
   have T6:Hid (W6.heap[g0]? = some (.cells (cM m) 32 (0,0))):=fN.keep _ _ (F5.keep _ _ T4 trivial) (fun e=>by obtain⟨_,cur,hc,_⟩:=Am;have:=F5.out.keep _ _ T4.out trivial;rw[e,hc] at this;cases this)
   have H6:=zH h6;have FP6:Hid (Fr (fun c _=>¬P c) w W6):=(FP4.out.trans (F5.out.tT)).trans (fN.mono fun c _ hc e=>hc (e▸(HQ.out.2.2.1▸H.out.pm)));have UG:Hid (FT W6 W6.drew):=(Fr.refl _ _).drew;clear Am Am2 fN h6;refine wpN 15 rfl fun K' hK=>?_
   skip
   go_simp;refine hK _ _ ?_;clear hK K';refine wpN 16 rfl fun K' hK=>?_
   skip
   go_simp;refine hK _ _ ?_;clear hK K';refine wpF ?_
   try rw[hW6]
   clear hW6 am0 am1;obtain⟨W5,hW5⟩:=zE W;rw[hW5] at HF F5 H5;clear hW5;go_wp2_with fail
   refine wpR [(104,0),(105,1),(106,2),(107,3),(108,4),(109,5),(110,6),(111,7),(112,8),(113,9),(114,10),(115,11),(116,12),(117,13)] [(0,[]),(1,[0]),(2,[1]),(3,[2]),(4,[]),(5,[]),(6,[5]),(7,[6]),(8,[7]),(9,[]),(10,[8,9]),(11,[10]),(12,[11])] (ckR [(0,.pointer (some ⟨b,0,none⟩)),(1,.pointer (some ⟨b,0,none⟩)),(2,.pointer (some ⟨b,12,none⟩)),(3,.slice (some ⟨bn,0,none⟩) 16 cn),(4,.int .i64 (t:Nat)),(5,.pointer (some ⟨b,0,none⟩)),(6,.pointer (some ⟨b,0,none⟩)),(7,.pointer (some ⟨b,13,none⟩)),(8,.slice (some ⟨bm,0,none⟩) 16 km),(9,.int .i64 (t:Nat)),(10,.pointer (some ⟨bm,t,none⟩)),(11,.int .u64 (mx:Nat)),(12,.int .u64 (mx1:Nat))] [] 13 0) 2 rfl ?cfall ?cfend
   case cfall=>
    iterate 13
     refine bY.q rfl rfl rfl (kQQ ?_) ?_
     ·intro xs W HF K' hK;obtain⟨y8,y9,y10,y12,y13,yn,ym⟩:=CC W6 W n5 H6 H56.2.2.2.2.2.2.2.1 (UG.trans HF);have V:=VH W ((UG.trans HF).keep _ _ T6 trivial);have v4:=V.2.2.1;have v7:=V.2.2.2.2;clear V;rw[H56.out.2.2.2.2.2.2.2.2.2,jV (by rw[HL16.out.2];exact HT.out),if_pos rfl] at ym;exact mD8
    exact m36
   case cfend=>
    refine kEE ?_;intro xs W HF;have F7:=zH (UG.trans HF);have H7:=zH (H6.tt F7);have An:=H7.nx;rw[HQ.out.1] at An;have an0:=An.cell t HT;have an1:=An.free t;have An2:=An.set t mx1 HT;obtain⟨W8,hW8⟩:=zE (W.setCell ⟨bn,t,none⟩ (.int .u64 (mx1:Nat)));have fN:Fr (fun c _=>c≠bn) W W8:=hW8▸(Fr.refl _ _).setCell (fun _ _ h=>h rfl) _
    have h8:PNs X P W8 b n6 q:=by have hh:=H7.out.arrays (nx:=n5.next.set t mx1) (mt:=n5.mat) (fN.mono fun c _ hc=>by rw[←HQ.out.1];exact hc.1) (by rw[HQ.out.1,←hW8];exact An2) (H7.out.mt.fr fN fun _ _=>by rw[←HQ.out.1];exact Ne.symm H7.out.nm);rw[←H56.out.1] at hh;rw[←H56.out.2.1];exact hh
    have T8:Hid (W8.heap[g0]? = some (.cells (cM m) 32 (0,0))):=fN.keep _ _ (F7.keep _ _ T6 trivial) (fun e=>by obtain⟨_,cur,hc,_⟩:=An;have:=F7.out.keep _ _ T6.out trivial;rw[e,hc] at this;cases this)
    have H8:=zH h8;have FP8:Hid (Fr (fun c _=>¬P c) w W8):=(FP6.out.trans (F7.out.tT)).trans (fN.mono fun c _ hc e=>hc (e▸(HQ.out.1▸H.out.pn)));have SU1:=zH (SU W8 h8);clear An An2 fN h8 SU;refine wpN 13 rfl fun K' hK=>?_
    skip
    go_simp;refine hK _ _ ?_;clear hK K';refine wpN 14 rfl fun K' hK=>?_
    skip
    go_simp;refine hK _ _ ?_;clear hK K';refine wpF ?_
    try rw[hW8]
    clear hW8 an0 an1;go_wp2_with fail
    (with_reducible refine SU1.out.mono ?_);rintro e W9 ⟨rfl,h9,f9⟩;have H9:=zH h9;have T9:Hid (W9.heap[g0]? = some (.cells (cM m) 32 (0,0))):=f9.keep _ _ T8 gb;have FP9:Hid (Fr (fun c _=>¬P c) w W9):=FP8.out.trans (f9.mono fun c _ hc e=>hc (e▸H.out.pb));clear h9 f9 SU1;exact mmW
end
section
variable {X P:Nat→Prop} {w w':World} {b:Nat} {n n':Nd} {q q':NV}
theorem rv [Old] (h:PNs X P w b n q) (m:MV) (hk6:m.kind=6) (hnlt:¬n.tm<m.tm) (hlt:¬m.tm<n.tm) (hr:n.role=3) (hx:m.src≠n.me) (t:Nat) (ht:t<16) (hst:m.src=(t:Nat)) (ho:m.ok=true) (hil:¬m.index≤n.log.last) (hcf:0<n.conf.length∧n.conf.length≤12) (hpos:∀x∈n.conf,0≤x) (hnx:∀y∈n.next,y+1<18446744073709551616) (hmx:∀y∈n.mat,y+1<18446744073709551616) (hix:m.index+1<18446744073709551616) (hpv1:m.prev+1<18446744073709551616) (hl:n.log.last+1<18446744073709551616) (hle:n.log.es.length≤900000):
 Calls Tryz.prog 14 #[.pointer (some ⟨b,0,none⟩),.agg (cM m)] w fun e w'=>jq X P w b (n.onAcked m.ms) e w':=by
 refine kXu ?_;intro W1 hW1 F1 g0 hg0 X1 H HG0 gb me hme ro hro tm htm s hs mt hmt ix hixx pv hpv ok hok HL
 have VH:Hid (∀W:World,W.heap[g0]? = some (.cells (cM m) 32 (0,0))→W.cell? ⟨g0,1,none⟩=some (.int .i64 s)∧W.cell? ⟨g0,3,none⟩=some (.int .u64 (mt:Nat))∧W.cell? ⟨g0,4,none⟩=some (.int .u64 (ix:Nat))∧W.cell? ⟨g0,5,none⟩=some (.int .u64 (pv:Nat))∧W.cell? ⟨g0,7,none⟩=some (.bool ok)):=fun W t=>by exact mQr
 refine koo ?_;intro v0 y6 v3 gl g1;obtain rfl:ro=3:=by rw[←hro];exact hr
 refine krq ?_;intro g2;obtain rfl:s=(t:Nat):=by rw[←hs];exact hst
 obtain rfl:ok=true:=by rw[←hok];exact ho
 refine kfg ?_;intro NC bs hbs bt hbt ae le ce hve hlel hesl hlg hl2 LST hLST hlast LAST bn hbn cn hcn bm hbm km hkm HQ nt hnt kt hkt
 have hkt64:kt+1<18446744073709551616:=by exact mNL
 have ht2:((t:Nat):Int)<16:=by omega
 have E0:n.onAcked m.ms=if m.ok=true∧(n.acked m.ms).log.last<(n.acked m.ms).next.getD t 0 then(n.acked m.ms,[]) else(n.acked m.ms,(n.acked m.ms).sendTo (t:Nat)):=by exact mFs
 have CC:Hid (∀W W' nA,PNs X P W b nA q→nA.log=n.log→FT W W'→W'.cell? ⟨b,8,none⟩=some (.int .u64 (bs:Nat))∧W'.cell? ⟨b,9,none⟩=some (.int .u64 (bt:Nat))∧W'.cell? ⟨b,10,none⟩=some (.slice ae le ce)∧W'.cell? ⟨b,12,none⟩=some (.slice (some ⟨bn,0,none⟩) 16 cn)∧W'.cell? ⟨b,13,none⟩=some (.slice (some ⟨bm,0,none⟩) 16 km)∧W'.cell? ⟨bn,t,none⟩=some (.int .u64 (nA.next.getD t 0:Nat))∧W'.cell? ⟨bm,t,none⟩=some (.int .u64 (nA.mat.getD t 0:Nat))):=fun W W' nA hA hlA f=>by exact mrn
 have HT:=zH ht;have HNK:=zH (And.intro hnt hkt);have hil2:¬ix≤LST:=by omega
 have gi:decide (ix≤LST)=false:=decide_eq_false hil2;obtain⟨nA,hnA⟩:∃x:Nd,n=x:=⟨_,rfl⟩
 have hac:n.acked m.ms=nA:=by exact m6I
 refine k0C ?_;intro hqA NT hNT hnn hlA
 have E:Hid (n.onAcked m.ms=if LST<NT then(nA,[]) else(nA,nA.sendTo (t:Nat))):=by exact m0L
 have TO:Hid (∀W,PNs X P W b nA q→Calls Tryz.prog 16 #[.pointer (some ⟨b,0,none⟩),.int .i64 (t:Nat)] W fun e w'=>jj X W (nA.sendTo (t:Nat)) e w'):=fun W hA=>m7 hA (t:Nat) (fun y hy=>by rw[hqA.2] at hy;have:=hnx y hy;omega) (by rw[hlA];exact hl) (by rw[hlA];exact hle)
 have HNA:Hid (nA.next.getD t 0=NT∧nA.log=n.log):=⟨hnn.symm,hlA⟩
 unfold cM at hW1 ⊢;have HNN:=zH hnA;clear hk6 hnlt hlt hr hx hst ho hil hil2 hnt hkt hbs hbt hve hlel hesl hlg hl2 hLST hlast hbn hcn hbm hkm hkt64 E0 hac hqA hnn hNT hlA ht hnA h hme hro htm hs hmt hixx hpv hok hcf hpos hnx hmx hix hpv1 hl hle;go_enter Tryz.func14,Tryz.ntmps14
 go_wp2_with fail
 try rw[hW1]
 try rw[HG0.out]
 clear hW1 hg0 v0;go_quiet (fail)
 clear y6 v3 gl;have UQ:Hid (FT W1 (W1.drewN nq)):=(Fr.refl _ W1).drewN nq;generalize W1.drewN nq=W2 at UQ ⊢;refine k0z ?_;intro F2 H2 T2 y6 y2 y0 v3 v1;go_wp2_with fail
 go_quiet ((go_at_call 62;exact Calls.quiet_of_same ((NC.out _).mono fun e w' h=>And.intro h.1 h.2.symm)))
 clear y6 y2 y0 v3 v1 g1 g2 NC;have UQ2:Hid (FT W2 (W2.drewN nq)):=(Fr.refl _ W2).drewN nq;generalize W2.drewN nq=W3 at UQ2 ⊢;refine kbs ?_;intro F3 H3 T3;refine kHL ?_;intro UD v1;have v7:=(VH W3 T3).2.2.2.2;go_wp2_with fail
 clear v1 v7;refine L4 [(80,0),(81,1),(82,2),(83,3),(84,4),(85,5),(86,6),(87,7),(79,8)] [(0,[]),(1,[0]),(2,[]),(3,[2]),(4,[3]),(5,[4]),(7,[1,6]),(8,[7]),(6,[5])] (ckR [(0,.pointer (some ⟨g0,4,none⟩)),(1,.int .u64 (ix:Nat)),(2,.pointer (some ⟨b,0,none⟩)),(3,.pointer (some ⟨b,0,none⟩)),(4,.pointer (some ⟨b,8,none⟩)),(5,.agg #[.int .u64 (bs:Nat),.int .u64 (bt:Nat),.slice ae le ce]),(6,.int .u64 (LST:Nat)),(7,.bool false),(8,.bool false)] [] 9 0) rfl ?cfall ?cfend
 case cfall=>exact mUt
 case cfend=>
  refine kEE ?_;intro xs W HF;have F9:=zH (UD.trans HF);obtain⟨W9,hW9⟩:=zE W;rw[hW9] at HF F9 ⊢;have H9:Hid (PNs X P W9 b nA q):=by rw[←HNN.out];exact H3.out.tt F9.out
  have T9:Hid (W9.heap[g0]? = some (.cells (cM m) 32 (0,0))):=F9.keep _ _ T3 trivial;have FP9:Hid (Fr (fun c _=>¬P c) w W9):=F3.trans F9 |>.tT;clear hW9;exact mmW
end
section
variable {X P:Nat→Prop} {w w':World} {b:Nat} {n n':Nd} {q q':NV}
theorem rJ [Old] (h:PNs X P w b n q) (m:MV) (hk6:m.kind≠6) (hcf:0<n.conf.length∧n.conf.length≤12) (hpos:∀x∈n.conf,0≤x) (hnx:∀y∈n.next,y+1<18446744073709551616) (hmx:∀y∈n.mat,y+1<18446744073709551616) (hix:m.index+1<18446744073709551616) (hl:n.log.last+1<18446744073709551616) (hle:n.log.es.length≤900000):
 Calls Tryz.prog 14 #[.pointer (some ⟨b,0,none⟩),.agg (cM m)] w fun e w'=>jq X P w b (n.onAcked m.ms) e w':=by
 refine kRB ?_;intro W1 hW1 F1 g0 hg0 X1 H HG0 gb;obtain⟨k,hk⟩:=zE m.kind;refine kM5 ?_;intro v0;have k5:(k==6)=false:=by rw[←hk];simpa using hk6
 have k5':(k != 6)=true:=by rw[bne,k5];rfl
 have E:Hid (n.onAcked m.ms=(n,[])):=if_pos hk6;unfold cM at hW1 ⊢;clear h hk hk6 hcf hpos hnx hmx hix hl hle;go_enter Tryz.func14,Tryz.ntmps14
 go_wp2
 try rw[hW1]
 go_ret;rw[E.out];exact⟨X,P,q,_,[],rfl,H.tt F1,.tt F1 H.px,OwnMs.nil _ _ _,rfl⟩
theorem vw [Old] (h:PNs X P w b n q) (m:MV) (hcf:0<n.conf.length∧n.conf.length≤12) (hpos:∀x∈n.conf,0≤x) (hnx:∀y∈n.next,y+1<18446744073709551616) (hmx:∀y∈n.mat,y+1<18446744073709551616) (hix:m.index+1<18446744073709551616) (hpv1:m.kind=6→m.prev+1<18446744073709551616) (hl:n.log.last+1<18446744073709551616) (hle:n.log.es.length≤900000):
 Calls Tryz.prog 14 #[.pointer (some ⟨b,0,none⟩),.agg (cM m)] w fun e w'=>jq X P w b (n.onAcked m.ms) e w':=by
 by_cases hk6:m.kind=6
 ·by_cases hup:n.tm<m.tm
  ·exact rK h m hk6 hup hcf hpos hnx hmx hix (hpv1 hk6) hl hle
  ·by_cases hlt:m.tm<n.tm
   ·exact rW h m hk6 hup hlt hcf hpos hnx hmx hix (hpv1 hk6) hl hle
   ·by_cases hr:n.role=3
    ·by_cases hx:m.src=n.me
     ·exact rj h m hk6 hup hlt hr hx hcf hpos hnx hmx hix (hpv1 hk6) hl hle
     ·by_cases h16:0≤m.src∧m.src<16
      ·obtain⟨t,ht⟩:=Int.eq_ofNat_of_zero_le h16.1;have ht16:t<16:=by omega
       cases ho:m.ok with
       | false=>exact rk h m hk6 hup hlt hr hx t ht16 ht ho hcf hpos hnx hmx hix (hpv1 hk6) hl hle
       | true=>
        by_cases hil:m.index≤n.log.last
        ·exact rY h m hk6 hup hlt hr hx t ht16 ht ho hil hcf hpos hnx hmx hix (hpv1 hk6) hl hle
        ·exact rv h m hk6 hup hlt hr hx t ht16 ht ho hil hcf hpos hnx hmx hix (hpv1 hk6) hl hle
      ·exact rz h m hk6 hup hlt hr hx h16 hcf hpos hnx hmx hix (hpv1 hk6) hl hle
    ·exact rV h m hk6 hup hlt hr hcf hpos hnx hmx hix (hpv1 hk6) hl hle
 ·exact rJ h m hk6 hcf hpos hnx hmx hix hl hle
end
end Go.Proofs.YtmjccpfchhnfhaaGreat
