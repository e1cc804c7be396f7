/- Texts of the proofs, part 40: what the functions that they reach do, walked; no conditions beyond those that each states. -/
import Derived.Test.YtmjccpfchhnfhaaGreatZk2190c3dfb9
set_option linter.unusedVariables false
set_option linter.unusedSimpArgs false
set_option maxRecDepth 100000
set_option maxHeartbeats 8000000
namespace Go.Proofs.YtmjccpfchhnfhaaGreat
open Go.RowKit
theorem k7F {p q:Prop} (k:q) (h:q→p:=by
 have H5:=zH (H4.tt UQ4);have T5:Hid (W5.heap[g0]? = some (.cells (cM m) 32 (0,0))):=UQ4.keep _ _ T4 trivial;have FP5:Hid (Fr (fun c _=>c≠b) w W5):=FP4.trans (UQ4.tT);intro kk0;revert FP5;revert T5;revert H5;exact kk0):p:=h k
theorem kg6 {p q:Prop} (k:q) (h:q→p:=by
 have SU:=zH (fun W (hA:DNs X W b n6 q)=>qK hA (by rw[hq6.2.1];exact hcf) (by rw[hq6.2.1];exact hpos) (by rw[hq6.1];exact hl) (by rw[hq6.1];exact hle));rw[hnA] at SU;have hnn:mx1=nA.next.getD t 0:=by rw[hqA.2,hq6.2.2.1,jV (by have:=h.nl;omega),if_pos rfl]
 obtain⟨NT,hNT⟩:=zE mx1;rw[hNT] at hnn;have hlA:nA.log=n.log:=hqA.1.trans hq6.1;intro kk0;revert hlA;revert hnn;revert hNT;revert NT;revert SU;exact kk0):p:=h k
theorem kuv {p q:Prop} (k:q) (h:q→p:=by
 have ht0:¬((t:Nat):Int)<0:=by omega
 have ht15:¬(15:Int)<((t:Nat):Int):=by omega
 obtain⟨bs,hbs⟩:=zE n.log.base;obtain⟨bt,hbt⟩:=zE n.log.bt;obtain⟨ae,le,ce,hve,hlel,hel2,hesl,hlg⟩:=h.lg;have hl2:bs+le+1<18446744073709551616:=by unfold Lg.last at hl;omega
 obtain⟨LST,hLST⟩:=zE (bs+le);have hlast:n.log.last=LST:=by unfold Lg.last;omega
 have LAST:=zH (fun W=>dW W bs bt ae le ce (by omega));rw[hLST] at LAST;have HQ:=zH (And.intro hve (And.intro hbs hbt));obtain⟨nt,hnt⟩:=zE (n.next.getD t 0);obtain⟨kt,hkt⟩:=zE (n.mat.getD t 0);intro kk0;revert hkt;revert kt;revert hnt;revert nt;revert HQ;revert LAST;revert hlast;revert hLST;revert LST;revert hl2;revert hlg;revert hesl;revert hel2;revert hlel;revert hve;revert ce;revert le;revert ae;revert hbt;revert bt;revert hbs;revert bs;revert ht15;revert ht0;exact kk0):p:=h k
theorem m5i {p:Prop} (h:p:=by
 iterate 11
  refine bY.q rfl rfl rfl (kQQ ?_) ?_
  ·intro xs W HF K' hK;obtain⟨y8,y9,y10,yn,ym⟩:=CC W7 W n5 H7 H56.2.2.2.2.2.2.1 (UG.trans HF);have V:=VH W ((UG.trans HF).keep _ _ T7 trivial);have v4:=V.2.2.1;have v5:=V.2.2.2.1;have v7:=V.2.2.2.2;clear V;rw[H56.out.2.2.2.2.2.2.2.2,jV (by rw[HL16.out.2];exact HT.out),if_pos rfl] at ym;exact mD8
 exact m36):p:=h
theorem mpa {p:Prop} (h:p:=by
 iterate 15
  refine bY.q rfl rfl rfl (kQQ ?_) ?_
  ·intro xs W HF K' hK;obtain⟨y8,y9,y10,yn,ym⟩:=CC W9 W nA H9 HNA.2 (UK.trans HF);refine kTB ?_;intro V v4;have v5:=V.2.2.2.1;have v7:=V.2.2.2.2;clear V;rw[HNA.out.1] at yn;exact mD8
 refine bY.p rfl rfl (kPP ?_) ?_
 ·intro xs W HF K' hK;obtain⟨y8,y9,y10,yn,ym⟩:=CC W9 W nA H9 HNA.2 (UK.trans HF);refine kTB ?_;intro V v4;have v5:=V.2.2.2.1;have v7:=V.2.2.2.2;clear V;rw[HNA.out.1] at yn;have LA1:=zH (LAST W);dsimp only[vL9] at LA1;exact mBg
 exact bY.nil):p:=h
theorem mJb {p:Prop} (h:p:=by
 by_cases hb:LST<NT
 ·have gj:decide (LST<NT)=true:=decide_eq_true hb;have E1:Hid (n.onAcked m.ms=(nA,[])):=E.trans (if_pos hb);clear hb E;have UK:Hid (FT W9 W9.drew):=(Fr.refl _ _).drew;have v7:=(VH W9 T9).2.2.2.2;go_wp2_with fail
  clear v7;refine L4 [(137,0),(138,1),(139,2),(140,3),(141,4),(142,5),(143,6),(144,7),(145,8),(146,9),(147,10),(148,11),(149,12),(150,13),(151,14),(152,15)] [(0,[]),(1,[0]),(2,[1]),(3,[2]),(4,[2]),(5,[2,3]),(6,[2,5]),(7,[2,4,6]),(8,[2,7]),(9,[2]),(10,[2,9]),(11,[2,10]),(12,[2,11]),(14,[2,8,13]),(15,[2,14]),(13,[2,12])] (ckR [(0,.pointer (some ⟨g0,7,none⟩)),(1,.bool true),(2,.bool true),(3,.pointer (some ⟨b,0,none⟩)),(4,.int .i64 (t:Nat)),(5,.pointer (some ⟨b,0,none⟩)),(6,.pointer (some ⟨b,12,none⟩)),(7,.pointer (some ⟨b,12+t,none⟩)),(8,.int .u64 (NT:Nat)),(9,.pointer (some ⟨b,0,none⟩)),(10,.pointer (some ⟨b,0,none⟩)),(11,.pointer (some ⟨b,8,none⟩)),(12,.agg #[.int .u64 (bs:Nat),.int .u64 (bt:Nat),.slice ae le ce]),(13,.int .u64 (LST:Nat)),(14,.bool true),(15,.bool true)] [] 16 0) rfl ?cfall ?cfend
  case cfall=>exact mpa
  case cfend=>refine kEE ?_;intro xs W HF;have FK:=zH (UK.trans HF);clear gj;go_wp2;go_ret;rw[E1.out];exact⟨q,_,[],rfl,H9.tt FK,FP9.trans (FK.tT),OwnMs.nil _ _ _,rfl⟩
 ·have gj:decide (LST<NT)=false:=decide_eq_false hb;have E1:Hid (n.onAcked m.ms=(nA,nA.sendTo (t:Nat))):=E.trans (if_neg hb);clear hb E;have UK:Hid (FT W9 W9.drew):=(Fr.refl _ _).drew;have v7:=(VH W9 T9).2.2.2.2;go_wp2_with fail
  clear v7;refine L4 [(137,0),(138,1),(139,2),(140,3),(141,4),(142,5),(143,6),(144,7),(145,8),(146,9),(147,10),(148,11),(149,12),(150,13),(151,14),(152,15)] [(0,[]),(1,[0]),(2,[1]),(3,[2]),(4,[2]),(5,[2,3]),(6,[2,5]),(7,[2,4,6]),(8,[2,7]),(9,[2]),(10,[2,9]),(11,[2,10]),(12,[2,11]),(14,[2,8,13]),(15,[2,14]),(13,[2,12])] (ckR [(0,.pointer (some ⟨g0,7,none⟩)),(1,.bool true),(2,.bool true),(3,.pointer (some ⟨b,0,none⟩)),(4,.int .i64 (t:Nat)),(5,.pointer (some ⟨b,0,none⟩)),(6,.pointer (some ⟨b,12,none⟩)),(7,.pointer (some ⟨b,12+t,none⟩)),(8,.int .u64 (NT:Nat)),(9,.pointer (some ⟨b,0,none⟩)),(10,.pointer (some ⟨b,0,none⟩)),(11,.pointer (some ⟨b,8,none⟩)),(12,.agg #[.int .u64 (bs:Nat),.int .u64 (bt:Nat),.slice ae le ce]),(13,.int .u64 (LST:Nat)),(14,.bool false),(15,.bool false)] [] 16 0) rfl ?cfall ?cfend
  case cfall=>exact mpa
  case cfend=>
   refine kEE ?_;intro xs W HF;have FK:=zH (UK.trans HF);clear gj;have TOC1:=zH (TO W (H9.tt FK));clear TO;go_wp2_with fail
   (with_reducible refine TOC1.out.mono ?_);rintro e W7 ⟨⟨v,mvs,rfl,o7,e7⟩,f7⟩;have HH:=zH (And.intro o7 (And.intro e7 f7));clear o7 e7 f7 TOC1;go_wp2;go_ret;rw[E1.out];exact⟨q,_,mvs,rfl,(H9.tt FK).tt HH.2.2,(FP9.trans (FK.tT)).trans (HH.2.2.tT),HH.1.lo (FP9.trans (FK.tT)).size,HH.2.1⟩):p:=h
theorem mRA {p:Prop} (h:p:=by
 obtain⟨x0,x1,x2,x3,x4,x5,x6,x7,x8,x9,x10,x11⟩:=hA.cells f;exact⟨by rw[x8,hlA,hbs],by rw[x9,hlA,hbt],by rw[x10,hve],hA.nxt f t ht,hA.mtc f t ht⟩):p:=h
theorem mVQ {p:Prop} (h:p:=by
 iterate 11
  refine bY.q rfl rfl rfl (kQQ ?_) ?_
  ·intro xs W HF K' hK;obtain⟨y8,y9,y10,yn,ym⟩:=CC W3 W n H3 rfl (UD.trans HF);refine ke3 ?_;intro V v4;have v5:=V.2.2.2.1;have v7:=V.2.2.2.2;clear V;exact mD8
 refine bY.p rfl rfl (kPP ?_) ?_
 ·intro xs W HF K' hK;obtain⟨y8,y9,y10,yn,ym⟩:=CC W3 W n H3 rfl (UD.trans HF);refine ke3 ?_;intro V v4;have v5:=V.2.2.2.1;have v7:=V.2.2.2.2;clear V;have LA1:=zH (LAST W);dsimp only[vL9] at LA1;exact mBg
 exact m36):p:=h
theorem mmQ {p:Prop} (h:p:=by
 rw[←hkt,List.getD_eq_getElem?_getD,List.getElem?_eq_getElem (by have:=h.ml;omega)];exact hmx _ (List.getElem_mem _)):p:=h
theorem mnR {p:Prop} (h:p:=by
 refine kEE ?_;intro xs W HF;have F8:=zH (UG.trans HF);have H8:=zH (H7.tt F8);have an0:=H8.nxt (Fr.refl _ W) t HT;have an1:=H8.free (Fr.refl _ W) (12+t);obtain⟨h9,f9⟩:=H8.setN t mx1 HT;obtain⟨W8,hW8⟩:=zE (W.setCell ⟨b,12+t,none⟩ (.int .u64 (mx1:Nat)));have hW8':W.setCell ⟨b,12+t,none⟩ (d8 mx1)=W8:=hW8;rw[hW8'] at h9 f9
 have h10:DNs X W8 b n6 q:=by rw[←H56.out.2.1];rw[←H56.out.1] at h9;exact h9
 have T8:Hid (W8.heap[g0]? = some (.cells (cM m) 32 (0,0))):=f9.keep _ _ (F8.keep _ _ T7 trivial) gb;have FP8:Hid (Fr (fun c _=>c≠b) w W8):=(FP7.trans (F8.tT)).trans f9;have SU1:=zH (SU W8 h10);clear h9 f9 h10 hW8' SU;refine wpN 11 rfl fun K' hK=>?_
 skip
 go_simp;refine hK _ _ ?_;clear hK K';refine wpN 12 rfl fun K' hK=>?_
 skip
 go_simp;refine hK _ _ ?_;clear hK K';refine wpF ?_
 try rw[hW8]
 clear hW8 an0 an1;go_wp2_with fail
 (with_reducible refine SU1.out.mono ?_);rintro e W9 ⟨rfl,h9,f9⟩;have H9:=zH h9;have T9:Hid (W9.heap[g0]? = some (.cells (cM m) 32 (0,0))):=f9.keep _ _ T8 gb;have FP9:Hid (Fr (fun c _=>c≠b) w W9):=FP8.trans f9;clear h9 f9 SU1;exact mJb):p:=h
section
variable {X:Nat→Prop} {w w':World} {b:Nat} {n n':Nd} {q q':DV}
theorem xV [Old] (h:DNs X w b n q) (m:MV) (hk6:m.kind≠6) (hcf:0<n.conf.length∧n.conf.length≤12) (hpos:∀x∈n.conf,0≤x∧x≤15) (hnx:∀y∈n.next,y+1<18446744073709551616) (hmx:∀y∈n.mat,y+1<18446744073709551616) (hix:m.index+1<18446744073709551616) (hpv1:m.kind=6→m.prev+1<18446744073709551616) (hl:n.log.last+1<18446744073709551616) (hle:n.log.es.length≤900000):
 Calls Tryz.prog 15 #[.pointer (some ⟨b,0,none⟩),.agg (cM m)] w fun e w'=>gQ X w b (n.onAcked m.ms) e w':=by
 refine kRB ?_;intro W1 hW1 F1 g0 hg0 X1 H HG0 gb;obtain⟨k,hk⟩:=zE m.kind;refine kM5 ?_;intro v0;have k5:(k==6)=false:=by rw[←hk];simpa using hk6
 have k5':(k != 6)=true:=by rw[bne,k5];rfl
 have E:Hid (n.onAcked m.ms=(n,[])):=if_pos hk6;unfold cM at hW1 ⊢;clear h hk hk6 hcf hpos hnx hmx hix hpv1 hl hle;go_enter Tryz.func15,Tryz.ntmps15
 go_wp2
 try rw[hW1]
 go_ret;rw[E.out];exact⟨q,_,[],rfl,H.tt F1,F1.tT,OwnMs.nil _ _ _,rfl⟩
theorem ww [Old] (h:DNs X w b n q) (m:MV) (hk6:m.kind=6) (hlt:n.tm<m.tm) (hcf:0<n.conf.length∧n.conf.length≤12) (hpos:∀x∈n.conf,0≤x∧x≤15) (hnx:∀y∈n.next,y+1<18446744073709551616) (hmx:∀y∈n.mat,y+1<18446744073709551616) (hix:m.index+1<18446744073709551616) (hpv1:m.kind=6→m.prev+1<18446744073709551616) (hl:n.log.last+1<18446744073709551616) (hle:n.log.es.length≤900000):
 Calls Tryz.prog 15 #[.pointer (some ⟨b,0,none⟩),.agg (cM m)] w fun e w'=>gQ X w b (n.onAcked m.ms) e w':=by
 refine kXu ?_;intro W1 hW1 F1 g0 hg0 X1 H HG0 gb me hme ro hro tm htm s hs mt hmt ix hixx pv hpv ok hok HL
 have VH:Hid (∀W:World,W.heap[g0]? = some (.cells (cM m) 32 (0,0))→W.cell? ⟨g0,1,none⟩=some (.int .i64 s)∧W.cell? ⟨g0,3,none⟩=some (.int .u64 (mt:Nat))∧W.cell? ⟨g0,4,none⟩=some (.int .u64 (ix:Nat))∧W.cell? ⟨g0,5,none⟩=some (.int .u64 (pv:Nat))∧W.cell? ⟨g0,7,none⟩=some (.bool ok)):=fun W t=>by exact mQr
 refine k7m ?_;intro v0 y6 v3;have gl:decide (tm<mt)=true:=by rw[←hmt,←htm];exact decide_eq_true hlt
 have E:Hid (n.onAcked m.ms=(n.follow mt (-1),[])):=by exact m7A
 unfold cM at hW1 ⊢;clear hk6 hlt h hme hro htm hs hmt hixx hpv hok hcf hpos hnx hmx hix hpv1 hl hle;go_enter Tryz.func15,Tryz.ntmps15
 go_wp2_with fail
 try rw[hW1]
 try rw[HG0.out]
 clear hW1 hg0 v0;go_quiet (fail)
 clear y6 v3 gl;have UQ:Hid (FT W1 (W1.drewN nq)):=(Fr.refl _ W1).drewN nq;generalize W1.drewN nq=W2 at UQ ⊢;have F2:=zH (F1.trans UQ);have H2:=zH (H.tt F2);have T2:Hid (W2.heap[g0]? = some (.cells (cM m) 32 (0,0))):=UQ.keep _ _ X1 trivial;have FO:=zH (fJ H2 mt (-1));have v3:=(VH W2 T2).2.1;go_wp2_with fail
 (with_reducible refine FO.out.mono ?_);rintro e Wf ⟨rfl,hf,ff⟩;have HF:=zH (And.intro hf ff);clear v3 FO hf ff;go_wp2;go_ret;rw[E.out];exact⟨q.noYes,_,[],rfl,HF.1,(F2.tT).trans HF.2,OwnMs.nil _ _ _,rfl⟩
theorem w_ [Old] (h:DNs X w b n q) (m:MV) (hk6:m.kind=6) (hnlt:¬n.tm<m.tm) (hlt:m.tm<n.tm) (hcf:0<n.conf.length∧n.conf.length≤12) (hpos:∀x∈n.conf,0≤x∧x≤15) (hnx:∀y∈n.next,y+1<18446744073709551616) (hmx:∀y∈n.mat,y+1<18446744073709551616) (hix:m.index+1<18446744073709551616) (hpv1:m.kind=6→m.prev+1<18446744073709551616) (hl:n.log.last+1<18446744073709551616) (hle:n.log.es.length≤900000):
 Calls Tryz.prog 15 #[.pointer (some ⟨b,0,none⟩),.agg (cM m)] w fun e w'=>gQ X w b (n.onAcked m.ms) e w':=by
 refine kXu ?_;intro W1 hW1 F1 g0 hg0 X1 H HG0 gb me hme ro hro tm htm s hs mt hmt ix hixx pv hpv ok hok HL
 have VH:Hid (∀W:World,W.heap[g0]? = some (.cells (cM m) 32 (0,0))→W.cell? ⟨g0,1,none⟩=some (.int .i64 s)∧W.cell? ⟨g0,3,none⟩=some (.int .u64 (mt:Nat))∧W.cell? ⟨g0,4,none⟩=some (.int .u64 (ix:Nat))∧W.cell? ⟨g0,5,none⟩=some (.int .u64 (pv:Nat))∧W.cell? ⟨g0,7,none⟩=some (.bool ok)):=fun W t=>by exact mQr
 refine k7m ?_;intro v0 y6 v3;refine kpq ?_;intro gl g1
 have E:Hid (n.onAcked m.ms=(n,[])):=by exact mld
 unfold cM at hW1 ⊢;clear hk6 hnlt h hme hro htm hs hmt hixx hpv hok hcf hpos hnx hmx hix hpv1 hl hle hlt;go_enter Tryz.func15,Tryz.ntmps15
 go_wp2_with fail
 try rw[hW1]
 try rw[HG0.out]
 clear hW1 hg0 v0;go_quiet (fail)
 clear y6 v3 gl;have UQ:Hid (FT W1 (W1.drewN nq)):=(Fr.refl _ W1).drewN nq;generalize W1.drewN nq=W2 at UQ ⊢;refine k2N ?_;intro F2 H2 T2 y6 y2 y0 v3 v1;go_wp2_with fail
 go_quiet (fail)
 clear y6 y2 y0 v3 v1 g1;have UQ2:Hid (FT W2 (W2.drewN nq)):=(Fr.refl _ W2).drewN nq;generalize W2.drewN nq=W3 at UQ2 ⊢;refine kbs ?_;intro F3 H3 T3;go_wp2;go_ret;rw[E.out];exact⟨q,_,[],rfl,H3,F3.tT,OwnMs.nil _ _ _,rfl⟩
theorem wy [Old] (h:DNs X w b n q) (m:MV) (hk6:m.kind=6) (hnlt:¬n.tm<m.tm) (hlt:¬m.tm<n.tm) (hr:n.role≠3) (hcf:0<n.conf.length∧n.conf.length≤12) (hpos:∀x∈n.conf,0≤x∧x≤15) (hnx:∀y∈n.next,y+1<18446744073709551616) (hmx:∀y∈n.mat,y+1<18446744073709551616) (hix:m.index+1<18446744073709551616) (hpv1:m.kind=6→m.prev+1<18446744073709551616) (hl:n.log.last+1<18446744073709551616) (hle:n.log.es.length≤900000):
 Calls Tryz.prog 15 #[.pointer (some ⟨b,0,none⟩),.agg (cM m)] w fun e w'=>gQ X w b (n.onAcked m.ms) e w':=by
 refine kXu ?_;intro W1 hW1 F1 g0 hg0 X1 H HG0 gb me hme ro hro tm htm s hs mt hmt ix hixx pv hpv ok hok HL
 have VH:Hid (∀W:World,W.heap[g0]? = some (.cells (cM m) 32 (0,0))→W.cell? ⟨g0,1,none⟩=some (.int .i64 s)∧W.cell? ⟨g0,3,none⟩=some (.int .u64 (mt:Nat))∧W.cell? ⟨g0,4,none⟩=some (.int .u64 (ix:Nat))∧W.cell? ⟨g0,5,none⟩=some (.int .u64 (pv:Nat))∧W.cell? ⟨g0,7,none⟩=some (.bool ok)):=fun W t=>by exact mQr
 refine koo ?_;intro v0 y6 v3 gl g1;have g2:(ro==3)=false:=by rw[←hro];simpa using hr
 have g3:(ro != 3)=true:=by rw[bne,g2];rfl
 have E:Hid (n.onAcked m.ms=(n,[])):=by exact mEh
 unfold cM at hW1 ⊢;clear hk6 hnlt h hme hro htm hs hmt hixx hpv hok hcf hpos hnx hmx hix hpv1 hl hle hlt hr;go_enter Tryz.func15,Tryz.ntmps15
 go_wp2_with fail
 try rw[hW1]
 try rw[HG0.out]
 clear hW1 hg0 v0;go_quiet (fail)
 clear y6 v3 gl;have UQ:Hid (FT W1 (W1.drewN nq)):=(Fr.refl _ W1).drewN nq;generalize W1.drewN nq=W2 at UQ ⊢;refine k2N ?_;intro F2 H2 T2 y6 y2 y0 v3 v1;go_wp2_with fail
 go_quiet (fail)
 clear y6 y2 y0 v3 v1 g1 g2 g3;have UQ2:Hid (FT W2 (W2.drewN nq)):=(Fr.refl _ W2).drewN nq;generalize W2.drewN nq=W3 at UQ2 ⊢;refine kbs ?_;intro F3 H3 T3;go_wp2;go_ret;rw[E.out];exact⟨q,_,[],rfl,H3,F3.tT,OwnMs.nil _ _ _,rfl⟩
theorem xZ [Old] (h:DNs X w b n q) (m:MV) (hk6:m.kind=6) (hnlt:¬n.tm<m.tm) (hlt:¬m.tm<n.tm) (hr:n.role=3) (hx:m.src=n.me) (hcf:0<n.conf.length∧n.conf.length≤12) (hpos:∀x∈n.conf,0≤x∧x≤15) (hnx:∀y∈n.next,y+1<18446744073709551616) (hmx:∀y∈n.mat,y+1<18446744073709551616) (hix:m.index+1<18446744073709551616) (hpv1:m.kind=6→m.prev+1<18446744073709551616) (hl:n.log.last+1<18446744073709551616) (hle:n.log.es.length≤900000):
 Calls Tryz.prog 15 #[.pointer (some ⟨b,0,none⟩),.agg (cM m)] w fun e w'=>gQ X w b (n.onAcked m.ms) e w':=by
 refine kXu ?_;intro W1 hW1 F1 g0 hg0 X1 H HG0 gb me hme ro hro tm htm s hs mt hmt ix hixx pv hpv ok hok HL
 have VH:Hid (∀W:World,W.heap[g0]? = some (.cells (cM m) 32 (0,0))→W.cell? ⟨g0,1,none⟩=some (.int .i64 s)∧W.cell? ⟨g0,3,none⟩=some (.int .u64 (mt:Nat))∧W.cell? ⟨g0,4,none⟩=some (.int .u64 (ix:Nat))∧W.cell? ⟨g0,5,none⟩=some (.int .u64 (pv:Nat))∧W.cell? ⟨g0,7,none⟩=some (.bool ok)):=fun W t=>by exact mQr
 refine koo ?_;intro v0 y6 v3 gl g1;obtain rfl:ro=3:=by rw[←hro];exact hr
 obtain rfl:s=me:=by rw[←hs,←hme];exact hx
 have g2:(s==s)=true:=by simp
 have E:Hid (n.onAcked m.ms=(n,[])):=by exact mJn
 unfold cM at hW1 ⊢;clear hk6 hnlt h hme hro htm hs hmt hixx hpv hok hcf hpos hnx hmx hix hpv1 hl hle hlt hr hx;go_enter Tryz.func15,Tryz.ntmps15
 go_wp2_with fail
 try rw[hW1]
 try rw[HG0.out]
 clear hW1 hg0 v0;go_quiet (fail)
 clear y6 v3 gl;have UQ:Hid (FT W1 (W1.drewN nq)):=(Fr.refl _ W1).drewN nq;generalize W1.drewN nq=W2 at UQ ⊢;refine kiq ?_;intro F2 H2 T2 y6 y2 y0 v3 v1;go_wp2_with fail
 go_quiet (fail)
 clear y6 y2 y0 v3 v1 g1 g2;have UQ2:Hid (FT W2 (W2.drewN nq)):=(Fr.refl _ W2).drewN nq;generalize W2.drewN nq=W3 at UQ2 ⊢;refine kbs ?_;intro F3 H3 T3;go_wp2;go_ret;rw[E.out];exact⟨q,_,[],rfl,H3,F3.tT,OwnMs.nil _ _ _,rfl⟩
theorem xX [Old] (h:DNs X w b n q) (m:MV) (hk6:m.kind=6) (hnlt:¬n.tm<m.tm) (hlt:¬m.tm<n.tm) (hr:n.role=3) (hx:m.src≠n.me) (h16:m.src<0) (hcf:0<n.conf.length∧n.conf.length≤12) (hpos:∀x∈n.conf,0≤x∧x≤15) (hnx:∀y∈n.next,y+1<18446744073709551616) (hmx:∀y∈n.mat,y+1<18446744073709551616) (hix:m.index+1<18446744073709551616) (hpv1:m.kind=6→m.prev+1<18446744073709551616) (hl:n.log.last+1<18446744073709551616) (hle:n.log.es.length≤900000):
 Calls Tryz.prog 15 #[.pointer (some ⟨b,0,none⟩),.agg (cM m)] w fun e w'=>gQ X w b (n.onAcked m.ms) e w':=by
 refine kXu ?_;intro W1 hW1 F1 g0 hg0 X1 H HG0 gb me hme ro hro tm htm s hs mt hmt ix hixx pv hpv ok hok HL
 have VH:Hid (∀W:World,W.heap[g0]? = some (.cells (cM m) 32 (0,0))→W.cell? ⟨g0,1,none⟩=some (.int .i64 s)∧W.cell? ⟨g0,3,none⟩=some (.int .u64 (mt:Nat))∧W.cell? ⟨g0,4,none⟩=some (.int .u64 (ix:Nat))∧W.cell? ⟨g0,5,none⟩=some (.int .u64 (pv:Nat))∧W.cell? ⟨g0,7,none⟩=some (.bool ok)):=fun W t=>by exact mQr
 refine koo ?_;intro v0 y6 v3 gl g1;obtain rfl:ro=3:=by rw[←hro];exact hr
 refine krq ?_;intro g2;have g3:s<0:=by rw[←hs];exact h16
 have E:Hid (n.onAcked m.ms=(n,[])):=by show _=_;unfold Nd.onAcked;rw[if_neg (fun e=>e hk6),if_neg (show ¬n.tm<m.ms.tm from hnlt),if_pos (show m.ms.tm<n.tm∨n.role≠3∨m.ms.src=n.me∨m.ms.src<0∨15<m.ms.src from Or.inr (Or.inr (Or.inr (Or.inl h16))))]
 unfold cM at hW1 ⊢;clear hk6 hnlt h hme hro htm hs hmt hixx hpv hok hcf hpos hnx hmx hix hpv1 hl hle hlt hr hx h16;go_enter Tryz.func15,Tryz.ntmps15
 go_wp2_with fail
 try rw[hW1]
 try rw[HG0.out]
 clear hW1 hg0 v0;go_quiet (fail)
 clear y6 v3 gl;have UQ:Hid (FT W1 (W1.drewN nq)):=(Fr.refl _ W1).drewN nq;generalize W1.drewN nq=W2 at UQ ⊢;refine k0z ?_;intro F2 H2 T2 y6 y2 y0 v3 v1;go_wp2_with fail
 go_quiet (fail)
 clear y6 y2 y0 v3 v1 g1 g2 g3;have UQ2:Hid (FT W2 (W2.drewN nq)):=(Fr.refl _ W2).drewN nq;generalize W2.drewN nq=W3 at UQ2 ⊢;refine kbs ?_;intro F3 H3 T3;go_wp2;go_ret;rw[E.out];exact⟨q,_,[],rfl,H3,F3.tT,OwnMs.nil _ _ _,rfl⟩
theorem xQ [Old] (h:DNs X w b n q) (m:MV) (hk6:m.kind=6) (hnlt:¬n.tm<m.tm) (hlt:¬m.tm<n.tm) (hr:n.role=3) (hx:m.src≠n.me) (h0:¬m.src<0) (h16:15<m.src) (hcf:0<n.conf.length∧n.conf.length≤12) (hpos:∀x∈n.conf,0≤x∧x≤15) (hnx:∀y∈n.next,y+1<18446744073709551616) (hmx:∀y∈n.mat,y+1<18446744073709551616) (hix:m.index+1<18446744073709551616) (hpv1:m.kind=6→m.prev+1<18446744073709551616) (hl:n.log.last+1<18446744073709551616) (hle:n.log.es.length≤900000):
 Calls Tryz.prog 15 #[.pointer (some ⟨b,0,none⟩),.agg (cM m)] w fun e w'=>gQ X w b (n.onAcked m.ms) e w':=by
 refine kXu ?_;intro W1 hW1 F1 g0 hg0 X1 H HG0 gb me hme ro hro tm htm s hs mt hmt ix hixx pv hpv ok hok HL
 have VH:Hid (∀W:World,W.heap[g0]? = some (.cells (cM m) 32 (0,0))→W.cell? ⟨g0,1,none⟩=some (.int .i64 s)∧W.cell? ⟨g0,3,none⟩=some (.int .u64 (mt:Nat))∧W.cell? ⟨g0,4,none⟩=some (.int .u64 (ix:Nat))∧W.cell? ⟨g0,5,none⟩=some (.int .u64 (pv:Nat))∧W.cell? ⟨g0,7,none⟩=some (.bool ok)):=fun W t=>by exact mQr
 refine koo ?_;intro v0 y6 v3 gl g1;obtain rfl:ro=3:=by rw[←hro];exact hr
 refine krq ?_;intro g2;have g3:¬s<0:=by rw[←hs];exact h0
 have g4:15<s:=by rw[←hs];exact h16
 have E:Hid (n.onAcked m.ms=(n,[])):=by show _=_;unfold Nd.onAcked;rw[if_neg (fun e=>e hk6),if_neg (show ¬n.tm<m.ms.tm from hnlt),if_pos (show m.ms.tm<n.tm∨n.role≠3∨m.ms.src=n.me∨m.ms.src<0∨15<m.ms.src from Or.inr (Or.inr (Or.inr (Or.inr h16))))]
 unfold cM at hW1 ⊢;clear hk6 hnlt h hme hro htm hs hmt hixx hpv hok hcf hpos hnx hmx hix hpv1 hl hle hlt hr hx h0 h16;go_enter Tryz.func15,Tryz.ntmps15
 go_wp2_with fail
 try rw[hW1]
 try rw[HG0.out]
 clear hW1 hg0 v0;go_quiet (fail)
 clear y6 v3 gl;have UQ:Hid (FT W1 (W1.drewN nq)):=(Fr.refl _ W1).drewN nq;generalize W1.drewN nq=W2 at UQ ⊢;refine k0z ?_;intro F2 H2 T2 y6 y2 y0 v3 v1;go_wp2_with fail
 go_quiet (fail)
 clear y6 y2 y0 v3 v1 g1 g2 g3 g4;have UQ2:Hid (FT W2 (W2.drewN nq)):=(Fr.refl _ W2).drewN nq;generalize W2.drewN nq=W3 at UQ2 ⊢;refine kbs ?_;intro F3 H3 T3;go_wp2;go_ret;rw[E.out];exact⟨q,_,[],rfl,H3,F3.tT,OwnMs.nil _ _ _,rfl⟩
end
theorem k1I {p q:Prop} (k:q) (h:q→p:=by
 have F5:=zH (UD.trans HF);have H5:=zH (H4.tt F5);have an0:=H5.nxt (Fr.refl _ W) t HT;have an1:=H5.free (Fr.refl _ W) (12+t);obtain⟨h6,f6⟩:=H5.setN t kt1 HT;obtain⟨WN,hWN⟩:=zE (W.setCell ⟨b,12+t,none⟩ (.int .u64 (kt1:Nat)));have hWN':W.setCell ⟨b,12+t,none⟩ (d8 kt1)=WN:=hWN;intro kk0;revert hWN';revert hWN;revert WN;revert f6;revert h6;revert an1;revert an0;revert H5;revert F5;exact kk0):p:=h k
theorem kDR {p q:Prop} (k:q) (h:q→p:=by
 have H6:=zH h6;have T6:Hid (WN.heap[g0]? = some (.cells (cM m) 32 (0,0))):=f6.keep _ _ (F5.keep _ _ T4 trivial) gb;have FP6:Hid (Fr (fun c _=>c≠b) w WN):=((F4.trans F5).tT).trans f6;intro kk0;revert FP6;revert T6;revert H6;exact kk0):p:=h k
theorem mCb {p:Prop} (h:p:=by
 have TOC1:=zH (TOC W6 UQ5);clear v7 TOC;go_wp2_with fail
 (with_reducible refine TOC1.out.mono ?_);rintro e W7 ⟨⟨v,mvs,rfl,o7,e7⟩,f7⟩;have HH:=zH (And.intro o7 (And.intro e7 f7));clear o7 e7 f7 TOC1;go_wp2;go_ret;rw[E.out];exact⟨q,_,mvs,rfl,(H7.tt UQ5).tt HH.2.2,(FP7.trans (UQ5.tT)).trans (HH.2.2.tT),HH.1.lo (FP7.trans (UQ5.tT)).size,HH.2.1⟩):p:=h
theorem m7G {p:Prop} (h:p:=by
 have T7:Hid (WM.heap[g0]? = some (.cells (cM m) 32 (0,0))):=f7.keep _ _ T6 gb;have FP7:Hid (Fr (fun c _=>c≠b) w WM):=FP6.trans f7;clear h7 f7 hWM';have TOC:=zH (fun W' (f:FT WM W')=>TO W' (H7.tt f));have v7:=(VH WM T7).2.2.2.2;clear CC LAST TO;refine wpN 11 rfl fun K' hK=>?_
 skip
 go_simp;refine hK _ _ ?_;clear hK K';refine wpN 12 rfl fun K' hK=>?_
 skip
 go_simp;refine hK _ _ ?_;clear hK K';refine wpF ?_
 try rw[hWN]
 clear hWN an0 an1;go_wp2_with fail
 try rw[hWM]
 clear hWM z12 u12;go_quiet (fail)
 have UQ5:Hid (FT WM (WM.drewN nq)):=(Fr.refl _ WM).drewN nq;generalize WM.drewN nq=W6 at UQ5 ⊢;exact mCb):p:=h
theorem mBo {p:Prop} (h:p:=by
 rw[show fi=kt1 by have:=HFI.out;have:=HPP.out;omega] at HNA;clear hq
 have H7:Hid (DNs X WN b nA q):=by show DNs X WN b nA q;rw[←HNA.out];exact H6
 have T7:=T6;have FP7:=FP6;have TOC:=zH (fun W' (f:FT WN W')=>TO W' (H7.tt f));have v7:=(VH WN T7).2.2.2.2;clear CC LAST TO;refine wpN 11 rfl fun K' hK=>?_
 skip
 go_simp;refine hK _ _ ?_;clear hK K';refine wpN 12 rfl fun K' hK=>?_
 skip
 go_simp;refine hK _ _ ?_;clear hK K';refine wpF ?_
 try rw[hWN]
 clear hWN an0 an1;go_wp2_with fail
 clear z12 u12;go_quiet (fail)
 have UQ5:Hid (FT WN (WN.drewN nq)):=(Fr.refl _ WN).drewN nq;generalize WN.drewN nq=W6 at UQ5 ⊢;exact mCb):p:=h
theorem mh7 {p:Prop} (h:p:=by
 iterate 11
  refine bY.q rfl rfl rfl (kQQ ?_) ?_
  ·intro xs W HF K' hK;obtain⟨y8,y9,y10,yn,ym⟩:=CC W4 W n H4 rfl (UD.trans HF);have V:=VH W ((UD.trans HF).keep _ _ T4 trivial);have v4:=V.2.2.1;have v5:=V.2.2.2.1;have v7:=V.2.2.2.2;clear V;rw[HNK.out.2] at ym;exact mD8
 exact m36):p:=h
theorem mkC {p:Prop} (h:p:=by
 rw[h6.nxt (Fr.refl _ WN) t HT.out];show some (d8 ((n.next.set t kt1).getD t 0))=_;rw[jV (by have:=H4.out.nl;have:=HT.out;omega),if_pos rfl]):p:=h
section
variable {X:Nat→Prop} {w w':World} {b:Nat} {n n':Nd} {q q':DV}
theorem xJ [Old] (h:DNs X w b n q) (m:MV) (hk6:m.kind=6) (hnlt:¬n.tm<m.tm) (hlt:¬m.tm<n.tm) (hr:n.role=3) (hx:m.src≠n.me) (t:Nat) (ht:t<16) (hst:m.src=(t:Nat)) (ho:m.ok=false) (hcf:0<n.conf.length∧n.conf.length≤12) (hpos:∀x∈n.conf,0≤x∧x≤15) (hnx:∀y∈n.next,y+1<18446744073709551616) (hmx:∀y∈n.mat,y+1<18446744073709551616) (hix:m.index+1<18446744073709551616) (hpv1:m.kind=6→m.prev+1<18446744073709551616) (hl:n.log.last+1<18446744073709551616) (hle:n.log.es.length≤900000):
 Calls Tryz.prog 15 #[.pointer (some ⟨b,0,none⟩),.agg (cM m)] w fun e w'=>gQ X w b (n.onAcked m.ms) e w':=by
 refine kXu ?_;intro W1 hW1 F1 g0 hg0 X1 H HG0 gb me hme ro hro tm htm s hs mt hmt ix hixx pv hpv ok hok HL
 have VH:Hid (∀W:World,W.heap[g0]? = some (.cells (cM m) 32 (0,0))→W.cell? ⟨g0,1,none⟩=some (.int .i64 s)∧W.cell? ⟨g0,3,none⟩=some (.int .u64 (mt:Nat))∧W.cell? ⟨g0,4,none⟩=some (.int .u64 (ix:Nat))∧W.cell? ⟨g0,5,none⟩=some (.int .u64 (pv:Nat))∧W.cell? ⟨g0,7,none⟩=some (.bool ok)):=fun W t=>by exact mQr
 refine koo ?_;intro v0 y6 v3 gl g1;obtain rfl:ro=3:=by rw[←hro];exact hr
 refine krq ?_;intro g2;obtain rfl:s=(t:Nat):=by rw[←hs];exact hst
 obtain rfl:ok=false:=by rw[←hok];exact ho
 refine kuv ?_;intro ht0 ht15 bs hbs bt hbt ae le ce hve hlel hel2 hesl hlg hl2 LST hLST hlast LAST HQ nt hnt kt hkt
 have hkt64:kt+1<18446744073709551616:=by exact mmQ
 have ht2:((t:Nat):Int)<16:=by omega
 have E0:n.onAcked m.ms=if m.ok=true∧(n.acked m.ms).log.last<(n.acked m.ms).next.getD t 0 then(n.acked m.ms,[]) else(n.acked m.ms,(n.acked m.ms).sendTo (t:Nat)):=by exact mFs
 have CC:Hid (∀W W' nA,DNs X W b nA q→nA.log=n.log→FT W W'→W'.cell? ⟨b,8,none⟩=some (.int .u64 (bs:Nat))∧W'.cell? ⟨b,9,none⟩=some (.int .u64 (bt:Nat))∧W'.cell? ⟨b,10,none⟩=some (.slice ae le ce)∧W'.cell? ⟨b,12+t,none⟩=some (.int .u64 (nA.next.getD t 0:Nat))∧W'.cell? ⟨b,28+t,none⟩=some (.int .u64 (nA.mat.getD t 0:Nat))):=fun W W' nA hA hlA f=>by exact mRA
 have HT:=zH ht;have HNK:=zH (And.intro hnt hkt);have hpv2:pv+1<18446744073709551616:=by have:=hpv1 hk6;omega
 refine kxU ?_;intro wp1 wk1;obtain⟨pv1,hpv11⟩:=zE (pv+1);obtain⟨kt1,hkt1⟩:=zE (kt+1);rw[hpv11] at wp1;rw[hkt1] at wk1;obtain⟨fi,hmxx⟩:=zE (max kt1 (min ix pv1));have HFI:=zH hmxx;obtain⟨nA,hnA⟩:∃x:Nd,{ n with next:=n.next.set t fi }=x:=⟨_,rfl⟩
 have hac:n.acked m.ms=nA:=by
  unfold Nd.acked;have e:m.ms.src.toNat=t:=by show m.src.toNat=t;rw[hst];rfl
  rw[if_pos (show m.ms.ok=false from ho),e,hkt,show m.ms.index=ix from hixx,show m.ms.prev=pv from hpv,hpv11,hkt1,hmxx,hnA]
 have E:Hid (n.onAcked m.ms=(nA,nA.sendTo (t:Nat))):=by show _=_;rw[E0,if_neg (fun e=>by rw[ho] at e;cases e.1),hac]
 have TO:Hid (∀W,DNs X W b nA q→Calls Tryz.prog 17 #[.pointer (some ⟨b,0,none⟩),.int .i64 (t:Nat)] W fun e w'=>jj X W (nA.sendTo (t:Nat)) e w'):=fun W hA=>jy hA (t:Nat) (fun y hy=>by
  rw[←hnA] at hy;rcases List.mem_or_eq_of_mem_set hy with hy | hy
  ·have:=hnx y hy;omega
  ·omega) (by rw[←hnA];exact hl) (by rw[←hnA];exact hle)
 have HNA:=zH hnA;unfold cM at hW1 ⊢;clear hk6 hnlt hlt hr hx hst ho hnt hkt hbs hbt hve hlel hel2 hesl hlg hl2 hLST hlast hkt64 E0 hpv2 hpv11 hkt1 hmxx hnA hac ht h hme hro htm hs hmt hixx hpv hok hcf hpos hnx hmx hix hpv1 hl hle;go_enter Tryz.func15,Tryz.ntmps15
 go_wp2_with fail
 try rw[hW1]
 try rw[HG0.out]
 clear hW1 hg0 v0;go_quiet (fail)
 clear y6 v3 gl;have UQ:Hid (FT W1 (W1.drewN nq)):=(Fr.refl _ W1).drewN nq;generalize W1.drewN nq=W2 at UQ ⊢;refine k0z ?_;intro F2 H2 T2 y6 y2 y0 v3 v1;go_wp2_with fail
 go_quiet (fail)
 clear y6 y2 y0 v3 v1 g1 g2 ht0 ht15;have UQ2:Hid (FT W2 (W2.drewN nq)):=(Fr.refl _ W2).drewN nq;generalize W2.drewN nq=W3 at UQ2 ⊢;refine kbs ?_;intro F3 H3 T3;have v1:=(VH W3 T3).1;have v7:=(VH W3 T3).2.2.2.2;go_wp2_with fail
 clear v1;go_quiet (fail)
 clear v7;have UQ3:Hid (FT W3 (W3.drewN nq)):=(Fr.refl _ W3).drewN nq;generalize W3.drewN nq=W4 at UQ3 ⊢;have F4:=zH (F3.trans UQ3);have H4:=zH (H3.tt UQ3);have T4:Hid (W4.heap[g0]? = some (.cells (cM m) 32 (0,0))):=UQ3.keep _ _ T3 trivial;have UD:Hid (FT W4 W4.drew):=(Fr.refl _ _).drew;have v7:=(VH W4 T4).2.2.2.2;have v4:=(VH W4 T4).2.2.1;have v5:=(VH W4 T4).2.2.2.1;by_cases hp:pv1<ix
 ·have gp:decide (pv1<ix)=true:=decide_eq_true hp;have HPP:=zH hp;clear hp;go_wp2_with fail
  clear v7 v4 v5 gp;refine wpR [(111,0),(112,1),(113,2),(114,3),(115,4),(116,5),(117,6),(118,7),(119,8),(120,9),(121,10),(122,11)] [(0,[]),(1,[]),(2,[]),(3,[]),(4,[2]),(5,[4]),(6,[3,5]),(7,[6]),(8,[7]),(9,[0]),(10,[9])] (ckR [(0,.pointer (some ⟨b,0,none⟩)),(1,.int .i64 (t:Nat)),(2,.pointer (some ⟨b,0,none⟩)),(3,.int .i64 (t:Nat)),(4,.pointer (some ⟨b,0,none⟩)),(5,.pointer (some ⟨b,28,none⟩)),(6,.pointer (some ⟨b,28+t,none⟩)),(7,.int .u64 (kt:Nat)),(8,.int .u64 (kt1:Nat)),(9,.pointer (some ⟨b,0,none⟩)),(10,.pointer (some ⟨b,12,none⟩))] [] 11 0) 2 rfl ?cfall ?cfend
  case cfall=>exact mh7
  case cfend=>
   refine kEE ?_;intro xs W HF;refine k1I ?_;intro F5 H5 an0 an1 h6 f6 WN hWN hWN';rw[hWN'] at h6 f6;refine kDR ?_;intro H6 T6 FP6
   have z12:WN.cell? ⟨b,12+t,none⟩=some (.int .u64 (kt1:Nat)):=by exact mkC
   have u12:=h6.free (Fr.refl _ WN) (12+t);clear h6 f6 hWN';by_cases hq:kt1<pv1
   ·have gq:decide (kt1<pv1)=true:=decide_eq_true hq;rw[show fi=pv1 by have:=HFI.out;have:=HPP.out;omega] at HNA;clear hq;obtain⟨h7,f7⟩:=H6.setN t pv1 HT;obtain⟨WM,hWM⟩:=zE (WN.setCell ⟨b,12+t,none⟩ (.int .u64 (pv1:Nat)));have hWM':WN.setCell ⟨b,12+t,none⟩ (d8 pv1)=WM:=hWM;rw[hWM'] at h7 f7
    have H7:Hid (DNs X WM b nA q):=by show DNs X WM b nA q;rw[←HNA.out];have e:(n.next.set t kt1).set t pv1=n.next.set t pv1:=List.set_set ..;have h9:DNs X WM b { n with next:=(n.next.set t kt1).set t pv1 } q:=h7;rw[e] at h9;exact h9
    exact m7G
   ·have gq:decide (kt1<pv1)=false:=decide_eq_false hq;exact mBo
 ·have gp:decide (pv1<ix)=false:=decide_eq_false hp;have HPP:=zH hp;clear hp;go_wp2_with fail
  clear v7 v4 v5 gp;refine wpR [(111,0),(112,1),(113,2),(114,3),(115,4),(116,5),(117,6),(118,7),(119,8),(120,9),(121,10),(122,11)] [(0,[]),(1,[]),(2,[]),(3,[]),(4,[2]),(5,[4]),(6,[3,5]),(7,[6]),(8,[7]),(9,[0]),(10,[9])] (ckR [(0,.pointer (some ⟨b,0,none⟩)),(1,.int .i64 (t:Nat)),(2,.pointer (some ⟨b,0,none⟩)),(3,.int .i64 (t:Nat)),(4,.pointer (some ⟨b,0,none⟩)),(5,.pointer (some ⟨b,28,none⟩)),(6,.pointer (some ⟨b,28+t,none⟩)),(7,.int .u64 (kt:Nat)),(8,.int .u64 (kt1:Nat)),(9,.pointer (some ⟨b,0,none⟩)),(10,.pointer (some ⟨b,12,none⟩))] [] 11 0) 2 rfl ?cfall ?cfend
  case cfall=>exact mh7
  case cfend=>
   refine kEE ?_;intro xs W HF;refine k1I ?_;intro F5 H5 an0 an1 h6 f6 WN hWN hWN';rw[hWN'] at h6 f6;refine kDR ?_;intro H6 T6 FP6
   have z12:WN.cell? ⟨b,12+t,none⟩=some (.int .u64 (kt1:Nat)):=by exact mkC
   have u12:=h6.free (Fr.refl _ WN) (12+t);clear h6 f6 hWN';by_cases hq:kt1<ix
   ·have gq:decide (kt1<ix)=true:=decide_eq_true hq;rw[show fi=ix by have:=HFI.out;have:=HPP.out;omega] at HNA;clear hq;obtain⟨h7,f7⟩:=H6.setN t ix HT;obtain⟨WM,hWM⟩:=zE (WN.setCell ⟨b,12+t,none⟩ (.int .u64 (ix:Nat)));have hWM':WN.setCell ⟨b,12+t,none⟩ (d8 ix)=WM:=hWM;rw[hWM'] at h7 f7
    have H7:Hid (DNs X WM b nA q):=by show DNs X WM b nA q;rw[←HNA.out];have e:(n.next.set t kt1).set t ix=n.next.set t ix:=List.set_set ..;have h9:DNs X WM b { n with next:=(n.next.set t kt1).set t ix } q:=h7;rw[e] at h9;exact h9
    exact m7G
   ·have gq:decide (kt1<ix)=false:=decide_eq_false hq;exact mBo
end
section
variable {X:Nat→Prop} {w w':World} {b:Nat} {n n':Nd} {q q':DV}
theorem sZ [Old] (h:DNs X w b n q) (m:MV) (hk6:m.kind=6) (hnlt:¬n.tm<m.tm) (hlt:¬m.tm<n.tm) (hr:n.role=3) (hx:m.src≠n.me) (t:Nat) (ht:t<16) (hst:m.src=(t:Nat)) (ho:m.ok=true) (hil:m.index≤n.log.last) (hp:¬n.mat.getD t 0<m.index) (hcf:0<n.conf.length∧n.conf.length≤12) (hpos:∀x∈n.conf,0≤x∧x≤15) (hnx:∀y∈n.next,y+1<18446744073709551616) (hmx:∀y∈n.mat,y+1<18446744073709551616) (hix:m.index+1<18446744073709551616) (hpv1:m.kind=6→m.prev+1<18446744073709551616) (hl:n.log.last+1<18446744073709551616) (hle:n.log.es.length≤900000):
 Calls Tryz.prog 15 #[.pointer (some ⟨b,0,none⟩),.agg (cM m)] w fun e w'=>gQ X w b (n.onAcked m.ms) e w':=by
 refine kXu ?_;intro W1 hW1 F1 g0 hg0 X1 H HG0 gb me hme ro hro tm htm s hs mt hmt ix hixx pv hpv ok hok HL
 have VH:Hid (∀W:World,W.heap[g0]? = some (.cells (cM m) 32 (0,0))→W.cell? ⟨g0,1,none⟩=some (.int .i64 s)∧W.cell? ⟨g0,3,none⟩=some (.int .u64 (mt:Nat))∧W.cell? ⟨g0,4,none⟩=some (.int .u64 (ix:Nat))∧W.cell? ⟨g0,5,none⟩=some (.int .u64 (pv:Nat))∧W.cell? ⟨g0,7,none⟩=some (.bool ok)):=fun W t=>by exact mQr
 refine koo ?_;intro v0 y6 v3 gl g1;obtain rfl:ro=3:=by rw[←hro];exact hr
 refine krq ?_;intro g2;obtain rfl:s=(t:Nat):=by rw[←hs];exact hst
 obtain rfl:ok=true:=by rw[←hok];exact ho
 refine kuv ?_;intro ht0 ht15 bs hbs bt hbt ae le ce hve hlel hel2 hesl hlg hl2 LST hLST hlast LAST HQ nt hnt kt hkt
 have hkt64:kt+1<18446744073709551616:=by exact mmQ
 have ht2:((t:Nat):Int)<16:=by omega
 have E0:n.onAcked m.ms=if m.ok=true∧(n.acked m.ms).log.last<(n.acked m.ms).next.getD t 0 then(n.acked m.ms,[]) else(n.acked m.ms,(n.acked m.ms).sendTo (t:Nat)):=by exact mFs
 have CC:Hid (∀W W' nA,DNs X W b nA q→nA.log=n.log→FT W W'→W'.cell? ⟨b,8,none⟩=some (.int .u64 (bs:Nat))∧W'.cell? ⟨b,9,none⟩=some (.int .u64 (bt:Nat))∧W'.cell? ⟨b,10,none⟩=some (.slice ae le ce)∧W'.cell? ⟨b,12+t,none⟩=some (.int .u64 (nA.next.getD t 0:Nat))∧W'.cell? ⟨b,28+t,none⟩=some (.int .u64 (nA.mat.getD t 0:Nat))):=fun W W' nA hA hlA f=>by exact mRA
 refine kpu ?_;intro HT HNK hil2 gi;rw[hkt,hixx] at hp;have gp:decide (kt<ix)=false:=decide_eq_false hp;have hmxx:max kt ix=kt:=by omega
 obtain⟨mx1,hmx1⟩:=zE (kt+1);have wk1:IntKind.u64.wrap ((kt:Int)+1)=((mx1:Nat):Int):=by rw[IntKind.wrap_u64];omega
 obtain⟨n5,hn5⟩:∃x:Nd,{ n with mat:=n.mat.set t kt }=x:=⟨_,rfl⟩
 obtain⟨n6,hn6⟩:∃x:Nd,{ n with mat:=n.mat.set t kt,next:=n.next.set t mx1 }=x:=⟨_,rfl⟩
 obtain⟨nA,hnA⟩:∃x:Nd,n6.sure=x:=⟨_,rfl⟩
 have hac:n.acked m.ms=nA:=by exact mk0
 have hq6:n6.log=n.log∧n6.conf=n.conf∧n6.next=n.next.set t mx1∧n6.mat=n.mat.set t kt∧n5.log=n.log∧n5.next=n.next∧n5.mat=n.mat.set t kt:=by rw[←hn6,←hn5];exact⟨rfl,rfl,rfl,rfl,rfl,rfl,rfl⟩
 have hqA:nA.log=n6.log∧nA.next=n6.next:=by exact m5c
 refine kg6 ?_;intro SU NT hNT hnn hlA
 have E:Hid (n.onAcked m.ms=if LST<NT then(nA,[]) else(nA,nA.sendTo (t:Nat))):=by exact m0L
 have TO:Hid (∀W,DNs X W b nA q→Calls Tryz.prog 17 #[.pointer (some ⟨b,0,none⟩),.int .i64 (t:Nat)] W fun e w'=>jj X W (nA.sendTo (t:Nat)) e w'):=fun W hA=>jy hA (t:Nat) (fun y hy=>by
  rw[hqA.2,hq6.2.2.1] at hy;rcases List.mem_or_eq_of_mem_set hy with hy | hy
  ·have:=hnx y hy;omega
  ·omega) (by rw[hlA];exact hl) (by rw[hlA];exact hle)
 have HNA:Hid (nA.next.getD t 0=NT∧nA.log=n.log):=⟨hnn.symm,hlA⟩
 unfold cM at hW1 ⊢;have H56:=zH (And.intro hn5 (And.intro hn6 hq6));clear hk6 hnlt hlt hr hx hst ho hil hil2 hnt hkt hbs hbt hve hlel hel2 hesl hlg hl2 hLST hlast hkt64 E0 hac hqA hnn hNT hlA ht hp hmxx hmx1 hn5 hn6 hnA hq6 h hme hro htm hs hmt hixx hpv hok hcf hpos hnx hmx hix hpv1 hl hle;go_enter Tryz.func15,Tryz.ntmps15
 go_wp2_with fail
 try rw[hW1]
 try rw[HG0.out]
 clear hW1 hg0 v0;go_quiet (fail)
 clear y6 v3 gl;have UQ:Hid (FT W1 (W1.drewN nq)):=(Fr.refl _ W1).drewN nq;generalize W1.drewN nq=W2 at UQ ⊢;refine k0z ?_;intro F2 H2 T2 y6 y2 y0 v3 v1;go_wp2_with fail
 go_quiet (fail)
 clear y6 y2 y0 v3 v1 g1 g2 ht0 ht15;have UQ2:Hid (FT W2 (W2.drewN nq)):=(Fr.refl _ W2).drewN nq;generalize W2.drewN nq=W3 at UQ2 ⊢;refine kbs ?_;intro F3 H3 T3;refine kHL ?_;intro UD v1;go_wp2_with fail
 clear v1;refine L4 [(56,0),(57,1),(58,2),(59,3),(60,4),(61,5),(62,6),(63,7),(64,8),(65,9),(66,10),(67,11)] [(0,[]),(1,[0]),(2,[1]),(3,[2]),(4,[2,3]),(5,[2]),(6,[2,5]),(7,[2,6]),(8,[2,7]),(10,[2,4,9]),(11,[2,10]),(9,[2,8])] (ckR [(0,.pointer (some ⟨g0,7,none⟩)),(1,.bool true),(2,.bool true),(3,.pointer (some ⟨g0,4,none⟩)),(4,.int .u64 (ix:Nat)),(5,.pointer (some ⟨b,0,none⟩)),(6,.pointer (some ⟨b,0,none⟩)),(7,.pointer (some ⟨b,8,none⟩)),(8,.agg #[.int .u64 (bs:Nat),.int .u64 (bt:Nat),.slice ae le ce]),(9,.int .u64 (LST:Nat)),(10,.bool true),(11,.bool true)] [] 12 0) rfl ?cfall ?cfend
 case cfall=>exact mVQ
 case cfend=>
  refine kEE ?_;intro xs W HF;refine kHf ?_;intro F4 H4 T4;have FP4:Hid (Fr (fun c _=>c≠b) w W):=(F3.trans F4).tT;have HL16:Hid (n.next.length=16∧n.mat.length=16):=⟨H4.nl,H4.ml⟩
  obtain⟨W4,hW4⟩:=zE W;rw[hW4] at HF F4 H4 T4 FP4 ⊢;clear hW4 gi;have v4:=(VH W4 T4).2.2.1;have ym:=(CC W4 W4 n H4 rfl (Fr.refl _ _)).2.2.2.2;rw[HNK.out.2] at ym;go_wp2_with fail
  go_quiet (fail)
  clear v4 ym gp;have UQ4:Hid (FT W4 (W4.drewN nq)):=(Fr.refl _ W4).drewN nq;generalize W4.drewN nq=W5 at UQ4 ⊢;refine k7F ?_;intro H5 T5 FP5
  have H7:Hid (DNs X W5 b n5 q):=by
   show DNs X W5 b n5 q;rw[←H56.out.1]
   have e:n.mat.set t kt=n.mat:=by
    have hl9:t<n.mat.length:=by rw[HL16.out.2];exact HT.out
    have e2:kt=n.mat[t]:=by rw[←HNK.out.2,getD_get hl9]
    rw[e2];exact List.set_getElem_self _
   rw[e];exact H5.out
  obtain⟨W7,hW7⟩:=zE W5;rw[hW7] at H7 H5 T5 FP5 UQ4 ⊢;have T7:=T5;have FP7:=FP5;clear hW7;have DUM:True:=trivial;clear DUM;have UG:Hid (FT W7 W7.drew):=(Fr.refl _ _).drew;go_wp2_with fail
  refine wpR [(84,0),(85,1),(86,2),(87,3),(88,4),(89,5),(90,6),(91,7),(92,8),(93,9),(94,10),(95,11)] [(0,[]),(1,[]),(2,[]),(3,[]),(4,[2]),(5,[4]),(6,[3,5]),(7,[6]),(8,[7]),(9,[0]),(10,[9])] (ckR [(0,.pointer (some ⟨b,0,none⟩)),(1,.int .i64 (t:Nat)),(2,.pointer (some ⟨b,0,none⟩)),(3,.int .i64 (t:Nat)),(4,.pointer (some ⟨b,0,none⟩)),(5,.pointer (some ⟨b,28,none⟩)),(6,.pointer (some ⟨b,28+t,none⟩)),(7,.int .u64 (kt:Nat)),(8,.int .u64 (mx1:Nat)),(9,.pointer (some ⟨b,0,none⟩)),(10,.pointer (some ⟨b,12,none⟩))] [] 11 0) 2 rfl ?cfall ?cfend
  case cfall=>exact m5i
  case cfend=>exact mnR
end
end Go.Proofs.YtmjccpfchhnfhaaGreat
