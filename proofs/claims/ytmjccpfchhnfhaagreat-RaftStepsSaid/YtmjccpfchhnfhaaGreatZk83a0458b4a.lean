/- Texts of the proofs, part 34: what the functions that they reach do, walked; no conditions beyond those that each states. -/
import Derived.Test.YtmjccpfchhnfhaaGreatZk435f7536b0
set_option linter.unusedVariables false
set_option linter.unusedSimpArgs false
set_option maxRecDepth 100000
set_option maxHeartbeats 8000000
namespace Go.Proofs.YtmjccpfchhnfhaaGreat
open Go.RowKit
section
variable {X:Nat→Prop} {w w':World} {b:Nat} {n n':Nd} {q q':DV}
theorem r_ [Old] (h:DNs X w b n q) (m:MV) (hk6:m.kind=6) (hnlt:¬n.tm<m.tm) (hlt:¬m.tm<n.tm) (hr:n.role=3) (hx:m.src≠n.me) (t:Nat) (ht:t<16) (hst:m.src=(t:Nat)) (ho:m.ok=true) (hil:m.index≤n.log.last) (hp:¬n.mat.getD t 0<m.index) (hcf:0<n.conf.length∧n.conf.length≤12) (hpos:∀x∈n.conf,0≤x∧x≤15) (hnx:∀y∈n.next,y+1<18446744073709551616) (hmx:∀y∈n.mat,y+1<18446744073709551616) (hix:m.index+1<18446744073709551616) (hpv1:m.kind=6→m.prev+1<18446744073709551616) (hl:n.log.last+1<18446744073709551616) (hle:n.log.es.length≤900000):
 Calls Tryz.prog 15 #[.pointer (some ⟨b,0,none⟩),.agg (cM m)] w fun e w'=>jQ X w b (n.onAcked m.ms) e w':=by
 obtain⟨W1,hW1,F1,X1⟩:=gW w m;obtain⟨g0,hg0⟩:=zE w.heap.size;rw[hg0] at X1;have H:=zH h;have HG0:=zH hg0;have gb:Hid (g0≠b):=by have:=bZ h.top;show _≠_;omega
 obtain⟨me,hme⟩:=zE n.me;obtain⟨ro,hro⟩:=zE n.role;obtain⟨tm,htm⟩:=zE n.tm;obtain⟨s,hs⟩:=zE m.src;obtain⟨mt,hmt⟩:=zE m.tm;obtain⟨ix,hixx⟩:=zE m.index;obtain⟨pv,hpv⟩:=zE m.prev;obtain⟨ok,hok⟩:=zE m.ok;have HL:=zH (And.intro hme (And.intro hro (And.intro htm (And.intro hs (And.intro hmt (And.intro hixx (And.intro hpv hok)))))))
 have VH:Hid (∀W:World,W.heap[g0]? = some (.cells (cM m) 32 (0,0))→W.cell? ⟨g0,1,none⟩=some (.int .i64 s)∧W.cell? ⟨g0,3,none⟩=some (.int .u64 (mt:Nat))∧W.cell? ⟨g0,4,none⟩=some (.int .u64 (ix:Nat))∧W.cell? ⟨g0,5,none⟩=some (.int .u64 (pv:Nat))∧W.cell? ⟨g0,7,none⟩=some (.bool ok)):=fun W t=>by obtain⟨v0,v1,v2,v3,v4,v5,v6,v7,v8,v9⟩:=bq t;exact⟨by rw[v1,hs],by rw[v3,hmt],by rw[v4,hixx],by rw[v5,hpv],by rw[v7,hok]⟩
 have v0:W1.cell? ⟨g0,0,none⟩=some (.int .i64 6):=by rw[←hk6];exact(bq X1.out).1
 have y6:W1.cell? ⟨b,6,none⟩=some (.int .u64 (tm:Nat)):=by rw[←htm];exact(h.cells F1.out).2.2.2.2.2.2.1
 have v3:=(VH.out W1 X1.out).2.1;have gl:decide (tm<mt)=false:=by rw[←hmt,←htm];exact decide_eq_false hnlt
 have g1:decide (mt<tm)=false:=by rw[←hmt,←htm];exact decide_eq_false hlt
 obtain rfl:ro=3:=by rw[←hro];exact hr
 have g2:(s==me)=false:=by rw[←hs,←hme];simpa using hx
 obtain rfl:s=(t:Nat):=by rw[←hs];exact hst
 obtain rfl:ok=true:=by rw[←hok];exact ho
 have ht0:¬((t:Nat):Int)<0:=by omega
 have ht15:¬(15:Int)<((t:Nat):Int):=by omega
 obtain⟨bs,hbs⟩:=zE n.log.base;obtain⟨bt,hbt⟩:=zE n.log.bt;obtain⟨ae,le,ce,hve,hlel,hel2,hesl,hlg⟩:=h.lg;have hl2:bs+le+1<18446744073709551616:=by unfold Lg.last at hl;omega
 obtain⟨LST,hLST⟩:=zE (bs+le);have hlast:n.log.last=LST:=by unfold Lg.last;omega
 have LAST:=zH (fun W=>dQ W bs bt ae le ce (by omega));rw[hLST] at LAST;have HQ:=zH (And.intro hve (And.intro hbs hbt));obtain⟨nt,hnt⟩:=zE (n.next.getD t 0);obtain⟨kt,hkt⟩:=zE (n.mat.getD t 0)
 have hkt64:kt+1<18446744073709551616:=by rw[←hkt,List.getD_eq_getElem?_getD,List.getElem?_eq_getElem (by have:=h.ml;omega)];exact hmx _ (List.getElem_mem _)
 have ht2:((t:Nat):Int)<16:=by omega
 have E0:n.onAcked m.ms=if m.ok=true∧(n.acked m.ms).log.last<(n.acked m.ms).next.getD t 0 then(n.acked m.ms,[]) else(n.acked m.ms,(n.acked m.ms).sendTo (t:Nat)):=by
  unfold Nd.onAcked
  rw[if_neg (fun e=>e hk6),if_neg (show ¬n.tm<m.ms.tm from hnlt),if_neg (show ¬(m.ms.tm<n.tm∨n.role≠3∨m.ms.src=n.me∨m.ms.src<0∨15<m.ms.src) by
   have e:m.ms.src=(t:Nat):=hst;rw[e];rintro(e | e | e | e | e)
   ·exact hlt e
   ·exact e hr
   ·exact hx (hst.trans e)
   ·omega
   ·omega)]
  have e:m.ms.src=(t:Nat):=hst;rw[e];rfl
 have CC:Hid (∀W W' nA,DNs X W b nA q→nA.log=n.log→Fr (fun _ _=>True) W W'→W'.cell? ⟨b,8,none⟩=some (.int .u64 (bs:Nat))∧W'.cell? ⟨b,9,none⟩=some (.int .u64 (bt:Nat))∧W'.cell? ⟨b,10,none⟩=some (.slice ae le ce)∧W'.cell? ⟨b,12+t,none⟩=some (.int .u64 (nA.next.getD t 0:Nat))∧W'.cell? ⟨b,28+t,none⟩=some (.int .u64 (nA.mat.getD t 0:Nat))):=fun W W' nA hA hlA f=>by obtain⟨x0,x1,x2,x3,x4,x5,x6,x7,x8,x9,x10,x11⟩:=hA.cells f;exact⟨by rw[x8,hlA,hbs],by rw[x9,hlA,hbt],by rw[x10,hve],hA.nxt f t ht,hA.mtc f t ht⟩
 have HT:=zH ht;have HNK:=zH (And.intro hnt hkt);have hil2:ix≤LST:=by omega
 have gi:decide (ix≤LST)=true:=decide_eq_true hil2;rw[hkt,hixx] at hp;have gp:decide (kt<ix)=false:=decide_eq_false hp;have hmxx:max kt ix=kt:=by omega
 obtain⟨mx1,hmx1⟩:=zE (kt+1);have wk1:IntKind.u64.wrap ((kt:Int)+1)=((mx1:Nat):Int):=by rw[IntKind.wrap_u64];omega
 obtain⟨n5,hn5⟩:∃x:Nd,{ n with mat:=n.mat.set t kt }=x:=⟨_,rfl⟩
 obtain⟨n6,hn6⟩:∃x:Nd,{ n with mat:=n.mat.set t kt,next:=n.next.set t mx1 }=x:=⟨_,rfl⟩
 obtain⟨nA,hnA⟩:∃x:Nd,n6.sure=x:=⟨_,rfl⟩
 have hac:n.acked m.ms=nA:=by
  unfold Nd.acked;have e:m.ms.src.toNat=t:=by show m.src.toNat=t;rw[hst];rfl
  rw[if_neg (show ¬m.ms.ok=false by show ¬m.ok=false;rw[ho];decide),if_pos (show m.ms.index≤n.log.last from hil),e,hkt,show m.ms.index=ix from hixx,hmxx,hmx1,hn6,hnA]
 have hq6:n6.log=n.log∧n6.conf=n.conf∧n6.next=n.next.set t mx1∧n6.mat=n.mat.set t kt∧n5.log=n.log∧n5.next=n.next∧n5.mat=n.mat.set t kt:=by rw[←hn6,←hn5];exact⟨rfl,rfl,rfl,rfl,rfl,rfl,rfl⟩
 have hqA:nA.log=n6.log∧nA.next=n6.next:=by rw[←hnA];unfold Nd.sure Nd.sureR;split <;> exact⟨rfl,rfl⟩
 have SU:=zH (fun W (hA:DNs X W b n6 q)=>pq hA (by rw[hq6.2.1];exact hcf) (by rw[hq6.2.1];exact hpos) (by rw[hq6.1];exact hl) (by rw[hq6.1];exact hle));rw[hnA] at SU;have hnn:mx1=nA.next.getD t 0:=by rw[hqA.2,hq6.2.2.1,d_ (by have:=h.nl;omega),if_pos rfl]
 obtain⟨NT,hNT⟩:=zE mx1;rw[hNT] at hnn;have hlA:nA.log=n.log:=hqA.1.trans hq6.1
 have E:Hid (n.onAcked m.ms=if LST<NT then(nA,[]) else(nA,nA.sendTo (t:Nat))):=by
  show _=_;rw[E0,hac,hlA,hlast,←hnn];by_cases e:LST<NT
  ·rw[if_pos e,if_pos ⟨ho,e⟩]
  ·rw[if_neg e,if_neg (fun e2=>e e2.2)]
 have TO:Hid (∀W,DNs X W b nA q→Calls Tryz.prog 17 #[.pointer (some ⟨b,0,none⟩),.int .i64 (t:Nat)] W fun e w'=>jj X W (nA.sendTo (t:Nat)) e w'):=fun W hA=>j1 hA (t:Nat) (fun y hy=>by
  rw[hqA.2,hq6.2.2.1] at hy;rcases List.mem_or_eq_of_mem_set hy with hy | hy
  ·have:=hnx y hy;omega
  ·omega) (by rw[hlA];exact hl) (by rw[hlA];exact hle)
 have HNA:Hid (nA.next.getD t 0=NT∧nA.log=n.log):=⟨hnn.symm,hlA⟩
 unfold cM at hW1 ⊢;have H56:=zH (And.intro hn5 (And.intro hn6 hq6));clear hk6 hnlt hlt hr hx hst ho hil hil2 hnt hkt hbs hbt hve hlel hel2 hesl hlg hl2 hLST hlast hkt64 E0 hac hqA hnn hNT hlA ht hp hmxx hmx1 hn5 hn6 hnA hq6 h hme hro htm hs hmt hixx hpv hok hcf hpos hnx hmx hix hpv1 hl hle;go_enter Tryz.func15,Tryz.ntmps15
 go_wp2_with fail
 try rw[hW1]
 try rw[HG0.out]
 clear hW1 hg0 v0;go_quiet (fail)
 clear y6 v3 gl;have UQ:Hid (Fr (fun _ _=>True) W1 (W1.drewN nq)):=(Fr.refl _ W1).drewN nq;generalize W1.drewN nq=W2 at UQ ⊢;have F2:=zH (F1.out.trans UQ.out);have H2:=zH (H.out.tt F2.out);have T2:Hid (W2.heap[g0]? = some (.cells (cM m) 32 (0,0))):=UQ.out.keep _ _ X1.out trivial;have y6:W2.cell? ⟨b,6,none⟩=some (.int .u64 (tm:Nat)):=by rw[←HL.out.2.2.1];exact(H2.out.cells (Fr.refl _ W2)).2.2.2.2.2.2.1
 have y2:W2.cell? ⟨b,2,none⟩=some (.int .i64 3):=by rw[←HL.out.2.1];exact(H2.out.cells (Fr.refl _ W2)).2.2.1
 have y0:W2.cell? ⟨b,0,none⟩=some (.int .i64 me):=by rw[←HL.out.1];exact(H2.out.cells (Fr.refl _ W2)).1
 have v3:=(VH.out W2 T2.out).2.1;have v1:=(VH.out W2 T2.out).1;go_wp2_with fail
 go_quiet (fail)
 clear y6 y2 y0 v3 v1 g1 g2 ht0 ht15;have UQ2:Hid (Fr (fun _ _=>True) W2 (W2.drewN nq)):=(Fr.refl _ W2).drewN nq;generalize W2.drewN nq=W3 at UQ2 ⊢;have F3:=zH (F2.out.trans UQ2.out);have H3:=zH (H2.out.tt UQ2.out);have T3:Hid (W3.heap[g0]? = some (.cells (cM m) 32 (0,0))):=UQ2.out.keep _ _ T2.out trivial;have UD:Hid (Fr (fun _ _=>True) W3 W3.drew):=(Fr.refl _ _).drew;have v1:=(VH.out W3 T3.out).1;go_wp2_with fail
 clear v1;refine wy [(56,0),(57,1),(58,2),(59,3),(60,4),(61,5),(62,6),(63,7),(64,8),(65,9),(66,10),(67,11)] [(0,[]),(1,[0]),(2,[1]),(3,[2]),(4,[2,3]),(5,[2]),(6,[2,5]),(7,[2,6]),(8,[2,7]),(10,[2,4,9]),(11,[2,10]),(9,[2,8])] (ckR [(0,.pointer (some ⟨g0,7,none⟩)),(1,.bool true),(2,.bool true),(3,.pointer (some ⟨g0,4,none⟩)),(4,.int .u64 (ix:Nat)),(5,.pointer (some ⟨b,0,none⟩)),(6,.pointer (some ⟨b,0,none⟩)),(7,.pointer (some ⟨b,8,none⟩)),(8,.agg #[.int .u64 (bs:Nat),.int .u64 (bt:Nat),.slice ae le ce]),(9,.int .u64 (LST:Nat)),(10,.bool true),(11,.bool true)] [] 12 0) rfl ?cfall ?cfend
 case cfall=>
  iterate 11
   refine bV.q rfl rfl rfl (fun xs W HF hE K' hK=>?_) ?_
   ·simp only[ckEqs,ckLook,Nat.reduceBEq] at hE;simp only[fillA,fillL,sA,sB,sC,Act.put,hE] at hK ⊢;clear hE;obtain⟨y8,y9,y10,yn,ym⟩:=CC.out W3 W n H3.out rfl (UD.out.trans HF.out);have V:=VH.out W ((UD.out.trans HF.out).keep _ _ T3.out trivial);have v4:=V.2.2.1;have v5:=V.2.2.2.1;have v7:=V.2.2.2.2;clear V;(try simp only[gA,gB,gC]);go_simp;exact hK.out _ rfl
  refine bV.p rfl rfl (fun xs W HF hA hE K' hK=>?_) ?_
  ·clear hA;simp only[ckEqs,ckLook,Nat.reduceBEq] at hE;simp only[fillA,fillL,sA,sB,sC,Act.put,hE] at hK ⊢;clear hE;obtain⟨y8,y9,y10,yn,ym⟩:=CC.out W3 W n H3.out rfl (UD.out.trans HF.out);have V:=VH.out W ((UD.out.trans HF.out).keep _ _ T3.out trivial);have v4:=V.2.2.1;have v5:=V.2.2.2.1;have v7:=V.2.2.2.2;clear V;have LA1:=zH (LAST.out W);dsimp only[vL9] at LA1;(try simp only[gA,gB,gC]);go_simp;(with_reducible refine LA1.out.mono ?_);rintro e w8 ⟨rfl,f8⟩;exact hK.out _ _ _ rfl f8 rfl
  exact bV.nil
 case cfend=>
  intro xs W hF hA;have HF:=zH hF;have hE:=b_ rfl hA;clear hA hF;simp only[List.map_cons,List.map_nil,ckEqs,ckLook,Nat.reduceBEq] at hE;simp only[fillA,fillL,sA,sB,sC,hE];clear hE;have F4:=zH (UD.out.trans HF.out);have H4:=zH (H3.out.tt F4.out);have T4:Hid (W.heap[g0]? = some (.cells (cM m) 32 (0,0))):=F4.out.keep _ _ T3.out trivial;have FP4:Hid (Fr (fun c _=>c≠b) w W):=(F3.out.trans F4.out).mono fun _ _ _=>trivial
  have HL16:Hid (n.next.length=16∧n.mat.length=16):=⟨H4.out.nl,H4.out.ml⟩
  obtain⟨W4,hW4⟩:=zE W;rw[hW4] at HF F4 H4 T4 FP4 ⊢;clear hW4 gi;have v4:=(VH.out W4 T4.out).2.2.1;have ym:=(CC.out W4 W4 n H4.out rfl (Fr.refl _ _)).2.2.2.2;rw[HNK.out.2] at ym;go_wp2_with fail
  go_quiet (fail)
  clear v4 ym gp;have UQ4:Hid (Fr (fun _ _=>True) W4 (W4.drewN nq)):=(Fr.refl _ W4).drewN nq;generalize W4.drewN nq=W5 at UQ4 ⊢;have H5:=zH (H4.out.tt UQ4.out);have T5:Hid (W5.heap[g0]? = some (.cells (cM m) 32 (0,0))):=UQ4.out.keep _ _ T4.out trivial;have FP5:Hid (Fr (fun c _=>c≠b) w W5):=FP4.out.trans (UQ4.out.mono fun _ _ _=>trivial)
  have H7:Hid (DNs X W5 b n5 q):=by
   show DNs X W5 b n5 q;rw[←H56.out.1]
   have e:n.mat.set t kt=n.mat:=by
    have hl9:t<n.mat.length:=by rw[HL16.out.2];exact HT.out
    have e2:kt=n.mat[t]:=by rw[←HNK.out.2,getD_get hl9]
    rw[e2];exact List.set_getElem_self _
   rw[e];exact H5.out
  obtain⟨W7,hW7⟩:=zE W5;rw[hW7] at H7 H5 T5 FP5 UQ4 ⊢;have T7:=T5;have FP7:=FP5;clear hW7;have DUM:True:=trivial;clear DUM;have UG:Hid (Fr (fun _ _=>True) W7 W7.drew):=(Fr.refl _ _).drew;go_wp2_with fail
  refine wpR [(84,0),(85,1),(86,2),(87,3),(88,4),(89,5),(90,6),(91,7),(92,8),(93,9),(94,10),(95,11)] [(0,[]),(1,[]),(2,[]),(3,[]),(4,[2]),(5,[4]),(6,[3,5]),(7,[6]),(8,[7]),(9,[0]),(10,[9])] (ckR [(0,.pointer (some ⟨b,0,none⟩)),(1,.int .i64 (t:Nat)),(2,.pointer (some ⟨b,0,none⟩)),(3,.int .i64 (t:Nat)),(4,.pointer (some ⟨b,0,none⟩)),(5,.pointer (some ⟨b,28,none⟩)),(6,.pointer (some ⟨b,28+t,none⟩)),(7,.int .u64 (kt:Nat)),(8,.int .u64 (mx1:Nat)),(9,.pointer (some ⟨b,0,none⟩)),(10,.pointer (some ⟨b,12,none⟩))] [] 11 0) 2 rfl ?cfall ?cfend
  case cfall=>
   iterate 11
    refine bV.q rfl rfl rfl (fun xs W HF hE K' hK=>?_) ?_
    ·simp only[ckEqs,ckLook,Nat.reduceBEq] at hE;simp only[fillA,fillL,sA,sB,sC,Act.put,hE] at hK ⊢;clear hE;obtain⟨y8,y9,y10,yn,ym⟩:=CC.out W7 W n5 H7.out H56.out.2.2.2.2.2.2.1 (UG.out.trans HF.out);have V:=VH.out W ((UG.out.trans HF.out).keep _ _ T7.out trivial);have v4:=V.2.2.1;have v5:=V.2.2.2.1;have v7:=V.2.2.2.2;clear V;rw[H56.out.2.2.2.2.2.2.2.2,d_ (by rw[HL16.out.2];exact HT.out),if_pos rfl] at ym;(try simp only[gA,gB,gC]);go_simp;exact hK.out _ rfl
   exact bV.nil
  case cfend=>
   intro xs W hF hA;have HF:=zH hF;have hE:=b_ rfl hA;clear hA hF;simp only[List.map_cons,List.map_nil,ckEqs,ckLook,Nat.reduceBEq] at hE;simp only[fillA,fillL,sA,sB,sC,hE];clear hE;have F8:=zH (UG.out.trans HF.out);have H8:=zH (H7.out.tt F8.out);have an0:=H8.out.nxt (Fr.refl _ W) t HT.out;have an1:=H8.out.free (Fr.refl _ W) (12+t);obtain⟨h9,f9⟩:=H8.out.setN t mx1 HT.out;obtain⟨W8,hW8⟩:=zE (W.setCell ⟨b,12+t,none⟩ (.int .u64 (mx1:Nat)));have hW8':W.setCell ⟨b,12+t,none⟩ (dx mx1)=W8:=hW8;rw[hW8'] at h9 f9
   have h10:DNs X W8 b n6 q:=by rw[←H56.out.2.1];rw[←H56.out.1] at h9;exact h9
   have T8:Hid (W8.heap[g0]? = some (.cells (cM m) 32 (0,0))):=f9.keep _ _ (F8.out.keep _ _ T7.out trivial) gb.out;have FP8:Hid (Fr (fun c _=>c≠b) w W8):=(FP7.out.trans (F8.out.mono fun _ _ _=>trivial)).trans f9;have SU1:=zH (SU.out W8 h10);clear h9 f9 h10 hW8' SU;refine wpN 11 rfl fun K' hK=>?_
   (try simp only[gA,gB,gC]);go_simp;refine hK.out _ _ ?_;clear hK K';refine wpN 12 rfl fun K' hK=>?_
   (try simp only[gA,gB,gC]);go_simp;refine hK.out _ _ ?_;clear hK K';refine wpF ?_
   try rw[hW8]
   clear hW8 an0 an1;go_wp2_with fail
   (with_reducible refine SU1.out.mono ?_);rintro e W9 ⟨rfl,h9,f9⟩;have H9:=zH h9;have T9:Hid (W9.heap[g0]? = some (.cells (cM m) 32 (0,0))):=f9.keep _ _ T8.out gb.out;have FP9:Hid (Fr (fun c _=>c≠b) w W9):=FP8.out.trans f9;clear h9 f9 SU1;by_cases hb:LST<NT
   ·have gj:decide (LST<NT)=true:=decide_eq_true hb;have E1:Hid (n.onAcked m.ms=(nA,[])):=E.out.trans (if_pos hb);clear hb E;have UK:Hid (Fr (fun _ _=>True) W9 W9.drew):=(Fr.refl _ _).drew;have v7:=(VH.out W9 T9.out).2.2.2.2;go_wp2_with fail
    clear v7;refine wy [(137,0),(138,1),(139,2),(140,3),(141,4),(142,5),(143,6),(144,7),(145,8),(146,9),(147,10),(148,11),(149,12),(150,13),(151,14),(152,15)] [(0,[]),(1,[0]),(2,[1]),(3,[2]),(4,[2]),(5,[2,3]),(6,[2,5]),(7,[2,4,6]),(8,[2,7]),(9,[2]),(10,[2,9]),(11,[2,10]),(12,[2,11]),(14,[2,8,13]),(15,[2,14]),(13,[2,12])] (ckR [(0,.pointer (some ⟨g0,7,none⟩)),(1,.bool true),(2,.bool true),(3,.pointer (some ⟨b,0,none⟩)),(4,.int .i64 (t:Nat)),(5,.pointer (some ⟨b,0,none⟩)),(6,.pointer (some ⟨b,12,none⟩)),(7,.pointer (some ⟨b,12+t,none⟩)),(8,.int .u64 (NT:Nat)),(9,.pointer (some ⟨b,0,none⟩)),(10,.pointer (some ⟨b,0,none⟩)),(11,.pointer (some ⟨b,8,none⟩)),(12,.agg #[.int .u64 (bs:Nat),.int .u64 (bt:Nat),.slice ae le ce]),(13,.int .u64 (LST:Nat)),(14,.bool true),(15,.bool true)] [] 16 0) rfl ?cfall ?cfend
    case cfall=>
     iterate 15
      refine bV.q rfl rfl rfl (fun xs W HF hE K' hK=>?_) ?_
      ·simp only[ckEqs,ckLook,Nat.reduceBEq] at hE;simp only[fillA,fillL,sA,sB,sC,Act.put,hE] at hK ⊢;clear hE;obtain⟨y8,y9,y10,yn,ym⟩:=CC.out W9 W nA H9.out HNA.out.2 (UK.out.trans HF.out);have V:=VH.out W ((UK.out.trans HF.out).keep _ _ T9.out trivial);have v4:=V.2.2.1;have v5:=V.2.2.2.1;have v7:=V.2.2.2.2;clear V;rw[HNA.out.1] at yn;(try simp only[gA,gB,gC]);go_simp;exact hK.out _ rfl
     refine bV.p rfl rfl (fun xs W HF hA hE K' hK=>?_) ?_
     ·clear hA;simp only[ckEqs,ckLook,Nat.reduceBEq] at hE;simp only[fillA,fillL,sA,sB,sC,Act.put,hE] at hK ⊢;clear hE;obtain⟨y8,y9,y10,yn,ym⟩:=CC.out W9 W nA H9.out HNA.out.2 (UK.out.trans HF.out);have V:=VH.out W ((UK.out.trans HF.out).keep _ _ T9.out trivial);have v4:=V.2.2.1;have v5:=V.2.2.2.1;have v7:=V.2.2.2.2;clear V;rw[HNA.out.1] at yn;have LA1:=zH (LAST.out W);dsimp only[vL9] at LA1;(try simp only[gA,gB,gC]);go_simp;(with_reducible refine LA1.out.mono ?_);rintro e w8 ⟨rfl,f8⟩;exact hK.out _ _ _ rfl f8 rfl
     exact bV.nil
    case cfend=>intro xs W hF hA;have HF:=zH hF;have hE:=b_ rfl hA;clear hA hF;simp only[List.map_cons,List.map_nil,ckEqs,ckLook,Nat.reduceBEq] at hE;simp only[fillA,fillL,sA,sB,sC,hE];clear hE;have FK:=zH (UK.out.trans HF.out);clear gj;go_wp2;go_ret;rw[E1.out];exact⟨q,_,[],rfl,H9.out.tt FK.out,FP9.out.trans (FK.out.mono fun _ _ _=>trivial),OwnMs.nil _ _ _,rfl⟩
   ·have gj:decide (LST<NT)=false:=decide_eq_false hb;have E1:Hid (n.onAcked m.ms=(nA,nA.sendTo (t:Nat))):=E.out.trans (if_neg hb);clear hb E;have UK:Hid (Fr (fun _ _=>True) W9 W9.drew):=(Fr.refl _ _).drew;have v7:=(VH.out W9 T9.out).2.2.2.2;go_wp2_with fail
    clear v7;refine wy [(137,0),(138,1),(139,2),(140,3),(141,4),(142,5),(143,6),(144,7),(145,8),(146,9),(147,10),(148,11),(149,12),(150,13),(151,14),(152,15)] [(0,[]),(1,[0]),(2,[1]),(3,[2]),(4,[2]),(5,[2,3]),(6,[2,5]),(7,[2,4,6]),(8,[2,7]),(9,[2]),(10,[2,9]),(11,[2,10]),(12,[2,11]),(14,[2,8,13]),(15,[2,14]),(13,[2,12])] (ckR [(0,.pointer (some ⟨g0,7,none⟩)),(1,.bool true),(2,.bool true),(3,.pointer (some ⟨b,0,none⟩)),(4,.int .i64 (t:Nat)),(5,.pointer (some ⟨b,0,none⟩)),(6,.pointer (some ⟨b,12,none⟩)),(7,.pointer (some ⟨b,12+t,none⟩)),(8,.int .u64 (NT:Nat)),(9,.pointer (some ⟨b,0,none⟩)),(10,.pointer (some ⟨b,0,none⟩)),(11,.pointer (some ⟨b,8,none⟩)),(12,.agg #[.int .u64 (bs:Nat),.int .u64 (bt:Nat),.slice ae le ce]),(13,.int .u64 (LST:Nat)),(14,.bool false),(15,.bool false)] [] 16 0) rfl ?cfall ?cfend
    case cfall=>
     iterate 15
      refine bV.q rfl rfl rfl (fun xs W HF hE K' hK=>?_) ?_
      ·simp only[ckEqs,ckLook,Nat.reduceBEq] at hE;simp only[fillA,fillL,sA,sB,sC,Act.put,hE] at hK ⊢;clear hE;obtain⟨y8,y9,y10,yn,ym⟩:=CC.out W9 W nA H9.out HNA.out.2 (UK.out.trans HF.out);have V:=VH.out W ((UK.out.trans HF.out).keep _ _ T9.out trivial);have v4:=V.2.2.1;have v5:=V.2.2.2.1;have v7:=V.2.2.2.2;clear V;rw[HNA.out.1] at yn;(try simp only[gA,gB,gC]);go_simp;exact hK.out _ rfl
     refine bV.p rfl rfl (fun xs W HF hA hE K' hK=>?_) ?_
     ·clear hA;simp only[ckEqs,ckLook,Nat.reduceBEq] at hE;simp only[fillA,fillL,sA,sB,sC,Act.put,hE] at hK ⊢;clear hE;obtain⟨y8,y9,y10,yn,ym⟩:=CC.out W9 W nA H9.out HNA.out.2 (UK.out.trans HF.out);have V:=VH.out W ((UK.out.trans HF.out).keep _ _ T9.out trivial);have v4:=V.2.2.1;have v5:=V.2.2.2.1;have v7:=V.2.2.2.2;clear V;rw[HNA.out.1] at yn;have LA1:=zH (LAST.out W);dsimp only[vL9] at LA1;(try simp only[gA,gB,gC]);go_simp;(with_reducible refine LA1.out.mono ?_);rintro e w8 ⟨rfl,f8⟩;exact hK.out _ _ _ rfl f8 rfl
     exact bV.nil
    case cfend=>
     intro xs W hF hA;have HF:=zH hF;have hE:=b_ rfl hA;clear hA hF;simp only[List.map_cons,List.map_nil,ckEqs,ckLook,Nat.reduceBEq] at hE;simp only[fillA,fillL,sA,sB,sC,hE];clear hE;have FK:=zH (UK.out.trans HF.out);clear gj;have TOC1:=zH (TO.out W (H9.out.tt FK.out));clear TO;go_wp2_with fail
     (with_reducible refine TOC1.out.mono ?_);rintro e W7 ⟨⟨v,mvs,rfl,o7,e7⟩,f7⟩;have HH:=zH (And.intro o7 (And.intro e7 f7));clear o7 e7 f7 TOC1;go_wp2;go_ret;rw[E1.out];exact⟨q,_,mvs,rfl,(H9.out.tt FK.out).tt HH.out.2.2,(FP9.out.trans (FK.out.mono fun _ _ _=>trivial)).trans (HH.out.2.2.mono fun _ _ _=>trivial),HH.out.1.lo (FP9.out.trans (FK.out.mono fun _ _ _=>trivial)).size,HH.out.2.1⟩
end
section
variable {X:Nat→Prop} {w w':World} {b:Nat} {n n':Nd} {q q':DV}
theorem ry [Old] (h:DNs X w b n q) (m:MV) (hk6:m.kind=6) (hnlt:¬n.tm<m.tm) (hlt:¬m.tm<n.tm) (hr:n.role=3) (hx:m.src≠n.me) (t:Nat) (ht:t<16) (hst:m.src=(t:Nat)) (ho:m.ok=true) (hil:m.index≤n.log.last) (hp:n.mat.getD t 0<m.index) (hcf:0<n.conf.length∧n.conf.length≤12) (hpos:∀x∈n.conf,0≤x∧x≤15) (hnx:∀y∈n.next,y+1<18446744073709551616) (hmx:∀y∈n.mat,y+1<18446744073709551616) (hix:m.index+1<18446744073709551616) (hpv1:m.kind=6→m.prev+1<18446744073709551616) (hl:n.log.last+1<18446744073709551616) (hle:n.log.es.length≤900000):
 Calls Tryz.prog 15 #[.pointer (some ⟨b,0,none⟩),.agg (cM m)] w fun e w'=>jQ X w b (n.onAcked m.ms) e w':=by
 obtain⟨W1,hW1,F1,X1⟩:=gW w m;obtain⟨g0,hg0⟩:=zE w.heap.size;rw[hg0] at X1;have H:=zH h;have HG0:=zH hg0;have gb:Hid (g0≠b):=by have:=bZ h.top;show _≠_;omega
 obtain⟨me,hme⟩:=zE n.me;obtain⟨ro,hro⟩:=zE n.role;obtain⟨tm,htm⟩:=zE n.tm;obtain⟨s,hs⟩:=zE m.src;obtain⟨mt,hmt⟩:=zE m.tm;obtain⟨ix,hixx⟩:=zE m.index;obtain⟨pv,hpv⟩:=zE m.prev;obtain⟨ok,hok⟩:=zE m.ok;have HL:=zH (And.intro hme (And.intro hro (And.intro htm (And.intro hs (And.intro hmt (And.intro hixx (And.intro hpv hok)))))))
 have VH:Hid (∀W:World,W.heap[g0]? = some (.cells (cM m) 32 (0,0))→W.cell? ⟨g0,1,none⟩=some (.int .i64 s)∧W.cell? ⟨g0,3,none⟩=some (.int .u64 (mt:Nat))∧W.cell? ⟨g0,4,none⟩=some (.int .u64 (ix:Nat))∧W.cell? ⟨g0,5,none⟩=some (.int .u64 (pv:Nat))∧W.cell? ⟨g0,7,none⟩=some (.bool ok)):=fun W t=>by obtain⟨v0,v1,v2,v3,v4,v5,v6,v7,v8,v9⟩:=bq t;exact⟨by rw[v1,hs],by rw[v3,hmt],by rw[v4,hixx],by rw[v5,hpv],by rw[v7,hok]⟩
 have v0:W1.cell? ⟨g0,0,none⟩=some (.int .i64 6):=by rw[←hk6];exact(bq X1.out).1
 have y6:W1.cell? ⟨b,6,none⟩=some (.int .u64 (tm:Nat)):=by rw[←htm];exact(h.cells F1.out).2.2.2.2.2.2.1
 have v3:=(VH.out W1 X1.out).2.1;have gl:decide (tm<mt)=false:=by rw[←hmt,←htm];exact decide_eq_false hnlt
 have g1:decide (mt<tm)=false:=by rw[←hmt,←htm];exact decide_eq_false hlt
 obtain rfl:ro=3:=by rw[←hro];exact hr
 have g2:(s==me)=false:=by rw[←hs,←hme];simpa using hx
 obtain rfl:s=(t:Nat):=by rw[←hs];exact hst
 obtain rfl:ok=true:=by rw[←hok];exact ho
 have ht0:¬((t:Nat):Int)<0:=by omega
 have ht15:¬(15:Int)<((t:Nat):Int):=by omega
 obtain⟨bs,hbs⟩:=zE n.log.base;obtain⟨bt,hbt⟩:=zE n.log.bt;obtain⟨ae,le,ce,hve,hlel,hel2,hesl,hlg⟩:=h.lg;have hl2:bs+le+1<18446744073709551616:=by unfold Lg.last at hl;omega
 obtain⟨LST,hLST⟩:=zE (bs+le);have hlast:n.log.last=LST:=by unfold Lg.last;omega
 have LAST:=zH (fun W=>dQ W bs bt ae le ce (by omega));rw[hLST] at LAST;have HQ:=zH (And.intro hve (And.intro hbs hbt));obtain⟨nt,hnt⟩:=zE (n.next.getD t 0);obtain⟨kt,hkt⟩:=zE (n.mat.getD t 0)
 have hkt64:kt+1<18446744073709551616:=by rw[←hkt,List.getD_eq_getElem?_getD,List.getElem?_eq_getElem (by have:=h.ml;omega)];exact hmx _ (List.getElem_mem _)
 have ht2:((t:Nat):Int)<16:=by omega
 have E0:n.onAcked m.ms=if m.ok=true∧(n.acked m.ms).log.last<(n.acked m.ms).next.getD t 0 then(n.acked m.ms,[]) else(n.acked m.ms,(n.acked m.ms).sendTo (t:Nat)):=by
  unfold Nd.onAcked
  rw[if_neg (fun e=>e hk6),if_neg (show ¬n.tm<m.ms.tm from hnlt),if_neg (show ¬(m.ms.tm<n.tm∨n.role≠3∨m.ms.src=n.me∨m.ms.src<0∨15<m.ms.src) by
   have e:m.ms.src=(t:Nat):=hst;rw[e];rintro(e | e | e | e | e)
   ·exact hlt e
   ·exact e hr
   ·exact hx (hst.trans e)
   ·omega
   ·omega)]
  have e:m.ms.src=(t:Nat):=hst;rw[e];rfl
 have CC:Hid (∀W W' nA,DNs X W b nA q→nA.log=n.log→Fr (fun _ _=>True) W W'→W'.cell? ⟨b,8,none⟩=some (.int .u64 (bs:Nat))∧W'.cell? ⟨b,9,none⟩=some (.int .u64 (bt:Nat))∧W'.cell? ⟨b,10,none⟩=some (.slice ae le ce)∧W'.cell? ⟨b,12+t,none⟩=some (.int .u64 (nA.next.getD t 0:Nat))∧W'.cell? ⟨b,28+t,none⟩=some (.int .u64 (nA.mat.getD t 0:Nat))):=fun W W' nA hA hlA f=>by obtain⟨x0,x1,x2,x3,x4,x5,x6,x7,x8,x9,x10,x11⟩:=hA.cells f;exact⟨by rw[x8,hlA,hbs],by rw[x9,hlA,hbt],by rw[x10,hve],hA.nxt f t ht,hA.mtc f t ht⟩
 have HT:=zH ht;have HNK:=zH (And.intro hnt hkt);have hil2:ix≤LST:=by omega
 have gi:decide (ix≤LST)=true:=decide_eq_true hil2;rw[hkt,hixx] at hp;have gp:decide (kt<ix)=true:=decide_eq_true hp;have hmxx:max kt ix=ix:=by omega
 obtain⟨mx1,hmx1⟩:=zE (ix+1);have wk1:IntKind.u64.wrap ((ix:Int)+1)=((mx1:Nat):Int):=by rw[IntKind.wrap_u64];omega
 obtain⟨n5,hn5⟩:∃x:Nd,{ n with mat:=n.mat.set t ix }=x:=⟨_,rfl⟩
 obtain⟨n6,hn6⟩:∃x:Nd,{ n with mat:=n.mat.set t ix,next:=n.next.set t mx1 }=x:=⟨_,rfl⟩
 obtain⟨nA,hnA⟩:∃x:Nd,n6.sure=x:=⟨_,rfl⟩
 have hac:n.acked m.ms=nA:=by
  unfold Nd.acked;have e:m.ms.src.toNat=t:=by show m.src.toNat=t;rw[hst];rfl
  rw[if_neg (show ¬m.ms.ok=false by show ¬m.ok=false;rw[ho];decide),if_pos (show m.ms.index≤n.log.last from hil),e,hkt,show m.ms.index=ix from hixx,hmxx,hmx1,hn6,hnA]
 have hq6:n6.log=n.log∧n6.conf=n.conf∧n6.next=n.next.set t mx1∧n6.mat=n.mat.set t ix∧n5.log=n.log∧n5.next=n.next∧n5.mat=n.mat.set t ix:=by rw[←hn6,←hn5];exact⟨rfl,rfl,rfl,rfl,rfl,rfl,rfl⟩
 have hqA:nA.log=n6.log∧nA.next=n6.next:=by rw[←hnA];unfold Nd.sure Nd.sureR;split <;> exact⟨rfl,rfl⟩
 have SU:=zH (fun W (hA:DNs X W b n6 q)=>pq hA (by rw[hq6.2.1];exact hcf) (by rw[hq6.2.1];exact hpos) (by rw[hq6.1];exact hl) (by rw[hq6.1];exact hle));rw[hnA] at SU;have hnn:mx1=nA.next.getD t 0:=by rw[hqA.2,hq6.2.2.1,d_ (by have:=h.nl;omega),if_pos rfl]
 obtain⟨NT,hNT⟩:=zE mx1;rw[hNT] at hnn;have hlA:nA.log=n.log:=hqA.1.trans hq6.1
 have E:Hid (n.onAcked m.ms=if LST<NT then(nA,[]) else(nA,nA.sendTo (t:Nat))):=by
  show _=_;rw[E0,hac,hlA,hlast,←hnn];by_cases e:LST<NT
  ·rw[if_pos e,if_pos ⟨ho,e⟩]
  ·rw[if_neg e,if_neg (fun e2=>e e2.2)]
 have TO:Hid (∀W,DNs X W b nA q→Calls Tryz.prog 17 #[.pointer (some ⟨b,0,none⟩),.int .i64 (t:Nat)] W fun e w'=>jj X W (nA.sendTo (t:Nat)) e w'):=fun W hA=>j1 hA (t:Nat) (fun y hy=>by
  rw[hqA.2,hq6.2.2.1] at hy;rcases List.mem_or_eq_of_mem_set hy with hy | hy
  ·have:=hnx y hy;omega
  ·omega) (by rw[hlA];exact hl) (by rw[hlA];exact hle)
 have HNA:Hid (nA.next.getD t 0=NT∧nA.log=n.log):=⟨hnn.symm,hlA⟩
 unfold cM at hW1 ⊢;have H56:=zH (And.intro hn5 (And.intro hn6 hq6));clear hk6 hnlt hlt hr hx hst ho hil hil2 hnt hkt hbs hbt hve hlel hel2 hesl hlg hl2 hLST hlast hkt64 E0 hac hqA hnn hNT hlA ht hp hmxx hmx1 hn5 hn6 hnA hq6 h hme hro htm hs hmt hixx hpv hok hcf hpos hnx hmx hix hpv1 hl hle;go_enter Tryz.func15,Tryz.ntmps15
 go_wp2_with fail
 try rw[hW1]
 try rw[HG0.out]
 clear hW1 hg0 v0;go_quiet (fail)
 clear y6 v3 gl;have UQ:Hid (Fr (fun _ _=>True) W1 (W1.drewN nq)):=(Fr.refl _ W1).drewN nq;generalize W1.drewN nq=W2 at UQ ⊢;have F2:=zH (F1.out.trans UQ.out);have H2:=zH (H.out.tt F2.out);have T2:Hid (W2.heap[g0]? = some (.cells (cM m) 32 (0,0))):=UQ.out.keep _ _ X1.out trivial;have y6:W2.cell? ⟨b,6,none⟩=some (.int .u64 (tm:Nat)):=by rw[←HL.out.2.2.1];exact(H2.out.cells (Fr.refl _ W2)).2.2.2.2.2.2.1
 have y2:W2.cell? ⟨b,2,none⟩=some (.int .i64 3):=by rw[←HL.out.2.1];exact(H2.out.cells (Fr.refl _ W2)).2.2.1
 have y0:W2.cell? ⟨b,0,none⟩=some (.int .i64 me):=by rw[←HL.out.1];exact(H2.out.cells (Fr.refl _ W2)).1
 have v3:=(VH.out W2 T2.out).2.1;have v1:=(VH.out W2 T2.out).1;go_wp2_with fail
 go_quiet (fail)
 clear y6 y2 y0 v3 v1 g1 g2 ht0 ht15;have UQ2:Hid (Fr (fun _ _=>True) W2 (W2.drewN nq)):=(Fr.refl _ W2).drewN nq;generalize W2.drewN nq=W3 at UQ2 ⊢;have F3:=zH (F2.out.trans UQ2.out);have H3:=zH (H2.out.tt UQ2.out);have T3:Hid (W3.heap[g0]? = some (.cells (cM m) 32 (0,0))):=UQ2.out.keep _ _ T2.out trivial;have UD:Hid (Fr (fun _ _=>True) W3 W3.drew):=(Fr.refl _ _).drew;have v1:=(VH.out W3 T3.out).1;go_wp2_with fail
 clear v1;refine wy [(56,0),(57,1),(58,2),(59,3),(60,4),(61,5),(62,6),(63,7),(64,8),(65,9),(66,10),(67,11)] [(0,[]),(1,[0]),(2,[1]),(3,[2]),(4,[2,3]),(5,[2]),(6,[2,5]),(7,[2,6]),(8,[2,7]),(10,[2,4,9]),(11,[2,10]),(9,[2,8])] (ckR [(0,.pointer (some ⟨g0,7,none⟩)),(1,.bool true),(2,.bool true),(3,.pointer (some ⟨g0,4,none⟩)),(4,.int .u64 (ix:Nat)),(5,.pointer (some ⟨b,0,none⟩)),(6,.pointer (some ⟨b,0,none⟩)),(7,.pointer (some ⟨b,8,none⟩)),(8,.agg #[.int .u64 (bs:Nat),.int .u64 (bt:Nat),.slice ae le ce]),(9,.int .u64 (LST:Nat)),(10,.bool true),(11,.bool true)] [] 12 0) rfl ?cfall ?cfend
 case cfall=>
  iterate 11
   refine bV.q rfl rfl rfl (fun xs W HF hE K' hK=>?_) ?_
   ·simp only[ckEqs,ckLook,Nat.reduceBEq] at hE;simp only[fillA,fillL,sA,sB,sC,Act.put,hE] at hK ⊢;clear hE;obtain⟨y8,y9,y10,yn,ym⟩:=CC.out W3 W n H3.out rfl (UD.out.trans HF.out);have V:=VH.out W ((UD.out.trans HF.out).keep _ _ T3.out trivial);have v4:=V.2.2.1;have v5:=V.2.2.2.1;have v7:=V.2.2.2.2;clear V;(try simp only[gA,gB,gC]);go_simp;exact hK.out _ rfl
  refine bV.p rfl rfl (fun xs W HF hA hE K' hK=>?_) ?_
  ·clear hA;simp only[ckEqs,ckLook,Nat.reduceBEq] at hE;simp only[fillA,fillL,sA,sB,sC,Act.put,hE] at hK ⊢;clear hE;obtain⟨y8,y9,y10,yn,ym⟩:=CC.out W3 W n H3.out rfl (UD.out.trans HF.out);have V:=VH.out W ((UD.out.trans HF.out).keep _ _ T3.out trivial);have v4:=V.2.2.1;have v5:=V.2.2.2.1;have v7:=V.2.2.2.2;clear V;have LA1:=zH (LAST.out W);dsimp only[vL9] at LA1;(try simp only[gA,gB,gC]);go_simp;(with_reducible refine LA1.out.mono ?_);rintro e w8 ⟨rfl,f8⟩;exact hK.out _ _ _ rfl f8 rfl
  exact bV.nil
 case cfend=>
  intro xs W hF hA;have HF:=zH hF;have hE:=b_ rfl hA;clear hA hF;simp only[List.map_cons,List.map_nil,ckEqs,ckLook,Nat.reduceBEq] at hE;simp only[fillA,fillL,sA,sB,sC,hE];clear hE;have F4:=zH (UD.out.trans HF.out);have H4:=zH (H3.out.tt F4.out);have T4:Hid (W.heap[g0]? = some (.cells (cM m) 32 (0,0))):=F4.out.keep _ _ T3.out trivial;have FP4:Hid (Fr (fun c _=>c≠b) w W):=(F3.out.trans F4.out).mono fun _ _ _=>trivial
  have HL16:Hid (n.next.length=16∧n.mat.length=16):=⟨H4.out.nl,H4.out.ml⟩
  obtain⟨W4,hW4⟩:=zE W;rw[hW4] at HF F4 H4 T4 FP4 ⊢;clear hW4 gi;have v4:=(VH.out W4 T4.out).2.2.1;have ym:=(CC.out W4 W4 n H4.out rfl (Fr.refl _ _)).2.2.2.2;rw[HNK.out.2] at ym;go_wp2_with fail
  go_quiet (fail)
  clear v4 ym gp;have UQ4:Hid (Fr (fun _ _=>True) W4 (W4.drewN nq)):=(Fr.refl _ W4).drewN nq;generalize W4.drewN nq=W5 at UQ4 ⊢;have H5:=zH (H4.out.tt UQ4.out);have T5:Hid (W5.heap[g0]? = some (.cells (cM m) 32 (0,0))):=UQ4.out.keep _ _ T4.out trivial;have FP5:Hid (Fr (fun c _=>c≠b) w W5):=FP4.out.trans (UQ4.out.mono fun _ _ _=>trivial);have UE:Hid (Fr (fun _ _=>True) W5 W5.drew):=(Fr.refl _ _).drew;go_wp2_with fail
  refine wpR [(77,0),(78,1),(79,2),(80,3),(81,4),(82,5),(83,6)] [(0,[]),(1,[]),(2,[]),(3,[2]),(4,[0]),(5,[4])] (ckR [(0,.pointer (some ⟨b,0,none⟩)),(1,.int .i64 (t:Nat)),(2,.pointer (some ⟨g0,4,none⟩)),(3,.int .u64 (ix:Nat)),(4,.pointer (some ⟨b,0,none⟩)),(5,.pointer (some ⟨b,28,none⟩))] [] 6 0) 2 rfl ?cfall ?cfend
  case cfall=>
   iterate 6
    refine bV.q rfl rfl rfl (fun xs W HF hE K' hK=>?_) ?_
    ·simp only[ckEqs,ckLook,Nat.reduceBEq] at hE;simp only[fillA,fillL,sA,sB,sC,Act.put,hE] at hK ⊢;clear hE;obtain⟨y8,y9,y10,yn,ym⟩:=CC.out W5 W n H5.out rfl (UE.out.trans HF.out);have V:=VH.out W ((UE.out.trans HF.out).keep _ _ T5.out trivial);have v4:=V.2.2.1;have v5:=V.2.2.2.1;have v7:=V.2.2.2.2;clear V;(try simp only[gA,gB,gC]);go_simp;exact hK.out _ rfl
   exact bV.nil
  case cfend=>
   intro xs W hF hA;have HF:=zH hF;have hE:=b_ rfl hA;clear hA hF;simp only[List.map_cons,List.map_nil,ckEqs,ckLook,Nat.reduceBEq] at hE;simp only[fillA,fillL,sA,sB,sC,hE];clear hE;have F6:=zH (UE.out.trans HF.out);have H6:=zH (H5.out.tt F6.out);have am0:=H6.out.mtc (Fr.refl _ W) t HT.out;have am1:=H6.out.free (Fr.refl _ W) (28+t);obtain⟨h7,f7⟩:=H6.out.setM t ix HT.out;obtain⟨W7,hW7⟩:=zE (W.setCell ⟨b,28+t,none⟩ (.int .u64 (ix:Nat)));have hW7':W.setCell ⟨b,28+t,none⟩ (dx ix)=W7:=hW7;rw[hW7'] at h7 f7;have H7:Hid (DNs X W7 b n5 q):=by show DNs X W7 b n5 q;rw[←H56.out.1];exact h7
   have T7:Hid (W7.heap[g0]? = some (.cells (cM m) 32 (0,0))):=f7.keep _ _ (F6.out.keep _ _ T5.out trivial) gb.out;have FP7:Hid (Fr (fun c _=>c≠b) w W7):=(FP5.out.trans (F6.out.mono fun _ _ _=>trivial)).trans f7;clear h7 f7 hW7';refine wpN 6 rfl fun K' hK=>?_
   (try simp only[gA,gB,gC]);go_simp;refine hK.out _ _ ?_;clear hK K';refine wpN 7 rfl fun K' hK=>?_
   (try simp only[gA,gB,gC]);go_simp;refine hK.out _ _ ?_;clear hK K';refine wpF ?_
   try rw[hW7]
   clear hW7 am0 am1;obtain⟨WA,hWA⟩:=zE W;rw[hWA] at HF F6 H6;clear hWA;have UG:Hid (Fr (fun _ _=>True) W7 W7.drew):=(Fr.refl _ _).drew;go_wp2_with fail
   refine wpR [(84,0),(85,1),(86,2),(87,3),(88,4),(89,5),(90,6),(91,7),(92,8),(93,9),(94,10),(95,11)] [(0,[]),(1,[]),(2,[]),(3,[]),(4,[2]),(5,[4]),(6,[3,5]),(7,[6]),(8,[7]),(9,[0]),(10,[9])] (ckR [(0,.pointer (some ⟨b,0,none⟩)),(1,.int .i64 (t:Nat)),(2,.pointer (some ⟨b,0,none⟩)),(3,.int .i64 (t:Nat)),(4,.pointer (some ⟨b,0,none⟩)),(5,.pointer (some ⟨b,28,none⟩)),(6,.pointer (some ⟨b,28+t,none⟩)),(7,.int .u64 (ix:Nat)),(8,.int .u64 (mx1:Nat)),(9,.pointer (some ⟨b,0,none⟩)),(10,.pointer (some ⟨b,12,none⟩))] [] 11 0) 2 rfl ?cfall ?cfend
   case cfall=>
    iterate 11
     refine bV.q rfl rfl rfl (fun xs W HF hE K' hK=>?_) ?_
     ·simp only[ckEqs,ckLook,Nat.reduceBEq] at hE;simp only[fillA,fillL,sA,sB,sC,Act.put,hE] at hK ⊢;clear hE;obtain⟨y8,y9,y10,yn,ym⟩:=CC.out W7 W n5 H7.out H56.out.2.2.2.2.2.2.1 (UG.out.trans HF.out);have V:=VH.out W ((UG.out.trans HF.out).keep _ _ T7.out trivial);have v4:=V.2.2.1;have v5:=V.2.2.2.1;have v7:=V.2.2.2.2;clear V;rw[H56.out.2.2.2.2.2.2.2.2,d_ (by rw[HL16.out.2];exact HT.out),if_pos rfl] at ym;(try simp only[gA,gB,gC]);go_simp;exact hK.out _ rfl
    exact bV.nil
   case cfend=>
    intro xs W hF hA;have HF:=zH hF;have hE:=b_ rfl hA;clear hA hF;simp only[List.map_cons,List.map_nil,ckEqs,ckLook,Nat.reduceBEq] at hE;simp only[fillA,fillL,sA,sB,sC,hE];clear hE;have F8:=zH (UG.out.trans HF.out);have H8:=zH (H7.out.tt F8.out);have an0:=H8.out.nxt (Fr.refl _ W) t HT.out;have an1:=H8.out.free (Fr.refl _ W) (12+t);obtain⟨h9,f9⟩:=H8.out.setN t mx1 HT.out;obtain⟨W8,hW8⟩:=zE (W.setCell ⟨b,12+t,none⟩ (.int .u64 (mx1:Nat)));have hW8':W.setCell ⟨b,12+t,none⟩ (dx mx1)=W8:=hW8;rw[hW8'] at h9 f9
    have h10:DNs X W8 b n6 q:=by rw[←H56.out.2.1];rw[←H56.out.1] at h9;exact h9
    have T8:Hid (W8.heap[g0]? = some (.cells (cM m) 32 (0,0))):=f9.keep _ _ (F8.out.keep _ _ T7.out trivial) gb.out;have FP8:Hid (Fr (fun c _=>c≠b) w W8):=(FP7.out.trans (F8.out.mono fun _ _ _=>trivial)).trans f9;have SU1:=zH (SU.out W8 h10);clear h9 f9 h10 hW8' SU;refine wpN 11 rfl fun K' hK=>?_
    (try simp only[gA,gB,gC]);go_simp;refine hK.out _ _ ?_;clear hK K';refine wpN 12 rfl fun K' hK=>?_
    (try simp only[gA,gB,gC]);go_simp;refine hK.out _ _ ?_;clear hK K';refine wpF ?_
    try rw[hW8]
    clear hW8 an0 an1;go_wp2_with fail
    (with_reducible refine SU1.out.mono ?_);rintro e W9 ⟨rfl,h9,f9⟩;have H9:=zH h9;have T9:Hid (W9.heap[g0]? = some (.cells (cM m) 32 (0,0))):=f9.keep _ _ T8.out gb.out;have FP9:Hid (Fr (fun c _=>c≠b) w W9):=FP8.out.trans f9;clear h9 f9 SU1;by_cases hb:LST<NT
    ·have gj:decide (LST<NT)=true:=decide_eq_true hb;have E1:Hid (n.onAcked m.ms=(nA,[])):=E.out.trans (if_pos hb);clear hb E;have UK:Hid (Fr (fun _ _=>True) W9 W9.drew):=(Fr.refl _ _).drew;have v7:=(VH.out W9 T9.out).2.2.2.2;go_wp2_with fail
     clear v7;refine wy [(137,0),(138,1),(139,2),(140,3),(141,4),(142,5),(143,6),(144,7),(145,8),(146,9),(147,10),(148,11),(149,12),(150,13),(151,14),(152,15)] [(0,[]),(1,[0]),(2,[1]),(3,[2]),(4,[2]),(5,[2,3]),(6,[2,5]),(7,[2,4,6]),(8,[2,7]),(9,[2]),(10,[2,9]),(11,[2,10]),(12,[2,11]),(14,[2,8,13]),(15,[2,14]),(13,[2,12])] (ckR [(0,.pointer (some ⟨g0,7,none⟩)),(1,.bool true),(2,.bool true),(3,.pointer (some ⟨b,0,none⟩)),(4,.int .i64 (t:Nat)),(5,.pointer (some ⟨b,0,none⟩)),(6,.pointer (some ⟨b,12,none⟩)),(7,.pointer (some ⟨b,12+t,none⟩)),(8,.int .u64 (NT:Nat)),(9,.pointer (some ⟨b,0,none⟩)),(10,.pointer (some ⟨b,0,none⟩)),(11,.pointer (some ⟨b,8,none⟩)),(12,.agg #[.int .u64 (bs:Nat),.int .u64 (bt:Nat),.slice ae le ce]),(13,.int .u64 (LST:Nat)),(14,.bool true),(15,.bool true)] [] 16 0) rfl ?cfall ?cfend
     case cfall=>
      iterate 15
       refine bV.q rfl rfl rfl (fun xs W HF hE K' hK=>?_) ?_
       ·simp only[ckEqs,ckLook,Nat.reduceBEq] at hE;simp only[fillA,fillL,sA,sB,sC,Act.put,hE] at hK ⊢;clear hE;obtain⟨y8,y9,y10,yn,ym⟩:=CC.out W9 W nA H9.out HNA.out.2 (UK.out.trans HF.out);have V:=VH.out W ((UK.out.trans HF.out).keep _ _ T9.out trivial);have v4:=V.2.2.1;have v5:=V.2.2.2.1;have v7:=V.2.2.2.2;clear V;rw[HNA.out.1] at yn;(try simp only[gA,gB,gC]);go_simp;exact hK.out _ rfl
      refine bV.p rfl rfl (fun xs W HF hA hE K' hK=>?_) ?_
      ·clear hA;simp only[ckEqs,ckLook,Nat.reduceBEq] at hE;simp only[fillA,fillL,sA,sB,sC,Act.put,hE] at hK ⊢;clear hE;obtain⟨y8,y9,y10,yn,ym⟩:=CC.out W9 W nA H9.out HNA.out.2 (UK.out.trans HF.out);have V:=VH.out W ((UK.out.trans HF.out).keep _ _ T9.out trivial);have v4:=V.2.2.1;have v5:=V.2.2.2.1;have v7:=V.2.2.2.2;clear V;rw[HNA.out.1] at yn;have LA1:=zH (LAST.out W);dsimp only[vL9] at LA1;(try simp only[gA,gB,gC]);go_simp;(with_reducible refine LA1.out.mono ?_);rintro e w8 ⟨rfl,f8⟩;exact hK.out _ _ _ rfl f8 rfl
      exact bV.nil
     case cfend=>intro xs W hF hA;have HF:=zH hF;have hE:=b_ rfl hA;clear hA hF;simp only[List.map_cons,List.map_nil,ckEqs,ckLook,Nat.reduceBEq] at hE;simp only[fillA,fillL,sA,sB,sC,hE];clear hE;have FK:=zH (UK.out.trans HF.out);clear gj;go_wp2;go_ret;rw[E1.out];exact⟨q,_,[],rfl,H9.out.tt FK.out,FP9.out.trans (FK.out.mono fun _ _ _=>trivial),OwnMs.nil _ _ _,rfl⟩
    ·have gj:decide (LST<NT)=false:=decide_eq_false hb;have E1:Hid (n.onAcked m.ms=(nA,nA.sendTo (t:Nat))):=E.out.trans (if_neg hb);clear hb E;have UK:Hid (Fr (fun _ _=>True) W9 W9.drew):=(Fr.refl _ _).drew;have v7:=(VH.out W9 T9.out).2.2.2.2;go_wp2_with fail
     clear v7;refine wy [(137,0),(138,1),(139,2),(140,3),(141,4),(142,5),(143,6),(144,7),(145,8),(146,9),(147,10),(148,11),(149,12),(150,13),(151,14),(152,15)] [(0,[]),(1,[0]),(2,[1]),(3,[2]),(4,[2]),(5,[2,3]),(6,[2,5]),(7,[2,4,6]),(8,[2,7]),(9,[2]),(10,[2,9]),(11,[2,10]),(12,[2,11]),(14,[2,8,13]),(15,[2,14]),(13,[2,12])] (ckR [(0,.pointer (some ⟨g0,7,none⟩)),(1,.bool true),(2,.bool true),(3,.pointer (some ⟨b,0,none⟩)),(4,.int .i64 (t:Nat)),(5,.pointer (some ⟨b,0,none⟩)),(6,.pointer (some ⟨b,12,none⟩)),(7,.pointer (some ⟨b,12+t,none⟩)),(8,.int .u64 (NT:Nat)),(9,.pointer (some ⟨b,0,none⟩)),(10,.pointer (some ⟨b,0,none⟩)),(11,.pointer (some ⟨b,8,none⟩)),(12,.agg #[.int .u64 (bs:Nat),.int .u64 (bt:Nat),.slice ae le ce]),(13,.int .u64 (LST:Nat)),(14,.bool false),(15,.bool false)] [] 16 0) rfl ?cfall ?cfend
     case cfall=>
      iterate 15
       refine bV.q rfl rfl rfl (fun xs W HF hE K' hK=>?_) ?_
       ·simp only[ckEqs,ckLook,Nat.reduceBEq] at hE;simp only[fillA,fillL,sA,sB,sC,Act.put,hE] at hK ⊢;clear hE;obtain⟨y8,y9,y10,yn,ym⟩:=CC.out W9 W nA H9.out HNA.out.2 (UK.out.trans HF.out);have V:=VH.out W ((UK.out.trans HF.out).keep _ _ T9.out trivial);have v4:=V.2.2.1;have v5:=V.2.2.2.1;have v7:=V.2.2.2.2;clear V;rw[HNA.out.1] at yn;(try simp only[gA,gB,gC]);go_simp;exact hK.out _ rfl
      refine bV.p rfl rfl (fun xs W HF hA hE K' hK=>?_) ?_
      ·clear hA;simp only[ckEqs,ckLook,Nat.reduceBEq] at hE;simp only[fillA,fillL,sA,sB,sC,Act.put,hE] at hK ⊢;clear hE;obtain⟨y8,y9,y10,yn,ym⟩:=CC.out W9 W nA H9.out HNA.out.2 (UK.out.trans HF.out);have V:=VH.out W ((UK.out.trans HF.out).keep _ _ T9.out trivial);have v4:=V.2.2.1;have v5:=V.2.2.2.1;have v7:=V.2.2.2.2;clear V;rw[HNA.out.1] at yn;have LA1:=zH (LAST.out W);dsimp only[vL9] at LA1;(try simp only[gA,gB,gC]);go_simp;(with_reducible refine LA1.out.mono ?_);rintro e w8 ⟨rfl,f8⟩;exact hK.out _ _ _ rfl f8 rfl
      exact bV.nil
     case cfend=>
      intro xs W hF hA;have HF:=zH hF;have hE:=b_ rfl hA;clear hA hF;simp only[List.map_cons,List.map_nil,ckEqs,ckLook,Nat.reduceBEq] at hE;simp only[fillA,fillL,sA,sB,sC,hE];clear hE;have FK:=zH (UK.out.trans HF.out);clear gj;have TOC1:=zH (TO.out W (H9.out.tt FK.out));clear TO;go_wp2_with fail
      (with_reducible refine TOC1.out.mono ?_);rintro e W7 ⟨⟨v,mvs,rfl,o7,e7⟩,f7⟩;have HH:=zH (And.intro o7 (And.intro e7 f7));clear o7 e7 f7 TOC1;go_wp2;go_ret;rw[E1.out];exact⟨q,_,mvs,rfl,(H9.out.tt FK.out).tt HH.out.2.2,(FP9.out.trans (FK.out.mono fun _ _ _=>trivial)).trans (HH.out.2.2.mono fun _ _ _=>trivial),HH.out.1.lo (FP9.out.trans (FK.out.mono fun _ _ _=>trivial)).size,HH.out.2.1⟩
end
section
variable {X:Nat→Prop} {w w':World} {b:Nat} {n n':Nd} {q q':DV}
theorem wK [Old] (h:DNs X w b n q) (m:MV) (hk6:m.kind=6) (hnlt:¬n.tm<m.tm) (hlt:¬m.tm<n.tm) (hr:n.role=3) (hx:m.src≠n.me) (t:Nat) (ht:t<16) (hst:m.src=(t:Nat)) (ho:m.ok=true) (hil:¬m.index≤n.log.last) (hcf:0<n.conf.length∧n.conf.length≤12) (hpos:∀x∈n.conf,0≤x∧x≤15) (hnx:∀y∈n.next,y+1<18446744073709551616) (hmx:∀y∈n.mat,y+1<18446744073709551616) (hix:m.index+1<18446744073709551616) (hpv1:m.kind=6→m.prev+1<18446744073709551616) (hl:n.log.last+1<18446744073709551616) (hle:n.log.es.length≤900000):
 Calls Tryz.prog 15 #[.pointer (some ⟨b,0,none⟩),.agg (cM m)] w fun e w'=>jQ X w b (n.onAcked m.ms) e w':=by
 obtain⟨W1,hW1,F1,X1⟩:=gW w m;obtain⟨g0,hg0⟩:=zE w.heap.size;rw[hg0] at X1;have H:=zH h;have HG0:=zH hg0;have gb:Hid (g0≠b):=by have:=bZ h.top;show _≠_;omega
 obtain⟨me,hme⟩:=zE n.me;obtain⟨ro,hro⟩:=zE n.role;obtain⟨tm,htm⟩:=zE n.tm;obtain⟨s,hs⟩:=zE m.src;obtain⟨mt,hmt⟩:=zE m.tm;obtain⟨ix,hixx⟩:=zE m.index;obtain⟨pv,hpv⟩:=zE m.prev;obtain⟨ok,hok⟩:=zE m.ok;have HL:=zH (And.intro hme (And.intro hro (And.intro htm (And.intro hs (And.intro hmt (And.intro hixx (And.intro hpv hok)))))))
 have VH:Hid (∀W:World,W.heap[g0]? = some (.cells (cM m) 32 (0,0))→W.cell? ⟨g0,1,none⟩=some (.int .i64 s)∧W.cell? ⟨g0,3,none⟩=some (.int .u64 (mt:Nat))∧W.cell? ⟨g0,4,none⟩=some (.int .u64 (ix:Nat))∧W.cell? ⟨g0,5,none⟩=some (.int .u64 (pv:Nat))∧W.cell? ⟨g0,7,none⟩=some (.bool ok)):=fun W t=>by obtain⟨v0,v1,v2,v3,v4,v5,v6,v7,v8,v9⟩:=bq t;exact⟨by rw[v1,hs],by rw[v3,hmt],by rw[v4,hixx],by rw[v5,hpv],by rw[v7,hok]⟩
 have v0:W1.cell? ⟨g0,0,none⟩=some (.int .i64 6):=by rw[←hk6];exact(bq X1.out).1
 have y6:W1.cell? ⟨b,6,none⟩=some (.int .u64 (tm:Nat)):=by rw[←htm];exact(h.cells F1.out).2.2.2.2.2.2.1
 have v3:=(VH.out W1 X1.out).2.1;have gl:decide (tm<mt)=false:=by rw[←hmt,←htm];exact decide_eq_false hnlt
 have g1:decide (mt<tm)=false:=by rw[←hmt,←htm];exact decide_eq_false hlt
 obtain rfl:ro=3:=by rw[←hro];exact hr
 have g2:(s==me)=false:=by rw[←hs,←hme];simpa using hx
 obtain rfl:s=(t:Nat):=by rw[←hs];exact hst
 obtain rfl:ok=true:=by rw[←hok];exact ho
 have ht0:¬((t:Nat):Int)<0:=by omega
 have ht15:¬(15:Int)<((t:Nat):Int):=by omega
 obtain⟨bs,hbs⟩:=zE n.log.base;obtain⟨bt,hbt⟩:=zE n.log.bt;obtain⟨ae,le,ce,hve,hlel,hel2,hesl,hlg⟩:=h.lg;have hl2:bs+le+1<18446744073709551616:=by unfold Lg.last at hl;omega
 obtain⟨LST,hLST⟩:=zE (bs+le);have hlast:n.log.last=LST:=by unfold Lg.last;omega
 have LAST:=zH (fun W=>dQ W bs bt ae le ce (by omega));rw[hLST] at LAST;have HQ:=zH (And.intro hve (And.intro hbs hbt));obtain⟨nt,hnt⟩:=zE (n.next.getD t 0);obtain⟨kt,hkt⟩:=zE (n.mat.getD t 0)
 have hkt64:kt+1<18446744073709551616:=by rw[←hkt,List.getD_eq_getElem?_getD,List.getElem?_eq_getElem (by have:=h.ml;omega)];exact hmx _ (List.getElem_mem _)
 have ht2:((t:Nat):Int)<16:=by omega
 have E0:n.onAcked m.ms=if m.ok=true∧(n.acked m.ms).log.last<(n.acked m.ms).next.getD t 0 then(n.acked m.ms,[]) else(n.acked m.ms,(n.acked m.ms).sendTo (t:Nat)):=by
  unfold Nd.onAcked
  rw[if_neg (fun e=>e hk6),if_neg (show ¬n.tm<m.ms.tm from hnlt),if_neg (show ¬(m.ms.tm<n.tm∨n.role≠3∨m.ms.src=n.me∨m.ms.src<0∨15<m.ms.src) by
   have e:m.ms.src=(t:Nat):=hst;rw[e];rintro(e | e | e | e | e)
   ·exact hlt e
   ·exact e hr
   ·exact hx (hst.trans e)
   ·omega
   ·omega)]
  have e:m.ms.src=(t:Nat):=hst;rw[e];rfl
 have CC:Hid (∀W W' nA,DNs X W b nA q→nA.log=n.log→Fr (fun _ _=>True) W W'→W'.cell? ⟨b,8,none⟩=some (.int .u64 (bs:Nat))∧W'.cell? ⟨b,9,none⟩=some (.int .u64 (bt:Nat))∧W'.cell? ⟨b,10,none⟩=some (.slice ae le ce)∧W'.cell? ⟨b,12+t,none⟩=some (.int .u64 (nA.next.getD t 0:Nat))∧W'.cell? ⟨b,28+t,none⟩=some (.int .u64 (nA.mat.getD t 0:Nat))):=fun W W' nA hA hlA f=>by obtain⟨x0,x1,x2,x3,x4,x5,x6,x7,x8,x9,x10,x11⟩:=hA.cells f;exact⟨by rw[x8,hlA,hbs],by rw[x9,hlA,hbt],by rw[x10,hve],hA.nxt f t ht,hA.mtc f t ht⟩
 have HT:=zH ht;have HNK:=zH (And.intro hnt hkt);have hil2:¬ix≤LST:=by omega
 have gi:decide (ix≤LST)=false:=decide_eq_false hil2;obtain⟨nA,hnA⟩:∃x:Nd,n=x:=⟨_,rfl⟩
 have hac:n.acked m.ms=nA:=by unfold Nd.acked;rw[if_neg (show ¬m.ms.ok=false by show ¬m.ok=false;rw[ho];decide),if_neg (show ¬m.ms.index≤n.log.last from hil),hnA]
 have hqA:nA.log=n.log∧nA.next=n.next:=by rw[←hnA];exact⟨rfl,rfl⟩
 have hnn:nt=nA.next.getD t 0:=by rw[←hnA,hnt]
 obtain⟨NT,hNT⟩:=zE nt;rw[hNT] at hnn;have hlA:nA.log=n.log:=hqA.1
 have E:Hid (n.onAcked m.ms=if LST<NT then(nA,[]) else(nA,nA.sendTo (t:Nat))):=by
  show _=_;rw[E0,hac,hlA,hlast,←hnn];by_cases e:LST<NT
  ·rw[if_pos e,if_pos ⟨ho,e⟩]
  ·rw[if_neg e,if_neg (fun e2=>e e2.2)]
 have TO:Hid (∀W,DNs X W b nA q→Calls Tryz.prog 17 #[.pointer (some ⟨b,0,none⟩),.int .i64 (t:Nat)] W fun e w'=>jj X W (nA.sendTo (t:Nat)) e w'):=fun W hA=>j1 hA (t:Nat) (fun y hy=>by rw[hqA.2] at hy;have:=hnx y hy;omega) (by rw[hlA];exact hl) (by rw[hlA];exact hle)
 have HNA:Hid (nA.next.getD t 0=NT∧nA.log=n.log):=⟨hnn.symm,hlA⟩
 unfold cM at hW1 ⊢;have HNN:=zH hnA;clear hk6 hnlt hlt hr hx hst ho hil hil2 hnt hkt hbs hbt hve hlel hel2 hesl hlg hl2 hLST hlast hkt64 E0 hac hqA hnn hNT hlA ht hnA h hme hro htm hs hmt hixx hpv hok hcf hpos hnx hmx hix hpv1 hl hle;go_enter Tryz.func15,Tryz.ntmps15
 go_wp2_with fail
 try rw[hW1]
 try rw[HG0.out]
 clear hW1 hg0 v0;go_quiet (fail)
 clear y6 v3 gl;have UQ:Hid (Fr (fun _ _=>True) W1 (W1.drewN nq)):=(Fr.refl _ W1).drewN nq;generalize W1.drewN nq=W2 at UQ ⊢;have F2:=zH (F1.out.trans UQ.out);have H2:=zH (H.out.tt F2.out);have T2:Hid (W2.heap[g0]? = some (.cells (cM m) 32 (0,0))):=UQ.out.keep _ _ X1.out trivial;have y6:W2.cell? ⟨b,6,none⟩=some (.int .u64 (tm:Nat)):=by rw[←HL.out.2.2.1];exact(H2.out.cells (Fr.refl _ W2)).2.2.2.2.2.2.1
 have y2:W2.cell? ⟨b,2,none⟩=some (.int .i64 3):=by rw[←HL.out.2.1];exact(H2.out.cells (Fr.refl _ W2)).2.2.1
 have y0:W2.cell? ⟨b,0,none⟩=some (.int .i64 me):=by rw[←HL.out.1];exact(H2.out.cells (Fr.refl _ W2)).1
 have v3:=(VH.out W2 T2.out).2.1;have v1:=(VH.out W2 T2.out).1;go_wp2_with fail
 go_quiet (fail)
 clear y6 y2 y0 v3 v1 g1 g2 ht0 ht15;have UQ2:Hid (Fr (fun _ _=>True) W2 (W2.drewN nq)):=(Fr.refl _ W2).drewN nq;generalize W2.drewN nq=W3 at UQ2 ⊢;have F3:=zH (F2.out.trans UQ2.out);have H3:=zH (H2.out.tt UQ2.out);have T3:Hid (W3.heap[g0]? = some (.cells (cM m) 32 (0,0))):=UQ2.out.keep _ _ T2.out trivial;have UD:Hid (Fr (fun _ _=>True) W3 W3.drew):=(Fr.refl _ _).drew;have v1:=(VH.out W3 T3.out).1;go_wp2_with fail
 clear v1;refine wy [(56,0),(57,1),(58,2),(59,3),(60,4),(61,5),(62,6),(63,7),(64,8),(65,9),(66,10),(67,11)] [(0,[]),(1,[0]),(2,[1]),(3,[2]),(4,[2,3]),(5,[2]),(6,[2,5]),(7,[2,6]),(8,[2,7]),(10,[2,4,9]),(11,[2,10]),(9,[2,8])] (ckR [(0,.pointer (some ⟨g0,7,none⟩)),(1,.bool true),(2,.bool true),(3,.pointer (some ⟨g0,4,none⟩)),(4,.int .u64 (ix:Nat)),(5,.pointer (some ⟨b,0,none⟩)),(6,.pointer (some ⟨b,0,none⟩)),(7,.pointer (some ⟨b,8,none⟩)),(8,.agg #[.int .u64 (bs:Nat),.int .u64 (bt:Nat),.slice ae le ce]),(9,.int .u64 (LST:Nat)),(10,.bool false),(11,.bool false)] [] 12 0) rfl ?cfall ?cfend
 case cfall=>
  iterate 11
   refine bV.q rfl rfl rfl (fun xs W HF hE K' hK=>?_) ?_
   ·simp only[ckEqs,ckLook,Nat.reduceBEq] at hE;simp only[fillA,fillL,sA,sB,sC,Act.put,hE] at hK ⊢;clear hE;obtain⟨y8,y9,y10,yn,ym⟩:=CC.out W3 W n H3.out rfl (UD.out.trans HF.out);have V:=VH.out W ((UD.out.trans HF.out).keep _ _ T3.out trivial);have v4:=V.2.2.1;have v5:=V.2.2.2.1;have v7:=V.2.2.2.2;clear V;(try simp only[gA,gB,gC]);go_simp;exact hK.out _ rfl
  refine bV.p rfl rfl (fun xs W HF hA hE K' hK=>?_) ?_
  ·clear hA;simp only[ckEqs,ckLook,Nat.reduceBEq] at hE;simp only[fillA,fillL,sA,sB,sC,Act.put,hE] at hK ⊢;clear hE;obtain⟨y8,y9,y10,yn,ym⟩:=CC.out W3 W n H3.out rfl (UD.out.trans HF.out);have V:=VH.out W ((UD.out.trans HF.out).keep _ _ T3.out trivial);have v4:=V.2.2.1;have v5:=V.2.2.2.1;have v7:=V.2.2.2.2;clear V;have LA1:=zH (LAST.out W);dsimp only[vL9] at LA1;(try simp only[gA,gB,gC]);go_simp;(with_reducible refine LA1.out.mono ?_);rintro e w8 ⟨rfl,f8⟩;exact hK.out _ _ _ rfl f8 rfl
  exact bV.nil
 case cfend=>
  intro xs W hF hA;have HF:=zH hF;have hE:=b_ rfl hA;clear hA hF;simp only[List.map_cons,List.map_nil,ckEqs,ckLook,Nat.reduceBEq] at hE;simp only[fillA,fillL,sA,sB,sC,hE];clear hE;have F9:=zH (UD.out.trans HF.out);obtain⟨W9,hW9⟩:=zE W;rw[hW9] at HF F9 ⊢;have H9:Hid (DNs X W9 b nA q):=by show DNs X W9 b nA q;rw[←HNN.out];exact H3.out.tt F9.out
  have T9:Hid (W9.heap[g0]? = some (.cells (cM m) 32 (0,0))):=F9.out.keep _ _ T3.out trivial;have FP9:Hid (Fr (fun c _=>c≠b) w W9):=(F3.out.trans F9.out).mono fun _ _ _=>trivial
  clear hW9 gi;by_cases hb:LST<NT
  ·have gj:decide (LST<NT)=true:=decide_eq_true hb;have E1:Hid (n.onAcked m.ms=(nA,[])):=E.out.trans (if_pos hb);clear hb E;have UK:Hid (Fr (fun _ _=>True) W9 W9.drew):=(Fr.refl _ _).drew;have v7:=(VH.out W9 T9.out).2.2.2.2;go_wp2_with fail
   clear v7;refine wy [(137,0),(138,1),(139,2),(140,3),(141,4),(142,5),(143,6),(144,7),(145,8),(146,9),(147,10),(148,11),(149,12),(150,13),(151,14),(152,15)] [(0,[]),(1,[0]),(2,[1]),(3,[2]),(4,[2]),(5,[2,3]),(6,[2,5]),(7,[2,4,6]),(8,[2,7]),(9,[2]),(10,[2,9]),(11,[2,10]),(12,[2,11]),(14,[2,8,13]),(15,[2,14]),(13,[2,12])] (ckR [(0,.pointer (some ⟨g0,7,none⟩)),(1,.bool true),(2,.bool true),(3,.pointer (some ⟨b,0,none⟩)),(4,.int .i64 (t:Nat)),(5,.pointer (some ⟨b,0,none⟩)),(6,.pointer (some ⟨b,12,none⟩)),(7,.pointer (some ⟨b,12+t,none⟩)),(8,.int .u64 (NT:Nat)),(9,.pointer (some ⟨b,0,none⟩)),(10,.pointer (some ⟨b,0,none⟩)),(11,.pointer (some ⟨b,8,none⟩)),(12,.agg #[.int .u64 (bs:Nat),.int .u64 (bt:Nat),.slice ae le ce]),(13,.int .u64 (LST:Nat)),(14,.bool true),(15,.bool true)] [] 16 0) rfl ?cfall ?cfend
   case cfall=>
    iterate 15
     refine bV.q rfl rfl rfl (fun xs W HF hE K' hK=>?_) ?_
     ·simp only[ckEqs,ckLook,Nat.reduceBEq] at hE;simp only[fillA,fillL,sA,sB,sC,Act.put,hE] at hK ⊢;clear hE;obtain⟨y8,y9,y10,yn,ym⟩:=CC.out W9 W nA H9.out HNA.out.2 (UK.out.trans HF.out);have V:=VH.out W ((UK.out.trans HF.out).keep _ _ T9.out trivial);have v4:=V.2.2.1;have v5:=V.2.2.2.1;have v7:=V.2.2.2.2;clear V;rw[HNA.out.1] at yn;(try simp only[gA,gB,gC]);go_simp;exact hK.out _ rfl
    refine bV.p rfl rfl (fun xs W HF hA hE K' hK=>?_) ?_
    ·clear hA;simp only[ckEqs,ckLook,Nat.reduceBEq] at hE;simp only[fillA,fillL,sA,sB,sC,Act.put,hE] at hK ⊢;clear hE;obtain⟨y8,y9,y10,yn,ym⟩:=CC.out W9 W nA H9.out HNA.out.2 (UK.out.trans HF.out);have V:=VH.out W ((UK.out.trans HF.out).keep _ _ T9.out trivial);have v4:=V.2.2.1;have v5:=V.2.2.2.1;have v7:=V.2.2.2.2;clear V;rw[HNA.out.1] at yn;have LA1:=zH (LAST.out W);dsimp only[vL9] at LA1;(try simp only[gA,gB,gC]);go_simp;(with_reducible refine LA1.out.mono ?_);rintro e w8 ⟨rfl,f8⟩;exact hK.out _ _ _ rfl f8 rfl
    exact bV.nil
   case cfend=>intro xs W hF hA;have HF:=zH hF;have hE:=b_ rfl hA;clear hA hF;simp only[List.map_cons,List.map_nil,ckEqs,ckLook,Nat.reduceBEq] at hE;simp only[fillA,fillL,sA,sB,sC,hE];clear hE;have FK:=zH (UK.out.trans HF.out);clear gj;go_wp2;go_ret;rw[E1.out];exact⟨q,_,[],rfl,H9.out.tt FK.out,FP9.out.trans (FK.out.mono fun _ _ _=>trivial),OwnMs.nil _ _ _,rfl⟩
  ·have gj:decide (LST<NT)=false:=decide_eq_false hb;have E1:Hid (n.onAcked m.ms=(nA,nA.sendTo (t:Nat))):=E.out.trans (if_neg hb);clear hb E;have UK:Hid (Fr (fun _ _=>True) W9 W9.drew):=(Fr.refl _ _).drew;have v7:=(VH.out W9 T9.out).2.2.2.2;go_wp2_with fail
   clear v7;refine wy [(137,0),(138,1),(139,2),(140,3),(141,4),(142,5),(143,6),(144,7),(145,8),(146,9),(147,10),(148,11),(149,12),(150,13),(151,14),(152,15)] [(0,[]),(1,[0]),(2,[1]),(3,[2]),(4,[2]),(5,[2,3]),(6,[2,5]),(7,[2,4,6]),(8,[2,7]),(9,[2]),(10,[2,9]),(11,[2,10]),(12,[2,11]),(14,[2,8,13]),(15,[2,14]),(13,[2,12])] (ckR [(0,.pointer (some ⟨g0,7,none⟩)),(1,.bool true),(2,.bool true),(3,.pointer (some ⟨b,0,none⟩)),(4,.int .i64 (t:Nat)),(5,.pointer (some ⟨b,0,none⟩)),(6,.pointer (some ⟨b,12,none⟩)),(7,.pointer (some ⟨b,12+t,none⟩)),(8,.int .u64 (NT:Nat)),(9,.pointer (some ⟨b,0,none⟩)),(10,.pointer (some ⟨b,0,none⟩)),(11,.pointer (some ⟨b,8,none⟩)),(12,.agg #[.int .u64 (bs:Nat),.int .u64 (bt:Nat),.slice ae le ce]),(13,.int .u64 (LST:Nat)),(14,.bool false),(15,.bool false)] [] 16 0) rfl ?cfall ?cfend
   case cfall=>
    iterate 15
     refine bV.q rfl rfl rfl (fun xs W HF hE K' hK=>?_) ?_
     ·simp only[ckEqs,ckLook,Nat.reduceBEq] at hE;simp only[fillA,fillL,sA,sB,sC,Act.put,hE] at hK ⊢;clear hE;obtain⟨y8,y9,y10,yn,ym⟩:=CC.out W9 W nA H9.out HNA.out.2 (UK.out.trans HF.out);have V:=VH.out W ((UK.out.trans HF.out).keep _ _ T9.out trivial);have v4:=V.2.2.1;have v5:=V.2.2.2.1;have v7:=V.2.2.2.2;clear V;rw[HNA.out.1] at yn;(try simp only[gA,gB,gC]);go_simp;exact hK.out _ rfl
    refine bV.p rfl rfl (fun xs W HF hA hE K' hK=>?_) ?_
    ·clear hA;simp only[ckEqs,ckLook,Nat.reduceBEq] at hE;simp only[fillA,fillL,sA,sB,sC,Act.put,hE] at hK ⊢;clear hE;obtain⟨y8,y9,y10,yn,ym⟩:=CC.out W9 W nA H9.out HNA.out.2 (UK.out.trans HF.out);have V:=VH.out W ((UK.out.trans HF.out).keep _ _ T9.out trivial);have v4:=V.2.2.1;have v5:=V.2.2.2.1;have v7:=V.2.2.2.2;clear V;rw[HNA.out.1] at yn;have LA1:=zH (LAST.out W);dsimp only[vL9] at LA1;(try simp only[gA,gB,gC]);go_simp;(with_reducible refine LA1.out.mono ?_);rintro e w8 ⟨rfl,f8⟩;exact hK.out _ _ _ rfl f8 rfl
    exact bV.nil
   case cfend=>
    intro xs W hF hA;have HF:=zH hF;have hE:=b_ rfl hA;clear hA hF;simp only[List.map_cons,List.map_nil,ckEqs,ckLook,Nat.reduceBEq] at hE;simp only[fillA,fillL,sA,sB,sC,hE];clear hE;have FK:=zH (UK.out.trans HF.out);clear gj;have TOC1:=zH (TO.out W (H9.out.tt FK.out));clear TO;go_wp2_with fail
    (with_reducible refine TOC1.out.mono ?_);rintro e W7 ⟨⟨v,mvs,rfl,o7,e7⟩,f7⟩;have HH:=zH (And.intro o7 (And.intro e7 f7));clear o7 e7 f7 TOC1;go_wp2;go_ret;rw[E1.out];exact⟨q,_,mvs,rfl,(H9.out.tt FK.out).tt HH.out.2.2,(FP9.out.trans (FK.out.mono fun _ _ _=>trivial)).trans (HH.out.2.2.mono fun _ _ _=>trivial),HH.out.1.lo (FP9.out.trans (FK.out.mono fun _ _ _=>trivial)).size,HH.out.2.1⟩
end
section
variable {X:Nat→Prop} {w w':World} {b:Nat} {n n':Nd} {q q':DV}
theorem y_ [Old] (h:DNs X w b n q) (m:MV)  (hcf:0<n.conf.length∧n.conf.length≤12) (hpos:∀x∈n.conf,0≤x∧x≤15) (hnx:∀y∈n.next,y+1<18446744073709551616) (hmx:∀y∈n.mat,y+1<18446744073709551616) (hix:m.index+1<18446744073709551616) (hpv1:m.kind=6→m.prev+1<18446744073709551616) (hl:n.log.last+1<18446744073709551616) (hle:n.log.es.length≤900000):
 Calls Tryz.prog 15 #[.pointer (some ⟨b,0,none⟩),.agg (cM m)] w fun e w'=>jQ X w b (n.onAcked m.ms) e w':=by
 by_cases hk6:m.kind=6
 ·by_cases hup:n.tm<m.tm
  ·exact vv h m hk6 hup hcf hpos hnx hmx hix hpv1 hl hle
  ·by_cases hlt:m.tm<n.tm
   ·exact v_ h m hk6 hup hlt hcf hpos hnx hmx hix hpv1 hl hle
   ·by_cases hr:n.role=3
    ·by_cases hx:m.src=n.me
     ·exact wZ h m hk6 hup hlt hr hx hcf hpos hnx hmx hix hpv1 hl hle
     ·by_cases h0:m.src<0
      ·exact wX h m hk6 hup hlt hr hx h0 hcf hpos hnx hmx hix hpv1 hl hle
      ·by_cases h15:15<m.src
       ·exact wQ h m hk6 hup hlt hr hx h0 h15 hcf hpos hnx hmx hix hpv1 hl hle
       ·obtain⟨t,ht⟩:=Int.eq_ofNat_of_zero_le (show 0≤m.src by omega);have ht16:t<16:=by omega
        cases ho:m.ok with
        | false=>
         exact wJ h m hk6 hup hlt hr hx t ht16 ht ho hcf hpos hnx hmx hix hpv1 hl hle
        | true=>
         by_cases hil:m.index≤n.log.last
         ·by_cases hp:n.mat.getD t 0<m.index
          ·exact ry h m hk6 hup hlt hr hx t ht16 ht ho hil hp hcf hpos hnx hmx hix hpv1 hl hle
          ·exact r_ h m hk6 hup hlt hr hx t ht16 ht ho hil hp hcf hpos hnx hmx hix hpv1 hl hle
         ·exact wK h m hk6 hup hlt hr hx t ht16 ht ho hil hcf hpos hnx hmx hix hpv1 hl hle
    ·exact vw h m hk6 hup hlt hr hcf hpos hnx hmx hix hpv1 hl hle
 ·exact wV h m hk6 hcf hpos hnx hmx hix hpv1 hl hle
end
end Go.Proofs.YtmjccpfchhnfhaaGreat
