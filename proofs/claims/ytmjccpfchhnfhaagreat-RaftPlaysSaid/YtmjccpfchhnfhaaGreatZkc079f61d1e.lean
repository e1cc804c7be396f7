/- Texts of the proofs, part 41: what the functions that they reach do, walked; no conditions beyond those that each states. -/
import Derived.Test.YtmjccpfchhnfhaaGreatZk2e6e04eea1
import Derived.Test.YtmjccpfchhnfhaaGreatZkb360630222
import Derived.Test.YtmjccpfchhnfhaaGreatZkb03f455390
set_option linter.unusedVariables false
set_option linter.unusedSimpArgs false
set_option maxRecDepth 100000
set_option maxHeartbeats 8000000
namespace Go.Proofs.YtmjccpfchhnfhaaGreat
open Go.RowKit
section
variable {X:Nat→Prop} {w w':World} {b:Nat} {n n':Nd} {q q':DV}
theorem sQ [Old] (h:DNs X w b n q) (m:MV) (hk6:m.kind=6) (hnlt:¬n.tm<m.tm) (hlt:¬m.tm<n.tm) (hr:n.role=3) (hx:m.src≠n.me) (t:Nat) (ht:t<16) (hst:m.src=(t:Nat)) (ho:m.ok=true) (hil:m.index≤n.log.last) (hp:n.mat.getD t 0<m.index) (hcf:0<n.conf.length∧n.conf.length≤12) (hpos:∀x∈n.conf,0≤x∧x≤15) (hnx:∀y∈n.next,y+1<18446744073709551616) (hmx:∀y∈n.mat,y+1<18446744073709551616) (hix:m.index+1<18446744073709551616) (hpv1:m.kind=6→m.prev+1<18446744073709551616) (hl:n.log.last+1<18446744073709551616) (hle:n.log.es.length≤900000):
 Calls Tryz.prog 15 #[.pointer (some ⟨b,0,none⟩),.agg (cM m)] w fun e w'=>gQ X w b (n.onAcked m.ms) e w':=by
 refine kXu ?_;intro W1 hW1 F1 g0 hg0 X1 H HG0 gb me hme ro hro tm htm s hs mt hmt ix hixx pv hpv ok hok HL
 have VH:Hid (∀W:World,W.heap[g0]? = some (.cells (cM m) 32 (0,0))→W.cell? ⟨g0,1,none⟩=some (.int .i64 s)∧W.cell? ⟨g0,3,none⟩=some (.int .u64 (mt:Nat))∧W.cell? ⟨g0,4,none⟩=some (.int .u64 (ix:Nat))∧W.cell? ⟨g0,5,none⟩=some (.int .u64 (pv:Nat))∧W.cell? ⟨g0,7,none⟩=some (.bool ok)):=fun W t=>by exact mQr
 refine koo ?_;intro v0 y6 v3 gl g1;obtain rfl:ro=3:=by rw[←hro];exact hr
 refine krq ?_;intro g2;obtain rfl:s=(t:Nat):=by rw[←hs];exact hst
 obtain rfl:ok=true:=by rw[←hok];exact ho
 refine kuv ?_;intro ht0 ht15 bs hbs bt hbt ae le ce hve hlel hel2 hesl hlg hl2 LST hLST hlast LAST HQ nt hnt kt hkt
 have hkt64:kt+1<18446744073709551616:=by exact mmQ
 have ht2:((t:Nat):Int)<16:=by omega
 have E0:n.onAcked m.ms=if m.ok=true∧(n.acked m.ms).log.last<(n.acked m.ms).next.getD t 0 then(n.acked m.ms,[]) else(n.acked m.ms,(n.acked m.ms).sendTo (t:Nat)):=by exact mFs
 have CC:Hid (∀W W' nA,DNs X W b nA q→nA.log=n.log→FT W W'→W'.cell? ⟨b,8,none⟩=some (.int .u64 (bs:Nat))∧W'.cell? ⟨b,9,none⟩=some (.int .u64 (bt:Nat))∧W'.cell? ⟨b,10,none⟩=some (.slice ae le ce)∧W'.cell? ⟨b,12+t,none⟩=some (.int .u64 (nA.next.getD t 0:Nat))∧W'.cell? ⟨b,28+t,none⟩=some (.int .u64 (nA.mat.getD t 0:Nat))):=fun W W' nA hA hlA f=>by exact mRA
 refine kpu ?_;intro HT HNK hil2 gi;rw[hkt,hixx] at hp;have gp:decide (kt<ix)=true:=decide_eq_true hp;have hmxx:max kt ix=ix:=by omega
 obtain⟨mx1,hmx1⟩:=zE (ix+1);have wk1:IntKind.u64.wrap ((ix:Int)+1)=((mx1:Nat):Int):=by rw[IntKind.wrap_u64];omega
 obtain⟨n5,hn5⟩:∃x:Nd,{ n with mat:=n.mat.set t ix }=x:=⟨_,rfl⟩
 obtain⟨n6,hn6⟩:∃x:Nd,{ n with mat:=n.mat.set t ix,next:=n.next.set t mx1 }=x:=⟨_,rfl⟩
 obtain⟨nA,hnA⟩:∃x:Nd,n6.sure=x:=⟨_,rfl⟩
 have hac:n.acked m.ms=nA:=by exact mk0
 have hq6:n6.log=n.log∧n6.conf=n.conf∧n6.next=n.next.set t mx1∧n6.mat=n.mat.set t ix∧n5.log=n.log∧n5.next=n.next∧n5.mat=n.mat.set t ix:=by rw[←hn6,←hn5];exact⟨rfl,rfl,rfl,rfl,rfl,rfl,rfl⟩
 have hqA:nA.log=n6.log∧nA.next=n6.next:=by exact m5c
 refine kg6 ?_;intro SU NT hNT hnn hlA
 have E:Hid (n.onAcked m.ms=if LST<NT then(nA,[]) else(nA,nA.sendTo (t:Nat))):=by exact m0L
 have TO:Hid (∀W,DNs X W b nA q→Calls Tryz.prog 17 #[.pointer (some ⟨b,0,none⟩),.int .i64 (t:Nat)] W fun e w'=>jj X W (nA.sendTo (t:Nat)) e w'):=fun W hA=>jy hA (t:Nat) (fun y hy=>by
  rw[hqA.2,hq6.2.2.1] at hy;rcases List.mem_or_eq_of_mem_set hy with hy | hy
  ·have:=hnx y hy;omega
  ·omega) (by rw[hlA];exact hl) (by rw[hlA];exact hle)
 have HNA:Hid (nA.next.getD t 0=NT∧nA.log=n.log):=⟨hnn.symm,hlA⟩
 unfold cM at hW1 ⊢;have H56:=zH (And.intro hn5 (And.intro hn6 hq6));clear hk6 hnlt hlt hr hx hst ho hil hil2 hnt hkt hbs hbt hve hlel hel2 hesl hlg hl2 hLST hlast hkt64 E0 hac hqA hnn hNT hlA ht hp hmxx hmx1 hn5 hn6 hnA hq6 h hme hro htm hs hmt hixx hpv hok hcf hpos hnx hmx hix hpv1 hl hle;go_enter Tryz.func15,Tryz.ntmps15
 go_wp2_with fail
 try rw[hW1]
 try rw[HG0.out]
 clear hW1 hg0 v0;go_quiet (fail)
 clear y6 v3 gl;have UQ:Hid (FT W1 (W1.drewN nq)):=(Fr.refl _ W1).drewN nq;generalize W1.drewN nq=W2 at UQ ⊢;refine k0z ?_;intro F2 H2 T2 y6 y2 y0 v3 v1;go_wp2_with fail
 go_quiet (fail)
 clear y6 y2 y0 v3 v1 g1 g2 ht0 ht15;have UQ2:Hid (FT W2 (W2.drewN nq)):=(Fr.refl _ W2).drewN nq;generalize W2.drewN nq=W3 at UQ2 ⊢;refine kbs ?_;intro F3 H3 T3;refine kHL ?_;intro UD v1;go_wp2_with fail
 clear v1;refine L4 [(56,0),(57,1),(58,2),(59,3),(60,4),(61,5),(62,6),(63,7),(64,8),(65,9),(66,10),(67,11)] [(0,[]),(1,[0]),(2,[1]),(3,[2]),(4,[2,3]),(5,[2]),(6,[2,5]),(7,[2,6]),(8,[2,7]),(10,[2,4,9]),(11,[2,10]),(9,[2,8])] (ckR [(0,.pointer (some ⟨g0,7,none⟩)),(1,.bool true),(2,.bool true),(3,.pointer (some ⟨g0,4,none⟩)),(4,.int .u64 (ix:Nat)),(5,.pointer (some ⟨b,0,none⟩)),(6,.pointer (some ⟨b,0,none⟩)),(7,.pointer (some ⟨b,8,none⟩)),(8,.agg #[.int .u64 (bs:Nat),.int .u64 (bt:Nat),.slice ae le ce]),(9,.int .u64 (LST:Nat)),(10,.bool true),(11,.bool true)] [] 12 0) rfl ?cfall ?cfend
 case cfall=>exact mVQ
 case cfend=>
  refine kEE ?_;intro xs W HF;refine kHf ?_;intro F4 H4 T4;have FP4:Hid (Fr (fun c _=>c≠b) w W):=(F3.trans F4).tT;have HL16:Hid (n.next.length=16∧n.mat.length=16):=⟨H4.nl,H4.ml⟩
  obtain⟨W4,hW4⟩:=zE W;rw[hW4] at HF F4 H4 T4 FP4 ⊢;clear hW4 gi;have v4:=(VH W4 T4).2.2.1;have ym:=(CC W4 W4 n H4 rfl (Fr.refl _ _)).2.2.2.2;rw[HNK.out.2] at ym;go_wp2_with fail
  go_quiet (fail)
  clear v4 ym gp;have UQ4:Hid (FT W4 (W4.drewN nq)):=(Fr.refl _ W4).drewN nq;generalize W4.drewN nq=W5 at UQ4 ⊢;refine k7F ?_;intro H5 T5 FP5;have UE:Hid (FT W5 W5.drew):=(Fr.refl _ _).drew;go_wp2_with fail
  refine wpR [(77,0),(78,1),(79,2),(80,3),(81,4),(82,5),(83,6)] [(0,[]),(1,[]),(2,[]),(3,[2]),(4,[0]),(5,[4])] (ckR [(0,.pointer (some ⟨b,0,none⟩)),(1,.int .i64 (t:Nat)),(2,.pointer (some ⟨g0,4,none⟩)),(3,.int .u64 (ix:Nat)),(4,.pointer (some ⟨b,0,none⟩)),(5,.pointer (some ⟨b,28,none⟩))] [] 6 0) 2 rfl ?cfall ?cfend
  case cfall=>
   iterate 6
    refine bY.q rfl rfl rfl (kQQ ?_) ?_
    ·intro xs W HF K' hK;obtain⟨y8,y9,y10,yn,ym⟩:=CC W5 W n H5 rfl (UE.trans HF);have V:=VH W ((UE.trans HF).keep _ _ T5 trivial);have v4:=V.2.2.1;have v5:=V.2.2.2.1;have v7:=V.2.2.2.2;clear V;exact mD8
   exact m36
  case cfend=>
   refine kEE ?_;intro xs W HF;have F6:=zH (UE.trans HF);have H6:=zH (H5.tt F6);have am0:=H6.mtc (Fr.refl _ W) t HT;have am1:=H6.free (Fr.refl _ W) (28+t);obtain⟨h7,f7⟩:=H6.setM t ix HT;obtain⟨W7,hW7⟩:=zE (W.setCell ⟨b,28+t,none⟩ (.int .u64 (ix:Nat)));have hW7':W.setCell ⟨b,28+t,none⟩ (d8 ix)=W7:=hW7;rw[hW7'] at h7 f7;have H7:Hid (DNs X W7 b n5 q):=by show DNs X W7 b n5 q;rw[←H56.out.1];exact h7
   have T7:Hid (W7.heap[g0]? = some (.cells (cM m) 32 (0,0))):=f7.keep _ _ (F6.keep _ _ T5 trivial) gb;have FP7:Hid (Fr (fun c _=>c≠b) w W7):=(FP5.trans (F6.tT)).trans f7;clear h7 f7 hW7';refine wpN 6 rfl fun K' hK=>?_
   skip
   go_simp;refine hK _ _ ?_;clear hK K';refine wpN 7 rfl fun K' hK=>?_
   skip
   go_simp;refine hK _ _ ?_;clear hK K';refine wpF ?_
   try rw[hW7]
   clear hW7 am0 am1;obtain⟨WA,hWA⟩:=zE W;rw[hWA] at HF F6 H6;clear hWA;have UG:Hid (FT W7 W7.drew):=(Fr.refl _ _).drew;go_wp2_with fail
   refine wpR [(84,0),(85,1),(86,2),(87,3),(88,4),(89,5),(90,6),(91,7),(92,8),(93,9),(94,10),(95,11)] [(0,[]),(1,[]),(2,[]),(3,[]),(4,[2]),(5,[4]),(6,[3,5]),(7,[6]),(8,[7]),(9,[0]),(10,[9])] (ckR [(0,.pointer (some ⟨b,0,none⟩)),(1,.int .i64 (t:Nat)),(2,.pointer (some ⟨b,0,none⟩)),(3,.int .i64 (t:Nat)),(4,.pointer (some ⟨b,0,none⟩)),(5,.pointer (some ⟨b,28,none⟩)),(6,.pointer (some ⟨b,28+t,none⟩)),(7,.int .u64 (ix:Nat)),(8,.int .u64 (mx1:Nat)),(9,.pointer (some ⟨b,0,none⟩)),(10,.pointer (some ⟨b,12,none⟩))] [] 11 0) 2 rfl ?cfall ?cfend
   case cfall=>exact m5i
   case cfend=>exact mnR
end
section
variable {X:Nat→Prop} {w w':World} {b:Nat} {n n':Nd} {q q':DV}
theorem xK [Old] (h:DNs X w b n q) (m:MV) (hk6:m.kind=6) (hnlt:¬n.tm<m.tm) (hlt:¬m.tm<n.tm) (hr:n.role=3) (hx:m.src≠n.me) (t:Nat) (ht:t<16) (hst:m.src=(t:Nat)) (ho:m.ok=true) (hil:¬m.index≤n.log.last) (hcf:0<n.conf.length∧n.conf.length≤12) (hpos:∀x∈n.conf,0≤x∧x≤15) (hnx:∀y∈n.next,y+1<18446744073709551616) (hmx:∀y∈n.mat,y+1<18446744073709551616) (hix:m.index+1<18446744073709551616) (hpv1:m.kind=6→m.prev+1<18446744073709551616) (hl:n.log.last+1<18446744073709551616) (hle:n.log.es.length≤900000):
 Calls Tryz.prog 15 #[.pointer (some ⟨b,0,none⟩),.agg (cM m)] w fun e w'=>gQ X w b (n.onAcked m.ms) e w':=by
 refine kXu ?_;intro W1 hW1 F1 g0 hg0 X1 H HG0 gb me hme ro hro tm htm s hs mt hmt ix hixx pv hpv ok hok HL
 have VH:Hid (∀W:World,W.heap[g0]? = some (.cells (cM m) 32 (0,0))→W.cell? ⟨g0,1,none⟩=some (.int .i64 s)∧W.cell? ⟨g0,3,none⟩=some (.int .u64 (mt:Nat))∧W.cell? ⟨g0,4,none⟩=some (.int .u64 (ix:Nat))∧W.cell? ⟨g0,5,none⟩=some (.int .u64 (pv:Nat))∧W.cell? ⟨g0,7,none⟩=some (.bool ok)):=fun W t=>by exact mQr
 refine koo ?_;intro v0 y6 v3 gl g1;obtain rfl:ro=3:=by rw[←hro];exact hr
 refine krq ?_;intro g2;obtain rfl:s=(t:Nat):=by rw[←hs];exact hst
 obtain rfl:ok=true:=by rw[←hok];exact ho
 refine kuv ?_;intro ht0 ht15 bs hbs bt hbt ae le ce hve hlel hel2 hesl hlg hl2 LST hLST hlast LAST HQ nt hnt kt hkt
 have hkt64:kt+1<18446744073709551616:=by exact mmQ
 have ht2:((t:Nat):Int)<16:=by omega
 have E0:n.onAcked m.ms=if m.ok=true∧(n.acked m.ms).log.last<(n.acked m.ms).next.getD t 0 then(n.acked m.ms,[]) else(n.acked m.ms,(n.acked m.ms).sendTo (t:Nat)):=by exact mFs
 have CC:Hid (∀W W' nA,DNs X W b nA q→nA.log=n.log→FT W W'→W'.cell? ⟨b,8,none⟩=some (.int .u64 (bs:Nat))∧W'.cell? ⟨b,9,none⟩=some (.int .u64 (bt:Nat))∧W'.cell? ⟨b,10,none⟩=some (.slice ae le ce)∧W'.cell? ⟨b,12+t,none⟩=some (.int .u64 (nA.next.getD t 0:Nat))∧W'.cell? ⟨b,28+t,none⟩=some (.int .u64 (nA.mat.getD t 0:Nat))):=fun W W' nA hA hlA f=>by exact mRA
 have HT:=zH ht;have HNK:=zH (And.intro hnt hkt);have hil2:¬ix≤LST:=by omega
 have gi:decide (ix≤LST)=false:=decide_eq_false hil2;obtain⟨nA,hnA⟩:∃x:Nd,n=x:=⟨_,rfl⟩
 have hac:n.acked m.ms=nA:=by exact m6I
 refine k0C ?_;intro hqA NT hNT hnn hlA
 have E:Hid (n.onAcked m.ms=if LST<NT then(nA,[]) else(nA,nA.sendTo (t:Nat))):=by exact m0L
 have TO:Hid (∀W,DNs X W b nA q→Calls Tryz.prog 17 #[.pointer (some ⟨b,0,none⟩),.int .i64 (t:Nat)] W fun e w'=>jj X W (nA.sendTo (t:Nat)) e w'):=fun W hA=>jy hA (t:Nat) (fun y hy=>by rw[hqA.2] at hy;have:=hnx y hy;omega) (by rw[hlA];exact hl) (by rw[hlA];exact hle)
 have HNA:Hid (nA.next.getD t 0=NT∧nA.log=n.log):=⟨hnn.symm,hlA⟩
 unfold cM at hW1 ⊢;have HNN:=zH hnA;clear hk6 hnlt hlt hr hx hst ho hil hil2 hnt hkt hbs hbt hve hlel hel2 hesl hlg hl2 hLST hlast hkt64 E0 hac hqA hnn hNT hlA ht hnA h hme hro htm hs hmt hixx hpv hok hcf hpos hnx hmx hix hpv1 hl hle;go_enter Tryz.func15,Tryz.ntmps15
 go_wp2_with fail
 try rw[hW1]
 try rw[HG0.out]
 clear hW1 hg0 v0;go_quiet (fail)
 clear y6 v3 gl;have UQ:Hid (FT W1 (W1.drewN nq)):=(Fr.refl _ W1).drewN nq;generalize W1.drewN nq=W2 at UQ ⊢;refine k0z ?_;intro F2 H2 T2 y6 y2 y0 v3 v1;go_wp2_with fail
 go_quiet (fail)
 clear y6 y2 y0 v3 v1 g1 g2 ht0 ht15;have UQ2:Hid (FT W2 (W2.drewN nq)):=(Fr.refl _ W2).drewN nq;generalize W2.drewN nq=W3 at UQ2 ⊢;refine kbs ?_;intro F3 H3 T3;refine kHL ?_;intro UD v1;go_wp2_with fail
 clear v1;refine L4 [(56,0),(57,1),(58,2),(59,3),(60,4),(61,5),(62,6),(63,7),(64,8),(65,9),(66,10),(67,11)] [(0,[]),(1,[0]),(2,[1]),(3,[2]),(4,[2,3]),(5,[2]),(6,[2,5]),(7,[2,6]),(8,[2,7]),(10,[2,4,9]),(11,[2,10]),(9,[2,8])] (ckR [(0,.pointer (some ⟨g0,7,none⟩)),(1,.bool true),(2,.bool true),(3,.pointer (some ⟨g0,4,none⟩)),(4,.int .u64 (ix:Nat)),(5,.pointer (some ⟨b,0,none⟩)),(6,.pointer (some ⟨b,0,none⟩)),(7,.pointer (some ⟨b,8,none⟩)),(8,.agg #[.int .u64 (bs:Nat),.int .u64 (bt:Nat),.slice ae le ce]),(9,.int .u64 (LST:Nat)),(10,.bool false),(11,.bool false)] [] 12 0) rfl ?cfall ?cfend
 case cfall=>exact mVQ
 case cfend=>
  refine kEE ?_;intro xs W HF;have F9:=zH (UD.trans HF);obtain⟨W9,hW9⟩:=zE W;rw[hW9] at HF F9 ⊢;have H9:Hid (DNs X W9 b nA q):=by show DNs X W9 b nA q;rw[←HNN.out];exact H3.out.tt F9.out
  have T9:Hid (W9.heap[g0]? = some (.cells (cM m) 32 (0,0))):=F9.keep _ _ T3 trivial;have FP9:Hid (Fr (fun c _=>c≠b) w W9):=(F3.trans F9).tT;clear hW9 gi;exact mJb
end
section
variable {X:Nat→Prop} {w w':World} {b:Nat} {n n':Nd} {q q':DV}
theorem Bq [Old] (h:DNs X w b n q) (m:MV)  (hcf:0<n.conf.length∧n.conf.length≤12) (hpos:∀x∈n.conf,0≤x∧x≤15) (hnx:∀y∈n.next,y+1<18446744073709551616) (hmx:∀y∈n.mat,y+1<18446744073709551616) (hix:m.index+1<18446744073709551616) (hpv1:m.kind=6→m.prev+1<18446744073709551616) (hl:n.log.last+1<18446744073709551616) (hle:n.log.es.length≤900000):
 Calls Tryz.prog 15 #[.pointer (some ⟨b,0,none⟩),.agg (cM m)] w fun e w'=>gQ X w b (n.onAcked m.ms) e w':=by
 by_cases hk6:m.kind=6
 ·by_cases hup:n.tm<m.tm
  ·exact ww h m hk6 hup hcf hpos hnx hmx hix hpv1 hl hle
  ·by_cases hlt:m.tm<n.tm
   ·exact w_ h m hk6 hup hlt hcf hpos hnx hmx hix hpv1 hl hle
   ·by_cases hr:n.role=3
    ·by_cases hx:m.src=n.me
     ·exact xZ h m hk6 hup hlt hr hx hcf hpos hnx hmx hix hpv1 hl hle
     ·by_cases h0:m.src<0
      ·exact xX h m hk6 hup hlt hr hx h0 hcf hpos hnx hmx hix hpv1 hl hle
      ·by_cases h15:15<m.src
       ·exact xQ h m hk6 hup hlt hr hx h0 h15 hcf hpos hnx hmx hix hpv1 hl hle
       ·obtain⟨t,ht⟩:=Int.eq_ofNat_of_zero_le (show 0≤m.src by omega);have ht16:t<16:=by omega
        cases ho:m.ok with
        | false=>
         exact xJ h m hk6 hup hlt hr hx t ht16 ht ho hcf hpos hnx hmx hix hpv1 hl hle
        | true=>
         by_cases hil:m.index≤n.log.last
         ·by_cases hp:n.mat.getD t 0<m.index
          ·exact sQ h m hk6 hup hlt hr hx t ht16 ht ho hil hp hcf hpos hnx hmx hix hpv1 hl hle
          ·exact sZ h m hk6 hup hlt hr hx t ht16 ht ho hil hp hcf hpos hnx hmx hix hpv1 hl hle
         ·exact xK h m hk6 hup hlt hr hx t ht16 ht ho hil hcf hpos hnx hmx hix hpv1 hl hle
    ·exact wy h m hk6 hup hlt hr hcf hpos hnx hmx hix hpv1 hl hle
 ·exact xV h m hk6 hcf hpos hnx hmx hix hpv1 hl hle
end
theorem fx {K0:Nat→Obj→Prop} {o:Oper} {a:Act} {K:Act→World→Prop} {Q:Exit→Act→World→Prop} (W:World) (s x:Operand)
 (ho:o.op=.call { callee:=.builtin .append,args:=#[s,x],argTypes:=#[39,39] }) (v:Value) (T:List MV) (hs:a.eval s=v) (hown:Hid (W.ownsRow 0 32 10 v T.length (T.flatMap encM)))
 (vx:Value) (ys:List MV) (hx:a.eval x=vx) (hvx:Hid (RowsAt K0 W vx 10 encM ys)) (N:Nat) (hN:Hid ((T++ys).length=N)) (hn:N≤1000000)
 (h:∀g c w',Hid (w'.ownsRow 0 32 10 (.slice g N c) N ((T++ys).flatMap encM))→Hid (Fr (fun b _=>v.ownBlock≠some b) W w')→Hid (OwnNext W v (.slice g N c))→K (a.put o.dst (.slice g N c)) w'):o.wp Tryz.prog a W K Q:=by
 have f0:FT { W with heap:=#[] } W:=⟨rfl,rfl,rfl,Nat.zero_le _,fun b o hb=>by simp at hb⟩
 exact fq { W with heap:=#[] } W f0 s x ho v T hs hown vx ys hx hvx (T++ys) rfl N hN hn fun g c w' h1 _ h3 h4=>h g c w' h1 h3 h4
section
variable {X:Nat→Prop} {w w':World} {b rb ap:Nat} {n n':Nd} {q q':DV}
theorem OwnMs.neR [Old] {B:Nat} {W:World} {v:Value} {ms:List MV} (o:OwnMs X B W v ms) (h:RD W rb b ap):v.ownBlock≠some rb:=fun e=>by
 obtain⟨cur,h0⟩:=cZ o.row e;rw[show W.heap[rb]? = _ from h] at h0;cases h0
theorem gQ.app [Old] {W2 W3:World} {q2:DV} {v1 v2 v3:Value} {mvs mv2:List MV} {ms1 ms2:List Ms} {n2:Nd} {B2:Nat} (h2:DNs X W2 b n2 q2) (af:Fr (fun c _=>c≠b) w W2) (o1:OwnMs X w.heap.size W2 v1 mvs) (o2:OwnMs X B2 W2 v2 mv2) (e1:mvs.map MV.ms=ms1) (e2:mv2.map MV.ms=ms2)
 (hod:∀c,Old.o c→c<w.heap.size) (hr:W3.ownsRow 0 32 10 v3 (mvs++mv2).length ((mvs++mv2).flatMap encM)) (hf:Fr (fun c _=>v1.ownBlock≠some c) W2 W3) (hn:OwnNext W2 v1 v3):DNs X W3 b n2 q2∧Fr (fun c _=>c≠b) w W3∧OwnMs X w.heap.size W3 v3 (mvs++mv2)∧(mvs++mv2).map MV.ms=ms1++ms2:=by
 have hb:=cK o1.row
 have no:∀{c o},v1.ownBlock=some c→W2.heap[c]? = some o→RO X c o→False:=fun {c o} e ho hr=>by exact mys
 have kp:∀{m:MV},MsAt X W2 m→MsAt X W3 m:=fun hm=>hm.keep hf fun c o ho hr e=>no e ho hr
 have ki:∀{v:Value} {zs:List Int},IntsAt (RO X) W2 v zs→IntsAt (RO X) W3 v zs:=fun h=>(((h.mono3 (K':=fun c o=>RO X c o∧v1.ownBlock≠some c) fun c o ho hr=>⟨hr,fun e=>no e ho hr⟩).fr hf fun c o q=>q.2).mono fun c o q=>q.1)
 refine⟨⟨hf.keep _ _ h2.top (fun e=>o1.off b e h2.xb),ki h2.cf,ki h2.ye,⟨h2.ev.row.fr hf fun c o ho hr e=>no e ho hr,h2.ev.nz,fun x hx=>⟨(h2.ev.dat x hx).1.fr3 hf fun c o ho hr e=>no e ho hr,(h2.ev.dat x hx).2⟩⟩,h2.ee,h2.nl,h2.ml,h2.xb,fun c hc=>Nat.lt_of_lt_of_le (h2.hx c hc) hf.size,h2.od⟩,
  ⟨hf.os.trans af.os,hf.tape.trans af.tape,hf.output.trans af.output,Nat.le_trans af.size hf.size,fun c o ho hp=>hf.keep c o (af.keep c o ho hp) fun e=>by have:=hb c e;have:=bX ho;omega⟩,⟨c_ hr fun c e=>?_,fun c e hx=>?_,fun m hm=>?_⟩,by rw[List.map_append,e1,e2]⟩
 ·rcases hn with q | ⟨k,q,hk⟩
  ·rw[q] at e;exact hb c e
  ·rw[q] at e;cases e;have:=af.size;omega
 ·exact mAU
 ·exact mZj
def DSOut [Old] (X:Nat→Prop) (w:World) (b:Nat) (r:(Nd×List Ms)×Int) (e:Ending) (w':World):Prop:=
 ∃q' v mvs,e=.returned (.tuple #[v,.int .i64 r.2])∧DNs X w' b r.1.1 q'∧Fr (fun c _=>c≠b) w w'∧OwnMs X w.heap.size w' v mvs∧mvs.map MV.ms=r.1.2
theorem Dk [Old] (h:DNs X w b n q) (hr:RD w rb b ap) (hrx:rb≠b) (m:MV) (hm:MsAt X w m) (hod:∀c,Old.o c→c<w.heap.size) (hpos:∀x∈n.conf,0≤x∧x≤15) (hg:n.right m.ms=0→Gn n m.ms):
 Calls Tryz.prog 34 #[.pointer (some ⟨rb,0,none⟩),.agg (cM m)] w fun e w'=>DSOut X w b (n.step m.ms) e w':=by
 obtain⟨W1,hW1,F1,T1⟩:=xv w m;have RC:=zH (zk (h.tt F1.out) (hr.fr F1.out fun _=>trivial) m (hm.tt F1.out));obtain⟨c,hc⟩:=zE (n.right m.ms);rw[hc] at RC;have H:=zH h;have R0:=zH hr;have HM:=zH hm;have OD:Hid (∀c,Old.o c→c<W1.heap.size):=fun c k=>Nat.lt_of_lt_of_le (hod c k) F1.out.size
 have HG:=zH hg;have HC:=zH hc;have HPOS:=zH hpos;have RBN:=zH hrx;have GB:Hid (w.heap.size≠b):=by have:=bX h.top;show _≠_;omega
 have GS:Hid (w.heap.size<W1.heap.size):=bX T1.out;obtain⟨res,hres⟩:=zE (n.step m.ms)
 have EQ:Hid (res=if c≠0 then((n,[]),c) else(n.led (n.hear m.ms),0)):=by show res=_;rw[←hres,←hc];rfl
 rw[hres];have CC:Hid (∀W,RD W rb b ap→W.heap[w.heap.size]? = some (.cells (cM m) 32 (0,0))→W.cell? ⟨rb,0,none⟩=some (.pointer (some ⟨b,0,none⟩))∧W.cell? ⟨w.heap.size,0,none⟩=some (.int .i64 m.kind)∧W.cell? ⟨w.heap.size,1,none⟩=some (.int .i64 m.src)∧W.cell? ⟨w.heap.size,2,none⟩=some (.int .i64 m.dst)∧W.cell? ⟨w.heap.size,3,none⟩=some (.int .u64 (m.tm:Nat))∧W.cell? ⟨w.heap.size,4,none⟩=some (.int .u64 (m.index:Nat))∧W.cell? ⟨w.heap.size,5,none⟩=some (.int .u64 (m.prev:Nat))∧W.cell? ⟨w.heap.size,6,none⟩=some (.int .u64 (m.commit:Nat))∧W.cell? ⟨w.heap.size,7,none⟩=some (.bool m.ok)∧W.cell? ⟨w.heap.size,8,none⟩=some (.slice m.da m.d.length m.dc)∧W.cell? ⟨w.heap.size,9,none⟩=some (.slice m.ea m.es.length m.ec)):=fun W h1 h2=>⟨bQ h1 rfl,bq h2⟩
 obtain⟨v0,v1,v2,v3,v4,v5,v6,v7,v8,v9⟩:=bq T1.out;dsimp only[cM] at RC;unfold cM at hW1 ⊢;clear h hr hrx hm hod hg hc hpos hres;go_enter Tryz.func34,Tryz.ntmps34
 go_wp2_with fail
 try rw[hW1]
 clear hW1;(with_reducible refine RC.out.mono ?_);rintro e w2 ⟨rfl,f2⟩;have F2:=zH (F1.out.trans f2);have T2:Hid (w2.heap[w.heap.size]? = some (.cells (cM m) 32 (0,0))):=f2.keep _ _ T1.out trivial;have G2:Hid (w.heap.size<w2.heap.size):=Nat.lt_of_lt_of_le GS.out f2.size;replace OD:Hid (∀c,Old.o c→c<w2.heap.size):=fun c k=>Nat.lt_of_lt_of_le (OD.out c k) f2.size
 clear f2 RC T1 GS v0 v1 v2 v3 v4 v5 v6 v7 v8 v9;obtain⟨W1,hWW⟩:=zE w2;by_cases hc0:c=0
 case neg=>
  have c1:(c != 0)=true:=by simpa using hc0
  have OUT:Hid (res=((n,[]),c)):=EQ.out.trans (if_pos hc0);clear EQ hWW;go_wp2;go_ret2;rw[OUT.out];exact⟨q,_,[],rfl,H.out.tt F2.out,F2.out.mono fun _ _ _=>trivial,OwnMs.nil _ _ _,rfl⟩
 case pos=>
  subst hc0;have OK:=Nd.right_ok HC.out;have K:1≤m.kind∧m.kind≤6:=⟨(Pk OK.1).1,OK.2.2.2.1⟩
  have hg:=HG.out HC.out;subst hWW;have GS:=G2;have T1:=T2;have F0:=F2;clear G2 T2 F2;have R1:Hid (RD w2 rb b ap):=R0.out.fr F0.out fun _=>trivial
  have H1:=zH (H.out.tt F0.out);have M1:=zH (HM.out.tt F0.out);obtain⟨mN,hme,hm16⟩:=hg.me;obtain⟨r1,hr1⟩:=zE (n.onAsk m.ms);obtain⟨r2,hr2⟩:=zE (r1.1.onAnswer m.ms);obtain⟨r3,hr3⟩:=zE (r2.1.onAppend m.ms);obtain⟨r4,hr4⟩:=zE (r3.1.onAcked m.ms);have OUT0:Hid (res=(n.led (r4.1,r1.2++r2.2++r3.2++r4.2),0)):=EQ.out.trans ((if_neg (fun e=>e rfl)).trans (by rw[←hr4,←hr3,←hr2,←hr1];rfl));have m2:m.index+m.ms.es.length≤_:=hg.bm.index;have m3:m.es.length≤100000:=by rw[←m.esl];exact hg.le
  rw[m.esl] at m2;have m1:m.tm≤_:=hg.bm.tm;have m4:m.kind=6→m.prev≤_:=hg.bm.prev;have mb1:=hg.bm.mono (Nat.le_succ _);have g0:Gw 4611686018427387904 100000 n:=⟨hg.bn,hg.es,hg.ye,hg.me,hg.cf,HPOS.out⟩
  have b1:Gw 4611686018427387904 100000 r1.1:=by rw[←hr1];exact g0.up (Nd.onAsk_up n m.ms) (Nd.onAsk_b g0.bn hg.bm).1 (by rw[Nd.onAsk_log];exact g0.es) (Nd.onAsk_y g0.ye)
  have b2:Gw 4611686018427387905 100001 r2.1:=by rw[←hr2];exact b1.up (Nd.onAnswer_up _ _) (Nd.onAnswer_b b1.bn hg.bm).1 (Nat.le_trans (Nd.onAnswer_log _ _) (Nat.succ_le_succ b1.es)) (Nd.onAnswer_y b1.ye)
  have b3:Gw 4611686018427387905 200001 r3.1:=by rw[←hr3];exact b2.up (Nd.onAppend_up _ _) (Nd.onAppend_b b2.bn mb1).1 (Nat.le_trans (Nd.onAppend_log _ _) (by have:=b2.es;have:=hg.le;omega)) (Nat.le_trans (Nd.onAppend_y b2.ye) (by omega))
  have b4:Gw 4611686018427387906 200001 r4.1:=by rw[←hr4];exact b3.up (Nd.onAcked_up _ _) (Nd.onAcked_b b3.bn mb1).1 (by rw[Nd.onAcked_log];exact b3.es) (Nd.onAcked_y b3.ye)
  have LN:Hid (r1.2.length≤1∧r2.2.length≤12∧r3.2.length≤1∧r4.2.length≤1):=⟨by rw[←hr1];exact Nd.onAsk_len _ _,by rw[←hr2];exact Nat.le_trans (Nd.onAnswer_len _ _) b1.cf.2,by rw[←hr3];exact Nd.onAppend_len _ _,by rw[←hr4];exact Nd.onAcked_len _ _⟩
  have C1:Hid (∀W,Fr (fun _ _=>True) w2 W→Calls Tryz.prog 89 #[.pointer (some ⟨b,0,none⟩),.agg (cM m)] W fun e w'=>gQ X W b r1 e w'):=fun W f=>by have:=g0.bn.last;have:=g0.es;rw[←hr1];exact BY (H1.out.tt f) m (by omega) (by omega)
  have C2:Hid (∀W q,DNs X W b r1.1 q→Fr (fun c _=>c≠b) w2 W→Calls Tryz.prog 90 #[.pointer (some ⟨b,0,none⟩),.agg (cM m)] W fun e w'=>gQ X W b r2 e w'):=fun W q hp f=>by obtain⟨mN,hme,hm16⟩:=b1.me;have:=b1.bn.last;have:=b1.bn.tm;have:=b1.es;have:=b1.ye;rw[←hr2];exact qx hp m b1.cf (by omega) mN hme hm16 (by omega) (by omega) (by omega) (by omega)
  have C3:Hid (∀W q,DNs X W b r2.1 q→Fr (fun c _=>c≠b) w2 W→Calls Tryz.prog 11 #[.pointer (some ⟨b,0,none⟩),.agg (cM m)] W fun e w'=>gQ X W b r3 e w'):=fun W q hp f=>by have:=b2.bn.last;have:=b2.es;rw[←hr3];exact wj hp m (M1.out.keep f fun c o ho hr e=>hr.1 (e▸H.out.xb)) (by omega) (by omega) (by omega) (by omega)
  have C4:Hid (∀W q,DNs X W b r3.1 q→Fr (fun c _=>c≠b) w2 W→Calls Tryz.prog 15 #[.pointer (some ⟨b,0,none⟩),.agg (cM m)] W fun e w'=>gQ X W b r4 e w'):=fun W q hp f=>by have:=b3.bn.last;have:=b3.es;rw[←hr4];exact Bq hp m b3.cf b3.pos (fun y hy=>by have:=b3.bn.nx y hy;omega) (fun y hy=>by have:=b3.bn.mt y hy;omega) (by omega) (fun e=>by have:=m4 e;omega) (by omega) (by omega)
  have BC:Hid (∀W q,DNs X W b r4.1 q→Calls Tryz.prog 19 #[.pointer (some ⟨b,0,none⟩)] W fun e w'=>jj X W r4.1.beat e w'):=fun W q hp=>
   kj hp (by have:=b4.cf.2;omega) (fun y hy=>by have:=b4.bn.nx y hy;omega) (by have:=b4.bn.last;omega) (by have:=b4.es;omega)
  have LB4:Hid (r4.1.conf.length≤12):=b4.cf.2;dsimp only[cM] at C1 C2 C3 C4;obtain⟨ro,hro⟩:=zE n.role;obtain⟨tm,htm⟩:=zE n.tm;have y0:w2.cell? ⟨rb,0,none⟩=some (.pointer (some ⟨b,0,none⟩)):=bQ R1.out rfl;obtain⟨-,-,x2,-,-,-,x6,-,-,-,-,-⟩:=H1.out.cells (Fr.refl _ w2);rw[hro] at x2;rw[htm] at x6;have HRT:=zH (And.intro hro htm);clear EQ OK K hg hme hm16 hr1 hr2 hr3 hr4 m1 m2 m3 m4 mb1 g0 b1 b2 b3 b4 HG HPOS hro htm;obtain⟨W1,rfl⟩:∃Y,Y=w2:=⟨_,rfl⟩
  go_wp2_with fail
  clear y0 x2 x6;refine wpR [(30,0),(31,1),(32,2),(33,3),(34,4),(35,5),(9,6)] [(0,[]),(1,[0]),(2,[1]),(3,[2]),(4,[])] (ckR [(0,.pointer (some ⟨rb,0,none⟩)),(1,.pointer (some ⟨rb,0,none⟩)),(2,.pointer (some ⟨rb,0,none⟩)),(3,.pointer (some ⟨b,0,none⟩)),(4,.agg #[.int .i64 m.kind,.int .i64 m.src,.int .i64 m.dst,.int .u64 (m.tm:Nat),.int .u64 (m.index:Nat),.int .u64 (m.prev:Nat),.int .u64 (m.commit:Nat),.bool m.ok,.slice m.da m.d.length m.dc,.slice m.ea m.es.length m.ec])] [] 5 0) 2 rfl ?cfall ?cfend
  case cfall=>
   iterate 5
    refine bY.q rfl rfl rfl (kQQ ?_) ?_
    ·intro xs W HF K' hK;obtain⟨y0,v0,v1,v2,v3,v4,v5,v6,v7,v8,v9⟩:=CC.out W (R1.out.fr ((Fr.refl (fun _ _=>True) W1).drew.trans HF.out) fun _=>trivial) (((Fr.refl (fun _ _=>True) W1).drew.trans HF.out).keep _ _ T1.out trivial);exact mr9
   exact m36
  case cfend=>
   refine kEE ?_;intro xs W HF;have FW:Hid (Fr (fun _ _=>True) W1 W):=(Fr.refl (fun _ _=>True) W1).drew.trans HF.out;have C:=zH (C1.out W FW.out);refine wpN 5 rfl fun K' hK=>?_
   (try simp only[gA,gB,gC]);go_simp;(with_reducible refine C.out.mono ?_);rintro e W2 ⟨q2,v,mv1,rfl,h2,f2,o2,e2⟩;obtain⟨g1,c1,hva⟩:=bz o2.row;subst hva;have l1:mv1.length≤1000:=by have:=LN.out.1;rw[←e2,List.length_map] at this;omega
   obtain⟨k1,hk1⟩:=zE mv1.length;have K1:=zH hk1;have F2:Hid (Fr (fun c _=>c≠b) W1 W2):=(FW.out.mono fun _ _ _=>trivial:Fr (fun c _=>c≠b) W1 W).trans f2;have R2:Hid (RD W2 rb b ap):=f2.keep _ _ (R1.out.fr FW.out fun _=>trivial) RBN.out;have T2:Hid (W2.heap[w.heap.size]? = some (.cells (cM m) 32 (0,0))):=f2.keep _ _ (FW.out.keep _ _ T1.out trivial) GB.out;rw[hk1] at o2 l1 ⊢;have HH2:=zH (And.intro h2 (And.intro (o2.lo FW.out.size) e2));clear h2 f2 o2 e2 C hk1;refine hK.out _ _ ?_;clear hK K' C1;refine wpN 6 rfl fun K' hK=>?_
   (try simp only[gA,gB,gC]);go_simp;refine hK.out _ _ ?_;clear hK K';refine wpF ?_;go_wp2_with fail
   refine cY (K:=fun _ _=>True) (vt:=.slice g1 k1 c1) 0 rfl (by kernel_rfl) (by kernel_rfl) (by kernel_rfl) (fun _ _ _ h=>h) (Or.inl ⟨by rfl,?cfy⟩) (by kernel_rfl) [(36,0),(37,1),(38,2),(39,3),(40,4),(41,5)] [(0,[]),(1,[]),(2,[1]),(3,[2]),(4,[3]),(5,[])] (ckR [(0,.slice g1 k1 c1),(1,.pointer (some ⟨rb,0,none⟩)),(2,.pointer (some ⟨rb,0,none⟩)),(3,.pointer (some ⟨rb,0,none⟩)),(4,.pointer (some ⟨b,0,none⟩)),(5,.agg #[.int .i64 m.kind,.int .i64 m.src,.int .i64 m.dst,.int .u64 (m.tm:Nat),.int .u64 (m.index:Nat),.int .u64 (m.prev:Nat),.int .u64 (m.commit:Nat),.bool m.ok,.slice m.da m.d.length m.dc,.slice m.ea m.es.length m.ec])] [] 6 0) 3 (by kernel_rfl) (by kernel_rfl) (by kernel_rfl) rfl (fun _=>rfl) (by rfl) 36 rfl (by simp) ?cfall ?cfend
   case cfy=>(intro w;(try simp only[gA,gB,gC]);go_simp)
   case cfall=>
    iterate 6
     refine bY.q rfl rfl rfl (kQQ ?_) ?_
     ·intro xs W HF K' hK;obtain⟨y0,v0,v1,v2,v3,v4,v5,v6,v7,v8,v9⟩:=CC.out W (R2.out.fr ((Fr.refl (fun _ _=>True) W2).drew.trans HF.out) fun _=>trivial) (((Fr.refl (fun _ _=>True) W2).drew.trans HF.out).keep _ _ T2.out trivial);exact mr9
    exact m36
   case cfend=>
    refine kEE ?_;intro xs W HF;have FW:Hid (Fr (fun _ _=>True) W2 W):=(Fr.refl (fun _ _=>True) W2).drew.trans HF.out;have C:=zH (C2.out W _ (HH2.out.1.tt FW.out) (F2.out.trans (FW.out.mono fun _ _ _=>trivial)));refine wpN 6 rfl fun K' hK=>?_
    (try simp only[gA,gB,gC]);go_simp;(with_reducible refine C.out.mono ?_);rintro e W3 ⟨q3,v3,mvB,rfl,h3,f3,o3,e3⟩;obtain⟨gb,cb,hvb⟩:=bz o3.row;subst hvb;have OA:Hid (OwnMs X W1.heap.size W3 (.slice g1 k1 c1) mv1):=(HH2.out.2.1.tt FW.out).aft ((HH2.out.1.tt FW.out).own f3);have OW:Hid (W3.ownsRow 0 32 10 (.slice g1 k1 c1) mv1.length (mv1.flatMap encM)):=c_ OA.out.row (fun _ _=>Nat.zero_le _);have RW:=zH o3.rows;have lb:mvB.length≤1000:=by have:=LN.out.2.1;rw[←e3,List.length_map] at this;omega
    obtain⟨kb,hkb⟩:=zE mvB.length;obtain⟨k2,hN⟩:=zE (k1+kb);have HN:Hid ((mv1++mvB).length=k2):=by show _=_;rw[List.length_append,K1.out,hkb,hN]
    have l2:k2≤10000:=by omega
    have FB:Hid (Fr (fun c _=>c≠b) W1 W3):=(F2.out.trans (FW.out.mono fun _ _ _=>trivial)).trans f3;have HB:=zH (And.intro h3 (And.intro o3 e3));have RX:Hid (RD W3 rb b ap):=f3.keep _ _ (R2.out.fr FW.out fun _=>trivial) RBN.out;have TX:Hid (W3.heap[w.heap.size]? = some (.cells (cM m) 32 (0,0))):=f3.keep _ _ (FW.out.keep _ _ T2.out trivial) GB.out;rw[hkb] at RW ⊢;clear h3 f3 o3 e3 C hkb hN lb l1;refine hK.out _ _ ?_;clear hK K' C2;refine wpN 7 rfl fun K' hK=>?_
    (try simp only[gA,gB,gC]);refine(iteInduction (motive:=fun t=>t) (fun _=>?_) (fun hn=>absurd rfl hn))
    with_reducible refine fx (K:=fun a w=>K' a w) W3 (.tmp 36) (.tmp 42) (by rfl) (.slice g1 k1 c1) mv1 (by simp [Act.eval,Act.put,fillA,fillL]) OW (.slice gb kb cb) mvB (by simp [Act.eval,Act.put,fillA,fillL]) RW k2 HN (by omega) ?_
    intro g2 c2 W4 O5 F5 N5;obtain⟨mv2,hmC⟩:=zE (mv1++mvB);have DC:=gQ.app HB.out.1 FB.out OA.out HB.out.2.1 HH2.out.2.2 HB.out.2.2 OD.out (by rw[HN.out];exact O5.out) F5.out N5.out;have K2:Hid (mv2.length=k2):=by rw[←hmC];exact HN.out
    rw[hmC] at DC;have HH4:=zH (And.intro DC.1 (And.intro DC.2.2.1 DC.2.2.2));have F4:=zH DC.2.1;have R4:Hid (RD W4 rb b ap):=F5.out.keep _ _ RX.out (OA.out.neR RX.out);have T4:Hid (W4.heap[w.heap.size]? = some (.cells (cM m) 32 (0,0))):=F5.out.keep _ _ TX.out (fun e=>by have:=cK OA.out.row _ e;have:=GS.out;omega);clear O5 F5 N5 OW RW HN hmC DC OA HB FB RX TX;refine hK.out _ _ ?_;clear hK K';refine wpN 8 rfl fun K' hK=>?_
    (try simp only[gA,gB,gC]);go_simp;refine hK.out _ _ ?_;clear hK K';refine wpF ?_;go_wp2_with fail
    refine cY (K:=fun _ _=>True) (vt:=.slice g2 k2 c2) 0 rfl (by kernel_rfl) (by kernel_rfl) (by kernel_rfl) (fun _ _ _ h=>h) (Or.inl ⟨by rfl,?cfy⟩) (by kernel_rfl) [(44,0),(45,1),(46,2),(47,3),(48,4),(49,5)] [(0,[]),(1,[]),(2,[1]),(3,[2]),(4,[3]),(5,[])] (ckR [(0,.slice g2 k2 c2),(1,.pointer (some ⟨rb,0,none⟩)),(2,.pointer (some ⟨rb,0,none⟩)),(3,.pointer (some ⟨rb,0,none⟩)),(4,.pointer (some ⟨b,0,none⟩)),(5,.agg #[.int .i64 m.kind,.int .i64 m.src,.int .i64 m.dst,.int .u64 (m.tm:Nat),.int .u64 (m.index:Nat),.int .u64 (m.prev:Nat),.int .u64 (m.commit:Nat),.bool m.ok,.slice m.da m.d.length m.dc,.slice m.ea m.es.length m.ec])] [] 6 0) 3 (by kernel_rfl) (by kernel_rfl) (by kernel_rfl) rfl (fun _=>rfl) (by rfl) 44 rfl (by simp) ?cfall ?cfend
    case cfy=>(intro w;(try simp only[gA,gB,gC]);go_simp)
    case cfall=>
     iterate 6
      refine bY.q rfl rfl rfl (kQQ ?_) ?_
      ·intro xs W HF K' hK;obtain⟨y0,v0,v1,v2,v3,v4,v5,v6,v7,v8,v9⟩:=CC.out W (R4.out.fr ((Fr.refl (fun _ _=>True) W4).drew.trans HF.out) fun _=>trivial) (((Fr.refl (fun _ _=>True) W4).drew.trans HF.out).keep _ _ T4.out trivial);exact mr9
     exact m36
    case cfend=>
     refine kEE ?_;intro xs W HF;have FW:Hid (Fr (fun _ _=>True) W4 W):=(Fr.refl (fun _ _=>True) W4).drew.trans HF.out;have C:=zH (C3.out W _ (HH4.out.1.tt FW.out) (F4.out.trans (FW.out.mono fun _ _ _=>trivial)));refine wpN 6 rfl fun K' hK=>?_
     (try simp only[gA,gB,gC]);go_simp;(with_reducible refine C.out.mono ?_);rintro e W5 ⟨q3,v3,mvB,rfl,h3,f3,o3,e3⟩;obtain⟨gb,cb,hvb⟩:=bz o3.row;subst hvb;have OA:Hid (OwnMs X W1.heap.size W5 (.slice g2 k2 c2) mv2):=(HH4.out.2.1.tt FW.out).aft ((HH4.out.1.tt FW.out).own f3);have OW:Hid (W5.ownsRow 0 32 10 (.slice g2 k2 c2) mv2.length (mv2.flatMap encM)):=c_ OA.out.row (fun _ _=>Nat.zero_le _);have RW:=zH o3.rows;have lb:mvB.length≤1000:=by have:=LN.out.2.2.1;rw[←e3,List.length_map] at this;omega
     obtain⟨kb,hkb⟩:=zE mvB.length;obtain⟨k3,hN⟩:=zE (k2+kb);have HN:Hid ((mv2++mvB).length=k3):=by show _=_;rw[List.length_append,K2.out,hkb,hN]
     have l3:k3≤15000:=by omega
     have FB:Hid (Fr (fun c _=>c≠b) W1 W5):=(F4.out.trans (FW.out.mono fun _ _ _=>trivial)).trans f3;have HB:=zH (And.intro h3 (And.intro o3 e3));have RX:Hid (RD W5 rb b ap):=f3.keep _ _ (R4.out.fr FW.out fun _=>trivial) RBN.out;have TX:Hid (W5.heap[w.heap.size]? = some (.cells (cM m) 32 (0,0))):=f3.keep _ _ (FW.out.keep _ _ T4.out trivial) GB.out;rw[hkb] at RW ⊢;clear h3 f3 o3 e3 C hkb hN lb l2;refine hK.out _ _ ?_;clear hK K' C3;refine wpN 7 rfl fun K' hK=>?_
     (try simp only[gA,gB,gC]);refine(iteInduction (motive:=fun t=>t) (fun _=>?_) (fun hn=>absurd rfl hn))
     with_reducible refine fx (K:=fun a w=>K' a w) W5 (.tmp 44) (.tmp 50) (by rfl) (.slice g2 k2 c2) mv2 (by simp [Act.eval,Act.put,fillA,fillL]) OW (.slice gb kb cb) mvB (by simp [Act.eval,Act.put,fillA,fillL]) RW k3 HN (by omega) ?_
     intro g3 c3 W6 O5 F5 N5;obtain⟨mv3,hmC⟩:=zE (mv2++mvB);have DC:=gQ.app HB.out.1 FB.out OA.out HB.out.2.1 HH4.out.2.2 HB.out.2.2 OD.out (by rw[HN.out];exact O5.out) F5.out N5.out;have K3:Hid (mv3.length=k3):=by rw[←hmC];exact HN.out
     rw[hmC] at DC;have HH6:=zH (And.intro DC.1 (And.intro DC.2.2.1 DC.2.2.2));have F6:=zH DC.2.1;have R6:Hid (RD W6 rb b ap):=F5.out.keep _ _ RX.out (OA.out.neR RX.out);have T6:Hid (W6.heap[w.heap.size]? = some (.cells (cM m) 32 (0,0))):=F5.out.keep _ _ TX.out (fun e=>by have:=cK OA.out.row _ e;have:=GS.out;omega);clear O5 F5 N5 OW RW HN hmC DC OA HB FB RX TX;refine hK.out _ _ ?_;clear hK K';refine wpN 8 rfl fun K' hK=>?_
     (try simp only[gA,gB,gC]);go_simp;refine hK.out _ _ ?_;clear hK K';refine wpF ?_;go_wp2_with fail
     refine cY (K:=fun _ _=>True) (vt:=.slice g3 k3 c3) 0 rfl (by kernel_rfl) (by kernel_rfl) (by kernel_rfl) (fun _ _ _ h=>h) (Or.inl ⟨by rfl,?cfy⟩) (by kernel_rfl) [(52,0),(53,1),(54,2),(55,3),(56,4),(57,5)] [(0,[]),(1,[]),(2,[1]),(3,[2]),(4,[3]),(5,[])] (ckR [(0,.slice g3 k3 c3),(1,.pointer (some ⟨rb,0,none⟩)),(2,.pointer (some ⟨rb,0,none⟩)),(3,.pointer (some ⟨rb,0,none⟩)),(4,.pointer (some ⟨b,0,none⟩)),(5,.agg #[.int .i64 m.kind,.int .i64 m.src,.int .i64 m.dst,.int .u64 (m.tm:Nat),.int .u64 (m.index:Nat),.int .u64 (m.prev:Nat),.int .u64 (m.commit:Nat),.bool m.ok,.slice m.da m.d.length m.dc,.slice m.ea m.es.length m.ec])] [] 6 0) 3 (by kernel_rfl) (by kernel_rfl) (by kernel_rfl) rfl (fun _=>rfl) (by rfl) 52 rfl (by simp) ?cfall ?cfend
     case cfy=>(intro w;(try simp only[gA,gB,gC]);go_simp)
     case cfall=>
      iterate 6
       refine bY.q rfl rfl rfl (kQQ ?_) ?_
       ·intro xs W HF K' hK;obtain⟨y0,v0,v1,v2,v3,v4,v5,v6,v7,v8,v9⟩:=CC.out W (R6.out.fr ((Fr.refl (fun _ _=>True) W6).drew.trans HF.out) fun _=>trivial) (((Fr.refl (fun _ _=>True) W6).drew.trans HF.out).keep _ _ T6.out trivial);exact mr9
      exact m36
     case cfend=>
      refine kEE ?_;intro xs W HF;have FW:Hid (Fr (fun _ _=>True) W6 W):=(Fr.refl (fun _ _=>True) W6).drew.trans HF.out;have C:=zH (C4.out W _ (HH6.out.1.tt FW.out) (F6.out.trans (FW.out.mono fun _ _ _=>trivial)));refine wpN 6 rfl fun K' hK=>?_
      (try simp only[gA,gB,gC]);go_simp;(with_reducible refine C.out.mono ?_);rintro e W7 ⟨q3,v3,mvB,rfl,h3,f3,o3,e3⟩;obtain⟨gb,cb,hvb⟩:=bz o3.row;subst hvb;have OA:Hid (OwnMs X W1.heap.size W7 (.slice g3 k3 c3) mv3):=(HH6.out.2.1.tt FW.out).aft ((HH6.out.1.tt FW.out).own f3);have OW:Hid (W7.ownsRow 0 32 10 (.slice g3 k3 c3) mv3.length (mv3.flatMap encM)):=c_ OA.out.row (fun _ _=>Nat.zero_le _);have RW:=zH o3.rows;have lb:mvB.length≤1000:=by have:=LN.out.2.2.2;rw[←e3,List.length_map] at this;omega
      obtain⟨kb,hkb⟩:=zE mvB.length;obtain⟨k4,hN⟩:=zE (k3+kb);have HN:Hid ((mv3++mvB).length=k4):=by show _=_;rw[List.length_append,K3.out,hkb,hN]
      have l4:k4≤20000:=by omega
      have FB:Hid (Fr (fun c _=>c≠b) W1 W7):=(F6.out.trans (FW.out.mono fun _ _ _=>trivial)).trans f3;have HB:=zH (And.intro h3 (And.intro o3 e3));have RX:Hid (RD W7 rb b ap):=f3.keep _ _ (R6.out.fr FW.out fun _=>trivial) RBN.out;have TX:Hid (W7.heap[w.heap.size]? = some (.cells (cM m) 32 (0,0))):=f3.keep _ _ (FW.out.keep _ _ T6.out trivial) GB.out;rw[hkb] at RW ⊢;clear h3 f3 o3 e3 C hkb hN lb l3;refine hK.out _ _ ?_;clear hK K' C4;refine wpN 7 rfl fun K' hK=>?_
      (try simp only[gA,gB,gC]);refine(iteInduction (motive:=fun t=>t) (fun _=>?_) (fun hn=>absurd rfl hn))
      with_reducible refine fx (K:=fun a w=>K' a w) W7 (.tmp 52) (.tmp 58) (by rfl) (.slice g3 k3 c3) mv3 (by simp [Act.eval,Act.put,fillA,fillL]) OW (.slice gb kb cb) mvB (by simp [Act.eval,Act.put,fillA,fillL]) RW k4 HN (by omega) ?_
      intro g4 c4 W8 O5 F5 N5;obtain⟨mv4,hmC⟩:=zE (mv3++mvB);have DC:=gQ.app HB.out.1 FB.out OA.out HB.out.2.1 HH6.out.2.2 HB.out.2.2 OD.out (by rw[HN.out];exact O5.out) F5.out N5.out;have K4:Hid (mv4.length=k4):=by rw[←hmC];exact HN.out
      rw[hmC] at DC;have HH8:=zH (And.intro DC.1 (And.intro DC.2.2.1 DC.2.2.2));have F8:=zH DC.2.1;have R8:Hid (RD W8 rb b ap):=F5.out.keep _ _ RX.out (OA.out.neR RX.out);have T8:Hid (W8.heap[w.heap.size]? = some (.cells (cM m) 32 (0,0))):=F5.out.keep _ _ TX.out (fun e=>by have:=cK OA.out.row _ e;have:=GS.out;omega);clear O5 F5 N5 OW RW HN hmC DC OA HB FB RX TX;refine hK.out _ _ ?_;clear hK K';refine wpN 8 rfl fun K' hK=>?_
      (try simp only[gA,gB,gC]);go_simp;refine hK.out _ _ ?_;clear hK K';refine wpF ?_;obtain⟨ro2,hro2⟩:=zE r4.1.role;obtain⟨tm2,htm2⟩:=zE r4.1.tm;have y0:W8.cell? ⟨rb,0,none⟩=some (.pointer (some ⟨b,0,none⟩)):=bQ R8.out rfl;obtain⟨-,-,x2,-,-,-,x6,-,-,-,-,-⟩:=HH8.out.1.cells (Fr.refl _ W8);rw[hro2] at x2;rw[htm2] at x6;obtain⟨rr,hrr⟩:=zE (n.led (r4.1,r1.2++r2.2++r3.2++r4.2));replace OUT0:Hid (res=(rr,0)):=hrr▸OUT0.out
      have C3:Hid ((ro2==3)=false∧rr=(r4.1,r1.2++r2.2++r3.2++r4.2)∨ro2=3∧(ro != 3)=true∧rr=(r4.1,(r1.2++r2.2++r3.2++r4.2)++r4.1.beat)∨ro2=3∧(ro != 3)=false∧((tm:Int) != (tm2:Int))=true∧rr=(r4.1,(r1.2++r2.2++r3.2++r4.2)++r4.1.beat)∨ro2=3∧(ro != 3)=false∧((tm:Int) != (tm2:Int))=false∧rr=(r4.1,r1.2++r2.2++r3.2++r4.2)):=by
       show _∨_;have EQ:rr=if ro2=3∧(ro≠3∨tm2≠tm) then(r4.1,(r1.2++r2.2++r3.2++r4.2)++r4.1.beat) else(r4.1,r1.2++r2.2++r3.2++r4.2):=by rw[←hrr,←hro2,←htm2,←HRT.out.1,←HRT.out.2];rfl
       rw[EQ];exact mU6
      clear hro2 htm2 hrr;rcases C3.out with⟨c1,e3⟩ | ⟨c1,c2,e3⟩ | ⟨c1,c2,c3,e3⟩ | ⟨c1,c2,c3,e3⟩
      case' inr.inl | inr.inr.inl=>
       subst c1;have E3:=zH e3;clear e3 C3;have BC2:=zH (BC.out W8 _ HH8.out.1);go_wp2_with fail
       (with_reducible refine BC2.out.mono ?_);rintro e W9 ⟨⟨v3,mv9,rfl,o3,e4⟩,f3⟩;obtain⟨gb,cb,hvb⟩:=bz o3.row;subst hvb;have OA:Hid (OwnMs X W1.heap.size W9 (.slice g4 k4 c4) mv4):=HH8.out.2.1.tt f3;have OW:Hid (W9.ownsRow 0 32 10 (.slice g4 k4 c4) mv4.length (mv4.flatMap encM)):=c_ OA.out.row (fun _ _=>Nat.zero_le _);have RW:=zH o3.rows;have lb:mv9.length≤20000:=by rw[←List.length_map (f:=MV.ms),e4];exact Nat.le_trans (Nd.beat_len _) (by have:=LB4.out;omega)
       obtain⟨kb,hkb⟩:=zE mv9.length;obtain⟨k5,hN⟩:=zE (k4+kb);have HN:Hid ((mv4++mv9).length=k5):=by show _=_;rw[List.length_append,K4.out,hkb,hN]
       have hn:k5≤1000000:=by omega
       have HH:=zH (And.intro o3 (And.intro e4 f3));rw[hkb] at RW ⊢;clear BC BC2 y0 x2 x6 o3 e4 f3 hkb hN lb l4;go_wp2_with (at_builtin;refine dX W9 rfl _ _ rfl (.slice g4 k4 c4) mv4 rfl OW (.slice gb kb cb) mv9 rfl RW k5 HN hn ?_)
       intro g5 c5 WA O5 F5 N5;have DC:=zH (gQ.app (HH8.out.1.tt HH.out.2.2) (F8.out.trans (HH.out.2.2.mono fun _ _ _=>trivial)) OA.out HH.out.1 HH8.out.2.2 HH.out.2.1 OD.out (by rw[HN.out,List.flatMap_append];exact O5.out) F5.out N5.out);clear O5 F5 N5 OW RW;go_wp2;go_ret2;rw[OUT0.out,E3.out];exact⟨_,_,_,rfl,DC.out.1,(F0.out.mono fun _ _ _=>trivial:Fr (fun c _=>c≠b) w W1).trans DC.out.2.1,DC.out.2.2.1.lo F0.out.size,DC.out.2.2.2⟩
      case' inl | inr.inr.inr=>
       try (subst c1)
       have E3:=zH e3;clear e3 C3 BC;go_wp2;go_ret2;rw[OUT0.out,E3.out];exact⟨_,_,_,rfl,HH8.out.1,(F0.out.mono fun _ _ _=>trivial:Fr (fun c _=>c≠b) w W1).trans F8.out,HH8.out.2.1.lo F0.out.size,HH8.out.2.2⟩
end
end Go.Proofs.YtmjccpfchhnfhaaGreat
