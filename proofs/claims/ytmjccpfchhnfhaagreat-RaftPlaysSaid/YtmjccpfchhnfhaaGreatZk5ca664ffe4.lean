/- Texts of the proofs, part 25: what the functions that they reach do, walked; no conditions beyond those that each states. -/
import Derived.Test.YtmjccpfchhnfhaaGreatZkd240972508
import Derived.Test.YtmjccpfchhnfhaaGreatZk48c22ed045
set_option linter.unusedVariables false
set_option linter.unusedSimpArgs false
set_option maxRecDepth 100000
set_option maxHeartbeats 8000000
namespace Go.Proofs.YtmjccpfchhnfhaaGreat
open Go.RowKit
theorem J7 [Old] {X X':Nat→Prop} (w:World) (a b:MV) (ha:MsAt X w a) (hb:MsAt X' w b) (he:a.ms=b.ms) (hl:a.es.length≤1000000) (hdl:a.d.length≤9223372036854775807):
 Calls Tryz.prog 58 #[.agg (cM a),.agg (cM b)] w fun e w'=>e=.returned (.bool true)∧FT w w':=by
 have e0:a.kind=b.kind:=congrArg Ms.kind he;have e1:a.src=b.src:=congrArg Ms.src he;have e2:a.dst=b.dst:=congrArg Ms.dst he;have e3:a.tm=b.tm:=congrArg Ms.tm he;have e4:a.index=b.index:=congrArg Ms.index he;have e5:a.prev=b.prev:=congrArg Ms.prev he;have e6:a.commit=b.commit:=congrArg Ms.commit he;have e7:a.ok=b.ok:=congrArg Ms.ok he;have e8:a.d=b.d:=congrArg Ms.data he;have e9:a.es.map EV.en=b.es.map EV.en:=congrArg Ms.es he;obtain⟨W1,hW1,F1,X1⟩:=xv w a;obtain⟨W2,hW2,F2,X2⟩:=xv W1 b;obtain⟨u0,u1,u2,u3,u4,u5,u6,u7,u8,u9⟩:=bq (F2.keep _ _ X1 trivial);obtain⟨v0,v1,v2,v3,v4,v5,v6,v7,v8,v9⟩:=bq X2;have F12:=zH (F1.trans F2);have SC:Hid (Calls Tryz.prog 39 #[.slice a.da a.d.length a.dc,.slice b.da b.d.length b.dc] W2 fun e w'=>e=.returned (.bool true)∧∃k,w'=W2.drewN k):=(mQ W2 _ _ a.d b.d (ha.dat.tt F12.out) (hb.dat.tt F12.out) hdl).mono fun e w' ⟨h1,h2⟩=>⟨by rw[h1,decide_eq_true e8],h2⟩
 have EC:Hid (∀W,FT w W→Calls Tryz.prog 105 #[.slice a.ea a.es.length a.ec,.slice b.ea b.es.length b.ec] W fun e w'=>e=.returned (.bool true)∧∃k,w'=W.drewN k):=fun W f=>(qX W _ _ a.es b.es (ha.es.tt f).row (hb.es.tt f).row (ha.es.tt f).dat (fun x hx=>((hb.es.tt f).dat x hx).1) hl).mono fun e w' ⟨h1,h2⟩=>⟨by rw[h1,decide_eq_true e9],h2⟩
 rw[←e0] at v0;rw[←e1] at v1;rw[←e2] at v2;rw[←e3] at v3;rw[←e4] at v4;rw[←e5] at v5;rw[←e6] at v6;rw[←e7] at v7;obtain⟨k0,h0⟩:=zE a.kind;obtain⟨k1,h1⟩:=zE a.src;obtain⟨k2,h2⟩:=zE a.dst;obtain⟨k3,h3⟩:=zE a.tm;obtain⟨k4,h4⟩:=zE a.index;obtain⟨k5,h5⟩:=zE a.prev;obtain⟨k6,h6⟩:=zE a.commit;obtain⟨k7,h7⟩:=zE a.ok;rw[h0] at u0 v0;rw[h1] at u1 v1;rw[h2] at u2 v2;rw[h3] at u3 v3;rw[h4] at u4 v4;rw[h5] at u5 v5;rw[h6] at u6 v6;rw[h7] at u7 v7;have n0:(k0 != k0)=false:=by simp
 have n1:(k1 != k1)=false:=by simp
 have n2:(k2 != k2)=false:=by simp
 have n3:((k3:Int) != (k3:Int))=false:=by simp
 have n4:((k4:Int) != (k4:Int))=false:=by simp
 have n5:((k5:Int) != (k5:Int))=false:=by simp
 have n6:((k6:Int) != (k6:Int))=false:=by simp
 have n7:(k7 != k7)=false:=by simp
 unfold cM at hW1 hW2 ⊢;clear ha hb he e0 e1 e2 e3 e4 e5 e6 e7 e8 e9 h0 h1 h2 h3 h4 h5 h6 h7 hl hdl;go_enter Tryz.func58,Tryz.ntmps58
 go_wp2_with fail
 try rw[hW1]
 try rw[hW2]
 (with_reducible refine SC.out.mono ?_);rintro e w3 ⟨rfl,k,rfl⟩;have EC1:=zH (EC (W2.drewN k) (F12.drewN k));have u9':(W2.drewN k).cell? ⟨w.heap.size,9,none⟩=some (.slice a.ea a.es.length a.ec):=((Fr.refl (fun _ _=>True) W2).drewN k).cell (fun _ _=>trivial) u9;have v9':(W2.drewN k).cell? ⟨W1.heap.size,9,none⟩=some (.slice b.ea b.es.length b.ec):=((Fr.refl (fun _ _=>True) W2).drewN k).cell (fun _ _=>trivial) v9;have F3:=zH (F12.drewN k);clear EC SC u0 u1 u2 u3 u4 u5 u6 u7 u8 u9 v0 v1 v2 v3 v4 v5 v6 v7 v8 v9 hW1 hW2;generalize W2.drewN k=W3 at EC1 u9' v9' F3 ⊢;go_wp2_with fail
 (with_reducible refine EC1.out.mono ?_);rintro e w4 ⟨rfl,k',rfl⟩;clear EC1;go_wp2;go_ret;exact⟨rfl,F3.drewN k'⟩
theorem RowsAt.ten {K:Nat→Obj→Prop} {w:World} {a:Option Addr} {n c:Nat} {xs:List MV} (h:RowsAt K w (.slice a n c) 10 encM xs) (h0:0<xs.length):∃b o,a=some ⟨b,o,none⟩∧∀k (hk:k<xs.length) W,FT w W→W.cell? ⟨b,o+k*10,none⟩=some (.int .i64 xs[k].kind)∧W.cell? ⟨b,o+k*10+1,none⟩=some (.int .i64 xs[k].src)∧W.cell? ⟨b,o+k*10+2,none⟩=some (.int .i64 xs[k].dst)∧W.cell? ⟨b,o+k*10+3,none⟩=some (.int .u64 (xs[k].tm:Nat))∧W.cell? ⟨b,o+k*10+4,none⟩=some (.int .u64 (xs[k].index:Nat))∧W.cell? ⟨b,o+k*10+5,none⟩=some (.int .u64 (xs[k].prev:Nat))∧W.cell? ⟨b,o+k*10+6,none⟩=some (.int .u64 (xs[k].commit:Nat))∧W.cell? ⟨b,o+k*10+7,none⟩=some (.bool xs[k].ok)∧W.cell? ⟨b,o+k*10+8,none⟩=some (.slice xs[k].da xs[k].d.length xs[k].dc)∧W.cell? ⟨b,o+k*10+9,none⟩=some (.slice xs[k].ea xs[k].es.length xs[k].ec):=by
 obtain⟨a',c',e,hcc,h1⟩:=h;cases e;rcases h1 with h1 | ⟨b,off,o,ha,ho,hk,hc⟩
 ·rw[h1] at h0;cases h0
 ·refine⟨b,off,ha,fun k hk W f=>?_⟩;have g:∀j u,(encM xs[k])[j]? = some u→W.cell? ⟨b,off+k*10+j,none⟩=some u:=fun j u hu=>f.cell (fun _ _=>trivial) (hc k hk j u hu)
  exact mLB
theorem NK [Old] {X X':Nat→Prop} {K K':Nat→Obj→Prop} (w:World) (va vb:Value) (la lb:List MV) (ha:RowsAt K w va 10 encM la) (hb:RowsAt K' w vb 10 encM lb) (ma:∀m∈la,MsAt X w m) (mb:∀m∈lb,MsAt X' w m) (ml:∀m∈la,m.es.length≤1000000∧m.d.length≤9223372036854775807) (he:la.map MV.ms=lb.map MV.ms) (hlen:la.length≤1000000):
 Calls Tryz.prog 12 #[va,vb] w fun e w'=>e=.returned (.bool true)∧FT w w':=by
 obtain⟨aa,ca,rfl,_⟩:=ha.form;obtain⟨ab,cb,rfl,_⟩:=hb.form;have hll:lb.length=la.length:=by have:=congrArg List.length he;rw[List.length_map,List.length_map] at this;exact this.symm
 rw[hll] at hb ⊢;obtain⟨n,hn⟩:=zE la.length;rw[hn] at ha hb hll hlen ⊢;have gn:((n:Int) != (n:Int))=false:=by simp
 have HN:=zH (And.intro hn hll);have HA:=zH ha;have HB:=zH hb;have HM:=zH (And.intro ma (And.intro mb (And.intro ml he)));clear ha hb ma mb ml he hn hll;go_enter Tryz.func12,Tryz.ntmps12
 go_wp2;go_loopw [5] (fun v5 wr=>∃k:Nat,v5=.int .i64 (k:Nat)∧k≤n∧Hid (FT w wr)) (fun v5 _=>n-(intOf v5).toNat)
 case atStart=>exact⟨0,rfl,Nat.zero_le _,Fr.refl _ _⟩
 case round=>
  obtain⟨k,rfl,hk,HF3⟩:=hrel;by_cases hlt:k<n
  ·have hltI:(k:Int)<(n:Int):=by omega
   obtain⟨ba,oa,rfl,CA0⟩:=HA.out.ten (by have:=HN.out.1;omega);obtain⟨bb,ob,rfl,CB0⟩:=HB.out.ten (by have:=HN.out.2;omega);have hka:k<la.length:=by have:=HN.out.1;omega
   have hkb:k<lb.length:=by have:=HN.out.2;omega
   obtain⟨x,hx⟩:=zE (la[k]);obtain⟨y,hy⟩:=zE (lb[k]);have CA:=zH (CA0 k hka);have CB:=zH (CB0 k hkb);rw[hx] at CA;rw[hy] at CB;have hxm:x∈la:=hx▸List.getElem_mem hka;have hym:y∈lb:=hy▸List.getElem_mem hkb
   have hms:x.ms=y.ms:=by
    have h1:(la.map MV.ms)[k]? = (lb.map MV.ms)[k]?:=by rw[HM.out.2.2.2]
    rw[List.getElem?_map,List.getElem?_map,List.getElem?_eq_getElem hka,List.getElem?_eq_getElem hkb,hx,hy] at h1;exact Option.some.inj h1
   have SM:Hid (∀W,FT w W→Calls Tryz.prog 58 #[.agg (cM x),.agg (cM y)] W fun e w'=>e=.returned (.bool true)∧FT W w'):=fun W f=>J7 W x y ((HM.1 x hxm).tt f) ((HM.2.1 y hym).tt f) hms (HM.2.2.1 x hxm).1 (HM.2.2.1 x hxm).2
   have UD:Hid (FT wr wr.drew):=(Fr.refl _ _).drew;clear CA0 CB0 hx hy hxm hym hms hka hkb;go_wp2_with fail
   refine wpR [(18,0),(19,1),(20,2),(21,3),(22,4),(23,5),(24,6),(25,7),(26,8),(6,9)] [(0,[]),(1,[]),(2,[0,1]),(3,[2]),(4,[]),(5,[]),(6,[4,5]),(7,[6]),(8,[3,7])] (ckR [(0,.slice (some ⟨ba,oa,none⟩) n ca),(1,.int .i64 (k:Nat)),(2,.pointer (some ⟨ba,oa+k*10,none⟩)),(3,.agg (cM x)),(4,.slice (some ⟨bb,ob,none⟩) n cb),(5,.int .i64 (k:Nat)),(6,.pointer (some ⟨bb,ob+k*10,none⟩)),(7,.agg (cM y)),(8,.bool true)] [] 9 0) 1 rfl ?cfall ?cfend
   case cfall=>
    iterate 8
     refine bY.q rfl rfl rfl (kQQ ?_) ?_
     ·intro xs W HF K' hK;obtain⟨u0,u1,u2,u3,u4,u5,u6,u7,u8,u9⟩:=CA W (HF3.trans (UD.trans HF));obtain⟨v0,v1,v2,v3,v4,v5,v6,v7,v8,v9⟩:=CB W (HF3.trans (UD.trans HF));exact mD8
    refine bY.p rfl rfl (kPP ?_) ?_
    ·intro xs W HF K' hK;have SM1:=zH (SM W (HF3.trans (UD.trans HF)))
     skip
     go_simp;(with_reducible refine SM1.out.mono ?_);exact msd
    exact m36
   case cfend=>
    refine kEE ?_;intro xs W HF;have F9:=zH (HF3.trans (UD.trans HF));clear SM CA CB UD;refine wpN 9 rfl fun K' hK=>?_
    skip
    go_simp;refine hK _ _ ?_;clear hK K';refine wpF ?_;go_wp2;go_roundw
    case rel=>exact⟨k+1,by go_num,by omega,F9.out⟩
    case measure=>simp [intOf];omega
  ·have hge:¬(k:Int)<(n:Int):=by omega
   go_wp2;go_ret;exact⟨rfl,HF3⟩
theorem kJf {p q:Prop} (k:q) (h:q→p:=by
 have hl2:bs+le+1<18446744073709551616:=by unfold Lg.last at hl;omega
 intro kk0;revert hl2;exact kk0):p:=h k
theorem kRB {p q:Prop} (k:q) (h:q→p:=by
 obtain⟨W1,hW1,F1,X1⟩:=xv w m;obtain⟨g0,hg0⟩:=zE w.heap.size;rw[hg0] at X1;have H:=zH h;have HG0:=zH hg0;have gb:Hid (g0≠b):=by have:=bX h.top;show _≠_;omega
 intro kk0;revert gb;revert HG0;revert H;revert X1;revert hg0;revert g0;revert F1;revert hW1;revert W1;exact kk0):p:=h k
theorem kaZ {p q:Prop} (k:q) (h:q→p:=by
 have g1:(ro==3)=false:=by simpa using hr
 have g2:(ro != 3)=true:=by rw[bne,g1];rfl
 intro kk0;revert g2;revert g1;exact kk0):p:=h k
theorem kyE {p q:Prop} (k:q) (h:q→p:=by
 have H:=zH h;have NC:=zH (fun W=>jW W (t:Nat));rw[decide_eq_true (show (0:Int)≤(t:Nat)∧((t:Nat):Int)<16 by omega)] at NC;have BC:=zH (wV h t ht);intro kk0;revert BC;revert NC;revert H;exact kk0):p:=h k
theorem m0G {p:Prop} (h:p:=by
 rintro e w8 ⟨⟨a',c',ys,rfl,he,hy⟩,f8⟩;exact hK _ _ _ rfl f8 ⟨a',c',ys,rfl,he,hy⟩):p:=h
theorem m9Y {p:Prop} (h:p:=by
 rw[g1];go_enter Tryz.func65,Tryz.ntmps65
 go_wp2_with fail
 go_quiet (fail)
 go_wp2;go_ret;exact⟨rfl,_,rfl⟩):p:=h
theorem jW (w:World) (x:Int):Calls Tryz.prog 62 #[.int .i64 x] w fun e w'=>e=.returned (.bool (decide (0≤x∧x<16)))∧w=w':=by
 by_cases h0:0≤x
 ·by_cases h1:x<16
  ·rw[decide_eq_true (show 0≤x∧x<16 from⟨h0,h1⟩)];go_enter Tryz.func62,Tryz.ntmps62
   exact m6T
  ·rw[decide_eq_false (show ¬(0≤x∧x<16) from fun e=>h1 e.2)];go_enter Tryz.func62,Tryz.ntmps62
   exact m6T
 ·rw[decide_eq_false (show ¬(0≤x∧x<16) from fun e=>h0 e.1)];go_enter Tryz.func62,Tryz.ntmps62
  exact m6T
section
variable {X P:Nat→Prop} {w w':World} {b:Nat} {n n':Nd} {q q':NV}
theorem PNs.lg [Old] (h:PNs X P w b n q):∃ae le ce,q.ve=.slice ae le ce∧n.log.es.length=le∧(∀W,FT w W→EsAt X W (.slice ae le ce) q.es)∧lgE n.log.base n.log.bt q.es=n.log:=by
 obtain⟨a,c,e,_⟩:=h.ev.row.form;refine⟨a,_,c,e,h.esl,fun W f=>?_,?_⟩
 ·rw[←e];exact h.ev.tt f
 ·unfold lgE;rw[←h.ee]
theorem wV [Old] (h:PNs X P w b n q) (t:Nat) (ht:t<16):Calls Tryz.prog 65 #[.pointer (some ⟨b,0,none⟩),.int .i64 (t:Nat)] w fun e w'=>e=.returned (.bool (decide (n.next.getD t 0≤n.log.base)))∧∃m,w'=w.drewN m:=by
 obtain⟨x0,x1,x2,x3,x4,x5,x6,x7,x8,x9,x10,x11,x12,x13⟩:=h.cells (Fr.refl _ w);have z:=h.nx.cell t ht;obtain⟨nt,hnt⟩:=zE (n.next.getD t 0);obtain⟨bs,hbs⟩:=zE n.log.base;rw[hnt] at z ⊢;rw[hbs] at x8 ⊢;clear hnt hbs h x0 x1 x2 x3 x4 x5 x6 x7 x9 x10 x11 x13;by_cases g:nt≤bs
 ·have g1:decide (nt≤bs)=true:=decide_eq_true g;exact m9Y
 ·have g1:decide (nt≤bs)=false:=decide_eq_false g;exact m9Y
def jj [Old] (X:Nat→Prop) (w:World) (ms:List Ms) (e:Ending) (w':World):Prop:=(∃v mvs,e=.returned v∧OwnMs X w.heap.size w' v mvs∧mvs.map MV.ms=ms)∧FT w w'
theorem jj.none [Old] {X:Nat→Prop} {w w':World} (f:FT w w'):jj X w [] (.returned (.slice none 0 0)) w':=⟨⟨_,[],rfl,OwnMs.nil _ _ _,rfl⟩,f⟩
theorem OwnMs.at1 [Old] {X:Nat→Prop} {W:World} {B g:Nat} (m:MV) (hb:B≤g) (h:W.heap[g]? = some (.cells (cM m) 32 (0,0))) (hx:¬X g) (hm:MsAt X W m):OwnMs X B W (.slice (some ⟨g,0,none⟩) 1 1) [m]:=by
 refine⟨⟨rfl,.inr ⟨_,1,_,rfl,hb,h,Nat.le_refl _,by unfold maxLen;decide,rfl,rfl⟩⟩,fun c e hc=>?_,fun x hx2=>?_⟩
 ·cases e;exact hx hc
 ·simp only[List.mem_cons,List.not_mem_nil,or_false] at hx2;subst hx2;exact hm
theorem L8 [Old] (h:PNs X P w b n q) (x:Int) (hr:n.role≠3) (hnx:∀y∈n.next,y<18446744073709551616) (hl:n.log.last+1<18446744073709551616) (hle:n.log.es.length≤900000):
 Calls Tryz.prog 16 #[.pointer (some ⟨b,0,none⟩),.int .i64 x] w fun e w'=>jj X w (n.sendTo x) e w':=by
 have E:n.sendTo x=[]:=if_pos (.inl hr);rw[E];refine kpb ?_;intro x2;obtain⟨ro,hro⟩:=zE n.role;rw[hro] at x2 hr;refine kaZ ?_;intro g1 g2;clear h hr hro E hnx hl hle;go_enter Tryz.func16,Tryz.ntmps16
 go_wp2;go_ret;exact jj.none (Fr.refl _ _)
theorem MQ [Old] (h:PNs X P w b n q) (x:Int) (hr:n.role=3) (hx:x=n.me) (hnx:∀y∈n.next,y<18446744073709551616) (hl:n.log.last+1<18446744073709551616) (hle:n.log.es.length≤900000):
 Calls Tryz.prog 16 #[.pointer (some ⟨b,0,none⟩),.int .i64 x] w fun e w'=>jj X w (n.sendTo x) e w':=by
 have E:n.sendTo x=[]:=if_pos (.inr (.inl hx));rw[E];refine kpb ?_;intro x2;have x0:=(h.cells (Fr.refl _ w)).1;rw[hr] at x2;rw[←hx] at x0;clear h hr hx E hnx hl hle;go_enter Tryz.func16,Tryz.ntmps16
 go_wp2;go_ret;exact jj.none (Fr.refl _ _)
theorem L9 [Old] (h:PNs X P w b n q) (x:Int) (hr:n.role=3) (hx:x≠n.me) (h16:¬(0≤x∧x<16)) (hnx:∀y∈n.next,y<18446744073709551616) (hl:n.log.last+1<18446744073709551616) (hle:n.log.es.length≤900000):
 Calls Tryz.prog 16 #[.pointer (some ⟨b,0,none⟩),.int .i64 x] w fun e w'=>jj X w (n.sendTo x) e w':=by
 have E:n.sendTo x=[]:=if_pos (.inr (.inr (by by_cases h0:x<0;(· exact .inl h0);(· exact .inr (.inl (by omega))))));rw[E];refine kpb ?_;intro x2;have x0:=(h.cells (Fr.refl _ w)).1;obtain⟨me,hme⟩:=zE n.me;rw[hr] at x2;rw[hme] at x0 hx;have NC:=zH (jW w x);rw[decide_eq_false h16] at NC;have g1:(x==me)=false:=by simpa using hx
 clear h hr hx E h16 hme hnx hl hle;go_enter Tryz.func16,Tryz.ntmps16
 go_wp2_with fail
 (with_reducible refine NC.out.mono ?_);rintro e w1 ⟨rfl,rfl⟩;clear NC;go_wp2;go_ret;exact jj.none (Fr.refl _ _)
theorem MJ [Old] (h:PNs X P w b n q) (t:Nat) (ht:t<16) (hr:n.role=3) (hx:((t:Nat):Int)≠n.me) (hb:n.next.getD t 0≤n.log.base) (hnx:∀y∈n.next,y<18446744073709551616) (hl:n.log.last+1<18446744073709551616) (hle:n.log.es.length≤900000):
 Calls Tryz.prog 16 #[.pointer (some ⟨b,0,none⟩),.int .i64 (t:Nat)] w fun e w'=>jj X w (n.sendTo (t:Nat)) e w':=by
 have E:n.sendTo (t:Nat)=[]:=if_pos (.inr (.inr (.inr (.inr hb))));rw[E];obtain⟨me,hme⟩:=zE n.me;refine kyE ?_;intro H NC BC;rw[hme] at hx;have g1:(((t:Nat):Int)==me)=false:=by simpa using hx
 rw[decide_eq_true hb] at BC;refine kpb ?_;intro x2;have x0:=(h.cells (Fr.refl _ w)).1;rw[hr] at x2;rw[hme] at x0;clear h hr hx E hme hnx hl hle hb ht;go_enter Tryz.func16,Tryz.ntmps16
 go_wp2_with fail
 (with_reducible refine(NC.out _).mono ?_);rintro e w1 ⟨rfl,rfl⟩;clear NC;go_wp2_with fail
 (with_reducible refine BC.out.mono ?_);rintro e w1 ⟨rfl,m,hm⟩;have F1:Hid (FT w w1):=by rw[hm];exact(Fr.refl _ _).drewN _
 clear BC hm x0 x2;go_wp2;go_ret;exact jj.none F1
abbrev sMV (me:Int) (t tm pv pt cm:Nat) (a':Option Addr) (c':Nat) (ys:List EV):MV:=⟨5,me,(t:Nat),tm,pv,pt,cm,false,none,0,[],a',c',ys⟩
theorem MZ [Old] (h:PNs X P w b n q) (t:Nat) (ht:t<16) (hr:n.role=3) (hx:((t:Nat):Int)≠n.me) (hb:¬n.next.getD t 0≤n.log.base) (hnx:∀y∈n.next,y<18446744073709551616) (hl:n.log.last+1<18446744073709551616) (hle:n.log.es.length≤900000):
 Calls Tryz.prog 16 #[.pointer (some ⟨b,0,none⟩),.int .i64 (t:Nat)] w fun e w'=>jj X w (n.sendTo (t:Nat)) e w':=by
 obtain⟨me,hme⟩:=zE n.me;refine kyE ?_;intro H NC BC;rw[hme] at hx;have g1:(((t:Nat):Int)==me)=false:=by simpa using hx
 obtain⟨ae,le,ce,hve,hlel,hes,hlg⟩:=h.lg;refine kr8 ?_;intro bs hbs bt hbt;obtain⟨tm,htm⟩:=zE n.tm;obtain⟨cm,hcm⟩:=zE n.commit;obtain⟨nt,hnt⟩:=zE (n.next.getD t 0);obtain⟨bn,hbn⟩:=zE q.bn;obtain⟨cn,hcn⟩:=zE q.cn;obtain⟨pv,hpv⟩:=zE (nt-1);obtain⟨pt,hpt⟩:=zE ((n.log.term pv).1);obtain⟨pk,hpk⟩:=zE ((n.log.term pv).2);obtain⟨SL,hSL⟩:=zE (n.log.slice nt 8);rw[decide_eq_false hb] at BC
 have hn64:nt<18446744073709551616:=by rw[←hnt,List.getD_eq_getElem?_getD,List.getElem?_eq_getElem (by have:=h.nx.1;omega)];exact hnx _ (List.getElem_mem _)
 rw[hnt,hbs] at hb;refine kJf ?_;intro hl2
 have OUT:Hid (n.sendTo (t:Nat)=[{ zMs with kind:=5,src:=me,dst:=(t:Nat),tm:=tm,index:=pv,prev:=pt,commit:=cm,es:=SL }]):=by
  show n.sendTo (t:Nat)=_
  have e:n.sendTo (t:Nat)=[{ zMs with kind:=5,src:=n.me,dst:=(t:Nat),tm:=n.tm,index:=n.next.getD t 0-1,prev:=(n.log.term (n.next.getD t 0-1)).1,commit:=n.commit,es:=n.log.slice (n.next.getD t 0) 8 }]:=if_neg (by
   show ¬(n.role≠3∨((t:Nat):Int)=n.me∨((t:Nat):Int)<0∨15<((t:Nat):Int)∨n.next.getD t 0≤n.log.base);rw[hnt,hbs,hme];intro e;rcases e with e | e | e | e | e
   ·exact e hr
   ·exact hx e
   ·omega
   ·omega
   ·exact hb e)
  rw[e,hnt,hpv,hpt,hSL,hme,htm,hcm]
 have TC:=zH (fun W (f:FT w W)=>dy W bs bt pv ae le ce q.es (hes W f).row (by omega));have SLC:=zH (fun W (f:FT w W)=>t_ W bs bt nt 8 ae le ce q.es (hes W f) (by omega) (by decide) (by decide) (by omega) hn64 (fun c hc=>Nat.lt_of_lt_of_le (h.hx c hc) f.size));rw[show lgE bs bt q.es=n.log by rw[←hbs,←hbt];exact hlg,hpt,hpk] at TC;rw[show (⟨bs,bt,q.es.map EV.en⟩:Lg)=n.log by rw[←hbs,←hbt];exact hlg,hSL,show ((8:Nat):Int)=8 from rfl] at SLC
 have CC:Hid (∀W,FT w W→W.cell? ⟨b,0,none⟩=some (.int .i64 me)∧W.cell? ⟨b,6,none⟩=some (.int .u64 (tm:Nat))∧W.cell? ⟨b,7,none⟩=some (.int .u64 (cm:Nat))∧W.cell? ⟨b,8,none⟩=some (.int .u64 (bs:Nat))∧W.cell? ⟨b,9,none⟩=some (.int .u64 (bt:Nat))∧W.cell? ⟨b,10,none⟩=some (.slice ae le ce)∧W.cell? ⟨b,12,none⟩=some (.slice (some ⟨bn,0,none⟩) 16 cn)∧W.cell? ⟨bn,t,none⟩=some (.int .u64 (nt:Nat))):=fun W f=>by obtain⟨x0,x1,x2,x3,x4,x5,x6,x7,x8,x9,x10,x11,x12,x13⟩:=h.cells f;exact⟨by rw[x0,hme],by rw[x6,htm],by rw[x7,hcm],by rw[x8,hbs],by rw[x9,hbt],by rw[x10,hve],by rw[x12,hbn,hcn],by rw[←hbn,((h.nx.fr f fun _ _=>trivial).cell t ht),hnt]⟩
 have w1:IntKind.u64.wrap ((nt:Int)-1)=((pv:Nat):Int):=by rw[IntKind.wrap_u64];omega
 refine kpb ?_;intro x2;rw[hr] at x2;have x0:=(CC w (Fr.refl _ _)).1;have ht2:((t:Nat):Int)<16:=by omega
 clear h hr hx hme hnx hl hle hb hve hlel hes hlg hbs hbt htm hcm hnt hbn hcn hpv hpt hpk hSL hn64 hl2;dsimp only[vL] at TC;go_enter Tryz.func16,Tryz.ntmps16
 go_wp2_with fail
 (with_reducible refine(NC.out _).mono ?_);rintro e wa ⟨rfl,rfl⟩;clear NC;go_wp2_with fail
 (with_reducible refine BC.out.mono ?_);rintro e wb ⟨rfl,m,hm⟩;have F1:Hid (FT w wb):=by rw[hm];exact(Fr.refl _ _).drewN _
 clear BC hm x0 x2;obtain⟨y0,y6,y7,y8,y9,y10,y12,z⟩:=CC wb F1;go_wp2_with fail
 (with_reducible refine(TC.out _ F1.out).mono ?_);rintro e wc ⟨rfl,f2⟩;have UD:Hid (FT w wc.drew):=(F1.trans f2).drew;clear TC f2 y0 y6 y7 y8 y9 y10 y12 z w1;go_wp2_with fail
 refine L4 [(48,0),(49,1),(50,2),(51,3),(52,4),(53,5),(54,6),(55,7),(56,8),(57,9),(58,10),(59,11),(60,12),(61,13),(62,14),(63,15),(64,16),(65,17),(66,18),(67,19),(68,20),(69,21),(70,22),(71,23),(72,24),(73,25),(74,26),(75,27),(76,28),(4,29)] [(0,[]),(1,[0]),(2,[1]),(3,[2]),(4,[]),(5,[]),(6,[5]),(7,[6]),(8,[7]),(9,[]),(10,[]),(11,[]),(12,[11]),(13,[12]),(14,[13]),(15,[]),(16,[15]),(17,[16]),(18,[17]),(19,[]),(20,[19]),(21,[20]),(22,[21]),(23,[]),(24,[22,23]),(25,[24]),(26,[18,25]),(27,[3,4,8,9,10,14,26]),(28,[27]),(29,[28])] (ckR [(0,.pointer (some ⟨b,0,none⟩)),(1,.pointer (some ⟨b,0,none⟩)),(2,.pointer (some ⟨b,0,none⟩)),(3,.int .i64 me),(4,.int .i64 (t:Nat)),(5,.pointer (some ⟨b,0,none⟩)),(6,.pointer (some ⟨b,0,none⟩)),(7,.pointer (some ⟨b,6,none⟩)),(8,.int .u64 (tm:Nat)),(9,.int .u64 (pv:Nat)),(10,.int .u64 (pt:Nat)),(11,.pointer (some ⟨b,0,none⟩)),(12,.pointer (some ⟨b,0,none⟩)),(13,.pointer (some ⟨b,7,none⟩)),(14,.int .u64 (cm:Nat)),(15,.pointer (some ⟨b,0,none⟩)),(16,.pointer (some ⟨b,0,none⟩)),(17,.pointer (some ⟨b,8,none⟩)),(18,.agg #[.int .u64 (bs:Nat),.int .u64 (bt:Nat),.slice ae le ce]),(19,.pointer (some ⟨b,0,none⟩)),(20,.pointer (some ⟨b,0,none⟩)),(21,.pointer (some ⟨b,12,none⟩)),(22,.slice (some ⟨bn,0,none⟩) 16 cn),(23,.int .i64 (t:Nat)),(24,.pointer (some ⟨bn,t,none⟩)),(25,.int .u64 (nt:Nat))] [(26,⟨fun v W=>∃a' c' ys,v=.slice a' ys.length c'∧EsAt X W (.slice a' ys.length c') ys∧ys.map EV.en=SL,fun v W W' h hf=>by obtain⟨a',c',ys,h1,h2,h3⟩:=h;exact⟨a',c',ys,h1,h2.tt hf,h3⟩⟩),(27,⟨fun v W=>∃a' c' ys,v=.agg #[.int .i64 5,.int .i64 me,.int .i64 (t:Nat),.int .u64 (tm:Nat),.int .u64 (pv:Nat),.int .u64 (pt:Nat),.int .u64 (cm:Nat),.bool false,.slice none 0 0,.slice a' ys.length c']∧EsAt X W (.slice a' ys.length c') ys∧ys.map EV.en=SL,fun v W W' h hf=>by obtain⟨a',c',ys,h1,h2,h3⟩:=h;exact⟨a',c',ys,h1,h2.tt hf,h3⟩⟩),(28,⟨fun v W=>∃g a' c' ys,v=.slice (some ⟨g,0,none⟩) 1 1∧w.heap.size≤g∧W.heap[g]? = some (.cells (cM (sMV me t tm pv pt cm a' c' ys)) 32 (0,0))∧EsAt X W (.slice a' ys.length c') ys∧ys.map EV.en=SL,fun v W W' h hf=>by obtain⟨g,a',c',ys,h1,h2,h3,h4,h5⟩:=h;exact⟨g,a',c',ys,h1,h2,hf.keep _ _ h3 trivial,h4.tt hf,h5⟩⟩),(29,⟨fun v W=>∃g a' c' ys,v=.slice (some ⟨g,0,none⟩) 1 1∧w.heap.size≤g∧W.heap[g]? = some (.cells (cM (sMV me t tm pv pt cm a' c' ys)) 32 (0,0))∧EsAt X W (.slice a' ys.length c') ys∧ys.map EV.en=SL,fun v W W' h hf=>by obtain⟨g,a',c',ys,h1,h2,h3,h4,h5⟩:=h;exact⟨g,a',c',ys,h1,h2,hf.keep _ _ h3 trivial,h4.tt hf,h5⟩⟩)] 30 0) rfl ?cfall ?cfend
 case cfall=>
  iterate 26
   refine bY.q rfl rfl rfl (kQQ ?_) ?_
   ·intro xs W HF K' hK;obtain⟨y0,y6,y7,y8,y9,y10,y12,z⟩:=CC W (UD.trans HF);exact mD8
  refine bY.p rfl rfl (kPP ?_) ?_
  ·intro xs W HF K' hK;have SC:=zH (SLC W (UD.trans HF));dsimp only[vL] at SC
   skip
   go_simp;(with_reducible refine SC.out.mono ?_);exact m0G
  refine bY.p rfl rfl (kPH ?_) ?_
  ·intro xs W HF hA K' hK;have h26:=hA 26 (by decide);clear hA;obtain⟨a',c',ys,e26,he,hy⟩:=h26;rw[e26] at hK ⊢;clear e26
   skip
   go_simp;exact hK _ _ _ rfl (Fr.refl _ _) ⟨a',c',ys,rfl,he,hy⟩
  refine bY.p rfl rfl (kPH ?_) ?_
  ·intro xs W HF hA K' hK;have h27:=hA 27 (by decide);clear hA;obtain⟨a',c',ys,e27,he,hy⟩:=h27;rw[e27] at hK ⊢;clear e27;have SB:Hid (w.heap.size≤W.heap.size):=(UD.trans HF).size
   skip
   go_simp;exact hK _ _ _ rfl ((Fr.refl _ _).alloc _) ⟨_,a',c',ys,rfl,SB,bZ _ _,he.tt ((Fr.refl _ _).alloc _),hy⟩
  refine bY.p rfl rfl (kPH ?_) ?_
  ·intro xs W HF hA K' hK;have h28:=hA 28 (by decide);clear hA;obtain⟨g,a',c',ys,e28,hg,tg,he,hy⟩:=h28;rw[e28] at hK ⊢;clear e28
   skip
   go_simp;exact hK _ _ _ rfl (Fr.refl _ _) ⟨g,a',c',ys,rfl,hg,tg,he,hy⟩
  exact m36
 case cfend=>refine kEH ?_;intro xs W HF hA;have h26:=hA (26,[18,25]) (by decide);have h27:=hA (27,[3,4,8,9,10,14,26]) (by decide);have h28:=hA (28,[27]) (by decide);have h29:=hA (29,[28]) (by decide);clear hA;obtain⟨g,a',c',ys,e29,hg,tg,he,hy⟩:=h29;rw[e29];have FW:=zH (UD.trans HF);have HE:=zH (And.intro hg (And.intro tg (And.intro he hy)));clear hg tg he hy e29 SLC CC;go_wp2;go_ret;rw[OUT.out];refine⟨⟨_,[sMV me t tm pv pt cm a' c' ys],rfl,OwnMs.at1 _ HE.out.1 HE.out.2.1 (fun hc=>by have:=H.out.hx g hc;have:=HE.out.1;omega) ⟨BytesAt.nil _ _,HE.out.2.2.1⟩,?_⟩,FW.out⟩;show [MV.ms _]=_;unfold MV.ms;rw[HE.out.2.2.2];rfl
theorem m7 [Old] (h:PNs X P w b n q) (x:Int) (hnx:∀y∈n.next,y<18446744073709551616) (hl:n.log.last+1<18446744073709551616) (hle:n.log.es.length≤900000):
 Calls Tryz.prog 16 #[.pointer (some ⟨b,0,none⟩),.int .i64 x] w fun e w'=>jj X w (n.sendTo x) e w':=by
 by_cases hr:n.role=3
 ·by_cases hx:x=n.me
  ·exact MQ h x hr hx hnx hl hle
  ·by_cases h16:0≤x∧x<16
   ·obtain⟨t,rfl⟩:=Int.eq_ofNat_of_zero_le h16.1;by_cases hb:n.next.getD t 0≤n.log.base
    ·exact MJ h t (by omega) hr hx hb hnx hl hle
    ·exact MZ h t (by omega) hr hx hb hnx hl hle
   ·exact L9 h x hr hx h16 hnx hl hle
 ·exact L8 h x hr hnx hl hle
end
theorem m2T {p:Prop} (h:p:=by
 exact Up.refl n):p:=h
theorem mU0 {p:Prop} (h:p:=by
 exact⟨Nat.le_refl _,Nat.le_refl _,rfl,rfl,rfl⟩):p:=h
namespace Nd
structure Up (n n':Nd):Prop where
 tm:n.tm≤n'.tm
 commit:n.commit≤n'.commit
 me:n'.me=n.me
 conf:n'.conf=n.conf
 base:n'.log.base=n.log.base
theorem Up.refl (n:Nd):Up n n:=⟨Nat.le_refl _,Nat.le_refl _,rfl,rfl,rfl⟩
theorem Up.trans {a b c:Nd} (h:Up a b) (k:Up b c):Up a c:=⟨Nat.le_trans h.tm k.tm,Nat.le_trans h.commit k.commit,k.me.trans h.me,k.conf.trans h.conf,k.base.trans h.base⟩
theorem follow_up (n:Nd) (t:Nat) (ld:Int):Up n (n.follow t ld):=by
 unfold follow;split
 ·exact⟨by show n.tm≤t;omega,Nat.le_refl _,rfl,rfl,rfl⟩
 ·exact mU0
theorem lead_up (n:Nd):Up n n.lead:=⟨Nat.le_refl _,Nat.le_refl _,rfl,rfl,rfl⟩
theorem Py (n:Nd):Up n n.askT.1:=by
 unfold askT;split
 ·dsimp only;split
  ·exact⟨Nat.le_succ _,Nat.le_refl _,rfl,rfl,rfl⟩
  ·exact⟨Nat.le_succ _,Nat.le_refl _,rfl,rfl,rfl⟩
 ·exact m2T
theorem askF_up (n:Nd):Up n n.askF.1:=by
 unfold askF;split
 ·dsimp only;split
  ·exact Up.trans (b:={ n with role:=1,ld:=-1,yes:=[n.me] }) ⟨Nat.le_refl _,Nat.le_refl _,rfl,rfl,rfl⟩ (Py _)
  ·exact mU0
 ·exact m2T
theorem Px (n:Nd):Up n n.chosen.1:=by
 unfold chosen;split
 ·exact Py n
 ·exact lead_up n
theorem onAsk_up (n:Nd) (m:Ms):Up n (n.onAsk m).1:=by
 unfold onAsk;split
 ·dsimp only
  have h:Up n (if m.kind=1∧n.tm<m.tm then n.follow m.tm (-1) else n):=by
   split
   ·exact follow_up _ _ _
   ·exact m2T
  generalize (if m.kind=1∧n.tm<m.tm then n.follow m.tm (-1) else n)=n1 at h;split
  ·exact⟨h.tm,h.commit,h.me,h.conf,h.base⟩
  ·exact h
 ·exact m2T
theorem onAnswer_up (n:Nd) (m:Ms):Up n (n.onAnswer m).1:=by
 unfold onAnswer;split
 ·dsimp only
  have h:Up n (if n.tm<m.tm∧(m.ok=false∨m.kind=2) then n.follow m.tm (-1) else n):=by
   split
   ·exact follow_up _ _ _
   ·exact m2T
  generalize (if n.tm<m.tm∧(m.ok=false∨m.kind=2) then n.follow m.tm (-1) else n)=n1 at h;have h2:Up n { n1 with yes:=n1.yes++[m.src] }:=⟨h.tm,h.commit,h.me,h.conf,h.base⟩
  split
  ·split
   ·exact h2.trans (Px _)
   ·exact h2
  ·exact h
 ·exact m2T
theorem GQ (n:Nd) (r:Nat):Up n (n.sureR r):=by
 unfold sureR;split
 ·rename_i h;exact⟨Nat.le_refl _,by show n.commit≤r;omega,rfl,rfl,rfl⟩
 ·exact m2T
theorem propose_up (n:Nd) (k:Int) (d:List UInt8):Up n (n.propose k d).1:=by
 unfold propose;split
 ·exact m2T
 ·split
  ·exact m2T
  ·split
   ·exact m2T
   ·exact Up.trans (b:={ n with log:=n.log.add ⟨n.tm,k,d⟩,mat:=n.mat.set n.me.toNat (n.log.last+1) }) ⟨Nat.le_refl _,Nat.le_refl _,rfl,rfl,rfl⟩ (GQ _ _)
theorem taken_up (n:Nd) (m:Ms):Up n (n.taken m).1:=by
 unfold taken;split
 ·exact m2T
 ·refine⟨Nat.le_refl _,?_,rfl,rfl,(Lg.append_base _ _ _ _).1⟩;show n.commit≤max n.commit _;omega
theorem onAppend_up (n:Nd) (m:Ms):Up n (n.onAppend m).1:=by
 unfold onAppend;split
 ·exact m2T
 ·split
  ·exact m2T
  ·have h:=follow_up n m.tm m.src;exact Up.trans (b:={ n.follow m.tm m.src with heard:=true }) ⟨h.tm,h.commit,h.me,h.conf,h.base⟩ (taken_up _ m)
theorem acked_up (n:Nd) (m:Ms):Up n (n.acked m):=by
 unfold acked;split
 ·exact mU0
 ·split
  ·exact Up.trans (b:={ n with mat:=n.mat.set m.src.toNat (max (n.mat.getD m.src.toNat 0) m.index),next:=n.next.set m.src.toNat (max (n.mat.getD m.src.toNat 0) m.index+1) }) ⟨Nat.le_refl _,Nat.le_refl _,rfl,rfl,rfl⟩ (GQ _ _)
  ·exact m2T
theorem onAcked_up (n:Nd) (m:Ms):Up n (n.onAcked m).1:=by
 unfold onAcked;split
 ·exact m2T
 ·split
  ·exact follow_up _ _ _
  ·split
   ·exact m2T
   ·split <;> exact acked_up n m
def hear (n:Nd) (m:Ms):Nd×List Ms:=
 let a:=n.onAsk m;let b:=a.1.onAnswer m;let c:=b.1.onAppend m;let d:=c.1.onAcked m
 (d.1,a.2++b.2++c.2++d.2)
theorem hear_up (n:Nd) (m:Ms):Up n (n.hear m).1:=(((onAsk_up n m).trans (onAnswer_up _ m)).trans (onAppend_up _ m)).trans (onAcked_up _ m)
end Nd
theorem m1M {p:Prop} (h:p:=by
 show n.log.base+(n.log.es++[_]).length≤_;unfold Lg.last at hl;simp;omega):p:=h
theorem mNF {p:Prop} (h:p:=by
 exact⟨h1,fun x hx=>by cases hx⟩):p:=h
structure Bn (B:Nat) (n:Nd):Prop where
 tm:n.tm≤B
 commit:n.commit≤B
 last:n.log.last≤B
 n16:n.next.length=16
 m16:n.mat.length=16
 nx:∀x∈n.next,x≤B
 mt:∀x∈n.mat,x≤B
structure Bm (B:Nat) (m:Ms):Prop where
 tm:m.tm≤B
 index:m.index+m.es.length≤B
 prev:m.kind=6→m.prev≤B
 commit:m.commit≤B
theorem Bn.mono {B B':Nat} {n:Nd} (h:Bn B n) (hb:B≤B'):Bn B' n:=⟨Nat.le_trans h.tm hb,Nat.le_trans h.commit hb,Nat.le_trans h.last hb,h.n16,h.m16,fun x hx=>Nat.le_trans (h.nx x hx) hb,fun x hx=>Nat.le_trans (h.mt x hx) hb⟩
theorem Bm.mono {B B':Nat} {m:Ms} (h:Bm B m) (hb:B≤B'):Bm B' m:=⟨Nat.le_trans h.tm hb,Nat.le_trans h.index hb,fun k=>Nat.le_trans (h.prev k) hb,Nat.le_trans h.commit hb⟩
theorem sv {B:Nat} {l:List Nat} (h:∀x∈l,x≤B) (i y:Nat) (hy:y≤B):∀x∈l.set i y,x≤B:=fun x hx=>by
 rcases List.mem_or_eq_of_mem_set hx with h1 | h1
 ·exact h x h1
 ·exact h1▸hy
theorem N0 {B:Nat} {l:List Nat} (h:∀x∈l,x≤B) (i:Nat):l.getD i 0≤B:=by
 rw[List.getD_eq_getElem?_getD];by_cases hi:i<l.length
 ·rw[List.getElem?_eq_getElem hi];exact h _ (List.getElem_mem hi)
 ·rw[List.getElem?_eq_none (by omega)];exact Nat.zero_le _
theorem mq {B k y:Nat} (hy:y≤B):∀x∈List.replicate k y,x≤B:=fun x hx=>by rw[List.eq_of_mem_replicate hx];exact hy
theorem wQ {B:Nat} {l:Lg}:∀(es:List En) (p:Nat),l.base≤p→p≤l.last→l.last≤B→p+es.length≤B→(l.lay p es).last≤B
 | [],p,_,_,h,_=>h
 | x :: xs,p,h1,h2,h3,h4=>by
  rw[List.length_cons] at h4;unfold Lg.lay;split
  ·rename_i h;have h5:(l.term (p+1)).2=true:=by rw[h]
   exact wQ xs (p+1) (by omega) (Lg.term_is.1 h5).2 h3 (by omega)
  ·show l.base+(l.es.take (p-l.base)++x :: xs).length≤B;rw[List.length_append,List.length_take,List.length_cons];omega
theorem Fq {B:Nat} {l:Lg} {p pt:Nat} {es:List En} (h:l.last≤B) (hi:p+es.length≤B):(l.append p pt es).1.last≤B:=by
 unfold Lg.append;split
 ·exact h
 ·rename_i hf
  have hp:p≤l.last:=by
   unfold Lg.fits at hf;by_cases hh:l.last<p
   ·rw[if_pos hh] at hf;exact absurd (by decide) hf
   ·omega
  have hb:l.base≤l.last:=by unfold Lg.last;omega
  split
  ·refine wQ _ _ (Nat.le_refl _) hb h ?_;rw[List.length_drop];omega
  ·exact wQ _ _ (by omega) hp h hi
namespace Nd
variable {B:Nat} {n:Nd} {m:Ms}
theorem nQ (h:Bn B n) {t:Nat} (ht:t≤B) (ld:Int):Bn B (n.follow t ld):=by
 unfold follow;split
 ·exact⟨ht,h.commit,h.last,h.n16,h.m16,h.nx,h.mt⟩
 ·exact⟨h.tm,h.commit,h.last,h.n16,h.m16,h.nx,h.mt⟩
theorem lead_b (h:Bn B n):Bn (B+1) n.lead:=by
 have hl:=h.last;refine⟨Nat.le_succ_of_le h.tm,Nat.le_succ_of_le h.commit,?_,by simp [lead],by simp [lead],mq (by omega),sv (mq (Nat.zero_le _)) _ _ (by omega)⟩;exact m1M
theorem MY (m:Ms) (h:Bm B m):∀x∈n.toAll m,Bm B x:=fun x hx=>by
 unfold toAll at hx;obtain⟨y,_,rfl⟩:=List.mem_map.1 hx;exact⟨h.tm,h.index,h.prev,h.commit⟩
theorem askT_b (h:Bn B n):Bn (B+1) n.askT.1∧∀x∈n.askT.2,Bm (B+1) x:=by
 have h1:=h.mono (Nat.le_succ B);have hl:=h.last;have ht:=h.tm;unfold askT;split
 ·dsimp only;split
  ·have hh:=lead_b (n:={ n with tm:=n.tm+1,vote:=n.me,role:=2,ld:=-1,yes:=[n.me] }) (B:=B+1) ⟨by show n.tm+1≤B+1;omega,h1.commit,h1.last,h1.n16,h1.m16,h1.nx,h1.mt⟩;refine⟨⟨by show n.tm+1≤B+1;omega,h1.commit,?_,hh.n16,hh.m16,mq ?_,sv (mq (Nat.zero_le _)) _ _ ?_⟩,fun x hx=>by cases hx⟩
   ·exact m1M
   ·show n.log.last+1≤B+1;omega
   ·show n.log.last+1≤B+1;omega
  ·refine⟨⟨by show n.tm+1≤B+1;omega,h1.commit,h1.last,h1.n16,h1.m16,h1.nx,h1.mt⟩,MY _ ⟨by show n.tm+1≤B+1;omega,by show n.log.last+0≤B+1;omega,fun k=>absurd (show (1:Int)=6 from k) (by decide),Nat.zero_le _⟩⟩
 ·exact mNF
theorem askF_b (h:Bn B n):Bn (B+1) n.askF.1∧∀x∈n.askF.2,Bm (B+1) x:=by
 have h1:=h.mono (Nat.le_succ B);have hl:=h.last;have ht:=h.tm;unfold askF;split
 ·dsimp only;split
  ·exact askT_b (n:={ n with role:=1,ld:=-1,yes:=[n.me] }) ⟨h.tm,h.commit,h.last,h.n16,h.m16,h.nx,h.mt⟩
  ·refine⟨⟨h1.tm,h1.commit,h1.last,h1.n16,h1.m16,h1.nx,h1.mt⟩,MY _ ⟨by show n.tm+1≤B+1;omega,by show n.log.last+0≤B+1;omega,fun k=>absurd (show (3:Int)=6 from k) (by decide),Nat.zero_le _⟩⟩
 ·exact mNF
theorem chosen_b (h:Bn B n):Bn (B+1) n.chosen.1∧∀x∈n.chosen.2,Bm (B+1) x:=by
 unfold chosen;split
 ·exact askT_b h
 ·exact⟨lead_b h,fun x hx=>by cases hx⟩
theorem onAsk_b (h:Bn B n) (hm:Bm B m):Bn B (n.onAsk m).1∧∀x∈(n.onAsk m).2,Bm B x:=by
 unfold onAsk;split
 ·rename_i hk;dsimp only
  have h1:Bn B (if m.kind=1∧n.tm<m.tm then n.follow m.tm (-1) else n):=by
   split
   ·exact nQ h hm.tm _
   ·exact h
  generalize (if m.kind=1∧n.tm<m.tm then n.follow m.tm (-1) else n)=n1 at h1;refine⟨?_,fun x hx=>?_⟩
  ·split
   ·exact⟨h1.tm,h1.commit,h1.last,h1.n16,h1.m16,h1.nx,h1.mt⟩
   ·exact h1
  ·rw[List.mem_singleton.1 hx];refine⟨?_,Nat.zero_le _,fun k=>?_,Nat.zero_le _⟩
   ·show (if _ then m.tm else n1.tm)≤B;split
    ·exact hm.tm
    ·exact h1.tm
   ·have k':m.kind+1=6:=k;omega
 ·exact⟨h,fun x hx=>by cases hx⟩
theorem onAnswer_b (h:Bn B n) (hm:Bm B m):Bn (B+1) (n.onAnswer m).1∧∀x∈(n.onAnswer m).2,Bm (B+1) x:=by
 unfold onAnswer;split
 ·dsimp only
  have h1:Bn B (if n.tm<m.tm∧(m.ok=false∨m.kind=2) then n.follow m.tm (-1) else n):=by
   split
   ·exact nQ h hm.tm _
   ·exact h
  generalize (if n.tm<m.tm∧(m.ok=false∨m.kind=2) then n.follow m.tm (-1) else n)=n1 at h1;have h2:Bn B { n1 with yes:=n1.yes++[m.src] }:=⟨h1.tm,h1.commit,h1.last,h1.n16,h1.m16,h1.nx,h1.mt⟩
  split
  ·split
   ·exact chosen_b h2
   ·exact⟨h2.mono (Nat.le_succ _),fun x hx=>by cases hx⟩
  ·exact⟨h1.mono (Nat.le_succ _),fun x hx=>by cases hx⟩
 ·exact⟨h.mono (Nat.le_succ _),fun x hx=>by cases hx⟩
theorem Mv (h:Bn B n) (r:Nat):Bn B (n.sureR r):=by
 unfold sureR;split
 ·rename_i hh;have h3:(n.log.term r).2=true:=by rw[hh.2.1]
  have:=(Lg.term_is.1 h3).2;exact⟨h.tm,by show r≤B;have:=h.last;omega,h.last,h.n16,h.m16,h.nx,h.mt⟩
 ·exact h
theorem GK (h:Bn B n) (x:Int):∀y∈n.sendTo x,Bm B y:=fun y hy=>by
 unfold sendTo at hy;split at hy
 ·cases hy
 ·rename_i hc;rw[List.mem_singleton.1 hy];have hn:=N0 h.nx x.toNat;have hl:=h.last;refine⟨h.tm,?_,fun k=>absurd (show (5:Int)=6 from k) (by decide),h.commit⟩;show n.next.getD x.toNat 0-1+(n.log.slice _ 8).length≤B;unfold Lg.slice;split
  ·rename_i hs;have:=Lg.has_iff.1 hs;rw[List.length_take,List.length_drop];unfold Lg.last at *;omega
  ·show _+0≤B;omega
theorem beat_b (h:Bn B n):∀y∈n.beat,Bm B y:=fun y hy=>by
 unfold beat at hy;obtain⟨x,_,hx⟩:=List.mem_flatMap.1 hy;exact GK h x y hx
theorem propose_b (h:Bn B n) (k:Int) (d:List UInt8):Bn (B+1) (n.propose k d).1:=by
 have h1:=h.mono (Nat.le_succ B);have hl:=h.last;unfold propose;split
 ·exact h1
 ·split
  ·exact h1
  ·split
   ·exact h1
   ·refine Mv (n:={ n with log:=n.log.add ⟨n.tm,k,d⟩,mat:=n.mat.set n.me.toNat (n.log.last+1) }) ⟨h1.tm,h1.commit,?_,h1.n16,by show (n.mat.set _ _).length=16;rw[List.length_set];exact h.m16,h1.nx,sv h1.mt _ _ (by omega)⟩ _;exact m1M
theorem taken_b (h1:Bn B n) (hm:Bm B m):Bn B (n.taken m).1∧∀x∈(n.taken m).2,Bm B x:=by
 unfold taken;split
 ·refine⟨h1,fun x hx=>?_⟩;rw[List.mem_singleton.1 hx];refine⟨h1.tm,by have:=hm.index;show m.index+0≤B;omega,fun _=>?_,Nat.zero_le _⟩;show n.log.hint m.index≤B;have hl:=h1.last;unfold Lg.hint;split
  ·unfold Lg.last at hl;omega
  ·have:=Lg.down_le n.log (n.log.term (min m.index n.log.last)).1 (min m.index n.log.last-n.log.base);omega
 ·have hi:=hm.index;have hc:=hm.commit;refine⟨⟨h1.tm,?_,Fq h1.last hi,h1.n16,h1.m16,h1.nx,h1.mt⟩,fun x hx=>?_⟩
  ·have:=h1.commit;show max n.commit (min m.commit (m.index+m.es.length))≤B;omega
  ·rw[List.mem_singleton.1 hx];exact⟨h1.tm,by show m.index+m.es.length+0≤B;omega,fun _=>Nat.zero_le _,Nat.zero_le _⟩
theorem onAppend_b (h:Bn B n) (hm:Bm B m):Bn B (n.onAppend m).1∧∀x∈(n.onAppend m).2,Bm B x:=by
 unfold onAppend;split
 ·exact⟨h,fun x hx=>by cases hx⟩
 ·split
  ·refine⟨h,fun x hx=>?_⟩;rw[List.mem_singleton.1 hx];exact⟨h.tm,by have:=hm.index;show m.index+0≤B;omega,fun _=>Nat.zero_le _,Nat.zero_le _⟩
  ·have h0:=nQ h hm.tm m.src;exact taken_b (n:={ n.follow m.tm m.src with heard:=true }) ⟨h0.tm,h0.commit,h0.last,h0.n16,h0.m16,h0.nx,h0.mt⟩ hm
theorem acked_b (h:Bn B n) (hm:Bm B m) (hk:m.kind=6):Bn (B+1) (n.acked m):=by
 have h1:=h.mono (Nat.le_succ B);have hp:=hm.prev hk;have hi:=hm.index;have hg:=N0 h.mt m.src.toNat;unfold acked;split
 ·exact⟨h1.tm,h1.commit,h1.last,by show (n.next.set _ _).length=16;rw[List.length_set];exact h.n16,h1.m16,sv h1.nx _ _ (by omega),h1.mt⟩
 ·split
  ·exact Mv (n:={ n with mat:=n.mat.set m.src.toNat (max (n.mat.getD m.src.toNat 0) m.index),next:=n.next.set m.src.toNat (max (n.mat.getD m.src.toNat 0) m.index+1) }) ⟨h1.tm,h1.commit,h1.last,by show (n.next.set _ _).length=16;rw[List.length_set];exact h.n16,by show (n.mat.set _ _).length=16;rw[List.length_set];exact h.m16,sv h1.nx _ _ (by omega),sv h1.mt _ _ (by omega)⟩ _
  ·exact h1
theorem onAcked_b (h:Bn B n) (hm:Bm B m):Bn (B+1) (n.onAcked m).1∧∀x∈(n.onAcked m).2,Bm (B+1) x:=by
 have h1:=h.mono (Nat.le_succ B);unfold onAcked;split
 ·exact mNF
 ·rename_i hk;have hk6:m.kind=6:=Classical.not_not.1 hk;split
  ·exact⟨nQ h1 (Nat.le_succ_of_le hm.tm) _,fun x hx=>by cases hx⟩
  ·split
   ·exact mNF
   ·have ha:=acked_b h hm hk6;split
    ·exact⟨ha,fun x hx=>by cases hx⟩
    ·exact⟨ha,GK ha _⟩
theorem hear_b (h:Bn B n) (hm:Bm B m):Bn (B+2) (n.hear m).1∧∀x∈(n.hear m).2,Bm (B+2) x:=by
 obtain⟨a1,a2⟩:=onAsk_b h hm;obtain⟨b1,b2⟩:=onAnswer_b a1 hm;obtain⟨c1,c2⟩:=onAppend_b b1 (hm.mono (Nat.le_succ B));obtain⟨d1,d2⟩:=onAcked_b c1 (hm.mono (Nat.le_succ B));refine⟨d1,fun x hx=>?_⟩;have hx':x∈(n.onAsk m).2++((n.onAsk m).1.onAnswer m).2++(((n.onAsk m).1.onAnswer m).1.onAppend m).2++((((n.onAsk m).1.onAnswer m).1.onAppend m).1.onAcked m).2:=hx;rcases List.mem_append.1 hx' with hx' | hx'
 ·rcases List.mem_append.1 hx' with hx' | hx'
  ·rcases List.mem_append.1 hx' with hx' | hx'
   ·exact(a2 x hx').mono (by omega)
   ·exact(b2 x hx').mono (by omega)
  ·exact(c2 x hx').mono (by omega)
 ·exact d2 x hx'
end Nd
end Go.Proofs.YtmjccpfchhnfhaaGreat
