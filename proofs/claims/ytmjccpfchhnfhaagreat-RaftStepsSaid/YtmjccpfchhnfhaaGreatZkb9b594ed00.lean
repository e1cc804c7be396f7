/- Texts of the proofs, part 27: what the functions that they reach do, walked; no conditions beyond those that each states. -/
import Derived.Test.YtmjccpfchhnfhaaGreatZk6ec2c28cc4
import Derived.Test.YtmjccpfchhnfhaaGreatZk9e9eaad155
import Derived.Test.YtmjccpfchhnfhaaGreatZkc6f2d893d8
set_option linter.unusedVariables false
set_option linter.unusedSimpArgs false
set_option maxRecDepth 100000
set_option maxHeartbeats 8000000
namespace Go.Proofs.YtmjccpfchhnfhaaGreat
open Go.RowKit
section
variable {X:Nat→Prop} {w w':World} {b:Nat} {n n':Nd} {q q':DV}
def jQ [Old] (X:Nat→Prop) (w:World) (b:Nat) (r:Nd×List Ms) (e:Ending) (w':World):Prop:=
 ∃q' v mvs,e=.returned v∧DNs X w' b r.1 q'∧Fr (fun c _=>c≠b) w w'∧OwnMs X w.heap.size w' v mvs∧mvs.map MV.ms=r.2
theorem DNs.own1 [Old] (h:DNs X w b n q) (hf:Fr (fun c _=>c≠b) w w') {v:Value} (l:List (Nat×Value)) (hw:j4 w b l=w') (ht:(l.foldl (fun c q=>c.setIfInBounds q.1 q.2) (W44 n q))=W44 n' q) (hc:n'.conf=n.conf) (hy:n'.yes=n.yes) (he:n'.log.es=n.log.es) (ha:n'.next.length=16∧n'.mat.length=16):DNs X w' b n' q:=
 h.re hf (by rw[←hw,←ht];exact bz l h.top) ⟨hc,rfl⟩ (by rw[hy];exact h.ye.aft (h.own hf)) ⟨by rw[he];exact h.ee,h.ev.aft (h.own hf)⟩ ha
theorem rv [Old] (h:DNs X w b n q) (m:MV) (hm:MsAt X w m) (hk5:m.kind≠5) (hix:m.index+m.es.length+1<18446744073709551616) (hes:m.es.length≤400000) (hl:n.log.last+1<18446744073709551616) (hle:n.log.es.length≤400000):
 Calls Tryz.prog 11 #[.pointer (some ⟨b,0,none⟩),.agg (cM m)] w fun e w'=>jQ X w b (n.onAppend m.ms) e w':=by
 obtain⟨W1,hW1,F1,X1⟩:=gW w m;obtain⟨g0,hg0⟩:=zE w.heap.size;rw[hg0] at X1;have H:=zH h;have HG0:=zH hg0;have gb:Hid (g0≠b):=by have:=bZ h.top;show _≠_;omega
 obtain⟨k,hk⟩:=zE m.kind;have v0:W1.cell? ⟨g0,0,none⟩=some (.int .i64 k):=by rw[←hk];exact(bq X1.out).1
 have k5:(k==5)=false:=by rw[←hk];simpa using hk5
 have k5':(k != 5)=true:=by rw[bne,k5];rfl
 have E:Hid (n.onAppend m.ms=(n,[])):=if_pos hk5;unfold cM at hW1 ⊢;clear h hk hk5 hm hix hes hl hle;go_enter Tryz.func11,Tryz.ntmps11
 go_wp2
 try rw[hW1]
 go_ret;rw[E.out];exact⟨q,_,[],rfl,H.out.tt F1.out,F1.out.mono fun _ _ _=>trivial,OwnMs.nil _ _ _,rfl⟩
theorem rk [Old] (h:DNs X w b n q) (m:MV) (hm:MsAt X w m) (hk5:m.kind=5) (hlt:m.tm<n.tm) (hix:m.index+m.es.length+1<18446744073709551616) (hes:m.es.length≤400000) (hl:n.log.last+1<18446744073709551616) (hle:n.log.es.length≤400000):
 Calls Tryz.prog 11 #[.pointer (some ⟨b,0,none⟩),.agg (cM m)] w fun e w'=>jQ X w b (n.onAppend m.ms) e w':=by
 obtain⟨W1,hW1,F1,X1⟩:=gW w m;obtain⟨g0,hg0⟩:=zE w.heap.size;rw[hg0] at X1;have H:=zH h;have HG0:=zH hg0;have gb:Hid (g0≠b):=by have:=bZ h.top;show _≠_;omega
 obtain⟨me,hme⟩:=zE n.me;obtain⟨tm,htm⟩:=zE n.tm;obtain⟨s,hs⟩:=zE m.src;obtain⟨mt,hmt⟩:=zE m.tm;obtain⟨ix,hixx⟩:=zE m.index;obtain⟨pv,hpv⟩:=zE m.prev;obtain⟨mc,hmc⟩:=zE m.commit;have HL:=zH (And.intro hme (And.intro htm (And.intro hs (And.intro hmt (And.intro hixx (And.intro hpv hmc))))))
 have CC:Hid (∀W,Fr (fun _ _=>True) W1 W→W.cell? ⟨b,0,none⟩=some (.int .i64 me)∧W.cell? ⟨b,6,none⟩=some (.int .u64 (tm:Nat))):=fun W f=>by obtain⟨x0,x1,x2,x3,x4,x5,x6,x7,x8,x9,x10,x11⟩:=h.cells (F1.out.trans f);exact⟨by rw[x0,hme],by rw[x6,htm]⟩
 have V0:∀W:World,W.heap[g0]? = some (.cells (cM m) 32 (0,0))→W.cell? ⟨g0,1,none⟩=some (.int .i64 s)∧W.cell? ⟨g0,3,none⟩=some (.int .u64 (mt:Nat))∧W.cell? ⟨g0,4,none⟩=some (.int .u64 (ix:Nat))∧W.cell? ⟨g0,5,none⟩=some (.int .u64 (pv:Nat))∧W.cell? ⟨g0,6,none⟩=some (.int .u64 (mc:Nat))∧W.cell? ⟨g0,9,none⟩=some (.slice m.ea m.es.length m.ec):=fun W t=>by obtain⟨v0,v1,v2,v3,v4,v5,v6,v7,v8,v9⟩:=bq t;exact⟨by rw[v1,hs],by rw[v3,hmt],by rw[v4,hixx],by rw[v5,hpv],by rw[v6,hmc],v9⟩
 have VH:=zH V0;have v0:W1.cell? ⟨g0,0,none⟩=some (.int .i64 5):=by rw[←hk5];exact(bq X1.out).1
 have v3:=(V0 W1 X1.out).2.1;have y6:=(CC.out W1 (Fr.refl _ _)).2;have gl:decide (mt<tm)=true:=by rw[←hmt,←htm];exact decide_eq_true hlt
 have E:Hid (n.onAppend m.ms=(n,[{ zMs with kind:=6,src:=me,dst:=s,index:=ix,tm:=tm }])):=by show n.onAppend m.ms=_;unfold Nd.onAppend;rw[if_neg (fun e=>e hk5),if_pos (show m.ms.tm<n.tm from hlt)];rw[←hme,←hs,←hixx,←htm];rfl
 unfold cM at hW1 ⊢;clear hk5 hlt hix hes hl hle h hme htm hs hmt hixx hpv hmc hm V0;go_enter Tryz.func11,Tryz.ntmps11
 go_wp2_with fail
 try rw[hW1]
 try rw[HG0.out]
 clear hW1 hg0;go_quiet (fail)
 clear y6 v3 gl v0;have UQ:Hid (Fr (fun _ _=>True) W1 (W1.drewN nq)):=(Fr.refl _ W1).drewN nq;generalize W1.drewN nq=W2 at UQ ⊢;have F2:=zH (F1.out.trans UQ.out);have H2:=zH (H.out.tt F2.out);have MX2:Hid (W2.heap[g0]? = some (.cells (cM m) 32 (0,0))):=UQ.out.keep _ _ X1.out trivial;have UD:Hid (Fr (fun _ _=>True) W2 W2.drew):=(Fr.refl _ _).drew;go_wp2_with fail
 refine wpR [(19,0),(20,1),(21,2),(22,3),(23,4),(24,5),(25,6),(26,7),(27,8),(28,9),(29,10),(30,11),(31,12),(32,13),(4,14)] [(0,[]),(1,[0]),(2,[1]),(3,[2]),(4,[]),(5,[4]),(6,[]),(7,[6]),(8,[7]),(9,[8]),(10,[]),(11,[10]),(12,[3,5,9,11])] (ckR [(0,.pointer (some ⟨b,0,none⟩)),(1,.pointer (some ⟨b,0,none⟩)),(2,.pointer (some ⟨b,0,none⟩)),(3,.int .i64 me),(4,.pointer (some ⟨g0,1,none⟩)),(5,.int .i64 s),(6,.pointer (some ⟨b,0,none⟩)),(7,.pointer (some ⟨b,0,none⟩)),(8,.pointer (some ⟨b,6,none⟩)),(9,.int .u64 (tm:Nat)),(10,.pointer (some ⟨g0,4,none⟩)),(11,.int .u64 (ix:Nat)),(12,.agg #[.int .i64 6,.int .i64 me,.int .i64 s,.int .u64 (tm:Nat),.int .u64 (ix:Nat),.int .u64 0,.int .u64 0,.bool false,.slice none 0 0,.slice none 0 0])] [] 13 0) 2 rfl ?cfall ?cfend
 case cfall=>
  iterate 13
   refine bV.q rfl rfl rfl (fun xs W HF hE K' hK=>?_) ?_
   ·simp only[ckEqs,ckLook,Nat.reduceBEq] at hE;simp only[fillA,fillL,sA,sB,sC,Act.put,hE] at hK ⊢;clear hE;obtain⟨y0,y6⟩:=CC.out W (UQ.out.trans (UD.out.trans HF.out));obtain⟨v1,v3,v4,v5,v6,v9⟩:=VH.out W ((UD.out.trans HF.out).keep _ _ MX2.out trivial);(try simp only[gA,gB,gC]);go_simp;exact hK.out _ rfl
  exact bV.nil
 case cfend=>
  intro xs W hF hA;have HF:=zH hF;have hE:=b_ rfl hA;clear hA hF;simp only[List.map_cons,List.map_nil,ckEqs,ckLook,Nat.reduceBEq] at hE;simp only[fillA,fillL,sA,sB,sC,hE];clear hE;have F3:=zH (F2.out.trans (UD.out.trans HF.out));have H3:=zH (H.out.tt F3.out);refine wpN 13 rfl fun K' hK=>?_
  (try simp only[gA,gB,gC]);go_simp;refine hK.out _ _ ?_;clear hK K';refine wpN 14 rfl fun K' hK=>?_
  (try simp only[gA,gB,gC]);go_simp;refine hK.out _ _ ?_;clear hK K';refine wpF ?_;go_wp2;go_ret;rw[E.out];exact⟨q,_,[⟨6,me,s,tm,ix,0,0,false,none,0,[],none,0,[]⟩],rfl,(H3.out).tt ((Fr.refl _ W).alloc _),(F3.out.mono fun _ _ _=>trivial).alloc _,(OwnMs.one ⟨6,me,s,tm,ix,0,0,false,none,0,[],none,0,[]⟩ (H3.out).hx ⟨BytesAt.nil _ _,EsAt.nil _ _⟩).lo F3.out.size,rfl⟩
end
def RD (W:World) (rb b ap:Nat):Prop:=W.heap[rb]? = some (.cells #[.pointer (some ⟨b,0,none⟩),.int .u64 (ap:Nat)] 78 (0,0))
theorem RD.fr {K:Nat→Obj→Prop} {W W':World} {rb b ap:Nat} (h:RD W rb b ap) (f:Fr K W W') (hk:∀o,K rb o):RD W' rb b ap:=f.keep _ _ h (hk _)
section
variable {X:Nat→Prop} {w w':World} {b rb ap:Nat} {n n':Nd} {q q':DV}
theorem yY [Old] (h:DNs X w b n q) (hr:RD w rb b ap) (m:MV) (hm:MsAt X w m):
 Calls Tryz.prog 88 #[.pointer (some ⟨rb,0,none⟩),.agg (cM m)] w fun e w'=>e=.returned (.int .i64 (n.right m.ms))∧Fr (fun _ _=>True) w w':=by
 obtain⟨W1,hW1,F1,X1⟩:=gW w m;have CK:=zH (J7 W1 m (hm.tt F1.out));obtain⟨c,hc⟩:=zE (tJ m.ms);rw[hc] at CK;obtain⟨kd,hkd⟩:=zE m.kind;obtain⟨s,hs⟩:=zE m.src;obtain⟨d,hd⟩:=zE m.dst;obtain⟨t3,ht3⟩:=zE m.tm;obtain⟨t4,ht4⟩:=zE m.index;obtain⟨t5,ht5⟩:=zE m.prev;obtain⟨t6,ht6⟩:=zE m.commit;obtain⟨me,hme⟩:=zE n.me;obtain⟨r,hrr⟩:=zE (n.right m.ms)
 have EQ:Hid (r=if c≠0 then c else if d≠me∨s=me then 31 else if 6<kd then 30 else if 1152921504606846976≤max (max (max t3 t4) t5) t6 then 1 else 0):=by show r=_;rw[←hrr];unfold Nd.right;rw[hc,show m.ms.dst=d from hd,show m.ms.src=s from hs,show m.ms.kind=kd from hkd,show m.ms.tm=t3 from ht3,show m.ms.index=t4 from ht4,show m.ms.prev=t5 from ht5,show m.ms.commit=t6 from ht6,hme]
 rw[hrr]
 have CC:Hid (∀W,Fr (fun _ _=>True) W1 W→W.cell? ⟨rb,0,none⟩=some (.pointer (some ⟨b,0,none⟩))∧W.cell? ⟨b,0,none⟩=some (.int .i64 me)∧W.cell? ⟨w.heap.size,0,none⟩=some (.int .i64 kd)∧W.cell? ⟨w.heap.size,1,none⟩=some (.int .i64 s)∧W.cell? ⟨w.heap.size,2,none⟩=some (.int .i64 d)∧W.cell? ⟨w.heap.size,3,none⟩=some (.int .u64 (t3:Nat))∧W.cell? ⟨w.heap.size,4,none⟩=some (.int .u64 (t4:Nat))∧W.cell? ⟨w.heap.size,5,none⟩=some (.int .u64 (t5:Nat))∧W.cell? ⟨w.heap.size,6,none⟩=some (.int .u64 (t6:Nat))):=fun W f=>by obtain⟨v0,v1,v2,v3,v4,v5,v6,v7,v8,v9⟩:=bq (f.keep _ _ X1.out trivial);exact⟨bQ ((F1.out.trans f).keep _ _ hr trivial) rfl,by rw[(h.cells (F1.out.trans f)).1,hme],by rw[v0,hkd],by rw[v1,hs],by rw[v2,hd],by rw[v3,ht3],by rw[v4,ht4],by rw[v5,ht5],by rw[v6,ht6]⟩
 obtain⟨v0,v1,v2,v3,v4,v5,v6,v7,v8,v9⟩:=bq X1.out;dsimp only[cM] at CK;unfold cM at hW1 ⊢;clear h hr hm hc hkd hs hd ht3 ht4 ht5 ht6 hme hrr;go_enter Tryz.func88,Tryz.ntmps88
 go_wp2_with fail
 try rw[hW1]
 clear hW1;(with_reducible refine CK.out.mono ?_);rintro e w2 ⟨rfl,f2⟩;have F2:=zH f2;clear f2 CK v0 v1 v2 v3 v4 v5 v6 v7 v8 v9;by_cases hc0:c=0
 case neg=>
  have c1:(c==0)=false:=by simpa using hc0
  have OUT:Hid (r=c):=EQ.out.trans (if_pos hc0);clear EQ CC;go_wp2;go_ret;rw[OUT.out];exact⟨rfl,F1.out.trans F2.out⟩
 case pos=>
  subst hc0;replace EQ:Hid (r=if d≠me∨s=me then 31 else if 6<kd then 30 else if 1152921504606846976≤max (max (max t3 t4) t5) t6 then 1 else 0):=EQ.out.trans (if_neg (fun e=>e rfl));obtain⟨y0,y1,v0,v1,v2,v3,v4,v5,v6⟩:=CC.out w2 F2.out
  have C:Hid ((d != me)=true∨(d != me)=false∧(s==me)=true∨(d != me)=false∧(s==me)=false):=by show _∨_;by_cases e1:d=me <;> by_cases e2:s=me <;> simp [e1,e2]
  have BAD:Hid (((d != me)=true∨(s==me)=true)→r=31):=fun e=>EQ.out.trans (if_pos (by simpa using e))
  have GOOD:Hid ((d != me)=false→(s==me)=false→r=if 6<kd then 30 else if 1152921504606846976≤max (max (max t3 t4) t5) t6 then 1 else 0):=fun e1 e2=>EQ.out.trans (if_neg (by
   have e1':d=me:=by simpa using e1
   have e2':s≠me:=by simpa using e2
   exact fun e=>e.elim (fun e=>e e1') e2'))
  clear EQ;rcases C.out with c1 | ⟨c1,c2⟩ | ⟨c1,c2⟩
  ·have OUT:=zH (BAD.out (.inl c1));clear C BAD GOOD CC v3 v4 v5 v6;go_wp2_with fail
   go_quiet (fail)
   have U:Hid (Fr (fun _ _=>True) w2 (w2.drewN nq)):=(Fr.refl _ w2).drewN nq;go_wp2;go_ret;rw[OUT.out];exact⟨rfl,F1.out.trans (F2.out.trans U.out)⟩
  ·have OUT:=zH (BAD.out (.inr c2));clear C BAD GOOD CC v3 v4 v5 v6;go_wp2_with fail
   go_quiet (fail)
   have U:Hid (Fr (fun _ _=>True) w2 (w2.drewN nq)):=(Fr.refl _ w2).drewN nq;go_wp2;go_ret;rw[OUT.out];exact⟨rfl,F1.out.trans (F2.out.trans U.out)⟩
  ·have EQ:=zH (GOOD.out c1 c2);clear C BAD GOOD v3 v4 v5 v6;go_wp2_with fail
   go_quiet (fail)
   have U:Hid (Fr (fun _ _=>True) w2 (w2.drewN nq)):=(Fr.refl _ w2).drewN nq;generalize w2.drewN nq=w3 at U ⊢;clear y0 y1 v0 v1 v2;obtain⟨-,-,v0,-,-,v3,v4,v5,v6⟩:=CC.out w3 (F2.out.trans U.out);clear CC;by_cases hk:6<kd
   ·have OUT:Hid (r=30):=EQ.out.trans (if_pos hk);clear EQ;go_wp2;go_ret;rw[OUT.out];exact⟨rfl,F1.out.trans (F2.out.trans U.out)⟩
   ·replace EQ:Hid (r=if 1152921504606846976≤max (max (max t3 t4) t5) t6 then 1 else 0):=EQ.out.trans (if_neg hk);have BIG:Hid ((1152921504606846976≤t3∨1152921504606846976≤t4∨1152921504606846976≤t5∨1152921504606846976≤t6)→r=1):=fun e=>EQ.out.trans (if_pos (by omega))
    have C:Hid ((1152921504606846976:Int)≤(t3:Int)∨¬(1152921504606846976:Int)≤(t3:Int)∧(1152921504606846976:Int)≤(t4:Int)∨¬(1152921504606846976:Int)≤(t3:Int)∧¬(1152921504606846976:Int)≤(t4:Int)∧(1152921504606846976:Int)≤(t5:Int)∨¬(1152921504606846976:Int)≤(t3:Int)∧¬(1152921504606846976:Int)≤(t4:Int)∧¬(1152921504606846976:Int)≤(t5:Int)∧(1152921504606846976:Int)≤(t6:Int)∨¬(1152921504606846976:Int)≤(t3:Int)∧¬(1152921504606846976:Int)≤(t4:Int)∧¬(1152921504606846976:Int)≤(t5:Int)∧¬(1152921504606846976:Int)≤(t6:Int)):=by show _∨_;omega
    rcases C.out with d1 | ⟨d1,d2⟩ | ⟨d1,d2,d3⟩ | ⟨d1,d2,d3,d4⟩ | ⟨d1,d2,d3,d4⟩
    case' inl | inr.inl | inr.inr.inl | inr.inr.inr.inl=>
     have OUT:Hid (r=1):=BIG.out (by omega);clear EQ BIG C;go_wp2;go_ret;rw[OUT.out];exact⟨rfl,F1.out.trans (F2.out.trans U.out)⟩
    have OUT:Hid (r=0):=EQ.out.trans (if_neg (by omega));clear EQ BIG C;go_wp2;go_ret;rw[OUT.out];exact⟨rfl,F1.out.trans (F2.out.trans U.out)⟩
end
section
variable {X P:Nat→Prop} {w w':World} {b:Nat} {n n':Nd} {q q':NV}
def POut [Old] (X P:Nat→Prop) (w:World) (b:Nat) (r:Nd×Nat×Int) (e:Ending) (w':World):Prop:=(∃q',e=.returned (.tuple #[.int .u64 (r.2.1:Nat),.int .i64 r.2.2])∧PNs X P w' b r.1 q')∧Fr (fun c _=>¬P c) w w'
theorem Bv [Old] (h:PNs X P w b n q) (kind:Int) (da:Option Addr) (dc:Nat) (d:List UInt8) (hr:n.role≠3) (hd:BytesAt (RO X) w (.slice da d.length dc) d) (hcf:0<n.conf.length∧n.conf.length≤12) (hpos:∀x∈n.conf,0≤x) (mN:Nat) (hme:n.me=(mN:Nat)) (hm16:mN<16) (hl:n.log.last+2<18446744073709551616) (hle:n.log.es.length≤900000):
 Calls Tryz.prog 23 #[.pointer (some ⟨b,0,none⟩),.int .i64 kind,.slice da d.length dc] w fun e w'=>POut X P w b (n.propose kind d) e w':=by
 have E:n.propose kind d=(n,0,70):=if_pos hr;have x2:=(h.cells (Fr.refl _ w)).2.2.1;obtain⟨ro,hro⟩:=zE n.role;rw[hro] at x2 hr;have H:=zH h;have HE:=zH E;have g1:(ro==3)=false:=by simpa using hr
 have g2:(ro != 3)=true:=by rw[bne,g1];rfl
 clear hr;clear h E hro hd hcf hpos hme hl hle;go_enter_defers Tryz.func23,Tryz.ntmps23
 go_wp2;(try simp only[Exit.inBlock,Exit.then]);refine⟨_,results_tmp2 rfl _ _ _,?_⟩;rw[HE.out];exact⟨⟨q,rfl,H.out⟩,Fr.refl _ _⟩
theorem By [Old] (h:PNs X P w b n q) (kind:Int) (da:Option Addr) (dc:Nat) (d:List UInt8) (hr:n.role=3) (hk:kind<1) (hd:BytesAt (RO X) w (.slice da d.length dc) d) (hcf:0<n.conf.length∧n.conf.length≤12) (hpos:∀x∈n.conf,0≤x) (mN:Nat) (hme:n.me=(mN:Nat)) (hm16:mN<16) (hl:n.log.last+2<18446744073709551616) (hle:n.log.es.length≤900000):
 Calls Tryz.prog 23 #[.pointer (some ⟨b,0,none⟩),.int .i64 kind,.slice da d.length dc] w fun e w'=>POut X P w b (n.propose kind d) e w':=by
 have E:n.propose kind d=(n,0,30):=by unfold Nd.propose;rw[if_neg (by rw[hr];decide),if_pos (.inl hk)]
 have x2:=(h.cells (Fr.refl _ w)).2.2.1;obtain⟨ro,hro⟩:=zE n.role;rw[hro] at x2 hr;have H:=zH h;have HE:=zH E;subst hr;clear h E hro hd hcf hpos hme hl hle;go_enter_defers Tryz.func23,Tryz.ntmps23
 go_wp2;(try simp only[Exit.inBlock,Exit.then]);refine⟨_,results_tmp2 rfl _ _ _,?_⟩;rw[HE.out];exact⟨⟨q,rfl,H.out⟩,Fr.refl _ _⟩
theorem Bw [Old] (h:PNs X P w b n q) (kind:Int) (da:Option Addr) (dc:Nat) (d:List UInt8) (hr:n.role=3) (hk:255<kind) (hd:BytesAt (RO X) w (.slice da d.length dc) d) (hcf:0<n.conf.length∧n.conf.length≤12) (hpos:∀x∈n.conf,0≤x) (mN:Nat) (hme:n.me=(mN:Nat)) (hm16:mN<16) (hl:n.log.last+2<18446744073709551616) (hle:n.log.es.length≤900000):
 Calls Tryz.prog 23 #[.pointer (some ⟨b,0,none⟩),.int .i64 kind,.slice da d.length dc] w fun e w'=>POut X P w b (n.propose kind d) e w':=by
 have E:n.propose kind d=(n,0,30):=by unfold Nd.propose;rw[if_neg (by rw[hr];decide),if_pos (.inr hk)]
 have x2:=(h.cells (Fr.refl _ w)).2.2.1;obtain⟨ro,hro⟩:=zE n.role;rw[hro] at x2 hr;have H:=zH h;have HE:=zH E;subst hr;have hk1:¬kind<1:=by omega
 clear h E hro hd hcf hpos hme hl hle;go_enter_defers Tryz.func23,Tryz.ntmps23
 go_wp2;(try simp only[Exit.inBlock,Exit.then]);refine⟨_,results_tmp2 rfl _ _ _,?_⟩;rw[HE.out];exact⟨⟨q,rfl,H.out⟩,Fr.refl _ _⟩
theorem B3 [Old] (h:PNs X P w b n q) (kind:Int) (da:Option Addr) (dc:Nat) (d:List UInt8) (hr:n.role=3) (hk:¬kind<1) (hk2:¬255<kind) (hdl:24<d.length) (hd:BytesAt (RO X) w (.slice da d.length dc) d) (hcf:0<n.conf.length∧n.conf.length≤12) (hpos:∀x∈n.conf,0≤x) (mN:Nat) (hme:n.me=(mN:Nat)) (hm16:mN<16) (hl:n.log.last+2<18446744073709551616) (hle:n.log.es.length≤900000):
 Calls Tryz.prog 23 #[.pointer (some ⟨b,0,none⟩),.int .i64 kind,.slice da d.length dc] w fun e w'=>POut X P w b (n.propose kind d) e w':=by
 have E:n.propose kind d=(n,0,2):=by unfold Nd.propose;rw[if_neg (by rw[hr];decide),if_neg (by omega),if_pos hdl]
 have x2:=(h.cells (Fr.refl _ w)).2.2.1;obtain⟨ro,hro⟩:=zE n.role;rw[hro] at x2 hr;have H:=zH h;have HE:=zH E;subst hr;have g1:decide (24<d.length)=true:=decide_eq_true hdl;have g2:(24:Int)<(d.length:Int):=by omega
 clear hdl;clear h E hro hd hcf hpos hme hl hle;go_enter_defers Tryz.func23,Tryz.ntmps23
 go_wp2;(try simp only[Exit.inBlock,Exit.then]);refine⟨_,results_tmp2 rfl _ _ _,?_⟩;rw[HE.out];exact⟨⟨q,rfl,H.out⟩,Fr.refl _ _⟩
theorem B_ [Old] (h:PNs X P w b n q) (kind:Int) (da:Option Addr) (dc:Nat) (d:List UInt8) (hr:n.role=3) (hk:¬kind<1) (hk2:¬255<kind) (hdl:¬24<d.length) (hd:BytesAt (RO X) w (.slice da d.length dc) d) (hcf:0<n.conf.length∧n.conf.length≤12) (hpos:∀x∈n.conf,0≤x) (mN:Nat) (hme:n.me=(mN:Nat)) (hm16:mN<16) (hl:n.log.last+2<18446744073709551616) (hle:n.log.es.length≤900000):
 Calls Tryz.prog 23 #[.pointer (some ⟨b,0,none⟩),.int .i64 kind,.slice da d.length dc] w fun e w'=>POut X P w b (n.propose kind d) e w':=by
 obtain⟨ae,le,ce,hve,hle2,hes,hlg⟩:=h.lg;have OUT0:n.propose kind d=(({ n with log:=n.log.add ⟨n.tm,kind,d⟩,mat:=n.mat.set n.me.toNat (n.log.last+1) }:Nd).sure,n.log.last+1,0):=by unfold Nd.propose;rw[if_neg (by rw[hr];decide),if_neg (by omega),if_neg hdl]
 obtain⟨bs,hbs⟩:=zE n.log.base;obtain⟨bt,hbt⟩:=zE n.log.bt;obtain⟨tm,htm⟩:=zE n.tm;obtain⟨bm,hbm⟩:=zE q.bm;obtain⟨km,hkm⟩:=zE q.cm;obtain⟨L,hL⟩:=zE (bs+(le+1));have hL2:n.log.last+1=L:=by unfold Lg.last;omega
 have hl2:bs+le+2<18446744073709551616:=by unfold Lg.last at hl;omega
 have CL:=zH (fun W (f:Fr (fun _ _=>True) w W)=>(Cy W (.slice da d.length dc) d (hd.tt f) (by omega)).mono fun e w' (⟨a,c,h1,h2,h3⟩:∃a cap,e=Ending.returned (.slice a d.length cap)∧BytesAt (New W.heap.size) w' (.slice a d.length cap) d∧Fr (fun _ _=>True) W w')=>show ∃a c,e=Ending.returned (.slice a d.length c)∧BytesAt (RO X) w' (.slice a d.length c) d∧Fr (fun _ _=>True) W w' from⟨a,c,h1,h2.mono fun cc o ho hn=>⟨fun hx=>(by have:=h.hx cc hx;have:=f.size;have:=hn.1;omega),by obtain⟨cs,fz,e⟩:=hn.2;exact .inr ⟨cs,_,fz,e,by decide⟩⟩,h3⟩);have ADD:=zH (fun W (f:Fr (fun _ _=>True) w W) (a:Option Addr) (c:Nat) (hb:BytesAt (RO X) W (.slice a d.length c) d)=>nZ W bs bt ae le ce q.es ⟨tm,kind,a,c,d⟩ (hes W f) hb (show d.length≤9223372036854775807 by omega) (by omega) (fun cc hc=>Nat.lt_of_lt_of_le (h.hx cc hc) f.size))
 have CC:Hid (∀W,Fr (fun _ _=>True) w W→W.cell? ⟨b,0,none⟩=some (.int .i64 (mN:Nat))∧W.cell? ⟨b,6,none⟩=some (.int .u64 (tm:Nat))∧W.cell? ⟨b,8,none⟩=some (.int .u64 (bs:Nat))∧W.cell? ⟨b,9,none⟩=some (.int .u64 (bt:Nat))∧W.cell? ⟨b,10,none⟩=some (.slice ae le ce)∧W.cell? ⟨b,13,none⟩=some (.slice (some ⟨bm,0,none⟩) 16 km)):=fun W f=>by obtain⟨x0,x1,x2,x3,x4,x5,x6,x7,x8,x9,x10,x11,x12,x13⟩:=h.cells f;exact⟨by rw[x0,hme],by rw[x6,htm],by rw[x8,hbs],by rw[x9,hbt],by rw[x10,hve],by rw[x13,hbm,hkm]⟩
 have H:=zH h;have x2:=(h.cells (Fr.refl _ w)).2.2.1;rw[hr] at x2;have g1:decide (24<d.length)=false:=decide_eq_false hdl;have g2:¬(24:Int)<(d.length:Int):=by omega
 have UD:Hid (Fr (fun _ _=>True) w w.drew):=(Fr.refl _ _).drew;have LAST:=zH (fun W a8 c8=>cJ W bs bt a8 (le+1) c8 (by omega));rw[hL] at LAST;have HLS:=zH hL2;have HCF:=zH hcf;have HPO:=zH hpos;have HME:=zH hme;have HLL:=zH hl;have HQ:=zH (And.intro hbs (And.intro hbt (And.intro hbm (And.intro hkm htm))));have OUT:=zH OUT0;clear h hr hd hcf hpos hme hl hle hve hle2 hes hlg OUT0 hbs hbt htm hbm hkm hL hL2 hl2 hdl;dsimp only[vL] at LAST;go_enter_defers Tryz.func23,Tryz.ntmps23
 go_wp2_with fail
 refine wpR [(26,0),(27,1),(28,2),(29,3),(30,4),(31,5),(32,6),(33,7),(34,8),(35,9),(36,10),(37,11),(38,12),(39,13),(40,14),(41,15)] [(0,[]),(1,[]),(2,[1]),(3,[2]),(4,[3]),(5,[]),(6,[5]),(7,[6]),(8,[7]),(9,[]),(10,[]),(11,[10]),(12,[8,9,11]),(13,[4,12])] (ckR [(0,.pointer (some ⟨b,0,none⟩)),(1,.pointer (some ⟨b,0,none⟩)),(2,.pointer (some ⟨b,0,none⟩)),(3,.pointer (some ⟨b,8,none⟩)),(4,.agg #[.int .u64 (bs:Nat),.int .u64 (bt:Nat),.slice ae le ce]),(5,.pointer (some ⟨b,0,none⟩)),(6,.pointer (some ⟨b,0,none⟩)),(7,.pointer (some ⟨b,6,none⟩)),(8,.int .u64 (tm:Nat)),(9,.int .i64 kind),(10,.slice da d.length dc)] [(11,⟨fun v W=>∃a c,v=.slice a d.length c∧BytesAt (RO X) W (.slice a d.length c) d,fun v W W' h hf=>by obtain⟨a,c,h1,h2⟩:=h;exact⟨a,c,h1,h2.tt hf⟩⟩),(12,⟨fun v W=>∃a c,v=.agg #[.int .u64 (tm:Nat),.int .i64 kind,.slice a d.length c]∧BytesAt (RO X) W (.slice a d.length c) d,fun v W W' h hf=>by obtain⟨a,c,h1,h2⟩:=h;exact⟨a,c,h1,h2.tt hf⟩⟩),(13,⟨fun v W=>∃a' c' a c,v=.agg #[.int .u64 (bs:Nat),.int .u64 (bt:Nat),.slice a' (le+1) c']∧EsAt X W (.slice a' (le+1) c') (q.es++[⟨tm,kind,a,c,d⟩]),fun v W W' h hf=>by obtain⟨a',c',a,c,h1,h2⟩:=h;exact⟨a',c',a,c,h1,h2.tt hf⟩⟩)] 14 0) 3 rfl ?cfall ?cfend
 case cfall=>
  iterate 11
   refine bV.q rfl rfl rfl (fun xs W HF hE K' hK=>?_) ?_
   ·simp only[ckEqs,ckLook,Nat.reduceBEq] at hE;simp only[fillA,fillL,sA,sB,sC,Act.put,hE] at hK ⊢;clear hE;obtain⟨y0,y6,y8,y9,y10,y13⟩:=CC.out W (UD.out.trans HF.out);(try simp only[gA,gB,gC]);go_simp;exact hK.out _ rfl
  refine bV.p rfl rfl (fun xs W HF hA hE K' hK=>?_) ?_
  ·clear hA;simp only[ckEqs,ckLook,Nat.reduceBEq] at hE;simp only[fillA,fillL,sA,sB,sC,Act.put,hE] at hK ⊢;clear hE;have CL1:=zH (CL.out W (UD.out.trans HF.out));(try simp only[gA,gB,gC]);go_simp;(with_reducible refine CL1.out.mono ?_);rintro e w8 ⟨a,c,rfl,r8,f8⟩;exact hK.out _ _ _ rfl f8 ⟨a,c,rfl,r8⟩
  refine bV.p rfl rfl (fun xs W HF hA hE K' hK=>?_) ?_
  ·have h11:=hA 11 (by decide);clear hA;simp only[ckEqs,ckLook,Nat.reduceBEq] at hE;simp only[fillA,fillL,sA,sB,sC,Act.put,hE] at hK ⊢;clear hE;obtain⟨a,c,e11,r8⟩:=h11;rw[e11] at hK ⊢;clear e11;(try simp only[gA,gB,gC]);go_simp;exact hK.out _ _ _ rfl (Fr.refl _ _) ⟨a,c,rfl,r8⟩
  refine bV.p rfl rfl (fun xs W HF hA hE K' hK=>?_) ?_
  ·have h12:=hA 12 (by decide);clear hA;simp only[ckEqs,ckLook,Nat.reduceBEq] at hE;simp only[fillA,fillL,sA,sB,sC,Act.put,hE] at hK ⊢;clear hE;obtain⟨a,c,e12,r8⟩:=h12;rw[e12] at hK ⊢;have AD1:=zH (ADD.out W (UD.out.trans HF.out) a c r8);clear e12;dsimp only[vL,vE] at AD1;(try simp only[gA,gB,gC]);go_simp;(with_reducible refine AD1.out.mono ?_);rintro e w8 ⟨⟨a8,c8,rfl,r9⟩,f8⟩;exact hK.out _ _ _ rfl f8 ⟨a8,c8,a,c,rfl,r9⟩
  exact bV.nil
 case cfend=>
  intro xs W hF hA;have HF:=zH hF;have hE:=b_ rfl hA;have h11:=hA (11,[10]) (by decide);have h12:=hA (12,[8,9,11]) (by decide);have h13:=hA (13,[4,12]) (by decide);clear hA hF;simp only[List.map_cons,List.map_nil,ckEqs,ckLook,Nat.reduceBEq] at hE;simp only[fillA,fillL,sA,sB,sC,hE];clear hE;obtain⟨a8,c8,a,c,e13,r8⟩:=h13;rw[e13];have R8:=zH r8;clear e13 r8 CL ADD x2 g1 g2;have F2:=zH (UD.out.trans HF.out);have H2:=zH (H.out.tt F2.out);obtain⟨x0,x1,x2,x3,x4,x5,x6,x7,x8,x9,x10,x11,x12,x13⟩:=H2.out.cells (Fr.refl _ W);have z8:=H2.out.free (Fr.refl _ W) 8;have z9:=H2.out.free (Fr.refl _ W) 9;have z10:=H2.out.free (Fr.refl _ W) 10;refine wpN 14 rfl fun K' hK=>?_
  (try simp only[gA,gB,gC]);go_simp;refine hK.out _ _ ?_;clear hK K';refine wpN 15 rfl fun K' hK=>?_
  (try simp only[gA,gB,gC]);go_simp;refine hK.out _ _ ?_;clear hK K';refine wpN 16 rfl fun K' hK=>?_
  (try simp only[gA,gB,gC]);go_simp;refine hK.out _ _ ?_;clear hK K';refine wpF ?_;obtain⟨n2,hn2⟩:∃m:Nd,{ n with log:=n.log.add ⟨n.tm,kind,d⟩ }=m:=⟨_,rfl⟩
  obtain⟨q2,hq2⟩:∃m:NV,{ q with ve:=.slice a8 (le+1) c8,es:=q.es++[⟨tm,kind,a,c,d⟩] }=m:=⟨_,rfl⟩
  obtain⟨W2,hW2⟩:=zE (j4 W b [(8,.int .u64 (bs:Nat)),(9,.int .u64 (bt:Nat)),(10,.slice a8 (le+1) c8)]);have hW2':((W.setCell ⟨b,8,none⟩ (.int .u64 (bs:Nat))).setCell ⟨b,9,none⟩ (.int .u64 (bt:Nat))).setCell ⟨b,10,none⟩ (.slice a8 (le+1) c8)=W2:=hW2
  have h3:PNs X P W2 b { n with log:=n.log.add ⟨n.tm,kind,d⟩ } { q with ve:=.slice a8 (le+1) c8,es:=q.es++[⟨tm,kind,a,c,d⟩] }:=by
   rw[←hW2];refine H2.out.reE (bj b _ W) ?_ ⟨rfl,rfl⟩ (.inl ⟨rfl,rfl⟩) ⟨?_,R8.out⟩ ⟨rfl,rfl,rfl,rfl⟩
   ·rw[←HQ.out.1,←HQ.out.2.1];exact bz _ H2.out.top
   ·show n.log.es++_=_;rw[List.map_append,H.out.ee,←HQ.out.2.2.2.2];rfl
  rw[hn2,hq2] at h3;have H3:=zH h3;have F3:Hid (Fr (fun c _=>¬P c) w W2):=(F2.out.mono fun _ _ _=>trivial).trans (hW2▸(bj b _ W).mono fun c _ hc e=>hc (e▸H.out.pb));have h9:n2.me=n.me∧n2.log.base=n.log.base∧n2.log.bt=n.log.bt∧q2.ve=.slice a8 (le+1) c8∧q2.bm=q.bm∧q2.cm=q.cm:=by rw[←hn2,←hq2];exact⟨rfl,rfl,rfl,rfl,rfl,rfl⟩
  have CC2:Hid (∀W',Fr (fun _ _=>True) W2 W'→W'.cell? ⟨b,0,none⟩=some (.int .i64 (mN:Nat))∧W'.cell? ⟨b,8,none⟩=some (.int .u64 (bs:Nat))∧W'.cell? ⟨b,9,none⟩=some (.int .u64 (bt:Nat))∧W'.cell? ⟨b,10,none⟩=some (.slice a8 (le+1) c8)∧W'.cell? ⟨b,13,none⟩=some (.slice (some ⟨bm,0,none⟩) 16 km)):=fun W' f=>by obtain⟨x0,x1,x2,x3,x4,x5,x6,x7,x8,x9,x10,x11,x12,x13⟩:=H3.out.cells f;exact⟨by rw[x0,h9.1,HME.out],by rw[x8,h9.2.1,HQ.out.1],by rw[x9,h9.2.2.1,HQ.out.2.1],by rw[x10,h9.2.2.2.1],by rw[x13,h9.2.2.2.2.1,h9.2.2.2.2.2,HQ.out.2.2.1,HQ.out.2.2.2.1]⟩
  have HBM:Hid (q2.bm=bm):=h9.2.2.2.2.1.trans HQ.out.2.2.1;have HN2:=zH hn2;have UD2:Hid (Fr (fun _ _=>True) W2 W2.drew):=(Fr.refl _ _).drew;replace LAST:=zH (fun W=>LAST.out W a8 c8)
  try rw[hW2']
  clear hW2 hW2' h3 hn2 hq2 h9 x0 x1 x2 x3 x4 x5 x6 x7 x8 x9 x10 x11 x12 x13 z8 z9 z10;obtain⟨WA,hWA⟩:=zE W;rw[hWA] at HF F2 H2 R8;clear hWA;go_wp2_with fail
  refine wpR [(42,0),(43,1),(44,2),(45,3),(46,4),(47,5),(48,6),(49,7),(50,8),(51,9),(52,10),(53,11),(54,12),(55,13)] [(0,[]),(1,[0]),(2,[1]),(3,[2]),(4,[]),(5,[4]),(6,[5]),(7,[6]),(8,[]),(9,[8]),(10,[9]),(11,[10]),(12,[11])] (ckR [(0,.pointer (some ⟨b,0,none⟩)),(1,.pointer (some ⟨b,0,none⟩)),(2,.pointer (some ⟨b,13,none⟩)),(3,.slice (some ⟨bm,0,none⟩) 16 km),(4,.pointer (some ⟨b,0,none⟩)),(5,.pointer (some ⟨b,0,none⟩)),(6,.pointer (some ⟨b,0,none⟩)),(7,.int .i64 (mN:Nat)),(8,.pointer (some ⟨b,0,none⟩)),(9,.pointer (some ⟨b,0,none⟩)),(10,.pointer (some ⟨b,8,none⟩)),(11,.agg #[.int .u64 (bs:Nat),.int .u64 (bt:Nat),.slice a8 (le+1) c8]),(12,.int .u64 (L:Nat))] [] 13 0) 2 rfl ?cfall ?cfend
  case cfall=>
   iterate 12
    refine bV.q rfl rfl rfl (fun xs W HF hE K' hK=>?_) ?_
    ·simp only[ckEqs,ckLook,Nat.reduceBEq] at hE;simp only[fillA,fillL,sA,sB,sC,Act.put,hE] at hK ⊢;clear hE;obtain⟨y0,y8,y9,y10,y13⟩:=CC2.out W (UD2.out.trans HF.out);(try simp only[gA,gB,gC]);go_simp;exact hK.out _ rfl
   refine bV.p rfl rfl (fun xs W HF hA hE K' hK=>?_) ?_
   ·clear hA;simp only[ckEqs,ckLook,Nat.reduceBEq] at hE;simp only[fillA,fillL,sA,sB,sC,Act.put,hE] at hK ⊢;clear hE;obtain⟨y0,y8,y9,y10,y13⟩:=CC2.out W (UD2.out.trans HF.out);have LA1:=zH (LAST.out W);(try simp only[gA,gB,gC]);go_simp;(with_reducible refine LA1.out.mono ?_);rintro e w8 ⟨rfl,f8⟩;exact hK.out _ _ _ rfl f8 rfl
   exact bV.nil
  case cfend=>
   intro xs W hF hA;have HF:=zH hF;have hE:=b_ rfl hA;clear hA hF;simp only[List.map_cons,List.map_nil,ckEqs,ckLook,Nat.reduceBEq] at hE;simp only[fillA,fillL,sA,sB,sC,hE];clear hE;have F4:=zH (UD2.out.trans HF.out);have H4:=zH (H3.out.tt F4.out);have Am:=H4.out.mt;rw[HBM.out] at Am;have am0:=Am.cell mN hm16;have am1:=Am.free mN;have Am2:=Am.set mN L hm16;obtain⟨WN,hWN⟩:=zE (W.setCell ⟨bm,mN,none⟩ (.int .u64 (L:Nat)));have fN:Fr (fun c _=>c≠bm) W WN:=hWN▸(Fr.refl _ _).setCell (fun _ _ h=>h rfl) _;have hm16I:((mN:Nat):Int)<16:=by omega
   refine wpN 13 rfl fun K' hK=>?_
   (try simp only[gA,gB,gC]);go_simp;refine hK.out _ _ ?_;clear hK K';refine wpN 14 rfl fun K' hK=>?_
   (try simp only[gA,gB,gC]);go_simp;refine hK.out _ _ ?_;clear hK K';refine wpF ?_
   try rw[hWN]
   have h5:PNs X P WN b { n2 with next:=n2.next,mat:=n2.mat.set mN L } q2:=H4.out.arrays (fN.mono fun c _ hc=>by rw[←HBM.out];exact hc.2) (H4.out.nx.fr fN fun _ _=>by rw[←HBM.out];exact H4.out.nm) (by rw[HBM.out,←hWN];exact Am2);have H5:=zH h5;have F5:Hid (Fr (fun c _=>¬P c) w WN):=(F3.out.trans (F4.out.mono fun _ _ _=>trivial)).trans (fN.mono fun c _ hc e=>hc (e▸(HBM.out▸H3.out.pm)));obtain⟨n3,hn3⟩:∃m:Nd,{ n2 with next:=n2.next,mat:=n2.mat.set mN L }=m:=⟨_,rfl⟩
   have HN3:Hid (({ n with log:=n.log.add ⟨n.tm,kind,d⟩,mat:=n.mat.set n.me.toNat (n.log.last+1) }:Nd)=n3):=by show _=_;rw[←hn3,←HN2.out,HLS.out,HME.out];rfl
   rw[hn3] at H5
   replace OUT:Hid (n.propose kind d=(n3.sure,L,0)):=by show _=_;rw[OUT.out,HN3.out,HLS.out]
   have hcf3:n3.conf=n.conf∧n3.log.last=L:=by rw[←HN3.out];refine⟨rfl,?_⟩;rw[←HLS.out];show n.log.base+(n.log.es++[_]).length=_;unfold Lg.last;simp;omega
   have SU:Hid (∀W',Fr (fun _ _=>True) WN W'→zj Tryz.prog 25 #[.pointer (some ⟨b,0,none⟩)] W' fun e w'=>e=.returned (.tuple #[])∧PNs X P w' b n3.sure q2∧Fr (fun c _=>c≠b) W' w'):=fun W' f=>xJ (H5.out.tt f) (by rw[hcf3.1];exact HCF.out) (by rw[hcf3.1];exact HPO.out) (by rw[hcf3.2,←HLS.out];have:=HLL.out;omega)
   have CC3:WN.cell? ⟨b,8,none⟩=some (.int .u64 (bs:Nat))∧WN.cell? ⟨b,9,none⟩=some (.int .u64 (bt:Nat))∧WN.cell? ⟨b,10,none⟩=some (.slice a8 (le+1) c8):=by
    have hbb:b≠bm:=fun e=>H3.out.bm_b (by rw[HBM.out,e])
    obtain⟨y0,y8,y9,y10,y13⟩:=CC2.out W F4.out;exact⟨fN.cell (fun _ _=>hbb) y8,fN.cell (fun _ _=>hbb) y9,fN.cell (fun _ _=>hbb) y10⟩
   obtain⟨u8,u9,u10⟩:=CC3;have LA2:=zH (LAST.out WN);clear Am am0 am1 Am2 hWN fN h5 hn3 hcf3 LAST HBM HN2 HN3 CC2 CC hm16I;go_wp2_with fail
   (with_reducible refine LA2.out.mono ?_);rintro e w8 ⟨rfl,f8⟩;have F8:=zH f8;have SU8:=zH ((SU.out w8 f8).2 .returning);clear f8 LA2 SU u8 u9 u10;go_wp2;(try simp only[Exit.inBlock,Exit.then]);refine leaves_cons (f:=25) (args:=#[.pointer (some ⟨b,0,none⟩)]) (by simp) (by simp [go_sem]) ?_;refine SU8.out.mono ?_;rintro e u' w9 ⟨rfl,rfl,h9,f9⟩;refine⟨_,results_tmp2 rfl _ _ _,?_⟩;rw[OUT.out];exact⟨⟨q2,rfl,h9⟩,(F5.out.trans (F8.out.mono fun _ _ _=>trivial)).trans (f9.mono fun c _ hc e=>hc (e▸H.out.pb))⟩
theorem vQ [Old] (h:PNs X P w b n q) (kind:Int) (da:Option Addr) (dc:Nat) (d:List UInt8) (hd:BytesAt (RO X) w (.slice da d.length dc) d) (hcf:0<n.conf.length∧n.conf.length≤12) (hpos:∀x∈n.conf,0≤x) (mN:Nat) (hme:n.me=(mN:Nat)) (hm16:mN<16) (hl:n.log.last+2<18446744073709551616) (hle:n.log.es.length≤900000):
 Calls Tryz.prog 23 #[.pointer (some ⟨b,0,none⟩),.int .i64 kind,.slice da d.length dc] w fun e w'=>POut X P w b (n.propose kind d) e w':=by
 by_cases hr:n.role=3
 ·by_cases hk:kind<1
  ·exact By h kind da dc d hr hk hd hcf hpos mN hme hm16 hl hle
  ·by_cases hk2:255<kind
   ·exact Bw h kind da dc d hr hk2 hd hcf hpos mN hme hm16 hl hle
   ·by_cases hdl:24<d.length
    ·exact B3 h kind da dc d hr hk hk2 hdl hd hcf hpos mN hme hm16 hl hle
    ·exact B_ h kind da dc d hr hk hk2 hdl hd hcf hpos mN hme hm16 hl hle
 ·exact Bv h kind da dc d hr hd hcf hpos mN hme hm16 hl hle
end
section
variable {X P:Nat→Prop} {w w':World} {b:Nat} {n n':Nd} {q q':NV}
theorem rZ [Old] (h:PNs X P w b n q) (m:MV) (hk6:m.kind=6) (hlt:n.tm<m.tm) (hcf:0<n.conf.length∧n.conf.length≤12) (hpos:∀x∈n.conf,0≤x) (hnx:∀y∈n.next,y+1<18446744073709551616) (hmx:∀y∈n.mat,y+1<18446744073709551616) (hix:m.index+1<18446744073709551616) (hpv1:m.prev+1<18446744073709551616) (hl:n.log.last+1<18446744073709551616) (hle:n.log.es.length≤900000):
 Calls Tryz.prog 14 #[.pointer (some ⟨b,0,none⟩),.agg (cM m)] w fun e w'=>jz X P w b (n.onAcked m.ms) e w':=by
 obtain⟨W1,hW1,F1,X1⟩:=gW w m;obtain⟨g0,hg0⟩:=zE w.heap.size;rw[hg0] at X1;have H:=zH h;have HG0:=zH hg0;have gb:Hid (g0≠b):=by have:=bZ h.top;show _≠_;omega
 obtain⟨me,hme⟩:=zE n.me;obtain⟨ro,hro⟩:=zE n.role;obtain⟨tm,htm⟩:=zE n.tm;obtain⟨s,hs⟩:=zE m.src;obtain⟨mt,hmt⟩:=zE m.tm;obtain⟨ix,hixx⟩:=zE m.index;obtain⟨pv,hpv⟩:=zE m.prev;obtain⟨ok,hok⟩:=zE m.ok;have HL:=zH (And.intro hme (And.intro hro (And.intro htm (And.intro hs (And.intro hmt (And.intro hixx (And.intro hpv hok)))))))
 have VH:Hid (∀W:World,W.heap[g0]? = some (.cells (cM m) 32 (0,0))→W.cell? ⟨g0,1,none⟩=some (.int .i64 s)∧W.cell? ⟨g0,3,none⟩=some (.int .u64 (mt:Nat))∧W.cell? ⟨g0,4,none⟩=some (.int .u64 (ix:Nat))∧W.cell? ⟨g0,5,none⟩=some (.int .u64 (pv:Nat))∧W.cell? ⟨g0,7,none⟩=some (.bool ok)):=fun W t=>by obtain⟨v0,v1,v2,v3,v4,v5,v6,v7,v8,v9⟩:=bq t;exact⟨by rw[v1,hs],by rw[v3,hmt],by rw[v4,hixx],by rw[v5,hpv],by rw[v7,hok]⟩
 have v0:W1.cell? ⟨g0,0,none⟩=some (.int .i64 6):=by rw[←hk6];exact(bq X1.out).1
 have y6:W1.cell? ⟨b,6,none⟩=some (.int .u64 (tm:Nat)):=by rw[←htm];exact(h.cells F1.out).2.2.2.2.2.2.1
 have v3:=(VH.out W1 X1.out).2.1;have gl:decide (tm<mt)=true:=by rw[←hmt,←htm];exact decide_eq_true hlt
 have E:Hid (n.onAcked m.ms=(n.follow mt (-1),[])):=by show _=_;unfold Nd.onAcked;rw[if_neg (fun e=>e hk6),if_pos (show n.tm<m.ms.tm from hlt),←hmt];rfl
 unfold cM at hW1 ⊢;clear hk6 hlt h hme hro htm hs hmt hixx hpv hok hcf hpos hnx hmx hix hpv1 hl hle;go_enter Tryz.func14,Tryz.ntmps14
 go_wp2_with fail
 try rw[hW1]
 try rw[HG0.out]
 clear hW1 hg0 v0;go_quiet (fail)
 clear y6 v3 gl;have UQ:Hid (Fr (fun _ _=>True) W1 (W1.drewN nq)):=(Fr.refl _ W1).drewN nq;generalize W1.drewN nq=W2 at UQ ⊢;have F2:=zH (F1.out.trans UQ.out);have H2:=zH (H.out.tt F2.out);have T2:Hid (W2.heap[g0]? = some (.cells (cM m) 32 (0,0))):=UQ.out.keep _ _ X1.out trivial;have FO:=zH (dq H2.out mt (-1));have v3:=(VH.out W2 T2.out).2.1;go_wp2_with fail
 (with_reducible refine FO.out.mono ?_);rintro e Wf ⟨rfl,hf,ff⟩;have HF:=zH hf;have FF:Hid (Fr (fun c _=>c≠b) W2 Wf):=ff;clear v3 FO hf ff;go_wp2;go_ret;rw[E.out];exact⟨X,P,q.noYes,_,[],rfl,HF.out,.of ((F2.out.mono fun _ _ _=>trivial).trans (FF.out.mono fun c _ hc e=>hc (e▸H.out.pb))) H.out.px,OwnMs.nil _ _ _,rfl⟩
theorem rJ [Old] (h:PNs X P w b n q) (m:MV) (hk6:m.kind=6) (hnlt:¬n.tm<m.tm) (hlt:m.tm<n.tm) (hcf:0<n.conf.length∧n.conf.length≤12) (hpos:∀x∈n.conf,0≤x) (hnx:∀y∈n.next,y+1<18446744073709551616) (hmx:∀y∈n.mat,y+1<18446744073709551616) (hix:m.index+1<18446744073709551616) (hpv1:m.prev+1<18446744073709551616) (hl:n.log.last+1<18446744073709551616) (hle:n.log.es.length≤900000):
 Calls Tryz.prog 14 #[.pointer (some ⟨b,0,none⟩),.agg (cM m)] w fun e w'=>jz X P w b (n.onAcked m.ms) e w':=by
 obtain⟨W1,hW1,F1,X1⟩:=gW w m;obtain⟨g0,hg0⟩:=zE w.heap.size;rw[hg0] at X1;have H:=zH h;have HG0:=zH hg0;have gb:Hid (g0≠b):=by have:=bZ h.top;show _≠_;omega
 obtain⟨me,hme⟩:=zE n.me;obtain⟨ro,hro⟩:=zE n.role;obtain⟨tm,htm⟩:=zE n.tm;obtain⟨s,hs⟩:=zE m.src;obtain⟨mt,hmt⟩:=zE m.tm;obtain⟨ix,hixx⟩:=zE m.index;obtain⟨pv,hpv⟩:=zE m.prev;obtain⟨ok,hok⟩:=zE m.ok;have HL:=zH (And.intro hme (And.intro hro (And.intro htm (And.intro hs (And.intro hmt (And.intro hixx (And.intro hpv hok)))))))
 have VH:Hid (∀W:World,W.heap[g0]? = some (.cells (cM m) 32 (0,0))→W.cell? ⟨g0,1,none⟩=some (.int .i64 s)∧W.cell? ⟨g0,3,none⟩=some (.int .u64 (mt:Nat))∧W.cell? ⟨g0,4,none⟩=some (.int .u64 (ix:Nat))∧W.cell? ⟨g0,5,none⟩=some (.int .u64 (pv:Nat))∧W.cell? ⟨g0,7,none⟩=some (.bool ok)):=fun W t=>by obtain⟨v0,v1,v2,v3,v4,v5,v6,v7,v8,v9⟩:=bq t;exact⟨by rw[v1,hs],by rw[v3,hmt],by rw[v4,hixx],by rw[v5,hpv],by rw[v7,hok]⟩
 have v0:W1.cell? ⟨g0,0,none⟩=some (.int .i64 6):=by rw[←hk6];exact(bq X1.out).1
 have y6:W1.cell? ⟨b,6,none⟩=some (.int .u64 (tm:Nat)):=by rw[←htm];exact(h.cells F1.out).2.2.2.2.2.2.1
 have v3:=(VH.out W1 X1.out).2.1;have gl:decide (tm<mt)=false:=by rw[←hmt,←htm];exact decide_eq_false hnlt
 have g1:decide (mt<tm)=true:=by rw[←hmt,←htm];exact decide_eq_true hlt
 have E:Hid (n.onAcked m.ms=(n,[])):=by show _=_;unfold Nd.onAcked;rw[if_neg (fun e=>e hk6),if_neg (show ¬n.tm<m.ms.tm from hnlt),if_pos (show m.ms.tm<n.tm∨n.role≠3∨m.ms.src=n.me∨m.ms.src<0∨15<m.ms.src from Or.inl hlt)]
 unfold cM at hW1 ⊢;clear hk6 hnlt h hme hro htm hs hmt hixx hpv hok hcf hpos hnx hmx hix hpv1 hl hle hlt;go_enter Tryz.func14,Tryz.ntmps14
 go_wp2_with fail
 try rw[hW1]
 try rw[HG0.out]
 clear hW1 hg0 v0;go_quiet (fail)
 clear y6 v3 gl;have UQ:Hid (Fr (fun _ _=>True) W1 (W1.drewN nq)):=(Fr.refl _ W1).drewN nq;generalize W1.drewN nq=W2 at UQ ⊢;have F2:=zH (F1.out.trans UQ.out);have H2:=zH (H.out.tt F2.out);have T2:Hid (W2.heap[g0]? = some (.cells (cM m) 32 (0,0))):=UQ.out.keep _ _ X1.out trivial;have y6:W2.cell? ⟨b,6,none⟩=some (.int .u64 (tm:Nat)):=by rw[←HL.out.2.2.1];exact(H2.out.cells (Fr.refl _ W2)).2.2.2.2.2.2.1
 have y2:W2.cell? ⟨b,2,none⟩=some (.int .i64 ro):=by rw[←HL.out.2.1];exact(H2.out.cells (Fr.refl _ W2)).2.2.1
 have y0:W2.cell? ⟨b,0,none⟩=some (.int .i64 me):=by rw[←HL.out.1];exact(H2.out.cells (Fr.refl _ W2)).1
 have v3:=(VH.out W2 T2.out).2.1;have v1:=(VH.out W2 T2.out).1;go_wp2_with fail
 go_quiet (fail)
 clear y6 y2 y0 v3 v1 g1;have UQ2:Hid (Fr (fun _ _=>True) W2 (W2.drewN nq)):=(Fr.refl _ W2).drewN nq;generalize W2.drewN nq=W3 at UQ2 ⊢;have F3:=zH (F2.out.trans UQ2.out);have H3:=zH (H2.out.tt UQ2.out);have T3:Hid (W3.heap[g0]? = some (.cells (cM m) 32 (0,0))):=UQ2.out.keep _ _ T2.out trivial;go_wp2;go_ret;rw[E.out];exact⟨X,P,q,_,[],rfl,H3.out,.tt F3.out H.out.px,OwnMs.nil _ _ _,rfl⟩
theorem rX [Old] (h:PNs X P w b n q) (m:MV) (hk6:m.kind=6) (hnlt:¬n.tm<m.tm) (hlt:¬m.tm<n.tm) (hr:n.role≠3) (hcf:0<n.conf.length∧n.conf.length≤12) (hpos:∀x∈n.conf,0≤x) (hnx:∀y∈n.next,y+1<18446744073709551616) (hmx:∀y∈n.mat,y+1<18446744073709551616) (hix:m.index+1<18446744073709551616) (hpv1:m.prev+1<18446744073709551616) (hl:n.log.last+1<18446744073709551616) (hle:n.log.es.length≤900000):
 Calls Tryz.prog 14 #[.pointer (some ⟨b,0,none⟩),.agg (cM m)] w fun e w'=>jz X P w b (n.onAcked m.ms) e w':=by
 obtain⟨W1,hW1,F1,X1⟩:=gW w m;obtain⟨g0,hg0⟩:=zE w.heap.size;rw[hg0] at X1;have H:=zH h;have HG0:=zH hg0;have gb:Hid (g0≠b):=by have:=bZ h.top;show _≠_;omega
 obtain⟨me,hme⟩:=zE n.me;obtain⟨ro,hro⟩:=zE n.role;obtain⟨tm,htm⟩:=zE n.tm;obtain⟨s,hs⟩:=zE m.src;obtain⟨mt,hmt⟩:=zE m.tm;obtain⟨ix,hixx⟩:=zE m.index;obtain⟨pv,hpv⟩:=zE m.prev;obtain⟨ok,hok⟩:=zE m.ok;have HL:=zH (And.intro hme (And.intro hro (And.intro htm (And.intro hs (And.intro hmt (And.intro hixx (And.intro hpv hok)))))))
 have VH:Hid (∀W:World,W.heap[g0]? = some (.cells (cM m) 32 (0,0))→W.cell? ⟨g0,1,none⟩=some (.int .i64 s)∧W.cell? ⟨g0,3,none⟩=some (.int .u64 (mt:Nat))∧W.cell? ⟨g0,4,none⟩=some (.int .u64 (ix:Nat))∧W.cell? ⟨g0,5,none⟩=some (.int .u64 (pv:Nat))∧W.cell? ⟨g0,7,none⟩=some (.bool ok)):=fun W t=>by obtain⟨v0,v1,v2,v3,v4,v5,v6,v7,v8,v9⟩:=bq t;exact⟨by rw[v1,hs],by rw[v3,hmt],by rw[v4,hixx],by rw[v5,hpv],by rw[v7,hok]⟩
 have v0:W1.cell? ⟨g0,0,none⟩=some (.int .i64 6):=by rw[←hk6];exact(bq X1.out).1
 have y6:W1.cell? ⟨b,6,none⟩=some (.int .u64 (tm:Nat)):=by rw[←htm];exact(h.cells F1.out).2.2.2.2.2.2.1
 have v3:=(VH.out W1 X1.out).2.1;have gl:decide (tm<mt)=false:=by rw[←hmt,←htm];exact decide_eq_false hnlt
 have g1:decide (mt<tm)=false:=by rw[←hmt,←htm];exact decide_eq_false hlt
 have g2:(ro==3)=false:=by rw[←hro];simpa using hr
 have g3:(ro != 3)=true:=by rw[bne,g2];rfl
 have E:Hid (n.onAcked m.ms=(n,[])):=by show _=_;unfold Nd.onAcked;rw[if_neg (fun e=>e hk6),if_neg (show ¬n.tm<m.ms.tm from hnlt),if_pos (show m.ms.tm<n.tm∨n.role≠3∨m.ms.src=n.me∨m.ms.src<0∨15<m.ms.src from Or.inr (Or.inl hr))]
 unfold cM at hW1 ⊢;clear hk6 hnlt h hme hro htm hs hmt hixx hpv hok hcf hpos hnx hmx hix hpv1 hl hle hlt hr;go_enter Tryz.func14,Tryz.ntmps14
 go_wp2_with fail
 try rw[hW1]
 try rw[HG0.out]
 clear hW1 hg0 v0;go_quiet (fail)
 clear y6 v3 gl;have UQ:Hid (Fr (fun _ _=>True) W1 (W1.drewN nq)):=(Fr.refl _ W1).drewN nq;generalize W1.drewN nq=W2 at UQ ⊢;have F2:=zH (F1.out.trans UQ.out);have H2:=zH (H.out.tt F2.out);have T2:Hid (W2.heap[g0]? = some (.cells (cM m) 32 (0,0))):=UQ.out.keep _ _ X1.out trivial;have y6:W2.cell? ⟨b,6,none⟩=some (.int .u64 (tm:Nat)):=by rw[←HL.out.2.2.1];exact(H2.out.cells (Fr.refl _ W2)).2.2.2.2.2.2.1
 have y2:W2.cell? ⟨b,2,none⟩=some (.int .i64 ro):=by rw[←HL.out.2.1];exact(H2.out.cells (Fr.refl _ W2)).2.2.1
 have y0:W2.cell? ⟨b,0,none⟩=some (.int .i64 me):=by rw[←HL.out.1];exact(H2.out.cells (Fr.refl _ W2)).1
 have v3:=(VH.out W2 T2.out).2.1;have v1:=(VH.out W2 T2.out).1;go_wp2_with fail
 go_quiet (fail)
 clear y6 y2 y0 v3 v1 g1 g2 g3;have UQ2:Hid (Fr (fun _ _=>True) W2 (W2.drewN nq)):=(Fr.refl _ W2).drewN nq;generalize W2.drewN nq=W3 at UQ2 ⊢;have F3:=zH (F2.out.trans UQ2.out);have H3:=zH (H2.out.tt UQ2.out);have T3:Hid (W3.heap[g0]? = some (.cells (cM m) 32 (0,0))):=UQ2.out.keep _ _ T2.out trivial;go_wp2;go_ret;rw[E.out];exact⟨X,P,q,_,[],rfl,H3.out,.tt F3.out H.out.px,OwnMs.nil _ _ _,rfl⟩
theorem rW [Old] (h:PNs X P w b n q) (m:MV) (hk6:m.kind=6) (hnlt:¬n.tm<m.tm) (hlt:¬m.tm<n.tm) (hr:n.role=3) (hx:m.src=n.me) (hcf:0<n.conf.length∧n.conf.length≤12) (hpos:∀x∈n.conf,0≤x) (hnx:∀y∈n.next,y+1<18446744073709551616) (hmx:∀y∈n.mat,y+1<18446744073709551616) (hix:m.index+1<18446744073709551616) (hpv1:m.prev+1<18446744073709551616) (hl:n.log.last+1<18446744073709551616) (hle:n.log.es.length≤900000):
 Calls Tryz.prog 14 #[.pointer (some ⟨b,0,none⟩),.agg (cM m)] w fun e w'=>jz X P w b (n.onAcked m.ms) e w':=by
 obtain⟨W1,hW1,F1,X1⟩:=gW w m;obtain⟨g0,hg0⟩:=zE w.heap.size;rw[hg0] at X1;have H:=zH h;have HG0:=zH hg0;have gb:Hid (g0≠b):=by have:=bZ h.top;show _≠_;omega
 obtain⟨me,hme⟩:=zE n.me;obtain⟨ro,hro⟩:=zE n.role;obtain⟨tm,htm⟩:=zE n.tm;obtain⟨s,hs⟩:=zE m.src;obtain⟨mt,hmt⟩:=zE m.tm;obtain⟨ix,hixx⟩:=zE m.index;obtain⟨pv,hpv⟩:=zE m.prev;obtain⟨ok,hok⟩:=zE m.ok;have HL:=zH (And.intro hme (And.intro hro (And.intro htm (And.intro hs (And.intro hmt (And.intro hixx (And.intro hpv hok)))))))
 have VH:Hid (∀W:World,W.heap[g0]? = some (.cells (cM m) 32 (0,0))→W.cell? ⟨g0,1,none⟩=some (.int .i64 s)∧W.cell? ⟨g0,3,none⟩=some (.int .u64 (mt:Nat))∧W.cell? ⟨g0,4,none⟩=some (.int .u64 (ix:Nat))∧W.cell? ⟨g0,5,none⟩=some (.int .u64 (pv:Nat))∧W.cell? ⟨g0,7,none⟩=some (.bool ok)):=fun W t=>by obtain⟨v0,v1,v2,v3,v4,v5,v6,v7,v8,v9⟩:=bq t;exact⟨by rw[v1,hs],by rw[v3,hmt],by rw[v4,hixx],by rw[v5,hpv],by rw[v7,hok]⟩
 have v0:W1.cell? ⟨g0,0,none⟩=some (.int .i64 6):=by rw[←hk6];exact(bq X1.out).1
 have y6:W1.cell? ⟨b,6,none⟩=some (.int .u64 (tm:Nat)):=by rw[←htm];exact(h.cells F1.out).2.2.2.2.2.2.1
 have v3:=(VH.out W1 X1.out).2.1;have gl:decide (tm<mt)=false:=by rw[←hmt,←htm];exact decide_eq_false hnlt
 have g1:decide (mt<tm)=false:=by rw[←hmt,←htm];exact decide_eq_false hlt
 obtain rfl:ro=3:=by rw[←hro];exact hr
 obtain rfl:s=me:=by rw[←hs,←hme];exact hx
 have g2:(s==s)=true:=by simp
 have E:Hid (n.onAcked m.ms=(n,[])):=by show _=_;unfold Nd.onAcked;rw[if_neg (fun e=>e hk6),if_neg (show ¬n.tm<m.ms.tm from hnlt),if_pos (show m.ms.tm<n.tm∨n.role≠3∨m.ms.src=n.me∨m.ms.src<0∨15<m.ms.src from Or.inr (Or.inr (Or.inl hx)))]
 unfold cM at hW1 ⊢;clear hk6 hnlt h hme hro htm hs hmt hixx hpv hok hcf hpos hnx hmx hix hpv1 hl hle hlt hr hx;go_enter Tryz.func14,Tryz.ntmps14
 go_wp2_with fail
 try rw[hW1]
 try rw[HG0.out]
 clear hW1 hg0 v0;go_quiet (fail)
 clear y6 v3 gl;have UQ:Hid (Fr (fun _ _=>True) W1 (W1.drewN nq)):=(Fr.refl _ W1).drewN nq;generalize W1.drewN nq=W2 at UQ ⊢;have F2:=zH (F1.out.trans UQ.out);have H2:=zH (H.out.tt F2.out);have T2:Hid (W2.heap[g0]? = some (.cells (cM m) 32 (0,0))):=UQ.out.keep _ _ X1.out trivial;have y6:W2.cell? ⟨b,6,none⟩=some (.int .u64 (tm:Nat)):=by rw[←HL.out.2.2.1];exact(H2.out.cells (Fr.refl _ W2)).2.2.2.2.2.2.1
 have y2:W2.cell? ⟨b,2,none⟩=some (.int .i64 3):=by rw[←HL.out.2.1];exact(H2.out.cells (Fr.refl _ W2)).2.2.1
 have y0:W2.cell? ⟨b,0,none⟩=some (.int .i64 s):=by rw[←HL.out.1];exact(H2.out.cells (Fr.refl _ W2)).1
 have v3:=(VH.out W2 T2.out).2.1;have v1:=(VH.out W2 T2.out).1;go_wp2_with fail
 go_quiet (fail)
 clear y6 y2 y0 v3 v1 g1 g2;have UQ2:Hid (Fr (fun _ _=>True) W2 (W2.drewN nq)):=(Fr.refl _ W2).drewN nq;generalize W2.drewN nq=W3 at UQ2 ⊢;have F3:=zH (F2.out.trans UQ2.out);have H3:=zH (H2.out.tt UQ2.out);have T3:Hid (W3.heap[g0]? = some (.cells (cM m) 32 (0,0))):=UQ2.out.keep _ _ T2.out trivial;go_wp2;go_ret;rw[E.out];exact⟨X,P,q,_,[],rfl,H3.out,.tt F3.out H.out.px,OwnMs.nil _ _ _,rfl⟩
theorem rV [Old] (h:PNs X P w b n q) (m:MV) (hk6:m.kind=6) (hnlt:¬n.tm<m.tm) (hlt:¬m.tm<n.tm) (hr:n.role=3) (hx:m.src≠n.me) (h16:¬(0≤m.src∧m.src<16)) (hcf:0<n.conf.length∧n.conf.length≤12) (hpos:∀x∈n.conf,0≤x) (hnx:∀y∈n.next,y+1<18446744073709551616) (hmx:∀y∈n.mat,y+1<18446744073709551616) (hix:m.index+1<18446744073709551616) (hpv1:m.prev+1<18446744073709551616) (hl:n.log.last+1<18446744073709551616) (hle:n.log.es.length≤900000):
 Calls Tryz.prog 14 #[.pointer (some ⟨b,0,none⟩),.agg (cM m)] w fun e w'=>jz X P w b (n.onAcked m.ms) e w':=by
 obtain⟨W1,hW1,F1,X1⟩:=gW w m;obtain⟨g0,hg0⟩:=zE w.heap.size;rw[hg0] at X1;have H:=zH h;have HG0:=zH hg0;have gb:Hid (g0≠b):=by have:=bZ h.top;show _≠_;omega
 obtain⟨me,hme⟩:=zE n.me;obtain⟨ro,hro⟩:=zE n.role;obtain⟨tm,htm⟩:=zE n.tm;obtain⟨s,hs⟩:=zE m.src;obtain⟨mt,hmt⟩:=zE m.tm;obtain⟨ix,hixx⟩:=zE m.index;obtain⟨pv,hpv⟩:=zE m.prev;obtain⟨ok,hok⟩:=zE m.ok;have HL:=zH (And.intro hme (And.intro hro (And.intro htm (And.intro hs (And.intro hmt (And.intro hixx (And.intro hpv hok)))))))
 have VH:Hid (∀W:World,W.heap[g0]? = some (.cells (cM m) 32 (0,0))→W.cell? ⟨g0,1,none⟩=some (.int .i64 s)∧W.cell? ⟨g0,3,none⟩=some (.int .u64 (mt:Nat))∧W.cell? ⟨g0,4,none⟩=some (.int .u64 (ix:Nat))∧W.cell? ⟨g0,5,none⟩=some (.int .u64 (pv:Nat))∧W.cell? ⟨g0,7,none⟩=some (.bool ok)):=fun W t=>by obtain⟨v0,v1,v2,v3,v4,v5,v6,v7,v8,v9⟩:=bq t;exact⟨by rw[v1,hs],by rw[v3,hmt],by rw[v4,hixx],by rw[v5,hpv],by rw[v7,hok]⟩
 have v0:W1.cell? ⟨g0,0,none⟩=some (.int .i64 6):=by rw[←hk6];exact(bq X1.out).1
 have y6:W1.cell? ⟨b,6,none⟩=some (.int .u64 (tm:Nat)):=by rw[←htm];exact(h.cells F1.out).2.2.2.2.2.2.1
 have v3:=(VH.out W1 X1.out).2.1;have gl:decide (tm<mt)=false:=by rw[←hmt,←htm];exact decide_eq_false hnlt
 have g1:decide (mt<tm)=false:=by rw[←hmt,←htm];exact decide_eq_false hlt
 obtain rfl:ro=3:=by rw[←hro];exact hr
 have g2:(s==me)=false:=by rw[←hs,←hme];simpa using hx
 have NC:=zH (fun W=>dW W s);rw[decide_eq_false (show ¬(0≤s∧s<16) by rw[←hs];exact h16)] at NC
 have E:Hid (n.onAcked m.ms=(n,[])):=by show _=_;unfold Nd.onAcked;rw[if_neg (fun e=>e hk6),if_neg (show ¬n.tm<m.ms.tm from hnlt),if_pos (show m.ms.tm<n.tm∨n.role≠3∨m.ms.src=n.me∨m.ms.src<0∨15<m.ms.src from Or.inr (Or.inr (Or.inr (by show m.src<0∨15<m.src;omega))))]
 unfold cM at hW1 ⊢;clear hk6 hnlt h hme hro htm hs hmt hixx hpv hok hcf hpos hnx hmx hix hpv1 hl hle hlt hr hx h16;go_enter Tryz.func14,Tryz.ntmps14
 go_wp2_with fail
 try rw[hW1]
 try rw[HG0.out]
 clear hW1 hg0 v0;go_quiet (fail)
 clear y6 v3 gl;have UQ:Hid (Fr (fun _ _=>True) W1 (W1.drewN nq)):=(Fr.refl _ W1).drewN nq;generalize W1.drewN nq=W2 at UQ ⊢;have F2:=zH (F1.out.trans UQ.out);have H2:=zH (H.out.tt F2.out);have T2:Hid (W2.heap[g0]? = some (.cells (cM m) 32 (0,0))):=UQ.out.keep _ _ X1.out trivial;have y6:W2.cell? ⟨b,6,none⟩=some (.int .u64 (tm:Nat)):=by rw[←HL.out.2.2.1];exact(H2.out.cells (Fr.refl _ W2)).2.2.2.2.2.2.1
 have y2:W2.cell? ⟨b,2,none⟩=some (.int .i64 3):=by rw[←HL.out.2.1];exact(H2.out.cells (Fr.refl _ W2)).2.2.1
 have y0:W2.cell? ⟨b,0,none⟩=some (.int .i64 me):=by rw[←HL.out.1];exact(H2.out.cells (Fr.refl _ W2)).1
 have v3:=(VH.out W2 T2.out).2.1;have v1:=(VH.out W2 T2.out).1;go_wp2_with fail
 go_quiet ((go_at_call 62;exact Calls.quiet_of_same ((NC.out _).mono fun e w' h=>And.intro h.1 h.2.symm)))
 clear y6 y2 y0 v3 v1 g1 g2 NC;have UQ2:Hid (Fr (fun _ _=>True) W2 (W2.drewN nq)):=(Fr.refl _ W2).drewN nq;generalize W2.drewN nq=W3 at UQ2 ⊢;have F3:=zH (F2.out.trans UQ2.out);have H3:=zH (H2.out.tt UQ2.out);have T3:Hid (W3.heap[g0]? = some (.cells (cM m) 32 (0,0))):=UQ2.out.keep _ _ T2.out trivial;go_wp2;go_ret;rw[E.out];exact⟨X,P,q,_,[],rfl,H3.out,.tt F3.out H.out.px,OwnMs.nil _ _ _,rfl⟩
end
end Go.Proofs.YtmjccpfchhnfhaaGreat
