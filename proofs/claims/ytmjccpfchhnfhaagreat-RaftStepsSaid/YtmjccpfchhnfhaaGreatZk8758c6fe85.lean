/- Texts of the proofs, part 30: what the functions that they reach do, walked; no conditions beyond those that each states. -/
import Derived.Test.YtmjccpfchhnfhaaGreatZk8c776d6b37
set_option linter.unusedVariables false
set_option linter.unusedSimpArgs false
set_option maxRecDepth 100000
set_option maxHeartbeats 8000000
namespace Go.Proofs.YtmjccpfchhnfhaaGreat
open Go.RowKit
section
variable {X P X' P':Nat→Prop} {w w':World} {b rb ap:Nat} {n n':Nd} {q q':NV}
structure Gn (n:Nd) (m:Ms):Prop where
 cf:0<n.conf.length∧n.conf.length≤12
 pos:∀x∈n.conf,0≤x
 me:∃mN:Nat,n.me=(mN:Nat)∧mN<16
 ye:n.yes.length≤100000
 es:n.log.es.length≤100000
 bn:Bn 4611686018427387904 n
 bm:Bm 4611686018427387904 m
 le:m.es.length≤100000
theorem step_fn [Old] (h:PNs X P w b n q) (m:MV) (hm:MsAt X w m) (gm gr:Nat) (hr:RB w rb b ap) (hgm:w.heap[gm]? = some (.cells (cM m) 32 (0,0))) (hgr:w.heap[gr]? = some (.cells #[.pointer (some ⟨rb,0,none⟩)] 73 (0,0))) (hk:1≤m.kind∧m.kind≤6) (hg:Gn n m.ms):
 Calls Tryz.prog 85 #[.pointer (some ⟨gm,0,none⟩),.pointer (some ⟨gr,0,none⟩)] w fun e w'=>jz X P w b (n.does m.ms) e w':=by
 obtain⟨mN,hme,hm16⟩:=hg.me;have hb:=hg.bn;have b1:=hb.tm;have b2:=hb.last;have m1:m.tm≤_:=hg.bm.tm;have m2:m.index+m.ms.es.length≤_:=hg.bm.index;rw[m.esl] at m2;have m3:m.es.length≤100000:=by rw[←m.esl];exact hg.le
 have m4:m.kind=6→m.prev≤_:=hg.bm.prev;obtain⟨k,hkk⟩:=zE m.kind
 have CC:Hid (∀W,Fr (fun _ _=>True) w W→W.cell? ⟨gr,0,none⟩=some (.pointer (some ⟨rb,0,none⟩))∧W.cell? ⟨rb,0,none⟩=some (.pointer (some ⟨b,0,none⟩))∧W.cell? ⟨gm,0,none⟩=some (.int .i64 k)∧W.cell? ⟨gm,1,none⟩=some (.int .i64 m.src)∧W.cell? ⟨gm,2,none⟩=some (.int .i64 m.dst)∧W.cell? ⟨gm,3,none⟩=some (.int .u64 (m.tm:Nat))∧W.cell? ⟨gm,4,none⟩=some (.int .u64 (m.index:Nat))∧W.cell? ⟨gm,5,none⟩=some (.int .u64 (m.prev:Nat))∧W.cell? ⟨gm,6,none⟩=some (.int .u64 (m.commit:Nat))∧W.cell? ⟨gm,7,none⟩=some (.bool m.ok)∧W.cell? ⟨gm,8,none⟩=some (.slice m.da m.d.length m.dc)∧W.cell? ⟨gm,9,none⟩=some (.slice m.ea m.es.length m.ec)):=fun W f=>
  ⟨bQ (f.keep _ _ hgr trivial) rfl,bQ (f.keep _ _ hr trivial) rfl,by rw[←hkk];exact(bq (f.keep _ _ hgm trivial)).1,(bq (f.keep _ _ hgm trivial)).2⟩
 have C1:=zH (fun W (f:Fr (fun _ _=>True) w W)=>B6 (h.tt f) m (by omega) (by have:=hg.es;omega));have C2:=zH (fun W (f:Fr (fun _ _=>True) w W)=>q_ (h.tt f) m ⟨hg.cf.1,by have:=hg.cf.2;omega⟩ (by have:=hg.ye;omega) mN hme hm16 (by omega) (by omega) (by omega) (by have:=hg.es;omega));have C3:=zH (fun W (f:Fr (fun _ _=>True) w W)=>qy (h.tt f) m (hm.tt f) (by omega) (by omega) (by omega) (by have:=hg.es;omega));have C4:=zH (fun W (f:Fr (fun _ _=>True) w W)=>vZ (h.tt f) m hg.cf hg.pos (fun y hy=>by have:=hb.nx y hy;omega) (fun y hy=>by have:=hb.mt y hy;omega) (by omega) (fun e=>by have:=m4 e;omega) (by omega) (by have:=hg.es;omega));obtain⟨r,hrr⟩:=zE (n.does m.ms)
 have EQ:Hid (r=if k=1∨k=3 then n.onAsk m.ms else if k=2∨k=4 then n.onAnswer m.ms else if k=5 then n.onAppend m.ms else n.onAcked m.ms):=by show r=_;rw[←hrr,←hkk];rfl
 rw[hrr];rw[hkk] at hk;obtain⟨-,-,v0,-⟩:=CC.out w (Fr.refl _ _);dsimp only[cM] at C1 C2 C3 C4;rw[hkk] at C1 C2 C3 C4;clear h hm hr hgm hgr hg hb b1 b2 m1 m2 m3 m4 hme hm16 hkk hrr;have K:k=1∨k=3∨k=2∨k=4∨k=5∨k=6:=by omega
 clear hk;rcases K with e | e | e | e | e | e
 all_goals
  first
  | (have g1:(k==1)=true:=by rw[e];rfl)
  | (have g1:(k==1)=false:=by rw[e];rfl)
  first
  | (have g3:(k==3)=true:=by rw[e];rfl)
  | (have g3:(k==3)=false:=by rw[e];rfl)
  first
  | (have g2:(k==2)=true:=by rw[e];rfl)
  | (have g2:(k==2)=false:=by rw[e];rfl)
  first
  | (have g4:(k==4)=true:=by rw[e];rfl)
  | (have g4:(k==4)=false:=by rw[e];rfl)
  first
  | (have g5:(k==5)=true:=by rw[e];rfl)
  | (have g5:(k==5)=false:=by rw[e];rfl)
 all_goals
  have HE:=zH e;clear e
 case' inl | inr.inl=>
  have OUT:Hid (r=n.onAsk m.ms):=EQ.out.trans (if_pos (by have:=HE.out;omega));clear EQ C2 C3 C4;go_enter Tryz.func85,Tryz.ntmps85
  go_wp2_with fail
  refine wpR [(8,0),(9,1),(10,2),(11,3),(12,4),(13,5),(2,6)] [(0,[]),(1,[0]),(2,[1]),(3,[2]),(4,[])] (ckR [(0,.pointer (some ⟨rb,0,none⟩)),(1,.pointer (some ⟨rb,0,none⟩)),(2,.pointer (some ⟨rb,0,none⟩)),(3,.pointer (some ⟨b,0,none⟩)),(4,.agg #[.int .i64 k,.int .i64 m.src,.int .i64 m.dst,.int .u64 (m.tm:Nat),.int .u64 (m.index:Nat),.int .u64 (m.prev:Nat),.int .u64 (m.commit:Nat),.bool m.ok,.slice m.da m.d.length m.dc,.slice m.ea m.es.length m.ec])] [] 5 0) 2 rfl ?cfall ?cfend
  case cfall=>
   iterate 5
    refine bV.q rfl rfl rfl (fun xs W HF hE K' hK=>?_) ?_
    ·simp only[ckEqs,ckLook,Nat.reduceBEq] at hE;simp only[fillA,fillL,sA,sB,sC,Act.put,hE] at hK ⊢;clear hE;obtain⟨y0,y1,v0,v1,v2,v3,v4,v5,v6,v7,v8,v9⟩:=CC.out W ((Fr.refl _ w).drew.trans HF.out);(try simp only[gA,gB,gC]);go_simp;exact hK.out _ rfl
   exact bV.nil
  case cfend=>
   intro xs W hF hA;have HF:=zH hF;have hE:=b_ rfl hA;clear hA hF;simp only[List.map_cons,List.map_nil,ckEqs,ckLook,Nat.reduceBEq] at hE;simp only[fillA,fillL,sA,sB,sC,hE];clear hE;have FW:Hid (Fr (fun _ _=>True) w W):=(Fr.refl _ w).drew.trans HF.out;have C:=zH (C1.out W FW.out);refine wpN 5 rfl fun K' hK=>?_
   (try simp only[gA,gB,gC]);go_simp;(with_reducible refine C.out.mono ?_);rintro e w2 ⟨X2,P2,q2,v,mvs,rfl,h2,a2,o2,e2⟩;have HH:=zH (And.intro h2 (And.intro a2 (And.intro o2 e2)));clear h2 a2 o2 e2 C;refine hK.out _ _ ?_;clear hK K';refine wpN 6 rfl fun K' hK=>?_
   (try simp only[gA,gB,gC]);go_simp;refine hK.out _ _ ?_;clear hK K';refine wpF ?_;go_wp2;go_ret;rw[OUT.out];exact⟨X2,P2,q2,_,mvs,rfl,HH.out.1,.lead FW.out HH.out.2.1,HH.out.2.2.1.lo FW.out.size,HH.out.2.2.2⟩
 case' inr.inr.inl | inr.inr.inr.inl=>
  have OUT:Hid (r=n.onAnswer m.ms):=EQ.out.trans ((if_neg (by have:=HE.out;omega)).trans (if_pos (by have:=HE.out;omega)));clear EQ C1 C3 C4;go_enter Tryz.func85,Tryz.ntmps85
  go_wp2_with fail
  refine wpR [(17,0),(18,1),(19,2),(20,3),(21,4),(22,5),(2,6)] [(0,[]),(1,[0]),(2,[1]),(3,[2]),(4,[])] (ckR [(0,.pointer (some ⟨rb,0,none⟩)),(1,.pointer (some ⟨rb,0,none⟩)),(2,.pointer (some ⟨rb,0,none⟩)),(3,.pointer (some ⟨b,0,none⟩)),(4,.agg #[.int .i64 k,.int .i64 m.src,.int .i64 m.dst,.int .u64 (m.tm:Nat),.int .u64 (m.index:Nat),.int .u64 (m.prev:Nat),.int .u64 (m.commit:Nat),.bool m.ok,.slice m.da m.d.length m.dc,.slice m.ea m.es.length m.ec])] [] 5 0) 2 rfl ?cfall ?cfend
  case cfall=>
   iterate 5
    refine bV.q rfl rfl rfl (fun xs W HF hE K' hK=>?_) ?_
    ·simp only[ckEqs,ckLook,Nat.reduceBEq] at hE;simp only[fillA,fillL,sA,sB,sC,Act.put,hE] at hK ⊢;clear hE;obtain⟨y0,y1,v0,v1,v2,v3,v4,v5,v6,v7,v8,v9⟩:=CC.out W ((Fr.refl _ w).drew.trans HF.out);(try simp only[gA,gB,gC]);go_simp;exact hK.out _ rfl
   exact bV.nil
  case cfend=>
   intro xs W hF hA;have HF:=zH hF;have hE:=b_ rfl hA;clear hA hF;simp only[List.map_cons,List.map_nil,ckEqs,ckLook,Nat.reduceBEq] at hE;simp only[fillA,fillL,sA,sB,sC,hE];clear hE;have FW:Hid (Fr (fun _ _=>True) w W):=(Fr.refl _ w).drew.trans HF.out;have C:=zH (C2.out W FW.out);refine wpN 5 rfl fun K' hK=>?_
   (try simp only[gA,gB,gC]);go_simp;(with_reducible refine C.out.mono ?_);rintro e w2 ⟨X2,P2,q2,v,mvs,rfl,h2,a2,o2,e2⟩;have HH:=zH (And.intro h2 (And.intro a2 (And.intro o2 e2)));clear h2 a2 o2 e2 C;refine hK.out _ _ ?_;clear hK K';refine wpN 6 rfl fun K' hK=>?_
   (try simp only[gA,gB,gC]);go_simp;refine hK.out _ _ ?_;clear hK K';refine wpF ?_;go_wp2;go_ret;rw[OUT.out];exact⟨X2,P2,q2,_,mvs,rfl,HH.out.1,.lead FW.out HH.out.2.1,HH.out.2.2.1.lo FW.out.size,HH.out.2.2.2⟩
 ·have OUT:Hid (r=n.onAppend m.ms):=EQ.out.trans ((if_neg (by have:=HE.out;omega)).trans ((if_neg (by have:=HE.out;omega)).trans (if_pos HE.out)));clear EQ C1 C2 C4;go_enter Tryz.func85,Tryz.ntmps85
  go_wp2_with fail
  refine wpR [(25,0),(26,1),(27,2),(28,3),(29,4),(30,5),(2,6)] [(0,[]),(1,[0]),(2,[1]),(3,[2]),(4,[])] (ckR [(0,.pointer (some ⟨rb,0,none⟩)),(1,.pointer (some ⟨rb,0,none⟩)),(2,.pointer (some ⟨rb,0,none⟩)),(3,.pointer (some ⟨b,0,none⟩)),(4,.agg #[.int .i64 k,.int .i64 m.src,.int .i64 m.dst,.int .u64 (m.tm:Nat),.int .u64 (m.index:Nat),.int .u64 (m.prev:Nat),.int .u64 (m.commit:Nat),.bool m.ok,.slice m.da m.d.length m.dc,.slice m.ea m.es.length m.ec])] [] 5 0) 2 rfl ?cfall ?cfend
  case cfall=>
   iterate 5
    refine bV.q rfl rfl rfl (fun xs W HF hE K' hK=>?_) ?_
    ·simp only[ckEqs,ckLook,Nat.reduceBEq] at hE;simp only[fillA,fillL,sA,sB,sC,Act.put,hE] at hK ⊢;clear hE;obtain⟨y0,y1,v0,v1,v2,v3,v4,v5,v6,v7,v8,v9⟩:=CC.out W ((Fr.refl _ w).drew.trans HF.out);(try simp only[gA,gB,gC]);go_simp;exact hK.out _ rfl
   exact bV.nil
  case cfend=>
   intro xs W hF hA;have HF:=zH hF;have hE:=b_ rfl hA;clear hA hF;simp only[List.map_cons,List.map_nil,ckEqs,ckLook,Nat.reduceBEq] at hE;simp only[fillA,fillL,sA,sB,sC,hE];clear hE;have FW:Hid (Fr (fun _ _=>True) w W):=(Fr.refl _ w).drew.trans HF.out;have C:=zH (C3.out W FW.out);refine wpN 5 rfl fun K' hK=>?_
   (try simp only[gA,gB,gC]);go_simp;(with_reducible refine C.out.mono ?_);rintro e w2 ⟨X2,P2,q2,v,mvs,rfl,h2,a2,o2,e2⟩;have HH:=zH (And.intro h2 (And.intro a2 (And.intro o2 e2)));clear h2 a2 o2 e2 C;refine hK.out _ _ ?_;clear hK K';refine wpN 6 rfl fun K' hK=>?_
   (try simp only[gA,gB,gC]);go_simp;refine hK.out _ _ ?_;clear hK K';refine wpF ?_;go_wp2;go_ret;rw[OUT.out];exact⟨X2,P2,q2,_,mvs,rfl,HH.out.1,.lead FW.out HH.out.2.1,HH.out.2.2.1.lo FW.out.size,HH.out.2.2.2⟩
 ·have OUT:Hid (r=n.onAcked m.ms):=EQ.out.trans ((if_neg (by have:=HE.out;omega)).trans ((if_neg (by have:=HE.out;omega)).trans (if_neg (by have:=HE.out;omega))));clear EQ C1 C2 C3;go_enter Tryz.func85,Tryz.ntmps85
  go_wp2_with fail
  refine wpR [(31,0),(32,1),(33,2),(34,3),(35,4),(36,5),(2,6)] [(0,[]),(1,[0]),(2,[1]),(3,[2]),(4,[])] (ckR [(0,.pointer (some ⟨rb,0,none⟩)),(1,.pointer (some ⟨rb,0,none⟩)),(2,.pointer (some ⟨rb,0,none⟩)),(3,.pointer (some ⟨b,0,none⟩)),(4,.agg #[.int .i64 k,.int .i64 m.src,.int .i64 m.dst,.int .u64 (m.tm:Nat),.int .u64 (m.index:Nat),.int .u64 (m.prev:Nat),.int .u64 (m.commit:Nat),.bool m.ok,.slice m.da m.d.length m.dc,.slice m.ea m.es.length m.ec])] [] 5 0) 2 rfl ?cfall ?cfend
  case cfall=>
   iterate 5
    refine bV.q rfl rfl rfl (fun xs W HF hE K' hK=>?_) ?_
    ·simp only[ckEqs,ckLook,Nat.reduceBEq] at hE;simp only[fillA,fillL,sA,sB,sC,Act.put,hE] at hK ⊢;clear hE;obtain⟨y0,y1,v0,v1,v2,v3,v4,v5,v6,v7,v8,v9⟩:=CC.out W ((Fr.refl _ w).drew.trans HF.out);(try simp only[gA,gB,gC]);go_simp;exact hK.out _ rfl
   exact bV.nil
  case cfend=>
   intro xs W hF hA;have HF:=zH hF;have hE:=b_ rfl hA;clear hA hF;simp only[List.map_cons,List.map_nil,ckEqs,ckLook,Nat.reduceBEq] at hE;simp only[fillA,fillL,sA,sB,sC,hE];clear hE;have FW:Hid (Fr (fun _ _=>True) w W):=(Fr.refl _ w).drew.trans HF.out;have C:=zH (C4.out W FW.out);refine wpN 5 rfl fun K' hK=>?_
   (try simp only[gA,gB,gC]);go_simp;(with_reducible refine C.out.mono ?_);rintro e w2 ⟨X2,P2,q2,v,mvs,rfl,h2,a2,o2,e2⟩;have HH:=zH (And.intro h2 (And.intro a2 (And.intro o2 e2)));clear h2 a2 o2 e2 C;refine hK.out _ _ ?_;clear hK K';refine wpN 6 rfl fun K' hK=>?_
   (try simp only[gA,gB,gC]);go_simp;refine hK.out _ _ ?_;clear hK K';refine wpF ?_;go_wp2;go_ret;rw[OUT.out];exact⟨X2,P2,q2,_,mvs,rfl,HH.out.1,.lead FW.out HH.out.2.1,HH.out.2.2.1.lo FW.out.size,HH.out.2.2.2⟩
def SOut [Old] (X P:Nat→Prop) (w:World) (b:Nat) (r:(Nd×List Ms)×Int) (e:Ending) (w':World):Prop:=
 ∃X' P' q' v mvs,e=.returned (.tuple #[v,.int .i64 r.2])∧PNs X' P' w' b r.1.1 q'∧Aft X P X' P' w w'∧OwnMs X' w.heap.size w' v mvs∧mvs.map MV.ms=r.1.2
theorem Bn.does {n:Nd} {m:Ms} (hg:Gn n m):Bn 4611686018427387905 (n.does m).1∧(n.does m).1.log.es.length≤200001∧(n.does m).2.length≤900000∧(n.does m).1.conf=n.conf:=by
 have l1:=hg.es;have l2:=hg.le;unfold Nd.does;split
 ·refine⟨(Nd.onAsk_b hg.bn hg.bm).1.mono (by omega),?_,Nat.le_trans (Nd.onAsk_len n m) (by omega),(Nd.onAsk_up n m).conf⟩;rw[Nd.onAsk_log];omega
 ·split
  ·refine⟨(Nd.onAnswer_b hg.bn hg.bm).1,?_,Nat.le_trans (Nd.onAnswer_len n m) (by have:=hg.cf.2;omega),(Nd.onAnswer_up n m).conf⟩;have:=Nd.onAnswer_log n m;omega
  ·split
   ·refine⟨(Nd.onAppend_b hg.bn hg.bm).1.mono (by omega),?_,Nat.le_trans (Nd.onAppend_len n m) (by omega),(Nd.onAppend_up n m).conf⟩;have:=Nd.onAppend_log n m;omega
   ·refine⟨(Nd.onAcked_b hg.bn hg.bm).1,?_,Nat.le_trans (Nd.onAcked_len n m) (by omega),(Nd.onAcked_up n m).conf⟩;rw[Nd.onAcked_log];omega
theorem jJ [Old] (h:PNs X P w b n q) (hr:RB w rb b ap) (hrx:¬P rb) (m:MV) (hm:MsAt X w m) (hel:m.es.length≤9223372036854775807) (hdl:m.d.length≤9223372036854775807) (hod:∀c,Old.o c→c<w.heap.size) (hg:n.right m.ms=0→Gn n m.ms):
 Calls Tryz.prog 33 #[.pointer (some ⟨rb,0,none⟩),.agg (cM m)] w fun e w'=>SOut X P w b (n.step m.ms) e w':=by
 obtain⟨W0,hW0⟩:=zE (w.alloc (.cells #[.pointer (some ⟨rb,0,none⟩)] 73 (0,0)));have f0:Fr (fun _ _=>True) w W0:=hW0▸(Fr.refl _ _).alloc _;have t0:W0.heap[w.heap.size]? = some (.cells #[.pointer (some ⟨rb,0,none⟩)] 73 (0,0)):=by rw[←hW0];exact bX _ _
 obtain⟨W1,hW1,F1,X1⟩:=gW W0 m;have FW:=zH (f0.trans F1.out);have T1:Hid (W1.heap[w.heap.size]? = some (.cells #[.pointer (some ⟨rb,0,none⟩)] 73 (0,0))):=F1.out.keep _ _ t0 trivial;have RC:=zH (t_ (h.tt FW.out) (hr.fr FW.out fun _=>trivial) m (hm.tt FW.out) hel hdl);obtain⟨c,hc⟩:=zE (n.right m.ms);rw[hc] at RC;have H:=zH h;have HR:=zH hr;have HX:=zH hrx;have HM:=zH hm;have OD:=zH hod;have HG:=zH hg;have HC:=zH hc;obtain⟨res,hres⟩:=zE (n.step m.ms)
 have EQ:Hid (res=if c≠0 then((n,[]),c) else(n.led (n.hear m.ms),0)):=by show res=_;rw[←hres,←hc];rfl
 rw[hres];have u0:=bQ (i:=0) T1.out rfl;obtain⟨v0,v1,v2,v3,v4,v5,v6,v7,v8,v9⟩:=bq X1.out;dsimp only[cM] at RC;unfold cM at hW1 ⊢;clear h hr hrx hm hel hdl hod hg hc hres f0 t0;go_enter Tryz.func33,Tryz.ntmps33
 go_wp2_with fail
 try rw[hW0]
 try rw[hW1]
 clear hW0 hW1;(with_reducible refine RC.out.mono ?_);rintro e w2 ⟨rfl,f2⟩;have F2:=zH (FW.out.trans f2);have u0':=f2.cell (fun _ _=>trivial) u0;have T2:Hid (w2.heap[w.heap.size]? = some (.cells #[.pointer (some ⟨rb,0,none⟩)] 73 (0,0))):=f2.keep _ _ T1.out trivial;have M2:Hid (w2.heap[W0.heap.size]? = some (.cells (cM m) 32 (0,0))):=f2.keep _ _ X1.out trivial;clear f2 RC v0 v1 v2 v3 v4 v5 v6 v7 v8 v9 u0;by_cases hc0:c=0
 case neg=>
  have c1:(c != 0)=true:=by simpa using hc0
  have OUT:Hid (res=((n,[]),c)):=EQ.out.trans (if_pos hc0);clear EQ;go_wp2;go_ret2;rw[OUT.out];exact⟨X,P,q,_,[],rfl,H.out.tt F2.out,.tt F2.out H.out.px,OwnMs.nil _ _ _,rfl⟩
 case pos=>
  subst hc0;have OK:=Nd.right_ok HC.out;have K:1≤m.kind∧m.kind≤6:=⟨(wq OK.1).1,OK.2.2.2.1⟩
  have GN:=HG.out HC.out;have BD:=Bn.does GN;have OUT:Hid (res=(n.led (n.does m.ms),0)):=EQ.out.trans ((if_neg (fun e=>e rfl)).trans (by rw[Nd.does_hear K]))
  have LC:=zH (yZ (H.out.tt F2.out) (HR.out.fr F2.out fun _=>trivial) HX.out 85 #[.pointer (some ⟨W0.heap.size,0,none⟩),.pointer (some ⟨w.heap.size,0,none⟩)] (enters_of Tryz.func85 (by kernel_rfl) rfl) (n.does m.ms)
   (fun W f=>step_fn ((H.out.tt F2.out).tt f) m ((HM.out.tt F2.out).tt f) _ _ ((HR.out.fr F2.out fun _=>trivial).fr f fun _=>trivial) (f.keep _ _ M2.out trivial) (f.keep _ _ T2.out trivial) K GN) (fun c hc=>Nat.lt_of_lt_of_le (OD.out c hc) F2.out.size) BD.2.2.1
   (by rw[BD.2.2.2];exact⟨GN.cf.1,by have:=GN.cf.2;omega⟩) (fun y hy=>by have:=BD.1.nx y hy;omega) (by have:=BD.1.last;omega) (by have:=BD.2.1;omega))
  clear EQ OK K GN BD;go_wp2_with fail
  (with_reducible refine LC.out.mono ?_);rintro e w3 ⟨X3,P3,q3,v,mvs,rfl,h3,a3,o3,e3⟩;have HH:=zH (And.intro h3 (And.intro a3 (And.intro o3 e3)));clear h3 a3 o3 e3 LC;go_wp2;go_ret2;rw[OUT.out];exact⟨X3,P3,q3,_,mvs,rfl,HH.out.1,.lead F2.out HH.out.2.1,HH.out.2.2.1.lo F2.out.size,HH.out.2.2.2⟩
theorem GX [Old] (h:PNs X P w b n q) (gr:Nat) (hr:RB w rb b ap) (hgr:w.heap[gr]? = some (.cells #[.pointer (some ⟨rb,0,none⟩)] 73 (0,0))) (hcf:0<n.conf.length∧n.conf.length≤1000) (mN:Nat) (hme:n.me=(mN:Nat)) (hm16:mN<16) (htm:n.tm+1<18446744073709551616) (hl:n.log.last+1<18446744073709551616) (hle:n.log.es.length≤900000):
 Calls Tryz.prog 82 #[.pointer (some ⟨gr,0,none⟩)] w fun e w'=>jz X P w b n.askF e w':=by
 have AC:=zH (KW h hcf mN hme hm16 htm hl hle);have y0:w.cell? ⟨gr,0,none⟩=some (.pointer (some ⟨rb,0,none⟩)):=bQ hgr rfl;have y1:w.cell? ⟨rb,0,none⟩=some (.pointer (some ⟨b,0,none⟩)):=bQ hr rfl;clear h hr hgr hcf hme hm16 htm hl hle;go_enter Tryz.func82,Tryz.ntmps82
 go_wp2_with fail
 (with_reducible refine AC.out.mono ?_);rintro e w2 ⟨X2,P2,q2,v,mvs,rfl,h2,a2,o2,e2⟩;have HH:=zH (And.intro h2 (And.intro a2 (And.intro o2 e2)));clear h2 a2 o2 e2 AC;go_wp2;go_ret;exact⟨X2,P2,q2,_,mvs,rfl,HH.out.1,HH.out.2.1,HH.out.2.2.1,HH.out.2.2.2⟩
theorem qj [Old] (h:PNs X P w b n q) (hr:RB w rb b ap) (hrx:¬P rb) (hod:∀c,Old.o c→c<w.heap.size) (hcf:0<n.conf.length∧n.conf.length≤12) (mN:Nat) (hme:n.me=(mN:Nat)) (hm16:mN<16) (hb:Bn 4611686018427387904 n) (hle:n.log.es.length≤100000):
 Calls Tryz.prog 31 #[.pointer (some ⟨rb,0,none⟩)] w fun e w'=>jz X P w b n.timeout e w':=by
 obtain⟨W1,hW1⟩:=zE (w.alloc (.cells #[.pointer (some ⟨rb,0,none⟩)] 73 (0,0)));have F1:Hid (Fr (fun _ _=>True) w W1):=hW1▸(Fr.refl _ _).alloc _;have T1:Hid (W1.heap[w.heap.size]? = some (.cells #[.pointer (some ⟨rb,0,none⟩)] 73 (0,0))):=by show _=_;rw[←hW1];exact bX _ _
 have H1:=zH (h.tt F1.out);have R1:=zH (hr.fr F1.out fun _=>trivial);have b1:=hb.tm;have b2:=hb.last;have A1:=Nd.askF_b hb;have A2:=Nd.askF_log n;have A3:=Nd.askF_len n;have A4:=(Nd.askF_up n).conf
 have LC:=zH (yZ H1.out R1.out hrx 82 #[.pointer (some ⟨w.heap.size,0,none⟩)] (enters_of Tryz.func82 (by kernel_rfl) rfl) n.askF
  (fun W f=>GX (H1.out.tt f) _ (R1.out.fr f fun _=>trivial) (f.keep _ _ T1.out trivial) ⟨hcf.1,by omega⟩ mN hme hm16 (by omega) (by omega) (by omega)) (fun c hc=>Nat.lt_of_lt_of_le (hod c hc) F1.out.size) (by omega)
  (by rw[A4];exact⟨hcf.1,by omega⟩) (fun y hy=>by have:=A1.1.nx y hy;omega) (by have:=A1.1.last;omega) (by omega))
 obtain⟨ro,hro⟩:=zE n.role;obtain⟨hd,hhd⟩:=zE n.heard;obtain⟨r,hrr⟩:=zE n.timeout
 have EQ:Hid (r=if ro=3 then(n,[]) else if hd=true then({ n with heard:=false },[]) else n.led n.askF):=by show r=_;rw[←hrr,←hro,←hhd];rfl
 rw[hrr];have y0:=bQ (i:=0) T1.out rfl;have y1:W1.cell? ⟨rb,0,none⟩=some (.pointer (some ⟨b,0,none⟩)):=bQ R1.out rfl;obtain⟨-,-,x2,-,-,-,-,-,-,-,-,x11,-,-⟩:=H1.out.cells (Fr.refl _ W1);rw[hro] at x2;rw[hhd] at x11;clear h hr hrx hod hcf hme hm16 hb hle b1 b2 A1 A2 A3 A4 hro hhd hrr;by_cases h3:ro=3
 ·subst h3;have OUT:Hid (r=(n,[])):=EQ.out.trans (if_pos rfl);clear EQ LC x11;go_enter Tryz.func31,Tryz.ntmps31
  go_wp2
  try rw[hW1]
  go_ret;rw[OUT.out];exact⟨X,P,q,_,[],rfl,H1.out,.tt F1.out H1.out.px,OwnMs.nil _ _ _,rfl⟩
 ·have g3:(ro==3)=false:=by simpa using h3
  replace EQ:Hid (r=if hd=true then({ n with heard:=false },[]) else n.led n.askF):=EQ.out.trans (if_neg h3);clear h3;cases hd with
  | true=>
   have OUT:Hid (r=({ n with heard:=false },[])):=EQ.out.trans (if_pos rfl);have z11:=H1.out.free (Fr.refl _ W1) 11;obtain⟨W2,hW2⟩:=zE (W1.setCell ⟨b,11,none⟩ (.bool false));have hs:j4 W1 b [(11,.bool false)]=W2:=hW2;have f2:Fr (fun c _=>c≠b) W1 W2:=hs▸bj b _ W1;have H2:Hid (PNs X P W2 b { n with heard:=false } q):=H1.out.re f2 (hs▸bz _ H1.out.top) ⟨rfl,rfl⟩ (.inl ⟨rfl,rfl⟩) ⟨rfl,rfl,rfl⟩ ⟨rfl,rfl,rfl,rfl⟩;have A2:=zH (Aft.lead F1.out (H1.out.own f2));clear EQ LC f2 hs;go_enter Tryz.func31,Tryz.ntmps31
   go_wp2
   try rw[hW1]
   try rw[hW2]
   go_ret;rw[OUT.out];exact⟨X,P,q,_,[],rfl,H2.out,A2.out,OwnMs.nil _ _ _,rfl⟩
  | false=>
   have OUT:Hid (r=n.led n.askF):=EQ.out.trans (if_neg (by decide));clear EQ;go_enter Tryz.func31,Tryz.ntmps31
   go_wp2_with fail
   try rw[hW1]
   (with_reducible refine LC.out.mono ?_);rintro e w3 ⟨X3,P3,q3,v,mvs,rfl,h3,a3,o3,e3⟩;have HH:=zH (And.intro h3 (And.intro a3 (And.intro o3 e3)));clear h3 a3 o3 e3 LC;go_wp2;go_ret;rw[OUT.out];exact⟨X3,P3,q3,_,mvs,rfl,HH.out.1,.lead F1.out HH.out.2.1,HH.out.2.2.1.lo F1.out.size,HH.out.2.2.2⟩
end
def rp (k y:Nat) (l:List Nat):List Nat:=List.replicate k y++l.drop k
theorem rp_set {l:List Nat} {k y:Nat} (h:l.length=16) (hk:k<16):(rp k y l).set k y=rp (k+1) y l:=by
 unfold rp;have e2:(List.replicate k y).length=k:=List.length_replicate;rw[List.set_append_right _ _ (by omega),e2,Nat.sub_self,List.drop_eq_getElem_cons (by omega),List.set_cons_zero,List.replicate_succ',List.append_assoc];rfl
theorem rp_all {l:List Nat} {y:Nat} (h:l.length=16):rp 16 y l=List.replicate 16 y:=by
 unfold rp;rw[List.drop_eq_nil_of_le (by omega),List.append_nil]
section
variable {X:Nat→Prop} {w w':World} {b:Nat} {n n':Nd} {q q':DV}
def DLOut [Old] (X:Nat→Prop) (w:World) (b:Nat) (n:Nd) (e:Ending) (w':World):Prop:=∃q',e=.returned (.tuple #[])∧DNs X w' b n q'∧Fr (fun c _=>c≠b) w w'
theorem p_ [Old] (h:DNs X w b n q) (mN:Nat) (hme:n.me=(mN:Nat)) (hm16:mN<16) (hl:n.log.last+1<18446744073709551616) (hle:n.log.es.length≤900000):
 Calls Tryz.prog 117 #[.pointer (some ⟨b,0,none⟩)] w fun e w'=>DLOut X w b n.lead e w':=by
 obtain⟨ae,le,ce,hve,hle2,hel,hes,hlg⟩:=h.lg;obtain⟨bs,hbs⟩:=zE n.log.base;obtain⟨bt,hbt⟩:=zE n.log.bt;obtain⟨tm,htm⟩:=zE n.tm;obtain⟨L,hL⟩:=zE (bs+(le+1));have hL2:n.log.last+1=L:=by unfold Lg.last;omega
 have hl2:bs+le+1<18446744073709551616:=by unfold Lg.last at hl;omega
 obtain⟨-,x1,x2,x3,-,x5,-,-,-,-,-,-⟩:=h.cells (Fr.refl _ w);have y0:w.cell? ⟨b,0,none⟩=some (.int .i64 (mN:Nat)):=by rw[(h.cells (Fr.refl _ w)).1,hme]
 have z:=h.free (Fr.refl _ w);have z2:=z 2;have z3:=z 3;have z5:=z 5;obtain⟨W1,hW1⟩:=zE (j4 w b [(2,.int .i64 3),(3,.int .i64 (mN:Nat)),(5,.slice none 0 0)]);have hW1':((w.setCell ⟨b,2,none⟩ (.int .i64 3)).setCell ⟨b,3,none⟩ (.int .i64 (mN:Nat))).setCell ⟨b,5,none⟩ (.slice none 0 0)=W1:=hW1;have f1:Fr (fun c _=>c≠b) w W1:=hW1▸bj b _ w
 have h1:DNs X W1 b { n with role:=3,ld:=n.me,yes:=[] } { q with vy:=.slice none 0 0 }:=by refine h.re f1 ?_ ⟨rfl,rfl⟩ ⟨none,0,rfl,.inl rfl⟩ ⟨h.ee,h.ev.aft (h.own f1)⟩ ⟨h.nl,h.ml⟩;rw[←hW1];have hh:=bz [(2,Value.int .i64 3),(3,.int .i64 (mN:Nat)),(5,.slice none 0 0)] h.top;simp only[List.foldl_cons,List.foldl_nil,W44,sA,sB,sC] at hh;rw[←hme] at hh ⊢;exact hh
 obtain⟨n1,hn1⟩:∃m:Nd,{ n with role:=3,ld:=n.me,yes:=[] }=m:=⟨_,rfl⟩
 obtain⟨q1,hq1⟩:∃m:DV,{ q with vy:=.slice none 0 0 }=m:=⟨_,rfl⟩
 rw[hn1,hq1] at h1;have e1:n1.me=n.me∧n1.tm=n.tm∧n1.log=n.log∧q1.ve=q.ve∧q1.es=q.es:=by rw[←hn1,←hq1];exact⟨rfl,rfl,rfl,rfl,rfl⟩
 have CN:Hid (∀(wr W:World) (nn:Nd) (qq:DV),(DNs X wr b nn qq∧nn.me=n.me∧nn.tm=n.tm∧nn.log.base=n.log.base∧nn.log.bt=n.log.bt)→Fr (fun _ _=>True) wr W→W.cell? ⟨b,0,none⟩=some (.int .i64 (mN:Nat))∧W.cell? ⟨b,6,none⟩=some (.int .u64 (tm:Nat))∧W.cell? ⟨b,8,none⟩=some (.int .u64 (bs:Nat))∧W.cell? ⟨b,9,none⟩=some (.int .u64 (bt:Nat))∧W.cell? ⟨b,10,none⟩=some qq.ve):=fun wr W nn qq hh f=>by obtain⟨x0,x1,x2,x3,x4,x5,x6,x7,x8,x9,x10,x11⟩:=hh.1.cells f;exact⟨by rw[x0,hh.2.1,hme],by rw[x6,hh.2.2.1,htm],by rw[x8,hh.2.2.2.1,hbs],by rw[x9,hh.2.2.2.2,hbt],x10⟩
 have CC:Hid (∀W,Fr (fun _ _=>True) W1 W→W.cell? ⟨b,0,none⟩=some (.int .i64 (mN:Nat))∧W.cell? ⟨b,6,none⟩=some (.int .u64 (tm:Nat))∧W.cell? ⟨b,8,none⟩=some (.int .u64 (bs:Nat))∧W.cell? ⟨b,9,none⟩=some (.int .u64 (bt:Nat))∧W.cell? ⟨b,10,none⟩=some (.slice ae le ce)):=fun W f=>by have hh:=CN.out W1 W n1 q1 ⟨h1,e1.1,e1.2.1,by rw[e1.2.2.1],by rw[e1.2.2.1]⟩ f;rw[e1.2.2.2.1,hve] at hh;exact hh
 have ADD:Hid (∀W,Fr (fun _ _=>True) W1 W→Calls Tryz.prog 76 #[vL9 bs bt (.slice ae le ce),vE ⟨tm,0,none,0,[]⟩] W fun e w'=>(∃g k,e=.returned (vL9 bs bt (.slice g (le+1) k))∧EsAt X w' (.slice g (le+1) k) (q.es++[⟨tm,0,none,0,[]⟩]))∧Fr (fun _ _=>True) W w'):=fun W f=>by have hv:=h1.ev.tt f;rw[e1.2.2.2.1,e1.2.2.2.2,hve] at hv;exact KZ W bs bt ae le ce q.es ⟨tm,0,none,0,[]⟩ hv (BytesAt.nil _ _) (Nat.zero_le _) (by omega) (fun cc hc=>Nat.lt_of_lt_of_le (h1.hx cc hc) f.size)
 have LAST:=zH (fun W a8 c8=>dQ W bs bt a8 (le+1) c8 (by omega));rw[hL] at LAST;dsimp only[vL9] at LAST;have H:=zH h;have H1:=zH h1;have F1:=zH f1;have E1:=zH e1;have HN1:=zH hn1;have HQ:=zH (And.intro hbs (And.intro hbt (And.intro htm (And.intro hme (And.intro hL2 (And.intro hm16 (And.intro hel hle2)))))));have UD:Hid (Fr (fun _ _=>True) W1 W1.drew):=(Fr.refl _ _).drew;clear h h1 f1 e1 hme hm16 hl hle hve hle2 hel hes hlg hbs hbt htm hL hL2 hl2 hn1 hq1 z;go_enter Tryz.func117,Tryz.ntmps117
 go_upto_region 3 with fail
 try rw[hW1']
 clear x1 x2 x3 x5 y0 z2 z3 z5 hW1 hW1';refine wpR [(16,0),(17,1),(18,2),(19,3),(20,4),(21,5),(22,6),(23,7),(24,8),(25,9),(26,10),(27,11),(28,12)] [(0,[]),(1,[]),(2,[1]),(3,[2]),(4,[3]),(5,[]),(6,[5]),(7,[6]),(8,[7]),(9,[8]),(11,[0]),(12,[11]),(10,[4,9])] (ckR [(0,.pointer (some ⟨b,0,none⟩)),(1,.pointer (some ⟨b,0,none⟩)),(2,.pointer (some ⟨b,0,none⟩)),(3,.pointer (some ⟨b,8,none⟩)),(4,.agg #[.int .u64 (bs:Nat),.int .u64 (bt:Nat),.slice ae le ce]),(5,.pointer (some ⟨b,0,none⟩)),(6,.pointer (some ⟨b,0,none⟩)),(7,.pointer (some ⟨b,6,none⟩)),(8,.int .u64 (tm:Nat)),(9,.agg #[.int .u64 (tm:Nat),.int .i64 0,.slice none 0 0]),(11,.pointer (some ⟨b,0,none⟩)),(12,.pointer (some ⟨b,8,none⟩))] [(10,⟨fun v W=>∃a' c',v=.agg #[.int .u64 (bs:Nat),.int .u64 (bt:Nat),.slice a' (le+1) c']∧EsAt X W (.slice a' (le+1) c') (q.es++[⟨tm,0,none,0,[]⟩]),fun v W W' h hf=>by obtain⟨a',c',h1,h2⟩:=h;exact⟨a',c',h1,h2.tt hf⟩⟩)] 13 0) 1 rfl ?cfall ?cfend
 case cfall=>
  iterate 12
   refine bV.q rfl rfl rfl (fun xs W HF hE K' hK=>?_) ?_
   ·simp only[ckEqs,ckLook,Nat.reduceBEq] at hE;simp only[fillA,fillL,sA,sB,sC,Act.put,hE] at hK ⊢;clear hE;obtain⟨y0,y6,y8,y9,y10⟩:=CC.out W (UD.out.trans HF.out);(try simp only[gA,gB,gC]);go_simp;exact hK.out _ rfl
  refine bV.p rfl rfl (fun xs W HF hA hE K' hK=>?_) ?_
  ·clear hA;simp only[ckEqs,ckLook,Nat.reduceBEq] at hE;simp only[fillA,fillL,sA,sB,sC,Act.put,hE] at hK ⊢;clear hE;have AD1:=zH (ADD.out W (UD.out.trans HF.out));dsimp only[vL9,vE,List.length_nil] at AD1;(try simp only[gA,gB,gC]);go_simp;(with_reducible refine AD1.out.mono ?_);rintro e w8 ⟨⟨a8,c8,rfl,r9⟩,f8⟩;exact hK.out _ _ _ rfl f8 ⟨a8,c8,rfl,r9⟩
  exact bV.nil
 case cfend=>
  intro xs W hF hA;have HF:=zH hF;have hE:=b_ rfl hA;have h10:=hA (10,[4,9]) (by decide);clear hA hF;simp only[List.map_cons,List.map_nil,ckEqs,ckLook,Nat.reduceBEq] at hE;simp only[fillA,fillL,sA,sB,sC,hE];clear hE;obtain⟨a8,c8,e10,r8⟩:=h10;rw[e10];have R8:=zH r8;clear e10 r8 ADD;have F2:=zH (UD.out.trans HF.out);have H2:=zH (H1.out.tt F2.out);obtain⟨x0,x1,x2,x3,x4,x5,x6,x7,x8,x9,x10,x11⟩:=H2.out.cells (Fr.refl _ W);have z8:=H2.out.free (Fr.refl _ W) 8;have z9:=H2.out.free (Fr.refl _ W) 9;have z10:=H2.out.free (Fr.refl _ W) 10;refine wpN 13 rfl fun K' hK=>?_
  (try simp only[gA,gB,gC]);go_simp;refine hK.out _ _ ?_;clear hK K';refine wpF ?_;obtain⟨n2,hn2⟩:∃m:Nd,{ n1 with log:=n1.log.add ⟨tm,0,[]⟩ }=m:=⟨_,rfl⟩
  obtain⟨q2,hq2⟩:∃m:DV,{ q1 with ve:=.slice a8 (le+1) c8,es:=q.es++[⟨tm,0,none,0,[]⟩] }=m:=⟨_,rfl⟩
  obtain⟨W2,hW2⟩:=zE (j4 W b [(8,.int .u64 (bs:Nat)),(9,.int .u64 (bt:Nat)),(10,.slice a8 (le+1) c8)]);have hW2':((W.setCell ⟨b,8,none⟩ (.int .u64 (bs:Nat))).setCell ⟨b,9,none⟩ (.int .u64 (bt:Nat))).setCell ⟨b,10,none⟩ (.slice a8 (le+1) c8)=W2:=hW2;have fs:Fr (fun c _=>c≠b) W W2:=hW2▸bj b _ W
  have h3:DNs X W2 b { n1 with log:=n1.log.add ⟨tm,0,[]⟩ } { q1 with ve:=.slice a8 (le+1) c8,es:=q.es++[⟨tm,0,none,0,[]⟩] }:=by
   refine H2.out.re fs ?_ ⟨rfl,rfl⟩ (H2.out.ye.aft (H2.out.own fs)) ⟨?_,R8.out.aft (H2.out.own fs)⟩ ⟨H2.out.nl,H2.out.ml⟩
   ·rw[←hW2,←HQ.out.1,←HQ.out.2.1,←E1.out.2.2.1];exact bz _ H2.out.top
   ·show n1.log.es++_=_;rw[List.map_append,E1.out.2.2.1,H.out.ee];rfl
  rw[hn2,hq2] at h3;have HP:Hid (n2.me=n.me∧n2.tm=n.tm∧n2.log.base=n.log.base∧n2.log.bt=n.log.bt∧q2.ve=.slice a8 (le+1) c8∧n2.next.length=16∧n2.mat.length=16):=by rw[←hn2,←hq2];exact⟨E1.out.1,E1.out.2.1,by show n1.log.base=_;rw[E1.out.2.2.1],by show n1.log.bt=_;rw[E1.out.2.2.1],rfl,H2.out.nl,H2.out.ml⟩
  have H3:=zH h3;have F3:Hid (Fr (fun c _=>c≠b) w W2):=F1.out.trans ((F2.out.mono fun _ _ _=>trivial).trans fs);have HN2:=zH hn2
  try rw[hW2']
  clear hW2 hW2' h3 hn2 hq2 x0 x1 x2 x3 x4 x5 x6 x7 x8 x9 x10 x11 z8 z9 z10 fs R8 HF;go_wp2_with fail
  go_loopw [2] (fun v2 wr=>∃k:Nat,v2=.int .i64 (k:Nat)∧k≤16∧Hid ((DNs X wr b { n2 with next:=rp k L n2.next,mat:=rp k 0 n2.mat } q2∧n2.me=n.me∧n2.tm=n.tm∧n2.log.base=n.log.base∧n2.log.bt=n.log.bt)∧Fr (fun c _=>c≠b) W2 wr)) (fun v2 _=>16-(intOf v2).toNat)
  case atStart=>exact⟨0,rfl,Nat.zero_le _,⟨H3.out,HP.out.1,HP.out.2.1,HP.out.2.2.1,HP.out.2.2.2.1⟩,Fr.refl _ _⟩
  case round=>
   obtain⟨k,rfl,hk,HL⟩:=hrel;by_cases hlt:k<16
   ·have hltI:(k:Int)<16:=by omega
    have HK:=zH hlt
    have CK:Hid (∀W,Fr (fun _ _=>True) wr W→W.cell? ⟨b,0,none⟩=some (.int .i64 (mN:Nat))∧W.cell? ⟨b,8,none⟩=some (.int .u64 (bs:Nat))∧W.cell? ⟨b,9,none⟩=some (.int .u64 (bt:Nat))∧W.cell? ⟨b,10,none⟩=some (.slice a8 (le+1) c8)):=fun W f=>by obtain⟨y0,y6,y8,y9,y10⟩:=CN.out wr W _ _ HL.out.1 f;exact⟨y0,y8,y9,by rw[y10,HP.out.2.2.2.2.1]⟩
    clear hlt;go_wp2_with fail
    refine wpR [(33,0),(34,1),(35,2),(36,3),(37,4),(38,5),(39,6),(40,7),(41,8),(42,9)] [(0,[]),(1,[]),(2,[]),(3,[2]),(4,[3]),(5,[4]),(7,[0]),(8,[7]),(9,[1,8]),(6,[5])] (ckR [(0,.pointer (some ⟨b,0,none⟩)),(1,.int .i64 (k:Nat)),(2,.pointer (some ⟨b,0,none⟩)),(3,.pointer (some ⟨b,0,none⟩)),(4,.pointer (some ⟨b,8,none⟩)),(5,.agg #[.int .u64 (bs:Nat),.int .u64 (bt:Nat),.slice a8 (le+1) c8]),(6,.int .u64 (L:Nat)),(7,.pointer (some ⟨b,0,none⟩)),(8,.pointer (some ⟨b,12,none⟩)),(9,.pointer (some ⟨b,12+k,none⟩))] [] 10 0) 1 rfl ?cfall ?cfend
    case cfall=>
     iterate 9
      refine bV.q rfl rfl rfl (fun xs W HF hE K' hK=>?_) ?_
      ·simp only[ckEqs,ckLook,Nat.reduceBEq] at hE;simp only[fillA,fillL,sA,sB,sC,Act.put,hE] at hK ⊢;clear hE;obtain⟨y0,y8,y9,y10⟩:=CK.out W ((Fr.refl (fun _ _=>True) wr).drew.trans HF.out);(try simp only[gA,gB,gC]);go_simp;exact hK.out _ rfl
     refine bV.p rfl rfl (fun xs W HF hA hE K' hK=>?_) ?_
     ·clear hA;simp only[ckEqs,ckLook,Nat.reduceBEq] at hE;simp only[fillA,fillL,sA,sB,sC,Act.put,hE] at hK ⊢;clear hE;obtain⟨y0,y8,y9,y10⟩:=CK.out W ((Fr.refl (fun _ _=>True) wr).drew.trans HF.out);have LA1:=zH (LAST.out W a8 c8);(try simp only[gA,gB,gC]);go_simp;(with_reducible refine LA1.out.mono ?_);rintro e w8 ⟨rfl,f8⟩;exact hK.out _ _ _ rfl f8 rfl
     exact bV.nil
    case cfend=>
     intro xs W hF hA;have HF:=zH hF;have hE:=b_ rfl hA;clear hA hF;simp only[List.map_cons,List.map_nil,ckEqs,ckLook,Nat.reduceBEq] at hE;simp only[fillA,fillL,sA,sB,sC,hE];clear hE;have FW:=zH ((Fr.refl (fun _ _=>True) wr).drew.trans HF.out);have am0:=HL.out.1.1.nxt FW.out k HK.out;have am1:=HL.out.1.1.free FW.out (12+k);refine wpN 10 rfl fun K' hK=>?_
     (try simp only[gA,gB,gC]);go_simp;refine hK.out _ _ ?_;clear hK K';refine wpF ?_;obtain⟨d5,fN⟩:=(HL.out.1.1.tt FW.out).setN k L HK.out;obtain⟨W5,hW5⟩:=zE (W.setCell ⟨b,12+k,none⟩ (.int .u64 (L:Nat)));rw[show dx L=.int .u64 (L:Nat) from rfl,hW5] at d5 fN
     try rw[hW5]
     have D5:=zH d5;have bm0:=d5.mtc (Fr.refl _ W5) k HK.out;have bm1:=d5.free (Fr.refl _ W5) (28+k);obtain⟨d6,fM⟩:=d5.setM k 0 HK.out;obtain⟨W6,hW6⟩:=zE (W5.setCell ⟨b,28+k,none⟩ (.int .u64 0));rw[show dx 0=.int .u64 0 from rfl,hW6] at d6 fM;have D6:=zH d6;have F6:Hid (Fr (fun c _=>c≠b) W2 W6):=((HL.out.2.trans (FW.out.mono fun _ _ _=>trivial)).trans fN).trans fM;clear d5 d6 fN fM am0 am1 hW5;go_wp2
     try rw[hW6]
     go_roundw
     case rel=>refine⟨k+1,by go_num,by have:=HK.out;omega,⟨?_,HL.out.1.2⟩,F6.out⟩;have hh:=D6.out;dsimp only at hh;rw[rp_set HP.out.2.2.2.2.2.1 HK.out,rp_set HP.out.2.2.2.2.2.2 HK.out] at hh;exact hh
     case measure=>simp [intOf];omega
   ·obtain rfl:k=16:=by omega
    have e16:({ n2 with next:=rp 16 L n2.next,mat:=rp 16 0 n2.mat }:Nd)={ n2 with next:=List.replicate 16 L,mat:=List.replicate 16 0 }:=by rw[rp_all HP.out.2.2.2.2.2.1,rp_all HP.out.2.2.2.2.2.2]
    have h7:=HL.out.1;rw[e16] at h7;have H7:=zH h7
    have CK:Hid (∀W,Fr (fun _ _=>True) wr W→W.cell? ⟨b,0,none⟩=some (.int .i64 (mN:Nat))∧W.cell? ⟨b,8,none⟩=some (.int .u64 (bs:Nat))∧W.cell? ⟨b,9,none⟩=some (.int .u64 (bt:Nat))∧W.cell? ⟨b,10,none⟩=some (.slice a8 (le+1) c8)):=fun W f=>by obtain⟨y0,y6,y8,y9,y10⟩:=CN.out wr W _ _ HL.out.1 f;exact⟨y0,y8,y9,by rw[y10,HP.out.2.2.2.2.1]⟩
    have hmI:((mN:Nat):Int)<16:=by have:=HQ.out.2.2.2.2.2.1;omega
    clear h7 e16;go_wp2_with fail
    refine wpR [(48,0),(49,1),(50,2),(51,3),(52,4),(53,5),(54,6),(55,7),(56,8),(57,9),(58,10),(59,11),(60,12)] [(0,[]),(1,[]),(2,[1]),(3,[2]),(4,[3]),(5,[]),(6,[5]),(7,[6]),(8,[7]),(10,[0]),(11,[10]),(12,[4,11]),(9,[8])] (ckR [(0,.pointer (some ⟨b,0,none⟩)),(1,.pointer (some ⟨b,0,none⟩)),(2,.pointer (some ⟨b,0,none⟩)),(3,.pointer (some ⟨b,0,none⟩)),(4,.int .i64 (mN:Nat)),(5,.pointer (some ⟨b,0,none⟩)),(6,.pointer (some ⟨b,0,none⟩)),(7,.pointer (some ⟨b,8,none⟩)),(8,.agg #[.int .u64 (bs:Nat),.int .u64 (bt:Nat),.slice a8 (le+1) c8]),(9,.int .u64 (L:Nat)),(10,.pointer (some ⟨b,0,none⟩)),(11,.pointer (some ⟨b,28,none⟩)),(12,.pointer (some ⟨b,28+mN,none⟩))] [] 13 0) 1 rfl ?cfall ?cfend
    case cfall=>
     iterate 12
      refine bV.q rfl rfl rfl (fun xs W HF hE K' hK=>?_) ?_
      ·simp only[ckEqs,ckLook,Nat.reduceBEq] at hE;simp only[fillA,fillL,sA,sB,sC,Act.put,hE] at hK ⊢;clear hE;obtain⟨y0,y8,y9,y10⟩:=CK.out W ((Fr.refl (fun _ _=>True) wr).drew.trans HF.out);(try simp only[gA,gB,gC]);go_simp;exact hK.out _ rfl
     refine bV.p rfl rfl (fun xs W HF hA hE K' hK=>?_) ?_
     ·clear hA;simp only[ckEqs,ckLook,Nat.reduceBEq] at hE;simp only[fillA,fillL,sA,sB,sC,Act.put,hE] at hK ⊢;clear hE;obtain⟨y0,y8,y9,y10⟩:=CK.out W ((Fr.refl (fun _ _=>True) wr).drew.trans HF.out);have LA1:=zH (LAST.out W a8 c8);(try simp only[gA,gB,gC]);go_simp;(with_reducible refine LA1.out.mono ?_);rintro e w8 ⟨rfl,f8⟩;exact hK.out _ _ _ rfl f8 rfl
     exact bV.nil
    case cfend=>
     intro xs W hF hA;have HF:=zH hF;have hE:=b_ rfl hA;clear hA hF;simp only[List.map_cons,List.map_nil,ckEqs,ckLook,Nat.reduceBEq] at hE;simp only[fillA,fillL,sA,sB,sC,hE];clear hE;have FW:=zH ((Fr.refl (fun _ _=>True) wr).drew.trans HF.out);have am0:=H7.out.1.mtc FW.out mN HQ.out.2.2.2.2.2.1;have am1:=H7.out.1.free FW.out (28+mN);refine wpN 13 rfl fun K' hK=>?_
     (try simp only[gA,gB,gC]);go_simp;refine hK.out _ _ ?_;clear hK K';refine wpF ?_;obtain⟨d5,fN⟩:=(H7.out.1.tt FW.out).setM mN L HQ.out.2.2.2.2.2.1;obtain⟨W5,hW5⟩:=zE (W.setCell ⟨b,28+mN,none⟩ (.int .u64 (L:Nat)));rw[show dx L=.int .u64 (L:Nat) from rfl,hW5] at d5 fN
     try rw[hW5]
     have D5:=zH d5;have F5:Hid (Fr (fun c _=>c≠b) w W5):=(F3.out.trans (HL.out.2.trans (FW.out.mono fun _ _ _=>trivial))).trans fN;clear d5 fN am0 am1 hW5;go_wp2;go_end0
     have e:({ n2 with next:=List.replicate 16 L,mat:=(List.replicate 16 0).set mN L }:Nd)=n.lead:=by rw[←HN2.out,←HN1.out];unfold Nd.lead;rw[HQ.out.2.2.2.1,HQ.out.2.2.2.2.1,HQ.out.2.2.1];rfl
     exact⟨q2,rfl,e▸D5.out,F5.out⟩
end
section
variable {X:Nat→Prop} {w w':World} {b:Nat} {n n':Nd} {q q':DV}
theorem Cj [Old] (h:DNs X w b n q) (hc:n.conf.length≤1000) (hnx:∀y∈n.next,y<18446744073709551616) (hl:n.log.last+1<18446744073709551616) (hle:n.log.es.length≤900000):
 Calls Tryz.prog 19 #[.pointer (some ⟨b,0,none⟩)] w fun e w'=>jj X w n.beat e w':=by
 have OC:=zH (lJ h hc);have hol:n.others.length≤1000:=Nat.le_trans (List.length_filter_le _ _) hc;have TO:=zH (fun W (f:Fr (fun _ _=>True) w W) x=>j1 (h.tt f) x hnx hl hle);have OUT:Hid (n.beat=n.others.flatMap n.sendTo):=rfl;obtain⟨ot,hot⟩:=zE n.others;rw[hot] at OC hol OUT;have HX:Hid (∀c,X c→c<w.heap.size):=h.hx;have HNEW:Hid (∀{c},w.heap.size≤c→¬Old.o c):=h.new;clear h hot hc hnx hl hle;go_enter Tryz.func19,Tryz.ntmps19
 go_wp2_with fail
 (with_reducible refine OC.out.mono ?_);rintro e w2 ⟨⟨go,ko,rfl,ro⟩,f2⟩;have F2:=zH f2;have RO2:=zH ro.ints;have ROW2:=zH ro;have O0:Hid (w2.ownsRow w.heap.size 32 10 (.slice none 0 0) ([]:List MV).length (([]:List MV).flatMap encM)):=⟨rfl,.inl ⟨rfl,rfl⟩⟩
 clear ro f2 OC;go_wp2;go_loopw [3,5] (fun o i wr=>∃(k:Nat) (g:Option Addr) (l c:Nat) (T:List MV),i=.int .i64 (k:Nat)∧k≤ot.length∧o=.slice g l c∧l≤k∧Hid (T.map MV.ms=(ot.take k).flatMap n.sendTo)∧Hid (T.length=l)∧Hid (wr.ownsRow w.heap.size 32 10 (.slice g l c) T.length (T.flatMap encM))∧Hid (∀m∈T,MsAt X wr m)∧Hid (Fr KI w2 wr)∧Hid (Fr (fun _ _=>True) w wr)) (fun _ i _=>ot.length-(intOf i).toNat)
 case atStart=>exact⟨0,none,0,0,[],rfl,Nat.zero_le _,rfl,Nat.zero_le _,rfl,rfl,O0.out,(fun m hm=>by cases hm),Fr.refl _ _,F2.out⟩
 case round=>
  obtain⟨k,g,l,c,T,rfl,hk,rfl,hlk,HT,HL,HO,HM,HF2,HFW⟩:=hrel;by_cases hlt:k<ot.length
  ·have hltI:(k:Int)<(ot.length:Int):=by omega
   obtain⟨bo,oo,rfl⟩:=RO2.out.addr (by omega);have hcell:=RO2.out.cell hlt;obtain⟨x,hx⟩:=zE (ot[k]);rw[hx] at hcell
   have u0:=HF2.out.cell (p:=⟨bo,oo+k,none⟩) (fun o ho=>by obtain⟨cur,hc⟩:=bw ROW2.out (c:=bo) rfl;have hc':w2.heap[bo]? = some o:=ho;rw[hc] at hc';cases hc';exact⟨_,_,rfl⟩) hcell
   have TO1:=zH (TO.out wr HFW.out x)
   have HS:Hid ((ot.take (k+1)).flatMap n.sendTo=(ot.take k).flatMap n.sendTo++n.sendTo x):=by show _=_;rw[List.take_succ_eq_append_getElem hlt,List.flatMap_append,hx];simp
   have HS1:Hid ((n.sendTo x).length≤1):=sY n x;clear hx hcell;go_wp2_with fail
   (with_reducible refine TO1.out.mono ?_);rintro e w3 ⟨⟨v3,mvs,rfl,o3,e3⟩,f3⟩;have O3:=zH o3;have E3:=zH e3;have F3:=zH f3;have FW3:=zH (HFW.out.trans f3);have OW3:Hid (w3.ownsRow w.heap.size 32 10 (.slice g l c) T.length (T.flatMap encM)):=bY HO.out f3 fun _ _ _ _=>trivial
   have hml:mvs.length≤1:=by have:=HS1.out;rw[←e3,List.length_map] at this;exact this
   obtain⟨M,hM⟩:=zE mvs.length;have HL3:Hid ((T++mvs).length=l+M):=by show _=_;rw[List.length_append,HL.out,hM]
   have RW3:=zH o3.rows;rw[hM] at hml;have hl1:l+M≤1000000:=by omega
   obtain⟨ga,na,ca,hv3,_⟩:∃ga na ca,v3=.slice ga na ca∧True:=by
    rcases o3.row.2 with⟨e,_⟩ | ⟨g,cap,cur,e,_⟩
    ·exact⟨_,_,_,e,trivial⟩
    ·exact⟨_,_,_,e,trivial⟩
   subst hv3;clear o3 e3 f3 TO1 u0 hM;go_wp2_with (at_builtin;refine dX w w3 FW3 rfl _ _ rfl (.slice g l c) T rfl OW3 (.slice ga na ca) mvs rfl RW3 _ rfl (l+M) HL3 hl1 ?_)
   intro g5 c5 W5 O5 F5 G5 N5;go_wp2;go_roundw
   case rel=>
    have htag:∀cb,(Value.slice g l c).ownBlock=some cb→∃cur,w3.heap[cb]? = some (.cells cur 32 (0,0)):=fun cb e=>bw OW3.out e
    have ki5:Fr KI w3 W5:=G5.out.monoH fun i o hi hk e=>by obtain⟨cur,hc⟩:=htag i e;rw[hc] at hi;cases hi;obtain⟨cs,fz,e⟩:=hk;cases e
    refine⟨k+1,g5,l+M,c5,T++mvs,by go_num,by omega,rfl,by omega,?_,HL3.out,?_,fun m hm=>?_,(HF2.out.trans (F3.out.mono fun _ _ _=>trivial)).trans ki5,F5.out⟩
    ·show _=_;rw[List.map_append,HT.out,E3.out,HS.out]
    ·show World.ownsRow _ _ _ _ _ _ _;rw[HL3.out,List.flatMap_append];exact O5.out
    ·refine MsAt.keep (w:=w3) ?_ G5.out ?_
     ·rcases List.mem_append.1 hm with hm | hm
      ·exact(HM.out m hm).tt F3.out
      ·exact O3.out.at' m hm
     ·intro i o hi hr e;obtain⟨cur,hc⟩:=htag i e;rw[hc] at hi;cases hi;exact hr.ne (HNEW.out (dV (v:=.slice g l c) OW3.out i e)) rfl (by decide)
   case measure=>simp [intOf];omega
  ·have hge:¬(k:Int)<(ot.length:Int):=by omega
   have HTT:Hid (T.map MV.ms=n.beat):=by show _=_;rw[HT.out,OUT.out,List.take_of_length_le (by omega)]
   go_wp2;go_ret;refine⟨⟨_,T,rfl,⟨HO.out,fun cb e hc=>?_,HM.out⟩,HTT.out⟩,HFW.out⟩;have:=HX.out cb hc;have:=dV HO.out cb e;omega
end
section
variable {X:Nat→Prop} {w w':World} {b:Nat} {n n':Nd} {q q':DV}
theorem MY [Old] {W0:World} {n1:Nd} {q1:DV} {r:Nd×List Ms} (h:DNs X W0 b n1 q1) (f0:Fr (fun c _=>c≠b) w W0) (hb:b<w.heap.size) (kd:Int) (t0:Nat) (hr:r=(n1,n1.toAll { zMs with kind:=kd,tm:=t0,index:=n1.log.last,prev:=n1.log.lastT })) (hc:n1.conf.length≤1000) (hl:n1.log.last+1<18446744073709551616) (hle:n1.log.es.length≤900000) (u1 u2 u3 u4 u5 u8 u9 u10 u11 u12 u13 u14 u15 u16 u17 u18 u19 u20 u21 u22 u23 u24 u25 u26 u27 u28 u29 u30 u31 u32 u33 u34 u35 u36 u37 u38 u39 u40 u41 u42 u43 u44 u45 u46 u47 u48 u49 u50 u51 u52 u53 u54 u55 u56 u57 u58 u59 u60 u61 u62 u63 u64 u65 u66 u67 u68 u69 u70 u71 u72 u73 u74 u75 u76 u77 u78 u79 u80 u81 u82 u83 u84 u85 u86 u87 u88 u89 u90 u91 u92 u93 u94 u95 u96 u97 u98 u99 u100 u101 u102 u103 u104 u105 u106 u107 u108 u109 u110 u111 u112:Value):
 Code.wp Tryz.prog (gX 11 (cW Tryz.f83.body)) (bodyPost Tryz.prog Tryz.f83 fun e w'=>jQ X w b r e w') { tmps:=#[.pointer (some ⟨b,0,none⟩),u1,u2,u3,u4,u5,.int .i64 kd,.int .u64 (t0:Nat),u8,u9,u10,u11,u12,u13,u14,u15,u16,u17,u18,u19,u20,u21,u22,u23,u24,u25,u26,u27,u28,u29,u30,u31,u32,u33,u34,u35,u36,u37,u38,u39,u40,u41,u42,u43,u44,u45,u46,u47,u48,u49,u50,u51,u52,u53,u54,u55,u56,u57,u58,u59,u60,u61,u62,u63,u64,u65,u66,u67,u68,u69,u70,u71,u72,u73,u74,u75,u76,u77,u78,u79,u80,u81,u82,u83,u84,u85,u86,u87,u88,u89,u90,u91,u92,u93,u94,u95,u96,u97,u98,u99,u100,u101,u102,u103,u104,u105,u106,u107,u108,u109,u110,u111,u112],defers:=[] } W0:=by
 have OC:=zH (lJ h hc);have hol:n1.others.length≤1000:=Nat.le_trans (List.length_filter_le _ _) hc;obtain⟨ae,le,ce,hve,hle2,hel,hes,hlg⟩:=h.lg;obtain⟨bs,hbs⟩:=zE n1.log.base;obtain⟨bt,hbt⟩:=zE n1.log.bt;obtain⟨me,hme⟩:=zE n1.me;obtain⟨L,hL⟩:=zE (bs+le);have hL2:n1.log.last=L:=by unfold Lg.last;omega
 obtain⟨lt,hlt9⟩:=zE (lastTE bt q1.es)
 have hlt2:n1.log.lastT=lt:=by have e:=pX n1.log.base n1.log.bt q1.es;rw[hlg,hbt,hlt9] at e;exact e
 have CC:Hid (∀W,Fr (fun _ _=>True) W0 W→W.cell? ⟨b,0,none⟩=some (.int .i64 me)∧W.cell? ⟨b,8,none⟩=some (.int .u64 (bs:Nat))∧W.cell? ⟨b,9,none⟩=some (.int .u64 (bt:Nat))∧W.cell? ⟨b,10,none⟩=some (.slice ae le ce)):=fun W f=>by obtain⟨x0,x1,x2,x3,x4,x5,x6,x7,x8,x9,x10,x11⟩:=h.cells f;exact⟨by rw[x0,hme],by rw[x8,hbs],by rw[x9,hbt],by rw[x10,hve]⟩
 have LAST0:=zH (fun W=>dQ W bs bt ae le ce (by unfold Lg.last at hl;omega));have LT0:=zH (fun W (f:Fr (fun _ _=>True) W0 W)=>qQ W bs bt ae le ce q1.es (hes W f).row (by omega));rw[hL] at LAST0;rw[hlt9] at LT0;dsimp only[vL9] at LAST0 LT0
 have OUT:Hid (r.1=n1∧r.2=n1.others.map (fun x=>({ zMs with kind:=kd,tm:=t0,index:=L,prev:=lt,src:=me,dst:=x }:Ms))):=by rw[hr,hL2,hlt2];refine⟨rfl,?_⟩;show n1.toAll _=_;unfold Nd.toAll;rw[hme]
 obtain⟨ot,hot⟩:=zE n1.others;rw[hot] at OC hol OUT;have H:=zH h;have F0:=zH f0;have HB:=zH hb;have HNEW:Hid (∀{c},W0.heap.size≤c→¬Old.o c):=h.new;clear h hr hot hc hl hle hve hle2 hel hes hlg hbs hbt hme hL hL2 hlt9 hlt2 f0 hb;dsimp only[gX,cW,Tryz.f83];go_wp2_with fail
 (with_reducible refine OC.out.mono ?_);rintro e w2 ⟨⟨go,ko,rfl,ro⟩,f2⟩;have F2:=zH f2;have RO2:=zH ro.ints;have ROW2:=zH ro;have O0:Hid (w2.ownsRow W0.heap.size 32 10 (.slice none 0 0) ([]:List MV).length (([]:List MV).flatMap encM)):=⟨rfl,.inl ⟨rfl,rfl⟩⟩
 obtain⟨ol,hol2⟩:=zE ot.length;rw[hol2];have HOL:=zH hol2;rw[hol2] at hol;clear ro f2 OC hol2;go_wp2;go_loopw [9,11] (fun o i wr=>∃(k:Nat) (g:Option Addr) (l c:Nat) (T:List MV),i=.int .i64 (k:Nat)∧k≤ol∧o=.slice g l c∧l≤k∧Hid (T.map MV.ms=(ot.take k).map (fun x=>({ zMs with kind:=kd,tm:=t0,index:=L,prev:=lt,src:=me,dst:=x }:Ms)))∧Hid (T.length=l)∧Hid (wr.ownsRow W0.heap.size 32 10 (.slice g l c) T.length (T.flatMap encM))∧Hid (∀m∈T,MsAt X wr m)∧Hid (Fr KI w2 wr)∧Hid (Fr (fun _ _=>True) W0 wr)) (fun _ i _=>ol-(intOf i).toNat)
 case atStart=>exact⟨0,none,0,0,[],rfl,Nat.zero_le _,rfl,Nat.zero_le _,rfl,rfl,O0.out,(fun m hm=>by cases hm),Fr.refl _ _,F2.out⟩
 case round=>
  obtain⟨k,g,l,c,T,rfl,hk,rfl,hlk,HT,HL,HO,HM,HF2,HFW⟩:=hrel;by_cases hlt:k<ol
  ·have hltI:(k:Int)<(ol:Int):=by omega
   have hlt':k<ot.length:=by rw[HOL.out];exact hlt
   obtain⟨bo,oo,rfl⟩:=RO2.out.addr (by omega);have hcell:=RO2.out.cell hlt';obtain⟨x,hx⟩:=zE (ot[k]);rw[hx] at hcell
   have CK:Hid (∀W,Fr (fun _ _=>True) wr W→W.cell? ⟨b,0,none⟩=some (.int .i64 me)∧W.cell? ⟨b,8,none⟩=some (.int .u64 (bs:Nat))∧W.cell? ⟨b,9,none⟩=some (.int .u64 (bt:Nat))∧W.cell? ⟨b,10,none⟩=some (.slice ae le ce)∧W.cell? ⟨bo,oo+k,none⟩=some (.int .i64 x)):=fun W f=>by obtain⟨y0,y8,y9,y10⟩:=CC.out W (HFW.out.trans f);refine⟨y0,y8,y9,y10,f.cell (fun _ _=>trivial) (HF2.out.cell (p:=⟨bo,oo+k,none⟩) (fun o ho=>?_) hcell)⟩;obtain⟨cur,hc⟩:=bw ROW2.out (c:=bo) rfl;have hc':w2.heap[bo]? = some o:=ho;rw[hc] at hc';cases hc';exact⟨_,_,rfl⟩
   have LAST:=zH (fun W (f:Fr (fun _ _=>True) wr W)=>LAST0.out W);have LTC:=zH (fun W (f:Fr (fun _ _=>True) wr W)=>LT0.out W (HFW.out.trans f))
   have HS:Hid ((ot.take (k+1)).map (fun x=>({ zMs with kind:=kd,tm:=t0,index:=L,prev:=lt,src:=me,dst:=x }:Ms))=(ot.take k).map (fun x=>({ zMs with kind:=kd,tm:=t0,index:=L,prev:=lt,src:=me,dst:=x }:Ms))++[{ zMs with kind:=kd,tm:=t0,index:=L,prev:=lt,src:=me,dst:=x }]):=by show _=_;rw[List.take_succ_eq_append_getElem hlt',List.map_append,hx];rfl
   have HL3:Hid ((T++[(⟨kd,me,x,t0,L,lt,0,false,none,0,[],none,0,[]⟩:MV)]).length=l+1):=by show _=_;rw[List.length_append,HL.out];rfl
   have hl1:l+1≤1000000:=by omega
   have HKO:=zH hlt;clear hx hcell hlt' hlt;go_wp2_with fail
   refine wpR [(88,0),(89,1),(90,2),(91,3),(92,4),(93,5),(94,6),(95,7),(96,8),(97,9),(98,10),(99,11),(100,12),(101,13),(102,14),(103,15),(104,16),(105,17),(106,18),(107,19),(108,20),(109,21),(110,22)] [(0,[]),(1,[]),(2,[]),(3,[2]),(4,[3]),(5,[4]),(6,[]),(7,[]),(8,[6,7]),(9,[8]),(10,[]),(11,[]),(12,[11]),(13,[12]),(14,[13]),(16,[]),(17,[16]),(18,[17]),(19,[18]),(21,[1,5,9,10,15,20]),(15,[14]),(20,[19]),(22,[21])] (ckR [(0,.slice g l c),(1,.int .i64 kd),(2,.pointer (some ⟨b,0,none⟩)),(3,.pointer (some ⟨b,0,none⟩)),(4,.pointer (some ⟨b,0,none⟩)),(5,.int .i64 me),(6,.slice (some ⟨bo,oo,none⟩) ol ko),(7,.int .i64 (k:Nat)),(8,.pointer (some ⟨bo,oo+k,none⟩)),(9,.int .i64 x),(10,.int .u64 (t0:Nat)),(11,.pointer (some ⟨b,0,none⟩)),(12,.pointer (some ⟨b,0,none⟩)),(13,.pointer (some ⟨b,8,none⟩)),(14,.agg #[.int .u64 (bs:Nat),.int .u64 (bt:Nat),.slice ae le ce]),(15,.int .u64 (L:Nat)),(16,.pointer (some ⟨b,0,none⟩)),(17,.pointer (some ⟨b,0,none⟩)),(18,.pointer (some ⟨b,8,none⟩)),(19,.agg #[.int .u64 (bs:Nat),.int .u64 (bt:Nat),.slice ae le ce]),(20,.int .u64 (lt:Nat)),(21,.agg #[.int .i64 kd,.int .i64 me,.int .i64 x,.int .u64 (t0:Nat),.int .u64 (L:Nat),.int .u64 (lt:Nat),.int .u64 0,.bool false,.slice none 0 0,.slice none 0 0])] [(22,⟨fun v W=>∃g,v=.slice (some ⟨g,0,none⟩) 1 1∧W.heap[g]? = some (.cells (cM (⟨kd,me,x,t0,L,lt,0,false,none,0,[],none,0,[]⟩:MV)) 32 (0,0))∧wr.heap.size≤g,fun v W W' h hf=>by obtain⟨g,h1,h2,h3⟩:=h;exact⟨g,h1,hf.keep _ _ h2 trivial,h3⟩⟩)] 23 0) 2 rfl ?cfall ?cfend
   case cfall=>
    iterate 20
     refine bV.q rfl rfl rfl (fun xs W HF hE K' hK=>?_) ?_
     ·simp only[ckEqs,ckLook,Nat.reduceBEq] at hE;simp only[fillA,fillL,sA,sB,sC,Act.put,hE] at hK ⊢;clear hE;obtain⟨y0,y8,y9,y10,u0⟩:=CK.out W ((Fr.refl (fun _ _=>True) wr).drew.trans HF.out);(try simp only[gA,gB,gC]);go_simp;exact hK.out _ rfl
    refine bV.p rfl rfl (fun xs W HF hA hE K' hK=>?_) ?_
    ·clear hA;simp only[ckEqs,ckLook,Nat.reduceBEq] at hE;simp only[fillA,fillL,sA,sB,sC,Act.put,hE] at hK ⊢;clear hE;obtain⟨y0,y8,y9,y10,u0⟩:=CK.out W ((Fr.refl (fun _ _=>True) wr).drew.trans HF.out);have LA1:=zH (LAST.out W ((Fr.refl (fun _ _=>True) wr).drew.trans HF.out));(try simp only[gA,gB,gC]);go_simp;(with_reducible refine LA1.out.mono ?_);rintro e w8 ⟨rfl,f8⟩;exact hK.out _ _ _ rfl f8 rfl
    refine bV.p rfl rfl (fun xs W HF hA hE K' hK=>?_) ?_
    ·clear hA;simp only[ckEqs,ckLook,Nat.reduceBEq] at hE;simp only[fillA,fillL,sA,sB,sC,Act.put,hE] at hK ⊢;clear hE;obtain⟨y0,y8,y9,y10,u0⟩:=CK.out W ((Fr.refl (fun _ _=>True) wr).drew.trans HF.out);have LA1:=zH (LTC.out W ((Fr.refl (fun _ _=>True) wr).drew.trans HF.out));(try simp only[gA,gB,gC]);go_simp;(with_reducible refine LA1.out.mono ?_);rintro e w8 ⟨rfl,f8⟩;exact hK.out _ _ _ rfl f8 rfl
    refine bV.p rfl rfl (fun xs W HF hA hE K' hK=>?_) ?_
    ·clear hA;simp only[ckEqs,ckLook,Nat.reduceBEq] at hE;simp only[fillA,fillL,sA,sB,sC,Act.put,hE] at hK ⊢;clear hE;have SB:Hid (wr.heap.size≤W.heap.size):=((Fr.refl (fun _ _=>True) wr).drew.trans HF.out).size;(try simp only[gA,gB,gC]);go_simp;exact hK.out _ _ _ rfl ((Fr.refl _ _).alloc _) ⟨_,rfl,bX _ _,SB.out⟩
    exact bV.nil
   case cfend=>
    intro xs W hF hA;have HF:=zH hF;have hE:=b_ rfl hA;have h22:=hA (22,[21]) (by decide);clear hA hF;simp only[List.map_cons,List.map_nil,ckEqs,ckLook,Nat.reduceBEq] at hE;simp only[fillA,fillL,sA,sB,sC,hE];clear hE;obtain⟨gm,e22,tg,hgm⟩:=h22;rw[e22];have FW:=zH (HFW.out.trans ((Fr.refl (fun _ _=>True) wr).drew.trans HF.out));have FR:=zH ((Fr.refl (fun _ _=>True) wr).drew.trans HF.out);have OW:Hid (W.ownsRow W0.heap.size 32 10 (.slice g l c) T.length (T.flatMap encM)):=bY HO.out FR.out fun _ _ _ _=>trivial
    have ROW:=zH (xq (m:=(⟨kd,me,x,t0,L,lt,0,false,none,0,[],none,0,[]⟩:MV)) tg);clear tg hgm CK LAST LTC;refine wpN 23 rfl fun K' hK=>?_
    (try simp only[List.getElem_toArray,List.getElem_cons_zero,List.getElem_cons_succ]);refine(iteInduction (motive:=fun t=>t) (fun _=>?_) (fun hn=>absurd rfl hn))
    with_reducible refine fv (K:=fun a w=>K' a w) W0 W FW (.tmp 88) (.tmp 110) ?h1 (.slice g l c) T ?h2 OW (.slice (some ⟨gm,0,none⟩) 1 1) [(⟨kd,me,x,t0,L,lt,0,false,none,0,[],none,0,[]⟩:MV)] ?h3 ROW (T++[(⟨kd,me,x,t0,L,lt,0,false,none,0,[],none,0,[]⟩:MV)]) (zH (show T++[(⟨kd,me,x,t0,L,lt,0,false,none,0,[],none,0,[]⟩:MV)]=T++[(⟨kd,me,x,t0,L,lt,0,false,none,0,[],none,0,[]⟩:MV)] from rfl)) (l+1) HL3 hl1 ?_
    case h1=>rfl
    case h2=>(simp [Act.eval,Act.put,fillA,fillL];done)
    case h3=>(simp [Act.eval,Act.put,fillA,fillL];done)
    intro g5 c5 W5 O5 F5 G5 N5;refine hK.out _ _ ?_;clear hK K';refine wpN 24 rfl fun K' hK=>?_
    (try simp only[gA,gB,gC]);go_simp;refine hK.out _ _ ?_;clear hK K';refine wpF ?_;go_wp2;go_roundw
    case rel=>
     have htag:∀cb,(Value.slice g l c).ownBlock=some cb→∃cur,W.heap[cb]? = some (.cells cur 32 (0,0)):=fun cb e=>bw OW.out e
     have ki5:Fr KI W W5:=G5.out.monoH fun i o hi hk e=>by obtain⟨cur,hc⟩:=htag i e;rw[hc] at hi;cases hi;obtain⟨cs,fz,e⟩:=hk;cases e
     refine⟨k+1,g5,l+1,c5,T++[(⟨kd,me,x,t0,L,lt,0,false,none,0,[],none,0,[]⟩:MV)],by go_num,by have:=HKO.out;omega,rfl,by omega,?_,HL3.out,?_,fun m hm=>?_,(HF2.out.trans (FR.out.mono fun _ _ _=>trivial)).trans ki5,F5.out⟩
     ·show _=_;rw[List.map_append,HT.out,HS.out];rfl
     ·show World.ownsRow _ _ _ _ _ _ _;rw[HL3.out];exact O5.out
     ·refine MsAt.keep (w:=W) ?_ G5.out ?_
      ·rcases List.mem_append.1 hm with hm | hm
       ·exact(HM.out m hm).tt FR.out
       ·rw[List.mem_singleton.1 hm];exact⟨BytesAt.nil _ _,EsAt.nil _ _⟩
      ·intro i o hi hr e;obtain⟨cur,hc⟩:=htag i e;rw[hc] at hi;cases hi;exact hr.ne (HNEW.out (dV (v:=.slice g l c) OW.out i e)) rfl (by decide)
    case measure=>simp [intOf];omega
  ·have hge:¬(k:Int)<(ol:Int):=by omega
   have HTT:Hid (T.map MV.ms=r.2):=by show _=_;rw[HT.out,OUT.out.2,List.take_of_length_le (by rw[HOL.out];omega)]
   go_wp2;go_ret;refine⟨q1,_,T,rfl,OUT.out.1▸H.out.tt HFW.out,F0.out.trans (HFW.out.mono fun _ _ _=>trivial),⟨dy HO.out fun cb e=>Nat.le_trans F0.out.size (dV HO.out cb e),fun cb e hc=>?_,HM.out⟩,HTT.out⟩;have:=H.out.hx cb hc;have:=dV HO.out cb e;omega
end
end Go.Proofs.YtmjccpfchhnfhaaGreat
