/- Texts of the proofs, part 27: what the functions that they reach do, walked; no conditions beyond those that each states. -/
import Derived.Test.YtmjccpfchhnfhaaGreatZk98daae4c7f
import Derived.Test.YtmjccpfchhnfhaaGreatZk5ca664ffe4
set_option linter.unusedVariables false
set_option linter.unusedSimpArgs false
set_option maxRecDepth 100000
set_option maxHeartbeats 8000000
namespace Go.Proofs.YtmjccpfchhnfhaaGreat
open Go.RowKit
theorem k0u {p q:Prop} (k:q) (h:q→p:=by
 obtain⟨me,hme⟩:=zE n.me;obtain⟨tm,htm⟩:=zE n.tm;obtain⟨s,hs⟩:=zE m.src;obtain⟨mt,hmt⟩:=zE m.tm;obtain⟨ix,hixx⟩:=zE m.index;obtain⟨pv,hpv⟩:=zE m.prev;obtain⟨mc,hmc⟩:=zE m.commit;have HL:=zH (And.intro hme (And.intro htm (And.intro hs (And.intro hmt (And.intro hixx (And.intro hpv hmc))))));intro kk0;revert HL;revert hmc;revert mc;revert hpv;revert pv;revert hixx;revert ix;revert hmt;revert mt;revert hs;revert s;revert htm;revert tm;revert hme;revert me;exact kk0):p:=h k
theorem kT8 {p q:Prop} (k:q) (h:q→p:=by
 have TG:=zH tg;have HGW:=zH hgw;have FW:=zH (F1.trans (UD.trans HF));have FW1:=zH (UD.trans HF);obtain⟨m0,hm0⟩:∃m:MV,(⟨6,me,s,tm,ix,0,0,false,none,0,[],none,0,[]⟩:MV)=m:=⟨_,rfl⟩
 obtain⟨W2,hW2',t2,f2⟩:=Jj tg (.int .i64 6) (.int .i64 me) (.int .i64 s) (.int .u64 (tm:Nat)) (.int .u64 (ix:Nat)) (.int .u64 0) (.int .u64 0) (.bool false) (.slice none 0 0) (.slice none 0 0);have T2:Hid (W2.heap[g]? = some (.cells (cM m0) 32 (0,0))):=by rw[←hm0];exact t2
 have F2:=zH f2;intro kk0;revert F2;revert T2;revert f2;revert t2;revert hW2';revert W2;revert hm0;revert m0;revert FW1;revert FW;revert HGW;revert TG;exact kk0):p:=h k
theorem kTM {p q:Prop} (k:q) (h:q→p:=by
 have H3:=zH (H2.tt UQ);have FP3:Hid (Fr (fun c _=>¬P c) w W3):=FP2.trans (UQ.tT);have T3:Hid (W3.heap[g]? = some (.cells (cM m0) 32 (0,0))):=UQ.keep _ _ T2 trivial;have MX3:Hid (W3.heap[g0]? = some (.cells (cM m) 32 (0,0))):=UQ.keep _ _ MX trivial;have MA3:=zH (MA2.tt UQ);have F3S:Hid (w.heap.size≤W3.heap.size):=FP3.size;intro kk0;revert F3S;revert MA3;revert MX3;revert T3;revert FP3;revert H3;exact kk0):p:=h k
theorem ka1 {p q:Prop} (k:q) (h:q→p:=by
 have gl:decide (mt<tm)=false:=by rw[←hmt,←htm];exact decide_eq_false hlt
 obtain⟨n2,hn2⟩:∃x:Nd,{ n.follow m.tm m.src with heard:=true }=x:=⟨_,rfl⟩
 intro kk0;revert hn2;revert n2;revert gl;exact kk0):p:=h k
theorem kl3 {p q:Prop} (k:q) (h:q→p:=by
 have H2:=zH ((H.out.tt FW.out).msg F2.out ⟨_,_,tg⟩ (by have:=bX H.out.top;have:=HGW.out;have:=HG0.out;omega));have HGS:Hid (w.heap.size≤g):=by have:=HGW.out;have:=HG0.out;show _≤_;omega
 have FP2:Hid (Fr (fun c _=>¬P c) w W2):=((FW.out.tT:Fr (fun c _=>¬P c∧c<w.heap.size) w W).trans (F2.out.mono fun c _ h e=>by have:=h.2;have:=HGS.out;omega)).within;have MX:Hid (W2.heap[g0]? = some (.cells (cM m) 32 (0,0))):=F2.out.keep _ _ (FW1.out.keep _ _ X1.out trivial) (by have:=HGW.out;omega);intro kk0;revert MX;revert FP2;revert HGS;revert H2;exact kk0):p:=h k
theorem koS {p q:Prop} (k:q) (h:q→p:=by
 obtain⟨W6,hW6⟩:=zE (kV W5 b [(8,.int .u64 (bs:Nat)),(9,.int .u64 (bt:Nat)),(10,.slice a k c)]);have hW6':((W5.setCell ⟨b,8,none⟩ (.int .u64 (bs:Nat))).setCell ⟨b,9,none⟩ (.int .u64 (bt:Nat))).setCell ⟨b,10,none⟩ (.slice a k c)=W6:=hW6;have f6:Fr (fun c _=>c≠b) W5 W6:=hW6▸b_ b _ W5;intro kk0;revert f6;revert hW6';revert hW6;revert W6;exact kk0):p:=h k
theorem kqa {p q:Prop} (k:q) (h:q→p:=by
 have x8:=(H5.cells (Fr.refl _ W5)).2.2.2.2.2.2.2.2.1;have x9:=(H5.cells (Fr.refl _ W5)).2.2.2.2.2.2.2.2.2.1;have x10:=(H5.cells (Fr.refl _ W5)).2.2.2.2.2.2.2.2.2.2.1;have z8:=H5.free (Fr.refl _ W5) 8;have z9:=H5.free (Fr.refl _ W5) 9;have z10:=H5.free (Fr.refl _ W5) 10;intro kk0;revert z10;revert z9;revert z8;revert x10;revert x9;revert x8;exact kk0):p:=h k
theorem kvK {p q:Prop} (k:q) (h:q→p:=by
 have y6:W2.cell? ⟨b,6,none⟩=some (.int .u64 (tm:Nat)):=by rw[←HL.out.2.1];exact(H2.out.cells (Fr.refl _ W2)).2.2.2.2.2.2.1
 have v3:=(VH W2 MX).2.1;intro kk0;revert v3;revert y6;exact kk0):p:=h k
theorem kwc {p q:Prop} (k:q) (h:q→p:=by
 have VH:=zH V0;have VC:Hid (∀W,FT W1 W→W.cell? ⟨g0,1,none⟩=some (.int .i64 s)∧W.cell? ⟨g0,3,none⟩=some (.int .u64 (mt:Nat))∧W.cell? ⟨g0,4,none⟩=some (.int .u64 (ix:Nat))∧W.cell? ⟨g0,5,none⟩=some (.int .u64 (pv:Nat))∧W.cell? ⟨g0,6,none⟩=some (.int .u64 (mc:Nat))∧W.cell? ⟨g0,9,none⟩=some (.slice m.ea m.es.length m.ec)):=fun W f=>V0 W (f.keep _ _ X1 trivial)
 have UD:Hid (FT W1 W1.drew):=(Fr.refl _ _).drew;have v0:W1.cell? ⟨g0,0,none⟩=some (.int .i64 5):=by rw[←hk5];exact(bq X1.out).1
 intro kk0;revert v0;revert UD;revert VC;revert VH;exact kk0):p:=h k
theorem kyW {p q:Prop} (k:q) (h:q→p:=by
 have WE:Hid (IntKind.u64.wrap ((ix:Int)+IntKind.u64.wrap (m.es.length:Int))=((en:Nat):Int)∧IntKind.u64.wrap (m.es.length:Int)=((m.es.length:Nat):Int)∧IntKind.u64.wrap ((ix:Int)+(m.es.length:Int))=((en:Nat):Int)):=⟨by rw[IntKind.wrap_u64,IntKind.wrap_u64];omega,by rw[IntKind.wrap_u64];omega,by rw[IntKind.wrap_u64];omega⟩
 intro kk0;revert WE;exact kk0):p:=h k
theorem m53 {p:Prop} (h:p:=by
 clear C BAD GOOD CC v3 v4 v5 v6;go_wp2_with fail
 go_quiet (fail)
 have U:Hid (Fr (fun _ _=>True) w2 (w2.drewN nq)):=(Fr.refl _ w2).drewN nq;go_wp2;go_ret;rw[OUT.out];exact⟨rfl,F1.out.trans (F2.out.trans U.out)⟩):p:=h
theorem m7Y {p:Prop} (h:p:=by
 obtain⟨v1,v3,v4,v5,v6,v9⟩:=VH W ((UE.trans HF).keep _ _ MX4 trivial);exact mD8):p:=h
theorem mEM {p:Prop} (h:p:=by
 skip
 go_simp;(with_reducible refine AP1.out.mono ?_);rintro e w8 ⟨⟨a,k,c,f,zs,rfl,hz,hzl⟩,f8⟩;exact hK _ _ _ rfl f8 ⟨a,k,c,f,zs,rfl,hz,hzl⟩):p:=h
theorem mFZ {p:Prop} (h:p:=by
 rw[E.out];unfold Nd.taken;rw[hn2p.1,if_pos (show (n.log.append m.ms.index m.ms.prev m.ms.es).2=60 from hcdd.trans gc),htm2,hn2p.2.1,hme];show (n2,[{ zMs with kind:=6,src:=me,dst:=m.src,index:=m.index,tm:=tm2,prev:=n.log.hint m.index }])=_;rw[hhi,hs,hixx]):p:=h
theorem mGS {p:Prop} (h:p:=by
 go_wp2;go_ret;rw[OUT.out];exact⟨rfl,F1.out.trans (F2.out.trans U.out)⟩):p:=h
theorem mNw {p:Prop} (h:p:=by
 show n.onAppend m.ms=_;unfold Nd.onAppend;rw[if_neg (fun e=>e hk5),if_neg (show ¬m.ms.tm<n.tm from hlt),←hn2];rfl):p:=h
theorem mSS {p:Prop} (h:p:=by
 obtain⟨x0,x1,x2,x3,x4,x5,x6,x7,x8,x9,x10,x11,x12,x13⟩:=h.cells (F1.trans f);exact⟨by rw[x0,hme],by rw[x6,htm]⟩):p:=h
theorem mSu {p:Prop} (h:p:=by
 intro xs W HF hA K' hK;have h11:=hA 11 (by decide);clear hA;obtain⟨a,k,c,f,zs,e11,hz,hzl⟩:=h11;rw[e11] at hK ⊢;clear e11
 skip
 go_simp;exact hK _ _ _ rfl (Fr.refl _ _) ⟨a,k,c,zs,rfl,hz,hzl⟩):p:=h
theorem mSv {p:Prop} (h:p:=by
 intro xs W HF hA K' hK;have h10:=hA 10 (by decide);clear hA;obtain⟨a,k,c,f,zs,e10,hz,hzl⟩:=h10;rw[e10] at hK ⊢;clear e10
 skip
 go_simp;exact hK _ _ _ rfl (Fr.refl _ _) ⟨a,k,c,f,zs,rfl,hz,hzl⟩):p:=h
theorem mTS {p:Prop} (h:p:=by
 have c1:(c==0)=false:=by simpa using hc0
 have OUT:Hid (r=c):=EQ.out.trans (if_pos hc0);clear EQ CC;go_wp2;go_ret;rw[OUT.out];exact⟨rfl,F1.out.trans F2.out⟩):p:=h
theorem mZ7 {p:Prop} (h:p:=by
 intro xs W HF hA K' hK;have h11:=hA 11 (by decide);clear hA;obtain⟨a,k,c,f,zs,e11,hz,hzl⟩:=h11;rw[e11] at hK ⊢;clear e11
 skip
 go_simp;exact hK _ _ _ rfl (Fr.refl _ _) ⟨f,rfl⟩):p:=h
theorem maS {p:Prop} (h:p:=by
 show n.onAppend m.ms=_;unfold Nd.onAppend;rw[if_neg (fun e=>e hk5),if_pos (show m.ms.tm<n.tm from hlt)];rw[←hme,←hs,←hixx,←htm];rfl):p:=h
theorem maz {p:Prop} (h:p:=by
 intro xs W HF hA K' hK;have h11:=hA 11 (by decide);clear hA;obtain⟨a,k,c,f,zs,e11,hz,hzl⟩:=h11;rw[e11] at hK ⊢;clear e11
 skip
 go_simp;exact hK _ _ _ rfl (Fr.refl _ _) rfl):p:=h
theorem mbl {p:Prop} (h:p:=by
 obtain⟨v0,v1,v2,v3,v4,v5,v6,v7,v8,v9⟩:=bq (f.keep _ _ X1.out trivial);exact⟨bQ ((F1.out.trans f).keep _ _ hr trivial) rfl,by rw[(h.cells (F1.out.trans f)).1,hme],by rw[v0,hkd],by rw[v1,hs],by rw[v2,hd],by rw[v3,ht3],by rw[v4,ht4],by rw[v5,ht5],by rw[v6,ht6]⟩):p:=h
theorem mil {p:Prop} (h:p:=by
 have:=H4.out.ev.tt f;have e:q.noYes.ve=.slice ae le ce:=HVE.1;rw[e] at this;exact this):p:=h
theorem mjc {p:Prop} (h:p:=by
 show r=_;rw[←hrr];unfold Nd.right;rw[hc,show m.ms.dst=d from hd,show m.ms.src=s from hs,show m.ms.kind=kd from hkd,show m.ms.tm=t3 from ht3,show m.ms.index=t4 from ht4,show m.ms.prev=t5 from ht5,show m.ms.commit=t6 from ht6,hme]):p:=h
theorem mkq {p:Prop} (h:p:=by
 have e1':d=me:=by simpa using e1
 have e2':s≠me:=by simpa using e2
 exact fun e=>e.elim (fun e=>e e1') e2'):p:=h
theorem moh {p:Prop} (h:p:=by
 obtain⟨v0,v1,v2,v3,v4,v5,v6,v7,v8,v9⟩:=bq t;exact⟨by rw[v1,hs],by rw[v3,hmt],by rw[v4,hixx],by rw[v5,hpv],by rw[v6,hmc],v9⟩):p:=h
theorem mtG {p:Prop} (h:p:=by
 iterate 13
  refine bY.q rfl rfl rfl (kQQ ?_) ?_
  ·intro xs W HF K' hK;obtain⟨y0,y6⟩:=CC W (UD.trans HF);obtain⟨v1,v3,v4,v5,v6,v9⟩:=VC W (UD.trans HF);exact mD8
 refine bY.p rfl rfl (kPP ?_) ?_
 ·intro xs W HF K' hK;have SB:Hid (g0<W.heap.size):=bX ((UD.trans HF).keep _ _ X1 trivial);exact mWB
 exact m36):p:=h
theorem mtV {p:Prop} (h:p:=by
 refine FlAll.cons rfl (fun xs W hF hA=>?_) ?_
 ·have HF:=zH hF;have h11:=hA (11,[10]) (by decide) (by decide);clear hA hF;simp only[fillA,fillL,sA,sB,sC];obtain⟨a,k,c,f,zs,e11,hz,hzl⟩:=h11;rw[e11];refine⟨.int .u64 f,Or.inl ⟨by rfl,fun w=>?_⟩,⟨f,rfl⟩⟩
  skip
  go_simp
 refine FlAll.cons rfl (fun xs W hF hA=>?_) ?_
 ·have HF:=zH hF;have h11:=hA (11,[10]) (by decide) (by decide);clear hA hF;simp only[fillA,fillL,sA,sB,sC];obtain⟨a,k,c,f,zs,e11,hz,hzl⟩:=h11;rw[e11];refine⟨.int .i64 cd,Or.inl ⟨by rfl,fun w=>?_⟩,rfl⟩
  skip
  go_simp
 exact FlAll.nil):p:=h
section
variable {X P:Nat→Prop} {w w':World} {b:Nat} {n n':Nd} {q q':NV}
theorem Nd.follow_log (n:Nd) (t:Nat) (l:Int):(n.follow t l).log=n.log∧(n.follow t l).me=n.me∧(n.follow t l).commit=n.commit:=by
 unfold Nd.follow;split <;> exact⟨rfl,rfl,rfl⟩
theorem pV [Old] (h:PNs X P w b n q) (m:MV) (hm:MsAt X w m) (hk5:m.kind≠5) (hix:m.index+m.es.length+1<18446744073709551616) (hes:m.es.length≤900000) (hl:n.log.last+1<18446744073709551616) (hle:n.log.es.length≤900000):
 Calls Tryz.prog 10 #[.pointer (some ⟨b,0,none⟩),.agg (cM m)] w fun e w'=>jq X P w b (n.onAppend m.ms) e w':=by
 refine kRB ?_;intro W1 hW1 F1 g0 hg0 X1 H HG0 gb;obtain⟨k,hk⟩:=zE m.kind;refine kM5 ?_;intro v0;have k5:(k==5)=false:=by rw[←hk];simpa using hk5
 have k5':(k != 5)=true:=by rw[bne,k5];rfl
 have E:Hid (n.onAppend m.ms=(n,[])):=if_pos hk5;unfold cM at hW1 ⊢;clear h hk hk5 hm hix hes hl hle;go_enter Tryz.func10,Tryz.ntmps10
 go_wp2
 try rw[hW1]
 go_ret;rw[E.out];exact⟨X,P,q,_,[],rfl,H.tt F1,.tt F1 H.px,OwnMs.nil _ _ _,rfl⟩
theorem pK [Old] (h:PNs X P w b n q) (m:MV) (hm:MsAt X w m) (hk5:m.kind=5) (hlt:m.tm<n.tm) (hix:m.index+m.es.length+1<18446744073709551616) (hes:m.es.length≤900000) (hl:n.log.last+1<18446744073709551616) (hle:n.log.es.length≤900000):
 Calls Tryz.prog 10 #[.pointer (some ⟨b,0,none⟩),.agg (cM m)] w fun e w'=>jq X P w b (n.onAppend m.ms) e w':=by
 refine kRB ?_;intro W1 hW1 F1 g0 hg0 X1 H HG0 gb;refine k0u ?_;intro me hme tm htm s hs mt hmt ix hixx pv hpv mc hmc HL
 have CC:Hid (∀W,FT W1 W→W.cell? ⟨b,0,none⟩=some (.int .i64 me)∧W.cell? ⟨b,6,none⟩=some (.int .u64 (tm:Nat))):=fun W f=>by exact mSS
 have V0:∀W:World,W.heap[g0]? = some (.cells (cM m) 32 (0,0))→W.cell? ⟨g0,1,none⟩=some (.int .i64 s)∧W.cell? ⟨g0,3,none⟩=some (.int .u64 (mt:Nat))∧W.cell? ⟨g0,4,none⟩=some (.int .u64 (ix:Nat))∧W.cell? ⟨g0,5,none⟩=some (.int .u64 (pv:Nat))∧W.cell? ⟨g0,6,none⟩=some (.int .u64 (mc:Nat))∧W.cell? ⟨g0,9,none⟩=some (.slice m.ea m.es.length m.ec):=fun W t=>by exact moh
 refine kwc ?_;intro VH VC UD v0;have gl:decide (mt<tm)=true:=by rw[←hmt,←htm];exact decide_eq_true hlt
 have E:Hid (n.onAppend m.ms=(n,[{ zMs with kind:=6,src:=me,dst:=s,index:=ix,tm:=tm }])):=by exact maS
 have HM:=zH hm;unfold cM at hW1 ⊢;clear hk5 hlt hix hes hl hle h hme htm hs hmt hixx hpv hmc hm V0;go_enter Tryz.func10,Tryz.ntmps10
 go_wp2_with fail
 try rw[hW1]
 try rw[HG0.out]
 clear hW1 hg0 v0;refine wpR [(12,0),(13,1),(14,2),(15,3),(16,4),(17,5),(18,6),(19,7),(20,8),(21,9),(22,10),(23,11),(24,12),(5,13)] [(0,[]),(1,[0]),(2,[1]),(3,[2]),(4,[]),(5,[4]),(6,[]),(7,[6]),(8,[]),(9,[8]),(10,[9]),(11,[10]),(12,[3,5,7,11]),(13,[])] (ckR [(0,.pointer (some ⟨b,0,none⟩)),(1,.pointer (some ⟨b,0,none⟩)),(2,.pointer (some ⟨b,0,none⟩)),(3,.int .i64 me),(4,.pointer (some ⟨g0,1,none⟩)),(5,.int .i64 s),(6,.pointer (some ⟨g0,4,none⟩)),(7,.int .u64 (ix:Nat)),(8,.pointer (some ⟨b,0,none⟩)),(9,.pointer (some ⟨b,0,none⟩)),(10,.pointer (some ⟨b,6,none⟩)),(11,.int .u64 (tm:Nat)),(12,.agg #[.int .i64 6,.int .i64 me,.int .i64 s,.int .u64 (tm:Nat),.int .u64 (ix:Nat),.int .u64 0,.int .u64 0,.bool false,.slice none 0 0,.slice none 0 0])] [(13,⟨fun v W=>∃g,v=.pointer (some ⟨g,0,none⟩)∧g0<g∧W.heap[g]? = some (.cells (cM zMV) 32 (0,0)),fun v W W' h hf=>by obtain⟨g,h1,h2,h3⟩:=h;exact⟨g,h1,h2,hf.keep _ _ h3 trivial⟩⟩)] 14 0) 1 rfl ?cfall ?cfend
 case cfall=>exact mtG
 case cfend=>
  refine kEH ?_;intro xs W HF hA;have h13:=hA (13,[]) (by decide);clear hA;obtain⟨g,e13,hgw,tg⟩:=h13;rw[e13];refine kT8 ?_;intro TG HGW FW FW1 m0 hm0 W2 hW2' t2 f2 T2 F2;have HM0:=zH hm0;clear t2 f2 hm0 hgw;refine kl3 ?_;intro H2 HGS FP2 MX;refine kwD ?_;intro v0 v1 v2 v3 v4 v5 v6 v7 v8 v9 z0 z1 z2 z3 z4 z5 z6 z7 z8 z9;refine wpN 14 rfl fun K' hK=>?_
  skip
  go_simp;refine hK _ _ ?_;clear hK K';refine wpF ?_
  try rw[hW2']
  clear z0 z1 z2 z3 z4 z5 z6 z7 z8 z9 v0 v1 v2 v3 v4 v5 v6 v7 v8 v9 hW2' tg;have MA2:=zH (HM.keep (K:=fun c _=>¬P c) FP2 (fun c o ho hr e=>hr.1 (H.px c e)));obtain⟨WA,hWA⟩:=zE W;rw[hWA] at HF FW FW1 F2 TG;clear hWA;refine kvK ?_;intro y6 v3;go_wp2_with fail
  go_quiet (fail)
  clear y6 v3 gl;have UQ:Hid (FT W2 (W2.drewN nq)):=(Fr.refl _ W2).drewN nq;generalize W2.drewN nq=W3 at UQ ⊢;refine kTM ?_;intro H3 FP3 T3 MX3 MA3 F3S;obtain⟨u0,u1,u2,u3,u4,u5,u6,u7,u8,u9⟩:=bq T3;rw[←HM0.out] at u0 u1 u2 u3 u4 u5 u6 u7 u8 u9;go_wp2;go_ret;rw[E.out];refine⟨X,P,q,_,[⟨6,me,s,tm,ix,0,0,false,none,0,[],none,0,[]⟩],rfl,H3.tt ((Fr.refl _ W3).alloc _),(Aft.of FP3 H.px).tr ((Fr.refl _ W3).alloc _),(OwnMs.one ⟨6,me,s,tm,ix,0,0,false,none,0,[],none,0,[]⟩ H3.hx ⟨BytesAt.nil _ _,EsAt.nil _ _⟩).lo F3S,rfl⟩
theorem pJ [Old] (h:PNs X P w b n q) (m:MV) (hm:MsAt X w m) (hk5:m.kind=5) (hlt:¬m.tm<n.tm) (hix:m.index+m.es.length+1<18446744073709551616) (hes:m.es.length≤900000) (hl:n.log.last+1<18446744073709551616) (hle:n.log.es.length≤900000):
 Calls Tryz.prog 10 #[.pointer (some ⟨b,0,none⟩),.agg (cM m)] w fun e w'=>jq X P w b (n.onAppend m.ms) e w':=by
 refine kRB ?_;intro W1 hW1 F1 g0 hg0 X1 H HG0 gb;refine k0u ?_;intro me hme tm htm s hs mt hmt ix hixx pv hpv mc hmc HL
 have CC:Hid (∀W,FT W1 W→W.cell? ⟨b,0,none⟩=some (.int .i64 me)∧W.cell? ⟨b,6,none⟩=some (.int .u64 (tm:Nat))):=fun W f=>by exact mSS
 have V0:∀W:World,W.heap[g0]? = some (.cells (cM m) 32 (0,0))→W.cell? ⟨g0,1,none⟩=some (.int .i64 s)∧W.cell? ⟨g0,3,none⟩=some (.int .u64 (mt:Nat))∧W.cell? ⟨g0,4,none⟩=some (.int .u64 (ix:Nat))∧W.cell? ⟨g0,5,none⟩=some (.int .u64 (pv:Nat))∧W.cell? ⟨g0,6,none⟩=some (.int .u64 (mc:Nat))∧W.cell? ⟨g0,9,none⟩=some (.slice m.ea m.es.length m.ec):=fun W t=>by exact moh
 refine kwc ?_;intro VH VC UD v0;refine ka1 ?_;intro gl n2 hn2
 have E:Hid (n.onAppend m.ms=n2.taken m.ms):=by exact mNw
 have hn2p:n2.log=n.log∧n2.me=n.me∧n2.commit=n.commit:=by rw[←hn2];exact Nd.follow_log n m.tm m.src
 refine kr8 ?_;intro bs hbs bt hbt;obtain⟨tm2,htm2⟩:=zE n2.tm;obtain⟨cm,hcm⟩:=zE n.commit;obtain⟨cd,hcdd⟩:=zE ((n.log.append m.index m.prev (m.es.map EV.en)).2);obtain⟨LA,hLA⟩:=zE ((n.log.append m.index m.prev (m.es.map EV.en)).1);obtain⟨ae,le,ce,hve,hlel,hesl,hlg⟩:=h.lg;refine kJf ?_;intro hl2;have APC:=zH (fun W (hx:EsAt X W (.slice ae le ce) q.es) (hy:EsAt X W (.slice m.ea m.es.length m.ec) m.es) (hX:∀c,X c→c<W.heap.size)=>vX W bs bt ix pv ae le ce q.es hx m.ea m.es.length m.ec m.es hy (by omega) (by omega) (by omega) hes hX);rw[show lgE bs bt q.es=n.log by rw[←hbs,←hbt];exact hlg,←hixx,←hpv,hcdd,hLA,hixx,hpv] at APC;obtain⟨hi,hhi⟩:=zE (n.log.hint m.index);have HIC0:=zH (fun W (hx:EsAt X W (.slice ae le ce) q.es)=>Cz W bs bt ix ae le ce q.es hx.row (by omega));rw[show lgE bs bt q.es=n.log by rw[←hbs,←hbt];exact hlg,←hixx,hhi,hixx] at HIC0
 have EG:Hid (cd=60→n.onAppend m.ms=(n2,[{ zMs with kind:=6,src:=me,dst:=s,index:=ix,tm:=tm2,prev:=hi }])):=fun gc=>by exact mFZ
 obtain⟨en,hen⟩:=zE (ix+m.es.length);obtain⟨mn,hmn⟩:=zE (min mc en);obtain⟨mx,hmx⟩:=zE (max cm mn);refine kyW ?_;intro WE
 have ET:Hid (cd≠60→n.onAppend m.ms=({ n2 with log:=LA,commit:=mx },[{ zMs with kind:=6,src:=me,dst:=s,index:=en,tm:=tm2,ok:=true }])):=fun gc=>by rw[E.out];unfold Nd.taken;rw[hn2p.1,if_neg (show ¬(n.log.append m.ms.index m.ms.prev m.ms.es).2=60 from fun e=>gc (hcdd.symm.trans e)),htm2,hn2p.2.1,hme,hn2p.2.2];rw[show (n.log.append m.ms.index m.ms.prev m.ms.es).1=LA from hLA,show m.ms.src=s from hs,show m.ms.index=ix from hixx,show m.ms.es.length=m.es.length from List.length_map _,hen,show m.ms.commit=mc from hmc,hcm,hmn,hmx]
 have HMX:=zH (And.intro hmn hmx);have HLB:Hid (LA.base=bs∧LA.bt=bt):=by rw[←hLA,←hbs,←hbt];exact Lg.append_base _ _ _ _
 have HVE:=zH (And.intro hve (And.intro hbs (And.intro hbt hcm)));have HN2:=zH hn2;have HN2P:=zH hn2p;have HT2:=zH htm2;have HM:=zH hm;unfold cM at hW1 ⊢;clear hk5 hlt hix hes hl hle hl2 hcdd hLA hve hlel hesl hlg hbs hbt htm2 hcm hn2 hn2p h hme htm hs hmt hixx hpv hmc hm V0 E hhi hen hmn hmx;go_enter Tryz.func10,Tryz.ntmps10
 go_wp2_with fail
 try rw[hW1]
 try rw[HG0.out]
 clear hW1 hg0 v0;refine wpR [(12,0),(13,1),(14,2),(15,3),(16,4),(17,5),(18,6),(19,7),(20,8),(21,9),(22,10),(23,11),(24,12),(5,13)] [(0,[]),(1,[0]),(2,[1]),(3,[2]),(4,[]),(5,[4]),(6,[]),(7,[6]),(8,[]),(9,[8]),(10,[9]),(11,[10]),(12,[3,5,7,11]),(13,[])] (ckR [(0,.pointer (some ⟨b,0,none⟩)),(1,.pointer (some ⟨b,0,none⟩)),(2,.pointer (some ⟨b,0,none⟩)),(3,.int .i64 me),(4,.pointer (some ⟨g0,1,none⟩)),(5,.int .i64 s),(6,.pointer (some ⟨g0,4,none⟩)),(7,.int .u64 (ix:Nat)),(8,.pointer (some ⟨b,0,none⟩)),(9,.pointer (some ⟨b,0,none⟩)),(10,.pointer (some ⟨b,6,none⟩)),(11,.int .u64 (tm:Nat)),(12,.agg #[.int .i64 6,.int .i64 me,.int .i64 s,.int .u64 (tm:Nat),.int .u64 (ix:Nat),.int .u64 0,.int .u64 0,.bool false,.slice none 0 0,.slice none 0 0])] [(13,⟨fun v W=>∃g,v=.pointer (some ⟨g,0,none⟩)∧g0<g∧W.heap[g]? = some (.cells (cM zMV) 32 (0,0)),fun v W W' h hf=>by obtain⟨g,h1,h2,h3⟩:=h;exact⟨g,h1,h2,hf.keep _ _ h3 trivial⟩⟩)] 14 0) 1 rfl ?cfall ?cfend
 case cfall=>exact mtG
 case cfend=>
  refine kEH ?_;intro xs W HF hA;have h13:=hA (13,[]) (by decide);clear hA;obtain⟨g,e13,hgw,tg⟩:=h13;rw[e13];refine kT8 ?_;intro TG HGW FW FW1 m0 hm0 W2 hW2' t2 f2 T2 F2;have HM0:=zH hm0;clear t2 f2 hm0 hgw;refine kl3 ?_;intro H2 HGS FP2 MX;refine kwD ?_;intro v0 v1 v2 v3 v4 v5 v6 v7 v8 v9 z0 z1 z2 z3 z4 z5 z6 z7 z8 z9;refine wpN 14 rfl fun K' hK=>?_
  skip
  go_simp;refine hK _ _ ?_;clear hK K';refine wpF ?_
  try rw[hW2']
  clear z0 z1 z2 z3 z4 z5 z6 z7 z8 z9 v0 v1 v2 v3 v4 v5 v6 v7 v8 v9 hW2' tg;have MA2:=zH (HM.keep (K:=fun c _=>¬P c) FP2 (fun c o ho hr e=>hr.1 (H.px c e)));obtain⟨WA,hWA⟩:=zE W;rw[hWA] at HF FW FW1 F2 TG;clear hWA;refine kvK ?_;intro y6 v3;go_wp2_with fail
  go_quiet (fail)
  clear y6 v3 gl;have UQ:Hid (FT W2 (W2.drewN nq)):=(Fr.refl _ W2).drewN nq;generalize W2.drewN nq=W3 at UQ ⊢;refine kTM ?_;intro H3 FP3 T3 MX3 MA3 F3S;have FO:=zH (gJ H3 mt s);have v1:=(VH W3 MX3).1;have v3:=(VH W3 MX3).2.1;go_wp2_with fail
  (with_reducible refine FO.out.mono ?_);rintro e Wf ⟨rfl,hf3,ff⟩;clear v1 v3 FO;have FF:Hid (Fr (fun c _=>c≠b) W3 Wf):=ff;rw[←HL.out.2.2.2.1,←HL.out.2.2.1] at hf3;have HFO:=zH hf3;have hgb:g≠b:=fun e=>by have:=HGS.out;have:=bX H.out.top;omega
  have hbg:b≠g:=fun e=>hgb e.symm
  have Tf:Hid (Wf.heap[g]? = some (.cells (cM m0) 32 (0,0))):=FF.keep _ _ T3 hgb;have MXf:Hid (Wf.heap[g0]? = some (.cells (cM m) 32 (0,0))):=FF.keep _ _ MX3 gb;have x11:=(HFO.cells (Fr.refl _ Wf)).2.2.2.2.2.2.2.2.2.2.2.1;have x6:Wf.cell? ⟨b,6,none⟩=some (.int .u64 (tm2:Nat)):=by rw[←HT2.out,←HN2.out];exact(HFO.out.cells (Fr.refl _ Wf)).2.2.2.2.2.2.1
  have z11:=HFO.free (Fr.refl _ Wf) 11;have y3:=(bq Tf).2.2.2.1;have zg3:=bV (i:=3) Tf
  have hh:PNs X P (kV Wf b [(11,.bool true)]) b n2 q.noYes:=by rw[←HN2.out];exact HFO.re (b_ b _ Wf) (bw _ HFO.top) ⟨rfl,rfl⟩ (.inl ⟨rfl,rfl⟩) ⟨rfl,rfl,rfl⟩ ⟨rfl,rfl,rfl,rfl⟩
  obtain⟨Wh,hWh⟩:=zE (Wf.setCell ⟨b,11,none⟩ (.bool true));have hWhs:kV Wf b [(11,.bool true)]=Wh:=hWh;rw[hWhs] at hh;have fh:Fr (fun c _=>c≠b) Wf Wh:=hWhs▸b_ b _ Wf;have Th:Wh.heap[g]? = some (.cells (cM m0) 32 (0,0)):=fh.keep _ _ Tf hgb;have x6h:Wh.cell? ⟨b,6,none⟩=some (.int .u64 (tm2:Nat)):=by rw[←HT2.out];exact(hh.cells (Fr.refl _ Wh)).2.2.2.2.2.2.1
  have y3h:=(bq Th).2.2.2.1;have zg3h:=bV (i:=3) Th;obtain⟨m1,hm1⟩:∃m:MV,(⟨6,me,s,tm2,ix,0,0,false,none,0,[],none,0,[]⟩:MV)=m:=⟨_,rfl⟩
  obtain⟨W4,hW4⟩:=zE (Wh.setCell ⟨g,3,none⟩ (.int .u64 (tm2:Nat)));have f4:Fr (fun c _=>c≠g) Wh W4:=hW4▸(Fr.refl _ _).setCell (fun _ _ h=>h rfl) _
  have T4:Hid (W4.heap[g]? = some (.cells (cM m1) 32 (0,0))):=by rw[←hW4,←hm1];have:=bJ (o:=3) Th (.int .u64 (tm2:Nat));rw[←HM0.out] at this;exact this
  have H4:=zH (hh.msg f4 ⟨_,_,Th⟩ (by have:=bX H.out.top;have:=HGW.out;have:=HG0.out;omega));have FPh:Fr (fun c _=>¬P c) w Wh:=(FP3.out.trans (FF.out.mono fun c _ hc e=>hc (e▸H.out.pb))).trans (fh.mono fun c _ hc e=>hc (e▸H.out.pb));have FP4:Hid (Fr (fun c _=>¬P c) w W4):=((FPh.mono fun c _ h=>h.1:Fr (fun c _=>¬P c∧c<w.heap.size) w Wh).trans (f4.mono fun c _ h e=>by have:=h.2;have:=HGS.out;omega)).within;have MX4:Hid (W4.heap[g0]? = some (.cells (cM m) 32 (0,0))):=f4.keep _ _ (fh.keep _ _ MXf.out gb.out) (by have:=HGW.out;omega);have MA4:=zH (HM.keep (K:=fun c _=>¬P c) FP4 (fun c o ho hr e=>hr.1 (H.px c e)))
  have CD:Hid (∀W,FT W4 W→W.cell? ⟨b,0,none⟩=some (.int .i64 me)∧W.cell? ⟨b,6,none⟩=some (.int .u64 (tm2:Nat))∧W.cell? ⟨b,8,none⟩=some (.int .u64 (bs:Nat))∧W.cell? ⟨b,9,none⟩=some (.int .u64 (bt:Nat))∧W.cell? ⟨b,10,none⟩=some (.slice ae le ce)):=fun W f=>by obtain⟨x0,x1,x2,x3,x4,x5,x6,x7,x8,x9,x10,x11,x12,x13⟩:=H4.cells f;exact⟨by rw[x0,HN2P.out.2.1,HL.out.1],by rw[x6,HT2.out],by rw[x8,HN2P.out.1,HVE.out.2.1],by rw[x9,HN2P.out.1,HVE.out.2.2.1],by rw[x10];show some q.ve=_;rw[HVE.out.1]⟩
  have EV4:Hid (∀W,FT W4 W→EsAt X W (.slice ae le ce) q.es):=fun W f=>by exact mil
  replace APC:=zH (fun W (f:FT W4 W)=>APC W (EV4 W f) (MA4.es.tt f) (fun c hc=>Nat.lt_of_lt_of_le (H4.hx c hc) f.size));have HIC:=zH (fun W (f:FT W4 W)=>HIC0 W (EV4 W f));clear HIC0;have UE:Hid (FT W4 W4.drew):=(Fr.refl _ _).drew;have HM1:=zH hm1;have FP4S:Hid (w.heap.size≤W4.heap.size):=FP4.size;clear hWhs hh fh Th f4 FPh hm1 hf3 ff;go_wp2_with fail
  try rw[hWh]
  try rw[hW4]
  clear hWh hW4 x11 x6 z11 y3 zg3 x6h y3h zg3h;refine g_ (K:=fun _ _=>True) (by kernel_rfl) [(49,0),(50,1),(51,2),(52,3),(53,4),(54,5),(55,6),(56,7),(57,8),(58,9),(59,10),(48,11),(60,12),(61,13),(62,14),(6,15),(7,17),(8,18)] [(0,[]),(1,[0]),(2,[1]),(3,[2]),(4,[]),(5,[4]),(6,[]),(7,[6]),(8,[]),(9,[8]),(10,[3,5,7,9]),(11,[10]),(12,[11]),(13,[11]),(14,[11]),(15,[])] (ckR [(0,.pointer (some ⟨b,0,none⟩)),(1,.pointer (some ⟨b,0,none⟩)),(2,.pointer (some ⟨b,8,none⟩)),(3,.agg #[.int .u64 (bs:Nat),.int .u64 (bt:Nat),.slice ae le ce]),(4,.pointer (some ⟨g0,4,none⟩)),(5,.int .u64 (ix:Nat)),(6,.pointer (some ⟨g0,5,none⟩)),(7,.int .u64 (pv:Nat)),(8,.pointer (some ⟨g0,9,none⟩)),(9,.slice m.ea m.es.length m.ec),(14,.int .i64 cd)] [(10,⟨fun v W=>∃a k c f zs,v=.tuple #[.agg #[.int .u64 (bs:Nat),.int .u64 (bt:Nat),.slice a k c],.int .u64 f,.int .i64 cd]∧EsAt X W (.slice a k c) zs∧zs.map EV.en=LA.es,fun v W W' h hf=>by obtain⟨a,k,c,f,zs,h1,h2,h3⟩:=h;exact⟨a,k,c,f,zs,h1,h2.tt hf,h3⟩⟩),(11,⟨fun v W=>∃a k c f zs,v=.tuple #[.agg #[.int .u64 (bs:Nat),.int .u64 (bt:Nat),.slice a k c],.int .u64 f,.int .i64 cd]∧EsAt X W (.slice a k c) zs∧zs.map EV.en=LA.es,fun v W W' h hf=>by obtain⟨a,k,c,f,zs,h1,h2,h3⟩:=h;exact⟨a,k,c,f,zs,h1,h2.tt hf,h3⟩⟩),(12,⟨fun v W=>∃a k c zs,v=.agg #[.int .u64 (bs:Nat),.int .u64 (bt:Nat),.slice a k c]∧EsAt X W (.slice a k c) zs∧zs.map EV.en=LA.es,fun v W W' h hf=>by obtain⟨a,k,c,zs,h1,h2,h3⟩:=h;exact⟨a,k,c,zs,h1,h2.tt hf,h3⟩⟩),(13,⟨fun v W=>∃f,v=.int .u64 f,fun v W W' h hf=>h⟩),(15,⟨fun v W=>∃g9,v=.pointer (some ⟨g9,0,none⟩)∧g<g9∧W4.heap.size≤g9∧W.heap[g9]? = some (.cells #[.int .u64 0,.int .u64 0,.slice none 0 0] 26 (0,0)),fun v W W' h hf=>by obtain⟨g9,h1,h2,h3,h4⟩:=h;exact⟨g9,h1,h2,h3,hf.keep _ _ h4 trivial⟩⟩)] 16 0) [13,14] 3 (by kernel_rfl) (by kernel_rfl) (by kernel_rfl) (by kernel_rfl) (by kernel_rfl) (by exact fun _ _ _ _ _ h=>h) (by rfl) ?cfall ?cffl ?cfend
  case cffl=>exact mtV
  case cfall=>
   iterate 10
    refine bY.q rfl rfl rfl (kQQ ?_) ?_
    ·intro xs W HF K' hK;obtain⟨y0,y6,y8,y9,y10⟩:=CD W (UE.trans HF);exact m7Y
   refine bY.p rfl rfl (kPP ?_) ?_
   ·intro xs W HF K' hK;obtain⟨y0,y6,y8,y9,y10⟩:=CD W (UE.trans HF);obtain⟨v1,v3,v4,v5,v6,v9⟩:=VH W ((UE.trans HF).keep _ _ MX4 trivial);have AP1:=zH (APC W (UE.trans HF));dsimp only[vL] at AP1;exact mEM
   refine bY.p rfl rfl (kPH ?_) ?_
   ·exact mSv
   refine bY.p rfl rfl (kPH ?_) ?_
   ·exact mSu
   refine bY.p rfl rfl (kPH ?_) ?_
   ·exact mZ7
   refine bY.p rfl rfl (kPH ?_) ?_
   ·exact maz
   refine bY.p rfl rfl (kPP ?_) ?_
   ·intro xs W HF K' hK;have SB:Hid (W4.heap.size≤W.heap.size):=(UE.trans HF).size;have SG:Hid (g<W.heap.size):=Nat.lt_of_lt_of_le (bX T4) SB
    skip
    go_simp;exact hK _ _ _ rfl ((Fr.refl _ _).alloc _) ⟨_,rfl,SG,SB,bZ _ _⟩
   exact m36
  case cfend=>
   refine kEH ?_;intro xs W HF hA;have h10:=hA (10,[3,5,7,9]) (by decide);have h11:=hA (11,[10]) (by decide);have h12:=hA (12,[11]) (by decide);have h13:=hA (13,[11]) (by decide);have h15:=hA (15,[]) (by decide);clear hA;obtain⟨a,k,c,zs,e12,hz,hzl⟩:=h12;obtain⟨f,e13⟩:=h13;obtain⟨g9,e15,hgg,hg9,tg9⟩:=h15;rw[e12,e13,e15];clear e12 e13 e15;have HZ:=zH (And.intro hz (And.intro hzl (And.intro hgg hg9)));have FE:=zH (UE.trans HF);have T9:=zH tg9;obtain⟨W5,hW5,l0,l1,l2,F5⟩:=lset (b:=bs) (bt:=bt) (v:=.slice a k c) tg9;have p0:=bQ (i:=0) tg9 rfl;have p1:=bQ (i:=1) tg9 rfl;have p2:=bQ (i:=2) tg9 rfl;have q0:=bV (i:=0) tg9;have q1:=bV (i:=1) tg9;have q2:=bV (i:=2) tg9;clear hz hzl hgg hg9 tg9;refine wpN 16 rfl fun K' hK=>?_
   skip
   go_simp;refine hK _ _ ?_;clear hK K';refine wpN 17 rfl fun K' hK=>?_
   skip
   go_simp;refine hK _ _ ?_;clear hK K';refine wpN 18 rfl fun K' hK=>?_
   skip
   go_simp;refine hK _ _ ?_;clear hK K';refine wpF ?_
   try rw[hW5]
   clear p0 p1 p2 q0 q1 q2 hW5;have hb9:b≠g9:=fun e=>by have:=HZ.out.2.2.2;have:=bX H4.out.top;omega
   have hg9:g≠g9:=fun e=>by have:=HZ.out.2.2.1;omega
   have h09:g0≠g9:=fun e=>by have:=HZ.out.2.2.1;have:=HGW.out;omega
   have FE5:Hid (FT W4 W5):=Fr.within ((FE.out.tT:Fr (fun c _=>True∧c<W4.heap.size) W4 W).trans (F5.out.mono fun c _ h e=>by have:=h.2;have:=HZ.out.2.2.2;omega));have H5:=zH (H4.tt FE5);have T5:Hid (W5.heap[g]? = some (.cells (cM m1) 32 (0,0))):=FE5.keep _ _ T4 trivial;have MX5:Hid (W5.heap[g0]? = some (.cells (cM m) 32 (0,0))):=FE5.keep _ _ MX4 trivial;have FP5:Hid (Fr (fun c _=>¬P c) w W5):=FP4.trans (FE5.tT);have HGW5:Hid (w.heap.size≤W5.heap.size):=FP5.size;obtain⟨WB,hWB⟩:=zE W;rw[hWB] at HF FE T9 F5 HZ;clear hWB;by_cases gc:cd=60
   ·subst gc;have E:=zH (EG rfl);have UG:Hid (FT W5 W5.drew):=(Fr.refl _ _).drew;clear l0 l1 l2 APC;go_wp2_with fail
    refine wpR [(65,0),(66,1),(67,2),(68,3),(69,4),(70,5),(71,6),(72,7)] [(0,[]),(1,[0]),(2,[1]),(3,[2]),(4,[]),(5,[4]),(6,[3,5])] (ckR [(0,.pointer (some ⟨b,0,none⟩)),(1,.pointer (some ⟨b,0,none⟩)),(2,.pointer (some ⟨b,8,none⟩)),(3,.agg #[.int .u64 (bs:Nat),.int .u64 (bt:Nat),.slice ae le ce]),(4,.pointer (some ⟨g0,4,none⟩)),(5,.int .u64 (ix:Nat)),(6,.int .u64 (hi:Nat))] [] 7 0) 2 rfl ?cfall ?cfend
    case cfall=>
     iterate 6
      refine bY.q rfl rfl rfl (kQQ ?_) ?_
      ·intro xs W HF K' hK;obtain⟨y0,y6,y8,y9,y10⟩:=CD W (FE5.trans (UG.trans HF));obtain⟨v1,v3,v4,v5,v6,v9⟩:=VH W ((UG.trans HF).keep _ _ MX5 trivial);exact mD8
     refine bY.p rfl rfl (kPP ?_) ?_
     ·intro xs W HF K' hK;obtain⟨y0,y6,y8,y9,y10⟩:=CD W (FE5.trans (UG.trans HF));obtain⟨v1,v3,v4,v5,v6,v9⟩:=VH W ((UG.trans HF).keep _ _ MX5 trivial);have HI1:=zH (HIC W (FE5.trans (UG.trans HF)));dsimp only[vL] at HI1
      skip
      go_simp;(with_reducible refine HI1.out.mono ?_);exact msd
     exact m36
    case cfend=>
     refine kEE ?_;intro xs W HF;have F6:=zH (UG.trans HF);have T6:Hid (W.heap[g]? = some (.cells (cM m1) 32 (0,0))):=F6.keep _ _ T5 trivial;have y5:=(bq T6).2.2.2.2.2.1;have zg5:=bV (i:=5) T6;obtain⟨W7,hW7⟩:=zE (W.setCell ⟨g,5,none⟩ (.int .u64 (hi:Nat)));have f7:Fr (fun c _=>c≠g) W W7:=hW7▸(Fr.refl _ _).setCell (fun _ _ h=>h rfl) _;obtain⟨m2,hm2⟩:∃m:MV,(⟨6,me,s,tm2,ix,hi,0,false,none,0,[],none,0,[]⟩:MV)=m:=⟨_,rfl⟩
     have T7:Hid (W7.heap[g]? = some (.cells (cM m2) 32 (0,0))):=by rw[←hW7,←hm2];have:=bJ (o:=5) T6.out (.int .u64 (hi:Nat));rw[←HM1.out] at this;exact this
     have H7:=zH ((H5.out.tt F6.out).msg f7 ⟨_,_,T6.out⟩ (by have:=bX H.out.top;have:=HGW.out;have:=HG0.out;omega));have FP7:Hid (Fr (fun c _=>¬P c) w W7):=(((FP5.out.trans (F6.out.tT)).mono fun c _ h=>h.1:Fr (fun c _=>¬P c∧c<w.heap.size) w W).trans (f7.mono fun c _ h e=>by have:=h.2;have:=HGS.out;omega)).within;have HM2:=zH hm2;have F7S:Hid (w.heap.size≤W7.heap.size):=FP7.size;clear f7 hm2 HIC CD;refine wpN 7 rfl fun K' hK=>?_
     skip
     go_simp;refine hK _ _ ?_;clear hK K';refine wpN 8 rfl fun K' hK=>?_
     skip
     go_simp;refine hK _ _ ?_;clear hK K';refine wpF ?_
     try rw[hW7]
     clear hW7 y5 zg5;obtain⟨u0,u1,u2,u3,u4,u5,u6,u7,u8,u9⟩:=bq T7;rw[←HM2.out] at u0 u1 u2 u3 u4 u5 u6 u7 u8 u9;go_wp2;go_ret;rw[E.out];refine⟨X,P,q.noYes,_,[⟨6,me,s,tm2,ix,hi,0,false,none,0,[],none,0,[]⟩],rfl,H7.tt ((Fr.refl _ W7).alloc _),(Aft.of FP7 H.px).tr ((Fr.refl _ W7).alloc _),(OwnMs.one ⟨6,me,s,tm2,ix,hi,0,false,none,0,[],none,0,[]⟩ H7.hx ⟨BytesAt.nil _ _,EsAt.nil _ _⟩).lo F7S,rfl⟩
   ·have E:=zH (ET gc);have gc':(cd==60)=false:=by simpa using gc
    obtain⟨we,we0,we1⟩:=WE;have HZ5:Hid (EsAt X W5 (.slice a k c) zs):=HZ.out.1.fr F5.out (fun c o ho hr e=>hr.ne (e▸H4.out.new HZ.out.2.2.2) (by rw[e,T9.out] at ho;exact(Option.some.inj ho).symm) (by decide));refine kqa ?_;intro x8 x9 x10 z8 z9 z10
    have h6:PNs X P (kV W5 b [(8,.int .u64 (bs:Nat)),(9,.int .u64 (bt:Nat)),(10,.slice a k c)]) b { n2 with log:=LA } { q.noYes with ve:=.slice a k c,es:=zs }:=by refine H5.reE (b_ b _ W5) ?_ ⟨rfl,rfl⟩ (.inl ⟨rfl,rfl⟩) ⟨HZ.2.1.symm,HZ5⟩ ⟨rfl,rfl,rfl,rfl⟩;rw[←HLB.out.1,←HLB.out.2];exact bw _ H5.top
    obtain⟨n3,hn3⟩:∃x:Nd,{ n2 with log:=LA }=x:=⟨_,rfl⟩
    obtain⟨q3,hq3⟩:∃x:NV,{ q.noYes with ve:=.slice a k c,es:=zs }=x:=⟨_,rfl⟩
    rw[hn3,hq3] at h6;have n3c:Hid (n3.commit=cm∧n3.me=me):=by rw[←hn3];exact⟨HN2P.out.2.2.trans HVE.out.2.2.2,HN2P.out.2.1.trans HL.out.1⟩
    replace E:Hid (n.onAppend m.ms=({ n3 with commit:=mx },[{ zMs with kind:=6,src:=me,dst:=s,index:=en,tm:=tm2,ok:=true }])):=by show _=_;rw[E.out,←hn3]
    refine koS ?_;intro W6 hW6 hW6' f6;rw[hW6] at h6;have t6:W6.heap[g]? = some (.cells (cM m1) 32 (0,0)):=f6.keep _ _ T5 hgb;have MX6:W6.heap[g0]? = some (.cells (cM m) 32 (0,0)):=f6.keep _ _ MX5 gb;have y7:=(bq t6).2.2.2.2.2.2.2.1;have zg7:=bV (i:=7) t6;obtain⟨W7,hW7⟩:=zE (W6.setCell ⟨g,7,none⟩ (.bool true));have f7:Fr (fun c _=>c≠g) W6 W7:=hW7▸(Fr.refl _ _).setCell (fun _ _ h=>h rfl) _;obtain⟨m2,hm2⟩:∃m:MV,(⟨6,me,s,tm2,ix,0,0,true,none,0,[],none,0,[]⟩:MV)=m:=⟨_,rfl⟩
    have t7:W7.heap[g]? = some (.cells (cM m2) 32 (0,0)):=by rw[←hW7,←hm2];have:=bJ (o:=7) t6 (.bool true);rw[←HM1.out] at this;exact this
    have g0g:g0≠g:=fun e=>by have:=HGW.out;omega
    have MX7:W7.heap[g0]? = some (.cells (cM m) 32 (0,0)):=f7.keep _ _ MX6 g0g;have y4:W7.cell? ⟨g,4,none⟩=some (.int .u64 (ix:Nat)):=by rw[(bq t7).2.2.2.2.1,←hm2]
    have zg4:=bV (i:=4) t7;have v9:=(VH W7 MX7).2.2.2.2.2;obtain⟨W8,hW8⟩:=zE (W7.setCell ⟨g,4,none⟩ (.int .u64 (en:Nat)));have f8:Fr (fun c _=>c≠g) W7 W8:=hW8▸(Fr.refl _ _).setCell (fun _ _ h=>h rfl) _;obtain⟨m3,hm3⟩:∃m:MV,(⟨6,me,s,tm2,en,0,0,true,none,0,[],none,0,[]⟩:MV)=m:=⟨_,rfl⟩
    have T8:Hid (W8.heap[g]? = some (.cells (cM m3) 32 (0,0))):=by rw[←hW8,←hm3];have:=bJ (o:=4) t7 (.int .u64 (en:Nat));rw[←hm2] at this;exact this
    have MX8:Hid (W8.heap[g0]? = some (.cells (cM m) 32 (0,0))):=f8.keep _ _ MX7 g0g;have H8:=zH (h6.msg (f7.trans f8) ⟨_,_,t6⟩ (by have:=bX H.out.top;have:=HGW.out;have:=HG0.out;omega));have FP6:Fr (fun c _=>¬P c) w W6:=FP5.out.trans (f6.mono fun c _ hc e=>hc (e▸H.out.pb));have FP8:Hid (Fr (fun c _=>¬P c) w W8):=((FP6.mono fun c _ h=>h.1:Fr (fun c _=>¬P c∧c<w.heap.size) w W6).trans ((f7.trans f8).mono fun c _ h e=>by have:=h.2;have:=HGS.out;omega)).within;have HM3:=zH hm3;have UH:Hid (FT W8 W8.drew):=(Fr.refl _ _).drew;clear h6 hn3 hq3 hW6 f6 MX6 f7 g0g MX7 f8 FP6 hm2 hm3 t6 t7;go_wp2_with fail
    try rw[hW6']
    try rw[hW7]
    try rw[hW8]
    clear l0 l1 l2 x8 x9 x10 z8 z9 z10 hW6' y7 zg7 hW7 y4 zg4 v9 hW8 we we0 we1 gc gc' hb9 hg9 h09;refine wpR [(88,0),(89,1),(90,2),(91,3),(92,4),(93,5),(94,6),(95,7),(96,8),(97,9),(98,10),(99,11),(100,12)] [(0,[]),(1,[]),(2,[1]),(3,[2]),(4,[3]),(5,[]),(6,[5]),(7,[]),(8,[7]),(9,[6,8]),(10,[4,9])] (ckR [(0,.pointer (some ⟨b,0,none⟩)),(1,.pointer (some ⟨b,0,none⟩)),(2,.pointer (some ⟨b,0,none⟩)),(3,.pointer (some ⟨b,7,none⟩)),(4,.int .u64 (cm:Nat)),(5,.pointer (some ⟨g0,6,none⟩)),(6,.int .u64 (mc:Nat)),(7,.pointer (some ⟨g,4,none⟩)),(8,.int .u64 (en:Nat)),(9,.int .u64 (mn:Nat)),(10,.int .u64 (mx:Nat))] [] 11 0) 3 rfl ?cfall ?cfend
    case cfall=>
     iterate 9
      refine bY.q rfl rfl rfl (kQQ ?_) ?_
      ·intro xs W HF K' hK;have y7:W.cell? ⟨b,7,none⟩=some (.int .u64 (cm:Nat)):=by rw[←n3c.out.1];exact(H8.out.cells (UH.out.trans HF.out)).2.2.2.2.2.2.2.1
       have v6:=(VH W ((UH.trans HF).keep _ _ MX8 trivial)).2.2.2.2.1;have y4:W.cell? ⟨g,4,none⟩=some (.int .u64 (en:Nat)):=by rw[(bq ((UH.out.trans HF.out).keep _ _ T8.out trivial)).2.2.2.2.1,←HM3.out]
       exact mD8
     refine bY.p rfl rfl (kPP ?_) ?_
     ·intro xs W HF K' hK
      skip
      go_simp;exact hK.out _ _ _ rfl (Fr.refl _ _) (congrArg (Value.int .u64) (show (min (mc:Int) (en:Int))=((mn:Nat):Int) from by have:=HMX.out.1;omega))
     refine bY.p rfl rfl (kPP ?_) ?_
     ·intro xs W HF K' hK
      skip
      go_simp;exact hK.out _ _ _ rfl (Fr.refl _ _) (congrArg (Value.int .u64) (show (max (cm:Int) (mn:Int))=((mx:Nat):Int) from by have:=HMX.out.2;omega))
     exact m36
    case cfend=>
     refine kEE ?_;intro xs W HF;have F9:=zH (UH.trans HF);have H9:=zH (H8.tt F9);have x7:=(H9.cells (Fr.refl _ W)).2.2.2.2.2.2.2.1;have z7:=H9.free (Fr.refl _ W) 7;obtain⟨W10,hW10⟩:=zE (W.setCell ⟨b,7,none⟩ (.int .u64 (mx:Nat)));have hW10s:kV W b [(7,.int .u64 (mx:Nat))]=W10:=hW10;have f10:Fr (fun c _=>c≠b) W W10:=hW10s▸b_ b _ W;have h10:PNs X P W10 b { n3 with commit:=mx } q3:=H9.out.re f10 (hW10s▸bw _ H9.out.top) ⟨rfl,rfl⟩ (.inl ⟨rfl,rfl⟩) ⟨rfl,rfl,rfl⟩ ⟨rfl,rfl,rfl,rfl⟩;have H10:=zH h10;have T10:Hid (W10.heap[g]? = some (.cells (cM m3) 32 (0,0))):=f10.keep _ _ (F9.keep _ _ T8 trivial) hgb;have FP10:Hid (Fr (fun c _=>¬P c) w W10):=(FP8.out.trans (F9.out.tT)).trans (f10.mono fun c _ hc e=>hc (e▸H.out.pb));have F10S:Hid (w.heap.size≤W10.heap.size):=FP10.size;clear h10 f10 hW10s;refine wpN 11 rfl fun K' hK=>?_
     skip
     go_simp;refine hK _ _ ?_;clear hK K';refine wpN 12 rfl fun K' hK=>?_
     skip
     go_simp;refine hK _ _ ?_;clear hK K';refine wpN 13 rfl fun K' hK=>?_
     skip
     go_simp;refine hK _ _ ?_;clear hK K';refine wpF ?_
     try rw[hW10]
     clear hW10 x7 z7;obtain⟨u0,u1,u2,u3,u4,u5,u6,u7,u8,u9⟩:=bq T10;rw[←HM3.out] at u0 u1 u2 u3 u4 u5 u6 u7 u8 u9;go_wp2;go_ret;rw[E.out];refine⟨X,P,q3,_,[⟨6,me,s,tm2,en,0,0,true,none,0,[],none,0,[]⟩],rfl,H10.tt ((Fr.refl _ W10).alloc _),(Aft.of FP10 H.px).tr ((Fr.refl _ W10).alloc _),(OwnMs.one ⟨6,me,s,tm2,en,0,0,true,none,0,[],none,0,[]⟩ H10.hx ⟨BytesAt.nil _ _,EsAt.nil _ _⟩).lo F10S,rfl⟩
theorem rZ [Old] (h:PNs X P w b n q) (m:MV) (hm:MsAt X w m) (hix:m.index+m.es.length+1<18446744073709551616) (hes:m.es.length≤900000) (hl:n.log.last+1<18446744073709551616) (hle:n.log.es.length≤900000):
 Calls Tryz.prog 10 #[.pointer (some ⟨b,0,none⟩),.agg (cM m)] w fun e w'=>jq X P w b (n.onAppend m.ms) e w':=by
 by_cases hk5:m.kind=5
 ·by_cases hlt:m.tm<n.tm
  ·exact pK h m hm hk5 hlt hix hes hl hle
  ·exact pJ h m hm hk5 hlt hix hes hl hle
 ·exact pV h m hm hk5 hix hes hl hle
end
theorem kWS {p q:Prop} (k:q) (h:q→p:=by
 have F2:=zH f2;have RO2:=zH ro.ints;have ROW2:=zH ro;have O0:Hid (w2.ownsRow w.heap.size 32 10 (.slice none 0 0) ([]:List MV).length (([]:List MV).flatMap encM)):=⟨rfl,.inl ⟨rfl,rfl⟩⟩
 intro kk0;revert O0;revert ROW2;revert RO2;revert F2;exact kk0):p:=h k
theorem m3D {p:Prop} (h:p:=by
 exact Nat.zero_le _):p:=h
theorem mQh {p:Prop} (h:p:=by
 obtain⟨k,g,l,c,T,rfl,hk,rfl,hlk,HT,HL,HO,HM,HF2,HFW⟩:=hrel;by_cases hlt:k<ot.length
 ·have hltI:(k:Int)<(ot.length:Int):=by omega
  obtain⟨bo,oo,rfl⟩:=RO2.out.addr (by omega);have hcell:=RO2.cell hlt;obtain⟨x,hx⟩:=zE (ot[k]);rw[hx] at hcell
  have u0:=HF2.cell (p:=⟨bo,oo+k,none⟩) (fun o ho=>by refine k4o ?_;intro cur hc hc';cases hc';exact⟨_,_,rfl⟩) hcell
  have TO1:=zH (TO wr HFW x)
  have HS:Hid ((ot.take (k+1)).flatMap n.sendTo=(ot.take k).flatMap n.sendTo++n.sendTo x):=by show _=_;rw[List.take_succ_eq_append_getElem hlt,List.flatMap_append,hx];simp
  have HS1:Hid ((n.sendTo x).length≤1):=Jk n x;clear hx hcell;go_wp2_with fail
  (with_reducible refine TO1.out.mono ?_);rintro e w3 ⟨⟨v3,mvs,rfl,o3,e3⟩,f3⟩;have O3:=zH o3;have E3:=zH e3;have F3:=zH f3;have FW3:=zH (HFW.trans f3);have OW3:Hid (w3.ownsRow w.heap.size 32 10 (.slice g l c) T.length (T.flatMap encM)):=bK HO f3 fun _ _ _ _=>trivial
  have hml:mvs.length≤1:=by have:=HS1.out;rw[←e3,List.length_map] at this;exact this
  obtain⟨M,hM⟩:=zE mvs.length;have HL3:Hid ((T++mvs).length=l+M):=by show _=_;rw[List.length_append,HL.out,hM]
  have RW3:=zH o3.rows;rw[hM] at hml;have hl1:l+M≤1000000:=by omega
  obtain⟨ga,na,ca,hv3,_⟩:∃ga na ca,v3=.slice ga na ca∧True:=by
   rcases o3.row.2 with⟨e,_⟩ | ⟨g,cap,cur,e,_⟩
   ·exact⟨_,_,_,e,trivial⟩
   ·exact⟨_,_,_,e,trivial⟩
  subst hv3;clear o3 e3 f3 TO1 u0 hM;go_wp2_with (at_builtin;refine dx w w3 FW3 rfl _ _ rfl (.slice g l c) T rfl OW3 (.slice ga na ca) mvs rfl RW3 _ rfl (l+M) HL3 hl1 ?_)
  intro g5 c5 W5 O5 F5 G5 N5;go_wp2;go_roundw
  case rel=>
   have htag:∀cb,(Value.slice g l c).ownBlock=some cb→∃cur,w3.heap[cb]? = some (.cells cur 32 (0,0)):=fun cb e=>cZ OW3 e
   have ki5:Fr KI w3 W5:=G5.monoH fun i o hi hk e=>by exact m6g
   refine⟨k+1,g5,l+M,c5,T++mvs,by go_num,by omega,rfl,by omega,?_,HL3.out,?_,fun m hm=>?_,(HF2.out.trans (F3.out.tT)).trans ki5,F5.out⟩
   ·show _=_;rw[List.map_append,HT.out,E3.out,HS.out]
   ·show World.ownsRow _ _ _ _ _ _ _;rw[HL3.out,List.flatMap_append];exact O5.out
   ·refine MsAt.keep (w:=w3) ?_ G5 ?_
    ·rcases List.mem_append.1 hm with hm | hm
     ·exact(HM m hm).tt F3
     ·exact O3.at' m hm
    ·intro i o hi hr e;obtain⟨cur,hc⟩:=htag i e;rw[hc] at hi;cases hi;exact hr.ne (HNEW (d_ (v:=.slice g l c) OW3 i e)) rfl (by decide)
  case measure=>simp [intOf];omega
 ·have hge:¬(k:Int)<(ot.length:Int):=by omega
  have HTT:Hid (T.map MV.ms=n.beat):=by show _=_;rw[HT.out,OUT.out,List.take_of_length_le (by omega)]
  go_wp2;go_ret;refine⟨⟨_,T,rfl,⟨HO,fun cb e hc=>?_,HM⟩,HTT⟩,HFW⟩;have:=HX.out cb hc;have:=d_ HO.out cb e;omega):p:=h
theorem mU2 {p:Prop} (h:p:=by
 exact Nat.le_refl _):p:=h
theorem Jk (n:Nd) (x:Int):(n.sendTo x).length≤1:=by
 unfold Nd.sendTo;split
 ·exact m3D
 ·exact mU2
section
variable {X P:Nat→Prop} {w w':World} {b:Nat} {n n':Nd} {q q':NV}
theorem Lk [Old] (h:PNs X P w b n q) (hc:0<n.conf.length∧n.conf.length≤1000) (hnx:∀y∈n.next,y<18446744073709551616) (hl:n.log.last+1<18446744073709551616) (hle:n.log.es.length≤900000):
 Calls Tryz.prog 18 #[.pointer (some ⟨b,0,none⟩)] w fun e w'=>jj X w n.beat e w':=by
 have OC:=zH (mz h hc);have hol:n.others.length≤1000:=Nat.le_trans (List.length_filter_le _ _) hc.2;have TO:=zH (fun W (f:FT w W) x=>m7 (h.tt f) x hnx hl hle);have OUT:Hid (n.beat=n.others.flatMap n.sendTo):=rfl;obtain⟨ot,hot⟩:=zE n.others;rw[hot] at OC hol OUT;have HX:Hid (∀c,X c→c<w.heap.size):=h.hx;have HNEW:Hid (∀{c},w.heap.size≤c→¬Old.o c):=h.new;clear h hot hc hnx hl hle;go_enter Tryz.func18,Tryz.ntmps18
 go_wp2_with fail
 (with_reducible refine OC.out.mono ?_);rintro e w2 ⟨⟨go,ko,rfl,ro⟩,f2⟩;refine kWS ?_;intro F2 RO2 ROW2 O0;clear ro f2 OC;go_wp2;go_loopw [3,9] (fun o i wr=>∃(k:Nat) (g:Option Addr) (l c:Nat) (T:List MV),i=.int .i64 (k:Nat)∧k≤ot.length∧o=.slice g l c∧l≤k∧Hid (T.map MV.ms=(ot.take k).flatMap n.sendTo)∧Hid (T.length=l)∧Hid (wr.ownsRow w.heap.size 32 10 (.slice g l c) T.length (T.flatMap encM))∧Hid (∀m∈T,MsAt X wr m)∧Hid (Fr KI w2 wr)∧Hid (FT w wr)) (fun _ i _=>ot.length-(intOf i).toNat)
 case atStart=>exact⟨0,none,0,0,[],rfl,Nat.zero_le _,rfl,Nat.zero_le _,rfl,rfl,O0,(fun m hm=>by cases hm),Fr.refl _ _,F2⟩
 case round=>exact mQh
end
end Go.Proofs.YtmjccpfchhnfhaaGreat
