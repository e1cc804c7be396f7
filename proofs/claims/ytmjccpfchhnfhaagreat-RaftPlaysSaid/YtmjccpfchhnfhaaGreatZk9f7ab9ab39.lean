/- Texts of the proofs, part 52: what the functions that they reach do, walked; no conditions beyond those that each states. -/
import Derived.Test.YtmjccpfchhnfhaaGreatZkcf0ea45d26
set_option linter.unusedVariables false
set_option linter.unusedSimpArgs false
set_option maxRecDepth 100000
set_option maxHeartbeats 8000000
namespace Go.Proofs.YtmjccpfchhnfhaaGreat
open Go.RowKit
theorem zg_d3 [Old] [bj] {Q:Exit→Act→World→Prop} {B G g0 b0 off len cap many k i gr cr:Nat} {X:Nat→Prop} {w2:World} {l:List Rx} {ms:List MV} {tk:List (Value×Nat)} {vn vm vt vr:Value} {D:List (Nat×Nat)} {s s':Gs} (fu:Nat→Value) (ZM:Md B G len many k i gr cr X w2 l ms tk vn vm vt vr D s s') {x:Rx} {dd:Nat×Nat} (hx:l[i]? = some x) (hdd:D.getD i (0,0)=dd) (hout:s.send (s.ns.getD i default).beat=s') (hQ:∀(fv:Nat→Value) (w5:World) (rb rd:Nat) (v v2:Value) (ec:Int),TlE B w5 G D vr s' rb rd v v2→Fr (fun c _=>c<B) w2 w5→Q .normal { tmps:=tU 264 fv ((0,.int .i64 (many:Nat)) :: (1,.slice (some ⟨b0,off,none⟩) len cap) :: (2,fu 2) :: (3,fu 3) :: (5,.bool true) :: (6,.pointer (some ⟨G,0,none⟩)) :: (7,.slice (some ⟨gr,0,none⟩) many cr) :: (8,fu 8) :: (9,fu 9) :: (10,fu 10) :: (11,.int .i64 (k:Nat)) :: (14,.pointer (some ⟨rb,0,none⟩)) :: (15,.pointer (some ⟨rd,0,none⟩)) :: (16,v) :: (17,v2) :: (18,.int .i64 ec) :: (19,.int .i64 ec) :: kfL fu [(263,fu 263)]),defers:=[] } w5) (fw:Nat→Value):
 Code.wp Tryz.prog (cR (cBk (cR (cL (fK 11 (plX (cW Tryz.f5.body))))))) Q { tmps:=tU 264 fw ((0,.int .i64 (many:Nat)) :: (1,.slice (some ⟨b0,off,none⟩) len cap) :: (2,fu 2) :: (3,fu 3) :: (5,.bool true) :: (6,.pointer (some ⟨G,0,none⟩)) :: (7,.slice (some ⟨gr,0,none⟩) many cr) :: (8,fu 8) :: (9,fu 9) :: (10,fu 10) :: (11,.int .i64 (k:Nat)) :: (12,.pointer (some ⟨g0,0,none⟩)) :: (14,.pointer (some ⟨x.rb,0,none⟩)) :: (15,.pointer (some ⟨dd.1,0,none⟩)) :: (16,.slice none 0 0) :: (17,.slice none 0 0) :: (18,.int .i64 0) :: (19,.int .i64 0) :: kfL fu [(127,.int .i64 3),(128,.bool false),(263,fu 263)]),defers:=[] } w2:=by
 refine kAF ?_;intro TAIL G2 D2 HST HS HS' HN HI KB
 have HML:Hid (ms.length≤5000):=by exact mH4
 have F2:Hid (Fr (fun _ _=>True) w2 w2):=Fr.refl _ _;clear hQ ZM
 have NX:Hid (s.ns.getD i default=x.n∧s.aps.getD i 0=x.ap):=by exact mzN
 have HX:Hid (l[i]'HI.out=x):=by exact mJh
 have hxl:x∈l:=HX.out▸List.getElem_mem HI.out
 have GW:Hid (Gw (16+3*k) (16+3*k) x.n):=by exact mNg
 refine kPr ?_;intro HDD q hq hdn hrd;rw[HDD.out,HX.out] at hdn hrd;obtain⟨q2,hdq⟩:=hdn;refine kmr ?_;intro hrb hdm HB HQ HDQ HRD HRB HNP HXL HBD CELLS y0 y2 y3 y4 y5;clear hq hdq hrd hrb hdm hx hdd
 have OUT:Hid (s.send x.n.beat=s'):=by show _=s';rw[←hout,NX.out.1]
 have BC:=zH (kW HQ.out HRB.out.1 ⟨GW.out.cf.1,by have:=GW.out.cf.2;omega⟩ (fun y hy=>by have:=HB.out.1.nx y hy;omega) (by have:=HB.out.1.last;omega) (by have:=HB.out.2.1;omega));have DC:Hid (∀w3,Fr (fun _ _=>True) w2 w3→Calls Tryz.prog 19 #[.pointer (some ⟨dd.2,0,none⟩)] w3 fun e w'=>jj X w3 x.n.beat e w'):=fun w3 f=>kj (HDQ.out.tt f) (by have:=GW.out.cf.2;omega) (fun y hy=>by have:=HB.out.1.nx y hy;omega) (by have:=HB.out.1.last;omega) (by have:=HB.out.2.1;omega)
 clear HS hout;simp only[kfL];simp only[tU,tL,Nat.reduceAdd,Nat.reduceBEq,cond_true,cond_false];dsimp only[plX,cBk,cL,cR,cLp,fK,cW,Tryz.f5];go_wp2_with fail
 (with_reducible refine BC.out.mono ?_);rintro e w3 ⟨⟨v,mvs,rfl,o3,e4⟩,f3⟩;have HH:=zH (And.intro o3 (And.intro e4 f3));have C2:=zH (DC.out w3 f3);clear o3 e4 f3 BC DC y0 y2 y3 y4 y5;obtain⟨y0,y2,y3,y4,y5⟩:=CELLS.out w3 (F2.out.trans HH.out.2.2);go_wp2_with fail
 (with_reducible refine C2.out.mono ?_);rintro e w4 ⟨⟨v2,mvs2,rfl,o4,e5⟩,f4⟩
 have TLE:Hid (TlE B w4 G D vr s' x.rb dd.1 v v2):=by have hp:=HQ.out.tt HH.out.2.2;have lb:=Nd.beat_len x.n;have h:=D2.out.tl (n':=x.n) (s':=s') (w3:=w3) G2.out i HI.out (by rw[HX.out];exact⟨q,hp⟩) (by rw[HX.out];exact .tt HH.out.2.2 HQ.out.px) HH.out.1 (by rw[HDD.out];exact⟨q2,HDQ.out.tt (HH.out.2.2.trans f4)⟩) (f4.mono fun _ _ _=>trivial) o4 (HH.out.2.1.trans e5.symm) (by rw[HH.out.2.1];exact Nd.beat_e8) (by rw[HH.out.2.1];exact Nd.beat_d) (by have:=congrArg List.length HH.out.2.1;rw[List.length_map] at this;have:=GW.out.cf.2;omega) HML.out (by rw[HH.out.2.1,HST.out,←NX.out.1,vV];rw[NX.out.1];exact OUT.out) (by have:=HB.out.2.2;omega) (by have:=GW.out.cf.2;omega) (by have:=HB.out.2.1;omega);exact ml6
 have F4:Hid (Fr (fun c _=>c<B) w2 w4):=((F2.out.trans HH.out.2.2).trans f4).mono fun _ _ _=>trivial
 clear o4 e5 f4 C2 HH y0 y2 y3 y4 y5;go_wp2_with fail
 exact L_ (K:=Q .normal) (fun fv=>TAIL.out fv w4 x.rb dd.1 v v2 0 TLE.out F4.out) (by kernel_rfl)
theorem zg_d4 [Old] [bj] {Q:Exit→Act→World→Prop} {B G g0 b0 off len cap many k i gr cr:Nat} {X:Nat→Prop} {w2:World} {l:List Rx} {ms:List MV} {tk:List (Value×Nat)} {vn vm vt vr:Value} {D:List (Nat×Nat)} {s s':Gs} (fu:Nat→Value) (ZM:Md B G len many k i gr cr X w2 l ms tk vn vm vt vr D s s') {x:Rx} {dd:Nat×Nat} (hx:l[i]? = some x) (hdd:D.getD i (0,0)=dd) (hout:({ s with ns:=s.ns.set i ((s.ns.getD i default).propose 1 [UInt8.ofNat k]).1 }:Gs)=s') (hQ:∀(fv:Nat→Value) (w5:World) (rb rd:Nat) (v v2:Value) (ec:Int),TlE B w5 G D vr s' rb rd v v2→Fr (fun c _=>c<B) w2 w5→Q .normal { tmps:=tU 264 fv ((0,.int .i64 (many:Nat)) :: (1,.slice (some ⟨b0,off,none⟩) len cap) :: (2,fu 2) :: (3,fu 3) :: (5,.bool true) :: (6,.pointer (some ⟨G,0,none⟩)) :: (7,.slice (some ⟨gr,0,none⟩) many cr) :: (8,fu 8) :: (9,fu 9) :: (10,fu 10) :: (11,.int .i64 (k:Nat)) :: (14,.pointer (some ⟨rb,0,none⟩)) :: (15,.pointer (some ⟨rd,0,none⟩)) :: (16,v) :: (17,v2) :: (18,.int .i64 ec) :: (19,.int .i64 ec) :: kfL fu [(263,fu 263)]),defers:=[] } w5) (fw:Nat→Value):
 Code.wp Tryz.prog (cR (cBk (cR (cL (fK 11 (plX (cW Tryz.f5.body))))))) Q { tmps:=tU 264 fw ((0,.int .i64 (many:Nat)) :: (1,.slice (some ⟨b0,off,none⟩) len cap) :: (2,fu 2) :: (3,fu 3) :: (5,.bool true) :: (6,.pointer (some ⟨G,0,none⟩)) :: (7,.slice (some ⟨gr,0,none⟩) many cr) :: (8,fu 8) :: (9,fu 9) :: (10,fu 10) :: (11,.int .i64 (k:Nat)) :: (12,.pointer (some ⟨g0,0,none⟩)) :: (14,.pointer (some ⟨x.rb,0,none⟩)) :: (15,.pointer (some ⟨dd.1,0,none⟩)) :: (16,.slice none 0 0) :: (17,.slice none 0 0) :: (18,.int .i64 0) :: (19,.int .i64 0) :: kfL fu [(127,.int .i64 4),(128,.bool false),(263,fu 263)]),defers:=[] } w2:=by
 refine kAF ?_;intro TAIL G2 D2 HST HS HS' HN HI KB
 have HML:Hid (ms.length≤5000):=by exact mH4
 have F2:Hid (Fr (fun _ _=>True) w2 w2):=Fr.refl _ _;clear hQ ZM
 have NX:Hid (s.ns.getD i default=x.n∧s.aps.getD i 0=x.ap):=by exact mzN
 have HX:Hid (l[i]'HI.out=x):=by exact mJh
 have hxl:x∈l:=HX.out▸List.getElem_mem HI.out
 have GW:Hid (Gw (16+3*k) (16+3*k) x.n):=by exact mNg
 refine kPr ?_;intro HDD q hq hdn hrd;rw[HDD.out,HX.out] at hdn hrd;obtain⟨q2,hdq⟩:=hdn;refine kmr ?_;intro hrb hdm HB HQ HDQ HRD HRB HNP HXL HBD CELLS y0 y2 y3 y4 y5;clear hq hdq hrd hrb hdm hx hdd;obtain⟨b8,hb8⟩:=zE (UInt8.ofNat k)
 have WB8:Hid (IntKind.u8.wrap ((k:Nat):Int)=((b8.toNat:Nat):Int)):=by show _=_;rw[←hb8,UInt8.toNat_ofNat',IntKind.wrap_u8];omega
 obtain⟨n',hn'⟩:=zE ((x.n.propose 1 [b8]).1)
 have OUT:Hid ({ s with ns:=s.ns.set i n' }=s'):=by show _=s';rw[←hout,NX.out.1,←hn',←hb8]
 have ND:Hid (n'.yes.length≤100000∧n'.conf.length≤1000∧n'.log.es.length≤100000):=by
  have h0:i<s.ns.length:=by rw[HS.out.2.2.ids.1,←HN.out];exact HI.out
  have hl:i<s'.ns.length:=by rw[←OUT.out];show i<(s.ns.set i n').length;rw[List.length_set];exact h0
  have g:=HS'.out.1.nd (i:=i) hl
  have e:s'.ns.getD i default=n':=by
   rw[←OUT.out];show (s.ns.set i n').getD i default=n'
   rw[List.getD_eq_getElem?_getD,List.getElem?_set_self h0];rfl
  rw[e] at g;have kb:=KB.out;exact⟨by have:=g.ye;omega,by have:=g.cf.2;omega,by have:=g.es;omega⟩
 obtain⟨mN,hme,hm16⟩:=GW.out.me
 have BA:Hid (∀W,Fr (fun _ _=>True) w2 W→∀g9,W.heap[g9]? = some (.cells #[.int .u8 (b8.toNat:Nat)] 5 (0,0))→w2.heap.size≤g9→BytesAt (RO X) W (.slice (some ⟨g9,0,none⟩) [b8].length 1) [b8]):=fun W f g9 t9 hg9=>⟨_,1,rfl,Nat.le_refl _,(fun e=>by cases e),.inr ⟨g9,0,_,rfl,t9,⟨fun hx=>by have:=G2.out.hx _ hx;omega,.inr ⟨_,_,_,rfl,by decide⟩⟩,fun i hi=>by
  have:i=0:=by have:i<1:=hi;omega
  subst this;exact bQ t9 rfl⟩⟩
 have PC:Hid (∀W,Fr (fun _ _=>True) w2 W→∀g9,W.heap[g9]? = some (.cells #[.int .u8 (b8.toNat:Nat)] 5 (0,0))→w2.heap.size≤g9→Calls Tryz.prog 36 #[.pointer (some ⟨x.rb,0,none⟩),.int .i64 1,.slice (some ⟨g9,0,none⟩) 1 1] W fun e w'=>POut X x.P W x.b (x.n.propose 1 [b8]) e w'):=fun W f g9 t9 hg9=>
  kQ (HQ.out.tt f) (HRB.out.1.fr f fun _=>trivial) 1 (some ⟨g9,0,none⟩) 1 [b8] (BA.out W f g9 t9 hg9) GW.out.cf (fun y hy=>(GW.out.pos y hy).1) mN hme hm16 (by have:=HB.out.1.last;omega) (by have:=HB.out.2.1;omega)
 have DC:Hid (∀W q',PNs X x.P W x.b n' q'→Fr (fun c _=>¬x.P c) w2 W→∀W',Fr (fun _ _=>True) W W'→∀g9,W'.heap[g9]? = some (.cells #[.int .u8 (b8.toNat:Nat)] 5 (0,0))→W.heap.size≤g9→Calls Tryz.prog 24 #[.pointer (some ⟨dd.2,0,none⟩),.int .i64 1,.slice (some ⟨g9,0,none⟩) 1 1] W' fun e w'=>Fj X W' dd.2 (x.n.propose 1 [b8]) e w'):=fun W q' p f W' f' g9 t9 hg9=>
  r_ ((HDQ.out.far (.of f HQ.out.px) HNP.out.1 p.hx).tt f') 1 (some ⟨g9,0,none⟩) 1 [b8] ⟨_,1,rfl,Nat.le_refl _,(fun e=>by cases e),.inr ⟨g9,0,_,rfl,t9,⟨fun hx=>by have:=p.hx _ hx;omega,.inr ⟨_,_,_,rfl,by decide⟩⟩,fun i hi=>by
  have:i=0:=by have:i<1:=hi;omega
  subst this;exact bQ t9 rfl⟩⟩ GW.out.cf GW.out.pos mN hme hm16 (by have:=HB.out.1.last;omega) (by have:=HB.out.2.1;omega)
 clear HS hb8 hme hm16 BA hout;simp only[kfL];simp only[tU,tL,Nat.reduceAdd,Nat.reduceBEq,cond_true,cond_false];dsimp only[plX,cBk,cL,cR,cLp,fK,cW,Tryz.f5];have wb:=WB8.out;go_wp2_with fail
 (with_reducible refine(PC.out _ ((Fr.refl _ w2).alloc _) _ (bZ _ _) (Nat.le_refl _)).mono ?_);rintro e w3 ⟨⟨q3,rfl,p3⟩,f3⟩;rw[hn'] at p3;have HH:=zH (And.intro p3 (((Fr.refl (fun c _=>¬x.P c) w2).alloc _).trans f3));have C2:=zH (DC.out w3 q3 HH.out.1 HH.out.2);replace y5:w3.cell? ⟨dd.1,0,none⟩=some (.pointer (some ⟨dd.2,0,none⟩)):=HH.out.2.cell (fun _ _=>HNP.out.2.1) y5;clear p3 f3 PC DC y0 y2 y3 y4;go_wp2_with fail
 (with_reducible refine(C2.out _ ((Fr.refl _ w3).alloc _) _ (bZ _ _) (Nat.le_refl _)).mono ?_);rintro e w4 ⟨⟨q4,rfl,d4⟩,f4⟩;rw[hn'] at d4;have F34:Hid (Fr (fun c _=>c≠dd.2) w3 w4):=((Fr.refl _ w3).alloc _).trans f4
 have TLE:Hid (TlE B w4 G D vr s' x.rb dd.1 (.slice none 0 0) (.slice none 0 0)):=by have h:=D2.out.tl (n':=n') (s':=s') (w3:=w3) (mvs:=[]) (mvs2:=[]) (B1:=0) (B2:=0) G2.out i HI.out (by rw[HX.out];exact⟨q3,HH.out.1⟩) (by rw[HX.out];exact .of HH.out.2 HQ.out.px) (OwnMs.nil _ _ _) (by rw[HDD.out];exact⟨q4,d4⟩) (by rw[HDD.out];exact F34.out) (OwnMs.nil _ _ _) rfl Es8.nil Dat.nil (Nat.zero_le _) HML.out (by rw[HST.out];show Gs.send _ []=s';rw[m9];exact OUT.out) ND.out.1 ND.out.2.1 ND.out.2.2;exact ml6
 have F4:Hid (Fr (fun c _=>c<B) w2 w4):=((F2.out.mono fun _ _ _=>trivial).trans (HH.out.2.mono fun c _ hc k=>by have:=HXL.out c (HQ.out.px c k);omega)).trans (F34.out.mono fun c _ hc e=>by have:=HXL.out _ HNP.out.2.2.2.1;omega);clear d4 f4 C2 HH F34 y5;go_wp2_with fail
 exact L_ (K:=Q .normal) (fun fv=>TAIL.out fv w4 x.rb dd.1 (.slice none 0 0) (.slice none 0 0) (x.n.propose 1 [b8]).2.2 TLE.out F4.out) (by kernel_rfl)
theorem zg_d5 [Old] [bj] {Q:Exit→Act→World→Prop} {B G g0 b0 off len cap many k i gr cr:Nat} {X:Nat→Prop} {w2:World} {l:List Rx} {ms:List MV} {tk:List (Value×Nat)} {vn vm vt vr:Value} {D:List (Nat×Nat)} {s s':Gs} (fu:Nat→Value) (ZM:Md B G len many k i gr cr X w2 l ms tk vn vm vt vr D s s') {x:Rx} {dd:Nat×Nat} (hx:l[i]? = some x) (hdd:D.getD i (0,0)=dd) (hout:s.applied i=s') (hQ:∀(fv:Nat→Value) (w5:World) (rb rd:Nat) (v v2:Value) (ec:Int),TlE B w5 G D vr s' rb rd v v2→Fr (fun c _=>c<B) w2 w5→Q .normal { tmps:=tU 264 fv ((0,.int .i64 (many:Nat)) :: (1,.slice (some ⟨b0,off,none⟩) len cap) :: (2,fu 2) :: (3,fu 3) :: (5,.bool true) :: (6,.pointer (some ⟨G,0,none⟩)) :: (7,.slice (some ⟨gr,0,none⟩) many cr) :: (8,fu 8) :: (9,fu 9) :: (10,fu 10) :: (11,.int .i64 (k:Nat)) :: (14,.pointer (some ⟨rb,0,none⟩)) :: (15,.pointer (some ⟨rd,0,none⟩)) :: (16,v) :: (17,v2) :: (18,.int .i64 ec) :: (19,.int .i64 ec) :: kfL fu [(263,fu 263)]),defers:=[] } w5) (fw:Nat→Value):
 Code.wp Tryz.prog (cR (cBk (cR (cL (fK 11 (plX (cW Tryz.f5.body))))))) Q { tmps:=tU 264 fw ((0,.int .i64 (many:Nat)) :: (1,.slice (some ⟨b0,off,none⟩) len cap) :: (2,fu 2) :: (3,fu 3) :: (5,.bool true) :: (6,.pointer (some ⟨G,0,none⟩)) :: (7,.slice (some ⟨gr,0,none⟩) many cr) :: (8,fu 8) :: (9,fu 9) :: (10,fu 10) :: (11,.int .i64 (k:Nat)) :: (12,.pointer (some ⟨g0,0,none⟩)) :: (14,.pointer (some ⟨x.rb,0,none⟩)) :: (15,.pointer (some ⟨dd.1,0,none⟩)) :: (16,.slice none 0 0) :: (17,.slice none 0 0) :: (18,.int .i64 0) :: (19,.int .i64 0) :: kfL fu [(127,.int .i64 5),(128,.bool false),(263,fu 263)]),defers:=[] } w2:=by
 refine kAF ?_;intro TAIL G2 D2 HST HS HS' HN HI KB
 have HML:Hid (ms.length≤5000):=by exact mH4
 have F2:Hid (Fr (fun _ _=>True) w2 w2):=Fr.refl _ _;clear hQ ZM
 have NX:Hid (s.ns.getD i default=x.n∧s.aps.getD i 0=x.ap):=by exact mzN
 have HX:Hid (l[i]'HI.out=x):=by exact mJh
 have hxl:x∈l:=HX.out▸List.getElem_mem HI.out
 have GW:Hid (Gw (16+3*k) (16+3*k) x.n):=by exact mNg
 refine kPr ?_;intro HDD q hq hdn hrd;rw[HDD.out,HX.out] at hdn hrd;obtain⟨q2,hdq⟩:=hdn;refine kmr ?_;intro hrb hdm HB HQ HDQ HRD HRB HNP HXL HBD CELLS y0 y2 y3 y4 y5;clear hq hdq hrd hrb hdm hx hdd
 have OUT:Hid (s.applied i=s'):=by exact hout
 have CM:Hid (x.n.commit≤x.n.log.es.length∧x.n.log.base=0):=by have:=HS.out.2.2.com (j:=i) (by have:=HI.out;have:=HN.out;omega);rw[NX.out.1] at this;exact⟨this.1,this.2.1⟩
 have GA:Hid (x.ap≤16+3*k):=by
  have h0:x.ap∈s.aps:=by rw[←HST.out];exact List.mem_map.2 ⟨x,hxl,rfl⟩
  exact HS.out.2.1.gi.ap _ h0
 have LA:Hid (x.n.log.last≤1000):=by show _≤_;have:=CM.out.2;have:=HB.out.2.1;unfold Lg.last;omega
 have TC:=zH (pX HQ.out HRB.out.1 (by have:=GA.out;have:=KB.out;omega) (by have:=CM.out.2;omega) (by have:=CM.out.1;have:=HB.out.2.1;omega) (by have:=LA.out;omega))
 have DC:Hid (∀w3,Fr (fun c _=>c≠x.rb) w2 w3→∃q3,(DNs X w3 dd.2 x.n q3∧RD w3 dd.1 dd.2 x.ap)∧Calls Tryz.prog 38 #[.pointer (some ⟨dd.1,0,none⟩)] w3 fun e w'=>TdOut w3 dd.1 dd.2 x.ap x.n.log.base q3.es x.n.commit e w'):=fun w3 f=>by have hd3:=D2.out.keep f (dq HRB.out.1 (by decide) HRB.out.2.1) (fun c cs fz e hc=>by subst hc;rw[show w2.heap[x.rb]? = _ from HRB.out.1] at e;cases e) (fun c cs fz e hc=>by subst hc;rw[show w2.heap[x.rb]? = _ from HRB.out.1] at e;cases e);have h:=hd3.dn i HI.out;have hr:=hd3.dr i HI.out;rw[HDD.out,HX.out] at h hr;obtain⟨q3,h⟩:=h;exact⟨q3,⟨h,hr⟩,Dj h hr (by have:=GA.out;have:=KB.out;omega) (by have:=CM.out.1;have:=HB.out.2.1;omega) (by have:=LA.out;omega) (by have:=CM.out;unfold Lg.last;omega)⟩
 obtain⟨cnt,hcnt⟩:=zE (x.n.commit-max x.ap x.n.log.base);have CN:=zH hcnt
 have HAP:Hid (({ s with aps:=s.aps.set i (max x.ap x.n.commit) }:Gs)=s'):=by show _=s';rw[←OUT.out];unfold Gs.applied;rw[NX.out.1,NX.out.2]
 have cn9:(cnt:Int)≤1000:=by have:=CM.out.1;have:=HB.out.2.1;omega
 clear HS OUT hout;simp only[kfL];simp only[tU,tL,Nat.reduceAdd,Nat.reduceBEq,cond_true,cond_false];dsimp only[plX,cBk,cL,cR,cLp,fK,cW,Tryz.f5];go_wp2_with fail
 (with_reducible refine TC.out.mono ?_);rintro e w3 ⟨g1,c1,rfl,r1,t1,f1⟩;rw[hcnt] at r1 ⊢;obtain⟨q3,d3,c2⟩:=DC.out w3 f1;have C2:=zH c2;have HH:=zH (And.intro r1 (And.intro t1 (And.intro f1 d3)));clear r1 t1 f1 d3 c2 TC DC y0 y2 y3 y4 y5;go_wp2_with fail
 (with_reducible refine C2.out.mono ?_);rintro e w4 ⟨g2,c2,rfl,r2,t2,f2⟩;rw[hcnt] at r2 ⊢;have RT:=zH (And.intro r2 (And.intro t2 f2));clear r2 t2 f2 C2 hcnt
 have TLE:Hid (∀W,Fr (fun _ _=>True) w4 W→TlE B W G D vr s' x.rb dd.1 (.slice none 0 0) (.slice none 0 0)):=fun W f=>by have h:=D2.out.tlA (s':=s') (ap':=max x.ap x.n.commit) (w3:=w3) (w4:=W) G2.out i HI.out (by rw[HX.out];exact HH.out.2.2.1) (by rw[HX.out];exact HH.out.2.1) (by rw[HDD.out];exact RT.out.2.2.trans (f.mono fun _ _ _=>trivial)) (by rw[HDD.out];exact RT.out.2.1.fr f fun _=>trivial) HML.out (by rw[HST.out];exact HAP.out) (by rw[HX.out];have:=HB.out.2.2;omega) (by rw[HX.out];have:=GW.out.cf.2;omega) (by rw[HX.out];have:=HB.out.2.1;omega);exact ml6
 have F4:Hid (Fr (fun c _=>c<B) w2 w4):=((F2.out.mono fun _ _ _=>trivial).trans (HH.out.2.2.1.mono fun c _ hc e=>by have:=HBD.out.2;have hc':c<B:=hc;omega)).trans (RT.out.2.2.mono fun c _ hc e=>by have:=HBD.out.1;have hc':c<B:=hc;omega)
 have TK:Hid (∀j,j<cnt→_):=fun j hj=>by
  have r1:=bK HH.out.1 RT.out.2.2 fun k o e ho hk=>cX HH.out.1 HH.out.2.2.2.2 (by decide) (hk▸e)
  have r2:=RT.out.1;rw[CM.out.2] at r1 r2;exact L7 ((HQ.out.ev.fr HH.out.2.2.1 fun c o ho hr=>dq HRB.out.1 (by decide) HRB.out.2.1 c o ho (.inr hr)).fr RT.out.2.2 fun c o ho hr=>dq HH.out.2.2.2.2 (by decide) HNP.out.2.2.2.2 c o ho (.inr hr)) (HH.out.2.2.2.1.ev.fr RT.out.2.2 fun c o ho hr=>dq HH.out.2.2.2.2 (by decide) HNP.out.2.2.2.2 c o ho (.inr hr)) (HQ.out.ee.symm.trans HH.out.2.2.2.1.ee) (by have:=CN.out;have:=CM.out;have:=congrArg List.length HQ.out.ee;rw[List.length_map] at this;omega) r1 r2 j hj
 clear HH RT HAP CELLS;go_wp2_with fail
 go_loopw [23] (fun v wq=>∃j:Nat,v=.int .i64 (j:Nat)∧j≤cnt∧Hid (Fr (fun _ _=>True) w4 wq)) (fun v _=>cnt-(intOf v).toNat)
 case atStart=>exact⟨0,rfl,Nat.zero_le _,Fr.refl _ _⟩
 case round=>
  obtain⟨j,rfl,hj,HFQ⟩:=hrel;by_cases hlt:j<cnt
  case neg=>
   have hge:¬(j:Int)<(cnt:Int):=by omega
   clear hlt;go_wp2_with fail
   exact L_ (K:=Q .normal) (fun fv=>TAIL.out fv _ x.rb dd.1 (.slice none 0 0) (.slice none 0 0) 0 (TLE.out _ HFQ.out) (F4.out.trans (HFQ.out.mono fun _ _ _=>trivial))) (by kernel_rfl)
  case pos=>
   have hltI:(j:Int)<(cnt:Int):=by omega
   obtain⟨b1,p1,b2,p2,t,a1,a2,n,k1,k2,rfl,rfl,hz⟩:=TK.out j hlt;obtain⟨z1,z2,z3,z4,z5,z6,-⟩:=hz _ HFQ.out;have SC:=zH fun n'=>(hz _ (HFQ.out.drewN n')).2.2.2.2.2.2
   clear hz;go_wp2_with fail
   go_quiet ((go_at_call 39;exact Calls.quiet_of (SC.out _)))
   go_wp2;go_roundw
   case rel=>exact⟨j+1,by go_num,hlt,HFQ.out.drewN nq⟩
   case measure=>simp [intOf];omega
theorem zg_dN [Old] [bj] {Q:Exit→Act→World→Prop} {B G g0 b0 off len cap many k i gr cr:Nat} {X:Nat→Prop} {w2:World} {l:List Rx} {ms:List MV} {tk:List (Value×Nat)} {vn vm vt vr:Value} {D:List (Nat×Nat)} {s s':Gs} (fu:Nat→Value) (ZM:Md B G len many k i gr cr X w2 l ms tk vn vm vt vr D s s') {x:Rx} {dd:Nat×Nat} (hx:l[i]? = some x) (hdd:D.getD i (0,0)=dd) {d:Int} (g2:(d==2)=false) (g3:(d==3)=false) (g4:(d==4)=false) (g5:(d==5)=false) (hout:s=s') (hQ:∀(fv:Nat→Value) (w5:World) (rb rd:Nat) (v v2:Value) (ec:Int),TlE B w5 G D vr s' rb rd v v2→Fr (fun c _=>c<B) w2 w5→Q .normal { tmps:=tU 264 fv ((0,.int .i64 (many:Nat)) :: (1,.slice (some ⟨b0,off,none⟩) len cap) :: (2,fu 2) :: (3,fu 3) :: (5,.bool true) :: (6,.pointer (some ⟨G,0,none⟩)) :: (7,.slice (some ⟨gr,0,none⟩) many cr) :: (8,fu 8) :: (9,fu 9) :: (10,fu 10) :: (11,.int .i64 (k:Nat)) :: (14,.pointer (some ⟨rb,0,none⟩)) :: (15,.pointer (some ⟨rd,0,none⟩)) :: (16,v) :: (17,v2) :: (18,.int .i64 ec) :: (19,.int .i64 ec) :: kfL fu [(263,fu 263)]),defers:=[] } w5) (fw:Nat→Value):
 Code.wp Tryz.prog (cR (cBk (cR (cL (fK 11 (plX (cW Tryz.f5.body))))))) Q { tmps:=tU 264 fw ((0,.int .i64 (many:Nat)) :: (1,.slice (some ⟨b0,off,none⟩) len cap) :: (2,fu 2) :: (3,fu 3) :: (5,.bool true) :: (6,.pointer (some ⟨G,0,none⟩)) :: (7,.slice (some ⟨gr,0,none⟩) many cr) :: (8,fu 8) :: (9,fu 9) :: (10,fu 10) :: (11,.int .i64 (k:Nat)) :: (12,.pointer (some ⟨g0,0,none⟩)) :: (14,.pointer (some ⟨x.rb,0,none⟩)) :: (15,.pointer (some ⟨dd.1,0,none⟩)) :: (16,.slice none 0 0) :: (17,.slice none 0 0) :: (18,.int .i64 0) :: (19,.int .i64 0) :: kfL fu [(127,.int .i64 d),(128,.bool false),(263,fu 263)]),defers:=[] } w2:=by
 refine kAF ?_;intro TAIL G2 D2 HST HS HS' HN HI KB
 have HML:Hid (ms.length≤5000):=by exact mH4
 have F2:Hid (Fr (fun _ _=>True) w2 w2):=Fr.refl _ _;clear hQ ZM
 have NX:Hid (s.ns.getD i default=x.n∧s.aps.getD i 0=x.ap):=by exact mzN
 have HX:Hid (l[i]'HI.out=x):=by exact mJh
 have hxl:x∈l:=HX.out▸List.getElem_mem HI.out
 have GW:Hid (Gw (16+3*k) (16+3*k) x.n):=by exact mNg
 refine kPr ?_;intro HDD q hq hdn hrd;rw[HDD.out,HX.out] at hdn hrd;obtain⟨q2,hdq⟩:=hdn;refine kmr ?_;intro hrb hdm HB HQ HDQ HRD HRB HNP HXL HBD CELLS y0 y2 y3 y4 y5;clear hq hdq hrd hrb hdm hx hdd;have OUT:Hid (s=s'):=hout
 have TLE:Hid (TlE B w2 G D vr s' x.rb dd.1 (.slice none 0 0) (.slice none 0 0)):=by have h:=D2.out.tl (n':=x.n) (s':=s') (w3:=w2) (mvs:=[]) (mvs2:=[]) (B1:=0) (B2:=0) G2.out i HI.out (by rw[HX.out];exact⟨q,HQ.out⟩) (by rw[HX.out];exact .refl HQ.out.px w2) (OwnMs.nil _ _ _) (by rw[HDD.out];exact⟨q2,HDQ.out⟩) (Fr.refl _ _) (OwnMs.nil _ _ _) rfl Es8.nil Dat.nil (Nat.zero_le _) HML.out (by rw[HST.out,←NX.out.1,vV];show s.send []=s';rw[m9];exact OUT.out) (by have:=HB.out.2.2;omega) (by have:=GW.out.cf.2;omega) (by have:=HB.out.2.1;omega);exact ml6
 clear HS CELLS hout;simp only[kfL];simp only[tU,tL,Nat.reduceAdd,Nat.reduceBEq,cond_true,cond_false];dsimp only[plX,cBk,cL,cR,cLp,fK,cW,Tryz.f5];go_wp2_with fail
 exact L_ (K:=Q .normal) (fun fv=>TAIL.out fv w2 x.rb dd.1 (.slice none 0 0) (.slice none 0 0) 0 TLE.out (F2.out.mono fun _ _ _=>trivial)) (by kernel_rfl)
theorem krd {p q:Prop} (k:q) (h:q→p:=by
 have MDD:Hid (Md B G len many k i gr' cr' X w2 l ms tk vn vm vt vr D s s'):=⟨HG.out.tt F2.out,HD.out.tt F2.out,HST.out,HS.out.1,HS.out.2,HS'.out,HN.out,by have:=HI.out;have:=HN.out;omega,NUM.out.2.2⟩
 intro kk0;revert MDD;exact kk0):p:=h k
theorem m64 {p:Prop} (h:p:=by
 have y0:=(HG.out.gcells f).1;rw[hvn] at y0;have n1:=NC W f i HI.out;have r1:=RC W f i HI.out;rw[hx] at n1;rw[hdd] at r1;exact⟨y0,n1.1,n1.2,r1.1,r1.2⟩):p:=h
theorem mL8 {p:Prop} (h:p:=by
 have e:=hvr.symm.trans HVR.out;injection e with e1 _ e3
 injection e1 with e4
 injection e4 with e5 _
 exact⟨e5,e3⟩):p:=h
theorem zg_round [Old] [bj] {Q:Exit→Act→World→Prop} {B G g0 b0 off len cap many k gr cr:Nat} {X:Nat→Prop} {w1:World} {l:List Rx} {ms:List MV} {tk:List (Value×Nat)} {vn vm vt vr:Value} {D:List (Nat×Nat)} {s:Gs} (fu:Nat→Value) (d kk:Int) (hg:G13 B X w1 G l ms tk 0 vn vm vt) (hd:Dc B X w1 l D vr) (hs:St l ms tk 0=s) (hj:GJ (16+3*k) s) (hf:kv many s) (hvr:vr=.slice (some ⟨gr,0,none⟩) many cr) (h1:1≤many) (h5:many≤5) (hk:k<len) (hl:len≤200) (t0:w1.heap[g0]? = some (.cells #[.int .i64 d,.int .i64 kk] 72 (0,0))) (hQ:∀e:Exit,e=.normal∨e=.exit 3→∀(fv:Nat→Value) (w8:World),Pp B w8 G D vr (s.playP k d kk)→Fr (fun c _=>c<B) w1 w8→Q e { tmps:=tU 264 fv ((0,.int .i64 (many:Nat)) :: (1,.slice (some ⟨b0,off,none⟩) len cap) :: (2,fu 2) :: (3,fu 3) :: (5,.bool true) :: (6,.pointer (some ⟨G,0,none⟩)) :: (7,.slice (some ⟨gr,0,none⟩) many cr) :: (8,fu 8) :: (9,fu 9) :: (10,fu 10) :: (11,.int .i64 (k:Nat)) :: kfL fu [(263,fu 263)]),defers:=[] } w8) (fw:Nat→Value):
 Code.wp Tryz.prog (fK 1 (plX (cW Tryz.f5.body))) Q { tmps:=tU 264 fw ((0,.int .i64 (many:Nat)) :: (1,.slice (some ⟨b0,off,none⟩) len cap) :: (2,fu 2) :: (3,fu 3) :: (5,.bool true) :: (6,.pointer (some ⟨G,0,none⟩)) :: (7,.slice (some ⟨gr,0,none⟩) many cr) :: (8,fu 8) :: (9,fu 9) :: (10,fu 10) :: (11,.int .i64 (k:Nat)) :: (12,.pointer (some ⟨g0,0,none⟩)) :: kfL fu [(263,fu 263)]),defers:=[] } w1:=by
 have HQ:=zH hQ;have HG:=zH hg;have HD:=zH hd;have HST:=zH hs;have HS:=zH (And.intro hj hf);have HVR:=zH hvr;have NUM:=zH (And.intro h1 (And.intro h5 (And.intro hk hl)));have T1:Hid (w1.heap[g0]? = some (.cells #[.int .i64 d,.int .i64 kk] 72 (0,0))):=t0;obtain⟨M,hM⟩:=zE ms.length;have HM:=zH hM
 have HN:Hid (l.length=many):=by have:=hf.ids.1;rw[←hs] at this;show l.length=many;rw[←this];exact(List.length_map _).symm
 have hMI:(M:Int)≤5000:=by have:=hj.gi.ln;rw[←hs] at this;have e:(St l ms tk 0).ms.length=ms.length:=List.length_map _;omega
 have hm5:(many:Int)≤5:=by omega
 obtain⟨gmA,cm,hvm⟩:=bz hg.rm.row;rw[hM] at hvm;have y1:=(hg.gcells (Fr.refl _ w1)).2.1;rw[hvm] at y1;have HVM:=zH hvm
 have HVC:Hid (∀W,Fr (fun _ _=>True) w1 W→W.cell? ⟨G,1,none⟩=some (.slice gmA M cm)):=fun W f=>by have:=(hg.gcells f).2.1;rw[hvm] at this;exact this
 obtain⟨s',hs'⟩:=zE (s.playP k d kk)
 have HS':Hid (GJ (16+3*(k+1)) s'∧kv many s'):=by rw[←hs'];exact⟨(hj.playP k d kk).mono (by omega),hf.playP (by omega) k d kk⟩
 rw[hs'] at HQ
 have EQ:Hid (s'=if kk<0∨(d≠2∧(many:Int)≤kk)∨(d=2∧(M:Int)≤kk) then s else if d=1 then({ s with ns:=s.ns.set kk.toNat (s.ns.getD kk.toNat default).timeout.1 }:Gs).send (s.ns.getD kk.toNat default).timeout.2 else
  if d=2 then s.arrive kk.toNat else if d=3 then s.send (s.ns.getD kk.toNat default).beat else if d=4 then { s with ns:=s.ns.set kk.toNat ((s.ns.getD kk.toNat default).propose 1 [UInt8.ofNat k]).1 } else if d=5 then s.applied kk.toNat else s):=by
  show s'=_;have e1:(s.ns.length:Int)=(many:Int):=by rw[hf.ids.1]
  have e2:(s.ms.length:Int)=(M:Int):=by rw[←hs,←hM];show ((ms.map MV.ms).length:Int)=_;rw[List.length_map]
  rw[←hs'];unfold Gs.playP;rw[e1,e2]
 have o0:=bQ (i:=0) T1.out rfl;have o1:=bQ (i:=1) T1.out rfl;clear hQ hg hd hs hj hf hvr h1 h5 hk hl t0 hM hvm hs';simp only[kfL];simp only[tU,tL,Nat.reduceAdd,Nat.reduceBEq,cond_true,cond_false];dsimp only[plX,cBk,cL,cR,cLp,fK,cW,Tryz.f5];by_cases hno:kk<0∨(d≠2∧(many:Int)≤kk)∨(d=2∧(M:Int)≤kk)
 case pos=>
  have OUT:Hid (s'=s):=EQ.out.trans (if_pos hno)
  have C3:Hid (kk<0∨¬kk<0∧(d==2)=false∧(many:Int)≤kk∨¬kk<0∧(d==2)=true∧(M:Int)≤kk):=by
   show _∨_;by_cases e:kk<0
   ·exact .inl e
   ·exact mSx
  clear hno EQ;rcases C3.out with d1 | ⟨d1,d2,d3⟩ | ⟨d1,d2,d3⟩
  case' inr.inl=>have d4:(d != 2)=true:=by rw[bne,d2];rfl
  case' inr.inr=>have d4:(d != 2)=false:=by rw[bne,d2];rfl
  all_goals
   clear C3;go_upto_region 15 with fail
   go_quiet (fail)
   have U:Hid (Fr (fun _ _=>True) w1 (w1.drewN nq)):=(Fr.refl _ w1).drewN nq;generalize w1.drewN nq=w2 at U ⊢;clear o0 o1 y1;go_wp2_with fail
   exact L_ (K:=Q (.exit 3)) (fun fv=>HQ.out _ (.inr rfl) fv w2 ⟨X,l,ms,tk,vn,vm,vt,HG.out.tt U.out,HD.out.tt U.out,by rw[OUT.out];exact HST.out⟩ (U.out.mono fun _ _ _=>trivial)) (by kernel_rfl)
 case neg=>
  replace EQ:=zH (EQ.out.trans (if_neg hno));by_cases hd2:d=2
  case pos=>
   obtain⟨mi,rfl⟩:∃i:Nat,kk=(i:Nat):=⟨kk.toNat,by omega⟩
   have i0:¬((mi:Int)<0):=by omega
   have d1:(d==2)=true:=by simpa using hd2
   have d2:(d != 2)=false:=by rw[bne,d1];rfl
   have d3:¬(M:Int)≤(mi:Int):=by omega
   have g1:(d==1)=false:=by rw[hd2];rfl
   have HMI:Hid (mi<ms.length):=by have:=HM.out;show mi<ms.length;omega
   have hmS:(ms[mi]'HMI.out).ms∈s.ms:=by rw[←HST.out];exact List.mem_map.2 ⟨_,List.getElem_mem HMI.out,rfl⟩
   obtain⟨ja,i,-,hdi,-,hin⟩:=HS.out.2.dst hmS;have HDI:Hid ((ms[mi]'HMI.out).dst=((i:Nat):Int)):=hdi;obtain⟨gm,off2,cm2,hvm2,MC0⟩:=HG.out.mcell mi HMI.out
   obtain⟨rfl,rfl⟩:gmA=some ⟨gm,off2,none⟩∧cm=cm2:=by
    have e:=HVM.out.symm.trans hvm2;injection e with e1 _ e3
    exact⟨e1,e3⟩
   have HI:Hid (i<l.length):=by have:=HN.out;show i<l.length;omega
   have HOUT:Hid (s.arrive mi=s'):=by show _=s';rw[EQ.out,if_neg (by rw[hd2];decide),if_pos hd2,Int.toNat_natCast]
   have hinI:(i:Int)<(many:Int):=by omega
   have i9:¬((i:Int)<0):=by omega
   have j9:¬(many:Int)≤(i:Int):=by omega
   obtain⟨x,hx⟩:=zE (l[i]'HI.out);have HX:Hid (l[i]? = some x):=by show _=_;rw[List.getElem?_eq_getElem HI.out,hx]
   obtain⟨gn,cn,hvn,NC⟩:=HG.out.nrow (by have:=HI.out;omega);obtain⟨gr',cr',hvr,RC⟩:=HD.out.rcell (by have:=HI.out;omega);rw[HN.out] at hvn hvr
   obtain⟨rfl,rfl⟩:gr'=gr∧cr'=cr:=by exact mL8
   obtain⟨dd,hdd⟩:=zE (D.getD i (0,0));have HDD:=zH hdd
   have CELLS:Hid (∀W,Fr (fun _ _=>True) w1 W→W.cell? ⟨G,0,none⟩=some (.slice (some ⟨gn,0,none⟩) many cn)∧W.cell? ⟨gn,i,none⟩=some (.pointer (some ⟨x.rb,0,none⟩))∧W.cell? ⟨x.rb,0,none⟩=some (.pointer (some ⟨x.b,0,none⟩))∧W.cell? ⟨gr',i,none⟩=some (.pointer (some ⟨dd.1,0,none⟩))∧W.cell? ⟨dd.1,0,none⟩=some (.pointer (some ⟨dd.2,0,none⟩))):=fun W f=>by exact m64
   have MC2:Hid (∀W,Fr (fun _ _=>True) w1 W→W.cell? ⟨gm,off2+mi*10+2,none⟩=some (.int .i64 (i:Nat))):=fun W f=>by have h2:=MC0 W f 2 _ rfl;rw[HDI.out] at h2;exact h2
   clear hno hx hvn hvr NC RC hdd EQ hdi hvm2 hmS hin hd2 MC0;go_upto_region 15 with fail
   go_quiet (fail)
   have U:Hid (Fr (fun _ _=>True) w1 (w1.drewN nq)):=(Fr.refl _ w1).drewN nq;generalize w1.drewN nq=wq at U ⊢;clear o0 o1 y1;have TQ:Hid (wq.heap[g0]? = some (.cells #[.int .i64 d,.int .i64 (mi:Nat)] 72 (0,0))):=U.out.keep _ _ T1.out trivial;have o0:=bQ (i:=0) TQ.out rfl;have o1:=bQ (i:=1) TQ.out rfl;have y2:=HVC.out wq U.out;have c2:=MC2.out wq U.out;go_upto_region 18 with fail
   go_quiet (fail)
   have UU:Hid (Fr (fun _ _=>True) wq (wq.drewN nq)):=(Fr.refl _ wq).drewN nq;generalize wq.drewN nq=w2 at UU ⊢;clear o0 o1 y2 c2;have F2:Hid (Fr (fun _ _=>True) w1 w2):=U.out.trans UU.out;have T2:Hid (w2.heap[g0]? = some (.cells #[.int .i64 d,.int .i64 (mi:Nat)] 72 (0,0))):=UU.out.keep _ _ TQ.out trivial;have o0:=bQ (i:=0) T2.out rfl;refine krd ?_;intro MDD;obtain⟨y0,y2,y3,y4,y5⟩:=CELLS.out w2 F2.out;go_upto_region 28 with fail
   rename_i K2 h2 K3 h3;have H2:=zH h2;have H3:=zH h3;clear h2 h3
   have TAILK:Hid (∀(fv:Nat→Value) (w5:World) (rb rd:Nat) (v v2:Value) (ec:Int),TlE B w5 G D vr s' rb rd v v2→Fr (fun c _=>c<B) w2 w5→K2 { tmps:=tU 264 fv ((0,.int .i64 (many:Nat)) :: (1,.slice (some ⟨b0,off,none⟩) len cap) :: (2,fu 2) :: (3,fu 3) :: (5,.bool true) :: (6,.pointer (some ⟨G,0,none⟩)) :: (7,.slice (some ⟨gr',0,none⟩) many cr') :: (8,fu 8) :: (9,fu 9) :: (10,fu 10) :: (11,.int .i64 (k:Nat)) :: (14,.pointer (some ⟨rb,0,none⟩)) :: (15,.pointer (some ⟨rd,0,none⟩)) :: (16,v) :: (17,v2) :: (18,.int .i64 ec) :: (19,.int .i64 ec) :: kfL fu [(263,fu 263)]),defers:=[] } w5):=fun fv w5 rb rd v v2 ec hT hF5=>
    H2.out _ _ (l_ fu HVR.out hT (fun fv w8 p f=>HQ.out _ (.inl rfl) fv w8 p ((F2.out.mono fun _ _ _=>trivial).trans (hF5.trans f))) fv)
   go_wp2_with fail
   refine H3.out _ _ ?_;exact cw (fun f'=>zg_d2 (g0:=g0) fu MDD.out HX.out HDD.out d1 HVM.out HM.out HMI.out HDI.out T2.out HOUT.out TAILK.out f') (by kernel_rfl)
  case neg=>
   obtain⟨i,rfl⟩:∃i:Nat,kk=(i:Nat):=⟨kk.toNat,by omega⟩
   have i0:¬((i:Int)<0):=by omega
   have d1:(d==2)=false:=by simpa using hd2
   have d2:(d != 2)=true:=by rw[bne,d1];rfl
   have d3:¬(many:Int)≤(i:Int):=by omega
   have HI:Hid (i<l.length):=by have:=HN.out;show i<l.length;omega
   rw[Int.toNat_natCast] at EQ;obtain⟨x,hx⟩:=zE (l[i]'HI.out);have HX:Hid (l[i]? = some x):=by show _=_;rw[List.getElem?_eq_getElem HI.out,hx]
   obtain⟨gn,cn,hvn,NC⟩:=HG.out.nrow (by have:=HI.out;omega);obtain⟨gr',cr',hvr,RC⟩:=HD.out.rcell (by have:=HI.out;omega);rw[HN.out] at hvn hvr
   obtain⟨rfl,rfl⟩:gr'=gr∧cr'=cr:=by exact mL8
   obtain⟨dd,hdd⟩:=zE (D.getD i (0,0));have HDD:=zH hdd
   have CELLS:Hid (∀W,Fr (fun _ _=>True) w1 W→W.cell? ⟨G,0,none⟩=some (.slice (some ⟨gn,0,none⟩) many cn)∧W.cell? ⟨gn,i,none⟩=some (.pointer (some ⟨x.rb,0,none⟩))∧W.cell? ⟨x.rb,0,none⟩=some (.pointer (some ⟨x.b,0,none⟩))∧W.cell? ⟨gr',i,none⟩=some (.pointer (some ⟨dd.1,0,none⟩))∧W.cell? ⟨dd.1,0,none⟩=some (.pointer (some ⟨dd.2,0,none⟩))):=fun W f=>by exact m64
   clear hno hx hvn hvr NC RC hdd HVM;go_upto_region 15 with fail
   go_quiet (fail)
   have U:Hid (Fr (fun _ _=>True) w1 (w1.drewN nq)):=(Fr.refl _ w1).drewN nq;generalize w1.drewN nq=w2 at U ⊢;clear o0 o1 y1;have F2:Hid (Fr (fun _ _=>True) w1 w2):=U.out;have T2:Hid (w2.heap[g0]? = some (.cells #[.int .i64 d,.int .i64 (i:Nat)] 72 (0,0))):=U.out.keep _ _ T1.out trivial;have o0:=bQ (i:=0) T2.out rfl;have o1:=bQ (i:=1) T2.out rfl;refine krd ?_;intro MDD;obtain⟨y0,y2,y3,y4,y5⟩:=CELLS.out w2 F2.out;by_cases e1:d=1
   ·have HOUT:Hid (({ s with ns:=s.ns.set i (s.ns.getD i default).timeout.1 }:Gs).send (s.ns.getD i default).timeout.2=s'):=(EQ.out.trans (if_pos e1)).symm;have g1:(d==1)=true:=by simpa using e1
    have E1:=zH e1;clear e1 EQ;go_upto_region 28 with fail
    rename_i K2 h2 K3 h3;have H2:=zH h2;have H3:=zH h3;clear h2 h3
    have TAILK:Hid (∀(fv:Nat→Value) (w5:World) (rb rd:Nat) (v v2:Value) (ec:Int),TlE B w5 G D vr s' rb rd v v2→Fr (fun c _=>c<B) w2 w5→K2 { tmps:=tU 264 fv ((0,.int .i64 (many:Nat)) :: (1,.slice (some ⟨b0,off,none⟩) len cap) :: (2,fu 2) :: (3,fu 3) :: (5,.bool true) :: (6,.pointer (some ⟨G,0,none⟩)) :: (7,.slice (some ⟨gr',0,none⟩) many cr') :: (8,fu 8) :: (9,fu 9) :: (10,fu 10) :: (11,.int .i64 (k:Nat)) :: (14,.pointer (some ⟨rb,0,none⟩)) :: (15,.pointer (some ⟨rd,0,none⟩)) :: (16,v) :: (17,v2) :: (18,.int .i64 ec) :: (19,.int .i64 ec) :: kfL fu [(263,fu 263)]),defers:=[] } w5):=fun fv w5 rb rd v v2 ec hT hF5=>
     H2.out _ _ (l_ fu HVR.out hT (fun fv w8 p f=>HQ.out _ (.inl rfl) fv w8 p ((F2.out.mono fun _ _ _=>trivial).trans (hF5.trans f))) fv)
    go_wp2_with fail
    refine H3.out _ _ ?_;have e1:=E1.out;subst e1;exact cw (fun f'=>zg_d1 (g0:=g0) fu MDD.out HX.out HDD.out HOUT.out TAILK.out f') (by kernel_rfl)
   ·have g1:(d==1)=false:=by simpa using e1
    replace EQ:=zH ((EQ.out.trans (if_neg e1)).trans (if_neg hd2));by_cases e3:d=3
    ·have HOUT:Hid (s.send (s.ns.getD i default).beat=s'):=(EQ.out.trans (if_pos e3)).symm;have E1:=zH e3;clear e3 EQ;go_upto_region 28 with fail
     rename_i K2 h2 K3 h3;have H2:=zH h2;have H3:=zH h3;clear h2 h3
     have TAILK:Hid (∀(fv:Nat→Value) (w5:World) (rb rd:Nat) (v v2:Value) (ec:Int),TlE B w5 G D vr s' rb rd v v2→Fr (fun c _=>c<B) w2 w5→K2 { tmps:=tU 264 fv ((0,.int .i64 (many:Nat)) :: (1,.slice (some ⟨b0,off,none⟩) len cap) :: (2,fu 2) :: (3,fu 3) :: (5,.bool true) :: (6,.pointer (some ⟨G,0,none⟩)) :: (7,.slice (some ⟨gr',0,none⟩) many cr') :: (8,fu 8) :: (9,fu 9) :: (10,fu 10) :: (11,.int .i64 (k:Nat)) :: (14,.pointer (some ⟨rb,0,none⟩)) :: (15,.pointer (some ⟨rd,0,none⟩)) :: (16,v) :: (17,v2) :: (18,.int .i64 ec) :: (19,.int .i64 ec) :: kfL fu [(263,fu 263)]),defers:=[] } w5):=fun fv w5 rb rd v v2 ec hT hF5=>
      H2.out _ _ (l_ fu HVR.out hT (fun fv w8 p f=>HQ.out _ (.inl rfl) fv w8 p ((F2.out.mono fun _ _ _=>trivial).trans (hF5.trans f))) fv)
     go_wp2_with fail
     refine H3.out _ _ ?_;have e1:=E1.out;subst e1;exact cw (fun f'=>zg_d3 (g0:=g0) fu MDD.out HX.out HDD.out HOUT.out TAILK.out f') (by kernel_rfl)
    ·replace EQ:=zH (EQ.out.trans (if_neg e3));by_cases e4:d=4
     ·have HOUT:Hid (({ s with ns:=s.ns.set i ((s.ns.getD i default).propose 1 [UInt8.ofNat k]).1 }:Gs)=s'):=(EQ.out.trans (if_pos e4)).symm;have E1:=zH e4;clear e4 EQ;go_upto_region 28 with fail
      rename_i K2 h2 K3 h3;have H2:=zH h2;have H3:=zH h3;clear h2 h3
      have TAILK:Hid (∀(fv:Nat→Value) (w5:World) (rb rd:Nat) (v v2:Value) (ec:Int),TlE B w5 G D vr s' rb rd v v2→Fr (fun c _=>c<B) w2 w5→K2 { tmps:=tU 264 fv ((0,.int .i64 (many:Nat)) :: (1,.slice (some ⟨b0,off,none⟩) len cap) :: (2,fu 2) :: (3,fu 3) :: (5,.bool true) :: (6,.pointer (some ⟨G,0,none⟩)) :: (7,.slice (some ⟨gr',0,none⟩) many cr') :: (8,fu 8) :: (9,fu 9) :: (10,fu 10) :: (11,.int .i64 (k:Nat)) :: (14,.pointer (some ⟨rb,0,none⟩)) :: (15,.pointer (some ⟨rd,0,none⟩)) :: (16,v) :: (17,v2) :: (18,.int .i64 ec) :: (19,.int .i64 ec) :: kfL fu [(263,fu 263)]),defers:=[] } w5):=fun fv w5 rb rd v v2 ec hT hF5=>
       H2.out _ _ (l_ fu HVR.out hT (fun fv w8 p f=>HQ.out _ (.inl rfl) fv w8 p ((F2.out.mono fun _ _ _=>trivial).trans (hF5.trans f))) fv)
      go_wp2_with fail
      refine H3.out _ _ ?_;have e1:=E1.out;subst e1;exact cw (fun f'=>zg_d4 (g0:=g0) fu MDD.out HX.out HDD.out HOUT.out TAILK.out f') (by kernel_rfl)
     ·replace EQ:=zH (EQ.out.trans (if_neg e4));by_cases e5:d=5
      ·have HOUT:Hid (s.applied i=s'):=(EQ.out.trans (if_pos e5)).symm;have E1:=zH e5;clear e5 EQ;go_upto_region 28 with fail
       rename_i K2 h2 K3 h3;have H2:=zH h2;have H3:=zH h3;clear h2 h3
       have TAILK:Hid (∀(fv:Nat→Value) (w5:World) (rb rd:Nat) (v v2:Value) (ec:Int),TlE B w5 G D vr s' rb rd v v2→Fr (fun c _=>c<B) w2 w5→K2 { tmps:=tU 264 fv ((0,.int .i64 (many:Nat)) :: (1,.slice (some ⟨b0,off,none⟩) len cap) :: (2,fu 2) :: (3,fu 3) :: (5,.bool true) :: (6,.pointer (some ⟨G,0,none⟩)) :: (7,.slice (some ⟨gr',0,none⟩) many cr') :: (8,fu 8) :: (9,fu 9) :: (10,fu 10) :: (11,.int .i64 (k:Nat)) :: (14,.pointer (some ⟨rb,0,none⟩)) :: (15,.pointer (some ⟨rd,0,none⟩)) :: (16,v) :: (17,v2) :: (18,.int .i64 ec) :: (19,.int .i64 ec) :: kfL fu [(263,fu 263)]),defers:=[] } w5):=fun fv w5 rb rd v v2 ec hT hF5=>
        H2.out _ _ (l_ fu HVR.out hT (fun fv w8 p f=>HQ.out _ (.inl rfl) fv w8 p ((F2.out.mono fun _ _ _=>trivial).trans (hF5.trans f))) fv)
       go_wp2_with fail
       refine H3.out _ _ ?_;have e1:=E1.out;subst e1;exact cw (fun f'=>zg_d5 (g0:=g0) fu MDD.out HX.out HDD.out HOUT.out TAILK.out f') (by kernel_rfl)
      ·have HOUT:Hid (s=s'):=(EQ.out.trans (if_neg e5)).symm;have G5:Hid ((d==3)=false∧(d==4)=false∧(d==5)=false):=⟨by simpa using e3,by simpa using e4,by simpa using e5⟩
       clear e1 e3 e4 e5 EQ hd2;go_upto_region 28 with fail
       rename_i K2 h2 K3 h3;have H2:=zH h2;have H3:=zH h3;clear h2 h3
       have TAILK:Hid (∀(fv:Nat→Value) (w5:World) (rb rd:Nat) (v v2:Value) (ec:Int),TlE B w5 G D vr s' rb rd v v2→Fr (fun c _=>c<B) w2 w5→K2 { tmps:=tU 264 fv ((0,.int .i64 (many:Nat)) :: (1,.slice (some ⟨b0,off,none⟩) len cap) :: (2,fu 2) :: (3,fu 3) :: (5,.bool true) :: (6,.pointer (some ⟨G,0,none⟩)) :: (7,.slice (some ⟨gr',0,none⟩) many cr') :: (8,fu 8) :: (9,fu 9) :: (10,fu 10) :: (11,.int .i64 (k:Nat)) :: (14,.pointer (some ⟨rb,0,none⟩)) :: (15,.pointer (some ⟨rd,0,none⟩)) :: (16,v) :: (17,v2) :: (18,.int .i64 ec) :: (19,.int .i64 ec) :: kfL fu [(263,fu 263)]),defers:=[] } w5):=fun fv w5 rb rd v v2 ec hT hF5=>
        H2.out _ _ (l_ fu HVR.out hT (fun fv w8 p f=>HQ.out _ (.inl rfl) fv w8 p ((F2.out.mono fun _ _ _=>trivial).trans (hF5.trans f))) fv)
       go_wp2_with fail
       refine H3.out _ _ ?_;exact cw (fun f'=>zg_dN (g0:=g0) fu MDD.out HX.out HDD.out d1 G5.out.1 G5.out.2.1 G5.out.2.2 HOUT.out TAILK.out f') (by kernel_rfl)
end Go.Proofs.YtmjccpfchhnfhaaGreat
