/- Texts of the proofs, part 38: what the functions that they reach do, walked; no conditions beyond those that each states. -/
import Derived.Test.YtmjccpfchhnfhaaGreatZk50c0a9d62c
import Derived.Test.YtmjccpfchhnfhaaGreatZk47afac4833
import Derived.Test.YtmjccpfchhnfhaaGreatZkb86eb7e088
set_option linter.unusedVariables false
set_option linter.unusedSimpArgs false
set_option maxRecDepth 100000
set_option maxHeartbeats 8000000
namespace Go.Proofs.YtmjccpfchhnfhaaGreat
open Go.RowKit
theorem kh1 {p q:Prop} (k:q) (h:q→p:=by
 have y0:W.cell? ⟨b,0,none⟩=some (.int .i64 me):=by rw[x0,HNM.out.1]
 have y6:W.cell? ⟨b,6,none⟩=some (.int .u64 (tm:Nat)):=by rw[x6,HNM.out.2]
 intro kk0;revert y6;revert y0;exact kk0):p:=h k
section
variable {X:Nat→Prop} {w w':World} {b:Nat} {n n':Nd} {q q':DV}
theorem LW [Old] {m:MV} {W2:World} {g0:Nat} {me s:Int} {tm mt:Nat} {r:Nd×List Ms} (h:DNs X W2 b n q) (f0:Fr (fun c _=>c≠b) w W2) (HMX:Hid (W2.heap[g0]? = some (.cells (cM m) 32 (0,0)))) (HNM:Hid (n.me=me∧n.tm=tm))
 (VH:Hid (∀W:World,W.heap[g0]? = some (.cells (cM m) 32 (0,0))→W.cell? ⟨g0,1,none⟩=some (.int .i64 s)∧W.cell? ⟨g0,3,none⟩=some (.int .u64 (mt:Nat)))) (hgb:g0≠b) (ok:Bool)
 (hr:r=(if ok=true then { n with vote:=s } else n,[(aMV 2 me s tm ok).ms])) (fu:Nat→Value):
 Code.wp Tryz.prog (fK 7 (cW Tryz.f89.body)) (bodyPost Tryz.prog Tryz.f89 fun e w'=>gQ X w b r e w') { tmps:=tU 126 fu [(0,.pointer (some ⟨b,0,none⟩)),(3,.pointer (some ⟨g0,0,none⟩)),(7,.bool ok)],defers:=[] } W2:=by
 have H:=zH h;have F0:=zH f0;have HGB:=zH hgb;have x1:=(h.cells (Fr.refl _ W2)).2.1;have z1:=h.free (Fr.refl _ W2) 1;have v1:=(VH W2 HMX).1;have HRR:=zH hr;clear h f0 hgb hr;simp only[tU,tL,Nat.reduceAdd,Nat.reduceBEq,cond_true,cond_false];dsimp only[fK,cW,Tryz.f89];cases ok with
 | false=>
  have E:Hid (r=(n,[(aMV 2 me s tm false).ms])):=HRR;clear x1 z1 v1;obtain⟨W0,rfl⟩:∃Y,Y=W2:=⟨_,rfl⟩
  go_wp2_with fail
  refine wpR [(113,0),(114,1),(115,2),(116,3),(117,4),(118,5),(119,6),(120,7),(121,8),(122,9),(123,10),(124,11),(125,12),(4,13)] [(0,[]),(1,[0]),(2,[1]),(3,[2]),(4,[]),(5,[4]),(6,[]),(7,[6]),(8,[7]),(9,[8]),(10,[]),(11,[3,5,9,10])] (ckR [(0,.pointer (some ⟨b,0,none⟩)),(1,.pointer (some ⟨b,0,none⟩)),(2,.pointer (some ⟨b,0,none⟩)),(3,.int .i64 me),(4,.pointer (some ⟨g0,1,none⟩)),(5,.int .i64 s),(6,.pointer (some ⟨b,0,none⟩)),(7,.pointer (some ⟨b,0,none⟩)),(8,.pointer (some ⟨b,6,none⟩)),(9,.int .u64 (tm:Nat)),(10,.bool false),(11,.agg #[.int .i64 2,.int .i64 me,.int .i64 s,.int .u64 (tm:Nat),.int .u64 0,.int .u64 0,.int .u64 0,.bool false,.slice none 0 0,.slice none 0 0])] [] 12 0) 2 rfl ?cfall ?cfend
  case cfall=>
   iterate 12
    refine bY.q rfl rfl rfl (kQQ ?_) ?_
    ·intro xs W HF K' hK;obtain⟨x0,-,-,-,-,-,x6,-,-,-,-,-⟩:=H.cells ((Fr.refl (fun _ _=>True) W0).drew.trans HF);refine kh1 ?_;intro y0 y6;clear x0 x6;obtain⟨v1,v3⟩:=VH W (((Fr.refl _ W0).drew.trans HF).keep _ _ HMX trivial);exact mD8
   exact m36
  case cfend=>
   refine kEE ?_;intro xs W HF;have F3:=zH (F0.trans (((Fr.refl (fun _ _=>True) W0).drew.trans HF).mono (K':=fun c _=>c≠b) fun _ _ _=>trivial));have H3:=zH (H.tt ((Fr.refl (fun _ _=>True) W0).drew.trans HF));refine wpN 12 rfl fun K' hK=>?_
   skip
   go_simp;refine hK _ _ ?_;clear hK K';refine wpN 13 rfl fun K' hK=>?_
   skip
   go_simp;refine hK _ _ ?_;clear hK K';refine wpF ?_;go_wp2;go_ret;rw[E.out];exact⟨q,_,[(aMV 2 me s tm false)],rfl,H3.tt ((Fr.refl _ W).alloc _),F3.alloc _,(OwnMs.one (aMV 2 me s tm false) H3.hx (q_ _ _ _ _ _ _ _)).lo F3.size,rfl⟩
 | true=>
  have E:Hid (r=({ n with vote:=s },[(aMV 2 me s tm true).ms])):=HRR;obtain⟨W0,hW0⟩:=zE (W2.setCell ⟨b,1,none⟩ (.int .i64 s));have fs:Fr (fun c _=>c≠b) W2 W0:=hW0▸(Fr.refl _ _).setCell (fun _ _ h=>h rfl) _;have MX5:Hid (W0.heap[g0]? = some (.cells (cM m) 32 (0,0))):=fs.keep _ _ HMX HGB;have H5:Hid (DNs X W0 b { n with vote:=s } q):=H.own1 (v:=.int .i64 0) fs [(1,.int .i64 s)] hW0 rfl rfl rfl rfl ⟨H.nl,H.ml⟩;have F5:Hid (Fr (fun c _=>c≠b) w W0):=F0.trans fs;clear fs;go_wp2_with fail
  try rw[hW0]
  clear hW0 x1 z1 v1;refine wpR [(113,0),(114,1),(115,2),(116,3),(117,4),(118,5),(119,6),(120,7),(121,8),(122,9),(123,10),(124,11),(125,12),(4,13)] [(0,[]),(1,[0]),(2,[1]),(3,[2]),(4,[]),(5,[4]),(6,[]),(7,[6]),(8,[7]),(9,[8]),(10,[]),(11,[3,5,9,10])] (ckR [(0,.pointer (some ⟨b,0,none⟩)),(1,.pointer (some ⟨b,0,none⟩)),(2,.pointer (some ⟨b,0,none⟩)),(3,.int .i64 me),(4,.pointer (some ⟨g0,1,none⟩)),(5,.int .i64 s),(6,.pointer (some ⟨b,0,none⟩)),(7,.pointer (some ⟨b,0,none⟩)),(8,.pointer (some ⟨b,6,none⟩)),(9,.int .u64 (tm:Nat)),(10,.bool true),(11,.agg #[.int .i64 2,.int .i64 me,.int .i64 s,.int .u64 (tm:Nat),.int .u64 0,.int .u64 0,.int .u64 0,.bool true,.slice none 0 0,.slice none 0 0])] [] 12 0) 2 rfl ?cfall ?cfend
  case cfall=>
   iterate 12
    refine bY.q rfl rfl rfl (kQQ ?_) ?_
    ·intro xs W HF K' hK;obtain⟨x0,-,-,-,-,-,x6,-,-,-,-,-⟩:=H5.cells ((Fr.refl (fun _ _=>True) W0).drew.trans HF);refine kh1 ?_;intro y0 y6;clear x0 x6;obtain⟨v1,v3⟩:=VH W (((Fr.refl _ W0).drew.trans HF).keep _ _ MX5 trivial);exact mD8
   exact m36
  case cfend=>
   refine kEE ?_;intro xs W HF;have F3:=zH (F5.trans (((Fr.refl (fun _ _=>True) W0).drew.trans HF).mono (K':=fun c _=>c≠b) fun _ _ _=>trivial));have H3:=zH (H5.tt ((Fr.refl (fun _ _=>True) W0).drew.trans HF));refine wpN 12 rfl fun K' hK=>?_
   skip
   go_simp;refine hK _ _ ?_;clear hK K';refine wpN 13 rfl fun K' hK=>?_
   skip
   go_simp;refine hK _ _ ?_;clear hK K';refine wpF ?_;go_wp2;go_ret;rw[E.out];exact⟨q,_,[(aMV 2 me s tm true)],rfl,H3.tt ((Fr.refl _ W).alloc _),F3.alloc _,(OwnMs.one (aMV 2 me s tm true) H3.hx (q_ _ _ _ _ _ _ _)).lo F3.size,rfl⟩
theorem LY [Old] {m:MV} {W2:World} {g0:Nat} {me s:Int} {tm mt:Nat} {r:Nd×List Ms} (h:DNs X W2 b n q) (f0:Fr (fun c _=>c≠b) w W2) (HMX:Hid (W2.heap[g0]? = some (.cells (cM m) 32 (0,0)))) (HNM:Hid (n.me=me∧n.tm=tm))
 (VH:Hid (∀W:World,W.heap[g0]? = some (.cells (cM m) 32 (0,0))→W.cell? ⟨g0,1,none⟩=some (.int .i64 s)∧W.cell? ⟨g0,3,none⟩=some (.int .u64 (mt:Nat)))) (hgb:g0≠b) (nw fr:Bool)
 (hr:∀ok,(nw&&(decide (mt=tm)&&(fr&&decide (n.role=0))))=ok→r=(if ok=true then { n with vote:=s } else n,[(aMV 2 me s tm ok).ms])) (fu:Nat→Value):
 Code.wp Tryz.prog (fK 6 (cW Tryz.f89.body)) (bodyPost Tryz.prog Tryz.f89 fun e w'=>gQ X w b r e w') { tmps:=tU 126 fu [(0,.pointer (some ⟨b,0,none⟩)),(3,.pointer (some ⟨g0,0,none⟩)),(5,.bool nw),(6,.bool fr)],defers:=[] } W2:=by
 have H:=zH h;have F0:=zH f0;have HGB:=zH hgb;obtain⟨-,-,x2,-,-,-,x6,-,-,-,-,-⟩:=h.cells (Fr.refl _ W2);rw[HNM.out.2] at x6;have v3:=(VH.out W2 HMX.out).2;obtain⟨ro,hro⟩:=zE n.role;rw[hro] at x2;obtain⟨ok,hok⟩:=zE ((nw&&(decide (mt=tm)&&(fr&&decide (ro=0)))));have OUT:Hid (r=(if ok=true then { n with vote:=s } else n,[(aMV 2 me s tm ok).ms])):=hr ok (by rw[hro];exact hok)
 have C2:Hid (nw=false∧ok=false∨nw=true∧((mt:Int)==(tm:Int))=false∧ok=false∨nw=true∧((mt:Int)==(tm:Int))=true∧fr=false∧ok=false∨nw=true∧((mt:Int)==(tm:Int))=true∧fr=true∧(ro==0)=ok):=by
  show _∨_;rw[←hok];by_cases e:mt=tm
  ·have e':((mt:Int)==(tm:Int))=true:=by simp [e]
   rw[e',decide_eq_true e];cases nw <;> cases fr <;> simp;by_cases e2:ro=0 <;> simp [e2]
  ·have e':((mt:Int)==(tm:Int))=false:=by simp;omega
   rw[e',decide_eq_false e];cases nw <;> cases fr <;> simp
 clear h f0 hgb hr hro hok;simp only[tU,tL,Nat.reduceAdd,Nat.reduceBEq,cond_true,cond_false];dsimp only[fK,cW,Tryz.f89];rcases C2.out with⟨d1,d2⟩ | ⟨d1,d3,d2⟩ | ⟨d1,d3,d4,d2⟩ | ⟨d1,d3,d4,d2⟩
 case' inr.inr.inr=>cases ok
 all_goals (subst d1)
 all_goals (try (subst d4))
 all_goals (try (subst d2))
 all_goals
  clear C2;go_upto_region 11 with fail
  rename_i K0 h0;have HK0:=zH h0;clear h0;go_quiet (fail)
  have FQ:Hid (Fr (fun _ _=>True) W2 (W2.drewN nq)):=(Fr.refl _ W2).drewN nq;exact HK0.out _ _ (cw (fun fu=>LW (r:=r) (w:=w) (H.out.tt FQ.out) (F0.out.trans (FQ.out.mono fun _ _ _=>trivial)) (FQ.out.keep _ _ HMX.out trivial) HNM VH HGB.out _ OUT.out fu) (by kernel_rfl))
theorem BW [Old] {m:MV} {W2:World} {g0:Nat} {me s:Int} {tm mt:Nat} {r:Nd×List Ms} (h:DNs X W2 b n q) (f0:Fr (fun c _=>c≠b) w W2) (HMX:Hid (W2.heap[g0]? = some (.cells (cM m) 32 (0,0)))) (HNM:Hid (n.me=me∧n.tm=tm))
 (VH:Hid (∀W:World,W.heap[g0]? = some (.cells (cM m) 32 (0,0))→W.cell? ⟨g0,1,none⟩=some (.int .i64 s)∧W.cell? ⟨g0,3,none⟩=some (.int .u64 (mt:Nat)))) (hgb:g0≠b) (nw:Bool)
 (hr:∀ok,(nw&&(decide (mt=tm)&&((decide (n.vote=-1)||decide (n.vote=s))&&decide (n.role=0))))=ok→r=(if ok=true then { n with vote:=s } else n,[(aMV 2 me s tm ok).ms])) (fu:Nat→Value):
 Code.wp Tryz.prog (fK 5 (cW Tryz.f89.body)) (bodyPost Tryz.prog Tryz.f89 fun e w'=>gQ X w b r e w') { tmps:=tU 126 fu [(0,.pointer (some ⟨b,0,none⟩)),(3,.pointer (some ⟨g0,0,none⟩)),(5,.bool nw)],defers:=[] } W2:=by
 have H:=zH h;have F0:=zH f0;have HGB:=zH hgb;have x1:=(h.cells (Fr.refl _ W2)).2.1;have v1:=(VH.out W2 HMX.out).1;obtain⟨vo,hvo⟩:=zE n.vote;rw[hvo] at x1;obtain⟨fr,hfr⟩:=zE ((decide (vo=-1)||decide (vo=s)));have OUT:Hid (∀ok,(nw&&(decide (mt=tm)&&(fr&&decide (n.role=0))))=ok→r=(if ok=true then { n with vote:=s } else n,[(aMV 2 me s tm ok).ms])):=fun ok hok=>hr ok (by rw[hvo,hfr];exact hok)
 have C1:Hid ((vo==-1)=true∧fr=true∨(vo==-1)=false∧(vo==s)=fr):=by
  by_cases e:vo=-1
  ·exact .inl ⟨by simpa using e,by rw[←hfr,decide_eq_true e];rfl⟩
  ·exact .inr ⟨by simpa using e,by rw[←hfr,decide_eq_false e];by_cases e2:vo=s <;> simp [e2]⟩
 clear h f0 hgb hr hvo hfr;simp only[tU,tL,Nat.reduceAdd,Nat.reduceBEq,cond_true,cond_false];dsimp only[fK,cW,Tryz.f89];rcases C1.out with⟨c1,c2⟩ | ⟨c1,c2⟩
 case' inr=>cases fr
 all_goals (try (subst c2))
 all_goals
  clear C1;go_upto_region 10 with fail
  rename_i K0 h0;have HK0:=zH h0;clear h0;go_quiet (fail)
  have FQ:Hid (Fr (fun _ _=>True) W2 (W2.drewN nq)):=(Fr.refl _ W2).drewN nq;exact HK0.out _ _ (cw (fun fu=>LY (r:=r) (w:=w) (H.out.tt FQ.out) (F0.out.trans (FQ.out.mono fun _ _ _=>trivial)) (FQ.out.keep _ _ HMX.out trivial) HNM VH HGB.out nw _ OUT.out fu) (by kernel_rfl))
end
theorem kHM {p q:Prop} (k:q) (h:q→p:=by
 have F3:=zH (F4.out.trans (((Fr.refl (fun _ _=>True) W0).drew.trans HF.out).mono (K':=fun c _=>c≠b) fun _ _ _=>trivial));have H3:=zH (H4.out.tt ((Fr.refl (fun _ _=>True) W0).drew.trans HF.out));intro kk0;revert H3;revert F3;exact kk0):p:=h k
theorem kXr {p q:Prop} (k:q) (h:q→p:=by
 have MX4:Hid (W0.heap[g0]? = some (.cells (cM m) 32 (0,0))):=FQ4.out.keep _ _ MX2.out trivial;have H4:=zH (H2.out.tt FQ4.out);intro kk0;revert H4;revert MX4;exact kk0):p:=h k
theorem m3F {p:Prop} (h:p:=by
 intro xs W HF K' hK;obtain⟨x0,-,-,-,-,-,x6,-,-,-,-,-⟩:=H4.out.cells ((Fr.refl (fun _ _=>True) W0).drew.trans HF.out);refine kh1 ?_;intro y0 y6;clear x0 x6;obtain⟨v1,v3,v4,v5⟩:=VH.out W (((Fr.refl _ W0).drew.trans HF.out).keep _ _ MX4.out trivial);exact mr9):p:=h
section
variable {X:Nat→Prop} {w w':World} {b:Nat} {n n':Nd} {q q':DV}
theorem BY [Old] (h:DNs X w b n q) (m:MV) (hl:n.log.last+1<18446744073709551616) (hle:n.log.es.length≤900000):
 Calls Tryz.prog 89 #[.pointer (some ⟨b,0,none⟩),.agg (cM m)] w fun e w'=>gQ X w b (n.onAsk m.ms) e w':=by
 refine kRB ?_;intro W1 hW1 F1 g0 hg0 X1 H HG0 gb;obtain⟨ae,le,ce,hve,hlel,hel2,hesl,hlg⟩:=h.lg;refine kr8 ?_;intro bs hbs bt hbt;obtain⟨me,hme⟩:=zE n.me;obtain⟨s,hs⟩:=zE m.src;obtain⟨mt,hmt⟩:=zE m.tm;obtain⟨ix,hixx⟩:=zE m.index;obtain⟨pv,hpv⟩:=zE m.prev;obtain⟨k,hk⟩:=zE m.kind;obtain⟨nw,hnw⟩:=zE (n.log.newer m.prev m.index)
 have CC:Hid (∀W,Fr (fun _ _=>True) W1 W→W.cell? ⟨b,8,none⟩=some (.int .u64 (bs:Nat))∧W.cell? ⟨b,9,none⟩=some (.int .u64 (bt:Nat))∧W.cell? ⟨b,10,none⟩=some (.slice ae le ce)):=fun W f=>by obtain⟨x0,x1,x2,x3,x4,x5,x6,x7,x8,x9,x10,x11⟩:=h.cells (F1.out.trans f);exact⟨by rw[x8,hbs],by rw[x9,hbt],by rw[x10,hve]⟩
 have VH:Hid (∀W:World,W.heap[g0]? = some (.cells (cM m) 32 (0,0))→W.cell? ⟨g0,1,none⟩=some (.int .i64 s)∧W.cell? ⟨g0,3,none⟩=some (.int .u64 (mt:Nat))∧W.cell? ⟨g0,4,none⟩=some (.int .u64 (ix:Nat))∧W.cell? ⟨g0,5,none⟩=some (.int .u64 (pv:Nat))):=fun W t=>by obtain⟨v0,v1,v2,v3,v4,v5,v6,v7,v8,v9⟩:=bq t;exact⟨by rw[v1,hs],by rw[v3,hmt],by rw[v4,hixx],by rw[v5,hpv]⟩
 have V0:Hid (∀W:World,W.heap[g0]? = some (.cells (cM m) 32 (0,0))→W.cell? ⟨g0,0,none⟩=some (.int .i64 k)):=fun W t=>by rw[←hk];exact(bq t).1
 have NEW:Hid (∀W,Fr (fun _ _=>True) W1 W→Calls Tryz.prog 123 #[vL9 bs bt (.slice ae le ce),.int .u64 (pv:Nat),.int .u64 (ix:Nat)] W fun e w'=>e=.returned (.bool nw)∧Fr (fun _ _=>True) W w'):=fun W f=>by have e:=BV W bs bt pv ix ae le ce q.es (hesl W (F1.out.trans f)).row (by unfold Lg.last at hl;omega) (by omega);rw[show lgE bs bt q.es=n.log by rw[←hbs,←hbt];exact hlg,←hixx,←hpv,hnw,hixx,hpv] at e;exact e
 have HQ:=zH (And.intro hk (And.intro hs (And.intro hmt (And.intro hme hnw))));unfold cM at hW1 ⊢;obtain⟨r,hr⟩:=zE (n.onAsk m.ms);rw[hr];clear h hg0 hve hlel hel2 hesl hlg hbs hbt hme hs hmt hixx hpv hk hnw hl hle;go_enter Tryz.func89,Tryz.ntmps89
 go_wp2_with fail
 try rw[hW1]
 rw[HG0.out];clear hW1;refine wpR [(8,0),(9,1),(10,2),(11,3),(12,4),(13,5),(14,6),(15,7),(16,8),(5,9)] [(0,[]),(1,[0]),(2,[1]),(3,[2]),(4,[]),(5,[4]),(6,[]),(7,[6]),(8,[3,5,7])] (ckR [(0,.pointer (some ⟨b,0,none⟩)),(1,.pointer (some ⟨b,0,none⟩)),(2,.pointer (some ⟨b,8,none⟩)),(3,.agg #[.int .u64 (bs:Nat),.int .u64 (bt:Nat),.slice ae le ce]),(4,.pointer (some ⟨g0,5,none⟩)),(5,.int .u64 (pv:Nat)),(6,.pointer (some ⟨g0,4,none⟩)),(7,.int .u64 (ix:Nat)),(8,.bool nw)] [] 9 0) 1 rfl ?cfall ?cfend
 case cfall=>
  iterate 8
   refine bY.q rfl rfl rfl (kQQ ?_) ?_
   ·intro xs W HF K' hK;obtain⟨y8,y9,y10⟩:=CC.out W ((Fr.refl _ W1).drew.trans HF.out);obtain⟨v1,v3,v4,v5⟩:=VH.out W (((Fr.refl _ W1).drew.trans HF.out).keep _ _ X1.out trivial);exact mr9
  refine bY.p rfl rfl (kPP ?_) ?_
  ·intro xs W HF K' hK;obtain⟨y8,y9,y10⟩:=CC.out W ((Fr.refl _ W1).drew.trans HF.out);obtain⟨v1,v3,v4,v5⟩:=VH.out W (((Fr.refl _ W1).drew.trans HF.out).keep _ _ X1.out trivial);have NE1:=zH (NEW.out W ((Fr.refl _ W1).drew.trans HF.out));dsimp only[vL9] at NE1;(try simp only[gA,gB,gC]);go_simp;(with_reducible refine NE1.out.mono ?_);rintro e w8 ⟨rfl,f8⟩;exact hK.out _ _ _ rfl f8 rfl
  exact m36
 case cfend=>
  refine kEE ?_;intro xs W HF;have FX:Hid (Fr (fun _ _=>True) W1 W):=(Fr.refl _ W1).drew.trans HF.out;have F2:=zH (F1.out.trans FX.out);have H2:=zH (H.out.tt F2.out);have MX2:Hid (W.heap[g0]? = some (.cells (cM m) 32 (0,0))):=FX.out.keep _ _ X1.out trivial;refine wpN 9 rfl fun K' hK=>?_
  (try simp only[gA,gB,gC]);go_simp;refine hK.out _ _ ?_;clear hK K';refine wpF ?_;clear CC NEW;obtain⟨tm,htm⟩:=zE n.tm;obtain⟨hd,hhd⟩:=zE n.heard;obtain⟨-,-,-,-,-,-,x6,-,-,-,-,x11⟩:=H2.out.cells (Fr.refl _ W);rw[htm] at x6;rw[hhd] at x11;have HNM:=zH (And.intro HQ.out.2.2.2.1 htm);have HHD:=zH hhd;have v0:=V0.out W MX2.out;have v3:=(VH.out W MX2.out).2.1;clear htm hhd;by_cases hk3:k=3
  ·subst hk3;obtain⟨ok,hok⟩:=zE ((nw&&(decide (tm<mt)&&!hd)))
   have OUT:Hid (r=(n,[(aMV 4 me s (if ok=true then mt else tm) ok).ms])):=by
    show r=_;rw[←hr];unfold Nd.onAsk;rw[if_pos (show m.ms.kind=1∨m.ms.kind=3 from Or.inr HQ.out.1)];dsimp only;have e1:¬(m.ms.kind=1∧n.tm<m.ms.tm):=fun e=>by have:=e.1.symm.trans HQ.out.1;omega
    rw[if_neg e1]
    have e2:(n.log.newer m.ms.prev m.ms.index&&n.would m.ms)=ok:=by unfold Nd.would;rw[if_pos (show m.ms.kind=3 from HQ.out.1),HNM.out.2,HHD.out,show m.ms.tm=mt from HQ.out.2.2.1,show n.log.newer m.ms.prev m.ms.index=nw from HQ.out.2.2.2.2,hok]
    rw[e2,if_neg (fun e=>by have:=e.2.symm.trans HQ.out.1;omega),HNM.out.1,HNM.out.2,show m.ms.tm=mt from HQ.out.2.2.1,show m.ms.src=s from HQ.out.2.1,show m.ms.kind=3 from HQ.out.1];have e3:(ok=true∧(3:Int)=3)↔ok=true:=⟨fun e=>e.1,fun e=>⟨e,rfl⟩⟩
    rw[Nv e3];rfl
   have C2:Hid (nw=false∧ok=false∨nw=true∧decide (tm<mt)=false∧ok=false∨nw=true∧decide (tm<mt)=true∧hd=true∧ok=false∨nw=true∧decide (tm<mt)=true∧hd=false∧ok=true):=by show _∨_;rw[←hok];cases nw <;> cases hd <;> cases decide (tm<mt) <;> simp
   have HRR:=zH hr;clear hr hok;rcases C2.out with⟨d1,d2⟩ | ⟨d1,d3,d2⟩ | ⟨d1,d3,d4,d2⟩ | ⟨d1,d3,d4,d2⟩
   all_goals (subst d1)
   all_goals (subst d2)
   all_goals (try (subst d4))
   all_goals
    clear C2;go_wp2_with fail
    go_quiet (fail)
    have FQ4:Hid (Fr (fun _ _=>True) W (W.drewN nq)):=(Fr.refl _ W).drewN nq;generalize W.drewN nq=W0 at FQ4 ⊢;clear x6 x11 v0 v3;refine kXr ?_;intro MX4 H4;have F4:Hid (Fr (fun c _=>c≠b) w W0):=(F2.out.trans FQ4.out).mono fun _ _ _=>trivial
    go_wp2_with fail
   iterate 3
    have E:Hid (r=(n,[(aMV 4 me s tm false).ms])):=OUT.out;refine wpR [(47,0),(48,1),(49,2),(50,3),(51,4),(52,5),(53,6),(54,7),(55,8),(56,9),(57,10),(58,11),(4,12)] [(0,[]),(1,[0]),(2,[1]),(3,[2]),(4,[]),(5,[4]),(6,[]),(7,[6]),(8,[7]),(9,[8]),(10,[3,5,9])] (ckR [(0,.pointer (some ⟨b,0,none⟩)),(1,.pointer (some ⟨b,0,none⟩)),(2,.pointer (some ⟨b,0,none⟩)),(3,.int .i64 me),(4,.pointer (some ⟨g0,1,none⟩)),(5,.int .i64 s),(6,.pointer (some ⟨b,0,none⟩)),(7,.pointer (some ⟨b,0,none⟩)),(8,.pointer (some ⟨b,6,none⟩)),(9,.int .u64 (tm:Nat)),(10,.agg #[.int .i64 4,.int .i64 me,.int .i64 s,.int .u64 (tm:Nat),.int .u64 0,.int .u64 0,.int .u64 0,.bool false,.slice none 0 0,.slice none 0 0])] [] 11 0) 2 rfl ?cfall ?cfend
    case cfall=>
     iterate 11
      refine bY.q rfl rfl rfl (kQQ ?_) ?_
      ·exact m3F
     exact m36
    case cfend=>
     refine kEE ?_;intro xs W HF;refine kHM ?_;intro F3 H3;refine wpN 11 rfl fun K' hK=>?_
     (try simp only[gA,gB,gC]);go_simp;refine hK.out _ _ ?_;clear hK K';refine wpN 12 rfl fun K' hK=>?_
     (try simp only[gA,gB,gC]);go_simp;refine hK.out _ _ ?_;clear hK K';refine wpF ?_;go_wp2;go_ret;rw[E.out];exact⟨q,_,[(aMV 4 me s tm false)],rfl,H3.out.tt ((Fr.refl _ W).alloc _),F3.out.alloc _,(OwnMs.one (aMV 4 me s tm false) H3.out.hx (q_ _ _ _ _ _ _ _)).lo F3.out.size,rfl⟩
   have E:Hid (r=(n,[(aMV 4 me s mt true).ms])):=OUT.out;refine wpR [(37,0),(38,1),(39,2),(40,3),(41,4),(42,5),(43,6),(44,7),(45,8),(46,9),(4,10)] [(0,[]),(1,[0]),(2,[1]),(3,[2]),(4,[]),(5,[4]),(6,[]),(7,[6]),(8,[3,5,7])] (ckR [(0,.pointer (some ⟨b,0,none⟩)),(1,.pointer (some ⟨b,0,none⟩)),(2,.pointer (some ⟨b,0,none⟩)),(3,.int .i64 me),(4,.pointer (some ⟨g0,1,none⟩)),(5,.int .i64 s),(6,.pointer (some ⟨g0,3,none⟩)),(7,.int .u64 (mt:Nat)),(8,.agg #[.int .i64 4,.int .i64 me,.int .i64 s,.int .u64 (mt:Nat),.int .u64 0,.int .u64 0,.int .u64 0,.bool true,.slice none 0 0,.slice none 0 0])] [] 9 0) 2 rfl ?cfall ?cfend
   case cfall=>
    iterate 9
     refine bY.q rfl rfl rfl (kQQ ?_) ?_
     ·exact m3F
    exact m36
   case cfend=>
    refine kEE ?_;intro xs W HF;refine kHM ?_;intro F3 H3;refine wpN 9 rfl fun K' hK=>?_
    (try simp only[gA,gB,gC]);go_simp;refine hK.out _ _ ?_;clear hK K';refine wpN 10 rfl fun K' hK=>?_
    (try simp only[gA,gB,gC]);go_simp;refine hK.out _ _ ?_;clear hK K';refine wpF ?_;go_wp2;go_ret;rw[E.out];exact⟨q,_,[(aMV 4 me s mt true)],rfl,H3.out.tt ((Fr.refl _ W).alloc _),F3.out.alloc _,(OwnMs.one (aMV 4 me s mt true) H3.out.hx (q_ _ _ _ _ _ _ _)).lo F3.out.size,rfl⟩
  ·have k3:(k==3)=false:=by simpa using hk3
   by_cases hk1:k=1
   ·subst hk1;have HRR:=zH hr
    have RV:Hid (∀n1:Nd,(if tm<mt then n.follow mt (-1) else n)=n1→n1.me=me∧n1.log=n.log∧∀ok,(nw&&(decide (mt=n1.tm)&&((decide (n1.vote=-1)||decide (n1.vote=s))&&decide (n1.role=0))))=ok→r=(if ok=true then { n1 with vote:=s } else n1,[(aMV 2 me s n1.tm ok).ms])):=fun n1 e=>by
     have e0:n1.me=n.me∧n1.log=n.log:=by
      rw[←e];split
      ·exact⟨(Nd.follow_log n mt (-1)).2.1,(Nd.follow_log n mt (-1)).1⟩
      ·exact⟨rfl,rfl⟩
     refine⟨e0.1.trans HNM.out.1,e0.2,fun ok hok=>?_⟩;rw[←hr];unfold Nd.onAsk;rw[if_pos (show m.ms.kind=1∨m.ms.kind=3 from Or.inl HQ.out.1)];dsimp only
     have e1:(if m.ms.kind=1∧n.tm<m.ms.tm then n.follow m.ms.tm (-1) else n)=n1:=by
      rw[←e,HNM.out.2,show m.ms.tm=mt from HQ.out.2.2.1,show m.ms.kind=1 from HQ.out.1];by_cases hh:tm<mt
      ·rw[if_pos hh,if_pos ⟨rfl,hh⟩]
      ·rw[if_neg hh,if_neg (fun e=>hh e.2)]
     rw[e1]
     have e2:(n1.log.newer m.ms.prev m.ms.index&&n1.would m.ms)=ok:=by unfold Nd.would;rw[if_neg (fun e=>by have:=e.symm.trans HQ.out.1;omega),e0.2,show m.ms.tm=mt from HQ.out.2.2.1,show m.ms.src=s from HQ.out.2.1,show n.log.newer m.ms.prev m.ms.index=nw from HQ.out.2.2.2.2,hok]
     rw[e2,HNM.out.1,show m.ms.src=s from HQ.out.2.1,show m.ms.kind=1 from HQ.out.1,if_neg (show ¬(ok=true∧(1:Int)=3) from fun e=>absurd e.2 (by decide))];have e3:(ok=true∧(1:Int)=1)↔ok=true:=⟨fun e=>e.1,fun e=>⟨e,rfl⟩⟩
     rw[Nv e3];rfl
    clear hr x11;go_upto_region 8 with fail
    rename_i K1 h1 K0 h0;have H1:=zH h1;clear h1;have GB:=zH gb.out;by_cases hlt:tm<mt
    ·have R1:=zH (RV.out _ (if_pos hlt));go_quiet (fail)
     have FQ4:Hid (Fr (fun _ _=>True) W (W.drewN nq)):=(Fr.refl _ W).drewN nq;generalize W.drewN nq=W0 at FQ4 ⊢;clear x6 v0 v3 RV;refine kXr ?_;intro MX4 H4;have v3:=(VH.out W0 MX4.out).2.1;have FO:=zH (fJ H4.out mt (-1));go_wp2_with fail
     (with_reducible refine FO.out.mono ?_);rintro e Wf ⟨rfl,hf3,ff⟩;have HF3:=zH hf3;have FF:=zH ff;clear v3 FO hf3 ff;go_wp2;exact H1.out _ _ (cw (fun fu=>BW (r:=r) (w:=w) (g0:=g0) (me:=me) (s:=s) (mt:=mt) HF3.out ((F2.out.trans FQ4.out).mono (K':=fun c _=>c≠b) (fun _ _ _=>trivial) |>.trans FF.out) (FF.out.keep _ _ MX4.out gb.out) ⟨R1.out.1,rfl⟩ (fun W t=>⟨(VH.out W t).1,(VH.out W t).2.1⟩) gb.out nw R1.out.2.2 fu) (by kernel_rfl))
    ·have R1:=zH (RV.out _ (if_neg hlt));go_quiet (fail)
     have FQ4:Hid (Fr (fun _ _=>True) W (W.drewN nq)):=(Fr.refl _ W).drewN nq;generalize W.drewN nq=W0 at FQ4 ⊢;clear x6 v0 v3 RV;refine kXr ?_;intro MX4 H4;go_wp2;exact H1.out _ _ (cw (fun fu=>BW (r:=r) (w:=w) (g0:=g0) (me:=me) (s:=s) (mt:=mt) H4.out ((F2.out.trans FQ4.out).mono fun _ _ _=>trivial) MX4.out ⟨R1.out.1,rfl⟩ (fun W t=>⟨(VH.out W t).1,(VH.out W t).2.1⟩) gb.out nw R1.out.2.2 fu) (by kernel_rfl))
   ·have k1:(k==1)=false:=by simpa using hk1
    have E:Hid (r=(n,[])):=by show r=_;rw[←hr];exact if_neg (fun e=>by rcases e with e | e <;> have:=e.symm.trans HQ.out.1 <;> omega)
    clear hr;go_wp2;go_ret;rw[E.out];exact⟨q,_,[],rfl,H2.out,F2.out.mono fun _ _ _=>trivial,OwnMs.nil _ _ _,rfl⟩
end
theorem vJ {K0:Nat→Obj→Prop} {o:Oper} {a:Act} {K:Act→World→Prop} {Q:Exit→Act→World→Prop} (W:World) (s x:Operand)
 (ho:o.op=.call { callee:=.builtin .append,args:=#[s,x],argTypes:=#[22,22] }) (g:Nat) (hs:a.eval s=.slice (some ⟨g,0,none⟩) 0 0) (hg:W.heap[g]? = some (.cells #[] 3 (0,0))) (B:Nat) (hB:B≤g)
 (vx:Value) (ys:List Int) (hx:a.eval x=vx) (hvx:IntsAt K0 W vx ys) (hn:ys.length≤1000000)
 (h:∀g' c w',w'.ownsRow B 3 1 (.slice g' ys.length c) ys.length (ys.flatMap encI)→FT W w'→K (a.put o.dst (.slice g' ys.length c)) w'):o.wp Tryz.prog a W K Q:=by
 obtain⟨i,hi,hz,hsize,hby⟩:=info_parts wZ;have hown:W.ownsRow B 3 1 (.slice (some ⟨g,0,none⟩) 0 0) 0 []:=⟨rfl,.inr ⟨g,0,#[],rfl,hB,hg,Nat.le_refl _,by unfold maxLen;omega,rfl,rfl⟩⟩
 have hlt:=bX hg;obtain⟨ax,cx,rfl,hcs⟩:=hvx;by_cases h0:ys.length=0
 ·have e0:=List.length_eq_zero_iff.1 h0;subst e0;have hrun:=fk (P:=Tryz.prog) (w:=W) B 22 o.type 3 i 1 Tryz.underlying22 hi _ 0 _ hown ax cx;unfold Oper.wp execOp;simp only[List.length_nil] at hx;simp only[ho,resolve,invoke,builtin,Sem.run_bind,Sem.run_pure,Result.andThen_ok,List.map_toArray,List.map_cons,List.map_nil,hs,hx,hrun];exact h _ 0 W hown (Fr.refl _ _)
 ·rcases hcs with e | ⟨b,off,ob,rfl,hb,hk,hcl⟩
  ·rw[e] at h0;exact absurd rfl h0
  have hl:(ys.flatMap encI).length=ys.length*1:=by rw[jv,List.length_map,Nat.mul_one]
  have hc:∀j u,(ys.flatMap encI)[j]? = some u→W.cell? ((⟨b,off,none⟩:Addr).add j)=some u:=fun j u hu=>by
   rw[jv,List.getElem?_map] at hu;obtain⟨z,hz,rfl⟩:=Option.map_eq_some_iff.1 hu;obtain⟨hj,rfl⟩:=List.getElem?_eq_some_iff.1 hz
   have e1:(⟨b,off,none⟩:Addr).add j=⟨b,off+j,none⟩:=by
    unfold Addr.add;split
    ·subst j;rfl
    ·rfl
   rw[e1];exact hcl j hj
  have ho1:∀u∈ys.flatMap encI,u.oneCell'=true:=fun u hu=>by rw[jv] at hu;obtain⟨z,_,rfl⟩:=List.mem_map.1 hu;rfl
  obtain⟨v',w',hr,h2,h3,h4⟩:=run_append_own (P:=Tryz.prog) W B 22 o.type 3 i _ 1 8 Tryz.underlying22 hi hz hsize hby rfl (by decide) _ 0 _ hown _ ys.length _ _ hl hc ho1 (by unfold maxLen;omega) (by omega) (by omega);have e:=run_append_grow (P:=Tryz.prog) W 22 o.type 3 i _ Tryz.underlying22 hi hz ⟨g,0,none⟩ 0 0 [] (by simp) (by simp) ⟨b,off,none⟩ ys.length cx (ys.flatMap encI) (by rw[hsize];exact hl) hc (by omega) (by omega) (growslice_fits (by omega) (by rw[hby];omega))
  have f:FT W w':=by rw[e] at hr;cases hr;exact((Fr.refl _ W).drew).alloc _
  unfold Oper.wp execOp;simp only[ho,resolve,invoke,builtin,Sem.run_bind,Sem.run_pure,Result.andThen_ok,List.map_toArray,List.map_cons,List.map_nil,hs,hx,hr];rw[List.nil_append,Nat.zero_add] at h2;obtain⟨g',c',rfl⟩:=j1 h2;exact h g' c' w' h2 f
section
variable {X:Nat→Prop} {w w':World} {b:Nat} {n n':Nd} {q q':DV}
theorem PV [Old] {m:MV} {Wc:World} {g0:Nat} {n1:Nd} {q1:DV} {s:Int} {r:Nd×List Ms} (h:DNs X Wc b n1 q1) (f0:Fr (fun c _=>c≠b) w Wc) (hb:b<w.heap.size) (MX:Wc.heap[g0]? = some (.cells (cM m) 32 (0,0))) (hs:m.src=s) (one two:Bool)
    (hr:r=if(one||two)=true then(let n2:Nd:={ n1 with yes:=n1.yes++[s] };if mV n2.conf n2.yes then(if two=true then n2.askT else(n2.lead,[])) else(n2,[])) else(n1,[]))
    (hcf:0<n1.conf.length∧n1.conf.length≤12) (hy:n1.yes.length≤900000) (mN:Nat) (hme:n1.me=(mN:Nat)) (hm16:mN<16) (htm:n1.tm+1<18446744073709551616) (hl:n1.log.last+1<18446744073709551616) (hle:n1.log.es.length≤900000) (fu:Nat→Value):
    Code.wp Tryz.prog (fK 8 (cW Tryz.f90.body)) (bodyPost Tryz.prog Tryz.f90 fun e w'=>gQ X w b r e w') { tmps:=tU 137 fu [(0,.pointer (some ⟨b,0,none⟩)),(3,.pointer (some ⟨g0,0,none⟩)),(7,.bool one),(8,.bool two)],defers:=[] } Wc:=by
  have H:=zH h
  have F0:=zH f0
  obtain⟨vy,hvy⟩:=zE q1.vy
  obtain⟨yl,hyl⟩:=zE n1.yes.length
  have HYL:Hid (n1.yes.length≤1000000∧n1.yes.length=yl):=⟨by omega,hyl⟩
  have CC:Hid (∀W,Fr (fun _ _=>True) Wc W→W.cell? ⟨b,5,none⟩=some vy∧W.cell? ⟨g0,1,none⟩=some (.int .i64 s)):=fun W f=>
    ⟨by rw[(h.cells f).2.2.2.2.2.1,hvy],by rw[(bq (f.keep _ _ MX trivial)).2.1,hs]⟩
  have CR:Hid (∀W,Fr (fun _ _=>True) Wc W→IntsAt (RO X) W vy n1.yes):=fun W f=>hvy▸h.ye.tt f
  have EQ:=zH hr
  have BD:=zH (And.intro hcf (And.intro hme (And.intro hm16 (And.intro htm (And.intro hl hle)))))
  have HB:=zH hb
  have HVY:=zH hvy
  have hyl1:yl+1≤1000000:=by omega
  obtain⟨yl1,hyl2⟩:=zE (yl+1)
  have HY1:Hid ((n1.yes++[s]).length=yl1):=by show _=_;rw[List.length_append,hyl];exact hyl2
  rw[hyl2] at hyl1
  have UD:Hid (Fr (fun _ _=>True) Wc Wc.drew):=(Fr.refl _ _).drew
  clear h f0 hr hcf hme hm16 htm hl hle hb hvy hyl hyl2 hy
  simp only[tU,tL,Nat.reduceAdd,Nat.reduceBEq,cond_true,cond_false]
  dsimp only[fK,cW,Tryz.f90]
  have NONE:Hid ((one||two)=false→r=(n1,[])):=fun e=>EQ.out.trans (if_neg (by rw[e];decide))
  by_cases hot:(one||two)=true
  case neg=>
    have OUT:=zH (NONE.out (by simpa using hot))
    clear CC CR NONE EQ
    cases one <;> cases two <;> first
      | exact absurd rfl hot
      | skip
    go_wp2
    go_ret
    rw[OUT.out]
    exact⟨q1,_,[],rfl,H.out,F0.out,OwnMs.nil _ _ _,rfl⟩
  case pos=>
    replace EQ:Hid (r=(let n2:Nd:={ n1 with yes:=n1.yes++[s] };if mV n2.conf n2.yes then(if two=true then n2.askT else(n2.lead,[])) else(n2,[]))):=EQ.out.trans (if_pos hot)
    clear NONE
    obtain⟨tw,htw⟩:=zE two
    replace EQ:Hid (r=(let n2:Nd:={ n1 with yes:=n1.yes++[s] };if mV n2.conf n2.yes then(if tw=true then n2.askT else(n2.lead,[])) else(n2,[]))):=htw▸EQ.out
    have HTW:=zH htw
    clear htw
    cases one <;> cases two <;> first
      | exact absurd hot (by decide)
      | skip
    all_goals
      clear hot
      go_wp2_with fail
      refine cY (K:=fun _ _=>True) (vt:=.pointer (some ⟨b,0,none⟩)) 0 rfl (by kernel_rfl) (by kernel_rfl) (by kernel_rfl) (fun _ _ _ h=>h) (Or.inl ⟨by rfl,?cfy⟩) (by kernel_rfl) [(108,0),(109,1),(110,2),(111,3),(112,4),(113,5),(114,6),(115,7),(116,8),(117,9),(118,10),(119,11),(120,12)] [(0,[]),(2,[]),(3,[2]),(4,[3]),(5,[4]),(7,[]),(8,[7]),(1,[]),(6,[1,5]),(9,[8])] (ckR [(0,.pointer (some ⟨b,0,none⟩)),(2,.pointer (some ⟨b,0,none⟩)),(3,.pointer (some ⟨b,0,none⟩)),(4,.pointer (some ⟨b,5,none⟩)),(5,vy),(7,.pointer (some ⟨g0,1,none⟩)),(8,.int .i64 s)] [(1,⟨fun v W=>∃g,v=.slice (some ⟨g,0,none⟩) 0 0∧W.heap[g]? = some (.cells #[] 3 (0,0))∧Wc.heap.size≤g,fun v W W' h hf=>by obtain⟨g,h1,h2,h3⟩:=h;exact⟨g,h1,hf.keep _ _ h2 trivial,h3⟩⟩),(6,⟨fun v W=>∃g c,v=.slice g yl c∧W.ownsRow Wc.heap.size 3 1 (.slice g yl c) yl (n1.yes.flatMap encI),fun v W W' h hf=>by obtain⟨g,c,h1,h2⟩:=h;exact⟨g,c,h1,bK h2 hf fun _ _ _ _=>trivial⟩⟩),(9,⟨fun v W=>∃g,v=.slice (some ⟨g,0,none⟩) 1 1∧W.heap[g]? = some (.cells #[.int .i64 s] 3 (0,0)),fun v W W' h hf=>by obtain⟨g,h1,h2⟩:=h;exact⟨g,h1,hf.keep _ _ h2 trivial⟩⟩)] 10 0) 4 (by kernel_rfl) (by kernel_rfl) (by kernel_rfl) rfl (fun _=>rfl) (by rfl) 108 rfl (by simp) ?cfall ?cfend
      case cfy=>(intro w;(try simp only[gA,gB,gC]);go_simp)
      case cfall=>
        iterate 7
          refine bY.q rfl rfl rfl (kQQ ?_) ?_
          · intro xs W HF K' hK
            obtain⟨y5,v1⟩:=CC.out W ((Fr.refl _ Wc).drew.trans HF.out)
            exact mr9
        refine bY.p rfl rfl (kPP ?_) ?_
        · intro xs W HF K' hK
          have SB:Hid (Wc.heap.size≤W.heap.size):=((Fr.refl (fun _ _=>True) Wc).drew.trans HF.out).size
          exact mIK
        refine bY.p rfl rfl (kPH ?_) ?_
        · intro xs W HF hA K' hK
          have h1:=hA 1 (by decide)
          clear hA
          obtain⟨g1,e1,t1,hb1⟩:=h1
          have RY:=zH (CR.out W ((Fr.refl _ Wc).drew.trans HF.out))
          rw[e1] at hK ⊢
          clear e1
          have T1:=zH t1
          (try simp only[gA,gB,gC])
          refine(iteInduction (motive:=fun t=>t) (fun _=>?_) (fun hn=>absurd rfl hn))
          with_reducible refine vJ (K:=fun a w=>K' a w) W (.tmp 109) (.tmp 113) (by rfl) g1 (by simp [Act.eval,Act.put,fillA,fillL,sA,sB,sC]) T1.out Wc.heap.size hb1 vy n1.yes (by simp [Act.eval,Act.put,fillA,fillL,sA,sB,sC]) RY.out HYL.out.1 ?_
          intro g' c w' o' f'
          rw[HYL.out.2] at o' ⊢
          exact hK.out _ _ _ rfl f' ⟨g',c,rfl,o'⟩
        refine bY.p rfl rfl (kPP ?_) ?_
        · intro xs W HF K' hK
          obtain⟨y5,v1⟩:=CC.out W ((Fr.refl _ Wc).drew.trans HF.out)
          (try simp only[gA,gB,gC])
          go_simp
          exact hK.out _ _ _ rfl ((Fr.refl _ _).alloc _) ⟨_,rfl,bZ _ _⟩
        exact m36
      case cfend=>
        refine kEH ?_
        intro xs W HF hA
        have h1:=hA (1,[]) (by decide)
        have h6:=hA (6,[1,5]) (by decide)
        have h9:=hA (9,[8]) (by decide)
        clear hA
        obtain⟨ga,ca,e6,oa⟩:=h6
        obtain⟨g9,e9,t9⟩:=h9
        rw[e6,e9]
        clear e6 e9
        have FW:=zH (UD.out.trans HF.out)
        have HW:=zH (H.out.tt FW.out)
        have OA:Hid (W.ownsRow Wc.heap.size 3 1 (.slice ga yl ca) n1.yes.length (n1.yes.flatMap encI)):=by show World.ownsRow _ _ _ _ _ _ _;rw[HYL.out.2];exact oa
        have R9:=zH (lX t9)
        clear oa t9 UD CC CR
        refine wpN 10 rfl fun K' hK=>?_
        (try simp only[gA,gB,gC])
        refine(iteInduction (motive:=fun t=>t) (fun _=>?_) (fun hn=>absurd rfl hn))
        with_reducible refine fj (K:=fun a w=>K' a w) Wc W FW (.tmp 114) (.tmp 117) (by rfl) (.slice ga yl ca) n1.yes (by simp [Act.eval,Act.put,fillA,fillL]) OA (.slice (some ⟨g9,0,none⟩) 1 1) [s] (by simp [Act.eval,Act.put,fillA,fillL]) R9 (n1.yes++[s]) (zH rfl) yl1 HY1 hyl1 ?_
        intro gy cy Wy OY FY _ _
        refine hK.out _ _ ?_
        clear hK K'
        have HY:=zH (H.out.tt FY.out)
        have y5:=(HY.out.cells (Fr.refl _ Wy)).2.2.2.2.2.1
        have z5:=HY.out.free (Fr.refl _ Wy) 5
        obtain⟨Wz,hWz⟩:=zE (Wy.setCell ⟨b,5,none⟩ (.slice gy yl1 cy))
        have fz:Fr (fun c _=>c≠b) Wy Wz:=hWz▸(Fr.refl _ _).setCell (fun _ _ h=>h rfl) _
        obtain⟨n2,hn2⟩:∃x:Nd,{ n1 with yes:=n1.yes++[s] }=x:=⟨_,rfl⟩
        obtain⟨q2,hq2⟩:∃x:DV,{ q1 with vy:=.slice gy yl1 cy }=x:=⟨_,rfl⟩
        have hz:DNs X Wz b { n1 with yes:=n1.yes++[s] } { q1 with vy:=.slice gy yl1 cy }:=by
          refine HY.out.re fz ?_ ⟨rfl,rfl⟩ ?_ ⟨HY.out.ee,HY.out.ev.aft (HY.out.own fz)⟩ ⟨HY.out.nl,HY.out.ml⟩
          · have hh:=bw [(5,Value.slice gy yl1 cy)] HY.out.top
            rw[←hWz];exact hh
          · have o2:Wz.ownsRow Wc.heap.size 3 1 (.slice gy yl1 cy) (n1.yes++[s]).length ((n1.yes++[s]).map B9):=by
              rw[HY1.out,←j5]
              exact bK OY.out fz fun c o e ho (hcb:c=b)=>by
                subst hcb
                rcases OY.out.2 with⟨e2,_⟩ | ⟨g,_,_,e2,hbb,_⟩
                · cases e2;cases e
                · cases e2
                  have e3:some g=some c:=e
                  injection e3 with e3
                  have:=bX H.out.top
                  omega
            exact(RowI.intsK (B:=Wc.heap.size) (show RowI Wz Wc.heap.size (.slice gy yl1 cy) (n1.yes++[s]) from o2)).mono fun c o hc=>⟨fun hx=>by have:=H.out.hx c hx;omega,by obtain⟨cs,e⟩:=hc.2;exact .inr ⟨cs,_,_,e,by decide⟩⟩
        rw[hn2,hq2] at hz
        have hq4:n2.conf=n1.conf∧n2.yes=n1.yes++[s]∧n2.me=n1.me∧n2.log=n1.log∧n2.tm=n1.tm∧q2.vy=.slice gy yl1 cy:=by rw[←hn2,←hq2];exact⟨rfl,rfl,rfl,rfl,rfl,rfl⟩
        have HZ:=zH hz
        have FZ:Hid (Fr (fun c _=>c≠b) Wc Wz):=(FY.out.mono fun _ _ _=>trivial).trans fz
        obtain⟨ac,cc,hvc⟩:=hz.cf.form
        have hcw:=hz.cf
        rw[hvc] at hcw
        obtain⟨bo,oo,rfl⟩:=hcw.addr (by rw[hq4.1];exact BD.out.1.1)
        obtain⟨N,hN⟩:=zE n2.conf.length
        have AG:=zH (fun k=>(lJ (Wz.drewN k) bo oo cc (.slice gy yl1 cy) n2.conf n2.yes (hcw.tt ((Fr.refl _ Wz).drewN k)) (hq4.2.2.2.2.2▸hz.ye.tt ((Fr.refl _ Wz).drewN k)) (by rw[hq4.1];exact BD.out.1.2) (by rw[hq4.2.1,HY1.out];unfold maxLen;omega)).mono fun e w' ⟨h1,h2⟩=>And.intro h1 h2.symm)
        obtain⟨ag,hag⟩:=zE (mV n2.conf n2.yes)
        rw[hag,hN] at AG
        have w4:=(hz.cells (Fr.refl _ Wz)).2.2.2.2.1
        have w5:=(hz.cells (Fr.refl _ Wz)).2.2.2.2.2.1
        rw[hvc,hN] at w4
        rw[hq4.2.2.2.2.2] at w5
        have EQ2:Hid (r=if ag=true then(if tw=true then n2.askT else(n2.lead,[])) else(n2,[])):=by
          have hg:mV n1.conf (n1.yes++[s])=ag:=by rw[←hag,←hn2]
          refine EQ.out.trans ?_
          rw[←hn2]
          show (if mV n1.conf (n1.yes++[s])=true then _ else _)=_
          rw[hg]
        have ASK:Hid (∀k,Calls Tryz.prog 83 #[.pointer (some ⟨b,0,none⟩),.bool true] (Wz.drewN k) fun e w'=>gQ X (Wz.drewN k) b n2.askT e w'):=fun k=>qz (HZ.out.tt ((Fr.refl _ Wz).drewN k)) (by rw[hq4.1];exact BD.out.1) mN (by rw[hq4.2.2.1];exact BD.out.2.1) BD.out.2.2.1 (by rw[hq4.2.2.2.2.1];exact BD.out.2.2.2.1) (by rw[hq4.2.2.2.1];exact BD.out.2.2.2.2.1) (by rw[hq4.2.2.2.1];exact BD.out.2.2.2.2.2)
        have LEAD:Hid (∀k,Calls Tryz.prog 117 #[.pointer (some ⟨b,0,none⟩)] (Wz.drewN k) fun e w'=>DLOut X (Wz.drewN k) b n2.lead e w'):=fun k=>qW (HZ.out.tt ((Fr.refl _ Wz).drewN k)) mN (by rw[hq4.2.2.1];exact BD.out.2.1) BD.out.2.2.1 (by rw[hq4.2.2.2.1];exact BD.out.2.2.2.2.1) (by rw[hq4.2.2.2.1];exact BD.out.2.2.2.2.2)
        clear EQ hn2 hq2 hz hvc hcw hN hag hq4
        refine wpN 11 rfl fun K' hK=>?_
        (try simp only[gA,gB,gC])
        go_simp
        refine hK.out _ _ ?_
        clear hK K'
        refine wpN 12 rfl fun K' hK=>?_
        (try simp only[gA,gB,gC])
        go_simp
        refine hK.out _ _ ?_
        clear hK K'
        refine wpN 13 rfl fun K' hK=>?_
        (try simp only[gA,gB,gC])
        go_simp
        refine hK.out _ _ ?_
        clear hK K'
        refine wpF ?_
        try rw[hWz]
        clear y5 z5 hWz
        go_wp2_with fail
        go_quiet ((go_at_call 116;exact Calls.quiet_of_same (AG.out _)))
        have U5:Hid (Fr (fun _ _=>True) Wz (Wz.drewN nq)):=(Fr.refl _ Wz).drewN nq
        have FB5:Hid (Fr (fun c _=>c≠b) w (Wz.drewN nq)):=F0.out.trans (FZ.out.trans (U5.out.mono fun _ _ _=>trivial))
        clear AG w4 w5
        cases ag with
        | false=>
          have OUT:Hid (r=(n2,[])):=EQ2.out.trans (if_neg (by decide))
          clear EQ2 ASK LEAD
          go_wp2
          go_ret
          rw[OUT.out]
          exact⟨q2,_,[],rfl,HZ.out.tt U5.out,FB5.out,OwnMs.nil _ _ _,rfl⟩
        | true=>
          have OUT:Hid (r=if tw=true then n2.askT else(n2.lead,[])):=EQ2.out.trans (if_pos rfl)
          have AC:=zH (ASK.out nq)
          have LC:=zH (LEAD.out nq)
          clear EQ2 ASK LEAD
          first
          | (replace OUT:Hid (r=n2.askT):=OUT.out.trans (if_pos HTW.out.symm)
             go_wp2_with fail
             (with_reducible refine AC.out.mono ?_)
             rintro e w9 ⟨q9,v,mvs,rfl,d9,f9,o9,e9⟩
             have HH:=zH (And.intro d9 (And.intro f9 (And.intro o9 e9)))
             clear d9 f9 o9 e9 AC LC
             go_wp2
             go_ret
             rw[OUT.out]
             exact⟨q9,_,mvs,rfl,HH.out.1,FB5.out.trans HH.out.2.1,HH.out.2.2.1.lo FB5.out.size,HH.out.2.2.2⟩)
          | (replace OUT:Hid (r=(n2.lead,[])):=OUT.out.trans (if_neg (fun e=>absurd (HTW.out.trans e) (by decide)))
             go_wp2_with fail
             (with_reducible refine LC.out.mono ?_)
             rintro e w9 ⟨q9,rfl,d9,f9⟩
             have HH:=zH (And.intro d9 f9)
             clear d9 f9 AC LC
             go_wp2
             go_ret
             rw[OUT.out]
             exact⟨q9,_,[],rfl,HH.out.1,FB5.out.trans HH.out.2,OwnMs.nil _ _ _,rfl⟩)
end
end Go.Proofs.YtmjccpfchhnfhaaGreat
