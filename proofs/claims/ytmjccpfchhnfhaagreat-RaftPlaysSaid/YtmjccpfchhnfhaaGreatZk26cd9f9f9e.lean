/- Texts of the proofs, part 33: what the functions that they reach do, walked; no conditions beyond those that each states. -/
import Derived.Test.YtmjccpfchhnfhaaGreatZk72cbde5552
set_option linter.unusedVariables false
set_option linter.unusedSimpArgs false
set_option maxRecDepth 100000
set_option maxHeartbeats 8000000
namespace Go.Proofs.YtmjccpfchhnfhaaGreat
open Go.RowKit
theorem kMp {p q:Prop} (k:q) (h:q→p:=by
 have v4:W.cell? ⟨g,4,none⟩=some (.int .u64 (pv:Nat)):=by rw[(bq ((U2.out.trans HF.out).keep _ _ T2.out trivial)).2.2.2.2.1,←HM0.out]
 intro kk0;revert v4;exact kk0):p:=h k
theorem kfY {p q:Prop} (k:q) (h:q→p:=by
 have g1:(((t:Nat):Int)==me)=false:=by simpa using hx
 have ht0:¬((t:Nat):Int)<0:=by omega
 have ht15:¬(15:Int)<((t:Nat):Int):=by omega
 have ht16:((t:Nat):Int)<16:=by omega
 intro kk0;revert ht16;revert ht15;revert ht0;revert g1;exact kk0):p:=h k
section
variable {X:Nat→Prop} {w w':World} {b:Nat} {n n':Nd} {q q':DV}
theorem DNs.msg [Old] (h:DNs X w b n q) {g:Nat} (hf:Fr (fun c _=>c≠g) w w') (hg:∃cs fz,w.heap[g]? = some (.cells cs 32 fz)) (hgo:b<g):DNs X w' b n q:=by
 obtain⟨cs,fz,hg⟩:=hg
 have ro:∀c o,w.heap[c]? = some o→RO X c o→c≠g:=fun c o ho hr e=>by subst e;rw[hg] at ho;cases ho;exact hr.ne (fun q=>by have:=h.od _ q;omega) rfl (by decide)
 have ints:∀{v:Value} {zs:List Int},IntsAt (RO X) w v zs→IntsAt (RO X) w' v zs:=fun hi=>((hi.mono3 (K':=fun c o=>RO X c o∧c≠g) fun c o ho hr=>⟨hr,ro c o ho hr⟩).fr hf fun c o q=>q.2).mono fun c o q=>q.1
 exact⟨hf.keep _ _ h.top (fun e=>by have:=h.top;rw[e,hg] at this;cases this),ints h.cf,ints h.ye,h.ev.fr hf ro,h.ee,h.nl,h.ml,h.xb,fun c hc=>Nat.lt_of_lt_of_le (h.hx c hc) hf.size,h.od⟩
theorem Kz [Old] (h:DNs X w b n q) (x:Int) (hr:n.role≠3) (hnx:∀y∈n.next,y<18446744073709551616) (hl:n.log.last+1<18446744073709551616) (hle:n.log.es.length≤900000):
 Calls Tryz.prog 17 #[.pointer (some ⟨b,0,none⟩),.int .i64 x] w fun e w'=>jj X w (n.sendTo x) e w':=by
 have E:n.sendTo x=[]:=if_pos (.inl hr);rw[E];refine kpb ?_;intro x2;obtain⟨ro,hro⟩:=zE n.role;rw[hro] at x2 hr;refine kaZ ?_;intro g1 g2;clear h hr hro E hnx hl hle;go_enter Tryz.func17,Tryz.ntmps17
 go_wp2;go_ret;exact jj.none (Fr.refl _ _)
theorem Kx [Old] (h:DNs X w b n q) (x:Int) (hr:n.role=3) (hx:x=n.me) (hnx:∀y∈n.next,y<18446744073709551616) (hl:n.log.last+1<18446744073709551616) (hle:n.log.es.length≤900000):
 Calls Tryz.prog 17 #[.pointer (some ⟨b,0,none⟩),.int .i64 x] w fun e w'=>jj X w (n.sendTo x) e w':=by
 have E:n.sendTo x=[]:=if_pos (.inr (.inl hx));rw[E];refine kpb ?_;intro x2;have x0:=(h.cells (Fr.refl _ w)).1;rw[hr] at x2;rw[←hx] at x0;clear h hr hx E hnx hl hle;go_enter Tryz.func17,Tryz.ntmps17
 go_wp2;go_ret;exact jj.none (Fr.refl _ _)
theorem Kj [Old] (h:DNs X w b n q) (x:Int) (hr:n.role=3) (hx:x≠n.me) (h16:x<0) (hnx:∀y∈n.next,y<18446744073709551616) (hl:n.log.last+1<18446744073709551616) (hle:n.log.es.length≤900000):
 Calls Tryz.prog 17 #[.pointer (some ⟨b,0,none⟩),.int .i64 x] w fun e w'=>jj X w (n.sendTo x) e w':=by
 have E:n.sendTo x=[]:=if_pos (.inr (.inr (.inl h16)));rw[E];refine kpb ?_;intro x2;have x0:=(h.cells (Fr.refl _ w)).1;obtain⟨me,hme⟩:=zE n.me;rw[hr] at x2;rw[hme] at x0 hx;have g1:(x==me)=false:=by simpa using hx
 clear h hr hx E hme hnx hl hle;go_enter Tryz.func17,Tryz.ntmps17
 go_wp2;go_ret;exact jj.none (Fr.refl _ _)
theorem Kk [Old] (h:DNs X w b n q) (x:Int) (hr:n.role=3) (hx:x≠n.me) (h0:¬x<0) (h16:15<x) (hnx:∀y∈n.next,y<18446744073709551616) (hl:n.log.last+1<18446744073709551616) (hle:n.log.es.length≤900000):
 Calls Tryz.prog 17 #[.pointer (some ⟨b,0,none⟩),.int .i64 x] w fun e w'=>jj X w (n.sendTo x) e w':=by
 have E:n.sendTo x=[]:=if_pos (.inr (.inr (.inr (.inl h16))));rw[E];refine kpb ?_;intro x2;have x0:=(h.cells (Fr.refl _ w)).1;obtain⟨me,hme⟩:=zE n.me;rw[hr] at x2;rw[hme] at x0 hx;have g1:(x==me)=false:=by simpa using hx
 clear h hr hx E hme hnx hl hle;go_enter Tryz.func17,Tryz.ntmps17
 go_wp2;go_ret;exact jj.none (Fr.refl _ _)
theorem Kw [Old] (h:DNs X w b n q) (t:Nat) (ht:t<16) (hr:n.role=3) (hx:((t:Nat):Int)≠n.me) (hb:n.next.getD t 0≤n.log.base) (hnx:∀y∈n.next,y<18446744073709551616) (hl:n.log.last+1<18446744073709551616) (hle:n.log.es.length≤900000):
 Calls Tryz.prog 17 #[.pointer (some ⟨b,0,none⟩),.int .i64 (t:Nat)] w fun e w'=>jj X w (n.sendTo (t:Nat)) e w':=by
 have E:n.sendTo (t:Nat)=[]:=if_pos (.inr (.inr (.inr (.inr hb))));rw[E];obtain⟨me,hme⟩:=zE n.me;have H:=zH h;rw[hme] at hx;refine kfY ?_;intro g1 ht0 ht15 ht16;refine kpb ?_;intro x2;have x0:=(h.cells (Fr.refl _ w)).1;have x8:=(h.cells (Fr.refl _ w)).2.2.2.2.2.2.2.2.1;have z:=h.nxt (Fr.refl _ w) t ht;rw[hr] at x2;rw[hme] at x0;obtain⟨bs,hbs⟩:=zE n.log.base;obtain⟨nt,hnt⟩:=zE (n.next.getD t 0);rw[hbs] at x8;rw[hnt] at z;rw[hbs,hnt] at hb;have g2:decide (nt≤bs)=true:=decide_eq_true hb;clear h hr hx E hme hnx hl hle hb ht hbs hnt;go_enter Tryz.func17,Tryz.ntmps17
 go_wp2_with fail
 go_quiet (fail)
 go_wp2;go_ret;exact jj.none ((Fr.refl _ _).drewN _)
theorem Kv [Old] (h:DNs X w b n q) (t:Nat) (ht:t<16) (hr:n.role=3) (hx:((t:Nat):Int)≠n.me) (hb:¬n.next.getD t 0≤n.log.base) (hnx:∀y∈n.next,y<18446744073709551616) (hl:n.log.last+1<18446744073709551616) (hle:n.log.es.length≤900000):
 Calls Tryz.prog 17 #[.pointer (some ⟨b,0,none⟩),.int .i64 (t:Nat)] w fun e w'=>jj X w (n.sendTo (t:Nat)) e w':=by
 obtain⟨me,hme⟩:=zE n.me;have H:=zH h;rw[hme] at hx;refine kfY ?_;intro g1 ht0 ht15 ht16;refine kpb ?_;intro x2;have x0:=(h.cells (Fr.refl _ w)).1;have x8:=(h.cells (Fr.refl _ w)).2.2.2.2.2.2.2.2.1;have z:=h.nxt (Fr.refl _ w) t ht;rw[hr] at x2;rw[hme] at x0;obtain⟨bs,hbs⟩:=zE n.log.base;obtain⟨nt,hnt⟩:=zE (n.next.getD t 0);rw[hbs] at x8;rw[hnt] at z;rw[hbs,hnt] at hb;have g2:decide (nt≤bs)=false:=decide_eq_false hb;obtain⟨bt,hbt⟩:=zE n.log.bt;obtain⟨tm,htm⟩:=zE n.tm;obtain⟨cm,hcm⟩:=zE n.commit;obtain⟨pv,hpv⟩:=zE (nt-1);obtain⟨pt,hpt⟩:=zE ((n.log.term pv).1);obtain⟨pk,hpk⟩:=zE ((n.log.term pv).2);obtain⟨SL,hSL⟩:=zE (n.log.slice nt 8)
 have hn64:nt<18446744073709551616:=by rw[←hnt,List.getD_eq_getElem?_getD,List.getElem?_eq_getElem (by have:=h.nl;omega)];exact hnx _ (List.getElem_mem _)
 obtain⟨ae,ce,hve⟩:∃a c',q.ve=.slice a q.es.length c':=by obtain⟨a,c',e,_⟩:=h.ev.row.form;exact⟨a,c',e⟩
 obtain⟨le,hlel⟩:=zE q.es.length;rw[hlel] at hve;have hel:=h.esl;have hlg:lgE bs bt q.es=n.log:=by unfold lgE;rw[←hbs,←hbt,←h.ee]
 refine kJf ?_;intro hl2
 have OUT:Hid (n.sendTo (t:Nat)=[{ zMs with kind:=5,src:=me,dst:=(t:Nat),tm:=tm,index:=pv,prev:=pt,commit:=cm,es:=SL }]):=by
  show n.sendTo (t:Nat)=_
  have e:n.sendTo (t:Nat)=[{ zMs with kind:=5,src:=n.me,dst:=(t:Nat),tm:=n.tm,index:=n.next.getD t 0-1,prev:=(n.log.term (n.next.getD t 0-1)).1,commit:=n.commit,es:=n.log.slice (n.next.getD t 0) 8 }]:=if_neg (by
   show ¬(n.role≠3∨((t:Nat):Int)=n.me∨((t:Nat):Int)<0∨15<((t:Nat):Int)∨n.next.getD t 0≤n.log.base);rw[hnt,hbs,hme];rintro(e | e | e | e | e)
   ·exact e hr
   ·exact hx e
   ·omega
   ·omega
   ·exact hb e)
  rw[e,hnt,hpv,hpt,hSL,hme,htm,hcm]
 have TC:=zH (fun W (hw:DNs X W b n q)=>f_ W bs bt pv ae le ce q.es (by have:=hw.ev.row;rw[hve] at this;exact this) (by omega) (by omega));rw[hlg,hpt,hpk] at TC
 have hsl:(if bs<nt then(q.es.drop (nt-bs-1)).take 8 else[]).map EV.en=SL:=by
  rw[←hSL,←hlg];unfold Lg.slice Lg.has Lg.last;simp only[List.length_map];rw[if_pos (by omega)];by_cases e:nt≤bs+q.es.length
  ·rw[if_pos (by simp;omega),List.map_take,List.map_drop]
  ·rw[if_neg (by simp;omega),List.drop_of_length_le (by omega)];rfl
 have SLC:Hid (∀W,DNs X W b n q→Calls Tryz.prog 69 #[.agg #[.int .u64 (bs:Nat),.int .u64 (bt:Nat),.slice ae le ce],.int .u64 (nt:Nat),.int .i64 8] W fun e w'=>(∃a' c' ys,e=.returned (.slice a' ys.length c')∧EsAt X w' (.slice a' ys.length c') ys∧ys.map EV.en=SL)∧FT W w'):=fun W hw=>
  (zj W bs bt nt 8 ae le ce q.es (by have:=hw.ev;rw[hve] at this;exact this) (by omega) (by decide) (by omega) hn64 hw.hx).mono fun e w' ⟨⟨a',c',h1,h2⟩,h3⟩=>⟨⟨a',c',_,h1,h2,hsl⟩,h3⟩
 have CC:Hid (∀W W',DNs X W b n q→FT W W'→W'.cell? ⟨b,0,none⟩=some (.int .i64 me)∧W'.cell? ⟨b,6,none⟩=some (.int .u64 (tm:Nat))∧W'.cell? ⟨b,7,none⟩=some (.int .u64 (cm:Nat))∧W'.cell? ⟨b,8,none⟩=some (.int .u64 (bs:Nat))∧W'.cell? ⟨b,9,none⟩=some (.int .u64 (bt:Nat))∧W'.cell? ⟨b,10,none⟩=some (.slice ae le ce)∧W'.cell? ⟨b,12+t,none⟩=some (.int .u64 (nt:Nat))):=fun W W' hw f=>by obtain⟨x0,x1,x2,x3,x4,x5,x6,x7,x8,x9,x10,x11⟩:=hw.cells f;exact⟨by rw[x0,hme],by rw[x6,htm],by rw[x7,hcm],by rw[x8,hbs],by rw[x9,hbt],by rw[x10,hve],by rw[hw.nxt f t ht,hnt]⟩
 have w1:IntKind.u64.wrap ((nt:Int)-1)=((pv:Nat):Int):=by rw[IntKind.wrap_u64];omega
 clear h hr hx hme hnx hl hle hb hve hlel hel hlg hbs hbt htm hcm hnt hpv hpt hpk hSL hsl hn64 hl2 ht;dsimp only[vL9] at TC;go_enter Tryz.func17,Tryz.ntmps17
 go_wp2_with fail
 go_quiet (fail)
 clear x0 x2 x8 z;have UD:Hid (FT w (w.drewN nq).drew):=((Fr.refl _ w).drewN nq).drew;go_wp2_with fail
 refine wpR [(41,0),(42,1),(43,2),(44,3),(45,4),(46,5),(47,6),(48,7),(49,8),(50,9),(51,10),(52,11),(53,12),(54,13),(55,14),(56,15),(57,16),(58,17),(59,18),(60,19),(61,20),(5,21)] [(0,[]),(1,[0]),(2,[1]),(3,[2]),(4,[]),(5,[]),(6,[5]),(7,[6]),(8,[7]),(9,[]),(10,[]),(11,[9]),(12,[11]),(13,[10,12]),(14,[13]),(15,[14]),(16,[]),(17,[16]),(18,[17]),(19,[18]),(20,[3,4,8,15,19]),(21,[])] (ckR [(0,.pointer (some ⟨b,0,none⟩)),(1,.pointer (some ⟨b,0,none⟩)),(2,.pointer (some ⟨b,0,none⟩)),(3,.int .i64 me),(4,.int .i64 (t:Nat)),(5,.pointer (some ⟨b,0,none⟩)),(6,.pointer (some ⟨b,0,none⟩)),(7,.pointer (some ⟨b,6,none⟩)),(8,.int .u64 (tm:Nat)),(9,.pointer (some ⟨b,0,none⟩)),(10,.int .i64 (t:Nat)),(11,.pointer (some ⟨b,0,none⟩)),(12,.pointer (some ⟨b,12,none⟩)),(13,.pointer (some ⟨b,12+t,none⟩)),(14,.int .u64 (nt:Nat)),(15,.int .u64 (pv:Nat)),(16,.pointer (some ⟨b,0,none⟩)),(17,.pointer (some ⟨b,0,none⟩)),(18,.pointer (some ⟨b,7,none⟩)),(19,.int .u64 (cm:Nat)),(20,.agg #[.int .i64 5,.int .i64 me,.int .i64 (t:Nat),.int .u64 (tm:Nat),.int .u64 (pv:Nat),.int .u64 0,.int .u64 (cm:Nat),.bool false,.slice none 0 0,.slice none 0 0])] [(21,⟨fun v W=>∃g,v=.pointer (some ⟨g,0,none⟩)∧w.heap.size≤g∧W.heap[g]? = some (.cells (cM zMV) 32 (0,0)),fun v W W' h hf=>by obtain⟨g,h1,h2,h3⟩:=h;exact⟨g,h1,h2,hf.keep _ _ h3 trivial⟩⟩)] 22 0) 1 rfl ?cfall ?cfend
 case cfall=>
  iterate 21
   refine bY.q rfl rfl rfl (kQQ ?_) ?_
   ·intro xs W HF K' hK;obtain⟨y0,y6,y7,y8,y9,y10,z⟩:=CC w W H (UD.trans HF);exact mD8
  refine bY.p rfl rfl (kPP ?_) ?_
  ·exact mBZ
  exact m36
 case cfend=>
  refine kEH ?_;intro xs W HF hA;have h21:=hA (21,[]) (by decide);clear hA;obtain⟨g,e21,hgw,tg⟩:=h21;rw[e21];have HGW:=zH hgw;have FW:=zH (UD.trans HF);obtain⟨m0,hm0⟩:∃m:MV,(⟨5,me,(t:Nat),tm,pv,0,cm,false,none,0,[],none,0,[]⟩:MV)=m:=⟨_,rfl⟩
  obtain⟨W2,hW2',t2,f2⟩:=Jj tg (.int .i64 5) (.int .i64 me) (.int .i64 (t:Nat)) (.int .u64 (tm:Nat)) (.int .u64 (pv:Nat)) (.int .u64 0) (.int .u64 (cm:Nat)) (.bool false) (.slice none 0 0) (.slice none 0 0);have T2:Hid (W2.heap[g]? = some (.cells (cM m0) 32 (0,0))):=by rw[←hm0];exact t2
  have HM0:=zH hm0;have H2:=zH ((H.out.tt FW.out).msg f2 ⟨_,_,tg⟩ (by have:=bX H.out.top;have:=HGW.out;omega));have F2:Hid (FT w W2):=Fr.within ((FW.out.tT:Fr (fun c _=>True∧c<w.heap.size) w W).trans (f2.mono fun c _ h e=>by have:=h.2;have:=HGW.out;omega));have U2:Hid (FT W2 W2.drew):=(Fr.refl _ _).drew;refine kwD ?_;intro v0 v1 v2 v3 v4 v5 v6 v7 v8 v9 z0 z1 z2 z3 z4 z5 z6 z7 z8 z9;clear t2 f2 hm0 hgw w1;refine wpN 22 rfl fun K' hK=>?_
  skip
  go_simp;refine hK _ _ ?_;clear hK K';refine wpF ?_
  try rw[hW2']
  clear z0 z1 z2 z3 z4 z5 z6 z7 z8 z9 v0 v1 v2 v3 v4 v5 v6 v7 v8 v9 hW2' tg;obtain⟨WA,hWA⟩:=zE W;rw[hWA] at HF FW;clear hWA;go_wp2_with fail
  refine g_ (K:=fun _ _=>True) (by kernel_rfl) [(63,0),(64,1),(65,2),(66,3),(67,4),(68,5),(69,6),(62,7),(70,8),(71,9),(6,10),(7,11)] [(0,[]),(1,[0]),(2,[1]),(3,[2]),(4,[]),(5,[4]),(7,[6]),(8,[7]),(9,[7]),(6,[3,5])] (ckR [(0,.pointer (some ⟨b,0,none⟩)),(1,.pointer (some ⟨b,0,none⟩)),(2,.pointer (some ⟨b,8,none⟩)),(3,.agg #[.int .u64 (bs:Nat),.int .u64 (bt:Nat),.slice ae le ce]),(4,.pointer (some ⟨g,4,none⟩)),(5,.int .u64 (pv:Nat)),(6,.tuple #[.int .u64 (pt:Nat),.bool pk]),(7,.tuple #[.int .u64 (pt:Nat),.bool pk]),(8,.int .u64 (pt:Nat)),(9,.bool pk)] [] 10 0) [9] 2 (by kernel_rfl) (by kernel_rfl) (by kernel_rfl) (by kernel_rfl) (by kernel_rfl) (by exact fun _ _ _ _ _ h=>h) (by rfl) ?cfall ?cffl ?cfend
  case cffl=>
   refine FlAll.cons rfl (fun xs W hF hA=>?_) ?_
   ·have HF:=zH hF;have h7:xs 7=.tuple #[.int .u64 (pt:Nat),.bool pk]:=hA (7,[6]) (by decide) (by decide);clear hA hF;simp only[fillA,fillL,sA,sB,sC,h7];refine⟨.bool pk,Or.inl ⟨by rfl,fun w=>?_⟩,rfl⟩
    skip
    go_simp
   exact FlAll.nil
  case cfall=>
   iterate 9
    refine bY.q rfl rfl rfl (kQQ ?_) ?_
    ·intro xs W HF K' hK;obtain⟨y0,y6,y7,y8,y9,y10,z⟩:=CC W2 W H2 (U2.trans HF);refine kMp ?_;intro v4;exact mD8
   refine bY.p rfl rfl (kPP ?_) ?_
   ·intro xs W HF K' hK;obtain⟨y0,y6,y7,y8,y9,y10,z⟩:=CC W2 W H2 (U2.trans HF);refine kMp ?_;intro v4;have TC1:=zH (TC W (H2.tt (U2.trans HF)))
    skip
    go_simp;(with_reducible refine TC1.out.mono ?_);exact msd
   exact m36
  case cfend=>
   refine kEE ?_;intro xs W HF;refine wpN 10 rfl fun K' hK=>?_
   skip
   go_simp;refine hK _ _ ?_;clear hK K';refine wpN 11 rfl fun K' hK=>?_
   skip
   go_simp;refine hK _ _ ?_;clear hK K';refine wpF ?_;have F3:=zH (U2.trans HF);have t3:=F3.keep _ _ T2 trivial;have y5:=(bq t3).2.2.2.2.2.1;have zg5:=bV (i:=5) t3;obtain⟨W4,hW4⟩:=zE (W.setCell ⟨g,5,none⟩ (.int .u64 (pt:Nat)));have f4:Fr (fun c _=>c≠g) W W4:=hW4▸(Fr.refl _ _).setCell (fun _ _ h=>h rfl) _;obtain⟨m1,hm1⟩:∃m:MV,(⟨5,me,(t:Nat),tm,pv,pt,cm,false,none,0,[],none,0,[]⟩:MV)=m:=⟨_,rfl⟩
   have T4:Hid (W4.heap[g]? = some (.cells (cM m1) 32 (0,0))):=by rw[←hW4,←hm1];have:=bJ (o:=5) t3 (.int .u64 (pt:Nat));rw[←HM0.out] at this;exact this
   have HM1:=zH hm1;have H4:=zH ((H2.out.tt F3.out).msg f4 ⟨_,_,t3⟩ (by have:=bX H.out.top;have:=HGW.out;omega));have F4:Hid (FT w W4):=Fr.within (((F2.out.trans F3.out).tT:Fr (fun c _=>True∧c<w.heap.size) w W).trans (f4.mono fun c _ h e=>by have:=h.2;have:=HGW.out;omega));have U4:Hid (FT W4 W4.drew):=(Fr.refl _ _).drew;clear t3 f4 hm1;obtain⟨WB,hWB⟩:=zE W;rw[hWB] at HF F3 hW4 y5 zg5 ⊢;clear hWB;go_wp2_with fail
   try rw[hW4]
   clear hW4 y5 zg5;refine wpR [(74,0),(75,1),(76,2),(77,3),(78,4),(79,5),(80,6),(81,7),(82,8),(83,9),(84,10),(85,11)] [(0,[]),(1,[0]),(2,[1]),(3,[2]),(4,[]),(5,[]),(6,[4]),(7,[6]),(8,[5,7]),(9,[8]),(10,[3,9])] (ckR [(0,.pointer (some ⟨b,0,none⟩)),(1,.pointer (some ⟨b,0,none⟩)),(2,.pointer (some ⟨b,8,none⟩)),(3,.agg #[.int .u64 (bs:Nat),.int .u64 (bt:Nat),.slice ae le ce]),(4,.pointer (some ⟨b,0,none⟩)),(5,.int .i64 (t:Nat)),(6,.pointer (some ⟨b,0,none⟩)),(7,.pointer (some ⟨b,12,none⟩)),(8,.pointer (some ⟨b,12+t,none⟩)),(9,.int .u64 (nt:Nat))] [(10,⟨fun v W=>∃a' c' ys,v=.slice a' ys.length c'∧EsAt X W (.slice a' ys.length c') ys∧ys.map EV.en=SL,fun v W W' h hf=>by obtain⟨a',c',ys,h1,h2,h3⟩:=h;exact⟨a',c',ys,h1,h2.tt hf,h3⟩⟩)] 11 0) 2 rfl ?cfall ?cfend
   case cfall=>
    iterate 10
     refine bY.q rfl rfl rfl (kQQ ?_) ?_
     ·intro xs W HF K' hK;obtain⟨y0,y6,y7,y8,y9,y10,z⟩:=CC W4 W H4 (U4.trans HF);exact mD8
    refine bY.p rfl rfl (kPP ?_) ?_
    ·intro xs W HF K' hK;obtain⟨y0,y6,y7,y8,y9,y10,z⟩:=CC W4 W H4 (U4.trans HF);have SC1:=zH (SLC W (H4.tt (U4.trans HF)))
     skip
     go_simp;(with_reducible refine SC1.out.mono ?_);exact m0G
    exact m36
   case cfend=>
    refine kEH ?_;intro xs W HF hA;have h10:=hA (10,[3,9]) (by decide);clear hA;obtain⟨a',c',ys,e10,he,hy⟩:=h10;rw[e10];have HE:=zH (And.intro he hy);have F5:=zH (U4.trans HF);have t5:=F5.keep _ _ T4 trivial;have y9:=(bq t5).2.2.2.2.2.2.2.2.2;have zg9:=bV (i:=9) t5;obtain⟨nl9,hnl⟩:=zE ys.length;obtain⟨W6,hW6⟩:=zE (W.setCell ⟨g,9,none⟩ (.slice a' ys.length c'));have f6:Fr (fun c _=>c≠g) W W6:=hW6▸(Fr.refl _ _).setCell (fun _ _ h=>h rfl) _
    have T6:Hid (W6.heap[g]? = some (.cells (cM ⟨5,me,(t:Nat),tm,pv,pt,cm,false,none,0,[],a',c',ys⟩) 32 (0,0))):=by rw[←hW6];have:=bJ (o:=9) t5 (.slice a' ys.length c');rw[←HM1.out] at this;exact this
    have H6:=zH ((H4.out.tt F5.out).msg f6 ⟨_,_,t5⟩ (by have:=bX H.out.top;have:=HGW.out;omega));have F6:Hid (FT w W6):=Fr.within (((F4.out.trans F5.out).tT:Fr (fun c _=>True∧c<w.heap.size) w W).trans (f6.mono fun c _ h e=>by have:=h.2;have:=HGW.out;omega));have F6S:Hid (w.heap.size≤W6.heap.size):=F6.size;have E6:Hid (EsAt X W6 (.slice a' ys.length c') ys):=HE.out.1.fr f6 (fun c o ho hr e=>by rw[e,t5] at ho;cases ho;exact hr.ne (e▸H.out.new HGW.out) rfl (by decide));clear he hy e10 t5 f6 hnl SLC CC TC;refine wpN 11 rfl fun K' hK=>?_
    skip
    go_simp;refine hK _ _ ?_;clear hK K';refine wpN 12 rfl fun K' hK=>?_
    skip
    go_simp;refine hK _ _ ?_;clear hK K';refine wpF ?_
    try rw[hW6]
    clear hW6 y9 zg9;obtain⟨u0,u1,u2,u3,u4,u5,u6,u7,u8,u9⟩:=bq T6;go_wp2;go_ret;rw[OUT.out];refine⟨⟨_,[⟨5,me,(t:Nat),tm,pv,pt,cm,false,none,0,[],a',c',ys⟩],rfl,(OwnMs.one ⟨5,me,(t:Nat),tm,pv,pt,cm,false,none,0,[],a',c',ys⟩ H6.hx ⟨BytesAt.nil _ _,E6.tt ((Fr.refl _ W6).alloc _)⟩).lo F6S,?_⟩,F6.alloc _⟩;show [MV.ms _]=_;unfold MV.ms;rw[HE.out.2];rfl
theorem jy [Old] (h:DNs X w b n q) (x:Int) (hnx:∀y∈n.next,y<18446744073709551616) (hl:n.log.last+1<18446744073709551616) (hle:n.log.es.length≤900000):
 Calls Tryz.prog 17 #[.pointer (some ⟨b,0,none⟩),.int .i64 x] w fun e w'=>jj X w (n.sendTo x) e w':=by
 by_cases hr:n.role=3
 ·by_cases hx:x=n.me
  ·exact Kx h x hr hx hnx hl hle
  ·by_cases h0:x<0
   ·exact Kj h x hr hx h0 hnx hl hle
   ·by_cases h15:15<x
    ·exact Kk h x hr hx h0 h15 hnx hl hle
    ·obtain⟨t,rfl⟩:=Int.eq_ofNat_of_zero_le (show 0≤x by omega);by_cases hb:n.next.getD t 0≤n.log.base
     ·exact Kw h t (by omega) hr hx hb hnx hl hle
     ·exact Kv h t (by omega) hr hx hb hnx hl hle
 ·exact Kz h x hr hnx hl hle
end
theorem mCB {p:Prop} (h:p:=by
 skip
 go_simp;(with_reducible refine AD1.out.mono ?_);rintro e w8 ⟨⟨a8,c8,rfl,r9⟩,f8⟩;exact hK _ _ _ rfl f8 ⟨a8,c8,rfl,r9⟩):p:=h
theorem muN {p:Prop} (h:p:=by
 intro xs W HF K' hK;obtain⟨y0,y6,y8,y9,y10⟩:=CC W (UD.trans HF);exact mD8):p:=h
section
variable {X:Nat→Prop} {w w':World} {b:Nat} {n n':Nd} {q q':DV}
def Fj [Old] (X:Nat→Prop) (w:World) (b:Nat) (r:Nd×Nat×Int) (e:Ending) (w':World):Prop:=(∃q',e=.returned (.tuple #[.int .u64 (r.2.1:Nat),.int .i64 r.2.2])∧DNs X w' b r.1 q')∧Fr (fun c _=>c≠b) w w'
theorem DNs.lg [Old] (h:DNs X w b n q):∃ae le ce,q.ve=.slice ae le ce∧n.log.es.length=le∧q.es.length=le∧(∀W,FT w W→EsAt X W (.slice ae le ce) q.es)∧lgE n.log.base n.log.bt q.es=n.log:=by
 obtain⟨a,c',e,_⟩:=h.ev.row.form;exact⟨a,q.es.length,c',e,h.esl,rfl,fun W f=>by have:=h.ev.tt f;rw[e] at this;exact this,by unfold lgE;rw[←h.ee]⟩
theorem DNs.setM [Old] (h:DNs X w b n q) (i y:Nat) (hi:i<16):DNs X (w.setCell ⟨b,28+i,none⟩ (d8 y)) b { n with mat:=n.mat.set i y } q∧Fr (fun c _=>c≠b) w (w.setCell ⟨b,28+i,none⟩ (d8 y)):=by
 have f:Fr (fun c _=>c≠b) w (w.setCell ⟨b,28+i,none⟩ (d8 y)):=(Fr.refl _ _).setCell (fun _ _ h=>h rfl) _;refine⟨h.re f ?_ ⟨rfl,rfl⟩ (h.ye.aft (h.own f)) ⟨h.ee,h.ev.aft (h.own f)⟩ ⟨h.nl,by show (n.mat.set i y).length=16;rw[List.length_set];exact h.ml⟩,f⟩;rw[←W44_setM n q i y hi h.ml];exact bJ h.top _
theorem DNs.setN [Old] (h:DNs X w b n q) (i y:Nat) (hi:i<16):DNs X (w.setCell ⟨b,12+i,none⟩ (d8 y)) b { n with next:=n.next.set i y } q∧Fr (fun c _=>c≠b) w (w.setCell ⟨b,12+i,none⟩ (d8 y)):=by
 have f:Fr (fun c _=>c≠b) w (w.setCell ⟨b,12+i,none⟩ (d8 y)):=(Fr.refl _ _).setCell (fun _ _ h=>h rfl) _;refine⟨h.re f ?_ ⟨rfl,rfl⟩ (h.ye.aft (h.own f)) ⟨h.ee,h.ev.aft (h.own f)⟩ ⟨by show (n.next.set i y).length=16;rw[List.length_set];exact h.nl,h.ml⟩,f⟩;rw[←W44_setN n q i y hi h.nl];exact bJ h.top _
theorem zv [Old] (h:DNs X w b n q) (kind:Int) (da:Option Addr) (dc:Nat) (d:List UInt8) (hr:n.role≠3) (hd:BytesAt (RO X) w (.slice da d.length dc) d) (hcf:0<n.conf.length∧n.conf.length≤12) (hpos:∀x∈n.conf,0≤x∧x≤15) (mN:Nat) (hme:n.me=(mN:Nat)) (hm16:mN<16) (hl:n.log.last+2<18446744073709551616) (hle:n.log.es.length≤800000):
 Calls Tryz.prog 24 #[.pointer (some ⟨b,0,none⟩),.int .i64 kind,.slice da d.length dc] w fun e w'=>Fj X w b (n.propose kind d) e w':=by
 have E:n.propose kind d=(n,0,70):=if_pos hr;refine kpb ?_;intro x2;obtain⟨ro,hro⟩:=zE n.role;rw[hro] at x2 hr;have H:=zH h;have HE:=zH E;refine kaZ ?_;intro g1 g2;clear hr;clear h E hro hd hcf hpos hme hl hle;go_enter Tryz.func24,Tryz.ntmps24
 go_wp2;(try simp only[Exit.inBlock,Exit.then]);refine bodyPost_ret (results_tmp2 rfl _ _ _) rfl ?_;rw[HE.out];exact⟨⟨q,rfl,H⟩,Fr.refl _ _⟩
theorem zy [Old] (h:DNs X w b n q) (kind:Int) (da:Option Addr) (dc:Nat) (d:List UInt8) (hr:n.role=3) (hk:kind<1) (hd:BytesAt (RO X) w (.slice da d.length dc) d) (hcf:0<n.conf.length∧n.conf.length≤12) (hpos:∀x∈n.conf,0≤x∧x≤15) (mN:Nat) (hme:n.me=(mN:Nat)) (hm16:mN<16) (hl:n.log.last+2<18446744073709551616) (hle:n.log.es.length≤800000):
 Calls Tryz.prog 24 #[.pointer (some ⟨b,0,none⟩),.int .i64 kind,.slice da d.length dc] w fun e w'=>Fj X w b (n.propose kind d) e w':=by
 have E:n.propose kind d=(n,0,30):=by unfold Nd.propose;rw[if_neg (by rw[hr];decide),if_pos (.inl hk)]
 refine kpb ?_;intro x2;obtain⟨ro,hro⟩:=zE n.role;rw[hro] at x2 hr;have H:=zH h;have HE:=zH E;subst hr;clear h E hro hd hcf hpos hme hl hle;go_enter Tryz.func24,Tryz.ntmps24
 go_wp2;(try simp only[Exit.inBlock,Exit.then]);refine bodyPost_ret (results_tmp2 rfl _ _ _) rfl ?_;rw[HE.out];exact⟨⟨q,rfl,H⟩,Fr.refl _ _⟩
theorem zw [Old] (h:DNs X w b n q) (kind:Int) (da:Option Addr) (dc:Nat) (d:List UInt8) (hr:n.role=3) (hk:255<kind) (hd:BytesAt (RO X) w (.slice da d.length dc) d) (hcf:0<n.conf.length∧n.conf.length≤12) (hpos:∀x∈n.conf,0≤x∧x≤15) (mN:Nat) (hme:n.me=(mN:Nat)) (hm16:mN<16) (hl:n.log.last+2<18446744073709551616) (hle:n.log.es.length≤800000):
 Calls Tryz.prog 24 #[.pointer (some ⟨b,0,none⟩),.int .i64 kind,.slice da d.length dc] w fun e w'=>Fj X w b (n.propose kind d) e w':=by
 have E:n.propose kind d=(n,0,30):=by unfold Nd.propose;rw[if_neg (by rw[hr];decide),if_pos (.inr hk)]
 refine kpb ?_;intro x2;obtain⟨ro,hro⟩:=zE n.role;rw[hro] at x2 hr;have H:=zH h;have HE:=zH E;subst hr;have hk1:¬kind<1:=by omega
 clear h E hro hd hcf hpos hme hl hle;go_enter Tryz.func24,Tryz.ntmps24
 go_wp2;(try simp only[Exit.inBlock,Exit.then]);refine bodyPost_ret (results_tmp2 rfl _ _ _) rfl ?_;rw[HE.out];exact⟨⟨q,rfl,H⟩,Fr.refl _ _⟩
theorem BQ [Old] (h:DNs X w b n q) (kind:Int) (da:Option Addr) (dc:Nat) (d:List UInt8) (hr:n.role=3) (hk:¬kind<1) (hk2:¬255<kind) (hdl:24<d.length) (hd:BytesAt (RO X) w (.slice da d.length dc) d) (hcf:0<n.conf.length∧n.conf.length≤12) (hpos:∀x∈n.conf,0≤x∧x≤15) (mN:Nat) (hme:n.me=(mN:Nat)) (hm16:mN<16) (hl:n.log.last+2<18446744073709551616) (hle:n.log.es.length≤800000):
 Calls Tryz.prog 24 #[.pointer (some ⟨b,0,none⟩),.int .i64 kind,.slice da d.length dc] w fun e w'=>Fj X w b (n.propose kind d) e w':=by
 have E:n.propose kind d=(n,0,2):=by unfold Nd.propose;rw[if_neg (by rw[hr];decide),if_neg (by omega),if_pos hdl]
 refine kpb ?_;intro x2;obtain⟨ro,hro⟩:=zE n.role;rw[hro] at x2 hr;have H:=zH h;have HE:=zH E;subst hr;have g1:decide (24<d.length)=true:=decide_eq_true hdl;have g2:(24:Int)<(d.length:Int):=by omega
 clear hdl;clear h E hro hd hcf hpos hme hl hle;go_enter Tryz.func24,Tryz.ntmps24
 go_wp2;(try simp only[Exit.inBlock,Exit.then]);refine bodyPost_ret (results_tmp2 rfl _ _ _) rfl ?_;rw[HE.out];exact⟨⟨q,rfl,H⟩,Fr.refl _ _⟩
theorem z_ [Old] (h:DNs X w b n q) (kind:Int) (da:Option Addr) (dc:Nat) (d:List UInt8) (hr:n.role=3) (hk:¬kind<1) (hk2:¬255<kind) (hdl:¬24<d.length) (hd:BytesAt (RO X) w (.slice da d.length dc) d) (hcf:0<n.conf.length∧n.conf.length≤12) (hpos:∀x∈n.conf,0≤x∧x≤15) (mN:Nat) (hme:n.me=(mN:Nat)) (hm16:mN<16) (hl:n.log.last+2<18446744073709551616) (hle:n.log.es.length≤800000):
 Calls Tryz.prog 24 #[.pointer (some ⟨b,0,none⟩),.int .i64 kind,.slice da d.length dc] w fun e w'=>Fj X w b (n.propose kind d) e w':=by
 obtain⟨ae,le,ce,hve,hle2,hel,hes,hlg⟩:=h.lg;refine kVx ?_;intro OUT0;refine kr8 ?_;intro bs hbs bt hbt;obtain⟨tm,htm⟩:=zE n.tm;obtain⟨L,hL⟩:=zE (bs+(le+1));have hL2:n.log.last+1=L:=by unfold Lg.last;omega
 have hl2:bs+le+2<18446744073709551616:=by unfold Lg.last at hl;omega
 have ADD:=zH (fun W (f:FT w W)=>tV W bs bt ae le ce q.es ⟨tm,kind,da,dc,d⟩ (hes W f) (hd.tt f) (show d.length≤9223372036854775807 by omega) (by omega) (fun cc hc=>Nat.lt_of_lt_of_le (h.hx cc hc) f.size))
 have CC:Hid (∀W,FT w W→W.cell? ⟨b,0,none⟩=some (.int .i64 (mN:Nat))∧W.cell? ⟨b,6,none⟩=some (.int .u64 (tm:Nat))∧W.cell? ⟨b,8,none⟩=some (.int .u64 (bs:Nat))∧W.cell? ⟨b,9,none⟩=some (.int .u64 (bt:Nat))∧W.cell? ⟨b,10,none⟩=some (.slice ae le ce)):=fun W f=>by obtain⟨x0,x1,x2,x3,x4,x5,x6,x7,x8,x9,x10,x11⟩:=h.cells f;exact⟨by rw[x0,hme],by rw[x6,htm],by rw[x8,hbs],by rw[x9,hbt],by rw[x10,hve]⟩
 have H:=zH h;refine kpb ?_;intro x2;rw[hr] at x2;have g1:decide (24<d.length)=false:=decide_eq_false hdl;have g2:¬(24:Int)<(d.length:Int):=by omega
 refine kgb ?_;intro UD;have LAST:=zH (fun W a8 c8=>dW W bs bt a8 (le+1) c8 (by omega));rw[hL] at LAST;have HLS:=zH hL2;have HCF:=zH hcf;have HPO:=zH hpos;have HME:=zH hme;have HLL:=zH (And.intro hl hle);have HQ:=zH (And.intro hbs (And.intro hbt htm));have OUT:=zH OUT0;clear h hr hd hcf hpos hme hl hle hve hle2 hel hes hlg OUT0 hbs hbt htm hL hL2 hl2 hdl;dsimp only[vL9] at LAST;go_enter Tryz.func24,Tryz.ntmps24
 go_wp2_with fail
 refine wpR [(22,0),(23,1),(24,2),(25,3),(26,4),(27,5),(28,6),(29,7),(30,8),(31,9),(32,10),(33,11),(34,12),(35,13),(36,14)] [(0,[]),(1,[]),(2,[1]),(3,[2]),(4,[3]),(5,[]),(6,[5]),(7,[6]),(8,[7]),(9,[]),(10,[]),(11,[8,9,10]),(12,[4,11])] (ckR [(0,.pointer (some ⟨b,0,none⟩)),(1,.pointer (some ⟨b,0,none⟩)),(2,.pointer (some ⟨b,0,none⟩)),(3,.pointer (some ⟨b,8,none⟩)),(4,.agg #[.int .u64 (bs:Nat),.int .u64 (bt:Nat),.slice ae le ce]),(5,.pointer (some ⟨b,0,none⟩)),(6,.pointer (some ⟨b,0,none⟩)),(7,.pointer (some ⟨b,6,none⟩)),(8,.int .u64 (tm:Nat)),(9,.int .i64 kind),(10,.slice da d.length dc),(11,.agg #[.int .u64 (tm:Nat),.int .i64 kind,.slice da d.length dc])] [(12,⟨fun v W=>∃a' c',v=.agg #[.int .u64 (bs:Nat),.int .u64 (bt:Nat),.slice a' (le+1) c']∧EsAt X W (.slice a' (le+1) c') (q.es++[⟨tm,kind,da,dc,d⟩]),fun v W W' h hf=>by obtain⟨a',c',h1,h2⟩:=h;exact⟨a',c',h1,h2.tt hf⟩⟩)] 13 0) 3 rfl ?cfall ?cfend
 case cfall=>
  iterate 12
   refine bY.q rfl rfl rfl (kQQ ?_) ?_
   ·exact muN
  refine bY.p rfl rfl (kPP ?_) ?_
  ·intro xs W HF K' hK;have AD1:=zH (ADD W (UD.trans HF));dsimp only[vL9,vE] at AD1;exact mCB
  exact m36
 case cfend=>
  refine kEH ?_;intro xs W HF hA;have h12:=hA (12,[4,11]) (by decide);clear hA;obtain⟨a8,c8,e12,r8⟩:=h12;rw[e12];have R8:=zH r8;clear e12 r8 ADD x2 g1 g2;have F2:=zH (UD.trans HF);have H2:=zH (H.tt F2);obtain⟨x0,x1,x2,x3,x4,x5,x6,x7,x8,x9,x10,x11⟩:=H2.cells (Fr.refl _ W);refine krF ?_;intro z8 z9 z10;refine wpN 13 rfl fun K' hK=>?_
  skip
  go_simp;refine hK _ _ ?_;clear hK K';refine wpN 14 rfl fun K' hK=>?_
  skip
  go_simp;refine hK _ _ ?_;clear hK K';refine wpN 15 rfl fun K' hK=>?_
  skip
  go_simp;refine hK _ _ ?_;clear hK K';refine wpF ?_;obtain⟨n2,hn2⟩:∃m:Nd,{ n with log:=n.log.add ⟨n.tm,kind,d⟩ }=m:=⟨_,rfl⟩
  obtain⟨q2,hq2⟩:∃m:DV,{ q with ve:=.slice a8 (le+1) c8,es:=q.es++[⟨tm,kind,da,dc,d⟩] }=m:=⟨_,rfl⟩
  refine k7D ?_;intro W2 hW2 hW2';have fs:Fr (fun c _=>c≠b) W W2:=hW2▸b_ b _ W
  have h3:DNs X W2 b { n with log:=n.log.add ⟨n.tm,kind,d⟩ } { q with ve:=.slice a8 (le+1) c8,es:=q.es++[⟨tm,kind,da,dc,d⟩] }:=by
   refine H2.re fs ?_ ⟨rfl,rfl⟩ (H2.ye.aft (H2.own fs)) ⟨?_,R8.aft (H2.own fs)⟩ ⟨H2.nl,H2.ml⟩
   ·rw[←hW2,←HQ.out.1,←HQ.out.2.1];exact bw _ H2.top
   ·show n.log.es++_=_;rw[List.map_append,H.out.ee,←HQ.out.2.2];rfl
  rw[hn2,hq2] at h3;have H3:=zH h3;have F3:Hid (Fr (fun c _=>c≠b) w W2):=(F2.tT).trans fs;refine kdo ?_;intro h9
  have CC2:Hid (∀W',FT W2 W'→W'.cell? ⟨b,0,none⟩=some (.int .i64 (mN:Nat))∧W'.cell? ⟨b,8,none⟩=some (.int .u64 (bs:Nat))∧W'.cell? ⟨b,9,none⟩=some (.int .u64 (bt:Nat))∧W'.cell? ⟨b,10,none⟩=some (.slice a8 (le+1) c8)):=fun W' f=>by obtain⟨x0,x1,x2,x3,x4,x5,x6,x7,x8,x9,x10,x11⟩:=H3.cells f;exact⟨by rw[x0,h9.1,HME.out],by rw[x8,h9.2.1,HQ.out.1],by rw[x9,h9.2.2.1,HQ.out.2.1],by rw[x10,h9.2.2.2]⟩
  have HN2:=zH hn2;have UD2:Hid (FT W2 W2.drew):=(Fr.refl _ _).drew;replace LAST:=zH (fun W a c=>LAST W a c)
  try rw[hW2']
  clear hW2 hW2' h3 hn2 hq2 h9 x0 x1 x2 x3 x4 x5 x6 x7 x8 x9 x10 x11 z8 z9 z10 fs;obtain⟨WA,hWA⟩:=zE W;rw[hWA] at HF F2 H2 R8;clear hWA;go_wp2_with fail
  refine wpR [(37,0),(38,1),(39,2),(40,3),(41,4),(42,5),(43,6),(44,7),(45,8),(46,9),(47,10),(48,11),(49,12)] [(0,[]),(1,[]),(2,[1]),(3,[2]),(4,[3]),(5,[]),(6,[5]),(7,[6]),(8,[7]),(10,[0]),(11,[10]),(9,[8])] (ckR [(0,.pointer (some ⟨b,0,none⟩)),(1,.pointer (some ⟨b,0,none⟩)),(2,.pointer (some ⟨b,0,none⟩)),(3,.pointer (some ⟨b,0,none⟩)),(4,.int .i64 (mN:Nat)),(5,.pointer (some ⟨b,0,none⟩)),(6,.pointer (some ⟨b,0,none⟩)),(7,.pointer (some ⟨b,8,none⟩)),(8,.agg #[.int .u64 (bs:Nat),.int .u64 (bt:Nat),.slice a8 (le+1) c8]),(9,.int .u64 (L:Nat)),(10,.pointer (some ⟨b,0,none⟩)),(11,.pointer (some ⟨b,28,none⟩))] [] 12 0) 2 rfl ?cfall ?cfend
  case cfall=>
   iterate 11
    refine bY.q rfl rfl rfl (kQQ ?_) ?_
    ·intro xs W HF K' hK;obtain⟨y0,y8,y9,y10⟩:=CC2 W (UD2.trans HF);exact mD8
   refine bY.p rfl rfl (kPP ?_) ?_
   ·intro xs W HF K' hK;obtain⟨y0,y8,y9,y10⟩:=CC2 W (UD2.trans HF);have LA1:=zH (LAST W a8 c8);exact mBg
   exact m36
  case cfend=>
   refine kEE ?_;intro xs W HF;have F4:=zH (UD2.trans HF);have H4:=zH (H3.tt F4);have am0:=H4.mtc (Fr.refl _ W) mN hm16;have am1:=H4.free (Fr.refl _ W) (28+mN);obtain⟨h5,fN⟩:=H4.setM mN L hm16;obtain⟨WN,hWN⟩:=zE (W.setCell ⟨b,28+mN,none⟩ (.int .u64 (L:Nat)));have hWN':W.setCell ⟨b,28+mN,none⟩ (d8 L)=WN:=hWN;rw[hWN'] at h5 fN;have hm16I:((mN:Nat):Int)<16:=by omega
   refine wpN 12 rfl fun K' hK=>?_
   skip
   go_simp;refine hK _ _ ?_;clear hK K';refine wpN 13 rfl fun K' hK=>?_
   skip
   go_simp;refine hK _ _ ?_;clear hK K';refine wpF ?_
   try rw[hWN]
   have H5:=zH h5;have F5:Hid (Fr (fun c _=>c≠b) w WN):=(F3.trans (F4.tT)).trans fN;obtain⟨n3,hn3⟩:∃m:Nd,{ n2 with mat:=n2.mat.set mN L }=m:=⟨_,rfl⟩
   have HN3:Hid (({ n with log:=n.log.add ⟨n.tm,kind,d⟩,mat:=n.mat.set n.me.toNat (n.log.last+1) }:Nd)=n3):=by show _=_;rw[←hn3,←HN2.out,HLS.out,HME.out];rfl
   rw[hn3] at H5
   replace OUT:Hid (n.propose kind d=(n3.sure,L,0)):=by show _=_;rw[OUT.out,HN3.out,HLS.out]
   have hcf3:n3.conf=n.conf∧n3.log.last=L∧n3.log.es.length=n.log.es.length+1:=by
    rw[←HN3.out];refine⟨rfl,?_,?_⟩
    ·exact mUI
    ·show (n.log.es++[_]).length=_;simp
   have SU:Hid (Calls Tryz.prog 26 #[.pointer (some ⟨b,0,none⟩)] WN fun e w'=>e=.returned (.tuple #[])∧DNs X w' b n3.sure q2∧Fr (fun c _=>c≠b) WN w'):=qK H5.out (by rw[hcf3.1];exact HCF.out) (by rw[hcf3.1];exact HPO.out) (by rw[hcf3.2.1,←HLS.out];have:=HLL.out.1;omega) (by rw[hcf3.2.2];have:=HLL.out.2;omega);have hse:n3.sure.log=n3.log:=by unfold Nd.sure Nd.sureR;split <;> rfl
   have h10:n3.sure.log.base=bs∧n3.sure.log.bt=bt∧q2.ve=.slice a8 (le+1) c8:=by
    obtain⟨x0,x1,x2,x3,x4,x5,x6,x7,x8,x9,x10,x11⟩:=H3.cells (Fr.refl _ W2);obtain⟨y0,y8,y9,y10⟩:=CC2 W2 (Fr.refl _ _);refine⟨?_,?_,?_⟩
    ·rw[hse,←HN3.out];exact HQ.out.1
    ·rw[hse,←HN3.out];exact HQ.out.2.1
    ·rw[x10] at y10;exact Option.some.inj y10
   have HS:=zH h10;clear am0 am1 hWN hWN' fN h5 hn3 hcf3 HN2 HN3 CC2 CC hm16I hse h10;go_wp2_with fail
   (with_reducible refine SU.out.mono ?_);rintro e w8 ⟨rfl,h8,f8⟩;have H8:=zH h8;have F8:=zH f8;have x8:=(h8.cells (Fr.refl _ w8)).2.2.2.2.2.2.2.2.1;have x9:=(h8.cells (Fr.refl _ w8)).2.2.2.2.2.2.2.2.2.1;have x10:=(h8.cells (Fr.refl _ w8)).2.2.2.2.2.2.2.2.2.2.1;rw[HS.out.1] at x8;rw[HS.out.2.1] at x9;rw[HS.out.2.2] at x10;have LA2:=zH (LAST w8 a8 c8);clear h8 f8 SU LAST;go_wp2_with fail
   (with_reducible refine LA2.out.mono ?_);rintro e w9 ⟨rfl,f9⟩;have F9:=zH f9;clear f9 LA2 x8 x9 x10;go_wp2;(try simp only[Exit.inBlock,Exit.then]);refine bodyPost_ret (results_tmp2 rfl _ _ _) rfl ?_;rw[OUT.out];exact⟨⟨q2,rfl,H8.tt F9⟩,(F5.trans F8).trans (F9.tT)⟩
theorem r_ [Old] (h:DNs X w b n q) (kind:Int) (da:Option Addr) (dc:Nat) (d:List UInt8) (hd:BytesAt (RO X) w (.slice da d.length dc) d) (hcf:0<n.conf.length∧n.conf.length≤12) (hpos:∀x∈n.conf,0≤x∧x≤15) (mN:Nat) (hme:n.me=(mN:Nat)) (hm16:mN<16) (hl:n.log.last+2<18446744073709551616) (hle:n.log.es.length≤800000):
 Calls Tryz.prog 24 #[.pointer (some ⟨b,0,none⟩),.int .i64 kind,.slice da d.length dc] w fun e w'=>Fj X w b (n.propose kind d) e w':=by
 by_cases hr:n.role=3
 ·by_cases hk:kind<1
  ·exact zy h kind da dc d hr hk hd hcf hpos mN hme hm16 hl hle
  ·by_cases hk2:255<kind
   ·exact zw h kind da dc d hr hk2 hd hcf hpos mN hme hm16 hl hle
   ·by_cases hdl:24<d.length
    ·exact BQ h kind da dc d hr hk hk2 hdl hd hcf hpos mN hme hm16 hl hle
    ·exact z_ h kind da dc d hr hk hk2 hdl hd hcf hpos mN hme hm16 hl hle
 ·exact zv h kind da dc d hr hd hcf hpos mN hme hm16 hl hle
end
def V16 (l:List Nat):Value:=.agg #[c16 l 0,c16 l 1,c16 l 2,c16 l 3,c16 l 4,c16 l 5,c16 l 6,c16 l 7,c16 l 8,c16 l 9,c16 l 10,c16 l 11,c16 l 12,c16 l 13,c16 l 14,c16 l 15]
theorem v16_get (l:List Nat) (i:Nat) (hi:i<16):(#[c16 l 0,c16 l 1,c16 l 2,c16 l 3,c16 l 4,c16 l 5,c16 l 6,c16 l 7,c16 l 8,c16 l 9,c16 l 10,c16 l 11,c16 l 12,c16 l 13,c16 l 14,c16 l 15]:Array Value)[i]? = some (c16 l i):=by
 match i,hi with
 | 0,_=>rfl
 | 1,_=>rfl
 | 2,_=>rfl
 | 3,_=>rfl
 | 4,_=>rfl
 | 5,_=>rfl
 | 6,_=>rfl
 | 7,_=>rfl
 | 8,_=>rfl
 | 9,_=>rfl
 | 10,_=>rfl
 | 11,_=>rfl
 | 12,_=>rfl
 | 13,_=>rfl
 | 14,_=>rfl
 | 15,_=>rfl
 | k+16,h=>omega
theorem qV (w:World) (b c:Nat) (l:List Nat) (h:A16 w b l):
 Calls Tryz.prog 61 #[.slice (some ⟨b,0,none⟩) 16 c,V16 l] w fun e w'=>e=.returned (.bool true)∧FT w w':=by
 obtain⟨W1,hW1⟩:=zE (w.alloc (.cells #[c16 l 0,c16 l 1,c16 l 2,c16 l 3,c16 l 4,c16 l 5,c16 l 6,c16 l 7,c16 l 8,c16 l 9,c16 l 10,c16 l 11,c16 l 12,c16 l 13,c16 l 14,c16 l 15] 101 (0,0)));refine kmo ?_;intro F1;have t1:=hW1▸bZ w (.cells #[c16 l 0,c16 l 1,c16 l 2,c16 l 3,c16 l 4,c16 l 5,c16 l 6,c16 l 7,c16 l 8,c16 l 9,c16 l 10,c16 l 11,c16 l 12,c16 l 13,c16 l 14,c16 l 15] 101 (0,0));have CE:Hid (∀i,i<16→∀W,FT W1 W→W.cell? ⟨b,i,none⟩=some (.int .u64 (l.getD i 0:Nat))∧W.cell? ⟨w.heap.size,i,none⟩=some (.int .u64 (l.getD i 0:Nat))):=fun i hi W f=>⟨(h.fr (F1.trans f) fun _ _=>trivial).cell i hi,bQ (f.keep _ _ t1 trivial) (v16_get l i hi)⟩
 unfold V16;clear h t1;go_enter Tryz.func61,Tryz.ntmps61
 go_wp2
 try rw[hW1]
 clear hW1;go_loopw [5] (fun v5 wr=>∃k:Nat,v5=.int .i64 (k:Nat)∧k≤16∧Hid (FT W1 wr)) (fun v5 _=>16-(intOf v5).toNat)
 case atStart=>exact⟨0,rfl,Nat.zero_le _,Fr.refl _ _⟩
 case round=>
  obtain⟨k,rfl,hk,HF3⟩:=hrel;by_cases hlt:k<16
  ·have hltI:(k:Int)<16:=by omega
   obtain⟨p1,p2⟩:=CE k hlt wr HF3;obtain⟨x,hx⟩:=zE (l.getD k 0);rw[hx] at p1 p2;have gx:((x:Int) != (x:Int))=false:=by simp
   clear hx;go_wp2_with fail
   go_quiet (fail)
   have F6:Hid (FT W1 (wr.drewN nq)):=HF3.drewN nq;clear p1 p2;go_wp2;go_roundw
   case rel=>exact⟨k+1,by go_num,by omega,F6.out⟩
   case measure=>simp [intOf];omega
  ·have hge:¬(k:Int)<16:=by omega
   go_wp2;go_ret;exact⟨rfl,F1.trans HF3⟩
theorem LQ [Old] {X:Nat→Prop} {K:Nat→Obj→Prop} {w:World} {b:Nat} {n:Nd} {q:DV} (h:DNs X w b n q) (vy:Value) (hy:IntsAt K w vy n.yes) (hyl:n.yes.length≤maxLen):
 Calls Tryz.prog 59 #[.int .i64 n.me,.int .i64 n.vote,.int .i64 n.role,.int .i64 n.ld,vy,.int .u64 (n.tm:Nat),.int .u64 (n.commit:Nat),.bool n.heard,.pointer (some ⟨b,0,none⟩)] w fun e w'=>e=.returned (.bool true)∧FT w w':=by
 obtain⟨x0,x1,x2,x3,x4,x5,x6,x7,x8,x9,x10,x11⟩:=h.cells (Fr.refl _ w);have NC:Hid (Calls Tryz.prog 22 #[vy,q.vy] w fun e w'=>e=.returned (.bool true)∧FT w w'):=(tZ w vy q.vy n.yes n.yes hy h.ye hyl).mono fun e w' ⟨h1,h2⟩=>⟨by rw[h1,decide_eq_true rfl],h2⟩
 obtain⟨k0,h0⟩:=zE n.me;obtain⟨k1,h1⟩:=zE n.vote;obtain⟨k2,h2⟩:=zE n.role;obtain⟨k3,h3⟩:=zE n.ld;obtain⟨k6,h6⟩:=zE n.tm;obtain⟨k7,h7⟩:=zE n.commit;obtain⟨k11,h11⟩:=zE n.heard;obtain⟨vq,hvq⟩:=zE q.vy;rw[h0] at x0 ⊢;rw[h1] at x1 ⊢;rw[h2] at x2 ⊢;rw[h3] at x3 ⊢;rw[h6] at x6 ⊢;rw[h7] at x7 ⊢;rw[h11] at x11 ⊢;rw[hvq] at x5 NC;have n0:(k0 != k0)=false:=by simp
 have n1:(k1 != k1)=false:=by simp
 have n2:(k2 != k2)=false:=by simp
 have n3:(k3 != k3)=false:=by simp
 have n6:((k6:Int)==(k6:Int))=true:=by simp
 have n7:((k7:Int)==(k7:Int))=true:=by simp
 have n11:(k11==k11)=true:=by simp
 clear h hy hyl h0 h1 h2 h3 h6 h7 h11 hvq;go_enter Tryz.func59,Tryz.ntmps59
 go_wp2_with fail
 (with_reducible refine NC.out.mono ?_);rintro e w4 ⟨rfl,f4⟩;have F4:=zH f4;clear NC f4 x0 x1 x2 x3 x4 x5 x6 x7 x8 x9 x10 x11;go_wp2;go_ret;exact⟨rfl,F4⟩
end Go.Proofs.YtmjccpfchhnfhaaGreat
