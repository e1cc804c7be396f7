/- Texts of the proofs, part 21: what the functions that they reach do, walked; no conditions beyond those that each states. -/
import Derived.Test.YtmjccpfchhnfhaaGreatZkd25bdcd922
set_option linter.unusedVariables false
set_option linter.unusedSimpArgs false
set_option maxRecDepth 100000
set_option maxHeartbeats 8000000
namespace Go.Proofs.YtmjccpfchhnfhaaGreat
open Go.RowKit
theorem dW (w:World) (x:Int):Calls Tryz.prog 62 #[.int .i64 x] w fun e w'=>e=.returned (.bool (decide (0≤x∧x<16)))∧w=w':=by
 by_cases h0:0≤x
 ·by_cases h1:x<16
  ·rw[decide_eq_true (show 0≤x∧x<16 from⟨h0,h1⟩)];go_enter Tryz.func62,Tryz.ntmps62
   go_wp2;go_ret;exact⟨rfl,rfl⟩
  ·rw[decide_eq_false (show ¬(0≤x∧x<16) from fun e=>h1 e.2)];go_enter Tryz.func62,Tryz.ntmps62
   go_wp2;go_ret;exact⟨rfl,rfl⟩
 ·rw[decide_eq_false (show ¬(0≤x∧x<16) from fun e=>h0 e.1)];go_enter Tryz.func62,Tryz.ntmps62
  go_wp2;go_ret;exact⟨rfl,rfl⟩
section
variable {X P:Nat→Prop} {w w':World} {b:Nat} {n n':Nd} {q q':NV}
theorem PNs.lg [Old] (h:PNs X P w b n q):∃ae le ce,q.ve=.slice ae le ce∧n.log.es.length=le∧(∀W,Fr (fun _ _=>True) w W→EsAt X W (.slice ae le ce) q.es)∧lgE n.log.base n.log.bt q.es=n.log:=by
 obtain⟨a,c,e,_⟩:=h.ev.row.form;refine⟨a,_,c,e,h.esl,fun W f=>?_,?_⟩
 ·rw[←e];exact h.ev.tt f
 ·unfold lgE;rw[←h.ee]
theorem lX [Old] (h:PNs X P w b n q) (t:Nat) (ht:t<16):Calls Tryz.prog 65 #[.pointer (some ⟨b,0,none⟩),.int .i64 (t:Nat)] w fun e w'=>e=.returned (.bool (decide (n.next.getD t 0≤n.log.base)))∧∃m,w'=w.drewN m:=by
 obtain⟨x0,x1,x2,x3,x4,x5,x6,x7,x8,x9,x10,x11,x12,x13⟩:=h.cells (Fr.refl _ w);have z:=h.nx.cell t ht;obtain⟨nt,hnt⟩:=zE (n.next.getD t 0);obtain⟨bs,hbs⟩:=zE n.log.base;rw[hnt] at z ⊢;rw[hbs] at x8 ⊢;clear hnt hbs h x0 x1 x2 x3 x4 x5 x6 x7 x9 x10 x11 x13;by_cases g:nt≤bs
 ·have g1:decide (nt≤bs)=true:=decide_eq_true g;rw[g1];go_enter Tryz.func65,Tryz.ntmps65
  go_wp2_with fail
  go_quiet (fail)
  go_wp2;go_ret;exact⟨rfl,_,rfl⟩
 ·have g1:decide (nt≤bs)=false:=decide_eq_false g;rw[g1];go_enter Tryz.func65,Tryz.ntmps65
  go_wp2_with fail
  go_quiet (fail)
  go_wp2;go_ret;exact⟨rfl,_,rfl⟩
def jj [Old] (X:Nat→Prop) (w:World) (ms:List Ms) (e:Ending) (w':World):Prop:=(∃v mvs,e=.returned v∧OwnMs X w.heap.size w' v mvs∧mvs.map MV.ms=ms)∧Fr (fun _ _=>True) w w'
theorem jj.none [Old] {X:Nat→Prop} {w w':World} (f:Fr (fun _ _=>True) w w'):jj X w [] (.returned (.slice none 0 0)) w':=⟨⟨_,[],rfl,OwnMs.nil _ _ _,rfl⟩,f⟩
theorem OwnMs.at1 [Old] {X:Nat→Prop} {W:World} {B g:Nat} (m:MV) (hb:B≤g) (h:W.heap[g]? = some (.cells (cM m) 32 (0,0))) (hx:¬X g) (hm:MsAt X W m):OwnMs X B W (.slice (some ⟨g,0,none⟩) 1 1) [m]:=by
 refine⟨⟨rfl,.inr ⟨_,1,_,rfl,hb,h,Nat.le_refl _,by unfold maxLen;decide,rfl,rfl⟩⟩,fun c e hc=>?_,fun x hx2=>?_⟩
 ·cases e;exact hx hc
 ·simp only[List.mem_cons,List.not_mem_nil,or_false] at hx2;subst hx2;exact hm
theorem Kx [Old] (h:PNs X P w b n q) (x:Int) (hr:n.role≠3) (hnx:∀y∈n.next,y<18446744073709551616) (hl:n.log.last+1<18446744073709551616) (hle:n.log.es.length≤900000):
 Calls Tryz.prog 16 #[.pointer (some ⟨b,0,none⟩),.int .i64 x] w fun e w'=>jj X w (n.sendTo x) e w':=by
 have E:n.sendTo x=[]:=if_pos (.inl hr);rw[E];have x2:=(h.cells (Fr.refl _ w)).2.2.1;obtain⟨ro,hro⟩:=zE n.role;rw[hro] at x2 hr;have g1:(ro==3)=false:=by simpa using hr
 have g2:(ro != 3)=true:=by rw[bne,g1];rfl
 clear h hr hro E hnx hl hle;go_enter Tryz.func16,Tryz.ntmps16
 go_wp2;go_ret;exact jj.none (Fr.refl _ _)
theorem Kk [Old] (h:PNs X P w b n q) (x:Int) (hr:n.role=3) (hx:x=n.me) (hnx:∀y∈n.next,y<18446744073709551616) (hl:n.log.last+1<18446744073709551616) (hle:n.log.es.length≤900000):
 Calls Tryz.prog 16 #[.pointer (some ⟨b,0,none⟩),.int .i64 x] w fun e w'=>jj X w (n.sendTo x) e w':=by
 have E:n.sendTo x=[]:=if_pos (.inr (.inl hx));rw[E];have x2:=(h.cells (Fr.refl _ w)).2.2.1;have x0:=(h.cells (Fr.refl _ w)).1;rw[hr] at x2;rw[←hx] at x0;clear h hr hx E hnx hl hle;go_enter Tryz.func16,Tryz.ntmps16
 go_wp2;go_ret;exact jj.none (Fr.refl _ _)
theorem Kj [Old] (h:PNs X P w b n q) (x:Int) (hr:n.role=3) (hx:x≠n.me) (h16:¬(0≤x∧x<16)) (hnx:∀y∈n.next,y<18446744073709551616) (hl:n.log.last+1<18446744073709551616) (hle:n.log.es.length≤900000):
 Calls Tryz.prog 16 #[.pointer (some ⟨b,0,none⟩),.int .i64 x] w fun e w'=>jj X w (n.sendTo x) e w':=by
 have E:n.sendTo x=[]:=if_pos (.inr (.inr (by by_cases h0:x<0;(· exact .inl h0);(· exact .inr (.inl (by omega))))));rw[E];have x2:=(h.cells (Fr.refl _ w)).2.2.1;have x0:=(h.cells (Fr.refl _ w)).1;obtain⟨me,hme⟩:=zE n.me;rw[hr] at x2;rw[hme] at x0 hx;have NC:=zH (dW w x);rw[decide_eq_false h16] at NC;have g1:(x==me)=false:=by simpa using hx
 clear h hr hx E h16 hme hnx hl hle;go_enter Tryz.func16,Tryz.ntmps16
 go_wp2_with fail
 (with_reducible refine NC.out.mono ?_);rintro e w1 ⟨rfl,rfl⟩;clear NC;go_wp2;go_ret;exact jj.none (Fr.refl _ _)
theorem Kw [Old] (h:PNs X P w b n q) (t:Nat) (ht:t<16) (hr:n.role=3) (hx:((t:Nat):Int)≠n.me) (hb:n.next.getD t 0≤n.log.base) (hnx:∀y∈n.next,y<18446744073709551616) (hl:n.log.last+1<18446744073709551616) (hle:n.log.es.length≤900000):
 Calls Tryz.prog 16 #[.pointer (some ⟨b,0,none⟩),.int .i64 (t:Nat)] w fun e w'=>jj X w (n.sendTo (t:Nat)) e w':=by
 have E:n.sendTo (t:Nat)=[]:=if_pos (.inr (.inr (.inr (.inr hb))));rw[E];obtain⟨me,hme⟩:=zE n.me;have H:=zH h;have NC:=zH (fun W=>dW W (t:Nat));rw[decide_eq_true (show (0:Int)≤(t:Nat)∧((t:Nat):Int)<16 by omega)] at NC;have BC:=zH (lX h t ht);rw[hme] at hx;have g1:(((t:Nat):Int)==me)=false:=by simpa using hx
 rw[decide_eq_true hb] at BC;have x2:=(h.cells (Fr.refl _ w)).2.2.1;have x0:=(h.cells (Fr.refl _ w)).1;rw[hr] at x2;rw[hme] at x0;clear h hr hx E hme hnx hl hle hb ht;go_enter Tryz.func16,Tryz.ntmps16
 go_wp2_with fail
 (with_reducible refine(NC.out _).mono ?_);rintro e w1 ⟨rfl,rfl⟩;clear NC;go_wp2_with fail
 (with_reducible refine BC.out.mono ?_);rintro e w1 ⟨rfl,m,hm⟩;have F1:Hid (Fr (fun _ _=>True) w w1):=by rw[hm];exact(Fr.refl _ _).drewN _
 clear BC hm x0 x2;go_wp2;go_ret;exact jj.none F1.out
abbrev sMV (me:Int) (t tm pv pt cm:Nat) (a':Option Addr) (c':Nat) (ys:List EV):MV:=⟨5,me,(t:Nat),tm,pv,pt,cm,false,none,0,[],a',c',ys⟩
theorem Kv [Old] (h:PNs X P w b n q) (t:Nat) (ht:t<16) (hr:n.role=3) (hx:((t:Nat):Int)≠n.me) (hb:¬n.next.getD t 0≤n.log.base) (hnx:∀y∈n.next,y<18446744073709551616) (hl:n.log.last+1<18446744073709551616) (hle:n.log.es.length≤900000):
 Calls Tryz.prog 16 #[.pointer (some ⟨b,0,none⟩),.int .i64 (t:Nat)] w fun e w'=>jj X w (n.sendTo (t:Nat)) e w':=by
 obtain⟨me,hme⟩:=zE n.me;have H:=zH h;have NC:=zH (fun W=>dW W (t:Nat));rw[decide_eq_true (show (0:Int)≤(t:Nat)∧((t:Nat):Int)<16 by omega)] at NC;have BC:=zH (lX h t ht);rw[hme] at hx;have g1:(((t:Nat):Int)==me)=false:=by simpa using hx
 obtain⟨ae,le,ce,hve,hlel,hes,hlg⟩:=h.lg;obtain⟨bs,hbs⟩:=zE n.log.base;obtain⟨bt,hbt⟩:=zE n.log.bt;obtain⟨tm,htm⟩:=zE n.tm;obtain⟨cm,hcm⟩:=zE n.commit;obtain⟨nt,hnt⟩:=zE (n.next.getD t 0);obtain⟨bn,hbn⟩:=zE q.bn;obtain⟨cn,hcn⟩:=zE q.cn;obtain⟨pv,hpv⟩:=zE (nt-1);obtain⟨pt,hpt⟩:=zE ((n.log.term pv).1);obtain⟨pk,hpk⟩:=zE ((n.log.term pv).2);obtain⟨SL,hSL⟩:=zE (n.log.slice nt 8);rw[decide_eq_false hb] at BC
 have hn64:nt<18446744073709551616:=by rw[←hnt,List.getD_eq_getElem?_getD,List.getElem?_eq_getElem (by have:=h.nx.1;omega)];exact hnx _ (List.getElem_mem _)
 rw[hnt,hbs] at hb;have hl2:bs+le+1<18446744073709551616:=by unfold Lg.last at hl;omega
 have OUT:Hid (n.sendTo (t:Nat)=[{ zMs with kind:=5,src:=me,dst:=(t:Nat),tm:=tm,index:=pv,prev:=pt,commit:=cm,es:=SL }]):=by
  show n.sendTo (t:Nat)=_
  have e:n.sendTo (t:Nat)=[{ zMs with kind:=5,src:=n.me,dst:=(t:Nat),tm:=n.tm,index:=n.next.getD t 0-1,prev:=(n.log.term (n.next.getD t 0-1)).1,commit:=n.commit,es:=n.log.slice (n.next.getD t 0) 8 }]:=if_neg (by
   show ¬(n.role≠3∨((t:Nat):Int)=n.me∨((t:Nat):Int)<0∨15<((t:Nat):Int)∨n.next.getD t 0≤n.log.base);rw[hnt,hbs,hme];intro e;rcases e with e | e | e | e | e
   ·exact e hr
   ·exact hx e
   ·omega
   ·omega
   ·exact hb e)
  rw[e,hnt,hpv,hpt,hSL,hme,htm,hcm]
 have TC:=zH (fun W (f:Fr (fun _ _=>True) w W)=>fK W bs bt pv ae le ce q.es (hes W f).row (by omega));have SLC:=zH (fun W (f:Fr (fun _ _=>True) w W)=>tV W bs bt nt 8 ae le ce q.es (hes W f) (by omega) (by decide) (by decide) (by omega) hn64 (fun c hc=>Nat.lt_of_lt_of_le (h.hx c hc) f.size));rw[show lgE bs bt q.es=n.log by rw[←hbs,←hbt];exact hlg,hpt,hpk] at TC;rw[show (⟨bs,bt,q.es.map EV.en⟩:Lg)=n.log by rw[←hbs,←hbt];exact hlg,hSL,show ((8:Nat):Int)=8 from rfl] at SLC
 have CC:Hid (∀W,Fr (fun _ _=>True) w W→W.cell? ⟨b,0,none⟩=some (.int .i64 me)∧W.cell? ⟨b,6,none⟩=some (.int .u64 (tm:Nat))∧W.cell? ⟨b,7,none⟩=some (.int .u64 (cm:Nat))∧W.cell? ⟨b,8,none⟩=some (.int .u64 (bs:Nat))∧W.cell? ⟨b,9,none⟩=some (.int .u64 (bt:Nat))∧W.cell? ⟨b,10,none⟩=some (.slice ae le ce)∧W.cell? ⟨b,12,none⟩=some (.slice (some ⟨bn,0,none⟩) 16 cn)∧W.cell? ⟨bn,t,none⟩=some (.int .u64 (nt:Nat))):=fun W f=>by obtain⟨x0,x1,x2,x3,x4,x5,x6,x7,x8,x9,x10,x11,x12,x13⟩:=h.cells f;exact⟨by rw[x0,hme],by rw[x6,htm],by rw[x7,hcm],by rw[x8,hbs],by rw[x9,hbt],by rw[x10,hve],by rw[x12,hbn,hcn],by rw[←hbn,((h.nx.fr f fun _ _=>trivial).cell t ht),hnt]⟩
 have w1:IntKind.u64.wrap ((nt:Int)-1)=((pv:Nat):Int):=by rw[IntKind.wrap_u64];omega
 have x2:=(h.cells (Fr.refl _ w)).2.2.1;rw[hr] at x2;have x0:=(CC.out w (Fr.refl _ _)).1;have ht2:((t:Nat):Int)<16:=by omega
 clear h hr hx hme hnx hl hle hb hve hlel hes hlg hbs hbt htm hcm hnt hbn hcn hpv hpt hpk hSL hn64 hl2;dsimp only[vL] at TC;go_enter Tryz.func16,Tryz.ntmps16
 go_wp2_with fail
 (with_reducible refine(NC.out _).mono ?_);rintro e wa ⟨rfl,rfl⟩;clear NC;go_wp2_with fail
 (with_reducible refine BC.out.mono ?_);rintro e wb ⟨rfl,m,hm⟩;have F1:Hid (Fr (fun _ _=>True) w wb):=by rw[hm];exact(Fr.refl _ _).drewN _
 clear BC hm x0 x2;obtain⟨y0,y6,y7,y8,y9,y10,y12,z⟩:=CC.out wb F1.out;go_wp2_with fail
 (with_reducible refine(TC.out _ F1.out).mono ?_);rintro e wc ⟨rfl,f2⟩;have UD:Hid (Fr (fun _ _=>True) w wc.drew):=(F1.out.trans f2).drew;clear TC f2 y0 y6 y7 y8 y9 y10 y12 z w1;go_wp2_with fail
 refine wy [(48,0),(49,1),(50,2),(51,3),(52,4),(53,5),(54,6),(55,7),(56,8),(57,9),(58,10),(59,11),(60,12),(61,13),(62,14),(63,15),(64,16),(65,17),(66,18),(67,19),(68,20),(69,21),(70,22),(71,23),(72,24),(73,25),(74,26),(75,27),(76,28),(4,29)] [(0,[]),(1,[0]),(2,[1]),(3,[2]),(4,[]),(5,[]),(6,[5]),(7,[6]),(8,[7]),(9,[]),(10,[]),(11,[]),(12,[11]),(13,[12]),(14,[13]),(15,[]),(16,[15]),(17,[16]),(18,[17]),(19,[]),(20,[19]),(21,[20]),(22,[21]),(23,[]),(24,[22,23]),(25,[24]),(26,[18,25]),(27,[3,4,8,9,10,14,26]),(28,[27]),(29,[28])] (ckR [(0,.pointer (some ⟨b,0,none⟩)),(1,.pointer (some ⟨b,0,none⟩)),(2,.pointer (some ⟨b,0,none⟩)),(3,.int .i64 me),(4,.int .i64 (t:Nat)),(5,.pointer (some ⟨b,0,none⟩)),(6,.pointer (some ⟨b,0,none⟩)),(7,.pointer (some ⟨b,6,none⟩)),(8,.int .u64 (tm:Nat)),(9,.int .u64 (pv:Nat)),(10,.int .u64 (pt:Nat)),(11,.pointer (some ⟨b,0,none⟩)),(12,.pointer (some ⟨b,0,none⟩)),(13,.pointer (some ⟨b,7,none⟩)),(14,.int .u64 (cm:Nat)),(15,.pointer (some ⟨b,0,none⟩)),(16,.pointer (some ⟨b,0,none⟩)),(17,.pointer (some ⟨b,8,none⟩)),(18,.agg #[.int .u64 (bs:Nat),.int .u64 (bt:Nat),.slice ae le ce]),(19,.pointer (some ⟨b,0,none⟩)),(20,.pointer (some ⟨b,0,none⟩)),(21,.pointer (some ⟨b,12,none⟩)),(22,.slice (some ⟨bn,0,none⟩) 16 cn),(23,.int .i64 (t:Nat)),(24,.pointer (some ⟨bn,t,none⟩)),(25,.int .u64 (nt:Nat))] [(26,⟨fun v W=>∃a' c' ys,v=.slice a' ys.length c'∧EsAt X W (.slice a' ys.length c') ys∧ys.map EV.en=SL,fun v W W' h hf=>by obtain⟨a',c',ys,h1,h2,h3⟩:=h;exact⟨a',c',ys,h1,h2.tt hf,h3⟩⟩),(27,⟨fun v W=>∃a' c' ys,v=.agg #[.int .i64 5,.int .i64 me,.int .i64 (t:Nat),.int .u64 (tm:Nat),.int .u64 (pv:Nat),.int .u64 (pt:Nat),.int .u64 (cm:Nat),.bool false,.slice none 0 0,.slice a' ys.length c']∧EsAt X W (.slice a' ys.length c') ys∧ys.map EV.en=SL,fun v W W' h hf=>by obtain⟨a',c',ys,h1,h2,h3⟩:=h;exact⟨a',c',ys,h1,h2.tt hf,h3⟩⟩),(28,⟨fun v W=>∃g a' c' ys,v=.slice (some ⟨g,0,none⟩) 1 1∧w.heap.size≤g∧W.heap[g]? = some (.cells (cM (sMV me t tm pv pt cm a' c' ys)) 32 (0,0))∧EsAt X W (.slice a' ys.length c') ys∧ys.map EV.en=SL,fun v W W' h hf=>by obtain⟨g,a',c',ys,h1,h2,h3,h4,h5⟩:=h;exact⟨g,a',c',ys,h1,h2,hf.keep _ _ h3 trivial,h4.tt hf,h5⟩⟩),(29,⟨fun v W=>∃g a' c' ys,v=.slice (some ⟨g,0,none⟩) 1 1∧w.heap.size≤g∧W.heap[g]? = some (.cells (cM (sMV me t tm pv pt cm a' c' ys)) 32 (0,0))∧EsAt X W (.slice a' ys.length c') ys∧ys.map EV.en=SL,fun v W W' h hf=>by obtain⟨g,a',c',ys,h1,h2,h3,h4,h5⟩:=h;exact⟨g,a',c',ys,h1,h2,hf.keep _ _ h3 trivial,h4.tt hf,h5⟩⟩)] 30 0) rfl ?cfall ?cfend
 case cfall=>
  iterate 26
   refine bV.q rfl rfl rfl (fun xs W HF hE K' hK=>?_) ?_
   ·simp only[ckEqs,ckLook,Nat.reduceBEq] at hE;simp only[fillA,fillL,sA,sB,sC,Act.put,hE] at hK ⊢;clear hE;obtain⟨y0,y6,y7,y8,y9,y10,y12,z⟩:=CC.out W (UD.out.trans HF.out);(try simp only[gA,gB,gC]);go_simp;exact hK.out _ rfl
  refine bV.p rfl rfl (fun xs W HF hA hE K' hK=>?_) ?_
  ·clear hA;simp only[ckEqs,ckLook,Nat.reduceBEq] at hE;simp only[fillA,fillL,sA,sB,sC,Act.put,hE] at hK ⊢;clear hE;have SC:=zH (SLC.out W (UD.out.trans HF.out));dsimp only[vL] at SC;(try simp only[gA,gB,gC]);go_simp;(with_reducible refine SC.out.mono ?_);rintro e w8 ⟨⟨a',c',ys,rfl,he,hy⟩,f8⟩;exact hK.out _ _ _ rfl f8 ⟨a',c',ys,rfl,he,hy⟩
  refine bV.p rfl rfl (fun xs W HF hA hE K' hK=>?_) ?_
  ·have h26:=hA 26 (by decide);clear hA;simp only[ckEqs,ckLook,Nat.reduceBEq] at hE;simp only[fillA,fillL,sA,sB,sC,Act.put,hE] at hK ⊢;clear hE;obtain⟨a',c',ys,e26,he,hy⟩:=h26;rw[e26] at hK ⊢;clear e26;(try simp only[gA,gB,gC]);go_simp;exact hK.out _ _ _ rfl (Fr.refl _ _) ⟨a',c',ys,rfl,he,hy⟩
  refine bV.p rfl rfl (fun xs W HF hA hE K' hK=>?_) ?_
  ·have h27:=hA 27 (by decide);clear hA;simp only[ckEqs,ckLook,Nat.reduceBEq] at hE;simp only[fillA,fillL,sA,sB,sC,Act.put,hE] at hK ⊢;clear hE;obtain⟨a',c',ys,e27,he,hy⟩:=h27;rw[e27] at hK ⊢;clear e27;have SB:Hid (w.heap.size≤W.heap.size):=(UD.out.trans HF.out).size;(try simp only[gA,gB,gC]);go_simp;exact hK.out _ _ _ rfl ((Fr.refl _ _).alloc _) ⟨_,a',c',ys,rfl,SB.out,bX _ _,he.tt ((Fr.refl _ _).alloc _),hy⟩
  refine bV.p rfl rfl (fun xs W HF hA hE K' hK=>?_) ?_
  ·have h28:=hA 28 (by decide);clear hA;simp only[ckEqs,ckLook,Nat.reduceBEq] at hE;simp only[fillA,fillL,sA,sB,sC,Act.put,hE] at hK ⊢;clear hE;obtain⟨g,a',c',ys,e28,hg,tg,he,hy⟩:=h28;rw[e28] at hK ⊢;clear e28;(try simp only[gA,gB,gC]);go_simp;exact hK.out _ _ _ rfl (Fr.refl _ _) ⟨g,a',c',ys,rfl,hg,tg,he,hy⟩
  exact bV.nil
 case cfend=>intro xs W hF hA;have HF:=zH hF;have hE:=b_ rfl hA;have h26:=hA (26,[18,25]) (by decide);have h27:=hA (27,[3,4,8,9,10,14,26]) (by decide);have h28:=hA (28,[27]) (by decide);have h29:=hA (29,[28]) (by decide);clear hA hF;simp only[List.map_cons,List.map_nil,ckEqs,ckLook,Nat.reduceBEq] at hE;simp only[fillA,fillL,sA,sB,sC,hE];clear hE;obtain⟨g,a',c',ys,e29,hg,tg,he,hy⟩:=h29;rw[e29];have FW:=zH (UD.out.trans HF.out);have HE:=zH (And.intro hg (And.intro tg (And.intro he hy)));clear hg tg he hy e29 SLC CC;go_wp2;go_ret;rw[OUT.out];refine⟨⟨_,[sMV me t tm pv pt cm a' c' ys],rfl,OwnMs.at1 _ HE.out.1 HE.out.2.1 (fun hc=>by have:=H.out.hx g hc;have:=HE.out.1;omega) ⟨BytesAt.nil _ _,HE.out.2.2.1⟩,?_⟩,FW.out⟩;show [MV.ms _]=_;unfold MV.ms;rw[HE.out.2.2.2];rfl
theorem mz [Old] (h:PNs X P w b n q) (x:Int) (hnx:∀y∈n.next,y<18446744073709551616) (hl:n.log.last+1<18446744073709551616) (hle:n.log.es.length≤900000):
 Calls Tryz.prog 16 #[.pointer (some ⟨b,0,none⟩),.int .i64 x] w fun e w'=>jj X w (n.sendTo x) e w':=by
 by_cases hr:n.role=3
 ·by_cases hx:x=n.me
  ·exact Kk h x hr hx hnx hl hle
  ·by_cases h16:0≤x∧x<16
   ·obtain⟨t,rfl⟩:=Int.eq_ofNat_of_zero_le h16.1;by_cases hb:n.next.getD t 0≤n.log.base
    ·exact Kw h t (by omega) hr hx hb hnx hl hle
    ·exact Kv h t (by omega) hr hx hb hnx hl hle
   ·exact Kj h x hr hx h16 hnx hl hle
 ·exact Kx h x hr hnx hl hle
end
namespace Nd
structure Up (n n':Nd):Prop where
 tm:n.tm≤n'.tm
 commit:n.commit≤n'.commit
 me:n'.me=n.me
 conf:n'.conf=n.conf
 base:n'.log.base=n.log.base
theorem Up.refl (n:Nd):Up n n:=⟨Nat.le_refl _,Nat.le_refl _,rfl,rfl,rfl⟩
theorem Up.trans {a b c:Nd} (h:Up a b) (k:Up b c):Up a c:=⟨Nat.le_trans h.tm k.tm,Nat.le_trans h.commit k.commit,k.me.trans h.me,k.conf.trans h.conf,k.base.trans h.base⟩
theorem follow_up (n:Nd) (t:Nat) (ld:Int):Up n (n.follow t ld):=by
 unfold follow;split
 ·exact⟨by show n.tm≤t;omega,Nat.le_refl _,rfl,rfl,rfl⟩
 ·exact⟨Nat.le_refl _,Nat.le_refl _,rfl,rfl,rfl⟩
theorem lead_up (n:Nd):Up n n.lead:=⟨Nat.le_refl _,Nat.le_refl _,rfl,rfl,rfl⟩
theorem M3 (n:Nd):Up n n.askT.1:=by
 unfold askT;split
 ·dsimp only;split
  ·exact⟨Nat.le_succ _,Nat.le_refl _,rfl,rfl,rfl⟩
  ·exact⟨Nat.le_succ _,Nat.le_refl _,rfl,rfl,rfl⟩
 ·exact Up.refl n
theorem askF_up (n:Nd):Up n n.askF.1:=by
 unfold askF;split
 ·dsimp only;split
  ·exact Up.trans (b:={ n with role:=1,ld:=-1,yes:=[n.me] }) ⟨Nat.le_refl _,Nat.le_refl _,rfl,rfl,rfl⟩ (M3 _)
  ·exact⟨Nat.le_refl _,Nat.le_refl _,rfl,rfl,rfl⟩
 ·exact Up.refl n
theorem Mv (n:Nd):Up n n.chosen.1:=by
 unfold chosen;split
 ·exact M3 n
 ·exact lead_up n
theorem onAsk_up (n:Nd) (m:Ms):Up n (n.onAsk m).1:=by
 unfold onAsk;split
 ·dsimp only
  have h:Up n (if m.kind=1∧n.tm<m.tm then n.follow m.tm (-1) else n):=by
   split
   ·exact follow_up _ _ _
   ·exact Up.refl n
  generalize (if m.kind=1∧n.tm<m.tm then n.follow m.tm (-1) else n)=n1 at h;split
  ·exact⟨h.tm,h.commit,h.me,h.conf,h.base⟩
  ·exact h
 ·exact Up.refl n
theorem onAnswer_up (n:Nd) (m:Ms):Up n (n.onAnswer m).1:=by
 unfold onAnswer;split
 ·dsimp only
  have h:Up n (if n.tm<m.tm∧(m.ok=false∨m.kind=2) then n.follow m.tm (-1) else n):=by
   split
   ·exact follow_up _ _ _
   ·exact Up.refl n
  generalize (if n.tm<m.tm∧(m.ok=false∨m.kind=2) then n.follow m.tm (-1) else n)=n1 at h;have h2:Up n { n1 with yes:=n1.yes++[m.src] }:=⟨h.tm,h.commit,h.me,h.conf,h.base⟩
  split
  ·split
   ·exact h2.trans (Mv _)
   ·exact h2
  ·exact h
 ·exact Up.refl n
theorem DX (n:Nd) (r:Nat):Up n (n.sureR r):=by
 unfold sureR;split
 ·rename_i h;exact⟨Nat.le_refl _,by show n.commit≤r;omega,rfl,rfl,rfl⟩
 ·exact Up.refl n
theorem propose_up (n:Nd) (k:Int) (d:List UInt8):Up n (n.propose k d).1:=by
 unfold propose;split
 ·exact Up.refl n
 ·split
  ·exact Up.refl n
  ·split
   ·exact Up.refl n
   ·exact Up.trans (b:={ n with log:=n.log.add ⟨n.tm,k,d⟩,mat:=n.mat.set n.me.toNat (n.log.last+1) }) ⟨Nat.le_refl _,Nat.le_refl _,rfl,rfl,rfl⟩ (DX _ _)
theorem taken_up (n:Nd) (m:Ms):Up n (n.taken m).1:=by
 unfold taken;split
 ·exact Up.refl n
 ·refine⟨Nat.le_refl _,?_,rfl,rfl,(Lg.append_base _ _ _ _).1⟩;show n.commit≤max n.commit _;omega
theorem onAppend_up (n:Nd) (m:Ms):Up n (n.onAppend m).1:=by
 unfold onAppend;split
 ·exact Up.refl n
 ·split
  ·exact Up.refl n
  ·have h:=follow_up n m.tm m.src;exact Up.trans (b:={ n.follow m.tm m.src with heard:=true }) ⟨h.tm,h.commit,h.me,h.conf,h.base⟩ (taken_up _ m)
theorem acked_up (n:Nd) (m:Ms):Up n (n.acked m):=by
 unfold acked;split
 ·exact⟨Nat.le_refl _,Nat.le_refl _,rfl,rfl,rfl⟩
 ·split
  ·exact Up.trans (b:={ n with mat:=n.mat.set m.src.toNat (max (n.mat.getD m.src.toNat 0) m.index),next:=n.next.set m.src.toNat (max (n.mat.getD m.src.toNat 0) m.index+1) }) ⟨Nat.le_refl _,Nat.le_refl _,rfl,rfl,rfl⟩ (DX _ _)
  ·exact Up.refl n
theorem onAcked_up (n:Nd) (m:Ms):Up n (n.onAcked m).1:=by
 unfold onAcked;split
 ·exact Up.refl n
 ·split
  ·exact follow_up _ _ _
  ·split
   ·exact Up.refl n
   ·split <;> exact acked_up n m
def hear (n:Nd) (m:Ms):Nd×List Ms:=
 let a:=n.onAsk m;let b:=a.1.onAnswer m;let c:=b.1.onAppend m;let d:=c.1.onAcked m
 (d.1,a.2++b.2++c.2++d.2)
theorem hear_up (n:Nd) (m:Ms):Up n (n.hear m).1:=(((onAsk_up n m).trans (onAnswer_up _ m)).trans (onAppend_up _ m)).trans (onAcked_up _ m)
end Nd
structure Bn (B:Nat) (n:Nd):Prop where
 tm:n.tm≤B
 commit:n.commit≤B
 last:n.log.last≤B
 n16:n.next.length=16
 m16:n.mat.length=16
 nx:∀x∈n.next,x≤B
 mt:∀x∈n.mat,x≤B
structure Bm (B:Nat) (m:Ms):Prop where
 tm:m.tm≤B
 index:m.index+m.es.length≤B
 prev:m.kind=6→m.prev≤B
 commit:m.commit≤B
theorem Bn.mono {B B':Nat} {n:Nd} (h:Bn B n) (hb:B≤B'):Bn B' n:=⟨Nat.le_trans h.tm hb,Nat.le_trans h.commit hb,Nat.le_trans h.last hb,h.n16,h.m16,fun x hx=>Nat.le_trans (h.nx x hx) hb,fun x hx=>Nat.le_trans (h.mt x hx) hb⟩
theorem Bm.mono {B B':Nat} {m:Ms} (h:Bm B m) (hb:B≤B'):Bm B' m:=⟨Nat.le_trans h.tm hb,Nat.le_trans h.index hb,fun k=>Nat.le_trans (h.prev k) hb,Nat.le_trans h.commit hb⟩
theorem sV {B:Nat} {l:List Nat} (h:∀x∈l,x≤B) (i y:Nat) (hy:y≤B):∀x∈l.set i y,x≤B:=fun x hx=>by
 rcases List.mem_or_eq_of_mem_set hx with h1 | h1
 ·exact h x h1
 ·exact h1▸hy
theorem MZ {B:Nat} {l:List Nat} (h:∀x∈l,x≤B) (i:Nat):l.getD i 0≤B:=by
 rw[List.getD_eq_getElem?_getD];by_cases hi:i<l.length
 ·rw[List.getElem?_eq_getElem hi];exact h _ (List.getElem_mem hi)
 ·rw[List.getElem?_eq_none (by omega)];exact Nat.zero_le _
theorem mJ {B k y:Nat} (hy:y≤B):∀x∈List.replicate k y,x≤B:=fun x hx=>by rw[List.eq_of_mem_replicate hx];exact hy
theorem vK {B:Nat} {l:Lg}:∀(es:List En) (p:Nat),l.base≤p→p≤l.last→l.last≤B→p+es.length≤B→(l.lay p es).last≤B
 | [],p,_,_,h,_=>h
 | x :: xs,p,h1,h2,h3,h4=>by
  rw[List.length_cons] at h4;unfold Lg.lay;split
  ·rename_i h;have h5:(l.term (p+1)).2=true:=by rw[h]
   exact vK xs (p+1) (by omega) (Lg.term_is.1 h5).2 h3 (by omega)
  ·show l.base+(l.es.take (p-l.base)++x :: xs).length≤B;rw[List.length_append,List.length_take,List.length_cons];omega
theorem C7 {B:Nat} {l:Lg} {p pt:Nat} {es:List En} (h:l.last≤B) (hi:p+es.length≤B):(l.append p pt es).1.last≤B:=by
 unfold Lg.append;split
 ·exact h
 ·rename_i hf
  have hp:p≤l.last:=by
   unfold Lg.fits at hf;by_cases hh:l.last<p
   ·rw[if_pos hh] at hf;exact absurd (by decide) hf
   ·omega
  have hb:l.base≤l.last:=by unfold Lg.last;omega
  split
  ·refine vK _ _ (Nat.le_refl _) hb h ?_;rw[List.length_drop];omega
  ·exact vK _ _ (by omega) hp h hi
namespace Nd
variable {B:Nat} {n:Nd} {m:Ms}
theorem mw (h:Bn B n) {t:Nat} (ht:t≤B) (ld:Int):Bn B (n.follow t ld):=by
 unfold follow;split
 ·exact⟨ht,h.commit,h.last,h.n16,h.m16,h.nx,h.mt⟩
 ·exact⟨h.tm,h.commit,h.last,h.n16,h.m16,h.nx,h.mt⟩
theorem lead_b (h:Bn B n):Bn (B+1) n.lead:=by
 have hl:=h.last;refine⟨Nat.le_succ_of_le h.tm,Nat.le_succ_of_le h.commit,?_,by simp [lead],by simp [lead],mJ (by omega),sV (mJ (Nat.zero_le _)) _ _ (by omega)⟩;show n.log.base+(n.log.es++[_]).length≤_;unfold Lg.last at hl;simp;omega
theorem K_ (m:Ms) (h:Bm B m):∀x∈n.toAll m,Bm B x:=fun x hx=>by
 unfold toAll at hx;obtain⟨y,_,rfl⟩:=List.mem_map.1 hx;exact⟨h.tm,h.index,h.prev,h.commit⟩
theorem askT_b (h:Bn B n):Bn (B+1) n.askT.1∧∀x∈n.askT.2,Bm (B+1) x:=by
 have h1:=h.mono (Nat.le_succ B);have hl:=h.last;have ht:=h.tm;unfold askT;split
 ·dsimp only;split
  ·have hh:=lead_b (n:={ n with tm:=n.tm+1,vote:=n.me,role:=2,ld:=-1,yes:=[n.me] }) (B:=B+1) ⟨by show n.tm+1≤B+1;omega,h1.commit,h1.last,h1.n16,h1.m16,h1.nx,h1.mt⟩;refine⟨⟨by show n.tm+1≤B+1;omega,h1.commit,?_,hh.n16,hh.m16,mJ ?_,sV (mJ (Nat.zero_le _)) _ _ ?_⟩,fun x hx=>by cases hx⟩
   ·show n.log.base+(n.log.es++[_]).length≤_;unfold Lg.last at hl;simp;omega
   ·show n.log.last+1≤B+1;omega
   ·show n.log.last+1≤B+1;omega
  ·refine⟨⟨by show n.tm+1≤B+1;omega,h1.commit,h1.last,h1.n16,h1.m16,h1.nx,h1.mt⟩,K_ _ ⟨by show n.tm+1≤B+1;omega,by show n.log.last+0≤B+1;omega,fun k=>absurd (show (1:Int)=6 from k) (by decide),Nat.zero_le _⟩⟩
 ·exact⟨h1,fun x hx=>by cases hx⟩
theorem askF_b (h:Bn B n):Bn (B+1) n.askF.1∧∀x∈n.askF.2,Bm (B+1) x:=by
 have h1:=h.mono (Nat.le_succ B);have hl:=h.last;have ht:=h.tm;unfold askF;split
 ·dsimp only;split
  ·exact askT_b (n:={ n with role:=1,ld:=-1,yes:=[n.me] }) ⟨h.tm,h.commit,h.last,h.n16,h.m16,h.nx,h.mt⟩
  ·refine⟨⟨h1.tm,h1.commit,h1.last,h1.n16,h1.m16,h1.nx,h1.mt⟩,K_ _ ⟨by show n.tm+1≤B+1;omega,by show n.log.last+0≤B+1;omega,fun k=>absurd (show (3:Int)=6 from k) (by decide),Nat.zero_le _⟩⟩
 ·exact⟨h1,fun x hx=>by cases hx⟩
theorem chosen_b (h:Bn B n):Bn (B+1) n.chosen.1∧∀x∈n.chosen.2,Bm (B+1) x:=by
 unfold chosen;split
 ·exact askT_b h
 ·exact⟨lead_b h,fun x hx=>by cases hx⟩
theorem onAsk_b (h:Bn B n) (hm:Bm B m):Bn B (n.onAsk m).1∧∀x∈(n.onAsk m).2,Bm B x:=by
 unfold onAsk;split
 ·rename_i hk;dsimp only
  have h1:Bn B (if m.kind=1∧n.tm<m.tm then n.follow m.tm (-1) else n):=by
   split
   ·exact mw h hm.tm _
   ·exact h
  generalize (if m.kind=1∧n.tm<m.tm then n.follow m.tm (-1) else n)=n1 at h1;refine⟨?_,fun x hx=>?_⟩
  ·split
   ·exact⟨h1.tm,h1.commit,h1.last,h1.n16,h1.m16,h1.nx,h1.mt⟩
   ·exact h1
  ·rw[List.mem_singleton.1 hx];refine⟨?_,Nat.zero_le _,fun k=>?_,Nat.zero_le _⟩
   ·show (if _ then m.tm else n1.tm)≤B;split
    ·exact hm.tm
    ·exact h1.tm
   ·have k':m.kind+1=6:=k;omega
 ·exact⟨h,fun x hx=>by cases hx⟩
theorem onAnswer_b (h:Bn B n) (hm:Bm B m):Bn (B+1) (n.onAnswer m).1∧∀x∈(n.onAnswer m).2,Bm (B+1) x:=by
 unfold onAnswer;split
 ·dsimp only
  have h1:Bn B (if n.tm<m.tm∧(m.ok=false∨m.kind=2) then n.follow m.tm (-1) else n):=by
   split
   ·exact mw h hm.tm _
   ·exact h
  generalize (if n.tm<m.tm∧(m.ok=false∨m.kind=2) then n.follow m.tm (-1) else n)=n1 at h1;have h2:Bn B { n1 with yes:=n1.yes++[m.src] }:=⟨h1.tm,h1.commit,h1.last,h1.n16,h1.m16,h1.nx,h1.mt⟩
  split
  ·split
   ·exact chosen_b h2
   ·exact⟨h2.mono (Nat.le_succ _),fun x hx=>by cases hx⟩
  ·exact⟨h1.mono (Nat.le_succ _),fun x hx=>by cases hx⟩
 ·exact⟨h.mono (Nat.le_succ _),fun x hx=>by cases hx⟩
theorem LW (h:Bn B n) (r:Nat):Bn B (n.sureR r):=by
 unfold sureR;split
 ·rename_i hh;have h3:(n.log.term r).2=true:=by rw[hh.2.1]
  have:=(Lg.term_is.1 h3).2;exact⟨h.tm,by show r≤B;have:=h.last;omega,h.last,h.n16,h.m16,h.nx,h.mt⟩
 ·exact h
theorem DY (h:Bn B n) (x:Int):∀y∈n.sendTo x,Bm B y:=fun y hy=>by
 unfold sendTo at hy;split at hy
 ·cases hy
 ·rename_i hc;rw[List.mem_singleton.1 hy];have hn:=MZ h.nx x.toNat;have hl:=h.last;refine⟨h.tm,?_,fun k=>absurd (show (5:Int)=6 from k) (by decide),h.commit⟩;show n.next.getD x.toNat 0-1+(n.log.slice _ 8).length≤B;unfold Lg.slice;split
  ·rename_i hs;have:=Lg.has_iff.1 hs;rw[List.length_take,List.length_drop];unfold Lg.last at *;omega
  ·show _+0≤B;omega
theorem beat_b (h:Bn B n):∀y∈n.beat,Bm B y:=fun y hy=>by
 unfold beat at hy;obtain⟨x,_,hx⟩:=List.mem_flatMap.1 hy;exact DY h x y hx
theorem propose_b (h:Bn B n) (k:Int) (d:List UInt8):Bn (B+1) (n.propose k d).1:=by
 have h1:=h.mono (Nat.le_succ B);have hl:=h.last;unfold propose;split
 ·exact h1
 ·split
  ·exact h1
  ·split
   ·exact h1
   ·refine LW (n:={ n with log:=n.log.add ⟨n.tm,k,d⟩,mat:=n.mat.set n.me.toNat (n.log.last+1) }) ⟨h1.tm,h1.commit,?_,h1.n16,by show (n.mat.set _ _).length=16;rw[List.length_set];exact h.m16,h1.nx,sV h1.mt _ _ (by omega)⟩ _;show n.log.base+(n.log.es++[_]).length≤_;unfold Lg.last at hl;simp;omega
theorem taken_b (h1:Bn B n) (hm:Bm B m):Bn B (n.taken m).1∧∀x∈(n.taken m).2,Bm B x:=by
 unfold taken;split
 ·refine⟨h1,fun x hx=>?_⟩;rw[List.mem_singleton.1 hx];refine⟨h1.tm,by have:=hm.index;show m.index+0≤B;omega,fun _=>?_,Nat.zero_le _⟩;show n.log.hint m.index≤B;have hl:=h1.last;unfold Lg.hint;split
  ·unfold Lg.last at hl;omega
  ·have:=Lg.down_le n.log (n.log.term (min m.index n.log.last)).1 (min m.index n.log.last-n.log.base);omega
 ·have hi:=hm.index;have hc:=hm.commit;refine⟨⟨h1.tm,?_,C7 h1.last hi,h1.n16,h1.m16,h1.nx,h1.mt⟩,fun x hx=>?_⟩
  ·have:=h1.commit;show max n.commit (min m.commit (m.index+m.es.length))≤B;omega
  ·rw[List.mem_singleton.1 hx];exact⟨h1.tm,by show m.index+m.es.length+0≤B;omega,fun _=>Nat.zero_le _,Nat.zero_le _⟩
theorem onAppend_b (h:Bn B n) (hm:Bm B m):Bn B (n.onAppend m).1∧∀x∈(n.onAppend m).2,Bm B x:=by
 unfold onAppend;split
 ·exact⟨h,fun x hx=>by cases hx⟩
 ·split
  ·refine⟨h,fun x hx=>?_⟩;rw[List.mem_singleton.1 hx];exact⟨h.tm,by have:=hm.index;show m.index+0≤B;omega,fun _=>Nat.zero_le _,Nat.zero_le _⟩
  ·have h0:=mw h hm.tm m.src;exact taken_b (n:={ n.follow m.tm m.src with heard:=true }) ⟨h0.tm,h0.commit,h0.last,h0.n16,h0.m16,h0.nx,h0.mt⟩ hm
theorem acked_b (h:Bn B n) (hm:Bm B m) (hk:m.kind=6):Bn (B+1) (n.acked m):=by
 have h1:=h.mono (Nat.le_succ B);have hp:=hm.prev hk;have hi:=hm.index;have hg:=MZ h.mt m.src.toNat;unfold acked;split
 ·exact⟨h1.tm,h1.commit,h1.last,by show (n.next.set _ _).length=16;rw[List.length_set];exact h.n16,h1.m16,sV h1.nx _ _ (by omega),h1.mt⟩
 ·split
  ·exact LW (n:={ n with mat:=n.mat.set m.src.toNat (max (n.mat.getD m.src.toNat 0) m.index),next:=n.next.set m.src.toNat (max (n.mat.getD m.src.toNat 0) m.index+1) }) ⟨h1.tm,h1.commit,h1.last,by show (n.next.set _ _).length=16;rw[List.length_set];exact h.n16,by show (n.mat.set _ _).length=16;rw[List.length_set];exact h.m16,sV h1.nx _ _ (by omega),sV h1.mt _ _ (by omega)⟩ _
  ·exact h1
theorem onAcked_b (h:Bn B n) (hm:Bm B m):Bn (B+1) (n.onAcked m).1∧∀x∈(n.onAcked m).2,Bm (B+1) x:=by
 have h1:=h.mono (Nat.le_succ B);unfold onAcked;split
 ·exact⟨h1,fun x hx=>by cases hx⟩
 ·rename_i hk;have hk6:m.kind=6:=Classical.not_not.1 hk;split
  ·exact⟨mw h1 (Nat.le_succ_of_le hm.tm) _,fun x hx=>by cases hx⟩
  ·split
   ·exact⟨h1,fun x hx=>by cases hx⟩
   ·have ha:=acked_b h hm hk6;split
    ·exact⟨ha,fun x hx=>by cases hx⟩
    ·exact⟨ha,DY ha _⟩
theorem hear_b (h:Bn B n) (hm:Bm B m):Bn (B+2) (n.hear m).1∧∀x∈(n.hear m).2,Bm (B+2) x:=by
 obtain⟨a1,a2⟩:=onAsk_b h hm;obtain⟨b1,b2⟩:=onAnswer_b a1 hm;obtain⟨c1,c2⟩:=onAppend_b b1 (hm.mono (Nat.le_succ B));obtain⟨d1,d2⟩:=onAcked_b c1 (hm.mono (Nat.le_succ B));refine⟨d1,fun x hx=>?_⟩;have hx':x∈(n.onAsk m).2++((n.onAsk m).1.onAnswer m).2++(((n.onAsk m).1.onAnswer m).1.onAppend m).2++((((n.onAsk m).1.onAnswer m).1.onAppend m).1.onAcked m).2:=hx;rcases List.mem_append.1 hx' with hx' | hx'
 ·rcases List.mem_append.1 hx' with hx' | hx'
  ·rcases List.mem_append.1 hx' with hx' | hx'
   ·exact(a2 x hx').mono (by omega)
   ·exact(b2 x hx').mono (by omega)
  ·exact(c2 x hx').mono (by omega)
 ·exact d2 x hx'
end Nd
theorem L7 {α:Type} {p q:Prop} [Decidable p] [Decidable q] {a b:α} (h:p↔q):(if p then a else b)=if q then a else b:=by
 by_cases hp:p
 ·rw[if_pos hp,if_pos (h.1 hp)]
 ·rw[if_neg hp,if_neg (fun e=>hp (h.2 e))]
theorem if_ce {α:Type} {q:Prop} [Decidable q] {a b c:α} (h:b=c):(if q then a else b)=if q then a else c:=by rw[h]
def tJ (m:Ms):Int:=
 if m.kind<1∨12<m.kind then 30 else if m.src<0∨15<m.src∨m.dst<0∨15<m.dst then 31 else
 if 700<m.data.length∨8<m.es.length then 2 else if ∃x∈m.es,24<x.d.length then 2 else if ∃x∈m.es,x.k<0∨255<x.k then 30 else 0
namespace Nd
def led (n:Nd) (r:Nd×List Ms):Nd×List Ms:=if r.1.role=3∧(n.role≠3∨r.1.tm≠n.tm) then(r.1,r.2++r.1.beat) else r
def does (n:Nd) (m:Ms):Nd×List Ms:=if m.kind=1∨m.kind=3 then n.onAsk m else if m.kind=2∨m.kind=4 then n.onAnswer m else if m.kind=5 then n.onAppend m else n.onAcked m
def right (n:Nd) (m:Ms):Int:=if tJ m≠0 then tJ m else if m.dst≠n.me∨m.src=n.me then 31 else if 6<m.kind then 30 else
 if 1152921504606846976≤max (max (max m.tm m.index) m.prev) m.commit then 1 else 0
def step (n:Nd) (m:Ms):(Nd×List Ms)×Int:=if n.right m≠0 then((n,[]),n.right m) else(n.led (n.hear m),0)
def timeout (n:Nd):Nd×List Ms:=if n.role=3 then(n,[]) else if n.heard=true then({ n with heard:=false },[]) else n.led n.askF
variable {n:Nd} {m:Ms}
theorem Dj (h1:m.kind≠1) (h3:m.kind≠3):n.onAsk m=(n,[]):=if_neg (fun e=>e.elim h1 h3)
theorem pQ (h1:m.kind≠2) (h3:m.kind≠4):n.onAnswer m=(n,[]):=if_neg (fun e=>e.elim h1 h3)
theorem kV (h:m.kind≠5):n.onAppend m=(n,[]):=if_pos h
theorem l7 (h:m.kind≠6):n.onAcked m=(n,[]):=if_pos h
theorem does_hear (h:1≤m.kind∧m.kind≤6):n.hear m=n.does m:=by
 have e:n.hear m=(((((n.onAsk m).1.onAnswer m).1.onAppend m).1.onAcked m).1,(n.onAsk m).2++((n.onAsk m).1.onAnswer m).2++(((n.onAsk m).1.onAnswer m).1.onAppend m).2++((((n.onAsk m).1.onAnswer m).1.onAppend m).1.onAcked m).2):=rfl;unfold does;split
 ·rename_i hk;rw[e,pQ (by omega) (by omega),kV (by omega),l7 (by omega),List.append_nil,List.append_nil,List.append_nil]
 ·split
  ·rename_i hk h2;rw[Dj (by omega) (by omega)] at e;rw[e,kV (by omega),l7 (by omega),List.append_nil,List.append_nil];rfl
  ·rename_i hk h2;rw[Dj (by omega) (by omega)] at e;dsimp only at e;rw[pQ (by omega) (by omega)] at e;dsimp only at e;split
   ·rename_i h5;rw[e,l7 (by omega),List.append_nil];rfl
   ·rename_i h5;rw[kV (by omega)] at e;exact e
theorem led_y (r:Nd×List Ms):(n.led r).1=r.1:=by unfold led;split <;> rfl
theorem right_ok (h:n.right m=0):tJ m=0∧m.dst=n.me∧m.src≠n.me∧m.kind≤6∧m.tm<1152921504606846976∧m.index<1152921504606846976∧m.prev<1152921504606846976∧m.commit<1152921504606846976:=by
 unfold right at h;split at h
 ·rename_i hc;exact absurd h hc
 ·rename_i hc;split at h
  ·cases h
  ·split at h
   ·cases h
   ·split at h
    ·cases h
    ·rename_i h1 h2 h3;exact⟨Classical.not_not.1 hc,by omega,by omega,by omega,by omega,by omega,by omega,by omega⟩
end Nd
theorem wq {m:Ms} (h:tJ m=0):1≤m.kind∧0≤m.src∧m.src≤15∧m.data.length≤700∧m.es.length≤8:=by
 unfold tJ at h;split at h
 ·cases h
 ·split at h
  ·cases h
  ·split at h
   ·cases h
   ·omega
theorem Lg.app_len (l:Lg) (p pt:Nat) (es:List En):(l.append p pt es).1.es.length≤l.es.length+es.length:=by
 have lay:∀(es:List En) (l:Lg) (p:Nat),(l.lay p es).es.length≤l.es.length+es.length:=fun es=>by
  induction es with
  | nil=>intro l p;exact Nat.le_refl _
  | cons x xs ih=>
   intro l p;unfold Lg.lay;split
   ·have:=ih l (p+1);rw[List.length_cons];omega
   ·show (l.es.take _++x :: xs).length≤_;rw[List.length_append,List.length_take,List.length_cons];omega
 unfold Lg.append;split
 ·exact Nat.le_add_right _ _
 ·split
  ·have:=lay (es.drop (l.base-p)) l l.base;rw[List.length_drop] at this;show (l.lay _ _).es.length≤_;omega
  ·exact lay _ _ _
namespace Nd
theorem Fy (n:Nd):n.askT.1.log.es.length≤n.log.es.length+1:=by
 unfold askT;split
 ·dsimp only;split
  ·show (n.log.es++[_]).length≤_;simp
  ·exact Nat.le_succ _
 ·exact Nat.le_succ _
theorem askF_log (n:Nd):n.askF.1.log.es.length≤n.log.es.length+1:=by
 unfold askF;split
 ·dsimp only;split
  ·exact Fy ({ n with role:=1,ld:=-1,yes:=[n.me] }:Nd)
  ·exact Nat.le_succ _
 ·exact Nat.le_succ _
theorem pK (n:Nd) (t:Nat) (l:Int):(n.follow t l).log=n.log:=by unfold follow;split <;> rfl
theorem onAsk_log (n:Nd) (m:Ms):(n.onAsk m).1.log=n.log:=by
 unfold onAsk;split
 ·dsimp only
  have h1:(if m.kind=1∧n.tm<m.tm then n.follow m.tm (-1) else n).log=n.log:=by
   split
   ·exact pK _ _ _
   ·rfl
  generalize (if m.kind=1∧n.tm<m.tm then n.follow m.tm (-1) else n)=n1 at h1;split <;> exact h1
 ·rfl
theorem onAnswer_log (n:Nd) (m:Ms):(n.onAnswer m).1.log.es.length≤n.log.es.length+1:=by
 unfold onAnswer;split
 ·dsimp only
  have h1:(if n.tm<m.tm∧(m.ok=false∨m.kind=2) then n.follow m.tm (-1) else n).log=n.log:=by
   split
   ·exact pK _ _ _
   ·rfl
  generalize (if n.tm<m.tm∧(m.ok=false∨m.kind=2) then n.follow m.tm (-1) else n)=n1 at h1;rw[←h1];split
  ·split
   ·unfold chosen;split
    ·exact Fy ({ n1 with yes:=n1.yes++[m.src] }:Nd)
    ·show (n1.log.es++[_]).length≤_;simp
   ·exact Nat.le_succ _
  ·exact Nat.le_succ _
 ·exact Nat.le_succ _
theorem onAppend_log (n:Nd) (m:Ms):(n.onAppend m).1.log.es.length≤n.log.es.length+m.es.length:=by
 unfold onAppend;split
 ·exact Nat.le_add_right _ _
 ·split
  ·exact Nat.le_add_right _ _
  ·unfold taken;have e:({ n.follow m.tm m.src with heard:=true }:Nd).log=n.log:=pK _ _ _;rw[e];split
   ·show (n.follow m.tm m.src).log.es.length≤_;rw[pK];exact Nat.le_add_right _ _
   ·exact Lg.app_len _ _ _ _
theorem LV (n:Nd) (r:Nat):(n.sureR r).log=n.log:=by unfold sureR;split <;> rfl
theorem onAcked_log (n:Nd) (m:Ms):(n.onAcked m).1.log=n.log:=by
 have ha:(n.acked m).log=n.log:=by
  unfold acked;split
  ·rfl
  ·split
   ·exact LV _ _
   ·rfl
 unfold onAcked;split
 ·rfl
 ·split
  ·exact pK _ _ _
  ·split
   ·rfl
   ·split <;> exact ha
end Nd
structure Gw (B E:Nat) (n:Nd):Prop where
 bn:Bn B n
 es:n.log.es.length≤E
 ye:n.yes.length≤E
 me:∃mN:Nat,n.me=(mN:Nat)∧mN<16
 cf:0<n.conf.length∧n.conf.length≤12
 pos:∀x∈n.conf,0≤x∧x≤15
theorem Gw.up {B E B' E':Nat} {n n':Nd} (h:Gw B E n) (hu:Nd.Up n n') (hb:Bn B' n') (he:n'.log.es.length≤E') (hy:n'.yes.length≤E'):Gw B' E' n':=⟨hb,he,hy,by rw[hu.me];exact h.me,by rw[hu.conf];exact h.cf,by rw[hu.conf];exact h.pos⟩
theorem Gw.mono {B E B' E':Nat} {n:Nd} (h:Gw B E n) (hb:B≤B') (he:E≤E'):Gw B' E' n:=⟨h.bn.mono hb,Nat.le_trans h.es he,Nat.le_trans h.ye he,h.me,h.cf,h.pos⟩
theorem qV {m:MV} (h:m.kind<1∨12<m.kind):tJ m.ms=30:=if_pos h
theorem h_ {m:MV} (h:¬(m.kind<1∨12<m.kind)) (h2:m.src<0∨15<m.src∨m.dst<0∨15<m.dst):tJ m.ms=31:=(if_neg h).trans (if_pos h2)
theorem MV.esl (m:MV):m.ms.es.length=m.es.length:=List.length_map _
theorem qK {m:MV} (h:¬(m.kind<1∨12<m.kind)) (h2:¬(m.src<0∨15<m.src∨m.dst<0∨15<m.dst)) (h3:700<m.d.length∨8<m.es.length):tJ m.ms=2:=(if_neg h).trans ((if_neg h2).trans (if_pos (by rw[m.esl];exact h3)))
theorem chkM_e {m:MV} (h:¬(m.kind<1∨12<m.kind)) (h2:¬(m.src<0∨15<m.src∨m.dst<0∨15<m.dst)) (h3:¬(700<m.d.length∨8<m.es.length)):tJ m.ms=if ∃x∈m.es,24<x.d.length then 2 else if ∃x∈m.es,x.k<0∨255<x.k then 30 else 0:=by
 refine(if_neg h).trans ((if_neg h2).trans ((if_neg (by rw[m.esl];exact h3)).trans ?_));have e1:(∃x∈m.ms.es,24<x.d.length)↔∃x∈m.es,24<x.d.length:=⟨fun⟨x,hx,h⟩=>by obtain⟨y,hy,rfl⟩:=List.mem_map.1 hx;exact⟨y,hy,h⟩,fun⟨y,hy,h⟩=>⟨y.en,List.mem_map.2 ⟨y,hy,rfl⟩,h⟩⟩
 have e2:(∃x∈m.ms.es,x.k<0∨255<x.k)↔∃x∈m.es,x.k<0∨255<x.k:=⟨fun⟨x,hx,h⟩=>by obtain⟨y,hy,rfl⟩:=List.mem_map.1 hx;exact⟨y,hy,h⟩,fun⟨y,hy,h⟩=>⟨y.en,List.mem_map.2 ⟨y,hy,rfl⟩,h⟩⟩
 exact(L7 e1).trans (if_ce (L7 e2))
theorem rowE {K:Nat→Obj→Prop} {w:World} {a:Option Addr} {n c:Nat} {xs:List EV} (h:RowsAt K w (.slice a n c) 3 encE xs) (i:Nat) (hi:i<xs.length):∃be oe,a=some ⟨be,oe,none⟩∧∀W,Fr (fun _ _=>True) w W→W.cell? ⟨be,oe+i*3,none⟩=some (.int .u64 (xs[i].t:Nat))∧W.cell? ⟨be,oe+i*3+1,none⟩=some (.int .i64 xs[i].k)∧W.cell? ⟨be,oe+i*3+2,none⟩=some (.slice xs[i].a xs[i].d.length xs[i].c):=by
 obtain⟨a',c',e,hcc,h1⟩:=h;cases e;rcases h1 with h1 | ⟨be,oe,o,ha,ho,hkk,hc⟩
 ·rw[h1] at hi;cases hi
 ·exact⟨be,oe,ha,fun W f=>⟨f.cell (fun _ _=>trivial) (hc i hi 0 _ rfl),f.cell (fun _ _=>trivial) (hc i hi 1 _ rfl),f.cell (fun _ _=>trivial) (hc i hi 2 _ rfl)⟩⟩
theorem JK {K:Nat→Obj→Prop} (w:World) (a:Option Addr) (n cp:Nat) (xs:List EV) (g:Nat) (p:EV→Bool) (eg:∀args w,(callFunc g args).run Tryz.prog w=.ok (.enter g args) w) (hrow:RowsAt K w (.slice a n cp) 3 encE xs) (hn:xs.length=n) (hl:xs.length≤1000000)
 (hp:∀W x,Calls Tryz.prog g #[vE x] W fun e w'=>e=.returned (.bool (p x))∧Fr (fun _ _=>True) W w'):
 Calls Tryz.prog 146 #[.slice a n cp,.func (.func g) #[] #[]] w fun e w'=>(∃z,e=.returned (.int .i64 z)∧(0≤z↔∃x∈xs,p x=true))∧Fr (fun _ _=>True) w w':=by
 have HR:=zH hrow;have HP:=zH hp;have HN:=zH hn;have HL:Hid (n≤1000000):=by rw[←hn];exact hl
 clear hrow hp hn hl;go_enter Tryz.func146,Tryz.ntmps146
 go_wp2;go_loopw [8] (fun v8 wr=>∃i:Nat,v8=.int .i64 i∧i≤n∧Hid (∀j,(hj:j<xs.length)→j<i→p xs[j]=false)∧Hid (Fr (fun _ _=>True) w wr)) (fun v8 _=>n-(intOf v8).toNat)
 case atStart=>exact⟨0,rfl,Nat.zero_le _,fun j _ h=>(by omega),Fr.refl _ _⟩
 case round=>
  obtain⟨i,rfl,hi,HB,HF⟩:=hrel;have hi1:i≤1000000:=Nat.le_trans hi HL.out;by_cases hlt:i<n
  ·have hltI:(i:Int)<(n:Int):=by omega
   have hlt':i<xs.length:=by rw[HN.out];exact hlt
   obtain⟨be,oe,rfl,CE⟩:=rowE HR.out i hlt';obtain⟨k0,k1,k2⟩:=CE wr HF.out;have PC:=zH (HP.out wr xs[i]);obtain⟨x,hx⟩:=zE (xs[i]);rw[hx] at k0 k1 k2 PC;obtain⟨xt,ht⟩:=zE x.t;obtain⟨xk,hk⟩:=zE x.k;obtain⟨xa,ha⟩:=zE x.a;obtain⟨xl,hxl⟩:=zE x.d.length;obtain⟨xc,hc⟩:=zE x.c;rw[ht] at k0;rw[hk] at k1;rw[ha,hxl,hc] at k2;dsimp only[vE] at PC;rw[ht,hk,ha,hxl,hc] at PC;obtain⟨q,hq⟩:=zE (p x);rw[hq] at PC;have HQ:Hid (p xs[i]=q):=by rw[hx];exact hq
   clear hx ht hk ha hxl hc hq CE;cases q with
   | true=>
    go_wp2_with fail
    (with_reducible refine PC.out.mono ?_);rintro e w' ⟨rfl,f'⟩;have F':=zH (HF.out.trans f');clear f' PC;go_wp2;go_ret;exact⟨⟨_,rfl,fun _=>⟨_,List.getElem_mem hlt',HQ.out⟩,fun _=>by omega⟩,F'.out⟩
   | false=>
    go_wp2_with fail
    (with_reducible refine PC.out.mono ?_);rintro e w' ⟨rfl,f'⟩;have F':=zH (HF.out.trans f');clear f' PC;go_wp2;go_roundw
    case rel=>exact⟨i+1,by go_num,hlt,fun j hj hji=>by
     by_cases e:j=i
     ·subst e;exact HQ.out
     ·exact HB.out j hj (by omega),F'.out⟩
    case measure=>simp [intOf];omega
  ·have hge:(n:Int)≤i:=by omega
   go_wp2;go_ret;exact⟨⟨_,rfl,fun h=>absurd h (by decide),fun⟨x,hx,h⟩=>by obtain⟨j,hj,rfl⟩:=List.mem_iff_getElem.1 hx;have:=HB.out j hj (by have:=HN.out;omega);rw[this] at h;cases h⟩,HF.out⟩
theorem lK {K:Nat→Obj→Prop} (w:World) (a:Option Addr) (n cp:Nat) (xs:List EV) (g:Nat) (p:EV→Bool) (eg:∀args w,(callFunc g args).run Tryz.prog w=.ok (.enter g args) w) (hrow:RowsAt K w (.slice a n cp) 3 encE xs) (hn:xs.length=n) (hl:xs.length≤1000000)
 (hp:∀W x,Calls Tryz.prog g #[vE x] W fun e w'=>e=.returned (.bool (p x))∧Fr (fun _ _=>True) W w') (r:Bool) (hr:(∃x∈xs,p x=true)↔r=true):
 Calls Tryz.prog 134 #[.slice a n cp,.func (.func g) #[] #[]] w fun e w'=>e=.returned (.bool r)∧Fr (fun _ _=>True) w w':=by
 have IX:=zH (JK w a n cp xs g p eg hrow hn hl hp);have HR:=zH hr;clear hrow hn hl hp hr eg;go_enter Tryz.func134,Tryz.ntmps134
 go_wp2_with fail
 (with_reducible refine IX.out.mono ?_);rintro e w' ⟨⟨z,rfl,hz⟩,f'⟩;have F':=zH f';cases r with
 | true=>
  have h0:0≤z:=hz.2 (HR.out.2 rfl);clear f' IX hz;go_wp2;go_ret;exact⟨rfl,F'.out⟩
 | false=>
  have h0:¬0≤z:=fun e=>by have:=HR.out.1 (hz.1 e);cases this
  clear f' IX hz;go_wp2;go_ret;exact⟨congrArg (fun x=>Ending.returned (.bool x)) (decide_eq_false (by omega)),F'.out⟩
theorem wlong_fn (W:World) (x:EV):Calls Tryz.prog 131 #[vE x] W fun e w'=>e=.returned (.bool (decide (24<x.d.length)))∧Fr (fun _ _=>True) W w':=by
 unfold vE;obtain⟨W1,hW1⟩:=zE (W.alloc (.cells #[.int .u64 (x.t:Nat),.int .i64 x.k,.slice x.a x.d.length x.c] 85 (0,0)));have F1:Hid (Fr (fun _ _=>True) W W1):=hW1▸(Fr.refl _ _).alloc _;have t1:W1.heap[W.heap.size]? = some (.cells #[.int .u64 (x.t:Nat),.int .i64 x.k,.slice x.a x.d.length x.c] 85 (0,0)):=hW1▸bX _ _;have v2:=bQ (i:=2) t1 rfl;clear t1;obtain⟨dl,hdl⟩:=zE x.d.length;rw[hdl] at v2 hW1 ⊢;clear hdl;by_cases h:24<dl
 ·rw[decide_eq_true h];have h':(24:Int)<(dl:Int):=by omega
  go_enter Tryz.func131,Tryz.ntmps131
  go_wp2
  try rw[hW1]
  go_ret;exact⟨rfl,F1.out⟩
 ·rw[decide_eq_false h];have h':¬(24:Int)<(dl:Int):=by omega
  go_enter Tryz.func131,Tryz.ntmps131
  go_wp2
  try rw[hW1]
  go_ret;exact⟨rfl,F1.out⟩
theorem zy (W:World) (x:EV):Calls Tryz.prog 132 #[vE x] W fun e w'=>e=.returned (.bool (decide (x.k<0∨255<x.k)))∧Fr (fun _ _=>True) W w':=by
 unfold vE;obtain⟨W1,hW1⟩:=zE (W.alloc (.cells #[.int .u64 (x.t:Nat),.int .i64 x.k,.slice x.a x.d.length x.c] 85 (0,0)));have F1:Hid (Fr (fun _ _=>True) W W1):=hW1▸(Fr.refl _ _).alloc _;have t1:W1.heap[W.heap.size]? = some (.cells #[.int .u64 (x.t:Nat),.int .i64 x.k,.slice x.a x.d.length x.c] 85 (0,0)):=hW1▸bX _ _;have v1:=bQ (i:=1) t1 rfl;clear t1;obtain⟨k,hk⟩:=zE x.k;rw[hk] at v1 hW1 ⊢;clear hk;by_cases h0:k<0
 ·rw[decide_eq_true (.inl h0)];go_enter Tryz.func132,Tryz.ntmps132
  go_wp2
  try rw[hW1]
  go_ret;exact⟨rfl,F1.out⟩
 ·by_cases h1:255<k
  ·rw[decide_eq_true (.inr h1)];go_enter Tryz.func132,Tryz.ntmps132
   go_wp2
   try rw[hW1]
   go_ret;exact⟨rfl,F1.out⟩
  ·rw[decide_eq_false (by omega)];go_enter Tryz.func132,Tryz.ntmps132
   go_wp2
   try rw[hW1]
   go_ret;exact⟨rfl,F1.out⟩
theorem m8 (w:World) (z:Int):Calls Tryz.prog 133 #[.int .i64 z] w fun e w'=>e=.returned (.bool (decide (0≤z∧z≤15)))∧w=w':=by
 by_cases h0:0≤z
 ·by_cases h1:z<16
  ·rw[decide_eq_true (show 0≤z∧z≤15 by omega)];go_enter Tryz.func133,Tryz.ntmps133
   go_wp2;go_ret;exact⟨rfl,rfl⟩
  ·rw[decide_eq_false (show ¬(0≤z∧z≤15) by omega)];go_enter Tryz.func133,Tryz.ntmps133
   go_wp2;go_ret;exact⟨rfl,rfl⟩
 ·rw[decide_eq_false (show ¬(0≤z∧z≤15) by omega)];go_enter Tryz.func133,Tryz.ntmps133
  go_wp2;go_ret;exact⟨rfl,rfl⟩
theorem w_ [Old] {X:Nat→Prop} (w:World) (m:MV) (hm:MsAt X w m) (hel:m.es.length≤9223372036854775807) (hdl:m.d.length≤9223372036854775807):
 Calls Tryz.prog 119 #[.agg (cM m)] w fun e w'=>e=.returned (.int .i64 (tJ m.ms))∧Fr (fun _ _=>True) w w':=by
 obtain⟨W1,hW1,F1,X1⟩:=gW w m;obtain⟨v0,v1,v2,v3,v4,v5,v6,v7,v8,v9⟩:=bq X1.out;obtain⟨kd,hkd⟩:=zE m.kind;obtain⟨sr,hsr⟩:=zE m.src;obtain⟨ds,hds⟩:=zE m.dst;obtain⟨dl,hdl0⟩:=zE m.d.length;obtain⟨el,hel0⟩:=zE m.es.length;rw[hkd] at v0;rw[hsr] at v1;rw[hds] at v2;rw[hdl0] at v8;rw[hel0] at v9;have NO:Hid (∀(c:Int) (wx:World),tJ m.ms=c→Fr (fun _ _=>True) W1 wx→Ending.returned (.int .i64 c)=.returned (.int .i64 (tJ m.ms))∧Fr (fun _ _=>True) w wx):=fun c wx hc f=>⟨by rw[hc],F1.out.trans f⟩
 have N1:=zH (fun W=>m8 W sr);have N2:=zH (fun W=>m8 W ds);have HQ:=zH (And.intro hkd (And.intro hsr (And.intro hds (And.intro hdl0 hel0))));have ROW:Hid (∀W,Fr (fun _ _=>True) W1 W→RowsAt (RO X) W (.slice m.ea el m.ec) 3 encE m.es):=fun W f=>hel0▸(hm.es.row.tt F1.out).tt f
 rw[hdl0] at hdl;rw[hel0] at hel;unfold cM at hW1 ⊢;clear hm hkd hsr hds hdl0 hel0 v3 v4 v5 v6 v7;have EK:Hid ((kd<1∨12<kd)→tJ m.ms=30):=fun h=>qV (by rw[HQ.out.1];exact h)
 by_cases c0:kd<1
 ·have E:=zH (EK.out (.inl c0));go_enter Tryz.func119,Tryz.ntmps119
  go_wp2
  try rw[hW1]
  go_ret;exact NO.out _ _ E.out (Fr.refl _ _)
 ·by_cases c1:12<kd
  ·have E:=zH (EK.out (.inr c1));go_enter Tryz.func119,Tryz.ntmps119
   go_wp2
   try rw[hW1]
   go_ret;exact NO.out _ _ E.out (Fr.refl _ _)
  ·have K0:Hid (¬(m.kind<1∨12<m.kind)):=by show ¬_;rw[HQ.out.1];omega
   by_cases c2:0≤sr∧sr≤15
   case neg=>
    have E:=zH (h_ K0.out (by rw[HQ.out.2.1,HQ.out.2.2.1];omega));rw[decide_eq_false c2] at N1;clear c2 N2 ROW;go_enter Tryz.func119,Tryz.ntmps119
    go_wp2_with fail
    try rw[hW1]
    (with_reducible refine(N1.out _).mono ?_);rintro e w2 ⟨rfl,rfl⟩;go_wp2;go_ret;exact NO.out _ _ E.out (Fr.refl _ _)
   case pos=>
    rw[decide_eq_true c2] at N1;have C2:=zH c2;clear c2;by_cases c3:0≤ds∧ds≤15
    case neg=>
     have E:=zH (h_ K0.out (by rw[HQ.out.2.1,HQ.out.2.2.1];omega));rw[decide_eq_false c3] at N2;clear c3 ROW;go_enter Tryz.func119,Tryz.ntmps119
     go_wp2_with fail
     try rw[hW1]
     (with_reducible refine(N1.out _).mono ?_);rintro e w2 ⟨rfl,rfl⟩;go_wp2_with fail
     (with_reducible refine(N2.out _).mono ?_);rintro e w2 ⟨rfl,rfl⟩;go_wp2;go_ret;exact NO.out _ _ E.out (Fr.refl _ _)
    case pos=>
     rw[decide_eq_true c3] at N2;have NN:Hid (¬(m.src<0∨15<m.src∨m.dst<0∨15<m.dst)):=by show ¬_;rw[HQ.out.2.1,HQ.out.2.2.1];have:=C2.out;omega
     clear c3 C2;have EL:Hid (700<dl∨8<el→tJ m.ms=2):=fun h=>qK K0.out NN.out (by rw[HQ.out.2.2.2.1,HQ.out.2.2.2.2];exact h)
     by_cases c4:700<dl
     ·have E:=zH (EL.out (.inl c4));have c4':(700:Int)<(dl:Int):=by omega
      clear c4 ROW;go_enter Tryz.func119,Tryz.ntmps119
      go_wp2_with fail
      try rw[hW1]
      (with_reducible refine(N1.out _).mono ?_);rintro e w2 ⟨rfl,rfl⟩;go_wp2_with fail
      (with_reducible refine(N2.out _).mono ?_);rintro e w2 ⟨rfl,rfl⟩;go_wp2;go_ret;exact NO.out _ _ E.out (Fr.refl _ _)
     ·have c4':¬(700:Int)<(dl:Int):=by omega
      by_cases c5:8<el
      ·have E:=zH (EL.out (.inr c5));have c5':(8:Int)<(el:Int):=by omega
       clear c4 c5 ROW;go_enter Tryz.func119,Tryz.ntmps119
       go_wp2_with fail
       try rw[hW1]
       (with_reducible refine(N1.out _).mono ?_);rintro e w2 ⟨rfl,rfl⟩;go_wp2_with fail
       (with_reducible refine(N2.out _).mono ?_);rintro e w2 ⟨rfl,rfl⟩;go_wp2;go_ret;exact NO.out _ _ E.out (Fr.refl _ _)
      ·have c5':¬(8:Int)<(el:Int):=by omega
       have EE:=zH (chkM_e K0.out NN.out (show ¬(700<m.d.length∨8<m.es.length) by rw[HQ.out.2.2.2.1,HQ.out.2.2.2.2];omega));have H8:Hid (m.es.length≤1000000):=by show _≤_;rw[HQ.out.2.2.2.2];omega
       obtain⟨l1,hl1⟩:=zE (decide (∃x∈m.es,24<x.d.length));obtain⟨l2,hl2⟩:=zE (decide (∃x∈m.es,x.k<0∨255<x.k));have L1:=zH hl1;have L2:=zH hl2
       have CL:Hid (∀W,Fr (fun _ _=>True) W1 W→Calls Tryz.prog 134 #[.slice m.ea el m.ec,.func (.func 131) #[] #[]] W fun e w'=>e=.returned (.bool l1)∧Fr (fun _ _=>True) W w'):=fun W f=>
        lK W _ _ _ m.es _ (fun x=>decide (24<x.d.length)) (enters_of Tryz.func131 (by kernel_rfl) rfl) (ROW.out W f) HQ.out.2.2.2.2 H8.out (fun W x=>wlong_fn W x) l1 (by rw[←L1.out];simp)
       have CS:Hid (∀W,Fr (fun _ _=>True) W1 W→Calls Tryz.prog 134 #[.slice m.ea el m.ec,.func (.func 132) #[] #[]] W fun e w'=>e=.returned (.bool l2)∧Fr (fun _ _=>True) W w'):=fun W f=>
        lK W _ _ _ m.es _ (fun x=>decide (x.k<0∨255<x.k)) (enters_of Tryz.func132 (by kernel_rfl) rfl) (ROW.out W f) HQ.out.2.2.2.2 H8.out (fun W x=>zy W x) l2 (by rw[←L2.out];simp)
       clear c4 c5 ROW hl1 hl2 EL EK;have VV:Hid (∀W,Fr (fun _ _=>True) W1 W→W.cell? ⟨w.heap.size,9,none⟩=some (.slice m.ea el m.ec)):=fun W f=>f.cell (fun _ _=>trivial) v9
       go_enter Tryz.func119,Tryz.ntmps119
       go_wp2_with fail
       try rw[hW1]
       (with_reducible refine(N1.out _).mono ?_);rintro e w2 ⟨rfl,rfl⟩;go_wp2_with fail
       (with_reducible refine(N2.out _).mono ?_);rintro e w2 ⟨rfl,rfl⟩;have C1:=zH (CL.out W1 (Fr.refl _ _));go_wp2_with fail
       (with_reducible refine C1.out.mono ?_);rintro e w2 ⟨rfl,f2⟩;have F2:=zH f2;have u9:=VV.out w2 f2;have C3:=zH (CS.out w2 f2);clear f2 C1 CL CS v9;cases l1 with
       | true=>
        go_wp2;go_ret;exact NO.out _ _ (EE.out.trans (if_pos (of_decide_eq_true L1.out))) F2.out
       | false=>
        go_wp2_with fail
        (with_reducible refine C3.out.mono ?_);rintro e w3 ⟨rfl,f3⟩;have F3:=zH (F2.out.trans f3);clear f3 C3;cases l2 with
        | true=>
         go_wp2;go_ret;exact NO.out _ _ (EE.out.trans ((if_neg (of_decide_eq_false L1.out)).trans (if_pos (of_decide_eq_true L2.out)))) F3.out
        | false=>
         go_wp2;go_ret;exact NO.out _ _ (EE.out.trans ((if_neg (of_decide_eq_false L1.out)).trans (if_neg (of_decide_eq_false L2.out)))) F3.out
end Go.Proofs.YtmjccpfchhnfhaaGreat
