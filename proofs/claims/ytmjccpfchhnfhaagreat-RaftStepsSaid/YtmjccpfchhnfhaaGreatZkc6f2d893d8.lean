/- Texts of the proofs, part 26: what the functions that they reach do, walked; no conditions beyond those that each states. -/
import Derived.Defers
import Derived.Test.YtmjccpfchhnfhaaGreatZk92dd635ced
import Derived.Test.YtmjccpfchhnfhaaGreatZka13f7e96cd
set_option linter.unusedVariables false
set_option linter.unusedSimpArgs false
set_option maxRecDepth 100000
set_option maxHeartbeats 8000000
namespace Go.Proofs.YtmjccpfchhnfhaaGreat
open Go.RowKit
def zj (P:Program) (f:FuncId) (args:Array Value) (w:World) (R:Ending→World→Prop):Prop:=Calls P f args w R∧∀u,CallsD P f args u w fun e u' w'=>u'=u∧R e w'
theorem mV {P:Program} {f:FuncId} {fn:Func} {c:Code} {args:Array Value} {w:World} {R:Ending→World→Prop} (hf:P.funcs[f]? = some fn) (hb:fn.body=some c)
 (h:c.wp P (bodyPost P fn R) { tmps:=args++Array.replicate (fn.ntmps-args.size) undef,defers:=[] } w):zj P f args w R:=⟨calls_of_wp hf hb h,fun u=>callsD_of_wp hf hb h⟩
theorem M0 {l:List Nat} (x:Int):0≤atU (l.map fun(x:Nat)=>(x:Int)) x:=by
 unfold atU;split
 ·rw[List.getD_eq_getElem?_getD,List.getElem?_map];cases l[x.toNat]? with
  | none=>exact Int.le_refl _
  | some y=>exact Int.natCast_nonneg y
 ·exact Int.le_refl _
theorem xv {l:List Nat} (zs:List Int) (h:0<zs.length):0≤midV (reachL zs (l.map fun(x:Nat)=>(x:Int)) zs.length):=by
 have hm:=CQ (l:=reachL zs (l.map fun(x:Nat)=>(x:Int)) zs.length) (by rw[fj _ _ _ (Nat.le_refl _)];exact h);unfold reachL at hm ⊢;obtain⟨x,_,e⟩:=List.mem_map.1 hm;rw[←e];exact M0 x
section
variable {X P:Nat→Prop} {w w':World} {b:Nat} {n n':Nd} {q q':NV}
theorem PNs.reach [Old] (h:PNs X P w b n q) (hcf:0<n.conf.length∧n.conf.length≤12) (hpos:∀x∈n.conf,0≤x):Calls Tryz.prog 77 #[q.vc,.slice (some ⟨q.bm,0,none⟩) 16 q.cm] w fun e w'=>e=.returned (.int .u64 (n.reach:Nat))∧Fr (fun _ _=>True) w w':=by
 obtain⟨a,c,e⟩:=h.cf.form;have hc:=h.cf;rw[e] at hc;obtain⟨b1,off,rfl⟩:=hc.addr hcf.1;rw[e];refine(t8 w b1 off c _ n.conf _ hc (h.mt.nums (c:=q.cm)) (by rw[List.length_map,h.mt.1];unfold maxLen;decide) hcf.1 hcf.2 hpos).mono fun e w' ⟨h1,h2⟩=>⟨?_,?_⟩
 ·rw[h1];have:=xv (l:=n.mat) n.conf hcf.1;unfold Nd.reach;rw[Int.toNat_of_nonneg this]
 ·exact Fr.within (h2.mono fun c _ q=>q.2)
theorem Gj [Old] (h:PNs X P w b n q) (hr:n.role≠3) (hcf:0<n.conf.length∧n.conf.length≤12) (hpos:∀x∈n.conf,0≤x) (hl:n.log.last+1<18446744073709551616):
 zj Tryz.prog 25 #[.pointer (some ⟨b,0,none⟩)] w fun e w'=>e=.returned (.tuple #[])∧PNs X P w' b n.sure q∧Fr (fun c _=>c≠b) w w':=by
 have E:n.sure=n:=if_neg (fun e=>hr e.1);rw[E];have x2:=(h.cells (Fr.refl _ w)).2.2.1;obtain⟨ro,hro⟩:=zE n.role;rw[hro] at x2 hr;have g1:(ro==3)=false:=by simpa using hr
 have g2:(ro != 3)=true:=by rw[bne,g1];rfl
 have H:=zH h;clear h hr hro E hpos hl hcf;refine mV Tryz.func25 rfl ?_;simp only[Tryz.ntmps25,List.size_toArray,List.length_cons,List.length_nil,Nat.reduceAdd,Nat.reduceSub,Array.replicate_succ,Array.replicate_zero,List.push_toArray,List.append_toArray,List.nil_append,List.cons_append];go_wp2;(try simp only[Exit.inBlock,Exit.then]);refine bodyPost_ret (results_none rfl _ _ _) rfl ?_;exact⟨rfl,H.out,Fr.refl _ _⟩
theorem Gk [Old] (h:PNs X P w b n q) (hr:n.role=3) (hcf:0<n.conf.length∧n.conf.length≤12) (hpos:∀x∈n.conf,0≤x) (hl:n.log.last+1<18446744073709551616):
 zj Tryz.prog 25 #[.pointer (some ⟨b,0,none⟩)] w fun e w'=>e=.returned (.tuple #[])∧PNs X P w' b n.sure q∧Fr (fun c _=>c≠b) w w':=by
 obtain⟨ae,le,ce,hve,hle,hes,hlg⟩:=h.lg;have RC0:∀W,Fr (fun _ _=>True) w W→Calls Tryz.prog 77 #[q.vc,.slice (some ⟨q.bm,0,none⟩) 16 q.cm] W fun e w'=>e=.returned (.int .u64 (n.reach:Nat))∧Fr (fun _ _=>True) W w':=fun W f=>(h.tt f).reach hcf hpos
 obtain⟨bs,hbs⟩:=zE n.log.base;obtain⟨bt,hbt⟩:=zE n.log.bt;obtain⟨tm,htm⟩:=zE n.tm;obtain⟨cm,hcm⟩:=zE n.commit;obtain⟨bm,hbm⟩:=zE q.bm;obtain⟨km,hkm⟩:=zE q.cm;obtain⟨vc,hvc⟩:=zE q.vc;obtain⟨r,hrr⟩:=zE n.reach;obtain⟨pt,hpt⟩:=zE ((n.log.term r).1);obtain⟨pk,hpk⟩:=zE ((n.log.term r).2);have hl2:bs+le+1<18446744073709551616:=by unfold Lg.last at hl;omega
 rw[hvc,hbm,hkm,hrr] at RC0;have RC:=zH RC0;have TC:=zH (fun W (f:Fr (fun _ _=>True) w W)=>fK W bs bt r ae le ce q.es (hes W f).row (by omega));rw[show lgE bs bt q.es=n.log by rw[←hbs,←hbt];exact hlg,hpt,hpk] at TC
 have CC:Hid (∀W,Fr (fun _ _=>True) w W→W.cell? ⟨b,4,none⟩=some vc∧W.cell? ⟨b,6,none⟩=some (.int .u64 (tm:Nat))∧W.cell? ⟨b,7,none⟩=some (.int .u64 (cm:Nat))∧W.cell? ⟨b,8,none⟩=some (.int .u64 (bs:Nat))∧W.cell? ⟨b,9,none⟩=some (.int .u64 (bt:Nat))∧W.cell? ⟨b,10,none⟩=some (.slice ae le ce)∧W.cell? ⟨b,13,none⟩=some (.slice (some ⟨bm,0,none⟩) 16 km)):=fun W f=>by obtain⟨x0,x1,x2,x3,x4,x5,x6,x7,x8,x9,x10,x11,x12,x13⟩:=h.cells f;exact⟨by rw[x4,hvc],by rw[x6,htm],by rw[x7,hcm],by rw[x8,hbs],by rw[x9,hbt],by rw[x10,hve],by rw[x13,hbm,hkm]⟩
 have CON:(n.role=3∧n.log.term n.reach=(n.tm,true)∧n.commit<n.reach)↔(pk=true∧pt=tm∧cm<r):=by rw[hrr,htm,hcm,←hpk,←hpt,Prod.ext_iff];exact⟨fun e=>⟨e.2.1.2,e.2.1.1,e.2.2⟩,fun e=>⟨hr,⟨e.2.1,e.1⟩,e.2.2⟩⟩
 have hs1:n.sure=if n.role=3∧n.log.term n.reach=(n.tm,true)∧n.commit<n.reach then { n with commit:=n.reach } else n:=rfl
 rw[hrr] at hs1 CON;have H:=zH h;have x2:=(h.cells (Fr.refl _ w)).2.2.1;rw[hr] at x2;have UD:Hid (Fr (fun _ _=>True) w w.drew):=(Fr.refl _ _).drew;have HS:=zH hs1;have HC:=zH CON;clear h hr hpos hcf hl hve hle hes hlg RC0 hbs hbt htm hcm hbm hkm hvc hrr hpt hpk hl2 CON hs1;dsimp only[vL] at TC;refine mV Tryz.func25 rfl ?_;simp only[Tryz.ntmps25,List.size_toArray,List.length_cons,List.length_nil,Nat.reduceAdd,Nat.reduceSub,Array.replicate_succ,Array.replicate_zero,List.push_toArray,List.append_toArray,List.nil_append,List.cons_append];go_wp2_with fail
 clear x2;refine wy [(10,0),(11,1),(12,2),(13,3),(14,4),(15,5),(16,6),(17,7),(18,8),(2,9)] [(0,[]),(1,[0]),(2,[1]),(3,[2]),(4,[]),(5,[4]),(6,[5]),(7,[6]),(9,[8]),(8,[3,7])] (ckR [(0,.pointer (some ⟨b,0,none⟩)),(1,.pointer (some ⟨b,0,none⟩)),(2,.pointer (some ⟨b,4,none⟩)),(3,vc),(4,.pointer (some ⟨b,0,none⟩)),(5,.pointer (some ⟨b,0,none⟩)),(6,.pointer (some ⟨b,13,none⟩)),(7,.slice (some ⟨bm,0,none⟩) 16 km),(8,.int .u64 (r:Nat)),(9,.int .u64 (r:Nat))] [] 10 0) rfl ?cfall ?cfend
 case cfall=>
  iterate 9
   refine bV.q rfl rfl rfl (fun xs W HF hE K' hK=>?_) ?_
   ·simp only[ckEqs,ckLook,Nat.reduceBEq] at hE;simp only[fillA,fillL,sA,sB,sC,Act.put,hE] at hK ⊢;clear hE;obtain⟨y4,y6,y7,y8,y9,y10,y13⟩:=CC.out W (UD.out.trans HF.out);(try simp only[gA,gB,gC]);go_simp;exact hK.out _ rfl
  refine bV.p rfl rfl (fun xs W HF hA hE K' hK=>?_) ?_
  ·clear hA;simp only[ckEqs,ckLook,Nat.reduceBEq] at hE;simp only[fillA,fillL,sA,sB,sC,Act.put,hE] at hK ⊢;clear hE;have RC1:=zH (RC.out W (UD.out.trans HF.out));(try simp only[gA,gB,gC]);go_simp;(with_reducible refine RC1.out.mono ?_);rintro e w8 ⟨rfl,f8⟩;exact hK.out _ _ _ rfl f8 rfl
  exact bV.nil
 case cfend=>
  intro xs W hF hA;have HF:=zH hF;have hE:=b_ rfl hA;clear hA hF;simp only[List.map_cons,List.map_nil,ckEqs,ckLook,Nat.reduceBEq] at hE;simp only[fillA,fillL,sA,sB,sC,hE];clear hE;have FB:=zH (UD.out.trans HF.out);obtain⟨y4,y6,y7,y8,y9,y10,y13⟩:=CC.out W FB.out;clear RC HF;cases pk with
  | false=>
   have E:Hid (n.sure=n):=HS.out.trans (if_neg (fun e=>by have:=(HC.out.1 e).1;cases this));clear HS HC;go_wp2_with fail
   (with_reducible refine(TC.out W FB.out).mono ?_);rintro e wc ⟨rfl,f2⟩;have FC:=zH (FB.out.trans f2);clear TC f2 y4 y6 y7 y8 y9 y10 y13;obtain⟨y4,y6,y7,y8,y9,y10,y13⟩:=CC.out wc FC.out;go_wp2;go_end0;rw[E.out];exact⟨rfl,H.out.tt FC.out,FC.out.mono fun _ _ _=>trivial⟩
  | true=>
   by_cases he:pt=tm
   ·subst he;have g1:((pt:Int)==(pt:Int))=true:=by simp
    by_cases hlt:cm<r
    ·have g2:decide (cm<r)=true:=decide_eq_true hlt;have E:Hid (n.sure={ n with commit:=r }):=HS.out.trans (if_pos (HC.out.2 ⟨rfl,rfl,hlt⟩));clear HS HC hlt;go_wp2_with fail
     (with_reducible refine(TC.out W FB.out).mono ?_);rintro e wc ⟨rfl,f2⟩;have FC:=zH (FB.out.trans f2);clear TC f2 y4 y6 y7 y8 y9 y10 y13;obtain⟨y4,y6,y7,y8,y9,y10,y13⟩:=CC.out wc FC.out;have z7:=H.out.free FC.out 7;go_wp2;go_end0;rw[E.out];exact⟨rfl,(H.out.tt FC.out).re (bj b [(7,.int .u64 (r:Nat))] wc) (bz [(7,.int .u64 (r:Nat))] (FC.out.keep _ _ H.out.top trivial)) ⟨rfl,rfl⟩ (.inl ⟨rfl,rfl⟩) ⟨rfl,rfl,rfl⟩ ⟨rfl,rfl,rfl,rfl⟩,(FC.out.mono fun _ _ _=>trivial).trans (bj b [(7,.int .u64 (r:Nat))] wc)⟩
    ·have g2:decide (cm<r)=false:=decide_eq_false hlt;have E:Hid (n.sure=n):=HS.out.trans (if_neg (fun e=>hlt (HC.out.1 e).2.2));clear HS HC hlt;go_wp2_with fail
     (with_reducible refine(TC.out W FB.out).mono ?_);rintro e wc ⟨rfl,f2⟩;have FC:=zH (FB.out.trans f2);clear TC f2 y4 y6 y7 y8 y9 y10 y13;obtain⟨y4,y6,y7,y8,y9,y10,y13⟩:=CC.out wc FC.out;go_wp2;go_end0;rw[E.out];exact⟨rfl,H.out.tt FC.out,FC.out.mono fun _ _ _=>trivial⟩
   ·have g1:((pt:Int)==(tm:Int))=false:=by simp;omega
    have E:Hid (n.sure=n):=HS.out.trans (if_neg (fun e=>he (HC.out.1 e).2.1));clear HS HC he;go_wp2_with fail
    (with_reducible refine(TC.out W FB.out).mono ?_);rintro e wc ⟨rfl,f2⟩;have FC:=zH (FB.out.trans f2);clear TC f2 y4 y6 y7 y8 y9 y10 y13;obtain⟨y4,y6,y7,y8,y9,y10,y13⟩:=CC.out wc FC.out;go_wp2;go_end0;rw[E.out];exact⟨rfl,H.out.tt FC.out,FC.out.mono fun _ _ _=>trivial⟩
theorem xJ [Old] (h:PNs X P w b n q) (hcf:0<n.conf.length∧n.conf.length≤12) (hpos:∀x∈n.conf,0≤x) (hl:n.log.last+1<18446744073709551616):
 zj Tryz.prog 25 #[.pointer (some ⟨b,0,none⟩)] w fun e w'=>e=.returned (.tuple #[])∧PNs X P w' b n.sure q∧Fr (fun c _=>c≠b) w w':=by
 by_cases hr:n.role=3
 ·exact Gk h hr hcf hpos hl
 ·exact Gj h hr hcf hpos hl
end
theorem RowU.numsK {w:World} {B:Nat} {v:Value} {zs:List Int} (h:RowU w B v zs):NumsAt .u64 (fun b _=>B≤b) w v zs:=by
 obtain⟨a,c,rfl⟩:=h.form;refine⟨a,c,rfl,?_⟩;by_cases h0:0<zs.length
 ·obtain⟨g,cap,e,hB,hlt,hh⟩:=h.parts h0;cases e;obtain⟨cur,hg⟩:=bw h (c:=g) rfl;refine .inr ⟨g,0,_,rfl,hg,hB,fun i hi=>?_⟩;have:=(hh i (by simpa using hi)).1;simpa [hi] using this
 ·exact .inl (List.length_eq_zero_iff.1 (by omega))
section
variable {X:Nat→Prop} {w w':World} {b:Nat} {n n':Nd} {q q':DV}
theorem DNs.reach [Old] (h:DNs X w b n q) (hcf:0<n.conf.length∧n.conf.length≤12) (hpos:∀x∈n.conf,0≤x∧x≤15) {K:Nat→Obj→Prop} (vm:Value) (hm:NumsAt .u64 K w vm (n.mat.map fun(x:Nat)=>(x:Int))):Calls Tryz.prog 78 #[q.vc,vm] w fun e w'=>e=.returned (.int .u64 (n.reach:Nat))∧w=w':=by
 obtain⟨a,c,e⟩:=h.cf.form;have hc:=h.cf;rw[e] at hc;obtain⟨b1,off,rfl⟩:=hc.addr hcf.1;rw[e];refine(qk w b1 off c vm n.conf _ hc hm (by rw[List.length_map,h.ml];unfold maxLen;decide) hcf.2 hpos).mono fun e w' ⟨h1,h2⟩=>⟨?_,h2⟩
 have hp:=xv (l:=n.mat) n.conf hcf.1
 have hb:bestK (reachL n.conf (n.mat.map fun(x:Nat)=>(x:Int)) n.conf.length) n.conf.length=midV (reachL n.conf (n.mat.map fun(x:Nat)=>(x:Int)) n.conf.length):=by
  have hlen:=fj n.conf (n.mat.map fun(x:Nat)=>(x:Int)) n.conf.length (Nat.le_refl _)
  have:=best_eq (l:=reachL n.conf (n.mat.map fun(x:Nat)=>(x:Int)) n.conf.length) (by omega) (fun x hx=>by unfold reachL at hx;obtain⟨y,_,e⟩:=List.mem_map.1 hx;rw[←e];exact M0 y)
  rw[hlen] at this;exact this
 rw[h1,hb];unfold Nd.reach;rw[Int.toNat_of_nonneg hp]
theorem pq [Old] (h:DNs X w b n q) (hcf:0<n.conf.length∧n.conf.length≤12) (hpos:∀x∈n.conf,0≤x∧x≤15) (hl:n.log.last+1<18446744073709551616) (hle:n.log.es.length≤900000):
 Calls Tryz.prog 26 #[.pointer (some ⟨b,0,none⟩)] w fun e w'=>e=.returned (.tuple #[])∧DNs X w' b n.sure q∧Fr (fun c _=>c≠b) w w':=by
 have H:=zH h;obtain⟨-,-,x2,-,-,-,-,-,-,-,-,-⟩:=h.cells (Fr.refl _ w);by_cases hr:n.role=3
 rotate_left
 ·have E:Hid (n.sure=n):=if_neg (fun e=>hr e.1);obtain⟨ro,hro⟩:=zE n.role;rw[hro] at x2 hr;have g1:(ro==3)=false:=by simpa using hr
  have g2:(ro != 3)=true:=by rw[bne,g1];rfl
  clear h hr hro hcf hpos hl hle;go_enter Tryz.func26,Tryz.ntmps26
  go_wp2;(try simp only[Exit.inBlock,Exit.then]);refine bodyPost_ret (results_none rfl _ _ _) rfl ?_;rw[E.out];exact⟨rfl,H.out,Fr.refl _ _⟩
 ·rw[hr] at x2;have HML:Hid (n.mat.length=16):=h.ml;have MC:Hid (∀W,Fr (fun _ _=>True) w W→∀k,k<16→W.cell? ⟨b,28+k,none⟩=some (.int .u64 (n.mat.getD k 0:Nat))):=fun W f k hk=>h.mtc f k hk
  have HC:=zH (And.intro hcf (And.intro hpos (And.intro hl (And.intro hle hr))));have RR:Hid (∀W,Fr (fun _ _=>True) w W→W.cell? ⟨b,2,none⟩=some (.int .i64 3)):=fun W f=>by rw[(h.cells f).2.2.1,hr]
  clear h hcf hpos hl hle hr;go_enter Tryz.func26,Tryz.ntmps26
  go_wp2;go_loopw [2,3] (fun o i wr=>∃(k:Nat) (g:Option Addr) (c:Nat),i=.int .i64 (k:Nat)∧k≤16∧o=.slice g k c∧Hid (RowU wr w.heap.size (.slice g k c) ((n.mat.take k).map fun(x:Nat)=>(x:Int)))∧Hid (Fr (fun _ _=>True) w wr)) (fun _ i _=>16-(intOf i).toNat)
  case atStart=>exact⟨0,none,0,rfl,Nat.zero_le _,rfl,RowU.nil _ _,Fr.refl _ _⟩
  case round=>
   obtain⟨k,g,c,rfl,hk,rfl,HO,HF⟩:=hrel;by_cases hlt:k<16
   ·have hltI:(k:Int)<16:=by omega
    have k0:(0:Int)≤(k:Int):=by omega
    have m0:=MC.out wr HF.out k hlt;obtain⟨y,hy⟩:=zE (n.mat.getD k 0);rw[hy] at m0
    have HR:Hid ((n.mat.take k).map (fun(x:Nat)=>(x:Int))++[((y:Nat):Int)]=(n.mat.take (k+1)).map fun(x:Nat)=>(x:Int)):=by
     show _=_;have hlt2:k<n.mat.length:=by rw[HML.out];exact hlt
     rw[List.take_succ_eq_append_getElem hlt2,List.map_append,←hy,List.getD_eq_getElem?_getD,List.getElem?_eq_getElem hlt2];rfl
    have HN:Hid (((n.mat.take (k+1)).map fun(x:Nat)=>(x:Int)).length=k+1):=by show _=_;rw[List.length_map,List.length_take,HML.out];omega
    obtain⟨ML,hML⟩:=zE (((n.mat.take (k+1)).map fun(x:Nat)=>(x:Int)));rw[hML] at HR HN;have HMM:=zH hML;clear hy hML;go_wp2_with (at_builtin;refine d8 w wr (y:Nat) HF rfl _ _ rfl (.slice g k c) _ rfl HO rfl _ HR (by have:=HN.out;omega) ?_)
    intro a1 c1 w1 O1 F1;rw[HN.out] at O1 ⊢;go_wp2;go_roundw
    case rel=>exact⟨k+1,a1,c1,by go_num,by omega,rfl,by rw[HMM.out];exact O1.out,F1.out⟩
    case measure=>simp [intOf];omega
   ·have hge:¬(k:Int)<16:=by omega
    have hk16:k=16:=by omega
    subst hk16
    have HO2:Hid (RowU wr w.heap.size (.slice g 16 c) (n.mat.map fun(x:Nat)=>(x:Int))):=by have:=HO.out;rw[List.take_of_length_le (by rw[HML.out];exact Nat.le_refl _)] at this;exact this
    have HW:=zH (H.out.tt HF.out);have RC0:=HW.out.reach HC.out.1 HC.out.2.1 (.slice g 16 c) HO2.out.numsK
    obtain⟨ae,ce,hve,hrow⟩:∃a c',q.ve=.slice a q.es.length c'∧RowsAt (RO X) wr (.slice a q.es.length c') 3 encE q.es:=by obtain⟨a,c',e,_⟩:=HW.out.ev.row.form;exact⟨a,c',e,by rw[←e];exact HW.out.ev.row⟩
    obtain⟨le,hle⟩:=zE q.es.length;rw[hle] at hve hrow;have hel:=H.out.esl;obtain⟨r,hrr⟩:=zE n.reach;obtain⟨bs,hbs⟩:=zE n.log.base;obtain⟨bt,hbt⟩:=zE n.log.bt;obtain⟨tm,htm⟩:=zE n.tm;obtain⟨cm,hcm⟩:=zE n.commit;obtain⟨vc,hvc⟩:=zE q.vc;obtain⟨pt,hpt⟩:=zE ((n.log.term r).1);obtain⟨pk,hpk⟩:=zE ((n.log.term r).2);have hlg:lgE bs bt q.es=n.log:=by unfold lgE;rw[←hbs,←hbt,←H.out.ee]
    have hl2:bs+le<18446744073709551616:=by have:=HC.out.2.2.1;unfold Lg.last at this;omega
    have hle2:le≤2000000:=by have:=HC.out.2.2.2.1;omega
    have TC:=zH (fun W (f:Fr (fun _ _=>True) wr W)=>gZ W bs bt r ae le ce q.es (hrow.tt f) hl2 hle2);rw[hlg,hpt,hpk] at TC;dsimp only[vL9] at TC;rw[hrr,hvc] at RC0;have RC:=zH RC0
    have CON:(n.role=3∧n.log.term n.reach=(n.tm,true)∧n.commit<n.reach)↔(pk=true∧pt=tm∧cm<r):=by rw[hrr,htm,hcm,←hpk,←hpt,Prod.ext_iff];exact⟨fun e=>⟨e.2.1.2,e.2.1.1,e.2.2⟩,fun e=>⟨HC.out.2.2.2.2,⟨e.2.1,e.1⟩,e.2.2⟩⟩
    have hs1:n.sure=if n.role=3∧n.log.term n.reach=(n.tm,true)∧n.commit<n.reach then { n with commit:=n.reach } else n:=rfl
    rw[hrr] at hs1 CON;have HS:=zH hs1;have HCC:=zH CON
    have CD:Hid (∀W,Fr (fun _ _=>True) wr W→W.cell? ⟨b,4,none⟩=some vc∧W.cell? ⟨b,6,none⟩=some (.int .u64 (tm:Nat))∧W.cell? ⟨b,7,none⟩=some (.int .u64 (cm:Nat))∧W.cell? ⟨b,8,none⟩=some (.int .u64 (bs:Nat))∧W.cell? ⟨b,9,none⟩=some (.int .u64 (bt:Nat))∧W.cell? ⟨b,10,none⟩=some (.slice ae le ce)):=fun W f=>by obtain⟨x0,x1,x2,x3,x4,x5,x6,x7,x8,x9,x10,x11⟩:=HW.out.cells f;exact⟨by rw[x4,hvc],by rw[x6,htm],by rw[x7,hcm],by rw[x8,hbs],by rw[x9,hbt],by rw[x10,hve]⟩
    obtain⟨y4,y6,y7,y8,y9,y10⟩:=CD.out wr (Fr.refl _ _);clear RC0 hve hrow hle hel hrr hbs hbt htm hcm hvc hpt hpk hlg hl2 hle2 CON hs1 x2;go_wp2_with fail
    (with_reducible refine RC.out.mono ?_);rintro e w1 ⟨rfl,rfl⟩;clear RC;go_wp2_with fail
    (with_reducible refine(TC.out _ (Fr.refl _ _)).mono ?_);rintro e w2 ⟨rfl,f2⟩;have F2:=zH f2;have FE:=zH (HF.out.trans f2);have H2:=zH (HW.out.tt f2);clear TC f2 y4 y6 y7 y8 y9 y10;obtain⟨y4,y6,y7,y8,y9,y10⟩:=CD.out w2 F2.out;by_cases hlt:cm<r
    ·have g2:decide (cm<r)=true:=decide_eq_true hlt;cases pk with
     | false=>
      have E:Hid (n.sure=n):=HS.out.trans (if_neg (fun e=>by have:=(HCC.out.1 e).1;cases this));clear HS HCC hlt;go_wp2;go_end0;rw[E.out];exact⟨rfl,H2.out,FE.out.mono fun _ _ _=>trivial⟩
     | true=>
      by_cases he:pt=tm
      ·subst he;have g1:((pt:Int)==(pt:Int))=true:=by simp
       have E:Hid (n.sure={ n with commit:=r }):=HS.out.trans (if_pos (HCC.out.2 ⟨rfl,rfl,hlt⟩));have z7:=H2.out.free (Fr.refl _ w2) 7;clear HS HCC hlt;go_wp2;go_end0;rw[E.out];exact⟨rfl,H2.out.re (bj b [(7,.int .u64 (r:Nat))] w2) (bz [(7,.int .u64 (r:Nat))] H2.out.top) ⟨rfl,rfl⟩ (H2.out.ye.aft (H2.out.own (bj b [(7,.int .u64 (r:Nat))] w2))) ⟨H2.out.ee,H2.out.ev.aft (H2.out.own (bj b [(7,.int .u64 (r:Nat))] w2))⟩ ⟨H2.out.nl,H2.out.ml⟩,(FE.out.mono fun _ _ _=>trivial).trans (bj b [(7,.int .u64 (r:Nat))] w2)⟩
      ·have g1:((pt:Int)==(tm:Int))=false:=by simp;omega
       have E:Hid (n.sure=n):=HS.out.trans (if_neg (fun e=>he (HCC.out.1 e).2.1));clear HS HCC hlt he;go_wp2;go_end0;rw[E.out];exact⟨rfl,H2.out,FE.out.mono fun _ _ _=>trivial⟩
    ·have g2:decide (cm<r)=false:=decide_eq_false hlt;have E:Hid (n.sure=n):=HS.out.trans (if_neg (fun e=>hlt (HCC.out.1 e).2.2));clear HS HCC hlt;go_wp2;go_end0;rw[E.out];exact⟨rfl,H2.out,FE.out.mono fun _ _ _=>trivial⟩
end
section
variable {X:Nat→Prop} {w w':World} {b:Nat} {n n':Nd} {q q':DV}
theorem DNs.msg [Old] (h:DNs X w b n q) {g:Nat} (hf:Fr (fun c _=>c≠g) w w') (hg:∃cs fz,w.heap[g]? = some (.cells cs 32 fz)) (hgo:b<g):DNs X w' b n q:=by
 obtain⟨cs,fz,hg⟩:=hg
 have ro:∀c o,w.heap[c]? = some o→RO X c o→c≠g:=fun c o ho hr e=>by subst e;rw[hg] at ho;cases ho;exact hr.ne (fun q=>by have:=h.od _ q;omega) rfl (by decide)
 have ints:∀{v:Value} {zs:List Int},IntsAt (RO X) w v zs→IntsAt (RO X) w' v zs:=fun hi=>((hi.mono3 (K':=fun c o=>RO X c o∧c≠g) fun c o ho hr=>⟨hr,ro c o ho hr⟩).fr hf fun c o q=>q.2).mono fun c o q=>q.1
 exact⟨hf.keep _ _ h.top (fun e=>by have:=h.top;rw[e,hg] at this;cases this),ints h.cf,ints h.ye,h.ev.fr hf ro,h.ee,h.nl,h.ml,h.xb,fun c hc=>Nat.lt_of_lt_of_le (h.hx c hc) hf.size,h.od⟩
theorem Jj [Old] (h:DNs X w b n q) (x:Int) (hr:n.role≠3) (hnx:∀y∈n.next,y<18446744073709551616) (hl:n.log.last+1<18446744073709551616) (hle:n.log.es.length≤900000):
 Calls Tryz.prog 17 #[.pointer (some ⟨b,0,none⟩),.int .i64 x] w fun e w'=>jj X w (n.sendTo x) e w':=by
 have E:n.sendTo x=[]:=if_pos (.inl hr);rw[E];have x2:=(h.cells (Fr.refl _ w)).2.2.1;obtain⟨ro,hro⟩:=zE n.role;rw[hro] at x2 hr;have g1:(ro==3)=false:=by simpa using hr
 have g2:(ro != 3)=true:=by rw[bne,g1];rfl
 clear h hr hro E hnx hl hle;go_enter Tryz.func17,Tryz.ntmps17
 go_wp2;go_ret;exact jj.none (Fr.refl _ _)
theorem Jk [Old] (h:DNs X w b n q) (x:Int) (hr:n.role=3) (hx:x=n.me) (hnx:∀y∈n.next,y<18446744073709551616) (hl:n.log.last+1<18446744073709551616) (hle:n.log.es.length≤900000):
 Calls Tryz.prog 17 #[.pointer (some ⟨b,0,none⟩),.int .i64 x] w fun e w'=>jj X w (n.sendTo x) e w':=by
 have E:n.sendTo x=[]:=if_pos (.inr (.inl hx));rw[E];have x2:=(h.cells (Fr.refl _ w)).2.2.1;have x0:=(h.cells (Fr.refl _ w)).1;rw[hr] at x2;rw[←hx] at x0;clear h hr hx E hnx hl hle;go_enter Tryz.func17,Tryz.ntmps17
 go_wp2;go_ret;exact jj.none (Fr.refl _ _)
theorem Jv [Old] (h:DNs X w b n q) (x:Int) (hr:n.role=3) (hx:x≠n.me) (h16:x<0) (hnx:∀y∈n.next,y<18446744073709551616) (hl:n.log.last+1<18446744073709551616) (hle:n.log.es.length≤900000):
 Calls Tryz.prog 17 #[.pointer (some ⟨b,0,none⟩),.int .i64 x] w fun e w'=>jj X w (n.sendTo x) e w':=by
 have E:n.sendTo x=[]:=if_pos (.inr (.inr (.inl h16)));rw[E];have x2:=(h.cells (Fr.refl _ w)).2.2.1;have x0:=(h.cells (Fr.refl _ w)).1;obtain⟨me,hme⟩:=zE n.me;rw[hr] at x2;rw[hme] at x0 hx;have g1:(x==me)=false:=by simpa using hx
 clear h hr hx E hme hnx hl hle;go_enter Tryz.func17,Tryz.ntmps17
 go_wp2;go_ret;exact jj.none (Fr.refl _ _)
theorem Jw [Old] (h:DNs X w b n q) (x:Int) (hr:n.role=3) (hx:x≠n.me) (h0:¬x<0) (h16:15<x) (hnx:∀y∈n.next,y<18446744073709551616) (hl:n.log.last+1<18446744073709551616) (hle:n.log.es.length≤900000):
 Calls Tryz.prog 17 #[.pointer (some ⟨b,0,none⟩),.int .i64 x] w fun e w'=>jj X w (n.sendTo x) e w':=by
 have E:n.sendTo x=[]:=if_pos (.inr (.inr (.inr (.inl h16))));rw[E];have x2:=(h.cells (Fr.refl _ w)).2.2.1;have x0:=(h.cells (Fr.refl _ w)).1;obtain⟨me,hme⟩:=zE n.me;rw[hr] at x2;rw[hme] at x0 hx;have g1:(x==me)=false:=by simpa using hx
 clear h hr hx E hme hnx hl hle;go_enter Tryz.func17,Tryz.ntmps17
 go_wp2;go_ret;exact jj.none (Fr.refl _ _)
theorem J_ [Old] (h:DNs X w b n q) (t:Nat) (ht:t<16) (hr:n.role=3) (hx:((t:Nat):Int)≠n.me) (hb:n.next.getD t 0≤n.log.base) (hnx:∀y∈n.next,y<18446744073709551616) (hl:n.log.last+1<18446744073709551616) (hle:n.log.es.length≤900000):
 Calls Tryz.prog 17 #[.pointer (some ⟨b,0,none⟩),.int .i64 (t:Nat)] w fun e w'=>jj X w (n.sendTo (t:Nat)) e w':=by
 have E:n.sendTo (t:Nat)=[]:=if_pos (.inr (.inr (.inr (.inr hb))));rw[E];obtain⟨me,hme⟩:=zE n.me;have H:=zH h;rw[hme] at hx;have g1:(((t:Nat):Int)==me)=false:=by simpa using hx
 have ht0:¬((t:Nat):Int)<0:=by omega
 have ht15:¬(15:Int)<((t:Nat):Int):=by omega
 have ht16:((t:Nat):Int)<16:=by omega
 have x2:=(h.cells (Fr.refl _ w)).2.2.1;have x0:=(h.cells (Fr.refl _ w)).1;have x8:=(h.cells (Fr.refl _ w)).2.2.2.2.2.2.2.2.1;have z:=h.nxt (Fr.refl _ w) t ht;rw[hr] at x2;rw[hme] at x0;obtain⟨bs,hbs⟩:=zE n.log.base;obtain⟨nt,hnt⟩:=zE (n.next.getD t 0);rw[hbs] at x8;rw[hnt] at z;rw[hbs,hnt] at hb;have g2:decide (nt≤bs)=true:=decide_eq_true hb;clear h hr hx E hme hnx hl hle hb ht hbs hnt;go_enter Tryz.func17,Tryz.ntmps17
 go_wp2_with fail
 go_quiet (fail)
 go_wp2;go_ret;exact jj.none ((Fr.refl _ _).drewN _)
theorem Jy [Old] (h:DNs X w b n q) (t:Nat) (ht:t<16) (hr:n.role=3) (hx:((t:Nat):Int)≠n.me) (hb:¬n.next.getD t 0≤n.log.base) (hnx:∀y∈n.next,y<18446744073709551616) (hl:n.log.last+1<18446744073709551616) (hle:n.log.es.length≤900000):
 Calls Tryz.prog 17 #[.pointer (some ⟨b,0,none⟩),.int .i64 (t:Nat)] w fun e w'=>jj X w (n.sendTo (t:Nat)) e w':=by
 obtain⟨me,hme⟩:=zE n.me;have H:=zH h;rw[hme] at hx;have g1:(((t:Nat):Int)==me)=false:=by simpa using hx
 have ht0:¬((t:Nat):Int)<0:=by omega
 have ht15:¬(15:Int)<((t:Nat):Int):=by omega
 have ht16:((t:Nat):Int)<16:=by omega
 have x2:=(h.cells (Fr.refl _ w)).2.2.1;have x0:=(h.cells (Fr.refl _ w)).1;have x8:=(h.cells (Fr.refl _ w)).2.2.2.2.2.2.2.2.1;have z:=h.nxt (Fr.refl _ w) t ht;rw[hr] at x2;rw[hme] at x0;obtain⟨bs,hbs⟩:=zE n.log.base;obtain⟨nt,hnt⟩:=zE (n.next.getD t 0);rw[hbs] at x8;rw[hnt] at z;rw[hbs,hnt] at hb;have g2:decide (nt≤bs)=false:=decide_eq_false hb;obtain⟨bt,hbt⟩:=zE n.log.bt;obtain⟨tm,htm⟩:=zE n.tm;obtain⟨cm,hcm⟩:=zE n.commit;obtain⟨pv,hpv⟩:=zE (nt-1);obtain⟨pt,hpt⟩:=zE ((n.log.term pv).1);obtain⟨pk,hpk⟩:=zE ((n.log.term pv).2);obtain⟨SL,hSL⟩:=zE (n.log.slice nt 8)
 have hn64:nt<18446744073709551616:=by rw[←hnt,List.getD_eq_getElem?_getD,List.getElem?_eq_getElem (by have:=h.nl;omega)];exact hnx _ (List.getElem_mem _)
 obtain⟨ae,ce,hve⟩:∃a c',q.ve=.slice a q.es.length c':=by obtain⟨a,c',e,_⟩:=h.ev.row.form;exact⟨a,c',e⟩
 obtain⟨le,hlel⟩:=zE q.es.length;rw[hlel] at hve;have hel:=h.esl;have hlg:lgE bs bt q.es=n.log:=by unfold lgE;rw[←hbs,←hbt,←h.ee]
 have hl2:bs+le+1<18446744073709551616:=by unfold Lg.last at hl;omega
 have OUT:Hid (n.sendTo (t:Nat)=[{ zMs with kind:=5,src:=me,dst:=(t:Nat),tm:=tm,index:=pv,prev:=pt,commit:=cm,es:=SL }]):=by
  show n.sendTo (t:Nat)=_
  have e:n.sendTo (t:Nat)=[{ zMs with kind:=5,src:=n.me,dst:=(t:Nat),tm:=n.tm,index:=n.next.getD t 0-1,prev:=(n.log.term (n.next.getD t 0-1)).1,commit:=n.commit,es:=n.log.slice (n.next.getD t 0) 8 }]:=if_neg (by
   show ¬(n.role≠3∨((t:Nat):Int)=n.me∨((t:Nat):Int)<0∨15<((t:Nat):Int)∨n.next.getD t 0≤n.log.base);rw[hnt,hbs,hme];rintro(e | e | e | e | e)
   ·exact e hr
   ·exact hx e
   ·omega
   ·omega
   ·exact hb e)
  rw[e,hnt,hpv,hpt,hSL,hme,htm,hcm]
 have TC:=zH (fun W (hw:DNs X W b n q)=>gZ W bs bt pv ae le ce q.es (by have:=hw.ev.row;rw[hve] at this;exact this) (by omega) (by omega));rw[hlg,hpt,hpk] at TC
 have hsl:(if bs<nt then(q.es.drop (nt-bs-1)).take 8 else[]).map EV.en=SL:=by
  rw[←hSL,←hlg];unfold Lg.slice Lg.has Lg.last;simp only[List.length_map];rw[if_pos (by omega)];by_cases e:nt≤bs+q.es.length
  ·rw[if_pos (by simp;omega),List.map_take,List.map_drop]
  ·rw[if_neg (by simp;omega),List.drop_of_length_le (by omega)];rfl
 have SLC:Hid (∀W,DNs X W b n q→Calls Tryz.prog 69 #[.agg #[.int .u64 (bs:Nat),.int .u64 (bt:Nat),.slice ae le ce],.int .u64 (nt:Nat),.int .i64 8] W fun e w'=>(∃a' c' ys,e=.returned (.slice a' ys.length c')∧EsAt X w' (.slice a' ys.length c') ys∧ys.map EV.en=SL)∧Fr (fun _ _=>True) W w'):=fun W hw=>
  (yW W bs bt nt 8 ae le ce q.es (by have:=hw.ev;rw[hve] at this;exact this) (by omega) (by decide) (by omega) hn64 hw.hx).mono fun e w' ⟨⟨a',c',h1,h2⟩,h3⟩=>⟨⟨a',c',_,h1,h2,hsl⟩,h3⟩
 have CC:Hid (∀W W',DNs X W b n q→Fr (fun _ _=>True) W W'→W'.cell? ⟨b,0,none⟩=some (.int .i64 me)∧W'.cell? ⟨b,6,none⟩=some (.int .u64 (tm:Nat))∧W'.cell? ⟨b,7,none⟩=some (.int .u64 (cm:Nat))∧W'.cell? ⟨b,8,none⟩=some (.int .u64 (bs:Nat))∧W'.cell? ⟨b,9,none⟩=some (.int .u64 (bt:Nat))∧W'.cell? ⟨b,10,none⟩=some (.slice ae le ce)∧W'.cell? ⟨b,12+t,none⟩=some (.int .u64 (nt:Nat))):=fun W W' hw f=>by obtain⟨x0,x1,x2,x3,x4,x5,x6,x7,x8,x9,x10,x11⟩:=hw.cells f;exact⟨by rw[x0,hme],by rw[x6,htm],by rw[x7,hcm],by rw[x8,hbs],by rw[x9,hbt],by rw[x10,hve],by rw[hw.nxt f t ht,hnt]⟩
 have w1:IntKind.u64.wrap ((nt:Int)-1)=((pv:Nat):Int):=by rw[IntKind.wrap_u64];omega
 clear h hr hx hme hnx hl hle hb hve hlel hel hlg hbs hbt htm hcm hnt hpv hpt hpk hSL hsl hn64 hl2 ht;dsimp only[vL9] at TC;go_enter Tryz.func17,Tryz.ntmps17
 go_wp2_with fail
 go_quiet (fail)
 clear x0 x2 x8 z;have UD:Hid (Fr (fun _ _=>True) w (w.drewN nq).drew):=((Fr.refl _ w).drewN nq).drew;go_wp2_with fail
 refine wpR [(41,0),(42,1),(43,2),(44,3),(45,4),(46,5),(47,6),(48,7),(49,8),(50,9),(51,10),(52,11),(53,12),(54,13),(55,14),(56,15),(57,16),(58,17),(59,18),(60,19),(61,20),(5,21)] [(0,[]),(1,[0]),(2,[1]),(3,[2]),(4,[]),(5,[]),(6,[5]),(7,[6]),(8,[7]),(9,[]),(10,[]),(11,[9]),(12,[11]),(13,[10,12]),(14,[13]),(15,[14]),(16,[]),(17,[16]),(18,[17]),(19,[18]),(20,[3,4,8,15,19]),(21,[])] (ckR [(0,.pointer (some ⟨b,0,none⟩)),(1,.pointer (some ⟨b,0,none⟩)),(2,.pointer (some ⟨b,0,none⟩)),(3,.int .i64 me),(4,.int .i64 (t:Nat)),(5,.pointer (some ⟨b,0,none⟩)),(6,.pointer (some ⟨b,0,none⟩)),(7,.pointer (some ⟨b,6,none⟩)),(8,.int .u64 (tm:Nat)),(9,.pointer (some ⟨b,0,none⟩)),(10,.int .i64 (t:Nat)),(11,.pointer (some ⟨b,0,none⟩)),(12,.pointer (some ⟨b,12,none⟩)),(13,.pointer (some ⟨b,12+t,none⟩)),(14,.int .u64 (nt:Nat)),(15,.int .u64 (pv:Nat)),(16,.pointer (some ⟨b,0,none⟩)),(17,.pointer (some ⟨b,0,none⟩)),(18,.pointer (some ⟨b,7,none⟩)),(19,.int .u64 (cm:Nat)),(20,.agg #[.int .i64 5,.int .i64 me,.int .i64 (t:Nat),.int .u64 (tm:Nat),.int .u64 (pv:Nat),.int .u64 0,.int .u64 (cm:Nat),.bool false,.slice none 0 0,.slice none 0 0])] [(21,⟨fun v W=>∃g,v=.pointer (some ⟨g,0,none⟩)∧w.heap.size≤g∧W.heap[g]? = some (.cells (cM zMV) 32 (0,0)),fun v W W' h hf=>by obtain⟨g,h1,h2,h3⟩:=h;exact⟨g,h1,h2,hf.keep _ _ h3 trivial⟩⟩)] 22 0) 1 rfl ?cfall ?cfend
 case cfall=>
  iterate 21
   refine bV.q rfl rfl rfl (fun xs W HF hE K' hK=>?_) ?_
   ·simp only[ckEqs,ckLook,Nat.reduceBEq] at hE;simp only[fillA,fillL,sA,sB,sC,Act.put,hE] at hK ⊢;clear hE;obtain⟨y0,y6,y7,y8,y9,y10,z⟩:=CC.out w W H.out (UD.out.trans HF.out);(try simp only[gA,gB,gC]);go_simp;exact hK.out _ rfl
  refine bV.p rfl rfl (fun xs W HF hA hE K' hK=>?_) ?_
  ·clear hA;simp only[ckEqs,ckLook,Nat.reduceBEq] at hE;simp only[fillA,fillL,sA,sB,sC,Act.put,hE] at hK ⊢;clear hE;have SB:Hid (w.heap.size≤W.heap.size):=(UD.out.trans HF.out).size;(try simp only[gA,gB,gC]);go_simp;exact hK.out _ _ _ rfl ((Fr.refl _ _).alloc _) ⟨_,rfl,SB.out,bX _ _⟩
  exact bV.nil
 case cfend=>
  intro xs W hF hA;have HF:=zH hF;have hE:=b_ rfl hA;have h21:=hA (21,[]) (by decide);clear hA hF;simp only[List.map_cons,List.map_nil,ckEqs,ckLook,Nat.reduceBEq] at hE;simp only[fillA,fillL,sA,sB,sC,hE];clear hE;obtain⟨g,e21,hgw,tg⟩:=h21;rw[e21];have HGW:=zH hgw;have FW:=zH (UD.out.trans HF.out);obtain⟨m0,hm0⟩:∃m:MV,(⟨5,me,(t:Nat),tm,pv,0,cm,false,none,0,[],none,0,[]⟩:MV)=m:=⟨_,rfl⟩
  obtain⟨W2,hW2',t2,f2⟩:=BW tg (.int .i64 5) (.int .i64 me) (.int .i64 (t:Nat)) (.int .u64 (tm:Nat)) (.int .u64 (pv:Nat)) (.int .u64 0) (.int .u64 (cm:Nat)) (.bool false) (.slice none 0 0) (.slice none 0 0);have T2:Hid (W2.heap[g]? = some (.cells (cM m0) 32 (0,0))):=by rw[←hm0];exact t2
  have HM0:=zH hm0;have H2:=zH ((H.out.tt FW.out).msg f2 ⟨_,_,tg⟩ (by have:=bZ H.out.top;have:=HGW.out;omega));have F2:Hid (Fr (fun _ _=>True) w W2):=Fr.within ((FW.out.mono fun _ _ _=>trivial:Fr (fun c _=>True∧c<w.heap.size) w W).trans (f2.mono fun c _ h e=>by have:=h.2;have:=HGW.out;omega));have U2:Hid (Fr (fun _ _=>True) W2 W2.drew):=(Fr.refl _ _).drew;obtain⟨v0,v1,v2,v3,v4,v5,v6,v7,v8,v9⟩:=bq tg;have z0:=bJ (i:=0) tg;have z1:=bJ (i:=1) tg;have z2:=bJ (i:=2) tg;have z3:=bJ (i:=3) tg;have z4:=bJ (i:=4) tg;have z5:=bJ (i:=5) tg;have z6:=bJ (i:=6) tg;have z7:=bJ (i:=7) tg;have z8:=bJ (i:=8) tg;have z9:=bJ (i:=9) tg;clear t2 f2 hm0 hgw w1;refine wpN 22 rfl fun K' hK=>?_
  (try simp only[gA,gB,gC]);go_simp;refine hK.out _ _ ?_;clear hK K';refine wpF ?_
  try rw[hW2']
  clear z0 z1 z2 z3 z4 z5 z6 z7 z8 z9 v0 v1 v2 v3 v4 v5 v6 v7 v8 v9 hW2' tg;obtain⟨WA,hWA⟩:=zE W;rw[hWA] at HF FW;clear hWA;go_wp2_with fail
  refine jZ (K:=fun _ _=>True) (by kernel_rfl) [(63,0),(64,1),(65,2),(66,3),(67,4),(68,5),(69,6),(62,7),(70,8),(71,9),(6,10),(7,11)] [(0,[]),(1,[0]),(2,[1]),(3,[2]),(4,[]),(5,[4]),(7,[6]),(8,[7]),(9,[7]),(6,[3,5])] (ckR [(0,.pointer (some ⟨b,0,none⟩)),(1,.pointer (some ⟨b,0,none⟩)),(2,.pointer (some ⟨b,8,none⟩)),(3,.agg #[.int .u64 (bs:Nat),.int .u64 (bt:Nat),.slice ae le ce]),(4,.pointer (some ⟨g,4,none⟩)),(5,.int .u64 (pv:Nat)),(6,.tuple #[.int .u64 (pt:Nat),.bool pk]),(7,.tuple #[.int .u64 (pt:Nat),.bool pk]),(8,.int .u64 (pt:Nat)),(9,.bool pk)] [] 10 0) [9] 2 (by kernel_rfl) (by kernel_rfl) (by kernel_rfl) (by kernel_rfl) (by kernel_rfl) (by exact fun _ _ _ _ _ h=>h) (by rfl) ?cfall ?cffl ?cfend
  case cffl=>
   refine FlAll.cons rfl (fun xs W hF hA=>?_) ?_
   ·have HF:=zH hF;have h7:xs 7=.tuple #[.int .u64 (pt:Nat),.bool pk]:=hA (7,[6]) (by decide) (by decide);clear hA hF;simp only[fillA,fillL,sA,sB,sC,h7];refine⟨.bool pk,Or.inl ⟨by rfl,fun w=>?_⟩,rfl⟩;(try simp only[gA,gB,gC]);go_simp
   exact FlAll.nil
  case cfall=>
   iterate 9
    refine bV.q rfl rfl rfl (fun xs W HF hE K' hK=>?_) ?_
    ·simp only[ckEqs,ckLook,Nat.reduceBEq] at hE;simp only[fillA,fillL,sA,sB,sC,Act.put,hE] at hK ⊢;clear hE;obtain⟨y0,y6,y7,y8,y9,y10,z⟩:=CC.out W2 W H2.out (U2.out.trans HF.out);have v4:W.cell? ⟨g,4,none⟩=some (.int .u64 (pv:Nat)):=by rw[(bq ((U2.out.trans HF.out).keep _ _ T2.out trivial)).2.2.2.2.1,←HM0.out]
     (try simp only[gA,gB,gC]);go_simp;exact hK.out _ rfl
   refine bV.p rfl rfl (fun xs W HF hA hE K' hK=>?_) ?_
   ·clear hA;simp only[ckEqs,ckLook,Nat.reduceBEq] at hE;simp only[fillA,fillL,sA,sB,sC,Act.put,hE] at hK ⊢;clear hE;obtain⟨y0,y6,y7,y8,y9,y10,z⟩:=CC.out W2 W H2.out (U2.out.trans HF.out);have v4:W.cell? ⟨g,4,none⟩=some (.int .u64 (pv:Nat)):=by rw[(bq ((U2.out.trans HF.out).keep _ _ T2.out trivial)).2.2.2.2.1,←HM0.out]
    have TC1:=zH (TC.out W (H2.out.tt (U2.out.trans HF.out)));(try simp only[gA,gB,gC]);go_simp;(with_reducible refine TC1.out.mono ?_);rintro e w8 ⟨rfl,f8⟩;exact hK.out _ _ _ rfl f8 rfl
   exact bV.nil
  case cfend=>
   intro xs W hF hA;have HF:=zH hF;have hE:=b_ rfl hA;clear hA hF;simp only[List.map_cons,List.map_nil,ckEqs,ckLook,Nat.reduceBEq] at hE;simp only[fillA,fillL,sA,sB,sC,hE];clear hE;refine wpN 10 rfl fun K' hK=>?_
   (try simp only[gA,gB,gC]);go_simp;refine hK.out _ _ ?_;clear hK K';refine wpN 11 rfl fun K' hK=>?_
   (try simp only[gA,gB,gC]);go_simp;refine hK.out _ _ ?_;clear hK K';refine wpF ?_;have F3:=zH (U2.out.trans HF.out);have t3:=F3.out.keep _ _ T2.out trivial;have y5:=(bq t3).2.2.2.2.2.1;have zg5:=bJ (i:=5) t3;obtain⟨W4,hW4⟩:=zE (W.setCell ⟨g,5,none⟩ (.int .u64 (pt:Nat)));have f4:Fr (fun c _=>c≠g) W W4:=hW4▸(Fr.refl _ _).setCell (fun _ _ h=>h rfl) _;obtain⟨m1,hm1⟩:∃m:MV,(⟨5,me,(t:Nat),tm,pv,pt,cm,false,none,0,[],none,0,[]⟩:MV)=m:=⟨_,rfl⟩
   have T4:Hid (W4.heap[g]? = some (.cells (cM m1) 32 (0,0))):=by rw[←hW4,←hm1];have:=bK (o:=5) t3 (.int .u64 (pt:Nat));rw[←HM0.out] at this;exact this
   have HM1:=zH hm1;have H4:=zH ((H2.out.tt F3.out).msg f4 ⟨_,_,t3⟩ (by have:=bZ H.out.top;have:=HGW.out;omega));have F4:Hid (Fr (fun _ _=>True) w W4):=Fr.within (((F2.out.trans F3.out).mono fun _ _ _=>trivial:Fr (fun c _=>True∧c<w.heap.size) w W).trans (f4.mono fun c _ h e=>by have:=h.2;have:=HGW.out;omega));have U4:Hid (Fr (fun _ _=>True) W4 W4.drew):=(Fr.refl _ _).drew;clear t3 f4 hm1;obtain⟨WB,hWB⟩:=zE W;rw[hWB] at HF F3 hW4 y5 zg5 ⊢;clear hWB;go_wp2_with fail
   try rw[hW4]
   clear hW4 y5 zg5;refine wpR [(74,0),(75,1),(76,2),(77,3),(78,4),(79,5),(80,6),(81,7),(82,8),(83,9),(84,10),(85,11)] [(0,[]),(1,[0]),(2,[1]),(3,[2]),(4,[]),(5,[]),(6,[4]),(7,[6]),(8,[5,7]),(9,[8]),(10,[3,9])] (ckR [(0,.pointer (some ⟨b,0,none⟩)),(1,.pointer (some ⟨b,0,none⟩)),(2,.pointer (some ⟨b,8,none⟩)),(3,.agg #[.int .u64 (bs:Nat),.int .u64 (bt:Nat),.slice ae le ce]),(4,.pointer (some ⟨b,0,none⟩)),(5,.int .i64 (t:Nat)),(6,.pointer (some ⟨b,0,none⟩)),(7,.pointer (some ⟨b,12,none⟩)),(8,.pointer (some ⟨b,12+t,none⟩)),(9,.int .u64 (nt:Nat))] [(10,⟨fun v W=>∃a' c' ys,v=.slice a' ys.length c'∧EsAt X W (.slice a' ys.length c') ys∧ys.map EV.en=SL,fun v W W' h hf=>by obtain⟨a',c',ys,h1,h2,h3⟩:=h;exact⟨a',c',ys,h1,h2.tt hf,h3⟩⟩)] 11 0) 2 rfl ?cfall ?cfend
   case cfall=>
    iterate 10
     refine bV.q rfl rfl rfl (fun xs W HF hE K' hK=>?_) ?_
     ·simp only[ckEqs,ckLook,Nat.reduceBEq] at hE;simp only[fillA,fillL,sA,sB,sC,Act.put,hE] at hK ⊢;clear hE;obtain⟨y0,y6,y7,y8,y9,y10,z⟩:=CC.out W4 W H4.out (U4.out.trans HF.out);(try simp only[gA,gB,gC]);go_simp;exact hK.out _ rfl
    refine bV.p rfl rfl (fun xs W HF hA hE K' hK=>?_) ?_
    ·clear hA;simp only[ckEqs,ckLook,Nat.reduceBEq] at hE;simp only[fillA,fillL,sA,sB,sC,Act.put,hE] at hK ⊢;clear hE;obtain⟨y0,y6,y7,y8,y9,y10,z⟩:=CC.out W4 W H4.out (U4.out.trans HF.out);have SC1:=zH (SLC.out W (H4.out.tt (U4.out.trans HF.out)));(try simp only[gA,gB,gC]);go_simp;(with_reducible refine SC1.out.mono ?_);rintro e w8 ⟨⟨a',c',ys,rfl,he,hy⟩,f8⟩;exact hK.out _ _ _ rfl f8 ⟨a',c',ys,rfl,he,hy⟩
    exact bV.nil
   case cfend=>
    intro xs W hF hA;have HF:=zH hF;have hE:=b_ rfl hA;have h10:=hA (10,[3,9]) (by decide);clear hA hF;simp only[List.map_cons,List.map_nil,ckEqs,ckLook,Nat.reduceBEq] at hE;simp only[fillA,fillL,sA,sB,sC,hE];clear hE;obtain⟨a',c',ys,e10,he,hy⟩:=h10;rw[e10];have HE:=zH (And.intro he hy);have F5:=zH (U4.out.trans HF.out);have t5:=F5.out.keep _ _ T4.out trivial;have y9:=(bq t5).2.2.2.2.2.2.2.2.2;have zg9:=bJ (i:=9) t5;obtain⟨nl9,hnl⟩:=zE ys.length;obtain⟨W6,hW6⟩:=zE (W.setCell ⟨g,9,none⟩ (.slice a' ys.length c'));have f6:Fr (fun c _=>c≠g) W W6:=hW6▸(Fr.refl _ _).setCell (fun _ _ h=>h rfl) _
    have T6:Hid (W6.heap[g]? = some (.cells (cM ⟨5,me,(t:Nat),tm,pv,pt,cm,false,none,0,[],a',c',ys⟩) 32 (0,0))):=by rw[←hW6];have:=bK (o:=9) t5 (.slice a' ys.length c');rw[←HM1.out] at this;exact this
    have H6:=zH ((H4.out.tt F5.out).msg f6 ⟨_,_,t5⟩ (by have:=bZ H.out.top;have:=HGW.out;omega));have F6:Hid (Fr (fun _ _=>True) w W6):=Fr.within (((F4.out.trans F5.out).mono fun _ _ _=>trivial:Fr (fun c _=>True∧c<w.heap.size) w W).trans (f6.mono fun c _ h e=>by have:=h.2;have:=HGW.out;omega));have F6S:Hid (w.heap.size≤W6.heap.size):=F6.out.size;have E6:Hid (EsAt X W6 (.slice a' ys.length c') ys):=HE.out.1.fr f6 (fun c o ho hr e=>by rw[e,t5] at ho;cases ho;exact hr.ne (e▸H.out.new HGW.out) rfl (by decide));clear he hy e10 t5 f6 hnl SLC CC TC;refine wpN 11 rfl fun K' hK=>?_
    (try simp only[gA,gB,gC]);go_simp;refine hK.out _ _ ?_;clear hK K';refine wpN 12 rfl fun K' hK=>?_
    (try simp only[gA,gB,gC]);go_simp;refine hK.out _ _ ?_;clear hK K';refine wpF ?_
    try rw[hW6]
    clear hW6 y9 zg9;obtain⟨u0,u1,u2,u3,u4,u5,u6,u7,u8,u9⟩:=bq T6.out;go_wp2;go_ret;rw[OUT.out];refine⟨⟨_,[⟨5,me,(t:Nat),tm,pv,pt,cm,false,none,0,[],a',c',ys⟩],rfl,(OwnMs.one ⟨5,me,(t:Nat),tm,pv,pt,cm,false,none,0,[],a',c',ys⟩ H6.out.hx ⟨BytesAt.nil _ _,E6.out.tt ((Fr.refl _ W6).alloc _)⟩).lo F6S.out,?_⟩,F6.out.alloc _⟩;show [MV.ms _]=_;unfold MV.ms;rw[HE.out.2];rfl
theorem j1 [Old] (h:DNs X w b n q) (x:Int) (hnx:∀y∈n.next,y<18446744073709551616) (hl:n.log.last+1<18446744073709551616) (hle:n.log.es.length≤900000):
 Calls Tryz.prog 17 #[.pointer (some ⟨b,0,none⟩),.int .i64 x] w fun e w'=>jj X w (n.sendTo x) e w':=by
 by_cases hr:n.role=3
 ·by_cases hx:x=n.me
  ·exact Jk h x hr hx hnx hl hle
  ·by_cases h0:x<0
   ·exact Jv h x hr hx h0 hnx hl hle
   ·by_cases h15:15<x
    ·exact Jw h x hr hx h0 h15 hnx hl hle
    ·obtain⟨t,rfl⟩:=Int.eq_ofNat_of_zero_le (show 0≤x by omega);by_cases hb:n.next.getD t 0≤n.log.base
     ·exact J_ h t (by omega) hr hx hb hnx hl hle
     ·exact Jy h t (by omega) hr hx hb hnx hl hle
 ·exact Jj h x hr hnx hl hle
end
section
variable {X:Nat→Prop} {w w':World} {b:Nat} {n n':Nd} {q q':DV}
theorem DNs.lg [Old] (h:DNs X w b n q):∃ae le ce,q.ve=.slice ae le ce∧n.log.es.length=le∧q.es.length=le∧(∀W,Fr (fun _ _=>True) w W→EsAt X W (.slice ae le ce) q.es)∧lgE n.log.base n.log.bt q.es=n.log:=by
 obtain⟨a,c',e,_⟩:=h.ev.row.form;exact⟨a,q.es.length,c',e,h.esl,rfl,fun W f=>by have:=h.ev.tt f;rw[e] at this;exact this,by unfold lgE;rw[←h.ee]⟩
theorem DNs.setM [Old] (h:DNs X w b n q) (i y:Nat) (hi:i<16):DNs X (w.setCell ⟨b,28+i,none⟩ (dx y)) b { n with mat:=n.mat.set i y } q∧Fr (fun c _=>c≠b) w (w.setCell ⟨b,28+i,none⟩ (dx y)):=by
 have f:Fr (fun c _=>c≠b) w (w.setCell ⟨b,28+i,none⟩ (dx y)):=(Fr.refl _ _).setCell (fun _ _ h=>h rfl) _;refine⟨h.re f ?_ ⟨rfl,rfl⟩ (h.ye.aft (h.own f)) ⟨h.ee,h.ev.aft (h.own f)⟩ ⟨h.nl,by show (n.mat.set i y).length=16;rw[List.length_set];exact h.ml⟩,f⟩;rw[←W44_setM n q i y hi h.ml];exact bK h.top _
theorem DNs.setN [Old] (h:DNs X w b n q) (i y:Nat) (hi:i<16):DNs X (w.setCell ⟨b,12+i,none⟩ (dx y)) b { n with next:=n.next.set i y } q∧Fr (fun c _=>c≠b) w (w.setCell ⟨b,12+i,none⟩ (dx y)):=by
 have f:Fr (fun c _=>c≠b) w (w.setCell ⟨b,12+i,none⟩ (dx y)):=(Fr.refl _ _).setCell (fun _ _ h=>h rfl) _;refine⟨h.re f ?_ ⟨rfl,rfl⟩ (h.ye.aft (h.own f)) ⟨h.ee,h.ev.aft (h.own f)⟩ ⟨by show (n.next.set i y).length=16;rw[List.length_set];exact h.nl,h.ml⟩,f⟩;rw[←W44_setN n q i y hi h.nl];exact bK h.top _
end
def V16 (l:List Nat):Value:=.agg #[c16 l 0,c16 l 1,c16 l 2,c16 l 3,c16 l 4,c16 l 5,c16 l 6,c16 l 7,c16 l 8,c16 l 9,c16 l 10,c16 l 11,c16 l 12,c16 l 13,c16 l 14,c16 l 15]
theorem v16_get (l:List Nat) (i:Nat) (hi:i<16):(#[c16 l 0,c16 l 1,c16 l 2,c16 l 3,c16 l 4,c16 l 5,c16 l 6,c16 l 7,c16 l 8,c16 l 9,c16 l 10,c16 l 11,c16 l 12,c16 l 13,c16 l 14,c16 l 15]:Array Value)[i]? = some (c16 l i):=by
 match i,hi with
 | 0,_=>rfl
 | 1,_=>rfl
 | 2,_=>rfl
 | 3,_=>rfl
 | 4,_=>rfl
 | 5,_=>rfl
 | 6,_=>rfl
 | 7,_=>rfl
 | 8,_=>rfl
 | 9,_=>rfl
 | 10,_=>rfl
 | 11,_=>rfl
 | 12,_=>rfl
 | 13,_=>rfl
 | 14,_=>rfl
 | 15,_=>rfl
 | k+16,h=>omega
theorem pj (w:World) (b c:Nat) (l:List Nat) (h:A16 w b l):
 Calls Tryz.prog 61 #[.slice (some ⟨b,0,none⟩) 16 c,V16 l] w fun e w'=>e=.returned (.bool true)∧Fr (fun _ _=>True) w w':=by
 obtain⟨W1,hW1⟩:=zE (w.alloc (.cells #[c16 l 0,c16 l 1,c16 l 2,c16 l 3,c16 l 4,c16 l 5,c16 l 6,c16 l 7,c16 l 8,c16 l 9,c16 l 10,c16 l 11,c16 l 12,c16 l 13,c16 l 14,c16 l 15] 101 (0,0)));have F1:Hid (Fr (fun _ _=>True) w W1):=hW1▸(Fr.refl _ _).alloc _;have t1:=hW1▸bX w (.cells #[c16 l 0,c16 l 1,c16 l 2,c16 l 3,c16 l 4,c16 l 5,c16 l 6,c16 l 7,c16 l 8,c16 l 9,c16 l 10,c16 l 11,c16 l 12,c16 l 13,c16 l 14,c16 l 15] 101 (0,0));have CE:Hid (∀i,i<16→∀W,Fr (fun _ _=>True) W1 W→W.cell? ⟨b,i,none⟩=some (.int .u64 (l.getD i 0:Nat))∧W.cell? ⟨w.heap.size,i,none⟩=some (.int .u64 (l.getD i 0:Nat))):=fun i hi W f=>⟨(h.fr (F1.out.trans f) fun _ _=>trivial).cell i hi,bQ (f.keep _ _ t1 trivial) (v16_get l i hi)⟩
 unfold V16;clear h t1;go_enter Tryz.func61,Tryz.ntmps61
 go_wp2
 try rw[hW1]
 clear hW1;go_loopw [5] (fun v5 wr=>∃k:Nat,v5=.int .i64 (k:Nat)∧k≤16∧Hid (Fr (fun _ _=>True) W1 wr)) (fun v5 _=>16-(intOf v5).toNat)
 case atStart=>exact⟨0,rfl,Nat.zero_le _,Fr.refl _ _⟩
 case round=>
  obtain⟨k,rfl,hk,HF3⟩:=hrel;by_cases hlt:k<16
  ·have hltI:(k:Int)<16:=by omega
   obtain⟨p1,p2⟩:=CE.out k hlt wr HF3.out;obtain⟨x,hx⟩:=zE (l.getD k 0);rw[hx] at p1 p2;have gx:((x:Int) != (x:Int))=false:=by simp
   clear hx;go_wp2_with fail
   go_quiet (fail)
   have F6:Hid (Fr (fun _ _=>True) W1 (wr.drewN nq)):=HF3.out.drewN nq;clear p1 p2;go_wp2;go_roundw
   case rel=>exact⟨k+1,by go_num,by omega,F6.out⟩
   case measure=>simp [intOf];omega
  ·have hge:¬(k:Int)<16:=by omega
   go_wp2;go_ret;exact⟨rfl,F1.out.trans HF3.out⟩
theorem J3 [Old] {X:Nat→Prop} {K:Nat→Obj→Prop} {w:World} {b:Nat} {n:Nd} {q:DV} (h:DNs X w b n q) (vy:Value) (hy:IntsAt K w vy n.yes) (hyl:n.yes.length≤maxLen):
 Calls Tryz.prog 59 #[.int .i64 n.me,.int .i64 n.vote,.int .i64 n.role,.int .i64 n.ld,vy,.int .u64 (n.tm:Nat),.int .u64 (n.commit:Nat),.bool n.heard,.pointer (some ⟨b,0,none⟩)] w fun e w'=>e=.returned (.bool true)∧Fr (fun _ _=>True) w w':=by
 obtain⟨x0,x1,x2,x3,x4,x5,x6,x7,x8,x9,x10,x11⟩:=h.cells (Fr.refl _ w);have NC:Hid (Calls Tryz.prog 22 #[vy,q.vy] w fun e w'=>e=.returned (.bool true)∧Fr (fun _ _=>True) w w'):=(sv w vy q.vy n.yes n.yes hy h.ye hyl).mono fun e w' ⟨h1,h2⟩=>⟨by rw[h1,decide_eq_true rfl],h2⟩
 obtain⟨k0,h0⟩:=zE n.me;obtain⟨k1,h1⟩:=zE n.vote;obtain⟨k2,h2⟩:=zE n.role;obtain⟨k3,h3⟩:=zE n.ld;obtain⟨k6,h6⟩:=zE n.tm;obtain⟨k7,h7⟩:=zE n.commit;obtain⟨k11,h11⟩:=zE n.heard;obtain⟨vq,hvq⟩:=zE q.vy;rw[h0] at x0 ⊢;rw[h1] at x1 ⊢;rw[h2] at x2 ⊢;rw[h3] at x3 ⊢;rw[h6] at x6 ⊢;rw[h7] at x7 ⊢;rw[h11] at x11 ⊢;rw[hvq] at x5 NC;have n0:(k0 != k0)=false:=by simp
 have n1:(k1 != k1)=false:=by simp
 have n2:(k2 != k2)=false:=by simp
 have n3:(k3 != k3)=false:=by simp
 have n6:((k6:Int)==(k6:Int))=true:=by simp
 have n7:((k7:Int)==(k7:Int))=true:=by simp
 have n11:(k11==k11)=true:=by simp
 clear h hy hyl h0 h1 h2 h3 h6 h7 h11 hvq;go_enter Tryz.func59,Tryz.ntmps59
 go_wp2_with fail
 (with_reducible refine NC.out.mono ?_);rintro e w4 ⟨rfl,f4⟩;have F4:=zH f4;clear NC f4 x0 x1 x2 x3 x4 x5 x6 x7 x8 x9 x10 x11;go_wp2;go_ret;exact⟨rfl,F4.out⟩
def DNew [Old] (X:Nat→Prop) (w:World) (me:Int) (conf:List Int) (e:Ending) (w':World):Prop:=∃b q,e=.returned (.pointer (some ⟨b,0,none⟩))∧DNs (fun c=>X c∨c=b) w' b (Nd.new me conf) q∧Fr (fun _ _=>True) w w'∧w.heap.size≤b
theorem J5 [Old] {X:Nat→Prop} (w:World) (me:Int) (vc:Value) (conf:List Int) (h:IntsAt (RO X) w vc conf) (h0:0<conf.length) (hl:conf.length≤1000) (hX:∀c,X c→c<w.heap.size) (hO:∀c,Old.o c→c<w.heap.size):
 Calls Tryz.prog 50 #[.int .i64 me,vc] w fun e w'=>DNew X w me conf e w':=by
 obtain⟨ac,cc,rfl⟩:=h.form;have HC:=zH h;have HH:=zH (And.intro h0 (And.intro hl (And.intro hX hO)));clear h h0 hl hX hO;obtain⟨W1,hW1⟩:=zE (w.alloc (.cells #[] 3));have F1:Hid (Fr (fun _ _=>True) w W1):=hW1▸(Fr.refl _ _).alloc _;have OW:Hid (RowI W1 w.heap.size (.slice (some ⟨w.heap.size,0,none⟩) 0 0) []):=hW1▸World.ownsRow_lit w #[] 0 (Nat.le_refl _) (by simp) rfl;have HC1:=zH (HC.out.tt F1.out);obtain⟨n,hn⟩:=zE conf.length;have HN:=zH hn;have hn2:conf.length≤2000000:=by have:=HH.out.2.1;omega
 rw[hn];rw[hn] at HC1;go_enter Tryz.func50,Tryz.ntmps50
 go_wp2_with (at_builtin;(try rw[hW1]);refine gK w W1 F1 rfl _ _ rfl (.slice (some ⟨w.heap.size,0,none⟩) 0 0) [] rfl OW (.slice ac n cc) conf rfl HC1 HH.out.1 conf rfl hn2 ?_)
 intro ga gc W2 R2 F2;replace R2:Hid (RowI W2 w.heap.size (.slice ga n gc) conf):=by first | exact R2 | (rw[←hn];exact R2)
 try rw[hn]
 have hbd:∀W:World,(Instr.build 103 #[(0,.int .i64 me),(1,.int .i64 (-1)),(3,.int .i64 (-1)),(4,.slice ga n gc)]).run Tryz.prog W=.ok (.agg #[.int .i64 me,.int .i64 (-1),.int .i64 0,.int .i64 (-1),.slice ga n gc,.slice none 0 0,.int .u64 0,.int .u64 0,.int .u64 0,.int .u64 0,.slice none 0 0,.bool false,.int .u64 0,.int .u64 0,.int .u64 0,.int .u64 0,.int .u64 0,.int .u64 0,.int .u64 0,.int .u64 0,.int .u64 0,.int .u64 0,.int .u64 0,.int .u64 0,.int .u64 0,.int .u64 0,.int .u64 0,.int .u64 0,.int .u64 0,.int .u64 0,.int .u64 0,.int .u64 0,.int .u64 0,.int .u64 0,.int .u64 0,.int .u64 0,.int .u64 0,.int .u64 0,.int .u64 0,.int .u64 0,.int .u64 0,.int .u64 0,.int .u64 0,.int .u64 0]) W:=fun W=>run_build W _ _ _ (by kernel_rfl)
 obtain⟨W3,hW3⟩:=zE (W2.alloc (.cells #[.int .i64 me,.int .i64 (-1),.int .i64 0,.int .i64 (-1),.slice ga n gc,.slice none 0 0,.int .u64 0,.int .u64 0,.int .u64 0,.int .u64 0,.slice none 0 0,.bool false,.int .u64 0,.int .u64 0,.int .u64 0,.int .u64 0,.int .u64 0,.int .u64 0,.int .u64 0,.int .u64 0,.int .u64 0,.int .u64 0,.int .u64 0,.int .u64 0,.int .u64 0,.int .u64 0,.int .u64 0,.int .u64 0,.int .u64 0,.int .u64 0,.int .u64 0,.int .u64 0,.int .u64 0,.int .u64 0,.int .u64 0,.int .u64 0,.int .u64 0,.int .u64 0,.int .u64 0,.int .u64 0,.int .u64 0,.int .u64 0,.int .u64 0,.int .u64 0] 103 (0,0)));have t3:W3.heap[W2.heap.size]? = some (.cells (W44 (Nd.new me conf) ⟨.slice ga n gc,.slice none 0 0,.slice none 0 0,[]⟩) 103 (0,0)):=hW3▸bX W2 _;have f3:Fr (fun _ _=>True) W2 W3:=hW3▸(Fr.refl _ _).alloc _;have S2:w.heap.size≤W2.heap.size:=F2.out.size
 have D3:Hid (DNs (fun c=>X c∨c=W2.heap.size) W3 W2.heap.size (Nd.new me conf) ⟨.slice ga n gc,.slice none 0 0,.slice none 0 0,[]⟩):=by
  refine⟨t3,?_,IntsAt.nil' _ _,EsAt.nil _ _,rfl,rfl,rfl,.inr rfl,fun c hc=>?_,fun c hc=>Nat.lt_of_lt_of_le (HH.out.2.2.2 c hc) S2⟩
  ·have h9:RowI W3 w.heap.size (.slice ga n gc) conf:=R2.out.tt f3;refine h9.intsK.mono3 fun c o ho hc=>⟨fun hx=>?_,.inr ?_⟩
   ·obtain⟨hB,cs,e⟩:=hc;rcases hx with hx | hx
    ·have:=HH.out.2.2.1 c hx;omega
    ·subst hx;rw[t3] at ho;subst e;cases ho
   ·obtain⟨hB,cs,e⟩:=hc;exact⟨cs,_,_,e,by decide⟩
  ·have:=bZ t3;rcases hc with hc | hc
   ·have:=HH.out.2.2.1 c hc;omega
   ·omega
 have F3:=zH (F2.out.trans f3);clear t3 f3 S2 hn hn2;go_wp2
 try rw[hW3]
 go_ret;exact⟨_,_,rfl,D3.out,F3.out,F2.out.size⟩

theorem J7 [Old] {X:Nat→Prop} (w:World) (m:MV) (hm:MsAt X w m):
 Calls Tryz.prog 51 #[.agg (cM m)] w fun e w'=>e=.returned (.int .i64 (tJ m.ms))∧Fr (fun _ _=>True) w w':=by
 obtain⟨W1,hW1,F1,X1⟩:=gW w m;obtain⟨v0,v1,v2,v3,v4,v5,v6,v7,v8,v9⟩:=bq X1.out;have HM:=zH (hm.tt F1.out);obtain⟨kd,hkd⟩:=zE m.kind;obtain⟨sr,hsr⟩:=zE m.src;obtain⟨ds,hds⟩:=zE m.dst;obtain⟨dl,hdl⟩:=zE m.d.length;obtain⟨el,hel⟩:=zE m.es.length;obtain⟨ea,hea⟩:=zE m.ea;obtain⟨ec,hec⟩:=zE m.ec;have RW:=zH HM.out.es.row;rw[hea,hec,hel] at RW;rw[hkd] at v0;rw[hsr] at v1;rw[hds] at v2;rw[hdl] at v8;rw[hea,hec,hel] at v9;have HE:=zH (And.intro hdl hel);have HQ:=zH (And.intro hkd (And.intro hsr hds));unfold cM at hW1 ⊢;have NO:Hid (∀(c:Int) (wx:World),tJ m.ms=c→Fr (fun _ _=>True) w wx→Ending.returned (.int .i64 c)=.returned (.int .i64 (tJ m.ms))∧Fr (fun _ _=>True) w wx):=fun c wx hc f=>⟨by rw[hc],f⟩
 have CE:Hid (∀k (hk:k<m.es.length),0<el→∃be oe,ea=some ⟨be,oe,none⟩∧∀W,Fr (fun _ _=>True) W1 W→W.cell? ⟨be,oe+k*3+1,none⟩=some (.int .i64 m.es[k].k)∧W.cell? ⟨be,oe+k*3+2,none⟩=some (.slice m.es[k].a m.es[k].d.length m.es[k].c)):=fun k hk h0=>by
  obtain⟨a',c',e,hcc,h1⟩:=RW.out;cases e;rcases h1 with h1 | ⟨be,oe,o,ha,ho,hkk,hc⟩
  ·rw[h1] at hk;cases hk
  ·exact⟨be,oe,ha,fun W f=>⟨f.cell (fun _ _=>trivial) (hc k hk 1 _ rfl),f.cell (fun _ _=>trivial) (hc k hk 2 _ rfl)⟩⟩
 have XX:=zH X1.out;have VV:Hid (∀W,Fr (fun _ _=>True) W1 W→W.cell? ⟨w.heap.size,9,none⟩=some (.slice ea el ec)):=fun W f=>f.cell (fun _ _=>trivial) v9
 clear hm hkd hsr hds hdl hel hea hec v3 v4 v5 v6 v7;by_cases c0:kd<1
 ·go_enter Tryz.func51,Tryz.ntmps51
  go_wp2
  try rw[hW1]
  go_ret;exact NO.out _ _ (qV (by rw[HQ.out.1];omega)) F1.out
 ·skip
  by_cases c1:12<kd
  ·go_enter Tryz.func51,Tryz.ntmps51
   go_wp2
   try rw[hW1]
   go_ret;exact NO.out _ _ (qV (by rw[HQ.out.1];omega)) F1.out
  ·skip
   by_cases c2:sr<0
   ·go_enter Tryz.func51,Tryz.ntmps51
    go_wp2
    try rw[hW1]
    go_ret;exact NO.out _ _ (h_ (by rw[HQ.out.1];omega) (by rw[HQ.out.2.1,HQ.out.2.2];omega)) F1.out
   ·skip
    by_cases c3:15<sr
    ·go_enter Tryz.func51,Tryz.ntmps51
     go_wp2
     try rw[hW1]
     go_ret;exact NO.out _ _ (h_ (by rw[HQ.out.1];omega) (by rw[HQ.out.2.1,HQ.out.2.2];omega)) F1.out
    ·skip
     by_cases c4:ds<0
     ·go_enter Tryz.func51,Tryz.ntmps51
      go_wp2
      try rw[hW1]
      go_ret;exact NO.out _ _ (h_ (by rw[HQ.out.1];omega) (by rw[HQ.out.2.1,HQ.out.2.2];omega)) F1.out
     ·skip
      by_cases c5:15<ds
      ·go_enter Tryz.func51,Tryz.ntmps51
       go_wp2
       try rw[hW1]
       go_ret;exact NO.out _ _ (h_ (by rw[HQ.out.1];omega) (by rw[HQ.out.2.1,HQ.out.2.2];omega)) F1.out
      ·skip
       by_cases c6:(700:Int)<(dl:Int)
       ·go_enter Tryz.func51,Tryz.ntmps51
        go_wp2
        try rw[hW1]
        go_ret;exact NO.out _ _ (qK (by rw[HQ.out.1];omega) (by rw[HQ.out.2.1,HQ.out.2.2];omega) (by rw[HE.out.1,HE.out.2];omega)) F1.out
       ·skip
        by_cases c7:(8:Int)<(el:Int)
        ·go_enter Tryz.func51,Tryz.ntmps51
         go_wp2
         try rw[hW1]
         go_ret;exact NO.out _ _ (qK (by rw[HQ.out.1];omega) (by rw[HQ.out.2.1,HQ.out.2.2];omega) (by rw[HE.out.1,HE.out.2];omega)) F1.out
        ·skip
         go_enter Tryz.func51,Tryz.ntmps51
         go_wp2
         try rw[hW1]
         have CE0:Hid (tJ m.ms=if ∃x∈m.es,24<x.d.length then 2 else if ∃x∈m.es,x.k<0∨255<x.k then 30 else 0):=(chkM_e (by rw[HQ.out.1];omega) (by rw[HQ.out.2.1,HQ.out.2.2];omega) (by rw[HE.out.1,HE.out.2];omega))
         clear hW1 v0 v1 v2 v8 c0 c1 c2 c3 c4 c5;go_loopw [3] (fun v3 wr=>∃k:Nat,v3=.int .i64 (k:Nat)∧k≤el∧Hid (∀i (hi:i<m.es.length),i<k→m.es[i].d.length≤24)∧Hid (Fr (fun _ _=>True) W1 wr)) (fun v3 _=>el-(intOf v3).toNat)
         case atStart=>exact⟨0,rfl,Nat.zero_le _,(fun _ _ h=>by omega),Fr.refl _ _⟩
         case round=>
          obtain⟨k,rfl,hk,HN3,HF3⟩:=hrel;have u9:=VV.out wr HF3.out;by_cases hlt:k<el
          ·have hltI:(k:Int)<(el:Int):=by omega
           obtain⟨be,oe,rfl,CK⟩:=CE.out k (by have:=HE.out.2;omega) (by omega);obtain⟨-,p2⟩:=CK wr HF3.out;obtain⟨dk,hdk⟩:=zE ((m.es[k]'(by have:=HE.out.2;omega)).d.length);obtain⟨da,hda⟩:=zE ((m.es[k]'(by have:=HE.out.2;omega)).a);obtain⟨dc,hdc⟩:=zE ((m.es[k]'(by have:=HE.out.2;omega)).c);rw[hdk,hda,hdc] at p2;have HDK:=zH hdk;clear hdk hda hdc CK;by_cases h24:(24:Int)<(dk:Int)
           ·go_wp2;go_ret;exact NO.out _ _ (CE0.out.trans (if_pos ⟨m.es[k]'(by have:=HE.out.2;omega),List.getElem_mem _,by rw[HDK.out];omega⟩)) (F1.out.trans HF3.out)
           ·go_wp2;go_roundw
            case rel=>exact⟨k+1,by go_num,by omega,fun i hi hik=>by
             by_cases e:i=k
             ·subst e;have:=HDK.out;omega
             ·exact HN3.out i hi (by omega),HF3.out⟩
            case measure=>simp [intOf];omega
          ·have hge:¬(k:Int)<(el:Int):=by omega
           have N24:Hid (¬ ∃x∈m.es,24<x.d.length):=fun⟨x,hx,h⟩=>by obtain⟨i,hi,rfl⟩:=List.mem_iff_getElem.1 hx;have:=HN3.out i hi (by have:=HE.out.2;omega);omega
           obtain⟨w5,rfl⟩:∃Y,Y=wr:=⟨_,rfl⟩
           go_wp2;clear u9;go_loopw [4] (fun v4 wr=>∃k:Nat,v4=.int .i64 (k:Nat)∧k≤el∧Hid (∀i (hi:i<m.es.length),i<k→0≤m.es[i].k∧m.es[i].k≤255)∧Hid (Fr (fun _ _=>True) W1 wr)) (fun v4 _=>el-(intOf v4).toNat)
           case atStart=>exact⟨0,rfl,Nat.zero_le _,(fun _ _ h=>by omega),HF3.out⟩
           case round=>
            obtain⟨j,rfl,hj,HN6,HF6⟩:=hrel;have u9:=VV.out wr HF6.out;by_cases hlj:j<el
            ·have hljI:(j:Int)<(el:Int):=by omega
             obtain⟨be,oe,rfl,CK⟩:=CE.out j (by have:=HE.out.2;omega) (by omega);obtain⟨p1,-⟩:=CK wr HF6.out;obtain⟨kk,hkk⟩:=zE ((m.es[j]'(by have:=HE.out.2;omega)).k);rw[hkk] at p1;have HKK:=zH hkk;clear hkk CK;by_cases hk0:kk<0
             ·go_wp2;go_ret;exact NO.out _ _ (CE0.out.trans ((if_neg N24.out).trans (if_pos ⟨m.es[j]'(by have:=HE.out.2;omega),List.getElem_mem _,by rw[HKK.out];omega⟩))) (F1.out.trans HF6.out)
             ·by_cases hk1:255<kk
              ·go_wp2;go_ret;exact NO.out _ _ (CE0.out.trans ((if_neg N24.out).trans (if_pos ⟨m.es[j]'(by have:=HE.out.2;omega),List.getElem_mem _,by rw[HKK.out];omega⟩))) (F1.out.trans HF6.out)
              ·go_wp2;go_roundw
               case rel=>exact⟨j+1,by go_num,by omega,fun i hi hik=>by
                by_cases e:i=j
                ·subst e;have:=HKK.out;omega
                ·exact HN6.out i hi (by omega),HF6.out⟩
               case measure=>simp [intOf];omega
            ·have hge2:¬(j:Int)<(el:Int):=by omega
             go_wp2;go_ret;exact NO.out _ _ (CE0.out.trans ((if_neg N24.out).trans (if_neg fun⟨x,hx,h⟩=>by obtain⟨i,hi,rfl⟩:=List.mem_iff_getElem.1 hx;have:=HN6.out i hi (by have:=HE.out.2;omega);omega))) (F1.out.trans HF6.out)
end Go.Proofs.YtmjccpfchhnfhaaGreat
