/- Texts of the proofs, part 39: what the functions that they reach do, walked; no conditions beyond those that each states. -/
import Derived.Test.YtmjccpfchhnfhaaGreatZk2efcc3f553
set_option linter.unusedVariables false
set_option linter.unusedSimpArgs false
set_option maxRecDepth 100000
set_option maxHeartbeats 8000000
namespace Go.Proofs.YtmjccpfchhnfhaaGreat
open Go.RowKit
section
variable {X:Nat→Prop} {w w':World} {b:Nat} {n n':Nd} {q q':DV}
theorem dans_seg [Old] {Wf:World} {g0:Nat} {n1:Nd} {q1:DV} {k:Int} {r:Nd×List Ms} (h:DNs X Wf b n1 q1) (f0:Fr (fun c _=>c≠b) w Wf) (hb:b<w.heap.size) (m:MV) (MX:Hid (Wf.heap[g0]? = some (.cells (cM m) 32 (0,0)))) (HK:Hid (m.kind=k)) (hk:k=2∨k=4)
 (hr:r=if n1.counts m.ms then(let n2:Nd:={ n1 with yes:=n1.yes++[m.src] };if mV n2.conf n2.yes then n2.chosen else(n2,[])) else(n1,[]))
 (hcf:0<n1.conf.length∧n1.conf.length≤12) (hy:n1.yes.length≤900000) (mN:Nat) (hme:n1.me=(mN:Nat)) (hm16:mN<16) (htm:n1.tm+1<18446744073709551616) (hl:n1.log.last+1<18446744073709551616) (hle:n1.log.es.length≤900000) (fu:Nat→Value):
 Code.wp Tryz.prog (fK 3 (cW Tryz.f90.body)) (bodyPost Tryz.prog Tryz.f90 fun e w'=>gQ X w b r e w') { tmps:=tU 137 fu [(0,.pointer (some ⟨b,0,none⟩)),(3,.pointer (some ⟨g0,0,none⟩))],defers:=[] } Wf:=by
 have H:=zH h;have F0:=zH f0;have HB:=zH hb;have HMX:=MX;obtain⟨vc,hvc⟩:=zE q1.vc;obtain⟨vy,hvy⟩:=zE q1.vy;obtain⟨s,hs⟩:=zE m.src;obtain⟨mt,hmt⟩:=zE m.tm;obtain⟨mo,hmo⟩:=zE m.ok;obtain⟨ro,hro⟩:=zE n1.role;obtain⟨tm,htm0⟩:=zE n1.tm;obtain⟨tm1,htm1⟩:=zE (tm+1);have wt:IntKind.u64.wrap ((tm:Int)+1)=(tm1:Int):=by rw[IntKind.wrap_u64];omega
 have C1:=zH (fun k=>(lK (Wf.drewN k) vc n1.conf s (hvc▸h.cf.tt ((Fr.refl _ Wf).drewN k)) (by unfold maxLen;omega)).mono fun e w' ⟨h1,h2⟩=>And.intro h1 h2.symm);have C2:=zH (fun W (f:Fr (fun _ _=>True) Wf W) k=>(lK (W.drewN k) vy n1.yes s (hvy▸h.ye.tt (f.drewN k)) (by unfold maxLen;omega)).mono fun e w' ⟨h1,h2⟩=>And.intro h1 h2.symm);obtain⟨hc,hhc⟩:=zE (jK n1.conf s);obtain⟨hyy,hhy⟩:=zE (jK n1.yes s);rw[hhc] at C1;rw[hhy] at C2;obtain⟨o1,ho1⟩:=zE (decide (ro=2∧k=2∧mt=tm));obtain⟨o2,ho2⟩:=zE (decide (ro=1∧k=4∧mt=tm1))
 have EQ:Hid (r=if(mo&&((o1||o2)&&(hc&&!hyy)))=true then(let n2:Nd:={ n1 with yes:=n1.yes++[s] };if mV n2.conf n2.yes then(if o2=true then n2.askT else(n2.lead,[])) else(n2,[])) else(n1,[])):=by
  show r=_
  have e1:n1.counts m.ms=(mo&&((o1||o2)&&(hc&&!hyy))):=by unfold Nd.counts;rw[show m.ms.ok=mo from hmo,show m.ms.src=s from hs,show m.ms.tm=mt from hmt,show m.ms.kind=k from HK.out,hro,htm0,hhc,hhy,htm1,ho1,ho2]
  rw[hr,e1,hs];by_cases hcn:(mo&&((o1||o2)&&(hc&&!hyy)))=true
  ·rw[if_pos hcn,if_pos hcn];dsimp only
   have e2:({ n1 with yes:=n1.yes++[s] }:Nd).chosen=if o2=true then({ n1 with yes:=n1.yes++[s] }:Nd).askT else(({ n1 with yes:=n1.yes++[s] }:Nd).lead,[]):=by
    unfold Nd.chosen;show (if n1.role=1 then _ else _)=_;rw[hro]
    have o12:o1=true∨o2=true:=by cases o1 <;> cases o2 <;> simp at hcn ⊢
    by_cases h1:ro=1
    ·have:o2=true:=by
      rcases o12 with e | e
      ·have:=of_decide_eq_true (ho1.trans e);omega
      ·exact e
     rw[if_pos h1,if_pos this]
    ·have:¬o2=true:=fun e=>by have:=of_decide_eq_true (ho2.trans e);exact h1 this.1
     rw[if_neg h1,if_neg this]
   rw[e2]
  ·rw[if_neg hcn,if_neg hcn]
 have GO:Hid (∀(W:World) (fu:Nat→Value),Fr (fun _ _=>True) Wf W→mo=true→hc=true→hyy=false→Code.wp Tryz.prog (fK 8 (cW Tryz.f90.body)) (bodyPost Tryz.prog Tryz.f90 fun e w'=>gQ X w b r e w') { tmps:=tU 137 fu [(0,.pointer (some ⟨b,0,none⟩)),(3,.pointer (some ⟨g0,0,none⟩)),(7,.bool o1),(8,.bool o2)],defers:=[] } W):=fun W fu f e1 e2 e3=>by refine PV (H.out.tt f) (F0.out.trans (f.mono fun _ _ _=>trivial)) HB.out (f.keep _ _ MX.out trivial) hs o1 o2 (EQ.out.trans ?_) hcf hy mN hme hm16 (by omega) hl hle fu;rw[e1,e2,e3,Bool.true_and,Bool.not_false,Bool.and_true,Bool.and_true]
 have C8:Hid (ro=2∧k=2∧((mt:Int)==(tm:Int))=true∧o1=true∧o2=false∨ro=2∧k=2∧((mt:Int)==(tm:Int))=false∧o1=false∧o2=false∨ro=2∧k=4∧o1=false∧o2=false∨ro=1∧k=2∧o1=false∧o2=false∨ro=1∧k=4∧((mt:Int)==(tm1:Int))=true∧o1=false∧o2=true∨ro=1∧k=4∧((mt:Int)==(tm1:Int))=false∧o1=false∧o2=false∨(ro==2)=false∧(ro==1)=false∧k=2∧o1=false∧o2=false∨(ro==2)=false∧(ro==1)=false∧k=4∧o1=false∧o2=false):=by
  show _∨_;by_cases e2:ro=2
  ·have n1:o2=false:=by rw[←ho2];exact decide_eq_false (by omega)
   rcases hk with e | e
   ·by_cases e3:mt=tm
    ·exact .inl ⟨e2,e,by simp [e3],by rw[←ho1];exact decide_eq_true ⟨e2,e,e3⟩,n1⟩
    ·exact .inr (.inl ⟨e2,e,by simp;omega,by rw[←ho1];exact decide_eq_false (fun h=>e3 h.2.2),n1⟩)
   ·exact .inr (.inr (.inl ⟨e2,e,by rw[←ho1];exact decide_eq_false (by omega),n1⟩))
  ·have n2:o1=false:=by rw[←ho1];exact decide_eq_false (fun h=>e2 h.1)
   by_cases e1:ro=1
   ·rcases hk with e | e
    ·exact .inr (.inr (.inr (.inl ⟨e1,e,n2,by rw[←ho2];exact decide_eq_false (by omega)⟩)))
    ·by_cases e3:mt=tm1
     ·exact .inr (.inr (.inr (.inr (.inl ⟨e1,e,by simp [e3],n2,by rw[←ho2];exact decide_eq_true ⟨e1,e,e3⟩⟩))))
     ·exact .inr (.inr (.inr (.inr (.inr (.inl ⟨e1,e,by simp;omega,n2,by rw[←ho2];exact decide_eq_false (fun h=>e3 h.2.2)⟩)))))
   ·have n3:o2=false:=by rw[←ho2];exact decide_eq_false (fun h=>e1 h.1)
    rcases hk with e | e
    ·exact .inr (.inr (.inr (.inr (.inr (.inr (.inl ⟨by simpa using e2,by simpa using e1,e,n2,n3⟩))))))
    ·exact .inr (.inr (.inr (.inr (.inr (.inr (.inr ⟨by simpa using e2,by simpa using e1,e,n2,n3⟩))))))
 have CC:Hid (∀W,Fr (fun _ _=>True) Wf W→W.cell? ⟨b,2,none⟩=some (.int .i64 ro)∧W.cell? ⟨b,4,none⟩=some vc∧W.cell? ⟨b,5,none⟩=some vy∧W.cell? ⟨b,6,none⟩=some (.int .u64 (tm:Nat))∧W.cell? ⟨g0,0,none⟩=some (.int .i64 k)∧W.cell? ⟨g0,1,none⟩=some (.int .i64 s)∧W.cell? ⟨g0,3,none⟩=some (.int .u64 (mt:Nat))∧W.cell? ⟨g0,7,none⟩=some (.bool mo)):=fun W f=>by obtain⟨-,-,x2,-,x4,x5,x6,-,-,-,-,-⟩:=h.cells f;obtain⟨v0,v1,v2,v3,v4,v5,v6,v7,v8,v9⟩:=bq (f.keep _ _ MX.out trivial);exact⟨by rw[x2,hro],by rw[x4,hvc],by rw[x5,hvy],by rw[x6,htm0],by rw[v0,HK.out],by rw[v1,hs],by rw[v3,hmt],by rw[v7,hmo]⟩
 have NONE:Hid ((mo&&(hc&&!hyy))=false→r=(n1,[])):=fun e=>EQ.out.trans (if_neg (by revert e;cases mo <;> cases hc <;> cases hyy <;> cases o1 <;> cases o2 <;> decide))
 obtain⟨x2,x4,x5,x6,v0,v1,v3,v7⟩:=CC.out Wf (Fr.refl _ _);clear h f0 hb MX hr hcf hy hme hm16 htm hl hle hvc hvy hs hmt hmo hro htm0 htm1 hhc hhy ho1 ho2 EQ hk;simp only[tU,tL,Nat.reduceAdd,Nat.reduceBEq,cond_true,cond_false];dsimp only[fK,cW,Tryz.f90];go_wp2_with fail
 go_quiet ((go_at_call 115;exact Calls.quiet_of_same (C1.out _)))
 have U1:Hid (Fr (fun _ _=>True) Wf (Wf.drewN nq)):=(Fr.refl _ Wf).drewN nq;generalize Wf.drewN nq=W1 at U1 ⊢;replace C2:=zH (C2.out W1 U1.out);clear x2 x4 x5 x6 v0 v1 v3 v7 C1;obtain⟨x2,x4,x5,x6,v0,v1,v3,v7⟩:=CC.out W1 U1.out;go_wp2_with fail
 go_quiet ((go_at_call 115;exact Calls.quiet_of_same (C2.out _)))
 have U2:Hid (Fr (fun _ _=>True) Wf (W1.drewN nq)):=U1.out.drewN nq;generalize W1.drewN nq=W2 at U2 ⊢;clear x2 x4 x5 x6 v0 v1 v3 v7 C2 U1;obtain⟨x2,x4,x5,x6,v0,v1,v3,v7⟩:=CC.out W2 U2.out;by_cases hg:(mo&&(hc&&!hyy))=true
 case neg=>
  have OUT:=zH (NONE.out (by simpa using hg));clear x2 x4 x5 x6 v0 v1 v3 CC GO NONE C8
  cases mo <;> cases hc <;> cases hyy <;> first
   | exact absurd rfl hg
   | skip
  all_goals
   clear hg;go_wp2;go_ret;rw[OUT.out];exact⟨q1,_,[],rfl,H.out.tt U2.out,F0.out.trans (U2.out.mono fun _ _ _=>trivial),OwnMs.nil _ _ _,rfl⟩
 case pos=>
  have h3:mo=true∧hc=true∧hyy=false:=by revert hg;cases mo <;> cases hc <;> cases hyy <;> decide
  obtain⟨h3a,h3b,h3c⟩:=h3;subst h3a h3b h3c;clear hg NONE;rcases C8.out with⟨d1,d2,g1,d3,d4⟩ | ⟨d1,d2,g1,d3,d4⟩ | ⟨d1,d2,d3,d4⟩ | ⟨d1,d2,d3,d4⟩ | ⟨d1,d2,g1,d3,d4⟩ | ⟨d1,d2,g1,d3,d4⟩ | ⟨g2,g3,d2,d3,d4⟩ | ⟨g2,g3,d2,d3,d4⟩
  all_goals (try (subst d1))
  all_goals (subst d2 d3 d4)
  all_goals
   clear C8;go_wp2_with fail
   go_quiet (fail)
   have U3:Hid (Fr (fun _ _=>True) Wf (W2.drewN nq)):=U2.out.drewN nq;generalize W2.drewN nq=W3 at U3 ⊢;clear x2 x4 x5 x6 v0 v1 v3 v7;obtain⟨x2,x4,x5,x6,v0,v1,v3,v7⟩:=CC.out W3 U3.out;go_upto_region 10 with fail
   rename_i K0 h0;have HK0:=zH h0;clear h0;go_quiet (fail)
   have U4:Hid (Fr (fun _ _=>True) Wf (W3.drewN nq)):=U3.out.drewN nq;exact HK0.out _ _ (cw (fun fu=>GO.out _ fu U4.out (by trivial) (by trivial) (by trivial)) (by kernel_rfl))
theorem qx [Old] (h:DNs X w b n q) (m:MV) (hcf:0<n.conf.length∧n.conf.length≤12) (hy:n.yes.length≤900000) (mN:Nat) (hme:n.me=(mN:Nat)) (hm16:mN<16) (htm:n.tm+1<18446744073709551616) (htm2:m.tm+1<18446744073709551616) (hl:n.log.last+1<18446744073709551616) (hle:n.log.es.length≤900000):
 Calls Tryz.prog 90 #[.pointer (some ⟨b,0,none⟩),.agg (cM m)] w fun e w'=>gQ X w b (n.onAnswer m.ms) e w':=by
 obtain⟨W1,hW1,F1,X1⟩:=xv w m;have H:=zH h;have gb:Hid (w.heap.size≠b):=by have:=bX h.top;show _≠_;omega
 have HB:Hid (b<w.heap.size):=bX h.top;obtain⟨k,hk⟩:=zE m.kind;obtain⟨mo,hmo⟩:=zE m.ok;obtain⟨mt,hmt⟩:=zE m.tm;obtain⟨tm,htm0⟩:=zE n.tm;obtain⟨r,hr⟩:=zE (n.onAnswer m.ms);rw[hr];obtain⟨v0,-,-,v3,-,-,-,v7,-,-⟩:=bq X1.out;rw[hk] at v0;rw[hmo] at v7;rw[hmt] at v3;have x6:=(h.cells F1.out).2.2.2.2.2.2.1;rw[htm0] at x6;have HK:=zH hk;have HR:=zH hr;have HQ:=zH (And.intro hmo (And.intro hmt htm0));have BD:=zH (And.intro hcf (And.intro hme (And.intro hm16 (And.intro htm (And.intro htm2 (And.intro hl (And.intro hle hy)))))));unfold cM at hW1 ⊢;clear h hk hmo hmt htm0 hr hcf hme hm16 htm htm2 hl hle hy;by_cases hk0:k=2∨k=4
 case neg=>
  have k2':(k==2)=false:=by simp;omega
  have k4':(k==4)=false:=by simp;omega
  have k2:(k != 2)=true:=by rw[bne,k2'];rfl
  have k4:(k != 4)=true:=by rw[bne,k4'];rfl
  have E:Hid (r=(n,[])):=by show r=_;rw[←HR.out];exact if_neg (show ¬(m.kind=2∨m.kind=4) by rw[HK.out];exact hk0)
  clear hk0 v3 v7 x6;go_enter Tryz.func90,Tryz.ntmps90
  go_wp2
  try rw[hW1]
  go_ret;rw[E.out];exact⟨q,_,[],rfl,H.out.tt F1.out,F1.out.mono fun _ _ _=>trivial,OwnMs.nil _ _ _,rfl⟩
 case pos=>
  obtain⟨fo,hfo⟩:=zE ((decide (tm<mt)&&(!mo||decide (k=2))))
  have EQ:Hid (∀n1:Nd,(if fo=true then n.follow mt (-1) else n)=n1→(n1.conf=n.conf∧n1.me=n.me∧n1.log=n.log∧n1.tm≤max tm mt∧n1.yes.length≤n.yes.length)∧r=if n1.counts m.ms then(let n2:Nd:={ n1 with yes:=n1.yes++[m.src] };if mV n2.conf n2.yes then n2.chosen else(n2,[])) else(n1,[])):=fun n1 e=>by
   refine⟨?_,?_⟩
   ·rw[←e,←HQ.out.2.2];split
    ·refine⟨(Nd.follow_up n mt (-1)).conf,(Nd.follow_up n mt (-1)).me,(Nd.follow_log n mt (-1)).1,?_,by unfold Nd.follow;split <;> exact Nat.zero_le _⟩;unfold Nd.follow;split
     ·exact Nat.le_max_right _ _
     ·exact Nat.le_max_left _ _
    ·exact⟨rfl,rfl,rfl,Nat.le_max_left _ _,Nat.le_refl _⟩
   ·rw[←HR.out];unfold Nd.onAnswer;rw[if_pos (show m.ms.kind=2∨m.ms.kind=4 by rw[show m.ms.kind=k from HK.out];exact hk0)]
    have e1:(if n.tm<m.ms.tm∧(m.ms.ok=false∨m.ms.kind=2) then n.follow m.ms.tm (-1) else n)=n1:=by rw[←e,HQ.out.2.2,show m.ms.tm=mt from HQ.out.2.1,show m.ms.ok=mo from HQ.out.1,show m.ms.kind=k from HK.out];refine Nv ?_;rw[←hfo];simp
    dsimp only;rw[e1];rfl
  have HK0:Hid (k=2∨k=4):=hk0
  have C3:Hid (k=2∧decide (tm<mt)=false∧fo=false∨k=4∧decide (tm<mt)=false∧fo=false∨k=4∧decide (tm<mt)=true∧mo=true∧fo=false∨k=2∧decide (tm<mt)=true∧mo=false∧fo=true∨k=2∧decide (tm<mt)=true∧mo=true∧fo=true∨k=4∧decide (tm<mt)=true∧mo=false∧fo=true):=by show _∨_;rw[←hfo];rcases hk0 with rfl | rfl <;> cases mo <;> cases decide (tm<mt) <;> simp
  clear hfo
  have SEG:Hid (∀(Wf:World) (n1:Nd) (q1:DV) (fu:Nat→Value),(if fo=true then n.follow mt (-1) else n)=n1→DNs X Wf b n1 q1→Fr (fun c _=>c≠b) W1 Wf→Code.wp Tryz.prog (fK 3 (cW Tryz.f90.body)) (bodyPost Tryz.prog Tryz.f90 fun e w'=>gQ X w b r e w') { tmps:=tU 137 fu [(0,.pointer (some ⟨b,0,none⟩)),(3,.pointer (some ⟨w.heap.size,0,none⟩))],defers:=[] } Wf):=fun Wf n1 q1 fu e hd f=>by obtain⟨⟨e1,e2,e3,e4,e5⟩,e6⟩:=EQ.out n1 e;have:=BD.out.2.2.2.2.1;have:=BD.out.2.2.2.1;exact dans_seg hd ((F1.out.mono fun _ _ _=>trivial).trans f) HB.out m (f.keep _ _ X1.out gb.out) HK.out HK0.out e6 (by rw[e1];exact BD.out.1) (by have:=BD.out.2.2.2.2.2.2.2;omega) mN (by rw[e2];exact BD.out.2.1) BD.out.2.2.1 (by have:=HQ.out.2.1;have:=HQ.out.2.2;omega) (by rw[e3];exact BD.out.2.2.2.2.2.1) (by rw[e3];exact BD.out.2.2.2.2.2.2.1) fu
  clear hk0 EQ;rcases C3.out with⟨d0,d1,d2⟩ | ⟨d0,d1,d2⟩ | ⟨d0,d1,d3,d2⟩ | ⟨d0,d1,d3,d2⟩ | ⟨d0,d1,d3,d2⟩ | ⟨d0,d1,d3,d2⟩
  all_goals (subst d0 d2)
  all_goals (try (subst d3))
  all_goals clear C3
  case' inl | inr.inl | inr.inr.inl=>
   go_enter Tryz.func90,Tryz.ntmps90
   go_upto_region 3 with fail
   rename_i K1 h1 K0 h0
   try rw[hW1]
   clear hW1;have H1:=zH h1;clear h1;go_quiet (fail)
   have FQ:Hid (Fr (fun _ _=>True) W1 (W1.drewN nq)):=(Fr.refl _ W1).drewN nq;generalize W1.drewN nq=W2 at FQ ⊢;clear v0 v3 v7 x6;have H2:=zH (H.out.tt (F1.out.trans FQ.out));go_wp2;exact H1.out _ _ (cw (fun fu=>SEG.out _ n _ fu (by rfl) H2.out (FQ.out.mono fun _ _ _=>trivial)) (by kernel_rfl))
  case' inr.inr.inr.inl | inr.inr.inr.inr.inl | inr.inr.inr.inr.inr=>
   go_enter Tryz.func90,Tryz.ntmps90
   go_upto_region 3 with fail
   rename_i K1 h1 K0 h0
   try rw[hW1]
   clear hW1;have H1:=zH h1;clear h1;go_quiet (fail)
   have FQ:Hid (Fr (fun _ _=>True) W1 (W1.drewN nq)):=(Fr.refl _ W1).drewN nq;generalize W1.drewN nq=W2 at FQ ⊢;clear v0 v3 v7 x6;have H2:=zH (H.out.tt (F1.out.trans FQ.out));have v3:=(bq (FQ.out.keep _ _ X1.out trivial)).2.2.2.1;have e3:m.tm=mt:=HQ.out.2.1;rw[e3] at v3;clear e3;have FO:=zH (fJ H2.out mt (-1));go_wp2_with fail
   (with_reducible refine FO.out.mono ?_);rintro e Wf ⟨rfl,hf3,ff⟩;have HF3:=zH hf3;have FF:=zH ff;clear v3 FO hf3 ff;go_wp2;exact H1.out _ _ (cw (fun fu=>SEG.out _ (n.follow mt (-1)) _ fu (by rfl) HF3.out ((FQ.out.mono fun _ _ _=>trivial).trans FF.out)) (by kernel_rfl))
end
theorem k8F {p q:Prop} (k:q) (h:q→p:=by
 have H7:=zH (H6.tt UQ6);have MX7:Hid (W7.heap[g0]? = some (.cells (cM m) 32 (0,0))):=UQ6.keep _ _ MX6 trivial;have FP7:Hid (Fr (fun c _=>c≠b) w W7):=FP6.trans (UQ6.tT);obtain⟨v1,v3,v4,v5,v6,v9⟩:=VH W7 MX7;have y7:W7.cell? ⟨b,7,none⟩=some (.int .u64 (cm:Nat)):=by rw[(H7.out.cells (Fr.refl _ W7)).2.2.2.2.2.2.2.1,n3c.out.1]
 have z7:=H7.free (Fr.refl _ W7) 7;intro kk0;revert z7;revert y7;revert v9;revert v6;revert v5;revert v4;revert v3;revert v1;revert FP7;revert MX7;revert H7;exact kk0):p:=h k
theorem kON {p q:Prop} (k:q) (h:q→p:=by
 have MX8:Hid (W8.heap[g0]? = some (.cells (cM m) 32 (0,0))):=f8.keep _ _ MX7 gb;have FP8:Hid (Fr (fun c _=>c≠b) w W8):=FP7.trans f8;have u6:=(VH W8 MX8).2.2.2.2.1;intro kk0;revert u6;revert FP8;revert MX8;exact kk0):p:=h k
theorem m4z {p:Prop} (h:p:=by
 have e:({ n3 with commit:=cm }:Nd)=n3:=by rw[←n3c.out.1]
 show DNs X W8 b { n3 with commit:=cm } q3;rw[e];exact H7.out):p:=h
theorem mJM {p:Prop} (h:p:=by
 obtain⟨x0,x1,x2,x3,x4,x5,x6,x7,x8,x9,x10,x11⟩:=H8.cells f;exact⟨by rw[x0];show some (Value.int .i64 n3.me)=_;rw[n3c.out.2.1],by rw[x6];show some (d8 n3.tm)=_;rw[n3c.out.2.2],x7⟩):p:=h
theorem mJU {p:Prop} (h:p:=by
 iterate 12
  refine bY.q rfl rfl rfl (kQQ ?_) ?_
  ·intro xs W HF K' hK;obtain⟨y0,y6,y7⟩:=CE W (UH.trans HF);obtain⟨v1,v3,v4,v5,v6,v9⟩:=VH W ((UH.trans HF).keep _ _ MX8 trivial);exact mD8
 exact m36):p:=h
theorem mRO {p:Prop} (h:p:=by
 refine kEE ?_;intro xs W HF;have F9:=zH (UH.trans HF);have H9:=zH (H8.tt F9);have FP9:Hid (Fr (fun c _=>c≠b) w W):=FP8.trans (F9.tT);refine wpN 12 rfl fun K' hK=>?_
 skip
 go_simp;refine hK _ _ ?_;clear hK K';refine wpN 13 rfl fun K' hK=>?_
 skip
 go_simp;refine hK _ _ ?_;clear hK K';refine wpF ?_;go_wp2;go_ret;rw[E.out];exact⟨q3,_,[⟨6,me,s,tm2,en,0,0,true,none,0,[],none,0,[]⟩],rfl,(H9).tt ((Fr.refl _ W).alloc _),(FP9).alloc _,(OwnMs.one ⟨6,me,s,tm2,en,0,0,true,none,0,[],none,0,[]⟩ (H9).hx ⟨BytesAt.nil _ _,EsAt.nil _ _⟩).lo (FP9).size,rfl⟩):p:=h
section
variable {X:Nat→Prop} {w w':World} {b:Nat} {n n':Nd} {q q':DV}
theorem r5 [Old] (h:DNs X w b n q) (m:MV) (hm:MsAt X w m) (hk5:m.kind=5) (hlt:¬m.tm<n.tm) (hix:m.index+m.es.length+1<18446744073709551616) (hes:m.es.length≤400000) (hl:n.log.last+1<18446744073709551616) (hle:n.log.es.length≤400000):
 Calls Tryz.prog 11 #[.pointer (some ⟨b,0,none⟩),.agg (cM m)] w fun e w'=>gQ X w b (n.onAppend m.ms) e w':=by
 refine kRB ?_;intro W1 hW1 F1 g0 hg0 X1 H HG0 gb;refine k0u ?_;intro me hme tm htm s hs mt hmt ix hixx pv hpv mc hmc HL
 have CC:Hid (∀W,FT W1 W→W.cell? ⟨b,0,none⟩=some (.int .i64 me)∧W.cell? ⟨b,6,none⟩=some (.int .u64 (tm:Nat))):=fun W f=>by exact m2N
 have V0:∀W:World,W.heap[g0]? = some (.cells (cM m) 32 (0,0))→W.cell? ⟨g0,1,none⟩=some (.int .i64 s)∧W.cell? ⟨g0,3,none⟩=some (.int .u64 (mt:Nat))∧W.cell? ⟨g0,4,none⟩=some (.int .u64 (ix:Nat))∧W.cell? ⟨g0,5,none⟩=some (.int .u64 (pv:Nat))∧W.cell? ⟨g0,6,none⟩=some (.int .u64 (mc:Nat))∧W.cell? ⟨g0,9,none⟩=some (.slice m.ea m.es.length m.ec):=fun W t=>by exact moh
 have VH:=zH V0;have v0:W1.cell? ⟨g0,0,none⟩=some (.int .i64 5):=by rw[←hk5];exact(bq X1.out).1
 have v3:=(V0 W1 X1).2.1;have y6:=(CC W1 (Fr.refl _ _)).2;refine ka1 ?_;intro gl n2 hn2
 have E:Hid (n.onAppend m.ms=n2.taken m.ms):=by exact mNw
 have hn2p:n2.log=n.log∧n2.me=n.me∧n2.commit=n.commit:=by rw[←hn2];exact Nd.follow_log n m.tm m.src
 refine kr8 ?_;intro bs hbs bt hbt;obtain⟨tm2,htm2⟩:=zE n2.tm;obtain⟨cm,hcm⟩:=zE n.commit;obtain⟨cd,hcdd⟩:=zE ((n.log.append m.index m.prev (m.es.map EV.en)).2);obtain⟨LA,hLA⟩:=zE ((n.log.append m.index m.prev (m.es.map EV.en)).1);obtain⟨ae,le,ce,hve,hlel,hel2,hesl,hlg⟩:=h.lg;refine kJf ?_;intro hl2;have APC:=zH (fun W (hx:EsAt X W (.slice ae le ce) q.es) (hy:EsAt X W (.slice m.ea m.es.length m.ec) m.es) (hX:∀c,X c→c<W.heap.size)=>wz W bs bt ix pv ae le ce q.es hx m.ea m.es.length m.ec m.es hy (by omega) (by omega) (by omega) hes hX);rw[show lgE bs bt q.es=n.log by rw[←hbs,←hbt];exact hlg,←hixx,←hpv,hcdd,hLA,hixx,hpv] at APC;obtain⟨hi,hhi⟩:=zE (n.log.hint m.index);have HIC0:=zH (fun W (hx:EsAt X W (.slice ae le ce) q.es)=>Dw W bs bt ix ae le ce q.es hx.row (by omega) (by omega));rw[show lgE bs bt q.es=n.log by rw[←hbs,←hbt];exact hlg,←hixx,hhi,hixx] at HIC0
 have EG:Hid (cd=60→n.onAppend m.ms=(n2,[{ zMs with kind:=6,src:=me,dst:=s,index:=ix,tm:=tm2,prev:=hi }])):=fun gc=>by exact mFZ
 obtain⟨en,hen⟩:=zE (ix+m.es.length);obtain⟨mx,hmx⟩:=zE (max cm (min mc en));refine kyW ?_;intro WE
 have ET:Hid (cd≠60→n.onAppend m.ms=({ n2 with log:=LA,commit:=mx },[{ zMs with kind:=6,src:=me,dst:=s,index:=en,tm:=tm2,ok:=true }])):=fun gc=>by rw[E.out];unfold Nd.taken;rw[hn2p.1,if_neg (show ¬(n.log.append m.ms.index m.ms.prev m.ms.es).2=60 from fun e=>gc (hcdd.symm.trans e)),htm2,hn2p.2.1,hme,hn2p.2.2];rw[show (n.log.append m.ms.index m.ms.prev m.ms.es).1=LA from hLA,show m.ms.src=s from hs,show m.ms.index=ix from hixx,show m.ms.es.length=m.es.length from List.length_map _,hen,show m.ms.commit=mc from hmc,hcm,hmx]
 have HLB:Hid (LA.base=bs∧LA.bt=bt):=by rw[←hLA,←hbs,←hbt];exact Lg.append_base _ _ _ _
 have HMX0:=zH hmx;have HVE:=zH (And.intro hve (And.intro hbs (And.intro hbt hcm)));have HN2:=zH hn2;have HN2P:=zH hn2p;have HT2:=zH htm2;have HM:=zH hm;unfold cM at hW1 ⊢;clear hk5 hlt hix hes hl hle hl2 hcdd hLA hve hlel hel2 hesl hlg hbs hbt htm2 hcm hn2 hn2p h hme htm hs hmt hixx hpv hmc hm V0 E hhi hen hmx;go_enter Tryz.func11,Tryz.ntmps11
 go_wp2_with fail
 try rw[hW1]
 try rw[HG0.out]
 clear hW1 hg0;go_quiet (fail)
 clear y6 v3 gl v0;have UQ:Hid (FT W1 (W1.drewN nq)):=(Fr.refl _ W1).drewN nq;generalize W1.drewN nq=W2 at UQ ⊢;have F2:=zH (F1.trans UQ);have H2:=zH (H.tt F2);have MX2:Hid (W2.heap[g0]? = some (.cells (cM m) 32 (0,0))):=UQ.keep _ _ X1 trivial;have FO:=zH (fJ H2 mt s);have v1:=(VH W2 MX2).1;have v3:=(VH W2 MX2).2.1;go_wp2_with fail
 (with_reducible refine FO.out.mono ?_);rintro e Wf ⟨rfl,hf3,ff⟩;clear v1 v3 FO;rw[←HL.out.2.2.2.1,←HL.out.2.2.1] at hf3;have x11:=(hf3.cells (Fr.refl _ Wf)).2.2.2.2.2.2.2.2.2.2.2;have z11:=hf3.free (Fr.refl _ Wf) 11;obtain⟨W4,hW4⟩:=zE (Wf.setCell ⟨b,11,none⟩ (.bool true));have hW4s:kV Wf b [(11,.bool true)]=W4:=hW4;have f4:Fr (fun c _=>c≠b) Wf W4:=hW4s▸b_ b _ Wf
 have H4:Hid (DNs X W4 b n2 q.noYes):=by show DNs X W4 b n2 q.noYes;rw[←HN2.out];exact hf3.re f4 (hW4s▸bw _ hf3.top) ⟨rfl,rfl⟩ (hf3.ye.aft (hf3.own f4)) ⟨hf3.ee,hf3.ev.aft (hf3.own f4)⟩ ⟨hf3.nl,hf3.ml⟩
 have FP4:Hid (Fr (fun c _=>c≠b) w W4):=(F2.tT).trans (ff.trans f4);have MX4:Hid (W4.heap[g0]? = some (.cells (cM m) 32 (0,0))):=(ff.trans f4).keep _ _ MX2 gb;have MA4:=zH (HM.out.keep (K:=fun c _=>c≠b) FP4.out (fun c o ho hr e=>hr.1 (e▸H.out.xb)))
 have CD:Hid (∀W,FT W4 W→W.cell? ⟨b,0,none⟩=some (.int .i64 me)∧W.cell? ⟨b,6,none⟩=some (.int .u64 (tm2:Nat))∧W.cell? ⟨b,7,none⟩=some (.int .u64 (cm:Nat))∧W.cell? ⟨b,8,none⟩=some (.int .u64 (bs:Nat))∧W.cell? ⟨b,9,none⟩=some (.int .u64 (bt:Nat))∧W.cell? ⟨b,10,none⟩=some (.slice ae le ce)):=fun W f=>by obtain⟨x0,x1,x2,x3,x4,x5,x6,x7,x8,x9,x10,x11⟩:=H4.cells f;exact⟨by rw[x0,HN2P.out.2.1,HL.out.1],by rw[x6,HT2.out],by rw[x7,HN2P.out.2.2,HVE.out.2.2.2],by rw[x8,HN2P.out.1,HVE.out.2.1],by rw[x9,HN2P.out.1,HVE.out.2.2.1],by rw[x10];show some q.ve=_;rw[HVE.out.1]⟩
 have EV4:Hid (∀W,FT W4 W→EsAt X W (.slice ae le ce) q.es):=fun W f=>by exact mil
 replace APC:=zH (fun W (f:FT W4 W)=>APC W (EV4 W f) (MA4.es.tt f) (fun c hc=>Nat.lt_of_lt_of_le (H4.hx c hc) f.size));have HIC:=zH (fun W (f:FT W4 W)=>HIC0 W (EV4 W f));clear HIC0;have UE:Hid (FT W4 W4.drew):=(Fr.refl _ _).drew;clear hW4s hf3 f4 ff;go_wp2_with fail
 try rw[hW4]
 clear hW4 x11 z11;refine g_ (K:=fun _ _=>True) (by kernel_rfl) [(43,0),(44,1),(45,2),(46,3),(47,4),(48,5),(49,6),(50,7),(51,8),(52,9),(53,10),(42,11),(54,12),(55,13),(56,14),(5,15),(6,17),(7,18)] [(0,[]),(1,[0]),(2,[1]),(3,[2]),(4,[]),(5,[4]),(6,[]),(7,[6]),(8,[]),(9,[8]),(10,[3,5,7,9]),(11,[10]),(12,[11]),(13,[11]),(14,[11]),(15,[])] (ckR [(0,.pointer (some ⟨b,0,none⟩)),(1,.pointer (some ⟨b,0,none⟩)),(2,.pointer (some ⟨b,8,none⟩)),(3,.agg #[.int .u64 (bs:Nat),.int .u64 (bt:Nat),.slice ae le ce]),(4,.pointer (some ⟨g0,4,none⟩)),(5,.int .u64 (ix:Nat)),(6,.pointer (some ⟨g0,5,none⟩)),(7,.int .u64 (pv:Nat)),(8,.pointer (some ⟨g0,9,none⟩)),(9,.slice m.ea m.es.length m.ec),(14,.int .i64 cd)] [(10,⟨fun v W=>∃a k c f zs,v=.tuple #[.agg #[.int .u64 (bs:Nat),.int .u64 (bt:Nat),.slice a k c],.int .u64 f,.int .i64 cd]∧EsAt X W (.slice a k c) zs∧zs.map EV.en=LA.es,fun v W W' h hf=>by obtain⟨a,k,c,f,zs,h1,h2,h3⟩:=h;exact⟨a,k,c,f,zs,h1,h2.tt hf,h3⟩⟩),(11,⟨fun v W=>∃a k c f zs,v=.tuple #[.agg #[.int .u64 (bs:Nat),.int .u64 (bt:Nat),.slice a k c],.int .u64 f,.int .i64 cd]∧EsAt X W (.slice a k c) zs∧zs.map EV.en=LA.es,fun v W W' h hf=>by obtain⟨a,k,c,f,zs,h1,h2,h3⟩:=h;exact⟨a,k,c,f,zs,h1,h2.tt hf,h3⟩⟩),(12,⟨fun v W=>∃a k c zs,v=.agg #[.int .u64 (bs:Nat),.int .u64 (bt:Nat),.slice a k c]∧EsAt X W (.slice a k c) zs∧zs.map EV.en=LA.es,fun v W W' h hf=>by obtain⟨a,k,c,zs,h1,h2,h3⟩:=h;exact⟨a,k,c,zs,h1,h2.tt hf,h3⟩⟩),(13,⟨fun v W=>∃f,v=.int .u64 f,fun v W W' h hf=>h⟩),(15,⟨fun v W=>∃g9,v=.pointer (some ⟨g9,0,none⟩)∧W4.heap.size≤g9∧W.heap[g9]? = some (.cells #[.int .u64 0,.int .u64 0,.slice none 0 0] 100 (0,0)),fun v W W' h hf=>by obtain⟨g9,h1,h3,h4⟩:=h;exact⟨g9,h1,h3,hf.keep _ _ h4 trivial⟩⟩)] 16 0) [13,14] 3 (by kernel_rfl) (by kernel_rfl) (by kernel_rfl) (by kernel_rfl) (by kernel_rfl) (by exact fun _ _ _ _ _ h=>h) (by rfl) ?cfall ?cffl ?cfend
 case cffl=>exact mtV
 case cfall=>
  iterate 10
   refine bY.q rfl rfl rfl (kQQ ?_) ?_
   ·intro xs W HF K' hK;obtain⟨y0,y6,y7,y8,y9,y10⟩:=CD W (UE.trans HF);exact m7Y
  refine bY.p rfl rfl (kPP ?_) ?_
  ·intro xs W HF K' hK;obtain⟨y0,y6,y7,y8,y9,y10⟩:=CD W (UE.trans HF);obtain⟨v1,v3,v4,v5,v6,v9⟩:=VH W ((UE.trans HF).keep _ _ MX4 trivial);have AP1:=zH (APC W (UE.trans HF));dsimp only[vL9] at AP1;exact mEM
  refine bY.p rfl rfl (kPH ?_) ?_
  ·exact mSv
  refine bY.p rfl rfl (kPH ?_) ?_
  ·exact mSu
  refine bY.p rfl rfl (kPH ?_) ?_
  ·exact mZ7
  refine bY.p rfl rfl (kPH ?_) ?_
  ·exact maz
  refine bY.p rfl rfl (kPP ?_) ?_
  ·intro xs W HF K' hK;have SB:Hid (W4.heap.size≤W.heap.size):=(UE.trans HF).size;exact mWB
  exact m36
 case cfend=>
  refine kEH ?_;intro xs W HF hA;have h10:=hA (10,[3,5,7,9]) (by decide);have h11:=hA (11,[10]) (by decide);have h12:=hA (12,[11]) (by decide);have h13:=hA (13,[11]) (by decide);have h15:=hA (15,[]) (by decide);clear hA;obtain⟨a,k,c,zs,e12,hz,hzl⟩:=h12;obtain⟨f,e13⟩:=h13;obtain⟨g9,e15,hg9,tg9⟩:=h15;rw[e12,e13,e15];clear e12 e13 e15;have HZ:=zH (And.intro hz (And.intro hzl hg9));have FE:=zH (UE.trans HF);have T9:=zH tg9;obtain⟨W5,hW5,l0,l1,l2,F5⟩:=J8 (b:=bs) (bt:=bt) (v:=.slice a k c) tg9;have p0:=bQ (i:=0) tg9 rfl;have p1:=bQ (i:=1) tg9 rfl;have p2:=bQ (i:=2) tg9 rfl;have q0:=bV (i:=0) tg9;have q1:=bV (i:=1) tg9;have q2:=bV (i:=2) tg9;clear hz hzl hg9 tg9 APC;refine wpN 16 rfl fun K' hK=>?_
  skip
  go_simp;refine hK _ _ ?_;clear hK K';refine wpN 17 rfl fun K' hK=>?_
  skip
  go_simp;refine hK _ _ ?_;clear hK K';refine wpN 18 rfl fun K' hK=>?_
  skip
  go_simp;refine hK _ _ ?_;clear hK K';refine wpF ?_
  try rw[hW5]
  clear p0 p1 p2 q0 q1 q2 hW5;have FE5:Hid (FT W4 W5):=Fr.within ((FE.out.tT:Fr (fun c _=>True∧c<W4.heap.size) W4 W).trans (F5.out.mono fun c _ h e=>by have:=h.2;have:=HZ.out.2.2;omega));have H5:=zH (H4.tt FE5);have FP5:Hid (Fr (fun c _=>c≠b) w W5):=FP4.trans (FE5.tT);obtain⟨WB,hWB⟩:=zE W;rw[hWB] at HF FE T9 F5 HZ;clear hWB;by_cases gc:cd=60
  ·subst gc;have E:=zH (EG rfl);have UG:Hid (FT W5 W5.drew):=(Fr.refl _ _).drew;clear l0 l1 l2;go_wp2_with fail
   refine wpR [(59,0),(60,1),(61,2),(62,3),(63,4),(64,5),(65,6),(66,7),(67,8),(68,9),(69,10),(70,11),(71,12),(72,13),(73,14),(74,15),(75,16),(76,17),(77,18),(78,19),(79,20),(4,21)] [(0,[]),(1,[0]),(2,[1]),(3,[2]),(4,[]),(5,[4]),(6,[]),(7,[6]),(8,[7]),(9,[8]),(10,[]),(11,[10]),(12,[]),(13,[12]),(14,[13]),(15,[14]),(16,[]),(17,[16]),(19,[3,5,9,11,18]),(18,[15,17])] (ckR [(0,.pointer (some ⟨b,0,none⟩)),(1,.pointer (some ⟨b,0,none⟩)),(2,.pointer (some ⟨b,0,none⟩)),(3,.int .i64 me),(4,.pointer (some ⟨g0,1,none⟩)),(5,.int .i64 s),(6,.pointer (some ⟨b,0,none⟩)),(7,.pointer (some ⟨b,0,none⟩)),(8,.pointer (some ⟨b,6,none⟩)),(9,.int .u64 (tm2:Nat)),(10,.pointer (some ⟨g0,4,none⟩)),(11,.int .u64 (ix:Nat)),(12,.pointer (some ⟨b,0,none⟩)),(13,.pointer (some ⟨b,0,none⟩)),(14,.pointer (some ⟨b,8,none⟩)),(15,.agg #[.int .u64 (bs:Nat),.int .u64 (bt:Nat),.slice ae le ce]),(16,.pointer (some ⟨g0,4,none⟩)),(17,.int .u64 (ix:Nat)),(18,.int .u64 (hi:Nat)),(19,.agg #[.int .i64 6,.int .i64 me,.int .i64 s,.int .u64 (tm2:Nat),.int .u64 (ix:Nat),.int .u64 (hi:Nat),.int .u64 0,.bool false,.slice none 0 0,.slice none 0 0])] [] 20 0) 2 rfl ?cfall ?cfend
   case cfall=>
    iterate 19
     refine bY.q rfl rfl rfl (kQQ ?_) ?_
     ·intro xs W HF K' hK;obtain⟨y0,y6,y7,y8,y9,y10⟩:=CD W (FE5.trans (UG.trans HF));obtain⟨v1,v3,v4,v5,v6,v9⟩:=VH W ((FE5.trans (UG.trans HF)).keep _ _ MX4 trivial);exact mD8
    refine bY.p rfl rfl (kPP ?_) ?_
    ·intro xs W HF K' hK;obtain⟨y0,y6,y7,y8,y9,y10⟩:=CD W (FE5.trans (UG.trans HF));obtain⟨v1,v3,v4,v5,v6,v9⟩:=VH W ((FE5.trans (UG.trans HF)).keep _ _ MX4 trivial);have HI1:=zH (HIC W (FE5.trans (UG.trans HF)));dsimp only[vL9] at HI1
     skip
     go_simp;(with_reducible refine HI1.out.mono ?_);exact msd
    exact m36
   case cfend=>
    refine kEE ?_;intro xs W HF;have F6:=zH (UG.trans HF);have H6:=zH (H5.tt F6);have FP6:Hid (Fr (fun c _=>c≠b) w W):=FP5.trans (F6.tT);refine wpN 20 rfl fun K' hK=>?_
    skip
    go_simp;refine hK _ _ ?_;clear hK K';refine wpN 21 rfl fun K' hK=>?_
    skip
    go_simp;refine hK _ _ ?_;clear hK K';refine wpF ?_;go_wp2;go_ret;rw[E.out];exact⟨q.noYes,_,[⟨6,me,s,tm2,ix,hi,0,false,none,0,[],none,0,[]⟩],rfl,(H6).tt ((Fr.refl _ W).alloc _),(FP6).alloc _,(OwnMs.one ⟨6,me,s,tm2,ix,hi,0,false,none,0,[],none,0,[]⟩ (H6).hx ⟨BytesAt.nil _ _,EsAt.nil _ _⟩).lo (FP6).size,rfl⟩
  ·have E:=zH (ET gc);have gc':(cd==60)=false:=by simpa using gc
   obtain⟨we,we0,we1⟩:=WE;have HZ5:Hid (EsAt X W5 (.slice a k c) zs):=HZ.out.1.fr F5.out (fun c o ho hr e=>hr.ne (e▸H4.out.new HZ.out.2.2) (by rw[e,T9.out] at ho;exact(Option.some.inj ho).symm) (by decide));refine kqa ?_;intro x8 x9 x10 z8 z9 z10;refine koS ?_;intro W6 hW6 hW6' f6
   have h6:DNs X W6 b { n2 with log:=LA } { q.noYes with ve:=.slice a k c,es:=zs }:=by refine H5.re f6 ?_ ⟨rfl,rfl⟩ (H5.ye.aft (H5.own f6)) ⟨HZ.2.1.symm,HZ5.aft (H5.own f6)⟩ ⟨H5.nl,H5.ml⟩;rw[←hW6,←HLB.out.1,←HLB.out.2];exact bw _ H5.top
   obtain⟨n3,hn3⟩:∃x:Nd,{ n2 with log:=LA }=x:=⟨_,rfl⟩
   obtain⟨q3,hq3⟩:∃x:DV,{ q.noYes with ve:=.slice a k c,es:=zs }=x:=⟨_,rfl⟩
   rw[hn3,hq3] at h6;have n3c:Hid (n3.commit=cm∧n3.me=me∧n3.tm=tm2):=by rw[←hn3];exact⟨HN2P.out.2.2.trans HVE.out.2.2.2,HN2P.out.2.1.trans HL.out.1,HT2.out⟩
   replace E:Hid (n.onAppend m.ms=({ n3 with commit:=mx },[{ zMs with kind:=6,src:=me,dst:=s,index:=en,tm:=tm2,ok:=true }])):=by show _=_;rw[E.out,←hn3]
   have MX6:Hid (W6.heap[g0]? = some (.cells (cM m) 32 (0,0))):=f6.keep _ _ (FE5.keep _ _ MX4 trivial) gb;have H6:=zH h6;have FP6:Hid (Fr (fun c _=>c≠b) w W6):=FP5.trans f6;obtain⟨v1,v3,v4,v5,v6,v9⟩:=VH W6 MX6;have y7:W6.cell? ⟨b,7,none⟩=some (.int .u64 (cm:Nat)):=by rw[(h6.cells (Fr.refl _ W6)).2.2.2.2.2.2.2.1,n3c.out.1]
   clear hW6 h6 hn3 hq3 f6 CD EV4 v1 v3 v5;go_wp2_with fail
   try rw[hW6']
   clear l0 l1 l2 x8 x9 x10 z8 z9 z10 hW6' we we0 we1 gc gc';by_cases hA:mc<en
   ·by_cases hB:cm<mc
    ·have gA:decide (mc<en)=true:=decide_eq_true hA;have gB:decide (cm<mc)=true:=decide_eq_true hB;have gC:decide (en≤mc)=false:=decide_eq_false (by omega);have HMX:Hid (mx=mc):=by have:=HMX0.out;show _=_;omega
     rw[HMX.out] at E;clear hA hB;go_quiet (fail)
     have UQ6:Hid (FT W6 (W6.drewN nq)):=(Fr.refl _ W6).drewN nq;generalize W6.drewN nq=W7 at UQ6 ⊢;clear v4 v6 v9 y7;refine k8F ?_;intro H7 MX7 FP7 v1 v3 v4 v5 v6 v9 y7 z7;obtain⟨W8,hW8⟩:=zE (W7.setCell ⟨b,7,none⟩ (.int .u64 (mc:Nat)));have hW8s:kV W7 b [(7,.int .u64 (mc:Nat))]=W8:=hW8;have f8:Fr (fun c _=>c≠b) W7 W8:=hW8s▸b_ b _ W7;have H8:Hid (DNs X W8 b { n3 with commit:=mc } q3):=H7.out.re f8 (hW8s▸bw _ H7.out.top) ⟨rfl,rfl⟩ (H7.out.ye.aft (H7.out.own f8)) ⟨H7.out.ee,H7.out.ev.aft (H7.out.own f8)⟩ ⟨H7.out.nl,H7.out.ml⟩;refine kON ?_;intro MX8 FP8 u6;clear f8 hW8s;have UH:Hid (FT W8 W8.drew):=(Fr.refl _ _).drew
     have CE:Hid (∀W,FT W8 W→W.cell? ⟨b,0,none⟩=some (.int .i64 me)∧W.cell? ⟨b,6,none⟩=some (.int .u64 (tm2:Nat))∧W.cell? ⟨b,7,none⟩=some (.int .u64 (mc:Nat))):=fun W f=>by exact mJM
     have y7':=(CE W8 (Fr.refl _ _)).2.2;go_wp2_with fail
     try rw[hW8]
     clear hW8 y7 y7' z7 u6 v1 v3 v4 v5 v6 v9;refine wpR [(125,0),(126,1),(127,2),(128,3),(129,4),(130,5),(131,6),(132,7),(133,8),(134,9),(135,10),(136,11),(137,12),(4,13)] [(0,[]),(1,[0]),(2,[1]),(3,[2]),(4,[]),(5,[4]),(6,[]),(7,[6]),(8,[7]),(9,[8]),(10,[]),(11,[3,5,9,10])] (ckR [(0,.pointer (some ⟨b,0,none⟩)),(1,.pointer (some ⟨b,0,none⟩)),(2,.pointer (some ⟨b,0,none⟩)),(3,.int .i64 me),(4,.pointer (some ⟨g0,1,none⟩)),(5,.int .i64 s),(6,.pointer (some ⟨b,0,none⟩)),(7,.pointer (some ⟨b,0,none⟩)),(8,.pointer (some ⟨b,6,none⟩)),(9,.int .u64 (tm2:Nat)),(10,.int .u64 (en:Nat)),(11,.agg #[.int .i64 6,.int .i64 me,.int .i64 s,.int .u64 (tm2:Nat),.int .u64 (en:Nat),.int .u64 0,.int .u64 0,.bool true,.slice none 0 0,.slice none 0 0])] [] 12 0) 2 rfl ?cfall ?cfend
     case cfall=>exact mJU
     case cfend=>exact mRO
    ·have gA:decide (mc<en)=true:=decide_eq_true hA;have gB:decide (cm<mc)=false:=decide_eq_false hB;have gC:decide (en≤mc)=false:=decide_eq_false (by omega);have HMX:Hid (mx=cm):=by have:=HMX0.out;show _=_;omega
     rw[HMX.out] at E;clear hA hB;go_quiet (fail)
     have UQ6:Hid (FT W6 (W6.drewN nq)):=(Fr.refl _ W6).drewN nq;generalize W6.drewN nq=W7 at UQ6 ⊢;clear v4 v6 v9 y7;refine k8F ?_;intro H7 MX7 FP7 v1 v3 v4 v5 v6 v9 y7 z7;obtain⟨W8,hW8⟩:=zE W7;rw[hW8] at H7 MX7 FP7 y7 z7 v1 v3 v4 v5 v6 v9 ⊢
     have H8:Hid (DNs X W8 b { n3 with commit:=cm } q3):=by exact m4z
     have MX8:=MX7;have FP8:=FP7;have UH:Hid (FT W8 W8.drew):=(Fr.refl _ _).drew
     have CE:Hid (∀W,FT W8 W→W.cell? ⟨b,0,none⟩=some (.int .i64 me)∧W.cell? ⟨b,6,none⟩=some (.int .u64 (tm2:Nat))∧W.cell? ⟨b,7,none⟩=some (.int .u64 (cm:Nat))):=fun W f=>by exact mJM
     go_wp2_with fail
     clear hW8 y7 z7 v1 v3 v4 v5 v6 v9;refine wpR [(125,0),(126,1),(127,2),(128,3),(129,4),(130,5),(131,6),(132,7),(133,8),(134,9),(135,10),(136,11),(137,12),(4,13)] [(0,[]),(1,[0]),(2,[1]),(3,[2]),(4,[]),(5,[4]),(6,[]),(7,[6]),(8,[7]),(9,[8]),(10,[]),(11,[3,5,9,10])] (ckR [(0,.pointer (some ⟨b,0,none⟩)),(1,.pointer (some ⟨b,0,none⟩)),(2,.pointer (some ⟨b,0,none⟩)),(3,.int .i64 me),(4,.pointer (some ⟨g0,1,none⟩)),(5,.int .i64 s),(6,.pointer (some ⟨b,0,none⟩)),(7,.pointer (some ⟨b,0,none⟩)),(8,.pointer (some ⟨b,6,none⟩)),(9,.int .u64 (tm2:Nat)),(10,.int .u64 (en:Nat)),(11,.agg #[.int .i64 6,.int .i64 me,.int .i64 s,.int .u64 (tm2:Nat),.int .u64 (en:Nat),.int .u64 0,.int .u64 0,.bool true,.slice none 0 0,.slice none 0 0])] [] 12 0) 2 rfl ?cfall ?cfend
     case cfall=>exact mJU
     case cfend=>exact mRO
   ·by_cases hB:cm<en
    ·have gA:decide (mc<en)=false:=decide_eq_false hA;have gC:decide (en≤mc)=true:=decide_eq_true (by omega);have gD:decide (cm<en)=true:=decide_eq_true hB;have HMX:Hid (mx=en):=by have:=HMX0.out;show _=_;omega
     rw[HMX.out] at E;clear hA hB;go_quiet (fail)
     have UQ6:Hid (FT W6 (W6.drewN nq)):=(Fr.refl _ W6).drewN nq;generalize W6.drewN nq=W7 at UQ6 ⊢;clear v4 v6 v9 y7;refine k8F ?_;intro H7 MX7 FP7 v1 v3 v4 v5 v6 v9 y7 z7;obtain⟨W8,hW8⟩:=zE (W7.setCell ⟨b,7,none⟩ (.int .u64 (en:Nat)));have hW8s:kV W7 b [(7,.int .u64 (en:Nat))]=W8:=hW8;have f8:Fr (fun c _=>c≠b) W7 W8:=hW8s▸b_ b _ W7;have H8:Hid (DNs X W8 b { n3 with commit:=en } q3):=H7.out.re f8 (hW8s▸bw _ H7.out.top) ⟨rfl,rfl⟩ (H7.out.ye.aft (H7.out.own f8)) ⟨H7.out.ee,H7.out.ev.aft (H7.out.own f8)⟩ ⟨H7.out.nl,H7.out.ml⟩;refine kON ?_;intro MX8 FP8 u6;clear f8 hW8s;have UH:Hid (FT W8 W8.drew):=(Fr.refl _ _).drew
     have CE:Hid (∀W,FT W8 W→W.cell? ⟨b,0,none⟩=some (.int .i64 me)∧W.cell? ⟨b,6,none⟩=some (.int .u64 (tm2:Nat))∧W.cell? ⟨b,7,none⟩=some (.int .u64 (en:Nat))):=fun W f=>by exact mJM
     have y7':=(CE W8 (Fr.refl _ _)).2.2;go_wp2_with fail
     try rw[hW8]
     clear hW8 y7 y7' z7 u6 v1 v3 v4 v5 v6 v9;refine wpR [(125,0),(126,1),(127,2),(128,3),(129,4),(130,5),(131,6),(132,7),(133,8),(134,9),(135,10),(136,11),(137,12),(4,13)] [(0,[]),(1,[0]),(2,[1]),(3,[2]),(4,[]),(5,[4]),(6,[]),(7,[6]),(8,[7]),(9,[8]),(10,[]),(11,[3,5,9,10])] (ckR [(0,.pointer (some ⟨b,0,none⟩)),(1,.pointer (some ⟨b,0,none⟩)),(2,.pointer (some ⟨b,0,none⟩)),(3,.int .i64 me),(4,.pointer (some ⟨g0,1,none⟩)),(5,.int .i64 s),(6,.pointer (some ⟨b,0,none⟩)),(7,.pointer (some ⟨b,0,none⟩)),(8,.pointer (some ⟨b,6,none⟩)),(9,.int .u64 (tm2:Nat)),(10,.int .u64 (en:Nat)),(11,.agg #[.int .i64 6,.int .i64 me,.int .i64 s,.int .u64 (tm2:Nat),.int .u64 (en:Nat),.int .u64 0,.int .u64 0,.bool true,.slice none 0 0,.slice none 0 0])] [] 12 0) 2 rfl ?cfall ?cfend
     case cfall=>exact mJU
     case cfend=>exact mRO
    ·have gA:decide (mc<en)=false:=decide_eq_false hA;have gC:decide (en≤mc)=true:=decide_eq_true (by omega);have gD:decide (cm<en)=false:=decide_eq_false hB;have HMX:Hid (mx=cm):=by have:=HMX0.out;show _=_;omega
     rw[HMX.out] at E;clear hA hB;go_quiet (fail)
     have UQ6:Hid (FT W6 (W6.drewN nq)):=(Fr.refl _ W6).drewN nq;generalize W6.drewN nq=W7 at UQ6 ⊢;clear v4 v6 v9 y7;refine k8F ?_;intro H7 MX7 FP7 v1 v3 v4 v5 v6 v9 y7 z7;obtain⟨W8,hW8⟩:=zE W7;rw[hW8] at H7 MX7 FP7 y7 z7 v1 v3 v4 v5 v6 v9 ⊢
     have H8:Hid (DNs X W8 b { n3 with commit:=cm } q3):=by exact m4z
     have MX8:=MX7;have FP8:=FP7;have UH:Hid (FT W8 W8.drew):=(Fr.refl _ _).drew
     have CE:Hid (∀W,FT W8 W→W.cell? ⟨b,0,none⟩=some (.int .i64 me)∧W.cell? ⟨b,6,none⟩=some (.int .u64 (tm2:Nat))∧W.cell? ⟨b,7,none⟩=some (.int .u64 (cm:Nat))):=fun W f=>by exact mJM
     go_wp2_with fail
     clear hW8 y7 z7 v1 v3 v4 v5 v6 v9;refine wpR [(125,0),(126,1),(127,2),(128,3),(129,4),(130,5),(131,6),(132,7),(133,8),(134,9),(135,10),(136,11),(137,12),(4,13)] [(0,[]),(1,[0]),(2,[1]),(3,[2]),(4,[]),(5,[4]),(6,[]),(7,[6]),(8,[7]),(9,[8]),(10,[]),(11,[3,5,9,10])] (ckR [(0,.pointer (some ⟨b,0,none⟩)),(1,.pointer (some ⟨b,0,none⟩)),(2,.pointer (some ⟨b,0,none⟩)),(3,.int .i64 me),(4,.pointer (some ⟨g0,1,none⟩)),(5,.int .i64 s),(6,.pointer (some ⟨b,0,none⟩)),(7,.pointer (some ⟨b,0,none⟩)),(8,.pointer (some ⟨b,6,none⟩)),(9,.int .u64 (tm2:Nat)),(10,.int .u64 (en:Nat)),(11,.agg #[.int .i64 6,.int .i64 me,.int .i64 s,.int .u64 (tm2:Nat),.int .u64 (en:Nat),.int .u64 0,.int .u64 0,.bool true,.slice none 0 0,.slice none 0 0])] [] 12 0) 2 rfl ?cfall ?cfend
     case cfall=>exact mJU
     case cfend=>exact mRO
end
section
variable {X:Nat→Prop} {w w':World} {b:Nat} {n n':Nd} {q q':DV}
theorem wj [Old] (h:DNs X w b n q) (m:MV) (hm:MsAt X w m)  (hix:m.index+m.es.length+1<18446744073709551616) (hes:m.es.length≤400000) (hl:n.log.last+1<18446744073709551616) (hle:n.log.es.length≤400000):
 Calls Tryz.prog 11 #[.pointer (some ⟨b,0,none⟩),.agg (cM m)] w fun e w'=>gQ X w b (n.onAppend m.ms) e w':=by
 by_cases hk5:m.kind=5
 ·by_cases hlt:m.tm<n.tm
  ·exact r6 h m hm hk5 hlt hix hes hl hle
  ·exact r5 h m hm hk5 hlt hix hes hl hle
 ·exact r7 h m hm hk5 hix hes hl hle
end
end Go.Proofs.YtmjccpfchhnfhaaGreat
