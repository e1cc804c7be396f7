/- Texts of the proofs, part 28: what the functions that they reach do, walked; no conditions beyond those that each states. -/
import Derived.Deep.QuietTactic
import Derived.BigQuiet
import Derived.Test.YtmjccpfchhnfhaaGreatZkd240972508
import Derived.Test.YtmjccpfchhnfhaaGreatZk48c22ed045
set_option linter.unusedVariables false
set_option linter.unusedSimpArgs false
set_option maxRecDepth 100000
set_option maxHeartbeats 8000000
namespace Go.Proofs.YtmjccpfchhnfhaaGreat
open Go.RowKit
section
variable {X P:Nat→Prop} {w w':World} {b:Nat} {n n':Nd} {q q':NV}
theorem Bz [Old] (h:PNs X P w b n q) (m:MV) (hc:n.conf.length≤1000) (hy:n.yes.length≤900001) (ht:n.tm+1<18446744073709551616):
 Calls Tryz.prog 122 #[.pointer (some ⟨b,0,none⟩),.agg (cM m)] w fun e w'=>e=.returned (.bool (n.counts m.ms))∧FT w w':=by
 obtain⟨W1,hW1,F1,X1⟩:=xv w m;obtain⟨g0,hg0⟩:=zE w.heap.size;rw[hg0] at X1;have hW:n.counts m.ms=(m.ok&&((decide (n.role=2∧m.kind=2∧m.tm=n.tm)||decide (n.role=1∧m.kind=4∧m.tm=n.tm+1))&&(jK n.conf m.src&&!jK n.yes m.src))):=rfl;obtain⟨vc,hvc⟩:=zE q.vc;obtain⟨vy,hvy⟩:=zE q.vy;obtain⟨hcf,hhc⟩:=zE (jK n.conf m.src);obtain⟨hys,hhy⟩:=zE (jK n.yes m.src)
 have CT:Hid (∀W,FT W1 W→Calls Tryz.prog 94 #[vc,.int .i64 m.src] W fun e w'=>e=.returned (.bool hcf)∧w'=W):=fun W f=>by rw[←hhc,←hvc];exact(fQ W q.vc n.conf m.src (h.cf.tt (F1.out.trans f)) (by unfold maxLen;omega)).mono fun e w' ⟨h1,h2⟩=>And.intro h1 (by first | exact h2 | exact h2.symm)
 have CY:Hid (∀W,FT W1 W→Calls Tryz.prog 94 #[vy,.int .i64 m.src] W fun e w'=>e=.returned (.bool hys)∧w'=W):=fun W f=>by rw[←hhy,←hvy];exact(fQ W q.vy n.yes m.src (h.ye.ints.tt (F1.out.trans f)) (by unfold maxLen;omega)).mono fun e w' ⟨h1,h2⟩=>And.intro h1 (by first | exact h2 | exact h2.symm)
 obtain⟨k,hk⟩:=zE m.kind;obtain⟨mt,hmt⟩:=zE m.tm;obtain⟨s,hs⟩:=zE m.src;obtain⟨mo,hmo⟩:=zE m.ok;obtain⟨tm,htm⟩:=zE n.tm;obtain⟨ro,hro⟩:=zE n.role
 have CC:Hid (∀W,FT W1 W→(W.cell? ⟨b,2,none⟩=some (.int .i64 ro)∧W.cell? ⟨b,4,none⟩=some vc∧W.cell? ⟨b,5,none⟩=some vy∧W.cell? ⟨b,6,none⟩=some (.int .u64 (tm:Nat)))∧W.cell? ⟨g0,0,none⟩=some (.int .i64 k)∧W.cell? ⟨g0,1,none⟩=some (.int .i64 s)∧W.cell? ⟨g0,3,none⟩=some (.int .u64 (mt:Nat))∧W.cell? ⟨g0,7,none⟩=some (.bool mo)):=fun W f=>by obtain⟨x0,x1,x2,x3,x4,x5,x6,x7,x8,x9,x10,x11,x12,x13⟩:=h.cells (F1.trans f);obtain⟨v0,v1,v2,v3,v4,v5,v6,v7,v8,v9⟩:=bq (f.keep _ _ X1 trivial);exact⟨⟨by rw[x2,hro],by rw[x4,hvc],by rw[x5,hvy],by rw[x6,htm]⟩,by rw[v0,hk],by rw[v1,hs],by rw[v3,hmt],by rw[v7,hmo]⟩
 rw[hW,hhc,hhy,hmo,hro,hk,hmt,htm];rw[htm] at ht;rw[hs] at CT CY;unfold cM at hW1 ⊢;rw[hk,hs,hmt,hmo] at hW1 ⊢;have HG0:=zH hg0;have wt:IntKind.u64.wrap ((tm:Int)+1)=((tm+1:Nat):Int):=by rw[IntKind.wrap_u64];omega
 obtain⟨tm1,htm1⟩:=zE (tm+1);rw[htm1] at wt ⊢;obtain⟨⟨x2,x4,x5,x6⟩,v0,v1,v3,v7⟩:=CC W1 (Fr.refl _ _);clear hW hk hmt hs htm hro hmo hvc hvy hhc hhy hg0 ht htm1 hc hy h;by_cases r2:ro=2
 ·subst r2;have g3:((2:Int)==1)=false:=rfl;rw[decide_eq_false (show ¬((2:Int)=1∧k=4∧mt=tm1) from fun e=>by omega)];by_cases k2:k=2
  ·subst k2;by_cases e2:mt=tm
   ·subst e2;have g1:((mt:Int)==(mt:Int))=true:=by simp
    rw[decide_eq_true (show (2:Int)=2∧(2:Int)=2∧mt=mt from⟨rfl,rfl,rfl⟩)];go_enter Tryz.func122,Tryz.ntmps122
    go_wp2_with fail
    try rw[hW1]
    try rw[HG0.out]
    go_quiet (fail)
    generalize hA:W1.drewN nq=WA;have FA:Hid (FT W1 WA):=hA▸(Fr.refl _ W1).drewN nq;clear hA x2 x4 x5 x6 v0 v1 v3 v7;obtain⟨⟨x2,x4,x5,x6⟩,v0,v1,v3,v7⟩:=CC WA FA;go_wp2_with fail
    go_quiet (fail)
    generalize hB:WA.drewN nq=WB;have FB:Hid (FT W1 WB):=FA.out.trans (hB▸(Fr.refl _ WA).drewN nq);clear hB x2 x4 x5 x6 v0 v1 v3 v7;obtain⟨⟨x2,x4,x5,x6⟩,v0,v1,v3,v7⟩:=CC WB FB;go_wp2_with fail
    cases mo with
    | false=>
     go_quiet (fail)
     go_wp2;go_ret;exact⟨rfl,(F1.trans FB).drewN _⟩
    | true=>
     cases hcf with
     | false=>
      go_quiet ((go_at_call 94;exact Calls.quiet_of_same (CT.out _ (FB.out.drewN _))))
      go_wp2;go_ret;exact⟨rfl,(F1.trans FB).drewN _⟩
     | true=>
      cases hys with
      | false=>
       go_quiet ((go_at_call 94;first | exact Calls.quiet_of_same (CT.out _ (FB.out.drewN _)) | exact Calls.quiet_of_same (CY.out _ (FB.out.drewN _))))
       go_wp2;go_ret;exact⟨rfl,(F1.trans FB).drewN _⟩
      | true=>
       go_quiet ((go_at_call 94;first | exact Calls.quiet_of_same (CT.out _ (FB.out.drewN _)) | exact Calls.quiet_of_same (CY.out _ (FB.out.drewN _))))
       go_wp2;go_ret;exact⟨rfl,(F1.trans FB).drewN _⟩
   ·have g1:((mt:Int)==(tm:Int))=false:=by simp;omega
    rw[decide_eq_false (show ¬((2:Int)=2∧(2:Int)=2∧mt=tm) from fun e=>e2 e.2.2)];clear e2;go_enter Tryz.func122,Tryz.ntmps122
    go_wp2_with fail
    try rw[hW1]
    try rw[HG0.out]
    go_quiet (fail)
    generalize hA:W1.drewN nq=WA;have FA:Hid (FT W1 WA):=hA▸(Fr.refl _ W1).drewN nq;clear hA x2 x4 x5 x6 v0 v1 v3 v7;obtain⟨⟨x2,x4,x5,x6⟩,v0,v1,v3,v7⟩:=CC WA FA;go_wp2_with fail
    go_quiet (fail)
    generalize hB:WA.drewN nq=WB;have FB:Hid (FT W1 WB):=FA.out.trans (hB▸(Fr.refl _ WA).drewN nq);clear hB x2 x4 x5 x6 v0 v1 v3 v7;obtain⟨⟨x2,x4,x5,x6⟩,v0,v1,v3,v7⟩:=CC WB FB;go_wp2_with fail
    cases mo with
    | false=>
     go_quiet (fail)
     go_wp2;go_ret;exact⟨rfl,(F1.trans FB).drewN _⟩
    | true=>
     go_quiet (fail)
     go_wp2;go_ret;exact⟨rfl,(F1.trans FB).drewN _⟩
  ·have g1:(k==2)=false:=by simpa using k2
   rw[decide_eq_false (show ¬((2:Int)=2∧k=2∧mt=tm) from fun e=>k2 e.2.1)];clear k2;go_enter Tryz.func122,Tryz.ntmps122
   go_wp2_with fail
   try rw[hW1]
   try rw[HG0.out]
   go_quiet (fail)
   generalize hA:W1.drewN nq=WA;have FA:Hid (FT W1 WA):=hA▸(Fr.refl _ W1).drewN nq;clear hA x2 x4 x5 x6 v0 v1 v3 v7;obtain⟨⟨x2,x4,x5,x6⟩,v0,v1,v3,v7⟩:=CC WA FA;go_wp2_with fail
   go_quiet (fail)
   generalize hB:WA.drewN nq=WB;have FB:Hid (FT W1 WB):=FA.out.trans (hB▸(Fr.refl _ WA).drewN nq);clear hB x2 x4 x5 x6 v0 v1 v3 v7;obtain⟨⟨x2,x4,x5,x6⟩,v0,v1,v3,v7⟩:=CC WB FB;go_wp2_with fail
   cases mo with
   | false=>
    go_quiet (fail)
    go_wp2;go_ret;exact⟨rfl,(F1.trans FB).drewN _⟩
   | true=>
    go_quiet (fail)
    go_wp2;go_ret;exact⟨rfl,(F1.trans FB).drewN _⟩
 ·have g1:(ro==2)=false:=by simpa using r2
  rw[decide_eq_false (show ¬(ro=2∧k=2∧mt=tm) from fun e=>r2 e.1)];clear r2;by_cases r1:ro=1
  ·subst r1;by_cases k4:k=4
   ·subst k4;by_cases e2:mt=tm1
    ·subst e2;have g2:((mt:Int)==(mt:Int))=true:=by simp
     rw[decide_eq_true (show (1:Int)=1∧(4:Int)=4∧mt=mt from⟨rfl,rfl,rfl⟩)];go_enter Tryz.func122,Tryz.ntmps122
     go_wp2_with fail
     try rw[hW1]
     try rw[HG0.out]
     go_quiet (fail)
     generalize hA:W1.drewN nq=WA;have FA:Hid (FT W1 WA):=hA▸(Fr.refl _ W1).drewN nq;clear hA x2 x4 x5 x6 v0 v1 v3 v7;obtain⟨⟨x2,x4,x5,x6⟩,v0,v1,v3,v7⟩:=CC WA FA;go_wp2_with fail
     go_quiet (fail)
     generalize hB:WA.drewN nq=WB;have FB:Hid (FT W1 WB):=FA.out.trans (hB▸(Fr.refl _ WA).drewN nq);clear hB x2 x4 x5 x6 v0 v1 v3 v7;obtain⟨⟨x2,x4,x5,x6⟩,v0,v1,v3,v7⟩:=CC WB FB;go_wp2_with fail
     cases mo with
     | false=>
      go_quiet (fail)
      go_wp2;go_ret;exact⟨rfl,(F1.trans FB).drewN _⟩
     | true=>
      cases hcf with
      | false=>
       go_quiet ((go_at_call 94;exact Calls.quiet_of_same (CT.out _ (FB.out.drewN _))))
       go_wp2;go_ret;exact⟨rfl,(F1.trans FB).drewN _⟩
      | true=>
       cases hys with
       | false=>
        go_quiet ((go_at_call 94;first | exact Calls.quiet_of_same (CT.out _ (FB.out.drewN _)) | exact Calls.quiet_of_same (CY.out _ (FB.out.drewN _))))
        go_wp2;go_ret;exact⟨rfl,(F1.trans FB).drewN _⟩
       | true=>
        go_quiet ((go_at_call 94;first | exact Calls.quiet_of_same (CT.out _ (FB.out.drewN _)) | exact Calls.quiet_of_same (CY.out _ (FB.out.drewN _))))
        go_wp2;go_ret;exact⟨rfl,(F1.trans FB).drewN _⟩
    ·have g2:((mt:Int)==(tm1:Int))=false:=by simp;omega
     rw[decide_eq_false (show ¬((1:Int)=1∧(4:Int)=4∧mt=tm1) from fun e=>e2 e.2.2)];clear e2;go_enter Tryz.func122,Tryz.ntmps122
     go_wp2_with fail
     try rw[hW1]
     try rw[HG0.out]
     go_quiet (fail)
     generalize hA:W1.drewN nq=WA;have FA:Hid (FT W1 WA):=hA▸(Fr.refl _ W1).drewN nq;clear hA x2 x4 x5 x6 v0 v1 v3 v7;obtain⟨⟨x2,x4,x5,x6⟩,v0,v1,v3,v7⟩:=CC WA FA;go_wp2_with fail
     go_quiet (fail)
     generalize hB:WA.drewN nq=WB;have FB:Hid (FT W1 WB):=FA.out.trans (hB▸(Fr.refl _ WA).drewN nq);clear hB x2 x4 x5 x6 v0 v1 v3 v7;obtain⟨⟨x2,x4,x5,x6⟩,v0,v1,v3,v7⟩:=CC WB FB;go_wp2_with fail
     cases mo with
     | false=>
      go_quiet (fail)
      go_wp2;go_ret;exact⟨rfl,(F1.trans FB).drewN _⟩
     | true=>
      go_quiet (fail)
      go_wp2;go_ret;exact⟨rfl,(F1.trans FB).drewN _⟩
   ·have g2:(k==4)=false:=by simpa using k4
    rw[decide_eq_false (show ¬((1:Int)=1∧k=4∧mt=tm1) from fun e=>k4 e.2.1)];clear k4;go_enter Tryz.func122,Tryz.ntmps122
    go_wp2_with fail
    try rw[hW1]
    try rw[HG0.out]
    go_quiet (fail)
    generalize hA:W1.drewN nq=WA;have FA:Hid (FT W1 WA):=hA▸(Fr.refl _ W1).drewN nq;clear hA x2 x4 x5 x6 v0 v1 v3 v7;obtain⟨⟨x2,x4,x5,x6⟩,v0,v1,v3,v7⟩:=CC WA FA;go_wp2_with fail
    go_quiet (fail)
    generalize hB:WA.drewN nq=WB;have FB:Hid (FT W1 WB):=FA.out.trans (hB▸(Fr.refl _ WA).drewN nq);clear hB x2 x4 x5 x6 v0 v1 v3 v7;obtain⟨⟨x2,x4,x5,x6⟩,v0,v1,v3,v7⟩:=CC WB FB;go_wp2_with fail
    cases mo with
    | false=>
     go_quiet (fail)
     go_wp2;go_ret;exact⟨rfl,(F1.trans FB).drewN _⟩
    | true=>
     go_quiet (fail)
     go_wp2;go_ret;exact⟨rfl,(F1.trans FB).drewN _⟩
  ·have g2:(ro==1)=false:=by simpa using r1
   rw[decide_eq_false (show ¬(ro=1∧k=4∧mt=tm1) from fun e=>r1 e.1)];clear r1;go_enter Tryz.func122,Tryz.ntmps122
   go_wp2_with fail
   try rw[hW1]
   try rw[HG0.out]
   go_quiet (fail)
   generalize hA:W1.drewN nq=WA;have FA:Hid (FT W1 WA):=hA▸(Fr.refl _ W1).drewN nq;clear hA x2 x4 x5 x6 v0 v1 v3 v7;obtain⟨⟨x2,x4,x5,x6⟩,v0,v1,v3,v7⟩:=CC WA FA;go_wp2_with fail
   go_quiet (fail)
   generalize hB:WA.drewN nq=WB;have FB:Hid (FT W1 WB):=FA.out.trans (hB▸(Fr.refl _ WA).drewN nq);clear hB x2 x4 x5 x6 v0 v1 v3 v7;obtain⟨⟨x2,x4,x5,x6⟩,v0,v1,v3,v7⟩:=CC WB FB;go_wp2_with fail
   cases mo with
   | false=>
    go_quiet (fail)
    go_wp2;go_ret;exact⟨rfl,(F1.trans FB).drewN _⟩
   | true=>
    go_quiet (fail)
    go_wp2;go_ret;exact⟨rfl,(F1.trans FB).drewN _⟩
end
def fK:Nat→Code→Code
 | 0,c=>c
 | n+1,.seq _ b=>fK n b
 | _+1,c=>c
def cW:Option Code→Code
 | some c=>c
 | none=>.skip
theorem j5:∀T:List Int,T.flatMap encI=T.map B9
 | []=>rfl
 | x :: T=>by rw[List.flatMap_cons,j5 T];rfl
theorem nv {o:Oper} {a:Act} {K:Act→World→Prop} {Q:Exit→Act→World→Prop} (W:World) (s x:Operand)
 (ho:o.op=.call { callee:=.builtin .append,args:=#[s,x],argTypes:=#[22,22] }) (v:Value) (T:List Int) (hs:a.eval s=v) (hown:Hid (RowI W 0 v T))
 (bx:Nat) (y:Int) (hx:a.eval x=.slice (some ⟨bx,0,none⟩) 1 1) (hb:Hid (W.heap[bx]? = some (.cells #[.int .i64 y] 3 (0,0)))) (hn:T.length+1≤1000000)
 (h:∀g c w',Hid (RowI w' 0 (.slice g (T.length+1) c) (T++[y]))→Hid (Fr (fun b _=>v.ownBlock≠some b) W w')→Hid (OwnNext W v (.slice g (T.length+1) c))→K (a.put o.dst (.slice g (T.length+1) c)) w'):o.wp Tryz.prog a W K Q:=by
 have f0:FT { W with heap:=#[] } W:=⟨rfl,rfl,rfl,Nat.zero_le _,fun b o hb=>by simp at hb⟩
 refine fj { W with heap:=#[] } W f0 s x ho v T hs ?_ _ [y] hx (lX hb.out) (T++[y]) rfl (T.length+1) (by show _=_;simp) hn fun g c w' h1 _ h3 h4=>h g c w' ?_ h3 h4
 ·show W.ownsRow 0 _ _ _ _ _;rw[j5];exact hown
 ·show w'.ownsRow 0 _ _ _ _ _;rw[List.length_append,←j5];exact h1
section
variable {X P:Nat→Prop} {w w':World} {b:Nat} {n n':Nd} {q q':NV}
theorem PNs.reYo [Old] (h:PNs X P w b n q) (hf:Fr (fun c _=>c≠b∧q.vy.ownBlock≠some c) w w') (ht:w'.heap[b]? = some (.cells (W14 n' q') 99 (0,0)))
 (hc:n'.conf=n.conf∧q'.vc=q.vc) (he:n'.log.es=n.log.es∧q'.ve=q.ve∧q'.es=q.es) (ha:n'.next=n.next∧n'.mat=n.mat∧q'.bn=q.bn∧q'.bm=q.bm)
 (g:Nat) (hy:RowI w' 0 q'.vy n'.yes) (hyg:q'.vy.ownBlock=some g) (hg:q.vy.ownBlock=some g∨w.heap.size≤g):PNs (fun c=>X c∨c=g) (fun c=>P c∨c=g) w' b n' q'∧Aft X P (fun c=>X c∨c=g) (fun c=>P c∨c=g) w w':=by
 have aft:Aft X P (fun c=>X c∨c=g) (fun c=>P c∨c=g) w w':=⟨hf.mono fun c _ hc=>⟨fun e=>hc (e▸h.pb),fun e=>hc (h.yp c e)⟩,fun c=>⟨fun q=>q.elim .inl fun e=>.inr (.inr e),fun q=>q.elim .inl fun e=>e.elim (fun p=>.inl (h.px c p)) .inr⟩,fun c=>.inl,fun c q=>q.elim .inl fun e=>hg.elim (fun k=>.inl (e▸h.yp g k)) (fun k=>.inr (e▸k)),h.px⟩
 refine⟨⟨ht,?_,hy,fun c e=>?_,?_,?_,?_,?_,?_,.inl h.pb,?_,?_,fun c hc=>hc.elim (fun p=>.inl (h.px c p)) .inr,fun c hc=>?_,h.od⟩,aft⟩
 ·exact mlU
 ·rw[hyg] at e;cases e;exact .inr rfl
 ·rw[he.2.1,he.2.2];exact h.ev.aft aft
 ·rw[he.1,he.2.2];exact h.ee
 ·rw[ha.1,ha.2.2.1];exact h.nx.fr hf fun _ _=>⟨h.bn_b,fun e=>(h.yb _ e).2.1 rfl⟩
 ·rw[ha.2.1,ha.2.2.2];exact h.mt.fr hf fun _ _=>⟨h.bm_b,fun e=>(h.yb _ e).2.2 rfl⟩
 ·exact m20
 ·rw[ha.2.2.1];exact .inl h.pn
 ·rw[ha.2.2.2];exact .inl h.pm
 ·exact mP6
theorem Bk [Old] (h:PNs X P w b n q) (hcf:0<n.conf.length∧n.conf.length≤1000) (mN:Nat) (hme:n.me=(mN:Nat)) (hm16:mN<16) (htm:n.tm+1<18446744073709551616) (hl:n.log.last+1<18446744073709551616) (hle:n.log.es.length≤900000):
 Calls Tryz.prog 97 #[.pointer (some ⟨b,0,none⟩)] w fun e w'=>jq X P w b n.chosen e w':=by
 unfold Nd.chosen;by_cases hr:n.role=1
 ·rw[if_pos hr];exact tq h hr hcf mN hme hm16 htm hl hle
 ·rw[if_neg hr];exact qv h hr mN hme hm16 hl hle
theorem pY [Old] (h:PNs X P w b n q) (m:MV) (hk2:m.kind≠2) (hk4:m.kind≠4) (hcf:0<n.conf.length∧n.conf.length≤1000) (hy:n.yes.length≤900000) (mN:Nat) (hme:n.me=(mN:Nat)) (hm16:mN<16) (htm:n.tm+1<18446744073709551616) (htm2:m.tm+1<18446744073709551616) (hl:n.log.last+1<18446744073709551616) (hle:n.log.es.length≤900000):
 Calls Tryz.prog 87 #[.pointer (some ⟨b,0,none⟩),.agg (cM m)] w fun e w'=>jq X P w b (n.onAnswer m.ms) e w':=by
 obtain⟨W1,hW1,F1,X1⟩:=xv w m;obtain⟨g0,hg0⟩:=zE w.heap.size;rw[hg0] at X1;have H:=zH h;have HG0:=zH hg0;obtain⟨k,hk⟩:=zE m.kind;obtain⟨mo,hmo⟩:=zE m.ok;have HK:=zH hk;have HMO:=zH hmo;have gb:Hid (g0≠b):=by have:=bX h.top;show _≠_;omega
 refine kM5 ?_;intro v0;unfold cM at hW1 ⊢;have k2:(k==2)=false:=by rw[←hk];simpa using hk2
 have k4:(k==4)=false:=by rw[←hk];simpa using hk4
 have E:Hid (n.onAnswer m.ms=(n,[])):=if_neg (show ¬(m.kind=2∨m.kind=4) by omega);have k2':(k != 2)=true:=by rw[bne,k2];rfl
 have k4':(k != 4)=true:=by rw[bne,k4];rfl
 clear hk2 hk4;clear h hk hmo;go_enter Tryz.func87,Tryz.ntmps87
 go_wp2
 try rw[hW1]
 go_ret;rw[E.out];exact⟨X,P,q,_,[],rfl,H.tt F1,.tt F1 H.px,OwnMs.nil _ _ _,rfl⟩
end
section
variable {X P:Nat→Prop} {w w':World} {b:Nat} {n n':Nd} {q q':NV}
theorem lk [Old] {Wf:World} {g0:Nat} {n1:Nd} {q1:NV} {r:Nd×List Ms} (h3:PNs X P Wf b n1 q1) (m:MV) (tf:Wf.heap[g0]? = some (.cells (cM m) 32 (0,0))) (af:Aft X P X P w Wf) (eq:r=if n1.counts m.ms then(let n2:Nd:={ n1 with yes:=n1.yes++[m.src] };if mV n2.conf n2.yes then n2.chosen else(n2,[])) else(n1,[])) (hcf:0<n1.conf.length∧n1.conf.length≤1000) (hy:n1.yes.length≤900000) (mN:Nat) (hme:n1.me=(mN:Nat)) (hm16:mN<16) (htm:n1.tm+1<18446744073709551616) (hl:n1.log.last+1<18446744073709551616) (hle:n1.log.es.length≤900000) (fu:Nat→Value):
  Code.wp Tryz.prog (fK 3 (cW Tryz.f87.body)) (bodyPost Tryz.prog Tryz.f87 fun e w'=>jq X P w b r e w') { tmps:=tU 61 fu [(0,.pointer (some ⟨b,0,none⟩)),(3,.pointer (some ⟨g0,0,none⟩))],defers:=[] } Wf:=by
 have H3:=zH h3
 have Tf:=zH tf
 have AFf:=zH af
 have HY:=zH hy
 obtain⟨ct,hct⟩:=zE (n1.counts m.ms)
 have CO:=zH (Bz h3 m hcf.2 (by omega) htm)
 rw[hct] at CO
 have HCT:=zH hct
 have EQ:=zH eq
 clear hct h3 tf af eq hy
 obtain⟨v0,v1,v2,v3,v4,v5,v6,v7,v8,v9⟩:=bq Tf
 dsimp only[cM] at CO
 simp only[tU,tL,Nat.reduceAdd,Nat.reduceBEq,cond_true,cond_false]
 dsimp only[fK,cW,Tryz.f87]
 go_wp2_with fail
 (with_reducible refine CO.out.mono ?_)
 rintro e Wc ⟨rfl,fc⟩
 have FC:=zH fc
 have Hc:=zH (H3.tt fc)
 have Tc:Hid (Wc.heap[g0]? = some (.cells (cM m) 32 (0,0))):=fc.keep _ _ Tf trivial
 have AFc:=zH (AFf.tr fc)
 clear fc CO v0 v1 v2 v3 v4 v5 v6 v7 v8 v9
 cases ct with
 | false=>
  go_wp2
  go_ret
  rw[EQ.out,HCT.out]
  exact⟨X,P,q1,_,[],rfl,Hc,AFc,OwnMs.nil _ _ _,rfl⟩
 | true=>
  replace EQ:Hid (r=(let n2:Nd:={ n1 with yes:=n1.yes++[m.src] };if mV n2.conf n2.yes then n2.chosen else(n2,[]))):=EQ.out.trans (by rw[HCT.out];rfl)
  obtain⟨vy,hvy⟩:=zE q1.vy
  obtain⟨s,hs⟩:=zE m.src
  have HVY:=zH hvy
  have HS:=zH hs
  have CC:Hid (∀W,FT Wc W→W.cell? ⟨b,5,none⟩=some vy∧W.cell? ⟨g0,1,none⟩=some (.int .i64 s)):=fun W f=>by
   exact⟨by rw[(Hc.out.cells f).2.2.2.2.2.1,hvy],by rw[(bq (f.keep _ _ Tc.out trivial)).2.1,hs]⟩
  clear hvy hs
  have UD:Hid (FT Wc Wc.drew):=(Fr.refl _ _).drew
  go_wp2_with fail
  refine cY (K:=fun _ _=>True) (vt:=.pointer (some ⟨b,0,none⟩)) 0 rfl (by kernel_rfl) (by kernel_rfl) (by kernel_rfl) (fun _ _ _ h=>h) (Or.inl ⟨by rfl,?cfy⟩) (by kernel_rfl) [(38,0),(39,1),(40,2),(41,3),(42,4),(43,5),(44,6),(45,7),(46,8),(47,9),(48,10)] [(0,[]),(1,[]),(2,[1]),(3,[2]),(4,[3]),(5,[]),(6,[5]),(7,[6])] (ckR [(0,.pointer (some ⟨b,0,none⟩)),(1,.pointer (some ⟨b,0,none⟩)),(2,.pointer (some ⟨b,0,none⟩)),(3,.pointer (some ⟨b,5,none⟩)),(4,vy),(5,.pointer (some ⟨g0,1,none⟩)),(6,.int .i64 s)] [(7,⟨fun v W=>∃g,v=.slice (some ⟨g,0,none⟩) 1 1∧W.heap[g]? = some (.cells #[.int .i64 s] 3 (0,0))∧Wc.heap.size≤g,fun v W W' h hf=>by obtain⟨g,h1,h2,h3⟩:=h;exact⟨g,h1,hf.keep _ _ h2 trivial,h3⟩⟩)] 8 0) 4 (by kernel_rfl) (by kernel_rfl) (by kernel_rfl) rfl (fun _=>rfl) (by rfl) 38 rfl (by simp) ?cfall ?cfend
  case cfy=>(intro w;(try simp only[gA,gB,gC]);go_simp)
  case cfall=>
   iterate 7
    refine bY.q rfl rfl rfl (kQQ ?_) ?_
    ·intro xs W HF K' hK
     obtain⟨y5,v1⟩:=CC W (UD.trans HF)
     exact mD8
   refine bY.p rfl rfl (kPP ?_) ?_
   ·intro xs W HF K' hK
    have SB:Hid (Wc.heap.size≤W.heap.size):=(UD.trans HF).size
    exact mid
   exact m36
  case cfend=>
   refine kEH ?_
   intro xs W HF hA
   have h7:=hA (7,[6]) (by decide)
   clear hA
   obtain⟨g1,e7,tg,hg1⟩:=h7
   rw[e7]
   have FW:=zH (UD.trans HF)
   have HW:=zH (Hc.tt FW)
   have HOWN:Hid (RowI W 0 vy n1.yes):=by show RowI _ _ _ _;rw[←HVY.out];exact HW.out.ye
   have TG:=zH tg
   have ny:Hid (vy.ownBlock≠some b):=by show _≠_;rw[←HVY.out];intro e;exact(HW.out.yb _ e).1 rfl
   have HL1:Hid (n1.yes.length+1≤1000000):=by have:=HY.out;show _≤_;omega
   clear tg hg1 UD CC
   refine wpN 8 rfl fun K' hK=>?_
   (try simp only[List.getElem_toArray,List.getElem_cons_zero,List.getElem_cons_succ])
   refine(iteInduction (motive:=fun t=>t) (fun _=>?_) (fun hn=>absurd rfl hn))
   with_reducible refine nv (K:=fun a w=>K' a w) W (.tmp 42) (.tmp 45) ?h1 vy n1.yes ?h2 HOWN g1 s ?h3 TG HL1.out ?_
   case h1=>rfl
   case h2=>(simp [Act.eval,Act.put,fillA,fillL];done)
   case h3=>(simp [Act.eval,Act.put,fillA,fillL];done)
   obtain⟨N,hN⟩:=zE (n1.yes.length+1)
   rw[hN]
   intro gy cy Wy HRY HFY HON
   have HN:=zH hN
   clear hN
   refine hK _ _ ?_
   clear hK K'
   have Ty:Hid (Wy.heap[b]? = some (.cells (W14 n1 q1) 99 (0,0))):=HFY.keep _ _ HW.top ny
   have y5:Wy.cell? ⟨b,5,none⟩=some vy:=by rw[←HVY.out];exact bQ Ty.out rfl
   have z5:=bV (i:=5) Ty
   obtain⟨Wz,hWz⟩:=zE (Wy.setCell ⟨b,5,none⟩ (.slice gy N cy))
   obtain⟨v2,hv2⟩:=zE (Value.slice gy N cy)
   obtain⟨G,eG⟩:∃G,v2.ownBlock=some G:=by
    rcases HRY.2 with⟨_,e⟩ | ⟨g,c,cur,e,hb,r⟩
    ·exact absurd e (by simp)
    ·rw[hv2] at e
     rw[e]
     exact⟨g,rfl⟩
   have fz:Fr (fun c _=>c≠b) Wy Wz:=hWz▸(Fr.refl _ _).setCell (fun _ _ h=>h rfl) _
   have bW:b<W.heap.size:=bX HW.top
   obtain⟨n2,hn2⟩:∃x:Nd,{ n1 with yes:=n1.yes++[s] }=x:=⟨_,rfl⟩
   obtain⟨q2,hq2⟩:∃x:NV,{ q1 with vy:=v2 }=x:=⟨_,rfl⟩
   have HY:=Hc.out.reYo (w':=Wz) (n':={ n1 with yes:=n1.yes++[s] }) (q':={ q1 with vy:=v2 }) ((FW.out.tT).trans ((HFY.out.mono fun c _ h e=>h.2 (by rw[HVY.out];exact e)).trans (fz.mono fun c _ h=>h.1)))
    (by rw[←hWz,←hv2];exact bJ (o:=5) Ty.out _) ⟨rfl,rfl⟩ ⟨rfl,rfl,rfl⟩ ⟨rfl,rfl,rfl,rfl⟩ G (by rw[←hv2];exact bK HRY.out fz fun c o e _ h=>(HON.out.ne ny.out bW) (h▸e)) eG
    (by
     rcases HON with e | ⟨k,e,hk⟩
     ·rw[hv2,eG] at e;rw[HVY.out];exact .inl e.symm
     ·rw[hv2,eG] at e;cases e;exact .inr (Nat.le_trans FW.out.size hk))
   rw[hn2,hq2] at HY
   have H5:=zH HY.1
   have A5:=zH (AFc.trans HY.2)
   clear HY fz
   obtain⟨X1',hX1⟩:∃Z:Nat→Prop,(fun c=>X c∨c=G)=Z:=⟨_,rfl⟩
   obtain⟨P1',hP1⟩:∃Z:Nat→Prop,(fun c=>P c∨c=G)=Z:=⟨_,rfl⟩
   rw[hX1,hP1] at H5 A5
   obtain⟨vc,hvc⟩:=zE q1.vc
   have hq4:n2.conf=n1.conf∧q2.vc=vc∧n2.yes=n1.yes++[s]∧q2.vy=v2∧n2.me=n1.me∧n2.log=n1.log∧n2.tm=n1.tm:=by rw[←hn2,←hq2];exact⟨rfl,hvc,rfl,rfl,rfl,rfl,rfl⟩
   have AG:=zH (fun k=>(m5 (Wz.drewN k) q2.vc q2.vy n2.conf n2.yes (H5.out.cf.tt ((Fr.refl _ Wz).drewN k)) (H5.out.ye.ints.tt ((Fr.refl _ Wz).drewN k)) (by rw[hq4.1];have:=hcf.2;unfold maxLen;omega) (by rw[hq4.2.2.1,List.length_append];have:=HL1.out;unfold maxLen;simp only[List.length_cons,List.length_nil];omega)).mono fun e w' ⟨h1,h2⟩=>And.intro h1 h2.symm)
   have CHL:Hid (∀k,Calls Tryz.prog 97 #[.pointer (some ⟨b,0,none⟩)] (Wz.drewN k) fun e w'=>jq X1' P1' (Wz.drewN k) b n2.chosen e w'):=fun k=>
    Bk (H5.out.tt ((Fr.refl _ Wz).drewN k)) (by rw[hq4.1];exact hcf) mN (by rw[hq4.2.2.2.2.1];exact hme) hm16 (by rw[hq4.2.2.2.2.2.2];exact htm) (by rw[hq4.2.2.2.2.2.1];exact hl) (by rw[hq4.2.2.2.2.2.1];exact hle)
   have f4:Wz.cell? ⟨b,4,none⟩=some vc:=by rw[(H5.out.cells (Fr.refl _ Wz)).2.2.2.2.1,hq4.2.1]
   have f5:Wz.cell? ⟨b,5,none⟩=some v2:=by rw[(H5.out.cells (Fr.refl _ Wz)).2.2.2.2.2.1,hq4.2.2.2.1]
   rw[hq4.2.1,hq4.2.2.2.1] at AG
   obtain⟨ag,hag⟩:=zE (mV n2.conf n2.yes)
   rw[hag] at AG
   have EQ2:Hid (r=if ag=true then n2.chosen else(n2,[])):=by
    refine EQ.trans ?_
    rw[←hag,←hn2,HS.out]
   have HV2:=zH hv2
   clear hq4 hag hn2 hq2 hX1 hP1 hvc EQ
   clear hv2
   refine wpN 9 rfl fun K' hK=>?_
   skip
   go_simp
   refine hK _ _ ?_
   clear hK K'
   refine wpN 10 rfl fun K' hK=>?_
   skip
   go_simp
   refine hK _ _ ?_
   clear hK K'
   refine wpN 11 rfl fun K' hK=>?_
   skip
   go_simp
   refine hK _ _ ?_
   clear hK K'
   refine wpF ?_
   try rw[hWz]
   clear y5 z5 hWz
   go_wp2_with fail
   go_quiet ((go_at_call 96;exact Calls.quiet_of_same (AG.out _)))
   have U5:Hid (FT Wz (Wz.drewN nq)):=(Fr.refl _ Wz).drewN nq
   clear AG f4 f5
   cases ag with
   | true=>
    have CHO:=zH (CHL nq)
    have OUT:Hid (r=n2.chosen):=EQ2.trans (if_pos rfl)
    clear CHL EQ2
    go_wp2_with fail
    (with_reducible refine CHO.out.mono ?_)
    intro e w9 ho
    replace ho:=ho.behind (A5.tr U5)
    obtain⟨X',P',q',v,mvs,rfl,h2,h3,h4,h5⟩:=ho
    refine kPO ?_
    intro HH
    clear h2 h3 h4 h5 CHO
    go_wp2
    go_ret
    rw[OUT.out]
    exact⟨X',P',q',_,mvs,rfl,HH.1,HH.2.1,HH.2.2.1,HH.2.2.2⟩
   | false=>
    have OUT:Hid (r=(n2,[])):=EQ2.trans (if_neg (by decide))
    clear CHL EQ2
    go_wp2
    go_ret
    rw[OUT.out]
    exact⟨X1',P1',q2,_,[],rfl,H5.tt U5,A5.tr U5,OwnMs.nil _ _ _,rfl⟩
end
theorem kGX {p q:Prop} (k:q) (h:q→p:=by
 have FO:=zH (gJ (TN WA FA).1 m.tm (-1));have v3:=(bq (TN WA FA).2).2.2.2.1;intro kk0;revert v3;revert FO;exact kk0):p:=h k
theorem m14 {p:Prop} (h:p:=by
 skip
 have gl:decide (n.tm<m.tm)=false:=decide_eq_false hf;have HF:=zH hf;clear hf H24;go_enter Tryz.func87,Tryz.ntmps87
 go_wp2_with fail
 try rw[hW1]
 try rw[HG0.out]
 clear hW1 hg0;go_quiet (fail)
 rename_i K5 h5 K4 h4;have H5:=zH h5;clear v0 y6 gl v7 h5 v3;have FA:Hid (FT W1 (W1.drewN nq)):=(Fr.refl _ W1).drewN nq;generalize W1.drewN nq=WA at FA ⊢;go_wp2;exact H5 _ _ (cw (fun fu=>lk (TN WA FA).1 m (TN WA FA).2 (.tt (F1.trans FA) H.px) (EQ _ (if_neg (fun e=>HF e.1))) BD.1 BD.2.1 mN BD.2.2.1 BD.2.2.2.1 BD.2.2.2.2.1 BD.2.2.2.2.2.2.1 BD.2.2.2.2.2.2.2 fu) (by kernel_rfl))):p:=h
section
variable {X P:Nat→Prop} {w w':World} {b:Nat} {n n':Nd} {q q':NV}
theorem rX [Old] (h:PNs X P w b n q) (m:MV) (hcf:0<n.conf.length∧n.conf.length≤1000) (hy:n.yes.length≤900000) (mN:Nat) (hme:n.me=(mN:Nat)) (hm16:mN<16) (htm:n.tm+1<18446744073709551616) (htm2:m.tm+1<18446744073709551616) (hl:n.log.last+1<18446744073709551616) (hle:n.log.es.length≤900000):
 Calls Tryz.prog 87 #[.pointer (some ⟨b,0,none⟩),.agg (cM m)] w fun e w'=>jq X P w b (n.onAnswer m.ms) e w':=by
 by_cases h24:m.kind≠2∧m.kind≠4
 ·exact pY h m h24.1 h24.2 hcf hy mN hme hm16 htm htm2 hl hle
 obtain⟨W1,hW1,F1,X1⟩:=xv w m;obtain⟨g0,hg0⟩:=zE w.heap.size;rw[hg0] at X1;have H:=zH h;have HG0:=zH hg0;obtain⟨k,hk⟩:=zE m.kind;obtain⟨mo,hmo⟩:=zE m.ok;have HK:=zH hk;have HMO:=zH hmo;have gb:Hid (g0≠b):=by have:=bX h.top;show _≠_;omega
 refine kM5 ?_;intro v0;unfold cM at hW1 ⊢;have v3:=(bq X1).2.2.2.1;have v7:W1.cell? ⟨g0,7,none⟩=some (.bool mo):=by rw[←hmo];exact(bq X1.out).2.2.2.2.2.2.2.1
 have y6:=(h.cells F1).2.2.2.2.2.2.1
 have EQ:Hid (∀n1,(if n.tm<m.tm∧(mo=false∨k=2) then n.follow m.tm (-1) else n)=n1→n.onAnswer m.ms=if n1.counts m.ms then(let n2:Nd:={ n1 with yes:=n1.yes++[m.src] };if mV n2.conf n2.yes then n2.chosen else(n2,[])) else(n1,[])):=fun n1 e=>by
  refine(if_pos (show m.kind=2∨m.kind=4 by omega)).trans ?_
  show (let n1:Nd:=if n.tm<m.tm∧(m.ok=false∨m.kind=2) then n.follow m.tm (-1) else n
   if n1.counts m.ms then(let n2:Nd:={ n1 with yes:=n1.yes++[m.src] };if mV n2.conf n2.yes then n2.chosen else(n2,[])) else(n1,[]))=_
  rw[hmo,hk,e]
 have TN:Hid (∀W,FT W1 W→PNs X P W b n q∧W.heap[g0]? = some (.cells (cM m) 32 (0,0))):=fun W f=>⟨H.tt (F1.trans f),f.keep _ _ X1 trivial⟩
 have H24:k=2∨k=4:=by rw[←hk];omega
 have BD:=zH (And.intro hcf (And.intro hy (And.intro hme (And.intro hm16 (And.intro htm (And.intro htm2 (And.intro hl hle)))))));clear h24 hcf hy hme hm16 htm htm2 hl hle;clear h hk hmo;by_cases k2:k=2
 ·subst k2;by_cases hf:n.tm<m.tm
  ·cases mo with
   | true=>
    refine khT ?_;intro gl;have HF:=zH hf;clear hf H24;go_enter Tryz.func87,Tryz.ntmps87
    go_wp2_with fail
    try rw[hW1]
    try rw[HG0.out]
    clear hW1 hg0;go_quiet (fail)
    rename_i K5 h5 K4 h4;have H5:=zH h5;clear v0 y6 gl v7 h5 v3;have FA:Hid (FT W1 (W1.drewN nq)):=(Fr.refl _ W1).drewN nq;generalize W1.drewN nq=WA at FA ⊢;refine kGX ?_;intro FO v3;go_wp2_with fail
    (with_reducible refine FO.out.mono ?_);rintro e Wf ⟨rfl,h3,f3⟩;have H3:=zH (And.intro h3 f3);clear v3 FO h3 f3;go_wp2;have nf:(n.follow m.tm (-1)).log=n.log∧(n.follow m.tm (-1)).me=n.me∧(n.follow m.tm (-1)).conf=n.conf∧(n.follow m.tm (-1)).yes.length≤900000∧(n.follow m.tm (-1)).tm+1<18446744073709551616:=by unfold Nd.follow;split <;> exact⟨rfl,rfl,rfl,Nat.zero_le _,by first | exact BD.2.2.2.2.2.1 | exact BD.2.2.2.2.1⟩
    exact H5.out _ _ (cw (fun fu=>lk H3.out.1 m (H3.out.2.keep _ _ (TN.out WA FA.out).2 gb.out) (.of (((F1.out.trans FA.out).tT).trans (H3.out.2.mono fun c _ hc e=>hc (e▸H.out.pb))) H.out.px) (EQ.out _ (if_pos ⟨HF.out,(by simp)⟩)) (by rw[nf.2.2.1];exact BD.out.1) nf.2.2.2.1 mN (by rw[nf.2.1];exact BD.out.2.2.1) BD.out.2.2.2.1 nf.2.2.2.2 (by rw[nf.1];exact BD.out.2.2.2.2.2.2.1) (by rw[nf.1];exact BD.out.2.2.2.2.2.2.2) fu) (by kernel_rfl))
   | false=>
    refine khT ?_;intro gl;have HF:=zH hf;clear hf H24;go_enter Tryz.func87,Tryz.ntmps87
    go_wp2_with fail
    try rw[hW1]
    try rw[HG0.out]
    clear hW1 hg0;go_quiet (fail)
    rename_i K5 h5 K4 h4;have H5:=zH h5;clear v0 y6 gl v7 h5 v3;have FA:Hid (FT W1 (W1.drewN nq)):=(Fr.refl _ W1).drewN nq;generalize W1.drewN nq=WA at FA ⊢;refine kGX ?_;intro FO v3;go_wp2_with fail
    (with_reducible refine FO.out.mono ?_);rintro e Wf ⟨rfl,h3,f3⟩;have H3:=zH (And.intro h3 f3);clear v3 FO h3 f3;go_wp2;have nf:(n.follow m.tm (-1)).log=n.log∧(n.follow m.tm (-1)).me=n.me∧(n.follow m.tm (-1)).conf=n.conf∧(n.follow m.tm (-1)).yes.length≤900000∧(n.follow m.tm (-1)).tm+1<18446744073709551616:=by unfold Nd.follow;split <;> exact⟨rfl,rfl,rfl,Nat.zero_le _,by first | exact BD.2.2.2.2.2.1 | exact BD.2.2.2.2.1⟩
    exact H5.out _ _ (cw (fun fu=>lk H3.out.1 m (H3.out.2.keep _ _ (TN.out WA FA.out).2 gb.out) (.of (((F1.out.trans FA.out).tT).trans (H3.out.2.mono fun c _ hc e=>hc (e▸H.out.pb))) H.out.px) (EQ.out _ (if_pos ⟨HF.out,(by simp)⟩)) (by rw[nf.2.2.1];exact BD.out.1) nf.2.2.2.1 mN (by rw[nf.2.1];exact BD.out.2.2.1) BD.out.2.2.2.1 nf.2.2.2.2 (by rw[nf.1];exact BD.out.2.2.2.2.2.2.1) (by rw[nf.1];exact BD.out.2.2.2.2.2.2.2) fu) (by kernel_rfl))
  ·exact m14
 ·obtain rfl:k=4:=by omega
  clear k2;by_cases hf:n.tm<m.tm
  ·cases mo with
   | true=>
    refine khT ?_;intro gl;have HF:=zH hf;clear hf H24;go_enter Tryz.func87,Tryz.ntmps87
    go_wp2_with fail
    try rw[hW1]
    try rw[HG0.out]
    clear hW1 hg0;go_quiet (fail)
    rename_i K5 h5 K4 h4;have H5:=zH h5;clear v0 y6 gl v7 h5 v3;have FA:Hid (FT W1 (W1.drewN nq)):=(Fr.refl _ W1).drewN nq;generalize W1.drewN nq=WA at FA ⊢;go_wp2;exact H5.out _ _ (cw (fun fu=>lk (TN.out WA FA.out).1 m (TN.out WA FA.out).2 (.tt (F1.out.trans FA.out) H.out.px) (EQ.out _ (if_neg (fun e=>by have:=e.2;revert this;decide))) BD.out.1 BD.out.2.1 mN BD.out.2.2.1 BD.out.2.2.2.1 BD.out.2.2.2.2.1 BD.out.2.2.2.2.2.2.1 BD.out.2.2.2.2.2.2.2 fu) (by kernel_rfl))
   | false=>
    refine khT ?_;intro gl;have HF:=zH hf;clear hf H24;go_enter Tryz.func87,Tryz.ntmps87
    go_wp2_with fail
    try rw[hW1]
    try rw[HG0.out]
    clear hW1 hg0;go_quiet (fail)
    rename_i K5 h5 K4 h4;have H5:=zH h5;clear v0 y6 gl v7 h5 v3;have FA:Hid (FT W1 (W1.drewN nq)):=(Fr.refl _ W1).drewN nq;generalize W1.drewN nq=WA at FA ⊢;refine kGX ?_;intro FO v3;go_wp2_with fail
    (with_reducible refine FO.out.mono ?_);rintro e Wf ⟨rfl,h3,f3⟩;have H3:=zH (And.intro h3 f3);clear v3 FO h3 f3;go_wp2;have nf:(n.follow m.tm (-1)).log=n.log∧(n.follow m.tm (-1)).me=n.me∧(n.follow m.tm (-1)).conf=n.conf∧(n.follow m.tm (-1)).yes.length≤900000∧(n.follow m.tm (-1)).tm+1<18446744073709551616:=by unfold Nd.follow;split <;> exact⟨rfl,rfl,rfl,Nat.zero_le _,by first | exact BD.2.2.2.2.2.1 | exact BD.2.2.2.2.1⟩
    exact H5.out _ _ (cw (fun fu=>lk H3.out.1 m (H3.out.2.keep _ _ (TN.out WA FA.out).2 gb.out) (.of (((F1.out.trans FA.out).tT).trans (H3.out.2.mono fun c _ hc e=>hc (e▸H.out.pb))) H.out.px) (EQ.out _ (if_pos ⟨HF.out,(by simp)⟩)) (by rw[nf.2.2.1];exact BD.out.1) nf.2.2.2.1 mN (by rw[nf.2.1];exact BD.out.2.2.1) BD.out.2.2.2.1 nf.2.2.2.2 (by rw[nf.1];exact BD.out.2.2.2.2.2.2.1) (by rw[nf.1];exact BD.out.2.2.2.2.2.2.2) fu) (by kernel_rfl))
  ·exact m14
end
end Go.Proofs.YtmjccpfchhnfhaaGreat
