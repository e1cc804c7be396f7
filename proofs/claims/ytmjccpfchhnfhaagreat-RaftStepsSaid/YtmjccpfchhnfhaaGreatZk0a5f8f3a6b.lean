/- Texts of the proofs, part 23: what the functions that they reach do, walked; no conditions beyond those that each states. -/
import Derived.Deep.QuietTactic
import Derived.BigQuiet
import Derived.Test.YtmjccpfchhnfhaaGreatZk9e9eaad155
set_option linter.unusedVariables false
set_option linter.unusedSimpArgs false
set_option maxRecDepth 100000
set_option maxHeartbeats 8000000
namespace Go.Proofs.YtmjccpfchhnfhaaGreat
open Go.RowKit
def gX:Nat→Code→Code
 | 0,c=>c
 | n+1,.seq _ b=>gX n b
 | _+1,c=>c
def cW:Option Code→Code
 | some c=>c
 | none=>.skip
theorem j9:∀T:List Int,T.flatMap encI=T.map zw
 | []=>rfl
 | x :: T=>by rw[List.flatMap_cons,j9 T];rfl
theorem nX {o:Oper} {a:Act} {K:Act→World→Prop} {Q:Exit→Act→World→Prop} (W:World) (s x:Operand)
 (ho:o.op=.call { callee:=.builtin .append,args:=#[s,x],argTypes:=#[22,22] }) (v:Value) (T:List Int) (hs:a.eval s=v) (hown:Hid (RowI W 0 v T))
 (bx:Nat) (y:Int) (hx:a.eval x=.slice (some ⟨bx,0,none⟩) 1 1) (hb:Hid (W.heap[bx]? = some (.cells #[.int .i64 y] 3 (0,0)))) (hn:T.length+1≤1000000)
 (h:∀g c w',Hid (RowI w' 0 (.slice g (T.length+1) c) (T++[y]))→Hid (Fr (fun b _=>v.ownBlock≠some b) W w')→Hid (OwnNext W v (.slice g (T.length+1) c))→K (a.put o.dst (.slice g (T.length+1) c)) w'):o.wp Tryz.prog a W K Q:=by
 have f0:Fr (fun _ _=>True) { W with heap:=#[] } W:=⟨rfl,rfl,rfl,Nat.zero_le _,fun b o hb=>by simp at hb⟩
 refine fy { W with heap:=#[] } W f0 s x ho v T hs ?_ _ [y] hx (ky hb.out) (T++[y]) rfl (T.length+1) (by show _=_;simp) hn fun g c w' h1 _ h3 h4=>h g c w' ?_ h3 h4
 ·show W.ownsRow 0 _ _ _ _ _;rw[j9];exact hown.out
 ·show w'.ownsRow 0 _ _ _ _ _;rw[List.length_append,←j9];exact h1.out
section
variable {X P:Nat→Prop} {w w':World} {b:Nat} {n n':Nd} {q q':NV}
theorem PNs.reYo [Old] (h:PNs X P w b n q) (hf:Fr (fun c _=>c≠b∧q.vy.ownBlock≠some c) w w') (ht:w'.heap[b]? = some (.cells (W14 n' q') 99 (0,0)))
 (hc:n'.conf=n.conf∧q'.vc=q.vc) (he:n'.log.es=n.log.es∧q'.ve=q.ve∧q'.es=q.es) (ha:n'.next=n.next∧n'.mat=n.mat∧q'.bn=q.bn∧q'.bm=q.bm)
 (g:Nat) (hy:RowI w' 0 q'.vy n'.yes) (hyg:q'.vy.ownBlock=some g) (hg:q.vy.ownBlock=some g∨w.heap.size≤g):PNs (fun c=>X c∨c=g) (fun c=>P c∨c=g) w' b n' q'∧Aft X P (fun c=>X c∨c=g) (fun c=>P c∨c=g) w w':=by
 have aft:Aft X P (fun c=>X c∨c=g) (fun c=>P c∨c=g) w w':=⟨hf.mono fun c _ hc=>⟨fun e=>hc (e▸h.pb),fun e=>hc (h.yp c e)⟩,fun c=>⟨fun q=>q.elim .inl fun e=>.inr (.inr e),fun q=>q.elim .inl fun e=>e.elim (fun p=>.inl (h.px c p)) .inr⟩,fun c=>.inl,fun c q=>q.elim .inl fun e=>hg.elim (fun k=>.inl (e▸h.yp g k)) (fun k=>.inr (e▸k)),h.px⟩
 refine⟨⟨ht,?_,hy,fun c e=>?_,?_,?_,?_,?_,?_,.inl h.pb,?_,?_,fun c hc=>hc.elim (fun p=>.inl (h.px c p)) .inr,fun c hc=>?_,h.od⟩,aft⟩
 ·rw[hc.1,hc.2];exact h.cf.aft aft
 ·rw[hyg] at e;cases e;exact .inr rfl
 ·rw[he.2.1,he.2.2];exact h.ev.aft aft
 ·rw[he.1,he.2.2];exact h.ee
 ·rw[ha.1,ha.2.2.1];exact h.nx.fr hf fun _ _=>⟨h.bn_b,fun e=>(h.yb _ e).2.1 rfl⟩
 ·rw[ha.2.1,ha.2.2.2];exact h.mt.fr hf fun _ _=>⟨h.bm_b,fun e=>(h.yb _ e).2.2 rfl⟩
 ·rw[ha.2.2.1,ha.2.2.2];exact h.nm
 ·rw[ha.2.2.1];exact .inl h.pn
 ·rw[ha.2.2.2];exact .inl h.pm
 ·rcases hc with hc | hc
  ·exact Nat.lt_of_lt_of_le (h.hx c hc) hf.size
  ·subst hc;obtain⟨cur,hh⟩:=bw hy hyg;exact bZ hh
theorem zJ [Old] (h:PNs X P w b n q) (hcf:0<n.conf.length∧n.conf.length≤1000) (mN:Nat) (hme:n.me=(mN:Nat)) (hm16:mN<16) (htm:n.tm+1<18446744073709551616) (hl:n.log.last+1<18446744073709551616) (hle:n.log.es.length≤900000):
 Calls Tryz.prog 97 #[.pointer (some ⟨b,0,none⟩)] w fun e w'=>jz X P w b n.chosen e w':=by
 unfold Nd.chosen;by_cases hr:n.role=1
 ·rw[if_pos hr];exact tX h hr hcf mN hme hm16 htm hl hle
 ·rw[if_neg hr];exact qJ h hr mN hme hm16 hl hle
theorem pZ [Old] (h:PNs X P w b n q) (m:MV) (hk2:m.kind≠2) (hk4:m.kind≠4) (hcf:0<n.conf.length∧n.conf.length≤1000) (hy:n.yes.length≤900000) (mN:Nat) (hme:n.me=(mN:Nat)) (hm16:mN<16) (htm:n.tm+1<18446744073709551616) (htm2:m.tm+1<18446744073709551616) (hl:n.log.last+1<18446744073709551616) (hle:n.log.es.length≤900000):
 Calls Tryz.prog 87 #[.pointer (some ⟨b,0,none⟩),.agg (cM m)] w fun e w'=>jz X P w b (n.onAnswer m.ms) e w':=by
 obtain⟨W1,hW1,F1,X1⟩:=gW w m;obtain⟨g0,hg0⟩:=zE w.heap.size;rw[hg0] at X1;have H:=zH h;have HG0:=zH hg0;obtain⟨k,hk⟩:=zE m.kind;obtain⟨mo,hmo⟩:=zE m.ok;have HK:=zH hk;have HMO:=zH hmo;have gb:Hid (g0≠b):=by have:=bZ h.top;show _≠_;omega
 have v0:W1.cell? ⟨g0,0,none⟩=some (.int .i64 k):=by rw[←hk];exact(bq X1.out).1
 unfold cM at hW1 ⊢;have k2:(k==2)=false:=by rw[←hk];simpa using hk2
 have k4:(k==4)=false:=by rw[←hk];simpa using hk4
 have E:Hid (n.onAnswer m.ms=(n,[])):=if_neg (show ¬(m.kind=2∨m.kind=4) by omega);have k2':(k != 2)=true:=by rw[bne,k2];rfl
 have k4':(k != 4)=true:=by rw[bne,k4];rfl
 clear hk2 hk4;clear h hk hmo;go_enter Tryz.func87,Tryz.ntmps87
 go_wp2
 try rw[hW1]
 go_ret;rw[E.out];exact⟨X,P,q,_,[],rfl,H.out.tt F1.out,.tt F1.out H.out.px,OwnMs.nil _ _ _,rfl⟩
end
section
variable {X P:Nat→Prop} {w w':World} {b:Nat} {n n':Nd} {q q':NV}
theorem kQ [Old] {Wf:World} {g0:Nat} {n1:Nd} {q1:NV} {r:Nd×List Ms} (h3:PNs X P Wf b n1 q1) (m:MV) (tf:Wf.heap[g0]? = some (.cells (cM m) 32 (0,0))) (af:Aft X P X P w Wf) (eq:r=if n1.counts m.ms then(let n2:Nd:={ n1 with yes:=n1.yes++[m.src] };if mq n2.conf n2.yes then n2.chosen else(n2,[])) else(n1,[])) (hcf:0<n1.conf.length∧n1.conf.length≤1000) (hy:n1.yes.length≤900000) (mN:Nat) (hme:n1.me=(mN:Nat)) (hm16:mN<16) (htm:n1.tm+1<18446744073709551616) (hl:n1.log.last+1<18446744073709551616) (hle:n1.log.es.length≤900000) (fu:Nat→Value):
  Code.wp Tryz.prog (gX 3 (cW Tryz.f87.body)) (bodyPost Tryz.prog Tryz.f87 fun e w'=>jz X P w b r e w') { tmps:=tU 61 fu [(0,.pointer (some ⟨b,0,none⟩)),(3,.pointer (some ⟨g0,0,none⟩))],defers:=[] } Wf:=by
 have H3:=zH h3
 have Tf:=zH tf
 have AFf:=zH af
 have HY:=zH hy
 obtain⟨ct,hct⟩:=zE (n1.counts m.ms)
 have CO:=zH (zQ h3 m hcf.2 (by omega) htm)
 rw[hct] at CO
 have HCT:=zH hct
 have EQ:=zH eq
 clear hct h3 tf af eq hy
 obtain⟨v0,v1,v2,v3,v4,v5,v6,v7,v8,v9⟩:=bq Tf.out
 dsimp only[cM] at CO
 simp only[tU,tL,Nat.reduceAdd,Nat.reduceBEq,cond_true,cond_false]
 dsimp only[gX,cW,Tryz.f87]
 go_wp2_with fail
 (with_reducible refine CO.out.mono ?_)
 rintro e Wc ⟨rfl,fc⟩
 have FC:=zH fc
 have Hc:=zH (H3.out.tt fc)
 have Tc:Hid (Wc.heap[g0]? = some (.cells (cM m) 32 (0,0))):=fc.keep _ _ Tf.out trivial
 have AFc:=zH (AFf.out.tr fc)
 clear fc CO v0 v1 v2 v3 v4 v5 v6 v7 v8 v9
 cases ct with
 | false=>
  go_wp2
  go_ret
  rw[EQ.out,HCT.out]
  exact⟨X,P,q1,_,[],rfl,Hc.out,AFc.out,OwnMs.nil _ _ _,rfl⟩
 | true=>
  replace EQ:Hid (r=(let n2:Nd:={ n1 with yes:=n1.yes++[m.src] };if mq n2.conf n2.yes then n2.chosen else(n2,[]))):=EQ.out.trans (by rw[HCT.out];rfl)
  obtain⟨vy,hvy⟩:=zE q1.vy
  obtain⟨s,hs⟩:=zE m.src
  have HVY:=zH hvy
  have HS:=zH hs
  have CC:Hid (∀W,Fr (fun _ _=>True) Wc W→W.cell? ⟨b,5,none⟩=some vy∧W.cell? ⟨g0,1,none⟩=some (.int .i64 s)):=fun W f=>by
   exact⟨by rw[(Hc.out.cells f).2.2.2.2.2.1,hvy],by rw[(bq (f.keep _ _ Tc.out trivial)).2.1,hs]⟩
  clear hvy hs
  have UD:Hid (Fr (fun _ _=>True) Wc Wc.drew):=(Fr.refl _ _).drew
  go_wp2_with fail
  refine cY (K:=fun _ _=>True) (vt:=.pointer (some ⟨b,0,none⟩)) 0 rfl (by kernel_rfl) (by kernel_rfl) (by kernel_rfl) (fun _ _ _ h=>h) (Or.inl ⟨by rfl,?cfy⟩) (by kernel_rfl) [(38,0),(39,1),(40,2),(41,3),(42,4),(43,5),(44,6),(45,7),(46,8),(47,9),(48,10)] [(0,[]),(1,[]),(2,[1]),(3,[2]),(4,[3]),(5,[]),(6,[5]),(7,[6])] (ckR [(0,.pointer (some ⟨b,0,none⟩)),(1,.pointer (some ⟨b,0,none⟩)),(2,.pointer (some ⟨b,0,none⟩)),(3,.pointer (some ⟨b,5,none⟩)),(4,vy),(5,.pointer (some ⟨g0,1,none⟩)),(6,.int .i64 s)] [(7,⟨fun v W=>∃g,v=.slice (some ⟨g,0,none⟩) 1 1∧W.heap[g]? = some (.cells #[.int .i64 s] 3 (0,0))∧Wc.heap.size≤g,fun v W W' h hf=>by obtain⟨g,h1,h2,h3⟩:=h;exact⟨g,h1,hf.keep _ _ h2 trivial,h3⟩⟩)] 8 0) 4 (by kernel_rfl) (by kernel_rfl) (by kernel_rfl) rfl (fun _=>rfl) (by rfl) 38 rfl (by simp) ?cfall ?cfend
  case cfy=>(intro w;(try simp only[gA,gB,gC]);go_simp)
  case cfall=>
   iterate 7
    refine bV.q rfl rfl rfl (fun xs W HF hE K' hK=>?_) ?_
    ·simp only[ckEqs,ckLook,Nat.reduceBEq] at hE
     simp only[fillA,fillL,sA,sB,sC,Act.put,hE] at hK ⊢
     clear hE
     obtain⟨y5,v1⟩:=CC.out W (UD.out.trans HF.out)
     (try simp only[gA,gB,gC])
     go_simp
     exact hK.out _ rfl
   refine bV.p rfl rfl (fun xs W HF hA hE K' hK=>?_) ?_
   ·clear hA
    simp only[ckEqs,ckLook,Nat.reduceBEq] at hE
    simp only[fillA,fillL,sA,sB,sC,Act.put,hE] at hK ⊢
    clear hE
    have SB:Hid (Wc.heap.size≤W.heap.size):=(UD.out.trans HF.out).size
    (try simp only[gA,gB,gC])
    go_simp
    exact hK.out _ _ _ rfl ((Fr.refl _ _).alloc _) ⟨_,rfl,bX _ _,SB.out⟩
   exact bV.nil
  case cfend=>
   intro xs W hF hA
   have HF:=zH hF
   have hE:=b_ rfl hA
   have h7:=hA (7,[6]) (by decide)
   clear hA hF
   simp only[List.map_cons,List.map_nil,ckEqs,ckLook,Nat.reduceBEq] at hE
   simp only[fillA,fillL,sA,sB,sC,hE]
   clear hE
   obtain⟨g1,e7,tg,hg1⟩:=h7
   rw[e7]
   have FW:=zH (UD.out.trans HF.out)
   have HW:=zH (Hc.out.tt FW.out)
   have HOWN:Hid (RowI W 0 vy n1.yes):=by show RowI _ _ _ _;rw[←HVY.out];exact HW.out.ye
   have TG:=zH tg
   have ny:Hid (vy.ownBlock≠some b):=by show _≠_;rw[←HVY.out];intro e;exact(HW.out.yb _ e).1 rfl
   have HL1:Hid (n1.yes.length+1≤1000000):=by have:=HY.out;show _≤_;omega
   clear tg hg1 UD CC
   refine wpN 8 rfl fun K' hK=>?_
   (try simp only[List.getElem_toArray,List.getElem_cons_zero,List.getElem_cons_succ])
   refine(iteInduction (motive:=fun t=>t) (fun _=>?_) (fun hn=>absurd rfl hn))
   with_reducible refine nX (K:=fun a w=>K' a w) W (.tmp 42) (.tmp 45) ?h1 vy n1.yes ?h2 HOWN g1 s ?h3 TG HL1.out ?_
   case h1=>rfl
   case h2=>(simp [Act.eval,Act.put,fillA,fillL];done)
   case h3=>(simp [Act.eval,Act.put,fillA,fillL];done)
   obtain⟨N,hN⟩:=zE (n1.yes.length+1)
   rw[hN]
   intro gy cy Wy HRY HFY HON
   have HN:=zH hN
   clear hN
   refine hK.out _ _ ?_
   clear hK K'
   have Ty:Hid (Wy.heap[b]? = some (.cells (W14 n1 q1) 99 (0,0))):=HFY.out.keep _ _ HW.out.top ny.out
   have y5:Wy.cell? ⟨b,5,none⟩=some vy:=by rw[←HVY.out];exact bQ Ty.out rfl
   have z5:=bJ (i:=5) Ty.out
   obtain⟨Wz,hWz⟩:=zE (Wy.setCell ⟨b,5,none⟩ (.slice gy N cy))
   obtain⟨v2,hv2⟩:=zE (Value.slice gy N cy)
   obtain⟨G,eG⟩:∃G,v2.ownBlock=some G:=by
    rcases HRY.out.2 with⟨_,e⟩ | ⟨g,c,cur,e,hb,r⟩
    ·exact absurd e (by simp)
    ·rw[hv2] at e
     rw[e]
     exact⟨g,rfl⟩
   have fz:Fr (fun c _=>c≠b) Wy Wz:=hWz▸(Fr.refl _ _).setCell (fun _ _ h=>h rfl) _
   have bW:b<W.heap.size:=bZ HW.out.top
   obtain⟨n2,hn2⟩:∃x:Nd,{ n1 with yes:=n1.yes++[s] }=x:=⟨_,rfl⟩
   obtain⟨q2,hq2⟩:∃x:NV,{ q1 with vy:=v2 }=x:=⟨_,rfl⟩
   have HY:=Hc.out.reYo (w':=Wz) (n':={ n1 with yes:=n1.yes++[s] }) (q':={ q1 with vy:=v2 }) ((FW.out.mono fun _ _ _=>trivial).trans ((HFY.out.mono fun c _ h e=>h.2 (by rw[HVY.out];exact e)).trans (fz.mono fun c _ h=>h.1)))
    (by rw[←hWz,←hv2];exact bK (o:=5) Ty.out _) ⟨rfl,rfl⟩ ⟨rfl,rfl,rfl⟩ ⟨rfl,rfl,rfl,rfl⟩ G (by rw[←hv2];exact bY HRY.out fz fun c o e _ h=>(HON.out.ne ny.out bW) (h▸e)) eG
    (by
     rcases HON.out with e | ⟨k,e,hk⟩
     ·rw[hv2,eG] at e;rw[HVY.out];exact .inl e.symm
     ·rw[hv2,eG] at e;cases e;exact .inr (Nat.le_trans FW.out.size hk))
   rw[hn2,hq2] at HY
   have H5:=zH HY.1
   have A5:=zH (AFc.out.trans HY.2)
   clear HY fz
   obtain⟨X1',hX1⟩:∃Z:Nat→Prop,(fun c=>X c∨c=G)=Z:=⟨_,rfl⟩
   obtain⟨P1',hP1⟩:∃Z:Nat→Prop,(fun c=>P c∨c=G)=Z:=⟨_,rfl⟩
   rw[hX1,hP1] at H5 A5
   obtain⟨vc,hvc⟩:=zE q1.vc
   have hq4:n2.conf=n1.conf∧q2.vc=vc∧n2.yes=n1.yes++[s]∧q2.vy=v2∧n2.me=n1.me∧n2.log=n1.log∧n2.tm=n1.tm:=by rw[←hn2,←hq2];exact⟨rfl,hvc,rfl,rfl,rfl,rfl,rfl⟩
   have AG:=zH (fun k=>(j3 (Wz.drewN k) q2.vc q2.vy n2.conf n2.yes (H5.out.cf.tt ((Fr.refl _ Wz).drewN k)) (H5.out.ye.ints.tt ((Fr.refl _ Wz).drewN k)) (by rw[hq4.1];have:=hcf.2;unfold maxLen;omega) (by rw[hq4.2.2.1,List.length_append];have:=HL1.out;unfold maxLen;simp only[List.length_cons,List.length_nil];omega)).mono fun e w' ⟨h1,h2⟩=>And.intro h1 h2.symm)
   have CHL:Hid (∀k,Calls Tryz.prog 97 #[.pointer (some ⟨b,0,none⟩)] (Wz.drewN k) fun e w'=>jz X1' P1' (Wz.drewN k) b n2.chosen e w'):=fun k=>
    zJ (H5.out.tt ((Fr.refl _ Wz).drewN k)) (by rw[hq4.1];exact hcf) mN (by rw[hq4.2.2.2.2.1];exact hme) hm16 (by rw[hq4.2.2.2.2.2.2];exact htm) (by rw[hq4.2.2.2.2.2.1];exact hl) (by rw[hq4.2.2.2.2.2.1];exact hle)
   have f4:Wz.cell? ⟨b,4,none⟩=some vc:=by rw[(H5.out.cells (Fr.refl _ Wz)).2.2.2.2.1,hq4.2.1]
   have f5:Wz.cell? ⟨b,5,none⟩=some v2:=by rw[(H5.out.cells (Fr.refl _ Wz)).2.2.2.2.2.1,hq4.2.2.2.1]
   rw[hq4.2.1,hq4.2.2.2.1] at AG
   obtain⟨ag,hag⟩:=zE (mq n2.conf n2.yes)
   rw[hag] at AG
   have EQ2:Hid (r=if ag=true then n2.chosen else(n2,[])):=by
    refine EQ.out.trans ?_
    rw[←hag,←hn2,HS.out]
   have HV2:=zH hv2
   clear hq4 hag hn2 hq2 hX1 hP1 hvc EQ
   clear hv2
   refine wpN 9 rfl fun K' hK=>?_
   (try simp only[gA,gB,gC])
   go_simp
   refine hK.out _ _ ?_
   clear hK K'
   refine wpN 10 rfl fun K' hK=>?_
   (try simp only[gA,gB,gC])
   go_simp
   refine hK.out _ _ ?_
   clear hK K'
   refine wpN 11 rfl fun K' hK=>?_
   (try simp only[gA,gB,gC])
   go_simp
   refine hK.out _ _ ?_
   clear hK K'
   refine wpF ?_
   try rw[hWz]
   clear y5 z5 hWz
   go_wp2_with fail
   go_quiet ((go_at_call 96;exact Calls.quiet_of_same (AG.out _)))
   have U5:Hid (Fr (fun _ _=>True) Wz (Wz.drewN nq)):=(Fr.refl _ Wz).drewN nq
   clear AG f4 f5
   cases ag with
   | true=>
    have CHO:=zH (CHL.out nq)
    have OUT:Hid (r=n2.chosen):=EQ2.out.trans (if_pos rfl)
    clear CHL EQ2
    go_wp2_with fail
    (with_reducible refine CHO.out.mono ?_)
    intro e w9 ho
    replace ho:=ho.behind (A5.out.tr U5.out)
    obtain⟨X',P',q',v,mvs,rfl,h2,h3,h4,h5⟩:=ho
    have HH:=zH (And.intro h2 (And.intro h3 (And.intro h4 h5)))
    clear h2 h3 h4 h5 CHO
    go_wp2
    go_ret
    rw[OUT.out]
    exact⟨X',P',q',_,mvs,rfl,HH.out.1,HH.out.2.1,HH.out.2.2.1,HH.out.2.2.2⟩
   | false=>
    have OUT:Hid (r=(n2,[])):=EQ2.out.trans (if_neg (by decide))
    clear CHL EQ2
    go_wp2
    go_ret
    rw[OUT.out]
    exact⟨X1',P1',q2,_,[],rfl,H5.out.tt U5.out,A5.out.tr U5.out,OwnMs.nil _ _ _,rfl⟩
end
section
variable {X P:Nat→Prop} {w w':World} {b:Nat} {n n':Nd} {q q':NV}
theorem q_ [Old] (h:PNs X P w b n q) (m:MV) (hcf:0<n.conf.length∧n.conf.length≤1000) (hy:n.yes.length≤900000) (mN:Nat) (hme:n.me=(mN:Nat)) (hm16:mN<16) (htm:n.tm+1<18446744073709551616) (htm2:m.tm+1<18446744073709551616) (hl:n.log.last+1<18446744073709551616) (hle:n.log.es.length≤900000):
 Calls Tryz.prog 87 #[.pointer (some ⟨b,0,none⟩),.agg (cM m)] w fun e w'=>jz X P w b (n.onAnswer m.ms) e w':=by
 by_cases h24:m.kind≠2∧m.kind≠4
 ·exact pZ h m h24.1 h24.2 hcf hy mN hme hm16 htm htm2 hl hle
 obtain⟨W1,hW1,F1,X1⟩:=gW w m;obtain⟨g0,hg0⟩:=zE w.heap.size;rw[hg0] at X1;have H:=zH h;have HG0:=zH hg0;obtain⟨k,hk⟩:=zE m.kind;obtain⟨mo,hmo⟩:=zE m.ok;have HK:=zH hk;have HMO:=zH hmo;have gb:Hid (g0≠b):=by have:=bZ h.top;show _≠_;omega
 have v0:W1.cell? ⟨g0,0,none⟩=some (.int .i64 k):=by rw[←hk];exact(bq X1.out).1
 unfold cM at hW1 ⊢;have v3:=(bq X1.out).2.2.2.1;have v7:W1.cell? ⟨g0,7,none⟩=some (.bool mo):=by rw[←hmo];exact(bq X1.out).2.2.2.2.2.2.2.1
 have y6:=(h.cells F1.out).2.2.2.2.2.2.1
 have EQ:Hid (∀n1,(if n.tm<m.tm∧(mo=false∨k=2) then n.follow m.tm (-1) else n)=n1→n.onAnswer m.ms=if n1.counts m.ms then(let n2:Nd:={ n1 with yes:=n1.yes++[m.src] };if mq n2.conf n2.yes then n2.chosen else(n2,[])) else(n1,[])):=fun n1 e=>by
  refine(if_pos (show m.kind=2∨m.kind=4 by omega)).trans ?_
  show (let n1:Nd:=if n.tm<m.tm∧(m.ok=false∨m.kind=2) then n.follow m.tm (-1) else n
   if n1.counts m.ms then(let n2:Nd:={ n1 with yes:=n1.yes++[m.src] };if mq n2.conf n2.yes then n2.chosen else(n2,[])) else(n1,[]))=_
  rw[hmo,hk,e]
 have TN:Hid (∀W,Fr (fun _ _=>True) W1 W→PNs X P W b n q∧W.heap[g0]? = some (.cells (cM m) 32 (0,0))):=fun W f=>⟨H.out.tt (F1.out.trans f),f.keep _ _ X1.out trivial⟩
 have H24:k=2∨k=4:=by rw[←hk];omega
 have BD:=zH (And.intro hcf (And.intro hy (And.intro hme (And.intro hm16 (And.intro htm (And.intro htm2 (And.intro hl hle)))))));clear h24 hcf hy hme hm16 htm htm2 hl hle;clear h hk hmo;by_cases k2:k=2
 ·subst k2;by_cases hf:n.tm<m.tm
  ·cases mo with
   | true=>
    have gl:decide (n.tm<m.tm)=true:=decide_eq_true hf;have HF:=zH hf;clear hf H24;go_enter Tryz.func87,Tryz.ntmps87
    go_wp2_with fail
    try rw[hW1]
    try rw[HG0.out]
    clear hW1 hg0;go_quiet (fail)
    rename_i K5 h5 K4 h4;have H5:=zH h5;clear v0 y6 gl v7 h5 v3;have FA:Hid (Fr (fun _ _=>True) W1 (W1.drewN nq)):=(Fr.refl _ W1).drewN nq;generalize W1.drewN nq=WA at FA ⊢;have FO:=zH (dq (TN.out WA FA.out).1 m.tm (-1));have v3:=(bq (TN.out WA FA.out).2).2.2.2.1;go_wp2_with fail
    (with_reducible refine FO.out.mono ?_);rintro e Wf ⟨rfl,h3,f3⟩;have H3:=zH (And.intro h3 f3);clear v3 FO h3 f3;go_wp2;have nf:(n.follow m.tm (-1)).log=n.log∧(n.follow m.tm (-1)).me=n.me∧(n.follow m.tm (-1)).conf=n.conf∧(n.follow m.tm (-1)).yes.length≤900000∧(n.follow m.tm (-1)).tm+1<18446744073709551616:=by unfold Nd.follow;split <;> exact⟨rfl,rfl,rfl,Nat.zero_le _,by first | exact BD.out.2.2.2.2.2.1 | exact BD.out.2.2.2.2.1⟩
    exact H5.out _ _ (d7 (fun fu=>kQ H3.out.1 m (H3.out.2.keep _ _ (TN.out WA FA.out).2 gb.out) (.of (((F1.out.trans FA.out).mono fun _ _ _=>trivial).trans (H3.out.2.mono fun c _ hc e=>hc (e▸H.out.pb))) H.out.px) (EQ.out _ (if_pos ⟨HF.out,(by simp)⟩)) (by rw[nf.2.2.1];exact BD.out.1) nf.2.2.2.1 mN (by rw[nf.2.1];exact BD.out.2.2.1) BD.out.2.2.2.1 nf.2.2.2.2 (by rw[nf.1];exact BD.out.2.2.2.2.2.2.1) (by rw[nf.1];exact BD.out.2.2.2.2.2.2.2) fu) (by kernel_rfl))
   | false=>
    have gl:decide (n.tm<m.tm)=true:=decide_eq_true hf;have HF:=zH hf;clear hf H24;go_enter Tryz.func87,Tryz.ntmps87
    go_wp2_with fail
    try rw[hW1]
    try rw[HG0.out]
    clear hW1 hg0;go_quiet (fail)
    rename_i K5 h5 K4 h4;have H5:=zH h5;clear v0 y6 gl v7 h5 v3;have FA:Hid (Fr (fun _ _=>True) W1 (W1.drewN nq)):=(Fr.refl _ W1).drewN nq;generalize W1.drewN nq=WA at FA ⊢;have FO:=zH (dq (TN.out WA FA.out).1 m.tm (-1));have v3:=(bq (TN.out WA FA.out).2).2.2.2.1;go_wp2_with fail
    (with_reducible refine FO.out.mono ?_);rintro e Wf ⟨rfl,h3,f3⟩;have H3:=zH (And.intro h3 f3);clear v3 FO h3 f3;go_wp2;have nf:(n.follow m.tm (-1)).log=n.log∧(n.follow m.tm (-1)).me=n.me∧(n.follow m.tm (-1)).conf=n.conf∧(n.follow m.tm (-1)).yes.length≤900000∧(n.follow m.tm (-1)).tm+1<18446744073709551616:=by unfold Nd.follow;split <;> exact⟨rfl,rfl,rfl,Nat.zero_le _,by first | exact BD.out.2.2.2.2.2.1 | exact BD.out.2.2.2.2.1⟩
    exact H5.out _ _ (d7 (fun fu=>kQ H3.out.1 m (H3.out.2.keep _ _ (TN.out WA FA.out).2 gb.out) (.of (((F1.out.trans FA.out).mono fun _ _ _=>trivial).trans (H3.out.2.mono fun c _ hc e=>hc (e▸H.out.pb))) H.out.px) (EQ.out _ (if_pos ⟨HF.out,(by simp)⟩)) (by rw[nf.2.2.1];exact BD.out.1) nf.2.2.2.1 mN (by rw[nf.2.1];exact BD.out.2.2.1) BD.out.2.2.2.1 nf.2.2.2.2 (by rw[nf.1];exact BD.out.2.2.2.2.2.2.1) (by rw[nf.1];exact BD.out.2.2.2.2.2.2.2) fu) (by kernel_rfl))
  ·skip
   have gl:decide (n.tm<m.tm)=false:=decide_eq_false hf;have HF:=zH hf;clear hf H24;go_enter Tryz.func87,Tryz.ntmps87
   go_wp2_with fail
   try rw[hW1]
   try rw[HG0.out]
   clear hW1 hg0;go_quiet (fail)
   rename_i K5 h5 K4 h4;have H5:=zH h5;clear v0 y6 gl v7 h5 v3;have FA:Hid (Fr (fun _ _=>True) W1 (W1.drewN nq)):=(Fr.refl _ W1).drewN nq;generalize W1.drewN nq=WA at FA ⊢;go_wp2;exact H5.out _ _ (d7 (fun fu=>kQ (TN.out WA FA.out).1 m (TN.out WA FA.out).2 (.tt (F1.out.trans FA.out) H.out.px) (EQ.out _ (if_neg (fun e=>HF.out e.1))) BD.out.1 BD.out.2.1 mN BD.out.2.2.1 BD.out.2.2.2.1 BD.out.2.2.2.2.1 BD.out.2.2.2.2.2.2.1 BD.out.2.2.2.2.2.2.2 fu) (by kernel_rfl))
 ·obtain rfl:k=4:=by omega
  clear k2;by_cases hf:n.tm<m.tm
  ·cases mo with
   | true=>
    have gl:decide (n.tm<m.tm)=true:=decide_eq_true hf;have HF:=zH hf;clear hf H24;go_enter Tryz.func87,Tryz.ntmps87
    go_wp2_with fail
    try rw[hW1]
    try rw[HG0.out]
    clear hW1 hg0;go_quiet (fail)
    rename_i K5 h5 K4 h4;have H5:=zH h5;clear v0 y6 gl v7 h5 v3;have FA:Hid (Fr (fun _ _=>True) W1 (W1.drewN nq)):=(Fr.refl _ W1).drewN nq;generalize W1.drewN nq=WA at FA ⊢;go_wp2;exact H5.out _ _ (d7 (fun fu=>kQ (TN.out WA FA.out).1 m (TN.out WA FA.out).2 (.tt (F1.out.trans FA.out) H.out.px) (EQ.out _ (if_neg (fun e=>by have:=e.2;revert this;decide))) BD.out.1 BD.out.2.1 mN BD.out.2.2.1 BD.out.2.2.2.1 BD.out.2.2.2.2.1 BD.out.2.2.2.2.2.2.1 BD.out.2.2.2.2.2.2.2 fu) (by kernel_rfl))
   | false=>
    have gl:decide (n.tm<m.tm)=true:=decide_eq_true hf;have HF:=zH hf;clear hf H24;go_enter Tryz.func87,Tryz.ntmps87
    go_wp2_with fail
    try rw[hW1]
    try rw[HG0.out]
    clear hW1 hg0;go_quiet (fail)
    rename_i K5 h5 K4 h4;have H5:=zH h5;clear v0 y6 gl v7 h5 v3;have FA:Hid (Fr (fun _ _=>True) W1 (W1.drewN nq)):=(Fr.refl _ W1).drewN nq;generalize W1.drewN nq=WA at FA ⊢;have FO:=zH (dq (TN.out WA FA.out).1 m.tm (-1));have v3:=(bq (TN.out WA FA.out).2).2.2.2.1;go_wp2_with fail
    (with_reducible refine FO.out.mono ?_);rintro e Wf ⟨rfl,h3,f3⟩;have H3:=zH (And.intro h3 f3);clear v3 FO h3 f3;go_wp2;have nf:(n.follow m.tm (-1)).log=n.log∧(n.follow m.tm (-1)).me=n.me∧(n.follow m.tm (-1)).conf=n.conf∧(n.follow m.tm (-1)).yes.length≤900000∧(n.follow m.tm (-1)).tm+1<18446744073709551616:=by unfold Nd.follow;split <;> exact⟨rfl,rfl,rfl,Nat.zero_le _,by first | exact BD.out.2.2.2.2.2.1 | exact BD.out.2.2.2.2.1⟩
    exact H5.out _ _ (d7 (fun fu=>kQ H3.out.1 m (H3.out.2.keep _ _ (TN.out WA FA.out).2 gb.out) (.of (((F1.out.trans FA.out).mono fun _ _ _=>trivial).trans (H3.out.2.mono fun c _ hc e=>hc (e▸H.out.pb))) H.out.px) (EQ.out _ (if_pos ⟨HF.out,(by simp)⟩)) (by rw[nf.2.2.1];exact BD.out.1) nf.2.2.2.1 mN (by rw[nf.2.1];exact BD.out.2.2.1) BD.out.2.2.2.1 nf.2.2.2.2 (by rw[nf.1];exact BD.out.2.2.2.2.2.2.1) (by rw[nf.1];exact BD.out.2.2.2.2.2.2.2) fu) (by kernel_rfl))
  ·skip
   have gl:decide (n.tm<m.tm)=false:=decide_eq_false hf;have HF:=zH hf;clear hf H24;go_enter Tryz.func87,Tryz.ntmps87
   go_wp2_with fail
   try rw[hW1]
   try rw[HG0.out]
   clear hW1 hg0;go_quiet (fail)
   rename_i K5 h5 K4 h4;have H5:=zH h5;clear v0 y6 gl v7 h5 v3;have FA:Hid (Fr (fun _ _=>True) W1 (W1.drewN nq)):=(Fr.refl _ W1).drewN nq;generalize W1.drewN nq=WA at FA ⊢;go_wp2;exact H5.out _ _ (d7 (fun fu=>kQ (TN.out WA FA.out).1 m (TN.out WA FA.out).2 (.tt (F1.out.trans FA.out) H.out.px) (EQ.out _ (if_neg (fun e=>HF.out e.1))) BD.out.1 BD.out.2.1 mN BD.out.2.2.1 BD.out.2.2.2.1 BD.out.2.2.2.2.1 BD.out.2.2.2.2.2.2.1 BD.out.2.2.2.2.2.2.2 fu) (by kernel_rfl))
end
section
variable {X P:Nat→Prop} {w w':World} {b:Nat} {n n':Nd} {q q':NV}
theorem B6 [Old] (h:PNs X P w b n q) (m:MV) (hl:n.log.last+1<18446744073709551616) (hle:n.log.es.length≤900000):
 Calls Tryz.prog 86 #[.pointer (some ⟨b,0,none⟩),.agg (cM m)] w fun e w'=>jz X P w b (n.onAsk m.ms) e w':=by
 obtain⟨W1,hW1,F1,X1⟩:=gW w m;obtain⟨g0,hg0⟩:=zE w.heap.size;rw[hg0] at X1;have H:=zH h;have HG0:=zH hg0;obtain⟨k,hk⟩:=zE m.kind;obtain⟨s,hs⟩:=zE m.src;obtain⟨me,hme⟩:=zE n.me;have HK:=zH hk;have HS:=zH hs;have HME:=zH hme;have VC:Hid (∀W,Fr (fun _ _=>True) W1 W→W.heap[g0]? = some (.cells (cM m) 32 (0,0))):=fun W f=>f.keep _ _ X1.out trivial
 have UD:Hid (Fr (fun _ _=>True) w W1.drew):=F1.out.drew;unfold cM at hW1 ⊢;clear h hg0 hk hs hme;go_enter Tryz.func86,Tryz.ntmps86
 go_wp2_with fail
 try rw[hW1]
 rw[HG0.out];clear hW1;refine wpR [(6,0),(7,1),(8,2),(9,3),(10,4),(11,5),(12,6),(5,7)] [(0,[]),(1,[0]),(2,[1]),(3,[2]),(4,[]),(5,[4]),(6,[3,5]),(7,[])] (ckR [(0,.pointer (some ⟨b,0,none⟩)),(1,.pointer (some ⟨b,0,none⟩)),(2,.pointer (some ⟨b,0,none⟩)),(3,.int .i64 me),(4,.pointer (some ⟨g0,1,none⟩)),(5,.int .i64 s),(6,.agg #[.int .i64 0,.int .i64 me,.int .i64 s,.int .u64 0,.int .u64 0,.int .u64 0,.int .u64 0,.bool false,.slice none 0 0,.slice none 0 0])] [(7,⟨fun v W=>∃g,v=.pointer (some ⟨g,0,none⟩)∧g0<g∧W.heap[g]? = some (.cells (cM zMV) 32 (0,0)),fun v W W' h hf=>by obtain⟨g,h1,h2,h3⟩:=h;exact⟨g,h1,h2,hf.keep _ _ h3 trivial⟩⟩)] 8 0) 1 rfl ?cfall ?cfend
 case cfall=>
  iterate 7
   refine bV.q rfl rfl rfl (fun xs W HF hE K' hK=>?_) ?_
   ·simp only[ckEqs,ckLook,Nat.reduceBEq] at hE;simp only[fillA,fillL,sA,sB,sC,Act.put,hE] at hK ⊢;clear hE;have y0:W.cell? ⟨b,0,none⟩=some (.int .i64 me):=by rw[←HME.out];exact(H.out.cells (UD.out.trans HF.out)).1
    have v1:W.cell? ⟨g0,1,none⟩=some (.int .i64 s):=by rw[←HS.out];exact(bq (VC.out W ((Fr.refl _ W1).drew.trans HF.out))).2.1
    (try simp only[gA,gB,gC]);go_simp;exact hK.out _ rfl
  refine bV.p rfl rfl (fun xs W HF hA hE K' hK=>?_) ?_
  ·clear hA;simp only[ckEqs,ckLook,Nat.reduceBEq] at hE;simp only[fillA,fillL,sA,sB,sC,Act.put,hE] at hK ⊢;clear hE;have SB:Hid (g0<W.heap.size):=bZ (VC.out W ((Fr.refl _ W1).drew.trans HF.out));(try simp only[gA,gB,gC]);go_simp;exact hK.out _ _ _ rfl ((Fr.refl _ _).alloc _) ⟨_,rfl,SB.out,bX _ _⟩
  exact bV.nil
 case cfend=>
  intro xs W hF hA;have HF:=zH hF;have hE:=b_ rfl hA;have h7:=hA (7,[]) (by decide);clear hA hF;simp only[List.map_cons,List.map_nil,ckEqs,ckLook,Nat.reduceBEq] at hE;simp only[fillA,fillL,sA,sB,sC,hE];clear hE;obtain⟨g,e7,hgw,tg⟩:=h7;rw[e7];have HGW:=zH hgw;have FW:=zH (UD.out.trans HF.out);have F1W:Hid (Fr (fun _ _=>True) W1 W):=(Fr.refl _ W1).drew.trans HF.out;obtain⟨W2,hW2',t2,f2⟩:=BW tg (.int .i64 0) (.int .i64 me) (.int .i64 s) (.int .u64 0) (.int .u64 0) (.int .u64 0) (.int .u64 0) (.bool false) (.slice none 0 0) (.slice none 0 0);have T2:Hid (W2.heap[g]? = some (.cells (cM (aMV 0 me s 0 false)) 32 (0,0))):=t2;have F2:=zH f2;clear t2 f2;have H2:=zH ((H.out.tt FW.out).msg F2.out ⟨_,_,tg⟩ (by have:=bZ H.out.top;have:=HGW.out;have:=HG0.out;omega));have FP2:Hid (Fr (fun c _=>¬P c) w W2):=((FW.out.mono fun _ _ _=>trivial:Fr (fun c _=>¬P c∧c<w.heap.size) w W).trans (F2.out.mono fun c _ h e=>by have:=h.2;have:=HGW.out;have:=HG0.out;omega)).within;have T02:Hid (W2.heap[g0]? = some (.cells (cM m) 32 (0,0))):=F2.out.keep _ _ (VC.out W F1W.out) (by have:=HGW.out;omega);obtain⟨v0,v1,v2,v3,v4,v5,v6,v7,v8,v9⟩:=bq tg;have z0:=bJ (i:=0) tg;have z1:=bJ (i:=1) tg;have z2:=bJ (i:=2) tg;have z3:=bJ (i:=3) tg;have z4:=bJ (i:=4) tg;have z5:=bJ (i:=5) tg;have z6:=bJ (i:=6) tg;have z7:=bJ (i:=7) tg;have z8:=bJ (i:=8) tg;have z9:=bJ (i:=9) tg;refine wpN 8 rfl fun K' hK=>?_
  (try simp only[gA,gB,gC]);go_simp;refine hK.out _ _ ?_;clear hK K';refine wpF ?_
  try rw[hW2']
  clear z0 z1 z2 z3 z4 z5 z6 z7 z8 z9 v0 v1 v2 v3 v4 v5 v6 v7 v8 v9 hW2' tg;have gb:Hid (g0≠b∧g≠b):=by have:=bZ H.out.top;have:=HG0.out;have:=HGW.out;show _∧_;omega
  have v0:W2.cell? ⟨g0,0,none⟩=some (.int .i64 k):=by rw[←HK.out];exact(bq T02.out).1
  go_upto_region 3 with fail
  rename_i K9 h9 K8 h8 K7 h7 K6 h6 K5 h5 K4 h4 K3 h3;have H9:=zH h9
  have TAIL:∀(n1:Nd) (q1:NV) (Wf:World),Hid ((k=1∨k=3)∧PNs X P Wf b n1 q1∧Fr (fun c _=>c≠b) W2 Wf∧q1.es=q.es∧n1.log=n.log∧(if m.kind=1∧n.tm<m.tm then n.follow m.tm (-1) else n)=n1)→∀(u1 u2 u4 u6 u7 u8 u9 u10 u11 u12 u13 u15 u16 u17 u18 u19 u20 u21 u22 u23 u24 u25 u26 u27 u28 u29 u30 u31 u32 u33 u34 u35 u36 u37 u38 u39 u40 u41 u42 u43 u44 u45 u46 u47 u48 u49 u50 u51 u52 u53 u54 u55 u56 u57 u58 u59 u60 u61 u62 u63 u64 u65 u66 u67 u68 u69 u70 u71 u72 u73 u74:Value),K7 { tmps:=#[.pointer (some ⟨b,0,none⟩),u1,u2,.pointer (some ⟨g0,0,none⟩),u4,.pointer (some ⟨g,0,none⟩),u6,u7,u8,u9,u10,u11,u12,u13,.int .i64 k,u15,u16,u17,u18,u19,u20,u21,u22,u23,u24,u25,u26,u27,u28,u29,u30,u31,u32,u33,u34,u35,u36,u37,u38,u39,u40,u41,u42,u43,u44,u45,u46,u47,u48,u49,u50,u51,u52,u53,u54,u55,u56,u57,u58,u59,u60,u61,u62,u63,u64,u65,u66,u67,u68,u69,u70,u71,u72,u73,u74],defers:=[] } Wf:=by
   intro n1 q1 Wf PR u1 u2 u4 u6 u7 u8 u9 u10 u11 u12 u13 u15 u16 u17 u18 u19 u20 u21 u22 u23 u24 u25 u26 u27 u28 u29 u30 u31 u32 u33 u34 u35 u36 u37 u38 u39 u40 u41 u42 u43 u44 u45 u46 u47 u48 u49 u50 u51 u52 u53 u54 u55 u56 u57 u58 u59 u60 u61 u62 u63 u64 u65 u66 u67 u68 u69 u70 u71 u72 u73 u74;refine h7 _ _ ?_;clear h9 h8 h7 h6 h5 h4 h3 v0;obtain⟨k1,hk1⟩:=zE (k+1);have wk:IntKind.i64.wrap (k+1)=k1:=by rw[IntKind.wrap_i64];have:=PR.out.1;omega
   have HK1:=zH hk1;have Tf:Hid (Wf.heap[g]? = some (.cells (cM (aMV 0 me s 0 false)) 32 (0,0))):=PR.out.2.2.1.keep _ _ T2.out gb.out.2;have T0f:Hid (Wf.heap[g0]? = some (.cells (cM m) 32 (0,0))):=PR.out.2.2.1.keep _ _ T02.out gb.out.1;have FPf:Hid (Fr (fun c _=>¬P c) w Wf):=FP2.out.trans (PR.out.2.2.1.mono fun c _ hc e=>hc (e▸H.out.pb));have v0:Wf.cell? ⟨g0,0,none⟩=some (.int .i64 k):=by rw[←HK.out];exact(bq T0f.out).1
   have v1:=(bq Tf.out).1;have z0:=bJ (i:=0) Tf.out;obtain⟨W7,hW7⟩:=zE (Wf.setCell ⟨g,0,none⟩ (.int .i64 k1));have f7:Fr (fun c _=>c≠g) Wf W7:=hW7▸(Fr.refl _ _).setCell (fun _ _ h=>h rfl) _;have T7:Hid (W7.heap[g]? = some (.cells (cM (aMV k1 me s 0 false)) 32 (0,0))):=hW7▸bK (o:=0) Tf.out (.int .i64 k1);have T07:Hid (W7.heap[g0]? = some (.cells (cM m) 32 (0,0))):=f7.keep _ _ T0f.out (by have:=HGW.out;omega);have H7:=zH (PR.out.2.1.msg f7 ⟨_,_,Tf.out⟩ (by have:=bZ H.out.top;have:=HGW.out;have:=HG0.out;omega));have FP7:Hid (Fr (fun c _=>¬P c) w W7):=((FPf.out.mono fun _ _ h=>h.1:Fr (fun c _=>¬P c∧c<w.heap.size) w Wf).trans (f7.mono fun c _ h e=>by have:=h.2;have:=HGW.out;have:=HG0.out;omega)).within;clear hk1;go_wp2
   try rw[hW7]
   clear v0 v1 z0 hW7 f7 wk;refine H9.out _ _ ?_;clear H9
   obtain⟨ae,le,ce,hve⟩:∃ae le ce,q1.ve=.slice ae le ce:=by obtain⟨a,c,e,_⟩:=H7.out.ev.row.form;exact⟨a,_,c,e⟩
   obtain⟨bs,hbs⟩:=zE n1.log.base;obtain⟨bt,hbt⟩:=zE n1.log.bt;have hle1:q1.es.length=le:=by have:=H7.out.ev.row;rw[hve] at this;exact this.len'.symm
   have hlg:n1.log=lgE bs bt q1.es:=by unfold lgE;rw[←hbs,←hbt,←H7.out.ee]
   obtain⟨nw,hnw⟩:=zE (n1.log.newer m.prev m.index);obtain⟨wd,hwd⟩:=zE (n1.would m.ms)
   have NC:Hid (∀W,Fr (fun _ _=>True) W7 W→Calls Tryz.prog 120 #[.agg #[.int .u64 (bs:Nat),.int .u64 (bt:Nat),.slice ae le ce],.int .u64 (m.prev:Nat),.int .u64 (m.index:Nat)] W fun e w'=>e=.returned (.bool nw)∧Fr (fun _ _=>True) W w'):=fun W f=>by rw[←hnw,hlg];refine xZ W bs bt m.prev m.index ae le ce q1.es (hve▸H7.out.ev.row.tt f) ?_;have e1:=PR.out.2.2.2.2.1;have e2:=H.out.esl;have e3:=PR.out.2.2.2.1;rw[←hbs,e1,←hle1,e3,←e2];unfold Lg.last at hl;omega
   have WC:Hid (∀W,Fr (fun _ _=>True) W7 W→Calls Tryz.prog 121 #[.pointer (some ⟨b,0,none⟩),.agg #[.int .i64 m.kind,.int .i64 m.src,.int .i64 m.dst,.int .u64 (m.tm:Nat),.int .u64 (m.index:Nat),.int .u64 (m.prev:Nat),.int .u64 (m.commit:Nat),.bool m.ok,.slice m.da m.d.length m.dc,.slice m.ea m.es.length m.ec]] W fun e w'=>e=.returned (.bool wd)∧Fr (fun _ _=>True) W w'):=fun W f=>by rw[←hwd];exact BZ (H7.out.tt f) m
   have CC:Hid (∀W,Fr (fun _ _=>True) W7 W→W.cell? ⟨b,8,none⟩=some (.int .u64 (bs:Nat))∧W.cell? ⟨b,9,none⟩=some (.int .u64 (bt:Nat))∧W.cell? ⟨b,10,none⟩=some (.slice ae le ce)):=fun W f=>by obtain⟨x0,x1,x2,x3,x4,x5,x6,x7,x8,x9,x10,x11,x12,x13⟩:=H7.out.cells f;exact⟨by rw[x8,hbs],by rw[x9,hbt],by rw[x10,hve]⟩
   have VC7:Hid (∀W,Fr (fun _ _=>True) W7 W→W.heap[g0]? = some (.cells (cM m) 32 (0,0))):=fun W f=>f.keep _ _ T07.out trivial
   have AT10:Hid (∀(ok:Bool) (W W10:World),Fr (fun _ _=>True) W7 W→Fr (fun c _=>c≠g) W W10→W10.heap[g]? = some (.cells (cM (aMV k1 me s 0 ok)) 32 (0,0))→(n1.log.newer m.prev m.index&&n1.would m.ms)=ok→Hid (PNs X P W10 b n1 q1∧Fr (fun c _=>¬P c) w W10∧W10.heap[g]? = some (.cells (cM (aMV k1 me s 0 ok)) 32 (0,0))∧W10.heap[g0]? = some (.cells (cM m) 32 (0,0))∧(n1.log.newer m.prev m.index&&n1.would m.ms)=ok)):=fun ok W W10 f f10 t10 e=>by have t9:=f.keep _ _ T7.out trivial;exact⟨(H7.out.tt f).msg f10 ⟨_,_,t9⟩ (by have:=bZ H.out.top;have:=HGW.out;have:=HG0.out;omega),(((FP7.out.trans (f.mono fun _ _ _=>trivial)).mono fun _ _ h=>h.1:Fr (fun c _=>¬P c∧c<w.heap.size) w W).trans (f10.mono fun c _ h e=>by have:=h.2;have:=HGW.out;have:=HG0.out;omega)).within,t10,f10.keep _ _ (f.keep _ _ T07.out trivial) (by have:=HGW.out;omega),e⟩
   have HNW:=zH hnw;have HWD:=zH hwd;clear hve hbs hbt hle1 hlg hnw hwd;go_upto_region 9 with fail
   rename_i K10 h10
   have TAIL10:∀(ok:Bool) (W10:World),Hid (PNs X P W10 b n1 q1∧Fr (fun c _=>¬P c) w W10∧W10.heap[g]? = some (.cells (cM (aMV k1 me s 0 ok)) 32 (0,0))∧W10.heap[g0]? = some (.cells (cM m) 32 (0,0))∧(n1.log.newer m.prev m.index&&n1.would m.ms)=ok)→∀(u1 u2 u4 u6 u7 u8 u9 u10 u11 u12 u13 u15 u16 u17 u18 u19 u20 u21 u22 u23 u24 u25 u26 u27 u28 u29 u30 u31 u32 u33 u34 u35 u36 u37 u38 u39 u40 u41 u42 u43 u44 u45 u46 u47 u48 u49 u50 u51 u52 u53 u54 u55 u56 u57 u58 u59 u60 u61 u62 u63 u64 u65 u66 u67 u68 u69 u70 u71 u72 u73 u74:Value),K10 { tmps:=#[.pointer (some ⟨b,0,none⟩),u1,u2,.pointer (some ⟨g0,0,none⟩),u4,.pointer (some ⟨g,0,none⟩),u6,u7,u8,u9,u10,u11,u12,u13,.int .i64 k,u15,u16,u17,u18,u19,u20,u21,u22,u23,u24,u25,u26,u27,u28,u29,u30,u31,u32,u33,u34,u35,u36,u37,u38,u39,u40,u41,u42,u43,u44,u45,u46,u47,u48,u49,u50,u51,u52,u53,u54,u55,u56,u57,u58,u59,u60,u61,u62,u63,u64,u65,u66,u67,u68,u69,u70,u71,u72,u73,u74],defers:=[] } W10:=by
    intro ok W10 PQ u1 u2 u4 u6 u7 u8 u9 u10 u11 u12 u13 u15 u16 u17 u18 u19 u20 u21 u22 u23 u24 u25 u26 u27 u28 u29 u30 u31 u32 u33 u34 u35 u36 u37 u38 u39 u40 u41 u42 u43 u44 u45 u46 u47 u48 u49 u50 u51 u52 u53 u54 u55 u56 u57 u58 u59 u60 u61 u62 u63 u64 u65 u66 u67 u68 u69 u70 u71 u72 u73 u74;refine h10 _ _ ?_;clear h10;obtain⟨t1,ht1⟩:=zE n1.tm;have y6:=(PQ.out.1.cells (Fr.refl _ W10)).2.2.2.2.2.2.1;rw[ht1] at y6;have v3:=(bq PQ.out.2.2.1).2.2.2.1;have z3:=bJ (i:=3) PQ.out.2.2.1;obtain⟨W11,hW11⟩:=zE (W10.setCell ⟨g,3,none⟩ (.int .u64 (t1:Nat)));have f11:Fr (fun c _=>c≠g) W10 W11:=hW11▸(Fr.refl _ _).setCell (fun _ _ h=>h rfl) _;have T11:Hid (W11.heap[g]? = some (.cells (cM (aMV k1 me s t1 ok)) 32 (0,0))):=hW11▸bK (o:=3) PQ.out.2.2.1 (.int .u64 (t1:Nat));have T011:Hid (W11.heap[g0]? = some (.cells (cM m) 32 (0,0))):=f11.keep _ _ PQ.out.2.2.2.1 (by have:=HGW.out;omega);have H11:=zH (PQ.out.1.msg f11 ⟨_,_,PQ.out.2.2.1⟩ (by have:=bZ H.out.top;have:=HGW.out;have:=HG0.out;omega));have FP11:Hid (Fr (fun c _=>¬P c) w W11):=((PQ.out.2.1.mono fun _ _ h=>h.1:Fr (fun c _=>¬P c∧c<w.heap.size) w W10).trans (f11.mono fun c _ h e=>by have:=h.2;have:=HGW.out;have:=HG0.out;omega)).within;have w7:=(bq T11.out).2.2.2.2.2.2.2.1;have u0:W11.cell? ⟨g0,0,none⟩=some (.int .i64 k):=by rw[←HK.out];exact(bq T011.out).1
    have OUTG:Hid (∀(n2:Nd) (tt:Nat),(if ok=true∧k=1 then { n1 with vote:=s } else n1)=n2→(if ok=true∧k=3 then m.tm else t1)=tt→n.onAsk m.ms=(n2,[(aMV k1 me s tt ok).ms])):=fun n2 tt e1 e2=>by
     unfold Nd.onAsk;refine(if_pos (show m.kind=1∨m.kind=3 by rw[HK.out];exact PR.out.1)).trans ?_
     show (let n1:Nd:=if m.kind=1∧n.tm<m.tm then n.follow m.tm (-1) else n
      let ok:=n1.log.newer m.prev m.index&&n1.would m.ms
      ((if ok=true∧m.kind=1 then { n1 with vote:=m.src } else n1,[{ zMs with kind:=m.kind+1,src:=n.me,dst:=m.src,tm:=if ok=true∧m.kind=3 then m.tm else n1.tm,ok:=ok }]):Nd×List Ms))=_
     rw[PR.out.2.2.2.2.2];dsimp only;rw[PQ.out.2.2.2.2,HK.out,HME.out,HS.out,e1,ht1,e2,HK1.out];rfl
    have KOR:Hid (k=1∨k=3):=PR.out.1;clear ht1 f11 PQ AT10 PR;cases ok with
    | false=>
     have OUT:=zH (OUTG.out n1 t1 (if_neg (fun e=>by cases e.1)) (if_neg (fun e=>by cases e.1)));obtain⟨a0,a1,a2,a3,a4,a5,a6,a7,a8,a9⟩:=bq T11.out;clear OUTG;go_wp2
     try rw[hW11]
     go_ret;rw[OUT.out];exact⟨X,P,q1,_,[aMV k1 me s t1 false],rfl,H11.out.tt ((Fr.refl _ W11).alloc _),(Aft.of FP11.out H.out.px).tr ((Fr.refl _ W11).alloc _),(OwnMs.one (aMV k1 me s t1 false) H11.out.hx (qz _ _ _ _ _ _ _)).lo FP11.out.size,rfl⟩
    | true=>
     by_cases hk3:k=3
     ·subst hk3;have u3:=(bq T011.out).2.2.2.1;have w3:=(bq T11.out).2.2.2.1;have x3:=bJ (i:=3) T11.out;obtain⟨W12,hW12⟩:=zE (W11.setCell ⟨g,3,none⟩ (.int .u64 (m.tm:Nat)));have f12:Fr (fun c _=>c≠g) W11 W12:=hW12▸(Fr.refl _ _).setCell (fun _ _ h=>h rfl) _;have T12:Hid (W12.heap[g]? = some (.cells (cM (aMV k1 me s m.tm true)) 32 (0,0))):=hW12▸bK (o:=3) T11.out (.int .u64 (m.tm:Nat));have H12:=zH (H11.out.msg f12 ⟨_,_,T11.out⟩ (by have:=bZ H.out.top;have:=HGW.out;have:=HG0.out;omega));have FP12:Hid (Fr (fun c _=>¬P c) w W12):=((FP11.out.mono fun _ _ h=>h.1:Fr (fun c _=>¬P c∧c<w.heap.size) w W11).trans (f12.mono fun c _ h e=>by have:=h.2;have:=HGW.out;have:=HG0.out;omega)).within;have OUT:=zH (OUTG.out n1 m.tm (if_neg (fun e=>by have:=e.2;revert this;decide)) (if_pos ⟨rfl,rfl⟩));obtain⟨a0,a1,a2,a3,a4,a5,a6,a7,a8,a9⟩:=bq T12.out;clear OUTG;go_wp2
      try rw[hW11]
      try rw[hW12]
      go_ret;rw[OUT.out];exact⟨X,P,q1,_,[aMV k1 me s m.tm true],rfl,H12.out.tt ((Fr.refl _ W12).alloc _),(Aft.of FP12.out H.out.px).tr ((Fr.refl _ W12).alloc _),(OwnMs.one (aMV k1 me s m.tm true) H12.out.hx (qz _ _ _ _ _ _ _)).lo FP12.out.size,rfl⟩
     ·obtain rfl:k=1:=by have:=KOR.out;omega
      have u1:W11.cell? ⟨g0,1,none⟩=some (.int .i64 s):=by rw[←HS.out];exact(bq T011.out).2.1
      have w1:=(H11.out.cells (Fr.refl _ W11)).2.1;have x1:=H11.out.free (Fr.refl _ W11) 1;obtain⟨W12,hW12⟩:=zE (W11.setCell ⟨b,1,none⟩ (.int .i64 s));have f12:Fr (fun c _=>c≠b) W11 W12:=hW12▸(Fr.refl _ _).setCell (fun _ _ h=>h rfl) _;have T12:Hid (W12.heap[g]? = some (.cells (cM (aMV k1 me s t1 true)) 32 (0,0))):=f12.keep _ _ T11.out gb.out.2;have H12:Hid (PNs X P W12 b { n1 with vote:=s } q1):=hW12▸H11.out.re (n':={ n1 with vote:=s }) (w':=j4 W11 b [(1,.int .i64 s)]) (bj b _ _) (bz _ H11.out.top) ⟨rfl,rfl⟩ (.inl ⟨rfl,rfl⟩) ⟨rfl,rfl,rfl⟩ ⟨rfl,rfl,rfl,rfl⟩;have FP12:Hid (Fr (fun c _=>¬P c) w W12):=FP11.out.trans (f12.mono fun c _ hc e=>hc (e▸H.out.pb));have OUT:=zH (OUTG.out { n1 with vote:=s } t1 (if_pos ⟨rfl,rfl⟩) (if_neg (fun e=>by have:=e.2;revert this;decide)));obtain⟨a0,a1,a2,a3,a4,a5,a6,a7,a8,a9⟩:=bq T12.out;clear OUTG;go_wp2
      try rw[hW11]
      try rw[hW12]
      go_ret;rw[OUT.out];exact⟨X,P,q1,_,[aMV k1 me s t1 true],rfl,H12.out.tt ((Fr.refl _ W12).alloc _),(Aft.of FP12.out H.out.px).tr ((Fr.refl _ W12).alloc _),(OwnMs.one (aMV k1 me s t1 true) H12.out.hx (qz _ _ _ _ _ _ _)).lo FP12.out.size,rfl⟩
   clear h10;cases nw with
   | false=>
    refine wpR [(34,0),(35,1),(36,2),(37,3),(38,4),(39,5),(40,6),(41,7),(42,8),(43,9),(44,10),(45,11),(46,12),(47,13),(48,14)] [(0,[]),(1,[0]),(2,[1]),(3,[2]),(4,[]),(5,[4]),(6,[]),(7,[6]),(9,[8]),(13,[9,12]),(14,[]),(8,[3,5,7]),(10,[9]),(11,[9]),(12,[9,10,11])] (ckR [(0,.pointer (some ⟨b,0,none⟩)),(1,.pointer (some ⟨b,0,none⟩)),(2,.pointer (some ⟨b,8,none⟩)),(3,.agg #[.int .u64 (bs:Nat),.int .u64 (bt:Nat),.slice ae le ce]),(4,.pointer (some ⟨g0,5,none⟩)),(5,.int .u64 (m.prev:Nat)),(6,.pointer (some ⟨g0,4,none⟩)),(7,.int .u64 (m.index:Nat)),(8,.bool false),(9,.bool false),(13,.bool false),(14,.pointer (some ⟨g,7,none⟩))] [] 15 0) 1 rfl ?cfall ?cfend
    case cfall=>
     iterate 11
      refine bV.q rfl rfl rfl (fun xs W HF hE K' hK=>?_) ?_
      ·simp only[ckEqs,ckLook,Nat.reduceBEq] at hE;simp only[fillA,fillL,sA,sB,sC,Act.put,hE] at hK ⊢;clear hE;obtain⟨y8,y9,y10⟩:=CC.out W ((Fr.refl _ W7).drew.trans HF.out);obtain⟨v0,v1,v2,v3,v4,v5,v6,v7,v8,v9⟩:=bq (VC7.out W ((Fr.refl _ W7).drew.trans HF.out));(try simp only[gA,gB,gC]);go_simp;exact hK.out _ rfl
     refine bV.p rfl rfl (fun xs W HF hA hE K' hK=>?_) ?_
     ·clear hA;simp only[ckEqs,ckLook,Nat.reduceBEq] at hE;simp only[fillA,fillL,sA,sB,sC,Act.put,hE] at hK ⊢;clear hE;have LA1:=zH (NC.out W ((Fr.refl _ W7).drew.trans HF.out));(try simp only[gA,gB,gC]);go_simp;(with_reducible refine LA1.out.mono ?_);rintro e w8 ⟨rfl,f8⟩;exact hK.out _ _ _ rfl f8 rfl
     refine bV.p rfl rfl (fun xs W HF hA hE K' hK=>?_) ?_
     ·clear hA;simp only[ckEqs,ckLook,Nat.reduceBEq] at hE;simp only[fillA,fillL,sA,sB,sC,Act.put,hE] at hK ⊢;clear hE;(try simp only[gA,gB,gC]);go_simp;exact hK.out _ _ _ rfl (Fr.refl _ _) trivial
     refine bV.p rfl rfl (fun xs W HF hA hE K' hK=>?_) ?_
     ·clear hA;simp only[ckEqs,ckLook,Nat.reduceBEq] at hE;simp only[fillA,fillL,sA,sB,sC,Act.put,hE] at hK ⊢;clear hE;(try simp only[gA,gB,gC]);go_simp;exact hK.out _ _ _ rfl (Fr.refl _ _) trivial
     refine bV.p rfl rfl (fun xs W HF hA hE K' hK=>?_) ?_
     ·have h10:=hA 10 (by decide);have h11:=hA 11 (by decide);clear hA;simp only[ckEqs,ckLook,Nat.reduceBEq] at hE;simp only[fillA,fillL,sA,sB,sC,Act.put,hE] at hK ⊢;clear hE;(try simp only[gA,gB,gC]);go_simp;exact hK.out _ _ _ rfl (Fr.refl _ _) trivial
     exact bV.nil
    case cfend=>
     intro xs W hF hA;have HF:=zH hF;have hE:=b_ rfl hA;clear hA hF;simp only[List.map_cons,List.map_nil,ckEqs,ckLook,Nat.reduceBEq] at hE;simp only[fillA,fillL,sA,sB,sC,hE];clear hE;have FX:Hid (Fr (fun _ _=>True) W7 W):=(Fr.refl _ W7).drew.trans HF.out;have T9:Hid (W.heap[g]? = some (.cells (cM (aMV k1 me s 0 false)) 32 (0,0))):=FX.out.keep _ _ T7.out trivial;have v7:=(bq T9.out).2.2.2.2.2.2.2.1;have z7:=bJ (i:=7) T9.out;obtain⟨W10,hW10⟩:=zE (W.setCell ⟨g,7,none⟩ (.bool false));have f10:Fr (fun c _=>c≠g) W W10:=hW10▸(Fr.refl _ _).setCell (fun _ _ h=>h rfl) _;have PRE:=AT10.out false W W10 FX.out f10 (hW10▸bK (o:=7) T9.out (.bool false)) (by rw[HNW.out];rfl);clear NC WC CC VC7 FX f10 T9;refine wpN 15 rfl fun K' hK=>?_
     (try simp only[gA,gB,gC]);go_simp;refine hK.out _ _ ?_;clear hK K';refine wpF ?_
     try rw[hW10]
     exact TAIL10 _ _ PRE _ _ _ _ _ _ _ _ _ _ _ _ _ _ _ _ _ _ _ _ _ _ _ _ _ _ _ _ _ _ _ _ _ _ _ _ _ _ _ _ _ _ _ _ _ _ _ _ _ _ _ _ _ _ _ _ _ _ _ _ _ _ _ _ _ _ _ _ _ _ _
   | true=>
    refine wpR [(34,0),(35,1),(36,2),(37,3),(38,4),(39,5),(40,6),(41,7),(42,8),(43,9),(44,10),(45,11),(46,12),(47,13),(48,14)] [(0,[]),(1,[0]),(2,[1]),(3,[2]),(4,[]),(5,[4]),(6,[]),(7,[6]),(9,[8]),(10,[9]),(11,[9]),(13,[9,12]),(14,[]),(8,[3,5,7]),(12,[9,10,11])] (ckR [(0,.pointer (some ⟨b,0,none⟩)),(1,.pointer (some ⟨b,0,none⟩)),(2,.pointer (some ⟨b,8,none⟩)),(3,.agg #[.int .u64 (bs:Nat),.int .u64 (bt:Nat),.slice ae le ce]),(4,.pointer (some ⟨g0,5,none⟩)),(5,.int .u64 (m.prev:Nat)),(6,.pointer (some ⟨g0,4,none⟩)),(7,.int .u64 (m.index:Nat)),(8,.bool true),(9,.bool true),(10,.pointer (some ⟨b,0,none⟩)),(11,.agg #[.int .i64 m.kind,.int .i64 m.src,.int .i64 m.dst,.int .u64 (m.tm:Nat),.int .u64 (m.index:Nat),.int .u64 (m.prev:Nat),.int .u64 (m.commit:Nat),.bool m.ok,.slice m.da m.d.length m.dc,.slice m.ea m.es.length m.ec]),(12,.bool wd),(13,.bool wd),(14,.pointer (some ⟨g,7,none⟩))] [] 15 0) 1 rfl ?cfall ?cfend
    case cfall=>
     iterate 13
      refine bV.q rfl rfl rfl (fun xs W HF hE K' hK=>?_) ?_
      ·simp only[ckEqs,ckLook,Nat.reduceBEq] at hE;simp only[fillA,fillL,sA,sB,sC,Act.put,hE] at hK ⊢;clear hE;obtain⟨y8,y9,y10⟩:=CC.out W ((Fr.refl _ W7).drew.trans HF.out);obtain⟨v0,v1,v2,v3,v4,v5,v6,v7,v8,v9⟩:=bq (VC7.out W ((Fr.refl _ W7).drew.trans HF.out));(try simp only[gA,gB,gC]);go_simp;exact hK.out _ rfl
     refine bV.p rfl rfl (fun xs W HF hA hE K' hK=>?_) ?_
     ·clear hA;simp only[ckEqs,ckLook,Nat.reduceBEq] at hE;simp only[fillA,fillL,sA,sB,sC,Act.put,hE] at hK ⊢;clear hE;have LA1:=zH (NC.out W ((Fr.refl _ W7).drew.trans HF.out));(try simp only[gA,gB,gC]);go_simp;(with_reducible refine LA1.out.mono ?_);rintro e w8 ⟨rfl,f8⟩;exact hK.out _ _ _ rfl f8 rfl
     refine bV.p rfl rfl (fun xs W HF hA hE K' hK=>?_) ?_
     ·clear hA;simp only[ckEqs,ckLook,Nat.reduceBEq] at hE;simp only[fillA,fillL,sA,sB,sC,Act.put,hE] at hK ⊢;clear hE;have LA1:=zH (WC.out W ((Fr.refl _ W7).drew.trans HF.out));(try simp only[gA,gB,gC]);go_simp;(with_reducible refine LA1.out.mono ?_);rintro e w8 ⟨rfl,f8⟩;exact hK.out _ _ _ rfl f8 rfl
     exact bV.nil
    case cfend=>
     intro xs W hF hA;have HF:=zH hF;have hE:=b_ rfl hA;clear hA hF;simp only[List.map_cons,List.map_nil,ckEqs,ckLook,Nat.reduceBEq] at hE;simp only[fillA,fillL,sA,sB,sC,hE];clear hE;have FX:Hid (Fr (fun _ _=>True) W7 W):=(Fr.refl _ W7).drew.trans HF.out;have T9:Hid (W.heap[g]? = some (.cells (cM (aMV k1 me s 0 false)) 32 (0,0))):=FX.out.keep _ _ T7.out trivial;have v7:=(bq T9.out).2.2.2.2.2.2.2.1;have z7:=bJ (i:=7) T9.out;obtain⟨W10,hW10⟩:=zE (W.setCell ⟨g,7,none⟩ (.bool wd));have f10:Fr (fun c _=>c≠g) W W10:=hW10▸(Fr.refl _ _).setCell (fun _ _ h=>h rfl) _;have PRE:=AT10.out wd W W10 FX.out f10 (hW10▸bK (o:=7) T9.out (.bool wd)) (by rw[HNW.out];rw[Bool.true_and,HWD.out]);clear NC WC CC VC7 FX f10 T9;refine wpN 15 rfl fun K' hK=>?_
     (try simp only[gA,gB,gC]);go_simp;refine hK.out _ _ ?_;clear hK K';refine wpF ?_
     try rw[hW10]
     exact TAIL10 _ _ PRE _ _ _ _ _ _ _ _ _ _ _ _ _ _ _ _ _ _ _ _ _ _ _ _ _ _ _ _ _ _ _ _ _ _ _ _ _ _ _ _ _ _ _ _ _ _ _ _ _ _ _ _ _ _ _ _ _ _ _ _ _ _ _ _ _ _ _ _ _ _ _
  by_cases c1:k=1
  ·subst c1;have v3:=(bq T02.out).2.2.2.1;have y6:=(H2.out.cells (Fr.refl _ W2)).2.2.2.2.2.2.1;by_cases hf:n.tm<m.tm
   ·have gl:decide (n.tm<m.tm)=true:=decide_eq_true hf;have HF0:=zH hf;clear hf h9 h8 h7;go_wp2_with fail
    go_quiet (fail)
    clear v3 y6 gl v0;have FO:=zH (dq (H2.out.tt ((Fr.refl _ W2).drewN nq)) m.tm (-1));have v3:=(bq (((Fr.refl _ W2).drewN nq:Fr (fun _ _=>True) _ _).keep _ _ T02.out trivial)).2.2.2.1;go_wp2_with fail
    (with_reducible refine FO.out.mono ?_);rintro e Wf ⟨rfl,h3,f3⟩;have H3:=zH (And.intro h3 f3);clear v3 FO h3 f3;go_wp2;exact TAIL _ _ _ ⟨(by simp),H3.out.1,((Fr.refl _ W2).drewN nq).trans H3.out.2,rfl,by unfold Nd.follow;split <;> rfl,if_pos ⟨HK.out,HF0.out⟩⟩ _ _ _ _ _ _ _ _ _ _ _ _ _ _ _ _ _ _ _ _ _ _ _ _ _ _ _ _ _ _ _ _ _ _ _ _ _ _ _ _ _ _ _ _ _ _ _ _ _ _ _ _ _ _ _ _ _ _ _ _ _ _ _ _ _ _ _ _ _ _ _
   ·have gl:decide (n.tm<m.tm)=false:=decide_eq_false hf;have HF0:=zH hf;clear hf h9 h8 h7;go_wp2_with fail
    go_quiet (fail)
    clear v3 y6 gl v0;go_wp2;exact TAIL n q _ ⟨(by simp),H2.out.tt ((Fr.refl _ W2).drewN nq),(Fr.refl _ W2).drewN nq,rfl,rfl,if_neg (fun e=>HF0.out e.2)⟩ _ _ _ _ _ _ _ _ _ _ _ _ _ _ _ _ _ _ _ _ _ _ _ _ _ _ _ _ _ _ _ _ _ _ _ _ _ _ _ _ _ _ _ _ _ _ _ _ _ _ _ _ _ _ _ _ _ _ _ _ _ _ _ _ _ _ _ _ _ _ _
  ·have g1:(k==1)=false:=by simpa using c1
   by_cases c3:k=3
   ·subst c3;clear c1 h9 h8 h7;go_wp2;exact TAIL n q _ ⟨(by simp),H2.out,Fr.refl _ _,rfl,rfl,if_neg (fun e=>by have:=e.1;rw[HK.out] at this;omega)⟩ _ _ _ _ _ _ _ _ _ _ _ _ _ _ _ _ _ _ _ _ _ _ _ _ _ _ _ _ _ _ _ _ _ _ _ _ _ _ _ _ _ _ _ _ _ _ _ _ _ _ _ _ _ _ _ _ _ _ _ _ _ _ _ _ _ _ _ _ _ _ _
   ·have g3:(k==3)=false:=by simpa using c3
    have E:Hid (n.onAsk m.ms=(n,[])):=by show _=_;unfold Nd.onAsk;rw[if_neg (by rw[show m.ms.kind=k from HK.out];omega)]
    clear c1 c3 TAIL h9 H9 h7;go_wp2;go_ret;rw[E.out];exact⟨X,P,q,_,[],rfl,H2.out,.of FP2.out H.out.px,OwnMs.nil _ _ _,rfl⟩
end
def encW (x:Nat):List Value:=[.int .u64 (x:Nat)]
theorem yV:∀(xs:List Nat),xs.flatMap encW=xs.map dx
 | []=>rfl
 | x :: xs=>by rw[List.flatMap_cons,yV xs];rfl
end Go.Proofs.YtmjccpfchhnfhaaGreat
