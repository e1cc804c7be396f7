/- Texts of the proofs, part 35: what the functions that they reach do, walked; no conditions beyond those that each states. -/
import Derived.Test.YtmjccpfchhnfhaaGreatZk866fd7ed4d
import Derived.Test.YtmjccpfchhnfhaaGreatZk83a0458b4a
set_option linter.unusedVariables false
set_option linter.unusedSimpArgs false
set_option maxRecDepth 100000
set_option maxHeartbeats 8000000
namespace Go.Proofs.YtmjccpfchhnfhaaGreat
open Go.RowKit
theorem fw {K0:Nat→Obj→Prop} {o:Oper} {a:Act} {K:Act→World→Prop} {Q:Exit→Act→World→Prop} (W:World) (s x:Operand)
 (ho:o.op=.call { callee:=.builtin .append,args:=#[s,x],argTypes:=#[39,39] }) (v:Value) (T:List MV) (hs:a.eval s=v) (hown:Hid (W.ownsRow 0 32 10 v T.length (T.flatMap encM)))
 (vx:Value) (ys:List MV) (hx:a.eval x=vx) (hvx:Hid (RowsAt K0 W vx 10 encM ys)) (N:Nat) (hN:Hid ((T++ys).length=N)) (hn:N≤1000000)
 (h:∀g c w',Hid (w'.ownsRow 0 32 10 (.slice g N c) N ((T++ys).flatMap encM))→Hid (Fr (fun b _=>v.ownBlock≠some b) W w')→Hid (OwnNext W v (.slice g N c))→K (a.put o.dst (.slice g N c)) w'):o.wp Tryz.prog a W K Q:=by
 have f0:Fr (fun _ _=>True) { W with heap:=#[] } W:=⟨rfl,rfl,rfl,Nat.zero_le _,fun b o hb=>by simp at hb⟩
 exact fv { W with heap:=#[] } W f0 s x ho v T hs hown vx ys hx hvx (T++ys) rfl N hN hn fun g c w' h1 _ h3 h4=>h g c w' h1 h3 h4
section
variable {X:Nat→Prop} {w w':World} {b rb ap:Nat} {n n':Nd} {q q':DV}
theorem OwnMs.neR [Old] {B:Nat} {W:World} {v:Value} {ms:List MV} (o:OwnMs X B W v ms) (h:RD W rb b ap):v.ownBlock≠some rb:=fun e=>by
 obtain⟨cur,h0⟩:=bw o.row e;rw[show W.heap[rb]? = _ from h] at h0;cases h0
theorem jQ.app [Old] {W2 W3:World} {q2:DV} {v1 v2 v3:Value} {mvs mv2:List MV} {ms1 ms2:List Ms} {n2:Nd} {B2:Nat} (h2:DNs X W2 b n2 q2) (af:Fr (fun c _=>c≠b) w W2) (o1:OwnMs X w.heap.size W2 v1 mvs) (o2:OwnMs X B2 W2 v2 mv2) (e1:mvs.map MV.ms=ms1) (e2:mv2.map MV.ms=ms2)
 (hod:∀c,Old.o c→c<w.heap.size) (hr:W3.ownsRow 0 32 10 v3 (mvs++mv2).length ((mvs++mv2).flatMap encM)) (hf:Fr (fun c _=>v1.ownBlock≠some c) W2 W3) (hn:OwnNext W2 v1 v3):DNs X W3 b n2 q2∧Fr (fun c _=>c≠b) w W3∧OwnMs X w.heap.size W3 v3 (mvs++mv2)∧(mvs++mv2).map MV.ms=ms1++ms2:=by
 have hb:=ck o1.row
 have no:∀{c o},v1.ownBlock=some c→W2.heap[c]? = some o→RO X c o→False:=fun {c o} e ho hr=>by obtain⟨cur,h0⟩:=bw o1.row e;rw[ho] at h0;cases h0;exact hr.ne (fun k=>by have:=hod c k;have:=hb c e;omega) rfl (by decide)
 have kp:∀{m:MV},MsAt X W2 m→MsAt X W3 m:=fun hm=>hm.keep hf fun c o ho hr e=>no e ho hr
 have ki:∀{v:Value} {zs:List Int},IntsAt (RO X) W2 v zs→IntsAt (RO X) W3 v zs:=fun h=>(((h.mono3 (K':=fun c o=>RO X c o∧v1.ownBlock≠some c) fun c o ho hr=>⟨hr,fun e=>no e ho hr⟩).fr hf fun c o q=>q.2).mono fun c o q=>q.1)
 refine⟨⟨hf.keep _ _ h2.top (fun e=>o1.off b e h2.xb),ki h2.cf,ki h2.ye,⟨h2.ev.row.fr hf fun c o ho hr e=>no e ho hr,h2.ev.nz,fun x hx=>⟨(h2.ev.dat x hx).1.fr3 hf fun c o ho hr e=>no e ho hr,(h2.ev.dat x hx).2⟩⟩,h2.ee,h2.nl,h2.ml,h2.xb,fun c hc=>Nat.lt_of_lt_of_le (h2.hx c hc) hf.size,h2.od⟩,
  ⟨hf.os.trans af.os,hf.tape.trans af.tape,hf.output.trans af.output,Nat.le_trans af.size hf.size,fun c o ho hp=>hf.keep c o (af.keep c o ho hp) fun e=>by have:=hb c e;have:=bZ ho;omega⟩,⟨dy hr fun c e=>?_,fun c e hx=>?_,fun m hm=>?_⟩,by rw[List.map_append,e1,e2]⟩
 ·rcases hn with q | ⟨k,q,hk⟩
  ·rw[q] at e;exact hb c e
  ·rw[q] at e;cases e;have:=af.size;omega
 ·rcases hn with q | ⟨k,q,hk⟩
  ·rw[q] at e;exact o1.off c e hx
  ·rw[q] at e;cases e;have:=h2.hx c hx;omega
 ·rcases List.mem_append.1 hm with h | h
  ·exact kp (o1.at' m h)
  ·exact kp (o2.at' m h)
def DSOut [Old] (X:Nat→Prop) (w:World) (b:Nat) (r:(Nd×List Ms)×Int) (e:Ending) (w':World):Prop:=
 ∃q' v mvs,e=.returned (.tuple #[v,.int .i64 r.2])∧DNs X w' b r.1.1 q'∧Fr (fun c _=>c≠b) w w'∧OwnMs X w.heap.size w' v mvs∧mvs.map MV.ms=r.1.2
theorem Cq [Old] (h:DNs X w b n q) (hr:RD w rb b ap) (hrx:rb≠b) (m:MV) (hm:MsAt X w m) (hod:∀c,Old.o c→c<w.heap.size) (hpos:∀x∈n.conf,0≤x∧x≤15) (hg:n.right m.ms=0→Gn n m.ms):
 Calls Tryz.prog 34 #[.pointer (some ⟨rb,0,none⟩),.agg (cM m)] w fun e w'=>DSOut X w b (n.step m.ms) e w':=by
 obtain⟨W1,hW1,F1,T1⟩:=gW w m;have RC:=zH (yY (h.tt F1.out) (hr.fr F1.out fun _=>trivial) m (hm.tt F1.out));obtain⟨c,hc⟩:=zE (n.right m.ms);rw[hc] at RC;have H:=zH h;have R0:=zH hr;have HM:=zH hm;have OD:Hid (∀c,Old.o c→c<W1.heap.size):=fun c k=>Nat.lt_of_lt_of_le (hod c k) F1.out.size
 have HG:=zH hg;have HC:=zH hc;have HPOS:=zH hpos;have RBN:=zH hrx;have GB:Hid (w.heap.size≠b):=by have:=bZ h.top;show _≠_;omega
 have GS:Hid (w.heap.size<W1.heap.size):=bZ T1.out;obtain⟨res,hres⟩:=zE (n.step m.ms)
 have EQ:Hid (res=if c≠0 then((n,[]),c) else(n.led (n.hear m.ms),0)):=by show res=_;rw[←hres,←hc];rfl
 rw[hres];have CC:Hid (∀W,RD W rb b ap→W.heap[w.heap.size]? = some (.cells (cM m) 32 (0,0))→W.cell? ⟨rb,0,none⟩=some (.pointer (some ⟨b,0,none⟩))∧W.cell? ⟨w.heap.size,0,none⟩=some (.int .i64 m.kind)∧W.cell? ⟨w.heap.size,1,none⟩=some (.int .i64 m.src)∧W.cell? ⟨w.heap.size,2,none⟩=some (.int .i64 m.dst)∧W.cell? ⟨w.heap.size,3,none⟩=some (.int .u64 (m.tm:Nat))∧W.cell? ⟨w.heap.size,4,none⟩=some (.int .u64 (m.index:Nat))∧W.cell? ⟨w.heap.size,5,none⟩=some (.int .u64 (m.prev:Nat))∧W.cell? ⟨w.heap.size,6,none⟩=some (.int .u64 (m.commit:Nat))∧W.cell? ⟨w.heap.size,7,none⟩=some (.bool m.ok)∧W.cell? ⟨w.heap.size,8,none⟩=some (.slice m.da m.d.length m.dc)∧W.cell? ⟨w.heap.size,9,none⟩=some (.slice m.ea m.es.length m.ec)):=fun W h1 h2=>⟨bQ h1 rfl,bq h2⟩
 obtain⟨v0,v1,v2,v3,v4,v5,v6,v7,v8,v9⟩:=bq T1.out;dsimp only[cM] at RC;unfold cM at hW1 ⊢;clear h hr hrx hm hod hg hc hpos hres;go_enter Tryz.func34,Tryz.ntmps34
 go_wp2_with fail
 try rw[hW1]
 clear hW1;(with_reducible refine RC.out.mono ?_);rintro e w2 ⟨rfl,f2⟩;have F2:=zH (F1.out.trans f2);have T2:Hid (w2.heap[w.heap.size]? = some (.cells (cM m) 32 (0,0))):=f2.keep _ _ T1.out trivial;have G2:Hid (w.heap.size<w2.heap.size):=Nat.lt_of_lt_of_le GS.out f2.size;replace OD:Hid (∀c,Old.o c→c<w2.heap.size):=fun c k=>Nat.lt_of_lt_of_le (OD.out c k) f2.size
 clear f2 RC T1 GS v0 v1 v2 v3 v4 v5 v6 v7 v8 v9;obtain⟨W1,hWW⟩:=zE w2;by_cases hc0:c=0
 case neg=>
  have c1:(c != 0)=true:=by simpa using hc0
  have OUT:Hid (res=((n,[]),c)):=EQ.out.trans (if_pos hc0);clear EQ hWW;go_wp2;go_ret2;rw[OUT.out];exact⟨q,_,[],rfl,H.out.tt F2.out,F2.out.mono fun _ _ _=>trivial,OwnMs.nil _ _ _,rfl⟩
 case pos=>
  subst hc0;have OK:=Nd.right_ok HC.out;have K:1≤m.kind∧m.kind≤6:=⟨(wq OK.1).1,OK.2.2.2.1⟩
  have hg:=HG.out HC.out;subst hWW;have GS:=G2;have T1:=T2;have F0:=F2;clear G2 T2 F2;have R1:Hid (RD w2 rb b ap):=R0.out.fr F0.out fun _=>trivial
  have H1:=zH (H.out.tt F0.out);have M1:=zH (HM.out.tt F0.out);obtain⟨mN,hme,hm16⟩:=hg.me;obtain⟨r1,hr1⟩:=zE (n.onAsk m.ms);obtain⟨r2,hr2⟩:=zE (r1.1.onAnswer m.ms);obtain⟨r3,hr3⟩:=zE (r2.1.onAppend m.ms);obtain⟨r4,hr4⟩:=zE (r3.1.onAcked m.ms);have OUT0:Hid (res=(n.led (r4.1,r1.2++r2.2++r3.2++r4.2),0)):=EQ.out.trans ((if_neg (fun e=>e rfl)).trans (by rw[←hr4,←hr3,←hr2,←hr1];rfl));have m2:m.index+m.ms.es.length≤_:=hg.bm.index;have m3:m.es.length≤100000:=by rw[←m.esl];exact hg.le
  rw[m.esl] at m2;have m1:m.tm≤_:=hg.bm.tm;have m4:m.kind=6→m.prev≤_:=hg.bm.prev;have mb1:=hg.bm.mono (Nat.le_succ _);have g0:Gw 4611686018427387904 100000 n:=⟨hg.bn,hg.es,hg.ye,hg.me,hg.cf,HPOS.out⟩
  have b1:Gw 4611686018427387904 100000 r1.1:=by rw[←hr1];exact g0.up (Nd.onAsk_up n m.ms) (Nd.onAsk_b g0.bn hg.bm).1 (by rw[Nd.onAsk_log];exact g0.es) (Nd.onAsk_y g0.ye)
  have b2:Gw 4611686018427387905 100001 r2.1:=by rw[←hr2];exact b1.up (Nd.onAnswer_up _ _) (Nd.onAnswer_b b1.bn hg.bm).1 (Nat.le_trans (Nd.onAnswer_log _ _) (Nat.succ_le_succ b1.es)) (Nd.onAnswer_y b1.ye)
  have b3:Gw 4611686018427387905 200001 r3.1:=by rw[←hr3];exact b2.up (Nd.onAppend_up _ _) (Nd.onAppend_b b2.bn mb1).1 (Nat.le_trans (Nd.onAppend_log _ _) (by have:=b2.es;have:=hg.le;omega)) (Nat.le_trans (Nd.onAppend_y b2.ye) (by omega))
  have b4:Gw 4611686018427387906 200001 r4.1:=by rw[←hr4];exact b3.up (Nd.onAcked_up _ _) (Nd.onAcked_b b3.bn mb1).1 (by rw[Nd.onAcked_log];exact b3.es) (Nd.onAcked_y b3.ye)
  have LN:Hid (r1.2.length≤1∧r2.2.length≤12∧r3.2.length≤1∧r4.2.length≤1):=⟨by rw[←hr1];exact Nd.onAsk_len _ _,by rw[←hr2];exact Nat.le_trans (Nd.onAnswer_len _ _) b1.cf.2,by rw[←hr3];exact Nd.onAppend_len _ _,by rw[←hr4];exact Nd.onAcked_len _ _⟩
  have C1:Hid (∀W,Fr (fun _ _=>True) w2 W→Calls Tryz.prog 89 #[.pointer (some ⟨b,0,none⟩),.agg (cM m)] W fun e w'=>jQ X W b r1 e w'):=fun W f=>by have:=g0.bn.last;have:=g0.es;rw[←hr1];exact yy (H1.out.tt f) m (by omega) (by omega)
  have C2:Hid (∀W q,DNs X W b r1.1 q→Fr (fun c _=>c≠b) w2 W→Calls Tryz.prog 90 #[.pointer (some ⟨b,0,none⟩),.agg (cM m)] W fun e w'=>jQ X W b r2 e w'):=fun W q hp f=>by obtain⟨mN,hme,hm16⟩:=b1.me;have:=b1.bn.last;have:=b1.bn.tm;have:=b1.es;have:=b1.ye;rw[←hr2];exact qZ hp m b1.cf (by omega) mN hme hm16 (by omega) (by omega) (by omega) (by omega)
  have C3:Hid (∀W q,DNs X W b r2.1 q→Fr (fun c _=>c≠b) w2 W→Calls Tryz.prog 11 #[.pointer (some ⟨b,0,none⟩),.agg (cM m)] W fun e w'=>jQ X W b r3 e w'):=fun W q hp f=>by have:=b2.bn.last;have:=b2.es;rw[←hr3];exact vk hp m (M1.out.keep f fun c o ho hr e=>hr.1 (e▸H.out.xb)) (by omega) (by omega) (by omega) (by omega)
  have C4:Hid (∀W q,DNs X W b r3.1 q→Fr (fun c _=>c≠b) w2 W→Calls Tryz.prog 15 #[.pointer (some ⟨b,0,none⟩),.agg (cM m)] W fun e w'=>jQ X W b r4 e w'):=fun W q hp f=>by have:=b3.bn.last;have:=b3.es;rw[←hr4];exact y_ hp m b3.cf b3.pos (fun y hy=>by have:=b3.bn.nx y hy;omega) (fun y hy=>by have:=b3.bn.mt y hy;omega) (by omega) (fun e=>by have:=m4 e;omega) (by omega) (by omega)
  have BC:Hid (∀W q,DNs X W b r4.1 q→Calls Tryz.prog 19 #[.pointer (some ⟨b,0,none⟩)] W fun e w'=>jj X W r4.1.beat e w'):=fun W q hp=>
   Cj hp (by have:=b4.cf.2;omega) (fun y hy=>by have:=b4.bn.nx y hy;omega) (by have:=b4.bn.last;omega) (by have:=b4.es;omega)
  have LB4:Hid (r4.1.conf.length≤12):=b4.cf.2;dsimp only[cM] at C1 C2 C3 C4;obtain⟨ro,hro⟩:=zE n.role;obtain⟨tm,htm⟩:=zE n.tm;have y0:w2.cell? ⟨rb,0,none⟩=some (.pointer (some ⟨b,0,none⟩)):=bQ R1.out rfl;obtain⟨-,-,x2,-,-,-,x6,-,-,-,-,-⟩:=H1.out.cells (Fr.refl _ w2);rw[hro] at x2;rw[htm] at x6;have HRT:=zH (And.intro hro htm);clear EQ OK K hg hme hm16 hr1 hr2 hr3 hr4 m1 m2 m3 m4 mb1 g0 b1 b2 b3 b4 HG HPOS hro htm;obtain⟨W1,rfl⟩:∃Y,Y=w2:=⟨_,rfl⟩
  go_wp2_with fail
  clear y0 x2 x6;refine wpR [(30,0),(31,1),(32,2),(33,3),(34,4),(35,5),(9,6)] [(0,[]),(1,[0]),(2,[1]),(3,[2]),(4,[])] (ckR [(0,.pointer (some ⟨rb,0,none⟩)),(1,.pointer (some ⟨rb,0,none⟩)),(2,.pointer (some ⟨rb,0,none⟩)),(3,.pointer (some ⟨b,0,none⟩)),(4,.agg #[.int .i64 m.kind,.int .i64 m.src,.int .i64 m.dst,.int .u64 (m.tm:Nat),.int .u64 (m.index:Nat),.int .u64 (m.prev:Nat),.int .u64 (m.commit:Nat),.bool m.ok,.slice m.da m.d.length m.dc,.slice m.ea m.es.length m.ec])] [] 5 0) 2 rfl ?cfall ?cfend
  case cfall=>
   iterate 5
    refine bV.q rfl rfl rfl (fun xs W HF hE K' hK=>?_) ?_
    ·simp only[ckEqs,ckLook,Nat.reduceBEq] at hE;simp only[fillA,fillL,sA,sB,sC,Act.put,hE] at hK ⊢;clear hE;obtain⟨y0,v0,v1,v2,v3,v4,v5,v6,v7,v8,v9⟩:=CC.out W (R1.out.fr ((Fr.refl (fun _ _=>True) W1).drew.trans HF.out) fun _=>trivial) (((Fr.refl (fun _ _=>True) W1).drew.trans HF.out).keep _ _ T1.out trivial);(try simp only[gA,gB,gC]);go_simp;exact hK.out _ rfl
   exact bV.nil
  case cfend=>
   intro xs W hF hA;have HF:=zH hF;have hE:=b_ rfl hA;clear hA hF;simp only[List.map_cons,List.map_nil,ckEqs,ckLook,Nat.reduceBEq] at hE;simp only[fillA,fillL,sA,sB,sC,hE];clear hE;have FW:Hid (Fr (fun _ _=>True) W1 W):=(Fr.refl (fun _ _=>True) W1).drew.trans HF.out;have C:=zH (C1.out W FW.out);refine wpN 5 rfl fun K' hK=>?_
   (try simp only[gA,gB,gC]);go_simp;(with_reducible refine C.out.mono ?_);rintro e W2 ⟨q2,v,mv1,rfl,h2,f2,o2,e2⟩;obtain⟨g1,c1,hva⟩:=cQ o2.row;subst hva;have l1:mv1.length≤1000:=by have:=LN.out.1;rw[←e2,List.length_map] at this;omega
   obtain⟨k1,hk1⟩:=zE mv1.length;have K1:=zH hk1;have F2:Hid (Fr (fun c _=>c≠b) W1 W2):=(FW.out.mono fun _ _ _=>trivial:Fr (fun c _=>c≠b) W1 W).trans f2;have R2:Hid (RD W2 rb b ap):=f2.keep _ _ (R1.out.fr FW.out fun _=>trivial) RBN.out;have T2:Hid (W2.heap[w.heap.size]? = some (.cells (cM m) 32 (0,0))):=f2.keep _ _ (FW.out.keep _ _ T1.out trivial) GB.out;rw[hk1] at o2 l1 ⊢;have HH2:=zH (And.intro h2 (And.intro (o2.lo FW.out.size) e2));clear h2 f2 o2 e2 C hk1;refine hK.out _ _ ?_;clear hK K' C1;refine wpN 6 rfl fun K' hK=>?_
   (try simp only[gA,gB,gC]);go_simp;refine hK.out _ _ ?_;clear hK K';refine wpF ?_;go_wp2_with fail
   refine cY (K:=fun _ _=>True) (vt:=.slice g1 k1 c1) 0 rfl (by kernel_rfl) (by kernel_rfl) (by kernel_rfl) (fun _ _ _ h=>h) (Or.inl ⟨by rfl,?cfy⟩) (by kernel_rfl) [(36,0),(37,1),(38,2),(39,3),(40,4),(41,5)] [(0,[]),(1,[]),(2,[1]),(3,[2]),(4,[3]),(5,[])] (ckR [(0,.slice g1 k1 c1),(1,.pointer (some ⟨rb,0,none⟩)),(2,.pointer (some ⟨rb,0,none⟩)),(3,.pointer (some ⟨rb,0,none⟩)),(4,.pointer (some ⟨b,0,none⟩)),(5,.agg #[.int .i64 m.kind,.int .i64 m.src,.int .i64 m.dst,.int .u64 (m.tm:Nat),.int .u64 (m.index:Nat),.int .u64 (m.prev:Nat),.int .u64 (m.commit:Nat),.bool m.ok,.slice m.da m.d.length m.dc,.slice m.ea m.es.length m.ec])] [] 6 0) 3 (by kernel_rfl) (by kernel_rfl) (by kernel_rfl) rfl (fun _=>rfl) (by rfl) 36 rfl (by simp) ?cfall ?cfend
   case cfy=>(intro w;(try simp only[gA,gB,gC]);go_simp)
   case cfall=>
    iterate 6
     refine bV.q rfl rfl rfl (fun xs W HF hE K' hK=>?_) ?_
     ·simp only[ckEqs,ckLook,Nat.reduceBEq] at hE;simp only[fillA,fillL,sA,sB,sC,Act.put,hE] at hK ⊢;clear hE;obtain⟨y0,v0,v1,v2,v3,v4,v5,v6,v7,v8,v9⟩:=CC.out W (R2.out.fr ((Fr.refl (fun _ _=>True) W2).drew.trans HF.out) fun _=>trivial) (((Fr.refl (fun _ _=>True) W2).drew.trans HF.out).keep _ _ T2.out trivial);(try simp only[gA,gB,gC]);go_simp;exact hK.out _ rfl
    exact bV.nil
   case cfend=>
    intro xs W hF hA;have HF:=zH hF;have hE:=b_ rfl hA;clear hA hF;simp only[List.map_cons,List.map_nil,ckEqs,ckLook,Nat.reduceBEq] at hE;simp only[fillA,fillL,sA,sB,sC,hE];clear hE;have FW:Hid (Fr (fun _ _=>True) W2 W):=(Fr.refl (fun _ _=>True) W2).drew.trans HF.out;have C:=zH (C2.out W _ (HH2.out.1.tt FW.out) (F2.out.trans (FW.out.mono fun _ _ _=>trivial)));refine wpN 6 rfl fun K' hK=>?_
    (try simp only[gA,gB,gC]);go_simp;(with_reducible refine C.out.mono ?_);rintro e W3 ⟨q3,v3,mvB,rfl,h3,f3,o3,e3⟩;obtain⟨gb,cb,hvb⟩:=cQ o3.row;subst hvb;have OA:Hid (OwnMs X W1.heap.size W3 (.slice g1 k1 c1) mv1):=(HH2.out.2.1.tt FW.out).aft ((HH2.out.1.tt FW.out).own f3);have OW:Hid (W3.ownsRow 0 32 10 (.slice g1 k1 c1) mv1.length (mv1.flatMap encM)):=dy OA.out.row (fun _ _=>Nat.zero_le _);have RW:=zH o3.rows;have lb:mvB.length≤1000:=by have:=LN.out.2.1;rw[←e3,List.length_map] at this;omega
    obtain⟨kb,hkb⟩:=zE mvB.length;obtain⟨k2,hN⟩:=zE (k1+kb);have HN:Hid ((mv1++mvB).length=k2):=by show _=_;rw[List.length_append,K1.out,hkb,hN]
    have l2:k2≤10000:=by omega
    have FB:Hid (Fr (fun c _=>c≠b) W1 W3):=(F2.out.trans (FW.out.mono fun _ _ _=>trivial)).trans f3;have HB:=zH (And.intro h3 (And.intro o3 e3));have RX:Hid (RD W3 rb b ap):=f3.keep _ _ (R2.out.fr FW.out fun _=>trivial) RBN.out;have TX:Hid (W3.heap[w.heap.size]? = some (.cells (cM m) 32 (0,0))):=f3.keep _ _ (FW.out.keep _ _ T2.out trivial) GB.out;rw[hkb] at RW ⊢;clear h3 f3 o3 e3 C hkb hN lb l1;refine hK.out _ _ ?_;clear hK K' C2;refine wpN 7 rfl fun K' hK=>?_
    (try simp only[gA,gB,gC]);refine(iteInduction (motive:=fun t=>t) (fun _=>?_) (fun hn=>absurd rfl hn))
    with_reducible refine fw (K:=fun a w=>K' a w) W3 (.tmp 36) (.tmp 42) (by rfl) (.slice g1 k1 c1) mv1 (by simp [Act.eval,Act.put,fillA,fillL]) OW (.slice gb kb cb) mvB (by simp [Act.eval,Act.put,fillA,fillL]) RW k2 HN (by omega) ?_
    intro g2 c2 W4 O5 F5 N5;obtain⟨mv2,hmC⟩:=zE (mv1++mvB);have DC:=jQ.app HB.out.1 FB.out OA.out HB.out.2.1 HH2.out.2.2 HB.out.2.2 OD.out (by rw[HN.out];exact O5.out) F5.out N5.out;have K2:Hid (mv2.length=k2):=by rw[←hmC];exact HN.out
    rw[hmC] at DC;have HH4:=zH (And.intro DC.1 (And.intro DC.2.2.1 DC.2.2.2));have F4:=zH DC.2.1;have R4:Hid (RD W4 rb b ap):=F5.out.keep _ _ RX.out (OA.out.neR RX.out);have T4:Hid (W4.heap[w.heap.size]? = some (.cells (cM m) 32 (0,0))):=F5.out.keep _ _ TX.out (fun e=>by have:=ck OA.out.row _ e;have:=GS.out;omega);clear O5 F5 N5 OW RW HN hmC DC OA HB FB RX TX;refine hK.out _ _ ?_;clear hK K';refine wpN 8 rfl fun K' hK=>?_
    (try simp only[gA,gB,gC]);go_simp;refine hK.out _ _ ?_;clear hK K';refine wpF ?_;go_wp2_with fail
    refine cY (K:=fun _ _=>True) (vt:=.slice g2 k2 c2) 0 rfl (by kernel_rfl) (by kernel_rfl) (by kernel_rfl) (fun _ _ _ h=>h) (Or.inl ⟨by rfl,?cfy⟩) (by kernel_rfl) [(44,0),(45,1),(46,2),(47,3),(48,4),(49,5)] [(0,[]),(1,[]),(2,[1]),(3,[2]),(4,[3]),(5,[])] (ckR [(0,.slice g2 k2 c2),(1,.pointer (some ⟨rb,0,none⟩)),(2,.pointer (some ⟨rb,0,none⟩)),(3,.pointer (some ⟨rb,0,none⟩)),(4,.pointer (some ⟨b,0,none⟩)),(5,.agg #[.int .i64 m.kind,.int .i64 m.src,.int .i64 m.dst,.int .u64 (m.tm:Nat),.int .u64 (m.index:Nat),.int .u64 (m.prev:Nat),.int .u64 (m.commit:Nat),.bool m.ok,.slice m.da m.d.length m.dc,.slice m.ea m.es.length m.ec])] [] 6 0) 3 (by kernel_rfl) (by kernel_rfl) (by kernel_rfl) rfl (fun _=>rfl) (by rfl) 44 rfl (by simp) ?cfall ?cfend
    case cfy=>(intro w;(try simp only[gA,gB,gC]);go_simp)
    case cfall=>
     iterate 6
      refine bV.q rfl rfl rfl (fun xs W HF hE K' hK=>?_) ?_
      ·simp only[ckEqs,ckLook,Nat.reduceBEq] at hE;simp only[fillA,fillL,sA,sB,sC,Act.put,hE] at hK ⊢;clear hE;obtain⟨y0,v0,v1,v2,v3,v4,v5,v6,v7,v8,v9⟩:=CC.out W (R4.out.fr ((Fr.refl (fun _ _=>True) W4).drew.trans HF.out) fun _=>trivial) (((Fr.refl (fun _ _=>True) W4).drew.trans HF.out).keep _ _ T4.out trivial);(try simp only[gA,gB,gC]);go_simp;exact hK.out _ rfl
     exact bV.nil
    case cfend=>
     intro xs W hF hA;have HF:=zH hF;have hE:=b_ rfl hA;clear hA hF;simp only[List.map_cons,List.map_nil,ckEqs,ckLook,Nat.reduceBEq] at hE;simp only[fillA,fillL,sA,sB,sC,hE];clear hE;have FW:Hid (Fr (fun _ _=>True) W4 W):=(Fr.refl (fun _ _=>True) W4).drew.trans HF.out;have C:=zH (C3.out W _ (HH4.out.1.tt FW.out) (F4.out.trans (FW.out.mono fun _ _ _=>trivial)));refine wpN 6 rfl fun K' hK=>?_
     (try simp only[gA,gB,gC]);go_simp;(with_reducible refine C.out.mono ?_);rintro e W5 ⟨q3,v3,mvB,rfl,h3,f3,o3,e3⟩;obtain⟨gb,cb,hvb⟩:=cQ o3.row;subst hvb;have OA:Hid (OwnMs X W1.heap.size W5 (.slice g2 k2 c2) mv2):=(HH4.out.2.1.tt FW.out).aft ((HH4.out.1.tt FW.out).own f3);have OW:Hid (W5.ownsRow 0 32 10 (.slice g2 k2 c2) mv2.length (mv2.flatMap encM)):=dy OA.out.row (fun _ _=>Nat.zero_le _);have RW:=zH o3.rows;have lb:mvB.length≤1000:=by have:=LN.out.2.2.1;rw[←e3,List.length_map] at this;omega
     obtain⟨kb,hkb⟩:=zE mvB.length;obtain⟨k3,hN⟩:=zE (k2+kb);have HN:Hid ((mv2++mvB).length=k3):=by show _=_;rw[List.length_append,K2.out,hkb,hN]
     have l3:k3≤15000:=by omega
     have FB:Hid (Fr (fun c _=>c≠b) W1 W5):=(F4.out.trans (FW.out.mono fun _ _ _=>trivial)).trans f3;have HB:=zH (And.intro h3 (And.intro o3 e3));have RX:Hid (RD W5 rb b ap):=f3.keep _ _ (R4.out.fr FW.out fun _=>trivial) RBN.out;have TX:Hid (W5.heap[w.heap.size]? = some (.cells (cM m) 32 (0,0))):=f3.keep _ _ (FW.out.keep _ _ T4.out trivial) GB.out;rw[hkb] at RW ⊢;clear h3 f3 o3 e3 C hkb hN lb l2;refine hK.out _ _ ?_;clear hK K' C3;refine wpN 7 rfl fun K' hK=>?_
     (try simp only[gA,gB,gC]);refine(iteInduction (motive:=fun t=>t) (fun _=>?_) (fun hn=>absurd rfl hn))
     with_reducible refine fw (K:=fun a w=>K' a w) W5 (.tmp 44) (.tmp 50) (by rfl) (.slice g2 k2 c2) mv2 (by simp [Act.eval,Act.put,fillA,fillL]) OW (.slice gb kb cb) mvB (by simp [Act.eval,Act.put,fillA,fillL]) RW k3 HN (by omega) ?_
     intro g3 c3 W6 O5 F5 N5;obtain⟨mv3,hmC⟩:=zE (mv2++mvB);have DC:=jQ.app HB.out.1 FB.out OA.out HB.out.2.1 HH4.out.2.2 HB.out.2.2 OD.out (by rw[HN.out];exact O5.out) F5.out N5.out;have K3:Hid (mv3.length=k3):=by rw[←hmC];exact HN.out
     rw[hmC] at DC;have HH6:=zH (And.intro DC.1 (And.intro DC.2.2.1 DC.2.2.2));have F6:=zH DC.2.1;have R6:Hid (RD W6 rb b ap):=F5.out.keep _ _ RX.out (OA.out.neR RX.out);have T6:Hid (W6.heap[w.heap.size]? = some (.cells (cM m) 32 (0,0))):=F5.out.keep _ _ TX.out (fun e=>by have:=ck OA.out.row _ e;have:=GS.out;omega);clear O5 F5 N5 OW RW HN hmC DC OA HB FB RX TX;refine hK.out _ _ ?_;clear hK K';refine wpN 8 rfl fun K' hK=>?_
     (try simp only[gA,gB,gC]);go_simp;refine hK.out _ _ ?_;clear hK K';refine wpF ?_;go_wp2_with fail
     refine cY (K:=fun _ _=>True) (vt:=.slice g3 k3 c3) 0 rfl (by kernel_rfl) (by kernel_rfl) (by kernel_rfl) (fun _ _ _ h=>h) (Or.inl ⟨by rfl,?cfy⟩) (by kernel_rfl) [(52,0),(53,1),(54,2),(55,3),(56,4),(57,5)] [(0,[]),(1,[]),(2,[1]),(3,[2]),(4,[3]),(5,[])] (ckR [(0,.slice g3 k3 c3),(1,.pointer (some ⟨rb,0,none⟩)),(2,.pointer (some ⟨rb,0,none⟩)),(3,.pointer (some ⟨rb,0,none⟩)),(4,.pointer (some ⟨b,0,none⟩)),(5,.agg #[.int .i64 m.kind,.int .i64 m.src,.int .i64 m.dst,.int .u64 (m.tm:Nat),.int .u64 (m.index:Nat),.int .u64 (m.prev:Nat),.int .u64 (m.commit:Nat),.bool m.ok,.slice m.da m.d.length m.dc,.slice m.ea m.es.length m.ec])] [] 6 0) 3 (by kernel_rfl) (by kernel_rfl) (by kernel_rfl) rfl (fun _=>rfl) (by rfl) 52 rfl (by simp) ?cfall ?cfend
     case cfy=>(intro w;(try simp only[gA,gB,gC]);go_simp)
     case cfall=>
      iterate 6
       refine bV.q rfl rfl rfl (fun xs W HF hE K' hK=>?_) ?_
       ·simp only[ckEqs,ckLook,Nat.reduceBEq] at hE;simp only[fillA,fillL,sA,sB,sC,Act.put,hE] at hK ⊢;clear hE;obtain⟨y0,v0,v1,v2,v3,v4,v5,v6,v7,v8,v9⟩:=CC.out W (R6.out.fr ((Fr.refl (fun _ _=>True) W6).drew.trans HF.out) fun _=>trivial) (((Fr.refl (fun _ _=>True) W6).drew.trans HF.out).keep _ _ T6.out trivial);(try simp only[gA,gB,gC]);go_simp;exact hK.out _ rfl
      exact bV.nil
     case cfend=>
      intro xs W hF hA;have HF:=zH hF;have hE:=b_ rfl hA;clear hA hF;simp only[List.map_cons,List.map_nil,ckEqs,ckLook,Nat.reduceBEq] at hE;simp only[fillA,fillL,sA,sB,sC,hE];clear hE;have FW:Hid (Fr (fun _ _=>True) W6 W):=(Fr.refl (fun _ _=>True) W6).drew.trans HF.out;have C:=zH (C4.out W _ (HH6.out.1.tt FW.out) (F6.out.trans (FW.out.mono fun _ _ _=>trivial)));refine wpN 6 rfl fun K' hK=>?_
      (try simp only[gA,gB,gC]);go_simp;(with_reducible refine C.out.mono ?_);rintro e W7 ⟨q3,v3,mvB,rfl,h3,f3,o3,e3⟩;obtain⟨gb,cb,hvb⟩:=cQ o3.row;subst hvb;have OA:Hid (OwnMs X W1.heap.size W7 (.slice g3 k3 c3) mv3):=(HH6.out.2.1.tt FW.out).aft ((HH6.out.1.tt FW.out).own f3);have OW:Hid (W7.ownsRow 0 32 10 (.slice g3 k3 c3) mv3.length (mv3.flatMap encM)):=dy OA.out.row (fun _ _=>Nat.zero_le _);have RW:=zH o3.rows;have lb:mvB.length≤1000:=by have:=LN.out.2.2.2;rw[←e3,List.length_map] at this;omega
      obtain⟨kb,hkb⟩:=zE mvB.length;obtain⟨k4,hN⟩:=zE (k3+kb);have HN:Hid ((mv3++mvB).length=k4):=by show _=_;rw[List.length_append,K3.out,hkb,hN]
      have l4:k4≤20000:=by omega
      have FB:Hid (Fr (fun c _=>c≠b) W1 W7):=(F6.out.trans (FW.out.mono fun _ _ _=>trivial)).trans f3;have HB:=zH (And.intro h3 (And.intro o3 e3));have RX:Hid (RD W7 rb b ap):=f3.keep _ _ (R6.out.fr FW.out fun _=>trivial) RBN.out;have TX:Hid (W7.heap[w.heap.size]? = some (.cells (cM m) 32 (0,0))):=f3.keep _ _ (FW.out.keep _ _ T6.out trivial) GB.out;rw[hkb] at RW ⊢;clear h3 f3 o3 e3 C hkb hN lb l3;refine hK.out _ _ ?_;clear hK K' C4;refine wpN 7 rfl fun K' hK=>?_
      (try simp only[gA,gB,gC]);refine(iteInduction (motive:=fun t=>t) (fun _=>?_) (fun hn=>absurd rfl hn))
      with_reducible refine fw (K:=fun a w=>K' a w) W7 (.tmp 52) (.tmp 58) (by rfl) (.slice g3 k3 c3) mv3 (by simp [Act.eval,Act.put,fillA,fillL]) OW (.slice gb kb cb) mvB (by simp [Act.eval,Act.put,fillA,fillL]) RW k4 HN (by omega) ?_
      intro g4 c4 W8 O5 F5 N5;obtain⟨mv4,hmC⟩:=zE (mv3++mvB);have DC:=jQ.app HB.out.1 FB.out OA.out HB.out.2.1 HH6.out.2.2 HB.out.2.2 OD.out (by rw[HN.out];exact O5.out) F5.out N5.out;have K4:Hid (mv4.length=k4):=by rw[←hmC];exact HN.out
      rw[hmC] at DC;have HH8:=zH (And.intro DC.1 (And.intro DC.2.2.1 DC.2.2.2));have F8:=zH DC.2.1;have R8:Hid (RD W8 rb b ap):=F5.out.keep _ _ RX.out (OA.out.neR RX.out);have T8:Hid (W8.heap[w.heap.size]? = some (.cells (cM m) 32 (0,0))):=F5.out.keep _ _ TX.out (fun e=>by have:=ck OA.out.row _ e;have:=GS.out;omega);clear O5 F5 N5 OW RW HN hmC DC OA HB FB RX TX;refine hK.out _ _ ?_;clear hK K';refine wpN 8 rfl fun K' hK=>?_
      (try simp only[gA,gB,gC]);go_simp;refine hK.out _ _ ?_;clear hK K';refine wpF ?_;obtain⟨ro2,hro2⟩:=zE r4.1.role;obtain⟨tm2,htm2⟩:=zE r4.1.tm;have y0:W8.cell? ⟨rb,0,none⟩=some (.pointer (some ⟨b,0,none⟩)):=bQ R8.out rfl;obtain⟨-,-,x2,-,-,-,x6,-,-,-,-,-⟩:=HH8.out.1.cells (Fr.refl _ W8);rw[hro2] at x2;rw[htm2] at x6;obtain⟨rr,hrr⟩:=zE (n.led (r4.1,r1.2++r2.2++r3.2++r4.2));replace OUT0:Hid (res=(rr,0)):=hrr▸OUT0.out
      have C3:Hid ((ro2==3)=false∧rr=(r4.1,r1.2++r2.2++r3.2++r4.2)∨ro2=3∧(ro != 3)=true∧rr=(r4.1,(r1.2++r2.2++r3.2++r4.2)++r4.1.beat)∨ro2=3∧(ro != 3)=false∧((tm:Int) != (tm2:Int))=true∧rr=(r4.1,(r1.2++r2.2++r3.2++r4.2)++r4.1.beat)∨ro2=3∧(ro != 3)=false∧((tm:Int) != (tm2:Int))=false∧rr=(r4.1,r1.2++r2.2++r3.2++r4.2)):=by
       show _∨_;have EQ:rr=if ro2=3∧(ro≠3∨tm2≠tm) then(r4.1,(r1.2++r2.2++r3.2++r4.2)++r4.1.beat) else(r4.1,r1.2++r2.2++r3.2++r4.2):=by rw[←hrr,←hro2,←htm2,←HRT.out.1,←HRT.out.2];rfl
       rw[EQ];by_cases e1:ro2=3
       ·by_cases e2:ro=3
        ·by_cases e3:tm2=tm
         ·right;right;right;exact⟨e1,by simp [e2],by simp [e3],if_neg (by rintro⟨_,e | e⟩;exact e e2;exact e e3)⟩
         ·right;right;left;exact⟨e1,by simp [e2],by simp;omega,if_pos ⟨e1,.inr e3⟩⟩
        ·right;left;exact⟨e1,by simpa using e2,if_pos ⟨e1,.inl e2⟩⟩
       ·left;exact⟨by simpa using e1,if_neg (fun e=>e1 e.1)⟩
      clear hro2 htm2 hrr;rcases C3.out with⟨c1,e3⟩ | ⟨c1,c2,e3⟩ | ⟨c1,c2,c3,e3⟩ | ⟨c1,c2,c3,e3⟩
      case' inr.inl | inr.inr.inl=>
       subst c1;have E3:=zH e3;clear e3 C3;have BC2:=zH (BC.out W8 _ HH8.out.1);go_wp2_with fail
       (with_reducible refine BC2.out.mono ?_);rintro e W9 ⟨⟨v3,mv9,rfl,o3,e4⟩,f3⟩;obtain⟨gb,cb,hvb⟩:=cQ o3.row;subst hvb;have OA:Hid (OwnMs X W1.heap.size W9 (.slice g4 k4 c4) mv4):=HH8.out.2.1.tt f3;have OW:Hid (W9.ownsRow 0 32 10 (.slice g4 k4 c4) mv4.length (mv4.flatMap encM)):=dy OA.out.row (fun _ _=>Nat.zero_le _);have RW:=zH o3.rows;have lb:mv9.length≤20000:=by rw[←List.length_map (f:=MV.ms),e4];exact Nat.le_trans (Nd.beat_len _) (by have:=LB4.out;omega)
       obtain⟨kb,hkb⟩:=zE mv9.length;obtain⟨k5,hN⟩:=zE (k4+kb);have HN:Hid ((mv4++mv9).length=k5):=by show _=_;rw[List.length_append,K4.out,hkb,hN]
       have hn:k5≤1000000:=by omega
       have HH:=zH (And.intro o3 (And.intro e4 f3));rw[hkb] at RW ⊢;clear BC BC2 y0 x2 x6 o3 e4 f3 hkb hN lb l4;go_wp2_with (at_builtin;refine fQ W9 rfl _ _ rfl (.slice g4 k4 c4) mv4 rfl OW (.slice gb kb cb) mv9 rfl RW k5 HN hn ?_)
       intro g5 c5 WA O5 F5 N5;have DC:=zH (jQ.app (HH8.out.1.tt HH.out.2.2) (F8.out.trans (HH.out.2.2.mono fun _ _ _=>trivial)) OA.out HH.out.1 HH8.out.2.2 HH.out.2.1 OD.out (by rw[HN.out,List.flatMap_append];exact O5.out) F5.out N5.out);clear O5 F5 N5 OW RW;go_wp2;go_ret2;rw[OUT0.out,E3.out];exact⟨_,_,_,rfl,DC.out.1,(F0.out.mono fun _ _ _=>trivial:Fr (fun c _=>c≠b) w W1).trans DC.out.2.1,DC.out.2.2.1.lo F0.out.size,DC.out.2.2.2⟩
      case' inl | inr.inr.inr=>
       try (subst c1)
       have E3:=zH e3;clear e3 C3 BC;go_wp2;go_ret2;rw[OUT0.out,E3.out];exact⟨_,_,_,rfl,HH8.out.1,(F0.out.mono fun _ _ _=>trivial:Fr (fun c _=>c≠b) w W1).trans F8.out,HH8.out.2.1.lo F0.out.size,HH8.out.2.2⟩
end
def FV (me:Int) (conf:List Int):Int:=if me<0∨15<me then 31 else if dw conf=false then 1 else 0
def RNew [Old] (X:Nat→Prop) (w:World) (me:Int) (conf:List Int) (e:Ending) (w':World):Prop:=
 (FV me conf≠0∧e=.returned (.tuple #[.pointer none,.int .i64 (FV me conf)])∧Fr (fun _ _=>True) w w')∨
 (FV me conf=0∧∃rb b X' P' q',e=.returned (.tuple #[.pointer (some ⟨rb,0,none⟩),.int .i64 0])∧PNs X' P' w' b (Nd.new me conf) q'∧RB w' rb b 0∧¬X' rb∧Aft X (fun _=>False) X' P' w w'∧w.heap.size≤b∧w.heap.size≤rb)
def DNewR [Old] (X:Nat→Prop) (w:World) (me:Int) (conf:List Int) (e:Ending) (w':World):Prop:=
 ((FV me conf≠0∧e=.returned (.tuple #[.pointer none,.int .i64 (FV me conf)]))∨
 (FV me conf=0∧∃rb b q',e=.returned (.tuple #[.pointer (some ⟨rb,0,none⟩),.int .i64 0])∧DNs (fun c=>X c∨c=b) w' b (Nd.new me conf) q'∧RD w' rb b 0∧¬X rb∧rb≠b∧w.heap.size≤b∧w.heap.size≤rb))∧Fr (fun _ _=>True) w w'
section
variable {X P X' P':Nat→Prop} {w w':World} {b rb ap:Nat} {n n':Nd} {q q':NV}
theorem sx [Old] {X:Nat→Prop} (w:World) (me:Int) (vc:Value) (conf:List Int) (h:IntsAt (RO X) w vc conf) (hl:conf.length≤maxLen) (hX:∀c,X c→c<w.heap.size) (hO:∀c,Old.o c→c<w.heap.size):
 Calls Tryz.prog 42 #[.int .i64 me,vc] w fun e w'=>RNew X w me conf e w':=by
 have RC:=zH (Bx w vc conf h hl);obtain⟨rq,hrq⟩:=zE (dw conf);rw[hrq] at RC;obtain⟨en,hen⟩:=zE (FV me conf);have EQ:Hid (en=if me<0∨15<me then 31 else if rq=false then 1 else 0):=by show en=_;rw[←hen,←hrq];rfl
 have HEN:=zH hen
 have NC:Hid (rq=true→Calls Tryz.prog 49 #[.int .i64 me,vc] w fun e w'=>∃b X' P' q',e=.returned (.pointer (some ⟨b,0,none⟩))∧PNs X' P' w' b (Nd.new me conf) q'∧Aft X (fun _=>False) X' P' w w'∧w.heap.size≤b):=fun e=>by
  have h3:=Bj (l:=-1) (c:=conf) (by have e':dw conf=true:=hrq.trans e;unfold dw at e';exact(Bool.and_eq_true _ _ |>.mp e').1)
  have h4:0<conf.length:=by
   have e':dw conf=true:=hrq.trans e;cases conf with
   | nil=>exact absurd e' (by decide)
   | cons=>simp
  have h5:conf.length≤16:=(xj (hrq.trans e)).2;exact Jz w me vc conf h h4 (by omega) hX hO
 have HX:=zH hX;clear h hl hX hO hrq hen;by_cases c0:me<0
 ·have OUT:Hid (en=31):=EQ.out.trans (if_pos (.inl c0));clear EQ NC RC;go_enter Tryz.func42,Tryz.ntmps42
  go_wp2;go_ret2;exact .inl ⟨by rw[HEN.out,OUT.out];decide,by rw[HEN.out,OUT.out];rfl,Fr.refl _ _⟩
 ·by_cases c1:15<me
  ·have OUT:Hid (en=31):=EQ.out.trans (if_pos (.inr c1));have c1':16≤me:=by omega
   clear EQ NC RC;go_enter Tryz.func42,Tryz.ntmps42
   go_wp2;go_ret2;exact .inl ⟨by rw[HEN.out,OUT.out];decide,by rw[HEN.out,OUT.out];rfl,Fr.refl _ _⟩
  ·have c1':¬16≤me:=by omega
   replace EQ:Hid (en=if rq=false then 1 else 0):=EQ.out.trans (if_neg (by omega));cases rq with
   | false=>
    have OUT:Hid (en=1):=EQ.out.trans (if_pos rfl);clear EQ NC;go_enter Tryz.func42,Tryz.ntmps42
    go_wp2_with fail
    (with_reducible refine RC.out.mono ?_);rintro e w2 ⟨rfl,rfl⟩;go_wp2;go_ret2;exact .inl ⟨by rw[HEN.out,OUT.out];decide,by rw[HEN.out,OUT.out];rfl,Fr.refl _ _⟩
   | true=>
    have OUT:Hid (en=0):=EQ.out.trans (if_neg (by decide));have NC1:=zH (NC.out rfl);clear EQ NC;go_enter Tryz.func42,Tryz.ntmps42
    go_wp2_with fail
    (with_reducible refine RC.out.mono ?_);rintro e w2 ⟨rfl,rfl⟩;go_wp2_with fail
    (with_reducible refine NC1.out.mono ?_);rintro e w2 ⟨b,X2,P2,q2,rfl,h2,a2,hb⟩;have HH:=zH (And.intro h2 (And.intro a2 hb));clear h2 a2 hb NC1 RC;obtain⟨W3,hW3⟩:=zE (w2.alloc (.cells #[.pointer (some ⟨b,0,none⟩),.int .u64 0] 97 (0,0)));have F3:Hid (Fr (fun _ _=>True) w2 W3):=hW3▸(Fr.refl _ _).alloc _;have T3:Hid (RB W3 w2.heap.size b 0):=by show W3.heap[w2.heap.size]? = _;rw[←hW3];exact bX _ _
    go_wp2
    try rw[hW3]
    go_ret2;exact .inr ⟨by rw[HEN.out,OUT.out],_,b,X2,P2,q2,rfl,HH.out.1.tt F3.out,T3.out,fun e=>by have:=HH.out.1.hx _ e;omega,HH.out.2.1.tr F3.out,HH.out.2.2,HH.out.2.1.fr.size⟩
theorem pz [Old] {X:Nat→Prop} (w:World) (me:Int) (vc:Value) (conf:List Int) (h:IntsAt (RO X) w vc conf) (hl:conf.length≤maxLen) (hX:∀c,X c→c<w.heap.size) (hO:∀c,Old.o c→c<w.heap.size):
 Calls Tryz.prog 29 #[.int .i64 me,vc] w fun e w'=>DNewR X w me conf e w':=by
 have RC:=zH (xY w vc conf h hl);obtain⟨rq,hrq⟩:=zE (dw conf);rw[hrq] at RC;obtain⟨en,hen⟩:=zE (FV me conf);have EQ:Hid (en=if me<0∨15<me then 31 else if rq=false then 1 else 0):=by show en=_;rw[←hen,←hrq];rfl
 have HEN:=zH hen
 have NC:Hid (rq=true→Calls Tryz.prog 50 #[.int .i64 me,vc] w fun e w'=>DNew X w me conf e w'):=fun e=>by
  have h3:=Bj (l:=-1) (c:=conf) (by have e':dw conf=true:=hrq.trans e;unfold dw at e';exact(Bool.and_eq_true _ _ |>.mp e').1)
  have h4:0<conf.length:=by
   have e':dw conf=true:=hrq.trans e;cases conf with
   | nil=>exact absurd e' (by decide)
   | cons=>simp
  have h5:conf.length≤16:=(xj (hrq.trans e)).2;exact J5 w me vc conf h h4 (by omega) hX hO
 have HX:=zH hX;clear h hl hX hO hrq hen;by_cases c0:me<0
 ·have OUT:Hid (en=31):=EQ.out.trans (if_pos (.inl c0));clear EQ NC RC;go_enter Tryz.func29,Tryz.ntmps29
  go_wp2;go_ret2;exact⟨.inl ⟨by rw[HEN.out,OUT.out];decide,by rw[HEN.out,OUT.out];rfl⟩,Fr.refl _ _⟩
 ·by_cases c1:15<me
  ·have OUT:Hid (en=31):=EQ.out.trans (if_pos (.inr c1));have c1':16≤me:=by omega
   clear EQ NC RC;go_enter Tryz.func29,Tryz.ntmps29
   go_wp2;go_ret2;exact⟨.inl ⟨by rw[HEN.out,OUT.out];decide,by rw[HEN.out,OUT.out];rfl⟩,Fr.refl _ _⟩
  ·have c1':¬16≤me:=by omega
   replace EQ:Hid (en=if rq=false then 1 else 0):=EQ.out.trans (if_neg (by omega));cases rq with
   | false=>
    have OUT:Hid (en=1):=EQ.out.trans (if_pos rfl);clear EQ NC;go_enter Tryz.func29,Tryz.ntmps29
    go_wp2_with fail
    (with_reducible refine RC.out.mono ?_);rintro e w2 ⟨rfl,rfl⟩;go_wp2;go_ret2;exact⟨.inl ⟨by rw[HEN.out,OUT.out];decide,by rw[HEN.out,OUT.out];rfl⟩,Fr.refl _ _⟩
   | true=>
    have OUT:Hid (en=0):=EQ.out.trans (if_neg (by decide));have NC1:=zH (NC.out rfl);clear EQ NC;go_enter Tryz.func29,Tryz.ntmps29
    go_wp2_with fail
    (with_reducible refine RC.out.mono ?_);rintro e w2 ⟨rfl,rfl⟩;go_wp2_with fail
    (with_reducible refine NC1.out.mono ?_);rintro e w2 ⟨b,q2,rfl,h2,f2,hb⟩;have HH:=zH (And.intro h2 (And.intro f2 hb));clear h2 f2 hb NC1 RC;obtain⟨W3,hW3⟩:=zE (w2.alloc (.cells #[.pointer (some ⟨b,0,none⟩),.int .u64 0] 78 (0,0)));have F3:Hid (Fr (fun _ _=>True) w2 W3):=hW3▸(Fr.refl _ _).alloc _;have T3:Hid (RD W3 w2.heap.size b 0):=by show W3.heap[w2.heap.size]? = _;rw[←hW3];exact bX _ _
    go_wp2
    try rw[hW3]
    go_ret2;have b2:=bZ HH.out.1.top;exact⟨.inr ⟨by rw[HEN.out,OUT.out],_,b,q2,rfl,HH.out.1.tt F3.out,T3.out,fun e=>by have:=HX.out _ e;have:=HH.out.2.1.size;omega,by omega,HH.out.2.2,HH.out.2.1.size⟩,HH.out.2.1.trans F3.out⟩
theorem qv [Old] (h:PNs X P w b n q) (hr:RB w rb b ap) (kind:Int) (da:Option Addr) (dc:Nat) (d:List UInt8) (hd:BytesAt (RO X) w (.slice da d.length dc) d) (hcf:0<n.conf.length∧n.conf.length≤12) (hpos:∀x∈n.conf,0≤x) (mN:Nat) (hme:n.me=(mN:Nat)) (hm16:mN<16) (hl:n.log.last+2<18446744073709551616) (hle:n.log.es.length≤900000):
 Calls Tryz.prog 36 #[.pointer (some ⟨rb,0,none⟩),.int .i64 kind,.slice da d.length dc] w fun e w'=>POut X P w b (n.propose kind d) e w':=by
 have PC:=zH (vQ h kind da dc d hd hcf hpos mN hme hm16 hl hle);obtain⟨dl,hdl⟩:=zE d.length;rw[hdl] at PC ⊢;have y0:w.cell? ⟨rb,0,none⟩=some (.pointer (some ⟨b,0,none⟩)):=bQ hr rfl;clear h hr hd hcf hpos hme hm16 hl hle hdl;go_enter Tryz.func36,Tryz.ntmps36
 go_wp2_with fail
 (with_reducible refine PC.out.mono ?_);rintro e w2 ⟨⟨q2,rfl,h2⟩,f2⟩;have HH:=zH (And.intro h2 f2);clear h2 f2 PC;go_wp2;go_ret2;exact⟨⟨q2,rfl,HH.out.1⟩,HH.out.2⟩
end
structure Nx where
 b:Nat
 n:Nd
 P:Nat→Prop
abbrev ptrB (x:Nx):Value:=.pointer (some ⟨x.b,0,none⟩)
structure GV where
 vn:Value
 vm:Value
 vs:Value
 vt:Value
 vl:Value
 ns:Nat
 nt:Nat
 nl:Nat
 sz:Nat:=0
def W6g (c:GV) (many:Int):Array Value:=#[c.vn,c.vm,c.vs,c.vt,c.vl,.int .i64 many]
structure Grp [Old] (X:Nat→Prop) (w:World) (G:Nat) (l:List Nx) (ms:List MV) (many:Int) (c:GV):Prop where
 top:w.heap[G]? = some (.cells (W6g c many) 111 (0,0))
 gx:¬X G
 rn:w.ownsRow 0 34 1 c.vn l.length (l.map ptrB)
 xn:∀k,c.vn.ownBlock=some k→¬X k
 rm:OwnMs X 0 w c.vm ms
 rs:∃xs,w.ownsRow 0 149 4 c.vs c.ns xs
 xs:∀k,c.vs.ownBlock=some k→¬X k
 rt:∃xs,w.ownsRow 0 23 1 c.vt c.nt xs
 xt:∀k,c.vt.ownBlock=some k→¬X k
 rl:∃xs,w.ownsRow 0 26 3 c.vl c.nl xs
 xl:∀k,c.vl.ownBlock=some k→¬X k
 nd:∀x∈l,PN X x.P w x.b x.n
 dj:l.Pairwise fun x y=>∀k,x.P k→¬y.P k
 hx:∀k,X k→k<w.heap.size
 sz:c.sz≤w.heap.size
section
variable {X X' P':Nat→Prop} {w w':World} {G:Nat} {l:List Nx} {ms:List MV} {many:Int} {c:GV}
theorem Grp.tt [Old] [cK] (h:Grp X w G l ms many c) (f:Fr (fun _ _=>True) w w'):Grp X w' G l ms many c:=by
 obtain⟨xs,h1⟩:=h.rs;obtain⟨xt,h2⟩:=h.rt;obtain⟨xl,h3⟩:=h.rl;exact⟨f.keep _ _ h.top trivial,h.gx,bY h.rn f fun _ _ _ _=>trivial,h.xn,h.rm.tt f,⟨xs,bY h1 f fun _ _ _ _=>trivial⟩,h.xs,⟨xt,bY h2 f fun _ _ _ _=>trivial⟩,h.xt,⟨xl,bY h3 f fun _ _ _ _=>trivial⟩,h.xl,fun x hx=>(h.nd x hx).tt f,h.dj,fun k hk=>Nat.lt_of_lt_of_le (h.hx k hk) f.size,Nat.le_trans h.sz f.size⟩
theorem PN.far [Old] [cK] {X P X' P' P2:Nat→Prop} {b:Nat} {n:Nd} (h:PN X P w b n) (k:Aft X P2 X' P' w w') (hd:∀c,P c→¬P2 c) (hx:∀c,X' c→c<w'.heap.size):PN X' P w' b n:=by
 obtain⟨q,h⟩:=h;exact⟨q,h.far k hd hx⟩
theorem nY {α:Type} {R:α→α→Prop}:∀(l:List α) (i:Nat) (y:α),l.Pairwise R→(∀j,(hj:j<l.length)→j<i→R l[j] y)→(∀j,(hj:j<l.length)→i<j→R y l[j])→(l.set i y).Pairwise R
 | [],_,_,h,_,_=>h
 | x :: l,0,y,h,_,h2=>by rw[List.set_cons_zero];have h':=List.pairwise_cons.1 h;refine List.pairwise_cons.2 ⟨fun z hz=>?_,h'.2⟩;obtain⟨j,hj,e⟩:=List.mem_iff_getElem.1 hz;have:=h2 (j+1) (by simpa using hj) (by omega);simpa [e] using this
 | x :: l,i+1,y,h,h1,h2=>by
  rw[List.set_cons_succ];have h':=List.pairwise_cons.1 h;refine List.pairwise_cons.2 ⟨fun z hz=>?_,nY l i y h'.2 (fun j hj hji=>?_) (fun j hj hji=>?_)⟩
  ·rcases List.mem_or_eq_of_mem_set hz with hz | hz
   ·exact h'.1 z hz
   ·rw[hz];exact h1 0 (by simp) (by omega)
  ·have:=h1 (j+1) (by simpa using hj) (by omega);simpa using this
  ·have:=h2 (j+1) (by simpa using hj) (by omega);simpa using this
theorem Grp.turn [Old] [cK] (h:Grp X w G l ms many c) (i:Nat) (hi:i<l.length) {n':Nd} (hp:PN X' P' w' l[i].b n') (ha:Aft X l[i].P X' P' w w'):Grp X' w' G (l.set i ⟨l[i].b,n',P'⟩) ms many c:=by
 obtain⟨q,hq⟩:=hp;have hx':=hq.hx;have px:∀k,l[i].P k→X k:=ha.hp;have off:∀{k o},w.heap[k]? = some o→¬X k→¬l[i].P k∧¬X' k:=fun ho hk=>ha.off ho hk
 have row:∀{e:TypeId} {s:Nat} {v:Value} {n:Nat} {xs:List Value},w.ownsRow 0 e s v n xs→(∀k,v.ownBlock=some k→¬X k)→w'.ownsRow 0 e s v n xs∧∀k,v.ownBlock=some k→¬X' k:=fun hr hk=>⟨bY hr ha.fr fun k o e ho=>(off ho (hk k e)).1,fun k e=>by obtain⟨cur,ho⟩:=bw hr e;exact(off ho (hk k e)).2⟩
 obtain⟨xs,h1⟩:=h.rs;obtain⟨xt,h2⟩:=h.rt;obtain⟨xl,h3⟩:=h.rl
 have e1:(l.set i ⟨l[i].b,n',P'⟩).map ptrB=l.map ptrB:=by
  rw[List.map_set];apply List.ext_getElem?;intro j;rw[List.getElem?_set];split
  ·rename_i e;subst e;simp [hi]
  ·rfl
 refine⟨ha.fr.keep _ _ h.top (off h.top h.gx).1,(off h.top h.gx).2,?_,(row h.rn h.xn).2,h.rm.aft ha,⟨xs,(row h1 h.xs).1⟩,(row h1 h.xs).2,⟨xt,(row h2 h.xt).1⟩,(row h2 h.xt).2,⟨xl,(row h3 h.xl).1⟩,(row h3 h.xl).2,fun x hx=>?_,?_,hx',Nat.le_trans h.sz ha.fr.size⟩
 ·rw[List.length_set,e1];exact(row h.rn h.xn).1
 ·obtain⟨j,hj,e⟩:=List.mem_iff_getElem.1 hx;rw[List.length_set] at hj;rw[List.getElem_set] at e;by_cases hij:i=j
  ·rw[if_pos hij] at e;subst e;exact⟨q,hq⟩
  ·rw[if_neg hij] at e;subst e;refine(h.nd _ (List.getElem_mem hj)).far ha (fun k hk hk2=>?_) hx';have hdj:=List.pairwise_iff_getElem.1 h.dj;rcases Nat.lt_or_ge i j with hlt | hge
   ·exact hdj i j hi hj hlt k hk2 hk
   ·exact hdj j i hj hi (by omega) k hk hk2
 ·have hdj:=List.pairwise_iff_getElem.1 h.dj
  have old:∀j,(hj:j<l.length)→∀k,l[j].P k→k<w.heap.size:=fun j hj k hk=>by obtain⟨q2,hq2⟩:=h.nd _ (List.getElem_mem hj);exact hq2.hx k (hq2.px k hk)
  refine nY l i _ h.dj (fun j hj hji k hk hk2=>?_) (fun j hj hji k hk hk2=>?_)
  ·rcases ha.nw k hk2 with q | q
   ·exact hdj j i hj hi hji k hk q
   ·have:=old j hj k hk;omega
  ·rcases ha.nw k hk with q | q
   ·exact hdj i j hi hj hji k q hk2
   ·have:=old j hj k hk2;omega
theorem Grp.msgs [Old] [cK] (h:Grp X w G l ms many c) {ms':List MV} {vm':Value} (hf:Fr (fun k _=>k≠G∧c.vm.ownBlock≠some k) w w') (ht:w'.heap[G]? = some (.cells (W6g { c with vm:=vm' } many) 111 (0,0))) (hr:OwnMs X 0 w' vm' ms'):Grp X w' G l ms' many { c with vm:=vm' }:=by
 have tg:∀{e:TypeId} {s:Nat} {v:Value} {n:Nat} {xs:List Value},w.ownsRow 0 e s v n xs→e≠111→e≠32→w'.ownsRow 0 e s v n xs:=fun hr h1 h2=>bY hr hf fun k o e ho=>⟨fun hk=>by
  obtain⟨cur,ho'⟩:=bw hr e;rw[hk,h.top] at ho';cases ho';exact h1 rfl,fun hk=>by
  obtain⟨cur,ho'⟩:=bw hr e;obtain⟨cur2,ho2⟩:=bw h.rm.row hk;rw[ho'] at ho2;cases ho2;exact h2 rfl⟩
 obtain⟨xs,h1⟩:=h.rs;obtain⟨xt,h2⟩:=h.rt;obtain⟨xl,h3⟩:=h.rl;refine⟨ht,h.gx,tg h.rn (by decide) (by decide),h.xn,hr,⟨xs,tg h1 (by decide) (by decide)⟩,h.xs,⟨xt,tg h2 (by decide) (by decide)⟩,h.xt,⟨xl,tg h3 (by decide) (by decide)⟩,h.xl,fun x hx=>?_,h.dj,fun k hk=>Nat.lt_of_lt_of_le (h.hx k hk) hf.size,Nat.le_trans h.sz hf.size⟩;obtain⟨q,hq⟩:=h.nd x hx;refine⟨q,hq.frK hf fun k o ho hk=>⟨fun e=>?_,fun e=>?_⟩⟩
 ·rcases hk with hk | hk
  ·exact h.gx (e▸hq.px k hk)
  ·rw[e,h.top] at ho;cases ho;exact hk.ne0 rfl (by decide)
 ·obtain⟨cur,ho2⟩:=bw h.rm.row e;rcases hk with hk | hk
  ·exact h.rm.off k e (hq.px k hk)
  ·rw[ho] at ho2;cases ho2;exact hk.ne0 rfl (by decide)
end
theorem fk {o:Oper} {a:Act} {K:Act→World→Prop} {Q:Exit→Act→World→Prop} (W:World) (s x:Operand) (t e:TypeId)
 (ho:o.op=.call { callee:=.builtin .append,args:=#[s,x],argTypes:=#[t,t] }) (i:TypeInfo) (z:Value) (size bytes:Nat) (ht:Tryz.prog.underlying t=some (.slice e)) (hi:Tryz.prog.info? e=some i) (hz:i.zero=some z)
 (hsize:i.size=size) (hby:i.bytes=bytes) (hzs:z.cells.size=size) (hsz:0<size) (hb9:bytes≤128)
 (v:Value) (n:Nat) (xs:List Value) (hs:a.eval s=v) (hown:Hid (W.ownsRow 0 e size v n xs)) (gx:Nat) (news:List Value) (hx:a.eval x=.slice (some ⟨gx,0,none⟩) 1 1)
 (hb:Hid (W.heap[gx]? = some (.cells news.toArray e (0,0)))) (hnl:news.length=size) (h1:∀u∈news,u.oneCell'=true) (N:Nat) (hN:Hid (n+1=N)) (hn:N≤1000000)
 (h:∀g c w',Hid (w'.ownsRow 0 e size (.slice g N c) N (xs++news))→Hid (Fr (fun b _=>v.ownBlock≠some b) W w')→Hid (OwnNext W v (.slice g N c))→K (a.put o.dst (.slice g N c)) w'):o.wp Tryz.prog a W K Q:=by
 have hN':=hN.out;subst hN';refine fV W s x t ho 0 e i z size bytes ht hi hz hsize hby hzs hsz v n xs hs hown.out ⟨gx,0,none⟩ 1 1 news hx (by rw[hnl,Nat.one_mul]) (fun j u hj=>?_) h1 (by unfold maxLen;omega) ?_ (Nat.zero_le _) fun v' w' h2 h3 h4=>?_
 ·have e1:((⟨gx,0,none⟩:Addr).add j)=⟨gx,j,none⟩:=by
   unfold Addr.add;split
   ·subst j;rfl
   ·simp
  rw[e1];exact bQ hb.out (by simpa using hj)
 ·have:=Nat.mul_le_mul hn hb9;omega
 ·obtain⟨g,c,rfl⟩:=cQ h2;exact h g c w' h2 (.of_grown h3 fun k o e _ hk=>hk e) h4
section
variable {ops:Array Oper} {rest:List Oper} {o:Oper} {a:Act} {Q:Exit→Act→World→Prop}
end
section
variable {X X3 P3:Nat→Prop} {w w3 w':World} {G:Nat} {l:List Nx} {ms:List MV} {many:Int} {c:GV} {b:Nat} {n:Nd}
theorem Grp.more [Old] [cK] (h:Grp X w G l ms many c) (ha:Aft X (fun _=>False) X3 P3 w w3) (hx3:∀k,X3 k→k<w3.heap.size):Grp X3 w3 G l ms many c:=by
 have f:Fr (fun _ _=>True) w w3:=ha.fr.mono fun _ _ _ h=>h
 have h1:=h.tt f;have off:∀{k o},w.heap[k]? = some o→¬X k→¬X3 k:=fun ho hk=>(ha.off ho hk).2
 have row:∀{e:TypeId} {s:Nat} {v:Value} {n:Nat} {xs:List Value},w.ownsRow 0 e s v n xs→(∀k,v.ownBlock=some k→¬X k)→∀k,v.ownBlock=some k→¬X3 k:=fun hr hk k e=>by obtain⟨cur,ho⟩:=bw hr e;exact off ho (hk k e)
 obtain⟨xs,r1⟩:=h.rs;obtain⟨xt,r2⟩:=h.rt;obtain⟨xl,r3⟩:=h.rl;exact⟨h1.top,off h.top h.gx,h1.rn,row h.rn h.xn,h.rm.aft ha,h1.rs,row r1 h.xs,h1.rt,row r2 h.xt,h1.rl,row r3 h.xl,fun x hx=>(h.nd x hx).far ha (fun _ _ h=>h) hx3,h.dj,hx3,Nat.le_trans h.sz f.size⟩
theorem Grp.add [Old] [cK] (h:Grp X w G l ms many c) (ha:Aft X (fun _=>False) X3 P3 w w3) (hp:PN X3 P3 w3 b n) {vn':Value} (hf:Fr (fun k _=>k≠G∧c.vn.ownBlock≠some k) w3 w') (ht:w'.heap[G]? = some (.cells (W6g { c with vn:=vn' } many) 111 (0,0)))
 (hr:w'.ownsRow 0 34 1 vn' (l.length+1) (l.map ptrB++[.pointer (some ⟨b,0,none⟩)])) (hn:OwnNext w3 c.vn vn'):Grp X3 w' G (l++[⟨b,n,P3⟩]) ms many { c with vn:=vn' }:=by
 obtain⟨q0,hq0⟩:=hp;have h3:=h.more ha hq0.hx
 have tg:∀{e:TypeId} {s:Nat} {v:Value} {n:Nat} {xs:List Value},w3.ownsRow 0 e s v n xs→e≠111→e≠34→w'.ownsRow 0 e s v n xs:=fun hr h1 h2=>bY hr hf fun k o e ho=>⟨fun hk=>by
  obtain⟨cur,ho'⟩:=bw hr e;rw[hk,h3.top] at ho';cases ho';exact h1 rfl,fun hk=>by
  obtain⟨cur,ho'⟩:=bw hr e;obtain⟨cur2,ho2⟩:=bw h3.rn hk;rw[ho'] at ho2;cases ho2;exact h2 rfl⟩
 have kn:∀{P:Nat→Prop} {b:Nat} {n:Nd} {q:NV},PNs X3 P w3 b n q→PNs X3 P w' b n q:=fun hq=>hq.frK hf fun k o ho hk=>⟨fun e=>by
  rcases hk with hk | hk
  ·exact h3.gx (e▸hq.px k hk)
  ·rw[e,h3.top] at ho;cases ho;exact hk.ne0 rfl (by decide),fun e=>by
  obtain⟨cur,ho2⟩:=bw h3.rn e;rcases hk with hk | hk
  ·exact h3.xn k e (hq.px k hk)
  ·rw[ho] at ho2;cases ho2;exact hk.ne0 rfl (by decide)⟩
 have hmm:OwnMs X3 0 w' c.vm ms:=by
  refine⟨tg h3.rm.row (by decide) (by decide),h3.rm.off,fun m hm'=>(h3.rm.at' m hm').keep hf fun k o ho hr=>⟨fun e=>?_,fun e=>?_⟩⟩
  ·rw[e,h3.top] at ho;cases ho;exact hr.ne0 rfl (by decide)
  ·obtain⟨cur,ho2⟩:=bw h3.rn e;rw[ho] at ho2;cases ho2;exact hr.ne0 rfl (by decide)
 obtain⟨xs,r1⟩:=h3.rs;obtain⟨xt,r2⟩:=h3.rt;obtain⟨xl,r3⟩:=h3.rl;refine⟨ht,h3.gx,by rw[List.length_append,List.map_append];exact hr,fun k e hx=>?_,hmm,⟨xs,tg r1 (by decide) (by decide)⟩,h3.xs,⟨xt,tg r2 (by decide) (by decide)⟩,h3.xt,⟨xl,tg r3 (by decide) (by decide)⟩,h3.xl,fun x hx=>?_,?_,fun k hk=>Nat.lt_of_lt_of_le (h3.hx k hk) hf.size,Nat.le_trans h3.sz hf.size⟩
 ·rcases hn with q | ⟨j,q,hj⟩
  ·have e':vn'.ownBlock=some k:=e;rw[q] at e';exact h3.xn k e' hx
  ·have e':vn'.ownBlock=some k:=e;rw[q] at e';cases e';have:=h3.hx k hx;omega
 ·rcases List.mem_append.1 hx with hx | hx
  ·obtain⟨q,hq⟩:=h3.nd x hx;exact⟨q,kn hq⟩
  ·rw[List.mem_singleton.1 hx];exact⟨q0,kn hq0⟩
 ·refine List.pairwise_append.2 ⟨h3.dj,List.pairwise_singleton _ _,fun x hx y hy k hk hk2=>?_⟩;rw[List.mem_singleton.1 hy] at hk2;obtain⟨q,hq⟩:=h.nd x hx;have hlt:=hq.hx k (hq.px k hk);rcases ha.nw k hk2 with q | q
  ·exact q
  ·omega
end
def cfN (many:Nat):List Int:=(List.range many).map fun(i:Nat)=>(i:Int)
theorem jq (many:Nat):(cfN many).length=many:=by unfold cfN;simp
theorem Fw (k:Nat):cfN (k+1)=cfN k++[(k:Int)]:=by unfold cfN;rw[List.range_succ,List.map_append];rfl
structure Low (K:Nat→Prop) (X:Nat→Prop) (G:Nat) (c:GV):Prop where
 g:¬K G
 x:∀k,X k→¬K k
 n:∀k,c.vn.ownBlock=some k→¬K k
 m:∀k,c.vm.ownBlock=some k→¬K k
 s:∀k,c.vs.ownBlock=some k→¬K k
 t:∀k,c.vt.ownBlock=some k→¬K k
 l:∀k,c.vl.ownBlock=some k→¬K k
 b:∀q,K q→q<c.sz
theorem Low.more [Old] [cK] {K:Nat→Prop} {X:Nat→Prop} {w:World} {G:Nat} {l:List Nx} {ms:List MV} {many:Int} {c:GV} (h:Low K X G c) (hg:Grp X w G l ms many c) (s:Nat) (hs:w.heap.size≤s):Low (fun q=>K q∨(w.heap.size≤q∧q<s)) X G { c with sz:=s }:=by
 have out:∀k,¬K k→k<w.heap.size→¬(K k∨(w.heap.size≤k∧k<s)):=fun k h1 h2 q=>q.elim h1 fun q=>by omega
 have own:∀{e:TypeId} {sz:Nat} {v:Value} {n:Nat} {xs:List Value},w.ownsRow 0 e sz v n xs→∀k,v.ownBlock=some k→k<w.heap.size:=fun hr k e=>by obtain⟨cur,hc⟩:=bw hr e;exact bZ hc
 obtain⟨_,r1⟩:=hg.rs;obtain⟨_,r2⟩:=hg.rt;obtain⟨_,r3⟩:=hg.rl;exact⟨out _ h.g (bZ hg.top),fun k e=>out k (h.x k e) (hg.hx k e),fun k e=>out k (h.n k e) (own hg.rn k e),fun k e=>out k (h.m k e) (own hg.rm.row k e),fun k e=>out k (h.s k e) (own r1 k e),fun k e=>out k (h.t k e) (own r2 k e),fun k e=>out k (h.l k e) (own r3 k e),fun q e=>e.elim (fun e=>Nat.lt_of_lt_of_le (h.b q e) (Nat.le_trans hg.sz hs)) fun e=>e.2⟩
end Go.Proofs.YtmjccpfchhnfhaaGreat
