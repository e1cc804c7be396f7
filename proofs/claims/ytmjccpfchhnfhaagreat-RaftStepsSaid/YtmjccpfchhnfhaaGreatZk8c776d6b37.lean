/- Texts of the proofs, part 29: what the functions that they reach do, walked; no conditions beyond those that each states. -/
import Derived.Test.YtmjccpfchhnfhaaGreatZkafd0de16a1
set_option linter.unusedVariables false
set_option linter.unusedSimpArgs false
set_option maxRecDepth 100000
set_option maxHeartbeats 8000000
namespace Go.Proofs.YtmjccpfchhnfhaaGreat
open Go.RowKit
theorem fQ {K0:Nat→Obj→Prop} {ops:Array Oper} {rest:List Oper} {o:Oper} {a:Act} {Q:Exit→Act→World→Prop} (W:World) (hgd:o.guard=none) (s x:Operand)
 (ho:o.op=.call { callee:=.builtin .append,args:=#[s,x],argTypes:=#[39,39] }) (v:Value) (T:List MV) (hs:a.eval s=v) (hown:Hid (W.ownsRow 0 32 10 v T.length (T.flatMap encM)))
 (vx:Value) (ys:List MV) (hx:a.eval x=vx) (hvx:Hid (RowsAt K0 W vx 10 encM ys)) (N:Nat) (hN:Hid ((T++ys).length=N)) (hn:N≤1000000)
 (h:∀g c w',Hid (w'.ownsRow 0 32 10 (.slice g N c) N ((T++ys).flatMap encM))→Hid (Fr (fun b _=>v.ownBlock≠some b) W w')→Hid (OwnNext W v (.slice g N c))→wpList Tryz.prog ops Q rest (a.put o.dst (.slice g N c)) w'):
 wpList Tryz.prog ops Q (o :: rest) a W:=by
 have f0:Fr (fun _ _=>True) { W with heap:=#[] } W:=⟨rfl,rfl,rfl,Nat.zero_le _,fun b o hb=>by simp at hb⟩
 refine dX { W with heap:=#[] } W f0 hgd s x ho v T hs ?_ vx ys hx hvx (T++ys) rfl N hN hn fun g c w' h1 _ h3 h4=>h g c w' h1 h3 h4
 exact hown.out
theorem ck {w:World} {B:Nat} {e:TypeId} {s:Nat} {v:Value} {n:Nat} {xs:List Value} (h:w.ownsRow B e s v n xs):∀c,v.ownBlock=some c→B≤c:=fun c hc=>by
 rcases h.2 with⟨h,_⟩ | ⟨g,cap,cur,h,hb,_⟩
 ·rw[h] at hc;cases hc
 ·rw[h] at hc;cases hc;exact hb
namespace Nd
theorem xQ (n:Nd) (m:Ms):(n.toAll m).length≤n.conf.length:=by
 unfold toAll others;rw[List.length_map];exact List.length_filter_le _ _
theorem F_ (n:Nd):n.askT.2.length≤n.conf.length:=by
 unfold askT;split
 ·dsimp only;split
  ·exact Nat.zero_le _
  ·exact xQ _ _
 ·exact Nat.zero_le _
theorem askF_len (n:Nd):n.askF.2.length≤n.conf.length:=by
 unfold askF;split
 ·dsimp only;split
  ·exact F_ _
  ·exact xQ _ _
 ·exact Nat.zero_le _
theorem onAsk_len (n:Nd) (m:Ms):(n.onAsk m).2.length≤1:=by
 unfold onAsk;split
 ·exact Nat.le_refl _
 ·exact Nat.zero_le _
theorem onAnswer_len (n:Nd) (m:Ms):(n.onAnswer m).2.length≤n.conf.length:=by
 unfold onAnswer;split
 ·dsimp only
  have h1:(if n.tm<m.tm∧(m.ok=false∨m.kind=2) then n.follow m.tm (-1) else n).conf=n.conf:=by
   split
   ·exact(follow_up n _ _).conf
   ·rfl
  generalize (if n.tm<m.tm∧(m.ok=false∨m.kind=2) then n.follow m.tm (-1) else n)=n1 at h1;split
  ·split
   ·unfold chosen;split
    ·rw[←h1];exact F_ _
    ·exact Nat.zero_le _
   ·exact Nat.zero_le _
  ·exact Nat.zero_le _
 ·exact Nat.zero_le _
theorem onAppend_len (n:Nd) (m:Ms):(n.onAppend m).2.length≤1:=by
 unfold onAppend;split
 ·exact Nat.zero_le _
 ·split
  ·exact Nat.le_refl _
  ·unfold taken;split <;> exact Nat.le_refl _
theorem nV (n:Nd) (x:Int):(n.sendTo x).length≤1:=by
 unfold sendTo;split
 ·exact Nat.zero_le _
 ·exact Nat.le_refl _
theorem onAcked_len (n:Nd) (m:Ms):(n.onAcked m).2.length≤1:=by
 unfold onAcked;split
 ·exact Nat.zero_le _
 ·split
  ·exact Nat.zero_le _
  ·split
   ·exact Nat.zero_le _
   ·split
    ·exact Nat.zero_le _
    ·exact nV _ _
theorem beat_len (n:Nd):n.beat.length≤n.conf.length:=by
 have h:∀l:List Int,(l.flatMap n.sendTo).length≤l.length:=fun l=>by
  induction l with
  | nil=>exact Nat.le_refl _
  | cons x l ih=>
   rw[List.flatMap_cons,List.length_append,List.length_cons];have:=nV n x;omega
 exact Nat.le_trans (h _) (List.length_filter_le _ _)
end Nd
section
variable {X P:Nat→Prop} {w w':World} {b:Nat} {n n':Nd} {q q':NV}
structure Acc [Old] (X P:Nat→Prop) (w W:World) (b:Nat) (n:Nd) (ms:List Ms) (X' P':Nat→Prop) (q:NV) (v:Value) (mvs:List MV):Prop where
 pn:PNs X' P' W b n q
 af:Aft X P X' P' w W
 ow:OwnMs X' w.heap.size W v mvs
 eq:mvs.map MV.ms=ms
theorem Acc.first [Old] [cK] {r:Nd×List Ms} {e:Ending} {w1:World} (f:Fr (fun _ _=>True) w w1) (h:jz X P w1 b r e w'):∃X' P' q' v mvs,e=.returned v∧Acc X P w w' b r.1 r.2 X' P' q' v mvs:=by
 obtain⟨X',P',q',v,mvs,h1,h2,h3,h4,h5⟩:=h;exact⟨X',P',q',v,mvs,h1,h2,.lead f h3,h4.lo f.size,h5⟩
theorem Acc.call [Old] [cK] {W W2:World} {ms:List Ms} {X1 P1:Nat→Prop} {q1:NV} {v1:Value} {mvs:List MV} {n1:Nd} (h:Acc X P w W b n1 ms X1 P1 q1 v1 mvs) {r:Nd×List Ms} {e:Ending} (k:jz X1 P1 W b r e W2):
 ∃X2 P2 q2 v2 mv2,e=.returned v2∧PNs X2 P2 W2 b r.1 q2∧Aft X1 P1 X2 P2 W W2∧Aft X P X2 P2 w W2∧OwnMs X2 w.heap.size W2 v1 mvs∧OwnMs X2 W.heap.size W2 v2 mv2∧mv2.map MV.ms=r.2:=by
 obtain⟨X2,P2,q2,v2,mv2,h1,h2,h3,h4,h5⟩:=k;exact⟨X2,P2,q2,v2,mv2,h1,h2,h3,h.af.trans h3,h.ow.aft h3,h4,h5⟩
theorem Acc.app [Old] [cK] {W2 W3:World} {X2 P2:Nat→Prop} {q2:NV} {v1 v2 v3:Value} {mvs mv2:List MV} {ms1 ms2:List Ms} {n2:Nd} {B2:Nat} (h2:PNs X2 P2 W2 b n2 q2) (af:Aft X P X2 P2 w W2) (o1:OwnMs X2 w.heap.size W2 v1 mvs) (o2:OwnMs X2 B2 W2 v2 mv2) (e1:mvs.map MV.ms=ms1) (e2:mv2.map MV.ms=ms2)
 (hr:W3.ownsRow 0 32 10 v3 (mvs++mv2).length ((mvs++mv2).flatMap encM)) (hf:Fr (fun c _=>v1.ownBlock≠some c) W2 W3) (hn:OwnNext W2 v1 v3):Acc X P w W3 b n2 (ms1++ms2) X2 P2 q2 v3 (mvs++mv2):=by
 have hb:=ck o1.row;have hs:w.heap.size≤W2.heap.size:=af.fr.size;refine⟨h2.mrow o1.row o1.off hf,af.mrow o1.row (fun c e=>⟨hb c e,o1.off c e⟩) hf,o1.app o2.at' h2.hx (dy hr fun c e=>?_) hf hn,by rw[List.map_append,e1,e2]⟩;rcases hn with q | ⟨k,q,hk⟩
 ·rw[q] at e;exact hb c e
 ·rw[q] at e;cases e;omega
end
theorem wpList_max4 {ops:Array Oper} {rest:List Oper} {o:Oper} {a:Act} {Q:Exit→Act→World→Prop} (W:World) (hgd:o.guard=none) (s1 s2 s3 s4:Operand) {ts:Array TypeId}
 (ho:o.op=.call { callee:=.builtin .max,args:=#[s1,s2,s3,s4],argTypes:=ts }) (x y z u m:Nat) (h1:a.eval s1=.int .u64 (x:Nat)) (h2:a.eval s2=.int .u64 (y:Nat)) (h3:a.eval s3=.int .u64 (z:Nat)) (h4:a.eval s4=.int .u64 (u:Nat)) (hm:max (max (max x y) z) u=m)
 (h:wpList Tryz.prog ops Q rest (a.put o.dst (.int .u64 (m:Nat))) W):wpList Tryz.prog ops Q (o :: rest) a W:=by
 refine wpList_plain hgd fun _ hK=>?_
 have e:∀t,(Builtin.max_ ts t #[.int .u64 (x:Nat),.int .u64 (y:Nat),.int .u64 (z:Nat),.int .u64 (u:Nat)]).run Tryz.prog W=.ok (.int .u64 (m:Nat)) W:=fun t=>by
  subst hm;simp [Builtin.max_,Builtin.max2]
  (repeat' split) <;> omega
 unfold Oper.wp execOp;simp only[ho,resolve,invoke,builtin,Sem.run_bind,Sem.run_pure,Result.andThen_ok,List.map_toArray,List.map_cons,List.map_nil,h1,h2,h3,h4,e];exact hK _ _ h
def RB (W:World) (rb b ap:Nat):Prop:=W.heap[rb]? = some (.cells #[.pointer (some ⟨b,0,none⟩),.int .u64 (ap:Nat)] 97 (0,0))
theorem RB.fr {K:Nat→Obj→Prop} {W W':World} {rb b ap:Nat} (h:RB W rb b ap) (f:Fr K W W') (hk:∀o,K rb o):RB W' rb b ap:=f.keep _ _ h (hk _)
section
variable {X P X' P':Nat→Prop} {w w':World} {b rb ap:Nat} {n n':Nd} {q q':NV}
theorem PNs.frO [Old] (h:PNs X P w b n q) {K:Nat→Obj→Prop} (hf:Fr K w w') (hk:∀c o,w.heap[c]? = some o→P c∨RO X c o→K c o):PNs X P w' b n q:=by
 have a16:∀{c l},A16 w c l→P c→A16 w' c l:=fun {c l} ha hp=>ha.fr hf fun o ho=>hk _ _ ho (.inl hp)
 have cf2:IntsAt (RO X) w' q.vc n.conf:=(((h.cf.mono3 (K':=fun c o=>RO X c o∧K c o) fun c o ho hr=>⟨hr,hk c o ho (.inr hr)⟩).fr hf fun c o q=>q.2).mono fun c o q=>q.1)
 have ev2:EsAt X w' q.ve q.es:=⟨h.ev.row.fr hf fun c o ho hr=>hk c o ho (.inr hr),h.ev.nz,fun x hx=>⟨(h.ev.dat x hx).1.fr3 hf fun c o ho hr=>hk c o ho (.inr hr),(h.ev.dat x hx).2⟩⟩
 exact⟨hf.keep _ _ h.top (hk _ _ h.top (.inl h.pb)),cf2,bY h.ye hf fun c o e ho=>hk c o ho (.inl (h.yp c e)),h.yp,ev2,h.ee,a16 h.nx h.pn,a16 h.mt h.pm,h.nm,h.pb,h.pn,h.pm,h.px,fun c hc=>Nat.lt_of_lt_of_le (h.hx c hc) hf.size,h.od⟩
theorem jz.app [Old] {W2 W3:World} {X2 P2:Nat→Prop} {q2:NV} {v1 v2 v3:Value} {mvs mv2:List MV} {ms1 ms2:List Ms} {n2:Nd} {B2:Nat} (h2:PNs X2 P2 W2 b n2 q2) (af:Aft X P X2 P2 w W2) (o1:OwnMs X2 w.heap.size W2 v1 mvs) (o2:OwnMs X2 B2 W2 v2 mv2) (e1:mvs.map MV.ms=ms1) (e2:mv2.map MV.ms=ms2)
 (hod:∀c,Old.o c→c<w.heap.size) (hr:W3.ownsRow 0 32 10 v3 (mvs++mv2).length ((mvs++mv2).flatMap encM)) (hf:Fr (fun c _=>v1.ownBlock≠some c) W2 W3) (hn:OwnNext W2 v1 v3):jz X P w b (n2,ms1++ms2) (.returned v3) W3:=by
 have hb:∀c,v1.ownBlock=some c→w.heap.size≤c:=fun c hc=>by
  rcases o1.row.2 with⟨q,_⟩ | ⟨g,cap,cur,e,hg,_⟩
  ·rw[q] at hc;cases hc
  ·rw[e] at hc;cases hc;exact hg
 have hs:w.heap.size≤W2.heap.size:=af.fr.size
 have no:∀{c o},v1.ownBlock=some c→W2.heap[c]? = some o→RO X2 c o→False:=fun {c o} e ho hr=>by obtain⟨cur,h0⟩:=bw o1.row e;rw[ho] at h0;cases h0;exact hr.ne (fun k=>by have:=hod c k;have:=hb c e;omega) rfl (by decide)
 have kp:∀{m:MV},MsAt X2 W2 m→MsAt X2 W3 m:=fun hm=>hm.keep hf fun c o ho hr e=>no e ho hr
 have pw:∀{c o},w.heap[c]? = some o→¬P c→v1.ownBlock≠some c:=fun ho _ e=>by have:=hb _ e;have:=bZ ho;omega
 refine⟨X2,P2,q2,v3,mvs++mv2,rfl,h2.frO hf fun c o ho hc e=>?_,⟨⟨hf.os.trans af.fr.os,hf.tape.trans af.fr.tape,hf.output.trans af.fr.output,Nat.le_trans af.fr.size hf.size,fun c o ho hp=>hf.keep c o (af.fr.keep c o ho hp) (pw ho hp)⟩,af.xx,af.pp,af.nw,af.hp⟩,⟨dy hr fun c e=>?_,fun c e hx=>?_,fun m hm=>?_⟩,by rw[List.map_append,e1,e2]⟩
 ·rcases hc with hc | hc
  ·exact o1.off c e (h2.px c hc)
  ·exact no e ho hc
 ·rcases hn with q | ⟨k,q,hk⟩
  ·rw[q] at e;exact hb c e
  ·rw[q] at e;cases e;omega
 ·rcases hn with q | ⟨k,q,hk⟩
  ·rw[q] at e;exact o1.off c e hx
  ·rw[q] at e;cases e;have:=h2.hx c hx;omega
 ·rcases List.mem_append.1 hm with h | h
  ·exact kp (o1.at' m h)
  ·exact kp (o2.at' m h)
theorem t_ [Old] (h:PNs X P w b n q) (hr:RB w rb b ap) (m:MV) (hm:MsAt X w m) (hel:m.es.length≤9223372036854775807) (hdl:m.d.length≤9223372036854775807):
 Calls Tryz.prog 84 #[.pointer (some ⟨rb,0,none⟩),.agg (cM m)] w fun e w'=>e=.returned (.int .i64 (n.right m.ms))∧Fr (fun _ _=>True) w w':=by
 obtain⟨W1,hW1,F1,X1⟩:=gW w m;have CK:=zH (w_ W1 m (hm.tt F1.out) hel hdl);obtain⟨c,hc⟩:=zE (tJ m.ms);rw[hc] at CK;obtain⟨kd,hkd⟩:=zE m.kind;obtain⟨s,hs⟩:=zE m.src;obtain⟨d,hd⟩:=zE m.dst;obtain⟨t3,ht3⟩:=zE m.tm;obtain⟨t4,ht4⟩:=zE m.index;obtain⟨t5,ht5⟩:=zE m.prev;obtain⟨t6,ht6⟩:=zE m.commit;obtain⟨me,hme⟩:=zE n.me;obtain⟨r,hrr⟩:=zE (n.right m.ms)
 have EQ:Hid (r=if c≠0 then c else if d≠me∨s=me then 31 else if 6<kd then 30 else if 1152921504606846976≤max (max (max t3 t4) t5) t6 then 1 else 0):=by show r=_;rw[←hrr];unfold Nd.right;rw[hc,show m.ms.dst=d from hd,show m.ms.src=s from hs,show m.ms.kind=kd from hkd,show m.ms.tm=t3 from ht3,show m.ms.index=t4 from ht4,show m.ms.prev=t5 from ht5,show m.ms.commit=t6 from ht6,hme]
 rw[hrr]
 have CC:Hid (∀W,Fr (fun _ _=>True) W1 W→W.cell? ⟨rb,0,none⟩=some (.pointer (some ⟨b,0,none⟩))∧W.cell? ⟨b,0,none⟩=some (.int .i64 me)∧W.cell? ⟨w.heap.size,0,none⟩=some (.int .i64 kd)∧W.cell? ⟨w.heap.size,1,none⟩=some (.int .i64 s)∧W.cell? ⟨w.heap.size,2,none⟩=some (.int .i64 d)∧W.cell? ⟨w.heap.size,3,none⟩=some (.int .u64 (t3:Nat))∧W.cell? ⟨w.heap.size,4,none⟩=some (.int .u64 (t4:Nat))∧W.cell? ⟨w.heap.size,5,none⟩=some (.int .u64 (t5:Nat))∧W.cell? ⟨w.heap.size,6,none⟩=some (.int .u64 (t6:Nat))):=fun W f=>by obtain⟨v0,v1,v2,v3,v4,v5,v6,v7,v8,v9⟩:=bq (f.keep _ _ X1.out trivial);exact⟨bQ ((F1.out.trans f).keep _ _ hr trivial) rfl,by rw[(h.cells (F1.out.trans f)).1,hme],by rw[v0,hkd],by rw[v1,hs],by rw[v2,hd],by rw[v3,ht3],by rw[v4,ht4],by rw[v5,ht5],by rw[v6,ht6]⟩
 obtain⟨v0,v1,v2,v3,v4,v5,v6,v7,v8,v9⟩:=bq X1.out;dsimp only[cM] at CK;unfold cM at hW1 ⊢;clear h hr hm hel hdl hc hkd hs hd ht3 ht4 ht5 ht6 hme hrr;go_enter Tryz.func84,Tryz.ntmps84
 go_wp2_with fail
 try rw[hW1]
 clear hW1;(with_reducible refine CK.out.mono ?_);rintro e w2 ⟨rfl,f2⟩;have F2:=zH f2;clear f2 CK v0 v1 v2 v3 v4 v5 v6 v7 v8 v9;by_cases hc0:c=0
 case neg=>
  have c1:(c==0)=false:=by simpa using hc0
  have OUT:Hid (r=c):=EQ.out.trans (if_pos hc0);clear EQ CC;go_wp2;go_ret;rw[OUT.out];exact⟨rfl,F1.out.trans F2.out⟩
 case pos=>
  subst hc0;replace EQ:Hid (r=if d≠me∨s=me then 31 else if 6<kd then 30 else if 1152921504606846976≤max (max (max t3 t4) t5) t6 then 1 else 0):=EQ.out.trans (if_neg (fun e=>e rfl));obtain⟨y0,y1,v0,v1,v2,v3,v4,v5,v6⟩:=CC.out w2 F2.out
  have C:Hid ((d != me)=true∨(d != me)=false∧(s==me)=true∨(d != me)=false∧(s==me)=false):=by show _∨_;by_cases e1:d=me <;> by_cases e2:s=me <;> simp [e1,e2]
  have BAD:Hid (((d != me)=true∨(s==me)=true)→r=31):=fun e=>EQ.out.trans (if_pos (by simpa using e))
  have GOOD:Hid ((d != me)=false→(s==me)=false→r=if 6<kd then 30 else if 1152921504606846976≤max (max (max t3 t4) t5) t6 then 1 else 0):=fun e1 e2=>EQ.out.trans (if_neg (by
   have e1':d=me:=by simpa using e1
   have e2':s≠me:=by simpa using e2
   exact fun e=>e.elim (fun e=>e e1') e2'))
  clear EQ;rcases C.out with c1 | ⟨c1,c2⟩ | ⟨c1,c2⟩
  ·have OUT:=zH (BAD.out (.inl c1));clear C BAD GOOD CC v3 v4 v5 v6;go_wp2_with fail
   go_quiet (fail)
   have U:Hid (Fr (fun _ _=>True) w2 (w2.drewN nq)):=(Fr.refl _ w2).drewN nq;go_wp2;go_ret;rw[OUT.out];exact⟨rfl,F1.out.trans (F2.out.trans U.out)⟩
  ·have OUT:=zH (BAD.out (.inr c2));clear C BAD GOOD CC v3 v4 v5 v6;go_wp2_with fail
   go_quiet (fail)
   have U:Hid (Fr (fun _ _=>True) w2 (w2.drewN nq)):=(Fr.refl _ w2).drewN nq;go_wp2;go_ret;rw[OUT.out];exact⟨rfl,F1.out.trans (F2.out.trans U.out)⟩
  ·have EQ:=zH (GOOD.out c1 c2);clear C BAD GOOD v3 v4 v5 v6;go_wp2_with fail
   go_quiet (fail)
   have U:Hid (Fr (fun _ _=>True) w2 (w2.drewN nq)):=(Fr.refl _ w2).drewN nq;generalize w2.drewN nq=w3 at U ⊢;clear y0 y1 v0 v1 v2;obtain⟨-,-,v0,-,-,v3,v4,v5,v6⟩:=CC.out w3 (F2.out.trans U.out);clear CC;by_cases hk:6<kd
   ·have OUT:Hid (r=30):=EQ.out.trans (if_pos hk);clear EQ;go_wp2;go_ret;rw[OUT.out];exact⟨rfl,F1.out.trans (F2.out.trans U.out)⟩
   ·obtain⟨mx,hmx⟩:=zE (max (max (max t3 t4) t5) t6);replace EQ:Hid (r=if 1152921504606846976≤mx then 1 else 0):=hmx▸EQ.out.trans (if_neg hk);have MX:=zH hmx;clear hmx;by_cases hm:1152921504606846976≤mx
    ·have OUT:Hid (r=1):=EQ.out.trans (if_pos hm);have hmI:(1152921504606846976:Int)≤(mx:Int):=by omega
     clear EQ;go_wp2_with (refine wpList_max4 _ rfl _ _ _ _ rfl t3 t4 t5 t6 mx rfl rfl rfl rfl MX.out ?_)
     go_wp2;go_ret;rw[OUT.out];exact⟨rfl,F1.out.trans (F2.out.trans U.out)⟩
    ·have OUT:Hid (r=0):=EQ.out.trans (if_neg hm);have hmI:¬(1152921504606846976:Int)≤(mx:Int):=by omega
     clear EQ;go_wp2_with (refine wpList_max4 _ rfl _ _ _ _ rfl t3 t4 t5 t6 mx rfl rfl rfl rfl MX.out ?_)
     go_wp2;go_ret;rw[OUT.out];exact⟨rfl,F1.out.trans (F2.out.trans U.out)⟩
theorem nW [Old] (h:PNs X P w b n q) (hr:RB w rb b ap) (hc:0<n.conf.length∧n.conf.length≤1000) (hnx:∀y∈n.next,y<18446744073709551616) (hl:n.log.last+1<18446744073709551616) (hle:n.log.es.length≤900000):
 Calls Tryz.prog 35 #[.pointer (some ⟨rb,0,none⟩)] w fun e w'=>jj X w n.beat e w':=by
 have BC:=zH (KK h hc hnx hl hle);have y0:w.cell? ⟨rb,0,none⟩=some (.pointer (some ⟨b,0,none⟩)):=bQ hr rfl;clear h hr hc hnx hl hle;go_enter Tryz.func35,Tryz.ntmps35
 go_wp2_with fail
 (with_reducible refine BC.out.mono ?_);rintro e w2 ⟨⟨v,mvs,rfl,o2,e2⟩,f2⟩;have HH:=zH (And.intro o2 (And.intro e2 f2));clear o2 e2 f2 BC;go_wp2;go_ret;exact⟨⟨_,mvs,rfl,HH.out.1,HH.out.2.1⟩,HH.out.2.2⟩
theorem yZ [Old] (h:PNs X P w b n q) (hr:RB w rb b ap) (hrx:¬P rb) (fn:Nat) (lb:Array Value) (eg:∀args w,(callFunc fn args).run Tryz.prog w=.ok (.enter fn args) w) (r:Nd×List Ms)
 (hdo:∀W,Fr (fun _ _=>True) w W→Calls Tryz.prog fn lb W fun e w'=>jz X P W b r e w') (hod:∀c,Old.o c→c<w.heap.size) (hlen:r.2.length≤900000)
 (hc:0<r.1.conf.length∧r.1.conf.length≤1000) (hnx:∀y∈r.1.next,y<18446744073709551616) (hl:r.1.log.last+1<18446744073709551616) (hle:r.1.log.es.length≤900000):
 Calls Tryz.prog 81 #[.pointer (some ⟨rb,0,none⟩),.func (.func fn) #[] lb] w fun e w'=>jz X P w b (n.led r) e w':=by
 obtain⟨ro,hro⟩:=zE n.role;obtain⟨tm,htm⟩:=zE n.tm;obtain⟨ro2,hro2⟩:=zE r.1.role;obtain⟨tm2,htm2⟩:=zE r.1.tm;obtain⟨res,hres⟩:=zE (n.led r)
 have EQ:Hid (res=if ro2=3∧(ro≠3∨tm2≠tm) then(r.1,r.2++r.1.beat) else r):=by show res=_;rw[←hres,←hro,←htm,←hro2,←htm2];rfl
 rw[hres];have y0:w.cell? ⟨rb,0,none⟩=some (.pointer (some ⟨b,0,none⟩)):=bQ hr rfl;obtain⟨-,-,x2,-,-,-,x6,-,-,-,-,-,-,-⟩:=h.cells (Fr.refl _ w);rw[hro] at x2;rw[htm] at x6;have H:=zH h;have HR:=zH hr;have HX:=zH hrx;have HDO:=zH hdo;have OD:=zH hod;have RB2:=zH (And.intro hro2 htm2);have BD:=zH (And.intro hlen (And.intro hc (And.intro hnx (And.intro hl hle))))
 have C3:Hid ((ro2==3)=false∧res=r∨ro2=3∧(ro != 3)=true∧res=(r.1,r.2++r.1.beat)∨ro2=3∧(ro != 3)=false∧((tm2:Int) != (tm:Int))=true∧res=(r.1,r.2++r.1.beat)∨ro2=3∧(ro != 3)=false∧((tm2:Int) != (tm:Int))=false∧res=r):=by
  show _∨_;rw[EQ.out];by_cases e1:ro2=3
  ·by_cases e2:ro=3
   ·by_cases e3:tm2=tm
    ·right;right;right;exact⟨e1,by simp [e2],by simp [e3],if_neg (by rintro⟨_,e | e⟩;exact e e2;exact e e3)⟩
    ·right;right;left;exact⟨e1,by simp [e2],by simp;omega,if_pos ⟨e1,.inr e3⟩⟩
   ·right;left;exact⟨e1,by simpa using e2,if_pos ⟨e1,.inl e2⟩⟩
  ·left;exact⟨by simpa using e1,if_neg (fun e=>e1 e.1)⟩
 clear h hr hrx hdo hod hro htm hro2 htm2 hres hlen hc hnx hl hle EQ;go_enter Tryz.func81,Tryz.ntmps81
 go_wp2_with fail
 go_quiet (fail)
 have U:Hid (Fr (fun _ _=>True) w (w.drewN nq)):=(Fr.refl _ w).drewN nq;generalize w.drewN nq=w1 at U ⊢;clear y0 x2 x6;have DC:=zH (HDO.out w1 U.out);go_wp2_with fail
 (with_reducible refine DC.out.mono ?_);rintro e w2 ⟨X2,P2,q2,v,mvs,rfl,h2,a2,o2,e2⟩;have A2:=zH (Aft.lead U.out a2);have H2:=zH h2;have O2:=zH (o2.lo U.out.size);have E2:=zH e2;have R2:Hid (RB w2 rb b ap):=A2.out.fr.keep _ _ HR.out HX.out;have y0:w2.cell? ⟨rb,0,none⟩=some (.pointer (some ⟨b,0,none⟩)):=bQ R2.out rfl;obtain⟨-,-,x2,-,-,-,x6,-,-,-,-,-,-,-⟩:=h2.cells (Fr.refl _ w2);rw[RB2.out.1] at x2;rw[RB2.out.2] at x6;obtain⟨ga,ca,hva⟩:=cQ o2.row;subst hva;obtain⟨k2,hk2⟩:=zE mvs.length;have lm2:k2≤900000:=by have:=BD.out.1;rw[←e2,List.length_map] at this;omega
 have K2:=zH hk2;have BC:=zH (fun W (f:Fr (fun _ _=>True) w2 W)=>nW (H2.out.tt f) (R2.out.fr f fun _=>trivial) BD.out.2.1 BD.out.2.2.1 BD.out.2.2.2.1 BD.out.2.2.2.2);rw[hk2] at O2 ⊢;clear DC HDO h2 a2 o2 e2 hk2;rcases C3.out with⟨c1,e3⟩ | ⟨c1,c2,e3⟩ | ⟨c1,c2,c3,e3⟩ | ⟨c1,c2,c3,e3⟩
 case' inr.inl | inr.inr.inl=>
  subst c1;have E3:=zH e3;clear e3 C3;have BC2:=zH (BC.out w2 (Fr.refl _ _));go_wp2_with fail
  (with_reducible refine BC2.out.mono ?_);rintro e w3 ⟨⟨v3,mv2,rfl,o3,e4⟩,f3⟩;obtain⟨gb,cb,hvb⟩:=cQ o3.row;subst hvb;have OW:Hid (w3.ownsRow 0 32 10 (.slice ga k2 ca) mvs.length (mvs.flatMap encM)):=dy (O2.out.tt f3).row (fun _ _=>Nat.zero_le _);have RW:=zH o3.rows;have lb:mv2.length≤20000:=by rw[←List.length_map (f:=MV.ms),e4];exact Nat.le_trans (Nd.beat_len _) (by have:=BD.out.2.1.2;omega)
  obtain⟨kb,hkb⟩:=zE mv2.length;obtain⟨k4,hN⟩:=zE (k2+kb);have HN:Hid ((mvs++mv2).length=k4):=by show _=_;rw[List.length_append,K2.out,hkb,hN]
  have hn:k4≤1000000:=by omega
  have HH:=zH (And.intro o3 (And.intro e4 f3));rw[hkb] at RW ⊢;clear BC BC2 y0 x2 x6 o3 e4 f3 hkb hN lb lm2;go_wp2_with (at_builtin;refine fQ w3 rfl _ _ rfl (.slice ga k2 ca) mvs rfl OW (.slice gb kb cb) mv2 rfl RW k4 HN hn ?_)
  intro g4 c4 W4 O5 F5 N5
  have OUT:Hid (jz X P w b (r.1,r.2++r.1.beat) (.returned (.slice g4 k4 c4)) W4):=
   jz.app (H2.out.tt HH.out.2.2) (A2.out.tr HH.out.2.2) (O2.out.tt HH.out.2.2) HH.out.1 E2.out HH.out.2.1 OD.out (by rw[HN.out,List.flatMap_append];exact O5.out) F5.out N5.out
  clear O5 F5 N5 OW RW;go_wp2;go_ret;rw[E3.out];exact OUT.out
 case' inl | inr.inr.inr=>
  try (subst c1)
  have E3:=zH e3;clear e3 C3 BC;go_wp2;go_ret;rw[E3.out];exact⟨X2,P2,q2,_,mvs,rfl,H2.out,A2.out,O2.out,E2.out⟩
end
theorem sm13_5 {R:Ending→World→Prop} {w:World} {rb rd b d ap bs bt:Nat} {n:Nd} {vc vd vy ve:Value} {ae:Option Addr} {le ce bn cn bm cm:Nat} (hNC:(∀W,Fr (fun _ _=>True) w W→Calls Tryz.prog 22 #[vc,vd] W fun e w'=>e=.returned (.bool true)∧Fr (fun _ _=>True) W w')) (hNX:(∀W,Fr (fun _ _=>True) w W→Calls Tryz.prog 61 #[.slice (some ⟨bn,0,none⟩) 16 cn,V16 n.next] W fun e w'=>e=.returned (.bool true)∧Fr (fun _ _=>True) W w')) (hMT:(∀W,Fr (fun _ _=>True) w W→Calls Tryz.prog 61 #[.slice (some ⟨bm,0,none⟩) 16 cm,V16 n.mat] W fun e w'=>e=.returned (.bool true)∧Fr (fun _ _=>True) W w')) (hCX:∀W,Fr (fun _ _=>True) w W→W.cell? ⟨b,4,none⟩=some (vc)∧W.cell? ⟨b,12,none⟩=some (.slice (some ⟨bn,0,none⟩) 16 cn)∧W.cell? ⟨b,13,none⟩=some (.slice (some ⟨bm,0,none⟩) 16 cm)∧W.cell? ⟨d,4,none⟩=some (vd)∧W.cell? ⟨rb,1,none⟩=some (.int .u64 (ap:Nat))∧W.cell? ⟨rd,1,none⟩=some (.int .u64 (ap:Nat))) (hCZ:∀W,Fr (fun _ _=>True) w W→(∀i,i<16→W.cell? ⟨d,12+i,none⟩=some (c16 n.next i))∧∀i,i<16→W.cell? ⟨d,28+i,none⟩=some (c16 n.mat i)) (fin:∀W,Fr (fun _ _=>True) w W→R (.returned (.bool true)) W) (a:Act) (hs:a.tmps.size=119) (hd:a.defers=[]) (he:c_ a [(8,.bool true),(7,.bool true),(0,.pointer (some ⟨rb,0,none⟩)),(1,.pointer (some ⟨rd,0,none⟩)),(5,.pointer (some ⟨b,0,none⟩)),(6,.pointer (some ⟨d,0,none⟩))]):
 Code.wp Tryz.prog (gX 5 (cW Tryz.f40.body)) (bodyPost Tryz.prog Tryz.f40 R) a w:=by
 have HS:=zH hs;have HE:=zH he;have HD:=zH hd;clear hs he hd;dsimp only[gX,cW,Tryz.f40];have NC:=zH hNC;have NX:=zH hNX;have MT:=zH hMT;have CX:=zH hCX;have CZ:=zH hCZ;have FN:=zH fin;have UD:Hid (Fr (fun _ _=>True) w w.drew):=(Fr.refl _ _).drew;clear hNC hNX hMT hCX hCZ fin;go_wp2_with fail
 have HT:tmB [(71,0),(72,1),(73,2),(74,3),(75,4),(76,5),(77,6),(78,7),(79,8),(80,9),(81,10),(82,11),(83,12),(84,13),(85,14),(86,15),(87,16),(88,17),(89,18),(90,19),(91,20),(92,21),(93,22),(94,23),(95,24),(96,25),(97,26),(98,27),(99,28),(100,29),(101,30),(102,31),(103,32),(104,33),(105,34),(106,35),(107,36),(108,37),(109,38),(110,39),(111,40),(112,41),(113,42),(114,43),(115,44),(116,45),(117,46),(118,47)] [(8,.bool true),(7,.bool true),(0,.pointer (some ⟨rb,0,none⟩)),(1,.pointer (some ⟨rd,0,none⟩)),(5,.pointer (some ⟨b,0,none⟩)),(6,.pointer (some ⟨d,0,none⟩))] 119=true:=by rfl
 refine dY (K:=fun _ _=>True) (by kernel_rfl) [(71,0),(72,1),(73,2),(74,3),(75,4),(76,5),(77,6),(78,7),(79,8),(80,9),(81,10),(82,11),(83,12),(84,13),(85,14),(86,15),(87,16),(88,17),(89,18),(90,19),(91,20),(92,21),(93,22),(94,23),(95,24),(96,25),(97,26),(98,27),(99,28),(100,29),(101,30),(102,31),(103,32),(104,33),(105,34),(106,35),(107,36),(108,37),(109,38),(110,39),(111,40),(112,41),(113,42),(114,43),(115,44),(116,45),(117,46),(118,47)] [(0,[]),(1,[0]),(2,[1]),(3,[1,2]),(4,[3]),(5,[4]),(6,[4,5]),(7,[4,6]),(8,[4,7]),(9,[4]),(10,[4,9]),(11,[4,10]),(12,[4,11]),(14,[4,13]),(15,[14]),(16,[15]),(17,[15,16]),(18,[15,17]),(19,[15,18]),(20,[15]),(21,[15,20]),(22,[15,21]),(25,[15,24]),(26,[25]),(27,[26]),(28,[26,27]),(29,[26,28]),(30,[26,29]),(31,[26]),(32,[26,31]),(33,[26,32]),(36,[26,35]),(37,[36]),(38,[37]),(39,[37,38]),(40,[37,39]),(41,[37,40]),(42,[37]),(43,[37,42]),(44,[37,43]),(45,[37,44]),(46,[37,41,45]),(47,[37,46]),(13,[4,8,12]),(23,[15,22]),(24,[15,19,23]),(34,[26,33]),(35,[26,30,34])] (ckR [(0,.bool true),(1,.bool true),(2,.bool true),(3,.bool true),(4,.bool true),(5,.pointer (some ⟨b,0,none⟩)),(6,.pointer (some ⟨b,0,none⟩)),(7,.pointer (some ⟨b,4,none⟩)),(8,vc),(9,.pointer (some ⟨d,0,none⟩)),(10,.pointer (some ⟨d,0,none⟩)),(11,.pointer (some ⟨d,4,none⟩)),(12,vd),(13,.bool true),(14,.bool true),(15,.bool true),(16,.pointer (some ⟨b,0,none⟩)),(17,.pointer (some ⟨b,0,none⟩)),(18,.pointer (some ⟨b,12,none⟩)),(19,.slice (some ⟨bn,0,none⟩) 16 cn),(20,.pointer (some ⟨d,0,none⟩)),(21,.pointer (some ⟨d,0,none⟩)),(22,.pointer (some ⟨d,12,none⟩)),(23,V16 n.next),(24,.bool true),(25,.bool true),(26,.bool true),(27,.pointer (some ⟨b,0,none⟩)),(28,.pointer (some ⟨b,0,none⟩)),(29,.pointer (some ⟨b,13,none⟩)),(30,.slice (some ⟨bm,0,none⟩) 16 cm),(31,.pointer (some ⟨d,0,none⟩)),(32,.pointer (some ⟨d,0,none⟩)),(33,.pointer (some ⟨d,28,none⟩)),(34,V16 n.mat),(35,.bool true),(36,.bool true),(37,.bool true),(38,.pointer (some ⟨rb,0,none⟩)),(39,.pointer (some ⟨rb,0,none⟩)),(40,.pointer (some ⟨rb,1,none⟩)),(41,.int .u64 (ap:Nat)),(42,.pointer (some ⟨rd,0,none⟩)),(43,.pointer (some ⟨rd,0,none⟩)),(44,.pointer (some ⟨rd,1,none⟩)),(45,.int .u64 (ap:Nat)),(46,.bool true),(47,.bool true)] [] 48 0) 1 (by kernel_rfl) (by kernel_rfl) (wz (by kernel_rfl)) rfl ?cfall ?cfend
 case cfall=>
  iterate 43
   refine bV.w HT HS.out HE.out rfl rfl rfl (fun A W HF hT hE K' hK=>?_) ?_
   ·simp only[tmEqs,ckLook,gk,Nat.reduceBEq] at hT;simp only[c_] at hE;obtain⟨x4,x12,x13,y4,a0,a1⟩:=CX.out W (UD.out.trans HF.out);go_simp;exact hK.out _ _ rfl (Fr.refl _ _)
  refine bV.w HT HS.out HE.out rfl rfl rfl (fun A W HF hT hE K' hK=>?_) ?_
  ·simp only[tmEqs,ckLook,gk,Nat.reduceBEq] at hT;simp only[c_] at hE;have CA:=zH (NC.out W (UD.out.trans HF.out));go_simp;(with_reducible refine CA.out.mono ?_);rintro e w8 ⟨rfl,f8⟩;exact hK.out _ _ rfl f8
  refine bV.w HT HS.out HE.out rfl rfl rfl (fun A W HF hT hE K' hK=>?_) ?_
  ·simp only[tmEqs,ckLook,gk,Nat.reduceBEq] at hT;simp only[c_] at hE;have hz:=CZ.out W (UD.out.trans HF.out);have v0:=hz.1 0 (by decide);have v1:=hz.1 1 (by decide);have v2:=hz.1 2 (by decide);have v3:=hz.1 3 (by decide);have v4:=hz.1 4 (by decide);have v5:=hz.1 5 (by decide);have v6:=hz.1 6 (by decide);have v7:=hz.1 7 (by decide);have v8:=hz.1 8 (by decide);have v9:=hz.1 9 (by decide);have v10:=hz.1 10 (by decide);have v11:=hz.1 11 (by decide);have v12:=hz.1 12 (by decide);have v13:=hz.1 13 (by decide);have v14:=hz.1 14 (by decide);have v15:=hz.1 15 (by decide);clear hz;go_simp;exact hK.out _ _ rfl (Fr.refl _ _)
  refine bV.w HT HS.out HE.out rfl rfl rfl (fun A W HF hT hE K' hK=>?_) ?_
  ·simp only[tmEqs,ckLook,gk,Nat.reduceBEq] at hT;simp only[c_] at hE;have CA:=zH (NX.out W (UD.out.trans HF.out));go_simp;(with_reducible refine CA.out.mono ?_);rintro e w8 ⟨rfl,f8⟩;exact hK.out _ _ rfl f8
  refine bV.w HT HS.out HE.out rfl rfl rfl (fun A W HF hT hE K' hK=>?_) ?_
  ·simp only[tmEqs,ckLook,gk,Nat.reduceBEq] at hT;simp only[c_] at hE;have hz:=CZ.out W (UD.out.trans HF.out);have v0:=hz.2 0 (by decide);have v1:=hz.2 1 (by decide);have v2:=hz.2 2 (by decide);have v3:=hz.2 3 (by decide);have v4:=hz.2 4 (by decide);have v5:=hz.2 5 (by decide);have v6:=hz.2 6 (by decide);have v7:=hz.2 7 (by decide);have v8:=hz.2 8 (by decide);have v9:=hz.2 9 (by decide);have v10:=hz.2 10 (by decide);have v11:=hz.2 11 (by decide);have v12:=hz.2 12 (by decide);have v13:=hz.2 13 (by decide);have v14:=hz.2 14 (by decide);have v15:=hz.2 15 (by decide);clear hz;go_simp;exact hK.out _ _ rfl (Fr.refl _ _)
  refine bV.w HT HS.out HE.out rfl rfl rfl (fun A W HF hT hE K' hK=>?_) ?_
  ·simp only[tmEqs,ckLook,gk,Nat.reduceBEq] at hT;simp only[c_] at hE;have CA:=zH (MT.out W (UD.out.trans HF.out));go_simp;(with_reducible refine CA.out.mono ?_);rintro e w8 ⟨rfl,f8⟩;exact hK.out _ _ rfl f8
  exact bV.nil
 case cfend=>
  intro xs W hF hA;have HF:=zH hF;obtain⟨hT,hE,hS,hD⟩:=tmEnd HT HS.out HE.out rfl [47] rfl hA;clear hA hF;generalize fillA _ a xs=A at hT hE hS hD ⊢;simp only[tmEqs,ckLook,gk,Nat.reduceBEq] at hT;simp only[c_] at hE;have FC:=zH (UD.out.trans HF.out);have HS2:=zH hS;clear hS;refine wpN 48 rfl fun K' hK=>?_
  go_simp;refine hK.out _ _ ?_;clear hK K';refine wpF ?_;go_wp2;refine bodyPost_ret (v:=.bool true) ?_ HD.out (FN.out _ FC.out);rw[results_tmp rfl];have e4:(A.tmps.setIfInBounds 4 (Value.bool true))[4]? = some (.bool true):=by rw[Array.getElem?_setIfInBounds,if_pos rfl,if_pos (by rw[HS2.out];decide)]
  have e5:(A.tmps.setIfInBounds 4 (Value.bool true)).getD 4 undef=.bool true:=by rw[Array.getD_eq_getD_getElem?,e4];rfl
  exact congrArg (fun v=>Result.ok v W) e5
theorem sm13_4 {R:Ending→World→Prop} {w:World} {rb rd b d ap bs bt:Nat} {n:Nd} {vc vd vy ve:Value} {ae:Option Addr} {le ce bn cn bm cm:Nat} (hNC:(∀W,Fr (fun _ _=>True) w W→Calls Tryz.prog 22 #[vc,vd] W fun e w'=>e=.returned (.bool true)∧Fr (fun _ _=>True) W w')) (hNX:(∀W,Fr (fun _ _=>True) w W→Calls Tryz.prog 61 #[.slice (some ⟨bn,0,none⟩) 16 cn,V16 n.next] W fun e w'=>e=.returned (.bool true)∧Fr (fun _ _=>True) W w')) (hMT:(∀W,Fr (fun _ _=>True) w W→Calls Tryz.prog 61 #[.slice (some ⟨bm,0,none⟩) 16 cm,V16 n.mat] W fun e w'=>e=.returned (.bool true)∧Fr (fun _ _=>True) W w')) (hSC:(∀W,Fr (fun _ _=>True) w W→Calls Tryz.prog 59 #[.int .i64 n.me,.int .i64 n.vote,.int .i64 n.role,.int .i64 n.ld,vy,.int .u64 (n.tm:Nat),.int .u64 (n.commit:Nat),.bool n.heard,.pointer (some ⟨d,0,none⟩)] W fun e w'=>e=.returned (.bool true)∧Fr (fun _ _=>True) W w')) (hLC:(∀W,Fr (fun _ _=>True) w W→Calls Tryz.prog 60 #[.int .u64 (bs:Nat),.int .u64 (bt:Nat),ve,.agg #[.int .u64 (bs:Nat),.int .u64 (bt:Nat),.slice ae le ce]] W fun e w'=>e=.returned (.bool true)∧Fr (fun _ _=>True) W w')) (hC3:∀W,Fr (fun _ _=>True) w W→W.cell? ⟨b,0,none⟩=some (.int .i64 n.me)∧W.cell? ⟨b,1,none⟩=some (.int .i64 n.vote)∧W.cell? ⟨b,2,none⟩=some (.int .i64 n.role)∧W.cell? ⟨b,3,none⟩=some (.int .i64 n.ld)∧W.cell? ⟨b,5,none⟩=some (vy)∧W.cell? ⟨b,6,none⟩=some (.int .u64 (n.tm:Nat))∧W.cell? ⟨b,7,none⟩=some (.int .u64 (n.commit:Nat))∧W.cell? ⟨b,11,none⟩=some (.bool n.heard)) (hC4:∀W,Fr (fun _ _=>True) w W→W.cell? ⟨b,8,none⟩=some (.int .u64 (bs:Nat))∧W.cell? ⟨b,9,none⟩=some (.int .u64 (bt:Nat))∧W.cell? ⟨b,10,none⟩=some (ve)∧W.cell? ⟨d,8,none⟩=some (.int .u64 (bs:Nat))∧W.cell? ⟨d,9,none⟩=some (.int .u64 (bt:Nat))∧W.cell? ⟨d,10,none⟩=some (.slice ae le ce)) (hC5:∀W,Fr (fun _ _=>True) w W→W.cell? ⟨b,4,none⟩=some (vc)∧W.cell? ⟨b,12,none⟩=some (.slice (some ⟨bn,0,none⟩) 16 cn)∧W.cell? ⟨b,13,none⟩=some (.slice (some ⟨bm,0,none⟩) 16 cm)∧W.cell? ⟨d,4,none⟩=some (vd)∧W.cell? ⟨rb,1,none⟩=some (.int .u64 (ap:Nat))∧W.cell? ⟨rd,1,none⟩=some (.int .u64 (ap:Nat))) (hCZ:∀W,Fr (fun _ _=>True) w W→(∀i,i<16→W.cell? ⟨d,12+i,none⟩=some (c16 n.next i))∧∀i,i<16→W.cell? ⟨d,28+i,none⟩=some (c16 n.mat i)) (fin:∀W,Fr (fun _ _=>True) w W→R (.returned (.bool true)) W) (a:Act) (hs:a.tmps.size=119) (hd:a.defers=[]) (he:c_ a [(7,.bool true),(0,.pointer (some ⟨rb,0,none⟩)),(1,.pointer (some ⟨rd,0,none⟩)),(5,.pointer (some ⟨b,0,none⟩)),(6,.pointer (some ⟨d,0,none⟩))]):
 Code.wp Tryz.prog (gX 4 (cW Tryz.f40.body)) (bodyPost Tryz.prog Tryz.f40 R) a w:=by
 have HS:=zH hs;have HE:=zH he;have HD:=zH hd;clear hs he hd;dsimp only[gX,cW,Tryz.f40];have LC:=zH hLC;have CX:=zH hC4;have FN:=zH fin;have UD:Hid (Fr (fun _ _=>True) w w.drew):=(Fr.refl _ _).drew;have NXT:Hid (∀W,Fr (fun _ _=>True) w W→∀a:Act,a.tmps.size=119→a.defers=[]→c_ a [(8,.bool true),(7,.bool true),(0,.pointer (some ⟨rb,0,none⟩)),(1,.pointer (some ⟨rd,0,none⟩)),(5,.pointer (some ⟨b,0,none⟩)),(6,.pointer (some ⟨d,0,none⟩))]→Code.wp Tryz.prog (gX 5 (cW Tryz.f40.body)) (bodyPost Tryz.prog Tryz.f40 R) a W):=fun W f a hs hd he=>sm13_5 (bs:=bs) (bt:=bt) (vy:=vy) (ve:=ve) (ae:=ae) (le:=le) (ce:=ce) (fun W' g=>hNC W' (f.trans g)) (fun W' g=>hNX W' (f.trans g)) (fun W' g=>hMT W' (f.trans g)) (fun W' g=>hC5 W' (f.trans g)) (fun W' g=>hCZ W' (f.trans g)) (fun W' g=>fin W' (f.trans g)) a hs hd he
 clear hNC hNX hMT hSC hLC hC3 hC4 hC5 hCZ fin;apply wp_seq_k;intro K1 h1;have H1:=zH h1;clear h1;have HT:tmB [(51,0),(52,1),(53,2),(54,3),(55,4),(56,5),(57,6),(58,7),(59,8),(60,9),(61,10),(62,11),(63,12),(64,13),(65,14),(66,15),(67,16),(68,17),(69,18),(70,19)] [(7,.bool true),(0,.pointer (some ⟨rb,0,none⟩)),(1,.pointer (some ⟨rd,0,none⟩)),(5,.pointer (some ⟨b,0,none⟩)),(6,.pointer (some ⟨d,0,none⟩))] 119=true:=by rfl
 refine dY (K:=fun _ _=>True) (by kernel_rfl) [(51,0),(52,1),(53,2),(54,3),(55,4),(56,5),(57,6),(58,7),(59,8),(60,9),(61,10),(62,11),(63,12),(64,13),(65,14),(66,15),(67,16),(68,17),(69,18),(70,19)] [(0,[]),(1,[0]),(2,[1]),(3,[2]),(4,[3]),(5,[]),(6,[5]),(7,[6]),(8,[7]),(9,[8]),(10,[]),(11,[10]),(12,[11]),(13,[12]),(14,[13]),(15,[]),(16,[15]),(17,[16]),(18,[17]),(19,[4,9,14,18])] (ckR [(0,.pointer (some ⟨b,0,none⟩)),(1,.pointer (some ⟨b,0,none⟩)),(2,.pointer (some ⟨b,8,none⟩)),(3,.pointer (some ⟨b,8,none⟩)),(4,.int .u64 (bs:Nat)),(5,.pointer (some ⟨b,0,none⟩)),(6,.pointer (some ⟨b,0,none⟩)),(7,.pointer (some ⟨b,8,none⟩)),(8,.pointer (some ⟨b,9,none⟩)),(9,.int .u64 (bt:Nat)),(10,.pointer (some ⟨b,0,none⟩)),(11,.pointer (some ⟨b,0,none⟩)),(12,.pointer (some ⟨b,8,none⟩)),(13,.pointer (some ⟨b,10,none⟩)),(14,ve),(15,.pointer (some ⟨d,0,none⟩)),(16,.pointer (some ⟨d,0,none⟩)),(17,.pointer (some ⟨d,8,none⟩)),(18,.agg #[.int .u64 (bs:Nat),.int .u64 (bt:Nat),.slice ae le ce]),(19,.bool true)] [] 20 0) 1 (by kernel_rfl) (by kernel_rfl) (wz (by kernel_rfl)) rfl ?cfall ?cfend
 case cfall=>
  iterate 19
   refine bV.w HT HS.out HE.out rfl rfl rfl (fun A W HF hT hE K' hK=>?_) ?_
   ·simp only[tmEqs,ckLook,gk,Nat.reduceBEq] at hT;simp only[c_] at hE;obtain⟨xb8,xb9,xb10,xd8,xd9,xd10⟩:=CX.out W (UD.out.trans HF.out);go_simp;exact hK.out _ _ rfl (Fr.refl _ _)
  refine bV.w HT HS.out HE.out rfl rfl rfl (fun A W HF hT hE K' hK=>?_) ?_
  ·simp only[tmEqs,ckLook,gk,Nat.reduceBEq] at hT;simp only[c_] at hE;obtain⟨xb8,xb9,xb10,xd8,xd9,xd10⟩:=CX.out W (UD.out.trans HF.out);have CA:=zH (LC.out W (UD.out.trans HF.out));go_simp;(with_reducible refine CA.out.mono ?_);rintro e w8 ⟨rfl,f8⟩;exact hK.out _ _ rfl f8
  exact bV.nil
 case cfend=>
  intro xs W hF hA;have HF:=zH hF;obtain⟨hT,hE,hS,hD⟩:=tmEnd HT HS.out HE.out rfl [19] rfl hA;clear hA hF;generalize fillA _ a xs=A at hT hE hS hD ⊢;simp only[tmEqs,ckLook,gk,Nat.reduceBEq] at hT;simp only[c_] at hE;have FC:=zH (UD.out.trans HF.out);have HS2:=zH hS;have HE2:=zH hE;have HD2:=zH hD;clear hS hE hD;refine wpN 20 rfl fun K' hK=>?_
  go_simp;refine hK.out _ _ ?_;clear hK K';refine wpF ?_;refine H1.out _ _ ?_;exact NXT.out _ FC.out _ (by rw[Array.size_setIfInBounds];exact HS2.out) (HD2.out.trans HD.out) (yJ (by simp only[c_];exact HE2.out) (by rw[HS2.out];decide) rfl)
theorem sm13_3 {R:Ending→World→Prop} {w:World} {rb rd b d ap bs bt:Nat} {n:Nd} {vc vd vy ve:Value} {ae:Option Addr} {le ce bn cn bm cm:Nat} (hNC:(∀W,Fr (fun _ _=>True) w W→Calls Tryz.prog 22 #[vc,vd] W fun e w'=>e=.returned (.bool true)∧Fr (fun _ _=>True) W w')) (hNX:(∀W,Fr (fun _ _=>True) w W→Calls Tryz.prog 61 #[.slice (some ⟨bn,0,none⟩) 16 cn,V16 n.next] W fun e w'=>e=.returned (.bool true)∧Fr (fun _ _=>True) W w')) (hMT:(∀W,Fr (fun _ _=>True) w W→Calls Tryz.prog 61 #[.slice (some ⟨bm,0,none⟩) 16 cm,V16 n.mat] W fun e w'=>e=.returned (.bool true)∧Fr (fun _ _=>True) W w')) (hSC:(∀W,Fr (fun _ _=>True) w W→Calls Tryz.prog 59 #[.int .i64 n.me,.int .i64 n.vote,.int .i64 n.role,.int .i64 n.ld,vy,.int .u64 (n.tm:Nat),.int .u64 (n.commit:Nat),.bool n.heard,.pointer (some ⟨d,0,none⟩)] W fun e w'=>e=.returned (.bool true)∧Fr (fun _ _=>True) W w')) (hLC:(∀W,Fr (fun _ _=>True) w W→Calls Tryz.prog 60 #[.int .u64 (bs:Nat),.int .u64 (bt:Nat),ve,.agg #[.int .u64 (bs:Nat),.int .u64 (bt:Nat),.slice ae le ce]] W fun e w'=>e=.returned (.bool true)∧Fr (fun _ _=>True) W w')) (hC3:∀W,Fr (fun _ _=>True) w W→W.cell? ⟨b,0,none⟩=some (.int .i64 n.me)∧W.cell? ⟨b,1,none⟩=some (.int .i64 n.vote)∧W.cell? ⟨b,2,none⟩=some (.int .i64 n.role)∧W.cell? ⟨b,3,none⟩=some (.int .i64 n.ld)∧W.cell? ⟨b,5,none⟩=some (vy)∧W.cell? ⟨b,6,none⟩=some (.int .u64 (n.tm:Nat))∧W.cell? ⟨b,7,none⟩=some (.int .u64 (n.commit:Nat))∧W.cell? ⟨b,11,none⟩=some (.bool n.heard)) (hC4:∀W,Fr (fun _ _=>True) w W→W.cell? ⟨b,8,none⟩=some (.int .u64 (bs:Nat))∧W.cell? ⟨b,9,none⟩=some (.int .u64 (bt:Nat))∧W.cell? ⟨b,10,none⟩=some (ve)∧W.cell? ⟨d,8,none⟩=some (.int .u64 (bs:Nat))∧W.cell? ⟨d,9,none⟩=some (.int .u64 (bt:Nat))∧W.cell? ⟨d,10,none⟩=some (.slice ae le ce)) (hC5:∀W,Fr (fun _ _=>True) w W→W.cell? ⟨b,4,none⟩=some (vc)∧W.cell? ⟨b,12,none⟩=some (.slice (some ⟨bn,0,none⟩) 16 cn)∧W.cell? ⟨b,13,none⟩=some (.slice (some ⟨bm,0,none⟩) 16 cm)∧W.cell? ⟨d,4,none⟩=some (vd)∧W.cell? ⟨rb,1,none⟩=some (.int .u64 (ap:Nat))∧W.cell? ⟨rd,1,none⟩=some (.int .u64 (ap:Nat))) (hCZ:∀W,Fr (fun _ _=>True) w W→(∀i,i<16→W.cell? ⟨d,12+i,none⟩=some (c16 n.next i))∧∀i,i<16→W.cell? ⟨d,28+i,none⟩=some (c16 n.mat i)) (fin:∀W,Fr (fun _ _=>True) w W→R (.returned (.bool true)) W) (a:Act) (hs:a.tmps.size=119) (hd:a.defers=[]) (he:c_ a [(0,.pointer (some ⟨rb,0,none⟩)),(1,.pointer (some ⟨rd,0,none⟩)),(5,.pointer (some ⟨b,0,none⟩)),(6,.pointer (some ⟨d,0,none⟩))]):
 Code.wp Tryz.prog (gX 3 (cW Tryz.f40.body)) (bodyPost Tryz.prog Tryz.f40 R) a w:=by
 have HS:=zH hs;have HE:=zH he;have HD:=zH hd;clear hs he hd;dsimp only[gX,cW,Tryz.f40];have SC:=zH hSC;have CX:=zH hC3;have FN:=zH fin;have UD:Hid (Fr (fun _ _=>True) w w.drew):=(Fr.refl _ _).drew;have NXT:Hid (∀W,Fr (fun _ _=>True) w W→∀a:Act,a.tmps.size=119→a.defers=[]→c_ a [(7,.bool true),(0,.pointer (some ⟨rb,0,none⟩)),(1,.pointer (some ⟨rd,0,none⟩)),(5,.pointer (some ⟨b,0,none⟩)),(6,.pointer (some ⟨d,0,none⟩))]→Code.wp Tryz.prog (gX 4 (cW Tryz.f40.body)) (bodyPost Tryz.prog Tryz.f40 R) a W):=fun W f a hs hd he=>sm13_4 (fun W' g=>hNC W' (f.trans g)) (fun W' g=>hNX W' (f.trans g)) (fun W' g=>hMT W' (f.trans g)) (fun W' g=>hSC W' (f.trans g)) (fun W' g=>hLC W' (f.trans g)) (fun W' g=>hC3 W' (f.trans g)) (fun W' g=>hC4 W' (f.trans g)) (fun W' g=>hC5 W' (f.trans g)) (fun W' g=>hCZ W' (f.trans g)) (fun W' g=>fin W' (f.trans g)) a hs hd he
 clear hNC hNX hMT hSC hLC hC3 hC4 hC5 hCZ fin;apply wp_seq_k;intro K1 h1;have H1:=zH h1;clear h1;have HT:tmB [(17,0),(18,1),(19,2),(20,3),(21,4),(22,5),(23,6),(24,7),(25,8),(26,9),(27,10),(28,11),(29,12),(30,13),(31,14),(32,15),(33,16),(34,17),(35,18),(36,19),(37,20),(38,21),(39,22),(40,23),(41,24),(42,25),(43,26),(44,27),(45,28),(46,29),(47,30),(48,31),(49,32),(50,33)] [(0,.pointer (some ⟨rb,0,none⟩)),(1,.pointer (some ⟨rd,0,none⟩)),(5,.pointer (some ⟨b,0,none⟩)),(6,.pointer (some ⟨d,0,none⟩))] 119=true:=by rfl
 refine dY (K:=fun _ _=>True) (by kernel_rfl) [(17,0),(18,1),(19,2),(20,3),(21,4),(22,5),(23,6),(24,7),(25,8),(26,9),(27,10),(28,11),(29,12),(30,13),(31,14),(32,15),(33,16),(34,17),(35,18),(36,19),(37,20),(38,21),(39,22),(40,23),(41,24),(42,25),(43,26),(44,27),(45,28),(46,29),(47,30),(48,31),(49,32),(50,33)] [(0,[]),(1,[0]),(2,[1]),(3,[2]),(4,[]),(5,[4]),(6,[5]),(7,[6]),(8,[]),(9,[8]),(10,[9]),(11,[10]),(12,[]),(13,[12]),(14,[13]),(15,[14]),(16,[]),(17,[16]),(18,[17]),(19,[18]),(20,[]),(21,[20]),(22,[21]),(23,[22]),(24,[]),(25,[24]),(26,[25]),(27,[26]),(28,[]),(29,[28]),(30,[29]),(31,[30]),(32,[]),(33,[3,7,11,15,19,23,27,31,32])] (ckR [(0,.pointer (some ⟨b,0,none⟩)),(1,.pointer (some ⟨b,0,none⟩)),(2,.pointer (some ⟨b,0,none⟩)),(3,.int .i64 n.me),(4,.pointer (some ⟨b,0,none⟩)),(5,.pointer (some ⟨b,0,none⟩)),(6,.pointer (some ⟨b,1,none⟩)),(7,.int .i64 n.vote),(8,.pointer (some ⟨b,0,none⟩)),(9,.pointer (some ⟨b,0,none⟩)),(10,.pointer (some ⟨b,2,none⟩)),(11,.int .i64 n.role),(12,.pointer (some ⟨b,0,none⟩)),(13,.pointer (some ⟨b,0,none⟩)),(14,.pointer (some ⟨b,3,none⟩)),(15,.int .i64 n.ld),(16,.pointer (some ⟨b,0,none⟩)),(17,.pointer (some ⟨b,0,none⟩)),(18,.pointer (some ⟨b,5,none⟩)),(19,vy),(20,.pointer (some ⟨b,0,none⟩)),(21,.pointer (some ⟨b,0,none⟩)),(22,.pointer (some ⟨b,6,none⟩)),(23,.int .u64 (n.tm:Nat)),(24,.pointer (some ⟨b,0,none⟩)),(25,.pointer (some ⟨b,0,none⟩)),(26,.pointer (some ⟨b,7,none⟩)),(27,.int .u64 (n.commit:Nat)),(28,.pointer (some ⟨b,0,none⟩)),(29,.pointer (some ⟨b,0,none⟩)),(30,.pointer (some ⟨b,11,none⟩)),(31,.bool n.heard),(32,.pointer (some ⟨d,0,none⟩)),(33,.bool true)] [] 34 0) 1 (by kernel_rfl) (by kernel_rfl) (wz (by kernel_rfl)) rfl ?cfall ?cfend
 case cfall=>
  iterate 33
   refine bV.w HT HS.out HE.out rfl rfl rfl (fun A W HF hT hE K' hK=>?_) ?_
   ·simp only[tmEqs,ckLook,gk,Nat.reduceBEq] at hT;simp only[c_] at hE;obtain⟨xb0,xb1,xb2,xb3,xb5,xb6,xb7,xb11⟩:=CX.out W (UD.out.trans HF.out);go_simp;exact hK.out _ _ rfl (Fr.refl _ _)
  refine bV.w HT HS.out HE.out rfl rfl rfl (fun A W HF hT hE K' hK=>?_) ?_
  ·simp only[tmEqs,ckLook,gk,Nat.reduceBEq] at hT;simp only[c_] at hE;obtain⟨xb0,xb1,xb2,xb3,xb5,xb6,xb7,xb11⟩:=CX.out W (UD.out.trans HF.out);have CA:=zH (SC.out W (UD.out.trans HF.out));go_simp;(with_reducible refine CA.out.mono ?_);rintro e w8 ⟨rfl,f8⟩;exact hK.out _ _ rfl f8
  exact bV.nil
 case cfend=>
  intro xs W hF hA;have HF:=zH hF;obtain⟨hT,hE,hS,hD⟩:=tmEnd HT HS.out HE.out rfl [33] rfl hA;clear hA hF;generalize fillA _ a xs=A at hT hE hS hD ⊢;simp only[tmEqs,ckLook,gk,Nat.reduceBEq] at hT;simp only[c_] at hE;have FC:=zH (UD.out.trans HF.out);have HS2:=zH hS;have HE2:=zH hE;have HD2:=zH hD;clear hS hE hD;refine wpN 34 rfl fun K' hK=>?_
  go_simp;refine hK.out _ _ ?_;clear hK K';refine wpF ?_;refine H1.out _ _ ?_;exact NXT.out _ FC.out _ (by rw[Array.size_setIfInBounds];exact HS2.out) (HD2.out.trans HD.out) (yJ (by simp only[c_];exact HE2.out) (by rw[HS2.out];decide) rfl)
theorem BY [Old] {X P X2:Nat→Prop} {w:World} {rb rd b d ap:Nat} {n:Nd} {q:NV} {q2:DV} (hrb:RB w rb b ap) (hrd:RD w rd d ap) (h:PNs X P w b n q) (k:DNs X2 w d n q2) (hyl:n.yes.length≤maxLen) (hcl:n.conf.length≤maxLen) (hle:n.log.es.length≤1000000):
 Calls Tryz.prog 40 #[.pointer (some ⟨rb,0,none⟩),.pointer (some ⟨rd,0,none⟩)] w fun e w'=>e=.returned (.bool true)∧Fr (fun _ _=>True) w w':=by
 obtain⟨vc,hvc⟩:=zE q.vc;obtain⟨vd,hvd⟩:=zE q2.vc;obtain⟨vy,hvy⟩:=zE q.vy;obtain⟨ve,hve⟩:=zE q.ve;obtain⟨bn,hbn⟩:=zE q.bn;obtain⟨cn,hcn⟩:=zE q.cn;obtain⟨bm,hbm⟩:=zE q.bm;obtain⟨cm,hcm⟩:=zE q.cm;obtain⟨bs,hbs⟩:=zE n.log.base;obtain⟨bt,hbt⟩:=zE n.log.bt;obtain⟨ae,le,ce,hv2,-,-,hes,-⟩:=k.lg
 have CX:Hid (∀W,Fr (fun _ _=>True) w W→W.cell? ⟨b,0,none⟩=some (.int .i64 n.me)∧W.cell? ⟨b,1,none⟩=some (.int .i64 n.vote)∧W.cell? ⟨b,2,none⟩=some (.int .i64 n.role)∧W.cell? ⟨b,3,none⟩=some (.int .i64 n.ld)∧W.cell? ⟨b,4,none⟩=some vc∧W.cell? ⟨b,5,none⟩=some vy∧W.cell? ⟨b,6,none⟩=some (.int .u64 (n.tm:Nat))∧W.cell? ⟨b,7,none⟩=some (.int .u64 (n.commit:Nat))∧W.cell? ⟨b,8,none⟩=some (.int .u64 (bs:Nat))∧W.cell? ⟨b,9,none⟩=some (.int .u64 (bt:Nat))∧W.cell? ⟨b,10,none⟩=some ve∧W.cell? ⟨b,11,none⟩=some (.bool n.heard)∧W.cell? ⟨b,12,none⟩=some (.slice (some ⟨bn,0,none⟩) 16 cn)∧W.cell? ⟨b,13,none⟩=some (.slice (some ⟨bm,0,none⟩) 16 cm)):=fun W f=>by have:=h.cells f;rw[hvc,hvy,hve,hbn,hcn,hbm,hcm,hbs,hbt] at this;exact this
 have CY:Hid (∀W,Fr (fun _ _=>True) w W→W.cell? ⟨d,8,none⟩=some (.int .u64 (bs:Nat))∧W.cell? ⟨d,9,none⟩=some (.int .u64 (bt:Nat))∧W.cell? ⟨d,10,none⟩=some (.slice ae le ce)∧W.cell? ⟨d,4,none⟩=some vd):=fun W f=>by obtain⟨x0,x1,x2,x3,x4,x5,x6,x7,x8,x9,x10,x11⟩:=k.cells f;exact⟨by rw[x8,hbs],by rw[x9,hbt],by rw[x10,hv2],by rw[x4,hvd]⟩
 have CZ:Hid (∀W,Fr (fun _ _=>True) w W→(∀i,i<16→W.cell? ⟨d,12+i,none⟩=some (c16 n.next i))∧∀i,i<16→W.cell? ⟨d,28+i,none⟩=some (c16 n.mat i)):=fun W f=>⟨fun i hi=>k.nxt f i hi,fun i hi=>k.mtc f i hi⟩
 have SC:Hid (∀W,Fr (fun _ _=>True) w W→Calls Tryz.prog 59 #[.int .i64 n.me,.int .i64 n.vote,.int .i64 n.role,.int .i64 n.ld,vy,.int .u64 (n.tm:Nat),.int .u64 (n.commit:Nat),.bool n.heard,.pointer (some ⟨d,0,none⟩)] W fun e w'=>e=.returned (.bool true)∧Fr (fun _ _=>True) W w'):=fun W f=>J3 (k.tt f) vy (hvy▸(h.ye.tt f).ints) hyl
 have LC:Hid (∀W,Fr (fun _ _=>True) w W→Calls Tryz.prog 60 #[.int .u64 (bs:Nat),.int .u64 (bt:Nat),ve,.agg #[.int .u64 (bs:Nat),.int .u64 (bt:Nat),.slice ae le ce]] W fun e w'=>e=.returned (.bool true)∧Fr (fun _ _=>True) W w'):=fun W f=>by
  have h1:=h.ev.tt f;rw[hve] at h1;have e:q.es.map EV.en=q2.es.map EV.en:=h.ee.symm.trans k.ee;refine(CJ W bs bt bs bt ve ae le ce q.es q2.es h1.row (hes W f).row h1.dat (fun x hx=>((hes W f).dat x hx).1) (by have:=congrArg List.length h.ee;rw[List.length_map] at this;omega)).mono fun e2 w' hh=>⟨?_,?_⟩
  ·rw[hh.1,e];simp
  ·exact hh.2
 have NX:Hid (∀W,Fr (fun _ _=>True) w W→Calls Tryz.prog 61 #[.slice (some ⟨bn,0,none⟩) 16 cn,V16 n.next] W fun e w'=>e=.returned (.bool true)∧Fr (fun _ _=>True) W w'):=fun W f=>pj W bn cn n.next (hbn▸h.nx.fr f fun _ _=>trivial)
 have MT:Hid (∀W,Fr (fun _ _=>True) w W→Calls Tryz.prog 61 #[.slice (some ⟨bm,0,none⟩) 16 cm,V16 n.mat] W fun e w'=>e=.returned (.bool true)∧Fr (fun _ _=>True) W w'):=fun W f=>pj W bm cm n.mat (hbm▸h.mt.fr f fun _ _=>trivial)
 have NC:Hid (∀W,Fr (fun _ _=>True) w W→Calls Tryz.prog 22 #[vc,vd] W fun e w'=>e=.returned (.bool true)∧Fr (fun _ _=>True) W w'):=fun W f=>(sv W vc vd n.conf n.conf (hvc▸h.cf.tt f) (hvd▸k.cf.tt f) hcl).mono fun e w' ⟨h1,h2⟩=>⟨by rw[h1,decide_eq_true rfl],h2⟩
 have CR:Hid (∀W,Fr (fun _ _=>True) w W→W.cell? ⟨rb,1,none⟩=some (.int .u64 (ap:Nat))∧W.cell? ⟨rd,1,none⟩=some (.int .u64 (ap:Nat))):=fun W f=>⟨bQ (f.keep _ _ hrb trivial) rfl,bQ (f.keep _ _ hrd trivial) rfl⟩
 have g0:w.cell? ⟨rb,0,none⟩=some (.pointer (some ⟨b,0,none⟩)):=bQ hrb rfl;have g1:w.cell? ⟨rd,0,none⟩=some (.pointer (some ⟨d,0,none⟩)):=bQ hrd rfl
 have C3:Hid (∀W,Fr (fun _ _=>True) w W→W.cell? ⟨b,0,none⟩=some (.int .i64 n.me)∧W.cell? ⟨b,1,none⟩=some (.int .i64 n.vote)∧W.cell? ⟨b,2,none⟩=some (.int .i64 n.role)∧W.cell? ⟨b,3,none⟩=some (.int .i64 n.ld)∧W.cell? ⟨b,5,none⟩=some (vy)∧W.cell? ⟨b,6,none⟩=some (.int .u64 (n.tm:Nat))∧W.cell? ⟨b,7,none⟩=some (.int .u64 (n.commit:Nat))∧W.cell? ⟨b,11,none⟩=some (.bool n.heard)):=fun W f=>by obtain⟨x0,x1,x2,x3,x4,x5,x6,x7,x8,x9,x10,x11,x12,x13⟩:=CX.out W f;exact⟨x0,x1,x2,x3,x5,x6,x7,x11⟩
 have C4:Hid (∀W,Fr (fun _ _=>True) w W→W.cell? ⟨b,8,none⟩=some (.int .u64 (bs:Nat))∧W.cell? ⟨b,9,none⟩=some (.int .u64 (bt:Nat))∧W.cell? ⟨b,10,none⟩=some (ve)∧W.cell? ⟨d,8,none⟩=some (.int .u64 (bs:Nat))∧W.cell? ⟨d,9,none⟩=some (.int .u64 (bt:Nat))∧W.cell? ⟨d,10,none⟩=some (.slice ae le ce)):=fun W f=>by obtain⟨x0,x1,x2,x3,x4,x5,x6,x7,x8,x9,x10,x11,x12,x13⟩:=CX.out W f;obtain⟨y8,y9,y10,y4⟩:=CY.out W f;exact⟨x8,x9,x10,y8,y9,y10⟩
 have C5:Hid (∀W,Fr (fun _ _=>True) w W→W.cell? ⟨b,4,none⟩=some (vc)∧W.cell? ⟨b,12,none⟩=some (.slice (some ⟨bn,0,none⟩) 16 cn)∧W.cell? ⟨b,13,none⟩=some (.slice (some ⟨bm,0,none⟩) 16 cm)∧W.cell? ⟨d,4,none⟩=some (vd)∧W.cell? ⟨rb,1,none⟩=some (.int .u64 (ap:Nat))∧W.cell? ⟨rd,1,none⟩=some (.int .u64 (ap:Nat))):=fun W f=>by obtain⟨x0,x1,x2,x3,x4,x5,x6,x7,x8,x9,x10,x11,x12,x13⟩:=CX.out W f;obtain⟨y8,y9,y10,y4⟩:=CY.out W f;obtain⟨a0,a1⟩:=CR.out W f;exact⟨x4,x12,x13,y4,a0,a1⟩
 clear h k hyl hle hvy hve hbn hcn hbm hcm hbs hbt hv2 hes hvc hvd hcl hrb hrd CX CY CR;go_enter Tryz.func40,Tryz.ntmps40
 go_upto_region 2 with fail
 rename_i K1 h1;have H1:=zH h1;clear h1;go_wp2_with fail
 exact H1.out _ _ (sm13_3 (R:=fun e w'=>e=.returned (.bool true)∧Fr (fun _ _=>True) w w') NC.out NX.out MT.out SC.out LC.out C3.out C4.out C5.out CZ.out (fun W f=>⟨rfl,f⟩) _ rfl rfl ⟨rfl,rfl,rfl,rfl,trivial⟩)
end Go.Proofs.YtmjccpfchhnfhaaGreat
