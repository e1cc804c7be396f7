/- Texts of the proofs, part 36: what the functions that they reach do, walked; no conditions beyond those that each states. -/
import Derived.Test.YtmjccpfchhnfhaaGreatZk8d311412e3
import Derived.Test.YtmjccpfchhnfhaaGreatZk50c0a9d62c
import Derived.Test.YtmjccpfchhnfhaaGreatZk2190c3dfb9
import Derived.Test.YtmjccpfchhnfhaaGreatZk9be206b6ba
set_option linter.unusedVariables false
set_option linter.unusedSimpArgs false
set_option maxRecDepth 100000
set_option maxHeartbeats 8000000
namespace Go.Proofs.YtmjccpfchhnfhaaGreat
open Go.RowKit
theorem kBd {p q:Prop} (k:q) (h:q→p:=by
 have a16:∀{c l},A16 w c l→P c→A16 w' c l:=fun {c l} ha hp=>ha.fr hf fun o ho=>hk _ _ ho (.inl hp)
 have cf2:IntsAt (RO X) w' q.vc n.conf:=(((h.cf.mono3 (K':=fun c o=>RO X c o∧K c o) fun c o ho hr=>⟨hr,hk c o ho (.inr hr)⟩).fr hf fun c o q=>q.2).mono fun c o q=>q.1)
 intro kk0;revert cf2;revert a16;exact kk0):p:=h k
theorem mRG {p:Prop} (h:p:=by
 rw[follow_y];exact Nat.zero_le _):p:=h
theorem mgm {p:Prop} (h:p:=by
 refine kBd ?_;intro a16 cf2;exact⟨hf.keep _ _ h.top (hk _ _ h.top (.inl h.pb)),cf2,bK h.ye hf fun c o e ho=>hk c o ho (.inl (h.yp c e)),h.yp,h.ev.fr hf fun c o ho hr=>hk c o ho (.inr hr),h.ee,a16 h.nx h.pn,a16 h.mt h.pm,h.nm,h.pb,h.pn,h.pm,h.px,fun c hc=>Nat.lt_of_lt_of_le (h.hx c hc) hf.size,h.od⟩):p:=h
structure Gd (B:Nat) (n:Nd):Prop where
 bn:Bn B n
 me:∃mN:Nat,n.me=(mN:Nat)∧mN<16
 cf:0<n.conf.length∧n.conf.length≤12
 pos:∀x∈n.conf,0≤x
 ye:n.yes.length≤B
theorem Gd.mono {B B':Nat} {n:Nd} (h:Gd B n) (hb:B≤B'):Gd B' n:=⟨h.bn.mono hb,h.me,h.cf,h.pos,Nat.le_trans h.ye hb⟩
theorem Gd.es {B:Nat} {n:Nd} (h:Gd B n):n.log.es.length≤B:=by have:=h.bn.last;unfold Lg.last at this;omega
theorem Gd.up {B B':Nat} {n n':Nd} (h:Gd B n) (hu:Nd.Up n n') (hb:Bn B' n') (hy:n'.yes.length≤B'):Gd B' n':=⟨hb,by rw[hu.me];exact h.me,by rw[hu.conf];exact h.cf,by rw[hu.conf];exact h.pos,hy⟩
namespace Nd
variable {B:Nat} {n:Nd} {m:Ms}
theorem follow_y (n:Nd) (t:Nat) (l:Int):(n.follow t l).yes=[]:=by unfold follow;split <;> rfl
theorem askT_m (n:Nd):n.askT.1.yes.length≤max 1 n.yes.length:=by
 unfold askT;split
 ·dsimp only;split
  ·exact m3D
  ·show 1≤_;omega
 ·exact Nat.le_max_right _ _
theorem askF_y (h:n.yes.length≤B):n.askF.1.yes.length≤B+1:=by
 unfold askF;split
 ·dsimp only;split
  ·have:=askT_m ({ n with role:=1,ld:=-1,yes:=[n.me] }:Nd);have e:({ n with role:=1,ld:=-1,yes:=[n.me] }:Nd).yes.length=1:=rfl;omega
  ·show 1≤_;omega
 ·exact Nat.le_succ_of_le h
theorem onAsk_y (h:n.yes.length≤B):(n.onAsk m).1.yes.length≤B:=by
 unfold onAsk;split
 ·dsimp only
  have h1:(if m.kind=1∧n.tm<m.tm then n.follow m.tm (-1) else n).yes.length≤B:=by
   split
   ·exact mRG
   ·exact h
  generalize (if m.kind=1∧n.tm<m.tm then n.follow m.tm (-1) else n)=n1 at h1;split
  ·exact h1
  ·exact h1
 ·exact h
theorem onAnswer_y (h:n.yes.length≤B):(n.onAnswer m).1.yes.length≤B+1:=by
 unfold onAnswer;split
 ·dsimp only
  have h1:(if n.tm<m.tm∧(m.ok=false∨m.kind=2) then n.follow m.tm (-1) else n).yes.length≤B:=by
   split
   ·exact mRG
   ·exact h
  generalize (if n.tm<m.tm∧(m.ok=false∨m.kind=2) then n.follow m.tm (-1) else n)=n1 at h1;have h2:({ n1 with yes:=n1.yes++[m.src] }:Nd).yes.length≤B+1:=by show (n1.yes++[m.src]).length≤_;simp;omega
  split
  ·split
   ·unfold chosen;split
    ·have:=askT_m ({ n1 with yes:=n1.yes++[m.src] }:Nd);omega
    ·exact m3D
   ·exact h2
  ·exact Nat.le_succ_of_le h1
 ·exact Nat.le_succ_of_le h
theorem Mj (n:Nd) (r:Nat):(n.sureR r).yes=n.yes:=by unfold sureR;split <;> rfl
theorem onAppend_y (h:n.yes.length≤B):(n.onAppend m).1.yes.length≤B:=by
 unfold onAppend;split
 ·exact h
 ·split
  ·exact h
  ·unfold taken;split
   ·show (n.follow m.tm m.src).yes.length≤B;exact mRG
   ·show (n.follow m.tm m.src).yes.length≤B;exact mRG
theorem onAcked_y (h:n.yes.length≤B):(n.onAcked m).1.yes.length≤B:=by
 have ha:(n.acked m).yes=n.yes:=by
  unfold acked;split
  ·rfl
  ·split
   ·exact Mj _ _
   ·rfl
 unfold onAcked;split
 ·exact h
 ·split
  ·exact mRG
  ·split
   ·exact h
   ·split
    ·rw[ha];exact h
    ·rw[ha];exact h
theorem propose_y (n:Nd) (k:Int) (d:List UInt8):(n.propose k d).1.yes=n.yes:=by
 unfold propose;split
 ·rfl
 ·split
  ·rfl
  ·split
   ·rfl
   ·exact Mj _ _
end Nd
section
variable {X P X' P':Nat→Prop} {w w':World} {b:Nat} {n n':Nd} {q q':NV}
theorem PNs.frK [Old] [bj] (h:PNs X P w b n q) {K:Nat→Obj→Prop} (hf:Fr K w w') (hk:∀c o,w.heap[c]? = some o→P c∨RO X c o→K c o):PNs X P w' b n q:=by
 exact mgm
theorem PNs.mrow [Old] [bj] (h:PNs X P w b n q) {v:Value} {k:Nat} {xs:List Value} {B:Nat} (hv:w.ownsRow B 32 10 v k xs) (hx:∀c,v.ownBlock=some c→¬X c) (hf:Fr (fun c _=>v.ownBlock≠some c) w w'):PNs X P w' b n q:=
 h.frK hf fun c o ho hc e=>by
  rcases hc with hc | hc
  ·exact hx c e (h.px c hc)
  ·obtain⟨cur,h2⟩:=cZ hv e;rw[ho] at h2;cases h2;exact hc.ne0 rfl (by decide)
theorem OwnMs.app [Old] [bj] {B:Nat} {W W':World} {v v':Value} {ts bs:List MV} (ha:OwnMs X B W v ts) (hb:∀m∈bs,MsAt X W m) (hX:∀c,X c→c<W.heap.size) (hr:W'.ownsRow B 32 10 v' (ts++bs).length ((ts++bs).flatMap encM)) (hf:Fr (fun c _=>v.ownBlock≠some c) W W') (hn:OwnNext W v v'):OwnMs X B W' v' (ts++bs):=by
 refine⟨hr,fun c e hx=>?_,fun m hm=>?_⟩
 ·rcases hn with h | ⟨k,h,hk⟩
  ·rw[h] at e;exact ha.off c e hx
  ·rw[h] at e;cases e;have:=hX c hx;omega
 ·have h1:MsAt X W m:=by
   rcases List.mem_append.1 hm with h | h
   ·exact ha.at' m h
   ·exact hb m h
  refine h1.keep hf fun c o ho hr e=>?_
  obtain⟨cur,h2⟩:=cZ ha.row e;rw[ho] at h2;cases h2;exact hr.ne0 rfl (by decide)
theorem Aft.mrow {v:Value} {k:Nat} {xs:List Value} {B:Nat} (h:Aft X P X' P' w w') (hv:w'.ownsRow B 32 10 v k xs) (hB:∀c,v.ownBlock=some c→w.heap.size≤c∧¬X' c) {w'':World} (hf:Fr (fun c _=>v.ownBlock≠some c) w' w''):Aft X P X' P' w w'':=
 ⟨((h.fr.mono (K':=fun c _=>¬P c∧c<w.heap.size) fun c _ q=>q.1).trans (hf.mono fun c _ q e=>by have:=(hB c e).1;have:=q.2;omega)).within,h.xx,h.pp,h.nw,h.hp⟩
theorem bz {w:World} {B:Nat} {e:TypeId} {s:Nat} {v:Value} {n:Nat} {xs:List Value} (h:w.ownsRow B e s v n xs):∃g c,v=.slice g n c:=by
 rcases h.2 with⟨h,h0⟩ | ⟨g,cap,cur,h,_⟩
 ·exact⟨none,0,by rw[h,h0]⟩
 ·exact⟨_,_,h⟩
end
theorem dX {K0:Nat→Obj→Prop} {ops:Array Oper} {rest:List Oper} {o:Oper} {a:Act} {Q:Exit→Act→World→Prop} (W:World) (hgd:o.guard=none) (s x:Operand)
 (ho:o.op=.call { callee:=.builtin .append,args:=#[s,x],argTypes:=#[39,39] }) (v:Value) (T:List MV) (hs:a.eval s=v) (hown:Hid (W.ownsRow 0 32 10 v T.length (T.flatMap encM)))
 (vx:Value) (ys:List MV) (hx:a.eval x=vx) (hvx:Hid (RowsAt K0 W vx 10 encM ys)) (N:Nat) (hN:Hid ((T++ys).length=N)) (hn:N≤1000000)
 (h:∀g c w',Hid (w'.ownsRow 0 32 10 (.slice g N c) N ((T++ys).flatMap encM))→Hid (Fr (fun b _=>v.ownBlock≠some b) W w')→Hid (OwnNext W v (.slice g N c))→wpList Tryz.prog ops Q rest (a.put o.dst (.slice g N c)) w'):
 wpList Tryz.prog ops Q (o :: rest) a W:=by
 have f0:FT { W with heap:=#[] } W:=⟨rfl,rfl,rfl,Nat.zero_le _,fun b o hb=>by simp at hb⟩
 refine dx { W with heap:=#[] } W f0 hgd s x ho v T hs ?_ vx ys hx hvx (T++ys) rfl N hN hn fun g c w' h1 _ h3 h4=>h g c w' h1 h3 h4
 exact hown
theorem cK {w:World} {B:Nat} {e:TypeId} {s:Nat} {v:Value} {n:Nat} {xs:List Value} (h:w.ownsRow B e s v n xs):∀c,v.ownBlock=some c→B≤c:=fun c hc=>by
 rcases h.2 with⟨h,_⟩ | ⟨g,cap,cur,h,hb,_⟩
 ·rw[h] at hc;cases hc
 ·rw[h] at hc;cases hc;exact hb
namespace Nd
theorem x_ (n:Nd) (m:Ms):(n.toAll m).length≤n.conf.length:=by
 unfold toAll others;rw[List.length_map];exact List.length_filter_le _ _
theorem Hy (n:Nd):n.askT.2.length≤n.conf.length:=by
 unfold askT;split
 ·dsimp only;split
  ·exact m3D
  ·exact x_ _ _
 ·exact m3D
theorem askF_len (n:Nd):n.askF.2.length≤n.conf.length:=by
 unfold askF;split
 ·dsimp only;split
  ·exact Hy _
  ·exact x_ _ _
 ·exact m3D
theorem onAsk_len (n:Nd) (m:Ms):(n.onAsk m).2.length≤1:=by
 unfold onAsk;split
 ·exact mU2
 ·exact m3D
theorem onAnswer_len (n:Nd) (m:Ms):(n.onAnswer m).2.length≤n.conf.length:=by
 unfold onAnswer;split
 ·dsimp only
  have h1:(if n.tm<m.tm∧(m.ok=false∨m.kind=2) then n.follow m.tm (-1) else n).conf=n.conf:=by
   split
   ·exact(follow_up n _ _).conf
   ·rfl
  generalize (if n.tm<m.tm∧(m.ok=false∨m.kind=2) then n.follow m.tm (-1) else n)=n1 at h1;split
  ·split
   ·unfold chosen;split
    ·rw[←h1];exact Hy _
    ·exact m3D
   ·exact m3D
  ·exact m3D
 ·exact m3D
theorem onAppend_len (n:Nd) (m:Ms):(n.onAppend m).2.length≤1:=by
 unfold onAppend;split
 ·exact m3D
 ·split
  ·exact mU2
  ·unfold taken;split <;> exact Nat.le_refl _
theorem pQ (n:Nd) (x:Int):(n.sendTo x).length≤1:=by
 unfold sendTo;split
 ·exact m3D
 ·exact mU2
theorem onAcked_len (n:Nd) (m:Ms):(n.onAcked m).2.length≤1:=by
 unfold onAcked;split
 ·exact m3D
 ·split
  ·exact m3D
  ·split
   ·exact m3D
   ·split
    ·exact m3D
    ·exact pQ _ _
theorem beat_len (n:Nd):n.beat.length≤n.conf.length:=by
 have h:∀l:List Int,(l.flatMap n.sendTo).length≤l.length:=fun l=>by
  induction l with
  | nil=>exact Nat.le_refl _
  | cons x l ih=>
   rw[List.flatMap_cons,List.length_append,List.length_cons];have:=pQ n x;omega
 exact Nat.le_trans (h _) (List.length_filter_le _ _)
end Nd
section
variable {X P:Nat→Prop} {w w':World} {b:Nat} {n n':Nd} {q q':NV}
structure Acc [Old] (X P:Nat→Prop) (w W:World) (b:Nat) (n:Nd) (ms:List Ms) (X' P':Nat→Prop) (q:NV) (v:Value) (mvs:List MV):Prop where
 pn:PNs X' P' W b n q
 af:Aft X P X' P' w W
 ow:OwnMs X' w.heap.size W v mvs
 eq:mvs.map MV.ms=ms
theorem Acc.first [Old] [bj] {r:Nd×List Ms} {e:Ending} {w1:World} (f:FT w w1) (h:jq X P w1 b r e w'):∃X' P' q' v mvs,e=.returned v∧Acc X P w w' b r.1 r.2 X' P' q' v mvs:=by
 obtain⟨X',P',q',v,mvs,h1,h2,h3,h4,h5⟩:=h;exact⟨X',P',q',v,mvs,h1,h2,.lead f h3,h4.lo f.size,h5⟩
theorem Acc.call [Old] [bj] {W W2:World} {ms:List Ms} {X1 P1:Nat→Prop} {q1:NV} {v1:Value} {mvs:List MV} {n1:Nd} (h:Acc X P w W b n1 ms X1 P1 q1 v1 mvs) {r:Nd×List Ms} {e:Ending} (k:jq X1 P1 W b r e W2):
 ∃X2 P2 q2 v2 mv2,e=.returned v2∧PNs X2 P2 W2 b r.1 q2∧Aft X1 P1 X2 P2 W W2∧Aft X P X2 P2 w W2∧OwnMs X2 w.heap.size W2 v1 mvs∧OwnMs X2 W.heap.size W2 v2 mv2∧mv2.map MV.ms=r.2:=by
 obtain⟨X2,P2,q2,v2,mv2,h1,h2,h3,h4,h5⟩:=k;exact⟨X2,P2,q2,v2,mv2,h1,h2,h3,h.af.trans h3,h.ow.aft h3,h4,h5⟩
theorem Acc.app [Old] [bj] {W2 W3:World} {X2 P2:Nat→Prop} {q2:NV} {v1 v2 v3:Value} {mvs mv2:List MV} {ms1 ms2:List Ms} {n2:Nd} {B2:Nat} (h2:PNs X2 P2 W2 b n2 q2) (af:Aft X P X2 P2 w W2) (o1:OwnMs X2 w.heap.size W2 v1 mvs) (o2:OwnMs X2 B2 W2 v2 mv2) (e1:mvs.map MV.ms=ms1) (e2:mv2.map MV.ms=ms2)
 (hr:W3.ownsRow 0 32 10 v3 (mvs++mv2).length ((mvs++mv2).flatMap encM)) (hf:Fr (fun c _=>v1.ownBlock≠some c) W2 W3) (hn:OwnNext W2 v1 v3):Acc X P w W3 b n2 (ms1++ms2) X2 P2 q2 v3 (mvs++mv2):=by
 have hb:=cK o1.row;have hs:w.heap.size≤W2.heap.size:=af.fr.size;refine⟨h2.mrow o1.row o1.off hf,af.mrow o1.row (fun c e=>⟨hb c e,o1.off c e⟩) hf,o1.app o2.at' h2.hx (c_ hr fun c e=>?_) hf hn,by rw[List.map_append,e1,e2]⟩;rcases hn with q | ⟨k,q,hk⟩
 ·rw[q] at e;exact hb c e
 ·rw[q] at e;cases e;omega
end
theorem k6e {p q:Prop} (k:q) (h:q→p:=by
 have y0:w.cell? ⟨rb,0,none⟩=some (.pointer (some ⟨b,0,none⟩)):=bQ hr rfl;intro kk0;revert y0;exact kk0):p:=h k
theorem kSm {p q:Prop} (k:q) (h:q→p:=by
 obtain⟨kb,hkb⟩:=zE mv2.length;obtain⟨k4,hN⟩:=zE (k2+kb);have HN:Hid ((mvs++mv2).length=k4):=by show _=_;rw[List.length_append,K2.out,hkb,hN]
 have hn:k4≤1000000:=by omega
 have HH:=zH (And.intro o3 (And.intro e4 f3));intro kk0;revert HH;revert hn;revert HN;revert hN;revert k4;revert hkb;revert kb;exact kk0):p:=h k
theorem mAU {p:Prop} (h:p:=by
 rcases hn with q | ⟨k,q,hk⟩
 ·rw[q] at e;exact o1.off c e hx
 ·rw[q] at e;cases e;have:=h2.hx c hx;omega):p:=h
theorem mU6 {p:Prop} (h:p:=by
 by_cases e1:ro2=3
 ·by_cases e2:ro=3
  ·by_cases e3:tm2=tm
   ·right;right;right;exact⟨e1,by simp [e2],by simp [e3],if_neg (by rintro⟨_,e | e⟩;exact e e2;exact e e3)⟩
   ·right;right;left;exact⟨e1,by simp [e2],by simp;omega,if_pos ⟨e1,.inr e3⟩⟩
  ·right;left;exact⟨e1,by simpa using e2,if_pos ⟨e1,.inl e2⟩⟩
 ·left;exact⟨by simpa using e1,if_neg (fun e=>e1 e.1)⟩):p:=h
theorem mZj {p:Prop} (h:p:=by
 rcases List.mem_append.1 hm with h | h
 ·exact kp (o1.at' m h)
 ·exact kp (o2.at' m h)):p:=h
theorem mp8 {p:Prop} (h:p:=by
 clear EQ;go_wp2_with (refine wpList_max4 _ rfl _ _ _ _ rfl t3 t4 t5 t6 mx rfl rfl rfl rfl MX.out ?_)
 exact mGS):p:=h
theorem mys {p:Prop} (h:p:=by
 obtain⟨cur,h0⟩:=cZ o1.row e;rw[ho] at h0;cases h0;exact hr.ne (fun k=>by have:=hod c k;have:=hb c e;omega) rfl (by decide)):p:=h
theorem wpList_max4 {ops:Array Oper} {rest:List Oper} {o:Oper} {a:Act} {Q:Exit→Act→World→Prop} (W:World) (hgd:o.guard=none) (s1 s2 s3 s4:Operand) {ts:Array TypeId}
 (ho:o.op=.call { callee:=.builtin .max,args:=#[s1,s2,s3,s4],argTypes:=ts }) (x y z u m:Nat) (h1:a.eval s1=.int .u64 (x:Nat)) (h2:a.eval s2=.int .u64 (y:Nat)) (h3:a.eval s3=.int .u64 (z:Nat)) (h4:a.eval s4=.int .u64 (u:Nat)) (hm:max (max (max x y) z) u=m)
 (h:wpList Tryz.prog ops Q rest (a.put o.dst (.int .u64 (m:Nat))) W):wpList Tryz.prog ops Q (o :: rest) a W:=by
 refine wpList_plain hgd fun _ hK=>?_
 have e:∀t,(Builtin.max_ ts t #[.int .u64 (x:Nat),.int .u64 (y:Nat),.int .u64 (z:Nat),.int .u64 (u:Nat)]).run Tryz.prog W=.ok (.int .u64 (m:Nat)) W:=fun t=>by
  subst hm;simp [Builtin.max_,Builtin.max2]
  (repeat' split) <;> omega
 unfold Oper.wp execOp;simp only[ho,resolve,invoke,builtin,Sem.run_bind,Sem.run_pure,Result.andThen_ok,List.map_toArray,List.map_cons,List.map_nil,h1,h2,h3,h4,e];exact hK _ _ h
def RB (W:World) (rb b ap:Nat):Prop:=W.heap[rb]? = some (.cells #[.pointer (some ⟨b,0,none⟩),.int .u64 (ap:Nat)] 97 (0,0))
theorem RB.fr {K:Nat→Obj→Prop} {W W':World} {rb b ap:Nat} (h:RB W rb b ap) (f:Fr K W W') (hk:∀o,K rb o):RB W' rb b ap:=f.keep _ _ h (hk _)
section
variable {X P X' P':Nat→Prop} {w w':World} {b rb ap:Nat} {n n':Nd} {q q':NV}
theorem PNs.frO [Old] (h:PNs X P w b n q) {K:Nat→Obj→Prop} (hf:Fr K w w') (hk:∀c o,w.heap[c]? = some o→P c∨RO X c o→K c o):PNs X P w' b n q:=by
 refine kBd ?_;intro a16 cf2;have ev2:EsAt X w' q.ve q.es:=⟨h.ev.row.fr hf fun c o ho hr=>hk c o ho (.inr hr),h.ev.nz,fun x hx=>⟨(h.ev.dat x hx).1.fr3 hf fun c o ho hr=>hk c o ho (.inr hr),(h.ev.dat x hx).2⟩⟩
 exact⟨hf.keep _ _ h.top (hk _ _ h.top (.inl h.pb)),cf2,bK h.ye hf fun c o e ho=>hk c o ho (.inl (h.yp c e)),h.yp,ev2,h.ee,a16 h.nx h.pn,a16 h.mt h.pm,h.nm,h.pb,h.pn,h.pm,h.px,fun c hc=>Nat.lt_of_lt_of_le (h.hx c hc) hf.size,h.od⟩
theorem jq.app [Old] {W2 W3:World} {X2 P2:Nat→Prop} {q2:NV} {v1 v2 v3:Value} {mvs mv2:List MV} {ms1 ms2:List Ms} {n2:Nd} {B2:Nat} (h2:PNs X2 P2 W2 b n2 q2) (af:Aft X P X2 P2 w W2) (o1:OwnMs X2 w.heap.size W2 v1 mvs) (o2:OwnMs X2 B2 W2 v2 mv2) (e1:mvs.map MV.ms=ms1) (e2:mv2.map MV.ms=ms2)
 (hod:∀c,Old.o c→c<w.heap.size) (hr:W3.ownsRow 0 32 10 v3 (mvs++mv2).length ((mvs++mv2).flatMap encM)) (hf:Fr (fun c _=>v1.ownBlock≠some c) W2 W3) (hn:OwnNext W2 v1 v3):jq X P w b (n2,ms1++ms2) (.returned v3) W3:=by
 have hb:∀c,v1.ownBlock=some c→w.heap.size≤c:=fun c hc=>by
  rcases o1.row.2 with⟨q,_⟩ | ⟨g,cap,cur,e,hg,_⟩
  ·rw[q] at hc;cases hc
  ·rw[e] at hc;cases hc;exact hg
 have hs:w.heap.size≤W2.heap.size:=af.fr.size
 have no:∀{c o},v1.ownBlock=some c→W2.heap[c]? = some o→RO X2 c o→False:=fun {c o} e ho hr=>by exact mys
 have kp:∀{m:MV},MsAt X2 W2 m→MsAt X2 W3 m:=fun hm=>hm.keep hf fun c o ho hr e=>no e ho hr
 have pw:∀{c o},w.heap[c]? = some o→¬P c→v1.ownBlock≠some c:=fun ho _ e=>by have:=hb _ e;have:=bX ho;omega
 refine⟨X2,P2,q2,v3,mvs++mv2,rfl,h2.frO hf fun c o ho hc e=>?_,⟨⟨hf.os.trans af.fr.os,hf.tape.trans af.fr.tape,hf.output.trans af.fr.output,Nat.le_trans af.fr.size hf.size,fun c o ho hp=>hf.keep c o (af.fr.keep c o ho hp) (pw ho hp)⟩,af.xx,af.pp,af.nw,af.hp⟩,⟨c_ hr fun c e=>?_,fun c e hx=>?_,fun m hm=>?_⟩,by rw[List.map_append,e1,e2]⟩
 ·rcases hc with hc | hc
  ·exact o1.off c e (h2.px c hc)
  ·exact no e ho hc
 ·rcases hn with q | ⟨k,q,hk⟩
  ·rw[q] at e;exact hb c e
  ·rw[q] at e;cases e;omega
 ·exact mAU
 ·exact mZj
theorem vz [Old] (h:PNs X P w b n q) (hr:RB w rb b ap) (m:MV) (hm:MsAt X w m) (hel:m.es.length≤9223372036854775807) (hdl:m.d.length≤9223372036854775807):
 Calls Tryz.prog 84 #[.pointer (some ⟨rb,0,none⟩),.agg (cM m)] w fun e w'=>e=.returned (.int .i64 (n.right m.ms))∧Fr (fun _ _=>True) w w':=by
 obtain⟨W1,hW1,F1,X1⟩:=xv w m;have CK:=zH (xy W1 m (hm.tt F1.out) hel hdl);obtain⟨c,hc⟩:=zE (tz m.ms);rw[hc] at CK;obtain⟨kd,hkd⟩:=zE m.kind;obtain⟨s,hs⟩:=zE m.src;obtain⟨d,hd⟩:=zE m.dst;obtain⟨t3,ht3⟩:=zE m.tm;obtain⟨t4,ht4⟩:=zE m.index;obtain⟨t5,ht5⟩:=zE m.prev;obtain⟨t6,ht6⟩:=zE m.commit;obtain⟨me,hme⟩:=zE n.me;obtain⟨r,hrr⟩:=zE (n.right m.ms)
 have EQ:Hid (r=if c≠0 then c else if d≠me∨s=me then 31 else if 6<kd then 30 else if 1152921504606846976≤max (max (max t3 t4) t5) t6 then 1 else 0):=by exact mjc
 rw[hrr]
 have CC:Hid (∀W,Fr (fun _ _=>True) W1 W→W.cell? ⟨rb,0,none⟩=some (.pointer (some ⟨b,0,none⟩))∧W.cell? ⟨b,0,none⟩=some (.int .i64 me)∧W.cell? ⟨w.heap.size,0,none⟩=some (.int .i64 kd)∧W.cell? ⟨w.heap.size,1,none⟩=some (.int .i64 s)∧W.cell? ⟨w.heap.size,2,none⟩=some (.int .i64 d)∧W.cell? ⟨w.heap.size,3,none⟩=some (.int .u64 (t3:Nat))∧W.cell? ⟨w.heap.size,4,none⟩=some (.int .u64 (t4:Nat))∧W.cell? ⟨w.heap.size,5,none⟩=some (.int .u64 (t5:Nat))∧W.cell? ⟨w.heap.size,6,none⟩=some (.int .u64 (t6:Nat))):=fun W f=>by exact mbl
 obtain⟨v0,v1,v2,v3,v4,v5,v6,v7,v8,v9⟩:=bq X1.out;dsimp only[cM] at CK;unfold cM at hW1 ⊢;clear h hr hm hel hdl hc hkd hs hd ht3 ht4 ht5 ht6 hme hrr;go_enter Tryz.func84,Tryz.ntmps84
 go_wp2_with fail
 try rw[hW1]
 clear hW1;(with_reducible refine CK.out.mono ?_);rintro e w2 ⟨rfl,f2⟩;have F2:=zH f2;clear f2 CK v0 v1 v2 v3 v4 v5 v6 v7 v8 v9;by_cases hc0:c=0
 case neg=>exact mTS
 case pos=>
  subst hc0;replace EQ:Hid (r=if d≠me∨s=me then 31 else if 6<kd then 30 else if 1152921504606846976≤max (max (max t3 t4) t5) t6 then 1 else 0):=EQ.out.trans (if_neg (fun e=>e rfl));obtain⟨y0,y1,v0,v1,v2,v3,v4,v5,v6⟩:=CC.out w2 F2.out
  have C:Hid ((d != me)=true∨(d != me)=false∧(s==me)=true∨(d != me)=false∧(s==me)=false):=by show _∨_;by_cases e1:d=me <;> by_cases e2:s=me <;> simp [e1,e2]
  have BAD:Hid (((d != me)=true∨(s==me)=true)→r=31):=fun e=>EQ.out.trans (if_pos (by simpa using e))
  have GOOD:Hid ((d != me)=false→(s==me)=false→r=if 6<kd then 30 else if 1152921504606846976≤max (max (max t3 t4) t5) t6 then 1 else 0):=fun e1 e2=>EQ.out.trans (if_neg (by exact mkq))
  clear EQ;rcases C.out with c1 | ⟨c1,c2⟩ | ⟨c1,c2⟩
  ·have OUT:=zH (BAD.out (.inl c1));exact m53
  ·have OUT:=zH (BAD.out (.inr c2));exact m53
  ·have EQ:=zH (GOOD.out c1 c2);clear C BAD GOOD v3 v4 v5 v6;go_wp2_with fail
   go_quiet (fail)
   have U:Hid (Fr (fun _ _=>True) w2 (w2.drewN nq)):=(Fr.refl _ w2).drewN nq;generalize w2.drewN nq=w3 at U ⊢;clear y0 y1 v0 v1 v2;obtain⟨-,-,v0,-,-,v3,v4,v5,v6⟩:=CC.out w3 (F2.out.trans U.out);clear CC;by_cases hk:6<kd
   ·have OUT:Hid (r=30):=EQ.out.trans (if_pos hk);clear EQ;exact mGS
   ·obtain⟨mx,hmx⟩:=zE (max (max (max t3 t4) t5) t6);replace EQ:Hid (r=if 1152921504606846976≤mx then 1 else 0):=hmx▸EQ.out.trans (if_neg hk);have MX:=zH hmx;clear hmx;by_cases hm:1152921504606846976≤mx
    ·have OUT:Hid (r=1):=EQ.out.trans (if_pos hm);have hmI:(1152921504606846976:Int)≤(mx:Int):=by omega
     exact mp8
    ·have OUT:Hid (r=0):=EQ.out.trans (if_neg hm);have hmI:¬(1152921504606846976:Int)≤(mx:Int):=by omega
     exact mp8
theorem kW [Old] (h:PNs X P w b n q) (hr:RB w rb b ap) (hc:0<n.conf.length∧n.conf.length≤1000) (hnx:∀y∈n.next,y<18446744073709551616) (hl:n.log.last+1<18446744073709551616) (hle:n.log.es.length≤900000):
 Calls Tryz.prog 35 #[.pointer (some ⟨rb,0,none⟩)] w fun e w'=>jj X w n.beat e w':=by
 have BC:=zH (Lk h hc hnx hl hle);refine k6e ?_;intro y0;clear h hr hc hnx hl hle;go_enter Tryz.func35,Tryz.ntmps35
 go_wp2_with fail
 (with_reducible refine BC.out.mono ?_);rintro e w2 ⟨⟨v,mvs,rfl,o2,e2⟩,f2⟩;have HH:=zH (And.intro o2 (And.intro e2 f2));clear o2 e2 f2 BC;go_wp2;go_ret;exact⟨⟨_,mvs,rfl,HH.1,HH.2.1⟩,HH.2.2⟩
theorem zY [Old] (h:PNs X P w b n q) (hr:RB w rb b ap) (hrx:¬P rb) (fn:Nat) (lb:Array Value) (eg:∀args w,(callFunc fn args).run Tryz.prog w=.ok (.enter fn args) w) (r:Nd×List Ms)
 (hdo:∀W,Fr (fun _ _=>True) w W→Calls Tryz.prog fn lb W fun e w'=>jq X P W b r e w') (hod:∀c,Old.o c→c<w.heap.size) (hlen:r.2.length≤900000)
 (hc:0<r.1.conf.length∧r.1.conf.length≤1000) (hnx:∀y∈r.1.next,y<18446744073709551616) (hl:r.1.log.last+1<18446744073709551616) (hle:r.1.log.es.length≤900000):
 Calls Tryz.prog 81 #[.pointer (some ⟨rb,0,none⟩),.func (.func fn) #[] lb] w fun e w'=>jq X P w b (n.led r) e w':=by
 obtain⟨ro,hro⟩:=zE n.role;obtain⟨tm,htm⟩:=zE n.tm;obtain⟨ro2,hro2⟩:=zE r.1.role;obtain⟨tm2,htm2⟩:=zE r.1.tm;obtain⟨res,hres⟩:=zE (n.led r)
 have EQ:Hid (res=if ro2=3∧(ro≠3∨tm2≠tm) then(r.1,r.2++r.1.beat) else r):=by show res=_;rw[←hres,←hro,←htm,←hro2,←htm2];rfl
 rw[hres];refine k6e ?_;intro y0;obtain⟨-,-,x2,-,-,-,x6,-,-,-,-,-,-,-⟩:=h.cells (Fr.refl _ w);rw[hro] at x2;rw[htm] at x6;have H:=zH h;have HR:=zH hr;have HX:=zH hrx;have HDO:=zH hdo;have OD:=zH hod;have RB2:=zH (And.intro hro2 htm2);have BD:=zH (And.intro hlen (And.intro hc (And.intro hnx (And.intro hl hle))))
 have C3:Hid ((ro2==3)=false∧res=r∨ro2=3∧(ro != 3)=true∧res=(r.1,r.2++r.1.beat)∨ro2=3∧(ro != 3)=false∧((tm2:Int) != (tm:Int))=true∧res=(r.1,r.2++r.1.beat)∨ro2=3∧(ro != 3)=false∧((tm2:Int) != (tm:Int))=false∧res=r):=by show _∨_;rw[EQ.out];exact mU6
 clear h hr hrx hdo hod hro htm hro2 htm2 hres hlen hc hnx hl hle EQ;go_enter Tryz.func81,Tryz.ntmps81
 go_wp2_with fail
 go_quiet (fail)
 have U:Hid (Fr (fun _ _=>True) w (w.drewN nq)):=(Fr.refl _ w).drewN nq;generalize w.drewN nq=w1 at U ⊢;clear y0 x2 x6;have DC:=zH (HDO.out w1 U.out);go_wp2_with fail
 (with_reducible refine DC.out.mono ?_);rintro e w2 ⟨X2,P2,q2,v,mvs,rfl,h2,a2,o2,e2⟩;have A2:=zH (Aft.lead U.out a2);have H2:=zH h2;have O2:=zH (o2.lo U.out.size);have E2:=zH e2;have R2:Hid (RB w2 rb b ap):=A2.out.fr.keep _ _ HR.out HX.out;have y0:w2.cell? ⟨rb,0,none⟩=some (.pointer (some ⟨b,0,none⟩)):=bQ R2.out rfl;obtain⟨-,-,x2,-,-,-,x6,-,-,-,-,-,-,-⟩:=h2.cells (Fr.refl _ w2);rw[RB2.out.1] at x2;rw[RB2.out.2] at x6;obtain⟨ga,ca,hva⟩:=bz o2.row;subst hva;obtain⟨k2,hk2⟩:=zE mvs.length;have lm2:k2≤900000:=by have:=BD.out.1;rw[←e2,List.length_map] at this;omega
 have K2:=zH hk2;have BC:=zH (fun W (f:Fr (fun _ _=>True) w2 W)=>kW (H2.out.tt f) (R2.out.fr f fun _=>trivial) BD.out.2.1 BD.out.2.2.1 BD.out.2.2.2.1 BD.out.2.2.2.2);rw[hk2] at O2 ⊢;clear DC HDO h2 a2 o2 e2 hk2;rcases C3.out with⟨c1,e3⟩ | ⟨c1,c2,e3⟩ | ⟨c1,c2,c3,e3⟩ | ⟨c1,c2,c3,e3⟩
 case' inr.inl | inr.inr.inl=>
  subst c1;have E3:=zH e3;clear e3 C3;have BC2:=zH (BC.out w2 (Fr.refl _ _));go_wp2_with fail
  (with_reducible refine BC2.out.mono ?_);rintro e w3 ⟨⟨v3,mv2,rfl,o3,e4⟩,f3⟩;obtain⟨gb,cb,hvb⟩:=bz o3.row;subst hvb;have OW:Hid (w3.ownsRow 0 32 10 (.slice ga k2 ca) mvs.length (mvs.flatMap encM)):=c_ (O2.out.tt f3).row (fun _ _=>Nat.zero_le _);have RW:=zH o3.rows;have lb:mv2.length≤20000:=by rw[←List.length_map (f:=MV.ms),e4];exact Nat.le_trans (Nd.beat_len _) (by have:=BD.out.2.1.2;omega)
  refine kSm ?_;intro kb hkb k4 hN HN hn HH;rw[hkb] at RW ⊢;clear BC BC2 y0 x2 x6 o3 e4 f3 hkb hN lb lm2;go_wp2_with (at_builtin;refine dX w3 rfl _ _ rfl (.slice ga k2 ca) mvs rfl OW (.slice gb kb cb) mv2 rfl RW k4 HN hn ?_)
  intro g4 c4 W4 O5 F5 N5
  have OUT:Hid (jq X P w b (r.1,r.2++r.1.beat) (.returned (.slice g4 k4 c4)) W4):=
   jq.app (H2.out.tt HH.out.2.2) (A2.out.tr HH.out.2.2) (O2.out.tt HH.out.2.2) HH.out.1 E2.out HH.out.2.1 OD.out (by rw[HN.out,List.flatMap_append];exact O5.out) F5.out N5.out
  clear O5 F5 N5 OW RW;go_wp2;go_ret;rw[E3.out];exact OUT.out
 case' inl | inr.inr.inr=>
  try (subst c1)
  have E3:=zH e3;clear e3 C3 BC;go_wp2;go_ret;rw[E3.out];exact⟨X2,P2,q2,_,mvs,rfl,H2.out,A2.out,O2.out,E2.out⟩
end
theorem mCL {p:Prop} (h:p:=by
 iterate 5
  refine bY.q rfl rfl rfl (kQQ ?_) ?_
  ·intro xs W HF K' hK;obtain⟨y0,y1,v0,v1,v2,v3,v4,v5,v6,v7,v8,v9⟩:=CC W ((Fr.refl _ w).drew.trans HF);exact mD8
 exact m36):p:=h
theorem mWh {p:Prop} (h:p:=by
 refine wpN 5 rfl fun K' hK=>?_
 skip
 go_simp;(with_reducible refine C.out.mono ?_);rintro e w2 ⟨X2,P2,q2,v,mvs,rfl,h2,a2,o2,e2⟩;have HH:=zH (And.intro h2 (And.intro a2 (And.intro o2 e2)));clear h2 a2 o2 e2 C;refine hK _ _ ?_;clear hK K';refine wpN 6 rfl fun K' hK=>?_
 skip
 go_simp;refine hK _ _ ?_;clear hK K';refine wpF ?_;go_wp2;go_ret;rw[OUT.out];exact⟨X2,P2,q2,_,mvs,rfl,HH.1,.lead FW HH.2.1,HH.2.2.1.lo FW.size,HH.2.2.2⟩):p:=h
section
variable {X P X' P':Nat→Prop} {w w':World} {b rb ap:Nat} {n n':Nd} {q q':NV}
structure Gn (n:Nd) (m:Ms):Prop where
 cf:0<n.conf.length∧n.conf.length≤12
 pos:∀x∈n.conf,0≤x
 me:∃mN:Nat,n.me=(mN:Nat)∧mN<16
 ye:n.yes.length≤100000
 es:n.log.es.length≤100000
 bn:Bn 4611686018427387904 n
 bm:Bm 4611686018427387904 m
 le:m.es.length≤100000
theorem step_fn [Old] (h:PNs X P w b n q) (m:MV) (hm:MsAt X w m) (gm gr:Nat) (hr:RB w rb b ap) (hgm:w.heap[gm]? = some (.cells (cM m) 32 (0,0))) (hgr:w.heap[gr]? = some (.cells #[.pointer (some ⟨rb,0,none⟩)] 73 (0,0))) (hk:1≤m.kind∧m.kind≤6) (hg:Gn n m.ms):
 Calls Tryz.prog 85 #[.pointer (some ⟨gm,0,none⟩),.pointer (some ⟨gr,0,none⟩)] w fun e w'=>jq X P w b (n.does m.ms) e w':=by
 obtain⟨mN,hme,hm16⟩:=hg.me;have hb:=hg.bn;have b1:=hb.tm;have b2:=hb.last;have m1:m.tm≤_:=hg.bm.tm;have m2:m.index+m.ms.es.length≤_:=hg.bm.index;rw[m.esl] at m2;have m3:m.es.length≤100000:=by rw[←m.esl];exact hg.le
 have m4:m.kind=6→m.prev≤_:=hg.bm.prev;obtain⟨k,hkk⟩:=zE m.kind
 have CC:Hid (∀W,FT w W→W.cell? ⟨gr,0,none⟩=some (.pointer (some ⟨rb,0,none⟩))∧W.cell? ⟨rb,0,none⟩=some (.pointer (some ⟨b,0,none⟩))∧W.cell? ⟨gm,0,none⟩=some (.int .i64 k)∧W.cell? ⟨gm,1,none⟩=some (.int .i64 m.src)∧W.cell? ⟨gm,2,none⟩=some (.int .i64 m.dst)∧W.cell? ⟨gm,3,none⟩=some (.int .u64 (m.tm:Nat))∧W.cell? ⟨gm,4,none⟩=some (.int .u64 (m.index:Nat))∧W.cell? ⟨gm,5,none⟩=some (.int .u64 (m.prev:Nat))∧W.cell? ⟨gm,6,none⟩=some (.int .u64 (m.commit:Nat))∧W.cell? ⟨gm,7,none⟩=some (.bool m.ok)∧W.cell? ⟨gm,8,none⟩=some (.slice m.da m.d.length m.dc)∧W.cell? ⟨gm,9,none⟩=some (.slice m.ea m.es.length m.ec)):=fun W f=>
  ⟨bQ (f.keep _ _ hgr trivial) rfl,bQ (f.keep _ _ hr trivial) rfl,by rw[←hkk];exact(bq (f.keep _ _ hgm trivial)).1,(bq (f.keep _ _ hgm trivial)).2⟩
 have C1:=zH (fun W (f:FT w W)=>DJ (h.tt f) m (by omega) (by have:=hg.es;omega));have C2:=zH (fun W (f:FT w W)=>rX (h.tt f) m ⟨hg.cf.1,by have:=hg.cf.2;omega⟩ (by have:=hg.ye;omega) mN hme hm16 (by omega) (by omega) (by omega) (by have:=hg.es;omega));have C3:=zH (fun W (f:FT w W)=>rZ (h.tt f) m (hm.tt f) (by omega) (by omega) (by omega) (by have:=hg.es;omega));have C4:=zH (fun W (f:FT w W)=>vw (h.tt f) m hg.cf hg.pos (fun y hy=>by have:=hb.nx y hy;omega) (fun y hy=>by have:=hb.mt y hy;omega) (by omega) (fun e=>by have:=m4 e;omega) (by omega) (by have:=hg.es;omega));obtain⟨r,hrr⟩:=zE (n.does m.ms)
 have EQ:Hid (r=if k=1∨k=3 then n.onAsk m.ms else if k=2∨k=4 then n.onAnswer m.ms else if k=5 then n.onAppend m.ms else n.onAcked m.ms):=by show r=_;rw[←hrr,←hkk];rfl
 rw[hrr];rw[hkk] at hk;obtain⟨-,-,v0,-⟩:=CC w (Fr.refl _ _);dsimp only[cM] at C1 C2 C3 C4;rw[hkk] at C1 C2 C3 C4;clear h hm hr hgm hgr hg hb b1 b2 m1 m2 m3 m4 hme hm16 hkk hrr;have K:k=1∨k=3∨k=2∨k=4∨k=5∨k=6:=by omega
 clear hk;rcases K with e | e | e | e | e | e
 all_goals
  first
  | (have g1:(k==1)=true:=by rw[e];rfl)
  | (have g1:(k==1)=false:=by rw[e];rfl)
  first
  | (have g3:(k==3)=true:=by rw[e];rfl)
  | (have g3:(k==3)=false:=by rw[e];rfl)
  first
  | (have g2:(k==2)=true:=by rw[e];rfl)
  | (have g2:(k==2)=false:=by rw[e];rfl)
  first
  | (have g4:(k==4)=true:=by rw[e];rfl)
  | (have g4:(k==4)=false:=by rw[e];rfl)
  first
  | (have g5:(k==5)=true:=by rw[e];rfl)
  | (have g5:(k==5)=false:=by rw[e];rfl)
 all_goals
  have HE:=zH e;clear e
 case' inl | inr.inl=>
  have OUT:Hid (r=n.onAsk m.ms):=EQ.out.trans (if_pos (by have:=HE.out;omega));clear EQ C2 C3 C4;go_enter Tryz.func85,Tryz.ntmps85
  go_wp2_with fail
  refine wpR [(8,0),(9,1),(10,2),(11,3),(12,4),(13,5),(2,6)] [(0,[]),(1,[0]),(2,[1]),(3,[2]),(4,[])] (ckR [(0,.pointer (some ⟨rb,0,none⟩)),(1,.pointer (some ⟨rb,0,none⟩)),(2,.pointer (some ⟨rb,0,none⟩)),(3,.pointer (some ⟨b,0,none⟩)),(4,.agg #[.int .i64 k,.int .i64 m.src,.int .i64 m.dst,.int .u64 (m.tm:Nat),.int .u64 (m.index:Nat),.int .u64 (m.prev:Nat),.int .u64 (m.commit:Nat),.bool m.ok,.slice m.da m.d.length m.dc,.slice m.ea m.es.length m.ec])] [] 5 0) 2 rfl ?cfall ?cfend
  case cfall=>exact mCL
  case cfend=>refine kEE ?_;intro xs W HF;have FW:Hid (FT w W):=(Fr.refl _ w).drew.trans HF;have C:=zH (C1 W FW);exact mWh
 case' inr.inr.inl | inr.inr.inr.inl=>
  have OUT:Hid (r=n.onAnswer m.ms):=EQ.out.trans ((if_neg (by have:=HE.out;omega)).trans (if_pos (by have:=HE.out;omega)));clear EQ C1 C3 C4;go_enter Tryz.func85,Tryz.ntmps85
  go_wp2_with fail
  refine wpR [(17,0),(18,1),(19,2),(20,3),(21,4),(22,5),(2,6)] [(0,[]),(1,[0]),(2,[1]),(3,[2]),(4,[])] (ckR [(0,.pointer (some ⟨rb,0,none⟩)),(1,.pointer (some ⟨rb,0,none⟩)),(2,.pointer (some ⟨rb,0,none⟩)),(3,.pointer (some ⟨b,0,none⟩)),(4,.agg #[.int .i64 k,.int .i64 m.src,.int .i64 m.dst,.int .u64 (m.tm:Nat),.int .u64 (m.index:Nat),.int .u64 (m.prev:Nat),.int .u64 (m.commit:Nat),.bool m.ok,.slice m.da m.d.length m.dc,.slice m.ea m.es.length m.ec])] [] 5 0) 2 rfl ?cfall ?cfend
  case cfall=>exact mCL
  case cfend=>refine kEE ?_;intro xs W HF;have FW:Hid (FT w W):=(Fr.refl _ w).drew.trans HF;have C:=zH (C2 W FW);exact mWh
 ·have OUT:Hid (r=n.onAppend m.ms):=EQ.out.trans ((if_neg (by have:=HE.out;omega)).trans ((if_neg (by have:=HE.out;omega)).trans (if_pos HE.out)));clear EQ C1 C2 C4;go_enter Tryz.func85,Tryz.ntmps85
  go_wp2_with fail
  refine wpR [(25,0),(26,1),(27,2),(28,3),(29,4),(30,5),(2,6)] [(0,[]),(1,[0]),(2,[1]),(3,[2]),(4,[])] (ckR [(0,.pointer (some ⟨rb,0,none⟩)),(1,.pointer (some ⟨rb,0,none⟩)),(2,.pointer (some ⟨rb,0,none⟩)),(3,.pointer (some ⟨b,0,none⟩)),(4,.agg #[.int .i64 k,.int .i64 m.src,.int .i64 m.dst,.int .u64 (m.tm:Nat),.int .u64 (m.index:Nat),.int .u64 (m.prev:Nat),.int .u64 (m.commit:Nat),.bool m.ok,.slice m.da m.d.length m.dc,.slice m.ea m.es.length m.ec])] [] 5 0) 2 rfl ?cfall ?cfend
  case cfall=>exact mCL
  case cfend=>refine kEE ?_;intro xs W HF;have FW:Hid (FT w W):=(Fr.refl _ w).drew.trans HF;have C:=zH (C3 W FW);exact mWh
 ·have OUT:Hid (r=n.onAcked m.ms):=EQ.out.trans ((if_neg (by have:=HE.out;omega)).trans ((if_neg (by have:=HE.out;omega)).trans (if_neg (by have:=HE.out;omega))));clear EQ C1 C2 C3;go_enter Tryz.func85,Tryz.ntmps85
  go_wp2_with fail
  refine wpR [(31,0),(32,1),(33,2),(34,3),(35,4),(36,5),(2,6)] [(0,[]),(1,[0]),(2,[1]),(3,[2]),(4,[])] (ckR [(0,.pointer (some ⟨rb,0,none⟩)),(1,.pointer (some ⟨rb,0,none⟩)),(2,.pointer (some ⟨rb,0,none⟩)),(3,.pointer (some ⟨b,0,none⟩)),(4,.agg #[.int .i64 k,.int .i64 m.src,.int .i64 m.dst,.int .u64 (m.tm:Nat),.int .u64 (m.index:Nat),.int .u64 (m.prev:Nat),.int .u64 (m.commit:Nat),.bool m.ok,.slice m.da m.d.length m.dc,.slice m.ea m.es.length m.ec])] [] 5 0) 2 rfl ?cfall ?cfend
  case cfall=>exact mCL
  case cfend=>refine kEE ?_;intro xs W HF;have FW:Hid (FT w W):=(Fr.refl _ w).drew.trans HF;have C:=zH (C4 W FW);exact mWh
def SOut [Old] (X P:Nat→Prop) (w:World) (b:Nat) (r:(Nd×List Ms)×Int) (e:Ending) (w':World):Prop:=
 ∃X' P' q' v mvs,e=.returned (.tuple #[v,.int .i64 r.2])∧PNs X' P' w' b r.1.1 q'∧Aft X P X' P' w w'∧OwnMs X' w.heap.size w' v mvs∧mvs.map MV.ms=r.1.2
theorem Bn.does {n:Nd} {m:Ms} (hg:Gn n m):Bn 4611686018427387905 (n.does m).1∧(n.does m).1.log.es.length≤200001∧(n.does m).2.length≤900000∧(n.does m).1.conf=n.conf:=by
 have l1:=hg.es;have l2:=hg.le;unfold Nd.does;split
 ·refine⟨(Nd.onAsk_b hg.bn hg.bm).1.mono (by omega),?_,Nat.le_trans (Nd.onAsk_len n m) (by omega),(Nd.onAsk_up n m).conf⟩;rw[Nd.onAsk_log];omega
 ·split
  ·refine⟨(Nd.onAnswer_b hg.bn hg.bm).1,?_,Nat.le_trans (Nd.onAnswer_len n m) (by have:=hg.cf.2;omega),(Nd.onAnswer_up n m).conf⟩;have:=Nd.onAnswer_log n m;omega
  ·split
   ·refine⟨(Nd.onAppend_b hg.bn hg.bm).1.mono (by omega),?_,Nat.le_trans (Nd.onAppend_len n m) (by omega),(Nd.onAppend_up n m).conf⟩;have:=Nd.onAppend_log n m;omega
   ·refine⟨(Nd.onAcked_b hg.bn hg.bm).1,?_,Nat.le_trans (Nd.onAcked_len n m) (by omega),(Nd.onAcked_up n m).conf⟩;rw[Nd.onAcked_log];omega
theorem h_ [Old] (h:PNs X P w b n q) (hr:RB w rb b ap) (hrx:¬P rb) (m:MV) (hm:MsAt X w m) (hel:m.es.length≤9223372036854775807) (hdl:m.d.length≤9223372036854775807) (hod:∀c,Old.o c→c<w.heap.size) (hg:n.right m.ms=0→Gn n m.ms):
 Calls Tryz.prog 33 #[.pointer (some ⟨rb,0,none⟩),.agg (cM m)] w fun e w'=>SOut X P w b (n.step m.ms) e w':=by
 obtain⟨W0,hW0⟩:=zE (w.alloc (.cells #[.pointer (some ⟨rb,0,none⟩)] 73 (0,0)));have f0:FT w W0:=hW0▸(Fr.refl _ _).alloc _;have t0:W0.heap[w.heap.size]? = some (.cells #[.pointer (some ⟨rb,0,none⟩)] 73 (0,0)):=by rw[←hW0];exact bZ _ _
 obtain⟨W1,hW1,F1,X1⟩:=xv W0 m;have FW:=zH (f0.trans F1);have T1:Hid (W1.heap[w.heap.size]? = some (.cells #[.pointer (some ⟨rb,0,none⟩)] 73 (0,0))):=F1.keep _ _ t0 trivial;have RC:=zH (vz (h.tt FW) (hr.fr FW fun _=>trivial) m (hm.tt FW) hel hdl);obtain⟨c,hc⟩:=zE (n.right m.ms);rw[hc] at RC;have H:=zH h;have HR:=zH hr;have HX:=zH hrx;have HM:=zH hm;have OD:=zH hod;have HG:=zH hg;have HC:=zH hc;obtain⟨res,hres⟩:=zE (n.step m.ms)
 have EQ:Hid (res=if c≠0 then((n,[]),c) else(n.led (n.hear m.ms),0)):=by show res=_;rw[←hres,←hc];rfl
 rw[hres];have u0:=bQ (i:=0) T1 rfl;obtain⟨v0,v1,v2,v3,v4,v5,v6,v7,v8,v9⟩:=bq X1;dsimp only[cM] at RC;unfold cM at hW1 ⊢;clear h hr hrx hm hel hdl hod hg hc hres f0 t0;go_enter Tryz.func33,Tryz.ntmps33
 go_wp2_with fail
 try rw[hW0]
 try rw[hW1]
 clear hW0 hW1;(with_reducible refine RC.out.mono ?_);rintro e w2 ⟨rfl,f2⟩;have F2:=zH (FW.trans f2);have u0':=f2.cell (fun _ _=>trivial) u0;have T2:Hid (w2.heap[w.heap.size]? = some (.cells #[.pointer (some ⟨rb,0,none⟩)] 73 (0,0))):=f2.keep _ _ T1 trivial;have M2:Hid (w2.heap[W0.heap.size]? = some (.cells (cM m) 32 (0,0))):=f2.keep _ _ X1 trivial;clear f2 RC v0 v1 v2 v3 v4 v5 v6 v7 v8 v9 u0;by_cases hc0:c=0
 case neg=>
  have c1:(c != 0)=true:=by simpa using hc0
  have OUT:Hid (res=((n,[]),c)):=EQ.trans (if_pos hc0);clear EQ;go_wp2;go_ret2;rw[OUT.out];exact⟨X,P,q,_,[],rfl,H.tt F2,.tt F2 H.px,OwnMs.nil _ _ _,rfl⟩
 case pos=>
  subst hc0;have OK:=Nd.right_ok HC;have K:1≤m.kind∧m.kind≤6:=⟨(Pk OK.1).1,OK.2.2.2.1⟩
  have GN:=HG HC;have BD:=Bn.does GN;have OUT:Hid (res=(n.led (n.does m.ms),0)):=EQ.out.trans ((if_neg (fun e=>e rfl)).trans (by rw[Nd.does_hear K]))
  have LC:=zH (zY (H.tt F2) (HR.fr F2 fun _=>trivial) HX 85 #[.pointer (some ⟨W0.heap.size,0,none⟩),.pointer (some ⟨w.heap.size,0,none⟩)] (enters_of Tryz.func85 (by kernel_rfl) rfl) (n.does m.ms)
   (fun W f=>step_fn ((H.tt F2).tt f) m ((HM.tt F2).tt f) _ _ ((HR.fr F2 fun _=>trivial).fr f fun _=>trivial) (f.keep _ _ M2 trivial) (f.keep _ _ T2 trivial) K GN) (fun c hc=>Nat.lt_of_lt_of_le (OD c hc) F2.size) BD.2.2.1
   (by rw[BD.2.2.2];exact⟨GN.cf.1,by have:=GN.cf.2;omega⟩) (fun y hy=>by have:=BD.1.nx y hy;omega) (by have:=BD.1.last;omega) (by have:=BD.2.1;omega))
  clear EQ OK K GN BD;go_wp2_with fail
  (with_reducible refine LC.out.mono ?_);rintro e w3 ⟨X3,P3,q3,v,mvs,rfl,h3,a3,o3,e3⟩;have HH:=zH (And.intro h3 (And.intro a3 (And.intro o3 e3)));clear h3 a3 o3 e3 LC;go_wp2;go_ret2;rw[OUT.out];exact⟨X3,P3,q3,_,mvs,rfl,HH.1,.lead F2 HH.2.1,HH.2.2.1.lo F2.size,HH.2.2.2⟩
theorem JZ [Old] (h:PNs X P w b n q) (gr:Nat) (hr:RB w rb b ap) (hgr:w.heap[gr]? = some (.cells #[.pointer (some ⟨rb,0,none⟩)] 73 (0,0))) (hcf:0<n.conf.length∧n.conf.length≤1000) (mN:Nat) (hme:n.me=(mN:Nat)) (hm16:mN<16) (htm:n.tm+1<18446744073709551616) (hl:n.log.last+1<18446744073709551616) (hle:n.log.es.length≤900000):
 Calls Tryz.prog 82 #[.pointer (some ⟨gr,0,none⟩)] w fun e w'=>jq X P w b n.askF e w':=by
 have AC:=zH (Lw h hcf mN hme hm16 htm hl hle);have y0:w.cell? ⟨gr,0,none⟩=some (.pointer (some ⟨rb,0,none⟩)):=bQ hgr rfl;have y1:w.cell? ⟨rb,0,none⟩=some (.pointer (some ⟨b,0,none⟩)):=bQ hr rfl;clear h hr hgr hcf hme hm16 htm hl hle;go_enter Tryz.func82,Tryz.ntmps82
 go_wp2_with fail
 (with_reducible refine AC.out.mono ?_);rintro e w2 ⟨X2,P2,q2,v,mvs,rfl,h2,a2,o2,e2⟩;have HH:=zH (And.intro h2 (And.intro a2 (And.intro o2 e2)));clear h2 a2 o2 e2 AC;go_wp2;go_ret;exact⟨X2,P2,q2,_,mvs,rfl,HH.1,HH.2.1,HH.2.2.1,HH.2.2.2⟩
theorem j8 [Old] (h:PNs X P w b n q) (hr:RB w rb b ap) (hrx:¬P rb) (hod:∀c,Old.o c→c<w.heap.size) (hcf:0<n.conf.length∧n.conf.length≤12) (mN:Nat) (hme:n.me=(mN:Nat)) (hm16:mN<16) (hb:Bn 4611686018427387904 n) (hle:n.log.es.length≤100000):
 Calls Tryz.prog 31 #[.pointer (some ⟨rb,0,none⟩)] w fun e w'=>jq X P w b n.timeout e w':=by
 obtain⟨W1,hW1⟩:=zE (w.alloc (.cells #[.pointer (some ⟨rb,0,none⟩)] 73 (0,0)));refine kmo ?_;intro F1;have T1:Hid (W1.heap[w.heap.size]? = some (.cells #[.pointer (some ⟨rb,0,none⟩)] 73 (0,0))):=by show _=_;rw[←hW1];exact bZ _ _
 have H1:=zH (h.tt F1);have R1:=zH (hr.fr F1 fun _=>trivial);have b1:=hb.tm;have b2:=hb.last;have A1:=Nd.askF_b hb;have A2:=Nd.askF_log n;have A3:=Nd.askF_len n;have A4:=(Nd.askF_up n).conf
 have LC:=zH (zY H1 R1 hrx 82 #[.pointer (some ⟨w.heap.size,0,none⟩)] (enters_of Tryz.func82 (by kernel_rfl) rfl) n.askF
  (fun W f=>JZ (H1.out.tt f) _ (R1.out.fr f fun _=>trivial) (f.keep _ _ T1.out trivial) ⟨hcf.1,by omega⟩ mN hme hm16 (by omega) (by omega) (by omega)) (fun c hc=>Nat.lt_of_lt_of_le (hod c hc) F1.out.size) (by omega)
  (by rw[A4];exact⟨hcf.1,by omega⟩) (fun y hy=>by have:=A1.1.nx y hy;omega) (by have:=A1.1.last;omega) (by omega))
 obtain⟨ro,hro⟩:=zE n.role;obtain⟨hd,hhd⟩:=zE n.heard;obtain⟨r,hrr⟩:=zE n.timeout
 have EQ:Hid (r=if ro=3 then(n,[]) else if hd=true then({ n with heard:=false },[]) else n.led n.askF):=by show r=_;rw[←hrr,←hro,←hhd];rfl
 rw[hrr];have y0:=bQ (i:=0) T1 rfl;have y1:W1.cell? ⟨rb,0,none⟩=some (.pointer (some ⟨b,0,none⟩)):=bQ R1 rfl;obtain⟨-,-,x2,-,-,-,-,-,-,-,-,x11,-,-⟩:=H1.cells (Fr.refl _ W1);rw[hro] at x2;rw[hhd] at x11;clear h hr hrx hod hcf hme hm16 hb hle b1 b2 A1 A2 A3 A4 hro hhd hrr;by_cases h3:ro=3
 ·subst h3;have OUT:Hid (r=(n,[])):=EQ.trans (if_pos rfl);clear EQ LC x11;go_enter Tryz.func31,Tryz.ntmps31
  go_wp2
  try rw[hW1]
  go_ret;rw[OUT.out];exact⟨X,P,q,_,[],rfl,H1,.tt F1 H1.px,OwnMs.nil _ _ _,rfl⟩
 ·have g3:(ro==3)=false:=by simpa using h3
  replace EQ:Hid (r=if hd=true then({ n with heard:=false },[]) else n.led n.askF):=EQ.trans (if_neg h3);clear h3;cases hd with
  | true=>
   have OUT:Hid (r=({ n with heard:=false },[])):=EQ.trans (if_pos rfl);have z11:=H1.free (Fr.refl _ W1) 11;obtain⟨W2,hW2⟩:=zE (W1.setCell ⟨b,11,none⟩ (.bool false));have hs:kV W1 b [(11,.bool false)]=W2:=hW2;have f2:Fr (fun c _=>c≠b) W1 W2:=hs▸b_ b _ W1;have H2:Hid (PNs X P W2 b { n with heard:=false } q):=H1.out.re f2 (hs▸bw _ H1.out.top) ⟨rfl,rfl⟩ (.inl ⟨rfl,rfl⟩) ⟨rfl,rfl,rfl⟩ ⟨rfl,rfl,rfl,rfl⟩;have A2:=zH (Aft.lead F1 (H1.own f2));clear EQ LC f2 hs;go_enter Tryz.func31,Tryz.ntmps31
   go_wp2
   try rw[hW1]
   try rw[hW2]
   go_ret;rw[OUT.out];exact⟨X,P,q,_,[],rfl,H2,A2,OwnMs.nil _ _ _,rfl⟩
  | false=>
   have OUT:Hid (r=n.led n.askF):=EQ.trans (if_neg (by decide));clear EQ;go_enter Tryz.func31,Tryz.ntmps31
   go_wp2_with fail
   try rw[hW1]
   (with_reducible refine LC.out.mono ?_);rintro e w3 ⟨X3,P3,q3,v,mvs,rfl,h3,a3,o3,e3⟩;have HH:=zH (And.intro h3 (And.intro a3 (And.intro o3 e3)));clear h3 a3 o3 e3 LC;go_wp2;go_ret;rw[OUT.out];exact⟨X3,P3,q3,_,mvs,rfl,HH.1,.lead F1 HH.2.1,HH.2.2.1.lo F1.size,HH.2.2.2⟩
end
end Go.Proofs.YtmjccpfchhnfhaaGreat
