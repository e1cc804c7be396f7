/- Texts of the proofs, part 49: what the functions that they reach do, walked; no conditions beyond those that each states. -/
import Derived.Test.YtmjccpfchhnfhaaGreatZk0c96912946
set_option linter.unusedVariables false
set_option linter.unusedSimpArgs false
set_option maxRecDepth 100000
set_option maxHeartbeats 8000000
namespace Go.Proofs.YtmjccpfchhnfhaaGreat
theorem mR2 {p:Prop} (h:p:=by
 by_cases q:k=j∧t=n.tm
 ·obtain⟨rfl,rfl⟩:=q;rw[AS];omega
 ·rw[AO k t (by by_cases k=j <;> simp_all)];exact Nat.le_refl _):p:=h
section
variable {many j:Nat} {T:Nat→Nd} {g:Gh} {n:Nd}
def gGrow (g:Gh) (j:Nat) (n:Nd) (x:En):Gh:=
 { g with L:=fun t=>if t=n.tm then some (j,n.log.es++[x]) else g.L t,ak:=fun k t=>if k=j∧t=n.tm then n.log.es.length+1 else g.ak k t }
theorem Wl.grow (h:Wl many j T g n) {x:En} (hx:x.t=n.tm) (h1:1≤n.tm)
 (hM:(g.L n.tm=none∧n.role=2∧Maj many fun k=>∃v b,g.vt k n.tm=some (j,v,b))∨n.role=3)
 {n':Nd} (hme:n'.me=n.me) (hcf:n'.conf=n.conf) (htm:n'.tm=n.tm) (hvo:n'.vote=n.vote) (hlg:n'.log=n.log.add x) (hco:n'.commit=n.commit) (hro:n'.role=3) (h16:n'.mat.length=16)
 (hma:∀y,y<many→(y≠j→n'.mat.getD y 0≤g.ak y n.tm)∧(y=j→n'.mat.getD y 0≤n.log.es.length+1)) (hnx:∀y:Nat,n'.next.getD y 0≤n.log.es.length+2):
 Goes many j T g n (gGrow g j n x) n':=by
 have i:=h.ni;have LS:(gGrow g j n x).L n.tm=some (j,n.log.es++[x]):=if_pos rfl;have LO:∀t,t≠n.tm→(gGrow g j n x).L t=g.L t:=fun t q=>if_neg q
 have AS:(gGrow g j n x).ak j n.tm=n.log.es.length+1:=if_pos ⟨rfl,rfl⟩;have AO:∀k t,(k≠j∨t≠n.tm)→(gGrow g j n x).ak k t=g.ak k t:=fun k t q=>if_neg fun e=>q.elim (fun q=>q e.1) fun q=>q e.2
 have hL:g.L n.tm=none∨g.L n.tm=some (j,n.log.es):=hM.imp (fun q=>q.1) i.ld
 have hA:g.ak j n.tm≤n.log.es.length:=by
  by_cases q:1≤g.ak j n.tm
  ·obtain⟨-,-,c,l,e1,e2⟩:=h.gi.ak j n.tm q;rcases hL with e | e
   ·rw[e] at e1;cases e1
   ·rw[e] at e1;cases e1;exact e2
  ·omega
 have hl':n'.log.es=n.log.es++[x]:=by rw[hlg];rfl
 have hlen:(n.log.es++[x]).length=n.log.es.length+1:=by simp
 have E:Ext j n.tm g (gGrow g j n x):=by
  refine⟨fun t c l q=>?_,fun t c l q=>?_,fun _ _ _ q=>q,fun _ _ _ _ q=>q,fun _ _ _=>rfl,fun k t=>?_,fun k t q=>AO k t (q.imp id fun q=>by omega)⟩
  ·by_cases ht:t=n.tm
   ·subst ht;rcases hL with e | e
    ·rw[e] at q;cases q
    ·rw[e] at q;cases q;exact⟨[x],LS,fun y hy=>by rw[List.mem_singleton.1 hy];exact hx,fun k=>absurd rfl k⟩
   ·exact⟨[],by rw[LO t ht,List.append_nil];exact q,(fun y hy=>by cases hy),fun _=>rfl⟩
  ·by_cases ht:t=n.tm
   ·subst ht;rw[LS] at q;cases q;rcases hL with e | e
    ·exact .inr ⟨e,rfl⟩
    ·exact .inl ⟨_,e⟩
   ·rw[LO t ht] at q;exact .inl ⟨l,q⟩
  ·exact mR2
 have W1:WF (gGrow g j n x).L (n.log.es++[x]):=fun y h2 h3=>by
  rw[hlen] at h3;by_cases hy:y≤n.log.es.length
  ·obtain⟨⟨c,l,e,p⟩,m⟩:=(i.wn.1.ext E) y h2 hy;refine⟨⟨c,l,by rw[sx hy];exact e,(p.symm.appR).symm⟩,fun z h4 h5=>?_⟩;rw[hlen] at h5;rw[sx hy];by_cases hz:z≤n.log.es.length
   ·rw[sx hz];exact m z h4 hz
   ·obtain rfl:z=n.log.es.length+1:=by omega
    rw[yX,hx];exact i.wn.2 y
  ·obtain rfl:y=n.log.es.length+1:=by omega
   rw[yX,hx];refine⟨⟨j,_,LS,Pre.refl (by omega)⟩,fun z h4 h5=>?_⟩;rw[hlen] at h5;obtain rfl:z=n.log.es.length+1:=by omega
   rw[yX,hx];exact Nat.le_refl _
 have B1:∀y,tA (n.log.es++[x]) y≤n.tm:=fun y=>by
  by_cases hy:y≤n.log.es.length
  ·rw[sx hy];exact i.wn.2 y
  ·by_cases hz:y=n.log.es.length+1
   ·subst hz;rw[yX,hx];exact Nat.le_refl _
   ·rw[F_ (by omega)];exact Nat.zero_le _
 have ht:n.tm≤n'.tm:=by omega
 refine⟨E,⟨h.hj,GhI.next h.hj h.gi E ht (fun t l q=>?_) (fun t l q k=>?_) (fun t c v b q=>?_) (fun t c v b q k=>by rw[show (gGrow g j n x).vt=g.vt from rfl,k] at q;cases q) (fun t q=>?_),?_⟩,ht⟩
 ·by_cases hy:t=n.tm
  ·subst hy;rw[LS] at q;cases q;exact⟨h1,W1,B1,ht,fun _=>hro⟩
  ·rw[LO t hy] at q;obtain⟨-,a1,a2,a3,a4,a5⟩:=h.gi.wl t j l q;rw[cQ] at a4 a5;exact⟨a1,a2.ext E,a3,by omega,fun _=>hro⟩
 ·by_cases hy:t=n.tm
  ·subst hy;rw[LS] at q;cases q;rcases hM with⟨-,r2,hv⟩ | r3
   ·obtain⟨b1,b2,b3⟩:=i.cd r2;rw[show (gGrow g j n x).cl j n.tm=g.cl j n.tm from rfl,b1];refine⟨hv.mono fun y _ ⟨v,b,e⟩=>⟨v,?_⟩,Pre.app (Nat.le_refl _),i.wn.1.ext E,b2⟩;have:=h.gi.ve y n.tm j v b k e;subst this;exact e
   ·rw[i.ld r3] at k;cases k
  ·rw[LO t hy,k] at q;cases q
 ·obtain⟨-,a1,a2,a3,a4⟩:=h.gi.vt j t c v b q;rw[cQ] at a2 a4;exact⟨a1,by omega,Nat.le_trans a3 (nW ht c),fun e=>by rw[hvo];exact a4 (by omega)⟩
 ·by_cases hy:t=n.tm
  ·subst hy;exact⟨ht,j,_,LS,by rw[AS];omega⟩
  ·rw[AO j t (.inr hy)] at q ⊢;obtain⟨-,a1,c,l,e1,e2⟩:=h.gi.ak j t q;rw[cQ] at a1;exact⟨by omega,c,l,by rw[LO t hy];exact e1,e2⟩
 ·refine⟨hme.trans i.me,hcf.trans i.conf,by rw[hlg];exact i.l0,⟨by rw[hl'];exact W1,fun y=>by rw[hl',htm];exact B1 y⟩,fun _=>by rw[htm,hl'];exact LS,fun q=>?_,fun q=>absurd (hro.symm.trans q) ne32,fun _ y hy=>?_,fun _ y=>by rw[hl',hlen];have:=hnx y;omega,fun t y h2 h3 h4=>?_,?_,by rw[hro];exact rl3,h16⟩
  ·rw[hvo] at q ⊢;rw[htm];exact i.vn q
  ·rw[htm];by_cases hyj:y=j
   ·subst hyj;rw[AS];exact(hma y hy).2 rfl
   ·rw[AO y _ (.inl hyj)];exact(hma y hy).1 hyj
  ·rw[hl'];by_cases hy:t=n.tm
   ·subst hy;rw[AS] at h3;exact⟨j,_,LS,Pre.refl (by omega)⟩
   ·rw[AO j t (.inr hy)] at h3;obtain⟨-,-,c,l,e1,e2⟩:=h.gi.ak j t (by omega);rw[htm] at h4;exact((i.ah t y h2 h3 (h4.back E e1 (by omega) (h.gi.wl t c l e1).2.2.2.1)).ext E).app
  ·rw[hco,hl',htm];rcases i.co with q | ⟨t,q,y,q2,q3,q4⟩
   ·exact .inl q
   ·exact .inr ⟨t,q,y,q2.ext E,q3,(q4.ext E).app⟩
def gTake (g:Gh) (j:Nat) (n:Nd) (k0:Nat):Gh:={ g with ak:=fun k t=>if k=j∧t=n.tm then max (g.ak j n.tm) k0 else g.ak k t }
theorem Wl.take (h:Wl many j T g n) (hr:n.role=0) {a:Nat} (haj:a≠j) {l es:List En} {p pt mc:Nat} (hL:g.L n.tm=some (a,l)) (hl:p+es.length≤l.length) (hpt:pt=tA l p) (hes:∀k (hk:k<es.length),l[p+k]? = some es[k]) (hc:mc=0∨∃t,t≤n.tm∧∃i,Chosen many g t i∧mc≤i)
 (hp:p≤n.log.es.length) (hpe:tA n.log.es p=pt):
 Goes many j T g n (gTake g j n (p+es.length)) { n with log:=n.log.lay p es,commit:=max n.commit (min mc (p+es.length)) }:=by
 have i:=h.ni;obtain⟨-,h1,wl,bl,-,-⟩:=h.gi.wl _ _ _ hL;have pp:Pre p n.log.es l:=i.wn.1.lm wl p hp (by omega) (hpe.trans hpt);obtain⟨L0,PN,KP,CS⟩:=KQ i.l0 pp hl hes fun y h2 h3 e=>i.wn.1.lm wl y h2 h3 e
 obtain⟨lg,hlg⟩:=zE (n.log.lay p es);obtain⟨N,hN⟩:=zE (p+es.length);rw[hlg] at L0 PN KP CS ⊢;rw[hN] at PN CS hl ⊢;have AS:(gTake g j n N).ak j n.tm=max (g.ak j n.tm) N:=if_pos ⟨rfl,rfl⟩;have AO:∀k t,(k≠j∨t≠n.tm)→(gTake g j n N).ak k t=g.ak k t:=fun k t q=>if_neg fun e=>q.elim (fun q=>q e.1) fun q=>q e.2
 have E:Ext j n.tm g (gTake g j n N):=by refine⟨(Ext.refl j n.tm g).L,(Ext.refl j n.tm g).Ln,fun _ _ _ q=>q,fun _ _ _ _ q=>q,fun _ _ _=>rfl,fun k t=>?_,fun k t q=>AO k t (q.imp id fun q=>by omega)⟩;exact mR2
 -- what an earlier term's log has in common with the old log stays
 have key:∀t y,1≤y→t≤n.tm→Has g.L t y n.log.es→(t<n.tm→Has g.L t y l)→Has g.L t y lg.es:=fun t y h2 h3 h4 h5=>by
  obtain⟨c,lt,e,q⟩:=h4;by_cases ht:t=n.tm
  ·subst ht;rw[hL] at e;cases e;exact⟨_,_,hL,(KP y q.symm).symm⟩
  ·obtain⟨c',lt',e',q'⟩:=h5 (by omega);rw[e] at e';cases e';exact⟨c,lt,e,q'.trans (KP y (q.symm.trans q')).symm⟩
 refine⟨E,⟨h.hj,GhI.next h.hj h.gi E (Nat.le_refl _) (fun t l q=>?_) (fun t l q k=>by rw[show (gTake g j n N).L=g.L from rfl,k] at q;cases q) (fun t c v b q=>?_) (fun t c v b q k=>by rw[show (gTake g j n N).vt=g.vt from rfl,k] at q;cases q) (fun t q=>?_),?_⟩,Nat.le_refl _⟩
 ·exact mNZ
 ·obtain⟨-,a1,a2,a3,a4⟩:=h.gi.vt j t c v b q;rw[cQ] at a2 a4;exact⟨a1,a2,Nat.le_trans a3 (nW (n':={ n with log:=lg,commit:=max n.commit (min mc N) }) (Nat.le_refl n.tm) c),a4⟩
 ·by_cases hy:t=n.tm
  ·subst hy;refine⟨Nat.le_refl _,a,l,hL,?_⟩;rw[AS]
   have:g.ak j n.tm≤l.length:=by
    by_cases q:1≤g.ak j n.tm
    ·obtain⟨-,-,c,l',e1,e2⟩:=h.gi.ak j n.tm q;rw[hL] at e1;cases e1;exact e2
    ·omega
   omega
  ·rw[AO j t (.inr hy)] at q ⊢;exact mOm
 ·refine⟨i.me,i.conf,L0,⟨?_,fun y=>?_⟩,fun q=>absurd (hr.symm.trans q) NJ,i.vn,fun q=>absurd (hr.symm.trans q) ne02,fun q=>absurd (hr.symm.trans q) NJ,fun q=>absurd (hr.symm.trans q) NJ,fun t y h2 h3 h4=>?_,?_,i.rl,i.m16⟩
  ·show WF g.L lg.es;rcases CS with e | e
   ·rw[e];exact i.wn.1
   ·rw[e];exact wl.take N
  ·show tA lg.es y≤n.tm;rcases CS with e | e
   ·rw[e];exact i.wn.2 y
   ·rw[e];by_cases hy:y≤N
    ·rw[l8 hy];exact bl y
    ·rw[F_ (by rw[List.length_take];omega)];exact Nat.zero_le _
  ·show Has g.L t y lg.es;have h4':Thru g.L t y (n.tm+1):=h4;by_cases ht:t=n.tm
   ·subst ht;rw[AS] at h3;by_cases hy:y≤N
    ·exact⟨a,l,hL,(PN.le hy).symm⟩
    ·exact key _ y h2 (Nat.le_refl _) (i.ah _ y h2 (by omega) h4') fun q=>absurd q (Nat.lt_irrefl _)
   ·rw[AO j t (.inr ht)] at h3;have a1:=(h.gi.ak j t (by omega)).2.1;rw[cQ] at a1;exact key t y h2 a1 (i.ah t y h2 h3 h4') fun q=>h4' n.tm q (by omega) a l hL
  ·show max n.commit (min mc N)=0∨∃t,t≤n.tm∧∃y,Chosen many (gTake g j n N) t y∧max n.commit (min mc N)≤y∧Has g.L t (max n.commit (min mc N)) lg.es;by_cases hm:min mc N≤n.commit
   ·rw[Nat.max_eq_left hm];rcases i.co with q | ⟨t,q,y,q2,q3,q4⟩
    ·exact .inl q
    ·by_cases h0:n.commit=0
     ·exact .inl h0
     ·refine .inr ⟨t,q,y,q2.ext E,q3,key t n.commit (by omega) q q4 fun ht=>?_⟩;obtain⟨c,lt,e,q'⟩:=h.gi.lc q2 n.tm ht a l hL;exact⟨c,lt,e,q'.le q3⟩
   ·rw[Nat.max_eq_right (by omega)];rcases hc with q | ⟨t,q,y,q2,q3⟩
    ·omega
    ·refine .inr ⟨t,q,y,q2.ext E,by omega,?_⟩;by_cases ht:t=n.tm
     ·subst ht;exact⟨a,l,hL,(PN.le (by omega)).symm⟩
     ·obtain⟨c,lt,e,q'⟩:=h.gi.lc q2 n.tm (by omega) a l hL;exact⟨c,lt,e,(q'.le (by omega)).trans (PN.le (by omega)).symm⟩
theorem Wl.commit (h:Wl many j T g n) (hr:n.role=3) {r:Nat} (h0:n.commit<r) (hl:r≤n.log.es.length) (ht:tA n.log.es r=n.tm) (hm:Maj many fun y=>r≤n.mat.getD y 0):Goes many j T g n g { n with commit:=r }:=by
 have i:=h.ni;have hL:=i.ld hr;refine⟨Ext.refl _ _ _,⟨h.hj,GhI.next h.hj h.gi (Ext.refl _ _ _) (Nat.le_refl _) (fun t l q=>?_) (fun t l q k=>by rw[k] at q;cases q) (fun t c v b q=>?_) (fun t c v b q k=>by rw[k] at q;cases q) (fun t q=>?_),?_⟩,Nat.le_refl _⟩
 ·exact mNZ
 ·obtain⟨-,a1,a2,a3,a4⟩:=h.gi.vt j t c v b q;rw[cQ] at a2 a4;exact⟨a1,a2,Nat.le_trans a3 (nW (n':={ n with commit:=r }) (Nat.le_refl n.tm) c),a4⟩
 ·exact mOm
 ·exact⟨i.me,i.conf,i.l0,i.wn,i.ld,i.vn,i.cd,i.ma,i.nx,i.ah,.inr ⟨n.tm,Nat.le_refl _,r,⟨j,_,hL,by omega,hl,ht,hm.mono fun y hy q=>Nat.le_trans q (i.ma hr y hy)⟩,Nat.le_refl _,j,_,hL,Pre.refl hl⟩,i.rl,i.m16⟩
end
theorem zV {many:Nat} {p:Int→Bool} (h:many / 2+1≤(cfN many).countP p):Maj many fun y=>p ((y:Nat):Int)=true:=by
 refine⟨(List.range many).filter fun(k:Nat)=>p (k:Int),List.nodup_range.filter _,fun x hx=>?_,?_⟩
 ·rw[List.mem_filter] at hx;exact⟨List.mem_range.1 hx.1,hx.2⟩
 ·unfold cfN at h;rw[List.countP_map,List.countP_eq_length_filter] at h;have e:((List.range many).filter fun(k:Nat)=>p (k:Int)).length=(List.filter (p∘fun(i:Nat)=>(i:Int)) (List.range many)).length:=rfl;omega
theorem maj_agr {many:Nat} {yes:List Int} (h:mV (cfN many) yes=true):Maj many fun y=>((y:Nat):Int)∈yes:=by
 unfold mV majI cntI at h;rw[d7] at h;have h2:=of_decide_eq_true h;exact(zV (p:=fun x=>jK yes x) (by omega)).mono fun y _ q=>wJ.1 q
theorem M8 (k v y:Nat):((List.replicate k v)[y]?).getD 0≤v:=by
 rw[List.getElem?_replicate];split
 ·exact mU2
 ·exact m3D
section
variable {many j:Nat} {T:Nat→Nd} {g:Gh} {n:Nd}
def Does (many j:Nat) (T:Nat→Nd) (g:Gh) (n:Nd) (r:Nd×List Ms):Prop:=∃g',Goes many j T g n g' r.1∧∀m∈r.2,MI many g' (upd T j r.1) m
theorem Does.no (h:Wl many j T g n):Does many j T g n (n,[]):=⟨g,Goes.refl h,fun m hm=>by cases hm⟩
theorem Goes.nil {g':Gh} {n':Nd} (h:Goes many j T g n g' n'):Does many j T g n (n',[]):=⟨g',h,fun m hm=>by cases hm⟩
theorem MI.far {g':Gh} {n':Nd} {m:Ms} (h:MI many g (upd T j n) m) (e:Goes many j T g n g' n'):MI many g' (upd T j n') m:=h.ext e.ex (by rw[cQ]) (nW e.tm)
theorem Does.seq {r1 r2:Nd×List Ms} (h:Does many j T g n r1) (k:∀g',Goes many j T g n g' r1.1→Does many j T g' r1.1 r2):Does many j T g n (r2.1,r1.2++r2.2):=by
 obtain⟨g1,e1,m1⟩:=h;obtain⟨g2,e2,m2⟩:=k g1 e1;exact⟨g2,e1.trans e2,fun m hm=>(List.mem_append.1 hm).elim (fun q=>(m1 m q).far e2) (m2 m)⟩
theorem Does.after {n1:Nd} {r:Nd×List Ms} {g1:Gh} (h:Goes many j T g n g1 n1) (k:Does many j T g1 n1 r):Does many j T g n r:=by
 obtain⟨g2,e2,m2⟩:=k;exact⟨g2,h.trans e2,m2⟩
theorem Wl.oth (h:Wl many j T g n) {x:Int} (hx:x∈n.others):∃b:Nat,x=((b:Nat):Int)∧b<many∧j≠b:=by
 unfold Nd.others at hx;rw[List.mem_filter,h.ni.conf] at hx;obtain⟨b,rfl,hb⟩:=FJ hx.1;refine⟨b,rfl,hb,fun e=>?_⟩;have:=of_decide_eq_true hx.2;rw[h.ni.me,e] at this;exact this rfl
theorem Wl.toAll (h:Wl many j T g n) {m:Ms} (hk:∀b:Nat,b<many→j≠b→MI many g (upd T j n) { m with src:=((j:Nat):Int),dst:=((b:Nat):Int) }):∀x∈n.toAll m,MI many g (upd T j n) x:=fun x hx=>by
 obtain⟨y,hy,rfl⟩:=List.mem_map.1 hx;obtain⟨b,rfl,hb,hne⟩:=h.oth hy;rw[h.ni.me];exact hk b hb hne
theorem MI.idle {m:Ms} {a b:Nat} (hs:m.src=((a:Nat):Int)) (hd:m.dst=((b:Nat):Int)) (ha:a<many) (hb:b<many) (hab:a≠b) (hk:m.kind=3∨m.kind=4∨(m.kind=2∧m.ok=false)∨(m.kind=6∧m.ok=false∧m.prev=0)):MI many g T m:=
 ⟨⟨a,b,hs,hd,ha,hb,hab⟩,fun q=>by omega,fun q o=>by rcases hk with k | k | k | k <;> first | omega | (rw[k.2] at o;cases o) | (rw[k.2.1] at o;cases o),fun q=>by omega,fun q o=>by rcases hk with k | k | k | k <;> first | omega | (rw[k.2] at o;cases o) | (rw[k.2.1] at o;cases o),fun q o=>by rcases hk with k | k | k | k <;> first | omega | exact .inl k.2.2⟩
theorem Wl.lead (h:Wl many j T g n) (h16:many≤16) (hr:n.role=2) (ha:mV n.conf n.yes=true):∃g',Goes many j T g n g' n.lead:=by
 obtain⟨b1,b2,b3⟩:=h.ni.cd hr;rw[h.ni.conf] at ha
 have hM:Maj many fun k=>∃v b,g.vt k n.tm=some (j,v,b):=(maj_agr ha).mono fun y _ q=>by
  obtain⟨k,v,b,e,-,e2⟩:=b3 _ q;obtain rfl:y=k:=by omega
  exact⟨v,b,e2⟩
 have hN:g.L n.tm=none:=by
  cases e:g.L n.tm with
  | none=>rfl
  | some x=>
   obtain⟨c,l⟩:=x;obtain⟨q,-⟩:=h.gi.el _ c l e;obtain⟨y,hy,⟨v,e1⟩,v',b',e2⟩:=q.meet hM;rw[e1] at e2;cases e2;have:=(h.gi.wl _ j l e).2.2.2.2.2;rw[cQ] at this;have:=this rfl;omega
 have h1:1≤n.tm:=b2 0;have hj:=h.hj;refine⟨_,h.grow (x:=⟨n.tm,0,[]⟩) rfl h1 (.inl ⟨hN,hr,hM⟩) rfl rfl rfl rfl rfl rfl rfl (by show ((List.replicate 16 0).set _ _).length=16;simp) (fun y hy=>?_) fun y=>?_⟩
 ·show (y≠j→((List.replicate 16 0).set n.me.toNat (n.log.last+1)).getD y 0≤_)∧(y=j→((List.replicate 16 0).set n.me.toNat (n.log.last+1)).getD y 0≤_)
  rw[h.ni.me,h.ni.l0.last,Int.toNat_natCast,List.getD_eq_getElem?_getD,List.getElem?_set];refine⟨fun q=>?_,fun q=>?_⟩
  ·rw[if_neg (fun e=>q e.symm)];exact Nat.le_trans (M8 16 0 y) (Nat.zero_le _)
  ·subst q;rw[if_pos rfl,List.length_replicate,if_pos (by omega)];exact mU2
 ·show (List.replicate 16 (n.log.last+1)).getD y 0≤_;rw[h.ni.l0.last,List.getD_eq_getElem?_getD];exact Nat.le_trans (M8 16 _ y) (by omega)
theorem BK (h:Wl many j T g n) (h16:many≤16):Does many j T g n n.askT:=by
 unfold Nd.askT;split
 ·dsimp only;have C:=h.cand;split
  ·rename_i ha;obtain⟨g',e⟩:=C.wl.lead h16 rfl ha;exact(C.trans e).nil
  ·refine⟨_,C,C.wl.toAll fun b hb hne=>⟨⟨j,b,rfl,rfl,h.hj,hb,hne⟩,fun _ a ha=>?_,fun q=>?_,fun q=>?_,fun q=>?_,fun q=>?_⟩⟩
   ·have ha':((j:Nat):Int)=(a:Nat):=ha;obtain rfl:j=a:=by omega
    have cs:(gCand g j n).cl j (n.tm+1)=n.log.es:=if_pos ⟨rfl,rfl⟩;show 1≤n.tm+1∧n.log.lastT=tA ((gCand g j n).cl j (n.tm+1)) ((gCand g j n).cl j (n.tm+1)).length∧n.log.last=((gCand g j n).cl j (n.tm+1)).length∧n.tm+1≤_;rw[cs,h.ni.l0.lastT,h.ni.l0.last,cQ];exact⟨by omega,rfl,rfl,Nat.le_refl _⟩
   ·exact absurd q (show ¬(1:Int)=2 by decide)
   ·exact absurd q (show ¬(1:Int)=5 by decide)
   ·exact absurd q (show ¬(1:Int)=6 by decide)
   ·exact absurd q (show ¬(1:Int)=6 by decide)
 ·exact Does.no h
theorem PJ (h:Wl many j T g n) (h16:many≤16) (hr:n.role≠3):Does many j T g n n.askF:=by
 unfold Nd.askF;split
 ·dsimp only;have C:Goes many j T g n g { n with role:=1,ld:=-1,yes:=[n.me] }:=h.quiet rfl rfl rfl rfl h.ni.m16 (show (0:Int)≤1∧(1:Int)≤3 by decide) (.inr ⟨rfl,rfl,fun q=>absurd q hr,fun q=>absurd q (show ¬(1:Int)=3 by decide),fun q=>absurd q (show ¬(1:Int)=2 by decide)⟩);split
  ·exact Does.after C (BK C.wl h16)
  ·exact⟨_,C,C.wl.toAll fun b hb hne=>MI.idle rfl rfl h.hj hb hne (.inl rfl)⟩
 ·exact Does.no h
theorem LX (h:Wl many j T g n) {m:Ms} (hm:MI many g (upd T j n) m) (hd:m.dst=n.me):Does many j T g n (n.onAsk m):=by
 obtain⟨a,b,hs,hd',ha,hb,hab⟩:=hm.ad;rw[h.ni.me,hd'] at hd;obtain rfl:b=j:=by omega
 unfold Nd.onAsk;split
 ·rename_i hk;dsimp only;obtain⟨n1,hn1⟩:∃x,(if m.kind=1∧n.tm<m.tm then n.follow m.tm (-1) else n)=x:=⟨_,rfl⟩
  rw[hn1]
  have C:Goes many b T g n g n1:=by
   rw[←hn1];split
   ·rename_i q;exact h.up q.2 _
   ·exact Goes.refl h
  have i:=C.wl.ni;have hm1:=hm.far C;have ad:∀(x:Nat) (ok:Bool),({ zMs with kind:=m.kind+1,src:=n.me,dst:=m.src,tm:=x,ok:=ok }:Ms).src=((b:Nat):Int)∧({ zMs with kind:=m.kind+1,src:=n.me,dst:=m.src,tm:=x,ok:=ok }:Ms).dst=((a:Nat):Int):=fun x ok=>⟨h.ni.me,hs⟩
  obtain⟨ok,hok⟩:=zE ((n1.log.newer m.prev m.index&&n1.would m));rw[hok];by_cases hv:ok=true∧m.kind=1
  ·rw[if_pos hv];obtain⟨rfl,hk1⟩:=hv;rw[Bool.and_eq_true] at hok;obtain⟨hnw,hwo⟩:=hok;obtain⟨k0,k1,k2,k3⟩:=hm1.k1 hk1 a hs;unfold Nd.would at hwo;rw[if_neg (by omega)] at hwo;simp only[Bool.and_eq_true,Bool.or_eq_true,decide_eq_true_eq] at hwo;obtain⟨ht,hvo,hro⟩:=hwo;rw[i.l0.newer] at hnw;rw[j6 _ _ hab] at k3
   have NW:Nwr (g.cl a n1.tm) n1.log.es:=by
    unfold Nwr;rw[←ht,←k1,←k2];rcases hnw with q | q
    ·exact .inl q
    ·exact .inr q
   obtain⟨g',G,v,e,hvt⟩:=C.wl.vote ha hab hro (by omega) (by omega) (by rw[hs] at hvo;exact hvo) NW;rw[hs];refine⟨g',C.trans G,fun x hx=>?_⟩;rw[List.mem_singleton.1 hx];refine⟨⟨b,a,h.ni.me,rfl,h.hj,ha,fun e=>hab e.symm⟩,fun q=>?_,fun _ _ c d hc hd=>?_,fun q=>?_,fun q=>?_,fun q=>?_⟩
   ·have:m.kind+1=1:=q;omega
   ·have hc':n.me=((c:Nat):Int):=hc;have hd':((a:Nat):Int)=((d:Nat):Int):=hd;rw[h.ni.me] at hc';obtain rfl:b=c:=by omega
    obtain rfl:a=d:=by omega
    refine⟨v,e,?_⟩;show g'.vt b (if true=true∧m.kind=3 then m.tm else n1.tm)=_;rw[if_neg (by omega)];exact hvt
   ·have:m.kind+1=5:=q;omega
   ·have:m.kind+1=6:=q;omega
   ·have:m.kind+1=6:=q;omega
  ·rw[if_neg hv];refine⟨g,C,fun x hx=>?_⟩;rw[List.mem_singleton.1 hx];refine MI.idle h.ni.me hs h.hj ha (fun e=>hab e.symm) ?_;show m.kind+1=3∨m.kind+1=4∨(m.kind+1=2∧ok=false)∨_;rcases hk with q | q
   ·refine .inr (.inr (.inl ⟨by omega,?_⟩));cases ok with
    | false=>rfl
    | true=>exact absurd ⟨rfl,q⟩ hv
   ·exact .inr (.inl (by omega))
 ·exact Does.no h
theorem wY (h:Wl many j T g n) (h16:many≤16) {m:Ms} (hm:MI many g (upd T j n) m) (hd:m.dst=n.me):Does many j T g n (n.onAnswer m):=by
 obtain⟨a,b,hs,hd',ha,hb,hab⟩:=hm.ad;rw[h.ni.me,hd'] at hd;obtain rfl:b=j:=by omega
 unfold Nd.onAnswer;split
 ·rename_i hk;dsimp only;obtain⟨n1,hn1⟩:=zE ((if n.tm<m.tm∧(m.ok=false∨m.kind=2) then n.follow m.tm (-1) else n));rw[hn1]
  have C:Goes many b T g n g n1:=by
   rw[←hn1];split
   ·rename_i q;exact h.up q.1 _
   ·exact Goes.refl h
  have hm1:=hm.far C;have i:=C.wl.ni;by_cases hc:n1.counts m=true
  ·rw[if_pos hc];unfold Nd.counts at hc;simp only[Bool.and_eq_true,Bool.or_eq_true,decide_eq_true_eq] at hc;obtain⟨hok,hrr,-⟩:=hc;have C2:Goes many b T g n1 g { n1 with yes:=n1.yes++[m.src] }:=C.wl.quiet rfl rfl rfl rfl i.m16 i.rl (.inr ⟨rfl,rfl,id,fun q=>⟨q,i.ma q,i.nx q⟩,fun q=>⟨q,fun y hy=>?_⟩⟩)
   ·split
    ·rename_i hag;unfold Nd.chosen;by_cases r1:n1.role=1
     ·rw[if_pos r1];exact Does.after (C.trans C2) (BK C2.wl h16)
     ·rw[if_neg r1]
      have r2:n1.role=2:=by
       rcases hrr with q | q
       ·exact q.1
       ·exact absurd q.1 r1
      obtain⟨g',e⟩:=C2.wl.lead h16 r2 hag;exact((C.trans C2).trans e).nil
    ·exact(C.trans C2).nil
   ·rcases List.mem_append.1 hy with y1 | y1
    ·exact .inl y1
    ·rw[List.mem_singleton.1 y1];rcases hrr with w | w
     ·obtain⟨v,e,hv⟩:=hm1.k2 w.2.1 hok a b hs hd';rw[w.2.2] at hv;exact .inr ⟨a,v,e,hs,ha,hv⟩
     ·have q':n1.role=2:=q;omega
  ·rw[if_neg hc];exact C.nil
 ·exact Does.no h
end
theorem m9X {p:Prop} (h:p:=by
 show NI many g' k ((s.ns.set j r.1).getD k default);rw[←congrFun eT2 k];by_cases q:k=j
 ·subst q;rw[cQ];exact G.wl.ni
 ·rw[j6 _ _ q];exact(hn k hk).ext hg q G.ex):p:=h
section
variable {many j:Nat} {T:Nat→Nd} {g:Gh} {n:Nd}
theorem Wl.mat_le (h:Wl many j T g n) (hr:n.role=3) {y:Nat} (hy:y<many):n.mat.getD y 0≤n.log.es.length:=by
 have h1:=h.ni.ma hr y hy;by_cases q:1≤g.ak y n.tm
 ·obtain⟨-,-,c,l,e1,e2⟩:=h.gi.ak y n.tm q;rw[h.ni.ld hr] at e1;cases e1;omega
 ·omega
theorem Wl.sendTo (h:Wl many j T g n) {b:Nat} (hb:b<many) (hab:j≠b):∀m∈n.sendTo ((b:Nat):Int),MI many g (upd T j n) m:=fun m hm=>by
 unfold Nd.sendTo at hm;split at hm
 ·cases hm
 ·rename_i hc;have i:=h.ni
  have hr:n.role=3:=by
   by_cases q:n.role=3
   ·exact q
   ·exact absurd (.inl q) hc
  rw[List.mem_singleton.1 hm];rw[Int.toNat_natCast] at hc ⊢;rw[i.l0.1] at hc;have hn1:1≤n.next.getD b 0:=by omega
  have hnx:=i.nx hr b;obtain⟨p,hp⟩:∃p,n.next.getD b 0=p+1:=⟨n.next.getD b 0-1,by omega⟩
  rw[hp] at hnx ⊢
  have hes:n.log.slice (p+1) 8=(n.log.es.drop p).take 8:=by
   unfold Lg.slice;split
   ·rw[i.l0.1];rfl
   ·rename_i q;have:¬(n.log.base<p+1∧p+1≤n.log.last):=fun e=>q (Lg.has_iff.2 e)
    rw[i.l0.1,i.l0.last] at this;rw[List.drop_eq_nil_of_le (by omega)];rfl
  refine⟨⟨j,b,i.me,rfl,h.hj,hb,hab⟩,fun q=>absurd q (show ¬(5:Int)=1 by decide),fun q=>absurd q (show ¬(5:Int)=2 by decide),fun _ a ha=>?_,fun q=>absurd q (show ¬(5:Int)=6 by decide),fun q=>absurd q (show ¬(5:Int)=6 by decide)⟩;have ha':n.me=((a:Nat):Int):=ha;rw[i.me] at ha';obtain rfl:j=a:=by omega
  show ∃l,g.L n.tm=some (j,l)∧p+1-1+(n.log.slice (p+1) 8).length≤l.length∧(n.log.term (p+1-1)).1=tA l (p+1-1)∧(∀k (hk:k<(n.log.slice (p+1) 8).length),l[p+1-1+k]? = some (n.log.slice (p+1) 8)[k])∧(n.commit=0∨_)
  rw[Nat.add_sub_cancel];refine⟨n.log.es,i.ld hr,?_,by rw[i.l0.term],fun k hk=>?_,?_⟩
  ·rw[hes,List.length_take,List.length_drop];omega
  ·simp only[hes];rw[List.getElem_take,List.getElem_drop];rw[hes,List.length_take,List.length_drop] at hk;exact List.getElem?_eq_getElem (by omega)
  ·rcases i.co with q | ⟨t,q,y,q2,q3,-⟩
   ·exact .inl q
   ·exact .inr ⟨t,q,y,q2,q3⟩
theorem Wl.beat (h:Wl many j T g n):∀m∈n.beat,MI many g (upd T j n) m:=fun m hm=>by
 obtain⟨x,hx,hm⟩:=List.mem_flatMap.1 hm;obtain⟨b,rfl,hb,hne⟩:=h.oth hx;exact h.sendTo hb hne m hm
theorem Does.led {n0:Nd} {r:Nd×List Ms} (h:Does many j T g n r):Does many j T g n (n0.led r):=by
 unfold Nd.led;split
 ·obtain⟨g',e,m⟩:=h;exact⟨g',e,fun x hx=>(List.mem_append.1 hx).elim (m x) (e.wl.beat x)⟩
 ·exact h
theorem Wl.sure (h:Wl many j T g n):Goes many j T g n g n.sure:=by
 unfold Nd.sure Nd.sureR;split
 ·rename_i q;obtain⟨hr,ht,hc⟩:=q;rw[h.ni.l0.term] at ht;have h1:tA n.log.es n.reach=n.tm:=congrArg Prod.fst ht;have h2:n.reach≤n.log.es.length:=by simpa using congrArg Prod.snd ht
  refine h.commit hr hc h2 h1 ?_;have hj:=h.hj
  have hL:(reachL n.conf (n.mat.map fun(x:Nat)=>(x:Int)) n.conf.length)=(cfN many).map (atU (n.mat.map fun(x:Nat)=>(x:Int))):=by unfold reachL;rw[List.take_length,h.ni.conf]
  have hr2:n.reach=(midV ((cfN many).map (atU (n.mat.map fun(x:Nat)=>(x:Int))))).toNat:=by unfold Nd.reach;rw[hL]
  rw[hr2];have hge:=mid_ge (l:=(cfN many).map (atU (n.mat.map fun(x:Nat)=>(x:Int)))) (by rw[List.length_map,d7];omega);rw[List.length_map,d7,List.countP_map] at hge;refine(zV (p:=(fun x=>decide (midV ((cfN many).map (atU (n.mat.map fun(x:Nat)=>(x:Int))))≤x))∘atU (n.mat.map fun(x:Nat)=>(x:Int))) hge).mono fun y hy q=>?_
  have q2:=of_decide_eq_true q
  have e:atU (n.mat.map fun(x:Nat)=>(x:Int)) ((y:Nat):Int)≤((n.mat.getD y 0:Nat):Int):=by
   unfold atU;split
   ·rename_i hl;rw[List.length_map] at hl;have hl':y<n.mat.length:=by omega
    rw[Int.toNat_natCast,List.getD_eq_getElem?_getD,List.getElem?_map,List.getD_eq_getElem?_getD,List.getElem?_eq_getElem hl'];exact Int.le_refl _
   ·omega
  omega
 ·exact Goes.refl h
theorem wW (h:Wl many j T g n) {m:Ms} (hm:MI many g (upd T j n) m) (hd:m.dst=n.me):Does many j T g n (n.onAppend m):=by
 obtain⟨a,b,hs,hd',ha,hb,hab⟩:=hm.ad;rw[h.ni.me,hd'] at hd;obtain rfl:b=j:=by omega
 unfold Nd.onAppend;split
 ·exact Does.no h
 ·rename_i hk
  have hk5:m.kind=5:=by
   by_cases q:m.kind=5
   ·exact q
   ·exact absurd q hk
  obtain⟨l,k1,k2,k3,k4,k5⟩:=hm.k5 hk5 a hs;split
  ·exact⟨g,Goes.refl h,fun x hx=>by rw[List.mem_singleton.1 hx];exact MI.idle h.ni.me hs h.hj ha (fun e=>hab e.symm) (.inr (.inr (.inr ⟨rfl,rfl,rfl⟩)))⟩
  ·rename_i hlt;have hle:n.tm≤m.tm:=by omega
   have C:Goes many b T g n g (n.follow m.tm m.src):=h.follow hle (fun e q=>by have:=h.ni.ld q;rw[←e,k1] at this;cases this;exact hab rfl) _
   obtain⟨f1,f2,f3⟩:=N4 (n:=n) (ld:=m.src) hle;have i1:=C.wl.ni;have C1:Goes many b T g (n.follow m.tm m.src) g { n.follow m.tm m.src with heard:=true }:=C.wl.quiet rfl rfl rfl rfl i1.m16 i1.rl (.inr ⟨rfl,rfl,id,fun q=>⟨q,i1.ma q,i1.nx q⟩,fun q=>⟨q,fun y hy=>.inl hy⟩⟩);obtain⟨n1,hn1⟩:=zE (({ n.follow m.tm m.src with heard:=true }:Nd));have t1:n1.tm=m.tm:=by rw[←hn1];exact f1
   have r1:n1.role=0:=by rw[←hn1];exact f2
   rw[hn1] at C1 ⊢;have G:=C.trans C1;have i:=C1.wl.ni;have hme:n1.me=((b:Nat):Int):=i.me;unfold Nd.taken;split
   ·refine⟨g,G,fun x hx=>?_⟩;rw[List.mem_singleton.1 hx];refine⟨⟨b,a,hme,hs,h.hj,ha,fun e=>hab e.symm⟩,fun q=>absurd q (show ¬(6:Int)=1 by decide),fun q=>absurd q (show ¬(6:Int)=2 by decide),fun q=>absurd q (show ¬(6:Int)=5 by decide),fun _ q=>(by cases q),fun _ _=>.inr ⟨a,l,?_,?_⟩⟩
    ·show g.L n1.tm=_;rw[t1];exact k1
    ·show m.index≤_;omega
   ·rename_i hf
    have hap:n1.log.append m.index m.prev m.es=(n1.log.lay m.index m.es,0)∧m.index≤n1.log.es.length∧tA n1.log.es m.index=m.prev:=by
     unfold Lg.append at hf ⊢;have hb0:=i.l0.1;unfold Lg.fits at hf ⊢;rw[i.l0.last,hb0,i.l0.term] at hf ⊢;by_cases q1:n1.log.es.length<m.index
     ·rw[if_pos q1] at hf;exact absurd rfl hf
     ·by_cases q2:tA n1.log.es m.index=m.prev
      ·rw[if_neg q1,if_neg (Nat.not_lt_zero _),if_pos q2,if_neg (by decide),if_neg (Nat.not_lt_zero _)];exact⟨rfl,by omega,q2⟩
      ·rw[if_neg q1,if_neg (Nat.not_lt_zero _),if_neg q2] at hf;exact absurd rfl hf
    obtain⟨e1,e2,e3⟩:=hap;rw[e1];have D:=C1.wl.take r1 hab (by rw[t1];exact k1) k2 k3 k4 (by rw[t1];exact k5) e2 e3;refine⟨_,G.trans D,fun x hx=>?_⟩;rw[List.mem_singleton.1 hx];refine⟨⟨b,a,hme,hs,h.hj,ha,fun e=>hab e.symm⟩,fun q=>absurd q (show ¬(6:Int)=1 by decide),fun q=>absurd q (show ¬(6:Int)=2 by decide),fun q=>absurd q (show ¬(6:Int)=5 by decide),fun _ _ c hc=>?_,fun _ q=>(by cases q)⟩;have hc':n1.me=((c:Nat):Int):=hc;rw[hme] at hc';obtain rfl:b=c:=by omega
    show m.index+m.es.length≤(if b=b∧n1.tm=n1.tm then max (g.ak b n1.tm) (m.index+m.es.length) else _);rw[if_pos ⟨rfl,rfl⟩];exact Nat.le_max_right _ _
theorem vW (l:List Nat) (k v y:Nat):(l.set k v).getD y 0=if k=y∧k<l.length then v else l.getD y 0:=GJ.set_getD
theorem BJ (h:Wl many j T g n) {m:Ms} (hm:MI many g (upd T j n) m) (hd:m.dst=n.me):Does many j T g n (n.onAcked m):=by
 obtain⟨a,b,hs,hd',ha,hb,hab⟩:=hm.ad;rw[h.ni.me,hd'] at hd;obtain rfl:b=j:=by omega
 unfold Nd.onAcked;split
 ·exact Does.no h
 ·rename_i hk
  have hk6:m.kind=6:=by
   by_cases q:m.kind=6
   ·exact q
   ·exact absurd q hk
  split
  ·rename_i q;exact(h.up q _).nil
  ·rename_i q1;split
   ·exact Does.no h
   ·rename_i q2;have ht:m.tm=n.tm:=by omega
    have hr:n.role=3:=by
     by_cases q:n.role=3
     ·exact q
     ·exact absurd (.inr (.inl q)) q2
    have i:=h.ni
    have C:Goes many b T g n g (n.acked m):=by
     unfold Nd.acked;rw[hs,Int.toNat_natCast];split
     ·rename_i hok;refine h.quiet rfl rfl rfl rfl i.m16 i.rl (.inr ⟨rfl,rfl,id,fun q=>⟨q,i.ma q,fun y=>?_⟩,fun q=>absurd (hr.symm.trans q) ne32⟩);show (n.next.set a _).getD y 0≤_;rw[vW];split
      ·have:=h.mat_le hr ha
       have:min m.index (m.prev+1)≤n.log.es.length+1:=by
        rcases hm.k7 hk6 hok with q | ⟨c,l,e1,e2⟩
        ·omega
        ·rw[ht,i.ld hr] at e1;cases e1;omega
       omega
      ·exact i.nx hr y
     ·rename_i hok;have hok':m.ok=true:=by cases hb:m.ok with | true=>rfl | false=>exact absurd hb hok
      split
      ·rename_i hl;have hk:=hm.k6 hk6 hok' a hs;rw[ht] at hk
       have C1:Goes many b T g n g { n with mat:=n.mat.set a (max (n.mat.getD a 0) m.index),next:=n.next.set a (max (n.mat.getD a 0) m.index+1) }:=by
        refine h.quiet rfl rfl rfl rfl (by show (n.mat.set a _).length=16;rw[List.length_set];exact i.m16) i.rl (.inr ⟨rfl,rfl,id,fun q=>⟨q,fun y hy=>?_,fun y=>?_⟩,fun q=>absurd (hr.symm.trans q) ne32⟩)
        ·show (n.mat.set a _).getD y 0≤_;rw[vW];split
         ·rename_i e;rw[←e.1];have:=i.ma hr a ha;omega
         ·exact i.ma hr y hy
        ·show (n.next.set a _).getD y 0≤_;rw[vW];split
         ·have:=h.mat_le hr ha;rw[i.l0.last] at hl;omega
         ·exact i.nx hr y
       exact C1.trans C1.wl.sure
      ·exact Goes.refl h
    split
    ·exact C.nil
    ·rw[hs];exact⟨g,C,C.wl.sendTo ha (fun e=>hab e.symm)⟩
theorem BX (h:Wl many j T g n) (h16:many≤16) (k:Int) (d:List UInt8):Does many j T g n ((n.propose k d).1,[]):=by
 unfold Nd.propose;split
 ·exact Does.no h
 ·rename_i hr0
  have hr:n.role=3:=by
   by_cases q:n.role=3
   ·exact q
   ·exact absurd q hr0
  split
  ·exact Does.no h
  ·split
   ·exact Does.no h
   ·have i:=h.ni;have hj:=h.hj;have h1:1≤n.tm:=(h.gi.wl _ _ _ (i.ld hr)).2.1
    have C:=h.grow (x:=⟨n.tm,k,d⟩) (n':={ n with log:=n.log.add ⟨n.tm,k,d⟩,mat:=n.mat.set n.me.toNat (n.log.last+1) }) rfl h1 (.inr hr) rfl rfl rfl rfl rfl rfl hr (by show (n.mat.set _ _).length=16;rw[List.length_set];exact i.m16) (fun y hy=>by
     show (y≠j→(n.mat.set _ _).getD y 0≤_)∧(y=j→(n.mat.set _ _).getD y 0≤_)
     rw[i.me,Int.toNat_natCast,vW,i.l0.last];refine⟨fun q=>?_,fun q=>?_⟩
     ·rw[if_neg (fun e=>q e.1.symm)];exact i.ma hr y hy
     ·subst q;rw[if_pos ⟨rfl,by rw[i.m16];omega⟩];exact Nat.le_refl _) (fun y=>Nat.le_succ_of_le (i.nx hr y))
    exact(C.trans C.wl.sure).nil
theorem does_hear (h:Wl many j T g n) (h16:many≤16) {m:Ms} (hm:MI many g (upd T j n) m) (hd:m.dst=n.me):Does many j T g n (n.hear m):=by
 have d1:=LX h hm hd;have d2:Does many j T g n (((n.onAsk m).1.onAnswer m).1,(n.onAsk m).2++((n.onAsk m).1.onAnswer m).2):=d1.seq fun g' e=>wY e.wl h16 (hm.far e) (by rw[e.wl.ni.me,hd,h.ni.me])
 have d3:Does many j T g n ((((n.onAsk m).1.onAnswer m).1.onAppend m).1,((n.onAsk m).2++((n.onAsk m).1.onAnswer m).2)++(((n.onAsk m).1.onAnswer m).1.onAppend m).2):=d2.seq fun g' e=>wW e.wl (hm.far e) (by rw[e.wl.ni.me,hd,h.ni.me])
 exact d3.seq fun g' e=>BJ e.wl (hm.far e) (by rw[e.wl.ni.me,hd,h.ni.me])
theorem PZ (h:Wl many j T g n) (h16:many≤16) {m:Ms} (hm:MI many g (upd T j n) m):Does many j T g n (n.step m).1:=by
 unfold Nd.step;split
 ·exact Does.no h
 ·rename_i hr
  have h0:n.right m=0:=by
   by_cases q:n.right m=0
   ·exact q
   ·exact absurd q hr
  exact(does_hear h h16 hm (Nd.right_ok h0).2.1).led
theorem BZ (h:Wl many j T g n) (h16:many≤16):Does many j T g n n.timeout:=by
 unfold Nd.timeout;split
 ·exact Does.no h
 ·rename_i hr;split
  ·exact(h.quiet (n':={ n with heard:=false }) rfl rfl rfl rfl h.ni.m16 h.ni.rl (.inr ⟨rfl,rfl,id,fun q=>absurd q hr,fun q=>⟨q,fun y hy=>.inl hy⟩⟩)).nil
  ·exact(PJ h h16 hr).led
end
theorem kv.node {many j:Nat} {s:Gs} (h:kv many s) (hj:j<many) {r:Nd×List Ms} (hme:r.1.me=(s.ns.getD j default).me) (hcf:r.1.conf=(s.ns.getD j default).conf)
 (hd:∀(T:Nat→Nd) (g:Gh),Wl many j T g (s.ns.getD j default)→(∀m∈s.ms,MI many g (upd T j (s.ns.getD j default)) m)→Does many j T g (s.ns.getD j default) r):kv many (({ s with ns:=s.ns.set j r.1 }:Gs).send r.2):=by
 obtain⟨hid,g,hg,hn,hm⟩:=h
 have eT:upd (fun k=>s.ns.getD k default) j (s.ns.getD j default)=fun k=>s.ns.getD k default:=by
  funext k;by_cases q:k=j
  ·subst q;rw[cQ]
  ·rw[j6 _ _ q]
 have eT2:upd (fun k=>s.ns.getD k default) j r.1=fun k=>(s.ns.set j r.1).getD k default:=by
  funext k;by_cases q:k=j
  ·subst q;rw[cQ,List.getD_eq_getElem?_getD,List.getElem?_set_self (by rw[hid.1];exact hj)];rfl
  ·rw[j6 _ _ q,List.getD_eq_getElem?_getD,List.getD_eq_getElem?_getD,List.getElem?_set_ne (fun e=>q e.symm)]
 obtain⟨g',G,hm'⟩:=hd (fun k=>s.ns.getD k default) g ⟨hj,by rw[eT];exact hg,hn j hj⟩ (by rw[eT];exact hm)
 have base:kv many ({ s with ns:=s.ns.set j r.1 }:Gs)∧∀m∈r.2,MI many g' (fun k=>(s.ns.set j r.1).getD k default) m:=by
  refine⟨⟨hid.node hme hcf,g',by rw[←eT2];exact G.wl.gi,fun k hk=>?_,fun m q=>?_⟩,by rw[←eT2];exact hm'⟩
  ·exact m9X
  ·rw[←eT2];exact MI.far (by rw[eT];exact hm m q) G
 unfold Gs.send;split
 ·refine⟨base.1.1,g',by rw[←eT2];exact G.wl.gi,fun k hk=>?_,fun m q=>(List.mem_append.1 q).elim (fun q=>?_) (base.2 m)⟩
  ·exact m9X
  ·show MI many g' (fun k=>(s.ns.set j r.1).getD k default) m;rw[←eT2];exact MI.far (by rw[eT];exact hm m q) G
 ·exact base.1
theorem kv.com {many j:Nat} {s:Gs} (h:kv many s) (hj:j<many):(s.ns.getD j default).commit≤(s.ns.getD j default).log.es.length∧Lg0 (s.ns.getD j default).log:=by
 obtain⟨hid,g,hg,hn,hm⟩:=h;refine⟨?_,(hn j hj).l0⟩;rcases(hn j hj).co with q | ⟨t,q,y,q2,q3,c,l,q4,q5⟩
 ·omega
 ·exact q5.2.1
theorem kv.dst {many:Nat} {s:Gs} (h:kv many s) {m:Ms} (hm:m∈s.ms):∃a b:Nat,m.src=((a:Nat):Int)∧m.dst=((b:Nat):Int)∧a<many∧b<many:=by
 obtain⟨hid,g,hg,hn,hm'⟩:=h;obtain⟨a,b,e1,e2,e3,e4,-⟩:=(hm' m hm).ad;exact⟨a,b,e1,e2,e3,e4⟩
theorem S0_safe (many:Nat):kv many (S0 many):=by
 refine⟨S0_ids many,⟨fun _=>none,fun _ _=>none,fun _ _=>[],fun _ _=>0⟩,⟨fun t c l q=>(by cases q),fun t c l q=>(by cases q),fun k t c v b q=>(by cases q),fun k t c v q=>(by cases q),fun k t c v b q q2=>(by cases q2),fun k t q=>absurd q (by show ¬1≤0;omega)⟩,fun j hj=>?_,fun m hm=>by cases hm⟩;rw[S0_at hj];exact⟨rfl,rfl,⟨rfl,rfl⟩,⟨WF.nil _,fun i=>Nat.le_of_eq (by show tA [] i=0;cases i <;> rfl)⟩,fun q=>absurd q NJ,fun q=>absurd rfl q,fun q=>absurd q ne02,fun q=>absurd q NJ,fun q=>absurd q NJ,fun t i h1 h2=>by have:i≤0:=h2;omega,.inl rfl,rl0,rfl⟩
end Go.Proofs.YtmjccpfchhnfhaaGreat
