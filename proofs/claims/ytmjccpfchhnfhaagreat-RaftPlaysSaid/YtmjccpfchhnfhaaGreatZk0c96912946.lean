/- Texts of the proofs, part 48: what the functions that they reach do, walked; no conditions beyond those that each states. -/
import Derived.Test.YtmjccpfchhnfhaaGreatZke7917d498b
set_option linter.unusedVariables false
set_option linter.unusedSimpArgs false
set_option maxRecDepth 100000
set_option maxHeartbeats 8000000
namespace Go.Proofs.YtmjccpfchhnfhaaGreat
open Go.RowKit
def Es8 (l:List Ms):Prop:=∀x∈l,x.es.length≤8
theorem Es8.nil:Es8 []:=fun _ h=>by cases h
theorem Es8.one {m:Ms} (h:m.es.length≤8):Es8 [m]:=fun x hx=>by rw[List.mem_singleton.1 hx];exact h
theorem Es8.app {a b:List Ms} (ha:Es8 a) (hb:Es8 b):Es8 (a++b):=fun x hx=>by
 rcases List.mem_append.1 hx with h | h
 ·exact ha x h
 ·exact hb x h
namespace Nd
variable {n:Nd} {m:Ms}
theorem Fy (h:m.es.length≤8):Es8 (n.toAll m):=fun x hx=>by
 obtain⟨y,-,rfl⟩:=List.mem_map.1 hx;exact h
theorem P_:Es8 n.askT.2:=by
 unfold askT;split
 ·dsimp only;split
  ·exact Es8.nil
  ·exact Fy (Nat.zero_le _)
 ·exact Es8.nil
theorem askF_e8:Es8 n.askF.2:=by
 unfold askF;split
 ·dsimp only;split
  ·exact P_
  ·exact Fy (Nat.zero_le _)
 ·exact Es8.nil
theorem Pj:Es8 n.chosen.2:=by
 unfold chosen;split
 ·exact P_
 ·exact Es8.nil
theorem onAsk_e8:Es8 (n.onAsk m).2:=by
 unfold onAsk;split
 ·exact Es8.one (Nat.zero_le _)
 ·exact Es8.nil
theorem DW:Es8 (n.onAnswer m).2:=by
 unfold onAnswer;split
 ·dsimp only;generalize (if n.tm<m.tm∧(m.ok=false∨m.kind=2) then n.follow m.tm (-1) else n)=n1;split
  ·split
   ·exact Pj
   ·exact Es8.nil
  ·exact Es8.nil
 ·exact Es8.nil
theorem slice_le (l:Lg) (i m:Nat):(l.slice i m).length≤m:=by
 unfold Lg.slice;split
 ·rw[List.length_take];omega
 ·exact m3D
theorem yY (x:Int):Es8 (n.sendTo x):=by
 unfold sendTo;split
 ·exact Es8.nil
 ·exact Es8.one (slice_le _ _ _)
theorem beat_e8:Es8 n.beat:=fun x hx=>by
 obtain⟨y,-,hy⟩:=List.mem_flatMap.1 hx;exact yY y x hy
theorem taken_e8:Es8 (n.taken m).2:=by
 unfold taken;split
 ·exact Es8.one (Nat.zero_le _)
 ·exact Es8.one (Nat.zero_le _)
theorem DK:Es8 (n.onAppend m).2:=by
 unfold onAppend;split
 ·exact Es8.nil
 ·split
  ·exact Es8.one (Nat.zero_le _)
  ·exact taken_e8
theorem J6:Es8 (n.onAcked m).2:=by
 unfold onAcked;split
 ·exact Es8.nil
 ·split
  ·exact Es8.nil
  ·split
   ·exact Es8.nil
   ·split
    ·exact Es8.nil
    ·exact yY _
theorem hear_e8:Es8 (n.hear m).2:=((onAsk_e8.app DW).app DK).app J6
theorem led_e8 {r:Nd×List Ms} (h:Es8 r.2):Es8 (n.led r).2:=by
 unfold led;split
 ·exact h.app beat_e8
 ·exact h
theorem step_e8:Es8 (n.step m).1.2:=by
 unfold step;split
 ·exact Es8.nil
 ·exact led_e8 hear_e8
theorem step_d:Dat (n.step m).1.2:=by
 unfold step;split
 ·exact Dat.nil
 ·exact led_d hear_d
end Nd
abbrev nOld:Old:=⟨fun _=>False⟩
instance nOldNo:@bj nOld:=@bj.mk nOld fun _ h=>h
theorem PNs.old {o:Nat→Prop} {X P:Nat→Prop} {w:World} {b:Nat} {n:Nd} {q:NV} (h:@PNs nOld X P w b n q) (hb:∀c,o c→c<b):@PNs ⟨o⟩ X P w b n q:=by
 have ro:∀c u,@RO nOld X c u→@RO ⟨o⟩ X c u:=fun c u h=>⟨h.1,.inr (h.2.elim (fun e=>e.elim) id)⟩
 obtain⟨top,cf,ye,yp,ev,ee,nx,mt,nm,pb,pn,pm,px,hx,_⟩:=h;obtain⟨row,nz,dat⟩:=ev;exact @PNs.mk ⟨o⟩ X P w b n q top (cf.mono ro) ye yp (@EsAt.mk ⟨o⟩ _ _ _ _ (row.mono fun c u _ k=>ro c u k) nz (fun x hx=>⟨(dat x hx).1.mono fun c u _ k=>ro c u k,(dat x hx).2⟩)) ee nx mt nm pb pn pm px hx hb
def Ids (many:Nat) (s:Gs):Prop:=s.ns.length=many∧∀i,i<many→(s.ns.getD i default).me=((i:Nat):Int)∧(s.ns.getD i default).conf=cfN many
namespace Ids
variable {many:Nat} {s:Gs}
theorem node (h:Ids many s) {i:Nat} {n':Nd} (hm:n'.me=(s.ns.getD i default).me) (hc:n'.conf=(s.ns.getD i default).conf):Ids many { s with ns:=s.ns.set i n' }:=by
 refine⟨by show (s.ns.set i n').length=_;rw[List.length_set];exact h.1,fun j hj=>?_⟩;show ((s.ns.set i n').getD j default).me=_∧((s.ns.set i n').getD j default).conf=_;by_cases e:i=j
 ·subst e;rw[List.getD_eq_getElem?_getD,List.getElem?_set_self (by rw[h.1];exact hj),Option.getD_some,hm,hc];exact h.2 i hj
 ·rw[List.getD_eq_getElem?_getD,List.getElem?_set_ne e,←List.getD_eq_getElem?_getD];exact h.2 j hj
theorem send (h:Ids many s) (l:List Ms):Ids many (s.send l):=by
 unfold Gs.send;split
 ·exact h
 ·exact h
end Ids
theorem Nd.step_me (n:Nd) (m:Ms):(n.step m).1.1.me=n.me:=by
 unfold Nd.step;split
 ·rfl
 ·show (n.led (n.hear m)).1.me=_;rw[Nd.led_y];exact(Nd.hear_up _ _).me
theorem Nd.timeout_me (n:Nd):n.timeout.1.me=n.me:=by
 unfold Nd.timeout;split
 ·rfl
 ·split
  ·rfl
  ·rw[Nd.led_y];exact(Nd.askF_up _).me
namespace Ids
variable {many:Nat} {s:Gs}
theorem arrive (h:Ids many s) (k:Nat):Ids many (s.arrive k):=by
 unfold Gs.arrive;dsimp only;split
 ·exact h
 ·exact(h.node (Nd.step_me _ _) (Nd.step_conf _ _)).send _
theorem play (h:Ids many s) (d k:Int):Ids many (s.play d k):=by
 unfold Gs.play;split
 ·exact h
 ·dsimp only;split
  ·exact(h.node (Nd.timeout_me _) (Nd.timeout_conf _)).send _
  ·split
   ·exact h.arrive _
   ·split
    ·exact h.send _
    ·split
     ·exact Ids.node (s:={ s with many:=s.many+1 }) h (Nd.propose_up _ _ _).me (Nd.propose_up _ _ _).conf
     ·split
      ·exact h
      ·exact h
end Ids
def S0 (many:Nat):Gs:=⟨(cfN many).map fun i=>Nd.new i (cfN many),List.replicate many 0,[],List.replicate many 0,0⟩
theorem tj (many:Nat):(S0 many).ns.length=many:=by
 show ((cfN many).map _).length=many;rw[List.length_map,d7]
theorem S0_at {many i:Nat} (hi:i<many):(S0 many).ns.getD i default=Nd.new (i:Nat) (cfN many):=by
 have e:(cfN many)[i]? = some ((i:Nat):Int):=by unfold cfN;simp [hi]
 rw[List.getD_eq_getElem?_getD];show ((List.map (fun i=>Nd.new i (cfN many)) (cfN many))[i]?).getD default=_;rw[List.getElem?_map,e];rfl
theorem S0_ids (many:Nat):Ids many (S0 many):=⟨tj many,fun i hi=>by rw[S0_at hi];exact⟨rfl,rfl⟩⟩
theorem FJ {many:Nat} {x:Int} (h:x∈cfN many):∃i:Nat,x=(i:Nat)∧i<many:=by
 obtain⟨i,hi,rfl⟩:=List.mem_map.1 h;exact⟨i,rfl,List.mem_range.1 hi⟩
theorem S0_gj {many:Nat} (h1:1≤many) (h5:many≤5):GJ 16 (S0 many):=by
 have h:∀n∈(S0 many).ns,Gw 16 16 n:=fun n hn=>by obtain⟨i,hi,rfl⟩:=List.mem_map.1 hn;obtain⟨j,rfl,hj⟩:=FJ hi;have hl:=d7 many;refine⟨⟨Nat.zero_le _,Nat.zero_le _,Nat.zero_le _,rfl,rfl,mq (Nat.zero_le _),mq (Nat.zero_le _)⟩,Nat.zero_le _,Nat.zero_le _,⟨j,rfl,by omega⟩,(by show 0<(cfN many).length∧(cfN many).length≤12;omega),fun x hx=>?_⟩;obtain⟨k,rfl,hk⟩:=FJ (show x∈cfN many from hx);omega
 refine⟨⟨h,?_,(fun m hm=>by cases hm),Nat.zero_le _⟩,?_,?_,?_,?_,⟨Int.le_refl _,by show (0:Int)≤((16:Nat):Int);omega⟩,fun i=>?_⟩
 ·intro a ha;have:a∈List.replicate many 0:=ha;rw[List.eq_of_mem_replicate this];exact Nat.zero_le _
 ·rw[tj];omega
 ·rw[tj];omega
 ·rw[tj];exact List.length_replicate
 ·rw[tj];exact List.length_replicate
 ·exact mU2
theorem ops13_at {w:World} {a:Option Addr} {len cap:Nat} (h:Rd Tryz.prog w 59 [.slice a len cap]):∃b off,(0<len→a=some ⟨b,off,none⟩)∧∀i,i<len→∃d k:Int,w.cell? ⟨b,off+i*2,none⟩=some (.int .i64 d)∧w.cell? ⟨b,off+i*2+1,none⟩=some (.int .i64 k):=by
 obtain⟨a',len',cap',hv,_,_,_,hc⟩:=h.slice (sz:=2) Tryz.underlying59 (by kernel_rfl);obtain⟨rfl,rfl,rfl⟩:a=a'∧len=len'∧cap=cap':=by simpa using hv
 have key:∀i,i<len→∃ad,∃d k:Int,a=some ad∧w.cell? (ad.add (i*2))=some (.int .i64 d)∧w.cell? (ad.add (i*2+1))=some (.int .i64 k):=by
  intro i hi;obtain⟨ad,cs,ha,hcl,hat,hr⟩:=hc i hi;obtain⟨_,hf⟩:=hr.struct (sz:=2) Tryz.underlying72 (by kernel_rfl);obtain⟨c0,c1,rfl⟩:=list2 hcl;obtain⟨x0,h0,_⟩:=(show Rd Tryz.prog w 3 [c0] from hf 0 _ rfl).int Tryz.underlying3;obtain⟨x1,h1,_⟩:=(show Rd Tryz.prog w 3 [c1] from hf 1 _ rfl).int Tryz.underlying3;have e0:c0=.int .i64 x0:=by injection h0
  have e1:c1=.int .i64 x1:=by injection h1
  subst e0 e1;exact⟨ad,x0,x1,ha,hat 0 (by omega),hat 1 (by omega)⟩
 by_cases hl:0<len
 ·obtain⟨ad,d,k,ha,e0,_⟩:=key 0 hl;rw[Nat.zero_mul] at e0;obtain⟨b,off,rfl⟩:=My e0;refine⟨b,off,fun _=>ha,fun i hi=>?_⟩;obtain⟨ad',d,k,ha',e0,e1⟩:=key i hi;rw[ha] at ha';cases ha';simp only[B6] at e0 e1;exact⟨d,k,e0,e1⟩
 ·exact⟨0,0,fun h=>absurd h hl,fun i hi=>by omega⟩
def tA (l:List En) (i:Nat):Nat:=match i with
 | 0=>0
 | k+1=>(l[k]?.map (·.t)).getD 0
theorem kJ (l:List En) (k:Nat):tA l (k+1)=(l[k]?.map (·.t)).getD 0:=rfl
theorem Mx (l:List En):tA l 0=0:=rfl
theorem F_ {l:List En} {i:Nat} (h:l.length<i):tA l i=0:=by
 cases i with
 | zero=>rfl
 | succ k=>rw[kJ,List.getElem?_eq_none (by omega)];rfl
theorem tA_in {l:List En} {k:Nat} (h:k<l.length):tA l (k+1)=l[k].t:=by
 rw[kJ,List.getElem?_eq_getElem h];rfl
theorem l8 {l:List En} {c i:Nat} (h:i≤c):tA (l.take c) i=tA l i:=by
 cases i with
 | zero=>rfl
 | succ k=>rw[kJ,kJ,List.getElem?_take_of_lt (by omega)]
theorem sx {l r:List En} {i:Nat} (h:i≤l.length):tA (l++r) i=tA l i:=by
 cases i with
 | zero=>rfl
 | succ k=>rw[kJ,kJ,List.getElem?_append_left (by omega)]
theorem yX (l:List En) (x:En):tA (l++[x]) (l.length+1)=x.t:=by
 rw[tA_in (by simp)];simp
def Pre (c:Nat) (a b:List En):Prop:=c≤a.length∧c≤b.length∧a.take c=b.take c
namespace Pre
variable {a b d:List En} {c i:Nat}
theorem refl (h:c≤a.length):Pre c a a:=⟨h,h,rfl⟩
theorem symm (h:Pre c a b):Pre c b a:=⟨h.2.1,h.1,h.2.2.symm⟩
theorem trans (h:Pre c a b) (k:Pre c b d):Pre c a d:=⟨h.1,k.2.1,h.2.2.trans k.2.2⟩
theorem le (h:Pre c a b) (hi:i≤c):Pre i a b:=⟨by have:=h.1;omega,by have:=h.2.1;omega,by
 have:=congrArg (List.take i) h.2.2;rw[List.take_take,List.take_take,Nat.min_eq_left hi] at this;exact this⟩
theorem tA (h:Pre c a b) (hi:i≤c):tA a i=tA b i:=by
 rw[←l8 (l:=a) hi,←l8 (l:=b) hi,h.2.2]
theorem zero:Pre 0 a b:=⟨Nat.zero_le _,Nat.zero_le _,rfl⟩
theorem app (h:c≤a.length):Pre c a (a++d):=⟨h,by rw[List.length_append];omega,by rw[List.take_append_of_le_length h]⟩
theorem appR (h:Pre c a b):Pre c a (b++d):=h.trans (app h.2.1)
theorem take (h:c≤i) (hc:c≤a.length):Pre c (a.take i) a:=⟨by rw[List.length_take];omega,hc,by rw[List.take_take,Nat.min_eq_left h]⟩
end Pre
def Lg0 (l:Lg):Prop:=l.base=0∧l.bt=0
namespace Lg0
variable {l:Lg}
theorem last (h:Lg0 l):l.last=l.es.length:=by unfold Lg.last;rw[h.1];omega
theorem term (h:Lg0 l) (i:Nat):l.term i=(tA l.es i,decide (i≤l.es.length)):=by
 have hb:=h.1;have hl:=h.last;by_cases h0:i=0
 ·subst h0;have:=Lg.term_base l;rw[hb,h.2] at this;rw[this,Mx];simp
 ·by_cases h1:i≤l.es.length
  ·obtain⟨h',e⟩:=Lg.term_in (l:=l) (i:=i) (by omega);obtain⟨k,rfl⟩:∃k,i=k+1:=⟨i-1,by omega⟩
   rw[e,tA_in (by omega)];have e2:k+1-l.base-1=k:=by omega
   simp only[e2];rw[decide_eq_true h1]
  ·rw[Lg.term_out (by omega),F_ (by omega),decide_eq_false h1]
theorem lastT (h:Lg0 l):l.lastT=tA l.es l.es.length:=by
 unfold Lg.lastT;rw[h.2];rcases List.eq_nil_or_concat l.es with e | ⟨r,x,e⟩
 ·rw[e];rfl
 ·rw[e,List.concat_eq_append,List.length_append,List.length_singleton,yX];simp
theorem newer (h:Lg0 l) (t i:Nat):l.newer t i=true↔tA l.es l.es.length<t∨(t=tA l.es l.es.length∧l.es.length≤i):=by
 unfold Lg.newer;rw[h.lastT,h.last];simp
theorem add (h:Lg0 l) (x:En):Lg0 (l.add x)∧(l.add x).es=l.es++[x]:=⟨h,rfl⟩
end Lg0
theorem lay_cases (l:Lg) (h:Lg0 l):∀(es:List En) (p:Nat),p≤l.es.length→
 (l.lay p es=l∧p+es.length≤l.es.length∧∀k (hk:k<es.length),tA l.es (p+k+1)=es[k].t)∨
 (∃q,q<es.length∧p+q≤l.es.length∧(∀k (hk:k<q) (hk2:k<es.length),tA l.es (p+k+1)=es[k].t)∧(∀hq:q<es.length,¬(p+q+1≤l.es.length∧tA l.es (p+q+1)=es[q].t))∧l.lay p es={ l with es:=l.es.take (p+q)++es.drop q })
 | [],p,hp=>.inl ⟨rfl,by simpa using hp,fun k hk=>absurd hk (by simp)⟩
 | x :: xs,p,hp=>by
  unfold Lg.lay;rw[h.term];split
  ·rename_i e;have e1:tA l.es (p+1)=x.t:=congrArg Prod.fst e;have e2:p+1≤l.es.length:=by simpa using congrArg Prod.snd e
   rcases lay_cases l h xs (p+1) e2 with⟨a,b,c⟩ | ⟨q,a,b,c,d,f⟩
   ·refine .inl ⟨a,by rw[List.length_cons];omega,fun k hk=>?_⟩;cases k with
    | zero=>exact e1
    | succ k=>rw[show p+(k+1)+1=p+1+k+1 by omega];exact c k (by simpa using hk)
   ·refine .inr ⟨q+1,by rw[List.length_cons];omega,by omega,fun k hk hk2=>?_,fun hq=>?_,?_⟩
    ·cases k with
     | zero=>exact e1
     | succ k=>rw[show p+(k+1)+1=p+1+k+1 by omega];exact c k (by omega) (by simpa using hk2)
    ·rw[show p+(q+1)+1=p+1+q+1 by omega];exact d (by simpa using hq)
    ·rw[f,show p+1+q=p+(q+1) by omega];rfl
  ·rename_i e;refine .inr ⟨0,by simp,hp,fun k hk=>absurd hk (by omega),fun hq k=>e ?_,?_⟩
   ·rw[Nat.add_zero] at k;show (tA l.es (p+1),decide (p+1≤l.es.length))=(x.t,true)
    rw[decide_eq_true k.1,k.2];rfl
   ·rw[h.1];rfl
theorem KQ {l:Lg} (h:Lg0 l) {ld es:List En} {p:Nat} (hp:Pre p l.es ld) (he:p+es.length≤ld.length) (hes:∀k (hk:k<es.length),ld[p+k]? = some es[k])
 (LM:∀i,i≤l.es.length→i≤ld.length→tA l.es i=tA ld i→Pre i l.es ld):
 Lg0 (l.lay p es)∧Pre (p+es.length) (l.lay p es).es ld∧(∀c,Pre c l.es ld→Pre c (l.lay p es).es ld)∧((l.lay p es).es=l.es∨(l.lay p es).es=ld.take (p+es.length)):=by
 have hb:=Lg.lay_base l es p;have H0:Lg0 (l.lay p es):=⟨hb.1.trans h.1,hb.2.trans h.2⟩
 have tl:∀k (hk:k<es.length),tA ld (p+k+1)=es[k].t:=fun k hk=>by rw[kJ,hes k hk];rfl
 rcases lay_cases l h es p hp.1 with⟨a,b,c⟩ | ⟨q,a,b,c,d,f⟩
 ·rw[a];refine⟨h,?_,fun c k=>k,.inl rfl⟩;cases hn:es.length with
  | zero=>exact hp
  | succ n=>
   have:=c n (by omega);rw[←tl n (by omega)] at this;rw[show p+(n+1)=p+n+1 by omega];exact LM _ (by omega) (by omega) this
 ·have pq:Pre (p+q) l.es ld:=by
   cases hn:q with
   | zero=>exact hp
   | succ n=>
    have:=c n (by omega) (by omega);rw[←tl n (by omega)] at this;rw[show p+(n+1)=p+n+1 by omega];exact LM _ (by omega) (by omega) this
  have E:(l.lay p es).es=ld.take (p+es.length):=by
   rw[f];show l.es.take (p+q)++es.drop q=_;rw[pq.2.2];apply List.ext_getElem?;intro i;by_cases hi:i<p+q
   ·rw[List.getElem?_append_left (by rw[List.length_take];omega),List.getElem?_take_of_lt hi,List.getElem?_take_of_lt (by omega)]
   ·rw[List.getElem?_append_right (by rw[List.length_take];omega),List.length_take,Nat.min_eq_left (by omega),List.getElem?_drop];by_cases h2:i<p+es.length
    ·rw[List.getElem?_take_of_lt h2];have:=hes (i-p) (by omega);rw[show p+(i-p)=i by omega] at this;rw[this,show q+(i-(p+q))=i-p by omega,List.getElem?_eq_getElem (by omega)]
    ·rw[List.getElem?_eq_none (by omega),List.getElem?_eq_none (by rw[List.length_take];omega)]
  refine⟨H0,by rw[E];exact Pre.take (Nat.le_refl _) he,fun c k=>?_,.inr E⟩
  have:c≤p+q:=by
   by_cases hc:c≤p+q
   ·exact hc
   ·refine absurd ⟨?_,?_⟩ (d a)
    ·have:=k.1;omega
    ·rw[←tl q a];exact k.tA (by omega)
  rw[E];exact Pre.take (by omega) k.2.1
structure Gh where
 L:Nat→Option (Nat×List En)
 vt:Nat→Nat→Option (Nat×List En×Bool)
 cl:Nat→Nat→List En
 ak:Nat→Nat→Nat
def WF (L:Nat→Option (Nat×List En)) (x:List En):Prop:=∀i,1≤i→i≤x.length→(∃c l,L (tA x i)=some (c,l)∧Pre i x l)∧∀j,i≤j→j≤x.length→tA x i≤tA x j
def Has (L:Nat→Option (Nat×List En)) (t i:Nat) (x:List En):Prop:=∃c l,L t=some (c,l)∧Pre i l x
def Maj (many:Nat) (p:Nat→Prop):Prop:=∃Q:List Nat,Q.Nodup∧(∀x∈Q,x<many∧p x)∧many<2*Q.length
def Thru (L:Nat→Option (Nat×List En)) (t i T:Nat):Prop:=∀u,t<u→u<T→∀c l,L u=some (c,l)→Has L t i l
def Chosen (many:Nat) (g:Gh) (t i:Nat):Prop:=∃c l,g.L t=some (c,l)∧1≤i∧i≤l.length∧tA l i=t∧Maj many fun j=>i≤g.ak j t
def Nwr (a b:List En):Prop:=tA b b.length<tA a a.length∨(tA a a.length=tA b b.length∧b.length≤a.length)
theorem Nwr.refl (a:List En):Nwr a a:=.inr ⟨rfl,Nat.le_refl _⟩
theorem WF.lm {L:Nat→Option (Nat×List En)} {x y:List En} (hx:WF L x) (hy:WF L y) (i:Nat) (h1:i≤x.length) (h2:i≤y.length) (e:tA x i=tA y i):Pre i x y:=by
 cases i with
 | zero=>exact Pre.zero
 | succ i=>
  obtain⟨⟨c,l,e1,p1⟩,-⟩:=hx (i+1) (by omega) h1;obtain⟨⟨c',l',e2,p2⟩,-⟩:=hy (i+1) (by omega) h2;rw[e,e2] at e1;cases e1;exact p1.trans p2.symm
theorem WF.nil (L:Nat→Option (Nat×List En)):WF L []:=fun i h1 h2=>by simp at h2;omega
theorem WF.take {L:Nat→Option (Nat×List En)} {x:List En} (h:WF L x) (k:Nat):WF L (x.take k):=fun i h1 h2=>by
 rw[List.length_take] at h2;obtain⟨⟨c,l,e,p⟩,m⟩:=h i h1 (by omega);refine⟨⟨c,l,by rw[l8 (by omega)];exact e,(Pre.take (by omega) (by omega)).trans p⟩,fun j hj h3=>?_⟩;rw[List.length_take] at h3;rw[l8 (by omega),l8 (by omega)];exact m j hj (by omega)
theorem WF.mono {L:Nat→Option (Nat×List En)} {x:List En} (h:WF L x) {i j:Nat} (hi:i≤j) (hj:j≤x.length):tA x i≤tA x j:=by
 cases i with
 | zero=>exact Nat.zero_le _
 | succ i=>exact(h (i+1) (by omega) (by omega)).2 j hi hj
theorem nodup_le {many:Nat} {Q:List Nat} (h:Q.Nodup) (hm:∀x∈Q,x<many):Q.length≤many:=by
 have:=h.length_le_of_subset (l₂:=List.range many) fun x hx=>List.mem_range.2 (hm x hx)
 rwa [List.length_range] at this
theorem Maj.meet {many:Nat} {p q:Nat→Prop} (h:Maj many p) (k:Maj many q):∃x,x<many∧p x∧q x:=by
 obtain⟨Q,n1,m1,l1⟩:=h;obtain⟨R,n2,m2,l2⟩:=k;by_cases hx:∃x∈Q,x∈R
 ·obtain⟨x,a,b⟩:=hx;exact⟨x,(m1 x a).1,(m1 x a).2,(m2 x b).2⟩
 ·have:(Q++R).Nodup:=List.nodup_append.2 ⟨n1,n2,fun a ha b hb e=>hx ⟨a,ha,e▸hb⟩⟩;have:=nodup_le this (many:=many) fun x hx=>(List.mem_append.1 hx).elim (fun a=>(m1 x a).1) fun a=>(m2 x a).1
  rw[List.length_append] at this;omega
theorem Maj.mono {many:Nat} {p q:Nat→Prop} (h:Maj many p) (k:∀x,x<many→p x→q x):Maj many q:=by
 obtain⟨Q,n1,m1,l1⟩:=h;exact⟨Q,n1,fun x hx=>⟨(m1 x hx).1,k x (m1 x hx).1 (m1 x hx).2⟩,l1⟩
structure GhI (many:Nat) (g:Gh) (T:Nat→Nd):Prop where
 wl:∀t c l,g.L t=some (c,l)→c<many∧1≤t∧WF g.L l∧(∀i,tA l i≤t)∧t≤(T c).tm∧(t=(T c).tm→(T c).role=3)
 el:∀t c l,g.L t=some (c,l)→Maj many (fun j=>∃v,g.vt j t=some (c,v,true))∧Pre (g.cl c t).length (g.cl c t) l∧WF g.L (g.cl c t)∧(∀i,tA (g.cl c t) i<t)
 vt:∀j t c v b,g.vt j t=some (c,v,b)→j<many∧c<many∧t≤(T j).tm∧t≤(T c).tm∧(t=(T j).tm→(T j).vote=((c:Nat):Int))
 vh:∀j t c v,g.vt j t=some (c,v,true)→Nwr (g.cl c t) v∧WF g.L v∧(∀i,tA v i<t)∧∀u,u<t→∀i,1≤i→i≤g.ak j u→Thru g.L u i t→Has g.L u i v
 ve:∀j t c v b,g.L t=none→g.vt j t=some (c,v,b)→b=true
 ak:∀j t,1≤g.ak j t→j<many∧t≤(T j).tm∧∃c l,g.L t=some (c,l)∧g.ak j t≤l.length
theorem GhI.lc {many:Nat} {g:Gh} {T:Nat→Nd} (h:GhI many g T) {t i:Nat} (hc:Chosen many g t i):∀u,t<u→∀c l,g.L u=some (c,l)→Has g.L t i l:=by
 obtain⟨ct,lt,e1,hi,hl,ht,hm⟩:=hc;intro u
 induction u using Nat.strongRecOn with
 | _ u ih=>
  intro hu c l e2;obtain⟨hv,pc,wc,bc⟩:=h.el u c l e2;obtain⟨j,hj,⟨v,ev⟩,ha⟩:=hv.meet hm;obtain⟨nw,wv,bv,hh⟩:=h.vh j u c v ev;obtain⟨c0,l0,e0,pv⟩:=hh t hu i hi ha fun u' a b=>ih u' b a
  rw[e1] at e0;cases e0;have tv:tA v i=t:=by rw[←pv.tA (Nat.le_refl _),ht]
  have lv:=pv.2.1;have mv:=wv.mono (i:=i) (j:=v.length) lv (Nat.le_refl _);rw[tv] at mv;obtain⟨-,t1,wl,-⟩:=h.wl t ct lt e1
  have hle:tA v v.length≤tA (g.cl c u) (g.cl c u).length:=by
   rcases nw with q | q
   ·omega
   ·omega
  have e1':1≤(g.cl c u).length:=by
   by_cases h0:(g.cl c u).length=0
   ·rw[h0,Mx] at hle;omega
   ·omega
  obtain⟨⟨cT,lT,eT,pT⟩,-⟩:=wc (g.cl c u).length e1' (Nat.le_refl _)
  have key:Pre i lt (g.cl c u):=by
   by_cases hT:tA (g.cl c u) (g.cl c u).length=t
   ·rw[hT,e1] at eT;cases eT
    have:i≤(g.cl c u).length:=by
     rcases nw with q | q
     ·omega
     ·omega
    exact(pT.le this).symm
   ·have hlt:t<tA (g.cl c u) (g.cl c u).length:=by omega
    obtain⟨c3,l3,e3,p3⟩:=ih _ (bc _) hlt cT lT eT;rw[e1] at e3;cases e3;by_cases hie:i≤(g.cl c u).length
    ·exact p3.trans (pT.le hie).symm
    ·obtain⟨-,-,wT,-⟩:=h.wl _ cT lT eT;have:=wT.mono (i:=(g.cl c u).length) (j:=i) (by omega) p3.2.1;rw[←pT.tA (Nat.le_refl _),←p3.tA (Nat.le_refl _),ht] at this;omega
  exact⟨ct,lt,e1,key.trans (pc.le key.2.1)⟩
structure NI (many:Nat) (g:Gh) (j:Nat) (n:Nd):Prop where
 me:n.me=((j:Nat):Int)
 conf:n.conf=cfN many
 l0:Lg0 n.log
 wn:WF g.L n.log.es∧∀i,tA n.log.es i≤n.tm
 ld:n.role=3→g.L n.tm=some (j,n.log.es)
 vn:n.vote≠-1→∃c v b,n.vote=((c:Nat):Int)∧g.vt j n.tm=some (c,v,b)
 cd:n.role=2→g.cl j n.tm=n.log.es∧(∀i,tA n.log.es i<n.tm)∧∀y∈n.yes,∃k v b,y=((k:Nat):Int)∧k<many∧g.vt k n.tm=some (j,v,b)
 ma:n.role=3→∀y,y<many→n.mat.getD y 0≤g.ak y n.tm
 nx:n.role=3→∀y:Nat,n.next.getD y 0≤n.log.es.length+1
 ah:∀t i,1≤i→i≤g.ak j t→Thru g.L t i (n.tm+1)→Has g.L t i n.log.es
 co:n.commit=0∨∃t,t≤n.tm∧∃i,Chosen many g t i∧n.commit≤i∧Has g.L t n.commit n.log.es
 rl:0≤n.role∧n.role≤3
 m16:n.mat.length=16
structure MI (many:Nat) (g:Gh) (T:Nat→Nd) (m:Ms):Prop where
 ad:∃a b:Nat,m.src=((a:Nat):Int)∧m.dst=((b:Nat):Int)∧a<many∧b<many∧a≠b
 k1:m.kind=1→∀a:Nat,m.src=(a:Nat)→1≤m.tm∧m.prev=tA (g.cl a m.tm) (g.cl a m.tm).length∧m.index=(g.cl a m.tm).length∧m.tm≤(T a).tm
 k2:m.kind=2→m.ok=true→∀a b:Nat,m.src=(a:Nat)→m.dst=(b:Nat)→∃v e,g.vt a m.tm=some (b,v,e)
 k5:m.kind=5→∀a:Nat,m.src=(a:Nat)→∃l,g.L m.tm=some (a,l)∧m.index+m.es.length≤l.length∧m.prev=tA l m.index∧(∀k (hk:k<m.es.length),l[m.index+k]? = some m.es[k])∧(m.commit=0∨∃t,t≤m.tm∧∃i,Chosen many g t i∧m.commit≤i)
 k6:m.kind=6→m.ok=true→∀a:Nat,m.src=(a:Nat)→m.index≤g.ak a m.tm
 k7:m.kind=6→m.ok=false→m.prev=0∨∃c l,g.L m.tm=some (c,l)∧m.index≤l.length
structure kv (many:Nat) (s:Gs):Prop where
 ids:Ids many s
 gh:∃g,GhI many g (fun j=>s.ns.getD j default)∧(∀j,j<many→NI many g j (s.ns.getD j default))∧∀m∈s.ms,MI many g (fun j=>s.ns.getD j default) m
theorem m5Z {p:Prop} (h:p:=by
 by_cases hc:c=j
 ·subst hc;rw[cQ,cQ];exact ht
 ·rw[j6 _ _ hc,j6 _ _ hc];exact Nat.le_refl _):p:=h
structure Ext (j t0:Nat) (g g':Gh):Prop where
 L:∀t c l,g.L t=some (c,l)→∃r,g'.L t=some (c,l++r)∧(∀x∈r,x.t=t)∧(c≠j→r=[])
 Ln:∀t c l,g'.L t=some (c,l)→(∃l0,g.L t=some (c,l0))∨(g.L t=none∧c=j)
 vt:∀k t v,g.vt k t=some v→g'.vt k t=some v
 vn:∀k t v,k≠j→g'.vt k t=some v→g.vt k t=some v
 cl:∀c t,c≠j∨t≤t0→g'.cl c t=g.cl c t
 ak:∀k t,g.ak k t≤g'.ak k t
 an:∀k t,k≠j∨t<t0→g'.ak k t=g.ak k t
section
variable {j t0 t1 many:Nat} {g g' g'':Gh} {T:Nat→Nd}
theorem Ext.refl (j t0:Nat) (g:Gh):Ext j t0 g g:=⟨fun t c l h=>⟨[],by rw[List.append_nil];exact h,(fun x hx=>by cases hx),fun _=>rfl⟩,fun t c l h=>.inl ⟨l,h⟩,fun _ _ _ h=>h,fun _ _ _ _ h=>h,fun _ _ _=>rfl,fun _ _=>Nat.le_refl _,fun _ _ _=>rfl⟩
theorem Ext.trans (h:Ext j t0 g g') (k:Ext j t1 g' g'') (ht:t0≤t1):Ext j t0 g g'':=by
 refine⟨fun t c l e=>?_,fun t c l e=>?_,fun _ _ _ e=>k.vt _ _ _ (h.vt _ _ _ e),fun _ _ _ n e=>h.vn _ _ _ n (k.vn _ _ _ n e),fun c t o=>?_,fun _ _=>Nat.le_trans (h.ak _ _) (k.ak _ _),fun c t o=>?_⟩
 ·obtain⟨r,e1,a1,b1⟩:=h.L t c l e;obtain⟨r2,e2,a2,b2⟩:=k.L t c _ e1;refine⟨r++r2,by rw[←List.append_assoc];exact e2,fun x hx=>(List.mem_append.1 hx).elim (a1 x) (a2 x),fun n=>?_⟩;rw[b1 n,b2 n];rfl
 ·rcases k.Ln t c l e with⟨l1,e1⟩ | ⟨e1,rfl⟩
  ·exact h.Ln t c l1 e1
  ·cases e0:g.L t with
   | none=>exact .inr ⟨rfl,rfl⟩
   | some v=>
    obtain⟨c0,l0⟩:=v;obtain⟨r,e2,-,-⟩:=h.L t c0 l0 e0;rw[e1] at e2;cases e2
 ·rw[k.cl c t (o.imp id fun q=>by omega),h.cl c t o]
 ·rw[k.an c t (o.imp id fun q=>by omega),h.an c t o]
theorem Ext.none (h:Ext j t0 g g') {t:Nat} (e:g'.L t=none):g.L t=none:=by
 cases e0:g.L t with
 | none=>rfl
 | some v=>
  obtain⟨c0,l0⟩:=v;obtain⟨r,e2,-,-⟩:=h.L t c0 l0 e0;rw[e] at e2;cases e2
theorem WF.ext {x:List En} (h:WF g.L x) (k:Ext j t0 g g'):WF g'.L x:=fun i h1 h2=>by
 obtain⟨⟨c,l,e,p⟩,m⟩:=h i h1 h2;obtain⟨r,e2,-,-⟩:=k.L _ c l e;exact⟨⟨c,_,e2,p.appR⟩,m⟩
theorem Has.ext {x:List En} {t i:Nat} (h:Has g.L t i x) (k:Ext j t0 g g'):Has g'.L t i x:=by
 obtain⟨c,l,e,p⟩:=h;obtain⟨r,e2,-,-⟩:=k.L _ c l e;exact⟨c,_,e2,p.symm.appR.symm⟩
theorem Has.back {x:List En} {t i c:Nat} {l:List En} (h:Has g'.L t i x) (k:Ext j t0 g g') (e:g.L t=some (c,l)) (hi:i≤l.length):Has g.L t i x:=by
 obtain⟨c',l',e',p⟩:=h;obtain⟨r,e2,-,-⟩:=k.L _ c l e;rw[e'] at e2;cases e2;exact⟨c,l,e,(Pre.app hi).trans p⟩
theorem Thru.back {t i u c:Nat} {l:List En} (h:Thru g'.L t i u) (k:Ext j t0 g g') (e:g.L t=some (c,l)) (hi:i≤l.length) (hb:∀q,tA l q≤t):Thru g.L t i u:=fun v hv hu c1 l1 e1=>by
 obtain⟨r,e2,hr,-⟩:=k.L v c1 l1 e1;have h1:=(h v hv hu c1 _ e2).back k e hi;obtain⟨c',l',e',p⟩:=h1;rw[e] at e';cases e'
 have:i≤l1.length:=by
  by_cases hl:i≤l1.length
  ·exact hl
  ·obtain⟨q,rfl⟩:∃q,i=q+1:=⟨i-1,by omega⟩
   have h2:=p.tA (Nat.le_refl _);have h3:=p.2.1;rw[tA_in (l:=l1++r) (by omega),List.getElem_append_right (by omega)] at h2;have h4:=hr _ (List.getElem_mem (l:=r) (n:=q-l1.length) (by rw[List.length_append] at h3;omega));have h5:=hb (q+1);omega
 exact⟨c,l,e,p.trans (Pre.app this).symm⟩
theorem Thru.le {L:Nat→Option (Nat×List En)} {t i u v:Nat} (h:Thru L t i v) (hv:u≤v):Thru L t i u:=fun a h1 h2=>h a h1 (by omega)
theorem Chosen.ext {t i:Nat} (h:Chosen many g t i) (k:Ext j t0 g g'):Chosen many g' t i:=by
 obtain⟨c,l,e,h1,h2,h3,h4⟩:=h;obtain⟨r,e2,-,-⟩:=k.L _ c l e;exact⟨c,_,e2,h1,by rw[List.length_append];omega,by rw[sx h2];exact h3,h4.mono fun x _ q=>Nat.le_trans q (k.ak _ _)⟩
theorem NI.ext {k:Nat} {n:Nd} (h:NI many g k n) (hg:GhI many g T) (hk:k≠j) (e:Ext j t0 g g'):NI many g' k n:=by
 refine⟨h.me,h.conf,h.l0,⟨h.wn.1.ext e,h.wn.2⟩,fun q=>?_,fun q=>?_,fun q=>?_,fun q y hy=>Nat.le_trans (h.ma q y hy) (e.ak _ _),h.nx,fun t i h1 h2 ht=>?_,?_,h.rl,h.m16⟩
 ·obtain⟨r,e2,-,e3⟩:=e.L _ _ _ (h.ld q);rw[e3 hk,List.append_nil] at e2;exact e2
 ·obtain⟨c,v,b,e1,e2⟩:=h.vn q;exact⟨c,v,b,e1,e.vt _ _ _ e2⟩
 ·obtain⟨e1,e2,e3⟩:=h.cd q;refine⟨by rw[e.cl _ _ (.inl hk)];exact e1,e2,fun y hy=>?_⟩;obtain⟨a,v,b,e4,e5,e6⟩:=e3 y hy;exact⟨a,v,b,e4,e5,e.vt _ _ _ e6⟩
 ·rw[e.an _ _ (.inl hk)] at h2;obtain⟨-,-,c,l,e1,e2⟩:=hg.ak k t (by omega);exact(h.ah t i h1 h2 (ht.back e e1 (by omega) (hg.wl t c l e1).2.2.2.1)).ext e
 ·rcases h.co with q | ⟨t,ht,i,hc,hl,hh⟩
  ·exact .inl q
  ·exact .inr ⟨t,ht,i,hc.ext e,hl,hh.ext e⟩
theorem MI.ext {T':Nat→Nd} {m:Ms} (h:MI many g T m) (e:Ext j t0 g g') (h0:(T j).tm=t0) (hT:∀a,(T a).tm≤(T' a).tm):MI many g' T' m:=by
 refine⟨h.ad,fun q a ha=>?_,fun q o a b ha hb=>?_,fun q a ha=>?_,fun q o a ha=>Nat.le_trans (h.k6 q o a ha) (e.ak _ _),fun q o=>?_⟩
 ·obtain⟨e0,e1,e2,e3⟩:=h.k1 q a ha;have:=hT a;rw[e.cl a m.tm ((Decidable.em (a=j)).elim (fun q=>.inr (by subst q;omega)) .inl)];exact⟨e0,e1,e2,by omega⟩
 ·obtain⟨v,x,e1⟩:=h.k2 q o a b ha hb;exact⟨v,x,e.vt _ _ _ e1⟩
 ·obtain⟨l,e1,e2,e3,e4,e5⟩:=h.k5 q a ha;obtain⟨r,f1,-,-⟩:=e.L _ _ _ e1;refine⟨_,f1,by rw[List.length_append];omega,by rw[sx (by omega)];exact e3,fun k hk=>by rw[List.getElem?_append_left (by omega)];exact e4 k hk,?_⟩;rcases e5 with q | ⟨t,ht,i,hc,hl⟩
  ·exact .inl q
  ·exact .inr ⟨t,ht,i,hc.ext e,hl⟩
 ·rcases h.k7 q o with q | ⟨c,l,e1,e2⟩
  ·exact .inl q
  ·obtain⟨r,f1,-,-⟩:=e.L _ _ _ e1;exact .inr ⟨c,_,f1,by rw[List.length_append];omega⟩
end
def upd (T:Nat→Nd) (j:Nat) (n:Nd):Nat→Nd:=fun k=>if k=j then n else T k
theorem cQ (T:Nat→Nd) (j:Nat) (n:Nd):upd T j n j=n:=if_pos rfl
theorem j6 (T:Nat→Nd) {j k:Nat} (n:Nd) (h:k≠j):upd T j n k=T k:=if_neg h
structure Wl (many j:Nat) (T:Nat→Nd) (g:Gh) (n:Nd):Prop where
 hj:j<many
 gi:GhI many g (upd T j n)
 ni:NI many g j n
theorem GhI.next {many j:Nat} {T:Nat→Nd} {g g':Gh} {n n':Nd} (hj:j<many) (h:GhI many g (upd T j n)) (e:Ext j n.tm g g') (ht:n.tm≤n'.tm)
 (o1:∀t l,g'.L t=some (j,l)→1≤t∧WF g'.L l∧(∀i,tA l i≤t)∧t≤n'.tm∧(t=n'.tm→n'.role=3))
 (o2:∀t l,g'.L t=some (j,l)→g.L t=none→Maj many (fun k=>∃v,g'.vt k t=some (j,v,true))∧Pre (g'.cl j t).length (g'.cl j t) l∧WF g'.L (g'.cl j t)∧(∀i,tA (g'.cl j t) i<t))
 (o3:∀t c v b,g'.vt j t=some (c,v,b)→c<many∧t≤n'.tm∧t≤(upd T j n' c).tm∧(t=n'.tm→n'.vote=((c:Nat):Int)))
 (o4:∀t c v b,g'.vt j t=some (c,v,b)→g.vt j t=none→(g'.L t=none→b=true)∧(b=true→Nwr (g'.cl c t) v∧WF g'.L v∧(∀i,tA v i<t)∧∀u,u<t→∀i,1≤i→i≤g'.ak j u→Thru g'.L u i t→Has g'.L u i v))
 (o6:∀t,1≤g'.ak j t→t≤n'.tm∧∃c l,g'.L t=some (c,l)∧g'.ak j t≤l.length):GhI many g' (upd T j n'):=by
 have up:∀c,(upd T j n c).tm≤(upd T j n' c).tm:=fun c=>by exact m5Z
 have clE:∀c t,t≤(upd T j n c).tm→g'.cl c t=g.cl c t:=fun c t h=>e.cl c t (by
  by_cases hc:c=j
  ·subst hc;rw[cQ] at h;exact .inr h
  ·exact .inl hc)
 refine⟨fun t c l q=>?_,fun t c l q=>?_,fun k t c v b q=>?_,fun k t c v q=>?_,fun k t c v b q q2=>?_,fun k t q=>?_⟩
 ·by_cases hc:c=j
  ·subst hc;obtain⟨a1,a2,a3,a4,a5⟩:=o1 t l q;rw[cQ];exact⟨hj,a1,a2,a3,a4,a5⟩
  ·rcases e.Ln t c l q with⟨l0,e0⟩ | ⟨-,e1⟩
   ·obtain⟨r,e2,-,e3⟩:=e.L t c l0 e0;rw[e3 hc,List.append_nil,q] at e2;cases e2;obtain⟨a0,a1,a2,a3,a4,a5⟩:=h.wl t c _ e0;rw[j6 _ _ hc] at a4 a5 ⊢;exact⟨a0,a1,a2.ext e,a3,a4,a5⟩
   ·exact absurd e1 hc
 ·rcases e.Ln t c l q with⟨l0,e0⟩ | ⟨e1,rfl⟩
  ·obtain⟨r,e2,-,-⟩:=e.L t c l0 e0;rw[q] at e2;cases e2;obtain⟨a1,a2,a3,a4⟩:=h.el t c _ e0;rw[clE c t (h.wl t c _ e0).2.2.2.2.1];exact⟨a1.mono fun x _ ⟨v,hv⟩=>⟨v,e.vt _ _ _ hv⟩,a2.appR,a3.ext e,a4⟩
  ·exact o2 t l q e1
 ·by_cases hk:k=j
  ·subst hk;obtain⟨a1,a2,a3,a4⟩:=o3 t c v b q;rw[cQ];exact⟨hj,a1,a2,a3,a4⟩
  ·obtain⟨a1,a2,a3,a4,a5⟩:=h.vt k t c v b (e.vn _ _ _ hk q);rw[j6 _ _ hk] at a3 a5 ⊢;exact⟨a1,a2,a3,Nat.le_trans a4 (up c),a5⟩
 ·cases q0:g.vt k t with
  | some v0=>
   have:=e.vt _ _ _ q0;rw[q] at this;cases this;obtain⟨b1,b2,b3,b4,b5⟩:=h.vt k t c v _ q0;obtain⟨a1,a2,a3,a4⟩:=h.vh k t c v q0;rw[clE c t b4];refine⟨a1,a2.ext e,a3,fun u hu i hi ha hT=>?_⟩;rw[e.an k u ((Decidable.em (k=j)).elim (fun q=>.inr (by subst q;rw[cQ] at b3;omega)) .inl)] at ha;obtain⟨-,-,c1,l1,e1,e2⟩:=h.ak k u (by omega);exact(a4 u hu i hi ha (hT.back e e1 (by omega) (h.wl u c1 l1 e1).2.2.2.1)).ext e
  | none=>
   by_cases hk:k=j
   ·subst hk;exact(o4 t c v _ q q0).2 rfl
   ·rw[e.vn _ _ _ hk q] at q0;cases q0
 ·cases q0:g.vt k t with
  | some v0=>
   have:=e.vt _ _ _ q0;rw[q2] at this;cases this;exact h.ve k t c v b (e.none q) q0
  | none=>
   by_cases hk:k=j
   ·subst hk;exact(o4 t c v _ q2 q0).1 q
   ·rw[e.vn _ _ _ hk q2] at q0;cases q0
 ·by_cases hk:k=j
  ·subst hk;rw[cQ];exact⟨hj,o6 t q⟩
  ·rw[e.an _ _ (.inl hk)] at q ⊢;obtain⟨a1,a2,c,l,e1,e2⟩:=h.ak k t q;rw[j6 _ _ hk] at a2 ⊢;obtain⟨r,f1,-,-⟩:=e.L _ _ _ e1;exact⟨a1,a2,c,_,f1,by rw[List.length_append];omega⟩
structure Goes (many j:Nat) (T:Nat→Nd) (g:Gh) (n:Nd) (g':Gh) (n':Nd):Prop where
 ex:Ext j n.tm g g'
 wl:Wl many j T g' n'
 tm:n.tm≤n'.tm
theorem Goes.trans {many j:Nat} {T:Nat→Nd} {g g' g'':Gh} {n n' n'':Nd} (h:Goes many j T g n g' n') (k:Goes many j T g' n' g'' n''):Goes many j T g n g'' n'':=
 ⟨h.ex.trans k.ex h.tm,k.wl,Nat.le_trans h.tm k.tm⟩
theorem Goes.refl {many j:Nat} {T:Nat→Nd} {g:Gh} {n:Nd} (h:Wl many j T g n):Goes many j T g n g n:=⟨Ext.refl _ _ _,h,Nat.le_refl _⟩
theorem mNZ {p:Prop} (h:p:=by
 obtain⟨-,a1,a2,a3,a4,a5⟩:=h.gi.wl t j l q;rw[cQ] at a4 a5;exact⟨a1,a2,a3,a4,a5⟩):p:=h
theorem mOm {p:Prop} (h:p:=by
 obtain⟨-,a1,a2⟩:=h.gi.ak j t q;rw[cQ] at a1;exact⟨a1,a2⟩):p:=h
theorem ne23:¬(2:Int)=3:=by decide
theorem NJ:¬(0:Int)=3:=by decide
theorem ne02:¬(0:Int)=2:=by decide
theorem ne32:¬(3:Int)=2:=by decide
theorem rl0:(0:Int)≤0∧(0:Int)≤3:=by decide
theorem rl2:(0:Int)≤2∧(2:Int)≤3:=by decide
theorem rl3:(0:Int)≤3∧(3:Int)≤3:=by decide
section
variable {many j:Nat} {T:Nat→Nd} {g:Gh} {n:Nd}
theorem nW {n':Nd} (ht:n.tm≤n'.tm) (c:Nat):(upd T j n c).tm≤(upd T j n' c).tm:=by
 exact m5Z
theorem Has.app {L:Nat→Option (Nat×List En)} {t i:Nat} {x r:List En} (h:Has L t i x):Has L t i (x++r):=by
 obtain⟨c,l,e,p⟩:=h;exact⟨c,l,e,p.appR⟩
theorem Wl.quiet (h:Wl many j T g n) {n':Nd} (hme:n'.me=n.me) (hcf:n'.conf=n.conf) (hlg:n'.log=n.log) (hco:n'.commit=n.commit) (h16:n'.mat.length=16) (hrl:0≤n'.role∧n'.role≤3)
  (hq:(n.tm<n'.tm∧n'.vote=-1∧n'.role=0)∨(n'.tm=n.tm∧n'.vote=n.vote∧(n.role=3→n'.role=3)∧
   (n'.role=3→n.role=3∧(∀y,y<many→n'.mat.getD y 0≤g.ak y n.tm)∧∀y:Nat,n'.next.getD y 0≤n.log.es.length+1)∧
   (n'.role=2→n.role=2∧∀y∈n'.yes,y∈n.yes∨∃k v b,y=((k:Nat):Int)∧k<many∧g.vt k n.tm=some (j,v,b)))):Goes many j T g n g n':=by
 have ht:n.tm≤n'.tm:=by rcases hq with q | q <;> omega
 refine⟨Ext.refl _ _ _,⟨h.hj,GhI.next h.hj h.gi (Ext.refl _ _ _) ht (fun t l q=>?_) (fun t l q k=>by rw[q] at k;cases k) (fun t c v b q=>?_) (fun t c v b q k=>by rw[q] at k;cases k) (fun t q=>?_),?_⟩,ht⟩
 ·obtain⟨-,a1,a2,a3,a4,a5⟩:=h.gi.wl t j l q
  rw[cQ] at a4 a5
  refine⟨a1,a2,a3,by omega,fun e=>?_⟩
  rcases hq with k | k
  ·omega
  ·exact k.2.2.1 (a5 (by omega))
 ·obtain⟨-,a1,a2,a3,a4⟩:=h.gi.vt j t c v b q
  rw[cQ] at a2 a4
  refine⟨a1,by omega,Nat.le_trans a3 (nW ht c),fun e=>?_⟩
  rcases hq with k | k
  ·omega
  ·rw[k.2.1];exact a4 (by omega)
 ·obtain⟨-,a1,a2⟩:=h.gi.ak j t q
  rw[cQ] at a1
  exact⟨by omega,a2⟩
 ·have i:=h.ni
  refine⟨hme.trans i.me,hcf.trans i.conf,by rw[hlg];exact i.l0,⟨by rw[hlg];exact i.wn.1,fun x=>by rw[hlg];exact Nat.le_trans (i.wn.2 x) ht⟩,fun q=>?_,fun q=>?_,fun q=>?_,fun q=>?_,fun q=>?_,fun t x h1 h2 h3=>by rw[hlg];exact i.ah t x h1 h2 (h3.le (by omega)),?_,hrl,h16⟩
  ·rcases hq with k | k
   ·omega
   ·rw[k.1,hlg];exact i.ld (k.2.2.2.1 q).1
  ·rcases hq with k | k
   ·exact absurd k.2.1 q
   ·rw[k.2.1] at q ⊢;rw[k.1];exact i.vn q
  ·rcases hq with k | k
   ·omega
   ·obtain⟨r2,hy⟩:=k.2.2.2.2 q
    obtain⟨b1,b2,b3⟩:=i.cd r2
    rw[k.1,hlg]
    exact⟨b1,b2,fun y y1=>(hy y y1).elim (b3 y) id⟩
  ·rcases hq with k | k
   ·omega
   ·rw[k.1];exact(k.2.2.2.1 q).2.1
  ·rcases hq with k | k
   ·omega
   ·rw[hlg];exact(k.2.2.2.1 q).2.2
  ·rw[hco,hlg]
   rcases i.co with q | ⟨t,q,r⟩
   ·exact .inl q
   ·exact .inr ⟨t,by omega,r⟩
theorem Wl.up (h:Wl many j T g n) {t:Nat} (ht:n.tm<t) (ld:Int):Goes many j T g n g (n.follow t ld):=by
 have e:n.follow t ld={ n with tm:=t,vote:=-1,role:=0,ld:=ld,yes:=[] }:=if_pos ht;rw[e];exact h.quiet rfl rfl rfl rfl h.ni.m16 rl0 (.inl ⟨ht,rfl,rfl⟩)
theorem Wl.follow (h:Wl many j T g n) {t:Nat} (ht:n.tm≤t) (hr:t=n.tm→n.role≠3) (ld:Int):Goes many j T g n g (n.follow t ld):=by
 by_cases hl:n.tm<t
 ·exact h.up hl ld
 ·have e:n.follow t ld={ n with role:=0,ld:=ld,yes:=[] }:=if_neg hl;rw[e];exact h.quiet rfl rfl rfl rfl h.ni.m16 rl0 (.inr ⟨rfl,rfl,fun q=>absurd q (hr (by omega)),fun q=>absurd q NJ,fun q=>absurd q ne02⟩)
theorem N4 {t:Nat} {ld:Int} (ht:n.tm≤t):(n.follow t ld).tm=t∧(n.follow t ld).role=0∧(n.follow t ld).log=n.log:=by
 unfold Nd.follow;split
 ·exact⟨rfl,rfl,rfl⟩
 ·exact⟨by show n.tm=t;omega,rfl,rfl⟩
def gCand (g:Gh) (j:Nat) (n:Nd):Gh:=
 { g with vt:=fun k t=>if k=j∧t=n.tm+1 then some (j,n.log.es,(g.L (n.tm+1)).isNone) else g.vt k t,cl:=fun c t=>if c=j∧t=n.tm+1 then n.log.es else g.cl c t }
theorem Wl.cand (h:Wl many j T g n):Goes many j T g n (gCand g j n) { n with tm:=n.tm+1,vote:=n.me,role:=2,ld:=-1,yes:=[n.me] }:=by
 have E:Ext j n.tm g (gCand g j n):=⟨(Ext.refl j n.tm g).L,(Ext.refl j n.tm g).Ln,fun k t v q=>by
  show (if _ then _ else _)=_;rw[if_neg fun e=>?_]
  ·exact q
  ·obtain⟨rfl,rfl⟩:=e;obtain⟨c,v,b⟩:=v;have:=(h.gi.vt k _ c v b q).2.2.1;rw[cQ] at this;omega,fun k t v hk q=>by
  have:(if k=j∧t=n.tm+1 then _ else g.vt k t)=some v:=q;rw[if_neg fun e=>hk e.1] at this;exact this,fun c t o=>if_neg fun e=>by rcases o with q | q;exact q e.1;omega,fun _ _=>Nat.le_refl _,fun _ _ _=>rfl⟩
 have i:=h.ni;have ht:n.tm≤n.tm+1:=Nat.le_succ _;have vs:(gCand g j n).vt j (n.tm+1)=some (j,n.log.es,(g.L (n.tm+1)).isNone):=if_pos ⟨rfl,rfl⟩;have vo:∀t,t≠n.tm+1→(gCand g j n).vt j t=g.vt j t:=fun t q=>if_neg fun e=>q e.2
 have cs:(gCand g j n).cl j (n.tm+1)=n.log.es:=if_pos ⟨rfl,rfl⟩;refine⟨E,⟨h.hj,GhI.next h.hj h.gi E ht (fun t l q=>?_) (fun t l q k=>by rw[show (gCand g j n).L t=g.L t from rfl,k] at q;cases q) (fun t c v b q=>?_) (fun t c v b q k=>?_) (fun t q=>?_),?_⟩,ht⟩
 ·obtain⟨-,a1,a2,a3,a4,a5⟩:=h.gi.wl t j l q;rw[cQ] at a4 a5;exact⟨a1,a2,a3,by show t≤n.tm+1;omega,fun e=>by have:t=n.tm+1:=e;omega⟩
 ·by_cases hx:t=n.tm+1
  ·subst hx;rw[vs] at q;cases q;rw[cQ];exact⟨h.hj,Nat.le_refl _,Nat.le_refl _,fun _=>i.me⟩
  ·rw[vo t hx] at q;obtain⟨-,a1,a2,a3,a4⟩:=h.gi.vt j t c v b q;rw[cQ] at a2;exact⟨a1,by show t≤n.tm+1;omega,Nat.le_trans a3 (nW ht c),fun e=>absurd e hx⟩
 ·by_cases hx:t=n.tm+1
  ·subst hx;rw[vs] at q;cases q;refine⟨fun e=>by rw[show (gCand g j n).L (n.tm+1)=g.L (n.tm+1) from rfl] at e;rw[e];rfl,fun _=>?_⟩;rw[cs];exact⟨Nwr.refl _,i.wn.1,fun x=>by have:=i.wn.2 x;omega,fun u hu x h1 h2 h3=>i.ah u x h1 h2 h3⟩
  ·rw[vo t hx] at q;rw[q] at k;cases k
 ·obtain⟨-,a1,a2⟩:=h.gi.ak j t q;rw[cQ] at a1;exact⟨by show t≤n.tm+1;omega,a2⟩
 ·refine⟨i.me,i.conf,i.l0,⟨i.wn.1,fun x=>Nat.le_trans (i.wn.2 x) ht⟩,fun q=>absurd q ne23,fun q=>⟨j,_,_,i.me,vs⟩,fun q=>⟨cs,fun x=>by have:=i.wn.2 x;show tA n.log.es x<n.tm+1;omega,fun y hy=>?_⟩,fun q=>absurd q ne23,fun q=>absurd q ne23,fun t x h1 h2 h3=>i.ah t x h1 h2 (h3.le (by show n.tm+1≤n.tm+1+1;omega)),?_,rl2,i.m16⟩
  ·rw[List.mem_singleton.1 hy];exact⟨j,_,_,i.me,h.hj,vs⟩
  ·rcases i.co with q | ⟨t,q,x,q2,q3⟩
   ·exact .inl q
   ·exact .inr ⟨t,by show t≤n.tm+1;omega,x,q2.ext E,q3⟩
def gVote (g:Gh) (j a:Nat) (n:Nd):Gh:={ g with vt:=fun k t=>if k=j∧t=n.tm then some (a,n.log.es,(g.L n.tm).isNone) else g.vt k t }
theorem Wl.vote (h:Wl many j T g n) {a:Nat} (ha:a<many) (haj:a≠j) (hr:n.role=0) (ht1:1≤n.tm) (hta:n.tm≤(T a).tm) (hv:n.vote=-1∨n.vote=((a:Nat):Int)) (hn:Nwr (g.cl a n.tm) n.log.es):
 ∃g',Goes many j T g n g' { n with vote:=((a:Nat):Int) }∧∃v b,g'.vt j n.tm=some (a,v,b):=by
 have i:=h.ni;cases hq:g.vt j n.tm with
 | some x=>
  obtain⟨c,v,b⟩:=x;have e:=(h.gi.vt j n.tm c v b hq).2.2.2.2;rw[cQ] at e;have e:=e rfl
  have hc:c=a:=by
   rcases hv with q | q
   ·omega
   ·omega
  subst hc;exact⟨g,h.quiet rfl rfl rfl rfl i.m16 i.rl (.inr ⟨rfl,e.symm,id,fun q=>absurd (hr.symm.trans q) NJ,fun q=>absurd (hr.symm.trans q) ne02⟩),v,b,hq⟩
 | none=>
  have hv1:n.vote=-1:=by
   by_cases q:n.vote=-1
   ·exact q
   ·obtain⟨c,v,b,-,e⟩:=i.vn q;rw[hq] at e;cases e
  have vs:(gVote g j a n).vt j n.tm=some (a,n.log.es,(g.L n.tm).isNone):=if_pos ⟨rfl,rfl⟩;have vo:∀t,t≠n.tm→(gVote g j a n).vt j t=g.vt j t:=fun t q=>if_neg fun e=>q e.2
  have E:Ext j n.tm g (gVote g j a n):=⟨(Ext.refl j n.tm g).L,(Ext.refl j n.tm g).Ln,(fun k t v q=>by
   show (if _ then _ else _)=_;rw[if_neg fun e=>?_]
   ·exact q
   ·obtain⟨rfl,rfl⟩:=e;rw[hq] at q;cases q),(fun k t v hk q=>by
   have:(if k=j∧t=n.tm then _ else g.vt k t)=some v:=q;rw[if_neg fun e=>hk e.1] at this;exact this),fun _ _ _=>rfl,fun _ _=>Nat.le_refl _,fun _ _ _=>rfl⟩
  refine⟨_,⟨E,⟨h.hj,GhI.next h.hj h.gi E (Nat.le_refl _) (fun t l q=>?_) (fun t l q k=>by rw[show (gVote g j a n).L t=g.L t from rfl,k] at q;cases q) (fun t c v b q=>?_) (fun t c v b q k=>?_) (fun t q=>?_),?_⟩,Nat.le_refl _⟩,_,_,vs⟩
  ·exact mNZ
  ·by_cases hx:t=n.tm
   ·subst hx;rw[vs] at q;cases q;rw[j6 _ _ haj];exact⟨ha,Nat.le_refl _,hta,fun _=>rfl⟩
   ·rw[vo t hx] at q;obtain⟨-,a1,a2,a3,a4⟩:=h.gi.vt j t c v b q;rw[cQ] at a2;exact⟨a1,a2,Nat.le_trans a3 (nW (n':={ n with vote:=((a:Nat):Int) }) (Nat.le_refl n.tm) c),fun e=>absurd e hx⟩
  ·by_cases hx:t=n.tm
   ·subst hx;rw[vs] at q;cases q;refine⟨fun e=>by rw[show (gVote g j a n).L n.tm=g.L n.tm from rfl] at e;rw[e];rfl,fun hb=>?_⟩
    have hN:g.L n.tm=none:=by
     cases e:g.L n.tm with
     | none=>rfl
     | some x=>rw[e] at hb;cases hb
    refine⟨hn,i.wn.1,fun x=>?_,fun u hu x h1 h2 h3=>i.ah u x h1 h2 fun w h4 h5 c l h6=>?_⟩
    ·cases x with
     | zero=>exact ht1
     | succ x=>
      by_cases hl:x+1≤n.log.es.length
      ·obtain⟨⟨c,l,e1,-⟩,-⟩:=i.wn.1 (x+1) (by omega) hl;have h2:=i.wn.2 (x+1);have h3:tA n.log.es (x+1)≠n.tm:=fun e=>by rw[e,hN] at e1;cases e1
       omega
      ·rw[F_ (by omega)];exact ht1
    ·by_cases hw:w=n.tm
     ·subst hw;rw[hN] at h6;cases h6
     ·exact h3 w h4 (by omega) c l h6
   ·rw[vo t hx] at q;rw[q] at k;cases k
  ·exact mOm
  ·refine⟨i.me,i.conf,i.l0,i.wn,fun q=>absurd (hr.symm.trans q) NJ,fun q=>⟨a,_,_,rfl,vs⟩,fun q=>absurd (hr.symm.trans q) ne02,fun q=>absurd (hr.symm.trans q) NJ,fun q=>absurd (hr.symm.trans q) NJ,i.ah,?_,i.rl,i.m16⟩;rcases i.co with q | ⟨t,q,x,q2,q3⟩
   ·exact .inl q
   ·exact .inr ⟨t,q,x,q2.ext E,q3⟩
end
end Go.Proofs.YtmjccpfchhnfhaaGreat
