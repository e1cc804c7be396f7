/- Texts of the proofs, part 26: what the functions that they reach do, walked; no conditions beyond those that each states. -/
import Derived.Test.YtmjccpfchhnfhaaGreatZk5ca664ffe4
set_option linter.unusedVariables false
set_option linter.unusedSimpArgs false
set_option maxRecDepth 100000
set_option maxHeartbeats 8000000
namespace Go.Proofs.YtmjccpfchhnfhaaGreat
open Go.RowKit
theorem Nv {α:Type} {p q:Prop} [Decidable p] [Decidable q] {a b:α} (h:p↔q):(if p then a else b)=if q then a else b:=by
 by_cases hp:p
 ·rw[if_pos hp,if_pos (h.1 hp)]
 ·rw[if_neg hp,if_neg (fun e=>hp (h.2 e))]
theorem if_ce {α:Type} {q:Prop} [Decidable q] {a b c:α} (h:b=c):(if q then a else b)=if q then a else c:=by rw[h]
def tz (m:Ms):Int:=
 if m.kind<1∨12<m.kind then 30 else if m.src<0∨15<m.src∨m.dst<0∨15<m.dst then 31 else
 if 700<m.data.length∨8<m.es.length then 2 else if ∃x∈m.es,24<x.d.length then 2 else if ∃x∈m.es,x.k<0∨255<x.k then 30 else 0
namespace Nd
def led (n:Nd) (r:Nd×List Ms):Nd×List Ms:=if r.1.role=3∧(n.role≠3∨r.1.tm≠n.tm) then(r.1,r.2++r.1.beat) else r
def does (n:Nd) (m:Ms):Nd×List Ms:=if m.kind=1∨m.kind=3 then n.onAsk m else if m.kind=2∨m.kind=4 then n.onAnswer m else if m.kind=5 then n.onAppend m else n.onAcked m
def right (n:Nd) (m:Ms):Int:=if tz m≠0 then tz m else if m.dst≠n.me∨m.src=n.me then 31 else if 6<m.kind then 30 else
 if 1152921504606846976≤max (max (max m.tm m.index) m.prev) m.commit then 1 else 0
def step (n:Nd) (m:Ms):(Nd×List Ms)×Int:=if n.right m≠0 then((n,[]),n.right m) else(n.led (n.hear m),0)
def timeout (n:Nd):Nd×List Ms:=if n.role=3 then(n,[]) else if n.heard=true then({ n with heard:=false },[]) else n.led n.askF
variable {n:Nd} {m:Ms}
theorem Gx (h1:m.kind≠1) (h3:m.kind≠3):n.onAsk m=(n,[]):=if_neg (fun e=>e.elim h1 h3)
theorem pW (h1:m.kind≠2) (h3:m.kind≠4):n.onAnswer m=(n,[]):=if_neg (fun e=>e.elim h1 h3)
theorem kq (h:m.kind≠5):n.onAppend m=(n,[]):=if_pos h
theorem mX (h:m.kind≠6):n.onAcked m=(n,[]):=if_pos h
theorem does_hear (h:1≤m.kind∧m.kind≤6):n.hear m=n.does m:=by
 have e:n.hear m=(((((n.onAsk m).1.onAnswer m).1.onAppend m).1.onAcked m).1,(n.onAsk m).2++((n.onAsk m).1.onAnswer m).2++(((n.onAsk m).1.onAnswer m).1.onAppend m).2++((((n.onAsk m).1.onAnswer m).1.onAppend m).1.onAcked m).2):=rfl;unfold does;split
 ·rename_i hk;rw[e,pW (by omega) (by omega),kq (by omega),mX (by omega),List.append_nil,List.append_nil,List.append_nil]
 ·split
  ·rename_i hk h2;rw[Gx (by omega) (by omega)] at e;rw[e,kq (by omega),mX (by omega),List.append_nil,List.append_nil];rfl
  ·rename_i hk h2;rw[Gx (by omega) (by omega)] at e;dsimp only at e;rw[pW (by omega) (by omega)] at e;dsimp only at e;split
   ·rename_i h5;rw[e,mX (by omega),List.append_nil];rfl
   ·rename_i h5;rw[kq (by omega)] at e;exact e
theorem led_y (r:Nd×List Ms):(n.led r).1=r.1:=by unfold led;split <;> rfl
theorem right_ok (h:n.right m=0):tz m=0∧m.dst=n.me∧m.src≠n.me∧m.kind≤6∧m.tm<1152921504606846976∧m.index<1152921504606846976∧m.prev<1152921504606846976∧m.commit<1152921504606846976:=by
 unfold right at h;split at h
 ·rename_i hc;exact absurd h hc
 ·rename_i hc;split at h
  ·cases h
  ·split at h
   ·cases h
   ·split at h
    ·cases h
    ·rename_i h1 h2 h3;exact⟨Classical.not_not.1 hc,by omega,by omega,by omega,by omega,by omega,by omega,by omega⟩
end Nd
theorem Pk {m:Ms} (h:tz m=0):1≤m.kind∧0≤m.src∧m.src≤15∧m.data.length≤700∧m.es.length≤8:=by
 unfold tz at h;split at h
 ·cases h
 ·split at h
  ·cases h
  ·split at h
   ·cases h
   ·omega
theorem Lg.app_len (l:Lg) (p pt:Nat) (es:List En):(l.append p pt es).1.es.length≤l.es.length+es.length:=by
 have lay:∀(es:List En) (l:Lg) (p:Nat),(l.lay p es).es.length≤l.es.length+es.length:=fun es=>by
  induction es with
  | nil=>intro l p;exact Nat.le_refl _
  | cons x xs ih=>
   intro l p;unfold Lg.lay;split
   ·have:=ih l (p+1);rw[List.length_cons];omega
   ·show (l.es.take _++x :: xs).length≤_;rw[List.length_append,List.length_take,List.length_cons];omega
 unfold Lg.append;split
 ·exact Nat.le_add_right _ _
 ·split
  ·have:=lay (es.drop (l.base-p)) l l.base;rw[List.length_drop] at this;show (l.lay _ _).es.length≤_;omega
  ·exact lay _ _ _
namespace Nd
theorem Hw (n:Nd):n.askT.1.log.es.length≤n.log.es.length+1:=by
 unfold askT;split
 ·dsimp only;split
  ·show (n.log.es++[_]).length≤_;simp
  ·exact Nat.le_succ _
 ·exact Nat.le_succ _
theorem askF_log (n:Nd):n.askF.1.log.es.length≤n.log.es.length+1:=by
 unfold askF;split
 ·dsimp only;split
  ·exact Hw ({ n with role:=1,ld:=-1,yes:=[n.me] }:Nd)
  ·exact Nat.le_succ _
 ·exact Nat.le_succ _
theorem qQ (n:Nd) (t:Nat) (l:Int):(n.follow t l).log=n.log:=by unfold follow;split <;> rfl
theorem onAsk_log (n:Nd) (m:Ms):(n.onAsk m).1.log=n.log:=by
 unfold onAsk;split
 ·dsimp only
  have h1:(if m.kind=1∧n.tm<m.tm then n.follow m.tm (-1) else n).log=n.log:=by
   split
   ·exact qQ _ _ _
   ·rfl
  generalize (if m.kind=1∧n.tm<m.tm then n.follow m.tm (-1) else n)=n1 at h1;split <;> exact h1
 ·rfl
theorem onAnswer_log (n:Nd) (m:Ms):(n.onAnswer m).1.log.es.length≤n.log.es.length+1:=by
 unfold onAnswer;split
 ·dsimp only
  have h1:(if n.tm<m.tm∧(m.ok=false∨m.kind=2) then n.follow m.tm (-1) else n).log=n.log:=by
   split
   ·exact qQ _ _ _
   ·rfl
  generalize (if n.tm<m.tm∧(m.ok=false∨m.kind=2) then n.follow m.tm (-1) else n)=n1 at h1;rw[←h1];split
  ·split
   ·unfold chosen;split
    ·exact Hw ({ n1 with yes:=n1.yes++[m.src] }:Nd)
    ·show (n1.log.es++[_]).length≤_;simp
   ·exact Nat.le_succ _
  ·exact Nat.le_succ _
 ·exact Nat.le_succ _
theorem onAppend_log (n:Nd) (m:Ms):(n.onAppend m).1.log.es.length≤n.log.es.length+m.es.length:=by
 unfold onAppend;split
 ·exact Nat.le_add_right _ _
 ·split
  ·exact Nat.le_add_right _ _
  ·unfold taken;have e:({ n.follow m.tm m.src with heard:=true }:Nd).log=n.log:=qQ _ _ _;rw[e];split
   ·show (n.follow m.tm m.src).log.es.length≤_;rw[qQ];exact Nat.le_add_right _ _
   ·exact Lg.app_len _ _ _ _
theorem Mk (n:Nd) (r:Nat):(n.sureR r).log=n.log:=by unfold sureR;split <;> rfl
theorem onAcked_log (n:Nd) (m:Ms):(n.onAcked m).1.log=n.log:=by
 have ha:(n.acked m).log=n.log:=by
  unfold acked;split
  ·rfl
  ·split
   ·exact Mk _ _
   ·rfl
 unfold onAcked;split
 ·rfl
 ·split
  ·exact qQ _ _ _
  ·split
   ·rfl
   ·split <;> exact ha
end Nd
structure Gw (B E:Nat) (n:Nd):Prop where
 bn:Bn B n
 es:n.log.es.length≤E
 ye:n.yes.length≤E
 me:∃mN:Nat,n.me=(mN:Nat)∧mN<16
 cf:0<n.conf.length∧n.conf.length≤12
 pos:∀x∈n.conf,0≤x∧x≤15
theorem Gw.up {B E B' E':Nat} {n n':Nd} (h:Gw B E n) (hu:Nd.Up n n') (hb:Bn B' n') (he:n'.log.es.length≤E') (hy:n'.yes.length≤E'):Gw B' E' n':=⟨hb,he,hy,by rw[hu.me];exact h.me,by rw[hu.conf];exact h.cf,by rw[hu.conf];exact h.pos⟩
theorem Gw.mono {B E B' E':Nat} {n:Nd} (h:Gw B E n) (hb:B≤B') (he:E≤E'):Gw B' E' n:=⟨h.bn.mono hb,Nat.le_trans h.es he,Nat.le_trans h.ye he,h.me,h.cf,h.pos⟩
theorem kdc {p q:Prop} (k:q) (h:q→p:=by
 obtain⟨W1,hW1⟩:=zE (W.alloc (.cells #[.int .u64 (x.t:Nat),.int .i64 x.k,.slice x.a x.d.length x.c] 85 (0,0)));have F1:Hid (FT W W1):=hW1▸(Fr.refl _ _).alloc _;have t1:W1.heap[W.heap.size]? = some (.cells #[.int .u64 (x.t:Nat),.int .i64 x.k,.slice x.a x.d.length x.c] 85 (0,0)):=hW1▸bZ _ _;intro kk0;revert t1;revert F1;revert hW1;revert W1;exact kk0):p:=h k
theorem mCn {p:Prop} (h:p:=by
 rw[decide_eq_false (show ¬(0≤z∧z≤15) by omega)];go_enter Tryz.func133,Tryz.ntmps133
 exact m6T):p:=h
theorem mJ7 {p:Prop} (h:p:=by
 go_enter Tryz.func119,Tryz.ntmps119
 go_wp2_with fail
 try rw[hW1]
 (with_reducible refine(N1.out _).mono ?_);rintro e w2 ⟨rfl,rfl⟩;go_wp2_with fail
 (with_reducible refine(N2.out _).mono ?_);rintro e w2 ⟨rfl,rfl⟩;go_wp2;go_ret;exact NO _ _ E (Fr.refl _ _)):p:=h
theorem mPB {p:Prop} (h:p:=by
 go_enter Tryz.func119,Tryz.ntmps119
 go_wp2
 try rw[hW1]
 go_ret;exact NO _ _ E (Fr.refl _ _)):p:=h
theorem Bw {m:MV} (h:m.kind<1∨12<m.kind):tz m.ms=30:=if_pos h
theorem qw {m:MV} (h:¬(m.kind<1∨12<m.kind)) (h2:m.src<0∨15<m.src∨m.dst<0∨15<m.dst):tz m.ms=31:=(if_neg h).trans (if_pos h2)
theorem MV.esl (m:MV):m.ms.es.length=m.es.length:=List.length_map _
theorem Bv {m:MV} (h:¬(m.kind<1∨12<m.kind)) (h2:¬(m.src<0∨15<m.src∨m.dst<0∨15<m.dst)) (h3:700<m.d.length∨8<m.es.length):tz m.ms=2:=(if_neg h).trans ((if_neg h2).trans (if_pos (by rw[m.esl];exact h3)))
theorem chkM_e {m:MV} (h:¬(m.kind<1∨12<m.kind)) (h2:¬(m.src<0∨15<m.src∨m.dst<0∨15<m.dst)) (h3:¬(700<m.d.length∨8<m.es.length)):tz m.ms=if ∃x∈m.es,24<x.d.length then 2 else if ∃x∈m.es,x.k<0∨255<x.k then 30 else 0:=by
 refine(if_neg h).trans ((if_neg h2).trans ((if_neg (by rw[m.esl];exact h3)).trans ?_));have e1:(∃x∈m.ms.es,24<x.d.length)↔∃x∈m.es,24<x.d.length:=⟨fun⟨x,hx,h⟩=>by obtain⟨y,hy,rfl⟩:=List.mem_map.1 hx;exact⟨y,hy,h⟩,fun⟨y,hy,h⟩=>⟨y.en,List.mem_map.2 ⟨y,hy,rfl⟩,h⟩⟩
 have e2:(∃x∈m.ms.es,x.k<0∨255<x.k)↔∃x∈m.es,x.k<0∨255<x.k:=⟨fun⟨x,hx,h⟩=>by obtain⟨y,hy,rfl⟩:=List.mem_map.1 hx;exact⟨y,hy,h⟩,fun⟨y,hy,h⟩=>⟨y.en,List.mem_map.2 ⟨y,hy,rfl⟩,h⟩⟩
 exact(Nv e1).trans (if_ce (Nv e2))
theorem rowE {K:Nat→Obj→Prop} {w:World} {a:Option Addr} {n c:Nat} {xs:List EV} (h:RowsAt K w (.slice a n c) 3 encE xs) (i:Nat) (hi:i<xs.length):∃be oe,a=some ⟨be,oe,none⟩∧∀W,FT w W→W.cell? ⟨be,oe+i*3,none⟩=some (.int .u64 (xs[i].t:Nat))∧W.cell? ⟨be,oe+i*3+1,none⟩=some (.int .i64 xs[i].k)∧W.cell? ⟨be,oe+i*3+2,none⟩=some (.slice xs[i].a xs[i].d.length xs[i].c):=by
 obtain⟨a',c',e,hcc,h1⟩:=h;cases e;rcases h1 with h1 | ⟨be,oe,o,ha,ho,hkk,hc⟩
 ·rw[h1] at hi;cases hi
 ·exact⟨be,oe,ha,fun W f=>⟨f.cell (fun _ _=>trivial) (hc i hi 0 _ rfl),f.cell (fun _ _=>trivial) (hc i hi 1 _ rfl),f.cell (fun _ _=>trivial) (hc i hi 2 _ rfl)⟩⟩
theorem KJ {K:Nat→Obj→Prop} (w:World) (a:Option Addr) (n cp:Nat) (xs:List EV) (g:Nat) (p:EV→Bool) (eg:∀args w,(callFunc g args).run Tryz.prog w=.ok (.enter g args) w) (hrow:RowsAt K w (.slice a n cp) 3 encE xs) (hn:xs.length=n) (hl:xs.length≤1000000)
 (hp:∀W x,Calls Tryz.prog g #[vE x] W fun e w'=>e=.returned (.bool (p x))∧FT W w'):
 Calls Tryz.prog 146 #[.slice a n cp,.func (.func g) #[] #[]] w fun e w'=>(∃z,e=.returned (.int .i64 z)∧(0≤z↔∃x∈xs,p x=true))∧FT w w':=by
 have HR:=zH hrow;have HP:=zH hp;have HN:=zH hn;have HL:Hid (n≤1000000):=by rw[←hn];exact hl
 clear hrow hp hn hl;go_enter Tryz.func146,Tryz.ntmps146
 go_wp2;go_loopw [8] (fun v8 wr=>∃i:Nat,v8=.int .i64 i∧i≤n∧Hid (∀j,(hj:j<xs.length)→j<i→p xs[j]=false)∧Hid (FT w wr)) (fun v8 _=>n-(intOf v8).toNat)
 case atStart=>exact⟨0,rfl,Nat.zero_le _,fun j _ h=>(by omega),Fr.refl _ _⟩
 case round=>
  obtain⟨i,rfl,hi,HB,HF⟩:=hrel;have hi1:i≤1000000:=Nat.le_trans hi HL;by_cases hlt:i<n
  ·have hltI:(i:Int)<(n:Int):=by omega
   have hlt':i<xs.length:=by rw[HN.out];exact hlt
   obtain⟨be,oe,rfl,CE⟩:=rowE HR i hlt';obtain⟨k0,k1,k2⟩:=CE wr HF;have PC:=zH (HP wr xs[i]);obtain⟨x,hx⟩:=zE (xs[i]);rw[hx] at k0 k1 k2 PC;obtain⟨xt,ht⟩:=zE x.t;obtain⟨xk,hk⟩:=zE x.k;obtain⟨xa,ha⟩:=zE x.a;obtain⟨xl,hxl⟩:=zE x.d.length;obtain⟨xc,hc⟩:=zE x.c;rw[ht] at k0;rw[hk] at k1;rw[ha,hxl,hc] at k2;dsimp only[vE] at PC;rw[ht,hk,ha,hxl,hc] at PC;obtain⟨q,hq⟩:=zE (p x);rw[hq] at PC;have HQ:Hid (p xs[i]=q):=by rw[hx];exact hq
   clear hx ht hk ha hxl hc hq CE;cases q with
   | true=>
    go_wp2_with fail
    (with_reducible refine PC.out.mono ?_);rintro e w' ⟨rfl,f'⟩;have F':=zH (HF.trans f');clear f' PC;go_wp2;go_ret;exact⟨⟨_,rfl,fun _=>⟨_,List.getElem_mem hlt',HQ.out⟩,fun _=>by omega⟩,F'.out⟩
   | false=>
    go_wp2_with fail
    (with_reducible refine PC.out.mono ?_);rintro e w' ⟨rfl,f'⟩;have F':=zH (HF.trans f');clear f' PC;go_wp2;go_roundw
    case rel=>exact⟨i+1,by go_num,hlt,fun j hj hji=>by
     by_cases e:j=i
     ·subst e;exact HQ
     ·exact HB.out j hj (by omega),F'.out⟩
    case measure=>simp [intOf];omega
  ·have hge:(n:Int)≤i:=by omega
   go_wp2;go_ret;exact⟨⟨_,rfl,fun h=>absurd h (by decide),fun⟨x,hx,h⟩=>by obtain⟨j,hj,rfl⟩:=List.mem_iff_getElem.1 hx;have:=HB.out j hj (by have:=HN.out;omega);rw[this] at h;cases h⟩,HF.out⟩
theorem lW {K:Nat→Obj→Prop} (w:World) (a:Option Addr) (n cp:Nat) (xs:List EV) (g:Nat) (p:EV→Bool) (eg:∀args w,(callFunc g args).run Tryz.prog w=.ok (.enter g args) w) (hrow:RowsAt K w (.slice a n cp) 3 encE xs) (hn:xs.length=n) (hl:xs.length≤1000000)
 (hp:∀W x,Calls Tryz.prog g #[vE x] W fun e w'=>e=.returned (.bool (p x))∧FT W w') (r:Bool) (hr:(∃x∈xs,p x=true)↔r=true):
 Calls Tryz.prog 134 #[.slice a n cp,.func (.func g) #[] #[]] w fun e w'=>e=.returned (.bool r)∧FT w w':=by
 have IX:=zH (KJ w a n cp xs g p eg hrow hn hl hp);have HR:=zH hr;clear hrow hn hl hp hr eg;go_enter Tryz.func134,Tryz.ntmps134
 go_wp2_with fail
 (with_reducible refine IX.out.mono ?_);rintro e w' ⟨⟨z,rfl,hz⟩,f'⟩;have F':=zH f';cases r with
 | true=>
  have h0:0≤z:=hz.2 (HR.2 rfl);clear f' IX hz;go_wp2;go_ret;exact⟨rfl,F'⟩
 | false=>
  have h0:¬0≤z:=fun e=>by have:=HR.out.1 (hz.1 e);cases this
  clear f' IX hz;go_wp2;go_ret;exact⟨congrArg (fun x=>Ending.returned (.bool x)) (decide_eq_false (by omega)),F'.out⟩
theorem wlong_fn (W:World) (x:EV):Calls Tryz.prog 131 #[vE x] W fun e w'=>e=.returned (.bool (decide (24<x.d.length)))∧FT W w':=by
 unfold vE;refine kdc ?_;intro W1 hW1 F1 t1;have v2:=bQ (i:=2) t1 rfl;clear t1;obtain⟨dl,hdl⟩:=zE x.d.length;rw[hdl] at v2 hW1 ⊢;clear hdl;by_cases h:24<dl
 ·rw[decide_eq_true h];have h':(24:Int)<(dl:Int):=by omega
  go_enter Tryz.func131,Tryz.ntmps131
  exact mDA
 ·rw[decide_eq_false h];have h':¬(24:Int)<(dl:Int):=by omega
  go_enter Tryz.func131,Tryz.ntmps131
  exact mDA
theorem CQ (W:World) (x:EV):Calls Tryz.prog 132 #[vE x] W fun e w'=>e=.returned (.bool (decide (x.k<0∨255<x.k)))∧FT W w':=by
 unfold vE;refine kdc ?_;intro W1 hW1 F1 t1;have v1:=bQ (i:=1) t1 rfl;clear t1;obtain⟨k,hk⟩:=zE x.k;rw[hk] at v1 hW1 ⊢;clear hk;by_cases h0:k<0
 ·rw[decide_eq_true (.inl h0)];go_enter Tryz.func132,Tryz.ntmps132
  exact mDA
 ·by_cases h1:255<k
  ·rw[decide_eq_true (.inr h1)];go_enter Tryz.func132,Tryz.ntmps132
   exact mDA
  ·rw[decide_eq_false (by omega)];go_enter Tryz.func132,Tryz.ntmps132
   exact mDA
theorem nV (w:World) (z:Int):Calls Tryz.prog 133 #[.int .i64 z] w fun e w'=>e=.returned (.bool (decide (0≤z∧z≤15)))∧w=w':=by
 by_cases h0:0≤z
 ·by_cases h1:z<16
  ·rw[decide_eq_true (show 0≤z∧z≤15 by omega)];go_enter Tryz.func133,Tryz.ntmps133
   exact m6T
  ·exact mCn
 ·exact mCn
theorem xy [Old] {X:Nat→Prop} (w:World) (m:MV) (hm:MsAt X w m) (hel:m.es.length≤9223372036854775807) (hdl:m.d.length≤9223372036854775807):
 Calls Tryz.prog 119 #[.agg (cM m)] w fun e w'=>e=.returned (.int .i64 (tz m.ms))∧FT w w':=by
 obtain⟨W1,hW1,F1,X1⟩:=xv w m;obtain⟨v0,v1,v2,v3,v4,v5,v6,v7,v8,v9⟩:=bq X1;obtain⟨kd,hkd⟩:=zE m.kind;obtain⟨sr,hsr⟩:=zE m.src;obtain⟨ds,hds⟩:=zE m.dst;obtain⟨dl,hdl0⟩:=zE m.d.length;obtain⟨el,hel0⟩:=zE m.es.length;rw[hkd] at v0;rw[hsr] at v1;rw[hds] at v2;rw[hdl0] at v8;rw[hel0] at v9;have NO:Hid (∀(c:Int) (wx:World),tz m.ms=c→FT W1 wx→Ending.returned (.int .i64 c)=.returned (.int .i64 (tz m.ms))∧FT w wx):=fun c wx hc f=>⟨by rw[hc],F1.out.trans f⟩
 have N1:=zH (fun W=>nV W sr);have N2:=zH (fun W=>nV W ds);have HQ:=zH (And.intro hkd (And.intro hsr (And.intro hds (And.intro hdl0 hel0))));have ROW:Hid (∀W,FT W1 W→RowsAt (RO X) W (.slice m.ea el m.ec) 3 encE m.es):=fun W f=>hel0▸(hm.es.row.tt F1.out).tt f
 rw[hdl0] at hdl;rw[hel0] at hel;unfold cM at hW1 ⊢;clear hm hkd hsr hds hdl0 hel0 v3 v4 v5 v6 v7;have EK:Hid ((kd<1∨12<kd)→tz m.ms=30):=fun h=>Bw (by rw[HQ.out.1];exact h)
 by_cases c0:kd<1
 ·have E:=zH (EK (.inl c0));exact mPB
 ·by_cases c1:12<kd
  ·have E:=zH (EK (.inr c1));exact mPB
  ·have K0:Hid (¬(m.kind<1∨12<m.kind)):=by show ¬_;rw[HQ.out.1];omega
   by_cases c2:0≤sr∧sr≤15
   case neg=>
    have E:=zH (qw K0.out (by rw[HQ.out.2.1,HQ.out.2.2.1];omega));rw[decide_eq_false c2] at N1;clear c2 N2 ROW;go_enter Tryz.func119,Tryz.ntmps119
    go_wp2_with fail
    try rw[hW1]
    (with_reducible refine(N1.out _).mono ?_);rintro e w2 ⟨rfl,rfl⟩;go_wp2;go_ret;exact NO _ _ E (Fr.refl _ _)
   case pos=>
    rw[decide_eq_true c2] at N1;have C2:=zH c2;clear c2;by_cases c3:0≤ds∧ds≤15
    case neg=>have E:=zH (qw K0.out (by rw[HQ.out.2.1,HQ.out.2.2.1];omega));rw[decide_eq_false c3] at N2;clear c3 ROW;exact mJ7
    case pos=>
     rw[decide_eq_true c3] at N2;have NN:Hid (¬(m.src<0∨15<m.src∨m.dst<0∨15<m.dst)):=by show ¬_;rw[HQ.out.2.1,HQ.out.2.2.1];have:=C2.out;omega
     clear c3 C2;have EL:Hid (700<dl∨8<el→tz m.ms=2):=fun h=>Bv K0.out NN.out (by rw[HQ.out.2.2.2.1,HQ.out.2.2.2.2];exact h)
     by_cases c4:700<dl
     ·have E:=zH (EL (.inl c4));have c4':(700:Int)<(dl:Int):=by omega
      clear c4 ROW;exact mJ7
     ·have c4':¬(700:Int)<(dl:Int):=by omega
      by_cases c5:8<el
      ·have E:=zH (EL (.inr c5));have c5':(8:Int)<(el:Int):=by omega
       clear c4 c5 ROW;exact mJ7
      ·have c5':¬(8:Int)<(el:Int):=by omega
       have EE:=zH (chkM_e K0.out NN.out (show ¬(700<m.d.length∨8<m.es.length) by rw[HQ.out.2.2.2.1,HQ.out.2.2.2.2];omega));have H8:Hid (m.es.length≤1000000):=by show _≤_;rw[HQ.out.2.2.2.2];omega
       obtain⟨l1,hl1⟩:=zE (decide (∃x∈m.es,24<x.d.length));obtain⟨l2,hl2⟩:=zE (decide (∃x∈m.es,x.k<0∨255<x.k));have L1:=zH hl1;have L2:=zH hl2
       have CL:Hid (∀W,FT W1 W→Calls Tryz.prog 134 #[.slice m.ea el m.ec,.func (.func 131) #[] #[]] W fun e w'=>e=.returned (.bool l1)∧FT W w'):=fun W f=>
        lW W _ _ _ m.es _ (fun x=>decide (24<x.d.length)) (enters_of Tryz.func131 (by kernel_rfl) rfl) (ROW.out W f) HQ.out.2.2.2.2 H8.out (fun W x=>wlong_fn W x) l1 (by rw[←L1.out];simp)
       have CS:Hid (∀W,FT W1 W→Calls Tryz.prog 134 #[.slice m.ea el m.ec,.func (.func 132) #[] #[]] W fun e w'=>e=.returned (.bool l2)∧FT W w'):=fun W f=>
        lW W _ _ _ m.es _ (fun x=>decide (x.k<0∨255<x.k)) (enters_of Tryz.func132 (by kernel_rfl) rfl) (ROW.out W f) HQ.out.2.2.2.2 H8.out (fun W x=>CQ W x) l2 (by rw[←L2.out];simp)
       clear c4 c5 ROW hl1 hl2 EL EK;have VV:Hid (∀W,FT W1 W→W.cell? ⟨w.heap.size,9,none⟩=some (.slice m.ea el m.ec)):=fun W f=>f.cell (fun _ _=>trivial) v9
       go_enter Tryz.func119,Tryz.ntmps119
       go_wp2_with fail
       try rw[hW1]
       (with_reducible refine(N1.out _).mono ?_);rintro e w2 ⟨rfl,rfl⟩;go_wp2_with fail
       (with_reducible refine(N2.out _).mono ?_);rintro e w2 ⟨rfl,rfl⟩;have C1:=zH (CL W1 (Fr.refl _ _));go_wp2_with fail
       (with_reducible refine C1.out.mono ?_);rintro e w2 ⟨rfl,f2⟩;have F2:=zH f2;have u9:=VV w2 f2;have C3:=zH (CS w2 f2);clear f2 C1 CL CS v9;cases l1 with
       | true=>
        go_wp2;go_ret;exact NO _ _ (EE.trans (if_pos (of_decide_eq_true L1))) F2
       | false=>
        go_wp2_with fail
        (with_reducible refine C3.out.mono ?_);rintro e w3 ⟨rfl,f3⟩;have F3:=zH (F2.trans f3);clear f3 C3;cases l2 with
        | true=>
         go_wp2;go_ret;exact NO _ _ (EE.trans ((if_neg (of_decide_eq_false L1)).trans (if_pos (of_decide_eq_true L2)))) F3
        | false=>
         go_wp2;go_ret;exact NO _ _ (EE.trans ((if_neg (of_decide_eq_false L1)).trans (if_neg (of_decide_eq_false L2)))) F3
end Go.Proofs.YtmjccpfchhnfhaaGreat
