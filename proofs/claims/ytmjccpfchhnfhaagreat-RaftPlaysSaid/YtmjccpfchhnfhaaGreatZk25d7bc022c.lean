/- Texts of the proofs, part 46: what the functions that they reach do, walked; no conditions beyond those that each states. -/
import Derived.Deep.DeepCutAuto
import Derived.Test.YtmjccpfchhnfhaaGreatZk182a00ef01
set_option linter.unusedVariables false
set_option linter.unusedSimpArgs false
set_option maxRecDepth 100000
set_option maxHeartbeats 8000000
namespace Go.Proofs.YtmjccpfchhnfhaaGreat
open Go.RowKit
theorem gv {w:World} {B:Nat} {e:TypeId} {g n c:Nat} {xs:List Value} (h:w.ownsRow B e 1 (.slice (some ⟨g,0,none⟩) n c) n xs) (i:Nat) (hi:i<xs.length):w.cell? ⟨g,i,none⟩=some xs[i]:=by
 rcases h.2 with⟨h,_⟩ | ⟨g',cap,cur,h,_,hg,hn,_,hs,ht⟩
 ·cases h
 ·cases h;have h1:=h.1;refine bQ hg ?_;have h2:(cur.toList.take (n*1))[i]? = some xs[i]:=by rw[ht];exact List.getElem?_eq_getElem hi
  rw[List.getElem?_take,if_pos (by omega)] at h2;simpa using h2
section
variable {X:Nat→Prop} {w:World} {G:Nat} {l:List Nx} {ms:List MV} {many:Int} {c:GV}
theorem Grp.nrow [Old] [bj] (h:Grp X w G l ms many c) (h0:0<l.length):∃gn cn,c.vn=.slice (some ⟨gn,0,none⟩) l.length cn∧∀i,(hi:i<l.length)→∀W,FT w W→W.cell? ⟨gn,i,none⟩=some (.pointer (some ⟨l[i].b,0,none⟩)):=by
 rcases h.rn.2 with⟨_,e⟩ | ⟨g,cap,cur,e,r⟩
 ·omega
 ·refine⟨g,cap,e,fun i hi W f=>?_⟩;have hr:=bK h.rn f fun _ _ _ _=>trivial
  rw[e] at hr;have:=gv hr i (by rw[List.length_map];exact hi);rw[List.getElem_map] at this;exact this
theorem Grp.mcell [Old] [bj] (h:Grp X w G l ms many c) (i:Nat) (hi:i<ms.length):∃gm off cm,c.vm=.slice (some ⟨gm,off,none⟩) ms.length cm∧∀W,FT w W→(W.cell? ⟨gm,off+i*10,none⟩=some (.int .i64 ms[i].kind)∧W.cell? ⟨gm,off+i*10+1,none⟩=some (.int .i64 ms[i].src)∧W.cell? ⟨gm,off+i*10+2,none⟩=some (.int .i64 ms[i].dst)∧W.cell? ⟨gm,off+i*10+3,none⟩=some (.int .u64 (ms[i].tm:Nat))∧W.cell? ⟨gm,off+i*10+4,none⟩=some (.int .u64 (ms[i].index:Nat))∧W.cell? ⟨gm,off+i*10+5,none⟩=some (.int .u64 (ms[i].prev:Nat))∧W.cell? ⟨gm,off+i*10+6,none⟩=some (.int .u64 (ms[i].commit:Nat))∧W.cell? ⟨gm,off+i*10+7,none⟩=some (.bool ms[i].ok)∧W.cell? ⟨gm,off+i*10+8,none⟩=some (.slice ms[i].da ms[i].d.length ms[i].dc)∧W.cell? ⟨gm,off+i*10+9,none⟩=some (.slice ms[i].ea ms[i].es.length ms[i].ec)):=by
 have hr:=h.rm.rows;obtain⟨a,c',e,hcc,h1⟩:=hr;rcases h1 with h1 | ⟨gm,off,o,ha,ho,hk,hc⟩
 ·rw[h1] at hi;cases hi
 ·refine⟨gm,off,c',by rw[e,ha],fun W f=>?_⟩;have g:∀j u,(encM ms[i])[j]? = some u→W.cell? ⟨gm,off+i*10+j,none⟩=some u:=fun j u hu=>f.cell (fun _ _=>trivial) (hc i hi j u hu)
  exact mLB
end
theorem mQt {p:Prop} (h:p:=by
 show (l.map (·.n)).getD i default=x.n;rw[List.getD_eq_getElem?_getD,List.getElem?_map,List.getElem?_eq_getElem hi];exact congrArg (fun y:Rx=>y.n) hx):p:=h
theorem mqH {p:Prop} (h:p:=by
 go_quiet (fail)
 have U:Hid (Fr (fun _ _=>True) w4 (w4.drewN nq)):=(Fr.refl _ w4).drewN nq;go_wp2;go_end0;rw[OUT.out,←HSS.out];exact⟨rfl,⟨X,l,ms,tk,many,vn,vm,vt,H4.out.tt U.out,rfl,rfl⟩,(F4.out.trans U.out).mono fun _ _ _=>trivial⟩):p:=h
structure Gs where
 ns:List Nd
 aps:List Nat
 ms:List Ms
 tl:List Nat
 many:Int
namespace Gs
def send (s:Gs) (l:List Ms):Gs:=if s.ms.length<3000 then { s with ms:=s.ms++l } else s
def arrive (s:Gs) (k:Nat):Gs:=
 let m:=s.ms.getD k zMs
 if m.dst<0∨(s.ns.length:Int)≤m.dst then s else
  let r:=((s.ns.getD m.dst.toNat default).step m).1
  ({ s with ns:=s.ns.set m.dst.toNat r.1 }:Gs).send r.2
end Gs
def St (l:List Rx) (ms:List MV) (tk:List (Value×Nat)) (many:Int):Gs:=⟨l.map (·.n),l.map (·.ap),ms.map MV.ms,tk.map Prod.snd,many⟩
structure GI (B:Nat) (s:Gs):Prop where
 nd:∀n∈s.ns,Gw B B n
 ap:∀a∈s.aps,a≤B
 ms:∀m∈s.ms,Bm B m∧m.data=[]
 ln:s.ms.length≤5000
def Gr13 [Old] (B:Nat) (w:World) (G:Nat) (s:Gs):Prop:=∃X l ms tk many vn vm vt,G13 B X w G l ms tk many vn vm vt∧St l ms tk many=s
def P5 [Old] (B:Nat) (w:World) (G:Nat) (s:Gs) (e:Ending) (w':World):Prop:=e=.returned (.tuple #[])∧Gr13 B w' G s∧Fr (fun c _=>c<B) w w'
def Rx.ids (x:Rx):Nat×Nat:=(x.b,x.rb)
def GrL [Old] (B:Nat) (w:World) (G:Nat) (L:List (Nat×Nat)) (s:Gs):Prop:=∃X l ms tk many vn vm vt,G13 B X w G l ms tk many vn vm vt∧St l ms tk many=s∧l.map Rx.ids=L
def P4 [Old] (B:Nat) (w:World) (G:Nat) (L:List (Nat×Nat)) (s:Gs) (e:Ending) (w':World):Prop:=e=.returned (.tuple #[])∧GrL B w' G L s∧Fr (fun c _=>c<B) w w'
theorem GrL.gr [Old] {B:Nat} {w:World} {G:Nat} {L:List (Nat×Nat)} {s:Gs} (h:GrL B w G L s):Gr13 B w G s:=by
 obtain⟨X,l,ms,tk,many,vn,vm,vt,h1,h2,-⟩:=h;exact⟨X,l,ms,tk,many,vn,vm,vt,h1,h2⟩
theorem P4.gr [Old] {B:Nat} {w:World} {G:Nat} {L:List (Nat×Nat)} {s:Gs} {e:Ending} {w':World} (h:P4 B w G L s e w'):P5 B w G s e w':=⟨h.1,h.2.1.gr,h.2.2⟩
theorem ids_set {l:List Rx} {i:Nat} (hi:i<l.length) {n:Nd} {ap:Nat} {P:Nat→Prop}:(l.set i ⟨l[i].b,l[i].rb,n,ap,P⟩).map Rx.ids=l.map Rx.ids:=by
 apply List.ext_getElem?;intro j;rw[List.getElem?_map,List.getElem?_map,List.getElem?_set];split
 ·rename_i e;subst e;rw[List.getElem?_eq_getElem hi];rfl
 ·rfl
section
variable {B:Nat} {X X' P':Nat→Prop} {w w':World} {G:Nat} {l:List Rx} {ms:List MV} {tk:List (Value×Nat)} {many:Int} {vn vm vt:Value}
theorem G13.frB [Old] (h:G13 B X w G l ms tk many vn vm vt) {P:Nat→Prop} (a:Aft X P X' P' w w'):Fr (fun c _=>c<B) w w':=a.fr.mono fun c _ hc hp=>by have:=h.lx c (a.hp c hp);omega
theorem G13.nrow [Old] [bj] (h:G13 B X w G l ms tk many vn vm vt) (h0:0<l.length):∃gn cn,vn=.slice (some ⟨gn,0,none⟩) l.length cn∧∀W,FT w W→∀i,(hi:i<l.length)→W.cell? ⟨gn,i,none⟩=some (.pointer (some ⟨l[i].rb,0,none⟩))∧W.cell? ⟨l[i].rb,0,none⟩=some (.pointer (some ⟨l[i].b,0,none⟩)):=by
 rcases h.rn.2 with⟨_,e⟩ | ⟨g,cap,cur,e,r⟩
 ·omega
 ·refine⟨g,cap,e,fun W f i hi=>?_⟩;have hr:=bK h.rn f fun _ _ _ _=>trivial
  rw[e] at hr;have:=gv hr i (by rw[List.length_map];exact hi);rw[List.getElem_map] at this;exact⟨this,bQ (f.keep _ _ (h.rb _ (List.getElem_mem hi)).1 trivial) rfl⟩
theorem G13.gcells [Old] (h:G13 B X w G l ms tk many vn vm vt) {W:World} (f:FT w W):W.cell? ⟨G,0,none⟩=some vn∧W.cell? ⟨G,1,none⟩=some vm∧W.cell? ⟨G,2,none⟩=some vt∧W.cell? ⟨G,3,none⟩=some (.int .i64 many):=by
 have t:=f.keep _ _ h.top trivial;exact⟨bQ t rfl,bQ t rfl,bQ t rfl,bQ t rfl⟩
theorem G13.mcell [Old] [bj] (h:G13 B X w G l ms tk many vn vm vt) (i:Nat) (hi:i<ms.length):∃gm off cm,vm=.slice (some ⟨gm,off,none⟩) ms.length cm∧∀W,FT w W→∀j u,(encM ms[i])[j]? = some u→W.cell? ⟨gm,off+i*10+j,none⟩=some u:=by
 obtain⟨a,c',e,hcc,h1⟩:=h.rm.rows;rcases h1 with h1 | ⟨gm,off,o,ha,ho,hk,hc⟩
 ·rw[h1] at hi;cases hi
 ·exact⟨gm,off,c',by rw[e,ha],fun W f j u hu=>f.cell (fun _ _=>trivial) (hc i hi j u hu)⟩
def SentOut [Old] (B:Nat) (X:Nat→Prop) (w:World) (G:Nat) (l:List Rx) (tk:List (Value×Nat)) (many:Int) (vn vt:Value) (s:Gs):Prop:=∃ms' vm',G13 B X w G l ms' tk many vn vm' vt∧St l ms' tk many=s
theorem yW [Old] [bj] (h:G13 B X w G l ms tk many vn vm vt) {B0:Nat} {v:Value} {mvs:List MV} (o:OwnMs X B0 w v mvs) (hm:ms.length≤100000) (hv:mvs.length≤100000):
 Calls Tryz.prog 41 #[.pointer (some ⟨G,0,none⟩),v] w fun e w'=>e=.returned (.tuple #[])∧SentOut B X w' G l tk many vn vt ((St l ms tk many).send (mvs.map MV.ms))∧Fr (fun q _=>q≠G∧vm.ownBlock≠some q) w w':=by
 obtain⟨gm,cm,hvm⟩:=bz h.rm.row;obtain⟨gb,cb,hvb⟩:=bz o.row;subst hvb;obtain⟨k,hk⟩:=zE ms.length;obtain⟨kb,hkb⟩:=zE mvs.length;rw[hk] at hvm;have H:=zH h;have O:=zH o;have OW:Hid (w.ownsRow 0 32 10 (.slice gm k cm) ms.length (ms.flatMap encM)):=c_ (hvm▸h.rm.row) (fun _ _=>Nat.zero_le _);have RW:=zH o.rows;have y1:=(h.gcells (Fr.refl _ w)).2.1;rw[hvm] at y1;have z1:=bV (i:=1) h.top;have HV:=zH hvm;have HK:=zH (And.intro hk hkb);have SE:Hid ((St l ms tk many).ms.length=k):=by show (ms.map MV.ms).length=k;rw[List.length_map,hk]
 rw[hkb] at RW ⊢;by_cases hlt:k<3000
 ·have hltI:(k:Int)<3000:=by omega
  obtain⟨N,hN⟩:=zE (k+kb);have HN:Hid ((ms++mvs).length=N):=by show _=_;rw[List.length_append,hk,hkb];exact hN
  have hn:N≤1000000:=by omega
  have EQ:Hid ((St l ms tk many).send (mvs.map MV.ms)=St l (ms++mvs) tk many):=by show (St l ms tk many).send (mvs.map MV.ms)=_;unfold Gs.send;rw[if_pos (by rw[SE.out];exact hlt)];unfold St;rw[List.map_append]
  clear h o hvm hk hkb hN hm hv hlt;go_enter Tryz.func41,Tryz.ntmps41
  go_wp2_with (at_builtin;refine dX w rfl _ _ rfl (.slice gm k cm) ms rfl OW (.slice gb kb cb) mvs rfl RW N HN hn ?_)
  intro g4 c4 W4 O5 F5 N5;have gne:Hid ((Value.slice gm k cm).ownBlock≠some G):=by show _≠_;rw[←HV.out];exact cX H.out.rm.row H.out.top (by decide)
  have T4:W4.heap[G]? = some (.cells #[vn,vm,vt,.int .i64 many] 66 (0,0)):=F5.keep _ _ H.top gne;clear y1 z1;have y1:W4.cell? ⟨G,1,none⟩=some (.slice gm k cm):=by rw[←HV.out];exact bQ T4 rfl
  have z1:=bV (i:=1) T4;obtain⟨W5,hW5⟩:=zE (W4.setCell ⟨G,1,none⟩ (.slice g4 N c4));have f5:Fr (fun q _=>q≠G) W4 W5:=hW5▸(Fr.refl _ _).setCell (fun _ _ h=>h rfl) _;have og:=dq H.top (by decide) H.gx
  have lo:∀q,(Value.slice g4 N c4).ownBlock=some q→B≤q∧¬X q:=fun q e=>by
   rcases N5 with q9 | ⟨k9,q9,hk9⟩
   ·rw[q9,←HV.out] at e;exact⟨cK H.out.rm.row q e,H.out.rm.off q e⟩
   ·rw[q9] at e;cases e;exact⟨Nat.le_trans H.out.bs hk9,fun hx=>by have:=H.out.hx _ hx;omega⟩
  have o4:OwnMs X B W4 (.slice g4 N c4) (ms++mvs):=(HV.out▸H.out.rm).app O.out.at' H.out.hx (c_ (by rw[HN.out,List.flatMap_append];exact O5.out) fun q e=>(lo q e).1) F5.out N5.out;have T5:W5.heap[G]? = some (.cells #[vn,.slice g4 N c4,vt,.int .i64 many] 66 (0,0)):=by rw[←hW5];exact bJ (o:=1) T4 _
  have hx4:∀q,X q→q<W4.heap.size:=fun q hq=>Nat.lt_of_lt_of_le (H.hx q hq) F5.size
  have o5:OwnMs X B W5 (.slice g4 N c4) (ms++mvs):=⟨bK o4.row f5 fun q o e ho hk=>cX o4.row T4 (by decide) (hk▸e),o4.off,fun m hm=>(o4.at' m hm).keep f5 fun q o ho hr=>dq T4 (by decide) H.out.gx q o ho (.inr hr)⟩
  have FF:Fr (fun q _=>q≠G∧vm.ownBlock≠some q) w W5:=(F5.out.mono fun q _ h e=>h.2 (by rw[HV.out];exact e)).trans (f5.mono fun q _ h=>h.1);have G5:=zH (H.msgs FF T5 o5);have FB:=zH FF;clear T4 T5 f5 og lo o4 hx4 o5 FF O5 F5 N5;go_wp2
  try rw[hW5]
  go_end0;exact⟨rfl,⟨ms++mvs,_,G5,EQ.symm⟩,FB⟩
 ·have hge:¬(k:Int)<3000:=by omega
  have EQ:Hid ((St l ms tk many).send (mvs.map MV.ms)=St l ms tk many):=by show (St l ms tk many).send (mvs.map MV.ms)=_;unfold Gs.send;rw[if_neg (by rw[SE.out];exact hlt)]
  clear h o hvm hk hkb hm hv hlt;go_enter Tryz.func41,Tryz.ntmps41
  go_wp2;go_end0;exact⟨rfl,⟨ms,vm,H,EQ.symm⟩,Fr.refl _ _⟩
theorem pZ [Old] [bj] (h:G13 B X w G l ms tk many vn vm vt) {B0:Nat} {v:Value} {mvs:List MV} (o:OwnMs X B0 w v mvs) (hm:ms.length≤100000) (hv:mvs.length≤100000):
 Calls Tryz.prog 41 #[.pointer (some ⟨G,0,none⟩),v] w fun e w'=>P4 B w G (l.map Rx.ids) ((St l ms tk many).send (mvs.map MV.ms)) e w':=
 (yW h o hm hv).mono fun e w' ⟨h1,⟨ms',vm',h2,h3⟩,h4⟩=>⟨h1,⟨X,l,ms',tk,many,vn,vm',vt,h2,h3,rfl⟩,h4.mono fun q _ hq=>⟨fun e=>by have:=h.lg;have hq':q<B:=hq;omega,fun e=>by have:=cK h.rm.row q e;have hq':q<B:=hq;omega⟩⟩
theorem sw [Old] [bj] (h:G13 B X w G l ms tk many vn vm vt) {B0:Nat} {v:Value} {mvs:List MV} (o:OwnMs X B0 w v mvs) (hm:ms.length≤100000) (hv:mvs.length≤100000):
 Calls Tryz.prog 41 #[.pointer (some ⟨G,0,none⟩),v] w fun e w'=>P5 B w G ((St l ms tk many).send (mvs.map MV.ms)) e w':=
 (pZ h o hm hv).mono fun e w' q=>q.gr
theorem Nd.step_len (n:Nd) (m:Ms):((n.step m).1).2.length≤2*n.conf.length+3:=by
 have h1:=Nd.onAsk_len n m;have h2:=Nd.onAnswer_len (n.onAsk m).1 m;have h3:=Nd.onAppend_len ((n.onAsk m).1.onAnswer m).1 m;have h4:=Nd.onAcked_len (((n.onAsk m).1.onAnswer m).1.onAppend m).1 m;rw[(Nd.onAsk_up n m).conf] at h2
 have hh:(n.hear m).2.length≤n.conf.length+3:=by show ((n.onAsk m).2++((n.onAsk m).1.onAnswer m).2++(((n.onAsk m).1.onAnswer m).1.onAppend m).2++((((n.onAsk m).1.onAnswer m).1.onAppend m).1.onAcked m).2).length≤_;simp only[List.length_append];omega
 have hb:=Nd.beat_len (n.hear m).1;rw[(Nd.hear_up n m).conf] at hb;unfold Nd.step;split
 ·exact m3D
 ·show (n.led (n.hear m)).2.length≤_;unfold Nd.led;split
  ·rw[List.length_append];omega
  ·omega
theorem Gw.gn {B E:Nat} {n:Nd} {m:Ms} (h:Gw B E n) (hb:B≤90000) (he:E≤90000) (hm:Bm B m):Gn n m:=
 ⟨h.cf,fun x hx=>(h.pos x hx).1,h.me,by have:=h.ye;omega,by have:=h.es;omega,h.bn.mono (by omega),hm.mono (by omega),by have:=hm.index;omega⟩
theorem lz [Old] [bj] (h:G13 B X w G l ms tk many vn vm vt) (k:Nat) (hk:k<ms.length) (h0:0<l.length) (hl5:l.length≤16) (Bd:Nat) (hBd:Bd≤80000) (hI:GI Bd (St l ms tk many)) (hno:∀c,¬Old.o c):
 Calls Tryz.prog 93 #[.pointer (some ⟨G,0,none⟩),.int .i64 (k:Nat)] w fun e w'=>P4 B w G (l.map Rx.ids) ((St l ms tk many).arrive k) e w':=by
 obtain⟨gm,off,cm,hvm,MC⟩:=h.mcell k hk;obtain⟨gn,cn,hvn,NC⟩:=h.nrow h0;obtain⟨m,hm⟩:=zE (ms[k]);have hmm:m∈ms:=hm▸List.getElem_mem hk;obtain⟨M,hM⟩:=zE ms.length;obtain⟨N,hN⟩:=zE l.length;obtain⟨hmb,hmd⟩:=hI.ms m.ms (List.mem_map.2 ⟨m,hmm,rfl⟩);have hM5:M≤5000:=by have:=hI.ln;have e:(St l ms tk many).ms.length=ms.length:=List.length_map _;omega
 have HMD:Hid (m.d=[]):=hmd;have HMB:=zH hmb;have HND:Hid (∀x∈l,Gw Bd Bd x.n):=fun x hx=>hI.nd _ (List.mem_map.2 ⟨x,hx,rfl⟩)
 have HMS:=zH (h.rm.at' m hmm);have LN:=zH (And.intro hM (And.intro hN (And.intro hM5 (And.intro hl5 hBd))))
 have GD:Hid ((St l ms tk many).ms.getD k zMs=m.ms):=by show (ms.map MV.ms).getD k zMs=m.ms;rw[List.getD_eq_getElem?_getD,List.getElem?_map,List.getElem?_eq_getElem hk,hm];rfl
 rw[hm] at MC;rw[hM] at hvm hk;rw[hN] at hvn h0 hl5;have hM63:(M:Int)≤5000:=by omega
 have hkI:(k:Int)<(M:Int):=by omega
 obtain⟨d,hdd⟩:=zE m.dst;have HD:=zH hdd;obtain⟨s,hsd⟩:=zE ((St l ms tk many));have HSS:=zH hsd;obtain⟨res,hres⟩:=zE (s.arrive k);rw[hsd,hres];have HRES:=zH hres;have H:=zH h;have H0:=zH h0;have MC':=MC w (Fr.refl _ _);have c0:=MC' 0 _ rfl;have c1:=MC' 1 _ rfl;have c2:=MC' 2 _ rfl;have c3:=MC' 3 _ rfl;have c4:=MC' 4 _ rfl;have c5:=MC' 5 _ rfl;have c6:=MC' 6 _ rfl;have c7:=MC' 7 _ rfl;have c8:=MC' 8 _ rfl;have c9:=MC' 9 _ rfl;rw[Nat.add_zero] at c0;rw[hdd] at c2;obtain⟨-,y1,-,-⟩:=h.gcells (Fr.refl _ w);rw[hvm] at y1;obtain⟨w1,hw1⟩:=zE (w.alloc (.cells #[.int .i64 0,.int .i64 0,.int .i64 0,.int .u64 0,.int .u64 0,.int .u64 0,.int .u64 0,.bool false,.slice none 0 0,.slice none 0 0] 32 (0,0)));have t1:w1.heap[w.heap.size]? = some (.cells #[.int .i64 0,.int .i64 0,.int .i64 0,.int .u64 0,.int .u64 0,.int .u64 0,.int .u64 0,.bool false,.slice none 0 0,.slice none 0 0] 32 (0,0)):=hw1▸bZ _ _;have f1:Fr (fun _ _=>True) w w1:=hw1▸(Fr.refl _ _).alloc _;obtain⟨w4,hw4,t4,f4⟩:=Jj t1 (.int .i64 m.kind) (.int .i64 m.src) (.int .i64 d) (.int .u64 (m.tm:Nat)) (.int .u64 (m.index:Nat)) (.int .u64 (m.prev:Nat)) (.int .u64 (m.commit:Nat)) (.bool m.ok) (.slice m.da m.d.length m.dc) (.slice m.ea m.es.length m.ec);have F4:Hid (Fr (fun _ _=>True) w w4):=Fr.within ((f1.mono fun _ _ _=>trivial:Fr (fun c _=>True∧c<w.heap.size) w w1).trans (f4.mono fun c _ h e=>by have:=h.2;omega));have T4:Hid (w4.heap[w.heap.size]? = some (.cells (cM m) 32 (0,0))):=by show w4.heap[w.heap.size]? = some (.cells (cM m) 32 (0,0));rw[t4];unfold cM;rw[hdd]
 obtain⟨a0,a1,a2,a3,a4,a5,a6,a7,a8,a9⟩:=bq (m:=zMV) t1;have z0:=bV (i:=0) t1;have z1:=bV (i:=1) t1;have z2:=bV (i:=2) t1;have z3:=bV (i:=3) t1;have z4:=bV (i:=4) t1;have z5:=bV (i:=5) t1;have z6:=bV (i:=6) t1;have z7:=bV (i:=7) t1;have z8:=bV (i:=8) t1;have z9:=bV (i:=9) t1;have NC':=zH NC;have HVN:=zH hvn;clear h hI hvm MC MC' NC hm hmm hM hN hmb hmd hM5 h0 hl5 hdd hsd hres hBd hno f1 f4 t4 t1 hvn;go_enter Tryz.func93,Tryz.ntmps93
 go_upto_region 1 with fail
 try rw[hw1]
 try rw[hw4]
 clear hw1 hw4 a0 a1 a2 a3 a4 a5 a6 a7 a8 a9 z0 z1 z2 z3 z4 z5 z6 z7 z8 z9 c0 c1 c2 c3 c4 c5 c6 c7 c8 c9 y1;have H4:=zH (H.out.tt F4.out);have y0:w4.cell? ⟨G,0,none⟩=some (.slice (some ⟨gn,0,none⟩) N cn):=by rw[(H4.out.gcells (Fr.refl _ w4)).1,HVN.out]
 have v2:w4.cell? ⟨w.heap.size,2,none⟩=some (.int .i64 d):=by rw[←HD.out];exact(bq T4.out).2.2.1
 have hN16:(N:Int)≤16:=by have:=LN.out.2.2.2.1;have:=LN.out.2.1;omega
 by_cases hd0:d<0
 case pos=>
  have OUT:Hid (res=s):=by show res=s;rw[←HRES.out];unfold Gs.arrive;rw[←HSS.out,GD.out];exact if_pos (.inl (by rw[show m.ms.dst=d from HD.out];exact hd0))
  exact mqH
 case neg=>
  by_cases hdN:(N:Int)≤d
  case pos=>
   have OUT:Hid (res=s):=by show res=s;rw[←HRES.out];unfold Gs.arrive;rw[←HSS.out,GD.out];refine if_pos (.inr ?_);rw[show m.ms.dst=d from HD.out];show ((l.map (·.n)).length:Int)≤d;rw[List.length_map,LN.out.2.1];exact hdN
   exact mqH
  case neg=>
   obtain⟨i,rfl⟩:∃i:Nat,d=(i:Nat):=⟨d.toNat,by omega⟩
   have hiN:i<N:=by omega
   have hi:i<l.length:=by rw[LN.out.2.1];exact hiN
   have HI:Hid (i<l.length):=hi;obtain⟨x,hx⟩:=zE (l[i]);have HX:Hid (l[i]'HI.out=x):=hx;have hxl:x∈l:=hx▸List.getElem_mem hi;obtain⟨rb,hrb⟩:=zE x.rb;have gwx:=HND.out x hxl
   have OUT:Hid (res=({ s with ns:=s.ns.set i ((x.n.step m.ms).1).1 }:Gs).send ((x.n.step m.ms).1).2):=by
    show res=_;rw[←HRES.out]
    have e1:s.ns.getD i default=x.n:=by rw[←HSS.out];exact mQt
    have e2:s.ms.getD k zMs=m.ms:=by rw[←HSS.out];exact GD.out
    have e3:(s.ns.length:Int)=(N:Int):=by rw[←HSS.out];show ((l.map (·.n)).length:Int)=_;rw[List.length_map,LN.out.2.1]
    unfold Gs.arrive;dsimp only;rw[e2,if_neg (by rw[show m.ms.dst=(i:Int) from HD.out,e3];omega),show m.ms.dst=(i:Int) from HD.out,Int.toNat_natCast,e1]
   obtain⟨q0,hq0⟩:=H4.out.nd x hxl;have RBX:=(H4.out.rb x hxl)
   have gn13:=gwx.gn (m:=m.ms) (by have:=LN.out.2.2.2.2;omega) (by have:=LN.out.2.2.2.2;omega) HMB.out;have hes:m.es.length≤80000:=by have:=HMB.out.index;rw[m.esl] at this;have:=LN.out.2.2.2.2;omega
   have SC:Hid (∀W,Fr (fun _ _=>True) w4 W→Calls Tryz.prog 33 #[.pointer (some ⟨rb,0,none⟩),.agg (cM m)] W fun e w'=>SOut X x.P W x.b (x.n.step m.ms) e w'):=fun W f=>by rw[←hrb];exact h_ (hq0.tt f) (RBX.1.fr f fun _=>trivial) (fun e=>RBX.2.1 (hq0.px _ e)) m ((HMS.out.tt F4.out).tt f) (by omega) (by rw[HMD.out];exact Nat.zero_le _) (fun c hc=>absurd hc (bj.no c)) (fun _=>gn13)
   have CC:Hid (∀W,Fr (fun _ _=>True) w4 W→W.cell? ⟨G,0,none⟩=some (.slice (some ⟨gn,0,none⟩) N cn)∧W.cell? ⟨gn,i,none⟩=some (.pointer (some ⟨rb,0,none⟩))∧W.cell? ⟨w.heap.size,0,none⟩=some (.int .i64 m.kind)∧W.cell? ⟨w.heap.size,1,none⟩=some (.int .i64 m.src)∧W.cell? ⟨w.heap.size,2,none⟩=some (.int .i64 (i:Nat))∧W.cell? ⟨w.heap.size,3,none⟩=some (.int .u64 (m.tm:Nat))∧W.cell? ⟨w.heap.size,4,none⟩=some (.int .u64 (m.index:Nat))∧W.cell? ⟨w.heap.size,5,none⟩=some (.int .u64 (m.prev:Nat))∧W.cell? ⟨w.heap.size,6,none⟩=some (.int .u64 (m.commit:Nat))∧W.cell? ⟨w.heap.size,7,none⟩=some (.bool m.ok)∧W.cell? ⟨w.heap.size,8,none⟩=some (.slice m.da m.d.length m.dc)∧W.cell? ⟨w.heap.size,9,none⟩=some (.slice m.ea m.es.length m.ec)):=fun W f=>by obtain⟨b0,b1,b2,b3,b4,b5,b6,b7,b8,b9⟩:=bq (f.keep _ _ T4.out trivial);rw[HD.out] at b2;refine⟨by rw[(H4.out.gcells f).1,HVN.out],?_,b0,b1,b2,b3,b4,b5,b6,b7,b8,b9⟩;have:=(NC'.out W (F4.out.trans f) i hi).1;rw[this,←hrb];exact congrArg (fun y:Rx=>some (Value.pointer (some ⟨y.rb,0,none⟩))) hx
   dsimp only[cM] at SC;rw[HD.out] at SC;have h0n:0<N:=by omega
   clear hrb hx hxl gwx hq0 RBX gn13 hes hi;have hiI:(i:Int)<(N:Int):=by omega
   go_quiet (fail)
   have U:Hid (Fr (fun _ _=>True) w4 (w4.drewN nq)):=(Fr.refl _ w4).drewN nq;obtain⟨w5,hw5⟩:=zE (w4.drewN nq);rw[hw5] at U ⊢;have CC5:=zH (fun W (f:Fr (fun _ _=>True) w5 W)=>CC.out W (U.out.trans f));have SC5:=zH (fun W (f:Fr (fun _ _=>True) w5 W)=>SC.out W (U.out.trans f));clear y0 v2 CC SC hw5;go_wp2_with fail
   refine wpR [(28,0),(29,1),(30,2),(31,3),(32,4),(33,5),(34,6),(35,7),(36,8),(37,9),(27,10),(38,11),(39,12),(5,13),(6,14)] [(0,[]),(1,[0]),(2,[1]),(3,[2]),(4,[]),(5,[4]),(6,[3,5]),(7,[6]),(8,[])] (ckR [(0,.pointer (some ⟨G,0,none⟩)),(1,.pointer (some ⟨G,0,none⟩)),(2,.pointer (some ⟨G,0,none⟩)),(3,.slice (some ⟨gn,0,none⟩) N cn),(4,.pointer (some ⟨w.heap.size,2,none⟩)),(5,.int .i64 (i:Nat)),(6,.pointer (some ⟨gn,i,none⟩)),(7,.pointer (some ⟨rb,0,none⟩)),(8,.agg #[.int .i64 m.kind,.int .i64 m.src,.int .i64 (i:Nat),.int .u64 (m.tm:Nat),.int .u64 (m.index:Nat),.int .u64 (m.prev:Nat),.int .u64 (m.commit:Nat),.bool m.ok,.slice m.da m.d.length m.dc,.slice m.ea m.es.length m.ec])] [] 9 0) 6 rfl ?cfall ?cfend
   case cfall=>
    iterate 9
     refine bY.q rfl rfl rfl (kQQ ?_) ?_
     ·intro xs W HF K' hK;obtain⟨y0,y1,v0,v1,v2,v3,v4,v5,v6,v7,v8,v9⟩:=CC5.out W ((Fr.refl (fun _ _=>True) w5).drew.trans HF.out);exact mr9
    exact m36
   case cfend=>
    refine kEE ?_;intro xs W HF;have FW:Hid (Fr (fun _ _=>True) w5 W):=(Fr.refl _ w5).drew.trans HF.out;have C:=zH (SC5.out W FW.out);refine wpN 9 rfl fun K' hK=>?_
    (try simp only[gA,gB,gC]);go_simp;(with_reducible refine C.out.mono ?_);rintro e w6 ⟨X6,P6,q6,v6,mvs,rfl,h6,a6,o6,e6⟩;have HH:=zH (And.intro h6 (And.intro o6 e6));have FW4:Hid (Fr (fun _ _=>True) w W):=F4.out.trans (U.out.trans FW.out);have A6:Hid (Aft X x.P X6 P6 w w6):=.lead FW4.out a6;clear h6 a6 o6 e6 C SC5 CC5;refine hK.out _ _ ?_;clear hK K';refine wpN 10 rfl fun K' hK=>?_
    (try simp only[gA,gB,gC]);go_simp;refine hK.out _ _ ?_;clear hK K';refine dw 11 12 (by kernel_rfl) rfl rfl ?fa ?fb
    case' fa=>
     intro K' hK;(try simp only[gA,gB,gC]);go_simp;refine hK.out _ _ ?_;clear hK K';refine dw 12 13 (by kernel_rfl) rfl rfl ?fc ?fd
    case' fc=>
     intro K' hK;(try simp only[gA,gB,gC]);go_simp;refine hK.out _ _ ?_;clear hK K';refine wpN 13 rfl fun K' hK=>?_
     (try simp only[gA,gB,gC]);go_simp;refine hK.out _ _ ?_;clear hK K';refine wpN 14 rfl fun K' hK=>?_
     (try simp only[gA,gB,gC]);go_simp;refine hK.out _ _ ?_;clear hK K';refine wpF ?_
    case' fd=>
     intro K' hK;(try simp only[gA,gB,gC]);go_simp;refine hK.out _ _ ?_;clear hK K';refine wpN 12 rfl fun K' hK=>?_
     (try simp only[gA,gB,gC]);go_simp;refine hK.out _ _ ?_;clear hK K';refine wpN 14 rfl fun K' hK=>?_
     (try simp only[gA,gB,gC]);go_simp;refine hK.out _ _ ?_;clear hK K';refine wpF ?_
    case' fb=>
     intro K' hK;(try simp only[gA,gB,gC]);go_simp;refine hK.out _ _ ?_;clear hK K';refine wpN 11 rfl fun K' hK=>?_
     (try simp only[gA,gB,gC]);go_simp;refine hK.out _ _ ?_;clear hK K';refine wpN 13 rfl fun K' hK=>?_
     (try simp only[gA,gB,gC]);go_simp;refine hK.out _ _ ?_;clear hK K';refine wpN 14 rfl fun K' hK=>?_
     (try simp only[gA,gB,gC]);go_simp;refine hK.out _ _ ?_;clear hK K';refine wpF ?_
    all_goals
     have h6t:PN X6 P6 w6 (l[i]'HI.out).b ((x.n.step m.ms).1).1:=by rw[HX.out];exact⟨q6,HH.out.1⟩
     have G6:=H.out.turn i HI.out h6t (by rw[HX.out];exact A6.out)
     have lb:mvs.length≤100000:=by have e:=congrArg List.length HH.out.2.2;rw[List.length_map] at e;rw[e];exact Nat.le_trans (Nd.step_len _ _) (by have:=(HND.out x (HX.out▸List.getElem_mem HI.out)).cf.2;omega)
     have SD:=zH (pZ G6 HH.out.2.1 (by have:=LN.out;omega) lb)
     have ES:Hid ((St (l.set i ⟨(l[i]'HI.out).b,(l[i]'HI.out).rb,((x.n.step m.ms).1).1,(l[i]'HI.out).ap,P6⟩) ms tk many).send (mvs.map MV.ms)=res):=by
      show _=res;rw[OUT.out,HH.out.2.2];congr 1;rw[←HSS.out];unfold St;congr 1
      ·rw[List.map_set]
      ·rw[List.map_set];show (l.map (·.ap)).set i (l[i]'HI.out).ap=l.map (·.ap);apply List.ext_getElem?;intro j;rw[List.getElem?_set];split
       ·rename_i e;subst e;simp [HI.out]
       ·rfl
     have FB6:Hid (Fr (fun c _=>c<B) w w6):=H.out.frB A6.out;rw[ES.out,ids_set HI.out] at SD;clear G6 lb h6t;go_wp2_with fail
     (with_reducible refine SD.out.mono ?_);rintro e w7 ⟨rfl,g7,f7⟩;have G7:=zH (And.intro g7 f7);clear g7 f7 SD;go_wp2;go_end0;exact⟨rfl,G7.out.1,FB6.out.trans G7.out.2⟩
theorem m_ [Old] [bj] (h:G13 B X w G l ms tk many vn vm vt) (k:Nat) (hk:k<ms.length) (h0:0<l.length) (hl5:l.length≤16) (Bd:Nat) (hBd:Bd≤80000) (hI:GI Bd (St l ms tk many)) (hno:∀c,¬Old.o c):
 Calls Tryz.prog 93 #[.pointer (some ⟨G,0,none⟩),.int .i64 (k:Nat)] w fun e w'=>P5 B w G ((St l ms tk many).arrive k) e w':=
 (lz h k hk h0 hl5 Bd hBd hI hno).mono fun e w' q=>q.gr
end
def Gs.take (s:Gs) (i:Nat):Gs:=
 { s with aps:=s.aps.set i (max (s.aps.getD i 0) (s.ns.getD i default).commit),tl:=s.tl.set i (s.tl.getD i 0+((s.ns.getD i default).commit-max (s.aps.getD i 0) (s.ns.getD i default).log.base)) }
section
variable {B:Nat} {X X' P':Nat→Prop} {w w':World} {G:Nat} {l:List Rx} {ms:List MV} {tk:List (Value×Nat)} {many:Int} {vn vm vt:Value}
theorem n_ {o:Oper} {a:Act} {K:Act→World→Prop} {Q:Exit→Act→World→Prop} (W:World) (s x:Operand) (ho:o.op=.call { callee:=.builtin .append,args:=#[s,x],argTypes:=#[80,80] })
 (v:Value) (n:Nat) (xs:List Value) (hs:a.eval s=v) (hown:W.ownsRow 0 87 4 v n xs) {B1:Nat} (T:List (Nat×EV)) (u:Value) (hx:a.eval x=u) (hu:W.ownsRow B1 87 4 u T.length (T.flatMap encS)) (hn:n+T.length≤1000000)
 (h:∀g c w' ys,w'.ownsRow 0 87 4 (.slice g (n+T.length) c) (n+T.length) ys→Fr (fun b _=>v.ownBlock≠some b) W w'→OwnNext W v (.slice g (n+T.length) c)→K (a.put o.dst (.slice g (n+T.length) c)) w'):o.wp Tryz.prog a W K Q:=by
 obtain⟨i0,hi,hz0,hz1,hz2⟩:=info_parts G_;have rr:RowsAt (fun _ _=>True) W u 4 encS T:=RowsAt.of_own encS_len hu fun _ _ _=>trivial
 obtain⟨au,cu,rfl,_⟩:=rr.form;by_cases h0:T.length=0
 ·have e0:=List.length_eq_zero_iff.1 h0;subst e0;have hrun:=fk (P:=Tryz.prog) (w:=W) 0 80 o.type 87 i0 4 Tryz.underlying80 hi v n _ hown au cu;unfold Oper.wp execOp;simp only[List.length_nil] at hx;simp only[ho,resolve,invoke,builtin,Sem.run_bind,Sem.run_pure,Result.andThen_ok,List.map_toArray,List.map_cons,List.map_nil,hs,hx,hrun];obtain⟨g,c,rfl⟩:=j1 hown;exact h g c W xs hown (Fr.refl _ _) (.inl rfl)
 ·obtain⟨b,off,ob,rfl,_⟩:=rr.spot (by omega);rcases RowsAt.src encS_len (by decide) encS_one rr with⟨he,_⟩ | ⟨ad,c,he,hl,hc,ho1⟩
  ·cases he
  ·cases he
   exact gW W s x 80 ho 0 87 i0 _ 4 48 Tryz.underlying80 hi hz0 hz1 hz2 rfl (by decide) v n _ hs hown _ T.length _ _ hx hl hc ho1 (by unfold maxLen;omega) (by omega) (Nat.zero_le _) fun v' w' h2 h3 h4=>by obtain⟨g,c,rfl⟩:=j1 h2;exact h g c w' _ h2 (.of_grown h3 fun k o e _ hk=>hk e) h4
theorem own_set1 {w:World} {B g n cap:Nat} {t:TypeId} {xs:List Value} (h:w.ownsRow B t 1 (.slice (some ⟨g,0,none⟩) n cap) n xs) (i:Nat) (hi:i<n) (v:Value):(w.setCell ⟨g,i,none⟩ v).ownsRow B t 1 (.slice (some ⟨g,0,none⟩) n cap) n (xs.set i v):=by
 obtain⟨hl,h⟩:=h;refine⟨by rw[List.length_set];exact hl,?_⟩;rcases h with⟨h,_⟩ | ⟨g',cap',cur,e,hb,hg,hn,hc,hs,ht⟩
 ·cases h
 ·cases e;refine .inr ⟨g,cap,cur.setIfInBounds i v,rfl,hb,bJ hg _,hn,hc,by simpa using hs,?_⟩;rw[←ht,Array.toList_setIfInBounds,List.take_set]
theorem G13.trow [Old] [bj] (h:G13 B X w G l ms tk many vn vm vt) (h0:0<tk.length):∃gt ct,vt=.slice (some ⟨gt,0,none⟩) tk.length ct∧∀W,Fr (fun k _=>k≠gt→False) w W→True:=by
 rcases h.rt.2 with⟨_,e⟩ | ⟨g,cap,cur,e,r⟩
 ·omega
 ·exact⟨g,cap,e,fun _ _=>trivial⟩
theorem sY [Old] [bj] (h:G13 B X w G l ms tk many vn vm vt) (i:Nat) (hi:i<l.length) (hap:l[i].ap≤900000) (hcm:l[i].n.commit≤900000) (hb:l[i].n.log.base≤900000) (hla:l[i].n.log.last≤900000) (htk:∀x∈tk,x.2≤90000) (hl9:l.length≤1000):
 Calls Tryz.prog 80 #[.pointer (some ⟨G,0,none⟩),.int .i64 (i:Nat)] w fun e w'=>P5 B w G ((St l ms tk many).take i) e w':=by
 obtain⟨gn,cn,hvn,NC⟩:=h.nrow (by omega);have hit:i<tk.length:=by rw[h.tl];exact hi
 obtain⟨gt,ct,hvt,-⟩:=h.trow (by omega);obtain⟨x,hx⟩:=zE (l[i]);have hxl:x∈l:=hx▸List.getElem_mem hi;have hxe:l[i]'hi=x:=hx;obtain⟨y,hy⟩:=zE (tk[i]);have hyt:y∈tk:=hy▸List.getElem_mem hit;obtain⟨⟨yx,hyr⟩,hyx⟩:=h.ts y hyt;obtain⟨ga,ca,hya⟩:=j1 hyr;obtain⟨rb,hrb⟩:=zE x.rb;obtain⟨b,hbb⟩:=zE x.b;obtain⟨ap,happ⟩:=zE x.ap;obtain⟨k9,hk9⟩:=zE y.2;obtain⟨q,hq⟩:=h.nd x hxl;obtain⟨hr,hrx,-⟩:=h.rb x hxl;have hyk:=htk y hyt;rw[hxe] at hap hcm hb hla;rw[hrb,hbb,happ] at hr;rw[hrb] at hrx;rw[happ] at hap;rw[hk9] at hya hyk hyr;obtain⟨N,hN⟩:=zE l.length;have hNt:tk.length=N:=by rw[h.tl];exact hN
 rw[hN] at hvn hl9;rw[hNt] at hvt;obtain⟨base,hbase⟩:=zE x.n.log.base;obtain⟨cm,hcmm⟩:=zE x.n.commit;obtain⟨cnt,hcnt⟩:=zE (cm-max ap base);rw[hcmm] at hcm;have hcn9:cnt≤900000:=by omega
 have TC:Hid (Calls Tryz.prog 37 #[.pointer (some ⟨rb,0,none⟩)] w.drew fun e w'=>TkOut w.drew rb b ap base q.es cm e w'):=by have:=pX (hq.tt (Fr.refl _ w).drew) (rb:=rb) (ap:=ap) (by rw[hbb];exact hr.fr (K:=fun _ _=>True) (Fr.refl _ w).drew fun _=>trivial) (by omega) (by omega) (by omega) (by omega);rw[hbb,hbase,hcmm] at this;exact this
 have TT:Hid (dK base q.es (max ap base) cnt=dK base q.es (max ap base) cnt):=rfl;obtain⟨tl,htl⟩:=zE (dK base q.es (max ap base) cnt);have htll:tl.length=cnt:=by rw[←htl];exact fY _ _ _ _
 have H:=zH h
 have gG:Hid (G≠rb∧(Value.slice ga k9 ca).ownBlock≠some G∧gn≠rb∧(Value.slice ga k9 ca).ownBlock≠some gn∧gt≠rb∧(Value.slice ga k9 ca).ownBlock≠some gt∧(Value.slice ga k9 ca).ownBlock≠some rb):=by
  have e1:=cX hyr h.top (by decide);have e2:=cX hyr hr (by decide);have e3:=cX h.rn hr (by decide);have e4:=cX h.rt hr (by decide);rw[hvn] at e3;rw[hvt] at e4;rw[hya] at e1 e2;refine⟨fun e=>?_,e1,fun e=>e3 (by rw[e];rfl),fun e=>?_,fun e=>e4 (by rw[e];rfl),fun e=>?_,e2⟩
  ·have h1:=hr;unfold RB at h1;rw[←e,h.top] at h1;cases h1
  ·exact jx hyr h.rn (by decide) (by rw[hya];exact e) (by rw[hvn];rfl)
  ·exact jx hyr h.rt (by decide) (by rw[hya];exact e) (by rw[hvt];rfl)
 have CW:Hid (∀W,Fr (fun k _=>k≠rb∧(Value.slice ga k9 ca).ownBlock≠some k) w W→W.cell? ⟨G,0,none⟩=some (.slice (some ⟨gn,0,none⟩) N cn)∧W.cell? ⟨G,2,none⟩=some (.slice (some ⟨gt,0,none⟩) N ct)∧W.cell? ⟨gn,i,none⟩=some (.pointer (some ⟨rb,0,none⟩))∧W.cell? ⟨gt,i,none⟩=some (.slice ga k9 ca)):=fun W f=>by
  have tG:=f.keep _ _ h.top ⟨gG.out.1,gG.out.2.1⟩;have rn:=bK h.rn f fun k o e ho=>⟨fun hk=>gG.out.2.2.1 (by rw[hvn] at e;cases e;exact hk),fun hk=>gG.out.2.2.2.1 (by rw[hvn] at e;cases e;exact hk)⟩
  have rt:=bK h.rt f fun k o e ho=>⟨fun hk=>gG.out.2.2.2.2.1 (by rw[hvt] at e;cases e;exact hk),fun hk=>gG.out.2.2.2.2.2.1 (by rw[hvt] at e;cases e;exact hk)⟩
  rw[hvn,hN] at rn;rw[hvt,hNt] at rt;have c1:=gv rn i (by rw[List.length_map,hN];omega);have c2:=gv rt i (by rw[List.length_map,hNt];omega);rw[List.getElem_map,hxe] at c1;rw[List.getElem_map] at c2;refine⟨by rw[bQ tG rfl,hvn];rfl,by rw[bQ tG rfl,hvt];rfl,by rw[c1,←hrb],?_⟩;rw[c2,←hya];exact congrArg (fun z:Value×Nat=>some z.1) hy
 obtain⟨mx,hmx⟩:=zE (max ap cm)
 have ES:Hid ((St l ms tk many).take i=St (l.set i ⟨x.b,x.rb,x.n,mx,x.P⟩) ms (tk.set i (default,k9+cnt)) many):=by
  show (St l ms tk many).take i=_
  have e1:(St l ms tk many).ns.getD i default=x.n:=by exact mQt
  have e2:(St l ms tk many).aps.getD i 0=ap:=by show (l.map (·.ap)).getD i 0=ap;rw[List.getD_eq_getElem?_getD,List.getElem?_map,List.getElem?_eq_getElem hi,←happ];exact congrArg (fun y:Rx=>y.ap) hx
  have e3:(St l ms tk many).tl.getD i 0=k9:=by show (tk.map Prod.snd).getD i 0=k9;rw[List.getD_eq_getElem?_getD,List.getElem?_map,List.getElem?_eq_getElem hit,←hk9];exact congrArg (fun y:Value×Nat=>y.2) hy
  unfold Gs.take;rw[e1,e2,e3,hbase,hcmm,hmx,hcnt];unfold St
  have en:(l.set i ⟨x.b,x.rb,x.n,mx,x.P⟩).map (·.n)=l.map (·.n):=by
   rw[List.map_set];apply List.ext_getElem?;intro j;rw[List.getElem?_set];split
   ·rename_i e;subst e;rw[if_pos (by rw[List.length_map];exact hi),List.getElem?_map,List.getElem?_eq_getElem hi];show some x.n=some (l[i]'hi).n;exact(congrArg (fun y:Rx=>some y.n) hx).symm
   ·rfl
  rw[en,List.map_set,List.map_set]
 have HX:=zH (And.intro hxe (And.intro hrb (And.intro hbb (And.intro happ (And.intro hy (And.intro hya (And.intro hk9 (And.intro hvt hNt))))))));have HIT:=zH (And.intro hi (And.intro hit hmx));have OY:Hid (w.ownsRow B 87 4 (.slice ga k9 ca) k9 yx):=by show World.ownsRow _ _ _ _ _ _ _;rw[←hya];exact hyr
 have HT:=zH (And.intro htl htll);have HRT:=zH (And.intro h.rt hN);have hiN:i<N:=by omega
 have hiI:(i:Int)<(N:Int):=by omega
 have hN9:(N:Int)≤1000:=by omega
 have hk99:k9+cnt≤1000000:=by omega
 obtain⟨kc,hkc⟩:=zE (k9+cnt);have HCK:=zH (And.intro hkc (And.intro hcnt hk99));rw[hkc] at ES;have CW0:Hid (∀W,Fr (fun k _=>k≠rb) w W→Fr (fun k _=>k≠rb∧(Value.slice ga k9 ca).ownBlock≠some k) w W):=fun W f=>f.mono fun _ _ h=>h.1
 clear h hap hcm hb hla htk hl9 NC hx hxl hxe hy hyt hyr hyx hya hrb hbb happ hk9 hq hr hrx hyk hN hNt hvn hvt hbase hcmm hcnt hcn9 htl htll hmx hk99 hkc;obtain⟨p1,hp1⟩:∃p:Value→World→Prop,(fun v W=>∃g c,v=.slice g cnt c∧W.ownsRow w.heap.size 87 4 (.slice g cnt c) cnt (tl.flatMap encS)∧RB W rb b mx∧Fr (fun k _=>k≠rb) w W)=p:=⟨_,rfl⟩
 obtain⟨p2,hp2⟩:∃p:Value→Value→World→Prop,(fun v u W=>∃w1 g c ys,Fr (fun k _=>k≠rb) w w1∧RB w1 rb b mx∧u=.slice g kc c∧W.ownsRow B 87 4 (.slice g kc c) kc ys∧Fr (fun k _=>(Value.slice ga k9 ca).ownBlock≠some k) w1 W∧OwnNext w1 (Value.slice ga k9 ca) (.slice g kc c))=p:=⟨_,rfl⟩
 have M1:Hid (∀v W,p1 v W↔∃g c,v=.slice g cnt c∧W.ownsRow w.heap.size 87 4 (.slice g cnt c) cnt (tl.flatMap encS)∧RB W rb b mx∧Fr (fun k _=>k≠rb) w W):=fun v W=>by rw[←hp1]
 have M2:Hid (∀v u W,p2 v u W↔∃w1 g c ys,Fr (fun k _=>k≠rb) w w1∧RB w1 rb b mx∧u=.slice g kc c∧W.ownsRow B 87 4 (.slice g kc c) kc ys∧Fr (fun k _=>(Value.slice ga k9 ca).ownBlock≠some k) w1 W∧OwnNext w1 (Value.slice ga k9 ca) (.slice g kc c)):=fun v u W=>by rw[←hp2]
 clear hp1 hp2
 have P1:Hid (∀(v:Value) (W:World),p1 v W→Fr (fun k _=>k≠rb∧(Value.slice ga k9 ca).ownBlock≠some k) w W):=fun v W h=>by obtain⟨g,c,_,_,_,f⟩:=(M1.out v W).1 h;exact CW0.out W f
 have P2:Hid (∀(v u:Value) (W:World),p2 v u W→Fr (fun k _=>k≠rb∧(Value.slice ga k9 ca).ownBlock≠some k) w W):=fun v u W h=>by obtain⟨w1,g,c,ys,f1,_,_,_,f2,_⟩:=(M2.out v u W).1 h;exact(CW0.out w1 f1).trans (f2.mono fun _ _ h=>h.2)
 go_enter Tryz.func80,Tryz.ntmps80
 go_wp2_with fail
 refine xw (by kernel_rfl) [(4,0),(5,1),(6,2),(7,3),(8,4),(9,5),(10,6),(11,7),(12,8),(13,9),(14,10),(15,11),(16,12),(17,13),(18,14),(19,15),(20,16),(21,17),(22,18),(23,19),(24,20)] [(0,[]),(1,[0]),(2,[1]),(3,[2]),(4,[]),(5,[]),(6,[5]),(7,[6]),(8,[7]),(9,[]),(10,[8,9]),(11,[10]),(12,[]),(13,[12]),(14,[13]),(15,[14]),(16,[]),(17,[15,16]),(18,[17]),(19,[18]),(20,[11,19])] (JJ [(0,.pointer (some ⟨G,0,none⟩)),(1,.pointer (some ⟨G,0,none⟩)),(2,.pointer (some ⟨G,2,none⟩)),(3,.slice (some ⟨gt,0,none⟩) N ct),(4,.int .i64 (i:Nat)),(5,.pointer (some ⟨G,0,none⟩)),(6,.pointer (some ⟨G,0,none⟩)),(7,.pointer (some ⟨G,2,none⟩)),(8,.slice (some ⟨gt,0,none⟩) N ct),(9,.int .i64 (i:Nat)),(10,.pointer (some ⟨gt,i,none⟩)),(11,.slice ga k9 ca),(12,.pointer (some ⟨G,0,none⟩)),(13,.pointer (some ⟨G,0,none⟩)),(14,.pointer (some ⟨G,0,none⟩)),(15,.slice (some ⟨gn,0,none⟩) N cn),(16,.int .i64 (i:Nat)),(17,.pointer (some ⟨gn,i,none⟩)),(18,.pointer (some ⟨rb,0,none⟩))] 19 20 w.drew p1 p2) 2 (by kernel_rfl) (by kernel_rfl) (by kernel_rfl) rfl (fun xs=>⟨fun j v _ h=>(by cases h),fun _=>rfl,fun h=>(by cases h),fun h=>(by cases h),fun h=>(by cases h)⟩) ?zall ?zend
 case zall=>
  iterate 19
   refine jz.kk rfl rfl (by decide) (by decide) ?_ ?_
   ·intro d xs W hJ hE K' hK;have HC:=zH (CW.out W (JJ.all (R:=fun W=>Fr (fun k _=>k≠rb∧(Value.slice ga k9 ca).ownBlock≠some k) w W) hJ (CW0.out _ (Fr.refl _ _).drew) P1.out P2.out));clear hJ;simp only[ckEqs,ckLook,Nat.reduceBEq] at hE;simp only[fillA,fillL,sA,sB,sC,Act.put,hE] at hK ⊢;clear hE;obtain⟨c0,c2,cn1,ct1⟩:=HC.out;exact mr9
  refine jz.cons rfl ?_ ?_
  ·intro d xs W hd ha hJ K' hK;have hE:=hJ.eqs _ ha;have HJ:=zH hJ;have HD:=zH hd;clear hJ ha hd;simp only[ckEqs,ckLook,Nat.reduceBEq] at hE;simp only[fillA,fillL,sA,sB,sC,Act.put,hE] at hK ⊢;clear hE;obtain rfl:=HJ.out.a HD.out;(try simp only[gA,gB,gC]);go_simp;(with_reducible refine TC.out.mono ?_);rintro e w8 ⟨g,c,he,o8,r8,f8⟩;rw[HCK.out.2.1] at he o8;rw[HT.out.1] at o8;rw[HIT.out.2.2] at r8;subst he;exact hK.out _ _ _ rfl (HJ.out.one (by decide) HD.out rfl ((M1.out _ _).2 ⟨g,c,rfl,o8,r8,((Fr.refl _ _).drew).trans f8⟩))
  refine jz.cons rfl ?_ ?_
  ·intro d xs W hd ha hJ K' hK;have H19:Hid (d 19=true):=ha 19 (by decide);have hE:=hJ.eqs _ ha;have HJ:=zH hJ;have HPJ:=zH ((M1.out _ _).1 (hJ.b H19.out hd));clear hJ ha hd;simp only[ckEqs,ckLook,Nat.reduceBEq] at hE;simp only[fillA,fillL,sA,sB,sC,Act.put,hE] at hK ⊢;clear hE;obtain⟨g,c,e19,o8,r8,f8⟩:=HPJ.out;rw[e19] at hK ⊢;have O8:Hid (W.ownsRow w.heap.size 87 4 (.slice g cnt c) tl.length (tl.flatMap encS)):=by show World.ownsRow _ _ _ _ _ _ _;rw[HT.out.2];exact o8
   have HH:=zH (And.intro r8 f8);have OYW:W.ownsRow B 87 4 (.slice ga k9 ca) k9 yx:=bK OY.out f8 fun k o e ho hk=>gG.out.2.2.2.2.2.2 (hk▸e)
   have hl9:k9+tl.length≤1000000:=by rw[HT.out.2];exact HCK.out.2.2
   clear o8 r8 f8;(try simp only[gA,gB,gC]);refine(iteInduction (motive:=fun t=>t) (fun _=>?_) (fun hn=>absurd rfl hn))
   with_reducible refine n_ (K:=fun a w=>K' a w) W (.tmp 15) (.tmp 23) (by rfl) (.slice ga k9 ca) k9 yx (by simp [Act.eval,Act.put,fillA,fillL,sA,sB,sC]) (c_ OYW fun _ _=>Nat.zero_le _) tl (.slice g cnt c) (by simp [Act.eval,Act.put,fillA,fillL,sA,sB,sC]) O8.out hl9 ?_
   intro g9 c9 w9 ys o9 f9 n9;rw[HT.out.2,HCK.out.1] at o9 n9 ⊢;refine hK.out _ _ _ rfl (HJ.out.two (by decide) H19.out rfl ((M2.out _ _ _).2 ⟨W,g9,c9,ys,HH.out.2,HH.out.1,rfl,c_ o9 fun q e=>?_,f9,n9⟩));rcases n9 with q9 | ⟨k8,q9,hk8⟩
   ·rw[q9] at e;exact cK OYW q e
   ·rw[q9] at e;cases e;exact Nat.le_trans H.out.bs (Nat.le_trans HH.out.2.size hk8)
  exact jz.nil
 case zend=>
  intro d xs W hd hJ;obtain⟨w1,g,c,ys,f1,r1,e20,o20,f20,n20⟩:=(M2.out _ _ _).1 (hJ.c (hd (20,[11,19]) (by decide)))
  have hE:=hJ.eqs ([0,1,2,3,4,5,6,7,8,9,10,11,12,13,14,15,16,17,18]:List Nat) (fun j hj=>by
   have h3:∀q∈([0,1,2,3,4,5,6,7,8,9,10,11,12,13,14,15,16,17,18]:List Nat),∃p∈([(0,[]),(1,[0]),(2,[1]),(3,[2]),(4,[]),(5,[]),(6,[5]),(7,[6]),(8,[7]),(9,[]),(10,[8,9]),(11,[10]),(12,[]),(13,[12]),(14,[13]),(15,[14]),(16,[]),(17,[15,16]),(18,[17]),(19,[18]),(20,[11,19])]:List (Nat×List Nat)),p.1=q:=by decide
   obtain⟨p,h4,rfl⟩:=h3 j hj;exact hd _ h4)
  have FW:=zH (P2.out (xs 19) (xs 20) W ((M2.out _ _ _).2 ⟨w1,g,c,ys,f1,r1,e20,o20,f20,n20⟩));obtain⟨c0,c2,cn1,ct1⟩:=CW.out W FW.out;have HH:=zH (And.intro f1 (And.intro r1 (And.intro o20 (And.intro f20 n20))));clear hJ f1 r1 o20 f20 n20;simp only[ckEqs,ckLook,Nat.reduceBEq] at hE;simp only[fillA,fillL,sA,sB,sC,hE,e20];clear hE e20
  have RTW:Hid (W.ownsRow B 80 1 (.slice (some ⟨gt,0,none⟩) N ct) N (tk.map Prod.fst)):=by
   have:=bK HRT.out.1 FW.out fun k o e ho=>⟨fun hk=>gG.out.2.2.2.2.1 (by rw[HX.out.2.2.2.2.2.2.2.1] at e;cases e;exact hk),fun hk=>gG.out.2.2.2.2.2.1 (by rw[HX.out.2.2.2.2.2.2.2.1] at e;cases e;exact hk)⟩
   rw[HX.out.2.2.2.2.2.2.2.1,HX.out.2.2.2.2.2.2.2.2] at this;exact this
  obtain⟨curt,hct⟩:=cZ RTW.out (c:=gt) rfl;have zt:=bV (i:=i) hct;obtain⟨W9,hW9⟩:=zE (W.setCell ⟨gt,i,none⟩ (.slice g kc c));have F9:Hid (Fr (fun k _=>k≠gt) W W9):=hW9▸(Fr.refl _ _).setCell (fun _ _ h=>h rfl) _;have R9:Hid (W9.ownsRow B 80 1 (.slice (some ⟨gt,0,none⟩) N ct) N ((tk.map Prod.fst).set i (.slice g kc c))):=hW9▸own_set1 RTW.out i hiN _;clear hct;refine wpN 21 rfl fun K' hK=>?_
  (try simp only[gA,gB,gC]);go_simp;refine hK.out _ _ ?_;clear hK K';refine wpN 22 rfl fun K' hK=>?_
  (try simp only[gA,gB,gC]);go_simp;refine hK.out _ _ ?_;clear hK K';refine wpF ?_
  try rw[hW9]
  clear hW9 zt c0 c2 cn1 ct1;have G1:=H.out.apply (w':=w1) (ap':=mx) i HIT.out.1 (by rw[HX.out.1,HX.out.2.1];exact HH.out.1) (by rw[HX.out.1,HX.out.2.1,HX.out.2.2.1];exact HH.out.2.1);have e5:(tk[i]'HIT.out.2.1).1=.slice ga k9 ca:=by rw[←HX.out.2.2.2.2.2.1];exact congrArg Prod.fst HX.out.2.2.2.2.1
  have G2:=G1.took (w':=W9) (v':=.slice g kc c) (k':=kc) i HIT.out.2.1 (by
   rw[e5,HX.out.2.2.2.2.2.2.2.1];exact(HH.out.2.2.2.1.mono fun k _ h=>h.1).trans (F9.out.mono fun k _ h e=>h.2 (by rw[e];rfl))) ⟨ys,bK HH.out.2.2.1 F9.out fun k o e ho hk=>jx RTW.out HH.out.2.2.1 (by decide) rfl (hk▸e)⟩ (by rw[e5];exact HH.out.2.2.2.2) (by
   rw[List.map_set,HX.out.2.2.2.2.2.2.2.1,HX.out.2.2.2.2.2.2.2.2];exact R9.out)
  have FB:Fr (fun q _=>q<B) w W9:=(FW.out.mono fun q _ hq=>⟨fun e=>by
   have h9:=(H.out.rb _ (List.getElem_mem HIT.out.1)).2.2;rw[HX.out.1,HX.out.2.1] at h9;have hq':q<B:=hq;omega,fun e=>by have:=cK OY.out q e;have hq':q<B:=hq;omega⟩).trans (F9.out.mono fun q _ hq e=>by
   have h9:=cK RTW.out gt rfl;have hq':q<B:=hq;omega)
  go_wp2;go_end0;rw[ES.out];refine⟨rfl,⟨X,_,ms,_,many,vn,vm,vt,G2,?_⟩,FB⟩;unfold St;have ex:(l[i]'HIT.out.1)=x:=HX.out.1;have et:(tk.set i (.slice g kc c,kc)).map Prod.snd=(tk.set i (default,kc)).map Prod.snd:=by rw[List.map_set,List.map_set]
  rw[ex,et]
end
end Go.Proofs.YtmjccpfchhnfhaaGreat
