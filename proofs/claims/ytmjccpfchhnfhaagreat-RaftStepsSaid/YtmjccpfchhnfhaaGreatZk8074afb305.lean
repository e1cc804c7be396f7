/- Texts of the proofs, part 40: what the functions that they reach do, walked; no conditions beyond those that each states. -/
import Derived.OpenShut
import Derived.Test.YtmjccpfchhnfhaaGreatZk801b953b03
set_option linter.unusedVariables false
set_option linter.unusedSimpArgs false
set_option maxRecDepth 100000
set_option maxHeartbeats 8000000
namespace Go.Proofs.YtmjccpfchhnfhaaGreat
open Go.RowKit
theorem list10 {l:List Value} (h:l.length=10):∃a b c d e f g i j k,l=[a,b,c,d,e,f,g,i,j,k]:=by
 match l,h with
 | [a,b,c,d,e,f,g,i,j,k],_=>exact⟨a,b,c,d,e,f,g,i,j,k,rfl⟩
theorem Ly {α:Type} {w:World} {t e:TypeId} {v:Value} {n:Nat} (enc:α→List Value) (Q:α→Prop) (ht:Tryz.prog.underlying t=some (.slice e)) (hs:Tryz.prog.cellsOf e=n) (h0:0<n) (hn:∀x,(enc x).length=n) (hone:∀cs,Rd Tryz.prog w e cs→∃x,cs=enc x∧Q x) (h:Rd Tryz.prog w t [v]):
 ∃(a:Option Addr) (c:Nat) (xs:List α),v=.slice a xs.length c∧RowsAt (fun c _=>c<w.heap.size) w v n enc xs∧(∀x∈xs,Q x)∧xs.length≤maxLen∧(a=none→c=0):=by
 obtain⟨a,len,cap,hv,hl1,hl2,hz,hc⟩:=h.slice ht hs;obtain rfl:v=.slice a len cap:=by simpa using hv
 obtain⟨l,hl,hp⟩:=CV (p:=fun i (x:α)=>∃ad,a=some ad∧(∀j u,(enc x)[j]? = some u→w.cell? (ad.add (i*n+j))=some u)∧Q x) len fun i hi=>by
  obtain⟨ad,cs,ha,hcl,hat,hr⟩:=hc i hi;obtain⟨x,rfl,h1⟩:=hone cs hr;refine⟨x,ad,ha,fun j u hu=>?_,h1⟩
  have hj:j<n:=by have:=(List.getElem?_eq_some_iff.1 hu).1;rw[hn] at this;exact this
  rw[hat j hj];exact hu
 refine⟨a,cap,l,by rw[hl],⟨a,cap,by rw[hl],by omega,?_⟩,fun x hx=>?_,by omega,hz⟩
 ·by_cases hk:l=[]
  ·exact .inl hk
  ·obtain⟨ad,ha,e0,_⟩:=hp 0 (List.length_pos_iff.2 hk);have hm:0<(enc (l[0]'(List.length_pos_iff.2 hk))).length:=by rw[hn];exact h0
   have e1:=e0 0 _ (List.getElem?_eq_getElem hm);rw[Nat.zero_mul,Nat.zero_add] at e1;obtain⟨b,off,rfl⟩:=BK e1;have hlt:b<w.heap.size:=by have:=qW e1;simpa [qY] using this
   refine .inr ⟨b,off,w.heap[b],ha,Array.getElem?_eq_getElem hlt,hlt,fun i hi j u hu=>?_⟩;obtain⟨ad',ha',e2,_⟩:=hp i hi;rw[ha] at ha';cases ha';have e3:=e2 j u hu;rw[qY] at e3;rw[Nat.add_assoc];exact e3
 ·obtain⟨i,hi,rfl⟩:=List.getElem_of_mem hx;obtain⟨_,_,_,h1⟩:=hp i hi;exact h1
theorem nat_of {w:World} {cs:List Value} (h:Rd Tryz.prog w 23 cs):∃x:Nat,cs=encW x∧x<18446744073709551616:=by
 obtain⟨x0,h0,w0⟩:=h.int Tryz.underlying23;obtain⟨l0,u0⟩:=bounds_u64 w0;obtain⟨y0,rfl⟩:=Int.eq_ofNat_of_zero_le l0;exact⟨y0,h0,by omega⟩
theorem byt_of {w:World} {cs:List Value} (h:Rd Tryz.prog w 5 cs):∃x:UInt8,cs=[kq x]∧True:=by
 obtain⟨n,rfl,hw⟩:=h.int Tryz.underlying5;obtain⟨h0,h1⟩:=bounds_u8 hw;refine⟨UInt8.ofNat n.toNat,?_,trivial⟩;rw[kq,UInt8.toNat_ofNat'];show [Value.int .u8 n]=_;congr 2;omega
theorem RowsAt.byts {K:Nat→Obj→Prop} {w:World} {a:Option Addr} {c:Nat} {bs:List UInt8} (h:RowsAt K w (.slice a bs.length c) 1 (fun x=>[kq x]) bs) (hz:a=none→c=0):BytesAt K w (.slice a bs.length c) bs:=by
 obtain⟨a',c',e,hcc,h1⟩:=h;cases e;refine⟨a,c,rfl,hcc,hz,?_⟩;rcases h1 with h1 | ⟨b,off,o,ha,ho,hk,hc⟩
 ·exact .inl h1
 ·refine .inr ⟨b,off,o,ha,ho,hk,fun i hi=>?_⟩;have:=hc i hi 0 _ rfl
  rwa [Nat.mul_one,Nat.add_zero] at this
theorem RowsAt.ints {K:Nat→Obj→Prop} {w:World} {a:Option Addr} {c:Nat} {zs:List Int} (h:RowsAt K w (.slice a zs.length c) 1 (fun x=>[.int .i64 x]) zs):IntsAt K w (.slice a zs.length c) zs:=by
 obtain⟨a',c',e,hcc,h1⟩:=h;cases e;refine⟨a,c,rfl,?_⟩;rcases h1 with h1 | ⟨b,off,o,ha,ho,hk,hc⟩
 ·exact .inl h1
 ·refine .inr ⟨b,off,o,ha,ho,hk,fun i hi=>?_⟩;have:=hc i hi 0 _ rfl
  rwa [Nat.mul_one,Nat.add_zero] at this
abbrev zk (w:World):Old:=⟨fun c=>c<w.heap.size⟩
theorem Lk (w:World) (c:Nat) (o:Obj) (h:c<w.heap.size):@RO (zk w) (fun _=>False) c o:=⟨fun e=>e,.inl h⟩
theorem dat_of {w:World} {v:Value} (h:Rd Tryz.prog w 30 [v]):∃a c bs,v=.slice a bs.length c∧BytesAt (@RO (zk w) fun _=>False) w (.slice a bs.length c) bs∧bs.length≤9223372036854775807:=by
 obtain⟨a,c,bs,rfl,h1,_,h3,h4⟩:=Ly (n:=1) (fun x=>[kq x]) (fun _=>True) Tryz.underlying30 (by kernel_rfl) (by decide) (fun _=>rfl) (fun cs hr=>byt_of hr) h;exact⟨a,c,bs,rfl,(h1.byts h4).mono fun c o _ hc=>Lk w c o hc,by unfold maxLen at h3;omega⟩
theorem ent_of {w:World} {cs:List Value} (h:Rd Tryz.prog w 85 cs):∃x:EV,cs=encE x∧BytesAt (@RO (zk w) fun _=>False) w (.slice x.a x.d.length x.c) x.d∧x.d.length≤9223372036854775807:=by
 obtain⟨hcl,hf⟩:=h.struct (sz:=3) Tryz.underlying85 (by kernel_rfl);obtain⟨c0,c1,c2,rfl⟩:=list3 hcl;obtain⟨x0,h0,w0⟩:=nat_of (show Rd Tryz.prog w 23 [c0] from hf 0 _ rfl);obtain⟨x1,h1,_⟩:=(show Rd Tryz.prog w 3 [c1] from hf 1 _ rfl).int Tryz.underlying3;obtain⟨a,c,bs,rfl,hb,hl⟩:=dat_of (show Rd Tryz.prog w 30 [c2] from hf 2 _ rfl);have e0:c0=.int .u64 (x0:Nat):=by injection h0
 have e1:c1=.int .i64 x1:=by injection h1
 exact⟨⟨x0,x1,a,c,bs⟩,by rw[e0,e1];rfl,hb,hl⟩
theorem ents_of {w:World} {v:Value} (h:Rd Tryz.prog w 24 [v]):∃a c xs,v=.slice a xs.length c∧@EsAt (zk w) (fun _=>False) w (.slice a xs.length c) xs∧xs.length≤maxLen:=by
 obtain⟨a,c,xs,rfl,h1,h2,h3,h4⟩:=Ly (n:=3) encE _ Tryz.underlying24 (by kernel_rfl) (by decide) (fun _=>rfl) (fun cs hr=>ent_of hr) h;exact⟨a,c,xs,rfl,@EsAt.mk (zk w) _ _ _ _ (h1.mono fun c o _ hc=>Lk w c o hc) (fun n k e=>by cases e;exact h4 rfl) h2,h3⟩
theorem ints_of {w:World} {v:Value} (h:Rd Tryz.prog w 22 [v]):∃a c zs,v=.slice a zs.length c∧IntsAt (@RO (zk w) fun _=>False) w (.slice a zs.length c) zs∧zs.length≤maxLen:=by
 obtain⟨a,c,zs,rfl,h1,_,h3,_⟩:=Ly (n:=1) (fun x=>[.int .i64 x]) (fun _=>True) Tryz.underlying22 (by kernel_rfl) (by decide) (fun _=>rfl) (fun cs hr=>by obtain⟨x,h,_⟩:=hr.int Tryz.underlying3;exact⟨x,h,trivial⟩) h
 exact⟨a,c,zs,rfl,h1.ints.mono fun c o hc=>Lk w c o hc,h3⟩
theorem intc {w:World} {c:Value} (h:Rd Tryz.prog w 3 [c]):∃x,c=.int .i64 x:=by
 obtain⟨x,h,_⟩:=h.int Tryz.underlying3;exact⟨x,by injection h⟩
theorem natc {w:World} {c:Value} (h:Rd Tryz.prog w 23 [c]):∃x:Nat,c=.int .u64 (x:Nat):=by
 obtain⟨x,h,_⟩:=nat_of h;exact⟨x,by injection h⟩
namespace Lg
theorem slice_len (l:Lg) (i m:Nat):(l.slice i m).length≤m:=by
 unfold slice;split
 ·rw[List.length_take];omega
 ·exact Nat.zero_le _
end Lg
namespace Nd
end Nd
def Es8 (l:List Ms):Prop:=∀x∈l,x.es.length≤8
theorem Es8.nil:Es8 []:=fun _ h=>by cases h
theorem Es8.one {m:Ms} (h:m.es.length≤8):Es8 [m]:=fun x hx=>by rw[List.mem_singleton.1 hx];exact h
theorem Es8.app {a b:List Ms} (ha:Es8 a) (hb:Es8 b):Es8 (a++b):=fun x hx=>by
 rcases List.mem_append.1 hx with h | h
 ·exact ha x h
 ·exact hb x h
namespace Nd
variable {n:Nd} {m:Ms}
theorem toAll_e8 (h:m.es.length≤8):Es8 (n.toAll m):=fun x hx=>by
 obtain⟨y,-,rfl⟩:=List.mem_map.1 hx;exact h
theorem askT_e8:Es8 n.askT.2:=by
 unfold askT;split
 ·dsimp only;split
  ·exact Es8.nil
  ·exact toAll_e8 (Nat.zero_le _)
 ·exact Es8.nil
theorem Mw:Es8 n.chosen.2:=by
 unfold chosen;split
 ·exact askT_e8
 ·exact Es8.nil
theorem onAsk_e8:Es8 (n.onAsk m).2:=by
 unfold onAsk;split
 ·exact Es8.one (Nat.zero_le _)
 ·exact Es8.nil
theorem B8:Es8 (n.onAnswer m).2:=by
 unfold onAnswer;split
 ·dsimp only;generalize (if n.tm<m.tm∧(m.ok=false∨m.kind=2) then n.follow m.tm (-1) else n)=n1;split
  ·split
   ·exact Mw
   ·exact Es8.nil
  ·exact Es8.nil
 ·exact Es8.nil
theorem xW (x:Int):Es8 (n.sendTo x):=by
 unfold sendTo;split
 ·exact Es8.nil
 ·exact Es8.one (Lg.slice_len _ _ _)
theorem beat_e8:Es8 n.beat:=fun x hx=>by
 obtain⟨y,-,hy⟩:=List.mem_flatMap.1 hx;exact xW y x hy
theorem taken_e8:Es8 (n.taken m).2:=by
 unfold taken;split
 ·exact Es8.one (Nat.zero_le _)
 ·exact Es8.one (Nat.zero_le _)
theorem B7:Es8 (n.onAppend m).2:=by
 unfold onAppend;split
 ·exact Es8.nil
 ·split
  ·exact Es8.one (Nat.zero_le _)
  ·exact taken_e8
theorem Hw:Es8 (n.onAcked m).2:=by
 unfold onAcked;split
 ·exact Es8.nil
 ·split
  ·exact Es8.nil
  ·split
   ·exact Es8.nil
   ·split
    ·exact Es8.nil
    ·exact xW _
theorem hear_e8:Es8 (n.hear m).2:=((onAsk_e8.app B8).app B7).app Hw
theorem led_e8 {r:Nd×List Ms} (h:Es8 r.2):Es8 (n.led r).2:=by
 unfold led;split
 ·exact h.app beat_e8
 ·exact h
theorem step_e8:Es8 (n.step m).1.2:=by
 unfold step;split
 ·exact Es8.nil
 ·exact led_e8 hear_e8
theorem step_d:Dat (n.step m).1.2:=by
 unfold step;split
 ·exact Dat.nil
 ·exact led_d hear_d
theorem hear_log (n:Nd) (m:Ms):(n.hear m).1.log.es.length≤n.log.es.length+m.es.length+1:=by
 have l1:=onAsk_log n m;have l2:=onAnswer_log (n.onAsk m).1 m;have l3:=onAppend_log ((n.onAsk m).1.onAnswer m).1 m;have l4:=onAcked_log (((n.onAsk m).1.onAnswer m).1.onAppend m).1 m;show (((((n.onAsk m).1.onAnswer m).1.onAppend m).1.onAcked m).1).log.es.length≤_;rw[l4];rw[l1] at l2;omega
theorem step_log (n:Nd) (m:Ms):(n.step m).1.1.log.es.length≤n.log.es.length+9:=by
 unfold step;split
 ·show n.log.es.length≤_;omega
 ·rename_i h
  have h0:n.right m=0:=by
   by_cases e:n.right m=0
   ·exact e
   ·exact absurd e h
  have:=(wq (right_ok h0).1).2.2.2.2;have h2:=hear_log n m;show (n.led (n.hear m)).1.log.es.length≤_;rw[led_y];omega
theorem step_yes (n:Nd) (m:Ms):(n.step m).1.1.yes.length≤n.yes.length+1:=by
 unfold step;split
 ·show n.yes.length≤_;omega
 ·have y1:=onAsk_y (m:=m) (Nat.le_refl n.yes.length);have y2:=onAnswer_y (m:=m) y1;have y3:=onAppend_y (m:=m) y2;have y4:(n.hear m).1.yes.length≤n.yes.length+1:=onAcked_y (m:=m) y3;show (n.led (n.hear m)).1.yes.length≤_;rw[led_y];exact y4
end Nd
theorem rs_end [Old] {R:Ending→World→Prop} {X P:Nat→Prop} {w:World} {rb rd b d ap:Nat} {n:Nd} {q:NV} {q2:DV} (m:MV) (g9:Nat) (ec:Int) (hp:PNs X P w b n q) (hrb:RB w rb b ap) (hrp:¬P rb) (hd:DNs X w d n q2) (hrd:RD w rd d ap) (hdp:¬P d) (hdr:¬P rd) (hne:rd≠d) (hbd:rb≠d) (hm:MsAt X w m) (t9:w.heap[g9]? = some (.cells (cM m) 32 (0,0))) (h9:¬X g9)
 (hel:m.es.length≤9223372036854775807) (hdl:m.d.length≤9223372036854775807) (hod:∀c,Old.o c→c<w.heap.size) (hpos:∀x∈n.conf,0≤x∧x≤15) (hg:n.right m.ms=0→Gn n m.ms) (hc16:n.conf.length≤12) (hes:n.log.es.length≤100000) (hye:n.yes.length≤100000) (fin:∀W,Fr (fun c _=>¬X c) w W→R (.returned (.bool true)) W) (fu:Nat→Value):
 Code.wp Tryz.prog (gX 21 (cW Tryz.f6.body)) (bodyPost Tryz.prog Tryz.f6 R) { tmps:=tU 290 fu [(9,.pointer (some ⟨g9,0,none⟩)),(13,.bool true),(15,.int .i64 ec),(17,.int .i64 ec),(20,.pointer (some ⟨rb,0,none⟩)),(21,.pointer (some ⟨rd,0,none⟩))],defers:=[] } w:=by
 have S1:Hid (∀W,Fr (fun _ _=>True) w W→Calls Tryz.prog 33 #[.pointer (some ⟨rb,0,none⟩),.agg (cM m)] W fun e w'=>SOut X P W b (n.step m.ms) e w'):=fun W f=>jJ (hp.tt f) (hrb.fr f fun _=>trivial) hrp m (hm.tt f) hel hdl (fun c h=>Nat.lt_of_lt_of_le (hod c h) f.size) hg
 obtain⟨r,hr⟩:=zE (n.step m.ms);have FIN:=zH fin;have C1:=zH (S1.out w (Fr.refl _ _));have c9:=bq t9
 have NXT:Hid (∀X' P' q' w4,PNs X' P' w4 b r.1.1 q'→Aft X P X' P' w w4→DNs X' w4 d n q2∧RB w4 rb b ap∧RD w4 rd d ap∧MsAt X' w4 m∧w4.heap[g9]? = some (.cells (cM m) 32 (0,0))∧¬P' d∧Fr (fun c _=>¬X c) w w4∧Calls Tryz.prog 34 #[.pointer (some ⟨rd,0,none⟩),.agg (cM m)] w4 fun e w'=>DSOut X' w4 d r e w'):=fun X' P' q' w4 p4 a4=>by
  have d4:=hd.far a4 hdp p4.hx;have r4:RD w4 rd d ap:=hrd.fr a4.fr fun _=>hdr
  have m4:=hm.aft a4;refine⟨d4,hrb.fr a4.fr fun _=>hrp,r4,m4,a4.fr.keep _ _ t9 (fun h=>h9 (a4.hp _ h)),a4.far (bZ hd.top) hdp,a4.fr.mono fun c _ k k2=>k (a4.hp c k2),?_⟩;rw[←hr];exact Cq d4 r4 hne m m4 (fun c h=>Nat.lt_of_lt_of_le (hod c h) a4.fr.size) hpos hg
 have LN:Hid (r.1.1.conf=n.conf∧r.1.1.log.es.length≤1000000∧r.1.1.yes.length≤maxLen∧n.conf.length≤maxLen∧Es8 r.1.2∧Dat r.1.2∧r.1.2.length≤100):=by rw[←hr];have h1:=Nd.step_log n m.ms;have h2:=Nd.step_yes n m.ms;have h3:=Nd.step_len n m.ms;exact⟨Nd.step_conf n m.ms,by omega,by unfold maxLen;omega,by unfold maxLen;omega,Nd.step_e8,Nd.step_d,by omega⟩
 rw[hr] at C1;have HBD:=zH (And.intro hne hbd);have XD:=zH hd.xb;clear hp hrb hrp hd hrd hdp hdr hne hbd hm h9 hel hdl hod hpos hg hc16 hes hye fin S1 hr;obtain⟨c0,c1,c2,c3,c4,c5,c6,c7,c8,c9⟩:=c9;clear t9;simp only[tU,tL,Nat.reduceAdd,Nat.reduceBEq,cond_true,cond_false];dsimp only[gX,cW,Tryz.f6];go_wp2_with fail
 (with_reducible refine C1.out.mono ?_);rintro e w4 ⟨X',P',q',v,mvs,rfl,p4,a4,o4,e4⟩;obtain⟨d4,rb4,rd4,m4,t9,nd4,f4,C2⟩:=NXT.out X' P' q' w4 p4 a4;have C2:=zH C2;have D4:=zH (And.intro p4 (And.intro d4 (And.intro rb4 (And.intro rd4 (And.intro nd4 (And.intro f4 (And.intro o4 e4)))))));clear c0 c1 c2 c3 c4 c5 c6 c7 c8 c9 C1 NXT p4 a4 o4 e4 d4 rb4 rd4 m4 nd4 f4;obtain⟨c0,c1,c2,c3,c4,c5,c6,c7,c8,c9⟩:=bq t9;clear t9;go_wp2_with fail
 (with_reducible refine C2.out.mono ?_);rintro e w5 ⟨q3,v2,mvs2,rfl,d5,f5,o5,e5⟩;have a5:=D4.out.2.1.own f5;have p5:=D4.out.1.far a5 (fun c k k2=>D4.out.2.2.2.2.1 (k2▸k)) d5.hx;have o4':=D4.out.2.2.2.2.2.2.1.aft a5
 have MC:Hid (Calls Tryz.prog 12 #[v,v2] w5 fun e w'=>e=.returned (.bool true)∧Fr (fun _ _=>True) w5 w'):=by
  have hl:mvs.length≤100:=by have:=congrArg List.length D4.out.2.2.2.2.2.2.2;rw[List.length_map] at this;have:=LN.out.2.2.2.2.2.2;omega
  refine L4 w5 v v2 mvs mvs2 o4'.rows o5.rows o4'.at' o5.at' (fun x hx=>?_) (D4.out.2.2.2.2.2.2.2.trans e5.symm) (by omega);have hx':x.ms∈r.1.2:=D4.out.2.2.2.2.2.2.2▸List.mem_map_of_mem hx;have k1:=LN.out.2.2.2.2.1 _ hx'
  have k1':x.es.length≤8:=by have:x.ms.es.length=x.es.length:=List.length_map ..;omega
  have k2:x.d=[]:=LN.out.2.2.2.2.2.1 _ hx';rw[k2];exact⟨by omega,by simp⟩
 have SC:Hid (∀W,Fr (fun _ _=>True) w5 W→Calls Tryz.prog 40 #[.pointer (some ⟨rb,0,none⟩),.pointer (some ⟨rd,0,none⟩)] W fun e w'=>e=.returned (.bool true)∧Fr (fun _ _=>True) W w'):=fun W f=>by
  have rb5:RB w5 rb b ap:=D4.out.2.2.1.fr f5 fun _=>HBD.out.2
  have rd5:RD w5 rd d ap:=D4.out.2.2.2.1.fr f5 fun _=>HBD.out.1
  exact BY (rb5.fr f fun _=>trivial) (rd5.fr f fun _=>trivial) (p5.tt f) (d5.tt f) LN.out.2.2.1 (by rw[LN.out.1];exact LN.out.2.2.2.1) LN.out.2.1
 have F5:Hid (Fr (fun c _=>¬X c) w w5):=D4.out.2.2.2.2.2.1.trans (f5.mono fun c _ k e=>k (e▸XD.out));clear c0 c1 c2 c3 c4 c5 c6 c7 c8 c9 d5 f5 o5 e5 a5 p5 o4' D4 C2;go_wp2_with fail
 (with_reducible refine MC.out.mono ?_);rintro e w6 ⟨rfl,f6⟩;have C6:=zH (SC.out w6 f6);have F6:=zH (F5.out.trans (f6.mono fun _ _ _=>trivial));clear f6 MC SC F5;go_wp2_with fail
 (with_reducible refine C6.out.mono ?_);rintro e w7 ⟨rfl,f7⟩;have F7:=zH (F6.out.trans (f7.mono fun _ _ _=>trivial));clear f7 C6 F6;go_wp2;exact FIN.out w7 F7.out
theorem m5 {P:Program} {c:Code} {Q:Exit→Act→World→Prop} {a:Act} {w:World} (h:∀a0,a=a0→Code.wp P c Q a0 w):Code.wp P c Q a w:=h a rfl
theorem PNs.frK2 [Old] {X P:Nat→Prop} {w w':World} {b:Nat} {n:Nd} {q:NV} (h:PNs X P w b n q) {K:Nat→Obj→Prop} (hf:Fr K w w') (hk:∀c o,w.heap[c]? = some o→P c∨RO X c o→K c o):PNs X P w' b n q:=by
 have a16:∀{c l},A16 w c l→P c→A16 w' c l:=fun {c l} ha hp=>ha.fr hf fun o ho=>hk _ _ ho (.inl hp)
 have cf2:IntsAt (RO X) w' q.vc n.conf:=(((h.cf.mono3 (K':=fun c o=>RO X c o∧K c o) fun c o ho hr=>⟨hr,hk c o ho (.inr hr)⟩).fr hf fun c o q=>q.2).mono fun c o q=>q.1)
 exact⟨hf.keep _ _ h.top (hk _ _ h.top (.inl h.pb)),cf2,bY h.ye hf fun c o e ho=>hk c o ho (.inl (h.yp c e)),h.yp,h.ev.fr hf fun c o ho hr=>hk c o ho (.inr hr),h.ee,a16 h.nx h.pn,a16 h.mt h.pm,h.nm,h.pb,h.pn,h.pm,h.px,fun c hc=>Nat.lt_of_lt_of_le (h.hx c hc) hf.size,h.od⟩
structure RSt [Old] (X P:Nat→Prop) (w:World) (rb rd b d ap:Nat) (n:Nd) (q:NV) (m:MV) (g9:Nat):Prop where
 hp:PNs X P w b n q
 rb':RB w rb b ap
 rd':∃a',RD w rd d a'
 nb:¬P rb
 dp:¬P d
 dr:¬P rd
 ne:rd≠d
 bd:rb≠d
 br:rb≠rd
 hm:MsAt X w m
 t9:w.heap[g9]? = some (.cells (cM m) 32 (0,0))
 h9:¬X g9
 n9:g9≠rd
 od:∀c,Old.o c→c<w.heap.size
 or:¬Old.o rd
 xd:X d
 dlt:d<w.heap.size
structure GQ (n:Nd) (m:MV):Prop where
 hel:m.es.length≤9223372036854775807
 hdl:m.d.length≤9223372036854775807
 hpos:∀x∈n.conf,0≤x∧x≤15
 hg:n.right m.ms=0→Gn n m.ms
 hc16:n.conf.length≤12
 hes:n.log.es.length≤100000
 hye:n.yes.length≤100000
section
variable {X P:Nat→Prop} {w w':World} {rb rd b d ap:Nat} {n:Nd} {q:NV} {m:MV} {g9:Nat}
theorem RSt.ro [Old] (h:RSt X P w rb rd b d ap n q m g9):∀c o,w.heap[c]? = some o→RO X c o→c≠d∧c≠rd:=fun c o ho hr=>⟨fun e=>hr.1 (e▸h.xd),fun e=>by
 obtain⟨a',ha⟩:=h.rd';unfold RD at ha;rw[e,ha] at ho;cases ho;exact(e▸hr).ne h.or rfl (by decide)⟩
theorem RSt.go [Old] (h:RSt X P w rb rd b d ap n q m g9) {a1:Nat} (hr:RD w' rd d a1) (f:Fr (fun c _=>c≠d∧c≠rd) w w'):RSt X P w' rb rd b d ap n q m g9:=
 ⟨h.hp.frK2 f fun c o ho hc=>hc.elim (fun k=>⟨fun e=>h.dp (e▸k),fun e=>h.dr (e▸k)⟩) (h.ro c o ho),h.rb'.fr f fun _=>⟨h.bd,h.br⟩,⟨a1,hr⟩,h.nb,h.dp,h.dr,h.ne,h.bd,h.br,h.hm.keep f h.ro,f.keep _ _ h.t9 ⟨fun e=>h.h9 (e▸h.xd),h.n9⟩,h.h9,h.n9,fun c hc=>Nat.lt_of_lt_of_le (h.od c hc) f.size,h.or,h.xd,Nat.lt_of_lt_of_le h.dlt f.size⟩
theorem RSt.fin [Old] (h:RSt X P w rb rd b d ap n q m g9) {w2:World} (f:Fr (fun c _=>c≠d∧c≠rd) w w') (g:Fr (fun c _=>¬X c∧c≠rd) w' w2):Fr (fun c _=>¬X c∧c≠rd) w w2:=(f.mono fun c _ k=>⟨fun e=>k.1 (e▸h.xd),k.2⟩).trans g
end
theorem rs_s20 [Old] {R:Ending→World→Prop} {X P:Nat→Prop} {w:World} {rb rd b d ap:Nat} {n:Nd} {q:NV} {q2:DV} (m:MV) (g9:Nat) (ec:Int) (h:RSt X P w rb rd b d ap n q m g9) (N1:Nd) (hN:N1.me=n.me∧N1.conf=n.conf) (hd:DNs X w d { N1 with next:=up n.next 0,mat:=up n.mat 0 } q2) (hrd:RD w rd d ap) (hfin:{ N1 with next:=n.next,mat:=n.mat }=n) (hg:GQ n m) (fin:∀W,Fr (fun c _=>¬X c∧c≠rd) w W→R (.returned (.bool true)) W) (fu:Nat→Value):
 Code.wp Tryz.prog (gX 20 (cW Tryz.f6.body)) (bodyPost Tryz.prog Tryz.f6 R) { tmps:=tU 290 fu [(9,.pointer (some ⟨g9,0,none⟩)),(13,.bool true),(15,.int .i64 ec),(17,.int .i64 ec),(20,.pointer (some ⟨rb,0,none⟩)),(21,.pointer (some ⟨rd,0,none⟩)),(23,.pointer (some ⟨d,0,none⟩))],defers:=[] } w:=by
 obtain⟨bn,hbn⟩:=zE q.bn;obtain⟨bm,hbm⟩:=zE q.bm;obtain⟨cn,hcn⟩:=zE q.cn;obtain⟨cm,hcm⟩:=zE q.cm;have H:=zH h;have HD:=zH hd;have HRD:=zH hrd;have HG:=zH hg;have FIN:=zH fin;have HE2:=zH hfin;have QS:=zH (And.intro hbn (And.intro hbm (And.intro hcn hcm)));have HNL:Hid (n.next.length=16∧n.mat.length=16):=⟨h.hp.nx.1,h.hp.mt.1⟩
 clear h hd hrd hg fin hfin hN hbn hbm hcn hcm;simp only[tU,tL,Nat.reduceAdd,Nat.reduceBEq,cond_true,cond_false];dsimp only[gX,cW,Tryz.f6];go_upto_region 25 with fail
 rename_i K1 h1 K2 h2;have H1:=zH h1;clear h1;go_wp2_with fail
 go_loopw [24] (fun v wr=>∃k:Nat,v=.int .i64 (k:Nat)∧k≤16∧Hid (RSt X P wr rb rd b d ap n q m g9)∧Hid (DNs X wr d { N1 with next:=up n.next k,mat:=up n.mat k } q2)∧Hid (RD wr rd d ap)∧Hid (Fr (fun c _=>c≠d∧c≠rd) w wr)) (fun v _=>16-(intOf v).toNat)
 case atStart=>exact⟨0,rfl,Nat.zero_le _,H.out,HD.out,HRD.out,Fr.refl _ _⟩
 case round=>
  obtain⟨k,rfl,hk,HS0,HL,HR0,HF0⟩:=hrel;by_cases hlt:k<16
  ·have hltI:(k:Int)<16:=by omega
   obtain⟨nk,hnk⟩:=zE (n.next.getD k 0);obtain⟨mk,hmk⟩:=zE (n.mat.getD k 0);have KN:=zH (And.intro hnk hmk);have HK:=zH hlt
   have CELL:Hid (∀w0,RSt X P w0 rb rd b d ap n q m g9→∀W,Fr (fun _ _=>True) w0 W→W.cell? ⟨rb,0,none⟩=some (.pointer (some ⟨b,0,none⟩))∧W.cell? ⟨b,12,none⟩=some (.slice (some ⟨bn,0,none⟩) 16 cn)∧W.cell? ⟨b,13,none⟩=some (.slice (some ⟨bm,0,none⟩) 16 cm)∧W.cell? ⟨bn,k,none⟩=some (.int .u64 (nk:Nat))∧W.cell? ⟨bm,k,none⟩=some (.int .u64 (mk:Nat))):=fun w0 hs W f=>by have c:=hs.hp.cells f;have c0:=bQ (i:=0) (f.keep _ _ hs.rb' trivial) rfl;rw[QS.out.1,QS.out.2.1,QS.out.2.2.1,QS.out.2.2.2] at c;have a1:=(hs.hp.nx.fr f fun _ _=>trivial).cell k hlt;have a2:=(hs.hp.mt.fr f fun _ _=>trivial).cell k hlt;rw[QS.out.1,hnk] at a1;rw[QS.out.2.1,hmk] at a2;exact⟨c0,c.2.2.2.2.2.2.2.2.2.2.2.2.1,c.2.2.2.2.2.2.2.2.2.2.2.2.2,a1,a2⟩
   have CX:=zH (CELL.out wr HS0.out);clear hnk hmk hlt;go_wp2_with fail
   refine m5 fun a0 ha0=>?_
   have HS:Hid (a0.tmps.size=290):=by rw[←ha0];rfl
   have HE:Hid (c_ a0 [(20,.pointer (some ⟨rb,0,none⟩)),(23,.pointer (some ⟨d,0,none⟩)),(24,.int .i64 (k:Nat))]):=by rw[←ha0];exact⟨rfl,rfl,rfl,trivial⟩
   have HT:tmB [(227,0),(228,1),(229,2),(230,3),(231,4),(232,5),(233,6),(234,7),(235,8),(236,9),(237,10),(238,11),(239,12),(240,13)] [(20,.pointer (some ⟨rb,0,none⟩)),(23,.pointer (some ⟨d,0,none⟩)),(24,.int .i64 (k:Nat))] 290=true:=by rfl
   refine wpR [(227,0),(228,1),(229,2),(230,3),(231,4),(232,5),(233,6),(234,7),(235,8),(236,9),(237,10),(238,11),(239,12),(240,13)] [(0,[]),(1,[]),(2,[]),(3,[2]),(4,[3]),(5,[4]),(6,[5]),(7,[6]),(8,[7]),(9,[]),(10,[8,9]),(11,[10]),(12,[0]),(13,[12])] (ckR [(0,.pointer (some ⟨d,0,none⟩)),(1,.int .i64 (k:Nat)),(2,.pointer (some ⟨rb,0,none⟩)),(3,.pointer (some ⟨rb,0,none⟩)),(4,.pointer (some ⟨rb,0,none⟩)),(5,.pointer (some ⟨b,0,none⟩)),(6,.pointer (some ⟨b,0,none⟩)),(7,.pointer (some ⟨b,12,none⟩)),(8,.slice (some ⟨bn,0,none⟩) 16 cn),(9,.int .i64 (k:Nat)),(10,.pointer (some ⟨bn,k,none⟩)),(11,.int .u64 (nk:Nat)),(12,.pointer (some ⟨d,0,none⟩)),(13,.pointer (some ⟨d,12,none⟩))] [] 14 0) 2 rfl ?cfall ?cfend
   case cfall=>
    clear ha0
    iterate 14
     refine bV.w HT HS.out HE.out rfl rfl rfl (fun A W HF hT hE K' hK=>?_) ?_
     ·simp only[tmEqs,ckLook,gk,Nat.reduceBEq] at hT;simp only[c_] at hE;obtain⟨q0,q1,q2,q3,q4⟩:=CX.out W ((Fr.refl (fun _ _=>True) wr).drew.trans HF.out);go_simp;exact hK.out _ _ rfl (Fr.refl _ _)
    exact bV.nil
   case cfend=>
    intro xs W hF hA;have HF:=zH hF;have hE:=b_ rfl hA;clear hA hF HS HE HT;simp only[List.map_cons,List.map_nil,ckEqs,ckLook,Nat.reduceBEq] at hE;rw[←ha0];clear ha0;simp only[fillA,fillL,sA,sB,sC,hE];clear hE;have FW:=zH ((Fr.refl (fun _ _=>True) wr).drew.trans HF.out);have am0:=HL.out.nxt FW.out k HK.out;have am1:=HL.out.free FW.out (12+k);refine wpN 14 rfl fun K' hK=>?_
    (try simp only[gA,gB,gC]);go_simp;refine hK.out _ _ ?_;clear hK K';refine wpN 15 rfl fun K' hK=>?_
    (try simp only[gA,gB,gC]);go_simp;refine hK.out _ _ ?_;clear hK K';refine wpF ?_;obtain⟨d5,fN⟩:=(HL.out.tt FW.out).setN k nk HK.out;obtain⟨W12,hW12⟩:=zE (W.setCell ⟨d,12+k,none⟩ (.int .u64 (nk:Nat)));rw[show dx nk=.int .u64 (nk:Nat) from rfl,hW12] at d5 fN
    try rw[hW12]
    have D5:=zH d5;have R5:Hid (RD W12 rd d ap):=(HR0.out.fr FW.out fun _=>trivial).fr fN fun _=>HS0.out.ne
    have f12:Fr (fun c _=>c≠d∧c≠rd) wr W12:=(FW.out.mono fun _ _ _=>trivial).trans (fN.mono fun c _ hc=>hc.1);have S5:=zH (HS0.out.go R5.out f12);have CX2:=zH (CELL.out W12 S5.out);have F12:=zH (HF0.out.trans f12);clear d5 fN am0 am1 hW12 f12 CX;go_wp2_with fail
    refine m5 fun a0 ha0=>?_
    have HS:Hid (a0.tmps.size=290):=by rw[←ha0];rfl
    have HE:Hid (c_ a0 [(20,.pointer (some ⟨rb,0,none⟩)),(23,.pointer (some ⟨d,0,none⟩)),(24,.int .i64 (k:Nat))]):=by rw[←ha0];exact⟨rfl,rfl,rfl,trivial⟩
    have HT:tmB [(242,0),(243,1),(244,2),(245,3),(246,4),(247,5),(248,6),(249,7),(250,8),(251,9),(252,10),(253,11),(254,12),(255,13)] [(20,.pointer (some ⟨rb,0,none⟩)),(23,.pointer (some ⟨d,0,none⟩)),(24,.int .i64 (k:Nat))] 290=true:=by rfl
    refine wpR [(242,0),(243,1),(244,2),(245,3),(246,4),(247,5),(248,6),(249,7),(250,8),(251,9),(252,10),(253,11),(254,12),(255,13)] [(0,[]),(1,[]),(2,[]),(3,[2]),(4,[3]),(5,[4]),(6,[5]),(7,[6]),(8,[7]),(9,[]),(10,[8,9]),(11,[10]),(12,[0]),(13,[12])] (ckR [(0,.pointer (some ⟨d,0,none⟩)),(1,.int .i64 (k:Nat)),(2,.pointer (some ⟨rb,0,none⟩)),(3,.pointer (some ⟨rb,0,none⟩)),(4,.pointer (some ⟨rb,0,none⟩)),(5,.pointer (some ⟨b,0,none⟩)),(6,.pointer (some ⟨b,0,none⟩)),(7,.pointer (some ⟨b,13,none⟩)),(8,.slice (some ⟨bm,0,none⟩) 16 cm),(9,.int .i64 (k:Nat)),(10,.pointer (some ⟨bm,k,none⟩)),(11,.int .u64 (mk:Nat)),(12,.pointer (some ⟨d,0,none⟩)),(13,.pointer (some ⟨d,28,none⟩))] [] 14 0) 2 rfl ?cfall ?cfend
    case cfall=>
     clear ha0
     iterate 14
      refine bV.w HT HS.out HE.out rfl rfl rfl (fun A W HF hT hE K' hK=>?_) ?_
      ·simp only[tmEqs,ckLook,gk,Nat.reduceBEq] at hT;simp only[c_] at hE;obtain⟨q0,q1,q2,q3,q4⟩:=CX2.out W ((Fr.refl (fun _ _=>True) W12).drew.trans HF.out);go_simp;exact hK.out _ _ rfl (Fr.refl _ _)
     exact bV.nil
    case cfend=>
     intro xs W hF hA;have HF:=zH hF;have hE:=b_ rfl hA;clear hA hF HS HE HT;simp only[List.map_cons,List.map_nil,ckEqs,ckLook,Nat.reduceBEq] at hE;rw[←ha0];clear ha0;simp only[fillA,fillL,sA,sB,sC,hE];clear hE;have FZ:=zH ((Fr.refl (fun _ _=>True) W12).drew.trans HF.out);have am0:=D5.out.mtc FZ.out k HK.out;have am1:=D5.out.free FZ.out (28+k);refine wpN 14 rfl fun K' hK=>?_
     (try simp only[gA,gB,gC]);go_simp;refine hK.out _ _ ?_;clear hK K';refine wpN 15 rfl fun K' hK=>?_
     (try simp only[gA,gB,gC]);go_simp;refine hK.out _ _ ?_;clear hK K';refine wpF ?_;obtain⟨d6,fM⟩:=(D5.out.tt FZ.out).setM k mk HK.out;obtain⟨W13,hW13⟩:=zE (W.setCell ⟨d,28+k,none⟩ (.int .u64 (mk:Nat)));rw[show dx mk=.int .u64 (mk:Nat) from rfl,hW13] at d6 fM
     try rw[hW13]
     have D6:=zH d6;have R6:Hid (RD W13 rd d ap):=(R5.out.fr FZ.out fun _=>trivial).fr fM fun _=>HS0.out.ne
     have f13:Fr (fun c _=>c≠d∧c≠rd) W12 W13:=(FZ.out.mono fun _ _ _=>trivial).trans (fM.mono fun c _ hc=>hc.1);have S6:=zH (S5.out.go R6.out f13);have F13:=zH (F12.out.trans f13);clear d6 fM am0 am1 hW13 f13 CX2;go_wp2;go_roundw
     case rel=>refine⟨k+1,by go_num,by omega,S6.out,?_,R6.out,F13.out⟩;have e1:=up_set HNL.out.1 HK.out;have e2:=up_set HNL.out.2 HK.out;rw[KN.out.1] at e1;rw[KN.out.2] at e2;have h:=D6.out;dsimp only at h;rw[e1,e2] at h;exact h
     case measure=>simp [intOf];omega
  ·obtain rfl:k=16:=by omega
   have hge:¬((16:Nat):Int)<16:=by omega
   have hd:=HL.out;rw[up_all HNL.out.1,up_all HNL.out.2,HE2.out] at hd;have HD2:=zH hd;clear hd;go_wp2_with fail
   have s:=HS0.out;exact H1.out _ _ (d7 (fun fu=>rs_end m g9 ec s.hp s.rb' s.nb HD2.out HR0.out s.dp s.dr s.ne s.bd s.hm s.t9 s.h9 HG.out.hel HG.out.hdl s.od HG.out.hpos HG.out.hg HG.out.hc16 HG.out.hes HG.out.hye (fun W f=>FIN.out W (H.out.fin HF0.out (f.mono fun c _ k=>k.1))) fu) (by kernel_rfl))
theorem DNs.frK2 [Old] {X:Nat→Prop} {w w':World} {b:Nat} {n:Nd} {q:DV} (h:DNs X w b n q) {K:Nat→Obj→Prop} (hf:Fr K w w') (hk:∀c o,w.heap[c]? = some o→c=b∨RO X c o→K c o):DNs X w' b n q:=by
 have ints:∀{v l},IntsAt (RO X) w v l→IntsAt (RO X) w' v l:=fun {v l} hv=>(((hv.mono3 (K':=fun c o=>RO X c o∧K c o) fun c o ho hr=>⟨hr,hk c o ho (.inr hr)⟩).fr hf fun c o q=>q.2).mono fun c o q=>q.1)
 exact⟨hf.keep _ _ h.top (hk _ _ h.top (.inl rfl)),ints h.cf,ints h.ye,h.ev.fr hf fun c o ho hr=>hk c o ho (.inr hr),h.ee,h.nl,h.ml,h.xb,fun c hc=>Nat.lt_of_lt_of_le (h.hx c hc) hf.size,h.od⟩
def n5 (n:Nd):Nd:={ Nd.new n.me n.conf with vote:=n.vote,role:=n.role,ld:=n.ld,yes:=n.yes,tm:=n.tm,commit:=n.commit }
theorem rs_s16 [Old] {R:Ending→World→Prop} {X P:Nat→Prop} {w:World} {rb rd b d ap:Nat} {n:Nd} {q:NV} {q2:DV} (m:MV) (g9:Nat) (ec:Int) (h:RSt X P w rb rd b d ap n q m g9) (hd:DNs X w d (n5 n) q2) (hrd:RD w rd d 0) (hg:GQ n m) (fin:∀W,Fr (fun c _=>¬X c∧c≠rd) w W→R (.returned (.bool true)) W) (fu:Nat→Value):
 Code.wp Tryz.prog (gX 16 (cW Tryz.f6.body)) (bodyPost Tryz.prog Tryz.f6 R) { tmps:=tU 290 fu [(9,.pointer (some ⟨g9,0,none⟩)),(13,.bool true),(15,.int .i64 ec),(17,.int .i64 ec),(20,.pointer (some ⟨rb,0,none⟩)),(21,.pointer (some ⟨rd,0,none⟩)),(23,.pointer (some ⟨d,0,none⟩))],defers:=[] } w:=by
 obtain⟨bs,hbs⟩:=zE n.log.base;obtain⟨bt,hbt⟩:=zE n.log.bt;obtain⟨ae,ce,hve⟩:=h.hp.elen;obtain⟨el,hel⟩:=zE n.log.es.length;rw[hel] at hve;have H:=zH h;have HD:=zH hd;have HRD:=zH hrd;have HG:=zH hg;have FIN:=zH fin;have QS:=zH (And.intro hbs (And.intro hbt hve));have hbd:∀W:World,(Instr.build 100 #[(0,.int .u64 (bs:Nat)),(1,.int .u64 (bt:Nat)),(2,.slice ae el ce)]).run Tryz.prog W=.ok (.agg #[.int .u64 (bs:Nat),.int .u64 (bt:Nat),.slice ae el ce]) W:=fun W=>run_build W _ _ _ (by kernel_rfl)
 have CX:Hid (∀W,Fr (fun _ _=>True) w W→W.cell? ⟨rb,0,none⟩=some (.pointer (some ⟨b,0,none⟩))∧W.cell? ⟨b,8,none⟩=some (.int .u64 (bs:Nat))∧W.cell? ⟨b,9,none⟩=some (.int .u64 (bt:Nat))∧W.cell? ⟨b,10,none⟩=some (.slice ae el ce)):=fun W f=>by have c:=h.hp.cells f;have c0:=bQ (i:=0) (f.keep _ _ h.rb' trivial) rfl;rw[hbs,hbt,hve] at c;exact⟨c0,c.2.2.2.2.2.2.2.2.1,c.2.2.2.2.2.2.2.2.2.1,c.2.2.2.2.2.2.2.2.2.2.1⟩
 clear h hd hrd hg fin hbs hbt hve hel;simp only[tU,tL,Nat.reduceAdd,Nat.reduceBEq,cond_true,cond_false];dsimp only[gX,cW,Tryz.f6];go_wp2_with fail
 refine m5 fun a0 ha0=>?_
 have HS:Hid (a0.tmps.size=290):=by rw[←ha0];rfl
 have HE:Hid (c_ a0 [(20,.pointer (some ⟨rb,0,none⟩)),(23,.pointer (some ⟨d,0,none⟩))]):=by rw[←ha0];exact⟨rfl,rfl,trivial⟩
 have HT:tmB [(158,0),(159,1),(160,2),(161,3),(162,4),(163,5),(164,6),(165,7),(166,8),(167,9),(168,10),(169,11),(170,12),(171,13),(172,14),(173,15),(174,16),(175,17),(176,18),(177,19),(178,20),(179,21),(180,22),(181,23),(182,24),(183,25)] [(20,.pointer (some ⟨rb,0,none⟩)),(23,.pointer (some ⟨d,0,none⟩))] 290=true:=by rfl
 refine dY (K:=fun _ _=>True) (by kernel_rfl) [(158,0),(159,1),(160,2),(161,3),(162,4),(163,5),(164,6),(165,7),(166,8),(167,9),(168,10),(169,11),(170,12),(171,13),(172,14),(173,15),(174,16),(175,17),(176,18),(177,19),(178,20),(179,21),(180,22),(181,23),(182,24),(183,25)] [(0,[]),(1,[]),(2,[1]),(3,[2]),(4,[3]),(5,[4]),(6,[5]),(7,[6]),(8,[7]),(9,[]),(10,[9]),(11,[10]),(12,[11]),(13,[12]),(14,[13]),(15,[14]),(16,[15]),(17,[]),(18,[17]),(19,[18]),(20,[19]),(21,[20]),(22,[21]),(23,[22]),(24,[23]),(25,[8,16,24])] (ckR [(0,.pointer (some ⟨d,0,none⟩)),(1,.pointer (some ⟨rb,0,none⟩)),(2,.pointer (some ⟨rb,0,none⟩)),(3,.pointer (some ⟨rb,0,none⟩)),(4,.pointer (some ⟨b,0,none⟩)),(5,.pointer (some ⟨b,0,none⟩)),(6,.pointer (some ⟨b,8,none⟩)),(7,.pointer (some ⟨b,8,none⟩)),(8,.int .u64 (bs:Nat)),(9,.pointer (some ⟨rb,0,none⟩)),(10,.pointer (some ⟨rb,0,none⟩)),(11,.pointer (some ⟨rb,0,none⟩)),(12,.pointer (some ⟨b,0,none⟩)),(13,.pointer (some ⟨b,0,none⟩)),(14,.pointer (some ⟨b,8,none⟩)),(15,.pointer (some ⟨b,9,none⟩)),(16,.int .u64 (bt:Nat)),(17,.pointer (some ⟨rb,0,none⟩)),(18,.pointer (some ⟨rb,0,none⟩)),(19,.pointer (some ⟨rb,0,none⟩)),(20,.pointer (some ⟨b,0,none⟩)),(21,.pointer (some ⟨b,0,none⟩)),(22,.pointer (some ⟨b,8,none⟩)),(23,.pointer (some ⟨b,10,none⟩)),(24,.slice ae el ce),(25,.agg #[.int .u64 (bs:Nat),.int .u64 (bt:Nat),.slice ae el ce])] [] 26 0) 3 (by kernel_rfl) (by kernel_rfl) (wz (by kernel_rfl)) rfl ?cfall ?cfend
 case cfall=>
  clear ha0
  iterate 26
   refine bV.w HT HS.out HE.out rfl rfl rfl (fun A W HF hT hE K' hK=>?_) ?_
   ·simp only[tmEqs,ckLook,gk,Nat.reduceBEq] at hT;simp only[c_] at hE;obtain⟨q0,q1,q2,q3⟩:=CX.out W ((Fr.refl (fun _ _=>True) w).drew.trans HF.out);go_simp;exact hK.out _ _ rfl (Fr.refl _ _)
  exact bV.nil
 case cfend=>
  intro xs W hF hA;have HF:=zH hF;have hE:=b_ rfl hA;clear hA hF HS HE HT;simp only[List.map_cons,List.map_nil,ckEqs,ckLook,Nat.reduceBEq] at hE;rw[←ha0];clear ha0;simp only[fillA,fillL,sA,sB,sC,hE];clear hE;have FW:=zH ((Fr.refl (fun _ _=>True) w).drew.trans HF.out);obtain⟨am0,am1,am2,am3,am4,am5,am6,am7,am8,am9,am10,am11⟩:=HD.out.cells FW.out;have z8:=HD.out.free FW.out 8;have z9:=HD.out.free FW.out 9;have z10:=HD.out.free FW.out 10;refine wpN 26 rfl fun K' hK=>?_
  (try simp only[gA,gB,gC]);go_simp;refine hK.out _ _ ?_;clear hK K';refine wpN 27 rfl fun K' hK=>?_
  (try simp only[gA,gB,gC]);go_simp;refine hK.out _ _ ?_;clear hK K';refine wpN 28 rfl fun K' hK=>?_
  (try simp only[gA,gB,gC]);go_simp;refine hK.out _ _ ?_;clear hK K';refine wpF ?_;clear am0 am1 am2 am3 am4 am5 am6 am7 am8 am9 am10 am11 z8 z9 z10 CX hbd;obtain⟨W7,hW7⟩:=zE (((W.setCell ⟨d,8,none⟩ (.int .u64 (bs:Nat))).setCell ⟨d,9,none⟩ (.int .u64 (bt:Nat))).setCell ⟨d,10,none⟩ (.slice ae el ce));have hW7s:j4 W d [(8,.int .u64 (bs:Nat)),(9,.int .u64 (bt:Nat)),(10,.slice ae el ce)]=W7:=hW7;have g7:Fr (fun c _=>c≠d) W W7:=hW7s▸bj d _ W;have D6:=HD.out.tt FW.out;have R6:RD W rd d 0:=HRD.out.fr FW.out fun _=>trivial
  have S6:=H.out.go R6 (FW.out.mono fun _ _ _=>trivial)
  have T7:W7.heap[d]? = some (.cells (W44 { n5 n with log:=n.log } ⟨q2.vc,q2.vy,.slice ae el ce,q.es⟩) 103 (0,0)):=by have h:=bz [(8,.int .u64 (bs:Nat)),(9,.int .u64 (bt:Nat)),(10,.slice ae el ce)] D6.top;rw[hW7s] at h;simp only[List.foldl_cons,List.foldl_nil,W44,sA,sB,sC] at h;rw[←QS.out.1,←QS.out.2.1] at h;exact h
  have D7:DNs X W7 d { n5 n with log:=n.log } ⟨q2.vc,q2.vy,.slice ae el ce,q.es⟩:=D6.re g7 T7 ⟨rfl,rfl⟩ (D6.ye.aft (D6.own g7)) ⟨S6.hp.ee,by have h:=S6.hp.ev.aft (D6.own g7);rw[QS.out.2.2] at h;exact h⟩ ⟨D6.nl,D6.ml⟩;have R7:RD W7 rd d 0:=R6.fr g7 fun _=>S6.ne
  have f7:Fr (fun c _=>c≠d∧c≠rd) w W7:=(FW.out.mono fun _ _ _=>trivial).trans (g7.mono fun c _ k=>k.1);have S7:=zH (H.out.go R7 f7);have DD7:=zH D7;have RR7:=zH R7;have F7:=zH f7;rw[hW7];clear hW7 hW7s g7 D6 R6 S6 T7 D7 R7 f7 FW HF;obtain⟨hh,hhh⟩:=zE n.heard;obtain⟨bn,hbn⟩:=zE q.bn;obtain⟨bm,hbm⟩:=zE q.bm;obtain⟨cn,hcn⟩:=zE q.cn;obtain⟨cm,hcm⟩:=zE q.cm;have c:=S7.out.hp.cells (Fr.refl _ W7);rw[hhh,hbn,hbm,hcn,hcm] at c;have y0:W7.cell? ⟨rb,0,none⟩=some (.pointer (some ⟨b,0,none⟩)):=bQ S7.out.rb' rfl;have y1:W7.cell? ⟨rb,1,none⟩=some (.int .u64 (ap:Nat)):=bQ S7.out.rb' rfl;have y11:=c.2.2.2.2.2.2.2.2.2.2.2.1;have y12:=c.2.2.2.2.2.2.2.2.2.2.2.2.1;have y13:=c.2.2.2.2.2.2.2.2.2.2.2.2.2;have x11:=(DD7.out.cells (Fr.refl _ W7)).2.2.2.2.2.2.2.2.2.2.2;have z11:=DD7.out.free (Fr.refl _ W7) 11;have x1:W7.cell? ⟨rd,1,none⟩=some (.int .u64 0):=bQ RR7.out rfl;have zr:W7.frozen? ⟨rd,1,none⟩=false:=bJ RR7.out;have n1:¬rb=d:=H.out.bd;have n2:¬b=d:=fun e=>H.out.dp (e▸H.out.hp.pb)
  have n3:¬rd=d:=H.out.ne;have n4:¬rb=rd:=H.out.br;have n5':¬b=rd:=fun e=>H.out.dr (e▸H.out.hp.pb)
  have n6:¬d=rd:=fun e=>n3 e.symm
  have n7:¬d=rb:=fun e=>n1 e.symm
  have n8:¬d=b:=fun e=>n2 e.symm
  have n9:¬rd=rb:=fun e=>n4 e.symm
  have n10:¬rd=b:=fun e=>n5' e.symm
  have HH:=zH hhh;have HBB:=zH (And.intro hbn (And.intro hbm (And.intro hcn hcm)));clear c hbn hbm hcn hcm hhh;obtain⟨W8,hW8⟩:=zE (W7.setCell ⟨d,11,none⟩ (.bool hh));obtain⟨W9,hW9⟩:=zE (W8.setCell ⟨rd,1,none⟩ (.int .u64 (ap:Nat)));have g8:Fr (fun c _=>c≠d) W7 W8:=hW8▸(Fr.refl _ _).setCell (fun _ _ h=>h rfl) _;have g9:Fr (fun c _=>c≠rd) W8 W9:=hW9▸(Fr.refl _ _).setCell (fun _ _ h=>h rfl) _
  have T8:W8.heap[d]? = some (.cells (W44 { n5 n with log:=n.log,heard:=n.heard } ⟨q2.vc,q2.vy,.slice ae el ce,q.es⟩) 103 (0,0)):=by have h:=bK (o:=11) DD7.out.top (.bool hh);rw[hW8] at h;simp only[W44,sA,sB,sC] at h;rw[←HH.out] at h;exact h
  have D8:DNs X W8 d { n5 n with log:=n.log,heard:=n.heard } ⟨q2.vc,q2.vy,.slice ae el ce,q.es⟩:=DD7.out.re g8 T8 ⟨rfl,rfl⟩ (DD7.out.ye.aft (DD7.out.own g8)) ⟨DD7.out.ee,DD7.out.ev.aft (DD7.out.own g8)⟩ ⟨DD7.out.nl,DD7.out.ml⟩;have R8:RD W8 rd d 0:=RR7.out.fr g8 fun _=>n3
  have S8:=S7.out.go R8 (g8.mono fun c _ k=>k.1);have R9:RD W9 rd d ap:=by rw[←hW9];exact bK (o:=1) R8 _
  have S9:=zH (S8.go R9 (g9.mono fun c _ k=>k.2));have D9:=zH (D8.frK2 g9 fun c o ho hc=>hc.elim (fun e=>e▸n6) fun hr=>(S8.ro c o ho hr).2);have RR9:=zH R9;have F9:Hid (Fr (fun c _=>c≠d∧c≠rd) w W9):=(F7.out.trans (g8.mono fun c _ k=>k.1)).trans (g9.mono fun c _ k=>k.2);have v0:W8.cell? ⟨rb,0,none⟩=some (.pointer (some ⟨b,0,none⟩)):=bQ S8.rb' rfl;have v1:W8.cell? ⟨rb,1,none⟩=some (.int .u64 (ap:Nat)):=bQ S8.rb' rfl;have v2:W8.cell? ⟨rd,1,none⟩=some (.int .u64 0):=bQ R8 rfl;have v3:W8.frozen? ⟨rd,1,none⟩=false:=bJ R8;have v4:W9.cell? ⟨rb,0,none⟩=some (.pointer (some ⟨b,0,none⟩)):=bQ S9.out.rb' rfl;have c9:=S9.out.hp.cells (Fr.refl _ W9);rw[HBB.out.1,HBB.out.2.1,HBB.out.2.2.1,HBB.out.2.2.2] at c9;have v12:=c9.2.2.2.2.2.2.2.2.2.2.2.2.1;have v13:=c9.2.2.2.2.2.2.2.2.2.2.2.2.2;clear g8 g9 T8 D8 R8 S8 R9 c9 n1 n2 n3 n4 n5' n6 n7 n8 n9 n10 y12 y13 y1 x1 zr;go_upto_region 23 with fail
  rename_i K1 h1 K2 h2;have H1:=zH h1;clear h1;(try rw[hW8]);(try rw[hW9]);go_wp2_with fail
  (try rw[hW8]);(try rw[hW9]);exact H1.out _ _ (d7 (fun fu=>rs_s20 m _ ec S9.out { n5 n with log:=n.log,heard:=n.heard } ⟨rfl,rfl⟩ D9.out RR9.out rfl HG.out (fun W f=>FIN.out W (H.out.fin F9.out f)) fu) (by kernel_rfl))
section
variable {X P:Nat→Prop} {w W:World} {rb rd b d ap:Nat} {n:Nd} {q:NV} {m:MV} {g9:Nat}
theorem l6 [Old] {nd:Nd} {q2:DV} {a1:Nat} (H:Hid (RSt X P w rb rd b d ap n q m g9)) (D:Hid (DNs X w d nd q2)) (R:Hid (RD w rd d a1)) (i:Nat) (v:Value) (nd':Nd) (q2':DV) (hW:w.setCell ⟨d,i,none⟩ v=W) (hT:(W44 nd q2).setIfInBounds i v=W44 nd' q2')
 (hc:nd'.conf=nd.conf∧q2'.vc=q2.vc) (hy:IntsAt (RO X) w q2'.vy nd'.yes) (he:nd'.log.es=nd.log.es∧q2'.ve=q2.ve∧q2'.es=q2.es) (ha:nd'.next=nd.next∧nd'.mat=nd.mat):
 Hid (RSt X P W rb rd b d ap n q m g9)∧Hid (DNs X W d nd' q2')∧Hid (RD W rd d a1)∧Hid (Fr (fun c _=>c≠d∧c≠rd) w W):=by
 have g:Fr (fun c _=>c≠d) w W:=hW▸(Fr.refl _ _).setCell (fun _ _ h=>h rfl) _
 have t:W.heap[d]? = some (.cells (W44 nd' q2') 103 (0,0)):=by have h:=bK (o:=i) D.out.top v;rw[hW,hT] at h;exact h
 have r:RD W rd d a1:=R.out.fr g fun _=>H.out.ne
 refine⟨H.out.go r (g.mono fun c _ k=>k.1),D.out.re g t hc (hy.aft (D.out.own g)) ⟨?_,?_⟩ ⟨by rw[ha.1];exact D.out.nl,by rw[ha.2];exact D.out.ml⟩,r,g.mono fun c _ k=>k.1⟩
 ·rw[he.1,he.2.2];exact D.out.ee
 ·rw[he.2.1,he.2.2];exact D.out.ev.aft (D.out.own g)
theorem RSt.seen [Old] (h:RSt X P w rb rd b d ap n q m g9) (f:Fr (fun _ _=>True) w W):W.cell? ⟨rb,0,none⟩=some (.pointer (some ⟨b,0,none⟩))∧W.cell? ⟨b,1,none⟩=some (.int .i64 n.vote)∧W.cell? ⟨b,2,none⟩=some (.int .i64 n.role)∧W.cell? ⟨b,3,none⟩=some (.int .i64 n.ld)∧W.cell? ⟨b,5,none⟩=some q.vy∧W.cell? ⟨b,6,none⟩=some (.int .u64 (n.tm:Nat))∧W.cell? ⟨b,7,none⟩=some (.int .u64 (n.commit:Nat)):=by
 have c:=h.hp.cells f;exact⟨bQ (i:=0) (f.keep _ _ h.rb' trivial) rfl,c.2.1,c.2.2.1,c.2.2.2.1,c.2.2.2.2.2.1,c.2.2.2.2.2.2.1,c.2.2.2.2.2.2.2.1⟩
end
theorem rs_s10 [Old] {R:Ending→World→Prop} {X P:Nat→Prop} {w:World} {rb rd b d ap:Nat} {n:Nd} {q:NV} {q2:DV} (m:MV) (g9:Nat) (ec:Int) (h:RSt X P w rb rd b d ap n q m g9) (hd:DNs X w d (Nd.new n.me n.conf) q2) (hrd:RD w rd d 0) (hg:GQ n m) (fin:∀W,Fr (fun c _=>¬X c∧c≠rd) w W→R (.returned (.bool true)) W) (fu:Nat→Value):
 Code.wp Tryz.prog (gX 10 (cW Tryz.f6.body)) (bodyPost Tryz.prog Tryz.f6 R) { tmps:=tU 290 fu [(9,.pointer (some ⟨g9,0,none⟩)),(13,.bool true),(15,.int .i64 ec),(17,.int .i64 ec),(20,.pointer (some ⟨rb,0,none⟩)),(21,.pointer (some ⟨rd,0,none⟩)),(23,.pointer (some ⟨d,0,none⟩))],defers:=[] } w:=by
 have HG:=zH hg;have FIN:=zH fin;obtain⟨W0,hW0⟩:∃x,x=w:=⟨_,rfl⟩
 have S0:Hid (RSt X P W0 rb rd b d ap n q m g9):=hW0▸h;have D0:Hid (DNs X W0 d (Nd.new n.me n.conf) q2):=hW0▸hd;have R0:Hid (RD W0 rd d 0):=hW0▸hrd;obtain⟨yg,yc,hvy⟩:=h.hp.ye.form;obtain⟨yl,hyl⟩:=zE n.yes.length;rw[hyl] at hvy;have HYN:=zH hyl;have HVY:=zH hvy;have XLT:Hid (∀W,Fr (fun _ _=>True) W0 W→∀c,X c→c<W.heap.size):=fun W f c hc=>Nat.lt_of_lt_of_le (D0.out.hx c hc) f.size
 subst hW0;clear h hd hrd hg fin hyl hvy;obtain⟨W1,hW1⟩:=zE (W0.setCell ⟨d,1,none⟩ (.int .i64 n.vote));obtain⟨S1,D1,R1,f1⟩:=l6 S0 D0 R0 1 (.int .i64 n.vote) { Nd.new n.me n.conf with vote:=n.vote } q2 hW1 (by simp only[W44,sA,sB,sC]) ⟨rfl,rfl⟩ ((show IntsAt (RO X) _ q2.vy [] from D0.out.ye)) ⟨rfl,rfl,rfl⟩ ⟨rfl,rfl⟩;obtain⟨W2,hW2⟩:=zE (W1.setCell ⟨d,2,none⟩ (.int .i64 n.role));obtain⟨S2,D2,R2,f2⟩:=l6 S1 D1 R1 2 (.int .i64 n.role) { Nd.new n.me n.conf with vote:=n.vote,role:=n.role } q2 hW2 (by simp only[W44,sA,sB,sC]) ⟨rfl,rfl⟩ ((show IntsAt (RO X) _ q2.vy [] from D1.out.ye)) ⟨rfl,rfl,rfl⟩ ⟨rfl,rfl⟩;obtain⟨W3,hW3⟩:=zE (W2.setCell ⟨d,3,none⟩ (.int .i64 n.ld));obtain⟨S3,D3,R3,f3⟩:=l6 S2 D2 R2 3 (.int .i64 n.ld) { Nd.new n.me n.conf with vote:=n.vote,role:=n.role,ld:=n.ld } q2 hW3 (by simp only[W44,sA,sB,sC]) ⟨rfl,rfl⟩ ((show IntsAt (RO X) _ q2.vy [] from D2.out.ye)) ⟨rfl,rfl,rfl⟩ ⟨rfl,rfl⟩;have c0:=RSt.seen S0.out (Fr.refl _ _);have c0a:=c0.1;have c0b:=c0.2.1;have c0d:=(D0.out.cells (Fr.refl _ _)).2.1;have c0z:=D0.out.free (Fr.refl _ _) 1;clear c0;have c1:=RSt.seen S1.out (Fr.refl _ _);have c1a:=c1.1;have c1b:=c1.2.2.1;have c1d:=(D1.out.cells (Fr.refl _ _)).2.2.1;have c1z:=D1.out.free (Fr.refl _ _) 2;clear c1;have c2:=RSt.seen S2.out (Fr.refl _ _);have c2a:=c2.1;have c2b:=c2.2.2.2.1;have c2d:=(D2.out.cells (Fr.refl _ _)).2.2.2.1;have c2z:=D2.out.free (Fr.refl _ _) 3;clear c2;obtain⟨W4,hW4⟩:=zE (W3.alloc (.cells #[] 3));have F4:Hid (Fr (fun _ _=>True) W3 W4):=hW4▸(Fr.refl _ _).alloc _;have OW4:Hid (W4.ownsRow W3.heap.size 3 1 (.slice (some ⟨W3.heap.size,0,none⟩) 0 0) 0 []):=hW4▸World.ownsRow_lit W3 #[] 0 (Nat.le_refl _) (by simp) rfl
 have RY:Hid (RowsAt (fun _ _=>True) W4 (.slice yg yl yc) 1 encI n.yes):=by
  have o:W4.ownsRow 0 3 1 (.slice yg yl yc) n.yes.length (n.yes.flatMap encI):=by rw[gQ];have h9:RowI W4 0 q.vy n.yes:=S3.out.hp.ye.tt F4.out;rw[HVY.out] at h9;exact h9
  exact RowsAt.of_own Fz o fun _ _ _=>trivial
 have EY:Hid ([]++n.yes=n.yes):=rfl;have HY6:n.yes.length≤1000000:=by have:=HG.out.hye;omega
 have HY7:yl≤1000000:=by rw[←HYN.out];exact HY6
 have c4:=RSt.seen S3.out F4.out;have c4a:=c4.1;have c4b:=c4.2.2.2.2.1;rw[HVY.out] at c4b;clear c4 HY6;have H4:=zH hW4;simp only[tU,tL,Nat.reduceAdd,Nat.reduceBEq,cond_true,cond_false];dsimp only[gX,cW,Tryz.f6];go_wp2_with (at_builtin;(try rw[hW4]);refine fZ W3 W4 F4 rfl _ _ rfl (.slice (some ⟨W3.heap.size,0,none⟩) 0 0) [] rfl OW4 (.slice yg yl yc) n.yes rfl RY _ EY yl HYN HY7 ?_)
 intro ga gc W5 O5 F5 G5 N5;have S5:Hid (RSt X P W5 rb rd b d ap n q m g9):=S3.out.go (R3.out.fr F5.out fun _=>trivial) (F5.out.mono fun _ _ _=>trivial);have D5:=zH (D3.out.tt F5.out);have R5:Hid (RD W5 rd d 0):=R3.out.fr F5.out fun _=>trivial
 have Y5:IntsAt (RO X) W5 (.slice ga yl gc) n.yes:=by
  have o:RowI W5 W3.heap.size (.slice ga yl gc) n.yes:=by have o5:=O5.out;rw[gQ,←HYN.out] at o5;rw[←HYN.out];exact o5
  refine o.intsK.mono3 fun c o ho hc=>⟨fun hx=>?_,.inr ?_⟩
  ·have:=D3.out.hx c hx;have:=hc.1;omega
  ·obtain⟨hB,cs,e⟩:=hc;exact⟨cs,_,_,e,by decide⟩
 clear c0a c0b c0d c0z c1a c1b c1d c1z c2a c2b c2d c2z c4a c4b RY OW4 hW4 O5 G5 N5;obtain⟨W6,hW6⟩:=zE (W5.setCell ⟨d,5,none⟩ (.slice ga yl gc));obtain⟨S6,D6,R6,f6⟩:=l6 S5 D5 R5 5 (.slice ga yl gc) { Nd.new n.me n.conf with vote:=n.vote,role:=n.role,ld:=n.ld,yes:=n.yes } ⟨q2.vc,.slice ga yl gc,q2.ve,q2.es⟩ hW6 (by simp only[W44,sA,sB,sC]) ⟨rfl,rfl⟩ (Y5) ⟨rfl,rfl,rfl⟩ ⟨rfl,rfl⟩;obtain⟨W7,hW7⟩:=zE (W6.setCell ⟨d,6,none⟩ (.int .u64 (n.tm:Nat)));obtain⟨S7,D7,R7,f7⟩:=l6 S6 D6 R6 6 (.int .u64 (n.tm:Nat)) { Nd.new n.me n.conf with vote:=n.vote,role:=n.role,ld:=n.ld,yes:=n.yes,tm:=n.tm } ⟨q2.vc,.slice ga yl gc,q2.ve,q2.es⟩ hW7 (by simp only[W44,sA,sB,sC]) ⟨rfl,rfl⟩ (D6.out.ye) ⟨rfl,rfl,rfl⟩ ⟨rfl,rfl⟩;obtain⟨W8,hW8⟩:=zE (W7.setCell ⟨d,7,none⟩ (.int .u64 (n.commit:Nat)));obtain⟨S8,D8,R8,f8⟩:=l6 S7 D7 R7 7 (.int .u64 (n.commit:Nat)) { Nd.new n.me n.conf with vote:=n.vote,role:=n.role,ld:=n.ld,yes:=n.yes,tm:=n.tm,commit:=n.commit } ⟨q2.vc,.slice ga yl gc,q2.ve,q2.es⟩ hW8 (by simp only[W44,sA,sB,sC]) ⟨rfl,rfl⟩ (D7.out.ye) ⟨rfl,rfl,rfl⟩ ⟨rfl,rfl⟩;have c5d:=(D5.out.cells (Fr.refl _ _)).2.2.2.2.2.1;have c5z:=D5.out.free (Fr.refl _ _) 5;have c6:=RSt.seen S6.out (Fr.refl _ _);have c6a:=c6.1;have c6b:=c6.2.2.2.2.2.1;have c6d:=(D6.out.cells (Fr.refl _ _)).2.2.2.2.2.2.1;have c6z:=D6.out.free (Fr.refl _ _) 6;clear c6;have c7:=RSt.seen S7.out (Fr.refl _ _);have c7a:=c7.1;have c7b:=c7.2.2.2.2.2.2;have c7d:=(D7.out.cells (Fr.refl _ _)).2.2.2.2.2.2.2.1;have c7z:=D7.out.free (Fr.refl _ _) 7;clear c7;have FF:Hid (Fr (fun c _=>c≠d∧c≠rd) W0 W8):=((((f1.out.trans f2.out).trans f3.out).trans (F5.out.mono fun _ _ _=>trivial)).trans (f6.out.trans f7.out)).trans f8.out;have BACK:=zH (fun W (f:Fr (fun c _=>¬X c∧c≠rd) W8 W)=>S0.out.fin FF.out f);clear S0 D0 R0 S1 D1 R1 f1 S2 D2 R2 f2 S3 D3 R3 f3 S5 R5 f6 S6 D6 R6 S7 D7 R7 f7 f8 F4 F5 FF Y5 EY;go_upto_region 19 with fail
 rename_i K1 h1;have H1:=zH h1;clear h1;go_wp2_with fail
 (try rw[hW6]);(try rw[hW7]);(try rw[hW8]);exact H1.out _ _ (d7 (fun fu=>rs_s16 m g9 ec S8.out D8.out R8.out HG.out (fun W f=>FIN.out W (BACK.out W f)) fu) (by kernel_rfl))
abbrev nOld:Old:=⟨fun _=>False⟩
instance nOldNo:@cK nOld:=@cK.mk nOld fun _ h=>h
theorem PNs.old {o:Nat→Prop} {X P:Nat→Prop} {w:World} {b:Nat} {n:Nd} {q:NV} (h:@PNs nOld X P w b n q) (hb:∀c,o c→c<b):@PNs ⟨o⟩ X P w b n q:=by
 have ro:∀c u,@RO nOld X c u→@RO ⟨o⟩ X c u:=fun c u h=>⟨h.1,.inr (h.2.elim (fun e=>e.elim) id)⟩
 obtain⟨top,cf,ye,yp,ev,ee,nx,mt,nm,pb,pn,pm,px,hx,_⟩:=h;obtain⟨row,nz,dat⟩:=ev;exact @PNs.mk ⟨o⟩ X P w b n q top (cf.mono ro) ye yp (@EsAt.mk ⟨o⟩ _ _ _ _ (row.mono fun c u _ k=>ro c u k) nz (fun x hx=>⟨(dat x hx).1.mono fun c u _ k=>ro c u k,(dat x hx).2⟩)) ee nx mt nm pb pn pm px hx hb
def Ids (many:Nat) (s:Gs):Prop:=s.ns.length=many∧∀i,i<many→(s.ns.getD i default).me=((i:Nat):Int)∧(s.ns.getD i default).conf=cfN many
namespace Ids
variable {many:Nat} {s:Gs}
theorem node (h:Ids many s) {i:Nat} {n':Nd} (hm:n'.me=(s.ns.getD i default).me) (hc:n'.conf=(s.ns.getD i default).conf):Ids many { s with ns:=s.ns.set i n' }:=by
 refine⟨by show (s.ns.set i n').length=_;rw[List.length_set];exact h.1,fun j hj=>?_⟩;show ((s.ns.set i n').getD j default).me=_∧((s.ns.set i n').getD j default).conf=_;by_cases e:i=j
 ·subst e;rw[List.getD_eq_getElem?_getD,List.getElem?_set_self (by rw[h.1];exact hj),Option.getD_some,hm,hc];exact h.2 i hj
 ·rw[List.getD_eq_getElem?_getD,List.getElem?_set_ne e,←List.getD_eq_getElem?_getD];exact h.2 j hj
theorem send (h:Ids many s) (l:List Ms):Ids many (s.send l):=by
 unfold Gs.send;split
 ·exact h
 ·exact h
end Ids
theorem Nd.step_me (n:Nd) (m:Ms):(n.step m).1.1.me=n.me:=by
 unfold Nd.step;split
 ·rfl
 ·show (n.led (n.hear m)).1.me=_;rw[Nd.led_y];exact(Nd.hear_up _ _).me
theorem Nd.timeout_me (n:Nd):n.timeout.1.me=n.me:=by
 unfold Nd.timeout;split
 ·rfl
 ·split
  ·rfl
  ·rw[Nd.led_y];exact(Nd.askF_up _).me
namespace Ids
variable {many:Nat} {s:Gs}
theorem arrive (h:Ids many s) (k:Nat):Ids many (s.arrive k):=by
 unfold Gs.arrive;dsimp only;split
 ·exact h
 ·exact(h.node (Nd.step_me _ _) (Nd.step_conf _ _)).send _
theorem play (h:Ids many s) (d k:Int):Ids many (s.play d k):=by
 unfold Gs.play;split
 ·exact h
 ·dsimp only;split
  ·exact(h.node (Nd.timeout_me _) (Nd.timeout_conf _)).send _
  ·split
   ·exact h.arrive _
   ·split
    ·exact h.send _
    ·split
     ·exact Ids.node (s:={ s with many:=s.many+1 }) h (Nd.propose_up _ _ _).me (Nd.propose_up _ _ _).conf
     ·split
      ·exact h
      ·exact h
end Ids
theorem rs_s7 {R:Ending→World→Prop} {W0 w:World} {B G Bd:Nat} {s:Gs} (many who:Nat) (m:MV) (g9:Nat) (ec:Int) (h:@Gr13 nOld B w G s) (hj:GJ Bd s) (hbd:Bd≤80000) (hid:Ids many s) (hB:W0.heap.size≤B) (h1:1≤many) (h5:many≤5) (hw:who<many) (hm:@MsAt (zk W0) (fun _=>False) W0 m) (hF:Fr (fun _ _=>True) W0 w)
 (t9:w.heap[g9]? = some (.cells (cM m) 32 (0,0))) (h9:g9<B) (hel:m.es.length≤9223372036854775807) (hdl:m.d.length≤9223372036854775807) (fin:∀W,Fr (fun c _=>c<B) w W→R (.returned (.bool true)) W) (fu:Nat→Value):
 Code.wp Tryz.prog (gX 7 (cW Tryz.f6.body)) (bodyPost Tryz.prog Tryz.f6 R) { tmps:=tU 290 fu [(0,.int .i64 (many:Nat)),(2,.int .i64 (who:Nat)),(9,.pointer (some ⟨g9,0,none⟩)),(13,.bool true),(15,.int .i64 ec),(17,.int .i64 ec),(18,.pointer (some ⟨G,0,none⟩))],defers:=[] } w:=by
 obtain⟨gn,cn,hgn,HV⟩:=(letI:Old:=nOld;letI:cK:=nOldNo;Gr13.nview h hj.n0)
 obtain⟨X,P,rb,b,q,ap,e1,e2,hrb,hp0,hnb,hX,hBb,hBr,-,-⟩:=HV who (by rw[hid.1];exact hw);obtain⟨n,hn⟩:=zE (s.ns.getD who default);have hgw:=hj.nd (i:=who) (by rw[hid.1];exact hw);have hme:=hid.2 who hw;rw[hn] at hp0 hgw hme;rw[hid.1] at hgn;letI:Old:=zk W0;have hp:PNs X P w b n q:=PNs.old (o:=fun c=>c<W0.heap.size) hp0 fun c hc=>Nat.lt_of_lt_of_le (Nat.lt_of_lt_of_le hc hB) hBb
 have SOK:Hid (GQ n m):=⟨hel,hdl,hgw.pos,fun hr=>by have r:=Nd.right_ok hr;have c:=wq r.1;have e8:m.ms.es.length≤8:=c.2.2.2.2;exact⟨hgw.cf,fun x hx=>(hgw.pos x hx).1,hgw.me,by have:=hgw.ye;omega,by have:=hgw.es;omega,hgw.bn.mono (by omega),⟨by have:=r.2.2.2.2.1;omega,by have:=r.2.2.2.2.2.1;omega,fun _=>by have:=r.2.2.2.2.2.2.1;omega,by have:=r.2.2.2.2.2.2.2;omega⟩,by omega⟩,hgw.cf.2,by have:=hgw.es;omega,by have:=hgw.ye;omega⟩
 have CC:=zH (tQ w many (by omega));have HP:=zH hp;have HID:=zH hme;have RB0:=zH hrb;have T9:=zH t9;have HM:=zH hm;have HF0:=zH hF;have FIN:=zH fin;have NUM:Hid (W0.heap.size≤B∧g9<B∧B≤b∧B≤rb∧(∀k,X k→B≤k)∧¬P rb):=⟨hB,h9,hBb,hBr,hX,hnb⟩
 have ER:Hid (FV (who:Nat) (cfN many)=0):=by unfold FV;rw[if_neg (by omega),zK h1 h5];rfl
 have hwi:(who:Int)<(many:Int):=by omega
 have hw0:¬(who:Int)<0:=by omega
 clear h hj hid HV hp0 hp hgw hme hn hrb hnb hX hBb hBr hB h9 hm hF fin hel hdl t9 e2;simp only[tU,tL,Nat.reduceAdd,Nat.reduceBEq,cond_true,cond_false];dsimp only[gX,cW,Tryz.f6];go_wp2_with fail
 (with_reducible refine CC.out.mono ?_);rintro e W1 ⟨⟨gc,kc,rfl,oc⟩,f1⟩;have HP1:=zH (HP.out.tt f1)
 have IC:IntsAt (RO X) W1 (.slice gc many kc) (cfN many):=(RowI.intsK (B:=w.heap.size) (zs:=cfN many) (show RowI W1 w.heap.size (.slice gc many kc) (cfN many) by
  show World.ownsRow _ _ _ _ _ _ _;rw[←j9,jq];rw[jq] at oc;exact oc)).mono fun c o hc=>⟨fun hx=>by have:=HP.out.hx c hx;omega,by obtain⟨cs,e⟩:=hc.2;exact .inr ⟨cs,_,_,e,by decide⟩⟩
 have S0:W0.heap.size≤W1.heap.size:=(HF0.out.trans f1).size;have NC:=zH (pz (X:=X) W1 (who:Nat) (.slice gc many kc) (cfN many) IC (by rw[jq];unfold maxLen;omega) HP1.out.hx (fun c hc=>Nat.lt_of_lt_of_le hc S0));have F1:=zH f1;clear CC oc f1 IC S0 e1 hgn;go_wp2_with fail
 (with_reducible refine NC.out.mono ?_);rintro e W2 ⟨hR,f2⟩
 obtain⟨rd,d,q2,rfl,hd,hrd,hxr,hne,hds,hrs⟩:∃rd d q2,e=.returned (.tuple #[.pointer (some ⟨rd,0,none⟩),.int .i64 0])∧DNs (fun c=>X c∨c=d) W2 d (Nd.new (who:Nat) (cfN many)) q2∧RD W2 rd d 0∧¬X rd∧rd≠d∧W1.heap.size≤d∧W1.heap.size≤rd:=by
  rcases hR with⟨hne,_⟩ | ⟨_,rd,d,q2,h⟩
  ·exact absurd ER.out hne
  ·exact⟨rd,d,q2,h⟩
 have p2:=HP1.out.tt f2;have lt1:=HP1.out.hx;have A2:Aft X (fun _=>False) (fun c=>X c∨c=d) (fun c=>c=d) W1 W2:=⟨f2.mono fun _ _ _=>trivial,fun c=>Iff.rfl,fun _ k=>k.elim,fun c k=>.inr (k▸hds),fun _ k=>k.elim⟩
 have p3:=HP1.out.far A2 (fun _ _ k=>k) hd.hx;have F2:Fr (fun _ _=>True) w W2:=F1.out.trans f2;have hsz:w.heap.size≤W1.heap.size:=F1.out.size;have rbl:rb<w.heap.size:=bZ RB0.out;have X2:∀c,(X c∨c=d)→B≤c:=fun c k=>k.elim (NUM.out.2.2.2.2.1 c) fun e=>by have:=NUM.out.2.2.2.1;omega
 have AM:Aft (fun _=>False) (fun _=>False) (fun c=>X c∨c=d) (fun c=>X c∨c=d) W0 W2:=⟨(HF0.out.trans F2).mono fun _ _ _=>trivial,fun c=>⟨.inr,fun k=>k.elim (fun e=>e.elim) id⟩,(fun c k=>k.elim),fun c k=>.inr (Nat.le_trans NUM.out.1 (X2 c k)),(fun c k=>k.elim)⟩
 have n9w:=bZ T9.out
 have ST:Hid (RSt (fun c=>X c∨c=d) P W2 rb rd b d ap n q m g9):={
  hp:=p3
  rb':=RB0.out.fr F2 fun _=>trivial
  rd':=⟨0,hrd⟩
  nb:=NUM.out.2.2.2.2.2
  dp:=fun k=>by have:=lt1 _ (HP1.out.px _ k);omega
  dr:=fun k=>by have:=lt1 _ (HP1.out.px _ k);omega
  ne:=hne
  bd:=fun e=>by omega
  br:=fun e=>by omega
  hm:=HM.out.aft AM
  t9:=F2.keep _ _ T9.out trivial
  h9:=fun k=>by have:=X2 _ k;have:=NUM.out.2.1;omega
  n9:=fun e=>by omega
  od:=fun c k=>Nat.lt_of_lt_of_le k (HF0.out.trans F2).size
  or:=fun k=>by have:rd<W0.heap.size:=k;have:=HF0.out.size;omega
  xd:=.inr rfl
  dlt:=bZ hd.top }
 have HD:Hid (DNs (fun c=>X c∨c=d) W2 d (Nd.new n.me n.conf) q2):=by rw[HID.out.1,HID.out.2];exact hd
 have HR:=zH hrd;have FE:Hid (∀W,Fr (fun c _=>¬(X c∨c=d)∧c≠rd) W2 W→R (.returned (.bool true)) W):=fun W f=>FIN.out W ((F2.mono fun _ _ _=>trivial).trans (f.mono fun c o hc=>⟨fun k=>by have:=X2 c k;omega,fun e=>by have:=NUM.out.2.2.2.1;omega⟩))
 have c0:W2.cell? ⟨rd,0,none⟩=some (.pointer (some ⟨d,0,none⟩)):=bQ hrd rfl;clear hR hd hrd hxr hne hds hrs p2 p3 A2 AM F2 F1 f2 lt1 hsz rbl X2 n9w NC HP HP1 HM HF0 FIN T9 RB0 HID ER;go_upto_region 13 with fail
 rename_i K1 h1;have H1:=zH h1;clear h1;go_wp2_with fail
 exact H1.out _ _ (d7 (fun fu=>rs_s10 m g9 ec ST.out HD.out HR.out SOK.out FE.out fu) (by kernel_rfl))
end Go.Proofs.YtmjccpfchhnfhaaGreat
