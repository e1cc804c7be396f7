/- Texts of the proofs, part 41: what the functions that they reach do, walked; no conditions beyond those that each states. -/
import Derived.Test.YtmjccpfchhnfhaaGreatZk437d5c8d59
import Derived.Test.YtmjccpfchhnfhaaGreatZk8074afb305
set_option linter.unusedVariables false
set_option linter.unusedSimpArgs false
set_option maxRecDepth 100000
set_option maxHeartbeats 8000000
namespace Go.Proofs.YtmjccpfchhnfhaaGreat
open Go.RowKit
def S0 (many:Nat):Gs:=⟨(cfN many).map fun i=>Nd.new i (cfN many),List.replicate many 0,[],List.replicate many 0,0⟩
theorem zz (many:Nat):(S0 many).ns.length=many:=by
 show ((cfN many).map _).length=many;rw[List.length_map,jq]
theorem S0_at {many i:Nat} (hi:i<many):(S0 many).ns.getD i default=Nd.new (i:Nat) (cfN many):=by
 have e:(cfN many)[i]? = some ((i:Nat):Int):=by unfold cfN;simp [hi]
 rw[List.getD_eq_getElem?_getD];show ((List.map (fun i=>Nd.new i (cfN many)) (cfN many))[i]?).getD default=_;rw[List.getElem?_map,e];rfl
theorem S0_ids (many:Nat):Ids many (S0 many):=⟨zz many,fun i hi=>by rw[S0_at hi];exact⟨rfl,rfl⟩⟩
theorem My {many:Nat} {x:Int} (h:x∈cfN many):∃i:Nat,x=(i:Nat)∧i<many:=by
 obtain⟨i,hi,rfl⟩:=List.mem_map.1 h;exact⟨i,rfl,List.mem_range.1 hi⟩
theorem S0_gj {many:Nat} (h1:1≤many) (h5:many≤5):GJ 16 (S0 many):=by
 have h:∀n∈(S0 many).ns,Gw 16 16 n:=fun n hn=>by obtain⟨i,hi,rfl⟩:=List.mem_map.1 hn;obtain⟨j,rfl,hj⟩:=My hi;have hl:=jq many;refine⟨⟨Nat.zero_le _,Nat.zero_le _,Nat.zero_le _,rfl,rfl,mJ (Nat.zero_le _),mJ (Nat.zero_le _)⟩,Nat.zero_le _,Nat.zero_le _,⟨j,rfl,by omega⟩,(by show 0<(cfN many).length∧(cfN many).length≤12;omega),fun x hx=>?_⟩;obtain⟨k,rfl,hk⟩:=My (show x∈cfN many from hx);omega
 refine⟨⟨h,?_,(fun m hm=>by cases hm),Nat.zero_le _⟩,?_,?_,?_,?_,⟨Int.le_refl _,by show (0:Int)≤((16:Nat):Int);omega⟩,fun i=>?_⟩
 ·intro a ha;have:a∈List.replicate many 0:=ha;rw[List.eq_of_mem_replicate this];exact Nat.zero_le _
 ·rw[zz];omega
 ·rw[zz];omega
 ·rw[zz];exact List.length_replicate
 ·rw[zz];exact List.length_replicate
 ·exact Nat.le_refl _
theorem ops13_at {w:World} {a:Option Addr} {len cap:Nat} (h:Rd Tryz.prog w 59 [.slice a len cap]):∃b off,(0<len→a=some ⟨b,off,none⟩)∧∀i,i<len→∃d k:Int,w.cell? ⟨b,off+i*2,none⟩=some (.int .i64 d)∧w.cell? ⟨b,off+i*2+1,none⟩=some (.int .i64 k):=by
 obtain⟨a',len',cap',hv,_,_,_,hc⟩:=h.slice (sz:=2) Tryz.underlying59 (by kernel_rfl);obtain⟨rfl,rfl,rfl⟩:a=a'∧len=len'∧cap=cap':=by simpa using hv
 have key:∀i,i<len→∃ad,∃d k:Int,a=some ad∧w.cell? (ad.add (i*2))=some (.int .i64 d)∧w.cell? (ad.add (i*2+1))=some (.int .i64 k):=by
  intro i hi;obtain⟨ad,cs,ha,hcl,hat,hr⟩:=hc i hi;obtain⟨_,hf⟩:=hr.struct (sz:=2) Tryz.underlying72 (by kernel_rfl);obtain⟨c0,c1,rfl⟩:=list2 hcl;obtain⟨x0,h0,_⟩:=(show Rd Tryz.prog w 3 [c0] from hf 0 _ rfl).int Tryz.underlying3;obtain⟨x1,h1,_⟩:=(show Rd Tryz.prog w 3 [c1] from hf 1 _ rfl).int Tryz.underlying3;have e0:c0=.int .i64 x0:=by injection h0
  have e1:c1=.int .i64 x1:=by injection h1
  subst e0 e1;exact⟨ad,x0,x1,ha,hat 0 (by omega),hat 1 (by omega)⟩
 by_cases hl:0<len
 ·obtain⟨ad,d,k,ha,e0,_⟩:=key 0 hl;rw[Nat.zero_mul] at e0;obtain⟨b,off,rfl⟩:=BK e0;refine⟨b,off,fun _=>ha,fun i hi=>?_⟩;obtain⟨ad',d,k,ha',e0,e1⟩:=key i hi;rw[ha] at ha';cases ha';simp only[qY] at e0 e1;exact⟨d,k,e0,e1⟩
 ·exact⟨0,0,fun h=>absurd h hl,fun i hi=>by omega⟩
theorem rs_s6 {R:Ending→World→Prop} {W0 w:World} {B G:Nat} (a:Option Addr) (len cap many who:Nat) (hlen:len≤40) (b0 off:Nat) (ha:0<len→a=some ⟨b0,off,none⟩) (hops:∀i,i<len→∃d k:Int,W0.cell? ⟨b0,off+i*2,none⟩=some (.int .i64 d)∧W0.cell? ⟨b0,off+i*2+1,none⟩=some (.int .i64 k)) (m:MV) (g9:Nat) (ec:Int) (h:@Gr13 nOld B w G (S0 many)) (hB:W0.heap.size≤B) (h1:1≤many) (h5:many≤5) (hw:who<many) (hm:@MsAt (zk W0) (fun _=>False) W0 m) (hF:Fr (fun _ _=>True) W0 w) (t9:w.heap[g9]? = some (.cells (cM m) 32 (0,0))) (h9:g9<B) (hel:m.es.length≤9223372036854775807) (hdl:m.d.length≤9223372036854775807) (fin:∀W,Fr (fun c _=>c<B) w W→R (.returned (.bool true)) W) (fu:Nat→Value):
 Code.wp Tryz.prog (gX 6 (cW Tryz.f6.body)) (bodyPost Tryz.prog Tryz.f6 R) { tmps:=tU 290 fu [(0,.int .i64 (many:Nat)),(1,.slice a len cap),(2,.int .i64 (who:Nat)),(9,.pointer (some ⟨g9,0,none⟩)),(13,.bool true),(15,.int .i64 ec),(17,.int .i64 ec),(18,.pointer (some ⟨G,0,none⟩))],defers:=[] } w:=by
 have FIN:=zH fin;have HM:=zH hm;have HF0:=zH hF;have T9:=zH t9;have NUM:=zH (And.intro hB (And.intro h9 (And.intro hel (And.intro hdl (And.intro h1 (And.intro h5 (And.intro hw hlen)))))));have OPS:=zH hops;have HA:=zH ha;have G0:=zH h;clear h hB h1 h5 hw hm hF t9 h9 hel hdl fin hops ha hlen;simp only[tU,tL,Nat.reduceAdd,Nat.reduceBEq,cond_true,cond_false];dsimp only[gX,cW,Tryz.f6];go_upto_region 8 with fail
 rename_i K1 h1;have H1:=zH h1;clear h1;go_wp2_with fail
 go_loopw [19] (fun v wr=>∃(k:Nat) (s:Gs),v=.int .i64 (k:Nat)∧k≤len∧Hid (@Gr13 nOld B wr G s∧GJ (16+3*k) s∧Ids many s)∧Hid (Fr (fun c _=>c<B) w wr)) (fun v _=>len-(intOf v).toNat)
 case atStart=>exact⟨0,_,rfl,Nat.zero_le _,⟨G0.out,S0_gj NUM.out.2.2.2.2.1 NUM.out.2.2.2.2.2.1,S0_ids many⟩,Fr.refl _ _⟩
 case round=>
  obtain⟨k,s,rfl,hk,HG,HF⟩:=hrel;by_cases hlt:k<len
  ·have hltI:(k:Int)<(len:Int):=by omega
   obtain⟨d,kk,x0,x1⟩:=OPS.out k hlt;have hb0:b0<B:=Nat.lt_of_lt_of_le (qW x0) NUM.out.1;have z0:wr.cell? ⟨b0,off+k*2,none⟩=some (.int .i64 d):=HF.out.cell (fun _ _=>hb0) (HF0.out.cell (fun _ _=>trivial) x0);have z1:wr.cell? ⟨b0,off+k*2+1,none⟩=some (.int .i64 kk):=HF.out.cell (fun _ _=>hb0) (HF0.out.cell (fun _ _=>trivial) x1);have hae:=HA.out (by omega);have PC:=zH (letI:Old:=nOld;letI:cK:=nOldNo;Gr13.play HG.out.1 HG.out.2.1 (by have:=NUM.out.2.2.2.2.2.2.2;omega) d kk);have HK:=zH hlt;clear x0 x1 hb0 hlt;subst hae;go_wp2_with fail
   (with_reducible refine PC.out.mono ?_);rintro e W9 ⟨rfl,g9',f9⟩;have G9:Hid (@Gr13 nOld B W9 G (s.play d kk)∧GJ (16+3*(k+1)) (s.play d kk)∧Ids many (s.play d kk)):=⟨g9',(HG.out.2.1.play d kk).mono (by omega),HG.out.2.2.play d kk⟩
   have F9:=zH (HF.out.trans f9);clear g9' f9 PC z0 z1;have hl40:=NUM.out.2.2.2.2.2.2.2;go_wp2;go_roundw
   case rel=>exact⟨k+1,_,by go_num,by have:=HK.out;omega,G9.out,F9.out⟩
   case measure=>simp [intOf];have:=HK.out;omega
  ·obtain rfl:k=len:=by omega
   have hge:¬(k:Int)<(k:Int):=by omega
   go_wp2_with fail
   obtain⟨q1,q2,q3,q4,q5,q6,q7,q8⟩:=NUM.out;exact H1.out _ _ (d7 (fun fu=>rs_s7 many who m g9 ec HG.out.1 HG.out.2.1 (by omega) HG.out.2.2 q1 q5 q6 q7 HM.out (((HF0.out.mono fun _ _ _=>trivial).trans HF.out).monoH fun i o hi _=>Nat.lt_of_lt_of_le (bZ hi) q1) (HF.out.keep _ _ T9.out q2) q2 q3 q4 (fun W f=>FIN.out W (HF.out.trans f)) fu) (by kernel_rfl))
theorem rs_s5n {R:Ending→World→Prop} {w:World} (a:Option Addr) (len cap:Nat) (z wh:Int) (g9:Nat) (ec:Int) (fin:R (.returned (.bool true)) w) (fu:Nat→Value):
 Code.wp Tryz.prog (gX 5 (cW Tryz.f6.body)) (bodyPost Tryz.prog Tryz.f6 R) { tmps:=tU 290 fu [(0,.int .i64 z),(1,.slice a len cap),(2,.int .i64 wh),(9,.pointer (some ⟨g9,0,none⟩)),(13,.bool true),(15,.int .i64 ec),(17,.int .i64 ec),(18,.pointer none)],defers:=[] } w:=by
 have FIN:=zH fin;clear fin;simp only[tU,tL,Nat.reduceAdd,Nat.reduceBEq,cond_true,cond_false];dsimp only[gX,cW,Tryz.f6];go_wp2;exact FIN.out
theorem rs_s5g {R:Ending→World→Prop} {W0 w:World} {B G:Nat} (a:Option Addr) (len cap many:Nat) (wh:Int) (b0 off:Nat) (ha:0<len→a=some ⟨b0,off,none⟩) (hops:∀i,i<len→∃d k:Int,W0.cell? ⟨b0,off+i*2,none⟩=some (.int .i64 d)∧W0.cell? ⟨b0,off+i*2+1,none⟩=some (.int .i64 k)) (m:MV) (g9:Nat) (ec:Int) (h:@Gr13 nOld B w G (S0 many)) (hB:W0.heap.size≤B) (h1:1≤many) (h5:many≤5) (hm:@MsAt (zk W0) (fun _=>False) W0 m) (hF:Fr (fun _ _=>True) W0 w) (t9:w.heap[g9]? = some (.cells (cM m) 32 (0,0))) (h9:g9<B) (hel:m.es.length≤9223372036854775807) (hdl:m.d.length≤9223372036854775807) (fin:∀W,Fr (fun c _=>c<B) w W→R (.returned (.bool true)) W) (fu:Nat→Value):
 Code.wp Tryz.prog (gX 5 (cW Tryz.f6.body)) (bodyPost Tryz.prog Tryz.f6 R) { tmps:=tU 290 fu [(0,.int .i64 (many:Nat)),(1,.slice a len cap),(2,.int .i64 wh),(9,.pointer (some ⟨g9,0,none⟩)),(13,.bool true),(15,.int .i64 ec),(17,.int .i64 ec),(18,.pointer (some ⟨G,0,none⟩))],defers:=[] } w:=by
 by_cases hlen:40<len
 ·have hlI:(40:Int)<(len:Int):=by omega
  have FIN:=zH (fin w (Fr.refl _ _));clear h hB h1 h5 hm hF t9 h9 hel hdl fin hops ha;simp only[tU,tL,Nat.reduceAdd,Nat.reduceBEq,cond_true,cond_false];dsimp only[gX,cW,Tryz.f6];go_wp2;exact FIN.out
 ·have hlI:¬(40:Int)<(len:Int):=by omega
  by_cases hw0:wh<0
  ·have FIN:=zH (fin w (Fr.refl _ _));clear h hB h1 h5 hm hF t9 h9 hel hdl fin hops ha;simp only[tU,tL,Nat.reduceAdd,Nat.reduceBEq,cond_true,cond_false];dsimp only[gX,cW,Tryz.f6];go_wp2;exact FIN.out
  ·by_cases hwm:(many:Int)≤wh
   ·have FIN:=zH (fin w (Fr.refl _ _));clear h hB h1 h5 hm hF t9 h9 hel hdl fin hops ha;simp only[tU,tL,Nat.reduceAdd,Nat.reduceBEq,cond_true,cond_false];dsimp only[gX,cW,Tryz.f6];go_wp2;exact FIN.out
   ·obtain⟨who,rfl⟩:=Int.eq_ofNat_of_zero_le (show 0≤wh by omega);have S6:=zH (fun fu=>rs_s6 (R:=R) a len cap many who (by omega) b0 off ha hops m g9 ec h hB h1 h5 (by omega) hm hF t9 h9 hel hdl fin fu);clear h hB h1 h5 hm hF t9 h9 hel hdl fin hops ha hlen;simp only[tU,tL,Nat.reduceAdd,Nat.reduceBEq,cond_true,cond_false];dsimp only[gX,cW,Tryz.f6];go_upto_region 5 with fail
    rename_i K1 h1 K2 h2;have H1:=zH h1;clear h1;go_wp2_with fail
    exact H1.out _ _ (d7 (fun fu=>S6.out fu) (by kernel_rfl))
theorem RNew.err [Old] {X:Nat→Prop} {w w':World} {me:Int} {conf:List Int} {e:Ending} (h:RNew X w me conf e w'):∃p,e=.returned (.tuple #[.pointer p,.int .i64 (FV me conf)])∧Fr (fun _ _=>True) w w':=by
 rcases h with⟨_,e,f⟩ | ⟨h0,rb,b,X',P',q',e,_,_,_,a,_⟩
 ·exact⟨_,e,f⟩
 ·exact⟨_,by rw[h0];exact e,a.fr.mono fun _ _ _ k=>k⟩
theorem DNewR.err [Old] {X:Nat→Prop} {w w':World} {me:Int} {conf:List Int} {e:Ending} (h:DNewR X w me conf e w'):∃p,e=.returned (.tuple #[.pointer p,.int .i64 (FV me conf)])∧Fr (fun _ _=>True) w w':=by
 obtain⟨h,f⟩:=h;rcases h with⟨_,e⟩ | ⟨h0,rb,b,q',e,_⟩
 ·exact⟨_,e,f⟩
 ·exact⟨_,by rw[h0];exact e,f⟩
theorem qw (W:World) (z:Int) (a:Option Addr) (len cap:Nat) (wh:Int) (m:MV) (me:Int) (ac:Option Addr) (lc cc:Nat) (conf:List Int) (b0 off:Nat) (ha:0<len→a=some ⟨b0,off,none⟩) (hops:∀i,i<len→∃d k:Int,W.cell? ⟨b0,off+i*2,none⟩=some (.int .i64 d)∧W.cell? ⟨b0,off+i*2+1,none⟩=some (.int .i64 k)) (hm:@MsAt (zk W) (fun _=>False) W m) (hel:m.es.length≤9223372036854775807) (hdl:m.d.length≤9223372036854775807) (hc:@IntsAt (@RO (zk W) fun _=>False) W (.slice ac lc cc) conf) (hcl:conf.length≤maxLen):
 Calls Tryz.prog 6 #[.int .i64 z,.slice a len cap,.int .i64 wh,.agg (cM m),.int .i64 me,.slice ac lc cc] W fun e w'=>e=.returned (.bool true)∧Fr (fun c _=>c<W.heap.size) W w':=by
 obtain⟨W2,hW2,F2,X2⟩:=gW W m;obtain⟨g9,hg9⟩:=zE W.heap.size;have T9:Hid (W2.heap[g9]? = some (.cells (cM m) 32 (0,0))):=hg9▸X2.out;have AC:=zH (@wj nOld nOldNo W2);obtain⟨ec,hec⟩:=zE (FV me conf)
 have RC:Hid (∀w,Fr (fun _ _=>True) W2 w→Calls Tryz.prog 42 #[.int .i64 me,.slice ac lc cc] w fun e w'=>∃p,e=.returned (.tuple #[.pointer p,.int .i64 ec])∧Fr (fun _ _=>True) w w'):=fun w f=>by letI:Old:=zk W;have f0:=F2.out.trans f;rw[←hec];exact(sx (X:=fun _=>False) w me (.slice ac lc cc) conf (hc.tt f0) hcl (fun _ k=>k.elim) (fun c k=>Nat.lt_of_lt_of_le k f0.size)).mono fun e w' h=>h.err
 have DC:Hid (∀w,Fr (fun _ _=>True) W2 w→Calls Tryz.prog 29 #[.int .i64 me,.slice ac lc cc] w fun e w'=>∃p,e=.returned (.tuple #[.pointer p,.int .i64 ec])∧Fr (fun _ _=>True) w w'):=fun w f=>by letI:Old:=zk W;have f0:=F2.out.trans f;rw[←hec];exact(pz (X:=fun _=>False) w me (.slice ac lc cc) conf (hc.tt f0) hcl (fun _ k=>k.elim) (fun c k=>Nat.lt_of_lt_of_le k f0.size)).mono fun e w' h=>h.err
 have LIES:=zH (And.intro ha (And.intro hops (And.intro hm (And.intro hel hdl))));have G9:=zH hg9;have FW2:=F2.out.mono (K':=fun c _=>c<W.heap.size) fun _ _ _=>trivial
 have FW2:=zH FW2;refine(fun H=>H _ fun W9 f=>⟨rfl,f⟩:(∀R:Ending→World→Prop,(∀W9,Fr (fun c _=>c<W.heap.size) W W9→R (.returned (.bool true)) W9)→Calls Tryz.prog 6 #[.int .i64 z,.slice a len cap,.int .i64 wh,.agg (cM m),.int .i64 me,.slice ac lc cc] W R)→_) fun R hR=>?_
 have FIN:=zH hR;unfold cM at hW2 ⊢;clear hR X2 ha hops hm hel hdl hc hcl hec;go_enter Tryz.func6,Tryz.ntmps6
 go_wp2_with fail
 try rw[hW2]
 try rw[hg9]
 (with_reducible refine AC.out.mono ?_);rintro e w1 ⟨rfl,f1⟩;have C1:=zH (RC.out w1 f1);have F1:=zH f1;clear hW2 hg9 AC f1 RC;go_wp2_with fail
 (with_reducible refine C1.out.mono ?_);rintro e w2 ⟨p1,rfl,f2⟩;have C2:=zH (DC.out w2 (F1.out.trans f2));have FF2:=zH (F1.out.trans f2);clear f2 DC C1 F1;go_wp2_with fail
 (with_reducible refine C2.out.mono ?_);rintro e w3 ⟨p2,rfl,f3⟩;have FF3:=zH (FF2.out.trans f3);clear f3 C2 FF2;by_cases hz:z<1∨5<z
 ·have BC:=zH (zY w3 z hz);clear hz;go_upto_region 4 with fail
  rename_i K1 h1;have H1:=zH h1;clear h1;go_wp2_with fail
  (with_reducible refine BC.out.mono ?_);rintro e w4 ⟨rfl,rfl⟩;go_wp2_with fail
  exact H1.out _ _ (d7 (fun fu=>rs_s5n a len cap z wh g9 ec (FIN.out _ (FW2.out.trans (FF3.out.mono fun _ _ _=>trivial))) fu) (by kernel_rfl))
 ·obtain⟨many,rfl⟩:=Int.eq_ofNat_of_zero_le (show 0≤z by omega);have BC:=zH (@lY nOld nOldNo w3 many (by omega) (by omega));have HZ:Hid (1≤many∧many≤5):=⟨by omega,by omega⟩
  clear hz;go_upto_region 4 with fail
  rename_i K1 h1;have H1:=zH h1;clear h1;go_wp2_with fail
  (with_reducible refine BC.out.mono ?_);rintro e w4 ⟨G,X,l,tk,vn,vt,rfl,g13,e1,e2,e3,f4⟩;have BO:=zH (And.intro g13 (And.intro e1 (And.intro e2 (And.intro e3 f4))));clear g13 e1 e2 e3 f4 BC;go_wp2_with fail
  refine H1.out _ _ ?_;clear H1;obtain⟨g13,e1,e2,e3,f4⟩:=BO.out;have g0:@Gr13 nOld w3.heap.size w4 G (S0 many):=⟨X,l,[],tk,0,vn,_,vt,g13,by unfold St S0;rw[e1,e2,e3];rfl⟩
  have sz:W.heap.size≤w3.heap.size:=(F2.out.trans FF3.out).size;have l9:g9<w3.heap.size:=Nat.lt_of_lt_of_le (bZ T9.out) FF3.out.size;exact d7 (fun fu=>rs_s5g (R:=R) a len cap many wh b0 off LIES.out.1 LIES.out.2.1 m g9 ec g0 sz HZ.out.1 HZ.out.2 LIES.out.2.2.1 ((F2.out.trans FF3.out).trans f4) ((FF3.out.trans f4).keep _ _ T9.out trivial) l9 LIES.out.2.2.2.1 LIES.out.2.2.2.2 (fun W9 f=>FIN.out _ ((FW2.out.trans ((FF3.out.trans f4).mono fun _ _ _=>trivial)).trans (f.mono fun c o hc=>Nat.lt_of_lt_of_le hc sz))) fu) (by kernel_rfl)
theorem ms_of2 {w:World} {cs:Array Value} (h:Rd Tryz.prog w 32 cs.toList):∃m:MV,cs=cM m∧@MsAt (zk w) (fun _=>False) w m∧m.es.length≤9223372036854775807∧m.d.length≤9223372036854775807:=by
 obtain⟨l,rfl⟩:∃l:List Value,cs=l.toArray:=⟨cs.toList,by simp⟩
 rw[List.toList_toArray] at h;obtain⟨hcl,hf⟩:=h.struct (sz:=10) Tryz.underlying32 (by kernel_rfl);obtain⟨c0,c1,c2,c3,c4,c5,c6,c7,c8,c9,rfl⟩:=list10 hcl;obtain⟨x0,rfl⟩:=intc (show Rd Tryz.prog w 3 [c0] from hf 0 _ rfl);obtain⟨x1,rfl⟩:=intc (show Rd Tryz.prog w 3 [c1] from hf 1 _ rfl);obtain⟨x2,rfl⟩:=intc (show Rd Tryz.prog w 3 [c2] from hf 2 _ rfl);obtain⟨x3,rfl⟩:=natc (show Rd Tryz.prog w 23 [c3] from hf 3 _ rfl);obtain⟨x4,rfl⟩:=natc (show Rd Tryz.prog w 23 [c4] from hf 4 _ rfl);obtain⟨x5,rfl⟩:=natc (show Rd Tryz.prog w 23 [c5] from hf 5 _ rfl);obtain⟨x6,rfl⟩:=natc (show Rd Tryz.prog w 23 [c6] from hf 6 _ rfl);obtain⟨x7,h7⟩:=(show Rd Tryz.prog w 4 [c7] from hf 7 _ rfl).bool Tryz.underlying4;obtain rfl:c7=.bool x7:=by injection h7
 obtain⟨a8,k8,bs,rfl,hb,hbl⟩:=dat_of (show Rd Tryz.prog w 30 [c8] from hf 8 _ rfl);obtain⟨a9,k9,es,rfl,he,hel⟩:=ents_of (show Rd Tryz.prog w 24 [c9] from hf 9 _ rfl);exact⟨⟨x0,x1,x2,x3,x4,x5,x6,x7,a8,k8,bs,a9,k9,es⟩,rfl,@MsAt.mk (zk w) _ _ _ hb he,by unfold maxLen at hel;exact Nat.le_trans hel (by omega),hbl⟩
theorem raftSteps_walk (W:World) (z:Int) (a:Option Addr) (len cap:Nat) (wh:Int) (cs3:Array Value) (me:Int) (ac:Option Addr) (lc cc:Nat) (r1:Rd Tryz.prog W 59 [.slice a len cap]) (r3:Rd Tryz.prog W 32 cs3.toList) (r5:Rd Tryz.prog W 22 [.slice ac lc cc]):
 Calls Tryz.prog 6 #[.int .i64 z,.slice a len cap,.int .i64 wh,.agg cs3,.int .i64 me,.slice ac lc cc] W fun e w'=>e=.returned (.bool true)∧Below W.heap.size W w':=by
 obtain⟨b0,off,h1,h2⟩:=ops13_at r1;obtain⟨m,rfl,hm,hel,hdl⟩:=ms_of2 r3;obtain⟨ac',cc',conf,e,hc,hl⟩:=ints_of r5;obtain⟨rfl,rfl,rfl⟩:ac=ac'∧lc=conf.length∧cc=cc':=by simpa using e
 exact(qw W z a len cap wh m me ac _ cc conf b0 off h1 h2 hm hel hdl hc hl).mono fun e w' ⟨h1,h2⟩=>⟨h1,h2.below (Nat.le_refl _)⟩
end Go.Proofs.YtmjccpfchhnfhaaGreat
