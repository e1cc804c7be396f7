/- Texts of the proofs, part 53: what the functions that they reach do, walked; no conditions beyond those that each states. -/
import Derived.Test.YtmjccpfchhnfhaaGreatZk9f7ab9ab39
set_option linter.unusedVariables false
set_option linter.unusedSimpArgs false
set_option maxRecDepth 100000
set_option maxHeartbeats 8000000
namespace Go.Proofs.YtmjccpfchhnfhaaGreat
open Go.RowKit
theorem pl_6 [Old] [bj] {R:Ending→World→Prop} {W0 w:World} {B G:Nat} {D:List (Nat×Nat)} {vr:Value} (a:Option Addr) (len cap many:Nat) (hlen:len≤200) (b0 off:Nat) (ha:0<len→a=some ⟨b0,off,none⟩) (hops:∀i,i<len→∃d k:Int,W0.cell? ⟨b0,off+i*2,none⟩=some (.int .i64 d)∧W0.cell? ⟨b0,off+i*2+1,none⟩=some (.int .i64 k)) (h1:1≤many) (h5:many≤5) (h:Pp B w G D vr (S0 many)) (hB:W0.heap.size≤B) (hF:Fr (fun _ _=>True) W0 w) (fin:∀W,Fr (fun c _=>c<B) w W→R (.returned (.bool true)) W) (fu:Nat→Value):
 Code.wp Tryz.prog (fK 6 (cW Tryz.f5.body)) (bodyPost Tryz.prog Tryz.f5 R) { tmps:=tU 264 fu [(0,.int .i64 (many:Nat)),(1,.slice a len cap),(5,.bool true),(6,.pointer (some ⟨G,0,none⟩)),(7,vr)],defers:=[] } w:=by
 have FIN:=zH fin;have HF0:=zH hF;have OPS:=zH hops;have HA:=zH ha;have P0:=zH h;have NUM:=zH (And.intro h1 (And.intro h5 (And.intro hlen hB)))
 obtain⟨gr,cr,hvr⟩:∃gr cr,vr=.slice (some ⟨gr,0,none⟩) many cr:=by obtain⟨X,l,ms,tk,vn,vm,vt,hG,hD,hS⟩:=h;have e:(St l ms tk 0).ns.length=l.length:=List.length_map _;rw[hS,tj] at e;obtain⟨gr,cr,hv,-⟩:=hD.rcell (by omega);rw[←e] at hv;exact⟨gr,cr,hv⟩
 have hm5:(many:Int)≤5:=by omega
 have hl200:(len:Int)≤200:=by omega
 have HVR:=zH hvr;clear fin hF ha hops h hlen hB h1 h5 hvr;rw[HVR.out]
 try simp only[kfL]
 simp only[tU,tL,Nat.reduceAdd,Nat.reduceBEq,cond_true,cond_false];dsimp only[fK,cW,Tryz.f5];go_upto_region 12 with fail
 rename_i K1 h1;have H1:=zH h1;clear h1;go_wp2_with fail
 go_loopw [11] (fun v wr=>∃(k:Nat) (s:Gs),v=.int .i64 (k:Nat)∧k≤len∧Hid (Pp B wr G D vr s∧GJ (16+3*k) s∧kv many s)∧Hid (Fr (fun c _=>c<B) w wr)) (fun v _=>len-(intOf v).toNat)
 case atStart=>exact⟨0,_,rfl,Nat.zero_le _,⟨P0.out,S0_gj NUM.out.1 NUM.out.2.1,S0_safe many⟩,Fr.refl _ _⟩
 case round=>
  obtain⟨k,s,rfl,hk,HS,HF⟩:=hrel;by_cases hlt:k<len
  case neg=>
   obtain rfl:k=len:=by omega
   have hge:¬(k:Int)<(k:Int):=by omega
   clear hlt;go_wp2_with fail
   refine H1.out _ _ ?_;go_wp2;exact FIN.out _ HF.out
  case pos=>
   have hltI:(k:Int)<(len:Int):=by omega
   obtain⟨d,kk,x0,x1⟩:=OPS.out k hlt;have hb0:b0<B:=Nat.lt_of_lt_of_le (xz x0) NUM.out.2.2.2;have z0:wr.cell? ⟨b0,off+k*2,none⟩=some (.int .i64 d):=HF.out.cell (fun _ _=>hb0) (HF0.out.cell (fun _ _=>trivial) x0);have z1:wr.cell? ⟨b0,off+k*2+1,none⟩=some (.int .i64 kk):=HF.out.cell (fun _ _=>hb0) (HF0.out.cell (fun _ _=>trivial) x1);have hae:=HA.out (by omega);subst hae;obtain⟨w1,hw1⟩:=zE (wr.alloc (.cells #[.int .i64 d,.int .i64 kk] 72 (0,0)));have F1:Hid (Fr (fun _ _=>True) wr w1):=hw1▸(Fr.refl _ _).alloc _;have T1:Hid (w1.heap[wr.heap.size]? = some (.cells #[.int .i64 d,.int .i64 kk] 72 (0,0))):=hw1▸bZ _ _;have HK:=zH hlt;clear x0 x1 hb0 hlt;go_upto_region 14 with fail
   rename_i K3 h3 K4 h4;have H3:=zH h3;have H4:=zH h4;clear h3 h4;go_wp2_with fail
   try rw[hw1]
   refine H4.out _ _ ?_;obtain⟨⟨X,l,ms,tk,vn,vm,vt,hG,hD,hS⟩,hJ,hSf⟩:=HS.out;refine cw (fun fw=>zg_round (b0:=b0) (off:=off) (cap:=cap) fu d kk (hG.tt F1.out) (hD.tt F1.out) hS hJ hSf HVR.out NUM.out.1 NUM.out.2.1 HK.out NUM.out.2.2.1 T1.out (fun e he fv w8 p8 f8=>?_) fw) (by kernel_rfl);have P8:=zH p8;have F8:=zH ((HF.out.trans (F1.out.mono fun _ _ _=>trivial)).trans f8);have HS':Hid (GJ (16+3*(k+1)) (s.playP k d kk)∧kv many (s.playP k d kk)):=⟨(hJ.playP k d kk).mono (by omega),hSf.playP (by have:=NUM.out;omega) k d kk⟩
   clear hG hD hS hJ hSf p8 f8;rcases he with rfl | rfl
   all_goals
    refine H3.out _ _ ?_
    try simp only[kfL]
    simp only[tU,tL,Nat.reduceAdd,Nat.reduceBEq,cond_true,cond_false];go_wp2;go_roundw
    case rel=>exact⟨k+1,_,by go_num,HK.out,⟨P8.out,HS'.out⟩,F8.out⟩
    case measure=>simp [intOf];have:=HK.out;omega
theorem DNs.frK2 [Old] {X:Nat→Prop} {w w':World} {b:Nat} {n:Nd} {q:DV} (h:DNs X w b n q) {K:Nat→Obj→Prop} (hf:Fr K w w') (hk:∀c o,w.heap[c]? = some o→c=b∨RO X c o→K c o):DNs X w' b n q:=by
 have ints:∀{v l},IntsAt (RO X) w v l→IntsAt (RO X) w' v l:=fun {v l} hv=>(((hv.mono3 (K':=fun c o=>RO X c o∧K c o) fun c o ho hr=>⟨hr,hk c o ho (.inr hr)⟩).fr hf fun c o q=>q.2).mono fun c o q=>q.1)
 exact⟨hf.keep _ _ h.top (hk _ _ h.top (.inl rfl)),ints h.cf,ints h.ye,h.ev.fr hf fun c o ho hr=>hk c o ho (.inr hr),h.ee,h.nl,h.ml,h.xb,fun c hc=>Nat.lt_of_lt_of_le (h.hx c hc) hf.size,h.od⟩
def n5 (n:Nd):Nd:={ Nd.new n.me n.conf with vote:=n.vote,role:=n.role,ld:=n.ld,yes:=n.yes,tm:=n.tm,commit:=n.commit }
section
variable {X P:Nat→Prop} {w W:World} {rb rd b d ap:Nat} {n:Nd} {q:NV} {m:MV} {g9:Nat}
end


theorem pl_5 [Old] [bj] {R:Ending→World→Prop} {W0 w:World} {B G:Nat} {X:Nat→Prop} {l:List Rx} {tk:List (Value×Nat)} {vn vt:Value} (a:Option Addr) (len cap many:Nat) (hlen:len≤200) (b0 off:Nat) (ha:0<len→a=some ⟨b0,off,none⟩) (hops:∀i,i<len→∃d k:Int,W0.cell? ⟨b0,off+i*2,none⟩=some (.int .i64 d)∧W0.cell? ⟨b0,off+i*2+1,none⟩=some (.int .i64 k)) (h1:1≤many) (h5:many≤5) (hg:G13 B X w G l [] tk 0 vn (.slice none 0 0) vt) (hln:l.map (·.n)=(cfN many).map (fun i=>Nd.new i (cfN many))) (hla:l.map (·.ap)=List.replicate many 0) (htk:tk.map Prod.snd=List.replicate many 0) (hB:W0.heap.size≤B) (hF:Fr (fun _ _=>True) W0 w) (fin:∀W,Fr (fun c _=>c<B) w W→R (.returned (.bool true)) W) (fu:Nat→Value):
 Code.wp Tryz.prog (fK 5 (cW Tryz.f5.body)) (bodyPost Tryz.prog Tryz.f5 R) { tmps:=tU 264 fu [(0,.int .i64 (many:Nat)),(1,.slice a len cap),(5,.bool true),(6,.pointer (some ⟨G,0,none⟩)),(7,.slice none 0 0)],defers:=[] } w:=by
 have FIN:=zH fin;have HF0:=zH hF;have OPSL:=zH (And.intro ha hops)
 have HL:Hid (l.length=many):=by have:=congrArg List.length hln;rw[List.length_map,List.length_map,d7] at this;exact this
 have AT:Hid (∀j (hj:j<l.length),l[j].n=Nd.new (j:Nat) (cfN many)∧l[j].ap=0):=fun j hj=>by
  have e1:(l.map (·.n))[j]? = some l[j].n:=by rw[List.getElem?_map,List.getElem?_eq_getElem hj];rfl
  have e2:(l.map (·.ap))[j]? = some l[j].ap:=by rw[List.getElem?_map,List.getElem?_eq_getElem hj];rfl
  rw[hln,List.getElem?_map] at e1;rw[hla,List.getElem?_replicate] at e2;have hjm:j<many:=by rw[←HL.out];exact hj
  have e3:(cfN many)[j]? = some ((j:Nat):Int):=by unfold cfN;simp [hjm]
  rw[e3] at e1;rw[if_pos hjm] at e2;exact⟨(Option.some.inj e1).symm,(Option.some.inj e2).symm⟩
 have EQ0:Hid (St l [] tk 0=S0 many):=by show St l [] tk 0=S0 many;unfold St S0;rw[hln,hla,htk];rfl
 have G0:=zH hg;have NUM:=zH (And.intro h1 (And.intro h5 (And.intro hlen hB)));have RQ:Hid (dV (cfN many)=true):=By h1 h5;have hm5:(many:Int)≤5:=by omega
 clear fin hF ha hops hln hla htk hg hlen hB h1 h5;simp only[tU,tL,Nat.reduceAdd,Nat.reduceBEq,cond_true,cond_false];dsimp only[fK,cW,Tryz.f5];go_upto_region 7 with fail
 rename_i K1 h1;have H1:=zH h1;clear h1;go_wp2_with fail
 go_loopw [7,8] (fun o v wr=>∃(j:Nat) (X:Nat→Prop) (D:List (Nat×Nat)) (g:Option Addr) (c:Nat),v=.int .i64 (j:Nat)∧j≤many∧o=.slice g j c∧Hid (G13 B X wr G l [] tk 0 vn (.slice none 0 0) vt)∧Hid (Dc B X wr (l.take j) D (.slice g j c))∧Hid (∀y∈D,∀x∈l,¬x.P y.2)∧Hid (Fr (fun c _=>c<B) w wr)) (fun _ v _=>many-(intOf v).toNat)
 case atStart=>exact⟨0,X,[],none,0,rfl,Nat.zero_le _,rfl,G0.out,Dc.nil _ _ _,(fun _ h=>by cases h),Fr.refl _ _⟩
 case round=>
  obtain⟨j,X,D,g,c,rfl,hj,rfl,HG,HD,HP,HF⟩:=hrel;obtain⟨gn,cn,hvn⟩:=bz HG.out.rn;rw[HL.out] at hvn;have y0:=(HG.out.gcells (Fr.refl _ wr)).1;rw[hvn] at y0;have HVN:=zH hvn;clear hvn;by_cases hlt:j<many
  ·have hltI:(j:Int)<(many:Int):=by omega
   have CC:=zH (tW wr many (by omega));have HJ:=zH hlt;clear hlt;go_wp2_with fail
   (with_reducible refine CC.out.mono ?_);rintro e W2 ⟨⟨gc,kc,rfl,oc⟩,f2⟩;have F2:=zH f2
   have IC:IntsAt (RO X) W2 (.slice gc many kc) (cfN many):=(RowI.intsK (B:=wr.heap.size) (zs:=cfN many) (show RowI W2 wr.heap.size (.slice gc many kc) (cfN many) by
    show World.ownsRow _ _ _ _ _ _ _;rw[←j5,d7];rw[d7] at oc;exact oc)).mono fun c o hc=>⟨fun hx=>by have:=HG.out.hx c hx;omega,by obtain⟨cs,e⟩:=hc.2;exact .inr ⟨cs,_,_,e,by decide⟩⟩
   have hx2:∀k,X k→k<W2.heap.size:=fun k hk=>Nat.lt_of_lt_of_le (HG.out.hx k hk) f2.size
   have NC:=zH (Dv (X:=X) W2 (j:Nat) (.slice gc many kc) (cfN many) IC (by rw[d7];unfold maxLen;omega) hx2 (fun c hc=>absurd hc (bj.no c)));clear CC oc f2 IC hx2 y0;go_wp2_with fail
   (with_reducible refine NC.out.mono ?_);rintro e W3 ⟨hR,f3⟩
   obtain⟨rd,d,q3,rfl,hd,hrd,hxr,hne,hds,hrs⟩:∃rd d q3,e=.returned (.tuple #[.pointer (some ⟨rd,0,none⟩),.int .i64 0])∧DNs (fun c=>X c∨c=d) W3 d (Nd.new (j:Nat) (cfN many)) q3∧RD W3 rd d 0∧¬X rd∧rd≠d∧W2.heap.size≤d∧W2.heap.size≤rd:=by
    rcases hR with⟨hne,_⟩ | ⟨_,rd,d,q3,h⟩
    ·exact mro
    ·exact⟨rd,d,q3,h⟩
   have HH:=zH (And.intro hd (And.intro hrd (And.intro hxr (And.intro hne (And.intro hds hrs)))));have F3:Hid (Fr (fun _ _=>True) wr W3):=F2.out.trans f3;obtain⟨w4,hw4⟩:=zE (W3.alloc (.cells #[.pointer (some ⟨rd,0,none⟩)] 67 (0,0)));have f4:Fr (fun _ _=>True) W3 w4:=hw4▸(Fr.refl _ _).alloc _;have T4:Hid (w4.heap[W3.heap.size]? = some (.cells #[.pointer (some ⟨rd,0,none⟩)] 67 (0,0))):=by show _=_;rw[←hw4];exact bZ _ _
   have F4:=zH (F3.out.trans f4);have G4:=zH f4;have htl:(l.take j).length=j:=by rw[List.length_take,HL.out];have:=HJ.out;omega
   have hDl:D.length=j:=by rw[HD.out.dl,htl]
   have OW:Hid (w4.ownsRow 0 67 1 (.slice g j c) j (D.map fun d=>.pointer (some ⟨d.1,0,none⟩))):=by have:=c_ (bK HD.out.row F4.out fun _ _ _ _=>trivial) (fun _ _=>Nat.zero_le (n:=_));rw[hDl] at this;exact this
   obtain⟨jn,hjn⟩:=zE (j+1);have HJN:=zH hjn;have HDL:=zH hDl;have hjn9:jn≤1000000:=by omega
   clear NC hR hd hrd hxr hne hds hrs f3 f4 htl hDl hjn;go_wp2_with (at_builtin;(try rw[hw4]);refine ky w4 rfl _ _ rfl (.slice g j c) j _ rfl OW W3.heap.size rd rfl T4 jn HJN hjn9 ?_)
   intro g5 c5 W5 O5 F5 N5
   have NEW:Hid (G13 B (fun c=>X c∨c=d) W5 G l [] tk 0 vn (.slice none 0 0) vt∧Dc B (fun c=>X c∨c=d) W5 (l.take jn) (D++[(rd,d)]) (.slice g5 jn c5)∧(∀y∈D++[(rd,d)],∀x∈l,¬x.P y.2)∧Fr (fun c _=>c<B) w W5):=by
    obtain⟨h1,h2,h3,h4,h5,h6⟩:=HH.out;have hB:=HG.out.bs
    have hxw:∀x∈l,∀k,x.P k→X k:=fun x hx k hk=>by obtain⟨q,hq⟩:=HG.out.nd x hx;exact hq.px k hk
    have hs2:=F2.out.size;have hs4:=F4.out.size;have jl:j<l.length:=by rw[HL.out];exact HJ.out
    have et:l.take jn=l.take j++[l[j]]:=by rw[←HJN.out,List.take_succ_eq_append_getElem jl]
    obtain⟨a1,a2⟩:=AT.out j jl;have hb:=cK HD.out.row;have d4:=h1.tt G4.out;have A:Aft X (fun _=>False) (fun c=>X c∨c=d) (fun c=>c=d) wr w4:=⟨F4.out.mono fun _ _ _=>trivial,fun c=>Iff.rfl,fun _ k=>k.elim,fun c k=>.inr (by omega),fun _ k=>k.elim⟩
    have g4:=HG.out.more A d4.hx;have row4:w4.ownsRow B 67 1 (.slice g j c) D.length (D.map fun d=>.pointer (some ⟨d.1,0,none⟩)):=bK HD.out.row F4.out fun _ _ _ _=>trivial
    have rx:∀k,(Value.slice g j c).ownBlock=some k→¬(X k∨k=d):=fun k e q=>by obtain⟨cur,e0⟩:=cZ HD.out.row e;have:=bX e0;exact q.elim (HD.out.xr k e) fun q=>by omega
    have g5':=g4.offrow row4 rx F5.out;have hP2:∀x∈l,¬x.P d:=fun x hx q=>by have:=HG.out.hx _ (hxw x hx _ q);omega
    refine⟨g5',?_,fun y hy x hx=>?_,?_⟩
    ·rw[et];refine HD.out.add (x:=l[j]) HG.out.hx F4.out (by rw[a1];exact d4) (by rw[a2];exact h2.fr G4.out fun _=>trivial) h3 h4 (by omega) (by omega) hB (hxw _ (List.getElem_mem jl)) (fun y hy=>hxw y (List.mem_of_mem_take hy)) (fun y hy=>HP.out y hy _ (List.getElem_mem jl)) F5.out ?_ N5.out;rw[HDL.out,HJN.out];refine c_ O5.out fun k e=>?_
     rcases N5.out with q | ⟨m,q,hm⟩
     ·rw[q] at e;exact hb k e
     ·rw[q] at e;cases e;omega
    ·rcases List.mem_append.1 hy with hy | hy
     ·exact HP.out y hy x hx
     ·rw[List.mem_singleton.1 hy];exact hP2 x hx
    ·exact(HF.out.trans (F4.out.mono fun _ _ _=>trivial)).trans (F5.out.mono fun k _ hk e=>by have:=hb k e;omega)
   clear O5 F5 N5 OW T4 hw4 HH F4 G4;go_wp2;go_roundw
   case rel=>exact⟨jn,_,_,g5,c5,by have:=HJN.out;go_num,by have:=HJN.out;have:=HJ.out;omega,rfl,NEW.out.1,NEW.out.2.1,NEW.out.2.2.1,NEW.out.2.2.2⟩
   case measure=>simp [intOf];have:=HJN.out;have:=HJ.out;omega
  ·obtain rfl:j=many:=by omega
   have hge:¬(j:Int)<(j:Int):=by omega
   clear hlt;go_wp2_with fail
   obtain⟨q1,q2,q3,q4⟩:=NUM.out;have e0:l.take j=l:=List.take_of_length_le (by rw[HL.out];exact Nat.le_refl _);have hD:=HD.out;rw[e0] at hD;exact H1.out _ _ (cw (fun fu=>pl_6 a len cap j q3 b0 off OPSL.out.1 OPSL.out.2 q1 q2 ⟨X,l,[],tk,vn,_,vt,HG.out,hD,EQ0.out⟩ q4 (FrW HF0.out HF.out q4) (fun W f=>FIN.out W (HF.out.trans f)) fu) (by kernel_rfl))
theorem rQ (W:World) (z:Int) (a:Option Addr) (len cap:Nat) (b0 off:Nat) (ha:0<len→a=some ⟨b0,off,none⟩) (hops:∀i,i<len→∃d k:Int,W.cell? ⟨b0,off+i*2,none⟩=some (.int .i64 d)∧W.cell? ⟨b0,off+i*2+1,none⟩=some (.int .i64 k)):
 Calls Tryz.prog 5 #[.int .i64 z,.slice a len cap] W fun e w'=>e=.returned (.bool true)∧Fr (fun c _=>c<W.heap.size) W w':=by
 have AC:=zH (@xj nOld nOldNo W);have LIES:=zH (And.intro ha hops);refine(fun H=>H _ fun W9 f=>⟨rfl,f⟩:(∀R:Ending→World→Prop,(∀W9,Fr (fun c _=>c<W.heap.size) W W9→R (.returned (.bool true)) W9)→Calls Tryz.prog 5 #[.int .i64 z,.slice a len cap] W R)→_) fun R hR=>?_
 have FIN:=zH hR;clear hR ha hops;go_enter Tryz.func5,Tryz.ntmps5
 go_wp2_with fail
 (with_reducible refine AC.out.mono ?_);rintro e w1 ⟨rfl,f1⟩;have F1:=zH f1;clear AC f1;by_cases hz:z<1∨5<z
 ·have BC:=zH (B4 w1 z hz);clear hz;go_wp2_with fail
  (with_reducible refine BC.out.mono ?_);rintro e w4 ⟨rfl,rfl⟩;go_wp2;exact FIN.out _ (F1.out.mono fun _ _ _=>trivial)
 ·obtain⟨many,rfl⟩:=Int.eq_ofNat_of_zero_le (show 0≤z by omega);have BC:=zH (@lq nOld nOldNo w1 many (by omega) (by omega));have HZ:Hid (1≤many∧many≤5):=⟨by omega,by omega⟩
  clear hz;go_wp2_with fail
  (with_reducible refine BC.out.mono ?_);rintro e w4 ⟨G,X,l,tk,vn,vt,rfl,g13,e1,e2,e3,f4⟩;have BO:=zH (And.intro g13 (And.intro e1 (And.intro e2 (And.intro e3 f4))));clear g13 e1 e2 e3 f4 BC;by_cases hlen:200<len
  ·have hI:(200:Int)<(len:Int):=by omega
   clear hlen;go_wp2;exact FIN.out _ ((F1.out.trans BO.out.2.2.2.2).mono fun _ _ _=>trivial)
  ·have hI:¬(200:Int)<(len:Int):=by omega
   have HL:Hid (len≤200):=by show _≤_;omega
   clear hlen;go_upto_region 5 with fail
   rename_i K1 h1;have H1:=zH h1;clear h1;go_wp2_with fail
   refine H1.out _ _ ?_;clear H1;obtain⟨g13,e1,e2,e3,f4⟩:=BO.out;have sz:W.heap.size≤w1.heap.size:=F1.out.size;letI:Old:=nOld;letI:bj:=nOldNo;exact cw (fun fu=>pl_5 (R:=R) a len cap many HL.out b0 off LIES.out.1 LIES.out.2 HZ.out.1 HZ.out.2 g13 e1 e2 e3 sz (F1.out.trans f4) (fun W9 f=>FIN.out _ (((F1.out.trans f4).mono fun _ _ _=>trivial).trans (f.mono fun c _ h=>Nat.lt_of_lt_of_le h sz))) fu) (by kernel_rfl)
theorem raftPlays_walk (W:World) (z:Int) (a:Option Addr) (len cap:Nat) (r1:Rd Tryz.prog W 59 [.slice a len cap]):
 Calls Tryz.prog 5 #[.int .i64 z,.slice a len cap] W fun e w'=>e=.returned (.bool true)∧Below W.heap.size W w':=by
 obtain⟨b0,off,h1,h2⟩:=ops13_at r1;exact(rQ W z a len cap b0 off h1 h2).mono fun e w' ⟨h1,h2⟩=>⟨h1,h2.below (Nat.le_refl _)⟩
end Go.Proofs.YtmjccpfchhnfhaaGreat
