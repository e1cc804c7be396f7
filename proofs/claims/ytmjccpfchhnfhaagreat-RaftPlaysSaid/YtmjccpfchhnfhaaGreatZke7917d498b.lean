/- Texts of the proofs, part 47: what the functions that they reach do, walked; no conditions beyond those that each states. -/
import Derived.Test.YtmjccpfchhnfhaaGreatZk9dc66f5db6
import Derived.Test.YtmjccpfchhnfhaaGreatZk25d7bc022c
set_option linter.unusedVariables false
set_option linter.unusedSimpArgs false
set_option maxRecDepth 100000
set_option maxHeartbeats 8000000
namespace Go.Proofs.YtmjccpfchhnfhaaGreat
open Go.RowKit
theorem mKe {p:Prop} (h:p:=by
 iterate 9
  refine bY.q rfl rfl rfl (kQQ ?_) ?_
  ·intro xs W HF K' hK;obtain⟨c0,c1,cn1⟩:=CC.out W ((Fr.refl (fun _ _=>True) w2).drew.trans HF.out);exact mr9
 exact m36):p:=h
theorem mSx {p:Prop} (h:p:=by
 by_cases e2:d=2
 ·exact .inr (.inr ⟨e,by simpa using e2,by omega⟩)
 ·exact .inr (.inl ⟨e,by simpa using e2,by omega⟩)):p:=h
namespace Gs
def play (s:Gs) (d k:Int):Gs:=
 if k<0∨(d≠2∧(s.ns.length:Int)≤k)∨(d=2∧(s.ms.length:Int)≤k) then s else
 let n:=s.ns.getD k.toNat default
 if d=1 then({ s with ns:=s.ns.set k.toNat n.timeout.1 }:Gs).send n.timeout.2 else
 if d=2 then s.arrive k.toNat else
 if d=3 then s.send n.beat else
 if d=4 then { s with many:=s.many+1,ns:=s.ns.set k.toNat (n.propose 1 [UInt8.ofNat (s.many+1).toNat]).1 } else
 if d=5 then s.take k.toNat else s
end Gs
theorem Nd.timeout_len (n:Nd):n.timeout.2.length≤2*n.conf.length:=by
 have h1:=Nd.askF_len n;have h2:=Nd.beat_len n.askF.1;rw[(Nd.askF_up n).conf] at h2;unfold Nd.timeout;split
 ·exact m3D
 ·split
  ·exact m3D
  ·unfold Nd.led;split
   ·rw[List.length_append];omega
   ·omega
theorem Fx {l:List Rx} {ms:List MV} {tk:List (Value×Nat)} {many:Int} {i:Nat} (hi:i<l.length) {n':Nd} {P':Nat→Prop}:St (l.set i ⟨l[i].b,l[i].rb,n',l[i].ap,P'⟩) ms tk many={ St l ms tk many with ns:=(St l ms tk many).ns.set i n' }:=by
 unfold St;congr 1
 ·rw[List.map_set]
 ·rw[List.map_set];show (l.map (·.ap)).set i (l[i]).ap=l.map (·.ap);exact mMo
section
variable {B:Nat} {X X' P':Nat→Prop} {w w':World} {G:Nat} {l:List Rx} {ms:List MV} {tk:List (Value×Nat)} {many:Int} {vn vm vt:Value}
theorem J0 [Old] [bj] (h:G13 B X w G l ms tk many vn vm vt) (d k:Int) (h0:0<l.length) (hl5:l.length≤16) (Bd:Nat) (hBd:Bd≤80000) (hI:GI Bd (St l ms tk many)) (hmn:0≤many∧many≤100000) (htk:∀x∈tk,x.2≤90000):
 Calls Tryz.prog 43 #[.pointer (some ⟨G,0,none⟩),.agg #[.int .i64 d,.int .i64 k]] w fun e w'=>P5 B w G ((St l ms tk many).play d k) e w':=by
 obtain⟨gm,cm,hvm⟩:=bz h.rm.row;obtain⟨gn,cn,hvn,NC⟩:=h.nrow h0;obtain⟨M,hM⟩:=zE ms.length;obtain⟨N,hN⟩:=zE l.length;have hM5:M≤5000:=by have:=hI.ln;have e:(St l ms tk many).ms.length=ms.length:=List.length_map _;omega
 have HND:Hid (∀x∈l,Gw Bd Bd x.n∧x.ap≤Bd):=fun x hx=>⟨hI.nd _ (List.mem_map.2 ⟨x,hx,rfl⟩),hI.ap _ (List.mem_map.2 ⟨x,hx,rfl⟩)⟩
 have LN:=zH (And.intro hM (And.intro hN (And.intro hM5 (And.intro hl5 hBd))));have HIN:=zH hI;have HTK:=zH htk;have HMN:=zH hmn;rw[hM] at hvm;rw[hN] at hvn h0 hl5;obtain⟨res,hres⟩:=zE ((St l ms tk many).play d k)
 have EQ:Hid (res=if k<0∨(d≠2∧(N:Int)≤k)∨(d=2∧(M:Int)≤k) then St l ms tk many else
  let n:=(St l ms tk many).ns.getD k.toNat default
  if d=1 then({ St l ms tk many with ns:=(St l ms tk many).ns.set k.toNat n.timeout.1 }:Gs).send n.timeout.2 else
  if d=2 then(St l ms tk many).arrive k.toNat else
  if d=3 then(St l ms tk many).send n.beat else
  if d=4 then { St l ms tk many with many:=many+1,ns:=(St l ms tk many).ns.set k.toNat (n.propose 1 [UInt8.ofNat (many+1).toNat]).1 } else
  if d=5 then(St l ms tk many).take k.toNat else St l ms tk many):=by
  show res=_;rw[←hres];have e1:((St l ms tk many).ns.length:Int)=(N:Int):=by show ((l.map (·.n)).length:Int)=_;rw[List.length_map,hN]
  have e2:((St l ms tk many).ms.length:Int)=(M:Int):=by show ((ms.map MV.ms).length:Int)=_;rw[List.length_map,hM]
  unfold Gs.play;rw[e1,e2];rfl
 rw[hres];obtain⟨w1,hw1⟩:=zE (w.alloc (.cells #[.int .i64 d,.int .i64 k] 72 (0,0)));have F1:Hid (Fr (fun _ _=>True) w w1):=hw1▸(Fr.refl _ _).alloc _;have T1:Hid (w1.heap[w.heap.size]? = some (.cells #[.int .i64 d,.int .i64 k] 72 (0,0))):=hw1▸bZ _ _;have o0:=bQ (i:=0) T1.out rfl;have o1:=bQ (i:=1) T1.out rfl;obtain⟨y0,y1,-,-⟩:=h.gcells F1.out;rw[hvn] at y0;rw[hvm] at y1;have hN16:(N:Int)≤16:=by omega
 have hM63:(M:Int)≤5000:=by omega
 have H:=zH h;have HVN:=zH hvn;have NC':=zH NC;have H0:=zH h0;clear h hI hvm hM hN hM5 hl5 hBd hmn htk NC hres hvn h0;by_cases hno:k<0∨(d≠2∧(N:Int)≤k)∨(d=2∧(M:Int)≤k)
 case pos=>
  have OUT:Hid (res=St l ms tk many):=EQ.out.trans (if_pos hno)
  have C3:Hid (k<0∨¬k<0∧(d==2)=false∧(N:Int)≤k∨¬k<0∧(d==2)=true∧(M:Int)≤k):=by
   show _∨_;by_cases e:k<0
   ·exact .inl e
   ·exact mSx
  clear hno EQ;rcases C3.out with d1 | ⟨d1,d2,d3⟩ | ⟨d1,d2,d3⟩
  case' inr.inl=>have d4:(d != 2)=true:=by rw[bne,d2];rfl
  case' inr.inr=>have d4:(d != 2)=false:=by rw[bne,d2];rfl
  all_goals
   clear C3;go_enter Tryz.func43,Tryz.ntmps43
   go_upto_region 1 with fail
   try rw[hw1]
   clear hw1;go_quiet (fail)
   have U:Hid (Fr (fun _ _=>True) w1 (w1.drewN nq)):=(Fr.refl _ w1).drewN nq;go_wp2;go_end0;rw[OUT.out];exact⟨rfl,⟨X,l,ms,tk,many,vn,vm,vt,H.out.tt (F1.out.trans U.out),rfl⟩,(F1.out.trans U.out).mono fun _ _ _=>trivial⟩
 case neg=>
  replace EQ:=zH (EQ.out.trans (if_neg hno));obtain⟨i,rfl⟩:∃i:Nat,k=(i:Nat):=⟨k.toNat,by omega⟩
  have k0:¬((i:Int)<0):=by omega
  have C3:Hid ((d==2)=false∧(d != 2)=true∧¬(N:Int)≤(i:Int)∨(d==2)=true∧(d != 2)=false∧¬(M:Int)≤(i:Int)):=by
   show _∨_;by_cases e2:d=2
   ·exact .inr ⟨by simpa using e2,by simp [e2],by omega⟩
   ·exact .inl ⟨by simpa using e2,by simpa using e2,by omega⟩
  clear hno;have HI64:Hid ((i:Int).toNat=i):=Int.toNat_natCast i;rcases C3.out with⟨d1,d2,d3⟩ | ⟨d1,d2,d3⟩
  case inr=>
   have hd:d=2:=by simpa using d1
   have hiM:i<ms.length:=by have:=LN.out.1;omega
   have OUT:Hid (res=(St l ms tk many).arrive i):=by show res=_;rw[EQ.out];dsimp only;rw[if_neg (by omega),if_pos hd,HI64.out]
   have AC:=zH (fun W (f:Fr (fun _ _=>True) w W)=>m_ (H.out.tt f) i hiM (by have:=H0.out;have:=LN.out.2.1;omega) (by have:=LN.out.2.2.2.1;omega) Bd LN.out.2.2.2.2 HIN.out bj.no);rw[←OUT.out] at AC;subst hd;clear C3 EQ hiM;go_enter Tryz.func43,Tryz.ntmps43
   go_upto_region 1 with fail
   try rw[hw1]
   clear hw1;go_quiet (fail)
   have U:Hid (Fr (fun _ _=>True) w1 (w1.drewN nq)):=(Fr.refl _ w1).drewN nq;generalize w1.drewN nq=w2 at U ⊢;clear o0 o1 y0 y1;have T2:Hid (w2.heap[w.heap.size]? = some (.cells #[.int .i64 2,.int .i64 (i:Nat)] 72 (0,0))):=U.out.keep _ _ T1.out trivial;have o0:=bQ (i:=0) T2.out rfl;have o1:=bQ (i:=1) T2.out rfl;have AC2:=zH (AC.out w2 (F1.out.trans U.out));clear AC;go_wp2_with fail
   (with_reducible refine AC2.out.mono ?_);rintro e w7 ⟨rfl,g7,f7⟩;have G7:=zH (And.intro g7 f7);clear g7 f7 AC2;go_wp2;go_end0;exact⟨rfl,G7.out.1,((F1.out.trans U.out).mono fun _ _ _=>trivial).trans G7.out.2⟩
  case inl=>
   have hd:d≠2:=by simpa using d1
   have hiN:i<N:=by omega
   have HI:Hid (i<l.length):=by have:=LN.out.2.1;show i<l.length;omega
   obtain⟨x,hx⟩:=zE (l[i]'HI.out);have HX:=zH hx;have hxl:x∈l:=hx▸List.getElem_mem HI.out;have GW:=zH (HND.out x hxl).1;have GA:=zH (HND.out x hxl).2;obtain⟨rb,hrb⟩:=zE x.rb;have HRB:=zH hrb
   have e1:(St l ms tk many).ns.getD (i:Int).toNat default=x.n:=by rw[HI64.out];show (l.map (·.n)).getD i default=x.n;rw[List.getD_eq_getElem?_getD,List.getElem?_map,List.getElem?_eq_getElem HI.out];exact congrArg (fun y:Rx=>y.n) hx
   replace EQ:Hid (res=if d=1 then({ St l ms tk many with ns:=(St l ms tk many).ns.set i x.n.timeout.1 }:Gs).send x.n.timeout.2 else
    if d=3 then(St l ms tk many).send x.n.beat else
    if d=4 then { St l ms tk many with many:=many+1,ns:=(St l ms tk many).ns.set i (x.n.propose 1 [UInt8.ofNat (many+1).toNat]).1 } else
    if d=5 then(St l ms tk many).take i else St l ms tk many):=by
    show res=_;rw[EQ.out];dsimp only;rw[e1,HI64.out,if_neg hd]
   have CC0:Hid (∀W,Fr (fun _ _=>True) w W→W.heap[w.heap.size]? = some (.cells #[.int .i64 d,.int .i64 (i:Nat)] 72 (0,0))→W.cell? ⟨G,0,none⟩=some (.slice (some ⟨gn,0,none⟩) N cn)∧W.cell? ⟨w.heap.size,1,none⟩=some (.int .i64 (i:Nat))∧W.cell? ⟨gn,i,none⟩=some (.pointer (some ⟨rb,0,none⟩))):=fun W f t=>by refine⟨by rw[(H.out.gcells f).1,HVN.out],bQ t rfl,?_⟩;rw[(NC'.out W f i HI.out).1,←hrb];exact congrArg (fun y:Rx=>some (Value.pointer (some ⟨y.rb,0,none⟩))) hx
   have HXL:=zH hxl;have hiI:(i:Int)<(N:Int):=by omega
   clear hx hxl hrb e1 C3 hd;go_enter Tryz.func43,Tryz.ntmps43
   go_upto_region 1 with fail
   try rw[hw1]
   clear hw1;go_quiet (fail)
   have U:Hid (Fr (fun _ _=>True) w1 (w1.drewN nq)):=(Fr.refl _ w1).drewN nq;generalize w1.drewN nq=w2 at U ⊢;clear o0 o1 y0 y1;have F2:Hid (Fr (fun _ _=>True) w w2):=F1.out.trans U.out;have T2:Hid (w2.heap[w.heap.size]? = some (.cells #[.int .i64 d,.int .i64 (i:Nat)] 72 (0,0))):=U.out.keep _ _ T1.out trivial;have CC:Hid (∀W,Fr (fun _ _=>True) w2 W→W.cell? ⟨G,0,none⟩=some (.slice (some ⟨gn,0,none⟩) N cn)∧W.cell? ⟨w.heap.size,1,none⟩=some (.int .i64 (i:Nat))∧W.cell? ⟨gn,i,none⟩=some (.pointer (some ⟨rb,0,none⟩))):=fun W f=>CC0.out W (F2.out.trans f) (f.keep _ _ T2.out trivial)
   have o0:=bQ (i:=0) T2.out rfl;have o1:=bQ (i:=1) T2.out rfl;clear CC0 T1;by_cases e1:d=1
   case pos=>
    have OUT:=zH (EQ.out.trans (if_pos e1));subst e1
    have TC:Hid (∀W,Fr (fun _ _=>True) w2 W→Calls Tryz.prog 31 #[.pointer (some ⟨rb,0,none⟩)] W fun e w'=>jq X x.P W x.b x.n.timeout e w'):=fun W f=>by obtain⟨q0,hq0⟩:=H.out.nd x HXL.out;obtain⟨r1,r2,-⟩:=H.out.rb x HXL.out;obtain⟨mN,hme,hm16⟩:=GW.out.me;have:=LN.out.2.2.2.2;have:=GW.out.es;rw[←HRB.out];exact j8 (hq0.tt (F2.out.trans f)) (r1.fr (F2.out.trans f) fun _=>trivial) (fun e=>r2 (hq0.px _ e)) (fun c hc=>absurd hc (bj.no c)) GW.out.cf mN hme hm16 (GW.out.bn.mono (by omega)) (by omega)
    clear EQ;go_wp2_with fail
    clear o0 o1;refine cY (K:=fun _ _=>True) (vt:=.pointer (some ⟨G,0,none⟩)) 0 rfl (by kernel_rfl) (by kernel_rfl) (by kernel_rfl) (fun _ _ _ h=>h) (Or.inl ⟨by rfl,?cfy⟩) (by kernel_rfl) [(41,0),(42,1),(43,2),(44,3),(45,4),(46,5),(47,6),(48,7),(49,8),(50,9),(51,10)] [(0,[]),(1,[]),(2,[1]),(3,[2]),(4,[3]),(5,[]),(6,[5]),(7,[4,6]),(8,[7])] (ckR [(0,.pointer (some ⟨G,0,none⟩)),(1,.pointer (some ⟨G,0,none⟩)),(2,.pointer (some ⟨G,0,none⟩)),(3,.pointer (some ⟨G,0,none⟩)),(4,.slice (some ⟨gn,0,none⟩) N cn),(5,.pointer (some ⟨w.heap.size,1,none⟩)),(6,.int .i64 (i:Nat)),(7,.pointer (some ⟨gn,i,none⟩)),(8,.pointer (some ⟨rb,0,none⟩))] [] 9 0) 2 (by kernel_rfl) (by kernel_rfl) (by kernel_rfl) rfl (fun _=>rfl) (by rfl) 41 rfl (by simp) ?cfall ?cfend
    case cfy=>(intro w;(try simp only[gA,gB,gC]);go_simp)
    case cfall=>exact mKe
    case cfend=>
     refine kEE ?_;intro xs W HF;have FW:Hid (Fr (fun _ _=>True) w2 W):=(Fr.refl _ w2).drew.trans HF.out;have C:=zH (TC.out W FW.out);refine wpN 9 rfl fun K' hK=>?_
     (try simp only[gA,gB,gC]);go_simp;(with_reducible refine C.out.mono ?_);rintro e w6 ⟨X6,P6,q6,v6,mvs,rfl,h6,a6,o6,e6⟩;have HH:=zH (And.intro h6 (And.intro o6 e6));have A6:Hid (Aft X x.P X6 P6 w w6):=.lead (F2.out.trans FW.out) a6;clear h6 a6 o6 e6 C TC;refine hK.out _ _ ?_;clear hK K';have h6t:PN X6 P6 w6 (l[i]'HI.out).b (x.n.timeout).1:=by rw[HX.out];exact⟨q6,HH.out.1⟩
     have G6:=H.out.turn i HI.out h6t (by rw[HX.out];exact A6.out)
     have lb:mvs.length≤100000:=by have e:=congrArg List.length HH.out.2.2;rw[List.length_map] at e;rw[e];exact Nat.le_trans (Nd.timeout_len _) (by have:=GW.out.cf.2;omega)
     have SD:=zH (sw G6 HH.out.2.1 (by have:=LN.out;omega) lb)
     have ES:Hid ((St (l.set i ⟨(l[i]'HI.out).b,(l[i]'HI.out).rb,(x.n.timeout).1,(l[i]'HI.out).ap,P6⟩) ms tk many).send (mvs.map MV.ms)=res):=by show _=res;rw[OUT.out,HH.out.2.2,Fx HI.out]
     have FB6:Hid (Fr (fun c _=>c<B) w w6):=H.out.frB A6.out;rw[ES.out] at SD;clear G6 lb h6t;refine wpN 10 rfl fun K' hK=>?_
     (try simp only[gA,gB,gC]);go_simp;(with_reducible refine SD.out.mono ?_);rintro e w7 ⟨rfl,g7,f7⟩;have G7:=zH (And.intro g7 f7);clear g7 f7 SD;refine hK.out _ _ ?_;clear hK K';refine wpF ?_;go_wp2;go_end0;exact⟨rfl,G7.out.1,FB6.out.trans G7.out.2⟩
   case neg=>
    have g1:(d==1)=false:=by simpa using e1
    replace EQ:=zH (EQ.out.trans (if_neg e1));clear e1;by_cases e3:d=3
    case pos=>
     have OUT:=zH (EQ.out.trans (if_pos e3));subst e3
     have BC:Hid (∀W,Fr (fun _ _=>True) w2 W→Calls Tryz.prog 35 #[.pointer (some ⟨rb,0,none⟩)] W fun e w'=>jj X W x.n.beat e w'):=fun W f=>by obtain⟨q0,hq0⟩:=H.out.nd x HXL.out;obtain⟨r1,r2,-⟩:=H.out.rb x HXL.out;have:=LN.out.2.2.2.2;have:=GW.out.es;have:=GW.out.bn.last;rw[←HRB.out];exact kW (hq0.tt (F2.out.trans f)) (r1.fr (F2.out.trans f) fun _=>trivial) ⟨GW.out.cf.1,by have:=GW.out.cf.2;omega⟩ (fun y hy=>by have:=GW.out.bn.nx y hy;omega) (by omega) (by omega)
     clear EQ;go_wp2_with fail
     clear o0 o1;refine cY (K:=fun _ _=>True) (vt:=.pointer (some ⟨G,0,none⟩)) 0 rfl (by kernel_rfl) (by kernel_rfl) (by kernel_rfl) (fun _ _ _ h=>h) (Or.inl ⟨by rfl,?cfy⟩) (by kernel_rfl) [(60,0),(61,1),(62,2),(63,3),(64,4),(65,5),(66,6),(67,7),(68,8),(69,9),(70,10)] [(0,[]),(1,[]),(2,[1]),(3,[2]),(4,[3]),(5,[]),(6,[5]),(7,[4,6]),(8,[7])] (ckR [(0,.pointer (some ⟨G,0,none⟩)),(1,.pointer (some ⟨G,0,none⟩)),(2,.pointer (some ⟨G,0,none⟩)),(3,.pointer (some ⟨G,0,none⟩)),(4,.slice (some ⟨gn,0,none⟩) N cn),(5,.pointer (some ⟨w.heap.size,1,none⟩)),(6,.int .i64 (i:Nat)),(7,.pointer (some ⟨gn,i,none⟩)),(8,.pointer (some ⟨rb,0,none⟩))] [] 9 0) 2 (by kernel_rfl) (by kernel_rfl) (by kernel_rfl) rfl (fun _=>rfl) (by rfl) 60 rfl (by simp) ?cfall ?cfend
     case cfy=>(intro w;(try simp only[gA,gB,gC]);go_simp)
     case cfall=>exact mKe
     case cfend=>
      refine kEE ?_;intro xs W HF;have FW:Hid (Fr (fun _ _=>True) w2 W):=(Fr.refl _ w2).drew.trans HF.out;have C:=zH (BC.out W FW.out);refine wpN 9 rfl fun K' hK=>?_
      (try simp only[gA,gB,gC]);go_simp;(with_reducible refine C.out.mono ?_);rintro e w6 ⟨⟨v6,mvs,rfl,o6,e6⟩,f6⟩;have HH:=zH (And.intro o6 e6);have F6:Hid (Fr (fun _ _=>True) w w6):=F2.out.trans (FW.out.trans f6);clear o6 e6 f6 C BC;refine hK.out _ _ ?_;clear hK K'
      have lb:mvs.length≤100000:=by have e:=congrArg List.length HH.out.2;rw[List.length_map] at e;rw[e];exact Nat.le_trans (Nd.beat_len _) (by have:=GW.out.cf.2;omega)
      have SD:=zH (sw (H.out.tt F6.out) HH.out.1 (by have:=LN.out;omega) lb)
      have ES:Hid ((St l ms tk many).send (mvs.map MV.ms)=res):=by show _=res;rw[OUT.out,HH.out.2]
      rw[ES.out] at SD;clear lb;refine wpN 10 rfl fun K' hK=>?_
      (try simp only[gA,gB,gC]);go_simp;(with_reducible refine SD.out.mono ?_);rintro e w7 ⟨rfl,g7,f7⟩;have G7:=zH (And.intro g7 f7);clear g7 f7 SD;refine hK.out _ _ ?_;clear hK K';refine wpF ?_;go_wp2;go_end0;exact⟨rfl,G7.out.1,(F6.out.mono fun _ _ _=>trivial).trans G7.out.2⟩
    case neg=>
     have g3:(d==3)=false:=by simpa using e3
     replace EQ:=zH (EQ.out.trans (if_neg e3));clear e3;by_cases e4:d=4
     case pos=>
      have OUT0:=zH (EQ.out.trans (if_pos e4));subst e4;obtain⟨m1,hm1⟩:∃m1:Nat,many+1=(m1:Nat):=⟨(many+1).toNat,by have:=HMN.out;omega⟩
      have hm9:m1≤100001:=by have:=HMN.out;omega
      have wm:IntKind.i64.wrap (many+1)=((m1:Nat):Int):=by rw[IntKind.wrap_i64];omega
      obtain⟨b8,hb8⟩:=zE (UInt8.ofNat m1)
      have WB8:Hid (IntKind.u8.wrap ((m1:Nat):Int)=((b8.toNat:Nat):Int)):=by show _=_;rw[←hb8,UInt8.toNat_ofNat',IntKind.wrap_u8];omega
      have OUT:Hid (res={ St l ms tk ((m1:Nat):Int) with ns:=(St l ms tk ((m1:Nat):Int)).ns.set i (x.n.propose 1 [b8]).1 }):=by show res=_;rw[OUT0.out,hm1,Int.toNat_natCast,hb8];rfl
      have G2:=zH (H.out.tt F2.out);obtain⟨w4,hw4⟩:=zE (w2.setCell ⟨G,3,none⟩ (.int .i64 ((m1:Nat):Int)));obtain⟨GC,f4⟩:=G2.out.count _ hw4;have G4:=zH GC;have F4:=zH f4;have g5:=(G2.out.gcells (Fr.refl _ w2)).2.2.2;have z5:w2.frozen? ⟨G,3,none⟩=false:=bV G2.out.top;have F4B:Hid (Fr (fun c _=>c<B) w w4):=(F2.out.mono fun _ _ _=>trivial).trans (f4.mono fun q _ hq e=>by have:=H.out.lg;have hq':q<B:=hq;omega);have gne:Hid (w.heap.size≠G):=by have:=bX H.out.top;show _≠_;omega
      have CC4:Hid (∀W,Fr (fun _ _=>True) w4 W→W.cell? ⟨G,0,none⟩=some (.slice (some ⟨gn,0,none⟩) N cn)∧W.cell? ⟨w.heap.size,1,none⟩=some (.int .i64 (i:Nat))∧W.cell? ⟨G,3,none⟩=some (.int .i64 (m1:Nat))∧W.cell? ⟨gn,i,none⟩=some (.pointer (some ⟨rb,0,none⟩))):=fun W f=>by obtain⟨b0,-,-,b3⟩:=G4.out.gcells f;rw[HVN.out] at b0;obtain⟨gn',cn',hv',NC4⟩:=G4.out.nrow (by have:=HI.out;omega);rw[HVN.out] at hv';cases hv';refine⟨b0,bQ (f.keep _ _ (F4.out.keep _ _ T2.out gne.out) trivial) rfl,b3,?_⟩;rw[(NC4 W f i HI.out).1,←HRB.out];exact congrArg (fun y:Rx=>some (Value.pointer (some ⟨y.rb,0,none⟩))) HX.out
      have PX:Hid (∀q,x.P q→X q):=fun q hq=>by obtain⟨q0,hq0⟩:=H.out.nd x HXL.out;exact hq0.px q hq
      have PC:Hid (∀W,Fr (fun _ _=>True) w4 W→∀g9,BytesAt (RO X) W (.slice (some ⟨g9,0,none⟩) [b8].length 1) [b8]→Calls Tryz.prog 36 #[.pointer (some ⟨rb,0,none⟩),.int .i64 1,.slice (some ⟨g9,0,none⟩) 1 1] W fun e w'=>POut X x.P W x.b (x.n.propose 1 [b8]) e w'):=fun W f g9 ba=>by obtain⟨q0,hq0⟩:=G4.out.nd x HXL.out;obtain⟨r1,r2,-⟩:=G4.out.rb x HXL.out;obtain⟨mN,hme,hm16⟩:=GW.out.me;have:=LN.out.2.2.2.2;have:=GW.out.es;have:=GW.out.bn.last;rw[←HRB.out];exact kQ (hq0.tt f) (r1.fr f fun _=>trivial) 1 (some ⟨g9,0,none⟩) 1 [b8] ba GW.out.cf (fun y hy=>(GW.out.pos y hy).1) mN hme hm16 (by omega) (by omega)
      clear EQ OUT0 hm1 hb8 GC f4 hm9 CC;go_wp2_with fail
      try rw[hw4]
      clear o0 o1 hw4 wm g5 z5;refine wpR [(81,0),(82,1),(83,2),(84,3),(85,4),(86,5),(87,6),(88,7),(89,8),(90,9),(91,10),(92,11),(93,12),(94,13),(95,14),(80,15),(96,16),(97,17)] [(0,[]),(1,[0]),(2,[1]),(3,[2]),(4,[]),(5,[4]),(6,[3,5]),(7,[6]),(8,[]),(9,[8]),(10,[9]),(11,[10]),(12,[11]),(13,[12])] (ckR [(0,.pointer (some ⟨G,0,none⟩)),(1,.pointer (some ⟨G,0,none⟩)),(2,.pointer (some ⟨G,0,none⟩)),(3,.slice (some ⟨gn,0,none⟩) N cn),(4,.pointer (some ⟨w.heap.size,1,none⟩)),(5,.int .i64 (i:Nat)),(6,.pointer (some ⟨gn,i,none⟩)),(7,.pointer (some ⟨rb,0,none⟩)),(8,.pointer (some ⟨G,0,none⟩)),(9,.pointer (some ⟨G,0,none⟩)),(10,.pointer (some ⟨G,3,none⟩)),(11,.int .i64 (m1:Nat)),(12,.int .u8 (b8.toNat:Nat))] [(13,⟨fun v W=>∃g,v=.slice (some ⟨g,0,none⟩) 1 1∧W.heap[g]? = some (.cells #[.int .u8 (b8.toNat:Nat)] 5 (0,0))∧w4.heap.size≤g,fun v W W' h hf=>by obtain⟨g,h1,h2,h3⟩:=h;exact⟨g,h1,hf.keep _ _ h2 trivial,h3⟩⟩)] 14 0) 4 rfl ?cfall ?cfend
      case cfall=>
       iterate 12
        refine bY.q rfl rfl rfl (kQQ ?_) ?_
        ·intro xs W HF K' hK;obtain⟨c0,c1,c3,cn1⟩:=CC4.out W ((Fr.refl (fun _ _=>True) w4).drew.trans HF.out);exact mr9
       refine bY.p rfl rfl (kPP ?_) ?_
       ·intro xs W HF K' hK;obtain⟨c0,c1,c3,cn1⟩:=CC4.out W ((Fr.refl (fun _ _=>True) w4).drew.trans HF.out);have wb1:=WB8.out;(try simp only[gA,gB,gC]);exact m52
       refine bY.p rfl rfl (kPP ?_) ?_
       ·intro xs W HF K' hK;have SB:Hid (w4.heap.size≤W.heap.size):=((Fr.refl (fun _ _=>True) w4).drew.trans HF.out).size;exact mIK
       exact m36
      case cfend=>
       refine kEH ?_;intro xs W HF hA;have h13:=hA (13,[12]) (by decide);clear hA;obtain⟨g9,e13,t9,hg9⟩:=h13;rw[e13];clear e13;have FW:Hid (Fr (fun _ _=>True) w4 W):=(Fr.refl _ w4).drew.trans HF.out
       have BA:BytesAt (RO X) W (.slice (some ⟨g9,0,none⟩) [b8].length 1) [b8]:=⟨_,1,rfl,Nat.le_refl _,(fun e=>by cases e),.inr ⟨g9,0,_,rfl,t9,⟨fun hx=>by have:=G4.out.hx _ hx;omega,.inr ⟨_,_,_,rfl,by decide⟩⟩,fun i hi=>by
        have:i=0:=by have:i<1:=hi;omega
        subst this;exact bQ t9 rfl⟩⟩
       have C:=zH (PC.out W FW.out g9 BA);clear t9 hg9 BA PC;refine wpN 14 rfl fun K' hK=>?_
       (try simp only[gA,gB,gC]);go_simp;(with_reducible refine C.out.mono ?_);rintro e w6 ⟨⟨q6,rfl,h6⟩,f6⟩;have HH:=zH (And.intro h6 f6);clear h6 f6 C;refine hK.out _ _ ?_;clear hK K';refine wpN 15 rfl fun K' hK=>?_
       (try simp only[gA,gB,gC]);go_simp;refine hK.out _ _ ?_;clear hK K';refine dw 16 17 (by kernel_rfl) rfl rfl ?fa ?fb
       case' fa=>
        intro K' hK;(try simp only[gA,gB,gC]);go_simp;refine hK.out _ _ ?_;clear hK K';refine wpN 17 rfl fun K' hK=>?_
        (try simp only[gA,gB,gC]);go_simp;refine hK.out _ _ ?_;clear hK K';refine wpF ?_
       case' fb=>
        intro K' hK;(try simp only[gA,gB,gC]);go_simp;refine hK.out _ _ ?_;clear hK K';refine wpN 16 rfl fun K' hK=>?_
        (try simp only[gA,gB,gC]);go_simp;refine hK.out _ _ ?_;clear hK K';refine wpF ?_
       all_goals
        have a6:Aft X x.P X x.P w4 w6:=.of ((FW.out.mono fun _ _ _=>trivial).trans HH.out.2) PX.out;have h6t:PN X x.P w6 (l[i]'HI.out).b (x.n.propose 1 [b8]).1:=by rw[HX.out];exact⟨q6,HH.out.1⟩
        have G6:=zH (G4.out.turn i HI.out h6t (by rw[HX.out];exact a6));have FB6:Hid (Fr (fun c _=>c<B) w w6):=F4B.out.trans (G4.out.frB a6);clear a6 h6t;go_wp2;go_end0;rw[OUT.out,←Fx HI.out];exact⟨rfl,⟨X,_,ms,tk,_,vn,vm,vt,G6.out,rfl⟩,FB6.out⟩
     case neg=>
      have g4:(d==4)=false:=by simpa using e4
      replace EQ:=zH (EQ.out.trans (if_neg e4));clear e4;by_cases e5:d=5
      case pos=>
       have OUT:=zH (EQ.out.trans (if_pos e5));subst e5
       have TC:Hid (Calls Tryz.prog 80 #[.pointer (some ⟨G,0,none⟩),.int .i64 (i:Nat)] w2 fun e w'=>P5 B w2 G res e w'):=by rw[OUT.out];have hxe:l[i]'HI.out=x:=HX.out;have:=LN.out.2.2.2.2;have:=GW.out.bn.last;have:=GW.out.bn.commit;have:=GA.out;exact sY (H.out.tt F2.out) i HI.out (by rw[hxe];omega) (by rw[hxe];omega) (by rw[hxe];unfold Lg.last at *;omega) (by rw[hxe];omega) HTK.out (by have:=LN.out.2.2.2.1;omega)
       clear EQ CC;go_wp2_with fail
       (with_reducible refine TC.out.mono ?_);rintro e w7 ⟨rfl,g7,f7⟩;have G7:=zH (And.intro g7 f7);clear g7 f7 TC;go_wp2;go_end0;exact⟨rfl,G7.out.1,(F2.out.mono fun _ _ _=>trivial).trans G7.out.2⟩
      case neg=>
       have g5:(d==5)=false:=by simpa using e5
       have OUT:=zH (EQ.out.trans (if_neg e5));clear e5 EQ CC;go_wp2;go_end0;rw[OUT.out];exact⟨rfl,⟨X,l,ms,tk,many,vn,vm,vt,H.out.tt F2.out,rfl⟩,F2.out.mono fun _ _ _=>trivial⟩
end
theorem mR4 {p:Prop} (h:p:=by
 generalize s.ns.getD k.toNat default=n at hg;have hl:=Nd.beat_len n;have:=hg.cf.2;exact(h.send (Nd.beat_b hg.bn) Nd.beat_d (by omega)).mono (by omega)):p:=h
theorem mU1 {p:Prop} (h:p:=by
 have hk:k.toNat<s.ns.length:=by omega
 have hg:=h.nd hk;generalize s.ns.getD k.toNat default=n at hg;have hs:=Nd.timeout_gw (hg.gd (Nat.le_refl _));have hl:=Nd.timeout_len n;have:=hg.cf.2;exact((h2.node (hg.ofGd hs.1 (Nd.timeout_conf n))).send hs.2.1 hs.2.2 (by omega)).mono (by omega)):p:=h
def Dat (l:List Ms):Prop:=∀x∈l,x.data=[]
theorem Dat.nil:Dat []:=fun _ h=>by cases h
theorem Dat.one {m:Ms} (h:m.data=[]):Dat [m]:=fun x hx=>by rw[List.mem_singleton.1 hx];exact h
theorem Dat.app {a b:List Ms} (ha:Dat a) (hb:Dat b):Dat (a++b):=fun x hx=>by
 rcases List.mem_append.1 hx with h | h
 ·exact ha x h
 ·exact hb x h
namespace Nd
variable {n:Nd} {m:Ms}
theorem MW (h:m.data=[]):Dat (n.toAll m):=fun x hx=>by
 obtain⟨y,-,rfl⟩:=List.mem_map.1 hx;exact h
theorem askT_d:Dat n.askT.2:=by
 unfold askT;split
 ·dsimp only;split
  ·exact Dat.nil
  ·exact MW rfl
 ·exact Dat.nil
theorem askF_d:Dat n.askF.2:=by
 unfold askF;split
 ·dsimp only;split
  ·exact askT_d
  ·exact MW rfl
 ·exact Dat.nil
theorem chosen_d:Dat n.chosen.2:=by
 unfold chosen;split
 ·exact askT_d
 ·exact Dat.nil
theorem onAsk_d:Dat (n.onAsk m).2:=by
 unfold onAsk;split
 ·exact Dat.one rfl
 ·exact Dat.nil
theorem J5:Dat (n.onAnswer m).2:=by
 unfold onAnswer;split
 ·dsimp only;generalize (if n.tm<m.tm∧(m.ok=false∨m.kind=2) then n.follow m.tm (-1) else n)=n1;split
  ·split
   ·exact chosen_d
   ·exact Dat.nil
  ·exact Dat.nil
 ·exact Dat.nil
theorem GX (x:Int):Dat (n.sendTo x):=by
 unfold sendTo;split
 ·exact Dat.nil
 ·exact Dat.one rfl
theorem beat_d:Dat n.beat:=fun x hx=>by
 obtain⟨y,-,hy⟩:=List.mem_flatMap.1 hx;exact GX y x hy
theorem taken_d:Dat (n.taken m).2:=by
 unfold taken;split
 ·exact Dat.one rfl
 ·exact Dat.one rfl
theorem J4:Dat (n.onAppend m).2:=by
 unfold onAppend;split
 ·exact Dat.nil
 ·split
  ·exact Dat.one rfl
  ·exact taken_d
theorem NQ:Dat (n.onAcked m).2:=by
 unfold onAcked;split
 ·exact Dat.nil
 ·split
  ·exact Dat.nil
  ·split
   ·exact Dat.nil
   ·split
    ·exact Dat.nil
    ·exact GX _
theorem hear_d:Dat (n.hear m).2:=((onAsk_d.app J5).app J4).app NQ
theorem led_d {r:Nd×List Ms} (h:Dat r.2):Dat (n.led r).2:=by
 unfold led;split
 ·exact h.app beat_d
 ·exact h
theorem led_b {B:Nat} {r:Nd×List Ms} (h:Bn B r.1) (hm:∀x∈r.2,Bm B x):∀x∈(n.led r).2,Bm B x:=by
 unfold led;split
 ·exact fun x hx=>(List.mem_append.1 hx).elim (hm x) (beat_b h x)
 ·exact hm
theorem step_gw {B:Nat} (h:Gd B n) (hm:Bm B m):Gd (B+2) (n.step m).1.1∧(∀x∈(n.step m).1.2,Bm (B+2) x)∧Dat (n.step m).1.2:=by
 have hb:=hear_b h.bn hm;have y1:=onAsk_y (m:=m) h.ye;have y2:=onAnswer_y (m:=m) y1;have y3:=onAppend_y (m:=m) y2;have y4:(n.hear m).1.yes.length≤B+1:=onAcked_y (m:=m) y3;unfold step;split
 ·exact⟨h.mono (by omega),fun x hx=>(by cases hx),Dat.nil⟩
 ·show Gd (B+2) (n.led (n.hear m)).1∧(∀x∈(n.led (n.hear m)).2,Bm (B+2) x)∧Dat (n.led (n.hear m)).2;rw[led_y];exact⟨h.up (hear_up _ _) hb.1 (by omega),led_b hb.1 hb.2,led_d hear_d⟩
theorem timeout_gw {B:Nat} (h:Gd B n):Gd (B+2) n.timeout.1∧(∀x∈n.timeout.2,Bm (B+2) x)∧Dat n.timeout.2:=by
 have hb:=askF_b h.bn;have y:=askF_y h.ye;unfold timeout;split
 ·exact⟨h.mono (by omega),fun x hx=>(by cases hx),Dat.nil⟩
 ·split
  ·have bx:=h.bn.mono (show B≤B+2 by omega);exact⟨⟨⟨bx.tm,bx.commit,bx.last,bx.n16,bx.m16,bx.nx,bx.mt⟩,h.me,h.cf,h.pos,Nat.le_trans h.ye (by omega)⟩,fun x hx=>(by cases hx),Dat.nil⟩
  ·rw[led_y];exact⟨h.up (askF_up _) (hb.1.mono (by omega)) (by omega),led_b (hb.1.mono (by omega)) fun x hx=>(hb.2 x hx).mono (by omega),led_d askF_d⟩
theorem step_conf (n:Nd) (m:Ms):(n.step m).1.1.conf=n.conf:=by
 unfold step;split
 ·rfl
 ·show (n.led (n.hear m)).1.conf=_;rw[led_y];exact(hear_up _ _).conf
theorem timeout_conf (n:Nd):n.timeout.1.conf=n.conf:=by
 unfold timeout;split
 ·rfl
 ·split
  ·rfl
  ·rw[led_y];exact(askF_up _).conf
end Nd
theorem Gw.gd {B E:Nat} {n:Nd} (h:Gw B E n) (he:E≤B):Gd B n:=⟨h.bn,h.me,h.cf,fun x hx=>(h.pos x hx).1,Nat.le_trans h.ye he⟩
theorem Gw.ofGd {B B':Nat} {n n':Nd} (h:Gw B B n) (g:Gd B' n') (hc:n'.conf=n.conf):Gw B' B' n':=⟨g.bn,g.es,g.ye,g.me,g.cf,by rw[hc];exact h.pos⟩
structure GJ (B:Nat) (s:Gs):Prop where
 gi:GI B s
 n0:0<s.ns.length
 n5:s.ns.length≤16
 la:s.aps.length=s.ns.length
 lt:s.tl.length=s.ns.length
 mn:0≤s.many∧s.many≤(B:Int)
 tk:∀i,s.tl.getD i 0≤s.aps.getD i 0
namespace GJ
variable {B:Nat} {s:Gs}
theorem mono {B':Nat} (h:GJ B s) (hb:B≤B'):GJ B' s:=
 ⟨⟨fun n hn=>(h.gi.nd n hn).mono hb hb,fun a ha=>Nat.le_trans (h.gi.ap a ha) hb,fun m hm=>⟨(h.gi.ms m hm).1.mono hb,(h.gi.ms m hm).2⟩,h.gi.ln⟩,h.n0,h.n5,h.la,h.lt,⟨h.mn.1,by have:=h.mn.2;omega⟩,h.tk⟩
theorem send (h:GJ B s) {l:List Ms} (hl:∀m∈l,Bm B m) (hd:Dat l) (hn:l.length≤40):GJ B (s.send l):=by
 unfold Gs.send;split
 ·exact⟨⟨h.gi.nd,h.gi.ap,fun m hm=>(List.mem_append.1 hm).elim (h.gi.ms m) fun hm=>⟨hl m hm,hd m hm⟩,by show (s.ms++l).length≤_;rw[List.length_append];omega⟩,h.n0,h.n5,h.la,h.lt,h.mn,h.tk⟩
 ·exact h
theorem node (h:GJ B s) {i:Nat} {n':Nd} (hg:Gw B B n'):GJ B { s with ns:=s.ns.set i n' }:=
 ⟨⟨fun n hn=>(List.mem_or_eq_of_mem_set hn).elim (h.gi.nd n) fun e=>e▸hg,h.gi.ap,h.gi.ms,h.gi.ln⟩,by show 0<(s.ns.set i n').length;rw[List.length_set];exact h.n0,by show (s.ns.set i n').length≤_;rw[List.length_set];exact h.n5,by show _=(s.ns.set i n').length;rw[List.length_set];exact h.la,by show _=(s.ns.set i n').length;rw[List.length_set];exact h.lt,h.mn,h.tk⟩
theorem getD_mem {α:Type} {l:List α} {i:Nat} {d:α} (hi:i<l.length):l.getD i d∈l:=by
 rw[List.getD_eq_getElem?_getD,List.getElem?_eq_getElem hi];exact List.getElem_mem hi
theorem nd (h:GJ B s) {i:Nat} (hi:i<s.ns.length):Gw B B (s.ns.getD i default):=h.gi.nd _ (getD_mem hi)
theorem arrive (h:GJ B s) (k:Nat) (hk:k<s.ms.length):GJ (B+3) (s.arrive k):=by
 unfold Gs.arrive;dsimp only;split
 ·exact h.mono (by omega)
 ·rename_i hd;obtain⟨hm,-⟩:=h.gi.ms _ (getD_mem (d:=zMs) hk);have hg:=h.nd (i:=(s.ms.getD k zMs).dst.toNat) (by omega);generalize s.ns.getD (s.ms.getD k zMs).dst.toNat default=n at hg;generalize s.ms.getD k zMs=m at hm;have hs:=Nd.step_gw (hg.gd (Nat.le_refl _)) hm;have hc:=Nd.step_conf n m;have hl:=Nd.step_len n m;have:=hg.cf.2;exact((h.mono (show B≤B+2 by omega)).node (hg.ofGd hs.1 hc) |>.send hs.2.1 hs.2.2 (by omega)).mono (by omega)
theorem set_getD {l:List Nat} {i j y:Nat}:(l.set i y).getD j 0=if i=j∧i<l.length then y else l.getD j 0:=by
 rw[List.getD_eq_getElem?_getD,List.getElem?_set,List.getD_eq_getElem?_getD];by_cases e:i=j
 ·subst e;by_cases hi:i<l.length
  ·simp [hi]
  ·simp [hi]
 ·simp [e]
theorem take (h:GJ B s) (i:Nat) (hi:i<s.ns.length):GJ B (s.take i):=by
 have hc:=(h.nd hi).bn.commit;have ha:s.aps.getD i 0≤B:=h.gi.ap _ (getD_mem (by rw[h.la];exact hi));refine⟨⟨h.gi.nd,fun a hm=>?_,h.gi.ms,h.gi.ln⟩,h.n0,h.n5,by show (s.aps.set _ _).length=_;rw[List.length_set];exact h.la,by show (s.tl.set _ _).length=_;rw[List.length_set];exact h.lt,h.mn,fun j=>?_⟩
 ·rcases List.mem_or_eq_of_mem_set hm with q | q
  ·exact h.gi.ap a q
  ·omega
 ·show (s.tl.set _ _).getD j 0≤(s.aps.set _ _).getD j 0;rw[set_getD,set_getD,h.la,h.lt];have h1:=h.tk i;have h2:=h.tk j;split
  ·omega
  ·exact h2
theorem count (h:GJ B s):GJ (B+1) { s with many:=s.many+1 }:=by
 have h1:=h.mono (show B≤B+1 by omega);exact⟨⟨h1.gi.nd,h1.gi.ap,h1.gi.ms,h1.gi.ln⟩,h1.n0,h1.n5,h1.la,h1.lt,⟨by show 0≤s.many+1;have:=h.mn.1;omega,by show s.many+1≤_;have:=h.mn.2;omega⟩,h1.tk⟩
theorem play (h:GJ B s) (d k:Int):GJ (B+3) (s.play d k):=by
 unfold Gs.play;split
 ·exact h.mono (by omega)
 ·rename_i hn;dsimp only;have h2:=h.mono (show B≤B+2 by omega);split
  ·exact mU1
  ·split
   ·exact h.arrive _ (by omega)
   ·have hk:k.toNat<s.ns.length:=by omega
    have hg:=h.nd hk;split
    ·exact mR4
    ·split
     ·generalize s.ns.getD k.toNat default=n at hg;have hb:=Nd.propose_b hg.bn 1 [UInt8.ofNat (s.many+1).toNat];have y:(n.propose 1 [UInt8.ofNat (s.many+1).toNat]).1.yes.length≤B+1:=by rw[Nd.propose_y];have:=hg.ye;omega
      have hu:=Nd.propose_up n 1 [UInt8.ofNat (s.many+1).toNat];exact(h.count.node (hg.ofGd ((hg.gd (Nat.le_refl _)).up hu hb y) hu.conf)).mono (by omega)
     ·split
      ·exact(h.take _ hk).mono (by omega)
      ·exact h.mono (by omega)
end GJ
def Gs.rest:Nat→Gs→Nat→Gs×Bool
 | 0,s,k=>(s,decide (s.ms.length≤k))
 | fu+1,s,k=>if s.ms.length≤k then(s,true) else Gs.rest fu (s.arrive k) (k+1)
theorem GJ.rest {B:Nat}:∀(fu:Nat) {B':Nat} {s:Gs} (k:Nat),GJ B' s→B'+3*fu≤B→GJ B (Gs.rest fu s k).1
 | 0,B',s,k,h,hb=>h.mono (by omega)
 | fu+1,B',s,k,h,hb=>by
  unfold Gs.rest;split
  ·exact h.mono (by omega)
  ·exact GJ.rest fu (k+1) (h.arrive k (by omega)) (by omega)
theorem kDa {p q:Prop} (k:q) (h:q→p:=by
 have e1:(St l ms tk many).ns.length=l.length:=List.length_map _;intro kk0;revert e1;exact kk0):p:=h k
theorem m4b {p:Prop} (h:p:=by
 rw[List.getD_eq_getElem?_getD,List.getElem?_map,List.getElem?_eq_getElem hi];rfl):p:=h
theorem mUd {p:Prop} (h:p:=by
 clear hn;go_wp2;go_ret;exact⟨by rw[hE.out];rfl,by rw[hE.out];exact H1.out,HF1.out⟩):p:=h
theorem Gs.arrive_len (s:Gs) (k:Nat):s.ms.length≤(s.arrive k).ms.length:=by
 unfold Gs.arrive;dsimp only;split
 ·exact mU2
 ·unfold Gs.send;split
  ·dsimp only;rw[List.length_append];omega
  ·exact mU2
section
variable {B:Nat} {w w':World} {G:Nat} {s:Gs}
theorem Gr13.arrive [Old] [bj] (h:Gr13 B w G s) {Bd:Nat} (hj:GJ Bd s) (hb:Bd≤80000) (k:Nat) (hk:k<s.ms.length):Calls Tryz.prog 93 #[.pointer (some ⟨G,0,none⟩),.int .i64 (k:Nat)] w fun e w'=>P5 B w G (s.arrive k) e w':=by
 obtain⟨X,l,ms,tk,many,vn,vm,vt,h,rfl⟩:=h;refine kDa ?_;intro e1;have e2:(St l ms tk many).ms.length=ms.length:=List.length_map _;exact m_ h k (by omega) (by have:=hj.n0;omega) (by have:=hj.n5;omega) Bd hb hj.gi bj.no
theorem GrL.arrive [Old] [bj] {L:List (Nat×Nat)} (h:GrL B w G L s) {Bd:Nat} (hj:GJ Bd s) (hb:Bd≤80000) (k:Nat) (hk:k<s.ms.length):Calls Tryz.prog 93 #[.pointer (some ⟨G,0,none⟩),.int .i64 (k:Nat)] w fun e w'=>P4 B w G L (s.arrive k) e w':=by
 obtain⟨X,l,ms,tk,many,vn,vm,vt,h,rfl,rfl⟩:=h;refine kDa ?_;intro e1;have e2:(St l ms tk many).ms.length=ms.length:=List.length_map _;exact lz h k (by omega) (by have:=hj.n0;omega) (by have:=hj.n5;omega) Bd hb hj.gi bj.no
theorem tk_le {l:List Rx} {ms:List MV} {tk:List (Value×Nat)} {many:Int} {Bd:Nat} (hj:GJ Bd (St l ms tk many)):∀x∈tk,x.2≤Bd:=fun x hx=>by
 obtain⟨i,hi,rfl⟩:=List.mem_iff_getElem.1 hx;have h1:=hj.tk i
 have ht:(St l ms tk many).tl.getD i 0=tk[i].2:=by show (tk.map Prod.snd).getD i 0=_;exact m4b
 have hlt:(St l ms tk many).tl.length=tk.length:=List.length_map _;have ha:(St l ms tk many).aps.getD i 0≤Bd:=hj.gi.ap _ (GJ.getD_mem (by rw[hj.la,←hj.lt,hlt];exact hi));omega
theorem Gr13.play [Old] [bj] (h:Gr13 B w G s) {Bd:Nat} (hj:GJ Bd s) (hb:Bd≤80000) (d k:Int):Calls Tryz.prog 43 #[.pointer (some ⟨G,0,none⟩),.agg #[.int .i64 d,.int .i64 k]] w fun e w'=>P5 B w G (s.play d k) e w':=by
 obtain⟨X,l,ms,tk,many,vn,vm,vt,h,rfl⟩:=h;refine kDa ?_;intro e1;have hm:0≤many∧many≤(Bd:Int):=hj.mn;exact J0 h d k (by have:=hj.n0;omega) (by have:=hj.n5;omega) Bd hb hj.gi ⟨hm.1,by omega⟩ fun x hx=>by have:=tk_le hj x hx;omega
theorem Gr13.take [Old] [bj] (h:Gr13 B w G s) {Bd:Nat} (hj:GJ Bd s) (hb:Bd≤80000) (i:Nat) (hi:i<s.ns.length):Calls Tryz.prog 80 #[.pointer (some ⟨G,0,none⟩),.int .i64 (i:Nat)] w fun e w'=>P5 B w G (s.take i) e w':=by
 obtain⟨X,l,ms,tk,many,vn,vm,vt,h,rfl⟩:=h;refine kDa ?_;intro e1;have hil:i<l.length:=by omega
 have hg:Gw Bd Bd l[i].n:=hj.gi.nd _ (List.mem_map.2 ⟨l[i],List.getElem_mem hil,rfl⟩);have ha:l[i].ap≤Bd:=hj.gi.ap _ (List.mem_map.2 ⟨l[i],List.getElem_mem hil,rfl⟩);have hc:=hg.bn.commit;have hl:=hg.bn.last;exact sY h i hil (by omega) (by omega) (by unfold Lg.last at hl;omega) (by omega) (fun x hx=>by have:=tk_le hj x hx;omega) (by have:=hj.n5;omega)
theorem Gr13.mlen [Old] (h:Gr13 B w G s):∃g cm,w.cell? ⟨G,1,none⟩=some (.slice g s.ms.length cm):=by
 obtain⟨X,l,ms,tk,many,vn,vm,vt,h,rfl⟩:=h;obtain⟨g,c,e⟩:=bz h.rm.row;refine⟨g,c,?_⟩;rw[(h.gcells (Fr.refl _ w)).2.1,e];show _=some (Value.slice g (ms.map MV.ms).length c);rw[List.length_map]
theorem P5.gr [Old] {e:Ending} (h:P5 B w G s e w'):e=.returned (.tuple #[])∧Gr13 B w' G s∧Fr (fun c _=>c<B) w w':=h
theorem GrL.rest [Old] [bj] {L:List (Nat×Nat)} (h:GrL B w G L s) {Bd:Nat} (hj:GJ Bd s) (hb:Bd≤72000) (k:Nat) (hk:k≤s.ms.length):Calls Tryz.prog 79 #[.pointer (some ⟨G,0,none⟩),.int .i64 (k:Nat)] w fun e w'=>e=.returned (.bool (Gs.rest 2501 s k).2)∧GrL B w' G L (Gs.rest 2501 s k).1∧Fr (fun c _=>c<B) w w':=by
 have H:=zH h;have HJ:=zH hj;have HL:Hid (s.ms.length≤5000):=hj.gi.ln;have hk5:k≤5000:=by have:=HL.out;omega
 have FR:Hid (Fr (fun c _=>c<B) w w):=Fr.refl _ _;obtain⟨R,hR⟩:=zE (Gs.rest 2501 s k);have HR:=zH hR;have HK:=zH hk;rw[hR];clear h hj hR hk;go_enter Tryz.func79,Tryz.ntmps79
 go_wp2;go_loopw [5] (fun i wr=>∃(j fu:Nat) (s1:Gs),i=.int .i64 (j:Nat)∧k≤j∧j+fu=k+2501∧Hid (j≤s1.ms.length)∧Hid (GrL B wr G L s1)∧Hid (GJ (Bd+3*(j-k)) s1)∧Hid (Gs.rest fu s1 j=R)∧Hid (Fr (fun c _=>c<B) w wr)) (fun i _=>k+2501-(intOf i).toNat)
 case atStart=>exact⟨k,2501,s,rfl,Nat.le_refl _,rfl,HK.out,H.out,by rw[Nat.sub_self];exact HJ.out,HR.out,Fr.refl _ _⟩
 case round=>
  obtain⟨j,fu,s1,rfl,hkj,hjf,HK1,H1,HJ1,HR1,HF1⟩:=hrel;obtain⟨gm,cm,y0⟩:=H1.out.gr.mlen;obtain⟨n,hn⟩:=zE s1.ms.length;have hn5:n≤5000:=by have:=HJ1.out.gi.ln;omega
  rw[hn] at y0;have HN:=zH hn;by_cases hlt:j<n
  ·have hltI:(j:Int)<(n:Int):=by omega
   by_cases hfu:fu=0
   ·have hgt:(k:Int)+2500<(j:Int):=by omega
    have hE:Hid (R=(s1,false)):=by show R=_;rw[←HR1.out,hfu];unfold Gs.rest;rw[decide_eq_false (by have:=HN.out;omega)]
    exact mUd
   ·obtain⟨f2,hf2⟩:∃x,fu=x+1:=⟨fu-1,by omega⟩
    have hgt:¬((k:Int)+2500<(j:Int)):=by omega
    have AC:=zH (H1.out.arrive HJ1.out (by omega) j (by have:=HN.out;omega))
    have HR2:Hid (Gs.rest f2 (s1.arrive j) (j+1)=R):=by
     show _=_;rw[←HR1.out,hf2]
     conv=>rhs;unfold Gs.rest
     rw[if_neg (by have:=HN.out;omega)]
    have HJ2:Hid (GJ (Bd+3*(j+1-k)) (s1.arrive j)):=(HJ1.out.arrive j (by have:=HN.out;omega)).mono (by omega);have HK2:Hid (j+1≤(s1.arrive j).ms.length):=by have:=Gs.arrive_len s1 j;have:=HN.out;show _≤_;omega
    clear hn;go_wp2_with fail
    (with_reducible refine AC.out.mono ?_);rintro e W2 ⟨rfl,G2,F2⟩;have G2:=zH G2;have F2:=zH (HF1.trans F2);clear AC;go_wp2;go_roundw
    case rel=>exact⟨j+1,f2,s1.arrive j,by go_num,by omega,by omega,HK2.out,G2.out,HJ2.out,HR2.out,F2.out⟩
    case measure=>simp [intOf];omega
  ·have hge:¬((j:Int)<(n:Int)):=by omega
   have hE:Hid (R=(s1,true)):=by
    show R=_;rw[←HR1.out];have hl:s1.ms.length≤j:=by have:=HN.out;omega
    cases fu with
    | zero=>unfold Gs.rest;rw[decide_eq_true hl]
    | succ f=>unfold Gs.rest;rw[if_pos hl]
   exact mUd
theorem Gr13.rest [Old] [bj] (h:Gr13 B w G s) {Bd:Nat} (hj:GJ Bd s) (hb:Bd≤72000) (k:Nat) (hk:k≤s.ms.length):Calls Tryz.prog 79 #[.pointer (some ⟨G,0,none⟩),.int .i64 (k:Nat)] w fun e w'=>e=.returned (.bool (Gs.rest 2501 s k).2)∧Gr13 B w' G (Gs.rest 2501 s k).1∧Fr (fun c _=>c<B) w w':=by
 obtain⟨X,l,ms,tk,many,vn,vm,vt,h1,h2⟩:=h;have hL:GrL B w G (l.map Rx.ids) s:=⟨X,l,ms,tk,many,vn,vm,vt,h1,h2,rfl⟩
 exact(hL.rest hj hb k hk).mono fun e w' q=>⟨q.1,q.2.1.gr,q.2.2⟩
end
end Go.Proofs.YtmjccpfchhnfhaaGreat
