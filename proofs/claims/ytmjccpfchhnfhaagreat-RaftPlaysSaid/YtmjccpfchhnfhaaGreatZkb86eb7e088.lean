/- Texts of the proofs, part 37: what the functions that they reach do, walked; no conditions beyond those that each states. -/
import Derived.Test.YtmjccpfchhnfhaaGreatZk8d311412e3
import Derived.Test.YtmjccpfchhnfhaaGreatZk2190c3dfb9
set_option linter.unusedVariables false
set_option linter.unusedSimpArgs false
set_option maxRecDepth 100000
set_option maxHeartbeats 8000000
namespace Go.Proofs.YtmjccpfchhnfhaaGreat
open Go.RowKit
theorem m4M {p:Prop} (h:p:=by
 obtain⟨y0,y6,y8,y9,y10⟩:=CN wr W _ _ HL.1 f;exact⟨y0,y8,y9,by rw[y10,HP.out.2.2.2.2.1]⟩):p:=h
theorem m7j {p:Prop} (h:p:=by
 intro xs W HF K' hK;obtain⟨y0,y8,y9,y10⟩:=CK W ((Fr.refl (fun _ _=>True) wr).drew.trans HF);exact mD8):p:=h
theorem muV {p:Prop} (h:p:=by
 refine bY.p rfl rfl (kPP ?_) ?_
 ·intro xs W HF K' hK;obtain⟨y0,y8,y9,y10⟩:=CK W ((Fr.refl (fun _ _=>True) wr).drew.trans HF);have LA1:=zH (LAST W a8 c8);exact mBg
 exact m36):p:=h
def rp (k y:Nat) (l:List Nat):List Nat:=List.replicate k y++l.drop k
theorem rp_set {l:List Nat} {k y:Nat} (h:l.length=16) (hk:k<16):(rp k y l).set k y=rp (k+1) y l:=by
 unfold rp;have e2:(List.replicate k y).length=k:=List.length_replicate;rw[List.set_append_right _ _ (by omega),e2,Nat.sub_self,List.drop_eq_getElem_cons (by omega),List.set_cons_zero,List.replicate_succ',List.append_assoc];rfl
theorem rp_all {l:List Nat} {y:Nat} (h:l.length=16):rp 16 y l=List.replicate 16 y:=by
 unfold rp;rw[List.drop_eq_nil_of_le (by omega),List.append_nil]
section
variable {X:Nat→Prop} {w w':World} {b:Nat} {n n':Nd} {q q':DV}
def DLOut [Old] (X:Nat→Prop) (w:World) (b:Nat) (n:Nd) (e:Ending) (w':World):Prop:=∃q',e=.returned (.tuple #[])∧DNs X w' b n q'∧Fr (fun c _=>c≠b) w w'
theorem qW [Old] (h:DNs X w b n q) (mN:Nat) (hme:n.me=(mN:Nat)) (hm16:mN<16) (hl:n.log.last+1<18446744073709551616) (hle:n.log.es.length≤900000):
 Calls Tryz.prog 117 #[.pointer (some ⟨b,0,none⟩)] w fun e w'=>DLOut X w b n.lead e w':=by
 obtain⟨ae,le,ce,hve,hle2,hel,hes,hlg⟩:=h.lg;refine kr8 ?_;intro bs hbs bt hbt;obtain⟨tm,htm⟩:=zE n.tm;obtain⟨L,hL⟩:=zE (bs+(le+1));have hL2:n.log.last+1=L:=by unfold Lg.last;omega
 refine kJf ?_;intro hl2;obtain⟨-,x1,x2,x3,-,x5,-,-,-,-,-,-⟩:=h.cells (Fr.refl _ w);have y0:w.cell? ⟨b,0,none⟩=some (.int .i64 (mN:Nat)):=by rw[(h.cells (Fr.refl _ w)).1,hme]
 have z:=h.free (Fr.refl _ w);have z2:=z 2;have z3:=z 3;have z5:=z 5;obtain⟨W1,hW1⟩:=zE (kV w b [(2,.int .i64 3),(3,.int .i64 (mN:Nat)),(5,.slice none 0 0)]);have hW1':((w.setCell ⟨b,2,none⟩ (.int .i64 3)).setCell ⟨b,3,none⟩ (.int .i64 (mN:Nat))).setCell ⟨b,5,none⟩ (.slice none 0 0)=W1:=hW1;have f1:Fr (fun c _=>c≠b) w W1:=hW1▸b_ b _ w
 have h1:DNs X W1 b { n with role:=3,ld:=n.me,yes:=[] } { q with vy:=.slice none 0 0 }:=by refine h.re f1 ?_ ⟨rfl,rfl⟩ ⟨none,0,rfl,.inl rfl⟩ ⟨h.ee,h.ev.aft (h.own f1)⟩ ⟨h.nl,h.ml⟩;rw[←hW1];have hh:=bw [(2,Value.int .i64 3),(3,.int .i64 (mN:Nat)),(5,.slice none 0 0)] h.top;simp only[List.foldl_cons,List.foldl_nil,W44,sA,sB,sC] at hh;rw[←hme] at hh ⊢;exact hh
 obtain⟨n1,hn1⟩:∃m:Nd,{ n with role:=3,ld:=n.me,yes:=[] }=m:=⟨_,rfl⟩
 obtain⟨q1,hq1⟩:∃m:DV,{ q with vy:=.slice none 0 0 }=m:=⟨_,rfl⟩
 rw[hn1,hq1] at h1;have e1:n1.me=n.me∧n1.tm=n.tm∧n1.log=n.log∧q1.ve=q.ve∧q1.es=q.es:=by rw[←hn1,←hq1];exact⟨rfl,rfl,rfl,rfl,rfl⟩
 have CN:Hid (∀(wr W:World) (nn:Nd) (qq:DV),(DNs X wr b nn qq∧nn.me=n.me∧nn.tm=n.tm∧nn.log.base=n.log.base∧nn.log.bt=n.log.bt)→FT wr W→W.cell? ⟨b,0,none⟩=some (.int .i64 (mN:Nat))∧W.cell? ⟨b,6,none⟩=some (.int .u64 (tm:Nat))∧W.cell? ⟨b,8,none⟩=some (.int .u64 (bs:Nat))∧W.cell? ⟨b,9,none⟩=some (.int .u64 (bt:Nat))∧W.cell? ⟨b,10,none⟩=some qq.ve):=fun wr W nn qq hh f=>by obtain⟨x0,x1,x2,x3,x4,x5,x6,x7,x8,x9,x10,x11⟩:=hh.1.cells f;exact⟨by rw[x0,hh.2.1,hme],by rw[x6,hh.2.2.1,htm],by rw[x8,hh.2.2.2.1,hbs],by rw[x9,hh.2.2.2.2,hbt],x10⟩
 have CC:Hid (∀W,FT W1 W→W.cell? ⟨b,0,none⟩=some (.int .i64 (mN:Nat))∧W.cell? ⟨b,6,none⟩=some (.int .u64 (tm:Nat))∧W.cell? ⟨b,8,none⟩=some (.int .u64 (bs:Nat))∧W.cell? ⟨b,9,none⟩=some (.int .u64 (bt:Nat))∧W.cell? ⟨b,10,none⟩=some (.slice ae le ce)):=fun W f=>by have hh:=CN.out W1 W n1 q1 ⟨h1,e1.1,e1.2.1,by rw[e1.2.2.1],by rw[e1.2.2.1]⟩ f;rw[e1.2.2.2.1,hve] at hh;exact hh
 have ADD:Hid (∀W,FT W1 W→Calls Tryz.prog 76 #[vL9 bs bt (.slice ae le ce),vE ⟨tm,0,none,0,[]⟩] W fun e w'=>(∃g k,e=.returned (vL9 bs bt (.slice g (le+1) k))∧EsAt X w' (.slice g (le+1) k) (q.es++[⟨tm,0,none,0,[]⟩]))∧FT W w'):=fun W f=>by have hv:=h1.ev.tt f;rw[e1.2.2.2.1,e1.2.2.2.2,hve] at hv;exact tV W bs bt ae le ce q.es ⟨tm,0,none,0,[]⟩ hv (BytesAt.nil _ _) (Nat.zero_le _) (by omega) (fun cc hc=>Nat.lt_of_lt_of_le (h1.hx cc hc) f.size)
 have LAST:=zH (fun W a8 c8=>dW W bs bt a8 (le+1) c8 (by omega));rw[hL] at LAST;dsimp only[vL9] at LAST;have H:=zH h;have H1:=zH h1;have F1:=zH f1;have E1:=zH e1;have HN1:=zH hn1;have HQ:=zH (And.intro hbs (And.intro hbt (And.intro htm (And.intro hme (And.intro hL2 (And.intro hm16 (And.intro hel hle2)))))));have UD:Hid (FT W1 W1.drew):=(Fr.refl _ _).drew;clear h h1 f1 e1 hme hm16 hl hle hve hle2 hel hes hlg hbs hbt htm hL hL2 hl2 hn1 hq1 z;go_enter Tryz.func117,Tryz.ntmps117
 go_upto_region 3 with fail
 try rw[hW1']
 clear x1 x2 x3 x5 y0 z2 z3 z5 hW1 hW1';refine wpR [(16,0),(17,1),(18,2),(19,3),(20,4),(21,5),(22,6),(23,7),(24,8),(25,9),(26,10),(27,11),(28,12)] [(0,[]),(1,[]),(2,[1]),(3,[2]),(4,[3]),(5,[]),(6,[5]),(7,[6]),(8,[7]),(9,[8]),(11,[0]),(12,[11]),(10,[4,9])] (ckR [(0,.pointer (some ⟨b,0,none⟩)),(1,.pointer (some ⟨b,0,none⟩)),(2,.pointer (some ⟨b,0,none⟩)),(3,.pointer (some ⟨b,8,none⟩)),(4,.agg #[.int .u64 (bs:Nat),.int .u64 (bt:Nat),.slice ae le ce]),(5,.pointer (some ⟨b,0,none⟩)),(6,.pointer (some ⟨b,0,none⟩)),(7,.pointer (some ⟨b,6,none⟩)),(8,.int .u64 (tm:Nat)),(9,.agg #[.int .u64 (tm:Nat),.int .i64 0,.slice none 0 0]),(11,.pointer (some ⟨b,0,none⟩)),(12,.pointer (some ⟨b,8,none⟩))] [(10,⟨fun v W=>∃a' c',v=.agg #[.int .u64 (bs:Nat),.int .u64 (bt:Nat),.slice a' (le+1) c']∧EsAt X W (.slice a' (le+1) c') (q.es++[⟨tm,0,none,0,[]⟩]),fun v W W' h hf=>by obtain⟨a',c',h1,h2⟩:=h;exact⟨a',c',h1,h2.tt hf⟩⟩)] 13 0) 1 rfl ?cfall ?cfend
 case cfall=>
  iterate 12
   refine bY.q rfl rfl rfl (kQQ ?_) ?_
   ·exact muN
  refine bY.p rfl rfl (kPP ?_) ?_
  ·intro xs W HF K' hK;have AD1:=zH (ADD W (UD.trans HF));dsimp only[vL9,vE,List.length_nil] at AD1;exact mCB
  exact m36
 case cfend=>
  refine kEH ?_;intro xs W HF hA;have h10:=hA (10,[4,9]) (by decide);clear hA;obtain⟨a8,c8,e10,r8⟩:=h10;rw[e10];have R8:=zH r8;clear e10 r8 ADD;have F2:=zH (UD.trans HF);have H2:=zH (H1.tt F2);obtain⟨x0,x1,x2,x3,x4,x5,x6,x7,x8,x9,x10,x11⟩:=H2.cells (Fr.refl _ W);refine krF ?_;intro z8 z9 z10;refine wpN 13 rfl fun K' hK=>?_
  skip
  go_simp;refine hK _ _ ?_;clear hK K';refine wpF ?_;obtain⟨n2,hn2⟩:∃m:Nd,{ n1 with log:=n1.log.add ⟨tm,0,[]⟩ }=m:=⟨_,rfl⟩
  obtain⟨q2,hq2⟩:∃m:DV,{ q1 with ve:=.slice a8 (le+1) c8,es:=q.es++[⟨tm,0,none,0,[]⟩] }=m:=⟨_,rfl⟩
  refine k7D ?_;intro W2 hW2 hW2';have fs:Fr (fun c _=>c≠b) W W2:=hW2▸b_ b _ W
  have h3:DNs X W2 b { n1 with log:=n1.log.add ⟨tm,0,[]⟩ } { q1 with ve:=.slice a8 (le+1) c8,es:=q.es++[⟨tm,0,none,0,[]⟩] }:=by
   refine H2.re fs ?_ ⟨rfl,rfl⟩ (H2.ye.aft (H2.own fs)) ⟨?_,R8.aft (H2.own fs)⟩ ⟨H2.nl,H2.ml⟩
   ·rw[←hW2,←HQ.out.1,←HQ.out.2.1,←E1.out.2.2.1];exact bw _ H2.top
   ·show n1.log.es++_=_;rw[List.map_append,E1.out.2.2.1,H.out.ee];rfl
  rw[hn2,hq2] at h3;have HP:Hid (n2.me=n.me∧n2.tm=n.tm∧n2.log.base=n.log.base∧n2.log.bt=n.log.bt∧q2.ve=.slice a8 (le+1) c8∧n2.next.length=16∧n2.mat.length=16):=by rw[←hn2,←hq2];exact⟨E1.out.1,E1.out.2.1,by show n1.log.base=_;rw[E1.out.2.2.1],by show n1.log.bt=_;rw[E1.out.2.2.1],rfl,H2.out.nl,H2.out.ml⟩
  have H3:=zH h3;have F3:Hid (Fr (fun c _=>c≠b) w W2):=F1.trans ((F2.tT).trans fs);have HN2:=zH hn2
  try rw[hW2']
  clear hW2 hW2' h3 hn2 hq2 x0 x1 x2 x3 x4 x5 x6 x7 x8 x9 x10 x11 z8 z9 z10 fs R8 HF;go_wp2_with fail
  go_loopw [2] (fun v2 wr=>∃k:Nat,v2=.int .i64 (k:Nat)∧k≤16∧Hid ((DNs X wr b { n2 with next:=rp k L n2.next,mat:=rp k 0 n2.mat } q2∧n2.me=n.me∧n2.tm=n.tm∧n2.log.base=n.log.base∧n2.log.bt=n.log.bt)∧Fr (fun c _=>c≠b) W2 wr)) (fun v2 _=>16-(intOf v2).toNat)
  case atStart=>exact⟨0,rfl,Nat.zero_le _,⟨H3,HP.1,HP.2.1,HP.2.2.1,HP.2.2.2.1⟩,Fr.refl _ _⟩
  case round=>
   obtain⟨k,rfl,hk,HL⟩:=hrel;by_cases hlt:k<16
   ·have hltI:(k:Int)<16:=by omega
    have HK:=zH hlt
    have CK:Hid (∀W,FT wr W→W.cell? ⟨b,0,none⟩=some (.int .i64 (mN:Nat))∧W.cell? ⟨b,8,none⟩=some (.int .u64 (bs:Nat))∧W.cell? ⟨b,9,none⟩=some (.int .u64 (bt:Nat))∧W.cell? ⟨b,10,none⟩=some (.slice a8 (le+1) c8)):=fun W f=>by exact m4M
    clear hlt;go_wp2_with fail
    refine wpR [(33,0),(34,1),(35,2),(36,3),(37,4),(38,5),(39,6),(40,7),(41,8),(42,9)] [(0,[]),(1,[]),(2,[]),(3,[2]),(4,[3]),(5,[4]),(7,[0]),(8,[7]),(9,[1,8]),(6,[5])] (ckR [(0,.pointer (some ⟨b,0,none⟩)),(1,.int .i64 (k:Nat)),(2,.pointer (some ⟨b,0,none⟩)),(3,.pointer (some ⟨b,0,none⟩)),(4,.pointer (some ⟨b,8,none⟩)),(5,.agg #[.int .u64 (bs:Nat),.int .u64 (bt:Nat),.slice a8 (le+1) c8]),(6,.int .u64 (L:Nat)),(7,.pointer (some ⟨b,0,none⟩)),(8,.pointer (some ⟨b,12,none⟩)),(9,.pointer (some ⟨b,12+k,none⟩))] [] 10 0) 1 rfl ?cfall ?cfend
    case cfall=>
     iterate 9
      refine bY.q rfl rfl rfl (kQQ ?_) ?_
      ·exact m7j
     exact muV
    case cfend=>
     refine kEE ?_;intro xs W HF;have FW:=zH ((Fr.refl (fun _ _=>True) wr).drew.trans HF);have am0:=HL.1.1.nxt FW k HK;have am1:=HL.1.1.free FW (12+k);refine wpN 10 rfl fun K' hK=>?_
     skip
     go_simp;refine hK _ _ ?_;clear hK K';refine wpF ?_;obtain⟨d5,fN⟩:=(HL.1.1.tt FW).setN k L HK;obtain⟨W5,hW5⟩:=zE (W.setCell ⟨b,12+k,none⟩ (.int .u64 (L:Nat)));rw[show d8 L=.int .u64 (L:Nat) from rfl,hW5] at d5 fN
     try rw[hW5]
     have D5:=zH d5;have bm0:=d5.mtc (Fr.refl _ W5) k HK;have bm1:=d5.free (Fr.refl _ W5) (28+k);obtain⟨d6,fM⟩:=d5.setM k 0 HK;obtain⟨W6,hW6⟩:=zE (W5.setCell ⟨b,28+k,none⟩ (.int .u64 0));rw[show d8 0=.int .u64 0 from rfl,hW6] at d6 fM;have D6:=zH d6;have F6:Hid (Fr (fun c _=>c≠b) W2 W6):=((HL.2.trans (FW.tT)).trans fN).trans fM;clear d5 d6 fN fM am0 am1 hW5;go_wp2
     try rw[hW6]
     go_roundw
     case rel=>refine⟨k+1,by go_num,by have:=HK.out;omega,⟨?_,HL.out.1.2⟩,F6.out⟩;have hh:=D6;dsimp only at hh;rw[rp_set HP.out.2.2.2.2.2.1 HK.out,rp_set HP.out.2.2.2.2.2.2 HK.out] at hh;exact hh
     case measure=>simp [intOf];omega
   ·obtain rfl:k=16:=by omega
    have e16:({ n2 with next:=rp 16 L n2.next,mat:=rp 16 0 n2.mat }:Nd)={ n2 with next:=List.replicate 16 L,mat:=List.replicate 16 0 }:=by rw[rp_all HP.out.2.2.2.2.2.1,rp_all HP.out.2.2.2.2.2.2]
    have h7:=HL.1;rw[e16] at h7;have H7:=zH h7
    have CK:Hid (∀W,FT wr W→W.cell? ⟨b,0,none⟩=some (.int .i64 (mN:Nat))∧W.cell? ⟨b,8,none⟩=some (.int .u64 (bs:Nat))∧W.cell? ⟨b,9,none⟩=some (.int .u64 (bt:Nat))∧W.cell? ⟨b,10,none⟩=some (.slice a8 (le+1) c8)):=fun W f=>by exact m4M
    have hmI:((mN:Nat):Int)<16:=by have:=HQ.out.2.2.2.2.2.1;omega
    clear h7 e16;go_wp2_with fail
    refine wpR [(48,0),(49,1),(50,2),(51,3),(52,4),(53,5),(54,6),(55,7),(56,8),(57,9),(58,10),(59,11),(60,12)] [(0,[]),(1,[]),(2,[1]),(3,[2]),(4,[3]),(5,[]),(6,[5]),(7,[6]),(8,[7]),(10,[0]),(11,[10]),(12,[4,11]),(9,[8])] (ckR [(0,.pointer (some ⟨b,0,none⟩)),(1,.pointer (some ⟨b,0,none⟩)),(2,.pointer (some ⟨b,0,none⟩)),(3,.pointer (some ⟨b,0,none⟩)),(4,.int .i64 (mN:Nat)),(5,.pointer (some ⟨b,0,none⟩)),(6,.pointer (some ⟨b,0,none⟩)),(7,.pointer (some ⟨b,8,none⟩)),(8,.agg #[.int .u64 (bs:Nat),.int .u64 (bt:Nat),.slice a8 (le+1) c8]),(9,.int .u64 (L:Nat)),(10,.pointer (some ⟨b,0,none⟩)),(11,.pointer (some ⟨b,28,none⟩)),(12,.pointer (some ⟨b,28+mN,none⟩))] [] 13 0) 1 rfl ?cfall ?cfend
    case cfall=>
     iterate 12
      refine bY.q rfl rfl rfl (kQQ ?_) ?_
      ·exact m7j
     exact muV
    case cfend=>
     refine kEE ?_;intro xs W HF;have FW:=zH ((Fr.refl (fun _ _=>True) wr).drew.trans HF);have am0:=H7.1.mtc FW mN HQ.2.2.2.2.2.1;have am1:=H7.1.free FW (28+mN);refine wpN 13 rfl fun K' hK=>?_
     skip
     go_simp;refine hK _ _ ?_;clear hK K';refine wpF ?_;obtain⟨d5,fN⟩:=(H7.1.tt FW).setM mN L HQ.2.2.2.2.2.1;obtain⟨W5,hW5⟩:=zE (W.setCell ⟨b,28+mN,none⟩ (.int .u64 (L:Nat)));rw[show d8 L=.int .u64 (L:Nat) from rfl,hW5] at d5 fN
     try rw[hW5]
     have D5:=zH d5;have F5:Hid (Fr (fun c _=>c≠b) w W5):=(F3.trans (HL.2.trans (FW.tT))).trans fN;clear d5 fN am0 am1 hW5;go_wp2;go_end0
     have e:({ n2 with next:=List.replicate 16 L,mat:=(List.replicate 16 0).set mN L }:Nd)=n.lead:=by rw[←HN2.out,←HN1.out];unfold Nd.lead;rw[HQ.out.2.2.2.1,HQ.out.2.2.2.2.1,HQ.out.2.2.1];rfl
     exact⟨q2,rfl,e▸D5.out,F5.out⟩
end
section
variable {X:Nat→Prop} {w w':World} {b:Nat} {n n':Nd} {q q':DV}
theorem kj [Old] (h:DNs X w b n q) (hc:n.conf.length≤1000) (hnx:∀y∈n.next,y<18446744073709551616) (hl:n.log.last+1<18446744073709551616) (hle:n.log.es.length≤900000):
 Calls Tryz.prog 19 #[.pointer (some ⟨b,0,none⟩)] w fun e w'=>jj X w n.beat e w':=by
 have OC:=zH (lV h hc);have hol:n.others.length≤1000:=Nat.le_trans (List.length_filter_le _ _) hc;have TO:=zH (fun W (f:FT w W) x=>jy (h.tt f) x hnx hl hle);have OUT:Hid (n.beat=n.others.flatMap n.sendTo):=rfl;obtain⟨ot,hot⟩:=zE n.others;rw[hot] at OC hol OUT;have HX:Hid (∀c,X c→c<w.heap.size):=h.hx;have HNEW:Hid (∀{c},w.heap.size≤c→¬Old.o c):=h.new;clear h hot hc hnx hl hle;go_enter Tryz.func19,Tryz.ntmps19
 go_wp2_with fail
 (with_reducible refine OC.out.mono ?_);rintro e w2 ⟨⟨go,ko,rfl,ro⟩,f2⟩;refine kWS ?_;intro F2 RO2 ROW2 O0;clear ro f2 OC;go_wp2;go_loopw [3,5] (fun o i wr=>∃(k:Nat) (g:Option Addr) (l c:Nat) (T:List MV),i=.int .i64 (k:Nat)∧k≤ot.length∧o=.slice g l c∧l≤k∧Hid (T.map MV.ms=(ot.take k).flatMap n.sendTo)∧Hid (T.length=l)∧Hid (wr.ownsRow w.heap.size 32 10 (.slice g l c) T.length (T.flatMap encM))∧Hid (∀m∈T,MsAt X wr m)∧Hid (Fr KI w2 wr)∧Hid (FT w wr)) (fun _ i _=>ot.length-(intOf i).toNat)
 case atStart=>exact⟨0,none,0,0,[],rfl,Nat.zero_le _,rfl,Nat.zero_le _,rfl,rfl,O0,(fun m hm=>by cases hm),Fr.refl _ _,F2⟩
 case round=>exact mQh
end
section
variable {X:Nat→Prop} {w w':World} {b:Nat} {n n':Nd} {q q':DV}
theorem PK [Old] {W0:World} {n1:Nd} {q1:DV} {r:Nd×List Ms} (h:DNs X W0 b n1 q1) (f0:Fr (fun c _=>c≠b) w W0) (hb:b<w.heap.size) (kd:Int) (t0:Nat) (hr:r=(n1,n1.toAll { zMs with kind:=kd,tm:=t0,index:=n1.log.last,prev:=n1.log.lastT })) (hc:n1.conf.length≤1000) (hl:n1.log.last+1<18446744073709551616) (hle:n1.log.es.length≤900000) (fu:Nat→Value):
 Code.wp Tryz.prog (fK 11 (cW Tryz.f83.body)) (bodyPost Tryz.prog Tryz.f83 fun e w'=>gQ X w b r e w') { tmps:=tU 113 fu [(0,.pointer (some ⟨b,0,none⟩)),(6,.int .i64 kd),(7,.int .u64 (t0:Nat))],defers:=[] } W0:=by
 have OC:=zH (lV h hc);have hol:n1.others.length≤1000:=Nat.le_trans (List.length_filter_le _ _) hc;obtain⟨ae,le,ce,hve,hle2,hel,hes,hlg⟩:=h.lg;obtain⟨bs,hbs⟩:=zE n1.log.base;obtain⟨bt,hbt⟩:=zE n1.log.bt;obtain⟨me,hme⟩:=zE n1.me;obtain⟨L,hL⟩:=zE (bs+le);have hL2:n1.log.last=L:=by unfold Lg.last;omega
 obtain⟨lt,hlt9⟩:=zE (lastTE bt q1.es)
 have hlt2:n1.log.lastT=lt:=by have e:=pz n1.log.base n1.log.bt q1.es;rw[hlg,hbt,hlt9] at e;exact e
 have CC:Hid (∀W,FT W0 W→W.cell? ⟨b,0,none⟩=some (.int .i64 me)∧W.cell? ⟨b,8,none⟩=some (.int .u64 (bs:Nat))∧W.cell? ⟨b,9,none⟩=some (.int .u64 (bt:Nat))∧W.cell? ⟨b,10,none⟩=some (.slice ae le ce)):=fun W f=>by obtain⟨x0,x1,x2,x3,x4,x5,x6,x7,x8,x9,x10,x11⟩:=h.cells f;exact⟨by rw[x0,hme],by rw[x8,hbs],by rw[x9,hbt],by rw[x10,hve]⟩
 have LAST0:=zH (fun W=>dW W bs bt ae le ce (by unfold Lg.last at hl;omega));have LT0:=zH (fun W (f:FT W0 W)=>qY W bs bt ae le ce q1.es (hes W f).row (by omega));rw[hL] at LAST0;rw[hlt9] at LT0;dsimp only[vL9] at LAST0 LT0
 have OUT:Hid (r.1=n1∧r.2=n1.others.map (fun x=>({ zMs with kind:=kd,tm:=t0,index:=L,prev:=lt,src:=me,dst:=x }:Ms))):=by rw[hr,hL2,hlt2];refine⟨rfl,?_⟩;show n1.toAll _=_;unfold Nd.toAll;rw[hme]
 obtain⟨ot,hot⟩:=zE n1.others;rw[hot] at OC hol OUT;have H:=zH h;have F0:=zH f0;have HB:=zH hb;have HNEW:Hid (∀{c},W0.heap.size≤c→¬Old.o c):=h.new;clear h hr hot hc hl hle hve hle2 hel hes hlg hbs hbt hme hL hL2 hlt9 hlt2 f0 hb;simp only[tU,tL,Nat.reduceAdd,Nat.reduceBEq,cond_true,cond_false];dsimp only[fK,cW,Tryz.f83];go_wp2_with fail
 (with_reducible refine OC.out.mono ?_);rintro e w2 ⟨⟨go,ko,rfl,ro⟩,f2⟩;have F2:=zH f2;have RO2:=zH ro.ints;have ROW2:=zH ro;have O0:Hid (w2.ownsRow W0.heap.size 32 10 (.slice none 0 0) ([]:List MV).length (([]:List MV).flatMap encM)):=⟨rfl,.inl ⟨rfl,rfl⟩⟩
 obtain⟨ol,hol2⟩:=zE ot.length;rw[hol2];have HOL:=zH hol2;rw[hol2] at hol;clear ro f2 OC hol2;go_wp2;go_loopw [9,11] (fun o i wr=>∃(k:Nat) (g:Option Addr) (l c:Nat) (T:List MV),i=.int .i64 (k:Nat)∧k≤ol∧o=.slice g l c∧l≤k∧Hid (T.map MV.ms=(ot.take k).map (fun x=>({ zMs with kind:=kd,tm:=t0,index:=L,prev:=lt,src:=me,dst:=x }:Ms)))∧Hid (T.length=l)∧Hid (wr.ownsRow W0.heap.size 32 10 (.slice g l c) T.length (T.flatMap encM))∧Hid (∀m∈T,MsAt X wr m)∧Hid (Fr KI w2 wr)∧Hid (FT W0 wr)) (fun _ i _=>ol-(intOf i).toNat)
 case atStart=>exact⟨0,none,0,0,[],rfl,Nat.zero_le _,rfl,Nat.zero_le _,rfl,rfl,O0,(fun m hm=>by cases hm),Fr.refl _ _,F2⟩
 case round=>
  obtain⟨k,g,l,c,T,rfl,hk,rfl,hlk,HT,HL,HO,HM,HF2,HFW⟩:=hrel;by_cases hlt:k<ol
  ·have hltI:(k:Int)<(ol:Int):=by omega
   have hlt':k<ot.length:=by rw[HOL.out];exact hlt
   obtain⟨bo,oo,rfl⟩:=RO2.out.addr (by omega);have hcell:=RO2.cell hlt';obtain⟨x,hx⟩:=zE (ot[k]);rw[hx] at hcell
   have CK:Hid (∀W,FT wr W→W.cell? ⟨b,0,none⟩=some (.int .i64 me)∧W.cell? ⟨b,8,none⟩=some (.int .u64 (bs:Nat))∧W.cell? ⟨b,9,none⟩=some (.int .u64 (bt:Nat))∧W.cell? ⟨b,10,none⟩=some (.slice ae le ce)∧W.cell? ⟨bo,oo+k,none⟩=some (.int .i64 x)):=fun W f=>by obtain⟨y0,y8,y9,y10⟩:=CC W (HFW.trans f);refine⟨y0,y8,y9,y10,f.cell (fun _ _=>trivial) (HF2.cell (p:=⟨bo,oo+k,none⟩) (fun o ho=>?_) hcell)⟩;refine k4o ?_;intro cur hc hc';cases hc';exact⟨_,_,rfl⟩
   have LAST:=zH (fun W (f:FT wr W)=>LAST0 W);have LTC:=zH (fun W (f:FT wr W)=>LT0 W (HFW.trans f))
   have HS:Hid ((ot.take (k+1)).map (fun x=>({ zMs with kind:=kd,tm:=t0,index:=L,prev:=lt,src:=me,dst:=x }:Ms))=(ot.take k).map (fun x=>({ zMs with kind:=kd,tm:=t0,index:=L,prev:=lt,src:=me,dst:=x }:Ms))++[{ zMs with kind:=kd,tm:=t0,index:=L,prev:=lt,src:=me,dst:=x }]):=by show _=_;rw[List.take_succ_eq_append_getElem hlt',List.map_append,hx];rfl
   have HL3:Hid ((T++[(⟨kd,me,x,t0,L,lt,0,false,none,0,[],none,0,[]⟩:MV)]).length=l+1):=by show _=_;rw[List.length_append,HL.out];rfl
   have hl1:l+1≤1000000:=by omega
   have HKO:=zH hlt;clear hx hcell hlt' hlt;go_wp2_with fail
   refine wpR [(88,0),(89,1),(90,2),(91,3),(92,4),(93,5),(94,6),(95,7),(96,8),(97,9),(98,10),(99,11),(100,12),(101,13),(102,14),(103,15),(104,16),(105,17),(106,18),(107,19),(108,20),(109,21),(110,22)] [(0,[]),(1,[]),(2,[]),(3,[2]),(4,[3]),(5,[4]),(6,[]),(7,[]),(8,[6,7]),(9,[8]),(10,[]),(11,[]),(12,[11]),(13,[12]),(14,[13]),(16,[]),(17,[16]),(18,[17]),(19,[18]),(21,[1,5,9,10,15,20]),(15,[14]),(20,[19]),(22,[21])] (ckR [(0,.slice g l c),(1,.int .i64 kd),(2,.pointer (some ⟨b,0,none⟩)),(3,.pointer (some ⟨b,0,none⟩)),(4,.pointer (some ⟨b,0,none⟩)),(5,.int .i64 me),(6,.slice (some ⟨bo,oo,none⟩) ol ko),(7,.int .i64 (k:Nat)),(8,.pointer (some ⟨bo,oo+k,none⟩)),(9,.int .i64 x),(10,.int .u64 (t0:Nat)),(11,.pointer (some ⟨b,0,none⟩)),(12,.pointer (some ⟨b,0,none⟩)),(13,.pointer (some ⟨b,8,none⟩)),(14,.agg #[.int .u64 (bs:Nat),.int .u64 (bt:Nat),.slice ae le ce]),(15,.int .u64 (L:Nat)),(16,.pointer (some ⟨b,0,none⟩)),(17,.pointer (some ⟨b,0,none⟩)),(18,.pointer (some ⟨b,8,none⟩)),(19,.agg #[.int .u64 (bs:Nat),.int .u64 (bt:Nat),.slice ae le ce]),(20,.int .u64 (lt:Nat)),(21,.agg #[.int .i64 kd,.int .i64 me,.int .i64 x,.int .u64 (t0:Nat),.int .u64 (L:Nat),.int .u64 (lt:Nat),.int .u64 0,.bool false,.slice none 0 0,.slice none 0 0])] [(22,⟨fun v W=>∃g,v=.slice (some ⟨g,0,none⟩) 1 1∧W.heap[g]? = some (.cells (cM (⟨kd,me,x,t0,L,lt,0,false,none,0,[],none,0,[]⟩:MV)) 32 (0,0))∧wr.heap.size≤g,fun v W W' h hf=>by obtain⟨g,h1,h2,h3⟩:=h;exact⟨g,h1,hf.keep _ _ h2 trivial,h3⟩⟩)] 23 0) 2 rfl ?cfall ?cfend
   case cfall=>
    iterate 20
     refine bY.q rfl rfl rfl (kQQ ?_) ?_
     ·intro xs W HF K' hK;obtain⟨y0,y8,y9,y10,u0⟩:=CK W ((Fr.refl (fun _ _=>True) wr).drew.trans HF);exact mD8
    refine bY.p rfl rfl (kPP ?_) ?_
    ·intro xs W HF K' hK;obtain⟨y0,y8,y9,y10,u0⟩:=CK W ((Fr.refl (fun _ _=>True) wr).drew.trans HF);have LA1:=zH (LAST W ((Fr.refl (fun _ _=>True) wr).drew.trans HF));exact mBg
    refine bY.p rfl rfl (kPP ?_) ?_
    ·intro xs W HF K' hK;obtain⟨y0,y8,y9,y10,u0⟩:=CK W ((Fr.refl (fun _ _=>True) wr).drew.trans HF);have LA1:=zH (LTC W ((Fr.refl (fun _ _=>True) wr).drew.trans HF));exact mBg
    refine bY.p rfl rfl (kPP ?_) ?_
    ·intro xs W HF K' hK;have SB:Hid (wr.heap.size≤W.heap.size):=((Fr.refl (fun _ _=>True) wr).drew.trans HF).size;exact mid
    exact m36
   case cfend=>
    refine kEH ?_;intro xs W HF hA;have h22:=hA (22,[21]) (by decide);clear hA;obtain⟨gm,e22,tg,hgm⟩:=h22;rw[e22];have FW:=zH (HFW.trans ((Fr.refl (fun _ _=>True) wr).drew.trans HF));have FR:=zH ((Fr.refl (fun _ _=>True) wr).drew.trans HF);have OW:Hid (W.ownsRow W0.heap.size 32 10 (.slice g l c) T.length (T.flatMap encM)):=bK HO FR fun _ _ _ _=>trivial
    have ROW:=zH (yj (m:=(⟨kd,me,x,t0,L,lt,0,false,none,0,[],none,0,[]⟩:MV)) tg);clear tg hgm CK LAST LTC;refine wpN 23 rfl fun K' hK=>?_
    (try simp only[List.getElem_toArray,List.getElem_cons_zero,List.getElem_cons_succ]);refine(iteInduction (motive:=fun t=>t) (fun _=>?_) (fun hn=>absurd rfl hn))
    with_reducible refine fq (K:=fun a w=>K' a w) W0 W FW (.tmp 88) (.tmp 110) ?h1 (.slice g l c) T ?h2 OW (.slice (some ⟨gm,0,none⟩) 1 1) [(⟨kd,me,x,t0,L,lt,0,false,none,0,[],none,0,[]⟩:MV)] ?h3 ROW (T++[(⟨kd,me,x,t0,L,lt,0,false,none,0,[],none,0,[]⟩:MV)]) (zH (show T++[(⟨kd,me,x,t0,L,lt,0,false,none,0,[],none,0,[]⟩:MV)]=T++[(⟨kd,me,x,t0,L,lt,0,false,none,0,[],none,0,[]⟩:MV)] from rfl)) (l+1) HL3 hl1 ?_
    case h1=>rfl
    case h2=>(simp [Act.eval,Act.put,fillA,fillL];done)
    case h3=>(simp [Act.eval,Act.put,fillA,fillL];done)
    intro g5 c5 W5 O5 F5 G5 N5;refine hK _ _ ?_;clear hK K';refine wpN 24 rfl fun K' hK=>?_
    skip
    go_simp;refine hK _ _ ?_;clear hK K';refine wpF ?_;go_wp2;go_roundw
    case rel=>
     have htag:∀cb,(Value.slice g l c).ownBlock=some cb→∃cur,W.heap[cb]? = some (.cells cur 32 (0,0)):=fun cb e=>cZ OW e
     have ki5:Fr KI W W5:=G5.monoH fun i o hi hk e=>by exact m6g
     refine⟨k+1,g5,l+1,c5,T++[(⟨kd,me,x,t0,L,lt,0,false,none,0,[],none,0,[]⟩:MV)],by go_num,by have:=HKO.out;omega,rfl,by omega,?_,HL3.out,?_,fun m hm=>?_,(HF2.out.trans (FR.out.tT)).trans ki5,F5.out⟩
     ·show _=_;rw[List.map_append,HT.out,HS.out];rfl
     ·show World.ownsRow _ _ _ _ _ _ _;rw[HL3.out];exact O5.out
     ·refine MsAt.keep (w:=W) ?_ G5 ?_
      ·rcases List.mem_append.1 hm with hm | hm
       ·exact(HM m hm).tt FR
       ·rw[List.mem_singleton.1 hm];exact⟨BytesAt.nil _ _,EsAt.nil _ _⟩
      ·intro i o hi hr e;obtain⟨cur,hc⟩:=htag i e;rw[hc] at hi;cases hi;exact hr.ne (HNEW (d_ (v:=.slice g l c) OW i e)) rfl (by decide)
    case measure=>simp [intOf];omega
  ·have hge:¬(k:Int)<(ol:Int):=by omega
   have HTT:Hid (T.map MV.ms=r.2):=by show _=_;rw[HT.out,OUT.out.2,List.take_of_length_le (by rw[HOL.out];omega)]
   go_wp2;go_ret;refine⟨q1,_,T,rfl,OUT.out.1▸H.out.tt HFW.out,F0.out.trans (HFW.out.tT),⟨c_ HO.out fun cb e=>Nat.le_trans F0.out.size (d_ HO.out cb e),fun cb e hc=>?_,HM.out⟩,HTT.out⟩;have:=H.out.hx cb hc;have:=d_ HO.out cb e;omega
end
theorem kui {p q:Prop} (k:q) (h:q→p:=by
 obtain⟨x0,-,-,-,-,x5,-,-,-,-,-,-⟩:=hB.cells (Fr.refl _ WB);have z5:=hB.free (Fr.refl _ WB) 5;have hbA:b<WB.heap.size:=bX hB.top;have x0':WB.cell? ⟨b,0,none⟩=some (.int .i64 (mN:Nat)):=by rw[x0,←BD.out.2.1]
 obtain⟨WC,hWC⟩:=zE (WB.alloc (.cells #[.int .i64 (mN:Nat)] 3 (0,0)));have fC:FT WB WC:=hWC▸(Fr.refl _ _).alloc _;have y5:=(hB.cells fC).2.2.2.2.2.1;have y5z:=hB.free fC 5;intro kk0;revert y5z;revert y5;revert fC;revert hWC;revert WC;revert x0';revert hbA;revert z5;revert x5;revert x0;exact kk0):p:=h k
theorem m4K {p:Prop} (h:p:=by
 refine HA.own1 (v:=.int .i64 0) fB _ hWB ?_ rfl rfl rfl ⟨HA.nl,HA.ml⟩
 try rw[←BD.out.2.1]
 rfl):p:=h
section
variable {X:Nat→Prop} {w w':World} {b:Nat} {n n':Nd} {q q':DV}
theorem DNs.setY [Old] (h:DNs X w b n q) {W1 W2:World} (m:Int) (h1:w.alloc (.cells #[.int .i64 m] 3 (0,0))=W1) (h2:W1.setCell ⟨b,5,none⟩ (.slice (some ⟨w.heap.size,0,none⟩) 1 1)=W2):
 DNs X W2 b { n with yes:=[m] } { q with vy:=.slice (some ⟨w.heap.size,0,none⟩) 1 1 }∧Fr (fun c _=>c≠b) w W2:=by
 have f1:FT w W1:=h1▸(Fr.refl _ _).alloc _;have d1:=h.tt f1;have hs:kV W1 b [(5,.slice (some ⟨w.heap.size,0,none⟩) 1 1)]=W2:=h2;have f2:Fr (fun c _=>c≠b) W1 W2:=hs▸b_ b _ W1;have hb:=bX h.top;have tb:W2.heap[w.heap.size]? = some (.cells #[.int .i64 m] 3 (0,0)):=f2.keep _ _ (h1▸bZ w _) (by omega);refine⟨d1.re f2 ?_ ⟨rfl,rfl⟩ ?_ ⟨h.ee,d1.ev.aft (d1.own f2)⟩ ⟨h.nl,h.ml⟩,(f1.tT).trans f2⟩
 ·rw[←hs];exact bw _ d1.top
 ·refine⟨some ⟨w.heap.size,0,none⟩,1,rfl,.inr ⟨w.heap.size,0,_,rfl,tb,⟨fun hx=>by have:=h.hx _ hx;omega,.inr ⟨_,_,_,rfl,by decide⟩⟩,fun i hi=>?_⟩⟩;have:i=0:=by simp at hi;omega
  subst this;exact bQ tb rfl
theorem Hx [Old] {W0:World} {n1:Nd} {q1:DV} {r:Nd×List Ms} (h:DNs X W0 b n1 q1) (f0:Fr (fun c _=>c≠b) w W0) (hb:b<w.heap.size) (real:Bool) (kd:Int) (t0:Nat) (hy:n1.yes=[n1.me])
 (hr:r=if mV n1.conf n1.yes then(if real then(n1.lead,[]) else n1.askT) else(n1,n1.toAll { zMs with kind:=kd,tm:=t0,index:=n1.log.last,prev:=n1.log.lastT }))
 (REC:Hid (real=false→∀W,FT W0 W→Calls Tryz.prog 83 #[.pointer (some ⟨b,0,none⟩),.bool true] W fun e w'=>gQ X W b n1.askT e w'))
 (hcf:0<n1.conf.length∧n1.conf.length≤12) (mN:Nat) (hme:n1.me=(mN:Nat)) (hm16:mN<16) (hl:n1.log.last+1<18446744073709551616) (hle:n1.log.es.length≤900000) (fu:Nat→Value):
 Code.wp Tryz.prog (fK 8 (cW Tryz.f83.body)) (bodyPost Tryz.prog Tryz.f83 fun e w'=>gQ X w b r e w') { tmps:=tU 113 fu [(0,.pointer (some ⟨b,0,none⟩)),(1,.bool real),(6,.int .i64 kd),(7,.int .u64 (t0:Nat))],defers:=[] } W0:=by
 obtain⟨ac,cc,hvc⟩:=h.cf.form;have hcw:=h.cf;rw[hvc] at hcw;obtain⟨bo,oo,rfl⟩:=hcw.addr hcf.1;obtain⟨N,hN⟩:=zE n1.conf.length;obtain⟨vy,hvy⟩:=zE q1.vy;have AG:=zH (fun k=>(lJ (W0.drewN k) bo oo cc vy n1.conf n1.yes (hcw.tt ((Fr.refl _ W0).drewN k)) (hvy▸h.ye.tt ((Fr.refl _ W0).drewN k)) hcf.2 (by rw[hy];unfold maxLen;simp)).mono fun e w' ⟨h1,h2⟩=>And.intro h1 h2.symm);obtain⟨ag,hag⟩:=zE (mV n1.conf n1.yes);rw[hag,hN] at AG;rw[hag] at hr;obtain⟨-,-,-,-,y4,y5,-,-,-,-,-,-⟩:=h.cells (Fr.refl _ W0);rw[hvc,hN] at y4;rw[hvy] at y5;have TT:Hid (∀k,DNs X (W0.drewN k) b n1 q1):=fun k=>h.tt ((Fr.refl _ W0).drewN k)
 have EQ:=zH hr;have F0:=zH f0;have HB:=zH hb;have BD:=zH (And.intro hcf (And.intro hme (And.intro hm16 (And.intro hl hle))));clear h f0 hb hr hcf hme hm16 hl hle hvc hcw hN hvy hag hy;simp only[tU,tL,Nat.reduceAdd,Nat.reduceBEq,cond_true,cond_false];dsimp only[fK,cW,Tryz.f83];go_wp2_with fail
 go_quiet ((go_at_call 116;exact Calls.quiet_of_same (AG.out _)))
 have U:Hid (FT W0 (W0.drewN nq)):=(Fr.refl _ W0).drewN nq;have TD:=zH (TT nq);clear y4 y5 AG TT;cases ag with
 | true=>
  cases real with
  | false=>
   have OUT:Hid (r=n1.askT):=EQ.trans rfl;have RC:=zH (REC rfl (W0.drewN nq) U);clear EQ REC;go_wp2_with fail
   (with_reducible refine RC.out.mono ?_);rintro e w2 ⟨q2,v,mvs,rfl,d2,f2,o2,e2⟩;have HH:=zH (And.intro d2 (And.intro f2 (And.intro o2 e2)));clear d2 f2 o2 e2 RC;go_wp2;go_ret;rw[OUT.out];exact⟨q2,_,mvs,rfl,HH.1,(F0.trans (U.tT)).trans HH.2.1,HH.2.2.1.lo (F0.trans (U.tT)).size,HH.2.2.2⟩
  | true=>
   have OUT:Hid (r=(n1.lead,[])):=EQ.trans rfl;have LD:=zH (qW TD mN BD.2.1 BD.2.2.1 BD.2.2.2.1 BD.2.2.2.2);clear EQ REC;go_wp2_with fail
   (with_reducible refine LD.out.mono ?_);rintro e w2 ⟨q2,rfl,d2,f2⟩;have HH:=zH (And.intro d2 f2);clear d2 f2 LD;go_wp2;go_ret;rw[OUT.out];exact⟨q2,_,[],rfl,HH.1,(F0.trans (U.tT)).trans HH.2,OwnMs.nil _ _ _,rfl⟩
 | false=>
  have OUT:Hid (r=(n1,n1.toAll { zMs with kind:=kd,tm:=t0,index:=n1.log.last,prev:=n1.log.lastT })):=EQ.trans rfl;clear EQ REC;go_upto_region 17 with fail
  rename_i K1 h1 K0 h0;have H1:=zH h1;clear h1;go_wp2;exact H1.out _ _ (cw (fun fu=>PK TD.out (F0.out.trans (U.out.tT)) HB.out kd t0 OUT.out (by have:=BD.out.1.2;omega) BD.out.2.2.2.1 BD.out.2.2.2.2 fu) (by kernel_rfl))
theorem daskG [Old] (h:DNs X w b n q) (real:Bool)
 (REC:real=false→∀(W:World) (n1:Nd) (q1:DV),DNs X W b n1 q1→n1.conf=n.conf→n1.me=n.me→n1.tm=n.tm→n1.log=n.log→Calls Tryz.prog 83 #[.pointer (some ⟨b,0,none⟩),.bool true] W fun e w'=>gQ X W b n1.askT e w')
 (hcf:0<n.conf.length∧n.conf.length≤12) (mN:Nat) (hme:n.me=(mN:Nat)) (hm16:mN<16) (htm:n.tm+1<18446744073709551616) (hl:n.log.last+1<18446744073709551616) (hle:n.log.es.length≤900000):
 Calls Tryz.prog 83 #[.pointer (some ⟨b,0,none⟩),.bool real] w fun e w'=>gQ X w b (if real then n.askT else n.askF) e w':=by
 obtain⟨r,hr⟩:=zE ((if real then n.askT else n.askF));rw[hr];have HR:=zH hr;clear hr;obtain⟨vc,hvc⟩:=zE q.vc;obtain⟨tm,htm0⟩:=zE n.tm;obtain⟨tm1,htm1⟩:=zE (tm+1);have wt:IntKind.u64.wrap ((tm:Int)+1)=(tm1:Int):=by rw[IntKind.wrap_u64];omega
 have CT:=zH (fun k=>(lK (w.drewN k) vc n.conf (mN:Nat) (hvc▸h.cf.tt ((Fr.refl _ w).drewN k)) (by unfold maxLen;omega)).mono fun e w' ⟨h1,h2⟩=>And.intro h1 h2.symm);obtain⟨hs,hhs⟩:=zE (jK n.conf (mN:Nat));rw[hhs] at CT;obtain⟨y0,-,-,-,y4,-,-,-,-,-,-,-⟩:=h.cells (Fr.refl _ w);rw[hme] at y0;rw[hvc] at y4;have H:=zH h;have HHS:Hid (jK n.conf n.me=hs):=by show _=_;rw[hme,hhs]
 have BD:=zH (And.intro hcf (And.intro hme (And.intro hm16 (And.intro htm0 (And.intro htm1 (And.intro hl hle))))));have REC':=zH REC;clear h hvc htm0 htm1 hhs hcf hme hm16 htm hl hle REC;go_enter Tryz.func83,Tryz.ntmps83
 go_wp2_with fail
 go_quiet ((go_at_call 115;exact Calls.quiet_of_same (CT.out _)))
 clear y0 y4;have FA:Hid (FT w (w.drewN nq)):=(Fr.refl _ w).drewN nq;generalize w.drewN nq=WA at FA ⊢;clear CT;cases hs with
 | false=>
  have e1:n.askT=(n,[]):=by unfold Nd.askT;rw[if_neg (by rw[HHS.out];decide)]
  have e2:n.askF=(n,[]):=by unfold Nd.askF;rw[if_neg (by rw[HHS.out];decide)]
  have OUT:Hid (r=(n,[])):=by show r=_;rw[←HR.out];cases real;exact e2;exact e1
  clear e1 e2;go_wp2;go_ret;rw[OUT.out];exact⟨q,_,[],rfl,H.tt FA,FA.tT,OwnMs.nil _ _ _,rfl⟩
 | true=>
  have HA:=zH (H.tt FA);obtain⟨x0,x1,x2,x3,-,x5,x6,-,-,-,-,-⟩:=HA.cells (Fr.refl _ WA);rw[BD.out.2.1] at x0;rw[BD.out.2.2.2.1] at x6;have z1:=HA.free (Fr.refl _ WA) 1;have z2:=HA.free (Fr.refl _ WA) 2;have z3:=HA.free (Fr.refl _ WA) 3;have z5:=HA.free (Fr.refl _ WA) 5;have z6:=HA.free (Fr.refl _ WA) 6;have hbA:b<WA.heap.size:=bX HA.top;cases real
  ·obtain⟨WB,hWB⟩:=zE (kV WA b [(2,.int .i64 1),(3,.int .i64 (-1))]);have hWB':(WA.setCell ⟨b,2,none⟩ (.int .i64 1)).setCell ⟨b,3,none⟩ (.int .i64 (-1))=WB:=hWB;have fB:Fr (fun c _=>c≠b) WA WB:=hWB▸b_ b _ WA
   have hB:DNs X WB b { n with role:=1,ld:=-1 } q:=by exact m4K
   go_upto_region 13 with fail
   rename_i K0 h0;have HK0:=zH h0;clear h0
   try rw[hWB']
   have FB:=zH fB;have HBB:=zH hB;clear x0 x1 x2 x3 x5 x6 z1 z2 z3 z5 z6 hWB hWB' fB hbA;refine kui ?_;intro x0 x5 z5 hbA x0' WC hWC fC y5 y5z;have HWC:=zH hWC;clear hB x0;go_wp2;obtain⟨hD,fD⟩:=HBB.setY (mN:Nat) HWC rfl;rw[←BD.out.2.1] at hD;exact HK0.out _ _ (cw (fun fu=>Hx (r:=r) (w:=w) hD ((FA.out.tT).trans (FB.out.trans fD)) (bX H.out.top) false 3 tm1 rfl (by rw[←HR.out];show n.askF=_;unfold Nd.askF;rw[if_pos HHS.out,BD.out.2.2.2.1,BD.out.2.2.2.2.1];simp only[Bool.false_eq_true,if_false,if_true] <;> rfl) (zH (fun _ W f=>REC'.out (by trivial) W _ _ (hD.tt f) rfl rfl rfl rfl)) BD.out.1 mN BD.out.2.1 BD.out.2.2.1 BD.out.2.2.2.2.2.1 BD.out.2.2.2.2.2.2 fu) (by kernel_rfl))
  ·obtain⟨WB,hWB⟩:=zE (kV WA b [(6,.int .u64 (tm1:Nat)),(1,.int .i64 (mN:Nat)),(2,.int .i64 2),(3,.int .i64 (-1))]);have hWB':(((WA.setCell ⟨b,6,none⟩ (.int .u64 (tm1:Nat))).setCell ⟨b,1,none⟩ (.int .i64 (mN:Nat))).setCell ⟨b,2,none⟩ (.int .i64 2)).setCell ⟨b,3,none⟩ (.int .i64 (-1))=WB:=hWB;have fB:Fr (fun c _=>c≠b) WA WB:=hWB▸b_ b _ WA
   have hB:DNs X WB b { n with tm:=tm1,vote:=n.me,role:=2,ld:=-1 } q:=by exact m4K
   go_upto_region 13 with fail
   rename_i K0 h0;have HK0:=zH h0;clear h0
   try rw[hWB']
   have FB:=zH fB;have HBB:=zH hB;clear x0 x1 x2 x3 x5 x6 z1 z2 z3 z5 z6 hWB hWB' fB hbA;refine kui ?_;intro x0 x5 z5 hbA x0' WC hWC fC y5 y5z;have HWC:=zH hWC;clear hB x0;go_wp2;obtain⟨hD,fD⟩:=HBB.setY (mN:Nat) HWC rfl;rw[←BD.out.2.1] at hD;exact HK0.out _ _ (cw (fun fu=>Hx (r:=r) (w:=w) hD ((FA.out.tT).trans (FB.out.trans fD)) (bX H.out.top) true 1 tm1 rfl (by rw[←HR.out];show n.askT=_;unfold Nd.askT;rw[if_pos HHS.out,BD.out.2.2.2.1,BD.out.2.2.2.2.1];simp only[Bool.false_eq_true,if_false,if_true] <;> rfl) (zH (fun e=>absurd e (by decide))) BD.out.1 mN BD.out.2.1 BD.out.2.2.1 BD.out.2.2.2.2.2.1 BD.out.2.2.2.2.2.2 fu) (by kernel_rfl))
theorem qz [Old] (h:DNs X w b n q) (hcf:0<n.conf.length∧n.conf.length≤12) (mN:Nat) (hme:n.me=(mN:Nat)) (hm16:mN<16) (htm:n.tm+1<18446744073709551616) (hl:n.log.last+1<18446744073709551616) (hle:n.log.es.length≤900000):
 Calls Tryz.prog 83 #[.pointer (some ⟨b,0,none⟩),.bool true] w fun e w'=>gQ X w b n.askT e w':=
 daskG h true (fun e=>absurd e (by decide)) hcf mN hme hm16 htm hl hle
theorem D_ [Old] (h:DNs X w b n q) (hcf:0<n.conf.length∧n.conf.length≤12) (mN:Nat) (hme:n.me=(mN:Nat)) (hm16:mN<16) (htm:n.tm+1<18446744073709551616) (hl:n.log.last+1<18446744073709551616) (hle:n.log.es.length≤900000):
 Calls Tryz.prog 83 #[.pointer (some ⟨b,0,none⟩),.bool false] w fun e w'=>gQ X w b n.askF e w':=
 daskG h false (fun _ W n1 q1 d e1 e2 e3 e4=>qz d (by rw[e1];exact hcf) mN (by rw[e2];exact hme) hm16 (by rw[e3];exact htm) (by rw[e4];exact hl) (by rw[e4];exact hle)) hcf mN hme hm16 htm hl hle
end
end Go.Proofs.YtmjccpfchhnfhaaGreat
