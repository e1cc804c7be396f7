/- Texts of the proofs, part 19: what the functions that they reach do, walked; no conditions beyond those that each states. -/
import Derived.Shelf.Abstract
import Derived.Test.YtmjccpfchhnfhaaGreatZk4fcab22a5d
set_option linter.unusedVariables false
set_option linter.unusedSimpArgs false
set_option maxRecDepth 100000
set_option maxHeartbeats 8000000
namespace Go.Proofs.YtmjccpfchhnfhaaGreat
open Go.RowKit
section
open Go.Shelf
theorem kD1 {p q:Prop} (k:q) (h:q→p:=by
 have z2:=h.free (Fr.refl _ w) 2;have z3:=h.free (Fr.refl _ w) 3;have z5:=h.free (Fr.refl _ w) 5;intro kk0;revert z5;revert z3;revert z2;exact kk0):p:=h k
theorem kpb {p q:Prop} (k:q) (h:q→p:=by
 have x2:=(h.cells (Fr.refl _ w)).2.2.1;intro kk0;revert x2;exact kk0):p:=h k
theorem mAj {p:Prop} (h:p:=by
 go_wp2;go_end0;exact⟨rfl,R,b_ b [(2,.int .i64 0),(3,.int .i64 ld),(5,.slice none 0 0)] w⟩):p:=h
theorem mVd {p:Prop} (h:p:=by
 exact h.re (b_ b _ w) (bw _ h.top) ⟨rfl,rfl⟩ (.inr ⟨rfl,rfl⟩) ⟨rfl,rfl,rfl⟩ ⟨rfl,rfl,rfl,rfl⟩):p:=h
theorem mtP {p:Prop} (h:p:=by
 go_wp2;go_end0;exact⟨rfl,R,b_ b [(6,.int .u64 (t:Nat)),(1,.int .i64 (-1)),(2,.int .i64 0),(3,.int .i64 ld),(5,.slice none 0 0)] w⟩):p:=h
def kV (w:World) (b:Nat) (l:List (Nat×Value)):World:=l.foldl (fun W q=>W.setCell ⟨b,q.1,none⟩ q.2) w
theorem b_ (b:Nat):∀(l:List (Nat×Value)) (w:World),Fr (fun c _=>c≠b) w (kV w b l)
 | [],w=>Fr.refl _ _
 | x :: l,w=>((Fr.refl _ _).setCell (fun _ _ h=>h rfl) _).trans (b_ b l (w.setCell ⟨b,x.1,none⟩ x.2))
theorem bw {b:Nat} {t:TypeId} {fz:Nat×Nat}:∀(l:List (Nat×Value)) {w:World} {cs:Array Value},w.heap[b]? = some (.cells cs t fz)→(kV w b l).heap[b]? = some (.cells (l.foldl (fun c q=>c.setIfInBounds q.1 q.2) cs) t fz)
 | [],w,cs,h=>h
 | x :: l,w,cs,h=>bw l (w:=w.setCell ⟨b,x.1,none⟩ x.2) (bJ h _)
def NV.noYes (q:NV):NV:={ q with vy:=.slice none 0 0 }
section
variable {X P:Nat→Prop} {w:World} {b:Nat} {n:Nd} {q:NV}
theorem PNs.own [Old] (h:PNs X P w b n q) {w':World} (hf:Fr (fun c _=>c≠b) w w'):Aft X P X P w w':=.of (hf.mono fun c _ hc e=>hc (e▸h.pb)) h.px
theorem gJ [Old] (h:PNs X P w b n q) (t:Nat) (ld:Int):
 Calls Tryz.prog 52 #[.pointer (some ⟨b,0,none⟩),.int .u64 (t:Nat),.int .i64 ld] w fun e w'=>e=.returned (.tuple #[])∧PNs X P w' b (n.follow t ld) q.noYes∧Fr (fun c _=>c≠b) w w':=by
 have x6:=(h.cells (Fr.refl _ w)).2.2.2.2.2.2.1;have x1:=(h.cells (Fr.refl _ w)).2.1;refine kpb ?_;intro x2;have x3:=(h.cells (Fr.refl _ w)).2.2.2.1;have x5:=(h.cells (Fr.refl _ w)).2.2.2.2.2.1;have z1:=h.free (Fr.refl _ w) 1;refine kD1 ?_;intro z2 z3 z5;have z6:=h.free (Fr.refl _ w) 6;by_cases hlt:n.tm<t
 ·have g:decide (n.tm<t)=true:=decide_eq_true hlt
  have R:Hid (PNs X P (kV w b [(6,.int .u64 (t:Nat)),(1,.int .i64 (-1)),(2,.int .i64 0),(3,.int .i64 ld),(5,.slice none 0 0)]) b (n.follow t ld) q.noYes):=by unfold Nd.follow;rw[if_pos hlt];exact mVd
  clear hlt h;go_enter Tryz.func52,Tryz.ntmps52
  exact mtP
 ·have g:decide (n.tm<t)=false:=decide_eq_false hlt
  have R:Hid (PNs X P (kV w b [(2,.int .i64 0),(3,.int .i64 ld),(5,.slice none 0 0)]) b (n.follow t ld) q.noYes):=by unfold Nd.follow;rw[if_neg hlt];exact mVd
  clear hlt h;go_enter Tryz.func52,Tryz.ntmps52
  exact mAj
theorem oth_fn (w:World) (bx b:Nat) (me x:Int) (h0:w.cell? ⟨bx,0,none⟩=some (.pointer (some ⟨b,0,none⟩))) (h1:w.cell? ⟨b,0,none⟩=some (.int .i64 me)):
 Calls Tryz.prog 108 (#[.int .i64 x]++#[.pointer (some ⟨bx,0,none⟩)]) w fun e w'=>e=.returned (.bool (x==me))∧FT w w':=by
 show Calls _ _ #[.int .i64 x,.pointer (some ⟨bx,0,none⟩)] _ _;go_enter Tryz.func108,Tryz.ntmps108
 go_wp2;go_ret;exact⟨rfl,Fr.refl _ _⟩
theorem mz [Old] (h:PNs X P w b n q) (hc:0<n.conf.length∧n.conf.length≤1000):
 Calls Tryz.prog 70 #[.pointer (some ⟨b,0,none⟩)] w fun e w'=>(∃g k,e=.returned (.slice g n.others.length k)∧RowI w' w.heap.size (.slice g n.others.length k) n.others)∧FT w w':=by
 obtain⟨W1,hW1⟩:=zE (w.alloc (.cells #[.pointer (some ⟨b,0,none⟩)] 34 (0,0)));refine kmo ?_;intro F1;have X1:Hid (W1.heap[w.heap.size]? = some (.cells #[.pointer (some ⟨b,0,none⟩)] 34 (0,0))):=hW1▸bZ w _;have x0:=bQ (i:=0) X1 rfl;have x4:=(h.cells F1).2.2.2.2.1;have CL:=zH (tY W1 q.vc n.conf (h.cf.tt F1.out) hc.1 (by omega));have HTOP:=zH h.top;have HLT:Hid (b<w.heap.size):=bX h.top;obtain⟨me,hme⟩:=zE n.me;have HME:=zH hme;obtain⟨cf,hcf⟩:=zE n.conf;have HCF:=zH hcf;rw[hcf] at CL hc
 have OTH:Hid (B8 (fun x=>x==me) cf=n.others):=by show _=_;unfold B8 Nd.others;rw[hcf,hme];congr 1;funext x;by_cases e:x=me <;> simp [e]
 obtain⟨ot,hot⟩:=zE n.others;rw[hot] at OTH ⊢;have SZ:Hid (w.heap.size≤W1.heap.size):=F1.size;clear h hme hcf hot;go_enter Tryz.func70,Tryz.ntmps70
 go_wp2_with fail
 try rw[hW1]
 (with_reducible refine CL.out.mono ?_);rintro e w2 ⟨⟨v2,rfl,r2⟩,f2⟩;have F2:=zH (F1.trans f2);have F12:=zH f2;have R2:=zH r2;have hc1:=hc.1
 obtain⟨g,cap,cur,e2,gB,_⟩:∃g cap cur,v2=.slice (some ⟨g,0,none⟩) cf.length cap∧W1.heap.size≤g∧w2.heap[g]? = some (.cells cur 3 (0,0)):=by
  rcases r2.2 with⟨_,e⟩ | ⟨g,cap,cur,e,hb,hg,_⟩
  ·omega
  ·exact⟨g,cap,cur,e,hb,hg⟩
 subst e2;have hgx:w.heap.size≠g:=by have:=bX X1.out;omega
 have hgb:b≠g:=by have:=HLT.out;have:=SZ.out;omega
 have DC:=zH (LK w2 W1.heap.size g cf.length cap cf 108 #[.pointer (some ⟨w.heap.size,0,none⟩)] (fun x=>x==me) (enters_of Tryz.func108 (by kernel_rfl) rfl) rfl r2 (by omega) (fun W x f=>oth_fn W w.heap.size b me x (f.cell (fun _ _=>hgx) (f2.cell (fun _ _=>trivial) x0)) (f.cell (fun _ _=>hgb) (bQ (F2.out.keep _ _ HTOP.out trivial) (by show _=some (Value.int .i64 me);rw[←HME.out];rfl)))));rw[OTH.out] at DC;have y0:=F12.cell (fun _ _=>trivial) x0;clear CL r2 f2 x4 x0 hc hgx hgb hc1;go_wp2_with fail
 (with_reducible refine DC.out.mono ?_);rintro e w3 ⟨⟨m,rfl,hm,r3⟩,f3⟩;have HM:=zH hm;have R3:=zH r3;have F3:Hid (FT w w3):=Fr.within ((F2.out.tT:Fr (fun c _=>True∧c<w.heap.size) w w2).trans (f3.mono fun c _ h e=>by have:=h.2;have:=SZ.out;omega));clear hm r3 f3 DC y0;go_wp2;go_ret;have hm':=HM;subst hm'
 exact⟨⟨_,cap,rfl,⟨R3.1,by
  rcases R3.2 with h | ⟨g',c',cu',e',hb',r'⟩
  ·exact .inl h
  ·exact .inr ⟨g',c',cu',e',Nat.le_trans SZ hb',r'⟩⟩⟩,F3⟩
end
end
theorem kEE {p q:Prop} (k:q) (h:q→p:=by
 intro kk0 xs W hF hA;have HF:=zH hF;have hE:=ckEnd rfl hA;clear hA hF;simp only[List.map_cons,List.map_nil,ckEqs,ckLook,Nat.reduceBEq] at hE;simp only[fillA,fillL,sA,sB,sC,hE];clear hE;revert HF;revert W;revert xs;exact kk0):p:=h k
theorem kdo {p q:Prop} (k:q) (h:q→p:=by
 have h9:n2.me=n.me∧n2.log.base=n.log.base∧n2.log.bt=n.log.bt∧q2.ve=.slice a8 (le+1) c8:=by rw[←hn2,←hq2];exact⟨rfl,rfl,rfl,rfl⟩
 intro kk0;revert h9;exact kk0):p:=h k
theorem krF {p q:Prop} (k:q) (h:q→p:=by
 have z8:=H2.free (Fr.refl _ W) 8;have z9:=H2.free (Fr.refl _ W) 9;have z10:=H2.free (Fr.refl _ W) 10;intro kk0;revert z10;revert z9;revert z8;exact kk0):p:=h k
theorem m36 {p:Prop} (h:p:=by
 exact bY.nil):p:=h
theorem mBg {p:Prop} (h:p:=by
 skip
 go_simp;(with_reducible refine LA1.out.mono ?_);rintro e w8 ⟨rfl,f8⟩;exact hK _ _ _ rfl f8 rfl):p:=h
theorem moD {p:Prop} (h:p:=by
 have LA1:=zH (LAST W);dsimp only[vL] at LA1;exact mBg):p:=h
theorem m2o {p:Prop} (h:p:=by
 refine bY.p rfl rfl (kPP ?_) ?_
 ·intro xs W HF K' hK;exact moD
 exact m36):p:=h
theorem mD8 {p:Prop} (h:p:=by
 skip
 go_simp;exact hK _ rfl):p:=h
theorem m73 {p:Prop} (h:p:=by
 obtain⟨a,c,e,_⟩:=h.ev.row.form;exact⟨a,_,c,e⟩):p:=h
theorem mqA {p:Prop} (h:p:=by
 intro xs W HF K' hK;obtain⟨y0,y8,y9,y10,y12,y13⟩:=CC3 _ _ wr W HK (UK.trans HF);exact mD8):p:=h
theorem nk [Old] {X:Nat→Prop} (w:World) (b bt:Nat) (a:Option Addr) (n c:Nat) (xs:List EV) (y:EV) (hx:EsAt X w (.slice a n c) xs) (hd:BytesAt (RO X) w (.slice y.a y.d.length y.c) y.d) (hdl:y.d.length≤9223372036854775807) (hm:n+1≤1000000) (hX:∀c,X c→c<w.heap.size):
 Calls Tryz.prog 74 #[vL b bt (.slice a n c),vE y] w fun e w'=>(∃a' c',e=.returned (vL b bt (.slice a' (n+1) c'))∧EsAt X w' (.slice a' (n+1) c') (xs++[y]))∧FT w w':=by
 refine(JW w b bt a n c xs y hx.row hx.row.len'.symm hm).mono fun e w' ⟨a',c',e1,r,f⟩=>⟨⟨a',c',e1,⟨r.mono fun c o _ q=>⟨fun hc=>?_,?_⟩,fun n' c'' e2=>?_,fun z hz=>?_⟩⟩,f⟩
 ·have:=hX c hc;have:=q.1;omega
 ·obtain⟨cs,fz,e2⟩:=q.2;exact .inr ⟨cs,_,_,e2,by decide⟩
 ·obtain⟨b',off,o,e3,_⟩:=r.spot (by simp);rw[Value.slice.injEq] at e2;rw[e2.1] at e3;cases e3
 ·rcases List.mem_append.1 hz with h | h
  ·exact⟨(hx.dat z h).1.tt f,(hx.dat z h).2⟩
  ·rw[List.mem_singleton.1 h];exact⟨hd.tt f,hdl⟩
section
variable {X P:Nat→Prop} {w w':World} {b:Nat} {n n':Nd} {q:NV}
theorem PNs.arrays [Old] {nx mt:List Nat} (h:PNs X P w b n q) (hf:Fr (fun c _=>c≠q.bn∧c≠q.bm) w w') (hn:A16 w' q.bn nx) (hm:A16 w' q.bm mt):PNs X P w' b { n with next:=nx,mat:=mt } q:=by
 have aft:Aft X P X P w w':=.of (hf.mono fun c _ hc=>⟨fun e=>hc (e▸h.pn),fun e=>hc (e▸h.pm)⟩) h.px;exact⟨hf.keep _ _ h.top ⟨fun e=>h.bn_b e.symm,fun e=>h.bm_b e.symm⟩,h.cf.aft aft,bK h.ye hf fun c o e ho=>(h.yb c e).2,h.yp,h.ev.aft aft,h.ee,hn,hm,h.nm,h.pb,h.pn,h.pm,h.px,fun c hc=>Nat.lt_of_lt_of_le (h.hx c hc) hf.size,h.od⟩
def rep (k L:Nat) (l:List Nat):List Nat:=List.replicate k L++l.drop k
theorem Gq (L:Nat) (l:List Nat):rep 0 L l=l:=by simp [rep]
theorem Gz {k L:Nat} {l:List Nat} (h:l.length≤k):rep k L l=List.replicate k L:=by unfold rep;rw[List.drop_of_length_le h,List.append_nil]
theorem M7 {k L:Nat} {l:List Nat} (h:k<l.length):(rep k L l).set k L=rep (k+1) L l:=by
 unfold rep;rw[List.set_append_right _ _ (by simp),List.length_replicate,Nat.sub_self,List.drop_eq_getElem_cons h,List.set_cons_zero,List.replicate_succ',List.append_assoc];rfl
theorem J9 [Old] (h:PNs X P w b n q) (mN:Nat) (hme:n.me=(mN:Nat)) (hm16:mN<16) (hl:n.log.base+q.es.length+1<18446744073709551616) (hle:q.es.length≤900000):
 Calls Tryz.prog 126 #[.pointer (some ⟨b,0,none⟩)] w fun e w'=>e=.returned (.tuple #[])∧(∃q',PNs X P w' b n.lead q'∧q'.es.length=q.es.length+1)∧Fr (fun c _=>¬P c) w w':=by
 obtain⟨x0,x1,x2,x3,x4,x5,x6,x7,x8,x9,x10,x11,x12,x13⟩:=h.cells (Fr.refl _ w);refine kD1 ?_;intro z2 z3 z5;obtain⟨n1,hn1⟩:∃m:Nd,{ n with role:=3,ld:=n.me,yes:=[] }=m:=⟨_,rfl⟩
 have h1:PNs X P (kV w b [(2,.int .i64 3),(3,.int .i64 n.me),(5,.slice none 0 0)]) b { n with role:=3,ld:=n.me,yes:=[] } q.noYes:=h.re (b_ b _ w) (bw _ h.top) ⟨rfl,rfl⟩ (.inr ⟨rfl,rfl⟩) ⟨rfl,rfl,rfl⟩ ⟨rfl,rfl,rfl,rfl⟩;obtain⟨W1,hW1⟩:=zE (kV w b [(2,.int .i64 3),(3,.int .i64 n.me),(5,.slice none 0 0)]);have hW1':((w.setCell ⟨b,2,none⟩ (.int .i64 3)).setCell ⟨b,3,none⟩ (.int .i64 n.me)).setCell ⟨b,5,none⟩ (.slice none 0 0)=W1:=hW1;have F1:Hid (Fr (fun c _=>c≠b) w W1):=hW1▸b_ b _ w;rw[hW1] at h1
 obtain⟨ae,le,ce,hve⟩:∃ae le ce,q.ve=.slice ae le ce:=by exact m73
 have hlen:q.es.length=le:=by have:=h.ev.row;rw[hve] at this;exact this.len'.symm
 have ADD:Hid (∀W,FT W1 W→Calls Tryz.prog 74 #[vL n.log.base n.log.bt (.slice ae le ce),vE ⟨n.tm,0,none,0,[]⟩] W fun e w'=>(∃a' c',e=.returned (vL n.log.base n.log.bt (.slice a' (le+1) c'))∧EsAt X w' (.slice a' (le+1) c') (q.es++[⟨n.tm,0,none,0,[]⟩]))∧FT W w'):=fun W f=>by
  refine nk W _ _ ae le ce q.es ⟨n.tm,0,none,0,[]⟩ ?_ (BytesAt.nil _ _) (Nat.zero_le _) (by omega) fun c hc=>Nat.lt_of_lt_of_le (h1.hx c hc) f.size
  rw[←hve];exact h1.ev.tt f
 have CC1:Hid (∀W,FT W1 W→W.cell? ⟨b,0,none⟩=some (.int .i64 n.me)∧W.cell? ⟨b,6,none⟩=some (.int .u64 (n.tm:Nat))∧W.cell? ⟨b,8,none⟩=some (.int .u64 (n.log.base:Nat))∧W.cell? ⟨b,9,none⟩=some (.int .u64 (n.log.bt:Nat))∧W.cell? ⟨b,10,none⟩=some (.slice ae le ce)):=fun W f=>by obtain⟨x0,x1,x2,x3,x4,x5,x6,x7,x8,x9,x10,x11,x12,x13⟩:=h1.cells f;exact⟨x0,x6,x8,x9,by rw[←hve];exact x10⟩
 have H:=zH h;have H1:=zH h1;have HVE:=zH hve;have HLN:=zH hlen;have HN1:=zH hn1;have U1:Hid (FT W1 W1.drew):=(Fr.refl _ _).drew;have HL:Hid (n.log.base+le+1<18446744073709551616):=by show _<_;omega
 have HME:=zH hme;clear h h1 hve hlen hn1 hl hW1 hme;go_enter Tryz.func126,Tryz.ntmps126
 go_wp2_with fail
 try rw[hW1']
 clear hW1' x0 x1 x2 x3 x4 x5 x6 x7 x8 x9 x10 x11 x12 x13 z2 z3 z5;refine wpR [(16,0),(17,1),(18,2),(19,3),(20,4),(21,5),(22,6),(23,7),(24,8),(25,9),(26,10),(27,11),(28,12)] [(0,[]),(1,[]),(2,[1]),(3,[2]),(4,[3]),(5,[]),(6,[5]),(7,[6]),(8,[7]),(9,[8]),(11,[0]),(12,[11]),(10,[4,9])] (ckR [(0,.pointer (some ⟨b,0,none⟩)),(1,.pointer (some ⟨b,0,none⟩)),(2,.pointer (some ⟨b,0,none⟩)),(3,.pointer (some ⟨b,8,none⟩)),(4,.agg #[.int .u64 (n.log.base:Nat),.int .u64 (n.log.bt:Nat),.slice ae le ce]),(5,.pointer (some ⟨b,0,none⟩)),(6,.pointer (some ⟨b,0,none⟩)),(7,.pointer (some ⟨b,6,none⟩)),(8,.int .u64 (n.tm:Nat)),(9,.agg #[.int .u64 (n.tm:Nat),.int .i64 0,.slice none 0 0]),(11,.pointer (some ⟨b,0,none⟩)),(12,.pointer (some ⟨b,8,none⟩))] [(10,⟨fun v W=>∃a' c',v=vL n.log.base n.log.bt (.slice a' (le+1) c')∧EsAt X W (.slice a' (le+1) c') (q.es++[⟨n.tm,0,none,0,[]⟩]),fun v W W' h hf=>by obtain⟨a',c',h1,h2⟩:=h;exact⟨a',c',h1,h2.tt hf⟩⟩)] 13 0) 1 rfl ?cfall ?cfend
 case cfall=>
  iterate 12
   refine bY.q rfl rfl rfl (kQQ ?_) ?_
   ·intro xs W HF K' hK;obtain⟨x0,x6,x8,x9,x10⟩:=CC1 W (U1.trans HF);exact mD8
  refine bY.p rfl rfl (kPP ?_) ?_
  ·intro xs W HF K' hK;have AD1:=zH (ADD W (U1.trans HF));dsimp only[vL,vE,List.length_nil] at AD1 ⊢
   skip
   go_simp;(with_reducible refine AD1.out.mono ?_);rintro e w8 ⟨⟨a8,c8,rfl,r8⟩,f8⟩;exact hK _ _ _ rfl f8 ⟨a8,c8,rfl,r8⟩
  exact m36
 case cfend=>
  refine kEH ?_;intro xs W HF hA;have h10:=hA (10,[4,9]) (by decide);clear hA;obtain⟨a8,c8,e10,r8⟩:=h10;rw[e10];have R8:=zH r8;clear e10 r8;have F2:=zH (U1.trans HF);have H2:=zH (H1.tt F2);obtain⟨x0,x1,x2,x3,x4,x5,x6,x7,x8,x9,x10,x11,x12,x13⟩:=H2.cells (Fr.refl _ W);refine krF ?_;intro z8 z9 z10;unfold vL;refine wpN 13 rfl fun K' hK=>?_
  skip
  go_simp;refine hK _ _ ?_;clear hK K';refine wpF ?_;obtain⟨n2,hn2⟩:∃m:Nd,{ n with role:=3,ld:=n.me,yes:=[],log:=n.log.add ⟨n.tm,0,[]⟩ }=m:=⟨_,rfl⟩
  obtain⟨q2,hq2⟩:∃m:NV,{ q.noYes with ve:=.slice a8 (le+1) c8,es:=q.es++[⟨n.tm,0,none,0,[]⟩] }=m:=⟨_,rfl⟩
  obtain⟨W2,hW2⟩:=zE (kV W b [(8,.int .u64 (n.log.base:Nat)),(9,.int .u64 (n.log.bt:Nat)),(10,.slice a8 (le+1) c8)]);have hW2':((W.setCell ⟨b,8,none⟩ (.int .u64 (n.log.base:Nat))).setCell ⟨b,9,none⟩ (.int .u64 (n.log.bt:Nat))).setCell ⟨b,10,none⟩ (.slice a8 (le+1) c8)=W2:=hW2
  have h3:PNs X P W2 b { n with role:=3,ld:=n.me,yes:=[],log:=n.log.add ⟨n.tm,0,[]⟩ } { q.noYes with ve:=.slice a8 (le+1) c8,es:=q.es++[⟨n.tm,0,none,0,[]⟩] }:=by rw[←hW2];refine H2.reE (b_ b _ W) (bw _ H2.top) ⟨rfl,rfl⟩ (.inl ⟨rfl,rfl⟩) ⟨?_,R8⟩ ⟨rfl,rfl,rfl,rfl⟩;show n.log.es++_=_;rw[List.map_append,H.out.ee];rfl
  rw[hn2,hq2] at h3;have H3:=zH h3;have F3:Hid (Fr (fun c _=>¬P c) w W2):=((F1.out.mono fun c _ hc e=>hc (e▸H.out.pb)).trans (F2.out.tT)).trans (hW2▸(b_ b _ W).mono fun c _ hc e=>hc (e▸H.out.pb));obtain⟨bn,hbn⟩:=zE q2.bn;obtain⟨bm,hbm⟩:=zE q2.bm;obtain⟨cn,hcn⟩:=zE q2.cn;obtain⟨cm,hcm⟩:=zE q2.cm;have HQ2:=zH (And.intro hbn (And.intro hbm (And.intro hcn hcm)));obtain⟨L,hL⟩:=zE (n.log.base+(le+1));have LAST:=zH (fun W=>cz W n.log.base n.log.bt a8 (le+1) c8 (by have:=HL.out;omega));rw[hL] at LAST;have HLL:=zH hL;refine kdo ?_;intro h9
  have CC3:Hid (∀(nx mt:List Nat) W W',PNs X P W b { n2 with next:=nx,mat:=mt } q2→FT W W'→W'.cell? ⟨b,0,none⟩=some (.int .i64 (mN:Nat))∧W'.cell? ⟨b,8,none⟩=some (.int .u64 (n.log.base:Nat))∧W'.cell? ⟨b,9,none⟩=some (.int .u64 (n.log.bt:Nat))∧W'.cell? ⟨b,10,none⟩=some (.slice a8 (le+1) c8)∧W'.cell? ⟨b,12,none⟩=some (.slice (some ⟨bn,0,none⟩) 16 cn)∧W'.cell? ⟨b,13,none⟩=some (.slice (some ⟨bm,0,none⟩) 16 cm)):=fun nx mt W W' h f=>by
   obtain⟨x0,x1,x2,x3,x4,x5,x6,x7,x8,x9,x10,x11,x12,x13⟩:=h.cells f;refine⟨?_,?_,?_,?_,?_,?_⟩
   ·rw[x0];show some (Value.int .i64 n2.me)=_;rw[h9.1,HME.out]
   ·rw[x8];show some (d8 n2.log.base)=_;rw[h9.2.1]
   ·rw[x9];show some (d8 n2.log.bt)=_;rw[h9.2.2.1]
   ·rw[x10,h9.2.2.2]
   ·rw[x12,HQ2.out.1,HQ2.out.2.2.1]
   ·rw[x13,HQ2.out.2.1,HQ2.out.2.2.2]
  obtain⟨nx0,hnx0⟩:=zE n2.next;obtain⟨mt0,hmt0⟩:=zE n2.mat;have L16:Hid (nx0.length=16∧mt0.length=16):=⟨hnx0▸h3.nx.1,hmt0▸h3.mt.1⟩
  have H30:Hid (PNs X P W2 b { n2 with next:=rep 0 L nx0,mat:=rep 0 0 mt0 } q2):=by show PNs _ _ _ _ _ _;rw[Gq,Gq,←hnx0,←hmt0];exact h3
  have HN2:=zH hn2;have HQQ:=zH hq2;have HX0:=zH (And.intro hnx0 hmt0);obtain⟨y0,y8,y9,y10,y12,y13⟩:=CC3 _ _ W2 W2 H30 (Fr.refl _ _)
  try rw[hW2']
  clear hW2 hW2' h3 hn2 hq2 hbn hbm hcn hcm hL h9 hnx0 hmt0 x0 x1 x2 x3 x4 x5 x6 x7 x8 x9 x10 x11 x12 x13 z8 z9 z10;go_wp2;clear y0 y8 y9 y10 y12 y13;go_loopw [34] (fun i wr=>∃k:Nat,i=.int .i64 (k:Nat)∧k≤16∧Hid (PNs X P wr b { n2 with next:=rep k L nx0,mat:=rep k 0 mt0 } q2)∧Hid (Fr (fun c _=>¬P c) w wr)) (fun i _=>16-(intOf i).toNat)
  case atStart=>exact⟨0,rfl,Nat.zero_le _,H30,F3⟩
  case round=>
   obtain⟨k,rfl,hk,HK,HFK⟩:=hrel;by_cases hlt:k<16
   ·have hltI:(k:Int)<16:=by omega
    have k0:(0:Int)≤(k:Int):=by omega
    have UK:Hid (FT wr wr.drew):=(Fr.refl _ _).drew;go_wp2_with fail
    refine cY (K:=fun _ _=>True) (vt:=.int .i64 (k:Nat)) 9 rfl (by kernel_rfl) (by kernel_rfl) (by kernel_rfl) (fun _ _ _ h=>h) (Or.inl ⟨by rfl,?cfy⟩) (by kernel_rfl) [(37,0),(38,1),(39,2),(40,3),(41,4),(42,5),(43,6),(44,7),(45,8),(46,9),(47,10),(48,11),(49,12),(50,13),(51,14),(52,15),(53,17)] [(0,[]),(1,[0]),(2,[1]),(3,[2]),(4,[]),(5,[]),(6,[5]),(7,[6]),(8,[7]),(9,[]),(10,[]),(11,[10]),(12,[11]),(13,[12]),(14,[13])] (ckR [(0,.pointer (some ⟨b,0,none⟩)),(1,.pointer (some ⟨b,0,none⟩)),(2,.pointer (some ⟨b,12,none⟩)),(3,.slice (some ⟨bn,0,none⟩) 16 cn),(4,.int .i64 (k:Nat)),(5,.pointer (some ⟨b,0,none⟩)),(6,.pointer (some ⟨b,0,none⟩)),(7,.pointer (some ⟨b,13,none⟩)),(8,.slice (some ⟨bm,0,none⟩) 16 cm),(9,.int .i64 (k:Nat)),(10,.pointer (some ⟨b,0,none⟩)),(11,.pointer (some ⟨b,0,none⟩)),(12,.pointer (some ⟨b,8,none⟩)),(13,.agg #[.int .u64 (n.log.base:Nat),.int .u64 (n.log.bt:Nat),.slice a8 (le+1) c8]),(14,.int .u64 (L:Nat))] [] 15 0) 4 (by kernel_rfl) (by kernel_rfl) (by kernel_rfl) rfl (fun _=>rfl) (by rfl) 46 rfl (by simp) ?cfall ?cfend
    case cfy=>(intro w;(try simp only[gA,gB,gC]);go_simp)
    case cfall=>
     iterate 14
      refine bY.q rfl rfl rfl (kQQ ?_) ?_
      ·exact mqA
     exact m2o
    case cfend=>
     refine kEE ?_;intro xs W HF;have HB:=zH (UK.trans HF);have HK2:=zH (HK.tt HB);have An:=HK2.nx;have Am:=HK2.mt;rw[HQ2.out.1] at An;rw[HQ2.out.2.1] at Am;have hne:bn≠bm:=by have:=HK2.out.nm;rw[HQ2.out.1,HQ2.out.2.1] at this;exact this
     have an0:=An.cell k (by omega);have an1:=An.free k;have An2:=An.set k L (by omega);obtain⟨WN,hWN⟩:=zE (W.setCell ⟨bn,k,none⟩ (.int .u64 (L:Nat)));have fN:Fr (fun c _=>c≠bn) W WN:=hWN▸(Fr.refl _ _).setCell (fun _ _ h=>h rfl) _;have Am1:=Am.fr fN fun _ _=>(Ne.symm hne)
     have am0:=Am1.cell k (by omega);have am1:=Am1.free k;have Am2:=Am1.set k 0 (by omega);obtain⟨WM,hWM⟩:=zE (WN.setCell ⟨bm,k,none⟩ (.int .u64 0));have fM:Fr (fun c _=>c≠bm) WN WM:=hWM▸(Fr.refl _ _).setCell (fun _ _ h=>h rfl) _
     have HK3:Hid (PNs X P WM b { n2 with next:=rep (k+1) L nx0,mat:=rep (k+1) 0 mt0 } q2):=by
      have a1:A16 WM bn (rep (k+1) L nx0):=by rw[←M7 (by have:=L16.out;omega)];exact(hWN▸An2).fr fM fun _ _=>hne
      have a2:A16 WM bm (rep (k+1) 0 mt0):=by rw[←M7 (by have:=L16.out;omega)];exact hWM▸Am2
      refine HK2.out.arrays (w':=WM) ?_ (by rw[HQ2.out.1];exact a1) (by rw[HQ2.out.2.1];exact a2);rw[HQ2.out.1,HQ2.out.2.1];exact(fN.mono fun c _ h=>h.1).trans (fM.mono fun c _ h=>h.2)
     have FK3:Hid (Fr (fun c _=>¬P c) w WM):=by
      have f1:Fr (fun c _=>¬P c) W WN:=fN.mono fun c _ (h:¬P c) e=>h (by rw[e,←HQ2.out.1];exact H3.out.pn)
      have f2:Fr (fun c _=>¬P c) WN WM:=fM.mono fun c _ (h:¬P c) e=>h (by rw[e,←HQ2.out.2.1];exact H3.out.pm)
      exact((HFK.trans (HB.tT)).trans f1).trans f2
     clear An Am An2 Am1 Am2 fN fM;refine wpN 15 rfl fun K' hK=>?_
     skip
     go_simp;refine hK _ _ ?_;clear hK K';refine wpN 16 rfl fun K' hK=>?_
     skip
     go_simp;refine hK _ _ ?_;clear hK K';refine wpN 17 rfl fun K' hK=>?_
     try rw[hWN]
     skip
     go_simp;refine hK _ _ ?_;clear hK K';refine wpN 18 rfl fun K' hK=>?_
     skip
     go_simp;refine hK _ _ ?_;clear hK K';refine wpF ?_
     try rw[hWN]
     try rw[hWM]
     clear an0 an1 am0 am1 hWN hWM;go_wp2;go_roundw
     case rel=>exact⟨k+1,by go_num,by omega,HK3.out,FK3.out⟩
     case measure=>simp [intOf];omega
   ·have hge:¬(k:Int)<16:=by omega
    obtain rfl:k=16:=by omega
    have mN0:(0:Int)≤(mN:Int):=by omega
    have mN16:(mN:Int)<16:=by omega
    have UK:Hid (FT wr wr.drew):=(Fr.refl _ _).drew;go_wp2_with fail
    refine wpR [(55,0),(56,1),(57,2),(58,3),(59,4),(60,5),(61,6),(62,7),(63,8),(64,9),(65,10),(66,11),(67,12),(68,13)] [(0,[]),(1,[0]),(2,[1]),(3,[2]),(4,[]),(5,[4]),(6,[5]),(7,[6]),(8,[]),(9,[8]),(10,[9]),(11,[10]),(12,[11])] (ckR [(0,.pointer (some ⟨b,0,none⟩)),(1,.pointer (some ⟨b,0,none⟩)),(2,.pointer (some ⟨b,13,none⟩)),(3,.slice (some ⟨bm,0,none⟩) 16 cm),(4,.pointer (some ⟨b,0,none⟩)),(5,.pointer (some ⟨b,0,none⟩)),(6,.pointer (some ⟨b,0,none⟩)),(7,.int .i64 (mN:Nat)),(8,.pointer (some ⟨b,0,none⟩)),(9,.pointer (some ⟨b,0,none⟩)),(10,.pointer (some ⟨b,8,none⟩)),(11,.agg #[.int .u64 (n.log.base:Nat),.int .u64 (n.log.bt:Nat),.slice a8 (le+1) c8]),(12,.int .u64 (L:Nat))] [] 13 0) 2 rfl ?cfall ?cfend
    case cfall=>
     iterate 12
      refine bY.q rfl rfl rfl (kQQ ?_) ?_
      ·exact mqA
     exact m2o
    case cfend=>
     refine kEE ?_;intro xs W HF;have HB:=zH (UK.trans HF);have HK2:=zH (HK.tt HB);have Am:=HK2.mt;rw[HQ2.out.2.1] at Am;have am0:=Am.cell mN hm16;have am1:=Am.free mN;have Am2:=Am.set mN L hm16;obtain⟨WM,hWM⟩:=zE (W.setCell ⟨bm,mN,none⟩ (.int .u64 (L:Nat)));have fM:Fr (fun c _=>c≠bm) W WM:=hWM▸(Fr.refl _ _).setCell (fun _ _ h=>h rfl) _;have FK3:Hid (Fr (fun c _=>¬P c) w WM):=(HFK.out.trans (HB.out.tT)).trans (fM.mono fun c _ h e=>h (by rw[e,←HQ2.out.2.1];exact H3.out.pm))
     have HK3:Hid (∃q',PNs X P WM b n.lead q'∧q'.es.length=q.es.length+1):=by
      refine⟨q2,?_,?_⟩
      ·have e:n.lead={ n2 with next:=rep 16 L nx0,mat:=(rep 16 0 mt0).set mN L }:=by
        rw[Gz (by have:=L16.out;omega),Gz (by have:=L16.out;omega),←HN2.out];unfold Nd.lead
        have e1:n.log.last+1=L:=by unfold Lg.last;rw[H.out.ee,List.length_map,HLN.out,←HLL.out,Nat.add_assoc]
        have e2:n.me.toNat=mN:=by rw[HME.out];rfl
        rw[e1,e2]
       rw[e];refine HK2.out.arrays (w':=WM) ?_ (HK2.out.nx.fr fM fun _ _=>by rw[←HQ2.out.2.1];exact HK2.out.nm) (by rw[HQ2.out.2.1];exact hWM▸Am2);rw[HQ2.out.2.1];exact fM.mono fun c _ h=>h.2
      ·rw[←HQQ.out];show (q.es++[_]).length=_;simp
     clear Am Am2 fM;refine wpN 13 rfl fun K' hK=>?_
     skip
     go_simp;refine hK _ _ ?_;clear hK K';refine wpN 14 rfl fun K' hK=>?_
     skip
     go_simp;refine hK _ _ ?_;clear hK K';refine wpF ?_
     try rw[hWM]
     go_wp2;go_end0;exact⟨rfl,HK3,FK3⟩
end
theorem k4o {p q:Prop} (k:q) (h:q→p:=by
 obtain⟨cur,hc⟩:=cZ ROW2 (c:=bo) rfl;have hc':w2.heap[bo]? = some o:=ho;rw[hc] at hc';intro kk0;revert hc';revert hc;revert cur;exact kk0):p:=h k
theorem m6g {p:Prop} (h:p:=by
 obtain⟨cur,hc⟩:=htag i e;rw[hc] at hi;cases hi;obtain⟨cs,fz,e⟩:=hk;cases e):p:=h
theorem Fr.monoH {K K':Nat→Obj→Prop} {a b:World} (h:Fr K a b) (hK:∀i o,a.heap[i]? = some o→K' i o→K i o):Fr K' a b:=⟨h.os,h.tape,h.output,h.size,fun i o hi hk=>h.keep i o hi (hK i o hi hk)⟩
def KI (_:Nat) (o:Obj):Prop:=∃cs fz,o=.cells cs 3 fz
abbrev cM (m:MV):Array Value:=#[.int .i64 m.kind,.int .i64 m.src,.int .i64 m.dst,.int .u64 (m.tm:Nat),.int .u64 (m.index:Nat),.int .u64 (m.prev:Nat),.int .u64 (m.commit:Nat),.bool m.ok,.slice m.da m.d.length m.dc,.slice m.ea m.es.length m.ec]
theorem xv (w:World) (m:MV):∃W,w.alloc (.cells (cM m) 32 (0,0))=W∧Hid (FT w W)∧Hid (W.heap[w.heap.size]? = some (.cells (cM m) 32 (0,0))):=⟨_,rfl,(Fr.refl _ _).alloc _,bZ w _⟩
theorem bq {W:World} {g:Nat} {m:MV} (h:W.heap[g]? = some (.cells (cM m) 32 (0,0))):W.cell? ⟨g,0,none⟩=some (.int .i64 m.kind)∧W.cell? ⟨g,1,none⟩=some (.int .i64 m.src)∧W.cell? ⟨g,2,none⟩=some (.int .i64 m.dst)∧W.cell? ⟨g,3,none⟩=some (.int .u64 (m.tm:Nat))∧W.cell? ⟨g,4,none⟩=some (.int .u64 (m.index:Nat))∧W.cell? ⟨g,5,none⟩=some (.int .u64 (m.prev:Nat))∧W.cell? ⟨g,6,none⟩=some (.int .u64 (m.commit:Nat))∧W.cell? ⟨g,7,none⟩=some (.bool m.ok)∧W.cell? ⟨g,8,none⟩=some (.slice m.da m.d.length m.dc)∧W.cell? ⟨g,9,none⟩=some (.slice m.ea m.es.length m.ec):=
 ⟨bQ h rfl,bQ h rfl,bQ h rfl,bQ h rfl,bQ h rfl,bQ h rfl,bQ h rfl,bQ h rfl,bQ h rfl,bQ h rfl⟩
section
variable {X P:Nat→Prop} {w:World} {b:Nat} {n:Nd} {q:NV}
def vQ (me:Int) (m:MV) (x:Int):MV:={ m with src:=me,dst:=x }
theorem nY [Old] (h:PNs X P w b n q) (hc:0<n.conf.length∧n.conf.length≤1000) (m:MV) (hm:MsAt X w m):
 Calls Tryz.prog 98 #[.pointer (some ⟨b,0,none⟩),.agg (cM m)] w fun e w'=>(∃v,e=.returned v∧OwnMs X w.heap.size w' v (n.others.map (vQ n.me m)))∧FT w w':=by
 obtain⟨W1,hW1,F1,X1⟩:=xv w m;have OC:=zH (mz (h.tt F1) hc);have hol:n.others.length≤1000:=Nat.le_trans (List.length_filter_le _ _) hc.2;have H:=zH h;have HM:=zH hm;obtain⟨ot,hot⟩:=zE n.others;rw[hot] at OC hol ⊢;obtain⟨me,hme⟩:=zE n.me;rw[hme]
 have CB:Hid (∀W,Fr (fun c _=>c≠w.heap.size) W1 W→W.cell? ⟨b,0,none⟩=some (.int .i64 me)):=fun W f=>by refine f.cell (fun _ _=>?_) (by rw[←hme];exact(h.cells F1.out).1);have:=bX h.top;show b≠_;omega
 refine kpX ?_;intro S1;have SW1:Hid (W1.heap.size=w.heap.size+1):=by show _=_;rw[←hW1,World.size_alloc]
 have HX:Hid (∀c,X c→c<w.heap.size):=h.hx;clear h hot hme hm hc;unfold cM;unfold cM at hW1 X1;go_enter Tryz.func98,Tryz.ntmps98
 go_wp2_with fail
 try rw[hW1]
 (with_reducible refine OC.out.mono ?_);rintro e w2 ⟨⟨go,ko,rfl,ro⟩,f2⟩;have F2:=zH f2;have RO2:=zH ro.ints;have ROW2:=zH ro;have X2:Hid (w2.heap[w.heap.size]? = some (.cells (cM (vQ m.src m m.dst)) 32 (0,0))):=f2.keep _ _ X1 trivial;have O0:Hid (w2.ownsRow w.heap.size 32 10 (.slice none 0 0) (([]:List Int).map (vQ me m)).length ((([]:List Int).map (vQ me m)).flatMap encM)):=⟨rfl,.inl ⟨rfl,rfl⟩⟩
 have FW2:=zH (F1.trans f2);clear ro f2 OC hW1;go_wp2;go_loopw [5,11] (fun o i wr=>∃(k:Nat) (g:Option Addr) (l c:Nat) (s d:Int) (T:List Int),i=.int .i64 (k:Nat)∧k≤ot.length∧o=.slice g l c∧Hid (T=ot.take k)∧Hid ((T.map (vQ me m)).length=l)∧Hid (wr.ownsRow w.heap.size 32 10 (.slice g l c) (T.map (vQ me m)).length ((T.map (vQ me m)).flatMap encM))∧Hid ((Value.slice g l c).ownBlock≠some w.heap.size)∧Hid (wr.heap[w.heap.size]? = some (.cells (cM (vQ s m d)) 32 (0,0)))∧Hid (Fr (fun c _=>c≠w.heap.size) W1 wr)∧Hid (Fr KI w2 wr)∧Hid (FT w wr)) (fun _ i _=>ot.length-(intOf i).toNat)
 case atStart=>exact⟨0,none,0,0,m.src,m.dst,[],rfl,Nat.zero_le _,rfl,rfl,rfl,O0,fun e=>(by cases e),X2,F2.tT,Fr.refl _ _,FW2⟩
 case round=>
  obtain⟨k,g,l,c,s,d,T,rfl,hk,rfl,HT,HL,HO,HNE,HB,HF1,HF2,HFW⟩:=hrel;by_cases hlt:k<ot.length
  ·have hltI:(k:Int)<(ot.length:Int):=by omega
   obtain⟨bo,oo,rfl⟩:=RO2.out.addr (by omega);have hcell:=RO2.cell hlt;obtain⟨x,hx⟩:=zE (ot[k]);rw[hx] at hcell
   have u0:=HF2.cell (p:=⟨bo,oo+k,none⟩) (fun o ho=>by refine k4o ?_;intro cur hc hc';cases hc';exact⟨_,_,rfl⟩) hcell
   have n0:=CB wr HF1;have y1:=bV (i:=1) HB;have y2:=bV (i:=2) HB;obtain⟨s0,s1,s2,s3,s4,s5,s6,s7,s8,s9⟩:=bq HB;obtain⟨W3,hW3⟩:=zE (kV wr w.heap.size [(1,.int .i64 me),(2,.int .i64 x)]);have hW3':(wr.setCell ⟨w.heap.size,1,none⟩ (.int .i64 me)).setCell ⟨w.heap.size,2,none⟩ (.int .i64 x)=W3:=hW3;have T3:Hid (W3.heap[w.heap.size]? = some (.cells (cM (vQ me m x)) 32 (0,0))):=hW3▸bw _ HB.out;have F3:Hid (Fr (fun c _=>c≠w.heap.size) wr W3):=hW3▸b_ _ _ wr;obtain⟨W4,hW4,F4,X4⟩:=xv W3 (vQ me m x);have hW4':W3.alloc (.cells #[.int .i64 m.kind,.int .i64 me,.int .i64 x,.int .u64 (m.tm:Nat),.int .u64 (m.index:Nat),.int .u64 (m.prev:Nat),.int .u64 (m.commit:Nat),.bool m.ok,.slice m.da m.d.length m.dc,.slice m.ea m.es.length m.ec] 32 (0,0))=W4:=hW4;have ROW:=zH (yj X4);have FW3:Hid (FT w W3):=Fr.within ((HFW.out.tT:Fr (fun c _=>True∧c<w.heap.size) w wr).trans (F3.out.mono fun c _ h e=>by have:=h.2;omega));have FW4:=zH (FW3.trans F4);have OW4:Hid (W4.ownsRow w.heap.size 32 10 (.slice g l c) (T.map (vQ me m)).length ((T.map (vQ me m)).flatMap encM)):=bK (bK HO.out F3.out fun c o e _ h=>HNE.out (h▸e)) F4.out fun _ _ _ _=>trivial
   have SM:Hid (T.map (vQ me m)++[vQ me m x]=(ot.take (k+1)).map (vQ me m)):=by show _=_;rw[List.take_succ_eq_append_getElem hlt,List.map_append,hx,HT.out];rfl
   have HL4:Hid (((ot.take (k+1)).map (vQ me m)).length=l+1):=by show _=_;rw[←SM.out,List.length_append,HL.out];rfl
   have hl1:l+1≤1000000:=by have:=HL.out;rw[List.length_map,HT.out,List.length_take] at this;omega
   obtain⟨p0,p1,p2,p3,p4,p5,p6,p7,p8,p9⟩:=bq T3;have p1':W3.cell? ⟨w.heap.size,1,none⟩=some (.int .i64 me):=p1;have p2':W3.cell? ⟨w.heap.size,2,none⟩=some (.int .i64 x):=p2;have p0':W3.cell? ⟨w.heap.size,0,none⟩=some (.int .i64 m.kind):=p0;have p3':W3.cell? ⟨w.heap.size,3,none⟩=some (.int .u64 (m.tm:Nat)):=p3;have p4':W3.cell? ⟨w.heap.size,4,none⟩=some (.int .u64 (m.index:Nat)):=p4;have p5':W3.cell? ⟨w.heap.size,5,none⟩=some (.int .u64 (m.prev:Nat)):=p5;have p6':W3.cell? ⟨w.heap.size,6,none⟩=some (.int .u64 (m.commit:Nat)):=p6;have p7':W3.cell? ⟨w.heap.size,7,none⟩=some (.bool m.ok):=p7;have p8':W3.cell? ⟨w.heap.size,8,none⟩=some (.slice m.da m.d.length m.dc):=p8;have p9':W3.cell? ⟨w.heap.size,9,none⟩=some (.slice m.ea m.es.length m.ec):=p9;clear hx hcell s0 s3 s4 s5 s6 s7 s8 s9 p0 p1 p2 p3 p4 p5 p6 p7 p8 p9 hW3 hW4;go_wp2_with (at_builtin;(try rw[hW3']);(try rw[hW4']);refine dx w W4 FW4 rfl _ _ rfl _ _ rfl OW4 _ [vQ me m x] rfl ROW _ SM (l+1) HL4 hl1 ?_)
   intro g5 c5 W5 O5 F5 G5 N5;go_wp2;go_roundw
   case rel=>
    have k5:W5.heap[w.heap.size]? = _:=G5.keep _ _ (F4.keep _ _ T3 trivial) (by exact HNE);have hown:∀cb,(Value.slice g l c).ownBlock=some cb→w.heap.size≤cb:=d_ HO;have htag:∀cb,(Value.slice g l c).ownBlock=some cb→∃cur,W4.heap[cb]? = some (.cells cur 32 (0,0)):=fun cb e=>cZ OW4 e
    have ki3:Fr KI wr W3:=F3.monoH fun i o hi hk e=>by subst e;have hb:=HB;rw[hb] at hi;cases hi;obtain⟨cs,fz,e⟩:=hk;cases e
    have ki5:Fr KI W4 W5:=G5.monoH fun i o hi hk e=>by exact m6g
    have f1:Fr (fun c _=>c≠w.heap.size) W1 W5:=by
     have q:=((HF1.mono (K':=fun c _=>c≠w.heap.size∧c<W1.heap.size) fun c _ h=>h.1).trans (F3.mono fun c _ h=>h.1)).trans (F4.tT)
     have q2:Fr (fun c _=>c≠w.heap.size∧c<W1.heap.size) W4 W5:=G5.mono fun cb _ h e=>by have:=hown cb e;have:=SW1.out;omega
     exact(q.trans q2).within
    exact⟨k+1,g5,l+1,c5,me,x,ot.take (k+1),by go_num,by omega,rfl,rfl,HL4.out,by show World.ownsRow _ _ _ _ _ _ _;rw[HL4.out,List.map_take];exact O5.out,N5.out.ne HNE.out (Nat.lt_of_lt_of_le S1.out (by have:=HF1.out.size;have:=F3.out.size;have:=F4.out.size;omega)),k5,f1,((HF2.out.trans ki3).trans (F4.out.tT)).trans ki5,F5.out⟩
   case measure=>simp [intOf];omega
  ·have hge:¬(k:Int)<(ot.length:Int):=by omega
   have HTT:Hid (T=ot):=by show _=_;rw[HT.out,List.take_of_length_le (by omega)]
   go_wp2;go_ret;have hl':=HL;have ho':=HO;rw[HTT.out] at hl' ho';refine⟨⟨_,rfl,⟨ho',fun cb e hc=>?_,fun z hz=>?_⟩⟩,HFW⟩
   ·have:=HX.out cb hc;have:=d_ ho' cb e;omega
   ·obtain⟨x,_,rfl⟩:=List.mem_map.1 hz;exact⟨HM.dat.tt HFW,HM.es.tt HFW⟩
end
theorem mGh {p:Prop} (h:p:=by
 rw[Array.getElem?_eq_none (by rw[hs];omega),Array.getElem?_eq_none (by show 44≤_;omega)]):p:=h
theorem mO6 {p:Prop} (h:p:=by
 rw[jV (by omega)];by_cases e:i=j
 ·subst e;rw[if_pos rfl,if_pos rfl,if_pos (by omega)]
 ·rw[if_neg (by omega),if_neg e]):p:=h
structure DV where
 vc:Value
 vy:Value
 ve:Value
 es:List EV
 deriving Inhabited
abbrev c16 (l:List Nat) (i:Nat):Value:=d8 (l.getD i 0)
def W44 (n:Nd) (q:DV):Array Value:=#[.int .i64 n.me,.int .i64 n.vote,.int .i64 n.role,.int .i64 n.ld,q.vc,q.vy,d8 n.tm,d8 n.commit,d8 n.log.base,d8 n.log.bt,q.ve,.bool n.heard,
 c16 n.next 0,c16 n.next 1,c16 n.next 2,c16 n.next 3,c16 n.next 4,c16 n.next 5,c16 n.next 6,c16 n.next 7,c16 n.next 8,c16 n.next 9,c16 n.next 10,c16 n.next 11,c16 n.next 12,c16 n.next 13,c16 n.next 14,c16 n.next 15,
 c16 n.mat 0,c16 n.mat 1,c16 n.mat 2,c16 n.mat 3,c16 n.mat 4,c16 n.mat 5,c16 n.mat 6,c16 n.mat 7,c16 n.mat 8,c16 n.mat 9,c16 n.mat 10,c16 n.mat 11,c16 n.mat 12,c16 n.mat 13,c16 n.mat 14,c16 n.mat 15]
structure DNs [Old] (X:Nat→Prop) (w:World) (b:Nat) (n:Nd) (q:DV):Prop where
 top:w.heap[b]? = some (.cells (W44 n q) 103 (0,0))
 cf:IntsAt (RO X) w q.vc n.conf
 ye:IntsAt (RO X) w q.vy n.yes
 ev:EsAt X w q.ve q.es
 ee:n.log.es=q.es.map EV.en
 nl:n.next.length=16
 ml:n.mat.length=16
 xb:X b
 hx:∀c,X c→c<w.heap.size
 od:∀c,Old.o c→c<b
def DN [Old] (X:Nat→Prop) (w:World) (b:Nat) (n:Nd):Prop:=∃q,DNs X w b n q
theorem ly (n:Nd) (q:DV) (i:Nat) (hi:i<16):(W44 n q)[12+i]? = some (c16 n.next i):=by
 match i,hi with
 | 0,_=>rfl
 | 1,_=>rfl
 | 2,_=>rfl
 | 3,_=>rfl
 | 4,_=>rfl
 | 5,_=>rfl
 | 6,_=>rfl
 | 7,_=>rfl
 | 8,_=>rfl
 | 9,_=>rfl
 | 10,_=>rfl
 | 11,_=>rfl
 | 12,_=>rfl
 | 13,_=>rfl
 | 14,_=>rfl
 | 15,_=>rfl
 | k+16,h=>omega
theorem q7 (n:Nd) (q:DV) (i:Nat) (hi:i<16):(W44 n q)[28+i]? = some (c16 n.mat i):=by
 match i,hi with
 | 0,_=>rfl
 | 1,_=>rfl
 | 2,_=>rfl
 | 3,_=>rfl
 | 4,_=>rfl
 | 5,_=>rfl
 | 6,_=>rfl
 | 7,_=>rfl
 | 8,_=>rfl
 | 9,_=>rfl
 | 10,_=>rfl
 | 11,_=>rfl
 | 12,_=>rfl
 | 13,_=>rfl
 | 14,_=>rfl
 | 15,_=>rfl
 | k+16,h=>omega
theorem W44_setN (n:Nd) (q:DV) (i y:Nat) (hi:i<16) (hl:n.next.length=16):(W44 n q).setIfInBounds (12+i) (d8 y)=W44 { n with next:=n.next.set i y } q:=by
 apply Array.ext_getElem?;intro k;rw[Array.getElem?_setIfInBounds];have hs:(W44 n q).size=44:=rfl;by_cases h:12≤k∧k<28
 ·obtain⟨j,rfl⟩:∃j,k=12+j:=⟨k-12,by omega⟩
  rw[ly _ _ j (by omega),ly { n with next:=n.next.set i y } q j (by omega),hs];show _=some (d8 ((n.next.set i y).getD j 0));exact mO6
 ·rw[if_neg (by omega)]
  match k,h with
  | 0,_=>rfl
  | 1,_=>rfl
  | 2,_=>rfl
  | 3,_=>rfl
  | 4,_=>rfl
  | 5,_=>rfl
  | 6,_=>rfl
  | 7,_=>rfl
  | 8,_=>rfl
  | 9,_=>rfl
  | 10,_=>rfl
  | 11,_=>rfl
  | k+12,h=>
   by_cases hk:k<16
   ·omega
   ·obtain⟨j,rfl⟩:∃j,k=16+j:=⟨k-16,by omega⟩
    rw[show 16+j+12=28+j by omega];by_cases hj:j<16
    ·rw[q7 _ _ j hj,q7 _ _ j hj]
    ·exact mGh
theorem W44_setM (n:Nd) (q:DV) (i y:Nat) (hi:i<16) (hl:n.mat.length=16):(W44 n q).setIfInBounds (28+i) (d8 y)=W44 { n with mat:=n.mat.set i y } q:=by
 apply Array.ext_getElem?;intro k;rw[Array.getElem?_setIfInBounds];have hs:(W44 n q).size=44:=rfl;by_cases h:28≤k∧k<44
 ·obtain⟨j,rfl⟩:∃j,k=28+j:=⟨k-28,by omega⟩
  rw[q7 _ _ j (by omega),q7 { n with mat:=n.mat.set i y } q j (by omega),hs];show _=some (d8 ((n.mat.set i y).getD j 0));exact mO6
 ·rw[if_neg (by omega)]
  match k,h with
  | 0,_=>rfl
  | 1,_=>rfl
  | 2,_=>rfl
  | 3,_=>rfl
  | 4,_=>rfl
  | 5,_=>rfl
  | 6,_=>rfl
  | 7,_=>rfl
  | 8,_=>rfl
  | 9,_=>rfl
  | 10,_=>rfl
  | 11,_=>rfl
  | k+12,h=>
   by_cases hk:k<16
   ·rw[show k+12=12+k by omega,ly _ _ k hk,ly _ _ k hk]
   ·exact mGh
section
variable {X X' P':Nat→Prop} {w w':World} {b:Nat} {n n':Nd} {q q':DV}
theorem DNs.tt [Old] (h:DNs X w b n q) (hf:FT w w'):DNs X w' b n q:=
 ⟨hf.keep _ _ h.top trivial,h.cf.tt hf,h.ye.tt hf,h.ev.tt hf,h.ee,h.nl,h.ml,h.xb,fun c hc=>Nat.lt_of_lt_of_le (h.hx c hc) hf.size,h.od⟩
theorem DNs.far [Old] {P2:Nat→Prop} (h:DNs X w b n q) (k:Aft X P2 X' P' w w') (hd:¬P2 b) (hx:∀c,X' c→c<w'.heap.size):DNs X' w' b n q:=
 ⟨k.fr.keep _ _ h.top hd,h.cf.aft k,h.ye.aft k,h.ev.aft k,h.ee,h.nl,h.ml,k.xo h.xb,hx,h.od⟩
theorem DNs.cells [Old] (h:DNs X w b n q) (f:FT w w'):w'.cell? ⟨b,0,none⟩=some (.int .i64 n.me)∧w'.cell? ⟨b,1,none⟩=some (.int .i64 n.vote)∧w'.cell? ⟨b,2,none⟩=some (.int .i64 n.role)∧w'.cell? ⟨b,3,none⟩=some (.int .i64 n.ld)∧w'.cell? ⟨b,4,none⟩=some q.vc∧w'.cell? ⟨b,5,none⟩=some q.vy∧w'.cell? ⟨b,6,none⟩=some (d8 n.tm)∧w'.cell? ⟨b,7,none⟩=some (d8 n.commit)∧w'.cell? ⟨b,8,none⟩=some (d8 n.log.base)∧w'.cell? ⟨b,9,none⟩=some (d8 n.log.bt)∧w'.cell? ⟨b,10,none⟩=some q.ve∧w'.cell? ⟨b,11,none⟩=some (.bool n.heard):=by
 have t:=f.keep _ _ h.top trivial;exact⟨bQ t rfl,bQ t rfl,bQ t rfl,bQ t rfl,bQ t rfl,bQ t rfl,bQ t rfl,bQ t rfl,bQ t rfl,bQ t rfl,bQ t rfl,bQ t rfl⟩
theorem DNs.nxt [Old] (h:DNs X w b n q) (f:FT w w') (i:Nat) (hi:i<16):w'.cell? ⟨b,12+i,none⟩=some (d8 (n.next.getD i 0)):=bQ (f.keep _ _ h.top trivial) (ly n q i hi)
theorem DNs.mtc [Old] (h:DNs X w b n q) (f:FT w w') (i:Nat) (hi:i<16):w'.cell? ⟨b,28+i,none⟩=some (d8 (n.mat.getD i 0)):=bQ (f.keep _ _ h.top trivial) (q7 n q i hi)
theorem DNs.new [Old] (h:DNs X w b n q) {g:Nat} (hg:w.heap.size≤g):¬Old.o g:=fun e=>by
 have:=h.od g e;have:=bX h.top;omega
theorem DNs.free [Old] (h:DNs X w b n q) (f:FT w w') (i:Nat):w'.frozen? ⟨b,i,none⟩=false:=bV (f.keep _ _ h.top trivial)
theorem DNs.esl [Old] (h:DNs X w b n q):n.log.es.length=q.es.length:=by rw[h.ee,List.length_map]
theorem DNs.own [Old] (h:DNs X w b n q) (hf:Fr (fun c _=>c≠b) w w'):Aft X (·=b) X (·=b) w w':=.of (hf.mono fun c _ hc e=>hc e) (fun c e=>e▸h.xb)
theorem DNs.re [Old] (h:DNs X w b n q) (hf:Fr (fun c _=>c≠b) w w') (ht:w'.heap[b]? = some (.cells (W44 n' q') 103 (0,0)))
 (hc:n'.conf=n.conf∧q'.vc=q.vc) (hy:IntsAt (RO X) w' q'.vy n'.yes) (he:n'.log.es=q'.es.map EV.en∧EsAt X w' q'.ve q'.es) (ha:n'.next.length=16∧n'.mat.length=16):DNs X w' b n' q':=
 ⟨ht,by rw[hc.1,hc.2];exact h.cf.aft (h.own hf),hy,he.2,he.1,ha.1,ha.2,h.xb,fun c hc=>Nat.lt_of_lt_of_le (h.hx c hc) hf.size,h.od⟩
end
end Go.Proofs.YtmjccpfchhnfhaaGreat
