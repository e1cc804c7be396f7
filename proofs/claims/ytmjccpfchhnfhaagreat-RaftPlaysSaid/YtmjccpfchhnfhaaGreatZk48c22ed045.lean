/- Texts of the proofs, part 24: what the functions that they reach do, walked; no conditions beyond those that each states. -/
import Derived.Deep.QuietTactic
import Derived.BigQuiet
import Derived.Test.YtmjccpfchhnfhaaGreatZk95d6f24edf
import Derived.Test.YtmjccpfchhnfhaaGreatZkd56c4a5551
set_option linter.unusedVariables false
set_option linter.unusedSimpArgs false
set_option maxRecDepth 100000
set_option maxHeartbeats 8000000
namespace Go.Proofs.YtmjccpfchhnfhaaGreat
open Go.RowKit
theorem kGK {p q:Prop} (k:q) (h:q→p:=by
 have LAST:=zH (fun W=>cz W bs bt ae le ce (by omega));have LTC:=zH (fun W (f:FT w W)=>mY W bs bt ae le ce q.es (hrow W f) hlen (by omega));rw[hL2] at LAST;rw[hLT2] at LTC;intro kk0;revert LTC;revert LAST;exact kk0):p:=h k
theorem kN2 {p q:Prop} (k:q) (h:q→p:=by
 have H2:=zH ((H.out.tt FW.out).msg F2.out ⟨_,_,tg⟩ (by have:=bX H.out.top;have:=HGW.out;omega));have FP2:Hid (Fr (fun c _=>¬P c) w W2):=((FW.out.tT:Fr (fun c _=>¬P c∧c<w.heap.size) w W).trans (F2.out.mono fun c _ h e=>by have:=h.2;have:=HGW.out;omega)).within;intro kk0;revert FP2;revert H2;exact kk0):p:=h k
theorem kPO {p q:Prop} (k:q) (h:q→p:=by
 have HH:=zH (And.intro h2 (And.intro h3 (And.intro h4 h5)));intro kk0;revert HH;exact kk0):p:=h k
theorem kcA {p q:Prop} (k:q) (h:q→p:=by
 have Ha:Hid (PNs X P (kV W2 b [(2,.int .i64 1)]) b { n with role:=1 } q):=H2.re (b_ b _ W2) (bw _ H2.top) ⟨rfl,rfl⟩ (.inl ⟨rfl,rfl⟩) ⟨rfl,rfl,rfl⟩ ⟨rfl,rfl,rfl,rfl⟩;have x2:=(H2.cells (Fr.refl _ W2)).2.2.1;have z2:=H2.free (Fr.refl _ W2) 2;obtain⟨Wa,hWa⟩:=zE (W2.setCell ⟨b,2,none⟩ (.int .i64 1));have FPa:Hid (Fr (fun c _=>¬P c) w Wa):=hWa▸FP2.out.setCell (p:=⟨b,2,none⟩) (fun _ _ h=>h H.out.pb) _;intro kk0;revert FPa;revert hWa;revert Wa;revert z2;revert x2;revert Ha;exact kk0):p:=h k
theorem kdH {p q:Prop} (k:q) (h:q→p:=by
 have hrow:∀W,FT w W→RowsAt (RO X) W (.slice ae le ce) 3 encE q.es:=fun W f=>by rw[←hve];exact h.ev.row.tt f
 have hlen:q.es.length=le:=(hrow w (Fr.refl _ w)).len'.symm;intro kk0;revert hlen;revert hrow;exact kk0):p:=h k
theorem kql {p q:Prop} (k:q) (h:q→p:=by
 have TG:=zH tg;have HGW:=zH hgw;have FW:=zH (UD.trans HF);obtain⟨m0,hm0⟩:∃m:MV,(⟨3,0,0,tm1,L,LT,0,false,none,0,[],none,0,[]⟩:MV)=m:=⟨_,rfl⟩
 obtain⟨W2,hW2',t2,f2⟩:=Jj tg (.int .i64 3) (.int .i64 0) (.int .i64 0) (.int .u64 (tm1:Nat)) (.int .u64 (L:Nat)) (.int .u64 (LT:Nat)) (.int .u64 0) (.bool false) (.slice none 0 0) (.slice none 0 0);have T2:Hid (W2.heap[g]? = some (.cells (cM m0) 32 (0,0))):=by rw[←hm0];exact t2
 have F2:=zH f2;intro kk0;revert F2;revert T2;revert f2;revert t2;revert hW2';revert W2;revert hm0;revert m0;revert FW;revert HGW;revert TG;exact kk0):p:=h k
theorem kr8 {p q:Prop} (k:q) (h:q→p:=by
 obtain⟨bs,hbs⟩:=zE n.log.base;obtain⟨bt,hbt⟩:=zE n.log.bt;intro kk0;revert hbt;revert bt;revert hbs;revert bs;exact kk0):p:=h k
theorem ktK {p q:Prop} (k:q) (h:q→p:=by
 have AG:=zH (fun k=>(m5 (We.drewN k) q1.vc q1.vy n1.conf n1.yes (H5.out.cf.tt ((Fr.refl _ We).drewN k)) (H5.out.ye.ints.tt ((Fr.refl _ We).drewN k)) (by rw[hq4.1];have:=HCF.out;unfold maxLen;omega) (by rw[hq4.2.2.1];show 1≤maxLen;unfold maxLen;decide)).mono fun e w' ⟨h1,h2⟩=>And.intro h1 h2.symm);rw[hq4.2.1,hq4.2.2.2,hq4.1,hq4.2.2.1] at AG;obtain⟨ag,hag⟩:=zE (mV n.conf [((mN:Nat):Int)]);rw[hag] at AG;have HAG:=zH hag;have HN1:=zH hn1;have HM1:=zH hm1;have f4:We.cell? ⟨b,4,none⟩=some vc:=by rw[(H5.out.cells (Fr.refl _ We)).2.2.2.2.1,hq4.2.1]
 intro kk0;revert f4;revert HM1;revert HN1;revert HAG;revert AG;revert hag;revert ag;exact kk0):p:=h k
theorem ktX {p q:Prop} (k:q) (h:q→p:=by
 have CT:=zH (fun k=>(fQ (w.drewN k) q.vc n.conf (mN:Nat) (h.cf.tt ((Fr.refl _ w).drewN k)) (by unfold maxLen;omega)).mono fun e w' ⟨h1,h2⟩=>And.intro h1 h2.symm);have H:=zH h;obtain⟨hs,hhs⟩:=zE (jK n.conf (mN:Nat));rw[hhs] at CT;have HHS:=zH hhs;have HME:=zH hme;have HFACT:=zH (And.intro hbs (And.intro hbt (And.intro htm0 (And.intro htm1 (And.intro hL hLT)))));have HBD:Hid (tm+1<18446744073709551616∧L+1<18446744073709551616∧n.log.es.length≤900000):=⟨by omega,by omega,hle⟩
 have HCF:=zH hcf;have wt:IntKind.u64.wrap ((tm:Int)+1)=(tm1:Int):=by rw[IntKind.wrap_u64];omega
 intro kk0;revert wt;revert HCF;revert HBD;revert HFACT;revert HME;revert HHS;revert CT;revert hhs;revert hs;revert H;exact kk0):p:=h k
theorem kwD {p q:Prop} (k:q) (h:q→p:=by
 obtain⟨v0,v1,v2,v3,v4,v5,v6,v7,v8,v9⟩:=bq tg;have z0:=bV (i:=0) tg;have z1:=bV (i:=1) tg;have z2:=bV (i:=2) tg;have z3:=bV (i:=3) tg;have z4:=bV (i:=4) tg;have z5:=bV (i:=5) tg;have z6:=bV (i:=6) tg;have z7:=bV (i:=7) tg;have z8:=bV (i:=8) tg;have z9:=bV (i:=9) tg;intro kk0;revert z9;revert z8;revert z7;revert z6;revert z5;revert z4;revert z3;revert z2;revert z1;revert z0;revert v9;revert v8;revert v7;revert v6;revert v5;revert v4;revert v3;revert v2;revert v1;revert v0;exact kk0):p:=h k
theorem mAe {p:Prop} (h:p:=by
 rw[if_pos (by rw[HME.out];exact HHS.out)];rw[HME.out,HFACT.out.2.2.1,HFACT.out.2.2.2.1,HFACT.out.2.2.2.2.1,HFACT.out.2.2.2.2.2];rfl):p:=h
theorem mWB {p:Prop} (h:p:=by
 skip
 go_simp;exact hK _ _ _ rfl ((Fr.refl _ _).alloc _) ⟨_,rfl,SB,bZ _ _⟩):p:=h
theorem mBZ {p:Prop} (h:p:=by
 intro xs W HF K' hK;have SB:Hid (w.heap.size≤W.heap.size):=(UD.trans HF).size;exact mWB):p:=h
theorem mLl {p:Prop} (h:p:=by
 iterate 14
  refine bY.q rfl rfl rfl (kQQ ?_) ?_
  ·intro xs W HF K' hK;obtain⟨y0,y4,y6,y8,y9,y10⟩:=CC W (UD.trans HF);exact mD8
 refine bY.p rfl rfl (kPP ?_) ?_
 ·intro xs W HF K' hK;exact moD
 refine bY.p rfl rfl (kPP ?_) ?_
 ·intro xs W HF K' hK;have LA1:=zH (LTC W (UD.trans HF));dsimp only[vL] at LA1;exact mBg
 refine bY.p rfl rfl (kPP ?_) ?_
 ·exact mBZ
 exact m36):p:=h
theorem mP6 {p:Prop} (h:p:=by
 rcases hc with hc | hc
 ·exact Nat.lt_of_lt_of_le (h.hx c hc) hf.size
 ·subst hc;obtain⟨cur,hh⟩:=cZ hy hyg;exact bX hh):p:=h
theorem mfH {p:Prop} (h:p:=by
 rw[←hWa];rw[show (W2.setCell ⟨b,2,none⟩ (.int .i64 1)).heap[g]? = W2.heap[g]? from p_ (fun e=>by have:=HGW.out;have:=bX H.out.top;omega) _];exact T2):p:=h
theorem mkG {p:Prop} (h:p:=by
 rw[←hLT,←hbt];unfold Lg.lastT lastTE;rw[h.ee,List.getLast?_map,Option.map_map];rfl):p:=h
theorem mow {p:Prop} (h:p:=by
 obtain⟨x0,x1,x2,x3,x4,x5,x6,x7,x8,x9,x10,x11,x12,x13⟩:=h.cells f;exact⟨by rw[x0,hme],x4,by rw[x6,htm0],by rw[x8,hbs],by rw[x9,hbt],by rw[x10,hve]⟩):p:=h
theorem msd {p:Prop} (h:p:=by
 rintro e w8 ⟨rfl,f8⟩;exact hK _ _ _ rfl f8 rfl):p:=h
def jq [Old] (X P:Nat→Prop) (w:World) (b:Nat) (r:Nd×List Ms) (e:Ending) (w':World):Prop:=
 ∃X' P' q' v mvs,e=.returned v∧PNs X' P' w' b r.1 q'∧Aft X P X' P' w w'∧OwnMs X' w.heap.size w' v mvs∧mvs.map MV.ms=r.2
def zMV:MV:=⟨0,0,0,0,0,0,0,false,none,0,[],none,0,[]⟩
theorem Jj {w:World} {g:Nat} {t:TypeId} {a0 a1 a2 a3 a4 a5 a6 a7 a8 a9:Value} (h:w.heap[g]? = some (.cells #[a0,a1,a2,a3,a4,a5,a6,a7,a8,a9] t (0,0))) (v0 v1 v2 v3 v4 v5 v6 v7 v8 v9:Value):
 ∃W,((((((((((w.setCell ⟨g,0,none⟩ v0).setCell ⟨g,1,none⟩ v1).setCell ⟨g,2,none⟩ v2).setCell ⟨g,3,none⟩ v3).setCell ⟨g,4,none⟩ v4).setCell ⟨g,5,none⟩ v5).setCell ⟨g,6,none⟩ v6).setCell ⟨g,7,none⟩ v7).setCell ⟨g,8,none⟩ v8).setCell ⟨g,9,none⟩ v9)=W∧W.heap[g]? = some (.cells #[v0,v1,v2,v3,v4,v5,v6,v7,v8,v9] t (0,0))∧Fr (fun c _=>c≠g) w W:=by
 have f:∀(W:World) (o:Nat) (v:Value),Fr (fun c _=>c≠g) W (W.setCell ⟨g,o,none⟩ v):=fun W o v=>(Fr.refl _ _).setCell (fun _ _ h=>h rfl) _
 obtain⟨w0,e0⟩:=zE (w.setCell ⟨g,0,none⟩ v0);have h0:w0.heap[g]? = some (.cells #[v0,a1,a2,a3,a4,a5,a6,a7,a8,a9] t (0,0)):=by rw[←e0];exact bJ (o:=0) h v0
 obtain⟨w1,e1⟩:=zE (w0.setCell ⟨g,1,none⟩ v1);have h1:w1.heap[g]? = some (.cells #[v0,v1,a2,a3,a4,a5,a6,a7,a8,a9] t (0,0)):=by rw[←e1];exact bJ (o:=1) h0 v1
 obtain⟨w2,e2⟩:=zE (w1.setCell ⟨g,2,none⟩ v2);have h2:w2.heap[g]? = some (.cells #[v0,v1,v2,a3,a4,a5,a6,a7,a8,a9] t (0,0)):=by rw[←e2];exact bJ (o:=2) h1 v2
 obtain⟨w3,e3⟩:=zE (w2.setCell ⟨g,3,none⟩ v3);have h3:w3.heap[g]? = some (.cells #[v0,v1,v2,v3,a4,a5,a6,a7,a8,a9] t (0,0)):=by rw[←e3];exact bJ (o:=3) h2 v3
 obtain⟨w4,e4⟩:=zE (w3.setCell ⟨g,4,none⟩ v4);have h4:w4.heap[g]? = some (.cells #[v0,v1,v2,v3,v4,a5,a6,a7,a8,a9] t (0,0)):=by rw[←e4];exact bJ (o:=4) h3 v4
 obtain⟨w5,e5⟩:=zE (w4.setCell ⟨g,5,none⟩ v5);have h5:w5.heap[g]? = some (.cells #[v0,v1,v2,v3,v4,v5,a6,a7,a8,a9] t (0,0)):=by rw[←e5];exact bJ (o:=5) h4 v5
 obtain⟨w6,e6⟩:=zE (w5.setCell ⟨g,6,none⟩ v6);have h6:w6.heap[g]? = some (.cells #[v0,v1,v2,v3,v4,v5,v6,a7,a8,a9] t (0,0)):=by rw[←e6];exact bJ (o:=6) h5 v6
 obtain⟨w7,e7⟩:=zE (w6.setCell ⟨g,7,none⟩ v7);have h7:w7.heap[g]? = some (.cells #[v0,v1,v2,v3,v4,v5,v6,v7,a8,a9] t (0,0)):=by rw[←e7];exact bJ (o:=7) h6 v7
 obtain⟨w8,e8⟩:=zE (w7.setCell ⟨g,8,none⟩ v8);have h8:w8.heap[g]? = some (.cells #[v0,v1,v2,v3,v4,v5,v6,v7,v8,a9] t (0,0)):=by rw[←e8];exact bJ (o:=8) h7 v8
 obtain⟨w9,e9⟩:=zE (w8.setCell ⟨g,9,none⟩ v9);have h9:w9.heap[g]? = some (.cells #[v0,v1,v2,v3,v4,v5,v6,v7,v8,v9] t (0,0)):=by rw[←e9];exact bJ (o:=9) h8 v9
 refine⟨w9,by rw[e0];rw[e1];rw[e2];rw[e3];rw[e4];rw[e5];rw[e6];rw[e7];rw[e8];exact e9,h9,?_⟩;exact((((((((((e0▸f w 0 v0).trans (e1▸f w0 1 v1)).trans (e2▸f w1 2 v2)).trans (e3▸f w2 3 v3)).trans (e4▸f w3 4 v4)).trans (e5▸f w4 5 v5)).trans (e6▸f w5 6 v6)).trans (e7▸f w6 7 v7)).trans (e8▸f w7 8 v8)).trans (e9▸f w8 9 v9))
section
variable {X P:Nat→Prop} {w w':World} {b:Nat} {n n':Nd} {q q':NV}
theorem PNs.esl [Old] (h:PNs X P w b n q):n.log.es.length=q.es.length:=by rw[h.ee,List.length_map]
theorem PNs.reY [Old] (h:PNs X P w b n q) (hf:Fr (fun c _=>c≠b) w w') (ht:w'.heap[b]? = some (.cells (W14 n' q') 99 (0,0)))
 (hc:n'.conf=n.conf∧q'.vc=q.vc) (he:n'.log.es=n.log.es∧q'.ve=q.ve∧q'.es=q.es) (ha:n'.next=n.next∧n'.mat=n.mat∧q'.bn=q.bn∧q'.bm=q.bm)
 (g:Nat) (hy:RowI w' 0 q'.vy n'.yes) (hyg:q'.vy.ownBlock=some g) (hg:w.heap.size≤g):PNs (fun c=>X c∨c=g) (fun c=>P c∨c=g) w' b n' q'∧Aft X P (fun c=>X c∨c=g) (fun c=>P c∨c=g) w w':=by
 have aft:Aft X P (fun c=>X c∨c=g) (fun c=>P c∨c=g) w w':=⟨hf.mono fun c _ hc e=>hc (e▸h.pb),fun c=>⟨fun q=>q.elim .inl fun e=>.inr (.inr e),fun q=>q.elim .inl fun e=>e.elim (fun p=>.inl (h.px c p)) .inr⟩,fun c=>.inl,fun c q=>q.elim .inl fun e=>.inr (e▸hg),h.px⟩
 refine⟨⟨ht,?_,hy,fun c e=>?_,?_,?_,?_,?_,?_,.inl h.pb,?_,?_,fun c hc=>hc.elim (fun p=>.inl (h.px c p)) .inr,fun c hc=>?_,h.od⟩,aft⟩
 ·exact mlU
 ·rw[hyg] at e;cases e;exact .inr rfl
 ·rw[he.2.1,he.2.2];exact h.ev.aft aft
 ·rw[he.1,he.2.2];exact h.ee
 ·exact m8H
 ·exact my3
 ·exact m20
 ·rw[ha.2.2.1];exact .inl h.pn
 ·rw[ha.2.2.2];exact .inl h.pm
 ·exact mP6
theorem PNs.msg [Old] (h:PNs X P w b n q) {g:Nat} (hf:Fr (fun c _=>c≠g) w w') (hg:∃cs fz,w.heap[g]? = some (.cells cs 32 fz)) (hgo:b<g):PNs X P w' b n q:=by
 obtain⟨cs,fz,hg⟩:=hg
 have ne:∀c cs' t' fz',w.heap[c]? = some (.cells cs' t' fz')→t'≠32→c≠g:=fun c cs' t' fz' h1 h2 e=>by subst e;rw[hg] at h1;cases h1;exact h2 rfl
 have ro:∀c o,w.heap[c]? = some o→RO X c o→c≠g:=fun c o ho hr=>by
  rcases hr.2 with h2 | ⟨cs',t',fz',e,ht⟩
  ·have:=h.od c h2;omega
  ·subst e;exact ne c _ _ _ ho (fun e=>by rw[e] at ht;exact absurd ht (by decide))
 have a16:∀{c l},A16 w c l→A16 w' c l:=fun {c l} ha=>ha.fr hf fun o ho=>by obtain⟨_,cur,h1,_⟩:=ha;exact ne c _ _ _ h1 (by decide)
 have cf2:IntsAt (RO X) w' q.vc n.conf:=(((h.cf.mono3 (K':=fun c o=>RO X c o∧c≠g) fun c o ho hr=>⟨hr,ro c o ho hr⟩).fr hf fun c o q=>q.2).mono fun c o q=>q.1)
 exact⟨hf.keep _ _ h.top (ne b _ _ _ h.top (by decide)),cf2,bK h.ye hf fun c o e ho=>by obtain⟨cur,hc⟩:=cZ h.ye e;exact ne c _ _ _ hc (by decide),h.yp,h.ev.fr hf ro,h.ee,a16 h.nx,a16 h.mt,h.nm,h.pb,h.pn,h.pm,h.px,fun c hc=>Nat.lt_of_lt_of_le (h.hx c hc) hf.size,h.od⟩
theorem OwnMs.lo [Old] {X:Nat→Prop} {B B':Nat} {w:World} {v:Value} {ms:List MV} (h:OwnMs X B w v ms) (hB:B'≤B):OwnMs X B' w v ms:=
 ⟨⟨h.row.1,by
  rcases h.row.2 with q | ⟨g,c,cur,e,hb,r⟩
  ·exact .inl q
  ·exact .inr ⟨g,c,cur,e,Nat.le_trans hB hb,r⟩⟩,h.off,h.at'⟩
theorem jq.behind [Old] {X1 P1:Nat→Prop} {w1:World} {r:Nd×List Ms} {e:Ending} (h:jq X1 P1 w1 b r e w') (k:Aft X P X1 P1 w w1):jq X P w b r e w':=by
 obtain⟨X',P',q',v,mvs,h1,h2,h3,h4,h5⟩:=h;exact⟨X',P',q',v,mvs,h1,h2,k.trans h3,h4.lo k.fr.size,h5⟩
theorem qv [Old] (h:PNs X P w b n q) (hr:n.role≠1) (mN:Nat) (hme:n.me=(mN:Nat)) (hm16:mN<16) (hl:n.log.last+1<18446744073709551616) (hle:n.log.es.length≤900000):
 Calls Tryz.prog 97 #[.pointer (some ⟨b,0,none⟩)] w fun e w'=>jq X P w b (n.lead,[]) e w':=by
 refine kpb ?_;intro x2;have hes:=h.esl;have LC:=zH (J9 h mN hme hm16 (by unfold Lg.last at hl;omega) (by omega));have PX:Hid (∀c,P c→X c):=h.px;have g:(n.role==1)=false:=by simpa using hr
 obtain⟨ro,hro⟩:=zE n.role;rw[hro] at x2 g;clear h hr hme hl hle hro hes;go_enter Tryz.func97,Tryz.ntmps97
 go_wp2_with fail
 (with_reducible refine LC.out.mono ?_);rintro e w2 ⟨rfl,⟨q',h2,_⟩,f2⟩;have H2:=zH h2;have F2:=zH f2;clear h2 f2 LC x2;go_wp2;go_ret;exact⟨X,P,q',_,[],rfl,H2,.of F2 PX,OwnMs.nil _ _ _,rfl⟩
theorem Lv [Old] (h:PNs X P w b n q) (hcf:0<n.conf.length∧n.conf.length≤1000) (mN:Nat) (hme:n.me=(mN:Nat)) (hm16:mN<16) (htm:n.tm+1<18446744073709551616) (hl:n.log.last+1<18446744073709551616) (hle:n.log.es.length≤900000):
 Calls Tryz.prog 45 #[.pointer (some ⟨b,0,none⟩),.bool true] w fun e w'=>jq X P w b n.askT e w':=by
 have hes:=h.esl
 obtain⟨ae,le,ce,hve⟩:∃ae le ce,q.ve=.slice ae le ce:=by exact m73
 refine kdH ?_;intro hrow hlen;refine kr8 ?_;intro bs hbs bt hbt;obtain⟨tm,htm0⟩:=zE n.tm;obtain⟨tm1,htm1⟩:=zE (tm+1);obtain⟨L,hL⟩:=zE n.log.last;obtain⟨LT,hLT⟩:=zE n.log.lastT;have hL2:bs+le=L:=by rw[←hL,←hbs];unfold Lg.last;rw[hes,hlen]
 have hLT2:lastTE bt q.es=LT:=by exact mkG
 refine kGK ?_;intro LAST LTC
 have CC:Hid (∀W,FT w W→W.cell? ⟨b,0,none⟩=some (.int .i64 (mN:Nat))∧W.cell? ⟨b,4,none⟩=some q.vc∧W.cell? ⟨b,6,none⟩=some (.int .u64 (tm:Nat))∧W.cell? ⟨b,8,none⟩=some (.int .u64 (bs:Nat))∧W.cell? ⟨b,9,none⟩=some (.int .u64 (bt:Nat))∧W.cell? ⟨b,10,none⟩=some (.slice ae le ce)):=fun W f=>by exact mow
 refine ktX ?_;intro H hs hhs CT HHS HME HFACT HBD HCF wt;obtain⟨vc,hvc⟩:=zE q.vc;have HVC:=zH hvc;rw[hvc] at CC CT;obtain⟨y0,y4,y6,y8,y9,y10⟩:=CC w (Fr.refl _ w);clear h hve hrow hlen hbs hbt htm0 htm1 hL hLT hL2 hLT2 hme hes htm hl hle hhs hcf hvc;go_enter Tryz.func45,Tryz.ntmps45
 go_wp2_with fail
 go_quiet ((go_at_call 94;exact Calls.quiet_of_same (CT.out _)))
 clear y0 y4 y6 y8 y9 y10;cases hs with
 | false=>
  go_wp2;go_ret;have e:n.askT=(n,[]):=by unfold Nd.askT;rw[if_neg (by rw[HME.out,HHS.out];decide)]
  rw[e];exact⟨X,P,q,_,[],rfl,H.tt ((Fr.refl _ w).drewN nq),.tt ((Fr.refl _ w).drewN nq) H.px,OwnMs.nil _ _ _,rfl⟩
 | true=>
  have UD:Hid (FT w (w.drewN nq).drew):=((Fr.refl _ w).drewN nq).drew;go_wp2_with fail
  refine wpR [(16,0),(17,1),(18,2),(19,3),(20,4),(21,5),(22,6),(23,7),(24,8),(25,9),(26,10),(27,11),(28,12),(29,13),(30,14),(31,15),(5,16)] [(0,[]),(1,[0]),(2,[1]),(3,[2]),(4,[3]),(5,[]),(6,[5]),(7,[6]),(8,[7]),(10,[]),(11,[10]),(12,[11]),(13,[12]),(15,[4,9,14]),(9,[8]),(14,[13]),(16,[])] (ckR [(0,.pointer (some ⟨b,0,none⟩)),(1,.pointer (some ⟨b,0,none⟩)),(2,.pointer (some ⟨b,6,none⟩)),(3,.int .u64 (tm:Nat)),(4,.int .u64 (tm1:Nat)),(5,.pointer (some ⟨b,0,none⟩)),(6,.pointer (some ⟨b,0,none⟩)),(7,.pointer (some ⟨b,8,none⟩)),(8,.agg #[.int .u64 (bs:Nat),.int .u64 (bt:Nat),.slice ae le ce]),(9,.int .u64 (L:Nat)),(10,.pointer (some ⟨b,0,none⟩)),(11,.pointer (some ⟨b,0,none⟩)),(12,.pointer (some ⟨b,8,none⟩)),(13,.agg #[.int .u64 (bs:Nat),.int .u64 (bt:Nat),.slice ae le ce]),(14,.int .u64 (LT:Nat)),(15,.agg #[.int .i64 3,.int .i64 0,.int .i64 0,.int .u64 (tm1:Nat),.int .u64 (L:Nat),.int .u64 (LT:Nat),.int .u64 0,.bool false,.slice none 0 0,.slice none 0 0])] [(16,⟨fun v W=>∃g,v=.pointer (some ⟨g,0,none⟩)∧w.heap.size≤g∧W.heap[g]? = some (.cells (cM zMV) 32 (0,0)),fun v W W' h hf=>by obtain⟨g,h1,h2,h3⟩:=h;exact⟨g,h1,h2,hf.keep _ _ h3 trivial⟩⟩)] 17 0) 1 rfl ?cfall ?cfend
  case cfall=>exact mLl
  case cfend=>
   refine kEH ?_;intro xs W HF hA;have h16:=hA (16,[]) (by decide);clear hA;obtain⟨g,e16,hgw,tg⟩:=h16;rw[e16];refine kql ?_;intro TG HGW FW m0 hm0 W2 hW2' t2 f2 T2 F2;clear t2 f2;refine kN2 ?_;intro H2 FP2;refine kwD ?_;intro v0 v1 v2 v3 v4 v5 v6 v7 v8 v9 z0 z1 z2 z3 z4 z5 z6 z7 z8 z9;refine wpN 17 rfl fun K' hK=>?_
   skip
   go_simp;refine hK _ _ ?_;clear hK K';refine wpF ?_
   try rw[hW2']
   clear z0 z1 z2 z3 z4 z5 z6 z7 z8 z9 v0 v1 v2 v3 v4 v5 v6 v7 v8 v9 hW2' tg;refine kcA ?_;intro Ha x2 z2 Wa hWa FPa
   have Ta:Hid (Wa.heap[g]? = some (.cells (cM m0) 32 (0,0))):=by exact mfH
   replace Ha:Hid (PNs X P Wa b { n with role:=1 } q):=hWa▸Ha.out;go_wp2_with fail
   try rw[hWa]
   clear x2 z2 hWa;obtain⟨x0,x1,x2,x3,x4,x5,x6,x7,x8,x9,x10,x11,x12,x13⟩:=Ha.cells (Fr.refl _ Wa);have e0:Wa.cell? ⟨b,0,none⟩=some (.int .i64 (mN:Nat)):=by rw[x0];show some (Value.int .i64 n.me)=_;rw[HME.out]
   have e6:Wa.cell? ⟨b,6,none⟩=some (.int .u64 (tm:Nat)):=by rw[x6];show some (Value.int .u64 (n.tm:Nat))=_;rw[HFACT.out.2.2.1]
   have z1:=Ha.free (Fr.refl _ Wa) 1;have z2:=Ha.free (Fr.refl _ Wa) 2;have z6:=Ha.free (Fr.refl _ Wa) 6;clear x0 x3 x4 x5 x6 x7 x8 x9 x10 x11 x12 x13;go_region_with (fail)
   all_goals
    obtain⟨Wb,hWb⟩:=zE ((((Wa.setCell ⟨b,6,none⟩ (.int .u64 (tm1:Nat))).setCell ⟨b,1,none⟩ (.int .i64 (mN:Nat))).setCell ⟨b,2,none⟩ (.int .i64 2)).drew)
    have Hb:Hid (PNs X P Wb b { n with role:=2,tm:=tm1,vote:=(mN:Nat) } q):=by show PNs _ _ _ _ _ _;rw[←hWb];exact(Ha.re (n':={ n with role:=2,tm:=tm1,vote:=(mN:Nat) }) (w':=kV Wa b [(6,.int .u64 (tm1:Nat)),(1,.int .i64 (mN:Nat)),(2,.int .i64 2)]) (b_ b _ _) (bw _ Ha.top) ⟨rfl,rfl⟩ (.inl ⟨rfl,rfl⟩) ⟨rfl,rfl,rfl⟩ ⟨rfl,rfl,rfl,rfl⟩).tt (Fr.refl _ _).drew
    have fb:Fr (fun c _=>c≠b) Wa Wb:=by rw[←hWb];exact(b_ b [(6,.int .u64 (tm1:Nat)),(1,.int .i64 (mN:Nat)),(2,.int .i64 2)] Wa).drew
    try rw[hWb]
    clear hWb e0 e6 z1 z2 z6 x1 x2;have hgb:g≠b:=fun e=>by have:=HGW.out;have:=bX H.out.top;omega
    have Tb:Hid (Wb.heap[g]? = some (.cells (cM m0) 32 (0,0))):=fb.keep _ _ Ta hgb;have FPb:Hid (Fr (fun c _=>¬P c) w Wb):=FPa.out.trans (fb.mono fun c _ hc e=>hc (e▸H.out.pb));obtain⟨m1,hm1⟩:∃m:MV,(⟨1,0,0,tm1,L,LT,0,false,none,0,[],none,0,[]⟩:MV)=m:=⟨_,rfl⟩
    have g0:=(bq Tb).1;have zg:=bV (i:=0) Tb;obtain⟨Wc,hWc⟩:=zE (Wb.setCell ⟨g,0,none⟩ (.int .i64 1));have fc:Fr (fun c _=>c≠g) Wb Wc:=hWc▸(Fr.refl _ _).setCell (fun _ _ h=>h rfl) _
    have Tc:Hid (Wc.heap[g]? = some (.cells (cM m1) 32 (0,0))):=by rw[←hWc,←hm1];have:=bJ (o:=0) Tb.out (.int .i64 1);rw[←hm0] at this;exact this
    have Hc:=zH (Hb.out.msg fc ⟨_,_,Tb.out⟩ (by have:=bX H.out.top;have:=HGW.out;omega));have FPc:Hid (Fr (fun c _=>¬P c) w Wc):=((FPb.out.mono fun c _ h=>h.1:Fr (fun c _=>¬P c∧c<w.heap.size) w Wb).trans (fc.mono fun c _ h e=>by have:=h.2;have:=HGW.out;omega)).within;have SC:Hid (w.heap.size≤Wc.heap.size):=FPc.size;have c0:Wc.cell? ⟨b,0,none⟩=some (.int .i64 (mN:Nat)):=by rw[(Hc.out.cells (Fr.refl _ Wc)).1];show some (Value.int .i64 n.me)=_;rw[HME.out]
    obtain⟨Wd,hWd⟩:=zE (Wc.alloc (.cells #[.int .i64 (mN:Nat)] 3 (0,0)));have fd:FT Wc Wd:=hWd▸(Fr.refl _ _).alloc _;have TYd:Wd.heap[Wc.heap.size]? = some (.cells #[.int .i64 (mN:Nat)] 3 (0,0)):=hWd▸bZ _ _;have Hd:=zH (Hc.tt fd);have d3:=(Hd.cells (Fr.refl _ Wd)).2.2.2.1;have d5:=(Hd.cells (Fr.refl _ Wd)).2.2.2.2.2.1;have zd3:=Hd.free (Fr.refl _ Wd) 3;have zd5:=Hd.free (Fr.refl _ Wd) 5;obtain⟨We,hWe⟩:=zE ((Wd.setCell ⟨b,3,none⟩ (.int .i64 (-1))).setCell ⟨b,5,none⟩ (.slice (some ⟨Wc.heap.size,0,none⟩) 1 1));have hWe':kV Wd b [(3,.int .i64 (-1)),(5,.slice (some ⟨Wc.heap.size,0,none⟩) 1 1)]=We:=hWe;have fe:Fr (fun c _=>c≠b) Wd We:=hWe'▸b_ b _ Wd;have hby:Wc.heap.size≠b:=fun e=>by have:=bX Hc.out.top;omega
    have TYe:We.heap[Wc.heap.size]? = some (.cells #[.int .i64 (mN:Nat)] 3 (0,0)):=fe.keep _ _ TYd hby;obtain⟨n1,hn1⟩:∃m:Nd,{ n with role:=2,tm:=tm1,vote:=(mN:Nat),ld:=-1,yes:=[((mN:Nat):Int)] }=m:=⟨_,rfl⟩
    obtain⟨q1,hq1⟩:∃m:NV,{ q with vy:=.slice (some ⟨Wc.heap.size,0,none⟩) 1 1 }=m:=⟨_,rfl⟩
    have HY:=Hc.out.reY (w':=We) (n':={ n with role:=2,tm:=tm1,vote:=(mN:Nat),ld:=-1,yes:=[((mN:Nat):Int)] }) (q':={ q with vy:=.slice (some ⟨Wc.heap.size,0,none⟩) 1 1 }) ((fd.tT).trans fe) (hWe'▸bw _ (fd.keep _ _ Hc.out.top trivial)) ⟨rfl,rfl⟩ ⟨rfl,rfl,rfl⟩ ⟨rfl,rfl,rfl,rfl⟩ Wc.heap.size ⟨rfl,.inr ⟨_,1,_,rfl,Nat.zero_le _,TYe,Nat.le_refl _,by unfold maxLen;decide,rfl,rfl⟩⟩ rfl (Nat.le_refl _);rw[hn1,hq1] at HY;have H5:=zH HY.1;have A5:=zH ((Aft.of FPc H.px).trans HY.2);obtain⟨X1,hX1⟩:∃Z:Nat→Prop,(fun c=>X c∨c=Wc.heap.size)=Z:=⟨_,rfl⟩
    obtain⟨P1,hP1⟩:∃Z:Nat→Prop,(fun c=>P c∨c=Wc.heap.size)=Z:=⟨_,rfl⟩
    rw[hX1,hP1] at H5 A5;have T5:Hid (We.heap[g]? = some (.cells (cM m1) 32 (0,0))):=fe.keep _ _ (fd.keep _ _ Tc trivial) hgb;have hq4:n1.conf=n.conf∧q1.vc=vc∧n1.yes=[((mN:Nat):Int)]∧q1.vy=.slice (some ⟨Wc.heap.size,0,none⟩) 1 1:=by rw[←hn1,←hq1];exact⟨rfl,HVC.out,rfl,rfl⟩
    refine ktK ?_;intro ag hag AG HAG HN1 HM1 f4;have f5:We.cell? ⟨b,5,none⟩=some (.slice (some ⟨Wc.heap.size,0,none⟩) 1 1):=by rw[(H5.out.cells (Fr.refl _ We)).2.2.2.2.2.1,hq4.2.2.2]
    have TOF:Hid (∀k,Calls Tryz.prog 98 #[.pointer (some ⟨b,0,none⟩),.agg (cM m1)] (We.drewN k) fun e w'=>(∃v,e=.returned v∧OwnMs X1 (We.drewN k).heap.size w' v (n1.others.map (vQ n1.me m1)))∧FT (We.drewN k) w'):=fun k=>nY (H5.out.tt ((Fr.refl _ We).drewN k)) (by rw[hq4.1];exact HCF.out) m1 (by rw[←hm1];exact⟨BytesAt.nil _ _,EsAt.nil _ _⟩)
    clear HY hX1 hP1 hq4 hag hn1 hm1 hm0 hq1 TYe TYd hWe';go_wp2_with fail
    try rw[hWc]
    try rw[hWd]
    try rw[hWe]
    clear hWc hWd hWe c0 d3 d5 zd3 zd5 g0 zg fb fc fd fe;go_quiet ((go_at_call 96;exact Calls.quiet_of_same (AG.out _)))
    have U5:Hid (FT We (We.drewN nq)):=(Fr.refl _ We).drewN nq
    have OUT:Hid (n.askT=if ag=true then(n1.lead,[]) else(n1,n1.toAll m1.ms)):=by show n.askT=_;rw[←HAG.out,←HN1.out,←HM1.out];unfold Nd.askT;exact mAe
    clear AG f4 f5;cases ag with
    | true=>
     replace OUT:Hid (n.askT=(n1.lead,[])):=OUT.trans (if_pos rfl);have CHO:=zH (qv (H5.out.tt U5.out) (by rw[←HN1.out];show (2:Int)≠1;decide) mN (by rw[←HN1.out];exact HME.out) hm16 (by rw[←HN1.out];show n.log.last+1<_;rw[HFACT.out.2.2.2.2.1];exact HBD.out.2.1) (by rw[←HN1.out];exact HBD.out.2.2));clear HAG HN1;go_wp2_with fail
     (with_reducible refine CHO.out.mono ?_);intro e w9 ho;replace ho:=ho.behind (A5.tr U5);obtain⟨X',P',q',v,mvs,rfl,h2,h3,h4,h5⟩:=ho;refine kPO ?_;intro HH;clear h2 h3 h4 h5 CHO;go_wp2;go_ret;rw[OUT.out];exact⟨X',P',q',_,mvs,rfl,HH.1,HH.2.1,HH.2.2.1,HH.2.2.2⟩
    | false=>
     replace OUT:Hid (n.askT=(n1,n1.toAll m1.ms)):=OUT.trans (if_neg (by decide));have T6:Hid ((We.drewN nq).heap[g]? = some (.cells (cM m1) 32 (0,0))):=U5.keep _ _ T5 trivial;have TOF1:=zH (TOF nq);clear TOF HAG HN1;obtain⟨v0,v1,v2,v3,v4,v5,v6,v7,v8,v9⟩:=bq T6;rw[←HM1.out] at v0 v1 v2 v3 v4 v5 v6 v7 v8 v9 TOF1;replace TOF1:Hid (Calls Tryz.prog 98 #[.pointer (some ⟨b,0,none⟩),.agg #[.int .i64 1,.int .i64 0,.int .i64 0,.int .u64 (tm1:Nat),.int .u64 (L:Nat),.int .u64 (LT:Nat),.int .u64 0,.bool false,.slice none 0 0,.slice none 0 0]] (We.drewN nq) _):=TOF1;go_wp2_with fail
     (with_reducible refine TOF1.out.mono ?_);rintro e w9 ⟨⟨v,rfl,ho⟩,f9⟩;have HO:=zH ho;have F9:=zH f9;have A9:=zH ((A5.tr U5).tr F9);clear ho f9;go_wp2;go_ret;rw[OUT.out];refine⟨X1,P1,q1,_,_,rfl,(H5.tt U5).tt F9,A9,HO.lo (A5.tr U5).fr.size,?_⟩;rw[HM1.out];show (n1.others.map _).map _=_;rw[List.map_map];rfl
theorem tq [Old] (h:PNs X P w b n q) (hr:n.role=1) (hcf:0<n.conf.length∧n.conf.length≤1000) (mN:Nat) (hme:n.me=(mN:Nat)) (hm16:mN<16) (htm:n.tm+1<18446744073709551616) (hl:n.log.last+1<18446744073709551616) (hle:n.log.es.length≤900000):
 Calls Tryz.prog 97 #[.pointer (some ⟨b,0,none⟩)] w fun e w'=>jq X P w b n.askT e w':=by
 refine kpb ?_;intro x2;have AC:=zH (Lv h hcf mN hme hm16 htm hl hle);rw[hr] at x2;clear h hr hme hl hle htm hcf;go_enter Tryz.func97,Tryz.ntmps97
 go_wp2_with fail
 (with_reducible refine AC.out.mono ?_);intro e w2 ho;obtain⟨X',P',q',v,mvs,rfl,h2,h3,h4,h5⟩:=ho;refine kPO ?_;intro HH;clear h2 h3 h4 h5 AC x2;go_wp2;go_ret;exact⟨X',P',q',_,mvs,rfl,HH.1,HH.2.1,HH.2.2.1,HH.2.2.2⟩
theorem Lw [Old] (h:PNs X P w b n q) (hcf:0<n.conf.length∧n.conf.length≤1000) (mN:Nat) (hme:n.me=(mN:Nat)) (hm16:mN<16) (htm:n.tm+1<18446744073709551616) (hl:n.log.last+1<18446744073709551616) (hle:n.log.es.length≤900000):
 Calls Tryz.prog 45 #[.pointer (some ⟨b,0,none⟩),.bool false] w fun e w'=>jq X P w b n.askF e w':=by
 have hes:=h.esl
 obtain⟨ae,le,ce,hve⟩:∃ae le ce,q.ve=.slice ae le ce:=by exact m73
 refine kdH ?_;intro hrow hlen;refine kr8 ?_;intro bs hbs bt hbt;obtain⟨tm,htm0⟩:=zE n.tm;obtain⟨tm1,htm1⟩:=zE (tm+1);obtain⟨L,hL⟩:=zE n.log.last;obtain⟨LT,hLT⟩:=zE n.log.lastT;have hL2:bs+le=L:=by rw[←hL,←hbs];unfold Lg.last;rw[hes,hlen]
 have hLT2:lastTE bt q.es=LT:=by exact mkG
 refine kGK ?_;intro LAST LTC
 have CC:Hid (∀W,FT w W→W.cell? ⟨b,0,none⟩=some (.int .i64 (mN:Nat))∧W.cell? ⟨b,4,none⟩=some q.vc∧W.cell? ⟨b,6,none⟩=some (.int .u64 (tm:Nat))∧W.cell? ⟨b,8,none⟩=some (.int .u64 (bs:Nat))∧W.cell? ⟨b,9,none⟩=some (.int .u64 (bt:Nat))∧W.cell? ⟨b,10,none⟩=some (.slice ae le ce)):=fun W f=>by exact mow
 refine ktX ?_;intro H hs hhs CT HHS HME HFACT HBD HCF wt;obtain⟨vc,hvc⟩:=zE q.vc;have HVC:=zH hvc;rw[hvc] at CC CT;obtain⟨y0,y4,y6,y8,y9,y10⟩:=CC w (Fr.refl _ w);clear h hve hrow hlen hbs hbt htm0 htm1 hL hLT hL2 hLT2 hme hes htm hl hle hhs hcf hvc;go_enter Tryz.func45,Tryz.ntmps45
 go_wp2_with fail
 go_quiet ((go_at_call 94;exact Calls.quiet_of_same (CT.out _)))
 clear y0 y4 y6 y8 y9 y10;cases hs with
 | false=>
  go_wp2;go_ret;have e:n.askF=(n,[]):=by unfold Nd.askF;rw[if_neg (by rw[HME.out,HHS.out];decide)]
  rw[e];exact⟨X,P,q,_,[],rfl,H.tt ((Fr.refl _ w).drewN nq),.tt ((Fr.refl _ w).drewN nq) H.px,OwnMs.nil _ _ _,rfl⟩
 | true=>
  have UD:Hid (FT w (w.drewN nq).drew):=((Fr.refl _ w).drewN nq).drew;go_wp2_with fail
  refine wpR [(16,0),(17,1),(18,2),(19,3),(20,4),(21,5),(22,6),(23,7),(24,8),(25,9),(26,10),(27,11),(28,12),(29,13),(30,14),(31,15),(5,16)] [(0,[]),(1,[0]),(2,[1]),(3,[2]),(4,[3]),(5,[]),(6,[5]),(7,[6]),(8,[7]),(10,[]),(11,[10]),(12,[11]),(13,[12]),(15,[4,9,14]),(9,[8]),(14,[13]),(16,[])] (ckR [(0,.pointer (some ⟨b,0,none⟩)),(1,.pointer (some ⟨b,0,none⟩)),(2,.pointer (some ⟨b,6,none⟩)),(3,.int .u64 (tm:Nat)),(4,.int .u64 (tm1:Nat)),(5,.pointer (some ⟨b,0,none⟩)),(6,.pointer (some ⟨b,0,none⟩)),(7,.pointer (some ⟨b,8,none⟩)),(8,.agg #[.int .u64 (bs:Nat),.int .u64 (bt:Nat),.slice ae le ce]),(9,.int .u64 (L:Nat)),(10,.pointer (some ⟨b,0,none⟩)),(11,.pointer (some ⟨b,0,none⟩)),(12,.pointer (some ⟨b,8,none⟩)),(13,.agg #[.int .u64 (bs:Nat),.int .u64 (bt:Nat),.slice ae le ce]),(14,.int .u64 (LT:Nat)),(15,.agg #[.int .i64 3,.int .i64 0,.int .i64 0,.int .u64 (tm1:Nat),.int .u64 (L:Nat),.int .u64 (LT:Nat),.int .u64 0,.bool false,.slice none 0 0,.slice none 0 0])] [(16,⟨fun v W=>∃g,v=.pointer (some ⟨g,0,none⟩)∧w.heap.size≤g∧W.heap[g]? = some (.cells (cM zMV) 32 (0,0)),fun v W W' h hf=>by obtain⟨g,h1,h2,h3⟩:=h;exact⟨g,h1,h2,hf.keep _ _ h3 trivial⟩⟩)] 17 0) 1 rfl ?cfall ?cfend
  case cfall=>exact mLl
  case cfend=>
   refine kEH ?_;intro xs W HF hA;have h16:=hA (16,[]) (by decide);clear hA;obtain⟨g,e16,hgw,tg⟩:=h16;rw[e16];refine kql ?_;intro TG HGW FW m0 hm0 W2 hW2' t2 f2 T2 F2;clear t2 f2;refine kN2 ?_;intro H2 FP2;refine kwD ?_;intro v0 v1 v2 v3 v4 v5 v6 v7 v8 v9 z0 z1 z2 z3 z4 z5 z6 z7 z8 z9;refine wpN 17 rfl fun K' hK=>?_
   skip
   go_simp;refine hK _ _ ?_;clear hK K';refine wpF ?_
   try rw[hW2']
   clear z0 z1 z2 z3 z4 z5 z6 z7 z8 z9 v0 v1 v2 v3 v4 v5 v6 v7 v8 v9 hW2' tg;refine kcA ?_;intro Ha x2 z2 Wa hWa FPa
   have Ta:Hid (Wa.heap[g]? = some (.cells (cM m0) 32 (0,0))):=by exact mfH
   replace Ha:Hid (PNs X P Wa b { n with role:=1 } q):=hWa▸Ha.out;have hgb:g≠b:=fun e=>by have:=HGW.out;have:=bX H.out.top;omega
   skip
   have Tc:Hid (Wa.heap[g]? = some (.cells (cM m0) 32 (0,0))):=Ta;have Hc:=zH Ha
   skip
   have hm1:=hm0;have FPc:Hid (Fr (fun c _=>¬P c) w Wa):=FPa;have SC:Hid (w.heap.size≤Wa.heap.size):=FPc.size;have c0:Wa.cell? ⟨b,0,none⟩=some (.int .i64 (mN:Nat)):=by rw[(Hc.out.cells (Fr.refl _ Wa)).1];show some (Value.int .i64 n.me)=_;rw[HME.out]
   obtain⟨Wd,hWd⟩:=zE (Wa.alloc (.cells #[.int .i64 (mN:Nat)] 3 (0,0)));have fd:FT Wa Wd:=hWd▸(Fr.refl _ _).alloc _;have TYd:Wd.heap[Wa.heap.size]? = some (.cells #[.int .i64 (mN:Nat)] 3 (0,0)):=hWd▸bZ _ _;have Hd:=zH (Hc.tt fd);have d3:=(Hd.cells (Fr.refl _ Wd)).2.2.2.1;have d5:=(Hd.cells (Fr.refl _ Wd)).2.2.2.2.2.1;have zd3:=Hd.free (Fr.refl _ Wd) 3;have zd5:=Hd.free (Fr.refl _ Wd) 5;obtain⟨We,hWe⟩:=zE ((Wd.setCell ⟨b,3,none⟩ (.int .i64 (-1))).setCell ⟨b,5,none⟩ (.slice (some ⟨Wa.heap.size,0,none⟩) 1 1));have hWe':kV Wd b [(3,.int .i64 (-1)),(5,.slice (some ⟨Wa.heap.size,0,none⟩) 1 1)]=We:=hWe;have fe:Fr (fun c _=>c≠b) Wd We:=hWe'▸b_ b _ Wd;have hby:Wa.heap.size≠b:=fun e=>by have:=bX Hc.out.top;omega
   have TYe:We.heap[Wa.heap.size]? = some (.cells #[.int .i64 (mN:Nat)] 3 (0,0)):=fe.keep _ _ TYd hby;obtain⟨n1,hn1⟩:∃m:Nd,{ n with role:=1,tm:=n.tm,vote:=n.vote,ld:=-1,yes:=[((mN:Nat):Int)] }=m:=⟨_,rfl⟩
   obtain⟨q1,hq1⟩:∃m:NV,{ q with vy:=.slice (some ⟨Wa.heap.size,0,none⟩) 1 1 }=m:=⟨_,rfl⟩
   have HY:=Hc.out.reY (w':=We) (n':={ n with role:=1,tm:=n.tm,vote:=n.vote,ld:=-1,yes:=[((mN:Nat):Int)] }) (q':={ q with vy:=.slice (some ⟨Wa.heap.size,0,none⟩) 1 1 }) ((fd.tT).trans fe) (hWe'▸bw _ (fd.keep _ _ Hc.out.top trivial)) ⟨rfl,rfl⟩ ⟨rfl,rfl,rfl⟩ ⟨rfl,rfl,rfl,rfl⟩ Wa.heap.size ⟨rfl,.inr ⟨_,1,_,rfl,Nat.zero_le _,TYe,Nat.le_refl _,by unfold maxLen;decide,rfl,rfl⟩⟩ rfl (Nat.le_refl _);rw[hn1,hq1] at HY;have H5:=zH HY.1;have A5:=zH ((Aft.of FPc H.px).trans HY.2);obtain⟨X1,hX1⟩:∃Z:Nat→Prop,(fun c=>X c∨c=Wa.heap.size)=Z:=⟨_,rfl⟩
   obtain⟨P1,hP1⟩:∃Z:Nat→Prop,(fun c=>P c∨c=Wa.heap.size)=Z:=⟨_,rfl⟩
   rw[hX1,hP1] at H5 A5;have T5:Hid (We.heap[g]? = some (.cells (cM m0) 32 (0,0))):=fe.keep _ _ (fd.keep _ _ Tc trivial) hgb;have hq4:n1.conf=n.conf∧q1.vc=vc∧n1.yes=[((mN:Nat):Int)]∧q1.vy=.slice (some ⟨Wa.heap.size,0,none⟩) 1 1:=by rw[←hn1,←hq1];exact⟨rfl,HVC.out,rfl,rfl⟩
   refine ktK ?_;intro ag hag AG HAG HN1 HM1 f4;have f5:We.cell? ⟨b,5,none⟩=some (.slice (some ⟨Wa.heap.size,0,none⟩) 1 1):=by rw[(H5.out.cells (Fr.refl _ We)).2.2.2.2.2.1,hq4.2.2.2]
   have TOF:Hid (∀k,Calls Tryz.prog 98 #[.pointer (some ⟨b,0,none⟩),.agg (cM m0)] (We.drewN k) fun e w'=>(∃v,e=.returned v∧OwnMs X1 (We.drewN k).heap.size w' v (n1.others.map (vQ n1.me m0)))∧FT (We.drewN k) w'):=fun k=>nY (H5.out.tt ((Fr.refl _ We).drewN k)) (by rw[hq4.1];exact HCF.out) m0 (by rw[←hm1];exact⟨BytesAt.nil _ _,EsAt.nil _ _⟩)
   clear HY hX1 hP1 hq4 hag hn1 hm1 hm0 hq1 TYe TYd hWe';go_wp2_with fail
   try rw[hWc]
   try rw[hWd]
   try rw[hWe]
   clear hWa hWd hWe c0 d3 d5 zd3 zd5 x2 z2 fd fe;go_quiet ((go_at_call 96;exact Calls.quiet_of_same (AG.out _)))
   have U5:Hid (FT We (We.drewN nq)):=(Fr.refl _ We).drewN nq
   have OUT:Hid (n.askF=if ag=true then n1.askT else(n1,n1.toAll m0.ms)):=by show n.askF=_;rw[←HAG.out,←HN1.out,←HM1.out];unfold Nd.askF;exact mAe
   clear AG f4 f5;cases ag with
   | true=>
    replace OUT:Hid (n.askF=n1.askT):=OUT.trans (if_pos rfl);have CHO:=zH (tq (H5.out.tt U5.out) (by rw[←HN1.out]) (by rw[←HN1.out];exact HCF.out) mN (by rw[←HN1.out];exact HME.out) hm16 (by rw[←HN1.out];show n.tm+1<_;rw[HFACT.out.2.2.1];exact HBD.out.1) (by rw[←HN1.out];show n.log.last+1<_;rw[HFACT.out.2.2.2.2.1];exact HBD.out.2.1) (by rw[←HN1.out];exact HBD.out.2.2));clear HAG HN1;go_wp2_with fail
    (with_reducible refine CHO.out.mono ?_);intro e w9 ho;replace ho:=ho.behind (A5.tr U5);obtain⟨X',P',q',v,mvs,rfl,h2,h3,h4,h5⟩:=ho;refine kPO ?_;intro HH;clear h2 h3 h4 h5 CHO;go_wp2;go_ret;rw[OUT.out];exact⟨X',P',q',_,mvs,rfl,HH.1,HH.2.1,HH.2.2.1,HH.2.2.2⟩
   | false=>
    replace OUT:Hid (n.askF=(n1,n1.toAll m0.ms)):=OUT.trans (if_neg (by decide));have T6:Hid ((We.drewN nq).heap[g]? = some (.cells (cM m0) 32 (0,0))):=U5.keep _ _ T5 trivial;have TOF1:=zH (TOF nq);clear TOF HAG HN1;obtain⟨v0,v1,v2,v3,v4,v5,v6,v7,v8,v9⟩:=bq T6;rw[←HM1.out] at v0 v1 v2 v3 v4 v5 v6 v7 v8 v9 TOF1;replace TOF1:Hid (Calls Tryz.prog 98 #[.pointer (some ⟨b,0,none⟩),.agg #[.int .i64 3,.int .i64 0,.int .i64 0,.int .u64 (tm1:Nat),.int .u64 (L:Nat),.int .u64 (LT:Nat),.int .u64 0,.bool false,.slice none 0 0,.slice none 0 0]] (We.drewN nq) _):=TOF1;go_wp2_with fail
    (with_reducible refine TOF1.out.mono ?_);rintro e w9 ⟨⟨v,rfl,ho⟩,f9⟩;have HO:=zH ho;have F9:=zH f9;have A9:=zH ((A5.tr U5).tr F9);clear ho f9;go_wp2;go_ret;rw[OUT.out];refine⟨X1,P1,q1,_,_,rfl,(H5.tt U5).tt F9,A9,HO.lo (A5.tr U5).fr.size,?_⟩;rw[HM1.out];show (n1.others.map _).map _=_;rw[List.map_map];rfl
end
theorem mNz {p:Prop} (h:p:=by
 go_enter Tryz.func121,Tryz.ntmps121
 go_wp2_with fail
 try rw[hW1]
 go_quiet (fail)
 go_wp2;go_ret;exact⟨rfl,F1.drewN _⟩):p:=h
section
variable {X P:Nat→Prop} {w w':World} {b:Nat} {n n':Nd} {q q':NV}
theorem Cq [Old] (h:PNs X P w b n q) (m:MV):
 Calls Tryz.prog 121 #[.pointer (some ⟨b,0,none⟩),.agg (cM m)] w fun e w'=>e=.returned (.bool (n.would m.ms))∧FT w w':=by
 obtain⟨W1,hW1,F1,X1⟩:=xv w m;obtain⟨v0,v1,v2,v3,v4,v5,v6,v7,v8,v9⟩:=bq X1;obtain⟨-,x1,x2,-,-,-,x6,-,-,-,-,x11,-,-⟩:=h.cells F1;have hW:n.would m.ms=if m.kind=3 then decide (n.tm<m.tm)&&!n.heard else decide (m.tm=n.tm)&&((decide (n.vote=-1)||decide (n.vote=m.src))&&decide (n.role=0)):=rfl
 obtain⟨k,hk⟩:=zE m.kind;obtain⟨mt,hmt⟩:=zE m.tm;obtain⟨s,hs⟩:=zE m.src;obtain⟨tm,htm⟩:=zE n.tm;obtain⟨vo,hvo⟩:=zE n.vote;obtain⟨ro,hro⟩:=zE n.role;obtain⟨hd,hhd⟩:=zE n.heard;rw[hW];unfold cM at hW1 ⊢;rw[hk] at v0 hW1 ⊢;rw[hs] at v1 hW1 ⊢;rw[hmt] at v3 hW1 ⊢;rw[htm] at x6 ⊢;rw[hvo] at x1 ⊢;rw[hro] at x2 ⊢;rw[hhd] at x11 ⊢;clear hW h hk hmt hs htm hvo hro hhd v2 v4 v5 v6 v7 v8 v9;by_cases h3:k=3
 ·subst h3;rw[if_pos rfl];by_cases h1:tm<mt
  ·have g1:decide (tm<mt)=true:=decide_eq_true h1;rw[g1,Bool.true_and];clear h1;exact mNz
  ·have g1:decide (tm<mt)=false:=decide_eq_false h1;rw[g1,Bool.false_and];clear h1;exact mNz
 ·have g0:(k==3)=false:=by simpa using h3
  rw[if_neg h3];clear h3;by_cases h1:mt=tm
  ·subst h1;rw[decide_eq_true rfl,Bool.true_and];have g1:((mt:Int)==(mt:Int))=true:=by simp
   by_cases h2:vo=-1
   ·subst h2;rw[decide_eq_true rfl,Bool.true_or,Bool.true_and,show decide (ro=0)=(ro==0) from rfl];exact mNz
   ·have g2:(vo==-1)=false:=by simpa using h2
    rw[decide_eq_false h2,Bool.false_or];clear h2;by_cases h4:vo=s
    ·subst h4;have g4:(vo==vo)=true:=by simp
     rw[decide_eq_true rfl,Bool.true_and,show decide (ro=0)=(ro==0) from rfl];exact mNz
    ·have g4:(vo==s)=false:=by simpa using h4
     rw[decide_eq_false h4,Bool.false_and];clear h4;exact mNz
  ·have g1:((mt:Int)==(tm:Int))=false:=by simp;omega
   rw[decide_eq_false h1,Bool.false_and];clear h1;exact mNz
end
theorem kM5 {p q:Prop} (k:q) (h:q→p:=by
 have v0:W1.cell? ⟨g0,0,none⟩=some (.int .i64 k):=by rw[←hk];exact(bq X1.out).1
 intro kk0;revert v0;exact kk0):p:=h k
section
variable {X P:Nat→Prop} {w w':World} {b:Nat} {n n':Nd} {q q':NV}
theorem OwnMs.one [Old] {X:Nat→Prop} {W:World} (m:MV) (hX:∀c,X c→c<W.heap.size) (hm:MsAt X (W.alloc (.cells (cM m) 32 (0,0))) m):OwnMs X W.heap.size (W.alloc (.cells (cM m) 32 (0,0))) (.slice (some ⟨W.heap.size,0,none⟩) 1 1) [m]:=by
 refine⟨⟨rfl,.inr ⟨_,1,_,rfl,Nat.le_refl _,bZ _ _,Nat.le_refl _,by unfold maxLen;decide,rfl,rfl⟩⟩,fun c e h=>?_,fun x hx=>?_⟩
 ·cases e;exact absurd (hX _ h) (Nat.lt_irrefl _)
 ·simp only[List.mem_cons,List.not_mem_nil,or_false] at hx;subst hx;exact hm
abbrev aMV (k me s:Int) (tm:Nat) (ok:Bool):MV:=⟨k,me,s,tm,0,0,0,ok,none,0,[],none,0,[]⟩
theorem q_ [Old] (X:Nat→Prop) (w:World) (k me s:Int) (tm:Nat) (ok:Bool):MsAt X w (aMV k me s tm ok):=⟨BytesAt.nil _ _,EsAt.nil _ _⟩
end
end Go.Proofs.YtmjccpfchhnfhaaGreat
