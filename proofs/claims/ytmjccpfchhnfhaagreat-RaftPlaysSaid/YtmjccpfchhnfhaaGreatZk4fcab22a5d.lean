/- Texts of the proofs, part 16: what the functions that they reach do, walked; no conditions beyond those that each states. -/
import Derived.Lib.AppendZeros
import Derived.Deep.RegionHeld3
import Derived.Deep.Cut
import Derived.Test.YtmjccpfchhnfhaaGreatZka68f0f7fd1
import Derived.Test.YtmjccpfchhnfhaaGreatZkaae8089ac6
set_option linter.unusedVariables false
set_option linter.unusedSimpArgs false
set_option maxRecDepth 100000
set_option maxHeartbeats 8000000
namespace Go.Proofs.YtmjccpfchhnfhaaGreat
open Go.RowKit
theorem srcE {K:Nat→Obj→Prop} {w:World} {v:Value} {xs:List EV} (h:RowsAt K w v 3 encE xs) (hz:∀n c,v=.slice none n c→c=0):sX w 3 v xs.length (xs.flatMap encE):=by
 obtain⟨a,c,rfl,_⟩:=h.form;cases a with
 | none=>
  have hc:=hz _ _ rfl;subst hc
  have e:xs=[]:=by exact m12
  subst e;exact .inl ⟨rfl,rfl,rfl⟩
 | some ad=>exact h.src encE_len (by decide) qJ
theorem KV (w:World):Calls Tryz.prog 127 #[.slice none 0 0,.int .i64 0] w fun e w'=>e=.returned (.slice none 0 0)∧w=w':=by
 go_enter Tryz.func127,Tryz.ntmps127
 exact m6T
theorem Ny (w:World) (n:Nat) (h0:0<n) (hn:n≤2000000):Calls Tryz.prog 127 #[.slice none 0 0,.int .i64 n] w fun e w'=>(∃cap,e=.returned (.slice (some ⟨w.heap.size,0,none⟩) 0 cap)∧w'.ownsRow w.heap.size 85 3 (.slice (some ⟨w.heap.size,0,none⟩) 0 cap) 0 [])∧FT w w':=by
 obtain⟨i0,hi,hz0,hz1,hz2⟩:=info_parts pj;have hr:=fun ty=>Lib.run_append_nil_zeros (P:=Tryz.prog) w 24 3 ty 85 i0 (.agg #[.int .u64 0,.int .i64 0,.slice none 0 0]) .i64 .i64 Tryz.underlying24 Tryz.underlying3 hi hz0 n h0 (by omega) (by omega) (by rw[hz2];omega)
 have HR:=zH hr;have hn':(0:Int)<n:=by omega
 clear hr;go_enter Tryz.func127,Tryz.ntmps127
 go_wp2_with (at_builtin;refine Lib.wpList_append_run _ rfl _ _ 24 3 rfl _ _ rfl rfl _ _ (HR.out _) ?_)
 go_ret;refine⟨⟨_,rfl,⟨rfl,.inr ⟨w.heap.size,_,_,rfl,Nat.le_refl _,bZ w _,Nat.zero_le _,grownCap_le_maxLen _ _ _ _ (by unfold maxLen;omega),?_,by simp⟩⟩⟩,((Fr.refl _ _).alloc _).drew⟩;have:=grownCap_ge w n 0 85;simp only[Array.size_append,size_zeroCells];simp;omega
theorem N_ (w:World) (n:Nat) (hn:n≤2000000):Calls Tryz.prog 127 #[.slice none 0 0,.int .i64 n] w fun e w'=>(∃v,e=.returned v∧w'.ownsRow w.heap.size 85 3 v 0 [])∧FT w w':=by
 by_cases h0:n=0
 ·subst h0;exact(KV w).mono fun e w' ⟨he,hw⟩=>⟨⟨_,he,rfl,.inl ⟨rfl,rfl⟩⟩,hw▸Fr.refl _ _⟩
 ·exact(Ny w n (by omega) hn).mono fun e w' ⟨⟨cap,he,ho⟩,hf⟩=>⟨⟨_,he,ho⟩,hf⟩
def ListsE (K:Nat→Obj→Prop) (w:World) (b off:Nat) (bss:List (List EV)):Prop:=∀i,(h:i<bss.length)→∃v,w.cell? ⟨b,off+i,none⟩=some v∧(RowsAt K w v 3 encE bss[i]∧∀n c,v=.slice none n c→c=0)
def sizesE (bss:List (List EV)):Nat:=bss.flatten.length
theorem Cj (l:List (List EV)) (x:List EV):sizesE (l++[x])=sizesE l+x.length:=by simp [sizesE]
theorem wK (l:List (List EV)) (x:List EV):(l++[x]).flatten=l.flatten++x:=by simp
theorem lQ (l:List (List EV)) (k:Nat):sizesE (l.take k)≤sizesE l:=by
 have:=congrArg List.length (congrArg List.flatten (List.take_append_drop k l));simp only[List.flatten_append,List.length_append] at this;unfold sizesE;omega
theorem xW {K:Nat→Obj→Prop} (w:World) (b off m c:Nat) (bss:List (List EV)) (hm:bss.length=m) (hl:ListsE K w b off bss) (hs:sizesE bss≤2000000) (hmm:m≤1000) (hb:b<w.heap.size):
 Calls Tryz.prog 102 #[.slice (some ⟨b,off,none⟩) m c] w fun e w'=>(∃v,e=.returned v∧w'.ownsRow w.heap.size 85 3 v bss.flatten.length (bss.flatten.flatMap encE))∧Fr (fun _ _=>True) w w':=by
 have HL:=zH hl;have HM:=zH hm;have HS:=zH hs;clear hl hm hs;obtain⟨i0,hi,hz0,hz1,hz2⟩:=info_parts pj;have HI:=zH (And.intro hi (And.intro hz0 (And.intro hz1 hz2)));clear hi hz0 hz1 hz2;go_enter Tryz.func102,Tryz.ntmps102
 go_wp2;go_loop [3,11] (fun s i=>∃k:Nat,k≤m∧i=.int .i64 k∧s=.int .i64 (sizesE (bss.take k):Nat)) (fun _ i=>m-(intOf i).toNat)
 case atStart=>exact⟨0,Nat.zero_le _,rfl,rfl⟩
 case round=>
  obtain⟨k,hk,rfl,rfl⟩:=hrel;have h1:=lQ bss k;have h1':=lQ bss (k+1);have hs':=HS.out;by_cases hlt:k<m
  ·have hkl:k<bss.length:=by have:=HM.out;omega
   obtain⟨v,g,hv,hz⟩:=HL.out k hkl;obtain⟨a,cap,rfl,_⟩:=hv.form;clear hz;have hsn:sizesE (bss.take (k+1))=sizesE (bss.take k)+bss[k].length:=by rw[List.take_succ_eq_append_getElem hkl,Cj]
   have HSN:=zH hsn;rw[hsn] at h1';clear hsn hv;generalize sizesE (bss.take k)=s at HSN h1 h1';generalize hL:bss[k].length=L at HSN h1' g;have hneg:(s:Int)+L≥0:=by omega
   clear hL;go_wp2;go_round
   case rel=>exact⟨k+1,by omega,by go_num,by rw[HSN.out];go_num⟩
   case measure=>simp [intOf];omega
  ·obtain rfl:k=m:=by omega
   have e1:bss.take k=bss:=List.take_of_length_le (by have:=HM.out;omega);rw[e1];clear e1 hlt h1 h1';go_wp2_with fail
   (with_reducible refine(N_ _ _ hs').mono ?_);rintro e w1 ⟨⟨v1,rfl,o1⟩,f1⟩;have O1:=zH o1;have F1:=zH f1;clear o1 f1;go_wp2;go_loopw [6,27] (fun v i wr=>∃j:Nat,j≤k∧i=.int .i64 j∧wr.ownsRow w.heap.size 85 3 v (bss.take j).flatten.length ((bss.take j).flatten.flatMap encE)∧Fr (fun _ _=>True) w wr) (fun _ i _=>k-(intOf i).toNat)
   case atStart=>exact⟨0,Nat.zero_le _,rfl,O1.out,F1.out⟩
   case round=>
    obtain⟨j,hj,rfl,ho,hf⟩:=hrel;have hsz:=lQ bss j;unfold sizesE at hsz hs';generalize hcur:(bss.take j).flatten=cur at ho hsz;have HC:=zH hcur;clear hcur;have HO:=zH ho;have HF:=zH hf;clear ho hf O1 F1;by_cases hlt:j<k
    ·have hkl:j<bss.length:=by have:=HM.out;omega
     obtain⟨v,g0,hv,hz⟩:=HL.out j hkl;have g:=HF.out.cell (fun _ _=>trivial) g0;have HV:=zH (srcE (hv.tt HF.out) hz);obtain⟨a,cap,rfl,_⟩:=hv.form;clear hz
     have hq:Hid ((bss.take (j+1)).flatten=cur++bss[j]):=by rw[List.take_succ_eq_append_getElem hkl,wK,HC.out];rfl
     have hx:cur.length+bss[j].length≤2000000:=by have h1:=lQ bss (j+1);unfold sizesE at h1;rw[hq.out,List.length_append] at h1;omega
     generalize hy:bss[j]=y at HV hq hx g;clear hy;clear g0 hv;obtain⟨hi,hz0,hz1,hz2⟩:=HI.out;go_wp2_with (at_builtin;refine cj _ rfl _ _ 24 rfl w.heap.size 85 i0 (.agg #[.int .u64 0,.int .i64 0,.slice none 0 0]) 3 40 Tryz.underlying24 hi hz0 hz1 hz2 jk (by decide) _ _ _ rfl HO.out _ _ _ rfl HV.out ?c2 ?c3 ?c4 ?_)
     case c2=>unfold maxLen;omega
     case c3=>omega
     case c4=>exact HF.out.size
     intro v2 w2 o2 g2 _
     have F2:=zH (HF.out.grown_new g2 fun q e=>by
      rcases HO.out.2 with⟨h,_⟩ | ⟨g',_,_,h,hle,_⟩
      ·rw[h] at e;cases e
      ·rw[h] at e;cases e;exact hle)
     rw[←List.length_append,←List.flatMap_append,←hq.out] at o2;have O2:=zH o2;clear o2 g2 hi hz0 hz1 hz2;go_wp2;go_roundw
     case rel=>exact⟨j+1,by omega,by go_num,O2.out,F2.out⟩
     case measure=>simp [intOf];omega
    ·have e1:bss.take j=bss:=List.take_of_length_le (by have:=HM.out;omega);have o:=HO.out;rw[←HC.out,e1] at o;have O:=zH o;clear o e1;go_wp2;go_ret;exact⟨⟨_,rfl,O.out⟩,HF.out⟩
theorem k7M {p q:Prop} (k:q) (h:q→p:=by
 have z0:=bV (i:=0) X3;have z1:=bV (i:=1) X3;have z2:=bV (i:=2) X3;have k0:=bQ (i:=0) X3 rfl;have k1:=bQ (i:=1) X3 rfl;have k2:=bQ (i:=2) X3 rfl;intro kk0;revert k2;revert k1;revert k0;revert z2;revert z1;revert z0;exact kk0):p:=h k
theorem kEH {p q:Prop} (k:q) (h:q→p:=by
 intro kk0 xs W hF hA;have HF:=zH hF;have hE:=ckEnd rfl hA;clear hF;simp only[List.map_cons,List.map_nil,ckEqs,ckLook,Nat.reduceBEq] at hE;simp only[fillA,fillL,sA,sB,sC,hE];clear hE;revert hA;revert HF;revert W;revert xs;exact kk0):p:=h k
theorem kPH {p q:Prop} (k:q) (h:q→p:=by
 intro kk0 xs W HF hA hE K' hK;simp only[ckEqs,ckLook,Nat.reduceBEq] at hE;simp only[fillA,fillL,sA,sB,sC,Act.put,hE] at hK ⊢;clear hE;revert hK;revert K';revert hA;revert HF;revert W;revert xs;exact kk0):p:=h k
theorem kPP {p q:Prop} (k:q) (h:q→p:=by
 intro kk0 xs W HF hA hE K' hK;clear hA;simp only[ckEqs,ckLook,Nat.reduceBEq] at hE;simp only[fillA,fillL,sA,sB,sC,Act.put,hE] at hK ⊢;clear hE;revert hK;revert K';revert HF;revert W;revert xs;exact kk0):p:=h k
theorem kQQ {p q:Prop} (k:q) (h:q→p:=by
 intro kk0 xs W HF hE K' hK;simp only[ckEqs,ckLook,Nat.reduceBEq] at hE;simp only[fillA,fillL,sA,sB,sC,Act.put,hE] at hK ⊢;clear hE;revert hK;revert K';revert HF;revert W;revert xs;exact kk0):p:=h k
theorem kfM {p q:Prop} (k:q) (h:q→p:=by
 have w4:IntKind.u64.wrap ((i:Int)-(b:Int))=(q:Int)+1:=by rw[IntKind.wrap_u64];have:=HI.out;have:=HP0.out.1;omega
 have w5':IntKind.u64.wrap ((q:Int)+1-1)=(q:Int):=by rw[IntKind.wrap_u64];have:=HP0.out;omega
 have w6:IntKind.u64.wrap (q:Int)=(q:Int):=by rw[IntKind.wrap_u64];have:=HP0.out;omega
 have hs1:∀w:World,(Instr.slice 24 (.slice a n c) none (some (.int .u64 (q:Nat))) none).run Tryz.prog w=.ok (.slice a q c) w:=fun w=>sy 3 Tryz.underlying24 lZ w a n c q .u64 (by obtain⟨_,_,e,q2⟩:=HX.out.row.form;cases e;have:=HNL.out;omega)
 have hs2:∀w:World,(Instr.slice 24 (.slice (some ⟨bx,off,none⟩) m3 c3) (some (.int .i64 (k:Nat))) none none).run Tryz.prog w=.ok (.slice (Mw (some ⟨bx,off,none⟩) c3 k 3) (m3-k) (c3-k)) w:=fun w=>mZ 3 Tryz.underlying24 lZ w (some ⟨bx,off,none⟩) m3 c3 k .i64 (by omega)
 have EA:=zH (((HX.out.take (d:=q) (by have:=HNL.out;omega)).tt (F1.out.trans F2.out)).tt F5.out);have EB:=zH (((EE.out.drop (d:=k) (by have:=HEL.out;omega)).tt (F1.out.trans F2.out)).tt F5.out);obtain⟨ad,had⟩:=zE (Mw (some ⟨bx,off,none⟩) c3 k 3);obtain⟨m4,hm4⟩:=zE (m3-k);obtain⟨c4,hc4⟩:=zE (c3-k);intro kk0;revert hc4;revert c4;revert hm4;revert m4;revert had;revert ad;revert EB;revert EA;revert hs2;revert hs1;revert w6;revert w5';revert w4;exact kk0):p:=h k
theorem klq {p q:Prop} (k:q) (h:q→p:=by
 have z0:=bV (i:=0) X3.out;have z1:=bV (i:=1) X3.out;have z2:=bV (i:=2) X3.out;have k0:=bQ (i:=0) X3.out rfl;have k1:=bQ (i:=1) X3.out rfl;have k2:=bQ (i:=2) X3.out rfl;intro kk0;revert k2;revert k1;revert k0;revert z2;revert z1;revert z0;exact kk0):p:=h k
theorem kpm {p q:Prop} (k:q) (h:q→p:=by
 have ZL:Hid (zs.length≤2000000):=by show _≤_;rw[←hzs,List.length_append,List.length_take,List.length_drop];have:=HNL.out;have:=HEL.out;omega
 have U5:Hid (Fr (fun _ _=>True) w5 w5.drew):=(Fr.refl _ _).drew;intro kk0;revert U5;revert ZL;exact kk0):p:=h k
theorem mr9 {p:Prop} (h:p:=by
 (try simp only[gA,gB,gC]);go_simp;exact hK.out _ rfl):p:=h
theorem m52 {p:Prop} (h:p:=by
 go_simp;exact hK.out _ _ _ rfl (Fr.refl _ _) rfl):p:=h
theorem m2k {p:Prop} (h:p:=by
 iterate 11
  refine bY.q rfl rfl rfl (kQQ ?_) ?_
  ·intro xs W HF K' hK;obtain⟨s0,s1,s2⟩:=CC.out W ((F2.out.trans F5.out).trans (U5.out.trans HF.out));exact mr9
 refine bY.p rfl rfl (kPP ?_) ?_
 ·intro xs W HF K' hK;(try simp only[gA,gB,gC]);exact m52
 refine bY.p rfl rfl (kPP ?_) ?_
 ·intro xs W HF K' hK;obtain⟨WB,hWB⟩:=zE (W.alloc (.cells #[.slice a q c,.slice ad m4 c4] 24 (0,0)));have FB:Fr (fun _ _=>True) W WB:=hWB▸(Fr.refl _ _).alloc _;have TB:WB.heap[W.heap.size]? = some (.cells #[.slice a q c,.slice ad m4 c4] 24 (0,0)):=hWB▸bZ _ _;(try simp only[gA,gB,gC]);go_simp
  try rw[hWB]
  exact hK.out _ _ _ rfl FB ⟨_,rfl,TB⟩
 refine bY.p rfl rfl (kPH ?_) ?_
 ·intro xs W HF hA K' hK;have h11:=hA 11 (by decide);clear hA;obtain⟨g,hg,tg⟩:=h11;rw[hg] at hK ⊢;have CN:=zH (CON.out W g ((U5.out.trans HF.out)) tg);clear tg hg;(try simp only[gA,gB,gC]);go_simp;(with_reducible refine CN.out.mono ?_);rintro e w8 ⟨⟨a8,k8,rfl,r8,z8⟩,f8⟩;exact hK.out _ _ _ rfl f8 ⟨a8,k8,rfl,r8,z8⟩
 exact bY.nil):p:=h
theorem m7N {p:Prop} (h:p:=by
 have e1:[xs.take q,E.drop k].flatten=zs:=by rw[←hzs];simp
 refine(xW (K:=RO X) W g 0 2 2 [xs.take q,E.drop k] rfl (fun j hj=>?_) (by unfold sizesE;rw[e1];exact ZL.out) (by decide) (bX t)).mono ?_
 ·match j,hj with
  | 0,_=>exact⟨_,bQ t rfl,EA.out.row.tt f,EA.out.nz⟩
  | 1,_=>exact⟨_,bQ t rfl,EB.out.row.tt f,EB.out.nz⟩
 ·rintro e w' ⟨⟨v,rfl,o⟩,f'⟩;rw[e1] at o;have r:=(jQ o encE_len).mono (K':=fun c o=>w5.heap.size≤c∧∃cs,o=.cells cs 85 (0,0)) fun c o _ h=>⟨Nat.le_trans f.size h.1,h.2⟩
  rcases o.2 with⟨rfl,hz⟩ | ⟨g',cap,cur,rfl,_⟩
  ·exact⟨⟨none,0,by rw[hz],by rw[hz];exact r,fun _=>rfl⟩,f'⟩
  ·exact⟨⟨_,cap,rfl,r,fun e=>by cases e⟩,f'⟩):p:=h
theorem mLV {p:Prop} (h:p:=by
 try rw[hW4]
 exact Fr.within fin):p:=h
theorem mUK {p:Prop} (h:p:=by
 refine kEH ?_;intro xs W HF hA;have h11:=hA (11,[7,10]) (by decide);have h12:=hA (12,[11]) (by decide);clear hA;obtain⟨a8,k8,e12,r8,z8⟩:=h12;rw[e12] at r8 ⊢;have R8:=zH r8;clear e12 r8;have XB:=zH ((U5.out.trans HF.out).keep _ _ (F5.out.keep _ _ (F2.out.keep _ _ X1.out trivial) trivial) trivial);have kb:=bQ (i:=2) XB.out rfl;have zb:=bV (i:=2) XB.out;refine JQ 14 (by kernel_rfl) (by kernel_rfl) rfl fun K' hK=>?_
 (try simp only[List.getElem_toArray,List.getElem_cons_zero,List.getElem_cons_succ]);go_simp;refine hK.out _ _ ?_;clear hK K' kb zb;obtain⟨WA,hWA⟩:=zE (W.setCell ⟨w.heap.size,2,none⟩ (.slice a8 zs.length k8));have YA:Hid (WA.heap[w.heap.size]? = some (.cells #[.int .u64 (b:Nat),.int .u64 (bt:Nat),.slice a8 zs.length k8] 26 (0,0))):=hWA▸bJ (o:=2) XB.out _;have GA:Hid (Fr (fun c _=>c≠w.heap.size) W WA):=hWA▸(Fr.refl _ _).setCell (fun _ _ h=>h rfl) _;have X3:Hid (WA.heap[W1.heap.size]? = some (.cells #[.int .u64 0,.int .u64 0,.slice none 0 0] 26 (0,0))):=GA.out.keep _ _ ((U5.out.trans HF.out).keep _ _ (F5.out.keep _ _ X2.out trivial) trivial) (by have:=S1.out;omega);have x0:=bQ (i:=0) YA.out rfl;have x1:=bQ (i:=1) YA.out rfl;have x2:=bQ (i:=2) YA.out rfl;refine klq ?_;intro z0 z1 z2 k0 k1 k2;obtain⟨WC,hWC,p0',p1,p2,F4'⟩:=lset (b:=b) (bt:=bt) (v:=.slice a8 zs.length k8) X3.out
 try rw[hWA]
 clear hWA s0 s1 s2 e5 w1 w2 w3' w4 w5' w6 hs1 hs2;go_wp2
 try rw[hWC]
 have fall:=(F1.out.trans F2.out).trans (F5.out.trans (U5.out.trans HF.out));have fin:Fr (fun c _=>True∧c<w.heap.size) w WC:=((fall.mono fun _ _ _=>trivial).trans (GA.out.mono fun c _ h e=>by have:=h.2;omega)).trans (F4'.out.mono fun c _ h e=>by have:=h.2;have:=S1.out;omega);have sz5:W1.heap.size<w5.heap.size:=Nat.lt_of_lt_of_le (bX X2.out) F5.out.size;have sz1:=S1.out;refine bodyPost_ret (v:=.tuple #[.agg #[.int .u64 (b:Nat),.int .u64 (bt:Nat),.slice a8 zs.length k8],.int .u64 (i:Nat),.int .i64 0]) (by simp [results,Tryz.results53,go_sem, *]) rfl ⟨⟨a8,zs.length,k8,(i:Nat),zs,rfl,⟨?_,?_,?_⟩,ZS.out⟩,?_⟩
 ·try rw[hWC]
  exact((R8.out.fr GA.out fun c o ho hc=>by have:=hc.1;omega).fr F4'.out fun c o ho hc=>by have:=hc.1;omega).mono fun c o ho hc=>⟨fun hc2=>by have:=hc.1;have:=hXX.out c hc2;omega,by obtain⟨cs,e⟩:=hc.2;exact .inr ⟨cs,_,_,e,by decide⟩⟩
 ·intro n' c' e;rw[Value.slice.injEq] at e;rw[←e.2.2];exact z8 e.1
 ·try rw[hWC]
  intro x hx;exact⟨(ZD.out x hx).1.fr3 fin fun c o ho _=>⟨trivial,bX ho⟩,(ZD.out x hx).2⟩
 ·try rw[hWC]
  exact Fr.within fin):p:=h
theorem mXT {p:Prop} (h:p:=by
 show _=_;unfold Lg.append;rw[List.length_map,←hml,if_neg (by rw[hf];decide)];show (if p<b then _ else _:Lg×Int).1=_;split
 ·rw[List.map_drop]
 ·rfl):p:=h
theorem mbs {p:Prop} (h:p:=by
 try rw[hW4]
 exact HX.fr fin fun c o ho _=>⟨trivial,bX ho⟩):p:=h
theorem mhQ {p:Prop} (h:p:=by
 by_cases q:b+n<p
 ·omega
 ·rw[if_neg q] at hf;rw[if_pos (show p<(lgE b bt xs).base from hbp)] at hf;by_cases q2:p+m≤b
  ·rw[if_pos (show p+m≤(lgE b bt xs).base from q2)] at hf;cases hf
  ·omega):p:=h
theorem mwP {p:Prop} (h:p:=by
 unfold Lg.append;rw[List.length_map,←hml,if_neg (by rw[hf];decide)];split <;> rfl):p:=h
theorem my8 {p:Prop} (h:p:=by
 rw[←hzs] at hx;rcases List.mem_append.1 hx with h1 | h1
 ·exact HX.out.dat x (List.mem_of_mem_take h1)
 ·exact EE.out.dat x (List.mem_of_mem_drop h1)):p:=h
theorem lset {w:World} {g b bt:Nat} {v:Value} {a0 a1 a2:Value} (h:w.heap[g]? = some (.cells #[a0,a1,a2] 26 (0,0))):
 ∃W,(((w.setCell ⟨g,0,none⟩ (.int .u64 (b:Nat))).setCell ⟨g,1,none⟩ (.int .u64 (bt:Nat))).setCell ⟨g,2,none⟩ v)=W∧W.cell? ⟨g,0,none⟩=some (.int .u64 (b:Nat))∧W.cell? ⟨g,1,none⟩=some (.int .u64 (bt:Nat))∧W.cell? ⟨g,2,none⟩=some v∧Hid (Fr (fun c _=>c≠g) w W):=by
 obtain⟨W,e,t,f⟩:=set3 h (.int .u64 (b:Nat)) (.int .u64 (bt:Nat)) v;exact⟨W,e,bQ t rfl,bQ t rfl,bQ t rfl,f⟩
def AppR [Old] (X:Nat→Prop) (w w':World) (b bt:Nat) (l:Lg) (c:Int) (e:Ending):Prop:=
 (∃a n k f zs,e=.returned (.tuple #[vL b bt (.slice a n k),.int .u64 f,.int .i64 c])∧EsAt X w' (.slice a n k) zs∧zs.map EV.en=l.es)∧FT w w'
theorem EsAt.fr [Old] {X:Nat→Prop} {K:Nat→Obj→Prop} {w w':World} {v:Value} {xs:List EV} (h:EsAt X w v xs) (hf:Fr K w w') (hk:∀c o,w.heap[c]? = some o→RO X c o→K c o):EsAt X w' v xs:=
 ⟨h.row.fr hf hk,h.nz,fun x hx=>⟨(h.dat x hx).1.fr3 hf hk,(h.dat x hx).2⟩⟩
theorem JV [Old] {X:Nat→Prop} (w:World) (b bt p pt:Nat) (a:Option Addr) (n c:Nat) (xs:List EV) (hx:EsAt X w (.slice a n c) xs) (a2:Option Addr) (m c2:Nat) (h:b+n<18446744073709551616) (hp:p+m<18446744073709551616) (hm:m≤1000000) (hX:∀c,X c→c<w.heap.size)
 (hf:(lgE b bt xs).fits p pt m≠0):
 Calls Tryz.prog 53 #[vL b bt (.slice a n c),.int .u64 (p:Nat),.int .u64 (pt:Nat),.slice a2 m c2] w fun e w'=>AppR X w w' b bt (lgE b bt xs) ((lgE b bt xs).fits p pt m) e:=by
 obtain⟨W1,hW1,F1,X1,CC⟩:=lbox w b bt (.slice a n c);obtain⟨W2,hW2⟩:=zE (W1.alloc (.cells #[.int .u64 0,.int .u64 0,.slice none 0 0] 26 (0,0)));have F2:Hid (FT W1 W2):=hW2▸(Fr.refl _ _).alloc _;have X2:Hid (W2.heap[W1.heap.size]? = some (.cells #[.int .u64 0,.int .u64 0,.slice none 0 0] 26 (0,0))):=hW2▸bZ W1 _;refine kpX ?_;intro S1;have FC:=zH (nj W2 b bt p pt m a n c xs ((hx.row.tt F1).tt F2) h hp hm);have HX:=zH hx;generalize (lgE b bt xs).fits p pt m=z at FC hf ⊢;have g:(z != 0)=true:=by simpa using hf
 obtain⟨x0,x1,x2⟩:=CC W2 F2;unfold vL at FC ⊢;clear hx h hp hf;go_enter Tryz.func53,Tryz.ntmps53
 go_wp2_with fail
 try rw[hW1]
 try rw[hW2]
 (with_reducible refine FC.out.mono ?_);rintro e w3 ⟨rfl,f3⟩;have F3:=zH (F2.trans f3);obtain⟨y0,y1,y2⟩:=CC w3 F3;have X3:=zH (f3.keep _ _ X2 trivial);refine k7M ?_;intro z0 z1 z2 k0 k1 k2;obtain⟨W4,hW4,p0,p1,p2,F4⟩:=lset (b:=b) (bt:=bt) (v:=.slice a n c) X3;clear hW1 hW2 f3 FC x0 x1 x2;go_wp2
 try rw[hW4]
 have fin:Fr (fun c _=>True∧c<w.heap.size) w W4:=(((F1.out.trans F3.out).tT).trans (F4.out.mono fun c _ h e=>by have:=h.2;have:=S1.out;omega))
 refine bodyPost_ret (v:=.tuple #[.agg #[.int .u64 (b:Nat),.int .u64 (bt:Nat),.slice a n c],.int .u64 0,.int .i64 z]) (by simp [results,Tryz.results53,go_sem, *]) rfl ⟨⟨a,n,c,0,xs,rfl,?_,rfl⟩,?_⟩
 ·exact mbs
 ·exact mLV
theorem EsAt.drop [Old] {X:Nat→Prop} {w:World} {a:Option Addr} {n c:Nat} {xs:List EV} (h:EsAt X w (.slice a n c) xs) {d:Nat} (hd:d≤xs.length):EsAt X w (.slice (Mw a c d 3) (n-d) (c-d)) (xs.drop d):=
 ⟨h.row.dropS hd,fun n' c' e=>by
  rw[Value.slice.injEq] at e
  obtain⟨e1,e2,e3⟩:=e
  cases a with
  | none=>have:=h.nz _ _ rfl;omega
  | some ad=>unfold Mw at e1;(split at e1 <;> cases e1),(fun x hx=>h.dat x (List.mem_of_mem_drop hx))⟩
theorem EsAt.take [Old] {X:Nat→Prop} {w:World} {a:Option Addr} {n c:Nat} {xs:List EV} (h:EsAt X w (.slice a n c) xs) {d:Nat} (hd:d≤xs.length):EsAt X w (.slice a d c) (xs.take d):=
 ⟨h.row.takeS hd,(fun n' c' e=>by cases e;exact h.nz _ _ rfl),(fun x hx=>h.dat x (List.mem_of_mem_take hx))⟩
theorem ebox (w:World) (x:EV):∃W,w.alloc (.cells #[.int .u64 (x.t:Nat),.int .i64 x.k,.slice x.a x.d.length x.c] 85 (0,0))=W∧Hid (FT w W)∧Hid (W.heap[w.heap.size]? = some (.cells #[.int .u64 (x.t:Nat),.int .i64 x.k,.slice x.a x.d.length x.c] 85 (0,0))):=
 ⟨_,rfl,(Fr.refl _ _).alloc _,bZ w _⟩
theorem Gv {l:Lg} {p:Nat} {x:En} {r:List En} (h:l.term (p+1)=(x.t,true)):l.lay p (x :: r)=l.lay (p+1) r:=by
 conv=>lhs;unfold Lg.lay
 rw[if_pos h]
theorem Gk {l:Lg} {p:Nat} {x:En} {r:List En} (h:l.term (p+1)≠(x.t,true)):l.lay p (x :: r)={ l with es:=l.es.take (p-l.base)++x :: r }:=by
 conv=>lhs;unfold Lg.lay
 rw[if_neg h]
theorem Cx [Old] {X:Nat→Prop} (w:World) (b bt p pt:Nat) (a:Option Addr) (n c:Nat) (xs:List EV) (hx:EsAt X w (.slice a n c) xs) (a2:Option Addr) (m c2:Nat) (ys:List EV) (hy:EsAt X w (.slice a2 m c2) ys) (h:b+n<18446744073709551616) (hp:p+m<18446744073709551616) (hn:n≤900000) (hm:m≤900000) (hX:∀c,X c→c<w.heap.size)
    (hf:(lgE b bt xs).fits p pt m=0):
    Calls Tryz.prog 53 #[vL b bt (.slice a n c),.int .u64 (p:Nat),.int .u64 (pt:Nat),.slice a2 m c2] w fun e w'=>AppR X w w' b bt ((lgE b bt xs).append p pt (ys.map EV.en)).1 0 e:=by
  have hnl:=hx.row.len'
  have hml:=hy.row.len'
  obtain⟨W1,hW1,F1,X1,CC⟩:=lbox w b bt (.slice a n c)
  obtain⟨W2,hW2⟩:=zE (W1.alloc (.cells #[.int .u64 0,.int .u64 0,.slice none 0 0] 26 (0,0)))
  have F2:Hid (Fr (fun _ _=>True) W1 W2):=hW2▸(Fr.refl _ _).alloc _
  have X2:Hid (W2.heap[W1.heap.size]? = some (.cells #[.int .u64 0,.int .u64 0,.slice none 0 0] 26 (0,0))):=hW2▸bZ W1 _
  have S1:Hid (w.heap.size<W1.heap.size):=bX X1.out
  have FC:=zH (nj W2 b bt p pt m a n c xs ((hx.row.tt F1.out).tt F2.out) h hp (by omega))
  rw[hf] at FC
  have TC:=zH (fun W (f:Fr (fun _ _=>True) W2 W) (i:Nat)=>dy W b bt i a n c xs (((hx.row.tt F1.out).tt F2.out).tt f) h)
  have HX:=zH hx
  have HY:=zH hy
  have HNL:=zH hnl
  have HML:=zH hml
  have HR:Hid (((lgE b bt xs).append p pt (ys.map EV.en)).1=if p<b then(lgE b bt xs).lay b ((ys.drop (b-p)).map EV.en) else(lgE b bt xs).lay p (ys.map EV.en)):=by
    exact mXT
  have HPL:Hid (b≤p→p≤b+n):=fun hbp=>by
    unfold Lg.fits at hf
    rw[cq,←hnl] at hf
    by_cases q:b+n<p
    · rw[if_pos q] at hf;cases hf
    · omega
  have HPB:Hid (p<b→b-p<m):=fun hbp=>by
    unfold Lg.fits at hf
    rw[cq,←hnl] at hf
    show b-p<m
    exact mhQ
  have hb64:b<18446744073709551616:=by omega
  have HES:Hid ((lgE b bt xs).es=xs.map EV.en∧(lgE b bt xs).base=b∧∀es,({ lgE b bt xs with es:=es }:Lg).es=es):=⟨rfl,rfl,fun _=>rfl⟩
  have HLAST:Hid ((lgE b bt xs).last=b+n):=by show _=_;rw[cq,←hnl]
  obtain⟨R,hR⟩:=zE (((lgE b bt xs).append p pt (ys.map EV.en)).1)
  rw[hR] at HR ⊢
  generalize lgE b bt xs=LG at TC HR HES HLAST
  unfold vL at FC TC ⊢
  obtain⟨x0,x1,x2⟩:=CC.out W2 F2.out
  have hXX:=zH hX
  clear hx hy hf hR hnl hml hX
  by_cases hpb:p<b
  all_goals
    first
      | (have hd:=HPB.out hpb
         have hR2:=HR.out
         rw[if_pos hpb] at hR2
         obtain⟨d,hdd⟩:=zE (b-p)
         rw[hdd] at hd hR2
         have hs0:∀w:World,(Instr.slice 24 (.slice a2 m c2) (some (.int .u64 (d:Nat))) none none).run Tryz.prog w=.ok (.slice (Mw a2 c2 d 3) (m-d) (c2-d)) w:=fun w=>mZ 3 Tryz.underlying24 lZ w a2 m c2 d .u64 (by omega)
         have EE:=zH (HY.out.drop (d:=d) (by have:=HML.out;omega))
         obtain⟨E,hE⟩:=zE (ys.drop d)
         rw[hE] at EE hR2
         have HEL:Hid (m-d=E.length):=EE.out.row.len'
         obtain⟨a3,ha3⟩:=zE (Mw a2 c2 d 3)
         obtain⟨m3,hm3⟩:=zE (m-d)
         obtain⟨c3,hc3⟩:=zE (c2-d)
         rw[ha3,hm3,hc3] at hs0 EE
         rw[hm3] at HEL
         obtain⟨p0,hp0⟩:=zE b
         have HPE:=zH hp0
         have HP0:Hid (b≤p0∧p0≤b+n∧p0+m3<18446744073709551616):=⟨by omega,by omega,by omega⟩
         have g1:decide (p<b)=true:=decide_eq_true hpb
         have w0:IntKind.u64.wrap ((b:Int)-(p:Int))=(d:Int):=by rw[IntKind.wrap_u64];omega
         have hR3:Hid (R=LG.lay p0 (E.map EV.en)):=by show _=_;rw[←hp0];exact hR2
         have hm39:m3≤900000:=by omega
         clear hp0
         clear hd hdd hE ha3 hm3 hc3 hR2)
      | (have g1:decide (p<b)=false:=decide_eq_false hpb
         have hR2:=HR.out
         rw[if_neg hpb] at hR2
         obtain⟨p0,hp0⟩:=zE p
         have HPE:=zH hp0
         have HP0:Hid (b≤p0∧p0≤b+n∧p0+m<18446744073709551616):=⟨by omega,by have:=HPL.out;omega,by omega⟩
         obtain⟨E,hE⟩:=zE ys
         obtain⟨a3,ha3⟩:=zE a2
         obtain⟨m3,hm3⟩:=zE m
         obtain⟨c3,hc3⟩:=zE c2
         have EE:=HY
         rw[hE,ha3,hm3,hc3] at EE
         have HEL:Hid (m3=E.length):=by show _=_;rw[←hm3,←hE];exact HML.out
         rw[hm3] at HP0
         have hR3:Hid (R=LG.lay p0 (E.map EV.en)):=by show _=_;rw[←hp0,←hE];exact hR2
         have hm39:m3≤900000:=by omega
         clear hp0
         have ha3:=ha3.symm
         have hm3:=hm3.symm
         have hc3:=hc3.symm
         subst ha3 hm3 hc3
         clear hE hR2)
    clear hpb hp hm
    go_enter Tryz.func53,Tryz.ntmps53
    go_wp2_with fail
    try rw[hW1]
    try rw[hW2]
    (with_reducible refine FC.out.mono ?_)
    rintro e w3 ⟨rfl,f3⟩
    have F3:=zH (F2.out.trans f3)
    have G3:=zH f3
    obtain⟨y0,y1,y2⟩:=CC.out w3 F3.out
    clear hW1 hW2 f3 FC x0 x1 x2
    go_wp2
    go_loopw [41] (fun i wr=>∃(k:Nat),i=.int .i64 (k:Nat)∧k≤m3∧Hid (p0+k≤b+n)∧Hid (R=LG.lay (p0+k) ((E.drop k).map EV.en))∧Hid (Fr (fun _ _=>True) w3 wr)) (fun i _=>m3-(intOf i).toNat)
    case atStart=>exact⟨0,rfl,Nat.zero_le _,HP0.out.2.1,hR3.out,Fr.refl _ _⟩
    case round=>
      obtain⟨k,rfl,hk,HPK,HRK,HF⟩:=hrel
      obtain⟨x0,x1,x2⟩:=CC.out wr (F3.out.trans HF.out)
      clear y0 y1 y2
      by_cases hlt:k<m3
      · have hltI:(k:Int)<(m3:Int):=by omega
        have hkE:k<E.length:=by have:=HEL.out;omega
        obtain⟨bx,off,_,rfl,_,_,hc1⟩:=(((((EE.out.row.tt F1.out).tt F3.out).tt HF.out)).spot (by omega))
        obtain⟨u1,u2,u3⟩:=RowsAt.e3 (K:=fun _ _=>True) hc1 k hkE
        obtain⟨x,hx⟩:=zE (E[k])
        rw[hx] at u1 u2 u3
        have hdrop:(E.drop k).map EV.en=x.en :: (E.drop (k+1)).map EV.en:=by rw[List.drop_eq_getElem_cons hkE,List.map_cons,hx]
        obtain⟨i,hi⟩:=zE (p0+1+k)
        have hi64:i<18446744073709551616:=by have:=HP0.out;omega
        have w1:IntKind.u64.wrap ((p0:Int)+1)=(p0:Int)+1:=by rw[IntKind.wrap_u64];have:=HP0.out;omega
        have w2:IntKind.u64.wrap (k:Int)=(k:Int):=by rw[IntKind.wrap_u64];omega
        have w3':IntKind.u64.wrap ((p0:Int)+1+(k:Int))=(i:Int):=by rw[IntKind.wrap_u64];omega
        obtain⟨W4,hW4,F4,X4⟩:=ebox wr x
        have TD:=zH (TC.out W4 ((G3.out.trans HF.out).trans F4.out) i)
        have HI:=zH hi
        have HDR:=zH hdrop
        obtain⟨T,hT⟩:=zE (LG.term i)
        have HT:=zH hT
        rw[hT] at TD
        obtain⟨T1,T2⟩:=T
        dsimp only at TD
        rw[←HPE.out] at w1 w3'
        clear hx hi hdrop hT hc1
        obtain⟨z0,z1,z2⟩:=CC.out W4 ((F3.out.trans HF.out).trans F4.out)
        have e0:=bQ (i:=0) X4.out rfl
        go_wp2_with fail
        try rw[hW4]
        (with_reducible refine TD.out.mono ?_)
        rintro e w5 ⟨rfl,f5⟩
        have F45:=zH f5
        have F5:=zH (((G3.out.trans HF.out).trans F4.out).trans f5)
        obtain⟨s0,s1,s2⟩:=CC.out w5 (F2.out.trans F5.out)
        have e5:=bQ (i:=0) (f5.keep _ _ X4.out trivial) rfl
        clear f5 TD z0 z1 z2 e0 hW4 x0 x1 x2 u1 u2 u3
        have NX:Hid (T1=x.t→T2=true→p0+(k+1)≤b+n∧R=LG.lay (p0+(k+1)) ((E.drop (k+1)).map EV.en)):=fun q1 q2=>by
          have e:LG.term (p0+k+1)=(x.en.t,true):=by rw[show p0+k+1=i by have:=HI.out;omega,HT.out,q1,q2];rfl
          refine⟨by have:=(Lg.term_is (l:=LG) (i:=p0+k+1)).1 (by rw[e]);have:=HLAST.out;omega,?_⟩
          rw[HRK.out,HDR.out,Gv e]
          rfl
        have ST:Hid (¬(T1=x.t∧T2=true)→R.es=(xs.take (p0+k-b)).map EV.en++(E.drop k).map EV.en):=fun q=>by
          have e:LG.term (p0+k+1)≠(x.en.t,true):=by
            rw[show p0+k+1=i by have:=HI.out;omega,HT.out]
            intro e
            exact q ⟨congrArg Prod.fst e,congrArg Prod.snd e⟩
          rw[HRK.out,HDR.out,Gk e,HES.out.2.1,HES.out.1,List.map_take]
        cases T2 with
        | true=>
          by_cases q:T1=x.t
          · have g2:((T1:Int)==(x.t:Int))=true:=by rw[q];simp
            have NX1:=zH (NX.out q rfl)
            clear q ST NX
            go_wp2
            go_roundw
            case rel=>exact⟨k+1,by go_num,by omega,NX1.out.1,NX1.out.2,(HF.out.trans F4.out).trans F45.out⟩
            case measure=>simp [intOf];omega
          · have g2:((T1:Int)==(x.t:Int))=false:=by simp;omega
            have ST1:=zH (ST.out fun h=>q h.1)
            clear q ST NX
            have hqn:p0+k-b≤n:=by have:=HPK.out;omega
            obtain⟨q,hq⟩:=zE (p0+k-b)
            rw[hq] at hqn ST1
            refine kfM ?_
            intro w4 w5' w6 hs1 hs2 EA EB ad had m4 hm4 c4 hc4
            rw[had,hm4,hc4] at hs2 EB
            obtain⟨zs,hzs⟩:=zE (xs.take q++E.drop k)
            have ZS:Hid (zs.map EV.en=R.es):=by show _=_;rw[←hzs,List.map_append,ST1.out]
            have ZD:Hid (∀x∈zs,BytesAt (RO X) w (.slice x.a x.d.length x.c) x.d∧x.d.length≤9223372036854775807):=fun x hx=>by
              exact my8
            refine kpm ?_
            intro ZL U5
            have CON:Hid (∀W g,Fr (fun _ _=>True) w5 W→W.heap[g]? = some (.cells #[.slice a q c,.slice ad m4 c4] 24 (0,0))→Calls Tryz.prog 102 #[.slice (some ⟨g,0,none⟩) 2 2] W fun e w'=>(∃a8 k8,e=.returned (.slice a8 zs.length k8)∧RowsAt (fun c o=>w5.heap.size≤c∧∃cs,o=.cells cs 85 (0,0)) w' (.slice a8 zs.length k8) 3 encE zs∧(a8=none→k8=0))∧Fr (fun _ _=>True) W w'):=fun W g f t=>by
              exact m7N
            clear EA EB had hm4 hc4 hzs ST1 hq
            go_wp2_with fail
            refine wpR [(64,0),(65,1),(66,2),(67,3),(68,4),(69,5),(70,6),(71,7),(72,8),(73,9),(74,10),(75,11),(76,12),(77,13)] [(0,[]),(1,[0]),(2,[]),(3,[]),(4,[3]),(5,[2,4]),(6,[5]),(8,[]),(9,[]),(10,[8,9]),(13,[]),(7,[1,6]),(11,[7,10]),(12,[11])] (ckR [(0,(.pointer (some ⟨w.heap.size,2,none⟩))),(1,.slice a n c),(2,.int .u64 (i:Nat)),(3,(.pointer (some ⟨w.heap.size,0,none⟩))),(4,.int .u64 (b:Nat)),(5,.int .u64 ((q:Int)+1)),(6,.int .u64 (q:Nat)),(7,.slice a q c),(8,.slice (some ⟨bx,off,none⟩) m3 c3),(9,.int .i64 (k:Nat)),(10,.slice ad m4 c4),(13,(.pointer (some ⟨w.heap.size,2,none⟩)))] [(11,⟨fun v W=>∃g,v=.slice (some ⟨g,0,none⟩) 2 2∧W.heap[g]? = some (.cells #[.slice a q c,.slice ad m4 c4] 24 (0,0)),fun v W W' h hf=>by obtain⟨g,h1,h2⟩:=h;exact⟨g,h1,hf.keep _ _ h2 trivial⟩⟩),(12,⟨fun v W=>∃a8 k8,v=.slice a8 zs.length k8∧RowsAt (fun c o=>w5.heap.size≤c∧∃cs,o=.cells cs 85 (0,0)) W v 3 encE zs∧(a8=none→k8=0),fun v W W' h hf=>by obtain⟨a8,k8,h1,h2,h3⟩:=h;exact⟨a8,k8,h1,h2.tt hf,h3⟩⟩)] 14 0) 1 rfl ?cfall ?cfend
            case cfall=>
              exact m2k
            case cfend=>
              exact mUK
        | false=>
          have ST1:=zH (ST.out fun h=>by cases h.2)
          clear ST NX
          have hqn:p0+k-b≤n:=by have:=HPK.out;omega
          obtain⟨q,hq⟩:=zE (p0+k-b)
          rw[hq] at hqn ST1
          refine kfM ?_
          intro w4 w5' w6 hs1 hs2 EA EB ad had m4 hm4 c4 hc4
          rw[had,hm4,hc4] at hs2 EB
          obtain⟨zs,hzs⟩:=zE (xs.take q++E.drop k)
          have ZS:Hid (zs.map EV.en=R.es):=by show _=_;rw[←hzs,List.map_append,ST1.out]
          have ZD:Hid (∀x∈zs,BytesAt (RO X) w (.slice x.a x.d.length x.c) x.d∧x.d.length≤9223372036854775807):=fun x hx=>by
            exact my8
          refine kpm ?_
          intro ZL U5
          have CON:Hid (∀W g,Fr (fun _ _=>True) w5 W→W.heap[g]? = some (.cells #[.slice a q c,.slice ad m4 c4] 24 (0,0))→Calls Tryz.prog 102 #[.slice (some ⟨g,0,none⟩) 2 2] W fun e w'=>(∃a8 k8,e=.returned (.slice a8 zs.length k8)∧RowsAt (fun c o=>w5.heap.size≤c∧∃cs,o=.cells cs 85 (0,0)) w' (.slice a8 zs.length k8) 3 encE zs∧(a8=none→k8=0))∧Fr (fun _ _=>True) W w'):=fun W g f t=>by
            exact m7N
          clear EA EB had hm4 hc4 hzs ST1 hq
          go_wp2_with fail
          refine wpR [(64,0),(65,1),(66,2),(67,3),(68,4),(69,5),(70,6),(71,7),(72,8),(73,9),(74,10),(75,11),(76,12),(77,13)] [(0,[]),(1,[0]),(2,[]),(3,[]),(4,[3]),(5,[2,4]),(6,[5]),(8,[]),(9,[]),(10,[8,9]),(13,[]),(7,[1,6]),(11,[7,10]),(12,[11])] (ckR [(0,(.pointer (some ⟨w.heap.size,2,none⟩))),(1,.slice a n c),(2,.int .u64 (i:Nat)),(3,(.pointer (some ⟨w.heap.size,0,none⟩))),(4,.int .u64 (b:Nat)),(5,.int .u64 ((q:Int)+1)),(6,.int .u64 (q:Nat)),(7,.slice a q c),(8,.slice (some ⟨bx,off,none⟩) m3 c3),(9,.int .i64 (k:Nat)),(10,.slice ad m4 c4),(13,(.pointer (some ⟨w.heap.size,2,none⟩)))] [(11,⟨fun v W=>∃g,v=.slice (some ⟨g,0,none⟩) 2 2∧W.heap[g]? = some (.cells #[.slice a q c,.slice ad m4 c4] 24 (0,0)),fun v W W' h hf=>by obtain⟨g,h1,h2⟩:=h;exact⟨g,h1,hf.keep _ _ h2 trivial⟩⟩),(12,⟨fun v W=>∃a8 k8,v=.slice a8 zs.length k8∧RowsAt (fun c o=>w5.heap.size≤c∧∃cs,o=.cells cs 85 (0,0)) W v 3 encE zs∧(a8=none→k8=0),fun v W W' h hf=>by obtain⟨a8,k8,h1,h2,h3⟩:=h;exact⟨a8,k8,h1,h2.tt hf,h3⟩⟩)] 14 0) 1 rfl ?cfall ?cfend
          case cfall=>
            exact m2k
          case cfend=>
            exact mUK
      · have hge:¬(k:Int)<(m3:Int):=by omega
        have RE:Hid (R=LG):=by
          show _=_
          rw[HRK.out,List.drop_of_length_le (by have:=HEL.out;omega)]
          rfl
        have X3:=zH (HF.out.keep _ _ (G3.out.keep _ _ X2.out trivial) trivial)
        refine klq ?_
        intro z0 z1 z2 k0 k1 k2
        obtain⟨W4,hW4,p0',p1,p2,F4⟩:=lset (b:=b) (bt:=bt) (v:=.slice a n c) X3.out
        go_wp2
        try rw[hW4]
        have fin:Fr (fun c _=>True∧c<w.heap.size) w W4:=((((F1.out.trans F3.out).trans HF.out).mono fun _ _ _=>trivial).trans (F4.out.mono fun c _ h e=>by have:=h.2;have:=S1.out;omega))
        refine bodyPost_ret (v:=.tuple #[.agg #[.int .u64 (b:Nat),.int .u64 (bt:Nat),.slice a n c],.int .u64 0,.int .i64 0]) (by simp [results,Tryz.results53,go_sem, *]) rfl ⟨⟨a,n,c,0,xs,rfl,?_,?_⟩,?_⟩
        · try rw[hW4]
          exact HX.out.fr fin fun c o ho _=>⟨trivial,bX ho⟩
        · rw[RE.out,HES.out.1]
        · exact mLV
theorem vX [Old] {X:Nat→Prop} (w:World) (b bt p pt:Nat) (a:Option Addr) (n c:Nat) (xs:List EV) (hx:EsAt X w (.slice a n c) xs) (a2:Option Addr) (m c2:Nat) (ys:List EV) (hy:EsAt X w (.slice a2 m c2) ys) (h:b+n<18446744073709551616) (hp:p+m<18446744073709551616) (hn:n≤900000) (hm:m≤900000) (hX:∀c,X c→c<w.heap.size):
 Calls Tryz.prog 53 #[vL b bt (.slice a n c),.int .u64 (p:Nat),.int .u64 (pt:Nat),.slice a2 m c2] w fun e w'=>AppR X w w' b bt ((lgE b bt xs).append p pt (ys.map EV.en)).1 ((lgE b bt xs).append p pt (ys.map EV.en)).2 e:=by
 have hml:=hy.row.len';by_cases hf:(lgE b bt xs).fits p pt m=0
 ·have e:((lgE b bt xs).append p pt (ys.map EV.en)).2=0:=by exact mwP
  rw[e];exact Cx w b bt p pt a n c xs hx a2 m c2 ys hy h hp hn hm hX hf
 ·have e:(lgE b bt xs).append p pt (ys.map EV.en)=(lgE b bt xs,(lgE b bt xs).fits p pt m):=by unfold Lg.append;rw[List.length_map,←hml,if_pos hf]
  rw[e];exact JV w b bt p pt a n c xs hx a2 m c2 h hp (by omega) hX hf
def slK (xs:List EV) (d most k:Nat):List EV:=((xs.take k).drop d).take most
theorem GZ (xs:List EV) (d most:Nat):slK xs d most 0=[]:=by simp [slK]
theorem slK_low {xs:List EV} {d most k:Nat} (h:k<d):slK xs d most (k+1)=slK xs d most k:=by
 unfold slK;rw[List.drop_of_length_le (by rw[List.length_take];omega),List.drop_of_length_le (by rw[List.length_take];omega)]
theorem slK_more {xs:List EV} {d most k:Nat} (hk:k<xs.length) (h:d≤k) (hl:(slK xs d most k).length<most):slK xs d most (k+1)=slK xs d most k++[xs[k]]:=by
 unfold slK at *;rw[List.length_take] at hl;rw[List.take_succ_eq_append_getElem hk,List.drop_append_of_le_length (by rw[List.length_take];omega)];generalize (xs.take k).drop d=l at *;rw[List.take_append,List.take_of_length_le (i:=most) (l:=l) (by omega)];congr 1;exact List.take_of_length_le (by simp;omega)
theorem slK_full {xs:List EV} {d most k:Nat} (hk:k<xs.length) (h:d≤k) (hl:¬(slK xs d most k).length<most):slK xs d most (k+1)=slK xs d most k:=by
 unfold slK at *;rw[List.length_take] at hl;rw[List.take_succ_eq_append_getElem hk,List.drop_append_of_le_length (by rw[List.length_take];omega)];generalize (xs.take k).drop d=l at *;rw[List.take_append,show most-l.length=0 by omega];simp
theorem slK_len (xs:List EV) (d most k:Nat):(slK xs d most k).length≤most:=by unfold slK;rw[List.length_take];omega
theorem slK_all (xs:List EV) (d most:Nat):slK xs d most xs.length=(xs.drop d).take most:=by unfold slK;rw[List.take_length]
theorem slK_mem {xs:List EV} {d most k:Nat} {x:EV} (h:x∈slK xs d most k):x∈xs:=List.mem_of_mem_take (List.mem_of_mem_drop (List.mem_of_mem_take h))
theorem zj [Old] {X:Nat→Prop} (w:World) (b bt i most:Nat) (a:Option Addr) (n c:Nat) (xs:List EV) (hx:EsAt X w (.slice a n c) xs) (hn:n≤900000) (hmo2:most≤900000) (hb:b+n<18446744073709551616) (hi:i<18446744073709551616) (hX:∀c,X c→c<w.heap.size):
 Calls Tryz.prog 69 #[vL9 b bt (.slice a n c),.int .u64 (i:Nat),.int .i64 (most:Nat)] w fun e w'=>(∃a' c',e=.returned (.slice a' (if b<i then(xs.drop (i-b-1)).take most else[]).length c')∧EsAt X w' (.slice a' (if b<i then(xs.drop (i-b-1)).take most else[]).length c') (if b<i then(xs.drop (i-b-1)).take most else[]))∧FT w w':=by
 have hnl:=hx.row.len';refine ktY ?_;intro W1 hW1 F1 X1 CC;obtain⟨x0,x1,x2⟩:=CC W1 (Fr.refl _ _);have HNL:=zH hnl;have HX:=zH hx;have HXX:=zH hX;refine kpX ?_;intro S1;by_cases h0:b<i
 ·have g0:decide (i≤b)=false:=by simp;omega
  rw[if_pos h0];obtain⟨d,hd⟩:=zE (i-b-1);rw[hd,←slK_all,←hnl];have HID:Hid (i=b+1+d):=by show _=_;omega
  have O0:Hid (W1.ownsRow W1.heap.size 85 3 (.slice none 0 0) (slK xs d most 0).length ((slK xs d most 0).flatMap encE)):=by show World.ownsRow _ _ _ _ _ _ _;rw[GZ];exact⟨rfl,.inl ⟨rfl,rfl⟩⟩
  have W0:Hid (IntKind.u64.wrap ((b:Int)+1)=(b:Int)+1∨n=0):=by exact mBD
  have SN:Hid ((slK xs d most 0).length=0):=by show _=_;rw[GZ];rfl
  unfold vL9;clear hx hnl hX hd h0;go_enter Tryz.func69,Tryz.ntmps69
  go_wp2
  try rw[hW1]
  clear hW1 x0 x1 x2;go_loopw [7,8] (fun o j wr=>∃(k:Nat) (g:Option Addr) (m c':Nat),j=.int .i64 (k:Nat)∧k≤n∧o=.slice g m c'∧Hid ((slK xs d most k).length=m)∧Hid (wr.ownsRow W1.heap.size 85 3 (.slice g m c') (slK xs d most k).length ((slK xs d most k).flatMap encE))∧Hid (FT W1 wr)) (fun _ j _=>n-(intOf j).toNat)
  case atStart=>exact⟨0,none,0,0,rfl,Nat.zero_le _,rfl,SN,O0,Fr.refl _ _⟩
  case round=>
   obtain⟨k,g,m,c',rfl,hk,rfl,HM,HO,HF⟩:=hrel;obtain⟨x0,x1,x2⟩:=CC wr HF;by_cases hlt:k<n
   ·refine kDf ?_;intro hltI w1 w2 w3 hkx;have hml:m≤most:=by have:=HM.out;have:=slK_len xs d most k;omega
    by_cases hdk:d≤k
    ·have g1:decide ((i:Int)≤(b:Int)+1+(k:Int))=true:=by have:=HID.out;simp;omega
     by_cases hmm:m<most
     ·have g2:decide (m<most)=true:=decide_eq_true hmm;obtain⟨bx,off,_,rfl,_,_,hc1⟩:=((HX.out.row.tt F1.out).tt HF.out).spot (by omega);obtain⟨u1,u2,u3⟩:=RowsAt.e3 (K:=fun _ _=>True) hc1 k hkx;have SM:Hid (slK xs d most k++[xs[k]]=slK xs d most (k+1)):=(slK_more hkx hdk (by rw[HM.out];exact hmm)).symm;obtain⟨x,hxx⟩:=zE (xs[k]);rw[hxx] at u1 u2 u3 SM;have SL:Hid ((slK xs d most (k+1)).length=m+1):=by show _=_;rw[←SM.out,List.length_append,HM.out];rfl
      have k0:(0:Int)≤(k:Int):=by omega
      obtain⟨W4,hW4,F4,X4⟩:=ebox wr x;have FW4:=zH (HF.trans F4);have ROW:=zH (dY X4);have OW4:=zH (kZ HO F4);have hm1:m+1≤1000000:=by omega
      clear hc1 hxx hmm;go_wp2_with (at_builtin;(try rw[hW4]);refine cV W1 W4 FW4 rfl _ _ rfl _ _ rfl OW4 _ [x] rfl ROW _ SM (m+1) SL hm1 ?_)
      intro g5 c5 W5 O5 F5 G5 N5;go_wp2;go_roundw
      case rel=>exact⟨k+1,g5,m+1,c5,by go_num,by omega,rfl,SL.out,by show World.ownsRow _ _ _ _ _ _ _;rw[SL.out];exact O5.out,F5.out⟩
      case measure=>simp [intOf];omega
     ·have g2:decide (m<most)=false:=decide_eq_false hmm;have SM:Hid (slK xs d most (k+1)=slK xs d most k):=slK_full hkx hdk (by rw[HM.out];exact hmm);clear hmm;go_wp2;go_roundw
      case rel=>exact⟨k+1,g,m,c',by go_num,by omega,rfl,by show _=_;rw[SM.out];exact HM.out,by show World.ownsRow _ _ _ _ _ _ _;rw[SM.out];exact HO.out,HF.out⟩
      case measure=>simp [intOf];omega
    ·have g1:decide ((i:Int)≤(b:Int)+1+(k:Int))=false:=by have:=HID.out;simp;omega
     have SM:Hid (slK xs d most (k+1)=slK xs d most k):=slK_low (by omega);go_wp2;go_roundw
     case rel=>exact⟨k+1,g,m,c',by go_num,by omega,rfl,by show _=_;rw[SM.out];exact HM.out,by show World.ownsRow _ _ _ _ _ _ _;rw[SM.out];exact HO.out,HF.out⟩
     case measure=>simp [intOf];omega
   ·have hge:¬(k:Int)<(n:Int):=by omega
    have hkn:k=n:=by omega
    go_wp2;go_ret;have hm':=HM;have ho':=HO;have hf':=HF;rw[hkn] at hm' ho';refine⟨⟨g,c',by rw[hm'];rfl,?_,?_,?_⟩,F1.out.trans hf'⟩
    ·have r:=jQ (w:=wr) (xs:=slK xs d most n) (B:=W1.heap.size) (e:=85) (v:=.slice g m c') ho' encE_len;rw[hm'];exact r.mono fun c o _ h=>⟨fun hc=>by have:=h.1;have:=HXX.out c hc;have:=S1.out;omega,by obtain⟨cs,e⟩:=h.2;exact .inr ⟨cs,_,_,e,by decide⟩⟩
    ·intro n' c'' e;rcases ho'.2 with⟨e1,e2⟩ | ⟨g',cap,cur,e1,_⟩
     ·rw[Value.slice.injEq] at e e1;omega
     ·rw[Value.slice.injEq] at e e1;rw[e.1] at e1;cases e1.1
    ·intro y hy;have:=HX.out.dat y (slK_mem hy);exact⟨(this.1.tt F1).tt hf',this.2⟩
 ·have g0:decide (i≤b)=true:=by simp;omega
  rw[if_neg h0];unfold vL9;clear hx hX hnl h0;go_enter Tryz.func69,Tryz.ntmps69
  go_wp2
  try rw[hW1]
  go_ret;exact⟨⟨none,0,rfl,EsAt.nil _ _⟩,F1⟩
end Go.Proofs.YtmjccpfchhnfhaaGreat
