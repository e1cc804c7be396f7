/- Texts of the proofs, part 17: what the functions that they reach do, walked; no conditions beyond those that each states. -/
import Derived.Test.YtmjccpfchhnfhaaGreatZk4fcab22a5d
set_option linter.unusedVariables false
set_option linter.unusedSimpArgs false
set_option maxRecDepth 100000
set_option maxHeartbeats 8000000
namespace Go.Proofs.YtmjccpfchhnfhaaGreat
open Go.RowKit
theorem kCT {p q:Prop} (k:q) (h:q→p:=by
 obtain⟨W9,hW9,F9,X9⟩:=ebox w8 z;have FW9:=zH ((HF.out.trans f8).trans F9.out);have OW9:=zH (kZ (kZ HO.out f8) F9.out);have e90:=bQ (i:=0) X9.out rfl;intro kk0;revert e90;revert OW9;revert FW9;revert X9;revert F9;revert hW9;revert W9;exact kk0):p:=h k
theorem kbN {p q:Prop} (k:q) (h:q→p:=by
 have FY:=zH (FW9.out.drewN nq);have OY:=zH (kZ OW9.out ((Fr.refl _ W9).drewN nq));obtain⟨v1,v2,v3⟩:=CY.out _ FY.out;obtain⟨W6,hW6,F6,X6⟩:=ebox (W9.drewN nq) y;have ROW6:=zH (dY X6.out);have FW6:=zH (FY.out.trans F6.out);have OW6:=zH (kZ OY.out F6.out);obtain⟨ol2,hol2⟩:=zE (xs.take (ta-b)++[y]);have SM:=zH hol2;have HL6:Hid (ol2.length=q+1):=by show _=_;rw[←hol2,List.length_append,List.length_take];have:=HQ0.out;have:=HNL.out;have:=HTA.out;simp;omega
 have hq1:q+1≤1000000:=by have:=HQ0.out;have:=HNL.out;have:=HTA.out;omega
 intro kk0;revert hq1;revert HL6;revert SM;revert hol2;revert ol2;revert OW6;revert FW6;revert ROW6;revert X6;revert F6;revert hW6;revert W6;revert v3;revert v2;revert v1;revert OY;revert FY;exact kk0):p:=h k
theorem kku {p q:Prop} (k:q) (h:q→p:=by
 have X2:Hid (W2.heap[W1.heap.size]? = some (.cells #[.int .u64 0,.int .u64 0,.slice none 0 0] 100 (0,0))):=hW2▸bZ W1 _;intro kk0;revert X2;exact kk0):p:=h k
theorem knD {p q:Prop} (k:q) (h:q→p:=by
 have w1:IntKind.u64.wrap (m:Int)=(m:Int):=by rw[IntKind.wrap_u64];omega
 have w2:IntKind.u64.wrap ((p:Int)+(m:Int))=(p:Int)+(m:Int):=by rw[IntKind.wrap_u64];omega
 intro kk0;revert w2;revert w1;exact kk0):p:=h k
theorem mLj {p:Prop} (h:p:=by
 rw[←hol2];refine⟨fun z' hz'=>?_,.inr ⟨by have:=HU.out;omega,by have:=HSI.out;omega,?_⟩⟩
 ·rcases List.mem_append.1 hz' with h1 | h1
  ·exact .inl (List.mem_of_mem_take h1)
  ·rw[List.mem_singleton.1 h1];exact .inr HYM.out.1
 ·rw[QB.out.2.2.2.1,HYM.out.2,List.map_cons,Gk STOP.out,HLE.out.2.1,HLE.out.1,HTA.out,List.append_assoc,List.map_append,List.map_take];rfl):p:=h
theorem ms9 {p:Prop} (h:p:=by
 refine bodyPost_ret (v:=.tuple #[.agg #[.int .u64 (b:Nat),.int .u64 (bt:Nat),.slice a n c],.int .u64 0,.int .i64 60]) (by simp [results,Tryz.results56,go_sem, *]) rfl ⟨⟨a,n,c,0,xs,rfl,?_,HLG.out⟩,?_⟩
 ·exact mbs
 ·try rw[hW4]
  exact Fr.within fin):p:=h
theorem J8 {w:World} {g b bt:Nat} {v:Value} {a0 a1 a2:Value} (h:w.heap[g]? = some (.cells #[a0,a1,a2] 100 (0,0))):
 ∃W,(((w.setCell ⟨g,0,none⟩ (.int .u64 (b:Nat))).setCell ⟨g,1,none⟩ (.int .u64 (bt:Nat))).setCell ⟨g,2,none⟩ v)=W∧W.cell? ⟨g,0,none⟩=some (.int .u64 (b:Nat))∧W.cell? ⟨g,1,none⟩=some (.int .u64 (bt:Nat))∧W.cell? ⟨g,2,none⟩=some v∧Hid (Fr (fun c _=>c≠g) w W):=by
 obtain⟨W,e,t,f⟩:=set3 h (.int .u64 (b:Nat)) (.int .u64 (bt:Nat)) v;exact⟨W,e,bQ t rfl,bQ t rfl,bQ t rfl,f⟩
def DAppR [Old] (X:Nat→Prop) (w w':World) (b bt:Nat) (l:Lg) (c:Int) (e:Ending):Prop:=
 (∃a n k f zs,e=.returned (.tuple #[vL9 b bt (.slice a n k),.int .u64 f,.int .i64 c])∧EsAt X w' (.slice a n k) zs∧zs.map EV.en=l.es)∧FT w w'
theorem Lq [Old] {X:Nat→Prop} (w:World) (b bt p pt:Nat) (a:Option Addr) (n c:Nat) (xs:List EV) (hx:EsAt X w (.slice a n c) xs) (a2:Option Addr) (m c2:Nat) (h:b+n<18446744073709551616) (hp:p+m<18446744073709551616) (hn:n≤900000) (hm:m≤900000) (hf:(lgE b bt xs).fits p pt m≠0):
 Calls Tryz.prog 56 #[vL9 b bt (.slice a n c),.int .u64 (p:Nat),.int .u64 (pt:Nat),.slice a2 m c2] w fun e w'=>DAppR X w w' b bt (lgE b bt xs) ((lgE b bt xs).fits p pt m) e:=by
 have hnl:=hx.row.len';refine ktY ?_;intro W1 hW1 F1 X1 CC;obtain⟨W2,hW2⟩:=zE (W1.alloc (.cells #[.int .u64 0,.int .u64 0,.slice none 0 0] 100 (0,0)));have F2:Hid (FT W1 W2):=hW2▸(Fr.refl _ _).alloc _;refine kku ?_;intro X2;refine kpX ?_;intro S1;obtain⟨x0,x1,x2⟩:=CC W2 F2;have LC:=zH (dW W2 b bt a n c h);have TC:=zH (fun W (f:FT W2 W)=>f_ W b bt p a n c xs (((hx.row.tt F1.out).tt F2.out).tt f) h (by omega));have HX:=zH hx;refine knD ?_;intro w1 w2;unfold Lg.fits at hf ⊢;rw[cq,←hnl] at hf ⊢;have hif:(if b+n<p then(60:Int) else if p<(lgE b bt xs).base then(if p+m≤(lgE b bt xs).base then 61 else 0) else if((lgE b bt xs).term p).1=pt then 0 else 60)=if b+n<p then(60:Int) else if p<b then(if p+m≤b then 61 else 0) else if((lgE b bt xs).term p).1=pt then 0 else 60:=rfl
 rw[hif] at hf ⊢;have IS:Hid (¬b+n<p→¬p<b→((lgE b bt xs).term p).2=true):=fun h1 h2=>Lg.term_is.2 ⟨by show b≤p;omega,by rw[cq,←hnl];omega⟩
 generalize (lgE b bt xs).term p=T at TC hf IS ⊢;have HLG:Hid (xs.map EV.en=(lgE b bt xs).es):=rfl;generalize lgE b bt xs=LG at HLG ⊢;obtain⟨l,hl⟩:=zE (b+n);rw[hl] at LC hf IS ⊢;unfold vL9 at LC TC;obtain⟨T1,T2⟩:=T;dsimp only at TC hf IS ⊢;clear hif hx hp hnl;unfold vL9;by_cases h1:l<p
 ·have g1:decide (l<p)=true:=decide_eq_true h1;rw[if_pos h1];clear hl h h1 hf IS TC;go_enter Tryz.func56,Tryz.ntmps56
  go_wp2_with fail
  try rw[hW1]
  try rw[hW2]
  (with_reducible refine LC.out.mono ?_);rintro e w3 ⟨rfl,f3⟩;have F3:=zH f3;obtain⟨y0,y1,y2⟩:=CC w3 (F2.trans F3);clear hW1 hW2 f3 LC x0 x1 x2;have X3:=zH ((F3).keep _ _ X2 trivial);refine k7M ?_;intro z0 z1 z2 k0 k1 k2;obtain⟨W4,hW4,p0',p1',p2',F4⟩:=J8 (b:=b) (bt:=bt) (v:=.slice a n c) X3;go_wp2
  try rw[hW4]
  have fin:Fr (fun c _=>True∧c<w.heap.size) w W4:=(((F1.out.trans F2.out).trans F3.out).tT).trans (F4.out.mono fun c _ h e=>by have:=h.2;have:=S1.out;omega);exact ms9
 ·have g1:decide (l<p)=false:=decide_eq_false h1;rw[if_neg h1] at hf ⊢;by_cases h2:p<b
  ·have g2:decide (p<b)=true:=decide_eq_true h2;rw[if_pos h2] at hf ⊢;by_cases h3:p+m≤b
   ·have g3:decide ((p:Int)+(m:Int)≤(b:Int))=true:=by simp;omega
    rw[if_pos h3];clear hl h h1 h2 h3 hf IS TC;go_enter Tryz.func56,Tryz.ntmps56
    go_wp2_with fail
    try rw[hW1]
    try rw[hW2]
    (with_reducible refine LC.out.mono ?_);rintro e w3 ⟨rfl,f3⟩;have F3:=zH f3;obtain⟨y0,y1,y2⟩:=CC w3 (F2.trans F3);clear hW1 hW2 f3 LC x0 x1 x2;have X3:=zH ((F3).keep _ _ X2 trivial);refine k7M ?_;intro z0 z1 z2 k0 k1 k2;obtain⟨W4,hW4,p0',p1',p2',F4⟩:=J8 (b:=b) (bt:=bt) (v:=.slice a n c) X3;go_wp2
    try rw[hW4]
    have fin:Fr (fun c _=>True∧c<w.heap.size) w W4:=(((F1.out.trans F2.out).trans F3.out).tT).trans (F4.out.mono fun c _ h e=>by have:=h.2;have:=S1.out;omega);refine bodyPost_ret (v:=.tuple #[.agg #[.int .u64 (b:Nat),.int .u64 (bt:Nat),.slice a n c],.int .u64 0,.int .i64 61]) (by simp [results,Tryz.results56,go_sem, *]) rfl ⟨⟨a,n,c,0,xs,rfl,?_,HLG.out⟩,?_⟩
    ·exact mbs
    ·exact mLV
   ·rw[if_neg h3] at hf;exact absurd rfl hf
  ·have g2:decide (p<b)=false:=decide_eq_false h2;have g4:decide (b≤p)=true:=by simp;omega
   rw[if_neg h2] at hf ⊢;by_cases h3:T1=pt
   ·rw[if_pos h3] at hf;exact absurd rfl hf
   ·have g3:((T1:Int) != (pt:Int))=true:=by simp;omega
    have g5:=IS h1 h2;subst g5;rw[if_neg h3];clear hl h h1 h2 h3 hf IS;go_enter Tryz.func56,Tryz.ntmps56
    go_wp2_with fail
    try rw[hW1]
    try rw[hW2]
    (with_reducible refine LC.out.mono ?_);rintro e w3 ⟨rfl,f3⟩;have F3:=zH f3;obtain⟨y0,y1,y2⟩:=CC w3 (F2.trans F3);clear hW1 hW2 f3 LC x0 x1 x2;go_wp2_with fail
    (with_reducible refine(TC.out w3 F3.out).mono ?_);rintro e w4 ⟨rfl,f4⟩;have F5:=zH (F3.trans f4);obtain⟨s0,s1,s2⟩:=CC w4 (F2.trans F5);clear f4 y0 y1 y2;have X3:=zH ((F5).keep _ _ X2 trivial);refine k7M ?_;intro z0 z1 z2 k0 k1 k2;obtain⟨W4,hW4,p0',p1',p2',F4⟩:=J8 (b:=b) (bt:=bt) (v:=.slice a n c) X3;go_wp2
    try rw[hW4]
    have fin:Fr (fun c _=>True∧c<w.heap.size) w W4:=(((F1.out.trans F2.out).trans F5.out).tT).trans (F4.out.mono fun c _ h e=>by have:=h.2;have:=S1.out;omega);exact ms9
def PhD (l R:Lg) (b p s n:Nat) (xs ys:List EV) (i at_ fr:Nat) (o:List EV):Prop:=
 (∀y∈o,y∈xs∨y∈ys)∧((fr=0∧o=xs.take (at_-b)∧b≤at_∧((i<s∧at_=b)∨(s≤i∧at_≤p+i∧R=l.lay (p+i) ((ys.drop i).map EV.en)∧p+i≤b+n)))∨
 (fr≠0∧s≤i∧(o++ys.drop i).map EV.en=R.es))
theorem EsAt.of_own [Old] {X:Nat→Prop} {w:World} {B:Nat} {g:Option Addr} {m c:Nat} {xs:List EV} (h:w.ownsRow B 85 3 (.slice g m c) xs.length (xs.flatMap encE)) (hX:∀c,X c→c<B) (hd:∀x∈xs,BytesAt (RO X) w (.slice x.a x.d.length x.c) x.d∧x.d.length≤9223372036854775807):EsAt X w (.slice g m c) xs:=
 ⟨(jQ h encE_len).mono fun c o _ q=>⟨fun hc=>by have:=hX c hc;have:=q.1;omega,by obtain⟨cs,e⟩:=q.2;exact .inr ⟨cs,_,_,e,by decide⟩⟩,(fun n' c' e=>by
  rcases h.2 with⟨e1,e2⟩ | ⟨g',cap,cur,e1,_⟩
  ·rw[Value.slice.injEq] at e e1
   omega
  ·rw[Value.slice.injEq] at e e1
   rw[e.1] at e1
   cases e1.1),hd⟩
theorem Mz (xs:List EV) {b at_:Nat} (hb:b≤at_) (h:at_-b<xs.length):xs.take (at_+1-b)=xs.take (at_-b)++[xs[at_-b]]:=by
 rw[show at_+1-b=(at_-b)+1 by omega,List.take_succ_eq_append_getElem h]
theorem D0 [Old] {X:Nat→Prop} (w:World) (b bt p pt:Nat) (a:Option Addr) (n c:Nat) (xs:List EV) (hx:EsAt X w (.slice a n c) xs) (a2:Option Addr) (m c2:Nat) (ys:List EV) (hy:EsAt X w (.slice a2 m c2) ys) (h:b+n<18446744073709551616) (hp:p+m<18446744073709551616) (hn:n≤400000) (hm:m≤400000) (hX:∀c,X c→c<w.heap.size)
    (hf:(lgE b bt xs).fits p pt m=0):
    Calls Tryz.prog 56 #[vL9 b bt (.slice a n c),.int .u64 (p:Nat),.int .u64 (pt:Nat),.slice a2 m c2] w fun e w'=>DAppR X w w' b bt ((lgE b bt xs).append p pt (ys.map EV.en)).1 0 e:=by
  have hnl:=hx.row.len'
  have hml:=hy.row.len'
  refine ktY ?_
  intro W1 hW1 F1 X1 CC
  obtain⟨W2,hW2⟩:=zE (W1.alloc (.cells #[.int .u64 0,.int .u64 0,.slice none 0 0] 100 (0,0)))
  have F2:Hid (Fr (fun _ _=>True) W1 W2):=hW2▸(Fr.refl _ _).alloc _
  refine kku ?_
  intro X2
  have S1:Hid (w.heap.size<W1.heap.size):=bX X1.out
  obtain⟨x0,x1,x2⟩:=CC.out W2 F2.out
  have LC:=zH (dW W2 b bt a n c h)
  have TC:=zH (fun W (f:Fr (fun _ _=>True) W2 W)=>f_ W b bt p a n c xs (((hx.row.tt F1.out).tt F2.out).tt f) h (by omega))
  have EC:=zH (fun W (f:Fr (fun _ _=>True) W2 W) i z ok h1 h2=>Dy W b bt i a n c xs (((hx.row.tt F1.out).tt F2.out).tt f) h (by omega) z ok h1 h2)
  have HX:=zH hx
  have HY:=zH hy
  have HNL:=zH hnl
  have HML:=zH hml
  have HXX:=zH hX
  have HPL:Hid (b≤p→p≤b+n∧((lgE b bt xs).term p)=(pt,true)):=fun hbp=>by
    unfold Lg.fits at hf
    rw[cq,←hnl] at hf
    by_cases q:b+n<p
    · rw[if_pos q] at hf;cases hf
    · rw[if_neg q,if_neg (show ¬p<(lgE b bt xs).base from by show ¬p<b;omega)] at hf
      refine⟨by omega,?_⟩
      by_cases q2:((lgE b bt xs).term p).1=pt
      · have q3:((lgE b bt xs).term p).2=true:=Lg.term_is.2 ⟨hbp,by rw[cq,←hnl];omega⟩
        exact Prod.ext q2 q3
      · rw[if_neg q2] at hf;cases hf
  have HPB:Hid (p<b→b-p<m):=fun hbp=>by
    unfold Lg.fits at hf
    rw[cq,←hnl] at hf
    exact mhQ
  have HR:Hid (((lgE b bt xs).append p pt (ys.map EV.en)).1=if p<b then(lgE b bt xs).lay b ((ys.drop (b-p)).map EV.en) else(lgE b bt xs).lay p (ys.map EV.en)):=by
    exact mXT
  have HLT:Hid (∀i k,(hk:k<xs.length)→i=b+1+k→(lgE b bt xs).term i=(xs[k].t,true)):=fun i k hk e=>kz b bt i k xs hk e
  have HLO:Hid (∀i,b+n<i→(lgE b bt xs).term i=(0,false)):=fun i q=>Lg.term_out (.inr (by rw[cq,←hnl];exact q))
  have HLE:Hid ((lgE b bt xs).es=xs.map EV.en∧(lgE b bt xs).base=b∧∀es,({ lgE b bt xs with es:=es }:Lg).es=es):=⟨rfl,rfl,fun _=>rfl⟩
  obtain⟨R,hR⟩:=zE (((lgE b bt xs).append p pt (ys.map EV.en)).1)
  rw[hR] at HR ⊢
  generalize lgE b bt xs=LG at TC HPL HR HLT HLO HLE
  clear hR hf
  obtain⟨s,hs,HS⟩:∃s,(p<b→s=b-p)∧Hid (s=b-p∧(0<s→p+s=b)∧s≤m):=⟨b-p,fun _=>rfl,rfl,fun _=>by omega,by rcases Nat.lt_or_ge p b with q | q;have:=HPB.out q;omega;omega⟩
  have HI0:Hid (PhD LG R b p s n xs ys 0 b 0 []):=by
    refine⟨fun y hy=>(by cases hy),.inl ⟨rfl,by simp,Nat.le_refl _,?_⟩⟩
    have hr:=HR.out
    by_cases q:p<b
    · exact .inl ⟨by have:=HS.out;omega,rfl⟩
    · rw[if_neg q] at hr
      exact .inr ⟨by have:=HS.out;omega,by omega,hr,(HPL.out (by omega)).1⟩
  have HRS:Hid (0<s→R=LG.lay b ((ys.drop s).map EV.en)):=fun q=>by
    have hr:=HR.out
    rw[if_pos (by have:=HS.out;omega),←HS.out.1] at hr
    exact hr
  clear hs
  obtain⟨l,hl⟩:=zE (b+n)
  have HL:=zH hl
  rw[hl] at LC
  refine knD ?_
  intro w1 w2
  have g1:decide (l<p)=false:=by
    have q1:=HPL.out
    simp
    rcases Nat.lt_or_ge p b with q | q
    · omega
    · have:=(q1 q).1;omega
  have TP:Hid (b≤p→LG.term p=(pt,true)):=fun q=>(HPL.out q).2
  have P64:Hid (p+m<18446744073709551616∧b+n<18446744073709551616):=⟨hp,h⟩
  obtain⟨T,hT⟩:=zE (LG.term p)
  rw[hT] at TC TP
  obtain⟨T1,T2⟩:=T
  dsimp only at TC
  unfold vL9 at LC TC EC
  unfold vL9
  clear hx hy hX hnl hml hl hT HPL
  by_cases hpb:p<b
  all_goals
    first
      | (have g2:decide (p<b)=true:=decide_eq_true hpb
         have g3:decide ((p:Int)+(m:Int)≤(b:Int))=false:=by have:=HPB.out hpb;simp;omega
         have g4:decide (b≤p)=false:=by simp;omega)
      | (have g2:decide (p<b)=false:=decide_eq_false hpb
         have g4:decide (b≤p)=true:=by simp;omega
         have g5:=TP.out (by omega)
         cases g5
         have g6:((pt:Int) != (pt:Int))=false:=by simp)
    clear hpb h hp HPB TP
    go_enter Tryz.func56,Tryz.ntmps56
    go_wp2_with fail
    try rw[hW1]
    try rw[hW2]
    (with_reducible refine LC.out.mono ?_)
    rintro e w3 ⟨rfl,f3⟩
    have F3:=zH f3
    obtain⟨y0,y1,y2⟩:=CC.out w3 (F2.out.trans F3.out)
    clear hW1 hW2 f3 LC x0 x1 x2
    go_wp2_with fail
    (with_reducible refine(TC.out w3 F3.out).mono ?_)
    rintro e w4 ⟨rfl,f4⟩
    have F5:=zH (F3.out.trans f4)
    obtain⟨s0,s1,s2⟩:=CC.out w4 (F2.out.trans F5.out)
    clear f4 y0 y1 y2
    clear TC w1 w2
    go_wp2
    clear s0 s1 s2
    have O0:Hid (w4.ownsRow W2.heap.size 85 3 (.slice none 0 0) ([]:List EV).length (([]:List EV).flatMap encE)):=⟨rfl,.inl ⟨rfl,rfl⟩⟩
    go_loopw [13,14,15,16] (fun o at_ fr j wr=>∃(i:Nat) (g:Option Addr) (q c' ta tf:Nat) (ol:List EV),j=.int .i64 (i:Nat)∧i≤m∧o=.slice g q c'∧at_=.int .u64 (ta:Nat)∧fr=.int .u64 (tf:Nat)∧Hid (PhD LG R b p s n xs ys i ta tf ol)∧Hid (ol.length=q∧q≤n+i)∧Hid (wr.ownsRow W2.heap.size 85 3 (.slice g q c') ol.length (ol.flatMap encE))∧Hid (Fr (fun _ _=>True) W2 wr)) (fun _ _ _ j _=>m-(intOf j).toNat)
    case atStart=>exact⟨0,none,0,0,b,0,[],rfl,Nat.zero_le _,rfl,rfl,rfl,HI0.out,⟨rfl,Nat.zero_le _⟩,O0.out,F5.out⟩
    case round=>
      obtain⟨i,g,q,c',ta,tf,ol,rfl,hi,rfl,rfl,rfl,HPH,HQ,HO,HF⟩:=hrel
      obtain⟨x0,x1,x2⟩:=CC.out wr (F2.out.trans HF.out)
      by_cases hlt:i<m
      · have hltI:(i:Int)<(m:Int):=by omega
        have i0:(0:Int)≤(i:Int):=by omega
        obtain⟨u,hu⟩:=zE (p+1+i)
        have w1:IntKind.u64.wrap ((p:Int)+1)=(p:Int)+1:=by rw[IntKind.wrap_u64];have:=P64.out;omega
        have w2:IntKind.u64.wrap (i:Int)=(i:Int):=by rw[IntKind.wrap_u64];have:=P64.out;omega
        have w3:IntKind.u64.wrap ((p:Int)+1+(i:Int))=(u:Int):=by rw[IntKind.wrap_u64];have:=P64.out;omega
        have HU:=zH hu
        have hiy:i<ys.length:=by have:=HML.out;omega
        by_cases his:i<s
        · have g8:decide (u≤b)=true:=by have:=HS.out;simp;omega
          have PN1:Hid (PhD LG R b p s n xs ys (i+1) ta tf ol):=by
            obtain⟨q0,q1⟩:=HPH.out
            refine⟨q0,?_⟩
            rcases q1 with⟨e1,e2,e3,e4⟩ | ⟨e1,e2,e3⟩
            · refine .inl ⟨e1,e2,e3,?_⟩
              rcases e4 with⟨_,e5⟩ | ⟨e5,_⟩
              · by_cases h1:i+1<s
                · exact .inl ⟨h1,e5⟩
                · have es:i+1=s:=by omega
                  have eb:=HS.out.2.1 (by omega)
                  refine .inr ⟨by omega,by omega,?_,by omega⟩
                  rw[es,eb]
                  exact HRS.out (by omega)
              · omega
            · omega
          clear hu his
          go_wp2
          go_roundw
          case rel=>exact⟨i+1,g,q,c',ta,tf,ol,by go_num,by omega,rfl,rfl,rfl,PN1.out,⟨HQ.out.1,by have:=HQ.out.2;omega⟩,HO.out,HF.out⟩
          case measure=>simp [intOf];omega
        · have g8:decide (u≤b)=false:=by have:=HS.out;simp;omega
          obtain⟨bx,off,_,rfl,_,_,hc1⟩:=((HY.out.row.tt (F1.out.trans F2.out)).spot (by omega))
          have u123:=RowsAt.e3 (K:=fun _ _=>True) hc1 i hiy
          obtain⟨y,hyy⟩:=zE (ys[i])
          rw[hyy] at u123
          have CY:Hid (∀W,Fr (fun _ _=>True) W2 W→W.cell? ⟨bx,off+i*3,none⟩=some (.int .u64 (y.t:Nat))∧W.cell? ⟨bx,off+i*3+1,none⟩=some (.int .i64 y.k)∧W.cell? ⟨bx,off+i*3+2,none⟩=some (.slice y.a y.d.length y.c)):=fun W f=>⟨f.cell (fun _ _=>trivial) u123.1,f.cell (fun _ _=>trivial) u123.2.1,f.cell (fun _ _=>trivial) u123.2.2⟩
          clear u123
          obtain⟨u1,u2,u3⟩:=CY.out wr HF.out
          have HSI:Hid (s≤i):=by show _≤_;omega
          have HYM:Hid (y∈ys∧ys.drop i=y :: ys.drop (i+1)):=⟨by rw[←hyy];exact List.getElem_mem hiy,by rw[List.drop_eq_getElem_cons hiy,hyy]⟩
          clear hc1 hyy hu
          by_cases hf0:tf=0
          · have HT0:=zH hf0
            have g9:((tf:Int)==0)=true:=by simp [hf0]
            clear hf0
            obtain⟨QO,QA⟩:=HPH.out
            have QB:Hid (ol=xs.take (ta-b)∧b≤ta∧ta≤p+i∧R=LG.lay (p+i) ((ys.drop i).map EV.en)∧p+i≤b+n):=by
              rcases QA with⟨_,e2,e3,e4⟩ | ⟨e1,_⟩
              · rcases e4 with⟨e5,_⟩ | ⟨_,e5,e6,e7⟩
                · omega
                · exact⟨e2,e3,e5,e6,e7⟩
              · exact absurd HT0.out e1
            clear QO QA
            have QO:=HPH.out.1
            have HQO:=zH QO
            have hpi:p+i≤b+n:=QB.out.2.2.2.2
            have hbt:b≤ta:=QB.out.2.1
            have htp:ta≤p+i:=QB.out.2.2.1
            have HQ0:Hid (q=ta-b):=by
              show _=_
              rw[←HQ.out.1,QB.out.1,List.length_take]
              have:=HNL.out
              omega
            have O0':Hid (wr.ownsRow W2.heap.size 85 3 (.slice g q c') (xs.take (ta-b)).length ((xs.take (ta-b)).flatMap encE)):=by
              show World.ownsRow _ _ _ _ _ _ _
              rw[←QB.out.1]
              exact HO.out
            clear QO his
            go_wp2
            clear x0 x1 x2 u1 u2 u3
            obtain⟨wo,hwo⟩:∃x,x=wr:=⟨_,rfl⟩
            subst hwo
            go_loopw [13,14] (fun o at_ wv=>∃(g:Option Addr) (q c' ta:Nat),o=.slice g q c'∧at_=.int .u64 (ta:Nat)∧b≤ta∧ta≤p+i∧Hid (q=ta-b)∧Hid (wv.ownsRow W2.heap.size 85 3 (.slice g q c') (xs.take (ta-b)).length ((xs.take (ta-b)).flatMap encE))∧Hid (Fr (fun _ _=>True) W2 wv)) (fun _ at_ _=>p+i-(intOf at_).toNat)
            case atStart=>exact⟨g,q,c',ta,rfl,rfl,hbt,htp,HQ0.out,O0'.out,HF.out⟩
            case round=>
              have HFO:=HF
              clear hbt htp HQ0 O0' HQ HO HPH HF
              obtain⟨g,q,c',ta,rfl,rfl,hbt,htp,HQ0,HO,HF⟩:=hrel
              obtain⟨x0,x1,x2⟩:=CC.out wr (F2.out.trans HF.out)
              obtain⟨v,hv⟩:=zE (ta+1)
              have w4:IntKind.u64.wrap ((ta:Int)+1)=(v:Int):=by rw[IntKind.wrap_u64];have:=P64.out;omega
              have HV:=zH hv
              by_cases hin:ta<p+i
              · have g10:decide (v<u)=true:=by have:=HU.out;simp;omega
                have hk:ta-b<xs.length:=by have:=HNL.out;omega
                obtain⟨z,hz⟩:=zE (xs[ta-b])
                have ED:=zH (EC.out wr HF.out v z true (fun k hk e=>⟨by rw[←hz];congr 1;omega,rfl⟩) (fun q=>absurd (show b+1+(ta-b)=v by omega) (q (ta-b) (by have:=HNL.out;omega))))
                have SM:Hid (xs.take (ta-b)++[z]=xs.take (v-b)):=by show _=_;rw[←hv,Mz xs hbt hk,hz]
                unfold vE at ED
                have HL6:Hid ((xs.take (v-b)).length=q+1):=by show _=_;rw[←SM.out,List.length_append,List.length_take];have:=HQ0.out;simp;omega
                have hq1:q+1≤1000000:=by have:=HQ0.out;have:=HNL.out;omega
                clear hz hv
                go_wp2_with fail
                (with_reducible refine ED.out.mono ?_)
                rintro e w8 ⟨rfl,f8⟩
                refine kCT ?_
                intro W9 hW9 F9 X9 FW9 OW9 e90
                have e91:=bQ (i:=1) X9.out rfl
                have e92:=bQ (i:=2) X9.out rfl
                obtain⟨W6,hW6,F6,X6⟩:=ebox W9 z
                have ROW6:=zH (dY X6.out)
                have FW6:=zH (FW9.out.trans F6.out)
                have OW6:=zH (kZ OW9.out F6.out)
                clear ED f8
                go_wp2_with (at_builtin;(try rw[hW9]);(try rw[hW6]);refine cV W2 W6 FW6 rfl _ _ rfl _ _ rfl OW6 _ [z] rfl ROW6 _ SM (q+1) HL6 hq1 ?_)
                intro g7 c7 W7 O7 F7 G7 N7
                go_wp2
                go_roundw
                case rel=>exact⟨g7,q+1,c7,v,rfl,rfl,by have:=HV.out;omega,by have:=HV.out;omega,by have:=HQ0.out;have:=HV.out;show _=_;omega,by show World.ownsRow _ _ _ _ _ _ _;rw[HL6.out];exact O7.out,F7.out⟩
                case measure=>simp [intOf];have:=HV.out;omega
              · have g10:decide (v<u)=false:=by have:=HU.out;simp;omega
                have HTA:Hid (ta=p+i):=by show _=_;omega
                clear htp hbt hv
                by_cases hub:u≤b+n
                · have hk:p+i-b<xs.length:=by have:=HNL.out;have:=HU.out;have:=QB.out.2.1;have:=QB.out.2.2.1;omega
                  obtain⟨z,hz⟩:=zE (xs[p+i-b])
                  have ED:=zH (EC.out wr HF.out u z true (fun k hk e=>⟨by rw[←hz];congr 1;have:=HU.out;omega,rfl⟩) (fun q=>absurd (show b+1+(p+i-b)=u by have:=HU.out;have:=QB.out.2.1;have:=QB.out.2.2.1;omega) (q (p+i-b) (by have:=HNL.out;omega))))
                  have HTM:Hid (LG.term (p+i+1)=(z.t,true)):=by
                    rw[HLT.out (p+i+1) (p+i-b) hk (by have:=QB.out.2.1;have:=QB.out.2.2.1;omega),hz]
                    rfl
                  have SMZ:Hid (xs.take (ta-b)++[z]=xs.take (u-b)):=by
                    show _=_
                    have:=Mz xs (b:=b) (at_:=p+i) (by have:=QB.out.2.1;have:=QB.out.2.2.1;omega) hk
                    rw[hz] at this
                    rw[HTA.out,←this,show p+i+1-b=u-b by have:=HU.out;omega]
                  unfold vE at ED
                  clear hz
                  go_wp2_with fail
                  (with_reducible refine ED.out.mono ?_)
                  rintro e w8 ⟨rfl,f8⟩
                  refine kCT ?_
                  intro W9 hW9 F9 X9 FW9 OW9 e90
                  obtain⟨u1,u2,u3⟩:=CY.out W9 FW9.out
                  clear ED f8 x0 x1 x2
                  by_cases hzt:z.t=y.t
                  · have g12:((z.t:Int)==(y.t:Int))=true:=by rw[hzt];simp
                    have HZT:=zH hzt
                    clear hzt
                    go_wp2_with fail
                    try rw[hW9]
                    clear hW9
                    go_quiet (fail)
                    have FY:=zH (FW9.out.drewN nq)
                    have OY:=zH (kZ OW9.out ((Fr.refl _ W9).drewN nq))
                    have X9':(W9.drewN nq).heap[w8.heap.size]? = _:=X9.out
                    have e90':=bQ (i:=0) X9' rfl
                    have e91':=bQ (i:=1) X9' rfl
                    have e92':=bQ (i:=2) X9' rfl
                    clear X9'
                    obtain⟨W6,hW6,F6,X6⟩:=ebox (W9.drewN nq) z
                    have ROW6:=zH (dY X6.out)
                    have FW6:=zH (FY.out.trans F6.out)
                    have OW6:=zH (kZ OY.out F6.out)
                    have HL6:Hid ((xs.take (u-b)).length=q+1):=by show _=_;rw[←SMZ.out,List.length_append,List.length_take];have:=HQ0.out;have:=HNL.out;have:=HTA.out;simp;omega
                    have hq1:q+1≤1000000:=by have:=HQ0.out;have:=HNL.out;have:=HTA.out;omega
                    have PN1:Hid (PhD LG R b p s n xs ys (i+1) u tf (xs.take (u-b))):=by
                      refine⟨fun z' hz'=>.inl (List.mem_of_mem_take hz'),.inl ⟨HT0.out,rfl,by have:=HU.out;have:=QB.out.2.1;have:=QB.out.2.2.1;omega,.inr ⟨by have:=HSI.out;omega,by have:=HU.out;omega,?_,by have:=HU.out;omega⟩⟩⟩
                      rw[QB.out.2.2.2.1,HYM.out.2,List.map_cons,Gv (by rw[HTM.out,HZT.out];rfl)]
                      rfl
                    go_wp2_with (at_builtin;(try rw[hW6]);refine cV W2 W6 FW6 rfl _ _ rfl _ _ rfl OW6 _ [z] rfl ROW6 _ SMZ (q+1) HL6 hq1 ?_)
                    intro g7 c7 W7 O7 F7 G7 N7
                    go_wp2
                    go_roundw
                    case rel=>exact⟨i+1,g7,q+1,c7,u,tf,xs.take (u-b),by go_num,by omega,rfl,rfl,rfl,PN1.out,⟨HL6.out,by have:=HQ0.out;have:=HNL.out;have:=HTA.out;have:=HU.out;omega⟩,by show World.ownsRow _ _ _ _ _ _ _;rw[HL6.out];exact O7.out,F7.out⟩
                    case measure=>simp [intOf];omega
                  · have g12:((z.t:Int)==(y.t:Int))=false:=by simp;omega
                    have STOP:Hid (LG.term (p+i+1)≠(y.en.t,true)):=by
                      rw[HTM.out]
                      intro e
                      exact hzt (congrArg Prod.fst e)
                    clear hzt
                    go_wp2_with fail
                    try rw[hW9]
                    clear hW9
                    go_quiet (fail)
                    clear e90
                    refine kbN ?_
                    intro FY OY v1 v2 v3 W6 hW6 F6 X6 ROW6 FW6 OW6 ol2 hol2 SM HL6 hq1
                    have PN1:Hid (PhD LG R b p s n xs ys (i+1) u u ol2):=by
                      exact mLj
                    clear hol2
                    go_wp2_with (at_builtin;(try rw[hW6]);refine cV W2 W6 FW6 rfl _ _ rfl _ _ rfl OW6 _ [y] rfl ROW6 _ SM (q+1) HL6 hq1 ?_)
                    intro g7 c7 W7 O7 F7 G7 N7
                    go_wp2
                    go_roundw
                    case rel=>exact⟨i+1,g7,q+1,c7,u,u,ol2,by go_num,by omega,rfl,rfl,rfl,PN1.out,⟨HL6.out,by have:=HQ0.out;have:=HNL.out;have:=HTA.out;have:=HSI.out;omega⟩,by show World.ownsRow _ _ _ _ _ _ _;rw[HL6.out];exact O7.out,F7.out⟩
                    case measure=>simp [intOf];omega
                · have ED:=zH (EC.out wr HF.out u zEV false (fun k hk e=>absurd hk (by have:=HNL.out;omega)) (fun q=>⟨rfl,rfl⟩))
                  have STOP:Hid (LG.term (p+i+1)≠(y.en.t,true)):=by
                    rw[HLO.out (p+i+1) (by have:=HU.out;omega)]
                    intro e
                    cases congrArg Prod.snd e
                  obtain⟨z,hz⟩:=zE zEV
                  rw[hz] at ED
                  unfold vE at ED
                  clear hz
                  go_wp2_with fail
                  (with_reducible refine ED.out.mono ?_)
                  rintro e w8 ⟨rfl,f8⟩
                  refine kCT ?_
                  intro W9 hW9 F9 X9 FW9 OW9 e90
                  obtain⟨u1,u2,u3⟩:=CY.out W9 FW9.out
                  clear ED f8 x0 x1 x2
                  go_wp2_with fail
                  try rw[hW9]
                  clear hW9
                  go_quiet (fail)
                  clear e90
                  refine kbN ?_
                  intro FY OY v1 v2 v3 W6 hW6 F6 X6 ROW6 FW6 OW6 ol2 hol2 SM HL6 hq1
                  have PN1:Hid (PhD LG R b p s n xs ys (i+1) u u ol2):=by
                    exact mLj
                  clear hol2
                  go_wp2_with (at_builtin;(try rw[hW6]);refine cV W2 W6 FW6 rfl _ _ rfl _ _ rfl OW6 _ [y] rfl ROW6 _ SM (q+1) HL6 hq1 ?_)
                  intro g7 c7 W7 O7 F7 G7 N7
                  go_wp2
                  go_roundw
                  case rel=>exact⟨i+1,g7,q+1,c7,u,u,ol2,by go_num,by omega,rfl,rfl,rfl,PN1.out,⟨HL6.out,by have:=HQ0.out;have:=HNL.out;have:=HTA.out;have:=HSI.out;omega⟩,by show World.ownsRow _ _ _ _ _ _ _;rw[HL6.out];exact O7.out,F7.out⟩
                  case measure=>simp [intOf];omega
          · have g9:((tf:Int)==0)=false:=by simp;omega
            obtain⟨ol2,hol2⟩:=zE (ol++[y])
            have SM:=zH hol2
            have HL6:Hid (ol2.length=q+1):=by show _=_;rw[←hol2,List.length_append,HQ.out.1];rfl
            have hq1:q+1≤1000000:=by have:=HQ.out.2;omega
            have PN1:Hid (PhD LG R b p s n xs ys (i+1) u tf ol2):=by
              rw[←hol2]
              obtain⟨q0,q1⟩:=HPH.out
              refine⟨fun z hz=>?_,.inr ⟨hf0,by omega,?_⟩⟩
              · rcases List.mem_append.1 hz with h1 | h1
                · exact q0 z h1
                · rw[List.mem_singleton.1 h1];exact .inr HYM.out.1
              · rcases q1 with⟨e1,_⟩ | ⟨e1,e2,e3⟩
                · exact absurd e1 hf0
                · rw[←e3,HYM.out.2,List.append_assoc];rfl
            clear hf0 his hol2
            obtain⟨W6,hW6,F6,X6⟩:=ebox wr y
            have ROW6:=zH (dY X6.out)
            have FW6:=zH (HF.out.trans F6.out)
            have OW6:=zH (kZ HO.out F6.out)
            go_wp2_with (at_builtin;(try rw[hW6]);refine cV W2 W6 FW6 rfl _ _ rfl _ _ rfl OW6 _ [y] rfl ROW6 _ SM (q+1) HL6 hq1 ?_)
            intro g7 c7 W7 O7 F7 G7 N7
            go_wp2
            go_roundw
            case rel=>exact⟨i+1,g7,q+1,c7,u,tf,ol2,by go_num,by omega,rfl,rfl,rfl,PN1.out,⟨HL6.out,by have:=HQ.out.2;omega⟩,by show World.ownsRow _ _ _ _ _ _ _;rw[HL6.out];exact O7.out,F7.out⟩
            case measure=>simp [intOf];omega
      · have hge:¬(i:Int)<(m:Int):=by omega
        obtain rfl:i=m:=by omega
        by_cases hf0:tf=0
        · have g9:((tf:Int)==0)=true:=by simp [hf0]
          have RE:Hid (xs.map EV.en=R.es):=by
            show _=_
            rcases HPH.out.2 with⟨_,_,_,e4⟩ | ⟨e1,_⟩
            · rcases e4 with⟨e5,_⟩ | ⟨_,_,e6,_⟩
              · have:=HS.out;omega
              · rw[e6,List.drop_of_length_le (by have:=HML.out;omega)]
                exact HLE.out.1.symm
            · exact absurd hf0 e1
          clear hf0
          have X3:=zH ((HF.out).keep _ _ X2.out trivial)
          refine klq ?_
          intro z0 z1 z2 k0 k1 k2
          obtain⟨W4,hW4,p0',p1',p2',F4⟩:=J8 (b:=b) (bt:=bt) (v:=.slice a n c) X3.out
          go_wp2
          try rw[hW4]
          have fin:Fr (fun c _=>True∧c<w.heap.size) w W4:=(((F1.out.trans F2.out).trans HF.out).mono fun _ _ _=>trivial).trans (F4.out.mono fun c _ h e=>by have:=h.2;have:=S1.out;omega)
          refine bodyPost_ret (v:=.tuple #[.agg #[.int .u64 (b:Nat),.int .u64 (bt:Nat),.slice a n c],.int .u64 0,.int .i64 0]) (by simp [results,Tryz.results56,go_sem, *]) rfl ⟨⟨a,n,c,0,xs,rfl,?_,RE.out⟩,?_⟩
          · try rw[hW4]
            exact HX.out.fr fin fun c o ho _=>⟨trivial,bX ho⟩
          · exact mLV
        · have g9:((tf:Int)==0)=false:=by simp;omega
          have RE:Hid (ol.map EV.en=R.es):=by
            show _=_
            rcases HPH.out.2 with⟨e1,_⟩ | ⟨_,_,e3⟩
            · exact absurd e1 hf0
            · rw[←e3,List.drop_of_length_le (by have:=HML.out;omega),List.append_nil]
          clear hf0
          have X3:=zH ((HF.out).keep _ _ X2.out trivial)
          refine klq ?_
          intro z0 z1 z2 k0 k1 k2
          obtain⟨W4,hW4,p0',p1',p2',F4⟩:=J8 (b:=b) (bt:=bt) (v:=.slice g q c') X3.out
          go_wp2
          try rw[hW4]
          have fin:Fr (fun c _=>True∧c<w.heap.size) w W4:=(((F1.out.trans F2.out).trans HF.out).mono fun _ _ _=>trivial).trans (F4.out.mono fun c _ h e=>by have:=h.2;have:=S1.out;omega)
          refine bodyPost_ret (v:=.tuple #[.agg #[.int .u64 (b:Nat),.int .u64 (bt:Nat),.slice g q c'],.int .u64 (tf:Nat),.int .i64 0]) (by simp [results,Tryz.results56,go_sem, *]) rfl ⟨⟨g,q,c',(tf:Nat),ol,rfl,?_,RE.out⟩,?_⟩
          · try rw[hW4]
            have hq':=HQ.out.1
            have ho':=HO.out
            rw[←hq'] at ho' ⊢
            refine EsAt.of_own (B:=W2.heap.size) (bK ho' F4.out fun cb o e ho=>?_) (fun cb hc=>?_) (fun z hz=>?_)
            · have h1:=d_ ho' cb e
              have h2:=bX X2.out
              show cb≠_
              omega
            · have:=HXX.out cb hc
              have:=S1.out
              have:=bX X2.out
              omega
            · rcases HPH.out.1 z hz with h1 | h1
              · exact⟨(HX.out.dat z h1).1.fr3 fin fun c o ho _=>⟨trivial,bX ho⟩,(HX.out.dat z h1).2⟩
              · exact⟨(HY.out.dat z h1).1.fr3 fin fun c o ho _=>⟨trivial,bX ho⟩,(HY.out.dat z h1).2⟩
          · exact mLV
theorem wz [Old] {X:Nat→Prop} (w:World) (b bt p pt:Nat) (a:Option Addr) (n c:Nat) (xs:List EV) (hx:EsAt X w (.slice a n c) xs) (a2:Option Addr) (m c2:Nat) (ys:List EV) (hy:EsAt X w (.slice a2 m c2) ys) (h:b+n<18446744073709551616) (hp:p+m<18446744073709551616) (hn:n≤400000) (hm:m≤400000) (hX:∀c,X c→c<w.heap.size):
 Calls Tryz.prog 56 #[vL9 b bt (.slice a n c),.int .u64 (p:Nat),.int .u64 (pt:Nat),.slice a2 m c2] w fun e w'=>DAppR X w w' b bt ((lgE b bt xs).append p pt (ys.map EV.en)).1 ((lgE b bt xs).append p pt (ys.map EV.en)).2 e:=by
 have hml:=hy.row.len';by_cases hf:(lgE b bt xs).fits p pt m=0
 ·have e:((lgE b bt xs).append p pt (ys.map EV.en)).2=0:=by exact mwP
  rw[e];exact D0 w b bt p pt a n c xs hx a2 m c2 ys hy h hp hn hm hX hf
 ·have e:(lgE b bt xs).append p pt (ys.map EV.en)=(lgE b bt xs,(lgE b bt xs).fits p pt m):=by unfold Lg.append;rw[List.length_map,←hml,if_pos hf]
  rw[e];exact Lq w b bt p pt a n c xs hx a2 m c2 h hp (by omega) (by omega) hf
end Go.Proofs.YtmjccpfchhnfhaaGreat
