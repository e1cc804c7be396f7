/- Texts of the proofs, part 15: what the functions that they reach do, walked; no conditions beyond those that each states. -/
import Derived.Deep.QuietTactic
import Derived.BigQuiet
import Derived.Deep.RegionHeld3
import Derived.ArgAppend
import Derived.Test.YtmjccpfchhnfhaaGreatZkcc387540ec
set_option linter.unusedVariables false
set_option linter.unusedSimpArgs false
set_option maxRecDepth 100000
set_option maxHeartbeats 8000000
namespace Go.Proofs.YtmjccpfchhnfhaaGreat
open Go.RowKit
theorem k0d {p q:Prop} (k:q) (h:q→p:=by
 have F2:=zH (F1.trans f2);obtain⟨y0,y1,y2⟩:=CC w2 f2;intro kk0;revert y2;revert y1;revert y0;revert F2;exact kk0):p:=h k
theorem kSV {p q:Prop} (k:q) (h:q→p:=by
 obtain⟨W1,hW1,F1,X1,CC⟩:=lbox w b bt (.slice a n c);obtain⟨x0,x1,x2⟩:=CC W1 (Fr.refl _ _);intro kk0;revert x2;revert x1;revert x0;revert CC;revert X1;revert F1;revert hW1;revert W1;exact kk0):p:=h k
theorem mvC {p:Prop} (h:p:=by
 go_enter Tryz.func120,Tryz.ntmps120
 go_wp2_with fail
 try rw[hW1]
 (with_reducible refine TC.out.mono ?_);rintro e w2 ⟨rfl,f2⟩;refine k0d ?_;intro F2 y0 y1 y2;clear f2 TC x0 x1 x2;go_wp2;go_ret;exact⟨rfl,F2⟩):p:=h
theorem lbox (w:World) (b bt:Nat) (v:Value):∃W,w.alloc (.cells #[.int .u64 (b:Nat),.int .u64 (bt:Nat),v] 26 (0,0))=W∧Hid (FT w W)∧Hid (W.heap[w.heap.size]? = some (.cells #[.int .u64 (b:Nat),.int .u64 (bt:Nat),v] 26 (0,0)))∧
  Hid (∀W',FT W W'→W'.cell? ⟨w.heap.size,0,none⟩=some (.int .u64 (b:Nat))∧W'.cell? ⟨w.heap.size,1,none⟩=some (.int .u64 (bt:Nat))∧W'.cell? ⟨w.heap.size,2,none⟩=some v):=
 ⟨_,rfl,(Fr.refl _ _).alloc _,bZ w _,fun W' f=>by
  have t:=f.keep _ _ (bZ w _) trivial
  exact mXL⟩
abbrev lgE (b bt:Nat) (xs:List EV):Lg:=⟨b,bt,xs.map EV.en⟩
theorem cq (b bt:Nat) (xs:List EV):(lgE b bt xs).last=b+xs.length:=by unfold Lg.last;simp
theorem pz (b bt:Nat) (xs:List EV):(lgE b bt xs).lastT=lastTE bt xs:=by
 unfold Lg.lastT lastTE;show (((xs.map EV.en).getLast?.map _).getD bt)=_;rw[List.getLast?_map,Option.map_map];rfl
theorem kz (b bt i k:Nat) (xs:List EV) (hk:k<xs.length) (hi:i=b+1+k):(lgE b bt xs).term i=(xs[k].t,true):=by
 obtain⟨h',e⟩:=Lg.term_in (l:=lgE b bt xs) (i:=i) ⟨by show b<i;omega,by rw[cq];omega⟩;rw[e];have e2:i-(lgE b bt xs).base-1=k:=by show i-b-1=k;omega
 simp only[e2];show (((xs.map EV.en)[k]'(by simpa using hk)).t,true)=_;rw[List.getElem_map];rfl
theorem L6 (w:World) (b bt i:Nat) (a:Option Addr) (n c:Nat) (h:b+n<18446744073709551616) (hi:i<b∨b+n<i):
 Calls Tryz.prog 66 #[vL b bt (.slice a n c),.int .u64 (i:Nat)] w fun e w'=>e=.returned (.tuple #[.int .u64 0,.bool false])∧FT w w':=by
 refine kSV ?_;intro W1 hW1 F1 X1 CC x0 x1 x2;have hne:((i:Int)==(b:Int))=false:=by simp;omega
 have EC:=zH (yZ W1 b bt i a n c h (by omega));unfold vL vE zEV at EC;unfold vL;clear h hi;go_enter Tryz.func66,Tryz.ntmps66
 go_wp2_with fail
 try rw[hW1]
 (with_reducible refine EC.out.mono ?_);rintro e w2 ⟨rfl,f2⟩;have F2:=zH (F1.trans f2);obtain⟨W3,hW3⟩:=zE (w2.alloc (.cells #[.int .u64 0,.int .i64 0,.slice none 0 0] 85 (0,0)));have F3:Hid (FT w W3):=hW3▸F2.out.alloc _;have X3:Hid (W3.heap[w2.heap.size]? = some (.cells #[.int .u64 0,.int .i64 0,.slice none 0 0] 85 (0,0))):=hW3▸bZ w2 _;have y0:=bV (i:=0) X3;have y1:=bV (i:=1) X3;have y2:=bV (i:=2) X3;have q0:=bQ (i:=0) X3 rfl;have q1:=bQ (i:=1) X3 rfl;have q2:=bQ (i:=2) X3 rfl;obtain⟨WZ,hWZ,TZ,FZ⟩:=set3 X3 (.int .u64 0) (.int .i64 0) (.slice none 0 0);have p0:=bQ (i:=0) TZ rfl;have FZH:=zH FZ;have SZ:Hid (w.heap.size≤w2.heap.size):=F2.size;clear f2 EC TZ FZ;go_wp2
 try rw[hW3]
 try rw[hWZ]
 go_ret2;exact⟨rfl,Fr.within ((F3.out.tT).trans (FZH.out.mono fun c _ h e=>by have:=h.2;have:=SZ.out;omega))⟩
theorem dy {K:Nat→Obj→Prop} (w:World) (b bt i:Nat) (a:Option Addr) (n c:Nat) (xs:List EV) (hx:RowsAt K w (.slice a n c) 3 encE xs) (h:b+n<18446744073709551616):
 Calls Tryz.prog 66 #[vL b bt (.slice a n c),.int .u64 (i:Nat)] w fun e w'=>e=.returned (.tuple #[.int .u64 (((lgE b bt xs).term i).1:Nat),.bool ((lgE b bt xs).term i).2])∧FT w w':=by
 have hn:=hx.len';by_cases h0:i=b
 ·subst h0;rw[show (lgE i bt xs).term i=(bt,true) from Lg.term_base _];exact sJ w i bt a n c
 ·by_cases h1:b<i∧i≤b+n
  ·have hk:i-b-1<xs.length:=by omega
   rw[kz b bt i (i-b-1) xs hk (by omega)];exact Fw w b bt i (i-b-1) a n c xs hx hn.symm h hk (by omega)
  ·rw[Lg.term_out (l:=lgE b bt xs) (i:=i) (by rw[cq];show i<b∨_;omega)];exact L6 w b bt i a n c h (by omega)
theorem yQ {K:Nat→Obj→Prop} (w:World) (b bt t i:Nat) (a:Option Addr) (n c:Nat) (xs:List EV) (hx:RowsAt K w (.slice a n c) 3 encE xs) (h:b+n<18446744073709551616):
    Calls Tryz.prog 120 #[vL b bt (.slice a n c),.int .u64 (t:Nat),.int .u64 (i:Nat)] w fun e w'=>e=.returned (.bool ((lgE b bt xs).newer t i))∧FT w w':=by
  have hn:=hx.len'
  unfold Lg.newer
  rw[cq,pz,←hn]
  refine kSV ?_
  intro W1 hW1 F1 X1 CC x0 x1 x2
  have TC:=zH (mY W1 b bt a n c xs (hx.tt F1) hn.symm h)
  have LC:=zH (fun W=>cz W b bt a n c h)
  obtain⟨l,hl⟩:=zE (b+n)
  generalize lastTE bt xs=o at TC ⊢
  rw[hl] at LC ⊢
  unfold vL at TC LC ⊢
  clear hx h hn hl
  by_cases h1:o<t
  · have g1:decide (o<t)=true:=decide_eq_true h1
    rw[decide_eq_true h1]
    clear h1
    exact mvC
  · have g1:decide (o<t)=false:=decide_eq_false h1
    rw[decide_eq_false h1]
    by_cases h2:t=o
    · subst h2
      have g2:((t:Int)==(t:Int))=true:=by simp
      rw[decide_eq_true rfl]
      by_cases h3:l≤i
      all_goals
        first
          | (have g3:decide (l≤i)=true:=decide_eq_true h3
             rw[decide_eq_true h3])
          | (have g3:decide (l≤i)=false:=decide_eq_false h3
             rw[decide_eq_false h3])
        clear h3 h1
        go_enter Tryz.func120,Tryz.ntmps120
        go_wp2_with fail
        try rw[hW1]
        (with_reducible refine TC.out.mono ?_)
        rintro e w2 ⟨rfl,f2⟩
        refine k0d ?_
        intro F2 y0 y1 y2
        clear f2 TC x0 x1 x2
        go_wp2_with fail
        (with_reducible refine(LC.out _).mono ?_)
        rintro e w3 ⟨rfl,f3⟩
        have F3:=zH (F2.trans f3)
        clear f3 LC
        go_wp2
        go_ret
        exact⟨rfl,F3⟩
    · have g2:((t:Int)==(o:Int))=false:=by simp;omega
      rw[decide_eq_false h2]
      clear h1 h2
      exact mvC
theorem nj {K:Nat→Obj→Prop} (w:World) (b bt p pt m:Nat) (a:Option Addr) (n c:Nat) (xs:List EV) (hx:RowsAt K w (.slice a n c) 3 encE xs) (h:b+n<18446744073709551616) (hp:p+m<18446744073709551616) (hm:m≤1000000):
    Calls Tryz.prog 101 #[vL b bt (.slice a n c),.int .u64 (p:Nat),.int .u64 (pt:Nat),.int .i64 (m:Nat)] w fun e w'=>e=.returned (.int .i64 ((lgE b bt xs).fits p pt m))∧FT w w':=by
  have hn:=hx.len'
  refine kSV ?_
  intro W1 hW1 F1 X1 CC x0 x1 x2
  have LC:=zH (cz W1 b bt a n c h)
  have TC:=zH (fun W (f:FT W1 W)=>dy W b bt p a n c xs ((hx.tt F1).tt f) h)
  unfold Lg.fits
  rw[cq,←hn]
  show Calls _ _ _ _ fun e w'=>e=.returned (.int .i64 (if b+n<p then 60 else if p<b then(if p+m≤b then 61 else 0) else if((lgE b bt xs).term p).1=pt then 0 else 60))∧_
  generalize (lgE b bt xs).term p=T at TC ⊢
  obtain⟨l,hl⟩:=zE (b+n)
  rw[hl] at LC ⊢
  unfold vL at TC LC ⊢
  have w1:IntKind.u64.wrap (m:Int)=(m:Int):=by rw[IntKind.wrap_u64];omega
  have w2:IntKind.u64.wrap ((p:Int)+(m:Int))=((p+m:Nat):Int):=by rw[IntKind.wrap_u64];omega
  clear hx h hn hp hm
  by_cases h1:l<p
  · have g1:(l:Int)<(p:Int):=by omega
    rw[if_pos h1]
    clear h1 hl
    go_enter Tryz.func101,Tryz.ntmps101
    go_wp2_with fail
    try rw[hW1]
    (with_reducible refine LC.out.mono ?_)
    rintro e w2 ⟨rfl,f2⟩
    have F2:=zH (F1.trans f2)
    clear f2 LC x0 x1 x2
    go_wp2
    go_ret
    exact⟨rfl,F2⟩
  · have g1:¬(l:Int)<(p:Int):=by omega
    rw[if_neg h1]
    by_cases h2:p<b
    · have g2:(p:Int)<(b:Int):=by omega
      rw[if_pos h2]
      clear h1 hl h2
      by_cases h3:p+m≤b
      all_goals
        first
          | (have g3:((p+m:Nat):Int)≤(b:Int):=by omega
             rw[if_pos h3])
          | (have g3:¬((p+m:Nat):Int)≤(b:Int):=by omega
             rw[if_neg h3])
        clear h3
        generalize p+m=z at w2 g3
        go_enter Tryz.func101,Tryz.ntmps101
        go_wp2_with fail
        try rw[hW1]
        (with_reducible refine LC.out.mono ?_)
        rintro e w2 ⟨rfl,f2⟩
        refine k0d ?_
        intro F2 y0 y1 y2
        clear f2 LC x0 x1 x2
        go_wp2
        go_ret
        exact⟨rfl,F2⟩
    · have g2:¬(p:Int)<(b:Int):=by omega
      rw[if_neg h2]
      clear h1 hl h2
      obtain⟨T1,T2⟩:=T
      dsimp only at TC ⊢
      by_cases h3:T1=pt
      all_goals
        first
          | (have g3:((T1:Int) != (pt:Int))=false:=by simp;omega
             rw[if_pos h3])
          | (have g3:((T1:Int) != (pt:Int))=true:=by simp;omega
             rw[if_neg h3])
        clear h3
        go_enter Tryz.func101,Tryz.ntmps101
        go_wp2_with fail
        try rw[hW1]
        (with_reducible refine LC.out.mono ?_)
        rintro e w2 ⟨rfl,f2⟩
        refine k0d ?_
        intro F2 y0 y1 y2
        have TD:=zH (TC _ f2)
        clear f2 LC x0 x1 x2
        go_wp2_with fail
        (with_reducible refine TD.out.mono ?_)
        rintro e w3 ⟨rfl,f3⟩
        have F3:=zH (F2.trans f3)
        clear f3 TD TC
        go_wp2
        go_ret
        exact⟨rfl,F3⟩
theorem kDf {p q:Prop} (k:q) (h:q→p:=by
 have hltI:(k:Int)<(n:Int):=by omega
 have w1:IntKind.u64.wrap ((b:Int)+1)=(b:Int)+1:=by rcases W0.out with q | q;exact q;omega
 have w2:IntKind.u64.wrap (k:Int)=(k:Int):=by rw[IntKind.wrap_u64];omega
 have w3:IntKind.u64.wrap ((b:Int)+1+(k:Int))=(b:Int)+1+(k:Int):=by rw[IntKind.wrap_u64];omega
 have hkx:k<xs.length:=by have:=HNL.out;omega
 intro kk0;revert hkx;revert w3;revert w2;revert w1;revert hltI;exact kk0):p:=h k
theorem ktY {p q:Prop} (k:q) (h:q→p:=by
 obtain⟨W1,hW1,F1,X1,CC⟩:=lbox9 w b bt (.slice a n c);intro kk0;revert CC;revert X1;revert F1;revert hW1;revert W1;exact kk0):p:=h k
theorem mBD {p:Prop} (h:p:=by
 rcases Nat.eq_zero_or_pos n with q | q
 ·exact .inr q
 ·exact .inl (by rw[IntKind.wrap_u64];omega)):p:=h
theorem mBa {p:Prop} (h:p:=by
 try rw[hWZ]
 exact Fr.within (((F1.out.trans F2.out).tT).trans (FZH.out.mono fun c _ h e=>by have:=h.2;have:=S1.out;omega))):p:=h
theorem mPY {p:Prop} (h:p:=by
 rcases Nat.lt_or_ge q k with q1 | q1
 ·exact HQ q q1 e
 ·obtain rfl:q=k:=by omega
  exact he e):p:=h
theorem lbox9 (w:World) (b bt:Nat) (v:Value):∃W,w.alloc (.cells #[.int .u64 (b:Nat),.int .u64 (bt:Nat),v] 100 (0,0))=W∧Hid (FT w W)∧Hid (W.heap[w.heap.size]? = some (.cells #[.int .u64 (b:Nat),.int .u64 (bt:Nat),v] 100 (0,0)))∧
  Hid (∀W',FT W W'→W'.cell? ⟨w.heap.size,0,none⟩=some (.int .u64 (b:Nat))∧W'.cell? ⟨w.heap.size,1,none⟩=some (.int .u64 (bt:Nat))∧W'.cell? ⟨w.heap.size,2,none⟩=some v):=
 ⟨_,rfl,(Fr.refl _ _).alloc _,bZ w _,fun W' f=>by
  have t:=f.keep _ _ (bZ w _) trivial
  exact mXL⟩
theorem dW (w:World) (b bt:Nat) (a:Option Addr) (n c:Nat) (h:b+n<18446744073709551616):
 Calls Tryz.prog 64 #[vL9 b bt (.slice a n c)] w fun e w'=>e=.returned (.int .u64 (b+n:Nat))∧FT w w':=by
 refine ktY ?_;intro W1 hW1 F1 X1 CC;obtain⟨x0,x1,x2⟩:=CC W1 (Fr.refl _ _);refine k6T ?_;intro hn hs;clear h;unfold vL9;go_enter Tryz.func64,Tryz.ntmps64
 go_wp2
 try rw[hW1]
 go_ret;exact⟨rfl,F1⟩
theorem K_ (w:World) (b bt:Nat) (v:Value):
 Calls Tryz.prog 68 #[vL9 b bt v,.int .u64 (b:Nat)] w fun e w'=>e=.returned (.tuple #[.int .u64 (bt:Nat),.bool true])∧FT w w':=by
 obtain⟨W1,hW1,F1,X1,CC⟩:=lbox9 w b bt v;obtain⟨x0,x1,x2⟩:=CC W1 (Fr.refl _ _);unfold vL9;go_enter Tryz.func68,Tryz.ntmps68
 go_wp2
 try rw[hW1]
 go_ret2;exact⟨rfl,F1⟩
theorem Ky {K:Nat→Obj→Prop} (w:World) (b bt i:Nat) (a:Option Addr) (n c:Nat) (xs:List EV) (hx:RowsAt K w (.slice a n c) 3 encE xs) (h:b+n<18446744073709551616) (hm:n≤2000000) (hne:i≠b):
 Calls Tryz.prog 68 #[vL9 b bt (.slice a n c),.int .u64 (i:Nat)] w fun e w'=>e=.returned (.tuple #[.int .u64 (((lgE b bt xs).term i).1:Nat),.bool ((lgE b bt xs).term i).2])∧FT w w':=by
 have hnl:=hx.len';refine ktY ?_;intro W1 hW1 F1 X1 CC;obtain⟨x0,x1,x2⟩:=CC W1 (Fr.refl _ _);have g0:((i:Int)==(b:Int))=false:=by simp;omega
 have HIT:Hid (∀k,(hk:k<xs.length)→b+1+k=i→(lgE b bt xs).term i=(xs[k].t,true)):=fun k hk e=>kz b bt i k xs hk e.symm
 have MISS:Hid ((∀k,k<n→b+1+k≠i)→(lgE b bt xs).term i=(0,false)):=fun q=>Lg.term_out (l:=lgE b bt xs) (by
  rw[cq,←hnl];show i<b∨b+n<i;rcases Nat.lt_or_ge (b+n) i with q1 | q1
  ·exact .inr q1
  ·rcases Nat.lt_or_ge i b with q2 | q2
   ·exact .inl q2
   ·exact absurd (show b+1+(i-b-1)=i by omega) (q (i-b-1) (by omega)))
 generalize (lgE b bt xs).term i=T at HIT MISS ⊢;obtain⟨T1,T2⟩:=T;dsimp only at HIT MISS ⊢;have HX:=zH (hx.tt F1);have HNL:=zH hnl
 have w0:IntKind.u64.wrap ((b:Int)+1)=(b:Int)+1∨n=0:=by exact mBD
 have W0:=zH w0;unfold vL9;clear hx hnl hne w0;go_enter Tryz.func68,Tryz.ntmps68
 go_wp2
 try rw[hW1]
 go_loop [6] (fun j=>∃k:Nat,j=.int .i64 (k:Nat)∧k≤n∧Hid (∀q,q<k→b+1+q≠i)) (fun j=>n-(intOf j).toNat)
 case atStart=>exact⟨0,rfl,Nat.zero_le _,fun q h=>absurd h (Nat.not_lt_zero _)⟩
 case round=>
  obtain⟨k,rfl,hk,HQ⟩:=hrel;by_cases hlt:k<n
  ·refine kDf ?_;intro hltI w1 w2 w3 hkx;by_cases he:b+1+k=i
   ·have g1:((b:Int)+1+(k:Int)==(i:Int))=true:=by simp;omega
    obtain⟨bx,off,_,rfl,_,_,hc1⟩:=HX.out.spot (by omega);have u1:=(RowsAt.e3 (K:=fun _ _=>True) hc1 k hkx).1;have ht:=HIT k hkx he;obtain⟨x,hxx⟩:=zE (xs[k]);rw[hxx] at u1 ht;cases ht;have k0:(0:Int)≤(k:Int):=by omega
    clear hc1 hxx he HIT MISS;go_wp2;go_ret2;exact⟨rfl,F1⟩
   ·have g1:((b:Int)+1+(k:Int)==(i:Int))=false:=by simp;omega
    have HQ1:Hid (∀q,q<k+1→b+1+q≠i):=fun q h e=>by exact mPY
    clear he;go_wp2;go_round
    case rel=>exact⟨k+1,by go_num,by omega,HQ1.out⟩
    case measure=>simp [intOf];omega
  ·have hge:¬(k:Int)<(n:Int):=by omega
   have ht:=MISS.out fun q h=>HQ.out q (by omega)
   cases ht;clear HIT MISS HQ;go_wp2;go_ret2;exact⟨rfl,F1⟩
theorem f_ {K:Nat→Obj→Prop} (w:World) (b bt i:Nat) (a:Option Addr) (n c:Nat) (xs:List EV) (hx:RowsAt K w (.slice a n c) 3 encE xs) (h:b+n<18446744073709551616) (hm:n≤2000000):
 Calls Tryz.prog 68 #[vL9 b bt (.slice a n c),.int .u64 (i:Nat)] w fun e w'=>e=.returned (.tuple #[.int .u64 (((lgE b bt xs).term i).1:Nat),.bool ((lgE b bt xs).term i).2])∧FT w w':=by
 by_cases h0:i=b
 ·subst h0;rw[show (lgE i bt xs).term i=(bt,true) from Lg.term_base _];exact K_ w i bt _
 ·exact Ky w b bt i a n c xs hx h hm h0
theorem Dy {K:Nat→Obj→Prop} (w:World) (b bt i:Nat) (a:Option Addr) (n c:Nat) (xs:List EV) (hx:RowsAt K w (.slice a n c) 3 encE xs) (h:b+n<18446744073709551616) (hm:n≤2000000) (z:EV) (ok:Bool)
 (hit:∀k,(hk:k<xs.length)→b+1+k=i→z=xs[k]∧ok=true) (miss:(∀k,k<n→b+1+k≠i)→z=zEV∧ok=false):
 Calls Tryz.prog 104 #[vL9 b bt (.slice a n c),.int .u64 (i:Nat)] w fun e w'=>e=.returned (.tuple #[vE z,.bool ok])∧FT w w':=by
 have hnl:=hx.len';refine ktY ?_;intro W1 hW1 F1 X1 CC;refine kOo ?_;intro W2 hW2 F2 X2;obtain⟨x0,x1,x2⟩:=CC W2 F2;have y0:=bV (i:=0) X2;have y1:=bV (i:=1) X2;have y2:=bV (i:=2) X2;have q0:=bQ (i:=0) X2 rfl;have q1:=bQ (i:=1) X2 rfl;have q2:=bQ (i:=2) X2 rfl;refine kpX ?_;intro S1;have HIT:=zH hit;have MISS:=zH miss;have HX:=zH ((hx.tt F1).tt F2);have HNL:=zH hnl
 have W0:Hid (IntKind.u64.wrap ((b:Int)+1)=(b:Int)+1∨n=0):=by exact mBD
 unfold vL9;unfold vE;clear hx hnl hit miss;go_enter Tryz.func104,Tryz.ntmps104
 go_wp2
 try rw[hW1]
 try rw[hW2]
 clear hW1 hW2;go_loop [6] (fun j=>∃k:Nat,j=.int .i64 (k:Nat)∧k≤n∧Hid (∀q,q<k→b+1+q≠i)) (fun j=>n-(intOf j).toNat)
 case atStart=>exact⟨0,rfl,Nat.zero_le _,fun q h=>absurd h (Nat.not_lt_zero _)⟩
 case round=>
  obtain⟨k,rfl,hk,HQ⟩:=hrel;by_cases hlt:k<n
  ·refine kDf ?_;intro hltI w1 w2 w3 hkx;by_cases he:b+1+k=i
   ·have g1:((b:Int)+1+(k:Int)==(i:Int))=true:=by simp;omega
    obtain⟨bx,off,_,rfl,_,_,hc1⟩:=HX.out.spot (by omega);obtain⟨u1,u2,u3⟩:=RowsAt.e3 (K:=fun _ _=>True) hc1 k hkx;obtain⟨e1,e2⟩:=HIT k hkx he;obtain⟨x,hxx⟩:=zE (xs[k]);rw[hxx] at u1 u2 u3 e1;subst e1 e2;have k0:(0:Int)≤(k:Int):=by omega
    obtain⟨WZ,hWZ,TZ,FZ⟩:=set3 X2 (.int .u64 (z.t:Nat)) (.int .i64 z.k) (.slice z.a z.d.length z.c);refine kJF ?_;intro p0 p1 p2 FZH;clear hc1 hxx he HIT MISS TZ FZ;go_wp2
    try rw[hWZ]
    refine bodyPost_ret (v:=.tuple #[.agg #[.int .u64 (z.t:Nat),.int .i64 z.k,.slice z.a z.d.length z.c],.bool true]) (by simp [results,Tryz.results104,go_sem, *]) rfl ⟨rfl,?_⟩;exact mBa
   ·have g1:((b:Int)+1+(k:Int)==(i:Int))=false:=by simp;omega
    have HQ1:Hid (∀q,q<k+1→b+1+q≠i):=fun q h e=>by exact mPY
    clear he;go_wp2;go_round
    case rel=>exact⟨k+1,by go_num,by omega,HQ1.out⟩
    case measure=>simp [intOf];omega
  ·have hge:¬(k:Int)<(n:Int):=by omega
   obtain⟨e1,e2⟩:=MISS.out fun q h=>HQ.out q (by omega)
   subst e1 e2;obtain⟨WZ,hWZ,TZ,FZ⟩:=set3 X2 (.int .u64 0) (.int .i64 0) (.slice none 0 0);refine kJF ?_;intro p0 p1 p2 FZH;clear HIT MISS HQ TZ FZ;go_wp2
   try rw[hWZ]
   refine bodyPost_ret (v:=.tuple #[.agg #[.int .u64 0,.int .i64 0,.slice none 0 0],.bool false]) (by simp [results,Tryz.results104,go_sem, *]) rfl ⟨rfl,?_⟩;exact mBa
theorem BV {K:Nat→Obj→Prop} (w:World) (b bt t i:Nat) (a:Option Addr) (n c:Nat) (xs:List EV) (hx:RowsAt K w (.slice a n c) 3 encE xs) (h:b+n<18446744073709551616) (hm:n≤1000000):
 Calls Tryz.prog 123 #[vL9 b bt (.slice a n c),.int .u64 (t:Nat),.int .u64 (i:Nat)] w fun e w'=>e=.returned (.bool ((lgE b bt xs).newer t i))∧FT w w':=by
 have hn:=hx.len';unfold Lg.newer;rw[cq,pz,←hn];refine ktY ?_;intro W1 hW1 F1 X1 CC;obtain⟨x0,x1,x2⟩:=CC W1 (Fr.refl _ _);have TC:=zH (qY W1 b bt a n c xs (hx.tt F1) hm);have LC:=zH (fun W=>dW W b bt a n c h);obtain⟨l,hl⟩:=zE (b+n);generalize lastTE bt xs=o at TC ⊢;rw[hl] at LC ⊢;unfold vL9 at TC LC ⊢;clear hx h hn hl;by_cases h2:t=o
 ·subst h2;have g2:((t:Int) != (t:Int))=false:=by simp
  have g0:decide (t<t)=false:=by simp
  rw[g0,decide_eq_true rfl];clear g0;obtain⟨d,hd⟩:=zE (decide (l≤i));rw[hd];have HD:=zH hd;clear hd;go_enter Tryz.func123,Tryz.ntmps123
  go_wp2_with fail
  try rw[hW1]
  (with_reducible refine TC.out.mono ?_);rintro e w2 ⟨rfl,f2⟩;refine k0d ?_;intro F2 y0 y1 y2;clear f2 TC x0 x1 x2;go_wp2_with fail
  (with_reducible refine(LC.out _).mono ?_);rintro e w3 ⟨rfl,f3⟩;have F3:=zH (F2.trans f3);clear f3 LC;go_wp2;go_ret;exact⟨by rw[←HD.out];simp,F3.out⟩
 ·have g2:((t:Int) != (o:Int))=true:=by simp;omega
  rw[decide_eq_false h2];obtain⟨d,hd⟩:=zE (decide (o<t));rw[hd];have HD:=zH hd;clear h2 hd;go_enter Tryz.func123,Tryz.ntmps123
  go_wp2_with fail
  try rw[hW1]
  (with_reducible refine TC.out.mono ?_);rintro e w2 ⟨rfl,f2⟩;refine k0d ?_;intro F2 y0 y1 y2;clear f2 TC x0 x1 x2;go_wp2;go_ret;exact⟨by rw[←HD.out];simp,F2.out⟩
theorem mGk {p:Prop} (h:p:=by
 subst z2;clear hmm z;go_wp2_with fail
 (with_reducible refine CC.out.mono ?_);rintro e w3 hh;obtain⟨⟨a3,c3,rfl,r3,z3⟩,f3⟩:=FIN _ _ hh;have R3:=zH r3;have Z3:=zH z3;have F3:=zH f3;clear hh r3 z3 f3 CC FIN;go_wp2;go_ret;exact⟨⟨_,_,rfl,R3,Z3⟩,F3⟩):p:=h
theorem Pz {K:Nat→Obj→Prop} (w:World) (v:Value) (xs:List EV) (h:RowsAt K w v 3 encE xs) (hm:xs.length≤1000000):
 Calls Tryz.prog 107 #[v] w fun e w'=>(∃a c,e=.returned (.slice a xs.length c)∧RowsAt (fun c o=>w.heap.size≤c∧∃cs,o=Obj.cells cs 85 (0,0)) w' (.slice a xs.length c) 3 encE xs∧(a=none→c=0))∧FT w w':=by
 obtain⟨a,c,rfl,_⟩:=h.form;cases a with
 | none=>
  have e:xs=[]:=by exact m12
  subst e;exact(Bj w _ _).mono fun e w' ⟨he,hw⟩=>⟨⟨none,0,he,RowsAt.nil _ _ _ _,fun _=>rfl⟩,hw▸Fr.refl _ _⟩
 | some ad=>
  refine(xY w ad _ c _ (h.src encE_len (by decide) qJ) hm).mono fun e w' ⟨⟨v,he,ho⟩,hf⟩=>?_
  have r:=jQ ho encE_len;obtain⟨a',c',rfl,_⟩:=r.form;refine⟨⟨a',c',he,r,fun e0=>?_⟩,hf⟩;subst e0;rcases ho.2 with⟨e1,_⟩ | ⟨g,cap,cur,e1,_⟩
  ·rw[Value.slice.injEq] at e1;exact e1.2.2
  ·rw[Value.slice.injEq] at e1;exact absurd e1.1 (by simp)
theorem t8 {K:Nat→Obj→Prop} (w:World) (b bt i most:Nat) (a:Option Addr) (n c:Nat) (xs:List EV) (hx:RowsAt K w (.slice a n c) 3 encE xs) (hm:xs.length≤1000000) (hmo:1≤most) (hmo2:most≤1000000) (hb:b+xs.length<18446744073709551616) (hi:i<18446744073709551616):
 Calls Tryz.prog 67 #[vL b bt (.slice a n c),.int .u64 (i:Nat),.int .i64 (most:Nat)] w fun e w'=>(∃a' c',e=.returned (.slice a' (if b<i∧i≤b+xs.length then(xs.drop (i-b-1)).take most else[]).length c')∧RowsAt (fun c o=>w.heap.size≤c∧∃cs,o=Obj.cells cs 85 (0,0)) w' (.slice a' (if b<i∧i≤b+xs.length then(xs.drop (i-b-1)).take most else[]).length c') 3 encE (if b<i∧i≤b+xs.length then(xs.drop (i-b-1)).take most else[])∧(a'=none→c'=0))∧FT w w':=by
 have hnl:=hx.len';subst hnl;obtain⟨W1,hW1⟩:=zE (w.alloc (.cells #[.int .u64 (b:Nat),.int .u64 (bt:Nat),.slice a xs.length c] 26 (0,0)));refine kmo ?_;intro F1;have X1:Hid (W1.heap[w.heap.size]? = some (.cells #[.int .u64 (b:Nat),.int .u64 (bt:Nat),.slice a xs.length c] 26 (0,0))):=hW1▸bZ w _;have p0:=bQ (i:=0) X1 rfl;have p1:=bQ (i:=1) X1 rfl;have p2:=bQ (i:=2) X1 rfl;have HC:=zH (sK W1 b bt i a xs.length c hb);by_cases h:b<i∧i≤b+xs.length
 ·rw[decide_eq_true h] at HC;rw[if_pos h];obtain⟨k,hk⟩:=zE (i-b-1);rw[hk];have hkx:k≤xs.length:=by omega
  obtain⟨L,hL⟩:=zE xs.length;have R1:=(hx.tt F1).dropS hkx;rw[hL] at R1 HC hkx hb hm h hW1 p2 X1;obtain⟨ad,had⟩:=zE (Mw a c k 3);rw[had] at R1;have hdl:(xs.drop k).length=L-k:=by rw[List.length_drop,hL]
  have hcap:=hx.form;have hLc:L≤c:=by obtain⟨_,_,e,q⟩:=hx.form;cases e;rw[←hL];exact q
  obtain⟨q,hq⟩:=zE (L-k);obtain⟨cc,hcc⟩:=zE (c-k);rw[hq,hcc] at R1;have hqc:q≤cc:=by omega
  have hq1:1≤q:=by omega
  have hs1:∀w:World,(Instr.slice 24 (.slice a L c) (some (.int .u64 (k:Nat))) none none).run Tryz.prog w=.ok (.slice ad q cc) w:=fun w=>by rw[mZ 3 Tryz.underlying24 lZ w a L c k .u64 hkx,had,hq,hcc]
  have w1:IntKind.u64.wrap ((i:Int)-(b:Int))=((i-b:Nat):Int):=by rw[IntKind.wrap_u64];omega
  have w2:IntKind.u64.wrap (((i-b:Nat):Int)-1)=((k:Nat):Int):=by rw[IntKind.wrap_u64];omega
  have HR:=zH (show min most q=((xs.drop k).take most).length by rw[List.length_take,hdl,hq]);obtain⟨mm,hmm⟩:=zE (min most q);have hm1:mm≤q:=by omega
  have hmi:min (most:Int) (q:Int)=(mm:Int):=by omega
  have hs2:∀w:World,(Instr.slice 24 (.slice ad q cc) none (some (.int .i64 (mm:Nat))) none).run Tryz.prog w=.ok (.slice ad mm cc) w:=fun w=>sy 3 Tryz.underlying24 lZ w ad q cc mm .i64 (by omega)
  have R2:=R1.takeS (m:=mm) (by rw[hdl,hq];exact hm1)
  have e2:(xs.drop k).take mm=(xs.drop k).take most:=by
   rw[←hmm];rcases Nat.le_total most q with z | z
   ·rw[Nat.min_eq_left z]
   ·rw[Nat.min_eq_right z,List.take_of_length_le (by rw[hdl,hq];exact Nat.le_refl _),List.take_of_length_le (by rw[hdl,hq];exact z)]
  rw[e2] at R2;have RH:=zH R2;have hml:((xs.drop k).take most).length≤1000000:=by rw[List.length_take];omega
  generalize (xs.drop k).take most=ys at RH hml HR R2;rw[hmm] at HR;rw[hL];have HW1:=zH hW1;have m1:decide ((most:Int)<1)=false:=by simp;omega
  clear hx R1 R2 hW1 e2 hdl hcap hL h hb;unfold vL at HC ⊢;go_enter Tryz.func67,Tryz.ntmps67
  go_wp2_with fail
  try rw[HW1.out]
  (with_reducible refine HC.out.mono ?_);rintro e w2 ⟨rfl,f2⟩;have F2:=zH (F1.trans f2);have X2:=f2.keep _ _ X1 trivial;have CC:=zH (Pz w2 (.slice ad mm cc) ys (by have:=RH.out.tt f2;exact this) hml);clear p0 p1 p2;have p0:=bQ (i:=0) X2 rfl;have p1:=bQ (i:=1) X2 rfl;have p2:=bQ (i:=2) X2 rfl;have SZ:Hid (w.heap.size≤w2.heap.size):=F2.size;clear f2 X2 HC;clear hkx had hq hcc hqc hq1 hLc hm hml hk hm1 hmi F1 X1 HW1 HR
  have fin:∀e w',((∃a c,e=Ending.returned (.slice a ys.length c)∧RowsAt (fun c o=>w2.heap.size≤c∧∃cs,o=Obj.cells cs 85 (0,0)) w' (.slice a ys.length c) 3 encE ys∧(a=none→c=0))∧FT w2 w')→(∃a' c',e=Ending.returned (.slice a' ys.length c')∧RowsAt (fun c o=>w.heap.size≤c∧∃cs,o=Obj.cells cs 85 (0,0)) w' (.slice a' ys.length c') 3 encE ys∧(a'=none→c'=0))∧FT w w':=fun e w' hh=>by obtain⟨⟨a',c',e1,e2,e4⟩,e3⟩:=hh;exact⟨⟨a',c',e1,e2.mono fun c _ _ hc=>⟨Nat.le_trans SZ hc.1,hc.2⟩,e4⟩,F2.trans e3⟩
  have FIN:=zH fin;clear fin;rcases Nat.lt_or_ge q most with z | z
  rotate_left
  ·have z1:(most:Int)≤(q:Int):=by omega
   have z2:mm=most:=by omega
   exact mGk
  ·have z1:¬(most:Int)≤(q:Int):=by omega
   have z5:(q:Int)<(most:Int):=by omega
   have z2:mm=q:=by omega
   exact mGk
 ·rw[decide_eq_false h] at HC;rw[if_neg h];clear hx hb hm;have HW1:=zH hW1;clear hW1;have m1:decide ((most:Int)<1)=false:=by simp;omega
  unfold vL at HC ⊢;go_enter Tryz.func67,Tryz.ntmps67
  go_wp2_with fail
  try rw[HW1.out]
  (with_reducible refine HC.out.mono ?_);rintro e w2 ⟨rfl,f2⟩;have F2:=zH (F1.trans f2);go_wp2;go_ret;exact⟨⟨none,0,rfl,RowsAt.nil _ _ _ _,fun _=>rfl⟩,F2⟩
theorem t_ [Old] {X:Nat→Prop} (w:World) (b bt i most:Nat) (a:Option Addr) (n c:Nat) (xs:List EV) (hx:EsAt X w (.slice a n c) xs) (hm:n≤1000000) (hmo:1≤most) (hmo2:most≤1000000) (hb:b+n<18446744073709551616) (hi:i<18446744073709551616) (hX:∀c,X c→c<w.heap.size):
 Calls Tryz.prog 67 #[vL b bt (.slice a n c),.int .u64 (i:Nat),.int .i64 (most:Nat)] w fun e w'=>(∃a' c' ys,e=.returned (.slice a' ys.length c')∧EsAt X w' (.slice a' ys.length c') ys∧ys.map EV.en=(⟨b,bt,xs.map EV.en⟩:Lg).slice i most)∧FT w w':=by
 have hl:=hx.row.len';refine(t8 w b bt i most a n c xs hx.row (by omega) hmo hmo2 (by omega) hi).mono fun e w' ⟨⟨a',c',h1,h2,h3⟩,hf⟩=>⟨⟨a',c',_,h1,⟨h2.mono fun c o _ hc=>⟨fun h=>?_,?_⟩,fun n2 c2 e2=>?_,fun x hx2=>?_⟩,?_⟩,hf⟩
 ·have:=hX c h;have:=hc.1;omega
 ·obtain⟨cs,e⟩:=hc.2;exact .inr ⟨cs,_,_,e,by decide⟩
 ·rw[Value.slice.injEq] at e2;rw[←e2.2.2];exact h3 e2.1
 ·have hin:x∈xs:=by
   split at hx2
   ·exact List.mem_of_mem_drop (List.mem_of_mem_take hx2)
   ·cases hx2
  exact⟨(hx.dat x hin).1.tt hf,(hx.dat x hin).2⟩
 ·unfold Lg.slice Lg.has Lg.last;simp only[List.length_map];by_cases q:b<i∧i≤b+xs.length
  ·rw[if_pos q,if_pos (by simpa using q),List.map_take,List.map_drop]
  ·rw[if_neg q,if_neg (by simpa using q)];rfl
theorem kZ {w w':World} {B:Nat} {v:Value} {n:Nat} {xs:List Value} {e:TypeId} {s:Nat} (h:w.ownsRow B e s v n xs) (hf:FT w w'):w'.ownsRow B e s v n xs:=bK h hf fun _ _ _ _=>trivial
theorem J2 {W:World} {B g:Nat} (hb:B≤g) (h:W.heap[g]? = some (.cells #[] 85 (0,0))):W.ownsRow B 85 3 (.slice (some ⟨g,0,none⟩) 0 0) ([]:List EV).length (([]:List EV).flatMap encE):=
 ⟨rfl,.inr ⟨g,0,#[],rfl,hb,h,Nat.le_refl _,Nat.zero_le _,rfl,rfl⟩⟩
theorem tV [Old] {X:Nat→Prop} (w:World) (b bt:Nat) (a:Option Addr) (n c:Nat) (xs:List EV) (x:EV) (hx:EsAt X w (.slice a n c) xs) (hd:BytesAt (RO X) w (.slice x.a x.d.length x.c) x.d) (hdl:x.d.length≤9223372036854775807) (hn:n≤900000) (hX:∀c,X c→c<w.heap.size):
  Calls Tryz.prog 76 #[vL9 b bt (.slice a n c),vE x] w fun e w'=>(∃g k,e=.returned (vL9 b bt (.slice g (n+1) k))∧EsAt X w' (.slice g (n+1) k) (xs++[x]))∧FT w w':=by
 have hnl:=hx.row.len'
 refine ktY ?_
 intro W1 hW1 F1 X1 CC
 obtain⟨W2,hW2⟩:=zE (W1.alloc (.cells #[.int .u64 (x.t:Nat),.int .i64 x.k,.slice x.a x.d.length x.c] 85 (0,0)))
 have F2:Hid (FT W1 W2):=hW2▸(Fr.refl _ _).alloc _
 have X2:Hid (W2.heap[W1.heap.size]? = some (.cells #[.int .u64 (x.t:Nat),.int .i64 x.k,.slice x.a x.d.length x.c] 85 (0,0))):=hW2▸bZ W1 _
 obtain⟨W3,hW3⟩:=zE (W2.alloc (.cells #[.int .u64 0,.int .u64 0,.slice none 0 0] 100 (0,0)))
 have F3:Hid (FT W2 W3):=hW3▸(Fr.refl _ _).alloc _
 have X3:Hid (W3.heap[W2.heap.size]? = some (.cells #[.int .u64 0,.int .u64 0,.slice none 0 0] 100 (0,0))):=hW3▸bZ W2 _
 have LT:Hid (w.heap.size<W1.heap.size∧W1.heap.size<W2.heap.size∧W2.heap.size<W3.heap.size):=⟨bX X1,bX X2,bX X3⟩
 have SS:Hid (∀W,FT W3 W→W.cell? ⟨w.heap.size,0,none⟩=some (.int .u64 (b:Nat))∧W.cell? ⟨w.heap.size,1,none⟩=some (.int .u64 (bt:Nat))∧W.cell? ⟨w.heap.size,2,none⟩=some (.slice a n c)∧W.cell? ⟨W1.heap.size,0,none⟩=some (.int .u64 (x.t:Nat))∧W.cell? ⟨W1.heap.size,1,none⟩=some (.int .i64 x.k)∧W.cell? ⟨W1.heap.size,2,none⟩=some (.slice x.a x.d.length x.c)):=fun W f=>by
  obtain⟨h0,h1,h2⟩:=CC W ((F2.trans F3).trans f)
  have t:=f.keep _ _ (F3.keep _ _ X2 trivial) trivial
  exact⟨h0,h1,h2,bQ t rfl,bQ t rfl,bQ t rfl⟩
 have SK:Hid (∀W v0 v1 v2,FT W3 W→(((W.setCell ⟨W2.heap.size,0,none⟩ v0).setCell ⟨W2.heap.size,1,none⟩ v1).setCell ⟨W2.heap.size,2,none⟩ v2).cell? ⟨w.heap.size,0,none⟩=some (.int .u64 (b:Nat))∧(((W.setCell ⟨W2.heap.size,0,none⟩ v0).setCell ⟨W2.heap.size,1,none⟩ v1).setCell ⟨W2.heap.size,2,none⟩ v2).cell? ⟨w.heap.size,1,none⟩=some (.int .u64 (bt:Nat))∧(((W.setCell ⟨W2.heap.size,0,none⟩ v0).setCell ⟨W2.heap.size,1,none⟩ v1).setCell ⟨W2.heap.size,2,none⟩ v2).cell? ⟨w.heap.size,2,none⟩=some (.slice a n c)∧(((W.setCell ⟨W2.heap.size,0,none⟩ v0).setCell ⟨W2.heap.size,1,none⟩ v1).setCell ⟨W2.heap.size,2,none⟩ v2).cell? ⟨W1.heap.size,0,none⟩=some (.int .u64 (x.t:Nat))∧(((W.setCell ⟨W2.heap.size,0,none⟩ v0).setCell ⟨W2.heap.size,1,none⟩ v1).setCell ⟨W2.heap.size,2,none⟩ v2).cell? ⟨W1.heap.size,1,none⟩=some (.int .i64 x.k)∧(((W.setCell ⟨W2.heap.size,0,none⟩ v0).setCell ⟨W2.heap.size,1,none⟩ v1).setCell ⟨W2.heap.size,2,none⟩ v2).cell? ⟨W1.heap.size,2,none⟩=some (.slice x.a x.d.length x.c)):=fun W v0 v1 v2 f=>by
  have h:=SS W f
  have fc:Fr (fun c _=>c≠W2.heap.size) W (((W.setCell ⟨W2.heap.size,0,none⟩ v0).setCell ⟨W2.heap.size,1,none⟩ v1).setCell ⟨W2.heap.size,2,none⟩ v2):=(((Fr.refl _ _).setCell (fun _ _ h=>h rfl) _).setCell (fun _ _ h=>h rfl) _).setCell (fun _ _ h=>h rfl) _
  have q:∀b o v,b<W2.heap.size→W.cell? ⟨b,o,none⟩=some v→(((W.setCell ⟨W2.heap.size,0,none⟩ v0).setCell ⟨W2.heap.size,1,none⟩ v1).setCell ⟨W2.heap.size,2,none⟩ v2).cell? ⟨b,o,none⟩=some v:=fun b o v hb hc=>fc.cell (fun _ _=>by show b≠_;omega) hc
  have:=LT.out
  exact⟨q _ _ _ (by omega) h.1,q _ _ _ (by omega) h.2.1,q _ _ _ (by omega) h.2.2.1,q _ _ _ (by omega) h.2.2.2.1,q _ _ _ (by omega) h.2.2.2.2.1,q _ _ _ (by omega) h.2.2.2.2.2⟩
 have U0:Hid (FT W3 W3.drew):=(Fr.refl _ _).drew
 have HX:=zH ((((hx.row.tt F1).tt F2).tt F3))
 have HX0:=zH hx
 have HD0:=zH hd
 have HXX:=zH hX
 have HN:Hid (xs.length=n):=hnl.symm
 have HN1:Hid ((xs++[x]).length=n+1):=by show _=_;rw[List.length_append,HN.out];rfl
 have RR:Hid (∀W,FT W3 W→RowsAt (RO X) W (.slice a n c) 3 encE xs):=fun W f=>HX.tt f
 have OE:Hid (∀(W:World) g,W3.heap.size≤g→W.heap[g]? = some (.cells #[] 85 (0,0))→W.ownsRow W3.heap.size 85 3 (.slice (some ⟨g,0,none⟩) 0 0) ([]:List EV).length (([]:List EV).flatMap encE)):=fun W g h1 h2=>J2 h1 h2
 obtain⟨E0,hE0⟩:∃E,E=Obj.cells #[] 85 (0,0):=⟨_,rfl⟩
 have hn9:n≤1000000:=by omega
 have hn8:n+1≤1000000:=by omega
 have NB1:Hid ((Value.slice (some ⟨W3.heap.size,0,none⟩) 0 0).ownBlock≠some (W3.heap.size+1)):=by show _≠_;simp [Value.ownBlock]
 have NB2:Hid ((Value.slice (some ⟨W3.heap.size+1,0,none⟩) 0 0).ownBlock≠some W3.heap.size):=by show _≠_;simp [Value.ownBlock]
 have ON:Hid (∀(W:World) v,W.ownsRow W3.heap.size 85 3 v n (xs.flatMap encE)→W.ownsRow W3.heap.size 85 3 v xs.length (xs.flatMap encE)):=fun W v h=>by rw[HN.out];exact h
 unfold vL9 vE
 clear hx hd hX hnl
 go_enter Tryz.func76,Tryz.ntmps76
 go_wp2_with fail
 try rw[hW1]
 try rw[hW2]
 try rw[hW3]
 clear hW1 hW2 hW3
 go_region_held3 (fun W=>W.cell? ⟨w.heap.size,0,none⟩=some (.int .u64 (b:Nat))∧W.cell? ⟨w.heap.size,1,none⟩=some (.int .u64 (bt:Nat))∧W.cell? ⟨w.heap.size,2,none⟩=some (.slice a n c)∧W.cell? ⟨W1.heap.size,0,none⟩=some (.int .u64 (x.t:Nat))∧W.cell? ⟨W1.heap.size,1,none⟩=some (.int .i64 x.k)∧W.cell? ⟨W1.heap.size,2,none⟩=some (.slice x.a x.d.length x.c))
  (first | exact SK _ _ _ _ F10 | exact SS _ U0 | exact SS _ (U0.alloc _) | exact SS _ ((U0.alloc _).alloc _) | exact SS _ F10 | exact SS _ F7 | exact SS _ (F7.alloc _))
  (first
   | (refine ck W3 _ (zH (U0.alloc _)) _ _ rfl _ [] rfl (zH (OE _ _ (Nat.le_refl _) (bZ _ _))) _ xs rfl (zH (RR _ (U0.alloc _))) xs (zH rfl) n HN hn9 ?_;intro g7 c7 W7 O7 F7 G7 N7)
   | (refine ck W3 _ (zH ((U0.alloc _).alloc _)) _ _ rfl _ [] rfl (zH (OE _ _ (Nat.le_refl _) (jX (bZ _ _) _))) _ xs rfl (zH (RR _ ((U0.alloc _).alloc _))) xs (zH rfl) n HN hn9 ?_;intro g7 c7 W7 O7 F7 G7 N7;have XB7:=zH (G7.keep _ _ (jJ (World.size_alloc W3.drew _) _) (NB1)))
   | (refine ck W3 _ (zH ((U0.alloc _).alloc _)) _ _ rfl _ [] rfl (zH (OE _ _ (Nat.le_succ _) (jJ (World.size_alloc _ _) _))) _ xs rfl (zH (RR _ ((U0.alloc _).alloc _))) xs (zH rfl) n HN hn9 ?_;intro g7 c7 W7 O7 F7 G7 N7;have XB7:=zH (G7.keep _ _ (jX (bZ W3.drew _) _) (NB2)))
   | (refine ck W3 _ (zH (F7.alloc _)) _ _ rfl _ xs rfl (zH (kZ (ON _ _ O7) ((Fr.refl _ _).alloc _))) _ [x] rfl (zH (dY (bZ _ _))) (xs++[x]) (zH rfl) (n+1) HN1 hn8 ?_;intro g10 c10 W10 O10 F10 G10 N10;have T10:=zH (F10.keep _ _ X3 trivial);have z0:=bV (i:=0) T10.out;have z1:=bV (i:=1) T10.out;have z2:=bV (i:=2) T10.out;have k0:=bQ (i:=0) T10 rfl;have k1:=bQ (i:=1) T10 rfl;have k2:=bQ (i:=2) T10 rfl)
   | (refine ck W3 _ F7 _ _ rfl _ xs rfl (zH (ON _ _ O7)) _ [x] rfl (zH (dY XB7)) (xs++[x]) (zH rfl) (n+1) HN1 hn8 ?_;intro g10 c10 W10 O10 F10 G10 N10;have T10:=zH (F10.keep _ _ X3 trivial);have z0:=bV (i:=0) T10.out;have z1:=bV (i:=1) T10.out;have z2:=bV (i:=2) T10.out;have k0:=bQ (i:=0) T10 rfl;have k1:=bQ (i:=1) T10 rfl;have k2:=bQ (i:=2) T10 rfl))
 all_goals
  obtain⟨WC,hWC,TC,FC⟩:=set3 T10 (.int .u64 (b:Nat)) (.int .u64 (bt:Nat)) (.slice g10 (n+1) c10)
  have p0:=bQ (i:=0) TC rfl
  have p1:=bQ (i:=1) TC rfl
  have p2:=bQ (i:=2) TC rfl
  have FCH:=zH FC
  clear TC FC z0 z1 z2 k0 k1 k2
  try rw[hWC]
  go_wp2
  try rw[hWC]
  have fin:Fr (fun c _=>True∧c<w.heap.size) w WC:=(((((F1.out.trans F2.out).trans F3.out).trans F10.out).tT).trans (FCH.out.mono fun c _ h e=>by have:=h.2;have:=LT.out;omega))
  refine bodyPost_ret (v:=.agg #[.int .u64 (b:Nat),.int .u64 (bt:Nat),.slice g10 (n+1) c10]) (by simp [results,Tryz.results76,go_sem, *]) rfl ⟨⟨g10,c10,rfl,⟨?_,?_,?_⟩⟩,Fr.within fin⟩
  ·have r:=jQ (w:=W10) (xs:=xs++[x]) (B:=W3.heap.size) (e:=85) (v:=.slice g10 (n+1) c10) (by rw[HN1.out];exact O10.out) encE_len
   exact(r.fr FCH.out fun c o _ h=>by have:=h.1;have:=LT.out;omega).mono fun c o _ h=>⟨fun hc=>by have:=h.1;have:=HXX.out c hc;have:=LT.out;omega,by obtain⟨cs,e⟩:=h.2;exact .inr ⟨cs,_,_,e,by decide⟩⟩
  ·intro n' c' e
   rcases O10.2 with⟨e1,e2⟩ | ⟨g',cap,cur,e1,_⟩
   ·cases e1
   ·rw[e1] at e;cases e
  ·intro y hy
   rcases List.mem_append.1 hy with h | h
   ·exact⟨(HX0.dat y h).1.fr3 fin fun c o ho _=>⟨trivial,bX ho⟩,(HX0.dat y h).2⟩
   ·rw[List.mem_singleton.1 h]
    exact⟨HD0.fr3 fin fun c o ho _=>⟨trivial,bX ho⟩,hdl⟩
def bkD (l:Lg) (own P k:Nat):Nat:=l.down own (min (k-1) (P-1))
theorem bkD_zero (l:Lg) (own P:Nat):bkD l own P 0=l.base:=by unfold bkD;rw[show min (0-1) (P-1)=0 by omega];rfl
theorem bkD_up {l:Lg} {own P k:Nat} (hk:k<P) (h:(l.term (l.base+k)).1≠own):bkD l own P (k+1)=l.base+k:=by
 unfold bkD;rw[show min (k+1-1) (P-1)=k by omega];cases k with
 | zero=>rfl
 | succ k=>unfold Lg.down;rw[if_neg h]
theorem bkD_same {l:Lg} {own P k:Nat} (hk:k<P) (h:(l.term (l.base+k)).1=own):bkD l own P (k+1)=bkD l own P k:=by
 unfold bkD;cases k with
 | zero=>rfl
 | succ k=>
  rw[show min (k+1+1-1) (P-1)=k+1 by omega,show min (k+1-1) (P-1)=k by omega]
  conv=>lhs;unfold Lg.down
  rw[if_pos h]
theorem bkD_past {l:Lg} {own P k:Nat} (hk:¬k<P):bkD l own P (k+1)=bkD l own P k:=by
 unfold bkD;rw[show min (k+1-1) (P-1)=min (k-1) (P-1) by omega]
theorem bkD_end {l:Lg} {own P n:Nat} (hP:1≤P) (hn:P≤n) (h:(l.term (l.base+P)).1=own):bkD l own P (n+1)=l.down own P:=by
 unfold bkD;obtain⟨q,rfl⟩:∃q,P=q+1:=⟨P-1,by omega⟩
 rw[show min (n+1-1) (q+1-1)=q by omega]
 conv=>rhs;unfold Lg.down
 rw[if_pos h]
theorem Dw {K:Nat→Obj→Prop} (w:World) (b bt p:Nat) (a:Option Addr) (n c:Nat) (xs:List EV) (hx:RowsAt K w (.slice a n c) 3 encE xs) (h:b+n<18446744073709551616) (hn:n≤2000000):
    Calls Tryz.prog 57 #[vL9 b bt (.slice a n c),.int .u64 (p:Nat)] w fun e w'=>e=.returned (.int .u64 ((lgE b bt xs).hint p:Nat))∧FT w w':=by
  have hnl:=hx.len'
  refine ktY ?_
  intro W1 hW1 F1 X1 CC
  obtain⟨x0,x1,x2⟩:=CC W1 (Fr.refl _ _)
  have LC:=zH (dW W1 b bt a n c h)
  have TC:=zH (fun W (f:FT W1 W) i=>f_ W b bt i a n c xs ((hx.tt F1).tt f) h hn)
  unfold Lg.hint
  rw[cq,←hnl]
  show Calls _ _ _ _ fun e w'=>e=.returned (.int .u64 ((if min p (b+n)≤b then b else(lgE b bt xs).down ((lgE b bt xs).term (min p (b+n))).1 (min p (b+n)-b):Nat):Int))∧_
  have hbase:(lgE b bt xs).base=b:=rfl
  generalize lgE b bt xs=LG at TC hbase ⊢
  have HB:=zH hbase
  obtain⟨l,hl⟩:=zE (b+n)
  rw[hl] at LC ⊢
  obtain⟨m,hm⟩:=zE (min p l)
  rw[hm]
  unfold vL9 at LC TC ⊢
  clear hx hbase hnl
  by_cases hmb:m≤b
  · rw[if_pos hmb]
    by_cases hc:p≤l
    all_goals
      first
        | (have g1:(p:Int)≤(l:Int):=by omega
           have g2:(p:Int)≤(b:Int):=by omega)
        | (have g1:¬(p:Int)≤(l:Int):=by omega
           have g2:(l:Int)≤(b:Int):=by omega)
      clear hc hmb hl hm h
      go_enter Tryz.func57,Tryz.ntmps57
      go_wp2_with fail
      try rw[hW1]
      (with_reducible refine LC.out.mono ?_)
      rintro e w2 ⟨rfl,f2⟩
      refine k0d ?_
      intro F2 y0 y1 y2
      clear f2 LC x0 x1 x2
      go_wp2
      go_ret
      exact⟨rfl,F2⟩
  · rw[if_neg hmb]
    obtain⟨own,hown⟩:=zE ((LG.term m).1)
    obtain⟨ok,hok⟩:=zE ((LG.term m).2)
    rw[hown]
    obtain⟨P,hP⟩:=zE (m-b)
    rw[hP]
    have HE:Hid (bkD LG own P (n+1)=LG.down own P):=bkD_end (by omega) (by omega) (by rw[HB.out,show b+P=m by omega];exact hown)
    rw[←HE.out]
    have HMP:Hid (m=b+P∧P≤n∧1≤P):=⟨by omega,by omega,by omega⟩
    have TM:=zH (fun W f=>TC W f m)
    rw[hown,hok] at TM
    have hn64:b+n<18446744073709551616:=h
    have gmb:¬(m:Int)≤(b:Int):=by omega
    by_cases hc:p≤l
    all_goals
      first
        | (have g1:(p:Int)≤(l:Int):=by omega
           obtain rfl:m=p:=by omega)
        | (have g1:¬(p:Int)≤(l:Int):=by omega
           obtain rfl:m=l:=by omega)
      clear hc hmb hl hm h hown hok hP
      go_enter Tryz.func57,Tryz.ntmps57
      go_wp2_with fail
      try rw[hW1]
      (with_reducible refine LC.out.mono ?_)
      rintro e w2 ⟨rfl,f2⟩
      have F2:=zH f2
      obtain⟨y0,y1,y2⟩:=CC w2 f2
      have TM2:=zH (TM w2 f2)
      clear f2 LC TM x0 x1 x2
      go_wp2_with fail
      (with_reducible refine TM2.out.mono ?_)
      rintro e w3 ⟨rfl,f3⟩
      have F3:=zH (F2.trans f3)
      obtain⟨x0,x1,x2⟩:=CC w3 F3
      clear f3 TM2 y0 y1 y2
      go_wp2
      clear x0 x1 x2
      go_loopw [8,9] (fun o j wr=>∃(k:Nat),j=.int .i64 (k:Nat)∧k≤n+1∧o=.int .u64 (bkD LG own P k:Nat)∧Hid (FT W1 wr)) (fun _ j _=>n+1-(intOf j).toNat)
      case atStart=>exact⟨0,rfl,Nat.zero_le _,by rw[bkD_zero,HB.out],F3.out⟩
      case round=>
        obtain⟨k,rfl,hk,rfl,HF⟩:=hrel
        obtain⟨x0,x1,x2⟩:=CC wr HF
        by_cases hlt:k≤n
        · have hltI:(k:Int)≤(n:Int):=by omega
          have w2':IntKind.u64.wrap (k:Int)=(k:Int):=by rw[IntKind.wrap_u64];omega
          obtain⟨i,hi⟩:=zE (b+k)
          have w3':IntKind.u64.wrap ((b:Int)+(k:Int))=(i:Int):=by rw[IntKind.wrap_u64];omega
          have TD:=zH (TC wr HF i)
          obtain⟨T,hT⟩:=zE (LG.term i)
          rw[hT] at TD
          obtain⟨T1,T2⟩:=T
          dsimp only at TD
          have UP:Hid (k<P→T1≠own→bkD LG own P (k+1)=i):=fun h1 h2=>by rw[bkD_up h1 (by rw[HB.out,hi,hT];exact h2),HB.out];exact hi
          have SM:Hid (k<P→T1=own→bkD LG own P (k+1)=bkD LG own P k):=fun h1 h2=>bkD_same h1 (by rw[HB.out,hi,hT];exact h2)
          have HI:Hid (b+k=i):=hi
          obtain⟨B0,hB0⟩:=zE (bkD LG own P k)
          have PA:Hid (¬k<P→bkD LG own P (k+1)=B0):=fun h1=>by rw[bkD_past h1];exact hB0
          rw[hB0] at SM ⊢
          clear hT hi hB0
          go_wp2_with fail
          (with_reducible refine TD.out.mono ?_)
          rintro e w5 ⟨rfl,f5⟩
          have F5:=zH (HF.trans f5)
          clear f5 TD TC
          by_cases hkP:k<P
          · have g2:decide (i<m)=true:=by have:=HI.out;have:=HMP.out.1;simp;omega
            by_cases ho:T1=own
            · have g3:((T1:Int) != (own:Int))=false:=by simp;omega
              have E:=zH (SM hkP ho)
              clear UP SM PA hkP ho x0 x1 x2
              go_wp2
              go_roundw
              case rel=>exact⟨k+1,by go_num,by omega,by rw[E.out],F5.out⟩
              case measure=>simp [intOf];omega
            · have g3:((T1:Int) != (own:Int))=true:=by simp;omega
              have E:=zH (UP hkP ho)
              clear UP SM PA hkP ho x0 x1 x2
              go_wp2
              go_roundw
              case rel=>exact⟨k+1,by go_num,by omega,by rw[E.out],F5.out⟩
              case measure=>simp [intOf];omega
          · have g2:decide (i<m)=false:=by have:=HI.out;have:=HMP.out.1;simp;omega
            have E:=zH (PA hkP)
            clear UP SM PA hkP x0 x1 x2
            go_wp2
            go_roundw
            case rel=>exact⟨k+1,by go_num,by omega,by rw[E.out],F5.out⟩
            case measure=>simp [intOf];omega
        · have hge:¬(k:Int)≤(n:Int):=by omega
          obtain rfl:k=n+1:=by omega
          obtain⟨B0,hB0⟩:=zE (bkD LG own P (n+1))
          have HB0:=zH hB0
          rw[hB0]
          clear hB0 HE
          go_wp2
          go_ret
          exact⟨by rw[HB0.out];rfl,F1.out.trans HF.out⟩
end Go.Proofs.YtmjccpfchhnfhaaGreat
