/- Texts of the proofs, part 21: what the functions that they reach do, walked; no conditions beyond those that each states. -/
import Derived.Shelf.Abstract
import Derived.Shelf.RegionOpen
import Derived.OwnWalkIn
import Derived.TacticsInMore
import Derived.LoopNIn
import Derived.LoopIn
import Derived.RegionIn
import Derived.BigRegionIn
import Derived.ArgAppend
import Derived.Test.YtmjccpfchhnfhaaGreatZk11eefb5251
import Derived.Test.YtmjccpfchhnfhaaGreatZkaae8089ac6
import Derived.Test.YtmjccpfchhnfhaaGreatZkcb5e09821d
set_option linter.unusedVariables false
set_option linter.unusedSimpArgs false
set_option maxRecDepth 100000
set_option maxHeartbeats 8000000
namespace Go.Proofs.YtmjccpfchhnfhaaGreat
open Go.RowKit
section
open Go.Shelf
def encD (l:Lg) (x:Nat):Array Value:=#[.int .u64 (x:Nat),.int .u64 ((l.term x).1:Nat)]
theorem LZ (w:World) (v:Value) (p:Nat) (b bt:Nat):
 Calls Tryz.prog 103 #[vL b bt v,.int .u64 (p:Nat)] w fun e w'=>e=.returned (.func (.func 128) #[] #[.pointer (some ⟨w.heap.size+1,0,none⟩),.pointer (some ⟨w.heap.size,0,none⟩)])∧w'=(w.alloc (.cells #[.int .u64 (b:Nat),.int .u64 (bt:Nat),v] 26)).alloc (.cells #[.int .u64 (p:Nat)] 23):=by
 unfold vL;go_enter Tryz.func103,Tryz.ntmps103
 go_wp2;go_ret;exact⟨rfl,rfl⟩
attribute [local go_sem] Oper.semAt_some
theorem down_seq (n:Nat) (W0:World) (B:Nat→Prop) (bl bf b bt p nn c:Nat) (a:Option Addr) (xs:List EV) (hx:RowsAt (fun c _=>B c) W0 (.slice a nn c) 3 encE xs) (hb:b+nn<18446744073709551616) (hp:p≤b+nn) (hpb:b≤p)
 (hbl:W0.heap[bl]? = some (.cells #[.int .u64 (b:Nat),.int .u64 (bt:Nat),.slice a nn c] 26 (0,0))) (hbf:W0.heap[bf]? = some (.cells #[.int .u64 (p:Nat)] 23 (0,0))) (hBl:B bl) (hBf:B bf):
 SeqX Fence.wide n Tryz.prog 128 #[.pointer (some ⟨bf,0,none⟩),.pointer (some ⟨bl,0,none⟩)] (encD (lgE b bt xs)) (fun pre x W=>x+pre.length=p∧b≤x) B (fun ys=>p<b+ys.length) W0:=by
 intro l J Jx W hW hJ hY h0;refine callsIn_of_wp Tryz.func128 rfl trivial ?_ rfl;simp only[Tryz.ntmps128,List.size_toArray,List.length_cons,List.length_nil,Nat.reduceAdd,Nat.reduceSub,Array.replicate_succ,Array.replicate_zero,List.push_toArray,List.append_toArray,List.nil_append,List.cons_append]
 have CL:Hid (∀W',Fr (fun c _=>B c) W0 W'→W'.cell? ⟨bl,0,none⟩=some (.int .u64 (b:Nat))∧W'.cell? ⟨bl,1,none⟩=some (.int .u64 (bt:Nat))∧W'.cell? ⟨bl,2,none⟩=some (.slice a nn c)):=fun W' f=>by have t:=f.keep _ _ hbl hBl;exact mXL
 have TC:=zH (fun W' (f:Fr (fun c _=>B c) W0 W') (i:Nat)=>dy W' b bt i a nn c xs (hx.fr f fun _ _ _ h=>h) hb);have FW:Hid (Fr (fun c _=>B c) W0 W):=hW.tT;have cf:W.cell? ⟨bf,0,none⟩=some (.int .u64 (p:Nat)):=bQ (hW.keep _ _ hbf trivial) rfl;have HJ:=zH hJ;have HY:=zH hY;have H0:=zH h0;unfold vL at TC;generalize lgE b bt xs=LG at HY TC;have hp64:p<18446744073709551616:=by omega
 clear hx hb hp hbl hbf hW hJ hY h0
 gi_wp2
 clear cf
 gi_loopw [4] (fun i wr=>∃(j:Nat) (ys:List Nat) (z:Nat),z+j=p∧b≤z+1∧i=.int .u64 (z:Nat)∧Hid (J ys wr)∧Hid (ys.length=j)∧Hid (Fr (fun c _=>B c) W0 wr)) (fun i _=>(intOf i).toNat)
 case atStart=>exact⟨0,[],p,by omega,by omega,rfl,H0.out,rfl,FW.out⟩
 case round=>
  obtain⟨j,ys,z,hj,hz,rfl,HJx,HX,HF⟩:=hrel;obtain⟨x0,x1,x2⟩:=CL _ HF;clear H0 FW;by_cases hlt:b≤z
  ·have hltI:(b:Int)≤(z:Int):=by omega
   have TD:=zH (TC _ HF z);clear TC
   gi_wp2_with fail
   refine⟨trivial,(fun h=>by cases h),(callsIn_wide.2 TD).mono ?_⟩;rintro e w2 ⟨rfl,f2⟩;obtain⟨fn,tmps,assign,body,hy,hR⟩:=HY.out ys z w2 (HJ.out _ _ _ HJx.out f2) ⟨by rw[HX.out];exact hj,hlt⟩;have HR:=zH hR;have F2:=zH (HF.trans (f2.tT));clear hR TD f2 x0 x1 x2 hlt;dsimp only[encD] at hy
   gi_wp2
   refine⟨(fun h=>by cases h),HR.mono ?_⟩;rintro e w3 (⟨rfl,hJ3,f3⟩ | ⟨rfl,hJ3⟩)
   ·have HJ3:=zH hJ3;have F3:=zH (F2.trans f3);clear hJ3 f3 hy HR;by_cases hz0:z=0
    ·subst hz0
     gi_wp2
     exact bodyPost_ret (results_none rfl _ _ _) rfl ⟨⟨_,rfl⟩,.inl ⟨ys++[0],by rw[List.length_append,HX.out];simp;omega,HJ3.out⟩⟩
    ·have g0:((z:Int)==0)=false:=by simp;omega
     obtain⟨z',rfl⟩:∃z',z=z'+1:=⟨z-1,by omega⟩
     have w1:IntKind.u64.wrap (((z'+1:Nat):Int)-1)=(z':Int):=by rw[IntKind.wrap_u64];omega
     clear hz0
     gi_wp2
     go_roundw
     case rel=>exact⟨j+1,ys++[z'+1],z',by omega,by omega,by first | rfl | go_num | (congr 1;omega),HJ3.out,by show _=_;rw[List.length_append,HX.out];rfl,F3.out⟩
     case measure=>simp [intOf]
   ·have HJ3:=zH hJ3;clear hJ3 hy HR
    gi_wp2
    exact bodyPost_ret (results_none rfl _ _ _) rfl ⟨⟨_,rfl⟩,.inr ⟨_,HJ3⟩⟩
  ·have hge:¬(b:Int)≤(z:Int):=by omega
   gi_wp2
   go_end0;exact⟨⟨_,rfl⟩,.inl ⟨ys,by rw[HX.out];omega,HJx.out⟩⟩
end
section
open Go.Shelf
theorem k1P {p q:Prop} (k:q) (h:q→p:=by
 have i0:=bQ (i:=0) ho rfl;have HK:=zH hK;have FF:Hid (FT w (V1.putObj Dn (.deferred none))):=Fr.within (((FW.out.tT:Fr (fun c _=>True∧c<w.heap.size) w w6).trans (hf.mono fun c _ h e=>by have:=h.2;have:=SW.out;omega)).putObj (fun o ho h=>by have:=h.2;have:=FW.out.size;omega) _);intro kk0;revert FF;revert HK;revert i0;exact kk0):p:=h k
theorem H_ {α:Type} {P:Program} {g:Operand} {p1 p2:Nat} (q1 q2:Nat) {assign body:Code} {Q:Exit→Act→World→Prop} {T:Array Value} {w:World} {gf:Nat} {lb:Array Value} (lab:Nat) (e1 e2:α→Value) (hg:Act.eval ⟨T,[]⟩ g=.func (.func gf) #[] lb) (eg:∀args w,(callFunc gf args).run P w=.ok (.enter gf args) w)
 {S':List α→α→World→Prop} {B:Nat→Prop} {S:List α→Prop} (hseq:SeqX Fence.wide 2 P gf lb (fun x=>#[e1 x,e2 x]) S' B S w) (hB0:B w.heap.size) (hB1:B (w.heap.size+1))
 (I Ix:List α→World→Prop) (hI:∀xs A A',I xs A→Fr KC A A'→I xs A') (hIx:∀xs A A',Ix xs A→Fr KC A A'→Ix xs A') (h0:I [] w)
 (hassign:∀(l:Nat) (x:α) (W:World) (K:Act→World→Prop),K { tmps:=(((T.setIfInBounds p1 (e1 x)).setIfInBounds p2 (e2 x)).setIfInBounds q1 (e1 x)).setIfInBounds q2 (e2 x),defers:=[] } W→assign.wpIn (Fence.wide.inRound l) 1 P (Exit.then K (fun _ _ _=>False)) { tmps:=(T.setIfInBounds p1 (e1 x)).setIfInBounds p2 (e2 x),defers:=[] } W)
 (hbody:∀(l:Nat) (pre:List α) (x:α) (W Wb:World),w.heap.size+2≤W.heap.size→Fr (fun c _=>B c) w W→I pre W→S' pre x W→Fr KC W Wb→body.wpIn (Fence.wide.inRound l) 1 P (yy lab B I Ix (pre++[x]) Wb) { tmps:=(((T.setIfInBounds p1 (e1 x)).setIfInBounds p2 (e2 x)).setIfInBounds q1 (e1 x)).setIfInBounds q2 (e2 x),defers:=[] } Wb)
 (hdone:∀(D:Nat) (xs:List α) (W:World),w.heap.size≤D→D≤w.heap.size→S xs→I xs W→W.heap[D]? = some (.deferred (some []))→Fr (fun c _=>B c) w W→Q .normal { tmps:=T,defers:=[{ target:=.collected D,args:=#[] }] } W)
 (hstop:∀(D:Nat) (xs:List α) (W:World),w.heap.size≤D→D≤w.heap.size→Ix xs W→W.heap[D]? = some (.deferred (some []))→Fr (fun c _=>B c) w W→(Code.exit lab).wp P Q { tmps:=T,defers:=[{ target:=.collected D,args:=#[] }] } W):
 (Code.rangeFunc g #[p1,p2] assign body).wp P Q { tmps:=T,defers:=[] } w:=by
 refine(wpIn_wide (n:=3)).1 (CJ (F:=Fence.wide) (n:=3) lab rfl (by decide) hg trivial eg hseq hB0 hB1 (fun _=>rfl) I Ix hI hIx h0 (fun x W a' W'=>W'=W∧a'={ tmps:=(((T.setIfInBounds p1 (e1 x)).setIfInBounds p2 (e2 x)).setIfInBounds q1 (e1 x)).setIfInBounds q2 (e2 x),defers:=[] }) ?_ ?_ hdone fun D xs W h1 h2 h3 h4 h5=>wpIn_wide.2 (hstop D xs W h1 h2 h3 h4 h5))
 ·intro l x W K hK;have e:((#[p1,p2]:Array Tmp).zip #[e1 x,e2 x]).foldl (fun t (p,v)=>t.setIfInBounds p v) T=(T.setIfInBounds p1 (e1 x)).setIfInBounds p2 (e2 x):=by simp
  show assign.wpIn (Fence.wide.inRound l) 1 P _ { tmps:=((#[p1,p2]:Array Tmp).zip #[e1 x,e2 x]).foldl (fun t (p,v)=>t.setIfInBounds p v) T,defers:=[] } W;rw[e];exact hassign l x W K (hK _ _ ⟨rfl,rfl⟩ (Fr.refl _ _))
 ·rintro l pre x W a' W' Wb hs hf hi ht ⟨rfl,rfl⟩ _ hfb;exact hbody l pre x W' Wb hs hf hi ht hfb
attribute [local go_sem] Oper.semAt_some v_ tX DY zJ
theorem Mq {K:Nat→Obj→Prop} (w:World) (b bt p:Nat) (a:Option Addr) (n c:Nat) (h:b+n<18446744073709551616) (hp:min p (b+n)≤b):
    Calls Tryz.prog 54 #[vL b bt (.slice a n c),.int .u64 (p:Nat)] w fun e w'=>e=.returned (.int .u64 (b:Nat))∧FT w w':=by
  refine kSV ?_
  intro W1 hW1 F1 X1 CC x0 x1 x2
  have LC:=zH (cz W1 b bt a n c h)
  obtain⟨l,hl⟩:=zE (b+n)
  rw[hl] at LC hp
  unfold vL at LC ⊢
  clear h hl
  by_cases hc:p≤l
  all_goals
    first
      | (have g1:(p:Int)≤(l:Int):=by omega
         have g2:(p:Int)≤(b:Int):=by omega)
      | (have g1:¬(p:Int)≤(l:Int):=by omega
         have g2:(l:Int)≤(b:Int):=by omega)
    clear hc hp
    go_enter Tryz.func54,Tryz.ntmps54
    go_wp2_with fail
    try rw[hW1]
    refine Fk ?_
    go_wp2_with fail
    (with_reducible refine LC.out.mono ?_)
    rintro e w2 ⟨rfl,f2⟩
    refine k0d ?_
    intro F2 y0 y1 y2
    clear f2 LC x0 x1 x2
    go_wp2
    try rw[tX]
    go_ret
    exact⟨rfl,F2⟩
theorem down_at (l:Lg) (own k:Nat) (h:(l.term (l.base+k)).1≠own):l.down own k=l.base+k:=by
 cases k with
 | zero=>rfl
 | succ k=>unfold Lg.down;rw[if_neg h]
theorem N9 (l:Lg) (own k:Nat) (h:(l.term (l.base+(k+1))).1=own):l.down own (k+1)=l.down own k:=by
 conv=>lhs;unfold Lg.down
 rw[if_pos h]
theorem JX {K:Nat→Obj→Prop} (w:World) (b bt p:Nat) (a:Option Addr) (n c:Nat) (xs:List EV) (hx:RowsAt K w (.slice a n c) 3 encE xs) (h:b+n<18446744073709551616) (hp:¬min p (b+n)≤b):
    Calls Tryz.prog 54 #[vL b bt (.slice a n c),.int .u64 (p:Nat)] w fun e w'=>e=.returned (.int .u64 ((lgE b bt xs).down ((lgE b bt xs).term (min p (b+n))).1 (min p (b+n)-b):Nat))∧FT w w':=by
  refine kSV ?_
  intro W1 hW1 F1 X1 CC x0 x1 x2
  have LC:=zH (cz W1 b bt a n c h)
  have hbase:(lgE b bt xs).base=b:=rfl
  have TC:=zH (fun W (f:FT W1 W)=>dy W b bt (min p (b+n)) a n c xs ((hx.tt F1).tt f) h)
  have SQ:=zH (fun W0 B bl bf q (h1:RowsAt (fun c _=>B c) W0 (.slice a n c) 3 encE xs) (h2:q≤b+n) (h3:b≤q)=>down_seq 2 W0 B bl bf b bt q n c a xs h1 h h2 h3)
  have HX:=zH (hx.tt F1)
  have DC:=zH (fun W m=>LZ W (.slice a n c) m b bt)
  unfold vL at DC
  generalize lgE b bt xs=LG at TC SQ hbase ⊢
  obtain⟨l,hl⟩:=zE (b+n)
  rw[hl] at LC TC hp ⊢
  have SL:Hid (l≤b+n):=by show _≤_;omega
  obtain⟨m,hm⟩:=zE (min p l)
  rw[hm] at TC hp ⊢
  obtain⟨T,hT⟩:=zE (LG.term m)
  rw[hT] at TC ⊢
  obtain⟨own,T2⟩:=T
  dsimp only at TC ⊢
  obtain⟨k0,hk0⟩:=zE (m-b)
  rw[hk0]
  obtain⟨R,hR⟩:=zE (LG.down own k0)
  rw[hR]
  have HR:=zH hR
  have HB:=zH hbase
  have HM:Hid (m=b+k0∧m≤b+n):=by constructor <;> omega
  unfold vL at LC TC ⊢
  have hmb:¬(m:Int)≤(b:Int):=by omega
  clear h hl hx hR hbase hT hk0
  by_cases hc:p≤l
  all_goals
    first
      | (have g1:(p:Int)≤(l:Int):=by omega
         obtain rfl:m=p:=by omega)
      | (have g1:¬(p:Int)≤(l:Int):=by omega
         obtain rfl:m=l:=by omega)
    clear hc hp hm SL
    refine(callsIn_wide (n:=3)).1 ?_
    refine callsIn_of_wp_marks Tryz.func54 rfl trivial ?_ rfl
    simp only[Tryz.ntmps54,List.size_toArray,List.length_cons,List.length_nil,Nat.reduceAdd,Nat.reduceSub,Array.replicate_succ,Array.replicate_zero,List.push_toArray,List.append_toArray,List.nil_append,List.cons_append]
    refine wpIn_wide.2 ?_
    go_wp2_with fail
    try rw[hW1]
    refine Fk ?_
    go_wp2_with fail
    (with_reducible refine LC.out.mono ?_)
    rintro e w2 ⟨rfl,f2⟩
    have F2:=zH (F1.trans f2)
    have G2:=zH f2
    obtain⟨y0,y1,y2⟩:=CC w2 f2
    have TD:=zH (TC _ f2)
    clear f2 LC TC x0 x1 x2
    go_wp2_with fail
    (with_reducible refine TD.out.mono ?_)
    rintro e w3 ⟨rfl,f3⟩
    obtain⟨w4,hw4⟩:=zE (w3.alloc (.cells #[.int .u64 (own:Nat)] 23 (0,0)))
    obtain⟨w5,hw5⟩:=zE (w4.alloc (.cells #[.int .u64 (b:Nat)] 23 (0,0)))
    have F3:=zH (G2.trans f3)
    have F4:Hid (FT w3 w4):=hw4▸(Fr.refl _ _).alloc _
    have F5:Hid (FT w4 w5):=hw5▸(Fr.refl _ _).alloc _
    have X4:Hid (w4.heap[w3.heap.size]? = some (.cells #[.int .u64 (own:Nat)] 23 (0,0))):=hw4▸bZ _ _
    have X5:Hid (w5.heap[w4.heap.size]? = some (.cells #[.int .u64 (b:Nat)] 23 (0,0))):=hw5▸bZ _ _
    have S4:Hid (w3.heap.size<w4.heap.size):=bX X4
    obtain⟨z0,z1,z2⟩:=CC w3 F3
    obtain⟨t0,t1,t2⟩:=CC w4 (F3.trans F4)
    obtain⟨s0,s1,s2⟩:=CC w5 ((F3.trans F4).trans F5)
    have FA:=zH ((F3.trans F4).trans F5)
    clear f3 TD y0 y1 y2
    go_wp2_with fail
    refine wp_label ?_
    go_wp2_with fail
    clear hW1 hw4 hw5
    (with_reducible refine(DC.out w5 m).mono ?_)
    rintro e w6 ⟨rfl,hw6⟩
    replace hw6:=hw6.symm
    go_wp2_with fail
    have F6:Hid (FT w5 w6):=hw6▸((Fr.refl _ _).alloc _).alloc _
    have TL:Hid (w6.heap[w5.heap.size]? = some (.cells #[.int .u64 (b:Nat),.int .u64 (bt:Nat),.slice a n c] 26 (0,0))):=hw6▸jX (bZ _ _) _
    have TF:Hid (w6.heap[w5.heap.size+1]? = some (.cells #[.int .u64 (m:Nat)] 23 (0,0))):=hw6▸jJ (by simp) _
    have T4:=zH (F6.keep _ _ (F5.keep _ _ X4 trivial) trivial)
    have T5:=zH (F6.keep _ _ X5 trivial)
    have FB:=zH (FA.trans F6)
    have FW:=zH (F1.trans FB)
    have SW:Hid (w.heap.size≤w4.heap.size):=((F1.trans F3).trans F4).size
    have S5:Hid (w4.heap.size<w5.heap.size):=bX X5
    have S6:Hid (w5.heap.size<w6.heap.size):=bX TL
    have SEQ:=zH (SQ w6 (fun c=>c≠w4.heap.size) w5.heap.size (w5.heap.size+1) m ((HX.mono (K':=fun c _=>c≠w4.heap.size) fun c o ho _ e=>by
        have h1:=bX ho
        have h2:=(F3.trans F4).size
        omega).tt FB.out) HM.out.2 (by have:=HM.out.1;omega) TL.out TF.out (by have:=S5.out;omega) (by have:=S5.out;omega))
    clear hw6 t0 t1 t2 s0 s1 s2 z0 z1 z2 SQ HX
    refine H_ 9 10 (gf:=128) (lb:=#[.pointer (some ⟨w5.heap.size+1,0,none⟩),.pointer (some ⟨w5.heap.size,0,none⟩)]) 0 (fun(x:Nat)=>.int .u64 (x:Nat)) (fun(x:Nat)=>.int .u64 ((LG.term x).1:Nat)) rfl (enters_of Tryz.func128 (by kernel_rfl) rfl) SEQ.out (by have:=S5.out;have:=S6.out;omega) (by have:=S5.out;have:=S6.out;omega)
      (fun xs W=>W.heap[w4.heap.size]? = some (.cells #[.int .u64 (b:Nat)] 23 (0,0))∧(xs.length≤k0→R=LG.down own (k0-xs.length))∧(k0<xs.length→R=b))
      (fun xs W=>W.heap[w4.heap.size]? = some (.cells #[.int .u64 (R:Nat)] 23 (0,0)))
      (fun xs A A' h hf=>⟨hf.keep _ _ h.1 rfl,h.2⟩) (fun xs A A' h hf=>hf.keep _ _ h rfl)
      ⟨T5,fun _=>HR.symm,fun h=>absurd h (Nat.not_lt_zero _)⟩ ?assign ?body ?done ?stop
    case assign=>
      intro l x W K hK
      have HK:=zH hK
      clear hK
      gi_wp2
      exact HK
    case body=>
      rintro l pre x V1 Wb hs hf ⟨ho,hi1,hi2⟩ ⟨hx1,hx2⟩ hfb
      have TO:=zH (hfb.keep _ _ ho rfl)
      have TW:=zH (hfb.keep _ _ (hf.keep _ _ T4.out (by have:=S4.out;omega)) rfl)
      have i0:=bQ (i:=0) TO rfl
      have y0:=bV (i:=0) TO
      have n0:=bQ (i:=0) TW rfl
      have hk:pre.length≤k0:=by have:=HM.out.1;omega
      have hxk:x=b+(k0-pre.length):=by have:=HM.out.1;omega
      have HL:Hid ((pre++[x]).length=pre.length+1):=by show _=_;simp
      have R1:=hi1 hk
      obtain⟨t,ht⟩:=zE (LG.term x)
      obtain⟨t1,t2⟩:=t
      rw[ht]
      dsimp only
      simp only[List.setIfInBounds_toArray,List.set_cons_succ,List.set_cons_zero]
      by_cases hq:t1=own
      · have g:((t1:Int) != (own:Int))=false:=by simp;omega
        have J1:Hid (((pre++[x]).length≤k0→R=LG.down own (k0-(pre++[x]).length))∧(k0<(pre++[x]).length→R=b)):=by
          show _∧_
          rw[HL.out]
          refine⟨fun h=>?_,fun h=>?_⟩
          · rw[R1]
            obtain⟨k',hk'⟩:∃k',k0-pre.length=k'+1:=⟨k0-pre.length-1,by omega⟩
            rw[hk',show k0-(pre.length+1)=k' by omega]
            refine N9 LG own k' ?_
            rw[HB.out,←hk',←hxk,ht]
            exact hq
          · rw[R1,show k0-pre.length=0 by omega]
            exact HB
        clear R1 hi1 hi2 ho hx1 hx2 hf hs hk hxk ht hq
        gi_wp2
        exact⟨Fr.refl _ _,TO,J1⟩
      · have g:((t1:Int) != (own:Int))=true:=by simp;omega
        have RX:Hid (R=x):=by
          show _=_
          rw[R1,down_at LG own _ (by rw[HB.out,←hxk,ht];exact hq),HB.out,←hxk]
        clear R1 hi1 hi2 ho hx1 hx2 hf hs hk hxk ht hq
        gi_wp2
        refine⟨rfl,(Fr.refl _ _).setCell (p:=⟨w4.heap.size,0,none⟩) (fun o _ h=>h rfl) _,?_⟩
        show _=_
        rw[RX.out]
        exact bJ TO _
    case done=>
      rintro Dn xs V1 hDn hDn2 hS ⟨ho,hi1,hi2⟩ hK hf
      have RB:Hid (R=b):=hi2 (by have:=HM.out.1;omega)
      refine k1P ?_
      intro i0 HK FF
      clear ho hi1 hi2 hS hK hf
      go_wp2
      exact⟨by simp,.inl ⟨_,_,rfl,run_takeDeferred HK.out,_,by simp [results,Tryz.results54,go_sem];rfl,by rw[RB.out],FF.out⟩⟩
    case stop=>
      rintro Dn xs V1 hDn hDn2 ho hK hf
      refine k1P ?_
      intro i0 HK FF
      clear ho hK hf
      go_wp2
      exact⟨by simp,.inl ⟨_,_,rfl,run_takeDeferred HK.out,_,by simp [results,Tryz.results54,go_sem],rfl,FF.out⟩⟩
theorem Cz {K:Nat→Obj→Prop} (w:World) (b bt p:Nat) (a:Option Addr) (n c:Nat) (xs:List EV) (hx:RowsAt K w (.slice a n c) 3 encE xs) (h:b+n<18446744073709551616):
 Calls Tryz.prog 54 #[vL b bt (.slice a n c),.int .u64 (p:Nat)] w fun e w'=>e=.returned (.int .u64 ((lgE b bt xs).hint p:Nat))∧FT w w':=by
 have hn:=hx.len';unfold Lg.hint;rw[cq,←hn];show Calls _ _ _ _ fun e w'=>e=.returned (.int .u64 ((if min p (b+n)≤b then b else(lgE b bt xs).down ((lgE b bt xs).term (min p (b+n))).1 (min p (b+n)-b):Nat):Int))∧_
 by_cases hp:min p (b+n)≤b
 ·rw[if_pos hp];exact Mq (K:=K) w b bt p a n c h hp
 ·rw[if_neg hp];exact JX w b bt p a n c xs hx h hp
end
end Go.Proofs.YtmjccpfchhnfhaaGreat
