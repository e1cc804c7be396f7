/- Texts of the proofs, part 13: what the functions that they reach do, walked; no conditions beyond those that each states. -/
import Derived.ArgAppend
import Derived.Deep.QuietTactic
import Derived.BigQuiet
import Derived.Test.YtmjccpfchhnfhaaGreatZk28c50e9ee7
import Derived.Test.YtmjccpfchhnfhaaGreatZk4d6c0a7b90
import Derived.Test.YtmjccpfchhnfhaaGreatZk7079c80339
set_option linter.unusedVariables false
set_option linter.unusedSimpArgs false
set_option maxRecDepth 100000
set_option maxHeartbeats 8000000
namespace Go.Proofs.YtmjccpfchhnfhaaGreat
open Go.RowKit
theorem kSf {p q:Prop} (k:q) (h:q→p:=by
 have x0:=bQ (i:=0) YA.out rfl;have x1:=bQ (i:=1) YA.out rfl;have x2:=bQ (i:=2) YA.out rfl;have q0:=bQ (i:=0) XT.out rfl;have q1:=bQ (i:=1) XT.out rfl;have q2:=bQ (i:=2) XT.out rfl;have y0:=bV (i:=0) XT.out;have y1:=bV (i:=1) XT.out;have y2:=bV (i:=2) XT.out;obtain⟨WZ,hWZ,TZ,FZ⟩:=set3 XT.out (.int .u64 (b:Nat)) (.int .u64 (bt:Nat)) (.slice g9 (n+1) c9);intro kk0;revert FZ;revert TZ;revert hWZ;revert WZ;revert y2;revert y1;revert y0;revert q2;revert q1;revert q0;revert x2;revert x1;revert x0;exact kk0):p:=h k
theorem kj4 {p q:Prop} (k:q) (h:q→p:=by
 obtain⟨WA,hWA⟩:=zE (W9.setCell ⟨w.heap.size,2,none⟩ (.slice g9 (n+1) c9));have YA:Hid (WA.heap[w.heap.size]? = some (.cells #[.int .u64 (b:Nat),.int .u64 (bt:Nat),.slice g9 (n+1) c9] 26 (0,0))):=hWA▸bJ (o:=2) (F9.out.keep _ _ Y1.out trivial) _;have GA:Hid (Fr (fun c _=>c≠w.heap.size) W9 WA):=hWA▸(Fr.refl _ _).setCell (fun _ _ h=>h rfl) _;have XT:Hid (WA.heap[W2.heap.size]? = some (.cells #[.int .u64 0,.int .u64 0,.slice none 0 0] 26 (0,0))):=GA.out.keep _ _ (F9.out.keep _ _ X3.out trivial) (by have:=LT.out;omega);intro kk0;revert XT;revert GA;revert YA;revert hWA;revert WA;exact kk0):p:=h k
theorem m2s {p:Prop} (h:p:=by
 try rw[hWZ]
 exact Fr.within ((((FA.out.trans F9.out).mono fun _ _ _=>trivial).trans (GA.out.mono fun c _ h e=>by have:=h.2;omega)).trans (FZH.out.mono fun c _ h e=>by have:=h.2;have:=LT.out;omega))):p:=h
theorem mVh {p:Prop} (h:p:=by
 exact((r2.fr (GA.out.mono fun _ _ h=>h) fun c o _ hc=>hc.1).fr FZH.out fun c o _ hc=>hc.2.1).mono fun c o _ hc=>hc.2.2):p:=h
theorem maE {p:Prop} (h:p:=by
 go_enter Tryz.func110,Tryz.ntmps110
 go_wp2
 all_goals (go_ret;exact⟨rfl,rfl⟩)):p:=h
theorem msu {p:Prop} (h:p:=by
 have h2:=bX X3.out;have h3:=LT.out;exact⟨by omega,by omega,by omega,cs,_,e⟩):p:=h
theorem encE_one (h:EV):∀u∈encE h,u.oneCell'=true:=fun u hu=>by
 simp only[encE,List.mem_cons,List.not_mem_nil,or_false] at hu;rcases hu with rfl | rfl | rfl <;> rfl
theorem pj:(Tryz.prog.info? 85).map (fun i=>(i.zero,i.size,i.bytes))=some (some (.agg #[.int .u64 0,.int .i64 0,.slice none 0 0]),3,40):=by kernel_rfl
theorem dY {w:World} {b:Nat} {y:EV} (h:w.heap[b]? = some (.cells #[.int .u64 (y.t:Nat),.int .i64 y.k,.slice y.a y.d.length y.c] 85 (0,0))):RowsAt (fun c _=>c=b) w (.slice (some ⟨b,0,none⟩) 1 1) 3 encE [y]:=by
 refine⟨_,1,rfl,Nat.le_refl _,.inr ⟨b,0,_,rfl,h,rfl,fun i hi j u hu=>?_⟩⟩;have:i=0:=by simpa using hi
 subst this;rcases j with _ | _ | _ | j
 ·cases hu;exact bQ h rfl
 ·cases hu;exact bQ h rfl
 ·cases hu;exact bQ h rfl
 ·cases hu
theorem D8 (w:World) (c:Nat):Calls Tryz.prog 110 #[.slice none 0 c] w fun e w'=>e=.returned (.slice none 0 0)∧w=w':=by
 exact maE
theorem D9 (w:World) (ad:Addr) (n c:Nat) (h:n≤c):Calls Tryz.prog 110 #[.slice (some ad) n c] w fun e w'=>e=.returned (.slice (some ad) n n)∧w=w':=by
 exact maE
theorem clip_en {K:Nat→Obj→Prop} (w:World) (v:Value) (ws:List EV) (h:RowsAt K w v 3 encE ws):
 Calls Tryz.prog 110 #[v] w fun e w'=>(∃a,e=.returned (.slice a ws.length ws.length)∧RowsAt K w (.slice a ws.length ws.length) 3 encE ws)∧w=w':=by
 obtain⟨a,c,rfl,hc⟩:=h.form;cases a with
 | none=>
  have e:ws=[]:=by
   rcases Nat.eq_zero_or_pos ws.length with q | q
   ·exact List.length_eq_zero_iff.1 q
   ·obtain⟨b,off,o,e,_⟩:=h.spot q;cases e
  subst e;exact(D8 w _).mono fun e w' ⟨he,hw⟩=>⟨⟨none,he,RowsAt.nil _ _ _ _⟩,hw⟩
 | some ad=>
  refine(D9 w ad _ c hc).mono fun e w' ⟨he,hw⟩=>⟨⟨some ad,he,?_⟩,hw⟩
  obtain⟨a',c',e,_,hz⟩:=h;cases e;exact⟨_,_,rfl,Nat.le_refl _,hz⟩
theorem j7 {K0 K1:Nat→Obj→Prop} {ops:Array Oper} {o:Oper} {a:Act} {K:Act→World→Prop} {Q:Exit→Act→World→Prop} {E:Prop} (W:World) (hgd:o.guard=none) (s x:Operand)
 (ho:o.op=.call { callee:=.builtin .append,args:=#[s,x],argTypes:=#[24,24] }) (ao:Option Addr) (n:Nat) (xs:List EV) (hs:a.eval s=.slice ao n n) (hr:Hid (RowsAt K0 W (.slice ao n n) 3 encE xs)) (hn:Hid (xs.length=n))
 (vx:Value) (y:EV) (hx:a.eval x=vx) (hvx:Hid (RowsAt K1 W vx 3 encE [y])) (hm:n+1≤1000000)
 (h:∀g c w',Hid (w'.ownsRow W.heap.size 85 3 (.slice g (n+1) c) (n+1) ((xs++[y]).flatMap encE))→Hid (FT W w')→K (a.put o.dst (.slice g (n+1) c)) w'):
 if Region.wanted o (yielded ops a.tmps)=true then Oper.wp Tryz.prog o a W K Q else E:=by
 have hw:Region.wanted o (yielded ops a.tmps)=true:=by simp [Region.wanted,hgd]
 rw[if_pos hw];have hn:=hn;subst hn;obtain⟨i0,hi,hz0,hz1,hz2⟩:=info_parts pj;cases ao with
 | none=>
  have hnil2:xs=[]:=by
   rcases Nat.eq_zero_or_pos xs.length with q | q
   ·exact List.length_eq_zero_iff.1 q
   ·obtain⟨b,off,o,e,_⟩:=hr.spot q;cases e
  subst hnil2;refine gV W s x 24 85 ho W.heap.size (Nat.le_refl _) i0 _ 3 40 Tryz.underlying24 hi hz0 hz1 hz2 rfl (by decide) (by decide) encE_len encE_one (.slice none 0 0) 0 [] hs ⟨rfl,.inl ⟨rfl,rfl⟩⟩ vx [y] hx hvx.out [y] rfl 1 rfl (by omega) fun g c w' o1 g1 _=>h g c w' o1 ((Fr.refl _ _).grown_new g1 fun k e=>by cases e)
 | some ad=>
  rcases RowsAt.src encE_len (by decide) encE_one hr with⟨e,_⟩ | ⟨ad',c,e,hl,hc,h1⟩
  ·cases e
  ·cases e
   obtain⟨bv,ov,cv,hbv⟩:∃bv ov c',vx=.slice (some ⟨bv,ov,none⟩) 1 c':=by obtain⟨av,cv,e,_⟩:=hvx.form;subst e;obtain⟨b,off,o,e,_⟩:=hvx.out.spot (by simp);subst e;exact⟨b,off,cv,rfl⟩
   subst hbv;rcases RowsAt.src encE_len (by decide) encE_one hvx with⟨e,_⟩ | ⟨ad2,c2,e2,hl2,hc2,_⟩
   ·cases e
   ·cases e2;obtain⟨v',w',hrun,hown,hgr⟩:=run_append_arg_grows (w:=W) (P:=Tryz.prog) 24 o.type 85 i0 _ 3 40 Tryz.underlying24 hi hz0 hz1 hz2 rfl (by decide) ad xs.length xs.length _ hl hc ⟨bv,ov,none⟩ 1 cv _ hl2 hc2 (by omega) (by unfold maxLen;omega) (by omega);obtain⟨g,c',rfl⟩:=j1 hown;unfold Oper.wp execOp;simp only[ho,resolve,invoke,builtin,Sem.run_bind,Sem.run_pure,Result.andThen_ok,List.map_toArray,List.map_cons,List.map_nil,hs,hx,hrun];exact h g c' w' (by rw[List.flatMap_append];exact hown) ((Fr.refl _ _).grown_new hgr fun k e=>by cases e)
theorem JW {K:Nat→Obj→Prop} (w:World) (b bt:Nat) (a:Option Addr) (n c:Nat) (xs:List EV) (y:EV) (hx:RowsAt K w (.slice a n c) 3 encE xs) (hn:xs.length=n) (hm:n+1≤1000000):
 Calls Tryz.prog 74 #[vL b bt (.slice a n c),vE y] w fun e w'=>∃a' c',e=.returned (vL b bt (.slice a' (n+1) c'))∧RowsAt (fun c o=>w.heap.size≤c∧∃cs fz,o=.cells cs 85 fz) w' (.slice a' (n+1) c') 3 encE (xs++[y])∧Fr (fun _ _=>True) w w':=by
 obtain⟨W1,hW1⟩:=zE (w.alloc (.cells #[.int .u64 (b:Nat),.int .u64 (bt:Nat),.slice a n c] 26 (0,0)));have F1:Hid (Fr (fun _ _=>True) w W1):=hW1▸(Fr.refl _ _).alloc _;have X1:Hid (W1.heap[w.heap.size]? = some (.cells #[.int .u64 (b:Nat),.int .u64 (bt:Nat),.slice a n c] 26 (0,0))):=hW1▸bZ w _;obtain⟨W2,hW2⟩:=zE (W1.alloc (.cells #[.int .u64 (y.t:Nat),.int .i64 y.k,.slice y.a y.d.length y.c] 85 (0,0)));have F2:Hid (Fr (fun _ _=>True) W1 W2):=hW2▸(Fr.refl _ _).alloc _;have X2:Hid (W2.heap[W1.heap.size]? = some (.cells #[.int .u64 (y.t:Nat),.int .i64 y.k,.slice y.a y.d.length y.c] 85 (0,0))):=hW2▸bZ W1 _;obtain⟨W3,hW3⟩:=zE (W2.alloc (.cells #[.int .u64 0,.int .u64 0,.slice none 0 0] 26 (0,0)));have F3:Hid (Fr (fun _ _=>True) W2 W3):=hW3▸(Fr.refl _ _).alloc _;have X3:Hid (W3.heap[W2.heap.size]? = some (.cells #[.int .u64 0,.int .u64 0,.slice none 0 0] 26 (0,0))):=hW3▸bZ W2 _;have FA:Hid (Fr (fun _ _=>True) w W3):=(F1.out.trans F2.out).trans F3.out;have Y1:Hid (W3.heap[w.heap.size]? = some (.cells #[.int .u64 (b:Nat),.int .u64 (bt:Nat),.slice a n c] 26 (0,0))):=(F2.out.trans F3.out).keep _ _ X1.out trivial;have Y2:Hid (W3.heap[W1.heap.size]? = some (.cells #[.int .u64 (y.t:Nat),.int .i64 y.k,.slice y.a y.d.length y.c] 85 (0,0))):=F3.out.keep _ _ X2.out trivial;have LT:Hid (w.heap.size<W1.heap.size∧W1.heap.size<W2.heap.size):=⟨bX X1.out,bX X2.out⟩
 have SS:Hid (∀W,Fr (fun _ _=>True) W3 W→W.cell? ⟨w.heap.size,2,none⟩=some (.slice a n c)∧W.cell? ⟨W1.heap.size,0,none⟩=some (.int .u64 (y.t:Nat))∧W.cell? ⟨W1.heap.size,1,none⟩=some (.int .i64 y.k)∧W.cell? ⟨W1.heap.size,2,none⟩=some (.slice y.a y.d.length y.c)):=fun W f=>by have t1:=f.keep _ _ Y1.out trivial;have t2:=f.keep _ _ Y2.out trivial;exact⟨bQ t1 rfl,bQ t2 rfl,bQ t2 rfl,bQ t2 rfl⟩
 have F5:Hid (Fr (fun _ _=>True) W3 W3.drew):=(Fr.refl _ _).drew;have CW:=zH (fun W (f:Fr (fun _ _=>True) W3 W)=>clip_en W _ xs ((hx.tt FA.out).tt f));rw[hn] at CW;have HN:=zH hn;unfold vL vE;clear hx hn;go_enter Tryz.func74,Tryz.ntmps74
 go_upto_region 1 with fail
 try rw[hW1]
 try rw[hW2]
 try rw[hW3]
 clear hW1 hW2 hW3;refine nX (S1:=fun _=>True) (S0:=fun W=>W.cell? ⟨w.heap.size,2,none⟩=some (.slice a n c)∧W.cell? ⟨W1.heap.size,0,none⟩=some (.int .u64 (y.t:Nat))∧W.cell? ⟨W1.heap.size,1,none⟩=some (.int .i64 y.k)∧W.cell? ⟨W1.heap.size,2,none⟩=some (.slice y.a y.d.length y.c)) (k:=7) (by kernel_rfl) ?_;refine kX (i:=0) (v:=?v1) rfl (by rfl) (by kernel_rfl) (by kernel_rfl) (by kernel_rfl) (by kernel_rfl) (fun _ _ _ h=>h) (Or.inl ⟨by rfl,?hy1⟩) trivial (SS.out _ F5.out) ?rest1
 case hy1=>(intro w hSw;(try dsimp only at hSw);(try simp only[List.getElem_toArray,List.getElem_cons_zero,List.getElem_cons_succ]);go_simp;try with_reducible rfl)
 try simp only[List.getElem_toArray,List.getElem_cons_zero,List.getElem_cons_succ,Act.put,List.setIfInBounds_toArray,List.set_cons_zero,List.set_cons_succ]
 refine mW (i:=1) (v:=?v2) [2,5,7] rfl (by rfl) (by kernel_rfl) (by rfl) (by kernel_rfl) (by kernel_rfl) (by kernel_rfl) (by kernel_rfl) (fun _ _ _ h=>h) (Or.inl ⟨by rfl,?hy2⟩) trivial (SS.out _ F5.out) ?rest2
 case hy2=>(intro w hSw;(try dsimp only at hSw);(try simp only[List.getElem_toArray,List.getElem_cons_zero,List.getElem_cons_succ]);go_simp;try with_reducible rfl)
 try simp only[List.getElem_toArray,List.getElem_cons_zero,List.getElem_cons_succ,Act.put,List.setIfInBounds_toArray,List.set_cons_zero,List.set_cons_succ]
 refine mW (i:=3) (v:=?v3) [4,5,7] rfl (by rfl) (by kernel_rfl) (by rfl) (by kernel_rfl) (by kernel_rfl) (by kernel_rfl) (by kernel_rfl) (fun _ _ _ h=>h) (Or.inl ⟨by rfl,?hy3⟩) trivial (SS.out _ F5.out) ?rest3
 case hy3=>(intro w hSw;(try dsimp only at hSw);(try simp only[List.getElem_toArray,List.getElem_cons_zero,List.getElem_cons_succ]);go_simp;try with_reducible rfl)
 try simp only[List.getElem_toArray,List.getElem_cons_zero,List.getElem_cons_succ,Act.put,List.setIfInBounds_toArray,List.set_cons_zero,List.set_cons_succ]
 refine dQ (rs:=[2,4]) (by kernel_rfl) (by simp) ?_;refine cJ.cons rfl (fun K hK=>?_) (by kernel_rfl) ?_
 ·(try simp only[List.getElem_toArray,List.getElem_cons_zero,List.getElem_cons_succ]);go_simp;(with_reducible refine(CW.out _ F5.out).mono ?_);rintro e w8 ⟨⟨ax,rfl,hrx⟩,rfl⟩;have RX:=zH hrx;clear hrx;(try simp only[Act.put,List.setIfInBounds_toArray,List.set_cons_zero,List.set_cons_succ]);refine hK.out _ _ trivial (fun _=>SS.out _ F5.out) ?_;clear hK K;refine dQ (rs:=[4]) (by kernel_rfl) (by simp) ?_;refine cJ.cons rfl (fun K hK=>?_) (by kernel_rfl) ?_
  ·obtain⟨WB1,hWB⟩:=zE (W3.drew.alloc (.cells #[.int .u64 (y.t:Nat),.int .i64 y.k,.slice y.a y.d.length y.c] 85 (0,0)));have FB1:Hid (Fr (fun _ _=>True) W3 WB1):=hWB▸F5.out.alloc _;have AB1:Hid (Fr (fun _ _=>True) W3.drew WB1):=hWB▸(Fr.refl _ _).alloc _;obtain⟨gb,hgb⟩:=zE W3.drew.heap.size;have TB1:Hid (RowsAt (fun c _=>c=gb) WB1 (.slice (some ⟨gb,0,none⟩) 1 1) 3 encE [y]):=hWB▸hgb▸dY (bZ W3.drew _);(try simp only[List.getElem_toArray,List.getElem_cons_zero,List.getElem_cons_succ]);go_simp
   try rw[hWB]
   try rw[hgb]
   (try simp only[Act.put,List.setIfInBounds_toArray,List.set_cons_zero,List.set_cons_succ]);refine hK.out _ _ trivial (fun _=>SS.out _ FB1.out) ?_;clear hK K;clear hWB hgb;refine dQ (rs:=[5]) (by kernel_rfl) (by simp) ?_;refine cJ.cons rfl (fun K hK=>?_) (by kernel_rfl) ?_
   ·refine j7 WB1 rfl _ _ rfl _ n xs rfl (zH (RX.out.tt AB1.out)) HN _ y rfl TB1 hm ?_;intro g9 c9 W9 O9 G9;have F9:=zH (FB1.out.trans G9.out);have FB9:=O9;(try simp only[Act.put,List.setIfInBounds_toArray,List.set_cons_zero,List.set_cons_succ]);refine hK.out _ _ trivial (fun _=>SS.out _ F9.out) ?_;clear hK K;refine kX (i:=6) (v:=?v4) rfl (by rfl) (by kernel_rfl) (by kernel_rfl) (by kernel_rfl) (by kernel_rfl) (fun _ _ _ h=>h) (Or.inl ⟨by rfl,?hy4⟩) trivial (SS.out _ F9.out) ?rest4
    case hy4=>(intro w hSw;(try dsimp only at hSw);(try simp only[List.getElem_toArray,List.getElem_cons_zero,List.getElem_cons_succ]);go_simp;try with_reducible rfl)
    try simp only[List.getElem_toArray,List.getElem_cons_zero,List.getElem_cons_succ,Act.put,List.setIfInBounds_toArray,List.set_cons_zero,List.set_cons_succ]
    refine dQ (rs:=[7]) (by kernel_rfl) (by simp) ?_;refine cJ.cons rfl (fun K hK=>?_) (by kernel_rfl) ?_
    ·have k9:=bQ (i:=2) (F9.out.keep _ _ Y1.out trivial) rfl;have z9:=bV (i:=2) (F9.out.keep _ _ Y1.out trivial);(try simp only[List.getElem_toArray,List.getElem_cons_zero,List.getElem_cons_succ]);go_simp;refine hK.out _ _ trivial (fun h=>absurd h (by decide)) ?_;clear hK K;refine nK (by kernel_rfl) ?_ _;clear k9 z9;refine kj4 ?_;intro WA hWA YA GA XT
     try rw[hWA]
     clear hWA;refine kSf ?_;intro x0 x1 x2 q0 q1 q2 y0 y1 y2 WZ hWZ TZ FZ;refine kJF ?_;intro p0 p1 p2 FZH;clear TZ FZ;go_wp2
     try rw[hWZ]
     refine bodyPost_ret (v:=.agg #[.int .u64 (b:Nat),.int .u64 (bt:Nat),.slice g9 (n+1) c9]) (by simp [results,Tryz.results74,go_sem, *]) rfl ⟨g9,c9,rfl,?_,?_⟩
     ·try rw[hWZ]
      have r1:=jQ (w:=W9) (B:=WB1.heap.size) (e:=85) (v:=.slice g9 (n+1) c9) (xs:=xs++[y]) (by rw[List.length_append,HN.out];exact FB9.out) encE_len
      have r2:=r1.mono (K':=fun c o=>c≠w.heap.size∧c≠W2.heap.size∧w.heap.size≤c∧∃cs fz,o=.cells cs 85 fz) fun c o _ hc=>by obtain⟨hc,cs,e⟩:=hc;have h1:=FB1.out.size;exact msu
      exact mVh
     ·exact m2s
    exact cJ.nil
   exact cJ.nil
  exact cJ.nil
 refine cJ.cons rfl (fun K hK=>?_) (by kernel_rfl) ?_
 ·obtain⟨WB2,hWB⟩:=zE (W3.drew.alloc (.cells #[.int .u64 (y.t:Nat),.int .i64 y.k,.slice y.a y.d.length y.c] 85 (0,0)));have FB2:Hid (Fr (fun _ _=>True) W3 WB2):=hWB▸F5.out.alloc _;have AB2:Hid (Fr (fun _ _=>True) W3.drew WB2):=hWB▸(Fr.refl _ _).alloc _;obtain⟨gb,hgb⟩:=zE W3.drew.heap.size;have TB2:Hid (RowsAt (fun c _=>c=gb) WB2 (.slice (some ⟨gb,0,none⟩) 1 1) 3 encE [y]):=hWB▸hgb▸dY (bZ W3.drew _);(try simp only[List.getElem_toArray,List.getElem_cons_zero,List.getElem_cons_succ]);go_simp
  try rw[hWB]
  try rw[hgb]
  (try simp only[Act.put,List.setIfInBounds_toArray,List.set_cons_zero,List.set_cons_succ]);refine hK.out _ _ trivial (fun _=>SS.out _ FB2.out) ?_;clear hK K;clear hWB hgb;refine dQ (rs:=[2]) (by kernel_rfl) (by simp) ?_;refine cJ.cons rfl (fun K hK=>?_) (by kernel_rfl) ?_
  ·(try simp only[List.getElem_toArray,List.getElem_cons_zero,List.getElem_cons_succ]);go_simp;(with_reducible refine(CW.out _ FB2.out).mono ?_);rintro e w8 ⟨⟨ax,rfl,hrx⟩,rfl⟩;have RX:=zH hrx;clear hrx;(try simp only[Act.put,List.setIfInBounds_toArray,List.set_cons_zero,List.set_cons_succ]);refine hK.out _ _ trivial (fun _=>SS.out _ FB2.out) ?_;clear hK K;refine dQ (rs:=[5]) (by kernel_rfl) (by simp) ?_;refine cJ.cons rfl (fun K hK=>?_) (by kernel_rfl) ?_
   ·refine j7 WB2 rfl _ _ rfl _ n xs rfl (zH RX.out) HN _ y rfl TB2 hm ?_;intro g9 c9 W9 O9 G9;have F9:=zH (FB2.out.trans G9.out);have FB9:=O9;(try simp only[Act.put,List.setIfInBounds_toArray,List.set_cons_zero,List.set_cons_succ]);refine hK.out _ _ trivial (fun _=>SS.out _ F9.out) ?_;clear hK K;refine kX (i:=6) (v:=?v5) rfl (by rfl) (by kernel_rfl) (by kernel_rfl) (by kernel_rfl) (by kernel_rfl) (fun _ _ _ h=>h) (Or.inl ⟨by rfl,?hy5⟩) trivial (SS.out _ F9.out) ?rest5
    case hy5=>(intro w hSw;(try dsimp only at hSw);(try simp only[List.getElem_toArray,List.getElem_cons_zero,List.getElem_cons_succ]);go_simp;try with_reducible rfl)
    try simp only[List.getElem_toArray,List.getElem_cons_zero,List.getElem_cons_succ,Act.put,List.setIfInBounds_toArray,List.set_cons_zero,List.set_cons_succ]
    refine dQ (rs:=[7]) (by kernel_rfl) (by simp) ?_;refine cJ.cons rfl (fun K hK=>?_) (by kernel_rfl) ?_
    ·have k9:=bQ (i:=2) (F9.out.keep _ _ Y1.out trivial) rfl;have z9:=bV (i:=2) (F9.out.keep _ _ Y1.out trivial);(try simp only[List.getElem_toArray,List.getElem_cons_zero,List.getElem_cons_succ]);go_simp;refine hK.out _ _ trivial (fun h=>absurd h (by decide)) ?_;clear hK K;refine nK (by kernel_rfl) ?_ _;clear k9 z9;refine kj4 ?_;intro WA hWA YA GA XT
     try rw[hWA]
     clear hWA;refine kSf ?_;intro x0 x1 x2 q0 q1 q2 y0 y1 y2 WZ hWZ TZ FZ;refine kJF ?_;intro p0 p1 p2 FZH;clear TZ FZ;go_wp2
     try rw[hWZ]
     refine bodyPost_ret (v:=.agg #[.int .u64 (b:Nat),.int .u64 (bt:Nat),.slice g9 (n+1) c9]) (by simp [results,Tryz.results74,go_sem, *]) rfl ⟨g9,c9,rfl,?_,?_⟩
     ·try rw[hWZ]
      have r1:=jQ (w:=W9) (B:=WB2.heap.size) (e:=85) (v:=.slice g9 (n+1) c9) (xs:=xs++[y]) (by rw[List.length_append,HN.out];exact FB9.out) encE_len
      have r2:=r1.mono (K':=fun c o=>c≠w.heap.size∧c≠W2.heap.size∧w.heap.size≤c∧∃cs fz,o=.cells cs 85 fz) fun c o _ hc=>by obtain⟨hc,cs,e⟩:=hc;have h1:=FB2.out.size;exact msu
      exact mVh
     ·exact m2s
    exact cJ.nil
   exact cJ.nil
  exact cJ.nil
 exact cJ.nil
theorem kmo {p q:Prop} (k:q) (h:q→p:=by
 have F1:Hid (FT w W1):=hW1▸(Fr.refl _ _).alloc _;intro kk0;revert F1;exact kk0):p:=h k
theorem mK6 {p:Prop} (h:p:=by
 go_wp2;go_ret;exact⟨by rw[RF.out];rfl,k+nq,by rw[←HWA.out,World.drewN_drewN]⟩):p:=h
theorem mdk {p:Prop} (h:p:=by
 unfold vL9;go_enter Tryz.func118,Tryz.ntmps118
 go_wp2
 try rw[hW1]
 go_ret;exact⟨rfl,hW1▸F1.out⟩):p:=h
theorem en_eq (x y:EV):x.en=y.en↔x.t=y.t∧x.k=y.k∧x.d=y.d:=by
 unfold EV.en;rw[En.mk.injEq]
theorem RowsAt.len' {α:Type} {K:Nat→Obj→Prop} {w:World} {a:Option Addr} {n c k:Nat} {enc:α→List Value} {xs:List α} (h:RowsAt K w (.slice a n c) k enc xs):n=xs.length:=by
 obtain⟨_,_,e,_⟩:=h;cases e;rfl
theorem qX {K1 K2 K3 K4:Nat→Obj→Prop} (w:World) (va vb:Value) (A B:List EV) (hA:RowsAt K1 w va 3 encE A) (hB:RowsAt K2 w vb 3 encE B) (dA:∀x∈A,BytesAt K3 w (.slice x.a x.d.length x.c) x.d∧x.d.length≤9223372036854775807) (dB:∀x∈B,BytesAt K4 w (.slice x.a x.d.length x.c) x.d) (hl:A.length≤1000000):
 Calls Tryz.prog 105 #[va,vb] w fun e w'=>e=.returned (.bool (decide (A.map EV.en=B.map EV.en)))∧∃k,w'=w.drewN k:=by
 obtain⟨a1,c1,rfl,_⟩:=hA.form;obtain⟨a2,c2,rfl,_⟩:=hB.form;have HA:=zH hA;have HB:=zH hB;have HDA:=zH dA;have HDB:=zH dB;clear hA hB dA dB;by_cases hne:A.length=B.length
 ·have HE:=zH hne;rw[←hne];obtain⟨R,hR⟩:=zE (decide (A.map EV.en=B.map EV.en));have HR:=zH hR;rw[hR];obtain⟨L,hL⟩:=zE A.length;have HL:=zH hL;rw[hL] at hl ⊢;have h1:((L:Int) != L)=false:=by simp
  clear hne hR hL;go_enter Tryz.func105,Tryz.ntmps105
  go_wp2;go_loopw [5] (fun i wr=>∃(j k:Nat),i=.int .i64 (j:Nat)∧j≤L∧Hid ((A.take j).map EV.en=(B.take j).map EV.en)∧Hid (wr=w.drewN k)) (fun i _=>L-(intOf i).toNat)
  case atStart=>exact⟨0,0,rfl,Nat.zero_le _,rfl,rfl⟩
  case round=>
   obtain⟨j,k,rfl,hj,HT,HW⟩:=hrel;have hwr:=HW;subst hwr;clear HW;by_cases hlt:j<L
   ·have hltI:(j:Int)<L:=by omega
    have hltA:j<A.length:=by have:=HL.out;omega
    have hltB:j<B.length:=by have:=HE.out;have:=HL.out;omega
    obtain⟨b1,o1,_,ha1,_,_,k1⟩:=HA.out.spot (by omega);obtain⟨b2,o2,_,ha2,_,_,k2⟩:=HB.out.spot (by omega);obtain⟨u1,u2,u3⟩:=RowsAt.e3 (K:=fun _ _=>True) k1 j hltA;obtain⟨v1,v2,v3⟩:=RowsAt.e3 (K:=fun _ _=>True) k2 j hltB;have SC:Hid (∀n,Calls Tryz.prog 39 #[.slice A[j].a A[j].d.length A[j].c,.slice B[j].a B[j].d.length B[j].c] ((w.drewN k).drewN n) fun e w'=>e=.returned (.bool (decide (A[j].d=B[j].d)))∧∃m,w'=((w.drewN k).drewN n).drewN m):=fun n=>mQ _ _ _ _ _ ((HDA _ (List.getElem_mem hltA)).1.tt (((Fr.refl _ w).drewN k).drewN n)) ((HDB _ (List.getElem_mem hltB)).tt (((Fr.refl _ w).drewN k).drewN n)) (HDA _ (List.getElem_mem hltA)).2
    have hTA:Hid ((A.take (j+1)).map EV.en=(A.take j).map EV.en++[A[j].en]∧(B.take (j+1)).map EV.en=(B.take j).map EV.en++[B[j].en]):=⟨by rw[List.take_succ_eq_append_getElem hltA,List.map_append];rfl,by rw[List.take_succ_eq_append_getElem hltB,List.map_append];rfl⟩
    have NE:Hid (A[j].en≠B[j].en→R=false):=fun hx=>by
     rw[←HR.out];refine decide_eq_false fun e=>hx ?_
     have e2:=congrArg (fun l=>l[j]?) e;simp only[List.getElem?_map,List.getElem?_eq_getElem hltA,List.getElem?_eq_getElem hltB,Option.map_some,Option.some.injEq] at e2;exact e2
    have EQ:=zH (en_eq A[j] B[j]);obtain⟨x,hx⟩:=zE (A[j]);obtain⟨y,hy⟩:=zE (B[j]);rw[hx] at u1 u2 u3 SC hTA NE EQ;rw[hy] at v1 v2 v3 SC hTA NE EQ;obtain⟨xt,xk,xa,xc,xd⟩:=x;obtain⟨yt,yk,ya,yc,yd⟩:=y;dsimp only at u1 u2 u3 v1 v2 v3 SC EQ;generalize hxl:xd.length=xl at u3 SC;generalize hyl:yd.length=yl at v3 SC;have u1':(w.drewN k).cell? ⟨b1,o1+j*3,none⟩=some (.int .u64 (xt:Nat)):=u1;have u2':(w.drewN k).cell? ⟨b1,o1+j*3+1,none⟩=some (.int .i64 xk):=u2;have u3':(w.drewN k).cell? ⟨b1,o1+j*3+2,none⟩=some (.slice xa xl xc):=u3;have v1':(w.drewN k).cell? ⟨b2,o2+j*3,none⟩=some (.int .u64 (yt:Nat)):=v1;have v2':(w.drewN k).cell? ⟨b2,o2+j*3+1,none⟩=some (.int .i64 yk):=v2;have v3':(w.drewN k).cell? ⟨b2,o2+j*3+2,none⟩=some (.slice ya yl yc):=v3;subst ha1 ha2;obtain⟨wa,hwa⟩:=zE (w.drewN k);rw[hwa] at SC u1' u2' u3' v1' v2' v3' ⊢;have HWA:=zH hwa;clear u1 u2 u3 v1 v2 v3 hx hy k1 k2 hwa hxl hyl;by_cases q1:xt=yt
    ·subst q1;have g1:((xt:Int) != (xt:Int))=false:=by simp
     by_cases q2:xk=yk
     ·subst q2;have g2:(xk != xk)=false:=by simp
      by_cases q3:xd=yd
      ·rw[decide_eq_true q3] at SC;have HQ:Hid ((⟨xt,xk,xa,xc,xd⟩:EV).en=(⟨xt,xk,ya,yc,yd⟩:EV).en):=EQ.2 ⟨rfl,rfl,q3⟩;clear q3 EQ NE;go_wp2_with fail
       go_quiet ((go_at_call 39;exact Calls.quiet_of (SC.out _)))
       go_wp2;go_roundw
       case rel=>exact⟨j+1,k+nq,by go_num,by omega,by show _=_;rw[hTA.out.1,hTA.out.2,HT.out,HQ.out],by show _=_;rw[←HWA.out,World.drewN_drewN]⟩
       case measure=>simp [intOf];omega
      ·rw[decide_eq_false q3] at SC;have RF:Hid (R=false):=NE fun e=>q3 (EQ.1 e).2.2
       clear q3 EQ NE;go_wp2_with fail
       go_quiet ((go_at_call 39;exact Calls.quiet_of (SC.out _)))
       exact mK6
     ·have g2:(xk != yk)=true:=by simpa using q2
      have RF:Hid (R=false):=NE fun e=>q2 (EQ.1 e).2.1
      clear q2 EQ NE SC;go_wp2_with fail
      go_quiet (fail)
      exact mK6
    ·have g1:((xt:Int) != (yt:Int))=true:=by simp;omega
     have RF:Hid (R=false):=NE fun e=>q1 (EQ.1 e).1
     clear q1 EQ NE SC;go_wp2_with fail
     go_quiet (fail)
     exact mK6
   ·have hge:(L:Int)≤j:=by omega
    have RT:Hid (R=true):=by show _=_;rw[←HR.out];have e:=HT;rw[List.take_of_length_le (by have:=HL.out;omega),List.take_of_length_le (by have:=HE.out;have:=HL.out;omega)] at e;exact decide_eq_true e
    go_wp2;go_ret;exact⟨by rw[RT.out];rfl,k,rfl⟩
 ·have hne':((A.length:Int) != B.length)=true:=by simp;omega
  have RF:Hid (decide (A.map EV.en=B.map EV.en)=false):=decide_eq_false fun e=>hne (by have:=congrArg List.length e;simpa using this)
  generalize decide (A.map EV.en=B.map EV.en)=R at RF ⊢;clear hne;go_enter Tryz.func105,Tryz.ntmps105
  go_wp2;go_ret;exact⟨by rw[RF.out];rfl,0,rfl⟩
def vL9 (b bt:Nat) (v:Value):Value:=.agg #[.int .u64 (b:Nat),.int .u64 (bt:Nat),v]
theorem Dz {K1 K2 K3 K4:Nat→Obj→Prop} (w:World) (b bt b' bt':Nat) (va:Value) (a2:Option Addr) (n2 c2:Nat) (A B:List EV) (hA:RowsAt K1 w va 3 encE A) (hB:RowsAt K2 w (.slice a2 n2 c2) 3 encE B) (dA:∀x∈A,BytesAt K3 w (.slice x.a x.d.length x.c) x.d∧x.d.length≤9223372036854775807) (dB:∀x∈B,BytesAt K4 w (.slice x.a x.d.length x.c) x.d) (hl:A.length≤1000000):
 Calls Tryz.prog 60 #[.int .u64 (b:Nat),.int .u64 (bt:Nat),va,vL9 b' bt' (.slice a2 n2 c2)] w fun e w'=>e=.returned (.bool (decide (b=b')&&(decide (bt=bt')&&decide (A.map EV.en=B.map EV.en))))∧FT w w':=by
 obtain⟨a1,c1,rfl,_⟩:=hA.form;obtain⟨W1,hW1⟩:=zE (w.alloc (.cells #[.int .u64 (b':Nat),.int .u64 (bt':Nat),.slice a2 n2 c2] 100 (0,0)));refine kmo ?_;intro F1;have X1:Hid (W1.heap[w.heap.size]? = some (.cells #[.int .u64 (b':Nat),.int .u64 (bt':Nat),.slice a2 n2 c2] 100 (0,0))):=hW1▸bZ w _;have p0:=bQ (i:=0) X1 rfl;have p1:=bQ (i:=1) X1 rfl;have p2:=bQ (i:=2) X1 rfl;have EC:=zH (qX W1 _ _ A B (hA.tt F1) (hB.tt F1) (fun x hx=>⟨(dA x hx).1.tt F1,(dA x hx).2⟩) (fun x hx=>(dB x hx).tt F1) hl);generalize decide (A.map EV.en=B.map EV.en)=R at EC ⊢;generalize A.length=L at EC;clear hA hB dA dB hl;unfold vL9;go_enter Tryz.func60,Tryz.ntmps60
 go_wp2_with fail
 try rw[hW1]
 clear hW1;(with_reducible refine EC.out.mono ?_);rintro e w2 ⟨rfl,k,rfl⟩;have F2:=zH (F1.drewN k);have p0':(W1.drewN k).cell? ⟨w.heap.size,0,none⟩=_:=p0;have p1':(W1.drewN k).cell? ⟨w.heap.size,1,none⟩=_:=p1;clear p0 p1 p2 EC;by_cases q1:b=b'
 ·subst q1;have g1:((b:Int)==(b:Int))=true:=by simp
  by_cases q2:bt=bt'
  ·subst q2;have g2:((bt:Int)==(bt:Int))=true:=by simp
   cases R
   ·go_wp2;go_ret;exact⟨by simp,F2.out⟩
   ·go_wp2;go_ret;exact⟨by simp,F2.out⟩
  ·have g2:((bt:Int)==(bt':Int))=false:=by simp;omega
   have e2:decide (bt=bt')=false:=decide_eq_false q2;clear q2;go_wp2;go_ret;exact⟨by simp [e2],F2.out⟩
 ·have g1:((b:Int)==(b':Int))=false:=by simp;omega
  have e1:decide (b=b')=false:=decide_eq_false q1;clear q1;go_wp2;go_ret;exact⟨by simp [e1],F2.out⟩
theorem qY {K:Nat→Obj→Prop} (w:World) (b bt:Nat) (a:Option Addr) (n c:Nat) (xs:List EV) (hx:RowsAt K w (.slice a n c) 3 encE xs) (hn:n≤1000000):
 Calls Tryz.prog 118 #[vL9 b bt (.slice a n c)] w fun e w'=>e=.returned (.int .u64 (lastTE bt xs:Nat))∧FT w w':=by
 have hnl:=hx.len';obtain⟨W1,hW1⟩:=zE (w.alloc (.cells #[.int .u64 (b:Nat),.int .u64 (bt:Nat),.slice a n c] 100 (0,0)));refine kmo ?_;intro F1;have X1:Hid (W1.heap[w.heap.size]? = some (.cells #[.int .u64 (b:Nat),.int .u64 (bt:Nat),.slice a n c] 100 (0,0))):=hW1▸bZ w _;have p1:=bQ (i:=1) X1 rfl;have p2:=bQ (i:=2) X1 rfl;obtain⟨l,hl⟩:=zE (lastTE bt xs);rw[hl];by_cases h0:n=0
 ·subst h0;have hxs:xs=[]:=List.length_eq_zero_iff.1 hnl.symm;subst hxs;obtain rfl:bt=l:=hl;clear hx hnl;exact mdk
 ·obtain⟨m,hm⟩:∃m,n=m+1:=⟨n-1,by omega⟩
  subst hm;have hlx:m<xs.length:=by omega
  obtain⟨bx,off,_,rfl,_,_,k1⟩:=(hx.tt F1.out).spot (by omega);have u1:=(RowsAt.e3 (K:=fun _ _=>True) k1 m hlx).1
  have hle:xs[m].t=l:=by rw[←hl];unfold lastTE;rw[List.getLast?_eq_getElem?,←hnl,Nat.add_sub_cancel,List.getElem?_eq_getElem hlx];rfl
  rw[hle] at u1;have hmm:IntKind.i64.wrap (((m+1:Nat):Int)-1)=(m:Int):=by rw[IntKind.wrap_i64];omega
  have h00:(((m+1:Nat):Int)==0)=false:=by simp;omega
  have hmI:(m:Int)<((m+1:Nat):Int):=by omega
  generalize hM:m+1=M at *;clear hx hnl hl k1 hle hlx h0;exact mdk
theorem jk:(Value.agg #[.int .u64 0,.int .i64 0,.slice none 0 0]).cells.size=3:=by kernel_rfl
theorem src_ttE {w w':World} {size m:Nat} {x:Value} {xs:List Value} (h:sX w size x m xs) (hf:FT w w'):sX w' size x m xs:=by
 rcases h with h | ⟨ad,c,h1,h2,h3,h4⟩
 ·exact .inl h
 ·exact .inr ⟨ad,c,h1,h2,fun j u hu=>hf.cell (fun _ _=>trivial) (h3 j u hu),h4⟩
theorem xY (w:World) (ad:Addr) (n cap:Nat) (xs:List Value) (h:sX w 3 (.slice (some ad) n cap) n xs) (hm:n≤1000000):
 Calls Tryz.prog 107 #[.slice (some ad) n cap] w fun e w'=>(∃v,e=.returned v∧w'.ownsRow w.heap.size 85 3 v n xs)∧FT w w':=by
 have hq:=fun(w:World) (a:Option Addr) (n c n' c':Nat)=>Lib.run_eql_slice_nil (P:=Tryz.prog) w 24 85 a n c n' c' Tryz.underlying24
 obtain⟨i0,hi,hz0,hz1,hz2⟩:=info_parts pj;have hown:(w.alloc (.cells #[] 85)).ownsRow w.heap.size 85 3 (.slice (some ⟨w.heap.size,0,none⟩) 0 0) 0 []:=World.ownsRow_lit w #[] 0 (Nat.le_refl _) (by simp) rfl;have hsrc:=zH (src_ttE h ((Fr.refl _ _).alloc (.cells #[] 85)));clear h;go_enter Tryz.func107,Tryz.ntmps107
 go_wp2_with (at_builtin;refine cj _ rfl _ _ 24 rfl w.heap.size 85 i0 (.agg #[.int .u64 0,.int .i64 0,.slice none 0 0]) 3 40 Tryz.underlying24 hi hz0 hz1 hz2 jk (by decide) _ 0 [] rfl hown _ n xs rfl hsrc.out ?c2 ?c3 ?c4 ?_)
 case c2=>unfold maxLen;omega
 case c3=>omega
 case c4=>simp
 intro v w1 hown1 hg hnil;go_wp2;go_ret;exact⟨⟨v,rfl,by simpa using hown1⟩,(Fr.alloc (Fr.refl _ _) _).grown_new hg fun k e=>by simp [Value.ownBlock] at e;omega⟩
theorem Bj (w:World) (n c:Nat):Calls Tryz.prog 107 #[.slice none n c] w fun e w'=>e=.returned (.slice none 0 0)∧w=w':=by
 have hq:=fun(w:World) (a:Option Addr) (n c n' c':Nat)=>Lib.run_eql_slice_nil (P:=Tryz.prog) w 24 85 a n c n' c' Tryz.underlying24
 go_enter Tryz.func107,Tryz.ntmps107
 exact m6T
theorem qJ (x:EV):∀u∈encE x,u.oneCell'=true:=fun u hu=>by
 unfold encE at hu;simp only[List.mem_cons,List.not_mem_nil,or_false] at hu;rcases hu with rfl | rfl | rfl <;> rfl
theorem lZ:(sizeOf 85).run Tryz.prog=fun w=>.ok 3 w:=by kernel_rfl
end Go.Proofs.YtmjccpfchhnfhaaGreat
