/- Texts of the proofs, part 11: what the functions that they reach do, walked; no conditions beyond those that each states. -/
import Derived.ArgAppend
import Derived.Deep.QuietTactic
import Derived.BigQuiet
import Derived.Deep.MidRow
import Derived.Test.YtmjccpfchhnfhaaGreatZkfcdad46a5f
import Derived.Test.YtmjccpfchhnfhaaGreatZk698d8d185d
import Derived.Test.YtmjccpfchhnfhaaGreatZk6328e0d945
import Derived.Test.YtmjccpfchhnfhaaGreatZk1d2a5d62c9
set_option linter.unusedVariables false
set_option linter.unusedSimpArgs false
set_option maxRecDepth 100000
set_option maxHeartbeats 8000000
namespace Go.Proofs.YtmjccpfchhnfhaaGreat
open Go.RowKit
theorem encE_one (h:EV):∀u∈encE h,u.oneCell'=true:=fun u hu=>by
 simp only[encE,List.mem_cons,List.not_mem_nil,or_false] at hu;rcases hu with rfl | rfl | rfl <;> rfl
theorem pJ:(Tryz.prog.info? 85).map (fun i=>(i.zero,i.size,i.bytes))=some (some (.agg #[.int .u64 0,.int .i64 0,.slice none 0 0]),3,40):=by kernel_rfl
theorem dJ {w:World} {b:Nat} {y:EV} (h:w.heap[b]? = some (.cells #[.int .u64 (y.t:Nat),.int .i64 y.k,.slice y.a y.d.length y.c] 85 (0,0))):RowsAt (fun c _=>c=b) w (.slice (some ⟨b,0,none⟩) 1 1) 3 encE [y]:=by
 refine⟨_,1,rfl,Nat.le_refl _,.inr ⟨b,0,_,rfl,h,rfl,fun i hi j u hu=>?_⟩⟩;have:i=0:=by simpa using hi
 subst this;rcases j with _ | _ | _ | j
 ·cases hu;exact bQ h rfl
 ·cases hu;exact bQ h rfl
 ·cases hu;exact bQ h rfl
 ·cases hu
theorem C_ (w:World) (c:Nat):Calls Tryz.prog 110 #[.slice none 0 c] w fun e w'=>e=.returned (.slice none 0 0)∧w=w':=by
 go_enter Tryz.func110,Tryz.ntmps110
 go_wp2
 all_goals (go_ret;exact⟨rfl,rfl⟩)
theorem C0 (w:World) (ad:Addr) (n c:Nat) (h:n≤c):Calls Tryz.prog 110 #[.slice (some ad) n c] w fun e w'=>e=.returned (.slice (some ad) n n)∧w=w':=by
 go_enter Tryz.func110,Tryz.ntmps110
 go_wp2
 all_goals (go_ret;exact⟨rfl,rfl⟩)
theorem clip_en {K:Nat→Obj→Prop} (w:World) (v:Value) (ws:List EV) (h:RowsAt K w v 3 encE ws):
 Calls Tryz.prog 110 #[v] w fun e w'=>(∃a,e=.returned (.slice a ws.length ws.length)∧RowsAt K w (.slice a ws.length ws.length) 3 encE ws)∧w=w':=by
 obtain⟨a,c,rfl,hc⟩:=h.form;cases a with
 | none=>
  have e:ws=[]:=by
   rcases Nat.eq_zero_or_pos ws.length with q | q
   ·exact List.length_eq_zero_iff.1 q
   ·obtain⟨b,off,o,e,_⟩:=h.spot q;cases e
  subst e;exact(C_ w _).mono fun e w' ⟨he,hw⟩=>⟨⟨none,he,RowsAt.nil _ _ _ _⟩,hw⟩
 | some ad=>
  refine(C0 w ad _ c hc).mono fun e w' ⟨he,hw⟩=>⟨⟨some ad,he,?_⟩,hw⟩
  obtain⟨a',c',e,_,hz⟩:=h;cases e;exact⟨_,_,rfl,Nat.le_refl _,hz⟩
theorem kZ {K0 K1:Nat→Obj→Prop} {ops:Array Oper} {o:Oper} {a:Act} {K:Act→World→Prop} {Q:Exit→Act→World→Prop} {E:Prop} (W:World) (hgd:o.guard=none) (s x:Operand)
 (ho:o.op=.call { callee:=.builtin .append,args:=#[s,x],argTypes:=#[24,24] }) (ao:Option Addr) (n:Nat) (xs:List EV) (hs:a.eval s=.slice ao n n) (hr:Hid (RowsAt K0 W (.slice ao n n) 3 encE xs)) (hn:Hid (xs.length=n))
 (vx:Value) (y:EV) (hx:a.eval x=vx) (hvx:Hid (RowsAt K1 W vx 3 encE [y])) (hm:n+1≤1000000)
 (h:∀g c w',Hid (w'.ownsRow W.heap.size 85 3 (.slice g (n+1) c) (n+1) ((xs++[y]).flatMap encE))→Hid (Fr (fun _ _=>True) W w')→K (a.put o.dst (.slice g (n+1) c)) w'):
 if Region.wanted o (yielded ops a.tmps)=true then Oper.wp Tryz.prog o a W K Q else E:=by
 have hw:Region.wanted o (yielded ops a.tmps)=true:=by simp [Region.wanted,hgd]
 rw[if_pos hw];have hn:=hn.out;subst hn;obtain⟨i0,hi,hz0,hz1,hz2⟩:=info_parts pJ;cases ao with
 | none=>
  have hnil2:xs=[]:=by
   rcases Nat.eq_zero_or_pos xs.length with q | q
   ·exact List.length_eq_zero_iff.1 q
   ·obtain⟨b,off,o,e,_⟩:=hr.out.spot q;cases e
  subst hnil2;refine gz W s x 24 85 ho W.heap.size (Nat.le_refl _) i0 _ 3 40 Tryz.underlying24 hi hz0 hz1 hz2 rfl (by decide) (by decide) encE_len encE_one (.slice none 0 0) 0 [] hs ⟨rfl,.inl ⟨rfl,rfl⟩⟩ vx [y] hx hvx.out [y] rfl 1 rfl (by omega) fun g c w' o1 g1 _=>h g c w' o1 ((Fr.refl _ _).grown_new g1 fun k e=>by cases e)
 | some ad=>
  rcases RowsAt.src encE_len (by decide) encE_one hr.out with⟨e,_⟩ | ⟨ad',c,e,hl,hc,h1⟩
  ·cases e
  ·cases e
   obtain⟨bv,ov,cv,hbv⟩:∃bv ov c',vx=.slice (some ⟨bv,ov,none⟩) 1 c':=by obtain⟨av,cv,e,_⟩:=hvx.out.form;subst e;obtain⟨b,off,o,e,_⟩:=hvx.out.spot (by simp);subst e;exact⟨b,off,cv,rfl⟩
   subst hbv;rcases RowsAt.src encE_len (by decide) encE_one hvx.out with⟨e,_⟩ | ⟨ad2,c2,e2,hl2,hc2,_⟩
   ·cases e
   ·cases e2;obtain⟨v',w',hrun,hown,hgr⟩:=run_append_arg_grows (w:=W) (P:=Tryz.prog) 24 o.type 85 i0 _ 3 40 Tryz.underlying24 hi hz0 hz1 hz2 rfl (by decide) ad xs.length xs.length _ hl hc ⟨bv,ov,none⟩ 1 cv _ hl2 hc2 (by omega) (by unfold maxLen;omega) (by omega);obtain⟨g,c',rfl⟩:=jK hown;unfold Oper.wp execOp;simp only[ho,resolve,invoke,builtin,Sem.run_bind,Sem.run_pure,Result.andThen_ok,List.map_toArray,List.map_cons,List.map_nil,hs,hx,hrun];exact h g c' w' (by rw[List.flatMap_append];exact hown) ((Fr.refl _ _).grown_new hgr fun k e=>by cases e)
theorem Gx {K:Nat→Obj→Prop} (w:World) (b bt:Nat) (a:Option Addr) (n c:Nat) (xs:List EV) (y:EV) (hx:RowsAt K w (.slice a n c) 3 encE xs) (hn:xs.length=n) (hm:n+1≤1000000):
 Calls Tryz.prog 74 #[vL b bt (.slice a n c),vE y] w fun e w'=>∃a' c',e=.returned (vL b bt (.slice a' (n+1) c'))∧RowsAt (fun c o=>w.heap.size≤c∧∃cs fz,o=.cells cs 85 fz) w' (.slice a' (n+1) c') 3 encE (xs++[y])∧Fr (fun _ _=>True) w w':=by
 obtain⟨W1,hW1⟩:=zE (w.alloc (.cells #[.int .u64 (b:Nat),.int .u64 (bt:Nat),.slice a n c] 26 (0,0)));have F1:Hid (Fr (fun _ _=>True) w W1):=hW1▸(Fr.refl _ _).alloc _;have X1:Hid (W1.heap[w.heap.size]? = some (.cells #[.int .u64 (b:Nat),.int .u64 (bt:Nat),.slice a n c] 26 (0,0))):=hW1▸bX w _;obtain⟨W2,hW2⟩:=zE (W1.alloc (.cells #[.int .u64 (y.t:Nat),.int .i64 y.k,.slice y.a y.d.length y.c] 85 (0,0)));have F2:Hid (Fr (fun _ _=>True) W1 W2):=hW2▸(Fr.refl _ _).alloc _;have X2:Hid (W2.heap[W1.heap.size]? = some (.cells #[.int .u64 (y.t:Nat),.int .i64 y.k,.slice y.a y.d.length y.c] 85 (0,0))):=hW2▸bX W1 _;obtain⟨W3,hW3⟩:=zE (W2.alloc (.cells #[.int .u64 0,.int .u64 0,.slice none 0 0] 26 (0,0)));have F3:Hid (Fr (fun _ _=>True) W2 W3):=hW3▸(Fr.refl _ _).alloc _;have X3:Hid (W3.heap[W2.heap.size]? = some (.cells #[.int .u64 0,.int .u64 0,.slice none 0 0] 26 (0,0))):=hW3▸bX W2 _;have FA:Hid (Fr (fun _ _=>True) w W3):=(F1.out.trans F2.out).trans F3.out;have Y1:Hid (W3.heap[w.heap.size]? = some (.cells #[.int .u64 (b:Nat),.int .u64 (bt:Nat),.slice a n c] 26 (0,0))):=(F2.out.trans F3.out).keep _ _ X1.out trivial;have Y2:Hid (W3.heap[W1.heap.size]? = some (.cells #[.int .u64 (y.t:Nat),.int .i64 y.k,.slice y.a y.d.length y.c] 85 (0,0))):=F3.out.keep _ _ X2.out trivial;have LT:Hid (w.heap.size<W1.heap.size∧W1.heap.size<W2.heap.size):=⟨bZ X1.out,bZ X2.out⟩
 have SS:Hid (∀W,Fr (fun _ _=>True) W3 W→W.cell? ⟨w.heap.size,2,none⟩=some (.slice a n c)∧W.cell? ⟨W1.heap.size,0,none⟩=some (.int .u64 (y.t:Nat))∧W.cell? ⟨W1.heap.size,1,none⟩=some (.int .i64 y.k)∧W.cell? ⟨W1.heap.size,2,none⟩=some (.slice y.a y.d.length y.c)):=fun W f=>by have t1:=f.keep _ _ Y1.out trivial;have t2:=f.keep _ _ Y2.out trivial;exact⟨bQ t1 rfl,bQ t2 rfl,bQ t2 rfl,bQ t2 rfl⟩
 have F5:Hid (Fr (fun _ _=>True) W3 W3.drew):=(Fr.refl _ _).drew;have CW:=zH (fun W (f:Fr (fun _ _=>True) W3 W)=>clip_en W _ xs ((hx.tt FA.out).tt f));rw[hn] at CW;have HN:=zH hn;unfold vL vE;clear hx hn;go_enter Tryz.func74,Tryz.ntmps74
 go_upto_region 1 with fail
 try rw[hW1]
 try rw[hW2]
 try rw[hW3]
 clear hW1 hW2 hW3;refine m_ (S1:=fun _=>True) (S0:=fun W=>W.cell? ⟨w.heap.size,2,none⟩=some (.slice a n c)∧W.cell? ⟨W1.heap.size,0,none⟩=some (.int .u64 (y.t:Nat))∧W.cell? ⟨W1.heap.size,1,none⟩=some (.int .i64 y.k)∧W.cell? ⟨W1.heap.size,2,none⟩=some (.slice y.a y.d.length y.c)) (k:=7) (by kernel_rfl) ?_;refine kX (i:=0) (v:=?v1) rfl (by rfl) (by kernel_rfl) (by kernel_rfl) (by kernel_rfl) (by kernel_rfl) (fun _ _ _ h=>h) (Or.inl ⟨by rfl,?hy1⟩) trivial (SS.out _ F5.out) ?rest1
 case hy1=>(intro w hSw;(try dsimp only at hSw);(try simp only[List.getElem_toArray,List.getElem_cons_zero,List.getElem_cons_succ]);go_simp;try with_reducible rfl)
 try simp only[List.getElem_toArray,List.getElem_cons_zero,List.getElem_cons_succ,Act.put,List.setIfInBounds_toArray,List.set_cons_zero,List.set_cons_succ]
 refine mX (i:=1) (v:=?v2) [2,5,7] rfl (by rfl) (by kernel_rfl) (by rfl) (by kernel_rfl) (by kernel_rfl) (by kernel_rfl) (by kernel_rfl) (fun _ _ _ h=>h) (Or.inl ⟨by rfl,?hy2⟩) trivial (SS.out _ F5.out) ?rest2
 case hy2=>(intro w hSw;(try dsimp only at hSw);(try simp only[List.getElem_toArray,List.getElem_cons_zero,List.getElem_cons_succ]);go_simp;try with_reducible rfl)
 try simp only[List.getElem_toArray,List.getElem_cons_zero,List.getElem_cons_succ,Act.put,List.setIfInBounds_toArray,List.set_cons_zero,List.set_cons_succ]
 refine mX (i:=3) (v:=?v3) [4,5,7] rfl (by rfl) (by kernel_rfl) (by rfl) (by kernel_rfl) (by kernel_rfl) (by kernel_rfl) (by kernel_rfl) (fun _ _ _ h=>h) (Or.inl ⟨by rfl,?hy3⟩) trivial (SS.out _ F5.out) ?rest3
 case hy3=>(intro w hSw;(try dsimp only at hSw);(try simp only[List.getElem_toArray,List.getElem_cons_zero,List.getElem_cons_succ]);go_simp;try with_reducible rfl)
 try simp only[List.getElem_toArray,List.getElem_cons_zero,List.getElem_cons_succ,Act.put,List.setIfInBounds_toArray,List.set_cons_zero,List.set_cons_succ]
 refine dZ (rs:=[2,4]) (by kernel_rfl) (by simp) ?_;refine cZ.cons rfl (fun K hK=>?_) (by kernel_rfl) ?_
 ·(try simp only[List.getElem_toArray,List.getElem_cons_zero,List.getElem_cons_succ]);go_simp;(with_reducible refine(CW.out _ F5.out).mono ?_);rintro e w8 ⟨⟨ax,rfl,hrx⟩,rfl⟩;have RX:=zH hrx;clear hrx;(try simp only[Act.put,List.setIfInBounds_toArray,List.set_cons_zero,List.set_cons_succ]);refine hK.out _ _ trivial (fun _=>SS.out _ F5.out) ?_;clear hK K;refine dZ (rs:=[4]) (by kernel_rfl) (by simp) ?_;refine cZ.cons rfl (fun K hK=>?_) (by kernel_rfl) ?_
  ·obtain⟨WB1,hWB⟩:=zE (W3.drew.alloc (.cells #[.int .u64 (y.t:Nat),.int .i64 y.k,.slice y.a y.d.length y.c] 85 (0,0)));have FB1:Hid (Fr (fun _ _=>True) W3 WB1):=hWB▸F5.out.alloc _;have AB1:Hid (Fr (fun _ _=>True) W3.drew WB1):=hWB▸(Fr.refl _ _).alloc _;obtain⟨gb,hgb⟩:=zE W3.drew.heap.size;have TB1:Hid (RowsAt (fun c _=>c=gb) WB1 (.slice (some ⟨gb,0,none⟩) 1 1) 3 encE [y]):=hWB▸hgb▸dJ (bX W3.drew _);(try simp only[List.getElem_toArray,List.getElem_cons_zero,List.getElem_cons_succ]);go_simp
   try rw[hWB]
   try rw[hgb]
   (try simp only[Act.put,List.setIfInBounds_toArray,List.set_cons_zero,List.set_cons_succ]);refine hK.out _ _ trivial (fun _=>SS.out _ FB1.out) ?_;clear hK K;clear hWB hgb;refine dZ (rs:=[5]) (by kernel_rfl) (by simp) ?_;refine cZ.cons rfl (fun K hK=>?_) (by kernel_rfl) ?_
   ·refine kZ WB1 rfl _ _ rfl _ n xs rfl (zH (RX.out.tt AB1.out)) HN _ y rfl TB1 hm ?_;intro g9 c9 W9 O9 G9;have F9:=zH (FB1.out.trans G9.out);have FB9:=O9;(try simp only[Act.put,List.setIfInBounds_toArray,List.set_cons_zero,List.set_cons_succ]);refine hK.out _ _ trivial (fun _=>SS.out _ F9.out) ?_;clear hK K;refine kX (i:=6) (v:=?v4) rfl (by rfl) (by kernel_rfl) (by kernel_rfl) (by kernel_rfl) (by kernel_rfl) (fun _ _ _ h=>h) (Or.inl ⟨by rfl,?hy4⟩) trivial (SS.out _ F9.out) ?rest4
    case hy4=>(intro w hSw;(try dsimp only at hSw);(try simp only[List.getElem_toArray,List.getElem_cons_zero,List.getElem_cons_succ]);go_simp;try with_reducible rfl)
    try simp only[List.getElem_toArray,List.getElem_cons_zero,List.getElem_cons_succ,Act.put,List.setIfInBounds_toArray,List.set_cons_zero,List.set_cons_succ]
    refine dZ (rs:=[7]) (by kernel_rfl) (by simp) ?_;refine cZ.cons rfl (fun K hK=>?_) (by kernel_rfl) ?_
    ·have k9:=bQ (i:=2) (F9.out.keep _ _ Y1.out trivial) rfl;have z9:=bJ (i:=2) (F9.out.keep _ _ Y1.out trivial);(try simp only[List.getElem_toArray,List.getElem_cons_zero,List.getElem_cons_succ]);go_simp;refine hK.out _ _ trivial (fun h=>absurd h (by decide)) ?_;clear hK K;refine m7 (by kernel_rfl) ?_ _;clear k9 z9;obtain⟨WA,hWA⟩:=zE (W9.setCell ⟨w.heap.size,2,none⟩ (.slice g9 (n+1) c9));have YA:Hid (WA.heap[w.heap.size]? = some (.cells #[.int .u64 (b:Nat),.int .u64 (bt:Nat),.slice g9 (n+1) c9] 26 (0,0))):=hWA▸bK (o:=2) (F9.out.keep _ _ Y1.out trivial) _;have GA:Hid (Fr (fun c _=>c≠w.heap.size) W9 WA):=hWA▸(Fr.refl _ _).setCell (fun _ _ h=>h rfl) _;have XT:Hid (WA.heap[W2.heap.size]? = some (.cells #[.int .u64 0,.int .u64 0,.slice none 0 0] 26 (0,0))):=GA.out.keep _ _ (F9.out.keep _ _ X3.out trivial) (by have:=LT.out;omega)
     try rw[hWA]
     clear hWA;have x0:=bQ (i:=0) YA.out rfl;have x1:=bQ (i:=1) YA.out rfl;have x2:=bQ (i:=2) YA.out rfl;have q0:=bQ (i:=0) XT.out rfl;have q1:=bQ (i:=1) XT.out rfl;have q2:=bQ (i:=2) XT.out rfl;have y0:=bJ (i:=0) XT.out;have y1:=bJ (i:=1) XT.out;have y2:=bJ (i:=2) XT.out;obtain⟨WZ,hWZ,TZ,FZ⟩:=Lx XT.out (.int .u64 (b:Nat)) (.int .u64 (bt:Nat)) (.slice g9 (n+1) c9);have p0:=bQ (i:=0) TZ rfl;have p1:=bQ (i:=1) TZ rfl;have p2:=bQ (i:=2) TZ rfl;have FZH:=zH FZ;clear TZ FZ;go_wp2
     try rw[hWZ]
     refine bodyPost_ret (v:=.agg #[.int .u64 (b:Nat),.int .u64 (bt:Nat),.slice g9 (n+1) c9]) (by simp [results,Tryz.results74,go_sem, *]) rfl ⟨g9,c9,rfl,?_,?_⟩
     ·try rw[hWZ]
      have r1:=gV (w:=W9) (B:=WB1.heap.size) (e:=85) (v:=.slice g9 (n+1) c9) (xs:=xs++[y]) (by rw[List.length_append,HN.out];exact FB9.out) encE_len
      have r2:=r1.mono (K':=fun c o=>c≠w.heap.size∧c≠W2.heap.size∧w.heap.size≤c∧∃cs fz,o=.cells cs 85 fz) fun c o _ hc=>by obtain⟨hc,cs,e⟩:=hc;have h1:=FB1.out.size;have h2:=bZ X3.out;have h3:=LT.out;exact⟨by omega,by omega,by omega,cs,_,e⟩
      exact((r2.fr (GA.out.mono fun _ _ h=>h) fun c o _ hc=>hc.1).fr FZH.out fun c o _ hc=>hc.2.1).mono fun c o _ hc=>hc.2.2
     ·try rw[hWZ]
      exact Fr.within ((((FA.out.trans F9.out).mono fun _ _ _=>trivial).trans (GA.out.mono fun c _ h e=>by have:=h.2;omega)).trans (FZH.out.mono fun c _ h e=>by have:=h.2;have:=LT.out;omega))
    exact cZ.nil
   exact cZ.nil
  exact cZ.nil
 refine cZ.cons rfl (fun K hK=>?_) (by kernel_rfl) ?_
 ·obtain⟨WB2,hWB⟩:=zE (W3.drew.alloc (.cells #[.int .u64 (y.t:Nat),.int .i64 y.k,.slice y.a y.d.length y.c] 85 (0,0)));have FB2:Hid (Fr (fun _ _=>True) W3 WB2):=hWB▸F5.out.alloc _;have AB2:Hid (Fr (fun _ _=>True) W3.drew WB2):=hWB▸(Fr.refl _ _).alloc _;obtain⟨gb,hgb⟩:=zE W3.drew.heap.size;have TB2:Hid (RowsAt (fun c _=>c=gb) WB2 (.slice (some ⟨gb,0,none⟩) 1 1) 3 encE [y]):=hWB▸hgb▸dJ (bX W3.drew _);(try simp only[List.getElem_toArray,List.getElem_cons_zero,List.getElem_cons_succ]);go_simp
  try rw[hWB]
  try rw[hgb]
  (try simp only[Act.put,List.setIfInBounds_toArray,List.set_cons_zero,List.set_cons_succ]);refine hK.out _ _ trivial (fun _=>SS.out _ FB2.out) ?_;clear hK K;clear hWB hgb;refine dZ (rs:=[2]) (by kernel_rfl) (by simp) ?_;refine cZ.cons rfl (fun K hK=>?_) (by kernel_rfl) ?_
  ·(try simp only[List.getElem_toArray,List.getElem_cons_zero,List.getElem_cons_succ]);go_simp;(with_reducible refine(CW.out _ FB2.out).mono ?_);rintro e w8 ⟨⟨ax,rfl,hrx⟩,rfl⟩;have RX:=zH hrx;clear hrx;(try simp only[Act.put,List.setIfInBounds_toArray,List.set_cons_zero,List.set_cons_succ]);refine hK.out _ _ trivial (fun _=>SS.out _ FB2.out) ?_;clear hK K;refine dZ (rs:=[5]) (by kernel_rfl) (by simp) ?_;refine cZ.cons rfl (fun K hK=>?_) (by kernel_rfl) ?_
   ·refine kZ WB2 rfl _ _ rfl _ n xs rfl (zH RX.out) HN _ y rfl TB2 hm ?_;intro g9 c9 W9 O9 G9;have F9:=zH (FB2.out.trans G9.out);have FB9:=O9;(try simp only[Act.put,List.setIfInBounds_toArray,List.set_cons_zero,List.set_cons_succ]);refine hK.out _ _ trivial (fun _=>SS.out _ F9.out) ?_;clear hK K;refine kX (i:=6) (v:=?v5) rfl (by rfl) (by kernel_rfl) (by kernel_rfl) (by kernel_rfl) (by kernel_rfl) (fun _ _ _ h=>h) (Or.inl ⟨by rfl,?hy5⟩) trivial (SS.out _ F9.out) ?rest5
    case hy5=>(intro w hSw;(try dsimp only at hSw);(try simp only[List.getElem_toArray,List.getElem_cons_zero,List.getElem_cons_succ]);go_simp;try with_reducible rfl)
    try simp only[List.getElem_toArray,List.getElem_cons_zero,List.getElem_cons_succ,Act.put,List.setIfInBounds_toArray,List.set_cons_zero,List.set_cons_succ]
    refine dZ (rs:=[7]) (by kernel_rfl) (by simp) ?_;refine cZ.cons rfl (fun K hK=>?_) (by kernel_rfl) ?_
    ·have k9:=bQ (i:=2) (F9.out.keep _ _ Y1.out trivial) rfl;have z9:=bJ (i:=2) (F9.out.keep _ _ Y1.out trivial);(try simp only[List.getElem_toArray,List.getElem_cons_zero,List.getElem_cons_succ]);go_simp;refine hK.out _ _ trivial (fun h=>absurd h (by decide)) ?_;clear hK K;refine m7 (by kernel_rfl) ?_ _;clear k9 z9;obtain⟨WA,hWA⟩:=zE (W9.setCell ⟨w.heap.size,2,none⟩ (.slice g9 (n+1) c9));have YA:Hid (WA.heap[w.heap.size]? = some (.cells #[.int .u64 (b:Nat),.int .u64 (bt:Nat),.slice g9 (n+1) c9] 26 (0,0))):=hWA▸bK (o:=2) (F9.out.keep _ _ Y1.out trivial) _;have GA:Hid (Fr (fun c _=>c≠w.heap.size) W9 WA):=hWA▸(Fr.refl _ _).setCell (fun _ _ h=>h rfl) _;have XT:Hid (WA.heap[W2.heap.size]? = some (.cells #[.int .u64 0,.int .u64 0,.slice none 0 0] 26 (0,0))):=GA.out.keep _ _ (F9.out.keep _ _ X3.out trivial) (by have:=LT.out;omega)
     try rw[hWA]
     clear hWA;have x0:=bQ (i:=0) YA.out rfl;have x1:=bQ (i:=1) YA.out rfl;have x2:=bQ (i:=2) YA.out rfl;have q0:=bQ (i:=0) XT.out rfl;have q1:=bQ (i:=1) XT.out rfl;have q2:=bQ (i:=2) XT.out rfl;have y0:=bJ (i:=0) XT.out;have y1:=bJ (i:=1) XT.out;have y2:=bJ (i:=2) XT.out;obtain⟨WZ,hWZ,TZ,FZ⟩:=Lx XT.out (.int .u64 (b:Nat)) (.int .u64 (bt:Nat)) (.slice g9 (n+1) c9);have p0:=bQ (i:=0) TZ rfl;have p1:=bQ (i:=1) TZ rfl;have p2:=bQ (i:=2) TZ rfl;have FZH:=zH FZ;clear TZ FZ;go_wp2
     try rw[hWZ]
     refine bodyPost_ret (v:=.agg #[.int .u64 (b:Nat),.int .u64 (bt:Nat),.slice g9 (n+1) c9]) (by simp [results,Tryz.results74,go_sem, *]) rfl ⟨g9,c9,rfl,?_,?_⟩
     ·try rw[hWZ]
      have r1:=gV (w:=W9) (B:=WB2.heap.size) (e:=85) (v:=.slice g9 (n+1) c9) (xs:=xs++[y]) (by rw[List.length_append,HN.out];exact FB9.out) encE_len
      have r2:=r1.mono (K':=fun c o=>c≠w.heap.size∧c≠W2.heap.size∧w.heap.size≤c∧∃cs fz,o=.cells cs 85 fz) fun c o _ hc=>by obtain⟨hc,cs,e⟩:=hc;have h1:=FB2.out.size;have h2:=bZ X3.out;have h3:=LT.out;exact⟨by omega,by omega,by omega,cs,_,e⟩
      exact((r2.fr (GA.out.mono fun _ _ h=>h) fun c o _ hc=>hc.1).fr FZH.out fun c o _ hc=>hc.2.1).mono fun c o _ hc=>hc.2.2
     ·try rw[hWZ]
      exact Fr.within ((((FA.out.trans F9.out).mono fun _ _ _=>trivial).trans (GA.out.mono fun c _ h e=>by have:=h.2;omega)).trans (FZH.out.mono fun c _ h e=>by have:=h.2;have:=LT.out;omega))
    exact cZ.nil
   exact cZ.nil
  exact cZ.nil
 exact cZ.nil
theorem en_eq (x y:EV):x.en=y.en↔x.t=y.t∧x.k=y.k∧x.d=y.d:=by
 unfold EV.en;rw[En.mk.injEq]
theorem RowsAt.len' {α:Type} {K:Nat→Obj→Prop} {w:World} {a:Option Addr} {n c k:Nat} {enc:α→List Value} {xs:List α} (h:RowsAt K w (.slice a n c) k enc xs):n=xs.length:=by
 obtain⟨_,_,e,_⟩:=h;cases e;rfl
theorem pW {K1 K2 K3 K4:Nat→Obj→Prop} (w:World) (va vb:Value) (A B:List EV) (hA:RowsAt K1 w va 3 encE A) (hB:RowsAt K2 w vb 3 encE B) (dA:∀x∈A,BytesAt K3 w (.slice x.a x.d.length x.c) x.d∧x.d.length≤9223372036854775807) (dB:∀x∈B,BytesAt K4 w (.slice x.a x.d.length x.c) x.d) (hl:A.length≤1000000):
 Calls Tryz.prog 105 #[va,vb] w fun e w'=>e=.returned (.bool (decide (A.map EV.en=B.map EV.en)))∧∃k,w'=w.drewN k:=by
 obtain⟨a1,c1,rfl,_⟩:=hA.form;obtain⟨a2,c2,rfl,_⟩:=hB.form;have HA:=zH hA;have HB:=zH hB;have HDA:=zH dA;have HDB:=zH dB;clear hA hB dA dB;by_cases hne:A.length=B.length
 ·have HE:=zH hne;rw[←hne];obtain⟨R,hR⟩:=zE (decide (A.map EV.en=B.map EV.en));have HR:=zH hR;rw[hR];obtain⟨L,hL⟩:=zE A.length;have HL:=zH hL;rw[hL] at hl ⊢;have h1:((L:Int) != L)=false:=by simp
  clear hne hR hL;go_enter Tryz.func105,Tryz.ntmps105
  go_wp2;go_loopw [5] (fun i wr=>∃(j k:Nat),i=.int .i64 (j:Nat)∧j≤L∧Hid ((A.take j).map EV.en=(B.take j).map EV.en)∧Hid (wr=w.drewN k)) (fun i _=>L-(intOf i).toNat)
  case atStart=>exact⟨0,0,rfl,Nat.zero_le _,rfl,rfl⟩
  case round=>
   obtain⟨j,k,rfl,hj,HT,HW⟩:=hrel;have hwr:=HW.out;subst hwr;clear HW;by_cases hlt:j<L
   ·have hltI:(j:Int)<L:=by omega
    have hltA:j<A.length:=by have:=HL.out;omega
    have hltB:j<B.length:=by have:=HE.out;have:=HL.out;omega
    obtain⟨b1,o1,_,ha1,_,_,k1⟩:=HA.out.spot (by omega);obtain⟨b2,o2,_,ha2,_,_,k2⟩:=HB.out.spot (by omega);obtain⟨u1,u2,u3⟩:=RowsAt.e3 (K:=fun _ _=>True) k1 j hltA;obtain⟨v1,v2,v3⟩:=RowsAt.e3 (K:=fun _ _=>True) k2 j hltB;have SC:Hid (∀n,Calls Tryz.prog 39 #[.slice A[j].a A[j].d.length A[j].c,.slice B[j].a B[j].d.length B[j].c] ((w.drewN k).drewN n) fun e w'=>e=.returned (.bool (decide (A[j].d=B[j].d)))∧∃m,w'=((w.drewN k).drewN n).drewN m):=fun n=>sq _ _ _ _ _ ((HDA.out _ (List.getElem_mem hltA)).1.tt (((Fr.refl _ w).drewN k).drewN n)) ((HDB.out _ (List.getElem_mem hltB)).tt (((Fr.refl _ w).drewN k).drewN n)) (HDA.out _ (List.getElem_mem hltA)).2
    have hTA:Hid ((A.take (j+1)).map EV.en=(A.take j).map EV.en++[A[j].en]∧(B.take (j+1)).map EV.en=(B.take j).map EV.en++[B[j].en]):=⟨by rw[List.take_succ_eq_append_getElem hltA,List.map_append];rfl,by rw[List.take_succ_eq_append_getElem hltB,List.map_append];rfl⟩
    have NE:Hid (A[j].en≠B[j].en→R=false):=fun hx=>by
     rw[←HR.out];refine decide_eq_false fun e=>hx ?_
     have e2:=congrArg (fun l=>l[j]?) e;simp only[List.getElem?_map,List.getElem?_eq_getElem hltA,List.getElem?_eq_getElem hltB,Option.map_some,Option.some.injEq] at e2;exact e2
    have EQ:=zH (en_eq A[j] B[j]);obtain⟨x,hx⟩:=zE (A[j]);obtain⟨y,hy⟩:=zE (B[j]);rw[hx] at u1 u2 u3 SC hTA NE EQ;rw[hy] at v1 v2 v3 SC hTA NE EQ;obtain⟨xt,xk,xa,xc,xd⟩:=x;obtain⟨yt,yk,ya,yc,yd⟩:=y;dsimp only at u1 u2 u3 v1 v2 v3 SC EQ;generalize hxl:xd.length=xl at u3 SC;generalize hyl:yd.length=yl at v3 SC;have u1':(w.drewN k).cell? ⟨b1,o1+j*3,none⟩=some (.int .u64 (xt:Nat)):=u1;have u2':(w.drewN k).cell? ⟨b1,o1+j*3+1,none⟩=some (.int .i64 xk):=u2;have u3':(w.drewN k).cell? ⟨b1,o1+j*3+2,none⟩=some (.slice xa xl xc):=u3;have v1':(w.drewN k).cell? ⟨b2,o2+j*3,none⟩=some (.int .u64 (yt:Nat)):=v1;have v2':(w.drewN k).cell? ⟨b2,o2+j*3+1,none⟩=some (.int .i64 yk):=v2;have v3':(w.drewN k).cell? ⟨b2,o2+j*3+2,none⟩=some (.slice ya yl yc):=v3;subst ha1 ha2;obtain⟨wa,hwa⟩:=zE (w.drewN k);rw[hwa] at SC u1' u2' u3' v1' v2' v3' ⊢;have HWA:=zH hwa;clear u1 u2 u3 v1 v2 v3 hx hy k1 k2 hwa hxl hyl;by_cases q1:xt=yt
    ·subst q1;have g1:((xt:Int) != (xt:Int))=false:=by simp
     by_cases q2:xk=yk
     ·subst q2;have g2:(xk != xk)=false:=by simp
      by_cases q3:xd=yd
      ·rw[decide_eq_true q3] at SC;have HQ:Hid ((⟨xt,xk,xa,xc,xd⟩:EV).en=(⟨xt,xk,ya,yc,yd⟩:EV).en):=EQ.out.2 ⟨rfl,rfl,q3⟩;clear q3 EQ NE;go_wp2_with fail
       go_quiet ((go_at_call 39;exact Calls.quiet_of (SC.out _)))
       go_wp2;go_roundw
       case rel=>exact⟨j+1,k+nq,by go_num,by omega,by show _=_;rw[hTA.out.1,hTA.out.2,HT.out,HQ.out],by show _=_;rw[←HWA.out,World.drewN_drewN]⟩
       case measure=>simp [intOf];omega
      ·rw[decide_eq_false q3] at SC;have RF:Hid (R=false):=NE.out fun e=>q3 (EQ.out.1 e).2.2
       clear q3 EQ NE;go_wp2_with fail
       go_quiet ((go_at_call 39;exact Calls.quiet_of (SC.out _)))
       go_wp2;go_ret;exact⟨by rw[RF.out];rfl,k+nq,by rw[←HWA.out,World.drewN_drewN]⟩
     ·have g2:(xk != yk)=true:=by simpa using q2
      have RF:Hid (R=false):=NE.out fun e=>q2 (EQ.out.1 e).2.1
      clear q2 EQ NE SC;go_wp2_with fail
      go_quiet (fail)
      go_wp2;go_ret;exact⟨by rw[RF.out];rfl,k+nq,by rw[←HWA.out,World.drewN_drewN]⟩
    ·have g1:((xt:Int) != (yt:Int))=true:=by simp;omega
     have RF:Hid (R=false):=NE.out fun e=>q1 (EQ.out.1 e).1
     clear q1 EQ NE SC;go_wp2_with fail
     go_quiet (fail)
     go_wp2;go_ret;exact⟨by rw[RF.out];rfl,k+nq,by rw[←HWA.out,World.drewN_drewN]⟩
   ·have hge:(L:Int)≤j:=by omega
    have RT:Hid (R=true):=by show _=_;rw[←HR.out];have e:=HT.out;rw[List.take_of_length_le (by have:=HL.out;omega),List.take_of_length_le (by have:=HE.out;have:=HL.out;omega)] at e;exact decide_eq_true e
    go_wp2;go_ret;exact⟨by rw[RT.out];rfl,k,rfl⟩
 ·have hne':((A.length:Int) != B.length)=true:=by simp;omega
  have RF:Hid (decide (A.map EV.en=B.map EV.en)=false):=decide_eq_false fun e=>hne (by have:=congrArg List.length e;simpa using this)
  generalize decide (A.map EV.en=B.map EV.en)=R at RF ⊢;clear hne;go_enter Tryz.func105,Tryz.ntmps105
  go_wp2;go_ret;exact⟨by rw[RF.out];rfl,0,rfl⟩
def vL9 (b bt:Nat) (v:Value):Value:=.agg #[.int .u64 (b:Nat),.int .u64 (bt:Nat),v]
theorem CJ {K1 K2 K3 K4:Nat→Obj→Prop} (w:World) (b bt b' bt':Nat) (va:Value) (a2:Option Addr) (n2 c2:Nat) (A B:List EV) (hA:RowsAt K1 w va 3 encE A) (hB:RowsAt K2 w (.slice a2 n2 c2) 3 encE B) (dA:∀x∈A,BytesAt K3 w (.slice x.a x.d.length x.c) x.d∧x.d.length≤9223372036854775807) (dB:∀x∈B,BytesAt K4 w (.slice x.a x.d.length x.c) x.d) (hl:A.length≤1000000):
 Calls Tryz.prog 60 #[.int .u64 (b:Nat),.int .u64 (bt:Nat),va,vL9 b' bt' (.slice a2 n2 c2)] w fun e w'=>e=.returned (.bool (decide (b=b')&&(decide (bt=bt')&&decide (A.map EV.en=B.map EV.en))))∧Fr (fun _ _=>True) w w':=by
 obtain⟨a1,c1,rfl,_⟩:=hA.form;obtain⟨W1,hW1⟩:=zE (w.alloc (.cells #[.int .u64 (b':Nat),.int .u64 (bt':Nat),.slice a2 n2 c2] 100 (0,0)));have F1:Hid (Fr (fun _ _=>True) w W1):=hW1▸(Fr.refl _ _).alloc _;have X1:Hid (W1.heap[w.heap.size]? = some (.cells #[.int .u64 (b':Nat),.int .u64 (bt':Nat),.slice a2 n2 c2] 100 (0,0))):=hW1▸bX w _;have p0:=bQ (i:=0) X1.out rfl;have p1:=bQ (i:=1) X1.out rfl;have p2:=bQ (i:=2) X1.out rfl;have EC:=zH (pW W1 _ _ A B (hA.tt F1.out) (hB.tt F1.out) (fun x hx=>⟨(dA x hx).1.tt F1.out,(dA x hx).2⟩) (fun x hx=>(dB x hx).tt F1.out) hl);generalize decide (A.map EV.en=B.map EV.en)=R at EC ⊢;generalize A.length=L at EC;clear hA hB dA dB hl;unfold vL9;go_enter Tryz.func60,Tryz.ntmps60
 go_wp2_with fail
 try rw[hW1]
 clear hW1;(with_reducible refine EC.out.mono ?_);rintro e w2 ⟨rfl,k,rfl⟩;have F2:=zH (F1.out.drewN k);have p0':(W1.drewN k).cell? ⟨w.heap.size,0,none⟩=_:=p0;have p1':(W1.drewN k).cell? ⟨w.heap.size,1,none⟩=_:=p1;clear p0 p1 p2 EC;by_cases q1:b=b'
 ·subst q1;have g1:((b:Int)==(b:Int))=true:=by simp
  by_cases q2:bt=bt'
  ·subst q2;have g2:((bt:Int)==(bt:Int))=true:=by simp
   cases R
   ·go_wp2;go_ret;exact⟨by simp,F2.out⟩
   ·go_wp2;go_ret;exact⟨by simp,F2.out⟩
  ·have g2:((bt:Int)==(bt':Int))=false:=by simp;omega
   have e2:decide (bt=bt')=false:=decide_eq_false q2;clear q2;go_wp2;go_ret;exact⟨by simp [e2],F2.out⟩
 ·have g1:((b:Int)==(b':Int))=false:=by simp;omega
  have e1:decide (b=b')=false:=decide_eq_false q1;clear q1;go_wp2;go_ret;exact⟨by simp [e1],F2.out⟩
theorem qQ {K:Nat→Obj→Prop} (w:World) (b bt:Nat) (a:Option Addr) (n c:Nat) (xs:List EV) (hx:RowsAt K w (.slice a n c) 3 encE xs) (hn:n≤1000000):
 Calls Tryz.prog 118 #[vL9 b bt (.slice a n c)] w fun e w'=>e=.returned (.int .u64 (lastTE bt xs:Nat))∧Fr (fun _ _=>True) w w':=by
 have hnl:=hx.len';obtain⟨W1,hW1⟩:=zE (w.alloc (.cells #[.int .u64 (b:Nat),.int .u64 (bt:Nat),.slice a n c] 100 (0,0)));have F1:Hid (Fr (fun _ _=>True) w W1):=hW1▸(Fr.refl _ _).alloc _;have X1:Hid (W1.heap[w.heap.size]? = some (.cells #[.int .u64 (b:Nat),.int .u64 (bt:Nat),.slice a n c] 100 (0,0))):=hW1▸bX w _;have p1:=bQ (i:=1) X1.out rfl;have p2:=bQ (i:=2) X1.out rfl;obtain⟨l,hl⟩:=zE (lastTE bt xs);rw[hl];by_cases h0:n=0
 ·subst h0;have hxs:xs=[]:=List.length_eq_zero_iff.1 hnl.symm;subst hxs;obtain rfl:bt=l:=hl;clear hx hnl;unfold vL9;go_enter Tryz.func118,Tryz.ntmps118
  go_wp2
  try rw[hW1]
  go_ret;exact⟨rfl,hW1▸F1.out⟩
 ·obtain⟨m,hm⟩:∃m,n=m+1:=⟨n-1,by omega⟩
  subst hm;have hlx:m<xs.length:=by omega
  obtain⟨bx,off,_,rfl,_,_,k1⟩:=(hx.tt F1.out).spot (by omega);have u1:=(RowsAt.e3 (K:=fun _ _=>True) k1 m hlx).1
  have hle:xs[m].t=l:=by rw[←hl];unfold lastTE;rw[List.getLast?_eq_getElem?,←hnl,Nat.add_sub_cancel,List.getElem?_eq_getElem hlx];rfl
  rw[hle] at u1;have hmm:IntKind.i64.wrap (((m+1:Nat):Int)-1)=(m:Int):=by rw[IntKind.wrap_i64];omega
  have h00:(((m+1:Nat):Int)==0)=false:=by simp;omega
  have hmI:(m:Int)<((m+1:Nat):Int):=by omega
  generalize hM:m+1=M at *;clear hx hnl hl k1 hle hlx h0;unfold vL9;go_enter Tryz.func118,Tryz.ntmps118
  go_wp2
  try rw[hW1]
  go_ret;exact⟨rfl,hW1▸F1.out⟩
theorem jk:(Value.agg #[.int .u64 0,.int .i64 0,.slice none 0 0]).cells.size=3:=by kernel_rfl
theorem src_ttE {w w':World} {size m:Nat} {x:Value} {xs:List Value} (h:r6 w size x m xs) (hf:Fr (fun _ _=>True) w w'):r6 w' size x m xs:=by
 rcases h with h | ⟨ad,c,h1,h2,h3,h4⟩
 ·exact .inl h
 ·exact .inr ⟨ad,c,h1,h2,fun j u hu=>hf.cell (fun _ _=>trivial) (h3 j u hu),h4⟩
theorem wW (w:World) (ad:Addr) (n cap:Nat) (xs:List Value) (h:r6 w 3 (.slice (some ad) n cap) n xs) (hm:n≤1000000):
 Calls Tryz.prog 107 #[.slice (some ad) n cap] w fun e w'=>(∃v,e=.returned v∧w'.ownsRow w.heap.size 85 3 v n xs)∧Fr (fun _ _=>True) w w':=by
 have hq:=fun(w:World) (a:Option Addr) (n c n' c':Nat)=>Lib.run_eql_slice_nil (P:=Tryz.prog) w 24 85 a n c n' c' Tryz.underlying24
 obtain⟨i0,hi,hz0,hz1,hz2⟩:=info_parts pJ;have hown:(w.alloc (.cells #[] 85)).ownsRow w.heap.size 85 3 (.slice (some ⟨w.heap.size,0,none⟩) 0 0) 0 []:=World.ownsRow_lit w #[] 0 (Nat.le_refl _) (by simp) rfl;have hsrc:=zH (src_ttE h ((Fr.refl _ _).alloc (.cells #[] 85)));clear h;go_enter Tryz.func107,Tryz.ntmps107
 go_wp2_with (at_builtin;refine cz _ rfl _ _ 24 rfl w.heap.size 85 i0 (.agg #[.int .u64 0,.int .i64 0,.slice none 0 0]) 3 40 Tryz.underlying24 hi hz0 hz1 hz2 jk (by decide) _ 0 [] rfl hown _ n xs rfl hsrc.out ?c2 ?c3 ?c4 ?_)
 case c2=>unfold maxLen;omega
 case c3=>omega
 case c4=>simp
 intro v w1 hown1 hg hnil;go_wp2;go_ret;exact⟨⟨v,rfl,by simpa using hown1⟩,(Fr.alloc (Fr.refl _ _) _).grown_new hg fun k e=>by simp [Value.ownBlock] at e;omega⟩
theorem zX (w:World) (n c:Nat):Calls Tryz.prog 107 #[.slice none n c] w fun e w'=>e=.returned (.slice none 0 0)∧w=w':=by
 have hq:=fun(w:World) (a:Option Addr) (n c n' c':Nat)=>Lib.run_eql_slice_nil (P:=Tryz.prog) w 24 85 a n c n' c' Tryz.underlying24
 go_enter Tryz.func107,Tryz.ntmps107
 go_wp2;go_ret;exact⟨rfl,rfl⟩
theorem pY (x:EV):∀u∈encE x,u.oneCell'=true:=fun u hu=>by
 unfold encE at hu;simp only[List.mem_cons,List.not_mem_nil,or_false] at hu;rcases hu with rfl | rfl | rfl <;> rfl
theorem jX:(sizeOf 85).run Tryz.prog=fun w=>.ok 3 w:=by kernel_rfl
abbrev dx (x:Nat):Value:=.int .u64 (x:Nat)
abbrev roT (t:TypeId):Bool:=t==3||t==5||t==85
class Old where
 o:Nat→Prop
class cK [Old]:Prop where
 no:∀c,¬Old.o c
def RO [Old] (X:Nat→Prop) (c:Nat) (o:Obj):Prop:=¬X c∧(Old.o c∨∃cs t fz,o=.cells cs t fz∧roT t=true)
theorem RO.ne [Old] {X:Nat→Prop} {c:Nat} {o:Obj} (h:RO X c o) (hn:¬Old.o c) {cs:Array Value} {t:TypeId} {fz:Nat×Nat} (e:o=.cells cs t fz) (ht:roT t=false):False:=by
 rcases h.2 with h2 | ⟨cs',t',fz',e',h'⟩
 ·exact hn h2
 ·rw[e] at e';cases e';rw[ht] at h';cases h'
theorem RO.ne0 [Old] [cK] {X:Nat→Prop} {c:Nat} {o:Obj} (h:RO X c o) {cs:Array Value} {t:TypeId} {fz:Nat×Nat} (e:o=.cells cs t fz) (ht:roT t=false):False:=h.ne (cK.no c) e ht
structure Aft (X P X' P':Nat→Prop) (w w':World):Prop where
 fr:Fr (fun c _=>¬P c) w w'
 xx:∀c,X' c↔X c∨P' c
 pp:∀c,P c→P' c
 nw:∀c,P' c→P c∨w.heap.size≤c
 hp:∀c,P c→X c
section
variable {X P X' P' X'' P'':Nat→Prop} {w w' w'':World}
theorem Aft.of (h:Fr (fun c _=>¬P c) w w') (hp:∀c,P c→X c):Aft X P X P w w':=⟨h,fun c=>⟨.inl,fun h=>h.elim id (hp c)⟩,fun _ h=>h,fun _ h=>.inl h,hp⟩
theorem Aft.tt (h:Fr (fun _ _=>True) w w') (hp:∀c,P c→X c):Aft X P X P w w':=.of (h.mono fun _ _ _=>trivial) hp
theorem Aft.refl (hp:∀c,P c→X c) (w:World):Aft X P X P w w:=.tt (Fr.refl _ _) hp
theorem Aft.px (h:Aft X P X' P' w w') {c:Nat} (q:P' c):X' c:=(h.xx c).2 (.inr q)
theorem Aft.trans (h:Aft X P X' P' w w') (k:Aft X' P' X'' P'' w' w''):Aft X P X'' P'' w w'':=
 ⟨⟨k.fr.os.trans h.fr.os,k.fr.tape.trans h.fr.tape,k.fr.output.trans h.fr.output,Nat.le_trans h.fr.size k.fr.size,fun c o ho hp=>k.fr.keep c o (h.fr.keep c o ho hp) fun hc=>by
   rcases h.nw c hc with q | q
   ·exact hp q
   ·have:=bZ ho
    omega⟩,
  fun c=>by rw[k.xx,h.xx];exact⟨fun q=>q.elim (fun q=>q.elim .inl fun q=>.inr (k.pp c q)) .inr,fun q=>q.elim (fun q=>.inl (.inl q)) .inr⟩,
  fun c q=>k.pp c (h.pp c q),fun c q=>by
   rcases k.nw c q with q | q
   ·exact h.nw c q
   ·exact .inr (Nat.le_trans h.fr.size q),h.hp⟩
theorem Aft.tr (h:Aft X P X' P' w w') (k:Fr (fun _ _=>True) w' w''):Aft X P X' P' w w'':=h.trans (.tt k fun _ q=>h.px q)
theorem Aft.lead (h:Fr (fun _ _=>True) w w') (k:Aft X P X' P' w' w''):Aft X P X' P' w w'':=(Aft.tt h k.hp).trans k
theorem Aft.off (h:Aft X P X' P' w w') {c:Nat} {o:Obj} (ho:w.heap[c]? = some o) (hx:¬X c):¬P c∧¬X' c:=
 ⟨fun q=>hx (h.hp c q),fun q=>by
  rcases(h.xx c).1 q with q | q
  ·exact hx q
  ·rcases h.nw c q with q | q
   ·exact hx (h.hp c q)
   ·have:=bZ ho;omega⟩
theorem Aft.far (h:Aft X P X' P' w w') {c:Nat} (hc:c<w.heap.size) (hp:¬P c):¬P' c:=fun q=>by
 rcases h.nw c q with q | q
 ·exact hp q
 ·omega
theorem Aft.xo (h:Aft X P X' P' w w') {c:Nat} (q:X c):X' c:=(h.xx c).2 (.inl q)
theorem Aft.ro [Old] (h:Aft X P X' P' w w') {c:Nat} {o:Obj} (ho:w.heap[c]? = some o) (hr:RO X c o):¬P c∧RO X' c o:=⟨(h.off ho hr.1).1,(h.off ho hr.1).2,hr.2⟩
end
theorem BytesAt.fr3 {K K':Nat→Obj→Prop} {w w':World} {v:Value} {bs:List UInt8} (h:BytesAt K w v bs) (hf:Fr K' w w') (hk:∀c o,w.heap[c]? = some o→K c o→K' c o):BytesAt K w' v bs:=by
 obtain⟨a,cap,hv,hl,hn,h⟩:=h;refine⟨a,cap,hv,hl,hn,?_⟩;rcases h with h | ⟨b,off,o,ha,hb,hk',hc⟩
 ·exact .inl h
 ·refine .inr ⟨b,off,o,ha,hf.keep b o hb (hk b o hb hk'),hk',fun i hi=>?_⟩;exact hf.cell (fun o' ho=>by rw[hb] at ho;cases ho;exact hk b _ hb hk') (hc i hi)
theorem NumsAt.mono3 {q:IntKind} {K K':Nat→Obj→Prop} {w:World} {v:Value} {zs:List Int} (h:NumsAt q K w v zs) (hk:∀c o,w.heap[c]? = some o→K c o→K' c o):NumsAt q K' w v zs:=by
 obtain⟨a,cap,hv,h⟩:=h;refine⟨a,cap,hv,?_⟩;rcases h with h | ⟨b,off,o,ha,hb,hkb,hc⟩
 ·exact .inl h
 ·exact .inr ⟨b,off,o,ha,hb,hk _ _ hb hkb,hc⟩
section
variable {X P X' P':Nat→Prop} {w w':World}
theorem BytesAt.aft [Old] {v:Value} {bs:List UInt8} (hb:BytesAt (RO X) w v bs) (h:Aft X P X' P' w w'):BytesAt (RO X') w' v bs:=
 ((hb.mono (K':=fun c o=>¬P c∧RO X' c o) fun c o ho hr=>h.ro ho hr).fr3 (h.fr) fun c o _ q=>q.1).mono fun c o _ q=>q.2
theorem NumsAt.aft [Old] {q:IntKind} {v:Value} {zs:List Int} (hb:NumsAt q (RO X) w v zs) (h:Aft X P X' P' w w'):NumsAt q (RO X') w' v zs:=
 ((hb.mono3 (K':=fun c o=>¬P c∧RO X' c o) fun c o ho hr=>h.ro ho hr).fr h.fr fun c o q=>q.1).mono fun c o q=>q.2
theorem RowsAt.aft [Old] {α:Type} {v:Value} {k:Nat} {enc:α→List Value} {xs:List α} (hb:RowsAt (RO X) w v k enc xs) (h:Aft X P X' P' w w'):RowsAt (RO X') w' v k enc xs:=
 ((hb.mono (K':=fun c o=>¬P c∧RO X' c o) fun c o ho hr=>h.ro ho hr).fr h.fr fun c o _ q=>q.1).mono fun c o _ q=>q.2
end
structure EsAt [Old] (X:Nat→Prop) (w:World) (v:Value) (xs:List EV):Prop where
 row:RowsAt (RO X) w v 3 encE xs
 nz:∀n c,v=.slice none n c→c=0
 dat:∀x∈xs,BytesAt (RO X) w (.slice x.a x.d.length x.c) x.d∧x.d.length≤9223372036854775807
section
variable {X P X' P':Nat→Prop} {w w':World}
theorem EsAt.aft [Old] {v:Value} {xs:List EV} (hb:EsAt X w v xs) (h:Aft X P X' P' w w'):EsAt X' w' v xs:=⟨hb.row.aft h,hb.nz,fun x hx=>⟨(hb.dat x hx).1.aft h,(hb.dat x hx).2⟩⟩
theorem EsAt.tt [Old] {v:Value} {xs:List EV} (hb:EsAt X w v xs) (h:Fr (fun _ _=>True) w w'):EsAt X w' v xs:=⟨hb.row.tt h,hb.nz,fun x hx=>⟨(hb.dat x hx).1.tt h,(hb.dat x hx).2⟩⟩
theorem EsAt.nil [Old] (X:Nat→Prop) (w:World):EsAt X w (.slice none 0 0) []:=⟨RowsAt.nil _ _ _ _,(fun n c e=>by cases e;rfl),(fun x hx=>by cases hx)⟩
end
def A16 (w:World) (b:Nat) (l:List Nat):Prop:=l.length=16∧∃cur,w.heap[b]? = some (.cells cur 23 (0,0))∧∀i,i<16→cur[i]? = some (dx (l.getD i 0))
theorem A16.fr {K:Nat→Obj→Prop} {w w':World} {b:Nat} {l:List Nat} (h:A16 w b l) (hf:Fr K w w') (hk:∀o,w.heap[b]? = some o→K b o):A16 w' b l:=by
 obtain⟨h1,cur,h2,h3⟩:=h;exact⟨h1,cur,hf.keep _ _ h2 (hk _ h2),h3⟩
theorem A16.cell {w:World} {b:Nat} {l:List Nat} (h:A16 w b l) (i:Nat) (hi:i<16):w.cell? ⟨b,i,none⟩=some (dx (l.getD i 0)):=by
 obtain⟨h1,cur,h2,h3⟩:=h;exact bQ h2 (h3 i hi)
theorem A16.free {w:World} {b:Nat} {l:List Nat} (h:A16 w b l) (i:Nat):w.frozen? ⟨b,i,none⟩=false:=by
 obtain⟨h1,cur,h2,h3⟩:=h;exact bJ h2
theorem A16.lt {w:World} {b:Nat} {l:List Nat} (h:A16 w b l):b<w.heap.size:=by
 obtain⟨h1,cur,h2,h3⟩:=h;exact bZ h2
theorem d_ {l:List Nat} {i j y:Nat} (hi:i<l.length):(l.set i y).getD j 0=if i=j then y else l.getD j 0:=by
 rw[List.getD_eq_getElem?_getD,List.getD_eq_getElem?_getD,List.getElem?_set];split
 ·rename_i h;subst h;simp [hi]
 ·rfl
theorem A16.set {w:World} {b:Nat} {l:List Nat} (h:A16 w b l) (i y:Nat) (hi:i<16):A16 (w.setCell ⟨b,i,none⟩ (dx y)) b (l.set i y):=by
 obtain⟨h1,cur,h2,h3⟩:=h;refine⟨by rw[List.length_set,h1],_,bK h2 _,fun j hj=>?_⟩;rw[d_ (by omega),Array.getElem?_setIfInBounds];have hs:i<cur.size:=(Array.getElem?_eq_some_iff.1 (h3 i hi)).1;split
 ·first | rfl | rw[if_pos hs]
 ·exact h3 j hj
theorem A16.nums {w:World} {b c:Nat} {l:List Nat} (h:A16 w b l):NumsAt .u64 (fun k _=>k=b) w (.slice (some ⟨b,0,none⟩) 16 c) (l.map fun(x:Nat)=>(x:Int)):=by
 obtain⟨h1,cur,h2,h3⟩:=h;refine⟨_,c,by rw[List.length_map,h1],.inr ⟨b,0,_,rfl,h2,rfl,fun i hi=>?_⟩⟩;rw[List.length_map,h1] at hi;rw[Nat.zero_add,List.getElem_map];have e:=h3 i hi;rw[List.getD_eq_getElem?_getD,List.getElem?_eq_getElem (by omega)] at e;exact bQ h2 e
structure NV where
 vc:Value
 vy:Value
 ve:Value
 bn:Nat
 cn:Nat
 bm:Nat
 cm:Nat
 es:List EV
 deriving Inhabited
def W14 (n:Nd) (q:NV):Array Value:=#[.int .i64 n.me,.int .i64 n.vote,.int .i64 n.role,.int .i64 n.ld,q.vc,q.vy,dx n.tm,dx n.commit,dx n.log.base,dx n.log.bt,q.ve,.bool n.heard,.slice (some ⟨q.bn,0,none⟩) 16 q.cn,.slice (some ⟨q.bm,0,none⟩) 16 q.cm]
structure PNs [Old] (X P:Nat→Prop) (w:World) (b:Nat) (n:Nd) (q:NV):Prop where
 top:w.heap[b]? = some (.cells (W14 n q) 99 (0,0))
 cf:IntsAt (RO X) w q.vc n.conf
 ye:RowI w 0 q.vy n.yes
 yp:∀c,q.vy.ownBlock=some c→P c
 ev:EsAt X w q.ve q.es
 ee:n.log.es=q.es.map EV.en
 nx:A16 w q.bn n.next
 mt:A16 w q.bm n.mat
 nm:q.bn≠q.bm
 pb:P b
 pn:P q.bn
 pm:P q.bm
 px:∀c,P c→X c
 hx:∀c,X c→c<w.heap.size
 od:∀c,Old.o c→c<b
def PN [Old] (X P:Nat→Prop) (w:World) (b:Nat) (n:Nd):Prop:=∃q,PNs X P w b n q
section
variable {X P X' P' X2 P2:Nat→Prop} {w w':World} {b:Nat} {n n':Nd} {q:NV}
theorem PNs.bn_b [Old] (h:PNs X P w b n q):q.bn≠b:=fun e=>by
 obtain⟨_,cur,h2,_⟩:=h.nx;rw[e,h.top] at h2;cases h2
theorem PNs.bm_b [Old] (h:PNs X P w b n q):q.bm≠b:=fun e=>by
 obtain⟨_,cur,h2,_⟩:=h.mt;rw[e,h.top] at h2;cases h2
theorem PNs.yb [Old] (h:PNs X P w b n q):∀c,q.vy.ownBlock=some c→c≠b∧c≠q.bn∧c≠q.bm:=fun c hc=>by
 obtain⟨cur,h0⟩:=bw h.ye hc;refine⟨fun e=>?_,fun e=>?_,fun e=>?_⟩
 ·rw[e,h.top] at h0;cases h0
 ·obtain⟨_,cur,h2,_⟩:=h.nx;rw[e,h2] at h0;cases h0
 ·obtain⟨_,cur,h2,_⟩:=h.mt;rw[e,h2] at h0;cases h0
theorem PNs.tt [Old] (h:PNs X P w b n q) (hf:Fr (fun _ _=>True) w w'):PNs X P w' b n q:=
 ⟨hf.keep _ _ h.top trivial,h.cf.tt hf,h.ye.tt hf,h.yp,h.ev.tt hf,h.ee,h.nx.fr hf fun _ _=>trivial,h.mt.fr hf fun _ _=>trivial,h.nm,h.pb,h.pn,h.pm,h.px,fun c hc=>Nat.lt_of_lt_of_le (h.hx c hc) hf.size,h.od⟩
theorem PNs.new [Old] (h:PNs X P w b n q) {g:Nat} (hg:w.heap.size≤g):¬Old.o g:=fun e=>by
 have:=h.od g e;have:=bZ h.top;omega
theorem PN.tt [Old] (h:PN X P w b n) (hf:Fr (fun _ _=>True) w w'):PN X P w' b n:=by
 obtain⟨q,h⟩:=h;exact⟨q,h.tt hf⟩
theorem PNs.far [Old] (h:PNs X P w b n q) (k:Aft X P2 X' P' w w') (hd:∀c,P c→¬P2 c) (hx:∀c,X' c→c<w'.heap.size):PNs X' P w' b n q:=
 ⟨k.fr.keep _ _ h.top (hd b h.pb),h.cf.aft k,bY h.ye k.fr fun c o e ho=>hd c (h.yp c e),h.yp,h.ev.aft k,h.ee,h.nx.fr k.fr fun _ _=>hd _ h.pn,h.mt.fr k.fr fun _ _=>hd _ h.pm,h.nm,h.pb,h.pn,h.pm,fun c hc=>k.xo (h.px c hc),hx,h.od⟩
theorem PNs.cells [Old] (h:PNs X P w b n q) (f:Fr (fun _ _=>True) w w'):w'.cell? ⟨b,0,none⟩=some (.int .i64 n.me)∧w'.cell? ⟨b,1,none⟩=some (.int .i64 n.vote)∧w'.cell? ⟨b,2,none⟩=some (.int .i64 n.role)∧w'.cell? ⟨b,3,none⟩=some (.int .i64 n.ld)∧w'.cell? ⟨b,4,none⟩=some q.vc∧w'.cell? ⟨b,5,none⟩=some q.vy∧w'.cell? ⟨b,6,none⟩=some (dx n.tm)∧w'.cell? ⟨b,7,none⟩=some (dx n.commit)∧w'.cell? ⟨b,8,none⟩=some (dx n.log.base)∧w'.cell? ⟨b,9,none⟩=some (dx n.log.bt)∧w'.cell? ⟨b,10,none⟩=some q.ve∧w'.cell? ⟨b,11,none⟩=some (.bool n.heard)∧w'.cell? ⟨b,12,none⟩=some (.slice (some ⟨q.bn,0,none⟩) 16 q.cn)∧w'.cell? ⟨b,13,none⟩=some (.slice (some ⟨q.bm,0,none⟩) 16 q.cm):=by
 have t:=f.keep _ _ h.top trivial;exact⟨bQ t rfl,bQ t rfl,bQ t rfl,bQ t rfl,bQ t rfl,bQ t rfl,bQ t rfl,bQ t rfl,bQ t rfl,bQ t rfl,bQ t rfl,bQ t rfl,bQ t rfl,bQ t rfl⟩
theorem PNs.free [Old] (h:PNs X P w b n q) (f:Fr (fun _ _=>True) w w') (i:Nat):w'.frozen? ⟨b,i,none⟩=false:=bJ (f.keep _ _ h.top trivial)
theorem PNs.re [Old] {q':NV} (h:PNs X P w b n q) (hf:Fr (fun c _=>c≠b) w w') (ht:w'.heap[b]? = some (.cells (W14 n' q') 99 (0,0)))
 (hc:n'.conf=n.conf∧q'.vc=q.vc) (hy:(n'.yes=n.yes∧q'.vy=q.vy)∨(n'.yes=[]∧q'.vy=.slice none 0 0)) (he:n'.log.es=n.log.es∧q'.ve=q.ve∧q'.es=q.es)
 (ha:n'.next=n.next∧n'.mat=n.mat∧q'.bn=q.bn∧q'.bm=q.bm):PNs X P w' b n' q':=by
 have hfx:Fr (fun c o=>¬X c) w w':=hf.mono fun c _ hc e=>hc (e▸h.px b h.pb)
 have aft:Aft X P X P w w':=.of (hf.mono fun c _ hc e=>hc (e▸h.pb)) h.px;refine⟨ht,?_,?_,?_,?_,?_,?_,?_,?_,h.pb,?_,?_,h.px,fun c hc=>Nat.lt_of_lt_of_le (h.hx c hc) hf.size,h.od⟩
 ·rw[hc.1,hc.2];exact h.cf.aft aft
 ·rcases hy with⟨e1,e2⟩ | ⟨e1,e2⟩
  ·rw[e1,e2];exact bY h.ye hf fun c o e ho=>(h.yb c e).1
  ·rw[e1,e2];exact RowI.nil _ _
 ·rcases hy with⟨e1,e2⟩ | ⟨e1,e2⟩
  ·rw[e2];exact h.yp
  ·rw[e2];intro c e;cases e
 ·rw[he.2.1,he.2.2];exact h.ev.aft aft
 ·rw[he.1,he.2.2];exact h.ee
 ·rw[ha.1,ha.2.2.1];exact h.nx.fr hf fun _ _=>h.bn_b
 ·rw[ha.2.1,ha.2.2.2];exact h.mt.fr hf fun _ _=>h.bm_b
 ·rw[ha.2.2.1,ha.2.2.2];exact h.nm
 ·rw[ha.2.2.1];exact h.pn
 ·rw[ha.2.2.2];exact h.pm
theorem PNs.reE [Old] {q':NV} (h:PNs X P w b n q) (hf:Fr (fun c _=>c≠b) w w') (ht:w'.heap[b]? = some (.cells (W14 n' q') 99 (0,0)))
 (hc:n'.conf=n.conf∧q'.vc=q.vc) (hy:(n'.yes=n.yes∧q'.vy=q.vy)∨(n'.yes=[]∧q'.vy=.slice none 0 0)) (he:n'.log.es=q'.es.map EV.en∧EsAt X w q'.ve q'.es)
 (ha:n'.next=n.next∧n'.mat=n.mat∧q'.bn=q.bn∧q'.bm=q.bm):PNs X P w' b n' q':=by
 have aft:Aft X P X P w w':=.of (hf.mono fun c _ hc e=>hc (e▸h.pb)) h.px;refine⟨ht,?_,?_,?_,he.2.aft aft,he.1,?_,?_,?_,h.pb,?_,?_,h.px,fun c hc=>Nat.lt_of_lt_of_le (h.hx c hc) hf.size,h.od⟩
 ·rw[hc.1,hc.2];exact h.cf.aft aft
 ·rcases hy with⟨e1,e2⟩ | ⟨e1,e2⟩
  ·rw[e1,e2];exact bY h.ye hf fun c o e ho=>(h.yb c e).1
  ·rw[e1,e2];exact RowI.nil _ _
 ·rcases hy with⟨e1,e2⟩ | ⟨e1,e2⟩
  ·rw[e2];exact h.yp
  ·rw[e2];intro c e;cases e
 ·rw[ha.1,ha.2.2.1];exact h.nx.fr hf fun _ _=>h.bn_b
 ·rw[ha.2.1,ha.2.2.2];exact h.mt.fr hf fun _ _=>h.bm_b
 ·rw[ha.2.2.1,ha.2.2.2];exact h.nm
 ·rw[ha.2.2.1];exact h.pn
 ·rw[ha.2.2.2];exact h.pm
end
structure MV where
 kind:Int
 src:Int
 dst:Int
 tm:Nat
 index:Nat
 prev:Nat
 commit:Nat
 ok:Bool
 da:Option Addr
 dc:Nat
 d:List UInt8
 ea:Option Addr
 ec:Nat
 es:List EV
 deriving Inhabited
def MV.ms (m:MV):Ms:=⟨m.kind,m.src,m.dst,m.tm,m.index,m.prev,m.commit,m.ok,m.d,m.es.map EV.en⟩
def encM (m:MV):List Value:=[.int .i64 m.kind,.int .i64 m.src,.int .i64 m.dst,dx m.tm,dx m.index,dx m.prev,dx m.commit,.bool m.ok,.slice m.da m.d.length m.dc,.slice m.ea m.es.length m.ec]
theorem Fq (m:MV):(encM m).length=10:=rfl
theorem encM_one (m:MV):∀u∈encM m,u.oneCell'=true:=fun u hu=>by
 unfold encM at hu;simp only[List.mem_cons,List.not_mem_nil,or_false] at hu;rcases hu with rfl | rfl | rfl | rfl | rfl | rfl | rfl | rfl | rfl | rfl <;> rfl
structure MsAt [Old] (X:Nat→Prop) (w:World) (m:MV):Prop where
 dat:BytesAt (RO X) w (.slice m.da m.d.length m.dc) m.d
 es:EsAt X w (.slice m.ea m.es.length m.ec) m.es
section
variable {X P X' P':Nat→Prop} {w w':World} {m:MV}
theorem MsAt.aft [Old] (h:MsAt X w m) (k:Aft X P X' P' w w'):MsAt X' w' m:=⟨h.dat.aft k,h.es.aft k⟩
theorem MsAt.tt [Old] (h:MsAt X w m) (k:Fr (fun _ _=>True) w w'):MsAt X w' m:=⟨h.dat.tt k,h.es.tt k⟩
theorem MsAt.keep [Old] {K:Nat→Obj→Prop} (h:MsAt X w m) (hf:Fr K w w') (hk:∀c o,w.heap[c]? = some o→RO X c o→K c o):MsAt X w' m:=
 ⟨h.dat.fr3 hf hk,h.es.row.fr hf hk,h.es.nz,fun x hx=>⟨(h.es.dat x hx).1.fr3 hf hk,(h.es.dat x hx).2⟩⟩
end
structure OwnMs [Old] (X:Nat→Prop) (B:Nat) (w:World) (v:Value) (ms:List MV):Prop where
 row:w.ownsRow B 32 10 v ms.length (ms.flatMap encM)
 off:∀c,v.ownBlock=some c→¬X c
 at':∀m∈ms,MsAt X w m
theorem OwnMs.nil [Old] (X:Nat→Prop) (B:Nat) (w:World):OwnMs X B w (.slice none 0 0) []:=⟨⟨rfl,.inl ⟨rfl,rfl⟩⟩,(fun c e=>by cases e),(fun m hm=>by cases hm)⟩
theorem OwnMs.tt [Old] {X:Nat→Prop} {B:Nat} {w w':World} {v:Value} {ms:List MV} (h:OwnMs X B w v ms) (hf:Fr (fun _ _=>True) w w'):OwnMs X B w' v ms:=
 ⟨bY h.row hf fun _ _ _ _=>trivial,h.off,fun m hm=>(h.at' m hm).tt hf⟩
theorem OwnMs.aft [Old] {X P X' P':Nat→Prop} {B:Nat} {w w':World} {v:Value} {ms:List MV} (h:OwnMs X B w v ms) (k:Aft X P X' P' w w'):OwnMs X' B w' v ms:=
 ⟨bY h.row k.fr fun c o e ho=>(k.off ho (h.off c e)).1,fun c e=>by
  obtain⟨cur,ho⟩:=bw h.row e
  exact(k.off ho (h.off c e)).2,fun m hm=>(h.at' m hm).aft k⟩
theorem OwnMs.rows [Old] {X:Nat→Prop} {B:Nat} {w:World} {v:Value} {ms:List MV} (h:OwnMs X B w v ms):RowsAt (fun c _=>¬X c) w v 10 encM ms:=by
 refine RowsAt.of_own Fq h.row fun c cs e=>h.off c e
def idxF (p:Int→Bool) (xs:List Int):Int:=match xs.findIdx? p with | some i=>(i:Nat) | none=>-1
theorem idxF_hit {p:Int→Bool} {xs:List Int} {i:Nat} (hi:i<xs.length) (hp:p xs[i]=true) (h:∀j,(hj:j<xs.length)→j<i→p xs[j]=false):idxF p xs=(i:Nat):=by
 have e:xs.findIdx? p=some i:=List.findIdx?_eq_some_iff_getElem.2 ⟨hi,hp,fun j hj=>by rw[h j (by omega) hj];simp⟩;unfold idxF;rw[e]
theorem L8 {p:Int→Bool} {xs:List Int} (h:∀j,(hj:j<xs.length)→p xs[j]=false):idxF p xs=-1:=by
 have e:xs.findIdx? p=none:=List.findIdx?_eq_none_iff.2 fun x hx=>by obtain⟨j,hj,rfl⟩:=List.mem_iff_getElem.1 hx;exact h j hj
 unfold idxF;rw[e]
theorem JX {K:Nat→Obj→Prop} (w:World) (v:Value) (xs:List Int) (g:Nat) (lb:Array Value) (p:Int→Bool) (eg:∀args w,(callFunc g args).run Tryz.prog w=.ok (.enter g args) w) (hrow:IntsAt K w v xs) (hl:xs.length≤1000000)
 (hp:∀W h,Fr (fun _ _=>True) w W→Calls Tryz.prog g (#[.int .i64 h]++lb) W fun e w'=>e=.returned (.bool (p h))∧Fr (fun _ _=>True) W w'):
 Calls Tryz.prog 109 #[v,.func (.func g) #[] lb] w fun e w'=>e=.returned (.int .i64 (idxF p xs))∧Fr (fun _ _=>True) w w':=by
 obtain⟨a,cp,rfl⟩:=hrow.form;have HR:=zH hrow;have HP:=zH hp;have HIT:=zH (fun i hi hp h=>@idxF_hit p xs i hi hp h);have NONE:=zH (@L8 p xs);clear hrow hp;obtain⟨z,hz⟩:=zE (idxF p xs);rw[hz] at HIT NONE ⊢;clear hz;go_enter Tryz.func109,Tryz.ntmps109
 go_wp2;go_loopw [8] (fun v8 wr=>∃i:Nat,v8=.int .i64 i∧i≤xs.length∧Hid (∀j,(hj:j<xs.length)→j<i→p xs[j]=false)∧Hid (Fr (fun _ _=>True) w wr)) (fun v8 _=>xs.length-(intOf v8).toNat)
 case atStart=>exact⟨0,rfl,Nat.zero_le _,fun j _ h=>(by omega),Fr.refl _ _⟩
 case round=>
  obtain⟨i,rfl,hi,HN,HF⟩:=hrel;by_cases hlt:i<xs.length
  ·have hltI:(i:Int)<xs.length:=by omega
   obtain⟨b,off,rfl⟩:=HR.out.addr (by omega);have k0:=(HR.out.tt HF.out).cell hlt;obtain⟨x,hx⟩:=zE (xs[i]);rw[hx] at k0;have HX:=zH hx;have PC:=zH (HP.out wr x HF.out);clear hx;cases hq:p x with
   | true=>
    rw[hq] at PC;have HQ:=zH hq;clear hq;go_wp2_with fail
    (with_reducible refine PC.out.mono ?_);rintro e w' ⟨rfl,f'⟩;have F':=zH (HF.out.trans f');clear f' PC;go_wp2;go_ret;refine⟨?_,F'.out⟩;have:=HIT.out i hlt (by rw[HX.out];exact HQ.out) HN.out;rw[this];rfl
   | false=>
    rw[hq] at PC;have HQ:=zH hq;clear hq;go_wp2_with fail
    (with_reducible refine PC.out.mono ?_);rintro e w' ⟨rfl,f'⟩;have F':=zH (HF.out.trans f');clear f' PC;go_wp2;go_roundw
    case rel=>exact⟨i+1,by go_num,hlt,fun j hj hji=>by
     by_cases e:j=i
     ·subst e;rw[HX.out];exact HQ.out
     ·exact HN.out j hj (by omega),F'.out⟩
    case measure=>simp [intOf];omega
  ·have hge:(xs.length:Int)≤i:=by omega
   go_wp2;go_ret;refine⟨?_,HF.out⟩;rw[NONE.out fun j hj=>HN.out j hj (by omega)];rfl
def zv (p:Int→Bool) (xs:List Int):List Int:=xs.filter fun h=>!p h
theorem yX (p:Int→Bool) (xs:List Int) (j:Nat) (hj:j<xs.length):zv p (xs.take (j+1))=if p xs[j]=true then zv p (xs.take j) else zv p (xs.take j)++[xs[j]]:=by
 unfold zv;rw[List.take_succ_eq_append_getElem hj,List.filter_append];by_cases h:p xs[j]=true
 ·rw[if_pos h];simp [h]
 ·rw[if_neg h];simp [h]
theorem J6 (w:World) (B g n cap:Nat) (xs:List Int) (fn:Nat) (lb:Array Value) (p:Int→Bool) (eg:∀args w,(callFunc fn args).run Tryz.prog w=.ok (.enter fn args) w) (hx:xs.length=n) (h:RowI w B (.slice (some ⟨g,0,none⟩) n cap) xs) (hn:n≤1000000)
 (hp:∀W h,Fr (fun c _=>c≠g) w W→Calls Tryz.prog fn (#[.int .i64 h]++lb) W fun e w'=>e=.returned (.bool (p h))∧Fr (fun _ _=>True) W w'):
 Calls Tryz.prog 72 #[.slice (some ⟨g,0,none⟩) n cap,.func (.func fn) #[] lb] w fun e w'=>(∃m,e=.returned (.slice (some ⟨g,0,none⟩) m cap)∧m=(zv p xs).length∧RowI w' B (.slice (some ⟨g,0,none⟩) m cap) (zv p xs))∧Fr (fun c _=>c≠g) w w':=by
 subst hx;have IX:=zH (JX (K:=fun b _=>B≤b) w (.slice (some ⟨g,0,none⟩) xs.length cap) xs fn lb p eg h.ints hn (fun W h f=>hp W h (f.mono fun _ _ _=>trivial)));have HP:=zH hp;have H0:Hid (w.ownsRow B 3 1 (.slice (some ⟨g,0,none⟩) xs.length cap) xs.length (xs.map zw)):=h;obtain⟨hnc,hcm⟩:=own_cap h;clear h hp;obtain⟨n,hX⟩:=zE xs.length;rw[hX] at IX H0 hn hnc ⊢;have HX:=zH hX;clear hX;cases hi:xs.findIdx? p with
 | none=>
  have hz:idxF p xs=-1:=by unfold idxF;rw[hi]
  have hk:zv p xs=xs:=by unfold zv;rw[List.filter_eq_self];intro a ha;have:=List.findIdx?_eq_none_iff.1 hi a ha;simpa using this
  rw[hz] at IX;rw[hk];clear hz hk hi;go_enter Tryz.func72,Tryz.ntmps72
  go_wp2_with fail
  (with_reducible refine IX.out.mono ?_);rintro e w1 ⟨rfl,f1⟩;have F1:=zH f1;clear f1 IX;go_wp2;go_ret;refine⟨⟨n,rfl,HX.out.symm,?_⟩,F1.out.mono fun _ _ _=>trivial⟩;show World.ownsRow _ _ _ _ _ _ _;rw[HX.out];exact bY H0.out F1.out (fun _ _ _ _=>trivial)
 | some k=>
  have hz:idxF p xs=(k:Nat):=by unfold idxF;rw[hi]
  rw[hz] at IX;obtain⟨hkl,hkp,hkb⟩:=List.findIdx?_eq_some_iff_getElem.1 hi;have hkn:k<n:=by have:=HX.out;omega
  have hk0:zv p (xs.take (k+1))=xs.take k:=by rw[yX p xs k hkl,if_pos hkp];unfold zv;rw[List.filter_eq_self];intro a ha;obtain⟨q,hq,rfl⟩:=List.mem_iff_getElem.1 ha;rw[List.length_take] at hq;rw[List.getElem_take];have:=hkb q (by omega);simpa using this
  have HK0:=zH hk0;have w1i:IntKind.i64.wrap ((k:Int)+1)=((k+1:Nat):Int):=by rw[IntKind.wrap_i64];omega
  have hkm:((k:Int)==-1)=false:=by simp
  clear hz hi hkp hkb hkl hk0;go_enter Tryz.func72,Tryz.ntmps72
  go_wp2_with fail
  (with_reducible refine IX.out.mono ?_);rintro e w1 ⟨rfl,f1⟩;have F1:=zH f1;clear f1 IX;go_wp2;go_loopw [5,6] (fun v5 v6 wr=>∃(i j:Nat) (Y:List Int),v5=.int .i64 i∧v6=.int .i64 j∧i<j∧j≤n∧Y.length=n∧Hid (Y.take i=zv p (xs.take j))∧Hid (Y.drop j=xs.drop j)∧Hid (wr.ownsRow B 3 1 (.slice (some ⟨g,0,none⟩) n cap) n (Y.map zw))∧Hid (Fr (fun c _=>c≠g) w wr)) (fun _ v6 _=>n-(intOf v6).toNat)
  case atStart=>exact⟨k,k+1,xs,rfl,rfl,by first | done | exact Nat.lt_succ_self k,hkn,HX.out,HK0.out.symm,rfl,bY H0.out F1.out (fun _ _ _ _=>trivial),F1.out.mono fun _ _ _=>trivial⟩
  case round=>
   obtain⟨i,j,Y,rfl,rfl,hij,hjn,hYl,HT,HD,HO,HF⟩:=hrel;have HYL:=zH hYl;by_cases hlt:j<n
   ·have hltI:(j:Int)<n:=by omega
    have hxj:j<xs.length:=by have:=HX.out;omega
    obtain⟨x,hx⟩:=zE (xs[j])
    have hYj:Y[j]'(by omega)=x:=by
     have h1:(Y.drop j)[0]? = (xs.drop j)[0]?:=by rw[HD.out]
     rw[List.getElem?_drop,List.getElem?_drop,Nat.add_zero,List.getElem?_eq_getElem (by omega),List.getElem?_eq_getElem hxj] at h1;rw[←hx];exact Option.some.inj h1
    have ej:=j6 HO.out j (by omega)
    have k0:wr.cell? ⟨g,j,none⟩=some (.int .i64 x):=by rw[ej.1,List.getElem?_map,List.getElem?_eq_getElem (by omega),Option.map_some,hYj];rfl
    have KS:=zH (yX p xs j hxj);rw[hx] at KS;have PC:=zH (HP.out wr x HF.out);have hin:(i:Int)<n:=by omega
    have iw:IntKind.i64.wrap ((i:Int)+1)=((i+1:Nat):Int):=by rw[IntKind.wrap_i64];omega
    have jw:IntKind.i64.wrap ((j:Int)+1)=((j+1:Nat):Int):=by rw[IntKind.wrap_i64];omega
    clear hx ej hYj hYl;cases hq:p x with
    | true=>
     rw[hq] at PC;have HQ:=zH hq;clear hq;go_wp2_with fail
     (with_reducible refine PC.out.mono ?_);rintro e w' ⟨rfl,f'⟩;have F2:=zH f';clear f' PC;go_wp2;go_roundw
     case rel=>
      refine⟨i,j+1,Y,rfl,by go_num,by omega,by omega,HYL.out,?_,?_,bY HO.out F2.out (fun _ _ _ _=>trivial),HF.out.trans (F2.out.mono fun _ _ _=>trivial)⟩
      ·show _=_;rw[KS.out,if_pos HQ.out];exact HT.out
      ·show _=_;rw[←List.drop_drop,←List.drop_drop,HD.out]
     case measure=>simp [intOf];omega
    | false=>
     rw[hq] at PC;have HQ:=zH hq;clear hq;go_wp2_with fail
     (with_reducible refine PC.out.mono ?_);rintro e w' ⟨rfl,f'⟩;have F':=zH (HF.out.trans (f'.mono fun _ _ _=>trivial));have O':=zH (bY HO.out f' (fun _ _ _ _=>trivial));have ei:=j6 O'.out i (by omega);obtain⟨ec,es,ef⟩:=ei;obtain⟨uo,huo⟩:=Option.isSome_iff_exists.1 es;clear f' PC ec es k0;obtain⟨W4,hW4⟩:=zE (w'.setCell ⟨g,i,none⟩ (.int .i64 x))
     have O4:Hid (W4.ownsRow B 3 1 (.slice (some ⟨g,0,none⟩) n cap) n ((Y.set i x).map zw)):=by rw[←hW4,List.map_set];exact B5 O'.out i (.int .i64 x)
     have F4:Hid (Fr (fun c _=>c≠g) w W4):=by rw[←hW4];exact F'.out.setCell (fun _ _ hk=>hk rfl) _
     go_wp2
     try rw[hW4]
     go_roundw
     case rel=>
      refine⟨i+1,j+1,Y.set i x,by go_num,by go_num,by omega,by omega,by rw[List.length_set];exact HYL.out,?_,?_,O4.out,F4.out⟩
      ·show _=_;have:=HYL.out;rw[KS.out,if_neg (by rw[HQ.out];decide),List.take_set,List.take_add_one,List.getElem?_eq_getElem (by omega),Option.toList_some,←HT.out,List.set_append_right _ _ (by rw[List.length_take];omega),List.length_take,Nat.min_eq_left (by omega),Nat.sub_self];rfl
      ·show _=_;rw[List.drop_set_of_lt (by omega),←List.drop_drop,←List.drop_drop,HD.out]
     case measure=>simp [intOf];omega
   ·have hge:(n:Int)≤j:=by omega
    have hin:i<n:=by omega
    have hjn':j=n:=by omega
    subst hjn'
    have HL:Hid (i=(zv p xs).length):=by have h1:=congrArg List.length HT.out;rw[List.length_take,List.take_of_length_le (by have:=HX.out;omega)] at h1;show _=_;omega
    have HT2:Hid ((Y.map zw).take i=(zv p xs).map zw):=by show _=_;rw[←List.map_take,HT.out,List.take_of_length_le (by have:=HX.out;omega)]
    obtain⟨Z,hZ⟩:∃Z,Z=(Builtin.zeroCells (Value.cells (.int .i64 0)) (j-i)).toList:=⟨_,rfl⟩
    have hZl:Z.length=(j-i)*1:=by rw[hZ,Array.length_toList,size_zeroCells];rfl
    have hZ1:∀u∈Z,u.oneCell'=true:=by
     rw[hZ];intro u hu;simp only[Builtin.zeroCells,Array.toList_map,List.mem_map] at hu;obtain⟨k,_,rfl⟩:=hu;have hall:∀q,q<1→((Value.cells (.int .i64 0))[q]!).oneCell'=true:=by decide
     exact hall _ (Nat.mod_lt _ (by decide))
    have OS:Hid ((wr.setCells g i Z).ownsRow B 3 1 (.slice (some ⟨g,0,none⟩) i cap) i ((zv p xs).map zw)):=by have:=B4 HO.out i j (by omega) (Nat.le_refl _) Z hZl;rw[List.drop_of_length_le (by rw[List.length_map];omega),Nat.sub_self,Nat.add_zero,List.append_nil,Nat.mul_one,HT2.out] at this;exact this
    have FS:Hid (Fr (fun c _=>c≠g) w (wr.setCells g i Z)):=HF.out.setCells (fun _ _ hk=>hk rfl) _ _
    have hcl:∀ty,(Builtin.clear_ #[22] ty #[.slice (some ⟨g,i,none⟩) (j-i) (cap-i)]).run Tryz.prog wr=.ok (.tuple #[]) (wr.setCells g i Z):=fun ty=>by
     rw[hZ];refine tv wr _ _ ty (.int .i64 0) Tryz.underlying22 Tryz.zeroValue3 g _ _ _ (by omega) (by rw[←hZ];exact hZ1) (fun q hq=>?_) (fun q hq=>?_)
     ·rw[←hZ,hZl] at hq;exact(j6 HO.out _ (by omega)).2.1
     ·rw[←hZ,hZl] at hq;exact(j6 HO.out _ (by omega)).2.2
    have hic:i≤cap:=by omega
    have hjc:j≤cap:=by omega
    clear hZ hZl hZ1;go_wp2;go_ret;refine⟨⟨i,rfl,HL.out,?_⟩,FS.out⟩;show World.ownsRow _ _ _ _ _ _ _;rw[←HL.out];exact OS.out
end Go.Proofs.YtmjccpfchhnfhaaGreat
