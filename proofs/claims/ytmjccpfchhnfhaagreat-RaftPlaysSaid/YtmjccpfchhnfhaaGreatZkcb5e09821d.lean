/- Texts of the proofs, part 18: what the functions that they reach do, walked; no conditions beyond those that each states. -/
import Derived.RangeFuncNested
import Derived.RangeFuncBound
import Derived.RangeFuncCalls
import Derived.RangeFuncLeaves
import Derived.Test.YtmjccpfchhnfhaaGreatZkc3329a6c2b
set_option linter.unusedVariables false
set_option linter.unusedSimpArgs false
set_option maxRecDepth 100000
set_option maxHeartbeats 8000000
namespace Go.Proofs.YtmjccpfchhnfhaaGreat
open Go.RowKit
def KC (_:Nat) (o:Obj):Prop:=o.isCells=true
theorem Fr.putLoop {w:World} {l:Nat} {o:Obj} (h:w.heap[l]? = some o) (ho:o.isCells=false) (x:Obj):Fr KC w (w.putObj l x):=
 (Fr.refl _ _).putObj (fun o' h' hk=>by rw[h] at h';cases h';rw[KC,ho] at hk;cases hk) x
theorem n8 (w:World) (l:Nat) (o:Obj):(w.putObj l o).heap.size=w.heap.size:=by simp [World.putObj]
def SeqX {α:Type} (F:Fence) (n:Nat) (P:Program) (g:Nat) (lb:Array Value) (encs:α→Array Value) (T:List α→α→World→Prop) (B:Nat→Prop) (S:List α→Prop) (w:World):Prop:=
 ∀(l:Nat) (J Jx:List α→World→Prop) (W:World),FT w W→(∀pre A A',J pre A→FT A A'→J pre A')→
  (∀pre x W1,J pre W1→T pre x W1→YieldAt F (n-1) P l (encs x) W1 fun e W'=>(e=.returned (.bool true)∧J (pre++[x]) W'∧Fr (fun c _=>B c) W1 W')∨(e=.returned (.bool false)∧Jx (pre++[x]) W'))→
  J [] W→CallsIn F n P g (#[.func (.yield l) #[] #[]]++lb) W fun e W'=>(∃v,e=.returned v)∧((∃xs,S xs∧J xs W')∨∃pre,Jx pre W')
def yy {α:Type} (lab:Nat) (B:Nat→Prop) (I Ix:List α→World→Prop) (xs:List α) (W:World):Exit→Act→World→Prop
 | .normal,_,W'=>Fr (fun c _=>B c) W W'∧I xs W'
 | .exit id,_,W'=>id=lab∧Fr (fun c _=>B c) W W'∧Ix xs W'
 | _,_,_=>False
theorem CJ {F:Fence} {n:Nat} {P:Program} {α:Type} {g:Operand} {ps:Array Tmp} {assign body:Code} {Q:Exit→Act→World→Prop} {a:Act} {w:World}
  (lab:Nat) (hro:F.round=none) (h1:1≤n) {gf:Nat} {lb:Array Value} (hg:a.eval g=.func (.func gf) #[] lb) (hFg:F.fn gf) (eg:∀args w,(callFunc gf args).run P w=.ok (.enter gf args) w)
  {encs:α→Array Value} {T:List α→α→World→Prop} {B:Nat→Prop} {S:List α→Prop} (hseq:SeqX F (n-1) P gf lb encs T B S w) (hB0:B w.heap.size) (hB1:B (w.heap.size+1))
  (hps:∀x,(encs x).size=ps.size)
  (I Ix:List α→World→Prop) (hI:∀xs A A',I xs A→Fr KC A A'→I xs A') (hIx:∀xs A A',Ix xs A→Fr KC A A'→Ix xs A') (h0:I [] w) (Ax:α→World→Act→World→Prop)
  (hassign:∀(l:Nat) (x:α) (W:World) (K:Act→World→Prop),(∀a' W',Ax x W a' W'→FT W W'→K a' W')→
   assign.wpIn (F.inRound l) (n-1-1) P (Exit.then K (fun _ _ _=>False)) { tmps:=(ps.zip (encs x)).foldl (fun t (p,v)=>t.setIfInBounds p v) a.tmps,defers:=[] } W)
  (hbody:∀(l:Nat) (pre:List α) (x:α) (W:World) (a':Act) (W' Wb:World),w.heap.size+2≤W.heap.size→Fr (fun c _=>B c) w W→I pre W→T pre x W→Ax x W a' W'→FT W W'→Fr KC W' Wb→body.wpIn (F.inRound l) (n-1-1) P (yy lab B I Ix (pre++[x]) Wb) a' Wb)
  (hdone:∀(D:Nat) (xs:List α) (W:World),w.heap.size≤D→D≤w.heap.size→S xs→I xs W→W.heap[D]? = some (.deferred (some []))→Fr (fun c _=>B c) w W→Q .normal { a with defers:={ target:=.collected D,args:=#[] } :: a.defers } W)
  (hstop:∀(D:Nat) (xs:List α) (W:World),w.heap.size≤D→D≤w.heap.size→Ix xs W→W.heap[D]? = some (.deferred (some []))→Fr (fun c _=>B c) w W→(Code.exit lab).wpIn F n P Q { a with defers:={ target:=.collected D,args:=#[] } :: a.defers } W):
  (Code.rangeFunc g ps assign body).wpIn F n P Q a w:=by
 refine wpIn_rangeFunc ?_
 intro fn hfn
 rw[hro]
 obtain⟨rec,hrec⟩:∃rec:LoopState→Option Code→Loop,rec=fun st pe=>{ state:=st,pending:=pe,fn,tmps:=a.tmps,params:=ps,assign,body,defers:=w.heap.size }:=⟨_,rfl⟩
 obtain⟨W1,hW1⟩:=zE ((w.alloc (.deferred (some []))).alloc (.loop (rec .ready none)))
 have hF1:FT w W1:=by rw[←hW1];exact((Fr.refl _ _).alloc _).alloc _
 have hL1:W1.heap[w.heap.size+1]? = some (.loop (rec .ready none)):=by
  rw[←hW1];have:=World.alloc_heap_new (w.alloc (.deferred (some []))) (.loop (rec .ready none));rwa [World.size_alloc] at this
 have hK1:W1.heap[w.heap.size]? = some (.deferred (some [])):=by
  rw[←hW1];exact(Below.heap_alloc _ _ _ (by simp)).trans (World.alloc_heap_new w _)
 refine⟨w.heap.size+1,[{ target:=.collected w.heap.size,args:=#[] }],W1,{ target:=.fn (.func gf) lb,args:=#[.func (.yield (w.heap.size+1)) #[] #[]] },W1,gf,
  #[.func (.yield (w.heap.size+1)) #[] #[]]++lb,W1,?_,?_,?_,?_,fun _=>h1,?_⟩
 ·rw[←hW1,hrec];exact run_enterLoop_outer _ _ _ _ _
 ·simp only[resolve,hg]
  simp [go_sem]
 ·intro f' hf';simp [Target.leads] at hf';subst hf';exact hFg
 ·simp [invoke,go_sem,eg]
 ·refine(hseq (w.heap.size+1)
   (fun pre W=>I pre W∧W.heap[w.heap.size+1]? = some (.loop (rec .ready none))∧W.heap[w.heap.size]? = some (.deferred (some []))∧Fr (fun c _=>B c) w W)
   (fun pre W=>Ix pre W∧W.heap[w.heap.size+1]? = some (.loop (rec .done (some (.exit lab))))∧W.heap[w.heap.size]? = some (.deferred (some []))∧Fr (fun c _=>B c) w W)
   W1 hF1 (fun pre A A' hj hf=>⟨hI _ _ _ hj.1 (hf.tT),hf.keep _ _ hj.2.1 trivial,hf.keep _ _ hj.2.2.1 trivial,hj.2.2.2.trans (hf.tT)⟩)
   ?_ ⟨hI _ _ _ h0 (hF1.tT),hL1,hK1,hF1.tT⟩).mono ?_
  ·rintro pre x W ⟨hi,hl,hk,hfw⟩ ht
   have hy:=run_yield (P:=P) (args:=encs x) hl (by rw[hrec];exact hps x)
   rw[hrec] at hy
   refine⟨fn,_,assign,body,hy,roundIn_of_wpIn hfn (hassign _ x W _ ?_)⟩
   intro a' Wa hax hfa
   have hla:=hfa.keep _ _ hl trivial
   have hka:=hfa.keep _ _ hk trivial
   have hlt:w.heap.size+1<Wa.heap.size:=bX hla
   refine⟨_,run_beginRound hla (by rw[hrec]),?_⟩
   have hl2:(Wa.putObj (w.heap.size+1) (.loop { rec .ready none with state:=.busy })).heap[w.heap.size+1]? = some (.loop { rec .ready none with state:=.busy }):=World.putObj_heap_same hlt
   have hk2:(Wa.putObj (w.heap.size+1) (.loop { rec .ready none with state:=.busy })).heap[w.heap.size]? = some (.deferred (some [])):=(World.putObj_heap_other (by omega)).trans hka
   have hc2:Fr KC Wa (Wa.putObj (w.heap.size+1) (.loop { rec .ready none with state:=.busy })):=Fr.putLoop hla rfl _
   refine wpIn_mono (hbody _ pre x W a' Wa _ (by have:=bX hl;omega) hfw hi ht hax hfa hc2) ?_
   have fin:∀(jump:Option Code) (W3:World),Fr (fun c _=>B c) (Wa.putObj (w.heap.size+1) (.loop { rec .ready none with state:=.busy })) W3→
     (Instr.endRound (w.heap.size+1) jump).run P W3=.ok (.bool jump.isNone) (W3.putObj (w.heap.size+1) (.loop (rec (if jump.isNone then .ready else .done) jump)))∧
     W3.heap[w.heap.size+1]? = some (.loop { rec .ready none with state:=.busy })∧
     (W3.putObj (w.heap.size+1) (.loop (rec (if jump.isNone then .ready else .done) jump))).heap[w.heap.size+1]? = some (.loop (rec (if jump.isNone then .ready else .done) jump))∧
     (W3.putObj (w.heap.size+1) (.loop (rec (if jump.isNone then .ready else .done) jump))).heap[w.heap.size]? = some (.deferred (some []))∧
     Fr (fun c _=>B c∧c≠w.heap.size+1) W (W3.putObj (w.heap.size+1) (.loop (rec (if jump.isNone then .ready else .done) jump))):=fun jump W3 hf3=>by
    have hl3:=hf3.keep _ _ hl2 hB1
    have hk3:=hf3.keep _ _ hk2 hB0
    have he:=run_endRound (P:=P) jump hl3
    rw[hrec] at he hl3 ⊢
    refine⟨he,hl3,World.putObj_heap_same (bX hl3),(World.putObj_heap_other (by omega)).trans hk3,hf3.os.trans hfa.os,hf3.tape.trans hfa.tape,hf3.output.trans hfa.output,?_,fun b o hb hBb=>?_⟩
    ·rw[n8]
     have q1:=hfa.size
     have q2:=hf3.size
     rw[n8] at q2
     omega
    ·rw[World.putObj_heap_other hBb.2]
     refine hf3.keep b o ?_ hBb.1
     rw[World.putObj_heap_other hBb.2]
     exact hfa.keep b o hb trivial
   rintro e a3 W3 hp
   cases e with
   | normal=>
    obtain⟨hf3,hi3⟩:=hp
    obtain⟨hr,hl3,hl4,hk4,hf4⟩:=fin none W3 hf3
    have hfr:Fr (fun c _=>B c) W (W3.putObj (w.heap.size+1) (.loop (rec .ready none))):=⟨hf4.os,hf4.tape,hf4.output,hf4.size,fun b o hb hBb=>by
     by_cases hbl:b=w.heap.size+1
     ·subst hbl
      rw[hl] at hb
      rw[←hb];exact hl4
     ·exact hf4.keep b o hb ⟨hBb,hbl⟩⟩
    exact⟨_,_,hr,.inl ⟨rfl,⟨hI _ _ _ hi3 (Fr.putLoop hl3 rfl _),hl4,hk4,hfw.trans hfr⟩,hfr⟩⟩
   | ret=>exact hp.elim
   | exit id=>
    obtain⟨hid,hf3,hi3⟩:=hp
    obtain rfl:lab=id:=hid.symm
    obtain⟨hr,hl3,hl4,hk4,hf4⟩:=fin (some (.exit lab)) W3 hf3
    refine⟨_,_,hr,.inr ⟨rfl,hIx _ _ _ hi3 (Fr.putLoop hl3 rfl _),hl4,hk4,?_⟩⟩
    refine⟨hf4.os.trans hfw.os,hf4.tape.trans hfw.tape,hf4.output.trans hfw.output,Nat.le_trans hfw.size hf4.size,fun b o hb hBb=>?_⟩
    have:=bX hb
    exact hf4.keep b o (hfw.keep b o hb hBb) ⟨hBb,by omega⟩
   | goto t=>exact hp.elim
   | panic ch=>exact hp.elim
   | outgrown=>exact hp.elim
  ·rintro e W2 ⟨⟨v,rfl⟩,(⟨xs,hs,hi,hl,hk,hfw⟩ | ⟨xs,hi,hl,hk,hfw⟩)⟩
   ·have hq:Fr KC W2 (W2.putObj (w.heap.size+1) (.loop { rec .ready none with state:=.exhausted })):=Fr.putLoop hl rfl _
    refine⟨none,_,by have:=run_endLoop (P:=P) hl (by rw[hrec];simp);rw[hrec] at this;exact this,?_⟩
    refine hdone _ xs _ (Nat.le_refl _) (Nat.le_refl _) hs ?_ ((World.putObj_heap_other (by omega)).trans hk) ?_
    ·rw[hrec] at hq;exact hI _ _ _ hi hq
    ·exact hfw.putObj (fun o ho=>absurd (bX ho) (by omega)) _
   ·have hq:Fr KC W2 (W2.putObj (w.heap.size+1) (.loop { rec .done (some (.exit lab)) with state:=.exhausted })):=Fr.putLoop hl rfl _
    refine⟨some (.exit lab),_,by have:=run_endLoop (P:=P) hl (by rw[hrec];simp);rw[hrec] at this;exact this,?_⟩
    refine hstop _ xs _ (Nat.le_refl _) (Nat.le_refl _) ?_ ((World.putObj_heap_other (by omega)).trans hk) ?_
    ·rw[hrec] at hq;exact hIx _ _ _ hi hq
    ·exact hfw.putObj (fun o ho=>absurd (bX ho) (by omega)) _
end Go.Proofs.YtmjccpfchhnfhaaGreat
