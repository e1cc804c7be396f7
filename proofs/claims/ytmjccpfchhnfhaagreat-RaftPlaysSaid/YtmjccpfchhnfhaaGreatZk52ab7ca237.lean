/- Texts of the proofs, part 11: what the functions that they reach do, walked; no conditions beyond those that each states. -/
import Derived.Test.YtmjccpfchhnfhaaGreatZkd466910b57
set_option linter.unusedVariables false
set_option linter.unusedSimpArgs false
set_option maxRecDepth 100000
set_option maxHeartbeats 8000000
namespace Go.Proofs.YtmjccpfchhnfhaaGreat
open Go.RowKit
theorem k6T {p q:Prop} (k:q) (h:q→p:=by
 have hn:IntKind.u64.wrap (n:Int)=n:=by rw[IntKind.wrap_u64];omega
 have hs:IntKind.u64.wrap ((b:Int)+n)=((b+n:Nat):Int):=by rw[IntKind.wrap_u64];omega
 intro kk0;revert hs;revert hn;exact kk0):p:=h k
theorem kJF {p q:Prop} (k:q) (h:q→p:=by
 have p0:=bQ (i:=0) TZ rfl;have p1:=bQ (i:=1) TZ rfl;have p2:=bQ (i:=2) TZ rfl;have FZH:=zH FZ;intro kk0;revert FZH;revert p2;revert p1;revert p0;exact kk0):p:=h k
theorem kOo {p q:Prop} (k:q) (h:q→p:=by
 obtain⟨W2,hW2⟩:=zE (W1.alloc (.cells #[.int .u64 0,.int .i64 0,.slice none 0 0] 85 (0,0)));have F2:Hid (FT W1 W2):=hW2▸(Fr.refl _ _).alloc _;have X2:Hid (W2.heap[W1.heap.size]? = some (.cells #[.int .u64 0,.int .i64 0,.slice none 0 0] 85 (0,0))):=hW2▸bZ W1 _;intro kk0;revert X2;revert F2;revert hW2;revert W2;exact kk0):p:=h k
theorem kZl {p q:Prop} (k:q) (h:q→p:=by
 obtain⟨W1,hW1⟩:=zE (w.alloc (.cells #[.int .u64 (b:Nat),.int .u64 (bt:Nat),.slice a n c] 26 (0,0)));have F1:Hid (FT w W1):=hW1▸(Fr.refl _ _).alloc _;have X1:Hid (W1.heap[w.heap.size]? = some (.cells #[.int .u64 (b:Nat),.int .u64 (bt:Nat),.slice a n c] 26 (0,0))):=hW1▸bZ w _;intro kk0;revert X1;revert F1;revert hW1;revert W1;exact kk0):p:=h k
theorem kat {p q:Prop} (k:q) (h:q→p:=by
 have XL:Hid (W2.heap[w.heap.size]? = some (.cells #[.int .u64 (b:Nat),.int .u64 (bt:Nat),.slice a n c] 26 (0,0))):=F2.keep _ _ X1 trivial;have x0:=bQ (i:=0) XL rfl;have x1:=bQ (i:=1) XL rfl;have x2:=bQ (i:=2) XL rfl;have HCL:=zH (sK W2 b bt i a n c h);intro kk0;revert HCL;revert x2;revert x1;revert x0;revert XL;exact kk0):p:=h k
theorem krf {p q:Prop} (k:q) (h:q→p:=by
 have F3:=zH (FW.trans f3);have X3:Hid (w3.heap[W1.heap.size]? = some (.cells #[.int .u64 0,.int .i64 0,.slice none 0 0] 85 (0,0))):=f3.keep _ _ X2 trivial;have x0:=bQ (i:=0) (f3.keep _ _ XL trivial) rfl;have x2:=bQ (i:=2) (f3.keep _ _ XL trivial) rfl;have q0:=bQ (i:=0) X3 rfl;have q1:=bQ (i:=1) X3 rfl;have q2:=bQ (i:=2) X3 rfl;have y0:=bV (i:=0) X3;have y1:=bV (i:=1) X3;have y2:=bV (i:=2) X3;intro kk0;revert y2;revert y1;revert y0;revert q2;revert q1;revert q0;revert x2;revert x0;revert X3;revert F3;exact kk0):p:=h k
theorem m5C {p:Prop} (h:p:=by
 rw[e];clear h h0 e;go_enter Tryz.func106,Tryz.ntmps106
 go_wp2_with fail
 try rw[hW1]
 (with_reducible refine LC.out.mono ?_);rintro e w2 ⟨rfl,f2⟩;have F2:=zH (F1.trans f2);clear f2 LC;go_wp2;go_ret;exact⟨rfl,F2⟩):p:=h
theorem mDA {p:Prop} (h:p:=by
 go_wp2
 try rw[hW1]
 go_ret;exact⟨rfl,F1⟩):p:=h
structure EV where
 t:Nat
 k:Int
 a:Option Addr
 c:Nat
 d:List UInt8
 deriving Inhabited
abbrev EV.v (x:EV):Value:=.slice x.a x.d.length x.c
def encE (x:EV):List Value:=[.int .u64 (x.t:Nat),.int .i64 x.k,.slice x.a x.d.length x.c]
def vE (x:EV):Value:=.agg #[.int .u64 (x.t:Nat),.int .i64 x.k,.slice x.a x.d.length x.c]
theorem encE_len (x:EV):(encE x).length=3:=rfl
theorem RowsAt.e3 {K:Nat→Obj→Prop} {w:World} {b off:Nat} {xs:List EV} (h:∀i,(h:i<xs.length)→∀j u,(encE xs[i])[j]? = some u→w.cell? ⟨b,off+i*3+j,none⟩=some u) (i:Nat) (hi:i<xs.length):
 w.cell? ⟨b,off+i*3,none⟩=some (.int .u64 (xs[i].t:Nat))∧w.cell? ⟨b,off+i*3+1,none⟩=some (.int .i64 xs[i].k)∧w.cell? ⟨b,off+i*3+2,none⟩=some (.slice xs[i].a xs[i].d.length xs[i].c):=
 ⟨h i hi 0 _ rfl,h i hi 1 _ rfl,h i hi 2 _ rfl⟩
def vL (b bt:Nat) (v:Value):Value:=.agg #[.int .u64 (b:Nat),.int .u64 (bt:Nat),v]
theorem cz (w:World) (b bt:Nat) (a:Option Addr) (n c:Nat) (h:b+n<18446744073709551616):
 Calls Tryz.prog 63 #[vL b bt (.slice a n c)] w fun e w'=>e=.returned (.int .u64 (b+n:Nat))∧FT w w':=by
 refine kZl ?_;intro W1 hW1 F1 X1;have x0:=bQ (i:=0) X1 rfl;have x2:=bQ (i:=2) X1 rfl;refine k6T ?_;intro hn hs;clear h;unfold vL;go_enter Tryz.func63,Tryz.ntmps63
 go_wp2;go_ret;exact⟨rfl,F1⟩
theorem sK (w:World) (b bt i:Nat) (a:Option Addr) (n c:Nat) (h:b+n<18446744073709551616):
 Calls Tryz.prog 106 #[vL b bt (.slice a n c),.int .u64 (i:Nat)] w fun e w'=>e=.returned (.bool (decide (b<i∧i≤b+n)))∧FT w w':=by
 refine kZl ?_;intro W1 hW1 F1 X1;have x0:=bQ (i:=0) X1 rfl;have x1:=bQ (i:=1) X1 rfl;have x2:=bQ (i:=2) X1 rfl;by_cases h0:b<i
 ·have h0I:(b:Int)<i:=by omega
  have LC:=zH (cz W1 b bt a n c h);unfold vL at LC ⊢;obtain⟨l,hl⟩:=zE (b+n);rw[hl] at LC h ⊢;by_cases h1:i≤l
  ·have h1I:(i:Int)≤(l:Nat):=by omega
   have e:decide (b<i∧i≤l)=true:=by simp;omega
   exact m5C
  ·have h1I:¬(i:Int)≤(l:Nat):=by omega
   have e:decide (b<i∧i≤l)=false:=by simp;omega
   exact m5C
 ·have h0I:¬(b:Int)<i:=by omega
  have e:decide (b<i∧i≤b+n)=false:=by simp;omega
  rw[e];unfold vL;clear h h0 e;go_enter Tryz.func106,Tryz.ntmps106
  exact mDA
def zEV:EV:=⟨0,0,none,0,[]⟩
theorem set3 {w:World} {g:Nat} {t:TypeId} {a0 a1 a2:Value} (h:w.heap[g]? = some (.cells #[a0,a1,a2] t (0,0))) (v0 v1 v2:Value):
 ∃W,(((w.setCell ⟨g,0,none⟩ v0).setCell ⟨g,1,none⟩ v1).setCell ⟨g,2,none⟩ v2)=W∧W.heap[g]? = some (.cells #[v0,v1,v2] t (0,0))∧Fr (fun c _=>c≠g) w W:=
 ⟨_,rfl,bJ (o:=2) (bJ (o:=1) (bJ (o:=0) h v0) v1) v2,(((Fr.refl _ _).setCell (fun _ _ h=>h rfl) _).setCell (fun _ _ h=>h rfl) _).setCell (fun _ _ h=>h rfl) _⟩
theorem yZ (w:World) (b bt i:Nat) (a:Option Addr) (n c:Nat) (h:b+n<18446744073709551616) (hi:¬(b<i∧i≤b+n)):
 Calls Tryz.prog 91 #[vL b bt (.slice a n c),.int .u64 (i:Nat)] w fun e w'=>e=.returned (.tuple #[vE zEV,.bool false])∧FT w w':=by
 refine kZl ?_;intro W1 hW1 F1 X1;refine kOo ?_;intro W2 hW2 F2 X2;refine kat ?_;intro XL x0 x1 x2 HCL;rw[show decide (b<i∧i≤b+n)=false by simp;omega] at HCL;unfold vL at HCL ⊢;have FW:=zH (F1.trans F2);have NS:Hid (w.heap.size≤W1.heap.size):=F1.size;clear h hi;unfold vE zEV;go_enter Tryz.func91,Tryz.ntmps91
 go_wp2_with fail
 try rw[hW1]
 try rw[hW2]
 (with_reducible refine HCL.out.mono ?_);rintro e w3 ⟨rfl,f3⟩;refine krf ?_;intro F3 X3 x0 x2 q0 q1 q2 y0 y1 y2;obtain⟨WZ,hWZ,TZ,FZ⟩:=set3 X3 (.int .u64 0) (.int .i64 0) (.slice none 0 0);refine kJF ?_;intro p0 p1 p2 FZH;clear TZ FZ f3 HCL;go_wp2
 try rw[hWZ]
 refine bodyPost_ret (v:=.tuple #[.agg #[.int .u64 0,.int .i64 0,.slice none 0 0],.bool false]) (by simp [results,Tryz.results91,go_sem, *]) rfl ⟨rfl,?_⟩
 try rw[hWZ]
 exact Fr.within ((F3.out.tT).trans (FZH.out.mono fun c _ h e=>by have:=h.2;have:=NS.out;omega))
theorem sV {K:Nat→Obj→Prop} (w:World) (b bt i k:Nat) (a:Option Addr) (n c:Nat) (xs:List EV) (hx:RowsAt K w (.slice a n c) 3 encE xs) (hn:xs.length=n) (h:b+n<18446744073709551616) (hk:k<xs.length) (hi:i=b+1+k):
 Calls Tryz.prog 91 #[vL b bt (.slice a n c),.int .u64 (i:Nat)] w fun e w'=>e=.returned (.tuple #[vE (xs[k]),.bool true])∧FT w w':=by
 refine kZl ?_;intro W1 hW1 F1 X1;refine kOo ?_;intro W2 hW2 F2 X2;refine kat ?_;intro XL x0 x1 x2 HCL;rw[show decide (b<i∧i≤b+n)=true by simp;omega] at HCL;unfold vL at HCL ⊢;have FW:=zH (F1.trans F2);have NS:Hid (w.heap.size≤W1.heap.size):=F1.size;have HX:=zH hx;obtain⟨m,hm⟩:=zE (1+k);have s1:IntKind.u64.wrap ((i:Int)-b)=(m:Int):=by rw[IntKind.wrap_u64];omega
 have s2:IntKind.u64.wrap ((m:Int)-1)=(k:Int):=by rw[IntKind.wrap_u64];omega
 clear hm;have kI:(k:Int)<n:=by omega
 have k0:(0:Int)≤(k:Int):=by omega
 obtain⟨bx,off,o,rfl,_,_,hcl⟩:=hx.spot (by omega);have hcs:=RowsAt.e3 (K:=K) hcl k hk;obtain⟨x,hxx⟩:=zE (xs[k]);rw[hxx] at hcs ⊢;have HCS:=zH hcs;unfold vE;clear h hi hk hx hcl hcs hxx hn;go_enter Tryz.func91,Tryz.ntmps91
 go_wp2_with fail
 try rw[hW1]
 try rw[hW2]
 (with_reducible refine HCL.out.mono ?_);rintro e w3 ⟨rfl,f3⟩;refine krf ?_;intro F3 X3 x0 x2 q0 q1 q2 y0 y1 y2;obtain⟨WZ,hWZ,TZ,FZ⟩:=set3 X3 (.int .u64 (x.t:Nat)) (.int .i64 x.k) (.slice x.a x.d.length x.c);refine kJF ?_;intro p0 p1 p2 FZH;have e0:=F3.cell (fun _ _=>trivial) HCS.1;have e1:=F3.cell (fun _ _=>trivial) HCS.2.1;have e2:=F3.cell (fun _ _=>trivial) HCS.2.2;clear TZ FZ f3 HCL;go_wp2
 try rw[hWZ]
 refine bodyPost_ret (v:=.tuple #[.agg #[.int .u64 (x.t:Nat),.int .i64 x.k,.slice x.a x.d.length x.c],.bool true]) (by simp [results,Tryz.results91,go_sem, *]) rfl ⟨rfl,?_⟩
 try rw[hWZ]
 exact Fr.within ((F3.out.tT).trans (FZH.out.mono fun c _ h e=>by have:=h.2;have:=NS.out;omega))
structure En where
 t:Nat
 k:Int
 d:List UInt8
 deriving DecidableEq,Inhabited
def EV.en (x:EV):En:=⟨x.t,x.k,x.d⟩
structure Lg where
 base:Nat
 bt:Nat
 es:List En
 deriving DecidableEq,Inhabited
namespace Lg
def last (l:Lg):Nat:=l.base+l.es.length
def has (l:Lg) (i:Nat):Bool:=decide (l.base<i∧i≤l.last)
def entry (l:Lg) (i:Nat):Option En:=if l.has i then l.es[i-l.base-1]? else none
def term (l:Lg) (i:Nat):Nat×Bool:=if i=l.base then(l.bt,true) else match l.entry i with
 | some x=>(x.t,true)
 | none=>(0,false)
def lastT (l:Lg):Nat:=(l.es.getLast?.map (·.t)).getD l.bt
def newer (l:Lg) (t i:Nat):Bool:=decide (l.lastT<t)||(decide (t=l.lastT)&&decide (l.last≤i))
def add (l:Lg) (x:En):Lg:={ l with es:=l.es++[x] }
def slice (l:Lg) (i most:Nat):List En:=if l.has i then(l.es.drop (i-l.base-1)).take most else[]
def fits (l:Lg) (p pt n:Nat):Int:=if l.last<p then 60 else if p<l.base then(if p+n≤l.base then 61 else 0) else if(l.term p).1=pt then 0 else 60
def lay (l:Lg):Nat→List En→Lg
 | _,[]=>l
 | p,x :: xs=>if l.term (p+1)=(x.t,true) then lay l (p+1) xs else { l with es:=l.es.take (p-l.base)++x :: xs }
def append (l:Lg) (p pt:Nat) (es:List En):Lg×Int:=
 if l.fits p pt es.length≠0 then(l,l.fits p pt es.length) else if p<l.base then(l.lay l.base (es.drop (l.base-p)),0) else(l.lay p es,0)
def down (l:Lg) (own:Nat):Nat→Nat
 | 0=>l.base
 | k+1=>if(l.term (l.base+(k+1))).1=own then down l own k else l.base+(k+1)
def hint (l:Lg) (p:Nat):Nat:=if min p l.last≤l.base then l.base else l.down (l.term (min p l.last)).1 (min p l.last-l.base)
theorem has_iff {l:Lg} {i:Nat}:l.has i=true↔l.base<i∧i≤l.last:=by unfold has;simp
theorem KW {l:Lg} {i:Nat} (h:l.base<i∧i≤l.last):∃h':i-l.base-1<l.es.length,l.entry i=some (l.es[i-l.base-1]'h'):=by
 have hl:i-l.base-1<l.es.length:=by unfold last at h;omega
 refine⟨hl,?_⟩;unfold entry;rw[if_pos (has_iff.2 h),List.getElem?_eq_getElem hl]
theorem KY {l:Lg} {i:Nat} (h:¬(l.base<i∧i≤l.last)):l.entry i=none:=by
 unfold entry;rw[if_neg (fun k=>h (has_iff.1 k))]
theorem term_base (l:Lg):l.term l.base=(l.bt,true):=by unfold term;rw[if_pos rfl]
theorem term_in {l:Lg} {i:Nat} (h:l.base<i∧i≤l.last):∃h':i-l.base-1<l.es.length,l.term i=((l.es[i-l.base-1]'h').t,true):=by
 obtain⟨h',e⟩:=KW h;refine⟨h',?_⟩;unfold term;rw[if_neg (by omega),e]
theorem term_out {l:Lg} {i:Nat} (h:i<l.base∨l.last<i):l.term i=(0,false):=by
 unfold term;rw[if_neg (by unfold last at h;omega),KY (by omega)]
theorem term_is {l:Lg} {i:Nat}:(l.term i).2=true↔l.base≤i∧i≤l.last:=by
 by_cases h0:i=l.base
 ·subst h0;rw[term_base];unfold last;simp
 ·by_cases h:l.base<i∧i≤l.last
  ·obtain⟨_,e⟩:=term_in h;rw[e];simp;omega
  ·rw[term_out (by omega)];simp;omega
theorem lay_base (l:Lg):∀(es:List En) (p:Nat),(l.lay p es).base=l.base∧(l.lay p es).bt=l.bt
 | [],p=>⟨rfl,rfl⟩
 | x :: xs,p=>by
  unfold lay;split
  ·exact lay_base l xs (p+1)
  ·exact⟨rfl,rfl⟩
theorem append_base (l:Lg) (p pt:Nat) (es:List En):(l.append p pt es).1.base=l.base∧(l.append p pt es).1.bt=l.bt:=by
 unfold append;split
 ·exact⟨rfl,rfl⟩
 ·split <;> exact lay_base _ _ _
theorem down_le (l:Lg) (own:Nat):∀k,l.base≤l.down own k∧l.down own k≤l.base+k
 | 0=>⟨Nat.le_refl _,Nat.le_refl _⟩
 | k+1=>by
  unfold down;split
  ·have:=down_le l own k;omega
  ·omega
end Lg
structure Nd where
 me:Int
 vote:Int
 role:Int
 ld:Int
 conf:List Int
 yes:List Int
 tm:Nat
 commit:Nat
 log:Lg
 heard:Bool
 next:List Nat
 mat:List Nat
 deriving DecidableEq,Inhabited
structure Ms where
 kind:Int
 src:Int
 dst:Int
 tm:Nat
 index:Nat
 prev:Nat
 commit:Nat
 ok:Bool
 data:List UInt8
 es:List En
 deriving DecidableEq,Inhabited
def zMs:Ms:=⟨0,0,0,0,0,0,0,false,[],[]⟩
namespace Nd
def new (me:Int) (conf:List Int):Nd:=⟨me,-1,0,-1,conf,[],0,0,⟨0,0,[]⟩,false,List.replicate 16 0,List.replicate 16 0⟩
def follow (n:Nd) (t:Nat) (ld:Int):Nd:=if n.tm<t then { n with tm:=t,vote:=-1,role:=0,ld:=ld,yes:=[] } else { n with role:=0,ld:=ld,yes:=[] }
def others (n:Nd):List Int:=n.conf.filter fun m=>decide (m≠n.me)
def lead (n:Nd):Nd:={ n with role:=3,ld:=n.me,yes:=[],log:=n.log.add ⟨n.tm,0,[]⟩,next:=List.replicate 16 (n.log.last+1),mat:=(List.replicate 16 0).set n.me.toNat (n.log.last+1) }
def toAll (n:Nd) (m:Ms):List Ms:=n.others.map fun x=>{ m with src:=n.me,dst:=x }
end Nd
end Go.Proofs.YtmjccpfchhnfhaaGreat
