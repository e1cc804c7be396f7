/- Texts of the proofs, part 12: what the functions that they reach do, walked; no conditions beyond those that each states. -/
import Derived.Deep.RegionHeld3
import Derived.Deep.Cut
import Derived.Test.YtmjccpfchhnfhaaGreatZk52ab7ca237
set_option linter.unusedVariables false
set_option linter.unusedSimpArgs false
set_option maxRecDepth 100000
set_option maxHeartbeats 8000000
namespace Go.Proofs.YtmjccpfchhnfhaaGreat
open Go.RowKit
theorem mXL {p:Prop} (h:p:=by
 exact⟨bQ t rfl,bQ t rfl,bQ t rfl⟩):p:=h
theorem sJ (w:World) (b bt:Nat) (a:Option Addr) (n c:Nat):
 Calls Tryz.prog 66 #[vL b bt (.slice a n c),.int .u64 (b:Nat)] w fun e w'=>e=.returned (.tuple #[.int .u64 (bt:Nat),.bool true])∧FT w w':=by
 refine kZl ?_;intro W1 hW1 F1 X1;have x0:=bQ (i:=0) X1 rfl;have x1:=bQ (i:=1) X1 rfl;unfold vL;go_enter Tryz.func66,Tryz.ntmps66
 go_wp2
 try rw[hW1]
 go_ret2;exact⟨rfl,F1⟩
theorem Fw {K:Nat→Obj→Prop} (w:World) (b bt i k:Nat) (a:Option Addr) (n c:Nat) (xs:List EV) (hx:RowsAt K w (.slice a n c) 3 encE xs) (hn:xs.length=n) (h:b+n<18446744073709551616) (hk:k<xs.length) (hi:i=b+1+k):
 Calls Tryz.prog 66 #[vL b bt (.slice a n c),.int .u64 (i:Nat)] w fun e w'=>e=.returned (.tuple #[.int .u64 (xs[k].t:Nat),.bool true])∧FT w w':=by
 refine kZl ?_;intro W1 hW1 F1 X1;have x0:=bQ (i:=0) X1 rfl;have x1:=bQ (i:=1) X1 rfl;have x2:=bQ (i:=2) X1 rfl;have hne:((i:Int)==(b:Int))=false:=by simp;omega
 have EC:=zH (sV W1 b bt i k a n c xs (hx.tt F1) hn h hk hi);obtain⟨x,hxx⟩:=zE (xs[k]);rw[hxx] at EC ⊢;unfold vL vE at EC;unfold vL;clear hx hn h hi hxx;go_enter Tryz.func66,Tryz.ntmps66
 go_wp2_with fail
 try rw[hW1]
 (with_reducible refine EC.out.mono ?_);rintro e w2 ⟨rfl,f2⟩;have F2:=zH (F1.trans f2);obtain⟨W3,hW3⟩:=zE (w2.alloc (.cells #[.int .u64 (x.t:Nat),.int .i64 x.k,.slice x.a x.d.length x.c] 85 (0,0)));have F3:Hid (FT w W3):=hW3▸F2.out.alloc _;have X3:Hid (W3.heap[w2.heap.size]? = some (.cells #[.int .u64 (x.t:Nat),.int .i64 x.k,.slice x.a x.d.length x.c] 85 (0,0))):=hW3▸bZ w2 _;have e0:=bQ (i:=0) X3 rfl;clear f2 EC;go_wp2
 try rw[hW3]
 go_ret2;exact⟨rfl,F3⟩
def lastTE (bt:Nat) (xs:List EV):Nat:=(xs.getLast?.map (·.t)).getD bt
theorem mY {K:Nat→Obj→Prop} (w:World) (b bt:Nat) (a:Option Addr) (n c:Nat) (xs:List EV) (hx:RowsAt K w (.slice a n c) 3 encE xs) (hn:xs.length=n) (h:b+n<18446744073709551616):
  Calls Tryz.prog 95 #[vL b bt (.slice a n c)] w fun e w'=>e=.returned (.int .u64 (lastTE bt xs:Nat))∧FT w w':=by
 refine kZl ?_
 intro W1 hW1 F1 X1
 have U0:Hid (FT W1 W1.drew):=(Fr.refl _ _).drew
 have CC:Hid (∀W,FT W1 W→W.cell? ⟨w.heap.size,0,none⟩=some (.int .u64 (b:Nat))∧W.cell? ⟨w.heap.size,1,none⟩=some (.int .u64 (bt:Nat))∧W.cell? ⟨w.heap.size,2,none⟩=some (.slice a n c)):=fun W f=>by
  have t:=f.keep _ _ X1 trivial
  exact mXL
 obtain⟨l,hl⟩:=zE (b+n)
 have LC:=zH (fun W=>cz W b bt a n c h)
 rw[hl] at LC
 have TC:Hid (∀W,FT W1 W→Calls Tryz.prog 66 #[vL b bt (.slice a n c),.int .u64 (l:Nat)] W fun e w'=>e=.returned (.tuple #[.int .u64 (lastTE bt xs:Nat),.bool true])∧FT W w'):=fun W f=>by
  by_cases h0:n=0
  ·have e1:l=b:=by omega
   have e2:xs=[]:=List.length_eq_zero_iff.1 (by omega)
   rw[e1,e2]
   exact sJ W b bt a n c
  ·have hk:n-1<xs.length:=by omega
   have e:lastTE bt xs=xs[n-1].t:=by
    unfold lastTE
    rw[List.getLast?_eq_getElem?,hn,List.getElem?_eq_getElem hk]
    rfl
   rw[e]
   exact Fw W b bt l (n-1) a n c xs ((hx.tt F1.out).tt f) hn h hk (by omega)
 generalize lastTE bt xs=T at TC ⊢
 unfold vL at LC TC ⊢
 clear hx hn h hl
 go_enter Tryz.func95,Tryz.ntmps95
 go_upto_region 1 with fail
 try rw[hW1]
 clear hW1
 go_region_held3 (fun W=>W.cell? ⟨w.heap.size,0,none⟩=some (.int .u64 (b:Nat))∧W.cell? ⟨w.heap.size,1,none⟩=some (.int .u64 (bt:Nat))∧W.cell? ⟨w.heap.size,2,none⟩=some (.slice a n c))
  (first | exact CC _ F9 | exact CC _ F8 | exact CC _ U0)
  (first
   | (go_at_call 63;go_must ((with_reducible refine(LC.out _).mono ?_);rintro e w8 ⟨rfl,f8⟩;have F8:=zH (U0.out.trans f8);clear f8))
   | (go_at_call 66;go_must ((with_reducible refine(TC.out _ F8.out).mono ?_);rintro e w9 ⟨rfl,f9⟩;have F9:=zH (F8.out.trans f9);clear f9)))
 all_goals
  go_wp2
  go_ret
  exact⟨rfl,F1.trans F9⟩
end Go.Proofs.YtmjccpfchhnfhaaGreat
