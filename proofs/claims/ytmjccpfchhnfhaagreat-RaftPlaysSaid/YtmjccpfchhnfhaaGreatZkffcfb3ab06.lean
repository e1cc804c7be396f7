/- Texts of the proofs, part 20: what the functions that they reach do, walked; no conditions beyond those that each states. -/
import Derived.Deep.QuietTactic
import Derived.BigQuiet
import Derived.Test.YtmjccpfchhnfhaaGreatZk95d6f24edf
set_option linter.unusedVariables false
set_option linter.unusedSimpArgs false
set_option maxRecDepth 100000
set_option maxHeartbeats 8000000
namespace Go.Proofs.YtmjccpfchhnfhaaGreat
open Go.RowKit
theorem kx9 {p q:Prop} (k:q) (h:q→p:=by
 have FQ:=zH (HFW.drewN nq);have OQ:Hid ((wr.drewN nq).ownsRow w.heap.size 3 1 (.slice g l c) T.length (T.flatMap encI)):=bK HO ((Fr.refl _ wr).drewN nq) fun _ _ _ _=>trivial
 intro kk0;revert OQ;revert FQ;exact kk0):p:=h k
theorem mhz {p:Prop} (h:p:=by
 exact h.re (b_ b _ w) (bw _ h.top) ⟨rfl,rfl⟩ (IntsAt.nil' _ _) ⟨h.ee,h.ev.aft (h.own (b_ b _ w))⟩ ⟨h.nl,h.ml⟩):p:=h
def DV.noYes (q:DV):DV:={ q with vy:=.slice none 0 0 }
section
variable {X:Nat→Prop} {w w':World} {b:Nat} {n n':Nd} {q q':DV}
theorem IntsAt.nil' (K:Nat→Obj→Prop) (w:World):IntsAt K w (.slice none 0 0) []:=⟨none,0,rfl,.inl rfl⟩
theorem fJ [Old] (h:DNs X w b n q) (t:Nat) (ld:Int):
 Calls Tryz.prog 55 #[.pointer (some ⟨b,0,none⟩),.int .u64 (t:Nat),.int .i64 ld] w fun e w'=>e=.returned (.tuple #[])∧DNs X w' b (n.follow t ld) q.noYes∧Fr (fun c _=>c≠b) w w':=by
 obtain⟨-,x1,x2,x3,-,x5,x6,-,-,-,-,-⟩:=h.cells (Fr.refl _ w);have z1:=h.free (Fr.refl _ w) 1;refine kD1 ?_;intro z2 z3 z5;have z6:=h.free (Fr.refl _ w) 6;by_cases hlt:n.tm<t
 ·have g:decide (n.tm<t)=true:=decide_eq_true hlt
  have R:Hid (DNs X (kV w b [(6,.int .u64 (t:Nat)),(1,.int .i64 (-1)),(2,.int .i64 0),(3,.int .i64 ld),(5,.slice none 0 0)]) b (n.follow t ld) q.noYes):=by unfold Nd.follow;rw[if_pos hlt];exact mhz
  clear hlt h;go_enter Tryz.func55,Tryz.ntmps55
  exact mtP
 ·have g:decide (n.tm<t)=false:=decide_eq_false hlt
  have R:Hid (DNs X (kV w b [(2,.int .i64 0),(3,.int .i64 ld),(5,.slice none 0 0)]) b (n.follow t ld) q.noYes):=by unfold Nd.follow;rw[if_neg hlt];exact mhz
  clear hlt h;go_enter Tryz.func55,Tryz.ntmps55
  exact mAj
theorem lV [Old] (h:DNs X w b n q) (hc:n.conf.length≤1000):
 Calls Tryz.prog 71 #[.pointer (some ⟨b,0,none⟩)] w fun e w'=>(∃g k,e=.returned (.slice g n.others.length k)∧RowI w' w.heap.size (.slice g n.others.length k) n.others)∧FT w w':=by
 obtain⟨ac,cc,hvc⟩:=h.cf.form;obtain⟨cf,hcf⟩:=zE n.conf;obtain⟨me,hme⟩:=zE n.me;obtain⟨ot,hot⟩:=zE n.others;have OT:Hid (ot=cf.filter fun m=>decide (m≠me)):=by show ot=_;rw[←hot];unfold Nd.others;rw[hcf,hme]
 have CC:Hid (∀W,FT w W→W.cell? ⟨b,0,none⟩=some (.int .i64 me)∧W.cell? ⟨b,4,none⟩=some (.slice ac cf.length cc)):=fun W f=>by obtain⟨x0,x1,x2,x3,x4,x5,x6,x7,x8,x9,x10,x11⟩:=h.cells f;exact⟨by rw[x0,hme],by rw[x4,hvc,hcf]⟩
 have RW:Hid (∀W,FT w W→IntsAt (RO X) W (.slice ac cf.length cc) cf):=fun W f=>by have:=h.cf.tt f;rw[hvc,hcf] at this;exact this
 rw[hcf] at hc;rw[hot];clear h hvc hcf hme hot;go_enter Tryz.func71,Tryz.ntmps71
 go_wp2;go_loopw [3,4] (fun o i wr=>∃(k:Nat) (g:Option Addr) (l c:Nat) (T:List Int),i=.int .i64 (k:Nat)∧k≤cf.length∧o=.slice g l c∧l≤k∧Hid (T=(cf.take k).filter fun m=>decide (m≠me))∧Hid (T.length=l)∧Hid (wr.ownsRow w.heap.size 3 1 (.slice g l c) T.length (T.flatMap encI))∧Hid (FT w wr)) (fun _ i _=>cf.length-(intOf i).toNat)
 case atStart=>exact⟨0,none,0,0,[],rfl,Nat.zero_le _,rfl,Nat.zero_le _,rfl,rfl,⟨rfl,.inl ⟨rfl,rfl⟩⟩,Fr.refl _ _⟩
 case round=>
  obtain⟨k,g,l,c,T,rfl,hk,rfl,hlk,HT,HL,HO,HFW⟩:=hrel;obtain⟨y0,y4⟩:=CC wr HFW;by_cases hlt:k<cf.length
  ·have hltI:(k:Int)<(cf.length:Int):=by omega
   have RR:=RW wr HFW;obtain⟨bo,oo,rfl⟩:=RR.addr (by omega);have hcell:=RR.cell hlt;obtain⟨x,hx⟩:=zE (cf[k]);rw[hx] at hcell;have HTK:Hid (cf.take (k+1)=cf.take k++[x]):=by show _=_;rw[List.take_succ_eq_append_getElem hlt,hx]
   have HROW:=zH hcell;clear RR hx;by_cases hm:x=me
   ·have g1:(x==me)=true:=by simp [hm]
    have g2:(x != me)=false:=by simp [hm]
    have HS:Hid ((cf.take (k+1)).filter (fun m=>decide (m≠me))=T):=by show _=_;rw[HTK.out,List.filter_append,HT.out];simp [hm]
    clear hm;go_wp2_with fail
    go_quiet (fail)
    refine kx9 ?_;intro FQ OQ;clear y0 y4 hcell;go_wp2;go_roundw
    case rel=>exact⟨k+1,g,l,c,T,by go_num,by omega,rfl,by omega,HS.out.symm,HL.out,OQ.out,FQ.out⟩
    case measure=>simp [intOf];omega
   ·have g1:(x==me)=false:=by simpa using hm
    have g2:(x != me)=true:=by simpa using hm
    have HS:Hid (T++[x]=(cf.take (k+1)).filter (fun m=>decide (m≠me))):=by show _=_;rw[HTK.out,List.filter_append,HT.out];simp [hm]
    clear hm;go_wp2_with fail
    go_quiet (fail)
    refine kx9 ?_;intro FQ OQ;clear y0 y4 hcell g1 g2;obtain⟨y0,y4⟩:=CC (wr.drewN nq) FQ;have hcell:=((Fr.refl (fun _ _=>True) wr).drewN nq).cell (fun _ _=>trivial) HROW;generalize wr.drewN nq=W2 at FQ OQ y0 y4 hcell ⊢;obtain⟨W3,hW3⟩:=zE (W2.alloc (.cells #[.int .i64 x] 3 (0,0)));have f3:FT W2 W3:=hW3▸(Fr.refl _ _).alloc _;have ROW:Hid (RowsAt (fun c _=>c=W2.heap.size) W3 (.slice (some ⟨W2.heap.size,0,none⟩) 1 1) 1 encI [x]):=lX (hW3▸bZ _ _);have FW3:=zH (FQ.trans f3);have OW3:Hid (W3.ownsRow w.heap.size 3 1 (.slice g l c) T.length (T.flatMap encI)):=bK OQ f3 fun _ _ _ _=>trivial
    have HL3:Hid ((T++[x]).length=l+1):=by show _=_;rw[List.length_append,HL.out];rfl
    have hl1:l+1≤1000000:=by omega
    clear f3;go_wp2_with (at_builtin;(try rw[hW3]);refine gz w W3 FW3 rfl _ _ rfl (.slice g l c) T rfl OW3 _ [x] rfl ROW _ rfl (l+1) HL3 hl1 ?_)
    intro g5 c5 W5 O5 F5 G5 N5;clear hW3 y0 y4 hcell;go_wp2;go_roundw
    case rel=>exact⟨k+1,g5,l+1,c5,T++[x],by go_num,by omega,rfl,by omega,HS.out,HL3.out,by show World.ownsRow _ _ _ _ _ _ _;rw[HL3.out,List.flatMap_append,show List.flatMap encI [x]=encI x from by simp];exact O5.out,F5.out⟩
    case measure=>simp [intOf];omega
  ·have hge:¬(k:Int)<(cf.length:Int):=by omega
   have HTT:Hid (T=ot):=by show _=_;rw[OT.out,HT.out,List.take_of_length_le (by omega)]
   go_wp2;go_ret;have ho:=HO;have hl:=HL;rw[←HTT.out,hl];refine⟨⟨g,c,rfl,?_⟩,HFW⟩;show World.ownsRow _ _ _ _ _ _ _;rw[hl] at ho ⊢;rw[←jv];exact ho
end
end Go.Proofs.YtmjccpfchhnfhaaGreat
