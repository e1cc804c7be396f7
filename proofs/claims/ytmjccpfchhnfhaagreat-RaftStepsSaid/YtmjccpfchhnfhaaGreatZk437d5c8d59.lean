/- Texts of the proofs, part 39: what the functions that they reach do, walked; no conditions beyond those that each states. -/
import Derived.Test.YtmjccpfchhnfhaaGreatZk801b953b03
set_option linter.unusedVariables false
set_option linter.unusedSimpArgs false
set_option maxRecDepth 100000
set_option maxHeartbeats 8000000
namespace Go.Proofs.YtmjccpfchhnfhaaGreat
open Go.RowKit
def mvA:MV:={ zMV with kind:=1,src:=2,dst:=1 }
def mvB:MV:={ zMV with kind:=7,src:=1 }
theorem MsAt.noA [Old] (X:Nat→Prop) (W:World):MsAt X W mvA:=⟨⟨_,_,rfl,Nat.le_refl _,(fun _=>rfl),.inl rfl⟩,EsAt.nil _ _⟩
theorem MsAt.noB [Old] (X:Nat→Prop) (W:World):MsAt X W mvB:=⟨⟨_,_,rfl,Nat.le_refl _,(fun _=>rfl),.inl rfl⟩,EsAt.nil _ _⟩
theorem A10_sA:(A10.ns.getD 0 default).step mvA.ms=((A10.ns.getD 0 default,[]),31):=A10_no.1
theorem A10_sB:(A10.ns.getD 0 default).step mvB.ms=((A10.ns.getD 0 default,[]),30):=A10_no.2
theorem A10_rA:(A10.ns.getD 0 default).right mvA.ms≠0:=by decide +kernel
theorem A10_rB:(A10.ns.getD 0 default).right mvB.ms≠0:=by decide +kernel
theorem cM_A:Value.agg (cM mvA)=.agg #[.int .i64 1,.int .i64 2,.int .i64 1,.int .u64 0,.int .u64 0,.int .u64 0,.int .u64 0,.bool false,.slice none 0 0,.slice none 0 0]:=rfl
theorem cM_B:Value.agg (cM mvB)=.agg #[.int .i64 7,.int .i64 1,.int .i64 0,.int .u64 0,.int .u64 0,.int .u64 0,.int .u64 0,.bool false,.slice none 0 0,.slice none 0 0]:=rfl
theorem wj [Old] [cK] (w:World):Calls Tryz.prog 27 #[] w fun e w'=>e=.returned (.bool true)∧Fr (fun _ _=>True) w w':=by
 have hb1:∀W:World,(Instr.build 72 #[(0,.int .i64 1),(1,.int .i64 0)]).run Tryz.prog W=.ok (.agg #[.int .i64 1,.int .i64 0]) W:=fun W=>run_build W _ _ _ (by kernel_rfl)
 have hb3:∀W:World,(Instr.build 72 #[(0,.int .i64 3),(1,.int .i64 0)]).run Tryz.prog W=.ok (.agg #[.int .i64 3,.int .i64 0]) W:=fun W=>run_build W _ _ _ (by kernel_rfl)
 have hb4:∀W:World,(Instr.build 72 #[(0,.int .i64 4),(1,.int .i64 0)]).run Tryz.prog W=.ok (.agg #[.int .i64 4,.int .i64 0]) W:=fun W=>run_build W _ _ _ (by kernel_rfl)
 have hbA:∀W:World,(Instr.build 32 #[(0,.int .i64 1),(1,.int .i64 2),(2,.int .i64 1)]).run Tryz.prog W=.ok (.agg #[.int .i64 1,.int .i64 2,.int .i64 1,.int .u64 0,.int .u64 0,.int .u64 0,.int .u64 0,.bool false,.slice none 0 0,.slice none 0 0]) W:=fun W=>run_build W _ _ _ (by kernel_rfl)
 have hbB:∀W:World,(Instr.build 32 #[(0,.int .i64 7),(1,.int .i64 1)]).run Tryz.prog W=.ok (.agg #[.int .i64 7,.int .i64 1,.int .i64 0,.int .u64 0,.int .u64 0,.int .u64 0,.int .u64 0,.bool false,.slice none 0 0,.slice none 0 0]) W:=fun W=>run_build W _ _ _ (by kernel_rfl)
 have HBA:=zH hbA;have HBB:=zH hbB;clear hbA hbB;have BG:Hid (Calls Tryz.prog 28 #[.int .i64 3] w fun e w'=>B13Out w 3 e w'):=lY w 3 (by decide) (by decide);go_enter Tryz.func27,Tryz.ntmps27
 go_wp2_with fail
 (with_reducible refine BG.out.mono ?_);rintro e W1 ⟨G,X,l,tk,vn,vt,rfl,g1,e1,e2,e3,f1⟩;have G1:Hid (Gr13 w.heap.size W1 G A0):=⟨X,l,[],tk,0,vn,_,vt,g1,by unfold St A0;rw[e1,e2,e3];rfl⟩
 have F1:Hid (Fr (fun c _=>c<w.heap.size) w W1):=f1.mono fun _ _ _=>trivial
 clear g1 e1 e2 e3 f1 BG;have PC:=zH (G1.out.play A0_gj (by decide) 1 0);rw[A1_is] at PC;go_wp2_with fail
 (with_reducible refine PC.out.mono ?_);rintro e W2 ⟨rfl,g2,f2⟩;have G2:=zH g2;have F2:=zH (F1.out.trans f2);clear g2 f2 PC G1 F1;have PC0:=G2.out.rest A1_gj (by decide) 0 (Nat.zero_le _);rw[A2_is] at PC0;have PC:Hid (Calls Tryz.prog 79 #[.pointer (some ⟨G,0,none⟩),.int .i64 0] W2 fun e w'=>e=.returned (.bool (A2,true).2)∧Gr13 w.heap.size w' G (A2,true).1∧Fr (fun c _=>c<w.heap.size) W2 w'):=PC0;clear PC0;go_wp2_with fail
 (with_reducible refine PC.out.mono ?_);rintro e W3 ⟨rfl,g3,f3⟩;have G3:Hid (Gr13 w.heap.size W3 G A2):=g3;have F3:=zH (F2.out.trans f3);clear g3 f3 PC G2 F2;have PC:=zH (G3.out.play A2_gj (by decide) 4 0);rw[A3_is] at PC
 have OK2:Hid (∃gn cn b0 b1 b2 r0 r1 r2 e1 c1 e2 c2,W3.cell? ⟨G,0,none⟩=some (.slice (some ⟨gn,0,none⟩) 3 cn)∧W3.cell? ⟨gn,0,none⟩=some (.pointer (some ⟨r0,0,none⟩))∧W3.cell? ⟨gn,1,none⟩=some (.pointer (some ⟨r1,0,none⟩))∧W3.cell? ⟨gn,2,none⟩=some (.pointer (some ⟨r2,0,none⟩))∧W3.cell? ⟨r0,0,none⟩=some (.pointer (some ⟨b0,0,none⟩))∧W3.cell? ⟨r1,0,none⟩=some (.pointer (some ⟨b1,0,none⟩))∧W3.cell? ⟨r2,0,none⟩=some (.pointer (some ⟨b2,0,none⟩))∧W3.cell? ⟨b0,2,none⟩=some (.int .i64 3)∧W3.cell? ⟨b0,6,none⟩=some (.int .u64 1)∧W3.cell? ⟨b1,10,none⟩=some (.slice e1 1 c1)∧W3.cell? ⟨b2,10,none⟩=some (.slice e2 1 c2)):=by
  obtain⟨n3,ro,tm,l1,l2⟩:=A2_at;obtain⟨gn,cn,y0,V⟩:=G3.out.nview (by omega);rw[n3] at y0 V;obtain⟨_,_,r0,b0,q0,_,a0,a1,_,a2,_⟩:=V 0 (by omega);obtain⟨_,_,r1,b1,q1,_,d0,d1,_,d2,_⟩:=V 1 (by omega);obtain⟨_,_,r2,b2,q2,_,h0,h1,_,h2,_⟩:=V 2 (by omega);have t0:=a2.cells (Fr.refl _ W3);have t1:=d2.cells (Fr.refl _ W3);have t2:=h2.cells (Fr.refl _ W3);obtain⟨k1,k2,k3⟩:=d2.elen;obtain⟨m1,m2,m3⟩:=h2.elen;rw[l1] at k3;rw[l2] at m3;refine⟨gn,cn,b0,b1,b2,r0,r1,r2,k1,k2,m1,m2,y0,a0,d0,h0,a1,d1,h1,?_,?_,?_,?_⟩
  ·rw[t0.2.2.1,ro]
  ·rw[t0.2.2.2.2.2.2.1,tm];rfl
  ·rw[t1.2.2.2.2.2.2.2.2.2.2.1,k3]
  ·rw[t2.2.2.2.2.2.2.2.2.2.2.1,m3]
 obtain⟨gn,cn,b0,b1,b2,r0,r1,r2,e1,c1,e2,c2,y0,y1,y2,y3,y4,y5,y6,y7,y8,y9,y10⟩:=OK2.out;clear OK2;go_wp2_with fail
 clear y0 y1 y2 y3 y4 y5 y6 y7 y8 y9 y10;(with_reducible refine PC.out.mono ?_);rintro e W4 ⟨rfl,g4,f4⟩;have G4:=zH g4;have F4:=zH (F3.out.trans f4);clear g4 f4 PC G3 F3;obtain⟨n3,hn3⟩:=zE A3.ms.length;obtain⟨gm,cm,y0⟩:=G4.out.mlen;rw[hn3] at y0;have PC:=zH (G4.out.play A3_gj (by decide) 3 0);rw[A4_is] at PC;go_wp2_with fail
 clear y0;(with_reducible refine PC.out.mono ?_);rintro e W5 ⟨rfl,g5,f5⟩;have G5:=zH g5;have F5:=zH (F4.out.trans f5);clear g5 f5 PC G4 F4;have PC:=zH (G5.out.rest A4_gj (by decide) A3.ms.length A3_len);rw[A5_is,hn3] at PC;clear hn3;go_wp2_with fail
 (with_reducible refine PC.out.mono ?_);rintro e W6 ⟨rfl,g6,f6⟩;have G6:Hid (Gr13 w.heap.size W6 G A5):=g6;have F6:=zH (F5.out.trans f6);clear g6 f6 PC G5 F5;obtain⟨n5,hn5⟩:=zE A5.ms.length;obtain⟨gm,cm,y0⟩:=G6.out.mlen;rw[hn5] at y0;have PC:=zH (G6.out.play A5_gj (by decide) 3 0);rw[A6_is] at PC;go_wp2_with fail
 clear y0;(with_reducible refine PC.out.mono ?_);rintro e W7 ⟨rfl,g7,f7⟩;have G7:=zH g7;have F7:=zH (F6.out.trans f7);clear g7 f7 PC G6 F6;have PC:=zH (G7.out.rest A6_gj (by decide) A5.ms.length A5_len);rw[A7_is,hn5] at PC;clear hn5;go_wp2_with fail
 (with_reducible refine PC.out.mono ?_);rintro e W8 ⟨rfl,g8,f8⟩;have G8:Hid (Gr13 w.heap.size W8 G (AT 0)):=g8;have F8:=zH (F7.out.trans f8);clear g8 f8 PC G7 F7;go_wp2;go_loopw [3,7] (fun b i wr=>∃j:Nat,i=.int .i64 (j:Nat)∧j≤3∧b=.bool true∧Hid (Gr13 w.heap.size wr G (AT j))∧Hid (Fr (fun c _=>c<w.heap.size) w wr)) (fun _ i _=>3-(intOf i).toNat)
 case atStart=>exact⟨0,rfl,by decide,rfl,G8.out,F8.out⟩
 case round=>
  obtain⟨j,rfl,hj,rfl,HG,HF⟩:=hrel;by_cases hlt:j<3
  ·have hltI:(j:Int)<3:=by omega
   have PC:=zH (HG.out.take (AT_gj j hj) (by decide) j (by rw[AT_ns,A7_n3];exact hlt));go_wp2_with fail
   (with_reducible refine PC.out.mono ?_);rintro e W9 ⟨rfl,g9,f9⟩;have G9:Hid (Gr13 w.heap.size W9 G (AT (j+1))):=g9;have F9:=zH (HF.out.trans f9);clear g9 f9 PC HG HF
   have OK:Hid (∃gt ct g c,W9.cell? ⟨G,2,none⟩=some (.slice (some ⟨gt,0,none⟩) 3 ct)∧W9.cell? ⟨gt,j,none⟩=some (.slice g 2 c)):=by
    have hj9:=AT_gj (j+1) (by omega);have e3:(AT (j+1)).tl.length=3:=by rw[hj9.lt,AT_ns,A7_n3]
    obtain⟨gt,ct,y0,V⟩:=G9.out.tview (by omega);rw[e3] at y0 V;obtain⟨g,c,y1⟩:=V j hlt;rw[AT_tl j hlt] at y1;exact⟨gt,ct,g,c,y0,y1⟩
   obtain⟨gt,ct,g,c,y0,y1⟩:=OK.out;clear OK;go_wp2;go_roundw
   case rel=>exact⟨j+1,by go_num,by omega,rfl,G9.out,F9.out⟩
   case measure=>simp [intOf];omega
  ·have hge:¬((j:Int)<3):=by omega
   have hj3:j=3:=by omega
   subst hj3;have G3:Hid (Gr13 w.heap.size wr G A10):=HG.out;have N3:A10.ns.length=3:=by rw[←AT_3,AT_ns,A7_n3]
   obtain⟨gn,cn,y0,V⟩:=G3.out.nview (by omega);rw[N3] at y0 V;obtain⟨X0,P0,r0,b0,q0,ap,y1,y2,rb0,hp0,pr0,xb0,-,-,-,K0⟩:=V 0 (by omega);have K:=zH K0;have SC:=zH (jJ hp0 rb0 pr0 mvA (MsAt.noA _ _) (Nat.zero_le _) (Nat.zero_le _) (fun c hc=>absurd hc (cK.no c)) (fun e=>absurd e A10_rA));rw[A10_sA,cM_A] at SC;have XB:Hid (∀c,P0 c→w.heap.size≤c):=fun c hc=>xb0 c (hp0.px c hc)
   clear V hp0 pr0 xb0 K0 rb0 HG;have hbA:=HBA.out;go_wp2_with fail
   clear y0 y1 y2 hbA;(with_reducible refine SC.out.mono ?_);rintro e W9 ⟨X9,P9,q9,v9,mv9,rfl,p9,a9,-,-⟩;have G9:=zH (K.out _ _ _ ⟨q9,p9⟩ a9);have F9:Hid (Fr (fun c _=>c<w.heap.size) w W9):=HF.out.trans (a9.fr.mono fun c _ hc hp=>by have:=XB.out c hp;omega);clear p9 a9 SC K XB G3 HF;obtain⟨gn,cn,y0,V⟩:=G9.out.nview (by omega);rw[N3] at y0 V;obtain⟨X0,P0,r0,b0,q0,ap,y1,y2,rb0,hp0,pr0,xb0,-,-,-,K0⟩:=V 0 (by omega);have SC:=zH (jJ hp0 rb0 pr0 mvB (MsAt.noB _ _) (Nat.zero_le _) (Nat.zero_le _) (fun c hc=>absurd hc (cK.no c)) (fun e=>absurd e A10_rB));rw[A10_sB,cM_B] at SC;have XB:Hid (∀c,P0 c→w.heap.size≤c):=fun c hc=>xb0 c (hp0.px c hc)
   clear V hp0 pr0 xb0 K0 rb0;have hbB:=HBB.out;go_wp2_with fail
   clear y0 y1 y2 hbB;(with_reducible refine SC.out.mono ?_);rintro e W10 ⟨X9,P9,q9,v10,mv9,rfl,p9,a9,-,-⟩;have F10:Hid (Fr (fun c _=>c<w.heap.size) w W10):=F9.out.trans (a9.fr.mono fun c _ hc hp=>by have:=XB.out c hp;omega);clear p9 a9 SC XB;go_wp2;go_ret;exact⟨rfl,Fr.within (F10.out.mono fun c _ h=>h.2)⟩
end Go.Proofs.YtmjccpfchhnfhaaGreat
