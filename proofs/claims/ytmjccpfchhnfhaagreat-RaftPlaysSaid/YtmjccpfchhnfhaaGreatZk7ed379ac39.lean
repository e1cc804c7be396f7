/- Texts of the proofs, part 31: what the functions that they reach do, walked; no conditions beyond those that each states. -/
import Derived.Sort.AssemblyPlain
import Derived.Test.YtmjccpfchhnfhaaGreatZkd56c4a5551
set_option linter.unusedVariables false
set_option linter.unusedSimpArgs false
set_option maxRecDepth 100000
set_option maxHeartbeats 8000000
namespace Go.Proofs.YtmjccpfchhnfhaaGreat
open Go.RowKit
theorem yV (blk off cap:Nat) (zs:List Int) (w:World) (hH:Sort.Holds (Value.int .u64) w blk off zs.toArray) (hb:zs.length≤12):
 Calls Tryz.prog 111 #[.slice (some ⟨blk,off,none⟩) zs.length cap] w fun e w'=>
  e=.returned (.tuple #[])∧∃n,w'=Sort.putRow (Value.int .u64) (Sort.ahead w n) blk off (srt zs).toArray:=by
 have h:=Jz blk off cap zs.toArray w hH (by simpa using hb)
 have hs:(Sort.insertionSort Sort.ltInt zs.toArray 0 zs.toArray.size)=(srt zs).toArray:=by
  obtain⟨hP,hSo⟩:=Sort.insertionSort_holds (lt:=Sort.ltInt) Sort.swo_ltInt zs.toArray 0 zs.toArray.size (Nat.zero_le _) (Nat.le_refl _);have h:=Sort.sorted_unique_holds Sort.swo_ltInt (fun x y h1 h2=>by simp only[Sort.ltInt,decide_eq_false_iff_not] at h1 h2;omega) zs.toArray _ hP hSo;apply Array.toList_inj.1;rw[h];show zs.mergeSort _=zs.mergeSort _;congr 1;funext x y;show (!decide (y<x))=decide (x≤y);by_cases h:x≤y
  ·have h':¬y<x:=by omega
   simp [h,h']
  ·have h':y<x:=by omega
   simp [h,h']
 rw[hs] at h;simpa using h
theorem vk {K K':Nat→Obj→Prop} (w:World) (b off c:Nat) (vm:Value) (zs ms:List Int) (h:IntsAt K w (.slice (some ⟨b,off,none⟩) zs.length c) zs) (hq:NumsAt .u64 K' w vm ms) (hm:ms.length≤maxLen) (h0:0<zs.length) (h12:zs.length≤12) (hp:∀x∈zs,0≤x):
 Calls Tryz.prog 77 #[.slice (some ⟨b,off,none⟩) zs.length c,vm] w fun e w'=>e=.returned (.int .u64 (midV (reachL zs ms zs.length)))∧Fr (fun b _=>b<w.heap.size) w w':=by
 obtain⟨am,cm,rfl⟩:=hq.form;have H:=zH h;have HQ:=zH hq;have HP:=zH hp;refine kKm ?_;intro N hN HN;obtain⟨M,hM⟩:∃M,M=ms.length:=⟨_,rfl⟩
 have HMM:=zH hM;have hMb:M≤9223372036854775807:=by unfold maxLen at hm;omega
 rw[←hN] at h0 h12 ⊢;rw[←hM];have HJ:=fun w'=>zH (zW w' (some ⟨b,off,none⟩) N c (by omega))
 obtain⟨mj,hmj⟩:∃mj,mj=N / 2+1:=⟨_,rfl⟩
 have HMJ:=zH hmj;have hmj1:mj≤N:=by omega
 have e0:majI N=(mj:Nat):=by unfold majI;omega
 rw[e0] at HJ;clear h hq hp hN hM e0 hm hmj;go_enter Tryz.func77,Tryz.ntmps77
 go_wp2;go_loopw [5,11] (fun o i wr=>∃(k:Nat) (a:Option Addr) (c:Nat),k≤N∧i=.int .i64 k∧o=.slice a k c∧RowU wr w.heap.size (.slice a k c) (reachL zs ms k)∧FT w wr) (fun _ i _=>N-(intOf i).toNat)
 case atStart=>exact⟨0,none,0,Nat.zero_le _,rfl,rfl,RowU.nil _ _,Fr.refl _ _⟩
 case round=>
  obtain⟨k,a,c',hk,rfl,rfl,ho,hf⟩:=hrel;have HO:=zH ho;have HF:=zH hf;clear ho hf;by_cases hlt:k<N
  ·have l1:k<zs.length:=by rw[←HN.out];exact hlt
   have g1:=(H.tt HF).cell l1;have HL:=zH (C_ zs ms k l1);have hu0:=HP _ (List.getElem_mem l1);have HR:=zH (fV zs ms (k+1) (by omega));generalize hu:zs[k]=u at g1 HL hu0;clear hu l1;obtain⟨p,rfl⟩:=Int.eq_ofNat_of_zero_le hu0;clear hu0;by_cases hpm:p<M
   ·have l2:p<ms.length:=by rw[←HMM.out];exact hpm
    have ea:atU ms (p:Int)=ms[p]:=by unfold atU;rw[if_pos (by omega)];simp [l2]
    rw[ea] at HL;obtain⟨bm,om,ham⟩:=HQ.out.addr (by omega);have g2:=((ham▸HQ.out).tt HF.out).cell l2;generalize ms[p]=y at g2 HL;clear ea;subst ham;clear l2;go_wp2_with (at_builtin;refine dz w _ y HF rfl _ _ rfl _ _ rfl HO rfl _ HL (by have:=HR.out;omega) ?_)
    intro a1 c1 w1 O1 F1;rw[HR.out] at O1 ⊢;go_wp2;go_roundw
    case rel=>exact⟨k+1,a1,c1,by omega,by go_num,rfl,O1.out,F1.out⟩
    case measure=>simp [intOf];omega
   ·have ea:atU ms (p:Int)=0:=by unfold atU;rw[if_neg (by have:=HMM.out;omega)]
    rw[ea] at HL;clear ea;go_wp2_with (at_builtin;refine dz w _ 0 HF rfl _ _ rfl _ _ rfl HO rfl _ HL (by have:=HR.out;omega) ?_)
    intro a1 c1 w1 O1 F1;rw[HR.out] at O1 ⊢;go_wp2;go_roundw
    case rel=>exact⟨k+1,a1,c1,by omega,by go_num,rfl,O1.out,F1.out⟩
    case measure=>simp [intOf];omega
  ·obtain rfl:k=N:=by omega
   have hrl:=fV zs ms k (by have:=HN.out;omega);obtain⟨g,cap,hv,hg,hgl,hH⟩:=HO.out.parts (by omega);rw[hrl] at hv;cases hv
   have key:∀m,m=(reachL zs ms k).toArray.size→Calls Tryz.prog 111 #[.slice (some ⟨g,0,none⟩) m c'] wr fun e w'=>
    e=.returned (.tuple #[])∧∃n,w'=Sort.putRow (Value.int .u64) (Sort.ahead wr n) g 0 (srt (reachL zs ms k)).toArray:=by
    rintro _ rfl;exact yV g 0 c' _ wr hH (by rw[hrl];omega)
   have HK:=zH (key k (by simp [hrl]));have HH:=zH hH;have HG:=zH hg;have HRL:=zH hrl;have HGL:=zH hgl;clear key hH hg hrl hgl;go_wp2_with fail
   with_reducible refine HK.out.mono ?_
   rintro e1 w2 ⟨rfl,n,hw⟩;obtain⟨j,hj⟩:∃j:Nat,j=k-mj:=⟨_,rfl⟩
   have ej:(k:Int)-(mj:Nat)=(j:Nat):=by omega
   have hjk:j<k:=by have:=HMJ.out;omega
   have hS:(srt (reachL zs ms k)).toArray.size=(reachL zs ms k).toArray.size:=by simp [kK]
   have hlt3:j<(srt (reachL zs ms k)).length:=by rw[kK,HRL.out];exact hjk
   have gc:w2.cell? ⟨g,j,none⟩=some (.int .u64 ((srt (reachL zs ms k))[j])):=by have:=Sort.cell?_putRow (Value.int .u64) (Sort.ahead wr n) g 0 (reachL zs ms k).toArray (srt (reachL zs ms k)).toArray (Sort.holds_ahead _ _ _ _ _ _ HH.out) hS j (by simpa using hlt3);rw[hw];rw[Nat.zero_add] at this;rw[this];simp [hlt3]
   have hV:midV (reachL zs ms k)=(srt (reachL zs ms k))[j]:=by unfold midV;rw[HRL.out,←HMJ.out,←hj];simp [List.getD,hlt3]
   have HV:=zH hV
   have F2:Hid (Fr (fun b _=>b<w.heap.size) w w2):=by rw[hw];have h1:Fr (fun b _=>b<w.heap.size) w (Sort.ahead wr n):=(HF.tT).ahead n;exact h1.putRowU (fun o ho=>by have:=HG.out;omega) _ _
   generalize (srt (reachL zs ms k))[j]=y at gc HV;clear hw hS hV hj HK hlt3;go_wp2_with fail
   with_reducible refine(HJ _).out.mono ?_
   rintro e1 w3 ⟨rfl,rfl⟩;go_wp2;go_ret;exact⟨by rw[HV.out];rfl,F2.out⟩
theorem mxM {p:Prop} (h:p:=by
 clear ea hq;generalize ms.length=M at *;go_enter Tryz.func113,Tryz.ntmps113
 go_wp2;go_ret;exact⟨by rw[HE.out];rfl,rfl⟩):p:=h
theorem at_calls {K:Nat→Obj→Prop} (w:World) (vm:Value) (ms:List Int) (p:Nat) (hq:NumsAt .u64 K w vm ms) (hm:ms.length≤maxLen) (hp:p≤15):
 Calls Tryz.prog 113 #[vm,.int .i64 (p:Nat)] w fun e w'=>e=.returned (.int .u64 (atU ms (p:Nat)))∧w=w':=by
 obtain⟨am,cm,rfl⟩:=hq.form;unfold maxLen at hm;by_cases h:p<ms.length
 ·obtain⟨bm,om,rfl⟩:=hq.addr (by omega);have g:=hq.cell h;have ea:atU ms (p:Int)=ms[p]:=by unfold atU;rw[if_pos (by omega)];simp [h]
  have HE:=zH ea;generalize ms[p]=y at g HE;exact mxM
 ·have ea:atU ms (p:Int)=0:=by unfold atU;rw[if_neg (by omega)]
  have HE:=zH ea;exact mxM
theorem lJ {K K':Nat→Obj→Prop} (w:World) (b off c:Nat) (vy:Value) (zs ys:List Int) (h:IntsAt K w (.slice (some ⟨b,off,none⟩) zs.length c) zs) (hy:IntsAt K' w vy ys) (h16:zs.length≤12) (hym:ys.length≤maxLen):
 Calls Tryz.prog 116 #[.slice (some ⟨b,off,none⟩) zs.length c,vy] w fun e w'=>e=.returned (.bool (mV zs ys))∧w=w':=by
 have H:=zH h;have HH:Hid (∀x,Calls Tryz.prog 115 #[vy,.int .i64 x] w fun e w'=>e=.returned (.bool (jK ys x))∧w=w'):=fun x=>lK w vy ys x hy hym
 have HM:=zH (s_ w (some ⟨b,off,none⟩) zs.length c (by omega));have HE:Hid (∀k,k=zs.length→mV zs ys=decide (majI zs.length≤(cntI (zs.take k) ys:Int))):=fun k hk=>by subst hk;rw[List.take_length];rfl
 have HL:Hid (∀k,cntI (zs.take k) ys≤16):=fun k=>by have:=List.countP_le_length (p:=fun x=>jK ys x) (l:=zs.take k);rw[List.length_take] at this;unfold cntI;omega
 refine kKm ?_;intro N hN HN;rw[←hN] at h16 HM HE ⊢;clear h hN hy hym;generalize majI N=mj at *;go_enter Tryz.func116,Tryz.ntmps116
 go_wp2_with fail
 go_loop [5,6,7] (fun n i _=>∃k:Nat,k≤N∧i=.int .i64 k∧n=.int .i64 (cntI (zs.take k) ys:Nat)) (fun _ i _=>N-(intOf i).toNat)
 case atStart=>exact⟨0,Nat.zero_le _,rfl,rfl⟩
 case round=>
  obtain⟨k,hk,rfl,rfl⟩:=hrel;have hc16:=HL k;by_cases hlt:k<N
  ·refine kP7 ?_;intro l1 g1;have HC:=zH (Bx zs ys k l1);generalize hu:zs[k]=u at g1 HC;clear hu l1;have K7:=HH u;generalize hv:jK ys u=bb at HC K7;generalize hw:cntI (zs.take k) ys=cc at *;clear hv hw;go_wp2_with fail
   with_reducible refine K7.mono ?_
   rintro e1 w6 ⟨rfl,rfl⟩;clear K7;cases bb <;>
   ·go_wp2;go_round
    case rel=>exact⟨k+1,by omega,by go_num,by rw[HC.out];simp⟩
    case measure=>simp [intOf];omega
  ·obtain rfl:k=N:=by omega
   have HE2:=zH (HE k rfl);generalize hw:cntI (zs.take k) ys=cc at *;clear hw;go_wp2_with fail
   with_reducible refine HM.out.mono ?_
   rintro e1 w6 ⟨rfl,rfl⟩;go_wp2;go_ret;exact⟨by rw[HE2.out];rfl,rfl⟩
theorem J_ (zs ms:List Int) (k:Nat) (hk:k<zs.length) (h:k<(reachL zs ms zs.length).length):(reachL zs ms zs.length)[k]=atU ms zs[k]:=by
 unfold reachL;simp [List.getElem_map]
def cntG (l:List Int) (m:Int) (k:Nat):Nat:=(l.take k).countP fun x=>decide (m≤x)
theorem PY (l:List Int) (m:Int) (k:Nat) (hk:k<l.length):cntG l m (k+1)=cntG l m k+(decide (m≤l[k])).toNat:=by
 unfold cntG;rw[List.take_succ_eq_append_getElem hk,List.countP_append,List.countP_singleton];cases decide (m≤l[k]) <;> rfl
theorem cntG_le (l:List Int) (m:Int) (k:Nat):cntG l m k≤k:=by
 have:=List.countP_le_length (p:=fun x=>decide (m≤x)) (l:=l.take k);rw[List.length_take] at this;unfold cntG;omega
theorem q8 {K K':Nat→Obj→Prop} (w:World) (b off c:Nat) (vm:Value) (zs ms:List Int) (h:IntsAt K w (.slice (some ⟨b,off,none⟩) zs.length c) zs) (hq:NumsAt .u64 K' w vm ms) (hm:ms.length≤maxLen) (h16:zs.length≤12) (hp:∀x∈zs,0≤x∧x≤15):
 Calls Tryz.prog 78 #[.slice (some ⟨b,off,none⟩) zs.length c,vm] w fun e w'=>e=.returned (.int .u64 (bestK (reachL zs ms zs.length) zs.length))∧w=w':=by
 have H:=zH h;have HP:=zH hp
 have HA:Hid (∀x:Int,0≤x→x≤15→Calls Tryz.prog 113 #[vm,.int .i64 x] w fun e w'=>e=.returned (.int .u64 (atU ms x))∧w=w'):=fun x h0 h1=>by obtain⟨p,rfl⟩:=Int.eq_ofNat_of_zero_le h0;exact at_calls w vm ms p hq hm (by omega)
 have HM:=zH (s_ w (some ⟨b,off,none⟩) zs.length c (by omega))
 have HG:Hid (∀k,(hk:k<zs.length)→∃hk2:k<(reachL zs ms zs.length).length,(reachL zs ms zs.length)[k]=atU ms zs[k]):=fun k hk=>
  ⟨by rw[fV _ _ _ (Nat.le_refl _)];exact hk,J_ zs ms k hk _⟩
 have HLL:=zH (fV zs ms zs.length (Nat.le_refl _));refine kKm ?_;intro N hN HN;generalize reachL zs ms zs.length=L at *;have HG:Hid (∀k,(hk:k<zs.length)→∃hk2:k<L.length,L[k]=atU ms zs[k]):=HG;rw[←hN] at h16 HM HLL ⊢;clear h hN hq hm hp;obtain⟨mj,hmj⟩:∃mj,mj=N / 2+1:=⟨_,rfl⟩
 have HMJ:=zH hmj;have e0:majI N=(mj:Nat):=by unfold majI;omega
 rw[e0] at HM;clear hmj e0;go_enter Tryz.func78,Tryz.ntmps78
 go_wp2_with fail
 go_loop [5,6,7,8,9] (fun n i _ _ _=>∃k:Nat,k≤N∧i=.int .i64 k∧n=.int .u64 (bestK L k)) (fun _ i _ _ _=>N-(intOf i).toNat)
 case atStart=>exact⟨0,Nat.zero_le _,rfl,rfl⟩
 case round=>
  obtain⟨k,hk,rfl,rfl⟩:=hrel;by_cases hlt:k<N
  ·refine kP7 ?_;intro l1 g1;obtain⟨l2,e2⟩:=HG k l1;have p1:=HP _ (List.getElem_mem l1);have K1:=zH (HA _ p1.1 p1.2);have HB:=zH (tx L k l2);rw[e2] at HB;generalize atU ms zs[k]=m at *;generalize zs[k]=u at *;generalize bestK L k=bk at *
   have HB2:Hid (bestK L (k+1)=if mj≤cntG L m N∧bk<m then m else bk):=by rw[HB.out,HLL.out,←HMJ.out,show cntG L m N=L.countP fun x=>decide (m≤x) from by unfold cntG;rw[←HLL.out,List.take_length]];exact rfl
   clear e2 p1 HB l1 l2;go_wp2_with fail
   with_reducible refine K1.out.mono ?_
   rintro e1 w6 ⟨rfl,rfl⟩;clear K1;go_wp2_with fail
   go_loop [8,9] (fun n i=>∃j:Nat,j≤N∧i=.int .i64 j∧n=.int .i64 (cntG L m j:Nat)) (fun _ i=>N-(intOf i).toNat)
   case atStart=>exact⟨0,Nat.zero_le _,rfl,rfl⟩
   case round=>
    obtain⟨j,hj,rfl,rfl⟩:=hrel;have hc16:=cntG_le L m j;by_cases hlt2:j<N
    ·have l1:j<zs.length:=by rw[←HN.out];exact hlt2
     have g2:=H.cell l1;obtain⟨l2,e2⟩:=HG j l1;have p1:=HP _ (List.getElem_mem l1);have K1:=zH (HA _ p1.1 p1.2);have HC:=zH (PY L m j l2);rw[e2] at HC;generalize atU ms zs[j]=y at *;generalize zs[j]=z at *;generalize cntG L m j=cc at *;clear e2 p1 l1 l2;go_wp2_with fail
     with_reducible refine K1.out.mono ?_
     rintro e1 w6 ⟨rfl,rfl⟩;clear K1;by_cases hy:m≤y
     ·have HC2:Hid (cntG L m (j+1)=cc+1):=by rw[HC.out,decide_eq_true hy];exact rfl
      clear HC;go_wp2;go_round
      case rel=>exact⟨j+1,by omega,by go_num,by rw[HC2.out];simp⟩
      case measure=>simp [intOf];omega
     ·have HC2:Hid (cntG L m (j+1)=cc):=by rw[HC.out,decide_eq_false hy];exact rfl
      clear HC;go_wp2;go_round
      case rel=>exact⟨j+1,by omega,by go_num,by rw[HC2.out]⟩
      case measure=>simp [intOf];omega
    ·obtain rfl:j=N:=by omega
     generalize cntG L m j=cc at *;go_wp2_with fail
     with_reducible refine HM.out.mono ?_
     rintro e1 w6 ⟨rfl,rfl⟩;by_cases h1:mj≤cc
     ·by_cases h2:bk<m
      ·have HB3:Hid (bestK L (k+1)=m):=by rw[HB2.out,if_pos ⟨h1,h2⟩];exact rfl
       clear HB2;go_wp2;go_round
       case rel=>exact⟨k+1,by omega,by go_num,by rw[HB3.out]⟩
       case measure=>simp [intOf];omega
      ·have HB3:Hid (bestK L (k+1)=bk):=by rw[HB2.out,if_neg (fun q=>h2 q.2)];exact rfl
       clear HB2;go_wp2;go_round
       case rel=>exact⟨k+1,by omega,by go_num,by rw[HB3.out]⟩
       case measure=>simp [intOf];omega
     ·have HB3:Hid (bestK L (k+1)=bk):=by rw[HB2.out,if_neg (fun q=>h1 q.1)];exact rfl
      clear HB2;go_wp2;go_round
      case rel=>exact⟨k+1,by omega,by go_num,by rw[HB3.out]⟩
      case measure=>simp [intOf];omega
  ·obtain rfl:k=N:=by omega
   exact m6T
end Go.Proofs.YtmjccpfchhnfhaaGreat
