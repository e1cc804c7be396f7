/- Texts of the proofs, part 23: what the functions that they reach do, walked; no conditions beyond those that each states. -/
import Derived.Sort.WalkA
import Derived.Test.YtmjccpfchhnfhaaGreatZk52ab7ca237
import Derived.Test.YtmjccpfchhnfhaaGreatZkd219ffbc62
set_option linter.unusedVariables false
set_option linter.unusedSimpArgs false
set_option maxRecDepth 100000
set_option maxHeartbeats 8000000
namespace Go.Proofs.YtmjccpfchhnfhaaGreat
open Go.RowKit
section
open Go.Sort Go.Lib
theorem Gj (x y:Int) (w:World):Calls Tryz.prog 141 #[.int .u64 x,.int .u64 y] w fun e w'=>e=.returned (.bool (Sort.ltInt x y))∧w'=w:=by
 go_enter Tryz.func141,Tryz.ntmps141
 exact m6T
theorem KZ (blk off cap a b:Nat) (d:Array Int) (w:World) (hH:Holds (Value.int .u64) w blk off d) (hab:a≤b) (hb:b≤d.size) (hsz:d.size<4611686018427387904):
  Calls Tryz.prog 135 #[.slice (some ⟨blk,off,none⟩) d.size cap,.int .i64 a,.int .i64 b] w fun e w'=>
   e=.returned (.tuple #[])∧∃n,w'=putRow (Value.int .u64) (Sort.ahead w n) blk off (Sort.insertionSort ltInt d a b):=by
 go_enter Tryz.func135,Tryz.ntmps135
 go_wp2
 go_loopw [6] (fun vi wr=>∃(i n:Nat) (dk:Array Int),vi=.int .i64 i∧a<i∧i≤b+1∧dk.size=d.size∧wr=putRow (Value.int .u64) (Sort.ahead w n) blk off dk∧
   insOuter ltInt a b i dk=insOuter ltInt a b (a+1) d) (fun vi _=>b+1-(intOf vi).toNat)
 case atStart=>exact⟨a+1,0,d,by go_num,by omega,by omega,rfl,(putRow_self _ _ _ _ _ hH).symm,rfl⟩
 case round=>
  obtain⟨i,n,dk,rfl,hai,hib,hsk,hwr,hO⟩:=hrel
  have HO:Hid (insOuter ltInt a b i dk=insOuter ltInt a b (a+1) d):=hO
  clear hO
  go_wp2
  ·-- i<b: the inner loop
   go_loopw [7] (fun vj wr2=>∃(j m:Nat) (dj:Array Int),vj=.int .i64 j∧a≤j∧j≤i∧dj.size=d.size∧wr2=putRow (Value.int .u64) (Sort.ahead w m) blk off dj∧
     insInner ltInt a j dj=insInner ltInt a i dk) (fun vj _=>(intOf vj).toNat)
   case atStart=>exact⟨i,n,dk,rfl,by omega,Nat.le_refl _,hsk,rfl,rfl⟩
   case round=>
    obtain⟨j,m,dj,rfl,haj,hji,hsj,hw2,hI⟩:=hrel
    have hlt:i<b:=by assumption
    -- the row's contents under a name of their own (the authors' find: with 'j < d.size' at hand the walk's simp turns 'dj[j]!' into 'dj[j]'); its two families: Derived/CellFam.lean serves every load and store from them
    obtain⟨G,hG⟩:∃G:Nat→Int,∀t,G t=dj[t]!:=⟨fun t=>dj[t]!,fun _=>rfl⟩
    have hcw:∀t,t<d.size→wr.cell? ⟨blk,off+t,none⟩=some (.int .u64 (G t)):=fun t ht=>by
     rw[hw2,hG];exact cell?_putRow _ _ _ _ d dj (holds_ahead _ _ _ _ _ _ hH) hsj t (by omega)
    have hfw:∀t,t<d.size→wr.frozen? ⟨blk,off+t,none⟩=false:=fun t ht=>by
     rw[hw2,frozen?_putRow];exact((holds_ahead _ _ m _ _ _ hH) t ht).2
    have HW:Hid (wr=putRow (Value.int .u64) (Sort.ahead w m) blk off dj):=hw2
    have HG:Hid (∀t,G t=dj[t]!):=hG
    have HI:Hid (insInner ltInt a j dj=insInner ltInt a i dk):=hI
    clear hw2 hG hI hH
    -- out of the inner loop: dj is what the inner loop makes of dk: the outer round's end
    have out:(j≤a∨ltInt dj[j]! dj[j-1]! = false)→∀q,∃i' n' dk',Value.int .i64 ((i:Int)+1)=.int .i64 (i':Nat)∧a<i'∧i'≤b+1∧dk'.size=d.size∧
      wr.drewN q=putRow (Value.int .u64) (Sort.ahead w n') blk off dk'∧insOuter ltInt a b i' dk'=insOuter ltInt a b (a+1) d:=fun hs q=>
     ⟨i+1,m+q,dj,by go_num,by omega,by omega,hsj,by rw[HW.out];exact putRow_drewN _ _ _ _ _ _ _,
      by rw[←HO.out,insOuter_go _ _ _ _ _ hlt,←HI.out,insInner_stop _ _ _ _ hs]⟩
    have OUT:Hid _:=out
    clear out
    go_wp2
    by_cases hja:a<j
    ·go_quiet (first | (go_at_call 141;refine Calls.quiet_of_same (Gj _ _ _)))
     go_wp2
     ·-- Less: the swap,j--
      have hl:ltInt (G j) (G (j-1))=true:=by assumption
      go_region
      all_goals go_wp2
      go_roundw
      case rel=>
       refine⟨j-1,m+(nq+1),swp dj j (j-1),by congr 1;omega,by omega,by omega,by rw[size_swp];exact hsj,?_,?_⟩
       ·rw[HW.out,HG.out,HG.out]
        exact swap_worldA _ w m (nq+1) blk off dj j (j-1) (by omega) (by omega)
       ·rw[←HI.out,insInner_go ltInt a j dj hja (by rw[←HG.out,←HG.out];exact hl)]
      case measure=>simp [intOf];omega
     ·-- not Less
      have hl:ltInt (G j) (G (j-1))=false:=by assumption
      go_roundw
      case rel=>exact OUT.out (Or.inr (by rw[←HG.out,←HG.out];exact hl)) nq
      case measure=>simp [intOf];omega
    ·go_quiet (first | (go_at_call 141;refine Calls.quiet_of_same (Gj _ _ _)))
     go_wp2
     go_roundw
     case rel=>exact OUT.out (Or.inl (by omega)) nq
     case measure=>simp [intOf];omega
  ·-- the outer loop is at its end
   have hge:¬i<b:=by assumption
   go_end0
   exact⟨rfl,n,by unfold Sort.insertionSort;rw[←HO.out,insOuter_stop _ _ _ _ _ hge]⟩
end
section
open Go.Sort Go.Lib
theorem M9 (blk off cap:Nat) (d:Array Int) (w:World) (lim:Int) (hH:Holds (Value.int .u64) w blk off d) (hb:d.size≤12):
 Calls Tryz.prog 129 #[.slice (some ⟨blk,off,none⟩) d.size cap,.int .i64 0,.int .i64 d.size,.int .i64 lim] w fun e w'=>
  e=.returned (.tuple #[])∧∃n,w'=putRow (Value.int .u64) (Sort.ahead w n) blk off (Sort.insertionSort ltInt d 0 d.size):=by
 have HI:Hid (Calls Tryz.prog 135 #[.slice (some ⟨blk,off,none⟩) d.size cap,.int .i64 0,.int .i64 d.size] w fun e w'=>e=.returned (.tuple #[])∧∃n,w'=putRow (Value.int .u64) (Sort.ahead w n) blk off (Sort.insertionSort ltInt d 0 d.size)):=zH (KZ blk off cap 0 d.size d w hH (by omega) (by omega) (by omega));generalize Sort.insertionSort ltInt d 0 d.size=dd at HI ⊢;clear hH;generalize d.size=N at HI hb ⊢;go_enter Tryz.func129,Tryz.ntmps129
 go_wp2;go_loopw [1,2,3] (fun i j l wr=>i=.int .i64 0∧j=.int .i64 (N:Int)∧l=.int .i64 lim∧wr=w) (fun _ _ _ _=>0)
 case atStart=>exact⟨rfl,rfl,rfl,rfl⟩
 case round=>
  obtain⟨rfl,rfl,rfl,rfl⟩:=hrel;go_wp2_with fail
  with_reducible refine HI.out.mono ?_
  rintro e1 w1 ⟨rfl,hw⟩;have HW:=zH hw;clear hw HI;go_wp2;exact bodyPost_ret (results_none rfl _ _ _) rfl ⟨rfl,HW⟩
theorem Jz (blk off cap:Nat) (d:Array Int) (w:World) (hH:Holds (Value.int .u64) w blk off d) (hb:d.size≤12):
 Calls Tryz.prog 111 #[.slice (some ⟨blk,off,none⟩) d.size cap] w fun e w'=>
  e=.returned (.tuple #[])∧∃n,w'=putRow (Value.int .u64) (Sort.ahead w n) blk off (Sort.insertionSort ltInt d 0 d.size):=by
 have HP:=fun lim=>zH (M9 blk off cap d w lim hH hb)
 have HB:Hid (∃bl:Int,Calls Tryz.prog 130 #[.int .u64 (d.size:Int)] w fun e w'=>e=.returned (.int .i64 bl)∧w'=w):=⟨_,Any.bits_Len Tryz.lays125 d.size w (by omega) (by omega)⟩
 generalize Sort.insertionSort ltInt d 0 d.size=dd at HP ⊢;clear hH;generalize d.size=N at HP HB hb ⊢;go_enter Tryz.func111,Tryz.ntmps111
 obtain⟨bl,hbl⟩:=HB.out;have HL:=zH hbl;clear hbl HB;go_wp2_with fail
 with_reducible refine HL.out.mono ?_
 rintro e1 w1 ⟨rfl,rfl⟩;go_wp2_with fail
 with_reducible refine(HP _).out.mono ?_
 rintro e1 w1 ⟨rfl,hw⟩;have HW:=zH hw;clear hw HP HL;go_wp2;go_end0;exact⟨rfl,HW.out⟩
end
theorem Fr.ahead {K:Nat→Obj→Prop} {a w:World} (h:Fr K a w) (n:Nat):Fr K a (Sort.ahead w n):=⟨h.os,h.tape,h.output,h.size,h.keep⟩
theorem Gy:(Tryz.prog.info? 23).map (fun i=>(i.zero,i.size,i.bytes))=some (some (.int .u64 0),1,8):=by kernel_rfl
def RowU (w:World) (B:Nat) (v:Value) (zs:List Int):Prop:=w.ownsRow B 23 1 v zs.length (zs.map (Value.int .u64))
theorem RowU.tt {w w':World} {B:Nat} {v:Value} {zs:List Int} (h:RowU w B v zs) (hf:FT w w'):RowU w' B v zs:=bK h hf fun _ _ _ _=>trivial
theorem RowU.nil (w:World) (B:Nat):RowU w B (.slice none 0 0) []:=⟨rfl,.inl ⟨rfl,rfl⟩⟩
theorem RowU.form {w:World} {B:Nat} {v:Value} {zs:List Int} (h:RowU w B v zs):∃a c,v=.slice a zs.length c:=by
 exact m35
theorem RowU.parts {w:World} {B:Nat} {v:Value} {zs:List Int} (h:RowU w B v zs) (h0:0<zs.length):∃g cap,v=.slice (some ⟨g,0,none⟩) zs.length cap∧B≤g∧g<w.heap.size∧Sort.Holds (Value.int .u64) w g 0 zs.toArray:=by
 obtain⟨h1,h2⟩:=h;rcases h2 with⟨hv,hn⟩ | ⟨g,cap,cur,hv,hg,hh,hn,hc,hs,ht⟩
 ·omega
 ·refine⟨g,cap,hv,hg,bX hh,fun k hk=>⟨?_,bV hh⟩⟩;have hk':k<zs.length:=by simpa using hk
  have e1:cur.toList[k]? = (zs.map (Value.int .u64))[k]?:=by rw[←ht,List.getElem?_take,if_pos (by omega)]
  have e2:cur[k]? = some (Value.int .u64 zs[k]):=by rw[←Array.getElem?_toList,e1];simp [hk']
  rw[Nat.zero_add,bQ hh e2];simp [hk']
theorem dz {ops:Array Oper} {rest:List Oper} {o:Oper} {a:Act} {Q:Exit→Act→World→Prop} (W0 W1:World) (y:Int) (hF:Hid (FT W0 W1)) (hgd:o.guard=none) (s x:Operand)
 (ho:o.op=.call { callee:=.builtin .append,args:=#[s,x],argTypes:=#[27,27] }) (v:Value) (xs:List Int) (hs:a.eval s=v) (hown:Hid (RowU W1 W0.heap.size v xs))
 (hx:a.eval x=.slice (some ⟨W1.heap.size,0,none⟩) 1 1) (r:List Int) (hr:Hid (xs++[y]=r)) (hn:r.length≤2000000)
 (h:∀a' c' w',Hid (RowU w' W0.heap.size (.slice a' r.length c') r)→Hid (FT W0 w')→wpList Tryz.prog ops Q rest (a.put o.dst (.slice a' r.length c')) w'):
 wpList Tryz.prog ops Q (o :: rest) a (W1.alloc (.cells #[.int .u64 y] 23 (0,0))):=by
 obtain⟨i0,hi,hz0,hz1,hz2⟩:=info_parts Gy;have hr:=hr;subst hr;rw[List.length_append,List.length_singleton] at hn
 have hsrc:sX (W1.alloc (.cells #[.int .u64 y] 23 (0,0))) 1 (.slice (some ⟨W1.heap.size,0,none⟩) 1 1) 1 [Value.int .u64 y]:=by
  refine .inr ⟨_,1,rfl,rfl,fun j u hu=>?_,fun u hu=>by obtain rfl:=List.mem_singleton.1 hu;rfl⟩;rcases j with _ | j
  ·cases hu;rw[B6];exact bQ (bZ _ _) rfl
  ·simp at hu
 refine cj _ hgd s x 27 ho W0.heap.size 23 i0 (.int .u64 0) 1 8 Tryz.underlying27 hi hz0 hz1 hz2 rfl (by decide) v xs.length (xs.map (Value.int .u64)) hs (hown.out.tt ((Fr.refl _ _).alloc _)) _ 1 [Value.int .u64 y] hx hsrc (by unfold maxLen;omega) (by omega) (by have:=hF.out.size;simp;omega) ?_;intro v' w' h1 h2 _;have e1:xs.map (Value.int .u64)++[Value.int .u64 y]=(xs++[y]).map (Value.int .u64):=by simp
 have e2:xs.length+1=(xs++[y]).length:=by simp
 rw[e1,e2] at h1;obtain⟨a',c',rfl⟩:=RowU.form h1;exact h a' c' w' h1 ((hF.alloc _).grown_new h2 (d_ hown))
theorem Fr.putRowU {K:Nat→Obj→Prop} {a w:World} (h:Fr K a w) {g:Nat} (hp:∀o,a.heap[g]? = some o→¬K g o) (off:Nat) (d:Array Int):Fr K a (Sort.putRow (Value.int .u64) w g off d):=by
 refine⟨h.os,h.tape,h.output,by rw[Sort.size_putRow];exact h.size,fun b o hb hk=>?_⟩;have hne:b≠g:=fun e=>hp o (e▸hb) (e▸hk)
 have:=h.keep b o hb hk;rw[←this];simp only[Sort.putRow,Sort.mapBlock];rw[Array.getElem?_modify,if_neg (fun e=>hne e.symm)]
def atU (ms:List Int) (n:Int):Int:=if n<ms.length then ms.getD n.toNat 0 else 0
def reachL (zs ms:List Int) (k:Nat):List Int:=(zs.take k).map (atU ms)
theorem C_ (zs ms:List Int) (k:Nat) (hk:k<zs.length):reachL zs ms k++[atU ms zs[k]]=reachL zs ms (k+1):=by
 unfold reachL;rw[List.take_succ_eq_append_getElem hk,List.map_append];rfl
theorem fV (zs ms:List Int) (k:Nat) (hk:k≤zs.length):(reachL zs ms k).length=k:=by unfold reachL;simp;omega
theorem s_ (w:World) (a:Option Addr) (n c:Nat) (hm:n≤2000000):Calls Tryz.prog 114 #[.slice a n c] w fun e w'=>e=.returned (.int .i64 (majI n))∧w=w':=by
 go_enter Tryz.func114,Tryz.ntmps114
 go_wp2;go_loop [3] (fun r=>∃k:Nat,k≤n / 2+1∧r=.int .i64 k) (fun r=>n+1-(intOf r).toNat)
 case atStart=>exact⟨0,Nat.zero_le _,rfl⟩
 case round=>
  obtain⟨k,hk,rfl⟩:=hrel;by_cases h2:2*(k:Int)≤n
  ·go_wp2;go_round
   case rel=>exact⟨k+1,by omega,by go_num⟩
   case measure=>simp [intOf];omega
  ·have e:majI n=(k:Nat):=by unfold majI;omega
   have E:=zH e;clear e;go_wp2;go_ret;exact⟨by rw[E.out];rfl,rfl⟩

def srt (l:List Int):List Int:=l.mergeSort fun x y=>decide (x≤y)
theorem m8 (l:List Int):(srt l).Perm l:=List.mergeSort_perm _ _
theorem kK (l:List Int):(srt l).length=l.length:=(m8 l).length_eq
theorem sj (l:List Int):(srt l).Pairwise (·≤·):=by
 have:=List.pairwise_mergeSort (le:=fun(x y:Int)=>decide (x≤y)) (fun a b c h1 h2=>by simp at *;omega) (fun a b=>by simp;omega) l;exact this.imp fun h=>by simpa using h
def midV (l:List Int):Int:=(srt l).getD (l.length-(l.length / 2+1)) 0
theorem Dq {l:List Int} (h:0<l.length):midV l∈l:=by
 unfold midV;have hk:l.length-(l.length / 2+1)<(srt l).length:=by rw[kK];omega
 rw[show (srt l).getD (l.length-(l.length / 2+1)) 0=(srt l)[l.length-(l.length / 2+1)] from by simp [List.getD,hk]];exact(m8 l).mem_iff.1 (List.getElem_mem hk)
theorem mid_ge {l:List Int} (h:0<l.length):l.length / 2+1≤l.countP fun x=>decide (midV l≤x):=by
 have hk:l.length-(l.length / 2+1)<(srt l).length:=by rw[kK];omega
 rw[←(m8 l).countP_eq];have hs:=sj l;have hl:=kK l;unfold midV;rw[show (srt l).getD (l.length-(l.length / 2+1)) 0=(srt l)[l.length-(l.length / 2+1)] from by simp [List.getD,hk]];generalize srt l=S at *
 have h1:(S.drop (l.length-(l.length / 2+1))).countP (fun x=>decide (S[l.length-(l.length / 2+1)]≤x))=(S.drop (l.length-(l.length / 2+1))).length:=by
  rw[List.countP_eq_length];intro x hx;obtain⟨i,hi,rfl⟩:=List.mem_iff_getElem.1 hx;rw[List.getElem_drop];rw[List.length_drop] at hi;rw[decide_eq_true_eq];by_cases h0:i=0
  ·subst h0;exact Int.le_refl _
  ·exact List.pairwise_iff_getElem.1 hs _ _ hk (by omega) (by omega)
 have h2:(S.drop (l.length-(l.length / 2+1))).countP (fun x=>decide (S[l.length-(l.length / 2+1)]≤x))≤S.countP (fun x=>decide (S[l.length-(l.length / 2+1)]≤x)):=(List.drop_sublist _ S).countP_le;rw[h1,List.length_drop] at h2;omega
theorem mid_gt {l:List Int} (h:0<l.length):(l.countP fun x=>decide (midV l<x))<l.length / 2+1:=by
 have hk:l.length-(l.length / 2+1)<(srt l).length:=by rw[kK];omega
 rw[←(m8 l).countP_eq];have hs:=sj l;have hl:=kK l;unfold midV;rw[show (srt l).getD (l.length-(l.length / 2+1)) 0=(srt l)[l.length-(l.length / 2+1)] from by simp [List.getD,hk]];generalize srt l=S at *;generalize hv:S[l.length-(l.length / 2+1)]=v
 have h1:(S.take (l.length-(l.length / 2+1)+1)).countP (fun x=>decide (v<x))=0:=by
  rw[List.countP_eq_zero];intro x hx;obtain⟨i,hi,rfl⟩:=List.mem_iff_getElem.1 hx;rw[List.getElem_take];rw[List.length_take] at hi;rw[decide_eq_true_eq,←hv];by_cases h0:i=l.length-(l.length / 2+1)
  ·subst h0;omega
  ·have:=List.pairwise_iff_getElem.1 hs i (l.length-(l.length / 2+1)) (by omega) hk (by omega);omega
 have h2:S.countP (fun x=>decide (v<x))=(S.take (l.length-(l.length / 2+1)+1)).countP (fun x=>decide (v<x))+(S.drop (l.length-(l.length / 2+1)+1)).countP (fun x=>decide (v<x)):=by rw[←List.countP_append,List.take_append_drop]
 have h3:=List.countP_le_length (p:=fun x=>decide (v<x)) (l:=S.drop (l.length-(l.length / 2+1)+1));rw[List.length_drop] at h3;omega
def bestK (l:List Int) (k:Nat):Int:=(l.take k).foldl (fun b m=>if l.length / 2+1≤(l.countP fun x=>decide (m≤x))∧b<m then m else b) 0
theorem tx (l:List Int) (k:Nat) (hk:k<l.length):bestK l (k+1)=if l.length / 2+1≤(l.countP fun x=>decide (l[k]≤x))∧bestK l k<l[k] then l[k] else bestK l k:=by
 unfold bestK;rw[List.take_succ_eq_append_getElem hk,List.foldl_append];rfl
theorem Pv {l:List Int} (h:0<l.length) (h0:∀x∈l,0≤x):∀k,k≤l.length→0≤bestK l k∧bestK l k≤midV l∧∀i,(hi:i<l.length)→i<k→l[i]=midV l→bestK l k=midV l
 | 0,_=>⟨by simp [bestK],by have:=h0 _ (Dq h);simpa [bestK] using this,fun i _ hi=>by omega⟩
 | k+1,hk=>by
  obtain⟨a,b,c⟩:=Pv h h0 k (by omega);rw[tx l k (by omega)];have hb:=mid_gt h;split
  next hc=>
   have hle:l[k]≤midV l:=by
    apply Classical.byContradiction;intro hn;have d:(l.countP fun x=>decide (l[k]≤x))≤l.countP fun x=>decide (midV l<x):=List.countP_mono_left fun x _ hx=>by simp at hx ⊢;omega
    omega
   refine⟨by omega,hle,fun i hi hik e=>?_⟩;by_cases q:i=k
   ·subst q;exact e
   ·have:=c i hi (by omega) e;omega
  next hc=>
   refine⟨a,b,fun i hi hik e=>?_⟩;by_cases q:i=k
   ·subst q;have ha:=mid_ge h;rw[e] at hc;have:¬bestK l i<midV l:=fun q=>hc ⟨ha,q⟩
    omega
   ·exact c i hi (by omega) e
theorem best_eq {l:List Int} (h:0<l.length) (h0:∀x∈l,0≤x):bestK l l.length=midV l:=by
 obtain⟨i,hi,e⟩:=List.mem_iff_getElem.1 (Dq h);exact(Pv h h0 l.length (Nat.le_refl _)).2.2 i hi hi e
namespace Nd
def askT (n:Nd):Nd×List Ms:=
 if jK n.conf n.me then
  let n1:Nd:={ n with tm:=n.tm+1,vote:=n.me,role:=2,ld:=-1,yes:=[n.me] }
  if mV n.conf [n.me] then(n1.lead,[]) else(n1,n1.toAll { zMs with kind:=1,tm:=n.tm+1,index:=n.log.last,prev:=n.log.lastT })
 else(n,[])
def askF (n:Nd):Nd×List Ms:=
 if jK n.conf n.me then
  let n1:Nd:={ n with role:=1,ld:=-1,yes:=[n.me] }
  if mV n.conf [n.me] then n1.askT else(n1,n1.toAll { zMs with kind:=3,tm:=n.tm+1,index:=n.log.last,prev:=n.log.lastT })
 else(n,[])
def chosen (n:Nd):Nd×List Ms:=if n.role=1 then n.askT else(n.lead,[])
def would (n:Nd) (m:Ms):Bool:=
 if m.kind=3 then decide (n.tm<m.tm)&&!n.heard else decide (m.tm=n.tm)&&((decide (n.vote=-1)||decide (n.vote=m.src))&&decide (n.role=0))
def onAsk (n:Nd) (m:Ms):Nd×List Ms:=
 if m.kind=1∨m.kind=3 then
  let n1:Nd:=if m.kind=1∧n.tm<m.tm then n.follow m.tm (-1) else n
  let ok:=n1.log.newer m.prev m.index&&n1.would m
  (if ok=true∧m.kind=1 then { n1 with vote:=m.src } else n1,[{ zMs with kind:=m.kind+1,src:=n.me,dst:=m.src,tm:=if ok=true∧m.kind=3 then m.tm else n1.tm,ok:=ok }])
 else(n,[])
def counts (n:Nd) (m:Ms):Bool:=
 m.ok&&((decide (n.role=2∧m.kind=2∧m.tm=n.tm)||decide (n.role=1∧m.kind=4∧m.tm=n.tm+1))&&(jK n.conf m.src&&!jK n.yes m.src))
def onAnswer (n:Nd) (m:Ms):Nd×List Ms:=
 if m.kind=2∨m.kind=4 then
  let n1:Nd:=if n.tm<m.tm∧(m.ok=false∨m.kind=2) then n.follow m.tm (-1) else n
  if n1.counts m then
   let n2:Nd:={ n1 with yes:=n1.yes++[m.src] }
   if mV n2.conf n2.yes then n2.chosen else(n2,[])
  else(n1,[])
 else(n,[])
def sureR (n:Nd) (r:Nat):Nd:=if n.role=3∧(n.log.term r)=(n.tm,true)∧n.commit<r then { n with commit:=r } else n
def sendTo (n:Nd) (x:Int):List Ms:=
 if n.role≠3∨x=n.me∨x<0∨15<x∨n.next.getD x.toNat 0≤n.log.base then[]
 else[{ zMs with kind:=5,src:=n.me,dst:=x,tm:=n.tm,index:=n.next.getD x.toNat 0-1,prev:=(n.log.term (n.next.getD x.toNat 0-1)).1,commit:=n.commit,es:=n.log.slice (n.next.getD x.toNat 0) 8 }]
def beat (n:Nd):List Ms:=n.others.flatMap n.sendTo
def behind (n:Nd):List Int:=if n.role=3 then n.others.filter fun x=>decide (n.next.getD x.toNat 0≤n.log.base) else[]
def taken (n:Nd) (m:Ms):Nd×List Ms:=
 if(n.log.append m.index m.prev m.es).2=60 then(n,[{ zMs with kind:=6,src:=n.me,dst:=m.src,index:=m.index,tm:=n.tm,prev:=n.log.hint m.index }])
 else({ n with log:=(n.log.append m.index m.prev m.es).1,commit:=max n.commit (min m.commit (m.index+m.es.length)) },[{ zMs with kind:=6,src:=n.me,dst:=m.src,index:=m.index+m.es.length,tm:=n.tm,ok:=true }])
def onAppend (n:Nd) (m:Ms):Nd×List Ms:=
 if m.kind≠5 then(n,[]) else if m.tm<n.tm then(n,[{ zMs with kind:=6,src:=n.me,dst:=m.src,index:=m.index,tm:=n.tm }]) else({ n.follow m.tm m.src with heard:=true }:Nd).taken m
def reach (n:Nd):Nat:=(midV (reachL n.conf (n.mat.map fun(x:Nat)=>(x:Int)) n.conf.length)).toNat
def sure (n:Nd):Nd:=n.sureR n.reach
def propose (n:Nd) (kind:Int) (data:List UInt8):Nd×Nat×Int:=
 if n.role≠3 then(n,0,70) else if kind<1∨255<kind then(n,0,30) else if 24<data.length then(n,0,2) else
  (({ n with log:=n.log.add ⟨n.tm,kind,data⟩,mat:=n.mat.set n.me.toNat (n.log.last+1) }:Nd).sure,n.log.last+1,0)
def acked (n:Nd) (m:Ms):Nd:=
 if m.ok=false then { n with next:=n.next.set m.src.toNat (max (n.mat.getD m.src.toNat 0+1) (min m.index (m.prev+1))) }
 else if m.index≤n.log.last then({ n with mat:=n.mat.set m.src.toNat (max (n.mat.getD m.src.toNat 0) m.index),next:=n.next.set m.src.toNat (max (n.mat.getD m.src.toNat 0) m.index+1) }:Nd).sure else n
def onAcked (n:Nd) (m:Ms):Nd×List Ms:=
 if m.kind≠6 then(n,[]) else if n.tm<m.tm then(n.follow m.tm (-1),[]) else if m.tm<n.tm∨n.role≠3∨m.src=n.me∨m.src<0∨15<m.src then(n,[]) else
  if m.ok=true∧(n.acked m).log.last<(n.acked m).next.getD m.src.toNat 0 then(n.acked m,[]) else(n.acked m,(n.acked m).sendTo m.src)
end Nd
end Go.Proofs.YtmjccpfchhnfhaaGreat
