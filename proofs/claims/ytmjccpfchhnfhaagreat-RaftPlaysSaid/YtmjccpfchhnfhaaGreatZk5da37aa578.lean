/- Texts of the proofs, part 50: what the functions that they reach do, walked; no conditions beyond those that each states. -/
import Derived.Test.YtmjccpfchhnfhaaGreatZk9caa21adf8
set_option linter.unusedVariables false
set_option linter.unusedSimpArgs false
set_option maxRecDepth 100000
set_option maxHeartbeats 8000000
namespace Go.Proofs.YtmjccpfchhnfhaaGreat
open Go.RowKit
theorem kGw {p q:Prop} (k:q) (h:q→p:=by
 have e1:D.getD j (0,0)=D[j]:=by rw[List.getD_eq_getElem?_getD,List.getElem?_eq_getElem hjD];rfl
 have e2:D.getD i (0,0)=D[i]:=by rw[List.getD_eq_getElem?_getD,List.getElem?_eq_getElem hiD];rfl
 intro kk0;revert e2;revert e1;exact kk0):p:=h k
structure Dc [Old] (B:Nat) (X:Nat→Prop) (w:World) (l:List Rx) (D:List (Nat×Nat)) (vr:Value):Prop where
 row:w.ownsRow B 67 1 vr D.length (D.map fun d=>.pointer (some ⟨d.1,0,none⟩))
 xr:∀k,vr.ownBlock=some k→¬X k
 dl:D.length=l.length
 dn:∀i,(h:i<l.length)→DN X w (D.getD i (0,0)).2 l[i].n
 dr:∀i,(h:i<l.length)→RD w (D.getD i (0,0)).1 (D.getD i (0,0)).2 l[i].ap
 rx:∀d∈D,¬X d.1∧B≤d.1
 dp:∀d∈D,∀x∈l,¬x.P d.2
 dd:D.Pairwise fun x y=>x.1≠y.1∧x.2≠y.2
section
variable {B:Nat} {X X' P':Nat→Prop} {w w' w1 w2:World} {G:Nat} {l:List Rx} {ms:List MV} {tk:List (Value×Nat)} {many:Int} {vn vm vt vr:Value} {D:List (Nat×Nat)}
theorem DN.keep [Old] [bj] {b:Nat} {n:Nd} (h:DN X w b n) {K:Nat→Obj→Prop} (hf:Fr K w w') (hk:∀c o,w.heap[c]? = some o→X c∨RO X c o→K c o):DN X w' b n:=by
 obtain⟨q,h⟩:=h;have ints:∀{v l},IntsAt (RO X) w v l→IntsAt (RO X) w' v l:=fun {v l} hv=>(((hv.mono3 (K':=fun c o=>RO X c o∧K c o) fun c o ho hr=>⟨hr,hk c o ho (.inr hr)⟩).fr hf fun c o q=>q.2).mono fun c o q=>q.1)
 exact⟨q,hf.keep _ _ h.top (hk _ _ h.top (.inl h.xb)),ints h.cf,ints h.ye,h.ev.fr hf fun c o ho hr=>hk c o ho (.inr hr),h.ee,h.nl,h.ml,h.xb,fun c hc=>Nat.lt_of_lt_of_le (h.hx c hc) hf.size,h.od⟩
theorem mJ {i:Nat} (h:i<D.length):D.getD i (0,0)∈D:=by
 rw[List.getD_eq_getElem?_getD,List.getElem?_eq_getElem h];exact List.getElem_mem h
theorem Dc.keep [Old] [bj] (h:Dc B X w l D vr) {K:Nat→Obj→Prop} (hf:Fr K w w') (hk:∀c o,w.heap[c]? = some o→(X c∨RO X c o)→K c o) (h1:∀c cs fz,w.heap[c]? = some (.cells cs 78 fz)→K c (.cells cs 78 fz)) (h2:∀c cs fz,w.heap[c]? = some (.cells cs 67 fz)→K c (.cells cs 67 fz)):Dc B X w' l D vr:=by
 refine⟨bK h.row hf fun k o e ho=>?_,h.xr,h.dl,fun i hi=>(h.dn i hi).keep hf hk,fun i hi=>hf.keep _ _ (h.dr i hi) (h1 _ _ _ (h.dr i hi)),h.rx,h.dp,h.dd⟩;obtain⟨cur,e0⟩:=cZ h.row e;rw[ho] at e0;cases e0;exact h2 _ _ _ ho
theorem Dc.tt [Old] [bj] (h:Dc B X w l D vr) (f:FT w w'):Dc B X w' l D vr:=h.keep f (fun _ _ _ _=>trivial) (fun _ _ _ _=>trivial) fun _ _ _ _=>trivial
theorem G13.far [Old] [bj] (h:G13 B X w G l ms tk many vn vm vt) {d:Nat} (hd:X d) (hp:∀x∈l,¬x.P d) (f:Fr (fun c _=>c≠d) w w'):G13 B X w' G l ms tk many vn vm vt:=by
 have ne:∀{k},¬X k→k≠d:=fun hk e=>hk (e▸hd)
 have rw':∀{e:TypeId} {s:Nat} {v:Value} {n:Nat} {xs:List Value},w.ownsRow B e s v n xs→(∀k,v.ownBlock=some k→¬X k)→w'.ownsRow B e s v n xs:=fun hv h1=>bK hv f fun k o e ho=>ne (h1 k e)
 have a:Aft X (·=d) X (·=d) w w':=.of (f.mono fun c _ hc e=>hc e) (fun c e=>e▸hd);have hx:∀k,X k→k<w'.heap.size:=fun k hk=>Nat.lt_of_lt_of_le (h.hx k hk) f.size
 exact⟨f.keep _ _ h.top (ne h.gx),h.lg,h.lx,h.gx,rw' h.rn h.xn,h.xn,⟨rw' h.rm.row h.rm.off,h.rm.off,fun m hm=>(h.rm.at' m hm).keep f fun c o ho hr=>ne hr.1⟩,rw' h.rt h.xt,h.xt,h.tl,fun x hx=>by
  obtain⟨⟨xs,h1⟩,h2⟩:=h.ts x hx;exact⟨⟨xs,rw' h1 h2⟩,h2⟩,h.td,fun x hx'=>by
  obtain⟨q,hq⟩:=h.nd x hx';exact⟨q,hq.far a (fun c hc e=>hp x hx' (e▸hc)) hx⟩,h.dj,fun x hx=>⟨(h.rb x hx).1.fr f fun _=>ne (h.rb x hx).2.1,(h.rb x hx).2⟩,h.rd,hx⟩
theorem Dc.turn [Old] [bj] (h:Dc B X w l D vr) (hg:G13 B X w G l ms tk many vn vm vt) (i:Nat) (hi:i<l.length) {n':Nd} (hp:PN X' P' w1 l[i].b n') (ha:Aft X l[i].P X' P' w w1) (hd:DN X' w2 (D.getD i (0,0)).2 n') (hf:Fr (fun c _=>c≠(D.getD i (0,0)).2) w1 w2):
 G13 B X' w2 G (l.set i ⟨l[i].b,l[i].rb,n',l[i].ap,P'⟩) ms tk many vn vm vt∧Dc B X' w2 (l.set i ⟨l[i].b,l[i].rb,n',l[i].ap,P'⟩) D vr:=by
 obtain⟨qp,hpq⟩:=hp;have hx':=hpq.hx;obtain⟨q,hdq⟩:=hd;have hiD:i<D.length:=by rw[h.dl];exact hi
 have g1:=hg.turn i hi ⟨qp,hpq⟩ ha;obtain⟨q0,h0⟩:=h.dn i hi
 have np:∀x∈l.set i ⟨l[i].b,l[i].rb,n',l[i].ap,P'⟩,∀d∈D,¬x.P d.2:=fun x hx d hd hc=>by
  obtain⟨j,hj,rfl⟩:=List.mem_iff_getElem.1 hd;have hj':j<l.length:=by rw[←h.dl];exact hj
  obtain⟨qj,hqj⟩:=h.dn j hj';have e0:D.getD j (0,0)=D[j]:=by rw[List.getD_eq_getElem?_getD,List.getElem?_eq_getElem hj];rfl
  rw[e0] at hqj;have hlt:=bX hqj.top;rcases List.mem_or_eq_of_mem_set hx with hx | rfl
  ·exact h.dp _ (List.getElem_mem hj) x hx hc
  ·rcases ha.nw _ hc with k | k
   ·exact h.dp _ (List.getElem_mem hj) _ (List.getElem_mem hi) k
   ·omega
 have g2:=g1.far (w':=w2) (d:=(D.getD i (0,0)).2) hdq.xb (fun x hx=>np x hx _ (mJ hiD)) hf;refine⟨g2,?_⟩;have lt1:∀{k o},w.heap[k]? = some o→¬X k→¬l[i].P k∧¬X' k:=fun ho hk=>ha.off ho hk
 have ne2:∀{k},¬X' k→k≠(D.getD i (0,0)).2:=fun hk e=>hk (e▸hdq.xb)
 have rowk:∀k,vr.ownBlock=some k→∃o,w.heap[k]? = some o:=fun k e=>by obtain⟨cur,e0⟩:=cZ h.row e;exact⟨_,e0⟩
 have gs:∀j,(hj:j<(l.set i ⟨l[i].b,l[i].rb,n',l[i].ap,P'⟩).length)→(l.set i ⟨l[i].b,l[i].rb,n',l[i].ap,P'⟩)[j]=if i=j then⟨l[i].b,l[i].rb,n',l[i].ap,P'⟩ else l[j]'(by rw[List.length_set] at hj;exact hj):=fun j hj=>by rw[List.getElem_set]
 refine⟨bK (bK h.row ha.fr fun k o e ho=>(lt1 ho (h.xr k e)).1) hf fun k o e ho=>?_,fun k e=>?_,by rw[List.length_set];exact h.dl,fun j hj=>?_,fun j hj=>?_,fun d hd=>?_,fun d hd x hx=>np x hx d hd,h.dd⟩
 ·obtain⟨o',ho'⟩:=rowk k e;exact ne2 (lt1 ho' (h.xr k e)).2
 ·obtain⟨o',ho'⟩:=rowk k e;exact(lt1 ho' (h.xr k e)).2
 ·have hj':j<l.length:=by rw[List.length_set] at hj;exact hj
  rw[gs j hj];by_cases hij:i=j
  ·subst hij;rw[if_pos rfl];exact⟨q,hdq⟩
  ·rw[if_neg hij];obtain⟨qj,hqj⟩:=h.dn j hj';have hjD:j<D.length:=by rw[h.dl];exact hj'
   have hne:(D.getD j (0,0)).2≠(D.getD i (0,0)).2:=by
    refine kGw ?_;intro e1 e2;rw[e1,e2];have pw:=List.pairwise_iff_getElem.1 h.dd;rcases Nat.lt_or_ge i j with c | c
    ·exact fun e=>(pw i j hiD hjD c).2 e.symm
    ·exact(pw j i hjD hiD (by omega)).2
   have h1:=hqj.far ha (h.dp _ (mJ hjD) _ (List.getElem_mem hi)) hx';have a2:Aft X' (·=(D.getD i (0,0)).2) X' (·=(D.getD i (0,0)).2) w1 w2:=.of (hf.mono fun c _ hc e=>hc e) (fun c e=>e▸hdq.xb);exact⟨qj,h1.far a2 hne fun c hc=>Nat.lt_of_lt_of_le (hx' c hc) hf.size⟩
 ·have hj':j<l.length:=by rw[List.length_set] at hj;exact hj
  have hjD:j<D.length:=by rw[h.dl];exact hj'
  have hr:=h.dr j hj';have hk:=lt1 hr (h.rx _ (mJ hjD)).1;have h2:RD w2 (D.getD j (0,0)).1 (D.getD j (0,0)).2 l[j].ap:=RD.fr (RD.fr hr ha.fr fun _=>hk.1) hf fun _=>ne2 hk.2
  rw[gs j hj];by_cases hij:i=j
  ·subst hij;rw[if_pos rfl];exact h2
  ·rw[if_neg hij];exact h2
 ·obtain⟨j,hj,rfl⟩:=List.mem_iff_getElem.1 hd;have hj':j<l.length:=by rw[←h.dl];exact hj
  have hr:=h.dr j hj';have e1:D.getD j (0,0)=D[j]:=by rw[List.getD_eq_getElem?_getD,List.getElem?_eq_getElem hj];rfl
  rw[e1] at hr;exact⟨(lt1 hr (h.rx _ hd).1).2,(h.rx _ hd).2⟩
theorem Dc.apply [Old] [bj] (h:Dc B X w l D vr) (i:Nat) (hi:i<l.length) {ap':Nat} (f1:Fr (fun k _=>k≠l[i].rb) w w1) (hrb:RB w l[i].rb l[i].b l[i].ap) (hxb:¬X l[i].rb) (f2:Fr (fun k _=>k≠(D.getD i (0,0)).1) w1 w2) (ht:RD w2 (D.getD i (0,0)).1 (D.getD i (0,0)).2 ap'):Dc B X w2 (l.set i ⟨l[i].b,l[i].rb,l[i].n,ap',l[i].P⟩) D vr:=by
 have hiD:i<D.length:=by rw[h.dl];exact hi
 have h1:Dc B X w1 l D vr:=h.keep f1 (dq hrb (by decide) hxb) (fun c cs fz e hc=>by subst hc;rw[show w.heap[l[i].rb]? = _ from hrb] at e;cases e) fun c cs fz e hc=>by subst hc;rw[show w.heap[l[i].rb]? = _ from hrb] at e;cases e
 have hr:=h1.dr i hi;have og:=dq hr (by decide) (h.rx _ (mJ hiD)).1;have gs:∀j,(hj:j<(l.set i ⟨l[i].b,l[i].rb,l[i].n,ap',l[i].P⟩).length)→(l.set i ⟨l[i].b,l[i].rb,l[i].n,ap',l[i].P⟩)[j]=if i=j then⟨l[i].b,l[i].rb,l[i].n,ap',l[i].P⟩ else l[j]'(by rw[List.length_set] at hj;exact hj):=fun j hj=>by rw[List.getElem_set]
 refine⟨bK h1.row f2 fun k o e ho hk=>cX h1.row hr (by decide) (hk▸e),h.xr,by rw[List.length_set];exact h.dl,fun j hj=>?_,fun j hj=>?_,h.rx,fun d hd x hx=>?_,h.dd⟩
 ·have hj':j<l.length:=by rw[List.length_set] at hj;exact hj
  have hd:=(h1.dn j hj').keep f2 og;rw[gs j hj];by_cases hij:i=j
  ·subst hij;rw[if_pos rfl];exact hd
  ·rw[if_neg hij];exact hd
 ·have hj':j<l.length:=by rw[List.length_set] at hj;exact hj
  have hjD:j<D.length:=by rw[h.dl];exact hj'
  rw[gs j hj];by_cases hij:i=j
  ·subst hij;rw[if_pos rfl];exact ht
  ·rw[if_neg hij];refine RD.fr (h1.dr j hj') f2 fun _=>?_
   refine kGw ?_;intro e1 e2;rw[e1,e2];have pw:=List.pairwise_iff_getElem.1 h.dd;rcases Nat.lt_or_ge i j with c | c
   ·exact fun e=>(pw i j hiD hjD c).1 e.symm
   ·exact(pw j i hjD hiD (by omega)).1
 ·rcases List.mem_or_eq_of_mem_set hx with hx | rfl
  ·exact h.dp d hd x hx
  ·exact h.dp d hd l[i] (List.getElem_mem hi)
theorem Dc.sent [Old] [bj] (h:Dc B X w l D vr) (hg:G13 B X w G l ms tk many vn vm vt) (f:Fr (fun q _=>q≠G∧vm.ownBlock≠some q) w w'):Dc B X w' l D vr:=by
 have key:∀{t:TypeId},t≠66→t≠32→∀c cs fz,w.heap[c]? = some (.cells cs t fz)→c≠G∧vm.ownBlock≠some c:=fun h1 h2 c cs fz e=>by
  refine⟨fun q=>?_,fun q=>?_⟩
  ·subst q;rw[hg.top] at e;cases e;exact h1 rfl
  ·obtain⟨cur,e0⟩:=cZ hg.rm.row q;rw[e] at e0;cases e0;exact h2 rfl
 exact h.keep f (fun c o ho hc=>⟨dq hg.top (by decide) hg.gx c o ho hc,mw hg.rm.row (by decide) hg.rm.off c o ho hc⟩) (key (by decide) (by decide)) (key (by decide) (by decide))
end
def Gs.applied (s:Gs) (i:Nat):Gs:={ s with aps:=s.aps.set i (max (s.aps.getD i 0) (s.ns.getD i default).commit) }
def Gs.playP (s:Gs) (z:Nat) (d k:Int):Gs:=
 if k<0∨(d≠2∧(s.ns.length:Int)≤k)∨(d=2∧(s.ms.length:Int)≤k) then s else
 if d=1 then({ s with ns:=s.ns.set k.toNat (s.ns.getD k.toNat default).timeout.1 }:Gs).send (s.ns.getD k.toNat default).timeout.2 else
 if d=2 then s.arrive k.toNat else
 if d=3 then s.send (s.ns.getD k.toNat default).beat else
 if d=4 then { s with ns:=s.ns.set k.toNat ((s.ns.getD k.toNat default).propose 1 [UInt8.ofNat z]).1 } else
 if d=5 then s.applied k.toNat else s
theorem vV (l:List Nd) (i:Nat):l.set i (l.getD i default)=l:=by
 apply List.ext_getElem?;intro j;rw[List.getElem?_set];split
 ·rename_i e;subst e;split
  ·rename_i h;rw[List.getD_eq_getElem?_getD,List.getElem?_eq_getElem h];rfl
  ·rename_i h;rw[List.getElem?_eq_none (by omega)]
 ·rfl
theorem m9 (s:Gs):s.send []=s:=by
 unfold Gs.send;split
 ·rw[List.append_nil]
 ·rfl
section
variable {many:Nat} {s:Gs}
theorem kv.timeout (h:kv many s) (h16:many≤16) {j:Nat} (hj:j<many):kv many (({ s with ns:=s.ns.set j (s.ns.getD j default).timeout.1 }:Gs).send (s.ns.getD j default).timeout.2):=
 h.node hj (Nd.timeout_me _) (Nd.timeout_conf _) fun T g w _=>BZ w h16
theorem kv.arrive (h:kv many s) (h16:many≤16) {k:Nat} (hk:k<s.ms.length):kv many (s.arrive k):=by
 unfold Gs.arrive;dsimp only;split
 ·exact h
 ·have hm:s.ms.getD k zMs∈s.ms:=GJ.getD_mem hk;obtain⟨a,b,e1,e2,h1,h2⟩:=h.dst hm;generalize s.ms.getD k zMs=m at hm e1 e2;rw[e2,Int.toNat_natCast];exact h.node h2 (Nd.step_me _ _) (Nd.step_conf _ _) fun T g w q=>PZ w h16 (q m hm)
theorem kv.beat (h:kv many s) {j:Nat} (hj:j<many):kv many (s.send (s.ns.getD j default).beat):=by
 have:=h.node hj (r:=(s.ns.getD j default,(s.ns.getD j default).beat)) rfl rfl fun T g w _=>⟨g,Goes.refl w,w.beat⟩
 dsimp only at this;rw[vV] at this;exact this
theorem kv.propose (h:kv many s) (h16:many≤16) {j:Nat} (hj:j<many) (k:Int) (d:List UInt8):kv many { s with ns:=s.ns.set j ((s.ns.getD j default).propose k d).1 }:=by
 have:=h.node hj (r:=(((s.ns.getD j default).propose k d).1,[])) (Nd.propose_up _ _ _).me (Nd.propose_up _ _ _).conf fun T g w _=>BX w h16 k d
 rw[m9] at this;exact this
theorem kv.playP (h:kv many s) (h16:many≤16) (z:Nat) (d k:Int):kv many (s.playP z d k):=by
 have hl:=h.ids.1;unfold Gs.playP;split
 ·exact h
 ·rename_i hn;split
  ·exact h.timeout h16 (by omega)
  ·split
   ·exact h.arrive h16 (by omega)
   ·split
    ·exact h.beat (by omega)
    ·split
     ·exact h.propose h16 (by omega) _ _
     ·split
      ·exact⟨h.ids,h.gh⟩
      ·exact h
theorem GJ.applied {B:Nat} (h:GJ B s) (i:Nat) (hi:i<s.ns.length):GJ B (s.applied i):=by
 have hc:=(h.nd hi).bn.commit;have ha:s.aps.getD i 0≤B:=h.gi.ap _ (GJ.getD_mem (by rw[h.la];exact hi));refine⟨⟨h.gi.nd,fun a hm=>?_,h.gi.ms,h.gi.ln⟩,h.n0,h.n5,by show (s.aps.set _ _).length=_;rw[List.length_set];exact h.la,h.lt,h.mn,fun j=>?_⟩
 ·rcases List.mem_or_eq_of_mem_set hm with q | q
  ·exact h.gi.ap a q
  ·omega
 ·show s.tl.getD j 0≤(s.aps.set _ _).getD j 0;rw[GJ.set_getD];have h2:=h.tk j;split
  ·rename_i e;rw[←e.1] at h2 ⊢;omega
  ·exact h2
theorem GJ.playP {B:Nat} (h:GJ B s) (z:Nat) (d k:Int):GJ (B+3) (s.playP z d k):=by
 unfold Gs.playP;split
 ·exact h.mono (by omega)
 ·rename_i hn;have h2:=h.mono (show B≤B+2 by omega);split
  ·exact mU1
  ·split
   ·exact h.arrive _ (by omega)
   ·split
    ·have hk:k.toNat<s.ns.length:=by omega
     have hg:=h.nd hk;exact mR4
    ·split
     ·have hk:k.toNat<s.ns.length:=by omega
      have hg:=h.nd hk;generalize s.ns.getD k.toNat default=n at hg;have hb:=Nd.propose_b hg.bn 1 [UInt8.ofNat z];have y:(n.propose 1 [UInt8.ofNat z]).1.yes.length≤B+1:=by rw[Nd.propose_y];have:=hg.ye;omega
      have hu:=Nd.propose_up n 1 [UInt8.ofNat z];exact((h.mono (show B≤B+1 by omega)).node (hg.ofGd ((hg.gd (Nat.le_refl _)).up hu hb y) hu.conf)).mono (by omega)
     ·split
      ·exact(h.applied _ (by omega)).mono (by omega)
      ·exact h.mono (by omega)
end
theorem mOw {p:Prop} (h:p:=by
 rename_i h;subst h;unfold srt;simp [List.mergeSort,List.MergeSort.Internal.splitInTwo,List.merge]):p:=h
def srtX (l:List Int):List Int:=if l=[1,1,0] then[0,1,1] else if l=[1,1,1] then[1,1,1] else if l=[2,1,1] then[1,1,2] else if l=[2,2,1] then[1,2,2] else if l=[2,2,2] then[2,2,2] else srt l
theorem srtX_eq (l:List Int):srtX l=srt l:=by
 unfold srtX;split
 ·exact mOw
 ·split
  ·exact mOw
  ·split
   ·exact mOw
   ·split
    ·exact mOw
    ·split
     ·exact mOw
     ·rfl
namespace Nd
def midX (l:List Int):Int:=(srtX l).getD (l.length-(l.length / 2+1)) 0
def sureX (n:Nd):Nd:=n.sureR (midX (reachL n.conf (n.mat.map fun(x:Nat)=>(x:Int)) n.conf.length)).toNat
theorem sureX_eq:sureX=sure:=by
 funext n;unfold sureX midX sure reach midV;rw[srtX_eq]
section
variable (S:Nd→Nd)
def proposeF (n:Nd) (kind:Int) (data:List UInt8):Nd×Nat×Int:=
 if n.role≠3 then(n,0,70) else if kind<1∨255<kind then(n,0,30) else if 24<data.length then(n,0,2) else
  (S ({ n with log:=n.log.add ⟨n.tm,kind,data⟩,mat:=n.mat.set n.me.toNat (n.log.last+1) }:Nd),n.log.last+1,0)
def ackedF (n:Nd) (m:Ms):Nd:=
 if m.ok=false then { n with next:=n.next.set m.src.toNat (max (n.mat.getD m.src.toNat 0+1) (min m.index (m.prev+1))) }
 else if m.index≤n.log.last then S ({ n with mat:=n.mat.set m.src.toNat (max (n.mat.getD m.src.toNat 0) m.index),next:=n.next.set m.src.toNat (max (n.mat.getD m.src.toNat 0) m.index+1) }:Nd) else n
def onAckedF (n:Nd) (m:Ms):Nd×List Ms:=
 if m.kind≠6 then(n,[]) else if n.tm<m.tm then(n.follow m.tm (-1),[]) else if m.tm<n.tm∨n.role≠3∨m.src=n.me∨m.src<0∨15<m.src then(n,[]) else
  if m.ok=true∧(n.ackedF S m).log.last<(n.ackedF S m).next.getD m.src.toNat 0 then(n.ackedF S m,[]) else(n.ackedF S m,(n.ackedF S m).sendTo m.src)
def hearF (n:Nd) (m:Ms):Nd×List Ms:=
 let r1:=n.onAsk m;let r2:=r1.1.onAnswer m;let r3:=r2.1.onAppend m;let r4:=r3.1.onAckedF S m
 (r4.1,r1.2++r2.2++r3.2++r4.2)
def stepF (n:Nd) (m:Ms):(Nd×List Ms)×Int:=if n.right m≠0 then((n,[]),n.right m) else(n.led (n.hearF S m),0)
end
end Nd
namespace Gs
section
variable (S:Nd→Nd)
def arriveF (s:Gs) (k:Nat):Gs:=
 let m:=s.ms.getD k zMs
 if m.dst<0∨(s.ns.length:Int)≤m.dst then s else
  let r:=((s.ns.getD m.dst.toNat default).stepF S m).1
  ({ s with ns:=s.ns.set m.dst.toNat r.1 }:Gs).send r.2
def playF (s:Gs) (d k:Int):Gs:=
 if k<0∨(d≠2∧(s.ns.length:Int)≤k)∨(d=2∧(s.ms.length:Int)≤k) then s else
 let n:=s.ns.getD k.toNat default
 if d=1 then({ s with ns:=s.ns.set k.toNat n.timeout.1 }:Gs).send n.timeout.2 else
 if d=2 then s.arriveF S k.toNat else
 if d=3 then s.send n.beat else
 if d=4 then { s with many:=s.many+1,ns:=s.ns.set k.toNat (n.proposeF S 1 [UInt8.ofNat (s.many+1).toNat]).1 } else
 if d=5 then s.take k.toNat else s
def restF:Nat→Gs→Nat→Gs×Bool
 | 0,s,k=>(s,decide (s.ms.length≤k))
 | fu+1,s,k=>if s.ms.length≤k then(s,true) else restF fu (s.arriveF S k) (k+1)
end
theorem Ly:arriveF Nd.sure=arrive:=rfl
theorem playF_eq:playF Nd.sure=play:=rfl
theorem restF_eq (fu:Nat) (s:Gs) (k:Nat):restF Nd.sure fu s k=rest fu s k:=by
 induction fu generalizing s k with
 | zero=>rfl
 | succ fu ih=>unfold restF rest;rw[Ly,ih]
theorem rest_more (fu j:Nat) (s:Gs) (k:Nat) (h:(rest fu s k).2=true):rest (fu+j) s k=rest fu s k:=by
 induction fu generalizing s k with
 | zero=>
  have h1:s.ms.length≤k:=of_decide_eq_true h;show rest (0+j) s k=(s,decide (s.ms.length≤k))
  rw[Nat.zero_add,decide_eq_true h1];cases j with
  | zero=>unfold rest;rw[decide_eq_true h1]
  | succ j=>unfold rest;rw[if_pos h1]
 | succ fu ih=>
  rw[show fu+1+j=(fu+j)+1 by omega];unfold rest at h ⊢;split
  ·rfl
  ·rename_i hk;rw[if_neg hk] at h;exact ih _ _ h
end Gs
def A0:Gs:=⟨(cfN 3).map fun i=>Nd.new i (cfN 3),[0,0,0],[],[0,0,0],0⟩
def A1:Gs:=A0.playF Nd.sureX 1 0
def A2:Gs:=(Gs.restF Nd.sureX 40 A1 0).1
def A3:Gs:=A2.playF Nd.sureX 4 0
def A4:Gs:=A3.playF Nd.sureX 3 0
def A5:Gs:=(Gs.restF Nd.sureX 40 A4 A3.ms.length).1
def A6:Gs:=A5.playF Nd.sureX 3 0
def A7:Gs:=(Gs.restF Nd.sureX 40 A6 A5.ms.length).1
def A8:Gs:=A7.take 0
def A9:Gs:=A8.take 1
def A10:Gs:=A9.take 2
theorem A1_is:A0.play 1 0=A1:=by rw[←Gs.playF_eq,←Nd.sureX_eq];rfl
theorem A3_is:A2.play 4 0=A3:=by rw[←Gs.playF_eq,←Nd.sureX_eq];rfl
theorem A4_is:A3.play 3 0=A4:=by rw[←Gs.playF_eq,←Nd.sureX_eq];rfl
theorem A6_is:A5.play 3 0=A6:=by rw[←Gs.playF_eq,←Nd.sureX_eq];rfl
theorem A2_ok:(Gs.restF Nd.sureX 40 A1 0).2=true:=by decide +kernel
theorem A5_ok:(Gs.restF Nd.sureX 40 A4 A3.ms.length).2=true:=by decide +kernel
theorem A7_ok:(Gs.restF Nd.sureX 40 A6 A5.ms.length).2=true:=by decide +kernel
theorem restX {s s':Gs} {k:Nat} (h2:(Gs.restF Nd.sureX 40 s k).2=true) (h1:(Gs.restF Nd.sureX 40 s k).1=s'):Gs.rest 2501 s k=(s',true):=by
 rw[Nd.sureX_eq,Gs.restF_eq] at h1 h2;rw[show (2501:Nat)=40+2461 from rfl,Gs.rest_more 40 2461 s k h2];exact Prod.ext h1 h2
theorem A2_is:Gs.rest 2501 A1 0=(A2,true):=restX A2_ok rfl
theorem A5_is:Gs.rest 2501 A4 A3.ms.length=(A5,true):=restX A5_ok rfl
theorem A7_is:Gs.rest 2501 A6 A5.ms.length=(A7,true):=restX A7_ok rfl
theorem A2_at:A2.ns.length=3∧(A2.ns.getD 0 default).role=3∧(A2.ns.getD 0 default).tm=1∧(A2.ns.getD 1 default).log.es.length=1∧(A2.ns.getD 2 default).log.es.length=1:=by decide +kernel
theorem P7:A8.tl.getD 0 0=2∧A9.tl.getD 1 0=2∧A10.tl.getD 2 0=2:=by decide +kernel
theorem A10_no:((A10.ns.getD 0 default).step { zMs with kind:=1,src:=2,dst:=1 })=(((A10.ns.getD 0 default),[]),31)∧((A10.ns.getD 0 default).step { zMs with kind:=7,src:=1 })=(((A10.ns.getD 0 default),[]),30):=by decide +kernel
theorem A0_gj:GJ 16 A0:=by
 have h:∀n∈A0.ns,Gw 16 16 n:=fun n hn=>by
  obtain⟨i,hi,rfl⟩:=List.mem_map.1 hn
  have hi2:i=0∨i=1∨i=2:=by have:i∈[(0:Int),1,2]:=hi;simpa using this
  have h3:(cfN 3).length=3:=rfl;refine⟨⟨Nat.zero_le _,Nat.zero_le _,Nat.zero_le _,rfl,rfl,mq (Nat.zero_le _),mq (Nat.zero_le _)⟩,Nat.zero_le _,Nat.zero_le _,?_,(by show 0<(cfN 3).length∧(cfN 3).length≤12;omega),(by show ∀x∈cfN 3,0≤x∧x≤15;decide)⟩;rcases hi2 with rfl | rfl | rfl
  ·exact⟨0,rfl,by decide⟩
  ·exact⟨1,rfl,by decide⟩
  ·exact⟨2,rfl,by decide⟩
 refine⟨⟨h,?_,(fun m hm=>by cases hm),?_⟩,?_,?_,rfl,rfl,⟨Int.le_refl _,?_⟩,fun i=>?_⟩
 ·intro a ha;have:a∈List.replicate 3 0:=ha;rw[List.eq_of_mem_replicate this];exact Nat.zero_le _
 ·exact m3D
 ·show 0<3;omega
 ·show 3≤16;omega
 ·show (0:Int)≤((16:Nat):Int);omega
 ·exact mU2
theorem A1_gj:GJ 20 A1:=by rw[←A1_is];exact(A0_gj.play 1 0).mono (by decide)
theorem A2_gj:GJ 8000 A2:=by
 have:=GJ.rest (B:=8000) 2501 0 A1_gj (by decide);rw[A2_is] at this;exact this
theorem A3_gj:GJ 8003 A3:=by rw[←A3_is];exact A2_gj.play 4 0
theorem A4_gj:GJ 8006 A4:=by rw[←A4_is];exact A3_gj.play 3 0
theorem A5_gj:GJ 16000 A5:=by
 have:=GJ.rest (B:=16000) 2501 A3.ms.length A4_gj (by decide);rw[A5_is] at this;exact this
theorem A6_gj:GJ 16003 A6:=by rw[←A6_is];exact A5_gj.play 3 0
theorem A7_gj:GJ 24000 A7:=by
 have:=GJ.rest (B:=24000) 2501 A5.ms.length A6_gj (by decide);rw[A7_is] at this;exact this
def AT:Nat→Gs
 | 0=>A7
 | i+1=>(AT i).take i
theorem AT_ns (i:Nat):(AT i).ns=A7.ns:=by
 induction i with
 | zero=>rfl
 | succ i ih=>exact ih
theorem A7_n3:A7.ns.length=3:=by decide +kernel
theorem AT_gj (i:Nat) (hi:i≤3):GJ 24000 (AT i):=by
 induction i with
 | zero=>exact A7_gj
 | succ i ih=>exact(ih (by omega)).take i (by rw[AT_ns,A7_n3];omega)
theorem AT_tl (i:Nat) (hi:i<3):(AT (i+1)).tl.getD i 0=2:=by
 have:i=0∨i=1∨i=2:=by omega
 rcases this with rfl | rfl | rfl
 ·exact P7.1
 ·exact P7.2.1
 ·exact P7.2.2
theorem AT_3:AT 3=A10:=rfl
theorem A3_len:A3.ms.length≤A4.ms.length:=by decide +kernel
theorem A5_len:A5.ms.length≤A6.ms.length:=by decide +kernel
section
variable {B:Nat} {w w':World} {G:Nat} {s:Gs}
theorem Gr13.nview [Old] [bj] (h:Gr13 B w G s) (h0:0<s.ns.length):∃gn cn,w.cell? ⟨G,0,none⟩=some (.slice (some ⟨gn,0,none⟩) s.ns.length cn)∧∀i,i<s.ns.length→∃X P rb b q ap,w.cell? ⟨gn,i,none⟩=some (.pointer (some ⟨rb,0,none⟩))∧w.cell? ⟨rb,0,none⟩=some (.pointer (some ⟨b,0,none⟩))∧RB w rb b ap∧PNs X P w b (s.ns.getD i default) q∧¬P rb∧(∀k,X k→B≤k)∧B≤b∧B≤rb∧ap=s.aps.getD i 0∧∀X' P' w',PN X' P' w' b (s.ns.getD i default)→Aft X P X' P' w w'→Gr13 B w' G s:=by
 obtain⟨X,l,ms,tk,many,vn,vm,vt,h,rfl⟩:=h;refine kDa ?_;intro e1;rw[e1] at h0 ⊢;obtain⟨gn,cn,hvn,V⟩:=h.nrow h0;refine⟨gn,cn,by rw[(h.gcells (Fr.refl _ w)).1,hvn],fun i hi=>?_⟩;obtain⟨y0,y1⟩:=V w (Fr.refl _ _) i hi;obtain⟨q,hq⟩:=h.nd _ (List.getElem_mem hi);obtain⟨r0,r1,r2⟩:=h.rb _ (List.getElem_mem hi)
 have en:(St l ms tk many).ns.getD i default=l[i].n:=by show (l.map (·.n)).getD i default=_;exact m4b
 have ea:(St l ms tk many).aps.getD i 0=l[i].ap:=by show (l.map (·.ap)).getD i 0=_;exact m4b
 rw[en,ea];refine⟨X,l[i].P,l[i].rb,l[i].b,q,l[i].ap,y0,y1,r0,hq,fun e=>r1 (hq.px _ e),h.lx,h.lx _ (hq.px _ hq.pb),r2,rfl,fun X' P' w' hp ha=>?_⟩;refine⟨X',_,ms,tk,many,vn,vm,vt,h.turn i hi hp ha,?_⟩;unfold St;congr 1
 ·rw[List.map_set];exact mMo
 ·rw[List.map_set];exact mMo
theorem Gr13.tview [Old] [bj] (h:Gr13 B w G s) (h0:0<s.tl.length):∃gt ct,w.cell? ⟨G,2,none⟩=some (.slice (some ⟨gt,0,none⟩) s.tl.length ct)∧∀i,i<s.tl.length→∃g c,w.cell? ⟨gt,i,none⟩=some (.slice g (s.tl.getD i 0) c):=by
 obtain⟨X,l,ms,tk,many,vn,vm,vt,h,rfl⟩:=h;have e1:(St l ms tk many).tl.length=tk.length:=List.length_map _;rw[e1] at h0 ⊢;rcases h.rt.2 with⟨_,e⟩ | ⟨g,cap,cur,e,r⟩
 ·omega
 ·refine⟨g,cap,by rw[(h.gcells (Fr.refl _ w)).2.2.1,e],fun i hi=>?_⟩;have hr:=h.rt;rw[e] at hr;have h1:=gv hr i (by rw[List.length_map];exact hi);rw[List.getElem_map] at h1;obtain⟨⟨xs,h2⟩,-⟩:=h.ts _ (List.getElem_mem hi);obtain⟨g2,c2,e2⟩:=bz h2;refine⟨g2,c2,?_⟩;rw[h1,e2]
  have en:(St l ms tk many).tl.getD i 0=tk[i].2:=by show (tk.map Prod.snd).getD i 0=_;exact m4b
  rw[en]
theorem PNs.elen [Old] {X P:Nat→Prop} {b:Nat} {n:Nd} {q:NV} (h:PNs X P w b n q):∃a c,q.ve=.slice a n.log.es.length c:=by
 obtain⟨a,c,e,_⟩:=RowsAt.form h.ev.row;exact⟨a,c,by rw[e,h.ee,List.length_map]⟩
end
def mvA:MV:={ zMV with kind:=1,src:=2,dst:=1 }
def mvB:MV:={ zMV with kind:=7,src:=1 }
theorem MsAt.noA [Old] (X:Nat→Prop) (W:World):MsAt X W mvA:=⟨⟨_,_,rfl,Nat.le_refl _,(fun _=>rfl),.inl rfl⟩,EsAt.nil _ _⟩
theorem MsAt.noB [Old] (X:Nat→Prop) (W:World):MsAt X W mvB:=⟨⟨_,_,rfl,Nat.le_refl _,(fun _=>rfl),.inl rfl⟩,EsAt.nil _ _⟩
theorem A10_sA:(A10.ns.getD 0 default).step mvA.ms=((A10.ns.getD 0 default,[]),31):=A10_no.1
theorem A10_sB:(A10.ns.getD 0 default).step mvB.ms=((A10.ns.getD 0 default,[]),30):=A10_no.2
theorem A10_rA:(A10.ns.getD 0 default).right mvA.ms≠0:=by decide +kernel
theorem A10_rB:(A10.ns.getD 0 default).right mvB.ms≠0:=by decide +kernel
theorem cM_A:Value.agg (cM mvA)=.agg #[.int .i64 1,.int .i64 2,.int .i64 1,.int .u64 0,.int .u64 0,.int .u64 0,.int .u64 0,.bool false,.slice none 0 0,.slice none 0 0]:=rfl
theorem cM_B:Value.agg (cM mvB)=.agg #[.int .i64 7,.int .i64 1,.int .i64 0,.int .u64 0,.int .u64 0,.int .u64 0,.int .u64 0,.bool false,.slice none 0 0,.slice none 0 0]:=rfl
theorem xj [Old] [bj] (w:World):Calls Tryz.prog 27 #[] w fun e w'=>e=.returned (.bool true)∧Fr (fun _ _=>True) w w':=by
 have hb1:∀W:World,(Instr.build 72 #[(0,.int .i64 1),(1,.int .i64 0)]).run Tryz.prog W=.ok (.agg #[.int .i64 1,.int .i64 0]) W:=fun W=>run_build W _ _ _ (by kernel_rfl)
 have hb3:∀W:World,(Instr.build 72 #[(0,.int .i64 3),(1,.int .i64 0)]).run Tryz.prog W=.ok (.agg #[.int .i64 3,.int .i64 0]) W:=fun W=>run_build W _ _ _ (by kernel_rfl)
 have hb4:∀W:World,(Instr.build 72 #[(0,.int .i64 4),(1,.int .i64 0)]).run Tryz.prog W=.ok (.agg #[.int .i64 4,.int .i64 0]) W:=fun W=>run_build W _ _ _ (by kernel_rfl)
 have hbA:∀W:World,(Instr.build 32 #[(0,.int .i64 1),(1,.int .i64 2),(2,.int .i64 1)]).run Tryz.prog W=.ok (.agg #[.int .i64 1,.int .i64 2,.int .i64 1,.int .u64 0,.int .u64 0,.int .u64 0,.int .u64 0,.bool false,.slice none 0 0,.slice none 0 0]) W:=fun W=>run_build W _ _ _ (by kernel_rfl)
 have hbB:∀W:World,(Instr.build 32 #[(0,.int .i64 7),(1,.int .i64 1)]).run Tryz.prog W=.ok (.agg #[.int .i64 7,.int .i64 1,.int .i64 0,.int .u64 0,.int .u64 0,.int .u64 0,.int .u64 0,.bool false,.slice none 0 0,.slice none 0 0]) W:=fun W=>run_build W _ _ _ (by kernel_rfl)
 have HBA:=zH hbA;have HBB:=zH hbB;clear hbA hbB;have BG:Hid (Calls Tryz.prog 28 #[.int .i64 3] w fun e w'=>B13Out w 3 e w'):=lq w 3 (by decide) (by decide);go_enter Tryz.func27,Tryz.ntmps27
 go_wp2_with fail
 (with_reducible refine BG.out.mono ?_);rintro e W1 ⟨G,X,l,tk,vn,vt,rfl,g1,e1,e2,e3,f1⟩;have G1:Hid (Gr13 w.heap.size W1 G A0):=⟨X,l,[],tk,0,vn,_,vt,g1,by unfold St A0;rw[e1,e2,e3];rfl⟩
 have F1:Hid (Fr (fun c _=>c<w.heap.size) w W1):=f1.mono fun _ _ _=>trivial
 clear g1 e1 e2 e3 f1 BG;have PC:=zH (G1.out.play A0_gj (by decide) 1 0);rw[A1_is] at PC;go_wp2_with fail
 (with_reducible refine PC.out.mono ?_);rintro e W2 ⟨rfl,g2,f2⟩;have G2:=zH g2;have F2:=zH (F1.out.trans f2);clear g2 f2 PC G1 F1;have PC0:=G2.out.rest A1_gj (by decide) 0 (Nat.zero_le _);rw[A2_is] at PC0;have PC:Hid (Calls Tryz.prog 79 #[.pointer (some ⟨G,0,none⟩),.int .i64 0] W2 fun e w'=>e=.returned (.bool (A2,true).2)∧Gr13 w.heap.size w' G (A2,true).1∧Fr (fun c _=>c<w.heap.size) W2 w'):=PC0;clear PC0;go_wp2_with fail
 (with_reducible refine PC.out.mono ?_);rintro e W3 ⟨rfl,g3,f3⟩;have G3:Hid (Gr13 w.heap.size W3 G A2):=g3;have F3:=zH (F2.out.trans f3);clear g3 f3 PC G2 F2;have PC:=zH (G3.out.play A2_gj (by decide) 4 0);rw[A3_is] at PC
 have OK2:Hid (∃gn cn b0 b1 b2 r0 r1 r2 e1 c1 e2 c2,W3.cell? ⟨G,0,none⟩=some (.slice (some ⟨gn,0,none⟩) 3 cn)∧W3.cell? ⟨gn,0,none⟩=some (.pointer (some ⟨r0,0,none⟩))∧W3.cell? ⟨gn,1,none⟩=some (.pointer (some ⟨r1,0,none⟩))∧W3.cell? ⟨gn,2,none⟩=some (.pointer (some ⟨r2,0,none⟩))∧W3.cell? ⟨r0,0,none⟩=some (.pointer (some ⟨b0,0,none⟩))∧W3.cell? ⟨r1,0,none⟩=some (.pointer (some ⟨b1,0,none⟩))∧W3.cell? ⟨r2,0,none⟩=some (.pointer (some ⟨b2,0,none⟩))∧W3.cell? ⟨b0,2,none⟩=some (.int .i64 3)∧W3.cell? ⟨b0,6,none⟩=some (.int .u64 1)∧W3.cell? ⟨b1,10,none⟩=some (.slice e1 1 c1)∧W3.cell? ⟨b2,10,none⟩=some (.slice e2 1 c2)):=by
  obtain⟨n3,ro,tm,l1,l2⟩:=A2_at;obtain⟨gn,cn,y0,V⟩:=G3.out.nview (by omega);rw[n3] at y0 V;obtain⟨_,_,r0,b0,q0,_,a0,a1,_,a2,_⟩:=V 0 (by omega);obtain⟨_,_,r1,b1,q1,_,d0,d1,_,d2,_⟩:=V 1 (by omega);obtain⟨_,_,r2,b2,q2,_,h0,h1,_,h2,_⟩:=V 2 (by omega);have t0:=a2.cells (Fr.refl _ W3);have t1:=d2.cells (Fr.refl _ W3);have t2:=h2.cells (Fr.refl _ W3);obtain⟨k1,k2,k3⟩:=d2.elen;obtain⟨m1,m2,m3⟩:=h2.elen;rw[l1] at k3;rw[l2] at m3;refine⟨gn,cn,b0,b1,b2,r0,r1,r2,k1,k2,m1,m2,y0,a0,d0,h0,a1,d1,h1,?_,?_,?_,?_⟩
  ·rw[t0.2.2.1,ro]
  ·rw[t0.2.2.2.2.2.2.1,tm];rfl
  ·rw[t1.2.2.2.2.2.2.2.2.2.2.1,k3]
  ·rw[t2.2.2.2.2.2.2.2.2.2.2.1,m3]
 obtain⟨gn,cn,b0,b1,b2,r0,r1,r2,e1,c1,e2,c2,y0,y1,y2,y3,y4,y5,y6,y7,y8,y9,y10⟩:=OK2.out;clear OK2;go_wp2_with fail
 clear y0 y1 y2 y3 y4 y5 y6 y7 y8 y9 y10;(with_reducible refine PC.out.mono ?_);rintro e W4 ⟨rfl,g4,f4⟩;have G4:=zH g4;have F4:=zH (F3.out.trans f4);clear g4 f4 PC G3 F3;obtain⟨n3,hn3⟩:=zE A3.ms.length;obtain⟨gm,cm,y0⟩:=G4.out.mlen;rw[hn3] at y0;have PC:=zH (G4.out.play A3_gj (by decide) 3 0);rw[A4_is] at PC;go_wp2_with fail
 clear y0;(with_reducible refine PC.out.mono ?_);rintro e W5 ⟨rfl,g5,f5⟩;have G5:=zH g5;have F5:=zH (F4.out.trans f5);clear g5 f5 PC G4 F4;have PC:=zH (G5.out.rest A4_gj (by decide) A3.ms.length A3_len);rw[A5_is,hn3] at PC;clear hn3;go_wp2_with fail
 (with_reducible refine PC.out.mono ?_);rintro e W6 ⟨rfl,g6,f6⟩;have G6:Hid (Gr13 w.heap.size W6 G A5):=g6;have F6:=zH (F5.out.trans f6);clear g6 f6 PC G5 F5;obtain⟨n5,hn5⟩:=zE A5.ms.length;obtain⟨gm,cm,y0⟩:=G6.out.mlen;rw[hn5] at y0;have PC:=zH (G6.out.play A5_gj (by decide) 3 0);rw[A6_is] at PC;go_wp2_with fail
 clear y0;(with_reducible refine PC.out.mono ?_);rintro e W7 ⟨rfl,g7,f7⟩;have G7:=zH g7;have F7:=zH (F6.out.trans f7);clear g7 f7 PC G6 F6;have PC:=zH (G7.out.rest A6_gj (by decide) A5.ms.length A5_len);rw[A7_is,hn5] at PC;clear hn5;go_wp2_with fail
 (with_reducible refine PC.out.mono ?_);rintro e W8 ⟨rfl,g8,f8⟩;have G8:Hid (Gr13 w.heap.size W8 G (AT 0)):=g8;have F8:=zH (F7.out.trans f8);clear g8 f8 PC G7 F7;go_wp2;go_loopw [3,7] (fun b i wr=>∃j:Nat,i=.int .i64 (j:Nat)∧j≤3∧b=.bool true∧Hid (Gr13 w.heap.size wr G (AT j))∧Hid (Fr (fun c _=>c<w.heap.size) w wr)) (fun _ i _=>3-(intOf i).toNat)
 case atStart=>exact⟨0,rfl,by decide,rfl,G8.out,F8.out⟩
 case round=>
  obtain⟨j,rfl,hj,rfl,HG,HF⟩:=hrel;by_cases hlt:j<3
  ·have hltI:(j:Int)<3:=by omega
   have PC:=zH (HG.out.take (AT_gj j hj) (by decide) j (by rw[AT_ns,A7_n3];exact hlt));go_wp2_with fail
   (with_reducible refine PC.out.mono ?_);rintro e W9 ⟨rfl,g9,f9⟩;have G9:Hid (Gr13 w.heap.size W9 G (AT (j+1))):=g9;have F9:=zH (HF.out.trans f9);clear g9 f9 PC HG HF
   have OK:Hid (∃gt ct g c,W9.cell? ⟨G,2,none⟩=some (.slice (some ⟨gt,0,none⟩) 3 ct)∧W9.cell? ⟨gt,j,none⟩=some (.slice g 2 c)):=by
    have hj9:=AT_gj (j+1) (by omega);have e3:(AT (j+1)).tl.length=3:=by rw[hj9.lt,AT_ns,A7_n3]
    obtain⟨gt,ct,y0,V⟩:=G9.out.tview (by omega);rw[e3] at y0 V;obtain⟨g,c,y1⟩:=V j hlt;rw[AT_tl j hlt] at y1;exact⟨gt,ct,g,c,y0,y1⟩
   obtain⟨gt,ct,g,c,y0,y1⟩:=OK.out;clear OK;go_wp2;go_roundw
   case rel=>exact⟨j+1,by go_num,by omega,rfl,G9.out,F9.out⟩
   case measure=>simp [intOf];omega
  ·have hge:¬((j:Int)<3):=by omega
   have hj3:j=3:=by omega
   subst hj3;have G3:Hid (Gr13 w.heap.size wr G A10):=HG.out;have N3:A10.ns.length=3:=by rw[←AT_3,AT_ns,A7_n3]
   obtain⟨gn,cn,y0,V⟩:=G3.out.nview (by omega);rw[N3] at y0 V;obtain⟨X0,P0,r0,b0,q0,ap,y1,y2,rb0,hp0,pr0,xb0,-,-,-,K0⟩:=V 0 (by omega);have K:=zH K0;have SC:=zH (h_ hp0 rb0 pr0 mvA (MsAt.noA _ _) (Nat.zero_le _) (Nat.zero_le _) (fun c hc=>absurd hc (bj.no c)) (fun e=>absurd e A10_rA));rw[A10_sA,cM_A] at SC;have XB:Hid (∀c,P0 c→w.heap.size≤c):=fun c hc=>xb0 c (hp0.px c hc)
   clear V hp0 pr0 xb0 K0 rb0 HG;have hbA:=HBA.out;go_wp2_with fail
   clear y0 y1 y2 hbA;(with_reducible refine SC.out.mono ?_);rintro e W9 ⟨X9,P9,q9,v9,mv9,rfl,p9,a9,-,-⟩;have G9:=zH (K.out _ _ _ ⟨q9,p9⟩ a9);have F9:Hid (Fr (fun c _=>c<w.heap.size) w W9):=HF.out.trans (a9.fr.mono fun c _ hc hp=>by have:=XB.out c hp;omega);clear p9 a9 SC K XB G3 HF;obtain⟨gn,cn,y0,V⟩:=G9.out.nview (by omega);rw[N3] at y0 V;obtain⟨X0,P0,r0,b0,q0,ap,y1,y2,rb0,hp0,pr0,xb0,-,-,-,K0⟩:=V 0 (by omega);have SC:=zH (h_ hp0 rb0 pr0 mvB (MsAt.noB _ _) (Nat.zero_le _) (Nat.zero_le _) (fun c hc=>absurd hc (bj.no c)) (fun e=>absurd e A10_rB));rw[A10_sB,cM_B] at SC;have XB:Hid (∀c,P0 c→w.heap.size≤c):=fun c hc=>xb0 c (hp0.px c hc)
   clear V hp0 pr0 xb0 K0 rb0;have hbB:=HBB.out;go_wp2_with fail
   clear y0 y1 y2 hbB;(with_reducible refine SC.out.mono ?_);rintro e W10 ⟨X9,P9,q9,v10,mv9,rfl,p9,a9,-,-⟩;have F10:Hid (Fr (fun c _=>c<w.heap.size) w W10):=F9.out.trans (a9.fr.mono fun c _ hc hp=>by have:=XB.out c hp;omega);clear p9 a9 SC XB;go_wp2;go_ret;exact⟨rfl,Fr.within (F10.out.mono fun c _ h=>h.2)⟩
theorem Nz:(Tryz.prog.info? 67).map (fun i=>(i.zero,i.size,i.bytes))=some (some (.pointer none),1,8):=by kernel_rfl
section
variable {ops:Array Oper} {rest:List Oper} {o:Oper} {a:Act} {Q:Exit→Act→World→Prop}
theorem ky (W:World) (hgd:o.guard=none) (s x:Operand) (ho:o.op=.call { callee:=.builtin .append,args:=#[s,x],argTypes:=#[62,62] })
 (v:Value) (n:Nat) (xs:List Value) (hs:a.eval s=v) (hown:Hid (W.ownsRow 0 67 1 v n xs)) (gx b:Nat) (hx:a.eval x=.slice (some ⟨gx,0,none⟩) 1 1) (hb:Hid (W.heap[gx]? = some (.cells #[.pointer (some ⟨b,0,none⟩)] 67 (0,0)))) (N:Nat) (hN:Hid (n+1=N)) (hn:N≤1000000)
 (h:∀g c w',Hid (w'.ownsRow 0 67 1 (.slice g N c) N (xs++[.pointer (some ⟨b,0,none⟩)]))→Hid (Fr (fun b _=>v.ownBlock≠some b) W w')→Hid (OwnNext W v (.slice g N c))→wpList Tryz.prog ops Q rest (a.put o.dst (.slice g N c)) w'):wpList Tryz.prog ops Q (o :: rest) a W:=by
 obtain⟨i0,hi,hz0,hz1,hz2⟩:=info_parts Nz;exact wpList_plain hgd fun _ hK=>dZ W s x 62 67 ho i0 _ 1 8 Tryz.underlying62 hi hz0 hz1 hz2 rfl (by decide) (by decide) v n xs hs hown gx [.pointer (some ⟨b,0,none⟩)] hx hb rfl (fun u hu=>by rw[List.mem_singleton.1 hu];rfl) N hN hn fun g c w' h1 h2 h3=>hK _ _ (h g c w' h1 h2 h3)
end
section
variable {B:Nat} {X:Nat→Prop} {w w1 w2 w':World} {G:Nat} {l:List Rx} {ms:List MV} {tk:List (Value×Nat)} {many:Int} {vn vm vt vr vr':Value} {D:List (Nat×Nat)}
theorem Dc.nil [Old] (B:Nat) (X:Nat→Prop) (w:World):Dc B X w [] [] (.slice none 0 0):=
 ⟨⟨rfl,.inl ⟨rfl,rfl⟩⟩,(fun _ e=>by cases e),rfl,(fun i h=>absurd h (Nat.not_lt_zero _)),(fun i h=>absurd h (Nat.not_lt_zero _)),(fun _ h=>by cases h),(fun _ h=>by cases h),List.Pairwise.nil⟩
theorem G13.offrow [Old] [bj] (h:G13 B X w G l ms tk many vn vm vt) {B' n:Nat} {v:Value} {xs:List Value} (hv:w.ownsRow B' 67 1 v n xs) (hx:∀k,v.ownBlock=some k→¬X k) (f:Fr (fun k _=>v.ownBlock≠some k) w w'):G13 B X w' G l ms tk many vn vm vt:=by
 have og:=mw hv (by decide) hx;have rw':∀{e:TypeId} {s:Nat} {u:Value} {n:Nat} {xs:List Value},w.ownsRow B e s u n xs→67≠e→w'.ownsRow B e s u n xs:=fun hu h1=>bK hu f fun k o e ho hk=>jx hv hu h1 hk e
 exact⟨f.keep _ _ h.top (cX hv h.top (by decide)),h.lg,h.lx,h.gx,rw' h.rn (by decide),h.xn,⟨rw' h.rm.row (by decide),h.rm.off,fun m hm=>(h.rm.at' m hm).keep f fun c o ho hr=>og c o ho (.inr hr)⟩,rw' h.rt (by decide),h.xt,h.tl,fun x hx=>by obtain⟨⟨xs,h1⟩,h2⟩:=h.ts x hx;exact⟨⟨xs,rw' h1 (by decide)⟩,h2⟩,h.td,fun x hx=>(h.nd x hx).keep f og,h.dj,fun x hx=>⟨f.keep _ _ (h.rb x hx).1 (cX hv (h.rb x hx).1 (by decide)),(h.rb x hx).2⟩,h.rd,fun k hk=>Nat.lt_of_lt_of_le (h.hx k hk) f.size⟩
theorem Dc.add [Old] [bj] {L:List Rx} (h:Dc B X w L D vr) (hX:∀k,X k→k<w.heap.size) (f:FT w w1) {rd d:Nat} {x:Rx} {q:DV} (hd:DNs (fun c=>X c∨c=d) w1 d x.n q) (hr:RD w1 rd d x.ap) (hx:¬X rd) (hne:rd≠d) (hds:w.heap.size≤d) (hrs:w.heap.size≤rd) (hB:B≤w.heap.size) (hxP:∀k,x.P k→X k) (hLP:∀y∈L,∀k,y.P k→X k) (hNP:∀y∈D,¬x.P y.2)
 (f2:Fr (fun k _=>vr.ownBlock≠some k) w1 w2) (hrow:w2.ownsRow B 67 1 vr' (D.length+1) (D.map (fun d=>.pointer (some ⟨d.1,0,none⟩))++[.pointer (some ⟨rd,0,none⟩)])) (hnx:OwnNext w1 vr vr'):Dc B (fun c=>X c∨c=d) w2 (L++[x]) (D++[(rd,d)]) vr':=by
 have hX3:∀c,(X c∨c=d)→c<w1.heap.size:=hd.hx;have A:Aft X (fun _=>False) (fun c=>X c∨c=d) (fun c=>c=d) w w1:=⟨f.tT,fun c=>Iff.rfl,fun _ k=>k.elim,fun c k=>.inr (k▸hds),fun _ k=>k.elim⟩
 have h1:=h.tt f
 have rowlt:∀k,vr.ownBlock=some k→k<w.heap.size:=fun k e=>by obtain⟨cur,e0⟩:=cZ h.row e;exact bX e0
 have rownx:∀k,vr.ownBlock=some k→¬(X k∨k=d):=fun k e q=>q.elim (h.xr k e) fun q=>by have:=rowlt k e;omega
 have og:∀c o,w1.heap[c]? = some o→(X c∨c=d)∨RO (fun c=>X c∨c=d) c o→vr.ownBlock≠some c:=mw (B':=B) h1.row (by decide) rownx;have ln:(D++[(rd,d)]).length=D.length+1:=by simp
 have gD:∀i,i<D.length→(D++[(rd,d)]).getD i (0,0)=D.getD i (0,0):=fun i hi=>by rw[List.getD_eq_getElem?_getD,List.getD_eq_getElem?_getD,List.getElem?_append_left hi]
 have gE:(D++[(rd,d)]).getD D.length (0,0)=(rd,d):=by rw[List.getD_eq_getElem?_getD,List.getElem?_append_right (Nat.le_refl _),Nat.sub_self];rfl
 have keepD:∀{b:Nat} {n:Nd},DN (fun c=>X c∨c=d) w1 b n→DN (fun c=>X c∨c=d) w2 b n:=fun hq=>hq.keep f2 og
 have keepR:∀{r b p:Nat},RD w1 r b p→RD w2 r b p:=fun hq=>f2.keep _ _ hq fun e=>cX h1.row hq (by decide) e
 refine⟨by rw[ln,List.map_append];exact hrow,fun k e=>?_,by rw[ln,List.length_append,h.dl];rfl,fun i hi=>?_,fun i hi=>?_,fun y hy=>?_,fun y hy z hz=>?_,?_⟩
 ·rcases hnx with q | ⟨k9,q,hk⟩
  ·rw[q] at e;exact rownx k e
  ·rw[q] at e;cases e;intro q;have:=hX3 _ q;omega
 ·rw[List.length_append] at hi;by_cases h9:i<L.length
  ·rw[List.getElem_append_left h9,gD i (by rw[h.dl];exact h9)];obtain⟨q9,hq9⟩:=h.dn i h9;exact keepD ⟨q9,hq9.far A (fun q=>q) hX3⟩
  ·obtain rfl:i=L.length:=by simp at hi;omega
   rw[List.getElem_append_right (Nat.le_refl _),show (D++[(rd,d)]).getD L.length (0,0)=(rd,d) by rw[←h.dl];exact gE];simp only[Nat.sub_self,List.getElem_cons_zero];exact keepD ⟨q,hd⟩
 ·rw[List.length_append] at hi;by_cases h9:i<L.length
  ·rw[List.getElem_append_left h9,gD i (by rw[h.dl];exact h9)];exact keepR (h1.dr i h9)
  ·obtain rfl:i=L.length:=by simp at hi;omega
   rw[List.getElem_append_right (Nat.le_refl _),show (D++[(rd,d)]).getD L.length (0,0)=(rd,d) by rw[←h.dl];exact gE];simp only[Nat.sub_self,List.getElem_cons_zero];exact keepR hr
 ·rcases List.mem_append.1 hy with hy | hy
  ·obtain⟨i,hi,rfl⟩:=List.mem_iff_getElem.1 hy;have h9:=h.dr i (by rw[←h.dl];exact hi);have e1:D.getD i (0,0)=D[i]:=by rw[List.getD_eq_getElem?_getD,List.getElem?_eq_getElem hi];rfl
   rw[e1] at h9;have:=bX h9;exact⟨fun q=>q.elim (h.rx _ hy).1 fun q=>by omega,(h.rx _ hy).2⟩
  ·rw[List.mem_singleton.1 hy];exact⟨fun q=>q.elim hx hne,by show B≤rd;omega⟩
 ·have zX:∀k,z.P k→X k:=by
   rcases List.mem_append.1 hz with hz | hz
   ·exact hLP z hz
   ·rw[List.mem_singleton.1 hz];exact hxP
  rcases List.mem_append.1 hy with hy | hy
  ·rcases List.mem_append.1 hz with hz | hz
   ·exact h.dp y hy z hz
   ·rw[List.mem_singleton.1 hz];intro q;exact(hNP y hy q).elim
  ·rw[List.mem_singleton.1 hy];intro q;have:=hX _ (zX _ q);omega
 ·refine List.pairwise_append.2 ⟨h.dd,List.pairwise_singleton _ _,fun y hy z hz=>?_⟩;rw[List.mem_singleton.1 hz];obtain⟨i,hi,rfl⟩:=List.mem_iff_getElem.1 hy;have h9:=h.dr i (by rw[←h.dl];exact hi);obtain⟨q9,h8⟩:=h.dn i (by rw[←h.dl];exact hi);have e1:D.getD i (0,0)=D[i]:=by rw[List.getD_eq_getElem?_getD,List.getElem?_eq_getElem hi];rfl
  rw[e1] at h9 h8;have l1:=bX h9;have l2:=bX h8.top;exact⟨fun e=>by have e':D[i].1=rd:=e;omega,fun e=>by have e':D[i].2=d:=e;omega⟩
end
end Go.Proofs.YtmjccpfchhnfhaaGreat
