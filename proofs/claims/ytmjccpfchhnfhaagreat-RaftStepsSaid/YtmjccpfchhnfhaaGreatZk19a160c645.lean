/- Texts of the proofs, part 36: what the functions that they reach do, walked; no conditions beyond those that each states. -/
import Derived.Test.YtmjccpfchhnfhaaGreatZk309be392df
set_option linter.unusedVariables false
set_option linter.unusedSimpArgs false
set_option maxRecDepth 100000
set_option maxHeartbeats 8000000
namespace Go.Proofs.YtmjccpfchhnfhaaGreat
open Go.RowKit
structure Rx where
 b:Nat
 rb:Nat
 n:Nd
 ap:Nat
 P:Nat→Prop
abbrev ptrR (x:Rx):Value:=.pointer (some ⟨x.rb,0,none⟩)
structure G13 [Old] (B:Nat) (X:Nat→Prop) (w:World) (G:Nat) (l:List Rx) (ms:List MV) (tk:List (Value×Nat)) (many:Int) (vn vm vt:Value):Prop where
 top:w.heap[G]? = some (.cells #[vn,vm,vt,.int .i64 many] 66 (0,0))
 lg:B≤G
 lx:∀k,X k→B≤k
 gx:¬X G
 rn:w.ownsRow B 73 1 vn l.length (l.map ptrR)
 xn:∀k,vn.ownBlock=some k→¬X k
 rm:OwnMs X B w vm ms
 rt:w.ownsRow B 80 1 vt tk.length (tk.map Prod.fst)
 xt:∀k,vt.ownBlock=some k→¬X k
 tl:tk.length=l.length
 ts:∀x∈tk,(∃xs,w.ownsRow B 87 4 x.1 x.2 xs)∧∀k,x.1.ownBlock=some k→¬X k
 td:tk.Pairwise fun x y=>∀k,x.1.ownBlock=some k→y.1.ownBlock≠some k
 nd:∀x∈l,PN X x.P w x.b x.n
 dj:l.Pairwise fun x y=>∀k,x.P k→¬y.P k
 rb:∀x∈l,RB w x.rb x.b x.ap∧¬X x.rb∧B≤x.rb
 rd:l.Pairwise fun x y=>x.rb≠y.rb
 hx:∀k,X k→k<w.heap.size
theorem jy {w:World} {B B':Nat} {e e':TypeId} {s s':Nat} {v v':Value} {n n':Nat} {xs xs':List Value} (h:w.ownsRow B e s v n xs) (h':w.ownsRow B' e' s' v' n' xs') (he:e≠e') {k:Nat} (hk:v.ownBlock=some k):v'.ownBlock≠some k:=fun hk'=>by
 obtain⟨c1,h1⟩:=bw h hk;obtain⟨c2,h2⟩:=bw h' hk';rw[h1] at h2;cases h2;exact he rfl
theorem cX {w:World} {B:Nat} {e:TypeId} {s:Nat} {v:Value} {n:Nat} {xs:List Value} {G:Nat} {cs:Array Value} {t:TypeId} {fz:Nat×Nat} (h:w.ownsRow B e s v n xs) (ht:w.heap[G]? = some (.cells cs t fz)) (he:e≠t):v.ownBlock≠some G:=fun hk=>by
 obtain⟨c1,h1⟩:=bw h hk;rw[h1] at ht;cases ht;exact he rfl
section
variable {B:Nat} {X X' P':Nat→Prop} {w w':World} {G:Nat} {l:List Rx} {ms:List MV} {tk:List (Value×Nat)} {many:Int} {vn vm vt:Value}
theorem PN.keep [Old] [cK] {P:Nat→Prop} {b:Nat} {n:Nd} (h:PN X P w b n) {K:Nat→Obj→Prop} (hf:Fr K w w') (hk:∀c o,w.heap[c]? = some o→X c∨RO X c o→K c o):PN X P w' b n:=by
 obtain⟨q,h⟩:=h;exact⟨q,h.frK hf fun c o ho hc=>hk c o ho (hc.imp (h.px c) id)⟩
theorem xw [Old] [cK] {B':Nat} {e:TypeId} {s:Nat} {v:Value} {n:Nat} {xs:List Value} (h:w.ownsRow B' e s v n xs) (he:roT e=false) (hx:∀k,v.ownBlock=some k→¬X k):∀c o,w.heap[c]? = some o→X c∨RO X c o→v.ownBlock≠some c:=fun c o ho hc hk=>by
 rcases hc with hc | hc
 ·exact hx c hk hc
 ·obtain⟨c1,h1⟩:=bw h hk;rw[ho] at h1;cases h1;exact hc.ne0 rfl he
theorem l8 [Old] [cK] {G:Nat} {cs:Array Value} {t:TypeId} {fz:Nat×Nat} (h:w.heap[G]? = some (.cells cs t fz)) (he:roT t=false) (hx:¬X G):∀c o,w.heap[c]? = some o→X c∨RO X c o→c≠G:=fun c o ho hc hk=>by
 subst hk;rcases hc with hc | hc
 ·exact hx hc
 ·rw[ho] at h;cases h;exact hc.ne0 rfl he
theorem G13.bs [Old] (h:G13 B X w G l ms tk many vn vm vt):B≤w.heap.size:=Nat.le_of_lt (Nat.lt_of_le_of_lt h.lg (bZ h.top))
theorem G13.tt [Old] [cK] (h:G13 B X w G l ms tk many vn vm vt) (f:Fr (fun _ _=>True) w w'):G13 B X w' G l ms tk many vn vm vt:=
 ⟨f.keep _ _ h.top trivial,h.lg,h.lx,h.gx,bY h.rn f fun _ _ _ _=>trivial,h.xn,h.rm.tt f,bY h.rt f fun _ _ _ _=>trivial,h.xt,h.tl,fun x hx=>by
  obtain⟨⟨xs,h1⟩,h2⟩:=h.ts x hx
  exact⟨⟨xs,bY h1 f fun _ _ _ _=>trivial⟩,h2⟩,h.td,fun x hx=>(h.nd x hx).tt f,h.dj,fun x hx=>⟨(h.rb x hx).1.fr f fun _=>trivial,(h.rb x hx).2⟩,h.rd,fun k hk=>Nat.lt_of_lt_of_le (h.hx k hk) f.size⟩
theorem G13.turn [Old] [cK] (h:G13 B X w G l ms tk many vn vm vt) (i:Nat) (hi:i<l.length) {n':Nd} (hp:PN X' P' w' l[i].b n') (ha:Aft X l[i].P X' P' w w'):G13 B X' w' G (l.set i ⟨l[i].b,l[i].rb,n',l[i].ap,P'⟩) ms tk many vn vm vt:=by
 obtain⟨q,hq⟩:=hp;have hx':=hq.hx;have off:∀{k o},w.heap[k]? = some o→¬X k→¬l[i].P k∧¬X' k:=fun ho hk=>ha.off ho hk
 have row:∀{e:TypeId} {s:Nat} {v:Value} {n:Nat} {xs:List Value},w.ownsRow B e s v n xs→(∀k,v.ownBlock=some k→¬X k)→w'.ownsRow B e s v n xs∧∀k,v.ownBlock=some k→¬X' k:=fun hr hk=>⟨bY hr ha.fr fun k o e ho=>(off ho (hk k e)).1,fun k e=>by obtain⟨cur,ho⟩:=bw hr e;exact(off ho (hk k e)).2⟩
 have e1:(l.set i ⟨l[i].b,l[i].rb,n',l[i].ap,P'⟩).map ptrR=l.map ptrR:=by
  rw[List.map_set];apply List.ext_getElem?;intro j;rw[List.getElem?_set];split
  ·rename_i e;subst e;simp [hi]
  ·rfl
 have each:∀{Q:Rx→Prop},(∀j,(hj:j<l.length)→j≠i→Q l[j])→Q ⟨l[i].b,l[i].rb,n',l[i].ap,P'⟩→∀x∈l.set i ⟨l[i].b,l[i].rb,n',l[i].ap,P'⟩,Q x:=fun h1 h2 x hx=>by
  obtain⟨j,hj,e⟩:=List.mem_iff_getElem.1 hx;rw[List.length_set] at hj;rw[List.getElem_set] at e;by_cases hij:i=j
  ·rw[if_pos hij] at e;exact e▸h2
  ·rw[if_neg hij] at e;exact e▸h1 j hj (Ne.symm hij)
 have hdj:=List.pairwise_iff_getElem.1 h.dj;have hrd:=List.pairwise_iff_getElem.1 h.rd;have rb':∀x∈l,RB w' x.rb x.b x.ap∧¬X' x.rb∧B≤x.rb:=fun x hx=>⟨ha.fr.keep _ _ (h.rb x hx).1 (off (h.rb x hx).1 (h.rb x hx).2.1).1,(off (h.rb x hx).1 (h.rb x hx).2.1).2,(h.rb x hx).2.2⟩
 have old:∀j,(hj:j<l.length)→∀k,l[j].P k→k<w.heap.size:=fun j hj k hk=>by obtain⟨q2,hq2⟩:=h.nd _ (List.getElem_mem hj);exact hq2.hx k (hq2.px k hk)
 refine⟨ha.fr.keep _ _ h.top (off h.top h.gx).1,h.lg,fun k hk=>?_,(off h.top h.gx).2,?_,(row h.rn h.xn).2,h.rm.aft ha,(row h.rt h.xt).1,(row h.rt h.xt).2,by rw[List.length_set];exact h.tl,fun x hx=>?_,h.td,?_,?_,?_,?_,hx'⟩
 ·rcases(ha.xx k).1 hk with q | q
  ·exact h.lx k q
  ·rcases ha.nw k q with q | q
   ·exact h.lx k (ha.hp k q)
   ·exact Nat.le_trans h.bs q
 ·rw[List.length_set,e1];exact(row h.rn h.xn).1
 ·obtain⟨⟨xs,h1⟩,h2⟩:=h.ts x hx;exact⟨⟨xs,(row h1 h2).1⟩,(row h1 h2).2⟩
 ·refine each (fun j hj hji=>?_) ⟨q,hq⟩;obtain⟨q2,hq2⟩:=h.nd _ (List.getElem_mem hj);refine⟨q2,hq2.far ha (fun k hk hk2=>?_) hx'⟩;rcases Nat.lt_or_ge i j with hlt | hge
  ·exact hdj i j hi hj hlt k hk2 hk
  ·exact hdj j i hj hi (by omega) k hk hk2
 ·refine nY l i _ h.dj (fun j hj hji k hk hk2=>?_) (fun j hj hji k hk hk2=>?_)
  ·rcases ha.nw k hk2 with q | q
   ·exact hdj j i hj hi hji k hk q
   ·have:=old j hj k hk;omega
  ·rcases ha.nw k hk with q | q
   ·exact hdj i j hi hj hji k q hk2
   ·have:=old j hj k hk2;omega
 ·exact each (fun j hj _=>rb' _ (List.getElem_mem hj)) (by have:=rb' _ (List.getElem_mem hi);exact this)
 ·exact nY l i _ h.rd (fun j hj hji=>hrd j i hj hi hji) (fun j hj hji=>hrd i j hi hj hji)
theorem G13.msgs [Old] [cK] (h:G13 B X w G l ms tk many vn vm vt) {ms':List MV} {vm':Value} (hf:Fr (fun k _=>k≠G∧vm.ownBlock≠some k) w w') (ht:w'.heap[G]? = some (.cells #[vn,vm',vt,.int .i64 many] 66 (0,0))) (hr:OwnMs X B w' vm' ms'):G13 B X w' G l ms' tk many vn vm' vt:=by
 have ox:=xw h.rm.row (by decide) h.rm.off;have og:=l8 h.top (by decide) h.gx;have rw':∀{e:TypeId} {s:Nat} {v:Value} {n:Nat} {xs:List Value},w.ownsRow B e s v n xs→e≠66→e≠32→w'.ownsRow B e s v n xs:=fun hv h1 h2=>bY hv hf fun k o e ho=>⟨fun hk=>cX hv h.top h1 (hk▸e),fun hk=>jy hv h.rm.row h2 e hk⟩
 refine⟨ht,h.lg,h.lx,h.gx,rw' h.rn (by decide) (by decide),h.xn,hr,rw' h.rt (by decide) (by decide),h.xt,h.tl,fun x hx=>?_,h.td,fun x hx=>(h.nd x hx).keep hf fun c o ho hc=>⟨og c o ho hc,ox c o ho hc⟩,h.dj,fun x hx=>⟨hf.keep _ _ (h.rb x hx).1 ⟨fun e=>?_,fun e=>cX h.rm.row (h.rb x hx).1 (by decide) e⟩,(h.rb x hx).2⟩,h.rd,fun k hk=>Nat.lt_of_lt_of_le (h.hx k hk) hf.size⟩
 ·obtain⟨⟨xs,h1⟩,h2⟩:=h.ts x hx;exact⟨⟨xs,rw' h1 (by decide) (by decide)⟩,h2⟩
 ·have h1:=(h.rb x hx).1;unfold RB at h1;rw[e,h.top] at h1;cases h1
theorem G13.count [Old] [cK] (h:G13 B X w G l ms tk many vn vm vt) (many':Int) (e:w.setCell ⟨G,3,none⟩ (.int .i64 many')=w'):G13 B X w' G l ms tk many' vn vm vt∧Fr (fun k _=>k≠G) w w':=by
 have f:Fr (fun k _=>k≠G) w w':=e▸(Fr.refl _ _).setCell (fun _ _ h=>h rfl) _;have og:=l8 h.top (by decide) h.gx;have rw':∀{e:TypeId} {s:Nat} {v:Value} {n:Nat} {xs:List Value},w.ownsRow B e s v n xs→e≠66→w'.ownsRow B e s v n xs:=fun hv h1=>bY hv f fun k o e ho hk=>cX hv h.top h1 (hk▸e)
 refine⟨⟨by rw[←e];exact bK (o:=3) h.top _,h.lg,h.lx,h.gx,rw' h.rn (by decide),h.xn,⟨rw' h.rm.row (by decide),h.rm.off,fun m hm=>(h.rm.at' m hm).keep f fun c o ho hr=>og c o ho (.inr hr)⟩,rw' h.rt (by decide),h.xt,h.tl,fun x hx=>?_,h.td,fun x hx=>(h.nd x hx).keep f og,h.dj,fun x hx=>⟨f.keep _ _ (h.rb x hx).1 fun e=>?_,(h.rb x hx).2⟩,h.rd,fun k hk=>Nat.lt_of_lt_of_le (h.hx k hk) f.size⟩,f⟩
 ·obtain⟨⟨xs,h1⟩,h2⟩:=h.ts x hx;exact⟨⟨xs,rw' h1 (by decide)⟩,h2⟩
 ·have h1:=(h.rb x hx).1;unfold RB at h1;rw[e,h.top] at h1;cases h1
theorem G13.apply [Old] [cK] (h:G13 B X w G l ms tk many vn vm vt) (i:Nat) (hi:i<l.length) {ap':Nat} (hf:Fr (fun k _=>k≠l[i].rb) w w') (ht:RB w' l[i].rb l[i].b ap'):G13 B X w' G (l.set i ⟨l[i].b,l[i].rb,l[i].n,ap',l[i].P⟩) ms tk many vn vm vt:=by
 have hr:=h.rb _ (List.getElem_mem hi);have og:=l8 hr.1 (by decide) hr.2.1;have rw':∀{e:TypeId} {s:Nat} {v:Value} {n:Nat} {xs:List Value},w.ownsRow B e s v n xs→e≠97→w'.ownsRow B e s v n xs:=fun hv h1=>bY hv hf fun k o e ho hk=>cX hv hr.1 h1 (hk▸e)
 have e1:(l.set i ⟨l[i].b,l[i].rb,l[i].n,ap',l[i].P⟩).map ptrR=l.map ptrR:=by
  rw[List.map_set];apply List.ext_getElem?;intro j;rw[List.getElem?_set];split
  ·rename_i e;subst e;simp [hi]
  ·rfl
 have each:∀{Q:Rx→Prop},(∀j,(hj:j<l.length)→j≠i→Q l[j])→Q ⟨l[i].b,l[i].rb,l[i].n,ap',l[i].P⟩→∀x∈l.set i ⟨l[i].b,l[i].rb,l[i].n,ap',l[i].P⟩,Q x:=fun h1 h2 x hx=>by
  obtain⟨j,hj,e⟩:=List.mem_iff_getElem.1 hx;rw[List.length_set] at hj;rw[List.getElem_set] at e;by_cases hij:i=j
  ·rw[if_pos hij] at e;exact e▸h2
  ·rw[if_neg hij] at e;exact e▸h1 j hj (Ne.symm hij)
 have hdj:=List.pairwise_iff_getElem.1 h.dj;have hrd:=List.pairwise_iff_getElem.1 h.rd
 have hne:∀j,(hj:j<l.length)→j≠i→l[j].rb≠l[i].rb:=fun j hj hji e=>by
  rcases Nat.lt_or_ge i j with hlt | hge
  ·exact hrd i j hi hj hlt e.symm
  ·exact hrd j i hj hi (by omega) e
 refine⟨hf.keep _ _ h.top (fun e=>?_),h.lg,h.lx,h.gx,?_,h.xn,⟨rw' h.rm.row (by decide),h.rm.off,fun m hm=>(h.rm.at' m hm).keep hf fun c o ho hr=>og c o ho (.inr hr)⟩,rw' h.rt (by decide),h.xt,by rw[List.length_set];exact h.tl,fun x hx=>?_,h.td,?_,?_,?_,?_,fun k hk=>Nat.lt_of_lt_of_le (h.hx k hk) hf.size⟩
 ·have h1:=hr.1;unfold RB at h1;rw[←e,h.top] at h1;cases h1
 ·rw[List.length_set,e1];exact rw' h.rn (by decide)
 ·obtain⟨⟨xs,h1⟩,h2⟩:=h.ts x hx;exact⟨⟨xs,rw' h1 (by decide)⟩,h2⟩
 ·exact each (fun j hj _=>(h.nd _ (List.getElem_mem hj)).keep hf og) ((h.nd _ (List.getElem_mem hi)).keep hf og)
 ·exact nY l i _ h.dj (fun j hj hji=>hdj j i hj hi hji) (fun j hj hji=>hdj i j hi hj hji)
 ·exact each (fun j hj hji=>⟨hf.keep _ _ (h.rb _ (List.getElem_mem hj)).1 (hne j hj hji),(h.rb _ (List.getElem_mem hj)).2⟩) ⟨ht,hr.2⟩
 ·exact nY l i _ h.rd (fun j hj hji=>hrd j i hj hi hji) (fun j hj hji=>hrd i j hi hj hji)
theorem G13.took [Old] [cK] (h:G13 B X w G l ms tk many vn vm vt) (i:Nat) (hi:i<tk.length) {v':Value} {k':Nat} (hf:Fr (fun k _=>tk[i].1.ownBlock≠some k∧vt.ownBlock≠some k) w w') (hr:∃xs,w'.ownsRow B 87 4 v' k' xs) (hn:OwnNext w tk[i].1 v') (ht:w'.ownsRow B 80 1 vt tk.length ((tk.set i (v',k')).map Prod.fst)):G13 B X w' G l ms (tk.set i (v',k')) many vn vm vt:=by
 obtain⟨⟨xi,hri⟩,hxi⟩:=h.ts _ (List.getElem_mem hi);have o1:=xw hri (by decide) hxi;have o2:=xw h.rt (by decide) h.xt;have og:∀c o,w.heap[c]? = some o→X c∨RO X c o→tk[i].1.ownBlock≠some c∧vt.ownBlock≠some c:=fun c o ho hc=>⟨o1 c o ho hc,o2 c o ho hc⟩
 have rw':∀{e:TypeId} {s:Nat} {v:Value} {n:Nat} {xs:List Value},w.ownsRow B e s v n xs→e≠87→e≠80→w'.ownsRow B e s v n xs:=fun hv h1 h2=>bY hv hf fun k o e ho=>⟨fun hk=>jy hv hri h1 e hk,fun hk=>jy hv h.rt h2 e hk⟩
 have cell:∀{g:Nat} {cs:Array Value} {t:TypeId} {fz:Nat×Nat},w.heap[g]? = some (.cells cs t fz)→t≠87→t≠80→w'.heap[g]? = some (.cells cs t fz):=fun hg h1 h2=>hf.keep _ _ hg ⟨cX hri hg (Ne.symm h1),cX h.rt hg (Ne.symm h2)⟩
 have htd:=List.pairwise_iff_getElem.1 h.td
 have own':∀k,v'.ownBlock=some k→tk[i].1.ownBlock=some k∨w.heap.size≤k:=fun k e=>by
  rcases hn with q | ⟨j,q,hj⟩
  ·rw[q] at e;exact .inl e
  ·rw[q] at e;cases e;exact .inr hj
 have lt:∀j,(hj:j<tk.length)→∀k,tk[j].1.ownBlock=some k→k<w.heap.size:=fun j hj k e=>by obtain⟨⟨xs,h1⟩,_⟩:=h.ts _ (List.getElem_mem hj);obtain⟨c1,h2⟩:=bw h1 e;exact bZ h2
 refine⟨cell h.top (by decide) (by decide),h.lg,h.lx,h.gx,rw' h.rn (by decide) (by decide),h.xn,⟨rw' h.rm.row (by decide) (by decide),h.rm.off,fun m hm=>(h.rm.at' m hm).keep hf fun c o ho hr=>og c o ho (.inr hr)⟩,by rw[List.length_set];exact ht,h.xt,by rw[List.length_set];exact h.tl,fun x hx=>?_,?_,fun x hx=>(h.nd x hx).keep hf og,h.dj,fun x hx=>⟨cell (h.rb x hx).1 (by decide) (by decide),(h.rb x hx).2⟩,h.rd,fun k hk=>Nat.lt_of_lt_of_le (h.hx k hk) hf.size⟩
 ·obtain⟨j,hj,e⟩:=List.mem_iff_getElem.1 hx;rw[List.length_set] at hj;rw[List.getElem_set] at e;by_cases hij:i=j
  ·rw[if_pos hij] at e;subst e
   exact⟨hr,fun k e hk=>by
    rcases own' k e with q | q
    ·exact hxi k q hk
    ·have:=h.hx k hk;omega⟩
  ·rw[if_neg hij] at e;subst e;obtain⟨⟨xs,h1⟩,h2⟩:=h.ts _ (List.getElem_mem hj);refine⟨⟨xs,bY h1 hf fun k o e ho=>⟨fun hk=>?_,fun hk=>jy h1 h.rt (by decide) e hk⟩⟩,h2⟩;rcases Nat.lt_or_ge i j with hlt | hge
   ·exact htd i j hi hj hlt k hk e
   ·exact htd j i hj hi (by omega) k e hk
 ·refine nY tk i _ h.td (fun j hj hji k hk hk2=>?_) (fun j hj hji k hk hk2=>?_)
  ·rcases own' k hk2 with q | q
   ·exact htd j i hj hi hji k hk q
   ·have:=lt j hj k hk;omega
  ·rcases own' k hk with q | q
   ·exact htd i j hi hj hji k q hk2
   ·have:=lt j hj k hk2;omega
end
def encS (x:Nat×EV):List Value:=[.int .u64 (x.1:Nat),.int .u64 (x.2.t:Nat),.int .i64 x.2.k,.slice x.2.a x.2.d.length x.2.c]
theorem encS_len (x:Nat×EV):(encS x).length=4:=rfl
theorem encS_one (x:Nat×EV):∀u∈encS x,u.oneCell'=true:=fun u hu=>by
 simp only[encS,List.mem_cons,List.not_mem_nil,or_false] at hu;rcases hu with rfl | rfl | rfl | rfl <;> rfl
def entV (base:Nat) (es:List EV) (i:Nat):EV:=if base<i then es.getD (i-base-1) zEV else zEV
def kv (base:Nat) (es:List EV) (lo cnt:Nat):List (Nat×EV):=(List.range cnt).map fun j=>(lo+1+j,entV base es (lo+1+j))
theorem LX (base:Nat) (es:List EV) (lo cnt:Nat):(kv base es lo cnt).length=cnt:=by unfold kv;simp
theorem Gz (base:Nat) (es:List EV) (lo k:Nat):kv base es lo (k+1)=kv base es lo k++[(lo+1+k,entV base es (lo+1+k))]:=by unfold kv;rw[List.range_succ,List.map_append];rfl
theorem GY {K:Nat→Obj→Prop} (w:World) (b bt i:Nat) (a:Option Addr) (n c:Nat) (xs:List EV) (hx:RowsAt K w (.slice a n c) 3 encE xs) (h:b+n<18446744073709551616):
 Calls Tryz.prog 91 #[vL b bt (.slice a n c),.int .u64 (i:Nat)] w fun e w'=>(∃ok,e=.returned (.tuple #[vE (entV b xs i),.bool ok]))∧Fr (fun _ _=>True) w w':=by
 have hn:=hx.len';by_cases hi:b<i∧i≤b+n
 ·have e:entV b xs i=xs[i-b-1]:=by unfold entV;rw[if_pos hi.1,List.getD_eq_getElem?_getD,List.getElem?_eq_getElem (by omega)];rfl
  rw[e];exact(sZ w b bt i (i-b-1) a n c xs hx hn.symm h (by omega) (by omega)).mono fun e w' ⟨h1,h2⟩=>⟨⟨true,h1⟩,h2⟩
 ·have e:entV b xs i=zEV:=by
   unfold entV;split
   ·rw[List.getD_eq_getElem?_getD,List.getElem?_eq_none (by omega)];rfl
   ·rfl
  rw[e];exact(xX w b bt i a n c h hi).mono fun e w' ⟨h1,h2⟩=>⟨⟨false,h1⟩,h2⟩
theorem D_:(Tryz.prog.info? 87).map (fun i=>(i.zero,i.size,i.bytes))=some (some (.agg #[.int .u64 0,.int .u64 0,.int .i64 0,.slice none 0 0]),4,48):=by kernel_rfl
theorem lz {ops:Array Oper} {rest:List Oper} {o:Oper} {a:Act} {Q:Exit→Act→World→Prop} (W:World) (hgd:o.guard=none) (s x:Operand) (ho:o.op=.call { callee:=.builtin .append,args:=#[s,x],argTypes:=#[80,80] })
 (v:Value) (n:Nat) (xs:List Value) (hs:a.eval s=v) (hown:Hid (W.ownsRow 0 87 4 v n xs)) (gx:Nat) (y:Nat×EV) (hx:a.eval x=.slice (some ⟨gx,0,none⟩) 1 1)
 (hb:Hid (W.heap[gx]? = some (.cells (encS y).toArray 87 (0,0)))) (N:Nat) (hN:Hid (n+1=N)) (hn:N≤1000000)
 (h:∀g c w',Hid (w'.ownsRow 0 87 4 (.slice g N c) N (xs++encS y))→Hid (Fr (fun b _=>v.ownBlock≠some b) W w')→Hid (OwnNext W v (.slice g N c))→wpList Tryz.prog ops Q rest (a.put o.dst (.slice g N c)) w'):wpList Tryz.prog ops Q (o :: rest) a W:=by
 obtain⟨i0,hi,hz0,hz1,hz2⟩:=info_parts D_;exact wpList_plain hgd fun _ hK=>fk W s x 80 87 ho i0 _ 4 48 Tryz.underlying80 hi hz0 hz1 hz2 rfl (by decide) (by decide) v n xs hs hown gx (encS y) hx hb rfl (encS_one y) N hN hn fun g c w' h1 h2 h3=>hK _ _ (h g c w' h1 h2 h3)
section
variable {X P:Nat→Prop} {w w':World} {b rb ap:Nat} {n:Nd} {q:NV}
def TkOut (w:World) (rb b ap:Nat) (base:Nat) (es:List EV) (commit:Nat) (e:Ending) (w':World):Prop:=
 ∃g c,e=.returned (.slice g (commit-max ap base) c)∧w'.ownsRow w.heap.size 87 4 (.slice g (commit-max ap base) c) (commit-max ap base) ((kv base es (max ap base) (commit-max ap base)).flatMap encS)∧RB w' rb b (max ap commit)∧Fr (fun k _=>k≠rb) w w'
theorem Bq [Old] (h:PNs X P w b n q) (hr:RB w rb b ap) (hap:ap<9223372036854775808) (hb:n.log.base<9223372036854775808) (hcm:n.commit≤900000) (hl:n.log.last+1<18446744073709551616):
 Calls Tryz.prog 37 #[.pointer (some ⟨rb,0,none⟩)] w fun e w'=>TkOut w rb b ap n.log.base q.es n.commit e w':=by
 obtain⟨ae,ce,hve⟩:∃a c,q.ve=.slice a q.es.length c:=by obtain⟨a,c,e,_⟩:=h.ev.row.form;exact⟨a,c,e⟩
 obtain⟨le,hle⟩:=zE q.es.length;rw[hle] at hve;obtain⟨bs,hbs⟩:=zE n.log.base;obtain⟨bt,hbt⟩:=zE n.log.bt;obtain⟨cm,hcm0⟩:=zE n.commit;obtain⟨lo,hlo⟩:=zE (max ap bs);obtain⟨mx,hmx⟩:=zE (max ap cm);obtain⟨cnt,hcnt⟩:=zE (cm-lo);have hesl:n.log.es.length=le:=by rw[h.ee,List.length_map,hle]
 have LO1:Hid (max (ap:Int) (bs:Int)=(lo:Int)):=by show _=_;omega
 have MX1:Hid (max (ap:Int) (cm:Int)=(mx:Int)):=by show _=_;omega
 rw[hbs] at hb;rw[hcm0] at hcm;obtain⟨lo1,hlo1⟩:=zE (lo+1);have wl:IntKind.u64.wrap ((lo:Int)+1)=(lo1:Int):=by rw[IntKind.wrap_u64];omega
 have CC:Hid (∀W,Fr (fun _ _=>True) w W→W.cell? ⟨rb,0,none⟩=some (.pointer (some ⟨b,0,none⟩))∧W.cell? ⟨rb,1,none⟩=some (.int .u64 (ap:Nat))∧W.cell? ⟨b,7,none⟩=some (.int .u64 (cm:Nat))∧W.cell? ⟨b,8,none⟩=some (.int .u64 (bs:Nat))∧W.cell? ⟨b,9,none⟩=some (.int .u64 (bt:Nat))∧W.cell? ⟨b,10,none⟩=some (.slice ae le ce)):=fun W f=>by obtain⟨-,-,-,-,-,-,-,x7,x8,x9,x10,-,-,-⟩:=h.cells f;exact⟨bQ (f.keep _ _ hr trivial) rfl,bQ (f.keep _ _ hr trivial) rfl,by rw[x7,hcm0],by rw[x8,hbs],by rw[x9,hbt],by rw[x10,hve]⟩
 have EN:Hid (∀W,Fr (fun _ _=>True) w W→∀i:Nat,Calls Tryz.prog 91 #[.agg #[.int .u64 (bs:Nat),.int .u64 (bt:Nat),.slice ae le ce],.int .u64 (i:Nat)] W fun e w'=>(∃ok,e=.returned (.tuple #[vE (entV bs q.es i),.bool ok]))∧Fr (fun _ _=>True) W w'):=fun W f i=>
  GY W bs bt i ae le ce q.es (hve▸h.ev.row.tt f) (by unfold Lg.last at hl;omega)
 have HR:=zH hr;obtain⟨y0,y1,y7,y8,y9,y10⟩:=CC.out w (Fr.refl _ _);have HQ:=zH (And.intro hlo (And.intro hmx (And.intro hcnt (And.intro hbs hcm0))));have hcb:cm≤900000:=hcm;have HLO1:=zH hlo1;have hlo2:=hlo;have l1:=LO1.out;clear h hr hb hl hve hle hbs hbt hcm0 hmx hesl hcm;go_enter Tryz.func37,Tryz.ntmps37
 go_wp2_with fail
 go_quiet (fail)
 have U:Hid (Fr (fun _ _=>True) w (w.drewN nq)):=(Fr.refl _ w).drewN nq;generalize w.drewN nq=w1 at U ⊢;clear y0 y1 y7 y8 y9 y10;clear l1 wl;go_wp2_with fail
 go_loopw [3,4] (fun o i wr=>∃(j:Nat) (g:Option Addr) (c a9:Nat),i=.int .u64 (a9:Nat)∧a9=lo1+j∧j≤cnt∧o=.slice g j c∧Hid (wr.ownsRow w.heap.size 87 4 (.slice g j c) j ((kv bs q.es lo j).flatMap encS))∧Hid (Fr (fun _ _=>True) w wr)) (fun _ i _=>lo1+cnt-(intOf i).toNat)
 case atStart=>exact⟨0,none,0,lo1,rfl,rfl,Nat.zero_le _,rfl,⟨rfl,.inl ⟨rfl,rfl⟩⟩,U.out⟩
 case round=>
  obtain⟨j,g,c,a9,rfl,ha9,hj,rfl,HO,HF3⟩:=hrel;have hcnt:=HQ.out.2.2.1;by_cases hlt:j<cnt
  ·have hltI:(a9:Int)≤(cm:Int):=by omega
   obtain⟨a10,ha10⟩:=zE (a9+1);have w10:IntKind.u64.wrap ((a9:Int)+1)=(a10:Int):=by rw[IntKind.wrap_u64];omega
   obtain⟨y0,y1,y7,y8,y9,y10⟩:=CC.out wr HF3.out;have EC:=zH (EN.out wr HF3.out a9);obtain⟨x,hx⟩:=zE (entV bs q.es a9);rw[hx] at EC;have HX:=zH hx;have hj9:j≤900000:=by omega
   obtain⟨jn,hjn⟩:=zE (j+1);have HJ:=zH hjn;have HA:=zH (And.intro ha9 ha10);have hjn9:jn≤1000000:=by omega
   clear hx hcnt hjn ha9 ha10;go_wp2_with fail
   (with_reducible refine EC.out.mono ?_);rintro e w3 ⟨⟨ok,rfl⟩,f3⟩;unfold vE;have F3:=zH (HF3.out.trans f3);have HO3:Hid (w3.ownsRow w.heap.size 87 4 (.slice g j c) j ((kv bs q.es lo j).flatMap encS)):=bY HO.out f3 fun _ _ _ _=>trivial
   clear f3 EC y0 y1 y7 y8 y9 y10;obtain⟨w4,hw4⟩:=zE (w3.alloc (.cells #[.int .u64 0,.int .i64 0,.slice none 0 0] 85 (0,0)));have t4:w4.heap[w3.heap.size]? = some (.cells #[.int .u64 0,.int .i64 0,.slice none 0 0] 85 (0,0)):=hw4▸bX _ _;have f4:Fr (fun _ _=>True) w3 w4:=hw4▸(Fr.refl _ _).alloc _;obtain⟨w5,hw5,t5,f5⟩:=Lx t4 (.int .u64 (x.t:Nat)) (.int .i64 x.k) (.slice x.a x.d.length x.c);have v0:=bQ (i:=0) t4 rfl;have v1:=bQ (i:=1) t4 rfl;have v2:=bQ (i:=2) t4 rfl;have z0:=bJ (i:=0) t4;have z1:=bJ (i:=1) t4;have z2:=bJ (i:=2) t4;have u0:=bQ (i:=0) t5 rfl;have u1:=bQ (i:=1) t5 rfl;have u2:=bQ (i:=2) t5 rfl;have F35:Hid (Fr (fun k _=>k<w3.heap.size) w3 w5):=(f4.mono fun _ _ _=>trivial).trans (f5.mono fun k _ h e=>by have h':k<w3.heap.size:=h;omega);obtain⟨w6,hw6⟩:=zE (w5.alloc (.cells #[.int .u64 (a9:Nat),.int .u64 (x.t:Nat),.int .i64 x.k,.slice x.a x.d.length x.c] 87 (0,0)));have F36:Hid (Fr (fun k _=>k<w3.heap.size) w3 w6):=F35.out.trans (hw6▸(Fr.refl _ _).alloc _);have T6:Hid (w6.heap[w5.heap.size]? = some (.cells (encS (a9,x)).toArray 87 (0,0))):=by show w6.heap[w5.heap.size]? = _;rw[←hw6];exact bX _ _
   have OW:Hid (w6.ownsRow 0 87 4 (.slice g j c) j ((kv bs q.es lo j).flatMap encS)):=dy (bY HO3.out F36.out fun k o e ho=>bZ ho) fun _ _=>Nat.zero_le _
   clear f4 f5 F35 t4 t5;go_wp2_with (at_builtin;(try rw[hw4]);(try rw[hw5]);(try rw[hw6]);refine lz w6 rfl _ _ rfl (.slice g j c) j _ rfl OW w5.heap.size (a9,x) rfl T6 jn HJ hjn9 ?_)
   intro g7 c7 w7 O7 F7 N7;clear hw4 hw5 hw6 v0 v1 v2 z0 z1 z2 u0 u1 u2;have HS:Hid (w.heap.size≤w3.heap.size):=F3.out.size;have F67:Hid (Fr (fun _ _=>True) w w7):=Fr.within (((F3.out.mono fun _ _ _=>trivial:Fr (fun k _=>True∧k<w.heap.size) w w3).trans (F36.out.mono fun k _ h=>Nat.lt_of_lt_of_le h.2 HS.out)).trans (F7.out.mono fun k _ h e=>by have:=ck HO3.out k e;have:=h.2;omega))
   have O8:Hid (w7.ownsRow w.heap.size 87 4 (.slice g7 jn c7) jn ((kv bs q.es lo jn).flatMap encS)):=by
    show World.ownsRow _ _ _ _ _ _ _;rw[←HJ.out,Gz,List.flatMap_append,HJ.out]
    have ea:(lo+1+j,entV bs q.es (lo+1+j))=(a9,x):=by
     have e1:lo+1+j=a9:=by rw[HLO1.out];exact HA.out.1.symm
     rw[e1,HX.out]
    rw[ea];refine dy (by simpa using O7.out) fun k e=>?_
    rcases N7.out with q9 | ⟨k9,q9,hk9⟩
    ·rw[q9] at e;exact ck HO3.out k e
    ·rw[q9] at e;cases e;have:=F36.out.size;have:=HS.out;omega
   clear O7 F7 N7 OW T6;go_wp2;go_roundw
   case rel=>exact⟨jn,g7,c7,a10,by go_num,by have:=HA.out;have:=HJ.out;omega,by have:=HJ.out;omega,rfl,O8.out,F67.out⟩
   case measure=>simp [intOf];have:=HA.out;omega
  ·have hge:¬(a9:Int)≤(cm:Int):=by omega
   have hjc:j=cnt:=by omega
   subst hjc;obtain⟨y0,y1,y7,y8,y9,y10⟩:=CC.out wr HF3.out;clear hcnt;go_wp2_with fail
   clear y0 y1 y7 y8 y9 y10;refine wpR [(50,0),(51,1),(52,2),(53,3),(54,4),(55,5),(56,6),(57,7),(58,8),(59,9),(60,10),(61,11),(62,12),(63,13),(64,14)] [(0,[]),(1,[]),(2,[1]),(3,[2]),(4,[3]),(5,[]),(6,[5]),(7,[6]),(8,[7]),(9,[8]),(10,[9]),(11,[10]),(12,[4,11])] (ckR [(0,.pointer (some ⟨rb,0,none⟩)),(1,.pointer (some ⟨rb,0,none⟩)),(2,.pointer (some ⟨rb,0,none⟩)),(3,.pointer (some ⟨rb,1,none⟩)),(4,.int .u64 (ap:Nat)),(5,.pointer (some ⟨rb,0,none⟩)),(6,.pointer (some ⟨rb,0,none⟩)),(7,.pointer (some ⟨rb,0,none⟩)),(8,.pointer (some ⟨b,0,none⟩)),(9,.pointer (some ⟨b,0,none⟩)),(10,.pointer (some ⟨b,7,none⟩)),(11,.int .u64 (cm:Nat)),(12,.int .u64 (mx:Nat))] [] 13 0) 3 rfl ?cfall ?cfend
   case cfall=>
    iterate 12
     refine bV.q rfl rfl rfl (fun xs W HF hE K' hK=>?_) ?_
     ·simp only[ckEqs,ckLook,Nat.reduceBEq] at hE;simp only[fillA,fillL,sA,sB,sC,Act.put,hE] at hK ⊢;clear hE;obtain⟨y0,y1,y7,y8,y9,y10⟩:=CC.out W (HF3.out.trans ((Fr.refl (fun _ _=>True) wr).drew.trans HF.out));(try simp only[gA,gB,gC]);go_simp;exact hK.out _ rfl
    refine bV.p rfl rfl (fun xs W HF hA hE K' hK=>?_) ?_
    ·clear hA;simp only[ckEqs,ckLook,Nat.reduceBEq] at hE;simp only[fillA,fillL,sA,sB,sC,Act.put,hE] at hK ⊢;clear hE;obtain⟨y0,y1,y7,y8,y9,y10⟩:=CC.out W (HF3.out.trans ((Fr.refl (fun _ _=>True) wr).drew.trans HF.out));(try simp only[gA,gB,gC]);have MX:=MX1.out;go_simp;exact hK.out _ _ _ rfl (Fr.refl _ _) rfl
    exact bV.nil
   case cfend=>
    intro xs W hF hA;have HF:=zH hF;have hE:=b_ rfl hA;clear hA hF;simp only[List.map_cons,List.map_nil,ckEqs,ckLook,Nat.reduceBEq] at hE;simp only[fillA,fillL,sA,sB,sC,hE];clear hE;have FW:Hid (Fr (fun _ _=>True) w W):=HF3.out.trans ((Fr.refl (fun _ _=>True) wr).drew.trans HF.out);have OW:Hid (W.ownsRow w.heap.size 87 4 (.slice g j c) j ((kv bs q.es lo j).flatMap encS)):=bY HO.out ((Fr.refl (fun _ _=>True) wr).drew.trans HF.out) fun _ _ _ _=>trivial
    have RW:Hid (RB W rb b ap):=HR.out.fr FW.out fun _=>trivial
    have x1:=bQ (i:=1) RW.out rfl;have z1:=bJ (i:=1) RW.out;obtain⟨W9,hW9⟩:=zE (W.setCell ⟨rb,1,none⟩ (.int .u64 (mx:Nat)));have F9:Hid (Fr (fun k _=>k≠rb) W W9):=hW9▸(Fr.refl _ _).setCell (fun _ _ h=>h rfl) _;have R9:Hid (RB W9 rb b mx):=by show W9.heap[rb]? = _;rw[←hW9];exact bK (o:=1) RW.out _
    refine wpN 13 rfl fun K' hK=>?_
    (try simp only[gA,gB,gC]);go_simp;refine hK.out _ _ ?_;clear hK K';refine wpN 14 rfl fun K' hK=>?_
    (try simp only[gA,gB,gC]);go_simp;refine hK.out _ _ ?_;clear hK K';refine wpN 15 rfl fun K' hK=>?_
    (try simp only[gA,gB,gC]);go_simp;refine hK.out _ _ ?_;clear hK K';refine wpF ?_
    try rw[hW9]
    clear hW9 x1 z1;go_wp2;go_ret;have e1:=HQ.out.2.2.2.1;have e2:=HQ.out.2.2.2.2;have e3:=HQ.out.1;have e4:=HQ.out.2.2.1;have e5:=HQ.out.2.1;rw[e1,e2];unfold TkOut;rw[e3,e4,e5];refine⟨g,c,rfl,bY OW.out F9.out fun k o e ho hk=>cX OW.out RW.out (by decide) (hk▸e),R9.out,(FW.out.mono fun _ _ _=>trivial).trans F9.out⟩
end
structure StV where
 me:Int
 role:Int
 vote:Int
 ld:Int
 ac:Option Addr
 cc:Nat
 conf:List Int
 tm:Nat
 commit:Nat
 base:Nat
 bt:Nat
 ae:Option Addr
 ce:Nat
 es:List EV
 an:Option Addr
 cn:Nat
 next:List Nat
 am:Option Addr
 cm:Nat
 mat:List Nat
def StV.nd (s:StV):Nd:={ Nd.new s.me s.conf with vote:=s.vote,role:=s.role,ld:=s.ld,tm:=s.tm,commit:=s.commit,log:=⟨s.base,s.bt,s.es.map EV.en⟩,next:=s.next,mat:=s.mat }
section
variable {X P:Nat→Prop} {w w':World} {b:Nat} {n0 n:Nd} {q0:NV}
end
theorem A16.of_own {w:World} {B g c:Nat} {a:Option Addr} {l:List Nat} (h:w.ownsRow B 23 1 (.slice a 16 c) 16 (l.flatMap encW)) (hl:l.length=16):∃g,a=some ⟨g,0,none⟩∧B≤g∧A16 w g l:=by
 obtain⟨h1,h2⟩:=h;rcases h2 with⟨h2,h3⟩ | ⟨g,c',cur,e,hb,h4,-,-,h5,h6⟩
 ·cases h2
 ·cases e;refine⟨g,rfl,hb,hl,cur,h4,fun i hi=>?_⟩;have e2:(cur.toList.take (16*1))[i]? = (l.flatMap encW)[i]?:=by rw[h6]
  rw[List.getElem?_take_of_lt (by omega),Array.getElem?_toList,yV,List.getElem?_map,List.getElem?_eq_getElem (l:=l) (i:=i) (by rw[hl];exact hi)] at e2;rw[e2,List.getD_eq_getElem?_getD,List.getElem?_eq_getElem (by omega)];rfl
def up (l:List Nat) (k:Nat):List Nat:=l.take k++List.replicate (16-k) 0
theorem up_set {l:List Nat} {k:Nat} (h:l.length=16) (hk:k<16):(up l k).set k (l.getD k 0)=up l (k+1):=by
 unfold up;have e:16-k=(16-(k+1))+1:=by omega
 have e2:(l.take k).length=k:=by simp;omega
 rw[e,List.replicate_succ,List.set_append_right _ _ (by omega),e2,Nat.sub_self,List.set_cons_zero,List.take_add_one,List.getD_eq_getElem?_getD,List.getElem?_eq_getElem (by omega)];simp only[Option.toList_some,Option.getD_some,List.append_assoc,List.singleton_append]
theorem up_all {l:List Nat} (h:l.length=16):up l 16=l:=by
 unfold up;rw[List.take_of_length_le (by omega)];simp
theorem tQ (w:World) (many:Nat) (hm:many≤1000):Calls Tryz.prog 30 #[.int .i64 (many:Nat)] w fun e w'=>(∃g c,e=.returned (.slice g many c)∧w'.ownsRow w.heap.size 3 1 (.slice g many c) (cfN many).length ((cfN many).flatMap encI))∧Fr (fun _ _=>True) w w':=by
 go_enter Tryz.func30,Tryz.ntmps30
 go_wp2;go_loopw [3,4] (fun o i wr=>∃(k:Nat) (g:Option Addr) (c:Nat),i=.int .i64 (k:Nat)∧k≤many∧o=.slice g k c∧Hid (wr.ownsRow w.heap.size 3 1 (.slice g k c) (cfN k).length ((cfN k).flatMap encI))∧Hid (Fr (fun _ _=>True) w wr)) (fun _ i _=>many-(intOf i).toNat)
 case atStart=>exact⟨0,none,0,rfl,Nat.zero_le _,rfl,⟨rfl,.inl ⟨rfl,rfl⟩⟩,Fr.refl _ _⟩
 case round=>
  obtain⟨k,g,c,rfl,hk,rfl,HO,HF⟩:=hrel;by_cases hlt:k<many
  ·have hltI:(k:Int)<(many:Int):=by omega
   obtain⟨W3,hW3⟩:=zE (wr.alloc (.cells #[.int .i64 (k:Nat)] 3 (0,0)));have f3:Fr (fun _ _=>True) wr W3:=hW3▸(Fr.refl _ _).alloc _;have ROW:Hid (RowsAt (fun c _=>c=wr.heap.size) W3 (.slice (some ⟨wr.heap.size,0,none⟩) 1 1) 1 encI [((k:Nat):Int)]):=ky (hW3▸bX _ _);have FW3:=zH (HF.out.trans f3);have OW3:Hid (W3.ownsRow w.heap.size 3 1 (.slice g k c) (cfN k).length ((cfN k).flatMap encI)):=bY HO.out f3 fun _ _ _ _=>trivial
   have HL3:Hid ((cfN (k+1)).length=k+1):=jq _;have HR3:Hid (cfN k++[((k:Nat):Int)]=cfN (k+1)):=(Fw k).symm;have hl1:k+1≤1000000:=by omega
   clear f3;go_wp2_with (at_builtin;(try rw[hW3]);refine fZ w W3 FW3 rfl _ _ rfl (.slice g k c) (cfN k) rfl OW3 _ [((k:Nat):Int)] rfl ROW _ HR3 (k+1) HL3 hl1 ?_)
   intro g5 c5 W5 O5 F5 G5 N5;clear hW3;go_wp2;go_roundw
   case rel=>exact⟨k+1,g5,c5,by go_num,by omega,rfl,by show World.ownsRow _ _ _ _ _ _ _;rw[HL3.out];exact O5.out,F5.out⟩
   case measure=>simp [intOf];omega
  ·have hge:¬(k:Int)<(many:Int):=by omega
   have hkm:k=many:=by omega
   subst hkm;go_wp2;go_ret;exact⟨⟨g,c,rfl,HO.out⟩,HF.out⟩
theorem zK {many:Nat} (h1:1≤many) (h5:many≤5):dw (cfN many)=true:=by
 match many,h1,h5 with
 | 1,_,_=>decide
 | 2,_,_=>decide
 | 3,_,_=>decide
 | 4,_,_=>decide
 | 5,_,_=>decide
theorem L5:(Tryz.prog.info? 73).map (fun i=>(i.zero,i.size,i.bytes))=some (some (.pointer none),1,8):=by kernel_rfl
theorem info_slS:(Tryz.prog.info? 80).map (fun i=>(i.zero,i.size,i.bytes))=some (some (.slice none 0 0),1,24):=by kernel_rfl
section
variable {ops:Array Oper} {rest:List Oper} {o:Oper} {a:Act} {Q:Exit→Act→World→Prop}
theorem kx (W:World) (hgd:o.guard=none) (s x:Operand) (ho:o.op=.call { callee:=.builtin .append,args:=#[s,x],argTypes:=#[63,63] })
 (v:Value) (n:Nat) (xs:List Value) (hs:a.eval s=v) (hown:Hid (W.ownsRow 0 73 1 v n xs)) (gx b:Nat) (hx:a.eval x=.slice (some ⟨gx,0,none⟩) 1 1) (hb:Hid (W.heap[gx]? = some (.cells #[.pointer (some ⟨b,0,none⟩)] 73 (0,0)))) (N:Nat) (hN:Hid (n+1=N)) (hn:N≤1000000)
 (h:∀g c w',Hid (w'.ownsRow 0 73 1 (.slice g N c) N (xs++[.pointer (some ⟨b,0,none⟩)]))→Hid (Fr (fun b _=>v.ownBlock≠some b) W w')→Hid (OwnNext W v (.slice g N c))→wpList Tryz.prog ops Q rest (a.put o.dst (.slice g N c)) w'):wpList Tryz.prog ops Q (o :: rest) a W:=by
 obtain⟨i0,hi,hz0,hz1,hz2⟩:=info_parts L5;exact wpList_plain hgd fun _ hK=>fk W s x 63 73 ho i0 _ 1 8 Tryz.underlying63 hi hz0 hz1 hz2 rfl (by decide) (by decide) v n xs hs hown gx [.pointer (some ⟨b,0,none⟩)] hx hb rfl (fun u hu=>by rw[List.mem_singleton.1 hu];rfl) N hN hn fun g c w' h1 h2 h3=>hK _ _ (h g c w' h1 h2 h3)
theorem lk (W:World) (hgd:o.guard=none) (s x:Operand) (ho:o.op=.call { callee:=.builtin .append,args:=#[s,x],argTypes:=#[64,64] })
 (v:Value) (n:Nat) (xs:List Value) (hs:a.eval s=v) (hown:Hid (W.ownsRow 0 80 1 v n xs)) (gx:Nat) (hx:a.eval x=.slice (some ⟨gx,0,none⟩) 1 1) (hb:Hid (W.heap[gx]? = some (.cells #[.slice none 0 0] 80 (0,0)))) (N:Nat) (hN:Hid (n+1=N)) (hn:N≤1000000)
 (h:∀g c w',Hid (w'.ownsRow 0 80 1 (.slice g N c) N (xs++[.slice none 0 0]))→Hid (Fr (fun b _=>v.ownBlock≠some b) W w')→Hid (OwnNext W v (.slice g N c))→wpList Tryz.prog ops Q rest (a.put o.dst (.slice g N c)) w'):wpList Tryz.prog ops Q (o :: rest) a W:=by
 obtain⟨i0,hi,hz0,hz1,hz2⟩:=info_parts info_slS;exact wpList_plain hgd fun _ hK=>fk W s x 64 80 ho i0 _ 1 24 Tryz.underlying64 hi hz0 hz1 hz2 rfl (by decide) (by decide) v n xs hs hown gx [.slice none 0 0] hx hb rfl (fun u hu=>by rw[List.mem_singleton.1 hu];rfl) N hN hn fun g c w' h1 h2 h3=>hK _ _ (h g c w' h1 h2 h3)
end
section
variable {B:Nat} {X X3 P3:Nat→Prop} {w w3 w':World} {G:Nat} {l:List Rx} {ms:List MV} {tk:List (Value×Nat)} {many:Int} {vn vm vt:Value} {b rb:Nat} {n:Nd}
theorem G13.more [Old] [cK] (h:G13 B X w G l ms tk many vn vm vt) (ha:Aft X (fun _=>False) X3 P3 w w3) (hx3:∀k,X3 k→k<w3.heap.size):G13 B X3 w3 G l ms tk many vn vm vt:=by
 have f:Fr (fun _ _=>True) w w3:=ha.fr.mono fun _ _ _ h=>h
 have h1:=h.tt f;have off:∀{k o},w.heap[k]? = some o→¬X k→¬X3 k:=fun ho hk=>(ha.off ho hk).2
 have row:∀{e:TypeId} {s:Nat} {v:Value} {n:Nat} {xs:List Value},w.ownsRow B e s v n xs→(∀k,v.ownBlock=some k→¬X k)→∀k,v.ownBlock=some k→¬X3 k:=fun hr hk k e=>by obtain⟨cur,ho⟩:=bw hr e;exact off ho (hk k e)
 refine⟨h1.top,h.lg,fun k hk=>?_,off h.top h.gx,h1.rn,row h.rn h.xn,h.rm.aft ha,h1.rt,row h.rt h.xt,h.tl,fun x hx=>?_,h.td,fun x hx=>(h.nd x hx).far ha (fun _ _ h=>h) hx3,h.dj,fun x hx=>⟨(h1.rb x hx).1,off (h.rb x hx).1 (h.rb x hx).2.1,(h.rb x hx).2.2⟩,h.rd,hx3⟩
 ·rcases(ha.xx k).1 hk with q | q
  ·exact h.lx k q
  ·rcases ha.nw k q with q | q
   ·exact q.elim
   ·exact Nat.le_trans h.bs q
 ·obtain⟨⟨xs,h2⟩,h3⟩:=h1.ts x hx;obtain⟨⟨xs',h4⟩,h5⟩:=h.ts x hx;exact⟨⟨xs,h2⟩,row h4 h5⟩
theorem G13.gcells13 [Old] (h:G13 B X w G l ms tk many vn vm vt) {W:World} (f:Fr (fun _ _=>True) w W):W.cell? ⟨G,0,none⟩=some vn∧W.cell? ⟨G,2,none⟩=some vt:=by
 have t:=f.keep _ _ h.top trivial;exact⟨bQ t rfl,bQ t rfl⟩
theorem G13.add [Old] [cK] (h:G13 B X w G l ms tk many vn vm vt) (ha:Aft X (fun _=>False) X3 P3 w w3) (hp:PN X3 P3 w3 b n) (hrb:RB w3 rb b 0) (hrx:¬X3 rb) (hrs:w.heap.size≤rb) {vn' vt':Value} (hf:Fr (fun k _=>k≠G∧vn.ownBlock≠some k∧vt.ownBlock≠some k) w3 w')
 (ht:w'.heap[G]? = some (.cells #[vn',vm,vt',.int .i64 many] 66 (0,0))) (hrn:w'.ownsRow B 73 1 vn' (l.length+1) (l.map ptrR++[.pointer (some ⟨rb,0,none⟩)])) (hnn:OwnNext w3 vn vn')
 (hrt:w'.ownsRow B 80 1 vt' (tk.length+1) (tk.map Prod.fst++[.slice none 0 0])) (hnt:OwnNext w3 vt vt'):G13 B X3 w' G (l++[⟨b,rb,n,0,P3⟩]) ms (tk++[(.slice none 0 0,0)]) many vn' vm vt':=by
 obtain⟨q0,hq0⟩:=hp;have h3:=h.more ha hq0.hx;have o1:=xw h3.rn (by decide) h3.xn;have o2:=xw h3.rt (by decide) h3.xt;have o3:=l8 h3.top (by decide) h3.gx;have og:∀c o,w3.heap[c]? = some o→X3 c∨RO X3 c o→c≠G∧vn.ownBlock≠some c∧vt.ownBlock≠some c:=fun c o ho hc=>⟨o3 c o ho hc,o1 c o ho hc,o2 c o ho hc⟩
 have rw':∀{e:TypeId} {s:Nat} {v:Value} {n:Nat} {xs:List Value},w3.ownsRow B e s v n xs→e≠66→e≠73→e≠80→w'.ownsRow B e s v n xs:=fun hv h1 h2 h4=>bY hv hf fun k o e ho=>⟨fun hk=>cX hv h3.top h1 (hk▸e),fun hk=>jy hv h3.rn h2 e hk,fun hk=>jy hv h3.rt h4 e hk⟩
 have rbk:∀{r c p:Nat},RB w3 r c p→RB w' r c p:=fun {r c p} hr=>by have h1:=hr;unfold RB at h1;refine hf.keep _ _ hr ⟨fun e=>?_,cX h3.rn h1 (by decide),cX h3.rt h1 (by decide)⟩;rw[e,h3.top] at h1;cases h1
 have nx:∀{v v':Value},OwnNext w3 v v'→(∀k,v.ownBlock=some k→¬X3 k)→∀k,v'.ownBlock=some k→¬X3 k:=fun hn hv k e hx=>by
  rcases hn with q | ⟨j,q,hj⟩
  ·rw[q] at e;exact hv k e hx
  ·rw[q] at e;cases e;have:=hq0.hx k hx;omega
 have b3:B≤rb:=Nat.le_trans h.bs hrs;have f3:Fr (fun _ _=>True) w w3:=ha.fr.mono fun _ _ _ h=>h
 have kn:∀{P:Nat→Prop} {b:Nat} {n:Nd},PN X3 P w3 b n→PN X3 P w' b n:=fun hp=>hp.keep hf og
 refine⟨ht,h.lg,h3.lx,h3.gx,by rw[List.length_append,List.map_append];exact hrn,nx hnn h3.xn,⟨rw' h3.rm.row (by decide) (by decide) (by decide),h3.rm.off,fun m hm=>(h3.rm.at' m hm).keep hf fun c o ho hr=>og c o ho (.inr hr)⟩,by rw[List.length_append,List.map_append];exact hrt,nx hnt h3.xt,by rw[List.length_append,List.length_append,h.tl];rfl,fun x hx=>?_,?_,fun x hx=>?_,?_,fun x hx=>?_,?_,fun k hk=>Nat.lt_of_lt_of_le (hq0.hx k hk) hf.size⟩
 ·rcases List.mem_append.1 hx with hx | hx
  ·obtain⟨⟨xs,h1⟩,h2⟩:=h3.ts x hx;exact⟨⟨xs,rw' h1 (by decide) (by decide) (by decide)⟩,h2⟩
  ·rw[List.mem_singleton.1 hx];exact⟨⟨[],rfl,.inl ⟨rfl,rfl⟩⟩,fun k e=>by cases e⟩
 ·refine List.pairwise_append.2 ⟨h.td,List.pairwise_singleton _ _,fun x hx y hy k hk hk2=>?_⟩;rw[List.mem_singleton.1 hy] at hk2;cases hk2
 ·rcases List.mem_append.1 hx with hx | hx
  ·exact kn (h3.nd x hx)
  ·rw[List.mem_singleton.1 hx];exact kn ⟨q0,hq0⟩
 ·refine List.pairwise_append.2 ⟨h.dj,List.pairwise_singleton _ _,fun x hx y hy k hk hk2=>?_⟩;rw[List.mem_singleton.1 hy] at hk2;obtain⟨q,hq⟩:=h.nd x hx;have hlt:=hq.hx k (hq.px k hk);rcases ha.nw k hk2 with q | q
  ·exact q
  ·omega
 ·rcases List.mem_append.1 hx with hx | hx
  ·exact⟨rbk (h3.rb x hx).1,(h3.rb x hx).2⟩
  ·rw[List.mem_singleton.1 hx];exact⟨rbk hrb,hrx,b3⟩
 ·refine List.pairwise_append.2 ⟨h.rd,List.pairwise_singleton _ _,fun x hx y hy e=>?_⟩;rw[List.mem_singleton.1 hy] at e;have:=bZ (h.rb x hx).1;have e':x.rb=rb:=e;omega
end
theorem zY (w:World) (z:Int) (hz:z<1∨5<z):Calls Tryz.prog 28 #[.int .i64 z] w fun e w'=>e=.returned (.pointer none)∧w=w':=by
 by_cases h1:z<1
 ·clear hz;go_enter Tryz.func28,Tryz.ntmps28
  go_wp2;go_ret;exact⟨rfl,rfl⟩
 ·have h2:5<z:=by omega
  clear hz;go_enter Tryz.func28,Tryz.ntmps28
  go_wp2;go_ret;exact⟨rfl,rfl⟩
def B13Out [Old] (w:World) (many:Nat) (e:Ending) (w':World):Prop:=
 ∃G X l tk vn vt,e=.returned (.pointer (some ⟨G,0,none⟩))∧G13 w.heap.size X w' G l [] tk 0 vn (.slice none 0 0) vt∧l.map (·.n)=(cfN many).map (fun i=>Nd.new i (cfN many))∧l.map (·.ap)=List.replicate many 0∧tk.map Prod.snd=List.replicate many 0∧Fr (fun _ _=>True) w w'
theorem lY [Old] [cK] (w:World) (many:Nat) (h1:1≤many) (h5:many≤5):Calls Tryz.prog 28 #[.int .i64 (many:Nat)] w fun e w'=>B13Out w many e w':=by
 have m1:¬((many:Int)<1):=by omega
 have m2:¬((5:Int)<(many:Int)):=by omega
 have RQ:Hid (dw (cfN many)=true):=zK h1 h5;have hbG:∀W:World,(Instr.build 66 #[]).run Tryz.prog W=.ok (.agg #[.slice none 0 0,.slice none 0 0,.slice none 0 0,.int .i64 0]) W:=fun W=>run_build W _ _ _ (by kernel_rfl)
 obtain⟨w1,hw1⟩:=zE (w.alloc (.cells #[.slice none 0 0,.slice none 0 0,.slice none 0 0,.int .i64 0] 66 (0,0)));have T1:Hid (w1.heap[w.heap.size]? = some (.cells #[.slice none 0 0,.slice none 0 0,.slice none 0 0,.int .i64 0] 66 (0,0))):=hw1▸bX _ _;have F1:Hid (Fr (fun _ _=>True) w w1):=hw1▸(Fr.refl _ _).alloc _
 have G0:Hid (G13 w.heap.size (fun _=>False) w1 w.heap.size [] [] [] 0 (.slice none 0 0) (.slice none 0 0) (.slice none 0 0)):=
  ⟨T1.out,Nat.le_refl _,fun _ h=>h.elim,fun h=>h,⟨rfl,.inl ⟨rfl,rfl⟩⟩,(fun _ e=>by cases e),OwnMs.nil _ _ _,⟨rfl,.inl ⟨rfl,rfl⟩⟩,(fun _ e=>by cases e),rfl,(fun _ h=>by cases h),List.Pairwise.nil,(fun _ h=>by cases h),List.Pairwise.nil,(fun _ h=>by cases h),List.Pairwise.nil,fun _ h=>h.elim⟩
 have GB:Hid (w.heap.size<w1.heap.size):=bZ T1.out;go_enter Tryz.func28,Tryz.ntmps28
 go_wp2
 try rw[hw1]
 clear hw1 hbG;go_loopw [4] (fun i wr=>∃(j:Nat) (X:Nat→Prop) (l:List Rx) (tk:List (Value×Nat)) (vn vt:Value),i=.int .i64 (j:Nat)∧j≤many∧Hid (G13 w.heap.size X wr w.heap.size l [] tk 0 vn (.slice none 0 0) vt)∧Hid (l.length=j)∧Hid (l.map (·.n)=(cfN j).map (fun i=>Nd.new i (cfN many)))∧Hid (l.map (·.ap)=List.replicate j 0)∧Hid (tk.map Prod.snd=List.replicate j 0)∧Hid (Fr (fun _ _=>True) w wr)) (fun i _=>many-(intOf i).toNat)
 case atStart=>exact⟨0,_,[],[],_,_,rfl,Nat.zero_le _,G0.out,rfl,rfl,rfl,rfl,F1.out⟩
 case round=>
  obtain⟨j,X,l,tk,vn,vt,rfl,hj,HG,HL,HN,HA,HT,HF⟩:=hrel;by_cases hlt:j<many
  ·have hltI:(j:Int)<(many:Int):=by omega
   have CC:=zH (tQ wr many (by omega));go_wp2_with fail
   (with_reducible refine CC.out.mono ?_);rintro e W2 ⟨⟨gc,kc,rfl,oc⟩,f2⟩;have F2:=zH f2;have G2:=zH (HG.out.tt f2)
   have IC:IntsAt (RO X) W2 (.slice gc many kc) (cfN many):=(RowI.intsK (B:=wr.heap.size) (zs:=cfN many) (show RowI W2 wr.heap.size (.slice gc many kc) (cfN many) by
    show World.ownsRow _ _ _ _ _ _ _;rw[←j9,jq];rw[jq] at oc;exact oc)).mono fun c o hc=>⟨fun hx=>by have:=HG.out.hx c hx;omega,by obtain⟨cs,e⟩:=hc.2;exact .inr ⟨cs,_,_,e,by decide⟩⟩
   have NC:=zH (sx (X:=X) W2 (j:Nat) (.slice gc many kc) (cfN many) IC (by rw[jq];unfold maxLen;omega) G2.out.hx (fun c hc=>absurd hc (cK.no c)));clear CC oc f2 IC;go_wp2_with fail
   (with_reducible refine NC.out.mono ?_);intro e W3 hR
   obtain⟨rb,b,X3,P3,q3,rfl,h3,r3,rx3,a3,hb,hrs⟩:∃rb b X3 P3 q3,e=.returned (.tuple #[.pointer (some ⟨rb,0,none⟩),.int .i64 0])∧PNs X3 P3 W3 b (Nd.new (j:Nat) (cfN many)) q3∧RB W3 rb b 0∧¬X3 rb∧Aft X (fun _=>False) X3 P3 W2 W3∧W2.heap.size≤b∧W2.heap.size≤rb:=by
    rcases hR with⟨hne,_⟩ | ⟨_,rb,b,X3,P3,q3,h⟩
    ·refine absurd ?_ hne;unfold FV;rw[if_neg (by omega),if_neg (by rw[RQ.out];decide)]
    ·exact⟨rb,b,X3,P3,q3,h⟩
   have HH:=zH (And.intro (show PN X3 P3 W3 b (Nd.new (j:Nat) (cfN many)) from⟨q3,h3⟩) (And.intro r3 (And.intro rx3 (And.intro a3 hrs))));have f3:Hid (Fr (fun _ _=>True) W2 W3):=a3.fr.mono fun _ _ _ h=>h
   have y0:W3.cell? ⟨rb,0,none⟩=some (.pointer (some ⟨b,0,none⟩)):=bQ r3 rfl;have F3:Hid (Fr (fun _ _=>True) w W3):=HF.out.trans (F2.out.trans f3.out);have G3:=zH (G2.out.tt f3.out);obtain⟨gn,cn2,hvn⟩:=cQ G2.out.rn;obtain⟨gt,ct2,hvt⟩:=cQ G2.out.rt;rw[HL.out] at hvn;have htl:tk.length=j:=by rw[G2.out.tl,HL.out]
   rw[htl] at hvt;have x0:=(G3.out.gcells13 (Fr.refl _ W3)).1;rw[hvn] at x0;have z0:=bJ (i:=0) G3.out.top;obtain⟨W4,hW4⟩:=zE (W3.alloc (.cells #[.pointer (some ⟨rb,0,none⟩)] 73 (0,0)));have f4:Hid (Fr (fun _ _=>True) W3 W4):=hW4▸(Fr.refl _ _).alloc _;have t4:Hid (W4.heap[W3.heap.size]? = some (.cells #[.pointer (some ⟨rb,0,none⟩)] 73 (0,0))):=hW4▸bX _ _
   have OW:Hid (W4.ownsRow 0 73 1 (.slice gn j cn2) j (l.map ptrR)):=by
    show World.ownsRow _ _ _ _ _ _ _;rw[←hvn];have:=bY G3.out.rn f4.out fun _ _ _ _=>trivial
    rw[HL.out] at this;exact dy this fun _ _=>Nat.zero_le _
   have HV:=zH (And.intro hvn (And.intro hvt htl));obtain⟨jn,hjn⟩:=zE (j+1);have HJN:=zH hjn;have hjn9:jn≤1000000:=by omega
   have HS9:Hid (w.heap.size<W3.heap.size):=by have:=GB.out;have:=F3.out.size;have:=bZ G3.out.top;show _<_;omega
   clear h3 r3 rx3 a3 hb hrs hR NC hvn hvt htl hjn;go_wp2_with (at_builtin;(try rw[hW4]);refine kx W4 rfl _ _ rfl (.slice gn j cn2) j (l.map ptrR) rfl OW W3.heap.size rb rfl t4 jn HJN hjn9 ?_)
   intro g5 c5 W5 O5 F5 N5;clear hW4 x0 z0 y0;have gnG:Hid ((Value.slice gn j cn2).ownBlock≠some w.heap.size):=by show _≠_;rw[←HV.out.1];exact cX G3.out.rn G3.out.top (by decide)
   have T5:W5.heap[w.heap.size]? = some (.cells #[vn,.slice none 0 0,vt,.int .i64 0] 66 (0,0)):=F5.out.keep _ _ (f4.out.keep _ _ G3.out.top trivial) gnG.out;have y5:W5.cell? ⟨w.heap.size,0,none⟩=some (.slice gn j cn2):=by rw[←HV.out.1];exact bQ T5 rfl
   have z5:=bJ (i:=0) T5;obtain⟨W6,hW6⟩:=zE (W5.setCell ⟨w.heap.size,0,none⟩ (.slice g5 jn c5));have f6:Hid (Fr (fun k _=>k≠w.heap.size) W5 W6):=hW6▸(Fr.refl _ _).setCell (fun _ _ h=>h rfl) _;have T6:Hid (W6.heap[w.heap.size]? = some (.cells #[.slice g5 jn c5,.slice none 0 0,vt,.int .i64 0] 66 (0,0))):=by show _=_;rw[←hW6];exact bK (o:=0) T5 _
   have y6:W6.cell? ⟨w.heap.size,2,none⟩=some (.slice gt j ct2):=by rw[←HV.out.2.1];exact bQ T6.out rfl
   have z6:=bJ (i:=2) T6.out;have gnT:Hid ((Value.slice gt j ct2).ownBlock≠some w.heap.size):=by show _≠_;rw[←HV.out.2.1];exact cX G3.out.rt G3.out.top (by decide)
   have O6:Hid (W6.ownsRow 0 73 1 (.slice g5 jn c5) jn (l.map ptrR++[.pointer (some ⟨rb,0,none⟩)])):=bY O5.out f6.out fun k o e ho hk=>cX O5.out T5 (by decide) (hk▸e)
   have F36:Hid (Fr (fun k _=>k≠w.heap.size∧(Value.slice gn j cn2).ownBlock≠some k) W3 W6):=(f4.out.mono fun _ _ _=>trivial).trans ((F5.out.mono fun c _ h=>h.2).trans (f6.out.mono fun c _ h=>h.1))
   have OT6:Hid (W6.ownsRow 0 80 1 (.slice gt j ct2) j (tk.map Prod.fst)):=by
    show World.ownsRow _ _ _ _ _ _ _;have:=bY G3.out.rt F36.out fun k o e ho=>⟨fun hk=>cX G3.out.rt G3.out.top (by decide) (hk▸e),fun hk=>jy G3.out.rt G3.out.rn (by decide) e (by rw[HV.out.1];exact hk)⟩
    rw[HV.out.2.1,HV.out.2.2] at this;exact dy this fun _ _=>Nat.zero_le _
   obtain⟨W7,hW7⟩:=zE (W6.alloc (.cells #[.slice none 0 0] 80 (0,0)));have f7:Hid (Fr (fun _ _=>True) W6 W7):=hW7▸(Fr.refl _ _).alloc _;have t7:Hid (W7.heap[W6.heap.size]? = some (.cells #[.slice none 0 0] 80 (0,0))):=hW7▸bX _ _;have OT7:Hid (W7.ownsRow 0 80 1 (.slice gt j ct2) j (tk.map Prod.fst)):=bY OT6.out f7.out fun _ _ _ _=>trivial
   clear T5;go_wp2_with (at_builtin;(try rw[hW6]);(try rw[hW7]);refine lk W7 rfl _ _ rfl (.slice gt j ct2) j (tk.map Prod.fst) rfl OT7 W6.heap.size rfl t7 jn HJN hjn9 ?_)
   intro g8 c8 W8 O8 F8 N8;clear hW6 hW7 y5 z5 y6 z6;have T8:W8.heap[w.heap.size]? = some (.cells #[.slice g5 jn c5,.slice none 0 0,vt,.int .i64 0] 66 (0,0)):=F8.out.keep _ _ (f7.out.keep _ _ T6.out trivial) gnT.out;have y8:W8.cell? ⟨w.heap.size,2,none⟩=some (.slice gt j ct2):=by rw[←HV.out.2.1];exact bQ T8 rfl
   have z8:=bJ (i:=2) T8;obtain⟨W9,hW9⟩:=zE (W8.setCell ⟨w.heap.size,2,none⟩ (.slice g8 jn c8));have f9:Hid (Fr (fun k _=>k≠w.heap.size) W8 W9):=hW9▸(Fr.refl _ _).setCell (fun _ _ h=>h rfl) _;have T9:W9.heap[w.heap.size]? = some (.cells #[.slice g5 jn c5,.slice none 0 0,.slice g8 jn c8,.int .i64 0] 66 (0,0)):=by rw[←hW9];exact bK (o:=2) T8 _
   have F69:Hid (Fr (fun k _=>k≠w.heap.size∧(Value.slice gt j ct2).ownBlock≠some k) W6 W9):=(f7.out.mono fun _ _ _=>trivial).trans ((F8.out.mono fun c _ h=>h.2).trans (f9.out.mono fun c _ h=>h.1));have F39:Hid (Fr (fun k _=>k≠w.heap.size∧vn.ownBlock≠some k∧vt.ownBlock≠some k) W3 W9):=(F36.out.mono fun k _ h=>⟨h.1,by rw[←HV.out.1];exact h.2.1⟩).trans (F69.out.mono fun k _ h=>⟨h.1,by rw[←HV.out.2.1];exact h.2.2⟩);have s36:W3.heap.size≤W6.heap.size:=F36.out.size
   have N5':Hid (OwnNext W3 vn (.slice g5 jn c5)):=by
    rcases N5.out with q | ⟨k,q,hk⟩
    ·exact .inl (by rw[HV.out.1];exact q)
    ·exact .inr ⟨k,q,Nat.le_trans f4.out.size hk⟩
   have N8':Hid (OwnNext W3 vt (.slice g8 jn c8)):=by
    rcases N8.out with q | ⟨k,q,hk⟩
    ·exact .inl (by rw[HV.out.2.1];exact q)
    ·exact .inr ⟨k,q,Nat.le_trans s36 (Nat.le_trans f7.out.size hk)⟩
   have lw:∀{v v':Value} {e:TypeId} {s n:Nat} {xs:List Value},W3.ownsRow w.heap.size e s v n xs→OwnNext W3 v v'→∀k,v'.ownBlock=some k→w.heap.size≤k:=fun hr hn k e=>by
    rcases hn with q | ⟨i,q,hk⟩
    ·rw[q] at e;exact ck hr k e
    ·rw[q] at e;cases e;exact Nat.le_trans F3.out.size hk
   have ON:W9.ownsRow w.heap.size 73 1 (.slice g5 jn c5) (l.length+1) (l.map ptrR++[.pointer (some ⟨rb,0,none⟩)]):=by
    have:=bY O6.out F69.out fun k o e ho=>⟨fun hk=>cX O6.out T6.out (by decide) (hk▸e),fun hk=>jy O6.out OT6.out (by decide) e hk⟩
    rw[HL.out,HJN.out];exact dy this (lw G3.out.rn N5'.out)
   have OT:W9.ownsRow w.heap.size 80 1 (.slice g8 jn c8) (tk.length+1) (tk.map Prod.fst++[.slice none 0 0]):=by
    have:=bY O8.out f9.out fun k o e ho hk=>cX O8.out T8 (by decide) (hk▸e)
    rw[HV.out.2.2,HJN.out];exact dy this (lw G3.out.rt N8'.out)
   have G9:=zH (G2.out.add HH.out.2.2.2.1 HH.out.1 HH.out.2.1 HH.out.2.2.1 HH.out.2.2.2.2 F39.out T9 ON N5'.out OT N8'.out);have F9:Hid (Fr (fun _ _=>True) w W9):=Fr.within ((F3.out.mono fun _ _ _=>trivial:Fr (fun k _=>True∧k<w.heap.size) w W3).trans (F39.out.mono fun k _ h=>⟨by have:=h.2;omega,fun e=>by have:=ck G3.out.rn k e;have:=h.2;omega,fun e=>by have:=ck G3.out.rt k e;have:=h.2;omega⟩));clear T8 T9 lw ON OT s36;go_wp2
   try rw[hW9]
   clear hW9 y8 z8;go_roundw
   case rel=>
    refine⟨jn,X3,_,_,_,_,by have h9:j+1=jn:=HJN.out;subst h9;go_num,by have h9:j+1=jn:=HJN.out;omega,G9.out,?_,?_,?_,?_,F9.out⟩
    ·show _=_;rw[List.length_append,HL.out];exact HJN.out
    ·show _=_;rw[List.map_append,HN.out,←HJN.out,Fw,List.map_append];rfl
    ·show _=_;rw[List.map_append,HA.out,←HJN.out,List.replicate_succ'];rfl
    ·show _=_;rw[List.map_append,HT.out,←HJN.out,List.replicate_succ'];rfl
   case measure=>have h9:j+1=jn:=HJN.out;simp [intOf];omega
  ·have hge:¬(j:Int)<(many:Int):=by omega
   have hjk:j=many:=by omega
   subst hjk;go_wp2;go_ret;exact⟨w.heap.size,X,l,tk,vn,vt,rfl,HG.out,HN.out,HA.out,HT.out,HF.out⟩
end Go.Proofs.YtmjccpfchhnfhaaGreat
