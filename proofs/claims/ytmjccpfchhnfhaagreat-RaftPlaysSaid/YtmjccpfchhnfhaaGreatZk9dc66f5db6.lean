/- Texts of the proofs, part 44: what the functions that they reach do, walked; no conditions beyond those that each states. -/
import Derived.Test.YtmjccpfchhnfhaaGreatZkcb1a27b8b6
set_option linter.unusedVariables false
set_option linter.unusedSimpArgs false
set_option maxRecDepth 100000
set_option maxHeartbeats 8000000
namespace Go.Proofs.YtmjccpfchhnfhaaGreat
open Go.RowKit
theorem mro {p:Prop} (h:p:=by
 refine absurd ?_ hne;unfold errN;rw[if_neg (by omega),if_neg (by rw[RQ.out];decide)]):p:=h
theorem tW (w:World) (many:Nat) (hm:many≤1000):Calls Tryz.prog 30 #[.int .i64 (many:Nat)] w fun e w'=>(∃g c,e=.returned (.slice g many c)∧w'.ownsRow w.heap.size 3 1 (.slice g many c) (cfN many).length ((cfN many).flatMap encI))∧FT w w':=by
 go_enter Tryz.func30,Tryz.ntmps30
 go_wp2;go_loopw [3,4] (fun o i wr=>∃(k:Nat) (g:Option Addr) (c:Nat),i=.int .i64 (k:Nat)∧k≤many∧o=.slice g k c∧Hid (wr.ownsRow w.heap.size 3 1 (.slice g k c) (cfN k).length ((cfN k).flatMap encI))∧Hid (FT w wr)) (fun _ i _=>many-(intOf i).toNat)
 case atStart=>exact⟨0,none,0,rfl,Nat.zero_le _,rfl,⟨rfl,.inl ⟨rfl,rfl⟩⟩,Fr.refl _ _⟩
 case round=>
  obtain⟨k,g,c,rfl,hk,rfl,HO,HF⟩:=hrel;by_cases hlt:k<many
  ·have hltI:(k:Int)<(many:Int):=by omega
   obtain⟨W3,hW3⟩:=zE (wr.alloc (.cells #[.int .i64 (k:Nat)] 3 (0,0)));have f3:FT wr W3:=hW3▸(Fr.refl _ _).alloc _;have ROW:Hid (RowsAt (fun c _=>c=wr.heap.size) W3 (.slice (some ⟨wr.heap.size,0,none⟩) 1 1) 1 encI [((k:Nat):Int)]):=lX (hW3▸bZ _ _);have FW3:=zH (HF.trans f3);have OW3:Hid (W3.ownsRow w.heap.size 3 1 (.slice g k c) (cfN k).length ((cfN k).flatMap encI)):=bK HO f3 fun _ _ _ _=>trivial
   have HL3:Hid ((cfN (k+1)).length=k+1):=d7 _;have HR3:Hid (cfN k++[((k:Nat):Int)]=cfN (k+1)):=(Hv k).symm;have hl1:k+1≤1000000:=by omega
   clear f3;go_wp2_with (at_builtin;(try rw[hW3]);refine gz w W3 FW3 rfl _ _ rfl (.slice g k c) (cfN k) rfl OW3 _ [((k:Nat):Int)] rfl ROW _ HR3 (k+1) HL3 hl1 ?_)
   intro g5 c5 W5 O5 F5 G5 N5;clear hW3;go_wp2;go_roundw
   case rel=>exact⟨k+1,g5,c5,by go_num,by omega,rfl,by show World.ownsRow _ _ _ _ _ _ _;rw[HL3.out];exact O5.out,F5.out⟩
   case measure=>simp [intOf];omega
  ·have hge:¬(k:Int)<(many:Int):=by omega
   have hkm:k=many:=by omega
   subst hkm;go_wp2;go_ret;exact⟨⟨g,c,rfl,HO⟩,HF⟩
theorem By {many:Nat} (h1:1≤many) (h5:many≤5):dV (cfN many)=true:=by
 match many,h1,h5 with
 | 1,_,_=>decide
 | 2,_,_=>decide
 | 3,_,_=>decide
 | 4,_,_=>decide
 | 5,_,_=>decide
theorem Nq:(Tryz.prog.info? 73).map (fun i=>(i.zero,i.size,i.bytes))=some (some (.pointer none),1,8):=by kernel_rfl
theorem info_slS:(Tryz.prog.info? 80).map (fun i=>(i.zero,i.size,i.bytes))=some (some (.slice none 0 0),1,24):=by kernel_rfl
section
variable {ops:Array Oper} {rest:List Oper} {o:Oper} {a:Act} {Q:Exit→Act→World→Prop}
theorem kw (W:World) (hgd:o.guard=none) (s x:Operand) (ho:o.op=.call { callee:=.builtin .append,args:=#[s,x],argTypes:=#[63,63] })
 (v:Value) (n:Nat) (xs:List Value) (hs:a.eval s=v) (hown:Hid (W.ownsRow 0 73 1 v n xs)) (gx b:Nat) (hx:a.eval x=.slice (some ⟨gx,0,none⟩) 1 1) (hb:Hid (W.heap[gx]? = some (.cells #[.pointer (some ⟨b,0,none⟩)] 73 (0,0)))) (N:Nat) (hN:Hid (n+1=N)) (hn:N≤1000000)
 (h:∀g c w',Hid (w'.ownsRow 0 73 1 (.slice g N c) N (xs++[.pointer (some ⟨b,0,none⟩)]))→Hid (Fr (fun b _=>v.ownBlock≠some b) W w')→Hid (OwnNext W v (.slice g N c))→wpList Tryz.prog ops Q rest (a.put o.dst (.slice g N c)) w'):wpList Tryz.prog ops Q (o :: rest) a W:=by
 obtain⟨i0,hi,hz0,hz1,hz2⟩:=info_parts Nq;exact wpList_plain hgd fun _ hK=>dZ W s x 63 73 ho i0 _ 1 8 Tryz.underlying63 hi hz0 hz1 hz2 rfl (by decide) (by decide) v n xs hs hown gx [.pointer (some ⟨b,0,none⟩)] hx hb rfl (fun u hu=>by rw[List.mem_singleton.1 hu];rfl) N hN hn fun g c w' h1 h2 h3=>hK _ _ (h g c w' h1 h2 h3)
theorem l7 (W:World) (hgd:o.guard=none) (s x:Operand) (ho:o.op=.call { callee:=.builtin .append,args:=#[s,x],argTypes:=#[64,64] })
 (v:Value) (n:Nat) (xs:List Value) (hs:a.eval s=v) (hown:Hid (W.ownsRow 0 80 1 v n xs)) (gx:Nat) (hx:a.eval x=.slice (some ⟨gx,0,none⟩) 1 1) (hb:Hid (W.heap[gx]? = some (.cells #[.slice none 0 0] 80 (0,0)))) (N:Nat) (hN:Hid (n+1=N)) (hn:N≤1000000)
 (h:∀g c w',Hid (w'.ownsRow 0 80 1 (.slice g N c) N (xs++[.slice none 0 0]))→Hid (Fr (fun b _=>v.ownBlock≠some b) W w')→Hid (OwnNext W v (.slice g N c))→wpList Tryz.prog ops Q rest (a.put o.dst (.slice g N c)) w'):wpList Tryz.prog ops Q (o :: rest) a W:=by
 obtain⟨i0,hi,hz0,hz1,hz2⟩:=info_parts info_slS;exact wpList_plain hgd fun _ hK=>dZ W s x 64 80 ho i0 _ 1 24 Tryz.underlying64 hi hz0 hz1 hz2 rfl (by decide) (by decide) v n xs hs hown gx [.slice none 0 0] hx hb rfl (fun u hu=>by rw[List.mem_singleton.1 hu];rfl) N hN hn fun g c w' h1 h2 h3=>hK _ _ (h g c w' h1 h2 h3)
end
section
variable {B:Nat} {X X3 P3:Nat→Prop} {w w3 w':World} {G:Nat} {l:List Rx} {ms:List MV} {tk:List (Value×Nat)} {many:Int} {vn vm vt:Value} {b rb:Nat} {n:Nd}
theorem G13.more [Old] [bj] (h:G13 B X w G l ms tk many vn vm vt) (ha:Aft X (fun _=>False) X3 P3 w w3) (hx3:∀k,X3 k→k<w3.heap.size):G13 B X3 w3 G l ms tk many vn vm vt:=by
 have f:FT w w3:=ha.fr.mono fun _ _ _ h=>h
 have h1:=h.tt f;have off:∀{k o},w.heap[k]? = some o→¬X k→¬X3 k:=fun ho hk=>(ha.off ho hk).2
 have row:∀{e:TypeId} {s:Nat} {v:Value} {n:Nat} {xs:List Value},w.ownsRow B e s v n xs→(∀k,v.ownBlock=some k→¬X k)→∀k,v.ownBlock=some k→¬X3 k:=fun hr hk k e=>by obtain⟨cur,ho⟩:=cZ hr e;exact off ho (hk k e)
 refine⟨h1.top,h.lg,fun k hk=>?_,off h.top h.gx,h1.rn,row h.rn h.xn,h.rm.aft ha,h1.rt,row h.rt h.xt,h.tl,fun x hx=>?_,h.td,fun x hx=>(h.nd x hx).far ha (fun _ _ h=>h) hx3,h.dj,fun x hx=>⟨(h1.rb x hx).1,off (h.rb x hx).1 (h.rb x hx).2.1,(h.rb x hx).2.2⟩,h.rd,hx3⟩
 ·rcases(ha.xx k).1 hk with q | q
  ·exact h.lx k q
  ·rcases ha.nw k q with q | q
   ·exact q.elim
   ·exact Nat.le_trans h.bs q
 ·obtain⟨⟨xs,h2⟩,h3⟩:=h1.ts x hx;obtain⟨⟨xs',h4⟩,h5⟩:=h.ts x hx;exact⟨⟨xs,h2⟩,row h4 h5⟩
theorem G13.gcells13 [Old] (h:G13 B X w G l ms tk many vn vm vt) {W:World} (f:FT w W):W.cell? ⟨G,0,none⟩=some vn∧W.cell? ⟨G,2,none⟩=some vt:=by
 have t:=f.keep _ _ h.top trivial;exact⟨bQ t rfl,bQ t rfl⟩
theorem G13.add [Old] [bj] (h:G13 B X w G l ms tk many vn vm vt) (ha:Aft X (fun _=>False) X3 P3 w w3) (hp:PN X3 P3 w3 b n) (hrb:RB w3 rb b 0) (hrx:¬X3 rb) (hrs:w.heap.size≤rb) {vn' vt':Value} (hf:Fr (fun k _=>k≠G∧vn.ownBlock≠some k∧vt.ownBlock≠some k) w3 w')
 (ht:w'.heap[G]? = some (.cells #[vn',vm,vt',.int .i64 many] 66 (0,0))) (hrn:w'.ownsRow B 73 1 vn' (l.length+1) (l.map ptrR++[.pointer (some ⟨rb,0,none⟩)])) (hnn:OwnNext w3 vn vn')
 (hrt:w'.ownsRow B 80 1 vt' (tk.length+1) (tk.map Prod.fst++[.slice none 0 0])) (hnt:OwnNext w3 vt vt'):G13 B X3 w' G (l++[⟨b,rb,n,0,P3⟩]) ms (tk++[(.slice none 0 0,0)]) many vn' vm vt':=by
 obtain⟨q0,hq0⟩:=hp;have h3:=h.more ha hq0.hx;have o1:=mw h3.rn (by decide) h3.xn;have o2:=mw h3.rt (by decide) h3.xt;have o3:=dq h3.top (by decide) h3.gx;have og:∀c o,w3.heap[c]? = some o→X3 c∨RO X3 c o→c≠G∧vn.ownBlock≠some c∧vt.ownBlock≠some c:=fun c o ho hc=>⟨o3 c o ho hc,o1 c o ho hc,o2 c o ho hc⟩
 have rw':∀{e:TypeId} {s:Nat} {v:Value} {n:Nat} {xs:List Value},w3.ownsRow B e s v n xs→e≠66→e≠73→e≠80→w'.ownsRow B e s v n xs:=fun hv h1 h2 h4=>bK hv hf fun k o e ho=>⟨fun hk=>cX hv h3.top h1 (hk▸e),fun hk=>jx hv h3.rn h2 e hk,fun hk=>jx hv h3.rt h4 e hk⟩
 have rbk:∀{r c p:Nat},RB w3 r c p→RB w' r c p:=fun {r c p} hr=>by have h1:=hr;unfold RB at h1;refine hf.keep _ _ hr ⟨fun e=>?_,cX h3.rn h1 (by decide),cX h3.rt h1 (by decide)⟩;rw[e,h3.top] at h1;cases h1
 have nx:∀{v v':Value},OwnNext w3 v v'→(∀k,v.ownBlock=some k→¬X3 k)→∀k,v'.ownBlock=some k→¬X3 k:=fun hn hv k e hx=>by
  rcases hn with q | ⟨j,q,hj⟩
  ·rw[q] at e;exact hv k e hx
  ·rw[q] at e;cases e;have:=hq0.hx k hx;omega
 have b3:B≤rb:=Nat.le_trans h.bs hrs;have f3:FT w w3:=ha.fr.mono fun _ _ _ h=>h
 have kn:∀{P:Nat→Prop} {b:Nat} {n:Nd},PN X3 P w3 b n→PN X3 P w' b n:=fun hp=>hp.keep hf og
 refine⟨ht,h.lg,h3.lx,h3.gx,by rw[List.length_append,List.map_append];exact hrn,nx hnn h3.xn,⟨rw' h3.rm.row (by decide) (by decide) (by decide),h3.rm.off,fun m hm=>(h3.rm.at' m hm).keep hf fun c o ho hr=>og c o ho (.inr hr)⟩,by rw[List.length_append,List.map_append];exact hrt,nx hnt h3.xt,by rw[List.length_append,List.length_append,h.tl];rfl,fun x hx=>?_,?_,fun x hx=>?_,?_,fun x hx=>?_,?_,fun k hk=>Nat.lt_of_lt_of_le (hq0.hx k hk) hf.size⟩
 ·rcases List.mem_append.1 hx with hx | hx
  ·obtain⟨⟨xs,h1⟩,h2⟩:=h3.ts x hx;exact⟨⟨xs,rw' h1 (by decide) (by decide) (by decide)⟩,h2⟩
  ·rw[List.mem_singleton.1 hx];exact⟨⟨[],rfl,.inl ⟨rfl,rfl⟩⟩,fun k e=>by cases e⟩
 ·refine List.pairwise_append.2 ⟨h.td,List.pairwise_singleton _ _,fun x hx y hy k hk hk2=>?_⟩;rw[List.mem_singleton.1 hy] at hk2;cases hk2
 ·rcases List.mem_append.1 hx with hx | hx
  ·exact kn (h3.nd x hx)
  ·rw[List.mem_singleton.1 hx];exact kn ⟨q0,hq0⟩
 ·refine List.pairwise_append.2 ⟨h.dj,List.pairwise_singleton _ _,fun x hx y hy k hk hk2=>?_⟩;exact mrt
 ·rcases List.mem_append.1 hx with hx | hx
  ·exact⟨rbk (h3.rb x hx).1,(h3.rb x hx).2⟩
  ·rw[List.mem_singleton.1 hx];exact⟨rbk hrb,hrx,b3⟩
 ·refine List.pairwise_append.2 ⟨h.rd,List.pairwise_singleton _ _,fun x hx y hy e=>?_⟩;rw[List.mem_singleton.1 hy] at e;have:=bX (h.rb x hx).1;have e':x.rb=rb:=e;omega
end
theorem B4 (w:World) (z:Int) (hz:z<1∨5<z):Calls Tryz.prog 28 #[.int .i64 z] w fun e w'=>e=.returned (.pointer none)∧w=w':=by
 by_cases h1:z<1
 ·clear hz;go_enter Tryz.func28,Tryz.ntmps28
  exact m6T
 ·have h2:5<z:=by omega
  clear hz;go_enter Tryz.func28,Tryz.ntmps28
  exact m6T
def B13Out [Old] (w:World) (many:Nat) (e:Ending) (w':World):Prop:=
 ∃G X l tk vn vt,e=.returned (.pointer (some ⟨G,0,none⟩))∧G13 w.heap.size X w' G l [] tk 0 vn (.slice none 0 0) vt∧l.map (·.n)=(cfN many).map (fun i=>Nd.new i (cfN many))∧l.map (·.ap)=List.replicate many 0∧tk.map Prod.snd=List.replicate many 0∧FT w w'
theorem lq [Old] [bj] (w:World) (many:Nat) (h1:1≤many) (h5:many≤5):Calls Tryz.prog 28 #[.int .i64 (many:Nat)] w fun e w'=>B13Out w many e w':=by
 have m1:¬((many:Int)<1):=by omega
 have m2:¬((5:Int)<(many:Int)):=by omega
 have RQ:Hid (dV (cfN many)=true):=By h1 h5;have hbG:∀W:World,(Instr.build 66 #[]).run Tryz.prog W=.ok (.agg #[.slice none 0 0,.slice none 0 0,.slice none 0 0,.int .i64 0]) W:=fun W=>run_build W _ _ _ (by kernel_rfl)
 obtain⟨w1,hw1⟩:=zE (w.alloc (.cells #[.slice none 0 0,.slice none 0 0,.slice none 0 0,.int .i64 0] 66 (0,0)));have T1:Hid (w1.heap[w.heap.size]? = some (.cells #[.slice none 0 0,.slice none 0 0,.slice none 0 0,.int .i64 0] 66 (0,0))):=hw1▸bZ _ _;have F1:Hid (FT w w1):=hw1▸(Fr.refl _ _).alloc _
 have G0:Hid (G13 w.heap.size (fun _=>False) w1 w.heap.size [] [] [] 0 (.slice none 0 0) (.slice none 0 0) (.slice none 0 0)):=
  ⟨T1,Nat.le_refl _,fun _ h=>h.elim,fun h=>h,⟨rfl,.inl ⟨rfl,rfl⟩⟩,(fun _ e=>by cases e),OwnMs.nil _ _ _,⟨rfl,.inl ⟨rfl,rfl⟩⟩,(fun _ e=>by cases e),rfl,(fun _ h=>by cases h),List.Pairwise.nil,(fun _ h=>by cases h),List.Pairwise.nil,(fun _ h=>by cases h),List.Pairwise.nil,fun _ h=>h.elim⟩
 have GB:Hid (w.heap.size<w1.heap.size):=bX T1;go_enter Tryz.func28,Tryz.ntmps28
 go_wp2
 try rw[hw1]
 clear hw1 hbG;go_loopw [4] (fun i wr=>∃(j:Nat) (X:Nat→Prop) (l:List Rx) (tk:List (Value×Nat)) (vn vt:Value),i=.int .i64 (j:Nat)∧j≤many∧Hid (G13 w.heap.size X wr w.heap.size l [] tk 0 vn (.slice none 0 0) vt)∧Hid (l.length=j)∧Hid (l.map (·.n)=(cfN j).map (fun i=>Nd.new i (cfN many)))∧Hid (l.map (·.ap)=List.replicate j 0)∧Hid (tk.map Prod.snd=List.replicate j 0)∧Hid (FT w wr)) (fun i _=>many-(intOf i).toNat)
 case atStart=>exact⟨0,_,[],[],_,_,rfl,Nat.zero_le _,G0,rfl,rfl,rfl,rfl,F1⟩
 case round=>
  obtain⟨j,X,l,tk,vn,vt,rfl,hj,HG,HL,HN,HA,HT,HF⟩:=hrel;by_cases hlt:j<many
  ·have hltI:(j:Int)<(many:Int):=by omega
   have CC:=zH (tW wr many (by omega));go_wp2_with fail
   (with_reducible refine CC.out.mono ?_);rintro e W2 ⟨⟨gc,kc,rfl,oc⟩,f2⟩;have F2:=zH f2;have G2:=zH (HG.tt f2)
   have IC:IntsAt (RO X) W2 (.slice gc many kc) (cfN many):=(RowI.intsK (B:=wr.heap.size) (zs:=cfN many) (show RowI W2 wr.heap.size (.slice gc many kc) (cfN many) by
    show World.ownsRow _ _ _ _ _ _ _;rw[←j5,d7];rw[d7] at oc;exact oc)).mono fun c o hc=>⟨fun hx=>by have:=HG.out.hx c hx;omega,by obtain⟨cs,e⟩:=hc.2;exact .inr ⟨cs,_,_,e,by decide⟩⟩
   have NC:=zH (Jw (X:=X) W2 (j:Nat) (.slice gc many kc) (cfN many) IC (by rw[d7];unfold maxLen;omega) G2.out.hx (fun c hc=>absurd hc (bj.no c)));clear CC oc f2 IC;go_wp2_with fail
   (with_reducible refine NC.out.mono ?_);intro e W3 hR
   obtain⟨rb,b,X3,P3,q3,rfl,h3,r3,rx3,a3,hb,hrs⟩:∃rb b X3 P3 q3,e=.returned (.tuple #[.pointer (some ⟨rb,0,none⟩),.int .i64 0])∧PNs X3 P3 W3 b (Nd.new (j:Nat) (cfN many)) q3∧RB W3 rb b 0∧¬X3 rb∧Aft X (fun _=>False) X3 P3 W2 W3∧W2.heap.size≤b∧W2.heap.size≤rb:=by
    rcases hR with⟨hne,_⟩ | ⟨_,rb,b,X3,P3,q3,h⟩
    ·exact mro
    ·exact⟨rb,b,X3,P3,q3,h⟩
   have HH:=zH (And.intro (show PN X3 P3 W3 b (Nd.new (j:Nat) (cfN many)) from⟨q3,h3⟩) (And.intro r3 (And.intro rx3 (And.intro a3 hrs))));have f3:Hid (FT W2 W3):=a3.fr.mono fun _ _ _ h=>h
   have y0:W3.cell? ⟨rb,0,none⟩=some (.pointer (some ⟨b,0,none⟩)):=bQ r3 rfl;have F3:Hid (FT w W3):=HF.trans (F2.trans f3);have G3:=zH (G2.tt f3);obtain⟨gn,cn2,hvn⟩:=bz G2.rn;obtain⟨gt,ct2,hvt⟩:=bz G2.rt;rw[HL.out] at hvn;have htl:tk.length=j:=by rw[G2.out.tl,HL.out]
   rw[htl] at hvt;have x0:=(G3.gcells13 (Fr.refl _ W3)).1;rw[hvn] at x0;have z0:=bV (i:=0) G3.top;obtain⟨W4,hW4⟩:=zE (W3.alloc (.cells #[.pointer (some ⟨rb,0,none⟩)] 73 (0,0)));have f4:Hid (FT W3 W4):=hW4▸(Fr.refl _ _).alloc _;have t4:Hid (W4.heap[W3.heap.size]? = some (.cells #[.pointer (some ⟨rb,0,none⟩)] 73 (0,0))):=hW4▸bZ _ _
   have OW:Hid (W4.ownsRow 0 73 1 (.slice gn j cn2) j (l.map ptrR)):=by
    show World.ownsRow _ _ _ _ _ _ _;rw[←hvn];have:=bK G3.out.rn f4.out fun _ _ _ _=>trivial
    rw[HL.out] at this;exact c_ this fun _ _=>Nat.zero_le _
   have HV:=zH (And.intro hvn (And.intro hvt htl));obtain⟨jn,hjn⟩:=zE (j+1);have HJN:=zH hjn;have hjn9:jn≤1000000:=by omega
   have HS9:Hid (w.heap.size<W3.heap.size):=by have:=GB.out;have:=F3.out.size;have:=bX G3.out.top;show _<_;omega
   clear h3 r3 rx3 a3 hb hrs hR NC hvn hvt htl hjn;go_wp2_with (at_builtin;(try rw[hW4]);refine kw W4 rfl _ _ rfl (.slice gn j cn2) j (l.map ptrR) rfl OW W3.heap.size rb rfl t4 jn HJN hjn9 ?_)
   intro g5 c5 W5 O5 F5 N5;clear hW4 x0 z0 y0;have gnG:Hid ((Value.slice gn j cn2).ownBlock≠some w.heap.size):=by show _≠_;rw[←HV.out.1];exact cX G3.out.rn G3.out.top (by decide)
   have T5:W5.heap[w.heap.size]? = some (.cells #[vn,.slice none 0 0,vt,.int .i64 0] 66 (0,0)):=F5.keep _ _ (f4.keep _ _ G3.top trivial) gnG;have y5:W5.cell? ⟨w.heap.size,0,none⟩=some (.slice gn j cn2):=by rw[←HV.out.1];exact bQ T5 rfl
   have z5:=bV (i:=0) T5;obtain⟨W6,hW6⟩:=zE (W5.setCell ⟨w.heap.size,0,none⟩ (.slice g5 jn c5));have f6:Hid (Fr (fun k _=>k≠w.heap.size) W5 W6):=hW6▸(Fr.refl _ _).setCell (fun _ _ h=>h rfl) _;have T6:Hid (W6.heap[w.heap.size]? = some (.cells #[.slice g5 jn c5,.slice none 0 0,vt,.int .i64 0] 66 (0,0))):=by show _=_;rw[←hW6];exact bJ (o:=0) T5 _
   have y6:W6.cell? ⟨w.heap.size,2,none⟩=some (.slice gt j ct2):=by rw[←HV.out.2.1];exact bQ T6.out rfl
   have z6:=bV (i:=2) T6;have gnT:Hid ((Value.slice gt j ct2).ownBlock≠some w.heap.size):=by show _≠_;rw[←HV.out.2.1];exact cX G3.out.rt G3.out.top (by decide)
   have O6:Hid (W6.ownsRow 0 73 1 (.slice g5 jn c5) jn (l.map ptrR++[.pointer (some ⟨rb,0,none⟩)])):=bK O5.out f6.out fun k o e ho hk=>cX O5.out T5 (by decide) (hk▸e)
   have F36:Hid (Fr (fun k _=>k≠w.heap.size∧(Value.slice gn j cn2).ownBlock≠some k) W3 W6):=(f4.tT).trans ((F5.mono fun c _ h=>h.2).trans (f6.mono fun c _ h=>h.1))
   have OT6:Hid (W6.ownsRow 0 80 1 (.slice gt j ct2) j (tk.map Prod.fst)):=by
    show World.ownsRow _ _ _ _ _ _ _;have:=bK G3.out.rt F36.out fun k o e ho=>⟨fun hk=>cX G3.out.rt G3.out.top (by decide) (hk▸e),fun hk=>jx G3.out.rt G3.out.rn (by decide) e (by rw[HV.out.1];exact hk)⟩
    rw[HV.out.2.1,HV.out.2.2] at this;exact c_ this fun _ _=>Nat.zero_le _
   obtain⟨W7,hW7⟩:=zE (W6.alloc (.cells #[.slice none 0 0] 80 (0,0)));have f7:Hid (FT W6 W7):=hW7▸(Fr.refl _ _).alloc _;have t7:Hid (W7.heap[W6.heap.size]? = some (.cells #[.slice none 0 0] 80 (0,0))):=hW7▸bZ _ _;have OT7:Hid (W7.ownsRow 0 80 1 (.slice gt j ct2) j (tk.map Prod.fst)):=bK OT6 f7 fun _ _ _ _=>trivial
   clear T5;go_wp2_with (at_builtin;(try rw[hW6]);(try rw[hW7]);refine l7 W7 rfl _ _ rfl (.slice gt j ct2) j (tk.map Prod.fst) rfl OT7 W6.heap.size rfl t7 jn HJN hjn9 ?_)
   intro g8 c8 W8 O8 F8 N8;clear hW6 hW7 y5 z5 y6 z6;have T8:W8.heap[w.heap.size]? = some (.cells #[.slice g5 jn c5,.slice none 0 0,vt,.int .i64 0] 66 (0,0)):=F8.keep _ _ (f7.keep _ _ T6 trivial) gnT;have y8:W8.cell? ⟨w.heap.size,2,none⟩=some (.slice gt j ct2):=by rw[←HV.out.2.1];exact bQ T8 rfl
   have z8:=bV (i:=2) T8;obtain⟨W9,hW9⟩:=zE (W8.setCell ⟨w.heap.size,2,none⟩ (.slice g8 jn c8));have f9:Hid (Fr (fun k _=>k≠w.heap.size) W8 W9):=hW9▸(Fr.refl _ _).setCell (fun _ _ h=>h rfl) _;have T9:W9.heap[w.heap.size]? = some (.cells #[.slice g5 jn c5,.slice none 0 0,.slice g8 jn c8,.int .i64 0] 66 (0,0)):=by rw[←hW9];exact bJ (o:=2) T8 _
   have F69:Hid (Fr (fun k _=>k≠w.heap.size∧(Value.slice gt j ct2).ownBlock≠some k) W6 W9):=(f7.tT).trans ((F8.mono fun c _ h=>h.2).trans (f9.mono fun c _ h=>h.1));have F39:Hid (Fr (fun k _=>k≠w.heap.size∧vn.ownBlock≠some k∧vt.ownBlock≠some k) W3 W9):=(F36.out.mono fun k _ h=>⟨h.1,by rw[←HV.out.1];exact h.2.1⟩).trans (F69.out.mono fun k _ h=>⟨h.1,by rw[←HV.out.2.1];exact h.2.2⟩);have s36:W3.heap.size≤W6.heap.size:=F36.size
   have N5':Hid (OwnNext W3 vn (.slice g5 jn c5)):=by
    rcases N5 with q | ⟨k,q,hk⟩
    ·exact .inl (by rw[HV.out.1];exact q)
    ·exact .inr ⟨k,q,Nat.le_trans f4.size hk⟩
   have N8':Hid (OwnNext W3 vt (.slice g8 jn c8)):=by
    rcases N8 with q | ⟨k,q,hk⟩
    ·exact .inl (by rw[HV.out.2.1];exact q)
    ·exact .inr ⟨k,q,Nat.le_trans s36 (Nat.le_trans f7.size hk)⟩
   have lw:∀{v v':Value} {e:TypeId} {s n:Nat} {xs:List Value},W3.ownsRow w.heap.size e s v n xs→OwnNext W3 v v'→∀k,v'.ownBlock=some k→w.heap.size≤k:=fun hr hn k e=>by
    rcases hn with q | ⟨i,q,hk⟩
    ·rw[q] at e;exact cK hr k e
    ·rw[q] at e;cases e;exact Nat.le_trans F3.out.size hk
   have ON:W9.ownsRow w.heap.size 73 1 (.slice g5 jn c5) (l.length+1) (l.map ptrR++[.pointer (some ⟨rb,0,none⟩)]):=by
    have:=bK O6.out F69.out fun k o e ho=>⟨fun hk=>cX O6.out T6.out (by decide) (hk▸e),fun hk=>jx O6.out OT6.out (by decide) e hk⟩
    rw[HL.out,HJN.out];exact c_ this (lw G3.rn N5')
   have OT:W9.ownsRow w.heap.size 80 1 (.slice g8 jn c8) (tk.length+1) (tk.map Prod.fst++[.slice none 0 0]):=by
    have:=bK O8.out f9.out fun k o e ho hk=>cX O8.out T8 (by decide) (hk▸e)
    rw[HV.out.2.2,HJN.out];exact c_ this (lw G3.rt N8')
   have G9:=zH (G2.add HH.2.2.2.1 HH.1 HH.2.1 HH.2.2.1 HH.2.2.2.2 F39 T9 ON N5' OT N8');have F9:Hid (FT w W9):=Fr.within ((F3.out.tT:Fr (fun k _=>True∧k<w.heap.size) w W3).trans (F39.out.mono fun k _ h=>⟨by have:=h.2;omega,fun e=>by have:=cK G3.out.rn k e;have:=h.2;omega,fun e=>by have:=cK G3.out.rt k e;have:=h.2;omega⟩));clear T8 T9 lw ON OT s36;go_wp2
   try rw[hW9]
   clear hW9 y8 z8;go_roundw
   case rel=>
    refine⟨jn,X3,_,_,_,_,by have h9:j+1=jn:=HJN.out;subst h9;go_num,by have h9:j+1=jn:=HJN.out;omega,G9.out,?_,?_,?_,?_,F9.out⟩
    ·show _=_;rw[List.length_append,HL.out];exact HJN.out
    ·show _=_;rw[List.map_append,HN.out,←HJN.out,Hv,List.map_append];rfl
    ·show _=_;rw[List.map_append,HA.out,←HJN.out,List.replicate_succ'];rfl
    ·show _=_;rw[List.map_append,HT.out,←HJN.out,List.replicate_succ'];rfl
   case measure=>have h9:j+1=jn:=HJN.out;simp [intOf];omega
  ·have hge:¬(j:Int)<(many:Int):=by omega
   have hjk:j=many:=by omega
   subst hjk;go_wp2;go_ret;exact⟨w.heap.size,X,l,tk,vn,vt,rfl,HG,HN,HA,HT,HF⟩

theorem m1o {p:Prop} (h:p:=by
 go_simp;exact hK _ _ rfl (Fr.refl _ _)):p:=h
theorem mxJ {p:Prop} (h:p:=by
 go_simp;(with_reducible refine CA.out.mono ?_);rintro e w8 ⟨rfl,f8⟩;exact hK _ _ rfl f8):p:=h
theorem sm13_5 {R:Ending→World→Prop} {w:World} {rb rd b d ap bs bt:Nat} {n:Nd} {vc vd vy ve:Value} {ae:Option Addr} {le ce bn cn bm cm:Nat} (hNC:(∀W,FT w W→Calls Tryz.prog 22 #[vc,vd] W fun e w'=>e=.returned (.bool true)∧FT W w')) (hNX:(∀W,FT w W→Calls Tryz.prog 61 #[.slice (some ⟨bn,0,none⟩) 16 cn,V16 n.next] W fun e w'=>e=.returned (.bool true)∧FT W w')) (hMT:(∀W,FT w W→Calls Tryz.prog 61 #[.slice (some ⟨bm,0,none⟩) 16 cm,V16 n.mat] W fun e w'=>e=.returned (.bool true)∧FT W w')) (hCX:∀W,FT w W→W.cell? ⟨b,4,none⟩=some (vc)∧W.cell? ⟨b,12,none⟩=some (.slice (some ⟨bn,0,none⟩) 16 cn)∧W.cell? ⟨b,13,none⟩=some (.slice (some ⟨bm,0,none⟩) 16 cm)∧W.cell? ⟨d,4,none⟩=some (vd)∧W.cell? ⟨rb,1,none⟩=some (.int .u64 (ap:Nat))∧W.cell? ⟨rd,1,none⟩=some (.int .u64 (ap:Nat))) (hCZ:∀W,FT w W→(∀i,i<16→W.cell? ⟨d,12+i,none⟩=some (c16 n.next i))∧∀i,i<16→W.cell? ⟨d,28+i,none⟩=some (c16 n.mat i)) (fin:∀W,FT w W→R (.returned (.bool true)) W) (a:Act) (hs:a.tmps.size=119) (hd:a.defers=[]) (he:dJ a [(8,.bool true),(7,.bool true),(0,.pointer (some ⟨rb,0,none⟩)),(1,.pointer (some ⟨rd,0,none⟩)),(5,.pointer (some ⟨b,0,none⟩)),(6,.pointer (some ⟨d,0,none⟩))]):
 Code.wp Tryz.prog (fK 5 (cW Tryz.f40.body)) (bodyPost Tryz.prog Tryz.f40 R) a w:=by
 have HS:=zH hs;have HE:=zH he;have HD:=zH hd;clear hs he hd;dsimp only[fK,cW,Tryz.f40];have NC:=zH hNC;have NX:=zH hNX;have MT:=zH hMT;have CX:=zH hCX;have CZ:=zH hCZ;have FN:=zH fin;refine kgb ?_;intro UD;clear hNC hNX hMT hCX hCZ fin;go_wp2_with fail
 have HT:tmB [(71,0),(72,1),(73,2),(74,3),(75,4),(76,5),(77,6),(78,7),(79,8),(80,9),(81,10),(82,11),(83,12),(84,13),(85,14),(86,15),(87,16),(88,17),(89,18),(90,19),(91,20),(92,21),(93,22),(94,23),(95,24),(96,25),(97,26),(98,27),(99,28),(100,29),(101,30),(102,31),(103,32),(104,33),(105,34),(106,35),(107,36),(108,37),(109,38),(110,39),(111,40),(112,41),(113,42),(114,43),(115,44),(116,45),(117,46),(118,47)] [(8,.bool true),(7,.bool true),(0,.pointer (some ⟨rb,0,none⟩)),(1,.pointer (some ⟨rd,0,none⟩)),(5,.pointer (some ⟨b,0,none⟩)),(6,.pointer (some ⟨d,0,none⟩))] 119=true:=by rfl
 refine fZ (K:=fun _ _=>True) (by kernel_rfl) [(71,0),(72,1),(73,2),(74,3),(75,4),(76,5),(77,6),(78,7),(79,8),(80,9),(81,10),(82,11),(83,12),(84,13),(85,14),(86,15),(87,16),(88,17),(89,18),(90,19),(91,20),(92,21),(93,22),(94,23),(95,24),(96,25),(97,26),(98,27),(99,28),(100,29),(101,30),(102,31),(103,32),(104,33),(105,34),(106,35),(107,36),(108,37),(109,38),(110,39),(111,40),(112,41),(113,42),(114,43),(115,44),(116,45),(117,46),(118,47)] [(0,[]),(1,[0]),(2,[1]),(3,[1,2]),(4,[3]),(5,[4]),(6,[4,5]),(7,[4,6]),(8,[4,7]),(9,[4]),(10,[4,9]),(11,[4,10]),(12,[4,11]),(14,[4,13]),(15,[14]),(16,[15]),(17,[15,16]),(18,[15,17]),(19,[15,18]),(20,[15]),(21,[15,20]),(22,[15,21]),(25,[15,24]),(26,[25]),(27,[26]),(28,[26,27]),(29,[26,28]),(30,[26,29]),(31,[26]),(32,[26,31]),(33,[26,32]),(36,[26,35]),(37,[36]),(38,[37]),(39,[37,38]),(40,[37,39]),(41,[37,40]),(42,[37]),(43,[37,42]),(44,[37,43]),(45,[37,44]),(46,[37,41,45]),(47,[37,46]),(13,[4,8,12]),(23,[15,22]),(24,[15,19,23]),(34,[26,33]),(35,[26,30,34])] (ckR [(0,.bool true),(1,.bool true),(2,.bool true),(3,.bool true),(4,.bool true),(5,.pointer (some ⟨b,0,none⟩)),(6,.pointer (some ⟨b,0,none⟩)),(7,.pointer (some ⟨b,4,none⟩)),(8,vc),(9,.pointer (some ⟨d,0,none⟩)),(10,.pointer (some ⟨d,0,none⟩)),(11,.pointer (some ⟨d,4,none⟩)),(12,vd),(13,.bool true),(14,.bool true),(15,.bool true),(16,.pointer (some ⟨b,0,none⟩)),(17,.pointer (some ⟨b,0,none⟩)),(18,.pointer (some ⟨b,12,none⟩)),(19,.slice (some ⟨bn,0,none⟩) 16 cn),(20,.pointer (some ⟨d,0,none⟩)),(21,.pointer (some ⟨d,0,none⟩)),(22,.pointer (some ⟨d,12,none⟩)),(23,V16 n.next),(24,.bool true),(25,.bool true),(26,.bool true),(27,.pointer (some ⟨b,0,none⟩)),(28,.pointer (some ⟨b,0,none⟩)),(29,.pointer (some ⟨b,13,none⟩)),(30,.slice (some ⟨bm,0,none⟩) 16 cm),(31,.pointer (some ⟨d,0,none⟩)),(32,.pointer (some ⟨d,0,none⟩)),(33,.pointer (some ⟨d,28,none⟩)),(34,V16 n.mat),(35,.bool true),(36,.bool true),(37,.bool true),(38,.pointer (some ⟨rb,0,none⟩)),(39,.pointer (some ⟨rb,0,none⟩)),(40,.pointer (some ⟨rb,1,none⟩)),(41,.int .u64 (ap:Nat)),(42,.pointer (some ⟨rd,0,none⟩)),(43,.pointer (some ⟨rd,0,none⟩)),(44,.pointer (some ⟨rd,1,none⟩)),(45,.int .u64 (ap:Nat)),(46,.bool true),(47,.bool true)] [] 48 0) 1 (by kernel_rfl) (by kernel_rfl) (FV (by kernel_rfl)) rfl ?cfall ?cfend
 case cfall=>
  iterate 43
   refine bY.kt HT HS HE rfl rfl rfl (fun A W hF hT hE K' hK=>?_) ?_
   ·have HF:=zH hF;clear hF;simp only[tmEqs,ckLook,jY,Nat.reduceBEq] at hT;simp only[dJ] at hE;obtain⟨x4,x12,x13,y4,a0,a1⟩:=CX W (UD.trans HF);exact m1o
  refine bY.kt HT HS HE rfl rfl rfl (fun A W hF hT hE K' hK=>?_) ?_
  ·have HF:=zH hF;clear hF;simp only[tmEqs,ckLook,jY,Nat.reduceBEq] at hT;simp only[dJ] at hE;have CA:=zH (NC W (UD.trans HF));exact mxJ
  refine bY.kt HT HS HE rfl rfl rfl (fun A W hF hT hE K' hK=>?_) ?_
  ·have HF:=zH hF;clear hF;simp only[tmEqs,ckLook,jY,Nat.reduceBEq] at hT;simp only[dJ] at hE;have hz:=CZ W (UD.trans HF);have v0:=hz.1 0 (by decide);have v1:=hz.1 1 (by decide);have v2:=hz.1 2 (by decide);have v3:=hz.1 3 (by decide);have v4:=hz.1 4 (by decide);have v5:=hz.1 5 (by decide);have v6:=hz.1 6 (by decide);have v7:=hz.1 7 (by decide);have v8:=hz.1 8 (by decide);have v9:=hz.1 9 (by decide);have v10:=hz.1 10 (by decide);have v11:=hz.1 11 (by decide);have v12:=hz.1 12 (by decide);have v13:=hz.1 13 (by decide);have v14:=hz.1 14 (by decide);have v15:=hz.1 15 (by decide);clear hz;exact m1o
  refine bY.kt HT HS HE rfl rfl rfl (fun A W hF hT hE K' hK=>?_) ?_
  ·have HF:=zH hF;clear hF;simp only[tmEqs,ckLook,jY,Nat.reduceBEq] at hT;simp only[dJ] at hE;have CA:=zH (NX W (UD.trans HF));exact mxJ
  refine bY.kt HT HS HE rfl rfl rfl (fun A W hF hT hE K' hK=>?_) ?_
  ·have HF:=zH hF;clear hF;simp only[tmEqs,ckLook,jY,Nat.reduceBEq] at hT;simp only[dJ] at hE;have hz:=CZ W (UD.trans HF);have v0:=hz.2 0 (by decide);have v1:=hz.2 1 (by decide);have v2:=hz.2 2 (by decide);have v3:=hz.2 3 (by decide);have v4:=hz.2 4 (by decide);have v5:=hz.2 5 (by decide);have v6:=hz.2 6 (by decide);have v7:=hz.2 7 (by decide);have v8:=hz.2 8 (by decide);have v9:=hz.2 9 (by decide);have v10:=hz.2 10 (by decide);have v11:=hz.2 11 (by decide);have v12:=hz.2 12 (by decide);have v13:=hz.2 13 (by decide);have v14:=hz.2 14 (by decide);have v15:=hz.2 15 (by decide);clear hz;exact m1o
  refine bY.kt HT HS HE rfl rfl rfl (fun A W hF hT hE K' hK=>?_) ?_
  ·have HF:=zH hF;clear hF;simp only[tmEqs,ckLook,jY,Nat.reduceBEq] at hT;simp only[dJ] at hE;have CA:=zH (MT W (UD.trans HF));exact mxJ
  exact m36
 case cfend=>
  intro xs W hF hA;have HF:=zH hF;obtain⟨hT,hE,hS,hD⟩:=tmEnd HT HS HE rfl [47] rfl hA;clear hA hF;generalize fillA _ a xs=A at hT hE hS hD ⊢;simp only[tmEqs,ckLook,jY,Nat.reduceBEq] at hT;simp only[dJ] at hE;have FC:=zH (UD.trans HF);have HS2:=zH hS;clear hS;refine wpN 48 rfl fun K' hK=>?_
  go_simp;refine hK _ _ ?_;clear hK K';refine wpF ?_;go_wp2;refine bodyPost_ret (v:=.bool true) ?_ HD (FN _ FC);rw[results_tmp rfl];have e4:(A.tmps.setIfInBounds 4 (Value.bool true))[4]? = some (.bool true):=by rw[Array.getElem?_setIfInBounds,if_pos rfl,if_pos (by rw[HS2.out];decide)]
  have e5:(A.tmps.setIfInBounds 4 (Value.bool true)).getD 4 undef=.bool true:=by rw[Array.getD_eq_getD_getElem?,e4];rfl
  exact congrArg (fun v=>Result.ok v W) e5
theorem mpg {p:Prop} (h:p:=by
 go_simp;refine hK _ _ ?_;clear hK K';refine wpF ?_;refine H1 _ _ ?_;exact NXT.out _ FC.out _ (by rw[Array.size_setIfInBounds];exact HS2.out) (HD2.out.trans HD.out) (Nk (by simp only[dJ];exact HE2.out) (by rw[HS2.out];decide) rfl)):p:=h
theorem sm13_4 {R:Ending→World→Prop} {w:World} {rb rd b d ap bs bt:Nat} {n:Nd} {vc vd vy ve:Value} {ae:Option Addr} {le ce bn cn bm cm:Nat} (hNC:(∀W,FT w W→Calls Tryz.prog 22 #[vc,vd] W fun e w'=>e=.returned (.bool true)∧FT W w')) (hNX:(∀W,FT w W→Calls Tryz.prog 61 #[.slice (some ⟨bn,0,none⟩) 16 cn,V16 n.next] W fun e w'=>e=.returned (.bool true)∧FT W w')) (hMT:(∀W,FT w W→Calls Tryz.prog 61 #[.slice (some ⟨bm,0,none⟩) 16 cm,V16 n.mat] W fun e w'=>e=.returned (.bool true)∧FT W w')) (hSC:(∀W,FT w W→Calls Tryz.prog 59 #[.int .i64 n.me,.int .i64 n.vote,.int .i64 n.role,.int .i64 n.ld,vy,.int .u64 (n.tm:Nat),.int .u64 (n.commit:Nat),.bool n.heard,.pointer (some ⟨d,0,none⟩)] W fun e w'=>e=.returned (.bool true)∧FT W w')) (hLC:(∀W,FT w W→Calls Tryz.prog 60 #[.int .u64 (bs:Nat),.int .u64 (bt:Nat),ve,.agg #[.int .u64 (bs:Nat),.int .u64 (bt:Nat),.slice ae le ce]] W fun e w'=>e=.returned (.bool true)∧FT W w')) (hC3:∀W,FT w W→W.cell? ⟨b,0,none⟩=some (.int .i64 n.me)∧W.cell? ⟨b,1,none⟩=some (.int .i64 n.vote)∧W.cell? ⟨b,2,none⟩=some (.int .i64 n.role)∧W.cell? ⟨b,3,none⟩=some (.int .i64 n.ld)∧W.cell? ⟨b,5,none⟩=some (vy)∧W.cell? ⟨b,6,none⟩=some (.int .u64 (n.tm:Nat))∧W.cell? ⟨b,7,none⟩=some (.int .u64 (n.commit:Nat))∧W.cell? ⟨b,11,none⟩=some (.bool n.heard)) (hC4:∀W,FT w W→W.cell? ⟨b,8,none⟩=some (.int .u64 (bs:Nat))∧W.cell? ⟨b,9,none⟩=some (.int .u64 (bt:Nat))∧W.cell? ⟨b,10,none⟩=some (ve)∧W.cell? ⟨d,8,none⟩=some (.int .u64 (bs:Nat))∧W.cell? ⟨d,9,none⟩=some (.int .u64 (bt:Nat))∧W.cell? ⟨d,10,none⟩=some (.slice ae le ce)) (hC5:∀W,FT w W→W.cell? ⟨b,4,none⟩=some (vc)∧W.cell? ⟨b,12,none⟩=some (.slice (some ⟨bn,0,none⟩) 16 cn)∧W.cell? ⟨b,13,none⟩=some (.slice (some ⟨bm,0,none⟩) 16 cm)∧W.cell? ⟨d,4,none⟩=some (vd)∧W.cell? ⟨rb,1,none⟩=some (.int .u64 (ap:Nat))∧W.cell? ⟨rd,1,none⟩=some (.int .u64 (ap:Nat))) (hCZ:∀W,FT w W→(∀i,i<16→W.cell? ⟨d,12+i,none⟩=some (c16 n.next i))∧∀i,i<16→W.cell? ⟨d,28+i,none⟩=some (c16 n.mat i)) (fin:∀W,FT w W→R (.returned (.bool true)) W) (a:Act) (hs:a.tmps.size=119) (hd:a.defers=[]) (he:dJ a [(7,.bool true),(0,.pointer (some ⟨rb,0,none⟩)),(1,.pointer (some ⟨rd,0,none⟩)),(5,.pointer (some ⟨b,0,none⟩)),(6,.pointer (some ⟨d,0,none⟩))]):
 Code.wp Tryz.prog (fK 4 (cW Tryz.f40.body)) (bodyPost Tryz.prog Tryz.f40 R) a w:=by
 have HS:=zH hs;have HE:=zH he;have HD:=zH hd;clear hs he hd;dsimp only[fK,cW,Tryz.f40];have LC:=zH hLC;have CX:=zH hC4;have FN:=zH fin;refine kgb ?_;intro UD;have NXT:Hid (∀W,FT w W→∀a:Act,a.tmps.size=119→a.defers=[]→dJ a [(8,.bool true),(7,.bool true),(0,.pointer (some ⟨rb,0,none⟩)),(1,.pointer (some ⟨rd,0,none⟩)),(5,.pointer (some ⟨b,0,none⟩)),(6,.pointer (some ⟨d,0,none⟩))]→Code.wp Tryz.prog (fK 5 (cW Tryz.f40.body)) (bodyPost Tryz.prog Tryz.f40 R) a W):=fun W f a hs hd he=>sm13_5 (bs:=bs) (bt:=bt) (vy:=vy) (ve:=ve) (ae:=ae) (le:=le) (ce:=ce) (fun W' g=>hNC W' (f.trans g)) (fun W' g=>hNX W' (f.trans g)) (fun W' g=>hMT W' (f.trans g)) (fun W' g=>hC5 W' (f.trans g)) (fun W' g=>hCZ W' (f.trans g)) (fun W' g=>fin W' (f.trans g)) a hs hd he
 clear hNC hNX hMT hSC hLC hC3 hC4 hC5 hCZ fin;apply wp_seq_k;intro K1 h1;have H1:=zH h1;clear h1;have HT:tmB [(51,0),(52,1),(53,2),(54,3),(55,4),(56,5),(57,6),(58,7),(59,8),(60,9),(61,10),(62,11),(63,12),(64,13),(65,14),(66,15),(67,16),(68,17),(69,18),(70,19)] [(7,.bool true),(0,.pointer (some ⟨rb,0,none⟩)),(1,.pointer (some ⟨rd,0,none⟩)),(5,.pointer (some ⟨b,0,none⟩)),(6,.pointer (some ⟨d,0,none⟩))] 119=true:=by rfl
 refine fZ (K:=fun _ _=>True) (by kernel_rfl) [(51,0),(52,1),(53,2),(54,3),(55,4),(56,5),(57,6),(58,7),(59,8),(60,9),(61,10),(62,11),(63,12),(64,13),(65,14),(66,15),(67,16),(68,17),(69,18),(70,19)] [(0,[]),(1,[0]),(2,[1]),(3,[2]),(4,[3]),(5,[]),(6,[5]),(7,[6]),(8,[7]),(9,[8]),(10,[]),(11,[10]),(12,[11]),(13,[12]),(14,[13]),(15,[]),(16,[15]),(17,[16]),(18,[17]),(19,[4,9,14,18])] (ckR [(0,.pointer (some ⟨b,0,none⟩)),(1,.pointer (some ⟨b,0,none⟩)),(2,.pointer (some ⟨b,8,none⟩)),(3,.pointer (some ⟨b,8,none⟩)),(4,.int .u64 (bs:Nat)),(5,.pointer (some ⟨b,0,none⟩)),(6,.pointer (some ⟨b,0,none⟩)),(7,.pointer (some ⟨b,8,none⟩)),(8,.pointer (some ⟨b,9,none⟩)),(9,.int .u64 (bt:Nat)),(10,.pointer (some ⟨b,0,none⟩)),(11,.pointer (some ⟨b,0,none⟩)),(12,.pointer (some ⟨b,8,none⟩)),(13,.pointer (some ⟨b,10,none⟩)),(14,ve),(15,.pointer (some ⟨d,0,none⟩)),(16,.pointer (some ⟨d,0,none⟩)),(17,.pointer (some ⟨d,8,none⟩)),(18,.agg #[.int .u64 (bs:Nat),.int .u64 (bt:Nat),.slice ae le ce]),(19,.bool true)] [] 20 0) 1 (by kernel_rfl) (by kernel_rfl) (FV (by kernel_rfl)) rfl ?cfall ?cfend
 case cfall=>
  iterate 19
   refine bY.kt HT HS HE rfl rfl rfl (fun A W hF hT hE K' hK=>?_) ?_
   ·have HF:=zH hF;clear hF;simp only[tmEqs,ckLook,jY,Nat.reduceBEq] at hT;simp only[dJ] at hE;obtain⟨xb8,xb9,xb10,xd8,xd9,xd10⟩:=CX W (UD.trans HF);exact m1o
  refine bY.kt HT HS HE rfl rfl rfl (fun A W hF hT hE K' hK=>?_) ?_
  ·have HF:=zH hF;clear hF;simp only[tmEqs,ckLook,jY,Nat.reduceBEq] at hT;simp only[dJ] at hE;obtain⟨xb8,xb9,xb10,xd8,xd9,xd10⟩:=CX W (UD.trans HF);have CA:=zH (LC W (UD.trans HF));exact mxJ
  exact m36
 case cfend=>
  intro xs W hF hA;have HF:=zH hF;obtain⟨hT,hE,hS,hD⟩:=tmEnd HT HS HE rfl [19] rfl hA;clear hA hF;generalize fillA _ a xs=A at hT hE hS hD ⊢;simp only[tmEqs,ckLook,jY,Nat.reduceBEq] at hT;simp only[dJ] at hE;have FC:=zH (UD.trans HF);have HS2:=zH hS;have HE2:=zH hE;have HD2:=zH hD;clear hS hE hD;refine wpN 20 rfl fun K' hK=>?_
  exact mpg
theorem sm13_3 {R:Ending→World→Prop} {w:World} {rb rd b d ap bs bt:Nat} {n:Nd} {vc vd vy ve:Value} {ae:Option Addr} {le ce bn cn bm cm:Nat} (hNC:(∀W,FT w W→Calls Tryz.prog 22 #[vc,vd] W fun e w'=>e=.returned (.bool true)∧FT W w')) (hNX:(∀W,FT w W→Calls Tryz.prog 61 #[.slice (some ⟨bn,0,none⟩) 16 cn,V16 n.next] W fun e w'=>e=.returned (.bool true)∧FT W w')) (hMT:(∀W,FT w W→Calls Tryz.prog 61 #[.slice (some ⟨bm,0,none⟩) 16 cm,V16 n.mat] W fun e w'=>e=.returned (.bool true)∧FT W w')) (hSC:(∀W,FT w W→Calls Tryz.prog 59 #[.int .i64 n.me,.int .i64 n.vote,.int .i64 n.role,.int .i64 n.ld,vy,.int .u64 (n.tm:Nat),.int .u64 (n.commit:Nat),.bool n.heard,.pointer (some ⟨d,0,none⟩)] W fun e w'=>e=.returned (.bool true)∧FT W w')) (hLC:(∀W,FT w W→Calls Tryz.prog 60 #[.int .u64 (bs:Nat),.int .u64 (bt:Nat),ve,.agg #[.int .u64 (bs:Nat),.int .u64 (bt:Nat),.slice ae le ce]] W fun e w'=>e=.returned (.bool true)∧FT W w')) (hC3:∀W,FT w W→W.cell? ⟨b,0,none⟩=some (.int .i64 n.me)∧W.cell? ⟨b,1,none⟩=some (.int .i64 n.vote)∧W.cell? ⟨b,2,none⟩=some (.int .i64 n.role)∧W.cell? ⟨b,3,none⟩=some (.int .i64 n.ld)∧W.cell? ⟨b,5,none⟩=some (vy)∧W.cell? ⟨b,6,none⟩=some (.int .u64 (n.tm:Nat))∧W.cell? ⟨b,7,none⟩=some (.int .u64 (n.commit:Nat))∧W.cell? ⟨b,11,none⟩=some (.bool n.heard)) (hC4:∀W,FT w W→W.cell? ⟨b,8,none⟩=some (.int .u64 (bs:Nat))∧W.cell? ⟨b,9,none⟩=some (.int .u64 (bt:Nat))∧W.cell? ⟨b,10,none⟩=some (ve)∧W.cell? ⟨d,8,none⟩=some (.int .u64 (bs:Nat))∧W.cell? ⟨d,9,none⟩=some (.int .u64 (bt:Nat))∧W.cell? ⟨d,10,none⟩=some (.slice ae le ce)) (hC5:∀W,FT w W→W.cell? ⟨b,4,none⟩=some (vc)∧W.cell? ⟨b,12,none⟩=some (.slice (some ⟨bn,0,none⟩) 16 cn)∧W.cell? ⟨b,13,none⟩=some (.slice (some ⟨bm,0,none⟩) 16 cm)∧W.cell? ⟨d,4,none⟩=some (vd)∧W.cell? ⟨rb,1,none⟩=some (.int .u64 (ap:Nat))∧W.cell? ⟨rd,1,none⟩=some (.int .u64 (ap:Nat))) (hCZ:∀W,FT w W→(∀i,i<16→W.cell? ⟨d,12+i,none⟩=some (c16 n.next i))∧∀i,i<16→W.cell? ⟨d,28+i,none⟩=some (c16 n.mat i)) (fin:∀W,FT w W→R (.returned (.bool true)) W) (a:Act) (hs:a.tmps.size=119) (hd:a.defers=[]) (he:dJ a [(0,.pointer (some ⟨rb,0,none⟩)),(1,.pointer (some ⟨rd,0,none⟩)),(5,.pointer (some ⟨b,0,none⟩)),(6,.pointer (some ⟨d,0,none⟩))]):
 Code.wp Tryz.prog (fK 3 (cW Tryz.f40.body)) (bodyPost Tryz.prog Tryz.f40 R) a w:=by
 have HS:=zH hs;have HE:=zH he;have HD:=zH hd;clear hs he hd;dsimp only[fK,cW,Tryz.f40];have SC:=zH hSC;have CX:=zH hC3;have FN:=zH fin;refine kgb ?_;intro UD;have NXT:Hid (∀W,FT w W→∀a:Act,a.tmps.size=119→a.defers=[]→dJ a [(7,.bool true),(0,.pointer (some ⟨rb,0,none⟩)),(1,.pointer (some ⟨rd,0,none⟩)),(5,.pointer (some ⟨b,0,none⟩)),(6,.pointer (some ⟨d,0,none⟩))]→Code.wp Tryz.prog (fK 4 (cW Tryz.f40.body)) (bodyPost Tryz.prog Tryz.f40 R) a W):=fun W f a hs hd he=>sm13_4 (fun W' g=>hNC W' (f.trans g)) (fun W' g=>hNX W' (f.trans g)) (fun W' g=>hMT W' (f.trans g)) (fun W' g=>hSC W' (f.trans g)) (fun W' g=>hLC W' (f.trans g)) (fun W' g=>hC3 W' (f.trans g)) (fun W' g=>hC4 W' (f.trans g)) (fun W' g=>hC5 W' (f.trans g)) (fun W' g=>hCZ W' (f.trans g)) (fun W' g=>fin W' (f.trans g)) a hs hd he
 clear hNC hNX hMT hSC hLC hC3 hC4 hC5 hCZ fin;apply wp_seq_k;intro K1 h1;have H1:=zH h1;clear h1;have HT:tmB [(17,0),(18,1),(19,2),(20,3),(21,4),(22,5),(23,6),(24,7),(25,8),(26,9),(27,10),(28,11),(29,12),(30,13),(31,14),(32,15),(33,16),(34,17),(35,18),(36,19),(37,20),(38,21),(39,22),(40,23),(41,24),(42,25),(43,26),(44,27),(45,28),(46,29),(47,30),(48,31),(49,32),(50,33)] [(0,.pointer (some ⟨rb,0,none⟩)),(1,.pointer (some ⟨rd,0,none⟩)),(5,.pointer (some ⟨b,0,none⟩)),(6,.pointer (some ⟨d,0,none⟩))] 119=true:=by rfl
 refine fZ (K:=fun _ _=>True) (by kernel_rfl) [(17,0),(18,1),(19,2),(20,3),(21,4),(22,5),(23,6),(24,7),(25,8),(26,9),(27,10),(28,11),(29,12),(30,13),(31,14),(32,15),(33,16),(34,17),(35,18),(36,19),(37,20),(38,21),(39,22),(40,23),(41,24),(42,25),(43,26),(44,27),(45,28),(46,29),(47,30),(48,31),(49,32),(50,33)] [(0,[]),(1,[0]),(2,[1]),(3,[2]),(4,[]),(5,[4]),(6,[5]),(7,[6]),(8,[]),(9,[8]),(10,[9]),(11,[10]),(12,[]),(13,[12]),(14,[13]),(15,[14]),(16,[]),(17,[16]),(18,[17]),(19,[18]),(20,[]),(21,[20]),(22,[21]),(23,[22]),(24,[]),(25,[24]),(26,[25]),(27,[26]),(28,[]),(29,[28]),(30,[29]),(31,[30]),(32,[]),(33,[3,7,11,15,19,23,27,31,32])] (ckR [(0,.pointer (some ⟨b,0,none⟩)),(1,.pointer (some ⟨b,0,none⟩)),(2,.pointer (some ⟨b,0,none⟩)),(3,.int .i64 n.me),(4,.pointer (some ⟨b,0,none⟩)),(5,.pointer (some ⟨b,0,none⟩)),(6,.pointer (some ⟨b,1,none⟩)),(7,.int .i64 n.vote),(8,.pointer (some ⟨b,0,none⟩)),(9,.pointer (some ⟨b,0,none⟩)),(10,.pointer (some ⟨b,2,none⟩)),(11,.int .i64 n.role),(12,.pointer (some ⟨b,0,none⟩)),(13,.pointer (some ⟨b,0,none⟩)),(14,.pointer (some ⟨b,3,none⟩)),(15,.int .i64 n.ld),(16,.pointer (some ⟨b,0,none⟩)),(17,.pointer (some ⟨b,0,none⟩)),(18,.pointer (some ⟨b,5,none⟩)),(19,vy),(20,.pointer (some ⟨b,0,none⟩)),(21,.pointer (some ⟨b,0,none⟩)),(22,.pointer (some ⟨b,6,none⟩)),(23,.int .u64 (n.tm:Nat)),(24,.pointer (some ⟨b,0,none⟩)),(25,.pointer (some ⟨b,0,none⟩)),(26,.pointer (some ⟨b,7,none⟩)),(27,.int .u64 (n.commit:Nat)),(28,.pointer (some ⟨b,0,none⟩)),(29,.pointer (some ⟨b,0,none⟩)),(30,.pointer (some ⟨b,11,none⟩)),(31,.bool n.heard),(32,.pointer (some ⟨d,0,none⟩)),(33,.bool true)] [] 34 0) 1 (by kernel_rfl) (by kernel_rfl) (FV (by kernel_rfl)) rfl ?cfall ?cfend
 case cfall=>
  iterate 33
   refine bY.kt HT HS HE rfl rfl rfl (fun A W hF hT hE K' hK=>?_) ?_
   ·have HF:=zH hF;clear hF;simp only[tmEqs,ckLook,jY,Nat.reduceBEq] at hT;simp only[dJ] at hE;obtain⟨xb0,xb1,xb2,xb3,xb5,xb6,xb7,xb11⟩:=CX W (UD.trans HF);exact m1o
  refine bY.kt HT HS HE rfl rfl rfl (fun A W hF hT hE K' hK=>?_) ?_
  ·have HF:=zH hF;clear hF;simp only[tmEqs,ckLook,jY,Nat.reduceBEq] at hT;simp only[dJ] at hE;obtain⟨xb0,xb1,xb2,xb3,xb5,xb6,xb7,xb11⟩:=CX W (UD.trans HF);have CA:=zH (SC W (UD.trans HF));exact mxJ
  exact m36
 case cfend=>
  intro xs W hF hA;have HF:=zH hF;obtain⟨hT,hE,hS,hD⟩:=tmEnd HT HS HE rfl [33] rfl hA;clear hA hF;generalize fillA _ a xs=A at hT hE hS hD ⊢;simp only[tmEqs,ckLook,jY,Nat.reduceBEq] at hT;simp only[dJ] at hE;have FC:=zH (UD.trans HF);have HS2:=zH hS;have HE2:=zH hE;have HD2:=zH hD;clear hS hE hD;refine wpN 34 rfl fun K' hK=>?_
  exact mpg
end Go.Proofs.YtmjccpfchhnfhaaGreat
