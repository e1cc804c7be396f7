/- Texts of the proofs, part 42: what the functions that they reach do, walked; no conditions beyond those that each states. -/
import Derived.Test.YtmjccpfchhnfhaaGreatZk47afac4833
import Derived.Test.YtmjccpfchhnfhaaGreatZk2e6e04eea1
set_option linter.unusedVariables false
set_option linter.unusedSimpArgs false
set_option maxRecDepth 100000
set_option maxHeartbeats 8000000
namespace Go.Proofs.YtmjccpfchhnfhaaGreat
open Go.RowKit
def DNew [Old] (X:Nat→Prop) (w:World) (me:Int) (conf:List Int) (e:Ending) (w':World):Prop:=∃b q,e=.returned (.pointer (some ⟨b,0,none⟩))∧DNs (fun c=>X c∨c=b) w' b (Nd.new me conf) q∧FT w w'∧w.heap.size≤b
theorem LJ [Old] {X:Nat→Prop} (w:World) (me:Int) (vc:Value) (conf:List Int) (h:IntsAt (RO X) w vc conf) (h0:0<conf.length) (hl:conf.length≤1000) (hX:∀c,X c→c<w.heap.size) (hO:∀c,Old.o c→c<w.heap.size):
 Calls Tryz.prog 50 #[.int .i64 me,vc] w fun e w'=>DNew X w me conf e w':=by
 obtain⟨ac,cc,rfl⟩:=h.form;have HC:=zH h;have HH:=zH (And.intro h0 (And.intro hl (And.intro hX hO)));clear h h0 hl hX hO;obtain⟨W1,hW1⟩:=zE (w.alloc (.cells #[] 3));refine kmo ?_;intro F1;have OW:Hid (RowI W1 w.heap.size (.slice (some ⟨w.heap.size,0,none⟩) 0 0) []):=hW1▸World.ownsRow_lit w #[] 0 (Nat.le_refl _) (by simp) rfl;have HC1:=zH (HC.tt F1);obtain⟨n,hn⟩:=zE conf.length;have HN:=zH hn;have hn2:conf.length≤2000000:=by have:=HH.out.2.1;omega
 rw[hn];rw[hn] at HC1;go_enter Tryz.func50,Tryz.ntmps50
 go_wp2_with (at_builtin;(try rw[hW1]);refine gZ w W1 F1 rfl _ _ rfl (.slice (some ⟨w.heap.size,0,none⟩) 0 0) [] rfl OW (.slice ac n cc) conf rfl HC1 HH.out.1 conf rfl hn2 ?_)
 intro ga gc W2 R2 F2;replace R2:Hid (RowI W2 w.heap.size (.slice ga n gc) conf):=by first | exact R2 | (rw[←hn];exact R2)
 try rw[hn]
 have hbd:∀W:World,(Instr.build 103 #[(0,.int .i64 me),(1,.int .i64 (-1)),(3,.int .i64 (-1)),(4,.slice ga n gc)]).run Tryz.prog W=.ok (.agg #[.int .i64 me,.int .i64 (-1),.int .i64 0,.int .i64 (-1),.slice ga n gc,.slice none 0 0,.int .u64 0,.int .u64 0,.int .u64 0,.int .u64 0,.slice none 0 0,.bool false,.int .u64 0,.int .u64 0,.int .u64 0,.int .u64 0,.int .u64 0,.int .u64 0,.int .u64 0,.int .u64 0,.int .u64 0,.int .u64 0,.int .u64 0,.int .u64 0,.int .u64 0,.int .u64 0,.int .u64 0,.int .u64 0,.int .u64 0,.int .u64 0,.int .u64 0,.int .u64 0,.int .u64 0,.int .u64 0,.int .u64 0,.int .u64 0,.int .u64 0,.int .u64 0,.int .u64 0,.int .u64 0,.int .u64 0,.int .u64 0,.int .u64 0,.int .u64 0]) W:=fun W=>run_build W _ _ _ (by kernel_rfl)
 obtain⟨W3,hW3⟩:=zE (W2.alloc (.cells #[.int .i64 me,.int .i64 (-1),.int .i64 0,.int .i64 (-1),.slice ga n gc,.slice none 0 0,.int .u64 0,.int .u64 0,.int .u64 0,.int .u64 0,.slice none 0 0,.bool false,.int .u64 0,.int .u64 0,.int .u64 0,.int .u64 0,.int .u64 0,.int .u64 0,.int .u64 0,.int .u64 0,.int .u64 0,.int .u64 0,.int .u64 0,.int .u64 0,.int .u64 0,.int .u64 0,.int .u64 0,.int .u64 0,.int .u64 0,.int .u64 0,.int .u64 0,.int .u64 0,.int .u64 0,.int .u64 0,.int .u64 0,.int .u64 0,.int .u64 0,.int .u64 0,.int .u64 0,.int .u64 0,.int .u64 0,.int .u64 0,.int .u64 0,.int .u64 0] 103 (0,0)));have t3:W3.heap[W2.heap.size]? = some (.cells (W44 (Nd.new me conf) ⟨.slice ga n gc,.slice none 0 0,.slice none 0 0,[]⟩) 103 (0,0)):=hW3▸bZ W2 _;have f3:FT W2 W3:=hW3▸(Fr.refl _ _).alloc _;have S2:w.heap.size≤W2.heap.size:=F2.size
 have D3:Hid (DNs (fun c=>X c∨c=W2.heap.size) W3 W2.heap.size (Nd.new me conf) ⟨.slice ga n gc,.slice none 0 0,.slice none 0 0,[]⟩):=by
  refine⟨t3,?_,IntsAt.nil' _ _,EsAt.nil _ _,rfl,rfl,rfl,.inr rfl,fun c hc=>?_,fun c hc=>Nat.lt_of_lt_of_le (HH.2.2.2 c hc) S2⟩
  ·have h9:RowI W3 w.heap.size (.slice ga n gc) conf:=R2.tt f3;refine h9.intsK.mono3 fun c o ho hc=>⟨fun hx=>?_,.inr ?_⟩
   ·obtain⟨hB,cs,e⟩:=hc;rcases hx with hx | hx
    ·have:=HH.out.2.2.1 c hx;omega
    ·subst hx;rw[t3] at ho;subst e;cases ho
   ·obtain⟨hB,cs,e⟩:=hc;exact⟨cs,_,_,e,by decide⟩
  ·have:=bX t3;rcases hc with hc | hc
   ·have:=HH.out.2.2.1 c hc;omega
   ·omega
 have F3:=zH (F2.trans f3);clear t3 f3 S2 hn hn2;go_wp2
 try rw[hW3]
 go_ret;exact⟨_,_,rfl,D3,F3,F2.size⟩
theorem mSW {p:Prop} (h:p:=by
 clear EQ NC RC;go_enter Tryz.func42,Tryz.ntmps42
 go_wp2;go_ret2;exact .inl ⟨by rw[HEN.out,OUT.out];decide,by rw[HEN.out,OUT.out];rfl,Fr.refl _ _⟩):p:=h
theorem miS {p:Prop} (h:p:=by
 clear EQ NC RC;go_enter Tryz.func29,Tryz.ntmps29
 go_wp2;go_ret2;exact⟨.inl ⟨by rw[HEN.out,OUT.out];decide,by rw[HEN.out,OUT.out];rfl⟩,Fr.refl _ _⟩):p:=h
def errN (me:Int) (conf:List Int):Int:=if me<0∨15<me then 31 else if dV conf=false then 1 else 0
def RNew [Old] (X:Nat→Prop) (w:World) (me:Int) (conf:List Int) (e:Ending) (w':World):Prop:=
 (errN me conf≠0∧e=.returned (.tuple #[.pointer none,.int .i64 (errN me conf)])∧FT w w')∨
 (errN me conf=0∧∃rb b X' P' q',e=.returned (.tuple #[.pointer (some ⟨rb,0,none⟩),.int .i64 0])∧PNs X' P' w' b (Nd.new me conf) q'∧RB w' rb b 0∧¬X' rb∧Aft X (fun _=>False) X' P' w w'∧w.heap.size≤b∧w.heap.size≤rb)
def DNewR [Old] (X:Nat→Prop) (w:World) (me:Int) (conf:List Int) (e:Ending) (w':World):Prop:=
 ((errN me conf≠0∧e=.returned (.tuple #[.pointer none,.int .i64 (errN me conf)]))∨
 (errN me conf=0∧∃rb b q',e=.returned (.tuple #[.pointer (some ⟨rb,0,none⟩),.int .i64 0])∧DNs (fun c=>X c∨c=b) w' b (Nd.new me conf) q'∧RD w' rb b 0∧¬X rb∧rb≠b∧w.heap.size≤b∧w.heap.size≤rb))∧Fr (fun _ _=>True) w w'
section
variable {X P X' P':Nat→Prop} {w w':World} {b rb ap:Nat} {n n':Nd} {q q':NV}
theorem Jw [Old] {X:Nat→Prop} (w:World) (me:Int) (vc:Value) (conf:List Int) (h:IntsAt (RO X) w vc conf) (hl:conf.length≤maxLen) (hX:∀c,X c→c<w.heap.size) (hO:∀c,Old.o c→c<w.heap.size):
 Calls Tryz.prog 42 #[.int .i64 me,vc] w fun e w'=>RNew X w me conf e w':=by
 have RC:=zH (Cw w vc conf h hl);obtain⟨rq,hrq⟩:=zE (dV conf);rw[hrq] at RC;obtain⟨en,hen⟩:=zE (errN me conf);have EQ:Hid (en=if me<0∨15<me then 31 else if rq=false then 1 else 0):=by show en=_;rw[←hen,←hrq];rfl
 have HEN:=zH hen
 have NC:Hid (rq=true→Calls Tryz.prog 49 #[.int .i64 me,vc] w fun e w'=>∃b X' P' q',e=.returned (.pointer (some ⟨b,0,none⟩))∧PNs X' P' w' b (Nd.new me conf) q'∧Aft X (fun _=>False) X' P' w w'∧w.heap.size≤b):=fun e=>by
  have h3:=Cy (l:=-1) (c:=conf) (by have e':dV conf=true:=hrq.trans e;unfold dV at e';exact(Bool.and_eq_true _ _ |>.mp e').1)
  have h4:0<conf.length:=by
   have e':dV conf=true:=hrq.trans e;cases conf with
   | nil=>exact absurd e' (by decide)
   | cons=>simp
  have h5:conf.length≤16:=(y_ (hrq.trans e)).2;exact Kq w me vc conf h h4 (by omega) hX hO
 have HX:=zH hX;clear h hl hX hO hrq hen;by_cases c0:me<0
 ·have OUT:Hid (en=31):=EQ.trans (if_pos (.inl c0));exact mSW
 ·by_cases c1:15<me
  ·have OUT:Hid (en=31):=EQ.trans (if_pos (.inr c1));have c1':16≤me:=by omega
   exact mSW
  ·have c1':¬16≤me:=by omega
   replace EQ:Hid (en=if rq=false then 1 else 0):=EQ.out.trans (if_neg (by omega));cases rq with
   | false=>
    have OUT:Hid (en=1):=EQ.trans (if_pos rfl);clear EQ NC;go_enter Tryz.func42,Tryz.ntmps42
    go_wp2_with fail
    (with_reducible refine RC.out.mono ?_);rintro e w2 ⟨rfl,rfl⟩;go_wp2;go_ret2;exact .inl ⟨by rw[HEN.out,OUT.out];decide,by rw[HEN.out,OUT.out];rfl,Fr.refl _ _⟩
   | true=>
    have OUT:Hid (en=0):=EQ.trans (if_neg (by decide));have NC1:=zH (NC rfl);clear EQ NC;go_enter Tryz.func42,Tryz.ntmps42
    go_wp2_with fail
    (with_reducible refine RC.out.mono ?_);rintro e w2 ⟨rfl,rfl⟩;go_wp2_with fail
    (with_reducible refine NC1.out.mono ?_);rintro e w2 ⟨b,X2,P2,q2,rfl,h2,a2,hb⟩;have HH:=zH (And.intro h2 (And.intro a2 hb));clear h2 a2 hb NC1 RC;obtain⟨W3,hW3⟩:=zE (w2.alloc (.cells #[.pointer (some ⟨b,0,none⟩),.int .u64 0] 97 (0,0)));have F3:Hid (FT w2 W3):=hW3▸(Fr.refl _ _).alloc _;have T3:Hid (RB W3 w2.heap.size b 0):=by show W3.heap[w2.heap.size]? = _;rw[←hW3];exact bZ _ _
    go_wp2
    try rw[hW3]
    go_ret2;exact .inr ⟨by rw[HEN.out,OUT.out],_,b,X2,P2,q2,rfl,HH.out.1.tt F3.out,T3.out,fun e=>by have:=HH.out.1.hx _ e;omega,HH.out.2.1.tr F3.out,HH.out.2.2,HH.out.2.1.fr.size⟩
theorem Dv [Old] {X:Nat→Prop} (w:World) (me:Int) (vc:Value) (conf:List Int) (h:IntsAt (RO X) w vc conf) (hl:conf.length≤maxLen) (hX:∀c,X c→c<w.heap.size) (hO:∀c,Old.o c→c<w.heap.size):
 Calls Tryz.prog 29 #[.int .i64 me,vc] w fun e w'=>DNewR X w me conf e w':=by
 have RC:=zH (yq w vc conf h hl);obtain⟨rq,hrq⟩:=zE (dV conf);rw[hrq] at RC;obtain⟨en,hen⟩:=zE (errN me conf);have EQ:Hid (en=if me<0∨15<me then 31 else if rq=false then 1 else 0):=by show en=_;rw[←hen,←hrq];rfl
 have HEN:=zH hen
 have NC:Hid (rq=true→Calls Tryz.prog 50 #[.int .i64 me,vc] w fun e w'=>DNew X w me conf e w'):=fun e=>by
  have h3:=Cy (l:=-1) (c:=conf) (by have e':dV conf=true:=hrq.trans e;unfold dV at e';exact(Bool.and_eq_true _ _ |>.mp e').1)
  have h4:0<conf.length:=by
   have e':dV conf=true:=hrq.trans e;cases conf with
   | nil=>exact absurd e' (by decide)
   | cons=>simp
  have h5:conf.length≤16:=(y_ (hrq.trans e)).2;exact LJ w me vc conf h h4 (by omega) hX hO
 have HX:=zH hX;clear h hl hX hO hrq hen;by_cases c0:me<0
 ·have OUT:Hid (en=31):=EQ.trans (if_pos (.inl c0));exact miS
 ·by_cases c1:15<me
  ·have OUT:Hid (en=31):=EQ.trans (if_pos (.inr c1));have c1':16≤me:=by omega
   exact miS
  ·have c1':¬16≤me:=by omega
   replace EQ:Hid (en=if rq=false then 1 else 0):=EQ.out.trans (if_neg (by omega));cases rq with
   | false=>
    have OUT:Hid (en=1):=EQ.trans (if_pos rfl);clear EQ NC;go_enter Tryz.func29,Tryz.ntmps29
    go_wp2_with fail
    (with_reducible refine RC.out.mono ?_);rintro e w2 ⟨rfl,rfl⟩;go_wp2;go_ret2;exact⟨.inl ⟨by rw[HEN.out,OUT.out];decide,by rw[HEN.out,OUT.out];rfl⟩,Fr.refl _ _⟩
   | true=>
    have OUT:Hid (en=0):=EQ.trans (if_neg (by decide));have NC1:=zH (NC rfl);clear EQ NC;go_enter Tryz.func29,Tryz.ntmps29
    go_wp2_with fail
    (with_reducible refine RC.out.mono ?_);rintro e w2 ⟨rfl,rfl⟩;go_wp2_with fail
    (with_reducible refine NC1.out.mono ?_);rintro e w2 ⟨b,q2,rfl,h2,f2,hb⟩;have HH:=zH (And.intro h2 (And.intro f2 hb));clear h2 f2 hb NC1 RC;obtain⟨W3,hW3⟩:=zE (w2.alloc (.cells #[.pointer (some ⟨b,0,none⟩),.int .u64 0] 78 (0,0)));have F3:Hid (FT w2 W3):=hW3▸(Fr.refl _ _).alloc _;have T3:Hid (RD W3 w2.heap.size b 0):=by show W3.heap[w2.heap.size]? = _;rw[←hW3];exact bZ _ _
    go_wp2
    try rw[hW3]
    go_ret2;have b2:=bX HH.1.top;exact⟨.inr ⟨by rw[HEN.out,OUT.out],_,b,q2,rfl,HH.out.1.tt F3.out,T3.out,fun e=>by have:=HX.out _ e;have:=HH.out.2.1.size;omega,by omega,HH.out.2.2,HH.out.2.1.size⟩,HH.out.2.1.trans F3.out⟩
theorem kQ [Old] (h:PNs X P w b n q) (hr:RB w rb b ap) (kind:Int) (da:Option Addr) (dc:Nat) (d:List UInt8) (hd:BytesAt (RO X) w (.slice da d.length dc) d) (hcf:0<n.conf.length∧n.conf.length≤12) (hpos:∀x∈n.conf,0≤x) (mN:Nat) (hme:n.me=(mN:Nat)) (hm16:mN<16) (hl:n.log.last+2<18446744073709551616) (hle:n.log.es.length≤900000):
 Calls Tryz.prog 36 #[.pointer (some ⟨rb,0,none⟩),.int .i64 kind,.slice da d.length dc] w fun e w'=>POut X P w b (n.propose kind d) e w':=by
 have PC:=zH (vv h kind da dc d hd hcf hpos mN hme hm16 hl hle);obtain⟨dl,hdl⟩:=zE d.length;rw[hdl] at PC ⊢;have y0:w.cell? ⟨rb,0,none⟩=some (.pointer (some ⟨b,0,none⟩)):=bQ hr rfl;clear h hr hd hcf hpos hme hm16 hl hle hdl;go_enter Tryz.func36,Tryz.ntmps36
 go_wp2_with fail
 (with_reducible refine PC.out.mono ?_);rintro e w2 ⟨⟨q2,rfl,h2⟩,f2⟩;have HH:=zH (And.intro h2 f2);clear h2 f2 PC;go_wp2;go_ret2;exact⟨⟨q2,rfl,HH.1⟩,HH.2⟩
end
theorem m4W {p:Prop} (h:p:=by
 refine zZ l i _ h.dj (fun j hj hji k hk hk2=>?_) (fun j hj hji k hk hk2=>?_)
 ·rcases ha.nw k hk2 with q | q
  ·exact hdj j i hj hi hji k hk q
  ·have:=old j hj k hk;omega
 ·rcases ha.nw k hk with q | q
  ·exact hdj i j hi hj hji k q hk2
  ·have:=old j hj k hk2;omega):p:=h
theorem m5F {p:Prop} (h:p:=by
 rcases Nat.lt_or_ge i j with hlt | hge
 ·exact hdj i j hi hj hlt k hk2 hk
 ·exact hdj j i hj hi (by omega) k hk hk2):p:=h
theorem mMo {p:Prop} (h:p:=by
 apply List.ext_getElem?;intro j;rw[List.getElem?_set];split
 ·rename_i e;subst e;simp [hi]
 ·rfl):p:=h
structure Nx where
 b:Nat
 n:Nd
 P:Nat→Prop
abbrev ptrB (x:Nx):Value:=.pointer (some ⟨x.b,0,none⟩)
structure GV where
 vn:Value
 vm:Value
 vs:Value
 vt:Value
 vl:Value
 ns:Nat
 nt:Nat
 nl:Nat
 sz:Nat:=0
def W6g (c:GV) (many:Int):Array Value:=#[c.vn,c.vm,c.vs,c.vt,c.vl,.int .i64 many]
structure Grp [Old] (X:Nat→Prop) (w:World) (G:Nat) (l:List Nx) (ms:List MV) (many:Int) (c:GV):Prop where
 top:w.heap[G]? = some (.cells (W6g c many) 111 (0,0))
 gx:¬X G
 rn:w.ownsRow 0 34 1 c.vn l.length (l.map ptrB)
 xn:∀k,c.vn.ownBlock=some k→¬X k
 rm:OwnMs X 0 w c.vm ms
 rs:∃xs,w.ownsRow 0 149 4 c.vs c.ns xs
 xs:∀k,c.vs.ownBlock=some k→¬X k
 rt:∃xs,w.ownsRow 0 23 1 c.vt c.nt xs
 xt:∀k,c.vt.ownBlock=some k→¬X k
 rl:∃xs,w.ownsRow 0 26 3 c.vl c.nl xs
 xl:∀k,c.vl.ownBlock=some k→¬X k
 nd:∀x∈l,PN X x.P w x.b x.n
 dj:l.Pairwise fun x y=>∀k,x.P k→¬y.P k
 hx:∀k,X k→k<w.heap.size
 sz:c.sz≤w.heap.size
section
variable {X X' P':Nat→Prop} {w w':World} {G:Nat} {l:List Nx} {ms:List MV} {many:Int} {c:GV}
theorem Grp.tt [Old] [bj] (h:Grp X w G l ms many c) (f:FT w w'):Grp X w' G l ms many c:=by
 obtain⟨xs,h1⟩:=h.rs;obtain⟨xt,h2⟩:=h.rt;obtain⟨xl,h3⟩:=h.rl;exact⟨f.keep _ _ h.top trivial,h.gx,bK h.rn f fun _ _ _ _=>trivial,h.xn,h.rm.tt f,⟨xs,bK h1 f fun _ _ _ _=>trivial⟩,h.xs,⟨xt,bK h2 f fun _ _ _ _=>trivial⟩,h.xt,⟨xl,bK h3 f fun _ _ _ _=>trivial⟩,h.xl,fun x hx=>(h.nd x hx).tt f,h.dj,fun k hk=>Nat.lt_of_lt_of_le (h.hx k hk) f.size,Nat.le_trans h.sz f.size⟩
theorem PN.far [Old] [bj] {X P X' P' P2:Nat→Prop} {b:Nat} {n:Nd} (h:PN X P w b n) (k:Aft X P2 X' P' w w') (hd:∀c,P c→¬P2 c) (hx:∀c,X' c→c<w'.heap.size):PN X' P w' b n:=by
 obtain⟨q,h⟩:=h;exact⟨q,h.far k hd hx⟩
theorem zZ {α:Type} {R:α→α→Prop}:∀(l:List α) (i:Nat) (y:α),l.Pairwise R→(∀j,(hj:j<l.length)→j<i→R l[j] y)→(∀j,(hj:j<l.length)→i<j→R y l[j])→(l.set i y).Pairwise R
 | [],_,_,h,_,_=>h
 | x :: l,0,y,h,_,h2=>by rw[List.set_cons_zero];have h':=List.pairwise_cons.1 h;refine List.pairwise_cons.2 ⟨fun z hz=>?_,h'.2⟩;obtain⟨j,hj,e⟩:=List.mem_iff_getElem.1 hz;have:=h2 (j+1) (by simpa using hj) (by omega);simpa [e] using this
 | x :: l,i+1,y,h,h1,h2=>by
  rw[List.set_cons_succ];have h':=List.pairwise_cons.1 h;refine List.pairwise_cons.2 ⟨fun z hz=>?_,zZ l i y h'.2 (fun j hj hji=>?_) (fun j hj hji=>?_)⟩
  ·rcases List.mem_or_eq_of_mem_set hz with hz | hz
   ·exact h'.1 z hz
   ·rw[hz];exact h1 0 (by simp) (by omega)
  ·have:=h1 (j+1) (by simpa using hj) (by omega);simpa using this
  ·have:=h2 (j+1) (by simpa using hj) (by omega);simpa using this
theorem Grp.turn [Old] [bj] (h:Grp X w G l ms many c) (i:Nat) (hi:i<l.length) {n':Nd} (hp:PN X' P' w' l[i].b n') (ha:Aft X l[i].P X' P' w w'):Grp X' w' G (l.set i ⟨l[i].b,n',P'⟩) ms many c:=by
 obtain⟨q,hq⟩:=hp;have hx':=hq.hx;have px:∀k,l[i].P k→X k:=ha.hp;have off:∀{k o},w.heap[k]? = some o→¬X k→¬l[i].P k∧¬X' k:=fun ho hk=>ha.off ho hk
 have row:∀{e:TypeId} {s:Nat} {v:Value} {n:Nat} {xs:List Value},w.ownsRow 0 e s v n xs→(∀k,v.ownBlock=some k→¬X k)→w'.ownsRow 0 e s v n xs∧∀k,v.ownBlock=some k→¬X' k:=fun hr hk=>⟨bK hr ha.fr fun k o e ho=>(off ho (hk k e)).1,fun k e=>by obtain⟨cur,ho⟩:=cZ hr e;exact(off ho (hk k e)).2⟩
 obtain⟨xs,h1⟩:=h.rs;obtain⟨xt,h2⟩:=h.rt;obtain⟨xl,h3⟩:=h.rl
 have e1:(l.set i ⟨l[i].b,n',P'⟩).map ptrB=l.map ptrB:=by rw[List.map_set];exact mMo
 refine⟨ha.fr.keep _ _ h.top (off h.top h.gx).1,(off h.top h.gx).2,?_,(row h.rn h.xn).2,h.rm.aft ha,⟨xs,(row h1 h.xs).1⟩,(row h1 h.xs).2,⟨xt,(row h2 h.xt).1⟩,(row h2 h.xt).2,⟨xl,(row h3 h.xl).1⟩,(row h3 h.xl).2,fun x hx=>?_,?_,hx',Nat.le_trans h.sz ha.fr.size⟩
 ·rw[List.length_set,e1];exact(row h.rn h.xn).1
 ·obtain⟨j,hj,e⟩:=List.mem_iff_getElem.1 hx;rw[List.length_set] at hj;rw[List.getElem_set] at e;by_cases hij:i=j
  ·rw[if_pos hij] at e;subst e;exact⟨q,hq⟩
  ·rw[if_neg hij] at e;subst e;refine(h.nd _ (List.getElem_mem hj)).far ha (fun k hk hk2=>?_) hx';have hdj:=List.pairwise_iff_getElem.1 h.dj;exact m5F
 ·have hdj:=List.pairwise_iff_getElem.1 h.dj
  have old:∀j,(hj:j<l.length)→∀k,l[j].P k→k<w.heap.size:=fun j hj k hk=>by obtain⟨q2,hq2⟩:=h.nd _ (List.getElem_mem hj);exact hq2.hx k (hq2.px k hk)
  exact m4W
theorem Grp.msgs [Old] [bj] (h:Grp X w G l ms many c) {ms':List MV} {vm':Value} (hf:Fr (fun k _=>k≠G∧c.vm.ownBlock≠some k) w w') (ht:w'.heap[G]? = some (.cells (W6g { c with vm:=vm' } many) 111 (0,0))) (hr:OwnMs X 0 w' vm' ms'):Grp X w' G l ms' many { c with vm:=vm' }:=by
 have tg:∀{e:TypeId} {s:Nat} {v:Value} {n:Nat} {xs:List Value},w.ownsRow 0 e s v n xs→e≠111→e≠32→w'.ownsRow 0 e s v n xs:=fun hr h1 h2=>bK hr hf fun k o e ho=>⟨fun hk=>by
  obtain⟨cur,ho'⟩:=cZ hr e;rw[hk,h.top] at ho';cases ho';exact h1 rfl,fun hk=>by
  obtain⟨cur,ho'⟩:=cZ hr e;obtain⟨cur2,ho2⟩:=cZ h.rm.row hk;rw[ho'] at ho2;cases ho2;exact h2 rfl⟩
 obtain⟨xs,h1⟩:=h.rs;obtain⟨xt,h2⟩:=h.rt;obtain⟨xl,h3⟩:=h.rl;refine⟨ht,h.gx,tg h.rn (by decide) (by decide),h.xn,hr,⟨xs,tg h1 (by decide) (by decide)⟩,h.xs,⟨xt,tg h2 (by decide) (by decide)⟩,h.xt,⟨xl,tg h3 (by decide) (by decide)⟩,h.xl,fun x hx=>?_,h.dj,fun k hk=>Nat.lt_of_lt_of_le (h.hx k hk) hf.size,Nat.le_trans h.sz hf.size⟩;obtain⟨q,hq⟩:=h.nd x hx;refine⟨q,hq.frK hf fun k o ho hk=>⟨fun e=>?_,fun e=>?_⟩⟩
 ·rcases hk with hk | hk
  ·exact h.gx (e▸hq.px k hk)
  ·rw[e,h.top] at ho;cases ho;exact hk.ne0 rfl (by decide)
 ·obtain⟨cur,ho2⟩:=cZ h.rm.row e;rcases hk with hk | hk
  ·exact h.rm.off k e (hq.px k hk)
  ·rw[ho] at ho2;cases ho2;exact hk.ne0 rfl (by decide)
end
theorem mrt {p:Prop} (h:p:=by
 rw[List.mem_singleton.1 hy] at hk2;obtain⟨q,hq⟩:=h.nd x hx;have hlt:=hq.hx k (hq.px k hk);rcases ha.nw k hk2 with q | q
 ·exact q
 ·omega):p:=h
theorem dZ {o:Oper} {a:Act} {K:Act→World→Prop} {Q:Exit→Act→World→Prop} (W:World) (s x:Operand) (t e:TypeId)
 (ho:o.op=.call { callee:=.builtin .append,args:=#[s,x],argTypes:=#[t,t] }) (i:TypeInfo) (z:Value) (size bytes:Nat) (ht:Tryz.prog.underlying t=some (.slice e)) (hi:Tryz.prog.info? e=some i) (hz:i.zero=some z)
 (hsize:i.size=size) (hby:i.bytes=bytes) (hzs:z.cells.size=size) (hsz:0<size) (hb9:bytes≤128)
 (v:Value) (n:Nat) (xs:List Value) (hs:a.eval s=v) (hown:Hid (W.ownsRow 0 e size v n xs)) (gx:Nat) (news:List Value) (hx:a.eval x=.slice (some ⟨gx,0,none⟩) 1 1)
 (hb:Hid (W.heap[gx]? = some (.cells news.toArray e (0,0)))) (hnl:news.length=size) (h1:∀u∈news,u.oneCell'=true) (N:Nat) (hN:Hid (n+1=N)) (hn:N≤1000000)
 (h:∀g c w',Hid (w'.ownsRow 0 e size (.slice g N c) N (xs++news))→Hid (Fr (fun b _=>v.ownBlock≠some b) W w')→Hid (OwnNext W v (.slice g N c))→K (a.put o.dst (.slice g N c)) w'):o.wp Tryz.prog a W K Q:=by
 have hN':=hN;subst hN';refine gW W s x t ho 0 e i z size bytes ht hi hz hsize hby hzs hsz v n xs hs hown.out ⟨gx,0,none⟩ 1 1 news hx (by rw[hnl,Nat.one_mul]) (fun j u hj=>?_) h1 (by unfold maxLen;omega) ?_ (Nat.zero_le _) fun v' w' h2 h3 h4=>?_
 ·have e1:((⟨gx,0,none⟩:Addr).add j)=⟨gx,j,none⟩:=by
   unfold Addr.add;split
   ·subst j;rfl
   ·simp
  rw[e1];exact bQ hb.out (by simpa using hj)
 ·have:=Nat.mul_le_mul hn hb9;omega
 ·obtain⟨g,c,rfl⟩:=bz h2;exact h g c w' h2 (.of_grown h3 fun k o e _ hk=>hk e) h4
section
variable {ops:Array Oper} {rest:List Oper} {o:Oper} {a:Act} {Q:Exit→Act→World→Prop}
end
section
variable {X X3 P3:Nat→Prop} {w w3 w':World} {G:Nat} {l:List Nx} {ms:List MV} {many:Int} {c:GV} {b:Nat} {n:Nd}
theorem Grp.more [Old] [bj] (h:Grp X w G l ms many c) (ha:Aft X (fun _=>False) X3 P3 w w3) (hx3:∀k,X3 k→k<w3.heap.size):Grp X3 w3 G l ms many c:=by
 have f:FT w w3:=ha.fr.mono fun _ _ _ h=>h
 have h1:=h.tt f;have off:∀{k o},w.heap[k]? = some o→¬X k→¬X3 k:=fun ho hk=>(ha.off ho hk).2
 have row:∀{e:TypeId} {s:Nat} {v:Value} {n:Nat} {xs:List Value},w.ownsRow 0 e s v n xs→(∀k,v.ownBlock=some k→¬X k)→∀k,v.ownBlock=some k→¬X3 k:=fun hr hk k e=>by obtain⟨cur,ho⟩:=cZ hr e;exact off ho (hk k e)
 obtain⟨xs,r1⟩:=h.rs;obtain⟨xt,r2⟩:=h.rt;obtain⟨xl,r3⟩:=h.rl;exact⟨h1.top,off h.top h.gx,h1.rn,row h.rn h.xn,h.rm.aft ha,h1.rs,row r1 h.xs,h1.rt,row r2 h.xt,h1.rl,row r3 h.xl,fun x hx=>(h.nd x hx).far ha (fun _ _ h=>h) hx3,h.dj,hx3,Nat.le_trans h.sz f.size⟩
theorem Grp.add [Old] [bj] (h:Grp X w G l ms many c) (ha:Aft X (fun _=>False) X3 P3 w w3) (hp:PN X3 P3 w3 b n) {vn':Value} (hf:Fr (fun k _=>k≠G∧c.vn.ownBlock≠some k) w3 w') (ht:w'.heap[G]? = some (.cells (W6g { c with vn:=vn' } many) 111 (0,0)))
 (hr:w'.ownsRow 0 34 1 vn' (l.length+1) (l.map ptrB++[.pointer (some ⟨b,0,none⟩)])) (hn:OwnNext w3 c.vn vn'):Grp X3 w' G (l++[⟨b,n,P3⟩]) ms many { c with vn:=vn' }:=by
 obtain⟨q0,hq0⟩:=hp;have h3:=h.more ha hq0.hx
 have tg:∀{e:TypeId} {s:Nat} {v:Value} {n:Nat} {xs:List Value},w3.ownsRow 0 e s v n xs→e≠111→e≠34→w'.ownsRow 0 e s v n xs:=fun hr h1 h2=>bK hr hf fun k o e ho=>⟨fun hk=>by
  obtain⟨cur,ho'⟩:=cZ hr e;rw[hk,h3.top] at ho';cases ho';exact h1 rfl,fun hk=>by
  obtain⟨cur,ho'⟩:=cZ hr e;obtain⟨cur2,ho2⟩:=cZ h3.rn hk;rw[ho'] at ho2;cases ho2;exact h2 rfl⟩
 have kn:∀{P:Nat→Prop} {b:Nat} {n:Nd} {q:NV},PNs X3 P w3 b n q→PNs X3 P w' b n q:=fun hq=>hq.frK hf fun k o ho hk=>⟨fun e=>by
  rcases hk with hk | hk
  ·exact h3.gx (e▸hq.px k hk)
  ·rw[e,h3.top] at ho;cases ho;exact hk.ne0 rfl (by decide),fun e=>by
  obtain⟨cur,ho2⟩:=cZ h3.rn e;rcases hk with hk | hk
  ·exact h3.xn k e (hq.px k hk)
  ·rw[ho] at ho2;cases ho2;exact hk.ne0 rfl (by decide)⟩
 have hmm:OwnMs X3 0 w' c.vm ms:=by
  refine⟨tg h3.rm.row (by decide) (by decide),h3.rm.off,fun m hm'=>(h3.rm.at' m hm').keep hf fun k o ho hr=>⟨fun e=>?_,fun e=>?_⟩⟩
  ·rw[e,h3.top] at ho;cases ho;exact hr.ne0 rfl (by decide)
  ·obtain⟨cur,ho2⟩:=cZ h3.rn e;rw[ho] at ho2;cases ho2;exact hr.ne0 rfl (by decide)
 obtain⟨xs,r1⟩:=h3.rs;obtain⟨xt,r2⟩:=h3.rt;obtain⟨xl,r3⟩:=h3.rl;refine⟨ht,h3.gx,by rw[List.length_append,List.map_append];exact hr,fun k e hx=>?_,hmm,⟨xs,tg r1 (by decide) (by decide)⟩,h3.xs,⟨xt,tg r2 (by decide) (by decide)⟩,h3.xt,⟨xl,tg r3 (by decide) (by decide)⟩,h3.xl,fun x hx=>?_,?_,fun k hk=>Nat.lt_of_lt_of_le (h3.hx k hk) hf.size,Nat.le_trans h3.sz hf.size⟩
 ·rcases hn with q | ⟨j,q,hj⟩
  ·have e':vn'.ownBlock=some k:=e;rw[q] at e';exact h3.xn k e' hx
  ·have e':vn'.ownBlock=some k:=e;rw[q] at e';cases e';have:=h3.hx k hx;omega
 ·rcases List.mem_append.1 hx with hx | hx
  ·obtain⟨q,hq⟩:=h3.nd x hx;exact⟨q,kn hq⟩
  ·rw[List.mem_singleton.1 hx];exact⟨q0,kn hq0⟩
 ·refine List.pairwise_append.2 ⟨h3.dj,List.pairwise_singleton _ _,fun x hx y hy k hk hk2=>?_⟩;exact mrt
end
def cfN (many:Nat):List Int:=(List.range many).map fun(i:Nat)=>(i:Int)
theorem d7 (many:Nat):(cfN many).length=many:=by unfold cfN;simp
theorem Hv (k:Nat):cfN (k+1)=cfN k++[(k:Int)]:=by unfold cfN;rw[List.range_succ,List.map_append];rfl
structure Low (K:Nat→Prop) (X:Nat→Prop) (G:Nat) (c:GV):Prop where
 g:¬K G
 x:∀k,X k→¬K k
 n:∀k,c.vn.ownBlock=some k→¬K k
 m:∀k,c.vm.ownBlock=some k→¬K k
 s:∀k,c.vs.ownBlock=some k→¬K k
 t:∀k,c.vt.ownBlock=some k→¬K k
 l:∀k,c.vl.ownBlock=some k→¬K k
 b:∀q,K q→q<c.sz
theorem Low.more [Old] [bj] {K:Nat→Prop} {X:Nat→Prop} {w:World} {G:Nat} {l:List Nx} {ms:List MV} {many:Int} {c:GV} (h:Low K X G c) (hg:Grp X w G l ms many c) (s:Nat) (hs:w.heap.size≤s):Low (fun q=>K q∨(w.heap.size≤q∧q<s)) X G { c with sz:=s }:=by
 have out:∀k,¬K k→k<w.heap.size→¬(K k∨(w.heap.size≤k∧k<s)):=fun k h1 h2 q=>q.elim h1 fun q=>by omega
 have own:∀{e:TypeId} {sz:Nat} {v:Value} {n:Nat} {xs:List Value},w.ownsRow 0 e sz v n xs→∀k,v.ownBlock=some k→k<w.heap.size:=fun hr k e=>by obtain⟨cur,hc⟩:=cZ hr e;exact bX hc
 obtain⟨_,r1⟩:=hg.rs;obtain⟨_,r2⟩:=hg.rt;obtain⟨_,r3⟩:=hg.rl;exact⟨out _ h.g (bX hg.top),fun k e=>out k (h.x k e) (hg.hx k e),fun k e=>out k (h.n k e) (own hg.rn k e),fun k e=>out k (h.m k e) (own hg.rm.row k e),fun k e=>out k (h.s k e) (own r1 k e),fun k e=>out k (h.t k e) (own r2 k e),fun k e=>out k (h.l k e) (own r3 k e),fun q e=>e.elim (fun e=>Nat.lt_of_lt_of_le (h.b q e) (Nat.le_trans hg.sz hs)) fun e=>e.2⟩
theorem mYN {p:Prop} (h:p:=by
 obtain⟨⟨xs,h1⟩,h2⟩:=h.ts x hx;exact⟨⟨xs,rw' h1 (by decide)⟩,h2⟩):p:=h
theorem mb9 {p:Prop} (h:p:=by
 exact zZ l i _ h.rd (fun j hj hji=>hrd j i hj hi hji) (fun j hj hji=>hrd i j hi hj hji)):p:=h
theorem mt9 {p:Prop} (h:p:=by
 obtain⟨j,hj,e⟩:=List.mem_iff_getElem.1 hx;rw[List.length_set] at hj;rw[List.getElem_set] at e;by_cases hij:i=j
 ·rw[if_pos hij] at e;exact e▸h2
 ·rw[if_neg hij] at e;exact e▸h1 j hj (Ne.symm hij)):p:=h
structure Rx where
 b:Nat
 rb:Nat
 n:Nd
 ap:Nat
 P:Nat→Prop
abbrev ptrR (x:Rx):Value:=.pointer (some ⟨x.rb,0,none⟩)
structure G13 [Old] (B:Nat) (X:Nat→Prop) (w:World) (G:Nat) (l:List Rx) (ms:List MV) (tk:List (Value×Nat)) (many:Int) (vn vm vt:Value):Prop where
 top:w.heap[G]? = some (.cells #[vn,vm,vt,.int .i64 many] 66 (0,0))
 lg:B≤G
 lx:∀k,X k→B≤k
 gx:¬X G
 rn:w.ownsRow B 73 1 vn l.length (l.map ptrR)
 xn:∀k,vn.ownBlock=some k→¬X k
 rm:OwnMs X B w vm ms
 rt:w.ownsRow B 80 1 vt tk.length (tk.map Prod.fst)
 xt:∀k,vt.ownBlock=some k→¬X k
 tl:tk.length=l.length
 ts:∀x∈tk,(∃xs,w.ownsRow B 87 4 x.1 x.2 xs)∧∀k,x.1.ownBlock=some k→¬X k
 td:tk.Pairwise fun x y=>∀k,x.1.ownBlock=some k→y.1.ownBlock≠some k
 nd:∀x∈l,PN X x.P w x.b x.n
 dj:l.Pairwise fun x y=>∀k,x.P k→¬y.P k
 rb:∀x∈l,RB w x.rb x.b x.ap∧¬X x.rb∧B≤x.rb
 rd:l.Pairwise fun x y=>x.rb≠y.rb
 hx:∀k,X k→k<w.heap.size
theorem jx {w:World} {B B':Nat} {e e':TypeId} {s s':Nat} {v v':Value} {n n':Nat} {xs xs':List Value} (h:w.ownsRow B e s v n xs) (h':w.ownsRow B' e' s' v' n' xs') (he:e≠e') {k:Nat} (hk:v.ownBlock=some k):v'.ownBlock≠some k:=fun hk'=>by
 obtain⟨c1,h1⟩:=cZ h hk;obtain⟨c2,h2⟩:=cZ h' hk';rw[h1] at h2;cases h2;exact he rfl
theorem cX {w:World} {B:Nat} {e:TypeId} {s:Nat} {v:Value} {n:Nat} {xs:List Value} {G:Nat} {cs:Array Value} {t:TypeId} {fz:Nat×Nat} (h:w.ownsRow B e s v n xs) (ht:w.heap[G]? = some (.cells cs t fz)) (he:e≠t):v.ownBlock≠some G:=fun hk=>by
 obtain⟨c1,h1⟩:=cZ h hk;rw[h1] at ht;cases ht;exact he rfl
section
variable {B:Nat} {X X' P':Nat→Prop} {w w':World} {G:Nat} {l:List Rx} {ms:List MV} {tk:List (Value×Nat)} {many:Int} {vn vm vt:Value}
theorem PN.keep [Old] [bj] {P:Nat→Prop} {b:Nat} {n:Nd} (h:PN X P w b n) {K:Nat→Obj→Prop} (hf:Fr K w w') (hk:∀c o,w.heap[c]? = some o→X c∨RO X c o→K c o):PN X P w' b n:=by
 obtain⟨q,h⟩:=h;exact⟨q,h.frK hf fun c o ho hc=>hk c o ho (hc.imp (h.px c) id)⟩
theorem mw [Old] [bj] {B':Nat} {e:TypeId} {s:Nat} {v:Value} {n:Nat} {xs:List Value} (h:w.ownsRow B' e s v n xs) (he:roT e=false) (hx:∀k,v.ownBlock=some k→¬X k):∀c o,w.heap[c]? = some o→X c∨RO X c o→v.ownBlock≠some c:=fun c o ho hc hk=>by
 rcases hc with hc | hc
 ·exact hx c hk hc
 ·obtain⟨c1,h1⟩:=cZ h hk;rw[ho] at h1;cases h1;exact hc.ne0 rfl he
theorem dq [Old] [bj] {G:Nat} {cs:Array Value} {t:TypeId} {fz:Nat×Nat} (h:w.heap[G]? = some (.cells cs t fz)) (he:roT t=false) (hx:¬X G):∀c o,w.heap[c]? = some o→X c∨RO X c o→c≠G:=fun c o ho hc hk=>by
 subst hk;rcases hc with hc | hc
 ·exact hx hc
 ·rw[ho] at h;cases h;exact hc.ne0 rfl he
theorem G13.bs [Old] (h:G13 B X w G l ms tk many vn vm vt):B≤w.heap.size:=Nat.le_of_lt (Nat.lt_of_le_of_lt h.lg (bX h.top))
theorem G13.tt [Old] [bj] (h:G13 B X w G l ms tk many vn vm vt) (f:FT w w'):G13 B X w' G l ms tk many vn vm vt:=
 ⟨f.keep _ _ h.top trivial,h.lg,h.lx,h.gx,bK h.rn f fun _ _ _ _=>trivial,h.xn,h.rm.tt f,bK h.rt f fun _ _ _ _=>trivial,h.xt,h.tl,fun x hx=>by
  obtain⟨⟨xs,h1⟩,h2⟩:=h.ts x hx
  exact⟨⟨xs,bK h1 f fun _ _ _ _=>trivial⟩,h2⟩,h.td,fun x hx=>(h.nd x hx).tt f,h.dj,fun x hx=>⟨(h.rb x hx).1.fr f fun _=>trivial,(h.rb x hx).2⟩,h.rd,fun k hk=>Nat.lt_of_lt_of_le (h.hx k hk) f.size⟩
theorem G13.turn [Old] [bj] (h:G13 B X w G l ms tk many vn vm vt) (i:Nat) (hi:i<l.length) {n':Nd} (hp:PN X' P' w' l[i].b n') (ha:Aft X l[i].P X' P' w w'):G13 B X' w' G (l.set i ⟨l[i].b,l[i].rb,n',l[i].ap,P'⟩) ms tk many vn vm vt:=by
 obtain⟨q,hq⟩:=hp;have hx':=hq.hx;have off:∀{k o},w.heap[k]? = some o→¬X k→¬l[i].P k∧¬X' k:=fun ho hk=>ha.off ho hk
 have row:∀{e:TypeId} {s:Nat} {v:Value} {n:Nat} {xs:List Value},w.ownsRow B e s v n xs→(∀k,v.ownBlock=some k→¬X k)→w'.ownsRow B e s v n xs∧∀k,v.ownBlock=some k→¬X' k:=fun hr hk=>⟨bK hr ha.fr fun k o e ho=>(off ho (hk k e)).1,fun k e=>by obtain⟨cur,ho⟩:=cZ hr e;exact(off ho (hk k e)).2⟩
 have e1:(l.set i ⟨l[i].b,l[i].rb,n',l[i].ap,P'⟩).map ptrR=l.map ptrR:=by rw[List.map_set];exact mMo
 have each:∀{Q:Rx→Prop},(∀j,(hj:j<l.length)→j≠i→Q l[j])→Q ⟨l[i].b,l[i].rb,n',l[i].ap,P'⟩→∀x∈l.set i ⟨l[i].b,l[i].rb,n',l[i].ap,P'⟩,Q x:=fun h1 h2 x hx=>by exact mt9
 have hdj:=List.pairwise_iff_getElem.1 h.dj;have hrd:=List.pairwise_iff_getElem.1 h.rd;have rb':∀x∈l,RB w' x.rb x.b x.ap∧¬X' x.rb∧B≤x.rb:=fun x hx=>⟨ha.fr.keep _ _ (h.rb x hx).1 (off (h.rb x hx).1 (h.rb x hx).2.1).1,(off (h.rb x hx).1 (h.rb x hx).2.1).2,(h.rb x hx).2.2⟩
 have old:∀j,(hj:j<l.length)→∀k,l[j].P k→k<w.heap.size:=fun j hj k hk=>by obtain⟨q2,hq2⟩:=h.nd _ (List.getElem_mem hj);exact hq2.hx k (hq2.px k hk)
 refine⟨ha.fr.keep _ _ h.top (off h.top h.gx).1,h.lg,fun k hk=>?_,(off h.top h.gx).2,?_,(row h.rn h.xn).2,h.rm.aft ha,(row h.rt h.xt).1,(row h.rt h.xt).2,by rw[List.length_set];exact h.tl,fun x hx=>?_,h.td,?_,?_,?_,?_,hx'⟩
 ·rcases(ha.xx k).1 hk with q | q
  ·exact h.lx k q
  ·rcases ha.nw k q with q | q
   ·exact h.lx k (ha.hp k q)
   ·exact Nat.le_trans h.bs q
 ·rw[List.length_set,e1];exact(row h.rn h.xn).1
 ·obtain⟨⟨xs,h1⟩,h2⟩:=h.ts x hx;exact⟨⟨xs,(row h1 h2).1⟩,(row h1 h2).2⟩
 ·refine each (fun j hj hji=>?_) ⟨q,hq⟩;obtain⟨q2,hq2⟩:=h.nd _ (List.getElem_mem hj);refine⟨q2,hq2.far ha (fun k hk hk2=>?_) hx'⟩;exact m5F
 ·exact m4W
 ·exact each (fun j hj _=>rb' _ (List.getElem_mem hj)) (by have:=rb' _ (List.getElem_mem hi);exact this)
 ·exact mb9
theorem G13.msgs [Old] [bj] (h:G13 B X w G l ms tk many vn vm vt) {ms':List MV} {vm':Value} (hf:Fr (fun k _=>k≠G∧vm.ownBlock≠some k) w w') (ht:w'.heap[G]? = some (.cells #[vn,vm',vt,.int .i64 many] 66 (0,0))) (hr:OwnMs X B w' vm' ms'):G13 B X w' G l ms' tk many vn vm' vt:=by
 have ox:=mw h.rm.row (by decide) h.rm.off;have og:=dq h.top (by decide) h.gx;have rw':∀{e:TypeId} {s:Nat} {v:Value} {n:Nat} {xs:List Value},w.ownsRow B e s v n xs→e≠66→e≠32→w'.ownsRow B e s v n xs:=fun hv h1 h2=>bK hv hf fun k o e ho=>⟨fun hk=>cX hv h.top h1 (hk▸e),fun hk=>jx hv h.rm.row h2 e hk⟩
 refine⟨ht,h.lg,h.lx,h.gx,rw' h.rn (by decide) (by decide),h.xn,hr,rw' h.rt (by decide) (by decide),h.xt,h.tl,fun x hx=>?_,h.td,fun x hx=>(h.nd x hx).keep hf fun c o ho hc=>⟨og c o ho hc,ox c o ho hc⟩,h.dj,fun x hx=>⟨hf.keep _ _ (h.rb x hx).1 ⟨fun e=>?_,fun e=>cX h.rm.row (h.rb x hx).1 (by decide) e⟩,(h.rb x hx).2⟩,h.rd,fun k hk=>Nat.lt_of_lt_of_le (h.hx k hk) hf.size⟩
 ·obtain⟨⟨xs,h1⟩,h2⟩:=h.ts x hx;exact⟨⟨xs,rw' h1 (by decide) (by decide)⟩,h2⟩
 ·have h1:=(h.rb x hx).1;unfold RB at h1;rw[e,h.top] at h1;cases h1
theorem G13.count [Old] [bj] (h:G13 B X w G l ms tk many vn vm vt) (many':Int) (e:w.setCell ⟨G,3,none⟩ (.int .i64 many')=w'):G13 B X w' G l ms tk many' vn vm vt∧Fr (fun k _=>k≠G) w w':=by
 have f:Fr (fun k _=>k≠G) w w':=e▸(Fr.refl _ _).setCell (fun _ _ h=>h rfl) _;have og:=dq h.top (by decide) h.gx;have rw':∀{e:TypeId} {s:Nat} {v:Value} {n:Nat} {xs:List Value},w.ownsRow B e s v n xs→e≠66→w'.ownsRow B e s v n xs:=fun hv h1=>bK hv f fun k o e ho hk=>cX hv h.top h1 (hk▸e)
 refine⟨⟨by rw[←e];exact bJ (o:=3) h.top _,h.lg,h.lx,h.gx,rw' h.rn (by decide),h.xn,⟨rw' h.rm.row (by decide),h.rm.off,fun m hm=>(h.rm.at' m hm).keep f fun c o ho hr=>og c o ho (.inr hr)⟩,rw' h.rt (by decide),h.xt,h.tl,fun x hx=>?_,h.td,fun x hx=>(h.nd x hx).keep f og,h.dj,fun x hx=>⟨f.keep _ _ (h.rb x hx).1 fun e=>?_,(h.rb x hx).2⟩,h.rd,fun k hk=>Nat.lt_of_lt_of_le (h.hx k hk) f.size⟩,f⟩
 ·exact mYN
 ·have h1:=(h.rb x hx).1;unfold RB at h1;rw[e,h.top] at h1;cases h1
theorem G13.apply [Old] [bj] (h:G13 B X w G l ms tk many vn vm vt) (i:Nat) (hi:i<l.length) {ap':Nat} (hf:Fr (fun k _=>k≠l[i].rb) w w') (ht:RB w' l[i].rb l[i].b ap'):G13 B X w' G (l.set i ⟨l[i].b,l[i].rb,l[i].n,ap',l[i].P⟩) ms tk many vn vm vt:=by
 have hr:=h.rb _ (List.getElem_mem hi);have og:=dq hr.1 (by decide) hr.2.1;have rw':∀{e:TypeId} {s:Nat} {v:Value} {n:Nat} {xs:List Value},w.ownsRow B e s v n xs→e≠97→w'.ownsRow B e s v n xs:=fun hv h1=>bK hv hf fun k o e ho hk=>cX hv hr.1 h1 (hk▸e)
 have e1:(l.set i ⟨l[i].b,l[i].rb,l[i].n,ap',l[i].P⟩).map ptrR=l.map ptrR:=by rw[List.map_set];exact mMo
 have each:∀{Q:Rx→Prop},(∀j,(hj:j<l.length)→j≠i→Q l[j])→Q ⟨l[i].b,l[i].rb,l[i].n,ap',l[i].P⟩→∀x∈l.set i ⟨l[i].b,l[i].rb,l[i].n,ap',l[i].P⟩,Q x:=fun h1 h2 x hx=>by exact mt9
 have hdj:=List.pairwise_iff_getElem.1 h.dj;have hrd:=List.pairwise_iff_getElem.1 h.rd
 have hne:∀j,(hj:j<l.length)→j≠i→l[j].rb≠l[i].rb:=fun j hj hji e=>by
  rcases Nat.lt_or_ge i j with hlt | hge
  ·exact hrd i j hi hj hlt e.symm
  ·exact hrd j i hj hi (by omega) e
 refine⟨hf.keep _ _ h.top (fun e=>?_),h.lg,h.lx,h.gx,?_,h.xn,⟨rw' h.rm.row (by decide),h.rm.off,fun m hm=>(h.rm.at' m hm).keep hf fun c o ho hr=>og c o ho (.inr hr)⟩,rw' h.rt (by decide),h.xt,by rw[List.length_set];exact h.tl,fun x hx=>?_,h.td,?_,?_,?_,?_,fun k hk=>Nat.lt_of_lt_of_le (h.hx k hk) hf.size⟩
 ·have h1:=hr.1;unfold RB at h1;rw[←e,h.top] at h1;cases h1
 ·rw[List.length_set,e1];exact rw' h.rn (by decide)
 ·exact mYN
 ·exact each (fun j hj _=>(h.nd _ (List.getElem_mem hj)).keep hf og) ((h.nd _ (List.getElem_mem hi)).keep hf og)
 ·exact zZ l i _ h.dj (fun j hj hji=>hdj j i hj hi hji) (fun j hj hji=>hdj i j hi hj hji)
 ·exact each (fun j hj hji=>⟨hf.keep _ _ (h.rb _ (List.getElem_mem hj)).1 (hne j hj hji),(h.rb _ (List.getElem_mem hj)).2⟩) ⟨ht,hr.2⟩
 ·exact mb9
theorem G13.took [Old] [bj] (h:G13 B X w G l ms tk many vn vm vt) (i:Nat) (hi:i<tk.length) {v':Value} {k':Nat} (hf:Fr (fun k _=>tk[i].1.ownBlock≠some k∧vt.ownBlock≠some k) w w') (hr:∃xs,w'.ownsRow B 87 4 v' k' xs) (hn:OwnNext w tk[i].1 v') (ht:w'.ownsRow B 80 1 vt tk.length ((tk.set i (v',k')).map Prod.fst)):G13 B X w' G l ms (tk.set i (v',k')) many vn vm vt:=by
 obtain⟨⟨xi,hri⟩,hxi⟩:=h.ts _ (List.getElem_mem hi);have o1:=mw hri (by decide) hxi;have o2:=mw h.rt (by decide) h.xt;have og:∀c o,w.heap[c]? = some o→X c∨RO X c o→tk[i].1.ownBlock≠some c∧vt.ownBlock≠some c:=fun c o ho hc=>⟨o1 c o ho hc,o2 c o ho hc⟩
 have rw':∀{e:TypeId} {s:Nat} {v:Value} {n:Nat} {xs:List Value},w.ownsRow B e s v n xs→e≠87→e≠80→w'.ownsRow B e s v n xs:=fun hv h1 h2=>bK hv hf fun k o e ho=>⟨fun hk=>jx hv hri h1 e hk,fun hk=>jx hv h.rt h2 e hk⟩
 have cell:∀{g:Nat} {cs:Array Value} {t:TypeId} {fz:Nat×Nat},w.heap[g]? = some (.cells cs t fz)→t≠87→t≠80→w'.heap[g]? = some (.cells cs t fz):=fun hg h1 h2=>hf.keep _ _ hg ⟨cX hri hg (Ne.symm h1),cX h.rt hg (Ne.symm h2)⟩
 have htd:=List.pairwise_iff_getElem.1 h.td
 have own':∀k,v'.ownBlock=some k→tk[i].1.ownBlock=some k∨w.heap.size≤k:=fun k e=>by
  rcases hn with q | ⟨j,q,hj⟩
  ·rw[q] at e;exact .inl e
  ·rw[q] at e;cases e;exact .inr hj
 have lt:∀j,(hj:j<tk.length)→∀k,tk[j].1.ownBlock=some k→k<w.heap.size:=fun j hj k e=>by obtain⟨⟨xs,h1⟩,_⟩:=h.ts _ (List.getElem_mem hj);obtain⟨c1,h2⟩:=cZ h1 e;exact bX h2
 refine⟨cell h.top (by decide) (by decide),h.lg,h.lx,h.gx,rw' h.rn (by decide) (by decide),h.xn,⟨rw' h.rm.row (by decide) (by decide),h.rm.off,fun m hm=>(h.rm.at' m hm).keep hf fun c o ho hr=>og c o ho (.inr hr)⟩,by rw[List.length_set];exact ht,h.xt,by rw[List.length_set];exact h.tl,fun x hx=>?_,?_,fun x hx=>(h.nd x hx).keep hf og,h.dj,fun x hx=>⟨cell (h.rb x hx).1 (by decide) (by decide),(h.rb x hx).2⟩,h.rd,fun k hk=>Nat.lt_of_lt_of_le (h.hx k hk) hf.size⟩
 ·obtain⟨j,hj,e⟩:=List.mem_iff_getElem.1 hx;rw[List.length_set] at hj;rw[List.getElem_set] at e;by_cases hij:i=j
  ·rw[if_pos hij] at e;subst e
   exact⟨hr,fun k e hk=>by
    rcases own' k e with q | q
    ·exact hxi k q hk
    ·have:=h.hx k hk;omega⟩
  ·rw[if_neg hij] at e;subst e;obtain⟨⟨xs,h1⟩,h2⟩:=h.ts _ (List.getElem_mem hj);refine⟨⟨xs,bK h1 hf fun k o e ho=>⟨fun hk=>?_,fun hk=>jx h1 h.rt (by decide) e hk⟩⟩,h2⟩;rcases Nat.lt_or_ge i j with hlt | hge
   ·exact htd i j hi hj hlt k hk e
   ·exact htd j i hj hi (by omega) k e hk
 ·refine zZ tk i _ h.td (fun j hj hji k hk hk2=>?_) (fun j hj hji k hk hk2=>?_)
  ·rcases own' k hk2 with q | q
   ·exact htd j i hj hi hji k hk q
   ·have:=lt j hj k hk;omega
  ·rcases own' k hk with q | q
   ·exact htd i j hi hj hji k q hk2
   ·have:=lt j hj k hk2;omega
end
end Go.Proofs.YtmjccpfchhnfhaaGreat
