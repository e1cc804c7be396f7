/- Texts of the proofs, part 43: what the functions that they reach do, walked; no conditions beyond those that each states. -/
import Derived.Test.YtmjccpfchhnfhaaGreatZkc079f61d1e
import Derived.Test.YtmjccpfchhnfhaaGreatZkcb1a27b8b6
set_option linter.unusedVariables false
set_option linter.unusedSimpArgs false
set_option maxRecDepth 100000
set_option maxHeartbeats 8000000
namespace Go.Proofs.YtmjccpfchhnfhaaGreat
open Go.RowKit
def encS (x:Nat×EV):List Value:=[.int .u64 (x.1:Nat),.int .u64 (x.2.t:Nat),.int .i64 x.2.k,.slice x.2.a x.2.d.length x.2.c]
theorem encS_len (x:Nat×EV):(encS x).length=4:=rfl
theorem encS_one (x:Nat×EV):∀u∈encS x,u.oneCell'=true:=fun u hu=>by
 simp only[encS,List.mem_cons,List.not_mem_nil,or_false] at hu;rcases hu with rfl | rfl | rfl | rfl <;> rfl
def Dx (base:Nat) (es:List EV) (i:Nat):EV:=if base<i then es.getD (i-base-1) zEV else zEV
def dK (base:Nat) (es:List EV) (lo cnt:Nat):List (Nat×EV):=(List.range cnt).map fun j=>(lo+1+j,Dx base es (lo+1+j))
theorem fY (base:Nat) (es:List EV) (lo cnt:Nat):(dK base es lo cnt).length=cnt:=by unfold dK;simp
theorem sq (base:Nat) (es:List EV) (lo k:Nat):dK base es lo (k+1)=dK base es lo k++[(lo+1+k,Dx base es (lo+1+k))]:=by unfold dK;rw[List.range_succ,List.map_append];rfl
theorem JK {K:Nat→Obj→Prop} (w:World) (b bt i:Nat) (a:Option Addr) (n c:Nat) (xs:List EV) (hx:RowsAt K w (.slice a n c) 3 encE xs) (h:b+n<18446744073709551616):
 Calls Tryz.prog 91 #[vL b bt (.slice a n c),.int .u64 (i:Nat)] w fun e w'=>(∃ok,e=.returned (.tuple #[vE (Dx b xs i),.bool ok]))∧FT w w':=by
 have hn:=hx.len';by_cases hi:b<i∧i≤b+n
 ·have e:Dx b xs i=xs[i-b-1]:=by unfold Dx;rw[if_pos hi.1,List.getD_eq_getElem?_getD,List.getElem?_eq_getElem (by omega)];rfl
  rw[e];exact(sV w b bt i (i-b-1) a n c xs hx hn.symm h (by omega) (by omega)).mono fun e w' ⟨h1,h2⟩=>⟨⟨true,h1⟩,h2⟩
 ·have e:Dx b xs i=zEV:=by
   unfold Dx;split
   ·rw[List.getD_eq_getElem?_getD,List.getElem?_eq_none (by omega)];rfl
   ·rfl
  rw[e];exact(yZ w b bt i a n c h hi).mono fun e w' ⟨h1,h2⟩=>⟨⟨false,h1⟩,h2⟩
theorem G_:(Tryz.prog.info? 87).map (fun i=>(i.zero,i.size,i.bytes))=some (some (.agg #[.int .u64 0,.int .u64 0,.int .i64 0,.slice none 0 0]),4,48):=by kernel_rfl
theorem l6 {ops:Array Oper} {rest:List Oper} {o:Oper} {a:Act} {Q:Exit→Act→World→Prop} (W:World) (hgd:o.guard=none) (s x:Operand) (ho:o.op=.call { callee:=.builtin .append,args:=#[s,x],argTypes:=#[80,80] })
 (v:Value) (n:Nat) (xs:List Value) (hs:a.eval s=v) (hown:Hid (W.ownsRow 0 87 4 v n xs)) (gx:Nat) (y:Nat×EV) (hx:a.eval x=.slice (some ⟨gx,0,none⟩) 1 1)
 (hb:Hid (W.heap[gx]? = some (.cells (encS y).toArray 87 (0,0)))) (N:Nat) (hN:Hid (n+1=N)) (hn:N≤1000000)
 (h:∀g c w',Hid (w'.ownsRow 0 87 4 (.slice g N c) N (xs++encS y))→Hid (Fr (fun b _=>v.ownBlock≠some b) W w')→Hid (OwnNext W v (.slice g N c))→wpList Tryz.prog ops Q rest (a.put o.dst (.slice g N c)) w'):wpList Tryz.prog ops Q (o :: rest) a W:=by
 obtain⟨i0,hi,hz0,hz1,hz2⟩:=info_parts G_;exact wpList_plain hgd fun _ hK=>dZ W s x 80 87 ho i0 _ 4 48 Tryz.underlying80 hi hz0 hz1 hz2 rfl (by decide) (by decide) v n xs hs hown gx (encS y) hx hb rfl (encS_one y) N hN hn fun g c w' h1 h2 h3=>hK _ _ (h g c w' h1 h2 h3)
section
variable {X P:Nat→Prop} {w w':World} {b rb ap:Nat} {n:Nd} {q:NV}
def TkOut (w:World) (rb b ap:Nat) (base:Nat) (es:List EV) (commit:Nat) (e:Ending) (w':World):Prop:=
 ∃g c,e=.returned (.slice g (commit-max ap base) c)∧w'.ownsRow w.heap.size 87 4 (.slice g (commit-max ap base) c) (commit-max ap base) ((dK base es (max ap base) (commit-max ap base)).flatMap encS)∧RB w' rb b (max ap commit)∧Fr (fun k _=>k≠rb) w w'
theorem pX [Old] (h:PNs X P w b n q) (hr:RB w rb b ap) (hap:ap<9223372036854775808) (hb:n.log.base<9223372036854775808) (hcm:n.commit≤900000) (hl:n.log.last+1<18446744073709551616):
 Calls Tryz.prog 37 #[.pointer (some ⟨rb,0,none⟩)] w fun e w'=>TkOut w rb b ap n.log.base q.es n.commit e w':=by
 obtain⟨ae,ce,hve⟩:∃a c,q.ve=.slice a q.es.length c:=by obtain⟨a,c,e,_⟩:=h.ev.row.form;exact⟨a,c,e⟩
 obtain⟨le,hle⟩:=zE q.es.length;rw[hle] at hve;refine kr8 ?_;intro bs hbs bt hbt;obtain⟨cm,hcm0⟩:=zE n.commit;obtain⟨lo,hlo⟩:=zE (max ap bs);obtain⟨mx,hmx⟩:=zE (max ap cm);obtain⟨cnt,hcnt⟩:=zE (cm-lo);have hesl:n.log.es.length=le:=by rw[h.ee,List.length_map,hle]
 have LO1:Hid (max (ap:Int) (bs:Int)=(lo:Int)):=by show _=_;omega
 have MX1:Hid (max (ap:Int) (cm:Int)=(mx:Int)):=by show _=_;omega
 rw[hbs] at hb;rw[hcm0] at hcm;obtain⟨lo1,hlo1⟩:=zE (lo+1);have wl:IntKind.u64.wrap ((lo:Int)+1)=(lo1:Int):=by rw[IntKind.wrap_u64];omega
 have CC:Hid (∀W,Fr (fun _ _=>True) w W→W.cell? ⟨rb,0,none⟩=some (.pointer (some ⟨b,0,none⟩))∧W.cell? ⟨rb,1,none⟩=some (.int .u64 (ap:Nat))∧W.cell? ⟨b,7,none⟩=some (.int .u64 (cm:Nat))∧W.cell? ⟨b,8,none⟩=some (.int .u64 (bs:Nat))∧W.cell? ⟨b,9,none⟩=some (.int .u64 (bt:Nat))∧W.cell? ⟨b,10,none⟩=some (.slice ae le ce)):=fun W f=>by obtain⟨-,-,-,-,-,-,-,x7,x8,x9,x10,-,-,-⟩:=h.cells f;exact⟨bQ (f.keep _ _ hr trivial) rfl,bQ (f.keep _ _ hr trivial) rfl,by rw[x7,hcm0],by rw[x8,hbs],by rw[x9,hbt],by rw[x10,hve]⟩
 have EN:Hid (∀W,Fr (fun _ _=>True) w W→∀i:Nat,Calls Tryz.prog 91 #[.agg #[.int .u64 (bs:Nat),.int .u64 (bt:Nat),.slice ae le ce],.int .u64 (i:Nat)] W fun e w'=>(∃ok,e=.returned (.tuple #[vE (Dx bs q.es i),.bool ok]))∧Fr (fun _ _=>True) W w'):=fun W f i=>
  JK W bs bt i ae le ce q.es (hve▸h.ev.row.tt f) (by unfold Lg.last at hl;omega)
 have HR:=zH hr;obtain⟨y0,y1,y7,y8,y9,y10⟩:=CC.out w (Fr.refl _ _);have HQ:=zH (And.intro hlo (And.intro hmx (And.intro hcnt (And.intro hbs hcm0))));have hcb:cm≤900000:=hcm;have HLO1:=zH hlo1;have hlo2:=hlo;have l1:=LO1.out;clear h hr hb hl hve hle hbs hbt hcm0 hmx hesl hcm;go_enter Tryz.func37,Tryz.ntmps37
 go_wp2_with fail
 go_quiet (fail)
 have U:Hid (Fr (fun _ _=>True) w (w.drewN nq)):=(Fr.refl _ w).drewN nq;generalize w.drewN nq=w1 at U ⊢;clear y0 y1 y7 y8 y9 y10;clear l1 wl;go_wp2_with fail
 go_loopw [3,4] (fun o i wr=>∃(j:Nat) (g:Option Addr) (c a9:Nat),i=.int .u64 (a9:Nat)∧a9=lo1+j∧j≤cnt∧o=.slice g j c∧Hid (wr.ownsRow w.heap.size 87 4 (.slice g j c) j ((dK bs q.es lo j).flatMap encS))∧Hid (Fr (fun _ _=>True) w wr)) (fun _ i _=>lo1+cnt-(intOf i).toNat)
 case atStart=>exact⟨0,none,0,lo1,rfl,rfl,Nat.zero_le _,rfl,⟨rfl,.inl ⟨rfl,rfl⟩⟩,U.out⟩
 case round=>
  obtain⟨j,g,c,a9,rfl,ha9,hj,rfl,HO,HF3⟩:=hrel;have hcnt:=HQ.out.2.2.1;by_cases hlt:j<cnt
  ·have hltI:(a9:Int)≤(cm:Int):=by omega
   obtain⟨a10,ha10⟩:=zE (a9+1);have w10:IntKind.u64.wrap ((a9:Int)+1)=(a10:Int):=by rw[IntKind.wrap_u64];omega
   obtain⟨y0,y1,y7,y8,y9,y10⟩:=CC.out wr HF3.out;have EC:=zH (EN.out wr HF3.out a9);obtain⟨x,hx⟩:=zE (Dx bs q.es a9);rw[hx] at EC;have HX:=zH hx;have hj9:j≤900000:=by omega
   obtain⟨jn,hjn⟩:=zE (j+1);have HJ:=zH hjn;have HA:=zH (And.intro ha9 ha10);have hjn9:jn≤1000000:=by omega
   clear hx hcnt hjn ha9 ha10;go_wp2_with fail
   (with_reducible refine EC.out.mono ?_);rintro e w3 ⟨⟨ok,rfl⟩,f3⟩;unfold vE;have F3:=zH (HF3.out.trans f3);have HO3:Hid (w3.ownsRow w.heap.size 87 4 (.slice g j c) j ((dK bs q.es lo j).flatMap encS)):=bK HO.out f3 fun _ _ _ _=>trivial
   clear f3 EC y0 y1 y7 y8 y9 y10;obtain⟨w4,hw4⟩:=zE (w3.alloc (.cells #[.int .u64 0,.int .i64 0,.slice none 0 0] 85 (0,0)));have t4:w4.heap[w3.heap.size]? = some (.cells #[.int .u64 0,.int .i64 0,.slice none 0 0] 85 (0,0)):=hw4▸bZ _ _;have f4:Fr (fun _ _=>True) w3 w4:=hw4▸(Fr.refl _ _).alloc _;obtain⟨w5,hw5,t5,f5⟩:=set3 t4 (.int .u64 (x.t:Nat)) (.int .i64 x.k) (.slice x.a x.d.length x.c);have v0:=bQ (i:=0) t4 rfl;have v1:=bQ (i:=1) t4 rfl;have v2:=bQ (i:=2) t4 rfl;have z0:=bV (i:=0) t4;have z1:=bV (i:=1) t4;have z2:=bV (i:=2) t4;have u0:=bQ (i:=0) t5 rfl;have u1:=bQ (i:=1) t5 rfl;have u2:=bQ (i:=2) t5 rfl;have F35:Hid (Fr (fun k _=>k<w3.heap.size) w3 w5):=(f4.mono fun _ _ _=>trivial).trans (f5.mono fun k _ h e=>by have h':k<w3.heap.size:=h;omega);obtain⟨w6,hw6⟩:=zE (w5.alloc (.cells #[.int .u64 (a9:Nat),.int .u64 (x.t:Nat),.int .i64 x.k,.slice x.a x.d.length x.c] 87 (0,0)));have F36:Hid (Fr (fun k _=>k<w3.heap.size) w3 w6):=F35.out.trans (hw6▸(Fr.refl _ _).alloc _);have T6:Hid (w6.heap[w5.heap.size]? = some (.cells (encS (a9,x)).toArray 87 (0,0))):=by show w6.heap[w5.heap.size]? = _;rw[←hw6];exact bZ _ _
   have OW:Hid (w6.ownsRow 0 87 4 (.slice g j c) j ((dK bs q.es lo j).flatMap encS)):=c_ (bK HO3.out F36.out fun k o e ho=>bX ho) fun _ _=>Nat.zero_le _
   clear f4 f5 F35 t4 t5;go_wp2_with (at_builtin;(try rw[hw4]);(try rw[hw5]);(try rw[hw6]);refine l6 w6 rfl _ _ rfl (.slice g j c) j _ rfl OW w5.heap.size (a9,x) rfl T6 jn HJ hjn9 ?_)
   intro g7 c7 w7 O7 F7 N7;clear hw4 hw5 hw6 v0 v1 v2 z0 z1 z2 u0 u1 u2;have HS:Hid (w.heap.size≤w3.heap.size):=F3.out.size;have F67:Hid (Fr (fun _ _=>True) w w7):=Fr.within (((F3.out.mono fun _ _ _=>trivial:Fr (fun k _=>True∧k<w.heap.size) w w3).trans (F36.out.mono fun k _ h=>Nat.lt_of_lt_of_le h.2 HS.out)).trans (F7.out.mono fun k _ h e=>by have:=cK HO3.out k e;have:=h.2;omega))
   have O8:Hid (w7.ownsRow w.heap.size 87 4 (.slice g7 jn c7) jn ((dK bs q.es lo jn).flatMap encS)):=by
    show World.ownsRow _ _ _ _ _ _ _;rw[←HJ.out,sq,List.flatMap_append,HJ.out]
    have ea:(lo+1+j,Dx bs q.es (lo+1+j))=(a9,x):=by
     have e1:lo+1+j=a9:=by rw[HLO1.out];exact HA.out.1.symm
     rw[e1,HX.out]
    rw[ea];refine c_ (by simpa using O7.out) fun k e=>?_
    rcases N7.out with q9 | ⟨k9,q9,hk9⟩
    ·rw[q9] at e;exact cK HO3.out k e
    ·rw[q9] at e;cases e;have:=F36.out.size;have:=HS.out;omega
   clear O7 F7 N7 OW T6;go_wp2;go_roundw
   case rel=>exact⟨jn,g7,c7,a10,by go_num,by have:=HA.out;have:=HJ.out;omega,by have:=HJ.out;omega,rfl,O8.out,F67.out⟩
   case measure=>simp [intOf];have:=HA.out;omega
  ·have hge:¬(a9:Int)≤(cm:Int):=by omega
   have hjc:j=cnt:=by omega
   subst hjc;obtain⟨y0,y1,y7,y8,y9,y10⟩:=CC.out wr HF3.out;clear hcnt;go_wp2_with fail
   clear y0 y1 y7 y8 y9 y10;refine wpR [(50,0),(51,1),(52,2),(53,3),(54,4),(55,5),(56,6),(57,7),(58,8),(59,9),(60,10),(61,11),(62,12),(63,13),(64,14)] [(0,[]),(1,[]),(2,[1]),(3,[2]),(4,[3]),(5,[]),(6,[5]),(7,[6]),(8,[7]),(9,[8]),(10,[9]),(11,[10]),(12,[4,11])] (ckR [(0,.pointer (some ⟨rb,0,none⟩)),(1,.pointer (some ⟨rb,0,none⟩)),(2,.pointer (some ⟨rb,0,none⟩)),(3,.pointer (some ⟨rb,1,none⟩)),(4,.int .u64 (ap:Nat)),(5,.pointer (some ⟨rb,0,none⟩)),(6,.pointer (some ⟨rb,0,none⟩)),(7,.pointer (some ⟨rb,0,none⟩)),(8,.pointer (some ⟨b,0,none⟩)),(9,.pointer (some ⟨b,0,none⟩)),(10,.pointer (some ⟨b,7,none⟩)),(11,.int .u64 (cm:Nat)),(12,.int .u64 (mx:Nat))] [] 13 0) 3 rfl ?cfall ?cfend
   case cfall=>
    iterate 12
     refine bY.q rfl rfl rfl (kQQ ?_) ?_
     ·intro xs W HF K' hK;obtain⟨y0,y1,y7,y8,y9,y10⟩:=CC.out W (HF3.out.trans ((Fr.refl (fun _ _=>True) wr).drew.trans HF.out));exact mr9
    refine bY.p rfl rfl (kPP ?_) ?_
    ·intro xs W HF K' hK;obtain⟨y0,y1,y7,y8,y9,y10⟩:=CC.out W (HF3.out.trans ((Fr.refl (fun _ _=>True) wr).drew.trans HF.out));(try simp only[gA,gB,gC]);have MX:=MX1.out;exact m52
    exact m36
   case cfend=>
    refine kEE ?_;intro xs W HF;have FW:Hid (Fr (fun _ _=>True) w W):=HF3.out.trans ((Fr.refl (fun _ _=>True) wr).drew.trans HF.out);have OW:Hid (W.ownsRow w.heap.size 87 4 (.slice g j c) j ((dK bs q.es lo j).flatMap encS)):=bK HO.out ((Fr.refl (fun _ _=>True) wr).drew.trans HF.out) fun _ _ _ _=>trivial
    have RW:Hid (RB W rb b ap):=HR.out.fr FW.out fun _=>trivial
    have x1:=bQ (i:=1) RW.out rfl;have z1:=bV (i:=1) RW.out;obtain⟨W9,hW9⟩:=zE (W.setCell ⟨rb,1,none⟩ (.int .u64 (mx:Nat)));have F9:Hid (Fr (fun k _=>k≠rb) W W9):=hW9▸(Fr.refl _ _).setCell (fun _ _ h=>h rfl) _;have R9:Hid (RB W9 rb b mx):=by show W9.heap[rb]? = _;rw[←hW9];exact bJ (o:=1) RW.out _
    refine wpN 13 rfl fun K' hK=>?_
    (try simp only[gA,gB,gC]);go_simp;refine hK.out _ _ ?_;clear hK K';refine wpN 14 rfl fun K' hK=>?_
    (try simp only[gA,gB,gC]);go_simp;refine hK.out _ _ ?_;clear hK K';refine wpN 15 rfl fun K' hK=>?_
    (try simp only[gA,gB,gC]);go_simp;refine hK.out _ _ ?_;clear hK K';refine wpF ?_
    try rw[hW9]
    clear hW9 x1 z1;go_wp2;go_ret;have e1:=HQ.out.2.2.2.1;have e2:=HQ.out.2.2.2.2;have e3:=HQ.out.1;have e4:=HQ.out.2.2.1;have e5:=HQ.out.2.1;rw[e1,e2];unfold TkOut;rw[e3,e4,e5];refine⟨g,c,rfl,bK OW.out F9.out fun k o e ho hk=>cX OW.out RW.out (by decide) (hk▸e),R9.out,(FW.out.mono fun _ _ _=>trivial).trans F9.out⟩
end
section
variable {X:Nat→Prop} {w w':World} {b rb ap:Nat} {n n':Nd} {q q':DV}
theorem ry [Old] (h:DNs X w b n q) (hr:RD w rb b ap) (hod:∀c,Old.o c→c<w.heap.size) (hcf:0<n.conf.length∧n.conf.length≤12) (mN:Nat) (hme:n.me=(mN:Nat)) (hm16:mN<16) (hb:Bn 4611686018427387904 n) (hle:n.log.es.length≤100000):
 Calls Tryz.prog 32 #[.pointer (some ⟨rb,0,none⟩)] w fun e w'=>gQ X w b n.timeout e w':=by
 have b1:=hb.tm;have b2:=hb.last;have A1:=Nd.askF_b hb;have A2:=Nd.askF_log n;have A3:=Nd.askF_len n;have A4:=(Nd.askF_up n).conf;have OD:=zH hod;have H:=zH h;have HR:=zH hr;have AC:=zH (D_ h hcf mN hme hm16 (by omega) (by omega) (by omega))
 have BD:Hid (n.askF.2.length≤10000∧n.askF.1.conf.length≤1000∧(∀y∈n.askF.1.next,y<18446744073709551616)∧n.askF.1.log.last+1<18446744073709551616∧n.askF.1.log.es.length≤900000):=
  ⟨by have:=hcf.2;omega,by rw[A4];have:=hcf.2;omega,fun y hy=>by have:=A1.1.nx y hy;omega,by have:=A1.1.last;omega,by omega⟩
 obtain⟨ro,hro⟩:=zE n.role;obtain⟨hd,hhd⟩:=zE n.heard;obtain⟨r,hrr⟩:=zE n.timeout;obtain⟨ra,hra⟩:=zE n.askF
 have EQ:Hid (r=if ro=3 then(n,[]) else if hd=true then({ n with heard:=false },[]) else if ra.1.role=3 then(ra.1,ra.2++ra.1.beat) else ra):=by
  show r=_;rw[←hrr,←hhd,←hra,←hro];unfold Nd.timeout;by_cases h3:n.role=3
  ·rw[if_pos h3,if_pos h3]
  ·rw[if_neg h3,if_neg h3];split
   ·rfl
   ·unfold Nd.led;by_cases h4:n.askF.1.role=3
    ·rw[if_pos ⟨h4,.inl h3⟩,if_pos h4]
    ·rw[if_neg fun e=>h4 e.1,if_neg h4]
 rw[hrr];rw[hra] at AC BD;refine k6e ?_;intro y0;obtain⟨-,-,x2,-,-,-,-,-,-,-,-,x11⟩:=h.cells (Fr.refl _ w);rw[hro] at x2;rw[hhd] at x11;clear h hr hod hcf hme hm16 hb hle b1 b2 A1 A2 A3 A4 hro hhd hrr hra;by_cases h3:ro=3
 ·subst h3;have OUT:Hid (r=(n,[])):=EQ.trans (if_pos rfl);clear EQ AC x11;go_enter Tryz.func32,Tryz.ntmps32
  go_wp2;go_ret;rw[OUT.out];exact⟨q,_,[],rfl,H,Fr.refl _ _,OwnMs.nil _ _ _,rfl⟩
 ·have g3:(ro==3)=false:=by simpa using h3
  replace EQ:Hid (r=if hd=true then({ n with heard:=false },[]) else if ra.1.role=3 then(ra.1,ra.2++ra.1.beat) else ra):=EQ.trans (if_neg h3);clear h3;cases hd with
  | true=>
   have OUT:Hid (r=({ n with heard:=false },[])):=EQ.trans (if_pos rfl);have z11:=H.free (Fr.refl _ w) 11;obtain⟨W2,hW2⟩:=zE (w.setCell ⟨b,11,none⟩ (.bool false));have hs:kV w b [(11,.bool false)]=W2:=hW2;have f2:Fr (fun c _=>c≠b) w W2:=hs▸b_ b _ w;have H2:Hid (DNs X W2 b { n with heard:=false } q):=H.own1 (v:=.bool false) f2 _ hs rfl rfl rfl rfl ⟨H.nl,H.ml⟩;have F2:=zH f2;clear EQ AC f2 hs;go_enter Tryz.func32,Tryz.ntmps32
   go_wp2
   try rw[hW2]
   go_ret;rw[OUT.out];exact⟨q,_,[],rfl,H2,F2,OwnMs.nil _ _ _,rfl⟩
  | false=>
   replace EQ:Hid (r=if ra.1.role=3 then(ra.1,ra.2++ra.1.beat) else ra):=EQ.trans (if_neg (by decide))
   have HX:Hid (rb≠b):=fun e=>by have h1:=H.top;have h2:w.heap[rb]? = _:=HR;rw[e,h1] at h2;cases h2
   go_enter Tryz.func32,Tryz.ntmps32
   go_wp2_with fail
   (with_reducible refine AC.out.mono ?_);rintro e w2 ⟨q2,v,mvs,rfl,h2,f2,o2,e2⟩;have H2:=zH h2;have F2:=zH f2;have O2:=zH o2;have E2:=zH e2;obtain⟨ga,ca,hva⟩:=bz o2.row;subst hva;obtain⟨k2,hk2⟩:=zE mvs.length;have lm2:k2≤10000:=by have:=BD.out.1;rw[←e2,List.length_map] at this;omega
   have K2:=zH hk2;have R2:Hid (RD w2 rb b ap):=HR.fr f2 fun _=>HX
   clear x2 x11 y0 g3;have y0:w2.cell? ⟨rb,0,none⟩=some (.pointer (some ⟨b,0,none⟩)):=bQ R2 rfl;obtain⟨-,-,x2,-,-,-,-,-,-,-,-,-⟩:=h2.cells (Fr.refl _ w2);obtain⟨ro2,hro2⟩:=zE ra.1.role;rw[hro2] at x2 EQ;have BC:=zH (kj h2 BD.2.1 BD.2.2.1 BD.2.2.2.1 BD.2.2.2.2);rw[hk2];clear AC h2 f2 o2 e2 hk2 hro2;by_cases h4:ro2=3
   ·subst h4;have OUT:Hid (r=(ra.1,ra.2++ra.1.beat)):=EQ.trans (if_pos rfl);clear EQ;go_wp2_with fail
    (with_reducible refine BC.out.mono ?_);rintro e w3 ⟨⟨v3,mv2,rfl,o3,e4⟩,f3⟩;obtain⟨gb,cb,hvb⟩:=bz o3.row;subst hvb
    have OW:Hid (w3.ownsRow 0 32 10 (.slice ga k2 ca) mvs.length (mvs.flatMap encM)):=by have:=c_ (O2.out.tt f3).row (fun _ _=>Nat.zero_le _);rw[K2.out] at this ⊢;exact this
    have RW:=zH o3.rows;have lb:mv2.length≤20000:=by rw[←List.length_map (f:=MV.ms),e4];exact Nat.le_trans (Nd.beat_len _) (by have:=BD.out.2.1;omega)
    refine kSm ?_;intro kb hkb k4 hN HN hn HH
    have OA:Hid (OwnMs X w.heap.size w3 (.slice ga k2 ca) mvs):=by have:=O2.out.tt f3;rw[K2.out] at this;exact this
    rw[hkb] at RW ⊢;clear BC y0 x2 o3 e4 f3 hkb hN lb lm2;go_wp2_with (at_builtin;refine dX w3 rfl _ _ rfl (.slice ga k2 ca) mvs rfl OW (.slice gb kb cb) mv2 rfl RW k4 HN hn ?_)
    intro g4 c4 W4 O5 F5 N5;have DC:=zH (gQ.app (H2.out.tt HH.out.2.2) (F2.out.trans (HH.out.2.2.tT)) OA.out HH.out.1 E2.out HH.out.2.1 OD.out (by rw[HN.out,List.flatMap_append];exact O5.out) F5.out N5.out);clear O5 F5 N5 OW RW;go_wp2;go_ret;rw[OUT.out];exact⟨_,_,_,rfl,DC.1,DC.2.1,DC.2.2.1,DC.2.2.2⟩
   ·have OUT:Hid (r=ra):=EQ.trans (if_neg h4);have g4:(ro2==3)=false:=by simpa using h4
    clear EQ h4 BC;go_wp2;go_ret;rw[OUT.out];exact⟨_,_,_,rfl,H2.out,F2.out,by have:=O2.out;rw[K2.out] at this;exact this,E2.out⟩
def TdOut (w:World) (rb b ap:Nat) (base:Nat) (es:List EV) (commit:Nat) (e:Ending) (w':World):Prop:=
 ∃g c,e=.returned (.slice g (commit-max ap base) c)∧w'.ownsRow w.heap.size 88 4 (.slice g (commit-max ap base) c) (commit-max ap base) ((dK base es (max ap base) (commit-max ap base)).flatMap encS)∧RD w' rb b (max ap commit)∧Fr (fun k _=>k≠rb) w w'
theorem info_tok:(Tryz.prog.info? 88).map (fun i=>(i.zero,i.size,i.bytes))=some (some (.agg #[.int .u64 0,.int .u64 0,.int .i64 0,.slice none 0 0]),4,48):=by kernel_rfl
theorem l5 {ops:Array Oper} {rest:List Oper} {o:Oper} {a:Act} {Q:Exit→Act→World→Prop} (W:World) (hgd:o.guard=none) (s x:Operand) (ho:o.op=.call { callee:=.builtin .append,args:=#[s,x],argTypes:=#[82,82] })
 (v:Value) (n:Nat) (xs:List Value) (hs:a.eval s=v) (hown:Hid (W.ownsRow 0 88 4 v n xs)) (gx:Nat) (y:Nat×EV) (hx:a.eval x=.slice (some ⟨gx,0,none⟩) 1 1)
 (hb:Hid (W.heap[gx]? = some (.cells (encS y).toArray 88 (0,0)))) (N:Nat) (hN:Hid (n+1=N)) (hn:N≤1000000)
 (h:∀g c w',Hid (w'.ownsRow 0 88 4 (.slice g N c) N (xs++encS y))→Hid (Fr (fun b _=>v.ownBlock≠some b) W w')→Hid (OwnNext W v (.slice g N c))→wpList Tryz.prog ops Q rest (a.put o.dst (.slice g N c)) w'):wpList Tryz.prog ops Q (o :: rest) a W:=by
 obtain⟨i0,hi,hz0,hz1,hz2⟩:=info_parts info_tok;exact wpList_plain hgd fun _ hK=>dZ W s x 82 88 ho i0 _ 4 48 Tryz.underlying82 hi hz0 hz1 hz2 rfl (by decide) (by decide) v n xs hs hown gx (encS y) hx hb rfl (encS_one y) N hN hn fun g c w' h1 h2 h3=>hK _ _ (h g c w' h1 h2 h3)
theorem Dj [Old] (h:DNs X w b n q) (hr:RD w rb b ap) (hap:ap≤900000) (hcm:n.commit≤900000) (hl:n.log.last≤900000) (hcl:n.commit≤n.log.last):
 Calls Tryz.prog 38 #[.pointer (some ⟨rb,0,none⟩)] w fun e w'=>TdOut w rb b ap n.log.base q.es n.commit e w':=by
 obtain⟨ae,ce,hve⟩:∃a c,q.ve=.slice a q.es.length c:=by obtain⟨a,c,e,_⟩:=h.ev.row.form;exact⟨a,c,e⟩
 obtain⟨le,hle⟩:=zE q.es.length;rw[hle] at hve;obtain⟨bs,hbs⟩:=zE n.log.base;obtain⟨cm,hcm0⟩:=zE n.commit;obtain⟨lo,hlo⟩:=zE (max ap bs);obtain⟨mx,hmx⟩:=zE (max ap cm);have hesl:n.log.es.length=le:=by rw[h.ee,List.length_map,hle]
 have hla:bs+le≤900000:=by unfold Lg.last at hl;omega
 have hcl2:cm≤bs+le:=by unfold Lg.last at hcl;omega
 rw[hcm0] at hcm
 have CC:Hid (∀W,Fr (fun _ _=>True) w W→W.cell? ⟨rb,0,none⟩=some (.pointer (some ⟨b,0,none⟩))∧W.cell? ⟨rb,1,none⟩=some (.int .u64 (ap:Nat))∧W.cell? ⟨b,7,none⟩=some (.int .u64 (cm:Nat))∧W.cell? ⟨b,8,none⟩=some (.int .u64 (bs:Nat))∧W.cell? ⟨b,10,none⟩=some (.slice ae le ce)):=fun W f=>by obtain⟨-,-,-,-,-,-,-,x7,x8,-,x10,-⟩:=h.cells f;exact⟨bQ (f.keep _ _ hr trivial) rfl,bQ (f.keep _ _ hr trivial) rfl,by rw[x7,hcm0],by rw[x8,hbs],by rw[x10,hve]⟩
 have EN:Hid (∀k,k<le→∃bx off,ae=some ⟨bx,off,none⟩∧∃x:EV,Dx bs q.es (bs+1+k)=x∧∀W,Fr (fun _ _=>True) w W→W.cell? ⟨bx,off+k*3,none⟩=some (.int .u64 (x.t:Nat))∧W.cell? ⟨bx,off+k*3+1,none⟩=some (.int .i64 x.k)∧W.cell? ⟨bx,off+k*3+2,none⟩=some (.slice x.a x.d.length x.c)):=fun k hk=>by
  have row:=h.ev.row;rw[hve] at row;have hkx:k<q.es.length:=by omega
  obtain⟨bx,off,_,e0,_,_,hc1⟩:=row.spot (by omega);refine⟨bx,off,e0,_,rfl,fun W f=>?_⟩
  have e:Dx bs q.es (bs+1+k)=q.es[k]:=by unfold Dx;rw[if_pos (by omega),show bs+1+k-bs-1=k by omega,List.getD_eq_getElem?_getD,List.getElem?_eq_getElem hkx];rfl
  rw[e];obtain⟨u1,u2,u3⟩:=RowsAt.e3 (K:=fun _ _=>True) hc1 k hkx;exact⟨f.cell (fun _ _=>trivial) u1,f.cell (fun _ _=>trivial) u2,f.cell (fun _ _=>trivial) u3⟩
 have HR:=zH hr;have HQ:=zH (And.intro hlo (And.intro hmx (And.intro hbs hcm0)));have BD:Hid (ap≤900000∧cm≤900000∧bs+le≤900000∧cm≤bs+le):=⟨hap,hcm,hla,hcl2⟩
 clear h hr hl hve hle hbs hcm0 hmx hesl hcm hcl hlo hap hla hcl2;go_enter Tryz.func38,Tryz.ntmps38
 go_wp2_with fail
 go_loopw [3,4,5] (fun o i _ wr=>∃(k j:Nat) (g:Option Addr) (c:Nat),i=.int .i64 (k:Nat)∧k≤le∧Hid (j=min (bs+k) cm-lo)∧o=.slice g j c∧Hid (wr.ownsRow w.heap.size 88 4 (.slice g j c) j ((dK bs q.es lo j).flatMap encS))∧Hid (Fr (fun _ _=>True) w wr)) (fun _ i _ _=>le-(intOf i).toNat)
 case atStart=>exact⟨0,0,none,0,rfl,Nat.zero_le _,(by have:=HQ.out.1;show 0=_;omega),rfl,⟨rfl,.inl ⟨rfl,rfl⟩⟩,Fr.refl _ _⟩
 case round=>
  obtain⟨k,j,g,c,rfl,hk,HJ,rfl,HO,HF3⟩:=hrel;by_cases hlt:k<le
  ·have hltI:(k:Int)<(le:Int):=by omega
   obtain⟨y0,y1,y7,y8,y10⟩:=CC.out wr HF3.out;obtain⟨bx,off,rfl,x,hx,EX⟩:=EN.out k hlt;obtain⟨e0,e1,e2⟩:=EX wr HF3.out;obtain⟨b1,b2,b3,b4⟩:=BD.out;obtain⟨at',hat⟩:=zE (bs+1+k);rw[hat] at hx;have w1:IntKind.u64.wrap ((bs:Int)+1)=(bs:Int)+1:=by rw[IntKind.wrap_u64];omega
   have w2:IntKind.u64.wrap (k:Int)=(k:Int):=by rw[IntKind.wrap_u64];omega
   have w3:IntKind.u64.wrap ((bs:Int)+1+(k:Int))=(at':Int):=by rw[IntKind.wrap_u64];omega
   have HX:=zH hx;have HK:=zH (And.intro hlt hat);have hlo:=HQ.out.1;have hj:=HJ.out;by_cases c1:ap<at'
   ·have c1I:(ap:Int)<(at':Int):=by omega
    by_cases c2:at'≤cm
    ·have c2I:(at':Int)≤(cm:Int):=by omega
     obtain⟨jn,hjn⟩:=zE (j+1);have HJN:=zH hjn;have hjn9:jn≤1000000:=by omega
     have HJ2:Hid (jn=min (bs+(k+1)) cm-lo∧at'=lo+1+j):=⟨by omega,by omega⟩
     obtain⟨w6,hw6⟩:=zE (wr.alloc (.cells #[.int .u64 (at':Nat),.int .u64 (x.t:Nat),.int .i64 x.k,.slice x.a x.d.length x.c] 88 (0,0)));have f6:Fr (fun _ _=>True) wr w6:=hw6▸(Fr.refl _ _).alloc _;have T6:Hid (w6.heap[wr.heap.size]? = some (.cells (encS (at',x)).toArray 88 (0,0))):=by show w6.heap[wr.heap.size]? = _;rw[←hw6];exact bZ _ _
     have OW:Hid (w6.ownsRow 0 88 4 (.slice g j c) j ((dK bs q.es lo j).flatMap encS)):=c_ (bK HO.out f6 fun _ _ _ _=>trivial) fun _ _=>Nat.zero_le _
     have F6:=zH f6;clear hx hlt hat b1 b2 b3 b4 hlo hj c1 c2 hjn f6 EX;go_wp2_with (at_builtin;(try rw[hw6]);refine l5 w6 rfl _ _ rfl (.slice g j c) j _ rfl OW wr.heap.size (at',x) rfl T6 jn HJN hjn9 ?_)
     intro g7 c7 w7 O7 F7 N7
     have O8:Hid (w7.ownsRow w.heap.size 88 4 (.slice g7 jn c7) jn ((dK bs q.es lo jn).flatMap encS)):=by
      have e:(dK bs q.es lo jn).flatMap encS=(dK bs q.es lo j).flatMap encS++encS (at',x):=by rw[←HJN.out,sq,List.flatMap_append,←HJ2.out.2,HX.out,List.flatMap_singleton]
      show World.ownsRow _ _ _ _ _ _ _;rw[e];refine c_ O7.out fun c e=>?_
      have hb:=cK HO.out;rcases N7.out with q | ⟨m,q,hm⟩
      ·rw[q] at e;exact hb c e
      ·rw[q] at e;cases e;have:=HF3.out.size;have:=F6.out.size;omega
     have F8:Hid (Fr (fun _ _=>True) w w7):=by have hb:=cK HO.out;have f:=HF3.out.trans F6.out;exact⟨F7.out.os.trans f.os,F7.out.tape.trans f.tape,F7.out.output.trans f.output,Nat.le_trans f.size F7.out.size,fun c o ho hp=>F7.out.keep c o (f.keep c o ho trivial) fun e=>by have:=hb c e;have:=bX ho;omega⟩
     have J3:Hid (jn=min (bs+(k+1)) cm-lo):=HJ2.out.1;have hle9:le≤900000:=by have:=BD.out;omega
     clear hw6 O7 F7 N7 OW T6 y0 y1 y7 y8 y10 e0 e1 e2;go_wp2;go_roundw
     case rel=>exact⟨k+1,jn,g7,c7,by go_num,HK.out.1,J3.out,rfl,O8.out,F8.out⟩
     case measure=>simp [intOf];have:=HK.out.1;omega
    ·have c2I:¬(at':Int)≤(cm:Int):=by omega
     have J3:Hid (j=min (bs+(k+1)) cm-lo):=by show _=_;omega
     clear hx hlt hat b1 b2 b4 hlo hj c1 c2 e0 e1 e2 EX;go_wp2;go_roundw
     case rel=>exact⟨k+1,j,g,c,by go_num,HK.out.1,J3.out,rfl,HO.out,HF3.out⟩
     case measure=>simp [intOf];have:=HK.out.1;omega
   ·have c1I:¬(ap:Int)<(at':Int):=by omega
    have J3:Hid (j=min (bs+(k+1)) cm-lo):=by show _=_;omega
    clear hx hlt hat b1 b2 b4 hlo hj c1 e0 e1 e2 EX;go_wp2;go_roundw
    case rel=>exact⟨k+1,j,g,c,by go_num,HK.out.1,J3.out,rfl,HO.out,HF3.out⟩
    case measure=>simp [intOf];have:=HK.out.1;omega
  ·obtain rfl:k=le:=by omega
   have hge:¬(k:Int)<(k:Int):=by omega
   obtain⟨y0,y1,y7,y8,y10⟩:=CC.out wr HF3.out;have hj2:j=cm-lo:=by have:=HJ.out;have:=BD.out;omega
   subst hj2;clear hlt;go_wp2_with fail
   go_quiet (fail)
   have U:Hid (Fr (fun _ _=>True) wr (wr.drewN nq)):=(Fr.refl _ wr).drewN nq;generalize wr.drewN nq=w9 at U ⊢;have F9:=zH (HF3.out.trans U.out);have O9:Hid (w9.ownsRow w.heap.size 88 4 (.slice g (cm-lo) c) (cm-lo) ((dK bs q.es lo (cm-lo)).flatMap encS)):=bK HO.out U.out fun _ _ _ _=>trivial
   clear y0 y1 y7 y8 y10;obtain⟨y0,y1,y7,y8,y10⟩:=CC.out w9 F9.out;have R9:Hid (RD w9 rb b ap):=HR.out.fr F9.out fun _=>trivial
   by_cases c1:ap<cm
   ·have c1I:(ap:Int)<(cm:Int):=by omega
    have z1:w9.frozen? ⟨rb,1,none⟩=false:=bV R9.out;obtain⟨w10,hw10⟩:=zE (w9.setCell ⟨rb,1,none⟩ (.int .u64 (cm:Nat)));have f10:Fr (fun k _=>k≠rb) w9 w10:=hw10▸(Fr.refl _ _).setCell (fun _ _ h=>h rfl) _;have R10:Hid (RD w10 rb b cm):=by show _=_;rw[←hw10];exact bJ (o:=1) R9.out _
    have F10:Hid (Fr (fun k _=>k≠rb) w w10):=(F9.out.mono fun _ _ _=>trivial).trans f10;have M1:Hid (max ap cm=cm):=by show _=_;omega
    have O10:Hid (w10.ownsRow w.heap.size 88 4 (.slice g (cm-lo) c) (cm-lo) ((dK bs q.es lo (cm-lo)).flatMap encS)):=bK O9.out f10 fun m o hm ho e=>by have:=cK O9.out m hm;have:=bX HR.out;omega
    clear f10 c1;go_wp2
    try rw[hw10]
    go_ret;obtain⟨h1,h2,h3,h4⟩:=HQ.out;unfold TdOut;rw[h3,h4,h1,M1.out];exact⟨g,c,rfl,O10.out,R10.out,F10.out⟩
   ·have c1I:¬(ap:Int)<(cm:Int):=by omega
    have M1:Hid (max ap cm=ap):=by show _=_;omega
    have F10:Hid (Fr (fun k _=>k≠rb) w w9):=F9.out.mono fun _ _ _=>trivial
    clear c1;go_wp2;go_ret;obtain⟨h1,h2,h3,h4⟩:=HQ.out;unfold TdOut;rw[h3,h4,h1,M1.out];exact⟨g,c,rfl,O9.out,R9.out,F10.out⟩
end
end Go.Proofs.YtmjccpfchhnfhaaGreat
