/- Texts of the proofs, part 34: what the functions that they reach do, walked; no conditions beyond those that each states. -/
import Derived.Test.YtmjccpfchhnfhaaGreatZk1bc5bcbb0b
import Derived.Test.YtmjccpfchhnfhaaGreatZkea94fd0571
import Derived.Test.YtmjccpfchhnfhaaGreatZk2497dfd836
import Derived.Test.YtmjccpfchhnfhaaGreatZk26cd9f9f9e
set_option linter.unusedVariables false
set_option linter.unusedSimpArgs false
set_option maxRecDepth 100000
set_option maxHeartbeats 8000000
namespace Go.Proofs.YtmjccpfchhnfhaaGreat
open Go.RowKit
theorem m3l {p:Prop} (h:p:=by
 go_enter Tryz.func51,Tryz.ntmps51
 go_wp2
 try rw[hW1]
 go_ret;exact NO.out _ _ (qw (by rw[HQ.out.1];omega) (by rw[HQ.out.2.1,HQ.out.2.2];omega)) F1.out):p:=h
theorem mYV {p:Prop} (h:p:=by
 go_enter Tryz.func51,Tryz.ntmps51
 go_wp2
 try rw[hW1]
 go_ret;exact NO.out _ _ (Bw (by rw[HQ.out.1];omega)) F1.out):p:=h
theorem mgh {p:Prop} (h:p:=by
 go_wp2;go_ret;exact NO.out _ _ (CE0.out.trans ((if_neg N24.out).trans (if_pos ⟨m.es[j]'(by have:=HE.out.2;omega),List.getElem_mem _,by rw[HKK.out];omega⟩))) (F1.out.trans HF6.out)):p:=h
theorem mvJ {p:Prop} (h:p:=by
 go_enter Tryz.func51,Tryz.ntmps51
 go_wp2
 try rw[hW1]
 go_ret;exact NO.out _ _ (Bv (by rw[HQ.out.1];omega) (by rw[HQ.out.2.1,HQ.out.2.2];omega) (by rw[HE.out.1,HE.out.2];omega)) F1.out):p:=h
theorem LV [Old] {X:Nat→Prop} (w:World) (m:MV) (hm:MsAt X w m):
 Calls Tryz.prog 51 #[.agg (cM m)] w fun e w'=>e=.returned (.int .i64 (tz m.ms))∧FT w w':=by
 obtain⟨W1,hW1,F1,X1⟩:=xv w m;obtain⟨v0,v1,v2,v3,v4,v5,v6,v7,v8,v9⟩:=bq X1;have HM:=zH (hm.tt F1);obtain⟨kd,hkd⟩:=zE m.kind;obtain⟨sr,hsr⟩:=zE m.src;obtain⟨ds,hds⟩:=zE m.dst;obtain⟨dl,hdl⟩:=zE m.d.length;obtain⟨el,hel⟩:=zE m.es.length;obtain⟨ea,hea⟩:=zE m.ea;obtain⟨ec,hec⟩:=zE m.ec;have RW:=zH HM.es.row;rw[hea,hec,hel] at RW;rw[hkd] at v0;rw[hsr] at v1;rw[hds] at v2;rw[hdl] at v8;rw[hea,hec,hel] at v9;have HE:=zH (And.intro hdl hel);have HQ:=zH (And.intro hkd (And.intro hsr hds));unfold cM at hW1 ⊢;have NO:Hid (∀(c:Int) (wx:World),tz m.ms=c→FT w wx→Ending.returned (.int .i64 c)=.returned (.int .i64 (tz m.ms))∧FT w wx):=fun c wx hc f=>⟨by rw[hc],f⟩
 have CE:Hid (∀k (hk:k<m.es.length),0<el→∃be oe,ea=some ⟨be,oe,none⟩∧∀W,FT W1 W→W.cell? ⟨be,oe+k*3+1,none⟩=some (.int .i64 m.es[k].k)∧W.cell? ⟨be,oe+k*3+2,none⟩=some (.slice m.es[k].a m.es[k].d.length m.es[k].c)):=fun k hk h0=>by
  obtain⟨a',c',e,hcc,h1⟩:=RW;cases e;rcases h1 with h1 | ⟨be,oe,o,ha,ho,hkk,hc⟩
  ·rw[h1] at hk;cases hk
  ·exact⟨be,oe,ha,fun W f=>⟨f.cell (fun _ _=>trivial) (hc k hk 1 _ rfl),f.cell (fun _ _=>trivial) (hc k hk 2 _ rfl)⟩⟩
 have XX:=zH X1;have VV:Hid (∀W,FT W1 W→W.cell? ⟨w.heap.size,9,none⟩=some (.slice ea el ec)):=fun W f=>f.cell (fun _ _=>trivial) v9
 clear hm hkd hsr hds hdl hel hea hec v3 v4 v5 v6 v7;by_cases c0:kd<1
 ·exact mYV
 ·skip
  by_cases c1:12<kd
  ·exact mYV
  ·skip
   by_cases c2:sr<0
   ·exact m3l
   ·skip
    by_cases c3:15<sr
    ·exact m3l
    ·skip
     by_cases c4:ds<0
     ·exact m3l
     ·skip
      by_cases c5:15<ds
      ·exact m3l
      ·skip
       by_cases c6:(700:Int)<(dl:Int)
       ·exact mvJ
       ·skip
        by_cases c7:(8:Int)<(el:Int)
        ·exact mvJ
        ·skip
         go_enter Tryz.func51,Tryz.ntmps51
         go_wp2
         try rw[hW1]
         have CE0:Hid (tz m.ms=if ∃x∈m.es,24<x.d.length then 2 else if ∃x∈m.es,x.k<0∨255<x.k then 30 else 0):=(chkM_e (by rw[HQ.out.1];omega) (by rw[HQ.out.2.1,HQ.out.2.2];omega) (by rw[HE.out.1,HE.out.2];omega))
         clear hW1 v0 v1 v2 v8 c0 c1 c2 c3 c4 c5;go_loopw [3] (fun v3 wr=>∃k:Nat,v3=.int .i64 (k:Nat)∧k≤el∧Hid (∀i (hi:i<m.es.length),i<k→m.es[i].d.length≤24)∧Hid (FT W1 wr)) (fun v3 _=>el-(intOf v3).toNat)
         case atStart=>exact⟨0,rfl,Nat.zero_le _,(fun _ _ h=>by omega),Fr.refl _ _⟩
         case round=>
          obtain⟨k,rfl,hk,HN3,HF3⟩:=hrel;have u9:=VV wr HF3;by_cases hlt:k<el
          ·have hltI:(k:Int)<(el:Int):=by omega
           obtain⟨be,oe,rfl,CK⟩:=CE.out k (by have:=HE.out.2;omega) (by omega);obtain⟨-,p2⟩:=CK wr HF3;obtain⟨dk,hdk⟩:=zE ((m.es[k]'(by have:=HE.out.2;omega)).d.length);obtain⟨da,hda⟩:=zE ((m.es[k]'(by have:=HE.out.2;omega)).a);obtain⟨dc,hdc⟩:=zE ((m.es[k]'(by have:=HE.out.2;omega)).c);rw[hdk,hda,hdc] at p2;have HDK:=zH hdk;clear hdk hda hdc CK;by_cases h24:(24:Int)<(dk:Int)
           ·go_wp2;go_ret;exact NO.out _ _ (CE0.out.trans (if_pos ⟨m.es[k]'(by have:=HE.out.2;omega),List.getElem_mem _,by rw[HDK.out];omega⟩)) (F1.out.trans HF3.out)
           ·go_wp2;go_roundw
            case rel=>exact⟨k+1,by go_num,by omega,fun i hi hik=>by
             by_cases e:i=k
             ·subst e;have:=HDK.out;omega
             ·exact HN3.out i hi (by omega),HF3.out⟩
            case measure=>simp [intOf];omega
          ·have hge:¬(k:Int)<(el:Int):=by omega
           have N24:Hid (¬ ∃x∈m.es,24<x.d.length):=fun⟨x,hx,h⟩=>by obtain⟨i,hi,rfl⟩:=List.mem_iff_getElem.1 hx;have:=HN3.out i hi (by have:=HE.out.2;omega);omega
           obtain⟨w5,rfl⟩:∃Y,Y=wr:=⟨_,rfl⟩
           go_wp2;clear u9;go_loopw [4] (fun v4 wr=>∃k:Nat,v4=.int .i64 (k:Nat)∧k≤el∧Hid (∀i (hi:i<m.es.length),i<k→0≤m.es[i].k∧m.es[i].k≤255)∧Hid (FT W1 wr)) (fun v4 _=>el-(intOf v4).toNat)
           case atStart=>exact⟨0,rfl,Nat.zero_le _,(fun _ _ h=>by omega),HF3.out⟩
           case round=>
            obtain⟨j,rfl,hj,HN6,HF6⟩:=hrel;have u9:=VV wr HF6;by_cases hlj:j<el
            ·have hljI:(j:Int)<(el:Int):=by omega
             obtain⟨be,oe,rfl,CK⟩:=CE.out j (by have:=HE.out.2;omega) (by omega);obtain⟨p1,-⟩:=CK wr HF6;obtain⟨kk,hkk⟩:=zE ((m.es[j]'(by have:=HE.out.2;omega)).k);rw[hkk] at p1;have HKK:=zH hkk;clear hkk CK;by_cases hk0:kk<0
             ·exact mgh
             ·by_cases hk1:255<kk
              ·exact mgh
              ·go_wp2;go_roundw
               case rel=>exact⟨j+1,by go_num,by omega,fun i hi hik=>by
                by_cases e:i=j
                ·subst e;have:=HKK.out;omega
                ·exact HN6.out i hi (by omega),HF6.out⟩
               case measure=>simp [intOf];omega
            ·have hge2:¬(j:Int)<(el:Int):=by omega
             go_wp2;go_ret;exact NO.out _ _ (CE0.out.trans ((if_neg N24.out).trans (if_neg fun⟨x,hx,h⟩=>by obtain⟨i,hi,rfl⟩:=List.mem_iff_getElem.1 hx;have:=HN6.out i hi (by have:=HE.out.2;omega);omega))) (F1.out.trans HF6.out)
theorem m2N {p:Prop} (h:p:=by
 obtain⟨x0,x1,x2,x3,x4,x5,x6,x7,x8,x9,x10,x11⟩:=h.cells (F1.trans f);exact⟨by rw[x0,hme],by rw[x6,htm]⟩):p:=h
section
variable {X:Nat→Prop} {w w':World} {b:Nat} {n n':Nd} {q q':DV}
def gQ [Old] (X:Nat→Prop) (w:World) (b:Nat) (r:Nd×List Ms) (e:Ending) (w':World):Prop:=
 ∃q' v mvs,e=.returned v∧DNs X w' b r.1 q'∧Fr (fun c _=>c≠b) w w'∧OwnMs X w.heap.size w' v mvs∧mvs.map MV.ms=r.2
theorem DNs.own1 [Old] (h:DNs X w b n q) (hf:Fr (fun c _=>c≠b) w w') {v:Value} (l:List (Nat×Value)) (hw:kV w b l=w') (ht:(l.foldl (fun c q=>c.setIfInBounds q.1 q.2) (W44 n q))=W44 n' q) (hc:n'.conf=n.conf) (hy:n'.yes=n.yes) (he:n'.log.es=n.log.es) (ha:n'.next.length=16∧n'.mat.length=16):DNs X w' b n' q:=
 h.re hf (by rw[←hw,←ht];exact bw l h.top) ⟨hc,rfl⟩ (by rw[hy];exact h.ye.aft (h.own hf)) ⟨by rw[he];exact h.ee,h.ev.aft (h.own hf)⟩ ha
theorem r7 [Old] (h:DNs X w b n q) (m:MV) (hm:MsAt X w m) (hk5:m.kind≠5) (hix:m.index+m.es.length+1<18446744073709551616) (hes:m.es.length≤400000) (hl:n.log.last+1<18446744073709551616) (hle:n.log.es.length≤400000):
 Calls Tryz.prog 11 #[.pointer (some ⟨b,0,none⟩),.agg (cM m)] w fun e w'=>gQ X w b (n.onAppend m.ms) e w':=by
 refine kRB ?_;intro W1 hW1 F1 g0 hg0 X1 H HG0 gb;obtain⟨k,hk⟩:=zE m.kind;refine kM5 ?_;intro v0;have k5:(k==5)=false:=by rw[←hk];simpa using hk5
 have k5':(k != 5)=true:=by rw[bne,k5];rfl
 have E:Hid (n.onAppend m.ms=(n,[])):=if_pos hk5;unfold cM at hW1 ⊢;clear h hk hk5 hm hix hes hl hle;go_enter Tryz.func11,Tryz.ntmps11
 go_wp2
 try rw[hW1]
 go_ret;rw[E.out];exact⟨q,_,[],rfl,H.tt F1,F1.tT,OwnMs.nil _ _ _,rfl⟩
theorem r6 [Old] (h:DNs X w b n q) (m:MV) (hm:MsAt X w m) (hk5:m.kind=5) (hlt:m.tm<n.tm) (hix:m.index+m.es.length+1<18446744073709551616) (hes:m.es.length≤400000) (hl:n.log.last+1<18446744073709551616) (hle:n.log.es.length≤400000):
 Calls Tryz.prog 11 #[.pointer (some ⟨b,0,none⟩),.agg (cM m)] w fun e w'=>gQ X w b (n.onAppend m.ms) e w':=by
 refine kRB ?_;intro W1 hW1 F1 g0 hg0 X1 H HG0 gb;refine k0u ?_;intro me hme tm htm s hs mt hmt ix hixx pv hpv mc hmc HL
 have CC:Hid (∀W,FT W1 W→W.cell? ⟨b,0,none⟩=some (.int .i64 me)∧W.cell? ⟨b,6,none⟩=some (.int .u64 (tm:Nat))):=fun W f=>by exact m2N
 have V0:∀W:World,W.heap[g0]? = some (.cells (cM m) 32 (0,0))→W.cell? ⟨g0,1,none⟩=some (.int .i64 s)∧W.cell? ⟨g0,3,none⟩=some (.int .u64 (mt:Nat))∧W.cell? ⟨g0,4,none⟩=some (.int .u64 (ix:Nat))∧W.cell? ⟨g0,5,none⟩=some (.int .u64 (pv:Nat))∧W.cell? ⟨g0,6,none⟩=some (.int .u64 (mc:Nat))∧W.cell? ⟨g0,9,none⟩=some (.slice m.ea m.es.length m.ec):=fun W t=>by exact moh
 have VH:=zH V0;have v0:W1.cell? ⟨g0,0,none⟩=some (.int .i64 5):=by rw[←hk5];exact(bq X1.out).1
 have v3:=(V0 W1 X1).2.1;have y6:=(CC W1 (Fr.refl _ _)).2;have gl:decide (mt<tm)=true:=by rw[←hmt,←htm];exact decide_eq_true hlt
 have E:Hid (n.onAppend m.ms=(n,[{ zMs with kind:=6,src:=me,dst:=s,index:=ix,tm:=tm }])):=by exact maS
 unfold cM at hW1 ⊢;clear hk5 hlt hix hes hl hle h hme htm hs hmt hixx hpv hmc hm V0;go_enter Tryz.func11,Tryz.ntmps11
 go_wp2_with fail
 try rw[hW1]
 try rw[HG0.out]
 clear hW1 hg0;go_quiet (fail)
 clear y6 v3 gl v0;have UQ:Hid (FT W1 (W1.drewN nq)):=(Fr.refl _ W1).drewN nq;generalize W1.drewN nq=W2 at UQ ⊢;have F2:=zH (F1.trans UQ);have H2:=zH (H.tt F2);have MX2:Hid (W2.heap[g0]? = some (.cells (cM m) 32 (0,0))):=UQ.keep _ _ X1 trivial;have UD:Hid (FT W2 W2.drew):=(Fr.refl _ _).drew;go_wp2_with fail
 refine wpR [(19,0),(20,1),(21,2),(22,3),(23,4),(24,5),(25,6),(26,7),(27,8),(28,9),(29,10),(30,11),(31,12),(32,13),(4,14)] [(0,[]),(1,[0]),(2,[1]),(3,[2]),(4,[]),(5,[4]),(6,[]),(7,[6]),(8,[7]),(9,[8]),(10,[]),(11,[10]),(12,[3,5,9,11])] (ckR [(0,.pointer (some ⟨b,0,none⟩)),(1,.pointer (some ⟨b,0,none⟩)),(2,.pointer (some ⟨b,0,none⟩)),(3,.int .i64 me),(4,.pointer (some ⟨g0,1,none⟩)),(5,.int .i64 s),(6,.pointer (some ⟨b,0,none⟩)),(7,.pointer (some ⟨b,0,none⟩)),(8,.pointer (some ⟨b,6,none⟩)),(9,.int .u64 (tm:Nat)),(10,.pointer (some ⟨g0,4,none⟩)),(11,.int .u64 (ix:Nat)),(12,.agg #[.int .i64 6,.int .i64 me,.int .i64 s,.int .u64 (tm:Nat),.int .u64 (ix:Nat),.int .u64 0,.int .u64 0,.bool false,.slice none 0 0,.slice none 0 0])] [] 13 0) 2 rfl ?cfall ?cfend
 case cfall=>
  iterate 13
   refine bY.q rfl rfl rfl (kQQ ?_) ?_
   ·intro xs W HF K' hK;obtain⟨y0,y6⟩:=CC W (UQ.trans (UD.trans HF));obtain⟨v1,v3,v4,v5,v6,v9⟩:=VH W ((UD.trans HF).keep _ _ MX2 trivial);exact mD8
  exact m36
 case cfend=>
  refine kEE ?_;intro xs W HF;have F3:=zH (F2.trans (UD.trans HF));have H3:=zH (H.tt F3);refine wpN 13 rfl fun K' hK=>?_
  skip
  go_simp;refine hK _ _ ?_;clear hK K';refine wpN 14 rfl fun K' hK=>?_
  skip
  go_simp;refine hK _ _ ?_;clear hK K';refine wpF ?_;go_wp2;go_ret;rw[E.out];exact⟨q,_,[⟨6,me,s,tm,ix,0,0,false,none,0,[],none,0,[]⟩],rfl,(H3).tt ((Fr.refl _ W).alloc _),(F3.tT).alloc _,(OwnMs.one ⟨6,me,s,tm,ix,0,0,false,none,0,[],none,0,[]⟩ (H3).hx ⟨BytesAt.nil _ _,EsAt.nil _ _⟩).lo F3.size,rfl⟩
end
def RD (W:World) (rb b ap:Nat):Prop:=W.heap[rb]? = some (.cells #[.pointer (some ⟨b,0,none⟩),.int .u64 (ap:Nat)] 78 (0,0))
theorem RD.fr {K:Nat→Obj→Prop} {W W':World} {rb b ap:Nat} (h:RD W rb b ap) (f:Fr K W W') (hk:∀o,K rb o):RD W' rb b ap:=f.keep _ _ h (hk _)
section
variable {X:Nat→Prop} {w w':World} {b rb ap:Nat} {n n':Nd} {q q':DV}
theorem zk [Old] (h:DNs X w b n q) (hr:RD w rb b ap) (m:MV) (hm:MsAt X w m):
 Calls Tryz.prog 88 #[.pointer (some ⟨rb,0,none⟩),.agg (cM m)] w fun e w'=>e=.returned (.int .i64 (n.right m.ms))∧Fr (fun _ _=>True) w w':=by
 obtain⟨W1,hW1,F1,X1⟩:=xv w m;have CK:=zH (LV W1 m (hm.tt F1.out));obtain⟨c,hc⟩:=zE (tz m.ms);rw[hc] at CK;obtain⟨kd,hkd⟩:=zE m.kind;obtain⟨s,hs⟩:=zE m.src;obtain⟨d,hd⟩:=zE m.dst;obtain⟨t3,ht3⟩:=zE m.tm;obtain⟨t4,ht4⟩:=zE m.index;obtain⟨t5,ht5⟩:=zE m.prev;obtain⟨t6,ht6⟩:=zE m.commit;obtain⟨me,hme⟩:=zE n.me;obtain⟨r,hrr⟩:=zE (n.right m.ms)
 have EQ:Hid (r=if c≠0 then c else if d≠me∨s=me then 31 else if 6<kd then 30 else if 1152921504606846976≤max (max (max t3 t4) t5) t6 then 1 else 0):=by exact mjc
 rw[hrr]
 have CC:Hid (∀W,Fr (fun _ _=>True) W1 W→W.cell? ⟨rb,0,none⟩=some (.pointer (some ⟨b,0,none⟩))∧W.cell? ⟨b,0,none⟩=some (.int .i64 me)∧W.cell? ⟨w.heap.size,0,none⟩=some (.int .i64 kd)∧W.cell? ⟨w.heap.size,1,none⟩=some (.int .i64 s)∧W.cell? ⟨w.heap.size,2,none⟩=some (.int .i64 d)∧W.cell? ⟨w.heap.size,3,none⟩=some (.int .u64 (t3:Nat))∧W.cell? ⟨w.heap.size,4,none⟩=some (.int .u64 (t4:Nat))∧W.cell? ⟨w.heap.size,5,none⟩=some (.int .u64 (t5:Nat))∧W.cell? ⟨w.heap.size,6,none⟩=some (.int .u64 (t6:Nat))):=fun W f=>by exact mbl
 obtain⟨v0,v1,v2,v3,v4,v5,v6,v7,v8,v9⟩:=bq X1.out;dsimp only[cM] at CK;unfold cM at hW1 ⊢;clear h hr hm hc hkd hs hd ht3 ht4 ht5 ht6 hme hrr;go_enter Tryz.func88,Tryz.ntmps88
 go_wp2_with fail
 try rw[hW1]
 clear hW1;(with_reducible refine CK.out.mono ?_);rintro e w2 ⟨rfl,f2⟩;have F2:=zH f2;clear f2 CK v0 v1 v2 v3 v4 v5 v6 v7 v8 v9;by_cases hc0:c=0
 case neg=>exact mTS
 case pos=>
  subst hc0;replace EQ:Hid (r=if d≠me∨s=me then 31 else if 6<kd then 30 else if 1152921504606846976≤max (max (max t3 t4) t5) t6 then 1 else 0):=EQ.out.trans (if_neg (fun e=>e rfl));obtain⟨y0,y1,v0,v1,v2,v3,v4,v5,v6⟩:=CC.out w2 F2.out
  have C:Hid ((d != me)=true∨(d != me)=false∧(s==me)=true∨(d != me)=false∧(s==me)=false):=by show _∨_;by_cases e1:d=me <;> by_cases e2:s=me <;> simp [e1,e2]
  have BAD:Hid (((d != me)=true∨(s==me)=true)→r=31):=fun e=>EQ.out.trans (if_pos (by simpa using e))
  have GOOD:Hid ((d != me)=false→(s==me)=false→r=if 6<kd then 30 else if 1152921504606846976≤max (max (max t3 t4) t5) t6 then 1 else 0):=fun e1 e2=>EQ.out.trans (if_neg (by exact mkq))
  clear EQ;rcases C.out with c1 | ⟨c1,c2⟩ | ⟨c1,c2⟩
  ·have OUT:=zH (BAD.out (.inl c1));exact m53
  ·have OUT:=zH (BAD.out (.inr c2));exact m53
  ·have EQ:=zH (GOOD.out c1 c2);clear C BAD GOOD v3 v4 v5 v6;go_wp2_with fail
   go_quiet (fail)
   have U:Hid (Fr (fun _ _=>True) w2 (w2.drewN nq)):=(Fr.refl _ w2).drewN nq;generalize w2.drewN nq=w3 at U ⊢;clear y0 y1 v0 v1 v2;obtain⟨-,-,v0,-,-,v3,v4,v5,v6⟩:=CC.out w3 (F2.out.trans U.out);clear CC;by_cases hk:6<kd
   ·have OUT:Hid (r=30):=EQ.out.trans (if_pos hk);clear EQ;exact mGS
   ·replace EQ:Hid (r=if 1152921504606846976≤max (max (max t3 t4) t5) t6 then 1 else 0):=EQ.out.trans (if_neg hk);have BIG:Hid ((1152921504606846976≤t3∨1152921504606846976≤t4∨1152921504606846976≤t5∨1152921504606846976≤t6)→r=1):=fun e=>EQ.out.trans (if_pos (by omega))
    have C:Hid ((1152921504606846976:Int)≤(t3:Int)∨¬(1152921504606846976:Int)≤(t3:Int)∧(1152921504606846976:Int)≤(t4:Int)∨¬(1152921504606846976:Int)≤(t3:Int)∧¬(1152921504606846976:Int)≤(t4:Int)∧(1152921504606846976:Int)≤(t5:Int)∨¬(1152921504606846976:Int)≤(t3:Int)∧¬(1152921504606846976:Int)≤(t4:Int)∧¬(1152921504606846976:Int)≤(t5:Int)∧(1152921504606846976:Int)≤(t6:Int)∨¬(1152921504606846976:Int)≤(t3:Int)∧¬(1152921504606846976:Int)≤(t4:Int)∧¬(1152921504606846976:Int)≤(t5:Int)∧¬(1152921504606846976:Int)≤(t6:Int)):=by show _∨_;omega
    rcases C.out with d1 | ⟨d1,d2⟩ | ⟨d1,d2,d3⟩ | ⟨d1,d2,d3,d4⟩ | ⟨d1,d2,d3,d4⟩
    case' inl | inr.inl | inr.inr.inl | inr.inr.inr.inl=>
     have OUT:Hid (r=1):=BIG.out (by omega);clear EQ BIG C;go_wp2;go_ret;rw[OUT.out];exact⟨rfl,F1.out.trans (F2.out.trans U.out)⟩
    have OUT:Hid (r=0):=EQ.out.trans (if_neg (by omega));clear EQ BIG C;go_wp2;go_ret;rw[OUT.out];exact⟨rfl,F1.out.trans (F2.out.trans U.out)⟩
end
section
variable {X P:Nat→Prop} {w w':World} {b:Nat} {n n':Nd} {q q':NV}
def POut [Old] (X P:Nat→Prop) (w:World) (b:Nat) (r:Nd×Nat×Int) (e:Ending) (w':World):Prop:=(∃q',e=.returned (.tuple #[.int .u64 (r.2.1:Nat),.int .i64 r.2.2])∧PNs X P w' b r.1 q')∧Fr (fun c _=>¬P c) w w'
theorem C0 [Old] (h:PNs X P w b n q) (kind:Int) (da:Option Addr) (dc:Nat) (d:List UInt8) (hr:n.role≠3) (hd:BytesAt (RO X) w (.slice da d.length dc) d) (hcf:0<n.conf.length∧n.conf.length≤12) (hpos:∀x∈n.conf,0≤x) (mN:Nat) (hme:n.me=(mN:Nat)) (hm16:mN<16) (hl:n.log.last+2<18446744073709551616) (hle:n.log.es.length≤900000):
 Calls Tryz.prog 23 #[.pointer (some ⟨b,0,none⟩),.int .i64 kind,.slice da d.length dc] w fun e w'=>POut X P w b (n.propose kind d) e w':=by
 have E:n.propose kind d=(n,0,70):=if_pos hr;refine kpb ?_;intro x2;obtain⟨ro,hro⟩:=zE n.role;rw[hro] at x2 hr;have H:=zH h;have HE:=zH E;refine kaZ ?_;intro g1 g2;clear hr;clear h E hro hd hcf hpos hme hl hle;go_enter_defers Tryz.func23,Tryz.ntmps23
 go_wp2;(try simp only[Exit.inBlock,Exit.then]);refine⟨_,results_tmp2 rfl _ _ _,?_⟩;rw[HE.out];exact⟨⟨q,rfl,H⟩,Fr.refl _ _⟩
theorem C7 [Old] (h:PNs X P w b n q) (kind:Int) (da:Option Addr) (dc:Nat) (d:List UInt8) (hr:n.role=3) (hk:kind<1) (hd:BytesAt (RO X) w (.slice da d.length dc) d) (hcf:0<n.conf.length∧n.conf.length≤12) (hpos:∀x∈n.conf,0≤x) (mN:Nat) (hme:n.me=(mN:Nat)) (hm16:mN<16) (hl:n.log.last+2<18446744073709551616) (hle:n.log.es.length≤900000):
 Calls Tryz.prog 23 #[.pointer (some ⟨b,0,none⟩),.int .i64 kind,.slice da d.length dc] w fun e w'=>POut X P w b (n.propose kind d) e w':=by
 have E:n.propose kind d=(n,0,30):=by unfold Nd.propose;rw[if_neg (by rw[hr];decide),if_pos (.inl hk)]
 refine kpb ?_;intro x2;obtain⟨ro,hro⟩:=zE n.role;rw[hro] at x2 hr;have H:=zH h;have HE:=zH E;subst hr;clear h E hro hd hcf hpos hme hl hle;go_enter_defers Tryz.func23,Tryz.ntmps23
 go_wp2;(try simp only[Exit.inBlock,Exit.then]);refine⟨_,results_tmp2 rfl _ _ _,?_⟩;rw[HE.out];exact⟨⟨q,rfl,H⟩,Fr.refl _ _⟩
theorem C6 [Old] (h:PNs X P w b n q) (kind:Int) (da:Option Addr) (dc:Nat) (d:List UInt8) (hr:n.role=3) (hk:255<kind) (hd:BytesAt (RO X) w (.slice da d.length dc) d) (hcf:0<n.conf.length∧n.conf.length≤12) (hpos:∀x∈n.conf,0≤x) (mN:Nat) (hme:n.me=(mN:Nat)) (hm16:mN<16) (hl:n.log.last+2<18446744073709551616) (hle:n.log.es.length≤900000):
 Calls Tryz.prog 23 #[.pointer (some ⟨b,0,none⟩),.int .i64 kind,.slice da d.length dc] w fun e w'=>POut X P w b (n.propose kind d) e w':=by
 have E:n.propose kind d=(n,0,30):=by unfold Nd.propose;rw[if_neg (by rw[hr];decide),if_pos (.inr hk)]
 refine kpb ?_;intro x2;obtain⟨ro,hro⟩:=zE n.role;rw[hro] at x2 hr;have H:=zH h;have HE:=zH E;subst hr;have hk1:¬kind<1:=by omega
 clear h E hro hd hcf hpos hme hl hle;go_enter_defers Tryz.func23,Tryz.ntmps23
 go_wp2;(try simp only[Exit.inBlock,Exit.then]);refine⟨_,results_tmp2 rfl _ _ _,?_⟩;rw[HE.out];exact⟨⟨q,rfl,H⟩,Fr.refl _ _⟩
theorem DQ [Old] (h:PNs X P w b n q) (kind:Int) (da:Option Addr) (dc:Nat) (d:List UInt8) (hr:n.role=3) (hk:¬kind<1) (hk2:¬255<kind) (hdl:24<d.length) (hd:BytesAt (RO X) w (.slice da d.length dc) d) (hcf:0<n.conf.length∧n.conf.length≤12) (hpos:∀x∈n.conf,0≤x) (mN:Nat) (hme:n.me=(mN:Nat)) (hm16:mN<16) (hl:n.log.last+2<18446744073709551616) (hle:n.log.es.length≤900000):
 Calls Tryz.prog 23 #[.pointer (some ⟨b,0,none⟩),.int .i64 kind,.slice da d.length dc] w fun e w'=>POut X P w b (n.propose kind d) e w':=by
 have E:n.propose kind d=(n,0,2):=by unfold Nd.propose;rw[if_neg (by rw[hr];decide),if_neg (by omega),if_pos hdl]
 refine kpb ?_;intro x2;obtain⟨ro,hro⟩:=zE n.role;rw[hro] at x2 hr;have H:=zH h;have HE:=zH E;subst hr;have g1:decide (24<d.length)=true:=decide_eq_true hdl;have g2:(24:Int)<(d.length:Int):=by omega
 clear hdl;clear h E hro hd hcf hpos hme hl hle;go_enter_defers Tryz.func23,Tryz.ntmps23
 go_wp2;(try simp only[Exit.inBlock,Exit.then]);refine⟨_,results_tmp2 rfl _ _ _,?_⟩;rw[HE.out];exact⟨⟨q,rfl,H⟩,Fr.refl _ _⟩
theorem C9 [Old] (h:PNs X P w b n q) (kind:Int) (da:Option Addr) (dc:Nat) (d:List UInt8) (hr:n.role=3) (hk:¬kind<1) (hk2:¬255<kind) (hdl:¬24<d.length) (hd:BytesAt (RO X) w (.slice da d.length dc) d) (hcf:0<n.conf.length∧n.conf.length≤12) (hpos:∀x∈n.conf,0≤x) (mN:Nat) (hme:n.me=(mN:Nat)) (hm16:mN<16) (hl:n.log.last+2<18446744073709551616) (hle:n.log.es.length≤900000):
 Calls Tryz.prog 23 #[.pointer (some ⟨b,0,none⟩),.int .i64 kind,.slice da d.length dc] w fun e w'=>POut X P w b (n.propose kind d) e w':=by
 obtain⟨ae,le,ce,hve,hle2,hes,hlg⟩:=h.lg;refine kVx ?_;intro OUT0;refine kr8 ?_;intro bs hbs bt hbt;obtain⟨tm,htm⟩:=zE n.tm;obtain⟨bm,hbm⟩:=zE q.bm;obtain⟨km,hkm⟩:=zE q.cm;obtain⟨L,hL⟩:=zE (bs+(le+1));have hL2:n.log.last+1=L:=by unfold Lg.last;omega
 have hl2:bs+le+2<18446744073709551616:=by unfold Lg.last at hl;omega
 have CL:=zH (fun W (f:FT w W)=>(D4 W (.slice da d.length dc) d (hd.tt f) (by omega)).mono fun e w' (⟨a,c,h1,h2,h3⟩:∃a cap,e=Ending.returned (.slice a d.length cap)∧BytesAt (New W.heap.size) w' (.slice a d.length cap) d∧FT W w')=>show ∃a c,e=Ending.returned (.slice a d.length c)∧BytesAt (RO X) w' (.slice a d.length c) d∧FT W w' from⟨a,c,h1,h2.mono fun cc o ho hn=>⟨fun hx=>(by have:=h.hx cc hx;have:=f.size;have:=hn.1;omega),by obtain⟨cs,fz,e⟩:=hn.2;exact .inr ⟨cs,_,fz,e,by decide⟩⟩,h3⟩);have ADD:=zH (fun W (f:FT w W) (a:Option Addr) (c:Nat) (hb:BytesAt (RO X) W (.slice a d.length c) d)=>nk W bs bt ae le ce q.es ⟨tm,kind,a,c,d⟩ (hes W f) hb (show d.length≤9223372036854775807 by omega) (by omega) (fun cc hc=>Nat.lt_of_lt_of_le (h.hx cc hc) f.size))
 have CC:Hid (∀W,FT w W→W.cell? ⟨b,0,none⟩=some (.int .i64 (mN:Nat))∧W.cell? ⟨b,6,none⟩=some (.int .u64 (tm:Nat))∧W.cell? ⟨b,8,none⟩=some (.int .u64 (bs:Nat))∧W.cell? ⟨b,9,none⟩=some (.int .u64 (bt:Nat))∧W.cell? ⟨b,10,none⟩=some (.slice ae le ce)∧W.cell? ⟨b,13,none⟩=some (.slice (some ⟨bm,0,none⟩) 16 km)):=fun W f=>by obtain⟨x0,x1,x2,x3,x4,x5,x6,x7,x8,x9,x10,x11,x12,x13⟩:=h.cells f;exact⟨by rw[x0,hme],by rw[x6,htm],by rw[x8,hbs],by rw[x9,hbt],by rw[x10,hve],by rw[x13,hbm,hkm]⟩
 have H:=zH h;refine kpb ?_;intro x2;rw[hr] at x2;have g1:decide (24<d.length)=false:=decide_eq_false hdl;have g2:¬(24:Int)<(d.length:Int):=by omega
 refine kgb ?_;intro UD;have LAST:=zH (fun W a8 c8=>cz W bs bt a8 (le+1) c8 (by omega));rw[hL] at LAST;have HLS:=zH hL2;have HCF:=zH hcf;have HPO:=zH hpos;have HME:=zH hme;have HLL:=zH hl;have HQ:=zH (And.intro hbs (And.intro hbt (And.intro hbm (And.intro hkm htm))));have OUT:=zH OUT0;clear h hr hd hcf hpos hme hl hle hve hle2 hes hlg OUT0 hbs hbt htm hbm hkm hL hL2 hl2 hdl;dsimp only[vL] at LAST;go_enter_defers Tryz.func23,Tryz.ntmps23
 go_wp2_with fail
 refine wpR [(26,0),(27,1),(28,2),(29,3),(30,4),(31,5),(32,6),(33,7),(34,8),(35,9),(36,10),(37,11),(38,12),(39,13),(40,14),(41,15)] [(0,[]),(1,[]),(2,[1]),(3,[2]),(4,[3]),(5,[]),(6,[5]),(7,[6]),(8,[7]),(9,[]),(10,[]),(11,[10]),(12,[8,9,11]),(13,[4,12])] (ckR [(0,.pointer (some ⟨b,0,none⟩)),(1,.pointer (some ⟨b,0,none⟩)),(2,.pointer (some ⟨b,0,none⟩)),(3,.pointer (some ⟨b,8,none⟩)),(4,.agg #[.int .u64 (bs:Nat),.int .u64 (bt:Nat),.slice ae le ce]),(5,.pointer (some ⟨b,0,none⟩)),(6,.pointer (some ⟨b,0,none⟩)),(7,.pointer (some ⟨b,6,none⟩)),(8,.int .u64 (tm:Nat)),(9,.int .i64 kind),(10,.slice da d.length dc)] [(11,⟨fun v W=>∃a c,v=.slice a d.length c∧BytesAt (RO X) W (.slice a d.length c) d,fun v W W' h hf=>by obtain⟨a,c,h1,h2⟩:=h;exact⟨a,c,h1,h2.tt hf⟩⟩),(12,⟨fun v W=>∃a c,v=.agg #[.int .u64 (tm:Nat),.int .i64 kind,.slice a d.length c]∧BytesAt (RO X) W (.slice a d.length c) d,fun v W W' h hf=>by obtain⟨a,c,h1,h2⟩:=h;exact⟨a,c,h1,h2.tt hf⟩⟩),(13,⟨fun v W=>∃a' c' a c,v=.agg #[.int .u64 (bs:Nat),.int .u64 (bt:Nat),.slice a' (le+1) c']∧EsAt X W (.slice a' (le+1) c') (q.es++[⟨tm,kind,a,c,d⟩]),fun v W W' h hf=>by obtain⟨a',c',a,c,h1,h2⟩:=h;exact⟨a',c',a,c,h1,h2.tt hf⟩⟩)] 14 0) 3 rfl ?cfall ?cfend
 case cfall=>
  iterate 11
   refine bY.q rfl rfl rfl (kQQ ?_) ?_
   ·intro xs W HF K' hK;obtain⟨y0,y6,y8,y9,y10,y13⟩:=CC W (UD.trans HF);exact mD8
  refine bY.p rfl rfl (kPP ?_) ?_
  ·intro xs W HF K' hK;have CL1:=zH (CL W (UD.trans HF))
   skip
   go_simp;(with_reducible refine CL1.out.mono ?_);rintro e w8 ⟨a,c,rfl,r8,f8⟩;exact hK _ _ _ rfl f8 ⟨a,c,rfl,r8⟩
  refine bY.p rfl rfl (kPH ?_) ?_
  ·intro xs W HF hA K' hK;have h11:=hA 11 (by decide);clear hA;obtain⟨a,c,e11,r8⟩:=h11;rw[e11] at hK ⊢;clear e11
   skip
   go_simp;exact hK _ _ _ rfl (Fr.refl _ _) ⟨a,c,rfl,r8⟩
  refine bY.p rfl rfl (kPH ?_) ?_
  ·intro xs W HF hA K' hK;have h12:=hA 12 (by decide);clear hA;obtain⟨a,c,e12,r8⟩:=h12;rw[e12] at hK ⊢;have AD1:=zH (ADD W (UD.trans HF) a c r8);clear e12;dsimp only[vL,vE] at AD1
   skip
   go_simp;(with_reducible refine AD1.out.mono ?_);rintro e w8 ⟨⟨a8,c8,rfl,r9⟩,f8⟩;exact hK _ _ _ rfl f8 ⟨a8,c8,a,c,rfl,r9⟩
  exact m36
 case cfend=>
  refine kEH ?_;intro xs W HF hA;have h11:=hA (11,[10]) (by decide);have h12:=hA (12,[8,9,11]) (by decide);have h13:=hA (13,[4,12]) (by decide);clear hA;obtain⟨a8,c8,a,c,e13,r8⟩:=h13;rw[e13];have R8:=zH r8;clear e13 r8 CL ADD x2 g1 g2;have F2:=zH (UD.trans HF);have H2:=zH (H.tt F2);obtain⟨x0,x1,x2,x3,x4,x5,x6,x7,x8,x9,x10,x11,x12,x13⟩:=H2.cells (Fr.refl _ W);refine krF ?_;intro z8 z9 z10;refine wpN 14 rfl fun K' hK=>?_
  skip
  go_simp;refine hK _ _ ?_;clear hK K';refine wpN 15 rfl fun K' hK=>?_
  skip
  go_simp;refine hK _ _ ?_;clear hK K';refine wpN 16 rfl fun K' hK=>?_
  skip
  go_simp;refine hK _ _ ?_;clear hK K';refine wpF ?_;obtain⟨n2,hn2⟩:∃m:Nd,{ n with log:=n.log.add ⟨n.tm,kind,d⟩ }=m:=⟨_,rfl⟩
  obtain⟨q2,hq2⟩:∃m:NV,{ q with ve:=.slice a8 (le+1) c8,es:=q.es++[⟨tm,kind,a,c,d⟩] }=m:=⟨_,rfl⟩
  refine k7D ?_;intro W2 hW2 hW2'
  have h3:PNs X P W2 b { n with log:=n.log.add ⟨n.tm,kind,d⟩ } { q with ve:=.slice a8 (le+1) c8,es:=q.es++[⟨tm,kind,a,c,d⟩] }:=by
   rw[←hW2];refine H2.reE (b_ b _ W) ?_ ⟨rfl,rfl⟩ (.inl ⟨rfl,rfl⟩) ⟨?_,R8⟩ ⟨rfl,rfl,rfl,rfl⟩
   ·rw[←HQ.out.1,←HQ.out.2.1];exact bw _ H2.top
   ·show n.log.es++_=_;rw[List.map_append,H.out.ee,←HQ.out.2.2.2.2];rfl
  rw[hn2,hq2] at h3;have H3:=zH h3;have F3:Hid (Fr (fun c _=>¬P c) w W2):=(F2.out.tT).trans (hW2▸(b_ b _ W).mono fun c _ hc e=>hc (e▸H.out.pb));have h9:n2.me=n.me∧n2.log.base=n.log.base∧n2.log.bt=n.log.bt∧q2.ve=.slice a8 (le+1) c8∧q2.bm=q.bm∧q2.cm=q.cm:=by rw[←hn2,←hq2];exact⟨rfl,rfl,rfl,rfl,rfl,rfl⟩
  have CC2:Hid (∀W',FT W2 W'→W'.cell? ⟨b,0,none⟩=some (.int .i64 (mN:Nat))∧W'.cell? ⟨b,8,none⟩=some (.int .u64 (bs:Nat))∧W'.cell? ⟨b,9,none⟩=some (.int .u64 (bt:Nat))∧W'.cell? ⟨b,10,none⟩=some (.slice a8 (le+1) c8)∧W'.cell? ⟨b,13,none⟩=some (.slice (some ⟨bm,0,none⟩) 16 km)):=fun W' f=>by obtain⟨x0,x1,x2,x3,x4,x5,x6,x7,x8,x9,x10,x11,x12,x13⟩:=H3.cells f;exact⟨by rw[x0,h9.1,HME.out],by rw[x8,h9.2.1,HQ.out.1],by rw[x9,h9.2.2.1,HQ.out.2.1],by rw[x10,h9.2.2.2.1],by rw[x13,h9.2.2.2.2.1,h9.2.2.2.2.2,HQ.out.2.2.1,HQ.out.2.2.2.1]⟩
  have HBM:Hid (q2.bm=bm):=h9.2.2.2.2.1.trans HQ.2.2.1;have HN2:=zH hn2;have UD2:Hid (FT W2 W2.drew):=(Fr.refl _ _).drew;replace LAST:=zH (fun W=>LAST W a8 c8)
  try rw[hW2']
  clear hW2 hW2' h3 hn2 hq2 h9 x0 x1 x2 x3 x4 x5 x6 x7 x8 x9 x10 x11 x12 x13 z8 z9 z10;obtain⟨WA,hWA⟩:=zE W;rw[hWA] at HF F2 H2 R8;clear hWA;go_wp2_with fail
  refine wpR [(42,0),(43,1),(44,2),(45,3),(46,4),(47,5),(48,6),(49,7),(50,8),(51,9),(52,10),(53,11),(54,12),(55,13)] [(0,[]),(1,[0]),(2,[1]),(3,[2]),(4,[]),(5,[4]),(6,[5]),(7,[6]),(8,[]),(9,[8]),(10,[9]),(11,[10]),(12,[11])] (ckR [(0,.pointer (some ⟨b,0,none⟩)),(1,.pointer (some ⟨b,0,none⟩)),(2,.pointer (some ⟨b,13,none⟩)),(3,.slice (some ⟨bm,0,none⟩) 16 km),(4,.pointer (some ⟨b,0,none⟩)),(5,.pointer (some ⟨b,0,none⟩)),(6,.pointer (some ⟨b,0,none⟩)),(7,.int .i64 (mN:Nat)),(8,.pointer (some ⟨b,0,none⟩)),(9,.pointer (some ⟨b,0,none⟩)),(10,.pointer (some ⟨b,8,none⟩)),(11,.agg #[.int .u64 (bs:Nat),.int .u64 (bt:Nat),.slice a8 (le+1) c8]),(12,.int .u64 (L:Nat))] [] 13 0) 2 rfl ?cfall ?cfend
  case cfall=>
   iterate 12
    refine bY.q rfl rfl rfl (kQQ ?_) ?_
    ·intro xs W HF K' hK;obtain⟨y0,y8,y9,y10,y13⟩:=CC2 W (UD2.trans HF);exact mD8
   refine bY.p rfl rfl (kPP ?_) ?_
   ·intro xs W HF K' hK;obtain⟨y0,y8,y9,y10,y13⟩:=CC2 W (UD2.trans HF);have LA1:=zH (LAST W);exact mBg
   exact m36
  case cfend=>
   refine kEE ?_;intro xs W HF;have F4:=zH (UD2.trans HF);have H4:=zH (H3.tt F4);have Am:=H4.mt;rw[HBM.out] at Am;have am0:=Am.cell mN hm16;have am1:=Am.free mN;have Am2:=Am.set mN L hm16;obtain⟨WN,hWN⟩:=zE (W.setCell ⟨bm,mN,none⟩ (.int .u64 (L:Nat)));have fN:Fr (fun c _=>c≠bm) W WN:=hWN▸(Fr.refl _ _).setCell (fun _ _ h=>h rfl) _;have hm16I:((mN:Nat):Int)<16:=by omega
   refine wpN 13 rfl fun K' hK=>?_
   skip
   go_simp;refine hK _ _ ?_;clear hK K';refine wpN 14 rfl fun K' hK=>?_
   skip
   go_simp;refine hK _ _ ?_;clear hK K';refine wpF ?_
   try rw[hWN]
   have h5:PNs X P WN b { n2 with next:=n2.next,mat:=n2.mat.set mN L } q2:=H4.out.arrays (fN.mono fun c _ hc=>by rw[←HBM.out];exact hc.2) (H4.out.nx.fr fN fun _ _=>by rw[←HBM.out];exact H4.out.nm) (by rw[HBM.out,←hWN];exact Am2);have H5:=zH h5;have F5:Hid (Fr (fun c _=>¬P c) w WN):=(F3.out.trans (F4.out.tT)).trans (fN.mono fun c _ hc e=>hc (e▸(HBM.out▸H3.out.pm)));obtain⟨n3,hn3⟩:∃m:Nd,{ n2 with next:=n2.next,mat:=n2.mat.set mN L }=m:=⟨_,rfl⟩
   have HN3:Hid (({ n with log:=n.log.add ⟨n.tm,kind,d⟩,mat:=n.mat.set n.me.toNat (n.log.last+1) }:Nd)=n3):=by show _=_;rw[←hn3,←HN2.out,HLS.out,HME.out];rfl
   rw[hn3] at H5
   replace OUT:Hid (n.propose kind d=(n3.sure,L,0)):=by show _=_;rw[OUT.out,HN3.out,HLS.out]
   have hcf3:n3.conf=n.conf∧n3.log.last=L:=by rw[←HN3.out];refine⟨rfl,?_⟩;exact mUI
   have SU:Hid (∀W',FT WN W'→CallsB Tryz.prog 25 #[.pointer (some ⟨b,0,none⟩)] W' fun e w'=>e=.returned (.tuple #[])∧PNs X P w' b n3.sure q2∧Fr (fun c _=>c≠b) W' w'):=fun W' f=>yJ (H5.out.tt f) (by rw[hcf3.1];exact HCF.out) (by rw[hcf3.1];exact HPO.out) (by rw[hcf3.2,←HLS.out];have:=HLL.out;omega)
   have CC3:WN.cell? ⟨b,8,none⟩=some (.int .u64 (bs:Nat))∧WN.cell? ⟨b,9,none⟩=some (.int .u64 (bt:Nat))∧WN.cell? ⟨b,10,none⟩=some (.slice a8 (le+1) c8):=by
    have hbb:b≠bm:=fun e=>H3.out.bm_b (by rw[HBM.out,e])
    obtain⟨y0,y8,y9,y10,y13⟩:=CC2 W F4;exact⟨fN.cell (fun _ _=>hbb) y8,fN.cell (fun _ _=>hbb) y9,fN.cell (fun _ _=>hbb) y10⟩
   obtain⟨u8,u9,u10⟩:=CC3;have LA2:=zH (LAST WN);clear Am am0 am1 Am2 hWN fN h5 hn3 hcf3 LAST HBM HN2 HN3 CC2 CC hm16I;go_wp2_with fail
   (with_reducible refine LA2.out.mono ?_);rintro e w8 ⟨rfl,f8⟩;have F8:=zH f8;have SU8:=zH ((SU w8 f8).2 .returning);clear f8 LA2 SU u8 u9 u10;go_wp2;(try simp only[Exit.inBlock,Exit.then]);refine leaves_cons (f:=25) (args:=#[.pointer (some ⟨b,0,none⟩)]) (by simp) (by simp [go_sem]) ?_;refine SU8.mono ?_;rintro e u' w9 ⟨rfl,rfl,h9,f9⟩;refine⟨_,results_tmp2 rfl _ _ _,?_⟩;rw[OUT.out];exact⟨⟨q2,rfl,h9⟩,(F5.out.trans (F8.out.tT)).trans (f9.mono fun c _ hc e=>hc (e▸H.out.pb))⟩
theorem vv [Old] (h:PNs X P w b n q) (kind:Int) (da:Option Addr) (dc:Nat) (d:List UInt8) (hd:BytesAt (RO X) w (.slice da d.length dc) d) (hcf:0<n.conf.length∧n.conf.length≤12) (hpos:∀x∈n.conf,0≤x) (mN:Nat) (hme:n.me=(mN:Nat)) (hm16:mN<16) (hl:n.log.last+2<18446744073709551616) (hle:n.log.es.length≤900000):
 Calls Tryz.prog 23 #[.pointer (some ⟨b,0,none⟩),.int .i64 kind,.slice da d.length dc] w fun e w'=>POut X P w b (n.propose kind d) e w':=by
 by_cases hr:n.role=3
 ·by_cases hk:kind<1
  ·exact C7 h kind da dc d hr hk hd hcf hpos mN hme hm16 hl hle
  ·by_cases hk2:255<kind
   ·exact C6 h kind da dc d hr hk2 hd hcf hpos mN hme hm16 hl hle
   ·by_cases hdl:24<d.length
    ·exact DQ h kind da dc d hr hk hk2 hdl hd hcf hpos mN hme hm16 hl hle
    ·exact C9 h kind da dc d hr hk hk2 hdl hd hcf hpos mN hme hm16 hl hle
 ·exact C0 h kind da dc d hr hd hcf hpos mN hme hm16 hl hle
end
end Go.Proofs.YtmjccpfchhnfhaaGreat
