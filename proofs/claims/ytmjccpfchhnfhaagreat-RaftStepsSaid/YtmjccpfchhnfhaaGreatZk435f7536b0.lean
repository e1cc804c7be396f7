/- Texts of the proofs, part 33: what the functions that they reach do, walked; no conditions beyond those that each states. -/
import Derived.Test.YtmjccpfchhnfhaaGreatZkb9b594ed00
set_option linter.unusedVariables false
set_option linter.unusedSimpArgs false
set_option maxRecDepth 100000
set_option maxHeartbeats 8000000
namespace Go.Proofs.YtmjccpfchhnfhaaGreat
open Go.RowKit
section
variable {X:Nat→Prop} {w w':World} {b:Nat} {n n':Nd} {q q':DV}
theorem wV [Old] (h:DNs X w b n q) (m:MV) (hk6:m.kind≠6) (hcf:0<n.conf.length∧n.conf.length≤12) (hpos:∀x∈n.conf,0≤x∧x≤15) (hnx:∀y∈n.next,y+1<18446744073709551616) (hmx:∀y∈n.mat,y+1<18446744073709551616) (hix:m.index+1<18446744073709551616) (hpv1:m.kind=6→m.prev+1<18446744073709551616) (hl:n.log.last+1<18446744073709551616) (hle:n.log.es.length≤900000):
 Calls Tryz.prog 15 #[.pointer (some ⟨b,0,none⟩),.agg (cM m)] w fun e w'=>jQ X w b (n.onAcked m.ms) e w':=by
 obtain⟨W1,hW1,F1,X1⟩:=gW w m;obtain⟨g0,hg0⟩:=zE w.heap.size;rw[hg0] at X1;have H:=zH h;have HG0:=zH hg0;have gb:Hid (g0≠b):=by have:=bZ h.top;show _≠_;omega
 obtain⟨k,hk⟩:=zE m.kind;have v0:W1.cell? ⟨g0,0,none⟩=some (.int .i64 k):=by rw[←hk];exact(bq X1.out).1
 have k5:(k==6)=false:=by rw[←hk];simpa using hk6
 have k5':(k != 6)=true:=by rw[bne,k5];rfl
 have E:Hid (n.onAcked m.ms=(n,[])):=if_pos hk6;unfold cM at hW1 ⊢;clear h hk hk6 hcf hpos hnx hmx hix hpv1 hl hle;go_enter Tryz.func15,Tryz.ntmps15
 go_wp2
 try rw[hW1]
 go_ret;rw[E.out];exact⟨q,_,[],rfl,H.out.tt F1.out,F1.out.mono fun _ _ _=>trivial,OwnMs.nil _ _ _,rfl⟩
theorem vv [Old] (h:DNs X w b n q) (m:MV) (hk6:m.kind=6) (hlt:n.tm<m.tm) (hcf:0<n.conf.length∧n.conf.length≤12) (hpos:∀x∈n.conf,0≤x∧x≤15) (hnx:∀y∈n.next,y+1<18446744073709551616) (hmx:∀y∈n.mat,y+1<18446744073709551616) (hix:m.index+1<18446744073709551616) (hpv1:m.kind=6→m.prev+1<18446744073709551616) (hl:n.log.last+1<18446744073709551616) (hle:n.log.es.length≤900000):
 Calls Tryz.prog 15 #[.pointer (some ⟨b,0,none⟩),.agg (cM m)] w fun e w'=>jQ X w b (n.onAcked m.ms) e w':=by
 obtain⟨W1,hW1,F1,X1⟩:=gW w m;obtain⟨g0,hg0⟩:=zE w.heap.size;rw[hg0] at X1;have H:=zH h;have HG0:=zH hg0;have gb:Hid (g0≠b):=by have:=bZ h.top;show _≠_;omega
 obtain⟨me,hme⟩:=zE n.me;obtain⟨ro,hro⟩:=zE n.role;obtain⟨tm,htm⟩:=zE n.tm;obtain⟨s,hs⟩:=zE m.src;obtain⟨mt,hmt⟩:=zE m.tm;obtain⟨ix,hixx⟩:=zE m.index;obtain⟨pv,hpv⟩:=zE m.prev;obtain⟨ok,hok⟩:=zE m.ok;have HL:=zH (And.intro hme (And.intro hro (And.intro htm (And.intro hs (And.intro hmt (And.intro hixx (And.intro hpv hok)))))))
 have VH:Hid (∀W:World,W.heap[g0]? = some (.cells (cM m) 32 (0,0))→W.cell? ⟨g0,1,none⟩=some (.int .i64 s)∧W.cell? ⟨g0,3,none⟩=some (.int .u64 (mt:Nat))∧W.cell? ⟨g0,4,none⟩=some (.int .u64 (ix:Nat))∧W.cell? ⟨g0,5,none⟩=some (.int .u64 (pv:Nat))∧W.cell? ⟨g0,7,none⟩=some (.bool ok)):=fun W t=>by obtain⟨v0,v1,v2,v3,v4,v5,v6,v7,v8,v9⟩:=bq t;exact⟨by rw[v1,hs],by rw[v3,hmt],by rw[v4,hixx],by rw[v5,hpv],by rw[v7,hok]⟩
 have v0:W1.cell? ⟨g0,0,none⟩=some (.int .i64 6):=by rw[←hk6];exact(bq X1.out).1
 have y6:W1.cell? ⟨b,6,none⟩=some (.int .u64 (tm:Nat)):=by rw[←htm];exact(h.cells F1.out).2.2.2.2.2.2.1
 have v3:=(VH.out W1 X1.out).2.1;have gl:decide (tm<mt)=true:=by rw[←hmt,←htm];exact decide_eq_true hlt
 have E:Hid (n.onAcked m.ms=(n.follow mt (-1),[])):=by show _=_;unfold Nd.onAcked;rw[if_neg (fun e=>e hk6),if_pos (show n.tm<m.ms.tm from hlt),←hmt];rfl
 unfold cM at hW1 ⊢;clear hk6 hlt h hme hro htm hs hmt hixx hpv hok hcf hpos hnx hmx hix hpv1 hl hle;go_enter Tryz.func15,Tryz.ntmps15
 go_wp2_with fail
 try rw[hW1]
 try rw[HG0.out]
 clear hW1 hg0 v0;go_quiet (fail)
 clear y6 v3 gl;have UQ:Hid (Fr (fun _ _=>True) W1 (W1.drewN nq)):=(Fr.refl _ W1).drewN nq;generalize W1.drewN nq=W2 at UQ ⊢;have F2:=zH (F1.out.trans UQ.out);have H2:=zH (H.out.tt F2.out);have T2:Hid (W2.heap[g0]? = some (.cells (cM m) 32 (0,0))):=UQ.out.keep _ _ X1.out trivial;have FO:=zH (fx H2.out mt (-1));have v3:=(VH.out W2 T2.out).2.1;go_wp2_with fail
 (with_reducible refine FO.out.mono ?_);rintro e Wf ⟨rfl,hf,ff⟩;have HF:=zH (And.intro hf ff);clear v3 FO hf ff;go_wp2;go_ret;rw[E.out];exact⟨q.noYes,_,[],rfl,HF.out.1,(F2.out.mono fun _ _ _=>trivial).trans HF.out.2,OwnMs.nil _ _ _,rfl⟩
theorem v_ [Old] (h:DNs X w b n q) (m:MV) (hk6:m.kind=6) (hnlt:¬n.tm<m.tm) (hlt:m.tm<n.tm) (hcf:0<n.conf.length∧n.conf.length≤12) (hpos:∀x∈n.conf,0≤x∧x≤15) (hnx:∀y∈n.next,y+1<18446744073709551616) (hmx:∀y∈n.mat,y+1<18446744073709551616) (hix:m.index+1<18446744073709551616) (hpv1:m.kind=6→m.prev+1<18446744073709551616) (hl:n.log.last+1<18446744073709551616) (hle:n.log.es.length≤900000):
 Calls Tryz.prog 15 #[.pointer (some ⟨b,0,none⟩),.agg (cM m)] w fun e w'=>jQ X w b (n.onAcked m.ms) e w':=by
 obtain⟨W1,hW1,F1,X1⟩:=gW w m;obtain⟨g0,hg0⟩:=zE w.heap.size;rw[hg0] at X1;have H:=zH h;have HG0:=zH hg0;have gb:Hid (g0≠b):=by have:=bZ h.top;show _≠_;omega
 obtain⟨me,hme⟩:=zE n.me;obtain⟨ro,hro⟩:=zE n.role;obtain⟨tm,htm⟩:=zE n.tm;obtain⟨s,hs⟩:=zE m.src;obtain⟨mt,hmt⟩:=zE m.tm;obtain⟨ix,hixx⟩:=zE m.index;obtain⟨pv,hpv⟩:=zE m.prev;obtain⟨ok,hok⟩:=zE m.ok;have HL:=zH (And.intro hme (And.intro hro (And.intro htm (And.intro hs (And.intro hmt (And.intro hixx (And.intro hpv hok)))))))
 have VH:Hid (∀W:World,W.heap[g0]? = some (.cells (cM m) 32 (0,0))→W.cell? ⟨g0,1,none⟩=some (.int .i64 s)∧W.cell? ⟨g0,3,none⟩=some (.int .u64 (mt:Nat))∧W.cell? ⟨g0,4,none⟩=some (.int .u64 (ix:Nat))∧W.cell? ⟨g0,5,none⟩=some (.int .u64 (pv:Nat))∧W.cell? ⟨g0,7,none⟩=some (.bool ok)):=fun W t=>by obtain⟨v0,v1,v2,v3,v4,v5,v6,v7,v8,v9⟩:=bq t;exact⟨by rw[v1,hs],by rw[v3,hmt],by rw[v4,hixx],by rw[v5,hpv],by rw[v7,hok]⟩
 have v0:W1.cell? ⟨g0,0,none⟩=some (.int .i64 6):=by rw[←hk6];exact(bq X1.out).1
 have y6:W1.cell? ⟨b,6,none⟩=some (.int .u64 (tm:Nat)):=by rw[←htm];exact(h.cells F1.out).2.2.2.2.2.2.1
 have v3:=(VH.out W1 X1.out).2.1;have gl:decide (tm<mt)=false:=by rw[←hmt,←htm];exact decide_eq_false hnlt
 have g1:decide (mt<tm)=true:=by rw[←hmt,←htm];exact decide_eq_true hlt
 have E:Hid (n.onAcked m.ms=(n,[])):=by show _=_;unfold Nd.onAcked;rw[if_neg (fun e=>e hk6),if_neg (show ¬n.tm<m.ms.tm from hnlt),if_pos (show m.ms.tm<n.tm∨n.role≠3∨m.ms.src=n.me∨m.ms.src<0∨15<m.ms.src from Or.inl hlt)]
 unfold cM at hW1 ⊢;clear hk6 hnlt h hme hro htm hs hmt hixx hpv hok hcf hpos hnx hmx hix hpv1 hl hle hlt;go_enter Tryz.func15,Tryz.ntmps15
 go_wp2_with fail
 try rw[hW1]
 try rw[HG0.out]
 clear hW1 hg0 v0;go_quiet (fail)
 clear y6 v3 gl;have UQ:Hid (Fr (fun _ _=>True) W1 (W1.drewN nq)):=(Fr.refl _ W1).drewN nq;generalize W1.drewN nq=W2 at UQ ⊢;have F2:=zH (F1.out.trans UQ.out);have H2:=zH (H.out.tt F2.out);have T2:Hid (W2.heap[g0]? = some (.cells (cM m) 32 (0,0))):=UQ.out.keep _ _ X1.out trivial;have y6:W2.cell? ⟨b,6,none⟩=some (.int .u64 (tm:Nat)):=by rw[←HL.out.2.2.1];exact(H2.out.cells (Fr.refl _ W2)).2.2.2.2.2.2.1
 have y2:W2.cell? ⟨b,2,none⟩=some (.int .i64 ro):=by rw[←HL.out.2.1];exact(H2.out.cells (Fr.refl _ W2)).2.2.1
 have y0:W2.cell? ⟨b,0,none⟩=some (.int .i64 me):=by rw[←HL.out.1];exact(H2.out.cells (Fr.refl _ W2)).1
 have v3:=(VH.out W2 T2.out).2.1;have v1:=(VH.out W2 T2.out).1;go_wp2_with fail
 go_quiet (fail)
 clear y6 y2 y0 v3 v1 g1;have UQ2:Hid (Fr (fun _ _=>True) W2 (W2.drewN nq)):=(Fr.refl _ W2).drewN nq;generalize W2.drewN nq=W3 at UQ2 ⊢;have F3:=zH (F2.out.trans UQ2.out);have H3:=zH (H2.out.tt UQ2.out);have T3:Hid (W3.heap[g0]? = some (.cells (cM m) 32 (0,0))):=UQ2.out.keep _ _ T2.out trivial;go_wp2;go_ret;rw[E.out];exact⟨q,_,[],rfl,H3.out,F3.out.mono fun _ _ _=>trivial,OwnMs.nil _ _ _,rfl⟩
theorem vw [Old] (h:DNs X w b n q) (m:MV) (hk6:m.kind=6) (hnlt:¬n.tm<m.tm) (hlt:¬m.tm<n.tm) (hr:n.role≠3) (hcf:0<n.conf.length∧n.conf.length≤12) (hpos:∀x∈n.conf,0≤x∧x≤15) (hnx:∀y∈n.next,y+1<18446744073709551616) (hmx:∀y∈n.mat,y+1<18446744073709551616) (hix:m.index+1<18446744073709551616) (hpv1:m.kind=6→m.prev+1<18446744073709551616) (hl:n.log.last+1<18446744073709551616) (hle:n.log.es.length≤900000):
 Calls Tryz.prog 15 #[.pointer (some ⟨b,0,none⟩),.agg (cM m)] w fun e w'=>jQ X w b (n.onAcked m.ms) e w':=by
 obtain⟨W1,hW1,F1,X1⟩:=gW w m;obtain⟨g0,hg0⟩:=zE w.heap.size;rw[hg0] at X1;have H:=zH h;have HG0:=zH hg0;have gb:Hid (g0≠b):=by have:=bZ h.top;show _≠_;omega
 obtain⟨me,hme⟩:=zE n.me;obtain⟨ro,hro⟩:=zE n.role;obtain⟨tm,htm⟩:=zE n.tm;obtain⟨s,hs⟩:=zE m.src;obtain⟨mt,hmt⟩:=zE m.tm;obtain⟨ix,hixx⟩:=zE m.index;obtain⟨pv,hpv⟩:=zE m.prev;obtain⟨ok,hok⟩:=zE m.ok;have HL:=zH (And.intro hme (And.intro hro (And.intro htm (And.intro hs (And.intro hmt (And.intro hixx (And.intro hpv hok)))))))
 have VH:Hid (∀W:World,W.heap[g0]? = some (.cells (cM m) 32 (0,0))→W.cell? ⟨g0,1,none⟩=some (.int .i64 s)∧W.cell? ⟨g0,3,none⟩=some (.int .u64 (mt:Nat))∧W.cell? ⟨g0,4,none⟩=some (.int .u64 (ix:Nat))∧W.cell? ⟨g0,5,none⟩=some (.int .u64 (pv:Nat))∧W.cell? ⟨g0,7,none⟩=some (.bool ok)):=fun W t=>by obtain⟨v0,v1,v2,v3,v4,v5,v6,v7,v8,v9⟩:=bq t;exact⟨by rw[v1,hs],by rw[v3,hmt],by rw[v4,hixx],by rw[v5,hpv],by rw[v7,hok]⟩
 have v0:W1.cell? ⟨g0,0,none⟩=some (.int .i64 6):=by rw[←hk6];exact(bq X1.out).1
 have y6:W1.cell? ⟨b,6,none⟩=some (.int .u64 (tm:Nat)):=by rw[←htm];exact(h.cells F1.out).2.2.2.2.2.2.1
 have v3:=(VH.out W1 X1.out).2.1;have gl:decide (tm<mt)=false:=by rw[←hmt,←htm];exact decide_eq_false hnlt
 have g1:decide (mt<tm)=false:=by rw[←hmt,←htm];exact decide_eq_false hlt
 have g2:(ro==3)=false:=by rw[←hro];simpa using hr
 have g3:(ro != 3)=true:=by rw[bne,g2];rfl
 have E:Hid (n.onAcked m.ms=(n,[])):=by show _=_;unfold Nd.onAcked;rw[if_neg (fun e=>e hk6),if_neg (show ¬n.tm<m.ms.tm from hnlt),if_pos (show m.ms.tm<n.tm∨n.role≠3∨m.ms.src=n.me∨m.ms.src<0∨15<m.ms.src from Or.inr (Or.inl hr))]
 unfold cM at hW1 ⊢;clear hk6 hnlt h hme hro htm hs hmt hixx hpv hok hcf hpos hnx hmx hix hpv1 hl hle hlt hr;go_enter Tryz.func15,Tryz.ntmps15
 go_wp2_with fail
 try rw[hW1]
 try rw[HG0.out]
 clear hW1 hg0 v0;go_quiet (fail)
 clear y6 v3 gl;have UQ:Hid (Fr (fun _ _=>True) W1 (W1.drewN nq)):=(Fr.refl _ W1).drewN nq;generalize W1.drewN nq=W2 at UQ ⊢;have F2:=zH (F1.out.trans UQ.out);have H2:=zH (H.out.tt F2.out);have T2:Hid (W2.heap[g0]? = some (.cells (cM m) 32 (0,0))):=UQ.out.keep _ _ X1.out trivial;have y6:W2.cell? ⟨b,6,none⟩=some (.int .u64 (tm:Nat)):=by rw[←HL.out.2.2.1];exact(H2.out.cells (Fr.refl _ W2)).2.2.2.2.2.2.1
 have y2:W2.cell? ⟨b,2,none⟩=some (.int .i64 ro):=by rw[←HL.out.2.1];exact(H2.out.cells (Fr.refl _ W2)).2.2.1
 have y0:W2.cell? ⟨b,0,none⟩=some (.int .i64 me):=by rw[←HL.out.1];exact(H2.out.cells (Fr.refl _ W2)).1
 have v3:=(VH.out W2 T2.out).2.1;have v1:=(VH.out W2 T2.out).1;go_wp2_with fail
 go_quiet (fail)
 clear y6 y2 y0 v3 v1 g1 g2 g3;have UQ2:Hid (Fr (fun _ _=>True) W2 (W2.drewN nq)):=(Fr.refl _ W2).drewN nq;generalize W2.drewN nq=W3 at UQ2 ⊢;have F3:=zH (F2.out.trans UQ2.out);have H3:=zH (H2.out.tt UQ2.out);have T3:Hid (W3.heap[g0]? = some (.cells (cM m) 32 (0,0))):=UQ2.out.keep _ _ T2.out trivial;go_wp2;go_ret;rw[E.out];exact⟨q,_,[],rfl,H3.out,F3.out.mono fun _ _ _=>trivial,OwnMs.nil _ _ _,rfl⟩
theorem wZ [Old] (h:DNs X w b n q) (m:MV) (hk6:m.kind=6) (hnlt:¬n.tm<m.tm) (hlt:¬m.tm<n.tm) (hr:n.role=3) (hx:m.src=n.me) (hcf:0<n.conf.length∧n.conf.length≤12) (hpos:∀x∈n.conf,0≤x∧x≤15) (hnx:∀y∈n.next,y+1<18446744073709551616) (hmx:∀y∈n.mat,y+1<18446744073709551616) (hix:m.index+1<18446744073709551616) (hpv1:m.kind=6→m.prev+1<18446744073709551616) (hl:n.log.last+1<18446744073709551616) (hle:n.log.es.length≤900000):
 Calls Tryz.prog 15 #[.pointer (some ⟨b,0,none⟩),.agg (cM m)] w fun e w'=>jQ X w b (n.onAcked m.ms) e w':=by
 obtain⟨W1,hW1,F1,X1⟩:=gW w m;obtain⟨g0,hg0⟩:=zE w.heap.size;rw[hg0] at X1;have H:=zH h;have HG0:=zH hg0;have gb:Hid (g0≠b):=by have:=bZ h.top;show _≠_;omega
 obtain⟨me,hme⟩:=zE n.me;obtain⟨ro,hro⟩:=zE n.role;obtain⟨tm,htm⟩:=zE n.tm;obtain⟨s,hs⟩:=zE m.src;obtain⟨mt,hmt⟩:=zE m.tm;obtain⟨ix,hixx⟩:=zE m.index;obtain⟨pv,hpv⟩:=zE m.prev;obtain⟨ok,hok⟩:=zE m.ok;have HL:=zH (And.intro hme (And.intro hro (And.intro htm (And.intro hs (And.intro hmt (And.intro hixx (And.intro hpv hok)))))))
 have VH:Hid (∀W:World,W.heap[g0]? = some (.cells (cM m) 32 (0,0))→W.cell? ⟨g0,1,none⟩=some (.int .i64 s)∧W.cell? ⟨g0,3,none⟩=some (.int .u64 (mt:Nat))∧W.cell? ⟨g0,4,none⟩=some (.int .u64 (ix:Nat))∧W.cell? ⟨g0,5,none⟩=some (.int .u64 (pv:Nat))∧W.cell? ⟨g0,7,none⟩=some (.bool ok)):=fun W t=>by obtain⟨v0,v1,v2,v3,v4,v5,v6,v7,v8,v9⟩:=bq t;exact⟨by rw[v1,hs],by rw[v3,hmt],by rw[v4,hixx],by rw[v5,hpv],by rw[v7,hok]⟩
 have v0:W1.cell? ⟨g0,0,none⟩=some (.int .i64 6):=by rw[←hk6];exact(bq X1.out).1
 have y6:W1.cell? ⟨b,6,none⟩=some (.int .u64 (tm:Nat)):=by rw[←htm];exact(h.cells F1.out).2.2.2.2.2.2.1
 have v3:=(VH.out W1 X1.out).2.1;have gl:decide (tm<mt)=false:=by rw[←hmt,←htm];exact decide_eq_false hnlt
 have g1:decide (mt<tm)=false:=by rw[←hmt,←htm];exact decide_eq_false hlt
 obtain rfl:ro=3:=by rw[←hro];exact hr
 obtain rfl:s=me:=by rw[←hs,←hme];exact hx
 have g2:(s==s)=true:=by simp
 have E:Hid (n.onAcked m.ms=(n,[])):=by show _=_;unfold Nd.onAcked;rw[if_neg (fun e=>e hk6),if_neg (show ¬n.tm<m.ms.tm from hnlt),if_pos (show m.ms.tm<n.tm∨n.role≠3∨m.ms.src=n.me∨m.ms.src<0∨15<m.ms.src from Or.inr (Or.inr (Or.inl hx)))]
 unfold cM at hW1 ⊢;clear hk6 hnlt h hme hro htm hs hmt hixx hpv hok hcf hpos hnx hmx hix hpv1 hl hle hlt hr hx;go_enter Tryz.func15,Tryz.ntmps15
 go_wp2_with fail
 try rw[hW1]
 try rw[HG0.out]
 clear hW1 hg0 v0;go_quiet (fail)
 clear y6 v3 gl;have UQ:Hid (Fr (fun _ _=>True) W1 (W1.drewN nq)):=(Fr.refl _ W1).drewN nq;generalize W1.drewN nq=W2 at UQ ⊢;have F2:=zH (F1.out.trans UQ.out);have H2:=zH (H.out.tt F2.out);have T2:Hid (W2.heap[g0]? = some (.cells (cM m) 32 (0,0))):=UQ.out.keep _ _ X1.out trivial;have y6:W2.cell? ⟨b,6,none⟩=some (.int .u64 (tm:Nat)):=by rw[←HL.out.2.2.1];exact(H2.out.cells (Fr.refl _ W2)).2.2.2.2.2.2.1
 have y2:W2.cell? ⟨b,2,none⟩=some (.int .i64 3):=by rw[←HL.out.2.1];exact(H2.out.cells (Fr.refl _ W2)).2.2.1
 have y0:W2.cell? ⟨b,0,none⟩=some (.int .i64 s):=by rw[←HL.out.1];exact(H2.out.cells (Fr.refl _ W2)).1
 have v3:=(VH.out W2 T2.out).2.1;have v1:=(VH.out W2 T2.out).1;go_wp2_with fail
 go_quiet (fail)
 clear y6 y2 y0 v3 v1 g1 g2;have UQ2:Hid (Fr (fun _ _=>True) W2 (W2.drewN nq)):=(Fr.refl _ W2).drewN nq;generalize W2.drewN nq=W3 at UQ2 ⊢;have F3:=zH (F2.out.trans UQ2.out);have H3:=zH (H2.out.tt UQ2.out);have T3:Hid (W3.heap[g0]? = some (.cells (cM m) 32 (0,0))):=UQ2.out.keep _ _ T2.out trivial;go_wp2;go_ret;rw[E.out];exact⟨q,_,[],rfl,H3.out,F3.out.mono fun _ _ _=>trivial,OwnMs.nil _ _ _,rfl⟩
theorem wX [Old] (h:DNs X w b n q) (m:MV) (hk6:m.kind=6) (hnlt:¬n.tm<m.tm) (hlt:¬m.tm<n.tm) (hr:n.role=3) (hx:m.src≠n.me) (h16:m.src<0) (hcf:0<n.conf.length∧n.conf.length≤12) (hpos:∀x∈n.conf,0≤x∧x≤15) (hnx:∀y∈n.next,y+1<18446744073709551616) (hmx:∀y∈n.mat,y+1<18446744073709551616) (hix:m.index+1<18446744073709551616) (hpv1:m.kind=6→m.prev+1<18446744073709551616) (hl:n.log.last+1<18446744073709551616) (hle:n.log.es.length≤900000):
 Calls Tryz.prog 15 #[.pointer (some ⟨b,0,none⟩),.agg (cM m)] w fun e w'=>jQ X w b (n.onAcked m.ms) e w':=by
 obtain⟨W1,hW1,F1,X1⟩:=gW w m;obtain⟨g0,hg0⟩:=zE w.heap.size;rw[hg0] at X1;have H:=zH h;have HG0:=zH hg0;have gb:Hid (g0≠b):=by have:=bZ h.top;show _≠_;omega
 obtain⟨me,hme⟩:=zE n.me;obtain⟨ro,hro⟩:=zE n.role;obtain⟨tm,htm⟩:=zE n.tm;obtain⟨s,hs⟩:=zE m.src;obtain⟨mt,hmt⟩:=zE m.tm;obtain⟨ix,hixx⟩:=zE m.index;obtain⟨pv,hpv⟩:=zE m.prev;obtain⟨ok,hok⟩:=zE m.ok;have HL:=zH (And.intro hme (And.intro hro (And.intro htm (And.intro hs (And.intro hmt (And.intro hixx (And.intro hpv hok)))))))
 have VH:Hid (∀W:World,W.heap[g0]? = some (.cells (cM m) 32 (0,0))→W.cell? ⟨g0,1,none⟩=some (.int .i64 s)∧W.cell? ⟨g0,3,none⟩=some (.int .u64 (mt:Nat))∧W.cell? ⟨g0,4,none⟩=some (.int .u64 (ix:Nat))∧W.cell? ⟨g0,5,none⟩=some (.int .u64 (pv:Nat))∧W.cell? ⟨g0,7,none⟩=some (.bool ok)):=fun W t=>by obtain⟨v0,v1,v2,v3,v4,v5,v6,v7,v8,v9⟩:=bq t;exact⟨by rw[v1,hs],by rw[v3,hmt],by rw[v4,hixx],by rw[v5,hpv],by rw[v7,hok]⟩
 have v0:W1.cell? ⟨g0,0,none⟩=some (.int .i64 6):=by rw[←hk6];exact(bq X1.out).1
 have y6:W1.cell? ⟨b,6,none⟩=some (.int .u64 (tm:Nat)):=by rw[←htm];exact(h.cells F1.out).2.2.2.2.2.2.1
 have v3:=(VH.out W1 X1.out).2.1;have gl:decide (tm<mt)=false:=by rw[←hmt,←htm];exact decide_eq_false hnlt
 have g1:decide (mt<tm)=false:=by rw[←hmt,←htm];exact decide_eq_false hlt
 obtain rfl:ro=3:=by rw[←hro];exact hr
 have g2:(s==me)=false:=by rw[←hs,←hme];simpa using hx
 have g3:s<0:=by rw[←hs];exact h16
 have E:Hid (n.onAcked m.ms=(n,[])):=by show _=_;unfold Nd.onAcked;rw[if_neg (fun e=>e hk6),if_neg (show ¬n.tm<m.ms.tm from hnlt),if_pos (show m.ms.tm<n.tm∨n.role≠3∨m.ms.src=n.me∨m.ms.src<0∨15<m.ms.src from Or.inr (Or.inr (Or.inr (Or.inl h16))))]
 unfold cM at hW1 ⊢;clear hk6 hnlt h hme hro htm hs hmt hixx hpv hok hcf hpos hnx hmx hix hpv1 hl hle hlt hr hx h16;go_enter Tryz.func15,Tryz.ntmps15
 go_wp2_with fail
 try rw[hW1]
 try rw[HG0.out]
 clear hW1 hg0 v0;go_quiet (fail)
 clear y6 v3 gl;have UQ:Hid (Fr (fun _ _=>True) W1 (W1.drewN nq)):=(Fr.refl _ W1).drewN nq;generalize W1.drewN nq=W2 at UQ ⊢;have F2:=zH (F1.out.trans UQ.out);have H2:=zH (H.out.tt F2.out);have T2:Hid (W2.heap[g0]? = some (.cells (cM m) 32 (0,0))):=UQ.out.keep _ _ X1.out trivial;have y6:W2.cell? ⟨b,6,none⟩=some (.int .u64 (tm:Nat)):=by rw[←HL.out.2.2.1];exact(H2.out.cells (Fr.refl _ W2)).2.2.2.2.2.2.1
 have y2:W2.cell? ⟨b,2,none⟩=some (.int .i64 3):=by rw[←HL.out.2.1];exact(H2.out.cells (Fr.refl _ W2)).2.2.1
 have y0:W2.cell? ⟨b,0,none⟩=some (.int .i64 me):=by rw[←HL.out.1];exact(H2.out.cells (Fr.refl _ W2)).1
 have v3:=(VH.out W2 T2.out).2.1;have v1:=(VH.out W2 T2.out).1;go_wp2_with fail
 go_quiet (fail)
 clear y6 y2 y0 v3 v1 g1 g2 g3;have UQ2:Hid (Fr (fun _ _=>True) W2 (W2.drewN nq)):=(Fr.refl _ W2).drewN nq;generalize W2.drewN nq=W3 at UQ2 ⊢;have F3:=zH (F2.out.trans UQ2.out);have H3:=zH (H2.out.tt UQ2.out);have T3:Hid (W3.heap[g0]? = some (.cells (cM m) 32 (0,0))):=UQ2.out.keep _ _ T2.out trivial;go_wp2;go_ret;rw[E.out];exact⟨q,_,[],rfl,H3.out,F3.out.mono fun _ _ _=>trivial,OwnMs.nil _ _ _,rfl⟩
theorem wQ [Old] (h:DNs X w b n q) (m:MV) (hk6:m.kind=6) (hnlt:¬n.tm<m.tm) (hlt:¬m.tm<n.tm) (hr:n.role=3) (hx:m.src≠n.me) (h0:¬m.src<0) (h16:15<m.src) (hcf:0<n.conf.length∧n.conf.length≤12) (hpos:∀x∈n.conf,0≤x∧x≤15) (hnx:∀y∈n.next,y+1<18446744073709551616) (hmx:∀y∈n.mat,y+1<18446744073709551616) (hix:m.index+1<18446744073709551616) (hpv1:m.kind=6→m.prev+1<18446744073709551616) (hl:n.log.last+1<18446744073709551616) (hle:n.log.es.length≤900000):
 Calls Tryz.prog 15 #[.pointer (some ⟨b,0,none⟩),.agg (cM m)] w fun e w'=>jQ X w b (n.onAcked m.ms) e w':=by
 obtain⟨W1,hW1,F1,X1⟩:=gW w m;obtain⟨g0,hg0⟩:=zE w.heap.size;rw[hg0] at X1;have H:=zH h;have HG0:=zH hg0;have gb:Hid (g0≠b):=by have:=bZ h.top;show _≠_;omega
 obtain⟨me,hme⟩:=zE n.me;obtain⟨ro,hro⟩:=zE n.role;obtain⟨tm,htm⟩:=zE n.tm;obtain⟨s,hs⟩:=zE m.src;obtain⟨mt,hmt⟩:=zE m.tm;obtain⟨ix,hixx⟩:=zE m.index;obtain⟨pv,hpv⟩:=zE m.prev;obtain⟨ok,hok⟩:=zE m.ok;have HL:=zH (And.intro hme (And.intro hro (And.intro htm (And.intro hs (And.intro hmt (And.intro hixx (And.intro hpv hok)))))))
 have VH:Hid (∀W:World,W.heap[g0]? = some (.cells (cM m) 32 (0,0))→W.cell? ⟨g0,1,none⟩=some (.int .i64 s)∧W.cell? ⟨g0,3,none⟩=some (.int .u64 (mt:Nat))∧W.cell? ⟨g0,4,none⟩=some (.int .u64 (ix:Nat))∧W.cell? ⟨g0,5,none⟩=some (.int .u64 (pv:Nat))∧W.cell? ⟨g0,7,none⟩=some (.bool ok)):=fun W t=>by obtain⟨v0,v1,v2,v3,v4,v5,v6,v7,v8,v9⟩:=bq t;exact⟨by rw[v1,hs],by rw[v3,hmt],by rw[v4,hixx],by rw[v5,hpv],by rw[v7,hok]⟩
 have v0:W1.cell? ⟨g0,0,none⟩=some (.int .i64 6):=by rw[←hk6];exact(bq X1.out).1
 have y6:W1.cell? ⟨b,6,none⟩=some (.int .u64 (tm:Nat)):=by rw[←htm];exact(h.cells F1.out).2.2.2.2.2.2.1
 have v3:=(VH.out W1 X1.out).2.1;have gl:decide (tm<mt)=false:=by rw[←hmt,←htm];exact decide_eq_false hnlt
 have g1:decide (mt<tm)=false:=by rw[←hmt,←htm];exact decide_eq_false hlt
 obtain rfl:ro=3:=by rw[←hro];exact hr
 have g2:(s==me)=false:=by rw[←hs,←hme];simpa using hx
 have g3:¬s<0:=by rw[←hs];exact h0
 have g4:15<s:=by rw[←hs];exact h16
 have E:Hid (n.onAcked m.ms=(n,[])):=by show _=_;unfold Nd.onAcked;rw[if_neg (fun e=>e hk6),if_neg (show ¬n.tm<m.ms.tm from hnlt),if_pos (show m.ms.tm<n.tm∨n.role≠3∨m.ms.src=n.me∨m.ms.src<0∨15<m.ms.src from Or.inr (Or.inr (Or.inr (Or.inr h16))))]
 unfold cM at hW1 ⊢;clear hk6 hnlt h hme hro htm hs hmt hixx hpv hok hcf hpos hnx hmx hix hpv1 hl hle hlt hr hx h0 h16;go_enter Tryz.func15,Tryz.ntmps15
 go_wp2_with fail
 try rw[hW1]
 try rw[HG0.out]
 clear hW1 hg0 v0;go_quiet (fail)
 clear y6 v3 gl;have UQ:Hid (Fr (fun _ _=>True) W1 (W1.drewN nq)):=(Fr.refl _ W1).drewN nq;generalize W1.drewN nq=W2 at UQ ⊢;have F2:=zH (F1.out.trans UQ.out);have H2:=zH (H.out.tt F2.out);have T2:Hid (W2.heap[g0]? = some (.cells (cM m) 32 (0,0))):=UQ.out.keep _ _ X1.out trivial;have y6:W2.cell? ⟨b,6,none⟩=some (.int .u64 (tm:Nat)):=by rw[←HL.out.2.2.1];exact(H2.out.cells (Fr.refl _ W2)).2.2.2.2.2.2.1
 have y2:W2.cell? ⟨b,2,none⟩=some (.int .i64 3):=by rw[←HL.out.2.1];exact(H2.out.cells (Fr.refl _ W2)).2.2.1
 have y0:W2.cell? ⟨b,0,none⟩=some (.int .i64 me):=by rw[←HL.out.1];exact(H2.out.cells (Fr.refl _ W2)).1
 have v3:=(VH.out W2 T2.out).2.1;have v1:=(VH.out W2 T2.out).1;go_wp2_with fail
 go_quiet (fail)
 clear y6 y2 y0 v3 v1 g1 g2 g3 g4;have UQ2:Hid (Fr (fun _ _=>True) W2 (W2.drewN nq)):=(Fr.refl _ W2).drewN nq;generalize W2.drewN nq=W3 at UQ2 ⊢;have F3:=zH (F2.out.trans UQ2.out);have H3:=zH (H2.out.tt UQ2.out);have T3:Hid (W3.heap[g0]? = some (.cells (cM m) 32 (0,0))):=UQ2.out.keep _ _ T2.out trivial;go_wp2;go_ret;rw[E.out];exact⟨q,_,[],rfl,H3.out,F3.out.mono fun _ _ _=>trivial,OwnMs.nil _ _ _,rfl⟩
end
section
variable {X:Nat→Prop} {w w':World} {b:Nat} {n n':Nd} {q q':DV}
theorem wJ [Old] (h:DNs X w b n q) (m:MV) (hk6:m.kind=6) (hnlt:¬n.tm<m.tm) (hlt:¬m.tm<n.tm) (hr:n.role=3) (hx:m.src≠n.me) (t:Nat) (ht:t<16) (hst:m.src=(t:Nat)) (ho:m.ok=false) (hcf:0<n.conf.length∧n.conf.length≤12) (hpos:∀x∈n.conf,0≤x∧x≤15) (hnx:∀y∈n.next,y+1<18446744073709551616) (hmx:∀y∈n.mat,y+1<18446744073709551616) (hix:m.index+1<18446744073709551616) (hpv1:m.kind=6→m.prev+1<18446744073709551616) (hl:n.log.last+1<18446744073709551616) (hle:n.log.es.length≤900000):
 Calls Tryz.prog 15 #[.pointer (some ⟨b,0,none⟩),.agg (cM m)] w fun e w'=>jQ X w b (n.onAcked m.ms) e w':=by
 obtain⟨W1,hW1,F1,X1⟩:=gW w m;obtain⟨g0,hg0⟩:=zE w.heap.size;rw[hg0] at X1;have H:=zH h;have HG0:=zH hg0;have gb:Hid (g0≠b):=by have:=bZ h.top;show _≠_;omega
 obtain⟨me,hme⟩:=zE n.me;obtain⟨ro,hro⟩:=zE n.role;obtain⟨tm,htm⟩:=zE n.tm;obtain⟨s,hs⟩:=zE m.src;obtain⟨mt,hmt⟩:=zE m.tm;obtain⟨ix,hixx⟩:=zE m.index;obtain⟨pv,hpv⟩:=zE m.prev;obtain⟨ok,hok⟩:=zE m.ok;have HL:=zH (And.intro hme (And.intro hro (And.intro htm (And.intro hs (And.intro hmt (And.intro hixx (And.intro hpv hok)))))))
 have VH:Hid (∀W:World,W.heap[g0]? = some (.cells (cM m) 32 (0,0))→W.cell? ⟨g0,1,none⟩=some (.int .i64 s)∧W.cell? ⟨g0,3,none⟩=some (.int .u64 (mt:Nat))∧W.cell? ⟨g0,4,none⟩=some (.int .u64 (ix:Nat))∧W.cell? ⟨g0,5,none⟩=some (.int .u64 (pv:Nat))∧W.cell? ⟨g0,7,none⟩=some (.bool ok)):=fun W t=>by obtain⟨v0,v1,v2,v3,v4,v5,v6,v7,v8,v9⟩:=bq t;exact⟨by rw[v1,hs],by rw[v3,hmt],by rw[v4,hixx],by rw[v5,hpv],by rw[v7,hok]⟩
 have v0:W1.cell? ⟨g0,0,none⟩=some (.int .i64 6):=by rw[←hk6];exact(bq X1.out).1
 have y6:W1.cell? ⟨b,6,none⟩=some (.int .u64 (tm:Nat)):=by rw[←htm];exact(h.cells F1.out).2.2.2.2.2.2.1
 have v3:=(VH.out W1 X1.out).2.1;have gl:decide (tm<mt)=false:=by rw[←hmt,←htm];exact decide_eq_false hnlt
 have g1:decide (mt<tm)=false:=by rw[←hmt,←htm];exact decide_eq_false hlt
 obtain rfl:ro=3:=by rw[←hro];exact hr
 have g2:(s==me)=false:=by rw[←hs,←hme];simpa using hx
 obtain rfl:s=(t:Nat):=by rw[←hs];exact hst
 obtain rfl:ok=false:=by rw[←hok];exact ho
 have ht0:¬((t:Nat):Int)<0:=by omega
 have ht15:¬(15:Int)<((t:Nat):Int):=by omega
 obtain⟨bs,hbs⟩:=zE n.log.base;obtain⟨bt,hbt⟩:=zE n.log.bt;obtain⟨ae,le,ce,hve,hlel,hel2,hesl,hlg⟩:=h.lg;have hl2:bs+le+1<18446744073709551616:=by unfold Lg.last at hl;omega
 obtain⟨LST,hLST⟩:=zE (bs+le);have hlast:n.log.last=LST:=by unfold Lg.last;omega
 have LAST:=zH (fun W=>dQ W bs bt ae le ce (by omega));rw[hLST] at LAST;have HQ:=zH (And.intro hve (And.intro hbs hbt));obtain⟨nt,hnt⟩:=zE (n.next.getD t 0);obtain⟨kt,hkt⟩:=zE (n.mat.getD t 0)
 have hkt64:kt+1<18446744073709551616:=by rw[←hkt,List.getD_eq_getElem?_getD,List.getElem?_eq_getElem (by have:=h.ml;omega)];exact hmx _ (List.getElem_mem _)
 have ht2:((t:Nat):Int)<16:=by omega
 have E0:n.onAcked m.ms=if m.ok=true∧(n.acked m.ms).log.last<(n.acked m.ms).next.getD t 0 then(n.acked m.ms,[]) else(n.acked m.ms,(n.acked m.ms).sendTo (t:Nat)):=by
  unfold Nd.onAcked
  rw[if_neg (fun e=>e hk6),if_neg (show ¬n.tm<m.ms.tm from hnlt),if_neg (show ¬(m.ms.tm<n.tm∨n.role≠3∨m.ms.src=n.me∨m.ms.src<0∨15<m.ms.src) by
   have e:m.ms.src=(t:Nat):=hst;rw[e];rintro(e | e | e | e | e)
   ·exact hlt e
   ·exact e hr
   ·exact hx (hst.trans e)
   ·omega
   ·omega)]
  have e:m.ms.src=(t:Nat):=hst;rw[e];rfl
 have CC:Hid (∀W W' nA,DNs X W b nA q→nA.log=n.log→Fr (fun _ _=>True) W W'→W'.cell? ⟨b,8,none⟩=some (.int .u64 (bs:Nat))∧W'.cell? ⟨b,9,none⟩=some (.int .u64 (bt:Nat))∧W'.cell? ⟨b,10,none⟩=some (.slice ae le ce)∧W'.cell? ⟨b,12+t,none⟩=some (.int .u64 (nA.next.getD t 0:Nat))∧W'.cell? ⟨b,28+t,none⟩=some (.int .u64 (nA.mat.getD t 0:Nat))):=fun W W' nA hA hlA f=>by obtain⟨x0,x1,x2,x3,x4,x5,x6,x7,x8,x9,x10,x11⟩:=hA.cells f;exact⟨by rw[x8,hlA,hbs],by rw[x9,hlA,hbt],by rw[x10,hve],hA.nxt f t ht,hA.mtc f t ht⟩
 have HT:=zH ht;have HNK:=zH (And.intro hnt hkt);have hpv2:pv+1<18446744073709551616:=by have:=hpv1 hk6;omega
 have wp1:IntKind.u64.wrap ((pv:Int)+1)=((pv+1:Nat):Int):=by rw[IntKind.wrap_u64];omega
 have wk1:IntKind.u64.wrap ((kt:Int)+1)=((kt+1:Nat):Int):=by rw[IntKind.wrap_u64];omega
 obtain⟨pv1,hpv11⟩:=zE (pv+1);obtain⟨kt1,hkt1⟩:=zE (kt+1);rw[hpv11] at wp1;rw[hkt1] at wk1;obtain⟨fi,hmxx⟩:=zE (max kt1 (min ix pv1));have HFI:=zH hmxx;obtain⟨nA,hnA⟩:∃x:Nd,{ n with next:=n.next.set t fi }=x:=⟨_,rfl⟩
 have hac:n.acked m.ms=nA:=by
  unfold Nd.acked;have e:m.ms.src.toNat=t:=by show m.src.toNat=t;rw[hst];rfl
  rw[if_pos (show m.ms.ok=false from ho),e,hkt,show m.ms.index=ix from hixx,show m.ms.prev=pv from hpv,hpv11,hkt1,hmxx,hnA]
 have E:Hid (n.onAcked m.ms=(nA,nA.sendTo (t:Nat))):=by show _=_;rw[E0,if_neg (fun e=>by rw[ho] at e;cases e.1),hac]
 have TO:Hid (∀W,DNs X W b nA q→Calls Tryz.prog 17 #[.pointer (some ⟨b,0,none⟩),.int .i64 (t:Nat)] W fun e w'=>jj X W (nA.sendTo (t:Nat)) e w'):=fun W hA=>j1 hA (t:Nat) (fun y hy=>by
  rw[←hnA] at hy;rcases List.mem_or_eq_of_mem_set hy with hy | hy
  ·have:=hnx y hy;omega
  ·omega) (by rw[←hnA];exact hl) (by rw[←hnA];exact hle)
 have HNA:=zH hnA;unfold cM at hW1 ⊢;clear hk6 hnlt hlt hr hx hst ho hnt hkt hbs hbt hve hlel hel2 hesl hlg hl2 hLST hlast hkt64 E0 hpv2 hpv11 hkt1 hmxx hnA hac ht h hme hro htm hs hmt hixx hpv hok hcf hpos hnx hmx hix hpv1 hl hle;go_enter Tryz.func15,Tryz.ntmps15
 go_wp2_with fail
 try rw[hW1]
 try rw[HG0.out]
 clear hW1 hg0 v0;go_quiet (fail)
 clear y6 v3 gl;have UQ:Hid (Fr (fun _ _=>True) W1 (W1.drewN nq)):=(Fr.refl _ W1).drewN nq;generalize W1.drewN nq=W2 at UQ ⊢;have F2:=zH (F1.out.trans UQ.out);have H2:=zH (H.out.tt F2.out);have T2:Hid (W2.heap[g0]? = some (.cells (cM m) 32 (0,0))):=UQ.out.keep _ _ X1.out trivial;have y6:W2.cell? ⟨b,6,none⟩=some (.int .u64 (tm:Nat)):=by rw[←HL.out.2.2.1];exact(H2.out.cells (Fr.refl _ W2)).2.2.2.2.2.2.1
 have y2:W2.cell? ⟨b,2,none⟩=some (.int .i64 3):=by rw[←HL.out.2.1];exact(H2.out.cells (Fr.refl _ W2)).2.2.1
 have y0:W2.cell? ⟨b,0,none⟩=some (.int .i64 me):=by rw[←HL.out.1];exact(H2.out.cells (Fr.refl _ W2)).1
 have v3:=(VH.out W2 T2.out).2.1;have v1:=(VH.out W2 T2.out).1;go_wp2_with fail
 go_quiet (fail)
 clear y6 y2 y0 v3 v1 g1 g2 ht0 ht15;have UQ2:Hid (Fr (fun _ _=>True) W2 (W2.drewN nq)):=(Fr.refl _ W2).drewN nq;generalize W2.drewN nq=W3 at UQ2 ⊢;have F3:=zH (F2.out.trans UQ2.out);have H3:=zH (H2.out.tt UQ2.out);have T3:Hid (W3.heap[g0]? = some (.cells (cM m) 32 (0,0))):=UQ2.out.keep _ _ T2.out trivial;have v1:=(VH.out W3 T3.out).1;have v7:=(VH.out W3 T3.out).2.2.2.2;go_wp2_with fail
 clear v1;go_quiet (fail)
 clear v7;have UQ3:Hid (Fr (fun _ _=>True) W3 (W3.drewN nq)):=(Fr.refl _ W3).drewN nq;generalize W3.drewN nq=W4 at UQ3 ⊢;have F4:=zH (F3.out.trans UQ3.out);have H4:=zH (H3.out.tt UQ3.out);have T4:Hid (W4.heap[g0]? = some (.cells (cM m) 32 (0,0))):=UQ3.out.keep _ _ T3.out trivial;have UD:Hid (Fr (fun _ _=>True) W4 W4.drew):=(Fr.refl _ _).drew;have v7:=(VH.out W4 T4.out).2.2.2.2;have v4:=(VH.out W4 T4.out).2.2.1;have v5:=(VH.out W4 T4.out).2.2.2.1;by_cases hp:pv1<ix
 ·have gp:decide (pv1<ix)=true:=decide_eq_true hp;have HPP:=zH hp;clear hp;go_wp2_with fail
  clear v7 v4 v5 gp;refine wpR [(111,0),(112,1),(113,2),(114,3),(115,4),(116,5),(117,6),(118,7),(119,8),(120,9),(121,10),(122,11)] [(0,[]),(1,[]),(2,[]),(3,[]),(4,[2]),(5,[4]),(6,[3,5]),(7,[6]),(8,[7]),(9,[0]),(10,[9])] (ckR [(0,.pointer (some ⟨b,0,none⟩)),(1,.int .i64 (t:Nat)),(2,.pointer (some ⟨b,0,none⟩)),(3,.int .i64 (t:Nat)),(4,.pointer (some ⟨b,0,none⟩)),(5,.pointer (some ⟨b,28,none⟩)),(6,.pointer (some ⟨b,28+t,none⟩)),(7,.int .u64 (kt:Nat)),(8,.int .u64 (kt1:Nat)),(9,.pointer (some ⟨b,0,none⟩)),(10,.pointer (some ⟨b,12,none⟩))] [] 11 0) 2 rfl ?cfall ?cfend
  case cfall=>
   iterate 11
    refine bV.q rfl rfl rfl (fun xs W HF hE K' hK=>?_) ?_
    ·simp only[ckEqs,ckLook,Nat.reduceBEq] at hE;simp only[fillA,fillL,sA,sB,sC,Act.put,hE] at hK ⊢;clear hE;obtain⟨y8,y9,y10,yn,ym⟩:=CC.out W4 W n H4.out rfl (UD.out.trans HF.out);have V:=VH.out W ((UD.out.trans HF.out).keep _ _ T4.out trivial);have v4:=V.2.2.1;have v5:=V.2.2.2.1;have v7:=V.2.2.2.2;clear V;rw[HNK.out.2] at ym;(try simp only[gA,gB,gC]);go_simp;exact hK.out _ rfl
   exact bV.nil
  case cfend=>
   intro xs W hF hA;have HF:=zH hF;have hE:=b_ rfl hA;clear hA hF;simp only[List.map_cons,List.map_nil,ckEqs,ckLook,Nat.reduceBEq] at hE;simp only[fillA,fillL,sA,sB,sC,hE];clear hE;have F5:=zH (UD.out.trans HF.out);have H5:=zH (H4.out.tt F5.out);have an0:=H5.out.nxt (Fr.refl _ W) t HT.out;have an1:=H5.out.free (Fr.refl _ W) (12+t);obtain⟨h6,f6⟩:=H5.out.setN t kt1 HT.out;obtain⟨WN,hWN⟩:=zE (W.setCell ⟨b,12+t,none⟩ (.int .u64 (kt1:Nat)));have hWN':W.setCell ⟨b,12+t,none⟩ (dx kt1)=WN:=hWN;rw[hWN'] at h6 f6;have H6:=zH h6;have T6:Hid (WN.heap[g0]? = some (.cells (cM m) 32 (0,0))):=f6.keep _ _ (F5.out.keep _ _ T4.out trivial) gb.out;have FP6:Hid (Fr (fun c _=>c≠b) w WN):=((F4.out.trans F5.out).mono fun _ _ _=>trivial).trans f6
   have z12:WN.cell? ⟨b,12+t,none⟩=some (.int .u64 (kt1:Nat)):=by rw[h6.nxt (Fr.refl _ WN) t HT.out];show some (dx ((n.next.set t kt1).getD t 0))=_;rw[d_ (by have:=H4.out.nl;have:=HT.out;omega),if_pos rfl]
   have u12:=h6.free (Fr.refl _ WN) (12+t);clear h6 f6 hWN';by_cases hq:kt1<pv1
   ·have gq:decide (kt1<pv1)=true:=decide_eq_true hq;rw[show fi=pv1 by have:=HFI.out;have:=HPP.out;omega] at HNA;clear hq;obtain⟨h7,f7⟩:=H6.out.setN t pv1 HT.out;obtain⟨WM,hWM⟩:=zE (WN.setCell ⟨b,12+t,none⟩ (.int .u64 (pv1:Nat)));have hWM':WN.setCell ⟨b,12+t,none⟩ (dx pv1)=WM:=hWM;rw[hWM'] at h7 f7
    have H7:Hid (DNs X WM b nA q):=by show DNs X WM b nA q;rw[←HNA.out];have e:(n.next.set t kt1).set t pv1=n.next.set t pv1:=List.set_set ..;have h9:DNs X WM b { n with next:=(n.next.set t kt1).set t pv1 } q:=h7;rw[e] at h9;exact h9
    have T7:Hid (WM.heap[g0]? = some (.cells (cM m) 32 (0,0))):=f7.keep _ _ T6.out gb.out;have FP7:Hid (Fr (fun c _=>c≠b) w WM):=FP6.out.trans f7;clear h7 f7 hWM';have TOC:=zH (fun W' (f:Fr (fun _ _=>True) WM W')=>TO.out W' (H7.out.tt f));have v7:=(VH.out WM T7.out).2.2.2.2;clear CC LAST TO;refine wpN 11 rfl fun K' hK=>?_
    (try simp only[gA,gB,gC]);go_simp;refine hK.out _ _ ?_;clear hK K';refine wpN 12 rfl fun K' hK=>?_
    (try simp only[gA,gB,gC]);go_simp;refine hK.out _ _ ?_;clear hK K';refine wpF ?_
    try rw[hWN]
    clear hWN an0 an1;go_wp2_with fail
    try rw[hWM]
    clear hWM z12 u12;go_quiet (fail)
    have UQ5:Hid (Fr (fun _ _=>True) WM (WM.drewN nq)):=(Fr.refl _ WM).drewN nq;generalize WM.drewN nq=W6 at UQ5 ⊢;have TOC1:=zH (TOC.out W6 UQ5.out);clear v7 TOC;go_wp2_with fail
    (with_reducible refine TOC1.out.mono ?_);rintro e W7 ⟨⟨v,mvs,rfl,o7,e7⟩,f7⟩;have HH:=zH (And.intro o7 (And.intro e7 f7));clear o7 e7 f7 TOC1;go_wp2;go_ret;rw[E.out];exact⟨q,_,mvs,rfl,(H7.out.tt UQ5.out).tt HH.out.2.2,(FP7.out.trans (UQ5.out.mono fun _ _ _=>trivial)).trans (HH.out.2.2.mono fun _ _ _=>trivial),HH.out.1.lo (FP7.out.trans (UQ5.out.mono fun _ _ _=>trivial)).size,HH.out.2.1⟩
   ·have gq:decide (kt1<pv1)=false:=decide_eq_false hq;rw[show fi=kt1 by have:=HFI.out;have:=HPP.out;omega] at HNA;clear hq
    have H7:Hid (DNs X WN b nA q):=by show DNs X WN b nA q;rw[←HNA.out];exact H6.out
    have T7:=T6;have FP7:=FP6;have TOC:=zH (fun W' (f:Fr (fun _ _=>True) WN W')=>TO.out W' (H7.out.tt f));have v7:=(VH.out WN T7.out).2.2.2.2;clear CC LAST TO;refine wpN 11 rfl fun K' hK=>?_
    (try simp only[gA,gB,gC]);go_simp;refine hK.out _ _ ?_;clear hK K';refine wpN 12 rfl fun K' hK=>?_
    (try simp only[gA,gB,gC]);go_simp;refine hK.out _ _ ?_;clear hK K';refine wpF ?_
    try rw[hWN]
    clear hWN an0 an1;go_wp2_with fail
    clear z12 u12;go_quiet (fail)
    have UQ5:Hid (Fr (fun _ _=>True) WN (WN.drewN nq)):=(Fr.refl _ WN).drewN nq;generalize WN.drewN nq=W6 at UQ5 ⊢;have TOC1:=zH (TOC.out W6 UQ5.out);clear v7 TOC;go_wp2_with fail
    (with_reducible refine TOC1.out.mono ?_);rintro e W7 ⟨⟨v,mvs,rfl,o7,e7⟩,f7⟩;have HH:=zH (And.intro o7 (And.intro e7 f7));clear o7 e7 f7 TOC1;go_wp2;go_ret;rw[E.out];exact⟨q,_,mvs,rfl,(H7.out.tt UQ5.out).tt HH.out.2.2,(FP7.out.trans (UQ5.out.mono fun _ _ _=>trivial)).trans (HH.out.2.2.mono fun _ _ _=>trivial),HH.out.1.lo (FP7.out.trans (UQ5.out.mono fun _ _ _=>trivial)).size,HH.out.2.1⟩
 ·have gp:decide (pv1<ix)=false:=decide_eq_false hp;have HPP:=zH hp;clear hp;go_wp2_with fail
  clear v7 v4 v5 gp;refine wpR [(111,0),(112,1),(113,2),(114,3),(115,4),(116,5),(117,6),(118,7),(119,8),(120,9),(121,10),(122,11)] [(0,[]),(1,[]),(2,[]),(3,[]),(4,[2]),(5,[4]),(6,[3,5]),(7,[6]),(8,[7]),(9,[0]),(10,[9])] (ckR [(0,.pointer (some ⟨b,0,none⟩)),(1,.int .i64 (t:Nat)),(2,.pointer (some ⟨b,0,none⟩)),(3,.int .i64 (t:Nat)),(4,.pointer (some ⟨b,0,none⟩)),(5,.pointer (some ⟨b,28,none⟩)),(6,.pointer (some ⟨b,28+t,none⟩)),(7,.int .u64 (kt:Nat)),(8,.int .u64 (kt1:Nat)),(9,.pointer (some ⟨b,0,none⟩)),(10,.pointer (some ⟨b,12,none⟩))] [] 11 0) 2 rfl ?cfall ?cfend
  case cfall=>
   iterate 11
    refine bV.q rfl rfl rfl (fun xs W HF hE K' hK=>?_) ?_
    ·simp only[ckEqs,ckLook,Nat.reduceBEq] at hE;simp only[fillA,fillL,sA,sB,sC,Act.put,hE] at hK ⊢;clear hE;obtain⟨y8,y9,y10,yn,ym⟩:=CC.out W4 W n H4.out rfl (UD.out.trans HF.out);have V:=VH.out W ((UD.out.trans HF.out).keep _ _ T4.out trivial);have v4:=V.2.2.1;have v5:=V.2.2.2.1;have v7:=V.2.2.2.2;clear V;rw[HNK.out.2] at ym;(try simp only[gA,gB,gC]);go_simp;exact hK.out _ rfl
   exact bV.nil
  case cfend=>
   intro xs W hF hA;have HF:=zH hF;have hE:=b_ rfl hA;clear hA hF;simp only[List.map_cons,List.map_nil,ckEqs,ckLook,Nat.reduceBEq] at hE;simp only[fillA,fillL,sA,sB,sC,hE];clear hE;have F5:=zH (UD.out.trans HF.out);have H5:=zH (H4.out.tt F5.out);have an0:=H5.out.nxt (Fr.refl _ W) t HT.out;have an1:=H5.out.free (Fr.refl _ W) (12+t);obtain⟨h6,f6⟩:=H5.out.setN t kt1 HT.out;obtain⟨WN,hWN⟩:=zE (W.setCell ⟨b,12+t,none⟩ (.int .u64 (kt1:Nat)));have hWN':W.setCell ⟨b,12+t,none⟩ (dx kt1)=WN:=hWN;rw[hWN'] at h6 f6;have H6:=zH h6;have T6:Hid (WN.heap[g0]? = some (.cells (cM m) 32 (0,0))):=f6.keep _ _ (F5.out.keep _ _ T4.out trivial) gb.out;have FP6:Hid (Fr (fun c _=>c≠b) w WN):=((F4.out.trans F5.out).mono fun _ _ _=>trivial).trans f6
   have z12:WN.cell? ⟨b,12+t,none⟩=some (.int .u64 (kt1:Nat)):=by rw[h6.nxt (Fr.refl _ WN) t HT.out];show some (dx ((n.next.set t kt1).getD t 0))=_;rw[d_ (by have:=H4.out.nl;have:=HT.out;omega),if_pos rfl]
   have u12:=h6.free (Fr.refl _ WN) (12+t);clear h6 f6 hWN';by_cases hq:kt1<ix
   ·have gq:decide (kt1<ix)=true:=decide_eq_true hq;rw[show fi=ix by have:=HFI.out;have:=HPP.out;omega] at HNA;clear hq;obtain⟨h7,f7⟩:=H6.out.setN t ix HT.out;obtain⟨WM,hWM⟩:=zE (WN.setCell ⟨b,12+t,none⟩ (.int .u64 (ix:Nat)));have hWM':WN.setCell ⟨b,12+t,none⟩ (dx ix)=WM:=hWM;rw[hWM'] at h7 f7
    have H7:Hid (DNs X WM b nA q):=by show DNs X WM b nA q;rw[←HNA.out];have e:(n.next.set t kt1).set t ix=n.next.set t ix:=List.set_set ..;have h9:DNs X WM b { n with next:=(n.next.set t kt1).set t ix } q:=h7;rw[e] at h9;exact h9
    have T7:Hid (WM.heap[g0]? = some (.cells (cM m) 32 (0,0))):=f7.keep _ _ T6.out gb.out;have FP7:Hid (Fr (fun c _=>c≠b) w WM):=FP6.out.trans f7;clear h7 f7 hWM';have TOC:=zH (fun W' (f:Fr (fun _ _=>True) WM W')=>TO.out W' (H7.out.tt f));have v7:=(VH.out WM T7.out).2.2.2.2;clear CC LAST TO;refine wpN 11 rfl fun K' hK=>?_
    (try simp only[gA,gB,gC]);go_simp;refine hK.out _ _ ?_;clear hK K';refine wpN 12 rfl fun K' hK=>?_
    (try simp only[gA,gB,gC]);go_simp;refine hK.out _ _ ?_;clear hK K';refine wpF ?_
    try rw[hWN]
    clear hWN an0 an1;go_wp2_with fail
    try rw[hWM]
    clear hWM z12 u12;go_quiet (fail)
    have UQ5:Hid (Fr (fun _ _=>True) WM (WM.drewN nq)):=(Fr.refl _ WM).drewN nq;generalize WM.drewN nq=W6 at UQ5 ⊢;have TOC1:=zH (TOC.out W6 UQ5.out);clear v7 TOC;go_wp2_with fail
    (with_reducible refine TOC1.out.mono ?_);rintro e W7 ⟨⟨v,mvs,rfl,o7,e7⟩,f7⟩;have HH:=zH (And.intro o7 (And.intro e7 f7));clear o7 e7 f7 TOC1;go_wp2;go_ret;rw[E.out];exact⟨q,_,mvs,rfl,(H7.out.tt UQ5.out).tt HH.out.2.2,(FP7.out.trans (UQ5.out.mono fun _ _ _=>trivial)).trans (HH.out.2.2.mono fun _ _ _=>trivial),HH.out.1.lo (FP7.out.trans (UQ5.out.mono fun _ _ _=>trivial)).size,HH.out.2.1⟩
   ·have gq:decide (kt1<ix)=false:=decide_eq_false hq;rw[show fi=kt1 by have:=HFI.out;have:=HPP.out;omega] at HNA;clear hq
    have H7:Hid (DNs X WN b nA q):=by show DNs X WN b nA q;rw[←HNA.out];exact H6.out
    have T7:=T6;have FP7:=FP6;have TOC:=zH (fun W' (f:Fr (fun _ _=>True) WN W')=>TO.out W' (H7.out.tt f));have v7:=(VH.out WN T7.out).2.2.2.2;clear CC LAST TO;refine wpN 11 rfl fun K' hK=>?_
    (try simp only[gA,gB,gC]);go_simp;refine hK.out _ _ ?_;clear hK K';refine wpN 12 rfl fun K' hK=>?_
    (try simp only[gA,gB,gC]);go_simp;refine hK.out _ _ ?_;clear hK K';refine wpF ?_
    try rw[hWN]
    clear hWN an0 an1;go_wp2_with fail
    clear z12 u12;go_quiet (fail)
    have UQ5:Hid (Fr (fun _ _=>True) WN (WN.drewN nq)):=(Fr.refl _ WN).drewN nq;generalize WN.drewN nq=W6 at UQ5 ⊢;have TOC1:=zH (TOC.out W6 UQ5.out);clear v7 TOC;go_wp2_with fail
    (with_reducible refine TOC1.out.mono ?_);rintro e W7 ⟨⟨v,mvs,rfl,o7,e7⟩,f7⟩;have HH:=zH (And.intro o7 (And.intro e7 f7));clear o7 e7 f7 TOC1;go_wp2;go_ret;rw[E.out];exact⟨q,_,mvs,rfl,(H7.out.tt UQ5.out).tt HH.out.2.2,(FP7.out.trans (UQ5.out.mono fun _ _ _=>trivial)).trans (HH.out.2.2.mono fun _ _ _=>trivial),HH.out.1.lo (FP7.out.trans (UQ5.out.mono fun _ _ _=>trivial)).size,HH.out.2.1⟩
end
end Go.Proofs.YtmjccpfchhnfhaaGreat
