/- Texts of the proofs, part 45: what the functions that they reach do, walked; no conditions beyond those that each states. -/
import Derived.Test.YtmjccpfchhnfhaaGreatZk9dc66f5db6
set_option linter.unusedVariables false
set_option linter.unusedSimpArgs false
set_option maxRecDepth 100000
set_option maxHeartbeats 8000000
namespace Go.Proofs.YtmjccpfchhnfhaaGreat
open Go.RowKit
theorem Ck [Old] {X P X2:Nat→Prop} {w:World} {rb rd b d ap:Nat} {n:Nd} {q:NV} {q2:DV} (hrb:RB w rb b ap) (hrd:RD w rd d ap) (h:PNs X P w b n q) (k:DNs X2 w d n q2) (hyl:n.yes.length≤maxLen) (hcl:n.conf.length≤maxLen) (hle:n.log.es.length≤1000000):
 Calls Tryz.prog 40 #[.pointer (some ⟨rb,0,none⟩),.pointer (some ⟨rd,0,none⟩)] w fun e w'=>e=.returned (.bool true)∧FT w w':=by
 obtain⟨vc,hvc⟩:=zE q.vc;obtain⟨vd,hvd⟩:=zE q2.vc;obtain⟨vy,hvy⟩:=zE q.vy;obtain⟨ve,hve⟩:=zE q.ve;obtain⟨bn,hbn⟩:=zE q.bn;obtain⟨cn,hcn⟩:=zE q.cn;obtain⟨bm,hbm⟩:=zE q.bm;obtain⟨cm,hcm⟩:=zE q.cm;refine kr8 ?_;intro bs hbs bt hbt;obtain⟨ae,le,ce,hv2,-,-,hes,-⟩:=k.lg
 have CX:Hid (∀W,FT w W→W.cell? ⟨b,0,none⟩=some (.int .i64 n.me)∧W.cell? ⟨b,1,none⟩=some (.int .i64 n.vote)∧W.cell? ⟨b,2,none⟩=some (.int .i64 n.role)∧W.cell? ⟨b,3,none⟩=some (.int .i64 n.ld)∧W.cell? ⟨b,4,none⟩=some vc∧W.cell? ⟨b,5,none⟩=some vy∧W.cell? ⟨b,6,none⟩=some (.int .u64 (n.tm:Nat))∧W.cell? ⟨b,7,none⟩=some (.int .u64 (n.commit:Nat))∧W.cell? ⟨b,8,none⟩=some (.int .u64 (bs:Nat))∧W.cell? ⟨b,9,none⟩=some (.int .u64 (bt:Nat))∧W.cell? ⟨b,10,none⟩=some ve∧W.cell? ⟨b,11,none⟩=some (.bool n.heard)∧W.cell? ⟨b,12,none⟩=some (.slice (some ⟨bn,0,none⟩) 16 cn)∧W.cell? ⟨b,13,none⟩=some (.slice (some ⟨bm,0,none⟩) 16 cm)):=fun W f=>by have:=h.cells f;rw[hvc,hvy,hve,hbn,hcn,hbm,hcm,hbs,hbt] at this;exact this
 have CY:Hid (∀W,FT w W→W.cell? ⟨d,8,none⟩=some (.int .u64 (bs:Nat))∧W.cell? ⟨d,9,none⟩=some (.int .u64 (bt:Nat))∧W.cell? ⟨d,10,none⟩=some (.slice ae le ce)∧W.cell? ⟨d,4,none⟩=some vd):=fun W f=>by obtain⟨x0,x1,x2,x3,x4,x5,x6,x7,x8,x9,x10,x11⟩:=k.cells f;exact⟨by rw[x8,hbs],by rw[x9,hbt],by rw[x10,hv2],by rw[x4,hvd]⟩
 have CZ:Hid (∀W,FT w W→(∀i,i<16→W.cell? ⟨d,12+i,none⟩=some (c16 n.next i))∧∀i,i<16→W.cell? ⟨d,28+i,none⟩=some (c16 n.mat i)):=fun W f=>⟨fun i hi=>k.nxt f i hi,fun i hi=>k.mtc f i hi⟩
 have SC:Hid (∀W,FT w W→Calls Tryz.prog 59 #[.int .i64 n.me,.int .i64 n.vote,.int .i64 n.role,.int .i64 n.ld,vy,.int .u64 (n.tm:Nat),.int .u64 (n.commit:Nat),.bool n.heard,.pointer (some ⟨d,0,none⟩)] W fun e w'=>e=.returned (.bool true)∧FT W w'):=fun W f=>LQ (k.tt f) vy (hvy▸(h.ye.tt f).ints) hyl
 have LC:Hid (∀W,FT w W→Calls Tryz.prog 60 #[.int .u64 (bs:Nat),.int .u64 (bt:Nat),ve,.agg #[.int .u64 (bs:Nat),.int .u64 (bt:Nat),.slice ae le ce]] W fun e w'=>e=.returned (.bool true)∧FT W w'):=fun W f=>by
  have h1:=h.ev.tt f;rw[hve] at h1;have e:q.es.map EV.en=q2.es.map EV.en:=h.ee.symm.trans k.ee;refine(Dz W bs bt bs bt ve ae le ce q.es q2.es h1.row (hes W f).row h1.dat (fun x hx=>((hes W f).dat x hx).1) (by have:=congrArg List.length h.ee;rw[List.length_map] at this;omega)).mono fun e2 w' hh=>⟨?_,?_⟩
  ·rw[hh.1,e];simp
  ·exact hh.2
 have NX:Hid (∀W,FT w W→Calls Tryz.prog 61 #[.slice (some ⟨bn,0,none⟩) 16 cn,V16 n.next] W fun e w'=>e=.returned (.bool true)∧FT W w'):=fun W f=>qV W bn cn n.next (hbn▸h.nx.fr f fun _ _=>trivial)
 have MT:Hid (∀W,FT w W→Calls Tryz.prog 61 #[.slice (some ⟨bm,0,none⟩) 16 cm,V16 n.mat] W fun e w'=>e=.returned (.bool true)∧FT W w'):=fun W f=>qV W bm cm n.mat (hbm▸h.mt.fr f fun _ _=>trivial)
 have NC:Hid (∀W,FT w W→Calls Tryz.prog 22 #[vc,vd] W fun e w'=>e=.returned (.bool true)∧FT W w'):=fun W f=>(tZ W vc vd n.conf n.conf (hvc▸h.cf.tt f) (hvd▸k.cf.tt f) hcl).mono fun e w' ⟨h1,h2⟩=>⟨by rw[h1,decide_eq_true rfl],h2⟩
 have CR:Hid (∀W,FT w W→W.cell? ⟨rb,1,none⟩=some (.int .u64 (ap:Nat))∧W.cell? ⟨rd,1,none⟩=some (.int .u64 (ap:Nat))):=fun W f=>⟨bQ (f.keep _ _ hrb trivial) rfl,bQ (f.keep _ _ hrd trivial) rfl⟩
 have g0:w.cell? ⟨rb,0,none⟩=some (.pointer (some ⟨b,0,none⟩)):=bQ hrb rfl;have g1:w.cell? ⟨rd,0,none⟩=some (.pointer (some ⟨d,0,none⟩)):=bQ hrd rfl
 have C3:Hid (∀W,FT w W→W.cell? ⟨b,0,none⟩=some (.int .i64 n.me)∧W.cell? ⟨b,1,none⟩=some (.int .i64 n.vote)∧W.cell? ⟨b,2,none⟩=some (.int .i64 n.role)∧W.cell? ⟨b,3,none⟩=some (.int .i64 n.ld)∧W.cell? ⟨b,5,none⟩=some (vy)∧W.cell? ⟨b,6,none⟩=some (.int .u64 (n.tm:Nat))∧W.cell? ⟨b,7,none⟩=some (.int .u64 (n.commit:Nat))∧W.cell? ⟨b,11,none⟩=some (.bool n.heard)):=fun W f=>by obtain⟨x0,x1,x2,x3,x4,x5,x6,x7,x8,x9,x10,x11,x12,x13⟩:=CX W f;exact⟨x0,x1,x2,x3,x5,x6,x7,x11⟩
 have C4:Hid (∀W,FT w W→W.cell? ⟨b,8,none⟩=some (.int .u64 (bs:Nat))∧W.cell? ⟨b,9,none⟩=some (.int .u64 (bt:Nat))∧W.cell? ⟨b,10,none⟩=some (ve)∧W.cell? ⟨d,8,none⟩=some (.int .u64 (bs:Nat))∧W.cell? ⟨d,9,none⟩=some (.int .u64 (bt:Nat))∧W.cell? ⟨d,10,none⟩=some (.slice ae le ce)):=fun W f=>by obtain⟨x0,x1,x2,x3,x4,x5,x6,x7,x8,x9,x10,x11,x12,x13⟩:=CX W f;obtain⟨y8,y9,y10,y4⟩:=CY W f;exact⟨x8,x9,x10,y8,y9,y10⟩
 have C5:Hid (∀W,FT w W→W.cell? ⟨b,4,none⟩=some (vc)∧W.cell? ⟨b,12,none⟩=some (.slice (some ⟨bn,0,none⟩) 16 cn)∧W.cell? ⟨b,13,none⟩=some (.slice (some ⟨bm,0,none⟩) 16 cm)∧W.cell? ⟨d,4,none⟩=some (vd)∧W.cell? ⟨rb,1,none⟩=some (.int .u64 (ap:Nat))∧W.cell? ⟨rd,1,none⟩=some (.int .u64 (ap:Nat))):=fun W f=>by obtain⟨x0,x1,x2,x3,x4,x5,x6,x7,x8,x9,x10,x11,x12,x13⟩:=CX W f;obtain⟨y8,y9,y10,y4⟩:=CY W f;obtain⟨a0,a1⟩:=CR W f;exact⟨x4,x12,x13,y4,a0,a1⟩
 clear h k hyl hle hvy hve hbn hcn hbm hcm hbs hbt hv2 hes hvc hvd hcl hrb hrd CX CY CR;go_enter Tryz.func40,Tryz.ntmps40
 go_upto_region 2 with fail
 rename_i K1 h1;have H1:=zH h1;clear h1;go_wp2_with fail
 exact H1 _ _ (sm13_3 (R:=fun e w'=>e=.returned (.bool true)∧FT w w') NC NX MT SC LC C3 C4 C5 CZ (fun W f=>⟨rfl,f⟩) _ rfl rfl ⟨rfl,rfl,rfl,rfl,trivial⟩)
structure StV where
 me:Int
 role:Int
 vote:Int
 ld:Int
 ac:Option Addr
 cc:Nat
 conf:List Int
 tm:Nat
 commit:Nat
 base:Nat
 bt:Nat
 ae:Option Addr
 ce:Nat
 es:List EV
 an:Option Addr
 cn:Nat
 next:List Nat
 am:Option Addr
 cm:Nat
 mat:List Nat
def StV.nd (s:StV):Nd:={ Nd.new s.me s.conf with vote:=s.vote,role:=s.role,ld:=s.ld,tm:=s.tm,commit:=s.commit,log:=⟨s.base,s.bt,s.es.map EV.en⟩,next:=s.next,mat:=s.mat }
section
variable {X P:Nat→Prop} {w w':World} {b:Nat} {n0 n:Nd} {q0:NV}
end
theorem A16.of_own {w:World} {B g c:Nat} {a:Option Addr} {l:List Nat} (h:w.ownsRow B 23 1 (.slice a 16 c) 16 (l.flatMap encW)) (hl:l.length=16):∃g,a=some ⟨g,0,none⟩∧B≤g∧A16 w g l:=by
 obtain⟨h1,h2⟩:=h;rcases h2 with⟨h2,h3⟩ | ⟨g,c',cur,e,hb,h4,-,-,h5,h6⟩
 ·cases h2
 ·cases e;refine⟨g,rfl,hb,hl,cur,h4,fun i hi=>?_⟩;have e2:(cur.toList.take (16*1))[i]? = (l.flatMap encW)[i]?:=by rw[h6]
  rw[List.getElem?_take_of_lt (by omega),Array.getElem?_toList,zx,List.getElem?_map,List.getElem?_eq_getElem (l:=l) (i:=i) (by rw[hl];exact hi)] at e2;rw[e2,List.getD_eq_getElem?_getD,List.getElem?_eq_getElem (by omega)];rfl
def up (l:List Nat) (k:Nat):List Nat:=l.take k++List.replicate (16-k) 0
end Go.Proofs.YtmjccpfchhnfhaaGreat
