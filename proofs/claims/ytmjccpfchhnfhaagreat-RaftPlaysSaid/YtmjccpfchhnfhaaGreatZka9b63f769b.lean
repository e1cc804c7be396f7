/- Texts of the proofs, part 6: what the functions that they reach do, walked; no conditions beyond those that each states. -/
import Derived.Test.YtmjccpfchhnfhaaGreatProg
import Derived.Test.YtmjccpfchhnfhaaGreatZkc3329a6c2b
set_option linter.unusedVariables false
set_option linter.unusedSimpArgs false
set_option maxRecDepth 100000
set_option maxHeartbeats 8000000
namespace Go.Proofs.YtmjccpfchhnfhaaGreat
open Go.RowKit
def qy (b:UInt8):Value:=.int .u8 b.toNat
def BytesAt (K:Nat→Obj→Prop) (w:World) (v:Value) (bs:List UInt8):Prop:=
 ∃a cap,v=.slice a bs.length cap∧bs.length≤cap∧(a=none→cap=0)∧(bs=[]∨∃b off o,a=some ⟨b,off,none⟩∧w.heap[b]? = some o∧K b o∧∀i,(h:i<bs.length)→w.cell? ⟨b,off+i,none⟩=some (qy bs[i]))
theorem BytesAt.nil (K:Nat→Obj→Prop) (w:World):BytesAt K w (.slice none 0 0) []:=⟨none,0,rfl,Nat.le_refl _,fun _=>rfl,.inl rfl⟩
theorem BytesAt.fr {K:Nat→Obj→Prop} {w w':World} {v:Value} {bs:List UInt8} (h:BytesAt K w v bs) (hf:Fr K w w'):BytesAt K w' v bs:=by
 obtain⟨a,cap,hv,hl,hn,h⟩:=h;refine⟨a,cap,hv,hl,hn,?_⟩;rcases h with h | ⟨b,off,o,ha,hb,hk,hc⟩
 ·exact .inl h
 ·refine .inr ⟨b,off,o,ha,hf.keep b o hb hk,hk,fun i hi=>?_⟩;exact hf.cell (fun o' ho=>by rw[hb] at ho;cases ho;exact hk) (hc i hi)
theorem BytesAt.mono {K K':Nat→Obj→Prop} {w:World} {v:Value} {bs:List UInt8} (h:BytesAt K w v bs) (hK:∀b o,w.heap[b]? = some o→K b o→K' b o):BytesAt K' w v bs:=by
 obtain⟨a,cap,hv,hl,hn,h⟩:=h;refine⟨a,cap,hv,hl,hn,?_⟩;rcases h with h | ⟨b,off,o,ha,hb,hk,hc⟩
 ·exact .inl h
 ·exact .inr ⟨b,off,o,ha,hb,hK b o hb hk,hc⟩
theorem BytesAt.form {K:Nat→Obj→Prop} {w:World} {v:Value} {bs:List UInt8} (h:BytesAt K w v bs):∃a cap,v=.slice a bs.length cap:=by
 obtain⟨a,cap,hv,_⟩:=h;exact⟨a,cap,hv⟩
theorem BytesAt.tt {K:Nat→Obj→Prop} {w w':World} {v:Value} {bs:List UInt8} (h:BytesAt K w v bs) (hf:FT w w'):BytesAt K w' v bs:=h.fr (hf.tT)
theorem BytesAt.cell {K:Nat→Obj→Prop} {w:World} {b off n cap:Nat} {bs:List UInt8} (h:BytesAt K w (.slice (some ⟨b,off,none⟩) n cap) bs) {i:Nat} (hi:i<bs.length):w.cell? ⟨b,off+i,none⟩=some (qy bs[i]):=by
 obtain⟨a,cap,hv,hl,hn,h⟩:=h;rcases h with rfl | ⟨b',off',o,ha,hb,hk,hc⟩
 ·simp at hi
 ·subst ha;cases hv;exact hc i hi
theorem BytesAt.len {K:Nat→Obj→Prop} {w:World} {a:Option Addr} {n cap:Nat} {bs:List UInt8} (h:BytesAt K w (.slice a n cap) bs):n=bs.length:=by
 obtain⟨a,cap,hv,_⟩:=h;cases hv;rfl
theorem BytesAt.addr {K:Nat→Obj→Prop} {w:World} {a:Option Addr} {n cap:Nat} {bs:List UInt8} (h:BytesAt K w (.slice a n cap) bs) (h0:0<bs.length):∃b off,a=some ⟨b,off,none⟩:=by
 obtain⟨a',cap,hv,hl,hn,h⟩:=h;rcases h with rfl | ⟨b',off',o,ha,_⟩
 ·simp at h0
 ·cases hv;exact⟨_,_,ha⟩
def New (n:Nat) (b:Nat) (o:Obj):Prop:=n≤b∧∃cs fz,o=.cells cs 5 fz
theorem info_u8:(Tryz.prog.info? 5).map (fun i=>(i.zero,i.size,i.bytes))=some (some (.int .u8 0),1,1):=by kernel_rfl
theorem BytesAt.of_owns {w:World} {B:Nat} {v:Value} {bs:List UInt8} (h:w.ownsRow B 5 1 v bs.length (bs.map qy)):BytesAt (New B) w v bs:=by
 obtain⟨h1,h2⟩:=h;rcases h2 with⟨hv,hn⟩ | ⟨g,cap,cur,hv,hg,hh,hn,hc,hs,ht⟩
 ·have e:=List.length_eq_zero_iff.1 hn;subst e hv;exact BytesAt.nil _ _
 ·refine⟨_,cap,hv,hn,(fun e=>by cases e),.inr ⟨g,0,_,rfl,hh,⟨hg,_,_,rfl⟩,fun i hi=>?_⟩⟩;have e1:cur.toList[i]? = (bs.map qy)[i]?:=by rw[←ht,List.getElem?_take,if_pos (by omega)]
  have e2:cur[i]? = some (qy bs[i]):=by rw[←Array.getElem?_toList,e1];simp [hi]
  simp [World.cell?,hh,e2]
theorem Pq (w:World):Calls Tryz.prog 75 #[.slice none 0 0] w fun e w'=>e=.returned (.slice none 0 0)∧w=w':=by
 have hq:=fun(w:World) (a:Option Addr) (n c n' c':Nat)=>Lib.run_eql_slice_nil (P:=Tryz.prog) w 30 5 a n c n' c' Tryz.underlying30
 go_enter Tryz.func75,Tryz.ntmps75
 exact m6T
theorem BytesAt.src {K:Nat→Obj→Prop} {w:World} {v:Value} {bs:List UInt8} (h:BytesAt K w v bs):sX w 1 v bs.length (bs.map qy):=by
 obtain⟨a,cap,rfl,hl,hn,h⟩:=h;cases a with
 | none=>
  have:=hn rfl;have e:bs.length=0:=by omega
  have e':=List.length_eq_zero_iff.1 e;subst e' this;exact .inl ⟨rfl,rfl,rfl⟩
 | some ad=>
  refine .inr ⟨ad,cap,rfl,by simp,fun j u hu=>?_,fun u hu=>?_⟩
  ·have hj:j<bs.length:=by
    rcases Nat.lt_or_ge j bs.length with h1 | h1
    ·exact h1
    ·rw[List.getElem?_eq_none (by simpa using h1)] at hu;cases hu
   have hu':u=qy bs[j]:=by exact mur
   rcases h with rfl | ⟨b,off,o,ha,hb,hk,hc⟩
   ·simp at hj
   ·cases ha;rw[hu'];have e1:=hc j hj;unfold Addr.add;split
    ·subst j;exact e1
    ·exact e1
  ·obtain⟨x,_,rfl⟩:=List.mem_map.1 hu;rfl
theorem Lx {K:Nat→Obj→Prop} (w:World) (ad:Addr) (n cap:Nat) (bs:List UInt8) (h:BytesAt K w (.slice (some ad) n cap) bs) (hm:n≤140737488355328):
 Calls Tryz.prog 75 #[.slice (some ad) n cap] w fun e w'=>∃v,e=.returned v∧w'.ownsRow w.heap.size 5 1 v n (bs.map qy)∧FT w w':=by
 have hq:=fun(w:World) (a:Option Addr) (n c n' c':Nat)=>Lib.run_eql_slice_nil (P:=Tryz.prog) w 30 5 a n c n' c' Tryz.underlying30
 obtain⟨i0,hi,hz0,hz1,hz2⟩:=info_parts info_u8;have hn:=h.len;have hown:(w.alloc (.cells #[] 5)).ownsRow w.heap.size 5 1 (.slice (some ⟨w.heap.size,0,none⟩) 0 0) 0 []:=World.ownsRow_lit w #[] 0 (Nat.le_refl _) (by simp) rfl
 have hsrc:sX (w.alloc (.cells #[] 5)) 1 (.slice (some ad) n cap) n (bs.map qy):=by
  have:=(h.tt ((Fr.refl _ _).alloc (.cells #[] 5))).src
  rwa [←hn] at this
 clear h hn;go_enter Tryz.func75,Tryz.ntmps75
 go_wp2_with (at_builtin;refine cj _ rfl _ _ 30 rfl w.heap.size 5 i0 (.int .u8 0) 1 1 Tryz.underlying30 hi hz0 hz1 hz2 rfl (by decide) _ 0 [] rfl hown _ n (bs.map qy) rfl hsrc ?c2 ?c3 ?c4 ?_)
 case c2=>unfold maxLen;omega
 case c3=>omega
 case c4=>simp
 intro v w1 hown1 hg hnil;go_wp2;go_ret;exact⟨v,rfl,by simpa using hown1,(Fr.alloc (Fr.refl _ _) _).grown_new hg fun k e=>by simp [Value.ownBlock] at e;omega⟩
theorem D4 {K:Nat→Obj→Prop} (w:World) (v:Value) (bs:List UInt8) (h:BytesAt K w v bs) (hm:bs.length≤140737488355328):
 Calls Tryz.prog 75 #[v] w fun e w'=>∃a cap,e=.returned (.slice a bs.length cap)∧BytesAt (New w.heap.size) w' (.slice a bs.length cap) bs∧FT w w':=by
 obtain⟨a,cap,rfl,hl,hn,h'⟩:=id h;cases a with
 | none=>
  have:=hn rfl;have e:bs.length=0:=by omega
  have e':=List.length_eq_zero_iff.1 e;subst e' this;exact(Pq w).mono fun e w' ⟨he,hw⟩=>⟨none,0,he,BytesAt.nil _ _,hw▸Fr.refl _ _⟩
 | some ad=>
  refine(Lx w ad _ cap bs h hm).mono fun e w' ⟨v,he,ho,hf⟩=>?_
  have hv:=BytesAt.of_owns ho;obtain⟨a,cap,rfl⟩:=hv.form;exact⟨a,cap,he,hv,hf⟩
end Go.Proofs.YtmjccpfchhnfhaaGreat
