/- Texts of the proofs, part 34: what the functions that they reach do, walked; no conditions beyond those that each states. -/
import Derived.Test.YtmjccpfchhnfhaaGreatZz8427f5f4f6
set_option linter.unusedVariables false
set_option linter.unusedSimpArgs false
/- Law 12: both, where there is none (printed by he.py). -/
namespace Go.Proofs.YtmjccpfchhnfhaaGreat
open Go.RowKit
set_option linter.unusedVariables false
set_option linter.unusedSimpArgs false
structure StV where
 me : Int
 role : Int
 vote : Int
 ld : Int
 ac : Option Addr
 cc : Nat
 conf : List Int
 tm : Nat
 commit : Nat
 base : Nat
 bt : Nat
 ae : Option Addr
 ce : Nat
 es : List EV
 an : Option Addr
 cn : Nat
 next : List Nat
 am : Option Addr
 cm : Nat
 mat : List Nat
def cS (s : StV) : Array Value := #[.int .i64 s.me, .int .i64 s.role, .int .i64 s.vote, .int .i64 s.ld, .slice s.ac s.conf.length s.cc, .int .u64 (s.tm : Nat), .int .u64 (s.commit : Nat), .int .u64 (s.base : Nat), .int .u64 (s.bt : Nat), .slice s.ae s.es.length s.ce, .slice s.an s.next.length s.cn, .slice s.am s.mat.length s.cm]
theorem sbox (w : World) (s : StV) : ∃ W, w.alloc (.cells (cS s) 29 (0, 0)) = W ∧ Hid (Fr (fun _ _ => True) w W) ∧ Hid (W.heap[w.heap.size]? = some (.cells (cS s) 29 (0, 0))) := ⟨_, rfl, (Fr.refl _ _).alloc _, heap_alloc_new w _⟩
theorem scells {W : World} {g : Nat} {s : StV} (h : W.heap[g]? = some (.cells (cS s) 29 (0, 0))) : W.cell? ⟨g, 0, none⟩ = some (.int .i64 s.me) ∧ W.cell? ⟨g, 1, none⟩ = some (.int .i64 s.role) ∧ W.cell? ⟨g, 2, none⟩ = some (.int .i64 s.vote) ∧ W.cell? ⟨g, 3, none⟩ = some (.int .i64 s.ld) ∧ W.cell? ⟨g, 4, none⟩ = some (.slice s.ac s.conf.length s.cc) ∧ W.cell? ⟨g, 5, none⟩ = some (.int .u64 (s.tm : Nat)) ∧ W.cell? ⟨g, 6, none⟩ = some (.int .u64 (s.commit : Nat)) ∧ W.cell? ⟨g, 7, none⟩ = some (.int .u64 (s.base : Nat)) ∧ W.cell? ⟨g, 8, none⟩ = some (.int .u64 (s.bt : Nat)) ∧ W.cell? ⟨g, 9, none⟩ = some (.slice s.ae s.es.length s.ce) ∧ W.cell? ⟨g, 10, none⟩ = some (.slice s.an s.next.length s.cn) ∧ W.cell? ⟨g, 11, none⟩ = some (.slice s.am s.mat.length s.cm) :=
 ⟨cell_mk h rfl, cell_mk h rfl, cell_mk h rfl, cell_mk h rfl, cell_mk h rfl, cell_mk h rfl, cell_mk h rfl, cell_mk h rfl, cell_mk h rfl, cell_mk h rfl, cell_mk h rfl, cell_mk h rfl⟩
structure StV.good (s : StV) : Prop where
 right : rightQ s.conf = true
 base : s.base < 1152921504606846976
 len : s.es.length ≤ 20
 me : 0 ≤ s.me ∧ s.me ≤ 15
 role : 0 ≤ s.role ∧ s.role ≤ 3
 tm : s.tm < 1152921504606846976
 commit : s.commit < 1152921504606846976
 n16 : s.next.length = 16
 m16 : s.mat.length = 16
def NoneOut (w : World) (e : Ending) (w' : World) : Prop := e = .returned (.tuple #[.pointer none, .pointer none]) ∧ Fr (fun _ _ => True) w w'
set_option maxRecDepth 100000 in
set_option maxHeartbeats 4000000 in
theorem both_none {K : Nat → Obj → Prop} (w : World) (s : StV) (hc : IntsAt K w (.slice s.ac s.conf.length s.cc) s.conf) (hcl : s.conf.length ≤ maxLen) (hng : ¬ s.good) :
  Calls Tryz.prog 8 #[.agg (cS s)] w fun e w' => NoneOut w e w' := by
 obtain ⟨W1, hW1, F1, X1⟩ := sbox w s
 obtain ⟨x0, x1, x2, x3, x4, x5, x6, x7, x8, x9, x10, x11⟩ := scells X1.out
 obtain ⟨rt, hrt⟩ : ∃ x, rightQ s.conf = x := ⟨_, rfl⟩
 obtain ⟨sh, hsh⟩ : ∃ x, (decide (s.base < 1152921504606846976) && decide (s.es.length ≤ 20)) = x := ⟨_, rfl⟩
 have RC : Hid (Calls Tryz.prog 47 #[.slice s.ac s.conf.length s.cc] W1 fun e w' => e = .returned (.bool rt) ∧ W1 = w') := hrt ▸ rright_calls W1 _ s.conf (hc.tt F1.out) hcl
 have SC : Hid (Calls Tryz.prog 48 #[.int .u64 (s.base : Nat), .slice s.ae s.es.length s.ce, .int .i64 20] W1 fun e w' => e = .returned (.bool sh) ∧ W1 = w') := hsh ▸ dshort_calls W1 s.base s.es.length 20 s.ae s.ce
 obtain ⟨me, hme⟩ : ∃ x, s.me = x := ⟨_, rfl⟩
 obtain ⟨ro, hro⟩ : ∃ x, s.role = x := ⟨_, rfl⟩
 obtain ⟨tm, htm⟩ : ∃ x, s.tm = x := ⟨_, rfl⟩
 obtain ⟨co, hco⟩ : ∃ x, s.commit = x := ⟨_, rfl⟩
 obtain ⟨nl, hnl⟩ : ∃ x, s.next.length = x := ⟨_, rfl⟩
 obtain ⟨ml, hml⟩ : ∃ x, s.mat.length = x := ⟨_, rfl⟩
 have NG : Hid (rt = true → sh = true → ¬ me < 0 → ¬ 15 < me → ¬ ro < 0 → ¬ 3 < ro → ¬ (1152921504606846976 : Int) ≤ (tm : Int) → ¬ (1152921504606846976 : Int) ≤ (co : Int) → nl = 16 → ml = 16 → False) := fun a1 a2 a3 a4 a5 a6 a7 a8 a9 a10 => hng (by
  rw [← hsh, Bool.and_eq_true, decide_eq_true_eq, decide_eq_true_eq] at a2
  exact ⟨hrt.trans a1, a2.1, a2.2, ⟨by omega, by omega⟩, ⟨by omega, by omega⟩, by omega, by omega, by omega, by omega⟩)
 rw [hme] at x0
 rw [hro] at x1
 rw [htm] at x5
 rw [hco] at x6
 rw [hnl] at x10
 rw [hml] at x11
 unfold cS at hW1 ⊢
 clear X1 hc hcl hng hrt hsh hme hro htm hco hnl hml
 cases rt with
 | false =>
  clear NG
  go_enter Tryz.func8, Tryz.ntmps8
  go_wp2_with fail
  try rw [hW1]
  (with_reducible refine RC.out.mono ?_)
  rintro e w1 ⟨rfl, rfl⟩
  go_wp2_with fail
  (with_reducible refine SC.out.mono ?_)
  rintro e w2 ⟨rfl, rfl⟩
  go_wp2
  (try simp only [Exit.inBlock, Exit.then])
  refine bodyPost_ret (results_tmp2 rfl _ _ _) rfl ?_
  exact ⟨rfl, F1.out⟩
 | true =>
  cases sh with
  | false =>
   clear NG
   go_enter Tryz.func8, Tryz.ntmps8
   go_wp2_with fail
   try rw [hW1]
   (with_reducible refine RC.out.mono ?_)
   rintro e w1 ⟨rfl, rfl⟩
   go_wp2_with fail
   (with_reducible refine SC.out.mono ?_)
   rintro e w2 ⟨rfl, rfl⟩
   go_wp2
   (try simp only [Exit.inBlock, Exit.then])
   refine bodyPost_ret (results_tmp2 rfl _ _ _) rfl ?_
   exact ⟨rfl, F1.out⟩
  | true =>
   by_cases c2 : me < 0
   ·clear NG
    go_enter Tryz.func8, Tryz.ntmps8
    go_wp2_with fail
    try rw [hW1]
    (with_reducible refine RC.out.mono ?_)
    rintro e w1 ⟨rfl, rfl⟩
    go_wp2_with fail
    (with_reducible refine SC.out.mono ?_)
    rintro e w2 ⟨rfl, rfl⟩
    go_wp2
    (try simp only [Exit.inBlock, Exit.then])
    refine bodyPost_ret (results_tmp2 rfl _ _ _) rfl ?_
    exact ⟨rfl, F1.out⟩
   ·skip
    by_cases c3 : 15 < me
    ·clear NG
     go_enter Tryz.func8, Tryz.ntmps8
     go_wp2_with fail
     try rw [hW1]
     (with_reducible refine RC.out.mono ?_)
     rintro e w1 ⟨rfl, rfl⟩
     go_wp2_with fail
     (with_reducible refine SC.out.mono ?_)
     rintro e w2 ⟨rfl, rfl⟩
     go_wp2
     (try simp only [Exit.inBlock, Exit.then])
     refine bodyPost_ret (results_tmp2 rfl _ _ _) rfl ?_
     exact ⟨rfl, F1.out⟩
    ·skip
     by_cases c4 : ro < 0
     ·clear NG
      go_enter Tryz.func8, Tryz.ntmps8
      go_wp2_with fail
      try rw [hW1]
      (with_reducible refine RC.out.mono ?_)
      rintro e w1 ⟨rfl, rfl⟩
      go_wp2_with fail
      (with_reducible refine SC.out.mono ?_)
      rintro e w2 ⟨rfl, rfl⟩
      go_wp2
      (try simp only [Exit.inBlock, Exit.then])
      refine bodyPost_ret (results_tmp2 rfl _ _ _) rfl ?_
      exact ⟨rfl, F1.out⟩
     ·skip
      by_cases c5 : 3 < ro
      ·clear NG
       go_enter Tryz.func8, Tryz.ntmps8
       go_wp2_with fail
       try rw [hW1]
       (with_reducible refine RC.out.mono ?_)
       rintro e w1 ⟨rfl, rfl⟩
       go_wp2_with fail
       (with_reducible refine SC.out.mono ?_)
       rintro e w2 ⟨rfl, rfl⟩
       go_wp2
       (try simp only [Exit.inBlock, Exit.then])
       refine bodyPost_ret (results_tmp2 rfl _ _ _) rfl ?_
       exact ⟨rfl, F1.out⟩
      ·skip
       by_cases c6 : (1152921504606846976 : Int) ≤ (tm : Int)
       ·clear NG
        go_enter Tryz.func8, Tryz.ntmps8
        go_wp2_with fail
        try rw [hW1]
        (with_reducible refine RC.out.mono ?_)
        rintro e w1 ⟨rfl, rfl⟩
        go_wp2_with fail
        (with_reducible refine SC.out.mono ?_)
        rintro e w2 ⟨rfl, rfl⟩
        go_wp2
        (try simp only [Exit.inBlock, Exit.then])
        refine bodyPost_ret (results_tmp2 rfl _ _ _) rfl ?_
        exact ⟨rfl, F1.out⟩
       ·skip
        by_cases c7 : (1152921504606846976 : Int) ≤ (co : Int)
        ·clear NG
         go_enter Tryz.func8, Tryz.ntmps8
         go_wp2_with fail
         try rw [hW1]
         (with_reducible refine RC.out.mono ?_)
         rintro e w1 ⟨rfl, rfl⟩
         go_wp2_with fail
         (with_reducible refine SC.out.mono ?_)
         rintro e w2 ⟨rfl, rfl⟩
         go_wp2
         (try simp only [Exit.inBlock, Exit.then])
         refine bodyPost_ret (results_tmp2 rfl _ _ _) rfl ?_
         exact ⟨rfl, F1.out⟩
        ·skip
         by_cases c8 : nl = 16
         ·by_cases c9 : ml = 16
          ·exact (NG.out rfl rfl c2 c3 c4 c5 c6 c7 c8 c9).elim
          ·subst c8
           have g9 : ((ml : Int) == 16) = false := by simp; omega
           have g9' : ((ml : Int) != 16) = true := by rw [bne, g9]; rfl
           clear NG c9
           go_enter Tryz.func8, Tryz.ntmps8
           go_wp2_with fail
           try rw [hW1]
           (with_reducible refine RC.out.mono ?_)
           rintro e w1 ⟨rfl, rfl⟩
           go_wp2_with fail
           (with_reducible refine SC.out.mono ?_)
           rintro e w2 ⟨rfl, rfl⟩
           go_wp2
           (try simp only [Exit.inBlock, Exit.then])
           refine bodyPost_ret (results_tmp2 rfl _ _ _) rfl ?_
           exact ⟨rfl, F1.out⟩
         ·have g8 : ((nl : Int) == 16) = false := by simp; omega
          have g8' : ((nl : Int) != 16) = true := by rw [bne, g8]; rfl
          clear NG c8
          go_enter Tryz.func8, Tryz.ntmps8
          go_wp2_with fail
          try rw [hW1]
          (with_reducible refine RC.out.mono ?_)
          rintro e w1 ⟨rfl, rfl⟩
          go_wp2_with fail
          (with_reducible refine SC.out.mono ?_)
          rintro e w2 ⟨rfl, rfl⟩
          go_wp2
          (try simp only [Exit.inBlock, Exit.then])
          refine bodyPost_ret (results_tmp2 rfl _ _ _) rfl ?_
          exact ⟨rfl, F1.out⟩
end Go.Proofs.YtmjccpfchhnfhaaGreat
/- Law 12: both: what it comes to (printed by hf.py). -/
namespace Go.Proofs.YtmjccpfchhnfhaaGreat
open Go.RowKit
set_option linter.unusedVariables false
set_option linter.unusedSimpArgs false
structure StV.lies [Old] (w : World) (s : StV) : Prop where
 cf : IntsAt (RO fun _ => False) w (.slice s.ac s.conf.length s.cc) s.conf
 ev : EsAt (fun _ => False) w (.slice s.ae s.es.length s.ce) s.es
 nx : RowsAt (RO fun _ => False) w (.slice s.an s.next.length s.cn) 1 encW s.next
 mt : RowsAt (RO fun _ => False) w (.slice s.am s.mat.length s.cm) 1 encW s.mat
 od : ∀ c, Old.o c → c < w.heap.size
def StV.nd (s : StV) : Nd := { Nd.new s.me s.conf with vote := s.vote, role := s.role, ld := s.ld, tm := s.tm, commit := s.commit, log := ⟨s.base, s.bt, s.es.map EV.en⟩, next := s.next, mat := s.mat }
def nm60 (a b : List Nat) : Prop := ∀ i, i < 16 → 1 ≤ a.getD i 0 ∧ a.getD i 0 < 1152921504606846976 ∧ b.getD i 0 < 1152921504606846976
def BothOut [Old] (s : StV) (w : World) (e : Ending) (w' : World) : Prop := ((∃ X P b q b2 q2, e = .returned (.tuple #[.pointer (some ⟨b, 0, none⟩), .pointer (some ⟨b2, 0, none⟩)]) ∧ PNs X P w' b s.nd q ∧ DNs X w' b2 s.nd q2 ∧ ¬ P b2 ∧ (∀ c, X c → w.heap.size ≤ c) ∧ nm60 s.next s.mat) ∨ e = .returned (.tuple #[.pointer none, .pointer none])) ∧ Fr (fun c _ => c < w.heap.size) w w'
section
variable {X P : Nat → Prop} {w w' : World} {b : Nat} {n0 n : Nd} {q0 : NV}
theorem PNs.made [Old] (h : PNs X P w b n0 q0) (hf : Fr (fun c _ => c ≠ b) w w') (g1 c1 g2 c2 : Nat) (ve : Value) (es : List EV) (ht : w'.heap[b]? = some (.cells (W14 n ⟨q0.vc, q0.vy, ve, g1, c1, g2, c2, es⟩) 99 (0, 0)))
  (hc : n.conf = n0.conf) (hy : n.yes = n0.yes) (he : EsAt X w ve es) (hee : n.log.es = es.map EV.en) (a1 : A16 w' g1 n.next) (a2 : A16 w' g2 n.mat) (h1 : w.heap.size ≤ g1) (h2 : w.heap.size ≤ g2) (hne : g1 ≠ g2) :
  PNs (fun c => X c ∨ c = g1 ∨ c = g2) (fun c => P c ∨ c = g1 ∨ c = g2) w' b n ⟨q0.vc, q0.vy, ve, g1, c1, g2, c2, es⟩ ∧ Aft X P (fun c => X c ∨ c = g1 ∨ c = g2) (fun c => P c ∨ c = g1 ∨ c = g2) w w' := by
 have aft : Aft X P (fun c => X c ∨ c = g1 ∨ c = g2) (fun c => P c ∨ c = g1 ∨ c = g2) w w' :=
  ⟨hf.mono fun c _ hc e => hc (e ▸ h.pb), fun c => ⟨fun q => q.elim .inl fun q => .inr (.inr q), fun q => q.elim .inl fun q => q.elim (fun q => .inl (h.px c q)) .inr⟩, fun _ q => .inl q, fun c q => q.elim .inl fun q => .inr (by rcases q with q | q <;> rw [q] <;> assumption), h.px⟩
 refine ⟨⟨ht, by rw [hc]; exact h.cf.aft aft, by rw [hy]; exact ownsRow_fr h.ye hf fun c o e ho => (h.yb c e).1, fun c e => .inl (h.yp c e), he.aft aft, hee, a1, a2, hne, .inl h.pb, .inr (.inl rfl), .inr (.inr rfl), fun c q => q.elim (fun q => .inl (h.px c q)) .inr, fun c q => ?_, h.od⟩, aft⟩
 rcases q with q | q | q
 ·exact Nat.lt_of_lt_of_le (h.hx c q) hf.size
 ·rw [q]; exact a1.lt
 ·rw [q]; exact a2.lt
end
theorem A16.of_own {w : World} {B g c : Nat} {a : Option Addr} {l : List Nat} (h : w.ownsRow B 23 1 (.slice a 16 c) 16 (l.flatMap encW)) (hl : l.length = 16) : ∃ g, a = some ⟨g, 0, none⟩ ∧ B ≤ g ∧ A16 w g l := by
 obtain ⟨h1, h2⟩ := h
 rcases h2 with ⟨h2, h3⟩ | ⟨g, c', cur, e, hb, h4, -, -, h5, h6⟩
 ·cases h2
 ·cases e
  refine ⟨g, rfl, hb, hl, cur, h4, fun i hi => ?_⟩
  have e2 : (cur.toList.take (16 * 1))[i]? = (l.flatMap encW)[i]? := by rw [h6]
  rw [List.getElem?_take_of_lt (by omega), Array.getElem?_toList, encW_flat, List.getElem?_map, List.getElem?_eq_getElem (l := l) (i := i) (by rw [hl]; exact hi)] at e2
  rw [e2, List.getD_eq_getElem?_getD, List.getElem?_eq_getElem (by omega)]
  rfl
theorem StV.lies.view [Old] {w W1 : World} {s : StV} (h : s.lies w) (h1 : Fr (fun _ _ => True) w W1) (hb : W1.heap[w.heap.size]? = some (.cells (cS s) 29 (0, 0))) (n16 : s.next.length = 16) (m16 : s.mat.length = 16) :
  ∃ bn on bm om, s.an = some ⟨bn, on, none⟩ ∧ s.am = some ⟨bm, om, none⟩ ∧ ∀ W, Fr (fun c _ => c < W1.heap.size) W1 W → W.heap[w.heap.size]? = some (.cells (cS s) 29 (0, 0)) ∧ RowsAt (fun _ _ => True) W (.slice s.an s.next.length s.cn) 1 encW s.next ∧ RowsAt (fun _ _ => True) W (.slice s.am s.mat.length s.cm) 1 encW s.mat ∧
   (∀ i, i < 16 → W.cell? ⟨bn, on + i, none⟩ = some (natN (s.next.getD i 0)) ∧ W.cell? ⟨bm, om + i, none⟩ = some (natN (s.mat.getD i 0))) := by
 obtain ⟨bn, on, o1, e1, -⟩ := h.nx.spot (by omega)
 obtain ⟨bm, om, o2, e2, -⟩ := h.mt.spot (by omega)
 have hk : ∀ (W : World), Fr (fun c _ => c < W1.heap.size) W1 W → ∀ (a : Option Addr) (c : Nat) (xs : List Nat), RowsAt (RO fun _ => False) w (.slice a xs.length c) 1 encW xs → RowsAt (fun _ _ => True) W (.slice a xs.length c) 1 encW xs := fun W f a c xs hr => ((hr.tt h1).fr f fun c o ho _ => lt_of_some ho).mono fun _ _ _ _ => trivial
 have cel : ∀ (W : World), Fr (fun c _ => c < W1.heap.size) W1 W → ∀ (b o c : Nat) (xs : List Nat), xs.length = 16 → RowsAt (fun _ _ => True) W (.slice (some ⟨b, o, none⟩) xs.length c) 1 encW xs → ∀ i, i < 16 → W.cell? ⟨b, o + i, none⟩ = some (natN (xs.getD i 0)) := fun W f b o c xs hl hr i hi => by
  obtain ⟨b', o', o3, e, -, -, hc⟩ := hr.spot (by omega)
  cases e
  have := hc i (by omega) 0 (natN (xs.getD i 0)) (by rw [List.getD_eq_getElem?_getD, List.getElem?_eq_getElem (l := xs) (i := i) (by omega)]; rfl)
  rw [Nat.mul_one, Nat.add_zero] at this
  exact this
 refine ⟨bn, on, bm, om, e1, e2, fun W f => ?_⟩
 have r1 := hk W f _ _ _ h.nx
 have r2 := hk W f _ _ _ h.mt
 refine ⟨f.keep _ _ hb (lt_of_some hb), r1, r2, fun i hi => ⟨?_, ?_⟩⟩
 ·rw [e1] at r1; exact cel W f _ _ _ _ n16 r1 i hi
 ·rw [e2] at r2; exact cel W f _ _ _ _ m16 r2 i hi
end Go.Proofs.YtmjccpfchhnfhaaGreat
/- Law 12: both, where there may be one (printed by hg.py). -/
namespace Go.Proofs.YtmjccpfchhnfhaaGreat
open Go.RowKit
set_option linter.unusedVariables false
set_option linter.unusedSimpArgs false
def up (l : List Nat) (k : Nat) : List Nat := l.take k ++ List.replicate (16 - k) 0
theorem up_set {l : List Nat} {k : Nat} (h : l.length = 16) (hk : k < 16) : (up l k).set k (l.getD k 0) = up l (k + 1) := by
 unfold up
 have e : 16 - k = (16 - (k + 1)) + 1 := by omega
 have e2 : (l.take k).length = k := by simp; omega
 rw [e, List.replicate_succ, List.set_append_right _ _ (by omega), e2, Nat.sub_self, List.set_cons_zero, List.take_add_one, List.getD_eq_getElem?_getD, List.getElem?_eq_getElem (by omega)]
 simp only [Option.toList_some, Option.getD_some, List.append_assoc, List.singleton_append]
theorem up_all {l : List Nat} (h : l.length = 16) : up l 16 = l := by
 unfold up
 rw [List.take_of_length_le (by omega)]
 simp
set_option maxRecDepth 100000 in
set_option maxHeartbeats 8000000 in
theorem both_some [Old] (w : World) (s : StV) (h : s.lies w) (hg : s.good) (hcf : 0 < s.conf.length ∧ s.conf.length ≤ 1000) :
  Calls Tryz.prog 8 #[.agg (cS s)] w fun e w' => BothOut s w e w' := by
 obtain ⟨W1, hW1, F1, X1⟩ := sbox w s
 obtain ⟨g, hgw⟩ : ∃ g, w.heap.size = g := ⟨_, rfl⟩
 have RC : Hid (Calls Tryz.prog 47 #[.slice s.ac s.conf.length s.cc] W1 fun e w' => e = .returned (.bool true) ∧ W1 = w') := hg.right ▸ rright_calls W1 _ s.conf (h.cf.tt F1.out) (by unfold maxLen; omega)
 have SC : Hid (Calls Tryz.prog 48 #[.int .u64 (s.base : Nat), .slice s.ae s.es.length s.ce, .int .i64 20] W1 fun e w' => e = .returned (.bool true) ∧ W1 = w') := (show (decide (s.base < 1152921504606846976) && decide (s.es.length ≤ 20)) = true by rw [decide_eq_true hg.base, decide_eq_true hg.len]; rfl) ▸ dshort_calls W1 s.base s.es.length 20 s.ae s.ce
 obtain ⟨bn, on, bm, om, ean, eam, VW0⟩ := h.view F1.out X1.out hg.n16 hg.m16
 have EN := Lib.hid (enew_calls (X := fun _ => False) W1 s.me (.slice s.ac s.conf.length s.cc) s.conf (h.cf.tt F1.out) hcf.1 hcf.2 (fun _ q => q.elim) (fun c q => Nat.lt_of_lt_of_le (h.od c q) F1.out.size))
 have DNW := Lib.hid (fun (X : Nat → Prop) (W : World) (hr : IntsAt (RO X) W (.slice s.ac s.conf.length s.cc) s.conf) (hX : ∀ c, X c → c < W.heap.size) (hf : W1.heap.size ≤ W.heap.size) => dnew_calls W s.me (.slice s.ac s.conf.length s.cc) s.conf hr hcf.1 hcf.2 hX (fun c q => Nat.lt_of_lt_of_le (h.od c q) (Nat.le_trans F1.out.size hf)))
 have HCF := Lib.hid (h.cf.tt F1.out)
 have HEV := Lib.hid (h.ev.tt F1.out)
 have me0 : decide (s.me < 0) = false := decide_eq_false (by have := hg.me.1; omega)
 have me1 : decide (15 < s.me) = false := decide_eq_false (by have := hg.me.2; omega)
 have ro0 : decide (s.role < 0) = false := decide_eq_false (by have := hg.role.1; omega)
 have ro1 : decide (3 < s.role) = false := decide_eq_false (by have := hg.role.2; omega)
 have tm1 : decide ((1152921504606846976 : Int) ≤ (s.tm : Int)) = false := decide_eq_false (by have := hg.tm; omega)
 have co1 : decide ((1152921504606846976 : Int) ≤ (s.commit : Int)) = false := decide_eq_false (by have := hg.commit; omega)
 have HG := Lib.hid hg
 have VW := Lib.hid VW0
 obtain ⟨me, hme⟩ : ∃ x, s.me = x := ⟨_, rfl⟩
 obtain ⟨ro, hro⟩ : ∃ x, s.role = x := ⟨_, rfl⟩
 obtain ⟨vo, hvo⟩ : ∃ x, s.vote = x := ⟨_, rfl⟩
 obtain ⟨ld, hld⟩ : ∃ x, s.ld = x := ⟨_, rfl⟩
 obtain ⟨tm, htm⟩ : ∃ x, s.tm = x := ⟨_, rfl⟩
 obtain ⟨co, hco⟩ : ∃ x, s.commit = x := ⟨_, rfl⟩
 obtain ⟨bs, hbs⟩ : ∃ x, s.base = x := ⟨_, rfl⟩
 obtain ⟨bt, hbt⟩ : ∃ x, s.bt = x := ⟨_, rfl⟩
 obtain ⟨cl, hcl⟩ : ∃ x, s.conf.length = x := ⟨_, rfl⟩
 obtain ⟨el, hel⟩ : ∃ x, s.es.length = x := ⟨_, rfl⟩
 have n16 := hg.n16
 have m16 := hg.m16
 have CC : Hid (∀ W : World, W.heap[g]? = some (.cells (cS s) 29 (0, 0)) → W.cell? ⟨g, 0, none⟩ = some (.int .i64 me) ∧ W.cell? ⟨g, 1, none⟩ = some (.int .i64 ro) ∧ W.cell? ⟨g, 2, none⟩ = some (.int .i64 vo) ∧ W.cell? ⟨g, 3, none⟩ = some (.int .i64 ld) ∧ W.cell? ⟨g, 4, none⟩ = some (.slice s.ac cl s.cc) ∧ W.cell? ⟨g, 5, none⟩ = some (.int .u64 (tm : Nat)) ∧ W.cell? ⟨g, 6, none⟩ = some (.int .u64 (co : Nat)) ∧ W.cell? ⟨g, 7, none⟩ = some (.int .u64 (bs : Nat)) ∧ W.cell? ⟨g, 8, none⟩ = some (.int .u64 (bt : Nat)) ∧ W.cell? ⟨g, 9, none⟩ = some (.slice s.ae el s.ce) ∧ W.cell? ⟨g, 10, none⟩ = some (.slice (some ⟨bn, on, none⟩) 16 s.cn) ∧ W.cell? ⟨g, 11, none⟩ = some (.slice (some ⟨bm, om, none⟩) 16 s.cm)) := fun W hb => by
  obtain ⟨x0, x1, x2, x3, x4, x5, x6, x7, x8, x9, x10, x11⟩ := scells hb
  rw [← hme, ← hro, ← hvo, ← hld, ← hcl, ← htm, ← hco, ← hbs, ← hbt, ← hel]
  rw [n16, ean] at x10
  rw [m16, eam] at x11
  exact ⟨x0, x1, x2, x3, x4, x5, x6, x7, x8, x9, x10, x11⟩
 obtain ⟨x0, x1, x2, x3, x4, x5, x6, x7, x8, x9, x10, x11⟩ := CC.out W1 (hgw ▸ X1.out)
 have XB : Hid (g < W1.heap.size ∧ w.heap.size ≤ W1.heap.size) := ⟨lt_of_some (hgw ▸ X1.out), F1.out.size⟩
 have hW1' : w.alloc (.cells #[.int .i64 me, .int .i64 ro, .int .i64 vo, .int .i64 ld, .slice s.ac cl s.cc, .int .u64 (tm : Nat), .int .u64 (co : Nat), .int .u64 (bs : Nat), .int .u64 (bt : Nat), .slice s.ae el s.ce, .slice (some ⟨bn, on, none⟩) 16 s.cn, .slice (some ⟨bm, om, none⟩) 16 s.cm] 29 (0, 0)) = W1 := by
  rw [← hW1]
  unfold cS
  rw [hme, hro, hvo, hld, hcl, htm, hco, hbs, hbt, hel, n16, m16, ean, eam]
 have hcS : cS s = #[.int .i64 me, .int .i64 ro, .int .i64 vo, .int .i64 ld, .slice s.ac cl s.cc, .int .u64 (tm : Nat), .int .u64 (co : Nat), .int .u64 (bs : Nat), .int .u64 (bt : Nat), .slice s.ae el s.ce, .slice (some ⟨bn, on, none⟩) 16 s.cn, .slice (some ⟨bm, om, none⟩) 16 s.cm] := by
  unfold cS
  rw [hme, hro, hvo, hld, hcl, htm, hco, hbs, hbt, hel, n16, m16, ean, eam]
 rw [hgw] at VW
 rw [n16, m16, ean, eam] at VW
 rw [hme] at me0 me1
 rw [hro] at ro0 ro1
 rw [htm] at tm1
 rw [hco] at co1
 rw [hcl] at RC EN DNW HCF
 rw [hbs, hel] at SC
 rw [hel] at HEV
 rw [hme] at EN DNW
 have SE := Lib.hid (And.intro hme (And.intro hro (And.intro hvo (And.intro hld (And.intro htm (And.intro hco (And.intro hbs hbt)))))))
 have HGW := Lib.hid hgw
 rw [hcS]
 clear hcS hW1 X1 VW0 h hg hcf hme hro hvo hld htm hco hbs hbt hcl hel n16 m16 ean eam
 go_enter Tryz.func8, Tryz.ntmps8
 go_wp2_with fail
 try rw [hW1']
 try rw [hgw]
 (with_reducible refine RC.out.mono ?_)
 rintro e w1 ⟨rfl, rfl⟩
 clear RC
 go_wp2_with fail
 (with_reducible refine SC.out.mono ?_)
 rintro e w2 ⟨rfl, rfl⟩
 clear SC
 go_wp2_with fail
 (with_reducible refine EN.out.mono ?_)
 rintro e w2 ⟨b, X, P, q, rfl, hp, ha, hb⟩
 have HP := Lib.hid hp
 have HA := Lib.hid ha
 have HB := Lib.hid hb
 have f2 : Fr (fun c _ => c < W1.heap.size) W1 w2 := ha.fr.mono fun _ _ _ h => h
 have F2 := Lib.hid f2
 have DN1 := Lib.hid (DNW.out X w2 (HCF.out.aft ha) hp.hx f2.size)
 obtain ⟨bx, -⟩ := VW.out w2 f2
 obtain ⟨x0, x1, x2, x3, x4, x5, x6, x7, x8, x9, x10, x11⟩ := CC.out w2 bx
 clear hp ha hb f2 EN DNW bx
 go_wp2_with fail
 (with_reducible refine DN1.out.mono ?_)
 rintro e w3 ⟨b2, q2, rfl, hd, f3, hb2⟩
 have k3 : Aft X (fun _ => False) (fun c => X c ∨ c = b2) (· = b2) w2 w3 := ⟨f3.mono fun _ _ _ => trivial, fun c => Iff.rfl, (fun c q => q.elim), fun c q => .inr (q ▸ hb2), (fun c q => q.elim)⟩
 have P3 := Lib.hid (HP.out.far k3 (fun _ _ q => q) hd.hx)
 have D3 := Lib.hid hd
 have F2b : Hid (W1.heap.size ≤ b2) := Nat.le_trans F2.out.size hb2
 have E3 := Lib.hid ((HEV.out.aft HA.out).aft k3)
 have F3 : Hid (Fr (fun c _ => c < W1.heap.size) W1 w3) := F2.out.trans (f3.mono fun _ _ _ => trivial)
 have NB2 : Hid (¬ P b2 ∧ ∀ c, (X c ∨ c = b2) → w.heap.size ≤ c) := ⟨fun q => by
  have h1 := HP.out.hx b2 (HP.out.px b2 q)
  omega, fun c q => by
   have h1 := XB.out.2
   have h2 := F2.out.size
   rcases q with q | q
   ·rcases (HA.out.xx c).1 q with q | q
    ·exact q.elim
    ·rcases HA.out.nw c q with q | q
     ·exact q.elim
     ·omega
   ·omega⟩
 obtain ⟨-, y1, y2, y3, -, -, y6, y7, y8, y9, y10, -, y12, y13⟩ := P3.out.cells (Fr.refl _ w3)
 obtain ⟨bx, -⟩ := VW.out w3 F3.out
 obtain ⟨x0, x1, x2, x3, x4, x5, x6, x7, x8, x9, x10, x11⟩ := CC.out w3 bx
 have hgb : ¬ g = b := by have := XB.out.1; have := HB.out; omega
 have hbg : ¬ b = g := fun e => hgb e.symm
 have z := P3.out.free (Fr.refl _ w3)
 have z1 := z 1
 have z2 := z 2
 have z3 := z 3
 have z6 := z 6
 have z7 := z 7
 have z8 := z 8
 have z9 := z 9
 have z10 := z 10
 have z12 := z 12
 have z13 := z 13
 clear hd f3 hb2 k3 DN1 F2 bx HP z
 obtain ⟨W4, hW4⟩ : ∃ Y, ((((((((w3.setCell ⟨b, 2, none⟩ (.int .i64 ro)).setCell ⟨b, 1, none⟩ (.int .i64 vo)).setCell ⟨b, 3, none⟩ (.int .i64 ld)).setCell ⟨b, 6, none⟩ (.int .u64 (tm : Nat))).setCell ⟨b, 7, none⟩ (.int .u64 (co : Nat))).setCell ⟨b, 8, none⟩ (.int .u64 (bs : Nat))).setCell ⟨b, 9, none⟩ (.int .u64 (bt : Nat))).setCell ⟨b, 10, none⟩ (.slice s.ae el s.ce)) = Y := ⟨_, rfl⟩
 have hW4s : sets w3 b [(2, .int .i64 ro), (1, .int .i64 vo), (3, .int .i64 ld), (6, .int .u64 (tm : Nat)), (7, .int .u64 (co : Nat)), (8, .int .u64 (bs : Nat)), (9, .int .u64 (bt : Nat)), (10, .slice s.ae el s.ce)] = W4 := hW4
 obtain ⟨N1, hN1⟩ : ∃ N : Nd, N = { Nd.new me s.conf with vote := vo, role := ro, ld := ld, tm := tm, commit := co, log := ⟨bs, bt, s.es.map EV.en⟩ } := ⟨_, rfl⟩
 have T4 : Hid (W4.heap[b]? = some (.cells (W14 N1 ⟨q.vc, q.vy, .slice s.ae el s.ce, q.bn, q.cn, q.bm, q.cm, s.es⟩) 99 (0, 0))) := by
  have h := sets_heap [(2, .int .i64 ro), (1, .int .i64 vo), (3, .int .i64 ld), (6, .int .u64 (tm : Nat)), (7, .int .u64 (co : Nat)), (8, .int .u64 (bs : Nat)), (9, .int .u64 (bt : Nat)), (10, .slice s.ae el s.ce)] P3.out.top
  rw [hW4s] at h
  simp only [List.foldl_cons, List.foldl_nil, W14, sA, sB, sC] at h
  rw [hN1]
  exact h
 have G4 : Hid (Fr (fun c _ => c ≠ b) w3 W4) := hW4s ▸ sets_fr b _ w3
 have F4 : Hid (Fr (fun c _ => c < W1.heap.size) W1 W4) := F3.out.trans (G4.out.mono fun c _ hc e => by have := HB.out; omega)
 have HW4 := Lib.hid hW4
 clear hW4 hW4s
 obtain ⟨W5, hW5⟩ : ∃ Y, W4.alloc (.cells #[] 23) = Y := ⟨_, rfl⟩
 have f5 : Fr (fun _ _ => True) W4 W5 := hW5 ▸ (Fr.refl _ _).alloc _
 have F5 := Lib.hid f5
 have OW5 : Hid (W5.ownsRow W4.heap.size 23 1 (.slice (some ⟨W4.heap.size, 0, none⟩) 0 0) 0 []) := hW5 ▸ World.ownsRow_lit W4 #[] 0 (Nat.le_refl _) (by simp) rfl
 have F15 : Fr (fun c _ => c < W1.heap.size) W1 W5 := F4.out.trans (f5.mono fun _ _ _ => trivial)
 obtain ⟨bx, rx, rm, -⟩ := VW.out W5 F15
 have RX := Lib.hid rx
 have n16 := Lib.hid HG.out.n16
 have m16 := Lib.hid HG.out.m16
 have EX : Hid ([] ++ s.next = s.next) := rfl
 have EM : Hid ([] ++ s.mat = s.mat) := rfl
 have HW5 := Lib.hid hW5
 clear hW5 f5 F15 bx rx rm
 go_upto_region 15 with fail
 rw [HW4.out]
 clear x0 x1 x2 x3 x4 x5 x6 x7 x8 x9 x10 x11 y1 y2 y3 y6 y7 y8 y9 y10 y12 y13 z1 z2 z3 z6 z7 z8 z9 z10 z12 z13
 obtain ⟨-, -, -, -, -, -, -, -, -, -, x10, -⟩ := CC.out W5 (VW.out W5 (F4.out.trans (F5.out.mono fun _ _ _ => trivial))).1
 have hW5 := HW5.out
 go_wp2_with (at_builtin; (try rw [hW5]); refine wpList_append_us W4 W5 F5 rfl _ _ rfl (.slice (some ⟨W4.heap.size, 0, none⟩) 0 0) [] rfl OW5 _ s.next rfl RX _ EX 16 n16 (by omega) ?_)
 intro ga c1 W6 O6 F6 G6 N6
 obtain ⟨g1, rfl, hB1, A1⟩ := A16.of_own (g := 0) O6.out HG.out.n16
 have HA1 := Lib.hid A1
 have HB1 := Lib.hid hB1
 have T6 := F6.out.keep _ _ T4.out trivial
 obtain ⟨W7, hW7⟩ : ∃ Y, W6.setCell ⟨b, 12, none⟩ (.slice (some ⟨g1, 0, none⟩) 16 c1) = Y := ⟨_, rfl⟩
 have T7 : Hid (W7.heap[b]? = some (.cells (W14 { N1 with next := s.next } ⟨q.vc, q.vy, .slice s.ae el s.ce, g1, c1, q.bm, q.cm, s.es⟩) 99 (0, 0))) := by
  have h := heap_setCell_same (o := 12) T6 (.slice (some ⟨g1, 0, none⟩) 16 c1)
  rw [hW7] at h
  simp only [W14, sA, sB, sC] at h
  exact h
 have G7 : Hid (Fr (fun c _ => c ≠ b) W6 W7) := hW7 ▸ (Fr.refl _ _).setCell (fun _ _ h => h rfl) _
 have F7 : Hid (Fr (fun c _ => c < W1.heap.size) W1 W7) := (F4.out.trans (F6.out.mono fun _ _ _ => trivial)).trans (G7.out.mono fun c _ hc e => by have := HB.out; omega)
 obtain ⟨W8, hW8⟩ : ∃ Y, W7.alloc (.cells #[] 23) = Y := ⟨_, rfl⟩
 have f8 : Fr (fun _ _ => True) W7 W8 := hW8 ▸ (Fr.refl _ _).alloc _
 have F8 := Lib.hid f8
 have OW8 : Hid (W8.ownsRow W7.heap.size 23 1 (.slice (some ⟨W7.heap.size, 0, none⟩) 0 0) 0 []) := hW8 ▸ World.ownsRow_lit W7 #[] 0 (Nat.le_refl _) (by simp) rfl
 obtain ⟨bx, -, rm, -⟩ := VW.out W8 (F7.out.trans (f8.mono fun _ _ _ => trivial))
 have RM := Lib.hid rm
 have y12 := cell_mk (i := 12) T6 rfl
 have z12 := frozen_mk (i := 12) T6
 have HW8 := Lib.hid hW8
 clear x10 hW5 RX OW5 N6 G6 O6 A1 hB1 T6 f8 rm hW8
 go_upto_region 16 with fail
 clear y12 z12 hW7
 obtain ⟨-, -, -, -, -, -, -, -, -, -, -, x11⟩ := CC.out W8 bx
 have hW8 := HW8.out
 clear bx
 go_wp2_with (at_builtin; (try rw [hW8]); refine wpList_append_us W7 W8 F8 rfl _ _ rfl (.slice (some ⟨W7.heap.size, 0, none⟩) 0 0) [] rfl OW8 _ s.mat rfl RM _ EM 16 m16 (by omega) ?_)
 intro gb c2 W9 O9 F9 G9 N9
 obtain ⟨g2, rfl, hB2, A2⟩ := A16.of_own (g := 0) O9.out HG.out.m16
 clear x11 hW8 HW8 RM OW8 N9 G9
 have T9 := F9.out.keep _ _ T7.out trivial
 have HA2 := Lib.hid A2
 have HB2 := Lib.hid hB2
 obtain ⟨W10, hW10⟩ : ∃ Y, W9.setCell ⟨b, 13, none⟩ (.slice (some ⟨g2, 0, none⟩) 16 c2) = Y := ⟨_, rfl⟩
 obtain ⟨N2, hN2⟩ : ∃ N : Nd, N = { N1 with next := s.next, mat := s.mat } := ⟨_, rfl⟩
 obtain ⟨Q2, hQ2⟩ : ∃ Q : NV, Q = ⟨q.vc, q.vy, .slice s.ae el s.ce, g1, c1, g2, c2, s.es⟩ := ⟨_, rfl⟩
 have T10 : Hid (W10.heap[b]? = some (.cells (W14 N2 Q2) 99 (0, 0))) := by
  have h := heap_setCell_same (o := 13) T9 (.slice (some ⟨g2, 0, none⟩) 16 c2)
  rw [hW10] at h
  simp only [W14, sA, sB, sC] at h
  rw [hN2, hQ2]
  exact h
 have G10 : Hid (Fr (fun c _ => c ≠ b) W9 W10) := hW10 ▸ (Fr.refl _ _).setCell (fun _ _ h => h rfl) _
 have y13 := cell_mk (i := 13) T9 rfl
 have z13 := frozen_mk (i := 13) T9
 have hN1' := Lib.hid hN1
 have HN2 := Lib.hid hN2
 have HQ2 := Lib.hid hQ2
 clear O9 A2 hB2 T9 hN1 hN2 hQ2
 go_upto_region 17 with fail
 clear y13 z13 hW10
 have S6 : Hid (W4.heap.size ≤ W6.heap.size ∧ W6.heap.size ≤ W7.heap.size ∧ W7.heap.size ≤ W9.heap.size ∧ W9.heap.size ≤ W10.heap.size ∧ w3.heap.size ≤ W4.heap.size ∧ b < w3.heap.size ∧ b2 < w3.heap.size) := ⟨F6.out.size, G7.out.size, F9.out.size, G10.out.size, G4.out.size, lt_of_some P3.out.top, lt_of_some D3.out.top⟩
 have S7 : Hid (g1 < W6.heap.size) := HA1.out.lt
 have f10 : Fr (fun c _ => c ≠ b) w3 W10 := (((G4.out.trans (F6.out.mono fun _ _ _ => trivial)).trans G7.out).trans (F9.out.mono fun _ _ _ => trivial)).trans G10.out
 have hg1b : g1 ≠ b := by have := HB1.out; have := S6.out; omega
 have hg2b : g2 ≠ b := by have := HB2.out; have := S6.out; omega
 have hg12 : g1 ≠ g2 := by have := HB2.out; have := S6.out; have := S7.out; omega
 have a1 : A16 W10 g1 N2.next := by
  rw [HN2.out]
  exact (HA1.out.fr ((G7.out.trans (F9.out.mono fun _ _ _ => trivial)).trans G10.out) fun _ _ => hg1b)
 have a2 : A16 W10 g2 N2.mat := by
  rw [HN2.out]
  exact HA2.out.fr G10.out fun _ _ => hg2b
 have t10 := T10.out
 rw [HQ2.out] at t10
 have pn := P3.out.made (n := N2) f10 g1 c1 g2 c2 (.slice s.ae el s.ce) s.es t10 (by rw [HN2.out, hN1'.out]) (by rw [HN2.out, hN1'.out]) E3.out (by rw [HN2.out, hN1'.out]) a1 a2 (by have := HB1.out; have := S6.out; omega) (by have := HB2.out; have := S6.out; omega) hg12
 rw [← HQ2.out] at pn
 obtain ⟨X10, hX10⟩ : ∃ Y : Nat → Prop, Y = (fun c => (X c ∨ c = b2) ∨ c = g1 ∨ c = g2) := ⟨_, rfl⟩
 obtain ⟨R10, hR10⟩ : ∃ Y : Nat → Prop, Y = (fun c => P c ∨ c = g1 ∨ c = g2) := ⟨_, rfl⟩
 rw [← hX10, ← hR10] at pn
 have PA := Lib.hid pn.1
 have DA := Lib.hid (D3.out.far pn.2 NB2.out.1 pn.1.hx)
 have F10 : Hid (Fr (fun c _ => c < W1.heap.size) W1 W10) := (F7.out.trans (F9.out.mono fun _ _ _ => trivial)).trans (G10.out.mono fun c _ hc e => by have := HB.out; omega)
 have NR : Hid (¬ R10 b2 ∧ ∀ c, X10 c → w.heap.size ≤ c) := ⟨fun e => by
  rw [hR10] at e
  have := HB1.out
  have := HB2.out
  have := S6.out
  rcases e with e | e | e
  ·exact NB2.out.1 e
  ·omega
  ·omega, fun c e => by
  rw [hX10] at e
  have := HB1.out
  have := HB2.out
  have := S6.out
  have := F3.out.size
  have := XB.out.2
  rcases e with e | e | e
  ·exact NB2.out.2 c e
  ·omega
  ·omega⟩
 clear f10 hg1b hg2b hg12 a1 a2 t10 pn hX10 hR10 P3 D3 E3 F3 T4 G4 F4 F5 HW4 F6 HA1 HB1 T7 G7 F7 F8 HA2 HB2 F9 G10 HEV HCF HA NB2
 obtain ⟨W11, hW11⟩ : ∃ Y, ((((((((W10.setCell ⟨b2, 2, none⟩ (.int .i64 ro)).setCell ⟨b2, 1, none⟩ (.int .i64 vo)).setCell ⟨b2, 3, none⟩ (.int .i64 ld)).setCell ⟨b2, 6, none⟩ (.int .u64 (tm : Nat))).setCell ⟨b2, 7, none⟩ (.int .u64 (co : Nat))).setCell ⟨b2, 8, none⟩ (.int .u64 (bs : Nat))).setCell ⟨b2, 9, none⟩ (.int .u64 (bt : Nat))).setCell ⟨b2, 10, none⟩ (.slice s.ae el s.ce)) = Y := ⟨_, rfl⟩
 have hW11s : sets W10 b2 [(2, .int .i64 ro), (1, .int .i64 vo), (3, .int .i64 ld), (6, .int .u64 (tm : Nat)), (7, .int .u64 (co : Nat)), (8, .int .u64 (bs : Nat)), (9, .int .u64 (bt : Nat)), (10, .slice s.ae el s.ce)] = W11 := hW11
 have g11 : Fr (fun c _ => c ≠ b2) W10 W11 := hW11s ▸ sets_fr b2 _ W10
 have T11 : W11.heap[b2]? = some (.cells (W44 N1 ⟨q2.vc, q2.vy, .slice s.ae el s.ce, s.es⟩) 103 (0, 0)) := by
  have h := sets_heap [(2, .int .i64 ro), (1, .int .i64 vo), (3, .int .i64 ld), (6, .int .u64 (tm : Nat)), (7, .int .u64 (co : Nat)), (8, .int .u64 (bs : Nat)), (9, .int .u64 (bt : Nat)), (10, .slice s.ae el s.ce)] DA.out.top
  rw [hW11s] at h
  simp only [List.foldl_cons, List.foldl_nil, W44, sA, sB, sC] at h
  rw [hN1'.out]
  exact h
 obtain ⟨Q3, hQ3⟩ : ∃ Q : DV, Q = ⟨q2.vc, q2.vy, .slice s.ae el s.ce, s.es⟩ := ⟨_, rfl⟩
 have DB : Hid (DNs X10 W11 b2 N1 Q3) := DA.out.re g11 (hQ3 ▸ T11) (by rw [hN1'.out, hQ3]; exact ⟨rfl, rfl⟩) (by rw [hN1'.out, hQ3]; exact DA.out.ye.aft (DA.out.own g11)) (by rw [hN1'.out, hQ3]; exact ⟨rfl, by have h := PA.out.ev.aft (DA.out.own g11); rw [HQ2.out] at h; exact h⟩) (by rw [hN1'.out]; exact ⟨rfl, rfl⟩)
 have PB : Hid (PNs X10 R10 W11 b N2 Q2) := PA.out.far (DA.out.own g11) (fun c e e2 => NR.out.1 (e2 ▸ e)) DB.out.hx
 have F11 : Hid (Fr (fun c _ => c < W1.heap.size) W1 W11) := F10.out.trans (g11.mono fun c _ hc e => by have := S6.out; have := HB.out; have := NR.out.2 b2 DA.out.xb; have := XB.out; have := F2b.out; omega)
 obtain ⟨bx, -⟩ := VW.out W10 F10.out
 obtain ⟨x0, x1, x2, x3, x4, x5, x6, x7, x8, x9, x10, x11⟩ := CC.out W10 bx
 obtain ⟨-, y1, y2, y3, -, -, y6, y7, y8, y9, y10, -⟩ := DA.out.cells (Fr.refl _ W10)
 have z := DA.out.free (Fr.refl _ W10)
 have z1 := z 1
 have z2 := z 2
 have z3 := z 3
 have z6 := z 6
 have z7 := z 7
 have z8 := z 8
 have z9 := z 9
 have z10 := z 10
 have hgb2 : ¬ g = b2 := fun e => by have := XB.out.1; have := F2b.out; omega
 have hbg2 : ¬ b2 = g := fun e => hgb2 e.symm
 have HW11 := Lib.hid hW11
 clear z bx hW11s g11 T11 hQ3 hW11
 go_upto_region 23 with fail
 rw [HW11.out]
 clear x0 x1 x2 x3 x4 x5 x6 x7 x8 x9 x10 x11 y1 y2 y3 y6 y7 y8 y9 y10 z1 z2 z3 z6 z7 z8 z9 z10 HW11
 have FB : Hid (∀ W, Fr (fun c _ => c < W1.heap.size) W1 W → Fr (fun c _ => c < w.heap.size) w W) := fun W f => (F1.mono fun _ _ _ => trivial).trans (f.mono fun c _ h => by have := XB.out.2; omega)
 go_wp2_with fail
 go_loopw [8] (fun v8 wr => ∃ k : Nat, v8 = .int .i64 (k : Nat) ∧ k ≤ 16 ∧ Hid (PNs X10 R10 wr b N2 Q2 ∧ DNs X10 wr b2 { N1 with next := up s.next k, mat := up s.mat k } Q3 ∧ Fr (fun c _ => c < W1.heap.size) W1 wr ∧ ∀ j, j < k → 1 ≤ s.next.getD j 0 ∧ s.next.getD j 0 < 1152921504606846976 ∧ s.mat.getD j 0 < 1152921504606846976)) (fun v8 _ => 16 - (intOf v8).toNat)
 case atStart =>
  have e : { N1 with next := up s.next 0, mat := up s.mat 0 } = N1 := by rw [hN1'.out]; rfl
  exact ⟨0, rfl, Nat.zero_le _, PB.out, e.symm ▸ DB.out, F11.out, fun j h => absurd h (by omega)⟩
 case round =>
  obtain ⟨k, rfl, hk, HL⟩ := hrel
  obtain ⟨bx, -, -, cc⟩ := VW.out wr HL.out.2.2.1
  obtain ⟨-, -, -, -, -, -, -, -, -, -, x10, x11⟩ := CC.out wr bx
  by_cases hlt : k < 16
  ·have hltI : (k : Int) < 16 := by omega
   obtain ⟨c1, c2⟩ := cc k hlt
   obtain ⟨nk, hnk⟩ : ∃ x, s.next.getD k 0 = x := ⟨_, rfl⟩
   obtain ⟨mk, hmk⟩ : ∃ x, s.mat.getD k 0 = x := ⟨_, rfl⟩
   rw [hnk] at c1
   rw [hmk] at c2
   have KN := Lib.hid (And.intro hnk hmk)
   have HK := Lib.hid hlt
   clear cc bx hnk hmk hlt
   by_cases d1 : (1152921504606846976 : Int) ≤ (nk : Int)
   ·go_wp2
    (try simp only [Exit.inBlock, Exit.then])
    refine bodyPost_ret (results_tmp2 rfl _ _ _) rfl ?_
    exact ⟨.inr rfl, FB.out wr HL.out.2.2.1⟩
   ·by_cases d2 : (nk : Int) < 1
    ·go_wp2
     (try simp only [Exit.inBlock, Exit.then])
     refine bodyPost_ret (results_tmp2 rfl _ _ _) rfl ?_
     exact ⟨.inr rfl, FB.out wr HL.out.2.2.1⟩
    ·by_cases d3 : (1152921504606846976 : Int) ≤ (mk : Int)
     ·go_wp2
      (try simp only [Exit.inBlock, Exit.then])
      refine bodyPost_ret (results_tmp2 rfl _ _ _) rfl ?_
      exact ⟨.inr rfl, FB.out wr HL.out.2.2.1⟩
     ·have CX : Hid (∀ W, Fr (fun _ _ => True) wr W → W.cell? ⟨g, 10, none⟩ = some (.slice (some ⟨bn, on, none⟩) 16 s.cn) ∧ W.cell? ⟨g, 11, none⟩ = some (.slice (some ⟨bm, om, none⟩) 16 s.cm) ∧ W.cell? ⟨bn, on + k, none⟩ = some (.int .u64 (nk : Nat)) ∧ W.cell? ⟨bm, om + k, none⟩ = some (.int .u64 (mk : Nat))) := fun W f => by
       obtain ⟨bx, -, -, cc⟩ := VW.out W (HL.out.2.2.1.trans (f.mono fun _ _ _ => trivial))
       obtain ⟨-, -, -, -, -, -, -, -, -, -, x10, x11⟩ := CC.out W bx
       obtain ⟨c1, c2⟩ := cc k HK.out
       rw [KN.out.1] at c1
       rw [KN.out.2] at c2
       exact ⟨x10, x11, c1, c2⟩
      have GD : Hid (1 ≤ nk ∧ nk < 1152921504606846976 ∧ mk < 1152921504606846976) := ⟨by omega, by omega, by omega⟩
      go_wp2_with fail
      clear x10 x11 c1 c2
      refine wp_region_cf (K := fun _ _ => True) (by kernel_rfl) [(187, 0), (188, 1), (189, 2), (190, 3), (191, 4), (192, 5), (193, 6), (194, 7), (195, 8), (196, 9)] [(0, []), (1, []), (2, []), (3, [2]), (4, []), (5, [3, 4]), (6, [5]), (7, [0]), (8, [7]), (9, [1, 8])] (ckR [(0, .pointer (some ⟨b2, 0, none⟩)), (1, .int .i64 (k : Nat)), (2, .pointer (some ⟨g, 10, none⟩)), (3, .slice (some ⟨bn, on, none⟩) 16 s.cn), (4, .int .i64 (k : Nat)), (5, .pointer (some ⟨bn, on + k, none⟩)), (6, .int .u64 (nk : Nat)), (7, .pointer (some ⟨b2, 0, none⟩)), (8, .pointer (some ⟨b2, 12, none⟩)), (9, .pointer (some ⟨b2, 12 + k, none⟩))] [] 10 0) 1 (by kernel_rfl) (by kernel_rfl) (by kernel_rfl) rfl ?cfall ?cfend
      case cfall =>
       iterate 10
        refine CfAll.kk rfl rfl rfl (fun xs W hF hE K' hK => ?_) ?_
        ·have HF := Lib.hid hF
         clear hF
         simp only [ckEqs, ckLook, Nat.reduceBEq] at hE
         simp only [fillA, fillL, sA, sB, sC, Act.put, hE] at hK ⊢
         clear hE
         obtain ⟨q1, q2, q3, q4⟩ := CX.out W ((Fr.refl _ wr).drew.trans HF.out)
         (try simp only [gA, gB, gC])
         go_simp
         exact hK.out _ rfl
       exact CfAll.nil
      case cfend =>
       intro xs W hF hA
       have HF := Lib.hid hF
       have hE := ckEnd rfl hA
       clear hA hF
       simp only [List.map_cons, List.map_nil, ckEqs, ckLook, Nat.reduceBEq] at hE
       simp only [fillA, fillL, sA, sB, sC, hE]
       clear hE
       have FW := Lib.hid ((Fr.refl (fun _ _ => True) wr).drew.trans HF.out)
       have am0 := HL.out.2.1.nxt FW.out k HK.out
       have am1 := HL.out.2.1.free FW.out (12 + k)
       refine wpAny_next 10 (by kernel_rfl) rfl fun K' hK => ?_
       (try simp only [gA, gB, gC])
       go_simp
       refine hK.out _ _ ?_
       clear hK K'
       refine wpAny_fin (by kernel_rfl) ?_
       obtain ⟨d5, fN⟩ := (HL.out.2.1.tt FW.out).setN k nk HK.out
       obtain ⟨W12, hW12⟩ : ∃ Y, W.setCell ⟨b2, 12 + k, none⟩ (.int .u64 (nk : Nat)) = Y := ⟨_, rfl⟩
       rw [show natN nk = .int .u64 (nk : Nat) from rfl, hW12] at d5 fN
       try rw [hW12]
       have D5 := Lib.hid d5
       have P5 := Lib.hid ((HL.out.1.tt FW.out).far ((HL.out.2.1.tt FW.out).own fN) (fun c e e2 => NR.out.1 (e2 ▸ e)) d5.hx)
       have f12 : Fr (fun c _ => c < W1.heap.size) wr W12 := (FW.out.mono fun _ _ _ => trivial).trans (fN.mono fun c _ hc e => by have := F2b.out; omega)
       have CX2 : Hid (∀ W, Fr (fun _ _ => True) W12 W → W.cell? ⟨g, 10, none⟩ = some (.slice (some ⟨bn, on, none⟩) 16 s.cn) ∧ W.cell? ⟨g, 11, none⟩ = some (.slice (some ⟨bm, om, none⟩) 16 s.cm) ∧ W.cell? ⟨bn, on + k, none⟩ = some (.int .u64 (nk : Nat)) ∧ W.cell? ⟨bm, om + k, none⟩ = some (.int .u64 (mk : Nat))) := fun W f => by
        obtain ⟨bx, -, -, cc⟩ := VW.out W ((HL.out.2.2.1.trans f12).trans (f.mono fun _ _ _ => trivial))
        obtain ⟨-, -, -, -, -, -, -, -, -, -, x10, x11⟩ := CC.out W bx
        obtain ⟨c1, c2⟩ := cc k HK.out
        rw [KN.out.1] at c1
        rw [KN.out.2] at c2
        exact ⟨x10, x11, c1, c2⟩
       have F12 := Lib.hid (HL.out.2.2.1.trans f12)
       clear d5 fN am0 am1 hW12 f12
       obtain ⟨WA, hWA⟩ : ∃ Y, W = Y := ⟨_, rfl⟩
       rw [hWA] at HF FW
       clear hWA
       go_wp2_with fail
       refine wp_region_cf (K := fun _ _ => True) (by kernel_rfl) [(197, 0), (198, 1), (199, 2), (200, 3), (201, 4), (202, 5), (203, 6), (204, 7), (205, 8), (206, 9)] [(0, []), (1, []), (2, []), (3, [2]), (4, []), (5, [3, 4]), (6, [5]), (7, [0]), (8, [7]), (9, [1, 8])] (ckR [(0, .pointer (some ⟨b2, 0, none⟩)), (1, .int .i64 (k : Nat)), (2, .pointer (some ⟨g, 11, none⟩)), (3, .slice (some ⟨bm, om, none⟩) 16 s.cm), (4, .int .i64 (k : Nat)), (5, .pointer (some ⟨bm, om + k, none⟩)), (6, .int .u64 (mk : Nat)), (7, .pointer (some ⟨b2, 0, none⟩)), (8, .pointer (some ⟨b2, 28, none⟩)), (9, .pointer (some ⟨b2, 28 + k, none⟩))] [] 10 0) 1 (by kernel_rfl) (by kernel_rfl) (by kernel_rfl) rfl ?cfall ?cfend
       case cfall =>
        iterate 10
         refine CfAll.kk rfl rfl rfl (fun xs W hF hE K' hK => ?_) ?_
         ·have HF := Lib.hid hF
          clear hF
          simp only [ckEqs, ckLook, Nat.reduceBEq] at hE
          simp only [fillA, fillL, sA, sB, sC, Act.put, hE] at hK ⊢
          clear hE
          obtain ⟨q1, q2, q3, q4⟩ := CX2.out W ((Fr.refl (fun _ _ => True) W12).drew.trans HF.out)
          (try simp only [gA, gB, gC])
          go_simp
          exact hK.out _ rfl
        exact CfAll.nil
       case cfend =>
        intro xs W hF hA
        have HF := Lib.hid hF
        have hE := ckEnd rfl hA
        clear hA hF
        simp only [List.map_cons, List.map_nil, ckEqs, ckLook, Nat.reduceBEq] at hE
        simp only [fillA, fillL, sA, sB, sC, hE]
        clear hE
        have FZ := Lib.hid ((Fr.refl (fun _ _ => True) W12).drew.trans HF.out)
        have am0 := D5.out.mtc FZ.out k HK.out
        have am1 := D5.out.free FZ.out (28 + k)
        refine wpAny_next 10 (by kernel_rfl) rfl fun K' hK => ?_
        (try simp only [gA, gB, gC])
        go_simp
        refine hK.out _ _ ?_
        clear hK K'
        refine wpAny_fin (by kernel_rfl) ?_
        obtain ⟨d6, fM⟩ := (D5.out.tt FZ.out).setM k mk HK.out
        obtain ⟨W13, hW13⟩ : ∃ Y, W.setCell ⟨b2, 28 + k, none⟩ (.int .u64 (mk : Nat)) = Y := ⟨_, rfl⟩
        rw [show natN mk = .int .u64 (mk : Nat) from rfl, hW13] at d6 fM
        try rw [hW13]
        have D6 := Lib.hid d6
        have P6 := Lib.hid ((P5.out.tt FZ.out).far ((D5.out.tt FZ.out).own fM) (fun c e e2 => NR.out.1 (e2 ▸ e)) d6.hx)
        have F13 : Hid (Fr (fun c _ => c < W1.heap.size) W1 W13) := F12.out.trans ((FZ.out.mono fun _ _ _ => trivial).trans (fM.mono fun c _ hc e => by have := F2b.out; omega))
        clear d6 fM am0 am1 hW13
        go_wp2
        go_roundw
        case rel =>
         refine ⟨k + 1, by go_num, by omega, P6.out, ?_, F13.out, fun j hj => ?_⟩
         ·have e1 := up_set HG.out.n16 HK.out
          have e2 := up_set HG.out.m16 HK.out
          rw [KN.out.1] at e1
          rw [KN.out.2] at e2
          have h := D6.out
          dsimp only at h
          rw [e1, e2] at h
          exact h
         ·by_cases h : j = k
          ·subst h
           rw [KN.out.1, KN.out.2]
           exact GD.out
          ·exact HL.out.2.2.2 j (by omega)
        case measure => simp [intOf]; omega
  ·obtain rfl : k = 16 := by omega
   go_wp2
   (try simp only [Exit.inBlock, Exit.then])
   refine bodyPost_ret (results_tmp2 rfl _ _ _) rfl ?_
   have e : N2 = s.nd := by
    obtain ⟨e1, e2, e3, e4, e5, e6, e7, e8⟩ := SE.out
    rw [HN2.out, hN1'.out]
    unfold StV.nd
    rw [e1, e2, e3, e4, e5, e6, e7, e8]
   have e2 : { N1 with next := up s.next 16, mat := up s.mat 16 } = N2 := by
    rw [HN2.out, up_all HG.out.n16, up_all HG.out.m16]
   have hd := HL.out.2.1
   rw [e2, e] at hd
   exact ⟨.inl ⟨X10, R10, b, Q2, b2, Q3, rfl, e ▸ HL.out.1, hd, NR.out.1, NR.out.2, fun i hi => HL.out.2.2.2 i hi⟩, FB.out wr HL.out.2.2.1⟩
end Go.Proofs.YtmjccpfchhnfhaaGreat
