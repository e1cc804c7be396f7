/- Texts of the proofs, part 50: what the functions that they reach do, walked; no conditions beyond those that each states. -/
import Derived.Test.YtmjccpfchhnfhaaGreatZz3072f7617a
import Derived.Test.YtmjccpfchhnfhaaGreatZz5efd69fd75
set_option linter.unusedVariables false
set_option linter.unusedSimpArgs false
/- Law 12: FollowSends. -/
namespace Go.Proofs.YtmjccpfchhnfhaaGreat
open Go.RowKit
set_option linter.unusedVariables false
set_option linter.unusedSimpArgs false
def Some8 (l : List Ms) : Prop := l.length ≤ 16 ∧ ∀ x ∈ l, x.es.length ≤ 8 ∧ x.data = []
theorem Few.some {l : List Ms} (h : Few l) : Some8 l := ⟨Nat.le_trans h.1 (by decide), h.2⟩
theorem beat_some (n : Nd) (hc : n.conf.length ≤ 16) : Some8 n.beat := by
 refine ⟨Nat.le_trans ?_ hc, fun x hx => ?_⟩
 ·have h : ∀ l : List Int, (l.flatMap n.sendTo).length ≤ l.length := fun l => by
   induction l with
   | nil => exact Nat.le_refl _
   | cons x l ih =>
    rw [List.flatMap_cons, List.length_append, List.length_cons]
    have := (n.sendTo_few x).1
    omega
  exact Nat.le_trans (h _) (List.length_filter_le _ _)
 ·unfold Nd.beat at hx
  obtain ⟨y, _, hy⟩ := List.mem_flatMap.1 hx
  exact (n.sendTo_few y).2 x hy
theorem all_same [Old] {X : Nat → Prop} {w w1 w2 w3 : World} {ms : List Ms} {e1 e2 : Ending} (h1 : MOut X w ms e1 w1) (h2 : MOut X w2 ms e2 w3) (f : Fr (fun _ _ => True) w1 w3) (hf : Some8 ms) :
  ∃ v1 v2, e1 = .returned v1 ∧ e2 = .returned v2 ∧ ∀ W, Fr (fun _ _ => True) w3 W → Calls Tryz.prog 12 #[v1, v2] W fun e w' => e = .returned (.bool true) ∧ Fr (fun _ _ => True) W w' := by
 obtain ⟨⟨v1, a, rfl, o1, g1⟩, -⟩ := h1
 obtain ⟨⟨v2, b, rfl, o2, g2⟩, -⟩ := h2
 refine ⟨v1, v2, rfl, rfl, fun W k => ?_⟩
 have p1 := o1.tt (f.trans k)
 have p2 := o2.tt k
 have hl : a.length ≤ 16 := by
  have := congrArg List.length g1
  rw [List.length_map] at this
  have := hf.1
  omega
 refine mall_true W v1 v2 a b p1.rows p2.rows p1.at' p2.at' (fun x hx => ?_) (g1.trans g2.symm) (by omega)
 have hx' : x.ms ∈ ms := g1 ▸ List.mem_map_of_mem hx
 obtain ⟨k1, k2⟩ := hf.2 _ hx'
 have k1' : x.es.length ≤ 8 := by
  have : x.ms.es.length = x.es.length := List.length_map ..
  omega
 have k2' : x.d = [] := k2
 rw [k2']
 exact ⟨by omega, by simp⟩
theorem propose_kept (n : Nd) (k : Int) (d : List UInt8) : Kept n (n.propose k d).1 1 ∧ (n.propose k d).1.log.last ≤ n.log.last + 1 := by
 have z : Kept n n 1 := ⟨rfl, rfl, Nat.le_refl _, Nat.le_succ _⟩
 unfold Nd.propose
 split
 ·exact ⟨z, Nat.le_succ _⟩
 ·split
  ·exact ⟨z, Nat.le_succ _⟩
  ·split
   ·exact ⟨z, Nat.le_succ _⟩
   ·have h := Nd.sure_kept { n with log := n.log.add ⟨n.tm, k, d⟩, mat := n.mat.set n.me.toNat (n.log.last + 1) }
    have hl : ∀ x : Nd, x.sure.log = x.log := fun x => by unfold Nd.sure Nd.sureR; split <;> rfl
    refine ⟨⟨h.me, h.conf, h.yes, ?_⟩, ?_⟩
    ·refine Nat.le_trans h.es ?_
     show (n.log.es ++ [_]).length + 0 ≤ _
     rw [List.length_append]; exact Nat.le_refl _
    ·show Lg.last _ ≤ _
     rw [hl]
     show n.log.base + (n.log.es ++ [_]).length ≤ _
     rw [List.length_append]
     exact Nat.le_refl _
def Box1 (W1 : World) (g0 : Nat) (s : StV) (W : World) : Prop := W.heap[g0]? = some (.cells (cS s) 29 (0, 0)) ∧ Fr (fun c _ => c < W1.heap.size) W1 W
theorem Box1.fr {W1 W W' : World} {g0 : Nat} {s : StV} {K : Nat → Obj → Prop} (h : Box1 W1 g0 s W) (f : Fr K W W') (hk : ∀ c o, c < W1.heap.size → K c o) (h0 : g0 < W1.heap.size) : Box1 W1 g0 s W' :=
 ⟨f.keep _ _ h.1 (hk _ _ h0), h.2.trans (f.mono fun c o q => hk c o q)⟩
set_option maxRecDepth 100000 in
set_option maxHeartbeats 8000000 in
theorem followSends_main (W : World) (s : StV) (tx kd : Int) (da : Option Addr) (dc : Nat) (d : List UInt8) (hs : @StV.lies (oldB W) W s) (hd : BytesAt (@RO (oldB W) fun _ => False) W (.slice da d.length dc) d) (hcl : s.conf.length ≤ maxLen) :
  Calls Tryz.prog 4 #[.agg (cS s), .int .i64 tx, .int .i64 kd, .slice da d.length dc] W fun e w' => e = .returned (.bool true) ∧ Fr (fun c _ => c < W.heap.size) W w' := by
 letI : Old := oldB W
 obtain ⟨W1, hW1, F1, X1⟩ := sbox W s
 obtain ⟨g0, hg0⟩ : ∃ x, W.heap.size = x := ⟨_, rfl⟩
 have B1 : Hid (Box1 W1 g0 s W1) := ⟨hg0 ▸ X1.out, Fr.refl _ _⟩
 have GS : Hid (g0 < W1.heap.size) := lt_of_some B1.out.1
 have FE : Hid (∀ W', Box1 W1 g0 s W' → Fr (fun c _ => c < W.heap.size) W W') := fun W' h => (F1.out.mono fun _ _ _ => trivial).trans (h.2.mono fun c _ q => Nat.lt_of_lt_of_le q F1.out.size)
 have AC := Lib.hid (awake_calls W1)
 have HS := Lib.hid (hs.tt F1.out)
 have HDD := Lib.hid (hd.tt F1.out)
 have BC := Lib.hid (fun W' (f : Fr (fun _ _ => True) W1 W') => both_calls W' s (HS.out.tt f) hcl)
 have VS : Hid (∀ W', Box1 W1 g0 s W' → W'.cell? ⟨g0, 0, none⟩ = some (.int .i64 s.me) ∧ W'.cell? ⟨g0, 1, none⟩ = some (.int .i64 s.role) ∧ W'.cell? ⟨g0, 2, none⟩ = some (.int .i64 s.vote) ∧ W'.cell? ⟨g0, 3, none⟩ = some (.int .i64 s.ld) ∧ W'.cell? ⟨g0, 4, none⟩ = some (.slice s.ac s.conf.length s.cc) ∧ W'.cell? ⟨g0, 5, none⟩ = some (.int .u64 (s.tm : Nat)) ∧ W'.cell? ⟨g0, 6, none⟩ = some (.int .u64 (s.commit : Nat)) ∧ W'.cell? ⟨g0, 7, none⟩ = some (.int .u64 (s.base : Nat)) ∧ W'.cell? ⟨g0, 8, none⟩ = some (.int .u64 (s.bt : Nat)) ∧ W'.cell? ⟨g0, 9, none⟩ = some (.slice s.ae s.es.length s.ce) ∧ W'.cell? ⟨g0, 10, none⟩ = some (.slice s.an s.next.length s.cn) ∧ W'.cell? ⟨g0, 11, none⟩ = some (.slice s.am s.mat.length s.cm)) := fun W' h => scells h.1
 unfold cS at hW1 BC ⊢
 obtain ⟨dl, hdl⟩ : ∃ x, d.length = x := ⟨_, rfl⟩
 rw [hdl] at HDD ⊢
 have DL := Lib.hid hdl
 clear X1 hs hd hcl hdl
 go_enter Tryz.func4, Tryz.ntmps4
 go_wp2_with fail
 try rw [hW1]
 try rw [hg0]
 (with_reducible refine AC.out.mono ?_)
 rintro e w1 ⟨rfl, f1⟩
 have HG := Lib.hid hg0
 have B3 := Lib.hid (B1.out.fr f1 (fun _ _ _ => trivial) GS.out)
 have BC1 := Lib.hid (BC.out w1 f1)
 have HD1 := Lib.hid (HDD.out.tt f1)
 obtain ⟨x0, x1, x2, x3, x4, x5, x6, x7, x8, x9, x10, x11⟩ := VS.out w1 B3.out
 clear hW1 hg0 AC BC f1 F1 HS HDD
 go_wp2_with fail
 (with_reducible refine BC1.out.mono ?_)
 rintro e w2 ⟨hout, f2⟩
 have B4 := Lib.hid (B3.out.fr f2 (fun _ _ _ => trivial) GS.out)
 clear x0 x1 x2 x3 x4 x5 x6 x7 x8 x9 x10 x11 BC1 VS
 rcases hout with ⟨X, P, b, q, b2, q2, rfl, hP, hD, hnb, hX, hnm, hgd⟩ | rfl
 ·have A2 : Aft (fun _ => False) (fun _ => False) X X w1 w2 := ⟨f2.mono fun _ _ _ => trivial, fun c => ⟨.inr, fun k => k.elim (fun e => e.elim) id⟩, (fun c k => k.elim), fun c k => .inr (hX c k), (fun c k => k.elim)⟩
  by_cases h100 : (100 : Int) < (dl : Int)
  ·clear hP hD hnb hX hnm hgd A2
   go_wp2
   go_ret
   exact ⟨rfl, FE.out _ B4.out⟩
  ·have hdx := HD1.out.aft A2
   rw [← DL.out] at hdx
   have hrt := right_all hgd.right
   have BN := hgd.bn hnm
   have hlast := BN.1.last
   have hcf : 0 < s.nd.conf.length ∧ s.nd.conf.length ≤ 16 := ⟨hrt.2.1, hrt.2.2⟩
   have hpos : ∀ x ∈ s.nd.conf, 0 ≤ x ∧ x ≤ 15 := hrt.1
   have hnx : ∀ y ∈ s.nd.next, y < 18446744073709551616 := fun y hy => by have := BN.1.nx y hy; omega
   obtain ⟨mN, hme⟩ := Int.eq_ofNat_of_zero_le hgd.me.1
   have hm16 : mN < 16 := by have := hgd.me.2; omega
   have T1 := Lib.hid (fun W' (f : Fr (fun _ _ => True) w2 W') => to_calls (hP.tt f) tx hnx (by omega) (by omega))
   have T2 := Lib.hid (fun W' (f : Fr (fun _ _ => True) w2 W') => dto_calls (hD.tt f) tx hnx (by omega) (by omega))
   have T3 := Lib.hid (fun W' (f : Fr (fun _ _ => True) w2 W') => beat_calls (hP.tt f) ⟨hcf.1, by omega⟩ hnx (by omega) (by omega))
   have T4 := Lib.hid (fun W' (f : Fr (fun _ _ => True) w2 W') => dbeat_calls (hD.tt f) (by omega) hnx (by omega) (by omega))
   have T5 := Lib.hid (fun W' (f : Fr (fun _ _ => True) w2 W') => behind_calls (hP.tt f) ⟨hcf.1, by omega⟩ (fun x hx => by have := hpos x hx; omega))
   have T6 := Lib.hid (fun W' (f : Fr (fun _ _ => True) w2 W') => dbehind_calls (hD.tt f) (by omega) (fun x hx => by have := hpos x hx; omega))
   have T7 := Lib.hid (fun W' (f : Fr (fun _ _ => True) w2 W') => propose_calls (hP.tt f) kd da dc d (hdx.tt f) hcf (fun x hx => (hpos x hx).1) mN hme hm16 (by omega) (by omega))
   obtain ⟨r, hr⟩ : ∃ r, s.nd.propose kd d = r := ⟨_, rfl⟩
   have KP := propose_kept s.nd kd d
   rw [hr] at KP T7
   have hk1 : r.1.log.es.length ≤ 21 := by have := KP.1.es; omega
   have hk2 : r.1.yes.length ≤ 0 := KP.1.yes
   have T8 := Lib.hid (fun W' q (h : DNs X W' b2 s.nd q) (h2 : BytesAt (RO X) W' (.slice da d.length dc) d) => hr ▸ dpropose_calls h kd da dc d h2 hcf hpos mN hme hm16 (by omega) (by omega))
   have T9 := Lib.hid (fun W' q (h : PNs X P W' b r.1 q) => (sure_both h (by rw [KP.1.conf]; exact hcf) (by rw [KP.1.conf]; exact fun x hx => (hpos x hx).1) (by omega)).1)
   have T10 := Lib.hid (fun W' q (h : DNs X W' b2 r.1 q) => dsure_calls h (by rw [KP.1.conf]; exact hcf) (by rw [KP.1.conf]; exact hpos) (by omega) (by omega))
   have SK := Nd.sure_kept r.1
   have SM := Lib.hid (fun W' q q' (h : PNs X P W' b r.1 q) (h2 : DNs X W' b2 r.1 q') => same12_true h h2 (by unfold maxLen; omega) (by omega))
   have SM2 := Lib.hid (fun W' q q' (h : PNs X P W' b r.1.sure q) (h2 : DNs X W' b2 r.1.sure q') => same12_true h h2 (by have := SK.yes; unfold maxLen; omega) (by have := SK.es; omega))
   have S8 := Lib.hid (And.intro (s.nd.sendTo_few tx).some (beat_some s.nd hcf.2))
   have BL : Hid (s.nd.behind.length ≤ maxLen) := by
    have h1 : s.nd.behind.length ≤ s.nd.conf.length := by
     unfold Nd.behind
     split
     ·exact Nat.le_trans (List.length_filter_le _ _) (List.length_filter_le _ _)
     ·exact Nat.zero_le _
    show _ ≤ _
    unfold maxLen; omega
   have HP := Lib.hid hP
   have HD := Lib.hid hD
   have HDX := Lib.hid hdx
   have NB := Lib.hid (And.intro hnb hX)
   have SZ : Hid (W1.heap.size ≤ w1.heap.size) := B3.out.2.size
   have z0 : Fr (fun _ _ => True) w2 w2 := Fr.refl _ _
   have U1 := Lib.hid (T1.out w2 z0)
   rw [DL.out] at T7 T8
   obtain ⟨ri, hri⟩ : ∃ x, r.2.1 = x := ⟨_, rfl⟩
   obtain ⟨rc, hrc⟩ : ∃ x, r.2.2 = x := ⟨_, rfl⟩
   have HRI := Lib.hid (And.intro hri hrc)
   clear hP hD hnb hX hnm hgd A2 hdx hrt BN hlast hcf hpos hnx hme hm16 KP hk1 hk2 SK hr hri hrc
   go_wp2_with fail
   (with_reducible refine U1.out.mono ?_)
   intro e w3 m1
   obtain ⟨⟨v1, -, rfl, -⟩, f3⟩ := id m1
   have M1 := Lib.hid m1
   have U2 := Lib.hid (T2.out w3 f3)
   have G3 := Lib.hid f3
   clear U1 T1 m1 f3 z0
   go_wp2_with fail
   (with_reducible refine U2.out.mono ?_)
   intro e w4 m2
   obtain ⟨⟨v2, -, rfl, -⟩, f4⟩ := id m2
   have M2 := Lib.hid m2
   have G4 := Lib.hid (G3.out.trans f4)
   have U3 := Lib.hid (T3.out w4 G4.out)
   obtain ⟨_, _, e1, e2, AL1⟩ := all_same M1.out M2.out f4 S8.out.1
   cases e1
   cases e2
   have A1 := Lib.hid AL1
   clear U2 T2 m2 f4 AL1 M1 M2
   go_wp2_with fail
   (with_reducible refine U3.out.mono ?_)
   intro e w5 m3
   obtain ⟨⟨v3, -, rfl, -⟩, f5⟩ := id m3
   have M3 := Lib.hid m3
   have G5 := Lib.hid (G4.out.trans f5)
   have U4 := Lib.hid (T4.out w5 G5.out)
   have F45 := Lib.hid f5
   clear U3 T3 m3 f5
   go_wp2_with fail
   (with_reducible refine U4.out.mono ?_)
   intro e w6 m4
   obtain ⟨⟨v4, -, rfl, -⟩, f6⟩ := id m4
   have M4 := Lib.hid m4
   have G6 := Lib.hid (G5.out.trans f6)
   have U5 := Lib.hid (T5.out w6 G6.out)
   obtain ⟨_, _, e1, e2, AL2⟩ := all_same M3.out M4.out f6 S8.out.2
   cases e1
   cases e2
   have A2 := Lib.hid AL2
   have F46 := Lib.hid (F45.out.trans f6)
   clear U4 T4 m4 f6 AL2 M3 M4 F45
   go_wp2_with fail
   (with_reducible refine U5.out.mono ?_)
   rintro e w7 ⟨⟨g5, k5, rfl, r5⟩, f7⟩
   have G7 := Lib.hid (G6.out.trans f7)
   have F47 := Lib.hid (F46.out.trans f7)
   have F67 := Lib.hid f7
   have R5 := Lib.hid r5
   have U6 := Lib.hid (T6.out w7 G7.out)
   clear U5 T5 f7 r5
   go_wp2_with fail
   (with_reducible refine U6.out.mono ?_)
   rintro e w8 ⟨⟨g6, k6, rfl, r6⟩, f8⟩
   have G8 := Lib.hid (G7.out.trans f8)
   have NU : Hid (∀ W', Fr (fun _ _ => True) w8 W' → Calls Tryz.prog 22 #[.slice g5 s.nd.behind.length k5, .slice g6 s.nd.behind.length k6] W' fun e w' => e = .returned (.bool true) ∧ Fr (fun _ _ => True) W' w') := fun W' f => (nums_calls W' _ _ s.nd.behind s.nd.behind ((R5.out.ints.tt f8).tt f) (r6.ints.tt f) BL.out).mono fun e w' ⟨h1, h2⟩ => ⟨by rw [h1, decide_eq_true rfl], h2⟩
   have A1' := Lib.hid (A1.out w8 (F47.out.trans f8))
   have A2' := Lib.hid (fun W' (f : Fr (fun _ _ => True) w8 W') => A2.out W' ((F67.out.trans f8).trans f))
   clear U6 T6 f8 r6 A1 A2 F46 F47 F67 R5
   go_wp2_with fail
   (with_reducible refine A1'.out.mono ?_)
   rintro e w9 ⟨rfl, f9⟩
   have A2'' := Lib.hid (A2'.out w9 f9)
   have G9 := Lib.hid (G8.out.trans f9)
   have F89 := Lib.hid f9
   clear A1' A2' f9
   go_wp2_with fail
   (with_reducible refine A2''.out.mono ?_)
   rintro e w10 ⟨rfl, f10⟩
   have NU1 := Lib.hid (NU.out w10 (F89.out.trans f10))
   have G10 := Lib.hid (G9.out.trans f10)
   clear A2'' f10 NU F89
   go_wp2_with fail
   (with_reducible refine NU1.out.mono ?_)
   rintro e w11 ⟨rfl, f11⟩
   have G11 := Lib.hid (G10.out.trans f11)
   have U7 := Lib.hid (T7.out w11 G11.out)
   clear NU1 f11 T7
   go_wp2_with fail
   (with_reducible refine U7.out.mono ?_)
   rintro e w12 ⟨⟨q12, he, p12⟩, f12⟩
   rw [HRI.out.1, HRI.out.2] at he
   subst he
   have P12 := Lib.hid p12
   have a12 : Aft X P X P w11 w12 := .of f12 HP.out.px
   have D12 := Lib.hid ((HD.out.tt G11.out).far a12 NB.out.1 p12.hx)
   have hdx := (HDX.out.tt G11.out).aft a12
   rw [DL.out] at hdx
   have U8 := Lib.hid (T8.out w12 _ D12.out hdx)
   have B12 := Lib.hid ((B4.out.fr G11.out (fun _ _ _ => trivial) GS.out).fr f12 (fun c o hc k => by have := NB.out.2 c (HP.out.px c k); have := SZ.out; omega) GS.out)
   clear U7 p12 f12 a12 hdx T8 HD HDX B4
   go_wp2_with fail
   (with_reducible refine U8.out.mono ?_)
   rintro e w13 ⟨⟨q13, he, d13⟩, f13⟩
   rw [HRI.out.1, HRI.out.2] at he
   subst he
   have a13 := D12.out.own f13
   have P13 := Lib.hid (P12.out.far a13 (fun c k k2 => NB.out.1 (k2 ▸ k)) d13.hx)
   have D13 := Lib.hid d13
   have B13 := Lib.hid (B12.out.fr f13 (fun c o hc k => by have := NB.out.2 b2 D12.out.xb; have := SZ.out; omega) GS.out)
   have S13 := Lib.hid (SM.out w13 _ _ P13.out D13.out)
   clear U8 d13 f13 a13 P12 D12 B12 SM
   go_wp2_with fail
   (with_reducible refine S13.out.mono ?_)
   rintro e w14 ⟨rfl, f14⟩
   have P14 := Lib.hid (P13.out.tt f14)
   have D14 := Lib.hid (D13.out.tt f14)
   have B14 := Lib.hid (B13.out.fr f14 (fun _ _ _ => trivial) GS.out)
   have U9 := Lib.hid (T9.out w14 _ P14.out)
   clear S13 f14 P13 D13 B13 T9
   go_wp2_with fail
   (with_reducible refine U9.out.mono ?_)
   rintro e w15 ⟨rfl, p15, f15⟩
   have a15 : Aft X P X P w14 w15 := .of (f15.mono fun c _ hc e => hc (e ▸ P14.out.pb)) HP.out.px
   have D15 := Lib.hid (D14.out.far a15 NB.out.1 p15.hx)
   have P15 := Lib.hid p15
   have B15 := Lib.hid (B14.out.fr f15 (fun c o hc k => by have := NB.out.2 b (HP.out.px _ P14.out.pb); have := SZ.out; omega) GS.out)
   have U10 := Lib.hid (T10.out w15 _ D15.out)
   clear U9 f15 a15 p15 P14 D14 B14 T10
   go_wp2_with fail
   (with_reducible refine U10.out.mono ?_)
   rintro e w16 ⟨rfl, d16, f16⟩
   have a16 := D15.out.own f16
   have P16 := Lib.hid (P15.out.far a16 (fun c k k2 => NB.out.1 (k2 ▸ k)) d16.hx)
   have B16 := Lib.hid (B15.out.fr f16 (fun c o hc k => by have := NB.out.2 b2 D15.out.xb; have := SZ.out; omega) GS.out)
   have S16 := Lib.hid (SM2.out w16 _ _ P16.out d16)
   have gi : ((ri : Int) == (ri : Int)) = true := by simp
   have gc : (rc == rc) = true := by simp
   clear U10 d16 f16 a16 P15 D15 B15 SM2
   go_wp2_with fail
   (with_reducible refine S16.out.mono ?_)
   rintro e w17 ⟨rfl, f17⟩
   have B17 := Lib.hid (B16.out.fr f17 (fun _ _ _ => trivial) GS.out)
   clear S16 f17
   go_wp2
   go_ret
   exact ⟨rfl, FE.out _ B17.out⟩
 ·go_wp2
  go_ret
  exact ⟨rfl, FE.out _ B4.out⟩
theorem followSends_walk (W : World) (cs0 : Array Value) (a1 a2 : Int) (a3 : Option Addr) (len3 cap3 : Nat) (r0 : Rd Tryz.prog W 29 cs0.toList) (r3 : Rd Tryz.prog W 30 [.slice a3 len3 cap3]) :
  Calls Tryz.prog 4 #[.agg cs0, .int .i64 a1, .int .i64 a2, .slice a3 len3 cap3] W fun e w' => e = .returned (.bool true) ∧ Below W.heap.size W w' := by
 obtain ⟨s, rfl, hs, hcl⟩ := st_of r0
 obtain ⟨a, c, bs, e, hb, hl⟩ := dat_of r3
 cases e
 exact (followSends_main W s a1 a2 _ _ bs hs hb hcl).mono fun e w' ⟨h1, h2⟩ => ⟨h1, h2.below (Nat.le_refl _)⟩
end Go.Proofs.YtmjccpfchhnfhaaGreat
