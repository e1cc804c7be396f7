/- Texts of the proofs, part 47: what the functions that they reach do, walked; no conditions beyond those that each states. -/
import Derived.Test.YtmjccpfchhnfhaaZz9d50550223
set_option linter.unusedVariables false
set_option linter.unusedSimpArgs false
/- Raft heals, plainly (7): w leads, and hears what was taken. -/
namespace Go.Proofs.Ytmjccpfchhnfhaa
set_option linter.unusedVariables false
set_option linter.unusedSimpArgs false
section
variable {many w Lm cm c b : Nat} {cq : Prop} {lg : Option Lg} {T : Nat → Nd} {q : Qs} {m : Ms} {k : Nat} {n' : Nd}
theorem ofK.uq (hm : ofK w k m) (hkw : k ≠ w) (h6 : m.kind = 6) {x : Ms × Nat} (hu : ¬ SameK w m x.1) {j : Nat} (hjw : j ≠ w) (hx : (toK w j x.1 ∧ x.1.kind = 5) ∨ (ofK w j x.1 ∧ x.1.kind = 6)) : j ≠ k := fun e => by
 subst e
 refine hu ⟨?_, ?_⟩
 ·rw [(slt_of hm hkw).1, h6]
  rcases hx with ⟨a, d⟩ | ⟨a, d⟩
  ·rw [(slt_to a).1, d]; decide
  ·rw [(slt_of a hjw).1, d]
 ·rw [(slt_of hm hkw).2]
  rcases hx with ⟨a, d⟩ | ⟨a, d⟩
  ·rw [(slt_to a).2]
  ·rw [(slt_of a hjw).2]
structure Akd (w k : Nat) (n n' : Nd) : Prop where
 e1 : n'.role = 3
 e2 : n'.tm = n.tm
 e3 : n'.log = n.log
 e4 : ∀ j, j ≠ k → n'.next.getD j 0 = n.next.getD j 0
 e5 : ∀ j, j ≠ k → n'.mat.getD j 0 = n.mat.getD j 0
theorem RdW.base (h : RdW many w Lm T ((m, c) :: q) b) (hk : k < many) (hkw : k ≠ w) (hm : ofK w k m) (h6 : m.kind = 6) (hr : (T w).role = 3) (ht : m.tm ≤ (T w).tm) (e : Akd w k (T w) n') :
  RdW many w Lm (upd T w n') q (b - c) := by
 have hq : ∀ x ∈ q, x ∈ (m, c) :: q := fun x hx => List.mem_cons_of_mem _ hx
 have hc := h.cr (m, c) (List.mem_cons_self ..)
 have ek : ∀ j, j ≠ w → upd T w n' j = T j := fun j hj => upd_ne _ _ hj
 obtain ⟨u1, u2⟩ := List.pairwise_cons.1 h.uq
 have n1 : ¬ (3 : Int) = 1 := by decide
 have n2 : ¬ (3 : Int) = 2 := by decide
 refine ⟨fun x hx => h.ad x (hq x hx), u2, fun x hx => h.cr x (hq x hx), ?_, ?_, ?_, ?_, ?_, fun j hj => ?_, fun j hj hjw => ?_, ?_, ?_, fun x hx => h.pv x (hq x hx), ?_⟩ <;> (try rw [upd_self]) <;> (try rw [e.e1])
 ·intro _ x hx j hj h5
  have hjw : j ≠ w := by
   obtain ⟨i, hi, hiw, d | d⟩ := h.ad x (hq x hx)
   ·exact (d.eq hj) ▸ hiw
   ·exact absurd hj (d.not hiw)
  have hjk := hm.uq hkw h6 (u1 x hx) hjw (.inl ⟨hj, h5⟩)
  rw [e.e2, e.e3, e.e4 j hjk, e.e5 j hjk]
  exact h.c5 hr x (hq x hx) j hj h5
 ·intro _ x hx j hj h5
  have hjw : j ≠ w := by
   obtain ⟨i, hi, hiw, d | d⟩ := h.ad x (hq x hx)
   ·exact absurd d (fun d => by rcases d.2.2 with a | a | a <;> omega)
   ·exact (d.eq hj) ▸ hiw
  have hjk := hm.uq hkw h6 (u1 x hx) hjw (.inr ⟨hj, h5⟩)
  have := h.c6 hr x (hq x hx) j hj h5
  unfold Ack at this ⊢
  rw [e.e2, e.e3, e.e4 j hjk, e.e5 j hjk]
  exact this
 ·exact fun d => absurd d (by omega)
 ·exact fun d => absurd d n1
 ·rw [e.e2, e.e3]; exact fun x hx => h.p5 x (hq x hx)
 ·by_cases d : j = w
  ·subst d; rw [upd_self]; exact Nwr.refl _
  ·rw [ek j d, e.e3]; exact h.nw j hj
 ·rw [ek j hjw, e.e2]
  rcases h.inf j hj hjw with d | ⟨x, hx, d⟩
  ·exact .inl d
  ·rcases List.mem_cons.1 hx with hx | hx
   ·subst hx
    rcases d with d | d
    ·exact absurd d.1 (hm.not hkw)
    ·have d3 : (T j).tm ≤ m.tm := d.2.2
     exact .inl (by omega)
   ·exact .inr ⟨x, hx, d⟩
 ·exact fun d => absurd d n1
 ·have := h.bud
  rw [tot_cons] at this
  have h2 : (m, c).2 = c := rfl
  unfold stg at this ⊢
  rw [if_neg n1, if_neg n2]
  omega
 ·rw [e.e3]; exact ⟨h.lm.1, fun d => absurd d (by omega)⟩
theorem RdS.base (h : RdS many w cm cq lg T ((m, c) :: q)) (h0 : RdW many w Lm T ((m, c) :: q) b) (hk : k < many) (hkw : k ≠ w) (hm : ofK w k m) (h6 : m.kind = 6) (hr : (T w).role = 3) (e : Akd w k (T w) n') {r : Qs}
  (hrk : ∀ x ∈ r, ∀ j, ¬ ofK w j x.1)
  (h6' : (n'.mat.getD k 0 = n'.log.es.length ∧ n'.next.getD k 0 = n'.log.es.length + 1) ∨ ∃ x ∈ r, toK w k x.1 ∧ x.1.kind = 5)
  (h7 : (∃ x ∈ r, x.1.kind = 5) ∨ ((∀ j, j < many → j ≠ w → n'.mat.getD j 0 = n'.log.es.length) → n'.log.es.length ≤ n'.commit)) : RdS many w cm cq lg (upd T w n') (q ++ r) := by
 have ek : ∀ j, j ≠ w → upd T w n' j = T j := fun j hj => upd_ne _ _ hj
 obtain ⟨u1, u2⟩ := List.pairwise_cons.1 h0.uq
 have n1 : ¬ (3 : Int) = 1 := by decide
 have n2 : ¬ (3 : Int) = 2 := by decide
 have mv : ∀ {x : Ms × Nat}, x ∈ q → x ∈ q ++ r := fun hx => List.mem_append_left _ hx
 have S6 : ∀ j, j < many → j ≠ w → (n'.mat.getD j 0 = n'.log.es.length ∧ n'.next.getD j 0 = n'.log.es.length + 1) ∨ ∃ x ∈ q ++ r, (toK w j x.1 ∧ x.1.kind = 5) ∨ (ofK w j x.1 ∧ x.1.kind = 6) := fun j hj hjw => by
  by_cases d : j = k
  ·subst d
   exact h6'.imp_right fun ⟨x, hx, d⟩ => ⟨x, List.mem_append_right _ hx, .inl d⟩
  ·rcases h.s6 hr j hj hjw with a | ⟨x, hx, a⟩
   ·exact .inl (by rw [e.e3, e.e4 j d, e.e5 j d]; exact a)
   ·rcases List.mem_cons.1 hx with hx | hx
    ·subst hx
     rcases a with a | a
     ·exact absurd a.1 (hm.not hkw)
     ·exact absurd (hm.eq a.1).symm d
    ·exact .inr ⟨x, mv hx, a⟩
 refine ⟨fun j hj => ?_, fun x hx j hj => ?_, ?_, ?_, ?_, ?_, ?_, fun j hj hjw => ?_, ?_⟩ <;> (try rw [upd_self]) <;> (try rw [e.e1])
 ·by_cases d : j = w
  ·subst d; rw [upd_self]; exact Nat.le_refl _
  ·rw [ek j d, e.e2]; exact h.s1 j hj
 ·rw [e.e2]
  rcases List.mem_append.1 hx with hx | hx
  ·exact h.s2 x (List.mem_cons_of_mem _ hx) j hj
  ·exact absurd hj (hrk x hx j)
 ·decide
 ·exact fun d => absurd d n1
 ·exact fun d => absurd d n2
 ·exact fun _ => S6
 ·intro _
  by_cases hx : ∃ x ∈ q ++ r, x.1.kind = 5 ∨ x.1.kind = 6
  ·exact .inl hx
  ·refine .inr (.inl ?_)
   rcases h7 with ⟨x, a, d⟩ | a
   ·exact absurd ⟨x, List.mem_append_right _ a, .inl d⟩ hx
   ·refine a fun j hj hjw => ?_
    rcases S6 j hj hjw with d | ⟨x, d, d2⟩
    ·exact d.1
    ·exact absurd ⟨x, d, d2.imp And.right And.right⟩ hx
 ·rw [ek j hjw]
  refine (h.s8 j hj hjw).imp_right fun ⟨x, hx, d⟩ => ?_
  rcases List.mem_cons.1 hx with hx | hx
  ·subst hx; exact absurd d.1 (hm.not hkw)
  ·have hjk := hm.uq hkw h6 (u1 x hx) hjw (.inl ⟨d.1, d.2.1⟩)
   exact ⟨x, mv hx, by rw [e.e4 j hjk, e.e5 j hjk]; exact d⟩
 ·rw [e.e3]
  exact fun l hl => ⟨rfl, (h.s9 l hl).2⟩
theorem RdW.again (h : RdW many w Lm T ((m, c) :: q) b) (hk : k < many) (hkw : k ≠ w) (hm : ofK w k m) (h6 : m.kind = 6) (hr : (T w).role = 3) (ht : m.tm ≤ (T w).tm) (e : Akd w k (T w) n') (l0 : Lg0 n'.log)
  (hn1 : n'.mat.getD k 0 + 1 ≤ n'.next.getD k 0) (hn2 : n'.next.getD k 0 ≤ n'.log.es.length + 1) (hz : fz (n'.next.getD k 0) (n'.mat.getD k 0) n'.log.es.length + 1 ≤ c) (hpv : ∀ i, tA n'.log.es i < 1152921504606846976) :
  RdW many w Lm (upd T w n') (q ++ [(appM w n' k, c - 1)]) (b - 1) := by
 have g := h.base hk hkw hm h6 hr ht e
 have vt : toK w k (appM w n' k) := ⟨rfl, rfl, .inr (.inr rfl)⟩
 obtain ⟨u1, u2⟩ := List.pairwise_cons.1 h.uq
 have hc2 := (fz_le hn1 hn2).2
 have n1 : ¬ (3 : Int) = 1 := by decide
 have n2 : ¬ (3 : Int) = 2 := by decide
 refine ⟨fun x hx => ?_, List.pairwise_append.2 ⟨g.uq, List.pairwise_singleton _ _, fun x hx y hy => ?_⟩, fun x hx => ?_, ?_, ?_, ?_, ?_, ?_, g.nw, fun j hj hjw => ?_, g.a1, ?_, fun x hx => ?_, g.lm⟩
 ·rcases List.mem_append.1 hx with hx | hx
  ·exact g.ad x hx
  ·rw [List.mem_singleton.1 hx]; exact ⟨k, hk, hkw, .inl vt⟩
 ·rw [List.mem_singleton.1 hy]
  intro d
  refine u1 x hx ⟨?_, ?_⟩
  ·rw [(slt_of hm hkw).1, h6, d.1, (slt_to vt).1]; rfl
  ·rw [(slt_of hm hkw).2, d.2, (slt_to vt).2]
 ·rcases List.mem_append.1 hx with hx | hx
  ·exact g.cr x hx
  ·rw [List.mem_singleton.1 hx]; exact ⟨by show 1 ≤ c - 1; omega, fun _ => by show 2 ≤ c - 1; omega⟩
 ·intro hr' x hx j hj h5
  rcases List.mem_append.1 hx with hx | hx
  ·exact g.c5 hr' x hx j hj h5
  ·rw [List.mem_singleton.1 hx] at hj ⊢
   have : k = j := vt.eq hj
   subst this
   rw [upd_self]
   exact ⟨rfl, by show n'.next.getD k 0 - 1 + 1 = _; omega, rfl, by show _ ≤ c - 1; omega⟩
 ·intro hr' x hx j hj h5
  rcases List.mem_append.1 hx with hx | hx
  ·exact g.c6 hr' x hx j hj h5
  ·rw [List.mem_singleton.1 hx] at h5
   exact absurd (show (5 : Int) = 6 from h5) (by decide)
 ·rw [upd_self, e.e1]; exact fun d => absurd d (by omega)
 ·rw [upd_self, e.e1]; exact fun d => absurd d n1
 ·intro x hx j hj
  rcases List.mem_append.1 hx with hx | hx
  ·exact g.p5 x hx j hj
  ·rw [List.mem_singleton.1 hx]
   rw [upd_self]
   exact ⟨fun d => ⟨Nat.le_refl _, appM_p5 l0 (by omega) hn2⟩, fun d => absurd (show (5 : Int) = 3 from d) (by decide), fun d => absurd (show (5 : Int) = 1 from d) (by decide)⟩
 ·exact (g.inf j hj hjw).imp_right fun ⟨x, hx, d⟩ => ⟨x, List.mem_append_left _ hx, d⟩
 ·have h1 := h.bud
  have h2 := g.bud
  rw [tot_cons] at h1
  have h3 : (m, c).2 = c := rfl
  rw [upd_self, e.e1] at h2 ⊢
  rw [tot_app, tot_cons, tot_nil]
  unfold stg at h1 h2 ⊢
  rw [if_neg n1, if_neg n2] at h2 ⊢
  show tot q + (c - 1 + 0) + 0 ≤ _
  omega
 ·rcases List.mem_append.1 hx with hx | hx
  ·exact g.pv x hx
  ·rw [List.mem_singleton.1 hx]
   show (n'.log.term (n'.next.getD k 0 - 1)).1 < _
   rw [l0.term]; exact hpv _
theorem fz_fail {nx mt nx' L : Nat} (h1 : mt + 1 < nx) (h2 : mt + 1 ≤ nx') (h3 : nx' + 1 ≤ nx) : fz nx' mt L + 2 ≤ fz nx mt L := by
 unfold fz
 rw [if_neg (by omega : ¬ nx = mt + 1)]
 split <;> omega
theorem fz_ok {nx mt mt' L : Nat} (h1 : mt + 1 ≤ nx) (h2 : mt ≤ mt') (h3 : nx ≤ mt') (h4 : mt' ≤ L) : fz (mt' + 1) mt' L + 2 ≤ fz nx mt L := by
 unfold fz
 rw [if_pos rfl]
 split <;> omega
theorem reach_all {n : Nd} {L : Nat} (hc : n.conf = cfN many) (h0 : 0 < many) (h16 : n.mat.length = 16) (hm : many ≤ 16) (h : ∀ j, j < many → n.mat.getD j 0 = L) : n.reach = L := by
 unfold Nd.reach
 have hl : (reachL n.conf (n.mat.map fun (x : Nat) => (x : Int)) n.conf.length).length = many := by
  rw [reachL_len _ _ _ (Nat.le_refl _), hc, cfN_len]
 have hmem := mid_mem (l := reachL n.conf (n.mat.map fun (x : Nat) => (x : Int)) n.conf.length) (by omega)
 obtain ⟨z, hz, e⟩ := List.mem_map.1 hmem
 have hz' := List.mem_of_mem_take hz
 rw [hc] at hz'
 obtain ⟨j, rfl, hj⟩ := cfN_mem hz'
 rw [← e]
 unfold atU
 have hj16 : j < n.mat.length := by omega
 rw [if_pos (by rw [List.length_map]; omega), Int.toNat_natCast, List.getD_eq_getElem?_getD, List.getElem?_map, List.getElem?_eq_getElem hj16]
 have := h j hj
 rw [List.getD_eq_getElem?_getD, List.getElem?_eq_getElem hj16] at this
 show ((n.mat[j] : Nat) : Int).toNat = L
 rw [Int.toNat_natCast]
 exact this
theorem sure_ge {n : Nd} (hc : n.conf = cfN many) (h0 : 0 < many) (h16 : n.mat.length = 16) (hm : many ≤ 16) (l0 : Lg0 n.log) (hr : n.role = 3) (ht : tA n.log.es n.log.es.length = n.tm) (h : ∀ j, j < many → n.mat.getD j 0 = n.log.es.length) : n.log.es.length ≤ n.sure.commit := by
 unfold Nd.sure
 rw [reach_all hc h0 h16 hm h]
 unfold Nd.sureR
 split
 ·exact Nat.le_refl _
 ·rename_i q
  by_cases e : n.commit < n.log.es.length
  ·refine absurd ⟨hr, ?_, e⟩ q
   rw [l0.term, ht]; simp
  ·omega
theorem sure_rest (n : Nd) : n.sure.role = n.role ∧ n.sure.tm = n.tm ∧ n.sure.log = n.log ∧ n.sure.next = n.next ∧ n.sure.mat = n.mat ∧ n.sure.me = n.me ∧ n.sure.conf = n.conf := by
 unfold Nd.sure Nd.sureR
 split <;> exact ⟨rfl, rfl, rfl, rfl, rfl, rfl, rfl⟩
end
end Go.Proofs.Ytmjccpfchhnfhaa
/- Raft heals, plainly (8): an answer comes to w. -/
namespace Go.Proofs.Ytmjccpfchhnfhaa
set_option linter.unusedVariables false
set_option linter.unusedSimpArgs false
section
variable {many w Lm cm c b : Nat} {cq : Prop} {lg : Option Lg} {T : Nat → Nd} {q : Qs} {m : Ms} {k : Nat} {n' : Nd}
theorem RdW.mono {d : Nat} (h : RdW many w Lm T q b) (hb : b ≤ d) : RdW many w Lm T q d :=
 ⟨h.ad, h.uq, h.cr, h.c5, h.c6, h.nc, h.n1, h.p5, h.nw, h.inf, h.a1, Nat.le_trans h.bud hb, h.pv, h.lm⟩
theorem hasI_cf (hk : k < many) : hasI (cfN many) ((k : Nat) : Int) = true := by
 rw [hasI_mem]
 unfold cfN
 exact List.mem_map.2 ⟨k, List.mem_range.2 hk, rfl⟩
theorem led_st {n n1 : Nd} {l : List Ms} (h1 : n1.role = n.role) (h2 : n1.tm = n.tm) : n.led (n1, l) = (n1, l) := led_no (.inl ⟨h1, h2⟩)
def Ans (many w Lm cm : Nat) (cq : Prop) (lg : Option Lg) (T : Nat → Nd) (m : Ms) (c : Nat) (q : Qs) (b : Nat) : Prop :=
 ∃ (n' : Nd) (q' : List Ms × Qs), (T w).led ((T w).does m) = (n', q'.1) ∧ RdW many w Lm (upd T w n') (q ++ q'.2) (b - 1) ∧ q'.2.map Prod.fst = q'.1 ∧ (RdS many w cm cq lg T ((m, c) :: q) → RdS many w cm cq lg (upd T w n') (q ++ q'.2))
theorem RdW.acks (h : RdW many w Lm T ((m, c) :: q) b) (hS : Gst many T) {c2 : Nat} (hT : (T w).tm < 1152921504606846976) (hK : ∀ j, j < many → Kn c2 (T j)) (h16 : many ≤ 16) (hk : k < many) (hw : w < many) (hkw : k ≠ w) (hm : ofK w k m) (h6 : m.kind = 6) :
  Ans many w Lm cm cq lg T m c q b := by
 have hd : (T w).does m = (T w).onAcked m := by
  unfold Nd.does
  rw [if_neg (by omega), if_neg (by omega), if_neg (by omega)]
 have kw := hK w hw
 obtain ⟨g, hg, hn⟩ := hS
 have hme := (hn w hw).me
 have hcf := (hn w hw).conf
 have hnx := (hn w hw).nx
 have hrl := (hn w hw).rl
 have hsr := hm.1
 have hc1 : 1 ≤ c := (h.cr (m, c) (List.mem_cons_self ..)).1
 unfold Ans
 rw [hd]
 have e0 : (T w).onAcked m = if m.kind ≠ 6 then (T w, []) else if (T w).tm < m.tm then ((T w).follow m.tm (-1), []) else if m.tm < (T w).tm ∨ (T w).role ≠ 3 ∨ m.src = (T w).me ∨ m.src < 0 ∨ 15 < m.src then (T w, []) else
  if m.ok = true ∧ ((T w).acked m).log.last < ((T w).acked m).next.getD m.src.toNat 0 then ((T w).acked m, []) else ((T w).acked m, ((T w).acked m).sendTo m.src) := rfl
 rw [e0, if_neg (fun e => e h6)]
 by_cases ht : (T w).tm < m.tm
 ·rw [if_pos ht, led_no (.inr (by show ¬ ((T w).follow m.tm (-1)).role = 3; rw [follow_role]; decide))]
  refine ⟨_, ([], []), rfl, by rw [List.append_nil]; exact h.fall hk hkw hm ht, rfl, fun s => ?_⟩
  rcases s.s2 (m, c) (List.mem_cons_self ..) k hm with a | a
  ·have a' : m.tm ≤ (T w).tm := a
   omega
  ·have a' : m.kind = 4 := a.1
   omega
 ·rw [if_neg ht]
  by_cases hr : (T w).role = 3
  ·rcases h.c6 hr (m, c) (List.mem_cons_self ..) k hm h6 with a | ⟨a, d, z⟩
   ·have a' : (T w).tm < m.tm := a
    omega
   ·have a' : m.tm = (T w).tm := a
    have z' : fz ((T w).next.getD k 0) ((T w).mat.getD k 0) (T w).log.es.length ≤ c + 1 := z
    have mt := (kw.ld hr).2.2.1 k (by omega) (by rw [hme]; omega)
    have nx := hnx hr k
    have k16 : k < 16 := by omega
    have hsn : m.src.toNat = k := by rw [hsr]; exact Int.toNat_natCast k
    rw [if_neg (by rw [hsr, hme]; omega), hsn]
    have nok : ∀ j, ¬ ofK w j (appM w ((T w).acked m) k) := fun j e => by
     have e3 : (5 : Int) = 2 ∨ (5 : Int) = 4 ∨ (5 : Int) = 6 := e.2.2
     omega
    rcases d with ⟨ok, nm, ix⟩ | ⟨ok, ix⟩
    ·have ok' : m.ok = false := ok
     have ix' : m.index + 1 = (T w).next.getD k 0 := ix
     have ea : (T w).acked m = { T w with next := (T w).next.set k (max ((T w).mat.getD k 0 + 1) (min m.index (m.prev + 1))) } := by
      unfold Nd.acked
      rw [if_pos ok', hsn]
     rw [if_neg (fun e => by rw [ok'] at e; cases e.1)]
     have hnk : ((T w).acked m).next.getD k 0 = max ((T w).mat.getD k 0 + 1) (min m.index (m.prev + 1)) := by
      rw [ea]; show ((T w).next.set k _).getD k 0 = _
      rw [set_gt, if_pos ⟨rfl, by rw [kw.n16]; exact k16⟩]
     have AK : Akd w k (T w) ((T w).acked m) := by
      rw [ea]
      refine ⟨hr, rfl, rfl, fun j hj => ?_, fun j hj => rfl⟩
      show ((T w).next.set k _).getD j 0 = _
      rw [set_gt, if_neg (fun e => hj e.1.symm)]
     have hma : ((T w).acked m).mat = (T w).mat := by rw [ea]
     have nm' : (T w).mat.getD k 0 + 1 < (T w).next.getD k 0 := nm
     have hl : ((T w).acked m).log = (T w).log := AK.e3
     have hs : ((T w).acked m).sendTo m.src = [appM w ((T w).acked m) k] := by
      rw [hsr]
      exact sendTo_is AK.e1 (by rw [ea]; exact hme) hkw (by omega) (by rw [hl]; exact kw.l0.1) (by rw [hnk]; omega)
     rw [hs]
     have hz := fz_fail (nx := (T w).next.getD k 0) (mt := (T w).mat.getD k 0) (nx' := ((T w).acked m).next.getD k 0) (L := (T w).log.es.length) nm' (by omega) (by omega)
     rw [led_no (.inl ⟨AK.e1.trans hr.symm, AK.e2⟩)]
     refine ⟨_, ([_], [(appM w ((T w).acked m) k, c - 1)]), rfl, ?_, rfl, fun s => ?_⟩
     ·exact h.again hk hkw hm h6 hr (by omega) AK (by rw [hl]; exact kw.l0) (by rw [hma]; omega) (by rw [hl]; omega) (by rw [hma, hl]; omega) (fun i => by rw [hl]; have := (hn w hw).wn.2 i; omega)
     ·refine s.base h hk hkw hm h6 hr AK (fun x hx => ?_) (.inr ⟨_, List.mem_singleton.2 rfl, ⟨rfl, rfl, .inr (.inr rfl)⟩, rfl⟩) (.inl ⟨_, List.mem_singleton.2 rfl, rfl⟩)
      rw [List.mem_singleton.1 hx]; exact nok
    ·have ok' : m.ok = true := ok
     have ix' : m.index = min (T w).log.es.length ((T w).next.getD k 0 + 7) := ix
     have hlast := kw.l0.last
     obtain ⟨mt', hmt'⟩ : ∃ x, max ((T w).mat.getD k 0) m.index = x := ⟨_, rfl⟩
     obtain ⟨n2, hn2⟩ : ∃ x, ({ T w with mat := (T w).mat.set k mt', next := (T w).next.set k (mt' + 1) } : Nd) = x := ⟨_, rfl⟩
     have ea : (T w).acked m = n2.sure := by
      unfold Nd.acked
      rw [if_neg (by rw [ok']; decide), if_pos (by rw [hlast]; omega), hsn, hmt', hn2]
     obtain ⟨s1, s2, s3, s4, s5, s6, s7⟩ := sure_rest n2
     have hnk : n2.next.getD k 0 = mt' + 1 := by
      rw [← hn2]; show ((T w).next.set k _).getD k 0 = _
      rw [set_gt, if_pos ⟨rfl, by rw [kw.n16]; exact k16⟩]
     have hmk : n2.mat.getD k 0 = mt' := by
      rw [← hn2]; show ((T w).mat.set k _).getD k 0 = _
      rw [set_gt, if_pos ⟨rfl, by rw [kw.m16]; exact k16⟩]
     have hmj : ∀ j, j ≠ k → n2.mat.getD j 0 = (T w).mat.getD j 0 := fun j hj => by
      rw [← hn2]; show ((T w).mat.set k _).getD j 0 = _
      rw [set_gt, if_neg (fun e => hj e.1.symm)]
     have hnj : ∀ j, j ≠ k → n2.next.getD j 0 = (T w).next.getD j 0 := fun j hj => by
      rw [← hn2]; show ((T w).next.set k _).getD j 0 = _
      rw [set_gt, if_neg (fun e => hj e.1.symm)]
     have hl2 : n2.log = (T w).log := by rw [← hn2]
     have hr2 : n2.role = 3 := by rw [← hn2]; exact hr
     have hm2 : n2.me = ((w : Nat) : Int) := by rw [← hn2]; exact hme
     have hc2 : n2.conf = cfN many := by rw [← hn2]; exact hcf
     have ht2 : n2.tm = (T w).tm := by rw [← hn2]
     have h162 : n2.mat.length = 16 := by rw [← hn2]; show ((T w).mat.set _ _).length = 16; rw [List.length_set]; exact kw.m16
     rw [ea]
     have AK : Akd w k (T w) n2.sure := ⟨s1.trans hr2, s2.trans ht2, s3.trans hl2, fun j hj => by rw [s4]; exact hnj j hj, fun j hj => by rw [s5]; exact hmj j hj⟩
     have hmL : mt' ≤ (T w).log.es.length := by omega
     rw [s3, s4, hl2, hnk, hlast]
     by_cases hL : (T w).log.es.length < mt' + 1
     ·rw [if_pos ⟨ok', hL⟩, led_no (.inl ⟨AK.e1.trans hr.symm, AK.e2⟩)]
      have hmt2 : mt' = (T w).log.es.length := by omega
      refine ⟨_, ([], []), rfl, by rw [List.append_nil]; exact (h.base hk hkw hm h6 hr (by omega) AK).mono (by omega), rfl, fun s => ?_⟩
      refine s.base h hk hkw hm h6 hr AK (fun x hx => by cases hx) (.inl ⟨by rw [s5, s3, hmk, hl2]; exact hmt2, by rw [s4, s3, hnk, hl2, hmt2]⟩) (.inr fun H => ?_)
      rw [s3]
      refine sure_ge hc2 (by omega) h162 h16 (by rw [hl2]; exact kw.l0) hr2 (by rw [hl2, ht2]; exact (kw.ld hr).1) fun j hj => ?_
      by_cases d : j = w
      ·have h1 := (kw.ld hr).2.2.2
       rw [hme, Int.toNat_natCast] at h1
       rw [d, hl2, hmj w (fun e => hkw e.symm)]
       exact h1
      ·have := H j hj d
       rw [s5, s3] at this
       exact this
     ·rw [if_neg (fun e => hL e.2)]
      have hs : n2.sure.sendTo m.src = [appM w n2.sure k] := by
       rw [hsr]
       exact sendTo_is AK.e1 (s6.trans hm2) hkw (by omega) (by rw [s3, hl2]; exact kw.l0.1) (by rw [s4, hnk]; omega)
      rw [hs, led_no (.inl ⟨AK.e1.trans hr.symm, AK.e2⟩)]
      have hz := fz_ok (nx := (T w).next.getD k 0) (mt := (T w).mat.getD k 0) (mt' := mt') (L := (T w).log.es.length) mt (by omega) (by omega) hmL
      refine ⟨_, ([_], [(appM w n2.sure k, c - 1)]), rfl, ?_, rfl, fun s => ?_⟩
      ·exact h.again hk hkw hm h6 hr (by omega) AK (by rw [s3, hl2]; exact kw.l0) (by rw [s5, s4, hmk, hnk]; omega) (by rw [s3, s4, hl2, hnk]; omega) (by rw [s3, s4, s5, hl2, hnk, hmk]; omega) (fun i => by rw [s3, hl2]; have := (hn w hw).wn.2 i; omega)
      ·refine s.base h hk hkw hm h6 hr AK (fun x hx => ?_) (.inr ⟨_, List.mem_singleton.2 rfl, ⟨rfl, rfl, .inr (.inr rfl)⟩, rfl⟩) (.inl ⟨_, List.mem_singleton.2 rfl, rfl⟩)
       rw [List.mem_singleton.1 hx]
       intro j e
       have e3 : (5 : Int) = 2 ∨ (5 : Int) = 4 ∨ (5 : Int) = 6 := e.2.2
       omega
  ·rw [if_pos (.inr (.inl hr)), led_st (by rfl) (by rfl)]
   refine ⟨_, ([], []), rfl, by rw [List.append_nil]; exact h.drop hk hkw hm rfl rfl rfl rfl rfl (fun _ => by omega), rfl, fun s => ?_⟩
   rw [List.append_nil]
   have h3 := s.s3
   exact absurd h6 (h.nc (by omega) (m, c) (List.mem_cons_self ..)).2
theorem RdW.yesno (h : RdW many w Lm T ((m, c) :: q) b) (hS : Gst many T) {c2 : Nat} (hT : (T w).tm < 1152921504606846976) (hK : ∀ j, j < many → Kn c2 (T j)) (h16 : many ≤ 16) (hk : k < many) (hw : w < many) (hkw : k ≠ w) (hm : ofK w k m) (h6 : m.kind = 2 ∨ m.kind = 4) :
  Ans many w Lm cm cq lg T m c q b := by
 have hd : (T w).does m = (T w).onAnswer m := by
  unfold Nd.does
  rw [if_neg (by omega), if_pos h6]
 have kw := hK w hw
 obtain ⟨g, hg, hn⟩ := hS
 have hme := (hn w hw).me
 have hcf := (hn w hw).conf
 have hrl := (hn w hw).rl
 have hwn := (hn w hw).wn
 have hsr := hm.1
 unfold Ans
 rw [hd]
 by_cases hf : (T w).tm < m.tm ∧ (m.ok = false ∨ m.kind = 2)
 ·have e : (T w).onAnswer m = ((T w).follow m.tm (-1), []) := by
   unfold Nd.onAnswer
   rw [if_pos h6]
   dsimp only
   rw [if_pos hf, if_neg]
   unfold Nd.counts
   rw [follow_role]
   simp
  rw [e, led_no (.inr (by show ¬ ((T w).follow m.tm (-1)).role = 3; rw [follow_role]; decide))]
  refine ⟨_, ([], []), rfl, by rw [List.append_nil]; exact h.fall hk hkw hm hf.1, rfl, fun s => ?_⟩
  rcases s.s2 (m, c) (List.mem_cons_self ..) k hm with a | ⟨a, d⟩
  ·have a' : m.tm ≤ (T w).tm := a
   omega
  ·have a' : m.kind = 4 := a
   have d' : m.ok = true := d
   rcases hf.2 with f | f
   ·rw [d'] at f; cases f
   ·omega
 ·have e0 : (T w).onAnswer m = if (T w).counts m then (if agrI (T w).conf ((T w).yes ++ [m.src]) then ({ T w with yes := (T w).yes ++ [m.src] } : Nd).chosen else ({ T w with yes := (T w).yes ++ [m.src] }, [])) else (T w, []) := by
   unfold Nd.onAnswer
   rw [if_pos h6]
   dsimp only
   rw [if_neg hf]
  rw [e0]
  have hi : m.kind = 6 ∨ (m.kind = 4 ∧ m.ok = false) → m.tm ≤ (T w).tm := fun a => by
   rcases a with a | a
   ·omega
   ·by_cases d : (T w).tm < m.tm
    ·exact absurd ⟨d, .inl a.2⟩ hf
    ·omega
  have hcs : (T w).counts m = (m.ok && ((decide ((T w).role = 2 ∧ m.kind = 2 ∧ m.tm = (T w).tm) || decide ((T w).role = 1 ∧ m.kind = 4 ∧ m.tm = (T w).tm + 1)) && !hasI (T w).yes ((k : Nat) : Int))) := by
   unfold Nd.counts
   rw [hcf, hsr, hasI_cf hk, Bool.true_and]
  by_cases hc : (T w).counts m = true
  ·rw [if_pos hc, hsr]
   rw [hcs] at hc
   simp only [Bool.and_eq_true, Bool.or_eq_true, decide_eq_true_eq] at hc
   obtain ⟨hok, hro, hny⟩ := hc
   by_cases ha : agrI (T w).conf ((T w).yes ++ [((k : Nat) : Int)]) = true
   ·rw [if_pos ha]
    rcases hro with ⟨r2, k2, t2⟩ | ⟨r1, k4, t1⟩
    ·have e1 : ({ T w with yes := (T w).yes ++ [((k : Nat) : Int)] } : Nd).chosen = (({ T w with yes := (T w).yes ++ [((k : Nat) : Int)] } : Nd).lead, []) := by
      unfold Nd.chosen
      rw [if_neg (by show ¬ (T w).role = 1; omega)]
     rw [e1]
     obtain ⟨n', hn'⟩ : ∃ x, ({ T w with yes := (T w).yes ++ [((k : Nat) : Int)] } : Nd).lead = x := ⟨_, rfl⟩
     have f1 : n'.role = 3 := by rw [← hn']; rfl
     have f2 : n'.tm = (T w).tm := by rw [← hn']; rfl
     have f3 : n'.log = (T w).log.add ⟨(T w).tm, 0, []⟩ := by rw [← hn']; rfl
     have f4 : n'.next = List.replicate 16 ((T w).log.last + 1) := by rw [← hn']; rfl
     have f5 : n'.mat = (List.replicate 16 0).set (T w).me.toNat ((T w).log.last + 1) := by rw [← hn']; rfl
     have f6 : n'.conf = cfN many := by rw [← hn']; exact hcf
     have f7 : n'.me = ((w : Nat) : Int) := by rw [← hn']; exact hme
     have l0' : Lg0 n'.log := by rw [f3]; exact (kw.l0.add _).1
     have g4 : ∀ j, j < 16 → n'.next.getD j 0 = (T w).log.es.length + 1 := fun j hj => by rw [f4, rep_at hj, kw.l0.last]
     have hb : n'.beat = (othN many w).map (appM w n') := beat_is f1 f6 f7 h16 l0'.1 fun j hj hjw => by rw [g4 j (by omega)]; omega
     rw [hn']
     have el : (T w).led (n', []) = (n', n'.beat) := by
      unfold Nd.led
      rw [if_pos ⟨f1, .inl (by omega)⟩]; rfl
     rw [el, hb]
     have R := h.leads (cm := cm) (cq := cq) (lg := lg) (n' := n') h16 hw hk hkw hm k2 r2 kw.l0 l0' f1 f2 (by rw [f3]; rfl) g4 (fun j hj hjw => by
      rw [f5, hme, Int.toNat_natCast, set_gt, if_neg (fun e => hjw e.1.symm), rep_at hj]) (hwn.2 _) (fun i => by
      rw [f3]
      have h1 := hwn.2 i
      show tA ((T w).log.es ++ [(⟨(T w).tm, 0, []⟩ : En)]) i < _
      by_cases d : i ≤ (T w).log.es.length
      ·rw [tA_app d]; omega
      ·by_cases d2 : i = (T w).log.es.length + 1
       ·rw [d2, tA_end]; exact hT
       ·rw [tA_out (by rw [List.length_append, List.length_singleton]; omega)]; decide)
     exact ⟨n', (_, cst many w (appM w n') (4 * Lm + 8)), rfl, R.1, cst_fst, R.2⟩
    ·have e1 : ({ T w with yes := (T w).yes ++ [((k : Nat) : Int)] } : Nd).chosen = ({ T w with yes := (T w).yes ++ [((k : Nat) : Int)] } : Nd).askT := by
      unfold Nd.chosen
      rw [if_pos (show (T w).role = 1 from r1)]
     have hag := h.a1 r1
     obtain ⟨n', hn'⟩ : ∃ x, ({ T w with yes := [(T w).me], tm := (T w).tm + 1, vote := (T w).me, role := 2, ld := -1 } : Nd) = x := ⟨_, rfl⟩
     have e2 : ({ T w with yes := (T w).yes ++ [((k : Nat) : Int)] } : Nd).askT = (n', n'.toAll { zMs with kind := 1, tm := (T w).tm + 1, index := (T w).log.last, prev := (T w).log.lastT }) := by
      unfold Nd.askT
      rw [if_pos (by show hasI (T w).conf (T w).me = true; rw [hcf, hme]; exact hasI_cf hw)]
      dsimp only
      rw [if_neg (by show ¬ agrI (T w).conf [(T w).me] = true; rw [hcf, hme, hag]; decide), ← hn']
     rw [e1, e2]
     have f1 : n'.role = 2 := by rw [← hn']
     have f6 : n'.conf = cfN many := by rw [← hn']; exact hcf
     have f7 : n'.me = ((w : Nat) : Int) := by rw [← hn']; exact hme
     have ho : n'.toAll { zMs with kind := 1, tm := (T w).tm + 1, index := (T w).log.last, prev := (T w).log.lastT } = (othN many w).map (voteM w (T w)) := by
      unfold Nd.toAll
      rw [oth_is f6 f7, List.map_map, f7]; rfl
     rw [ho, led_no (.inr (by show ¬ n'.role = 3; rw [f1]; decide))]
     have R := h.votes (cm := cm) (cq := cq) (lg := lg) (n' := n') hw hk hkw hm k4 hok r1 kw.l0 f1 (by rw [← hn']) (by rw [← hn']) (by rw [← hn']) (by rw [← hn']) (by rw [← hn']; show [(T w).me] = _; rw [hme]) (by rw [kw.l0.lastT]; have := hwn.2 (T w).log.es.length; omega)
     exact ⟨n', (_, cst many w (voteM w (T w)) 2), rfl, R.1, cst_fst, R.2⟩
   ·rw [if_neg ha, led_st (by rfl) (by rfl)]
    have ha' : agrI (cfN many) ((T w).yes ++ [((k : Nat) : Int)]) = false := by rw [← hcf]; exact Bool.not_eq_true _ |>.mp ha
    refine ⟨_, ([], []), rfl, by rw [List.append_nil]; exact h.drop hk hkw hm rfl rfl rfl rfl rfl hi, rfl, fun s => ?_⟩
    rw [List.append_nil]
    exact s.drop hk hkw hm rfl rfl rfl rfl rfl rfl (fun y hy => List.mem_append_left _ hy) (fun _ => ha') (fun _ _ _ _ => by simp) (fun _ _ _ _ => by simp) (fun _ => by omega)
  ·rw [if_neg hc, led_st (by rfl) (by rfl)]
   refine ⟨_, ([], []), rfl, by rw [List.append_nil]; exact h.drop hk hkw hm rfl rfl rfl rfl rfl hi, rfl, fun s => ?_⟩
   rw [List.append_nil]
   have key : m.ok = true → ((T w).role = 2 ∧ m.kind = 2 ∧ m.tm = (T w).tm) ∨ ((T w).role = 1 ∧ m.kind = 4 ∧ m.tm = (T w).tm + 1) → ((k : Nat) : Int) ∈ (T w).yes := fun a d => by
    rw [← hasI_mem]
    cases hh : hasI (T w).yes ((k : Nat) : Int) with
    | true => rfl
    | false =>
     refine absurd ?_ hc
     rw [hcs, hh, a]
     rcases d with d | d
     ·rw [decide_eq_true d]; rfl
     ·rw [decide_eq_true d]; simp
   refine s.drop hk hkw hm rfl rfl rfl rfl rfl rfl (fun y hy => hy) (fun r => r.elim (fun r => (s.s4 r).2.1) fun r => (s.s5 r).2.1) (fun r a d t => key d (.inr ⟨r, a, t⟩)) (fun r a d t => key d (.inl ⟨r, a, t⟩)) (fun _ => by omega)
end
end Go.Proofs.Ytmjccpfchhnfhaa
/- Raft heals, plainly (9): all that is sent arrives; how a round begins, and ends. -/
namespace Go.Proofs.Ytmjccpfchhnfhaa
set_option linter.unusedVariables false
set_option linter.unusedSimpArgs false
def nsT (s : Gs) : Nat → Nd := fun k => s.ns.getD k default
theorem nsT_set {s : Gs} {j : Nat} {n : Nd} {l : List Ms} (hj : j < s.ns.length) : nsT (({ s with ns := s.ns.set j n } : Gs).send l) = upd (nsT s) j n := by
 funext k
 unfold nsT
 rw [send_ns]
 by_cases q : k = j
 ·subst q
  rw [upd_self, List.getD_eq_getElem?_getD, List.getElem?_set_self hj]; rfl
 ·rw [upd_ne _ _ q, List.getD_eq_getElem?_getD, List.getD_eq_getElem?_getD, List.getElem?_set_ne (fun e => q e.symm)]
theorem chk_ok {m : Ms} (h1 : 1 ≤ m.kind ∧ m.kind ≤ 6) (h2 : 0 ≤ m.src ∧ m.src ≤ 15 ∧ 0 ≤ m.dst ∧ m.dst ≤ 15) (h3 : m.data = []) (h4 : m.es.length ≤ 8) (h5 : ∀ x ∈ m.es, Eo x) : chkM m = 0 := by
 unfold chkM
 rw [if_neg (by omega), if_neg (by omega), if_neg (by rw [h3]; simp; omega), if_neg (fun ⟨x, hx, e⟩ => by have := (h5 x hx).1; omega), if_neg (fun ⟨x, hx, e⟩ => by have := (h5 x hx).2; omega)]
theorem right_z {n : Nd} {m : Ms} (h : chkM m = 0) (h1 : m.dst = n.me) (h2 : m.src ≠ n.me) (h3 : m.kind ≤ 6) (h4 : m.tm < 1152921504606846976) (h5 : m.index < 1152921504606846976) (h6 : m.prev < 1152921504606846976) (h7 : m.commit < 1152921504606846976) : n.right m = 0 := by
 unfold Nd.right
 rw [if_neg (fun e => e h), if_neg (fun e => e.elim (fun e => e h1) h2), if_neg (by omega), if_neg (by omega)]
structure Hs (many B c : Nat) (s : Gs) : Prop where
 sf : Safe many s
 gj : GJ B s
 kg : KG c s
 e8 : Es8 s.ms
 ap : ∀ i, s.aps.getD i 0 ≤ (s.ns.getD i default).commit
theorem Hs.kn {many B c : Nat} {s : Gs} (h : Hs many B c s) : ∀ j, j < many → Kn c (nsT s j) := fun j hj => h.kg.1 _ (GJ.getD_mem (by rw [h.sf.ids.1]; exact hj))
theorem Nd.step_commit (n : Nd) (m : Ms) : n.commit ≤ ((n.step m).1).1.commit := by
 unfold Nd.step
 split
 ·exact Nat.le_refl _
 ·show _ ≤ (n.led (n.hear m)).1.commit
  rw [Nd.led_y]; exact (Nd.hear_up n m).commit
theorem Nd.timeout_commit (n : Nd) : n.commit ≤ n.timeout.1.commit := by
 unfold Nd.timeout
 split
 ·exact Nat.le_refl _
 ·split
  ·exact Nat.le_refl _
  ·rw [Nd.led_y]; exact (Nd.askF_up n).commit
theorem ap_node {s : Gs} {j : Nat} {n : Nd} {l : List Ms} (h : ∀ i, s.aps.getD i 0 ≤ (s.ns.getD i default).commit) (hn : (s.ns.getD j default).commit ≤ n.commit) (i : Nat) : (({ s with ns := s.ns.set j n } : Gs).send l).aps.getD i 0 ≤ ((({ s with ns := s.ns.set j n } : Gs).send l).ns.getD i default).commit := by
 rw [send_ns]
 have e : (({ s with ns := s.ns.set j n } : Gs).send l).aps = s.aps := by unfold Gs.send; split <;> rfl
 rw [e]
 show _ ≤ ((s.ns.set j n).getD i default).commit
 have h1 := h i
 by_cases q : j = i
 ·subst q
  by_cases q2 : j < s.ns.length
  ·rw [show (s.ns.set j n).getD j default = n from by rw [List.getD_eq_getElem?_getD, List.getElem?_set_self q2]; rfl]
   omega
  ·rw [List.set_eq_of_length_le (by omega)]; exact h1
 ·rw [show (s.ns.set j n).getD i default = s.ns.getD i default from by rw [List.getD_eq_getElem?_getD, List.getD_eq_getElem?_getD, List.getElem?_set_ne q]]
  exact h1
theorem ap_arrive {s : Gs} (h : ∀ i, s.aps.getD i 0 ≤ (s.ns.getD i default).commit) (k : Nat) : ∀ i, (s.arrive k).aps.getD i 0 ≤ ((s.arrive k).ns.getD i default).commit := by
 unfold Gs.arrive
 dsimp only
 split
 ·exact h
 ·exact ap_node h (Nd.step_commit _ _)
theorem e8_send {s : Gs} {l : List Ms} (h : Es8 s.ms) (hl : Es8 l) : Es8 (s.send l).ms := by
 unfold Gs.send
 split
 ·exact h.app hl
 ·exact h
theorem e8_arrive {s : Gs} (h : Es8 s.ms) (k : Nat) : Es8 (s.arrive k).ms := by
 unfold Gs.arrive
 dsimp only
 split
 ·exact h
 ·exact e8_send (s := { s with ns := _ }) h Nd.step_e8
theorem rest_all {many w Lm cm : Nat} {cq : Prop} {lg : Option Lg} (hw : w < many) (h16 : many ≤ 16) : ∀ (b fu : Nat) (s : Gs) (k B c : Nat) (q : Qs), Hs many B c s → B + 3 * b < 1000000 → c + b < 1000000 → q.map Prod.fst = s.ms.drop k → k + b < 3000 → RdW many w Lm (nsT s) q b → b ≤ fu → k ≤ s.ms.length →
  ∃ s', Gs.rest fu s k = (s', true) ∧ Hs many (B + 3 * b) (c + b) s' ∧ RdW many w Lm (nsT s') [] b ∧ (RdS many w cm cq lg (nsT s) q → RdS many w cm cq lg (nsT s') []) := by
 intro b
 induction b with
 | zero =>
  intro fu s k B c q h hB hc hq hk hR hfu hks
  have hnil : q = [] := by
   cases q with
   | nil => rfl
   | cons x q =>
    have := hR.bud
    rw [tot_cons] at this
    have := (hR.cr x (List.mem_cons_self ..)).1
    omega
  subst hnil
  have hl : s.ms.length ≤ k := by
   have := congrArg List.length hq
   rw [List.length_drop] at this
   simp at this
   omega
  refine ⟨s, ?_, h, hR, id⟩
  cases fu with
  | zero => unfold Gs.rest; rw [decide_eq_true hl]
  | succ fu => unfold Gs.rest; rw [if_pos hl]
 | succ b ih =>
  intro fu s k B c q h hB hc hq hk hR hfu hks
  obtain ⟨fu, rfl⟩ : ∃ f, fu = f + 1 := ⟨fu - 1, by omega⟩
  cases q with
  | nil =>
   have hl : s.ms.length ≤ k := by
    have := congrArg List.length hq
    rw [List.length_drop] at this
    simp at this
    omega
   refine ⟨s, ?_, ⟨h.sf, h.gj.mono (by omega), h.kg.mono (by omega), h.e8, h.ap⟩, hR, id⟩
   unfold Gs.rest; rw [if_pos hl]
  | cons x q =>
   obtain ⟨m, c0⟩ := x
   have hlen := congrArg List.length hq
   rw [List.length_drop, List.length_map, List.length_cons] at hlen
   have hk1 : k < s.ms.length := by omega
   have hm : s.ms.getD k zMs = m := by
    rw [List.drop_eq_getElem_cons hk1] at hq
    rw [List.getD_eq_getElem?_getD, List.getElem?_eq_getElem hk1]
    exact (List.cons.inj hq).1.symm
   have hq1 : q.map Prod.fst = s.ms.drop (k + 1) := by
    rw [List.drop_eq_getElem_cons hk1] at hq
    exact (List.cons.inj hq).2
   have hmm : m ∈ s.ms := hm ▸ GJ.getD_mem hk1
   have hsn := h.sf.ids.1
   have S := h.sf.gst
   have K := h.kn
   obtain ⟨k', hk', hkw, hto⟩ := hR.ad (m, c0) (List.mem_cons_self ..)
   have hbm := h.gj.gi.ms m hmm
   have hkm := h.kg.2 m hmm
   have hpv : m.prev < 1152921504606846976 := hR.pv (m, c0) (List.mem_cons_self ..)
   have mes : ∀ j, j < many → (nsT s j).me = ((j : Nat) : Int) := fun j hj => by
    obtain ⟨g, hg, hn⟩ := S
    exact (hn j hj).me
   -- who it comes to
   obtain ⟨j, hj, hdst, hsrc, hkd⟩ : ∃ j, j < many ∧ m.dst = ((j : Nat) : Int) ∧ (m.src ≠ ((j : Nat) : Int) ∧ 0 ≤ m.src ∧ m.src ≤ 15) ∧ (1 ≤ m.kind ∧ m.kind ≤ 6) := by
    rcases hto with a | a
    ·exact ⟨k', hk', a.2.1, ⟨by rw [a.1]; omega, by rw [a.1]; omega, by rw [a.1]; omega⟩, by rcases a.2.2 with d | d | d <;> (rw [d]; decide)⟩
    ·exact ⟨w, hw, a.2.1, ⟨by rw [a.1]; omega, by rw [a.1]; omega, by rw [a.1]; omega⟩, by rcases a.2.2 with d | d | d <;> (rw [d]; decide)⟩
   have hR0 : (nsT s j).right m = 0 := right_z (chk_ok hkd ⟨hsrc.2.1, hsrc.2.2, by rw [hdst]; omega, by rw [hdst]; omega⟩ hbm.2 (h.e8 m hmm) hkm.eo) (by rw [mes j hj]; exact hdst) (by rw [mes j hj]; exact hsrc.1) hkd.2 (by have := hbm.1.tm; omega) (by have := hbm.1.index; omega) hpv (by have := hbm.1.commit; omega)
   have hst : ((nsT s j).step m).1 = (nsT s j).led ((nsT s j).does m) := step_is _ _ hR0 hkd
   have hT : (nsT s w).tm < 1152921504606846976 := by
    have := (h.gj.nd (i := w) (by rw [hsn]; exact hw)).bn.tm
    have e : (nsT s w).tm = (s.ns.getD w default).tm := rfl
    omega
   have STEP : ∃ (n' : Nd) (o : List Ms) (r : Qs), (nsT s j).led ((nsT s j).does m) = (n', o) ∧ r.map Prod.fst = o ∧ RdW many w Lm (upd (nsT s) j n') (q ++ r) (b + 1 - 1) ∧ (RdS many w cm cq lg (nsT s) ((m, c0) :: q) → RdS many w cm cq lg (upd (nsT s) j n') (q ++ r)) := by
    rcases hto with a | a
    ·have ej : j = k' := by have := a.2.1; rw [hdst] at this; omega
     subst ej
     by_cases k5 : m.kind = 5
     ·obtain ⟨n', m', e1, e2, e3⟩ := hR.takes (cm := cm) (cq := cq) (lg := lg) S (by omega) K h16 hj hw hkw a k5
      exact ⟨n', [m'], [(m', c0 - 1)], e1, rfl, e2, e3⟩
     ·obtain ⟨n', m', e1, e2, e3⟩ := hR.asks (cm := cm) (cq := cq) (lg := lg) S hj hw hkw a k5
      exact ⟨n', [m'], [(m', c0 - 1)], e1, rfl, e2, e3⟩
    ·have ej : j = w := by have := a.2.1; rw [hdst] at this; omega
     subst ej
     have AN : Ans many j Lm cm cq lg (nsT s) m c0 q (b + 1) := by
      rcases a.2.2 with d | d | d
      ·exact hR.yesno S hT K h16 hk' hw hkw a (.inl d)
      ·exact hR.yesno S hT K h16 hk' hw hkw a (.inr d)
      ·exact hR.acks S hT K h16 hk' hw hkw a d
     obtain ⟨n', q', e1, e2, e3, e4⟩ := AN
     exact ⟨n', q'.1, q'.2, e1, e3, e2, e4⟩
   obtain ⟨n', o, r, e1, e2, e3, e4⟩ := STEP
   rw [e1] at hst
   have harr : s.arrive k = ({ s with ns := s.ns.set j n' } : Gs).send o := by
    unfold Gs.arrive
    dsimp only
    rw [hm, if_neg (by rw [hdst, hsn]; omega), hdst, Int.toNat_natCast]
    have h1 : ((s.ns.getD j default).step m).1 = (n', o) := hst
    rw [h1]
   have hns : nsT (s.arrive k) = upd (nsT s) j n' := by rw [harr]; exact nsT_set (by rw [hsn]; exact hj)
   have hql : q.length + 1 ≤ b + 1 := by
    have h1 := hR.bud
    have h2 : ∀ l : Qs, (∀ x ∈ l, 1 ≤ x.2) → l.length ≤ tot l := fun l => by
     induction l with
     | nil => intro _; exact Nat.le_refl _
     | cons x l ih =>
      intro hl
      rw [tot_cons, List.length_cons]
      have := ih fun y hy => hl y (List.mem_cons_of_mem _ hy)
      have := hl x (List.mem_cons_self ..)
      omega
    have := h2 _ fun x hx => (hR.cr x hx).1
    rw [List.length_cons] at this
    omega
   have hms : (s.arrive k).ms = s.ms ++ o := by
    rw [harr]
    unfold Gs.send
    rw [if_pos (by show s.ms.length < 3000; omega)]
   have hH : Hs many (B + 3) (c + 1) (s.arrive k) := ⟨h.sf.arrive h16 hk1, h.gj.arrive k hk1, h.kg.arrive h.sf h16 hk1, e8_arrive h.e8 k, ap_arrive h.ap k⟩
   obtain ⟨s', f1, f2, f3, f4⟩ := ih fu (s.arrive k) (k + 1) (B + 3) (c + 1) (q ++ r) hH (by omega) (by omega) (by rw [hms, List.map_append, e2, hq1, List.drop_append_of_le_length (by omega)]) (by omega) (by rw [hns]; exact e3) (by omega) (by rw [hms, List.length_append]; omega)
   refine ⟨s', ?_, ⟨f2.sf, f2.gj.mono (by omega), f2.kg.mono (by omega), f2.e8, f2.ap⟩, f3.mono (by omega), fun a => f4 (by rw [hns]; exact e4 a)⟩
   rw [← f1]
   unfold Gs.rest
   rw [if_neg (by omega)]
   cases fu <;> rfl
end Go.Proofs.Ytmjccpfchhnfhaa
