/- Texts of the proofs, part 46: what the functions that they reach do, walked; no conditions beyond those that each states. -/
import Derived.Test.YtmjccpfchhnfhaaZz67b770daac
set_option linter.unusedVariables false
set_option linter.unusedSimpArgs false
/- Raft heals, plainly (4): what comes from the one that asks, or leads, arrives. -/
namespace Go.Proofs.Ytmjccpfchhnfhaa
set_option linter.unusedVariables false
set_option linter.unusedSimpArgs false
theorem taken_at {n : Nd} {m : Ms} {ld : List En} (h0 : Lg0 n.log) (hp : m.index + m.es.length ≤ ld.length) (ht : m.prev = tA ld m.index) (hes : ∀ i (hi : i < m.es.length), ld[m.index + i]? = some m.es[i])
  (LM : ∀ i, i ≤ n.log.es.length → i ≤ ld.length → tA n.log.es i = tA ld i → Pre i n.log.es ld) :
  (n.taken m = (n, [{ zMs with kind := 6, src := n.me, dst := m.src, index := m.index, tm := n.tm, prev := n.log.hint m.index }]) ∧ ¬ Pre m.index n.log.es ld) ∨
  ∃ l', n.taken m = ({ n with log := l', commit := max n.commit (min m.commit (m.index + m.es.length)) }, [{ zMs with kind := 6, src := n.me, dst := m.src, index := m.index + m.es.length, tm := n.tm, ok := true }]) ∧ (l'.es = n.log.es ∨ l'.es = ld.take (m.index + m.es.length)) := by
 have hb : ¬ m.index < n.log.base := by rw [h0.1]; omega
 have ht0 := h0.term m.index
 by_cases hf : Pre m.index n.log.es ld
 ·refine .inr ?_
  have h1 : n.log.fits m.index m.prev m.es.length = 0 := by
   unfold Lg.fits
   rw [if_neg (by rw [h0.last]; have := hf.1; omega), if_neg hb, ht0, if_pos (by show tA n.log.es m.index = m.prev; rw [hf.tA (Nat.le_refl _), ht])]
  have h2 : n.log.append m.index m.prev m.es = (n.log.lay m.index m.es, 0) := by
   unfold Lg.append
   rw [if_neg (fun k => k h1), if_neg hb]
  have h3 := lay_leader h0 hf hp hes LM
  refine ⟨n.log.lay m.index m.es, ?_, h3.2.2.2⟩
  unfold Nd.taken
  rw [h2, if_neg (by show ¬ (0 : Int) = 60; decide)]
 ·refine .inl ⟨?_, hf⟩
  have h1 : n.log.fits m.index m.prev m.es.length = 60 := by
   unfold Lg.fits
   by_cases e : n.log.last < m.index
   ·rw [if_pos e]
   ·rw [if_neg e, if_neg hb, ht0]
    refine if_neg fun k => hf (LM _ (by rw [h0.last] at e; omega) (by omega) ?_)
    have k' : tA n.log.es m.index = m.prev := k
    rw [k', ht]
  have h2 : n.log.append m.index m.prev m.es = (n.log, 60) := by
   unfold Lg.append
   rw [h1, if_pos (by decide)]
  unfold Nd.taken
  rw [h2, if_pos (by show (60 : Int) = 60; rfl)]
theorem hint_le (l : Lg) (p : Nat) : l.hint p ≤ l.last := by
 unfold Lg.hint
 split
 ·unfold Lg.last; omega
 ·have := (Lg.down_le l (l.term (min p l.last)).1 (min p l.last - l.base)).2
  omega
def Gst (many : Nat) (T : Nat → Nd) : Prop := ∃ g, GhI many g T ∧ ∀ j, j < many → NI many g j (T j)
theorem Safe.gst {many : Nat} {s : Gs} (h : Safe many s) : Gst many fun j => s.ns.getD j default := by
 obtain ⟨-, g, hg, hn, -⟩ := h
 exact ⟨g, hg, hn⟩
section
variable {many w Lm cm c b : Nat} {cq : Prop} {lg : Option Lg} {T : Nat → Nd} {q : Qs} {m : Ms} {k : Nat}
theorem Gst.lm (h : Gst many T) (hk : k < many) (hw : w < many) : ∀ i, i ≤ (T k).log.es.length → i ≤ (T w).log.es.length → tA (T k).log.es i = tA (T w).log.es i → Pre i (T k).log.es (T w).log.es := by
 obtain ⟨g, hg, hn⟩ := h
 exact (hn k hk).wn.1.lm (hn w hw).wn.1
theorem Gst.got (h : Gst many T) (hk : k < many) (hw : w < many) (hr : (T w).role = 3) (ht : (T k).tm ≤ (T w).tm) (hl : (T w).mat.getD k 0 ≤ (T w).log.es.length) : Pre ((T w).mat.getD k 0) (T k).log.es (T w).log.es := by
 obtain ⟨g, hg, hn⟩ := h
 obtain ⟨i, hi⟩ : ∃ i, (T w).mat.getD k 0 = i := ⟨_, rfl⟩
 have h1 := (hn w hw).ma hr k hk
 rw [hi] at h1 ⊢
 cases i with
 | zero => exact Pre.zero
 | succ i =>
  obtain ⟨c, l, e, p⟩ := (hn k hk).ah (T w).tm (i + 1) (by omega) h1 fun u h2 h3 => by omega
  rw [(hn w hw).ld hr] at e
  cases e
  exact p.symm
theorem Nwr.take {L : Nat → Option (Nat × List En)} {a : List En} (h : WF L a) (i : Nat) (hi : i ≤ a.length) : Nwr a (a.take i) := by
 have e : (a.take i).length = i := by rw [List.length_take]; omega
 have h1 := h.mono (i := i) (j := a.length) hi (Nat.le_refl _)
 unfold Nwr
 rw [e, tA_take (Nat.le_refl _)]
 omega
theorem newer_of {n : Nd} {a : List En} (h : Lg0 n.log) (hn : Nwr a n.log.es) {p i : Nat} (hi : i = a.length) (hp : p = tA a a.length) : n.log.newer p i = true := by
 rw [h.newer, hp, hi]
 rcases hn with q | q
 ·exact .inl q
 ·exact .inr ⟨q.1, q.2⟩
theorem RdW.asks (h : RdW many w Lm T ((m, c) :: q) b) (hS : Gst many T) (hk : k < many) (hw : w < many) (hkw : k ≠ w) (hm : toK w k m) (h5 : m.kind ≠ 5) :
  ∃ n' m', (T k).led ((T k).does m) = (n', [m']) ∧ RdW many w Lm (upd T k n') (q ++ [(m', c - 1)]) (b - 1) ∧ (RdS many w cm cq lg T ((m, c) :: q) → RdS many w cm cq lg (upd T k n') (q ++ [(m', c - 1)])) := by
 have hkd : m.kind = 1 ∨ m.kind = 3 := by rcases hm.2.2 with a | a | a <;> omega
 obtain ⟨g, hg, hn⟩ := hS
 have l0 := (hn k hk).l0
 have hme := (hn k hk).me
 obtain ⟨n', ok, t, e, e1, e2, e3, h3, h1⟩ := asked (n := T k) hkd
 have hp := h.p5 (m, c) (List.mem_cons_self ..) k hm
 have hp3 : m.kind = 3 → m.tm ≤ (T w).tm + 1 := hp.2.1
 have hp1 : m.kind = 1 → m.tm ≤ (T w).tm := hp.2.2
 have hof : ofK w k { zMs with kind := m.kind + 1, src := (T k).me, dst := m.src, tm := t, ok := ok } := ⟨hme, hm.1, by show m.kind + 1 = 2 ∨ m.kind + 1 = 4 ∨ m.kind + 1 = 6; omega⟩
 refine ⟨n', _, e, ?_, fun s => ?_⟩
 ·refine h.reply hk hkw hm hof rfl (by rw [e1]; exact h.nw k hk) ?_ (by show (0 : Nat) < _; decide) fun _ a => absurd a h5
  rcases hkd with a | a
  ·obtain ⟨b1, b2, b3⟩ := h1 a
   have := hp1 a
   by_cases d : (T k).tm ≤ m.tm
   ·exact .inl (by omega)
   ·exact .inr (.inr ⟨by omega, a⟩)
  ·obtain ⟨b1, b2, b3, b4⟩ := h3 a
   have := hp3 a
   cases hok : ok with
   | true => have := b2 hok; exact .inl (by omega)
   | false =>
    have := b3 hok
    refine .inr (.inl ⟨.inr ⟨by show m.kind + 1 = 4; omega, ?_⟩, by show n'.tm ≤ t; omega⟩)
    rfl
 ·have hs1 := s.s1 k hk
  have nwk := h.nw k hk
  refine s.reply (List.pairwise_cons.1 h.uq).1 hk hkw hm hof rfl ?_ ?_ (fun hr => ⟨e3, fun a hh ht hi hpv => ?_⟩) (fun hr a ht hi hpv hlt => ?_) (fun hr a => ?_) ⟨by rw [e2]; exact Nat.le_refl _, fun a => absurd a h5⟩
  ·rcases hkd with a | a
   ·have := (h1 a).1; have := hp1 a; omega
   ·have := (h3 a).1; omega
  ·rcases hkd with a | a
   ·have := (h1 a).1; have := (h1 a).2.1; have := hp1 a; exact .inl (by show t ≤ _; omega)
   ·obtain ⟨b1, b2, b3, b4⟩ := h3 a
    cases hok : ok with
    | true => exact .inr ⟨by show m.kind + 1 = 4; omega, rfl⟩
    | false => have := b3 hok; exact .inl (by show t ≤ _; omega)
  ·obtain ⟨b1, b2, b3, b4⟩ := h3 a
   have := b4 (newer_of l0 nwk hi hpv) (by omega) hh
   exact ⟨this, by have := (b2 this).2; show t = _; omega⟩
  ·obtain ⟨b1, b2, b3⟩ := h1 a
   exact ⟨b3 (newer_of l0 nwk hi hpv) (by omega), by show t = _; omega⟩
  ·have a3 : m.kind = 3 := by omega
   exact (h3 a3).1
theorem RdW.takes (h : RdW many w Lm T ((m, c) :: q) b) (hS : Gst many T) {c2 : Nat} (hc2 : c2 < 1152921504606846976) (hK : ∀ j, j < many → Kn c2 (T j)) (h16 : many ≤ 16) (hk : k < many) (hw : w < many) (hkw : k ≠ w) (hm : toK w k m) (h5 : m.kind = 5) :
  ∃ n' m', (T k).led ((T k).does m) = (n', [m']) ∧ RdW many w Lm (upd T k n') (q ++ [(m', c - 1)]) (b - 1) ∧ (RdS many w cm cq lg T ((m, c) :: q) → RdS many w cm cq lg (upd T k n') (q ++ [(m', c - 1)])) := by
 rw [taking h5]
 have LM := hS.lm hk hw
 have GOT := hS.got hk hw
 obtain ⟨g, hg, hn⟩ := hS
 have l0 := (hn k hk).l0
 have hme := (hn k hk).me
 have wfw := (hn w hw).wn.1
 have hnx := (hn w hw).nx
 have hlw := (hn w hw).l0
 have hp := (h.p5 (m, c) (List.mem_cons_self ..) k hm).1 h5
 obtain ⟨p1, p2, p3, p4⟩ := hp
 have p1' : m.tm ≤ (T w).tm := p1
 have p2' : m.index + m.es.length ≤ (T w).log.es.length := p2
 have hcc : 2 ≤ c := (h.cr (m, c) (List.mem_cons_self ..)).2 (.inr (.inr h5))
 have C5 : (T w).role = 3 → m.tm = (T w).tm ∧ m.index + 1 = (T w).next.getD k 0 ∧ m.es = (T w).log.slice ((T w).next.getD k 0) 8 ∧ fz ((T w).next.getD k 0) ((T w).mat.getD k 0) (T w).log.es.length ≤ c := fun hr => h.c5 hr (m, c) (List.mem_cons_self ..) k hm h5
 have MT : (T w).role = 3 → (T w).mat.getD k 0 + 1 ≤ (T w).next.getD k 0 ∧ (T w).next.getD k 0 ≤ (T w).log.es.length + 1 := fun hr => ⟨((hK w hw).ld hr).2.2.1 k (by omega) (by rw [(hn w hw).me]; omega), hnx hr k⟩
 have NOC : RdS many w cm cq lg T ((m, c) :: q) → (T w).role = 3 := fun s => by
  have h1 := s.s3
  have h2 := (hn w hw).rl
  by_cases e : (T w).role = 3
  ·exact e
  ·exact absurd h5 (h.nc (by omega) (m, c) (List.mem_cons_self ..)).1
 by_cases ht : m.tm < (T k).tm
 ·have e : (T k).onAppend m = (T k, [{ zMs with kind := 6, src := (T k).me, dst := m.src, index := m.index, tm := (T k).tm }]) := by
   unfold Nd.onAppend
   rw [if_neg (fun a => a h5), if_pos ht]
  have hof : ofK w k { zMs with kind := 6, src := (T k).me, dst := m.src, index := m.index, tm := (T k).tm } := ⟨hme, hm.1, .inr (.inr rfl)⟩
  refine ⟨_, _, e, h.reply hk hkw hm hof (by show (6 : Int) = _; omega) (h.nw k hk) (.inr (.inl ⟨.inl rfl, Nat.le_refl _⟩)) (by show (0 : Nat) < _; decide) fun hr _ => .inl ?_, fun s => ?_⟩
  ·have := (C5 hr).1; show (T w).tm < (T k).tm; omega
  ·have := s.s1 k hk
   have := (C5 (NOC s)).1
   omega
 ·have e : (T k).onAppend m = ({ (T k).follow m.tm m.src with heard := true } : Nd).taken m := by
   unfold Nd.onAppend
   rw [if_neg (fun a => a h5), if_neg ht]
  obtain ⟨f, hf⟩ : ∃ f, ({ (T k).follow m.tm m.src with heard := true } : Nd) = f := ⟨_, rfl⟩
  have ff := follow_tm (n := T k) (t := m.tm) (ld := m.src) (by omega)
  have f1 : f.tm = m.tm := by rw [← hf]; exact ff.1
  have f2 : f.log = (T k).log := by rw [← hf]; exact ff.2.2
  have f3 : f.me = (T k).me := by rw [← hf]; show ((T k).follow m.tm m.src).me = _; unfold Nd.follow; split <;> rfl
  have f4 : f.commit = (T k).commit := by rw [← hf]; show ((T k).follow m.tm m.src).commit = _; unfold Nd.follow; split <;> rfl
  rw [e, hf]
  have H := taken_at (n := f) (m := m) (ld := (T w).log.es) (by rw [f2]; exact l0) p2' p3 p4 (by rw [f2]; exact LM)
  rcases H with ⟨e1, npre⟩ | ⟨l', e1, el⟩
  ·have hof : ofK w k { zMs with kind := 6, src := f.me, dst := m.src, index := m.index, tm := f.tm, prev := f.log.hint m.index } := ⟨f3.trans hme, hm.1, .inr (.inr rfl)⟩
   have nm : (T w).role = 3 → (T w).mat.getD k 0 + 1 < (T w).next.getD k 0 := fun hr => by
    obtain ⟨a1, a2⟩ := MT hr
    obtain ⟨b1, b2, b3, b4⟩ := C5 hr
    by_cases d : (T w).mat.getD k 0 + 1 = (T w).next.getD k 0
    ·refine absurd ?_ npre
     have := GOT hr (by omega) (by omega)
     rw [show (T w).mat.getD k 0 = m.index by omega] at this
     rw [f2]
     exact this
    ·omega
   refine ⟨_, _, e1, h.reply hk hkw hm hof (by show (6 : Int) = _; omega) (by rw [f2]; exact h.nw k hk) (.inl (by rw [f1]; exact p1')) (by show f.log.hint m.index < _; have := hint_le f.log m.index; rw [f2, l0.last] at this; have := (hK k hk).le; rw [f2]; omega) fun hr _ => .inr ⟨f1.trans (C5 hr).1, .inl ⟨rfl, nm hr, (C5 hr).2.1⟩, by have := (C5 hr).2.2.2; omega⟩, fun s => ?_⟩
   have hr := NOC s
   refine s.reply (List.pairwise_cons.1 h.uq).1 hk hkw hm hof (by show (6 : Int) = _; omega) (by rw [f1]; exact p1') (.inl (by show f.tm ≤ _; rw [f1]; exact p1')) (fun hr' => by rw [hr] at hr'; exact absurd hr' (by decide)) (fun hr' => by rw [hr] at hr'; exact absurd hr' (by decide)) (fun hr' => by rw [hr] at hr'; exact absurd hr' (by decide)) ⟨by rw [f4]; exact Nat.le_refl _, fun _ _ _ a => ?_⟩
   have := nm hr
   omega
  ·have hof : ofK w k { zMs with kind := 6, src := f.me, dst := m.src, index := m.index + m.es.length, tm := f.tm, ok := true } := ⟨f3.trans hme, hm.1, .inr (.inr rfl)⟩
   have NW : Nwr (T w).log.es l'.es := by
    rcases el with d | d
    ·rw [d, f2]; exact h.nw k hk
    ·rw [d]; exact Nwr.take wfw _ p2'
   refine ⟨_, _, e1, h.reply hk hkw hm hof (by show (6 : Int) = _; omega) NW (.inl (by show f.tm ≤ _; rw [f1]; exact p1')) (by show (0 : Nat) < _; decide) fun hr _ => .inr ⟨f1.trans (C5 hr).1, .inr ⟨rfl, ?_⟩, by have := (C5 hr).2.2.2; omega⟩, fun s => ?_⟩
   ·obtain ⟨a1, a2⟩ := MT hr
    obtain ⟨b1, b2, b3, b4⟩ := C5 hr
    have b5 := slice_len hlw (i := (T w).next.getD k 0) (k := 8) (by omega) a2
    rw [← b3] at b5
    show m.index + m.es.length = _
    omega
   ·have hr := NOC s
    refine s.reply (List.pairwise_cons.1 h.uq).1 hk hkw hm hof (by show (6 : Int) = _; omega) (by show f.tm ≤ _; rw [f1]; exact p1') (.inl (by show f.tm ≤ _; rw [f1]; exact p1')) (fun hr' => by rw [hr] at hr'; exact absurd hr' (by decide)) (fun hr' => by rw [hr] at hr'; exact absurd hr' (by decide)) (fun hr' => by rw [hr] at hr'; exact absurd hr' (by decide)) ⟨?_, fun _ a1 a2 _ => ?_⟩
    ·show _ ≤ max f.commit _
     rw [f4]; omega
    ·show _ ≤ max f.commit _
     omega
end
end Go.Proofs.Ytmjccpfchhnfhaa
/- Raft heals, plainly (5): answers that change little: one is dropped, one is counted; w falls. -/
namespace Go.Proofs.Ytmjccpfchhnfhaa
set_option linter.unusedVariables false
set_option linter.unusedSimpArgs false
section
variable {many w Lm cm c b : Nat} {cq : Prop} {lg : Option Lg} {T : Nat → Nd} {q : Qs} {m : Ms} {k : Nat} {n' : Nd}
theorem ofK.not (h : ofK w k m) (hk : k ≠ w) {j : Nat} : ¬ toK w j m := fun e => by have h1 := h.1; rw [e.1] at h1; exact hk (by omega)
theorem RdW.drop (h : RdW many w Lm T ((m, c) :: q) b) (hk : k < many) (hkw : k ≠ w) (hm : ofK w k m) (e1 : n'.role = (T w).role) (e2 : n'.tm = (T w).tm) (e3 : n'.log = (T w).log) (e4 : n'.next = (T w).next) (e5 : n'.mat = (T w).mat)
  (hi : m.kind = 6 ∨ (m.kind = 4 ∧ m.ok = false) → m.tm ≤ (T w).tm) : RdW many w Lm (upd T w n') q (b - 1) := by
 have hq : ∀ x ∈ q, x ∈ (m, c) :: q := fun x hx => List.mem_cons_of_mem _ hx
 have hc := h.cr (m, c) (List.mem_cons_self ..)
 have ek : ∀ j, j ≠ w → upd T w n' j = T j := fun j hj => upd_ne _ _ hj
 refine ⟨fun x hx => h.ad x (hq x hx), (List.pairwise_cons.1 h.uq).2, fun x hx => h.cr x (hq x hx), ?_, ?_, ?_, ?_, ?_, fun j hj => ?_, fun j hj hjw => ?_, ?_, ?_, fun x hx => h.pv x (hq x hx), ?_⟩ <;> (try rw [upd_self])
 ·rw [e1, e2, e3, e4, e5]; exact fun hr x hx => h.c5 hr x (hq x hx)
 ·rw [e1]
  intro hr x hx j hj h6
  have := h.c6 hr x (hq x hx) j hj h6
  unfold Ack at this ⊢
  rw [e2, e3, e4, e5]; exact this
 ·rw [e1]; exact fun hr x hx => h.nc hr x (hq x hx)
 ·rw [e1]; exact fun hr x hx => h.n1 hr x (hq x hx)
 ·rw [e2, e3]; exact fun x hx => h.p5 x (hq x hx)
 ·by_cases d : j = w
  ·subst d; rw [upd_self]; exact Nwr.refl _
  ·rw [ek j d, e3]; exact h.nw j hj
 ·rw [ek j hjw, e2]
  rcases h.inf j hj hjw with d | ⟨x, hx, d⟩
  ·exact .inl d
  ·rcases List.mem_cons.1 hx with hx | hx
   ·subst hx
    rcases d with d | d
    ·exact absurd d.1 (hm.not hkw)
    ·have := hi d.2.1
     have d3 : (T j).tm ≤ m.tm := d.2.2
     exact .inl (by omega)
   ·exact .inr ⟨x, hx, d⟩
 ·rw [e1]; exact h.a1
 ·rw [e1]
  have := h.bud
  rw [tot_cons] at this
  have h1 : 1 ≤ c := hc.1
  have h2 : (m, c).2 = c := rfl
  omega
 ·rw [e1, e3]; exact h.lm
theorem RdS.drop (h : RdS many w cm cq lg T ((m, c) :: q)) (hk : k < many) (hkw : k ≠ w) (hm : ofK w k m) (e1 : n'.role = (T w).role) (e2 : n'.tm = (T w).tm) (e3 : n'.log = (T w).log) (e4 : n'.next = (T w).next) (e5 : n'.mat = (T w).mat) (e6 : n'.commit = (T w).commit)
  (hy : ∀ y ∈ (T w).yes, y ∈ n'.yes) (ha : (T w).role = 1 ∨ (T w).role = 2 → agrI (cfN many) n'.yes = false)
  (h4 : (T w).role = 1 → m.kind = 4 → m.ok = true → m.tm = (T w).tm + 1 → ((k : Nat) : Int) ∈ n'.yes)
  (h5 : (T w).role = 2 → m.kind = 2 → m.ok = true → m.tm = (T w).tm → ((k : Nat) : Int) ∈ n'.yes) (h6 : (T w).role = 3 → m.kind ≠ 6) : RdS many w cm cq lg (upd T w n') q := by
 have hq : ∀ x ∈ q, x ∈ (m, c) :: q := fun x hx => List.mem_cons_of_mem _ hx
 have ek : ∀ j, j ≠ w → upd T w n' j = T j := fun j hj => upd_ne _ _ hj
 refine ⟨fun j hj => ?_, fun x hx j hj => ?_, ?_, fun hr => ?_, fun hr => ?_, fun hr j hj hjw => ?_, fun hr => ?_, fun j hj hjw => ?_, ?_⟩
 ·rw [upd_self]
  by_cases d : j = w
  ·subst d; rw [upd_self]; exact Nat.le_refl _
  ·rw [ek j d, e2]; exact h.s1 j hj
 ·rw [upd_self, e2]; exact h.s2 x (hq x hx) j hj
 ·rw [upd_self, e1]; exact h.s3
 ·rw [upd_self] at hr ⊢
  rw [e1] at hr
  rw [e2, e3]
  obtain ⟨a1, a2, a3⟩ := h.s4 hr
  refine ⟨hy _ a1, ha (.inl hr), fun j hj hjw => ?_⟩
  rw [ek j hjw]
  obtain ⟨a4, a5⟩ := a3 j hj hjw
  refine ⟨a4, ?_⟩
  rcases a5 with a5 | ⟨x, hx, d⟩
  ·exact .inl (hy _ a5)
  ·rcases List.mem_cons.1 hx with hx | hx
   ·subst hx
    rcases d with d | d
    ·exact absurd d.1 (hm.not hkw)
    ·rw [← hm.eq d.1]
     exact .inl (h4 hr d.2.1 d.2.2.1 d.2.2.2)
   ·exact .inr ⟨x, hx, d⟩
 ·rw [upd_self] at hr ⊢
  rw [e1] at hr
  rw [e2, e3]
  obtain ⟨a1, a2, a3⟩ := h.s5 hr
  refine ⟨hy _ a1, ha (.inr hr), fun j hj hjw => ?_⟩
  rw [ek j hjw]
  rcases a3 j hj hjw with a5 | ⟨x, hx, d⟩
  ·exact .inl (hy _ a5)
  ·rcases List.mem_cons.1 hx with hx | hx
   ·subst hx
    rcases d with d | d
    ·exact absurd d.1 (hm.not hkw)
    ·rw [← hm.eq d.1]
     exact .inl (h5 hr d.2.1 d.2.2.1 d.2.2.2)
   ·exact .inr ⟨x, hx, d⟩
 ·rw [upd_self] at hr ⊢
  rw [e1] at hr
  rw [e3, e4, e5]
  refine (h.s6 hr j hj hjw).imp_right fun ⟨x, hx, d⟩ => ?_
  rcases List.mem_cons.1 hx with hx | hx
  ·subst hx
   rcases d with d | d
   ·exact absurd d.1 (hm.not hkw)
   ·exact absurd d.2 (h6 hr)
  ·exact ⟨x, hx, d⟩
 ·rw [upd_self] at hr ⊢
  rw [e1] at hr
  rw [e3, e6]
  refine (h.s7 hr).imp_left fun ⟨x, hx, d⟩ => ?_
  rcases List.mem_cons.1 hx with hx | hx
  ·subst hx
   rcases d with d | d
   ·have d' : m.kind = 5 := d
    rcases hm.2.2 with a | a | a <;> omega
   ·exact absurd d (h6 hr)
  ·exact ⟨x, hx, d⟩
 ·rw [upd_self, ek j hjw, e4, e5]
  refine (h.s8 j hj hjw).imp_right fun ⟨x, hx, d⟩ => ?_
  rcases List.mem_cons.1 hx with hx | hx
  ·subst hx; exact absurd d.1 (hm.not hkw)
  ·exact ⟨x, hx, d⟩
 ·rw [upd_self, e1, e3]; exact h.s9
theorem RdW.fall (h : RdW many w Lm T ((m, c) :: q) b) (hk : k < many) (hkw : k ≠ w) (hm : ofK w k m) (ht : (T w).tm < m.tm) : RdW many w Lm (upd T w ((T w).follow m.tm (-1))) q (b - 1) := by
 have hq : ∀ x ∈ q, x ∈ (m, c) :: q := fun x hx => List.mem_cons_of_mem _ hx
 have hc := h.cr (m, c) (List.mem_cons_self ..)
 have ek : ∀ j, j ≠ w → upd T w ((T w).follow m.tm (-1)) j = T j := fun j hj => upd_ne _ _ hj
 have ff := follow_tm (n := T w) (t := m.tm) (ld := -1) (by omega)
 have n1 : ¬ (0 : Int) = 1 := by decide
 have n2 : ¬ (0 : Int) = 2 := by decide
 have n3 : ¬ (0 : Int) = 3 := by decide
 refine ⟨fun x hx => h.ad x (hq x hx), (List.pairwise_cons.1 h.uq).2, fun x hx => h.cr x (hq x hx), ?_, ?_, ?_, ?_, ?_, fun j hj => ?_, fun j hj hjw => ?_, ?_, ?_, fun x hx => h.pv x (hq x hx), ?_⟩ <;> (try rw [upd_self]) <;> (try rw [ff.2.1])
 ·exact fun hr => absurd hr n3
 ·exact fun hr => absurd hr n3
 ·exact fun hr => absurd hr (by omega)
 ·exact fun hr => absurd hr n1
 ·rw [ff.1, ff.2.2]
  intro x hx j hj
  obtain ⟨a1, a2, a3⟩ := h.p5 x (hq x hx) j hj
  exact ⟨fun d => ⟨by have := (a1 d).1; omega, (a1 d).2⟩, fun d => by have := a2 d; omega, fun d => by have := a3 d; omega⟩
 ·by_cases d : j = w
  ·subst d; rw [upd_self]; exact Nwr.refl _
  ·rw [ek j d, ff.2.2]; exact h.nw j hj
 ·rw [ek j hjw, ff.1]
  rcases h.inf j hj hjw with d | ⟨x, hx, d⟩
  ·exact .inl (by omega)
  ·rcases List.mem_cons.1 hx with hx | hx
   ·subst hx
    rcases d with d | d
    ·exact absurd d.1 (hm.not hkw)
    ·exact .inl d.2.2
   ·exact .inr ⟨x, hx, d⟩
 ·exact fun hr => absurd hr n1
 ·have := h.bud
  rw [tot_cons] at this
  have h1 : 1 ≤ c := hc.1
  have h2 : (m, c).2 = c := rfl
  unfold stg
  rw [if_neg n1, if_neg n2]
  omega
 ·rw [ff.2.2]; exact ⟨h.lm.1, fun hr => absurd hr (by omega)⟩
end
end Go.Proofs.Ytmjccpfchhnfhaa
/- Raft heals, plainly (6): enough say yes: w asks truly, or leads. -/
namespace Go.Proofs.Ytmjccpfchhnfhaa
set_option linter.unusedVariables false
set_option linter.unusedSimpArgs false
def othN (many w : Nat) : List Nat := (List.range many).filter fun k => decide (k ≠ w)
theorem othN_mem {many w k : Nat} : k ∈ othN many w ↔ k < many ∧ k ≠ w := by unfold othN; simp
theorem othN_nodup (many w : Nat) : (othN many w).Nodup := List.nodup_range.filter _
theorem othN_len {many w : Nat} (hw : w < many) : (othN many w).length ≤ many - 1 := by
 have h : (w :: othN many w).Nodup := List.nodup_cons.2 ⟨fun e => (othN_mem.1 e).2 rfl, othN_nodup many w⟩
 have := nodup_le h (many := many) fun x hx => by
  rcases List.mem_cons.1 hx with e | e
  ·omega
  ·exact (othN_mem.1 e).1
 rw [List.length_cons] at this
 omega
theorem oth_is {n : Nd} {many w : Nat} (hc : n.conf = cfN many) (hm : n.me = ((w : Nat) : Int)) : n.others = (othN many w).map fun k => ((k : Nat) : Int) := by
 unfold Nd.others othN cfN at *
 rw [hc, hm, List.filter_map]
 congr 1
 apply List.filter_congr
 intro x hx
 simp only [Function.comp]
 exact decide_eq_decide.2 ⟨fun e k => e (by rw [k]), fun e k => e (by omega)⟩
def cst (many w : Nat) (f : Nat → Ms) (c : Nat) : Qs := (othN many w).map fun k => (f k, c)
theorem cst_mem {many w : Nat} {f : Nat → Ms} {c : Nat} {x : Ms × Nat} (h : x ∈ cst many w f c) : ∃ k, k < many ∧ k ≠ w ∧ x = (f k, c) := by
 obtain ⟨k, hk, rfl⟩ := List.mem_map.1 h
 exact ⟨k, (othN_mem.1 hk).1, (othN_mem.1 hk).2, rfl⟩
theorem cst_in {many w : Nat} {f : Nat → Ms} {c k : Nat} (h : k < many) (hw : k ≠ w) : (f k, c) ∈ cst many w f c := List.mem_map.2 ⟨k, othN_mem.2 ⟨h, hw⟩, rfl⟩
theorem cst_fst {many w : Nat} {f : Nat → Ms} {c : Nat} : (cst many w f c).map Prod.fst = (othN many w).map f := by unfold cst; rw [List.map_map]; rfl
theorem cst_tot {many w : Nat} {f : Nat → Ms} {c : Nat} (hw : w < many) : tot (cst many w f c) ≤ (many - 1) * c := by
 have h : tot (cst many w f c) = (othN many w).length * c := by
  unfold tot cst
  rw [List.map_map]
  generalize othN many w = l
  induction l with
  | nil => simp
  | cons x l ih => rw [List.map_cons, List.sum_cons, ih, List.length_cons, Nat.succ_mul, Nat.add_comm]; rfl
 rw [h]
 exact Nat.mul_le_mul_right _ (othN_len hw)
theorem cst_uq {many w : Nat} {f : Nat → Ms} {c : Nat} (hf : ∀ k, k < many → k ≠ w → toK w k (f k)) : (cst many w f c).Pairwise fun a b => ¬ SameK w a.1 b.1 := by
 unfold cst
 rw [List.pairwise_map]
 refine (othN_nodup many w).imp_of_mem fun {a b} ha hb hab e => hab ?_
 have h1 := (slt_to (hf a (othN_mem.1 ha).1 (othN_mem.1 ha).2)).2
 have h2 := (slt_to (hf b (othN_mem.1 hb).1 (othN_mem.1 hb).2)).2
 have h3 : oth w (f a) = oth w (f b) := e.2
 rw [h1, h2] at h3
 omega
section
variable {many w Lm cm c b : Nat} {cq : Prop} {lg : Option Lg} {T : Nat → Nd} {q : Qs} {m : Ms} {k : Nat} {n' : Nd}
def voteM (w : Nat) (n : Nd) (k : Nat) : Ms := { zMs with kind := 1, src := ((w : Nat) : Int), dst := ((k : Nat) : Int), tm := n.tm + 1, index := n.log.last, prev := n.log.lastT }
theorem RdW.votes (h : RdW many w Lm T ((m, c) :: q) b) (hw : w < many) (hk : k < many) (hkw : k ≠ w) (hm : ofK w k m) (h4 : m.kind = 4) (hok : m.ok = true) (hr : (T w).role = 1) (l0 : Lg0 (T w).log)
  (e1 : n'.role = 2) (e2 : n'.tm = (T w).tm + 1) (e3 : n'.log = (T w).log) (e4 : n'.next = (T w).next) (e5 : n'.mat = (T w).mat) (e7 : n'.yes = [((w : Nat) : Int)]) (hpv : (T w).log.lastT < 1152921504606846976) :
  RdW many w Lm (upd T w n') (q ++ cst many w (voteM w (T w)) 2) (b - 1) ∧ (RdS many w cm cq lg T ((m, c) :: q) → RdS many w cm cq lg (upd T w n') (q ++ cst many w (voteM w (T w)) 2)) := by
 have hq : ∀ x ∈ q, x ∈ (m, c) :: q := fun x hx => List.mem_cons_of_mem _ hx
 have hc := h.cr (m, c) (List.mem_cons_self ..)
 have ek : ∀ j, j ≠ w → upd T w n' j = T j := fun j hj => upd_ne _ _ hj
 have vt : ∀ j, toK w j (voteM w (T w) j) := fun j => ⟨rfl, rfl, .inl rfl⟩
 have n1 : ¬ (2 : Int) = 1 := by decide
 have n3 : ¬ (2 : Int) = 3 := by decide
 have mv : ∀ {x : Ms × Nat}, x ∈ q → x ∈ q ++ cst many w (voteM w (T w)) 2 := fun hx => List.mem_append_left _ hx
 have nof : ∀ {j i : Nat}, i ≠ w → ¬ ofK w i (voteM w (T w) j) := fun hi => (vt _).not hi
 constructor
 ·refine ⟨fun x hx => ?_, List.pairwise_append.2 ⟨(List.pairwise_cons.1 h.uq).2, cst_uq fun j _ _ => vt j, fun x hx y hy => ?_⟩, fun x hx => ?_, ?_, ?_, ?_, ?_, ?_, fun j hj => ?_, fun j hj hjw => ?_, ?_, ?_, fun x hx => ?_, ?_⟩ <;> (try rw [upd_self]) <;> (try rw [e1])
  ·rcases List.mem_append.1 hx with hx | hx
   ·exact h.ad x (hq x hx)
   ·obtain ⟨j, hj, hjw, rfl⟩ := cst_mem hx; exact ⟨j, hj, hjw, .inl (vt j)⟩
  ·obtain ⟨j, hj, hjw, rfl⟩ := cst_mem hy
   intro e
   have h1 := h.n1 hr x (hq x hx)
   have h2 : slt x.1 = 1 := e.1.trans (slt_to (vt j)).1
   obtain ⟨i, hi, hiw, d | d⟩ := h.ad x (hq x hx)
   ·exact h1.1 ((slt_to d).1.symm.trans h2)
   ·have := (slt_of d hiw).1
    exact h1.2 (by omega)
  ·rcases List.mem_append.1 hx with hx | hx
   ·exact h.cr x (hq x hx)
   ·obtain ⟨j, hj, hjw, rfl⟩ := cst_mem hx; exact ⟨by show 1 ≤ 2; omega, fun _ => Nat.le_refl 2⟩
  ·exact fun hr => absurd hr n3
  ·exact fun hr => absurd hr n3
  ·intro _ x hx
   rcases List.mem_append.1 hx with hx | hx
   ·exact h.nc (.inl hr) x (hq x hx)
   ·obtain ⟨j, hj, hjw, rfl⟩ := cst_mem hx; exact ⟨by show ¬ (1 : Int) = 5; decide, by show ¬ (1 : Int) = 6; decide⟩
  ·exact fun hr => absurd hr n1
  ·rw [e2, e3]
   intro x hx j hj
   rcases List.mem_append.1 hx with hx | hx
   ·obtain ⟨a1, a2, a3⟩ := h.p5 x (hq x hx) j hj
    exact ⟨fun d => ⟨by have := (a1 d).1; omega, (a1 d).2⟩, fun d => by have := a2 d; omega, fun d => by have := a3 d; omega⟩
   ·obtain ⟨i, hi, hiw, rfl⟩ := cst_mem hx
    exact ⟨fun d => absurd (show (1 : Int) = 5 from d) (by decide), fun d => absurd (show (1 : Int) = 3 from d) (by decide), fun _ => Nat.le_refl _⟩
  ·by_cases d : j = w
   ·subst d; rw [upd_self]; exact Nwr.refl _
   ·rw [ek j d, e3]; exact h.nw j hj
  ·rw [ek j hjw, e2]
   rcases h.inf j hj hjw with d | ⟨x, hx, d⟩
   ·exact .inl (by omega)
   ·rcases List.mem_cons.1 hx with hx | hx
    ·subst hx
     rcases d with d | d
     ·exact absurd d.1 (hm.not hkw)
     ·rcases d.2.1 with a | a
      ·have a' : m.kind = 6 := a
       omega
      ·have a' : m.ok = false := a.2
       rw [hok] at a'; cases a'
    ·exact .inr ⟨x, mv hx, d⟩
  ·exact fun hr => absurd hr n1
  ·have := h.bud
   rw [tot_cons, hr] at this
   have h1 : 1 ≤ c := hc.1
   have h2 : (m, c).2 = c := rfl
   rw [tot_app]
   have h3 := cst_tot (f := voteM w (T w)) (c := 2) hw
   unfold stg at this ⊢
   rw [if_pos rfl, Nat.mul_add] at this
   rw [if_neg n1, if_pos rfl]
   omega
  ·rcases List.mem_append.1 hx with hx | hx
   ·exact h.pv x (hq x hx)
   ·obtain ⟨j, hj, hjw, rfl⟩ := cst_mem hx; exact hpv
  ·rw [e3]; exact ⟨h.lm.1, fun _ => h.lm.2 (.inl hr)⟩
 ·intro s
  refine ⟨fun j hj => ?_, fun x hx j hj => ?_, ?_, ?_, ?_, ?_, ?_, fun j hj hjw => ?_, ?_⟩ <;> (try rw [upd_self]) <;> (try rw [e1])
  ·by_cases d : j = w
   ·subst d; rw [upd_self]; exact Nat.le_refl _
   ·rw [ek j d, e2]; have := s.s1 j hj; omega
  ·rw [e2]
   rcases List.mem_append.1 hx with hx | hx
   ·rcases s.s2 x (hq x hx) j hj with d | d
    ·exact .inl (by omega)
    ·exact .inr d
   ·obtain ⟨i, hi, hiw, rfl⟩ := cst_mem hx
    exact .inl (Nat.le_refl _)
  ·decide
  ·exact fun hr => absurd hr n1
  ·intro _
   rw [e7, e2, e3]
   refine ⟨List.mem_singleton.2 rfl, h.a1 hr, fun j hj hjw => .inr ⟨_, List.mem_append_right _ (cst_in hj hjw), .inl ⟨vt j, rfl, rfl, l0.last, l0.lastT, ?_⟩⟩⟩
   rw [ek j hjw]
   have := s.s1 j hj
   omega
  ·exact fun hr => absurd hr n3
  ·exact fun hr => absurd hr n3
  ·rw [ek j hjw, e4, e5]
   refine (s.s8 j hj hjw).imp_right fun ⟨x, hx, d⟩ => ?_
   exact absurd d.2.1 (h.nc (.inl hr) x hx).1
  ·intro l hl
   have := (s.s9 l hl).1
   rw [hr] at this
   exact absurd this (by decide)
def appM (w : Nat) (n : Nd) (k : Nat) : Ms := { zMs with kind := 5, src := ((w : Nat) : Int), dst := ((k : Nat) : Int), tm := n.tm, index := n.next.getD k 0 - 1, prev := (n.log.term (n.next.getD k 0 - 1)).1, commit := n.commit, es := n.log.slice (n.next.getD k 0) 8 }
theorem sendTo_is {n : Nd} (hr : n.role = 3) (hm : n.me = ((w : Nat) : Int)) (hkw : k ≠ w) (hk : k ≤ 15) (hb : n.log.base = 0) (hn : 1 ≤ n.next.getD k 0) : n.sendTo ((k : Nat) : Int) = [appM w n k] := by
 unfold Nd.sendTo
 rw [Int.toNat_natCast, if_neg (by rw [hm, hb]; omega), hm]; rfl
theorem beat_is {n : Nd} (hr : n.role = 3) (hc : n.conf = cfN many) (hm : n.me = ((w : Nat) : Int)) (h16 : many ≤ 16) (hb : n.log.base = 0) (hn : ∀ k, k < many → k ≠ w → 1 ≤ n.next.getD k 0) : n.beat = (othN many w).map (appM w n) := by
 unfold Nd.beat
 rw [oth_is hc hm, List.flatMap_map]
 have : ∀ l : List Nat, (∀ x ∈ l, x < many ∧ x ≠ w) → l.flatMap (fun a => n.sendTo ((a : Nat) : Int)) = l.map (appM w n) := fun l => by
  induction l with
  | nil => intro _; rfl
  | cons x l ih =>
   intro hl
   obtain ⟨a, b⟩ := hl x (List.mem_cons_self ..)
   rw [List.flatMap_cons, sendTo_is hr hm b (by omega) hb (hn x a b), ih fun y hy => hl y (List.mem_cons_of_mem _ hy)]
   rfl
 exact this _ fun x hx => othN_mem.1 hx
theorem slice_at {l : Lg} (h : Lg0 l) {i : Nat} (h1 : 1 ≤ i) {j : Nat} (hj : j < (l.slice i 8).length) : l.es[i - 1 + j]? = some (l.slice i 8)[j] := by
 unfold Lg.slice at hj ⊢
 have hb := h.1
 split at hj
 ·rename_i e
  simp only [e, if_true]
  have hl : i - 1 + j < l.es.length := by rw [List.length_take, List.length_drop, hb] at hj; omega
  rw [List.getElem_take, List.getElem_drop]
  exact (List.getElem?_eq_getElem hl).trans (congrArg some (by congr 1; omega))
 ·cases hj
theorem appM_p5 {n : Nd} (l0 : Lg0 n.log) (h1 : 1 ≤ n.next.getD k 0) (h2 : n.next.getD k 0 ≤ n.log.es.length + 1) : (appM w n k).index + (appM w n k).es.length ≤ n.log.es.length ∧ (appM w n k).prev = tA n.log.es (appM w n k).index ∧ ∀ i (hi : i < (appM w n k).es.length), n.log.es[(appM w n k).index + i]? = some (appM w n k).es[i] := by
 refine ⟨?_, ?_, fun i hi => ?_⟩
 ·show n.next.getD k 0 - 1 + (n.log.slice (n.next.getD k 0) 8).length ≤ _
  rw [slice_len l0 h1 h2]; omega
 ·show (n.log.term (n.next.getD k 0 - 1)).1 = _
  rw [l0.term]; rfl
 ·exact slice_at l0 h1 hi
theorem fz_le {nx mt L : Nat} (h1 : mt + 1 ≤ nx) (h2 : nx ≤ L + 1) : fz nx mt L ≤ 4 * L + 8 ∧ 2 ≤ fz nx mt L := by
 unfold fz
 split <;> omega
theorem RdW.leads (h : RdW many w Lm T ((m, c) :: q) b) (h16 : many ≤ 16) (hw : w < many) (hk : k < many) (hkw : k ≠ w) (hm : ofK w k m) (h4 : m.kind = 2) (hr : (T w).role = 2) (l0 : Lg0 (T w).log) (l0' : Lg0 n'.log)
  (e1 : n'.role = 3) (e2 : n'.tm = (T w).tm) (e3 : n'.log.es = (T w).log.es ++ [⟨(T w).tm, 0, []⟩]) (e4 : ∀ j, j < 16 → n'.next.getD j 0 = (T w).log.es.length + 1) (e5 : ∀ j, j < 16 → j ≠ w → n'.mat.getD j 0 = 0) (ht : tA (T w).log.es (T w).log.es.length ≤ (T w).tm) (hpv : ∀ i, tA n'.log.es i < 1152921504606846976) :
  RdW many w Lm (upd T w n') (q ++ cst many w (appM w n') (4 * Lm + 8)) (b - 1) ∧ (RdS many w cm cq lg T ((m, c) :: q) → RdS many w cm cq lg (upd T w n') (q ++ cst many w (appM w n') (4 * Lm + 8))) := by
 have hq : ∀ x ∈ q, x ∈ (m, c) :: q := fun x hx => List.mem_cons_of_mem _ hx
 have hc := h.cr (m, c) (List.mem_cons_self ..)
 have ek : ∀ j, j ≠ w → upd T w n' j = T j := fun j hj => upd_ne _ _ hj
 have vt : ∀ j, toK w j (appM w n' j) := fun j => ⟨rfl, rfl, .inr (.inr rfl)⟩
 have n1 : ¬ (3 : Int) = 1 := by decide
 have n2 : ¬ (3 : Int) = 2 := by decide
 have mv : ∀ {x : Ms × Nat}, x ∈ q → x ∈ q ++ cst many w (appM w n') (4 * Lm + 8) := fun hx => List.mem_append_left _ hx
 have hL : n'.log.es.length = (T w).log.es.length + 1 := by rw [e3, List.length_append]; rfl
 have hLm := h.lm.2 (.inr hr)
 have NC : ∀ x ∈ q, x.1.kind ≠ 5 ∧ x.1.kind ≠ 6 := fun x hx => h.nc (.inr hr) x (hq x hx)
 have NWL : ∀ x : List En, Nwr (T w).log.es x → Nwr n'.log.es x := fun x d => by
  unfold Nwr at d ⊢
  rw [e3, List.length_append, List.length_singleton, tA_end]
  show tA x x.length < (T w).tm ∨ ((T w).tm = tA x x.length ∧ x.length ≤ _)
  omega
 constructor
 ·refine ⟨fun x hx => ?_, List.pairwise_append.2 ⟨(List.pairwise_cons.1 h.uq).2, cst_uq fun j _ _ => vt j, fun x hx y hy => ?_⟩, fun x hx => ?_, ?_, ?_, ?_, ?_, ?_, fun j hj => ?_, fun j hj hjw => ?_, ?_, ?_, fun x hx => ?_, ?_⟩ <;> (try rw [upd_self]) <;> (try rw [e1])
  ·rcases List.mem_append.1 hx with hx | hx
   ·exact h.ad x (hq x hx)
   ·obtain ⟨j, hj, hjw, rfl⟩ := cst_mem hx; exact ⟨j, hj, hjw, .inl (vt j)⟩
  ·obtain ⟨j, hj, hjw, rfl⟩ := cst_mem hy
   intro e
   have h1 := NC x hx
   have h2 : slt x.1 = 5 := e.1.trans (slt_to (vt j)).1
   obtain ⟨i, hi, hiw, d | d⟩ := h.ad x (hq x hx)
   ·exact h1.1 ((slt_to d).1.symm.trans h2)
   ·have := (slt_of d hiw).1
    exact h1.2 (by omega)
  ·rcases List.mem_append.1 hx with hx | hx
   ·exact h.cr x (hq x hx)
   ·obtain ⟨j, hj, hjw, rfl⟩ := cst_mem hx; exact ⟨by show 1 ≤ 4 * Lm + 8; omega, fun _ => by show 2 ≤ 4 * Lm + 8; omega⟩
  ·intro _ x hx i hi h5
   rcases List.mem_append.1 hx with hx | hx
   ·exact absurd h5 (NC x hx).1
   ·obtain ⟨j, hj, hjw, rfl⟩ := cst_mem hx
    have : j = i := (vt j).eq hi
    subst this
    have a4 := e4 j (by omega)
    refine ⟨rfl, ?_, rfl, ?_⟩
    ·show n'.next.getD j 0 - 1 + 1 = _
     omega
    ·have := (fz_le (nx := n'.next.getD j 0) (mt := n'.mat.getD j 0) (L := n'.log.es.length) (by rw [e5 j (by omega) hjw]; omega) (by omega)).1
     show _ ≤ 4 * Lm + 8
     omega
  ·intro _ x hx i hi h5
   rcases List.mem_append.1 hx with hx | hx
   ·exact absurd h5 (NC x hx).2
   ·obtain ⟨j, hj, hjw, rfl⟩ := cst_mem hx
    exact absurd (show (5 : Int) = 6 from h5) (by decide)
  ·exact fun hr => absurd hr (by omega)
  ·exact fun hr => absurd hr n1
  ·intro x hx i hi
   rcases List.mem_append.1 hx with hx | hx
   ·obtain ⟨a1, a2, a3⟩ := h.p5 x (hq x hx) i hi
    exact ⟨fun d => absurd d (NC x hx).1, fun d => by have := a2 d; omega, fun d => by have := a3 d; omega⟩
   ·obtain ⟨j, hj, hjw, rfl⟩ := cst_mem hx
    have a4 := e4 j (by omega)
    exact ⟨fun d => ⟨Nat.le_refl _, appM_p5 l0' (by omega) (by omega)⟩, fun d => absurd (show (5 : Int) = 3 from d) (by decide), fun d => absurd (show (5 : Int) = 1 from d) (by decide)⟩
  ·by_cases d : j = w
   ·subst d; rw [upd_self]; exact Nwr.refl _
   ·rw [ek j d]; exact NWL _ (h.nw j hj)
  ·rw [ek j hjw, e2]
   rcases h.inf j hj hjw with d | ⟨x, hx, d⟩
   ·exact .inl (by omega)
   ·rcases List.mem_cons.1 hx with hx | hx
    ·subst hx
     rcases d with d | d
     ·exact absurd d.1 (hm.not hkw)
     ·rcases d.2.1 with a | a
      ·have a' : m.kind = 6 := a
       omega
      ·have a' : m.kind = 4 := a.1
       omega
    ·exact .inr ⟨x, mv hx, d⟩
  ·exact fun hr => absurd hr n1
  ·have := h.bud
   rw [tot_cons, hr] at this
   have h1 : 1 ≤ c := hc.1
   have h2 : (m, c).2 = c := rfl
   rw [tot_app]
   have h3 := cst_tot (f := appM w n') (c := 4 * Lm + 8) hw
   unfold stg at this ⊢
   rw [if_neg (by decide), if_pos rfl] at this
   rw [if_neg n1, if_neg n2]
   omega
  ·rcases List.mem_append.1 hx with hx | hx
   ·exact h.pv x (hq x hx)
   ·obtain ⟨j, hj, hjw, rfl⟩ := cst_mem hx
    show (n'.log.term (n'.next.getD j 0 - 1)).1 < _
    rw [l0'.term]; exact hpv _
  ·rw [hL]; exact ⟨hLm, fun d => absurd d (by omega)⟩
 ·intro s
  refine ⟨fun j hj => ?_, fun x hx j hj => ?_, ?_, ?_, ?_, fun _ j hj hjw => ?_, fun _ => ?_, fun j hj hjw => ?_, ?_⟩ <;> (try rw [upd_self]) <;> (try rw [e1])
  ·by_cases d : j = w
   ·subst d; rw [upd_self]; exact Nat.le_refl _
   ·rw [ek j d, e2]; exact s.s1 j hj
  ·rw [e2]
   rcases List.mem_append.1 hx with hx | hx
   ·exact s.s2 x (hq x hx) j hj
   ·obtain ⟨i, hi, hiw, rfl⟩ := cst_mem hx
    exact .inl (Nat.le_of_eq e2)
  ·decide
  ·exact fun hr => absurd hr n1
  ·exact fun hr => absurd hr n2
  ·exact .inr ⟨_, List.mem_append_right _ (cst_in hj hjw), .inl ⟨vt j, rfl⟩⟩
  ·exact .inl ⟨_, List.mem_append_right _ (cst_in hk hkw), .inl rfl⟩
  ·rw [ek j hjw]
   refine (s.s8 j hj hjw).imp_right fun ⟨x, hx, d⟩ => ?_
   exact absurd d.2.1 (h.nc (.inr hr) x hx).1
  ·intro l hl
   have := (s.s9 l hl).1
   rw [hr] at this
   exact absurd this (by decide)
end
end Go.Proofs.Ytmjccpfchhnfhaa
