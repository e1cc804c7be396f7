/- Texts of the proofs, part 45: what the functions that they reach do, walked; no conditions beyond those that each states. -/
import Derived.Test.YtmjccpfchhnfhaaZze2fd7a0b30
set_option linter.unusedVariables false
set_option linter.unusedSimpArgs false
/- Law 13: RaftPlays, plainly: what its steps do; all stays well and safe. -/
namespace Go.Proofs.Ytmjccpfchhnfhaa
set_option linter.unusedVariables false
set_option linter.unusedSimpArgs false
theorem set_same (l : List Nd) (i : Nat) : l.set i (l.getD i default) = l := by
 apply List.ext_getElem?
 intro j
 rw [List.getElem?_set]
 split
 ·rename_i e
  subst e
  split
  ·rename_i h; rw [List.getD_eq_getElem?_getD, List.getElem?_eq_getElem h]; rfl
  ·rename_i h; rw [List.getElem?_eq_none (by omega)]
 ·rfl
theorem send_nil (s : Gs) : s.send [] = s := by
 unfold Gs.send
 split
 ·rw [List.append_nil]
 ·rfl
section
variable {many : Nat} {s : Gs}
theorem Safe.timeout (h : Safe many s) (h16 : many ≤ 16) {j : Nat} (hj : j < many) : Safe many (({ s with ns := s.ns.set j (s.ns.getD j default).timeout.1 } : Gs).send (s.ns.getD j default).timeout.2) :=
 h.node hj (Nd.timeout_me _) (Nd.timeout_conf _) fun T g w _ => does_timeout w h16
theorem Safe.arrive (h : Safe many s) (h16 : many ≤ 16) {k : Nat} (hk : k < s.ms.length) : Safe many (s.arrive k) := by
 unfold Gs.arrive
 dsimp only
 split
 ·exact h
 ·have hm : s.ms.getD k zMs ∈ s.ms := GJ.getD_mem hk
  obtain ⟨a, b, e1, e2, h1, h2⟩ := h.dst hm
  generalize s.ms.getD k zMs = m at hm e1 e2
  rw [e2, Int.toNat_natCast]
  exact h.node h2 (Nd.step_me _ _) (Nd.step_conf _ _) fun T g w q => does_step w h16 (q m hm)
theorem Safe.beat (h : Safe many s) {j : Nat} (hj : j < many) : Safe many (s.send (s.ns.getD j default).beat) := by
 have := h.node hj (r := (s.ns.getD j default, (s.ns.getD j default).beat)) rfl rfl fun T g w _ => ⟨g, Goes.refl w, w.beat⟩
 dsimp only at this
 rw [set_same] at this
 exact this
theorem Safe.propose (h : Safe many s) (h16 : many ≤ 16) {j : Nat} (hj : j < many) (k : Int) (d : List UInt8) : Safe many { s with ns := s.ns.set j ((s.ns.getD j default).propose k d).1 } := by
 have := h.node hj (r := (((s.ns.getD j default).propose k d).1, [])) (Nd.propose_up _ _ _).me (Nd.propose_up _ _ _).conf fun T g w _ => does_propose w h16 k d
 rw [send_nil] at this
 exact this
end
end Go.Proofs.Ytmjccpfchhnfhaa
/- Raft heals, plainly (1): what is always so of a leader's numbers, of entries, of how long logs are. -/
namespace Go.Proofs.Ytmjccpfchhnfhaa
set_option linter.unusedVariables false
set_option linter.unusedSimpArgs false
def Eo (x : En) : Prop := x.d.length ≤ 24 ∧ 0 ≤ x.k ∧ x.k ≤ 255
structure Kn (c : Nat) (n : Nd) : Prop where
 me0 : 0 ≤ n.me ∧ n.me ≤ 15
 n16 : n.next.length = 16
 m16 : n.mat.length = 16
 ld : n.role = 3 → tA n.log.es n.log.es.length = n.tm ∧ 1 ≤ n.log.es.length ∧ (∀ y : Nat, y < 16 → ((y : Nat) : Int) ≠ n.me → n.mat.getD y 0 + 1 ≤ n.next.getD y 0) ∧ n.mat.getD n.me.toNat 0 = n.log.es.length
 l0 : Lg0 n.log
 le : n.log.es.length ≤ c
 eo : ∀ x ∈ n.log.es, Eo x
structure Km (c : Nat) (m : Ms) : Prop where
 ix : m.index + m.es.length ≤ c
 eo : ∀ x ∈ m.es, Eo x
def NxB (n : Nd) : Prop := n.role = 3 → ∀ y : Nat, n.next.getD y 0 ≤ n.log.es.length + 1
def KR (c : Nat) (r : Nd × List Ms) : Prop := Kn c r.1 ∧ (NxB r.1 → ∀ m ∈ r.2, Km c m)
theorem Km.mono {c d : Nat} {m : Ms} (h : Km c m) (hd : c ≤ d) : Km d m := ⟨Nat.le_trans h.ix hd, h.eo⟩
theorem Kn.mono {c d : Nat} {n : Nd} (h : Kn c n) (hd : c ≤ d) : Kn d n := ⟨h.me0, h.n16, h.m16, h.ld, h.l0, Nat.le_trans h.le hd, h.eo⟩
theorem KR.mono {c d : Nat} {r : Nd × List Ms} (h : KR c r) (hd : c ≤ d) : KR d r := ⟨h.1.mono hd, fun x m hm => (h.2 x m hm).mono hd⟩
theorem KR.no {c : Nat} {n : Nd} (h : Kn c n) : KR c (n, []) := ⟨h, fun _ m hm => by cases hm⟩
theorem Km.bare {c : Nat} {m : Ms} (h : m.index ≤ c) (he : m.es = []) : Km c m := ⟨by rw [he]; exact h, by rw [he]; exact fun x hx => by cases hx⟩
section
variable {c : Nat} {n : Nd} {m : Ms}
theorem Kn.idle (h : Kn c n) {n' : Nd} (h1 : n'.next = n.next) (h2 : n'.mat = n.mat) (h3 : n'.role ≠ 3) (h4 : n'.log = n.log) (h6 : n'.me = n.me) : Kn c n' :=
 ⟨h6 ▸ h.me0, h1 ▸ h.n16, h2 ▸ h.m16, fun e => absurd e h3, h4 ▸ h.l0, h4 ▸ h.le, h4 ▸ h.eo⟩
theorem Kn.keep (h : Kn c n) {n' : Nd} (h1 : n'.next = n.next) (h2 : n'.mat = n.mat) (h3 : n'.role = n.role) (h4 : n'.log = n.log) (h5 : n'.tm = n.tm) (h6 : n'.me = n.me) : Kn c n' :=
 ⟨h6 ▸ h.me0, h1 ▸ h.n16, h2 ▸ h.m16, by rw [h3, h4, h5, h2, h1, h6]; exact h.ld, h4 ▸ h.l0, h4 ▸ h.le, h4 ▸ h.eo⟩
theorem Kn.follow (h : Kn c n) (t : Nat) (ld : Int) : Kn c (n.follow t ld) := by
 unfold Nd.follow
 split
 ·exact h.idle rfl rfl (by show ¬ (0 : Int) = 3; decide) rfl rfl
 ·exact h.idle rfl rfl (by show ¬ (0 : Int) = 3; decide) rfl rfl
theorem rep_at {k v y : Nat} (hy : y < k) : (List.replicate k v).getD y 0 = v := by
 rw [List.getD_eq_getElem?_getD, List.getElem?_replicate, if_pos hy]; rfl
theorem Kn.lead (h : Kn c n) : Kn (c + 1) n.lead := by
 refine ⟨h.me0, List.length_replicate, by show ((List.replicate 16 0).set _ _).length = 16; rw [List.length_set, List.length_replicate], fun _ => ⟨?_, ?_, fun y hy hne => ?_, ?_⟩, h.l0, ?_, fun x hx => ?_⟩
 ·show tA (n.log.es ++ [(⟨n.tm, 0, []⟩ : En)]) (n.log.es ++ [(⟨n.tm, 0, []⟩ : En)]).length = n.tm
  rw [List.length_append, List.length_singleton, tA_end]
 ·show 1 ≤ (n.log.es ++ [(⟨n.tm, 0, []⟩ : En)]).length
  rw [List.length_append, List.length_singleton]; omega
 ·show ((List.replicate 16 0).set n.me.toNat (n.log.last + 1)).getD y 0 + 1 ≤ (List.replicate 16 (n.log.last + 1)).getD y 0
  have hne' : ((y : Nat) : Int) ≠ n.me := hne
  rw [rep_at hy, List.getD_eq_getElem?_getD]
  by_cases e : n.me.toNat = y
  ·have := h.me0
   exact absurd (by omega) hne'
  ·rw [List.getElem?_set_ne e, List.getElem?_replicate, if_pos hy]
   show 0 + 1 ≤ _
   omega
 ·show ((List.replicate 16 0).set n.me.toNat (n.log.last + 1)).getD n.me.toNat 0 = (n.log.es ++ [(⟨n.tm, 0, []⟩ : En)]).length
  have := h.me0
  rw [List.getD_eq_getElem?_getD, List.getElem?_set_self (by rw [List.length_replicate]; omega), List.length_append, h.l0.last]; rfl
 ·show (n.log.es ++ [(⟨n.tm, 0, []⟩ : En)]).length ≤ c + 1
  rw [List.length_append, List.length_singleton]; have := h.le; omega
 ·rcases List.mem_append.1 hx with hx | hx
  ·exact h.eo x hx
  ·rw [List.mem_singleton.1 hx]; exact ⟨Nat.zero_le _, Int.le_refl 0, by show (0 : Int) ≤ 255; decide⟩
theorem Kn.toAll (h : Kn c n) {m : Ms} (hm : Km c m) : ∀ x ∈ n.toAll m, Km c x := fun x hx => by
 obtain ⟨y, -, rfl⟩ := List.mem_map.1 hx
 exact ⟨hm.ix, hm.eo⟩
theorem Kn.askT (h : Kn c n) : KR (c + 1) n.askT := by
 unfold Nd.askT
 split
 ·dsimp only
  split
  ·exact KR.no ((h.idle (n' := { n with tm := n.tm + 1, vote := n.me, role := 2, ld := -1, yes := [n.me] }) rfl rfl (by show ¬ (2 : Int) = 3; decide) rfl rfl).lead)
  ·have h1 := (h.idle (n' := { n with tm := n.tm + 1, vote := n.me, role := 2, ld := -1, yes := [n.me] }) rfl rfl (by show ¬ (2 : Int) = 3; decide) rfl rfl)
   exact KR.mono ⟨h1, fun _ => h1.toAll (.bare (by show n.log.last ≤ c; rw [h.l0.last]; exact h.le) rfl)⟩ (by omega)
 ·exact KR.no (h.mono (by omega))
theorem Kn.askF (h : Kn c n) : KR (c + 1) n.askF := by
 unfold Nd.askF
 split
 ·dsimp only
  have h1 := (h.idle (n' := { n with role := 1, ld := -1, yes := [n.me] }) rfl rfl (by show ¬ (1 : Int) = 3; decide) rfl rfl)
  split
  ·exact h1.askT
  ·exact KR.mono ⟨h1, fun _ => h1.toAll (.bare (by show n.log.last ≤ c; rw [h.l0.last]; exact h.le) rfl)⟩ (by omega)
 ·exact KR.no (h.mono (by omega))
theorem Kn.onAsk (h : Kn c n) : KR c (n.onAsk m) := by
 unfold Nd.onAsk
 split
 ·dsimp only
  have h1 : Kn c (if m.kind = 1 ∧ n.tm < m.tm then n.follow m.tm (-1) else n) := by
   split
   ·exact h.follow _ _
   ·exact h
  generalize (if m.kind = 1 ∧ n.tm < m.tm then n.follow m.tm (-1) else n) = n1 at h1
  refine ⟨?_, fun _ x hx => ?_⟩
  ·show Kn c (if _ then _ else _)
   split
   ·exact h1.keep rfl rfl rfl rfl rfl rfl
   ·exact h1
  ·rw [List.mem_singleton.1 hx]; exact .bare (Nat.zero_le _) rfl
 ·exact KR.no h
theorem Kn.chosen (h : Kn c n) : KR (c + 1) n.chosen := by
 unfold Nd.chosen
 split
 ·exact h.askT
 ·exact KR.no h.lead
theorem Kn.onAnswer (h : Kn c n) : KR (c + 1) (n.onAnswer m) := by
 unfold Nd.onAnswer
 split
 ·dsimp only
  have h1 : Kn c (if n.tm < m.tm ∧ (m.ok = false ∨ m.kind = 2) then n.follow m.tm (-1) else n) := by
   split
   ·exact h.follow _ _
   ·exact h
  generalize (if n.tm < m.tm ∧ (m.ok = false ∨ m.kind = 2) then n.follow m.tm (-1) else n) = n1 at h1
  split
  ·have h2 : Kn c { n1 with yes := n1.yes ++ [m.src] } := h1.keep rfl rfl rfl rfl rfl rfl
   split
   ·exact h2.chosen
   ·exact KR.no (h2.mono (by omega))
  ·exact KR.no (h1.mono (by omega))
 ·exact KR.no (h.mono (by omega))
theorem slice_sub {l : Lg} {i k : Nat} {x : En} (h : x ∈ l.slice i k) : x ∈ l.es := by
 unfold Lg.slice at h
 split at h
 ·exact List.mem_of_mem_drop (List.mem_of_mem_take h)
 ·cases h
theorem slice_len {l : Lg} (h : Lg0 l) {i k : Nat} (h1 : 1 ≤ i) (h2 : i ≤ l.es.length + 1) : (l.slice i k).length = min k (l.es.length + 1 - i) := by
 unfold Lg.slice
 have hb := h.1
 split
 ·rw [List.length_take, List.length_drop, hb]; congr 1; omega
 ·rename_i e
  rw [Lg.has_iff, h.last, hb] at e
  have : i = l.es.length + 1 := by omega
  subst this
  simp
theorem Kn.sendTo (h : Kn c n) (hx : NxB n) (x : Int) : ∀ m ∈ n.sendTo x, Km c m := fun m hm => by
 unfold Nd.sendTo at hm
 split at hm
 ·cases hm
 ·rename_i q
  rw [List.mem_singleton.1 hm]
  have hr : n.role = 3 := by
   by_cases e : n.role = 3
   ·exact e
   ·exact absurd (.inl e) q
  have hl := hx hr x.toNat
  have h1 : 1 ≤ n.next.getD x.toNat 0 := by
   by_cases e : n.next.getD x.toNat 0 ≤ n.log.base
   ·exact absurd (.inr (.inr (.inr (.inr e)))) q
   ·omega
  refine ⟨?_, fun y hy => h.eo y (slice_sub hy)⟩
  show n.next.getD x.toNat 0 - 1 + (n.log.slice (n.next.getD x.toNat 0) 8).length ≤ c
  rw [slice_len h.l0 h1 hl]
  have := h.le
  omega
theorem Kn.beat (h : Kn c n) (hx : NxB n) : ∀ m ∈ n.beat, Km c m := fun m hm => by
 obtain ⟨x, -, h1⟩ := List.mem_flatMap.1 hm
 exact h.sendTo hx x m h1
theorem Kn.taken (h : Kn c n) (hr : n.role ≠ 3) (hm : Km c m) : KR c (n.taken m) := by
 unfold Nd.taken
 split
 ·exact ⟨h, fun _ x hx => by rw [List.mem_singleton.1 hx]; exact .bare (by show m.index ≤ c; have := hm.ix; omega) rfl⟩
 ·rename_i q
  have hb : ¬ m.index < n.log.base := by rw [h.l0.1]; omega
  have key : Lg0 (n.log.append m.index m.prev m.es).1 ∧ (n.log.append m.index m.prev m.es).1.es.length ≤ c ∧ ∀ x ∈ (n.log.append m.index m.prev m.es).1.es, Eo x := by
   have hB := Lg.append_base n.log m.index m.prev m.es
   refine ⟨⟨hB.1.trans h.l0.1, hB.2.trans h.l0.2⟩, ?_⟩
   unfold Lg.append
   split
   ·exact ⟨h.le, h.eo⟩
   ·rename_i hf
    try rw [if_neg hb]
    have hp : m.index ≤ n.log.es.length := by
     by_cases e : n.log.last < m.index
     ·refine absurd ?_ hf
      unfold Lg.fits
      rw [if_pos e]; decide
     ·rw [h.l0.last] at e; omega
    rcases lay_cases n.log h.l0 m.es m.index hp with ⟨a, -, -⟩ | ⟨z, a, b, -, -, f⟩
    ·dsimp only
     rw [a]; exact ⟨h.le, h.eo⟩
    ·dsimp only
     rw [f]
     refine ⟨?_, fun x hx => ?_⟩
     ·show (n.log.es.take _ ++ m.es.drop z).length ≤ c
      rw [List.length_append, List.length_take, List.length_drop]
      have := hm.ix
      omega
     ·rcases List.mem_append.1 hx with hx | hx
      ·exact h.eo x (List.mem_of_mem_take hx)
      ·exact hm.eo x (List.mem_of_mem_drop hx)
  exact ⟨⟨h.me0, h.n16, h.m16, fun e => absurd e hr, key.1, key.2.1, key.2.2⟩, fun _ x hx => by rw [List.mem_singleton.1 hx]; exact .bare hm.ix rfl⟩
theorem follow_role (n : Nd) (t : Nat) (ld : Int) : (n.follow t ld).role = 0 := by unfold Nd.follow; split <;> rfl
theorem Kn.onAppend (h : Kn c n) (hm : Km c m) : KR c (n.onAppend m) := by
 unfold Nd.onAppend
 split
 ·exact KR.no h
 ·split
  ·exact ⟨h, fun _ x hx => by rw [List.mem_singleton.1 hx]; exact .bare (by show m.index ≤ c; have := hm.ix; omega) rfl⟩
  ·exact Kn.taken ((h.follow m.tm m.src).keep (n' := { n.follow m.tm m.src with heard := true }) rfl rfl rfl rfl rfl rfl) (by show ¬ (n.follow m.tm m.src).role = 3; rw [follow_role]; decide) hm
theorem Kn.sureR (h : Kn c n) (r : Nat) : Kn c (n.sureR r) := by
 unfold Nd.sureR
 split
 ·exact h.keep rfl rfl rfl rfl rfl rfl
 ·exact h
theorem set_gt {l : List Nat} {i y v : Nat} : (l.set i v).getD y 0 = if i = y ∧ y < l.length then v else l.getD y 0 := by
 rw [List.getD_eq_getElem?_getD, List.getD_eq_getElem?_getD, List.getElem?_set]
 by_cases e : i = y
 ·subst e
  by_cases h : i < l.length
  ·rw [if_pos rfl, if_pos h, if_pos ⟨rfl, h⟩]; rfl
  ·rw [if_pos rfl, if_neg h, if_neg (fun e => h e.2), List.getElem?_eq_none (by omega)]
 ·rw [if_neg e, if_neg (fun k => e k.1)]
theorem Kn.acked (h : Kn c n) (hr : n.role = 3) (hs : m.src ≠ n.me) (hs0 : 0 ≤ m.src) : Kn c (n.acked m) := by
 unfold Nd.acked
 split
 ·refine ⟨h.me0, by show (n.next.set _ _).length = 16; rw [List.length_set]; exact h.n16, h.m16, fun e => ⟨(h.ld e).1, (h.ld e).2.1, fun y hy hne => ?_, (h.ld e).2.2.2⟩, h.l0, h.le, h.eo⟩
  have := (h.ld e).2.2.1 y hy hne
  show n.mat.getD y 0 + 1 ≤ (n.next.set _ _).getD y 0
  rw [set_gt]
  split
  ·rename_i e
   rw [e.1]; omega
  ·exact this
 ·split
  ·unfold Nd.sure
   have : Kn c { n with mat := n.mat.set m.src.toNat (max (n.mat.getD m.src.toNat 0) m.index), next := n.next.set m.src.toNat (max (n.mat.getD m.src.toNat 0) m.index + 1) } := by
    refine ⟨h.me0, by show (n.next.set _ _).length = 16; rw [List.length_set]; exact h.n16, by show (n.mat.set _ _).length = 16; rw [List.length_set]; exact h.m16, fun e => ⟨(h.ld e).1, (h.ld e).2.1, fun y hy hne => ?_, ?_⟩, h.l0, h.le, h.eo⟩
    ·have := (h.ld e).2.2.1 y hy hne
     show (n.mat.set _ _).getD y 0 + 1 ≤ (n.next.set _ _).getD y 0
     rw [set_gt, set_gt, h.m16, h.n16]
     split
     ·omega
     ·exact this
    ·show (n.mat.set _ _).getD n.me.toNat 0 = _
     have := h.me0
     rw [set_gt, if_neg (fun k => by have := k.1; omega)]
     exact (h.ld e).2.2.2
   exact this.sureR _
  ·exact h
theorem Kn.onAcked (h : Kn c n) : KR c (n.onAcked m) := by
 unfold Nd.onAcked
 split
 ·exact KR.no h
 ·split
  ·exact KR.no (h.follow _ _)
  ·split
   ·exact KR.no h
   ·rename_i q
    have hr : n.role = 3 := by
     by_cases e : n.role = 3
     ·exact e
     ·exact absurd (.inr (.inl e)) q
    have ha := h.acked (m := m) hr (fun e => q (.inr (.inr (.inl e)))) (by
     by_cases e : m.src < 0
     ·exact absurd (.inr (.inr (.inr (.inl e)))) q
     ·omega)
    split
    ·exact KR.no ha
    ·exact ⟨ha, fun hx => ha.sendTo hx _⟩
theorem Kn.propose (h : Kn c n) (kind : Int) (data : List UInt8) : Kn (c + 1) (n.propose kind data).1 := by
 unfold Nd.propose
 split
 ·exact h.mono (by omega)
 ·split
  ·exact h.mono (by omega)
  ·split
   ·exact h.mono (by omega)
   ·rename_i hr hk hd
    have hr' : n.role = 3 := Classical.not_not.1 hr
    unfold Nd.sure
    have : Kn (c + 1) { n with log := n.log.add ⟨n.tm, kind, data⟩, mat := n.mat.set n.me.toNat (n.log.last + 1) } := by
     refine ⟨h.me0, h.n16, by show (n.mat.set _ _).length = 16; rw [List.length_set]; exact h.m16, fun e => ⟨?_, ?_, fun y hy hne => ?_, ?_⟩, h.l0, ?_, fun x hx => ?_⟩
     ·show tA (n.log.es ++ [(⟨n.tm, kind, data⟩ : En)]) (n.log.es ++ [(⟨n.tm, kind, data⟩ : En)]).length = n.tm
      rw [List.length_append, List.length_singleton, tA_end]
     ·show 1 ≤ (n.log.es ++ [(⟨n.tm, kind, data⟩ : En)]).length
      rw [List.length_append, List.length_singleton]; omega
     ·have := (h.ld hr').2.2.1 y hy hne
      show (n.mat.set _ _).getD y 0 + 1 ≤ n.next.getD y 0
      have hne' : ((y : Nat) : Int) ≠ n.me := hne
      rw [set_gt, if_neg (fun k => ?_)]
      ·exact this
      ·have := h.me0
       omega
     ·show (n.mat.set n.me.toNat (n.log.last + 1)).getD n.me.toNat 0 = (n.log.es ++ [(⟨n.tm, kind, data⟩ : En)]).length
      have := h.me0
      rw [set_gt, if_pos ⟨rfl, by rw [h.m16]; omega⟩, List.length_append, h.l0.last]; rfl
     ·show (n.log.es ++ [(⟨n.tm, kind, data⟩ : En)]).length ≤ c + 1
      rw [List.length_append, List.length_singleton]; have := h.le; omega
     ·rcases List.mem_append.1 hx with hx | hx
      ·exact h.eo x hx
      ·rw [List.mem_singleton.1 hx]; exact ⟨by show data.length ≤ 24; omega, by show 0 ≤ kind; omega, by show kind ≤ 255; omega⟩
    exact this.sureR _
theorem KR.led {r : Nd × List Ms} (h : KR c r) {n : Nd} : KR c (n.led r) := by
 unfold Nd.led
 split
 ·exact ⟨h.1, fun hx m hm => (List.mem_append.1 hm).elim (h.2 hx m) (h.1.beat hx m)⟩
 ·exact h
theorem Kn.timeout (h : Kn c n) : KR (c + 1) n.timeout := by
 unfold Nd.timeout
 split
 ·exact KR.no (h.mono (by omega))
 ·split
  ·exact KR.no ((h.keep (n' := { n with heard := false }) rfl rfl rfl rfl rfl rfl).mono (by omega))
  ·exact h.askF.led
theorem Kn.does (h : Kn c n) (hm : Km c m) : KR (c + 1) (n.does m) := by
 unfold Nd.does
 split
 ·exact h.onAsk.mono (by omega)
 ·split
  ·exact h.onAnswer
  ·split
   ·exact (h.onAppend hm).mono (by omega)
   ·exact h.onAcked.mono (by omega)
theorem step_is (n : Nd) (m : Ms) (h : n.right m = 0) (hk : 1 ≤ m.kind ∧ m.kind ≤ 6) : (n.step m).1 = n.led (n.does m) := by
 unfold Nd.step
 rw [if_neg (fun e => e h), Nd.does_hear hk]
theorem right_kind {n : Nd} {m : Ms} (h : n.right m = 0) : 1 ≤ m.kind ∧ m.kind ≤ 6 := by
 obtain ⟨h1, -, -, h2, -⟩ := Nd.right_ok h
 refine ⟨?_, h2⟩
 by_cases e : m.kind < 1
 ·unfold chkM at h1
  rw [if_pos (.inl e)] at h1
  cases h1
 ·omega
theorem Kn.step (h : Kn c n) (hm : Km c m) : KR (c + 1) (n.step m).1 := by
 by_cases e : n.right m = 0
 ·rw [step_is n m e (right_kind e)]
  exact (h.does hm).led
 ·unfold Nd.step
  rw [if_pos e]
  exact KR.no (h.mono (by omega))
end
def KG (c : Nat) (s : Gs) : Prop := (∀ n ∈ s.ns, Kn c n) ∧ ∀ m ∈ s.ms, Km c m
theorem KG.mono {c d : Nat} {s : Gs} (h : KG c s) (hd : c ≤ d) : KG d s := ⟨fun n q => (h.1 n q).mono hd, fun m q => (h.2 m q).mono hd⟩
theorem KG.node {c j : Nat} {s : Gs} (h : KG c s) {r : Nd × List Ms} (hr : KR c r) (hx : NxB r.1) : KG c (({ s with ns := s.ns.set j r.1 } : Gs).send r.2) := by
 have h1 : ∀ n ∈ s.ns.set j r.1, Kn c n := fun n q => (List.mem_or_eq_of_mem_set q).elim (h.1 n) fun e => e ▸ hr.1
 unfold Gs.send
 split
 ·exact ⟨h1, fun m q => (List.mem_append.1 q).elim (h.2 m) (hr.2 hx m)⟩
 ·exact ⟨h1, h.2⟩
theorem send_ns (s : Gs) (l : List Ms) : (s.send l).ns = s.ns := by unfold Gs.send; split <;> rfl
theorem Safe.nx {many j : Nat} {s : Gs} (h : Safe many s) (hj : j < many) : NxB (s.ns.getD j default) := by
 obtain ⟨hid, g, hg, hn, hm⟩ := h
 exact (hn j hj).nx
theorem Safe.nxAt {many j : Nat} {s : Gs} {l : List Ms} {n : Nd} (h : Safe many (({ s with ns := s.ns.set j n } : Gs).send l)) (hj : j < many) (hl : s.ns.length = many) : NxB n := by
 have := h.nx hj
 rw [send_ns] at this
 have e : (s.ns.set j n).getD j default = n := by rw [List.getD_eq_getElem?_getD, List.getElem?_set_self (by omega)]; rfl
 rw [e] at this
 exact this
theorem Safe.play {many : Nat} {s : Gs} (h : Safe many s) (h16 : many ≤ 16) (d k : Int) : Safe many (s.play d k) := by
 have hl := h.ids.1
 unfold Gs.play
 split
 ·exact h
 ·rename_i hno
  dsimp only
  split
  ·exact h.timeout h16 (by omega)
  ·split
   ·exact h.arrive h16 (by omega)
   ·split
    ·exact h.beat (by omega)
    ·split
     ·have := h.propose h16 (j := k.toNat) (by omega) 1 [UInt8.ofNat (s.many + 1).toNat]
      exact ⟨⟨this.ids.1, this.ids.2⟩, this.gh⟩
     ·split
      ·exact ⟨⟨h.ids.1, h.ids.2⟩, h.gh⟩
      ·exact h
theorem KG.arrive {c many : Nat} {s : Gs} (h : KG c s) (hs : Safe many s) (h16 : many ≤ 16) {k : Nat} (hk : k < s.ms.length) : KG (c + 1) (s.arrive k) := by
 have hn := hs.arrive h16 hk
 have hl := hs.ids.1
 unfold Gs.arrive at hn ⊢
 dsimp only at hn ⊢
 split
 ·exact h.mono (by omega)
 ·rename_i q
  rw [if_neg q] at hn
  have hj : (s.ms.getD k zMs).dst.toNat < many := by omega
  exact (h.mono (by omega)).node (((h.1 _ (GJ.getD_mem (by omega))).step (h.2 _ (GJ.getD_mem hk)))) (hn.nxAt hj hl)
theorem KG.play {c many : Nat} {s : Gs} (h : KG c s) (hs : Safe many s) (h16 : many ≤ 16) (d k : Int) : KG (c + 1) (s.play d k) := by
 have hn := hs.play h16 d k
 have hl := hs.ids.1
 unfold Gs.play at hn ⊢
 split
 ·exact h.mono (by omega)
 ·rename_i hno
  rw [if_neg hno] at hn
  dsimp only at hn ⊢
  split
  ·rename_i d1
   rw [if_pos d1] at hn
   exact (h.mono (by omega)).node ((h.1 _ (GJ.getD_mem (by omega))).timeout) (hn.nxAt (by omega) hl)
  ·split
   ·exact h.arrive hs h16 (by omega)
   ·split
    ·have h1 := (h.1 _ (GJ.getD_mem (l := s.ns) (i := k.toNat) (d := default) (by omega)))
     have := h.node (s := s) (j := k.toNat) (r := (s.ns.getD k.toNat default, (s.ns.getD k.toNat default).beat)) ⟨h1, fun hx => h1.beat hx⟩ (hs.nx (by omega))
     dsimp only at this
     rw [set_same] at this
     exact this.mono (by omega)
    ·split
     ·have h1 := (h.1 _ (GJ.getD_mem (l := s.ns) (i := k.toNat) (d := default) (by omega)))
      exact ⟨fun n q => (List.mem_or_eq_of_mem_set q).elim (fun q => (h.1 n q).mono (by omega)) fun e => e ▸ h1.propose _ _, fun m q => (h.2 m q).mono (by omega)⟩
     ·split
      ·exact ⟨fun n q => (h.1 n q).mono (by omega), fun m q => (h.2 m q).mono (by omega)⟩
      ·exact h.mono (by omega)
theorem S0_kg {many : Nat} (h5 : many ≤ 5) : KG 0 (S0 many) := by
 refine ⟨fun n hn => ?_, fun m hm => by cases hm⟩
 obtain ⟨i, hi, rfl⟩ := List.mem_map.1 hn
 obtain ⟨j, rfl, hj⟩ := cfN_mem hi
 exact ⟨⟨by show (0 : Int) ≤ ((j : Nat) : Int); omega, by show ((j : Nat) : Int) ≤ 15; omega⟩, rfl, rfl, fun e => absurd (show (0 : Int) = 3 from e) (by decide), ⟨rfl, rfl⟩, Nat.le_refl _, fun x hx => by cases hx⟩
end Go.Proofs.Ytmjccpfchhnfhaa
/- Raft heals, plainly (2): a round: one node asks or beats, all that is sent arrives; what is so all the time. -/
namespace Go.Proofs.Ytmjccpfchhnfhaa
set_option linter.unusedVariables false
set_option linter.unusedSimpArgs false
def toK (w k : Nat) (m : Ms) : Prop := m.src = ((w : Nat) : Int) ∧ m.dst = ((k : Nat) : Int) ∧ (m.kind = 1 ∨ m.kind = 3 ∨ m.kind = 5)
def ofK (w k : Nat) (m : Ms) : Prop := m.src = ((k : Nat) : Int) ∧ m.dst = ((w : Nat) : Int) ∧ (m.kind = 2 ∨ m.kind = 4 ∨ m.kind = 6)
def slt (m : Ms) : Int := if m.kind = 2 then 1 else if m.kind = 4 then 3 else if m.kind = 6 then 5 else m.kind
def oth (w : Nat) (m : Ms) : Int := if m.src = ((w : Nat) : Int) then m.dst else m.src
def SameK (w : Nat) (a b : Ms) : Prop := slt a = slt b ∧ oth w a = oth w b
abbrev Qs := List (Ms × Nat)
def tot (q : Qs) : Nat := (q.map Prod.snd).sum
theorem tot_cons (x : Ms × Nat) (q : Qs) : tot (x :: q) = x.2 + tot q := by unfold tot; simp
theorem tot_app (q r : Qs) : tot (q ++ r) = tot q + tot r := by unfold tot; simp
theorem tot_nil : tot [] = 0 := rfl
def fz (nx mt L : Nat) : Nat := if nx = mt + 1 then 2 * (L + 1 - mt) + 2 else 2 * nx + 2 * (L + 1) + 4
def stg (many Lm : Nat) (r : Int) : Nat := if r = 1 then (many - 1) * (2 + (4 * Lm + 8)) else if r = 2 then (many - 1) * (4 * Lm + 8) else 0
def Ack (n : Nd) (k : Nat) (m : Ms) (c : Nat) : Prop := n.tm < m.tm ∨ (m.tm = n.tm ∧ ((m.ok = false ∧ n.mat.getD k 0 + 1 < n.next.getD k 0 ∧ m.index + 1 = n.next.getD k 0) ∨ (m.ok = true ∧ m.index = min n.log.es.length (n.next.getD k 0 + 7))) ∧ fz (n.next.getD k 0) (n.mat.getD k 0) n.log.es.length ≤ c + 1)
structure RdW (many w Lm : Nat) (T : Nat → Nd) (q : Qs) (b : Nat) : Prop where
 ad : ∀ x ∈ q, ∃ k, k < many ∧ k ≠ w ∧ (toK w k x.1 ∨ ofK w k x.1)
 uq : q.Pairwise fun a b => ¬ SameK w a.1 b.1
 cr : ∀ x ∈ q, 1 ≤ x.2 ∧ (x.1.kind = 1 ∨ x.1.kind = 3 ∨ x.1.kind = 5 → 2 ≤ x.2)
 c5 : (T w).role = 3 → ∀ x ∈ q, ∀ k, toK w k x.1 → x.1.kind = 5 → x.1.tm = (T w).tm ∧ x.1.index + 1 = (T w).next.getD k 0 ∧ x.1.es = (T w).log.slice ((T w).next.getD k 0) 8 ∧ fz ((T w).next.getD k 0) ((T w).mat.getD k 0) (T w).log.es.length ≤ x.2
 c6 : (T w).role = 3 → ∀ x ∈ q, ∀ k, ofK w k x.1 → x.1.kind = 6 → Ack (T w) k x.1 x.2
 nc : (T w).role = 1 ∨ (T w).role = 2 → ∀ x ∈ q, x.1.kind ≠ 5 ∧ x.1.kind ≠ 6
 n1 : (T w).role = 1 → ∀ x ∈ q, x.1.kind ≠ 1 ∧ x.1.kind ≠ 2
 p5 : ∀ x ∈ q, ∀ k, toK w k x.1 → (x.1.kind = 5 → x.1.tm ≤ (T w).tm ∧ x.1.index + x.1.es.length ≤ (T w).log.es.length ∧ x.1.prev = tA (T w).log.es x.1.index ∧ ∀ i (hi : i < x.1.es.length), (T w).log.es[x.1.index + i]? = some x.1.es[i]) ∧ (x.1.kind = 3 → x.1.tm ≤ (T w).tm + 1) ∧ (x.1.kind = 1 → x.1.tm ≤ (T w).tm)
 nw : ∀ k, k < many → Nwr (T w).log.es (T k).log.es
 inf : ∀ k, k < many → k ≠ w → (T k).tm ≤ (T w).tm ∨ ∃ x ∈ q, (toK w k x.1 ∧ x.1.kind ≠ 1) ∨ (ofK w k x.1 ∧ (x.1.kind = 6 ∨ (x.1.kind = 4 ∧ x.1.ok = false)) ∧ (T k).tm ≤ x.1.tm)
 a1 : (T w).role = 1 → agrI (cfN many) [((w : Nat) : Int)] = false
 bud : tot q + stg many Lm (T w).role ≤ b
 pv : ∀ x ∈ q, x.1.prev < 1152921504606846976
 lm : (T w).log.es.length ≤ Lm ∧ ((T w).role = 1 ∨ (T w).role = 2 → (T w).log.es.length + 1 ≤ Lm)
structure RdS (many w cm : Nat) (cq : Prop) (lg : Option Lg) (T : Nat → Nd) (q : Qs) : Prop where
 s1 : ∀ k, k < many → (T k).tm ≤ (T w).tm
 s2 : ∀ x ∈ q, ∀ k, ofK w k x.1 → x.1.tm ≤ (T w).tm ∨ (x.1.kind = 4 ∧ x.1.ok = true)
 s3 : (T w).role ≠ 0
 s4 : (T w).role = 1 → ((w : Nat) : Int) ∈ (T w).yes ∧ agrI (cfN many) (T w).yes = false ∧ ∀ k, k < many → k ≠ w → (T k).heard = false ∧ (((k : Nat) : Int) ∈ (T w).yes ∨ ∃ x ∈ q, (toK w k x.1 ∧ x.1.kind = 3 ∧ x.1.tm = (T w).tm + 1 ∧ x.1.index = (T w).log.es.length ∧ x.1.prev = tA (T w).log.es (T w).log.es.length) ∨ (ofK w k x.1 ∧ x.1.kind = 4 ∧ x.1.ok = true ∧ x.1.tm = (T w).tm + 1))
 s5 : (T w).role = 2 → ((w : Nat) : Int) ∈ (T w).yes ∧ agrI (cfN many) (T w).yes = false ∧ ∀ k, k < many → k ≠ w → (((k : Nat) : Int) ∈ (T w).yes ∨ ∃ x ∈ q, (toK w k x.1 ∧ x.1.kind = 1 ∧ x.1.tm = (T w).tm ∧ x.1.index = (T w).log.es.length ∧ x.1.prev = tA (T w).log.es (T w).log.es.length ∧ (T k).tm < (T w).tm) ∨ (ofK w k x.1 ∧ x.1.kind = 2 ∧ x.1.ok = true ∧ x.1.tm = (T w).tm))
 s6 : (T w).role = 3 → ∀ k, k < many → k ≠ w → ((T w).mat.getD k 0 = (T w).log.es.length ∧ (T w).next.getD k 0 = (T w).log.es.length + 1) ∨ ∃ x ∈ q, (toK w k x.1 ∧ x.1.kind = 5) ∨ (ofK w k x.1 ∧ x.1.kind = 6)
 s7 : (T w).role = 3 → (∃ x ∈ q, x.1.kind = 5 ∨ x.1.kind = 6) ∨ (T w).log.es.length ≤ (T w).commit ∨ cq
 s8 : ∀ k, k < many → k ≠ w → cm ≤ (T k).commit ∨ ∃ x ∈ q, toK w k x.1 ∧ x.1.kind = 5 ∧ cm ≤ x.1.commit ∧ cm ≤ x.1.index ∧ (T w).mat.getD k 0 + 1 = (T w).next.getD k 0
 s9 : ∀ l, lg = some l → (T w).role = 3 ∧ (T w).log = l
section
variable {many w Lm cm c b : Nat} {cq : Prop} {lg : Option Lg} {T : Nat → Nd} {q : Qs} {m m' : Ms} {k : Nat} {n' : Nd}
theorem toK.kind (h : toK w k m) : m.kind = 1 ∨ m.kind = 3 ∨ m.kind = 5 := h.2.2
theorem toK.not (h : toK w k m) {j : Nat} (hj : j ≠ w) : ¬ ofK w j m := fun e => by have h1 := h.1; rw [e.1] at h1; exact hj (by omega)
theorem toK.eq {j : Nat} (h : toK w k m) (h' : toK w j m) : k = j := by have h1 := h.2.1; rw [h'.2.1] at h1; omega
theorem ofK.eq {j : Nat} (h : ofK w k m) (h' : ofK w j m) : k = j := by have h1 := h.1; rw [h'.1] at h1; omega
theorem slt_to (h : toK w k m) : slt m = m.kind ∧ oth w m = ((k : Nat) : Int) := by
 refine ⟨?_, ?_⟩
 ·unfold slt
  rcases h.2.2 with e | e | e <;> rw [e] <;> decide
 ·unfold oth
  rw [if_pos h.1]; exact h.2.1
theorem slt_of (h : ofK w k m) (hk : k ≠ w) : slt m = m.kind - 1 ∧ oth w m = ((k : Nat) : Int) := by
 refine ⟨?_, ?_⟩
 ·unfold slt
  rcases h.2.2 with e | e | e <;> rw [e] <;> decide
 ·unfold oth
  rw [if_neg (by rw [h.1]; omega)]; exact h.1
theorem RdW.reply (h : RdW many w Lm T ((m, c) :: q) b) (hk : k < many) (hkw : k ≠ w) (hm : toK w k m) (hm' : ofK w k m') (hkind : m'.kind = m.kind + 1)
  (hn : Nwr (T w).log.es n'.log.es)
  (hi : n'.tm ≤ (T w).tm ∨ ((m'.kind = 6 ∨ (m'.kind = 4 ∧ m'.ok = false)) ∧ n'.tm ≤ m'.tm) ∨ (n'.tm ≤ (T k).tm ∧ m.kind = 1))
  (hpv : m'.prev < 1152921504606846976) (h6 : (T w).role = 3 → m.kind = 5 → Ack (T w) k m' (c - 1)) : RdW many w Lm (upd T k n') (q ++ [(m', c - 1)]) (b - 1) := by
 have ew : upd T k n' w = T w := upd_ne _ _ (fun e => hkw e.symm)
 have hc := h.cr (m, c) (List.mem_cons_self ..)
 have hc2 : 2 ≤ c := hc.2 hm.2.2
 have hq : ∀ x ∈ q, x ∈ (m, c) :: q := fun x hx => List.mem_cons_of_mem _ hx
 obtain ⟨u1, u2⟩ := List.pairwise_cons.1 h.uq
 have nto : ∀ j, ¬ toK w j m' := fun j e => by have h1 := e.1; rw [hm'.1] at h1; exact hkw (by omega)
 refine ⟨fun x hx => ?_, List.pairwise_append.2 ⟨u2, List.pairwise_singleton _ _, fun x hx y hy => ?_⟩, fun x hx => ?_, fun hr x hx j hj h5 => ?_, fun hr x hx j hj h5 => ?_, fun hr x hx => ?_, fun hr x hx => ?_, fun x hx j hj => ?_, fun j hj => ?_, fun j hj hjw => ?_, ?_, ?_, fun x hx => ?_, ?_⟩
 ·rcases List.mem_append.1 hx with hx | hx
  ·exact h.ad x (hq x hx)
  ·rw [List.mem_singleton.1 hx]; exact ⟨k, hk, hkw, .inr hm'⟩
 ·rw [List.mem_singleton.1 hy]
  intro e
  refine u1 x hx ⟨?_, ?_⟩
  ·rw [(slt_to hm).1]; rw [e.1, (slt_of hm' hkw).1, hkind]; omega
  ·rw [(slt_to hm).2, e.2, (slt_of hm' hkw).2]
 ·rcases List.mem_append.1 hx with hx | hx
  ·exact h.cr x (hq x hx)
  ·rw [List.mem_singleton.1 hx]
   refine ⟨by show 1 ≤ c - 1; omega, fun e => ?_⟩
   have e' : m'.kind = 1 ∨ m'.kind = 3 ∨ m'.kind = 5 := e
   rcases hm'.2.2 with a | a | a <;> omega
 ·rw [ew] at hr ⊢
  rcases List.mem_append.1 hx with hx | hx
  ·exact h.c5 hr x (hq x hx) j hj h5
  ·rw [List.mem_singleton.1 hx] at hj; exact absurd hj (nto j)
 ·rw [ew] at hr ⊢
  rcases List.mem_append.1 hx with hx | hx
  ·exact h.c6 hr x (hq x hx) j hj h5
  ·rw [List.mem_singleton.1 hx] at hj h5 ⊢
   rw [← hm'.eq hj]
   have h5' : m'.kind = 6 := h5
   exact h6 hr (by omega)
 ·rw [ew] at hr
  rcases List.mem_append.1 hx with hx | hx
  ·exact h.nc hr x (hq x hx)
  ·rw [List.mem_singleton.1 hx]
   have h1 := h.nc hr (m, c) (List.mem_cons_self ..)
   have h2 : m.kind ≠ 5 := h1.1
   refine ⟨?_, ?_⟩
   ·show m'.kind ≠ 5
    rcases hm'.2.2 with a | a | a <;> omega
   ·show m'.kind ≠ 6
    omega
 ·rw [ew] at hr
  rcases List.mem_append.1 hx with hx | hx
  ·exact h.n1 hr x (hq x hx)
  ·rw [List.mem_singleton.1 hx]
   have h1 := h.n1 hr (m, c) (List.mem_cons_self ..)
   have h2 : m.kind ≠ 1 := h1.1
   refine ⟨?_, ?_⟩
   ·show m'.kind ≠ 1
    rcases hm'.2.2 with a | a | a <;> omega
   ·show m'.kind ≠ 2
    omega
 ·rw [ew]
  rcases List.mem_append.1 hx with hx | hx
  ·exact h.p5 x (hq x hx) j hj
  ·rw [List.mem_singleton.1 hx] at hj; exact absurd hj (nto j)
 ·rw [ew]
  by_cases e : j = k
  ·subst e; rw [upd_self]; exact hn
  ·rw [upd_ne _ _ e]; exact h.nw j hj
 ·rw [ew]
  by_cases e : j = k
  ·subst e
   rw [upd_self]
   rcases hi with a | a | a
   ·exact .inl a
   ·exact .inr ⟨(m', c - 1), by simp, .inr ⟨hm', a⟩⟩
   ·rcases h.inf j hj hjw with d | ⟨x, hx, d⟩
    ·exact .inl (by omega)
    ·rcases List.mem_cons.1 hx with hx | hx
     ·subst hx
      rcases d with d | d
      ·exact absurd a.2 d.2
      ·exact absurd d.1 (hm.not hjw)
     ·refine .inr ⟨x, List.mem_append_left _ hx, ?_⟩
      rcases d with d | d
      ·exact .inl d
      ·exact .inr ⟨d.1, d.2.1, by omega⟩
  ·rw [upd_ne _ _ e]
   rcases h.inf j hj hjw with d | ⟨x, hx, d⟩
   ·exact .inl d
   ·rcases List.mem_cons.1 hx with hx | hx
    ·subst hx
     rcases d with d | d
     ·exact absurd (hm.eq d.1) (fun k => e k.symm)
     ·exact absurd d.1 (hm.not hjw)
    ·exact .inr ⟨x, List.mem_append_left _ hx, d⟩
 ·rw [ew]; exact h.a1
 ·rw [ew, tot_app, tot_cons, tot_nil]
  have := h.bud
  rw [tot_cons] at this
  show tot q + (c - 1 + 0) + _ ≤ _
  have h2 : (m, c).2 = c := rfl
  omega
 ·rcases List.mem_append.1 hx with hx | hx
  ·exact h.pv x (hq x hx)
  ·rw [List.mem_singleton.1 hx]; exact hpv
 ·rw [ew]; exact h.lm
theorem RdS.reply (h : RdS many w cm cq lg T ((m, c) :: q)) (hu : ∀ x ∈ q, ¬ SameK w m x.1) (hk : k < many) (hkw : k ≠ w) (hm : toK w k m) (hm' : ofK w k m') (hkind : m'.kind = m.kind + 1)
  (h1 : n'.tm ≤ (T w).tm) (h2 : m'.tm ≤ (T w).tm ∨ (m'.kind = 4 ∧ m'.ok = true))
  (h4 : (T w).role = 1 → n'.heard = (T k).heard ∧ (m.kind = 3 → (T k).heard = false → m.tm = (T w).tm + 1 → m.index = (T w).log.es.length → m.prev = tA (T w).log.es (T w).log.es.length → m'.ok = true ∧ m'.tm = (T w).tm + 1))
  (h5 : (T w).role = 2 → m.kind = 1 → m.tm = (T w).tm → m.index = (T w).log.es.length → m.prev = tA (T w).log.es (T w).log.es.length → (T k).tm < (T w).tm → m'.ok = true ∧ m'.tm = (T w).tm)
  (h5' : (T w).role = 2 → m.kind ≠ 1 → n'.tm = (T k).tm)
  (h8 : (T k).commit ≤ n'.commit ∧ (m.kind = 5 → cm ≤ m.commit → cm ≤ m.index → (T w).mat.getD k 0 + 1 = (T w).next.getD k 0 → cm ≤ n'.commit)) : RdS many w cm cq lg (upd T k n') (q ++ [(m', c - 1)]) := by
 have ew : upd T k n' w = T w := upd_ne _ _ (fun e => hkw e.symm)
 have nto : ∀ j, ¬ toK w j m' := fun j e => by have h1 := e.1; rw [hm'.1] at h1; exact hkw (by omega)
 have mv : ∀ {x : Ms × Nat}, x ∈ q → x ∈ q ++ [(m', c - 1)] := fun hx => List.mem_append_left _ hx
 have mn : (m', c - 1) ∈ q ++ [(m', c - 1)] := by simp
 refine ⟨fun j hj => ?_, fun x hx j hj => ?_, by rw [ew]; exact h.s3, fun hr => ?_, fun hr => ?_, fun hr j hj hjw => ?_, fun hr => ?_, fun j hj hjw => ?_, by rw [ew]; exact h.s9⟩
 ·rw [ew]
  by_cases e : j = k
  ·subst e; rw [upd_self]; exact h1
  ·rw [upd_ne _ _ e]; exact h.s1 j hj
 ·rw [ew]
  rcases List.mem_append.1 hx with hx | hx
  ·exact h.s2 x (List.mem_cons_of_mem _ hx) j hj
  ·rw [List.mem_singleton.1 hx]; exact h2
 ·rw [ew] at hr ⊢
  obtain ⟨a1, a2, a3⟩ := h.s4 hr
  refine ⟨a1, a2, fun j hj hjw => ?_⟩
  obtain ⟨a4, a5⟩ := a3 j hj hjw
  by_cases e : j = k
  ·subst e
   rw [upd_self]
   obtain ⟨b1, b2⟩ := h4 hr
   refine ⟨b1.trans a4, a5.imp_right fun ⟨x, hx, d⟩ => ?_⟩
   rcases List.mem_cons.1 hx with hx | hx
   ·subst hx
    rcases d with d | d
    ·have := b2 d.2.1 a4 d.2.2.1 d.2.2.2.1 d.2.2.2.2
     have hk3 : m.kind = 3 := d.2.1
     exact ⟨_, mn, .inr ⟨hm', by show m'.kind = 4; omega, this⟩⟩
    ·exact absurd d.1 (hm.not hjw)
   ·exact ⟨x, mv hx, d⟩
  ·rw [upd_ne _ _ e]
   refine ⟨a4, a5.imp_right fun ⟨x, hx, d⟩ => ?_⟩
   rcases List.mem_cons.1 hx with hx | hx
   ·subst hx
    rcases d with d | d
    ·exact absurd (hm.eq d.1) (fun k => e k.symm)
    ·exact absurd d.1 (hm.not hjw)
   ·exact ⟨x, mv hx, d⟩
 ·rw [ew] at hr ⊢
  obtain ⟨a1, a2, a3⟩ := h.s5 hr
  refine ⟨a1, a2, fun j hj hjw => (a3 j hj hjw).imp_right fun ⟨x, hx, d⟩ => ?_⟩
  rcases List.mem_cons.1 hx with hx | hx
  ·subst hx
   rcases d with d | d
   ·have ej : j = k := (hm.eq d.1).symm
    subst ej
    have := h5 hr d.2.1 d.2.2.1 d.2.2.2.1 d.2.2.2.2.1 d.2.2.2.2.2
    have hk3 : m.kind = 1 := d.2.1
    exact ⟨_, mn, .inr ⟨hm', by show m'.kind = 2; omega, this⟩⟩
   ·exact absurd d.1 (hm.not hjw)
  ·refine ⟨x, mv hx, d.imp_left fun d => ⟨d.1, d.2.1, d.2.2.1, d.2.2.2.1, d.2.2.2.2.1, ?_⟩⟩
   by_cases e : j = k
   ·subst e
    rw [upd_self]
    by_cases e1 : m.kind = 1
    ·refine absurd ⟨?_, ?_⟩ (hu x hx)
     ·rw [(slt_to hm).1, (slt_to d.1).1, e1, d.2.1]
     ·rw [(slt_to hm).2, (slt_to d.1).2]
    ·rw [h5' hr e1]; exact d.2.2.2.2.2
   ·rw [upd_ne _ _ e]; exact d.2.2.2.2.2
 ·rw [ew] at hr ⊢
  refine (h.s6 hr j hj hjw).imp_right fun ⟨x, hx, d⟩ => ?_
  rcases List.mem_cons.1 hx with hx | hx
  ·subst hx
   rcases d with d | d
   ·have ej : j = k := (hm.eq d.1).symm
    subst ej
    have hk3 : m.kind = 5 := d.2
    exact ⟨_, mn, .inr ⟨hm', by show m'.kind = 6; omega⟩⟩
   ·exact absurd d.1 (hm.not hjw)
  ·exact ⟨x, mv hx, d⟩
 ·rw [ew] at hr ⊢
  refine (h.s7 hr).imp_left fun ⟨x, hx, d⟩ => ?_
  rcases List.mem_cons.1 hx with hx | hx
  ·subst hx
   have d' : m.kind = 5 ∨ m.kind = 6 := d
   refine ⟨_, mn, .inr ?_⟩
   show m'.kind = 6
   rcases hm.2.2 with a | a | a <;> omega
  ·exact ⟨x, mv hx, d⟩
 ·by_cases e : j = k
  ·subst e
   rw [upd_self]
   rcases h.s8 j hj hjw with d | ⟨x, hx, d⟩
   ·exact .inl (by have := h8.1; omega)
   ·rcases List.mem_cons.1 hx with hx | hx
    ·subst hx
     exact .inl (h8.2 d.2.1 d.2.2.1 d.2.2.2.1 d.2.2.2.2)
    ·exact .inr ⟨x, mv hx, by rw [ew]; exact d⟩
  ·rw [upd_ne _ _ e]
   refine (h.s8 j hj hjw).imp_right fun ⟨x, hx, d⟩ => ?_
   rcases List.mem_cons.1 hx with hx | hx
   ·subst hx; exact absurd (hm.eq d.1) (fun k => e k.symm)
   ·exact ⟨x, mv hx, by rw [ew]; exact d⟩
end
end Go.Proofs.Ytmjccpfchhnfhaa
/- Raft heals, plainly (3): a message of the round comes to one that is asked, or follows. -/
namespace Go.Proofs.Ytmjccpfchhnfhaa
set_option linter.unusedVariables false
set_option linter.unusedSimpArgs false
theorem led_no {n : Nd} {r : Nd × List Ms} (h : (r.1.role = n.role ∧ r.1.tm = n.tm) ∨ r.1.role ≠ 3) : n.led r = r := by
 unfold Nd.led
 rw [if_neg]
 rintro ⟨a, b⟩
 rcases h with h | h
 ·rcases b with b | b
  ·exact b (h.1 ▸ a)
  ·exact b h.2
 ·exact h a
section
variable {n : Nd} {m : Ms}
theorem asked (h : m.kind = 1 ∨ m.kind = 3) : ∃ n' ok t, n.led (n.does m) = (n', [{ zMs with kind := m.kind + 1, src := n.me, dst := m.src, tm := t, ok := ok }]) ∧ n'.log = n.log ∧ n'.commit = n.commit ∧ n'.heard = n.heard ∧
  (m.kind = 3 → n'.tm = n.tm ∧ (ok = true → n.tm < m.tm ∧ t = m.tm) ∧ (ok = false → t = n.tm) ∧ (n.log.newer m.prev m.index = true → n.tm < m.tm → n.heard = false → ok = true)) ∧
  (m.kind = 1 → n'.tm = max n.tm m.tm ∧ t = n'.tm ∧ (n.log.newer m.prev m.index = true → n.tm < m.tm → ok = true)) := by
 have hd : n.does m = n.onAsk m := if_pos h
 rw [hd]
 obtain ⟨n1, hn1, e⟩ : ∃ n1, n1 = (if m.kind = 1 ∧ n.tm < m.tm then n.follow m.tm (-1) else n) ∧ n.onAsk m = (if (n1.log.newer m.prev m.index && n1.would m) = true ∧ m.kind = 1 then { n1 with vote := m.src } else n1, [{ zMs with kind := m.kind + 1, src := n.me, dst := m.src, tm := if (n1.log.newer m.prev m.index && n1.would m) = true ∧ m.kind = 3 then m.tm else n1.tm, ok := n1.log.newer m.prev m.index && n1.would m }]) := ⟨_, rfl, if_pos h⟩
 rw [e]
 obtain ⟨ok, hok⟩ : ∃ x, (n1.log.newer m.prev m.index && n1.would m) = x := ⟨_, rfl⟩
 rw [hok]
 rcases h with h | h
 ·have k3 : ¬ (ok = true ∧ m.kind = 3) := fun k => by have := k.2; rw [h] at this; cases this
  rw [if_neg k3]
  by_cases ht : n.tm < m.tm
  ·rw [if_pos ⟨h, ht⟩] at hn1
   have f : n1 = { n with tm := m.tm, vote := -1, role := 0, ld := -1, yes := [] } := hn1.trans (if_pos ht)
   have wd : n1.would m = true := by
    unfold Nd.would
    rw [if_neg (by rw [h]; decide), f]
    simp
   have hn : ∀ x : Nd × List Ms, x.1.role = 0 → n.led x = x := fun x hx => led_no (.inr (by rw [hx]; decide))
   rw [hn _ (by show (if _ then _ else _ : Nd).role = 0; split <;> (rw [f]))]
   refine ⟨_, _, _, rfl, ?_, ?_, ?_, fun k => (by rw [h] at k; cases k), fun _ => ⟨?_, ?_, fun k _ => ?_⟩⟩
   ·split <;> rw [f]
   ·split <;> rw [f]
   ·split <;> rw [f]
   ·split <;> rw [f] <;> (show m.tm = _; omega)
   ·split <;> rfl
   ·rw [← hok, wd, f]
    rw [k]; rfl
  ·rw [if_neg (fun k => ht k.2)] at hn1
   subst hn1
   rw [led_no (.inl (by show (if _ then _ else _ : Nd).role = _ ∧ (if _ then _ else _ : Nd).tm = _; split <;> exact ⟨rfl, rfl⟩))]
   refine ⟨_, _, _, rfl, by split <;> rfl, by split <;> rfl, by split <;> rfl, fun k => (by rw [h] at k; cases k), fun _ => ⟨?_, ?_, fun _ k => absurd k ht⟩⟩
   ·split <;> (show n1.tm = _; omega)
   ·split <;> rfl
 ·have k1 : ¬ (m.kind = 1 ∧ n.tm < m.tm) := fun k => by have := k.1; rw [h] at this; cases this
  rw [if_neg k1] at hn1
  subst hn1
  have k2 : ¬ (ok = true ∧ m.kind = 1) := fun k => by have := k.2; rw [h] at this; cases this
  have hn : ∀ l, n1.led (n1, l) = (n1, l) := fun l => led_no (.inl ⟨rfl, rfl⟩)
  rw [if_neg k2, hn]
  have wd : n1.would m = (decide (n1.tm < m.tm) && !n1.heard) := if_pos h
  refine ⟨_, _, _, rfl, rfl, rfl, rfl, fun _ => ⟨rfl, fun k => ⟨?_, if_pos ⟨k, h⟩⟩, fun k => if_neg (fun k2 => by rw [k] at k2; cases k2.1), fun k1 k2 k3 => ?_⟩, fun k => (by rw [h] at k; cases k)⟩
  ·rw [wd, k] at hok
   simp at hok
   exact hok.2.1
  ·rw [← hok, wd, k1, decide_eq_true k2, k3]; rfl
theorem taking (h : m.kind = 5) : n.led (n.does m) = n.onAppend m := by
 have hd : n.does m = n.onAppend m := by
  unfold Nd.does
  rw [if_neg (by omega), if_neg (by omega), if_pos h]
 rw [hd]
 refine led_no ?_
 unfold Nd.onAppend
 rw [if_neg (fun k => k h)]
 split
 ·exact .inl ⟨rfl, rfl⟩
 ·refine .inr ?_
  unfold Nd.taken
  split
  ·show ¬ (n.follow m.tm m.src).role = 3
   rw [follow_role]; decide
  ·show ¬ (n.follow m.tm m.src).role = 3
   rw [follow_role]; decide
end
end Go.Proofs.Ytmjccpfchhnfhaa
