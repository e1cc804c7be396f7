/- Texts of the proofs, part 37: what the functions that they reach do, walked; no conditions beyond those that each states. -/
import Derived.Test.YtmjccpfchhnfhaaZz12127c9585
set_option linter.unusedVariables false
set_option linter.unusedSimpArgs false
/- Law 13: a group in memory. -/
namespace Go.Proofs.Ytmjccpfchhnfhaa
open Go.RowKit
set_option linter.unusedVariables false
set_option linter.unusedSimpArgs false
structure Rx where
 b : Nat
 rb : Nat
 n : Nd
 ap : Nat
 P : Nat → Prop
abbrev ptrR (x : Rx) : Value := .pointer (some ⟨x.rb, 0, none⟩)
structure G13 [Old] (B : Nat) (X : Nat → Prop) (w : World) (G : Nat) (l : List Rx) (ms : List MV) (tk : List (Value × Nat)) (many : Int) (vn vm vt : Value) : Prop where
 top : w.heap[G]? = some (.cells #[vn, vm, vt, .int .i64 many] 53 (0, 0))
 lg : B ≤ G
 lx : ∀ k, X k → B ≤ k
 gx : ¬ X G
 rn : w.ownsRow B 56 1 vn l.length (l.map ptrR)
 xn : ∀ k, vn.ownBlock = some k → ¬ X k
 rm : OwnMs X B w vm ms
 rt : w.ownsRow B 66 1 vt tk.length (tk.map Prod.fst)
 xt : ∀ k, vt.ownBlock = some k → ¬ X k
 tl : tk.length = l.length
 ts : ∀ x ∈ tk, (∃ xs, w.ownsRow B 70 4 x.1 x.2 xs) ∧ ∀ k, x.1.ownBlock = some k → ¬ X k
 td : tk.Pairwise fun x y => ∀ k, x.1.ownBlock = some k → y.1.ownBlock ≠ some k
 nd : ∀ x ∈ l, PN X x.P w x.b x.n
 dj : l.Pairwise fun x y => ∀ k, x.P k → ¬ y.P k
 rb : ∀ x ∈ l, RB w x.rb x.b x.ap ∧ ¬ X x.rb ∧ B ≤ x.rb
 rd : l.Pairwise fun x y => x.rb ≠ y.rb
 hx : ∀ k, X k → k < w.heap.size
theorem tag_ne {w : World} {B B' : Nat} {e e' : TypeId} {s s' : Nat} {v v' : Value} {n n' : Nat} {xs xs' : List Value} (h : w.ownsRow B e s v n xs) (h' : w.ownsRow B' e' s' v' n' xs') (he : e ≠ e') {k : Nat} (hk : v.ownBlock = some k) : v'.ownBlock ≠ some k := fun hk' => by
 obtain ⟨c1, h1⟩ := own_tag h hk
 obtain ⟨c2, h2⟩ := own_tag h' hk'
 rw [h1] at h2
 cases h2
 exact he rfl
theorem tag_cell {w : World} {B : Nat} {e : TypeId} {s : Nat} {v : Value} {n : Nat} {xs : List Value} {G : Nat} {cs : Array Value} {t : TypeId} {fz : Nat × Nat} (h : w.ownsRow B e s v n xs) (ht : w.heap[G]? = some (.cells cs t fz)) (he : e ≠ t) : v.ownBlock ≠ some G := fun hk => by
 obtain ⟨c1, h1⟩ := own_tag h hk
 rw [h1] at ht
 cases ht
 exact he rfl
section
variable {B : Nat} {X X' P' : Nat → Prop} {w w' : World} {G : Nat} {l : List Rx} {ms : List MV} {tk : List (Value × Nat)} {many : Int} {vn vm vt : Value}
theorem PN.keep [Old] [NoOld] {P : Nat → Prop} {b : Nat} {n : Nd} (h : PN X P w b n) {K : Nat → Obj → Prop} (hf : Fr K w w') (hk : ∀ c o, w.heap[c]? = some o → X c ∨ RO X c o → K c o) : PN X P w' b n := by
 obtain ⟨q, h⟩ := h
 exact ⟨q, h.frK hf fun c o ho hc => hk c o ho (hc.imp (h.px c) id)⟩
theorem offRow [Old] [NoOld] {B' : Nat} {e : TypeId} {s : Nat} {v : Value} {n : Nat} {xs : List Value} (h : w.ownsRow B' e s v n xs) (he : roT e = false) (hx : ∀ k, v.ownBlock = some k → ¬ X k) : ∀ c o, w.heap[c]? = some o → X c ∨ RO X c o → v.ownBlock ≠ some c := fun c o ho hc hk => by
 rcases hc with hc | hc
 ·exact hx c hk hc
 ·obtain ⟨c1, h1⟩ := own_tag h hk
  rw [ho] at h1
  cases h1
  exact hc.ne0 rfl he
theorem offCell [Old] [NoOld] {G : Nat} {cs : Array Value} {t : TypeId} {fz : Nat × Nat} (h : w.heap[G]? = some (.cells cs t fz)) (he : roT t = false) (hx : ¬ X G) : ∀ c o, w.heap[c]? = some o → X c ∨ RO X c o → c ≠ G := fun c o ho hc hk => by
 subst hk
 rcases hc with hc | hc
 ·exact hx hc
 ·rw [ho] at h
  cases h
  exact hc.ne0 rfl he
theorem G13.bs [Old] (h : G13 B X w G l ms tk many vn vm vt) : B ≤ w.heap.size := Nat.le_of_lt (Nat.lt_of_le_of_lt h.lg (lt_of_some h.top))
theorem G13.tt [Old] [NoOld] (h : G13 B X w G l ms tk many vn vm vt) (f : FT w w') : G13 B X w' G l ms tk many vn vm vt :=
 ⟨f.keep _ _ h.top trivial, h.lg, h.lx, h.gx, ownsRow_fr h.rn f fun _ _ _ _ => trivial, h.xn, h.rm.tt f, ownsRow_fr h.rt f fun _ _ _ _ => trivial, h.xt, h.tl, fun x hx => by
  obtain ⟨⟨xs, h1⟩, h2⟩ := h.ts x hx
  exact ⟨⟨xs, ownsRow_fr h1 f fun _ _ _ _ => trivial⟩, h2⟩, h.td, fun x hx => (h.nd x hx).tt f, h.dj, fun x hx => ⟨(h.rb x hx).1.fr f fun _ => trivial, (h.rb x hx).2⟩, h.rd, fun k hk => Nat.lt_of_lt_of_le (h.hx k hk) f.size⟩
theorem G13.turn [Old] [NoOld] (h : G13 B X w G l ms tk many vn vm vt) (i : Nat) (hi : i < l.length) {n' : Nd} (hp : PN X' P' w' l[i].b n') (ha : Aft X l[i].P X' P' w w') : G13 B X' w' G (l.set i ⟨l[i].b, l[i].rb, n', l[i].ap, P'⟩) ms tk many vn vm vt := by
 obtain ⟨q, hq⟩ := hp
 have hx' := hq.hx
 have off : ∀ {k o}, w.heap[k]? = some o → ¬ X k → ¬ l[i].P k ∧ ¬ X' k := fun ho hk => ha.off ho hk
 have row : ∀ {e : TypeId} {s : Nat} {v : Value} {n : Nat} {xs : List Value}, w.ownsRow B e s v n xs → (∀ k, v.ownBlock = some k → ¬ X k) → w'.ownsRow B e s v n xs ∧ ∀ k, v.ownBlock = some k → ¬ X' k := fun hr hk => ⟨ownsRow_fr hr ha.fr fun k o e ho => (off ho (hk k e)).1, fun k e => by
  obtain ⟨cur, ho⟩ := own_tag hr e
  exact (off ho (hk k e)).2⟩
 have e1 : (l.set i ⟨l[i].b, l[i].rb, n', l[i].ap, P'⟩).map ptrR = l.map ptrR := by
  rw [List.map_set]
  apply List.ext_getElem?
  intro j
  rw [List.getElem?_set]
  split
  ·rename_i e
   subst e
   simp [hi]
  ·rfl
 have each : ∀ {Q : Rx → Prop}, (∀ j, (hj : j < l.length) → j ≠ i → Q l[j]) → Q ⟨l[i].b, l[i].rb, n', l[i].ap, P'⟩ → ∀ x ∈ l.set i ⟨l[i].b, l[i].rb, n', l[i].ap, P'⟩, Q x := fun h1 h2 x hx => by
  obtain ⟨j, hj, e⟩ := List.mem_iff_getElem.1 hx
  rw [List.length_set] at hj
  rw [List.getElem_set] at e
  by_cases hij : i = j
  ·rw [if_pos hij] at e
   exact e ▸ h2
  ·rw [if_neg hij] at e
   exact e ▸ h1 j hj (Ne.symm hij)
 have hdj := List.pairwise_iff_getElem.1 h.dj
 have hrd := List.pairwise_iff_getElem.1 h.rd
 have rb' : ∀ x ∈ l, RB w' x.rb x.b x.ap ∧ ¬ X' x.rb ∧ B ≤ x.rb := fun x hx => ⟨ha.fr.keep _ _ (h.rb x hx).1 (off (h.rb x hx).1 (h.rb x hx).2.1).1, (off (h.rb x hx).1 (h.rb x hx).2.1).2, (h.rb x hx).2.2⟩
 have old : ∀ j, (hj : j < l.length) → ∀ k, l[j].P k → k < w.heap.size := fun j hj k hk => by
  obtain ⟨q2, hq2⟩ := h.nd _ (List.getElem_mem hj)
  exact hq2.hx k (hq2.px k hk)
 refine ⟨ha.fr.keep _ _ h.top (off h.top h.gx).1, h.lg, fun k hk => ?_, (off h.top h.gx).2, ?_, (row h.rn h.xn).2, h.rm.aft ha, (row h.rt h.xt).1, (row h.rt h.xt).2, by rw [List.length_set]; exact h.tl, fun x hx => ?_, h.td, ?_, ?_, ?_, ?_, hx'⟩
 ·rcases (ha.xx k).1 hk with q | q
  ·exact h.lx k q
  ·rcases ha.nw k q with q | q
   ·exact h.lx k (ha.hp k q)
   ·exact Nat.le_trans h.bs q
 ·rw [List.length_set, e1]; exact (row h.rn h.xn).1
 ·obtain ⟨⟨xs, h1⟩, h2⟩ := h.ts x hx
  exact ⟨⟨xs, (row h1 h2).1⟩, (row h1 h2).2⟩
 ·refine each (fun j hj hji => ?_) ⟨q, hq⟩
  obtain ⟨q2, hq2⟩ := h.nd _ (List.getElem_mem hj)
  refine ⟨q2, hq2.far ha (fun k hk hk2 => ?_) hx'⟩
  rcases Nat.lt_or_ge i j with hlt | hge
  ·exact hdj i j hi hj hlt k hk2 hk
  ·exact hdj j i hj hi (by omega) k hk hk2
 ·refine pw_set l i _ h.dj (fun j hj hji k hk hk2 => ?_) (fun j hj hji k hk hk2 => ?_)
  ·rcases ha.nw k hk2 with q | q
   ·exact hdj j i hj hi hji k hk q
   ·have := old j hj k hk; omega
  ·rcases ha.nw k hk with q | q
   ·exact hdj i j hi hj hji k q hk2
   ·have := old j hj k hk2; omega
 ·exact each (fun j hj _ => rb' _ (List.getElem_mem hj)) (by have := rb' _ (List.getElem_mem hi); exact this)
 ·exact pw_set l i _ h.rd (fun j hj hji => hrd j i hj hi hji) (fun j hj hji => hrd i j hi hj hji)
theorem G13.msgs [Old] [NoOld] (h : G13 B X w G l ms tk many vn vm vt) {ms' : List MV} {vm' : Value} (hf : Fr (fun k _ => k ≠ G ∧ vm.ownBlock ≠ some k) w w') (ht : w'.heap[G]? = some (.cells #[vn, vm', vt, .int .i64 many] 53 (0, 0))) (hr : OwnMs X B w' vm' ms') : G13 B X w' G l ms' tk many vn vm' vt := by
 have ox := offRow h.rm.row (by decide) h.rm.off
 have og := offCell h.top (by decide) h.gx
 have rw' : ∀ {e : TypeId} {s : Nat} {v : Value} {n : Nat} {xs : List Value}, w.ownsRow B e s v n xs → e ≠ 53 → e ≠ 74 → w'.ownsRow B e s v n xs := fun hv h1 h2 => ownsRow_fr hv hf fun k o e ho => ⟨fun hk => tag_cell hv h.top h1 (hk ▸ e), fun hk => tag_ne hv h.rm.row h2 e hk⟩
 refine ⟨ht, h.lg, h.lx, h.gx, rw' h.rn (by decide) (by decide), h.xn, hr, rw' h.rt (by decide) (by decide), h.xt, h.tl, fun x hx => ?_, h.td, fun x hx => (h.nd x hx).keep hf fun c o ho hc => ⟨og c o ho hc, ox c o ho hc⟩, h.dj, fun x hx => ⟨hf.keep _ _ (h.rb x hx).1 ⟨fun e => ?_, fun e => tag_cell h.rm.row (h.rb x hx).1 (by decide) e⟩, (h.rb x hx).2⟩, h.rd, fun k hk => Nat.lt_of_lt_of_le (h.hx k hk) hf.size⟩
 ·obtain ⟨⟨xs, h1⟩, h2⟩ := h.ts x hx
  exact ⟨⟨xs, rw' h1 (by decide) (by decide)⟩, h2⟩
 ·have h1 := (h.rb x hx).1
  unfold RB at h1
  rw [e, h.top] at h1
  cases h1
theorem G13.count [Old] [NoOld] (h : G13 B X w G l ms tk many vn vm vt) (many' : Int) (e : w.setCell ⟨G, 3, none⟩ (.int .i64 many') = w') : G13 B X w' G l ms tk many' vn vm vt ∧ Fr (fun k _ => k ≠ G) w w' := by
 have f : Fr (fun k _ => k ≠ G) w w' := e ▸ (Fr.refl _ _).setCell (fun _ _ h => h rfl) _
 have og := offCell h.top (by decide) h.gx
 have rw' : ∀ {e : TypeId} {s : Nat} {v : Value} {n : Nat} {xs : List Value}, w.ownsRow B e s v n xs → e ≠ 53 → w'.ownsRow B e s v n xs := fun hv h1 => ownsRow_fr hv f fun k o e ho hk => tag_cell hv h.top h1 (hk ▸ e)
 refine ⟨⟨by rw [← e]; exact heap_setCell_same (o := 3) h.top _, h.lg, h.lx, h.gx, rw' h.rn (by decide), h.xn, ⟨rw' h.rm.row (by decide), h.rm.off, fun m hm => (h.rm.at' m hm).keep f fun c o ho hr => og c o ho (.inr hr)⟩, rw' h.rt (by decide), h.xt, h.tl, fun x hx => ?_, h.td, fun x hx => (h.nd x hx).keep f og, h.dj, fun x hx => ⟨f.keep _ _ (h.rb x hx).1 fun e => ?_, (h.rb x hx).2⟩, h.rd, fun k hk => Nat.lt_of_lt_of_le (h.hx k hk) f.size⟩, f⟩
 ·obtain ⟨⟨xs, h1⟩, h2⟩ := h.ts x hx
  exact ⟨⟨xs, rw' h1 (by decide)⟩, h2⟩
 ·have h1 := (h.rb x hx).1
  unfold RB at h1
  rw [e, h.top] at h1
  cases h1
theorem G13.apply [Old] [NoOld] (h : G13 B X w G l ms tk many vn vm vt) (i : Nat) (hi : i < l.length) {ap' : Nat} (hf : Fr (fun k _ => k ≠ l[i].rb) w w') (ht : RB w' l[i].rb l[i].b ap') : G13 B X w' G (l.set i ⟨l[i].b, l[i].rb, l[i].n, ap', l[i].P⟩) ms tk many vn vm vt := by
 have hr := h.rb _ (List.getElem_mem hi)
 have og := offCell hr.1 (by decide) hr.2.1
 have rw' : ∀ {e : TypeId} {s : Nat} {v : Value} {n : Nat} {xs : List Value}, w.ownsRow B e s v n xs → e ≠ 55 → w'.ownsRow B e s v n xs := fun hv h1 => ownsRow_fr hv hf fun k o e ho hk => tag_cell hv hr.1 h1 (hk ▸ e)
 have e1 : (l.set i ⟨l[i].b, l[i].rb, l[i].n, ap', l[i].P⟩).map ptrR = l.map ptrR := by
  rw [List.map_set]
  apply List.ext_getElem?
  intro j
  rw [List.getElem?_set]
  split
  ·rename_i e
   subst e
   simp [hi]
  ·rfl
 have each : ∀ {Q : Rx → Prop}, (∀ j, (hj : j < l.length) → j ≠ i → Q l[j]) → Q ⟨l[i].b, l[i].rb, l[i].n, ap', l[i].P⟩ → ∀ x ∈ l.set i ⟨l[i].b, l[i].rb, l[i].n, ap', l[i].P⟩, Q x := fun h1 h2 x hx => by
  obtain ⟨j, hj, e⟩ := List.mem_iff_getElem.1 hx
  rw [List.length_set] at hj
  rw [List.getElem_set] at e
  by_cases hij : i = j
  ·rw [if_pos hij] at e
   exact e ▸ h2
  ·rw [if_neg hij] at e
   exact e ▸ h1 j hj (Ne.symm hij)
 have hdj := List.pairwise_iff_getElem.1 h.dj
 have hrd := List.pairwise_iff_getElem.1 h.rd
 have hne : ∀ j, (hj : j < l.length) → j ≠ i → l[j].rb ≠ l[i].rb := fun j hj hji e => by
  rcases Nat.lt_or_ge i j with hlt | hge
  ·exact hrd i j hi hj hlt e.symm
  ·exact hrd j i hj hi (by omega) e
 refine ⟨hf.keep _ _ h.top (fun e => ?_), h.lg, h.lx, h.gx, ?_, h.xn, ⟨rw' h.rm.row (by decide), h.rm.off, fun m hm => (h.rm.at' m hm).keep hf fun c o ho hr => og c o ho (.inr hr)⟩, rw' h.rt (by decide), h.xt, by rw [List.length_set]; exact h.tl, fun x hx => ?_, h.td, ?_, ?_, ?_, ?_, fun k hk => Nat.lt_of_lt_of_le (h.hx k hk) hf.size⟩
 ·have h1 := hr.1
  unfold RB at h1
  rw [← e, h.top] at h1
  cases h1
 ·rw [List.length_set, e1]; exact rw' h.rn (by decide)
 ·obtain ⟨⟨xs, h1⟩, h2⟩ := h.ts x hx
  exact ⟨⟨xs, rw' h1 (by decide)⟩, h2⟩
 ·exact each (fun j hj _ => (h.nd _ (List.getElem_mem hj)).keep hf og) ((h.nd _ (List.getElem_mem hi)).keep hf og)
 ·exact pw_set l i _ h.dj (fun j hj hji => hdj j i hj hi hji) (fun j hj hji => hdj i j hi hj hji)
 ·exact each (fun j hj hji => ⟨hf.keep _ _ (h.rb _ (List.getElem_mem hj)).1 (hne j hj hji), (h.rb _ (List.getElem_mem hj)).2⟩) ⟨ht, hr.2⟩
 ·exact pw_set l i _ h.rd (fun j hj hji => hrd j i hj hi hji) (fun j hj hji => hrd i j hi hj hji)
theorem G13.took [Old] [NoOld] (h : G13 B X w G l ms tk many vn vm vt) (i : Nat) (hi : i < tk.length) {v' : Value} {k' : Nat} (hf : Fr (fun k _ => tk[i].1.ownBlock ≠ some k ∧ vt.ownBlock ≠ some k) w w') (hr : ∃ xs, w'.ownsRow B 70 4 v' k' xs) (hn : OwnNext w tk[i].1 v') (ht : w'.ownsRow B 66 1 vt tk.length ((tk.set i (v', k')).map Prod.fst)) : G13 B X w' G l ms (tk.set i (v', k')) many vn vm vt := by
 obtain ⟨⟨xi, hri⟩, hxi⟩ := h.ts _ (List.getElem_mem hi)
 have o1 := offRow hri (by decide) hxi
 have o2 := offRow h.rt (by decide) h.xt
 have og : ∀ c o, w.heap[c]? = some o → X c ∨ RO X c o → tk[i].1.ownBlock ≠ some c ∧ vt.ownBlock ≠ some c := fun c o ho hc => ⟨o1 c o ho hc, o2 c o ho hc⟩
 have rw' : ∀ {e : TypeId} {s : Nat} {v : Value} {n : Nat} {xs : List Value}, w.ownsRow B e s v n xs → e ≠ 70 → e ≠ 66 → w'.ownsRow B e s v n xs := fun hv h1 h2 => ownsRow_fr hv hf fun k o e ho => ⟨fun hk => tag_ne hv hri h1 e hk, fun hk => tag_ne hv h.rt h2 e hk⟩
 have cell : ∀ {g : Nat} {cs : Array Value} {t : TypeId} {fz : Nat × Nat}, w.heap[g]? = some (.cells cs t fz) → t ≠ 70 → t ≠ 66 → w'.heap[g]? = some (.cells cs t fz) := fun hg h1 h2 => hf.keep _ _ hg ⟨tag_cell hri hg (Ne.symm h1), tag_cell h.rt hg (Ne.symm h2)⟩
 have htd := List.pairwise_iff_getElem.1 h.td
 have own' : ∀ k, v'.ownBlock = some k → tk[i].1.ownBlock = some k ∨ w.heap.size ≤ k := fun k e => by
  rcases hn with q | ⟨j, q, hj⟩
  ·rw [q] at e; exact .inl e
  ·rw [q] at e; cases e; exact .inr hj
 have lt : ∀ j, (hj : j < tk.length) → ∀ k, tk[j].1.ownBlock = some k → k < w.heap.size := fun j hj k e => by
  obtain ⟨⟨xs, h1⟩, _⟩ := h.ts _ (List.getElem_mem hj)
  obtain ⟨c1, h2⟩ := own_tag h1 e
  exact lt_of_some h2
 refine ⟨cell h.top (by decide) (by decide), h.lg, h.lx, h.gx, rw' h.rn (by decide) (by decide), h.xn, ⟨rw' h.rm.row (by decide) (by decide), h.rm.off, fun m hm => (h.rm.at' m hm).keep hf fun c o ho hr => og c o ho (.inr hr)⟩, by rw [List.length_set]; exact ht, h.xt, by rw [List.length_set]; exact h.tl, fun x hx => ?_, ?_, fun x hx => (h.nd x hx).keep hf og, h.dj, fun x hx => ⟨cell (h.rb x hx).1 (by decide) (by decide), (h.rb x hx).2⟩, h.rd, fun k hk => Nat.lt_of_lt_of_le (h.hx k hk) hf.size⟩
 ·obtain ⟨j, hj, e⟩ := List.mem_iff_getElem.1 hx
  rw [List.length_set] at hj
  rw [List.getElem_set] at e
  by_cases hij : i = j
  ·rw [if_pos hij] at e
   subst e
   exact ⟨hr, fun k e hk => by
    rcases own' k e with q | q
    ·exact hxi k q hk
    ·have := h.hx k hk; omega⟩
  ·rw [if_neg hij] at e
   subst e
   obtain ⟨⟨xs, h1⟩, h2⟩ := h.ts _ (List.getElem_mem hj)
   refine ⟨⟨xs, ownsRow_fr h1 hf fun k o e ho => ⟨fun hk => ?_, fun hk => tag_ne h1 h.rt (by decide) e hk⟩⟩, h2⟩
   rcases Nat.lt_or_ge i j with hlt | hge
   ·exact htd i j hi hj hlt k hk e
   ·exact htd j i hj hi (by omega) k e hk
 ·refine pw_set tk i _ h.td (fun j hj hji k hk hk2 => ?_) (fun j hj hji k hk hk2 => ?_)
  ·rcases own' k hk2 with q | q
   ·exact htd j i hj hi hji k hk q
   ·have := lt j hj k hk; omega
  ·rcases own' k hk with q | q
   ·exact htd i j hi hj hji k q hk2
   ·have := lt j hj k hk2; omega
end
end Go.Proofs.Ytmjccpfchhnfhaa
/- Law 13: conf, begun (printed by yo.py). -/
namespace Go.Proofs.Ytmjccpfchhnfhaa
open Go.RowKit
set_option linter.unusedVariables false
set_option linter.unusedSimpArgs false
set_option maxRecDepth 100000 in
set_option maxHeartbeats 8000000 in
theorem conf_calls (w : World) (many : Nat) (hm : many ≤ 1000) : Calls Try.prog 27 #[.int .i64 (many : Nat)] w fun e w' => (∃ g c, e = .returned (.slice g many c) ∧ w'.ownsRow w.heap.size 3 1 (.slice g many c) (cfN many).length ((cfN many).flatMap encI)) ∧ FT w w' := by
 go_enter Try.func27, Try.ntmps27
 go_wp2
 go_loopw [3, 4] (fun o i wr => ∃ (k : Nat) (g : Option Addr) (c : Nat), i = .int .i64 (k : Nat) ∧ k ≤ many ∧ o = .slice g k c ∧ Hid (wr.ownsRow w.heap.size 3 1 (.slice g k c) (cfN k).length ((cfN k).flatMap encI)) ∧ Hid (FT w wr)) (fun _ i _ => many - (intOf i).toNat)
 case atStart => exact ⟨0, none, 0, rfl, Nat.zero_le _, rfl, ⟨rfl, .inl ⟨rfl, rfl⟩⟩, Fr.refl _ _⟩
 case round =>
  obtain ⟨k, g, c, rfl, hk, rfl, HO, HF⟩ := hrel
  by_cases hlt : k < many
  ·have hltI : (k : Int) < (many : Int) := by omega
   obtain ⟨W3, hW3⟩ : ∃ Y, wr.alloc (.cells #[.int .i64 (k : Nat)] 3 (0, 0)) = Y := ⟨_, rfl⟩
   have f3 : FT wr W3 := hW3 ▸ (Fr.refl _ _).alloc _
   have ROW : Hid (RowsAt (fun c _ => c = wr.heap.size) W3 (.slice (some ⟨wr.heap.size, 0, none⟩) 1 1) 1 encI [((k : Nat) : Int)]) := rows_oneI (hW3 ▸ heap_alloc_new _ _)
   have FW3 := Lib.hid (HF.trans f3)
   have OW3 : Hid (W3.ownsRow w.heap.size 3 1 (.slice g k c) (cfN k).length ((cfN k).flatMap encI)) := ownsRow_fr HO f3 fun _ _ _ _ => trivial
   have HL3 : Hid ((cfN (k + 1)).length = k + 1) := cfN_len _
   have HR3 : Hid (cfN k ++ [((k : Nat) : Int)] = cfN (k + 1)) := (cfN_succ k).symm
   have hl1 : k + 1 ≤ 1000000 := by omega
   clear f3
   go_wp2_with (at_builtin; (try rw [hW3]); refine wpList_append_ins w W3 FW3 rfl _ _ rfl (.slice g k c) (cfN k) rfl OW3 _ [((k : Nat) : Int)] rfl ROW _ HR3 (k + 1) HL3 hl1 ?_)
   intro g5 c5 W5 O5 F5 G5 N5
   clear hW3
   go_wp2
   go_roundw
   case rel => exact ⟨k + 1, g5, c5, by go_num, by omega, rfl, by show World.ownsRow _ _ _ _ _ _ _; rw [HL3.out]; exact O5.out, F5.out⟩
   case measure => simp [intOf]; omega
  ·have hge : ¬ (k : Int) < (many : Int) := by omega
   have hkm : k = many := by omega
   subst hkm
   go_wp2
   go_ret
   exact ⟨⟨g, c, rfl, HO⟩, HF⟩
theorem cfN_right {many : Nat} (h1 : 1 ≤ many) (h5 : many ≤ 5) : rightQ (cfN many) = true := by
 match many, h1, h5 with
 | 1, _, _ => decide
 | 2, _, _ => decide
 | 3, _, _ => decide
 | 4, _, _ => decide
 | 5, _, _ => decide
theorem info_ptrR : (Try.prog.info? 56).map (fun i => (i.zero, i.size, i.bytes)) = some (some (.pointer none), 1, 8) := by kernel_rfl
theorem info_slS : (Try.prog.info? 66).map (fun i => (i.zero, i.size, i.bytes)) = some (some (.slice none 0 0), 1, 24) := by kernel_rfl
section
variable {ops : Array Oper} {rest : List Oper} {o : Oper} {a : Act} {Q : Exit → Act → World → Prop}
theorem wpList_append_ptrR (W : World) (hgd : o.guard = none) (s x : Operand) (ho : o.op = .call { callee := .builtin .append, args := #[s, x], argTypes := #[50, 50] })
  (v : Value) (n : Nat) (xs : List Value) (hs : a.eval s = v) (hown : Hid (W.ownsRow 0 56 1 v n xs)) (gx b : Nat) (hx : a.eval x = .slice (some ⟨gx, 0, none⟩) 1 1) (hb : Hid (W.heap[gx]? = some (.cells #[.pointer (some ⟨b, 0, none⟩)] 56 (0, 0)))) (N : Nat) (hN : Hid (n + 1 = N)) (hn : N ≤ 1000000)
  (h : ∀ g c w', Hid (w'.ownsRow 0 56 1 (.slice g N c) N (xs ++ [.pointer (some ⟨b, 0, none⟩)])) → Hid (Fr (fun b _ => v.ownBlock ≠ some b) W w') → Hid (OwnNext W v (.slice g N c)) → wpList Try.prog ops Q rest (a.put o.dst (.slice g N c)) w') : wpList Try.prog ops Q (o :: rest) a W := by
 obtain ⟨i0, hi, hz0, hz1, hz2⟩ := info_parts info_ptrR
 exact wpList_plain hgd fun _ hK => step_append_raw W s x 50 56 ho i0 _ 1 8 Try.underlying50 hi hz0 hz1 hz2 rfl (by decide) (by decide) v n xs hs hown gx [.pointer (some ⟨b, 0, none⟩)] hx hb rfl (fun u hu => by rw [List.mem_singleton.1 hu]; rfl) N hN hn fun g c w' h1 h2 h3 => hK _ _ (h g c w' h1 h2 h3)
theorem wpList_append_slS (W : World) (hgd : o.guard = none) (s x : Operand) (ho : o.op = .call { callee := .builtin .append, args := #[s, x], argTypes := #[51, 51] })
  (v : Value) (n : Nat) (xs : List Value) (hs : a.eval s = v) (hown : Hid (W.ownsRow 0 66 1 v n xs)) (gx : Nat) (hx : a.eval x = .slice (some ⟨gx, 0, none⟩) 1 1) (hb : Hid (W.heap[gx]? = some (.cells #[.slice none 0 0] 66 (0, 0)))) (N : Nat) (hN : Hid (n + 1 = N)) (hn : N ≤ 1000000)
  (h : ∀ g c w', Hid (w'.ownsRow 0 66 1 (.slice g N c) N (xs ++ [.slice none 0 0])) → Hid (Fr (fun b _ => v.ownBlock ≠ some b) W w') → Hid (OwnNext W v (.slice g N c)) → wpList Try.prog ops Q rest (a.put o.dst (.slice g N c)) w') : wpList Try.prog ops Q (o :: rest) a W := by
 obtain ⟨i0, hi, hz0, hz1, hz2⟩ := info_parts info_slS
 exact wpList_plain hgd fun _ hK => step_append_raw W s x 51 66 ho i0 _ 1 24 Try.underlying51 hi hz0 hz1 hz2 rfl (by decide) (by decide) v n xs hs hown gx [.slice none 0 0] hx hb rfl (fun u hu => by rw [List.mem_singleton.1 hu]; rfl) N hN hn fun g c w' h1 h2 h3 => hK _ _ (h g c w' h1 h2 h3)
end
section
variable {B : Nat} {X X3 P3 : Nat → Prop} {w w3 w' : World} {G : Nat} {l : List Rx} {ms : List MV} {tk : List (Value × Nat)} {many : Int} {vn vm vt : Value} {b rb : Nat} {n : Nd}
theorem G13.more [Old] [NoOld] (h : G13 B X w G l ms tk many vn vm vt) (ha : Aft X (fun _ => False) X3 P3 w w3) (hx3 : ∀ k, X3 k → k < w3.heap.size) : G13 B X3 w3 G l ms tk many vn vm vt := by
 have f : FT w w3 := ha.fr.mono fun _ _ _ h => h
 have h1 := h.tt f
 have off : ∀ {k o}, w.heap[k]? = some o → ¬ X k → ¬ X3 k := fun ho hk => (ha.off ho hk).2
 have row : ∀ {e : TypeId} {s : Nat} {v : Value} {n : Nat} {xs : List Value}, w.ownsRow B e s v n xs → (∀ k, v.ownBlock = some k → ¬ X k) → ∀ k, v.ownBlock = some k → ¬ X3 k := fun hr hk k e => by
  obtain ⟨cur, ho⟩ := own_tag hr e
  exact off ho (hk k e)
 refine ⟨h1.top, h.lg, fun k hk => ?_, off h.top h.gx, h1.rn, row h.rn h.xn, h.rm.aft ha, h1.rt, row h.rt h.xt, h.tl, fun x hx => ?_, h.td, fun x hx => (h.nd x hx).far ha (fun _ _ h => h) hx3, h.dj, fun x hx => ⟨(h1.rb x hx).1, off (h.rb x hx).1 (h.rb x hx).2.1, (h.rb x hx).2.2⟩, h.rd, hx3⟩
 ·rcases (ha.xx k).1 hk with q | q
  ·exact h.lx k q
  ·rcases ha.nw k q with q | q
   ·exact q.elim
   ·exact Nat.le_trans h.bs q
 ·obtain ⟨⟨xs, h2⟩, h3⟩ := h1.ts x hx
  obtain ⟨⟨xs', h4⟩, h5⟩ := h.ts x hx
  exact ⟨⟨xs, h2⟩, row h4 h5⟩
theorem G13.gcells13 [Old] (h : G13 B X w G l ms tk many vn vm vt) {W : World} (f : FT w W) : W.cell? ⟨G, 0, none⟩ = some vn ∧ W.cell? ⟨G, 2, none⟩ = some vt := by
 have t := f.keep _ _ h.top trivial
 exact ⟨cell_mk t rfl, cell_mk t rfl⟩
theorem G13.add [Old] [NoOld] (h : G13 B X w G l ms tk many vn vm vt) (ha : Aft X (fun _ => False) X3 P3 w w3) (hp : PN X3 P3 w3 b n) (hrb : RB w3 rb b 0) (hrx : ¬ X3 rb) (hrs : w.heap.size ≤ rb) {vn' vt' : Value} (hf : Fr (fun k _ => k ≠ G ∧ vn.ownBlock ≠ some k ∧ vt.ownBlock ≠ some k) w3 w')
  (ht : w'.heap[G]? = some (.cells #[vn', vm, vt', .int .i64 many] 53 (0, 0))) (hrn : w'.ownsRow B 56 1 vn' (l.length + 1) (l.map ptrR ++ [.pointer (some ⟨rb, 0, none⟩)])) (hnn : OwnNext w3 vn vn')
  (hrt : w'.ownsRow B 66 1 vt' (tk.length + 1) (tk.map Prod.fst ++ [.slice none 0 0])) (hnt : OwnNext w3 vt vt') : G13 B X3 w' G (l ++ [⟨b, rb, n, 0, P3⟩]) ms (tk ++ [(.slice none 0 0, 0)]) many vn' vm vt' := by
 obtain ⟨q0, hq0⟩ := hp
 have h3 := h.more ha hq0.hx
 have o1 := offRow h3.rn (by decide) h3.xn
 have o2 := offRow h3.rt (by decide) h3.xt
 have o3 := offCell h3.top (by decide) h3.gx
 have og : ∀ c o, w3.heap[c]? = some o → X3 c ∨ RO X3 c o → c ≠ G ∧ vn.ownBlock ≠ some c ∧ vt.ownBlock ≠ some c := fun c o ho hc => ⟨o3 c o ho hc, o1 c o ho hc, o2 c o ho hc⟩
 have rw' : ∀ {e : TypeId} {s : Nat} {v : Value} {n : Nat} {xs : List Value}, w3.ownsRow B e s v n xs → e ≠ 53 → e ≠ 56 → e ≠ 66 → w'.ownsRow B e s v n xs := fun hv h1 h2 h4 => ownsRow_fr hv hf fun k o e ho => ⟨fun hk => tag_cell hv h3.top h1 (hk ▸ e), fun hk => tag_ne hv h3.rn h2 e hk, fun hk => tag_ne hv h3.rt h4 e hk⟩
 have rbk : ∀ {r c p : Nat}, RB w3 r c p → RB w' r c p := fun {r c p} hr => by
  have h1 := hr
  unfold RB at h1
  refine hf.keep _ _ hr ⟨fun e => ?_, tag_cell h3.rn h1 (by decide), tag_cell h3.rt h1 (by decide)⟩
  rw [e, h3.top] at h1
  cases h1
 have nx : ∀ {v v' : Value}, OwnNext w3 v v' → (∀ k, v.ownBlock = some k → ¬ X3 k) → ∀ k, v'.ownBlock = some k → ¬ X3 k := fun hn hv k e hx => by
  rcases hn with q | ⟨j, q, hj⟩
  ·rw [q] at e; exact hv k e hx
  ·rw [q] at e; cases e; have := hq0.hx k hx; omega
 have b3 : B ≤ rb := Nat.le_trans h.bs hrs
 have f3 : FT w w3 := ha.fr.mono fun _ _ _ h => h
 have kn : ∀ {P : Nat → Prop} {b : Nat} {n : Nd}, PN X3 P w3 b n → PN X3 P w' b n := fun hp => hp.keep hf og
 refine ⟨ht, h.lg, h3.lx, h3.gx, by rw [List.length_append, List.map_append]; exact hrn, nx hnn h3.xn, ⟨rw' h3.rm.row (by decide) (by decide) (by decide), h3.rm.off, fun m hm => (h3.rm.at' m hm).keep hf fun c o ho hr => og c o ho (.inr hr)⟩, by rw [List.length_append, List.map_append]; exact hrt, nx hnt h3.xt, by rw [List.length_append, List.length_append, h.tl]; rfl, fun x hx => ?_, ?_, fun x hx => ?_, ?_, fun x hx => ?_, ?_, fun k hk => Nat.lt_of_lt_of_le (hq0.hx k hk) hf.size⟩
 ·rcases List.mem_append.1 hx with hx | hx
  ·obtain ⟨⟨xs, h1⟩, h2⟩ := h3.ts x hx
   exact ⟨⟨xs, rw' h1 (by decide) (by decide) (by decide)⟩, h2⟩
  ·rw [List.mem_singleton.1 hx]
   exact ⟨⟨[], rfl, .inl ⟨rfl, rfl⟩⟩, fun k e => by cases e⟩
 ·refine List.pairwise_append.2 ⟨h.td, List.pairwise_singleton _ _, fun x hx y hy k hk hk2 => ?_⟩
  rw [List.mem_singleton.1 hy] at hk2
  cases hk2
 ·rcases List.mem_append.1 hx with hx | hx
  ·exact kn (h3.nd x hx)
  ·rw [List.mem_singleton.1 hx]
   exact kn ⟨q0, hq0⟩
 ·refine List.pairwise_append.2 ⟨h.dj, List.pairwise_singleton _ _, fun x hx y hy k hk hk2 => ?_⟩
  rw [List.mem_singleton.1 hy] at hk2
  obtain ⟨q, hq⟩ := h.nd x hx
  have hlt := hq.hx k (hq.px k hk)
  rcases ha.nw k hk2 with q | q
  ·exact q
  ·omega
 ·rcases List.mem_append.1 hx with hx | hx
  ·exact ⟨rbk (h3.rb x hx).1, (h3.rb x hx).2⟩
  ·rw [List.mem_singleton.1 hx]
   exact ⟨rbk hrb, hrx, b3⟩
 ·refine List.pairwise_append.2 ⟨h.rd, List.pairwise_singleton _ _, fun x hx y hy e => ?_⟩
  rw [List.mem_singleton.1 hy] at e
  have := lt_of_some (h.rb x hx).1
  have e' : x.rb = rb := e
  omega
end
set_option maxRecDepth 100000 in
set_option maxHeartbeats 8000000 in
theorem begun13_none (w : World) (z : Int) (hz : z < 1 ∨ 5 < z) : Calls Try.prog 9 #[.int .i64 z] w fun e w' => e = .returned (.pointer none) ∧ w = w' := by
 by_cases h1 : z < 1
 ·clear hz
  go_enter Try.func9, Try.ntmps9
  go_wp2
  go_ret
  exact ⟨rfl, rfl⟩
 ·have h2 : 5 < z := by omega
  clear hz
  go_enter Try.func9, Try.ntmps9
  go_wp2
  go_ret
  exact ⟨rfl, rfl⟩
def B13Out [Old] (w : World) (many : Nat) (e : Ending) (w' : World) : Prop :=
 ∃ G X l tk vn vt, e = .returned (.pointer (some ⟨G, 0, none⟩)) ∧ G13 w.heap.size X w' G l [] tk 0 vn (.slice none 0 0) vt ∧ l.map (·.n) = (cfN many).map (fun i => Nd.new i (cfN many)) ∧ l.map (·.ap) = List.replicate many 0 ∧ tk.map Prod.snd = List.replicate many 0 ∧ FT w w'
set_option maxRecDepth 100000 in
set_option maxHeartbeats 8000000 in
theorem begun13_calls [Old] [NoOld] (w : World) (many : Nat) (h1 : 1 ≤ many) (h5 : many ≤ 5) : Calls Try.prog 9 #[.int .i64 (many : Nat)] w fun e w' => B13Out w many e w' := by
 have m1 : ¬ ((many : Int) < 1) := by omega
 have m2 : ¬ ((5 : Int) < (many : Int)) := by omega
 have RQ : Hid (rightQ (cfN many) = true) := cfN_right h1 h5
 have hbG : ∀ W : World, (Instr.build 53 #[]).run Try.prog W = .ok (.agg #[.slice none 0 0, .slice none 0 0, .slice none 0 0, .int .i64 0]) W := fun W => run_build W _ _ _ (by kernel_rfl)
 obtain ⟨w1, hw1⟩ : ∃ Y, w.alloc (.cells #[.slice none 0 0, .slice none 0 0, .slice none 0 0, .int .i64 0] 53 (0, 0)) = Y := ⟨_, rfl⟩
 have T1 : Hid (w1.heap[w.heap.size]? = some (.cells #[.slice none 0 0, .slice none 0 0, .slice none 0 0, .int .i64 0] 53 (0, 0))) := hw1 ▸ heap_alloc_new _ _
 have F1 : Hid (FT w w1) := hw1 ▸ (Fr.refl _ _).alloc _
 have G0 : Hid (G13 w.heap.size (fun _ => False) w1 w.heap.size [] [] [] 0 (.slice none 0 0) (.slice none 0 0) (.slice none 0 0)) :=
  ⟨T1, Nat.le_refl _, fun _ h => h.elim, fun h => h, ⟨rfl, .inl ⟨rfl, rfl⟩⟩, (fun _ e => by cases e), OwnMs.nil _ _ _, ⟨rfl, .inl ⟨rfl, rfl⟩⟩, (fun _ e => by cases e), rfl, (fun _ h => by cases h), List.Pairwise.nil, (fun _ h => by cases h), List.Pairwise.nil, (fun _ h => by cases h), List.Pairwise.nil, fun _ h => h.elim⟩
 have GB : Hid (w.heap.size < w1.heap.size) := lt_of_some T1
 go_enter Try.func9, Try.ntmps9
 go_wp2
 try rw [hw1]
 clear hw1 hbG
 go_loopw [4] (fun i wr => ∃ (j : Nat) (X : Nat → Prop) (l : List Rx) (tk : List (Value × Nat)) (vn vt : Value), i = .int .i64 (j : Nat) ∧ j ≤ many ∧ Hid (G13 w.heap.size X wr w.heap.size l [] tk 0 vn (.slice none 0 0) vt) ∧ Hid (l.length = j) ∧ Hid (l.map (·.n) = (cfN j).map (fun i => Nd.new i (cfN many))) ∧ Hid (l.map (·.ap) = List.replicate j 0) ∧ Hid (tk.map Prod.snd = List.replicate j 0) ∧ Hid (FT w wr)) (fun i _ => many - (intOf i).toNat)
 case atStart => exact ⟨0, _, [], [], _, _, rfl, Nat.zero_le _, G0, rfl, rfl, rfl, rfl, F1⟩
 case round =>
  obtain ⟨j, X, l, tk, vn, vt, rfl, hj, HG, HL, HN, HA, HT, HF⟩ := hrel
  by_cases hlt : j < many
  ·have hltI : (j : Int) < (many : Int) := by omega
   have CC := Lib.hid (conf_calls wr many (by omega))
   go_wp2_with fail
   (with_reducible refine CC.out.mono ?_)
   rintro e W2 ⟨⟨gc, kc, rfl, oc⟩, f2⟩
   have F2 := Lib.hid f2
   have G2 := Lib.hid (HG.tt f2)
   have IC : IntsAt (RO X) W2 (.slice gc many kc) (cfN many) := (RowI.intsK (B := wr.heap.size) (zs := cfN many) (show RowI W2 wr.heap.size (.slice gc many kc) (cfN many) by
    show World.ownsRow _ _ _ _ _ _ _
    rw [← encI_map, cfN_len]
    rw [cfN_len] at oc
    exact oc)).mono fun c o hc => ⟨fun hx => by have := HG.out.hx c hx; omega, by obtain ⟨cs, e⟩ := hc.2; exact .inr ⟨cs, _, _, e, by decide⟩⟩
   have NC := Lib.hid (rnew_calls (X := X) W2 (j : Nat) (.slice gc many kc) (cfN many) IC (by rw [cfN_len]; unfold maxLen; omega) G2.out.hx (fun c hc => absurd hc (NoOld.no c)))
   clear CC oc f2 IC
   go_wp2_with fail
   (with_reducible refine NC.out.mono ?_)
   intro e W3 hR
   obtain ⟨rb, b, X3, P3, q3, rfl, h3, r3, rx3, a3, hb, hrs⟩ : ∃ rb b X3 P3 q3, e = .returned (.tuple #[.pointer (some ⟨rb, 0, none⟩), .int .i64 0]) ∧ PNs X3 P3 W3 b (Nd.new (j : Nat) (cfN many)) q3 ∧ RB W3 rb b 0 ∧ ¬ X3 rb ∧ Aft X (fun _ => False) X3 P3 W2 W3 ∧ W2.heap.size ≤ b ∧ W2.heap.size ≤ rb := by
    rcases hR with ⟨hne, _⟩ | ⟨_, rb, b, X3, P3, q3, h⟩
    ·refine absurd ?_ hne
     unfold errN
     rw [if_neg (by omega), if_neg (by rw [RQ.out]; decide)]
    ·exact ⟨rb, b, X3, P3, q3, h⟩
   have HH := Lib.hid (And.intro (show PN X3 P3 W3 b (Nd.new (j : Nat) (cfN many)) from ⟨q3, h3⟩) (And.intro r3 (And.intro rx3 (And.intro a3 hrs))))
   have f3 : Hid (FT W2 W3) := a3.fr.mono fun _ _ _ h => h
   have y0 : W3.cell? ⟨rb, 0, none⟩ = some (.pointer (some ⟨b, 0, none⟩)) := cell_mk r3 rfl
   have F3 : Hid (FT w W3) := HF.trans (F2.trans f3)
   have G3 := Lib.hid (G2.tt f3)
   obtain ⟨gn, cn2, hvn⟩ := ownsRow_form G2.rn
   obtain ⟨gt, ct2, hvt⟩ := ownsRow_form G2.rt
   rw [HL.out] at hvn
   have htl : tk.length = j := by rw [G2.out.tl, HL.out]
   rw [htl] at hvt
   have x0 := (G3.gcells13 (Fr.refl _ W3)).1
   rw [hvn] at x0
   have z0 := frozen_mk (i := 0) G3.top
   obtain ⟨W4, hW4⟩ : ∃ Y, W3.alloc (.cells #[.pointer (some ⟨rb, 0, none⟩)] 56 (0, 0)) = Y := ⟨_, rfl⟩
   have f4 : Hid (FT W3 W4) := hW4 ▸ (Fr.refl _ _).alloc _
   have t4 : Hid (W4.heap[W3.heap.size]? = some (.cells #[.pointer (some ⟨rb, 0, none⟩)] 56 (0, 0))) := hW4 ▸ heap_alloc_new _ _
   have OW : Hid (W4.ownsRow 0 56 1 (.slice gn j cn2) j (l.map ptrR)) := by
    show World.ownsRow _ _ _ _ _ _ _
    rw [← hvn]
    have := ownsRow_fr G3.out.rn f4.out fun _ _ _ _ => trivial
    rw [HL.out] at this
    exact own_re this fun _ _ => Nat.zero_le _
   have HV := Lib.hid (And.intro hvn (And.intro hvt htl))
   obtain ⟨jn, hjn⟩ : ∃ x, j + 1 = x := ⟨_, rfl⟩
   have HJN := Lib.hid hjn
   have hjn9 : jn ≤ 1000000 := by omega
   have HS9 : Hid (w.heap.size < W3.heap.size) := by have := GB.out; have := F3.out.size; have := lt_of_some G3.out.top; show _ < _; omega
   clear h3 r3 rx3 a3 hb hrs hR NC hvn hvt htl hjn
   go_wp2_with (at_builtin; (try rw [hW4]); refine wpList_append_ptrR W4 rfl _ _ rfl (.slice gn j cn2) j (l.map ptrR) rfl OW W3.heap.size rb rfl t4 jn HJN hjn9 ?_)
   intro g5 c5 W5 O5 F5 N5
   clear hW4 x0 z0 y0
   have gnG : Hid ((Value.slice gn j cn2).ownBlock ≠ some w.heap.size) := by show _ ≠ _; rw [← HV.out.1]; exact tag_cell G3.out.rn G3.out.top (by decide)
   have T5 : W5.heap[w.heap.size]? = some (.cells #[vn, .slice none 0 0, vt, .int .i64 0] 53 (0, 0)) := F5.keep _ _ (f4.keep _ _ G3.top trivial) gnG
   have y5 : W5.cell? ⟨w.heap.size, 0, none⟩ = some (.slice gn j cn2) := by rw [← HV.out.1]; exact cell_mk T5 rfl
   have z5 := frozen_mk (i := 0) T5
   obtain ⟨W6, hW6⟩ : ∃ Y, W5.setCell ⟨w.heap.size, 0, none⟩ (.slice g5 jn c5) = Y := ⟨_, rfl⟩
   have f6 : Hid (Fr (fun k _ => k ≠ w.heap.size) W5 W6) := hW6 ▸ (Fr.refl _ _).setCell (fun _ _ h => h rfl) _
   have T6 : Hid (W6.heap[w.heap.size]? = some (.cells #[.slice g5 jn c5, .slice none 0 0, vt, .int .i64 0] 53 (0, 0))) := by show _ = _; rw [← hW6]; exact heap_setCell_same (o := 0) T5 _
   have y6 : W6.cell? ⟨w.heap.size, 2, none⟩ = some (.slice gt j ct2) := by rw [← HV.out.2.1]; exact cell_mk T6.out rfl
   have z6 := frozen_mk (i := 2) T6
   have gnT : Hid ((Value.slice gt j ct2).ownBlock ≠ some w.heap.size) := by show _ ≠ _; rw [← HV.out.2.1]; exact tag_cell G3.out.rt G3.out.top (by decide)
   have O6 : Hid (W6.ownsRow 0 56 1 (.slice g5 jn c5) jn (l.map ptrR ++ [.pointer (some ⟨rb, 0, none⟩)])) := ownsRow_fr O5.out f6.out fun k o e ho hk => tag_cell O5.out T5 (by decide) (hk ▸ e)
   have F36 : Hid (Fr (fun k _ => k ≠ w.heap.size ∧ (Value.slice gn j cn2).ownBlock ≠ some k) W3 W6) := (f4.tT).trans ((F5.mono fun c _ h => h.2).trans (f6.mono fun c _ h => h.1))
   have OT6 : Hid (W6.ownsRow 0 66 1 (.slice gt j ct2) j (tk.map Prod.fst)) := by
    show World.ownsRow _ _ _ _ _ _ _
    have := ownsRow_fr G3.out.rt F36.out fun k o e ho => ⟨fun hk => tag_cell G3.out.rt G3.out.top (by decide) (hk ▸ e), fun hk => tag_ne G3.out.rt G3.out.rn (by decide) e (by rw [HV.out.1]; exact hk)⟩
    rw [HV.out.2.1, HV.out.2.2] at this
    exact own_re this fun _ _ => Nat.zero_le _
   obtain ⟨W7, hW7⟩ : ∃ Y, W6.alloc (.cells #[.slice none 0 0] 66 (0, 0)) = Y := ⟨_, rfl⟩
   have f7 : Hid (FT W6 W7) := hW7 ▸ (Fr.refl _ _).alloc _
   have t7 : Hid (W7.heap[W6.heap.size]? = some (.cells #[.slice none 0 0] 66 (0, 0))) := hW7 ▸ heap_alloc_new _ _
   have OT7 : Hid (W7.ownsRow 0 66 1 (.slice gt j ct2) j (tk.map Prod.fst)) := ownsRow_fr OT6 f7 fun _ _ _ _ => trivial
   clear T5
   go_wp2_with (at_builtin; (try rw [hW6]); (try rw [hW7]); refine wpList_append_slS W7 rfl _ _ rfl (.slice gt j ct2) j (tk.map Prod.fst) rfl OT7 W6.heap.size rfl t7 jn HJN hjn9 ?_)
   intro g8 c8 W8 O8 F8 N8
   clear hW6 hW7 y5 z5 y6 z6
   have T8 : W8.heap[w.heap.size]? = some (.cells #[.slice g5 jn c5, .slice none 0 0, vt, .int .i64 0] 53 (0, 0)) := F8.keep _ _ (f7.keep _ _ T6 trivial) gnT
   have y8 : W8.cell? ⟨w.heap.size, 2, none⟩ = some (.slice gt j ct2) := by rw [← HV.out.2.1]; exact cell_mk T8 rfl
   have z8 := frozen_mk (i := 2) T8
   obtain ⟨W9, hW9⟩ : ∃ Y, W8.setCell ⟨w.heap.size, 2, none⟩ (.slice g8 jn c8) = Y := ⟨_, rfl⟩
   have f9 : Hid (Fr (fun k _ => k ≠ w.heap.size) W8 W9) := hW9 ▸ (Fr.refl _ _).setCell (fun _ _ h => h rfl) _
   have T9 : W9.heap[w.heap.size]? = some (.cells #[.slice g5 jn c5, .slice none 0 0, .slice g8 jn c8, .int .i64 0] 53 (0, 0)) := by rw [← hW9]; exact heap_setCell_same (o := 2) T8 _
   have F69 : Hid (Fr (fun k _ => k ≠ w.heap.size ∧ (Value.slice gt j ct2).ownBlock ≠ some k) W6 W9) := (f7.tT).trans ((F8.mono fun c _ h => h.2).trans (f9.mono fun c _ h => h.1))
   have F39 : Hid (Fr (fun k _ => k ≠ w.heap.size ∧ vn.ownBlock ≠ some k ∧ vt.ownBlock ≠ some k) W3 W9) := (F36.out.mono fun k _ h => ⟨h.1, by rw [← HV.out.1]; exact h.2.1⟩).trans (F69.out.mono fun k _ h => ⟨h.1, by rw [← HV.out.2.1]; exact h.2.2⟩)
   have s36 : W3.heap.size ≤ W6.heap.size := F36.size
   have N5' : Hid (OwnNext W3 vn (.slice g5 jn c5)) := by
    rcases N5 with q | ⟨k, q, hk⟩
    ·exact .inl (by rw [HV.out.1]; exact q)
    ·exact .inr ⟨k, q, Nat.le_trans f4.size hk⟩
   have N8' : Hid (OwnNext W3 vt (.slice g8 jn c8)) := by
    rcases N8 with q | ⟨k, q, hk⟩
    ·exact .inl (by rw [HV.out.2.1]; exact q)
    ·exact .inr ⟨k, q, Nat.le_trans s36 (Nat.le_trans f7.size hk)⟩
   have lw : ∀ {v v' : Value} {e : TypeId} {s n : Nat} {xs : List Value}, W3.ownsRow w.heap.size e s v n xs → OwnNext W3 v v' → ∀ k, v'.ownBlock = some k → w.heap.size ≤ k := fun hr hn k e => by
    rcases hn with q | ⟨i, q, hk⟩
    ·rw [q] at e; exact own_base hr k e
    ·rw [q] at e; cases e; exact Nat.le_trans F3.out.size hk
   have ON : W9.ownsRow w.heap.size 56 1 (.slice g5 jn c5) (l.length + 1) (l.map ptrR ++ [.pointer (some ⟨rb, 0, none⟩)]) := by
    have := ownsRow_fr O6.out F69.out fun k o e ho => ⟨fun hk => tag_cell O6.out T6.out (by decide) (hk ▸ e), fun hk => tag_ne O6.out OT6.out (by decide) e hk⟩
    rw [HL.out, HJN.out]
    exact own_re this (lw G3.rn N5')
   have OT : W9.ownsRow w.heap.size 66 1 (.slice g8 jn c8) (tk.length + 1) (tk.map Prod.fst ++ [.slice none 0 0]) := by
    have := ownsRow_fr O8.out f9.out fun k o e ho hk => tag_cell O8.out T8 (by decide) (hk ▸ e)
    rw [HV.out.2.2, HJN.out]
    exact own_re this (lw G3.rt N8')
   have G9 := Lib.hid (G2.add HH.2.2.2.1 HH.1 HH.2.1 HH.2.2.1 HH.2.2.2.2 F39 T9 ON N5' OT N8')
   have F9 : Hid (FT w W9) := Fr.within ((F3.out.tT : Fr (fun k _ => True ∧ k < w.heap.size) w W3).trans (F39.out.mono fun k _ h => ⟨by have := h.2; omega, fun e => by have := own_base G3.out.rn k e; have := h.2; omega, fun e => by have := own_base G3.out.rt k e; have := h.2; omega⟩))
   clear T8 T9 lw ON OT s36
   go_wp2
   try rw [hW9]
   clear hW9 y8 z8
   go_roundw
   case rel =>
    refine ⟨jn, X3, _, _, _, _, by have h9 : j + 1 = jn := HJN.out; subst h9; go_num, by have h9 : j + 1 = jn := HJN.out; omega, G9.out, ?_, ?_, ?_, ?_, F9.out⟩
    ·show _ = _
     rw [List.length_append, HL.out]; exact HJN.out
    ·show _ = _
     rw [List.map_append, HN.out, ← HJN.out, cfN_succ, List.map_append]; rfl
    ·show _ = _
     rw [List.map_append, HA.out, ← HJN.out, List.replicate_succ']; rfl
    ·show _ = _
     rw [List.map_append, HT.out, ← HJN.out, List.replicate_succ']; rfl
   case measure => have h9 : j + 1 = jn := HJN.out; simp [intOf]; omega
  ·have hge : ¬ (j : Int) < (many : Int) := by omega
   have hjk : j = many := by omega
   subst hjk
   go_wp2
   go_ret
   exact ⟨w.heap.size, X, l, tk, vn, vt, rfl, HG, HN, HA, HT, HF⟩
end Go.Proofs.Ytmjccpfchhnfhaa
