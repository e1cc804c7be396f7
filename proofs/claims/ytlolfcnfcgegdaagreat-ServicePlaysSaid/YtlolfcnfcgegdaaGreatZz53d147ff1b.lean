/- Texts of the proofs, part 1: what the functions that they reach do, walked; no conditions beyond those that each states. -/
import Derived.WalkKit
set_option linter.unusedVariables false
set_option linter.unusedSimpArgs false
/- The locks' table, plainly: what its functions do; what stays true of it. -/
namespace Go.Proofs.YtlolfcnfcgegdaaGreat
set_option linter.unusedVariables false
set_option linter.unusedSimpArgs false

/-- Who holds a region, who waits for it. -/
structure Ho where
  c : Nat
  m : Nat
  t : Nat
  u : Nat
  deriving DecidableEq, Inhabited
structure Wa where
  c : Nat
  m : Nat
  deriving DecidableEq, Inhabited
structure Rgn where
  hs : List Ho
  ws : List Wa
  deriving DecidableEq, Inhabited
structure Lk where
  now : Nat
  last : Nat
  rs : List Rgn
  deriving DecidableEq, Inhabited
def topM : Nat := 18446744073709551615
theorem topM_eq : topM = 18446744073709551615 := rfl
def Lk.rg (L : Lk) (i : Nat) : Rgn := L.rs.getD i ⟨[], []⟩
def Lk.put (L : Lk) (i : Nat) (r : Rgn) : Lk := { L with rs := L.rs.set i r }
def bearsM (hs : List Ho) (m : Nat) : Bool := !(hs.any fun h => decide (h.m = 2) || decide (m = 2))
def untilM (now : Nat) : Nat := if topM - 10 < now then topM else now + 10
def giveL (now : Nat) : Nat → List Ho → List Wa → Nat × List Ho × List Wa
  | last, hs, [] => (last, hs, [])
  | last, hs, w :: ws => if hs.length < 4 ∧ bearsM hs w.m = true ∧ last < topM then giveL now (last + 1) (hs ++ [⟨w.c, w.m, last + 1, untilM now⟩]) ws else (last, hs, w :: ws)
def Lk.give (L : Lk) (i : Nat) : Lk := { L with last := (giveL L.now L.last (L.rg i).hs (L.rg i).ws).1, rs := L.rs.set i ⟨(giveL L.now L.last (L.rg i).hs (L.rg i).ws).2.1, (giveL L.now L.last (L.rg i).hs (L.rg i).ws).2.2⟩ }
def hI (hs : List Ho) (c : Nat) : Option Nat := hs.findIdx? fun h => decide (h.c = c)
def wI (ws : List Wa) (c : Nat) : Option Nat := ws.findIdx? fun w => decide (w.c = c)
def rightM (c r : Nat) : Nat := if 16 ≤ c then 31 else if 4 ≤ r then 93 else 0
def acquireM (L : Lk) (c r how : Nat) : (Nat × Nat) × Lk :=
  if rightM c r ≠ 0 then ((0, rightM c r), L) else if ¬ (how = 1 ∨ how = 2) then ((0, 91), L) else
    match hI (L.rg r).hs c with
    | some h => if ((L.rg r).hs.getD h default).m = how then ((((L.rg r).hs.getD h default).t, 0), L) else ((0, 91), L)
    | none => match wI (L.rg r).ws c with
      | some w => if ((L.rg r).ws.getD w default).m = how then ((0, 90), L) else ((0, 91), L)
      | none => if 4 ≤ (L.rg r).ws.length ∨ L.last = topM then ((0, 42), L) else
        match hI ((L.put r ⟨(L.rg r).hs, (L.rg r).ws ++ [⟨c, how⟩]⟩).give r |>.rg r).hs c with
        | some h => (((((L.put r ⟨(L.rg r).hs, (L.rg r).ws ++ [⟨c, how⟩]⟩).give r).rg r).hs.getD h default |>.t, 0), (L.put r ⟨(L.rg r).hs, (L.rg r).ws ++ [⟨c, how⟩]⟩).give r)
        | none => ((0, 90), (L.put r ⟨(L.rg r).hs, (L.rg r).ws ++ [⟨c, how⟩]⟩).give r)
/-- The hold that a client has by a token; else what is wrong. -/
def heldM (L : Lk) (c r t : Nat) : Nat × Nat :=
  if rightM c r ≠ 0 then (0, rightM c r) else
    match hI (L.rg r).hs c with
    | some h => if ((L.rg r).hs.getD h default).t = t then (h, 0) else (0, 92)
    | none => (0, 92)
def releaseM (L : Lk) (c r t : Nat) : Nat × Lk :=
  if (heldM L c r t).2 ≠ 0 then ((heldM L c r t).2, L) else (0, (L.put r ⟨(L.rg r).hs.eraseIdx (heldM L c r t).1, (L.rg r).ws⟩).give r)
def renewM (L : Lk) (c r t : Nat) : (Nat × Nat) × Lk :=
  if (heldM L c r t).2 ≠ 0 then ((0, (heldM L c r t).2), L) else ((untilM L.now, 0), L.put r ⟨(L.rg r).hs.modify (heldM L c r t).1 fun h => { h with u := untilM L.now }, (L.rg r).ws⟩)
def cancelM (L : Lk) (c r : Nat) : Nat × Lk :=
  if rightM c r ≠ 0 then (rightM c r, L) else
    match wI (L.rg r).ws c with
    | some w => (0, (L.put r ⟨(L.rg r).hs, (L.rg r).ws.eraseIdx w⟩).give r)
    | none => (41, L)
def dropM (now : Nat) (r : Rgn) : Rgn := ⟨r.hs.filter fun h => !decide (h.u ≤ now), r.ws⟩
def timeM (L : Lk) (now : Nat) : Lk :=
  if now ≤ L.now then L else ((((⟨now, L.last, L.rs.map (dropM now)⟩ : Lk).give 0).give 1).give 2).give 3
/-- A client is taken out of a region, out of all. -/
def leaveR (L : Lk) (c r : Nat) : Lk := (cancelM ((L.rg r).hs.foldl (fun L h => if h.c = c then (releaseM L c r h.t).2 else L) L) c r).2
def leaveM (L : Lk) (c : Nat) : Lk := leaveR (leaveR (leaveR (leaveR L c 0) c 1) c 2) c 3
def Lk.new : Lk := ⟨0, 0, [⟨[], []⟩, ⟨[], []⟩, ⟨[], []⟩, ⟨[], []⟩]⟩

/-- What stays true of a region. -/
structure Rgn.ok (r : Rgn) : Prop where
  h4 : r.hs.length ≤ 4
  w4 : r.ws.length ≤ 4
  hc : ∀ h ∈ r.hs, h.c < 16 ∧ (h.m = 1 ∨ h.m = 2) ∧ h.t ≤ topM ∧ h.u ≤ topM
  wc : ∀ w ∈ r.ws, w.c < 16 ∧ (w.m = 1 ∨ w.m = 2)
  nd : (r.hs.map (·.c) ++ r.ws.map (·.c)).Nodup
structure Lk.ok (L : Lk) : Prop where
  now : L.now ≤ topM
  last : L.last ≤ topM
  four : L.rs.length = 4
  rs : ∀ r ∈ L.rs, r.ok
theorem Lk.ok.rg {L : Lk} (h : L.ok) (i : Nat) : (L.rg i).ok := by
  unfold Lk.rg
  rw [List.getD_eq_getElem?_getD]
  cases hi : L.rs[i]? with
  | none => exact ⟨by simp, by simp, by simp, by simp, by simp⟩
  | some r => exact h.rs r (List.mem_of_getElem? hi)
theorem untilM_le (now : Nat) : untilM now ≤ topM := by
  unfold untilM
  split
  · exact Nat.le_refl _
  · have := topM_eq; omega
theorem giveL_ok (now : Nat) : ∀ (ws : List Wa) (last : Nat) (hs : List Ho), Rgn.ok ⟨hs, ws⟩ → last ≤ topM → Rgn.ok ⟨(giveL now last hs ws).2.1, (giveL now last hs ws).2.2⟩ ∧ (giveL now last hs ws).1 ≤ topM
  | [], last, hs, h, hl => ⟨h, hl⟩
  | w :: ws, last, hs, h, hl => by
    unfold giveL
    split
    · rename_i hc
      have hw := h.wc w (by simp)
      refine giveL_ok now ws (last + 1) _ ⟨by simp; omega, by have := h.w4; simp at this ⊢; omega, fun x hx => ?_, fun x hx => h.wc x (by simp [hx]), ?_⟩ (by omega)
      · rcases List.mem_append.1 hx with hx | hx
        · exact h.hc x hx
        · rw [List.mem_singleton.1 hx]
          exact ⟨hw.1, hw.2, by show last + 1 ≤ topM; omega, untilM_le now⟩
      · have := h.nd
        simp only [List.map_append, List.map_cons, List.map_nil, List.append_assoc, List.singleton_append] at this ⊢
        exact this
    · exact ⟨h, hl⟩
/-- Whose clients a give leaves: those that were there. -/
theorem giveL_sub (now : Nat) : ∀ (ws : List Wa) (last : Nat) (hs : List Ho), (giveL now last hs ws).2.1.map (·.c) ++ (giveL now last hs ws).2.2.map (·.c) = hs.map (·.c) ++ ws.map (·.c)
  | [], last, hs => rfl
  | w :: ws, last, hs => by
    unfold giveL
    split
    · rw [giveL_sub now ws]; simp
    · rfl
theorem rg_set {L : Lk} {i j : Nat} {r : Rgn} {n l : Nat} (hi : i < L.rs.length) : (⟨n, l, L.rs.set i r⟩ : Lk).rg j = if j = i then r else L.rg j := by
  unfold Lk.rg
  rw [List.getD_eq_getElem?_getD, List.getD_eq_getElem?_getD, List.getElem?_set]
  by_cases h : i = j
  · subst h; rw [if_pos rfl, if_pos rfl, if_pos hi]; rfl
  · rw [if_neg h, if_neg (fun e => h e.symm)]
theorem Lk.ok.put {L : Lk} (h : L.ok) {i : Nat} {r : Rgn} (hr : r.ok) {n l : Nat} (hn : n ≤ topM) (hl : l ≤ topM) : Lk.ok ⟨n, l, L.rs.set i r⟩ :=
  ⟨hn, hl, by show (L.rs.set i r).length = 4; rw [List.length_set]; exact h.four, fun x hx => by
    rcases List.mem_or_eq_of_mem_set hx with hx | rfl
    · exact h.rs x hx
    · exact hr⟩
theorem Lk.ok.give {L : Lk} (h : L.ok) (i : Nat) : (L.give i).ok := by
  obtain ⟨h1, h2⟩ := giveL_ok L.now (L.rg i).ws L.last (L.rg i).hs (h.rg i) h.last
  exact h.put h1 h.now h2
theorem hI_some {hs : List Ho} {c i : Nat} (h : hI hs c = some i) : ∃ hi : i < hs.length, hs[i].c = c := by
  obtain ⟨hi, h2, _⟩ := List.findIdx?_eq_some_iff_getElem.1 h
  exact ⟨hi, of_decide_eq_true h2⟩
theorem hI_none {hs : List Ho} {c : Nat} (h : hI hs c = none) : ∀ x ∈ hs, x.c ≠ c := fun x hx => by
  have := List.findIdx?_eq_none_iff.1 h x hx
  exact of_decide_eq_false (by simpa using this)
theorem wI_some {ws : List Wa} {c i : Nat} (h : wI ws c = some i) : ∃ hi : i < ws.length, ws[i].c = c := by
  obtain ⟨hi, h2, _⟩ := List.findIdx?_eq_some_iff_getElem.1 h
  exact ⟨hi, of_decide_eq_true h2⟩
theorem wI_none {ws : List Wa} {c : Nat} (h : wI ws c = none) : ∀ x ∈ ws, x.c ≠ c := fun x hx => by
  have := List.findIdx?_eq_none_iff.1 h x hx
  exact of_decide_eq_false (by simpa using this)
theorem Rgn.ok.sub {r : Rgn} (h : r.ok) {hs : List Ho} {ws : List Wa} (h1 : hs.Sublist r.hs) (h2 : ws.Sublist r.ws) : Rgn.ok ⟨hs, ws⟩ :=
  ⟨Nat.le_trans h1.length_le h.h4, Nat.le_trans h2.length_le h.w4, fun x hx => h.hc x (h1.subset hx), fun x hx => h.wc x (h2.subset hx), h.nd.sublist ((h1.map _).append (h2.map _))⟩
theorem eraseIdx_sub {α : Type} (l : List α) (i : Nat) : (l.eraseIdx i).Sublist l := List.eraseIdx_sublist l i
theorem Lk.ok.acquire {L : Lk} (h : L.ok) (c r how : Nat) : (acquireM L c r how).2.ok := by
  unfold acquireM
  split
  · exact h
  · rename_i hr
    split
    · exact h
    · rename_i hm
      have hc : c < 16 := by unfold rightM at hr; split at hr; exact absurd (by decide) hr; omega
      split
      · split <;> exact h
      · rename_i hh
        split
        · split <;> exact h
        · rename_i hw
          split
          · exact h
          · rename_i hf
            have hrg := h.rg r
            have hput : Rgn.ok ⟨(L.rg r).hs, (L.rg r).ws ++ [⟨c, how⟩]⟩ := by
              refine ⟨hrg.h4, by simp; omega, hrg.hc, fun x hx => ?_, ?_⟩
              · rcases List.mem_append.1 hx with hx | hx
                · exact hrg.wc x hx
                · rw [List.mem_singleton.1 hx]; exact ⟨hc, Decidable.not_not.1 hm⟩
              · have h1 := hI_none hh
                have h2 := wI_none hw
                rw [List.map_append, ← List.append_assoc, List.nodup_append]
                refine ⟨hrg.nd, by simp, fun a ha b hb e => ?_⟩
                subst e
                simp only [List.map_cons, List.map_nil, List.mem_singleton] at hb
                subst hb
                rcases List.mem_append.1 ha with ha | ha
                · obtain ⟨x, hx, e⟩ := List.mem_map.1 ha
                  exact h1 x hx e
                · obtain ⟨x, hx, e⟩ := List.mem_map.1 ha
                  exact h2 x hx e
            have hg : ((L.put r ⟨(L.rg r).hs, (L.rg r).ws ++ [⟨c, how⟩]⟩).give r).ok := Lk.ok.give (h.put hput h.now h.last) r
            split <;> exact hg
theorem Lk.ok.release {L : Lk} (h : L.ok) (c r t : Nat) : (releaseM L c r t).2.ok := by
  unfold releaseM
  split
  · exact h
  · exact Lk.ok.give (h.put ((h.rg r).sub (eraseIdx_sub _ _) (List.Sublist.refl _)) h.now h.last) r
theorem Lk.ok.cancel {L : Lk} (h : L.ok) (c r : Nat) : (cancelM L c r).2.ok := by
  unfold cancelM
  split
  · exact h
  · split
    · exact Lk.ok.give (h.put ((h.rg r).sub (List.Sublist.refl _) (eraseIdx_sub _ _)) h.now h.last) r
    · exact h
theorem Lk.ok.renew {L : Lk} (h : L.ok) (c r t : Nat) : (renewM L c r t).2.ok := by
  unfold renewM
  split
  · exact h
  · have hrg := h.rg r
    have e : ((L.rg r).hs.modify (heldM L c r t).1 fun h => { h with u := untilM L.now }).map (·.c) = (L.rg r).hs.map (·.c) := by
      apply List.ext_getElem (by simp)
      intro i h1 h2
      simp only [List.getElem_map, List.getElem_modify]
      split <;> rfl
    suffices hok : Rgn.ok ⟨(L.rg r).hs.modify (heldM L c r t).1 fun h => { h with u := untilM L.now }, (L.rg r).ws⟩ from h.put hok h.now h.last
    refine ⟨by simpa using hrg.h4, hrg.w4, fun x hx => ?_, hrg.wc, by show (List.map _ (List.modify _ _ _) ++ _).Nodup; rw [e]; exact hrg.nd⟩
    obtain ⟨i, hi, rfl⟩ := List.mem_iff_getElem.1 hx
    rw [List.getElem_modify]
    have hi' : i < (L.rg r).hs.length := by simpa using hi
    have := hrg.hc _ (List.getElem_mem hi')
    split
    · exact ⟨this.1, this.2.1, this.2.2.1, untilM_le _⟩
    · exact this
theorem Lk.ok.time {L : Lk} (h : L.ok) (n : Nat) (hn : n ≤ topM) : (timeM L n).ok := by
  unfold timeM
  split
  · exact h
  · have h1 : Lk.ok ⟨n, L.last, L.rs.map (dropM n)⟩ := ⟨hn, h.last, by simpa using h.four, fun x hx => by
      obtain ⟨r, hr, rfl⟩ := List.mem_map.1 hx
      exact (h.rs r hr).sub List.filter_sublist (List.Sublist.refl _)⟩
    exact (((h1.give 0).give 1).give 2).give 3
theorem Lk.ok.leaveR {L : Lk} (h : L.ok) (c r : Nat) : (leaveR L c r).ok := by
  unfold Go.Proofs.YtlolfcnfcgegdaaGreat.leaveR
  refine Lk.ok.cancel ?_ c r
  suffices ∀ (hs : List Ho) (L : Lk), L.ok → (hs.foldl (fun L h => if h.c = c then (releaseM L c r h.t).2 else L) L).ok from this _ _ h
  intro hs
  induction hs with
  | nil => exact fun L h => h
  | cons x hs ih =>
    intro L h
    refine ih _ ?_
    show Lk.ok (if x.c = c then _ else _)
    split
    · exact h.release _ _ _
    · exact h
theorem Lk.ok.leave {L : Lk} (h : L.ok) (c : Nat) : (leaveM L c).ok := (((h.leaveR c 0).leaveR c 1).leaveR c 2).leaveR c 3
theorem Lk.new_ok : Lk.new.ok := ⟨Nat.zero_le _, Nat.zero_le _, rfl, fun r hr => by
  have : r = ⟨[], []⟩ := by
    simp [Lk.new] at hr
    exact hr
  subst this
  exact ⟨by simp, by simp, by simp, by simp, by simp⟩⟩

theorem nodup_get {l : List Nat} (h : l.Nodup) {i j : Nat} (hi : i < l.length) (hj : j < l.length) (e : l[i] = l[j]) : i = j := by
  have hp := List.pairwise_iff_getElem.1 h
  rcases Nat.lt_trichotomy i j with q | q | q
  · exact absurd e (hp i j hi hj q)
  · exact q
  · exact absurd e.symm (hp j i hj hi q)
/-- A client is nowhere in a region. -/
def Gone (L : Lk) (c r : Nat) : Prop := (∀ h ∈ (L.rg r).hs, h.c ≠ c) ∧ ∀ w ∈ (L.rg r).ws, w.c ≠ c
theorem gone_iff {L : Lk} {c r : Nat} : Gone L c r ↔ c ∉ (L.rg r).hs.map (·.c) ++ (L.rg r).ws.map (·.c) := by
  unfold Gone
  rw [List.mem_append, List.mem_map, List.mem_map]
  constructor
  · rintro ⟨h1, h2⟩ (⟨x, hx, e⟩ | ⟨x, hx, e⟩)
    · exact h1 x hx e
    · exact h2 x hx e
  · exact fun h => ⟨fun x hx e => h (.inl ⟨x, hx, e⟩), fun x hx e => h (.inr ⟨x, hx, e⟩)⟩
theorem give_rg {L : Lk} {i j : Nat} (hi : i < L.rs.length) : (L.give i).rg j = if j = i then ⟨(giveL L.now L.last (L.rg i).hs (L.rg i).ws).2.1, (giveL L.now L.last (L.rg i).hs (L.rg i).ws).2.2⟩ else L.rg j := rg_set hi
theorem give_len {L : Lk} {i : Nat} : (L.give i).rs.length = L.rs.length := by unfold Lk.give; simp
theorem put_rg {L : Lk} {i j : Nat} {r : Rgn} (hi : i < L.rs.length) : (L.put i r).rg j = if j = i then r else L.rg j := rg_set hi
theorem put_give_rg {L : Lk} {i j : Nat} {r : Rgn} (hi : i < L.rs.length) (hj : j ≠ i) : ((L.put i r).give i).rg j = L.rg j := by
  rw [give_rg (by unfold Lk.put; simpa using hi), if_neg hj, put_rg hi, if_neg hj]
/-- Whose clients stand in a region behind a put and a give. -/
theorem put_give_cs {L : Lk} {i : Nat} {r : Rgn} (hi : i < L.rs.length) : (((L.put i r).give i).rg i).hs.map (·.c) ++ (((L.put i r).give i).rg i).ws.map (·.c) = r.hs.map (·.c) ++ r.ws.map (·.c) := by
  rw [give_rg (by unfold Lk.put; simpa using hi), if_pos rfl, giveL_sub, put_rg hi, if_pos rfl]
theorem release_other {L : Lk} {c r t j : Nat} (h : L.ok) (hj : j ≠ r) (hr : r < 4) : (releaseM L c r t).2.rg j = L.rg j := by
  unfold releaseM
  split
  · rfl
  · exact put_give_rg (by rw [h.four]; exact hr) hj
theorem cancel_other {L : Lk} {c r j : Nat} (h : L.ok) (hj : j ≠ r) (hr : r < 4) : (cancelM L c r).2.rg j = L.rg j := by
  unfold cancelM
  split
  · rfl
  · split
    · exact put_give_rg (by rw [h.four]; exact hr) hj
    · rfl
/-- A client that holds nothing there holds nothing behind a release that fails. -/
theorem release_none {L : Lk} {c r t : Nat} (hg : ∀ h ∈ (L.rg r).hs, h.c ≠ c) : (releaseM L c r t).2 = L := by
  have hne : (heldM L c r t).2 ≠ 0 := by
    unfold heldM
    by_cases h1 : rightM c r ≠ 0
    · rw [if_pos h1]; exact h1
    · rw [if_neg h1]
      cases hi : hI (L.rg r).hs c with
      | none => simp
      | some i =>
        obtain ⟨hl, e⟩ := hI_some hi
        exact absurd e (hg _ (List.getElem_mem hl))
  unfold releaseM
  rw [if_pos hne]
theorem release_gone {L : Lk} {c r t : Nat} (h : L.ok) (hr : r < 4) (hc : c < 16) (x : Ho) (hx : x ∈ (L.rg r).hs) (hxc : x.c = c) (hxt : x.t = t) : Gone (releaseM L c r t).2 c r := by
  have hrg := h.rg r
  have hrt : rightM c r = 0 := by unfold rightM; rw [if_neg (by omega), if_neg (by omega)]
  obtain ⟨i, hi⟩ : ∃ i, hI (L.rg r).hs c = some i := by
    cases hi : hI (L.rg r).hs c with
    | none => exact absurd hxc (hI_none hi x hx)
    | some i => exact ⟨i, rfl⟩
  obtain ⟨hl, e⟩ := hI_some hi
  have nd := hrg.nd
  have ndh := (List.nodup_append.1 nd).1
  have hxi : (L.rg r).hs[i] = x := by
    obtain ⟨j, hj, rfl⟩ := List.mem_iff_getElem.1 hx
    have : i = j := by
      have e2 : ((L.rg r).hs.map (·.c))[i]'(by simpa using hl) = ((L.rg r).hs.map (·.c))[j]'(by simpa using hj) := by simp [e, hxc]
      exact nodup_get ndh _ _ e2
    subst this; rfl
  have hh : heldM L c r t = (i, 0) := by
    unfold heldM
    rw [if_neg (by rw [hrt]; simp), hi]
    simp only [List.getD_eq_getElem?_getD, List.getElem?_eq_getElem hl, Option.getD_some]
    rw [hxi, if_pos hxt]
  unfold releaseM
  rw [hh, if_neg (by simp)]
  rw [gone_iff, put_give_cs (by rw [h.four]; exact hr)]
  intro hm
  rcases List.mem_append.1 hm with hm | hm
  · obtain ⟨y, hy, ey⟩ := List.mem_map.1 hm
    obtain ⟨j, hj, hji, rfl⟩ : ∃ j, ∃ hj : j < (L.rg r).hs.length, j ≠ i ∧ (L.rg r).hs[j] = y := by
      obtain ⟨j, h1, h2⟩ := List.mem_eraseIdx_iff_getElem.1 hy
      exact ⟨j, h1, h2.1, h2.2⟩
    have e2 : ((L.rg r).hs.map (·.c))[j]'(by simpa using hj) = ((L.rg r).hs.map (·.c))[i]'(by simpa using hl) := by simp [e, ey]
    exact hji (nodup_get ndh _ _ e2)
  · have h3 := (List.nodup_append.1 nd).2.2 c (List.mem_map.2 ⟨x, hx, hxc⟩) c hm
    exact h3 rfl
theorem cancel_gone {L : Lk} {c r : Nat} (h : L.ok) (hr : r < 4) (hc : c < 16) (hg : ∀ x ∈ (L.rg r).hs, x.c ≠ c) : Gone (cancelM L c r).2 c r := by
  have hrt : rightM c r = 0 := by unfold rightM; rw [if_neg (by omega), if_neg (by omega)]
  unfold cancelM
  rw [if_neg (by rw [hrt]; simp)]
  cases hi : wI (L.rg r).ws c with
  | none => exact ⟨hg, wI_none hi⟩
  | some i =>
    simp only
    obtain ⟨hl, e⟩ := wI_some hi
    have nd := (List.nodup_append.1 (h.rg r).nd).2.1
    rw [gone_iff, put_give_cs (by rw [h.four]; exact hr)]
    intro hm
    rcases List.mem_append.1 hm with hm | hm
    · obtain ⟨y, hy, ey⟩ := List.mem_map.1 hm
      exact hg y hy ey
    · obtain ⟨y, hy, ey⟩ := List.mem_map.1 hm
      obtain ⟨j, hj, hji, rfl⟩ : ∃ j, ∃ hj : j < (L.rg r).ws.length, j ≠ i ∧ (L.rg r).ws[j] = y := by
        obtain ⟨j, h1, h2⟩ := List.mem_eraseIdx_iff_getElem.1 hy
        exact ⟨j, h1, h2.1, h2.2⟩
      have e2 : ((L.rg r).ws.map (·.c))[j]'(by simpa using hj) = ((L.rg r).ws.map (·.c))[i]'(by simpa using hl) := by simp [e, ey]
      exact hji (nodup_get nd _ _ e2)
theorem gone_mono {L : Lk} {c r : Nat} (hg : Gone L c r) : (cancelM L c r).2 = L := by
  unfold cancelM
  split
  · rfl
  · split
    · rename_i i hi
      obtain ⟨hl, e⟩ := wI_some hi
      exact absurd e (hg.2 _ (List.getElem_mem hl))
    · rfl
/-- Behind the releases of what a client held it holds nothing there. -/
theorem leave_folds {c r : Nat} (hr : r < 4) (hc : c < 16) : ∀ (hs : List Ho) (L : Lk), L.ok → (Gone L c r ∨ ∀ x ∈ (L.rg r).hs, x.c = c → x ∈ hs) →
    (Gone (hs.foldl (fun L h => if h.c = c then (releaseM L c r h.t).2 else L) L) c r ∨ ∀ x ∈ ((hs.foldl (fun L h => if h.c = c then (releaseM L c r h.t).2 else L) L).rg r).hs, x.c ≠ c)
  | [], L, h, hg => by
    rcases hg with hg | hg
    · exact .inl hg
    · exact .inr fun x hx e => by have := hg x hx e; cases this
  | y :: hs, L, h, hg => by
    rw [List.foldl_cons]
    by_cases hy : y.c = c
    · rw [if_pos hy]
      refine leave_folds hr hc hs _ (h.release _ _ _) ?_
      rcases hg with hg | hg
      · rw [release_none hg.1]; exact .inl hg
      · by_cases hx : ∃ x ∈ (L.rg r).hs, x.c = c ∧ x.t = y.t
        · obtain ⟨x, hx, h1, h2⟩ := hx
          exact .inl (release_gone h hr hc x hx h1 h2)
        · have e : (releaseM L c r y.t).2 = L := by
            have hrt : rightM c r = 0 := by unfold rightM; rw [if_neg (by omega), if_neg (by omega)]
            have hne : (heldM L c r y.t).2 ≠ 0 := by
              unfold heldM
              rw [if_neg (by rw [hrt]; simp)]
              cases hi : hI (L.rg r).hs c with
              | none => simp
              | some i =>
                obtain ⟨hl, e⟩ := hI_some hi
                simp only [List.getD_eq_getElem?_getD, List.getElem?_eq_getElem hl, Option.getD_some]
                rw [if_neg (fun et => hx ⟨_, List.getElem_mem hl, e, et⟩)]
                simp
            unfold releaseM
            rw [if_pos hne]
          rw [e]
          refine .inr fun x hx' e2 => ?_
          rcases List.mem_cons.1 (hg x hx' e2) with rfl | h3
          · exact absurd ⟨x, hx', e2, rfl⟩ hx
          · exact h3
    · rw [if_neg hy]
      refine leave_folds hr hc hs L h (hg.imp id fun hg x hx e => ?_)
      rcases List.mem_cons.1 (hg x hx e) with rfl | h3
      · exact absurd e hy
      · exact h3
theorem folds_ok {c r : Nat} : ∀ (hs : List Ho) (L : Lk), L.ok → (hs.foldl (fun L h => if h.c = c then (releaseM L c r h.t).2 else L) L).ok
  | [], L, h => h
  | y :: hs, L, h => by
    rw [List.foldl_cons]
    refine folds_ok hs _ ?_
    split
    · exact h.release _ _ _
    · exact h
theorem folds_other {c r j : Nat} (hr : r < 4) (hj : j ≠ r) : ∀ (hs : List Ho) (L : Lk), L.ok → (hs.foldl (fun L h => if h.c = c then (releaseM L c r h.t).2 else L) L).rg j = L.rg j
  | [], L, h => rfl
  | y :: hs, L, h => by
    rw [List.foldl_cons]
    split
    · rw [folds_other hr hj hs _ (h.release _ _ _), release_other h hj hr]
    · exact folds_other hr hj hs L h
theorem leaveR_gone {L : Lk} {c r : Nat} (h : L.ok) (hr : r < 4) (hc : c < 16) : Gone (leaveR L c r) c r := by
  unfold leaveR
  refine cancel_gone (folds_ok _ _ h) hr hc ?_
  rcases leave_folds hr hc (L.rg r).hs L h (.inr fun x hx _ => hx) with hg | hg
  · exact hg.1
  · exact hg
theorem leaveR_other {L : Lk} {c r j : Nat} (h : L.ok) (hr : r < 4) (hj : j ≠ r) : (leaveR L c r).rg j = L.rg j := by
  unfold leaveR
  rw [cancel_other (folds_ok _ _ h) hj hr, folds_other hr hj _ _ h]
theorem leaveM_gone {L : Lk} {c : Nat} (h : L.ok) (hc : c < 16) (j : Nat) (hj : j < 4) : Gone (leaveM L c) c j := by
  have g : ∀ {K : Lk} {i : Nat}, K.ok → i < 4 → j ≠ i → Gone K c j → Gone (leaveR K c i) c j := fun hK hi hne hg => by
    unfold Gone
    rw [leaveR_other hK hi hne]
    exact hg
  unfold leaveM
  have k0 := h.leaveR c 0
  have k1 := k0.leaveR c 1
  have k2 := k1.leaveR c 2
  by_cases h3 : j = 3
  · subst h3; exact leaveR_gone k2 (by decide) hc
  · refine g k2 (by decide) h3 ?_
    by_cases h2 : j = 2
    · subst h2; exact leaveR_gone k1 (by decide) hc
    · refine g k1 (by decide) h2 ?_
      by_cases h1 : j = 1
      · subst h1; exact leaveR_gone k0 (by decide) hc
      · refine g k0 (by decide) h1 ?_
        have : j = 0 := by omega
        subst this
        exact leaveR_gone h (by decide) hc
end Go.Proofs.YtlolfcnfcgegdaaGreat
