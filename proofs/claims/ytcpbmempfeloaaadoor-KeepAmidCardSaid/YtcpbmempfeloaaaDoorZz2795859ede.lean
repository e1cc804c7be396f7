/- Texts of the proofs, part 35: what the functions that they reach do, walked; no conditions beyond those that each states. -/
import Derived.Deep.QuietTactic
import Derived.BigQuiet
import Derived.Test.YtcpbmempfeloaaaDoorZz7a5bb84299
set_option linter.unusedVariables false
set_option linter.unusedSimpArgs false
/- Law 14: a keeper that keeps a state, in memory. -/
namespace Go.Proofs.YtcpbmempfeloaaaDoor
open Go.RowKit
set_option linter.unusedVariables false
set_option linter.unusedSimpArgs false

theorem recs_mem (b : Nat) : ∀ (es : List En) (r : Nat × En), r ∈ recs b es → r.2 ∈ es ∧ b < r.1 ∧ r.1 ≤ b + es.length
  | [], r, h => by cases h
  | x :: xs, r, h => by
    rcases List.mem_cons.1 h with h | h
    · subst h
      exact ⟨List.mem_cons_self .., by show b < b + 1; omega, by show b + 1 ≤ b + (xs.length + 1); omega⟩
    · obtain ⟨h1, h2, h3⟩ := recs_mem (b + 1) xs r h
      exact ⟨List.mem_cons_of_mem _ h1, by omega, by show r.1 ≤ b + (xs.length + 1); omega⟩
theorem Sta.right_bad {s : Sta} (h : s.right = true) : (∀ x ∈ s.es, badE x = false) ∧ s.base < 1152921504606846976 ∧ -1 ≤ s.vote ∧ s.vote < 16 := by
  unfold Sta.right at h
  simp only [Bool.and_eq_true, decide_eq_true_eq, Bool.not_eq_true', List.any_eq_false] at h
  exact ⟨fun x hx => by have := h.2 x hx; simpa using this, h.1.1.1.2, h.1.1.2, h.1.2⟩
/-- What a kept state's records are. -/
theorem KI.recs_ok {n q : Nat} {K : Ke} {J : Jn} {D : Dk} {s : Sta} (h : KI n q K J D s) : J.all = K.held.map recB ∧ (∀ r ∈ K.held, r.1 < 18446744073709551616 ∧ r.2.t < 18446744073709551616 ∧ badE r.2 = false) ∧ K.held.length ≤ n := by
  obtain ⟨h1, h2, _⟩ := Sta.right_bad h.rt
  refine ⟨h.kb.hd, fun r hr => ?_, by rw [h.cl, recs_len]; exact h.ln⟩
  rw [h.cl] at hr
  obtain ⟨m1, m2, m3⟩ := recs_mem _ _ _ hr
  have hn := h.kb.ji.n17
  have hl := h.ln
  exact ⟨by omega, h.wf.2.2.2 _ m1, h1 _ m1⟩
theorem openS_es (s : Sta) (es : List En) (rs : List (Nat × En)) : openS { s with es := es } rs = openS s rs := rfl
/-- Opened again, behind any crash: walked. -/
theorem kagain_calls {n : Nat} {P : Nat → Prop} {w : World} {bd : Nat} {m q : Nat} {K : Ke} {J : Jn} {D : Dk} {s : Sta} {zs : List Int} (h : SD n P w bd (D.crash zs)) (h0 : 0 < n) (hn : n ≤ w.heap.size) (ht : TabOK w) (hk : KI m q K J D s) (hq : q + 2 < 250) :
    Calls Tryd.prog 36 #[.pointer (some ⟨bd, 0, none⟩), .int .i64 1, .int .i64 (m : Nat)] w fun e w' => ∃ bk bj X P' J' D' a4 c4 hv rs xs a c, e = .returned (.tuple #[.pointer (some ⟨bk, 0, none⟩), vS (raise s) (.slice a xs.length c), .int .i64 0]) ∧ KM n X P' w' bk bj bd (m : Nat) K J' D' a4 c4 hv rs ∧ KI m (q + 1) K J' D' s ∧ SA n X w' (raise s) (.slice a xs.length c) xs ∧ Kp P X w w' := by
  obtain ⟨D', e1, e2, e3⟩ := hk.opens hq zs
  obtain ⟨r1, r2, r3⟩ := hk.recs_ok
  obtain ⟨b1, b2, b3, b4⟩ := Sta.right_bad hk.rt
  have hm := hk.kb.ji.n17
  have hK : K = ⟨headB s, s.base, K.held⟩ := by
    obtain ⟨sl, ba, hd⟩ := K
    have := hk.kb.slot
    have := hk.kb.base
    simp_all
  have hop : openS { s with es := [] } K.held = raise s := by
    rw [openS_es, hk.cl, openS_recs]
  have k := kopen_calls h h0 hn ht (by show (0 : Nat) < 1000000; decide) (m : Nat) { J with epoch := J.epoch + 1 } D' e1 { s with es := [] } K.held ⟨hk.wf.1, hk.wf.2.1, hk.wf.2.2.1, fun x hx => (by cases hx)⟩ ⟨b3, by show s.vote < 255; omega⟩ (by
    rcases e3 with ⟨mm, e3⟩ | ⟨e3, e4, e5, e6, e7⟩
    · exact .inl ⟨mm, e3⟩
    · exact .inr ⟨⟨_, _, e3⟩, e4, e5, e6, e7⟩) r1 r2 (by omega) (by show s.base + K.held.length + 1 < _; omega)
  rw [hop] at k
  refine k.mono fun e w' hh => ?_
  obtain ⟨bk, bj, X, P', a4, c4, hv, rs, xs, a, c, g1, g2, g3, g4⟩ := hh
  refine ⟨bk, bj, X, P', _, D', a4, c4, hv, rs, xs, a, c, g1, ?_, e2, g3, g4⟩
  rw [hK]
  exact g2
/-- A keeper that keeps a state. -/
def KO (n m q : Nat) (X : Nat → Prop) (w : World) (bk bd : Nat) (s : Sta) : Prop := ∃ P bj K J D a4 c4 hv rs q', KM n X P w bk bj bd (m : Nat) K J D a4 c4 hv rs ∧ KI m q' K J D s ∧ q' ≤ q
/-- A disk behind a crash, that keeps a state. -/
def KCr (n m q : Nat) (P : Nat → Prop) (w : World) (bd : Nat) (s : Sta) : Prop := ∃ K J D zs q', SD n P w bd (D.crash zs) ∧ KI m q' K J D s ∧ q' ≤ q
section
variable {n m q : Nat} {X P : Nat → Prop} {w w' : World} {bk bd : Nat} {s0 s : Sta}
theorem KO.tt (h : KO n m q X w bk bd s0) (hf : Fr (fun _ _ => True) w w') : KO n m q X w' bk bd s0 := by
  obtain ⟨P, bj, K, J, D, a4, c4, hv, rs, q', h1, h2⟩ := h
  exact ⟨P, bj, K, J, D, a4, c4, hv, rs, q', h1.tt hf, h2⟩
theorem KO.lo (h : KO n m q X w bk bd s0) : ∀ c, X c → n ≤ c := by
  obtain ⟨P, bj, K, J, D, a4, c4, hv, rs, q', h1, h2⟩ := h
  exact h1.lo
theorem KO.hi (h : KO n m q X w bk bd s0) : ∀ c, X c → c < w.heap.size := by
  obtain ⟨P, bj, K, J, D, a4, c4, hv, rs, q', h1, h2⟩ := h
  exact h1.hi
theorem KO.mono {q2 : Nat} (h : KO n m q X w bk bd s0) (hq : q ≤ q2) : KO n m q2 X w bk bd s0 := by
  obtain ⟨P, bj, K, J, D, a4, c4, hv, rs, q', h1, h2, h3⟩ := h
  exact ⟨P, bj, K, J, D, a4, c4, hv, rs, q', h1, h2, by omega⟩
/-- Save. -/
theorem ko_save (h : KO n m q X w bk bd s0) (h0 : 0 < n) (hn : n ≤ w.heap.size) (v : Value) (xs : List EV) (hs : SA n X w s v xs) (hw : s.wf) (ht : TabOK w) (hl : xs.length ≤ 9223372036854775807) (hq : q + m + 8 < 250) :
    Calls Tryd.prog 35 #[.pointer (some ⟨bk, 0, none⟩), vS s v] w fun e w' => ∃ c X' s1, e = .returned (.int .i64 c) ∧ KO n m (q + m + 3) X' w' bk bd s1 ∧ Kp X X' w w' ∧ ((c = 0 ∧ s1 = s) ∨ (c = 1 ∧ s1 = s0) ∨ (c = 42 ∧ s1 = s0 ∧ m < s.es.length)) := by
  obtain ⟨P, bj, K, J, D, a4, c4, hv, rs, q', h1, h2, h3⟩ := h
  have hm := h2.kb.ji.n17
  have hp := h2.kb.ji.pend
  have hrl : rs.length = K.held.length := by rw [← h1.rc, List.length_map]
  have hr3 := h2.recs_ok.2.2
  refine (ksave_calls h1 h0 hn s v xs hs hw ht (by rw [hp]; show (0 : Nat) < _; decide) hl (by omega) (by omega)).mono fun e w' hh => ?_
  obtain ⟨he, X', P', a4', c4', hv', rs', g1, g2⟩ := hh
  rcases h2.save_or hw (s := s) (by omega) with ⟨K', J', D', e1, e2⟩ | e1 | ⟨e1, e2⟩
  · rw [e1] at he g1
    exact ⟨0, X', s, he, ⟨P', bj, K', J', D', a4', c4', hv', rs', _, g1, e2, by omega⟩, g2, .inl ⟨rfl, rfl⟩⟩
  · rw [e1] at he g1
    exact ⟨1, X', s0, he, ⟨P', bj, K, J, D, a4', c4', hv', rs', _, g1, h2, by omega⟩, g2, .inr (.inl ⟨rfl, rfl⟩)⟩
  · rw [e1] at he g1
    exact ⟨42, X', s0, he, ⟨P', bj, K, J, D, a4', c4', hv', rs', _, g1, h2, by omega⟩, g2, .inr (.inr ⟨rfl, rfl, e2⟩)⟩
/-- A crash. -/
theorem ko_crash {K' : Nat → Obj → Prop} (h : KO n m q X w bk bd s0) (hn : n ≤ w.heap.size) (pa : Option Addr) (pn pc : Nat) (zs : List Int) (hp : IntsAt K' w (.slice pa pn pc) zs) (hK : ∀ c o, K' c o → ¬ X c) :
    Calls Tryd.prog 16 #[.pointer (some ⟨bd, 0, none⟩), .slice pa pn pc] w fun e w' => e = .returned (.tuple #[]) ∧ ∃ X', KCr n m q X' w' bd s0 ∧ Kp X X' w w' := by
  obtain ⟨P, bj, K, J, D, a4, c4, hv, rs, q', h1, h2, h3⟩ := h
  have hsd : SD n X w bd D := ⟨h1.st.sd.dd.mono fun c _ hc => h1.px c hc, h1.lo, h1.hi⟩
  refine (sd_crash hsd hn pa pn pc zs hp hK).mono fun e w' hh => ?_
  obtain ⟨he, P', g1, g2⟩ := hh
  exact ⟨he, P', ⟨K, J, D, zs, q', g1, h2, h3⟩, g2⟩
theorem KCr.tt (h : KCr n m q X w bd s0) (hf : Fr (fun _ _ => True) w w') : KCr n m q X w' bd s0 := by
  obtain ⟨K, J, D, zs, q', h1, h2⟩ := h
  exact ⟨K, J, D, zs, q', ⟨h1.dd.tt hf, h1.lo, fun c hc => Nat.lt_of_lt_of_le (h1.hi c hc) hf.size⟩, h2⟩
theorem KCr.lo (h : KCr n m q X w bd s0) : ∀ c, X c → n ≤ c := by
  obtain ⟨K, J, D, zs, q', h1, h2⟩ := h
  exact h1.lo
/-- Opened again. -/
theorem kc_open (h : KCr n m q X w bd s0) (h0 : 0 < n) (hn : n ≤ w.heap.size) (ht : TabOK w) (hq : q + 2 < 250) :
    Calls Tryd.prog 36 #[.pointer (some ⟨bd, 0, none⟩), .int .i64 1, .int .i64 (m : Nat)] w fun e w' => ∃ bk X' xs a c, e = .returned (.tuple #[.pointer (some ⟨bk, 0, none⟩), vS (raise s0) (.slice a xs.length c), .int .i64 0]) ∧ KO n m (q + 1) X' w' bk bd s0 ∧ SA n X' w' (raise s0) (.slice a xs.length c) xs ∧ Kp X X' w w' := by
  obtain ⟨K, J, D, zs, q', h1, h2, h3⟩ := h
  refine (kagain_calls h1 h0 hn ht h2 (by omega)).mono fun e w' hh => ?_
  obtain ⟨bk, bj, X', P', J', D', a4, c4, hv, rs, xs, a, c, g1, g2, g3, g4, g5⟩ := hh
  exact ⟨bk, X', xs, a, c, g1, ⟨P', bj, K, J', D', a4, c4, hv, rs, _, g2, g3, by omega⟩, g4, g5⟩
theorem sync_same {K : Ke} {J : Jn} {D : Dk} (h : KI m q K J D s0) : D.sync = D := by
  have hu := h.kb.ji.up
  have hp : D.pend = [] := h.kb.ji.pend
  obtain ⟨se, su, pe, fu, dn⟩ := D
  have h1 : dn = false := hu.up
  have h2 : fu < 0 := hu.fz
  subst h1
  replace hp : pe = [] := hp
  subst hp
  have hb : Dk.burn ⟨se, su, [], fu, false⟩ = ⟨se, su, [], fu, false⟩ := by
    unfold Dk.burn
    dsimp only
    have e1 : fu - min 1 (max 0 fu) = fu := by omega
    have e2 : (false || fu == 0) = false := by simp; omega
    rw [e1, e2]
  unfold Dk.sync
  rw [hb]
  rfl
/-- A sync of the disk. -/
theorem ko_sync (h : KO n m q X w bk bd s0) (hn : n ≤ w.heap.size) :
    Calls Tryd.prog 40 #[.pointer (some ⟨bd, 0, none⟩)] w fun e w' => e = .returned (.tuple #[]) ∧ ∃ X', KO n m q X' w' bk bd s0 ∧ Kp X X' w w' := by
  obtain ⟨P, bj, K, J, D, a4, c4, hv, rs, q', h1, h2, h3⟩ := h
  obtain ⟨F, G, g1, g2, g3, g4, g5⟩ := h1.st.jd
  refine (sync_calls w bd F D g1).mono fun e w' ⟨he, hd, hf⟩ => ⟨he, ?_⟩
  obtain ⟨P', s1, s2⟩ := st_step h1.st hn (JPost.jd (F := F) (G := G) ⟨w.heap.size, Nat.le_refl _, hf.size, (g2.fr hf fun c _ _ k => g5 c k).mono fun c k => ⟨.inl k, (g4 c k).2⟩, hd⟩ g3 g4 g5) (hf.mono fun c _ hc k => hc (g3 c k).1)
  rw [sync_same h2] at s1
  obtain ⟨X', k1, k2⟩ := h1.jd hn s1 s2
  exact ⟨X', ⟨P', bj, K, J, D, a4, c4, hv, rs, q', k1, h2, h3⟩, k2⟩
/-- Nothing is pending. -/
theorem ko_pending (h : KO n m q X w bk bd s0) :
    Calls Tryd.prog 31 #[.pointer (some ⟨bd, 0, none⟩)] w fun e w' => e = .returned (.int .i64 0) ∧ w = w' := by
  obtain ⟨P, bj, K, J, D, a4, c4, hv, rs, q', h1, h2, h3⟩ := h
  obtain ⟨F, G, g1, g2, g3, g4, g5⟩ := h1.st.jd
  refine (pending_calls w bd F D g1).mono fun e w' hh => ?_
  have hp : D.pend = [] := h2.kb.ji.pend
  rw [hp] at hh
  exact hh
end
end Go.Proofs.YtcpbmempfeloaaaDoor
/- Law 14: entries, logs and states that are the same; the last term. -/
namespace Go.Proofs.YtcpbmempfeloaaaDoor
open Go.RowKit
set_option linter.unusedVariables false
set_option linter.unusedSimpArgs false

theorem en_eq (x y : EV) : x.en = y.en ↔ x.t = y.t ∧ x.k = y.k ∧ x.d = y.d := by
  unfold EV.en
  rw [En.mk.injEq]
theorem RowsAt.len' {α : Type} {K : Nat → Obj → Prop} {w : World} {a : Option Addr} {n c k : Nat} {enc : α → List Value} {xs : List α} (h : RowsAt K w (.slice a n c) k enc xs) : n = xs.length := by
  obtain ⟨_, _, e, _⟩ := h; cases e; rfl
set_option maxRecDepth 100000 in
set_option maxHeartbeats 4000000 in
/-- The document's Entries. -/
theorem esame_calls {K1 K2 K3 K4 : Nat → Obj → Prop} (w : World) (va vb : Value) (A B : List EV) (hA : RowsAt K1 w va 3 encE A) (hB : RowsAt K2 w vb 3 encE B) (dA : ∀ x ∈ A, BytesAt K3 w (.slice x.a x.d.length x.c) x.d ∧ x.d.length ≤ 140737488355328) (dB : ∀ x ∈ B, BytesAt K4 w (.slice x.a x.d.length x.c) x.d) (hl : A.length ≤ 1000000) :
    Calls Tryd.prog 44 #[va, vb] w fun e w' => e = .returned (.bool (decide (A.map EV.en = B.map EV.en))) ∧ ∃ k, w' = w.drewN k := by
  obtain ⟨a1, c1, rfl, _⟩ := hA.form
  obtain ⟨a2, c2, rfl, _⟩ := hB.form
  have HA := Lib.hid hA
  have HB := Lib.hid hB
  have HDA := Lib.hid dA
  have HDB := Lib.hid dB
  clear hA hB dA dB
  by_cases hne : A.length = B.length
  · have HE := Lib.hid hne
    rw [← hne]
    obtain ⟨R, hR⟩ : ∃ R, decide (A.map EV.en = B.map EV.en) = R := ⟨_, rfl⟩
    have HR := Lib.hid hR
    rw [hR]
    obtain ⟨L, hL⟩ : ∃ L, A.length = L := ⟨_, rfl⟩
    have HL := Lib.hid hL
    rw [hL] at hl ⊢
    have h1 : ((L : Int) != L) = false := by simp
    clear hne hR hL
    go_enter Tryd.func44, Tryd.ntmps44
    go_wp2
    go_loopw [5] (fun i wr => ∃ (j k : Nat), i = .int .i64 (j : Nat) ∧ j ≤ L ∧ Hid ((A.take j).map EV.en = (B.take j).map EV.en) ∧ Hid (wr = w.drewN k)) (fun i _ => L - (intOf i).toNat)
    case atStart => exact ⟨0, 0, rfl, Nat.zero_le _, rfl, rfl⟩
    case round =>
      obtain ⟨j, k, rfl, hj, HT, HW⟩ := hrel
      have hwr := HW.out
      subst hwr
      clear HW
      by_cases hlt : j < L
      · have hltI : (j : Int) < L := by omega
        have hltA : j < A.length := by have := HL.out; omega
        have hltB : j < B.length := by have := HE.out; have := HL.out; omega
        obtain ⟨b1, o1, _, ha1, _, _, k1⟩ := HA.out.spot (by omega)
        obtain ⟨b2, o2, _, ha2, _, _, k2⟩ := HB.out.spot (by omega)
        obtain ⟨u1, u2, u3⟩ := RowsAt.e3 (K := fun _ _ => True) k1 j hltA
        obtain ⟨v1, v2, v3⟩ := RowsAt.e3 (K := fun _ _ => True) k2 j hltB
        have SC : Hid (∀ n, Calls Tryd.prog 59 #[.slice A[j].a A[j].d.length A[j].c, .slice B[j].a B[j].d.length B[j].c] ((w.drewN k).drewN n) fun e w' => e = .returned (.bool (decide (A[j].d = B[j].d))) ∧ ∃ m, w' = ((w.drewN k).drewN n).drewN m) := fun n => same_calls _ _ _ _ _ ((HDA.out _ (List.getElem_mem hltA)).1.tt (((Fr.refl _ w).drewN k).drewN n)) ((HDB.out _ (List.getElem_mem hltB)).tt (((Fr.refl _ w).drewN k).drewN n)) (HDA.out _ (List.getElem_mem hltA)).2
        have hTA : Hid ((A.take (j + 1)).map EV.en = (A.take j).map EV.en ++ [A[j].en] ∧ (B.take (j + 1)).map EV.en = (B.take j).map EV.en ++ [B[j].en]) := ⟨by rw [List.take_succ_eq_append_getElem hltA, List.map_append]; rfl, by rw [List.take_succ_eq_append_getElem hltB, List.map_append]; rfl⟩
        have NE : Hid (A[j].en ≠ B[j].en → R = false) := fun hx => by
          rw [← HR.out]
          refine decide_eq_false fun e => hx ?_
          have e2 := congrArg (fun l => l[j]?) e
          simp only [List.getElem?_map, List.getElem?_eq_getElem hltA, List.getElem?_eq_getElem hltB, Option.map_some, Option.some.injEq] at e2
          exact e2
        have EQ := Lib.hid (en_eq A[j] B[j])
        obtain ⟨x, hx⟩ : ∃ x, A[j] = x := ⟨_, rfl⟩
        obtain ⟨y, hy⟩ : ∃ y, B[j] = y := ⟨_, rfl⟩
        rw [hx] at u1 u2 u3 SC hTA NE EQ
        rw [hy] at v1 v2 v3 SC hTA NE EQ
        obtain ⟨xt, xk, xa, xc, xd⟩ := x
        obtain ⟨yt, yk, ya, yc, yd⟩ := y
        dsimp only at u1 u2 u3 v1 v2 v3 SC EQ
        generalize hxl : xd.length = xl at u3 SC
        generalize hyl : yd.length = yl at v3 SC
        have u1' : (w.drewN k).cell? ⟨b1, o1 + j * 3, none⟩ = some (.int .u64 (xt : Nat)) := u1
        have u2' : (w.drewN k).cell? ⟨b1, o1 + j * 3 + 1, none⟩ = some (.int .i64 xk) := u2
        have u3' : (w.drewN k).cell? ⟨b1, o1 + j * 3 + 2, none⟩ = some (.slice xa xl xc) := u3
        have v1' : (w.drewN k).cell? ⟨b2, o2 + j * 3, none⟩ = some (.int .u64 (yt : Nat)) := v1
        have v2' : (w.drewN k).cell? ⟨b2, o2 + j * 3 + 1, none⟩ = some (.int .i64 yk) := v2
        have v3' : (w.drewN k).cell? ⟨b2, o2 + j * 3 + 2, none⟩ = some (.slice ya yl yc) := v3
        subst ha1 ha2
        obtain ⟨wa, hwa⟩ : ∃ wa, w.drewN k = wa := ⟨_, rfl⟩
        rw [hwa] at SC u1' u2' u3' v1' v2' v3' ⊢
        have HWA := Lib.hid hwa
        clear u1 u2 u3 v1 v2 v3 hx hy k1 k2 hwa hxl hyl
        by_cases q1 : xt = yt
        · subst q1
          have g1 : ((xt : Int) != (xt : Int)) = false := by simp
          by_cases q2 : xk = yk
          · subst q2
            have g2 : (xk != xk) = false := by simp
            by_cases q3 : xd = yd
            · rw [decide_eq_true q3] at SC
              have HQ : Hid ((⟨xt, xk, xa, xc, xd⟩ : EV).en = (⟨xt, xk, ya, yc, yd⟩ : EV).en) := EQ.out.2 ⟨rfl, rfl, q3⟩
              clear q3 EQ NE
              go_wp2_with fail
              go_quiet ((go_at_call 59; exact Calls.quiet_of (SC.out _)))
              go_wp2
              go_roundw
              case rel => exact ⟨j + 1, k + nq, by go_num, by omega, by show _ = _; rw [hTA.out.1, hTA.out.2, HT.out, HQ.out], by show _ = _; rw [← HWA.out, World.drewN_drewN]⟩
              case measure => simp [intOf]; omega
            · rw [decide_eq_false q3] at SC
              have RF : Hid (R = false) := NE.out fun e => q3 (EQ.out.1 e).2.2
              clear q3 EQ NE
              go_wp2_with fail
              go_quiet ((go_at_call 59; exact Calls.quiet_of (SC.out _)))
              go_wp2
              go_ret
              exact ⟨by rw [RF.out]; rfl, k + nq, by rw [← HWA.out, World.drewN_drewN]⟩
          · have g2 : (xk != yk) = true := by simpa using q2
            have RF : Hid (R = false) := NE.out fun e => q2 (EQ.out.1 e).2.1
            clear q2 EQ NE SC
            go_wp2_with fail
            go_quiet (fail)
            go_wp2
            go_ret
            exact ⟨by rw [RF.out]; rfl, k + nq, by rw [← HWA.out, World.drewN_drewN]⟩
        · have g1 : ((xt : Int) != (yt : Int)) = true := by simp; omega
          have RF : Hid (R = false) := NE.out fun e => q1 (EQ.out.1 e).1
          clear q1 EQ NE SC
          go_wp2_with fail
          go_quiet (fail)
          go_wp2
          go_ret
          exact ⟨by rw [RF.out]; rfl, k + nq, by rw [← HWA.out, World.drewN_drewN]⟩
      · have hge : (L : Int) ≤ j := by omega
        have RT : Hid (R = true) := by
          show _ = _
          rw [← HR.out]
          have e := HT.out
          rw [List.take_of_length_le (by have := HL.out; omega), List.take_of_length_le (by have := HE.out; have := HL.out; omega)] at e
          exact decide_eq_true e
        go_wp2
        go_ret
        exact ⟨by rw [RT.out]; rfl, k, rfl⟩
  · have hne' : ((A.length : Int) != B.length) = true := by simp; omega
    have RF : Hid (decide (A.map EV.en = B.map EV.en) = false) := decide_eq_false fun e => hne (by have := congrArg List.length e; simpa using this)
    generalize decide (A.map EV.en = B.map EV.en) = R at RF ⊢
    clear hne
    go_enter Tryd.func44, Tryd.ntmps44
    go_wp2
    go_ret
    exact ⟨by rw [RF.out]; rfl, 0, rfl⟩
/-- The document's log. -/
def vL9 (b bt : Nat) (v : Value) : Value := .agg #[.int .u64 (b : Nat), .int .u64 (bt : Nat), v]
/-- The document's state. -/
def vT (t : Nat) (vo : Int) (b bt : Nat) (v : Value) : Value := .agg #[.int .u64 (t : Nat), .int .i64 vo, .int .u64 (b : Nat), .int .u64 (bt : Nat), v]
set_option maxRecDepth 100000 in
set_option maxHeartbeats 2000000 in
/-- The document's Same of logs. -/
theorem lsame_calls {K1 K2 K3 K4 : Nat → Obj → Prop} (w : World) (b bt b' bt' : Nat) (va : Value) (a2 : Option Addr) (n2 c2 : Nat) (A B : List EV) (hA : RowsAt K1 w va 3 encE A) (hB : RowsAt K2 w (.slice a2 n2 c2) 3 encE B) (dA : ∀ x ∈ A, BytesAt K3 w (.slice x.a x.d.length x.c) x.d ∧ x.d.length ≤ 140737488355328) (dB : ∀ x ∈ B, BytesAt K4 w (.slice x.a x.d.length x.c) x.d) (hl : A.length ≤ 1000000) :
    Calls Tryd.prog 41 #[.int .u64 (b : Nat), .int .u64 (bt : Nat), va, vL9 b' bt' (.slice a2 n2 c2)] w fun e w' => e = .returned (.bool (decide (b = b') && (decide (bt = bt') && decide (A.map EV.en = B.map EV.en)))) ∧ Fr (fun _ _ => True) w w' := by
  obtain ⟨a1, c1, rfl, _⟩ := hA.form
  obtain ⟨W1, hW1⟩ : ∃ W, w.alloc (.cells #[.int .u64 (b' : Nat), .int .u64 (bt' : Nat), .slice a2 n2 c2] 75 (0, 0)) = W := ⟨_, rfl⟩
  have F1 : Hid (Fr (fun _ _ => True) w W1) := hW1 ▸ (Fr.refl _ _).alloc _
  have X1 : Hid (W1.heap[w.heap.size]? = some (.cells #[.int .u64 (b' : Nat), .int .u64 (bt' : Nat), .slice a2 n2 c2] 75 (0, 0))) := hW1 ▸ heap_alloc_new w _
  have p0 := cell_mk (i := 0) X1.out rfl
  have p1 := cell_mk (i := 1) X1.out rfl
  have p2 := cell_mk (i := 2) X1.out rfl
  have EC := Lib.hid (esame_calls W1 _ _ A B (hA.tt F1.out) (hB.tt F1.out) (fun x hx => ⟨(dA x hx).1.tt F1.out, (dA x hx).2⟩) (fun x hx => (dB x hx).tt F1.out) hl)
  generalize decide (A.map EV.en = B.map EV.en) = R at EC ⊢
  generalize A.length = L at EC
  clear hA hB dA dB hl
  unfold vL9
  go_enter Tryd.func41, Tryd.ntmps41
  go_wp2_with fail
  try rw [hW1]
  clear hW1
  (with_reducible refine EC.out.mono ?_)
  rintro e w2 ⟨rfl, k, rfl⟩
  have F2 := Lib.hid (F1.out.drewN k)
  have p0' : (W1.drewN k).cell? ⟨w.heap.size, 0, none⟩ = _ := p0
  have p1' : (W1.drewN k).cell? ⟨w.heap.size, 1, none⟩ = _ := p1
  clear p0 p1 p2 EC
  by_cases q1 : b = b'
  · subst q1
    have g1 : ((b : Int) == (b : Int)) = true := by simp
    by_cases q2 : bt = bt'
    · subst q2
      have g2 : ((bt : Int) == (bt : Int)) = true := by simp
      cases R
      · go_wp2
        go_ret
        exact ⟨by simp, F2.out⟩
      · go_wp2
        go_ret
        exact ⟨by simp, F2.out⟩
    · have g2 : ((bt : Int) == (bt' : Int)) = false := by simp; omega
      have e2 : decide (bt = bt') = false := decide_eq_false q2
      clear q2
      go_wp2
      go_ret
      exact ⟨by simp [e2], F2.out⟩
  · have g1 : ((b : Int) == (b' : Int)) = false := by simp; omega
    have e1 : decide (b = b') = false := decide_eq_false q1
    clear q1
    go_wp2
    go_ret
    exact ⟨by simp [e1], F2.out⟩
set_option maxRecDepth 100000 in
/-- The document's last term. -/
theorem dlast_calls {K : Nat → Obj → Prop} (w : World) (b bt : Nat) (a : Option Addr) (n c : Nat) (xs : List EV) (hx : RowsAt K w (.slice a n c) 3 encE xs) (hn : n ≤ 1000000) :
    Calls Tryd.prog 86 #[vL9 b bt (.slice a n c)] w fun e w' => e = .returned (.int .u64 (lastTE bt xs : Nat)) ∧ Fr (fun _ _ => True) w w' := by
  have hnl := hx.len'
  obtain ⟨W1, hW1⟩ : ∃ W, w.alloc (.cells #[.int .u64 (b : Nat), .int .u64 (bt : Nat), .slice a n c] 75 (0, 0)) = W := ⟨_, rfl⟩
  have F1 : Hid (Fr (fun _ _ => True) w W1) := hW1 ▸ (Fr.refl _ _).alloc _
  have X1 : Hid (W1.heap[w.heap.size]? = some (.cells #[.int .u64 (b : Nat), .int .u64 (bt : Nat), .slice a n c] 75 (0, 0))) := hW1 ▸ heap_alloc_new w _
  have p1 := cell_mk (i := 1) X1.out rfl
  have p2 := cell_mk (i := 2) X1.out rfl
  obtain ⟨l, hl⟩ : ∃ l, lastTE bt xs = l := ⟨_, rfl⟩
  rw [hl]
  by_cases h0 : n = 0
  · subst h0
    have hxs : xs = [] := List.length_eq_zero_iff.1 hnl.symm
    subst hxs
    obtain rfl : bt = l := hl
    clear hx hnl
    unfold vL9
    go_enter Tryd.func86, Tryd.ntmps86
    go_wp2
    try rw [hW1]
    go_ret
    exact ⟨rfl, hW1 ▸ F1.out⟩
  · obtain ⟨m, hm⟩ : ∃ m, n = m + 1 := ⟨n - 1, by omega⟩
    subst hm
    have hlx : m < xs.length := by omega
    obtain ⟨bx, off, _, rfl, _, _, k1⟩ := (hx.tt F1.out).spot (by omega)
    have u1 := (RowsAt.e3 (K := fun _ _ => True) k1 m hlx).1
    have hle : xs[m].t = l := by
      rw [← hl]
      unfold lastTE
      rw [List.getLast?_eq_getElem?, ← hnl, Nat.add_sub_cancel, List.getElem?_eq_getElem hlx]
      rfl
    rw [hle] at u1
    have hmm : IntKind.i64.wrap (((m + 1 : Nat) : Int) - 1) = (m : Int) := by rw [IntKind.wrap_i64]; omega
    have h00 : (((m + 1 : Nat) : Int) == 0) = false := by simp; omega
    have hmI : (m : Int) < ((m + 1 : Nat) : Int) := by omega
    generalize hM : m + 1 = M at *
    clear hx hnl hl k1 hle hlx h0
    unfold vL9
    go_enter Tryd.func86, Tryd.ntmps86
    go_wp2
    try rw [hW1]
    go_ret
    exact ⟨rfl, hW1 ▸ F1.out⟩
set_option maxRecDepth 100000 in
/-- doc. -/
theorem doc_calls (w : World) (s : Sta) (a : Option Addr) (n c : Nat) :
    Calls Tryd.prog 37 #[vS s (.slice a n c)] w fun e w' => e = .returned (vS s (.slice a n c)) ∧ Fr (fun _ _ => True) w w' := by
  unfold vS
  go_enter Tryd.func37, Tryd.ntmps37
  go_wp2
  exact bodyPost_ret (v := .agg #[.int .u64 (s.term : Nat), .int .i64 s.vote, .int .u64 (s.base : Nat), .int .u64 (s.bt : Nat), .slice a n c]) (by simp [results, Tryd.results37, go_sem, *]) rfl ⟨rfl, ((Fr.refl _ _).alloc _).alloc _⟩
set_option maxRecDepth 100000 in
set_option maxHeartbeats 4000000 in
/-- term. -/
theorem term_calls {K : Nat → Obj → Prop} (w : World) (s : Sta) (a : Option Addr) (n c : Nat) (xs : List EV) (hx : RowsAt K w (.slice a n c) 3 encE xs) (he : s.es = xs.map EV.en) (hn : n ≤ 1000000) :
    Calls Tryd.prog 38 #[vS s (.slice a n c)] w fun e w' => e = .returned (.int .u64 (max s.term (lastT s) : Nat)) ∧ Fr (fun _ _ => True) w w' := by
  obtain ⟨W1, hW1⟩ : ∃ W, w.alloc (.cells #[.int .u64 (s.term : Nat), .int .i64 s.vote, .int .u64 (s.base : Nat), .int .u64 (s.bt : Nat), .slice a n c] 68 (0, 0)) = W := ⟨_, rfl⟩
  have F1 : Hid (Fr (fun _ _ => True) w W1) := hW1 ▸ (Fr.refl _ _).alloc _
  have X1 : Hid (W1.heap[w.heap.size]? = some (.cells #[.int .u64 (s.term : Nat), .int .i64 s.vote, .int .u64 (s.base : Nat), .int .u64 (s.bt : Nat), .slice a n c] 68 (0, 0))) := hW1 ▸ heap_alloc_new w _
  have DC := Lib.hid (doc_calls W1 s a n c)
  have DL : Hid (∀ W, Fr (fun _ _ => True) W1 W → Calls Tryd.prog 86 #[.agg #[.int .u64 (s.base : Nat), .int .u64 (s.bt : Nat), .slice a n c]] W fun e w' => e = .returned (.int .u64 (lastT s : Nat)) ∧ Fr (fun _ _ => True) W w') := fun W f => by
    have q := dlast_calls W s.base s.bt a n c xs ((hx.tt F1.out).tt f) hn
    rw [lastTE_eq s xs he] at q
    exact q
  obtain ⟨l, hl⟩ : ∃ l, lastT s = l := ⟨_, rfl⟩
  rw [hl] at DL ⊢
  have p0 := cell_mk (i := 0) X1.out rfl
  have p1 := cell_mk (i := 1) X1.out rfl
  have p2 := cell_mk (i := 2) X1.out rfl
  have p3 := cell_mk (i := 3) X1.out rfl
  have p4 := cell_mk (i := 4) X1.out rfl
  obtain ⟨tm, vo, ba, bt, es⟩ := s
  unfold vS at DC ⊢
  dsimp only at *
  have hfd : ∀ w : World, (Instr.field 77 (.agg #[.int .u64 (tm : Nat), .int .i64 vo, .int .u64 (ba : Nat), .int .u64 (bt : Nat), .slice a n c]) 2).run Tryd.prog w = .ok (.agg #[.int .u64 (ba : Nat), .int .u64 (bt : Nat), .slice a n c]) w := fun _ => by kernel_rfl
  clear hx he hl
  go_enter Tryd.func38, Tryd.ntmps38
  go_wp2_with fail
  try rw [hW1]
  (with_reducible refine DC.out.mono ?_)
  rintro e w2 ⟨rfl, f2⟩
  obtain ⟨W3, hW3⟩ : ∃ W, w2.alloc (.cells #[.int .u64 (ba : Nat), .int .u64 (bt : Nat), .slice a n c] 75 (0, 0)) = W := ⟨_, rfl⟩
  have F3 : Hid (Fr (fun _ _ => True) W1 W3) := hW3 ▸ f2.alloc _
  have X3 : Hid (W3.heap[w2.heap.size]? = some (.cells #[.int .u64 (ba : Nat), .int .u64 (bt : Nat), .slice a n c] 75 (0, 0))) := hW3 ▸ heap_alloc_new w2 _
  have CE : Hid (∀ W, Fr (fun _ _ => True) W3 W → W.cell? ⟨w.heap.size, 0, none⟩ = some (.int .u64 (tm : Nat)) ∧ W.cell? ⟨w2.heap.size, 0, none⟩ = some (.int .u64 (ba : Nat)) ∧ W.cell? ⟨w2.heap.size, 1, none⟩ = some (.int .u64 (bt : Nat)) ∧ W.cell? ⟨w2.heap.size, 2, none⟩ = some (.slice a n c)) := fun W f => by
    have t1 := (F3.out.trans f).keep _ _ X1.out trivial
    have t2 := f.keep _ _ X3.out trivial
    exact ⟨cell_mk t1 rfl, cell_mk t2 rfl, cell_mk t2 rfl, cell_mk t2 rfl⟩
  have U3 : Hid (Fr (fun _ _ => True) W3 W3.drew) := (Fr.refl _ _).drew
  clear f2 DC p0 p1 p2 p3 p4 hW1
  go_upto_region 2 with fail
  try rw [hW3]
  clear hW3
  go_region_held3 (fun W => W.cell? ⟨w.heap.size, 0, none⟩ = some (.int .u64 (tm : Nat)) ∧ W.cell? ⟨w2.heap.size, 0, none⟩ = some (.int .u64 (ba : Nat)) ∧ W.cell? ⟨w2.heap.size, 1, none⟩ = some (.int .u64 (bt : Nat)) ∧ W.cell? ⟨w2.heap.size, 2, none⟩ = some (.slice a n c))
    (first | exact CE.out _ F9.out | exact CE.out _ U3.out)
    (first | (go_at_call 86; go_must ((with_reducible refine (DL.out _ (F3.out.trans U3.out)).mono ?_); rintro e w9 ⟨rfl, f9⟩; have F9 := Lib.hid (U3.out.trans f9); clear f9)))
  all_goals
    go_wp2
    all_goals
      go_ret
      refine ⟨?_, F1.out.trans (F3.out.trans F9.out)⟩
      first
        | (rw [show max tm l = l by omega]; rfl)
        | (rw [show max tm l = tm by omega]; rfl)
set_option maxRecDepth 100000 in
set_option maxHeartbeats 4000000 in
/-- same. -/
theorem ssame_calls {K1 K2 K3 K4 : Nat → Obj → Prop} (w : World) (s t : Sta) (a1 a2 : Option Addr) (n1 n2 c1 c2 : Nat) (A B : List EV) (hA : RowsAt K1 w (.slice a1 n1 c1) 3 encE A) (hB : RowsAt K2 w (.slice a2 n2 c2) 3 encE B) (eA : s.es = A.map EV.en) (eB : t.es = B.map EV.en) (dA : ∀ x ∈ A, BytesAt K3 w (.slice x.a x.d.length x.c) x.d ∧ x.d.length ≤ 140737488355328) (dB : ∀ x ∈ B, BytesAt K4 w (.slice x.a x.d.length x.c) x.d) (hl : A.length ≤ 1000000) :
    Calls Tryd.prog 39 #[vS s (.slice a1 n1 c1), vS t (.slice a2 n2 c2)] w fun e w' => e = .returned (.bool (decide (s = t))) ∧ Fr (fun _ _ => True) w w' := by
  obtain ⟨W1, hW1⟩ : ∃ W, w.alloc (.cells #[.int .u64 (s.term : Nat), .int .i64 s.vote, .int .u64 (s.base : Nat), .int .u64 (s.bt : Nat), .slice a1 n1 c1] 68 (0, 0)) = W := ⟨_, rfl⟩
  have F1 : Hid (Fr (fun _ _ => True) w W1) := hW1 ▸ (Fr.refl _ _).alloc _
  have X1 : Hid (W1.heap[w.heap.size]? = some (.cells #[.int .u64 (s.term : Nat), .int .i64 s.vote, .int .u64 (s.base : Nat), .int .u64 (s.bt : Nat), .slice a1 n1 c1] 68 (0, 0))) := hW1 ▸ heap_alloc_new w _
  obtain ⟨W2, hW2⟩ : ∃ W, W1.alloc (.cells #[.int .u64 (t.term : Nat), .int .i64 t.vote, .int .u64 (t.base : Nat), .int .u64 (t.bt : Nat), .slice a2 n2 c2] 77 (0, 0)) = W := ⟨_, rfl⟩
  have F2 : Hid (Fr (fun _ _ => True) W1 W2) := hW2 ▸ (Fr.refl _ _).alloc _
  have X2 : Hid (W2.heap[W1.heap.size]? = some (.cells #[.int .u64 (t.term : Nat), .int .i64 t.vote, .int .u64 (t.base : Nat), .int .u64 (t.bt : Nat), .slice a2 n2 c2] 77 (0, 0))) := hW2 ▸ heap_alloc_new W1 _
  have X3 := Lib.hid (F2.out.keep _ _ X1.out trivial)
  have F12 := Lib.hid (F1.out.trans F2.out)
  have LC := Lib.hid (lsame_calls W2 s.base s.bt t.base t.bt (.slice a1 n1 c1) a2 n2 c2 A B (hA.tt F12.out) (hB.tt F12.out) (fun x hx => ⟨(dA x hx).1.tt F12.out, (dA x hx).2⟩) (fun x hx => (dB x hx).tt F12.out) hl)
  rw [← eA, ← eB] at LC
  obtain ⟨R, hR⟩ : ∃ R, (decide (s.base = t.base) && (decide (s.bt = t.bt) && decide (s.es = t.es))) = R := ⟨_, rfl⟩
  rw [hR] at LC
  have HS : Hid (decide (s = t) = (decide (s.term = t.term) && (decide (s.vote = t.vote) && R))) := by
    show _ = _
    rw [← hR]
    cases s; cases t
    simp [Sta.mk.injEq, Bool.decide_and]
  generalize decide (s = t) = Z at HS ⊢
  have p0 := cell_mk (i := 0) X3.out rfl
  have p1 := cell_mk (i := 1) X3.out rfl
  have p2 := cell_mk (i := 2) X3.out rfl
  have p3 := cell_mk (i := 3) X3.out rfl
  have p4 := cell_mk (i := 4) X3.out rfl
  have q0 := cell_mk (i := 0) X2.out rfl
  have q1 := cell_mk (i := 1) X2.out rfl
  have q2 := cell_mk (i := 2) X2.out rfl
  have q3 := cell_mk (i := 3) X2.out rfl
  have q4 := cell_mk (i := 4) X2.out rfl
  obtain ⟨tm, vo, ba, bt, es⟩ := s
  obtain ⟨tm', vo', ba', bt', es'⟩ := t
  unfold vL9 at LC
  unfold vS
  dsimp only at *
  clear hA hB eA eB dA dB hl hR
  go_enter Tryd.func39, Tryd.ntmps39
  go_wp2_with fail
  try rw [hW1]
  try rw [hW2]
  clear hW1 hW2
  (with_reducible refine LC.out.mono ?_)
  rintro e w3 ⟨rfl, f3⟩
  have F3 := Lib.hid (F12.out.trans f3)
  have Y1 := f3.keep _ _ X3.out trivial
  have Y2 := f3.keep _ _ X2.out trivial
  clear p0 p1 p2 p3 p4 q0 q1 q2 q3 q4
  have p0 := cell_mk (i := 0) Y1 rfl
  have p1 := cell_mk (i := 1) Y1 rfl
  have q0 := cell_mk (i := 0) Y2 rfl
  have q1 := cell_mk (i := 1) Y2 rfl
  clear f3 Y1 Y2 LC
  by_cases e1 : tm = tm'
  · subst e1
    have g1 : ((tm : Int) == (tm : Int)) = true := by simp
    by_cases e2 : vo = vo'
    · subst e2
      have g2 : (vo == vo) = true := by simp
      cases R
      · go_wp2
        go_ret
        exact ⟨by rw [HS.out]; simp, F3.out⟩
      · go_wp2
        go_ret
        exact ⟨by rw [HS.out]; simp, F3.out⟩
    · have g2 : (vo == vo') = false := by simpa using e2
      have k2 : decide (vo = vo') = false := decide_eq_false e2
      clear e2
      go_wp2
      go_ret
      exact ⟨by rw [HS.out]; simp [k2], F3.out⟩
  · have g1 : ((tm : Int) == (tm' : Int)) = false := by simp; omega
    have k1 : decide (tm = tm') = false := decide_eq_false e1
    clear e1
    go_wp2
    go_ret
    exact ⟨by rw [HS.out]; simp [k1], F3.out⟩
end Go.Proofs.YtcpbmempfeloaaaDoor
/- Law 14: what came in. -/
namespace Go.Proofs.YtcpbmempfeloaaaDoor
open Go.RowKit
set_option linter.unusedVariables false
set_option linter.unusedSimpArgs false

/-- A state as it came in. -/
structure SI (n : Nat) (w : World) (s : Sta) (v : Value) (xs : List EV) : Prop where
  rows : RowsAt (fun c _ => c < n) w v 3 encE xs
  es : s.es = xs.map EV.en
  dat : ∀ x ∈ xs, BytesAt (fun c _ => c < n) w (.slice x.a x.d.length x.c) x.d
  wf : s.wf
  big : xs.length ≤ 9223372036854775807
theorem SI.fr {n : Nat} {w w' : World} {s : Sta} {v : Value} {xs : List EV} (h : SI n w s v xs) (hf : Fr (fun c _ => c < n) w w') : SI n w' s v xs :=
  ⟨h.rows.fr hf fun _ _ _ hc => hc, h.es, fun x hx => (h.dat x hx).fr hf, h.wf, h.big⟩
theorem SI.mono {n m : Nat} {w : World} {s : Sta} {v : Value} {xs : List EV} (h : SI n w s v xs) (hm : n ≤ m) : SI m w s v xs :=
  ⟨h.rows.mono fun _ _ _ hc => Nat.lt_of_lt_of_le hc hm, h.es, fun x hx => (h.dat x hx).mono fun _ _ _ hc => Nat.lt_of_lt_of_le hc hm, h.wf, h.big⟩
theorem SI.sa {n : Nat} {X : Nat → Prop} {w : World} {s : Sta} {v : Value} {xs : List EV} (h : SI n w s v xs) (hx : ∀ c, X c → n ≤ c) : SA n X w s v xs :=
  ⟨h.rows.mono fun c _ _ hc => ⟨fun k => by have := hx c k; omega, .inl hc⟩, h.es, fun x hxx => (h.dat x hxx).mono fun c _ _ hc => ⟨fun k => by have := hx c k; omega, .inl hc⟩⟩
theorem list8 {l : List Value} (h : l.length = 8) : ∃ a b c d e f g i, l = [a, b, c, d, e, f, g, i] := by
  match l, h with
  | [a, b, c, d, e, f, g, i], _ => exact ⟨a, b, c, d, e, f, g, i, rfl⟩
set_option maxRecDepth 100000 in
/-- An entry that came in. -/
theorem ent_of {w : World} {cs : List Value} (h : Rd Tryd.prog w 128 cs) : ∃ x : EV, cs = encE x ∧ BytesAt (fun c _ => c < w.heap.size) w (.slice x.a x.d.length x.c) x.d ∧ x.t < 18446744073709551616 := by
  obtain ⟨hcl, hf⟩ := h.struct (sz := 3) Tryd.underlying128 (by kernel_rfl)
  obtain ⟨c0, c1, c2, rfl⟩ := list3 hcl
  obtain ⟨x0, h0, w0⟩ := (show Rd Tryd.prog w 55 [c0] from hf 0 _ rfl).int Tryd.underlying55
  obtain ⟨x1, h1, _⟩ := (show Rd Tryd.prog w 3 [c1] from hf 1 _ rfl).int Tryd.underlying3
  obtain ⟨bs, hb, _⟩ := (show Rd Tryd.prog w 33 [c2] from hf 2 _ rfl).bs
  obtain ⟨l0, u0⟩ := bounds_u64 w0
  have e0 : c0 = .int .u64 x0 := by injection h0
  have e1 : c1 = .int .i64 x1 := by injection h1
  obtain ⟨y0, rfl⟩ := Int.eq_ofNat_of_zero_le l0
  obtain ⟨a, c, rfl⟩ := hb.form
  exact ⟨⟨y0, x1, a, c, bs⟩, by rw [e0, e1]; rfl, hb, by show y0 < _; omega⟩
set_option maxRecDepth 100000 in
/-- Entries that came in. -/
theorem ents_of {w : World} {v : Value} (h : Rd Tryd.prog w 64 [v]) : ∃ xs : List EV, RowsAt (fun c _ => c < w.heap.size) w v 3 encE xs ∧ (∀ x ∈ xs, BytesAt (fun c _ => c < w.heap.size) w (.slice x.a x.d.length x.c) x.d) ∧ (∀ x ∈ xs, x.t < 18446744073709551616) ∧ xs.length ≤ 9223372036854775807 := by
  obtain ⟨a, len, cap, hv, hl1, hl2, _, hc⟩ := h.slice (sz := 3) Tryd.underlying64 (by kernel_rfl)
  obtain rfl : v = .slice a len cap := by simpa using hv
  obtain ⟨l, hl, hp⟩ := list_of (p := fun i (x : EV) => ∃ ad, a = some ad ∧ (∀ j u, (encE x)[j]? = some u → w.cell? (ad.add (i * 3 + j)) = some u) ∧ BytesAt (fun c _ => c < w.heap.size) w (.slice x.a x.d.length x.c) x.d ∧ x.t < 18446744073709551616) len fun i hi => by
    obtain ⟨ad, cs, ha, hcl, hat, hr⟩ := hc i hi
    obtain ⟨x, rfl, h1, h2⟩ := ent_of hr
    refine ⟨x, ad, ha, fun j u hu => ?_, h1, h2⟩
    have hj : j < 3 := by
      have := (List.getElem?_eq_some_iff.1 hu).1
      exact this
    rw [hat j hj]
    exact hu
  have hmem : ∀ x ∈ l, BytesAt (fun c _ => c < w.heap.size) w (.slice x.a x.d.length x.c) x.d ∧ x.t < 18446744073709551616 := fun x hx => by
    obtain ⟨i, hi, rfl⟩ := List.getElem_of_mem hx
    obtain ⟨_, _, _, h1, h2⟩ := hp i hi
    exact ⟨h1, h2⟩
  refine ⟨l, ⟨a, cap, by rw [hl], by omega, ?_⟩, fun x hx => (hmem x hx).1, fun x hx => (hmem x hx).2, (by rw [hl]; unfold maxLen at hl2; omega)⟩
  by_cases h0 : l = []
  · exact .inl h0
  · obtain ⟨ad, ha, e0, _⟩ := hp 0 (List.length_pos_iff.2 h0)
    have e1 := e0 0 _ rfl
    rw [Nat.zero_mul, Nat.zero_add] at e1
    obtain ⟨b, off, rfl⟩ := spot_of e1
    have hlt : b < w.heap.size := by have := cell_lt e1; simpa [add_at] using this
    refine .inr ⟨b, off, w.heap[b], ha, Array.getElem?_eq_getElem hlt, hlt, fun i hi j u hu => ?_⟩
    obtain ⟨ad', ha', e2, _⟩ := hp i hi
    rw [ha] at ha'
    cases ha'
    have e3 := e2 j u hu
    rw [add_at] at e3
    rw [Nat.add_assoc]
    exact e3
set_option maxRecDepth 100000 in
/-- A state that came in. -/
theorem sta_of {w : World} {cs : List Value} (h : Rd Tryd.prog w 68 cs) : ∃ (s : Sta) (xs : List EV) (a : Option Addr) (c : Nat), cs = [.int .u64 (s.term : Nat), .int .i64 s.vote, .int .u64 (s.base : Nat), .int .u64 (s.bt : Nat), .slice a xs.length c] ∧ SI w.heap.size w s (.slice a xs.length c) xs := by
  obtain ⟨hcl, hf⟩ := h.struct (sz := 5) Tryd.underlying68 (by kernel_rfl)
  obtain ⟨c0, c1, c2, c3, c4, rfl⟩ := list5 hcl
  obtain ⟨x0, h0, w0⟩ := (show Rd Tryd.prog w 55 [c0] from hf 0 _ rfl).int Tryd.underlying55
  obtain ⟨x1, h1, _⟩ := (show Rd Tryd.prog w 3 [c1] from hf 1 _ rfl).int Tryd.underlying3
  have hlog : Rd Tryd.prog w 66 [c2, c3, c4] := hf 2 _ rfl
  obtain ⟨_, hg⟩ := hlog.struct (sz := 3) Tryd.underlying66 (by kernel_rfl)
  obtain ⟨x2, h2, w2⟩ := (show Rd Tryd.prog w 55 [c2] from hg 0 _ rfl).int Tryd.underlying55
  obtain ⟨x3, h3, w3⟩ := (show Rd Tryd.prog w 55 [c3] from hg 1 _ rfl).int Tryd.underlying55
  obtain ⟨xs, r1, r2, r3, r4⟩ := ents_of (show Rd Tryd.prog w 64 [c4] from hg 2 _ rfl)
  obtain ⟨l0, u0⟩ := bounds_u64 w0
  obtain ⟨l2, u2⟩ := bounds_u64 w2
  obtain ⟨l3, u3⟩ := bounds_u64 w3
  have e0 : c0 = .int .u64 x0 := by injection h0
  have e1 : c1 = .int .i64 x1 := by injection h1
  have e2 : c2 = .int .u64 x2 := by injection h2
  have e3 : c3 = .int .u64 x3 := by injection h3
  obtain ⟨y0, rfl⟩ := Int.eq_ofNat_of_zero_le l0
  obtain ⟨y2, rfl⟩ := Int.eq_ofNat_of_zero_le l2
  obtain ⟨y3, rfl⟩ := Int.eq_ofNat_of_zero_le l3
  obtain ⟨a, c, rfl, _⟩ := r1.form
  refine ⟨⟨y0, x1, y2, y3, xs.map EV.en⟩, xs, a, c, by rw [e0, e1, e2, e3], r1, rfl, r2, ⟨by show y0 < _; omega, by show y2 < _; omega, by show y3 < _; omega, fun x hx => ?_⟩, r4⟩
  obtain ⟨y, hy, rfl⟩ := List.mem_map.1 hx
  exact r3 y hy
/-- An operation of the law. -/
structure OpK where
  q : Int
  k : Int
  s : Sta
  xs : List EV
  a : Option Addr
  c : Nat
  pa : Option Addr
  pc : Nat
  zs : List Int
def encO (o : OpK) : List Value := [.int .i64 o.q, .int .i64 o.k, .int .u64 (o.s.term : Nat), .int .i64 o.s.vote, .int .u64 (o.s.base : Nat), .int .u64 (o.s.bt : Nat), .slice o.a o.xs.length o.c, .slice o.pa o.zs.length o.pc]
structure OpK.Lies (n : Nat) (w : World) (o : OpK) : Prop where
  hs : SI n w o.s (.slice o.a o.xs.length o.c) o.xs
  hp : IntsAt (fun c _ => c < n) w (.slice o.pa o.zs.length o.pc) o.zs
theorem OpK.Lies.fr {n : Nat} {w w' : World} {o : OpK} (h : o.Lies n w) (hf : Fr (fun c _ => c < n) w w') : o.Lies n w' := ⟨h.hs.fr hf, h.hp.fr hf fun _ _ h => h⟩
theorem OpK.Lies.mono {n m : Nat} {w : World} {o : OpK} (h : o.Lies n w) (hm : n ≤ m) : o.Lies m w := ⟨h.hs.mono hm, h.hp.mono fun c _ h => by omega⟩
/-- Operations that came in. -/
structure OpsK (n : Nat) (w : World) (v : Value) (l : List OpK) : Prop where
  rows : RowsAt (fun c _ => c < n) w v 8 encO l
  lies : ∀ o ∈ l, o.Lies n w
theorem OpsK.fr {n : Nat} {w w' : World} {v : Value} {l : List OpK} (h : OpsK n w v l) (hf : Fr (fun c _ => c < n) w w') : OpsK n w' v l := ⟨h.rows.fr hf fun _ _ _ hc => hc, fun o ho => (h.lies o ho).fr hf⟩
theorem OpsK.mono {n m : Nat} {w : World} {v : Value} {l : List OpK} (h : OpsK n w v l) (hm : n ≤ m) : OpsK m w v l := ⟨h.rows.mono fun _ _ _ hc => Nat.lt_of_lt_of_le hc hm, fun o ho => (h.lies o ho).mono hm⟩
theorem OpsK.at {n : Nat} {w : World} {a : Option Addr} {len cap : Nat} {l : List OpK} (h : OpsK n w (.slice a len cap) l) (i : Nat) (hi : i < l.length) : ∃ b off, a = some ⟨b, off, none⟩ ∧ w.cell? ⟨b, off + i * 8, none⟩ = some (.int .i64 l[i].q) ∧ w.cell? ⟨b, off + i * 8 + 1, none⟩ = some (.int .i64 l[i].k) ∧ w.cell? ⟨b, off + i * 8 + 2, none⟩ = some (.int .u64 (l[i].s.term : Nat)) ∧ w.cell? ⟨b, off + i * 8 + 3, none⟩ = some (.int .i64 l[i].s.vote) ∧ w.cell? ⟨b, off + i * 8 + 4, none⟩ = some (.int .u64 (l[i].s.base : Nat)) ∧ w.cell? ⟨b, off + i * 8 + 5, none⟩ = some (.int .u64 (l[i].s.bt : Nat)) ∧ w.cell? ⟨b, off + i * 8 + 6, none⟩ = some (.slice l[i].a l[i].xs.length l[i].c) ∧ w.cell? ⟨b, off + i * 8 + 7, none⟩ = some (.slice l[i].pa l[i].zs.length l[i].pc) := by
  obtain ⟨b, off, o, e, _, _, hcl⟩ := h.rows.spot (by omega)
  exact ⟨b, off, e, hcl i hi 0 _ rfl, hcl i hi 1 _ rfl, hcl i hi 2 _ rfl, hcl i hi 3 _ rfl, hcl i hi 4 _ rfl, hcl i hi 5 _ rfl, hcl i hi 6 _ rfl, hcl i hi 7 _ rfl⟩
set_option maxRecDepth 100000 in
/-- One operation. -/
theorem opk_of {w : World} {cs : List Value} (h : Rd Tryd.prog w 131 cs) : ∃ o : OpK, cs = encO o ∧ o.Lies w.heap.size w := by
  obtain ⟨hcl, hf⟩ := h.struct (sz := 8) Tryd.underlying131 (by kernel_rfl)
  obtain ⟨c0, c1, c2, c3, c4, c5, c6, c7, rfl⟩ := list8 hcl
  obtain ⟨x0, h0, _⟩ := (show Rd Tryd.prog w 3 [c0] from hf 0 _ rfl).int Tryd.underlying3
  obtain ⟨x1, h1, _⟩ := (show Rd Tryd.prog w 3 [c1] from hf 1 _ rfl).int Tryd.underlying3
  obtain ⟨s, xs, a, c, hs, h2⟩ := sta_of (show Rd Tryd.prog w 68 [c2, c3, c4, c5, c6] from hf 2 _ rfl)
  obtain ⟨zs, hz, _⟩ := (show Rd Tryd.prog w 24 [c7] from hf 3 _ rfl).is
  have e0 : c0 = .int .i64 x0 := by injection h0
  have e1 : c1 = .int .i64 x1 := by injection h1
  obtain ⟨pa, pc, rfl⟩ := hz.form
  refine ⟨⟨x0, x1, s, xs, a, c, pa, pc, zs⟩, ?_, h2, hz⟩
  rw [e0, e1]
  simp only [List.cons.injEq, and_true] at hs
  obtain ⟨r1, r2, r3, r4, r5⟩ := hs
  rw [r1, r2, r3, r4, r5]
  rfl
set_option maxRecDepth 100000 in
theorem opsk_of {w : World} {a : Option Addr} {len cap : Nat} (h : Rd Tryd.prog w 63 [.slice a len cap]) : ∃ l, OpsK w.heap.size w (.slice a len cap) l ∧ l.length = len := by
  obtain ⟨a', len', cap', hv, hl1, hl2, _, hc⟩ := h.slice (sz := 8) Tryd.underlying63 (by kernel_rfl)
  obtain ⟨rfl, rfl, rfl⟩ : a = a' ∧ len = len' ∧ cap = cap' := by simpa using hv
  obtain ⟨l, hl, hp⟩ := list_of (p := fun i (o : OpK) => ∃ ad, a = some ad ∧ (∀ j u, (encO o)[j]? = some u → w.cell? (ad.add (i * 8 + j)) = some u) ∧ o.Lies w.heap.size w) len fun i hi => by
    obtain ⟨ad, cs, ha, hcl, hat, hr⟩ := hc i hi
    obtain ⟨o, rfl, ho⟩ := opk_of hr
    refine ⟨o, ad, ha, fun j u hu => ?_, ho⟩
    have hj : j < 8 := (List.getElem?_eq_some_iff.1 hu).1
    rw [hat j hj]
    exact hu
  refine ⟨l, ⟨⟨a, cap, by rw [hl], by omega, ?_⟩, fun o ho => ?_⟩, hl⟩
  · by_cases h0 : l = []
    · exact .inl h0
    · obtain ⟨ad, ha, e0, _⟩ := hp 0 (List.length_pos_iff.2 h0)
      have e1 := e0 0 _ rfl
      rw [Nat.zero_mul, Nat.zero_add] at e1
      obtain ⟨b, off, rfl⟩ := spot_of e1
      have hlt : b < w.heap.size := by have := cell_lt e1; simpa [add_at] using this
      refine .inr ⟨b, off, w.heap[b], ha, Array.getElem?_eq_getElem hlt, hlt, fun i hi j u hu => ?_⟩
      obtain ⟨ad', ha', e2, _⟩ := hp i hi
      rw [ha] at ha'
      cases ha'
      have e3 := e2 j u hu
      rw [add_at] at e3
      rw [Nat.add_assoc]
      exact e3
  · obtain ⟨i, hi, rfl⟩ := List.getElem_of_mem ho
    exact (hp i hi).choose_spec.2.2
/-- All are short. -/
def shortK (l : List OpK) (most : Nat) : Bool := decide (l.length ≤ most) && l.all fun o => decide (o.xs.length ≤ 12)
set_option maxRecDepth 100000 in
set_option maxHeartbeats 2000000 in
theorem short_calls {n : Nat} (w : World) (a : Option Addr) (len cap : Nat) (l : List OpK) (h : OpsK n w (.slice a len cap) l) (hl : l.length = len) (most : Nat) (hmo : most ≤ 1000) :
    Calls Tryd.prog 71 #[.slice a len cap, .int .i64 (most : Nat)] w fun e w' => e = .returned (.bool (shortK l most)) ∧ w = w' := by
  by_cases hm : most < len
  · have hmI : decide ((len : Int) > (most : Int)) = true := by simp; omega
    have hmJ : (most : Int) < (len : Int) := by omega
    have HS : Hid (shortK l most = false) := by
      show _ = _
      unfold shortK
      rw [decide_eq_false (by omega), Bool.false_and]
    generalize shortK l most = R at HS ⊢
    clear h hl hm
    go_enter Tryd.func71, Tryd.ntmps71
    go_wp2
    go_ret
    exact ⟨by rw [HS.out]; rfl, rfl⟩
  · have hmI : decide ((len : Int) > (most : Int)) = false := by simp; omega
    have hmJ : (len : Int) ≤ (most : Int) := by omega
    have HS : Hid (shortK l most = l.all fun o => decide (o.xs.length ≤ 12)) := by
      show _ = _
      unfold shortK
      rw [decide_eq_true (by omega), Bool.true_and]
    generalize shortK l most = R at HS ⊢
    have HO := Lib.hid h
    have HL := Lib.hid hl
    clear h hl hm
    go_enter Tryd.func71, Tryd.ntmps71
    go_wp2
    go_loopw [5] (fun i wr => ∃ j : Nat, i = .int .i64 (j : Nat) ∧ j ≤ len ∧ Hid (∀ o ∈ l.take j, o.xs.length ≤ 12) ∧ Hid (w = wr)) (fun i _ => len - (intOf i).toNat)
    case atStart => exact ⟨0, rfl, Nat.zero_le _, fun o ho => (by simp at ho), rfl⟩
    case round =>
      obtain ⟨j, rfl, hj, HT, HW⟩ := hrel
      have hwr := HW.out
      subst hwr
      by_cases hlt : j < len
      · have hltI : (j : Int) < len := by omega
        have hjl : j < l.length := by have := HL.out; omega
        obtain ⟨b, off, rfl, _, _, _, _, _, _, k6, _⟩ := HO.out.at j hjl
        have HTK : Hid (l.take (j + 1) = l.take j ++ [l[j]]) := List.take_succ_eq_append_getElem hjl
        have HM : Hid (l[j] ∈ l) := List.getElem_mem hjl
        generalize l[j] = o at k6 HTK HM
        obtain ⟨m, hm⟩ : ∃ m, o.xs.length = m := ⟨_, rfl⟩
        rw [hm] at k6
        have HMM := Lib.hid hm
        clear hm
        by_cases h12 : 12 < m
        · have gI : decide ((m : Int) > 12) = true := by simp; omega
          have gJ : (12 : Int) < (m : Int) := by omega
          have RF : Hid (R = false) := by
            show _ = _
            rw [HS.out]
            refine List.all_eq_false.2 ⟨o, HM.out, by simp; rw [HMM.out]; exact h12⟩
          clear h12
          go_wp2
          go_ret
          exact ⟨by rw [RF.out]; rfl, rfl⟩
        · have gI : decide ((m : Int) > 12) = false := by simp; omega
          have gJ : (m : Int) ≤ 12 := by omega
          have NX : Hid (∀ x ∈ l.take (j + 1), x.xs.length ≤ 12) := fun x hx => by
            rw [HTK.out] at hx
            rcases List.mem_append.1 hx with hx | hx
            · exact HT.out x hx
            · rw [List.mem_singleton.1 hx, HMM.out]; omega
          clear h12
          go_wp2
          go_roundw
          case rel => exact ⟨j + 1, by go_num, by omega, NX, by first | rfl | exact trivial⟩
          case measure => simp [intOf]; omega
      · have hge : (len : Int) ≤ j := by omega
        have RT : Hid (R = true) := by
          show _ = _
          rw [HS.out]
          refine List.all_eq_true.2 fun o ho => ?_
          have h2 := HT.out
          rw [List.take_of_length_le (by have := HL.out; omega)] at h2
          simpa using h2 o ho
        go_wp2
        go_ret
        exact ⟨by rw [RT.out]; rfl, rfl⟩
end Go.Proofs.YtcpbmempfeloaaaDoor
