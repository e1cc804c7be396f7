/- Texts of the proofs, part 24: what the functions that they reach do, walked; no conditions beyond those that each states. -/
import Derived.Test.YtcpbmempfeloaaaDoorZz6c1e763b40
set_option linter.unusedVariables false
set_option linter.unusedSimpArgs false
/- A journal and its disk: one contract a function. -/
namespace Go.Proofs.YtcpbmempfeloaaaDoor
open Go.RowKit
set_option linter.unusedVariables false
set_option linter.unusedSimpArgs false

theorem JD.parts {P : Nat → Prop} {w : World} {bj bd : Nat} {J : Jn} {D : Dk} (h : JD P w bj bd J D) : ∃ F G : Nat → Prop, Dsk w bd F D ∧ Jnl w bj bd G J ∧ (∀ c, F c → P c ∧ c < w.heap.size) ∧ (∀ c, G c → P c ∧ c < w.heap.size) ∧ ∀ c, G c → ¬ F c := h
theorem JD.mono {P P' : Nat → Prop} {w : World} {bj bd : Nat} {J : Jn} {D : Dk} (h : JD P w bj bd J D) (hp : ∀ c, c < w.heap.size → P c → P' c) : JD P' w bj bd J D := by
  obtain ⟨F, G, h1, h2, h3, h4, h5⟩ := h
  exact ⟨F, G, h1, h2, fun c h => ⟨hp c (h3 c h).2 (h3 c h).1, (h3 c h).2⟩, fun c h => ⟨hp c (h4 c h).2 (h4 c h).1, (h4 c h).2⟩, h5⟩
theorem JD.fr {K : Nat → Obj → Prop} {P : Nat → Prop} {w w' : World} {bj bd : Nat} {J : Jn} {D : Dk} (h : JD P w bj bd J D) (hf : Fr K w w') (hk : ∀ c o, w.heap[c]? = some o → P c → K c o) : JD P w' bj bd J D := by
  obtain ⟨F, G, h1, h2, h3, h4, h5⟩ := h
  have := hf.size
  exact ⟨F, G, h1.fr hf fun c o ho hc => hk c o ho (h3 c hc).1, h2.fr hf fun c o ho hc => hk c o ho (h4 c hc).1, fun c h => ⟨(h3 c h).1, by have := (h3 c h).2; omega⟩, fun c h => ⟨(h4 c h).1, by have := (h4 c h).2; omega⟩, h5⟩
theorem JD.tt {P : Nat → Prop} {w w' : World} {bj bd : Nat} {J : Jn} {D : Dk} (h : JD P w bj bd J D) (hf : Fr (fun _ _ => True) w w') : JD P w' bj bd J D := h.fr hf fun _ _ _ _ => trivial
/-- Behind a step. -/
theorem JPost.jd {P F G : Nat → Prop} {w w' : World} {bj bd : Nat} {J : Jn} {D : Dk} (h : JPost w w' bj bd F G J D) (h3 : ∀ c, F c → P c ∧ c < w.heap.size) (h4 : ∀ c, G c → P c ∧ c < w.heap.size) (h5 : ∀ c, G c → ¬ F c) : JD (fun c => P c ∨ w.heap.size ≤ c) w' bj bd J D := by
  obtain ⟨m, m1, m2, hj, hd⟩ := h
  refine ⟨_, _, hd.inside, hj, fun c h => ⟨?_, h.2⟩, fun c h => ⟨?_, by have := h.2; omega⟩, fun c h hf => ?_⟩
  · rcases h.1 with h | h
    · exact .inl (h3 c h).1
    · exact .inr (by omega)
  · rcases h.1 with h | h
    · exact .inl (h4 c h).1
    · exact .inr h
  · rcases hf.1 with hf | hf
    · rcases h.1 with h | h
      · exact h5 c h hf
      · have := (h3 c hf).2; omega
    · have := h.2; omega
theorem jd_append {K : Nat → Obj → Prop} {P : Nat → Prop} (w : World) (bj bd : Nat) (J : Jn) (D : Dk) (v : Value) (b : List UInt8) (h : JD P w bj bd J D) (hP0 : ¬ P 0) (hb : BytesAt K w v b) (ht : TabOK w) (hq : D.pend.length < 1000000) :
    Calls Tryd.prog 15 #[.pointer (some ⟨bj, 0, none⟩), v] w fun e w' => e = .returned (.int .i64 (jappend J D b).1) ∧ JD (fun c => P c ∨ w.heap.size ≤ c) w' bj bd (jappend J D b).2.1 (jappend J D b).2.2 ∧ Fr (fun c _ => ¬ P c) w w' := by
  obtain ⟨F, G, h1, h2, h3, h4, h5⟩ := h
  exact (jappend_calls w bj bd F G J D v b h2 h1 h5 (fun c h => (h3 c h).2) (fun c h => (h4 c h).2) (fun h => hP0 (h4 0 h).1) hb ht hq).mono fun e w' ⟨he, hp, hf⟩ =>
    ⟨he, JPost.jd hp h3 h4 h5, hf.mono fun c _ hc => ⟨fun h => hc (h3 c h).1, fun h => hc (h4 c h).1⟩⟩
theorem jd_trim {P : Nat → Prop} (w : World) (bj bd : Nat) (J : Jn) (D : Dk) (k : Int) (h : JD P w bj bd J D) (hP0 : ¬ P 0) (ht : TabOK w) (hq : D.pend.length < 1000000) :
    Calls Tryd.prog 19 #[.pointer (some ⟨bj, 0, none⟩), .int .i64 k] w fun e w' => e = .returned (.int .i64 (jtrim J D k).1) ∧ JD (fun c => P c ∨ w.heap.size ≤ c) w' bj bd (jtrim J D k).2.1 (jtrim J D k).2.2 ∧ Fr (fun c _ => ¬ P c) w w' := by
  obtain ⟨F, G, h1, h2, h3, h4, h5⟩ := h
  exact (jtrim_calls w bj bd F G J D k h2 h1 h5 (fun c h => (h4 c h).2) (fun h => hP0 (h4 0 h).1) ht hq).mono fun e w' ⟨he, hp, hf⟩ =>
    ⟨he, hp.jd h3 h4 h5, hf.mono fun c _ hc => ⟨fun h => hc (h3 c h).1, fun h => hc (h4 c h).1⟩⟩
theorem jd_cut {P : Nat → Prop} (w : World) (bj bd : Nat) (J : Jn) (D : Dk) (k : Int) (h : JD P w bj bd J D) (hP0 : ¬ P 0) (ht : TabOK w) (hq : D.pend.length < 900000) :
    Calls Tryd.prog 21 #[.pointer (some ⟨bj, 0, none⟩), .int .i64 k] w fun e w' => e = .returned (.int .i64 (jcut J D k).1) ∧ JD (fun c => P c ∨ w.heap.size ≤ c) w' bj bd (jcut J D k).2.1 (jcut J D k).2.2 ∧ Fr (fun c _ => ¬ P c) w w' := by
  obtain ⟨F, G, h1, h2, h3, h4, h5⟩ := h
  exact (jcut_calls w bj bd F G J D k h2 h1 h5 (fun c h => (h3 c h).2) (fun c h => (h4 c h).2) (fun h => hP0 (h4 0 h).1) (fun h => hP0 (h3 0 h).1) ht hq).mono fun e w' ⟨he, hp, hf⟩ =>
    ⟨he, hp.jd h3 h4 h5, hf.mono fun c _ hc => ⟨fun h => hc (h3 c h).1, fun h => hc (h4 c h).1⟩⟩
set_option maxRecDepth 100000 in
theorem jd_sync {P : Nat → Prop} (w : World) (bj bd : Nat) (J : Jn) (D : Dk) (h : JD P w bj bd J D) :
    Calls Tryd.prog 13 #[.pointer (some ⟨bj, 0, none⟩)] w fun e w' => e = .returned (.tuple #[]) ∧ JD (fun c => P c ∨ w.heap.size ≤ c) w' bj bd J D.sync ∧ Fr (fun c _ => ¬ P c) w w' := by
  obtain ⟨F, G, h1, h2, h3, h4, h5⟩ := h
  have c0 : w.cell? ⟨bj, 0, none⟩ = some (.pointer (some ⟨bd, 0, none⟩)) := by
    obtain ⟨vh, T, hj⟩ := h2
    exact cell_mk hj.top rfl
  have SY := Lib.hid (sync_calls w bd F D h1)
  have H2 := Lib.hid h2
  have H3 := Lib.hid h3
  have H4 := Lib.hid h4
  have H5 := Lib.hid h5
  clear h1 h2 h3 h4 h5
  go_enter Tryd.func13, Tryd.ntmps13
  go_wp2_with fail
  (with_reducible refine SY.out.mono ?_)
  rintro e w1 ⟨rfl, d1, f1⟩
  have D1 := Lib.hid d1
  have F1 := Lib.hid f1
  clear d1 f1 SY
  go_wp2
  go_end0
  refine ⟨rfl, JPost.jd (F := F) (G := G) ⟨w.heap.size, Nat.le_refl _, F1.out.size, ?_, D1.out⟩ H3.out H4.out H5.out, F1.out.mono fun c _ hc h => hc (H3.out c h).1⟩
  exact (H2.out.fr F1.out fun c _ _ h => H5.out c h).mono fun c h => ⟨.inl h, (H4.out c h).2⟩
theorem jd_all {P : Nat → Prop} (w : World) (bj bd : Nat) (J : Jn) (D : Dk) (h : JD P w bj bd J D) :
    Calls Tryd.prog 14 #[.pointer (some ⟨bj, 0, none⟩)] w fun e w' => (∃ a c V, e = .returned (.slice a J.all.length c) ∧ OwnL w' (fun c => w.heap.size ≤ c) (.slice a J.all.length c) V ∧ V.map (·.2) = J.all) ∧ Fr (fun _ _ => True) w w' := by
  obtain ⟨F, G, h1, h2, h3, h4, h5⟩ := h
  exact all_calls w bj bd G J h2
theorem jd_len {P : Nat → Prop} (w : World) (bj bd : Nat) (J : Jn) (D : Dk) (h : JD P w bj bd J D) :
    Calls Tryd.prog 30 #[.pointer (some ⟨bj, 0, none⟩)] w fun e w' => e = .returned (.int .i64 (J.held.length : Nat)) ∧ w = w' := by
  obtain ⟨F, G, h1, h2, h3, h4, h5⟩ := h
  exact jlen_calls w bj bd G J h2

/-- A disk within P. -/
def DD (P : Nat → Prop) (w : World) (bd : Nat) (D : Dk) : Prop := ∃ F : Nat → Prop, Dsk w bd F D ∧ ∀ c, F c → P c ∧ c < w.heap.size
theorem JD.dd {P : Nat → Prop} {w : World} {bj bd : Nat} {J : Jn} {D : Dk} (h : JD P w bj bd J D) : DD P w bd D := by
  obtain ⟨F, G, h1, h2, h3, h4, h5⟩ := h
  exact ⟨F, h1, h3⟩
theorem DD.mono {P P' : Nat → Prop} {w : World} {bd : Nat} {D : Dk} (h : DD P w bd D) (hp : ∀ c, c < w.heap.size → P c → P' c) : DD P' w bd D := by
  obtain ⟨F, h1, h3⟩ := h
  exact ⟨F, h1, fun c h => ⟨hp c (h3 c h).2 (h3 c h).1, (h3 c h).2⟩⟩
theorem DD.fr {K : Nat → Obj → Prop} {P : Nat → Prop} {w w' : World} {bd : Nat} {D : Dk} (h : DD P w bd D) (hf : Fr K w w') (hk : ∀ c o, w.heap[c]? = some o → P c → K c o) : DD P w' bd D := by
  obtain ⟨F, h1, h3⟩ := h
  have := hf.size
  exact ⟨F, h1.fr hf fun c o ho hc => hk c o ho (h3 c hc).1, fun c h => ⟨(h3 c h).1, by have := (h3 c h).2; omega⟩⟩
theorem DD.tt {P : Nat → Prop} {w w' : World} {bd : Nat} {D : Dk} (h : DD P w bd D) (hf : Fr (fun _ _ => True) w w') : DD P w' bd D := h.fr hf fun _ _ _ _ => trivial
theorem Dsk.dd {P F F' : Nat → Prop} {w w' : World} {bd : Nat} {D : Dk} (h : Dsk w' bd (fun c => F c ∨ w.heap.size ≤ c) D) (h3 : ∀ c, F c → P c ∧ c < w.heap.size) : DD (fun c => P c ∨ w.heap.size ≤ c) w' bd D :=
  ⟨_, h.inside, fun c h => ⟨by
    rcases h.1 with h | h
    · exact .inl (h3 c h).1
    · exact .inr h, h.2⟩⟩
theorem dd_crash {K : Nat → Obj → Prop} {P : Nat → Prop} (w : World) (bd : Nat) (D : Dk) (pa : Option Addr) (pn pc : Nat) (zs : List Int) (h : DD P w bd D) (hp : IntsAt K w (.slice pa pn pc) zs) (hK : ∀ c o, K c o → ¬ P c) :
    Calls Tryd.prog 16 #[.pointer (some ⟨bd, 0, none⟩), .slice pa pn pc] w fun e w' => e = .returned (.tuple #[]) ∧ DD (fun c => P c ∨ w.heap.size ≤ c) w' bd (D.crash zs) ∧ Fr (fun c _ => ¬ P c) w w' := by
  obtain ⟨F, h1, h3⟩ := h
  exact (crash_main w bd F D pa pn pc zs h1 hp fun c o hc hf => hK c o hc (h3 c hf).1).mono fun e w' ⟨he, hd, hf⟩ => ⟨he, Dsk.dd (F' := F) hd h3, hf.mono fun c _ hc h => hc (h3 c h).1⟩

/-- What Open answers, and leaves, of a disk within P. -/
def OpenD (P : Nat → Prop) (w : World) (bd : Nat) (r : Int × Option Jn × Dk) (e : Ending) (w' : World) : Prop :=
  Fr (fun c _ => ¬ P c) w w' ∧ ((r.2.1 = none ∧ e = .returned (.tuple #[.pointer none, .slice none 0 0, .int .i64 r.1]) ∧ DD (fun c => P c ∨ w.heap.size ≤ c) w' bd r.2.2) ∨
    ∃ (J : Jn) (bj : Nat) (a : Option Addr) (c : Nat) (V : List (Value × List UInt8)) (Q R : Nat → Prop), r.2.1 = some J ∧ e = .returned (.tuple #[.pointer (some ⟨bj, 0, none⟩), .slice a J.all.length c, .int .i64 r.1]) ∧ JD Q w' bj bd J r.2.2 ∧ OwnL w' R (.slice a J.all.length c) V ∧ V.map (·.2) = J.all ∧ (∀ c, Q c → P c ∨ w.heap.size ≤ c) ∧ ∀ c, R c → w.heap.size ≤ c ∧ ¬ Q c)
theorem OpenPost.d {P F : Nat → Prop} {w w' : World} {bd : Nat} {r : Int × Option Jn × Dk} {e : Ending} (h : OpenPost w bd F r e w') (h3 : ∀ c, F c → P c ∧ c < w.heap.size) : OpenD P w bd r e w' := by
  obtain ⟨hf, h⟩ := h
  refine ⟨hf.mono fun c _ hc h => hc (h3 c h).1, ?_⟩
  rcases h with ⟨h1, h2, h4⟩ | ⟨J, bj, a, c, V, Q, R, h1, h2, h4, h5, h6, h7, h8⟩
  · exact .inl ⟨h1, h2, Dsk.dd (F' := F) h4 h3⟩
  · refine .inr ⟨J, bj, a, c, V, Q, R, h1, h2, h4, h5, h6, fun c hc => ?_, h8⟩
    rcases h7 c hc with h | h
    · exact .inl (h3 c h).1
    · exact .inr h

set_option maxRecDepth 100000 in
set_option maxHeartbeats 2000000 in
theorem dd_open {P : Nat → Prop} (w : World) (bd : Nat) (D : Dk) (z n : Int) (h : DD P w bd D) (ht : TabOK w) (hq : D.pend.length < 1000000) :
    Calls Tryd.prog 17 #[.pointer (some ⟨bd, 0, none⟩), .int .i64 z, .int .i64 n] w (OpenD P w bd (jopen D z n)) := by
  obtain ⟨F, hd, h3⟩ := h
  have hmax := hd.wf.max
  by_cases h1 : n < 1 ∨ 100 < n
  · have e1 : jopen D z n = (1, none, D) := by unfold jopen; rw [if_pos h1]
    have OUT : Hid (OpenD P w bd (jopen D z n) (.returned (.tuple #[.pointer none, .slice none 0 0, .int .i64 1])) w) := by
      show OpenD _ _ _ _ _ _
      rw [e1]
      exact ⟨Fr.refl _ _, .inl ⟨rfl, rfl, F, hd, fun c h => ⟨.inl (h3 c h).1, (h3 c h).2⟩⟩⟩
    clear hd h3 e1 ht hq hmax
    by_cases q : n < 1
    · have q' : decide (n < 1) = true := by simpa using q
      clear h1
      go_enter Tryd.func17, Tryd.ntmps17
      go_wp2
      go_ret3
      exact OUT.out
    · have q' : decide (n < 1) = false := by simpa using q
      have q2 : 100 < n := by omega
      clear h1
      go_enter Tryd.func17, Tryd.ntmps17
      go_wp2
      go_ret3
      exact OUT.out
  · by_cases h2 : z < 0 ∨ (D.sure.length : Int) - 2 - n < z
    · have e1 : jopen D z n = (40, none, D) := by unfold jopen; rw [if_neg h1, if_pos h2]
      have OUT : Hid (OpenD P w bd (jopen D z n) (.returned (.tuple #[.pointer none, .slice none 0 0, .int .i64 40])) w) := by
        show OpenD _ _ _ _ _ _
        rw [e1]
        exact ⟨Fr.refl _ _, .inl ⟨rfl, rfl, F, hd, fun c h => ⟨.inl (h3 c h).1, (h3 c h).2⟩⟩⟩
      have q1 : decide (n < 1) = false := by simp; omega
      have q2 : decide (100 < n) = false := by simp; omega
      have HL := Lib.hid (len_calls w bd F D hd)
      obtain ⟨m, hm⟩ : ∃ m, D.sure.length = m := ⟨_, rfl⟩
      rw [hm] at HL hmax h2
      have n1 : 1 ≤ n := by omega
      have n2 : n ≤ 100 := by omega
      clear hd h3 e1 ht hq hm h1
      by_cases q : z < 0
      · have q' : decide (z < 0) = true := by simpa using q
        clear h2
        go_enter Tryd.func17, Tryd.ntmps17
        go_wp2
        go_ret3
        exact OUT.out
      · have q' : decide (z < 0) = false := by simpa using q
        have q3 : (m : Int) - 2 - n < z := by omega
        have q4 : (m : Int) ≤ 512 := by omega
        clear h2
        go_enter Tryd.func17, Tryd.ntmps17
        go_wp2_with fail
        (with_reducible refine HL.out.mono ?_)
        rintro e w1 ⟨rfl, rfl⟩
        go_wp2
        go_ret3
        exact OUT.out
    · obtain ⟨zn, rfl⟩ := Int.eq_ofNat_of_zero_le (show 0 ≤ z by omega)
      obtain ⟨nn, rfl⟩ := Int.eq_ofNat_of_zero_le (show 0 ≤ n by omega)
      have e1 : jopen D zn nn = jopenIn D zn nn := by unfold jopen; rw [if_neg h1, if_neg h2]; rfl
      rw [e1]
      exact (jopen_main w bd F D zn nn hd ht (fun c h => (h3 c h).2) hq (by omega) (by omega) (by omega)).mono fun e w' h => h.d h3
end Go.Proofs.YtcpbmempfeloaaaDoor
/- Law 6: opened, made. -/
namespace Go.Proofs.YtcpbmempfeloaaaDoor
open Go.RowKit
set_option linter.unusedVariables false
set_option linter.unusedSimpArgs false

theorem jopen_some {P : Nat → Prop} {w w' : World} {bd : Nat} {r : Int × Option Jn × Dk} {e : Ending} (h : OpenD P w bd r e w') {c : Int} {J : Jn} {D : Dk} (hr : r = (c, some J, D)) : Fr (fun c _ => ¬ P c) w w' ∧
    ∃ (bj : Nat) (a : Option Addr) (cp : Nat) (V : List (Value × List UInt8)) (Q R : Nat → Prop), e = .returned (.tuple #[.pointer (some ⟨bj, 0, none⟩), .slice a J.all.length cp, .int .i64 c]) ∧ JD Q w' bj bd J D ∧ OwnL w' R (.slice a J.all.length cp) V ∧ V.map (·.2) = J.all ∧ (∀ c, Q c → P c ∨ w.heap.size ≤ c) ∧ ∀ c, R c → w.heap.size ≤ c ∧ ¬ Q c := by
  subst hr
  obtain ⟨h0, h⟩ := h
  rcases h with ⟨h1, _⟩ | ⟨J', bj, a, cp, V, Q, R, h1, h2, h3, h4, h5, h6, h7⟩
  · cases h1
  · cases h1
    exact ⟨h0, bj, a, cp, V, Q, R, h2, h3, h4, h5, h6, h7⟩

set_option maxRecDepth 100000 in
theorem opened_calls (w : World) (n : Nat) (J : Jn) (D : Dk) (hr : jopen (Dk.new 20) 1 n = (0, some J, D)) (ht : TabOK w) :
    Calls Tryd.prog 46 #[.int .i64 (n : Nat)] w fun e w' => (∃ bd bj, e = .returned (.tuple #[.pointer (some ⟨bd, 0, none⟩), .pointer (some ⟨bj, 0, none⟩)]) ∧ JD (fun c => w.heap.size ≤ c) w' bj bd J D) ∧ Fr (fun _ _ => True) w w' := by
  have HT := Lib.hid ht
  have HR := Lib.hid hr
  clear ht hr
  go_enter Tryd.func46, Tryd.ntmps46
  go_wp2_with fail
  (with_reducible refine (new_calls _ 20 _ (by decide) (by decide) (by decide)).mono ?_)
  rintro e w1 ⟨⟨bd, rfl, d1⟩, f1⟩
  have D1 : Hid (DD (fun c => w.heap.size ≤ c) w1 bd (Dk.new 20)) := ⟨_, d1.inside, fun c h => ⟨h.1, h.2⟩⟩
  have F1 := Lib.hid f1
  have OC := Lib.hid (dd_open w1 bd (Dk.new 20) 1 n D1.out (HT.out.tt f1) (by show (0 : Nat) < 1000000; decide))
  clear d1 f1
  go_wp2_with fail
  (with_reducible refine OC.out.mono ?_)
  rintro e w2 ho
  obtain ⟨f2, bj, a, cp, V, Q, R, rfl, hj, _, _, hq, _⟩ := jopen_some ho HR.out
  have J2 : Hid (JD (fun c => w.heap.size ≤ c) w2 bj bd J D) := hj.mono fun c _ h => by
    have := F1.out.size
    rcases hq c h with h | h
    · exact h
    · omega
  have F2 : Hid (Fr (fun c _ => c < w.heap.size) w w2) := (F1.out.mono fun _ _ _ => trivial).trans (f2.mono fun c _ h hc => by omega)
  clear ho f2 hj hq OC
  go_wp2
  go_ret2
  exact ⟨⟨bd, bj, rfl, J2.out⟩, Fr.within (F2.out.mono fun _ _ h => h.2)⟩

set_option maxRecDepth 100000 in
theorem made_bad (w : World) (n : Int) (a : Option Addr) (len cap : Nat) (h : n < 1 ∨ 17 < n ∨ 30 < len) :
    Calls Tryd.prog 12 #[.int .i64 n, .slice a len cap] w fun e w' => e = .returned (.tuple #[.pointer none, .pointer none]) ∧ w = w' := by
  by_cases h1 : n < 1
  · have h1' : decide (n < 1) = true := by simpa using h1
    clear h
    go_enter Tryd.func12, Tryd.ntmps12
    go_wp2
    go_ret2
    exact ⟨rfl, rfl⟩
  · have h1' : decide (n < 1) = false := by simpa using h1
    by_cases h2 : 17 < n
    · have h2' : decide (17 < n) = true := by simpa using h2
      clear h
      go_enter Tryd.func12, Tryd.ntmps12
      go_wp2
      go_ret2
      exact ⟨rfl, rfl⟩
    · have h2' : decide (17 < n) = false := by simpa using h2
      have h3 : (30 : Int) < len := by omega
      clear h
      go_enter Tryd.func12, Tryd.ntmps12
      go_wp2
      go_ret2
      exact ⟨rfl, rfl⟩

theorem jagain_some {D : Dk} {z n : Int} {J : Jn} {D' : Dk} (h : jagain D z n = some (J, D')) : ∃ c, jopen D z n = (c, some J, D') := by
  unfold jagain at h
  cases ho : (jopen D z n).2.1 with
  | none => rw [ho] at h; cases h
  | some K =>
    rw [ho] at h
    have h2 : (K, (jopen D z n).2.2) = (J, D') := Option.some.inj h
    have h3 : K = J := congrArg Prod.fst h2
    have h4 : (jopen D z n).2.2 = D' := congrArg Prod.snd h2
    exact ⟨(jopen D z n).1, Prod.ext rfl (Prod.ext (by rw [ho, h3]) h4)⟩
/-- What is made: each beginning of the calls leaves a journal. -/
theorem jmade_all {n : Nat} (h1 : 1 ≤ n) (h2 : n ≤ 17) (l : List OpJ) (hl : l.length ≤ 30) (j : Nat) (hj : j ≤ l.length) : ∃ J D, jmade 1 n (l.take j) = some (J, D) ∧ D.pend.length ≤ 100 := by
  obtain ⟨J, D, L, bs, e, h⟩ := jmade_ji 1 n h1 (by omega) (l.take j) (by rw [List.length_take]; omega)
  refine ⟨J, D, e, ?_⟩
  rw [h.pend, pendOf_length]
  have := h.few
  omega

set_option maxRecDepth 100000 in
set_option maxHeartbeats 4000000 in
theorem made_some (w : World) (n : Nat) (a : Option Addr) (len cap : Nat) (l : List OpJ) (h1 : 1 ≤ n) (h2 : n ≤ 17) (ho : OpsAt w.heap.size w (.slice a len cap) l) (ht : TabOK w) (hl : len ≤ 30) (J : Jn) (D : Dk) (hr : jmade 1 n l = some (J, D)) :
    Calls Tryd.prog 12 #[.int .i64 (n : Nat), .slice a len cap] w fun e w' => (∃ bd bj, e = .returned (.tuple #[.pointer (some ⟨bd, 0, none⟩), .pointer (some ⟨bj, 0, none⟩)]) ∧ JD (fun c => w.heap.size ≤ c) w' bj bd J D) ∧ Fr (fun _ _ => True) w w' := by
  have h0 : 0 < w.heap.size := by have := cell_lt (ht 0 (by decide)); simpa using this
  have hln := ho.len
  have MJ : Hid (∀ j, j ≤ l.length → ∃ J D, jmade 1 n (l.take j) = some (J, D) ∧ D.pend.length ≤ 100) := fun j hj => jmade_all h1 h2 l (by omega) j hj
  obtain ⟨J0, D0, hj0, _⟩ := MJ.out 0 (Nat.zero_le _)
  obtain ⟨c0, hjo⟩ := jagain_some (show jagain (Dk.new 20) 1 n = some (J0, D0) from hj0)
  obtain ⟨D0', hD0', _⟩ := new_ji 1 n h1 (by omega)
  obtain rfl : c0 = 0 := by
    have : jopen (Dk.new 20) 1 n = (0, some ⟨1, n, 1, 1, 0, []⟩, D0') := hD0'
    rw [this] at hjo
    cases hjo
    rfl
  have OC := Lib.hid (opened_calls w n J0 D0 hjo ht)
  have HJ0 := Lib.hid hj0
  have HT := Lib.hid ht
  have HO := Lib.hid ho
  have HLN := Lib.hid hln
  have HR := Lib.hid hr
  have hI : (len : Int) ≤ 30 := by omega
  have i1 : decide ((n : Int) < 1) = false := by simp; omega
  have i2 : decide (17 < (n : Int)) = false := by simp; omega
  have i3 : decide (17 < n) = false := by simp; omega
  have i4 : decide (n < 1) = false := by simp; omega
  clear ho hr hj0 hjo hD0' ht hln
  go_enter Tryd.func12, Tryd.ntmps12
  go_wp2_with fail
  (with_reducible refine OC.out.mono ?_)
  rintro e w1 ⟨⟨bd, bj, rfl, d1⟩, f1⟩
  have D1 := Lib.hid d1
  have F1 : Hid (Fr (fun c _ => c < w.heap.size) w w1) := f1.mono fun _ _ _ => trivial
  clear d1 f1 OC i1 i2 i3 i4
  go_wp2
  go_loopw [7, 8] (fun p i wr => ∃ (j : Nat) (Jj : Jn) (Dj : Dk) (b : Nat), p = .pointer (some ⟨b, 0, none⟩) ∧ i = .int .i64 j ∧ j ≤ len ∧ Hid (jmade 1 n (l.take j) = some (Jj, Dj)) ∧ Hid (JD (fun c => w.heap.size ≤ c) wr b bd Jj Dj) ∧ Hid (Fr (fun c _ => c < w.heap.size) w wr)) (fun _ i _ => len - (intOf i).toNat)
  case atStart => exact ⟨0, J0, D0, bj, rfl, rfl, Nat.zero_le _, HJ0, D1, F1⟩
  case round =>
    obtain ⟨j, Jj, Dj, b, rfl, rfl, hj, HM, DJ, FJ⟩ := hrel
    by_cases hlt : j < len
    · have hlt' : j < l.length := by have := HLN.out; omega
      obtain ⟨bl, off, rfl, hop⟩ : ∃ b off, a = some ⟨b, off, none⟩ ∧ OpAt w.heap.size w b off j l[j] := by
        obtain ⟨_, _, e, h⟩ := HO.out
        cases e
        rcases h with h | ⟨b, off, ha, h⟩
        · rw [h] at hlt'; simp at hlt'
        · exact ⟨b, off, ha, h j hlt'⟩
      obtain ⟨o, hoj⟩ : ∃ o, l[j] = o := ⟨_, rfl⟩
      have hm := jmade_snoc 1 n l j hlt'
      rw [hoj] at hop hm
      rw [HM.out] at hm
      obtain ⟨J2, D2, hJ2, _⟩ := MJ.out (j + 1) hlt'
      have hstep : jop 1 n (Jj, Dj) o = some (J2, D2) := by
        rw [hJ2] at hm; exact hm.symm
      have hpe : Dj.pend.length ≤ 100 := by
        obtain ⟨J3, D3, e3, h3⟩ := MJ.out j (by omega)
        rw [HM.out] at e3
        cases e3
        exact h3
      obtain ⟨e0, e1, e2, e3, hb, hlies⟩ := hop.fr FJ.out
      have hltI : (j : Int) < len := by omega
      have HM2 := Lib.hid hJ2
      have TJ : Hid (TabOK wr) := fun i hi => FJ.out.cell (fun _ _ => h0) (HT.out i hi)
      have HLS := Lib.hid hlies
      have HST := Lib.hid hstep
      have HP0 : Hid (¬ w.heap.size ≤ 0) := by show ¬ _; omega
      have DONE : Hid (∀ w' b', JD (fun c => w.heap.size ≤ c ∨ wr.heap.size ≤ c) w' b' bd J2 D2 → Fr (fun c _ => ¬ w.heap.size ≤ c) wr w' → JD (fun c => w.heap.size ≤ c) w' b' bd J2 D2 ∧ Fr (fun c _ => c < w.heap.size) w w') := fun w' b' h f => ⟨h.mono fun c _ hc => by
        have := FJ.out.size
        rcases hc with hc | hc
        · exact hc
        · omega, FJ.out.trans (f.mono fun c _ h => by omega)⟩
      clear hop hoj hm hlies hlt' hJ2 hstep HM MJ
      by_cases q1 : o.q = 1
      · have d1 : (o.q == 1) = true := by simp [q1]
        have hres : Hid ((jappend Jj Dj o.b).2 = (J2, D2)) := by
          have := HST.out
          unfold jop at this
          rw [if_pos q1] at this
          exact Option.some.inj this
        have SC := Lib.hid (jd_append wr b bd Jj Dj o.vb o.b DJ.out HP0.out HLS.out.hb TJ.out (by omega))
        clear q1
        go_wp2_with fail
        (with_reducible refine SC.out.mono ?_)
        rintro e w2 ⟨rfl, d2, f2⟩
        rw [hres.out] at d2
        obtain ⟨d3, f3⟩ := DONE.out _ _ d2 f2
        have D3 := Lib.hid d3
        have F3 := Lib.hid f3
        clear d2 f2 d3 f3 SC e0 e1 e2 e3
        go_wp2
        go_roundw
        case rel => exact ⟨j + 1, J2, D2, b, rfl, by go_num, by omega, HM2, D3, F3⟩
        case measure => simp [intOf]; omega
      · have d1 : (o.q == 1) = false := by simp [q1]
        by_cases q2 : o.q = 2
        · have d2 : (o.q == 2) = true := by simp [q2]
          have hres : Hid ((Jj, Dj.sync) = (J2, D2)) := by
            have := HST.out
            unfold jop at this
            rw [if_neg q1, if_pos q2] at this
            exact Option.some.inj this
          have SC := Lib.hid (jd_sync wr b bd Jj Dj DJ.out)
          clear q1 q2
          go_wp2_with fail
          (with_reducible refine SC.out.mono ?_)
          rintro e w2 ⟨rfl, d2', f2⟩
          obtain ⟨r1, r2⟩ : Jj = J2 ∧ Dj.sync = D2 := by have := hres.out; cases this; exact ⟨rfl, rfl⟩
          rw [r1, r2] at d2'
          obtain ⟨d3, f3⟩ := DONE.out _ _ d2' f2
          have D3 := Lib.hid d3
          have F3 := Lib.hid f3
          clear d2' f2 d3 f3 SC e0 e1 e2 e3 r1 r2
          go_wp2
          go_roundw
          case rel => exact ⟨j + 1, J2, D2, b, rfl, by go_num, by omega, HM2, D3, F3⟩
          case measure => simp [intOf]; omega
        · have d2 : (o.q == 2) = false := by simp [q2]
          by_cases q3 : o.q = 3
          · have d3 : (o.q == 3) = true := by simp [q3]
            have hres : Hid ((jtrim Jj Dj o.k).2 = (J2, D2)) := by
              have := HST.out
              unfold jop at this
              rw [if_neg q1, if_neg q2, if_pos q3] at this
              exact Option.some.inj this
            have SC := Lib.hid (jd_trim wr b bd Jj Dj o.k DJ.out HP0.out TJ.out (by omega))
            clear q1 q2 q3
            go_wp2_with fail
            (with_reducible refine SC.out.mono ?_)
            rintro e w2 ⟨rfl, d2', f2⟩
            rw [hres.out] at d2'
            obtain ⟨d3, f3⟩ := DONE.out _ _ d2' f2
            have D3 := Lib.hid d3
            have F3 := Lib.hid f3
            clear d2' f2 d3 f3 SC e0 e1 e2 e3
            go_wp2
            go_roundw
            case rel => exact ⟨j + 1, J2, D2, b, rfl, by go_num, by omega, HM2, D3, F3⟩
            case measure => simp [intOf]; omega
          · have d3 : (o.q == 3) = false := by simp [q3]
            by_cases q4 : o.q = 4
            · have d4 : (o.q == 4) = true := by simp [q4]
              have hres : Hid ((jcut Jj Dj o.k).2 = (J2, D2)) := by
                have := HST.out
                unfold jop at this
                rw [if_neg q1, if_neg q2, if_neg q3, if_pos q4] at this
                exact Option.some.inj this
              have SC := Lib.hid (jd_cut wr b bd Jj Dj o.k DJ.out HP0.out TJ.out (by omega))
              clear q1 q2 q3 q4
              go_wp2_with fail
              (with_reducible refine SC.out.mono ?_)
              rintro e w2 ⟨rfl, d2', f2⟩
              rw [hres.out] at d2'
              obtain ⟨d3, f3⟩ := DONE.out _ _ d2' f2
              have D3 := Lib.hid d3
              have F3 := Lib.hid f3
              clear d2' f2 d3 f3 SC e0 e1 e2 e3
              go_wp2
              go_roundw
              case rel => exact ⟨j + 1, J2, D2, b, rfl, by go_num, by omega, HM2, D3, F3⟩
              case measure => simp [intOf]; omega
            · have d4 : (o.q == 4) = false := by simp [q4]
              by_cases q5 : o.q = 5
              · have d5 : (o.q == 5) = true := by simp [q5]
                have hres : Hid (∃ c, jopen (Dj.crash o.zs) 1 n = (c, some J2, D2)) := by
                  have := HST.out
                  unfold jop at this
                  rw [if_neg q1, if_neg q2, if_neg q3, if_neg q4, if_pos q5] at this
                  exact jagain_some this
                obtain ⟨pa, pc, hvp⟩ := HLS.out.hp.form
                have hpz := HLS.out.hp
                rw [hvp] at e3 hpz
                have SC := Lib.hid (dd_crash wr bd Dj pa o.zs.length pc o.zs DJ.out.dd hpz (fun c _ h h2 => by omega))
                clear q1 q2 q3 q4 q5 hvp hpz
                go_wp2_with fail
                (with_reducible refine SC.out.mono ?_)
                rintro e w2 ⟨rfl, d2', f2⟩
                have OC := Lib.hid (dd_open w2 bd (Dj.crash o.zs) 1 n d2' (fun i hi => f2.cell (fun _ _ => HP0.out) (TJ.out i hi)) (by show (0 : Nat) < 1000000; decide))
                have F2 := Lib.hid f2
                clear d2' f2 SC e0 e1 e2 e3
                go_wp2_with fail
                (with_reducible refine OC.out.mono ?_)
                rintro e w3 ho
                obtain ⟨cc, hcc⟩ := hres.out
                obtain ⟨f3, bj', a3, cp3, V3, Q3, R3, rfl, hj3, _, _, hq3, _⟩ := jopen_some ho hcc
                obtain ⟨d3, f4⟩ := DONE.out w3 bj' (hj3.mono fun c _ h => by
                  have := F2.out.size
                  rcases hq3 c h with h | h
                  · exact h
                  · exact .inr (by omega)) (F2.out.trans (f3.mono fun c _ h hc => by
                    have := FJ.out.size
                    rcases hc with hc | hc
                    · exact h hc
                    · omega))
                have D3 := Lib.hid d3
                have F3 := Lib.hid f4
                clear ho f3 hj3 hq3 d3 f4 OC hcc
                go_wp2
                go_roundw
                case rel => exact ⟨j + 1, J2, D2, bj', rfl, by go_num, by omega, HM2, D3, F3⟩
                case measure => simp [intOf]; omega
              · have d5 : (o.q == 5) = false := by simp [q5]
                by_cases q6 : o.q = 6
                · have d6 : (o.q == 6) = true := by simp [q6]
                  have hres : Hid (∃ c, jopen Dj 1 n = (c, some J2, D2)) := by
                    have := HST.out
                    unfold jop at this
                    rw [if_neg q1, if_neg q2, if_neg q3, if_neg q4, if_neg q5, if_pos q6] at this
                    exact jagain_some this
                  have OC := Lib.hid (dd_open wr bd Dj 1 n DJ.out.dd TJ.out (by omega))
                  clear q1 q2 q3 q4 q5 q6
                  go_wp2_with fail
                  (with_reducible refine OC.out.mono ?_)
                  rintro e w3 ho
                  obtain ⟨cc, hcc⟩ := hres.out
                  obtain ⟨f3, bj', a3, cp3, V3, Q3, R3, rfl, hj3, _, _, hq3, _⟩ := jopen_some ho hcc
                  obtain ⟨d3, f4⟩ := DONE.out w3 bj' (hj3.mono fun c _ h => hq3 c h) f3
                  have D3 := Lib.hid d3
                  have F3 := Lib.hid f4
                  clear ho f3 hj3 hq3 d3 f4 OC hcc e0 e1 e2 e3
                  go_wp2
                  go_roundw
                  case rel => exact ⟨j + 1, J2, D2, bj', rfl, by go_num, by omega, HM2, D3, F3⟩
                  case measure => simp [intOf]; omega
                · have d6 : (o.q == 6) = false := by simp [q6]
                  have hres : Hid (Jj = J2 ∧ Dj = D2) := by
                    have := HST.out
                    unfold jop at this
                    rw [if_neg q1, if_neg q2, if_neg q3, if_neg q4, if_neg q5, if_neg q6] at this
                    cases Option.some.inj this
                    exact ⟨rfl, rfl⟩
                  have D3 : Hid (JD (fun c => w.heap.size ≤ c) wr b bd J2 D2) := by
                    show JD _ _ _ _ _ _
                    rw [← hres.out.1, ← hres.out.2]; exact DJ.out
                  clear q1 q2 q3 q4 q5 q6
                  go_wp2
                  go_roundw
                  case rel => exact ⟨j + 1, J2, D2, b, rfl, by go_num, by omega, HM2, D3, FJ⟩
                  case measure => simp [intOf]; omega
    · have hge : (len : Int) ≤ j := by omega
      have hfull : Hid (Jj = J ∧ Dj = D) := by
        have h := HM.out
        rw [List.take_of_length_le (by have := HLN.out; omega), HR.out] at h
        cases h
        exact ⟨rfl, rfl⟩
      go_wp2
      go_ret2
      refine ⟨⟨bd, b, rfl, ?_⟩, Fr.within (FJ.out.mono fun _ _ h => h.2)⟩
      rw [← hfull.out.1, ← hfull.out.2]; exact DJ.out
end Go.Proofs.YtcpbmempfeloaaaDoor
/- Law 6: the chapter's examples, plainly. -/
namespace Go.Proofs.YtcpbmempfeloaaaDoor
open Go.RowKit
set_option linter.unusedVariables false

def gJ (r : Int × Option Jn × Dk) : Jn × Dk := (r.2.1.getD ⟨0, 0, 0, 0, 0, []⟩, r.2.2)
theorem gJ_eq {r : Int × Option Jn × Dk} {c : Int} (h1 : r.1 = c) (h2 : r.2.1.isSome = true) : r = (c, some (gJ r).1, (gJ r).2) := by
  obtain ⟨a, o, D⟩ := r
  cases o with
  | none => cases h2
  | some J => cases h1; rfl
def app (s : Jn × Dk) (b : List UInt8) : Jn × Dk := (jappend s.1 s.2 b).2
def apps (s : Jn × Dk) : Nat → Jn × Dk
  | 0 => s
  | j + 1 => app (apps s j) [UInt8.ofNat (97 + j)]
theorem app_pend (s : Jn × Dk) (b : List UInt8) : (app s b).2.pend.length ≤ s.2.pend.length + 1 := by
  unfold app jappend
  split
  · exact Nat.le_succ _
  · split
    · exact Nat.le_succ _
    · exact pend_write _ _ _
theorem apps_pend (s : Jn × Dk) : ∀ j, (apps s j).2.pend.length ≤ s.2.pend.length + j
  | 0 => Nat.le_refl _
  | j + 1 => by
    have := apps_pend s j
    have := app_pend (apps s j) [UInt8.ofNat (97 + j)]
    show (app _ _).2.pend.length ≤ _
    omega
def aj0 : Jn × Dk := gJ (jopen (Dk.new 20) 1 4)
def ax1 : Jn × Dk := app aj0 [97]
def ax2 : Jn × Dk := app ax1 [98]
def ax3 : Jn × Dk := (ax2.1, ax2.2.sync)
def ax4 : Jn × Dk := app ax3 [99]
def ax5 : Jn × Dk := gJ (jopen (ax4.2.crash []) 1 4)
def ay1 : Jn × Dk := apps aj0 3
def ay2 : Jn × Dk := gJ (jopen (ay1.2.crash [0, 64, 64]) 1 4)
def az1 : Jn × Dk := apps aj0 4
def az2 : Jn × Dk := app az1 [101]
def az3 : Jn × Dk := (jtrim az2.1 az2.2 1).2
def az4 : Jn × Dk := app az3 [101]
def av1 : Jn × Dk := apps aj0 3
def av2 : Jn × Dk := (jcut av1.1 av1.2 2).2
def av3 : Jn × Dk := app av2 [100]
set_option maxRecDepth 1000000 in
theorem aw_0 : (jopen (Dk.new 20) 1 4).1 = 0 ∧ (jopen (Dk.new 20) 1 4).2.1.isSome = true ∧ aj0.2.pend.length = 0 := by decide +kernel
set_option maxRecDepth 1000000 in
theorem aw_x : (jopen (ax4.2.crash []) 1 4).1 = 0 ∧ (jopen (ax4.2.crash []) 1 4).2.1.isSome = true ∧ ax5.1.all = [[97], [98]] ∧ ax1.2.pend.length ≤ 100 ∧ ax2.2.pend.length ≤ 100 ∧ ax3.2.pend.length ≤ 100 := by decide +kernel
set_option maxRecDepth 1000000 in
theorem aw_y : (jopen (ay1.2.crash [0, 64, 64]) 1 4).1 = 0 ∧ (jopen (ay1.2.crash [0, 64, 64]) 1 4).2.1.isSome = true ∧ ay2.1.all = [] := by decide +kernel
set_option maxRecDepth 1000000 in
theorem aw_z : (jappend az1.1 az1.2 [101]).1 = 42 ∧ (jtrim az2.1 az2.2 1).1 = 0 ∧ (jappend az3.1 az3.2 [101]).1 = 0 ∧ az4.1.all = [[98], [99], [100], [101]] ∧ az1.2.pend.length ≤ 100 ∧ az2.2.pend.length ≤ 100 ∧ az3.2.pend.length ≤ 100 := by decide +kernel
set_option maxRecDepth 1000000 in
theorem aw_v : (jcut av1.1 av1.2 2).1 = 0 ∧ av3.1.all = [[97], [100]] ∧ av1.2.pend.length ≤ 100 ∧ av2.2.pend.length ≤ 100 := by decide +kernel
theorem aw_open : jopen (Dk.new 20) 1 ((4 : Nat) : Int) = (0, some aj0.1, aj0.2) := gJ_eq aw_0.1 aw_0.2.1
theorem aw_openx : jopen (ax4.2.crash []) 1 4 = (0, some ax5.1, ax5.2) := gJ_eq aw_x.1 aw_x.2.1
theorem aw_openy : jopen (ay1.2.crash [0, 64, 64]) 1 4 = (0, some ay2.1, ay2.2) := gJ_eq aw_y.1 aw_y.2.1

/-- One of several journals: its blocks are those that o gives to i. -/
def Sep (n : Nat) (w : World) (o : Nat → Nat) (i bj bd : Nat) (s : Jn × Dk) : Prop := JD (fun c => o c = i ∧ n ≤ c) w bj bd s.1 s.2
def upd (o : Nat → Nat) (w : World) (i : Nat) : Nat → Nat := fun c => if c < w.heap.size then o c else i
theorem Sep.tt {n : Nat} {w w' : World} {o : Nat → Nat} {i bj bd : Nat} {s : Jn × Dk} (h : Sep n w o i bj bd s) (hf : Fr (fun _ _ => True) w w') : Sep n w' o i bj bd s := JD.tt h hf
theorem Sep.self {n : Nat} {w w' : World} {o : Nat → Nat} {i bj bd : Nat} {s : Jn × Dk} (h : JD (fun c => (o c = i ∧ n ≤ c) ∨ w.heap.size ≤ c) w' bj bd s.1 s.2) (hn : n ≤ w.heap.size) : Sep n w' (upd o w i) i bj bd s :=
  JD.mono h fun c _ hc => by
    unfold upd
    rcases hc with hc | hc
    · refine ⟨?_, hc.2⟩
      split
      · exact hc.1
      · rfl
    · exact ⟨if_neg (by omega), by omega⟩
theorem Sep.other {n : Nat} {w w' : World} {o : Nat → Nat} {i k bj bd : Nat} {s : Jn × Dk} (h : Sep n w o k bj bd s) (hk : k ≠ i) (hf : Fr (fun c _ => ¬ (o c = i ∧ n ≤ c)) w w') : Sep n w' (upd o w i) k bj bd s := by
  have h1 : JD (fun c => (o c = k ∧ n ≤ c) ∧ c < w.heap.size) w bj bd s.1 s.2 := JD.mono h fun c hl hc => ⟨hc, hl⟩
  have h2 := h1.fr hf fun c _ _ hc h2 => hk (hc.1.1.symm.trans h2.1)
  exact h2.mono fun c _ hc => ⟨by unfold upd; rw [if_pos hc.2]; exact hc.1.1, hc.1.2⟩
theorem bytes1 (w : World) (b : UInt8) (z : Int) (hz : z = b.toNat) : BytesAt (fun _ _ => True) (w.alloc (.cells #[.int .u8 z] 5 (0, 0))) (.slice (some ⟨w.heap.size, 0, none⟩) 1 1) [b] := by
  subst hz
  have hb := heap_alloc_new w (.cells #[.int .u8 (b.toNat : Int)] 5 (0, 0))
  refine ⟨some ⟨w.heap.size, 0, none⟩, 1, rfl, Nat.le_refl _, (fun e => by cases e), .inr ⟨w.heap.size, 0, _, rfl, hb, trivial, fun i hi => ?_⟩⟩
  obtain rfl : i = 0 := by simp at hi; omega
  exact cell_mk hb rfl
end Go.Proofs.YtcpbmempfeloaaaDoor
/- Law 6: opened again, and what was lost, plainly. -/
namespace Go.Proofs.YtcpbmempfeloaaaDoor
open Go.RowKit
set_option linter.unusedVariables false
set_option linter.unusedSimpArgs false

theorem JI.pend100 {z n q : Nat} {J : Jn} {D : Dk} {L : List (Nat × List UInt8)} {bs : List (List UInt8)} (h : JI z n q J D L bs) : D.pend.length ≤ 100 := by
  rw [h.pend, pendOf_length]
  have := h.few
  have := h.n17
  omega
theorem JI.allLen {z n q : Nat} {J : Jn} {D : Dk} {L : List (Nat × List UInt8)} {bs : List (List UInt8)} (h : JI z n q J D L bs) : J.all.length ≤ n ∧ J.all.length = J.held.length := by
  have := h.heldLen
  have := h.few
  unfold Jn.all
  rw [List.length_map]
  omega
/-- JournalAgain. -/
theorem again_law {n q : Nat} {J : Jn} {D : Dk} {L : List (Nat × List UInt8)} {bs : List (List UInt8)} (h : JI 1 n q J D L bs) (hq : q + 10 < 250) (b : List UInt8) :
    ∃ J1 D1 J2 D2 c J3 D3 J4 D4, jopen D.sync 1 n = (0, some J1, D1) ∧ J1.all = J.all ∧ jopen D1 1 n = (0, some J2, D2) ∧ J2.all = J.all ∧ jappend J2 D2 b = (c, J3, D3) ∧ jopen (D3.sync.crash []) 1 n = (0, some J4, D4) ∧ J4.all = J3.all ∧
      ((c = 0 ∧ J3.all = J.all ++ [b]) ∨ (c ≠ 0 ∧ J3.all = J.all ∧ (43 < b.length ∨ J.all.length = n))) ∧ D.sync.pend.length ≤ 100 ∧ D1.pend.length ≤ 100 ∧ D2.pend.length ≤ 100 ∧ D3.sync.pend.length ≤ 100 := by
  have h1 := h.syncs (by omega)
  obtain ⟨D1, e1, i1⟩ := h1.opens (by omega)
  obtain ⟨J1, hJ1⟩ : ∃ J1 : Jn, { J with epoch := J.epoch + 1 } = J1 := ⟨_, rfl⟩
  rw [hJ1] at e1 i1
  have g1 : J1.all = J.all := by rw [← hJ1]; rfl
  obtain ⟨D2, e2, i2⟩ := i1.opens (by omega)
  obtain ⟨J2, hJ2⟩ : ∃ J2 : Jn, { J1 with epoch := J1.epoch + 1 } = J2 := ⟨_, rfl⟩
  rw [hJ2] at e2 i2
  have g2 : J2.all = J.all := by rw [← g1, ← hJ2]; rfl
  obtain ⟨c, J3, D3, he⟩ : ∃ c J3 D3, jappend J2 D2 b = (c, J3, D3) := ⟨_, _, _, rfl⟩
  have ap := i2.appends (by omega) b
  rw [he] at ap
  rcases ap with ⟨c1, c2, c3⟩ | ⟨c1, c2, c3⟩
  · replace c3 : J3 = { J2 with held := J2.held ++ [(J2.epoch, b)] } := c3
    rw [← c3] at c2
    have h3 := c2.syncs (by omega)
    obtain ⟨D4, e4, i4⟩ := h3.again (by omega) []
    refine ⟨J1, D1, J2, D2, c, J3, D3, _, D4, e1, g1, e2, g2, he, e4, rfl, .inl ⟨c1, ?_⟩, h1.pend100, i1.pend100, i2.pend100, h3.pend100⟩
    rw [← g2, c3]
    simp [Jn.all]
  · have c4 : (J3, D3) = (J2, D2) := c2
    cases c4
    have h3 := i2.syncs (by omega)
    obtain ⟨D4, e4, i4⟩ := h3.again (by omega) []
    refine ⟨J1, D1, J2, D2, c, J2, D2, _, D4, e1, g1, e2, g2, he, e4, rfl, .inr ⟨c1, g2, ?_⟩, h1.pend100, i1.pend100, i2.pend100, h3.pend100⟩
    rcases c3 with c3 | c3
    · exact .inl c3
    · right
      rw [← g2]
      unfold Jn.all
      rw [List.length_map]; exact c3

def mk4 (i : Nat) : List UInt8 := [200, 201, 202, UInt8.ofNat i]
def mk2 (i : Nat) : List UInt8 := [100, UInt8.ofNat i]
def lapps (f : Nat → List UInt8) (s : Jn × Dk) : Nat → Jn × Dk
  | 0 => s
  | j + 1 => app (lapps f s j) (f j)
theorem lapps_ji {z n : Nat} {L : List (Nat × List UInt8)} (f : Nat → List UInt8) {q : Nat} {J : Jn} {D : Dk} {bs : List (List UInt8)} (h : JI z n q J D L bs) : ∀ m, q + m < 250 → ∃ bs', JI z n (q + m) (lapps f (J, D) m).1 (lapps f (J, D) m).2 L bs'
  | 0, _ => ⟨bs, h⟩
  | m + 1, hq => by
    obtain ⟨bs', i⟩ := lapps_ji f h m (by omega)
    rcases i.appends (by omega) (f m) with ⟨c1, c2, c3⟩ | ⟨c1, c2, c3⟩
    · refine ⟨bs' ++ [f m], ?_⟩
      have e : lapps f (J, D) (m + 1) = (jappend (lapps f (J, D) m).1 (lapps f (J, D) m).2 (f m)).2 := rfl
      rw [e, c3]; exact c2
    · refine ⟨bs', ?_⟩
      have e : lapps f (J, D) (m + 1) = (jappend (lapps f (J, D) m).1 (lapps f (J, D) m).2 (f m)).2 := rfl
      rw [e, c2]; exact i.up1
/-- JournalLost. -/
theorem lost_law {n q : Nat} {J : Jn} {D : Dk} {L : List (Nat × List UInt8)} {bs : List (List UInt8)} (h : JI 1 n q J D L bs) (hq : q + 40 < 250) (marked more : Nat) (h1 : marked ≤ 10) (h2 : more ≤ 10) (zs : List Int) (drop : Int) :
    ∃ J1 D1 s2 c J3 D3 J4 D4, jopen ((lapps mk4 (J, D.sync) marked).2.crash zs) 1 n = (0, some J1, D1) ∧ J1.all.length ≤ n ∧ lapps mk2 (J1, D1) more = s2 ∧ jtrim s2.1 s2.2.sync drop = (c, J3, D3) ∧ jopen (D3.crash []) 1 n = (0, some J4, D4) ∧
      ((c = 0 ∧ 0 ≤ drop ∧ drop ≤ s2.1.all.length ∧ J4.all = s2.1.all.drop drop.toNat) ∨ (c ≠ 0 ∧ J4.all = s2.1.all)) ∧
      (∀ j, j ≤ marked → (lapps mk4 (J, D.sync) j).2.pend.length ≤ 100) ∧ (∀ j, j ≤ more → (lapps mk2 (J1, D1) j).2.pend.length ≤ 100) ∧ s2.2.sync.pend.length ≤ 100 := by
  have i0 := h.syncs (by omega)
  obtain ⟨bs1, i1⟩ := lapps_ji mk4 i0 marked (by omega)
  have hp1 : ∀ j, j ≤ marked → (lapps mk4 (J, D.sync) j).2.pend.length ≤ 100 := fun j hj => by
    obtain ⟨_, i⟩ := lapps_ji mk4 i0 j (by omega)
    exact i.pend100
  obtain ⟨sm, hsm⟩ : ∃ sm, lapps mk4 (J, D.sync) marked = sm := ⟨_, rfl⟩
  rw [hsm] at i1 ⊢
  obtain ⟨j, D1, hj, e1, i2⟩ := i1.crash (by omega) zs
  obtain ⟨J1, hJ1⟩ : ∃ J1 : Jn, { sm.1 with epoch := sm.1.epoch + 1, held := J.held ++ recE sm.1.epoch (bs1.take j) } = J1 := ⟨_, rfl⟩
  rw [hJ1] at e1 i2
  obtain ⟨bs2, i3⟩ := lapps_ji mk2 i2 more (by omega)
  have hp2 : ∀ k, k ≤ more → (lapps mk2 (J1, D1) k).2.pend.length ≤ 100 := fun k hk => by
    obtain ⟨_, i⟩ := lapps_ji mk2 i2 k (by omega)
    exact i.pend100
  obtain ⟨s2, hs2⟩ : ∃ s2, lapps mk2 (J1, D1) more = s2 := ⟨_, rfl⟩
  rw [hs2] at i3
  have i4 := i3.syncs (by omega)
  obtain ⟨c, J3, D3, he⟩ : ∃ c J3 D3, jtrim s2.1 s2.2.sync drop = (c, J3, D3) := ⟨_, _, _, rfl⟩
  have tr := i4.trims (by omega) drop
  rw [he] at tr
  rcases tr with ⟨t1, t2, t3, t4, t5⟩ | ⟨t1, t2⟩
  · replace t5 : J3 = s2.1.trim drop.toNat := t5
    rw [← t5] at t4
    obtain ⟨D4, e4, i5⟩ := t4.again (by omega) []
    refine ⟨J1, D1, s2, c, J3, D3, _, D4, e1, i2.allLen.1, hs2, he, e4, .inl ⟨t3, t1, ?_, ?_⟩, hp1, hp2, i4.pend100⟩
    · rw [i4.allLen.2]; exact t2
    · rw [t5]
      simp [Jn.all, Jn.trim, List.map_drop]
  · have c4 : (c, J3, D3) = (1, s2.1, s2.2.sync) := t2
    cases c4
    obtain ⟨D4, e4, i5⟩ := i4.again (by omega) []
    exact ⟨J1, D1, s2, 1, s2.1, s2.2.sync, _, D4, e1, i2.allLen.1, hs2, he, e4, .inr ⟨by decide, rfl⟩, hp1, hp2, i4.pend100⟩
end Go.Proofs.YtcpbmempfeloaaaDoor
/- A journal at 3, a slot at 1: what one does leaves the other. -/
namespace Go.Proofs.YtcpbmempfeloaaaDoor
open Go.RowKit
set_option linter.unusedVariables false
set_option linter.unusedSimpArgs false

section
variable {n q m y : Nat} {J : Jn} {D : Dk} {L : List (Nat × List UInt8)} {bs : List (List UInt8)} {b : List UInt8}
/-- The slot at 1, sure, is seen so. -/
theorem JI.pl1 (h : JI 3 n q J D L bs) (hp : Pl D.sure 1 m y b) : Pl D.seen 1 m y b := by
  rw [h.up.good.seen]
  exact Pl.lay _ hp fun x hx => by have := h.plp x hx; omega
theorem pl1_set {S : List (List UInt8)} (hp : Pl S 1 m y b) {i : Nat} (hi : 3 ≤ i) (x : List UInt8) : Pl (S.set i x) 1 m y b := hp.other (by omega) (by omega)
/-- A save of the slot at 3. -/
theorem pl1_save {m3 y3 : Nat} {b0 b1 : List UInt8} (hu : Up D) (h3 : Pl D.seen 3 m3 y3 b0) (hm : m3 + 1 < 4294967295) (hb : b1.length ≤ 43) (hp : Pl D.seen 1 m y b) : Pl (saveM D 3 b1).2.sure 1 m y b := by
  obtain ⟨_, _, _, s4, _⟩ := hu.save (by decide) h3 hm hb
  have := h3.yk
  rw [show (saveM D 3 b1).2.sure = _ from s4]
  exact pl1_set hp (by omega) _
theorem JI.pl1_trim (h : JI 3 n q J D L bs) (hq : q < 250) (hp : Pl D.sure 1 m y b) (k : Int) : Pl (jtrim J D k).2.2.sure 1 m y b := by
  obtain ⟨⟨m3, y3, h3, _, hm⟩, _, _⟩ := h.seen hq
  unfold jtrim
  split
  · exact hp
  · unfold jsave
    rw [show ((J.trim k.toNat).loc : Int) = 3 by show (J.loc : Int) = 3; rw [h.loc]; rfl]
    exact pl1_save h.up h3 (by omega) (by rw [metaB_length]; decide) (h.pl1 hp)
theorem jzero_pl (hloc : J.loc = 3) : ∀ (k i : Nat) (D : Dk), Up D → D.pend.length + k < 1000000 → (∀ s, 5 ≤ J.sec s ∧ J.sec s < 20) → (∃ m3 y3 b3, Pl D.seen 3 m3 y3 b3 ∧ m3 < 250) → Pl D.seen 1 m y b →
    Up (jzero J k i D) ∧ Pl (jzero J k i D).seen 1 m y b
  | 0, i, D, hu, _, _, _, hp => ⟨hu, hp⟩
  | k + 1, i, D, hu, hl, hs, h3, hp => by
    obtain ⟨s1, s2⟩ := hs ((J.first + (i - 1)) % 4294967296)
    obtain ⟨m3, y3, b3, h3, hm3⟩ := h3
    obtain ⟨w1, w2, w3, w4, w5⟩ := hu.write (J.sec ((J.first + (i - 1)) % 4294967296)) [] s2 (Nat.zero_le _) (by omega)
    refine jzero_pl hloc k (i - 1) _ w2 (by rw [w4, List.length_append]; simp only [List.length_singleton]; omega) hs ⟨m3, y3, b3, ?_, hm3⟩ ?_
    · rw [w3]; exact h3.other (by omega) (by omega)
    · rw [w3]; exact pl1_set hp (by omega) _
theorem JI.sec (h : JI 3 n q J D L bs) (s : Nat) : 5 ≤ J.sec s ∧ J.sec s < 20 := by
  have hn := h.n17
  have h1 := h.ring.n1
  have hm := Nat.mod_lt s h1
  unfold Jn.sec
  rw [h.loc, h.jn]
  omega
theorem JI.pl1_cut (h : JI 3 n q J D L bs) (hq : q < 250) (hp : Pl D.sure 1 m y b) (k : Int) : Pl (jcut J D k).2.2.sure 1 m y b := by
  obtain ⟨⟨m3, y3, h3, _, hm⟩, hr, _⟩ := h.seen hq
  have hl := h.heldLen
  have hf := h.few
  have hn := h.n17
  unfold jcut
  split
  · exact hp
  · rename_i hk
    split
    · exact hp
    · obtain ⟨s1, s2, s3, s4⟩ := h.up.sync
      have hk2 : k.toNat ≤ J.held.length := by omega
      obtain ⟨z1, z2⟩ := jzero_pl (b := b) h.loc k.toNat J.held.length D.sync s1 (by rw [s4]; simp only [List.length_nil]; omega) h.sec ⟨m3, y3, _, by rw [s2]; exact h3, by omega⟩ (by rw [s2]; exact h.pl1 hp)
      obtain ⟨z3, z4, z5⟩ := jzero_ok (z := 3) (n := n) J h.n17 h.loc h.jn k.toNat J.held.length D.sync J.held s1 (by rw [s2]; exact hr) rfl hk2 (by rw [s2]; exact h3) (by rw [s4]; simp only [List.length_nil]; omega)
      obtain ⟨t1, t2, t3, t4⟩ := z1.sync
      unfold jsave
      rw [show ((J.cut k.toNat).loc : Int) = 3 by show (J.loc : Int) = 3; rw [h.loc]; rfl]
      exact pl1_save t1 (by rw [t2]; exact z5) (by omega) (by rw [metaB_length]; decide) (by rw [t2]; exact z2)
theorem JI.pl1_append (h : JI 3 n q J D L bs) (hq : q < 250) (hp : Pl D.sure 1 m y b) (x : List UInt8) : Pl (jappend J D x).2.2.sure 1 m y b := by
  have hlen := h.heldLen
  have hf := h.few
  have hn := h.n17
  have hpe : D.pend.length ≤ 100 := h.pend100
  unfold jappend
  split
  · exact hp
  · split
    · exact hp
    · rename_i hx _
      obtain ⟨s1, s2⟩ := h.sec J.next
      obtain ⟨w1, w2, w3, w4, w5⟩ := h.up.write (J.sec J.next) (stampB J.next J.epoch x) s2 (by rw [stampB_length _ _ _ (by omega)]; exact Nat.le_refl _) (by omega)
      rw [w5]
      exact hp
theorem JI.pl1_sync (h : JI 3 n q J D L bs) (hp : Pl D.sure 1 m y b) : Pl D.sync.sure 1 m y b := by
  obtain ⟨s1, s2, s3, s4⟩ := h.up.sync
  rw [s3]
  exact h.pl1 hp
theorem jopen_pl1 {z : Nat} {J' : Jn} {D' : Dk} (hu : Up D) {m3 y3 : Nat} {b0 : List UInt8} (h3 : Pl D.seen 3 m3 y3 b0) (hm : m3 + 1 < 4294967295) (hp : Pl D.seen 1 m y b) (hz : jopen D 3 z = (0, some J', D')) : Pl D'.sure 1 m y b := by
  unfold jopen at hz
  split at hz
  · cases hz
  · split at hz
    · cases hz
    · unfold jopenIn at hz
      split at hz
      · cases hz
      · split at hz
        · cases hz
        · dsimp only at hz
          split at hz
          · injection hz with _ hz
            injection hz with _ hz
            rw [← hz]
            unfold jsave
            exact pl1_save hu h3 hm (by rw [metaB_length]; decide) hp
          · injection hz with _ hz
            injection hz with hz _
            cases hz
/-- A save of the slot at 1 leaves the journal. -/
theorem JI.slot1 (h : JI 3 n q J D L bs) (hq : q < 250) (hp : Pl D.sure 1 m y b) (hm : m + 1 < 4294967295) {b1 : List UInt8} (hb : b1.length ≤ 43) :
    (saveM D 1 b1).1 = 0 ∧ JI 3 n q J (saveM D 1 b1).2 J.held [] ∧ Pl (saveM D 1 b1).2.sure 1 (m + 1) (2 * 1 + 1 - y) b1 := by
  obtain ⟨⟨m3, y3, h3, h0, hm3⟩, hr, hf⟩ := h.seen hq
  have hp1 := h.pl1 hp
  have hlen := h.heldLen
  have hnq := h.nq
  have hfw := h.few
  obtain ⟨s1, s2, s3, s4, s5⟩ := h.up.save (z := 1) (by decide) hp1 hm hb
  have hyk := hp.yk
  have he : ∀ x, x < n → (D.seen.set y (stampB (m + 1) 0 b1)).getD (3 + 2 + x) [] = D.seen.getD (3 + 2 + x) [] := fun x hx => getD_set_other (by omega) _
  have hl : (D.seen.set y (stampB (m + 1) 0 b1)).length = D.seen.length := by simp
  have s4' : (saveM D 1 b1).2.sure = D.seen.set y (stampB (m + 1) 0 b1) := s4
  have s5' : (saveM D 1 b1).2.pend = [] := s5
  refine ⟨s1, ⟨s2, h.n17, h.loc, h.jn, ⟨m3, y3, ?_, h0, hm3⟩, ?_, ?_, by simp [recE], ?_, by simp; omega, by simp, h.e1, h.eq, by simp; omega⟩, ?_⟩
  · rw [s4']; exact h3.other (by omega) (by omega)
  · rw [s4']; exact hr.congr hl he
  · rw [s4']; exact Fresh.congr hf he
  · rw [s5']; rfl
  · rw [s4']; exact hp1.step (by rw [h.up.seenLen]; decide) (by omega) hb
end
end Go.Proofs.YtcpbmempfeloaaaDoor
