/- Texts of the proofs, part 26: what the functions that they reach do, walked; no conditions beyond those that each states. -/
import Derived.Test.YtcpbmempfeloaaaDoorZz2cedd11050
set_option linter.unusedVariables false
set_option linter.unusedSimpArgs false
/- A journal and its disk: one contract a function. -/
namespace Go.Proofs.YtcpbmempfeloaaaDoor
open Go.RowKit
set_option linter.unusedVariables false
set_option linter.unusedSimpArgs false

theorem JD.parts {P : Nat → Prop} {w : World} {bj bd : Nat} {J : Jn} {D : Dk} (h : JD P w bj bd J D) : ∃ F G : Nat → Prop, Dsk w bd F D ∧ Jnl w bj bd G J ∧ (∀ c, F c → P c ∧ c < w.heap.size) ∧ (∀ c, G c → P c ∧ c < w.heap.size) ∧ ∀ c, G c → ¬ F c := h
theorem JD.mono {P P' : Nat → Prop} {w : World} {bj bd : Nat} {J : Jn} {D : Dk} (h : JD P w bj bd J D) (hp : ∀ c, c < w.heap.size → P c → P' c) : JD P' w bj bd J D := by
  obtain ⟨F, G, h1, h2, h3, h4, h5⟩ := h
  exact ⟨F, G, h1, h2, fun c h => ⟨hp c (h3 c h).2 (h3 c h).1, (h3 c h).2⟩, fun c h => ⟨hp c (h4 c h).2 (h4 c h).1, (h4 c h).2⟩, h5⟩
theorem JD.fr {K : Nat → Obj → Prop} {P : Nat → Prop} {w w' : World} {bj bd : Nat} {J : Jn} {D : Dk} (h : JD P w bj bd J D) (hf : Fr K w w') (hk : ∀ c o, w.heap[c]? = some o → P c → K c o) : JD P w' bj bd J D := by
  obtain ⟨F, G, h1, h2, h3, h4, h5⟩ := h
  have := hf.size
  exact ⟨F, G, h1.fr hf fun c o ho hc => hk c o ho (h3 c hc).1, h2.fr hf fun c o ho hc => hk c o ho (h4 c hc).1, fun c h => ⟨(h3 c h).1, by have := (h3 c h).2; omega⟩, fun c h => ⟨(h4 c h).1, by have := (h4 c h).2; omega⟩, h5⟩
theorem JD.tt {P : Nat → Prop} {w w' : World} {bj bd : Nat} {J : Jn} {D : Dk} (h : JD P w bj bd J D) (hf : Fr (fun _ _ => True) w w') : JD P w' bj bd J D := h.fr hf fun _ _ _ _ => trivial
/-- Behind a step. -/
theorem JPost.jd {P F G : Nat → Prop} {w w' : World} {bj bd : Nat} {J : Jn} {D : Dk} (h : JPost w w' bj bd F G J D) (h3 : ∀ c, F c → P c ∧ c < w.heap.size) (h4 : ∀ c, G c → P c ∧ c < w.heap.size) (h5 : ∀ c, G c → ¬ F c) : JD (fun c => P c ∨ w.heap.size ≤ c) w' bj bd J D := by
  obtain ⟨m, m1, m2, hj, hd⟩ := h
  refine ⟨_, _, hd.inside, hj, fun c h => ⟨?_, h.2⟩, fun c h => ⟨?_, by have := h.2; omega⟩, fun c h hf => ?_⟩
  · rcases h.1 with h | h
    · exact .inl (h3 c h).1
    · exact .inr (by omega)
  · rcases h.1 with h | h
    · exact .inl (h4 c h).1
    · exact .inr h
  · rcases hf.1 with hf | hf
    · rcases h.1 with h | h
      · exact h5 c h hf
      · have := (h3 c hf).2; omega
    · have := h.2; omega
theorem jd_append {K : Nat → Obj → Prop} {P : Nat → Prop} (w : World) (bj bd : Nat) (J : Jn) (D : Dk) (v : Value) (b : List UInt8) (h : JD P w bj bd J D) (hP0 : ¬ P 0) (hb : BytesAt K w v b) (ht : TabOK w) (hq : D.pend.length < 1000000) :
    Calls Tryd.prog 15 #[.pointer (some ⟨bj, 0, none⟩), v] w fun e w' => e = .returned (.int .i64 (jappend J D b).1) ∧ JD (fun c => P c ∨ w.heap.size ≤ c) w' bj bd (jappend J D b).2.1 (jappend J D b).2.2 ∧ Fr (fun c _ => ¬ P c) w w' := by
  obtain ⟨F, G, h1, h2, h3, h4, h5⟩ := h
  exact (jappend_calls w bj bd F G J D v b h2 h1 h5 (fun c h => (h3 c h).2) (fun c h => (h4 c h).2) (fun h => hP0 (h4 0 h).1) hb ht hq).mono fun e w' ⟨he, hp, hf⟩ =>
    ⟨he, JPost.jd hp h3 h4 h5, hf.mono fun c _ hc => ⟨fun h => hc (h3 c h).1, fun h => hc (h4 c h).1⟩⟩
theorem jd_trim {P : Nat → Prop} (w : World) (bj bd : Nat) (J : Jn) (D : Dk) (k : Int) (h : JD P w bj bd J D) (hP0 : ¬ P 0) (ht : TabOK w) (hq : D.pend.length < 1000000) :
    Calls Tryd.prog 19 #[.pointer (some ⟨bj, 0, none⟩), .int .i64 k] w fun e w' => e = .returned (.int .i64 (jtrim J D k).1) ∧ JD (fun c => P c ∨ w.heap.size ≤ c) w' bj bd (jtrim J D k).2.1 (jtrim J D k).2.2 ∧ Fr (fun c _ => ¬ P c) w w' := by
  obtain ⟨F, G, h1, h2, h3, h4, h5⟩ := h
  exact (jtrim_calls w bj bd F G J D k h2 h1 h5 (fun c h => (h4 c h).2) (fun h => hP0 (h4 0 h).1) ht hq).mono fun e w' ⟨he, hp, hf⟩ =>
    ⟨he, hp.jd h3 h4 h5, hf.mono fun c _ hc => ⟨fun h => hc (h3 c h).1, fun h => hc (h4 c h).1⟩⟩
theorem jd_cut {P : Nat → Prop} (w : World) (bj bd : Nat) (J : Jn) (D : Dk) (k : Int) (h : JD P w bj bd J D) (hP0 : ¬ P 0) (ht : TabOK w) (hq : D.pend.length < 900000) :
    Calls Tryd.prog 21 #[.pointer (some ⟨bj, 0, none⟩), .int .i64 k] w fun e w' => e = .returned (.int .i64 (jcut J D k).1) ∧ JD (fun c => P c ∨ w.heap.size ≤ c) w' bj bd (jcut J D k).2.1 (jcut J D k).2.2 ∧ Fr (fun c _ => ¬ P c) w w' := by
  obtain ⟨F, G, h1, h2, h3, h4, h5⟩ := h
  exact (jcut_calls w bj bd F G J D k h2 h1 h5 (fun c h => (h3 c h).2) (fun c h => (h4 c h).2) (fun h => hP0 (h4 0 h).1) (fun h => hP0 (h3 0 h).1) ht hq).mono fun e w' ⟨he, hp, hf⟩ =>
    ⟨he, hp.jd h3 h4 h5, hf.mono fun c _ hc => ⟨fun h => hc (h3 c h).1, fun h => hc (h4 c h).1⟩⟩
set_option maxRecDepth 100000 in
theorem jd_sync {P : Nat → Prop} (w : World) (bj bd : Nat) (J : Jn) (D : Dk) (h : JD P w bj bd J D) :
    Calls Tryd.prog 13 #[.pointer (some ⟨bj, 0, none⟩)] w fun e w' => e = .returned (.tuple #[]) ∧ JD (fun c => P c ∨ w.heap.size ≤ c) w' bj bd J D.sync ∧ Fr (fun c _ => ¬ P c) w w' := by
  obtain ⟨F, G, h1, h2, h3, h4, h5⟩ := h
  have c0 : w.cell? ⟨bj, 0, none⟩ = some (.pointer (some ⟨bd, 0, none⟩)) := by
    obtain ⟨vh, T, hj⟩ := h2
    exact cell_mk hj.top rfl
  have SY := Lib.hid (sync_calls w bd F D h1)
  have H2 := Lib.hid h2
  have H3 := Lib.hid h3
  have H4 := Lib.hid h4
  have H5 := Lib.hid h5
  clear h1 h2 h3 h4 h5
  go_enter Tryd.func13, Tryd.ntmps13
  go_wp2_with fail
  (with_reducible refine SY.out.mono ?_)
  rintro e w1 ⟨rfl, d1, f1⟩
  have D1 := Lib.hid d1
  have F1 := Lib.hid f1
  clear d1 f1 SY
  go_wp2
  go_end0
  refine ⟨rfl, JPost.jd (F := F) (G := G) ⟨w.heap.size, Nat.le_refl _, F1.out.size, ?_, D1.out⟩ H3.out H4.out H5.out, F1.out.mono fun c _ hc h => hc (H3.out c h).1⟩
  exact (H2.out.fr F1.out fun c _ _ h => H5.out c h).mono fun c h => ⟨.inl h, (H4.out c h).2⟩
theorem jd_all {P : Nat → Prop} (w : World) (bj bd : Nat) (J : Jn) (D : Dk) (h : JD P w bj bd J D) :
    Calls Tryd.prog 14 #[.pointer (some ⟨bj, 0, none⟩)] w fun e w' => (∃ a c V, e = .returned (.slice a J.all.length c) ∧ OwnL w' (fun c => w.heap.size ≤ c) (.slice a J.all.length c) V ∧ V.map (·.2) = J.all) ∧ Fr (fun _ _ => True) w w' := by
  obtain ⟨F, G, h1, h2, h3, h4, h5⟩ := h
  exact all_calls w bj bd G J h2
theorem jd_len {P : Nat → Prop} (w : World) (bj bd : Nat) (J : Jn) (D : Dk) (h : JD P w bj bd J D) :
    Calls Tryd.prog 30 #[.pointer (some ⟨bj, 0, none⟩)] w fun e w' => e = .returned (.int .i64 (J.held.length : Nat)) ∧ w = w' := by
  obtain ⟨F, G, h1, h2, h3, h4, h5⟩ := h
  exact jlen_calls w bj bd G J h2

/-- A disk within P. -/
def DD (P : Nat → Prop) (w : World) (bd : Nat) (D : Dk) : Prop := ∃ F : Nat → Prop, Dsk w bd F D ∧ ∀ c, F c → P c ∧ c < w.heap.size
theorem JD.dd {P : Nat → Prop} {w : World} {bj bd : Nat} {J : Jn} {D : Dk} (h : JD P w bj bd J D) : DD P w bd D := by
  obtain ⟨F, G, h1, h2, h3, h4, h5⟩ := h
  exact ⟨F, h1, h3⟩
theorem DD.mono {P P' : Nat → Prop} {w : World} {bd : Nat} {D : Dk} (h : DD P w bd D) (hp : ∀ c, c < w.heap.size → P c → P' c) : DD P' w bd D := by
  obtain ⟨F, h1, h3⟩ := h
  exact ⟨F, h1, fun c h => ⟨hp c (h3 c h).2 (h3 c h).1, (h3 c h).2⟩⟩
theorem DD.fr {K : Nat → Obj → Prop} {P : Nat → Prop} {w w' : World} {bd : Nat} {D : Dk} (h : DD P w bd D) (hf : Fr K w w') (hk : ∀ c o, w.heap[c]? = some o → P c → K c o) : DD P w' bd D := by
  obtain ⟨F, h1, h3⟩ := h
  have := hf.size
  exact ⟨F, h1.fr hf fun c o ho hc => hk c o ho (h3 c hc).1, fun c h => ⟨(h3 c h).1, by have := (h3 c h).2; omega⟩⟩
theorem DD.tt {P : Nat → Prop} {w w' : World} {bd : Nat} {D : Dk} (h : DD P w bd D) (hf : Fr (fun _ _ => True) w w') : DD P w' bd D := h.fr hf fun _ _ _ _ => trivial
theorem Dsk.dd {P F F' : Nat → Prop} {w w' : World} {bd : Nat} {D : Dk} (h : Dsk w' bd (fun c => F c ∨ w.heap.size ≤ c) D) (h3 : ∀ c, F c → P c ∧ c < w.heap.size) : DD (fun c => P c ∨ w.heap.size ≤ c) w' bd D :=
  ⟨_, h.inside, fun c h => ⟨by
    rcases h.1 with h | h
    · exact .inl (h3 c h).1
    · exact .inr h, h.2⟩⟩
theorem dd_crash {K : Nat → Obj → Prop} {P : Nat → Prop} (w : World) (bd : Nat) (D : Dk) (pa : Option Addr) (pn pc : Nat) (zs : List Int) (h : DD P w bd D) (hp : IntsAt K w (.slice pa pn pc) zs) (hK : ∀ c o, K c o → ¬ P c) :
    Calls Tryd.prog 16 #[.pointer (some ⟨bd, 0, none⟩), .slice pa pn pc] w fun e w' => e = .returned (.tuple #[]) ∧ DD (fun c => P c ∨ w.heap.size ≤ c) w' bd (D.crash zs) ∧ Fr (fun c _ => ¬ P c) w w' := by
  obtain ⟨F, h1, h3⟩ := h
  exact (crash_main w bd F D pa pn pc zs h1 hp fun c o hc hf => hK c o hc (h3 c hf).1).mono fun e w' ⟨he, hd, hf⟩ => ⟨he, Dsk.dd (F' := F) hd h3, hf.mono fun c _ hc h => hc (h3 c h).1⟩

/-- What Open answers, and leaves, of a disk within P. -/
def OpenD (P : Nat → Prop) (w : World) (bd : Nat) (r : Int × Option Jn × Dk) (e : Ending) (w' : World) : Prop :=
  Fr (fun c _ => ¬ P c) w w' ∧ ((r.2.1 = none ∧ e = .returned (.tuple #[.pointer none, .slice none 0 0, .int .i64 r.1]) ∧ DD (fun c => P c ∨ w.heap.size ≤ c) w' bd r.2.2) ∨
    ∃ (J : Jn) (bj : Nat) (a : Option Addr) (c : Nat) (V : List (Value × List UInt8)) (Q R : Nat → Prop), r.2.1 = some J ∧ e = .returned (.tuple #[.pointer (some ⟨bj, 0, none⟩), .slice a J.all.length c, .int .i64 r.1]) ∧ JD Q w' bj bd J r.2.2 ∧ OwnL w' R (.slice a J.all.length c) V ∧ V.map (·.2) = J.all ∧ (∀ c, Q c → P c ∨ w.heap.size ≤ c) ∧ ∀ c, R c → w.heap.size ≤ c ∧ ¬ Q c)
theorem OpenPost.d {P F : Nat → Prop} {w w' : World} {bd : Nat} {r : Int × Option Jn × Dk} {e : Ending} (h : OpenPost w bd F r e w') (h3 : ∀ c, F c → P c ∧ c < w.heap.size) : OpenD P w bd r e w' := by
  obtain ⟨hf, h⟩ := h
  refine ⟨hf.mono fun c _ hc h => hc (h3 c h).1, ?_⟩
  rcases h with ⟨h1, h2, h4⟩ | ⟨J, bj, a, c, V, Q, R, h1, h2, h4, h5, h6, h7, h8⟩
  · exact .inl ⟨h1, h2, Dsk.dd (F' := F) h4 h3⟩
  · refine .inr ⟨J, bj, a, c, V, Q, R, h1, h2, h4, h5, h6, fun c hc => ?_, h8⟩
    rcases h7 c hc with h | h
    · exact .inl (h3 c h).1
    · exact .inr h

set_option maxRecDepth 100000 in
set_option maxHeartbeats 2000000 in
theorem dd_open {P : Nat → Prop} (w : World) (bd : Nat) (D : Dk) (z n : Int) (h : DD P w bd D) (ht : TabOK w) (hq : D.pend.length < 1000000) :
    Calls Tryd.prog 17 #[.pointer (some ⟨bd, 0, none⟩), .int .i64 z, .int .i64 n] w (OpenD P w bd (jopen D z n)) := by
  obtain ⟨F, hd, h3⟩ := h
  have hmax := hd.wf.max
  by_cases h1 : n < 1 ∨ 100 < n
  · have e1 : jopen D z n = (1, none, D) := by unfold jopen; rw [if_pos h1]
    have OUT : Hid (OpenD P w bd (jopen D z n) (.returned (.tuple #[.pointer none, .slice none 0 0, .int .i64 1])) w) := by
      show OpenD _ _ _ _ _ _
      rw [e1]
      exact ⟨Fr.refl _ _, .inl ⟨rfl, rfl, F, hd, fun c h => ⟨.inl (h3 c h).1, (h3 c h).2⟩⟩⟩
    clear hd h3 e1 ht hq hmax
    by_cases q : n < 1
    · have q' : decide (n < 1) = true := by simpa using q
      clear h1
      go_enter Tryd.func17, Tryd.ntmps17
      go_wp2
      go_ret3
      exact OUT.out
    · have q' : decide (n < 1) = false := by simpa using q
      have q2 : 100 < n := by omega
      clear h1
      go_enter Tryd.func17, Tryd.ntmps17
      go_wp2
      go_ret3
      exact OUT.out
  · by_cases h2 : z < 0 ∨ (D.sure.length : Int) - 2 - n < z
    · have e1 : jopen D z n = (40, none, D) := by unfold jopen; rw [if_neg h1, if_pos h2]
      have OUT : Hid (OpenD P w bd (jopen D z n) (.returned (.tuple #[.pointer none, .slice none 0 0, .int .i64 40])) w) := by
        show OpenD _ _ _ _ _ _
        rw [e1]
        exact ⟨Fr.refl _ _, .inl ⟨rfl, rfl, F, hd, fun c h => ⟨.inl (h3 c h).1, (h3 c h).2⟩⟩⟩
      have q1 : decide (n < 1) = false := by simp; omega
      have q2 : decide (100 < n) = false := by simp; omega
      have HL := Lib.hid (len_calls w bd F D hd)
      obtain ⟨m, hm⟩ : ∃ m, D.sure.length = m := ⟨_, rfl⟩
      rw [hm] at HL hmax h2
      have n1 : 1 ≤ n := by omega
      have n2 : n ≤ 100 := by omega
      clear hd h3 e1 ht hq hm h1
      by_cases q : z < 0
      · have q' : decide (z < 0) = true := by simpa using q
        clear h2
        go_enter Tryd.func17, Tryd.ntmps17
        go_wp2
        go_ret3
        exact OUT.out
      · have q' : decide (z < 0) = false := by simpa using q
        have q3 : (m : Int) - 2 - n < z := by omega
        have q4 : (m : Int) ≤ 512 := by omega
        clear h2
        go_enter Tryd.func17, Tryd.ntmps17
        go_wp2_with fail
        (with_reducible refine HL.out.mono ?_)
        rintro e w1 ⟨rfl, rfl⟩
        go_wp2
        go_ret3
        exact OUT.out
    · obtain ⟨zn, rfl⟩ := Int.eq_ofNat_of_zero_le (show 0 ≤ z by omega)
      obtain ⟨nn, rfl⟩ := Int.eq_ofNat_of_zero_le (show 0 ≤ n by omega)
      have e1 : jopen D zn nn = jopenIn D zn nn := by unfold jopen; rw [if_neg h1, if_neg h2]; rfl
      rw [e1]
      exact (jopen_main w bd F D zn nn hd ht (fun c h => (h3 c h).2) hq (by omega) (by omega) (by omega)).mono fun e w' h => h.d h3
end Go.Proofs.YtcpbmempfeloaaaDoor
/- Law 6: opened, made. -/
namespace Go.Proofs.YtcpbmempfeloaaaDoor
open Go.RowKit
set_option linter.unusedVariables false
set_option linter.unusedSimpArgs false

theorem jopen_some {P : Nat → Prop} {w w' : World} {bd : Nat} {r : Int × Option Jn × Dk} {e : Ending} (h : OpenD P w bd r e w') {c : Int} {J : Jn} {D : Dk} (hr : r = (c, some J, D)) : Fr (fun c _ => ¬ P c) w w' ∧
    ∃ (bj : Nat) (a : Option Addr) (cp : Nat) (V : List (Value × List UInt8)) (Q R : Nat → Prop), e = .returned (.tuple #[.pointer (some ⟨bj, 0, none⟩), .slice a J.all.length cp, .int .i64 c]) ∧ JD Q w' bj bd J D ∧ OwnL w' R (.slice a J.all.length cp) V ∧ V.map (·.2) = J.all ∧ (∀ c, Q c → P c ∨ w.heap.size ≤ c) ∧ ∀ c, R c → w.heap.size ≤ c ∧ ¬ Q c := by
  subst hr
  obtain ⟨h0, h⟩ := h
  rcases h with ⟨h1, _⟩ | ⟨J', bj, a, cp, V, Q, R, h1, h2, h3, h4, h5, h6, h7⟩
  · cases h1
  · cases h1
    exact ⟨h0, bj, a, cp, V, Q, R, h2, h3, h4, h5, h6, h7⟩

set_option maxRecDepth 100000 in
theorem opened_calls (w : World) (n : Nat) (J : Jn) (D : Dk) (hr : jopen (Dk.new 20) 1 n = (0, some J, D)) (ht : TabOK w) :
    Calls Tryd.prog 46 #[.int .i64 (n : Nat)] w fun e w' => (∃ bd bj, e = .returned (.tuple #[.pointer (some ⟨bd, 0, none⟩), .pointer (some ⟨bj, 0, none⟩)]) ∧ JD (fun c => w.heap.size ≤ c) w' bj bd J D) ∧ Fr (fun _ _ => True) w w' := by
  have HT := Lib.hid ht
  have HR := Lib.hid hr
  clear ht hr
  go_enter Tryd.func46, Tryd.ntmps46
  go_wp2_with fail
  (with_reducible refine (new_calls _ 20 _ (by decide) (by decide) (by decide)).mono ?_)
  rintro e w1 ⟨⟨bd, rfl, d1⟩, f1⟩
  have D1 : Hid (DD (fun c => w.heap.size ≤ c) w1 bd (Dk.new 20)) := ⟨_, d1.inside, fun c h => ⟨h.1, h.2⟩⟩
  have F1 := Lib.hid f1
  have OC := Lib.hid (dd_open w1 bd (Dk.new 20) 1 n D1.out (HT.out.tt f1) (by show (0 : Nat) < 1000000; decide))
  clear d1 f1
  go_wp2_with fail
  (with_reducible refine OC.out.mono ?_)
  rintro e w2 ho
  obtain ⟨f2, bj, a, cp, V, Q, R, rfl, hj, _, _, hq, _⟩ := jopen_some ho HR.out
  have J2 : Hid (JD (fun c => w.heap.size ≤ c) w2 bj bd J D) := hj.mono fun c _ h => by
    have := F1.out.size
    rcases hq c h with h | h
    · exact h
    · omega
  have F2 : Hid (Fr (fun c _ => c < w.heap.size) w w2) := (F1.out.mono fun _ _ _ => trivial).trans (f2.mono fun c _ h hc => by omega)
  clear ho f2 hj hq OC
  go_wp2
  go_ret2
  exact ⟨⟨bd, bj, rfl, J2.out⟩, Fr.within (F2.out.mono fun _ _ h => h.2)⟩

set_option maxRecDepth 100000 in
theorem made_bad (w : World) (n : Int) (a : Option Addr) (len cap : Nat) (h : n < 1 ∨ 17 < n ∨ 30 < len) :
    Calls Tryd.prog 12 #[.int .i64 n, .slice a len cap] w fun e w' => e = .returned (.tuple #[.pointer none, .pointer none]) ∧ w = w' := by
  by_cases h1 : n < 1
  · have h1' : decide (n < 1) = true := by simpa using h1
    clear h
    go_enter Tryd.func12, Tryd.ntmps12
    go_wp2
    go_ret2
    exact ⟨rfl, rfl⟩
  · have h1' : decide (n < 1) = false := by simpa using h1
    by_cases h2 : 17 < n
    · have h2' : decide (17 < n) = true := by simpa using h2
      clear h
      go_enter Tryd.func12, Tryd.ntmps12
      go_wp2
      go_ret2
      exact ⟨rfl, rfl⟩
    · have h2' : decide (17 < n) = false := by simpa using h2
      have h3 : (30 : Int) < len := by omega
      clear h
      go_enter Tryd.func12, Tryd.ntmps12
      go_wp2
      go_ret2
      exact ⟨rfl, rfl⟩

theorem jagain_some {D : Dk} {z n : Int} {J : Jn} {D' : Dk} (h : jagain D z n = some (J, D')) : ∃ c, jopen D z n = (c, some J, D') := by
  unfold jagain at h
  cases ho : (jopen D z n).2.1 with
  | none => rw [ho] at h; cases h
  | some K =>
    rw [ho] at h
    have h2 : (K, (jopen D z n).2.2) = (J, D') := Option.some.inj h
    have h3 : K = J := congrArg Prod.fst h2
    have h4 : (jopen D z n).2.2 = D' := congrArg Prod.snd h2
    exact ⟨(jopen D z n).1, Prod.ext rfl (Prod.ext (by rw [ho, h3]) h4)⟩
/-- What is made: each beginning of the calls leaves a journal. -/
theorem jmade_all {n : Nat} (h1 : 1 ≤ n) (h2 : n ≤ 17) (l : List OpJ) (hl : l.length ≤ 30) (j : Nat) (hj : j ≤ l.length) : ∃ J D, jmade 1 n (l.take j) = some (J, D) ∧ D.pend.length ≤ 100 := by
  obtain ⟨J, D, L, bs, e, h⟩ := jmade_ji 1 n h1 (by omega) (l.take j) (by rw [List.length_take]; omega)
  refine ⟨J, D, e, ?_⟩
  rw [h.pend, pendOf_length]
  have := h.few
  omega

set_option maxRecDepth 100000 in
set_option maxHeartbeats 4000000 in
theorem made_some (w : World) (n : Nat) (a : Option Addr) (len cap : Nat) (l : List OpJ) (h1 : 1 ≤ n) (h2 : n ≤ 17) (ho : OpsAt w.heap.size w (.slice a len cap) l) (ht : TabOK w) (hl : len ≤ 30) (J : Jn) (D : Dk) (hr : jmade 1 n l = some (J, D)) :
    Calls Tryd.prog 12 #[.int .i64 (n : Nat), .slice a len cap] w fun e w' => (∃ bd bj, e = .returned (.tuple #[.pointer (some ⟨bd, 0, none⟩), .pointer (some ⟨bj, 0, none⟩)]) ∧ JD (fun c => w.heap.size ≤ c) w' bj bd J D) ∧ Fr (fun _ _ => True) w w' := by
  have h0 : 0 < w.heap.size := by have := cell_lt (ht 0 (by decide)); simpa using this
  have hln := ho.len
  have MJ : Hid (∀ j, j ≤ l.length → ∃ J D, jmade 1 n (l.take j) = some (J, D) ∧ D.pend.length ≤ 100) := fun j hj => jmade_all h1 h2 l (by omega) j hj
  obtain ⟨J0, D0, hj0, _⟩ := MJ.out 0 (Nat.zero_le _)
  obtain ⟨c0, hjo⟩ := jagain_some (show jagain (Dk.new 20) 1 n = some (J0, D0) from hj0)
  obtain ⟨D0', hD0', _⟩ := new_ji 1 n h1 (by omega)
  obtain rfl : c0 = 0 := by
    have : jopen (Dk.new 20) 1 n = (0, some ⟨1, n, 1, 1, 0, []⟩, D0') := hD0'
    rw [this] at hjo
    cases hjo
    rfl
  have OC := Lib.hid (opened_calls w n J0 D0 hjo ht)
  have HJ0 := Lib.hid hj0
  have HT := Lib.hid ht
  have HO := Lib.hid ho
  have HLN := Lib.hid hln
  have HR := Lib.hid hr
  have hI : (len : Int) ≤ 30 := by omega
  have i1 : decide ((n : Int) < 1) = false := by simp; omega
  have i2 : decide (17 < (n : Int)) = false := by simp; omega
  have i3 : decide (17 < n) = false := by simp; omega
  have i4 : decide (n < 1) = false := by simp; omega
  clear ho hr hj0 hjo hD0' ht hln
  go_enter Tryd.func12, Tryd.ntmps12
  go_wp2_with fail
  (with_reducible refine OC.out.mono ?_)
  rintro e w1 ⟨⟨bd, bj, rfl, d1⟩, f1⟩
  have D1 := Lib.hid d1
  have F1 : Hid (Fr (fun c _ => c < w.heap.size) w w1) := f1.mono fun _ _ _ => trivial
  clear d1 f1 OC i1 i2 i3 i4
  go_wp2
  go_loopw [7, 8] (fun p i wr => ∃ (j : Nat) (Jj : Jn) (Dj : Dk) (b : Nat), p = .pointer (some ⟨b, 0, none⟩) ∧ i = .int .i64 j ∧ j ≤ len ∧ Hid (jmade 1 n (l.take j) = some (Jj, Dj)) ∧ Hid (JD (fun c => w.heap.size ≤ c) wr b bd Jj Dj) ∧ Hid (Fr (fun c _ => c < w.heap.size) w wr)) (fun _ i _ => len - (intOf i).toNat)
  case atStart => exact ⟨0, J0, D0, bj, rfl, rfl, Nat.zero_le _, HJ0, D1, F1⟩
  case round =>
    obtain ⟨j, Jj, Dj, b, rfl, rfl, hj, HM, DJ, FJ⟩ := hrel
    by_cases hlt : j < len
    · have hlt' : j < l.length := by have := HLN.out; omega
      obtain ⟨bl, off, rfl, hop⟩ : ∃ b off, a = some ⟨b, off, none⟩ ∧ OpAt w.heap.size w b off j l[j] := by
        obtain ⟨_, _, e, h⟩ := HO.out
        cases e
        rcases h with h | ⟨b, off, ha, h⟩
        · rw [h] at hlt'; simp at hlt'
        · exact ⟨b, off, ha, h j hlt'⟩
      obtain ⟨o, hoj⟩ : ∃ o, l[j] = o := ⟨_, rfl⟩
      have hm := jmade_snoc 1 n l j hlt'
      rw [hoj] at hop hm
      rw [HM.out] at hm
      obtain ⟨J2, D2, hJ2, _⟩ := MJ.out (j + 1) hlt'
      have hstep : jop 1 n (Jj, Dj) o = some (J2, D2) := by
        rw [hJ2] at hm; exact hm.symm
      have hpe : Dj.pend.length ≤ 100 := by
        obtain ⟨J3, D3, e3, h3⟩ := MJ.out j (by omega)
        rw [HM.out] at e3
        cases e3
        exact h3
      obtain ⟨e0, e1, e2, e3, hb, hlies⟩ := hop.fr FJ.out
      have hltI : (j : Int) < len := by omega
      have HM2 := Lib.hid hJ2
      have TJ : Hid (TabOK wr) := fun i hi => FJ.out.cell (fun _ _ => h0) (HT.out i hi)
      have HLS := Lib.hid hlies
      have HST := Lib.hid hstep
      have HP0 : Hid (¬ w.heap.size ≤ 0) := by show ¬ _; omega
      have DONE : Hid (∀ w' b', JD (fun c => w.heap.size ≤ c ∨ wr.heap.size ≤ c) w' b' bd J2 D2 → Fr (fun c _ => ¬ w.heap.size ≤ c) wr w' → JD (fun c => w.heap.size ≤ c) w' b' bd J2 D2 ∧ Fr (fun c _ => c < w.heap.size) w w') := fun w' b' h f => ⟨h.mono fun c _ hc => by
        have := FJ.out.size
        rcases hc with hc | hc
        · exact hc
        · omega, FJ.out.trans (f.mono fun c _ h => by omega)⟩
      clear hop hoj hm hlies hlt' hJ2 hstep HM MJ
      by_cases q1 : o.q = 1
      · have d1 : (o.q == 1) = true := by simp [q1]
        have hres : Hid ((jappend Jj Dj o.b).2 = (J2, D2)) := by
          have := HST.out
          unfold jop at this
          rw [if_pos q1] at this
          exact Option.some.inj this
        have SC := Lib.hid (jd_append wr b bd Jj Dj o.vb o.b DJ.out HP0.out HLS.out.hb TJ.out (by omega))
        clear q1
        go_wp2_with fail
        (with_reducible refine SC.out.mono ?_)
        rintro e w2 ⟨rfl, d2, f2⟩
        rw [hres.out] at d2
        obtain ⟨d3, f3⟩ := DONE.out _ _ d2 f2
        have D3 := Lib.hid d3
        have F3 := Lib.hid f3
        clear d2 f2 d3 f3 SC e0 e1 e2 e3
        go_wp2
        go_roundw
        case rel => exact ⟨j + 1, J2, D2, b, rfl, by go_num, by omega, HM2, D3, F3⟩
        case measure => simp [intOf]; omega
      · have d1 : (o.q == 1) = false := by simp [q1]
        by_cases q2 : o.q = 2
        · have d2 : (o.q == 2) = true := by simp [q2]
          have hres : Hid ((Jj, Dj.sync) = (J2, D2)) := by
            have := HST.out
            unfold jop at this
            rw [if_neg q1, if_pos q2] at this
            exact Option.some.inj this
          have SC := Lib.hid (jd_sync wr b bd Jj Dj DJ.out)
          clear q1 q2
          go_wp2_with fail
          (with_reducible refine SC.out.mono ?_)
          rintro e w2 ⟨rfl, d2', f2⟩
          obtain ⟨r1, r2⟩ : Jj = J2 ∧ Dj.sync = D2 := by have := hres.out; cases this; exact ⟨rfl, rfl⟩
          rw [r1, r2] at d2'
          obtain ⟨d3, f3⟩ := DONE.out _ _ d2' f2
          have D3 := Lib.hid d3
          have F3 := Lib.hid f3
          clear d2' f2 d3 f3 SC e0 e1 e2 e3 r1 r2
          go_wp2
          go_roundw
          case rel => exact ⟨j + 1, J2, D2, b, rfl, by go_num, by omega, HM2, D3, F3⟩
          case measure => simp [intOf]; omega
        · have d2 : (o.q == 2) = false := by simp [q2]
          by_cases q3 : o.q = 3
          · have d3 : (o.q == 3) = true := by simp [q3]
            have hres : Hid ((jtrim Jj Dj o.k).2 = (J2, D2)) := by
              have := HST.out
              unfold jop at this
              rw [if_neg q1, if_neg q2, if_pos q3] at this
              exact Option.some.inj this
            have SC := Lib.hid (jd_trim wr b bd Jj Dj o.k DJ.out HP0.out TJ.out (by omega))
            clear q1 q2 q3
            go_wp2_with fail
            (with_reducible refine SC.out.mono ?_)
            rintro e w2 ⟨rfl, d2', f2⟩
            rw [hres.out] at d2'
            obtain ⟨d3, f3⟩ := DONE.out _ _ d2' f2
            have D3 := Lib.hid d3
            have F3 := Lib.hid f3
            clear d2' f2 d3 f3 SC e0 e1 e2 e3
            go_wp2
            go_roundw
            case rel => exact ⟨j + 1, J2, D2, b, rfl, by go_num, by omega, HM2, D3, F3⟩
            case measure => simp [intOf]; omega
          · have d3 : (o.q == 3) = false := by simp [q3]
            by_cases q4 : o.q = 4
            · have d4 : (o.q == 4) = true := by simp [q4]
              have hres : Hid ((jcut Jj Dj o.k).2 = (J2, D2)) := by
                have := HST.out
                unfold jop at this
                rw [if_neg q1, if_neg q2, if_neg q3, if_pos q4] at this
                exact Option.some.inj this
              have SC := Lib.hid (jd_cut wr b bd Jj Dj o.k DJ.out HP0.out TJ.out (by omega))
              clear q1 q2 q3 q4
              go_wp2_with fail
              (with_reducible refine SC.out.mono ?_)
              rintro e w2 ⟨rfl, d2', f2⟩
              rw [hres.out] at d2'
              obtain ⟨d3, f3⟩ := DONE.out _ _ d2' f2
              have D3 := Lib.hid d3
              have F3 := Lib.hid f3
              clear d2' f2 d3 f3 SC e0 e1 e2 e3
              go_wp2
              go_roundw
              case rel => exact ⟨j + 1, J2, D2, b, rfl, by go_num, by omega, HM2, D3, F3⟩
              case measure => simp [intOf]; omega
            · have d4 : (o.q == 4) = false := by simp [q4]
              by_cases q5 : o.q = 5
              · have d5 : (o.q == 5) = true := by simp [q5]
                have hres : Hid (∃ c, jopen (Dj.crash o.zs) 1 n = (c, some J2, D2)) := by
                  have := HST.out
                  unfold jop at this
                  rw [if_neg q1, if_neg q2, if_neg q3, if_neg q4, if_pos q5] at this
                  exact jagain_some this
                obtain ⟨pa, pc, hvp⟩ := HLS.out.hp.form
                have hpz := HLS.out.hp
                rw [hvp] at e3 hpz
                have SC := Lib.hid (dd_crash wr bd Dj pa o.zs.length pc o.zs DJ.out.dd hpz (fun c _ h h2 => by omega))
                clear q1 q2 q3 q4 q5 hvp hpz
                go_wp2_with fail
                (with_reducible refine SC.out.mono ?_)
                rintro e w2 ⟨rfl, d2', f2⟩
                have OC := Lib.hid (dd_open w2 bd (Dj.crash o.zs) 1 n d2' (fun i hi => f2.cell (fun _ _ => HP0.out) (TJ.out i hi)) (by show (0 : Nat) < 1000000; decide))
                have F2 := Lib.hid f2
                clear d2' f2 SC e0 e1 e2 e3
                go_wp2_with fail
                (with_reducible refine OC.out.mono ?_)
                rintro e w3 ho
                obtain ⟨cc, hcc⟩ := hres.out
                obtain ⟨f3, bj', a3, cp3, V3, Q3, R3, rfl, hj3, _, _, hq3, _⟩ := jopen_some ho hcc
                obtain ⟨d3, f4⟩ := DONE.out w3 bj' (hj3.mono fun c _ h => by
                  have := F2.out.size
                  rcases hq3 c h with h | h
                  · exact h
                  · exact .inr (by omega)) (F2.out.trans (f3.mono fun c _ h hc => by
                    have := FJ.out.size
                    rcases hc with hc | hc
                    · exact h hc
                    · omega))
                have D3 := Lib.hid d3
                have F3 := Lib.hid f4
                clear ho f3 hj3 hq3 d3 f4 OC hcc
                go_wp2
                go_roundw
                case rel => exact ⟨j + 1, J2, D2, bj', rfl, by go_num, by omega, HM2, D3, F3⟩
                case measure => simp [intOf]; omega
              · have d5 : (o.q == 5) = false := by simp [q5]
                by_cases q6 : o.q = 6
                · have d6 : (o.q == 6) = true := by simp [q6]
                  have hres : Hid (∃ c, jopen Dj 1 n = (c, some J2, D2)) := by
                    have := HST.out
                    unfold jop at this
                    rw [if_neg q1, if_neg q2, if_neg q3, if_neg q4, if_neg q5, if_pos q6] at this
                    exact jagain_some this
                  have OC := Lib.hid (dd_open wr bd Dj 1 n DJ.out.dd TJ.out (by omega))
                  clear q1 q2 q3 q4 q5 q6
                  go_wp2_with fail
                  (with_reducible refine OC.out.mono ?_)
                  rintro e w3 ho
                  obtain ⟨cc, hcc⟩ := hres.out
                  obtain ⟨f3, bj', a3, cp3, V3, Q3, R3, rfl, hj3, _, _, hq3, _⟩ := jopen_some ho hcc
                  obtain ⟨d3, f4⟩ := DONE.out w3 bj' (hj3.mono fun c _ h => hq3 c h) f3
                  have D3 := Lib.hid d3
                  have F3 := Lib.hid f4
                  clear ho f3 hj3 hq3 d3 f4 OC hcc e0 e1 e2 e3
                  go_wp2
                  go_roundw
                  case rel => exact ⟨j + 1, J2, D2, bj', rfl, by go_num, by omega, HM2, D3, F3⟩
                  case measure => simp [intOf]; omega
                · have d6 : (o.q == 6) = false := by simp [q6]
                  have hres : Hid (Jj = J2 ∧ Dj = D2) := by
                    have := HST.out
                    unfold jop at this
                    rw [if_neg q1, if_neg q2, if_neg q3, if_neg q4, if_neg q5, if_neg q6] at this
                    cases Option.some.inj this
                    exact ⟨rfl, rfl⟩
                  have D3 : Hid (JD (fun c => w.heap.size ≤ c) wr b bd J2 D2) := by
                    show JD _ _ _ _ _ _
                    rw [← hres.out.1, ← hres.out.2]; exact DJ.out
                  clear q1 q2 q3 q4 q5 q6
                  go_wp2
                  go_roundw
                  case rel => exact ⟨j + 1, J2, D2, b, rfl, by go_num, by omega, HM2, D3, FJ⟩
                  case measure => simp [intOf]; omega
    · have hge : (len : Int) ≤ j := by omega
      have hfull : Hid (Jj = J ∧ Dj = D) := by
        have h := HM.out
        rw [List.take_of_length_le (by have := HLN.out; omega), HR.out] at h
        cases h
        exact ⟨rfl, rfl⟩
      go_wp2
      go_ret2
      refine ⟨⟨bd, b, rfl, ?_⟩, Fr.within (FJ.out.mono fun _ _ h => h.2)⟩
      rw [← hfull.out.1, ← hfull.out.2]; exact DJ.out
end Go.Proofs.YtcpbmempfeloaaaDoor
/- Law 6: the chapter's examples, plainly. -/
namespace Go.Proofs.YtcpbmempfeloaaaDoor
open Go.RowKit
set_option linter.unusedVariables false

def gJ (r : Int × Option Jn × Dk) : Jn × Dk := (r.2.1.getD ⟨0, 0, 0, 0, 0, []⟩, r.2.2)
theorem gJ_eq {r : Int × Option Jn × Dk} {c : Int} (h1 : r.1 = c) (h2 : r.2.1.isSome = true) : r = (c, some (gJ r).1, (gJ r).2) := by
  obtain ⟨a, o, D⟩ := r
  cases o with
  | none => cases h2
  | some J => cases h1; rfl
def app (s : Jn × Dk) (b : List UInt8) : Jn × Dk := (jappend s.1 s.2 b).2
def apps (s : Jn × Dk) : Nat → Jn × Dk
  | 0 => s
  | j + 1 => app (apps s j) [UInt8.ofNat (97 + j)]
theorem app_pend (s : Jn × Dk) (b : List UInt8) : (app s b).2.pend.length ≤ s.2.pend.length + 1 := by
  unfold app jappend
  split
  · exact Nat.le_succ _
  · split
    · exact Nat.le_succ _
    · exact pend_write _ _ _
theorem apps_pend (s : Jn × Dk) : ∀ j, (apps s j).2.pend.length ≤ s.2.pend.length + j
  | 0 => Nat.le_refl _
  | j + 1 => by
    have := apps_pend s j
    have := app_pend (apps s j) [UInt8.ofNat (97 + j)]
    show (app _ _).2.pend.length ≤ _
    omega
def aj0 : Jn × Dk := gJ (jopen (Dk.new 20) 1 4)
def ax1 : Jn × Dk := app aj0 [97]
def ax2 : Jn × Dk := app ax1 [98]
def ax3 : Jn × Dk := (ax2.1, ax2.2.sync)
def ax4 : Jn × Dk := app ax3 [99]
def ax5 : Jn × Dk := gJ (jopen (ax4.2.crash []) 1 4)
def ay1 : Jn × Dk := apps aj0 3
def ay2 : Jn × Dk := gJ (jopen (ay1.2.crash [0, 64, 64]) 1 4)
def az1 : Jn × Dk := apps aj0 4
def az2 : Jn × Dk := app az1 [101]
def az3 : Jn × Dk := (jtrim az2.1 az2.2 1).2
def az4 : Jn × Dk := app az3 [101]
def av1 : Jn × Dk := apps aj0 3
def av2 : Jn × Dk := (jcut av1.1 av1.2 2).2
def av3 : Jn × Dk := app av2 [100]
set_option maxRecDepth 1000000 in
theorem aw_0 : (jopen (Dk.new 20) 1 4).1 = 0 ∧ (jopen (Dk.new 20) 1 4).2.1.isSome = true ∧ aj0.2.pend.length = 0 := by decide +kernel
set_option maxRecDepth 1000000 in
theorem aw_x : (jopen (ax4.2.crash []) 1 4).1 = 0 ∧ (jopen (ax4.2.crash []) 1 4).2.1.isSome = true ∧ ax5.1.all = [[97], [98]] ∧ ax1.2.pend.length ≤ 100 ∧ ax2.2.pend.length ≤ 100 ∧ ax3.2.pend.length ≤ 100 := by decide +kernel
set_option maxRecDepth 1000000 in
theorem aw_y : (jopen (ay1.2.crash [0, 64, 64]) 1 4).1 = 0 ∧ (jopen (ay1.2.crash [0, 64, 64]) 1 4).2.1.isSome = true ∧ ay2.1.all = [] := by decide +kernel
set_option maxRecDepth 1000000 in
theorem aw_z : (jappend az1.1 az1.2 [101]).1 = 42 ∧ (jtrim az2.1 az2.2 1).1 = 0 ∧ (jappend az3.1 az3.2 [101]).1 = 0 ∧ az4.1.all = [[98], [99], [100], [101]] ∧ az1.2.pend.length ≤ 100 ∧ az2.2.pend.length ≤ 100 ∧ az3.2.pend.length ≤ 100 := by decide +kernel
set_option maxRecDepth 1000000 in
theorem aw_v : (jcut av1.1 av1.2 2).1 = 0 ∧ av3.1.all = [[97], [100]] ∧ av1.2.pend.length ≤ 100 ∧ av2.2.pend.length ≤ 100 := by decide +kernel
theorem aw_open : jopen (Dk.new 20) 1 ((4 : Nat) : Int) = (0, some aj0.1, aj0.2) := gJ_eq aw_0.1 aw_0.2.1
theorem aw_openx : jopen (ax4.2.crash []) 1 4 = (0, some ax5.1, ax5.2) := gJ_eq aw_x.1 aw_x.2.1
theorem aw_openy : jopen (ay1.2.crash [0, 64, 64]) 1 4 = (0, some ay2.1, ay2.2) := gJ_eq aw_y.1 aw_y.2.1

/-- One of several journals: its blocks are those that o gives to i. -/
def Sep (n : Nat) (w : World) (o : Nat → Nat) (i bj bd : Nat) (s : Jn × Dk) : Prop := JD (fun c => o c = i ∧ n ≤ c) w bj bd s.1 s.2
def upd (o : Nat → Nat) (w : World) (i : Nat) : Nat → Nat := fun c => if c < w.heap.size then o c else i
theorem Sep.tt {n : Nat} {w w' : World} {o : Nat → Nat} {i bj bd : Nat} {s : Jn × Dk} (h : Sep n w o i bj bd s) (hf : Fr (fun _ _ => True) w w') : Sep n w' o i bj bd s := JD.tt h hf
theorem Sep.self {n : Nat} {w w' : World} {o : Nat → Nat} {i bj bd : Nat} {s : Jn × Dk} (h : JD (fun c => (o c = i ∧ n ≤ c) ∨ w.heap.size ≤ c) w' bj bd s.1 s.2) (hn : n ≤ w.heap.size) : Sep n w' (upd o w i) i bj bd s :=
  JD.mono h fun c _ hc => by
    unfold upd
    rcases hc with hc | hc
    · refine ⟨?_, hc.2⟩
      split
      · exact hc.1
      · rfl
    · exact ⟨if_neg (by omega), by omega⟩
theorem Sep.other {n : Nat} {w w' : World} {o : Nat → Nat} {i k bj bd : Nat} {s : Jn × Dk} (h : Sep n w o k bj bd s) (hk : k ≠ i) (hf : Fr (fun c _ => ¬ (o c = i ∧ n ≤ c)) w w') : Sep n w' (upd o w i) k bj bd s := by
  have h1 : JD (fun c => (o c = k ∧ n ≤ c) ∧ c < w.heap.size) w bj bd s.1 s.2 := JD.mono h fun c hl hc => ⟨hc, hl⟩
  have h2 := h1.fr hf fun c _ _ hc h2 => hk (hc.1.1.symm.trans h2.1)
  exact h2.mono fun c _ hc => ⟨by unfold upd; rw [if_pos hc.2]; exact hc.1.1, hc.1.2⟩
theorem bytes1 (w : World) (b : UInt8) (z : Int) (hz : z = b.toNat) : BytesAt (fun _ _ => True) (w.alloc (.cells #[.int .u8 z] 5 (0, 0))) (.slice (some ⟨w.heap.size, 0, none⟩) 1 1) [b] := by
  subst hz
  have hb := heap_alloc_new w (.cells #[.int .u8 (b.toNat : Int)] 5 (0, 0))
  refine ⟨some ⟨w.heap.size, 0, none⟩, 1, rfl, Nat.le_refl _, (fun e => by cases e), .inr ⟨w.heap.size, 0, _, rfl, hb, trivial, fun i hi => ?_⟩⟩
  obtain rfl : i = 0 := by simp at hi; omega
  exact cell_mk hb rfl
end Go.Proofs.YtcpbmempfeloaaaDoor
/- The reference's disk (layer 4): in memory; its small functions. It is told of by the same plain disk as the program's. -/
namespace Go.Proofs.YtcpbmempfeloaaaDoor
open Go.RowKit
set_option linter.unusedVariables false

/-- Pending writes' cells: the place, and the slice of the bytes. -/
def cellsR (T : List (Nat × Value × List UInt8)) : List Value := T.flatMap fun x => [.int .i64 (x.1 : Nat), x.2.1]
/-- The blocks of bytes of a disk at br. -/
def KR (br : Nat) (G : Nat → Prop) (c : Nat) (_ : Obj) : Prop := G c ∧ c ≠ br
structure RAt (w : World) (br : Nat) (G : Nat → Prop) (vs vp : Value) (T : List (Nat × Value × List UInt8)) (fused : Bool) (left : Int) (D : Dk) : Prop where
  top : w.heap[br]? = some (.cells #[vs, vp, .bool fused, .int .i64 left, .bool D.down] 61 (0, 0))
  sure : BytesAt (KR br G) w vs D.sure.flatten
  pend : w.ownsRow 0 126 2 vp T.length (cellsR T)
  pb : ∀ c, vp.ownBlock = some c → G c
  tr : D.pend = T.map fun x => (x.1, x.2.2)
  bs : ∀ x ∈ T, BytesAt (KR br G) w x.2.1 x.2.2
  gb : G br
  fuse : D.down = false → fused = decide (0 ≤ D.fuse) ∧ (0 ≤ D.fuse → left = D.fuse)
  good : D.good
/-- A reference's disk at br, like D, its blocks among G. -/
def Rdk (w : World) (br : Nat) (G : Nat → Prop) (D : Dk) : Prop := ∃ vs vp T fused left, RAt w br G vs vp T fused left D

theorem RAt.ne {w : World} {br : Nat} {G : Nat → Prop} {vs vp : Value} {T : List (Nat × Value × List UInt8)} {fused : Bool} {left : Int} {D : Dk} (h : RAt w br G vs vp T fused left D) : vp.ownBlock ≠ some br := fun e => by
  obtain ⟨cur, hc⟩ := own_tag h.pend e
  rw [h.top] at hc
  cases hc
/-- The disk's own block is written: the rest stays. -/
theorem RAt.turn {w w' : World} {br : Nat} {G : Nat → Prop} {vs vp : Value} {T : List (Nat × Value × List UInt8)} {fused fused' : Bool} {left left' : Int} {D D' : Dk} (h : RAt w br G vs vp T fused left D) (hf : Fr (fun c _ => c ≠ br) w w')
    (ht : w'.heap[br]? = some (.cells #[vs, vp, .bool fused', .int .i64 left', .bool D'.down] 61 (0, 0))) (h2 : D'.sure = D.sure) (h3 : D'.pend = D.pend) (hu : D'.down = false → fused' = decide (0 ≤ D'.fuse) ∧ (0 ≤ D'.fuse → left' = D'.fuse)) (hg : D'.good) : RAt w' br G vs vp T fused' left' D' :=
  ⟨ht, h2 ▸ h.sure.fr (hf.mono fun _ _ h => h.2), ownsRow_fr h.pend hf fun b o e _ q => h.ne (q ▸ e), h.pb, h3 ▸ h.tr, fun x hx => (h.bs x hx).fr (hf.mono fun _ _ h => h.2), h.gb, hu, hg⟩
theorem Rdk.mono {w : World} {br : Nat} {G G' : Nat → Prop} {D : Dk} (h : Rdk w br G D) (hg : ∀ c, G c → G' c) : Rdk w br G' D := by
  obtain ⟨vs, vp, T, fused, left, h⟩ := h
  exact ⟨vs, vp, T, fused, left, h.top, h.sure.mono fun _ _ _ h => ⟨hg _ h.1, h.2⟩, h.pend, fun c e => hg _ (h.pb c e), h.tr, fun x hx => (h.bs x hx).mono fun _ _ _ h => ⟨hg _ h.1, h.2⟩, hg _ h.gb, h.fuse, h.good⟩
theorem Rdk.fr {w w' : World} {br : Nat} {G : Nat → Prop} {D : Dk} {K : Nat → Obj → Prop} (h : Rdk w br G D) (hf : Fr K w w') (hk : ∀ c o, w.heap[c]? = some o → G c → K c o) : Rdk w' br G D := by
  obtain ⟨vs, vp, T, fused, left, h⟩ := h
  have hb : ∀ v bs, BytesAt (KR br G) w v bs → BytesAt (KR br G) w' v bs := fun v bs hb => by
    have h1 : BytesAt (fun c o => KR br G c o ∧ K c o) w v bs := hb.mono fun c o ho hc => ⟨hc, hk c o ho hc.1⟩
    exact (h1.fr (hf.mono fun _ _ h => h.2)).mono fun _ _ _ h => h.1
  exact ⟨vs, vp, T, fused, left, hf.keep _ _ h.top (hk _ _ h.top h.gb), hb _ _ h.sure, ownsRow_fr h.pend hf fun b o e hb => hk b o hb (h.pb b e), h.pb, h.tr, fun x hx => hb _ _ (h.bs x hx), h.gb, h.fuse, h.good⟩
theorem Rdk.tt {w w' : World} {br : Nat} {G : Nat → Prop} {D : Dk} (h : Rdk w br G D) (hf : Fr (fun _ _ => True) w w') : Rdk w' br G D := h.fr hf fun _ _ _ _ => trivial
theorem Rdk.inside {w : World} {br : Nat} {G : Nat → Prop} {D : Dk} (h : Rdk w br G D) : Rdk w br (fun c => G c ∧ c < w.heap.size) D := by
  obtain ⟨vs, vp, T, fused, left, h⟩ := h
  have hb : ∀ v bs, BytesAt (KR br G) w v bs → BytesAt (KR br fun c => G c ∧ c < w.heap.size) w v bs := fun v bs hb => hb.mono fun c o ho hc => ⟨⟨hc.1, lt_of_some ho⟩, hc.2⟩
  exact ⟨vs, vp, T, fused, left, h.top, hb _ _ h.sure, h.pend, fun c e => ⟨h.pb c e, by obtain ⟨_, q⟩ := own_tag h.pend e; exact lt_of_some q⟩, h.tr, fun x hx => hb _ _ (h.bs x hx), ⟨h.gb, lt_of_some h.top⟩, h.fuse, h.good⟩
theorem Rdk.gd {w : World} {br : Nat} {G : Nat → Prop} {D : Dk} (h : Rdk w br G D) : D.good := by
  obtain ⟨_, _, _, _, _, h⟩ := h
  exact h.good

theorem flat_len {D : Dk} (h : D.ok) : D.sure.flatten.length = D.sure.length * 64 := chunk_length _ h.u64

set_option maxRecDepth 100000 in
theorem r_new (w : World) (n : Nat) (z : Int) (hz : z = n) (h1 : 1 ≤ n) (h2 : n ≤ 512) :
    Calls Tryd.prog 23 #[.int .i64 z] w fun e w' => (∃ br, e = .returned (.tuple #[.pointer (some ⟨br, 0, none⟩), .int .i64 0]) ∧ Rdk w' br (fun b => w.heap.size ≤ b) (Dk.new n)) ∧ Fr (fun _ _ => True) w w' := by
  have hmk := fun (W : World) => make_bytes W (64 * n) (64 * z) (by omega) (by omega)
  have z1 : 1 ≤ z := by omega
  have z2 : z ≤ 512 := by omega
  have HZ := Lib.hid hz
  clear hz
  go_enter Tryd.func23, Tryd.ntmps23
  go_wp2
  go_ret2
  have hb : BytesAt (New w.heap.size) (w.alloc (.cells (zeros (64 * n)) 5 (0, 0))) (.slice (some ⟨w.heap.size, 0, none⟩) (64 * n) (64 * n)) (Dk.new n).sure.flatten := by
    have e : (Dk.new n).sure.flatten = List.replicate (64 * n) 0 := by
      show (List.replicate n (List.replicate 64 (0 : UInt8))).flatten = _
      rw [List.flatten_replicate_replicate, Nat.mul_comm]
    rw [e]
    exact BytesAt.zeros w (64 * n)
  have hb' := hb.mono (K' := KR (w.heap.size + 1) fun b => w.heap.size ≤ b) fun c o ho hc => ⟨hc.1, by have := lt_of_some ho; simp at this; omega⟩
  exact ⟨⟨w.heap.size + 1, rfl, _, .slice none 0 0, [], false, 0, heap_alloc_at (by simp) _, hb'.tt ((Fr.refl _ _).alloc _), World.ownsRow_nil _ _ _ _, (fun c e => by cases e), rfl, (fun x hx => by cases hx), Nat.le_succ _, (fun _ => ⟨rfl, fun h => absurd (show (0 : Int) ≤ -1 from h) (by decide)⟩), Dk.new_good n h1 h2⟩, ((Fr.refl _ _).alloc _).alloc _⟩

set_option maxRecDepth 100000 in
theorem r_len (w : World) (br : Nat) (G : Nat → Prop) (D : Dk) (h : Rdk w br G D) :
    Calls Tryd.prog 61 #[.pointer (some ⟨br, 0, none⟩)] w fun e w' => e = .returned (.int .i64 (D.sure.length : Nat)) ∧ w = w' := by
  obtain ⟨vs, vp, T, fused, left, h⟩ := h
  obtain ⟨a, cap, rfl⟩ := h.sure.form
  have c0 := cell_mk (i := 0) h.top rfl
  rw [flat_len h.good.ok] at c0
  have hm := h.good.ok.max
  generalize D.sure.length = n at c0 hm
  clear h
  go_enter Tryd.func61, Tryd.ntmps61
  go_wp2
  go_ret
  refine ⟨?_, rfl⟩
  congr 2

set_option maxRecDepth 100000 in
theorem r_done (w : World) (br : Nat) (G : Nat → Prop) (D : Dk) (h : Rdk w br G D) :
    Calls Tryd.prog 70 #[.pointer (some ⟨br, 0, none⟩)] w fun e w' => e = .returned (.bool (!D.burn.down)) ∧ Rdk w' br G D.burn ∧ Fr (fun b _ => b ≠ br) w w' := by
  obtain ⟨vs, vp, T, fused, left, h⟩ := h
  have c2 := cell_mk (i := 2) h.top rfl
  have c3 := cell_mk (i := 3) h.top rfl
  have c4 := cell_mk (i := 4) h.top rfl
  have f3 := frozen_mk (i := 3) h.top
  have f4 := frozen_mk (i := 4) h.top
  have hlo := h.good.ok.lo
  have hhi := h.good.ok.hi
  have H := Lib.hid h
  have hbg := Lib.hid h.good.burn
  cases hd : D.down with
  | true =>
    rw [hd] at c4
    have e1 : Hid (D.burn.down = true) := by show (D.down || D.fuse == 0) = true; rw [hd]; rfl
    have r1 : Hid (Rdk w br G D.burn) := ⟨vs, vp, T, fused, left, H.out.turn (Fr.refl _ _) (by rw [e1.out, ← hd]; exact H.out.top) rfl rfl (fun q => by rw [e1.out] at q; cases q) hbg.out⟩
    clear h hd c2 c3
    go_enter Tryd.func70, Tryd.ntmps70
    go_wp2
    go_ret
    exact ⟨by rw [e1.out]; rfl, r1.out, Fr.refl _ _⟩
  | false =>
    obtain ⟨hu, hl⟩ := h.fuse hd
    rw [hd] at c4
    rcases Int.lt_trichotomy D.fuse 0 with hn | hn | hn
    · have e0 : fused = false := by rw [hu]; exact decide_eq_false (by omega)
      subst e0
      have e1 : Hid (D.burn.down = false) := by show (D.down || D.fuse == 0) = false; rw [hd]; simp; omega
      have e2 : D.burn.fuse = D.fuse := by show D.fuse - min 1 (max 0 D.fuse) = D.fuse; omega
      have r1 : Hid (Rdk w br G D.burn) := ⟨vs, vp, T, false, left, H.out.turn (Fr.refl _ _) (by have := H.out.top; rw [hd] at this; rw [e1.out]; exact this) rfl rfl (fun q => by rw [e2]; exact ⟨hu, hl⟩) hbg.out⟩
      clear h hd c3 hu hl e2
      go_enter Tryd.func70, Tryd.ntmps70
      go_wp2
      go_ret
      exact ⟨by rw [e1.out]; rfl, r1.out, Fr.refl _ _⟩
    · have e0 : fused = true := by rw [hu]; exact decide_eq_true (by omega)
      have e3 : left = 0 := by rw [hl (by omega)]; exact hn
      subst e0 e3
      have e1 : Hid (D.burn.down = true) := by show (D.down || D.fuse == 0) = true; rw [hn]; simp
      have hf : Fr (fun b _ => b ≠ br) w (w.setCell ⟨br, 4, none⟩ (.bool true)) := (Fr.refl _ _).setCell (fun _ _ h => h rfl) _
      have r1 : Hid (Rdk (w.setCell ⟨br, 4, none⟩ (.bool true)) br G D.burn) := ⟨vs, vp, T, true, 0, H.out.turn hf (by rw [e1.out]; exact heap_setCell_same H.out.top _) rfl rfl (fun q => by rw [e1.out] at q; cases q) hbg.out⟩
      have HF := Lib.hid hf
      clear h hd hu hl hf hn
      go_enter Tryd.func70, Tryd.ntmps70
      go_wp2
      go_ret
      exact ⟨by rw [e1.out]; rfl, r1.out, HF.out⟩
    · have e0 : fused = true := by rw [hu]; exact decide_eq_true (by omega)
      have e3 : left = D.fuse := hl (by omega)
      subst e0 e3
      have e1 : Hid (D.burn.down = false) := by show (D.down || D.fuse == 0) = false; rw [hd]; simp; omega
      have e2 : D.burn.fuse = D.fuse - 1 := by show D.fuse - min 1 (max 0 D.fuse) = D.fuse - 1; omega
      have hf : Fr (fun b _ => b ≠ br) w (w.setCell ⟨br, 3, none⟩ (.int .i64 (D.fuse - 1))) := (Fr.refl _ _).setCell (fun _ _ h => h rfl) _
      have r1 : Hid (Rdk (w.setCell ⟨br, 3, none⟩ (.int .i64 (D.fuse - 1))) br G D.burn) := ⟨vs, vp, T, true, D.fuse - 1, H.out.turn hf (by have := heap_setCell_same (o := 3) H.out.top (.int .i64 (D.fuse - 1)); rw [hd] at this; rw [e1.out]; exact this) rfl rfl (fun q => by rw [e2]; exact ⟨(decide_eq_true (by omega)).symm, fun _ => rfl⟩) hbg.out⟩
      have HF := Lib.hid hf
      clear h hd hu hl hf e2
      have q0 : ((D.fuse : Int) == 0) = false := by simp; omega
      go_enter Tryd.func70, Tryd.ntmps70
      go_wp2
      go_ret
      exact ⟨by rw [e1.out]; rfl, r1.out, HF.out⟩
end Go.Proofs.YtcpbmempfeloaaaDoor
/- The reference's disk: Read, Write. -/
namespace Go.Proofs.YtcpbmempfeloaaaDoor
open Go.RowKit
set_option linter.unusedVariables false

theorem laySure_append (s : List (List UInt8)) (l m : List (Nat × List UInt8)) : laySure s (l ++ m) = laySure (laySure s l) m := by simp [laySure]
theorem laySure_none (i : Nat) (l : List (Nat × List UInt8)) : ∀ s : List (List UInt8), (∀ x ∈ l, x.1 ≠ i) → (laySure s l).getD i [] = s.getD i [] := by
  induction l with
  | nil => intro s _; rfl
  | cons y l ih =>
    intro s h
    show (laySure (s.set y.1 y.2) l).getD i [] = _
    rw [ih _ fun x hx => h x (by simp [hx]), List.getD_eq_getElem?_getD, List.getD_eq_getElem?_getD, List.getElem?_set_ne (h y (by simp))]
theorem laySure_at (i : Nat) (s : List (List UInt8)) (l : List (Nat × List UInt8)) (j : Nat) (hj : j < l.length) (hi : l[j].1 = i) (hs : i < s.length) (h : ∀ x ∈ l.drop (j + 1), x.1 ≠ i) : (laySure s l).getD i [] = l[j].2 := by
  have e : laySure s l = laySure (laySure s (l.take (j + 1))) (l.drop (j + 1)) := by rw [← laySure_append, List.take_append_drop]
  rw [e, laySure_none i _ _ h, List.take_succ_eq_append_getElem hj, laySure_snoc, hi, List.getD_eq_getElem?_getD, List.getElem?_set_self (by rw [laySure_length]; exact hs)]
  rfl

/-- What Read answers. -/
def readM (D : Dk) (i : Int) : List UInt8 × Int := if 0 ≤ i ∧ i < D.sure.length then (D.seen.getD i.toNat [], 0) else ([], 40)

set_option maxRecDepth 100000 in
theorem r_read_out (w : World) (br : Nat) (G : Nat → Prop) (D : Dk) (i : Int) (h : Rdk w br G D) (hi : ¬ (0 ≤ i ∧ i < D.sure.length)) :
    Calls Tryd.prog 64 #[.pointer (some ⟨br, 0, none⟩), .int .i64 i] w fun e w' => e = .returned (.tuple #[.slice none 0 0, .int .i64 40]) ∧ w = w' := by
  have HL := Lib.hid (r_len w br G D h)
  clear h
  by_cases h0 : i < 0
  · clear hi
    go_enter Tryd.func64, Tryd.ntmps64
    go_wp2
    go_ret2
    exact ⟨rfl, rfl⟩
  · have h1 : (D.sure.length : Int) ≤ i := by omega
    have h2 : 0 ≤ i := by omega
    have d0 : decide (i < 0) = false := by simp; omega
    clear hi h0
    go_enter Tryd.func64, Tryd.ntmps64
    go_wp2_with fail
    (with_reducible refine HL.out.mono ?_)
    rintro e w1 ⟨rfl, rfl⟩
    go_wp2
    go_ret2
    exact ⟨rfl, rfl⟩

theorem cellsR_flat (T : List (Nat × Value × List UInt8)) : cellsR T = (T.map fun x => [Value.int .i64 (x.1 : Nat), x.2.1]).flatten := by simp [cellsR, List.flatMap]
theorem pend_cells {w : World} {B g cap n : Nat} {T : List (Nat × Value × List UInt8)} (h : w.ownsRow B 126 2 (.slice (some ⟨g, 0, none⟩) n cap) n (cellsR T)) (j : Nat) (hj : j < T.length) : w.cell? ⟨g, j * 2, none⟩ = some (.int .i64 (T[j].1 : Nat)) ∧ w.cell? ⟨g, j * 2 + 1, none⟩ = some T[j].2.1 := by
  rw [cellsR_flat] at h
  have hr := row_range h (fun x hx => by obtain ⟨y, _, rfl⟩ := List.mem_map.1 hx; rfl) j (by simpa using hj) (by decide)
  have e0 := hr 0 (.int .i64 (T[j].1 : Nat)) (by simp)
  have e1 := hr 1 T[j].2.1 (by simp)
  exact ⟨e0, e1⟩

set_option maxRecDepth 100000 in
set_option maxHeartbeats 1000000 in
theorem r_read_in (w : World) (br : Nat) (G : Nat → Prop) (D : Dk) (k : Nat) (i : Int) (hz : i = k) (h : Rdk w br G D) (hk : k < D.sure.length) :
    Calls Tryd.prog 64 #[.pointer (some ⟨br, 0, none⟩), .int .i64 i] w fun e w' => (∃ a cap, e = .returned (.tuple #[.slice a 64 cap, .int .i64 0]) ∧ BytesAt (KR br G) w (.slice a 64 cap) (D.seen.getD k [])) ∧ w = w' := by
  subst hz
  have HL := Lib.hid (r_len w br G D h)
  obtain ⟨vs, vp, T, fused, left, h⟩ := h
  have hfl := flat_len h.good.ok
  have hmax := h.good.ok.max
  obtain ⟨aq, cs, rfl⟩ := h.sure.form
  obtain ⟨bq, off, rfl⟩ := h.sure.addr (by omega)
  obtain ⟨ap, cp, rfl⟩ := own_form h.pend
  have hcs : D.sure.length * 64 ≤ cs := by have := h.sure.cap; omega
  have c0 := cell_mk (i := 0) h.top rfl
  have c1 := cell_mk (i := 1) h.top rfl
  rw [hfl] at c0
  have hkI : (k : Int) < (D.sure.length : Nat) := by omega
  have s8 : ∀ W, (Instr.slice 33 (.slice (some ⟨bq, off, none⟩) (D.sure.length * 64) cs) (some (.int .i64 (64 * (k : Int)))) (some (.int .i64 (64 * (k : Int) + 64))) none).run Tryd.prog W = .ok (.slice (some ⟨bq, off + 64 * k, none⟩) 64 (cs - 64 * k)) W := fun W => by
    have := run_slice_lit W bq off (D.sure.length * 64) cs (64 * k) (64 * k + 64) (64 * (k : Int)) (64 * (k : Int) + 64) (by omega) (by omega) (by omega) (by omega) (by omega)
    rwa [Nat.add_sub_cancel_left] at this
  have B8 : Hid (BytesAt (KR br G) w (.slice (some ⟨bq, off + 64 * k, none⟩) 64 (cs - 64 * k)) (D.sure.getD k [])) := by
    have := h.sure.piece (64 * k) 64 (by omega) (by omega)
    rw [Nat.mul_comm 64 k, chunk_get D.sure k h.good.ok.u64 hk] at this
    show BytesAt _ _ _ _
    rw [Nat.mul_comm 64 k, List.getD_eq_getElem?_getD, List.getElem?_eq_getElem hk]
    exact this
  have hfew : T.length ≤ 1000000 := by have := h.good.ok.few; rw [h.tr, List.length_map] at this; exact this
  have hse : Hid (∀ j (hj : j < T.length), T[j].1 = k → (∀ x ∈ T.drop (j + 1), x.1 ≠ k) → D.seen.getD k [] = T[j].2.2) := fun j hj h1 h2 => by
    rw [h.good.seen, h.tr]
    have := laySure_at k D.sure (T.map fun x => (x.1, x.2.2)) j (by simpa using hj) (by simpa using h1) hk (fun x hx => by
      rw [← List.map_drop] at hx
      obtain ⟨y, hy, rfl⟩ := List.mem_map.1 hx
      exact h2 y hy)
    rw [this]
    simp
  have hsn : Hid ((∀ x ∈ T, x.1 ≠ k) → D.seen.getD k [] = D.sure.getD k []) := fun h2 => by
    rw [h.good.seen, h.tr]
    exact laySure_none k _ _ fun x hx => by
      obtain ⟨y, hy, rfl⟩ := List.mem_map.1 hx
      exact h2 y hy
  have H := Lib.hid h
  clear h hfl
  generalize D.sure.length = n at *
  generalize hm : T.length = m at c1 hfew
  have HM := Lib.hid hm
  clear hm
  go_enter Tryd.func64, Tryd.ntmps64
  go_wp2_with fail
  (with_reducible refine HL.out.mono ?_)
  rintro e w1 ⟨rfl, rfl⟩
  go_wp2
  go_loop [6] (fun q => (q = .int .i64 (-1) ∧ Hid (∀ x ∈ T, x.1 ≠ k)) ∨ ∃ j : Nat, j < m ∧ q = .int .i64 (j : Nat) ∧ Hid (∀ x ∈ T.drop (j + 1), x.1 ≠ k)) (fun q => (intOf q + 1).toNat)
  case atStart =>
    cases m with
    | zero => exact .inl ⟨rfl, fun x hx => by rw [List.length_eq_zero_iff.1 HM.out] at hx; cases hx⟩
    | succ q => exact .inr ⟨q, by omega, by go_num, fun x hx => by rw [List.drop_of_length_le (by have := HM.out; omega)] at hx; cases hx⟩
  case round =>
    rcases hrel with ⟨rfl, hno⟩ | ⟨j, hj, rfl, hno⟩
    · go_wp2
      go_ret2
      exact ⟨⟨_, _, rfl, show BytesAt (KR br G) w _ (D.seen.getD k []) from by rw [hsn.out hno.out]; exact B8.out⟩, rfl⟩
    · have hjT : j < T.length := by have := HM.out; omega
      have hp := H.out.pend
      rw [HM.out] at hp
      obtain ⟨g, rfl⟩ : ∃ g, ap = some ⟨g, 0, none⟩ := by
        rcases hp.2 with ⟨e, e2⟩ | ⟨g, cap, cur, e, _⟩
        · omega
        · cases e; exact ⟨g, rfl⟩
      obtain ⟨k0, k1⟩ := pend_cells hp j hjT
      have hb := H.out.bs T[j] (List.getElem_mem hjT)
      have hl64 : T[j].2.2.length = 64 := by
        have := (H.out.good.ok.p64 (T[j].1, T[j].2.2) (by rw [H.out.tr]; exact List.mem_map.2 ⟨T[j], List.getElem_mem hjT, rfl⟩)).2
        exact this
      have hsj := Lib.hid (hse.out j hjT)
      obtain ⟨aj, cj, hvj⟩ := hb.form
      rw [hvj, hl64] at hb
      rw [hvj, hl64] at k1
      have HB := Lib.hid hb
      clear hp hb hvj hl64
      have hdr : Hid (T.drop j = T[j] :: T.drop (j + 1)) := List.drop_eq_getElem_cons hjT
      generalize T[j] = t at k0 HB hsj hdr
      by_cases hq : t.1 = k
      · have q1 : ((t.1 : Int) == k) = true := by simp [hq]
        have HQ := Lib.hid hq
        clear hq
        go_wp2
        go_ret2
        exact ⟨⟨_, _, rfl, show BytesAt (KR br G) w _ (D.seen.getD k []) from by rw [hsj.out HQ.out hno.out]; exact HB.out⟩, rfl⟩
      · have q1 : ((t.1 : Int) == k) = false := by simp; omega
        have HQ := Lib.hid hq
        clear hq
        go_wp2
        go_round
        case rel =>
          have hall : ∀ x ∈ T.drop j, x.1 ≠ k := fun x hx => by
            rw [hdr.out] at hx
            rcases List.mem_cons.1 hx with h1 | h1
            · rw [h1]; exact HQ.out
            · exact hno.out x h1
          cases j with
          | zero => exact .inl ⟨by go_num, hall⟩
          | succ q => exact .inr ⟨q, by omega, by go_num, hall⟩
        case measure => simp [intOf]

/-- ref04.Read. -/
theorem r_read (w : World) (br : Nat) (G : Nat → Prop) (D : Dk) (i : Int) (h : Rdk w br G D) (b : List UInt8) (c : Int) (hr : readM D i = (b, c)) :
    Calls Tryd.prog 64 #[.pointer (some ⟨br, 0, none⟩), .int .i64 i] w fun e w' => (∃ a cap, e = .returned (.tuple #[.slice a b.length cap, .int .i64 c]) ∧ BytesAt (KR br G) w (.slice a b.length cap) b) ∧ w = w' := by
  unfold readM at hr
  by_cases hi : 0 ≤ i ∧ i < D.sure.length
  · rw [if_pos hi] at hr
    obtain ⟨k, rfl⟩ := Int.eq_ofNat_of_zero_le hi.1
    have hk : k < D.sure.length := by omega
    cases hr
    have hl : (D.seen.getD (k : Int).toNat []).length = 64 := by
      have hg := h.gd
      have hks : k < D.seen.length := by rw [hg.ok.len]; exact hk
      rw [Int.toNat_natCast, List.getD_eq_getElem?_getD, List.getElem?_eq_getElem hks]
      exact hg.ok.s64 _ (List.getElem_mem hks)
    rw [hl]
    exact r_read_in w br G D k _ rfl h hk
  · rw [if_neg hi] at hr
    cases hr
    exact (r_read_out w br G D i h hi).mono fun e w' ⟨he, hw⟩ => ⟨⟨none, 0, he, BytesAt.nil _ _⟩, hw⟩
end Go.Proofs.YtcpbmempfeloaaaDoor
