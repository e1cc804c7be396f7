/- Texts of the proofs, part 11: what the functions that they reach do, walked; no conditions beyond those that each states. -/
import Derived.Test.YtaeonlafcbgpcaaDoorZza054729387
set_option linter.unusedVariables false
set_option linter.unusedSimpArgs false
/- Law 18: VaultRefused, walked. -/
namespace Go.Proofs.YtaeonlafcbgpcaaDoor
open Go.RowKit
set_option linter.unusedVariables false

set_option maxRecDepth 100000 in
theorem vref_long (W : World) (a0 : Option Addr) (len0 cap0 : Nat) (v2 v3 v4 : Value) (ht : TabOK W) (hl : 15 < len0) :
    Calls Tryd.prog 11 #[.slice a0 len0 cap0, v2, v3, v4] W fun e w' => e = .returned (.bool true) ∧ Fr (fun _ _ => True) W w' := by
  have AW := Lib.hid (awake18_calls W ht)
  clear ht
  go_enter Tryd.func11, Tryd.ntmps11
  go_wp2_with fail
  (with_reducible refine AW.out.mono ?_)
  rintro e w1 ⟨rfl, f1⟩
  have F1 := Lib.hid f1
  clear f1
  go_wp2_with fail
  (with_reducible refine (made18_long w1 a0 len0 cap0 hl).mono ?_)
  rintro e w2 ⟨rfl, f2⟩
  have F2 := Lib.hid (F1.out.trans f2)
  clear f2
  go_wp2
  go_ret
  exact ⟨rfl, F2.out⟩

set_option maxRecDepth 100000 in
set_option maxHeartbeats 4000000 in
theorem vref_main (W : World) (a0 : Option Addr) (len0 cap0 : Nat) (a2 : Option Addr) (len2 cap2 : Nat) (i n : Int) (l : List OpV) (b : List UInt8) (ho : OpsAt W.heap.size W (.slice a0 len0 cap0) l) (hb : BytesAt (fun c _ => c < W.heap.size) W (.slice a2 len2 cap2) b) (ht : TabOK W) (hl : len0 ≤ 15) :
    Calls Tryd.prog 11 #[.slice a0 len0 cap0, .slice a2 len2 cap2, .int .i64 i, .int .i64 n] W fun e w' => e = .returned (.bool true) ∧ Fr (fun _ _ => True) W w' := by
  have hln := ho.len
  have hvm := madeV_all ho (by omega)
  have hsm := madeV_small ho (by omega) l.length (Nat.le_refl _)
  rw [List.take_length] at hsm
  have law := refused_law hvm hsm i n b
  obtain ⟨D, hD⟩ : ∃ D, madeV l = D := ⟨_, rfl⟩
  rw [hD] at law
  obtain ⟨ob, oc, hld⟩ : ∃ ob oc, vload (D.crash []) 1 3 = (ob, oc) := ⟨_, _, rfl⟩
  obtain ⟨c, E, hpt⟩ : ∃ c E, vsave (D.crash []) i n b = (c, E) := ⟨_, _, rfl⟩
  rw [hpt] at law
  replace law : c ≠ 0 → E = D.crash [] := law
  have AW := Lib.hid (awake18_calls W ht)
  have HO := Lib.hid ho
  have HB := Lib.hid hb
  have HT := Lib.hid ht
  have LAW := Lib.hid law
  have HD := Lib.hid hD
  have HLD := Lib.hid hld
  have HPT := Lib.hid hpt
  have HPD : Hid ((D.crash []).pend.length < 900000) := by show (0 : Nat) < 900000; decide
  have h0 : 0 < W.heap.size := by have := cell_lt (ht 0 (by decide)); simpa using this
  clear ht ho hb law hD hld hpt hln hvm hsm
  go_enter Tryd.func11, Tryd.ntmps11
  go_wp2_with fail
  (with_reducible refine AW.out.mono ?_)
  rintro e w1 ⟨rfl, f1⟩
  have F1 := Lib.hid f1
  have s1 : W.heap.size ≤ w1.heap.size := f1.size
  have TT : Hid (∀ W', Fr (fun c _ => c < w1.heap.size) w1 W' → TabOK W') := fun W' h j hj => h.cell (fun _ _ => Nat.lt_of_lt_of_le h0 s1) (f1.cell (fun _ _ => trivial) (HT.out j hj))
  have BB : Hid (∀ W', Fr (fun c _ => c < w1.heap.size) w1 W' → BytesAt (fun c _ => c < w1.heap.size) W' (.slice a2 len2 cap2) b) := fun W' h => ((HB.out.tt f1).mono fun c _ _ h => by omega).fr h
  have MC := Lib.hid (made18_some w1 a0 len0 cap0 l ((HO.out.fr (f1.mono fun _ _ _ => trivial)).mono s1) (TT.out _ (Fr.refl _ _)) hl)
  clear f1 AW HB HT HO
  go_wp2_with fail
  (with_reducible refine MC.out.mono ?_)
  rintro e w2 ⟨⟨bd, rfl, d2⟩, f2⟩
  rw [HD.out] at d2
  have D2 := Lib.hid d2.inside
  have F2 : Hid (Fr (fun c _ => c < w1.heap.size) w1 w2) := f2.mono fun _ _ _ => trivial
  have s2 : w1.heap.size ≤ w2.heap.size := f2.size
  have I2 : Hid (IntsAt (fun _ _ => False) w2 (.slice none 0 0) []) := ⟨none, 0, rfl, .inl rfl⟩
  clear d2 f2 MC
  go_wp2_with fail
  (with_reducible refine (crash_main w2 bd _ D none 0 0 [] D2.out I2.out (fun _ _ h => h.elim)).mono ?_)
  rintro e w3 ⟨rfl, d3, f3⟩
  have D3 := Lib.hid d3.inside
  have F3 : Hid (Fr (fun c _ => c < w1.heap.size) w1 w3) := F2.out.trans (f3.mono fun c _ h e => by omega)
  have s3 : w2.heap.size ≤ w3.heap.size := f3.size
  clear d3 f3 D2 I2
  go_wp2_with fail
  (with_reducible refine (vload_calls w3 bd _ _ 1 3 D3.out (TT.out _ F3.out) _ _ HLD.out).mono ?_)
  rintro e w4 ⟨⟨a4, c4, rfl, b4⟩, f4⟩
  have D4 := Lib.hid (D3.out.tt f4)
  have F4 := Lib.hid (F3.out.tt f4)
  have s4 : w3.heap.size ≤ w4.heap.size := f4.size
  have B4 := Lib.hid (b4.mono (K' := fun c _ => w3.heap.size ≤ c ∧ c < w4.heap.size) fun c o ho h => ⟨h.1, lt_of_some ho⟩)
  have PC := vsave_calls w4 bd _ _ i n _ b D4.out (fun c h => by have := h.2; omega) (BB.out _ F4.out) (fun c o h => ⟨fun h2 => by omega, by omega⟩) (TT.out _ F4.out) (by omega) HPD.out
  rw [HPT.out] at PC
  have PC := Lib.hid PC
  clear b4 f4 D3 D4
  go_wp2_with fail
  (with_reducible refine PC.out.mono ?_)
  rintro e w6 ⟨rfl, d6, f6⟩
  have D6 : Hid (Dsk w6 bd _ E) := d6.inside
  have F6 : Hid (Fr (fun c _ => c < w1.heap.size) w1 w6) := F4.out.trans (f6.mono fun c _ h e => by omega)
  have s6 : w4.heap.size ≤ w6.heap.size := f6.size
  have B6 := Lib.hid (B4.out.fr (f6.mono fun c _ h e => by omega))
  clear d6 f6 PC B4
  by_cases hc : c = 0
  · subst hc
    go_wp2
    go_ret
    exact ⟨rfl, F1.out.trans (Fr.within (F6.out.mono fun _ _ h => h.2))⟩
  · have hE := LAW.out hc
    subst hE
    have hc' : (c == 0) = false := by simpa using hc
    have PD := pending_calls w6 bd _ _ D6.out
    rw [show (D.crash []).pend.length = 0 from rfl] at PD
    have PD := Lib.hid PD
    clear hc LAW
    go_wp2_with fail
    (with_reducible refine PD.out.mono ?_)
    rintro e w6' ⟨rfl, rfl⟩
    go_wp2_with fail
    (with_reducible refine (vload_calls w6 bd _ _ 1 3 D6.out (TT.out _ F6.out) _ _ HLD.out).mono ?_)
    rintro e w8 ⟨⟨a8, c8, rfl, b8⟩, f8⟩
    have F8 := Lib.hid (F6.out.tt f8)
    have SM := same_calls w8 _ _ ob ob b8 (B6.out.tt f8) (by have := vload_len HLD.out; omega)
    rw [decide_eq_true rfl] at SM
    have SM := Lib.hid SM
    clear b8 f8 D6 B6
    go_wp2_with fail
    (with_reducible refine SM.out.mono ?_)
    rintro e w9 ⟨rfl, k9, hw9⟩
    have F9 : Hid (Fr (fun c _ => c < w1.heap.size) w1 w9) := by rw [hw9]; exact F8.out.drewN k9
    clear hw9
    go_wp2
    go_ret
    exact ⟨rfl, F1.out.trans (Fr.within (F9.out.mono fun _ _ h => h.2))⟩

theorem vref_walk (W : World) (a0 : Option Addr) (len0 cap0 : Nat) (a2 : Option Addr) (len2 cap2 : Nat) (i n : Int) (r0 : Rd Tryd.prog W 59 [.slice a0 len0 cap0]) (r2 : Rd Tryd.prog W 23 [.slice a2 len2 cap2]) (ht : TabOK W) :
    Calls Tryd.prog 11 #[.slice a0 len0 cap0, .slice a2 len2 cap2, .int .i64 i, .int .i64 n] W fun e w' => e = .returned (.bool true) ∧ Below W.heap.size W w' := by
  obtain ⟨l, ho, hlm⟩ := ops_of r0
  obtain ⟨b, hb, hbm⟩ := r2.bs
  by_cases hl : 15 < len0
  · exact (vref_long W a0 len0 cap0 _ _ _ ht hl).mono fun e w' ⟨he, hf⟩ => ⟨he, hf.bel⟩
  · exact (vref_main W a0 len0 cap0 a2 len2 cap2 i n l b ho hb ht (by omega)).mono fun e w' ⟨he, hf⟩ => ⟨he, hf.bel⟩
end Go.Proofs.YtaeonlafcbgpcaaDoor
