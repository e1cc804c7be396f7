/- Texts of the proofs, part 48: what the functions that they reach do, walked; no conditions beyond those that each states. -/
import Derived.Test.YtmjccpfchhnfhaaZzca59f89c5b
set_option linter.unusedVariables false
set_option linter.unusedSimpArgs false
/- Raft heals, plainly (10): rounds. -/
namespace Go.Proofs.Ytmjccpfchhnfhaa
set_option linter.unusedVariables false
set_option linter.unusedSimpArgs false
theorem Nd.timeout_e8' {n : Nd} : Es8 n.timeout.2 := by
 unfold Nd.timeout
 split
 ·exact Es8.nil
 ·split
  ·exact Es8.nil
  ·exact Nd.led_e8 Nd.askF_e8
section
variable {many w Lm cm c b : Nat} {cq : Prop} {lg : Option Lg} {T : Nat → Nd}
theorem RdW.beats (hw : w < many) (h16 : many ≤ 16) (hr : (T w).role = 3) (l0 : Lg0 (T w).log) (hn : ∀ k, k < many → k ≠ w → (T w).mat.getD k 0 + 1 ≤ (T w).next.getD k 0 ∧ (T w).next.getD k 0 ≤ (T w).log.es.length + 1) (hN : ∀ k, k < many → Nwr (T w).log.es (T k).log.es) (hL : (T w).log.es.length ≤ Lm) (hpv : ∀ i, tA (T w).log.es i < 1152921504606846976) :
  RdW many w Lm T (cst many w (appM w (T w)) (4 * Lm + 8)) ((many - 1) * (4 * Lm + 8)) := by
 have vt : ∀ j, toK w j (appM w (T w) j) := fun j => ⟨rfl, rfl, .inr (.inr rfl)⟩
 refine ⟨fun x hx => ?_, cst_uq fun j _ _ => vt j, fun x hx => ?_, fun _ x hx i hi h5 => ?_, fun _ x hx i hi h5 => ?_, fun e => ?_, fun e => ?_, fun x hx i hi => ?_, hN, fun k hk hkw => .inr ⟨_, cst_in hk hkw, .inl ⟨vt k, by show ¬ (5 : Int) = 1; decide⟩⟩, fun e => ?_, ?_, fun x hx => ?_, hL, fun e => ?_⟩
 ·obtain ⟨j, hj, hjw, rfl⟩ := cst_mem hx; exact ⟨j, hj, hjw, .inl (vt j)⟩
 ·obtain ⟨j, hj, hjw, rfl⟩ := cst_mem hx; exact ⟨by show 1 ≤ 4 * Lm + 8; omega, fun _ => by show 2 ≤ 4 * Lm + 8; omega⟩
 ·obtain ⟨j, hj, hjw, rfl⟩ := cst_mem hx
  have : j = i := (vt j).eq hi
  subst this
  obtain ⟨a, d⟩ := hn j hj hjw
  have := (fz_le a d).1
  exact ⟨rfl, by show (T w).next.getD j 0 - 1 + 1 = _; omega, rfl, by show _ ≤ 4 * Lm + 8; omega⟩
 ·obtain ⟨j, hj, hjw, rfl⟩ := cst_mem hx
  exact absurd (show (5 : Int) = 6 from h5) (by decide)
 ·omega
 ·omega
 ·obtain ⟨j, hj, hjw, rfl⟩ := cst_mem hx
  obtain ⟨a, d⟩ := hn j hj hjw
  exact ⟨fun _ => ⟨Nat.le_refl _, appM_p5 l0 (by omega) d⟩, fun e => absurd (show (5 : Int) = 3 from e) (by decide), fun e => absurd (show (5 : Int) = 1 from e) (by decide)⟩
 ·omega
 ·unfold stg
  rw [if_neg (by omega), if_neg (by omega)]
  exact cst_tot hw
 ·obtain ⟨j, hj, hjw, rfl⟩ := cst_mem hx
  show ((T w).log.term ((T w).next.getD j 0 - 1)).1 < _
  rw [l0.term]; exact hpv _
 ·omega
theorem RdS.beats (hr : (T w).role = 3) (hs : ∀ k, k < many → (T k).tm ≤ (T w).tm) (hcm : cm = 0 ∨ ∀ k, k < many → k ≠ w → cm ≤ (T w).commit ∧ cm + 1 ≤ (T w).next.getD k 0 ∧ (T w).mat.getD k 0 + 1 = (T w).next.getD k 0)
  (h1 : many = 1 → (T w).log.es.length ≤ (T w).commit ∨ cq) (hw : w < many) (hl : ∀ l, lg = some l → (T w).log = l) : RdS many w cm cq lg T (cst many w (appM w (T w)) (4 * Lm + 8)) := by
 have vt : ∀ j, toK w j (appM w (T w) j) := fun j => ⟨rfl, rfl, .inr (.inr rfl)⟩
 refine ⟨hs, fun x hx j hj => ?_, by omega, fun e => by omega, fun e => by omega, fun _ j hj hjw => .inr ⟨_, cst_in hj hjw, .inl ⟨vt j, rfl⟩⟩, fun _ => ?_, fun j hj hjw => ?_, fun l e => ⟨hr, hl l e⟩⟩
 ·obtain ⟨i, hi, hiw, rfl⟩ := cst_mem hx
  exact .inl (Nat.le_refl _)
 ·by_cases e : many = 1
  ·exact .inr (h1 e)
  ·by_cases e0 : w = 0
   ·exact .inl ⟨_, cst_in (k := 1) (by omega) (by omega), .inl rfl⟩
   ·exact .inl ⟨_, cst_in (k := 0) (by omega) (by omega), .inl rfl⟩
 ·rcases hcm with d | d
  ·exact .inl (by omega)
  ·obtain ⟨a1, a2, a3⟩ := d j hj hjw
   exact .inr ⟨_, cst_in hj hjw, vt j, rfl, a1, by show cm ≤ (T w).next.getD j 0 - 1; omega, a3⟩
def preM (w : Nat) (n : Nd) (k : Nat) : Ms := { zMs with kind := 3, src := ((w : Nat) : Int), dst := ((k : Nat) : Int), tm := n.tm + 1, index := n.log.last, prev := n.log.lastT }
theorem RdW.pres (hw : w < many) (hr : (T w).role = 1) (l0 : Lg0 (T w).log) (hN : ∀ k, k < many → Nwr (T w).log.es (T k).log.es) (hL : (T w).log.es.length + 1 ≤ Lm) (hpv : (T w).log.lastT < 1152921504606846976) (ha : agrI (cfN many) [((w : Nat) : Int)] = false) :
  RdW many w Lm T (cst many w (preM w (T w)) 2) ((many - 1) * 2 + (many - 1) * (2 + (4 * Lm + 8))) := by
 have vt : ∀ j, toK w j (preM w (T w) j) := fun j => ⟨rfl, rfl, .inr (.inl rfl)⟩
 refine ⟨fun x hx => ?_, cst_uq fun j _ _ => vt j, fun x hx => ?_, fun e => by omega, fun e => by omega, fun e x hx => ?_, fun e x hx => ?_, fun x hx i hi => ?_, hN, fun k hk hkw => .inr ⟨_, cst_in hk hkw, .inl ⟨vt k, by show ¬ (3 : Int) = 1; decide⟩⟩, fun _ => ha, ?_, fun x hx => ?_, by omega, fun _ => hL⟩
 ·obtain ⟨j, hj, hjw, rfl⟩ := cst_mem hx; exact ⟨j, hj, hjw, .inl (vt j)⟩
 ·obtain ⟨j, hj, hjw, rfl⟩ := cst_mem hx; exact ⟨by show 1 ≤ 2; omega, fun _ => Nat.le_refl 2⟩
 ·obtain ⟨j, hj, hjw, rfl⟩ := cst_mem hx; exact ⟨by show ¬ (3 : Int) = 5; decide, by show ¬ (3 : Int) = 6; decide⟩
 ·obtain ⟨j, hj, hjw, rfl⟩ := cst_mem hx; exact ⟨by show ¬ (3 : Int) = 1; decide, by show ¬ (3 : Int) = 2; decide⟩
 ·obtain ⟨j, hj, hjw, rfl⟩ := cst_mem hx
  exact ⟨fun e => absurd (show (3 : Int) = 5 from e) (by decide), fun _ => Nat.le_refl _, fun e => absurd (show (3 : Int) = 1 from e) (by decide)⟩
 ·unfold stg
  rw [if_pos hr]
  have := cst_tot (f := preM w (T w)) (c := 2) hw
  omega
 ·obtain ⟨j, hj, hjw, rfl⟩ := cst_mem hx; exact hpv
theorem RdS.pres (hr : (T w).role = 1) (l0 : Lg0 (T w).log) (hs : ∀ k, k < many → (T k).tm ≤ (T w).tm) (hh : ∀ k, k < many → k ≠ w → (T k).heard = false) (hy : (T w).yes = [((w : Nat) : Int)]) (ha : agrI (cfN many) [((w : Nat) : Int)] = false) : RdS many w 0 cq none T (cst many w (preM w (T w)) 2) := by
 have vt : ∀ j, toK w j (preM w (T w) j) := fun j => ⟨rfl, rfl, .inr (.inl rfl)⟩
 refine ⟨hs, fun x hx j hj => ?_, by omega, fun _ => ⟨by rw [hy]; exact List.mem_singleton.2 rfl, by rw [hy]; exact ha, fun k hk hkw => ⟨hh k hk hkw, .inr ⟨_, cst_in hk hkw, .inl ⟨vt k, rfl, rfl, l0.last, l0.lastT⟩⟩⟩⟩, fun e => by omega, fun e => by omega, fun e => by omega, fun j hj hjw => .inl (Nat.zero_le _), fun l e => by cases e⟩
 obtain ⟨i, hi, hiw, rfl⟩ := cst_mem hx
 have e3 : (3 : Int) = 2 ∨ (3 : Int) = 4 ∨ (3 : Int) = 6 := hj.2.2
 omega
theorem agr_all {y : List Int} (h0 : 0 < many) (h : ∀ k, k < many → ((k : Nat) : Int) ∈ y) : agrI (cfN many) y = true := by
 unfold agrI
 have hc : cntI (cfN many) y = many := by
  unfold cntI
  rw [List.countP_eq_length.2 fun x hx => ?_, cfN_len]
  obtain ⟨j, rfl, hj⟩ := cfN_mem hx
  exact hasI_mem.2 (h j hj)
 rw [hc, cfN_len]
 unfold majI
 exact decide_eq_true (by omega)
theorem RdW.fin (h : RdW many w Lm T [] b) (k : Nat) (hk : k < many) : (T k).tm ≤ (T w).tm := by
 by_cases e : k = w
 ·rw [e]; exact Nat.le_refl _
 ·rcases h.inf k hk e with d | ⟨x, hx, -⟩
  ·exact d
  ·cases hx
theorem RdS.fin (h : RdS many w cm cq lg T []) (hw : w < many) (hrl : 0 ≤ (T w).role ∧ (T w).role ≤ 3) : (T w).role = 3 ∧ (∀ k, k < many → k ≠ w → (T w).mat.getD k 0 = (T w).log.es.length ∧ (T w).next.getD k 0 = (T w).log.es.length + 1) ∧ ((T w).log.es.length ≤ (T w).commit ∨ cq) ∧ (∀ k, k < many → k ≠ w → cm ≤ (T k).commit) ∧ ∀ l, lg = some l → (T w).log = l := by
 have h3 : (T w).role = 3 := by
  have h0 := h.s3
  by_cases e1 : (T w).role = 1
  ·obtain ⟨a1, a2, a3⟩ := h.s4 e1
   have := agr_all (many := many) (y := (T w).yes) (Nat.lt_of_le_of_lt (Nat.zero_le _) hw) fun k hk => by
    by_cases e : k = w
    ·rw [e]; exact a1
    ·rcases (a3 k hk e).2 with d | ⟨x, hx, -⟩
     ·exact d
     ·cases hx
   rw [a2] at this; cases this
  ·by_cases e2 : (T w).role = 2
   ·obtain ⟨a1, a2, a3⟩ := h.s5 e2
    have := agr_all (many := many) (y := (T w).yes) (Nat.lt_of_le_of_lt (Nat.zero_le _) hw) fun k hk => by
     by_cases e : k = w
     ·rw [e]; exact a1
     ·rcases a3 k hk e with d | ⟨x, hx, -⟩
      ·exact d
      ·cases hx
    rw [a2] at this; cases this
   ·omega
 refine ⟨h3, fun k hk hkw => ?_, ?_, fun k hk hkw => ?_, fun l e => (h.s9 l e).2⟩
 ·rcases h.s6 h3 k hk hkw with d | ⟨x, hx, -⟩
  ·exact d
  ·cases hx
 ·rcases h.s7 h3 with ⟨x, hx, -⟩ | d
  ·cases hx
  ·exact d
 ·rcases h.s8 k hk hkw with d | ⟨x, hx, -⟩
  ·exact d
  ·cases hx
end
def Gs.wake (w : Nat) (s : Gs) : Gs :=
 let n := s.ns.getD w default
 if n.role = 3 then ({ s with ms := [] } : Gs).send n.beat else ({ s with ms := [], ns := s.ns.set w ({ n with heard := false } : Nd).timeout.1 } : Gs).send ({ n with heard := false } : Nd).timeout.2
theorem send0 {s : Gs} (h : s.ms = []) (l : List Ms) : (s.send l).ms = l := by
 unfold Gs.send
 rw [if_pos (by rw [h]; exact Nat.zero_lt_succ _)]
 show s.ms ++ l = l
 rw [h]; rfl
section
variable {many w B c : Nat} {s : Gs}
theorem Hs.clear (h : Hs many B c s) : Hs many B c { s with ms := [] } := by
 obtain ⟨hid, g, hg, hn, hm⟩ := h.sf
 exact ⟨⟨⟨hid.1, hid.2⟩, g, hg, hn, fun m hm => (by cases hm)⟩, ⟨⟨h.gj.gi.nd, h.gj.gi.ap, fun m hm => (by cases hm), Nat.zero_le _⟩, h.gj.n0, h.gj.n5, h.gj.la, h.gj.lt, h.gj.mn, h.gj.tk⟩, ⟨h.kg.1, fun m hm => (by cases hm)⟩, fun m hm => (by cases hm), h.ap⟩
theorem Hs.mono {B' c' : Nat} (h : Hs many B c s) (hB : B ≤ B') (hc : c ≤ c') : Hs many B' c' s := ⟨h.sf, h.gj.mono hB, h.kg.mono hc, h.e8, h.ap⟩
theorem Hs.wake (h : Hs many B c s) (h16 : many ≤ 16) (hw : w < many) (hh : (nsT s w).role ≠ 3 → (nsT s w).heard = false) : Hs many (B + 3) (c + 1) (s.wake w) := by
 have h0 := h.clear
 have hl : s.ns.length = many := h.sf.ids.1
 have p3 : ({ s with ms := [] } : Gs).play 3 (w : Nat) = ({ s with ms := [] } : Gs).send (nsT s w).beat := by
  unfold Gs.play
  rw [if_neg (by show ¬ ((w : Int) < 0 ∨ ((3 : Int) ≠ 2 ∧ (s.ns.length : Int) ≤ w) ∨ _); rw [hl]; omega)]
  rfl
 have p1 : ({ s with ms := [] } : Gs).play 1 (w : Nat) = ({ s with ms := [], ns := s.ns.set w (nsT s w).timeout.1 } : Gs).send (nsT s w).timeout.2 := by
  unfold Gs.play
  rw [if_neg (by show ¬ ((w : Int) < 0 ∨ ((1 : Int) ≠ 2 ∧ (s.ns.length : Int) ≤ w) ∨ _); rw [hl]; omega)]
  rfl
 by_cases hr : (nsT s w).role = 3
 ·have e : s.wake w = ({ s with ms := [] } : Gs).play 3 (w : Nat) := by
   rw [p3]; unfold Gs.wake; exact if_pos hr
  rw [e]
  refine ⟨h0.sf.play h16 _ _, h0.gj.play _ _, h0.kg.play h0.sf h16 _ _, ?_, ?_⟩
  ·rw [p3]; exact e8_send h0.e8 Nd.beat_e8
  ·rw [p3]
   intro i
   rw [send_ns]
   have e : (({ s with ms := [] } : Gs).send (nsT s w).beat).aps = s.aps := by unfold Gs.send; split <;> rfl
   rw [e]; exact h.ap i
 ·have hn : ({ nsT s w with heard := false } : Nd) = nsT s w := by rw [← hh hr]
  have e : s.wake w = ({ s with ms := [] } : Gs).play 1 (w : Nat) := by
   rw [p1]
   unfold Gs.wake
   have hr' : ¬ (s.ns.getD w default).role = 3 := hr
   dsimp only
   rw [if_neg hr']
   have hn' : ({ s.ns.getD w default with heard := false } : Nd) = nsT s w := hn
   rw [hn']
  rw [e]
  refine ⟨h0.sf.play h16 _ _, h0.gj.play _ _, h0.kg.play h0.sf h16 _ _, ?_, ?_⟩
  ·rw [p1]; exact e8_send (s := { s with ms := [], ns := _ }) (fun m hm => by cases hm) Nd.timeout_e8'
  ·rw [p1]; exact ap_node (s := { s with ms := [] }) h.ap (Nd.timeout_commit _)
end
end Go.Proofs.Ytmjccpfchhnfhaa
/- Raft heals, plainly (11): it does. -/
namespace Go.Proofs.Ytmjccpfchhnfhaa
set_option linter.unusedVariables false
set_option linter.unusedSimpArgs false
section
variable {many w B c cm : Nat} {cq : Prop} {s : Gs}
theorem Hs.nxt (h : Hs many B c s) (h5 : many ≤ 5) (hw : w < many) (hr : (nsT s w).role = 3) : ∀ k, k < many → k ≠ w → (nsT s w).mat.getD k 0 + 1 ≤ (nsT s w).next.getD k 0 ∧ (nsT s w).next.getD k 0 ≤ (nsT s w).log.es.length + 1 := fun k hk hkw => by
 obtain ⟨g, hg, hn⟩ := h.sf.gst
 exact ⟨((h.kn w hw).ld hr).2.2.1 k (by omega) (by rw [show (nsT s w).me = ((w : Nat) : Int) from (hn w hw).me]; omega), (hn w hw).nx hr k⟩
theorem Hs.tmA (h : Hs many B c s) (hw : w < many) : ∀ i, tA (nsT s w).log.es i ≤ (nsT s w).tm := fun i => by
 obtain ⟨g, hg, hn⟩ := h.sf.gst
 exact (hn w hw).wn.2 i
theorem Hs.tmB (h : Hs many B c s) (hw : w < many) : (nsT s w).tm ≤ B := (h.gj.nd (i := w) (by rw [h.sf.ids.1]; exact hw)).bn.tm
theorem Hs.rl (h : Hs many B c s) (hw : w < many) : 0 ≤ (nsT s w).role ∧ (nsT s w).role ≤ 3 := by
 obtain ⟨g, hg, hn⟩ := h.sf.gst
 exact (hn w hw).rl
theorem Hs.id (h : Hs many B c s) (hw : w < many) : (nsT s w).me = ((w : Nat) : Int) ∧ (nsT s w).conf = cfN many := by
 obtain ⟨g, hg, hn⟩ := h.sf.gst
 exact ⟨(hn w hw).me, (hn w hw).conf⟩
theorem mul4 {a b : Nat} (ha : a ≤ 4) (hb : b ≤ 448) : a * b ≤ 1792 := Nat.le_trans (Nat.mul_le_mul ha hb) (by decide)
theorem round_lead (h5 : many ≤ 5) (hw : w < many) (h : Hs many B c s) (hB : B + 9000 < 1000000) (hc : c + 9000 < 1000000) (hr : (nsT s w).role = 3) (hN : ∀ k, k < many → Nwr (nsT s w).log.es (nsT s k).log.es) (hL : (nsT s w).log.es.length ≤ 110)
  (hcm : cm = 0 ∨ ∀ k, k < many → k ≠ w → cm ≤ (nsT s w).commit ∧ cm + 1 ≤ (nsT s w).next.getD k 0 ∧ (nsT s w).mat.getD k 0 + 1 = (nsT s w).next.getD k 0) (h1 : many = 1 → (nsT s w).log.es.length ≤ (nsT s w).commit ∨ cq) :
  ∃ s', Gs.rest 2501 (s.wake w) 0 = (s', true) ∧ Hs many (B + 9000) (c + 9000) s' ∧ (∀ k, k < many → (nsT s' k).tm ≤ (nsT s' w).tm) ∧ (∀ k, k < many → Nwr (nsT s' w).log.es (nsT s' k).log.es) ∧ (nsT s' w).log.es.length ≤ (nsT s w).log.es.length ∧
   ((∀ k, k < many → (nsT s k).tm ≤ (nsT s w).tm) → (nsT s' w).role = 3 ∧ (nsT s' w).log = (nsT s w).log ∧ (∀ k, k < many → k ≠ w → (nsT s' w).mat.getD k 0 = (nsT s' w).log.es.length ∧ (nsT s' w).next.getD k 0 = (nsT s' w).log.es.length + 1) ∧ ((nsT s' w).log.es.length ≤ (nsT s' w).commit ∨ cq) ∧ ∀ k, k < many → k ≠ w → cm ≤ (nsT s' k).commit) := by
 have hk := h.kn w hw
 have hB0 := h.tmB hw
 have hA := h.tmA hw
 have hnx := h.nxt h5 hw hr
 obtain ⟨hme, hcf⟩ := h.id hw
 have hwk : s.wake w = ({ s with ms := [] } : Gs).send (nsT s w).beat := by unfold Gs.wake; exact if_pos hr
 have hns : nsT (s.wake w) = nsT s := by rw [hwk]; funext k; unfold nsT; rw [send_ns]
 have hms : (s.wake w).ms = (othN many w).map (appM w (nsT s w)) := by
  rw [hwk, send0 rfl]
  exact beat_is hr hcf hme (by omega) hk.l0.1 fun k a b => by have := (hnx k a b).1; omega
 have W := RdW.beats (T := nsT s) (Lm := (nsT s w).log.es.length) hw (by omega) hr hk.l0 hnx hN (Nat.le_refl _) (fun i => by have := hA i; omega)
 have hb := mul4 (a := many - 1) (b := 4 * (nsT s w).log.es.length + 8) (by omega) (by omega)
 obtain ⟨s', f1, f2, f3, f4⟩ := rest_all (cm := cm) (cq := cq) (lg := some (nsT s w).log) (Lm := (nsT s w).log.es.length) hw (by omega) ((many - 1) * (4 * (nsT s w).log.es.length + 8)) 2501 (s.wake w) 0 (B + 3) (c + 1) (cst many w (appM w (nsT s w)) (4 * (nsT s w).log.es.length + 8)) (h.wake (by omega) hw (fun e => absurd hr e)) (by omega) (by omega) (by rw [hms, cst_fst]; rfl) (by omega) (by rw [hns]; exact W) (by omega) (Nat.zero_le _)
 refine ⟨s', f1, f2.mono (by omega) (by omega), fun k hk => f3.fin k hk, f3.nw, f3.lm.1, fun hs => ?_⟩
 have S := f4 (by rw [hns]; exact RdS.beats hr hs hcm h1 hw fun l e => Option.some.inj e)
 obtain ⟨a1, a2, a3, a4, a5⟩ := S.fin hw (f2.rl hw)
 exact ⟨a1, a5 _ rfl, a2, a3, a4⟩
theorem round_ask (h5 : many ≤ 5) (hw : w < many) (h : Hs many B c s) (hB : B + 9000 < 1000000) (hc : c + 9000 < 1000000) (hr : (nsT s w).role ≠ 3) (hN : ∀ k, k < many → Nwr (nsT s w).log.es (nsT s k).log.es) (hL : (nsT s w).log.es.length + 1 ≤ 110) (hh : ∀ k, k < many → (nsT s k).heard = false) :
  ∃ s', Gs.rest 2501 (s.wake w) 0 = (s', true) ∧ Hs many (B + 9000) (c + 9000) s' ∧ (∀ k, k < many → (nsT s' k).tm ≤ (nsT s' w).tm) ∧ (∀ k, k < many → Nwr (nsT s' w).log.es (nsT s' k).log.es) ∧ (nsT s' w).log.es.length ≤ (nsT s w).log.es.length + 1 ∧
   ((∀ k, k < many → (nsT s k).tm ≤ (nsT s w).tm) → (nsT s' w).role = 3 ∧ ∀ k, k < many → k ≠ w → (nsT s' w).mat.getD k 0 = (nsT s' w).log.es.length ∧ (nsT s' w).next.getD k 0 = (nsT s' w).log.es.length + 1) := by
 have hk := h.kn w hw
 have hB0 := h.tmB hw
 have hA := h.tmA hw
 obtain ⟨hme, hcf⟩ := h.id hw
 have hl : s.ns.length = many := h.sf.ids.1
 obtain ⟨n, hn⟩ : ∃ n, nsT s w = n := ⟨_, rfl⟩
 have hn0 : s.ns.getD w default = n := hn
 have hh0 : ({ n with heard := false } : Nd) = n := by rw [← hn, ← hh w hw]
 rw [hn] at hr hk hB0 hA hme hcf hN hL ⊢
 have hto : n.timeout = n.led n.askF := by
  unfold Nd.timeout
  rw [if_neg hr, if_neg (by rw [← hn, hh w hw]; decide)]
 have hwk : s.wake w = ({ s with ms := [], ns := s.ns.set w n.timeout.1 } : Gs).send n.timeout.2 := by
  unfold Gs.wake
  dsimp only
  rw [hn0, if_neg hr, hh0]
 have hns : nsT (s.wake w) = upd (nsT s) w n.timeout.1 := by rw [hwk]; exact nsT_set (s := { s with ms := [] }) (by show w < s.ns.length; rw [hl]; exact hw)
 have hms : (s.wake w).ms = n.timeout.2 := by rw [hwk]; exact send0 rfl _
 have hW := h.wake (by omega) hw (fun _ => hh w hw)
 have hpv : n.log.lastT < 1152921504606846976 := by rw [hk.l0.lastT]; have := hA n.log.es.length; omega
 have ek : ∀ (x : Nd) j, j ≠ w → upd (nsT s) w x j = nsT s j := fun x j hj => upd_ne _ _ hj
 by_cases ha : agrI (cfN many) [((w : Nat) : Int)] = true
 ·obtain ⟨n2, hn2⟩ : ∃ x, ({ n with role := 2, ld := -1, yes := [n.me], tm := n.tm + 1, vote := n.me } : Nd) = x := ⟨_, rfl⟩
  have hask : n.askF = (n2.lead, []) := by
   unfold Nd.askF
   rw [if_pos (by rw [hcf, hme]; exact hasI_cf hw)]
   dsimp only
   rw [if_pos (by rw [hcf, hme]; exact ha)]
   unfold Nd.askT
   rw [if_pos (by show hasI n.conf n.me = true; rw [hcf, hme]; exact hasI_cf hw)]
   dsimp only
   rw [if_pos (by show agrI n.conf [n.me] = true; rw [hcf, hme]; exact ha), ← hn2]
  obtain ⟨n', hn'⟩ : ∃ x, n2.lead = x := ⟨_, rfl⟩
  have f1 : n'.role = 3 := by rw [← hn']; rfl
  have f2 : n'.tm = n.tm + 1 := by rw [← hn', ← hn2]; rfl
  have f3 : n'.log = n.log.add ⟨n.tm + 1, 0, []⟩ := by rw [← hn', ← hn2]; rfl
  have f3e : n'.log.es = n.log.es ++ [(⟨n.tm + 1, 0, []⟩ : En)] := by rw [f3]; rfl
  have f4 : n'.next = List.replicate 16 (n.log.last + 1) := by rw [← hn', ← hn2]; rfl
  have f5 : n'.mat = (List.replicate 16 0).set n.me.toNat (n.log.last + 1) := by rw [← hn', ← hn2]; rfl
  have f6 : n'.conf = cfN many := by rw [← hn', ← hn2]; exact hcf
  have f7 : n'.me = ((w : Nat) : Int) := by rw [← hn', ← hn2]; exact hme
  have l0' : Lg0 n'.log := by rw [f3]; exact (hk.l0.add _).1
  have hL' : n'.log.es.length = n.log.es.length + 1 := by rw [f3e, List.length_append]; rfl
  have g4 : ∀ j, j < 16 → n'.next.getD j 0 = n.log.es.length + 1 := fun j hj => by rw [f4, rep_at hj, hk.l0.last]
  have g5 : ∀ j, j < 16 → j ≠ w → n'.mat.getD j 0 = 0 := fun j hj hjw => by rw [f5, hme, Int.toNat_natCast, set_gt, if_neg (fun e => hjw e.1.symm), rep_at hj]
  have htt : n.timeout = (n', n'.beat) := by
   rw [hto, hask, hn']
   unfold Nd.led
   rw [if_pos ⟨f1, .inl hr⟩]; rfl
  rw [htt] at hns hms
  have hbt := beat_is f1 f6 f7 (by omega) l0'.1 fun k a b => by rw [g4 k (by omega)]; omega
  have eT : upd (nsT s) w n' w = n' := upd_self _ _ _
  have hnx : ∀ k, k < many → k ≠ w → n'.mat.getD k 0 + 1 ≤ n'.next.getD k 0 ∧ n'.next.getD k 0 ≤ n'.log.es.length + 1 := fun k a b => by rw [g4 k (by omega), g5 k (by omega) b]; omega
  have hN' : ∀ k, k < many → Nwr n'.log.es (upd (nsT s) w n' k).log.es := fun k a => by
   by_cases e : k = w
   ·subst e; rw [upd_self]; exact Nwr.refl _
   ·rw [ek _ k e]
    have h1 := hN k a
    have h2 := hA n.log.es.length
    unfold Nwr at h1 ⊢
    rw [f3e, List.length_append, List.length_singleton, tA_end]
    show tA _ _ < n.tm + 1 ∨ _
    omega
  have tA' : ∀ i, tA n'.log.es i < 1152921504606846976 := fun i => by
   rw [f3e]
   have h1 := hA i
   by_cases d : i ≤ n.log.es.length
   ·rw [tA_app d]; omega
   ·by_cases d2 : i = n.log.es.length + 1
    ·rw [d2, tA_end]; show n.tm + 1 < _; omega
    ·rw [tA_out (by rw [List.length_append, List.length_singleton]; omega)]; decide
  have W := RdW.beats (T := upd (nsT s) w n') (many := many) (w := w) (Lm := n.log.es.length + 1) hw (by omega) (by rw [eT]; exact f1) (by rw [eT]; exact l0') (by rw [eT]; exact hnx) (by rw [eT]; exact hN') (by rw [eT]; omega) (by rw [eT]; exact tA')
  have hb := mul4 (a := many - 1) (b := 4 * (n.log.es.length + 1) + 8) (by omega) (by omega)
  obtain ⟨s', r1, r2, r3, r4⟩ := rest_all (cm := 0) (cq := True) (lg := none) (Lm := n.log.es.length + 1) hw (by omega) ((many - 1) * (4 * (n.log.es.length + 1) + 8)) 2501 (s.wake w) 0 (B + 3) (c + 1) (cst many w (appM w (upd (nsT s) w n' w)) (4 * (n.log.es.length + 1) + 8)) hW (by omega) (by omega) (by rw [hms, cst_fst, eT, hbt]; rfl) (by omega) (by rw [hns]; exact W) (by omega) (Nat.zero_le _)
  refine ⟨s', r1, r2.mono (by omega) (by omega), fun k hk => r3.fin k hk, r3.nw, r3.lm.1, fun hs => ?_⟩
  have S := r4 (by
   rw [hns]
   exact RdS.beats (by rw [eT]; exact f1) (fun k a => by
    rw [eT]
    by_cases e : k = w
    ·rw [e, eT]; exact Nat.le_refl _
    ·rw [ek _ k e, f2]; have := hs k a; omega) (.inl rfl) (fun _ => .inr trivial) hw fun l e => (by cases e))
  obtain ⟨a1, a2, -, -, -⟩ := S.fin hw (r2.rl hw)
  exact ⟨a1, a2⟩
 ·have ha' : agrI (cfN many) [((w : Nat) : Int)] = false := Bool.not_eq_true _ |>.mp ha
  obtain ⟨n', hn'⟩ : ∃ x, ({ n with role := 1, ld := -1, yes := [n.me] } : Nd) = x := ⟨_, rfl⟩
  have f1 : n'.role = 1 := by rw [← hn']
  have f2 : n'.tm = n.tm := by rw [← hn']
  have f3 : n'.log = n.log := by rw [← hn']
  have f6 : n'.conf = cfN many := by rw [← hn']; exact hcf
  have f7 : n'.me = ((w : Nat) : Int) := by rw [← hn']; exact hme
  have hask : n.askF = (n', n'.toAll { zMs with kind := 3, tm := n.tm + 1, index := n.log.last, prev := n.log.lastT }) := by
   unfold Nd.askF
   rw [if_pos (by rw [hcf, hme]; exact hasI_cf hw)]
   dsimp only
   rw [if_neg (by rw [hcf, hme, ha']; decide), ← hn']
  have htt : n.timeout = (n', (othN many w).map (preM w n')) := by
   rw [hto, hask, led_no (.inr (by show ¬ n'.role = 3; rw [f1]; decide))]
   congr 1
   unfold Nd.toAll
   rw [oth_is f6 f7, List.map_map, f7]
   unfold preM
   rw [f2, f3]; rfl
  rw [htt] at hns hms
  have eT : upd (nsT s) w n' w = n' := upd_self _ _ _
  have W := RdW.pres (T := upd (nsT s) w n') (many := many) (w := w) (Lm := n.log.es.length + 1) hw (by rw [eT]; exact f1) (by rw [eT, f3]; exact hk.l0) (fun k a => by
   rw [eT, f3]
   by_cases e : k = w
   ·rw [e, eT, f3]; exact Nwr.refl _
   ·rw [ek _ k e]; exact hN k a) (by rw [eT, f3]; exact Nat.le_refl _) (by rw [eT, f3]; exact hpv) ha'
  have hb := mul4 (a := many - 1) (b := 2 + (4 * (n.log.es.length + 1) + 8)) (by omega)
  have hb2 : (many - 1) * (2 + (4 * (n.log.es.length + 1) + 8)) ≤ 4 * 450 := Nat.mul_le_mul (by omega) (by omega)
  obtain ⟨s', r1, r2, r3, r4⟩ := rest_all (cm := 0) (cq := True) (lg := none) (Lm := n.log.es.length + 1) hw (by omega) ((many - 1) * 2 + (many - 1) * (2 + (4 * (n.log.es.length + 1) + 8))) 2501 (s.wake w) 0 (B + 3) (c + 1) (cst many w (preM w (upd (nsT s) w n' w)) 2) hW (by omega) (by omega) (by rw [hms, cst_fst, eT]; rfl) (by omega) (by rw [hns]; exact W) (by omega) (Nat.zero_le _)
  refine ⟨s', r1, r2.mono (by omega) (by omega), fun k hk => r3.fin k hk, r3.nw, r3.lm.1, fun hs => ?_⟩
  have S := r4 (by
   rw [hns]
   refine RdS.pres (by rw [eT]; exact f1) (by rw [eT, f3]; exact hk.l0) (fun k a => ?_) (fun k a b => by rw [ek _ k b]; exact hh k a) (by rw [eT, ← hn']; show [n.me] = _; rw [hme]) ha'
   rw [eT, f2]
   by_cases e : k = w
   ·rw [e, eT, f2]; exact Nat.le_refl _
   ·rw [ek _ k e]; exact hs k a)
  obtain ⟨a1, a2, -, -, -⟩ := S.fin hw (r2.rl hw)
  exact ⟨a1, a2⟩
end
end Go.Proofs.Ytmjccpfchhnfhaa
/- Raft heals, plainly (12): the whole of it. -/
namespace Go.Proofs.Ytmjccpfchhnfhaa
set_option linter.unusedVariables false
set_option linter.unusedSimpArgs false
def Nd.calm (n : Nd) : Nd := { n with heard := false }
def Gs.calm (s : Gs) : Gs := { s with ns := s.ns.map Nd.calm }
def newestTo (s : Gs) : Nat → Nat
 | 0 => 0
 | k + 1 => if (s.ns.getD (newestTo s k) default).log.newer (s.ns.getD (k + 1) default).log.lastT (s.ns.getD (k + 1) default).log.last = true then k + 1 else newestTo s k
def Gs.roundH (w : Nat) (s : Gs) : Gs := if ((Gs.rest 2501 (s.wake w) 0).1.ns.getD w default).role = 3 then (Gs.rest 2501 (s.wake w) 0).1 else (Gs.rest 2501 (s.wake w) 0).1.calm
def Gs.beatH (w : Nat) (s : Gs) : Gs := (Gs.rest 2501 (({ s with ms := [] } : Gs).send (s.ns.getD w default).beat) 0).1
section
variable {many w B c : Nat} {s : Gs}
theorem nsT_calm (s : Gs) (k : Nat) : nsT s.calm k = (nsT s k).calm := by
 unfold nsT Gs.calm
 show (s.ns.map Nd.calm).getD k default = _
 rw [List.getD_eq_getElem?_getD, List.getD_eq_getElem?_getD, List.getElem?_map]
 cases s.ns[k]? with
 | none => rfl
 | some n => rfl
theorem Hs.calm (h : Hs many B c s) : Hs many B c s.calm := by
 obtain ⟨hid, g, hg, hn, hm⟩ := h.sf
 have e : ∀ k, nsT s.calm k = (nsT s k).calm := nsT_calm s
 have eT : (fun j => s.calm.ns.getD j default) = fun j => (nsT s j).calm := by funext k; exact e k
 refine ⟨⟨⟨by show (s.ns.map Nd.calm).length = many; rw [List.length_map]; exact hid.1, fun i hi => ?_⟩, g, ?_, fun j hj => ?_, fun m q => ?_⟩, ⟨⟨fun n hn => ?_, h.gj.gi.ap, h.gj.gi.ms, h.gj.gi.ln⟩, by show 0 < (s.ns.map Nd.calm).length; rw [List.length_map]; exact h.gj.n0, by show (s.ns.map Nd.calm).length ≤ _; rw [List.length_map]; exact h.gj.n5, by show _ = (s.ns.map Nd.calm).length; rw [List.length_map]; exact h.gj.la, by show _ = (s.ns.map Nd.calm).length; rw [List.length_map]; exact h.gj.lt, h.gj.mn, h.gj.tk⟩, ⟨fun n hn => ?_, h.kg.2⟩, h.e8, fun i => ?_⟩
 ·have := hid.2 i hi
  have e1 : s.calm.ns.getD i default = (s.ns.getD i default).calm := e i
  rw [e1]; exact this
 ·rw [eT]
  exact ⟨hg.wl, hg.el, hg.vt, hg.vh, hg.ve, hg.ak⟩
 ·have e1 : s.calm.ns.getD j default = (s.ns.getD j default).calm := e j
  rw [e1]
  have := hn j hj
  exact ⟨this.me, this.conf, this.l0, this.wn, this.ld, this.vn, this.cd, this.ma, this.nx, this.ah, this.co, this.rl, this.m16⟩
 ·rw [eT]
  have := hm m q
  exact ⟨this.ad, this.k1, this.k2, this.k5, this.k6, this.k7⟩
 ·obtain ⟨x, hx, rfl⟩ := List.mem_map.1 hn
  have := h.gj.gi.nd x hx
  exact ⟨⟨this.bn.tm, this.bn.commit, this.bn.last, this.bn.n16, this.bn.m16, this.bn.nx, this.bn.mt⟩, this.es, this.ye, this.me, this.cf, this.pos⟩
 ·obtain ⟨x, hx, rfl⟩ := List.mem_map.1 hn
  have := h.kg.1 x hx
  exact this.keep rfl rfl rfl rfl rfl rfl
 ·have e1 : s.calm.ns.getD i default = (s.ns.getD i default).calm := e i
  rw [e1]; exact h.ap i
theorem Nwr.trans {a b d : List En} (h : Nwr a b) (k : Nwr b d) : Nwr a d := by
 unfold Nwr at *
 omega
theorem newest_le (s : Gs) : ∀ k, newestTo s k ≤ k
 | 0 => Nat.le_refl _
 | k + 1 => by
  unfold newestTo
  split
  ·exact Nat.le_refl _
  ·have := newest_le s k; omega
theorem newest_is (h : Hs many B c s) : ∀ k, k < many → ∀ j, j ≤ k → Nwr (nsT s (newestTo s k)).log.es (nsT s j).log.es
 | 0, hk, j, hj => by
  have : j = 0 := by omega
  subst this
  exact Nwr.refl _
 | k + 1, hk, j, hj => by
  have ih := newest_is h k (by omega)
  have l0 := (h.kn (newestTo s k) (by have := newest_le s k; omega)).l0
  have l1 := (h.kn (k + 1) hk).l0
  unfold newestTo
  split
  ·rename_i q
   have q' : (nsT s (newestTo s k)).log.newer (nsT s (k + 1)).log.lastT (nsT s (k + 1)).log.last = true := q
   rw [l0.newer, l1.lastT, l1.last] at q'
   have nn : Nwr (nsT s (k + 1)).log.es (nsT s (newestTo s k)).log.es := by unfold Nwr; omega
   by_cases e : j = k + 1
   ·subst e; exact Nwr.refl _
   ·exact nn.trans (ih j (by omega))
  ·rename_i q
   by_cases e : j = k + 1
   ·subst e
    have q' : ¬ (nsT s (newestTo s k)).log.newer (nsT s (k + 1)).log.lastT (nsT s (k + 1)).log.last = true := q
    rw [l0.newer, l1.lastT, l1.last] at q'
    unfold Nwr; omega
   ·exact ih j (by omega)
structure Hl (many w B c i : Nat) (s : Gs) : Prop where
 h : Hs many (B + 9000 * i) (c + 9000 * i) s
 nw : ∀ k, k < many → Nwr (nsT s w).log.es (nsT s k).log.es
 le : (nsT s w).log.es.length ≤ c + i
 hd : (nsT s w).role ≠ 3 → ∀ k, k < many → (nsT s k).heard = false
 tm : 1 ≤ i → ∀ k, k < many → (nsT s k).tm ≤ (nsT s w).tm
 ld : 2 ≤ i → (nsT s w).role = 3 ∧ ∀ k, k < many → k ≠ w → (nsT s w).mat.getD k 0 = (nsT s w).log.es.length ∧ (nsT s w).next.getD k 0 = (nsT s w).log.es.length + 1
theorem Hl.next {i : Nat} (h5 : many ≤ 5) (hw : w < many) (hB : B ≤ 1000) (hc : c ≤ 100) (hi : i < 4) (h : Hl many w B c i s) : (Gs.rest 2501 (s.wake w) 0).2 = true ∧ Hl many w B c (i + 1) (s.roundH w) := by
 have hle := h.le
 by_cases hr : (nsT s w).role = 3
 ·obtain ⟨s', r1, r2, r3, r4, r5, r6⟩ := round_lead (cm := 0) (cq := True) h5 hw h.h (by omega) (by omega) hr h.nw (by omega) (.inl rfl) (fun _ => .inr trivial)
  rw [r1]
  refine ⟨rfl, ?_⟩
  unfold Gs.roundH
  rw [r1]
  dsimp only
  by_cases hr' : (s'.ns.getD w default).role = 3
  ·rw [if_pos hr']
   exact ⟨r2.mono (by omega) (by omega), r4, by omega, fun e => absurd hr' e, fun _ => r3, fun e => ⟨hr', (r6 (h.tm (by omega))).2.2.1⟩⟩
  ·rw [if_neg hr']
   have ec := nsT_calm s'
   refine ⟨(r2.mono (by omega) (by omega)).calm, fun k hk => by rw [ec, ec]; exact r4 k hk, by rw [ec]; show (nsT s' w).log.es.length ≤ _; omega, fun _ k hk => by rw [ec]; rfl, fun _ k hk => by rw [ec, ec]; exact r3 k hk, fun e => ?_⟩
   exact absurd (r6 (h.tm (by omega))).1 hr'
 ·obtain ⟨s', r1, r2, r3, r4, r5, r6⟩ := round_ask h5 hw h.h (by omega) (by omega) hr h.nw (by omega) (h.hd hr)
  rw [r1]
  refine ⟨rfl, ?_⟩
  unfold Gs.roundH
  rw [r1]
  dsimp only
  by_cases hr' : (s'.ns.getD w default).role = 3
  ·rw [if_pos hr']
   exact ⟨r2.mono (by omega) (by omega), r4, by omega, fun e => absurd hr' e, fun _ => r3, fun e => ⟨hr', (r6 (h.tm (by omega))).2⟩⟩
  ·rw [if_neg hr']
   have ec := nsT_calm s'
   refine ⟨(r2.mono (by omega) (by omega)).calm, fun k hk => by rw [ec, ec]; exact r4 k hk, by rw [ec]; show (nsT s' w).log.es.length ≤ _; omega, fun _ k hk => by rw [ec]; rfl, fun _ k hk => by rw [ec, ec]; exact r3 k hk, fun e => ?_⟩
   exact absurd (r6 (h.tm (by omega))).1 hr'
theorem Hs.com_le (h : Hs many B c s) (hw : w < many) (hr : (nsT s w).role = 3) (ht : ∀ k, k < many → (nsT s k).tm ≤ (nsT s w).tm) {k : Nat} (hk : k < many) : (nsT s k).commit ≤ (nsT s w).log.es.length := by
 obtain ⟨g, hg, hn⟩ := h.sf.gst
 have hl := (hn w hw).ld hr
 rcases (hn k hk).co with q | ⟨t, ht2, i, hch, hle, -⟩
 ·have q' : (nsT s k).commit = 0 := q
  omega
 ·have h1 := ht k hk
  have ht2' : t ≤ (nsT s k).tm := ht2
  have hle' : (nsT s k).commit ≤ i := hle
  by_cases e : t = (nsT s w).tm
  ·obtain ⟨c0, l, e1, -, e2, -, -⟩ := hch
   rw [e] at e1
   have hl' : g.L (nsT s w).tm = some (w, (nsT s w).log.es) := hl
   rw [hl'] at e1
   cases e1
   omega
  ·obtain ⟨c0, l, e1, p⟩ := hg.lc hch (nsT s w).tm (by omega) w (nsT s w).log.es hl
   have := p.2.1
   omega
structure Bl (many w B c i at' : Nat) (s : Gs) : Prop where
 h : Hs many (B + 9000 * i) (c + 9000 * i) s
 nw : ∀ k, k < many → Nwr (nsT s w).log.es (nsT s k).log.es
 ro : (nsT s w).role = 3
 le : (nsT s w).log.es.length = at'
 l1 : 1 ≤ at' ∧ at' ≤ 110
 tm : ∀ k, k < many → (nsT s k).tm ≤ (nsT s w).tm
 o1 : many = 1 → at' ≤ (nsT s w).commit
 ap : ∀ k, s.aps.getD k 0 < at'
 b1 : 1 ≤ i → (at' ≤ (nsT s w).commit) ∧ ∀ k, k < many → k ≠ w → (nsT s w).mat.getD k 0 = at' ∧ (nsT s w).next.getD k 0 = at' + 1
 b2 : 2 ≤ i → ∀ k, k < many → k ≠ w → at' ≤ (nsT s k).commit
theorem rest_aps : ∀ (fu : Nat) (s : Gs) (k : Nat), (Gs.rest fu s k).1.aps = s.aps
 | 0, s, k => rfl
 | fu + 1, s, k => by
  unfold Gs.rest
  split
  ·rfl
  ·rw [rest_aps fu]
   unfold Gs.arrive
   dsimp only
   split
   ·rfl
   ·unfold Gs.send; split <;> rfl
theorem Bl.next {i at' : Nat} (h5 : many ≤ 5) (hw : w < many) (hB : B ≤ 100000) (hc : c ≤ 100000) (hi : i < 3) (h : Bl many w B c i at' s) : (Gs.rest 2501 (({ s with ms := [] } : Gs).send (s.ns.getD w default).beat) 0).2 = true ∧ Bl many w B c (i + 1) at' (s.beatH w) := by
 have hwk : s.wake w = ({ s with ms := [] } : Gs).send (s.ns.getD w default).beat := by unfold Gs.wake; exact if_pos h.ro
 have hl1 := h.l1
 have hle := h.le
 obtain ⟨cm, hcm⟩ : ∃ x, x = if 1 ≤ i then at' else 0 := ⟨_, rfl⟩
 obtain ⟨s', r1, r2, r3, r4, r5, r6⟩ := round_lead (cm := cm) (cq := False) h5 hw h.h (by omega) (by omega) h.ro h.nw (by omega) (by
  by_cases e : 1 ≤ i
  ·rw [if_pos e] at hcm
   refine .inr fun k hk hkw => ?_
   obtain ⟨a1, a2⟩ := h.b1 e
   obtain ⟨a3, a4⟩ := a2 k hk hkw
   omega
  ·rw [if_neg e] at hcm; exact .inl hcm) (fun e => .inl (by have := h.o1 e; omega))
 obtain ⟨a1, a2, a3, a4, a5⟩ := r6 h.tm
 have a4' : (nsT s' w).log.es.length ≤ (nsT s' w).commit := a4.elim id fun e => e.elim
 rw [← hwk, r1]
 refine ⟨rfl, ?_⟩
 have hs' : s.beatH w = s' := by unfold Gs.beatH; rw [← hwk, r1]
 rw [hs']
 have e2 : (nsT s' w).log.es.length = at' := by rw [a2]; exact hle
 have eap : s'.aps = s.aps := by
  have := rest_aps 2501 (s.wake w) 0
  rw [r1, hwk] at this
  rw [this]
  unfold Gs.send; split <;> rfl
 refine ⟨r2.mono (by omega) (by omega), r4, a1, e2, hl1, r3, fun _ => by omega, fun k => by rw [eap]; exact h.ap k, fun _ => ⟨by omega, fun k hk hkw => by have := a3 k hk hkw; rw [e2] at this; exact this⟩, fun e k hk hkw => ?_⟩
 have := a5 k hk hkw
 rw [hcm, if_pos (by omega)] at this
 exact this
theorem Bl.end {at' : Nat} (hw : w < many) (h5 : many ≤ 5) (h : Bl many w B c 3 at' s) {k : Nat} (hk : k < many) : (nsT s k).commit = at' ∧ at' ≤ (nsT s k).log.es.length ∧ Lg0 (nsT s k).log ∧ s.aps.getD k 0 < at' := by
 have hle := h.le
 have hc : at' ≤ (nsT s k).commit := by
  by_cases e : k = w
  ·rw [e]; exact (h.b1 (by omega)).1
  ·exact h.b2 (by omega) k hk e
 obtain ⟨c1, l0⟩ := h.h.sf.com hk
 have c1' : (nsT s k).commit ≤ (nsT s k).log.es.length := c1
 have c2 := h.h.com_le hw h.ro h.tm hk
 exact ⟨by omega, by omega, l0, h.ap k⟩
theorem Hl.prop (h5 : many ≤ 5) (hw : w < many) (hB : B ≤ 1000) (hc : c ≤ 100) (h : Hl many w B c 4 s) : (nsT s w).role = 3 ∧ ((nsT s w).propose 1 [255]).2.2 = 0 ∧ ((nsT s w).propose 1 [255]).2.1 = (nsT s w).log.es.length + 1 ∧
  Bl many w (B + 36010) (c + 36010) 0 ((nsT s w).log.es.length + 1) { s with ns := s.ns.set w ((nsT s w).propose 1 [255]).1 } := by
 have hH := h.h
 have hle := h.le
 obtain ⟨hr, hmn⟩ := h.ld (by omega)
 have hl : s.ns.length = many := hH.sf.ids.1
 have hk := hH.kn w hw
 obtain ⟨hme, hcf⟩ := hH.id hw
 obtain ⟨n, hn⟩ : ∃ n, nsT s w = n := ⟨_, rfl⟩
 have hn0 : s.ns.getD w default = n := hn
 rw [hn] at hr hk hme hcf hle hmn ⊢
 obtain ⟨n2, hn2⟩ : ∃ x, ({ n with log := n.log.add ⟨n.tm, 1, [255]⟩, mat := n.mat.set n.me.toNat (n.log.last + 1) } : Nd) = x := ⟨_, rfl⟩
 have hp : n.propose 1 [255] = (n2.sure, n.log.last + 1, 0) := by
  unfold Nd.propose
  rw [if_neg (fun e => e hr), if_neg (by decide), if_neg (by decide), hn2]
 obtain ⟨q1, q2, q3, q4, q5, q6, q7⟩ := sure_rest n2
 have f1 : n2.sure.role = 3 := q1.trans (by rw [← hn2]; exact hr)
 have f2 : n2.sure.tm = n.tm := q2.trans (by rw [← hn2])
 have f3 : n2.sure.log.es = n.log.es ++ [(⟨n.tm, 1, [255]⟩ : En)] := by rw [q3, ← hn2]; rfl
 have hL : n2.sure.log.es.length = n.log.es.length + 1 := by rw [f3, List.length_append]; rfl
 have e0 : nsT ({ s with ns := s.ns.set w n2.sure } : Gs) = upd (nsT s) w n2.sure := by
  have := nsT_set (s := s) (n := n2.sure) (l := []) (j := w) (by rw [hl]; exact hw)
  rw [send_nil] at this
  exact this
 have eT : upd (nsT s) w n2.sure w = n2.sure := upd_self _ _ _
 have ek : ∀ j, j ≠ w → upd (nsT s) w n2.sure j = nsT s j := fun j hj => upd_ne _ _ hj
 rw [hp, hk.l0.last]
 refine ⟨hr, rfl, rfl, ?_⟩
 dsimp only
 have hKn : Kn (c + 9000 * 4 + 1) (n.propose 1 [255]).1 := hk.propose 1 [255]
 rw [hp] at hKn
 have hgw := hH.gj.nd (i := w) (by rw [hl]; exact hw)
 rw [hn0] at hgw
 have hpb := Nd.propose_b hgw.bn 1 [255]
 have hpy : (n.propose 1 [255]).1.yes.length ≤ B + 9000 * 4 + 1 := by rw [Nd.propose_y]; have := hgw.ye; omega
 have hpu := Nd.propose_up n 1 [255]
 have hsf := hH.sf.propose (by omega) hw 1 [255]
 rw [hn0] at hsf
 have hg1 : GJ (B + 9000 * 4 + 1) ({ s with ns := s.ns.set w (n.propose 1 [255]).1 } : Gs) := (hH.gj.mono (by omega)).node (hgw.ofGd ((hgw.gd (Nat.le_refl _)).up hpu hpb hpy) hpu.conf)
 rw [hp] at hsf hg1 hpu
 have hap := ap_node (s := s) (j := w) (n := n2.sure) (l := []) hH.ap (by rw [hn0]; exact hpu.commit)
 rw [send_nil] at hap
 have HS : Hs many (B + 36010) (c + 36010) ({ s with ns := s.ns.set w n2.sure } : Gs) := by
  refine ⟨hsf, hg1.mono (by omega), ⟨fun x hx => ?_, fun m hm => (hH.kg.2 m hm).mono (by omega)⟩, hH.e8, hap⟩
  rcases List.mem_or_eq_of_mem_set hx with hx | hx
  ·exact (hH.kg.1 x hx).mono (by omega)
  ·rw [hx]; exact hKn.mono (by omega)
 have htm := h.tm (by omega)
 refine ⟨HS.mono (by omega) (by omega), fun k hk' => ?_, by rw [e0, eT]; exact f1, by rw [e0, eT]; exact hL, ⟨by omega, by omega⟩, fun k hk' => ?_, fun e => ?_, fun k => ?_, fun e => by omega, fun e => by omega⟩
 ·rw [e0, eT]
  by_cases e : k = w
  ·subst e; rw [upd_self]; exact Nwr.refl _
  ·rw [ek k e]
   have h1 := h.nw k hk'
   rw [hn] at h1
   have h2 := hH.tmA hw n.log.es.length
   rw [hn] at h2
   unfold Nwr at h1 ⊢
   rw [f3, List.length_append, List.length_singleton, tA_end]
   show tA _ _ < n.tm ∨ (n.tm = _ ∧ _)
   omega
 ·rw [e0, eT, f2]
  by_cases e : k = w
  ·subst e; rw [upd_self, f2]; exact Nat.le_refl _
  ·rw [ek k e]
   have := htm k hk'
   rw [hn] at this
   exact this
 ·rw [e0, eT]
  have := sure_ge (many := many) (n := n2) (by rw [← hn2]; exact hcf) (by omega) (by rw [← hn2]; show (n.mat.set _ _).length = 16; rw [List.length_set]; exact hk.m16) (by omega) (by rw [← hn2]; exact (hk.l0.add _).1) (by rw [← hn2]; exact hr) (by rw [← q3, f3, List.length_append, List.length_singleton, tA_end, ← hn2]) fun j hj => by
   have ej : j = w := by omega
   rw [ej, ← q3, hL, ← hn2]
   show (n.mat.set n.me.toNat (n.log.last + 1)).getD w 0 = _
   rw [hme, Int.toNat_natCast, set_gt, if_pos ⟨rfl, by rw [hk.m16]; omega⟩, hk.l0.last]
  rw [← q3, hL] at this
  exact this
 ·show s.aps.getD k 0 < _
  have h1 := hH.ap k
  by_cases hk' : k < many
  ·have h2 := hH.com_le hw (by rw [hn]; exact hr) htm hk'
   rw [hn] at h2
   have h3 : s.aps.getD k 0 ≤ (nsT s k).commit := h1
   omega
  ·rw [List.getD_eq_getElem?_getD, List.getElem?_eq_none (by rw [hH.gj.la, hl]; omega)]
   show 0 < _
   omega
end
end Go.Proofs.Ytmjccpfchhnfhaa
