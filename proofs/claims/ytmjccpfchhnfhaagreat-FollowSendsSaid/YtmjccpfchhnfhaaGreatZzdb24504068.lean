/- Texts of the proofs, part 32: what the functions that they reach do, walked; no conditions beyond those that each states. -/
import Derived.Defers
import Derived.Test.YtmjccpfchhnfhaaGreatZz7dc4cd1d33
import Derived.Test.YtmjccpfchhnfhaaGreatZz1e411a66d3
set_option linter.unusedVariables false
set_option linter.unusedSimpArgs false
/- follow: Sure (printed by fl2.py). -/
namespace Go.Proofs.YtmjccpfchhnfhaaGreat
open Go.RowKit
set_option linter.unusedVariables false
set_option linter.unusedSimpArgs false
def CallsB (P : Program) (f : FuncId) (args : Array Value) (w : World) (R : Ending → World → Prop) : Prop := Calls P f args w R ∧ ∀ u, CallsD P f args u w fun e u' w' => u' = u ∧ R e w'
theorem callsB_of_wp {P : Program} {f : FuncId} {fn : Func} {c : Code} {args : Array Value} {w : World} {R : Ending → World → Prop} (hf : P.funcs[f]? = some fn) (hb : fn.body = some c)
  (h : c.wp P (bodyPost P fn R) { tmps := args ++ Array.replicate (fn.ntmps - args.size) undef, defers := [] } w) : CallsB P f args w R := ⟨calls_of_wp hf hb h, fun u => callsD_of_wp hf hb h⟩
theorem atU_pos {l : List Nat} (x : Int) : 0 ≤ atU (l.map fun (x : Nat) => (x : Int)) x := by
 unfold atU
 split
 ·rw [List.getD_eq_getElem?_getD, List.getElem?_map]
  cases l[x.toNat]? with
  | none => exact Int.le_refl _
  | some y => exact Int.natCast_nonneg y
 ·exact Int.le_refl _
theorem reach_pos {l : List Nat} (zs : List Int) (h : 0 < zs.length) : 0 ≤ midV (reachL zs (l.map fun (x : Nat) => (x : Int)) zs.length) := by
 have hm := mid_mem (l := reachL zs (l.map fun (x : Nat) => (x : Int)) zs.length) (by rw [reachL_len _ _ _ (Nat.le_refl _)]; exact h)
 unfold reachL at hm ⊢
 obtain ⟨x, _, e⟩ := List.mem_map.1 hm
 rw [← e]
 exact atU_pos x
section
variable {X P : Nat → Prop} {w w' : World} {b : Nat} {n n' : Nd} {q q' : NV}
theorem PNs.reach [Old] (h : PNs X P w b n q) (hcf : 0 < n.conf.length ∧ n.conf.length ≤ 16) (hpos : ∀ x ∈ n.conf, 0 ≤ x) : Calls Tryz.prog 77 #[q.vc, .slice (some ⟨q.bm, 0, none⟩) 16 q.cm] w fun e w' => e = .returned (.int .u64 (n.reach : Nat)) ∧ Fr (fun _ _ => True) w w' := by
 obtain ⟨a, c, e⟩ := h.cf.form
 have hc := h.cf
 rw [e] at hc
 obtain ⟨b1, off, rfl⟩ := hc.addr hcf.1
 rw [e]
 refine (reached_calls w b1 off c _ n.conf _ hc (h.mt.nums (c := q.cm)) (by rw [List.length_map, h.mt.1]; unfold maxLen; decide) hcf.1 hcf.2 hpos).mono fun e w' ⟨h1, h2⟩ => ⟨?_, ?_⟩
 ·rw [h1]
  have := reach_pos (l := n.mat) n.conf hcf.1
  unfold Nd.reach
  rw [Int.toNat_of_nonneg this]
 ·exact Fr.within (h2.mono fun c _ q => q.2)
set_option maxRecDepth 100000 in
set_option maxHeartbeats 4000000 in
theorem sureR_both [Old] (h : PNs X P w b n q) (hr : n.role ≠ 3) (hcf : 0 < n.conf.length ∧ n.conf.length ≤ 16) (hpos : ∀ x ∈ n.conf, 0 ≤ x) (hl : n.log.last + 1 < 18446744073709551616) :
  CallsB Tryz.prog 25 #[.pointer (some ⟨b, 0, none⟩)] w fun e w' => e = .returned (.tuple #[]) ∧ PNs X P w' b n.sure q ∧ Fr (fun c _ => c ≠ b) w w' := by
 have E : n.sure = n := if_neg (fun e => hr e.1)
 rw [E]
 have x2 := (h.cells (Fr.refl _ w)).2.2.1
 obtain ⟨ro, hro⟩ : ∃ x, n.role = x := ⟨_, rfl⟩
 rw [hro] at x2 hr
 have g1 : (ro == 3) = false := by simpa using hr
 have g2 : (ro != 3) = true := by rw [bne, g1]; rfl
 have H := Lib.hid h
 clear h hr hro E hpos hl hcf
 refine callsB_of_wp Tryz.func25 rfl ?_
 simp only [Tryz.ntmps25, List.size_toArray, List.length_cons, List.length_nil, Nat.reduceAdd, Nat.reduceSub, Array.replicate_succ, Array.replicate_zero, List.push_toArray, List.append_toArray, List.nil_append, List.cons_append]
 go_wp2
 (try simp only [Exit.inBlock, Exit.then])
 refine bodyPost_ret (results_none rfl _ _ _) rfl ?_
 exact ⟨rfl, H.out, Fr.refl _ _⟩
set_option maxRecDepth 100000 in
set_option maxHeartbeats 4000000 in
theorem sureL_both [Old] (h : PNs X P w b n q) (hr : n.role = 3) (hcf : 0 < n.conf.length ∧ n.conf.length ≤ 16) (hpos : ∀ x ∈ n.conf, 0 ≤ x) (hl : n.log.last + 1 < 18446744073709551616) :
  CallsB Tryz.prog 25 #[.pointer (some ⟨b, 0, none⟩)] w fun e w' => e = .returned (.tuple #[]) ∧ PNs X P w' b n.sure q ∧ Fr (fun c _ => c ≠ b) w w' := by
 obtain ⟨ae, le, ce, hve, hle, hes, hlg⟩ := h.lg
 have RC0 : ∀ W, Fr (fun _ _ => True) w W → Calls Tryz.prog 77 #[q.vc, .slice (some ⟨q.bm, 0, none⟩) 16 q.cm] W fun e w' => e = .returned (.int .u64 (n.reach : Nat)) ∧ Fr (fun _ _ => True) W w' := fun W f => (h.tt f).reach hcf hpos
 obtain ⟨bs, hbs⟩ : ∃ x, n.log.base = x := ⟨_, rfl⟩
 obtain ⟨bt, hbt⟩ : ∃ x, n.log.bt = x := ⟨_, rfl⟩
 obtain ⟨tm, htm⟩ : ∃ x, n.tm = x := ⟨_, rfl⟩
 obtain ⟨cm, hcm⟩ : ∃ x, n.commit = x := ⟨_, rfl⟩
 obtain ⟨bm, hbm⟩ : ∃ x, q.bm = x := ⟨_, rfl⟩
 obtain ⟨km, hkm⟩ : ∃ x, q.cm = x := ⟨_, rfl⟩
 obtain ⟨vc, hvc⟩ : ∃ x, q.vc = x := ⟨_, rfl⟩
 obtain ⟨r, hrr⟩ : ∃ x, n.reach = x := ⟨_, rfl⟩
 obtain ⟨pt, hpt⟩ : ∃ x, (n.log.term r).1 = x := ⟨_, rfl⟩
 obtain ⟨pk, hpk⟩ : ∃ x, (n.log.term r).2 = x := ⟨_, rfl⟩
 have hl2 : bs + le + 1 < 18446744073709551616 := by unfold Lg.last at hl; omega
 rw [hvc, hbm, hkm, hrr] at RC0
 have RC := Lib.hid RC0
 have TC := Lib.hid (fun W (f : Fr (fun _ _ => True) w W) => tterm_calls W bs bt r ae le ce q.es (hes W f).row (by omega))
 rw [show lgE bs bt q.es = n.log by rw [← hbs, ← hbt]; exact hlg, hpt, hpk] at TC
 have CC : Hid (∀ W, Fr (fun _ _ => True) w W → W.cell? ⟨b, 4, none⟩ = some vc ∧ W.cell? ⟨b, 6, none⟩ = some (.int .u64 (tm : Nat)) ∧ W.cell? ⟨b, 7, none⟩ = some (.int .u64 (cm : Nat)) ∧ W.cell? ⟨b, 8, none⟩ = some (.int .u64 (bs : Nat)) ∧ W.cell? ⟨b, 9, none⟩ = some (.int .u64 (bt : Nat)) ∧ W.cell? ⟨b, 10, none⟩ = some (.slice ae le ce) ∧ W.cell? ⟨b, 13, none⟩ = some (.slice (some ⟨bm, 0, none⟩) 16 km)) := fun W f => by
  obtain ⟨x0, x1, x2, x3, x4, x5, x6, x7, x8, x9, x10, x11, x12, x13⟩ := h.cells f
  exact ⟨by rw [x4, hvc], by rw [x6, htm], by rw [x7, hcm], by rw [x8, hbs], by rw [x9, hbt], by rw [x10, hve], by rw [x13, hbm, hkm]⟩
 have CON : (n.role = 3 ∧ n.log.term n.reach = (n.tm, true) ∧ n.commit < n.reach) ↔ (pk = true ∧ pt = tm ∧ cm < r) := by
  rw [hrr, htm, hcm, ← hpk, ← hpt, Prod.ext_iff]
  exact ⟨fun e => ⟨e.2.1.2, e.2.1.1, e.2.2⟩, fun e => ⟨hr, ⟨e.2.1, e.1⟩, e.2.2⟩⟩
 have hs1 : n.sure = if n.role = 3 ∧ n.log.term n.reach = (n.tm, true) ∧ n.commit < n.reach then { n with commit := n.reach } else n := rfl
 rw [hrr] at hs1 CON
 have H := Lib.hid h
 have x2 := (h.cells (Fr.refl _ w)).2.2.1
 rw [hr] at x2
 have UD : Hid (Fr (fun _ _ => True) w w.drew) := (Fr.refl _ _).drew
 have HS := Lib.hid hs1
 have HC := Lib.hid CON
 clear h hr hpos hcf hl hve hle hes hlg RC0 hbs hbt htm hcm hbm hkm hvc hrr hpt hpk hl2 CON hs1
 dsimp only [vL] at TC
 refine callsB_of_wp Tryz.func25 rfl ?_
 simp only [Tryz.ntmps25, List.size_toArray, List.length_cons, List.length_nil, Nat.reduceAdd, Nat.reduceSub, Array.replicate_succ, Array.replicate_zero, List.push_toArray, List.append_toArray, List.nil_append, List.cons_append]
 go_wp2_with fail
 clear x2
 refine wp_region_cf_all (K := fun _ _ => True) (by kernel_rfl) [(10, 0), (11, 1), (12, 2), (13, 3), (14, 4), (15, 5), (16, 6), (17, 7), (18, 8), (2, 9)] [(0, []), (1, [0]), (2, [1]), (3, [2]), (4, []), (5, [4]), (6, [5]), (7, [6]), (9, [8]), (8, [3, 7])] (ckR [(0, .pointer (some ⟨b, 0, none⟩)), (1, .pointer (some ⟨b, 0, none⟩)), (2, .pointer (some ⟨b, 4, none⟩)), (3, vc), (4, .pointer (some ⟨b, 0, none⟩)), (5, .pointer (some ⟨b, 0, none⟩)), (6, .pointer (some ⟨b, 13, none⟩)), (7, .slice (some ⟨bm, 0, none⟩) 16 km), (8, .int .u64 (r : Nat)), (9, .int .u64 (r : Nat))] [] 10 0) (by kernel_rfl) (by kernel_rfl) (by kernel_rfl) rfl ?cfall (by kernel_rfl) ?cfend
 case cfall =>
  iterate 9
   refine CfAll.kk rfl rfl rfl (fun xs W hF hE K' hK => ?_) ?_
   ·have HF := Lib.hid hF
    clear hF
    simp only [ckEqs, ckLook, Nat.reduceBEq] at hE
    simp only [fillA, fillL, sA, sB, sC, Act.put, hE] at hK ⊢
    clear hE
    obtain ⟨y4, y6, y7, y8, y9, y10, y13⟩ := CC.out W (UD.out.trans HF.out)
    (try simp only [gA, gB, gC])
    go_simp
    exact hK.out _ rfl
  refine CfAll.k rfl rfl (fun xs W hF hA hE K' hK => ?_) ?_
  ·have HF := Lib.hid hF
   clear hA hF
   simp only [ckEqs, ckLook, Nat.reduceBEq] at hE
   simp only [fillA, fillL, sA, sB, sC, Act.put, hE] at hK ⊢
   clear hE
   have RC1 := Lib.hid (RC.out W (UD.out.trans HF.out))
   (try simp only [gA, gB, gC])
   go_simp
   (with_reducible refine RC1.out.mono ?_)
   rintro e w8 ⟨rfl, f8⟩
   exact hK.out _ _ _ rfl f8 rfl
  exact CfAll.nil
 case cfend =>
  intro xs W hF hA
  have HF := Lib.hid hF
  have hE := ckEnd rfl hA
  clear hA hF
  simp only [List.map_cons, List.map_nil, ckEqs, ckLook, Nat.reduceBEq] at hE
  simp only [fillA, fillL, sA, sB, sC, hE]
  clear hE
  have FB := Lib.hid (UD.out.trans HF.out)
  obtain ⟨y4, y6, y7, y8, y9, y10, y13⟩ := CC.out W FB.out
  clear RC HF
  cases pk with
  | false =>
   have E : Hid (n.sure = n) := HS.out.trans (if_neg (fun e => by have := (HC.out.1 e).1; cases this))
   clear HS HC
   go_wp2_with fail
   (with_reducible refine (TC.out W FB.out).mono ?_)
   rintro e wc ⟨rfl, f2⟩
   have FC := Lib.hid (FB.out.trans f2)
   clear TC f2 y4 y6 y7 y8 y9 y10 y13
   obtain ⟨y4, y6, y7, y8, y9, y10, y13⟩ := CC.out wc FC.out
   go_wp2
   go_end0
   rw [E.out]
   exact ⟨rfl, H.out.tt FC.out, FC.out.mono fun _ _ _ => trivial⟩
  | true =>
   by_cases he : pt = tm
   ·subst he
    have g1 : ((pt : Int) == (pt : Int)) = true := by simp
    by_cases hlt : cm < r
    ·have g2 : decide (cm < r) = true := decide_eq_true hlt
     have E : Hid (n.sure = { n with commit := r }) := HS.out.trans (if_pos (HC.out.2 ⟨rfl, rfl, hlt⟩))
     clear HS HC hlt
     go_wp2_with fail
     (with_reducible refine (TC.out W FB.out).mono ?_)
     rintro e wc ⟨rfl, f2⟩
     have FC := Lib.hid (FB.out.trans f2)
     clear TC f2 y4 y6 y7 y8 y9 y10 y13
     obtain ⟨y4, y6, y7, y8, y9, y10, y13⟩ := CC.out wc FC.out
     have z7 := H.out.free FC.out 7
     go_wp2
     go_end0
     rw [E.out]
     exact ⟨rfl, (H.out.tt FC.out).re (sets_fr b [(7, .int .u64 (r : Nat))] wc) (sets_heap [(7, .int .u64 (r : Nat))] (FC.out.keep _ _ H.out.top trivial)) ⟨rfl, rfl⟩ (.inl ⟨rfl, rfl⟩) ⟨rfl, rfl, rfl⟩ ⟨rfl, rfl, rfl, rfl⟩, (FC.out.mono fun _ _ _ => trivial).trans (sets_fr b [(7, .int .u64 (r : Nat))] wc)⟩
    ·have g2 : decide (cm < r) = false := decide_eq_false hlt
     have E : Hid (n.sure = n) := HS.out.trans (if_neg (fun e => hlt (HC.out.1 e).2.2))
     clear HS HC hlt
     go_wp2_with fail
     (with_reducible refine (TC.out W FB.out).mono ?_)
     rintro e wc ⟨rfl, f2⟩
     have FC := Lib.hid (FB.out.trans f2)
     clear TC f2 y4 y6 y7 y8 y9 y10 y13
     obtain ⟨y4, y6, y7, y8, y9, y10, y13⟩ := CC.out wc FC.out
     go_wp2
     go_end0
     rw [E.out]
     exact ⟨rfl, H.out.tt FC.out, FC.out.mono fun _ _ _ => trivial⟩
   ·have g1 : ((pt : Int) == (tm : Int)) = false := by simp; omega
    have E : Hid (n.sure = n) := HS.out.trans (if_neg (fun e => he (HC.out.1 e).2.1))
    clear HS HC he
    go_wp2_with fail
    (with_reducible refine (TC.out W FB.out).mono ?_)
    rintro e wc ⟨rfl, f2⟩
    have FC := Lib.hid (FB.out.trans f2)
    clear TC f2 y4 y6 y7 y8 y9 y10 y13
    obtain ⟨y4, y6, y7, y8, y9, y10, y13⟩ := CC.out wc FC.out
    go_wp2
    go_end0
    rw [E.out]
    exact ⟨rfl, H.out.tt FC.out, FC.out.mono fun _ _ _ => trivial⟩
theorem sure_both [Old] (h : PNs X P w b n q) (hcf : 0 < n.conf.length ∧ n.conf.length ≤ 16) (hpos : ∀ x ∈ n.conf, 0 ≤ x) (hl : n.log.last + 1 < 18446744073709551616) :
  CallsB Tryz.prog 25 #[.pointer (some ⟨b, 0, none⟩)] w fun e w' => e = .returned (.tuple #[]) ∧ PNs X P w' b n.sure q ∧ Fr (fun c _ => c ≠ b) w w' := by
 by_cases hr : n.role = 3
 ·exact sureL_both h hr hcf hpos hl
 ·exact sureR_both h hr hcf hpos hl
end
end Go.Proofs.YtmjccpfchhnfhaaGreat
/- The document's nodes: Sure. -/
namespace Go.Proofs.YtmjccpfchhnfhaaGreat
open Go.RowKit
set_option linter.unusedVariables false
set_option linter.unusedSimpArgs false
theorem RowU.numsK {w : World} {B : Nat} {v : Value} {zs : List Int} (h : RowU w B v zs) : NumsAt .u64 (fun b _ => B ≤ b) w v zs := by
 obtain ⟨a, c, rfl⟩ := h.form
 refine ⟨a, c, rfl, ?_⟩
 by_cases h0 : 0 < zs.length
 ·obtain ⟨g, cap, e, hB, hlt, hh⟩ := h.parts h0
  cases e
  obtain ⟨cur, hg⟩ := own_tag h (c := g) rfl
  refine .inr ⟨g, 0, _, rfl, hg, hB, fun i hi => ?_⟩
  have := (hh i (by simpa using hi)).1
  simpa [hi] using this
 ·exact .inl (List.length_eq_zero_iff.1 (by omega))
section
variable {X : Nat → Prop} {w w' : World} {b : Nat} {n n' : Nd} {q q' : DV}
theorem DNs.reach [Old] (h : DNs X w b n q) (hcf : 0 < n.conf.length ∧ n.conf.length ≤ 16) (hpos : ∀ x ∈ n.conf, 0 ≤ x ∧ x ≤ 15) {K : Nat → Obj → Prop} (vm : Value) (hm : NumsAt .u64 K w vm (n.mat.map fun (x : Nat) => (x : Int))) : Calls Tryz.prog 78 #[q.vc, vm] w fun e w' => e = .returned (.int .u64 (n.reach : Nat)) ∧ w = w' := by
 obtain ⟨a, c, e⟩ := h.cf.form
 have hc := h.cf
 rw [e] at hc
 obtain ⟨b1, off, rfl⟩ := hc.addr hcf.1
 rw [e]
 refine (rreached_calls w b1 off c vm n.conf _ hc hm (by rw [List.length_map, h.ml]; unfold maxLen; decide) hcf.2 hpos).mono fun e w' ⟨h1, h2⟩ => ⟨?_, h2⟩
 have hp := reach_pos (l := n.mat) n.conf hcf.1
 have hb : bestK (reachL n.conf (n.mat.map fun (x : Nat) => (x : Int)) n.conf.length) n.conf.length = midV (reachL n.conf (n.mat.map fun (x : Nat) => (x : Int)) n.conf.length) := by
  have hlen := reachL_len n.conf (n.mat.map fun (x : Nat) => (x : Int)) n.conf.length (Nat.le_refl _)
  have := best_eq (l := reachL n.conf (n.mat.map fun (x : Nat) => (x : Int)) n.conf.length) (by omega) (fun x hx => by
   unfold reachL at hx
   obtain ⟨y, _, e⟩ := List.mem_map.1 hx
   rw [← e]; exact atU_pos y)
  rw [hlen] at this
  exact this
 rw [h1, hb]
 unfold Nd.reach
 rw [Int.toNat_of_nonneg hp]
set_option maxRecDepth 100000 in
set_option maxHeartbeats 4000000 in
theorem dsure_calls [Old] (h : DNs X w b n q) (hcf : 0 < n.conf.length ∧ n.conf.length ≤ 16) (hpos : ∀ x ∈ n.conf, 0 ≤ x ∧ x ≤ 15) (hl : n.log.last + 1 < 18446744073709551616) (hle : n.log.es.length ≤ 900000) :
  Calls Tryz.prog 26 #[.pointer (some ⟨b, 0, none⟩)] w fun e w' => e = .returned (.tuple #[]) ∧ DNs X w' b n.sure q ∧ Fr (fun c _ => c ≠ b) w w' := by
 have H := Lib.hid h
 obtain ⟨-, -, x2, -, -, -, -, -, -, -, -, -⟩ := h.cells (Fr.refl _ w)
 by_cases hr : n.role = 3
 rotate_left
 ·have E : Hid (n.sure = n) := if_neg (fun e => hr e.1)
  obtain ⟨ro, hro⟩ : ∃ x, n.role = x := ⟨_, rfl⟩
  rw [hro] at x2 hr
  have g1 : (ro == 3) = false := by simpa using hr
  have g2 : (ro != 3) = true := by rw [bne, g1]; rfl
  clear h hr hro hcf hpos hl hle
  go_enter Tryz.func26, Tryz.ntmps26
  go_wp2
  (try simp only [Exit.inBlock, Exit.then])
  refine bodyPost_ret (results_none rfl _ _ _) rfl ?_
  rw [E.out]
  exact ⟨rfl, H.out, Fr.refl _ _⟩
 ·rw [hr] at x2
  have HML : Hid (n.mat.length = 16) := h.ml
  have MC : Hid (∀ W, Fr (fun _ _ => True) w W → ∀ k, k < 16 → W.cell? ⟨b, 28 + k, none⟩ = some (.int .u64 (n.mat.getD k 0 : Nat))) := fun W f k hk => h.mtc f k hk
  have HC := Lib.hid (And.intro hcf (And.intro hpos (And.intro hl (And.intro hle hr))))
  have RR : Hid (∀ W, Fr (fun _ _ => True) w W → W.cell? ⟨b, 2, none⟩ = some (.int .i64 3)) := fun W f => by rw [(h.cells f).2.2.1, hr]
  clear h hcf hpos hl hle hr
  go_enter Tryz.func26, Tryz.ntmps26
  go_wp2
  go_loopw [2, 3] (fun o i wr => ∃ (k : Nat) (g : Option Addr) (c : Nat), i = .int .i64 (k : Nat) ∧ k ≤ 16 ∧ o = .slice g k c ∧ Hid (RowU wr w.heap.size (.slice g k c) ((n.mat.take k).map fun (x : Nat) => (x : Int))) ∧ Hid (Fr (fun _ _ => True) w wr)) (fun _ i _ => 16 - (intOf i).toNat)
  case atStart => exact ⟨0, none, 0, rfl, Nat.zero_le _, rfl, RowU.nil _ _, Fr.refl _ _⟩
  case round =>
   obtain ⟨k, g, c, rfl, hk, rfl, HO, HF⟩ := hrel
   by_cases hlt : k < 16
   ·have hltI : (k : Int) < 16 := by omega
    have k0 : (0 : Int) ≤ (k : Int) := by omega
    have m0 := MC.out wr HF.out k hlt
    obtain ⟨y, hy⟩ : ∃ y, n.mat.getD k 0 = y := ⟨_, rfl⟩
    rw [hy] at m0
    have HR : Hid ((n.mat.take k).map (fun (x : Nat) => (x : Int)) ++ [((y : Nat) : Int)] = (n.mat.take (k + 1)).map fun (x : Nat) => (x : Int)) := by
     show _ = _
     have hlt2 : k < n.mat.length := by rw [HML.out]; exact hlt
     rw [List.take_succ_eq_append_getElem hlt2, List.map_append, ← hy, List.getD_eq_getElem?_getD, List.getElem?_eq_getElem hlt2]
     rfl
    have HN : Hid (((n.mat.take (k + 1)).map fun (x : Nat) => (x : Int)).length = k + 1) := by show _ = _; rw [List.length_map, List.length_take, HML.out]; omega
    obtain ⟨ML, hML⟩ : ∃ z, ((n.mat.take (k + 1)).map fun (x : Nat) => (x : Int)) = z := ⟨_, rfl⟩
    rw [hML] at HR HN
    have HMM := Lib.hid hML
    clear hy hML
    go_wp2_with (at_builtin; refine wpList_append_u64 w wr (y : Nat) HF rfl _ _ rfl (.slice g k c) _ rfl HO rfl _ HR (by have := HN.out; omega) ?_)
    intro a1 c1 w1 O1 F1
    rw [HN.out] at O1 ⊢
    go_wp2
    go_roundw
    case rel => exact ⟨k + 1, a1, c1, by go_num, by omega, rfl, by rw [HMM.out]; exact O1.out, F1.out⟩
    case measure => simp [intOf]; omega
   ·have hge : ¬ (k : Int) < 16 := by omega
    have hk16 : k = 16 := by omega
    subst hk16
    have HO2 : Hid (RowU wr w.heap.size (.slice g 16 c) (n.mat.map fun (x : Nat) => (x : Int))) := by
     have := HO.out
     rw [List.take_of_length_le (by rw [HML.out]; exact Nat.le_refl _)] at this
     exact this
    have HW := Lib.hid (H.out.tt HF.out)
    have RC0 := HW.out.reach HC.out.1 HC.out.2.1 (.slice g 16 c) HO2.out.numsK
    obtain ⟨ae, ce, hve, hrow⟩ : ∃ a c', q.ve = .slice a q.es.length c' ∧ RowsAt (RO X) wr (.slice a q.es.length c') 3 encE q.es := by
     obtain ⟨a, c', e, _⟩ := HW.out.ev.row.form
     exact ⟨a, c', e, by rw [← e]; exact HW.out.ev.row⟩
    obtain ⟨le, hle⟩ : ∃ x, q.es.length = x := ⟨_, rfl⟩
    rw [hle] at hve hrow
    have hel := H.out.esl
    obtain ⟨r, hrr⟩ : ∃ x, n.reach = x := ⟨_, rfl⟩
    obtain ⟨bs, hbs⟩ : ∃ x, n.log.base = x := ⟨_, rfl⟩
    obtain ⟨bt, hbt⟩ : ∃ x, n.log.bt = x := ⟨_, rfl⟩
    obtain ⟨tm, htm⟩ : ∃ x, n.tm = x := ⟨_, rfl⟩
    obtain ⟨cm, hcm⟩ : ∃ x, n.commit = x := ⟨_, rfl⟩
    obtain ⟨vc, hvc⟩ : ∃ x, q.vc = x := ⟨_, rfl⟩
    obtain ⟨pt, hpt⟩ : ∃ x, (n.log.term r).1 = x := ⟨_, rfl⟩
    obtain ⟨pk, hpk⟩ : ∃ x, (n.log.term r).2 = x := ⟨_, rfl⟩
    have hlg : lgE bs bt q.es = n.log := by unfold lgE; rw [← hbs, ← hbt, ← H.out.ee]
    have hl2 : bs + le < 18446744073709551616 := by have := HC.out.2.2.1; unfold Lg.last at this; omega
    have hle2 : le ≤ 2000000 := by have := HC.out.2.2.2.1; omega
    have TC := Lib.hid (fun W (f : Fr (fun _ _ => True) wr W) => dterm_calls W bs bt r ae le ce q.es (hrow.tt f) hl2 hle2)
    rw [hlg, hpt, hpk] at TC
    dsimp only [vL9] at TC
    rw [hrr, hvc] at RC0
    have RC := Lib.hid RC0
    have CON : (n.role = 3 ∧ n.log.term n.reach = (n.tm, true) ∧ n.commit < n.reach) ↔ (pk = true ∧ pt = tm ∧ cm < r) := by
     rw [hrr, htm, hcm, ← hpk, ← hpt, Prod.ext_iff]
     exact ⟨fun e => ⟨e.2.1.2, e.2.1.1, e.2.2⟩, fun e => ⟨HC.out.2.2.2.2, ⟨e.2.1, e.1⟩, e.2.2⟩⟩
    have hs1 : n.sure = if n.role = 3 ∧ n.log.term n.reach = (n.tm, true) ∧ n.commit < n.reach then { n with commit := n.reach } else n := rfl
    rw [hrr] at hs1 CON
    have HS := Lib.hid hs1
    have HCC := Lib.hid CON
    have CD : Hid (∀ W, Fr (fun _ _ => True) wr W → W.cell? ⟨b, 4, none⟩ = some vc ∧ W.cell? ⟨b, 6, none⟩ = some (.int .u64 (tm : Nat)) ∧ W.cell? ⟨b, 7, none⟩ = some (.int .u64 (cm : Nat)) ∧ W.cell? ⟨b, 8, none⟩ = some (.int .u64 (bs : Nat)) ∧ W.cell? ⟨b, 9, none⟩ = some (.int .u64 (bt : Nat)) ∧ W.cell? ⟨b, 10, none⟩ = some (.slice ae le ce)) := fun W f => by
     obtain ⟨x0, x1, x2, x3, x4, x5, x6, x7, x8, x9, x10, x11⟩ := HW.out.cells f
     exact ⟨by rw [x4, hvc], by rw [x6, htm], by rw [x7, hcm], by rw [x8, hbs], by rw [x9, hbt], by rw [x10, hve]⟩
    obtain ⟨y4, y6, y7, y8, y9, y10⟩ := CD.out wr (Fr.refl _ _)
    clear RC0 hve hrow hle hel hrr hbs hbt htm hcm hvc hpt hpk hlg hl2 hle2 CON hs1 x2
    go_wp2_with fail
    (with_reducible refine RC.out.mono ?_)
    rintro e w1 ⟨rfl, rfl⟩
    clear RC
    go_wp2_with fail
    (with_reducible refine (TC.out _ (Fr.refl _ _)).mono ?_)
    rintro e w2 ⟨rfl, f2⟩
    have F2 := Lib.hid f2
    have FE := Lib.hid (HF.out.trans f2)
    have H2 := Lib.hid (HW.out.tt f2)
    clear TC f2 y4 y6 y7 y8 y9 y10
    obtain ⟨y4, y6, y7, y8, y9, y10⟩ := CD.out w2 F2.out
    by_cases hlt : cm < r
    ·have g2 : decide (cm < r) = true := decide_eq_true hlt
     cases pk with
     | false =>
      have E : Hid (n.sure = n) := HS.out.trans (if_neg (fun e => by have := (HCC.out.1 e).1; cases this))
      clear HS HCC hlt
      go_wp2
      go_end0
      rw [E.out]
      exact ⟨rfl, H2.out, FE.out.mono fun _ _ _ => trivial⟩
     | true =>
      by_cases he : pt = tm
      ·subst he
       have g1 : ((pt : Int) == (pt : Int)) = true := by simp
       have E : Hid (n.sure = { n with commit := r }) := HS.out.trans (if_pos (HCC.out.2 ⟨rfl, rfl, hlt⟩))
       have z7 := H2.out.free (Fr.refl _ w2) 7
       clear HS HCC hlt
       go_wp2
       go_end0
       rw [E.out]
       exact ⟨rfl, H2.out.re (sets_fr b [(7, .int .u64 (r : Nat))] w2) (sets_heap [(7, .int .u64 (r : Nat))] H2.out.top) ⟨rfl, rfl⟩ (H2.out.ye.aft (H2.out.own (sets_fr b [(7, .int .u64 (r : Nat))] w2))) ⟨H2.out.ee, H2.out.ev.aft (H2.out.own (sets_fr b [(7, .int .u64 (r : Nat))] w2))⟩ ⟨H2.out.nl, H2.out.ml⟩, (FE.out.mono fun _ _ _ => trivial).trans (sets_fr b [(7, .int .u64 (r : Nat))] w2)⟩
      ·have g1 : ((pt : Int) == (tm : Int)) = false := by simp; omega
       have E : Hid (n.sure = n) := HS.out.trans (if_neg (fun e => he (HCC.out.1 e).2.1))
       clear HS HCC hlt he
       go_wp2
       go_end0
       rw [E.out]
       exact ⟨rfl, H2.out, FE.out.mono fun _ _ _ => trivial⟩
    ·have g2 : decide (cm < r) = false := decide_eq_false hlt
     have E : Hid (n.sure = n) := HS.out.trans (if_neg (fun e => hlt (HCC.out.1 e).2.2))
     clear HS HCC hlt
     go_wp2
     go_end0
     rw [E.out]
     exact ⟨rfl, H2.out, FE.out.mono fun _ _ _ => trivial⟩
end
end Go.Proofs.YtmjccpfchhnfhaaGreat
/- The document's nodes: To (printed by dr3.py). -/
namespace Go.Proofs.YtmjccpfchhnfhaaGreat
open Go.RowKit
set_option linter.unusedVariables false
set_option linter.unusedSimpArgs false
section
variable {X : Nat → Prop} {w w' : World} {b : Nat} {n n' : Nd} {q q' : DV}
theorem DNs.msg [Old] (h : DNs X w b n q) {g : Nat} (hf : Fr (fun c _ => c ≠ g) w w') (hg : ∃ cs fz, w.heap[g]? = some (.cells cs 32 fz)) (hgo : b < g) : DNs X w' b n q := by
 obtain ⟨cs, fz, hg⟩ := hg
 have ro : ∀ c o, w.heap[c]? = some o → RO X c o → c ≠ g := fun c o ho hr e => by
  subst e
  rw [hg] at ho
  cases ho
  exact hr.ne (fun q => by have := h.od _ q; omega) rfl (by decide)
 have ints : ∀ {v : Value} {zs : List Int}, IntsAt (RO X) w v zs → IntsAt (RO X) w' v zs := fun hi => ((hi.mono3 (K' := fun c o => RO X c o ∧ c ≠ g) fun c o ho hr => ⟨hr, ro c o ho hr⟩).fr hf fun c o q => q.2).mono fun c o q => q.1
 exact ⟨hf.keep _ _ h.top (fun e => by have := h.top; rw [e, hg] at this; cases this), ints h.cf, ints h.ye, h.ev.fr hf ro, h.ee, h.nl, h.ml, h.xb, fun c hc => Nat.lt_of_lt_of_le (h.hx c hc) hf.size, h.od⟩
set_option maxRecDepth 100000 in
set_option maxHeartbeats 4000000 in
theorem dtoR_calls [Old] (h : DNs X w b n q) (x : Int) (hr : n.role ≠ 3) (hnx : ∀ y ∈ n.next, y < 18446744073709551616) (hl : n.log.last + 1 < 18446744073709551616) (hle : n.log.es.length ≤ 900000) :
  Calls Tryz.prog 17 #[.pointer (some ⟨b, 0, none⟩), .int .i64 x] w fun e w' => MOut X w (n.sendTo x) e w' := by
 have E : n.sendTo x = [] := if_pos (.inl hr)
 rw [E]
 have x2 := (h.cells (Fr.refl _ w)).2.2.1
 obtain ⟨ro, hro⟩ : ∃ x, n.role = x := ⟨_, rfl⟩
 rw [hro] at x2 hr
 have g1 : (ro == 3) = false := by simpa using hr
 have g2 : (ro != 3) = true := by rw [bne, g1]; rfl
 clear h hr hro E hnx hl hle
 go_enter Tryz.func17, Tryz.ntmps17
 go_wp2
 go_ret
 exact MOut.none (Fr.refl _ _)
set_option maxRecDepth 100000 in
set_option maxHeartbeats 4000000 in
theorem dtoM_calls [Old] (h : DNs X w b n q) (x : Int) (hr : n.role = 3) (hx : x = n.me) (hnx : ∀ y ∈ n.next, y < 18446744073709551616) (hl : n.log.last + 1 < 18446744073709551616) (hle : n.log.es.length ≤ 900000) :
  Calls Tryz.prog 17 #[.pointer (some ⟨b, 0, none⟩), .int .i64 x] w fun e w' => MOut X w (n.sendTo x) e w' := by
 have E : n.sendTo x = [] := if_pos (.inr (.inl hx))
 rw [E]
 have x2 := (h.cells (Fr.refl _ w)).2.2.1
 have x0 := (h.cells (Fr.refl _ w)).1
 rw [hr] at x2
 rw [← hx] at x0
 clear h hr hx E hnx hl hle
 go_enter Tryz.func17, Tryz.ntmps17
 go_wp2
 go_ret
 exact MOut.none (Fr.refl _ _)
set_option maxRecDepth 100000 in
set_option maxHeartbeats 4000000 in
theorem dtoL_calls [Old] (h : DNs X w b n q) (x : Int) (hr : n.role = 3) (hx : x ≠ n.me) (h16 : x < 0) (hnx : ∀ y ∈ n.next, y < 18446744073709551616) (hl : n.log.last + 1 < 18446744073709551616) (hle : n.log.es.length ≤ 900000) :
  Calls Tryz.prog 17 #[.pointer (some ⟨b, 0, none⟩), .int .i64 x] w fun e w' => MOut X w (n.sendTo x) e w' := by
 have E : n.sendTo x = [] := if_pos (.inr (.inr (.inl h16)))
 rw [E]
 have x2 := (h.cells (Fr.refl _ w)).2.2.1
 have x0 := (h.cells (Fr.refl _ w)).1
 obtain ⟨me, hme⟩ : ∃ x, n.me = x := ⟨_, rfl⟩
 rw [hr] at x2
 rw [hme] at x0 hx
 have g1 : (x == me) = false := by simpa using hx
 clear h hr hx E hme hnx hl hle
 go_enter Tryz.func17, Tryz.ntmps17
 go_wp2
 go_ret
 exact MOut.none (Fr.refl _ _)
set_option maxRecDepth 100000 in
set_option maxHeartbeats 4000000 in
theorem dtoH_calls [Old] (h : DNs X w b n q) (x : Int) (hr : n.role = 3) (hx : x ≠ n.me) (h0 : ¬ x < 0) (h16 : 15 < x) (hnx : ∀ y ∈ n.next, y < 18446744073709551616) (hl : n.log.last + 1 < 18446744073709551616) (hle : n.log.es.length ≤ 900000) :
  Calls Tryz.prog 17 #[.pointer (some ⟨b, 0, none⟩), .int .i64 x] w fun e w' => MOut X w (n.sendTo x) e w' := by
 have E : n.sendTo x = [] := if_pos (.inr (.inr (.inr (.inl h16))))
 rw [E]
 have x2 := (h.cells (Fr.refl _ w)).2.2.1
 have x0 := (h.cells (Fr.refl _ w)).1
 obtain ⟨me, hme⟩ : ∃ x, n.me = x := ⟨_, rfl⟩
 rw [hr] at x2
 rw [hme] at x0 hx
 have g1 : (x == me) = false := by simpa using hx
 clear h hr hx E hme hnx hl hle
 go_enter Tryz.func17, Tryz.ntmps17
 go_wp2
 go_ret
 exact MOut.none (Fr.refl _ _)
set_option maxRecDepth 100000 in
set_option maxHeartbeats 4000000 in
theorem dtoB_calls [Old] (h : DNs X w b n q) (t : Nat) (ht : t < 16) (hr : n.role = 3) (hx : ((t : Nat) : Int) ≠ n.me) (hb : n.next.getD t 0 ≤ n.log.base) (hnx : ∀ y ∈ n.next, y < 18446744073709551616) (hl : n.log.last + 1 < 18446744073709551616) (hle : n.log.es.length ≤ 900000) :
  Calls Tryz.prog 17 #[.pointer (some ⟨b, 0, none⟩), .int .i64 (t : Nat)] w fun e w' => MOut X w (n.sendTo (t : Nat)) e w' := by
 have E : n.sendTo (t : Nat) = [] := if_pos (.inr (.inr (.inr (.inr hb))))
 rw [E]
 obtain ⟨me, hme⟩ : ∃ x, n.me = x := ⟨_, rfl⟩
 have H := Lib.hid h
 rw [hme] at hx
 have g1 : (((t : Nat) : Int) == me) = false := by simpa using hx
 have ht0 : ¬ ((t : Nat) : Int) < 0 := by omega
 have ht15 : ¬ (15 : Int) < ((t : Nat) : Int) := by omega
 have ht16 : ((t : Nat) : Int) < 16 := by omega
 have x2 := (h.cells (Fr.refl _ w)).2.2.1
 have x0 := (h.cells (Fr.refl _ w)).1
 have x8 := (h.cells (Fr.refl _ w)).2.2.2.2.2.2.2.2.1
 have z := h.nxt (Fr.refl _ w) t ht
 rw [hr] at x2
 rw [hme] at x0
 obtain ⟨bs, hbs⟩ : ∃ x, n.log.base = x := ⟨_, rfl⟩
 obtain ⟨nt, hnt⟩ : ∃ x, n.next.getD t 0 = x := ⟨_, rfl⟩
 rw [hbs] at x8
 rw [hnt] at z
 rw [hbs, hnt] at hb
 have g2 : decide (nt ≤ bs) = true := decide_eq_true hb
 clear h hr hx E hme hnx hl hle hb ht hbs hnt
 go_enter Tryz.func17, Tryz.ntmps17
 go_wp2_with fail
 go_quiet (fail)
 go_wp2
 go_ret
 exact MOut.none ((Fr.refl _ _).drewN _)
set_option maxRecDepth 100000 in
set_option maxHeartbeats 4000000 in
theorem dtoG_calls [Old] (h : DNs X w b n q) (t : Nat) (ht : t < 16) (hr : n.role = 3) (hx : ((t : Nat) : Int) ≠ n.me) (hb : ¬ n.next.getD t 0 ≤ n.log.base) (hnx : ∀ y ∈ n.next, y < 18446744073709551616) (hl : n.log.last + 1 < 18446744073709551616) (hle : n.log.es.length ≤ 900000) :
  Calls Tryz.prog 17 #[.pointer (some ⟨b, 0, none⟩), .int .i64 (t : Nat)] w fun e w' => MOut X w (n.sendTo (t : Nat)) e w' := by
 obtain ⟨me, hme⟩ : ∃ x, n.me = x := ⟨_, rfl⟩
 have H := Lib.hid h
 rw [hme] at hx
 have g1 : (((t : Nat) : Int) == me) = false := by simpa using hx
 have ht0 : ¬ ((t : Nat) : Int) < 0 := by omega
 have ht15 : ¬ (15 : Int) < ((t : Nat) : Int) := by omega
 have ht16 : ((t : Nat) : Int) < 16 := by omega
 have x2 := (h.cells (Fr.refl _ w)).2.2.1
 have x0 := (h.cells (Fr.refl _ w)).1
 have x8 := (h.cells (Fr.refl _ w)).2.2.2.2.2.2.2.2.1
 have z := h.nxt (Fr.refl _ w) t ht
 rw [hr] at x2
 rw [hme] at x0
 obtain ⟨bs, hbs⟩ : ∃ x, n.log.base = x := ⟨_, rfl⟩
 obtain ⟨nt, hnt⟩ : ∃ x, n.next.getD t 0 = x := ⟨_, rfl⟩
 rw [hbs] at x8
 rw [hnt] at z
 rw [hbs, hnt] at hb
 have g2 : decide (nt ≤ bs) = false := decide_eq_false hb
 obtain ⟨bt, hbt⟩ : ∃ x, n.log.bt = x := ⟨_, rfl⟩
 obtain ⟨tm, htm⟩ : ∃ x, n.tm = x := ⟨_, rfl⟩
 obtain ⟨cm, hcm⟩ : ∃ x, n.commit = x := ⟨_, rfl⟩
 obtain ⟨pv, hpv⟩ : ∃ x, nt - 1 = x := ⟨_, rfl⟩
 obtain ⟨pt, hpt⟩ : ∃ x, (n.log.term pv).1 = x := ⟨_, rfl⟩
 obtain ⟨pk, hpk⟩ : ∃ x, (n.log.term pv).2 = x := ⟨_, rfl⟩
 obtain ⟨SL, hSL⟩ : ∃ x, n.log.slice nt 8 = x := ⟨_, rfl⟩
 have hn64 : nt < 18446744073709551616 := by
  rw [← hnt, List.getD_eq_getElem?_getD, List.getElem?_eq_getElem (by have := h.nl; omega)]
  exact hnx _ (List.getElem_mem _)
 obtain ⟨ae, ce, hve⟩ : ∃ a c', q.ve = .slice a q.es.length c' := by
  obtain ⟨a, c', e, _⟩ := h.ev.row.form
  exact ⟨a, c', e⟩
 obtain ⟨le, hlel⟩ : ∃ x, q.es.length = x := ⟨_, rfl⟩
 rw [hlel] at hve
 have hel := h.esl
 have hlg : lgE bs bt q.es = n.log := by unfold lgE; rw [← hbs, ← hbt, ← h.ee]
 have hl2 : bs + le + 1 < 18446744073709551616 := by unfold Lg.last at hl; omega
 have OUT : Hid (n.sendTo (t : Nat) = [{ zMs with kind := 5, src := me, dst := (t : Nat), tm := tm, index := pv, prev := pt, commit := cm, es := SL }]) := by
  show n.sendTo (t : Nat) = _
  have e : n.sendTo (t : Nat) = [{ zMs with kind := 5, src := n.me, dst := (t : Nat), tm := n.tm, index := n.next.getD t 0 - 1, prev := (n.log.term (n.next.getD t 0 - 1)).1, commit := n.commit, es := n.log.slice (n.next.getD t 0) 8 }] := if_neg (by
   show ¬ (n.role ≠ 3 ∨ ((t : Nat) : Int) = n.me ∨ ((t : Nat) : Int) < 0 ∨ 15 < ((t : Nat) : Int) ∨ n.next.getD t 0 ≤ n.log.base)
   rw [hnt, hbs, hme]
   rintro (e | e | e | e | e)
   ·exact e hr
   ·exact hx e
   ·omega
   ·omega
   ·exact hb e)
  rw [e, hnt, hpv, hpt, hSL, hme, htm, hcm]
 have TC := Lib.hid (fun W (hw : DNs X W b n q) => dterm_calls W bs bt pv ae le ce q.es (by have := hw.ev.row; rw [hve] at this; exact this) (by omega) (by omega))
 rw [hlg, hpt, hpk] at TC
 have hsl : (if bs < nt then (q.es.drop (nt - bs - 1)).take 8 else []).map EV.en = SL := by
  rw [← hSL, ← hlg]
  unfold Lg.slice Lg.has Lg.last
  simp only [List.length_map]
  rw [if_pos (by omega)]
  by_cases e : nt ≤ bs + q.es.length
  ·rw [if_pos (by simp; omega), List.map_take, List.map_drop]
  ·rw [if_neg (by simp; omega), List.drop_of_length_le (by omega)]
   rfl
 have SLC : Hid (∀ W, DNs X W b n q → Calls Tryz.prog 69 #[.agg #[.int .u64 (bs : Nat), .int .u64 (bt : Nat), .slice ae le ce], .int .u64 (nt : Nat), .int .i64 8] W fun e w' => (∃ a' c' ys, e = .returned (.slice a' ys.length c') ∧ EsAt X w' (.slice a' ys.length c') ys ∧ ys.map EV.en = SL) ∧ Fr (fun _ _ => True) W w') := fun W hw =>
  (dslice_calls W bs bt nt 8 ae le ce q.es (by have := hw.ev; rw [hve] at this; exact this) (by omega) (by decide) (by omega) hn64 hw.hx).mono fun e w' ⟨⟨a', c', h1, h2⟩, h3⟩ => ⟨⟨a', c', _, h1, h2, hsl⟩, h3⟩
 have CC : Hid (∀ W W', DNs X W b n q → Fr (fun _ _ => True) W W' → W'.cell? ⟨b, 0, none⟩ = some (.int .i64 me) ∧ W'.cell? ⟨b, 6, none⟩ = some (.int .u64 (tm : Nat)) ∧ W'.cell? ⟨b, 7, none⟩ = some (.int .u64 (cm : Nat)) ∧ W'.cell? ⟨b, 8, none⟩ = some (.int .u64 (bs : Nat)) ∧ W'.cell? ⟨b, 9, none⟩ = some (.int .u64 (bt : Nat)) ∧ W'.cell? ⟨b, 10, none⟩ = some (.slice ae le ce) ∧ W'.cell? ⟨b, 12 + t, none⟩ = some (.int .u64 (nt : Nat))) := fun W W' hw f => by
  obtain ⟨x0, x1, x2, x3, x4, x5, x6, x7, x8, x9, x10, x11⟩ := hw.cells f
  exact ⟨by rw [x0, hme], by rw [x6, htm], by rw [x7, hcm], by rw [x8, hbs], by rw [x9, hbt], by rw [x10, hve], by rw [hw.nxt f t ht, hnt]⟩
 have w1 : IntKind.u64.wrap ((nt : Int) - 1) = ((pv : Nat) : Int) := by rw [IntKind.wrap_u64]; omega
 clear h hr hx hme hnx hl hle hb hve hlel hel hlg hbs hbt htm hcm hnt hpv hpt hpk hSL hsl hn64 hl2 ht
 dsimp only [vL9] at TC
 go_enter Tryz.func17, Tryz.ntmps17
 go_wp2_with fail
 go_quiet (fail)
 clear x0 x2 x8 z
 have UD : Hid (Fr (fun _ _ => True) w (w.drewN nq).drew) := ((Fr.refl _ w).drewN nq).drew
 go_wp2_with fail
 refine wp_region_cf (K := fun _ _ => True) (by kernel_rfl) [(41, 0), (42, 1), (43, 2), (44, 3), (45, 4), (46, 5), (47, 6), (48, 7), (49, 8), (50, 9), (51, 10), (52, 11), (53, 12), (54, 13), (55, 14), (56, 15), (57, 16), (58, 17), (59, 18), (60, 19), (61, 20), (5, 21)] [(0, []), (1, [0]), (2, [1]), (3, [2]), (4, []), (5, []), (6, [5]), (7, [6]), (8, [7]), (9, []), (10, []), (11, [9]), (12, [11]), (13, [10, 12]), (14, [13]), (15, [14]), (16, []), (17, [16]), (18, [17]), (19, [18]), (20, [3, 4, 8, 15, 19]), (21, [])] (ckR [(0, .pointer (some ⟨b, 0, none⟩)), (1, .pointer (some ⟨b, 0, none⟩)), (2, .pointer (some ⟨b, 0, none⟩)), (3, .int .i64 me), (4, .int .i64 (t : Nat)), (5, .pointer (some ⟨b, 0, none⟩)), (6, .pointer (some ⟨b, 0, none⟩)), (7, .pointer (some ⟨b, 6, none⟩)), (8, .int .u64 (tm : Nat)), (9, .pointer (some ⟨b, 0, none⟩)), (10, .int .i64 (t : Nat)), (11, .pointer (some ⟨b, 0, none⟩)), (12, .pointer (some ⟨b, 12, none⟩)), (13, .pointer (some ⟨b, 12 + t, none⟩)), (14, .int .u64 (nt : Nat)), (15, .int .u64 (pv : Nat)), (16, .pointer (some ⟨b, 0, none⟩)), (17, .pointer (some ⟨b, 0, none⟩)), (18, .pointer (some ⟨b, 7, none⟩)), (19, .int .u64 (cm : Nat)), (20, .agg #[.int .i64 5, .int .i64 me, .int .i64 (t : Nat), .int .u64 (tm : Nat), .int .u64 (pv : Nat), .int .u64 0, .int .u64 (cm : Nat), .bool false, .slice none 0 0, .slice none 0 0])] [(21, ⟨fun v W => ∃ g, v = .pointer (some ⟨g, 0, none⟩) ∧ w.heap.size ≤ g ∧ W.heap[g]? = some (.cells (cM zMV) 32 (0, 0)), fun v W W' h hf => by obtain ⟨g, h1, h2, h3⟩ := h; exact ⟨g, h1, h2, hf.keep _ _ h3 trivial⟩⟩)] 22 0) 1 (by kernel_rfl) (by kernel_rfl) (by kernel_rfl) rfl ?cfall ?cfend
 case cfall =>
  iterate 21
   refine CfAll.kk rfl rfl rfl (fun xs W hF hE K' hK => ?_) ?_
   ·have HF := Lib.hid hF
    clear hF
    simp only [ckEqs, ckLook, Nat.reduceBEq] at hE
    simp only [fillA, fillL, sA, sB, sC, Act.put, hE] at hK ⊢
    clear hE
    obtain ⟨y0, y6, y7, y8, y9, y10, z⟩ := CC.out w W H.out (UD.out.trans HF.out)
    (try simp only [gA, gB, gC])
    go_simp
    exact hK.out _ rfl
  refine CfAll.k rfl rfl (fun xs W hF hA hE K' hK => ?_) ?_
  ·have HF := Lib.hid hF
   clear hA hF
   simp only [ckEqs, ckLook, Nat.reduceBEq] at hE
   simp only [fillA, fillL, sA, sB, sC, Act.put, hE] at hK ⊢
   clear hE
   have SB : Hid (w.heap.size ≤ W.heap.size) := (UD.out.trans HF.out).size
   (try simp only [gA, gB, gC])
   go_simp
   exact hK.out _ _ _ rfl ((Fr.refl _ _).alloc _) ⟨_, rfl, SB.out, heap_alloc_new _ _⟩
  exact CfAll.nil
 case cfend =>
  intro xs W hF hA
  have HF := Lib.hid hF
  have hE := ckEnd rfl hA
  have h21 := hA (21, []) (by decide)
  clear hA hF
  simp only [List.map_cons, List.map_nil, ckEqs, ckLook, Nat.reduceBEq] at hE
  simp only [fillA, fillL, sA, sB, sC, hE]
  clear hE
  obtain ⟨g, e21, hgw, tg⟩ := h21
  rw [e21]
  have HGW := Lib.hid hgw
  have FW := Lib.hid (UD.out.trans HF.out)
  obtain ⟨m0, hm0⟩ : ∃ m : MV, (⟨5, me, (t : Nat), tm, pv, 0, cm, false, none, 0, [], none, 0, []⟩ : MV) = m := ⟨_, rfl⟩
  obtain ⟨W2, hW2', t2, f2⟩ := set10 tg (.int .i64 5) (.int .i64 me) (.int .i64 (t : Nat)) (.int .u64 (tm : Nat)) (.int .u64 (pv : Nat)) (.int .u64 0) (.int .u64 (cm : Nat)) (.bool false) (.slice none 0 0) (.slice none 0 0)
  have T2 : Hid (W2.heap[g]? = some (.cells (cM m0) 32 (0, 0))) := by rw [← hm0]; exact t2
  have HM0 := Lib.hid hm0
  have H2 := Lib.hid ((H.out.tt FW.out).msg f2 ⟨_, _, tg⟩ (by have := lt_of_some H.out.top; have := HGW.out; omega))
  have F2 : Hid (Fr (fun _ _ => True) w W2) := Fr.within ((FW.out.mono fun _ _ _ => trivial : Fr (fun c _ => True ∧ c < w.heap.size) w W).trans (f2.mono fun c _ h e => by have := h.2; have := HGW.out; omega))
  have U2 : Hid (Fr (fun _ _ => True) W2 W2.drew) := (Fr.refl _ _).drew
  obtain ⟨v0, v1, v2, v3, v4, v5, v6, v7, v8, v9⟩ := mcells tg
  have z0 := frozen_mk (i := 0) tg
  have z1 := frozen_mk (i := 1) tg
  have z2 := frozen_mk (i := 2) tg
  have z3 := frozen_mk (i := 3) tg
  have z4 := frozen_mk (i := 4) tg
  have z5 := frozen_mk (i := 5) tg
  have z6 := frozen_mk (i := 6) tg
  have z7 := frozen_mk (i := 7) tg
  have z8 := frozen_mk (i := 8) tg
  have z9 := frozen_mk (i := 9) tg
  clear t2 f2 hm0 hgw w1
  refine wpAny_next 22 (by kernel_rfl) rfl fun K' hK => ?_
  (try simp only [gA, gB, gC])
  go_simp
  refine hK.out _ _ ?_
  clear hK K'
  refine wpAny_fin (by kernel_rfl) ?_
  try rw [hW2']
  clear z0 z1 z2 z3 z4 z5 z6 z7 z8 z9 v0 v1 v2 v3 v4 v5 v6 v7 v8 v9 hW2' tg
  obtain ⟨WA, hWA⟩ : ∃ Y, W = Y := ⟨_, rfl⟩
  rw [hWA] at HF FW
  clear hWA
  go_wp2_with fail
  refine wp_region_cfl (K := fun _ _ => True) (by kernel_rfl) [(63, 0), (64, 1), (65, 2), (66, 3), (67, 4), (68, 5), (69, 6), (62, 7), (70, 8), (71, 9), (6, 10), (7, 11)] [(0, []), (1, [0]), (2, [1]), (3, [2]), (4, []), (5, [4]), (7, [6]), (8, [7]), (9, [7]), (6, [3, 5])] (ckR [(0, .pointer (some ⟨b, 0, none⟩)), (1, .pointer (some ⟨b, 0, none⟩)), (2, .pointer (some ⟨b, 8, none⟩)), (3, .agg #[.int .u64 (bs : Nat), .int .u64 (bt : Nat), .slice ae le ce]), (4, .pointer (some ⟨g, 4, none⟩)), (5, .int .u64 (pv : Nat)), (6, .tuple #[.int .u64 (pt : Nat), .bool pk]), (7, .tuple #[.int .u64 (pt : Nat), .bool pk]), (8, .int .u64 (pt : Nat)), (9, .bool pk)] [] 10 0) [9] 2 (by kernel_rfl) (by kernel_rfl) (by kernel_rfl) (by kernel_rfl) (by kernel_rfl) (by exact fun _ _ _ _ _ h => h) (by rfl) ?cfall ?cffl ?cfend
  case cffl =>
   refine FlAll.cons rfl (fun xs W hF hA => ?_) ?_
   ·have HF := Lib.hid hF
    have h7 : xs 7 = .tuple #[.int .u64 (pt : Nat), .bool pk] := hA (7, [6]) (by decide) (by decide)
    clear hA hF
    simp only [fillA, fillL, sA, sB, sC, h7]
    refine ⟨.bool pk, Or.inl ⟨by rfl, fun w => ?_⟩, rfl⟩
    (try simp only [gA, gB, gC])
    go_simp
   exact FlAll.nil
  case cfall =>
   iterate 9
    refine CfAll.kk rfl rfl rfl (fun xs W hF hE K' hK => ?_) ?_
    ·have HF := Lib.hid hF
     clear hF
     simp only [ckEqs, ckLook, Nat.reduceBEq] at hE
     simp only [fillA, fillL, sA, sB, sC, Act.put, hE] at hK ⊢
     clear hE
     obtain ⟨y0, y6, y7, y8, y9, y10, z⟩ := CC.out W2 W H2.out (U2.out.trans HF.out)
     have v4 : W.cell? ⟨g, 4, none⟩ = some (.int .u64 (pv : Nat)) := by rw [(mcells ((U2.out.trans HF.out).keep _ _ T2.out trivial)).2.2.2.2.1, ← HM0.out]
     (try simp only [gA, gB, gC])
     go_simp
     exact hK.out _ rfl
   refine CfAll.k rfl rfl (fun xs W hF hA hE K' hK => ?_) ?_
   ·have HF := Lib.hid hF
    clear hA hF
    simp only [ckEqs, ckLook, Nat.reduceBEq] at hE
    simp only [fillA, fillL, sA, sB, sC, Act.put, hE] at hK ⊢
    clear hE
    obtain ⟨y0, y6, y7, y8, y9, y10, z⟩ := CC.out W2 W H2.out (U2.out.trans HF.out)
    have v4 : W.cell? ⟨g, 4, none⟩ = some (.int .u64 (pv : Nat)) := by rw [(mcells ((U2.out.trans HF.out).keep _ _ T2.out trivial)).2.2.2.2.1, ← HM0.out]
    have TC1 := Lib.hid (TC.out W (H2.out.tt (U2.out.trans HF.out)))
    (try simp only [gA, gB, gC])
    go_simp
    (with_reducible refine TC1.out.mono ?_)
    rintro e w8 ⟨rfl, f8⟩
    exact hK.out _ _ _ rfl f8 rfl
   exact CfAll.nil
  case cfend =>
   intro xs W hF hA
   have HF := Lib.hid hF
   have hE := ckEnd rfl hA
   clear hA hF
   simp only [List.map_cons, List.map_nil, ckEqs, ckLook, Nat.reduceBEq] at hE
   simp only [fillA, fillL, sA, sB, sC, hE]
   clear hE
   refine wpAny_next 10 (by kernel_rfl) rfl fun K' hK => ?_
   (try simp only [gA, gB, gC])
   go_simp
   refine hK.out _ _ ?_
   clear hK K'
   refine wpAny_next 11 (by kernel_rfl) rfl fun K' hK => ?_
   (try simp only [gA, gB, gC])
   go_simp
   refine hK.out _ _ ?_
   clear hK K'
   refine wpAny_fin (by kernel_rfl) ?_
   have F3 := Lib.hid (U2.out.trans HF.out)
   have t3 := F3.out.keep _ _ T2.out trivial
   have y5 := (mcells t3).2.2.2.2.2.1
   have zg5 := frozen_mk (i := 5) t3
   obtain ⟨W4, hW4⟩ : ∃ Y, W.setCell ⟨g, 5, none⟩ (.int .u64 (pt : Nat)) = Y := ⟨_, rfl⟩
   have f4 : Fr (fun c _ => c ≠ g) W W4 := hW4 ▸ (Fr.refl _ _).setCell (fun _ _ h => h rfl) _
   obtain ⟨m1, hm1⟩ : ∃ m : MV, (⟨5, me, (t : Nat), tm, pv, pt, cm, false, none, 0, [], none, 0, []⟩ : MV) = m := ⟨_, rfl⟩
   have T4 : Hid (W4.heap[g]? = some (.cells (cM m1) 32 (0, 0))) := by
    rw [← hW4, ← hm1]
    have := heap_setCell_same (o := 5) t3 (.int .u64 (pt : Nat))
    rw [← HM0.out] at this
    exact this
   have HM1 := Lib.hid hm1
   have H4 := Lib.hid ((H2.out.tt F3.out).msg f4 ⟨_, _, t3⟩ (by have := lt_of_some H.out.top; have := HGW.out; omega))
   have F4 : Hid (Fr (fun _ _ => True) w W4) := Fr.within (((F2.out.trans F3.out).mono fun _ _ _ => trivial : Fr (fun c _ => True ∧ c < w.heap.size) w W).trans (f4.mono fun c _ h e => by have := h.2; have := HGW.out; omega))
   have U4 : Hid (Fr (fun _ _ => True) W4 W4.drew) := (Fr.refl _ _).drew
   clear t3 f4 hm1
   obtain ⟨WB, hWB⟩ : ∃ Y, W = Y := ⟨_, rfl⟩
   rw [hWB] at HF F3 hW4 y5 zg5 ⊢
   clear hWB
   go_wp2_with fail
   try rw [hW4]
   clear hW4 y5 zg5
   refine wp_region_cf (K := fun _ _ => True) (by kernel_rfl) [(74, 0), (75, 1), (76, 2), (77, 3), (78, 4), (79, 5), (80, 6), (81, 7), (82, 8), (83, 9), (84, 10), (85, 11)] [(0, []), (1, [0]), (2, [1]), (3, [2]), (4, []), (5, []), (6, [4]), (7, [6]), (8, [5, 7]), (9, [8]), (10, [3, 9])] (ckR [(0, .pointer (some ⟨b, 0, none⟩)), (1, .pointer (some ⟨b, 0, none⟩)), (2, .pointer (some ⟨b, 8, none⟩)), (3, .agg #[.int .u64 (bs : Nat), .int .u64 (bt : Nat), .slice ae le ce]), (4, .pointer (some ⟨b, 0, none⟩)), (5, .int .i64 (t : Nat)), (6, .pointer (some ⟨b, 0, none⟩)), (7, .pointer (some ⟨b, 12, none⟩)), (8, .pointer (some ⟨b, 12 + t, none⟩)), (9, .int .u64 (nt : Nat))] [(10, ⟨fun v W => ∃ a' c' ys, v = .slice a' ys.length c' ∧ EsAt X W (.slice a' ys.length c') ys ∧ ys.map EV.en = SL, fun v W W' h hf => by obtain ⟨a', c', ys, h1, h2, h3⟩ := h; exact ⟨a', c', ys, h1, h2.tt hf, h3⟩⟩)] 11 0) 2 (by kernel_rfl) (by kernel_rfl) (by kernel_rfl) rfl ?cfall ?cfend
   case cfall =>
    iterate 10
     refine CfAll.kk rfl rfl rfl (fun xs W hF hE K' hK => ?_) ?_
     ·have HF := Lib.hid hF
      clear hF
      simp only [ckEqs, ckLook, Nat.reduceBEq] at hE
      simp only [fillA, fillL, sA, sB, sC, Act.put, hE] at hK ⊢
      clear hE
      obtain ⟨y0, y6, y7, y8, y9, y10, z⟩ := CC.out W4 W H4.out (U4.out.trans HF.out)
      (try simp only [gA, gB, gC])
      go_simp
      exact hK.out _ rfl
    refine CfAll.k rfl rfl (fun xs W hF hA hE K' hK => ?_) ?_
    ·have HF := Lib.hid hF
     clear hA hF
     simp only [ckEqs, ckLook, Nat.reduceBEq] at hE
     simp only [fillA, fillL, sA, sB, sC, Act.put, hE] at hK ⊢
     clear hE
     obtain ⟨y0, y6, y7, y8, y9, y10, z⟩ := CC.out W4 W H4.out (U4.out.trans HF.out)
     have SC1 := Lib.hid (SLC.out W (H4.out.tt (U4.out.trans HF.out)))
     (try simp only [gA, gB, gC])
     go_simp
     (with_reducible refine SC1.out.mono ?_)
     rintro e w8 ⟨⟨a', c', ys, rfl, he, hy⟩, f8⟩
     exact hK.out _ _ _ rfl f8 ⟨a', c', ys, rfl, he, hy⟩
    exact CfAll.nil
   case cfend =>
    intro xs W hF hA
    have HF := Lib.hid hF
    have hE := ckEnd rfl hA
    have h10 := hA (10, [3, 9]) (by decide)
    clear hA hF
    simp only [List.map_cons, List.map_nil, ckEqs, ckLook, Nat.reduceBEq] at hE
    simp only [fillA, fillL, sA, sB, sC, hE]
    clear hE
    obtain ⟨a', c', ys, e10, he, hy⟩ := h10
    rw [e10]
    have HE := Lib.hid (And.intro he hy)
    have F5 := Lib.hid (U4.out.trans HF.out)
    have t5 := F5.out.keep _ _ T4.out trivial
    have y9 := (mcells t5).2.2.2.2.2.2.2.2.2
    have zg9 := frozen_mk (i := 9) t5
    obtain ⟨nl9, hnl⟩ : ∃ x, ys.length = x := ⟨_, rfl⟩
    obtain ⟨W6, hW6⟩ : ∃ Y, W.setCell ⟨g, 9, none⟩ (.slice a' ys.length c') = Y := ⟨_, rfl⟩
    have f6 : Fr (fun c _ => c ≠ g) W W6 := hW6 ▸ (Fr.refl _ _).setCell (fun _ _ h => h rfl) _
    have T6 : Hid (W6.heap[g]? = some (.cells (cM ⟨5, me, (t : Nat), tm, pv, pt, cm, false, none, 0, [], a', c', ys⟩) 32 (0, 0))) := by
     rw [← hW6]
     have := heap_setCell_same (o := 9) t5 (.slice a' ys.length c')
     rw [← HM1.out] at this
     exact this
    have H6 := Lib.hid ((H4.out.tt F5.out).msg f6 ⟨_, _, t5⟩ (by have := lt_of_some H.out.top; have := HGW.out; omega))
    have F6 : Hid (Fr (fun _ _ => True) w W6) := Fr.within (((F4.out.trans F5.out).mono fun _ _ _ => trivial : Fr (fun c _ => True ∧ c < w.heap.size) w W).trans (f6.mono fun c _ h e => by have := h.2; have := HGW.out; omega))
    have F6S : Hid (w.heap.size ≤ W6.heap.size) := F6.out.size
    have E6 : Hid (EsAt X W6 (.slice a' ys.length c') ys) := HE.out.1.fr f6 (fun c o ho hr e => by rw [e, t5] at ho; cases ho; exact hr.ne (e ▸ H.out.new HGW.out) rfl (by decide))
    clear he hy e10 t5 f6 hnl SLC CC TC
    refine wpAny_next 11 (by kernel_rfl) rfl fun K' hK => ?_
    (try simp only [gA, gB, gC])
    go_simp
    refine hK.out _ _ ?_
    clear hK K'
    refine wpAny_next 12 (by kernel_rfl) rfl fun K' hK => ?_
    (try simp only [gA, gB, gC])
    go_simp
    refine hK.out _ _ ?_
    clear hK K'
    refine wpAny_fin (by kernel_rfl) ?_
    try rw [hW6]
    clear hW6 y9 zg9
    obtain ⟨u0, u1, u2, u3, u4, u5, u6, u7, u8, u9⟩ := mcells T6.out
    go_wp2
    go_ret
    rw [OUT.out]
    refine ⟨⟨_, [⟨5, me, (t : Nat), tm, pv, pt, cm, false, none, 0, [], a', c', ys⟩], rfl, (OwnMs.one ⟨5, me, (t : Nat), tm, pv, pt, cm, false, none, 0, [], a', c', ys⟩ H6.out.hx ⟨BytesAt.nil _ _, E6.out.tt ((Fr.refl _ W6).alloc _)⟩).lo F6S.out, ?_⟩, F6.out.alloc _⟩
    show [MV.ms _] = _
    unfold MV.ms
    rw [HE.out.2]
    rfl
theorem dto_calls [Old] (h : DNs X w b n q) (x : Int) (hnx : ∀ y ∈ n.next, y < 18446744073709551616) (hl : n.log.last + 1 < 18446744073709551616) (hle : n.log.es.length ≤ 900000) :
  Calls Tryz.prog 17 #[.pointer (some ⟨b, 0, none⟩), .int .i64 x] w fun e w' => MOut X w (n.sendTo x) e w' := by
 by_cases hr : n.role = 3
 ·by_cases hx : x = n.me
  ·exact dtoM_calls h x hr hx hnx hl hle
  ·by_cases h0 : x < 0
   ·exact dtoL_calls h x hr hx h0 hnx hl hle
   ·by_cases h15 : 15 < x
    ·exact dtoH_calls h x hr hx h0 h15 hnx hl hle
    ·obtain ⟨t, rfl⟩ := Int.eq_ofNat_of_zero_le (show 0 ≤ x by omega)
     by_cases hb : n.next.getD t 0 ≤ n.log.base
     ·exact dtoB_calls h t (by omega) hr hx hb hnx hl hle
     ·exact dtoG_calls h t (by omega) hr hx hb hnx hl hle
 ·exact dtoR_calls h x hr hnx hl hle
end
end Go.Proofs.YtmjccpfchhnfhaaGreat
