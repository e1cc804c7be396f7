/- Texts of the proofs, part 31: what the functions that they reach do, walked; no conditions beyond those that each states. -/
import Derived.Defers
import Derived.Test.YtmjccpfchhnfhaaZzb30c601fa7
import Derived.Test.YtmjccpfchhnfhaaZz8302383fa6
set_option linter.unusedVariables false
set_option linter.unusedSimpArgs false
/- follow: Sure (printed by fl2.py). -/
namespace Go.Proofs.Ytmjccpfchhnfhaa
open Go.RowKit
set_option linter.unusedVariables false
set_option linter.unusedSimpArgs false
def CallsB (P : Program) (f : FuncId) (args : Array Value) (w : World) (R : Ending → World → Prop) : Prop := Calls P f args w R ∧ ∀ u, CallsD P f args u w fun e u' w' => u' = u ∧ R e w'
theorem callsB_of_wp {P : Program} {f : FuncId} {fn : Func} {c : Code} {args : Array Value} {w : World} {R : Ending → World → Prop} (hf : P.funcs[f]? = some fn) (hb : fn.body = some c)
  (h : c.wp P (bodyPost P fn R) { tmps := args ++ Array.replicate (fn.ntmps - args.size) undef, defers := [] } w) : CallsB P f args w R := ⟨calls_of_wp hf hb h, fun u => callsD_of_wp hf hb h⟩
theorem atU_pos {l : List Nat} (x : Int) : 0 ≤ atU (l.map fun (x : Nat) => (x : Int)) x := by
 unfold atU
 split
 ·rw [List.getD_eq_getElem?_getD, List.getElem?_map]
  cases l[x.toNat]? with
  | none => exact Int.le_refl _
  | some y => exact Int.natCast_nonneg y
 ·exact Int.le_refl _
theorem reach_pos {l : List Nat} (zs : List Int) (h : 0 < zs.length) : 0 ≤ midV (reachL zs (l.map fun (x : Nat) => (x : Int)) zs.length) := by
 have hm := mid_mem (l := reachL zs (l.map fun (x : Nat) => (x : Int)) zs.length) (by rw [reachL_len _ _ _ (Nat.le_refl _)]; exact h)
 unfold reachL at hm ⊢
 obtain ⟨x, _, e⟩ := List.mem_map.1 hm
 rw [← e]
 exact atU_pos x
section
variable {X P : Nat → Prop} {w w' : World} {b : Nat} {n n' : Nd} {q q' : NV}
theorem PNs.reach [Old] (h : PNs X P w b n q) (hcf : 0 < n.conf.length ∧ n.conf.length ≤ 12) (hpos : ∀ x ∈ n.conf, 0 ≤ x) : Calls Try.prog 60 #[q.vc, .slice (some ⟨q.bm, 0, none⟩) 16 q.cm] w fun e w' => e = .returned (.int .u64 (n.reach : Nat)) ∧ FT w w' := by
 obtain ⟨a, c, e⟩ := h.cf.form
 have hc := h.cf
 rw [e] at hc
 obtain ⟨b1, off, rfl⟩ := hc.addr hcf.1
 rw [e]
 refine (reached_calls w b1 off c _ n.conf _ hc (h.mt.nums (c := q.cm)) (by rw [List.length_map, h.mt.1]; unfold maxLen; decide) hcf.1 hcf.2 hpos).mono fun e w' ⟨h1, h2⟩ => ⟨?_, ?_⟩
 ·rw [h1]
  have := reach_pos (l := n.mat) n.conf hcf.1
  unfold Nd.reach
  rw [Int.toNat_of_nonneg this]
 ·exact Fr.within (h2.mono fun c _ q => q.2)
set_option maxRecDepth 100000 in
set_option maxHeartbeats 4000000 in
theorem sureR_both [Old] (h : PNs X P w b n q) (hr : n.role ≠ 3) (hcf : 0 < n.conf.length ∧ n.conf.length ≤ 12) (hpos : ∀ x ∈ n.conf, 0 ≤ x) (hl : n.log.last + 1 < 18446744073709551616) :
  CallsB Try.prog 39 #[.pointer (some ⟨b, 0, none⟩)] w fun e w' => e = .returned (.tuple #[]) ∧ PNs X P w' b n.sure q ∧ Fr (fun c _ => c ≠ b) w w' := by
 have E : n.sure = n := if_neg (fun e => hr e.1)
 rw [E]
 have x2 := (h.cells (Fr.refl _ w)).2.2.1
 obtain ⟨ro, hro⟩ : ∃ x, n.role = x := ⟨_, rfl⟩
 rw [hro] at x2 hr
 have g1 : (ro == 3) = false := by simpa using hr
 have g2 : (ro != 3) = true := by rw [bne, g1]; rfl
 have H := Lib.hid h
 clear h hr hro E hpos hl hcf
 refine callsB_of_wp Try.func39 rfl ?_
 simp only [Try.ntmps39, List.size_toArray, List.length_cons, List.length_nil, Nat.reduceAdd, Nat.reduceSub, Array.replicate_succ, Array.replicate_zero, List.push_toArray, List.append_toArray, List.nil_append, List.cons_append]
 go_wp2
 (try simp only [Exit.inBlock, Exit.then])
 refine bodyPost_ret (results_none rfl _ _ _) rfl ?_
 exact ⟨rfl, H, Fr.refl _ _⟩
set_option maxRecDepth 100000 in
set_option maxHeartbeats 4000000 in
theorem sureL_both [Old] (h : PNs X P w b n q) (hr : n.role = 3) (hcf : 0 < n.conf.length ∧ n.conf.length ≤ 12) (hpos : ∀ x ∈ n.conf, 0 ≤ x) (hl : n.log.last + 1 < 18446744073709551616) :
  CallsB Try.prog 39 #[.pointer (some ⟨b, 0, none⟩)] w fun e w' => e = .returned (.tuple #[]) ∧ PNs X P w' b n.sure q ∧ Fr (fun c _ => c ≠ b) w w' := by
 obtain ⟨ae, le, ce, hve, hle, hes, hlg⟩ := h.lg
 have RC0 : ∀ W, FT w W → Calls Try.prog 60 #[q.vc, .slice (some ⟨q.bm, 0, none⟩) 16 q.cm] W fun e w' => e = .returned (.int .u64 (n.reach : Nat)) ∧ FT W w' := fun W f => (h.tt f).reach hcf hpos
 obtain ⟨bs, hbs⟩ : ∃ x, n.log.base = x := ⟨_, rfl⟩
 obtain ⟨bt, hbt⟩ : ∃ x, n.log.bt = x := ⟨_, rfl⟩
 obtain ⟨tm, htm⟩ : ∃ x, n.tm = x := ⟨_, rfl⟩
 obtain ⟨cm, hcm⟩ : ∃ x, n.commit = x := ⟨_, rfl⟩
 obtain ⟨bm, hbm⟩ : ∃ x, q.bm = x := ⟨_, rfl⟩
 obtain ⟨km, hkm⟩ : ∃ x, q.cm = x := ⟨_, rfl⟩
 obtain ⟨vc, hvc⟩ : ∃ x, q.vc = x := ⟨_, rfl⟩
 obtain ⟨r, hrr⟩ : ∃ x, n.reach = x := ⟨_, rfl⟩
 obtain ⟨pt, hpt⟩ : ∃ x, (n.log.term r).1 = x := ⟨_, rfl⟩
 obtain ⟨pk, hpk⟩ : ∃ x, (n.log.term r).2 = x := ⟨_, rfl⟩
 have hl2 : bs + le + 1 < 18446744073709551616 := by unfold Lg.last at hl; omega
 rw [hvc, hbm, hkm, hrr] at RC0
 have RC := Lib.hid RC0
 have TC := Lib.hid (fun W (f : FT w W) => tterm_calls W bs bt r ae le ce q.es (hes W f).row (by omega))
 rw [show lgE bs bt q.es = n.log by rw [← hbs, ← hbt]; exact hlg, hpt, hpk] at TC
 have CC : Hid (∀ W, FT w W → W.cell? ⟨b, 4, none⟩ = some vc ∧ W.cell? ⟨b, 6, none⟩ = some (.int .u64 (tm : Nat)) ∧ W.cell? ⟨b, 7, none⟩ = some (.int .u64 (cm : Nat)) ∧ W.cell? ⟨b, 8, none⟩ = some (.int .u64 (bs : Nat)) ∧ W.cell? ⟨b, 9, none⟩ = some (.int .u64 (bt : Nat)) ∧ W.cell? ⟨b, 10, none⟩ = some (.slice ae le ce) ∧ W.cell? ⟨b, 13, none⟩ = some (.slice (some ⟨bm, 0, none⟩) 16 km)) := fun W f => by
  obtain ⟨x0, x1, x2, x3, x4, x5, x6, x7, x8, x9, x10, x11, x12, x13⟩ := h.cells f
  exact ⟨by rw [x4, hvc], by rw [x6, htm], by rw [x7, hcm], by rw [x8, hbs], by rw [x9, hbt], by rw [x10, hve], by rw [x13, hbm, hkm]⟩
 have CON : (n.role = 3 ∧ n.log.term n.reach = (n.tm, true) ∧ n.commit < n.reach) ↔ (pk = true ∧ pt = tm ∧ cm < r) := by
  rw [hrr, htm, hcm, ← hpk, ← hpt, Prod.ext_iff]
  exact ⟨fun e => ⟨e.2.1.2, e.2.1.1, e.2.2⟩, fun e => ⟨hr, ⟨e.2.1, e.1⟩, e.2.2⟩⟩
 have hs1 : n.sure = if n.role = 3 ∧ n.log.term n.reach = (n.tm, true) ∧ n.commit < n.reach then { n with commit := n.reach } else n := rfl
 rw [hrr] at hs1 CON
 have H := Lib.hid h
 have x2 := (h.cells (Fr.refl _ w)).2.2.1
 rw [hr] at x2
 have UD : Hid (FT w w.drew) := (Fr.refl _ _).drew
 have HS := Lib.hid hs1
 have HC := Lib.hid CON
 clear h hr hpos hcf hl hve hle hes hlg RC0 hbs hbt htm hcm hbm hkm hvc hrr hpt hpk hl2 CON hs1
 dsimp only [vL] at TC
 refine callsB_of_wp Try.func39 rfl ?_
 simp only [Try.ntmps39, List.size_toArray, List.length_cons, List.length_nil, Nat.reduceAdd, Nat.reduceSub, Array.replicate_succ, Array.replicate_zero, List.push_toArray, List.append_toArray, List.nil_append, List.cons_append]
 go_wp2_with fail
 clear x2
 refine wp_region_cf_all (K := fun _ _ => True) (by kernel_rfl) [(10, 0), (11, 1), (12, 2), (13, 3), (14, 4), (15, 5), (16, 6), (17, 7), (18, 8), (2, 9)] [(0, []), (1, [0]), (2, [1]), (3, [2]), (4, []), (5, [4]), (6, [5]), (7, [6]), (9, [8]), (8, [3, 7])] (ckR [(0, .pointer (some ⟨b, 0, none⟩)), (1, .pointer (some ⟨b, 0, none⟩)), (2, .pointer (some ⟨b, 4, none⟩)), (3, vc), (4, .pointer (some ⟨b, 0, none⟩)), (5, .pointer (some ⟨b, 0, none⟩)), (6, .pointer (some ⟨b, 13, none⟩)), (7, .slice (some ⟨bm, 0, none⟩) 16 km), (8, .int .u64 (r : Nat)), (9, .int .u64 (r : Nat))] [] 10 0) (by kernel_rfl) (by kernel_rfl) (by kernel_rfl) rfl ?cfall (by kernel_rfl) ?cfend
 case cfall =>
  iterate 9
   refine CfAll.kk rfl rfl rfl (fun xs W hF hE K' hK => ?_) ?_
   ·have HF := Lib.hid hF
    clear hF
    simp only [ckEqs, ckLook, Nat.reduceBEq] at hE
    simp only [fillA, fillL, sA, sB, sC, Act.put, hE] at hK ⊢
    clear hE
    obtain ⟨y4, y6, y7, y8, y9, y10, y13⟩ := CC W (UD.trans HF)
    skip
    go_simp
    exact hK _ rfl
  refine CfAll.k rfl rfl (fun xs W hF hA hE K' hK => ?_) ?_
  ·have HF := Lib.hid hF
   clear hA hF
   simp only [ckEqs, ckLook, Nat.reduceBEq] at hE
   simp only [fillA, fillL, sA, sB, sC, Act.put, hE] at hK ⊢
   clear hE
   have RC1 := Lib.hid (RC W (UD.trans HF))
   skip
   go_simp
   (with_reducible refine RC1.out.mono ?_)
   rintro e w8 ⟨rfl, f8⟩
   exact hK _ _ _ rfl f8 rfl
  exact CfAll.nil
 case cfend =>
  intro xs W hF hA
  have HF := Lib.hid hF
  have hE := ckEnd rfl hA
  clear hA hF
  simp only [List.map_cons, List.map_nil, ckEqs, ckLook, Nat.reduceBEq] at hE
  simp only [fillA, fillL, sA, sB, sC, hE]
  clear hE
  have FB := Lib.hid (UD.trans HF)
  obtain ⟨y4, y6, y7, y8, y9, y10, y13⟩ := CC W FB
  clear RC HF
  cases pk with
  | false =>
   have E : Hid (n.sure = n) := HS.out.trans (if_neg (fun e => by have := (HC.out.1 e).1; cases this))
   clear HS HC
   go_wp2_with fail
   (with_reducible refine (TC.out W FB.out).mono ?_)
   rintro e wc ⟨rfl, f2⟩
   have FC := Lib.hid (FB.trans f2)
   clear TC f2 y4 y6 y7 y8 y9 y10 y13
   obtain ⟨y4, y6, y7, y8, y9, y10, y13⟩ := CC wc FC
   go_wp2
   go_end0
   rw [E.out]
   exact ⟨rfl, H.tt FC, FC.tT⟩
  | true =>
   by_cases he : pt = tm
   ·subst he
    have g1 : ((pt : Int) == (pt : Int)) = true := by simp
    by_cases hlt : cm < r
    ·have g2 : decide (cm < r) = true := decide_eq_true hlt
     have E : Hid (n.sure = { n with commit := r }) := HS.trans (if_pos (HC.2 ⟨rfl, rfl, hlt⟩))
     clear HS HC hlt
     go_wp2_with fail
     (with_reducible refine (TC.out W FB.out).mono ?_)
     rintro e wc ⟨rfl, f2⟩
     have FC := Lib.hid (FB.trans f2)
     clear TC f2 y4 y6 y7 y8 y9 y10 y13
     obtain ⟨y4, y6, y7, y8, y9, y10, y13⟩ := CC wc FC
     have z7 := H.free FC 7
     go_wp2
     go_end0
     rw [E.out]
     exact ⟨rfl, (H.tt FC).re (sets_fr b [(7, .int .u64 (r : Nat))] wc) (sets_heap [(7, .int .u64 (r : Nat))] (FC.keep _ _ H.top trivial)) ⟨rfl, rfl⟩ (.inl ⟨rfl, rfl⟩) ⟨rfl, rfl, rfl⟩ ⟨rfl, rfl, rfl, rfl⟩, (FC.tT).trans (sets_fr b [(7, .int .u64 (r : Nat))] wc)⟩
    ·have g2 : decide (cm < r) = false := decide_eq_false hlt
     have E : Hid (n.sure = n) := HS.trans (if_neg (fun e => hlt (HC.1 e).2.2))
     clear HS HC hlt
     go_wp2_with fail
     (with_reducible refine (TC.out W FB.out).mono ?_)
     rintro e wc ⟨rfl, f2⟩
     have FC := Lib.hid (FB.trans f2)
     clear TC f2 y4 y6 y7 y8 y9 y10 y13
     obtain ⟨y4, y6, y7, y8, y9, y10, y13⟩ := CC wc FC
     go_wp2
     go_end0
     rw [E.out]
     exact ⟨rfl, H.tt FC, FC.tT⟩
   ·have g1 : ((pt : Int) == (tm : Int)) = false := by simp; omega
    have E : Hid (n.sure = n) := HS.trans (if_neg (fun e => he (HC.1 e).2.1))
    clear HS HC he
    go_wp2_with fail
    (with_reducible refine (TC.out W FB.out).mono ?_)
    rintro e wc ⟨rfl, f2⟩
    have FC := Lib.hid (FB.trans f2)
    clear TC f2 y4 y6 y7 y8 y9 y10 y13
    obtain ⟨y4, y6, y7, y8, y9, y10, y13⟩ := CC wc FC
    go_wp2
    go_end0
    rw [E.out]
    exact ⟨rfl, H.tt FC, FC.tT⟩
theorem sure_both [Old] (h : PNs X P w b n q) (hcf : 0 < n.conf.length ∧ n.conf.length ≤ 12) (hpos : ∀ x ∈ n.conf, 0 ≤ x) (hl : n.log.last + 1 < 18446744073709551616) :
  CallsB Try.prog 39 #[.pointer (some ⟨b, 0, none⟩)] w fun e w' => e = .returned (.tuple #[]) ∧ PNs X P w' b n.sure q ∧ Fr (fun c _ => c ≠ b) w w' := by
 by_cases hr : n.role = 3
 ·exact sureL_both h hr hcf hpos hl
 ·exact sureR_both h hr hcf hpos hl
end
end Go.Proofs.Ytmjccpfchhnfhaa
/- follow: Propose (printed by fl3.py). -/
namespace Go.Proofs.Ytmjccpfchhnfhaa
open Go.RowKit
set_option linter.unusedVariables false
set_option linter.unusedSimpArgs false
section
variable {X P : Nat → Prop} {w w' : World} {b : Nat} {n n' : Nd} {q q' : NV}
def POut [Old] (X P : Nat → Prop) (w : World) (b : Nat) (r : Nd × Nat × Int) (e : Ending) (w' : World) : Prop := (∃ q', e = .returned (.tuple #[.int .u64 (r.2.1 : Nat), .int .i64 r.2.2]) ∧ PNs X P w' b r.1 q') ∧ Fr (fun c _ => ¬ P c) w w'
set_option maxRecDepth 100000 in
set_option maxHeartbeats 4000000 in
theorem propR_calls [Old] (h : PNs X P w b n q) (kind : Int) (da : Option Addr) (dc : Nat) (d : List UInt8) (hr : n.role ≠ 3) (hd : BytesAt (RO X) w (.slice da d.length dc) d) (hcf : 0 < n.conf.length ∧ n.conf.length ≤ 12) (hpos : ∀ x ∈ n.conf, 0 ≤ x) (mN : Nat) (hme : n.me = (mN : Nat)) (hm16 : mN < 16) (hl : n.log.last + 2 < 18446744073709551616) (hle : n.log.es.length ≤ 900000) :
  Calls Try.prog 19 #[.pointer (some ⟨b, 0, none⟩), .int .i64 kind, .slice da d.length dc] w fun e w' => POut X P w b (n.propose kind d) e w' := by
 have E : n.propose kind d = (n, 0, 70) := if_pos hr
 have x2 := (h.cells (Fr.refl _ w)).2.2.1
 obtain ⟨ro, hro⟩ : ∃ x, n.role = x := ⟨_, rfl⟩
 rw [hro] at x2 hr
 have H := Lib.hid h
 have HE := Lib.hid E
 have g1 : (ro == 3) = false := by simpa using hr
 have g2 : (ro != 3) = true := by rw [bne, g1]; rfl
 clear hr
 clear h E hro hd hcf hpos hme hl hle
 go_enter_defers Try.func19, Try.ntmps19
 go_wp2
 (try simp only [Exit.inBlock, Exit.then])
 refine ⟨_, results_tmp2 rfl _ _ _, ?_⟩
 rw [HE.out]
 exact ⟨⟨q, rfl, H⟩, Fr.refl _ _⟩
set_option maxRecDepth 100000 in
set_option maxHeartbeats 4000000 in
theorem propK_calls [Old] (h : PNs X P w b n q) (kind : Int) (da : Option Addr) (dc : Nat) (d : List UInt8) (hr : n.role = 3) (hk : kind < 1) (hd : BytesAt (RO X) w (.slice da d.length dc) d) (hcf : 0 < n.conf.length ∧ n.conf.length ≤ 12) (hpos : ∀ x ∈ n.conf, 0 ≤ x) (mN : Nat) (hme : n.me = (mN : Nat)) (hm16 : mN < 16) (hl : n.log.last + 2 < 18446744073709551616) (hle : n.log.es.length ≤ 900000) :
  Calls Try.prog 19 #[.pointer (some ⟨b, 0, none⟩), .int .i64 kind, .slice da d.length dc] w fun e w' => POut X P w b (n.propose kind d) e w' := by
 have E : n.propose kind d = (n, 0, 30) := by unfold Nd.propose; rw [if_neg (by rw [hr]; decide), if_pos (.inl hk)]
 have x2 := (h.cells (Fr.refl _ w)).2.2.1
 obtain ⟨ro, hro⟩ : ∃ x, n.role = x := ⟨_, rfl⟩
 rw [hro] at x2 hr
 have H := Lib.hid h
 have HE := Lib.hid E
 subst hr
 clear h E hro hd hcf hpos hme hl hle
 go_enter_defers Try.func19, Try.ntmps19
 go_wp2
 (try simp only [Exit.inBlock, Exit.then])
 refine ⟨_, results_tmp2 rfl _ _ _, ?_⟩
 rw [HE.out]
 exact ⟨⟨q, rfl, H⟩, Fr.refl _ _⟩
set_option maxRecDepth 100000 in
set_option maxHeartbeats 4000000 in
theorem propL_calls [Old] (h : PNs X P w b n q) (kind : Int) (da : Option Addr) (dc : Nat) (d : List UInt8) (hr : n.role = 3) (hk : 255 < kind) (hd : BytesAt (RO X) w (.slice da d.length dc) d) (hcf : 0 < n.conf.length ∧ n.conf.length ≤ 12) (hpos : ∀ x ∈ n.conf, 0 ≤ x) (mN : Nat) (hme : n.me = (mN : Nat)) (hm16 : mN < 16) (hl : n.log.last + 2 < 18446744073709551616) (hle : n.log.es.length ≤ 900000) :
  Calls Try.prog 19 #[.pointer (some ⟨b, 0, none⟩), .int .i64 kind, .slice da d.length dc] w fun e w' => POut X P w b (n.propose kind d) e w' := by
 have E : n.propose kind d = (n, 0, 30) := by unfold Nd.propose; rw [if_neg (by rw [hr]; decide), if_pos (.inr hk)]
 have x2 := (h.cells (Fr.refl _ w)).2.2.1
 obtain ⟨ro, hro⟩ : ∃ x, n.role = x := ⟨_, rfl⟩
 rw [hro] at x2 hr
 have H := Lib.hid h
 have HE := Lib.hid E
 subst hr
 have hk1 : ¬ kind < 1 := by omega
 clear h E hro hd hcf hpos hme hl hle
 go_enter_defers Try.func19, Try.ntmps19
 go_wp2
 (try simp only [Exit.inBlock, Exit.then])
 refine ⟨_, results_tmp2 rfl _ _ _, ?_⟩
 rw [HE.out]
 exact ⟨⟨q, rfl, H⟩, Fr.refl _ _⟩
set_option maxRecDepth 100000 in
set_option maxHeartbeats 4000000 in
theorem propD_calls [Old] (h : PNs X P w b n q) (kind : Int) (da : Option Addr) (dc : Nat) (d : List UInt8) (hr : n.role = 3) (hk : ¬ kind < 1) (hk2 : ¬ 255 < kind) (hdl : 24 < d.length) (hd : BytesAt (RO X) w (.slice da d.length dc) d) (hcf : 0 < n.conf.length ∧ n.conf.length ≤ 12) (hpos : ∀ x ∈ n.conf, 0 ≤ x) (mN : Nat) (hme : n.me = (mN : Nat)) (hm16 : mN < 16) (hl : n.log.last + 2 < 18446744073709551616) (hle : n.log.es.length ≤ 900000) :
  Calls Try.prog 19 #[.pointer (some ⟨b, 0, none⟩), .int .i64 kind, .slice da d.length dc] w fun e w' => POut X P w b (n.propose kind d) e w' := by
 have E : n.propose kind d = (n, 0, 2) := by unfold Nd.propose; rw [if_neg (by rw [hr]; decide), if_neg (by omega), if_pos hdl]
 have x2 := (h.cells (Fr.refl _ w)).2.2.1
 obtain ⟨ro, hro⟩ : ∃ x, n.role = x := ⟨_, rfl⟩
 rw [hro] at x2 hr
 have H := Lib.hid h
 have HE := Lib.hid E
 subst hr
 have g1 : decide (24 < d.length) = true := decide_eq_true hdl
 have g2 : (24 : Int) < (d.length : Int) := by omega
 clear hdl
 clear h E hro hd hcf hpos hme hl hle
 go_enter_defers Try.func19, Try.ntmps19
 go_wp2
 (try simp only [Exit.inBlock, Exit.then])
 refine ⟨_, results_tmp2 rfl _ _ _, ?_⟩
 rw [HE.out]
 exact ⟨⟨q, rfl, H⟩, Fr.refl _ _⟩
set_option maxRecDepth 100000 in
set_option maxHeartbeats 4000000 in
theorem propG_calls [Old] (h : PNs X P w b n q) (kind : Int) (da : Option Addr) (dc : Nat) (d : List UInt8) (hr : n.role = 3) (hk : ¬ kind < 1) (hk2 : ¬ 255 < kind) (hdl : ¬ 24 < d.length) (hd : BytesAt (RO X) w (.slice da d.length dc) d) (hcf : 0 < n.conf.length ∧ n.conf.length ≤ 12) (hpos : ∀ x ∈ n.conf, 0 ≤ x) (mN : Nat) (hme : n.me = (mN : Nat)) (hm16 : mN < 16) (hl : n.log.last + 2 < 18446744073709551616) (hle : n.log.es.length ≤ 900000) :
  Calls Try.prog 19 #[.pointer (some ⟨b, 0, none⟩), .int .i64 kind, .slice da d.length dc] w fun e w' => POut X P w b (n.propose kind d) e w' := by
 obtain ⟨ae, le, ce, hve, hle2, hes, hlg⟩ := h.lg
 have OUT0 : n.propose kind d = (({ n with log := n.log.add ⟨n.tm, kind, d⟩, mat := n.mat.set n.me.toNat (n.log.last + 1) } : Nd).sure, n.log.last + 1, 0) := by unfold Nd.propose; rw [if_neg (by rw [hr]; decide), if_neg (by omega), if_neg hdl]
 obtain ⟨bs, hbs⟩ : ∃ x, n.log.base = x := ⟨_, rfl⟩
 obtain ⟨bt, hbt⟩ : ∃ x, n.log.bt = x := ⟨_, rfl⟩
 obtain ⟨tm, htm⟩ : ∃ x, n.tm = x := ⟨_, rfl⟩
 obtain ⟨bm, hbm⟩ : ∃ x, q.bm = x := ⟨_, rfl⟩
 obtain ⟨km, hkm⟩ : ∃ x, q.cm = x := ⟨_, rfl⟩
 obtain ⟨L, hL⟩ : ∃ L, bs + (le + 1) = L := ⟨_, rfl⟩
 have hL2 : n.log.last + 1 = L := by unfold Lg.last; omega
 have hl2 : bs + le + 2 < 18446744073709551616 := by unfold Lg.last at hl; omega
 have CL := Lib.hid (fun W (f : FT w W) => (clone_calls W (.slice da d.length dc) d (hd.tt f) (by omega)).mono fun e w' (⟨a, c, h1, h2, h3⟩ : ∃ a cap, e = Ending.returned (.slice a d.length cap) ∧ BytesAt (New W.heap.size) w' (.slice a d.length cap) d ∧ FT W w') => show ∃ a c, e = Ending.returned (.slice a d.length c) ∧ BytesAt (RO X) w' (.slice a d.length c) d ∧ FT W w' from ⟨a, c, h1, h2.mono fun cc o ho hn => ⟨fun hx => (by have := h.hx cc hx; have := f.size; have := hn.1; omega), by obtain ⟨cs, fz, e⟩ := hn.2; exact .inr ⟨cs, _, fz, e, by decide⟩⟩, h3⟩)
 have ADD := Lib.hid (fun W (f : FT w W) (a : Option Addr) (c : Nat) (hb : BytesAt (RO X) W (.slice a d.length c) d) => taddE_calls W bs bt ae le ce q.es ⟨tm, kind, a, c, d⟩ (hes W f) hb (show d.length ≤ 9223372036854775807 by omega) (by omega) (fun cc hc => Nat.lt_of_lt_of_le (h.hx cc hc) f.size))
 have CC : Hid (∀ W, FT w W → W.cell? ⟨b, 0, none⟩ = some (.int .i64 (mN : Nat)) ∧ W.cell? ⟨b, 6, none⟩ = some (.int .u64 (tm : Nat)) ∧ W.cell? ⟨b, 8, none⟩ = some (.int .u64 (bs : Nat)) ∧ W.cell? ⟨b, 9, none⟩ = some (.int .u64 (bt : Nat)) ∧ W.cell? ⟨b, 10, none⟩ = some (.slice ae le ce) ∧ W.cell? ⟨b, 13, none⟩ = some (.slice (some ⟨bm, 0, none⟩) 16 km)) := fun W f => by
  obtain ⟨x0, x1, x2, x3, x4, x5, x6, x7, x8, x9, x10, x11, x12, x13⟩ := h.cells f
  exact ⟨by rw [x0, hme], by rw [x6, htm], by rw [x8, hbs], by rw [x9, hbt], by rw [x10, hve], by rw [x13, hbm, hkm]⟩
 have H := Lib.hid h
 have x2 := (h.cells (Fr.refl _ w)).2.2.1
 rw [hr] at x2
 have g1 : decide (24 < d.length) = false := decide_eq_false hdl
 have g2 : ¬ (24 : Int) < (d.length : Int) := by omega
 have UD : Hid (FT w w.drew) := (Fr.refl _ _).drew
 have LAST := Lib.hid (fun W a8 c8 => tlast_calls W bs bt a8 (le + 1) c8 (by omega))
 rw [hL] at LAST
 have HLS := Lib.hid hL2
 have HCF := Lib.hid hcf
 have HPO := Lib.hid hpos
 have HME := Lib.hid hme
 have HLL := Lib.hid hl
 have HQ := Lib.hid (And.intro hbs (And.intro hbt (And.intro hbm (And.intro hkm htm))))
 have OUT := Lib.hid OUT0
 clear h hr hd hcf hpos hme hl hle hve hle2 hes hlg OUT0 hbs hbt htm hbm hkm hL hL2 hl2 hdl
 dsimp only [vL] at LAST
 go_enter_defers Try.func19, Try.ntmps19
 go_wp2_with fail
 refine wp_region_cf (K := fun _ _ => True) (by kernel_rfl) [(26, 0), (27, 1), (28, 2), (29, 3), (30, 4), (31, 5), (32, 6), (33, 7), (34, 8), (35, 9), (36, 10), (37, 11), (38, 12), (39, 13), (40, 14), (41, 15)] [(0, []), (1, []), (2, [1]), (3, [2]), (4, [3]), (5, []), (6, [5]), (7, [6]), (8, [7]), (9, []), (10, []), (11, [10]), (12, [8, 9, 11]), (13, [4, 12])] (ckR [(0, .pointer (some ⟨b, 0, none⟩)), (1, .pointer (some ⟨b, 0, none⟩)), (2, .pointer (some ⟨b, 0, none⟩)), (3, .pointer (some ⟨b, 8, none⟩)), (4, .agg #[.int .u64 (bs : Nat), .int .u64 (bt : Nat), .slice ae le ce]), (5, .pointer (some ⟨b, 0, none⟩)), (6, .pointer (some ⟨b, 0, none⟩)), (7, .pointer (some ⟨b, 6, none⟩)), (8, .int .u64 (tm : Nat)), (9, .int .i64 kind), (10, .slice da d.length dc)] [(11, ⟨fun v W => ∃ a c, v = .slice a d.length c ∧ BytesAt (RO X) W (.slice a d.length c) d, fun v W W' h hf => by obtain ⟨a, c, h1, h2⟩ := h; exact ⟨a, c, h1, h2.tt hf⟩⟩), (12, ⟨fun v W => ∃ a c, v = .agg #[.int .u64 (tm : Nat), .int .i64 kind, .slice a d.length c] ∧ BytesAt (RO X) W (.slice a d.length c) d, fun v W W' h hf => by obtain ⟨a, c, h1, h2⟩ := h; exact ⟨a, c, h1, h2.tt hf⟩⟩), (13, ⟨fun v W => ∃ a' c' a c, v = .agg #[.int .u64 (bs : Nat), .int .u64 (bt : Nat), .slice a' (le + 1) c'] ∧ EsAt X W (.slice a' (le + 1) c') (q.es ++ [⟨tm, kind, a, c, d⟩]), fun v W W' h hf => by obtain ⟨a', c', a, c, h1, h2⟩ := h; exact ⟨a', c', a, c, h1, h2.tt hf⟩⟩)] 14 0) 3 (by kernel_rfl) (by kernel_rfl) (by kernel_rfl) rfl ?cfall ?cfend
 case cfall =>
  iterate 11
   refine CfAll.kk rfl rfl rfl (fun xs W hF hE K' hK => ?_) ?_
   ·have HF := Lib.hid hF
    clear hF
    simp only [ckEqs, ckLook, Nat.reduceBEq] at hE
    simp only [fillA, fillL, sA, sB, sC, Act.put, hE] at hK ⊢
    clear hE
    obtain ⟨y0, y6, y8, y9, y10, y13⟩ := CC W (UD.trans HF)
    skip
    go_simp
    exact hK _ rfl
  refine CfAll.k rfl rfl (fun xs W hF hA hE K' hK => ?_) ?_
  ·have HF := Lib.hid hF
   clear hA hF
   simp only [ckEqs, ckLook, Nat.reduceBEq] at hE
   simp only [fillA, fillL, sA, sB, sC, Act.put, hE] at hK ⊢
   clear hE
   have CL1 := Lib.hid (CL W (UD.trans HF))
   skip
   go_simp
   (with_reducible refine CL1.out.mono ?_)
   rintro e w8 ⟨a, c, rfl, r8, f8⟩
   exact hK _ _ _ rfl f8 ⟨a, c, rfl, r8⟩
  refine CfAll.k rfl rfl (fun xs W hF hA hE K' hK => ?_) ?_
  ·have HF := Lib.hid hF
   have h11 := hA 11 (by decide)
   clear hA hF
   simp only [ckEqs, ckLook, Nat.reduceBEq] at hE
   simp only [fillA, fillL, sA, sB, sC, Act.put, hE] at hK ⊢
   clear hE
   obtain ⟨a, c, e11, r8⟩ := h11
   rw [e11] at hK ⊢
   clear e11
   skip
   go_simp
   exact hK _ _ _ rfl (Fr.refl _ _) ⟨a, c, rfl, r8⟩
  refine CfAll.k rfl rfl (fun xs W hF hA hE K' hK => ?_) ?_
  ·have HF := Lib.hid hF
   have h12 := hA 12 (by decide)
   clear hA hF
   simp only [ckEqs, ckLook, Nat.reduceBEq] at hE
   simp only [fillA, fillL, sA, sB, sC, Act.put, hE] at hK ⊢
   clear hE
   obtain ⟨a, c, e12, r8⟩ := h12
   rw [e12] at hK ⊢
   have AD1 := Lib.hid (ADD W (UD.trans HF) a c r8)
   clear e12
   dsimp only [vL, vE] at AD1
   skip
   go_simp
   (with_reducible refine AD1.out.mono ?_)
   rintro e w8 ⟨⟨a8, c8, rfl, r9⟩, f8⟩
   exact hK _ _ _ rfl f8 ⟨a8, c8, a, c, rfl, r9⟩
  exact CfAll.nil
 case cfend =>
  intro xs W hF hA
  have HF := Lib.hid hF
  have hE := ckEnd rfl hA
  have h11 := hA (11, [10]) (by decide)
  have h12 := hA (12, [8, 9, 11]) (by decide)
  have h13 := hA (13, [4, 12]) (by decide)
  clear hA hF
  simp only [List.map_cons, List.map_nil, ckEqs, ckLook, Nat.reduceBEq] at hE
  simp only [fillA, fillL, sA, sB, sC, hE]
  clear hE
  obtain ⟨a8, c8, a, c, e13, r8⟩ := h13
  rw [e13]
  have R8 := Lib.hid r8
  clear e13 r8 CL ADD x2 g1 g2
  have F2 := Lib.hid (UD.trans HF)
  have H2 := Lib.hid (H.tt F2)
  obtain ⟨x0, x1, x2, x3, x4, x5, x6, x7, x8, x9, x10, x11, x12, x13⟩ := H2.cells (Fr.refl _ W)
  have z8 := H2.free (Fr.refl _ W) 8
  have z9 := H2.free (Fr.refl _ W) 9
  have z10 := H2.free (Fr.refl _ W) 10
  refine wpAny_next 14 (by kernel_rfl) rfl fun K' hK => ?_
  skip
  go_simp
  refine hK _ _ ?_
  clear hK K'
  refine wpAny_next 15 (by kernel_rfl) rfl fun K' hK => ?_
  skip
  go_simp
  refine hK _ _ ?_
  clear hK K'
  refine wpAny_next 16 (by kernel_rfl) rfl fun K' hK => ?_
  skip
  go_simp
  refine hK _ _ ?_
  clear hK K'
  refine wpAny_fin (by kernel_rfl) ?_
  obtain ⟨n2, hn2⟩ : ∃ m : Nd, { n with log := n.log.add ⟨n.tm, kind, d⟩ } = m := ⟨_, rfl⟩
  obtain ⟨q2, hq2⟩ : ∃ m : NV, { q with ve := .slice a8 (le + 1) c8, es := q.es ++ [⟨tm, kind, a, c, d⟩] } = m := ⟨_, rfl⟩
  obtain ⟨W2, hW2⟩ : ∃ Y, sets W b [(8, .int .u64 (bs : Nat)), (9, .int .u64 (bt : Nat)), (10, .slice a8 (le + 1) c8)] = Y := ⟨_, rfl⟩
  have hW2' : ((W.setCell ⟨b, 8, none⟩ (.int .u64 (bs : Nat))).setCell ⟨b, 9, none⟩ (.int .u64 (bt : Nat))).setCell ⟨b, 10, none⟩ (.slice a8 (le + 1) c8) = W2 := hW2
  have h3 : PNs X P W2 b { n with log := n.log.add ⟨n.tm, kind, d⟩ } { q with ve := .slice a8 (le + 1) c8, es := q.es ++ [⟨tm, kind, a, c, d⟩] } := by
   rw [← hW2]
   refine H2.reE (sets_fr b _ W) ?_ ⟨rfl, rfl⟩ (.inl ⟨rfl, rfl⟩) ⟨?_, R8⟩ ⟨rfl, rfl, rfl, rfl⟩
   ·rw [← HQ.out.1, ← HQ.out.2.1]
    exact sets_heap _ H2.top
   ·show n.log.es ++ _ = _
    rw [List.map_append, H.out.ee, ← HQ.out.2.2.2.2]
    rfl
  rw [hn2, hq2] at h3
  have H3 := Lib.hid h3
  have F3 : Hid (Fr (fun c _ => ¬ P c) w W2) := (F2.out.tT).trans (hW2 ▸ (sets_fr b _ W).mono fun c _ hc e => hc (e ▸ H.out.pb))
  have h9 : n2.me = n.me ∧ n2.log.base = n.log.base ∧ n2.log.bt = n.log.bt ∧ q2.ve = .slice a8 (le + 1) c8 ∧ q2.bm = q.bm ∧ q2.cm = q.cm := by rw [← hn2, ← hq2]; exact ⟨rfl, rfl, rfl, rfl, rfl, rfl⟩
  have CC2 : Hid (∀ W', FT W2 W' → W'.cell? ⟨b, 0, none⟩ = some (.int .i64 (mN : Nat)) ∧ W'.cell? ⟨b, 8, none⟩ = some (.int .u64 (bs : Nat)) ∧ W'.cell? ⟨b, 9, none⟩ = some (.int .u64 (bt : Nat)) ∧ W'.cell? ⟨b, 10, none⟩ = some (.slice a8 (le + 1) c8) ∧ W'.cell? ⟨b, 13, none⟩ = some (.slice (some ⟨bm, 0, none⟩) 16 km)) := fun W' f => by
   obtain ⟨x0, x1, x2, x3, x4, x5, x6, x7, x8, x9, x10, x11, x12, x13⟩ := H3.cells f
   exact ⟨by rw [x0, h9.1, HME.out], by rw [x8, h9.2.1, HQ.out.1], by rw [x9, h9.2.2.1, HQ.out.2.1], by rw [x10, h9.2.2.2.1], by rw [x13, h9.2.2.2.2.1, h9.2.2.2.2.2, HQ.out.2.2.1, HQ.out.2.2.2.1]⟩
  have HBM : Hid (q2.bm = bm) := h9.2.2.2.2.1.trans HQ.2.2.1
  have HN2 := Lib.hid hn2
  have UD2 : Hid (FT W2 W2.drew) := (Fr.refl _ _).drew
  replace LAST := Lib.hid (fun W => LAST W a8 c8)
  try rw [hW2']
  clear hW2 hW2' h3 hn2 hq2 h9 x0 x1 x2 x3 x4 x5 x6 x7 x8 x9 x10 x11 x12 x13 z8 z9 z10
  obtain ⟨WA, hWA⟩ : ∃ Y, W = Y := ⟨_, rfl⟩
  rw [hWA] at HF F2 H2 R8
  clear hWA
  go_wp2_with fail
  refine wp_region_cf (K := fun _ _ => True) (by kernel_rfl) [(42, 0), (43, 1), (44, 2), (45, 3), (46, 4), (47, 5), (48, 6), (49, 7), (50, 8), (51, 9), (52, 10), (53, 11), (54, 12), (55, 13)] [(0, []), (1, [0]), (2, [1]), (3, [2]), (4, []), (5, [4]), (6, [5]), (7, [6]), (8, []), (9, [8]), (10, [9]), (11, [10]), (12, [11])] (ckR [(0, .pointer (some ⟨b, 0, none⟩)), (1, .pointer (some ⟨b, 0, none⟩)), (2, .pointer (some ⟨b, 13, none⟩)), (3, .slice (some ⟨bm, 0, none⟩) 16 km), (4, .pointer (some ⟨b, 0, none⟩)), (5, .pointer (some ⟨b, 0, none⟩)), (6, .pointer (some ⟨b, 0, none⟩)), (7, .int .i64 (mN : Nat)), (8, .pointer (some ⟨b, 0, none⟩)), (9, .pointer (some ⟨b, 0, none⟩)), (10, .pointer (some ⟨b, 8, none⟩)), (11, .agg #[.int .u64 (bs : Nat), .int .u64 (bt : Nat), .slice a8 (le + 1) c8]), (12, .int .u64 (L : Nat))] [] 13 0) 2 (by kernel_rfl) (by kernel_rfl) (by kernel_rfl) rfl ?cfall ?cfend
  case cfall =>
   iterate 12
    refine CfAll.kk rfl rfl rfl (fun xs W hF hE K' hK => ?_) ?_
    ·have HF := Lib.hid hF
     clear hF
     simp only [ckEqs, ckLook, Nat.reduceBEq] at hE
     simp only [fillA, fillL, sA, sB, sC, Act.put, hE] at hK ⊢
     clear hE
     obtain ⟨y0, y8, y9, y10, y13⟩ := CC2 W (UD2.trans HF)
     skip
     go_simp
     exact hK _ rfl
   refine CfAll.k rfl rfl (fun xs W hF hA hE K' hK => ?_) ?_
   ·have HF := Lib.hid hF
    clear hA hF
    simp only [ckEqs, ckLook, Nat.reduceBEq] at hE
    simp only [fillA, fillL, sA, sB, sC, Act.put, hE] at hK ⊢
    clear hE
    obtain ⟨y0, y8, y9, y10, y13⟩ := CC2 W (UD2.trans HF)
    have LA1 := Lib.hid (LAST W)
    skip
    go_simp
    (with_reducible refine LA1.out.mono ?_)
    rintro e w8 ⟨rfl, f8⟩
    exact hK _ _ _ rfl f8 rfl
   exact CfAll.nil
  case cfend =>
   intro xs W hF hA
   have HF := Lib.hid hF
   have hE := ckEnd rfl hA
   clear hA hF
   simp only [List.map_cons, List.map_nil, ckEqs, ckLook, Nat.reduceBEq] at hE
   simp only [fillA, fillL, sA, sB, sC, hE]
   clear hE
   have F4 := Lib.hid (UD2.trans HF)
   have H4 := Lib.hid (H3.tt F4)
   have Am := H4.mt
   rw [HBM.out] at Am
   have am0 := Am.cell mN hm16
   have am1 := Am.free mN
   have Am2 := Am.set mN L hm16
   obtain ⟨WN, hWN⟩ : ∃ Y, W.setCell ⟨bm, mN, none⟩ (.int .u64 (L : Nat)) = Y := ⟨_, rfl⟩
   have fN : Fr (fun c _ => c ≠ bm) W WN := hWN ▸ (Fr.refl _ _).setCell (fun _ _ h => h rfl) _
   have hm16I : ((mN : Nat) : Int) < 16 := by omega
   refine wpAny_next 13 (by kernel_rfl) rfl fun K' hK => ?_
   skip
   go_simp
   refine hK _ _ ?_
   clear hK K'
   refine wpAny_next 14 (by kernel_rfl) rfl fun K' hK => ?_
   skip
   go_simp
   refine hK _ _ ?_
   clear hK K'
   refine wpAny_fin (by kernel_rfl) ?_
   try rw [hWN]
   have h5 : PNs X P WN b { n2 with next := n2.next, mat := n2.mat.set mN L } q2 := H4.out.arrays (fN.mono fun c _ hc => by rw [← HBM.out]; exact hc.2) (H4.out.nx.fr fN fun _ _ => by rw [← HBM.out]; exact H4.out.nm) (by rw [HBM.out, ← hWN]; exact Am2)
   have H5 := Lib.hid h5
   have F5 : Hid (Fr (fun c _ => ¬ P c) w WN) := (F3.out.trans (F4.out.tT)).trans (fN.mono fun c _ hc e => hc (e ▸ (HBM.out ▸ H3.out.pm)))
   obtain ⟨n3, hn3⟩ : ∃ m : Nd, { n2 with next := n2.next, mat := n2.mat.set mN L } = m := ⟨_, rfl⟩
   have HN3 : Hid (({ n with log := n.log.add ⟨n.tm, kind, d⟩, mat := n.mat.set n.me.toNat (n.log.last + 1) } : Nd) = n3) := by
    show _ = _
    rw [← hn3, ← HN2.out, HLS.out, HME.out]
    rfl
   rw [hn3] at H5
   replace OUT : Hid (n.propose kind d = (n3.sure, L, 0)) := by
    show _ = _
    rw [OUT.out, HN3.out, HLS.out]
   have hcf3 : n3.conf = n.conf ∧ n3.log.last = L := by
    rw [← HN3.out]
    refine ⟨rfl, ?_⟩
    rw [← HLS.out]
    show n.log.base + (n.log.es ++ [_]).length = _
    unfold Lg.last
    simp; omega
   have SU : Hid (∀ W', FT WN W' → CallsB Try.prog 39 #[.pointer (some ⟨b, 0, none⟩)] W' fun e w' => e = .returned (.tuple #[]) ∧ PNs X P w' b n3.sure q2 ∧ Fr (fun c _ => c ≠ b) W' w') := fun W' f => sure_both (H5.out.tt f) (by rw [hcf3.1]; exact HCF.out) (by rw [hcf3.1]; exact HPO.out) (by rw [hcf3.2, ← HLS.out]; have := HLL.out; omega)
   have CC3 : WN.cell? ⟨b, 8, none⟩ = some (.int .u64 (bs : Nat)) ∧ WN.cell? ⟨b, 9, none⟩ = some (.int .u64 (bt : Nat)) ∧ WN.cell? ⟨b, 10, none⟩ = some (.slice a8 (le + 1) c8) := by
    have hbb : b ≠ bm := fun e => H3.out.bm_b (by rw [HBM.out, e])
    obtain ⟨y0, y8, y9, y10, y13⟩ := CC2 W F4
    exact ⟨fN.cell (fun _ _ => hbb) y8, fN.cell (fun _ _ => hbb) y9, fN.cell (fun _ _ => hbb) y10⟩
   obtain ⟨u8, u9, u10⟩ := CC3
   have LA2 := Lib.hid (LAST WN)
   clear Am am0 am1 Am2 hWN fN h5 hn3 hcf3 LAST HBM HN2 HN3 CC2 CC hm16I
   go_wp2_with fail
   (with_reducible refine LA2.out.mono ?_)
   rintro e w8 ⟨rfl, f8⟩
   have F8 := Lib.hid f8
   have SU8 := Lib.hid ((SU w8 f8).2 .returning)
   clear f8 LA2 SU u8 u9 u10
   go_wp2
   (try simp only [Exit.inBlock, Exit.then])
   refine leaves_cons (f := 39) (args := #[.pointer (some ⟨b, 0, none⟩)]) (by simp) (by simp [go_sem]) ?_
   refine SU8.mono ?_
   rintro e u' w9 ⟨rfl, rfl, h9, f9⟩
   refine ⟨_, results_tmp2 rfl _ _ _, ?_⟩
   rw [OUT.out]
   exact ⟨⟨q2, rfl, h9⟩, (F5.out.trans (F8.out.tT)).trans (f9.mono fun c _ hc e => hc (e ▸ H.out.pb))⟩
theorem propose_calls [Old] (h : PNs X P w b n q) (kind : Int) (da : Option Addr) (dc : Nat) (d : List UInt8) (hd : BytesAt (RO X) w (.slice da d.length dc) d) (hcf : 0 < n.conf.length ∧ n.conf.length ≤ 12) (hpos : ∀ x ∈ n.conf, 0 ≤ x) (mN : Nat) (hme : n.me = (mN : Nat)) (hm16 : mN < 16) (hl : n.log.last + 2 < 18446744073709551616) (hle : n.log.es.length ≤ 900000) :
  Calls Try.prog 19 #[.pointer (some ⟨b, 0, none⟩), .int .i64 kind, .slice da d.length dc] w fun e w' => POut X P w b (n.propose kind d) e w' := by
 by_cases hr : n.role = 3
 ·by_cases hk : kind < 1
  ·exact propK_calls h kind da dc d hr hk hd hcf hpos mN hme hm16 hl hle
  ·by_cases hk2 : 255 < kind
   ·exact propL_calls h kind da dc d hr hk2 hd hcf hpos mN hme hm16 hl hle
   ·by_cases hdl : 24 < d.length
    ·exact propD_calls h kind da dc d hr hk hk2 hdl hd hcf hpos mN hme hm16 hl hle
    ·exact propG_calls h kind da dc d hr hk hk2 hdl hd hcf hpos mN hme hm16 hl hle
 ·exact propR_calls h kind da dc d hr hd hcf hpos mN hme hm16 hl hle
end
end Go.Proofs.Ytmjccpfchhnfhaa
