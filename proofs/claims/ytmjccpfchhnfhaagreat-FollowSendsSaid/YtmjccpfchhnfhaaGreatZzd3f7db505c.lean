/- Texts of the proofs, part 35: what the functions that they reach do, walked; no conditions beyond those that each states. -/
import Derived.Test.YtmjccpfchhnfhaaGreatZzdb24504068
set_option linter.unusedVariables false
set_option linter.unusedSimpArgs false
/- follow: Propose (printed by fl3.py). -/
namespace Go.Proofs.YtmjccpfchhnfhaaGreat
open Go.RowKit
set_option linter.unusedVariables false
set_option linter.unusedSimpArgs false
section
variable {X P : Nat → Prop} {w w' : World} {b : Nat} {n n' : Nd} {q q' : NV}
def POut [Old] (X P : Nat → Prop) (w : World) (b : Nat) (r : Nd × Nat × Int) (e : Ending) (w' : World) : Prop := (∃ q', e = .returned (.tuple #[.int .u64 (r.2.1 : Nat), .int .i64 r.2.2]) ∧ PNs X P w' b r.1 q') ∧ Fr (fun c _ => ¬ P c) w w'
set_option maxRecDepth 100000 in
set_option maxHeartbeats 4000000 in
theorem propR_calls [Old] (h : PNs X P w b n q) (kind : Int) (da : Option Addr) (dc : Nat) (d : List UInt8) (hr : n.role ≠ 3) (hd : BytesAt (RO X) w (.slice da d.length dc) d) (hcf : 0 < n.conf.length ∧ n.conf.length ≤ 16) (hpos : ∀ x ∈ n.conf, 0 ≤ x) (mN : Nat) (hme : n.me = (mN : Nat)) (hm16 : mN < 16) (hl : n.log.last + 2 < 18446744073709551616) (hle : n.log.es.length ≤ 900000) :
  Calls Tryz.prog 23 #[.pointer (some ⟨b, 0, none⟩), .int .i64 kind, .slice da d.length dc] w fun e w' => POut X P w b (n.propose kind d) e w' := by
 have E : n.propose kind d = (n, 0, 70) := if_pos hr
 have x2 := (h.cells (Fr.refl _ w)).2.2.1
 obtain ⟨ro, hro⟩ : ∃ x, n.role = x := ⟨_, rfl⟩
 rw [hro] at x2 hr
 have H := Lib.hid h
 have HE := Lib.hid E
 have g1 : (ro == 3) = false := by simpa using hr
 have g2 : (ro != 3) = true := by rw [bne, g1]; rfl
 clear hr
 clear h E hro hd hcf hpos hme hl hle
 go_enter_defers Tryz.func23, Tryz.ntmps23
 go_wp2
 (try simp only [Exit.inBlock, Exit.then])
 refine ⟨_, results_tmp2 rfl _ _ _, ?_⟩
 rw [HE.out]
 exact ⟨⟨q, rfl, H.out⟩, Fr.refl _ _⟩
set_option maxRecDepth 100000 in
set_option maxHeartbeats 4000000 in
theorem propK_calls [Old] (h : PNs X P w b n q) (kind : Int) (da : Option Addr) (dc : Nat) (d : List UInt8) (hr : n.role = 3) (hk : kind < 1) (hd : BytesAt (RO X) w (.slice da d.length dc) d) (hcf : 0 < n.conf.length ∧ n.conf.length ≤ 16) (hpos : ∀ x ∈ n.conf, 0 ≤ x) (mN : Nat) (hme : n.me = (mN : Nat)) (hm16 : mN < 16) (hl : n.log.last + 2 < 18446744073709551616) (hle : n.log.es.length ≤ 900000) :
  Calls Tryz.prog 23 #[.pointer (some ⟨b, 0, none⟩), .int .i64 kind, .slice da d.length dc] w fun e w' => POut X P w b (n.propose kind d) e w' := by
 have E : n.propose kind d = (n, 0, 30) := by unfold Nd.propose; rw [if_neg (by rw [hr]; decide), if_pos (.inl hk)]
 have x2 := (h.cells (Fr.refl _ w)).2.2.1
 obtain ⟨ro, hro⟩ : ∃ x, n.role = x := ⟨_, rfl⟩
 rw [hro] at x2 hr
 have H := Lib.hid h
 have HE := Lib.hid E
 subst hr
 clear h E hro hd hcf hpos hme hl hle
 go_enter_defers Tryz.func23, Tryz.ntmps23
 go_wp2
 (try simp only [Exit.inBlock, Exit.then])
 refine ⟨_, results_tmp2 rfl _ _ _, ?_⟩
 rw [HE.out]
 exact ⟨⟨q, rfl, H.out⟩, Fr.refl _ _⟩
set_option maxRecDepth 100000 in
set_option maxHeartbeats 4000000 in
theorem propL_calls [Old] (h : PNs X P w b n q) (kind : Int) (da : Option Addr) (dc : Nat) (d : List UInt8) (hr : n.role = 3) (hk : 255 < kind) (hd : BytesAt (RO X) w (.slice da d.length dc) d) (hcf : 0 < n.conf.length ∧ n.conf.length ≤ 16) (hpos : ∀ x ∈ n.conf, 0 ≤ x) (mN : Nat) (hme : n.me = (mN : Nat)) (hm16 : mN < 16) (hl : n.log.last + 2 < 18446744073709551616) (hle : n.log.es.length ≤ 900000) :
  Calls Tryz.prog 23 #[.pointer (some ⟨b, 0, none⟩), .int .i64 kind, .slice da d.length dc] w fun e w' => POut X P w b (n.propose kind d) e w' := by
 have E : n.propose kind d = (n, 0, 30) := by unfold Nd.propose; rw [if_neg (by rw [hr]; decide), if_pos (.inr hk)]
 have x2 := (h.cells (Fr.refl _ w)).2.2.1
 obtain ⟨ro, hro⟩ : ∃ x, n.role = x := ⟨_, rfl⟩
 rw [hro] at x2 hr
 have H := Lib.hid h
 have HE := Lib.hid E
 subst hr
 have hk1 : ¬ kind < 1 := by omega
 clear h E hro hd hcf hpos hme hl hle
 go_enter_defers Tryz.func23, Tryz.ntmps23
 go_wp2
 (try simp only [Exit.inBlock, Exit.then])
 refine ⟨_, results_tmp2 rfl _ _ _, ?_⟩
 rw [HE.out]
 exact ⟨⟨q, rfl, H.out⟩, Fr.refl _ _⟩
set_option maxRecDepth 100000 in
set_option maxHeartbeats 4000000 in
theorem propD_calls [Old] (h : PNs X P w b n q) (kind : Int) (da : Option Addr) (dc : Nat) (d : List UInt8) (hr : n.role = 3) (hk : ¬ kind < 1) (hk2 : ¬ 255 < kind) (hdl : 24 < d.length) (hd : BytesAt (RO X) w (.slice da d.length dc) d) (hcf : 0 < n.conf.length ∧ n.conf.length ≤ 16) (hpos : ∀ x ∈ n.conf, 0 ≤ x) (mN : Nat) (hme : n.me = (mN : Nat)) (hm16 : mN < 16) (hl : n.log.last + 2 < 18446744073709551616) (hle : n.log.es.length ≤ 900000) :
  Calls Tryz.prog 23 #[.pointer (some ⟨b, 0, none⟩), .int .i64 kind, .slice da d.length dc] w fun e w' => POut X P w b (n.propose kind d) e w' := by
 have E : n.propose kind d = (n, 0, 2) := by unfold Nd.propose; rw [if_neg (by rw [hr]; decide), if_neg (by omega), if_pos hdl]
 have x2 := (h.cells (Fr.refl _ w)).2.2.1
 obtain ⟨ro, hro⟩ : ∃ x, n.role = x := ⟨_, rfl⟩
 rw [hro] at x2 hr
 have H := Lib.hid h
 have HE := Lib.hid E
 subst hr
 have g1 : decide (24 < d.length) = true := decide_eq_true hdl
 have g2 : (24 : Int) < (d.length : Int) := by omega
 clear hdl
 clear h E hro hd hcf hpos hme hl hle
 go_enter_defers Tryz.func23, Tryz.ntmps23
 go_wp2
 (try simp only [Exit.inBlock, Exit.then])
 refine ⟨_, results_tmp2 rfl _ _ _, ?_⟩
 rw [HE.out]
 exact ⟨⟨q, rfl, H.out⟩, Fr.refl _ _⟩
set_option maxRecDepth 100000 in
set_option maxHeartbeats 4000000 in
theorem propG_calls [Old] (h : PNs X P w b n q) (kind : Int) (da : Option Addr) (dc : Nat) (d : List UInt8) (hr : n.role = 3) (hk : ¬ kind < 1) (hk2 : ¬ 255 < kind) (hdl : ¬ 24 < d.length) (hd : BytesAt (RO X) w (.slice da d.length dc) d) (hcf : 0 < n.conf.length ∧ n.conf.length ≤ 16) (hpos : ∀ x ∈ n.conf, 0 ≤ x) (mN : Nat) (hme : n.me = (mN : Nat)) (hm16 : mN < 16) (hl : n.log.last + 2 < 18446744073709551616) (hle : n.log.es.length ≤ 900000) :
  Calls Tryz.prog 23 #[.pointer (some ⟨b, 0, none⟩), .int .i64 kind, .slice da d.length dc] w fun e w' => POut X P w b (n.propose kind d) e w' := by
 obtain ⟨ae, le, ce, hve, hle2, hes, hlg⟩ := h.lg
 have OUT0 : n.propose kind d = (({ n with log := n.log.add ⟨n.tm, kind, d⟩, mat := n.mat.set n.me.toNat (n.log.last + 1) } : Nd).sure, n.log.last + 1, 0) := by unfold Nd.propose; rw [if_neg (by rw [hr]; decide), if_neg (by omega), if_neg hdl]
 obtain ⟨bs, hbs⟩ : ∃ x, n.log.base = x := ⟨_, rfl⟩
 obtain ⟨bt, hbt⟩ : ∃ x, n.log.bt = x := ⟨_, rfl⟩
 obtain ⟨tm, htm⟩ : ∃ x, n.tm = x := ⟨_, rfl⟩
 obtain ⟨bm, hbm⟩ : ∃ x, q.bm = x := ⟨_, rfl⟩
 obtain ⟨km, hkm⟩ : ∃ x, q.cm = x := ⟨_, rfl⟩
 obtain ⟨L, hL⟩ : ∃ L, bs + (le + 1) = L := ⟨_, rfl⟩
 have hL2 : n.log.last + 1 = L := by unfold Lg.last; omega
 have hl2 : bs + le + 2 < 18446744073709551616 := by unfold Lg.last at hl; omega
 have CL := Lib.hid (fun W (f : Fr (fun _ _ => True) w W) => (clone_calls W (.slice da d.length dc) d (hd.tt f) (by omega)).mono fun e w' (⟨a, c, h1, h2, h3⟩ : ∃ a cap, e = Ending.returned (.slice a d.length cap) ∧ BytesAt (New W.heap.size) w' (.slice a d.length cap) d ∧ Fr (fun _ _ => True) W w') => show ∃ a c, e = Ending.returned (.slice a d.length c) ∧ BytesAt (RO X) w' (.slice a d.length c) d ∧ Fr (fun _ _ => True) W w' from ⟨a, c, h1, h2.mono fun cc o ho hn => ⟨fun hx => (by have := h.hx cc hx; have := f.size; have := hn.1; omega), by obtain ⟨cs, fz, e⟩ := hn.2; exact .inr ⟨cs, _, fz, e, by decide⟩⟩, h3⟩)
 have ADD := Lib.hid (fun W (f : Fr (fun _ _ => True) w W) (a : Option Addr) (c : Nat) (hb : BytesAt (RO X) W (.slice a d.length c) d) => taddE_calls W bs bt ae le ce q.es ⟨tm, kind, a, c, d⟩ (hes W f) hb (show d.length ≤ 9223372036854775807 by omega) (by omega) (fun cc hc => Nat.lt_of_lt_of_le (h.hx cc hc) f.size))
 have CC : Hid (∀ W, Fr (fun _ _ => True) w W → W.cell? ⟨b, 0, none⟩ = some (.int .i64 (mN : Nat)) ∧ W.cell? ⟨b, 6, none⟩ = some (.int .u64 (tm : Nat)) ∧ W.cell? ⟨b, 8, none⟩ = some (.int .u64 (bs : Nat)) ∧ W.cell? ⟨b, 9, none⟩ = some (.int .u64 (bt : Nat)) ∧ W.cell? ⟨b, 10, none⟩ = some (.slice ae le ce) ∧ W.cell? ⟨b, 13, none⟩ = some (.slice (some ⟨bm, 0, none⟩) 16 km)) := fun W f => by
  obtain ⟨x0, x1, x2, x3, x4, x5, x6, x7, x8, x9, x10, x11, x12, x13⟩ := h.cells f
  exact ⟨by rw [x0, hme], by rw [x6, htm], by rw [x8, hbs], by rw [x9, hbt], by rw [x10, hve], by rw [x13, hbm, hkm]⟩
 have H := Lib.hid h
 have x2 := (h.cells (Fr.refl _ w)).2.2.1
 rw [hr] at x2
 have g1 : decide (24 < d.length) = false := decide_eq_false hdl
 have g2 : ¬ (24 : Int) < (d.length : Int) := by omega
 have UD : Hid (Fr (fun _ _ => True) w w.drew) := (Fr.refl _ _).drew
 have LAST := Lib.hid (fun W a8 c8 => tlast_calls W bs bt a8 (le + 1) c8 (by omega))
 rw [hL] at LAST
 have HLS := Lib.hid hL2
 have HCF := Lib.hid hcf
 have HPO := Lib.hid hpos
 have HME := Lib.hid hme
 have HLL := Lib.hid hl
 have HQ := Lib.hid (And.intro hbs (And.intro hbt (And.intro hbm (And.intro hkm htm))))
 have OUT := Lib.hid OUT0
 clear h hr hd hcf hpos hme hl hle hve hle2 hes hlg OUT0 hbs hbt htm hbm hkm hL hL2 hl2 hdl
 dsimp only [vL] at LAST
 go_enter_defers Tryz.func23, Tryz.ntmps23
 go_wp2_with fail
 refine wp_region_cf (K := fun _ _ => True) (by kernel_rfl) [(26, 0), (27, 1), (28, 2), (29, 3), (30, 4), (31, 5), (32, 6), (33, 7), (34, 8), (35, 9), (36, 10), (37, 11), (38, 12), (39, 13), (40, 14), (41, 15)] [(0, []), (1, []), (2, [1]), (3, [2]), (4, [3]), (5, []), (6, [5]), (7, [6]), (8, [7]), (9, []), (10, []), (11, [10]), (12, [8, 9, 11]), (13, [4, 12])] (ckR [(0, .pointer (some ⟨b, 0, none⟩)), (1, .pointer (some ⟨b, 0, none⟩)), (2, .pointer (some ⟨b, 0, none⟩)), (3, .pointer (some ⟨b, 8, none⟩)), (4, .agg #[.int .u64 (bs : Nat), .int .u64 (bt : Nat), .slice ae le ce]), (5, .pointer (some ⟨b, 0, none⟩)), (6, .pointer (some ⟨b, 0, none⟩)), (7, .pointer (some ⟨b, 6, none⟩)), (8, .int .u64 (tm : Nat)), (9, .int .i64 kind), (10, .slice da d.length dc)] [(11, ⟨fun v W => ∃ a c, v = .slice a d.length c ∧ BytesAt (RO X) W (.slice a d.length c) d, fun v W W' h hf => by obtain ⟨a, c, h1, h2⟩ := h; exact ⟨a, c, h1, h2.tt hf⟩⟩), (12, ⟨fun v W => ∃ a c, v = .agg #[.int .u64 (tm : Nat), .int .i64 kind, .slice a d.length c] ∧ BytesAt (RO X) W (.slice a d.length c) d, fun v W W' h hf => by obtain ⟨a, c, h1, h2⟩ := h; exact ⟨a, c, h1, h2.tt hf⟩⟩), (13, ⟨fun v W => ∃ a' c' a c, v = .agg #[.int .u64 (bs : Nat), .int .u64 (bt : Nat), .slice a' (le + 1) c'] ∧ EsAt X W (.slice a' (le + 1) c') (q.es ++ [⟨tm, kind, a, c, d⟩]), fun v W W' h hf => by obtain ⟨a', c', a, c, h1, h2⟩ := h; exact ⟨a', c', a, c, h1, h2.tt hf⟩⟩)] 14 0) 3 (by kernel_rfl) (by kernel_rfl) (by kernel_rfl) rfl ?cfall ?cfend
 case cfall =>
  iterate 11
   refine CfAll.kk rfl rfl rfl (fun xs W hF hE K' hK => ?_) ?_
   ·have HF := Lib.hid hF
    clear hF
    simp only [ckEqs, ckLook, Nat.reduceBEq] at hE
    simp only [fillA, fillL, sA, sB, sC, Act.put, hE] at hK ⊢
    clear hE
    obtain ⟨y0, y6, y8, y9, y10, y13⟩ := CC.out W (UD.out.trans HF.out)
    (try simp only [gA, gB, gC])
    go_simp
    exact hK.out _ rfl
  refine CfAll.k rfl rfl (fun xs W hF hA hE K' hK => ?_) ?_
  ·have HF := Lib.hid hF
   clear hA hF
   simp only [ckEqs, ckLook, Nat.reduceBEq] at hE
   simp only [fillA, fillL, sA, sB, sC, Act.put, hE] at hK ⊢
   clear hE
   have CL1 := Lib.hid (CL.out W (UD.out.trans HF.out))
   (try simp only [gA, gB, gC])
   go_simp
   (with_reducible refine CL1.out.mono ?_)
   rintro e w8 ⟨a, c, rfl, r8, f8⟩
   exact hK.out _ _ _ rfl f8 ⟨a, c, rfl, r8⟩
  refine CfAll.k rfl rfl (fun xs W hF hA hE K' hK => ?_) ?_
  ·have HF := Lib.hid hF
   have h11 := hA 11 (by decide)
   clear hA hF
   simp only [ckEqs, ckLook, Nat.reduceBEq] at hE
   simp only [fillA, fillL, sA, sB, sC, Act.put, hE] at hK ⊢
   clear hE
   obtain ⟨a, c, e11, r8⟩ := h11
   rw [e11] at hK ⊢
   clear e11
   (try simp only [gA, gB, gC])
   go_simp
   exact hK.out _ _ _ rfl (Fr.refl _ _) ⟨a, c, rfl, r8⟩
  refine CfAll.k rfl rfl (fun xs W hF hA hE K' hK => ?_) ?_
  ·have HF := Lib.hid hF
   have h12 := hA 12 (by decide)
   clear hA hF
   simp only [ckEqs, ckLook, Nat.reduceBEq] at hE
   simp only [fillA, fillL, sA, sB, sC, Act.put, hE] at hK ⊢
   clear hE
   obtain ⟨a, c, e12, r8⟩ := h12
   rw [e12] at hK ⊢
   have AD1 := Lib.hid (ADD.out W (UD.out.trans HF.out) a c r8)
   clear e12
   dsimp only [vL, vE] at AD1
   (try simp only [gA, gB, gC])
   go_simp
   (with_reducible refine AD1.out.mono ?_)
   rintro e w8 ⟨⟨a8, c8, rfl, r9⟩, f8⟩
   exact hK.out _ _ _ rfl f8 ⟨a8, c8, a, c, rfl, r9⟩
  exact CfAll.nil
 case cfend =>
  intro xs W hF hA
  have HF := Lib.hid hF
  have hE := ckEnd rfl hA
  have h11 := hA (11, [10]) (by decide)
  have h12 := hA (12, [8, 9, 11]) (by decide)
  have h13 := hA (13, [4, 12]) (by decide)
  clear hA hF
  simp only [List.map_cons, List.map_nil, ckEqs, ckLook, Nat.reduceBEq] at hE
  simp only [fillA, fillL, sA, sB, sC, hE]
  clear hE
  obtain ⟨a8, c8, a, c, e13, r8⟩ := h13
  rw [e13]
  have R8 := Lib.hid r8
  clear e13 r8 CL ADD x2 g1 g2
  have F2 := Lib.hid (UD.out.trans HF.out)
  have H2 := Lib.hid (H.out.tt F2.out)
  obtain ⟨x0, x1, x2, x3, x4, x5, x6, x7, x8, x9, x10, x11, x12, x13⟩ := H2.out.cells (Fr.refl _ W)
  have z8 := H2.out.free (Fr.refl _ W) 8
  have z9 := H2.out.free (Fr.refl _ W) 9
  have z10 := H2.out.free (Fr.refl _ W) 10
  refine wpAny_next 14 (by kernel_rfl) rfl fun K' hK => ?_
  (try simp only [gA, gB, gC])
  go_simp
  refine hK.out _ _ ?_
  clear hK K'
  refine wpAny_next 15 (by kernel_rfl) rfl fun K' hK => ?_
  (try simp only [gA, gB, gC])
  go_simp
  refine hK.out _ _ ?_
  clear hK K'
  refine wpAny_next 16 (by kernel_rfl) rfl fun K' hK => ?_
  (try simp only [gA, gB, gC])
  go_simp
  refine hK.out _ _ ?_
  clear hK K'
  refine wpAny_fin (by kernel_rfl) ?_
  obtain ⟨n2, hn2⟩ : ∃ m : Nd, { n with log := n.log.add ⟨n.tm, kind, d⟩ } = m := ⟨_, rfl⟩
  obtain ⟨q2, hq2⟩ : ∃ m : NV, { q with ve := .slice a8 (le + 1) c8, es := q.es ++ [⟨tm, kind, a, c, d⟩] } = m := ⟨_, rfl⟩
  obtain ⟨W2, hW2⟩ : ∃ Y, sets W b [(8, .int .u64 (bs : Nat)), (9, .int .u64 (bt : Nat)), (10, .slice a8 (le + 1) c8)] = Y := ⟨_, rfl⟩
  have hW2' : ((W.setCell ⟨b, 8, none⟩ (.int .u64 (bs : Nat))).setCell ⟨b, 9, none⟩ (.int .u64 (bt : Nat))).setCell ⟨b, 10, none⟩ (.slice a8 (le + 1) c8) = W2 := hW2
  have h3 : PNs X P W2 b { n with log := n.log.add ⟨n.tm, kind, d⟩ } { q with ve := .slice a8 (le + 1) c8, es := q.es ++ [⟨tm, kind, a, c, d⟩] } := by
   rw [← hW2]
   refine H2.out.reE (sets_fr b _ W) ?_ ⟨rfl, rfl⟩ (.inl ⟨rfl, rfl⟩) ⟨?_, R8.out⟩ ⟨rfl, rfl, rfl, rfl⟩
   ·rw [← HQ.out.1, ← HQ.out.2.1]
    exact sets_heap _ H2.out.top
   ·show n.log.es ++ _ = _
    rw [List.map_append, H.out.ee, ← HQ.out.2.2.2.2]
    rfl
  rw [hn2, hq2] at h3
  have H3 := Lib.hid h3
  have F3 : Hid (Fr (fun c _ => ¬ P c) w W2) := (F2.out.mono fun _ _ _ => trivial).trans (hW2 ▸ (sets_fr b _ W).mono fun c _ hc e => hc (e ▸ H.out.pb))
  have h9 : n2.me = n.me ∧ n2.log.base = n.log.base ∧ n2.log.bt = n.log.bt ∧ q2.ve = .slice a8 (le + 1) c8 ∧ q2.bm = q.bm ∧ q2.cm = q.cm := by rw [← hn2, ← hq2]; exact ⟨rfl, rfl, rfl, rfl, rfl, rfl⟩
  have CC2 : Hid (∀ W', Fr (fun _ _ => True) W2 W' → W'.cell? ⟨b, 0, none⟩ = some (.int .i64 (mN : Nat)) ∧ W'.cell? ⟨b, 8, none⟩ = some (.int .u64 (bs : Nat)) ∧ W'.cell? ⟨b, 9, none⟩ = some (.int .u64 (bt : Nat)) ∧ W'.cell? ⟨b, 10, none⟩ = some (.slice a8 (le + 1) c8) ∧ W'.cell? ⟨b, 13, none⟩ = some (.slice (some ⟨bm, 0, none⟩) 16 km)) := fun W' f => by
   obtain ⟨x0, x1, x2, x3, x4, x5, x6, x7, x8, x9, x10, x11, x12, x13⟩ := H3.out.cells f
   exact ⟨by rw [x0, h9.1, HME.out], by rw [x8, h9.2.1, HQ.out.1], by rw [x9, h9.2.2.1, HQ.out.2.1], by rw [x10, h9.2.2.2.1], by rw [x13, h9.2.2.2.2.1, h9.2.2.2.2.2, HQ.out.2.2.1, HQ.out.2.2.2.1]⟩
  have HBM : Hid (q2.bm = bm) := h9.2.2.2.2.1.trans HQ.out.2.2.1
  have HN2 := Lib.hid hn2
  have UD2 : Hid (Fr (fun _ _ => True) W2 W2.drew) := (Fr.refl _ _).drew
  replace LAST := Lib.hid (fun W => LAST.out W a8 c8)
  try rw [hW2']
  clear hW2 hW2' h3 hn2 hq2 h9 x0 x1 x2 x3 x4 x5 x6 x7 x8 x9 x10 x11 x12 x13 z8 z9 z10
  obtain ⟨WA, hWA⟩ : ∃ Y, W = Y := ⟨_, rfl⟩
  rw [hWA] at HF F2 H2 R8
  clear hWA
  go_wp2_with fail
  refine wp_region_cf (K := fun _ _ => True) (by kernel_rfl) [(42, 0), (43, 1), (44, 2), (45, 3), (46, 4), (47, 5), (48, 6), (49, 7), (50, 8), (51, 9), (52, 10), (53, 11), (54, 12), (55, 13)] [(0, []), (1, [0]), (2, [1]), (3, [2]), (4, []), (5, [4]), (6, [5]), (7, [6]), (8, []), (9, [8]), (10, [9]), (11, [10]), (12, [11])] (ckR [(0, .pointer (some ⟨b, 0, none⟩)), (1, .pointer (some ⟨b, 0, none⟩)), (2, .pointer (some ⟨b, 13, none⟩)), (3, .slice (some ⟨bm, 0, none⟩) 16 km), (4, .pointer (some ⟨b, 0, none⟩)), (5, .pointer (some ⟨b, 0, none⟩)), (6, .pointer (some ⟨b, 0, none⟩)), (7, .int .i64 (mN : Nat)), (8, .pointer (some ⟨b, 0, none⟩)), (9, .pointer (some ⟨b, 0, none⟩)), (10, .pointer (some ⟨b, 8, none⟩)), (11, .agg #[.int .u64 (bs : Nat), .int .u64 (bt : Nat), .slice a8 (le + 1) c8]), (12, .int .u64 (L : Nat))] [] 13 0) 2 (by kernel_rfl) (by kernel_rfl) (by kernel_rfl) rfl ?cfall ?cfend
  case cfall =>
   iterate 12
    refine CfAll.kk rfl rfl rfl (fun xs W hF hE K' hK => ?_) ?_
    ·have HF := Lib.hid hF
     clear hF
     simp only [ckEqs, ckLook, Nat.reduceBEq] at hE
     simp only [fillA, fillL, sA, sB, sC, Act.put, hE] at hK ⊢
     clear hE
     obtain ⟨y0, y8, y9, y10, y13⟩ := CC2.out W (UD2.out.trans HF.out)
     (try simp only [gA, gB, gC])
     go_simp
     exact hK.out _ rfl
   refine CfAll.k rfl rfl (fun xs W hF hA hE K' hK => ?_) ?_
   ·have HF := Lib.hid hF
    clear hA hF
    simp only [ckEqs, ckLook, Nat.reduceBEq] at hE
    simp only [fillA, fillL, sA, sB, sC, Act.put, hE] at hK ⊢
    clear hE
    obtain ⟨y0, y8, y9, y10, y13⟩ := CC2.out W (UD2.out.trans HF.out)
    have LA1 := Lib.hid (LAST.out W)
    (try simp only [gA, gB, gC])
    go_simp
    (with_reducible refine LA1.out.mono ?_)
    rintro e w8 ⟨rfl, f8⟩
    exact hK.out _ _ _ rfl f8 rfl
   exact CfAll.nil
  case cfend =>
   intro xs W hF hA
   have HF := Lib.hid hF
   have hE := ckEnd rfl hA
   clear hA hF
   simp only [List.map_cons, List.map_nil, ckEqs, ckLook, Nat.reduceBEq] at hE
   simp only [fillA, fillL, sA, sB, sC, hE]
   clear hE
   have F4 := Lib.hid (UD2.out.trans HF.out)
   have H4 := Lib.hid (H3.out.tt F4.out)
   have Am := H4.out.mt
   rw [HBM.out] at Am
   have am0 := Am.cell mN hm16
   have am1 := Am.free mN
   have Am2 := Am.set mN L hm16
   obtain ⟨WN, hWN⟩ : ∃ Y, W.setCell ⟨bm, mN, none⟩ (.int .u64 (L : Nat)) = Y := ⟨_, rfl⟩
   have fN : Fr (fun c _ => c ≠ bm) W WN := hWN ▸ (Fr.refl _ _).setCell (fun _ _ h => h rfl) _
   have hm16I : ((mN : Nat) : Int) < 16 := by omega
   refine wpAny_next 13 (by kernel_rfl) rfl fun K' hK => ?_
   (try simp only [gA, gB, gC])
   go_simp
   refine hK.out _ _ ?_
   clear hK K'
   refine wpAny_next 14 (by kernel_rfl) rfl fun K' hK => ?_
   (try simp only [gA, gB, gC])
   go_simp
   refine hK.out _ _ ?_
   clear hK K'
   refine wpAny_fin (by kernel_rfl) ?_
   try rw [hWN]
   have h5 : PNs X P WN b { n2 with next := n2.next, mat := n2.mat.set mN L } q2 := H4.out.arrays (fN.mono fun c _ hc => by rw [← HBM.out]; exact hc.2) (H4.out.nx.fr fN fun _ _ => by rw [← HBM.out]; exact H4.out.nm) (by rw [HBM.out, ← hWN]; exact Am2)
   have H5 := Lib.hid h5
   have F5 : Hid (Fr (fun c _ => ¬ P c) w WN) := (F3.out.trans (F4.out.mono fun _ _ _ => trivial)).trans (fN.mono fun c _ hc e => hc (e ▸ (HBM.out ▸ H3.out.pm)))
   obtain ⟨n3, hn3⟩ : ∃ m : Nd, { n2 with next := n2.next, mat := n2.mat.set mN L } = m := ⟨_, rfl⟩
   have HN3 : Hid (({ n with log := n.log.add ⟨n.tm, kind, d⟩, mat := n.mat.set n.me.toNat (n.log.last + 1) } : Nd) = n3) := by
    show _ = _
    rw [← hn3, ← HN2.out, HLS.out, HME.out]
    rfl
   rw [hn3] at H5
   replace OUT : Hid (n.propose kind d = (n3.sure, L, 0)) := by
    show _ = _
    rw [OUT.out, HN3.out, HLS.out]
   have hcf3 : n3.conf = n.conf ∧ n3.log.last = L := by
    rw [← HN3.out]
    refine ⟨rfl, ?_⟩
    rw [← HLS.out]
    show n.log.base + (n.log.es ++ [_]).length = _
    unfold Lg.last
    simp; omega
   have SU : Hid (∀ W', Fr (fun _ _ => True) WN W' → CallsB Tryz.prog 25 #[.pointer (some ⟨b, 0, none⟩)] W' fun e w' => e = .returned (.tuple #[]) ∧ PNs X P w' b n3.sure q2 ∧ Fr (fun c _ => c ≠ b) W' w') := fun W' f => sure_both (H5.out.tt f) (by rw [hcf3.1]; exact HCF.out) (by rw [hcf3.1]; exact HPO.out) (by rw [hcf3.2, ← HLS.out]; have := HLL.out; omega)
   have CC3 : WN.cell? ⟨b, 8, none⟩ = some (.int .u64 (bs : Nat)) ∧ WN.cell? ⟨b, 9, none⟩ = some (.int .u64 (bt : Nat)) ∧ WN.cell? ⟨b, 10, none⟩ = some (.slice a8 (le + 1) c8) := by
    have hbb : b ≠ bm := fun e => H3.out.bm_b (by rw [HBM.out, e])
    obtain ⟨y0, y8, y9, y10, y13⟩ := CC2.out W F4.out
    exact ⟨fN.cell (fun _ _ => hbb) y8, fN.cell (fun _ _ => hbb) y9, fN.cell (fun _ _ => hbb) y10⟩
   obtain ⟨u8, u9, u10⟩ := CC3
   have LA2 := Lib.hid (LAST.out WN)
   clear Am am0 am1 Am2 hWN fN h5 hn3 hcf3 LAST HBM HN2 HN3 CC2 CC hm16I
   go_wp2_with fail
   (with_reducible refine LA2.out.mono ?_)
   rintro e w8 ⟨rfl, f8⟩
   have F8 := Lib.hid f8
   have SU8 := Lib.hid ((SU.out w8 f8).2 .returning)
   clear f8 LA2 SU u8 u9 u10
   go_wp2
   (try simp only [Exit.inBlock, Exit.then])
   refine leaves_cons (f := 25) (args := #[.pointer (some ⟨b, 0, none⟩)]) (by simp) (by simp [go_sem]) ?_
   refine SU8.out.mono ?_
   rintro e u' w9 ⟨rfl, rfl, h9, f9⟩
   refine ⟨_, results_tmp2 rfl _ _ _, ?_⟩
   rw [OUT.out]
   exact ⟨⟨q2, rfl, h9⟩, (F5.out.trans (F8.out.mono fun _ _ _ => trivial)).trans (f9.mono fun c _ hc e => hc (e ▸ H.out.pb))⟩
theorem propose_calls [Old] (h : PNs X P w b n q) (kind : Int) (da : Option Addr) (dc : Nat) (d : List UInt8) (hd : BytesAt (RO X) w (.slice da d.length dc) d) (hcf : 0 < n.conf.length ∧ n.conf.length ≤ 16) (hpos : ∀ x ∈ n.conf, 0 ≤ x) (mN : Nat) (hme : n.me = (mN : Nat)) (hm16 : mN < 16) (hl : n.log.last + 2 < 18446744073709551616) (hle : n.log.es.length ≤ 900000) :
  Calls Tryz.prog 23 #[.pointer (some ⟨b, 0, none⟩), .int .i64 kind, .slice da d.length dc] w fun e w' => POut X P w b (n.propose kind d) e w' := by
 by_cases hr : n.role = 3
 ·by_cases hk : kind < 1
  ·exact propK_calls h kind da dc d hr hk hd hcf hpos mN hme hm16 hl hle
  ·by_cases hk2 : 255 < kind
   ·exact propL_calls h kind da dc d hr hk2 hd hcf hpos mN hme hm16 hl hle
   ·by_cases hdl : 24 < d.length
    ·exact propD_calls h kind da dc d hr hk hk2 hdl hd hcf hpos mN hme hm16 hl hle
    ·exact propG_calls h kind da dc d hr hk hk2 hdl hd hcf hpos mN hme hm16 hl hle
 ·exact propR_calls h kind da dc d hr hd hcf hpos mN hme hm16 hl hle
end
end Go.Proofs.YtmjccpfchhnfhaaGreat
/- follow: OnAcked (printed by fl6.py). -/
namespace Go.Proofs.YtmjccpfchhnfhaaGreat
open Go.RowKit
set_option linter.unusedVariables false
set_option linter.unusedSimpArgs false
section
variable {X P : Nat → Prop} {w w' : World} {b : Nat} {n n' : Nd} {q q' : NV}
set_option maxRecDepth 100000 in
set_option maxHeartbeats 8000000 in
theorem onAckedU_calls [Old] (h : PNs X P w b n q) (m : MV) (hk6 : m.kind = 6) (hlt : n.tm < m.tm) (hcf : 0 < n.conf.length ∧ n.conf.length ≤ 16) (hpos : ∀ x ∈ n.conf, 0 ≤ x) (hnx : ∀ y ∈ n.next, y + 1 < 18446744073709551616) (hmx : ∀ y ∈ n.mat, y + 1 < 18446744073709551616) (hix : m.index + 1 < 18446744073709551616) (hpv1 : m.prev + 1 < 18446744073709551616) (hl : n.log.last + 1 < 18446744073709551616) (hle : n.log.es.length ≤ 900000) :
  Calls Tryz.prog 14 #[.pointer (some ⟨b, 0, none⟩), .agg (cM m)] w fun e w' => NOut X P w b (n.onAcked m.ms) e w' := by
 obtain ⟨W1, hW1, F1, X1⟩ := mbox w m
 obtain ⟨g0, hg0⟩ : ∃ x, w.heap.size = x := ⟨_, rfl⟩
 rw [hg0] at X1
 have H := Lib.hid h
 have HG0 := Lib.hid hg0
 have gb : Hid (g0 ≠ b) := by have := lt_of_some h.top; show _ ≠ _; omega
 obtain ⟨me, hme⟩ : ∃ x, n.me = x := ⟨_, rfl⟩
 obtain ⟨ro, hro⟩ : ∃ x, n.role = x := ⟨_, rfl⟩
 obtain ⟨tm, htm⟩ : ∃ x, n.tm = x := ⟨_, rfl⟩
 obtain ⟨s, hs⟩ : ∃ x, m.src = x := ⟨_, rfl⟩
 obtain ⟨mt, hmt⟩ : ∃ x, m.tm = x := ⟨_, rfl⟩
 obtain ⟨ix, hixx⟩ : ∃ x, m.index = x := ⟨_, rfl⟩
 obtain ⟨pv, hpv⟩ : ∃ x, m.prev = x := ⟨_, rfl⟩
 obtain ⟨ok, hok⟩ : ∃ x, m.ok = x := ⟨_, rfl⟩
 have HL := Lib.hid (And.intro hme (And.intro hro (And.intro htm (And.intro hs (And.intro hmt (And.intro hixx (And.intro hpv hok)))))))
 have VH : Hid (∀ W : World, W.heap[g0]? = some (.cells (cM m) 32 (0, 0)) → W.cell? ⟨g0, 1, none⟩ = some (.int .i64 s) ∧ W.cell? ⟨g0, 3, none⟩ = some (.int .u64 (mt : Nat)) ∧ W.cell? ⟨g0, 4, none⟩ = some (.int .u64 (ix : Nat)) ∧ W.cell? ⟨g0, 5, none⟩ = some (.int .u64 (pv : Nat)) ∧ W.cell? ⟨g0, 7, none⟩ = some (.bool ok)) := fun W t => by
  obtain ⟨v0, v1, v2, v3, v4, v5, v6, v7, v8, v9⟩ := mcells t
  exact ⟨by rw [v1, hs], by rw [v3, hmt], by rw [v4, hixx], by rw [v5, hpv], by rw [v7, hok]⟩
 have v0 : W1.cell? ⟨g0, 0, none⟩ = some (.int .i64 6) := by rw [← hk6]; exact (mcells X1.out).1
 have y6 : W1.cell? ⟨b, 6, none⟩ = some (.int .u64 (tm : Nat)) := by rw [← htm]; exact (h.cells F1.out).2.2.2.2.2.2.1
 have v3 := (VH.out W1 X1.out).2.1
 have gl : decide (tm < mt) = true := by rw [← hmt, ← htm]; exact decide_eq_true hlt
 have E : Hid (n.onAcked m.ms = (n.follow mt (-1), [])) := by
  show _ = _
  unfold Nd.onAcked
  rw [if_neg (fun e => e hk6), if_pos (show n.tm < m.ms.tm from hlt), ← hmt]
  rfl
 unfold cM at hW1 ⊢
 clear hk6 hlt h hme hro htm hs hmt hixx hpv hok hcf hpos hnx hmx hix hpv1 hl hle
 go_enter Tryz.func14, Tryz.ntmps14
 go_wp2_with fail
 try rw [hW1]
 try rw [HG0.out]
 clear hW1 hg0 v0
 go_quiet (fail)
 clear y6 v3 gl
 have UQ : Hid (Fr (fun _ _ => True) W1 (W1.drewN nq)) := (Fr.refl _ W1).drewN nq
 generalize W1.drewN nq = W2 at UQ ⊢
 have F2 := Lib.hid (F1.out.trans UQ.out)
 have H2 := Lib.hid (H.out.tt F2.out)
 have T2 : Hid (W2.heap[g0]? = some (.cells (cM m) 32 (0, 0))) := UQ.out.keep _ _ X1.out trivial
 have FO := Lib.hid (follow_calls H2.out mt (-1))
 have v3 := (VH.out W2 T2.out).2.1
 go_wp2_with fail
 (with_reducible refine FO.out.mono ?_)
 rintro e Wf ⟨rfl, hf, ff⟩
 have HF := Lib.hid hf
 have FF : Hid (Fr (fun c _ => c ≠ b) W2 Wf) := ff
 clear v3 FO hf ff
 go_wp2
 go_ret
 rw [E.out]
 exact ⟨X, P, q.noYes, _, [], rfl, HF.out, .of ((F2.out.mono fun _ _ _ => trivial).trans (FF.out.mono fun c _ hc e => hc (e ▸ H.out.pb))) H.out.px, OwnMs.nil _ _ _, rfl⟩
set_option maxRecDepth 100000 in
set_option maxHeartbeats 8000000 in
theorem onAckedP_calls [Old] (h : PNs X P w b n q) (m : MV) (hk6 : m.kind = 6) (hnlt : ¬ n.tm < m.tm) (hlt : m.tm < n.tm) (hcf : 0 < n.conf.length ∧ n.conf.length ≤ 16) (hpos : ∀ x ∈ n.conf, 0 ≤ x) (hnx : ∀ y ∈ n.next, y + 1 < 18446744073709551616) (hmx : ∀ y ∈ n.mat, y + 1 < 18446744073709551616) (hix : m.index + 1 < 18446744073709551616) (hpv1 : m.prev + 1 < 18446744073709551616) (hl : n.log.last + 1 < 18446744073709551616) (hle : n.log.es.length ≤ 900000) :
  Calls Tryz.prog 14 #[.pointer (some ⟨b, 0, none⟩), .agg (cM m)] w fun e w' => NOut X P w b (n.onAcked m.ms) e w' := by
 obtain ⟨W1, hW1, F1, X1⟩ := mbox w m
 obtain ⟨g0, hg0⟩ : ∃ x, w.heap.size = x := ⟨_, rfl⟩
 rw [hg0] at X1
 have H := Lib.hid h
 have HG0 := Lib.hid hg0
 have gb : Hid (g0 ≠ b) := by have := lt_of_some h.top; show _ ≠ _; omega
 obtain ⟨me, hme⟩ : ∃ x, n.me = x := ⟨_, rfl⟩
 obtain ⟨ro, hro⟩ : ∃ x, n.role = x := ⟨_, rfl⟩
 obtain ⟨tm, htm⟩ : ∃ x, n.tm = x := ⟨_, rfl⟩
 obtain ⟨s, hs⟩ : ∃ x, m.src = x := ⟨_, rfl⟩
 obtain ⟨mt, hmt⟩ : ∃ x, m.tm = x := ⟨_, rfl⟩
 obtain ⟨ix, hixx⟩ : ∃ x, m.index = x := ⟨_, rfl⟩
 obtain ⟨pv, hpv⟩ : ∃ x, m.prev = x := ⟨_, rfl⟩
 obtain ⟨ok, hok⟩ : ∃ x, m.ok = x := ⟨_, rfl⟩
 have HL := Lib.hid (And.intro hme (And.intro hro (And.intro htm (And.intro hs (And.intro hmt (And.intro hixx (And.intro hpv hok)))))))
 have VH : Hid (∀ W : World, W.heap[g0]? = some (.cells (cM m) 32 (0, 0)) → W.cell? ⟨g0, 1, none⟩ = some (.int .i64 s) ∧ W.cell? ⟨g0, 3, none⟩ = some (.int .u64 (mt : Nat)) ∧ W.cell? ⟨g0, 4, none⟩ = some (.int .u64 (ix : Nat)) ∧ W.cell? ⟨g0, 5, none⟩ = some (.int .u64 (pv : Nat)) ∧ W.cell? ⟨g0, 7, none⟩ = some (.bool ok)) := fun W t => by
  obtain ⟨v0, v1, v2, v3, v4, v5, v6, v7, v8, v9⟩ := mcells t
  exact ⟨by rw [v1, hs], by rw [v3, hmt], by rw [v4, hixx], by rw [v5, hpv], by rw [v7, hok]⟩
 have v0 : W1.cell? ⟨g0, 0, none⟩ = some (.int .i64 6) := by rw [← hk6]; exact (mcells X1.out).1
 have y6 : W1.cell? ⟨b, 6, none⟩ = some (.int .u64 (tm : Nat)) := by rw [← htm]; exact (h.cells F1.out).2.2.2.2.2.2.1
 have v3 := (VH.out W1 X1.out).2.1
 have gl : decide (tm < mt) = false := by rw [← hmt, ← htm]; exact decide_eq_false hnlt
 have g1 : decide (mt < tm) = true := by rw [← hmt, ← htm]; exact decide_eq_true hlt
 have E : Hid (n.onAcked m.ms = (n, [])) := by
  show _ = _
  unfold Nd.onAcked
  rw [if_neg (fun e => e hk6), if_neg (show ¬ n.tm < m.ms.tm from hnlt), if_pos (show m.ms.tm < n.tm ∨ n.role ≠ 3 ∨ m.ms.src = n.me ∨ m.ms.src < 0 ∨ 15 < m.ms.src from Or.inl hlt)]
 unfold cM at hW1 ⊢
 clear hk6 hnlt h hme hro htm hs hmt hixx hpv hok hcf hpos hnx hmx hix hpv1 hl hle hlt
 go_enter Tryz.func14, Tryz.ntmps14
 go_wp2_with fail
 try rw [hW1]
 try rw [HG0.out]
 clear hW1 hg0 v0
 go_quiet (fail)
 clear y6 v3 gl
 have UQ : Hid (Fr (fun _ _ => True) W1 (W1.drewN nq)) := (Fr.refl _ W1).drewN nq
 generalize W1.drewN nq = W2 at UQ ⊢
 have F2 := Lib.hid (F1.out.trans UQ.out)
 have H2 := Lib.hid (H.out.tt F2.out)
 have T2 : Hid (W2.heap[g0]? = some (.cells (cM m) 32 (0, 0))) := UQ.out.keep _ _ X1.out trivial
 have y6 : W2.cell? ⟨b, 6, none⟩ = some (.int .u64 (tm : Nat)) := by rw [← HL.out.2.2.1]; exact (H2.out.cells (Fr.refl _ W2)).2.2.2.2.2.2.1
 have y2 : W2.cell? ⟨b, 2, none⟩ = some (.int .i64 ro) := by rw [← HL.out.2.1]; exact (H2.out.cells (Fr.refl _ W2)).2.2.1
 have y0 : W2.cell? ⟨b, 0, none⟩ = some (.int .i64 me) := by rw [← HL.out.1]; exact (H2.out.cells (Fr.refl _ W2)).1
 have v3 := (VH.out W2 T2.out).2.1
 have v1 := (VH.out W2 T2.out).1
 go_wp2_with fail
 go_quiet (fail)
 clear y6 y2 y0 v3 v1 g1
 have UQ2 : Hid (Fr (fun _ _ => True) W2 (W2.drewN nq)) := (Fr.refl _ W2).drewN nq
 generalize W2.drewN nq = W3 at UQ2 ⊢
 have F3 := Lib.hid (F2.out.trans UQ2.out)
 have H3 := Lib.hid (H2.out.tt UQ2.out)
 have T3 : Hid (W3.heap[g0]? = some (.cells (cM m) 32 (0, 0))) := UQ2.out.keep _ _ T2.out trivial
 go_wp2
 go_ret
 rw [E.out]
 exact ⟨X, P, q, _, [], rfl, H3.out, .tt F3.out H.out.px, OwnMs.nil _ _ _, rfl⟩
set_option maxRecDepth 100000 in
set_option maxHeartbeats 8000000 in
theorem onAckedR_calls [Old] (h : PNs X P w b n q) (m : MV) (hk6 : m.kind = 6) (hnlt : ¬ n.tm < m.tm) (hlt : ¬ m.tm < n.tm) (hr : n.role ≠ 3) (hcf : 0 < n.conf.length ∧ n.conf.length ≤ 16) (hpos : ∀ x ∈ n.conf, 0 ≤ x) (hnx : ∀ y ∈ n.next, y + 1 < 18446744073709551616) (hmx : ∀ y ∈ n.mat, y + 1 < 18446744073709551616) (hix : m.index + 1 < 18446744073709551616) (hpv1 : m.prev + 1 < 18446744073709551616) (hl : n.log.last + 1 < 18446744073709551616) (hle : n.log.es.length ≤ 900000) :
  Calls Tryz.prog 14 #[.pointer (some ⟨b, 0, none⟩), .agg (cM m)] w fun e w' => NOut X P w b (n.onAcked m.ms) e w' := by
 obtain ⟨W1, hW1, F1, X1⟩ := mbox w m
 obtain ⟨g0, hg0⟩ : ∃ x, w.heap.size = x := ⟨_, rfl⟩
 rw [hg0] at X1
 have H := Lib.hid h
 have HG0 := Lib.hid hg0
 have gb : Hid (g0 ≠ b) := by have := lt_of_some h.top; show _ ≠ _; omega
 obtain ⟨me, hme⟩ : ∃ x, n.me = x := ⟨_, rfl⟩
 obtain ⟨ro, hro⟩ : ∃ x, n.role = x := ⟨_, rfl⟩
 obtain ⟨tm, htm⟩ : ∃ x, n.tm = x := ⟨_, rfl⟩
 obtain ⟨s, hs⟩ : ∃ x, m.src = x := ⟨_, rfl⟩
 obtain ⟨mt, hmt⟩ : ∃ x, m.tm = x := ⟨_, rfl⟩
 obtain ⟨ix, hixx⟩ : ∃ x, m.index = x := ⟨_, rfl⟩
 obtain ⟨pv, hpv⟩ : ∃ x, m.prev = x := ⟨_, rfl⟩
 obtain ⟨ok, hok⟩ : ∃ x, m.ok = x := ⟨_, rfl⟩
 have HL := Lib.hid (And.intro hme (And.intro hro (And.intro htm (And.intro hs (And.intro hmt (And.intro hixx (And.intro hpv hok)))))))
 have VH : Hid (∀ W : World, W.heap[g0]? = some (.cells (cM m) 32 (0, 0)) → W.cell? ⟨g0, 1, none⟩ = some (.int .i64 s) ∧ W.cell? ⟨g0, 3, none⟩ = some (.int .u64 (mt : Nat)) ∧ W.cell? ⟨g0, 4, none⟩ = some (.int .u64 (ix : Nat)) ∧ W.cell? ⟨g0, 5, none⟩ = some (.int .u64 (pv : Nat)) ∧ W.cell? ⟨g0, 7, none⟩ = some (.bool ok)) := fun W t => by
  obtain ⟨v0, v1, v2, v3, v4, v5, v6, v7, v8, v9⟩ := mcells t
  exact ⟨by rw [v1, hs], by rw [v3, hmt], by rw [v4, hixx], by rw [v5, hpv], by rw [v7, hok]⟩
 have v0 : W1.cell? ⟨g0, 0, none⟩ = some (.int .i64 6) := by rw [← hk6]; exact (mcells X1.out).1
 have y6 : W1.cell? ⟨b, 6, none⟩ = some (.int .u64 (tm : Nat)) := by rw [← htm]; exact (h.cells F1.out).2.2.2.2.2.2.1
 have v3 := (VH.out W1 X1.out).2.1
 have gl : decide (tm < mt) = false := by rw [← hmt, ← htm]; exact decide_eq_false hnlt
 have g1 : decide (mt < tm) = false := by rw [← hmt, ← htm]; exact decide_eq_false hlt
 have g2 : (ro == 3) = false := by rw [← hro]; simpa using hr
 have g3 : (ro != 3) = true := by rw [bne, g2]; rfl
 have E : Hid (n.onAcked m.ms = (n, [])) := by
  show _ = _
  unfold Nd.onAcked
  rw [if_neg (fun e => e hk6), if_neg (show ¬ n.tm < m.ms.tm from hnlt), if_pos (show m.ms.tm < n.tm ∨ n.role ≠ 3 ∨ m.ms.src = n.me ∨ m.ms.src < 0 ∨ 15 < m.ms.src from Or.inr (Or.inl hr))]
 unfold cM at hW1 ⊢
 clear hk6 hnlt h hme hro htm hs hmt hixx hpv hok hcf hpos hnx hmx hix hpv1 hl hle hlt hr
 go_enter Tryz.func14, Tryz.ntmps14
 go_wp2_with fail
 try rw [hW1]
 try rw [HG0.out]
 clear hW1 hg0 v0
 go_quiet (fail)
 clear y6 v3 gl
 have UQ : Hid (Fr (fun _ _ => True) W1 (W1.drewN nq)) := (Fr.refl _ W1).drewN nq
 generalize W1.drewN nq = W2 at UQ ⊢
 have F2 := Lib.hid (F1.out.trans UQ.out)
 have H2 := Lib.hid (H.out.tt F2.out)
 have T2 : Hid (W2.heap[g0]? = some (.cells (cM m) 32 (0, 0))) := UQ.out.keep _ _ X1.out trivial
 have y6 : W2.cell? ⟨b, 6, none⟩ = some (.int .u64 (tm : Nat)) := by rw [← HL.out.2.2.1]; exact (H2.out.cells (Fr.refl _ W2)).2.2.2.2.2.2.1
 have y2 : W2.cell? ⟨b, 2, none⟩ = some (.int .i64 ro) := by rw [← HL.out.2.1]; exact (H2.out.cells (Fr.refl _ W2)).2.2.1
 have y0 : W2.cell? ⟨b, 0, none⟩ = some (.int .i64 me) := by rw [← HL.out.1]; exact (H2.out.cells (Fr.refl _ W2)).1
 have v3 := (VH.out W2 T2.out).2.1
 have v1 := (VH.out W2 T2.out).1
 go_wp2_with fail
 go_quiet (fail)
 clear y6 y2 y0 v3 v1 g1 g2 g3
 have UQ2 : Hid (Fr (fun _ _ => True) W2 (W2.drewN nq)) := (Fr.refl _ W2).drewN nq
 generalize W2.drewN nq = W3 at UQ2 ⊢
 have F3 := Lib.hid (F2.out.trans UQ2.out)
 have H3 := Lib.hid (H2.out.tt UQ2.out)
 have T3 : Hid (W3.heap[g0]? = some (.cells (cM m) 32 (0, 0))) := UQ2.out.keep _ _ T2.out trivial
 go_wp2
 go_ret
 rw [E.out]
 exact ⟨X, P, q, _, [], rfl, H3.out, .tt F3.out H.out.px, OwnMs.nil _ _ _, rfl⟩
set_option maxRecDepth 100000 in
set_option maxHeartbeats 8000000 in
theorem onAckedM_calls [Old] (h : PNs X P w b n q) (m : MV) (hk6 : m.kind = 6) (hnlt : ¬ n.tm < m.tm) (hlt : ¬ m.tm < n.tm) (hr : n.role = 3) (hx : m.src = n.me) (hcf : 0 < n.conf.length ∧ n.conf.length ≤ 16) (hpos : ∀ x ∈ n.conf, 0 ≤ x) (hnx : ∀ y ∈ n.next, y + 1 < 18446744073709551616) (hmx : ∀ y ∈ n.mat, y + 1 < 18446744073709551616) (hix : m.index + 1 < 18446744073709551616) (hpv1 : m.prev + 1 < 18446744073709551616) (hl : n.log.last + 1 < 18446744073709551616) (hle : n.log.es.length ≤ 900000) :
  Calls Tryz.prog 14 #[.pointer (some ⟨b, 0, none⟩), .agg (cM m)] w fun e w' => NOut X P w b (n.onAcked m.ms) e w' := by
 obtain ⟨W1, hW1, F1, X1⟩ := mbox w m
 obtain ⟨g0, hg0⟩ : ∃ x, w.heap.size = x := ⟨_, rfl⟩
 rw [hg0] at X1
 have H := Lib.hid h
 have HG0 := Lib.hid hg0
 have gb : Hid (g0 ≠ b) := by have := lt_of_some h.top; show _ ≠ _; omega
 obtain ⟨me, hme⟩ : ∃ x, n.me = x := ⟨_, rfl⟩
 obtain ⟨ro, hro⟩ : ∃ x, n.role = x := ⟨_, rfl⟩
 obtain ⟨tm, htm⟩ : ∃ x, n.tm = x := ⟨_, rfl⟩
 obtain ⟨s, hs⟩ : ∃ x, m.src = x := ⟨_, rfl⟩
 obtain ⟨mt, hmt⟩ : ∃ x, m.tm = x := ⟨_, rfl⟩
 obtain ⟨ix, hixx⟩ : ∃ x, m.index = x := ⟨_, rfl⟩
 obtain ⟨pv, hpv⟩ : ∃ x, m.prev = x := ⟨_, rfl⟩
 obtain ⟨ok, hok⟩ : ∃ x, m.ok = x := ⟨_, rfl⟩
 have HL := Lib.hid (And.intro hme (And.intro hro (And.intro htm (And.intro hs (And.intro hmt (And.intro hixx (And.intro hpv hok)))))))
 have VH : Hid (∀ W : World, W.heap[g0]? = some (.cells (cM m) 32 (0, 0)) → W.cell? ⟨g0, 1, none⟩ = some (.int .i64 s) ∧ W.cell? ⟨g0, 3, none⟩ = some (.int .u64 (mt : Nat)) ∧ W.cell? ⟨g0, 4, none⟩ = some (.int .u64 (ix : Nat)) ∧ W.cell? ⟨g0, 5, none⟩ = some (.int .u64 (pv : Nat)) ∧ W.cell? ⟨g0, 7, none⟩ = some (.bool ok)) := fun W t => by
  obtain ⟨v0, v1, v2, v3, v4, v5, v6, v7, v8, v9⟩ := mcells t
  exact ⟨by rw [v1, hs], by rw [v3, hmt], by rw [v4, hixx], by rw [v5, hpv], by rw [v7, hok]⟩
 have v0 : W1.cell? ⟨g0, 0, none⟩ = some (.int .i64 6) := by rw [← hk6]; exact (mcells X1.out).1
 have y6 : W1.cell? ⟨b, 6, none⟩ = some (.int .u64 (tm : Nat)) := by rw [← htm]; exact (h.cells F1.out).2.2.2.2.2.2.1
 have v3 := (VH.out W1 X1.out).2.1
 have gl : decide (tm < mt) = false := by rw [← hmt, ← htm]; exact decide_eq_false hnlt
 have g1 : decide (mt < tm) = false := by rw [← hmt, ← htm]; exact decide_eq_false hlt
 obtain rfl : ro = 3 := by rw [← hro]; exact hr
 obtain rfl : s = me := by rw [← hs, ← hme]; exact hx
 have g2 : (s == s) = true := by simp
 have E : Hid (n.onAcked m.ms = (n, [])) := by
  show _ = _
  unfold Nd.onAcked
  rw [if_neg (fun e => e hk6), if_neg (show ¬ n.tm < m.ms.tm from hnlt), if_pos (show m.ms.tm < n.tm ∨ n.role ≠ 3 ∨ m.ms.src = n.me ∨ m.ms.src < 0 ∨ 15 < m.ms.src from Or.inr (Or.inr (Or.inl hx)))]
 unfold cM at hW1 ⊢
 clear hk6 hnlt h hme hro htm hs hmt hixx hpv hok hcf hpos hnx hmx hix hpv1 hl hle hlt hr hx
 go_enter Tryz.func14, Tryz.ntmps14
 go_wp2_with fail
 try rw [hW1]
 try rw [HG0.out]
 clear hW1 hg0 v0
 go_quiet (fail)
 clear y6 v3 gl
 have UQ : Hid (Fr (fun _ _ => True) W1 (W1.drewN nq)) := (Fr.refl _ W1).drewN nq
 generalize W1.drewN nq = W2 at UQ ⊢
 have F2 := Lib.hid (F1.out.trans UQ.out)
 have H2 := Lib.hid (H.out.tt F2.out)
 have T2 : Hid (W2.heap[g0]? = some (.cells (cM m) 32 (0, 0))) := UQ.out.keep _ _ X1.out trivial
 have y6 : W2.cell? ⟨b, 6, none⟩ = some (.int .u64 (tm : Nat)) := by rw [← HL.out.2.2.1]; exact (H2.out.cells (Fr.refl _ W2)).2.2.2.2.2.2.1
 have y2 : W2.cell? ⟨b, 2, none⟩ = some (.int .i64 3) := by rw [← HL.out.2.1]; exact (H2.out.cells (Fr.refl _ W2)).2.2.1
 have y0 : W2.cell? ⟨b, 0, none⟩ = some (.int .i64 s) := by rw [← HL.out.1]; exact (H2.out.cells (Fr.refl _ W2)).1
 have v3 := (VH.out W2 T2.out).2.1
 have v1 := (VH.out W2 T2.out).1
 go_wp2_with fail
 go_quiet (fail)
 clear y6 y2 y0 v3 v1 g1 g2
 have UQ2 : Hid (Fr (fun _ _ => True) W2 (W2.drewN nq)) := (Fr.refl _ W2).drewN nq
 generalize W2.drewN nq = W3 at UQ2 ⊢
 have F3 := Lib.hid (F2.out.trans UQ2.out)
 have H3 := Lib.hid (H2.out.tt UQ2.out)
 have T3 : Hid (W3.heap[g0]? = some (.cells (cM m) 32 (0, 0))) := UQ2.out.keep _ _ T2.out trivial
 go_wp2
 go_ret
 rw [E.out]
 exact ⟨X, P, q, _, [], rfl, H3.out, .tt F3.out H.out.px, OwnMs.nil _ _ _, rfl⟩
set_option maxRecDepth 100000 in
set_option maxHeartbeats 8000000 in
theorem onAckedN_calls [Old] (h : PNs X P w b n q) (m : MV) (hk6 : m.kind = 6) (hnlt : ¬ n.tm < m.tm) (hlt : ¬ m.tm < n.tm) (hr : n.role = 3) (hx : m.src ≠ n.me) (h16 : ¬ (0 ≤ m.src ∧ m.src < 16)) (hcf : 0 < n.conf.length ∧ n.conf.length ≤ 16) (hpos : ∀ x ∈ n.conf, 0 ≤ x) (hnx : ∀ y ∈ n.next, y + 1 < 18446744073709551616) (hmx : ∀ y ∈ n.mat, y + 1 < 18446744073709551616) (hix : m.index + 1 < 18446744073709551616) (hpv1 : m.prev + 1 < 18446744073709551616) (hl : n.log.last + 1 < 18446744073709551616) (hle : n.log.es.length ≤ 900000) :
  Calls Tryz.prog 14 #[.pointer (some ⟨b, 0, none⟩), .agg (cM m)] w fun e w' => NOut X P w b (n.onAcked m.ms) e w' := by
 obtain ⟨W1, hW1, F1, X1⟩ := mbox w m
 obtain ⟨g0, hg0⟩ : ∃ x, w.heap.size = x := ⟨_, rfl⟩
 rw [hg0] at X1
 have H := Lib.hid h
 have HG0 := Lib.hid hg0
 have gb : Hid (g0 ≠ b) := by have := lt_of_some h.top; show _ ≠ _; omega
 obtain ⟨me, hme⟩ : ∃ x, n.me = x := ⟨_, rfl⟩
 obtain ⟨ro, hro⟩ : ∃ x, n.role = x := ⟨_, rfl⟩
 obtain ⟨tm, htm⟩ : ∃ x, n.tm = x := ⟨_, rfl⟩
 obtain ⟨s, hs⟩ : ∃ x, m.src = x := ⟨_, rfl⟩
 obtain ⟨mt, hmt⟩ : ∃ x, m.tm = x := ⟨_, rfl⟩
 obtain ⟨ix, hixx⟩ : ∃ x, m.index = x := ⟨_, rfl⟩
 obtain ⟨pv, hpv⟩ : ∃ x, m.prev = x := ⟨_, rfl⟩
 obtain ⟨ok, hok⟩ : ∃ x, m.ok = x := ⟨_, rfl⟩
 have HL := Lib.hid (And.intro hme (And.intro hro (And.intro htm (And.intro hs (And.intro hmt (And.intro hixx (And.intro hpv hok)))))))
 have VH : Hid (∀ W : World, W.heap[g0]? = some (.cells (cM m) 32 (0, 0)) → W.cell? ⟨g0, 1, none⟩ = some (.int .i64 s) ∧ W.cell? ⟨g0, 3, none⟩ = some (.int .u64 (mt : Nat)) ∧ W.cell? ⟨g0, 4, none⟩ = some (.int .u64 (ix : Nat)) ∧ W.cell? ⟨g0, 5, none⟩ = some (.int .u64 (pv : Nat)) ∧ W.cell? ⟨g0, 7, none⟩ = some (.bool ok)) := fun W t => by
  obtain ⟨v0, v1, v2, v3, v4, v5, v6, v7, v8, v9⟩ := mcells t
  exact ⟨by rw [v1, hs], by rw [v3, hmt], by rw [v4, hixx], by rw [v5, hpv], by rw [v7, hok]⟩
 have v0 : W1.cell? ⟨g0, 0, none⟩ = some (.int .i64 6) := by rw [← hk6]; exact (mcells X1.out).1
 have y6 : W1.cell? ⟨b, 6, none⟩ = some (.int .u64 (tm : Nat)) := by rw [← htm]; exact (h.cells F1.out).2.2.2.2.2.2.1
 have v3 := (VH.out W1 X1.out).2.1
 have gl : decide (tm < mt) = false := by rw [← hmt, ← htm]; exact decide_eq_false hnlt
 have g1 : decide (mt < tm) = false := by rw [← hmt, ← htm]; exact decide_eq_false hlt
 obtain rfl : ro = 3 := by rw [← hro]; exact hr
 have g2 : (s == me) = false := by rw [← hs, ← hme]; simpa using hx
 have NC := Lib.hid (fun W => fnode_calls W s)
 rw [decide_eq_false (show ¬ (0 ≤ s ∧ s < 16) by rw [← hs]; exact h16)] at NC
 have E : Hid (n.onAcked m.ms = (n, [])) := by
  show _ = _
  unfold Nd.onAcked
  rw [if_neg (fun e => e hk6), if_neg (show ¬ n.tm < m.ms.tm from hnlt), if_pos (show m.ms.tm < n.tm ∨ n.role ≠ 3 ∨ m.ms.src = n.me ∨ m.ms.src < 0 ∨ 15 < m.ms.src from Or.inr (Or.inr (Or.inr (by show m.src < 0 ∨ 15 < m.src; omega))))]
 unfold cM at hW1 ⊢
 clear hk6 hnlt h hme hro htm hs hmt hixx hpv hok hcf hpos hnx hmx hix hpv1 hl hle hlt hr hx h16
 go_enter Tryz.func14, Tryz.ntmps14
 go_wp2_with fail
 try rw [hW1]
 try rw [HG0.out]
 clear hW1 hg0 v0
 go_quiet (fail)
 clear y6 v3 gl
 have UQ : Hid (Fr (fun _ _ => True) W1 (W1.drewN nq)) := (Fr.refl _ W1).drewN nq
 generalize W1.drewN nq = W2 at UQ ⊢
 have F2 := Lib.hid (F1.out.trans UQ.out)
 have H2 := Lib.hid (H.out.tt F2.out)
 have T2 : Hid (W2.heap[g0]? = some (.cells (cM m) 32 (0, 0))) := UQ.out.keep _ _ X1.out trivial
 have y6 : W2.cell? ⟨b, 6, none⟩ = some (.int .u64 (tm : Nat)) := by rw [← HL.out.2.2.1]; exact (H2.out.cells (Fr.refl _ W2)).2.2.2.2.2.2.1
 have y2 : W2.cell? ⟨b, 2, none⟩ = some (.int .i64 3) := by rw [← HL.out.2.1]; exact (H2.out.cells (Fr.refl _ W2)).2.2.1
 have y0 : W2.cell? ⟨b, 0, none⟩ = some (.int .i64 me) := by rw [← HL.out.1]; exact (H2.out.cells (Fr.refl _ W2)).1
 have v3 := (VH.out W2 T2.out).2.1
 have v1 := (VH.out W2 T2.out).1
 go_wp2_with fail
 go_quiet ((go_at_call 62; exact Calls.quiet_of_same ((NC.out _).mono fun e w' h => And.intro h.1 h.2.symm)))
 clear y6 y2 y0 v3 v1 g1 g2 NC
 have UQ2 : Hid (Fr (fun _ _ => True) W2 (W2.drewN nq)) := (Fr.refl _ W2).drewN nq
 generalize W2.drewN nq = W3 at UQ2 ⊢
 have F3 := Lib.hid (F2.out.trans UQ2.out)
 have H3 := Lib.hid (H2.out.tt UQ2.out)
 have T3 : Hid (W3.heap[g0]? = some (.cells (cM m) 32 (0, 0))) := UQ2.out.keep _ _ T2.out trivial
 go_wp2
 go_ret
 rw [E.out]
 exact ⟨X, P, q, _, [], rfl, H3.out, .tt F3.out H.out.px, OwnMs.nil _ _ _, rfl⟩
end
end Go.Proofs.YtmjccpfchhnfhaaGreat
