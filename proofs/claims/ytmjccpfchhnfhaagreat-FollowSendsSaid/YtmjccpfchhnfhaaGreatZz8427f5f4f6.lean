/- Texts of the proofs, part 33: what the functions that they reach do, walked; no conditions beyond those that each states. -/
import Derived.Test.YtmjccpfchhnfhaaGreatZz3d90a35ff3
import Derived.Test.YtmjccpfchhnfhaaGreatZzdb24504068
set_option linter.unusedVariables false
set_option linter.unusedSimpArgs false
/- The document's nodes: Propose (printed by dr6.py). -/
namespace Go.Proofs.YtmjccpfchhnfhaaGreat
open Go.RowKit
set_option linter.unusedVariables false
set_option linter.unusedSimpArgs false
section
variable {X : Nat → Prop} {w w' : World} {b : Nat} {n n' : Nd} {q q' : DV}
def DPOut [Old] (X : Nat → Prop) (w : World) (b : Nat) (r : Nd × Nat × Int) (e : Ending) (w' : World) : Prop := (∃ q', e = .returned (.tuple #[.int .u64 (r.2.1 : Nat), .int .i64 r.2.2]) ∧ DNs X w' b r.1 q') ∧ Fr (fun c _ => c ≠ b) w w'
theorem DNs.lg [Old] (h : DNs X w b n q) : ∃ ae le ce, q.ve = .slice ae le ce ∧ n.log.es.length = le ∧ q.es.length = le ∧ (∀ W, Fr (fun _ _ => True) w W → EsAt X W (.slice ae le ce) q.es) ∧ lgE n.log.base n.log.bt q.es = n.log := by
 obtain ⟨a, c', e, _⟩ := h.ev.row.form
 exact ⟨a, q.es.length, c', e, h.esl, rfl, fun W f => by have := h.ev.tt f; rw [e] at this; exact this, by unfold lgE; rw [← h.ee]⟩
theorem DNs.setM [Old] (h : DNs X w b n q) (i y : Nat) (hi : i < 16) : DNs X (w.setCell ⟨b, 28 + i, none⟩ (natN y)) b { n with mat := n.mat.set i y } q ∧ Fr (fun c _ => c ≠ b) w (w.setCell ⟨b, 28 + i, none⟩ (natN y)) := by
 have f : Fr (fun c _ => c ≠ b) w (w.setCell ⟨b, 28 + i, none⟩ (natN y)) := (Fr.refl _ _).setCell (fun _ _ h => h rfl) _
 refine ⟨h.re f ?_ ⟨rfl, rfl⟩ (h.ye.aft (h.own f)) ⟨h.ee, h.ev.aft (h.own f)⟩ ⟨h.nl, by show (n.mat.set i y).length = 16; rw [List.length_set]; exact h.ml⟩, f⟩
 rw [← W44_setM n q i y hi h.ml]
 exact heap_setCell_same h.top _
theorem DNs.setN [Old] (h : DNs X w b n q) (i y : Nat) (hi : i < 16) : DNs X (w.setCell ⟨b, 12 + i, none⟩ (natN y)) b { n with next := n.next.set i y } q ∧ Fr (fun c _ => c ≠ b) w (w.setCell ⟨b, 12 + i, none⟩ (natN y)) := by
 have f : Fr (fun c _ => c ≠ b) w (w.setCell ⟨b, 12 + i, none⟩ (natN y)) := (Fr.refl _ _).setCell (fun _ _ h => h rfl) _
 refine ⟨h.re f ?_ ⟨rfl, rfl⟩ (h.ye.aft (h.own f)) ⟨h.ee, h.ev.aft (h.own f)⟩ ⟨by show (n.next.set i y).length = 16; rw [List.length_set]; exact h.nl, h.ml⟩, f⟩
 rw [← W44_setN n q i y hi h.nl]
 exact heap_setCell_same h.top _
set_option maxRecDepth 100000 in
set_option maxHeartbeats 4000000 in
theorem dpropR_calls [Old] (h : DNs X w b n q) (kind : Int) (da : Option Addr) (dc : Nat) (d : List UInt8) (hr : n.role ≠ 3) (hd : BytesAt (RO X) w (.slice da d.length dc) d) (hcf : 0 < n.conf.length ∧ n.conf.length ≤ 16) (hpos : ∀ x ∈ n.conf, 0 ≤ x ∧ x ≤ 15) (mN : Nat) (hme : n.me = (mN : Nat)) (hm16 : mN < 16) (hl : n.log.last + 2 < 18446744073709551616) (hle : n.log.es.length ≤ 800000) :
  Calls Tryz.prog 24 #[.pointer (some ⟨b, 0, none⟩), .int .i64 kind, .slice da d.length dc] w fun e w' => DPOut X w b (n.propose kind d) e w' := by
 have E : n.propose kind d = (n, 0, 70) := if_pos hr
 have x2 := (h.cells (Fr.refl _ w)).2.2.1
 obtain ⟨ro, hro⟩ : ∃ x, n.role = x := ⟨_, rfl⟩
 rw [hro] at x2 hr
 have H := Lib.hid h
 have HE := Lib.hid E
 have g1 : (ro == 3) = false := by simpa using hr
 have g2 : (ro != 3) = true := by rw [bne, g1]; rfl
 clear hr
 clear h E hro hd hcf hpos hme hl hle
 go_enter Tryz.func24, Tryz.ntmps24
 go_wp2
 (try simp only [Exit.inBlock, Exit.then])
 refine bodyPost_ret (results_tmp2 rfl _ _ _) rfl ?_
 rw [HE.out]
 exact ⟨⟨q, rfl, H.out⟩, Fr.refl _ _⟩
set_option maxRecDepth 100000 in
set_option maxHeartbeats 4000000 in
theorem dpropK_calls [Old] (h : DNs X w b n q) (kind : Int) (da : Option Addr) (dc : Nat) (d : List UInt8) (hr : n.role = 3) (hk : kind < 1) (hd : BytesAt (RO X) w (.slice da d.length dc) d) (hcf : 0 < n.conf.length ∧ n.conf.length ≤ 16) (hpos : ∀ x ∈ n.conf, 0 ≤ x ∧ x ≤ 15) (mN : Nat) (hme : n.me = (mN : Nat)) (hm16 : mN < 16) (hl : n.log.last + 2 < 18446744073709551616) (hle : n.log.es.length ≤ 800000) :
  Calls Tryz.prog 24 #[.pointer (some ⟨b, 0, none⟩), .int .i64 kind, .slice da d.length dc] w fun e w' => DPOut X w b (n.propose kind d) e w' := by
 have E : n.propose kind d = (n, 0, 30) := by unfold Nd.propose; rw [if_neg (by rw [hr]; decide), if_pos (.inl hk)]
 have x2 := (h.cells (Fr.refl _ w)).2.2.1
 obtain ⟨ro, hro⟩ : ∃ x, n.role = x := ⟨_, rfl⟩
 rw [hro] at x2 hr
 have H := Lib.hid h
 have HE := Lib.hid E
 subst hr
 clear h E hro hd hcf hpos hme hl hle
 go_enter Tryz.func24, Tryz.ntmps24
 go_wp2
 (try simp only [Exit.inBlock, Exit.then])
 refine bodyPost_ret (results_tmp2 rfl _ _ _) rfl ?_
 rw [HE.out]
 exact ⟨⟨q, rfl, H.out⟩, Fr.refl _ _⟩
set_option maxRecDepth 100000 in
set_option maxHeartbeats 4000000 in
theorem dpropL_calls [Old] (h : DNs X w b n q) (kind : Int) (da : Option Addr) (dc : Nat) (d : List UInt8) (hr : n.role = 3) (hk : 255 < kind) (hd : BytesAt (RO X) w (.slice da d.length dc) d) (hcf : 0 < n.conf.length ∧ n.conf.length ≤ 16) (hpos : ∀ x ∈ n.conf, 0 ≤ x ∧ x ≤ 15) (mN : Nat) (hme : n.me = (mN : Nat)) (hm16 : mN < 16) (hl : n.log.last + 2 < 18446744073709551616) (hle : n.log.es.length ≤ 800000) :
  Calls Tryz.prog 24 #[.pointer (some ⟨b, 0, none⟩), .int .i64 kind, .slice da d.length dc] w fun e w' => DPOut X w b (n.propose kind d) e w' := by
 have E : n.propose kind d = (n, 0, 30) := by unfold Nd.propose; rw [if_neg (by rw [hr]; decide), if_pos (.inr hk)]
 have x2 := (h.cells (Fr.refl _ w)).2.2.1
 obtain ⟨ro, hro⟩ : ∃ x, n.role = x := ⟨_, rfl⟩
 rw [hro] at x2 hr
 have H := Lib.hid h
 have HE := Lib.hid E
 subst hr
 have hk1 : ¬ kind < 1 := by omega
 clear h E hro hd hcf hpos hme hl hle
 go_enter Tryz.func24, Tryz.ntmps24
 go_wp2
 (try simp only [Exit.inBlock, Exit.then])
 refine bodyPost_ret (results_tmp2 rfl _ _ _) rfl ?_
 rw [HE.out]
 exact ⟨⟨q, rfl, H.out⟩, Fr.refl _ _⟩
set_option maxRecDepth 100000 in
set_option maxHeartbeats 4000000 in
theorem dpropD_calls [Old] (h : DNs X w b n q) (kind : Int) (da : Option Addr) (dc : Nat) (d : List UInt8) (hr : n.role = 3) (hk : ¬ kind < 1) (hk2 : ¬ 255 < kind) (hdl : 24 < d.length) (hd : BytesAt (RO X) w (.slice da d.length dc) d) (hcf : 0 < n.conf.length ∧ n.conf.length ≤ 16) (hpos : ∀ x ∈ n.conf, 0 ≤ x ∧ x ≤ 15) (mN : Nat) (hme : n.me = (mN : Nat)) (hm16 : mN < 16) (hl : n.log.last + 2 < 18446744073709551616) (hle : n.log.es.length ≤ 800000) :
  Calls Tryz.prog 24 #[.pointer (some ⟨b, 0, none⟩), .int .i64 kind, .slice da d.length dc] w fun e w' => DPOut X w b (n.propose kind d) e w' := by
 have E : n.propose kind d = (n, 0, 2) := by unfold Nd.propose; rw [if_neg (by rw [hr]; decide), if_neg (by omega), if_pos hdl]
 have x2 := (h.cells (Fr.refl _ w)).2.2.1
 obtain ⟨ro, hro⟩ : ∃ x, n.role = x := ⟨_, rfl⟩
 rw [hro] at x2 hr
 have H := Lib.hid h
 have HE := Lib.hid E
 subst hr
 have g1 : decide (24 < d.length) = true := decide_eq_true hdl
 have g2 : (24 : Int) < (d.length : Int) := by omega
 clear hdl
 clear h E hro hd hcf hpos hme hl hle
 go_enter Tryz.func24, Tryz.ntmps24
 go_wp2
 (try simp only [Exit.inBlock, Exit.then])
 refine bodyPost_ret (results_tmp2 rfl _ _ _) rfl ?_
 rw [HE.out]
 exact ⟨⟨q, rfl, H.out⟩, Fr.refl _ _⟩
set_option maxRecDepth 100000 in
set_option maxHeartbeats 4000000 in
theorem dpropG_calls [Old] (h : DNs X w b n q) (kind : Int) (da : Option Addr) (dc : Nat) (d : List UInt8) (hr : n.role = 3) (hk : ¬ kind < 1) (hk2 : ¬ 255 < kind) (hdl : ¬ 24 < d.length) (hd : BytesAt (RO X) w (.slice da d.length dc) d) (hcf : 0 < n.conf.length ∧ n.conf.length ≤ 16) (hpos : ∀ x ∈ n.conf, 0 ≤ x ∧ x ≤ 15) (mN : Nat) (hme : n.me = (mN : Nat)) (hm16 : mN < 16) (hl : n.log.last + 2 < 18446744073709551616) (hle : n.log.es.length ≤ 800000) :
  Calls Tryz.prog 24 #[.pointer (some ⟨b, 0, none⟩), .int .i64 kind, .slice da d.length dc] w fun e w' => DPOut X w b (n.propose kind d) e w' := by
 obtain ⟨ae, le, ce, hve, hle2, hel, hes, hlg⟩ := h.lg
 have OUT0 : n.propose kind d = (({ n with log := n.log.add ⟨n.tm, kind, d⟩, mat := n.mat.set n.me.toNat (n.log.last + 1) } : Nd).sure, n.log.last + 1, 0) := by unfold Nd.propose; rw [if_neg (by rw [hr]; decide), if_neg (by omega), if_neg hdl]
 obtain ⟨bs, hbs⟩ : ∃ x, n.log.base = x := ⟨_, rfl⟩
 obtain ⟨bt, hbt⟩ : ∃ x, n.log.bt = x := ⟨_, rfl⟩
 obtain ⟨tm, htm⟩ : ∃ x, n.tm = x := ⟨_, rfl⟩
 obtain ⟨L, hL⟩ : ∃ L, bs + (le + 1) = L := ⟨_, rfl⟩
 have hL2 : n.log.last + 1 = L := by unfold Lg.last; omega
 have hl2 : bs + le + 2 < 18446744073709551616 := by unfold Lg.last at hl; omega
 have ADD := Lib.hid (fun W (f : Fr (fun _ _ => True) w W) => dadd_calls W bs bt ae le ce q.es ⟨tm, kind, da, dc, d⟩ (hes W f) (hd.tt f) (show d.length ≤ 9223372036854775807 by omega) (by omega) (fun cc hc => Nat.lt_of_lt_of_le (h.hx cc hc) f.size))
 have CC : Hid (∀ W, Fr (fun _ _ => True) w W → W.cell? ⟨b, 0, none⟩ = some (.int .i64 (mN : Nat)) ∧ W.cell? ⟨b, 6, none⟩ = some (.int .u64 (tm : Nat)) ∧ W.cell? ⟨b, 8, none⟩ = some (.int .u64 (bs : Nat)) ∧ W.cell? ⟨b, 9, none⟩ = some (.int .u64 (bt : Nat)) ∧ W.cell? ⟨b, 10, none⟩ = some (.slice ae le ce)) := fun W f => by
  obtain ⟨x0, x1, x2, x3, x4, x5, x6, x7, x8, x9, x10, x11⟩ := h.cells f
  exact ⟨by rw [x0, hme], by rw [x6, htm], by rw [x8, hbs], by rw [x9, hbt], by rw [x10, hve]⟩
 have H := Lib.hid h
 have x2 := (h.cells (Fr.refl _ w)).2.2.1
 rw [hr] at x2
 have g1 : decide (24 < d.length) = false := decide_eq_false hdl
 have g2 : ¬ (24 : Int) < (d.length : Int) := by omega
 have UD : Hid (Fr (fun _ _ => True) w w.drew) := (Fr.refl _ _).drew
 have LAST := Lib.hid (fun W a8 c8 => dlst_calls W bs bt a8 (le + 1) c8 (by omega))
 rw [hL] at LAST
 have HLS := Lib.hid hL2
 have HCF := Lib.hid hcf
 have HPO := Lib.hid hpos
 have HME := Lib.hid hme
 have HLL := Lib.hid (And.intro hl hle)
 have HQ := Lib.hid (And.intro hbs (And.intro hbt htm))
 have OUT := Lib.hid OUT0
 clear h hr hd hcf hpos hme hl hle hve hle2 hel hes hlg OUT0 hbs hbt htm hL hL2 hl2 hdl
 dsimp only [vL9] at LAST
 go_enter Tryz.func24, Tryz.ntmps24
 go_wp2_with fail
 refine wp_region_cf (K := fun _ _ => True) (by kernel_rfl) [(22, 0), (23, 1), (24, 2), (25, 3), (26, 4), (27, 5), (28, 6), (29, 7), (30, 8), (31, 9), (32, 10), (33, 11), (34, 12), (35, 13), (36, 14)] [(0, []), (1, []), (2, [1]), (3, [2]), (4, [3]), (5, []), (6, [5]), (7, [6]), (8, [7]), (9, []), (10, []), (11, [8, 9, 10]), (12, [4, 11])] (ckR [(0, .pointer (some ⟨b, 0, none⟩)), (1, .pointer (some ⟨b, 0, none⟩)), (2, .pointer (some ⟨b, 0, none⟩)), (3, .pointer (some ⟨b, 8, none⟩)), (4, .agg #[.int .u64 (bs : Nat), .int .u64 (bt : Nat), .slice ae le ce]), (5, .pointer (some ⟨b, 0, none⟩)), (6, .pointer (some ⟨b, 0, none⟩)), (7, .pointer (some ⟨b, 6, none⟩)), (8, .int .u64 (tm : Nat)), (9, .int .i64 kind), (10, .slice da d.length dc), (11, .agg #[.int .u64 (tm : Nat), .int .i64 kind, .slice da d.length dc])] [(12, ⟨fun v W => ∃ a' c', v = .agg #[.int .u64 (bs : Nat), .int .u64 (bt : Nat), .slice a' (le + 1) c'] ∧ EsAt X W (.slice a' (le + 1) c') (q.es ++ [⟨tm, kind, da, dc, d⟩]), fun v W W' h hf => by obtain ⟨a', c', h1, h2⟩ := h; exact ⟨a', c', h1, h2.tt hf⟩⟩)] 13 0) 3 (by kernel_rfl) (by kernel_rfl) (by kernel_rfl) rfl ?cfall ?cfend
 case cfall =>
  iterate 12
   refine CfAll.kk rfl rfl rfl (fun xs W hF hE K' hK => ?_) ?_
   ·have HF := Lib.hid hF
    clear hF
    simp only [ckEqs, ckLook, Nat.reduceBEq] at hE
    simp only [fillA, fillL, sA, sB, sC, Act.put, hE] at hK ⊢
    clear hE
    obtain ⟨y0, y6, y8, y9, y10⟩ := CC.out W (UD.out.trans HF.out)
    (try simp only [gA, gB, gC])
    go_simp
    exact hK.out _ rfl
  refine CfAll.k rfl rfl (fun xs W hF hA hE K' hK => ?_) ?_
  ·have HF := Lib.hid hF
   clear hA hF
   simp only [ckEqs, ckLook, Nat.reduceBEq] at hE
   simp only [fillA, fillL, sA, sB, sC, Act.put, hE] at hK ⊢
   clear hE
   have AD1 := Lib.hid (ADD.out W (UD.out.trans HF.out))
   dsimp only [vL9, vE] at AD1
   (try simp only [gA, gB, gC])
   go_simp
   (with_reducible refine AD1.out.mono ?_)
   rintro e w8 ⟨⟨a8, c8, rfl, r9⟩, f8⟩
   exact hK.out _ _ _ rfl f8 ⟨a8, c8, rfl, r9⟩
  exact CfAll.nil
 case cfend =>
  intro xs W hF hA
  have HF := Lib.hid hF
  have hE := ckEnd rfl hA
  have h12 := hA (12, [4, 11]) (by decide)
  clear hA hF
  simp only [List.map_cons, List.map_nil, ckEqs, ckLook, Nat.reduceBEq] at hE
  simp only [fillA, fillL, sA, sB, sC, hE]
  clear hE
  obtain ⟨a8, c8, e12, r8⟩ := h12
  rw [e12]
  have R8 := Lib.hid r8
  clear e12 r8 ADD x2 g1 g2
  have F2 := Lib.hid (UD.out.trans HF.out)
  have H2 := Lib.hid (H.out.tt F2.out)
  obtain ⟨x0, x1, x2, x3, x4, x5, x6, x7, x8, x9, x10, x11⟩ := H2.out.cells (Fr.refl _ W)
  have z8 := H2.out.free (Fr.refl _ W) 8
  have z9 := H2.out.free (Fr.refl _ W) 9
  have z10 := H2.out.free (Fr.refl _ W) 10
  refine wpAny_next 13 (by kernel_rfl) rfl fun K' hK => ?_
  (try simp only [gA, gB, gC])
  go_simp
  refine hK.out _ _ ?_
  clear hK K'
  refine wpAny_next 14 (by kernel_rfl) rfl fun K' hK => ?_
  (try simp only [gA, gB, gC])
  go_simp
  refine hK.out _ _ ?_
  clear hK K'
  refine wpAny_next 15 (by kernel_rfl) rfl fun K' hK => ?_
  (try simp only [gA, gB, gC])
  go_simp
  refine hK.out _ _ ?_
  clear hK K'
  refine wpAny_fin (by kernel_rfl) ?_
  obtain ⟨n2, hn2⟩ : ∃ m : Nd, { n with log := n.log.add ⟨n.tm, kind, d⟩ } = m := ⟨_, rfl⟩
  obtain ⟨q2, hq2⟩ : ∃ m : DV, { q with ve := .slice a8 (le + 1) c8, es := q.es ++ [⟨tm, kind, da, dc, d⟩] } = m := ⟨_, rfl⟩
  obtain ⟨W2, hW2⟩ : ∃ Y, sets W b [(8, .int .u64 (bs : Nat)), (9, .int .u64 (bt : Nat)), (10, .slice a8 (le + 1) c8)] = Y := ⟨_, rfl⟩
  have hW2' : ((W.setCell ⟨b, 8, none⟩ (.int .u64 (bs : Nat))).setCell ⟨b, 9, none⟩ (.int .u64 (bt : Nat))).setCell ⟨b, 10, none⟩ (.slice a8 (le + 1) c8) = W2 := hW2
  have fs : Fr (fun c _ => c ≠ b) W W2 := hW2 ▸ sets_fr b _ W
  have h3 : DNs X W2 b { n with log := n.log.add ⟨n.tm, kind, d⟩ } { q with ve := .slice a8 (le + 1) c8, es := q.es ++ [⟨tm, kind, da, dc, d⟩] } := by
   refine H2.out.re fs ?_ ⟨rfl, rfl⟩ (H2.out.ye.aft (H2.out.own fs)) ⟨?_, R8.out.aft (H2.out.own fs)⟩ ⟨H2.out.nl, H2.out.ml⟩
   ·rw [← hW2, ← HQ.out.1, ← HQ.out.2.1]
    exact sets_heap _ H2.out.top
   ·show n.log.es ++ _ = _
    rw [List.map_append, H.out.ee, ← HQ.out.2.2]
    rfl
  rw [hn2, hq2] at h3
  have H3 := Lib.hid h3
  have F3 : Hid (Fr (fun c _ => c ≠ b) w W2) := (F2.out.mono fun _ _ _ => trivial).trans fs
  have h9 : n2.me = n.me ∧ n2.log.base = n.log.base ∧ n2.log.bt = n.log.bt ∧ q2.ve = .slice a8 (le + 1) c8 := by rw [← hn2, ← hq2]; exact ⟨rfl, rfl, rfl, rfl⟩
  have CC2 : Hid (∀ W', Fr (fun _ _ => True) W2 W' → W'.cell? ⟨b, 0, none⟩ = some (.int .i64 (mN : Nat)) ∧ W'.cell? ⟨b, 8, none⟩ = some (.int .u64 (bs : Nat)) ∧ W'.cell? ⟨b, 9, none⟩ = some (.int .u64 (bt : Nat)) ∧ W'.cell? ⟨b, 10, none⟩ = some (.slice a8 (le + 1) c8)) := fun W' f => by
   obtain ⟨x0, x1, x2, x3, x4, x5, x6, x7, x8, x9, x10, x11⟩ := H3.out.cells f
   exact ⟨by rw [x0, h9.1, HME.out], by rw [x8, h9.2.1, HQ.out.1], by rw [x9, h9.2.2.1, HQ.out.2.1], by rw [x10, h9.2.2.2]⟩
  have HN2 := Lib.hid hn2
  have UD2 : Hid (Fr (fun _ _ => True) W2 W2.drew) := (Fr.refl _ _).drew
  replace LAST := Lib.hid (fun W a c => LAST.out W a c)
  try rw [hW2']
  clear hW2 hW2' h3 hn2 hq2 h9 x0 x1 x2 x3 x4 x5 x6 x7 x8 x9 x10 x11 z8 z9 z10 fs
  obtain ⟨WA, hWA⟩ : ∃ Y, W = Y := ⟨_, rfl⟩
  rw [hWA] at HF F2 H2 R8
  clear hWA
  go_wp2_with fail
  refine wp_region_cf (K := fun _ _ => True) (by kernel_rfl) [(37, 0), (38, 1), (39, 2), (40, 3), (41, 4), (42, 5), (43, 6), (44, 7), (45, 8), (46, 9), (47, 10), (48, 11), (49, 12)] [(0, []), (1, []), (2, [1]), (3, [2]), (4, [3]), (5, []), (6, [5]), (7, [6]), (8, [7]), (10, [0]), (11, [10]), (9, [8])] (ckR [(0, .pointer (some ⟨b, 0, none⟩)), (1, .pointer (some ⟨b, 0, none⟩)), (2, .pointer (some ⟨b, 0, none⟩)), (3, .pointer (some ⟨b, 0, none⟩)), (4, .int .i64 (mN : Nat)), (5, .pointer (some ⟨b, 0, none⟩)), (6, .pointer (some ⟨b, 0, none⟩)), (7, .pointer (some ⟨b, 8, none⟩)), (8, .agg #[.int .u64 (bs : Nat), .int .u64 (bt : Nat), .slice a8 (le + 1) c8]), (9, .int .u64 (L : Nat)), (10, .pointer (some ⟨b, 0, none⟩)), (11, .pointer (some ⟨b, 28, none⟩))] [] 12 0) 2 (by kernel_rfl) (by kernel_rfl) (by kernel_rfl) rfl ?cfall ?cfend
  case cfall =>
   iterate 11
    refine CfAll.kk rfl rfl rfl (fun xs W hF hE K' hK => ?_) ?_
    ·have HF := Lib.hid hF
     clear hF
     simp only [ckEqs, ckLook, Nat.reduceBEq] at hE
     simp only [fillA, fillL, sA, sB, sC, Act.put, hE] at hK ⊢
     clear hE
     obtain ⟨y0, y8, y9, y10⟩ := CC2.out W (UD2.out.trans HF.out)
     (try simp only [gA, gB, gC])
     go_simp
     exact hK.out _ rfl
   refine CfAll.k rfl rfl (fun xs W hF hA hE K' hK => ?_) ?_
   ·have HF := Lib.hid hF
    clear hA hF
    simp only [ckEqs, ckLook, Nat.reduceBEq] at hE
    simp only [fillA, fillL, sA, sB, sC, Act.put, hE] at hK ⊢
    clear hE
    obtain ⟨y0, y8, y9, y10⟩ := CC2.out W (UD2.out.trans HF.out)
    have LA1 := Lib.hid (LAST.out W a8 c8)
    (try simp only [gA, gB, gC])
    go_simp
    (with_reducible refine LA1.out.mono ?_)
    rintro e w8 ⟨rfl, f8⟩
    exact hK.out _ _ _ rfl f8 rfl
   exact CfAll.nil
  case cfend =>
   intro xs W hF hA
   have HF := Lib.hid hF
   have hE := ckEnd rfl hA
   clear hA hF
   simp only [List.map_cons, List.map_nil, ckEqs, ckLook, Nat.reduceBEq] at hE
   simp only [fillA, fillL, sA, sB, sC, hE]
   clear hE
   have F4 := Lib.hid (UD2.out.trans HF.out)
   have H4 := Lib.hid (H3.out.tt F4.out)
   have am0 := H4.out.mtc (Fr.refl _ W) mN hm16
   have am1 := H4.out.free (Fr.refl _ W) (28 + mN)
   obtain ⟨h5, fN⟩ := H4.out.setM mN L hm16
   obtain ⟨WN, hWN⟩ : ∃ Y, W.setCell ⟨b, 28 + mN, none⟩ (.int .u64 (L : Nat)) = Y := ⟨_, rfl⟩
   have hWN' : W.setCell ⟨b, 28 + mN, none⟩ (natN L) = WN := hWN
   rw [hWN'] at h5 fN
   have hm16I : ((mN : Nat) : Int) < 16 := by omega
   refine wpAny_next 12 (by kernel_rfl) rfl fun K' hK => ?_
   (try simp only [gA, gB, gC])
   go_simp
   refine hK.out _ _ ?_
   clear hK K'
   refine wpAny_next 13 (by kernel_rfl) rfl fun K' hK => ?_
   (try simp only [gA, gB, gC])
   go_simp
   refine hK.out _ _ ?_
   clear hK K'
   refine wpAny_fin (by kernel_rfl) ?_
   try rw [hWN]
   have H5 := Lib.hid h5
   have F5 : Hid (Fr (fun c _ => c ≠ b) w WN) := (F3.out.trans (F4.out.mono fun _ _ _ => trivial)).trans fN
   obtain ⟨n3, hn3⟩ : ∃ m : Nd, { n2 with mat := n2.mat.set mN L } = m := ⟨_, rfl⟩
   have HN3 : Hid (({ n with log := n.log.add ⟨n.tm, kind, d⟩, mat := n.mat.set n.me.toNat (n.log.last + 1) } : Nd) = n3) := by
    show _ = _
    rw [← hn3, ← HN2.out, HLS.out, HME.out]
    rfl
   rw [hn3] at H5
   replace OUT : Hid (n.propose kind d = (n3.sure, L, 0)) := by
    show _ = _
    rw [OUT.out, HN3.out, HLS.out]
   have hcf3 : n3.conf = n.conf ∧ n3.log.last = L ∧ n3.log.es.length = n.log.es.length + 1 := by
    rw [← HN3.out]
    refine ⟨rfl, ?_, ?_⟩
    ·rw [← HLS.out]
     show n.log.base + (n.log.es ++ [_]).length = _
     unfold Lg.last
     simp; omega
    ·show (n.log.es ++ [_]).length = _
     simp
   have SU : Hid (Calls Tryz.prog 26 #[.pointer (some ⟨b, 0, none⟩)] WN fun e w' => e = .returned (.tuple #[]) ∧ DNs X w' b n3.sure q2 ∧ Fr (fun c _ => c ≠ b) WN w') := dsure_calls H5.out (by rw [hcf3.1]; exact HCF.out) (by rw [hcf3.1]; exact HPO.out) (by rw [hcf3.2.1, ← HLS.out]; have := HLL.out.1; omega) (by rw [hcf3.2.2]; have := HLL.out.2; omega)
   have hse : n3.sure.log = n3.log := by unfold Nd.sure Nd.sureR; split <;> rfl
   have h10 : n3.sure.log.base = bs ∧ n3.sure.log.bt = bt ∧ q2.ve = .slice a8 (le + 1) c8 := by
    obtain ⟨x0, x1, x2, x3, x4, x5, x6, x7, x8, x9, x10, x11⟩ := H3.out.cells (Fr.refl _ W2)
    obtain ⟨y0, y8, y9, y10⟩ := CC2.out W2 (Fr.refl _ _)
    refine ⟨?_, ?_, ?_⟩
    ·rw [hse, ← HN3.out]; exact HQ.out.1
    ·rw [hse, ← HN3.out]; exact HQ.out.2.1
    ·rw [x10] at y10; exact Option.some.inj y10
   have HS := Lib.hid h10
   clear am0 am1 hWN hWN' fN h5 hn3 hcf3 HN2 HN3 CC2 CC hm16I hse h10
   go_wp2_with fail
   (with_reducible refine SU.out.mono ?_)
   rintro e w8 ⟨rfl, h8, f8⟩
   have H8 := Lib.hid h8
   have F8 := Lib.hid f8
   have x8 := (h8.cells (Fr.refl _ w8)).2.2.2.2.2.2.2.2.1
   have x9 := (h8.cells (Fr.refl _ w8)).2.2.2.2.2.2.2.2.2.1
   have x10 := (h8.cells (Fr.refl _ w8)).2.2.2.2.2.2.2.2.2.2.1
   rw [HS.out.1] at x8
   rw [HS.out.2.1] at x9
   rw [HS.out.2.2] at x10
   have LA2 := Lib.hid (LAST.out w8 a8 c8)
   clear h8 f8 SU LAST
   go_wp2_with fail
   (with_reducible refine LA2.out.mono ?_)
   rintro e w9 ⟨rfl, f9⟩
   have F9 := Lib.hid f9
   clear f9 LA2 x8 x9 x10
   go_wp2
   (try simp only [Exit.inBlock, Exit.then])
   refine bodyPost_ret (results_tmp2 rfl _ _ _) rfl ?_
   rw [OUT.out]
   exact ⟨⟨q2, rfl, H8.out.tt F9.out⟩, (F5.out.trans F8.out).trans (F9.out.mono fun _ _ _ => trivial)⟩
theorem dpropose_calls [Old] (h : DNs X w b n q) (kind : Int) (da : Option Addr) (dc : Nat) (d : List UInt8) (hd : BytesAt (RO X) w (.slice da d.length dc) d) (hcf : 0 < n.conf.length ∧ n.conf.length ≤ 16) (hpos : ∀ x ∈ n.conf, 0 ≤ x ∧ x ≤ 15) (mN : Nat) (hme : n.me = (mN : Nat)) (hm16 : mN < 16) (hl : n.log.last + 2 < 18446744073709551616) (hle : n.log.es.length ≤ 800000) :
  Calls Tryz.prog 24 #[.pointer (some ⟨b, 0, none⟩), .int .i64 kind, .slice da d.length dc] w fun e w' => DPOut X w b (n.propose kind d) e w' := by
 by_cases hr : n.role = 3
 ·by_cases hk : kind < 1
  ·exact dpropK_calls h kind da dc d hr hk hd hcf hpos mN hme hm16 hl hle
  ·by_cases hk2 : 255 < kind
   ·exact dpropL_calls h kind da dc d hr hk2 hd hcf hpos mN hme hm16 hl hle
   ·by_cases hdl : 24 < d.length
    ·exact dpropD_calls h kind da dc d hr hk hk2 hdl hd hcf hpos mN hme hm16 hl hle
    ·exact dpropG_calls h kind da dc d hr hk hk2 hdl hd hcf hpos mN hme hm16 hl hle
 ·exact dpropR_calls h kind da dc d hr hd hcf hpos mN hme hm16 hl hle
end
end Go.Proofs.YtmjccpfchhnfhaaGreat
/- The document's Check, Short, Lists, Same, New (printed by hb.py). -/
namespace Go.Proofs.YtmjccpfchhnfhaaGreat
open Go.RowKit
set_option linter.unusedVariables false
set_option linter.unusedSimpArgs false
theorem dshort_calls (w : World) (b n most : Nat) (a : Option Addr) (c : Nat) :
  Calls Tryz.prog 48 #[.int .u64 (b : Nat), .slice a n c, .int .i64 (most : Nat)] w fun e w' => e = .returned (.bool (decide (b < 1152921504606846976) && decide (n ≤ most))) ∧ w = w' := by
 by_cases h1 : b < 1152921504606846976
 ·have g1 : decide (b < 1152921504606846976) = true := decide_eq_true h1
  have g1' : (b : Int) < 1152921504606846976 := by omega
  by_cases h2 : n ≤ most
  ·have g2 : decide (n ≤ most) = true := decide_eq_true h2
   have g2' : (n : Int) ≤ (most : Int) := by omega
   rw [g1, g2]
   clear h1 h2 g1 g2
   go_enter Tryz.func48, Tryz.ntmps48
   go_wp2
   go_ret
   exact ⟨rfl, rfl⟩
  ·have g2 : decide (n ≤ most) = false := decide_eq_false h2
   have g2' : ¬ (n : Int) ≤ (most : Int) := by omega
   rw [g1, g2]
   clear h1 h2 g1 g2
   go_enter Tryz.func48, Tryz.ntmps48
   go_wp2
   go_ret
   exact ⟨rfl, rfl⟩
 ·have g1 : decide (b < 1152921504606846976) = false := decide_eq_false h1
  have g1' : ¬ (b : Int) < 1152921504606846976 := by omega
  rw [g1]
  clear h1 g1
  go_enter Tryz.func48, Tryz.ntmps48
  go_wp2
  go_ret
  exact ⟨rfl, rfl⟩
def V16 (l : List Nat) : Value := .agg #[c16 l 0, c16 l 1, c16 l 2, c16 l 3, c16 l 4, c16 l 5, c16 l 6, c16 l 7, c16 l 8, c16 l 9, c16 l 10, c16 l 11, c16 l 12, c16 l 13, c16 l 14, c16 l 15]
theorem v16_get (l : List Nat) (i : Nat) (hi : i < 16) : (#[c16 l 0, c16 l 1, c16 l 2, c16 l 3, c16 l 4, c16 l 5, c16 l 6, c16 l 7, c16 l 8, c16 l 9, c16 l 10, c16 l 11, c16 l 12, c16 l 13, c16 l 14, c16 l 15] : Array Value)[i]? = some (c16 l i) := by
 match i, hi with
 | 0, _ => rfl
 | 1, _ => rfl
 | 2, _ => rfl
 | 3, _ => rfl
 | 4, _ => rfl
 | 5, _ => rfl
 | 6, _ => rfl
 | 7, _ => rfl
 | 8, _ => rfl
 | 9, _ => rfl
 | 10, _ => rfl
 | 11, _ => rfl
 | 12, _ => rfl
 | 13, _ => rfl
 | 14, _ => rfl
 | 15, _ => rfl
 | k + 16, h => omega
set_option maxRecDepth 100000 in
set_option maxHeartbeats 4000000 in
theorem dlists_true (w : World) (b c : Nat) (l : List Nat) (h : A16 w b l) :
  Calls Tryz.prog 61 #[.slice (some ⟨b, 0, none⟩) 16 c, V16 l] w fun e w' => e = .returned (.bool true) ∧ Fr (fun _ _ => True) w w' := by
 obtain ⟨W1, hW1⟩ : ∃ Y, w.alloc (.cells #[c16 l 0, c16 l 1, c16 l 2, c16 l 3, c16 l 4, c16 l 5, c16 l 6, c16 l 7, c16 l 8, c16 l 9, c16 l 10, c16 l 11, c16 l 12, c16 l 13, c16 l 14, c16 l 15] 101 (0, 0)) = Y := ⟨_, rfl⟩
 have F1 : Hid (Fr (fun _ _ => True) w W1) := hW1 ▸ (Fr.refl _ _).alloc _
 have t1 := hW1 ▸ heap_alloc_new w (.cells #[c16 l 0, c16 l 1, c16 l 2, c16 l 3, c16 l 4, c16 l 5, c16 l 6, c16 l 7, c16 l 8, c16 l 9, c16 l 10, c16 l 11, c16 l 12, c16 l 13, c16 l 14, c16 l 15] 101 (0, 0))
 have CE : Hid (∀ i, i < 16 → ∀ W, Fr (fun _ _ => True) W1 W → W.cell? ⟨b, i, none⟩ = some (.int .u64 (l.getD i 0 : Nat)) ∧ W.cell? ⟨w.heap.size, i, none⟩ = some (.int .u64 (l.getD i 0 : Nat))) := fun i hi W f => ⟨(h.fr (F1.out.trans f) fun _ _ => trivial).cell i hi, cell_mk (f.keep _ _ t1 trivial) (v16_get l i hi)⟩
 unfold V16
 clear h t1
 go_enter Tryz.func61, Tryz.ntmps61
 go_wp2
 try rw [hW1]
 clear hW1
 go_loopw [5] (fun v5 wr => ∃ k : Nat, v5 = .int .i64 (k : Nat) ∧ k ≤ 16 ∧ Hid (Fr (fun _ _ => True) W1 wr)) (fun v5 _ => 16 - (intOf v5).toNat)
 case atStart => exact ⟨0, rfl, Nat.zero_le _, Fr.refl _ _⟩
 case round =>
  obtain ⟨k, rfl, hk, HF3⟩ := hrel
  by_cases hlt : k < 16
  ·have hltI : (k : Int) < 16 := by omega
   obtain ⟨p1, p2⟩ := CE.out k hlt wr HF3.out
   obtain ⟨x, hx⟩ : ∃ x, l.getD k 0 = x := ⟨_, rfl⟩
   rw [hx] at p1 p2
   have gx : ((x : Int) != (x : Int)) = false := by simp
   clear hx
   go_wp2_with fail
   go_quiet (fail)
   have F6 : Hid (Fr (fun _ _ => True) W1 (wr.drewN nq)) := HF3.out.drewN nq
   clear p1 p2
   go_wp2
   go_roundw
   case rel => exact ⟨k + 1, by go_num, by omega, F6.out⟩
   case measure => simp [intOf]; omega
  ·have hge : ¬ (k : Int) < 16 := by omega
   go_wp2
   go_ret
   exact ⟨rfl, F1.out.trans HF3.out⟩
set_option maxRecDepth 100000 in
set_option maxHeartbeats 4000000 in
theorem dsame_true [Old] {X : Nat → Prop} {K : Nat → Obj → Prop} {w : World} {b : Nat} {n : Nd} {q : DV} (h : DNs X w b n q) (vy : Value) (hy : IntsAt K w vy n.yes) (hyl : n.yes.length ≤ maxLen) :
  Calls Tryz.prog 59 #[.int .i64 n.me, .int .i64 n.vote, .int .i64 n.role, .int .i64 n.ld, vy, .int .u64 (n.tm : Nat), .int .u64 (n.commit : Nat), .bool n.heard, .pointer (some ⟨b, 0, none⟩)] w fun e w' => e = .returned (.bool true) ∧ Fr (fun _ _ => True) w w' := by
 obtain ⟨x0, x1, x2, x3, x4, x5, x6, x7, x8, x9, x10, x11⟩ := h.cells (Fr.refl _ w)
 have NC : Hid (Calls Tryz.prog 22 #[vy, q.vy] w fun e w' => e = .returned (.bool true) ∧ Fr (fun _ _ => True) w w') := (nums_calls w vy q.vy n.yes n.yes hy h.ye hyl).mono fun e w' ⟨h1, h2⟩ => ⟨by rw [h1, decide_eq_true rfl], h2⟩
 obtain ⟨k0, h0⟩ : ∃ x, n.me = x := ⟨_, rfl⟩
 obtain ⟨k1, h1⟩ : ∃ x, n.vote = x := ⟨_, rfl⟩
 obtain ⟨k2, h2⟩ : ∃ x, n.role = x := ⟨_, rfl⟩
 obtain ⟨k3, h3⟩ : ∃ x, n.ld = x := ⟨_, rfl⟩
 obtain ⟨k6, h6⟩ : ∃ x, n.tm = x := ⟨_, rfl⟩
 obtain ⟨k7, h7⟩ : ∃ x, n.commit = x := ⟨_, rfl⟩
 obtain ⟨k11, h11⟩ : ∃ x, n.heard = x := ⟨_, rfl⟩
 obtain ⟨vq, hvq⟩ : ∃ x, q.vy = x := ⟨_, rfl⟩
 rw [h0] at x0 ⊢
 rw [h1] at x1 ⊢
 rw [h2] at x2 ⊢
 rw [h3] at x3 ⊢
 rw [h6] at x6 ⊢
 rw [h7] at x7 ⊢
 rw [h11] at x11 ⊢
 rw [hvq] at x5 NC
 have n0 : (k0 != k0) = false := by simp
 have n1 : (k1 != k1) = false := by simp
 have n2 : (k2 != k2) = false := by simp
 have n3 : (k3 != k3) = false := by simp
 have n6 : ((k6 : Int) == (k6 : Int)) = true := by simp
 have n7 : ((k7 : Int) == (k7 : Int)) = true := by simp
 have n11 : (k11 == k11) = true := by simp
 clear h hy hyl h0 h1 h2 h3 h6 h7 h11 hvq
 go_enter Tryz.func59, Tryz.ntmps59
 go_wp2_with fail
 (with_reducible refine NC.out.mono ?_)
 rintro e w4 ⟨rfl, f4⟩
 have F4 := Lib.hid f4
 clear NC f4 x0 x1 x2 x3 x4 x5 x6 x7 x8 x9 x10 x11
 go_wp2
 go_ret
 exact ⟨rfl, F4.out⟩
end Go.Proofs.YtmjccpfchhnfhaaGreat
/- The document's nodes: New (printed by hc.py). -/
namespace Go.Proofs.YtmjccpfchhnfhaaGreat
open Go.RowKit
set_option linter.unusedVariables false
set_option linter.unusedSimpArgs false
def DNew [Old] (X : Nat → Prop) (w : World) (me : Int) (conf : List Int) (e : Ending) (w' : World) : Prop := ∃ b q, e = .returned (.pointer (some ⟨b, 0, none⟩)) ∧ DNs (fun c => X c ∨ c = b) w' b (Nd.new me conf) q ∧ Fr (fun _ _ => True) w w' ∧ w.heap.size ≤ b
set_option maxRecDepth 100000 in
set_option maxHeartbeats 4000000 in
theorem dnew_calls [Old] {X : Nat → Prop} (w : World) (me : Int) (vc : Value) (conf : List Int) (h : IntsAt (RO X) w vc conf) (h0 : 0 < conf.length) (hl : conf.length ≤ 1000) (hX : ∀ c, X c → c < w.heap.size) (hO : ∀ c, Old.o c → c < w.heap.size) :
  Calls Tryz.prog 50 #[.int .i64 me, vc] w fun e w' => DNew X w me conf e w' := by
 obtain ⟨ac, cc, rfl⟩ := h.form
 have HC := Lib.hid h
 have HH := Lib.hid (And.intro h0 (And.intro hl (And.intro hX hO)))
 clear h h0 hl hX hO
 obtain ⟨W1, hW1⟩ : ∃ Y, w.alloc (.cells #[] 3) = Y := ⟨_, rfl⟩
 have F1 : Hid (Fr (fun _ _ => True) w W1) := hW1 ▸ (Fr.refl _ _).alloc _
 have OW : Hid (RowI W1 w.heap.size (.slice (some ⟨w.heap.size, 0, none⟩) 0 0) []) := hW1 ▸ World.ownsRow_lit w #[] 0 (Nat.le_refl _) (by simp) rfl
 have HC1 := Lib.hid (HC.out.tt F1.out)
 obtain ⟨n, hn⟩ : ∃ n, conf.length = n := ⟨_, rfl⟩
 have HN := Lib.hid hn
 have hn2 : conf.length ≤ 2000000 := by have := HH.out.2.1; omega
 rw [hn]
 rw [hn] at HC1
 go_enter Tryz.func50, Tryz.ntmps50
 go_wp2_with (at_builtin; (try rw [hW1]); refine wpList_append_ints w W1 F1 rfl _ _ rfl (.slice (some ⟨w.heap.size, 0, none⟩) 0 0) [] rfl OW (.slice ac n cc) conf rfl HC1 HH.out.1 conf rfl hn2 ?_)
 intro ga gc W2 R2 F2
 replace R2 : Hid (RowI W2 w.heap.size (.slice ga n gc) conf) := by first | exact R2 | (rw [← hn]; exact R2)
 try rw [hn]
 have hbd : ∀ W : World, (Instr.build 103 #[(0, .int .i64 me), (1, .int .i64 (-1)), (3, .int .i64 (-1)), (4, .slice ga n gc)]).run Tryz.prog W = .ok (.agg #[.int .i64 me, .int .i64 (-1), .int .i64 0, .int .i64 (-1), .slice ga n gc, .slice none 0 0, .int .u64 0, .int .u64 0, .int .u64 0, .int .u64 0, .slice none 0 0, .bool false, .int .u64 0, .int .u64 0, .int .u64 0, .int .u64 0, .int .u64 0, .int .u64 0, .int .u64 0, .int .u64 0, .int .u64 0, .int .u64 0, .int .u64 0, .int .u64 0, .int .u64 0, .int .u64 0, .int .u64 0, .int .u64 0, .int .u64 0, .int .u64 0, .int .u64 0, .int .u64 0, .int .u64 0, .int .u64 0, .int .u64 0, .int .u64 0, .int .u64 0, .int .u64 0, .int .u64 0, .int .u64 0, .int .u64 0, .int .u64 0, .int .u64 0, .int .u64 0]) W := fun W => run_build W _ _ _ (by kernel_rfl)
 obtain ⟨W3, hW3⟩ : ∃ Y, W2.alloc (.cells #[.int .i64 me, .int .i64 (-1), .int .i64 0, .int .i64 (-1), .slice ga n gc, .slice none 0 0, .int .u64 0, .int .u64 0, .int .u64 0, .int .u64 0, .slice none 0 0, .bool false, .int .u64 0, .int .u64 0, .int .u64 0, .int .u64 0, .int .u64 0, .int .u64 0, .int .u64 0, .int .u64 0, .int .u64 0, .int .u64 0, .int .u64 0, .int .u64 0, .int .u64 0, .int .u64 0, .int .u64 0, .int .u64 0, .int .u64 0, .int .u64 0, .int .u64 0, .int .u64 0, .int .u64 0, .int .u64 0, .int .u64 0, .int .u64 0, .int .u64 0, .int .u64 0, .int .u64 0, .int .u64 0, .int .u64 0, .int .u64 0, .int .u64 0, .int .u64 0] 103 (0, 0)) = Y := ⟨_, rfl⟩
 have t3 : W3.heap[W2.heap.size]? = some (.cells (W44 (Nd.new me conf) ⟨.slice ga n gc, .slice none 0 0, .slice none 0 0, []⟩) 103 (0, 0)) := hW3 ▸ heap_alloc_new W2 _
 have f3 : Fr (fun _ _ => True) W2 W3 := hW3 ▸ (Fr.refl _ _).alloc _
 have S2 : w.heap.size ≤ W2.heap.size := F2.out.size
 have D3 : Hid (DNs (fun c => X c ∨ c = W2.heap.size) W3 W2.heap.size (Nd.new me conf) ⟨.slice ga n gc, .slice none 0 0, .slice none 0 0, []⟩) := by
  refine ⟨t3, ?_, IntsAt.nil' _ _, EsAt.nil _ _, rfl, rfl, rfl, .inr rfl, fun c hc => ?_, fun c hc => Nat.lt_of_lt_of_le (HH.out.2.2.2 c hc) S2⟩
  ·have h9 : RowI W3 w.heap.size (.slice ga n gc) conf := R2.out.tt f3
   refine h9.intsK.mono3 fun c o ho hc => ⟨fun hx => ?_, .inr ?_⟩
   ·obtain ⟨hB, cs, e⟩ := hc
    rcases hx with hx | hx
    ·have := HH.out.2.2.1 c hx; omega
    ·subst hx
     rw [t3] at ho
     subst e
     cases ho
   ·obtain ⟨hB, cs, e⟩ := hc
    exact ⟨cs, _, _, e, by decide⟩
  ·have := lt_of_some t3
   rcases hc with hc | hc
   ·have := HH.out.2.2.1 c hc; omega
   ·omega
 have F3 := Lib.hid (F2.out.trans f3)
 clear t3 f3 S2 hn hn2
 go_wp2
 try rw [hW3]
 go_ret
 exact ⟨_, _, rfl, D3.out, F3.out, F2.out.size⟩
end Go.Proofs.YtmjccpfchhnfhaaGreat
/- Law 12: two nodes that are the same (printed by hd.py). -/
namespace Go.Proofs.YtmjccpfchhnfhaaGreat
open Go.RowKit
set_option linter.unusedVariables false
set_option linter.unusedSimpArgs false
set_option maxRecDepth 100000 in
set_option maxHeartbeats 8000000 in
theorem same12_true [Old] {X P X2 : Nat → Prop} {w : World} {b d : Nat} {n : Nd} {q : NV} {q2 : DV} (h : PNs X P w b n q) (k : DNs X2 w d n q2) (hyl : n.yes.length ≤ maxLen) (hle : n.log.es.length ≤ 1000000) :
  Calls Tryz.prog 13 #[.pointer (some ⟨b, 0, none⟩), .pointer (some ⟨d, 0, none⟩)] w fun e w' => e = .returned (.bool true) ∧ Fr (fun _ _ => True) w w' := by
 obtain ⟨vy, hvy⟩ : ∃ x, q.vy = x := ⟨_, rfl⟩
 obtain ⟨ve, hve⟩ : ∃ x, q.ve = x := ⟨_, rfl⟩
 obtain ⟨bn, hbn⟩ : ∃ x, q.bn = x := ⟨_, rfl⟩
 obtain ⟨cn, hcn⟩ : ∃ x, q.cn = x := ⟨_, rfl⟩
 obtain ⟨bm, hbm⟩ : ∃ x, q.bm = x := ⟨_, rfl⟩
 obtain ⟨cm, hcm⟩ : ∃ x, q.cm = x := ⟨_, rfl⟩
 obtain ⟨bs, hbs⟩ : ∃ x, n.log.base = x := ⟨_, rfl⟩
 obtain ⟨bt, hbt⟩ : ∃ x, n.log.bt = x := ⟨_, rfl⟩
 obtain ⟨ae, le, ce, hv2, -, -, hes, -⟩ := k.lg
 have CX : Hid (∀ W, Fr (fun _ _ => True) w W → W.cell? ⟨b, 0, none⟩ = some (.int .i64 n.me) ∧ W.cell? ⟨b, 1, none⟩ = some (.int .i64 n.vote) ∧ W.cell? ⟨b, 2, none⟩ = some (.int .i64 n.role) ∧ W.cell? ⟨b, 3, none⟩ = some (.int .i64 n.ld) ∧ W.cell? ⟨b, 4, none⟩ = some q.vc ∧ W.cell? ⟨b, 5, none⟩ = some vy ∧ W.cell? ⟨b, 6, none⟩ = some (.int .u64 (n.tm : Nat)) ∧ W.cell? ⟨b, 7, none⟩ = some (.int .u64 (n.commit : Nat)) ∧ W.cell? ⟨b, 8, none⟩ = some (.int .u64 (bs : Nat)) ∧ W.cell? ⟨b, 9, none⟩ = some (.int .u64 (bt : Nat)) ∧ W.cell? ⟨b, 10, none⟩ = some ve ∧ W.cell? ⟨b, 11, none⟩ = some (.bool n.heard) ∧ W.cell? ⟨b, 12, none⟩ = some (.slice (some ⟨bn, 0, none⟩) 16 cn) ∧ W.cell? ⟨b, 13, none⟩ = some (.slice (some ⟨bm, 0, none⟩) 16 cm)) := fun W f => by
  have := h.cells f
  rw [hvy, hve, hbn, hcn, hbm, hcm, hbs, hbt] at this
  exact this
 have CY : Hid (∀ W, Fr (fun _ _ => True) w W → W.cell? ⟨d, 8, none⟩ = some (.int .u64 (bs : Nat)) ∧ W.cell? ⟨d, 9, none⟩ = some (.int .u64 (bt : Nat)) ∧ W.cell? ⟨d, 10, none⟩ = some (.slice ae le ce) ∧ True) := fun W f => by
  obtain ⟨x0, x1, x2, x3, x4, x5, x6, x7, x8, x9, x10, x11⟩ := k.cells f
  exact ⟨by rw [x8, hbs], by rw [x9, hbt], by rw [x10, hv2], trivial⟩
 have CZ : Hid (∀ W, Fr (fun _ _ => True) w W → (∀ i, i < 16 → W.cell? ⟨d, 12 + i, none⟩ = some (c16 n.next i)) ∧ ∀ i, i < 16 → W.cell? ⟨d, 28 + i, none⟩ = some (c16 n.mat i)) := fun W f => ⟨fun i hi => k.nxt f i hi, fun i hi => k.mtc f i hi⟩
 have SC : Hid (∀ W, Fr (fun _ _ => True) w W → Calls Tryz.prog 59 #[.int .i64 n.me, .int .i64 n.vote, .int .i64 n.role, .int .i64 n.ld, vy, .int .u64 (n.tm : Nat), .int .u64 (n.commit : Nat), .bool n.heard, .pointer (some ⟨d, 0, none⟩)] W fun e w' => e = .returned (.bool true) ∧ Fr (fun _ _ => True) W w') := fun W f => dsame_true (k.tt f) vy (hvy ▸ (h.ye.tt f).ints) hyl
 have LC : Hid (∀ W, Fr (fun _ _ => True) w W → Calls Tryz.prog 60 #[.int .u64 (bs : Nat), .int .u64 (bt : Nat), ve, .agg #[.int .u64 (bs : Nat), .int .u64 (bt : Nat), .slice ae le ce]] W fun e w' => e = .returned (.bool true) ∧ Fr (fun _ _ => True) W w') := fun W f => by
  have h1 := h.ev.tt f
  rw [hve] at h1
  have e : q.es.map EV.en = q2.es.map EV.en := h.ee.symm.trans k.ee
  refine (lsame_calls W bs bt bs bt ve ae le ce q.es q2.es h1.row (hes W f).row h1.dat (fun x hx => ((hes W f).dat x hx).1) (by have := congrArg List.length h.ee; rw [List.length_map] at this; omega)).mono fun e2 w' hh => ⟨?_, ?_⟩
  ·rw [hh.1, e]; simp
  ·exact hh.2
 have NX : Hid (∀ W, Fr (fun _ _ => True) w W → Calls Tryz.prog 61 #[.slice (some ⟨bn, 0, none⟩) 16 cn, V16 n.next] W fun e w' => e = .returned (.bool true) ∧ Fr (fun _ _ => True) W w') := fun W f => dlists_true W bn cn n.next (hbn ▸ h.nx.fr f fun _ _ => trivial)
 have MT : Hid (∀ W, Fr (fun _ _ => True) w W → Calls Tryz.prog 61 #[.slice (some ⟨bm, 0, none⟩) 16 cm, V16 n.mat] W fun e w' => e = .returned (.bool true) ∧ Fr (fun _ _ => True) W w') := fun W f => dlists_true W bm cm n.mat (hbm ▸ h.mt.fr f fun _ _ => trivial)
 have UD : Hid (Fr (fun _ _ => True) w w.drew) := (Fr.refl _ _).drew
 clear h k hyl hle hvy hve hbn hcn hbm hcm hbs hbt hv2 hes
 go_enter Tryz.func13, Tryz.ntmps13
 go_wp2_with fail
 refine wp_region_cf (K := fun _ _ => True) (by kernel_rfl) [(7, 0), (8, 1), (9, 2), (10, 3), (11, 4), (12, 5), (13, 6), (14, 7), (15, 8), (16, 9), (17, 10), (18, 11), (19, 12), (20, 13), (21, 14), (22, 15), (23, 16), (24, 17), (25, 18), (26, 19), (27, 20), (28, 21), (29, 22), (30, 23), (31, 24), (32, 25), (33, 26), (34, 27), (35, 28), (36, 29), (37, 30), (38, 31), (39, 32), (40, 33), (5, 34)] [(0, []), (1, [0]), (2, [1]), (3, [2]), (4, []), (5, [4]), (6, [5]), (7, [6]), (8, []), (9, [8]), (10, [9]), (11, [10]), (12, []), (13, [12]), (14, [13]), (15, [14]), (16, []), (17, [16]), (18, [17]), (19, [18]), (20, []), (21, [20]), (22, [21]), (23, [22]), (24, []), (25, [24]), (26, [25]), (27, [26]), (28, []), (29, [28]), (30, [29]), (31, [30]), (32, []), (33, [3, 7, 11, 15, 19, 23, 27, 31, 32])] (ckR [(0, .pointer (some ⟨b, 0, none⟩)), (1, .pointer (some ⟨b, 0, none⟩)), (2, .pointer (some ⟨b, 0, none⟩)), (3, .int .i64 n.me), (4, .pointer (some ⟨b, 0, none⟩)), (5, .pointer (some ⟨b, 0, none⟩)), (6, .pointer (some ⟨b, 1, none⟩)), (7, .int .i64 n.vote), (8, .pointer (some ⟨b, 0, none⟩)), (9, .pointer (some ⟨b, 0, none⟩)), (10, .pointer (some ⟨b, 2, none⟩)), (11, .int .i64 n.role), (12, .pointer (some ⟨b, 0, none⟩)), (13, .pointer (some ⟨b, 0, none⟩)), (14, .pointer (some ⟨b, 3, none⟩)), (15, .int .i64 n.ld), (16, .pointer (some ⟨b, 0, none⟩)), (17, .pointer (some ⟨b, 0, none⟩)), (18, .pointer (some ⟨b, 5, none⟩)), (19, vy), (20, .pointer (some ⟨b, 0, none⟩)), (21, .pointer (some ⟨b, 0, none⟩)), (22, .pointer (some ⟨b, 6, none⟩)), (23, .int .u64 (n.tm : Nat)), (24, .pointer (some ⟨b, 0, none⟩)), (25, .pointer (some ⟨b, 0, none⟩)), (26, .pointer (some ⟨b, 7, none⟩)), (27, .int .u64 (n.commit : Nat)), (28, .pointer (some ⟨b, 0, none⟩)), (29, .pointer (some ⟨b, 0, none⟩)), (30, .pointer (some ⟨b, 11, none⟩)), (31, .bool n.heard), (32, .pointer (some ⟨d, 0, none⟩)), (33, .bool true)] [] 34 0) 1 (by kernel_rfl) (by kernel_rfl) (by kernel_rfl) rfl ?cfall ?cfend
 case cfall =>
  iterate 33
   refine CfAll.kk rfl rfl rfl (fun xs W hF hE K' hK => ?_) ?_
   ·have HF := Lib.hid hF
    clear hF
    simp only [ckEqs, ckLook, Nat.reduceBEq] at hE
    simp only [fillA, fillL, sA, sB, sC, Act.put, hE] at hK ⊢
    clear hE
    obtain ⟨x0, x1, x2, x3, x4, x5, x6, x7, x8, x9, x10, x11, x12, x13⟩ := CX.out W (UD.out.trans HF.out)
    (try simp only [gA, gB, gC])
    go_simp
    exact hK.out _ rfl
  refine CfAll.k rfl rfl (fun xs W hF hA hE K' hK => ?_) ?_
  ·have HF := Lib.hid hF
   clear hA hF
   simp only [ckEqs, ckLook, Nat.reduceBEq] at hE
   simp only [fillA, fillL, sA, sB, sC, Act.put, hE] at hK ⊢
   clear hE
   obtain ⟨x0, x1, x2, x3, x4, x5, x6, x7, x8, x9, x10, x11, x12, x13⟩ := CX.out W (UD.out.trans HF.out)
   have CA := Lib.hid (SC.out W (UD.out.trans HF.out))
   (try simp only [gA, gB, gC])
   go_simp
   (with_reducible refine CA.out.mono ?_)
   rintro e w8 ⟨rfl, f8⟩
   exact hK.out _ _ _ rfl f8 rfl
  exact CfAll.nil
 case cfend =>
  intro xs W hF hA
  have HF := Lib.hid hF
  have hE := ckEnd rfl hA
  clear hA hF
  simp only [List.map_cons, List.map_nil, ckEqs, ckLook, Nat.reduceBEq] at hE
  simp only [fillA, fillL, sA, sB, sC, hE]
  clear hE
  have FA := Lib.hid (UD.out.trans HF.out)
  refine wpAny_next 34 (by kernel_rfl) rfl fun K' hK => ?_
  (try simp only [gA, gB, gC])
  go_simp
  refine hK.out _ _ ?_
  clear hK K'
  refine wpAny_fin (by kernel_rfl) ?_
  obtain ⟨WA, hWA⟩ : ∃ Y, W = Y := ⟨_, rfl⟩
  rw [hWA] at HF FA ⊢
  clear hWA SC
  have UE : Hid (Fr (fun _ _ => True) WA WA.drew) := (Fr.refl _ _).drew
  go_wp2_with fail
  refine wp_region_cf (K := fun _ _ => True) (by kernel_rfl) [(41, 0), (42, 1), (43, 2), (44, 3), (45, 4), (46, 5), (47, 6), (48, 7), (49, 8), (50, 9), (51, 10), (52, 11), (53, 12), (54, 13), (55, 14), (56, 15), (57, 16), (58, 17), (59, 18), (60, 19), (6, 20)] [(0, []), (1, [0]), (2, [1]), (3, [2]), (4, [3]), (5, []), (6, [5]), (7, [6]), (8, [7]), (9, [8]), (10, []), (11, [10]), (12, [11]), (13, [12]), (14, [13]), (15, []), (16, [15]), (17, [16]), (18, [17]), (19, [4, 9, 14, 18])] (ckR [(0, .pointer (some ⟨b, 0, none⟩)), (1, .pointer (some ⟨b, 0, none⟩)), (2, .pointer (some ⟨b, 8, none⟩)), (3, .pointer (some ⟨b, 8, none⟩)), (4, .int .u64 (bs : Nat)), (5, .pointer (some ⟨b, 0, none⟩)), (6, .pointer (some ⟨b, 0, none⟩)), (7, .pointer (some ⟨b, 8, none⟩)), (8, .pointer (some ⟨b, 9, none⟩)), (9, .int .u64 (bt : Nat)), (10, .pointer (some ⟨b, 0, none⟩)), (11, .pointer (some ⟨b, 0, none⟩)), (12, .pointer (some ⟨b, 8, none⟩)), (13, .pointer (some ⟨b, 10, none⟩)), (14, ve), (15, .pointer (some ⟨d, 0, none⟩)), (16, .pointer (some ⟨d, 0, none⟩)), (17, .pointer (some ⟨d, 8, none⟩)), (18, .agg #[.int .u64 (bs : Nat), .int .u64 (bt : Nat), .slice ae le ce]), (19, .bool true)] [] 20 0) 1 (by kernel_rfl) (by kernel_rfl) (by kernel_rfl) rfl ?cfall ?cfend
  case cfall =>
   iterate 19
    refine CfAll.kk rfl rfl rfl (fun xs W hF hE K' hK => ?_) ?_
    ·have HF := Lib.hid hF
     clear hF
     simp only [ckEqs, ckLook, Nat.reduceBEq] at hE
     simp only [fillA, fillL, sA, sB, sC, Act.put, hE] at hK ⊢
     clear hE
     obtain ⟨x0, x1, x2, x3, x4, x5, x6, x7, x8, x9, x10, x11, x12, x13⟩ := CX.out W (FA.out.trans (UE.out.trans HF.out))
     obtain ⟨y8, y9, y10, z⟩ := CY.out W (FA.out.trans (UE.out.trans HF.out))
     (try simp only [gA, gB, gC])
     go_simp
     exact hK.out _ rfl
   refine CfAll.k rfl rfl (fun xs W hF hA hE K' hK => ?_) ?_
   ·have HF := Lib.hid hF
    clear hA hF
    simp only [ckEqs, ckLook, Nat.reduceBEq] at hE
    simp only [fillA, fillL, sA, sB, sC, Act.put, hE] at hK ⊢
    clear hE
    obtain ⟨x0, x1, x2, x3, x4, x5, x6, x7, x8, x9, x10, x11, x12, x13⟩ := CX.out W (FA.out.trans (UE.out.trans HF.out))
    obtain ⟨y8, y9, y10, z⟩ := CY.out W (FA.out.trans (UE.out.trans HF.out))
    have CA := Lib.hid (LC.out W (FA.out.trans (UE.out.trans HF.out)))
    (try simp only [gA, gB, gC])
    go_simp
    (with_reducible refine CA.out.mono ?_)
    rintro e w8 ⟨rfl, f8⟩
    exact hK.out _ _ _ rfl f8 rfl
   exact CfAll.nil
  case cfend =>
   intro xs W hF hA
   have HF := Lib.hid hF
   have hE := ckEnd rfl hA
   clear hA hF
   simp only [List.map_cons, List.map_nil, ckEqs, ckLook, Nat.reduceBEq] at hE
   simp only [fillA, fillL, sA, sB, sC, hE]
   clear hE
   have FB := Lib.hid (FA.out.trans (UE.out.trans HF.out))
   refine wpAny_next 20 (by kernel_rfl) rfl fun K' hK => ?_
   (try simp only [gA, gB, gC])
   go_simp
   refine hK.out _ _ ?_
   clear hK K'
   refine wpAny_fin (by kernel_rfl) ?_
   obtain ⟨WB, hWB⟩ : ∃ Y, W = Y := ⟨_, rfl⟩
   rw [hWB] at HF FB ⊢
   clear hWB LC
   have UG : Hid (Fr (fun _ _ => True) WB WB.drew) := (Fr.refl _ _).drew
   go_wp2_with fail
   refine wp_region_cf (K := fun _ _ => True) (by kernel_rfl) [(61, 0), (62, 1), (63, 2), (64, 3), (65, 4), (66, 5), (67, 6), (68, 7), (69, 8), (70, 9), (71, 10), (72, 11), (73, 12), (74, 13), (75, 14), (76, 15), (77, 16), (78, 17), (79, 18), (80, 19), (81, 20), (82, 21), (83, 22), (84, 23), (85, 24), (86, 25), (4, 26)] [(0, []), (1, [0]), (2, [1]), (3, [1, 2]), (4, [3]), (5, [4]), (6, [4, 5]), (7, [4, 6]), (8, [4, 7]), (9, [4]), (10, [4, 9]), (11, [4, 10]), (14, [4, 13]), (15, [14]), (16, [15]), (17, [15, 16]), (18, [15, 17]), (19, [15, 18]), (20, [15]), (21, [15, 20]), (22, [15, 21]), (25, [15, 24]), (12, [4, 11]), (13, [4, 8, 12]), (23, [15, 22]), (24, [15, 19, 23])] (ckR [(0, .bool true), (1, .bool true), (2, .bool true), (3, .bool true), (4, .bool true), (5, .pointer (some ⟨b, 0, none⟩)), (6, .pointer (some ⟨b, 0, none⟩)), (7, .pointer (some ⟨b, 12, none⟩)), (8, .slice (some ⟨bn, 0, none⟩) 16 cn), (9, .pointer (some ⟨d, 0, none⟩)), (10, .pointer (some ⟨d, 0, none⟩)), (11, .pointer (some ⟨d, 12, none⟩)), (12, V16 n.next), (13, .bool true), (14, .bool true), (15, .bool true), (16, .pointer (some ⟨b, 0, none⟩)), (17, .pointer (some ⟨b, 0, none⟩)), (18, .pointer (some ⟨b, 13, none⟩)), (19, .slice (some ⟨bm, 0, none⟩) 16 cm), (20, .pointer (some ⟨d, 0, none⟩)), (21, .pointer (some ⟨d, 0, none⟩)), (22, .pointer (some ⟨d, 28, none⟩)), (23, V16 n.mat), (24, .bool true), (25, .bool true)] [] 26 0) 1 (by kernel_rfl) (by kernel_rfl) (by kernel_rfl) rfl ?cfall ?cfend
   case cfall =>
    iterate 22
     refine CfAll.kk rfl rfl rfl (fun xs W hF hE K' hK => ?_) ?_
     ·have HF := Lib.hid hF
      clear hF
      simp only [ckEqs, ckLook, Nat.reduceBEq] at hE
      simp only [fillA, fillL, sA, sB, sC, Act.put, hE] at hK ⊢
      clear hE
      obtain ⟨x0, x1, x2, x3, x4, x5, x6, x7, x8, x9, x10, x11, x12, x13⟩ := CX.out W (FB.out.trans (UG.out.trans HF.out))
      (try simp only [gA, gB, gC])
      go_simp
      exact hK.out _ rfl
    refine CfAll.k rfl rfl (fun xs W hF hA hE K' hK => ?_) ?_
    ·have HF := Lib.hid hF
     clear hA hF
     simp only [ckEqs, ckLook, Nat.reduceBEq] at hE
     simp only [fillA, fillL, sA, sB, sC, Act.put, hE] at hK ⊢
     clear hE
     have hz := CZ.out W (FB.out.trans (UG.out.trans HF.out))
     have v0 := hz.1 0 (by decide)
     have v1 := hz.1 1 (by decide)
     have v2 := hz.1 2 (by decide)
     have v3 := hz.1 3 (by decide)
     have v4 := hz.1 4 (by decide)
     have v5 := hz.1 5 (by decide)
     have v6 := hz.1 6 (by decide)
     have v7 := hz.1 7 (by decide)
     have v8 := hz.1 8 (by decide)
     have v9 := hz.1 9 (by decide)
     have v10 := hz.1 10 (by decide)
     have v11 := hz.1 11 (by decide)
     have v12 := hz.1 12 (by decide)
     have v13 := hz.1 13 (by decide)
     have v14 := hz.1 14 (by decide)
     have v15 := hz.1 15 (by decide)
     clear hz
     (try simp only [gA, gB, gC])
     go_simp
     exact hK.out _ _ _ rfl (Fr.refl _ _) rfl
    refine CfAll.k rfl rfl (fun xs W hF hA hE K' hK => ?_) ?_
    ·have HF := Lib.hid hF
     clear hA hF
     simp only [ckEqs, ckLook, Nat.reduceBEq] at hE
     simp only [fillA, fillL, sA, sB, sC, Act.put, hE] at hK ⊢
     clear hE
     obtain ⟨x0, x1, x2, x3, x4, x5, x6, x7, x8, x9, x10, x11, x12, x13⟩ := CX.out W (FB.out.trans (UG.out.trans HF.out))
     have CA := Lib.hid (NX.out W (FB.out.trans (UG.out.trans HF.out)))
     (try simp only [gA, gB, gC])
     go_simp
     (with_reducible refine CA.out.mono ?_)
     rintro e w8 ⟨rfl, f8⟩
     exact hK.out _ _ _ rfl f8 rfl
    refine CfAll.k rfl rfl (fun xs W hF hA hE K' hK => ?_) ?_
    ·have HF := Lib.hid hF
     clear hA hF
     simp only [ckEqs, ckLook, Nat.reduceBEq] at hE
     simp only [fillA, fillL, sA, sB, sC, Act.put, hE] at hK ⊢
     clear hE
     have hz := CZ.out W (FB.out.trans (UG.out.trans HF.out))
     have v0 := hz.2 0 (by decide)
     have v1 := hz.2 1 (by decide)
     have v2 := hz.2 2 (by decide)
     have v3 := hz.2 3 (by decide)
     have v4 := hz.2 4 (by decide)
     have v5 := hz.2 5 (by decide)
     have v6 := hz.2 6 (by decide)
     have v7 := hz.2 7 (by decide)
     have v8 := hz.2 8 (by decide)
     have v9 := hz.2 9 (by decide)
     have v10 := hz.2 10 (by decide)
     have v11 := hz.2 11 (by decide)
     have v12 := hz.2 12 (by decide)
     have v13 := hz.2 13 (by decide)
     have v14 := hz.2 14 (by decide)
     have v15 := hz.2 15 (by decide)
     clear hz
     (try simp only [gA, gB, gC])
     go_simp
     exact hK.out _ _ _ rfl (Fr.refl _ _) rfl
    refine CfAll.k rfl rfl (fun xs W hF hA hE K' hK => ?_) ?_
    ·have HF := Lib.hid hF
     clear hA hF
     simp only [ckEqs, ckLook, Nat.reduceBEq] at hE
     simp only [fillA, fillL, sA, sB, sC, Act.put, hE] at hK ⊢
     clear hE
     obtain ⟨x0, x1, x2, x3, x4, x5, x6, x7, x8, x9, x10, x11, x12, x13⟩ := CX.out W (FB.out.trans (UG.out.trans HF.out))
     have CA := Lib.hid (MT.out W (FB.out.trans (UG.out.trans HF.out)))
     (try simp only [gA, gB, gC])
     go_simp
     (with_reducible refine CA.out.mono ?_)
     rintro e w8 ⟨rfl, f8⟩
     exact hK.out _ _ _ rfl f8 rfl
    exact CfAll.nil
   case cfend =>
    intro xs W hF hA
    have HF := Lib.hid hF
    have hE := ckEnd rfl hA
    clear hA hF
    simp only [List.map_cons, List.map_nil, ckEqs, ckLook, Nat.reduceBEq] at hE
    simp only [fillA, fillL, sA, sB, sC, hE]
    clear hE
    have FC := Lib.hid (FB.out.trans (UG.out.trans HF.out))
    refine wpAny_next 26 (by kernel_rfl) rfl fun K' hK => ?_
    (try simp only [gA, gB, gC])
    go_simp
    refine hK.out _ _ ?_
    clear hK K'
    refine wpAny_fin (by kernel_rfl) ?_
    go_wp2
    go_ret
    exact ⟨rfl, FC.out⟩
end Go.Proofs.YtmjccpfchhnfhaaGreat
