/- Texts of the proofs, part 24: what the functions that they reach do, walked; no conditions beyond those that each states. -/
import Derived.Deep.QuietTactic
import Derived.BigQuiet
import Derived.Test.YtmjccpfchhnfhaaZz1ab9665243
import Derived.Test.YtmjccpfchhnfhaaZzf7e2787f7f
set_option linter.unusedVariables false
set_option linter.unusedSimpArgs false
/- elect: chosen, Ask (printed by ask.py). -/
namespace Go.Proofs.Ytmjccpfchhnfhaa
open Go.RowKit
set_option linter.unusedVariables false
set_option linter.unusedSimpArgs false
def NOut [Old] (X P : Nat → Prop) (w : World) (b : Nat) (r : Nd × List Ms) (e : Ending) (w' : World) : Prop :=
 ∃ X' P' q' v mvs, e = .returned v ∧ PNs X' P' w' b r.1 q' ∧ Aft X P X' P' w w' ∧ OwnMs X' w.heap.size w' v mvs ∧ mvs.map MV.ms = r.2
def zMV : MV := ⟨0, 0, 0, 0, 0, 0, 0, false, none, 0, [], none, 0, []⟩
theorem set10 {w : World} {g : Nat} {t : TypeId} {a0 a1 a2 a3 a4 a5 a6 a7 a8 a9 : Value} (h : w.heap[g]? = some (.cells #[a0, a1, a2, a3, a4, a5, a6, a7, a8, a9] t (0, 0))) (v0 v1 v2 v3 v4 v5 v6 v7 v8 v9 : Value) :
  ∃ W, ((((((((((w.setCell ⟨g, 0, none⟩ v0).setCell ⟨g, 1, none⟩ v1).setCell ⟨g, 2, none⟩ v2).setCell ⟨g, 3, none⟩ v3).setCell ⟨g, 4, none⟩ v4).setCell ⟨g, 5, none⟩ v5).setCell ⟨g, 6, none⟩ v6).setCell ⟨g, 7, none⟩ v7).setCell ⟨g, 8, none⟩ v8).setCell ⟨g, 9, none⟩ v9) = W ∧ W.heap[g]? = some (.cells #[v0, v1, v2, v3, v4, v5, v6, v7, v8, v9] t (0, 0)) ∧ Fr (fun c _ => c ≠ g) w W := by
 have f : ∀ (W : World) (o : Nat) (v : Value), Fr (fun c _ => c ≠ g) W (W.setCell ⟨g, o, none⟩ v) := fun W o v => (Fr.refl _ _).setCell (fun _ _ h => h rfl) _
 obtain ⟨w0, e0⟩ : ∃ W, w.setCell ⟨g, 0, none⟩ v0 = W := ⟨_, rfl⟩
 have h0 : w0.heap[g]? = some (.cells #[v0, a1, a2, a3, a4, a5, a6, a7, a8, a9] t (0, 0)) := by rw [← e0]; exact heap_setCell_same (o := 0) h v0
 obtain ⟨w1, e1⟩ : ∃ W, w0.setCell ⟨g, 1, none⟩ v1 = W := ⟨_, rfl⟩
 have h1 : w1.heap[g]? = some (.cells #[v0, v1, a2, a3, a4, a5, a6, a7, a8, a9] t (0, 0)) := by rw [← e1]; exact heap_setCell_same (o := 1) h0 v1
 obtain ⟨w2, e2⟩ : ∃ W, w1.setCell ⟨g, 2, none⟩ v2 = W := ⟨_, rfl⟩
 have h2 : w2.heap[g]? = some (.cells #[v0, v1, v2, a3, a4, a5, a6, a7, a8, a9] t (0, 0)) := by rw [← e2]; exact heap_setCell_same (o := 2) h1 v2
 obtain ⟨w3, e3⟩ : ∃ W, w2.setCell ⟨g, 3, none⟩ v3 = W := ⟨_, rfl⟩
 have h3 : w3.heap[g]? = some (.cells #[v0, v1, v2, v3, a4, a5, a6, a7, a8, a9] t (0, 0)) := by rw [← e3]; exact heap_setCell_same (o := 3) h2 v3
 obtain ⟨w4, e4⟩ : ∃ W, w3.setCell ⟨g, 4, none⟩ v4 = W := ⟨_, rfl⟩
 have h4 : w4.heap[g]? = some (.cells #[v0, v1, v2, v3, v4, a5, a6, a7, a8, a9] t (0, 0)) := by rw [← e4]; exact heap_setCell_same (o := 4) h3 v4
 obtain ⟨w5, e5⟩ : ∃ W, w4.setCell ⟨g, 5, none⟩ v5 = W := ⟨_, rfl⟩
 have h5 : w5.heap[g]? = some (.cells #[v0, v1, v2, v3, v4, v5, a6, a7, a8, a9] t (0, 0)) := by rw [← e5]; exact heap_setCell_same (o := 5) h4 v5
 obtain ⟨w6, e6⟩ : ∃ W, w5.setCell ⟨g, 6, none⟩ v6 = W := ⟨_, rfl⟩
 have h6 : w6.heap[g]? = some (.cells #[v0, v1, v2, v3, v4, v5, v6, a7, a8, a9] t (0, 0)) := by rw [← e6]; exact heap_setCell_same (o := 6) h5 v6
 obtain ⟨w7, e7⟩ : ∃ W, w6.setCell ⟨g, 7, none⟩ v7 = W := ⟨_, rfl⟩
 have h7 : w7.heap[g]? = some (.cells #[v0, v1, v2, v3, v4, v5, v6, v7, a8, a9] t (0, 0)) := by rw [← e7]; exact heap_setCell_same (o := 7) h6 v7
 obtain ⟨w8, e8⟩ : ∃ W, w7.setCell ⟨g, 8, none⟩ v8 = W := ⟨_, rfl⟩
 have h8 : w8.heap[g]? = some (.cells #[v0, v1, v2, v3, v4, v5, v6, v7, v8, a9] t (0, 0)) := by rw [← e8]; exact heap_setCell_same (o := 8) h7 v8
 obtain ⟨w9, e9⟩ : ∃ W, w8.setCell ⟨g, 9, none⟩ v9 = W := ⟨_, rfl⟩
 have h9 : w9.heap[g]? = some (.cells #[v0, v1, v2, v3, v4, v5, v6, v7, v8, v9] t (0, 0)) := by rw [← e9]; exact heap_setCell_same (o := 9) h8 v9
 refine ⟨w9, by rw [e0]; rw [e1]; rw [e2]; rw [e3]; rw [e4]; rw [e5]; rw [e6]; rw [e7]; rw [e8]; exact e9, h9, ?_⟩
 exact ((((((((((e0 ▸ f w 0 v0).trans (e1 ▸ f w0 1 v1)).trans (e2 ▸ f w1 2 v2)).trans (e3 ▸ f w2 3 v3)).trans (e4 ▸ f w3 4 v4)).trans (e5 ▸ f w4 5 v5)).trans (e6 ▸ f w5 6 v6)).trans (e7 ▸ f w6 7 v7)).trans (e8 ▸ f w7 8 v8)).trans (e9 ▸ f w8 9 v9))
section
variable {X P : Nat → Prop} {w w' : World} {b : Nat} {n n' : Nd} {q q' : NV}
theorem PNs.esl [Old] (h : PNs X P w b n q) : n.log.es.length = q.es.length := by rw [h.ee, List.length_map]
theorem PNs.reY [Old] (h : PNs X P w b n q) (hf : Fr (fun c _ => c ≠ b) w w') (ht : w'.heap[b]? = some (.cells (W14 n' q') 39 (0, 0)))
  (hc : n'.conf = n.conf ∧ q'.vc = q.vc) (he : n'.log.es = n.log.es ∧ q'.ve = q.ve ∧ q'.es = q.es) (ha : n'.next = n.next ∧ n'.mat = n.mat ∧ q'.bn = q.bn ∧ q'.bm = q.bm)
  (g : Nat) (hy : RowI w' 0 q'.vy n'.yes) (hyg : q'.vy.ownBlock = some g) (hg : w.heap.size ≤ g) : PNs (fun c => X c ∨ c = g) (fun c => P c ∨ c = g) w' b n' q' ∧ Aft X P (fun c => X c ∨ c = g) (fun c => P c ∨ c = g) w w' := by
 have aft : Aft X P (fun c => X c ∨ c = g) (fun c => P c ∨ c = g) w w' := ⟨hf.mono fun c _ hc e => hc (e ▸ h.pb), fun c => ⟨fun q => q.elim .inl fun e => .inr (.inr e), fun q => q.elim .inl fun e => e.elim (fun p => .inl (h.px c p)) .inr⟩, fun c => .inl, fun c q => q.elim .inl fun e => .inr (e ▸ hg), h.px⟩
 refine ⟨⟨ht, ?_, hy, fun c e => ?_, ?_, ?_, ?_, ?_, ?_, .inl h.pb, ?_, ?_, fun c hc => hc.elim (fun p => .inl (h.px c p)) .inr, fun c hc => ?_, h.od⟩, aft⟩
 ·rw [hc.1, hc.2]; exact h.cf.aft aft
 ·rw [hyg] at e; cases e; exact .inr rfl
 ·rw [he.2.1, he.2.2]; exact h.ev.aft aft
 ·rw [he.1, he.2.2]; exact h.ee
 ·rw [ha.1, ha.2.2.1]; exact h.nx.fr hf fun _ _ => h.bn_b
 ·rw [ha.2.1, ha.2.2.2]; exact h.mt.fr hf fun _ _ => h.bm_b
 ·rw [ha.2.2.1, ha.2.2.2]; exact h.nm
 ·rw [ha.2.2.1]; exact .inl h.pn
 ·rw [ha.2.2.2]; exact .inl h.pm
 ·rcases hc with hc | hc
  ·exact Nat.lt_of_lt_of_le (h.hx c hc) hf.size
  ·subst hc
   obtain ⟨cur, hh⟩ := own_tag hy hyg
   exact lt_of_some hh
theorem PNs.msg [Old] (h : PNs X P w b n q) {g : Nat} (hf : Fr (fun c _ => c ≠ g) w w') (hg : ∃ cs fz, w.heap[g]? = some (.cells cs 74 fz)) (hgo : b < g) : PNs X P w' b n q := by
 obtain ⟨cs, fz, hg⟩ := hg
 have ne : ∀ c cs' t' fz', w.heap[c]? = some (.cells cs' t' fz') → t' ≠ 74 → c ≠ g := fun c cs' t' fz' h1 h2 e => by
  subst e
  rw [hg] at h1
  cases h1
  exact h2 rfl
 have ro : ∀ c o, w.heap[c]? = some o → RO X c o → c ≠ g := fun c o ho hr => by
  rcases hr.2 with h2 | ⟨cs', t', fz', e, ht⟩
  ·have := h.od c h2; omega
  ·subst e
   exact ne c _ _ _ ho (fun e => by rw [e] at ht; exact absurd ht (by decide))
 have a16 : ∀ {c l}, A16 w c l → A16 w' c l := fun {c l} ha => ha.fr hf fun o ho => by
  obtain ⟨_, cur, h1, _⟩ := ha
  exact ne c _ _ _ h1 (by decide)
 have cf2 : IntsAt (RO X) w' q.vc n.conf := (((h.cf.mono3 (K' := fun c o => RO X c o ∧ c ≠ g) fun c o ho hr => ⟨hr, ro c o ho hr⟩).fr hf fun c o q => q.2).mono fun c o q => q.1)
 exact ⟨hf.keep _ _ h.top (ne b _ _ _ h.top (by decide)), cf2, ownsRow_fr h.ye hf fun c o e ho => by
  obtain ⟨cur, hc⟩ := own_tag h.ye e
  exact ne c _ _ _ hc (by decide), h.yp, h.ev.fr hf ro, h.ee, a16 h.nx, a16 h.mt, h.nm, h.pb, h.pn, h.pm, h.px, fun c hc => Nat.lt_of_lt_of_le (h.hx c hc) hf.size, h.od⟩
theorem OwnMs.lo [Old] {X : Nat → Prop} {B B' : Nat} {w : World} {v : Value} {ms : List MV} (h : OwnMs X B w v ms) (hB : B' ≤ B) : OwnMs X B' w v ms :=
 ⟨⟨h.row.1, by
  rcases h.row.2 with q | ⟨g, c, cur, e, hb, r⟩
  ·exact .inl q
  ·exact .inr ⟨g, c, cur, e, Nat.le_trans hB hb, r⟩⟩, h.off, h.at'⟩
theorem NOut.behind [Old] {X1 P1 : Nat → Prop} {w1 : World} {r : Nd × List Ms} {e : Ending} (h : NOut X1 P1 w1 b r e w') (k : Aft X P X1 P1 w w1) : NOut X P w b r e w' := by
 obtain ⟨X', P', q', v, mvs, h1, h2, h3, h4, h5⟩ := h
 exact ⟨X', P', q', v, mvs, h1, h2, k.trans h3, h4.lo k.fr.size, h5⟩
set_option maxRecDepth 100000 in
set_option maxHeartbeats 1000000 in
theorem chosen_lead [Old] (h : PNs X P w b n q) (hr : n.role ≠ 1) (mN : Nat) (hme : n.me = (mN : Nat)) (hm16 : mN < 16) (hl : n.log.last + 1 < 18446744073709551616) (hle : n.log.es.length ≤ 900000) :
  Calls Try.prog 37 #[.pointer (some ⟨b, 0, none⟩)] w fun e w' => NOut X P w b (n.lead, []) e w' := by
 have x2 := (h.cells (Fr.refl _ w)).2.2.1
 have hes := h.esl
 have LC := Lib.hid (lead_calls h mN hme hm16 (by unfold Lg.last at hl; omega) (by omega))
 have PX : Hid (∀ c, P c → X c) := h.px
 have g : (n.role == 1) = false := by simpa using hr
 obtain ⟨ro, hro⟩ : ∃ r, n.role = r := ⟨_, rfl⟩
 rw [hro] at x2 g
 clear h hr hme hl hle hro hes
 go_enter Try.func37, Try.ntmps37
 go_wp2_with fail
 (with_reducible refine LC.out.mono ?_)
 rintro e w2 ⟨rfl, ⟨q', h2, _⟩, f2⟩
 have H2 := Lib.hid h2
 have F2 := Lib.hid f2
 clear h2 f2 LC x2
 go_wp2
 go_ret
 exact ⟨X, P, q', _, [], rfl, H2, .of F2 PX, OwnMs.nil _ _ _, rfl⟩
set_option maxRecDepth 100000 in
set_option maxHeartbeats 8000000 in
theorem askT_calls [Old] (h : PNs X P w b n q) (hcf : 0 < n.conf.length ∧ n.conf.length ≤ 1000) (mN : Nat) (hme : n.me = (mN : Nat)) (hm16 : mN < 16) (htm : n.tm + 1 < 18446744073709551616) (hl : n.log.last + 1 < 18446744073709551616) (hle : n.log.es.length ≤ 900000) :
  Calls Try.prog 18 #[.pointer (some ⟨b, 0, none⟩), .bool true] w fun e w' => NOut X P w b n.askT e w' := by
 have hes := h.esl
 obtain ⟨ae, le, ce, hve⟩ : ∃ ae le ce, q.ve = .slice ae le ce := by
  obtain ⟨a, c, e, _⟩ := h.ev.row.form
  exact ⟨a, _, c, e⟩
 have hrow : ∀ W, FT w W → RowsAt (RO X) W (.slice ae le ce) 3 encE q.es := fun W f => by rw [← hve]; exact h.ev.row.tt f
 have hlen : q.es.length = le := (hrow w (Fr.refl _ w)).len'.symm
 obtain ⟨bs, hbs⟩ : ∃ x, n.log.base = x := ⟨_, rfl⟩
 obtain ⟨bt, hbt⟩ : ∃ x, n.log.bt = x := ⟨_, rfl⟩
 obtain ⟨tm, htm0⟩ : ∃ x, n.tm = x := ⟨_, rfl⟩
 obtain ⟨tm1, htm1⟩ : ∃ x, tm + 1 = x := ⟨_, rfl⟩
 obtain ⟨L, hL⟩ : ∃ x, n.log.last = x := ⟨_, rfl⟩
 obtain ⟨LT, hLT⟩ : ∃ x, n.log.lastT = x := ⟨_, rfl⟩
 have hL2 : bs + le = L := by rw [← hL, ← hbs]; unfold Lg.last; rw [hes, hlen]
 have hLT2 : lastTE bt q.es = LT := by
  rw [← hLT, ← hbt]
  unfold Lg.lastT lastTE
  rw [h.ee, List.getLast?_map, Option.map_map]
  rfl
 have LAST := Lib.hid (fun W => tlast_calls W bs bt ae le ce (by omega))
 have LTC := Lib.hid (fun W (f : FT w W) => tlastT_calls W bs bt ae le ce q.es (hrow W f) hlen (by omega))
 rw [hL2] at LAST
 rw [hLT2] at LTC
 have CC : Hid (∀ W, FT w W → W.cell? ⟨b, 0, none⟩ = some (.int .i64 (mN : Nat)) ∧ W.cell? ⟨b, 4, none⟩ = some q.vc ∧ W.cell? ⟨b, 6, none⟩ = some (.int .u64 (tm : Nat)) ∧ W.cell? ⟨b, 8, none⟩ = some (.int .u64 (bs : Nat)) ∧ W.cell? ⟨b, 9, none⟩ = some (.int .u64 (bt : Nat)) ∧ W.cell? ⟨b, 10, none⟩ = some (.slice ae le ce)) := fun W f => by
  obtain ⟨x0, x1, x2, x3, x4, x5, x6, x7, x8, x9, x10, x11, x12, x13⟩ := h.cells f
  exact ⟨by rw [x0, hme], x4, by rw [x6, htm0], by rw [x8, hbs], by rw [x9, hbt], by rw [x10, hve]⟩
 have CT := Lib.hid (fun k => (contains_calls (w.drewN k) q.vc n.conf (mN : Nat) (h.cf.tt ((Fr.refl _ w).drewN k)) (by unfold maxLen; omega)).mono fun e w' ⟨h1, h2⟩ => And.intro h1 h2.symm)
 have H := Lib.hid h
 obtain ⟨hs, hhs⟩ : ∃ x, hasI n.conf (mN : Nat) = x := ⟨_, rfl⟩
 rw [hhs] at CT
 have HHS := Lib.hid hhs
 have HME := Lib.hid hme
 have HFACT := Lib.hid (And.intro hbs (And.intro hbt (And.intro htm0 (And.intro htm1 (And.intro hL hLT)))))
 have HBD : Hid (tm + 1 < 18446744073709551616 ∧ L + 1 < 18446744073709551616 ∧ n.log.es.length ≤ 900000) := ⟨by omega, by omega, hle⟩
 have HCF := Lib.hid hcf
 have wt : IntKind.u64.wrap ((tm : Int) + 1) = (tm1 : Int) := by rw [IntKind.wrap_u64]; omega
 obtain ⟨vc, hvc⟩ : ∃ x, q.vc = x := ⟨_, rfl⟩
 have HVC := Lib.hid hvc
 rw [hvc] at CC CT
 obtain ⟨y0, y4, y6, y8, y9, y10⟩ := CC w (Fr.refl _ w)
 clear h hve hrow hlen hbs hbt htm0 htm1 hL hLT hL2 hLT2 hme hes htm hl hle hhs hcf hvc
 go_enter Try.func18, Try.ntmps18
 go_wp2_with fail
 go_quiet ((go_at_call 35; exact Calls.quiet_of_same (CT.out _)))
 clear y0 y4 y6 y8 y9 y10
 cases hs with
 | false =>
  go_wp2
  go_ret
  have e : n.askT = (n, []) := by unfold Nd.askT; rw [if_neg (by rw [HME.out, HHS.out]; decide)]
  rw [e]
  exact ⟨X, P, q, _, [], rfl, H.tt ((Fr.refl _ w).drewN nq), .tt ((Fr.refl _ w).drewN nq) H.px, OwnMs.nil _ _ _, rfl⟩
 | true =>
  have UD : Hid (FT w (w.drewN nq).drew) := ((Fr.refl _ w).drewN nq).drew
  go_wp2_with fail
  refine wp_region_cf (K := fun _ _ => True) (by kernel_rfl) [(16, 0), (17, 1), (18, 2), (19, 3), (20, 4), (21, 5), (22, 6), (23, 7), (24, 8), (25, 9), (26, 10), (27, 11), (28, 12), (29, 13), (30, 14), (31, 15), (5, 16)] [(0, []), (1, [0]), (2, [1]), (3, [2]), (4, [3]), (5, []), (6, [5]), (7, [6]), (8, [7]), (10, []), (11, [10]), (12, [11]), (13, [12]), (15, [4, 9, 14]), (9, [8]), (14, [13]), (16, [])] (ckR [(0, .pointer (some ⟨b, 0, none⟩)), (1, .pointer (some ⟨b, 0, none⟩)), (2, .pointer (some ⟨b, 6, none⟩)), (3, .int .u64 (tm : Nat)), (4, .int .u64 (tm1 : Nat)), (5, .pointer (some ⟨b, 0, none⟩)), (6, .pointer (some ⟨b, 0, none⟩)), (7, .pointer (some ⟨b, 8, none⟩)), (8, .agg #[.int .u64 (bs : Nat), .int .u64 (bt : Nat), .slice ae le ce]), (9, .int .u64 (L : Nat)), (10, .pointer (some ⟨b, 0, none⟩)), (11, .pointer (some ⟨b, 0, none⟩)), (12, .pointer (some ⟨b, 8, none⟩)), (13, .agg #[.int .u64 (bs : Nat), .int .u64 (bt : Nat), .slice ae le ce]), (14, .int .u64 (LT : Nat)), (15, .agg #[.int .i64 3, .int .i64 0, .int .i64 0, .int .u64 (tm1 : Nat), .int .u64 (L : Nat), .int .u64 (LT : Nat), .int .u64 0, .bool false, .slice none 0 0, .slice none 0 0])] [(16, ⟨fun v W => ∃ g, v = .pointer (some ⟨g, 0, none⟩) ∧ w.heap.size ≤ g ∧ W.heap[g]? = some (.cells (cM zMV) 74 (0, 0)), fun v W W' h hf => by obtain ⟨g, h1, h2, h3⟩ := h; exact ⟨g, h1, h2, hf.keep _ _ h3 trivial⟩⟩)] 17 0) 1 (by kernel_rfl) (by kernel_rfl) (by kernel_rfl) rfl ?cfall ?cfend
  case cfall =>
   iterate 14
    refine CfAll.kk rfl rfl rfl (fun xs W hF hE K' hK => ?_) ?_
    ·have HF := Lib.hid hF
     clear hF
     simp only [ckEqs, ckLook, Nat.reduceBEq] at hE
     simp only [fillA, fillL, sA, sB, sC, Act.put, hE] at hK ⊢
     clear hE
     obtain ⟨y0, y4, y6, y8, y9, y10⟩ := CC W (UD.trans HF)
     skip
     go_simp
     exact hK _ rfl
   refine CfAll.k rfl rfl (fun xs W hF hA hE K' hK => ?_) ?_
   ·have HF := Lib.hid hF
    clear hA hF
    simp only [ckEqs, ckLook, Nat.reduceBEq] at hE
    simp only [fillA, fillL, sA, sB, sC, Act.put, hE] at hK ⊢
    clear hE
    have LA1 := Lib.hid (LAST W)
    dsimp only [vL] at LA1
    skip
    go_simp
    (with_reducible refine LA1.out.mono ?_)
    rintro e w8 ⟨rfl, f8⟩
    exact hK _ _ _ rfl f8 rfl
   refine CfAll.k rfl rfl (fun xs W hF hA hE K' hK => ?_) ?_
   ·have HF := Lib.hid hF
    clear hA hF
    simp only [ckEqs, ckLook, Nat.reduceBEq] at hE
    simp only [fillA, fillL, sA, sB, sC, Act.put, hE] at hK ⊢
    clear hE
    have LA1 := Lib.hid (LTC W (UD.trans HF))
    dsimp only [vL] at LA1
    skip
    go_simp
    (with_reducible refine LA1.out.mono ?_)
    rintro e w8 ⟨rfl, f8⟩
    exact hK _ _ _ rfl f8 rfl
   refine CfAll.k rfl rfl (fun xs W hF hA hE K' hK => ?_) ?_
   ·have HF := Lib.hid hF
    clear hA hF
    simp only [ckEqs, ckLook, Nat.reduceBEq] at hE
    simp only [fillA, fillL, sA, sB, sC, Act.put, hE] at hK ⊢
    clear hE
    have SB : Hid (w.heap.size ≤ W.heap.size) := (UD.trans HF).size
    skip
    go_simp
    exact hK _ _ _ rfl ((Fr.refl _ _).alloc _) ⟨_, rfl, SB, heap_alloc_new _ _⟩
   exact CfAll.nil
  case cfend =>
   intro xs W hF hA
   have HF := Lib.hid hF
   have hE := ckEnd rfl hA
   have h16 := hA (16, []) (by decide)
   clear hA hF
   simp only [List.map_cons, List.map_nil, ckEqs, ckLook, Nat.reduceBEq] at hE
   simp only [fillA, fillL, sA, sB, sC, hE]
   clear hE
   obtain ⟨g, e16, hgw, tg⟩ := h16
   rw [e16]
   have TG := Lib.hid tg
   have HGW := Lib.hid hgw
   have FW := Lib.hid (UD.trans HF)
   obtain ⟨m0, hm0⟩ : ∃ m : MV, (⟨3, 0, 0, tm1, L, LT, 0, false, none, 0, [], none, 0, []⟩ : MV) = m := ⟨_, rfl⟩
   obtain ⟨W2, hW2', t2, f2⟩ := set10 tg (.int .i64 3) (.int .i64 0) (.int .i64 0) (.int .u64 (tm1 : Nat)) (.int .u64 (L : Nat)) (.int .u64 (LT : Nat)) (.int .u64 0) (.bool false) (.slice none 0 0) (.slice none 0 0)
   have T2 : Hid (W2.heap[g]? = some (.cells (cM m0) 74 (0, 0))) := by rw [← hm0]; exact t2
   have F2 := Lib.hid f2
   clear t2 f2
   have H2 := Lib.hid ((H.out.tt FW.out).msg F2.out ⟨_, _, tg⟩ (by have := lt_of_some H.out.top; have := HGW.out; omega))
   have FP2 : Hid (Fr (fun c _ => ¬ P c) w W2) := ((FW.out.tT : Fr (fun c _ => ¬ P c ∧ c < w.heap.size) w W).trans (F2.out.mono fun c _ h e => by have := h.2; have := HGW.out; omega)).within
   obtain ⟨v0, v1, v2, v3, v4, v5, v6, v7, v8, v9⟩ := mcells tg
   have z0 := frozen_mk (i := 0) tg
   have z1 := frozen_mk (i := 1) tg
   have z2 := frozen_mk (i := 2) tg
   have z3 := frozen_mk (i := 3) tg
   have z4 := frozen_mk (i := 4) tg
   have z5 := frozen_mk (i := 5) tg
   have z6 := frozen_mk (i := 6) tg
   have z7 := frozen_mk (i := 7) tg
   have z8 := frozen_mk (i := 8) tg
   have z9 := frozen_mk (i := 9) tg
   refine wpAny_next 17 (by kernel_rfl) rfl fun K' hK => ?_
   skip
   go_simp
   refine hK _ _ ?_
   clear hK K'
   refine wpAny_fin (by kernel_rfl) ?_
   try rw [hW2']
   clear z0 z1 z2 z3 z4 z5 z6 z7 z8 z9 v0 v1 v2 v3 v4 v5 v6 v7 v8 v9 hW2' tg
   have Ha : Hid (PNs X P (sets W2 b [(2, .int .i64 1)]) b { n with role := 1 } q) := H2.re (sets_fr b _ W2) (sets_heap _ H2.top) ⟨rfl, rfl⟩ (.inl ⟨rfl, rfl⟩) ⟨rfl, rfl, rfl⟩ ⟨rfl, rfl, rfl, rfl⟩
   have x2 := (H2.cells (Fr.refl _ W2)).2.2.1
   have z2 := H2.free (Fr.refl _ W2) 2
   obtain ⟨Wa, hWa⟩ : ∃ Y, W2.setCell ⟨b, 2, none⟩ (.int .i64 1) = Y := ⟨_, rfl⟩
   have FPa : Hid (Fr (fun c _ => ¬ P c) w Wa) := hWa ▸ FP2.out.setCell (p := ⟨b, 2, none⟩) (fun _ _ h => h H.out.pb) _
   have Ta : Hid (Wa.heap[g]? = some (.cells (cM m0) 74 (0, 0))) := by
    rw [← hWa]
    rw [show (W2.setCell ⟨b, 2, none⟩ (.int .i64 1)).heap[g]? = W2.heap[g]? from heap_setCell_ne (fun e => by have := HGW.out; have := lt_of_some H.out.top; omega) _]
    exact T2
   replace Ha : Hid (PNs X P Wa b { n with role := 1 } q) := hWa ▸ Ha.out
   go_wp2_with fail
   try rw [hWa]
   clear x2 z2 hWa
   obtain ⟨x0, x1, x2, x3, x4, x5, x6, x7, x8, x9, x10, x11, x12, x13⟩ := Ha.cells (Fr.refl _ Wa)
   have e0 : Wa.cell? ⟨b, 0, none⟩ = some (.int .i64 (mN : Nat)) := by rw [x0]; show some (Value.int .i64 n.me) = _; rw [HME.out]
   have e6 : Wa.cell? ⟨b, 6, none⟩ = some (.int .u64 (tm : Nat)) := by rw [x6]; show some (Value.int .u64 (n.tm : Nat)) = _; rw [HFACT.out.2.2.1]
   have z1 := Ha.free (Fr.refl _ Wa) 1
   have z2 := Ha.free (Fr.refl _ Wa) 2
   have z6 := Ha.free (Fr.refl _ Wa) 6
   clear x0 x3 x4 x5 x6 x7 x8 x9 x10 x11 x12 x13
   go_region_with (fail)
   all_goals
    obtain ⟨Wb, hWb⟩ : ∃ Y, (((Wa.setCell ⟨b, 6, none⟩ (.int .u64 (tm1 : Nat))).setCell ⟨b, 1, none⟩ (.int .i64 (mN : Nat))).setCell ⟨b, 2, none⟩ (.int .i64 2)).drew = Y := ⟨_, rfl⟩
    have Hb : Hid (PNs X P Wb b { n with role := 2, tm := tm1, vote := (mN : Nat) } q) := by
     show PNs _ _ _ _ _ _
     rw [← hWb]
     exact (Ha.re (n' := { n with role := 2, tm := tm1, vote := (mN : Nat) }) (w' := sets Wa b [(6, .int .u64 (tm1 : Nat)), (1, .int .i64 (mN : Nat)), (2, .int .i64 2)]) (sets_fr b _ _) (sets_heap _ Ha.top) ⟨rfl, rfl⟩ (.inl ⟨rfl, rfl⟩) ⟨rfl, rfl, rfl⟩ ⟨rfl, rfl, rfl, rfl⟩).tt (Fr.refl _ _).drew
    have fb : Fr (fun c _ => c ≠ b) Wa Wb := by
     rw [← hWb]
     exact (sets_fr b [(6, .int .u64 (tm1 : Nat)), (1, .int .i64 (mN : Nat)), (2, .int .i64 2)] Wa).drew
    try rw [hWb]
    clear hWb e0 e6 z1 z2 z6 x1 x2
    have hgb : g ≠ b := fun e => by have := HGW.out; have := lt_of_some H.out.top; omega
    have Tb : Hid (Wb.heap[g]? = some (.cells (cM m0) 74 (0, 0))) := fb.keep _ _ Ta hgb
    have FPb : Hid (Fr (fun c _ => ¬ P c) w Wb) := FPa.out.trans (fb.mono fun c _ hc e => hc (e ▸ H.out.pb))
    obtain ⟨m1, hm1⟩ : ∃ m : MV, (⟨1, 0, 0, tm1, L, LT, 0, false, none, 0, [], none, 0, []⟩ : MV) = m := ⟨_, rfl⟩
    have g0 := (mcells Tb).1
    have zg := frozen_mk (i := 0) Tb
    obtain ⟨Wc, hWc⟩ : ∃ Y, Wb.setCell ⟨g, 0, none⟩ (.int .i64 1) = Y := ⟨_, rfl⟩
    have fc : Fr (fun c _ => c ≠ g) Wb Wc := hWc ▸ (Fr.refl _ _).setCell (fun _ _ h => h rfl) _
    have Tc : Hid (Wc.heap[g]? = some (.cells (cM m1) 74 (0, 0))) := by
     rw [← hWc, ← hm1]
     have := heap_setCell_same (o := 0) Tb.out (.int .i64 1)
     rw [← hm0] at this
     exact this
    have Hc := Lib.hid (Hb.out.msg fc ⟨_, _, Tb.out⟩ (by have := lt_of_some H.out.top; have := HGW.out; omega))
    have FPc : Hid (Fr (fun c _ => ¬ P c) w Wc) := ((FPb.out.mono fun c _ h => h.1 : Fr (fun c _ => ¬ P c ∧ c < w.heap.size) w Wb).trans (fc.mono fun c _ h e => by have := h.2; have := HGW.out; omega)).within
    have SC : Hid (w.heap.size ≤ Wc.heap.size) := FPc.size
    have c0 : Wc.cell? ⟨b, 0, none⟩ = some (.int .i64 (mN : Nat)) := by rw [(Hc.out.cells (Fr.refl _ Wc)).1]; show some (Value.int .i64 n.me) = _; rw [HME.out]
    obtain ⟨Wd, hWd⟩ : ∃ Y, Wc.alloc (.cells #[.int .i64 (mN : Nat)] 3 (0, 0)) = Y := ⟨_, rfl⟩
    have fd : FT Wc Wd := hWd ▸ (Fr.refl _ _).alloc _
    have TYd : Wd.heap[Wc.heap.size]? = some (.cells #[.int .i64 (mN : Nat)] 3 (0, 0)) := hWd ▸ heap_alloc_new _ _
    have Hd := Lib.hid (Hc.tt fd)
    have d3 := (Hd.cells (Fr.refl _ Wd)).2.2.2.1
    have d5 := (Hd.cells (Fr.refl _ Wd)).2.2.2.2.2.1
    have zd3 := Hd.free (Fr.refl _ Wd) 3
    have zd5 := Hd.free (Fr.refl _ Wd) 5
    obtain ⟨We, hWe⟩ : ∃ Y, (Wd.setCell ⟨b, 3, none⟩ (.int .i64 (-1))).setCell ⟨b, 5, none⟩ (.slice (some ⟨Wc.heap.size, 0, none⟩) 1 1) = Y := ⟨_, rfl⟩
    have hWe' : sets Wd b [(3, .int .i64 (-1)), (5, .slice (some ⟨Wc.heap.size, 0, none⟩) 1 1)] = We := hWe
    have fe : Fr (fun c _ => c ≠ b) Wd We := hWe' ▸ sets_fr b _ Wd
    have hby : Wc.heap.size ≠ b := fun e => by have := lt_of_some Hc.out.top; omega
    have TYe : We.heap[Wc.heap.size]? = some (.cells #[.int .i64 (mN : Nat)] 3 (0, 0)) := fe.keep _ _ TYd hby
    obtain ⟨n1, hn1⟩ : ∃ m : Nd, { n with role := 2, tm := tm1, vote := (mN : Nat), ld := -1, yes := [((mN : Nat) : Int)] } = m := ⟨_, rfl⟩
    obtain ⟨q1, hq1⟩ : ∃ m : NV, { q with vy := .slice (some ⟨Wc.heap.size, 0, none⟩) 1 1 } = m := ⟨_, rfl⟩
    have HY := Hc.out.reY (w' := We) (n' := { n with role := 2, tm := tm1, vote := (mN : Nat), ld := -1, yes := [((mN : Nat) : Int)] }) (q' := { q with vy := .slice (some ⟨Wc.heap.size, 0, none⟩) 1 1 }) ((fd.tT).trans fe) (hWe' ▸ sets_heap _ (fd.keep _ _ Hc.out.top trivial)) ⟨rfl, rfl⟩ ⟨rfl, rfl, rfl⟩ ⟨rfl, rfl, rfl, rfl⟩ Wc.heap.size ⟨rfl, .inr ⟨_, 1, _, rfl, Nat.zero_le _, TYe, Nat.le_refl _, by unfold maxLen; decide, rfl, rfl⟩⟩ rfl (Nat.le_refl _)
    rw [hn1, hq1] at HY
    have H5 := Lib.hid HY.1
    have A5 := Lib.hid ((Aft.of FPc H.px).trans HY.2)
    obtain ⟨X1, hX1⟩ : ∃ Z : Nat → Prop, (fun c => X c ∨ c = Wc.heap.size) = Z := ⟨_, rfl⟩
    obtain ⟨P1, hP1⟩ : ∃ Z : Nat → Prop, (fun c => P c ∨ c = Wc.heap.size) = Z := ⟨_, rfl⟩
    rw [hX1, hP1] at H5 A5
    have T5 : Hid (We.heap[g]? = some (.cells (cM m1) 74 (0, 0))) := fe.keep _ _ (fd.keep _ _ Tc trivial) hgb
    have hq4 : n1.conf = n.conf ∧ q1.vc = vc ∧ n1.yes = [((mN : Nat) : Int)] ∧ q1.vy = .slice (some ⟨Wc.heap.size, 0, none⟩) 1 1 := by rw [← hn1, ← hq1]; exact ⟨rfl, HVC.out, rfl, rfl⟩
    have AG := Lib.hid (fun k => (agrees_calls (We.drewN k) q1.vc q1.vy n1.conf n1.yes (H5.out.cf.tt ((Fr.refl _ We).drewN k)) (H5.out.ye.ints.tt ((Fr.refl _ We).drewN k)) (by rw [hq4.1]; have := HCF.out; unfold maxLen; omega) (by rw [hq4.2.2.1]; show 1 ≤ maxLen; unfold maxLen; decide)).mono fun e w' ⟨h1, h2⟩ => And.intro h1 h2.symm)
    rw [hq4.2.1, hq4.2.2.2, hq4.1, hq4.2.2.1] at AG
    obtain ⟨ag, hag⟩ : ∃ x, agrI n.conf [((mN : Nat) : Int)] = x := ⟨_, rfl⟩
    rw [hag] at AG
    have HAG := Lib.hid hag
    have HN1 := Lib.hid hn1
    have HM1 := Lib.hid hm1
    have f4 : We.cell? ⟨b, 4, none⟩ = some vc := by rw [(H5.out.cells (Fr.refl _ We)).2.2.2.2.1, hq4.2.1]
    have f5 : We.cell? ⟨b, 5, none⟩ = some (.slice (some ⟨Wc.heap.size, 0, none⟩) 1 1) := by rw [(H5.out.cells (Fr.refl _ We)).2.2.2.2.2.1, hq4.2.2.2]
    have TOF : Hid (∀ k, Calls Try.prog 38 #[.pointer (some ⟨b, 0, none⟩), .agg (cM m1)] (We.drewN k) fun e w' => (∃ v, e = .returned v ∧ OwnMs X1 (We.drewN k).heap.size w' v (n1.others.map (toMV n1.me m1))) ∧ FT (We.drewN k) w') := fun k => toall_calls (H5.out.tt ((Fr.refl _ We).drewN k)) (by rw [hq4.1]; exact HCF.out) m1 (by rw [← hm1]; exact ⟨BytesAt.nil _ _, EsAt.nil _ _⟩)
    clear HY hX1 hP1 hq4 hag hn1 hm1 hm0 hq1 TYe TYd hWe'
    go_wp2_with fail
    try rw [hWc]
    try rw [hWd]
    try rw [hWe]
    clear hWc hWd hWe c0 d3 d5 zd3 zd5 g0 zg fb fc fd fe
    go_quiet ((go_at_call 36; exact Calls.quiet_of_same (AG.out _)))
    have U5 : Hid (FT We (We.drewN nq)) := (Fr.refl _ We).drewN nq
    have OUT : Hid (n.askT = if ag = true then (n1.lead, []) else (n1, n1.toAll m1.ms)) := by
     show n.askT = _
     rw [← HAG.out, ← HN1.out, ← HM1.out]
     unfold Nd.askT
     rw [if_pos (by rw [HME.out]; exact HHS.out)]
     rw [HME.out, HFACT.out.2.2.1, HFACT.out.2.2.2.1, HFACT.out.2.2.2.2.1, HFACT.out.2.2.2.2.2]
     rfl
    clear AG f4 f5
    cases ag with
    | true =>
     replace OUT : Hid (n.askT = (n1.lead, [])) := OUT.trans (if_pos rfl)
     have CHO := Lib.hid (chosen_lead (H5.out.tt U5.out) (by rw [← HN1.out]; show (2 : Int) ≠ 1; decide) mN (by rw [← HN1.out]; exact HME.out) hm16 (by rw [← HN1.out]; show n.log.last + 1 < _; rw [HFACT.out.2.2.2.2.1]; exact HBD.out.2.1) (by rw [← HN1.out]; exact HBD.out.2.2))
     clear HAG HN1
     go_wp2_with fail
     (with_reducible refine CHO.out.mono ?_)
     intro e w9 ho
     replace ho := ho.behind (A5.tr U5)
     obtain ⟨X', P', q', v, mvs, rfl, h2, h3, h4, h5⟩ := ho
     have HH := Lib.hid (And.intro h2 (And.intro h3 (And.intro h4 h5)))
     clear h2 h3 h4 h5 CHO
     go_wp2
     go_ret
     rw [OUT.out]
     exact ⟨X', P', q', _, mvs, rfl, HH.1, HH.2.1, HH.2.2.1, HH.2.2.2⟩
    | false =>
     replace OUT : Hid (n.askT = (n1, n1.toAll m1.ms)) := OUT.trans (if_neg (by decide))
     have T6 : Hid ((We.drewN nq).heap[g]? = some (.cells (cM m1) 74 (0, 0))) := U5.keep _ _ T5 trivial
     have TOF1 := Lib.hid (TOF nq)
     clear TOF HAG HN1
     obtain ⟨v0, v1, v2, v3, v4, v5, v6, v7, v8, v9⟩ := mcells T6
     rw [← HM1.out] at v0 v1 v2 v3 v4 v5 v6 v7 v8 v9 TOF1
     replace TOF1 : Hid (Calls Try.prog 38 #[.pointer (some ⟨b, 0, none⟩), .agg #[.int .i64 1, .int .i64 0, .int .i64 0, .int .u64 (tm1 : Nat), .int .u64 (L : Nat), .int .u64 (LT : Nat), .int .u64 0, .bool false, .slice none 0 0, .slice none 0 0]] (We.drewN nq) _) := TOF1
     go_wp2_with fail
     (with_reducible refine TOF1.out.mono ?_)
     rintro e w9 ⟨⟨v, rfl, ho⟩, f9⟩
     have HO := Lib.hid ho
     have F9 := Lib.hid f9
     have A9 := Lib.hid ((A5.tr U5).tr F9)
     clear ho f9
     go_wp2
     go_ret
     rw [OUT.out]
     refine ⟨X1, P1, q1, _, _, rfl, (H5.tt U5).tt F9, A9, HO.lo (A5.tr U5).fr.size, ?_⟩
     rw [HM1.out]
     show (n1.others.map _).map _ = _
     rw [List.map_map]
     rfl
set_option maxRecDepth 100000 in
set_option maxHeartbeats 1000000 in
theorem chosen_ask [Old] (h : PNs X P w b n q) (hr : n.role = 1) (hcf : 0 < n.conf.length ∧ n.conf.length ≤ 1000) (mN : Nat) (hme : n.me = (mN : Nat)) (hm16 : mN < 16) (htm : n.tm + 1 < 18446744073709551616) (hl : n.log.last + 1 < 18446744073709551616) (hle : n.log.es.length ≤ 900000) :
  Calls Try.prog 37 #[.pointer (some ⟨b, 0, none⟩)] w fun e w' => NOut X P w b n.askT e w' := by
 have x2 := (h.cells (Fr.refl _ w)).2.2.1
 have AC := Lib.hid (askT_calls h hcf mN hme hm16 htm hl hle)
 rw [hr] at x2
 clear h hr hme hl hle htm hcf
 go_enter Try.func37, Try.ntmps37
 go_wp2_with fail
 (with_reducible refine AC.out.mono ?_)
 intro e w2 ho
 obtain ⟨X', P', q', v, mvs, rfl, h2, h3, h4, h5⟩ := ho
 have HH := Lib.hid (And.intro h2 (And.intro h3 (And.intro h4 h5)))
 clear h2 h3 h4 h5 AC x2
 go_wp2
 go_ret
 exact ⟨X', P', q', _, mvs, rfl, HH.1, HH.2.1, HH.2.2.1, HH.2.2.2⟩
set_option maxRecDepth 100000 in
set_option maxHeartbeats 8000000 in
theorem askF_calls [Old] (h : PNs X P w b n q) (hcf : 0 < n.conf.length ∧ n.conf.length ≤ 1000) (mN : Nat) (hme : n.me = (mN : Nat)) (hm16 : mN < 16) (htm : n.tm + 1 < 18446744073709551616) (hl : n.log.last + 1 < 18446744073709551616) (hle : n.log.es.length ≤ 900000) :
  Calls Try.prog 18 #[.pointer (some ⟨b, 0, none⟩), .bool false] w fun e w' => NOut X P w b n.askF e w' := by
 have hes := h.esl
 obtain ⟨ae, le, ce, hve⟩ : ∃ ae le ce, q.ve = .slice ae le ce := by
  obtain ⟨a, c, e, _⟩ := h.ev.row.form
  exact ⟨a, _, c, e⟩
 have hrow : ∀ W, FT w W → RowsAt (RO X) W (.slice ae le ce) 3 encE q.es := fun W f => by rw [← hve]; exact h.ev.row.tt f
 have hlen : q.es.length = le := (hrow w (Fr.refl _ w)).len'.symm
 obtain ⟨bs, hbs⟩ : ∃ x, n.log.base = x := ⟨_, rfl⟩
 obtain ⟨bt, hbt⟩ : ∃ x, n.log.bt = x := ⟨_, rfl⟩
 obtain ⟨tm, htm0⟩ : ∃ x, n.tm = x := ⟨_, rfl⟩
 obtain ⟨tm1, htm1⟩ : ∃ x, tm + 1 = x := ⟨_, rfl⟩
 obtain ⟨L, hL⟩ : ∃ x, n.log.last = x := ⟨_, rfl⟩
 obtain ⟨LT, hLT⟩ : ∃ x, n.log.lastT = x := ⟨_, rfl⟩
 have hL2 : bs + le = L := by rw [← hL, ← hbs]; unfold Lg.last; rw [hes, hlen]
 have hLT2 : lastTE bt q.es = LT := by
  rw [← hLT, ← hbt]
  unfold Lg.lastT lastTE
  rw [h.ee, List.getLast?_map, Option.map_map]
  rfl
 have LAST := Lib.hid (fun W => tlast_calls W bs bt ae le ce (by omega))
 have LTC := Lib.hid (fun W (f : FT w W) => tlastT_calls W bs bt ae le ce q.es (hrow W f) hlen (by omega))
 rw [hL2] at LAST
 rw [hLT2] at LTC
 have CC : Hid (∀ W, FT w W → W.cell? ⟨b, 0, none⟩ = some (.int .i64 (mN : Nat)) ∧ W.cell? ⟨b, 4, none⟩ = some q.vc ∧ W.cell? ⟨b, 6, none⟩ = some (.int .u64 (tm : Nat)) ∧ W.cell? ⟨b, 8, none⟩ = some (.int .u64 (bs : Nat)) ∧ W.cell? ⟨b, 9, none⟩ = some (.int .u64 (bt : Nat)) ∧ W.cell? ⟨b, 10, none⟩ = some (.slice ae le ce)) := fun W f => by
  obtain ⟨x0, x1, x2, x3, x4, x5, x6, x7, x8, x9, x10, x11, x12, x13⟩ := h.cells f
  exact ⟨by rw [x0, hme], x4, by rw [x6, htm0], by rw [x8, hbs], by rw [x9, hbt], by rw [x10, hve]⟩
 have CT := Lib.hid (fun k => (contains_calls (w.drewN k) q.vc n.conf (mN : Nat) (h.cf.tt ((Fr.refl _ w).drewN k)) (by unfold maxLen; omega)).mono fun e w' ⟨h1, h2⟩ => And.intro h1 h2.symm)
 have H := Lib.hid h
 obtain ⟨hs, hhs⟩ : ∃ x, hasI n.conf (mN : Nat) = x := ⟨_, rfl⟩
 rw [hhs] at CT
 have HHS := Lib.hid hhs
 have HME := Lib.hid hme
 have HFACT := Lib.hid (And.intro hbs (And.intro hbt (And.intro htm0 (And.intro htm1 (And.intro hL hLT)))))
 have HBD : Hid (tm + 1 < 18446744073709551616 ∧ L + 1 < 18446744073709551616 ∧ n.log.es.length ≤ 900000) := ⟨by omega, by omega, hle⟩
 have HCF := Lib.hid hcf
 have wt : IntKind.u64.wrap ((tm : Int) + 1) = (tm1 : Int) := by rw [IntKind.wrap_u64]; omega
 obtain ⟨vc, hvc⟩ : ∃ x, q.vc = x := ⟨_, rfl⟩
 have HVC := Lib.hid hvc
 rw [hvc] at CC CT
 obtain ⟨y0, y4, y6, y8, y9, y10⟩ := CC w (Fr.refl _ w)
 clear h hve hrow hlen hbs hbt htm0 htm1 hL hLT hL2 hLT2 hme hes htm hl hle hhs hcf hvc
 go_enter Try.func18, Try.ntmps18
 go_wp2_with fail
 go_quiet ((go_at_call 35; exact Calls.quiet_of_same (CT.out _)))
 clear y0 y4 y6 y8 y9 y10
 cases hs with
 | false =>
  go_wp2
  go_ret
  have e : n.askF = (n, []) := by unfold Nd.askF; rw [if_neg (by rw [HME.out, HHS.out]; decide)]
  rw [e]
  exact ⟨X, P, q, _, [], rfl, H.tt ((Fr.refl _ w).drewN nq), .tt ((Fr.refl _ w).drewN nq) H.px, OwnMs.nil _ _ _, rfl⟩
 | true =>
  have UD : Hid (FT w (w.drewN nq).drew) := ((Fr.refl _ w).drewN nq).drew
  go_wp2_with fail
  refine wp_region_cf (K := fun _ _ => True) (by kernel_rfl) [(16, 0), (17, 1), (18, 2), (19, 3), (20, 4), (21, 5), (22, 6), (23, 7), (24, 8), (25, 9), (26, 10), (27, 11), (28, 12), (29, 13), (30, 14), (31, 15), (5, 16)] [(0, []), (1, [0]), (2, [1]), (3, [2]), (4, [3]), (5, []), (6, [5]), (7, [6]), (8, [7]), (10, []), (11, [10]), (12, [11]), (13, [12]), (15, [4, 9, 14]), (9, [8]), (14, [13]), (16, [])] (ckR [(0, .pointer (some ⟨b, 0, none⟩)), (1, .pointer (some ⟨b, 0, none⟩)), (2, .pointer (some ⟨b, 6, none⟩)), (3, .int .u64 (tm : Nat)), (4, .int .u64 (tm1 : Nat)), (5, .pointer (some ⟨b, 0, none⟩)), (6, .pointer (some ⟨b, 0, none⟩)), (7, .pointer (some ⟨b, 8, none⟩)), (8, .agg #[.int .u64 (bs : Nat), .int .u64 (bt : Nat), .slice ae le ce]), (9, .int .u64 (L : Nat)), (10, .pointer (some ⟨b, 0, none⟩)), (11, .pointer (some ⟨b, 0, none⟩)), (12, .pointer (some ⟨b, 8, none⟩)), (13, .agg #[.int .u64 (bs : Nat), .int .u64 (bt : Nat), .slice ae le ce]), (14, .int .u64 (LT : Nat)), (15, .agg #[.int .i64 3, .int .i64 0, .int .i64 0, .int .u64 (tm1 : Nat), .int .u64 (L : Nat), .int .u64 (LT : Nat), .int .u64 0, .bool false, .slice none 0 0, .slice none 0 0])] [(16, ⟨fun v W => ∃ g, v = .pointer (some ⟨g, 0, none⟩) ∧ w.heap.size ≤ g ∧ W.heap[g]? = some (.cells (cM zMV) 74 (0, 0)), fun v W W' h hf => by obtain ⟨g, h1, h2, h3⟩ := h; exact ⟨g, h1, h2, hf.keep _ _ h3 trivial⟩⟩)] 17 0) 1 (by kernel_rfl) (by kernel_rfl) (by kernel_rfl) rfl ?cfall ?cfend
  case cfall =>
   iterate 14
    refine CfAll.kk rfl rfl rfl (fun xs W hF hE K' hK => ?_) ?_
    ·have HF := Lib.hid hF
     clear hF
     simp only [ckEqs, ckLook, Nat.reduceBEq] at hE
     simp only [fillA, fillL, sA, sB, sC, Act.put, hE] at hK ⊢
     clear hE
     obtain ⟨y0, y4, y6, y8, y9, y10⟩ := CC W (UD.trans HF)
     skip
     go_simp
     exact hK _ rfl
   refine CfAll.k rfl rfl (fun xs W hF hA hE K' hK => ?_) ?_
   ·have HF := Lib.hid hF
    clear hA hF
    simp only [ckEqs, ckLook, Nat.reduceBEq] at hE
    simp only [fillA, fillL, sA, sB, sC, Act.put, hE] at hK ⊢
    clear hE
    have LA1 := Lib.hid (LAST W)
    dsimp only [vL] at LA1
    skip
    go_simp
    (with_reducible refine LA1.out.mono ?_)
    rintro e w8 ⟨rfl, f8⟩
    exact hK _ _ _ rfl f8 rfl
   refine CfAll.k rfl rfl (fun xs W hF hA hE K' hK => ?_) ?_
   ·have HF := Lib.hid hF
    clear hA hF
    simp only [ckEqs, ckLook, Nat.reduceBEq] at hE
    simp only [fillA, fillL, sA, sB, sC, Act.put, hE] at hK ⊢
    clear hE
    have LA1 := Lib.hid (LTC W (UD.trans HF))
    dsimp only [vL] at LA1
    skip
    go_simp
    (with_reducible refine LA1.out.mono ?_)
    rintro e w8 ⟨rfl, f8⟩
    exact hK _ _ _ rfl f8 rfl
   refine CfAll.k rfl rfl (fun xs W hF hA hE K' hK => ?_) ?_
   ·have HF := Lib.hid hF
    clear hA hF
    simp only [ckEqs, ckLook, Nat.reduceBEq] at hE
    simp only [fillA, fillL, sA, sB, sC, Act.put, hE] at hK ⊢
    clear hE
    have SB : Hid (w.heap.size ≤ W.heap.size) := (UD.trans HF).size
    skip
    go_simp
    exact hK _ _ _ rfl ((Fr.refl _ _).alloc _) ⟨_, rfl, SB, heap_alloc_new _ _⟩
   exact CfAll.nil
  case cfend =>
   intro xs W hF hA
   have HF := Lib.hid hF
   have hE := ckEnd rfl hA
   have h16 := hA (16, []) (by decide)
   clear hA hF
   simp only [List.map_cons, List.map_nil, ckEqs, ckLook, Nat.reduceBEq] at hE
   simp only [fillA, fillL, sA, sB, sC, hE]
   clear hE
   obtain ⟨g, e16, hgw, tg⟩ := h16
   rw [e16]
   have TG := Lib.hid tg
   have HGW := Lib.hid hgw
   have FW := Lib.hid (UD.trans HF)
   obtain ⟨m0, hm0⟩ : ∃ m : MV, (⟨3, 0, 0, tm1, L, LT, 0, false, none, 0, [], none, 0, []⟩ : MV) = m := ⟨_, rfl⟩
   obtain ⟨W2, hW2', t2, f2⟩ := set10 tg (.int .i64 3) (.int .i64 0) (.int .i64 0) (.int .u64 (tm1 : Nat)) (.int .u64 (L : Nat)) (.int .u64 (LT : Nat)) (.int .u64 0) (.bool false) (.slice none 0 0) (.slice none 0 0)
   have T2 : Hid (W2.heap[g]? = some (.cells (cM m0) 74 (0, 0))) := by rw [← hm0]; exact t2
   have F2 := Lib.hid f2
   clear t2 f2
   have H2 := Lib.hid ((H.out.tt FW.out).msg F2.out ⟨_, _, tg⟩ (by have := lt_of_some H.out.top; have := HGW.out; omega))
   have FP2 : Hid (Fr (fun c _ => ¬ P c) w W2) := ((FW.out.tT : Fr (fun c _ => ¬ P c ∧ c < w.heap.size) w W).trans (F2.out.mono fun c _ h e => by have := h.2; have := HGW.out; omega)).within
   obtain ⟨v0, v1, v2, v3, v4, v5, v6, v7, v8, v9⟩ := mcells tg
   have z0 := frozen_mk (i := 0) tg
   have z1 := frozen_mk (i := 1) tg
   have z2 := frozen_mk (i := 2) tg
   have z3 := frozen_mk (i := 3) tg
   have z4 := frozen_mk (i := 4) tg
   have z5 := frozen_mk (i := 5) tg
   have z6 := frozen_mk (i := 6) tg
   have z7 := frozen_mk (i := 7) tg
   have z8 := frozen_mk (i := 8) tg
   have z9 := frozen_mk (i := 9) tg
   refine wpAny_next 17 (by kernel_rfl) rfl fun K' hK => ?_
   skip
   go_simp
   refine hK _ _ ?_
   clear hK K'
   refine wpAny_fin (by kernel_rfl) ?_
   try rw [hW2']
   clear z0 z1 z2 z3 z4 z5 z6 z7 z8 z9 v0 v1 v2 v3 v4 v5 v6 v7 v8 v9 hW2' tg
   have Ha : Hid (PNs X P (sets W2 b [(2, .int .i64 1)]) b { n with role := 1 } q) := H2.re (sets_fr b _ W2) (sets_heap _ H2.top) ⟨rfl, rfl⟩ (.inl ⟨rfl, rfl⟩) ⟨rfl, rfl, rfl⟩ ⟨rfl, rfl, rfl, rfl⟩
   have x2 := (H2.cells (Fr.refl _ W2)).2.2.1
   have z2 := H2.free (Fr.refl _ W2) 2
   obtain ⟨Wa, hWa⟩ : ∃ Y, W2.setCell ⟨b, 2, none⟩ (.int .i64 1) = Y := ⟨_, rfl⟩
   have FPa : Hid (Fr (fun c _ => ¬ P c) w Wa) := hWa ▸ FP2.out.setCell (p := ⟨b, 2, none⟩) (fun _ _ h => h H.out.pb) _
   have Ta : Hid (Wa.heap[g]? = some (.cells (cM m0) 74 (0, 0))) := by
    rw [← hWa]
    rw [show (W2.setCell ⟨b, 2, none⟩ (.int .i64 1)).heap[g]? = W2.heap[g]? from heap_setCell_ne (fun e => by have := HGW.out; have := lt_of_some H.out.top; omega) _]
    exact T2
   replace Ha : Hid (PNs X P Wa b { n with role := 1 } q) := hWa ▸ Ha.out
   have hgb : g ≠ b := fun e => by have := HGW.out; have := lt_of_some H.out.top; omega
   skip
   have Tc : Hid (Wa.heap[g]? = some (.cells (cM m0) 74 (0, 0))) := Ta
   have Hc := Lib.hid Ha
   skip
   have hm1 := hm0
   have FPc : Hid (Fr (fun c _ => ¬ P c) w Wa) := FPa
   have SC : Hid (w.heap.size ≤ Wa.heap.size) := FPc.size
   have c0 : Wa.cell? ⟨b, 0, none⟩ = some (.int .i64 (mN : Nat)) := by rw [(Hc.out.cells (Fr.refl _ Wa)).1]; show some (Value.int .i64 n.me) = _; rw [HME.out]
   obtain ⟨Wd, hWd⟩ : ∃ Y, Wa.alloc (.cells #[.int .i64 (mN : Nat)] 3 (0, 0)) = Y := ⟨_, rfl⟩
   have fd : FT Wa Wd := hWd ▸ (Fr.refl _ _).alloc _
   have TYd : Wd.heap[Wa.heap.size]? = some (.cells #[.int .i64 (mN : Nat)] 3 (0, 0)) := hWd ▸ heap_alloc_new _ _
   have Hd := Lib.hid (Hc.tt fd)
   have d3 := (Hd.cells (Fr.refl _ Wd)).2.2.2.1
   have d5 := (Hd.cells (Fr.refl _ Wd)).2.2.2.2.2.1
   have zd3 := Hd.free (Fr.refl _ Wd) 3
   have zd5 := Hd.free (Fr.refl _ Wd) 5
   obtain ⟨We, hWe⟩ : ∃ Y, (Wd.setCell ⟨b, 3, none⟩ (.int .i64 (-1))).setCell ⟨b, 5, none⟩ (.slice (some ⟨Wa.heap.size, 0, none⟩) 1 1) = Y := ⟨_, rfl⟩
   have hWe' : sets Wd b [(3, .int .i64 (-1)), (5, .slice (some ⟨Wa.heap.size, 0, none⟩) 1 1)] = We := hWe
   have fe : Fr (fun c _ => c ≠ b) Wd We := hWe' ▸ sets_fr b _ Wd
   have hby : Wa.heap.size ≠ b := fun e => by have := lt_of_some Hc.out.top; omega
   have TYe : We.heap[Wa.heap.size]? = some (.cells #[.int .i64 (mN : Nat)] 3 (0, 0)) := fe.keep _ _ TYd hby
   obtain ⟨n1, hn1⟩ : ∃ m : Nd, { n with role := 1, tm := n.tm, vote := n.vote, ld := -1, yes := [((mN : Nat) : Int)] } = m := ⟨_, rfl⟩
   obtain ⟨q1, hq1⟩ : ∃ m : NV, { q with vy := .slice (some ⟨Wa.heap.size, 0, none⟩) 1 1 } = m := ⟨_, rfl⟩
   have HY := Hc.out.reY (w' := We) (n' := { n with role := 1, tm := n.tm, vote := n.vote, ld := -1, yes := [((mN : Nat) : Int)] }) (q' := { q with vy := .slice (some ⟨Wa.heap.size, 0, none⟩) 1 1 }) ((fd.tT).trans fe) (hWe' ▸ sets_heap _ (fd.keep _ _ Hc.out.top trivial)) ⟨rfl, rfl⟩ ⟨rfl, rfl, rfl⟩ ⟨rfl, rfl, rfl, rfl⟩ Wa.heap.size ⟨rfl, .inr ⟨_, 1, _, rfl, Nat.zero_le _, TYe, Nat.le_refl _, by unfold maxLen; decide, rfl, rfl⟩⟩ rfl (Nat.le_refl _)
   rw [hn1, hq1] at HY
   have H5 := Lib.hid HY.1
   have A5 := Lib.hid ((Aft.of FPc H.px).trans HY.2)
   obtain ⟨X1, hX1⟩ : ∃ Z : Nat → Prop, (fun c => X c ∨ c = Wa.heap.size) = Z := ⟨_, rfl⟩
   obtain ⟨P1, hP1⟩ : ∃ Z : Nat → Prop, (fun c => P c ∨ c = Wa.heap.size) = Z := ⟨_, rfl⟩
   rw [hX1, hP1] at H5 A5
   have T5 : Hid (We.heap[g]? = some (.cells (cM m0) 74 (0, 0))) := fe.keep _ _ (fd.keep _ _ Tc trivial) hgb
   have hq4 : n1.conf = n.conf ∧ q1.vc = vc ∧ n1.yes = [((mN : Nat) : Int)] ∧ q1.vy = .slice (some ⟨Wa.heap.size, 0, none⟩) 1 1 := by rw [← hn1, ← hq1]; exact ⟨rfl, HVC.out, rfl, rfl⟩
   have AG := Lib.hid (fun k => (agrees_calls (We.drewN k) q1.vc q1.vy n1.conf n1.yes (H5.out.cf.tt ((Fr.refl _ We).drewN k)) (H5.out.ye.ints.tt ((Fr.refl _ We).drewN k)) (by rw [hq4.1]; have := HCF.out; unfold maxLen; omega) (by rw [hq4.2.2.1]; show 1 ≤ maxLen; unfold maxLen; decide)).mono fun e w' ⟨h1, h2⟩ => And.intro h1 h2.symm)
   rw [hq4.2.1, hq4.2.2.2, hq4.1, hq4.2.2.1] at AG
   obtain ⟨ag, hag⟩ : ∃ x, agrI n.conf [((mN : Nat) : Int)] = x := ⟨_, rfl⟩
   rw [hag] at AG
   have HAG := Lib.hid hag
   have HN1 := Lib.hid hn1
   have HM1 := Lib.hid hm1
   have f4 : We.cell? ⟨b, 4, none⟩ = some vc := by rw [(H5.out.cells (Fr.refl _ We)).2.2.2.2.1, hq4.2.1]
   have f5 : We.cell? ⟨b, 5, none⟩ = some (.slice (some ⟨Wa.heap.size, 0, none⟩) 1 1) := by rw [(H5.out.cells (Fr.refl _ We)).2.2.2.2.2.1, hq4.2.2.2]
   have TOF : Hid (∀ k, Calls Try.prog 38 #[.pointer (some ⟨b, 0, none⟩), .agg (cM m0)] (We.drewN k) fun e w' => (∃ v, e = .returned v ∧ OwnMs X1 (We.drewN k).heap.size w' v (n1.others.map (toMV n1.me m0))) ∧ FT (We.drewN k) w') := fun k => toall_calls (H5.out.tt ((Fr.refl _ We).drewN k)) (by rw [hq4.1]; exact HCF.out) m0 (by rw [← hm1]; exact ⟨BytesAt.nil _ _, EsAt.nil _ _⟩)
   clear HY hX1 hP1 hq4 hag hn1 hm1 hm0 hq1 TYe TYd hWe'
   go_wp2_with fail
   try rw [hWc]
   try rw [hWd]
   try rw [hWe]
   clear hWa hWd hWe c0 d3 d5 zd3 zd5 x2 z2 fd fe
   go_quiet ((go_at_call 36; exact Calls.quiet_of_same (AG.out _)))
   have U5 : Hid (FT We (We.drewN nq)) := (Fr.refl _ We).drewN nq
   have OUT : Hid (n.askF = if ag = true then n1.askT else (n1, n1.toAll m0.ms)) := by
    show n.askF = _
    rw [← HAG.out, ← HN1.out, ← HM1.out]
    unfold Nd.askF
    rw [if_pos (by rw [HME.out]; exact HHS.out)]
    rw [HME.out, HFACT.out.2.2.1, HFACT.out.2.2.2.1, HFACT.out.2.2.2.2.1, HFACT.out.2.2.2.2.2]
    rfl
   clear AG f4 f5
   cases ag with
   | true =>
    replace OUT : Hid (n.askF = n1.askT) := OUT.trans (if_pos rfl)
    have CHO := Lib.hid (chosen_ask (H5.out.tt U5.out) (by rw [← HN1.out]) (by rw [← HN1.out]; exact HCF.out) mN (by rw [← HN1.out]; exact HME.out) hm16 (by rw [← HN1.out]; show n.tm + 1 < _; rw [HFACT.out.2.2.1]; exact HBD.out.1) (by rw [← HN1.out]; show n.log.last + 1 < _; rw [HFACT.out.2.2.2.2.1]; exact HBD.out.2.1) (by rw [← HN1.out]; exact HBD.out.2.2))
    clear HAG HN1
    go_wp2_with fail
    (with_reducible refine CHO.out.mono ?_)
    intro e w9 ho
    replace ho := ho.behind (A5.tr U5)
    obtain ⟨X', P', q', v, mvs, rfl, h2, h3, h4, h5⟩ := ho
    have HH := Lib.hid (And.intro h2 (And.intro h3 (And.intro h4 h5)))
    clear h2 h3 h4 h5 CHO
    go_wp2
    go_ret
    rw [OUT.out]
    exact ⟨X', P', q', _, mvs, rfl, HH.1, HH.2.1, HH.2.2.1, HH.2.2.2⟩
   | false =>
    replace OUT : Hid (n.askF = (n1, n1.toAll m0.ms)) := OUT.trans (if_neg (by decide))
    have T6 : Hid ((We.drewN nq).heap[g]? = some (.cells (cM m0) 74 (0, 0))) := U5.keep _ _ T5 trivial
    have TOF1 := Lib.hid (TOF nq)
    clear TOF HAG HN1
    obtain ⟨v0, v1, v2, v3, v4, v5, v6, v7, v8, v9⟩ := mcells T6
    rw [← HM1.out] at v0 v1 v2 v3 v4 v5 v6 v7 v8 v9 TOF1
    replace TOF1 : Hid (Calls Try.prog 38 #[.pointer (some ⟨b, 0, none⟩), .agg #[.int .i64 3, .int .i64 0, .int .i64 0, .int .u64 (tm1 : Nat), .int .u64 (L : Nat), .int .u64 (LT : Nat), .int .u64 0, .bool false, .slice none 0 0, .slice none 0 0]] (We.drewN nq) _) := TOF1
    go_wp2_with fail
    (with_reducible refine TOF1.out.mono ?_)
    rintro e w9 ⟨⟨v, rfl, ho⟩, f9⟩
    have HO := Lib.hid ho
    have F9 := Lib.hid f9
    have A9 := Lib.hid ((A5.tr U5).tr F9)
    clear ho f9
    go_wp2
    go_ret
    rw [OUT.out]
    refine ⟨X1, P1, q1, _, _, rfl, (H5.tt U5).tt F9, A9, HO.lo (A5.tr U5).fr.size, ?_⟩
    rw [HM1.out]
    show (n1.others.map _).map _ = _
    rw [List.map_map]
    rfl
end
end Go.Proofs.Ytmjccpfchhnfhaa
