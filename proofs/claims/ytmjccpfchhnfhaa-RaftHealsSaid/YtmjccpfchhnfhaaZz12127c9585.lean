/- Texts of the proofs, part 36: what the functions that they reach do, walked; no conditions beyond those that each states. -/
import Derived.Test.YtmjccpfchhnfhaaZz2c42303a4a
set_option linter.unusedVariables false
set_option linter.unusedSimpArgs false
/- raft: Step, Timeout (printed by yd.py). -/
namespace Go.Proofs.Ytmjccpfchhnfhaa
open Go.RowKit
set_option linter.unusedVariables false
set_option linter.unusedSimpArgs false
section
variable {X P X' P' : Nat → Prop} {w w' : World} {b rb ap : Nat} {n n' : Nd} {q q' : NV}
structure Gn (n : Nd) (m : Ms) : Prop where
 cf : 0 < n.conf.length ∧ n.conf.length ≤ 12
 pos : ∀ x ∈ n.conf, 0 ≤ x
 me : ∃ mN : Nat, n.me = (mN : Nat) ∧ mN < 16
 ye : n.yes.length ≤ 100000
 es : n.log.es.length ≤ 100000
 bn : Bn 4611686018427387904 n
 bm : Bm 4611686018427387904 m
 le : m.es.length ≤ 100000
set_option maxRecDepth 100000 in
set_option maxHeartbeats 8000000 in
theorem step_fn [Old] (h : PNs X P w b n q) (m : MV) (hm : MsAt X w m) (gm gr : Nat) (hr : RB w rb b ap) (hgm : w.heap[gm]? = some (.cells (cM m) 74 (0, 0))) (hgr : w.heap[gr]? = some (.cells #[.pointer (some ⟨rb, 0, none⟩)] 56 (0, 0))) (hk : 1 ≤ m.kind ∧ m.kind ≤ 6) (hg : Gn n m.ms) :
  Calls Try.prog 53 #[.pointer (some ⟨gm, 0, none⟩), .pointer (some ⟨gr, 0, none⟩)] w fun e w' => NOut X P w b (n.does m.ms) e w' := by
 obtain ⟨mN, hme, hm16⟩ := hg.me
 have hb := hg.bn
 have b1 := hb.tm
 have b2 := hb.last
 have m1 : m.tm ≤ _ := hg.bm.tm
 have m2 : m.index + m.ms.es.length ≤ _ := hg.bm.index
 rw [m.esl] at m2
 have m3 : m.es.length ≤ 100000 := by rw [← m.esl]; exact hg.le
 have m4 : m.kind = 6 → m.prev ≤ _ := hg.bm.prev
 obtain ⟨k, hkk⟩ : ∃ x, m.kind = x := ⟨_, rfl⟩
 have CC : Hid (∀ W, FT w W → W.cell? ⟨gr, 0, none⟩ = some (.pointer (some ⟨rb, 0, none⟩)) ∧ W.cell? ⟨rb, 0, none⟩ = some (.pointer (some ⟨b, 0, none⟩)) ∧ W.cell? ⟨gm, 0, none⟩ = some (.int .i64 k) ∧ W.cell? ⟨gm, 1, none⟩ = some (.int .i64 m.src) ∧ W.cell? ⟨gm, 2, none⟩ = some (.int .i64 m.dst) ∧ W.cell? ⟨gm, 3, none⟩ = some (.int .u64 (m.tm : Nat)) ∧ W.cell? ⟨gm, 4, none⟩ = some (.int .u64 (m.index : Nat)) ∧ W.cell? ⟨gm, 5, none⟩ = some (.int .u64 (m.prev : Nat)) ∧ W.cell? ⟨gm, 6, none⟩ = some (.int .u64 (m.commit : Nat)) ∧ W.cell? ⟨gm, 7, none⟩ = some (.bool m.ok) ∧ W.cell? ⟨gm, 8, none⟩ = some (.slice m.da m.d.length m.dc) ∧ W.cell? ⟨gm, 9, none⟩ = some (.slice m.ea m.es.length m.ec)) := fun W f =>
  ⟨cell_mk (f.keep _ _ hgr trivial) rfl, cell_mk (f.keep _ _ hr trivial) rfl, by rw [← hkk]; exact (mcells (f.keep _ _ hgm trivial)).1, (mcells (f.keep _ _ hgm trivial)).2⟩
 have C1 := Lib.hid (fun W (f : FT w W) => onAsk_calls (h.tt f) m (by omega) (by have := hg.es; omega))
 have C2 := Lib.hid (fun W (f : FT w W) => onAnswer_calls (h.tt f) m ⟨hg.cf.1, by have := hg.cf.2; omega⟩ (by have := hg.ye; omega) mN hme hm16 (by omega) (by omega) (by omega) (by have := hg.es; omega))
 have C3 := Lib.hid (fun W (f : FT w W) => onAppend_calls (h.tt f) m (hm.tt f) (by omega) (by omega) (by omega) (by have := hg.es; omega))
 have C4 := Lib.hid (fun W (f : FT w W) => onAcked_calls (h.tt f) m hg.cf hg.pos (fun y hy => by have := hb.nx y hy; omega) (fun y hy => by have := hb.mt y hy; omega) (by omega) (fun e => by have := m4 e; omega) (by omega) (by have := hg.es; omega))
 obtain ⟨r, hrr⟩ : ∃ r, n.does m.ms = r := ⟨_, rfl⟩
 have EQ : Hid (r = if k = 1 ∨ k = 3 then n.onAsk m.ms else if k = 2 ∨ k = 4 then n.onAnswer m.ms else if k = 5 then n.onAppend m.ms else n.onAcked m.ms) := by
  show r = _
  rw [← hrr, ← hkk]; rfl
 rw [hrr]
 rw [hkk] at hk
 obtain ⟨-, -, v0, -⟩ := CC w (Fr.refl _ _)
 dsimp only [cM] at C1 C2 C3 C4
 rw [hkk] at C1 C2 C3 C4
 clear h hm hr hgm hgr hg hb b1 b2 m1 m2 m3 m4 hme hm16 hkk hrr
 have K : k = 1 ∨ k = 3 ∨ k = 2 ∨ k = 4 ∨ k = 5 ∨ k = 6 := by omega
 clear hk
 rcases K with e | e | e | e | e | e
 all_goals
  first
  | (have g1 : (k == 1) = true := by rw [e]; rfl)
  | (have g1 : (k == 1) = false := by rw [e]; rfl)
  first
  | (have g3 : (k == 3) = true := by rw [e]; rfl)
  | (have g3 : (k == 3) = false := by rw [e]; rfl)
  first
  | (have g2 : (k == 2) = true := by rw [e]; rfl)
  | (have g2 : (k == 2) = false := by rw [e]; rfl)
  first
  | (have g4 : (k == 4) = true := by rw [e]; rfl)
  | (have g4 : (k == 4) = false := by rw [e]; rfl)
  first
  | (have g5 : (k == 5) = true := by rw [e]; rfl)
  | (have g5 : (k == 5) = false := by rw [e]; rfl)
 all_goals
  have HE := Lib.hid e
  clear e
 case' inl | inr.inl =>
  have OUT : Hid (r = n.onAsk m.ms) := EQ.out.trans (if_pos (by have := HE.out; omega))
  clear EQ C2 C3 C4
  go_enter Try.func53, Try.ntmps53
  go_wp2_with fail
  refine wp_region_cf (K := fun _ _ => True) (by kernel_rfl) [(8, 0), (9, 1), (10, 2), (11, 3), (12, 4), (13, 5), (2, 6)] [(0, []), (1, [0]), (2, [1]), (3, [2]), (4, [])] (ckR [(0, .pointer (some ⟨rb, 0, none⟩)), (1, .pointer (some ⟨rb, 0, none⟩)), (2, .pointer (some ⟨rb, 0, none⟩)), (3, .pointer (some ⟨b, 0, none⟩)), (4, .agg #[.int .i64 k, .int .i64 m.src, .int .i64 m.dst, .int .u64 (m.tm : Nat), .int .u64 (m.index : Nat), .int .u64 (m.prev : Nat), .int .u64 (m.commit : Nat), .bool m.ok, .slice m.da m.d.length m.dc, .slice m.ea m.es.length m.ec])] [] 5 0) 2 (by kernel_rfl) (by kernel_rfl) (by kernel_rfl) rfl ?cfall ?cfend
  case cfall =>
   iterate 5
    refine CfAll.kk rfl rfl rfl (fun xs W hF hE K' hK => ?_) ?_
    ·have HF := Lib.hid hF
     clear hF
     simp only [ckEqs, ckLook, Nat.reduceBEq] at hE
     simp only [fillA, fillL, sA, sB, sC, Act.put, hE] at hK ⊢
     clear hE
     obtain ⟨y0, y1, v0, v1, v2, v3, v4, v5, v6, v7, v8, v9⟩ := CC W ((Fr.refl _ w).drew.trans HF)
     skip
     go_simp
     exact hK _ rfl
   exact CfAll.nil
  case cfend =>
   intro xs W hF hA
   have HF := Lib.hid hF
   have hE := ckEnd rfl hA
   clear hA hF
   simp only [List.map_cons, List.map_nil, ckEqs, ckLook, Nat.reduceBEq] at hE
   simp only [fillA, fillL, sA, sB, sC, hE]
   clear hE
   have FW : Hid (FT w W) := (Fr.refl _ w).drew.trans HF
   have C := Lib.hid (C1 W FW)
   refine wpAny_next 5 (by kernel_rfl) rfl fun K' hK => ?_
   skip
   go_simp
   (with_reducible refine C.out.mono ?_)
   rintro e w2 ⟨X2, P2, q2, v, mvs, rfl, h2, a2, o2, e2⟩
   have HH := Lib.hid (And.intro h2 (And.intro a2 (And.intro o2 e2)))
   clear h2 a2 o2 e2 C
   refine hK _ _ ?_
   clear hK K'
   refine wpAny_next 6 (by kernel_rfl) rfl fun K' hK => ?_
   skip
   go_simp
   refine hK _ _ ?_
   clear hK K'
   refine wpAny_fin (by kernel_rfl) ?_
   go_wp2
   go_ret
   rw [OUT.out]
   exact ⟨X2, P2, q2, _, mvs, rfl, HH.1, .lead FW HH.2.1, HH.2.2.1.lo FW.size, HH.2.2.2⟩
 case' inr.inr.inl | inr.inr.inr.inl =>
  have OUT : Hid (r = n.onAnswer m.ms) := EQ.out.trans ((if_neg (by have := HE.out; omega)).trans (if_pos (by have := HE.out; omega)))
  clear EQ C1 C3 C4
  go_enter Try.func53, Try.ntmps53
  go_wp2_with fail
  refine wp_region_cf (K := fun _ _ => True) (by kernel_rfl) [(17, 0), (18, 1), (19, 2), (20, 3), (21, 4), (22, 5), (2, 6)] [(0, []), (1, [0]), (2, [1]), (3, [2]), (4, [])] (ckR [(0, .pointer (some ⟨rb, 0, none⟩)), (1, .pointer (some ⟨rb, 0, none⟩)), (2, .pointer (some ⟨rb, 0, none⟩)), (3, .pointer (some ⟨b, 0, none⟩)), (4, .agg #[.int .i64 k, .int .i64 m.src, .int .i64 m.dst, .int .u64 (m.tm : Nat), .int .u64 (m.index : Nat), .int .u64 (m.prev : Nat), .int .u64 (m.commit : Nat), .bool m.ok, .slice m.da m.d.length m.dc, .slice m.ea m.es.length m.ec])] [] 5 0) 2 (by kernel_rfl) (by kernel_rfl) (by kernel_rfl) rfl ?cfall ?cfend
  case cfall =>
   iterate 5
    refine CfAll.kk rfl rfl rfl (fun xs W hF hE K' hK => ?_) ?_
    ·have HF := Lib.hid hF
     clear hF
     simp only [ckEqs, ckLook, Nat.reduceBEq] at hE
     simp only [fillA, fillL, sA, sB, sC, Act.put, hE] at hK ⊢
     clear hE
     obtain ⟨y0, y1, v0, v1, v2, v3, v4, v5, v6, v7, v8, v9⟩ := CC W ((Fr.refl _ w).drew.trans HF)
     skip
     go_simp
     exact hK _ rfl
   exact CfAll.nil
  case cfend =>
   intro xs W hF hA
   have HF := Lib.hid hF
   have hE := ckEnd rfl hA
   clear hA hF
   simp only [List.map_cons, List.map_nil, ckEqs, ckLook, Nat.reduceBEq] at hE
   simp only [fillA, fillL, sA, sB, sC, hE]
   clear hE
   have FW : Hid (FT w W) := (Fr.refl _ w).drew.trans HF
   have C := Lib.hid (C2 W FW)
   refine wpAny_next 5 (by kernel_rfl) rfl fun K' hK => ?_
   skip
   go_simp
   (with_reducible refine C.out.mono ?_)
   rintro e w2 ⟨X2, P2, q2, v, mvs, rfl, h2, a2, o2, e2⟩
   have HH := Lib.hid (And.intro h2 (And.intro a2 (And.intro o2 e2)))
   clear h2 a2 o2 e2 C
   refine hK _ _ ?_
   clear hK K'
   refine wpAny_next 6 (by kernel_rfl) rfl fun K' hK => ?_
   skip
   go_simp
   refine hK _ _ ?_
   clear hK K'
   refine wpAny_fin (by kernel_rfl) ?_
   go_wp2
   go_ret
   rw [OUT.out]
   exact ⟨X2, P2, q2, _, mvs, rfl, HH.1, .lead FW HH.2.1, HH.2.2.1.lo FW.size, HH.2.2.2⟩
 ·have OUT : Hid (r = n.onAppend m.ms) := EQ.out.trans ((if_neg (by have := HE.out; omega)).trans ((if_neg (by have := HE.out; omega)).trans (if_pos HE.out)))
  clear EQ C1 C2 C4
  go_enter Try.func53, Try.ntmps53
  go_wp2_with fail
  refine wp_region_cf (K := fun _ _ => True) (by kernel_rfl) [(25, 0), (26, 1), (27, 2), (28, 3), (29, 4), (30, 5), (2, 6)] [(0, []), (1, [0]), (2, [1]), (3, [2]), (4, [])] (ckR [(0, .pointer (some ⟨rb, 0, none⟩)), (1, .pointer (some ⟨rb, 0, none⟩)), (2, .pointer (some ⟨rb, 0, none⟩)), (3, .pointer (some ⟨b, 0, none⟩)), (4, .agg #[.int .i64 k, .int .i64 m.src, .int .i64 m.dst, .int .u64 (m.tm : Nat), .int .u64 (m.index : Nat), .int .u64 (m.prev : Nat), .int .u64 (m.commit : Nat), .bool m.ok, .slice m.da m.d.length m.dc, .slice m.ea m.es.length m.ec])] [] 5 0) 2 (by kernel_rfl) (by kernel_rfl) (by kernel_rfl) rfl ?cfall ?cfend
  case cfall =>
   iterate 5
    refine CfAll.kk rfl rfl rfl (fun xs W hF hE K' hK => ?_) ?_
    ·have HF := Lib.hid hF
     clear hF
     simp only [ckEqs, ckLook, Nat.reduceBEq] at hE
     simp only [fillA, fillL, sA, sB, sC, Act.put, hE] at hK ⊢
     clear hE
     obtain ⟨y0, y1, v0, v1, v2, v3, v4, v5, v6, v7, v8, v9⟩ := CC W ((Fr.refl _ w).drew.trans HF)
     skip
     go_simp
     exact hK _ rfl
   exact CfAll.nil
  case cfend =>
   intro xs W hF hA
   have HF := Lib.hid hF
   have hE := ckEnd rfl hA
   clear hA hF
   simp only [List.map_cons, List.map_nil, ckEqs, ckLook, Nat.reduceBEq] at hE
   simp only [fillA, fillL, sA, sB, sC, hE]
   clear hE
   have FW : Hid (FT w W) := (Fr.refl _ w).drew.trans HF
   have C := Lib.hid (C3 W FW)
   refine wpAny_next 5 (by kernel_rfl) rfl fun K' hK => ?_
   skip
   go_simp
   (with_reducible refine C.out.mono ?_)
   rintro e w2 ⟨X2, P2, q2, v, mvs, rfl, h2, a2, o2, e2⟩
   have HH := Lib.hid (And.intro h2 (And.intro a2 (And.intro o2 e2)))
   clear h2 a2 o2 e2 C
   refine hK _ _ ?_
   clear hK K'
   refine wpAny_next 6 (by kernel_rfl) rfl fun K' hK => ?_
   skip
   go_simp
   refine hK _ _ ?_
   clear hK K'
   refine wpAny_fin (by kernel_rfl) ?_
   go_wp2
   go_ret
   rw [OUT.out]
   exact ⟨X2, P2, q2, _, mvs, rfl, HH.1, .lead FW HH.2.1, HH.2.2.1.lo FW.size, HH.2.2.2⟩
 ·have OUT : Hid (r = n.onAcked m.ms) := EQ.out.trans ((if_neg (by have := HE.out; omega)).trans ((if_neg (by have := HE.out; omega)).trans (if_neg (by have := HE.out; omega))))
  clear EQ C1 C2 C3
  go_enter Try.func53, Try.ntmps53
  go_wp2_with fail
  refine wp_region_cf (K := fun _ _ => True) (by kernel_rfl) [(31, 0), (32, 1), (33, 2), (34, 3), (35, 4), (36, 5), (2, 6)] [(0, []), (1, [0]), (2, [1]), (3, [2]), (4, [])] (ckR [(0, .pointer (some ⟨rb, 0, none⟩)), (1, .pointer (some ⟨rb, 0, none⟩)), (2, .pointer (some ⟨rb, 0, none⟩)), (3, .pointer (some ⟨b, 0, none⟩)), (4, .agg #[.int .i64 k, .int .i64 m.src, .int .i64 m.dst, .int .u64 (m.tm : Nat), .int .u64 (m.index : Nat), .int .u64 (m.prev : Nat), .int .u64 (m.commit : Nat), .bool m.ok, .slice m.da m.d.length m.dc, .slice m.ea m.es.length m.ec])] [] 5 0) 2 (by kernel_rfl) (by kernel_rfl) (by kernel_rfl) rfl ?cfall ?cfend
  case cfall =>
   iterate 5
    refine CfAll.kk rfl rfl rfl (fun xs W hF hE K' hK => ?_) ?_
    ·have HF := Lib.hid hF
     clear hF
     simp only [ckEqs, ckLook, Nat.reduceBEq] at hE
     simp only [fillA, fillL, sA, sB, sC, Act.put, hE] at hK ⊢
     clear hE
     obtain ⟨y0, y1, v0, v1, v2, v3, v4, v5, v6, v7, v8, v9⟩ := CC W ((Fr.refl _ w).drew.trans HF)
     skip
     go_simp
     exact hK _ rfl
   exact CfAll.nil
  case cfend =>
   intro xs W hF hA
   have HF := Lib.hid hF
   have hE := ckEnd rfl hA
   clear hA hF
   simp only [List.map_cons, List.map_nil, ckEqs, ckLook, Nat.reduceBEq] at hE
   simp only [fillA, fillL, sA, sB, sC, hE]
   clear hE
   have FW : Hid (FT w W) := (Fr.refl _ w).drew.trans HF
   have C := Lib.hid (C4 W FW)
   refine wpAny_next 5 (by kernel_rfl) rfl fun K' hK => ?_
   skip
   go_simp
   (with_reducible refine C.out.mono ?_)
   rintro e w2 ⟨X2, P2, q2, v, mvs, rfl, h2, a2, o2, e2⟩
   have HH := Lib.hid (And.intro h2 (And.intro a2 (And.intro o2 e2)))
   clear h2 a2 o2 e2 C
   refine hK _ _ ?_
   clear hK K'
   refine wpAny_next 6 (by kernel_rfl) rfl fun K' hK => ?_
   skip
   go_simp
   refine hK _ _ ?_
   clear hK K'
   refine wpAny_fin (by kernel_rfl) ?_
   go_wp2
   go_ret
   rw [OUT.out]
   exact ⟨X2, P2, q2, _, mvs, rfl, HH.1, .lead FW HH.2.1, HH.2.2.1.lo FW.size, HH.2.2.2⟩
def SOut [Old] (X P : Nat → Prop) (w : World) (b : Nat) (r : (Nd × List Ms) × Int) (e : Ending) (w' : World) : Prop :=
 ∃ X' P' q' v mvs, e = .returned (.tuple #[v, .int .i64 r.2]) ∧ PNs X' P' w' b r.1.1 q' ∧ Aft X P X' P' w w' ∧ OwnMs X' w.heap.size w' v mvs ∧ mvs.map MV.ms = r.1.2
theorem Bn.does {n : Nd} {m : Ms} (hg : Gn n m) : Bn 4611686018427387905 (n.does m).1 ∧ (n.does m).1.log.es.length ≤ 200001 ∧ (n.does m).2.length ≤ 900000 ∧ (n.does m).1.conf = n.conf := by
 have l1 := hg.es
 have l2 := hg.le
 unfold Nd.does
 split
 ·refine ⟨(Nd.onAsk_b hg.bn hg.bm).1.mono (by omega), ?_, Nat.le_trans (Nd.onAsk_len n m) (by omega), (Nd.onAsk_up n m).conf⟩
  rw [Nd.onAsk_log]; omega
 ·split
  ·refine ⟨(Nd.onAnswer_b hg.bn hg.bm).1, ?_, Nat.le_trans (Nd.onAnswer_len n m) (by have := hg.cf.2; omega), (Nd.onAnswer_up n m).conf⟩
   have := Nd.onAnswer_log n m; omega
  ·split
   ·refine ⟨(Nd.onAppend_b hg.bn hg.bm).1.mono (by omega), ?_, Nat.le_trans (Nd.onAppend_len n m) (by omega), (Nd.onAppend_up n m).conf⟩
    have := Nd.onAppend_log n m; omega
   ·refine ⟨(Nd.onAcked_b hg.bn hg.bm).1, ?_, Nat.le_trans (Nd.onAcked_len n m) (by omega), (Nd.onAcked_up n m).conf⟩
    rw [Nd.onAcked_log]; omega
set_option maxRecDepth 100000 in
set_option maxHeartbeats 8000000 in
theorem rstep_calls [Old] (h : PNs X P w b n q) (hr : RB w rb b ap) (hrx : ¬ P rb) (m : MV) (hm : MsAt X w m) (hel : m.es.length ≤ 9223372036854775807) (hdl : m.d.length ≤ 9223372036854775807) (hod : ∀ c, Old.o c → c < w.heap.size) (hg : n.right m.ms = 0 → Gn n m.ms) :
  Calls Try.prog 25 #[.pointer (some ⟨rb, 0, none⟩), .agg (cM m)] w fun e w' => SOut X P w b (n.step m.ms) e w' := by
 obtain ⟨W0, hW0⟩ : ∃ Y, w.alloc (.cells #[.pointer (some ⟨rb, 0, none⟩)] 56 (0, 0)) = Y := ⟨_, rfl⟩
 have f0 : FT w W0 := hW0 ▸ (Fr.refl _ _).alloc _
 have t0 : W0.heap[w.heap.size]? = some (.cells #[.pointer (some ⟨rb, 0, none⟩)] 56 (0, 0)) := by rw [← hW0]; exact heap_alloc_new _ _
 obtain ⟨W1, hW1, F1, X1⟩ := mbox W0 m
 have FW := Lib.hid (f0.trans F1)
 have T1 : Hid (W1.heap[w.heap.size]? = some (.cells #[.pointer (some ⟨rb, 0, none⟩)] 56 (0, 0))) := F1.keep _ _ t0 trivial
 have RC := Lib.hid (rfright_calls (h.tt FW) (hr.fr FW fun _ => trivial) m (hm.tt FW) hel hdl)
 obtain ⟨c, hc⟩ : ∃ c, n.right m.ms = c := ⟨_, rfl⟩
 rw [hc] at RC
 have H := Lib.hid h
 have HR := Lib.hid hr
 have HX := Lib.hid hrx
 have HM := Lib.hid hm
 have OD := Lib.hid hod
 have HG := Lib.hid hg
 have HC := Lib.hid hc
 obtain ⟨res, hres⟩ : ∃ x, n.step m.ms = x := ⟨_, rfl⟩
 have EQ : Hid (res = if c ≠ 0 then ((n, []), c) else (n.led (n.hear m.ms), 0)) := by
  show res = _
  rw [← hres, ← hc]; rfl
 rw [hres]
 have u0 := cell_mk (i := 0) T1 rfl
 obtain ⟨v0, v1, v2, v3, v4, v5, v6, v7, v8, v9⟩ := mcells X1
 dsimp only [cM] at RC
 unfold cM at hW1 ⊢
 clear h hr hrx hm hel hdl hod hg hc hres f0 t0
 go_enter Try.func25, Try.ntmps25
 go_wp2_with fail
 try rw [hW0]
 try rw [hW1]
 clear hW0 hW1
 (with_reducible refine RC.out.mono ?_)
 rintro e w2 ⟨rfl, f2⟩
 have F2 := Lib.hid (FW.trans f2)
 have u0' := f2.cell (fun _ _ => trivial) u0
 have T2 : Hid (w2.heap[w.heap.size]? = some (.cells #[.pointer (some ⟨rb, 0, none⟩)] 56 (0, 0))) := f2.keep _ _ T1 trivial
 have M2 : Hid (w2.heap[W0.heap.size]? = some (.cells (cM m) 74 (0, 0))) := f2.keep _ _ X1 trivial
 clear f2 RC v0 v1 v2 v3 v4 v5 v6 v7 v8 v9 u0
 by_cases hc0 : c = 0
 case neg =>
  have c1 : (c != 0) = true := by simpa using hc0
  have OUT : Hid (res = ((n, []), c)) := EQ.trans (if_pos hc0)
  clear EQ
  go_wp2
  go_ret2
  rw [OUT.out]
  exact ⟨X, P, q, _, [], rfl, H.tt F2, .tt F2 H.px, OwnMs.nil _ _ _, rfl⟩
 case pos =>
  subst hc0
  have OK := Nd.right_ok HC
  have K : 1 ≤ m.kind ∧ m.kind ≤ 6 := ⟨(chkM_ok OK.1).1, OK.2.2.2.1⟩
  have GN := HG HC
  have BD := Bn.does GN
  have OUT : Hid (res = (n.led (n.does m.ms), 0)) := EQ.out.trans ((if_neg (fun e => e rfl)).trans (by rw [Nd.does_hear K]))
  have LC := Lib.hid (led_calls (H.tt F2) (HR.fr F2 fun _ => trivial) HX 53 #[.pointer (some ⟨W0.heap.size, 0, none⟩), .pointer (some ⟨w.heap.size, 0, none⟩)] (enters_of Try.func53 (by kernel_rfl) rfl) (n.does m.ms)
   (fun W f => step_fn ((H.tt F2).tt f) m ((HM.tt F2).tt f) _ _ ((HR.fr F2 fun _ => trivial).fr f fun _ => trivial) (f.keep _ _ M2 trivial) (f.keep _ _ T2 trivial) K GN) (fun c hc => Nat.lt_of_lt_of_le (OD c hc) F2.size) BD.2.2.1
   (by rw [BD.2.2.2]; exact ⟨GN.cf.1, by have := GN.cf.2; omega⟩) (fun y hy => by have := BD.1.nx y hy; omega) (by have := BD.1.last; omega) (by have := BD.2.1; omega))
  clear EQ OK K GN BD
  go_wp2_with fail
  (with_reducible refine LC.out.mono ?_)
  rintro e w3 ⟨X3, P3, q3, v, mvs, rfl, h3, a3, o3, e3⟩
  have HH := Lib.hid (And.intro h3 (And.intro a3 (And.intro o3 e3)))
  clear h3 a3 o3 e3 LC
  go_wp2
  go_ret2
  rw [OUT.out]
  exact ⟨X3, P3, q3, _, mvs, rfl, HH.1, .lead F2 HH.2.1, HH.2.2.1.lo F2.size, HH.2.2.2⟩
set_option maxRecDepth 100000 in
set_option maxHeartbeats 8000000 in
theorem timeout_fn [Old] (h : PNs X P w b n q) (gr : Nat) (hr : RB w rb b ap) (hgr : w.heap[gr]? = some (.cells #[.pointer (some ⟨rb, 0, none⟩)] 56 (0, 0))) (hcf : 0 < n.conf.length ∧ n.conf.length ≤ 1000) (mN : Nat) (hme : n.me = (mN : Nat)) (hm16 : mN < 16) (htm : n.tm + 1 < 18446744073709551616) (hl : n.log.last + 1 < 18446744073709551616) (hle : n.log.es.length ≤ 900000) :
  Calls Try.prog 33 #[.pointer (some ⟨gr, 0, none⟩)] w fun e w' => NOut X P w b n.askF e w' := by
 have AC := Lib.hid (askF_calls h hcf mN hme hm16 htm hl hle)
 have y0 : w.cell? ⟨gr, 0, none⟩ = some (.pointer (some ⟨rb, 0, none⟩)) := cell_mk hgr rfl
 have y1 : w.cell? ⟨rb, 0, none⟩ = some (.pointer (some ⟨b, 0, none⟩)) := cell_mk hr rfl
 clear h hr hgr hcf hme hm16 htm hl hle
 go_enter Try.func33, Try.ntmps33
 go_wp2_with fail
 (with_reducible refine AC.out.mono ?_)
 rintro e w2 ⟨X2, P2, q2, v, mvs, rfl, h2, a2, o2, e2⟩
 have HH := Lib.hid (And.intro h2 (And.intro a2 (And.intro o2 e2)))
 clear h2 a2 o2 e2 AC
 go_wp2
 go_ret
 exact ⟨X2, P2, q2, _, mvs, rfl, HH.1, HH.2.1, HH.2.2.1, HH.2.2.2⟩
set_option maxRecDepth 100000 in
set_option maxHeartbeats 8000000 in
theorem rtimeout_calls [Old] (h : PNs X P w b n q) (hr : RB w rb b ap) (hrx : ¬ P rb) (hod : ∀ c, Old.o c → c < w.heap.size) (hcf : 0 < n.conf.length ∧ n.conf.length ≤ 12) (mN : Nat) (hme : n.me = (mN : Nat)) (hm16 : mN < 16) (hb : Bn 4611686018427387904 n) (hle : n.log.es.length ≤ 100000) :
  Calls Try.prog 14 #[.pointer (some ⟨rb, 0, none⟩)] w fun e w' => NOut X P w b n.timeout e w' := by
 obtain ⟨W1, hW1⟩ : ∃ Y, w.alloc (.cells #[.pointer (some ⟨rb, 0, none⟩)] 56 (0, 0)) = Y := ⟨_, rfl⟩
 have F1 : Hid (FT w W1) := hW1 ▸ (Fr.refl _ _).alloc _
 have T1 : Hid (W1.heap[w.heap.size]? = some (.cells #[.pointer (some ⟨rb, 0, none⟩)] 56 (0, 0))) := by show _ = _; rw [← hW1]; exact heap_alloc_new _ _
 have H1 := Lib.hid (h.tt F1)
 have R1 := Lib.hid (hr.fr F1 fun _ => trivial)
 have b1 := hb.tm
 have b2 := hb.last
 have A1 := Nd.askF_b hb
 have A2 := Nd.askF_log n
 have A3 := Nd.askF_len n
 have A4 := (Nd.askF_up n).conf
 have LC := Lib.hid (led_calls H1 R1 hrx 33 #[.pointer (some ⟨w.heap.size, 0, none⟩)] (enters_of Try.func33 (by kernel_rfl) rfl) n.askF
  (fun W f => timeout_fn (H1.out.tt f) _ (R1.out.fr f fun _ => trivial) (f.keep _ _ T1.out trivial) ⟨hcf.1, by omega⟩ mN hme hm16 (by omega) (by omega) (by omega)) (fun c hc => Nat.lt_of_lt_of_le (hod c hc) F1.out.size) (by omega)
  (by rw [A4]; exact ⟨hcf.1, by omega⟩) (fun y hy => by have := A1.1.nx y hy; omega) (by have := A1.1.last; omega) (by omega))
 obtain ⟨ro, hro⟩ : ∃ x, n.role = x := ⟨_, rfl⟩
 obtain ⟨hd, hhd⟩ : ∃ x, n.heard = x := ⟨_, rfl⟩
 obtain ⟨r, hrr⟩ : ∃ x, n.timeout = x := ⟨_, rfl⟩
 have EQ : Hid (r = if ro = 3 then (n, []) else if hd = true then ({ n with heard := false }, []) else n.led n.askF) := by
  show r = _
  rw [← hrr, ← hro, ← hhd]; rfl
 rw [hrr]
 have y0 := cell_mk (i := 0) T1 rfl
 have y1 : W1.cell? ⟨rb, 0, none⟩ = some (.pointer (some ⟨b, 0, none⟩)) := cell_mk R1 rfl
 obtain ⟨-, -, x2, -, -, -, -, -, -, -, -, x11, -, -⟩ := H1.cells (Fr.refl _ W1)
 rw [hro] at x2
 rw [hhd] at x11
 clear h hr hrx hod hcf hme hm16 hb hle b1 b2 A1 A2 A3 A4 hro hhd hrr
 by_cases h3 : ro = 3
 ·subst h3
  have OUT : Hid (r = (n, [])) := EQ.trans (if_pos rfl)
  clear EQ LC x11
  go_enter Try.func14, Try.ntmps14
  go_wp2
  try rw [hW1]
  go_ret
  rw [OUT.out]
  exact ⟨X, P, q, _, [], rfl, H1, .tt F1 H1.px, OwnMs.nil _ _ _, rfl⟩
 ·have g3 : (ro == 3) = false := by simpa using h3
  replace EQ : Hid (r = if hd = true then ({ n with heard := false }, []) else n.led n.askF) := EQ.trans (if_neg h3)
  clear h3
  cases hd with
  | true =>
   have OUT : Hid (r = ({ n with heard := false }, [])) := EQ.trans (if_pos rfl)
   have z11 := H1.free (Fr.refl _ W1) 11
   obtain ⟨W2, hW2⟩ : ∃ Y, W1.setCell ⟨b, 11, none⟩ (.bool false) = Y := ⟨_, rfl⟩
   have hs : sets W1 b [(11, .bool false)] = W2 := hW2
   have f2 : Fr (fun c _ => c ≠ b) W1 W2 := hs ▸ sets_fr b _ W1
   have H2 : Hid (PNs X P W2 b { n with heard := false } q) := H1.out.re f2 (hs ▸ sets_heap _ H1.out.top) ⟨rfl, rfl⟩ (.inl ⟨rfl, rfl⟩) ⟨rfl, rfl, rfl⟩ ⟨rfl, rfl, rfl, rfl⟩
   have A2 := Lib.hid (Aft.lead F1 (H1.own f2))
   clear EQ LC f2 hs
   go_enter Try.func14, Try.ntmps14
   go_wp2
   try rw [hW1]
   try rw [hW2]
   go_ret
   rw [OUT.out]
   exact ⟨X, P, q, _, [], rfl, H2, A2, OwnMs.nil _ _ _, rfl⟩
  | false =>
   have OUT : Hid (r = n.led n.askF) := EQ.trans (if_neg (by decide))
   clear EQ
   go_enter Try.func14, Try.ntmps14
   go_wp2_with fail
   try rw [hW1]
   (with_reducible refine LC.out.mono ?_)
   rintro e w3 ⟨X3, P3, q3, v, mvs, rfl, h3, a3, o3, e3⟩
   have HH := Lib.hid (And.intro h3 (And.intro a3 (And.intro o3 e3)))
   clear h3 a3 o3 e3 LC
   go_wp2
   go_ret
   rw [OUT.out]
   exact ⟨X3, P3, q3, _, mvs, rfl, HH.1, .lead F1 HH.2.1, HH.2.2.1.lo F1.size, HH.2.2.2⟩
end
end Go.Proofs.Ytmjccpfchhnfhaa
/- Law 12: a group in memory. -/
namespace Go.Proofs.Ytmjccpfchhnfhaa
open Go.RowKit
set_option linter.unusedVariables false
set_option linter.unusedSimpArgs false
structure Nx where
 b : Nat
 n : Nd
 P : Nat → Prop
abbrev ptrB (x : Nx) : Value := .pointer (some ⟨x.b, 0, none⟩)
structure GV where
 vn : Value
 vm : Value
 vs : Value
 vt : Value
 vl : Value
 ns : Nat
 nt : Nat
 nl : Nat
 sz : Nat := 0
def W6g (c : GV) (many : Int) : Array Value := #[c.vn, c.vm, c.vs, c.vt, c.vl, .int .i64 many]
structure Grp [Old] (X : Nat → Prop) (w : World) (G : Nat) (l : List Nx) (ms : List MV) (many : Int) (c : GV) : Prop where
 top : w.heap[G]? = some (.cells (W6g c many) 32 (0, 0))
 gx : ¬ X G
 rn : w.ownsRow 0 40 1 c.vn l.length (l.map ptrB)
 xn : ∀ k, c.vn.ownBlock = some k → ¬ X k
 rm : OwnMs X 0 w c.vm ms
 rs : ∃ xs, w.ownsRow 0 82 4 c.vs c.ns xs
 xs : ∀ k, c.vs.ownBlock = some k → ¬ X k
 rt : ∃ xs, w.ownsRow 0 34 1 c.vt c.nt xs
 xt : ∀ k, c.vt.ownBlock = some k → ¬ X k
 rl : ∃ xs, w.ownsRow 0 37 3 c.vl c.nl xs
 xl : ∀ k, c.vl.ownBlock = some k → ¬ X k
 nd : ∀ x ∈ l, PN X x.P w x.b x.n
 dj : l.Pairwise fun x y => ∀ k, x.P k → ¬ y.P k
 hx : ∀ k, X k → k < w.heap.size
 sz : c.sz ≤ w.heap.size
section
variable {X X' P' : Nat → Prop} {w w' : World} {G : Nat} {l : List Nx} {ms : List MV} {many : Int} {c : GV}
theorem Grp.tt [Old] [NoOld] (h : Grp X w G l ms many c) (f : FT w w') : Grp X w' G l ms many c := by
 obtain ⟨xs, h1⟩ := h.rs
 obtain ⟨xt, h2⟩ := h.rt
 obtain ⟨xl, h3⟩ := h.rl
 exact ⟨f.keep _ _ h.top trivial, h.gx, ownsRow_fr h.rn f fun _ _ _ _ => trivial, h.xn, h.rm.tt f, ⟨xs, ownsRow_fr h1 f fun _ _ _ _ => trivial⟩, h.xs, ⟨xt, ownsRow_fr h2 f fun _ _ _ _ => trivial⟩, h.xt, ⟨xl, ownsRow_fr h3 f fun _ _ _ _ => trivial⟩, h.xl, fun x hx => (h.nd x hx).tt f, h.dj, fun k hk => Nat.lt_of_lt_of_le (h.hx k hk) f.size, Nat.le_trans h.sz f.size⟩
theorem PN.far [Old] [NoOld] {X P X' P' P2 : Nat → Prop} {b : Nat} {n : Nd} (h : PN X P w b n) (k : Aft X P2 X' P' w w') (hd : ∀ c, P c → ¬ P2 c) (hx : ∀ c, X' c → c < w'.heap.size) : PN X' P w' b n := by
 obtain ⟨q, h⟩ := h
 exact ⟨q, h.far k hd hx⟩
theorem pw_set {α : Type} {R : α → α → Prop} : ∀ (l : List α) (i : Nat) (y : α), l.Pairwise R → (∀ j, (hj : j < l.length) → j < i → R l[j] y) → (∀ j, (hj : j < l.length) → i < j → R y l[j]) → (l.set i y).Pairwise R
 | [], _, _, h, _, _ => h
 | x :: l, 0, y, h, _, h2 => by
  rw [List.set_cons_zero]
  have h' := List.pairwise_cons.1 h
  refine List.pairwise_cons.2 ⟨fun z hz => ?_, h'.2⟩
  obtain ⟨j, hj, e⟩ := List.mem_iff_getElem.1 hz
  have := h2 (j + 1) (by simpa using hj) (by omega)
  simpa [e] using this
 | x :: l, i + 1, y, h, h1, h2 => by
  rw [List.set_cons_succ]
  have h' := List.pairwise_cons.1 h
  refine List.pairwise_cons.2 ⟨fun z hz => ?_, pw_set l i y h'.2 (fun j hj hji => ?_) (fun j hj hji => ?_)⟩
  ·rcases List.mem_or_eq_of_mem_set hz with hz | hz
   ·exact h'.1 z hz
   ·rw [hz]; exact h1 0 (by simp) (by omega)
  ·have := h1 (j + 1) (by simpa using hj) (by omega)
   simpa using this
  ·have := h2 (j + 1) (by simpa using hj) (by omega)
   simpa using this
theorem Grp.turn [Old] [NoOld] (h : Grp X w G l ms many c) (i : Nat) (hi : i < l.length) {n' : Nd} (hp : PN X' P' w' l[i].b n') (ha : Aft X l[i].P X' P' w w') : Grp X' w' G (l.set i ⟨l[i].b, n', P'⟩) ms many c := by
 obtain ⟨q, hq⟩ := hp
 have hx' := hq.hx
 have px : ∀ k, l[i].P k → X k := ha.hp
 have off : ∀ {k o}, w.heap[k]? = some o → ¬ X k → ¬ l[i].P k ∧ ¬ X' k := fun ho hk => ha.off ho hk
 have row : ∀ {e : TypeId} {s : Nat} {v : Value} {n : Nat} {xs : List Value}, w.ownsRow 0 e s v n xs → (∀ k, v.ownBlock = some k → ¬ X k) → w'.ownsRow 0 e s v n xs ∧ ∀ k, v.ownBlock = some k → ¬ X' k := fun hr hk => ⟨ownsRow_fr hr ha.fr fun k o e ho => (off ho (hk k e)).1, fun k e => by
  obtain ⟨cur, ho⟩ := own_tag hr e
  exact (off ho (hk k e)).2⟩
 obtain ⟨xs, h1⟩ := h.rs
 obtain ⟨xt, h2⟩ := h.rt
 obtain ⟨xl, h3⟩ := h.rl
 have e1 : (l.set i ⟨l[i].b, n', P'⟩).map ptrB = l.map ptrB := by
  rw [List.map_set]
  apply List.ext_getElem?
  intro j
  rw [List.getElem?_set]
  split
  ·rename_i e
   subst e
   simp [hi]
  ·rfl
 refine ⟨ha.fr.keep _ _ h.top (off h.top h.gx).1, (off h.top h.gx).2, ?_, (row h.rn h.xn).2, h.rm.aft ha, ⟨xs, (row h1 h.xs).1⟩, (row h1 h.xs).2, ⟨xt, (row h2 h.xt).1⟩, (row h2 h.xt).2, ⟨xl, (row h3 h.xl).1⟩, (row h3 h.xl).2, fun x hx => ?_, ?_, hx', Nat.le_trans h.sz ha.fr.size⟩
 ·rw [List.length_set, e1]; exact (row h.rn h.xn).1
 ·obtain ⟨j, hj, e⟩ := List.mem_iff_getElem.1 hx
  rw [List.length_set] at hj
  rw [List.getElem_set] at e
  by_cases hij : i = j
  ·rw [if_pos hij] at e
   subst e
   exact ⟨q, hq⟩
  ·rw [if_neg hij] at e
   subst e
   refine (h.nd _ (List.getElem_mem hj)).far ha (fun k hk hk2 => ?_) hx'
   have hdj := List.pairwise_iff_getElem.1 h.dj
   rcases Nat.lt_or_ge i j with hlt | hge
   ·exact hdj i j hi hj hlt k hk2 hk
   ·exact hdj j i hj hi (by omega) k hk hk2
 ·have hdj := List.pairwise_iff_getElem.1 h.dj
  have old : ∀ j, (hj : j < l.length) → ∀ k, l[j].P k → k < w.heap.size := fun j hj k hk => by
   obtain ⟨q2, hq2⟩ := h.nd _ (List.getElem_mem hj)
   exact hq2.hx k (hq2.px k hk)
  refine pw_set l i _ h.dj (fun j hj hji k hk hk2 => ?_) (fun j hj hji k hk hk2 => ?_)
  ·rcases ha.nw k hk2 with q | q
   ·exact hdj j i hj hi hji k hk q
   ·have := old j hj k hk; omega
  ·rcases ha.nw k hk with q | q
   ·exact hdj i j hi hj hji k q hk2
   ·have := old j hj k hk2; omega
theorem Grp.msgs [Old] [NoOld] (h : Grp X w G l ms many c) {ms' : List MV} {vm' : Value} (hf : Fr (fun k _ => k ≠ G ∧ c.vm.ownBlock ≠ some k) w w') (ht : w'.heap[G]? = some (.cells (W6g { c with vm := vm' } many) 32 (0, 0))) (hr : OwnMs X 0 w' vm' ms') : Grp X w' G l ms' many { c with vm := vm' } := by
 have tg : ∀ {e : TypeId} {s : Nat} {v : Value} {n : Nat} {xs : List Value}, w.ownsRow 0 e s v n xs → e ≠ 32 → e ≠ 74 → w'.ownsRow 0 e s v n xs := fun hr h1 h2 => ownsRow_fr hr hf fun k o e ho => ⟨fun hk => by
  obtain ⟨cur, ho'⟩ := own_tag hr e
  rw [hk, h.top] at ho'
  cases ho'
  exact h1 rfl, fun hk => by
  obtain ⟨cur, ho'⟩ := own_tag hr e
  obtain ⟨cur2, ho2⟩ := own_tag h.rm.row hk
  rw [ho'] at ho2
  cases ho2
  exact h2 rfl⟩
 obtain ⟨xs, h1⟩ := h.rs
 obtain ⟨xt, h2⟩ := h.rt
 obtain ⟨xl, h3⟩ := h.rl
 refine ⟨ht, h.gx, tg h.rn (by decide) (by decide), h.xn, hr, ⟨xs, tg h1 (by decide) (by decide)⟩, h.xs, ⟨xt, tg h2 (by decide) (by decide)⟩, h.xt, ⟨xl, tg h3 (by decide) (by decide)⟩, h.xl, fun x hx => ?_, h.dj, fun k hk => Nat.lt_of_lt_of_le (h.hx k hk) hf.size, Nat.le_trans h.sz hf.size⟩
 obtain ⟨q, hq⟩ := h.nd x hx
 refine ⟨q, hq.frK hf fun k o ho hk => ⟨fun e => ?_, fun e => ?_⟩⟩
 ·rcases hk with hk | hk
  ·exact h.gx (e ▸ hq.px k hk)
  ·rw [e, h.top] at ho
   cases ho
   exact hk.ne0 rfl (by decide)
 ·obtain ⟨cur, ho2⟩ := own_tag h.rm.row e
  rcases hk with hk | hk
  ·exact h.rm.off k e (hq.px k hk)
  ·rw [ho] at ho2
   cases ho2
   exact hk.ne0 rfl (by decide)
end
end Go.Proofs.Ytmjccpfchhnfhaa
/- Law 12: appends to a group's rows; a new group. -/
namespace Go.Proofs.Ytmjccpfchhnfhaa
open Go.RowKit
set_option linter.unusedVariables false
set_option linter.unusedSimpArgs false
theorem step_append_raw {o : Oper} {a : Act} {K : Act → World → Prop} {Q : Exit → Act → World → Prop} (W : World) (s x : Operand) (t e : TypeId)
  (ho : o.op = .call { callee := .builtin .append, args := #[s, x], argTypes := #[t, t] }) (i : TypeInfo) (z : Value) (size bytes : Nat) (ht : Try.prog.underlying t = some (.slice e)) (hi : Try.prog.info? e = some i) (hz : i.zero = some z)
  (hsize : i.size = size) (hby : i.bytes = bytes) (hzs : z.cells.size = size) (hsz : 0 < size) (hb9 : bytes ≤ 128)
  (v : Value) (n : Nat) (xs : List Value) (hs : a.eval s = v) (hown : Hid (W.ownsRow 0 e size v n xs)) (gx : Nat) (news : List Value) (hx : a.eval x = .slice (some ⟨gx, 0, none⟩) 1 1)
  (hb : Hid (W.heap[gx]? = some (.cells news.toArray e (0, 0)))) (hnl : news.length = size) (h1 : ∀ u ∈ news, u.oneCell' = true) (N : Nat) (hN : Hid (n + 1 = N)) (hn : N ≤ 1000000)
  (h : ∀ g c w', Hid (w'.ownsRow 0 e size (.slice g N c) N (xs ++ news)) → Hid (Fr (fun b _ => v.ownBlock ≠ some b) W w') → Hid (OwnNext W v (.slice g N c)) → K (a.put o.dst (.slice g N c)) w') : o.wp Try.prog a W K Q := by
 have hN' := hN
 subst hN'
 refine wp_append_own2 W s x t ho 0 e i z size bytes ht hi hz hsize hby hzs hsz v n xs hs hown.out ⟨gx, 0, none⟩ 1 1 news hx (by rw [hnl, Nat.one_mul]) (fun j u hj => ?_) h1 (by unfold maxLen; omega) ?_ (Nat.zero_le _) fun v' w' h2 h3 h4 => ?_
 ·have e1 : ((⟨gx, 0, none⟩ : Addr).add j) = ⟨gx, j, none⟩ := by
   unfold Addr.add
   split
   ·subst j; rfl
   ·simp
  rw [e1]
  exact cell_mk hb.out (by simpa using hj)
 ·have := Nat.mul_le_mul hn hb9
  omega
 ·obtain ⟨g, c, rfl⟩ := ownsRow_form h2
  exact h g c w' h2 (.of_grown h3 fun k o e _ hk => hk e) h4
section
variable {ops : Array Oper} {rest : List Oper} {o : Oper} {a : Act} {Q : Exit → Act → World → Prop}
end
section
variable {X X3 P3 : Nat → Prop} {w w3 w' : World} {G : Nat} {l : List Nx} {ms : List MV} {many : Int} {c : GV} {b : Nat} {n : Nd}
theorem Grp.more [Old] [NoOld] (h : Grp X w G l ms many c) (ha : Aft X (fun _ => False) X3 P3 w w3) (hx3 : ∀ k, X3 k → k < w3.heap.size) : Grp X3 w3 G l ms many c := by
 have f : FT w w3 := ha.fr.mono fun _ _ _ h => h
 have h1 := h.tt f
 have off : ∀ {k o}, w.heap[k]? = some o → ¬ X k → ¬ X3 k := fun ho hk => (ha.off ho hk).2
 have row : ∀ {e : TypeId} {s : Nat} {v : Value} {n : Nat} {xs : List Value}, w.ownsRow 0 e s v n xs → (∀ k, v.ownBlock = some k → ¬ X k) → ∀ k, v.ownBlock = some k → ¬ X3 k := fun hr hk k e => by
  obtain ⟨cur, ho⟩ := own_tag hr e
  exact off ho (hk k e)
 obtain ⟨xs, r1⟩ := h.rs
 obtain ⟨xt, r2⟩ := h.rt
 obtain ⟨xl, r3⟩ := h.rl
 exact ⟨h1.top, off h.top h.gx, h1.rn, row h.rn h.xn, h.rm.aft ha, h1.rs, row r1 h.xs, h1.rt, row r2 h.xt, h1.rl, row r3 h.xl, fun x hx => (h.nd x hx).far ha (fun _ _ h => h) hx3, h.dj, hx3, Nat.le_trans h.sz f.size⟩
theorem Grp.add [Old] [NoOld] (h : Grp X w G l ms many c) (ha : Aft X (fun _ => False) X3 P3 w w3) (hp : PN X3 P3 w3 b n) {vn' : Value} (hf : Fr (fun k _ => k ≠ G ∧ c.vn.ownBlock ≠ some k) w3 w') (ht : w'.heap[G]? = some (.cells (W6g { c with vn := vn' } many) 32 (0, 0)))
  (hr : w'.ownsRow 0 40 1 vn' (l.length + 1) (l.map ptrB ++ [.pointer (some ⟨b, 0, none⟩)])) (hn : OwnNext w3 c.vn vn') : Grp X3 w' G (l ++ [⟨b, n, P3⟩]) ms many { c with vn := vn' } := by
 obtain ⟨q0, hq0⟩ := hp
 have h3 := h.more ha hq0.hx
 have tg : ∀ {e : TypeId} {s : Nat} {v : Value} {n : Nat} {xs : List Value}, w3.ownsRow 0 e s v n xs → e ≠ 32 → e ≠ 40 → w'.ownsRow 0 e s v n xs := fun hr h1 h2 => ownsRow_fr hr hf fun k o e ho => ⟨fun hk => by
  obtain ⟨cur, ho'⟩ := own_tag hr e
  rw [hk, h3.top] at ho'
  cases ho'
  exact h1 rfl, fun hk => by
  obtain ⟨cur, ho'⟩ := own_tag hr e
  obtain ⟨cur2, ho2⟩ := own_tag h3.rn hk
  rw [ho'] at ho2
  cases ho2
  exact h2 rfl⟩
 have kn : ∀ {P : Nat → Prop} {b : Nat} {n : Nd} {q : NV}, PNs X3 P w3 b n q → PNs X3 P w' b n q := fun hq => hq.frK hf fun k o ho hk => ⟨fun e => by
  rcases hk with hk | hk
  ·exact h3.gx (e ▸ hq.px k hk)
  ·rw [e, h3.top] at ho
   cases ho
   exact hk.ne0 rfl (by decide), fun e => by
  obtain ⟨cur, ho2⟩ := own_tag h3.rn e
  rcases hk with hk | hk
  ·exact h3.xn k e (hq.px k hk)
  ·rw [ho] at ho2
   cases ho2
   exact hk.ne0 rfl (by decide)⟩
 have hmm : OwnMs X3 0 w' c.vm ms := by
  refine ⟨tg h3.rm.row (by decide) (by decide), h3.rm.off, fun m hm' => (h3.rm.at' m hm').keep hf fun k o ho hr => ⟨fun e => ?_, fun e => ?_⟩⟩
  ·rw [e, h3.top] at ho
   cases ho
   exact hr.ne0 rfl (by decide)
  ·obtain ⟨cur, ho2⟩ := own_tag h3.rn e
   rw [ho] at ho2
   cases ho2
   exact hr.ne0 rfl (by decide)
 obtain ⟨xs, r1⟩ := h3.rs
 obtain ⟨xt, r2⟩ := h3.rt
 obtain ⟨xl, r3⟩ := h3.rl
 refine ⟨ht, h3.gx, by rw [List.length_append, List.map_append]; exact hr, fun k e hx => ?_, hmm, ⟨xs, tg r1 (by decide) (by decide)⟩, h3.xs, ⟨xt, tg r2 (by decide) (by decide)⟩, h3.xt, ⟨xl, tg r3 (by decide) (by decide)⟩, h3.xl, fun x hx => ?_, ?_, fun k hk => Nat.lt_of_lt_of_le (h3.hx k hk) hf.size, Nat.le_trans h3.sz hf.size⟩
 ·rcases hn with q | ⟨j, q, hj⟩
  ·have e' : vn'.ownBlock = some k := e
   rw [q] at e'
   exact h3.xn k e' hx
  ·have e' : vn'.ownBlock = some k := e
   rw [q] at e'
   cases e'
   have := h3.hx k hx
   omega
 ·rcases List.mem_append.1 hx with hx | hx
  ·obtain ⟨q, hq⟩ := h3.nd x hx
   exact ⟨q, kn hq⟩
  ·rw [List.mem_singleton.1 hx]
   exact ⟨q0, kn hq0⟩
 ·refine List.pairwise_append.2 ⟨h3.dj, List.pairwise_singleton _ _, fun x hx y hy k hk hk2 => ?_⟩
  rw [List.mem_singleton.1 hy] at hk2
  obtain ⟨q, hq⟩ := h.nd x hx
  have hlt := hq.hx k (hq.px k hk)
  rcases ha.nw k hk2 with q | q
  ·exact q
  ·omega
end
def cfN (many : Nat) : List Int := (List.range many).map fun (i : Nat) => (i : Int)
theorem cfN_len (many : Nat) : (cfN many).length = many := by unfold cfN; simp
theorem cfN_succ (k : Nat) : cfN (k + 1) = cfN k ++ [(k : Int)] := by unfold cfN; rw [List.range_succ, List.map_append]; rfl
structure Low (K : Nat → Prop) (X : Nat → Prop) (G : Nat) (c : GV) : Prop where
 g : ¬ K G
 x : ∀ k, X k → ¬ K k
 n : ∀ k, c.vn.ownBlock = some k → ¬ K k
 m : ∀ k, c.vm.ownBlock = some k → ¬ K k
 s : ∀ k, c.vs.ownBlock = some k → ¬ K k
 t : ∀ k, c.vt.ownBlock = some k → ¬ K k
 l : ∀ k, c.vl.ownBlock = some k → ¬ K k
 b : ∀ q, K q → q < c.sz
theorem Low.more [Old] [NoOld] {K : Nat → Prop} {X : Nat → Prop} {w : World} {G : Nat} {l : List Nx} {ms : List MV} {many : Int} {c : GV} (h : Low K X G c) (hg : Grp X w G l ms many c) (s : Nat) (hs : w.heap.size ≤ s) : Low (fun q => K q ∨ (w.heap.size ≤ q ∧ q < s)) X G { c with sz := s } := by
 have out : ∀ k, ¬ K k → k < w.heap.size → ¬ (K k ∨ (w.heap.size ≤ k ∧ k < s)) := fun k h1 h2 q => q.elim h1 fun q => by omega
 have own : ∀ {e : TypeId} {sz : Nat} {v : Value} {n : Nat} {xs : List Value}, w.ownsRow 0 e sz v n xs → ∀ k, v.ownBlock = some k → k < w.heap.size := fun hr k e => by
  obtain ⟨cur, hc⟩ := own_tag hr e
  exact lt_of_some hc
 obtain ⟨_, r1⟩ := hg.rs
 obtain ⟨_, r2⟩ := hg.rt
 obtain ⟨_, r3⟩ := hg.rl
 exact ⟨out _ h.g (lt_of_some hg.top), fun k e => out k (h.x k e) (hg.hx k e), fun k e => out k (h.n k e) (own hg.rn k e), fun k e => out k (h.m k e) (own hg.rm.row k e), fun k e => out k (h.s k e) (own r1 k e), fun k e => out k (h.t k e) (own r2 k e), fun k e => out k (h.l k e) (own r3 k e), fun q e => e.elim (fun e => Nat.lt_of_lt_of_le (h.b q e) (Nat.le_trans hg.sz hs)) fun e => e.2⟩
end Go.Proofs.Ytmjccpfchhnfhaa
