/- Texts of the proofs, part 29: what the functions that they reach do, walked; no conditions beyond those that each states. -/
import Derived.Test.YtlolfcnfcgegdaaGreatZz71a9a8b371
set_option linter.unusedVariables false
set_option linter.unusedSimpArgs false
/- The service: Unpack. -/
namespace Go.Proofs.YtlolfcnfcgegdaaGreat
open Go.RowKit
set_option linter.unusedVariables false
set_option linter.unusedSimpArgs false

theorem TabN.to {k n : Nat} {w : World} {bt : Nat} {M : MT} (h : TabN k w n bt M) : ∃ Q, TO n Q w bt M ∧ ∀ c, Q c → k ≤ c := by
  obtain ⟨mv, c, R, ht, e, h1, h2, h3⟩ := h
  refine ⟨fun c => c = bt ∨ mv = some c ∨ ∃ r ∈ R, r.blk = c, ⟨⟨mv, c, R, ht, e, .inl rfl, fun b e => .inr (.inl e), fun r hr => .inr (.inr ⟨r, hr, rfl⟩)⟩, fun c hc => (ht.kind hc).1, fun c hc => (ht.kind hc).2⟩, fun c hc => ?_⟩
  rcases hc with rfl | hc | ⟨r, hr, rfl⟩
  · exact h1
  · exact h2 c hc
  · exact h3 r hr
/-- The state of bytes, and what is wrong with them. -/
def svU (b : List UInt8) : Int × MT × Lk :=
  if endL (bytR (bytR b false).2.1 (bytR b false).2.2).2.1 (bytR (bytR b false).2.1 (bytR b false).2.2).2.2 ≠ 0 then (endL (bytR (bytR b false).2.1 (bytR b false).2.2).2.1 (bytR (bytR b false).2.1 (bytR b false).2.2).2.2, [], Lk.new)
  else if (unpM (bytR b false).1).1 ≠ 0 then ((unpM (bytR b false).1).1, [], Lk.new)
  else ((lkU (bytR (bytR b false).2.1 (bytR b false).2.2).1).1, (unpM (bytR b false).1).2, (lkU (bytR (bytR b false).2.1 (bytR b false).2.2).1).2)
set_option maxRecDepth 100000 in
set_option maxHeartbeats 4000000 in
theorem svunpack_calls {K : Nat → Obj → Prop} {n : Nat} (w : World) (v : Value) (b : List UInt8) (hn : n ≤ w.heap.size) (hb : BytesAt K w v b) (hm : b.length ≤ 100000) (code : Int) (M : MT) (L : Lk) (hr : svU b = (code, M, L)) :
    Calls Tryz.prog 21 #[v] w fun e w' => ((code ≠ 0 ∧ e = .returned (.tuple #[.pointer none, .int .i64 code])) ∨ (code = 0 ∧ ∃ P Q bs b1 b2, e = .returned (.tuple #[.pointer (some ⟨bs, 0, none⟩), .int .i64 0]) ∧ SV n P Q w' bs b1 b2 M L ∧ ∀ c, U P Q c → w.heap.size ≤ c)) ∧ Fr (fun _ _ => True) w w' := by
  obtain ⟨av, cv, rfl⟩ := hb.form
  obtain ⟨W2, hW2⟩ : ∃ W, w.alloc (.cells #[.slice av b.length cv, .bool false] 146 (0, 0)) = W := ⟨_, rfl⟩
  have l0 : LR w W2 w.heap.size b false := hW2 ▸ LR.mk0 (Fr.refl _ _) hb
  have RC := Lib.hid (read_calls w av b.length cv)
  rw [hW2] at RC
  obtain ⟨one, r1, s1, e1⟩ : ∃ x r s, bytR b false = (x, r, s) := ⟨_, _, _, rfl⟩
  obtain ⟨two, r2, s2, e2⟩ : ∃ x r s, bytR r1 s1 = (x, r, s) := ⟨_, _, _, rfl⟩
  have g1 := bytR_len b false
  have g2 := bytR_len r1 s1
  rw [e1] at g1
  rw [e2] at g2
  dsimp only at g1 g2
  obtain ⟨E, hE⟩ : ∃ E, endL r2 s2 = E := ⟨_, rfl⟩
  obtain ⟨c1, M1, hu1⟩ : ∃ c M, unpM one = (c, M) := ⟨_, _, rfl⟩
  obtain ⟨c2, L2, hu2⟩ : ∃ c L, lkU two = (c, L) := ⟨_, _, rfl⟩
  have HRR : Hid ((code, M, L) = if E ≠ 0 then (E, [], Lk.new) else if c1 ≠ 0 then (c1, [], Lk.new) else (c2, M1, L2)) := by
    show _ = _
    rw [← hr]
    unfold svU
    rw [e1]
    dsimp only
    rw [e2]
    dsimp only
    rw [hE, hu1, hu2]
  have HN := Lib.hid hn
  have hok2 := @lkU_ok two
  rw [hu2] at hok2
  have HOK2 := Lib.hid hok2
  have hmc : one.length ≤ 100000 := by omega
  have hr1 : r1.length ≤ 100000 := by omega
  have hr2 : r2.length ≤ 100000 := by omega
  have htc : two.length ≤ 1000000 := by omega
  have C1 := Lib.hid (lr_bytes w W2 w.heap.size b false l0 (by omega) one r1 s1 e1)
  clear hm hb hW2 hr hn hok2 e1
  go_enter Tryz.func21, Tryz.ntmps21
  go_wp2_with fail
  (with_reducible refine RC.out.mono ?_)
  rintro e w1 ⟨rfl, rfl⟩
  go_wp2_with fail
  (with_reducible refine C1.out.mono ?_)
  rintro e w2 ⟨⟨a1, cp1, rfl, bb1⟩, l1, f1⟩
  have C2 := Lib.hid (lr_bytes w w2 w.heap.size r1 s1 l1 (by omega) two r2 s2 e2)
  have B1 := Lib.hid bb1
  clear l0 f1 bb1 C1 RC e2
  go_wp2_with fail
  (with_reducible refine C2.out.mono ?_)
  rintro e w3 ⟨⟨a2, cp2, rfl, bb2⟩, l2, f2⟩
  have B2 := Lib.hid bb2
  have B1' := Lib.hid ((B1.out.mono (K' := fun c _ => c ≠ w.heap.size) fun c o ho hc => by have := hc.1; have := l1.fr.size; obtain ⟨vv, hv⟩ := l1.at'; have := lt_of_some hv.top; obtain ⟨cs, fz, rfl⟩ := hc.2; rintro rfl; rw [hv.top] at ho; cases ho).fr f2)
  have EC := Lib.hid (lr_end w w3 w.heap.size r2 s2 l2 (by omega))
  rw [hE] at EC
  have F3 := Lib.hid l2.fr
  clear l1 l2 f2 bb2 C2 B1 hE g1 g2
  go_wp2_with fail
  (with_reducible refine EC.out.mono ?_)
  rintro e w4 ⟨rfl, rfl⟩
  clear EC
  by_cases hE0 : E = 0
  · have hE2 : (E != 0) = false := by simpa using hE0
    have HE0 := Lib.hid hE0
    clear hE0
    have C3 := Lib.hid (unpack_callsN n w3 (Nat.le_trans HN.out F3.out.size) _ one B1'.out hmc c1 M1 hu1)
    clear hu1
    go_wp2_with fail
    (with_reducible refine C3.out.mono ?_)
    rintro e w5 ⟨hx, f5⟩
    have F5 := Lib.hid (F3.out.trans f5)
    have B2' := Lib.hid (B2.out.tt f5)
    clear f5 C3 B2 B1'
    rcases hx with ⟨hc, rfl⟩ | ⟨hc, b1, rfl, htn⟩
    · have hc2 : (c1 != 0) = true := by simpa using hc
      have HR1 : Hid (code = c1) := by
        have := HRR.out
        rw [if_neg (fun x => x HE0.out), if_pos hc] at this
        exact (Prod.mk.inj this).1
      have HC := Lib.hid hc
      clear HRR hc
      go_wp2
      go_ret2
      rw [HR1.out]
      exact ⟨.inl ⟨HC.out, rfl⟩, F5.out⟩
    · obtain ⟨Q, hto, hq⟩ := htn.to
      have HTO := Lib.hid hto
      have HQ := Lib.hid hq
      have HR2 : Hid ((code, M, L) = (c2, M1, L2)) := by
        have := HRR.out
        rw [if_neg (fun x => x HE0.out), if_neg (fun x => x hc)] at this
        exact this
      clear HRR htn hto hq
      subst hc
      have C4 := Lib.hid (lkunpack_calls w5 _ two B2'.out htc)
      rw [hu2] at C4
      dsimp only at C4
      clear hu2 B2'
      go_wp2_with fail
      (with_reducible refine C4.out.mono ?_)
      rintro e w6 ⟨hx, f6⟩
      have F6 := Lib.hid (F5.out.trans f6)
      have F56 := Lib.hid f6
      clear f6 C4
      rcases hx with ⟨hc, rfl⟩ | ⟨hc, b2, hv, wv, rfl, hut⟩
      · have hc2 : (c2 != 0) = true := by simpa using hc
        have HR1 : Hid (code = c2) := (Prod.mk.inj HR2.out).1
        have HC := Lib.hid hc
        clear HR2 hc
        go_wp2
        go_ret2
        rw [HR1.out]
        exact ⟨.inl ⟨HC.out, rfl⟩, F6.out⟩
      · subst hc
        obtain ⟨hlt, hp⟩ := hut.lte (n := n) (Nat.le_trans HN.out F5.out.size) (HOK2.out rfl)
        obtain ⟨W7, hW7⟩ : ∃ W, w6.alloc (.cells #[.pointer (some ⟨b1, 0, none⟩), .pointer (some ⟨b2, 0, none⟩)] 68 (0, 0)) = W := ⟨_, rfl⟩
        have F7 : Fr (fun _ _ => True) w6 W7 := hW7 ▸ (Fr.refl _ _).alloc _
        have X7 : W7.heap[w6.heap.size]? = some (.cells #[.pointer (some ⟨b1, 0, none⟩), .pointer (some ⟨b2, 0, none⟩)] 68 (0, 0)) := hW7 ▸ heap_alloc_new w6 _
        have SVH := Lib.hid (⟨X7, (HTO.out.fr F56.out).fr F7, hlt.tt F7⟩ : SV n (PU b2 hv) Q W7 w6.heap.size b1 b2 M1 L2)
        have HUQ : Hid (∀ c, U (PU b2 hv) Q c → w.heap.size ≤ c) := Lib.hid fun c hc => by
          rcases hc with hc | hc
          · exact Nat.le_trans F5.out.size (hp c hc)
          · exact Nat.le_trans F3.out.size (HQ.out c hc)
        have FE := Lib.hid (F6.out.trans F7)
        obtain ⟨e1, e2, e3⟩ : code = 0 ∧ M = M1 ∧ L = L2 := by
          have := HR2.out
          simp only [Prod.mk.injEq] at this
          exact this
        have HC0 := Lib.hid e1
        subst e2 e3
        clear e1 hut hlt hp F7 X7 HR2 HQ HTO F56
        go_wp2
        go_ret2
        try rw [hW7]
        exact ⟨.inr ⟨HC0.out, _, _, _, _, _, rfl, SVH.out, HUQ.out⟩, FE.out⟩
  · have hE2 : (E != 0) = true := by simpa using hE0
    have HR1 : Hid (code = E) := by
      have := HRR.out
      rw [if_pos hE0] at this
      exact (Prod.mk.inj this).1
    have HC := Lib.hid hE0
    clear HRR hE0
    go_wp2
    go_ret2
    rw [HR1.out]
    exact ⟨.inl ⟨HC.out, rfl⟩, F3.out⟩
/-- What is packed is unpacked. -/
theorem sv_round {M : MT} {L : Lk} (hM : MS M) (hL : L.ok) (h2 : L.ok2) : svU (svB M L) = (0, sortM M, L) := by
  have hl1 : (packL (sortM M)).length ≤ 1000 := by
    have hr : ∀ x ∈ sortM M, (entB x).length ≤ 16 := fun x hx => by
      have := hM.mf.rep x ((sortM_mem hM.nd x).1 hx)
      unfold entB byt
      simp [le_length]
      omega
    have : ∀ l : MT, (∀ x ∈ l, (entB x).length ≤ 16) → ((l.map entB).flatten).length ≤ 16 * l.length := by
      intro l
      induction l with
      | nil => intro _; simp
      | cons x l ih =>
        intro h
        have h1 := h x (by simp)
        have h2 := ih fun y hy => h y (by simp [hy])
        simp only [List.map_cons, List.flatten_cons, List.length_append, List.length_cons]
        omega
    have h1 := this (sortM M) hr
    have h6 : (sortM M).length ≤ 6 := by rw [sortM_len]; exact hM.mf.few
    unfold packL
    rw [List.length_append, le_length]
    omega
  have hl2 : (lkB L).length ≤ 1000 := by have := lkK_len hL 4; show (lkK L 4).length ≤ _; omega
  have e1 : bytR (svB M L) false = (packL (sortM M), byt (lkB L), false) := bytR_byt hl1
  have e2 : bytR (byt (lkB L)) false = (lkB L, [], false) := by
    have := bytR_byt (r := []) hl2
    rwa [List.append_nil] at this
  unfold svU
  rw [e1]
  dsimp only
  rw [e2]
  dsimp only
  rw [hM.unp, lk_pack hL h2]
  rfl
end Go.Proofs.YtlolfcnfcgegdaaGreat
/- ServiceOnce (printed by once_law20.py). -/
namespace Go.Proofs.YtlolfcnfcgegdaaGreat
open Go.RowKit
set_option linter.unusedVariables false
set_option linter.unusedSimpArgs false

theorem neq_reply (w : World) (a b : Int) : (binOp .neq 36 (.agg #[.int .i64 a, .int .u64 b]) (.agg #[.int .i64 a, .int .u64 b])).run Tryz.prog w = .ok (.bool false) w := by
  have h := eql_reply w a b a b
  rw [run_eql_struct] at h
  rw [run_neq_struct]
  cases hr : (Op.equalIn 10000 36 (.agg #[.int .i64 a, .int .u64 b]) (.agg #[.int .i64 a, .int .u64 b])).run Tryz.prog w with
  | ok b' w' =>
    rw [hr] at h
    simp only [Result.andThen_ok, beq_self_eq_true, Bool.and_self, Result.ok.injEq, Value.bool.injEq] at h ⊢
    obtain ⟨rfl, rfl⟩ := h
    exact ⟨rfl, rfl⟩
  | halt x w' => rw [hr] at h; simp [Result.andThen] at h
theorem SV.flow {n : Nat} {P Q X : Nat → Prop} {w0 w w' : World} {bs b1 b2 : Nat} {M : MT} {L : Lk} (h : SV n P Q w bs b1 b2 M L) (k : Kp (U P Q) X w w') (f : Fr (fun c _ => c < n) w0 w) : Fr (fun c _ => c < n) w0 w' := h.old k f
end Go.Proofs.YtlolfcnfcgegdaaGreat
/- ServiceAgain (printed by again_law20.py). -/
namespace Go.Proofs.YtlolfcnfcgegdaaGreat
open Go.RowKit
set_option linter.unusedVariables false
set_option linter.unusedSimpArgs false

set_option maxRecDepth 100000 in
set_option maxHeartbeats 1000000 in
theorem again_short (a : Option Addr) (len cap : Nat) (at' : Int) (w : World) (h : 60 < len) :
    Calls Tryz.prog 5 #[.slice a len cap, .int .i64 at'] w fun e w' => e = .returned (.bool true) ∧ Below w.heap.size w w' := by
  have q1 : (60 : Int) < len := by omega
  clear h
  go_enter Tryz.func5, Tryz.ntmps5
  go_wp2_with fail
  (with_reducible refine (awake_calls w).mono ?_)
  rintro e w1 ⟨rfl, f1⟩
  have F1 := Lib.hid f1
  clear f1
  go_wp2_with fail
  (with_reducible refine (new_calls (n := w.heap.size) w1 F1.out.size).mono ?_)
  rintro e w2 ⟨⟨P0, Q0, bs, b1, b2, rfl, h0, _, _⟩, f0⟩
  have F2 := Lib.hid (F1.out.trans f0)
  clear h0 f0 F1
  go_wp2_with fail
  (with_reducible refine (new_calls (n := w.heap.size) w2 F2.out.size).mono ?_)
  rintro e w3 ⟨⟨P1, Q1, cs, c1, c2, rfl, h0, _, _⟩, f0⟩
  have F3 := Lib.hid (F2.out.trans f0)
  clear h0 f0 F2
  go_wp2
  go_ret
  exact ⟨rfl, (F3.out.mono fun _ _ _ => trivial : Fr (fun b _ => b < w.heap.size) w w3).below (Nat.le_refl _)⟩
set_option maxRecDepth 100000 in
set_option maxHeartbeats 4000000 in
theorem again_main (a : Option Addr) (len cap : Nat) (at' : Int) (w : World) (h : Rd Tryz.prog w 22 [.slice a len cap]) (h2 : (len : Int) ≤ 60) :
    Calls Tryz.prog 5 #[.slice a len cap, .int .i64 at'] w fun e w' => e = .returned (.bool true) ∧ Below w.heap.size w w' := by
  have HR := Lib.hid h
  clear h
  go_enter Tryz.func5, Tryz.ntmps5
  go_wp2_with fail
  (with_reducible refine (awake_calls w).mono ?_)
  rintro e w1 ⟨rfl, f1⟩
  have F1 := Lib.hid f1
  clear f1
  go_wp2_with fail
  (with_reducible refine (new_calls (n := w.heap.size) w1 F1.out.size).mono ?_)
  rintro e w2 ⟨⟨P0, Q0, s1, a1, b1, rfl, h0, _, _⟩, f0⟩
  have F2 := Lib.hid (F1.out.trans f0)
  have H2 := Lib.hid h0
  clear h0 f0 F1
  go_wp2_with fail
  (with_reducible refine (new_calls (n := w.heap.size) w2 F2.out.size).mono ?_)
  rintro e w3 ⟨⟨PT, QT, s2, a2, b2, rfl, h0, _, hlow⟩, f0⟩
  have F3 : Hid (Fr (fun b _ => b < w.heap.size) w w3) := Lib.hid ((F2.out.trans f0).mono fun _ _ _ => trivial)
  have H3 := Lib.hid (H2.out.fr f0)
  have T3 := Lib.hid h0
  have D3 : Hid (Dis P0 Q0 PT QT) := Lib.hid fun c h1 h2 => by have := H2.out.here h1; have := hlow c h2; omega
  clear h0 f0 F2 H2 hlow
  go_wp2
  go_loopw [7, 8] (fun tv i wr => ∃ (j : Nat) (P Q P' Q' : Nat → Prop) (M N : MT) (L : Lk) (s2 a2 b2 : Nat), j ≤ len ∧ i = .int .i64 j ∧ tv = .pointer (some ⟨s2, 0, none⟩) ∧ Hid (SV w.heap.size P Q wr s1 a1 b1 M L) ∧ Hid (SV w.heap.size P' Q' wr s2 a2 b2 N L) ∧ Hid (Dis P Q P' Q') ∧ Hid (MS M) ∧ Hid (M.Perm N) ∧ Hid L.ok2 ∧ Hid (Fr (fun b _ => b < w.heap.size) w wr)) (fun _ i _ => len - (intOf i).toNat)
  case atStart => exact ⟨0, P0, Q0, PT, QT, [], [], Lk.new, s2, a2, b2, Nat.zero_le _, rfl, rfl, H3.out, T3.out, D3.out, MS.nil, List.Perm.refl _, Lk.new_ok2, F3.out⟩
  case round =>
    obtain ⟨j, P, Q, P', Q', M, N, L, s2, a2, b2, hj, rfl, rfl, H, T, D, HM, HP, HL2, F⟩ := hrel
    clear H3 F3 T3 D3
    by_cases hlt : j < len
    · obtain ⟨b, off, rfl, hc⟩ := cmds_at HR.out (by omega)
      obtain ⟨c, hc⟩ := hc j hlt
      have HC := Lib.hid hc
      clear hc
      by_cases hat : (j : Int) = at'
      · have hatb : ((j : Int) == at') = true := by simpa using hat
        have PC := Lib.hid (svpack_calls wr s2 a2 b2 N L T.out (HM.out.perm HP.out).mf)
        have SL := svB_len N L
        generalize hsb : (svB N L).length = lb at PC SL
        clear hat
        go_wp2_with fail
        (with_reducible refine PC.out.mono ?_)
        rintro e w4 ⟨⟨ap, cp, rfl, bp⟩, f4⟩
        have F4 := Lib.hid (F.out.trans (f4.mono fun _ _ _ => trivial))
        have H4 := Lib.hid (H.out.fr f4)
        have F04 := Lib.hid f4
        have UC := Lib.hid (svunpack_calls (n := w.heap.size) w4 _ (svB N L) F4.out.size bp (by omega) 0 (sortM N) L (sv_round (HM.out.perm HP.out) H.out.ok HL2.out))
        clear bp f4 PC
        go_wp2_with fail
        (with_reducible refine UC.out.mono ?_)
        rintro e w5 ⟨hx, f5⟩
        have F5 := Lib.hid (F4.out.trans (f5.mono fun _ _ _ => trivial))
        have H5 := Lib.hid (H4.out.fr f5)
        have HPS : Hid (M.Perm (sortM N)) := Lib.hid (HP.out.trans (sort_perm (HM.out.perm HP.out).nd).symm)
        rcases hx with ⟨hx, _⟩ | ⟨_, P5, Q5, s5, a5, b5, rfl, t5, hlow⟩
        · exact absurd rfl hx
        have T5 := Lib.hid t5
        have D5 : Hid (Dis P Q P5 Q5) := Lib.hid fun c h1 h2 => by have := H4.out.here h1; have := hlow c h2; omega
        clear t5 hlow f5 UC H4 F4 F04 T D F H hsb SL
        obtain ⟨g0, g1, g2, g3, g4, g5, g6, hok⟩ := HC.out.fr F5.out
        have HOK := Lib.hid hok
        have BC := Lib.hid (bytes_calls w5 c hok)
        unfold vC at BC
        generalize hlen : (encM c).1.length = lenb at BC
        clear hlen hok
        go_wp2_with fail
        (with_reducible refine BC.out.mono ?_)
        rintro e u ⟨⟨ab, capb, rfl, bb⟩, fb⟩
        have HB := Lib.hid (H5.out.fr fb)
        have TB := Lib.hid (T5.out.fr fb)
        have FB := Lib.hid (F5.out.trans (fb.mono fun _ _ _ => trivial))
        have BB := Lib.hid bb
        obtain ⟨rc, rv, M', L', hact⟩ : ∃ rc rv M' L', actM M L c = (⟨rc, rv⟩, M', L') := ⟨_, _, _, _, rfl⟩
        have pa := perm_act HPS.out HM.out.nd L c
        obtain ⟨N', hN'⟩ : ∃ N', (actM (sortM N) L c).2.1 = N' := ⟨_, rfl⟩
        rw [hact, hN'] at pa
        have hactN : actM (sortM N) L c = (⟨rc, rv⟩, N', L') := Prod.ext pa.1.symm (Prod.ext hN' pa.2.2.symm)
        have HM' : Hid (MS M') := by have := HM.out.act L c HOK.out; rwa [hact] at this
        have HP' : Hid (M'.Perm N') := Lib.hid pa.2.1
        have HL' : Hid L'.ok2 := by have := Lk.ok2.act (M := M) H5.out.ok HL2.out c; rwa [hact] at this
        have AC := Lib.hid (act_calls u s1 a1 b1 M L _ c HB.out FB.out.size bb HOK.out)
        rw [hact] at AC
        unfold vR at AC
        dsimp only at AC
        have HACN := Lib.hid hactN
        clear BC bb fb g0 g1 g2 g3 g4 g5 g6 hact hactN hN' pa HP HPS HL2
        go_wp2_with fail
        (with_reducible refine AC.out.mono ?_)
        rintro e y ⟨rfl, P1, Q1, hy, ky⟩
        obtain ⟨ty, dy⟩ := HB.out.beside TB.out ky D5.out
        have HY := Lib.hid hy
        have TY := Lib.hid ty
        have DY := Lib.hid dy
        have FY := Lib.hid (HB.out.old ky FB.out)
        have BY := Lib.hid (HB.out.keepb ky BB.out)
        clear AC hy ky HB TB FB BB ty dy HM
        obtain ⟨W1, hW1⟩ : ∃ W, y.alloc (.cells #[.int .i64 0, .int .u64 0] 36 (0, 0)) = W := ⟨_, rfl⟩
        have FA : Hid (Fr (fun _ _ => True) y W1) := hW1 ▸ (Fr.refl _ _).alloc _
        have XA : Hid (W1.heap[y.heap.size]? = some (.cells #[.int .i64 0, .int .u64 0] 36 (0, 0))) := hW1 ▸ heap_alloc_new y _
        have q0 := cell_mk (i := 0) XA.out rfl
        have q1 := cell_mk (i := 1) XA.out rfl
        have z0 := frozen_mk (i := 0) XA.out
        have z1 := frozen_mk (i := 1) XA.out
        obtain ⟨v1, hWZ, TZ, FZ⟩ := set2 XA.out (.int .i64 (rc : Nat)) (.int .u64 (rv : Nat))
        have G1 : Hid (Fr (fun b _ => b < w.heap.size) w v1) := Lib.hid ((FY.out.trans (FA.out.mono fun _ _ _ => trivial)).trans (FZ.mono fun c _ h e => by have := FY.out.size; omega))
        have H1 := Lib.hid ((HY.out.fr FA.out).frk FZ ((HY.out.fr FA.out).kv_other XA.out FY.out.size (by decide)))
        have T1 := Lib.hid ((TY.out.fr FA.out).frk FZ ((TY.out.fr FA.out).kv_other XA.out FY.out.size (by decide)))
        have B1 := Lib.hid (keep_bz (BY.out.tt FA.out) FZ XA.out (by decide))
        have X1 := Lib.hid TZ
        have AC := Lib.hid (act_calls v1 s5 a5 b5 (sortM N) L _ c T1.out G1.out.size B1.out HOK.out)
        rw [HACN.out] at AC
        unfold vR at AC
        dsimp only at AC
        clear TZ FZ FA XA HY TY FY BY
        go_wp2_with fail
        try rw [hWZ]
        (with_reducible refine AC.out.mono ?_)
        rintro e y2 ⟨rfl, P2, Q2, ht, kt⟩
        obtain ⟨hy, dy⟩ := T1.out.beside H1.out kt DY.out.symm
        have HY := Lib.hid hy
        have TY := Lib.hid ht
        have D2 := Lib.hid dy.symm
        have FY := Lib.hid (T1.out.old kt G1.out)
        have XY := Lib.hid (T1.out.keepc kt X1.out (by decide))
        clear AC ht kt H1 T1 G1 B1 hy dy DY X1 hWZ hW1 q0 q1 z0 z1
        obtain ⟨mx, hmx⟩ : ∃ m, y.heap.size = m := ⟨_, rfl⟩
        rw [hmx] at XY ⊢
        clear hmx
        obtain ⟨W2, hW2⟩ : ∃ W, y2.alloc (.cells #[.int .i64 0, .int .u64 0] 36 (0, 0)) = W := ⟨_, rfl⟩
        have FA : Hid (Fr (fun _ _ => True) y2 W2) := hW2 ▸ (Fr.refl _ _).alloc _
        have XA : Hid (W2.heap[y2.heap.size]? = some (.cells #[.int .i64 0, .int .u64 0] 36 (0, 0))) := hW2 ▸ heap_alloc_new y2 _
        have q0 := cell_mk (i := 0) XA.out rfl
        have q1 := cell_mk (i := 1) XA.out rfl
        have z0 := frozen_mk (i := 0) XA.out
        have z1 := frozen_mk (i := 1) XA.out
        obtain ⟨v2, hWZ, TZ, FZ⟩ := set2 XA.out (.int .i64 (rc : Nat)) (.int .u64 (rv : Nat))
        have G2 : Hid (Fr (fun b _ => b < w.heap.size) w v2) := Lib.hid ((FY.out.trans (FA.out.mono fun _ _ _ => trivial)).trans (FZ.mono fun c _ h e => by have := FY.out.size; omega))
        have H2 := Lib.hid ((HY.out.fr FA.out).frk FZ ((HY.out.fr FA.out).kv_other XA.out FY.out.size (by decide)))
        have T2 := Lib.hid ((TY.out.fr FA.out).frk FZ ((TY.out.fr FA.out).kv_other XA.out FY.out.size (by decide)))
        have X2 := Lib.hid (FZ.keep _ _ (FA.out.keep _ _ XY.out trivial) (by have := lt_of_some XY.out; omega))
        have x0 := cell_mk (i := 0) X2.out rfl
        have x1 := cell_mk (i := 1) X2.out rfl
        have y0 := cell_mk (i := 0) TZ rfl
        have y1 := cell_mk (i := 1) TZ rfl
        have NE := neq_reply v2 (rc : Nat) (rv : Nat)
        clear TZ FZ FA XA HY TY FY XY
        go_wp2
        try rw [hWZ]
        go_roundw
        case rel => exact ⟨j + 1, P1, Q1, P2, Q2, M', N', L', s5, a5, b5, by omega, by go_num, rfl, H2.out, T2.out, D2.out, HM'.out, HP'.out, HL'.out, G2.out⟩
        case measure => simp [intOf]; omega
      · have hatb : ((j : Int) == at') = false := by simpa using hat
        clear hat
        obtain ⟨g0, g1, g2, g3, g4, g5, g6, hok⟩ := HC.out.fr F.out
        have HOK := Lib.hid hok
        have BC := Lib.hid (bytes_calls wr c hok)
        unfold vC at BC
        generalize hlen : (encM c).1.length = lenb at BC
        clear hlen hok
        go_wp2_with fail
        (with_reducible refine BC.out.mono ?_)
        rintro e u ⟨⟨ab, capb, rfl, bb⟩, fb⟩
        have HB := Lib.hid (H.out.fr fb)
        have TB := Lib.hid (T.out.fr fb)
        have FB := Lib.hid (F.out.trans (fb.mono fun _ _ _ => trivial))
        have BB := Lib.hid bb
        obtain ⟨rc, rv, M', L', hact⟩ : ∃ rc rv M' L', actM M L c = (⟨rc, rv⟩, M', L') := ⟨_, _, _, _, rfl⟩
        have pa := perm_act HP.out HM.out.nd L c
        obtain ⟨N', hN'⟩ : ∃ N', (actM N L c).2.1 = N' := ⟨_, rfl⟩
        rw [hact, hN'] at pa
        have hactN : actM N L c = (⟨rc, rv⟩, N', L') := Prod.ext pa.1.symm (Prod.ext hN' pa.2.2.symm)
        have HM' : Hid (MS M') := by have := HM.out.act L c HOK.out; rwa [hact] at this
        have HP' : Hid (M'.Perm N') := Lib.hid pa.2.1
        have HL' : Hid L'.ok2 := by have := Lk.ok2.act (M := M) H.out.ok HL2.out c; rwa [hact] at this
        have AC := Lib.hid (act_calls u s1 a1 b1 M L _ c HB.out FB.out.size bb HOK.out)
        rw [hact] at AC
        unfold vR at AC
        dsimp only at AC
        have HACN := Lib.hid hactN
        clear BC bb fb g0 g1 g2 g3 g4 g5 g6 hact hactN hN' pa HL2
        go_wp2_with fail
        (with_reducible refine AC.out.mono ?_)
        rintro e y ⟨rfl, P1, Q1, hy, ky⟩
        obtain ⟨ty, dy⟩ := HB.out.beside TB.out ky D.out
        have HY := Lib.hid hy
        have TY := Lib.hid ty
        have DY := Lib.hid dy
        have FY := Lib.hid (HB.out.old ky FB.out)
        have BY := Lib.hid (HB.out.keepb ky BB.out)
        clear AC hy ky HB TB FB BB ty dy HM
        obtain ⟨W1, hW1⟩ : ∃ W, y.alloc (.cells #[.int .i64 0, .int .u64 0] 36 (0, 0)) = W := ⟨_, rfl⟩
        have FA : Hid (Fr (fun _ _ => True) y W1) := hW1 ▸ (Fr.refl _ _).alloc _
        have XA : Hid (W1.heap[y.heap.size]? = some (.cells #[.int .i64 0, .int .u64 0] 36 (0, 0))) := hW1 ▸ heap_alloc_new y _
        have q0 := cell_mk (i := 0) XA.out rfl
        have q1 := cell_mk (i := 1) XA.out rfl
        have z0 := frozen_mk (i := 0) XA.out
        have z1 := frozen_mk (i := 1) XA.out
        obtain ⟨v1, hWZ, TZ, FZ⟩ := set2 XA.out (.int .i64 (rc : Nat)) (.int .u64 (rv : Nat))
        have G1 : Hid (Fr (fun b _ => b < w.heap.size) w v1) := Lib.hid ((FY.out.trans (FA.out.mono fun _ _ _ => trivial)).trans (FZ.mono fun c _ h e => by have := FY.out.size; omega))
        have H1 := Lib.hid ((HY.out.fr FA.out).frk FZ ((HY.out.fr FA.out).kv_other XA.out FY.out.size (by decide)))
        have T1 := Lib.hid ((TY.out.fr FA.out).frk FZ ((TY.out.fr FA.out).kv_other XA.out FY.out.size (by decide)))
        have B1 := Lib.hid (keep_bz (BY.out.tt FA.out) FZ XA.out (by decide))
        have X1 := Lib.hid TZ
        have AC := Lib.hid (act_calls v1 s2 a2 b2 N L _ c T1.out G1.out.size B1.out HOK.out)
        rw [HACN.out] at AC
        unfold vR at AC
        dsimp only at AC
        clear TZ FZ FA XA HY TY FY BY
        go_wp2_with fail
        try rw [hWZ]
        (with_reducible refine AC.out.mono ?_)
        rintro e y2 ⟨rfl, P2, Q2, ht, kt⟩
        obtain ⟨hy, dy⟩ := T1.out.beside H1.out kt DY.out.symm
        have HY := Lib.hid hy
        have TY := Lib.hid ht
        have D2 := Lib.hid dy.symm
        have FY := Lib.hid (T1.out.old kt G1.out)
        have XY := Lib.hid (T1.out.keepc kt X1.out (by decide))
        clear AC ht kt H1 T1 G1 B1 hy dy DY X1 hWZ hW1 q0 q1 z0 z1
        obtain ⟨mx, hmx⟩ : ∃ m, y.heap.size = m := ⟨_, rfl⟩
        rw [hmx] at XY ⊢
        clear hmx
        obtain ⟨W2, hW2⟩ : ∃ W, y2.alloc (.cells #[.int .i64 0, .int .u64 0] 36 (0, 0)) = W := ⟨_, rfl⟩
        have FA : Hid (Fr (fun _ _ => True) y2 W2) := hW2 ▸ (Fr.refl _ _).alloc _
        have XA : Hid (W2.heap[y2.heap.size]? = some (.cells #[.int .i64 0, .int .u64 0] 36 (0, 0))) := hW2 ▸ heap_alloc_new y2 _
        have q0 := cell_mk (i := 0) XA.out rfl
        have q1 := cell_mk (i := 1) XA.out rfl
        have z0 := frozen_mk (i := 0) XA.out
        have z1 := frozen_mk (i := 1) XA.out
        obtain ⟨v2, hWZ, TZ, FZ⟩ := set2 XA.out (.int .i64 (rc : Nat)) (.int .u64 (rv : Nat))
        have G2 : Hid (Fr (fun b _ => b < w.heap.size) w v2) := Lib.hid ((FY.out.trans (FA.out.mono fun _ _ _ => trivial)).trans (FZ.mono fun c _ h e => by have := FY.out.size; omega))
        have H2 := Lib.hid ((HY.out.fr FA.out).frk FZ ((HY.out.fr FA.out).kv_other XA.out FY.out.size (by decide)))
        have T2 := Lib.hid ((TY.out.fr FA.out).frk FZ ((TY.out.fr FA.out).kv_other XA.out FY.out.size (by decide)))
        have X2 := Lib.hid (FZ.keep _ _ (FA.out.keep _ _ XY.out trivial) (by have := lt_of_some XY.out; omega))
        have x0 := cell_mk (i := 0) X2.out rfl
        have x1 := cell_mk (i := 1) X2.out rfl
        have y0 := cell_mk (i := 0) TZ rfl
        have y1 := cell_mk (i := 1) TZ rfl
        have NE := neq_reply v2 (rc : Nat) (rv : Nat)
        clear TZ FZ FA XA HY TY FY XY
        go_wp2
        try rw [hWZ]
        go_roundw
        case rel => exact ⟨j + 1, P1, Q1, P2, Q2, M', N', L', s2, a2, b2, by omega, by go_num, rfl, H2.out, T2.out, D2.out, HM'.out, HP'.out, HL'.out, G2.out⟩
        case measure => simp [intOf]; omega
    · have HM1 := HM.out.mf
      have HM2 := (HM.out.perm HP.out).mf
      have PC := Lib.hid (svpack_calls wr s1 a1 b1 M L H.out HM1)
      have hsn : svB N L = svB M L := by unfold svB; rw [perm_sort HP.out HM.out.nd]
      generalize hs : svB M L = S at PC hsn
      have HLS : Hid (S.length ≤ 2004) := hs ▸ svB_len M L
      go_wp2_with fail
      (with_reducible refine PC.out.mono ?_)
      rintro e w4 ⟨⟨ap, cp, rfl, bp⟩, f4⟩
      have BP := Lib.hid bp
      have F4 := Lib.hid (F.out.trans (f4.mono fun _ _ _ => trivial))
      have QC := Lib.hid (svpack_calls w4 s2 a2 b2 N L (T.out.fr f4) HM2)
      rw [hsn] at QC
      clear bp f4 PC hs hsn HM1 HM2
      go_wp2_with fail
      (with_reducible refine QC.out.mono ?_)
      rintro e w5 ⟨⟨aq, cq, rfl, bq⟩, f5⟩
      have SC := Lib.hid (same_calls w5 _ _ S S (BP.out.tt f5) bq (by have := HLS.out; omega))
      rw [show decide (S = S) = true from decide_eq_true rfl] at SC
      have F5 := Lib.hid (F4.out.trans (f5.mono fun _ _ _ => trivial))
      clear bq f5 QC BP F4
      go_wp2_with fail
      (with_reducible refine SC.out.mono ?_)
      rintro e w6 ⟨rfl, n6, hw6⟩
      have F6 : Hid (Fr (fun b _ => b < w.heap.size) w w6) := Lib.hid (by rw [hw6]; exact F5.out.drewN n6)
      clear hw6 SC
      go_wp2
      go_ret
      exact ⟨rfl, F6.out.below (Nat.le_refl _)⟩
theorem again_walk (a : Option Addr) (len cap : Nat) (at' : Int) (w : World) (h : Rd Tryz.prog w 22 [.slice a len cap]) :
    Calls Tryz.prog 5 #[.slice a len cap, .int .i64 at'] w fun e w' => e = .returned (.bool true) ∧ Below w.heap.size w w' := by
  by_cases hc : 60 < len
  · exact again_short a len cap at' w hc
  · exact again_main a len cap at' w h (by omega)
end Go.Proofs.YtlolfcnfcgegdaaGreat
