/- Texts of the proofs, part 31: what the functions that they reach do, walked; no conditions beyond those that each states. -/
import Derived.Test.YtlolfcnfcgegdaaGreatZz92a436efe3
set_option linter.unusedVariables false
set_option linter.unusedSimpArgs false
/- The document's locks: Unpack (printed by lkdoc19.py). -/
namespace Go.Proofs.YtlolfcnfcgegdaaGreat
open Go.RowKit
set_option linter.unusedVariables false
set_option linter.unusedSimpArgs false

theorem DUU.rebuild {W0 w w' : World} {br bt : Nat} {hv wv : Nat → Value} {p p' : Rs} {tv : Value} {tk : List Int} {L : Lk} (h : DUU W0 w br bt hv wv p tv tk L) (f : Fr (fun c _ => c < w.heap.size ∧ c ≠ br) w w') (l : RR W0 w' br p'.1 p'.2) : DUU W0 w' br bt hv wv p' tv tk L := by
  obtain ⟨cs, ht⟩ := h.lr.top
  refine ⟨l, h.ut.frk f fun c o ho hk => ⟨lt_of_some ho, h.ut.other ht (by decide) c o ho hk⟩, ownsRow_fr h.tk f fun b o e ho => ⟨lt_of_some ho, fun q => ?_⟩⟩
  obtain ⟨cur, hc⟩ := own_tag h.tk e
  rw [q, ht] at hc
  cases hc
theorem codeD_bad {u : UR} (h : endL u.p.1 u.p.2 = 0) {j : Nat} (hj : j < 4) (hf : fineD u.L.last (u.L.rg j) = false) : codeD u = 1 := by
  unfold codeD
  rw [if_neg (fun x => x h), if_neg (fun x => ?_)]
  have := List.all_eq_true.1 x.1 j (List.mem_range.2 hj)
  rw [hf] at this
  cases this
theorem codeD_dup {u : UR} (h : endL u.p.1 u.p.2 = 0) (hf : ¬ u.tk.Nodup) : codeD u = 1 := by
  unfold codeD
  rw [if_neg (fun x => x h), if_neg (fun x => hf x.2)]
theorem codeD_ok {u : UR} (h : endL u.p.1 u.p.2 = 0) (hf : ∀ j, j < 4 → fineD u.L.last (u.L.rg j) = true) (hn : u.tk.Nodup) : codeD u = 0 := by
  unfold codeD
  rw [if_neg (fun x => x h), if_pos ⟨List.all_eq_true.2 fun j hj => hf j (List.mem_range.1 hj), hn⟩]
theorem codeD_end {u : UR} (h : endL u.p.1 u.p.2 ≠ 0) : codeD u = endL u.p.1 u.p.2 := by
  unfold codeD
  rw [if_pos h]
/-- The clients that are read fit into a byte. -/
theorem hsU_c (last : Nat) (u : UB) (hu : ∀ h ∈ u.hs, h.c < 256) : ∀ i, ∀ h ∈ (hsU last u i).hs, h.c < 256
  | 0 => hu
  | i + 1 => fun h hh => by
    have hh' : h ∈ (hsU last u i).hs ++ [(holdU (hsU last u i).p).1] := hh
    rcases List.mem_append.1 hh' with q | q
    · exact hsU_c last u hu i h q
    · rw [List.mem_singleton.1 q]
      have := num2_lt (hsU last u i).p 1
      unfold holdU
      dsimp only
      omega
theorem wsU_c (v : Rs × List Wa) (hv : ∀ x ∈ v.2, x.c < 256) : ∀ i, ∀ x ∈ (wsU v i).2, x.c < 256
  | 0 => hv
  | i + 1 => fun x hx => by
    have hx' : x ∈ (wsU v i).2 ++ [(⟨(num2 (wsU v i).1 1).1, (num2 (num2 (wsU v i).1 1).2 1).1⟩ : Wa)] := hx
    rcases List.mem_append.1 hx' with q | q
    · exact wsU_c v hv i x q
    · rw [List.mem_singleton.1 q]
      have := num2_lt (wsU v i).1 1
      dsimp only
      omega
theorem rgs_c (u : UR) (h4 : u.L.rs.length = 4) (h0 : ∀ j, j < 4 → u.L.rg j = ⟨[], []⟩) : ∀ r, r ≤ 4 → (rgsU u r).L.rs.length = 4 ∧ ∀ j, j < 4 → ((∀ h ∈ ((rgsU u r).L.rg j).hs, h.c < 256) ∧ ∀ x ∈ ((rgsU u r).L.rg j).ws, x.c < 256) ∧ ((rgsU u r).L.rg j).hs.length ≤ 255 ∧ ((rgsU u r).L.rg j).ws.length ≤ 255
  | 0, _ => ⟨h4, fun j hj => by
      show ((∀ h ∈ (u.L.rg j).hs, _) ∧ ∀ x ∈ (u.L.rg j).ws, _) ∧ (u.L.rg j).hs.length ≤ 255 ∧ (u.L.rg j).ws.length ≤ 255
      rw [h0 j hj]
      exact ⟨⟨fun h hh => (by cases hh), fun h hh => (by cases hh)⟩, by simp, by simp⟩⟩
  | r + 1, hr => by
    obtain ⟨i1, i2⟩ := rgs_c u h4 h0 r (by omega)
    have e : rgsU u (r + 1) = rgU (rgsU u r) r := rfl
    rw [e]
    generalize rgsU u r = v at *
    refine ⟨by show (v.L.put r _).rs.length = 4; rw [put_len]; exact i1, fun j hj => ?_⟩
    show ((∀ h ∈ ((v.L.put r ⟨(rgH v).hs, (rgW v).2⟩).rg j).hs, _) ∧ ∀ x ∈ ((v.L.put r ⟨(rgH v).hs, (rgW v).2⟩).rg j).ws, _) ∧ ((v.L.put r ⟨(rgH v).hs, (rgW v).2⟩).rg j).hs.length ≤ 255 ∧ ((v.L.put r ⟨(rgH v).hs, (rgW v).2⟩).rg j).ws.length ≤ 255
    rw [put_rg (by omega)]
    split
    · have b1 := num2_lt v.p 1
      have b2 := num2_lt (rgH v).p 1
      have l1 := (hsU_len v.L.last ⟨(num2 v.p 1).2, v.ok, v.tk, []⟩ (num2 v.p 1).1).1
      have l2 := wsU_len ((num2 (rgH v).p 1).2, []) (num2 (rgH v).p 1).1
      refine ⟨⟨hsU_c _ _ (fun h hh => by cases hh) _, wsU_c _ (fun h hh => by cases hh) _⟩, ?_, ?_⟩
      · have : (rgH v).hs.length = ([] : List Ho).length + (num2 v.p 1).1 := l1
        show (rgH v).hs.length ≤ 255
        rw [this, List.length_nil]; omega
      · have : (rgW v).2.length = ([] : List Wa).length + (num2 (rgH v).p 1).1 := l2
        show (rgW v).2.length ≤ 255
        rw [this, List.length_nil]; omega
    · exact i2 j hj
set_option maxRecDepth 100000 in
set_option maxHeartbeats 8000000 in
theorem lkdoc_calls {K : Nat → Obj → Prop} (w : World) (v : Value) (b : List UInt8) (hb : BytesAt K w v b) (hm : b.length ≤ 1000000) :
    Calls Tryz.prog 59 #[v] w fun e w' => ((codeD (rgsU (lkU0 b) 4) ≠ 0 ∧ e = .returned (.tuple #[.pointer none, .int .i64 (codeD (rgsU (lkU0 b) 4))])) ∨ (codeD (rgsU (lkU0 b) 4) = 0 ∧ ∃ bt hv wv, e = .returned (.tuple #[.pointer (some ⟨bt, 0, none⟩), .int .i64 0]) ∧ DU w.heap.size w' bt hv wv (rgsU (lkU0 b) 4).L)) ∧ Fr (fun _ _ => True) w w' := by
  obtain ⟨av, cv, rfl⟩ := hb.form
  obtain ⟨W2, hW2⟩ : ∃ W, w.alloc (.cells #[.slice av b.length cv, .int .i64 0, .bool false] 125 (0, 0)) = W := ⟨_, rfl⟩
  have l0 : RR w W2 w.heap.size b false := hW2 ▸ RR.mk0 (Fr.refl _ _) hb (by omega)
  obtain ⟨W3, hW3⟩ : ∃ W, W2.alloc (.cells #[.int .u64 0, .int .u64 0, .slice none 0 0, .slice none 0 0, .slice none 0 0, .slice none 0 0, .slice none 0 0, .slice none 0 0, .slice none 0 0, .slice none 0 0] 77 (0, 0)) = W := ⟨_, rfl⟩
  have F3 : Hid (Fr (fun _ _ => True) W2 W3) := hW3 ▸ (Fr.refl _ _).alloc _
  have X3 : Hid (W3.heap[W2.heap.size]? = some (.cells #[.int .u64 0, .int .u64 0, .slice none 0 0, .slice none 0 0, .slice none 0 0, .slice none 0 0, .slice none 0 0, .slice none 0 0, .slice none 0 0, .slice none 0 0] 77 (0, 0))) := hW3 ▸ heap_alloc_new W2 _
  have HSZ : Hid (w.heap.size < W2.heap.size) := by obtain ⟨cs, q⟩ := RR.top l0; exact lt_of_some q
  have HLEN := Lib.hid hm
  clear hm hb
  obtain ⟨U0, hU0⟩ : ∃ u, lkU0 b = u := ⟨_, rfl⟩
  obtain ⟨now, p1, e1⟩ : ∃ x p, num2 (b, false) 8 = (x, p) := ⟨_, _, rfl⟩
  obtain ⟨last, p2, e2⟩ : ∃ x p, num2 p1 8 = (x, p) := ⟨_, _, rfl⟩
  have g1 := num2_len (b, false) 8
  have g2 := num2_len p1 8
  have b1 := num2_lt (b, false) 8
  have b2 := num2_lt p1 8
  rw [e1] at g1 b1
  rw [e2] at g2 b2
  dsimp only at g1 g2 b1 b2
  have EU0 : Hid (U0 = ⟨p2, true, [], ⟨now, last, [⟨[], []⟩, ⟨[], []⟩, ⟨[], []⟩, ⟨[], []⟩]⟩⟩) := by
    show _ = _
    rw [← hU0]
    unfold lkU0
    rw [e1]
    dsimp only
    rw [e2]
  rw [hU0]
  have C1 := Lib.hid (rr_number w W3 w.heap.size b false 8 8 rfl (l0.tt F3.out) (by omega) (by omega) now p1.1 p1.2 e1)
  clear hU0 e1 l0
  go_enter Tryz.func59, Tryz.ntmps59
  go_wp2_with fail
  try rw [hW3]
  (with_reducible refine C1.out.mono ?_)
  rintro e w1 ⟨rfl, l1, f1⟩
  have X1 := Lib.hid (f1.keep _ _ X3.out (by have := HSZ.out; omega))
  have c0 := cell_mk (i := 0) X1.out rfl
  have z0 := frozen_mk (i := 0) X1.out
  obtain ⟨v1, hv1⟩ : ∃ W, w1.setCell ⟨W2.heap.size, 0, none⟩ (.int .u64 (now : Nat)) = W := ⟨_, rfl⟩
  have FS1 : Hid (Fr (fun c _ => c ≠ W2.heap.size) w1 v1) := hv1 ▸ (Fr.refl _ _).setCell (fun _ _ h => h rfl) _
  have Y1 : Hid (v1.heap[W2.heap.size]? = some (.cells #[.int .u64 (now : Nat), .int .u64 0, .slice none 0 0, .slice none 0 0, .slice none 0 0, .slice none 0 0, .slice none 0 0, .slice none 0 0, .slice none 0 0, .slice none 0 0] 77 (0, 0))) := hv1 ▸ heap_setCell_same (o := 0) X1.out _
  have lv1 := l1.frk FS1.out fun c o h => by have := HSZ.out; omega
  have C2 := Lib.hid (rr_number w v1 w.heap.size p1.1 p1.2 8 8 rfl lv1 (by omega) (by omega) last p2.1 p2.2 e2)
  clear l1 f1 C1 e2 X3 F3
  go_wp2_with fail
  try rw [hv1]
  (with_reducible refine C2.out.mono ?_)
  rintro e w4 ⟨rfl, l2, f2⟩
  have X2 := Lib.hid (f2.keep _ _ Y1.out (by have := HSZ.out; omega))
  clear hW3 hv1 c0 z0
  have c0 := cell_mk (i := 1) X2.out rfl
  have z0 := frozen_mk (i := 1) X2.out
  obtain ⟨v2, hv2⟩ : ∃ W, w4.setCell ⟨W2.heap.size, 1, none⟩ (.int .u64 (last : Nat)) = W := ⟨_, rfl⟩
  have FS2 : Hid (Fr (fun c _ => c ≠ W2.heap.size) w4 v2) := hv2 ▸ (Fr.refl _ _).setCell (fun _ _ h => h rfl) _
  have Y2 : Hid (v2.heap[W2.heap.size]? = some (.cells #[.int .u64 (now : Nat), .int .u64 (last : Nat), .slice none 0 0, .slice none 0 0, .slice none 0 0, .slice none 0 0, .slice none 0 0, .slice none 0 0, .slice none 0 0, .slice none 0 0] 77 (0, 0))) := hv2 ▸ heap_setCell_same (o := 1) X2.out _
  have UI : Hid (DUU w v2 w.heap.size W2.heap.size (fun _ => .slice none 0 0) (fun _ => .slice none 0 0) p2 (.slice none 0 0) [] ⟨now, last, [⟨[], []⟩, ⟨[], []⟩, ⟨[], []⟩, ⟨[], []⟩]⟩) := by
    have e : ∀ i, i < 4 → (⟨now, last, [⟨[], []⟩, ⟨[], []⟩, ⟨[], []⟩, ⟨[], []⟩]⟩ : Lk).rg i = ⟨[], []⟩ := fun i hi => by
      match i, hi with
      | 0, _ => rfl
      | 1, _ => rfl
      | 2, _ => rfl
      | 3, _ => rfl
    refine ⟨l2.frk FS2.out fun c o h => by have := HSZ.out; omega, ⟨Y2.out, fun i hi => ?_, fun i hi => ?_, fun i j _ _ _ c h => (by cases h), fun i j _ _ _ c h => (by cases h), rfl, Nat.le_of_lt HSZ.out⟩, RowU.nil _ _⟩
    · rw [e i hi]; exact ⟨rfl, .inl ⟨rfl, rfl⟩⟩
    · rw [e i hi]; exact ⟨rfl, .inl ⟨rfl, rfl⟩⟩
  have G2 : p2.1.length ≤ 1000000 := by have := HLEN.out; omega
  clear lv1 l2 f2 C2 g1 g2 X2 Y1 FS1 FS2
  go_wp2_with fail
  try rw [hv2]
  obtain ⟨bt, hbt⟩ : ∃ x, W2.heap.size = x := ⟨_, rfl⟩
  rw [hbt] at UI ⊢
  clear hv2 c0 z0 HSZ Y2 X1
  clear hbt hW2
  go_loopw [6, 7] (fun tv v7 wz => ∃ (r : Nat) (hv wv : Nat → Value), r ≤ 4 ∧ v7 = .int .i64 r ∧ Hid (DUU w wz w.heap.size bt hv wv (rgsU U0 r).p tv (rgsU U0 r).tk (rgsU U0 r).L) ∧ Hid ((∀ j, r ≤ j → j < 4 → (rgsU U0 r).L.rg j = ⟨[], []⟩) ∧ (rgsU U0 r).tk.length ≤ 255 * r ∧ (rgsU U0 r).p.1.length ≤ 1000000 ∧ (rgsU U0 r).L.last < 18446744073709551616)) (fun _ v7 _ => 4 - (intOf v7).toNat)
  case atStart =>
    refine ⟨0, fun _ => .slice none 0 0, fun _ => .slice none 0 0, by omega, rfl, ?_, ?_⟩
    · show DUU w v2 w.heap.size bt _ _ U0.p _ U0.tk U0.L; rw [EU0.out]; exact UI.out
    · show (∀ j, 0 ≤ j → j < 4 → U0.L.rg j = ⟨[], []⟩) ∧ U0.tk.length ≤ 255 * 0 ∧ U0.p.1.length ≤ 1000000 ∧ U0.L.last < 18446744073709551616
      rw [EU0.out]
      refine ⟨fun j _ hj => ?_, Nat.zero_le _, G2, b2⟩
      match j, hj with
      | 0, _ => rfl
      | 1, _ => rfl
      | 2, _ => rfl
      | 3, _ => rfl
  case round =>
    obtain ⟨r, hv, wv, hr, rfl, U, B⟩ := hrel
    clear UI b1 b2 G2
    have ENX : Hid (rgsU U0 (r + 1) = rgU (rgsU U0 r) r) := rfl
    by_cases hlt : r < 4
    · have hltI : (r : Int) < 4 := by omega
      obtain ⟨⟨p, ok, tk, L⟩, hu⟩ : ∃ u, rgsU U0 r = u := ⟨_, rfl⟩
      rw [hu] at U B ENX
      dsimp only at U B
      clear hu
      obtain ⟨B1, B2, B3, B4⟩ := B.out
      obtain ⟨N, q, eN⟩ : ∃ x y, num2 p 1 = (x, y) := ⟨_, _, rfl⟩
      have hN := num2_lt p 1
      have gq := num2_len p 1
      rw [eN] at hN gq
      dsimp only at hN gq
      have C1 := Lib.hid (rr_number w wr w.heap.size p.1 p.2 1 1 rfl U.out.lr (by omega) (by omega) N q.1 q.2 eN)
      go_wp2_with fail
      (with_reducible refine C1.out.mono ?_)
      rintro e w5 ⟨rfl, l5, f5⟩
      obtain ⟨US, hUS⟩ : ∃ u : UB, u = ⟨q, ok, tk, []⟩ := ⟨_, rfl⟩
      have HUS := Lib.hid hUS
      have EH : Hid (rgH ⟨p, ok, tk, L⟩ = hsU L.last US N) := by show _ = _; unfold rgH; rw [eN, hUS]
      have U5 := Lib.hid (U.out.number (p' := q) l5 f5)
      have hL4 : L.rs.length = 4 := U.out.ut.four
      have EL : Hid (L = L.put r ⟨[], []⟩) := by show _ = _; have := put_same (L := L) (i := r) (by omega); rw [B1 r (Nat.le_refl _) hlt] at this; exact this.symm
      clear l5 f5 C1 U eN
      go_wp2_with fail
      go_loopw [6, 9] (fun tv v9 wz => ∃ (i : Nat) (hv : Nat → Value), i ≤ N ∧ v9 = .int .u64 i ∧ Hid (DUU w wz w.heap.size bt hv wv (hsU L.last US i).p tv (hsU L.last US i).tk (L.put r ⟨(hsU L.last US i).hs, []⟩))) (fun _ v9 _ => N - (intOf v9).toNat)
      case atStart =>
        refine ⟨0, hv, Nat.zero_le _, rfl, ?_⟩
        show DUU w w5 w.heap.size bt hv wv US.p _ US.tk (L.put r ⟨US.hs, []⟩); rw [HUS.out]; dsimp only; rw [← EL.out]; exact U5.out
      case round =>
        obtain ⟨i, hv, hi, rfl, U⟩ := hrel
        clear U5
        have hlh := hsU_len L.last US i
        have hlp := hsU_plen L.last US i
        have ENS : Hid (hsU L.last US (i + 1) = stepH L.last (hsU L.last US i)) := rfl
        have u1 : US.hs.length = 0 ∧ US.tk.length = tk.length ∧ US.p.1.length ≤ 1000000 := by rw [HUS.out]; exact ⟨rfl, rfl, by dsimp only; omega⟩
        by_cases hil : i < N
        · have hilI : (i : Int) < N := by omega
          have hiw : IntKind.u64.wrap ((i : Int) + 1) = (i : Int) + 1 := by rw [IntKind.wrap_u64]; omega
          obtain ⟨⟨p, ok, tk, hs⟩, hu⟩ : ∃ u, hsU L.last US i = u := ⟨_, rfl⟩
          rw [hu] at U ENS hlh hlp
          dsimp only at U hlh hlp
          clear hu
          obtain ⟨ta, tc, rfl⟩ := U.out.tk.form
          obtain ⟨lens, hlens⟩ : ∃ n, tk.length = n := ⟨_, rfl⟩
          have lensB : lens ≤ 1000000 := by omega
          have hsB : hs.length ≤ 1000000 := by omega
          rw [hlens] at U ⊢
          have EHO : Hid (∀ {x0 x1 x2 x3 : Nat} {q0 q1 q2 q3 : Rs}, num2 p 1 = (x0, q0) → num2 q0 1 = (x1, q1) → num2 q1 8 = (x2, q2) → num2 q2 8 = (x3, q3) → holdU p = (⟨x0, x1, x2, x3⟩, q3)) := Lib.hid fun e0 e1 e2 e3 => by
            unfold holdU
            rw [e0]
            dsimp only
            rw [e1]
            dsimp only
            rw [e2]
            dsimp only
            rw [e3]
          obtain ⟨x0, q0, e0⟩ : ∃ x y, num2 p 1 = (x, y) := ⟨_, _, rfl⟩
          have hx0 := num2_lt p 1
          rw [e0] at hx0
          dsimp only at hx0
          obtain ⟨x1, q1, e1⟩ : ∃ x y, num2 q0 1 = (x, y) := ⟨_, _, rfl⟩
          have hx1 := num2_lt q0 1
          rw [e1] at hx1
          dsimp only at hx1
          obtain ⟨x2, q2, e2⟩ : ∃ x y, num2 q1 8 = (x, y) := ⟨_, _, rfl⟩
          have hx2 := num2_lt q1 8
          rw [e2] at hx2
          dsimp only at hx2
          obtain ⟨x3, q3, e3⟩ : ∃ x y, num2 q2 8 = (x, y) := ⟨_, _, rfl⟩
          have hx3 := num2_lt q2 8
          rw [e3] at hx3
          dsimp only at hx3
          have EH2 := Lib.hid (EHO.out e0 e1 e2 e3)
          clear EHO
          obtain ⟨A0, hA0⟩ : ∃ W, wr.alloc (.cells #[.int .i64 0, .int .i64 0, .int .u64 0, .int .u64 0] 112 (0, 0)) = W := ⟨_, rfl⟩
          have FA : Hid (Fr (fun _ _ => True) wr A0) := hA0 ▸ (Fr.refl _ _).alloc _
          have XA : Hid (A0.heap[wr.heap.size]? = some (.cells #[.int .i64 0, .int .i64 0, .int .u64 0, .int .u64 0] 112 (0, 0))) := hA0 ▸ heap_alloc_new wr _
          have a0 := cell_mk (i := 0) XA.out rfl
          have s0 := frozen_mk (i := 0) XA.out
          have a1 := cell_mk (i := 1) XA.out rfl
          have s1 := frozen_mk (i := 1) XA.out
          have a2 := cell_mk (i := 2) XA.out rfl
          have s2 := frozen_mk (i := 2) XA.out
          have a3 := cell_mk (i := 3) XA.out rfl
          have s3 := frozen_mk (i := 3) XA.out
          obtain ⟨v0, hV0, TZ, FZ⟩ := set4 XA.out (.int .i64 0) (.int .i64 0) (.int .u64 0) (.int .u64 0)
          have HBR : Hid (w.heap.size < wr.heap.size) := by obtain ⟨cs, q⟩ := RR.top U.out.lr; exact lt_of_some q
          have G0 : Hid (Fr (fun c _ => c < wr.heap.size ∧ c ≠ w.heap.size) wr v0) := Lib.hid ((FA.out.mono fun _ _ _ => trivial).trans (FZ.mono fun c _ h e => by have := h.1; omega))
          have R0 : Hid (RR w v0 w.heap.size p.1 p.2) := Lib.hid ((U.out.lr.tt FA.out).frk FZ fun c o h => by have := HBR.out; omega)
          have T0 := Lib.hid TZ
          clear TZ FZ FA XA
          have C1 := Lib.hid (rr_number w v0 w.heap.size p.1 p.2 1 1 rfl R0.out (by omega) (by omega) x0 q0.1 q0.2 e0)
          go_wp2_with fail
          try rw [hV0]
          (with_reducible refine C1.out.mono ?_)
          rintro e y0 ⟨rfl, l5, f5⟩
          obtain ⟨bh, hbh⟩ : ∃ m, wr.heap.size = m := ⟨_, rfl⟩
          rw [hbh] at T0 G0 HBR ⊢
          clear hV0 hA0 a0 s0 a1 s1 a2 s2 a3 s3
          have HBH : Hid (wr.heap.size = bh) := hbh
          clear hbh
          have Y0 := Lib.hid (f5.keep _ _ T0.out (by have := HBR.out; omega))
          have b0 := cell_mk (i := 0) Y0.out rfl
          have b1 := frozen_mk (i := 0) Y0.out
          have vx0 : IntKind.i64.wrap (x0 : Int) = x0 := IntWalk.i64_in _ (by omega)
          obtain ⟨v1, hV1⟩ : ∃ W, y0.setCell ⟨bh, 0, none⟩ (.int .i64 (x0 : Nat)) = W := ⟨_, rfl⟩
          have FS : Hid (Fr (fun c _ => c ≠ bh) y0 v1) := hV1 ▸ (Fr.refl _ _).setCell (fun _ _ h => h rfl) _
          have T1 : Hid (v1.heap[bh]? = some (.cells #[.int .i64 (x0 : Nat), .int .i64 0, .int .u64 0, .int .u64 0] 112 (0, 0))) := hV1 ▸ heap_setCell_same (o := 0) Y0.out _
          have R1 : Hid (RR w v1 w.heap.size q0.1 q0.2) := Lib.hid (l5.frk FS.out fun c o h => by have := HBR.out; omega)
          have G1 : Hid (Fr (fun c _ => c < bh ∧ c ≠ w.heap.size) wr v1) := Lib.hid ((G0.out.trans (f5.mono fun c _ h => h.2)).trans (FS.out.mono fun c _ h e => by have := h.1; omega))
          clear l5 f5 C1 FS Y0 T0 R0 G0 e0
          have C1 := Lib.hid (rr_number w v1 w.heap.size q0.1 q0.2 1 1 rfl R1.out (by omega) (by omega) x1 q1.1 q1.2 e1)
          go_wp2_with fail
          try rw [hV1]
          (with_reducible refine C1.out.mono ?_)
          rintro e y1 ⟨rfl, l5, f5⟩
          clear hV1 b0 b1
          have Y1 := Lib.hid (f5.keep _ _ T1.out (by have := HBR.out; omega))
          have b0 := cell_mk (i := 1) Y1.out rfl
          have b1 := frozen_mk (i := 1) Y1.out
          have vx1 : IntKind.i64.wrap (x1 : Int) = x1 := IntWalk.i64_in _ (by omega)
          obtain ⟨v2, hV2⟩ : ∃ W, y1.setCell ⟨bh, 1, none⟩ (.int .i64 (x1 : Nat)) = W := ⟨_, rfl⟩
          have FS : Hid (Fr (fun c _ => c ≠ bh) y1 v2) := hV2 ▸ (Fr.refl _ _).setCell (fun _ _ h => h rfl) _
          have T2 : Hid (v2.heap[bh]? = some (.cells #[.int .i64 (x0 : Nat), .int .i64 (x1 : Nat), .int .u64 0, .int .u64 0] 112 (0, 0))) := hV2 ▸ heap_setCell_same (o := 1) Y1.out _
          have R2 : Hid (RR w v2 w.heap.size q1.1 q1.2) := Lib.hid (l5.frk FS.out fun c o h => by have := HBR.out; omega)
          have G2 : Hid (Fr (fun c _ => c < bh ∧ c ≠ w.heap.size) wr v2) := Lib.hid ((G1.out.trans (f5.mono fun c _ h => h.2)).trans (FS.out.mono fun c _ h e => by have := h.1; omega))
          clear l5 f5 C1 FS Y1 T1 R1 G1 e1
          have C1 := Lib.hid (rr_number w v2 w.heap.size q1.1 q1.2 8 8 rfl R2.out (by omega) (by omega) x2 q2.1 q2.2 e2)
          go_wp2_with fail
          try rw [hV2]
          (with_reducible refine C1.out.mono ?_)
          rintro e y2 ⟨rfl, l5, f5⟩
          clear hV2 b0 b1
          have Y2 := Lib.hid (f5.keep _ _ T2.out (by have := HBR.out; omega))
          have b0 := cell_mk (i := 2) Y2.out rfl
          have b1 := frozen_mk (i := 2) Y2.out
          obtain ⟨v3, hV3⟩ : ∃ W, y2.setCell ⟨bh, 2, none⟩ (.int .u64 (x2 : Nat)) = W := ⟨_, rfl⟩
          have FS : Hid (Fr (fun c _ => c ≠ bh) y2 v3) := hV3 ▸ (Fr.refl _ _).setCell (fun _ _ h => h rfl) _
          have T3 : Hid (v3.heap[bh]? = some (.cells #[.int .i64 (x0 : Nat), .int .i64 (x1 : Nat), .int .u64 (x2 : Nat), .int .u64 0] 112 (0, 0))) := hV3 ▸ heap_setCell_same (o := 2) Y2.out _
          have R3 : Hid (RR w v3 w.heap.size q2.1 q2.2) := Lib.hid (l5.frk FS.out fun c o h => by have := HBR.out; omega)
          have G3 : Hid (Fr (fun c _ => c < bh ∧ c ≠ w.heap.size) wr v3) := Lib.hid ((G2.out.trans (f5.mono fun c _ h => h.2)).trans (FS.out.mono fun c _ h e => by have := h.1; omega))
          clear l5 f5 C1 FS Y2 T2 R2 G2 e2
          have C1 := Lib.hid (rr_number w v3 w.heap.size q2.1 q2.2 8 8 rfl R3.out (by omega) (by omega) x3 q3.1 q3.2 e3)
          go_wp2_with fail
          try rw [hV3]
          (with_reducible refine C1.out.mono ?_)
          rintro e y3 ⟨rfl, l5, f5⟩
          clear hV3 b0 b1
          have Y3 := Lib.hid (f5.keep _ _ T3.out (by have := HBR.out; omega))
          have b0 := cell_mk (i := 3) Y3.out rfl
          have b1 := frozen_mk (i := 3) Y3.out
          obtain ⟨v4, hV4⟩ : ∃ W, y3.setCell ⟨bh, 3, none⟩ (.int .u64 (x3 : Nat)) = W := ⟨_, rfl⟩
          have FS : Hid (Fr (fun c _ => c ≠ bh) y3 v4) := hV4 ▸ (Fr.refl _ _).setCell (fun _ _ h => h rfl) _
          have T4 : Hid (v4.heap[bh]? = some (.cells #[.int .i64 (x0 : Nat), .int .i64 (x1 : Nat), .int .u64 (x2 : Nat), .int .u64 (x3 : Nat)] 112 (0, 0))) := hV4 ▸ heap_setCell_same (o := 3) Y3.out _
          have R4 : Hid (RR w v4 w.heap.size q3.1 q3.2) := Lib.hid (l5.frk FS.out fun c o h => by have := HBR.out; omega)
          have G4 : Hid (Fr (fun c _ => c < bh ∧ c ≠ w.heap.size) wr v4) := Lib.hid ((G3.out.trans (f5.mono fun c _ h => h.2)).trans (FS.out.mono fun c _ h e => by have := h.1; omega))
          clear l5 f5 C1 FS Y3 T3 R3 G3 e3
          have V5 : Hid (DUU w v4 w.heap.size bt hv wv q3 (.slice ta lens tc) tk (L.put r ⟨hs, []⟩)) := Lib.hid (U.out.rebuild (G4.out.mono fun c _ h => by have := HBH.out; exact ⟨by omega, h.2⟩) R4.out)
          clear R4 G4
          have ES : Hid ((hsU L.last US (i + 1)).p = q3 ∧ (hsU L.last US (i + 1)).tk = tk ++ [tI x2] ∧ (hsU L.last US (i + 1)).hs = hs ++ [(⟨x0, x1, x2, x3⟩ : Ho)]) := by
            show _ ∧ _
            rw [ENS.out]
            unfold stepH
            rw [EH2.out]
            exact ⟨rfl, rfl, rfl⟩
          go_upto_region 18 with fail
          try rw [hV4]
          clear hV4 b0 b1
          have hrg : (L.put r ⟨hs, []⟩).rg r = ⟨hs, []⟩ := by rw [put_rg (by omega), if_pos rfl]
          have OW := V5.out.ut.hr r hlt
          rw [hrg] at OW
          dsimp only at OW
          obtain ⟨ah, ch, eh⟩ := own_form OW
          have NBH : Hid ((hv r).ownBlock ≠ some bh) := Lib.hid fun e => by
            have OU := U.out.ut.hr r hlt
            rw [hrg] at OU
            obtain ⟨cur, q⟩ := own_tag OU e
            have := lt_of_some q
            have := HBH.out
            omega
          have NBT : Hid (bh ≠ bt) := Lib.hid fun e => by have := lt_of_some U.out.ut.top; have := HBH.out; omega
          obtain ⟨W8, hW8⟩ : ∃ W, v4.drew.alloc (.cells #[.int .i64 (x0 : Nat), .int .i64 (x1 : Nat), .int .u64 (x2 : Nat), .int .u64 (x3 : Nat)] 112 (0, 0)) = W := ⟨_, rfl⟩
          have F8 : Hid (Fr (fun _ _ => True) v4 W8) := hW8 ▸ ((Fr.refl _ _).drew.alloc _)
          have X8 : Hid (W8.heap[v4.heap.size]? = some (.cells #[.int .i64 (x0 : Nat), .int .i64 (x1 : Nat), .int .u64 (x2 : Nat), .int .u64 (x3 : Nat)] 112 (0, 0))) := hW8 ▸ heap_alloc_new v4.drew _
          have V8 := Lib.hid (V5.out.tt F8.out)
          have T8 := Lib.hid (F8.out.keep _ _ T4.out trivial)
          have OW8 : Hid (W8.ownsRow 0 112 4 (.slice ah hs.length ch) hs.length (hs.flatMap encH)) := by
            have := V8.out.ut.hr r hlt
            rw [hrg, eh] at this
            exact own_basew this fun _ _ => Nat.zero_le _
          have k0 := cell_mk (i := 0) T8.out rfl
          have k1 := cell_mk (i := 1) T8.out rfl
          have k2 := cell_mk (i := 2) T8.out rfl
          have k3 := cell_mk (i := 3) T8.out rfl
          have m0 : v4.drew.cell? ⟨bh, 0, none⟩ = some (.int .i64 (x0 : Nat)) := cell_mk (i := 0) T4.out rfl
          have m1 : v4.drew.cell? ⟨bh, 1, none⟩ = some (.int .i64 (x1 : Nat)) := cell_mk (i := 1) T4.out rfl
          have m2 : v4.drew.cell? ⟨bh, 2, none⟩ = some (.int .u64 (x2 : Nat)) := cell_mk (i := 2) T4.out rfl
          have m3 : v4.drew.cell? ⟨bh, 3, none⟩ = some (.int .u64 (x3 : Nat)) := cell_mk (i := 3) T4.out rfl
          have m4 : v4.drew.cell? ⟨bt, 2 + r, none⟩ = some (.slice ah hs.length ch) := eh ▸ ((V5.out.ut.cells v4 (Fr.refl _ _)).2 r hlt).1
          have m5 : W8.cell? ⟨bt, 2 + r, none⟩ = some (.slice ah hs.length ch) := eh ▸ ((V8.out.ut.cells W8 (Fr.refl _ _)).2 r hlt).1
          have SET : Hid (∀ g cap w9, w9.ownsRow 0 112 4 (.slice (some ⟨g, 0, none⟩) (hs.length + 1) cap) (hs.length + 1) ((hs ++ [(⟨x0, x1, x2, x3⟩ : Ho)]).flatMap encH) → W8.grownBy w9 (Value.slice ah hs.length ch).ownBlock → OwnNext W8 (.slice ah hs.length ch) (.slice (some ⟨g, 0, none⟩) (hs.length + 1) cap) → w9.cell? ⟨bt, 2 + r, none⟩ = some (.slice ah hs.length ch) ∧ w9.frozen? ⟨bt, 2 + r, none⟩ = false ∧ ∃ W9, w9.setCell ⟨bt, 2 + r, none⟩ (.slice (some ⟨g, 0, none⟩) (hs.length + 1) cap) = W9 ∧ W9.cell? ⟨bh, 2, none⟩ = some (.int .u64 (x2 : Nat)) ∧ DUU w W9 w.heap.size bt (fun j => if j = r then (.slice (some ⟨g, 0, none⟩) (hs.length + 1) cap) else hv j) wv q3 (.slice ta lens tc) tk (L.put r ⟨(hsU L.last US (i + 1)).hs, []⟩)) := Lib.hid fun g cap w9 o9 g9 n9 => by
            have e1 : hs.length + 1 = (hs ++ [(⟨x0, x1, x2, x3⟩ : Ho)]).length := by rw [List.length_append]; rfl
            have s := V8.out.setH hlt (.slice (some ⟨g, 0, none⟩) (hs.length + 1) cap) (hs ++ [(⟨x0, x1, x2, x3⟩ : Ho)]) (w1 := w9) (by rw [eh]; exact Fr.of_grown g9 fun k o e _ hne => hne e) (by rw [← e1]; exact o9) (by rw [eh]; exact n9)
            rw [hrg, put_put, eh] at s
            rw [ES.out.2.2]
            have t9 := grown_block g9 T8.out (by rw [← eh]; exact NBH.out)
            have f9 : Fr (fun c _ => c ≠ bt) w9 (w9.setCell ⟨bt, 2 + r, none⟩ (.slice (some ⟨g, 0, none⟩) (hs.length + 1) cap)) := (Fr.refl _ _).setCell (fun _ _ h => h rfl) _
            exact ⟨s.1, s.2.1, _, rfl, cell_mk (f9.keep _ _ t9 NBT.out) rfl, s.2.2⟩
          have ET : Hid (tk ++ [((x2 : Nat) : Int)] = tk ++ [tI x2]) := rfl
          have HLN : Hid ((tk ++ [tI x2]).length = lens + 1) := by show _ = _; rw [List.length_append, hlens]; rfl
          clear OW V5 V8 T4 T8 F8 hrg eh hlh u1 hlp U NBH NBT HBH HBR
          go_region_law ((refine step_append_ho W8 rfl _ _ rfl (.slice ah hs.length ch) hs rfl OW8 v4.heap.size rfl ⟨x0, x1, x2, x3⟩ X8 hsB ?_; intro g9 c9 w9 O9 G9 N9; obtain ⟨s9, z9, W9, hW9, t9, u9⟩ := SET.out g9 c9 w9 O9.out G9.out N9.out; have U9 := Lib.hid u9; clear u9 O9 G9 N9))
          all_goals
            try rw [hW9]
            have F9 : Hid (Fr (fun _ _ => True) w W9) := U9.out.lr.fr
            clear hW9 s9 z9 m0 m1 m2 m3 m4 m5 k0 k1 k2 k3 hW8
            go_wp2_with (at_builtin; refine wpList_append_nat1 w W9 (x2 : Nat) F9 rfl _ _ rfl _ _ rfl U9.out.tk rfl _ ET (lens + 1) HLN (by omega) ?_)
            intro a1 c1 w7 O1 G1 G2 N1
            have V7 := Lib.hid (U9.out.tokens O1.out G2.out)
            clear t9 O1 G1 G2 N1 F9 U9
            go_wp2
            go_roundw
            case rel => exact ⟨i + 1, _, hil, by first | rfl | go_num, by show DUU _ _ _ _ _ _ _ _ _ _; rw [ES.out.1, ES.out.2.1]; exact V7.out⟩
            case measure => simp [intOf]; omega
        · have hiN : i = N := by omega
          have hgeI : (N : Int) ≤ i := by omega
          rw [hiN] at hlh hlp U
          obtain ⟨⟨p3, ok3, tk3, hs⟩, hu⟩ : ∃ u, hsU L.last US N = u := ⟨_, rfl⟩
          rw [hu] at U hlh hlp EH
          dsimp only at U hlh hlp
          clear ENS hu hiN
          obtain ⟨ta, tc, rfl⟩ := U.out.tk.form
          obtain ⟨lens, hlens⟩ : ∃ n, tk3.length = n := ⟨_, rfl⟩
          rw [hlens] at U ⊢
          obtain ⟨M, q9, eM⟩ : ∃ x y, num2 p3 1 = (x, y) := ⟨_, _, rfl⟩
          have hM := num2_lt p3 1
          have gM := num2_len p3 1
          rw [eM] at hM gM
          dsimp only at hM gM
          have C1 := Lib.hid (rr_number w wr w.heap.size p3.1 p3.2 1 1 rfl U.out.lr (by omega) (by omega) M q9.1 q9.2 eM)
          go_wp2_with fail
          (with_reducible refine C1.out.mono ?_)
          rintro e w6 ⟨rfl, l5, f5⟩
          have U6 := Lib.hid (U.out.number (p' := q9) l5 f5)
          obtain ⟨VS, hVS⟩ : ∃ v : Rs × List Wa, v = (q9, []) := ⟨_, rfl⟩
          have HVS := Lib.hid hVS
          have EW : Hid (rgW ⟨p, ok, tk, L⟩ = wsU VS M) := by show _ = _; unfold rgW; rw [EH.out]; dsimp only; rw [eM, hVS]
          have EH2 : Hid (rgH ⟨p, ok, tk, L⟩ = ⟨p3, ok3, tk3, hs⟩) := EH
          have tk3B : tk3.length ≤ 255 * (r + 1) := by omega
          have q9B : q9.1.length ≤ 1000000 := by omega
          clear l5 f5 C1 U eM hVS EH hlh hlp u1 gM
          go_wp2_with fail
          go_loopw [12] (fun v12 wz => ∃ (i : Nat) (wv : Nat → Value), i ≤ M ∧ v12 = .int .u64 i ∧ Hid (DUU w wz w.heap.size bt hv wv (wsU VS i).1 (.slice ta lens tc) tk3 (L.put r ⟨hs, (wsU VS i).2⟩))) (fun v12 _ => M - (intOf v12).toNat)
          case atStart =>
            refine ⟨0, wv, Nat.zero_le _, rfl, ?_⟩
            show DUU w w6 w.heap.size bt hv wv VS.1 _ tk3 (L.put r ⟨hs, VS.2⟩)
            rw [HVS.out]
            exact U6.out
          case round =>
            obtain ⟨i2, wv, hi2, rfl, U⟩ := hrel
            clear U6
            have hlh := wsU_len VS i2
            have hlp := wsU_plen VS i2
            have ENS : Hid (wsU VS (i2 + 1) = stepW (wsU VS i2)) := rfl
            have u1 : VS.2.length = 0 ∧ VS.1.1.length ≤ 1000000 := by rw [HVS.out]; exact ⟨rfl, q9B⟩
            by_cases hil2 : i2 < M
            · have hil2I : (i2 : Int) < M := by omega
              have hiw : IntKind.u64.wrap ((i2 : Int) + 1) = (i2 : Int) + 1 := by rw [IntKind.wrap_u64]; omega
              obtain ⟨⟨p4, ws⟩, hu⟩ : ∃ u, wsU VS i2 = u := ⟨_, rfl⟩
              rw [hu] at U ENS hlh hlp
              dsimp only at U hlh hlp
              clear hu
              have wsB : ws.length ≤ 1000000 := by omega
              have EHO : Hid (∀ {x0 x1 : Nat} {q0 q1 : Rs}, num2 p4 1 = (x0, q0) → num2 q0 1 = (x1, q1) → wsU VS (i2 + 1) = (q1, ws ++ [(⟨x0, x1⟩ : Wa)])) := Lib.hid fun e0 e1 => by
                rw [ENS.out]
                unfold stepW
                dsimp only
                rw [e0]
                dsimp only
                rw [e1]
              obtain ⟨x0, q0, e0⟩ : ∃ x y, num2 p4 1 = (x, y) := ⟨_, _, rfl⟩
              have hx0 := num2_lt p4 1
              rw [e0] at hx0
              dsimp only at hx0
              obtain ⟨x1, q1, e1⟩ : ∃ x y, num2 q0 1 = (x, y) := ⟨_, _, rfl⟩
              have hx1 := num2_lt q0 1
              rw [e1] at hx1
              dsimp only at hx1
              have ES := Lib.hid (EHO.out e0 e1)
              clear EHO
              obtain ⟨A0, hA0⟩ : ∃ W, wr.alloc (.cells #[.int .i64 0, .int .i64 0] 114 (0, 0)) = W := ⟨_, rfl⟩
              have FA : Hid (Fr (fun _ _ => True) wr A0) := hA0 ▸ (Fr.refl _ _).alloc _
              have XA : Hid (A0.heap[wr.heap.size]? = some (.cells #[.int .i64 0, .int .i64 0] 114 (0, 0))) := hA0 ▸ heap_alloc_new wr _
              have a0 := cell_mk (i := 0) XA.out rfl
              have s0 := frozen_mk (i := 0) XA.out
              have a1 := cell_mk (i := 1) XA.out rfl
              have s1 := frozen_mk (i := 1) XA.out
              obtain ⟨v0, hV0, TZ, FZ⟩ := set2 XA.out (.int .i64 0) (.int .i64 0)
              have HBR : Hid (w.heap.size < wr.heap.size) := by obtain ⟨cs, q⟩ := RR.top U.out.lr; exact lt_of_some q
              have G0 : Hid (Fr (fun c _ => c < wr.heap.size ∧ c ≠ w.heap.size) wr v0) := Lib.hid ((FA.out.mono fun _ _ _ => trivial).trans (FZ.mono fun c _ h e => by have := h.1; omega))
              have R0 : Hid (RR w v0 w.heap.size p4.1 p4.2) := Lib.hid ((U.out.lr.tt FA.out).frk FZ fun c o h => by have := HBR.out; omega)
              have T0 := Lib.hid TZ
              clear TZ FZ FA XA
              have C1 := Lib.hid (rr_number w v0 w.heap.size p4.1 p4.2 1 1 rfl R0.out (by omega) (by omega) x0 q0.1 q0.2 e0)
              go_wp2_with fail
              try rw [hV0]
              (with_reducible refine C1.out.mono ?_)
              rintro e y0 ⟨rfl, l5, f5⟩
              obtain ⟨bh, hbh⟩ : ∃ m, wr.heap.size = m := ⟨_, rfl⟩
              rw [hbh] at T0 G0 HBR ⊢
              clear hV0 hA0 a0 s0 a1 s1
              have HBH : Hid (wr.heap.size = bh) := hbh
              clear hbh
              have Y0 := Lib.hid (f5.keep _ _ T0.out (by have := HBR.out; omega))
              have b0 := cell_mk (i := 0) Y0.out rfl
              have b1 := frozen_mk (i := 0) Y0.out
              have vx0 : IntKind.i64.wrap (x0 : Int) = x0 := IntWalk.i64_in _ (by omega)
              obtain ⟨v1, hV1⟩ : ∃ W, y0.setCell ⟨bh, 0, none⟩ (.int .i64 (x0 : Nat)) = W := ⟨_, rfl⟩
              have FS : Hid (Fr (fun c _ => c ≠ bh) y0 v1) := hV1 ▸ (Fr.refl _ _).setCell (fun _ _ h => h rfl) _
              have T1 : Hid (v1.heap[bh]? = some (.cells #[.int .i64 (x0 : Nat), .int .i64 0] 114 (0, 0))) := hV1 ▸ heap_setCell_same (o := 0) Y0.out _
              have R1 : Hid (RR w v1 w.heap.size q0.1 q0.2) := Lib.hid (l5.frk FS.out fun c o h => by have := HBR.out; omega)
              have G1 : Hid (Fr (fun c _ => c < bh ∧ c ≠ w.heap.size) wr v1) := Lib.hid ((G0.out.trans (f5.mono fun c _ h => h.2)).trans (FS.out.mono fun c _ h e => by have := h.1; omega))
              clear l5 f5 C1 FS Y0 T0 R0 G0 e0
              have C1 := Lib.hid (rr_number w v1 w.heap.size q0.1 q0.2 1 1 rfl R1.out (by omega) (by omega) x1 q1.1 q1.2 e1)
              go_wp2_with fail
              try rw [hV1]
              (with_reducible refine C1.out.mono ?_)
              rintro e y1 ⟨rfl, l5, f5⟩
              clear hV1 b0 b1
              have Y1 := Lib.hid (f5.keep _ _ T1.out (by have := HBR.out; omega))
              have b0 := cell_mk (i := 1) Y1.out rfl
              have b1 := frozen_mk (i := 1) Y1.out
              have vx1 : IntKind.i64.wrap (x1 : Int) = x1 := IntWalk.i64_in _ (by omega)
              obtain ⟨v2, hV2⟩ : ∃ W, y1.setCell ⟨bh, 1, none⟩ (.int .i64 (x1 : Nat)) = W := ⟨_, rfl⟩
              have FS : Hid (Fr (fun c _ => c ≠ bh) y1 v2) := hV2 ▸ (Fr.refl _ _).setCell (fun _ _ h => h rfl) _
              have T2 : Hid (v2.heap[bh]? = some (.cells #[.int .i64 (x0 : Nat), .int .i64 (x1 : Nat)] 114 (0, 0))) := hV2 ▸ heap_setCell_same (o := 1) Y1.out _
              have R2 : Hid (RR w v2 w.heap.size q1.1 q1.2) := Lib.hid (l5.frk FS.out fun c o h => by have := HBR.out; omega)
              have G2 : Hid (Fr (fun c _ => c < bh ∧ c ≠ w.heap.size) wr v2) := Lib.hid ((G1.out.trans (f5.mono fun c _ h => h.2)).trans (FS.out.mono fun c _ h e => by have := h.1; omega))
              clear l5 f5 C1 FS Y1 T1 R1 G1 e1
              have V5 : Hid (DUU w v2 w.heap.size bt hv wv q1 (.slice ta lens tc) tk3 (L.put r ⟨hs, ws⟩)) := Lib.hid (U.out.rebuild (G2.out.mono fun c _ h => by have := HBH.out; exact ⟨by omega, h.2⟩) R2.out)
              clear R2 G2
              go_upto_region 27 with fail
              try rw [hV2]
              clear hV2 b0 b1
              have hrg : (L.put r ⟨hs, ws⟩).rg r = ⟨hs, ws⟩ := by rw [put_rg (by omega), if_pos rfl]
              have OW := V5.out.ut.wr r hlt
              rw [hrg] at OW
              dsimp only at OW
              obtain ⟨aw, cw, ew⟩ := own_form OW
              obtain ⟨W8, hW8⟩ : ∃ W, v2.drew.alloc (.cells #[.int .i64 (x0 : Nat), .int .i64 (x1 : Nat)] 114 (0, 0)) = W := ⟨_, rfl⟩
              have F8 : Hid (Fr (fun _ _ => True) v2 W8) := hW8 ▸ ((Fr.refl _ _).drew.alloc _)
              have X8 : Hid (W8.heap[v2.heap.size]? = some (.cells #[.int .i64 (x0 : Nat), .int .i64 (x1 : Nat)] 114 (0, 0))) := hW8 ▸ heap_alloc_new v2.drew _
              have V8 := Lib.hid (V5.out.tt F8.out)
              have T8 := Lib.hid (F8.out.keep _ _ T2.out trivial)
              have OW8 : Hid (W8.ownsRow 0 114 2 (.slice aw ws.length cw) ws.length (ws.flatMap encW)) := by
                have := V8.out.ut.wr r hlt
                rw [hrg, ew] at this
                exact own_basew this fun _ _ => Nat.zero_le _
              have k0 := cell_mk (i := 0) T8.out rfl
              have k1 := cell_mk (i := 1) T8.out rfl
              have m0 : v2.drew.cell? ⟨bh, 0, none⟩ = some (.int .i64 (x0 : Nat)) := cell_mk (i := 0) T2.out rfl
              have m1 : v2.drew.cell? ⟨bh, 1, none⟩ = some (.int .i64 (x1 : Nat)) := cell_mk (i := 1) T2.out rfl
              have m4 : v2.drew.cell? ⟨bt, 6 + r, none⟩ = some (.slice aw ws.length cw) := ew ▸ ((V5.out.ut.cells v2 (Fr.refl _ _)).2 r hlt).2.1
              have m5 : W8.cell? ⟨bt, 6 + r, none⟩ = some (.slice aw ws.length cw) := ew ▸ ((V8.out.ut.cells W8 (Fr.refl _ _)).2 r hlt).2.1
              have SET : Hid (∀ g cap w9, w9.ownsRow 0 114 2 (.slice (some ⟨g, 0, none⟩) (ws.length + 1) cap) (ws.length + 1) ((ws ++ [(⟨x0, x1⟩ : Wa)]).flatMap encW) → W8.grownBy w9 (Value.slice aw ws.length cw).ownBlock → OwnNext W8 (.slice aw ws.length cw) (.slice (some ⟨g, 0, none⟩) (ws.length + 1) cap) → w9.cell? ⟨bt, 6 + r, none⟩ = some (.slice aw ws.length cw) ∧ w9.frozen? ⟨bt, 6 + r, none⟩ = false ∧ DUU w (w9.setCell ⟨bt, 6 + r, none⟩ (.slice (some ⟨g, 0, none⟩) (ws.length + 1) cap)) w.heap.size bt hv (fun j => if j = r then (.slice (some ⟨g, 0, none⟩) (ws.length + 1) cap) else wv j) (wsU VS (i2 + 1)).1 (.slice ta lens tc) tk3 (L.put r ⟨hs, (wsU VS (i2 + 1)).2⟩)) := Lib.hid fun g cap w9 o9 g9 n9 => by
                have e1 : ws.length + 1 = (ws ++ [(⟨x0, x1⟩ : Wa)]).length := by rw [List.length_append]; rfl
                have s := V8.out.setW hlt (.slice (some ⟨g, 0, none⟩) (ws.length + 1) cap) (ws ++ [(⟨x0, x1⟩ : Wa)]) (w1 := w9) (by rw [ew]; exact Fr.of_grown g9 fun k o e _ hne => hne e) (by rw [← e1]; exact o9) (by rw [ew]; exact n9)
                rw [hrg, put_put, ew] at s
                rw [ES.out]
                exact s
              clear OW V5 V8 T2 T8 F8 hrg ew hlh u1 hlp U HBH HBR ENS
              go_region_law ((refine step_append_wa W8 rfl _ _ rfl (.slice aw ws.length cw) ws rfl OW8 v2.heap.size rfl ⟨x0, x1⟩ X8 wsB ?_; intro g9 c9 w9 O9 G9 N9; obtain ⟨s9, z9, u9⟩ := SET.out g9 c9 w9 O9.out G9.out N9.out; have U9 := Lib.hid u9; clear u9 O9 G9 N9))
              all_goals
                go_wp2
                go_roundw
                case rel => exact ⟨i2 + 1, _, hil2, by first | rfl | go_num, U9.out⟩
                case measure => simp [intOf]; omega
            · have hiM : i2 = M := by omega
              have hgeM : (M : Int) ≤ i2 := by omega
              rw [hiM] at hlh hlp U
              obtain ⟨⟨p4, ws⟩, hu⟩ : ∃ u, wsU VS M = u := ⟨_, rfl⟩
              rw [hu] at U hlh hlp EW
              dsimp only at U hlh hlp
              have p4B : p4.1.length ≤ 1000000 := by omega
              have ENY : Hid ((rgsU U0 (r + 1)).p = p4 ∧ (rgsU U0 (r + 1)).tk = tk3 ∧ (rgsU U0 (r + 1)).L = L.put r ⟨hs, ws⟩) := by
                show _ ∧ _
                rw [ENX.out]
                unfold rgU
                rw [EH2.out, EW.out]
                exact ⟨rfl, rfl, rfl⟩
              have BN : Hid ((∀ j, r + 1 ≤ j → j < 4 → (rgsU U0 (r + 1)).L.rg j = ⟨[], []⟩) ∧ (rgsU U0 (r + 1)).tk.length ≤ 255 * (r + 1) ∧ (rgsU U0 (r + 1)).p.1.length ≤ 1000000 ∧ (rgsU U0 (r + 1)).L.last < 18446744073709551616) := by
                show _ ∧ _
                rw [ENY.out.1, ENY.out.2.1, ENY.out.2.2]
                refine ⟨fun j hj hj4 => ?_, tk3B, p4B, B4⟩
                rw [put_rg (by omega), if_neg (by omega)]
                exact B1 j (by omega) hj4
              clear ENS hiM hu hlh hlp u1 EW EH2 ENX
              go_wp2
              go_roundw
              case rel => exact ⟨r + 1, hv, wv, hlt, by go_num, by show DUU _ _ _ _ _ _ _ _ _ _; rw [ENY.out.1, ENY.out.2.1, ENY.out.2.2]; exact U.out, BN.out⟩
              case measure => simp [intOf]; omega
    · have hr4 : r = 4 := by omega
      have hge4 : (4 : Int) ≤ r := by omega
      rw [hr4] at U B
      clear ENX hr4
      have RC4 := Lib.hid ((rgs_c U0 (by rw [EU0.out]; rfl) (fun j hj => by
        rw [EU0.out]
        match j, hj with
        | 0, _ => rfl
        | 1, _ => rfl
        | 2, _ => rfl
        | 3, _ => rfl) 4 (Nat.le_refl _)).2)
      obtain ⟨⟨p, ok, tk, L⟩, hu⟩ : ∃ u, rgsU U0 4 = u := ⟨_, rfl⟩
      rw [hu] at U B RC4
      dsimp only at U B RC4
      have HU4 := Lib.hid hu
      clear hu
      obtain ⟨ta, tc, rfl⟩ := U.out.tk.form
      obtain ⟨lens, hlens⟩ : ∃ n, tk.length = n := ⟨_, rfl⟩
      have lensB : lens ≤ 1000000 := by have := B.out.2.1; omega
      rw [hlens] at U ⊢
      have EC := Lib.hid (rr_end w wr w.heap.size p.1 p.2 U.out.lr)
      obtain ⟨E, hE⟩ : ∃ E, endL p.1 p.2 = E := ⟨_, rfl⟩
      have HE := Lib.hid hE
      rw [hE] at EC
      clear hE B
      go_wp2_with fail
      (with_reducible refine EC.out.mono ?_)
      rintro e y9 ⟨rfl, k9, hy9⟩
      have FD : Hid (Fr (fun _ _ => True) wr y9) := Lib.hid (by rw [hy9]; exact (Fr.refl _ _).drewN k9)
      have FW := Lib.hid (U.out.lr.fr.trans FD.out)
      have D1 := Lib.hid (U.out.ut.tt FD.out)
      have K1 := Lib.hid (U.out.tk.tt FD.out)
      clear EC hy9 FD U
      by_cases hE0 : E = 0
      · have hE2 : (E != 0) = false := by simpa using hE0
        have HE0 : Hid (endL p.1 p.2 = 0) := Lib.hid (HE.out.trans hE0)
        clear hE0
        go_wp2_with fail
        go_loopw [15] (fun v15 wz => ∃ q : Nat, q ≤ 4 ∧ v15 = .int .i64 q ∧ Hid (DU w.heap.size wz bt hv wv L) ∧ Hid (RowU wz w.heap.size (.slice ta lens tc) tk) ∧ Hid (Fr (fun _ _ => True) w wz) ∧ Hid (∀ j, j < q → fineD L.last (L.rg j) = true)) (fun v15 _ => 4 - (intOf v15).toNat)
        case atStart => exact ⟨0, by omega, rfl, D1.out, K1.out, FW.out, fun j hj => absurd hj (Nat.not_lt_zero j)⟩
        case round =>
          obtain ⟨q, hq4, rfl, D, KT', FZ, G⟩ := hrel
          clear D1 K1 FW
          by_cases hql : q < 4
          · have hqlI : (q : Int) < 4 := by omega
            have OH := D.out.hr q hql
            have OW := D.out.wr q hql
            obtain ⟨ah, ch, eh⟩ := own_form OH
            obtain ⟨aw, cw, ew⟩ := own_form OW
            obtain ⟨cl, cc⟩ := D.out.cells wr (Fr.refl _ _)
            obtain ⟨cc0, cc1, _, _⟩ := cc q hql
            rw [eh] at cc0 OH
            rw [ew] at cc1 OW
            have rc := RC4.out q hql
            have FC := Lib.hid (fine_calls wr bt q L.last ah aw ch cw (L.rg q).hs (L.rg q).ws hql cc0 cc1 cl (RowsAt.of_own (K := fun _ _ => True) encH_len OH fun _ _ _ => trivial) (RowsAt.of_own (K := fun _ _ => True) encW_len OW fun _ _ _ => trivial) (by omega) (by omega) rc.1)
            obtain ⟨ck, hck⟩ : ∃ c, fineD L.last (L.rg q) = c := ⟨_, rfl⟩
            have hck' : fineD L.last ⟨(L.rg q).hs, (L.rg q).ws⟩ = ck := hck
            rw [hck'] at FC
            have HCK := Lib.hid hck
            clear OH OW eh ew cl cc cc0 cc1 rc hck hck'
            go_wp2_with fail
            (with_reducible refine FC.out.mono ?_)
            rintro e y8 ⟨rfl, f8⟩
            have D8 := Lib.hid (D.out.tt f8)
            have K8 := Lib.hid (KT'.out.tt f8)
            have F8 := Lib.hid (FZ.out.trans f8)
            clear f8 FC D KT' FZ
            cases ck with
            | false =>
              go_wp2
              go_ret2
              rw [HU4.out, codeD_bad HE0.out hql HCK.out]
              exact ⟨.inl ⟨by decide, rfl⟩, F8.out⟩
            | true =>
              go_wp2
              go_roundw
              case rel =>
                refine ⟨q + 1, hql, by go_num, D8.out, K8.out, F8.out, fun j hj => ?_⟩
                by_cases e : j = q
                · rw [e]; exact HCK.out
                · exact G.out j (by omega)
              case measure => simp [intOf]; omega
          · have hqg : (4 : Int) ≤ q := by omega
            have GF : Hid (∀ j, j < 4 → fineD L.last (L.rg j) = true) := fun j hj => G.out j (by omega)
            clear G
            go_wp2_with fail
            go_loopw [17] (fun v17 wz => ∃ i : Nat, i ≤ lens ∧ v17 = .int .i64 i ∧ Hid (DU w.heap.size wz bt hv wv L) ∧ Hid (RowU wz w.heap.size (.slice ta lens tc) tk) ∧ Hid (Fr (fun _ _ => True) w wz) ∧ Hid (∀ j, (hj : j < tk.length) → j < i → hasI (tk.take j) tk[j] = false)) (fun v17 _ => lens - (intOf v17).toNat)
            case atStart => exact ⟨0, Nat.zero_le _, rfl, D.out, KT'.out, FZ.out, fun j _ hj => absurd hj (Nat.not_lt_zero j)⟩
            case round =>
              obtain ⟨i, hi, rfl, D3, RS3, F3, G3⟩ := hrel
              clear D KT' FZ
              by_cases hil3 : i < lens
              · have hil3I : (i : Int) < lens := by omega
                have hlw : i < tk.length := by omega
                obtain ⟨bq, off, ha⟩ := RS3.out.ints.addr (by omega)
                subst ha
                obtain ⟨u, hu⟩ : ∃ u, tk[i] = u := ⟨_, rfl⟩
                have HU := Lib.hid hu
                clear hu
                go_wp2_with fail
                go_loopw [18] (fun v18 wz => ∃ k : Nat, k ≤ i ∧ v18 = .int .i64 k ∧ Hid (DU w.heap.size wz bt hv wv L) ∧ Hid (RowU wz w.heap.size (.slice (some ⟨bq, off, none⟩) lens tc) tk) ∧ Hid (Fr (fun _ _ => True) w wz) ∧ Hid (hasI (tk.take k) u = false)) (fun v18 _ => i - (intOf v18).toNat)
                case atStart => exact ⟨0, Nat.zero_le _, rfl, D3.out, RS3.out, F3.out, hasI_take0 _ _⟩
                case round =>
                  obtain ⟨k, hk, rfl, D4, RS4, F4, G4⟩ := hrel
                  clear RS3 F3 D3
                  have cu := RS4.out.ints.cell (i := i) hlw
                  rw [HU.out] at cu
                  by_cases hkl : k < i
                  · have hklI : (k : Int) < i := by omega
                    have hklI2 : (k : Int) < lens := by omega
                    have hkw : k < tk.length := by omega
                    have cv := RS4.out.ints.cell (i := k) hkw
                    have HT := Lib.hid (take_contains tk k hkw u)
                    obtain ⟨v, hv'⟩ : ∃ v, tk[k] = v := ⟨_, rfl⟩
                    rw [hv'] at cv HT
                    clear hv' hkw
                    by_cases huv : u = v
                    · have huvb : (u == v) = true := by simpa using huv
                      have HND : Hid (¬ tk.Nodup) := Lib.hid fun hn => by
                        have h0 := hasI_false.2 (fun q => by
                          obtain ⟨m, hm, e⟩ := List.mem_take_iff_getElem.1 q
                          exact List.pairwise_iff_getElem.1 hn m i (by omega) hlw (by omega) e : tk[i] ∉ tk.take i)
                        rw [HU.out] at h0
                        have h1 : hasI (tk.take (k + 1)) u = true := by rw [HT.out, huvb, Bool.or_true]
                        have h2 : (tk.take i).take (k + 1) = tk.take (k + 1) := by rw [List.take_take, Nat.min_eq_left (by omega)]
                        rw [← h2] at h1
                        rw [contains_take h1] at h0
                        cases h0
                      clear huv
                      go_wp2_with fail
                      go_quiet (fail)
                      go_wp2
                      go_ret2
                      rw [HU4.out, codeD_dup HE0.out HND.out]
                      exact ⟨.inl ⟨by decide, rfl⟩, F4.out.trans ((Fr.refl _ _).drewN _)⟩
                    · have huvb : (u == v) = false := by simpa using huv
                      have HTN : Hid (hasI (tk.take (k + 1)) u = false) := by show _ = _; rw [HT.out, G4.out, huvb]; rfl
                      clear HT huv
                      go_wp2_with fail
                      go_quiet (fail)
                      have F5 := Lib.hid (F4.out.trans ((Fr.refl _ wr).drewN nq))
                      have R5 := Lib.hid (RS4.out.tt ((Fr.refl _ wr).drewN nq))
                      have D5 := Lib.hid (D4.out.tt ((Fr.refl _ wr).drewN nq))
                      go_wp2
                      go_roundw
                      case rel => exact ⟨k + 1, hkl, by go_num, D5.out, R5.out, F5.out, HTN.out⟩
                      case measure => simp [intOf]; omega
                  · have hki : k = i := by omega
                    have hkgI : (i : Int) ≤ k := by omega
                    rw [hki] at G4
                    clear hki cu
                    go_wp2
                    go_roundw
                    case rel =>
                      refine ⟨i + 1, hil3, by go_num, D4.out, RS4.out, F4.out, fun j hj hji => ?_⟩
                      by_cases e : j = i
                      · subst e; rw [HU.out]; exact G4.out
                      · exact G3.out j hj (by omega)
                    case measure => simp [intOf]; omega
              · have hge3 : (lens : Int) ≤ i := by omega
                have HN : Hid tk.Nodup := Lib.hid (nodup_seen fun j hj => G3.out j hj (by omega))
                clear G3
                go_wp2
                go_ret2
                rw [HU4.out]
                refine ⟨.inr ⟨codeD_ok HE0.out GF.out HN.out, bt, hv, wv, rfl, ?_⟩, F3.out⟩
                exact D3.out
      · have hE2 : (E != 0) = true := by simpa using hE0
        have HEN : Hid (endL p.1 p.2 ≠ 0) := Lib.hid (fun x => hE0 (HE.out.symm.trans x))
        clear hE0
        go_wp2
        go_ret2
        rw [HU4.out, codeD_end (u := ⟨p, ok, tk, L⟩) HEN.out]
        refine ⟨.inl ⟨HEN.out, ?_⟩, FW.out⟩
        show _ = Ending.returned (.tuple #[.pointer none, .int .i64 (endL p.1 p.2)])
        rw [HE.out]
        rfl
end Go.Proofs.YtlolfcnfcgegdaaGreat
/- What is unpacked is packed so (printed by unpl20.py out of XUnpL). -/
namespace Go.Proofs.YtlolfcnfcgegdaaGreat
open Go.RowKit
set_option linter.unusedVariables false
set_option linter.unusedSimpArgs false

theorem le_ofLE : ∀ l : List UInt8, le (ofLE l) l.length = l
  | [] => rfl
  | c :: l => by
    have ih := le_ofLE l
    have hc := c.toNat_lt
    show le (ofLE (c :: l)) (l.length + 1) = c :: l
    have e : ofLE (c :: l) = c.toNat + 256 * ofLE l := rfl
    rw [e]
    show UInt8.ofNat (c.toNat + 256 * ofLE l) :: le ((c.toNat + 256 * ofLE l) / 256) l.length = c :: l
    rw [show (c.toNat + 256 * ofLE l) / 256 = ofLE l by omega, ih]
    congr 1
    apply UInt8.toNat_inj.1
    rw [UInt8.toNat_ofNat']
    omega
theorem numR_open {bs : List UInt8} {sh : Bool} {n x : Nat} {r : List UInt8} (h : numR bs sh n = (x, r, false)) : sh = false ∧ bs = le x n ++ r := by
  unfold numR at h
  split at h
  · cases h
  next q =>
    have hn : n ≤ bs.length := by omega
    obtain ⟨h1, h2⟩ := Prod.mk.inj h
    obtain ⟨h3, _⟩ := Prod.mk.inj h2
    refine ⟨by cases sh <;> simp_all, ?_⟩
    have e := le_ofLE (bs.take n)
    rw [List.length_take, Nat.min_eq_left hn, h1] at e
    rw [e, ← h3, List.take_append_drop]
theorem bytR_open {bs : List UInt8} {sh : Bool} {x r : List UInt8} (h : bytR bs sh = (x, r, false)) : sh = false ∧ bs = byt x ++ r := by
  obtain ⟨n, q, s, hn⟩ : ∃ n q s, numR bs sh 2 = (n, q, s) := ⟨_, _, _, rfl⟩
  unfold bytR at h
  rw [hn] at h
  simp only at h
  split at h
  · cases h
  next hq =>
    obtain ⟨h1, h2⟩ := Prod.mk.inj h
    obtain ⟨h3, _⟩ := Prod.mk.inj h2
    have hs : s = false := by cases s <;> simp_all
    subst hs
    obtain ⟨a, b⟩ := numR_open hn
    refine ⟨a, ?_⟩
    have hl : x.length = n := by rw [← h1, List.length_take]; omega
    have ht : x.take 1000 = x := List.take_of_length_le (by omega)
    unfold byt
    rw [ht, hl, b, List.append_assoc, ← h1, ← h3, List.take_append_drop]
theorem numR_num {bs : List UInt8} {sh : Bool} {n x : Nat} {r : List UInt8} {s : Bool} (h : numR bs sh n = (x, r, s)) (hs : s = true) : r = [] := by
  have := numR_shut (bs := bs) (sh := sh) (n := n) (by rw [h]; exact hs)
  rw [h] at this; exact this.2
theorem uStep_open (s : US) (h : (uStep s).sh = false) : s.sh = false ∧ ∃ x, (uStep s).L = s.L ++ [x] ∧ s.bs = entB x ++ (uStep s).bs := by
  obtain ⟨c, r1, s1, h1⟩ : ∃ c r1 s1, numR s.bs s.sh 1 = (c, r1, s1) := ⟨_, _, _, rfl⟩
  obtain ⟨sq, r2, s2, h2⟩ : ∃ sq r2 s2, numR r1 s1 4 = (sq, r2, s2) := ⟨_, _, _, rfl⟩
  obtain ⟨bb, r3, s3, h3⟩ : ∃ bb r3 s3, bytR r2 s2 = (bb, r3, s3) := ⟨_, _, _, rfl⟩
  rw [uStep_eq s h1 h2 h3] at h ⊢
  have h : s3 = false := h
  subst h
  obtain ⟨e3, b3⟩ := bytR_open h3
  subst e3
  obtain ⟨e2, b2⟩ := numR_open h2
  subst e2
  obtain ⟨e1, b1⟩ := numR_open h1
  refine ⟨e1, _, rfl, ?_⟩
  rw [b1, b2, b3]
  unfold entB
  simp
theorem uRun_open (s : US) (hL : s.L = []) : ∀ k, (uRun s k).sh = false → s.sh = false ∧ (uRun s k).L.length = k ∧ s.bs = ((uRun s k).L.map entB).flatten ++ (uRun s k).bs
  | 0, h => ⟨h, by show s.L.length = 0; rw [hL]; rfl, by show s.bs = (s.L.map entB).flatten ++ s.bs; rw [hL]; rfl⟩
  | k + 1, h => by
    obtain ⟨h1, x, hx, hb⟩ := uStep_open (uRun s k) h
    obtain ⟨a, b, c⟩ := uRun_open s hL k h1
    refine ⟨a, ?_, ?_⟩
    · show (uStep (uRun s k)).L.length = k + 1
      rw [hx, List.length_append, b]; rfl
    · show s.bs = ((uStep (uRun s k)).L.map entB).flatten ++ (uStep (uRun s k)).bs
      rw [hx, List.map_append, List.flatten_append, c, hb]
      simp
/-- While nothing is wrong, clients go up. -/
theorem uRun_up (s : US) (hL : s.L = []) (hl : s.last = -1) (hw : s.wrong = false) : ∀ k, (uRun s k).wrong = false → ((uRun s k).L.map (·.1)).Pairwise (· < ·) ∧ (∀ x ∈ (uRun s k).L, 0 ≤ x.1 ∧ x.1 ≤ 15 ∧ x.1 ≤ (uRun s k).last) ∧ -1 ≤ (uRun s k).last
  | 0, _ => by
    show (s.L.map (·.1)).Pairwise (· < ·) ∧ (∀ x ∈ s.L, _ ∧ _ ∧ x.1 ≤ s.last) ∧ -1 ≤ s.last
    rw [hL, hl]
    exact ⟨List.Pairwise.nil, (fun x hx => by cases hx), by omega⟩
  | k + 1, h => by
    have h : (uStep (uRun s k)).wrong = false := h
    unfold uStep at h
    simp only [Bool.or_eq_false_iff, decide_eq_false_iff_not] at h
    obtain ⟨h0, h1, h2, h3⟩ := h
    obtain ⟨a, b, c⟩ := uRun_up s hL hl hw k h0
    show ((uStep (uRun s k)).L.map (·.1)).Pairwise (· < ·) ∧ (∀ x ∈ (uStep (uRun s k)).L, _ ∧ _ ∧ x.1 ≤ (uStep (uRun s k)).last) ∧ -1 ≤ (uStep (uRun s k)).last
    unfold uStep
    simp only
    refine ⟨?_, fun x hx => ?_, by omega⟩
    · rw [List.map_append, List.pairwise_append]
      refine ⟨a, by simp, fun x hx y hy => ?_⟩
      obtain ⟨z, hz, rfl⟩ := List.mem_map.1 hx
      have hy : y = (uC (uRun s k) : Int) := by simpa using hy
      have := (b z hz).2.2
      omega
    · rcases List.mem_append.1 hx with hx | hx
      · have := b x hx; exact ⟨this.1, this.2.1, by omega⟩
      · rw [List.mem_singleton.1 hx]; exact ⟨by omega, by show ((uC (uRun s k) : Nat) : Int) ≤ 15; omega, Int.le_refl _⟩
theorem unp_ok {bs : List UInt8} {M : MT} (h : unpM bs = (0, M)) : packL M = bs ∧ Up M ∧ M.length ≤ 6 := by
  unfold unpM at h
  split at h
  · cases h
  next hq =>
    split at h
    next h0 =>
      obtain ⟨_, rfl⟩ := Prod.mk.inj h
      have hw : (uEnd bs).wrong = false := by cases q : (uEnd bs).wrong <;> simp_all
      have h6 : (numR bs false 1).1 ≤ 6 := by
        have : ¬ 6 < (numR bs false 1).1 := fun q => hq ⟨h0, .inr q⟩
        omega
      have hsh : (uEnd bs).sh = false ∧ (uEnd bs).bs = [] := by
        unfold endL at h0
        cases q : (uEnd bs).sh with
        | true => rw [q] at h0; simp at h0
        | false =>
          rw [q] at h0
          simp only [Bool.false_eq_true, ↓reduceIte] at h0
          refine ⟨rfl, List.length_eq_zero_iff.1 ?_⟩
          split at h0
          · cases h0
          · omega
      obtain ⟨a, b, c⟩ := uRun_open (uFirst bs) rfl _ hsh.1
      obtain ⟨u1, u2, _⟩ := uRun_up (uFirst bs) rfl rfl rfl _ hw
      have hL : uRun (uFirst bs) (numR bs false 1).1 = uEnd bs := rfl
      rw [hL] at b c u1 u2
      refine ⟨?_, ⟨u1, fun x hx => ⟨(u2 x hx).1, (u2 x hx).2.1⟩⟩, by omega⟩
      obtain ⟨n, q, s, hn⟩ : ∃ n q s, numR bs false 1 = (n, q, s) := ⟨_, _, _, rfl⟩
      have e1 : uFirst bs = ⟨q, s, -1, false, []⟩ := by unfold uFirst; rw [hn]
      rw [e1] at a c
      have a : s = false := a
      subst a
      have hb := (numR_open hn).2
      have c : q = ((uEnd bs).L.map entB).flatten ++ (uEnd bs).bs := c
      rw [hsh.2, List.append_nil] at c
      unfold packL
      rw [b, hn, ← c, ← hb]
    · obtain ⟨e, _⟩ := Prod.mk.inj h
      contradiction
end Go.Proofs.YtlolfcnfcgegdaaGreat
