/- Texts of the proofs, part 18: what the functions that they reach do, walked; no conditions beyond those that each states. -/
import Derived.Test.YtlolfcnfcgegdaaGreatZz9c6bad7bf2
set_option linter.unusedVariables false
set_option linter.unusedSimpArgs false
/- slices.Clone of holds and of wants. -/
namespace Go.Proofs.YtlolfcnfcgegdaaGreat
open Go.RowKit
set_option linter.unusedVariables false
set_option linter.unusedSimpArgs false

theorem flat_of {α : Type} {enc : α → List Value} {k : Nat} (hk : ∀ x, (enc x).length = k) (h0 : 0 < k) (xs : List α) (j : Nat) (u : Value) (h : (xs.flatMap enc)[j]? = some u) : ∃ (hi : j / k < xs.length), (enc xs[j / k])[j % k]? = some u := by
  obtain ⟨hj, _⟩ := List.getElem?_eq_some_iff.1 h
  rw [flat_length hk] at hj
  have hi : j / k < xs.length := (Nat.div_lt_iff_lt_mul h0).2 hj
  refine ⟨hi, ?_⟩
  have ht : j % k < (enc xs[j / k]).length := by rw [hk]; exact Nat.mod_lt _ h0
  have hg := flat_get hk xs (j / k) hi (j % k) _ (List.getElem?_eq_getElem ht)
  rw [Nat.mul_comm, Nat.div_add_mod, h] at hg
  rw [List.getElem?_eq_getElem ht, ← hg]
theorem RowsAt.src {α : Type} {enc : α → List Value} {k : Nat} {K : Nat → Obj → Prop} {w : World} {ad : Addr} {n c : Nat} {xs : List α} (hk : ∀ x, (enc x).length = k) (h0 : 0 < k) (h1 : ∀ x, ∀ u ∈ enc x, u.oneCell' = true) (h : RowsAt K w (.slice (some ad) n c) k enc xs) : SrcAt w k (.slice (some ad) n c) n (xs.flatMap enc) := by
  have hn : n = xs.length := by
    obtain ⟨a, c, e, _⟩ := h.form
    cases e; rfl
  subst hn
  refine .inr ⟨ad, c, rfl, flat_length hk xs, fun j u hu => ?_, fun u hu => ?_⟩
  · obtain ⟨hi, ht⟩ := flat_of hk h0 xs j u hu
    obtain ⟨b, off, o, e, _, _, hc⟩ := h.spot (Nat.lt_of_le_of_lt (Nat.zero_le _) hi)
    cases e
    have := hc _ hi _ _ ht
    rw [Nat.add_assoc, Nat.mul_comm, Nat.div_add_mod] at this
    unfold Addr.add
    split
    · subst j; exact this
    · exact this
  · obtain ⟨x, _, hx⟩ := List.mem_flatMap.1 hu
    exact h1 x u hx
theorem src_tt {w w' : World} {size m : Nat} {x : Value} {xs : List Value} (h : SrcAt w size x m xs) (hf : Fr (fun _ _ => True) w w') : SrcAt w' size x m xs := by
  rcases h with h | ⟨ad, c, h1, h2, h3, h4⟩
  · exact .inl h
  · exact .inr ⟨ad, c, h1, h2, fun j u hu => hf.cell (fun _ _ => trivial) (h3 j u hu), h4⟩
theorem zero_ho_size : (Value.agg #[.int .i64 0, .int .i64 0, .int .u64 0, .int .u64 0]).cells.size = 4 := by kernel_rfl
set_option maxRecDepth 100000 in
theorem clone_ho_some (w : World) (ad : Addr) (n cap : Nat) (xs : List Value) (h : SrcAt w 4 (.slice (some ad) n cap) n xs) (hm : n ≤ 1000000) :
    Calls Tryz.prog 92 #[.slice (some ad) n cap] w fun e w' => (∃ v, e = .returned v ∧ w'.ownsRow w.heap.size 112 4 v n xs) ∧ Fr (fun _ _ => True) w w' := by
  have hq := fun (w : World) (a : Option Addr) (n c n' c' : Nat) => Lib.run_eql_slice_nil (P := Tryz.prog) w 60 112 a n c n' c' Tryz.underlying60
  obtain ⟨i0, hi, hz0, hz1, hz2⟩ := info_parts info_ho
  have hown : (w.alloc (.cells #[] 112)).ownsRow w.heap.size 112 4 (.slice (some ⟨w.heap.size, 0, none⟩) 0 0) 0 [] := World.ownsRow_lit w #[] 0 (Nat.le_refl _) (by simp) rfl
  have hsrc := Lib.hid (src_tt h ((Fr.refl _ _).alloc (.cells #[] 112)))
  clear h
  go_enter Tryz.func92, Tryz.ntmps92
  go_wp2_with (at_builtin; refine wpList_append_src _ rfl _ _ 60 rfl w.heap.size 112 i0 (.agg #[.int .i64 0, .int .i64 0, .int .u64 0, .int .u64 0]) 4 32 Tryz.underlying60 hi hz0 hz1 hz2 zero_ho_size (by decide) _ 0 [] rfl hown _ n xs rfl hsrc.out ?c2 ?c3 ?c4 ?_)
  case c2 => unfold maxLen; omega
  case c3 => omega
  case c4 => simp
  intro v w1 hown1 hg hnil
  go_wp2
  go_ret
  exact ⟨⟨v, rfl, by simpa using hown1⟩, (Fr.alloc (Fr.refl _ _) _).grown_new hg fun k e => by simp [Value.ownBlock] at e; omega⟩
set_option maxRecDepth 100000 in
theorem clone_ho_nil (w : World) (n c : Nat) : Calls Tryz.prog 92 #[.slice none n c] w fun e w' => e = .returned (.slice none 0 0) ∧ w = w' := by
  have hq := fun (w : World) (a : Option Addr) (n c n' c' : Nat) => Lib.run_eql_slice_nil (P := Tryz.prog) w 60 112 a n c n' c' Tryz.underlying60
  go_enter Tryz.func92, Tryz.ntmps92
  go_wp2
  go_ret
  exact ⟨rfl, rfl⟩
theorem clone_ho {K : Nat → Obj → Prop} (w : World) (v : Value) (xs : List Ho) (h : RowsAt K w v 4 encH xs) (hm : xs.length ≤ 1000000) :
    Calls Tryz.prog 92 #[v] w fun e w' => (∃ v, e = .returned v ∧ w'.ownsRow w.heap.size 112 4 v xs.length (xs.flatMap encH)) ∧ Fr (fun _ _ => True) w w' := by
  obtain ⟨a, c, rfl, _⟩ := h.form
  cases a with
  | none =>
    have e : xs = [] := by
      rcases Nat.eq_zero_or_pos xs.length with q | q
      · exact List.length_eq_zero_iff.1 q
      · obtain ⟨b, off, o, e, _⟩ := h.spot q
        cases e
    subst e
    exact (clone_ho_nil w _ _).mono fun e w' ⟨he, hw⟩ => ⟨⟨_, he, rfl, .inl ⟨rfl, rfl⟩⟩, hw ▸ Fr.refl _ _⟩
  | some ad => exact clone_ho_some w ad _ c _ (h.src encH_len (by decide) encH_one) hm
theorem zero_wa_size : (Value.agg #[.int .i64 0, .int .i64 0]).cells.size = 2 := by kernel_rfl
set_option maxRecDepth 100000 in
theorem clone_wa_some (w : World) (ad : Addr) (n cap : Nat) (xs : List Value) (h : SrcAt w 2 (.slice (some ad) n cap) n xs) (hm : n ≤ 1000000) :
    Calls Tryz.prog 99 #[.slice (some ad) n cap] w fun e w' => (∃ v, e = .returned v ∧ w'.ownsRow w.heap.size 114 2 v n xs) ∧ Fr (fun _ _ => True) w w' := by
  have hq := fun (w : World) (a : Option Addr) (n c n' c' : Nat) => Lib.run_eql_slice_nil (P := Tryz.prog) w 61 114 a n c n' c' Tryz.underlying61
  obtain ⟨i0, hi, hz0, hz1, hz2⟩ := info_parts info_wa
  have hown : (w.alloc (.cells #[] 114)).ownsRow w.heap.size 114 2 (.slice (some ⟨w.heap.size, 0, none⟩) 0 0) 0 [] := World.ownsRow_lit w #[] 0 (Nat.le_refl _) (by simp) rfl
  have hsrc := Lib.hid (src_tt h ((Fr.refl _ _).alloc (.cells #[] 114)))
  clear h
  go_enter Tryz.func99, Tryz.ntmps99
  go_wp2_with (at_builtin; refine wpList_append_src _ rfl _ _ 61 rfl w.heap.size 114 i0 (.agg #[.int .i64 0, .int .i64 0]) 2 16 Tryz.underlying61 hi hz0 hz1 hz2 zero_wa_size (by decide) _ 0 [] rfl hown _ n xs rfl hsrc.out ?c2 ?c3 ?c4 ?_)
  case c2 => unfold maxLen; omega
  case c3 => omega
  case c4 => simp
  intro v w1 hown1 hg hnil
  go_wp2
  go_ret
  exact ⟨⟨v, rfl, by simpa using hown1⟩, (Fr.alloc (Fr.refl _ _) _).grown_new hg fun k e => by simp [Value.ownBlock] at e; omega⟩
set_option maxRecDepth 100000 in
theorem clone_wa_nil (w : World) (n c : Nat) : Calls Tryz.prog 99 #[.slice none n c] w fun e w' => e = .returned (.slice none 0 0) ∧ w = w' := by
  have hq := fun (w : World) (a : Option Addr) (n c n' c' : Nat) => Lib.run_eql_slice_nil (P := Tryz.prog) w 61 114 a n c n' c' Tryz.underlying61
  go_enter Tryz.func99, Tryz.ntmps99
  go_wp2
  go_ret
  exact ⟨rfl, rfl⟩
theorem clone_wa {K : Nat → Obj → Prop} (w : World) (v : Value) (xs : List Wa) (h : RowsAt K w v 2 encW xs) (hm : xs.length ≤ 1000000) :
    Calls Tryz.prog 99 #[v] w fun e w' => (∃ v, e = .returned v ∧ w'.ownsRow w.heap.size 114 2 v xs.length (xs.flatMap encW)) ∧ Fr (fun _ _ => True) w w' := by
  obtain ⟨a, c, rfl, _⟩ := h.form
  cases a with
  | none =>
    have e : xs = [] := by
      rcases Nat.eq_zero_or_pos xs.length with q | q
      · exact List.length_eq_zero_iff.1 q
      · obtain ⟨b, off, o, e, _⟩ := h.spot q
        cases e
    subst e
    exact (clone_wa_nil w _ _).mono fun e w' ⟨he, hw⟩ => ⟨⟨_, he, rfl, .inl ⟨rfl, rfl⟩⟩, hw ▸ Fr.refl _ _⟩
  | some ad => exact clone_wa_some w ad _ c _ (h.src encW_len (by decide) encW_one) hm
end Go.Proofs.YtlolfcnfcgegdaaGreat
/- The locks' table: Cancel; Holders, Queue, Now. -/
namespace Go.Proofs.YtlolfcnfcgegdaaGreat
open Go.RowKit
set_option linter.unusedVariables false
set_option linter.unusedSimpArgs false

theorem idxW_wI (ws : List Wa) (c : Nat) : idxW (fun h => decide (h.c = c)) ws = match wI ws c with | some i => ((i : Nat) : Int) | none => -1 := rfl
theorem own_above {w : World} {B : Nat} {t : TypeId} {k : Nat} {v : Value} {n : Nat} {xs : List Value} (h : w.ownsRow B t k v n xs) {c : Nat} (e : v.ownBlock = some c) : B ≤ c := by
  rcases h.2 with ⟨rfl, _⟩ | ⟨g, cap, cur, rfl, hB, _⟩
  · cases e
  · cases e; exact hB
set_option maxRecDepth 100000 in
theorem cancel_bad (w : World) (bt c r : Nat) (h : rightM c r ≠ 0) : Calls Tryz.prog 67 #[.pointer (some ⟨bt, 0, none⟩), .int .i64 (c : Nat), .int .i64 (r : Nat)] w fun e w' => e = .returned (.int .i64 (rightM c r : Nat)) ∧ w = w' := by
  have R := Lib.hid (right_calls w c r)
  generalize rightM c r = q at *
  have hq : ((q : Int) != 0) = true := by simp; omega
  clear h
  go_enter Tryz.func67, Tryz.ntmps67
  go_wp2_with fail
  (with_reducible refine R.out.mono ?_)
  rintro e w1 ⟨rfl, rfl⟩
  go_wp2
  go_ret
  exact ⟨rfl, rfl⟩
set_option maxRecDepth 100000 in
theorem cancel_none {n : Nat} {P : Nat → Prop} {hv wv : Nat → Value} (w : World) (bt c r : Nat) (L : Lk) (h : LT n P w bt hv wv L) (hr : rightM c r = 0) (hi : wI (L.rg r).ws c = none) :
    Calls Tryz.prog 67 #[.pointer (some ⟨bt, 0, none⟩), .int .i64 (c : Nat), .int .i64 (r : Nat)] w fun e w' => e = .returned (.int .i64 41) ∧ Fr (fun _ _ => True) w w' := by
  have R := Lib.hid (right_calls w c r)
  obtain ⟨_, hr4⟩ := rightM_r hr
  have hb : decide ((r : Int) < 4) = true := by simp; omega
  rw [hr] at R
  have e0 : w.cell? ⟨bt, 2 + r * 2 + 1, none⟩ = some (wv r) := (h.cells w (Fr.refl _ _)).2.2 r hr4 |>.2
  have hl : (L.rg r).ws.length ≤ 1000000 := by have := (h.ok.rg r).w4; omega
  have HC := Lib.hid (want_calls w bt (2 + r * 2) _ (L.rg r).ws c e0 (h.wr r hr4) hl)
  rw [idxW_wI, hi] at HC
  clear h hr hi hl
  go_enter Tryz.func67, Tryz.ntmps67
  go_wp2_with fail
  (with_reducible refine R.out.mono ?_)
  rintro e w1 ⟨rfl, rfl⟩
  go_wp2_with fail
  (with_reducible refine HC.out.mono ?_)
  rintro e w1 ⟨rfl, f1⟩
  have F1 := Lib.hid f1
  clear f1 HC R
  go_wp2
  go_ret
  exact ⟨rfl, F1.out⟩
set_option maxRecDepth 100000 in
set_option maxHeartbeats 1000000 in
theorem cancel_good {n : Nat} {P : Nat → Prop} {hv wv : Nat → Value} (w : World) (bt c r k : Nat) (L : Lk) (h : LT n P w bt hv wv L) (hn : n ≤ w.heap.size) (hr : rightM c r = 0) (hi : wI (L.rg r).ws c = some k) :
    Calls Tryz.prog 67 #[.pointer (some ⟨bt, 0, none⟩), .int .i64 (c : Nat), .int .i64 (r : Nat)] w fun e w' => e = .returned (.int .i64 0) ∧ ∃ P', LTE n P' w' bt ((L.put r ⟨(L.rg r).hs, (L.rg r).ws.eraseIdx k⟩).give r) ∧ Kp P P' w w' := by
  have R := Lib.hid (right_calls w c r)
  obtain ⟨_, hr4⟩ := rightM_r hr
  have hk : k < (L.rg r).ws.length := (wI_some hi).1
  have hb : decide ((r : Int) < 4) = true := by simp; omega
  rw [hr] at R
  have e0 : w.cell? ⟨bt, 2 + r * 2 + 1, none⟩ = some (wv r) := (h.cells w (Fr.refl _ _)).2.2 r hr4 |>.2
  have h4 := (h.ok.rg r).w4
  have HC := Lib.hid (want_calls w bt (2 + r * 2) _ (L.rg r).ws c e0 (h.wr r hr4) (by omega))
  rw [idxW_wI, hi] at HC
  have HT := Lib.hid h
  have HK := Lib.hid hk
  have HN := Lib.hid hn
  have hkn : decide ((k : Int) < 0) = false := by simp
  have hk1 : IntKind.i64.wrap ((k : Int) + 1) = (k : Int) + 1 := by rw [IntKind.wrap_i64]; omega
  have H4 := Lib.hid h4
  clear h hi hr hk hn h4
  go_enter Tryz.func67, Tryz.ntmps67
  go_wp2_with fail
  (with_reducible refine R.out.mono ?_)
  rintro e w1 ⟨rfl, rfl⟩
  go_wp2_with fail
  (with_reducible refine HC.out.mono ?_)
  rintro e w1 ⟨rfl, f1⟩
  have F1 := Lib.hid f1
  have T1 := Lib.hid (HT.out.tt f1)
  have e1 : w1.cell? ⟨bt, 2 + r * 2 + 1, none⟩ = some (wv r) := (T1.out.cells w1 (Fr.refl _ _)).2.2 r hr4 |>.2
  have CL := Lib.hid (clone_wa w1 (wv r) (L.rg r).ws (T1.out.wr r hr4) (by have := H4.out; omega))
  clear f1 HC R
  go_wp2_with fail
  (with_reducible refine CL.out.mono ?_)
  rintro e w2 ⟨⟨v2, rfl, o2⟩, f2⟩
  have F2 := Lib.hid f2
  have O2 := Lib.hid o2
  obtain ⟨a2, c2, rfl⟩ := own_form o2
  have HX := Lib.hid (del_wa_any w2 _ _ (L.rg r).ws.length k (k + 1) k (k + 1) rfl rfl _ o2 (fun u hu => by
    obtain ⟨x, _, hx⟩ := List.mem_flatMap.1 hu
    exact encW_one x u hx) (by omega) (by have := HK.out; omega) (by have := H4.out; omega))
  rw [flat_erase encW_len, len_erase _ HK.out] at HX
  clear f2 o2 CL
  go_wp2_with fail
  (with_reducible refine HX.out.mono ?_)
  rintro e w3 ⟨⟨v3, rfl, o3, b3⟩, f3⟩
  obtain ⟨a3, c3, rfl⟩ := own_form o3
  have F3 : Fr (fun _ _ => True) w1 w3 := Fr.within (((F2.out.mono fun _ _ _ => trivial).trans (f3.mono fun c _ hc => hc)).mono fun c _ hc q => by have := own_above O2.out q; omega)
  have T3 := T1.out.tt F3
  have hsz : n ≤ w3.heap.size := Nat.le_trans HN.out (Nat.le_trans F1.out.size F3.size)
  have e3 : w3.cell? ⟨bt, 2 + r * 2 + 1, none⟩ = some (wv r) := (T3.cells w3 (Fr.refl _ _)).2.2 r hr4 |>.2
  have z3 := T3.free w3 (Fr.refl _ _) (2 + r * 2 + 1)
  have T4 := T3.setW hr4 _ ((L.rg r).ws.eraseIdx k) (RowsAt.of_own encW_len o3 fun c cs hc => ⟨fun hp => by
    have := own_above o3 hc
    have := T1.out.hi c hp
    omega, cs, _, rfl⟩) ((T3.ok.rg r).sub (List.Sublist.refl _) (List.eraseIdx_sublist _ _))
  have KA : Hid (Kp P P w (w3.setCell ⟨bt, 2 + r * 2 + 1, none⟩ (.slice a3 ((L.rg r).ws.eraseIdx k).length c3))) := by
    show Kp _ _ _ _
    have fa : Fr (fun c _ => ¬ P c) w w3 := (F1.out.trans F3).mono fun _ _ _ => trivial
    exact ⟨fa.setCell (fun _ _ hp => hp T3.pt) _, fun _ _ h => h⟩
  have GC := Lib.hid (give_calls (n := n) _ bt r _ ⟨_, _, T4⟩ hr4 (by rw [size_setCell']; exact hsz))
  clear f3 o3 b3 T3 T4 HX F3
  go_wp2_with fail
  (with_reducible refine GC.out.mono ?_)
  rintro e w4 ⟨rfl, P4, T4, K4⟩
  have HP := Lib.hid T4
  have HQ := Lib.hid K4
  clear T4 K4 GC
  go_wp2
  go_ret
  exact ⟨rfl, P4, HP.out, KA.out.trans HQ.out⟩
theorem cancel_calls {n : Nat} {P : Nat → Prop} (w : World) (bt c r : Nat) (L : Lk) (h : LTE n P w bt L) (hn : n ≤ w.heap.size) :
    Calls Tryz.prog 67 #[.pointer (some ⟨bt, 0, none⟩), .int .i64 (c : Nat), .int .i64 (r : Nat)] w fun e w' => e = .returned (.int .i64 ((cancelM L c r).1 : Nat)) ∧ ∃ P', LTE n P' w' bt (cancelM L c r).2 ∧ Kp P P' w w' := by
  obtain ⟨hv, wv, h⟩ := h
  by_cases hr : rightM c r = 0
  · cases hi : wI (L.rg r).ws c with
    | none =>
      have e : cancelM L c r = (41, L) := by unfold cancelM; rw [if_neg (fun q => q hr), hi]
      rw [e]
      exact (cancel_none w bt c r L h hr hi).mono fun e w' ⟨h1, h2⟩ => ⟨h1, P, ⟨hv, wv, h.tt h2⟩, Kp.rfl' _ h2⟩
    | some k =>
      have e : cancelM L c r = (0, (L.put r ⟨(L.rg r).hs, (L.rg r).ws.eraseIdx k⟩).give r) := by unfold cancelM; rw [if_neg (fun q => q hr), hi]
      rw [e]
      exact cancel_good w bt c r k L h hn hr hi
  · have e : cancelM L c r = (rightM c r, L) := by unfold cancelM; rw [if_pos hr]
    rw [e]
    exact (cancel_bad w bt c r hr).mono fun e w' ⟨h1, h2⟩ => ⟨h1, P, ⟨hv, wv, h2 ▸ h⟩, h2 ▸ Kp.refl _ _⟩
set_option maxRecDepth 100000 in
theorem now_calls {n : Nat} {P : Nat → Prop} (w : World) (bt : Nat) (L : Lk) (h : LTE n P w bt L) : Calls Tryz.prog 27 #[.pointer (some ⟨bt, 0, none⟩)] w fun e w' => e = .returned (.int .u64 (L.now : Nat)) ∧ w = w' := by
  obtain ⟨hv, wv, h⟩ := h
  have e0 := (h.cells w (Fr.refl _ _)).1
  clear h
  go_enter Tryz.func27, Tryz.ntmps27
  go_wp2
  go_ret
  exact ⟨rfl, rfl⟩
end Go.Proofs.YtlolfcnfcgegdaaGreat
/- The locks' table: Holders, Queue. -/
namespace Go.Proofs.YtlolfcnfcgegdaaGreat
open Go.RowKit
set_option linter.unusedVariables false
set_option linter.unusedSimpArgs false

set_option maxRecDepth 100000 in
theorem holders_calls {n : Nat} {P : Nat → Prop} (w : World) (bt r : Nat) (L : Lk) (h : LTE n P w bt L) (hr : r < 4) :
    Calls Tryz.prog 65 #[.pointer (some ⟨bt, 0, none⟩), .int .i64 (r : Nat)] w fun e w' => (∃ v, e = .returned v ∧ w'.ownsRow w.heap.size 112 4 v (L.rg r).hs.length ((L.rg r).hs.flatMap encH)) ∧ Fr (fun _ _ => True) w w' := by
  obtain ⟨hv, wv, h⟩ := h
  have R := Lib.hid (there_yes w r hr)
  have hb : (r : Int) < 4 := by omega
  have e0 : w.cell? ⟨bt, 2 + r * 2, none⟩ = some (hv r) := (h.cells w (Fr.refl _ _)).2.2 r hr |>.1
  have HC := Lib.hid (clone_ho w (hv r) (L.rg r).hs (h.hat hr) (by have := (h.ok.rg r).h4; omega))
  obtain ⟨a, c, ev, _⟩ := (h.hat hr).form
  rw [ev] at e0 HC
  clear h hr ev
  go_enter Tryz.func65, Tryz.ntmps65
  go_wp2_with fail
  (with_reducible refine R.out.mono ?_)
  rintro e w1 ⟨rfl, rfl⟩
  go_wp2_with fail
  (with_reducible refine HC.out.mono ?_)
  rintro e w1 ⟨⟨v, rfl, o1⟩, f1⟩
  have O1 := Lib.hid o1
  have F1 := Lib.hid f1
  clear f1 o1 HC R
  go_wp2
  go_ret
  exact ⟨⟨_, rfl, O1.out⟩, F1.out⟩
set_option maxRecDepth 100000 in
theorem holders_none (w : World) (bt r : Nat) (hr : ¬ r < 4) :
    Calls Tryz.prog 65 #[.pointer (some ⟨bt, 0, none⟩), .int .i64 (r : Nat)] w fun e w' => e = .returned (.slice none 0 0) ∧ w = w' := by
  have R := Lib.hid (there_no w r hr)
  clear hr
  go_enter Tryz.func65, Tryz.ntmps65
  go_wp2_with fail
  (with_reducible refine R.out.mono ?_)
  rintro e w1 ⟨rfl, rfl⟩
  go_wp2
  go_ret
  exact ⟨rfl, rfl⟩
end Go.Proofs.YtlolfcnfcgegdaaGreat
/- The locks' bytes, plainly. -/
namespace Go.Proofs.YtlolfcnfcgegdaaGreat
open Go.RowKit
set_option linter.unusedVariables false
set_option linter.unusedSimpArgs false

def hoB (h : Ho) : List UInt8 := le h.c 1 ++ (le h.m 1 ++ (le h.t 8 ++ le h.u 8))
def waB (x : Wa) : List UInt8 := le x.c 1 ++ le x.m 1
def rgB (r : Rgn) : List UInt8 := le r.hs.length 1 ++ (r.hs.flatMap hoB ++ (le r.ws.length 1 ++ r.ws.flatMap waB))
/-- The bytes of the first k regions. -/
def lkK (L : Lk) : Nat → List UInt8
  | 0 => le L.now 8 ++ le L.last 8
  | k + 1 => lkK L k ++ rgB (L.rg k)
def lkB (L : Lk) : List UInt8 := lkK L 4
theorem hoB_len (h : Ho) : (hoB h).length = 18 := by unfold hoB; simp [le_length]
theorem waB_len (x : Wa) : (waB x).length = 2 := by unfold waB; simp [le_length]
theorem flatMap_len {α : Type} {f : α → List UInt8} {k : Nat} (hf : ∀ x, (f x).length = k) : ∀ l : List α, (l.flatMap f).length = l.length * k
  | [] => by simp
  | x :: l => by rw [List.flatMap_cons, List.length_append, hf, flatMap_len hf l, List.length_cons, Nat.succ_mul]; omega
theorem flatMap_take {α : Type} (f : α → List UInt8) (l : List α) (i : Nat) (hi : i < l.length) : (l.take (i + 1)).flatMap f = (l.take i).flatMap f ++ f l[i] := by
  rw [List.take_add_one, List.getElem?_eq_getElem hi, Option.toList_some, List.flatMap_append]; simp
theorem rgB_len {r : Rgn} (h : r.ok) : (rgB r).length ≤ 100 := by
  have h4 := h.h4
  have w4 := h.w4
  unfold rgB
  simp only [List.length_append, le_length, flatMap_len hoB_len, flatMap_len waB_len]
  omega
theorem lkK_len {L : Lk} (h : L.ok) : ∀ k, (lkK L k).length ≤ 16 + k * 100
  | 0 => by unfold lkK; simp [le_length]
  | k + 1 => by
    have := lkK_len h k
    have := rgB_len (h.rg k)
    unfold lkK
    rw [List.length_append]
    omega
theorem set4 {w : World} {g : Nat} {t : TypeId} {a0 a1 a2 a3 : Value} (h : w.heap[g]? = some (.cells #[a0, a1, a2, a3] t (0, 0))) (v0 v1 v2 v3 : Value) :
    ∃ W, ((((w.setCell ⟨g, 0, none⟩ v0).setCell ⟨g, 1, none⟩ v1).setCell ⟨g, 2, none⟩ v2).setCell ⟨g, 3, none⟩ v3) = W ∧ W.heap[g]? = some (.cells #[v0, v1, v2, v3] t (0, 0)) ∧ Fr (fun c _ => c ≠ g) w W := by
  have h0 : (w.setCell ⟨g, 0, none⟩ v0).heap[g]? = some (.cells #[v0, a1, a2, a3] t (0, 0)) := heap_setCell_same (o := 0) h v0
  have h1 : ((w.setCell ⟨g, 0, none⟩ v0).setCell ⟨g, 1, none⟩ v1).heap[g]? = some (.cells #[v0, v1, a2, a3] t (0, 0)) := heap_setCell_same (o := 1) h0 v1
  have h2 : (((w.setCell ⟨g, 0, none⟩ v0).setCell ⟨g, 1, none⟩ v1).setCell ⟨g, 2, none⟩ v2).heap[g]? = some (.cells #[v0, v1, v2, a3] t (0, 0)) := heap_setCell_same (o := 2) h1 v2
  have h3 : ((((w.setCell ⟨g, 0, none⟩ v0).setCell ⟨g, 1, none⟩ v1).setCell ⟨g, 2, none⟩ v2).setCell ⟨g, 3, none⟩ v3).heap[g]? = some (.cells #[v0, v1, v2, v3] t (0, 0)) := heap_setCell_same (o := 3) h2 v3
  exact ⟨_, rfl, h3, ((((Fr.refl _ _).setCell (fun _ _ h => h rfl) _).setCell (fun _ _ h => h rfl) _).setCell (fun _ _ h => h rfl) _).setCell (fun _ _ h => h rfl) _⟩
/-- What is younger may change. -/
theorem LWP.young {Pr : Nat → Prop} {w w' : World} {bw : Nat} {bs : List UInt8} (h : LWP Pr w bw bs) (hf : Fr (fun c _ => c < w.heap.size) w w') : LWP Pr w' bw bs := by
  obtain ⟨v, hv, hk⟩ := h.at'
  exact ⟨h.new, ⟨v, ⟨hf.keep _ _ hv.top (lt_of_some hv.top), ownsRow_fr hv.own hf fun b o _ ho => lt_of_some ho⟩, hk⟩⟩
end Go.Proofs.YtlolfcnfcgegdaaGreat
/- The locks' table: Renew. -/
namespace Go.Proofs.YtlolfcnfcgegdaaGreat
open Go.RowKit
set_option linter.unusedVariables false
set_option linter.unusedSimpArgs false

theorem own_setCell {w : World} {B g n cap size : Nat} {t : TypeId} {xs : List Value} (h : w.ownsRow B t size (.slice (some ⟨g, 0, none⟩) n cap) n xs) (i : Nat) (v : Value) : (w.setCell ⟨g, i, none⟩ v).ownsRow B t size (.slice (some ⟨g, 0, none⟩) n cap) n (xs.set i v) := by
  rcases h with ⟨hl, ⟨e, _⟩ | ⟨g', cap', cur, e, hB, hg, h1, h2, h3, h4⟩⟩
  · cases e
  · cases e
    refine ⟨by rw [List.length_set]; exact hl, .inr ⟨g, cap, cur.setIfInBounds i v, rfl, hB, heap_setCell_same hg v, h1, h2, by rw [Array.size_setIfInBounds]; exact h3, ?_⟩⟩
    rw [Array.toList_setIfInBounds, List.take_set, h4]
theorem modify_flat {hs : List Ho} {k u : Nat} (hk : k < hs.length) : (hs.modify k fun h => { h with u := u }).flatMap encH = (hs.flatMap encH).set (k * 4 + 3) (.int .u64 (u : Nat)) := by
  have e1 : hs = hs.take k ++ hs[k] :: hs.drop (k + 1) := by rw [List.getElem_cons_drop, List.take_append_drop]
  have e2 : (hs.take k).length = k := by rw [List.length_take]; omega
  have e3 : ((hs.take k).flatMap encH).length = k * 4 := by rw [flat_length encH_len, e2]
  have e4 : hs.modify k (fun h => { h with u := u }) = hs.take k ++ { hs[k] with u := u } :: hs.drop (k + 1) := by
    rw [List.modify_eq_take_cons_drop hk]
  rw [e4]
  conv => rhs; rw [e1]
  rw [List.flatMap_append, List.flatMap_append, List.set_append_right _ _ (by omega), e3, Nat.add_sub_cancel_left]
  rfl
section
variable {n : Nat} {P : Nat → Prop} {w : World} {bt : Nat} {hv wv : Nat → Value} {L : Lk}
theorem LT.setU (h : LT n P w bt hv wv L) {r k g cap : Nat} (hr : r < 4) (hk : k < (L.rg r).hs.length) (hg : hv r = .slice (some ⟨g, 0, none⟩) (L.rg r).hs.length cap) (u : Nat) (hok : Lk.ok (L.put r ⟨(L.rg r).hs.modify k fun h => { h with u := u }, (L.rg r).ws⟩)) :
    w.cell? ⟨g, k * 4 + 3, none⟩ = some (.int .u64 (((L.rg r).hs[k]).u : Nat)) ∧ w.frozen? ⟨g, k * 4 + 3, none⟩ = false ∧ LT n P (w.setCell ⟨g, k * 4 + 3, none⟩ (.int .u64 (u : Nat))) bt hv wv (L.put r ⟨(L.rg r).hs.modify k fun h => { h with u := u }, (L.rg r).ws⟩) ∧ Kp P P w (w.setCell ⟨g, k * 4 + 3, none⟩ (.int .u64 (u : Nat))) := by
  have eo : (hv r).ownBlock = some g := by rw [hg]; rfl
  have hP := h.hp r hr g eo
  have hne : bt ≠ g := fun e => h.ne hr (e ▸ eo)
  obtain ⟨cur, hh⟩ := own_tag (h.hr r hr) eo
  have hat := h.hat hr
  rw [hg] at hat
  obtain ⟨b, off, o, hb, _, _, hcs⟩ := hat.spot (by omega)
  cases hb
  have c3 := hcs k hk 3 _ rfl
  rw [Nat.zero_add] at c3
  have F : Fr (fun c _ => c ≠ g) w (w.setCell ⟨g, k * 4 + 3, none⟩ (.int .u64 (u : Nat))) := (Fr.refl _ _).setCell (fun _ _ h => h rfl) _
  have own := h.hr r hr
  rw [hg] at own
  have own' := own_setCell own (k * 4 + 3) (.int .u64 (u : Nat))
  rw [← modify_flat hk] at own'
  have ers : ∀ i, ((L.put r ⟨(L.rg r).hs.modify k fun h => { h with u := u }, (L.rg r).ws⟩).rg i).ws = (L.rg i).ws := fun i => by
    rw [put_rg (h.len hr)]
    split
    · rename_i e; subst e; rfl
    · rfl
  refine ⟨c3, frozen_mk hh, ⟨(heap_setCell_ne hne _).trans h.top, fun i hi => ?_, h.hp, h.sep, fun i hi => ?_, h.pt, fun c hc => ?_, h.lo, hok⟩, ⟨F.mono fun c _ hc e => hc (e ▸ hP), fun _ _ h => h⟩⟩
  · rw [put_rg (h.len hr)]
    split
    · rename_i e
      subst e
      show World.ownsRow _ _ _ _ _ (List.length (List.modify _ _ _)) _
      rw [List.length_modify, hg]
      exact own'
    · rename_i e
      exact ownsRow_setCell_ne (p := ⟨g, k * 4 + 3, none⟩) (h.hr i hi) (h.sep r i hr hi (fun q => e q.symm) g eo) _
  · rw [ers]
    exact (h.wr i hi).fr F fun c o _ hc e => hc.1 (e ▸ hP)
  · by_cases e : c = g
    · subst e; exact ⟨_, _, _, heap_setCell_same (o := k * 4 + 3) hh _, .inr rfl⟩
    · obtain ⟨cs, t, fz, he, ht⟩ := h.ps c hc
      exact ⟨cs, t, fz, F.keep _ _ he e, ht⟩
end
set_option maxRecDepth 100000 in
theorem renew_bad {e0 : Nat} (w : World) (bt c r t : Nat) (h0 : e0 ≠ 0) (HC : Hid (Calls Tryz.prog 93 #[.pointer (some ⟨bt, 0, none⟩), .int .i64 (c : Nat), .int .i64 (r : Nat), .int .u64 (t : Nat)] w fun e w' => e = .returned (.tuple #[.pointer none, .int .i64 (e0 : Nat)]) ∧ Fr (fun _ _ => True) w w')) :
    Calls Tryz.prog 105 #[.pointer (some ⟨bt, 0, none⟩), .int .i64 (c : Nat), .int .i64 (r : Nat), .int .u64 (t : Nat)] w fun e w' => e = .returned (.tuple #[.int .u64 0, .int .i64 (e0 : Nat)]) ∧ Fr (fun _ _ => True) w w' := by
  have hq : ((e0 : Int) != 0) = true := by simp; omega
  clear h0
  go_enter Tryz.func105, Tryz.ntmps105
  go_wp2_with fail
  (with_reducible refine HC.out.mono ?_)
  rintro e w1 ⟨rfl, f1⟩
  have F1 := Lib.hid f1
  clear f1 HC
  go_wp2
  go_ret2
  exact ⟨rfl, F1.out⟩
set_option maxRecDepth 100000 in
set_option maxHeartbeats 1000000 in
theorem renew_good {n : Nat} {P : Nat → Prop} {hv wv : Nat → Value} (w : World) (bt c r t k : Nat) (L : Lk) (h : LT n P w bt hv wv L) (hr : rightM c r = 0) (hi : hI (L.rg r).hs c = some k) (hk : k < (L.rg r).hs.length) (ht : ((L.rg r).hs[k]).t = t) (hok : Lk.ok (L.put r ⟨(L.rg r).hs.modify k fun h => { h with u := untilM L.now }, (L.rg r).ws⟩)) :
    Calls Tryz.prog 105 #[.pointer (some ⟨bt, 0, none⟩), .int .i64 (c : Nat), .int .i64 (r : Nat), .int .u64 (t : Nat)] w fun e w' => e = .returned (.tuple #[.int .u64 (untilM L.now : Nat), .int .i64 0]) ∧ ∃ P', LTE n P' w' bt (L.put r ⟨(L.rg r).hs.modify k fun h => { h with u := untilM L.now }, (L.rg r).ws⟩) ∧ Kp P P' w w' := by
  have HC := Lib.hid (held_some w bt c r t k L h hr hi hk)
  simp only [if_pos ht] at HC
  obtain ⟨_, hr4⟩ := rightM_r hr
  have HT := Lib.hid h
  have HK := Lib.hid hk
  have HO := Lib.hid hok
  clear h hi hr hk ht hok
  go_enter Tryz.func105, Tryz.ntmps105
  go_wp2_with fail
  (with_reducible refine HC.out.mono ?_)
  rintro e w1 ⟨f1, g, cap, hg, rfl⟩
  have F1 := Lib.hid f1
  have T1 := HT.out.tt f1
  have UC := Lib.hid (until_calls w1 bt L.now (T1.cells w1 (Fr.refl _ _)).1 T1.ok.now)
  obtain ⟨c3, z3, T2, K2⟩ := T1.setU hr4 HK.out hg (untilM L.now) HO.out
  have HT2 := Lib.hid T2
  have HK2 := Lib.hid ((Kp.rfl' P f1).trans K2)
  have r3 : (w1.setCell ⟨g, k * 4 + 3, none⟩ (.int .u64 (untilM L.now : Nat))).cell? ⟨g, k * 4 + 3, none⟩ = some (.int .u64 (untilM L.now : Nat)) := World.cell?_setCell_same _ _ _ (by rw [c3])
  clear f1 HC T1 T2 K2 hg
  go_wp2_with fail
  (with_reducible refine UC.out.mono ?_)
  rintro e w2 ⟨rfl, rfl⟩
  clear UC
  go_wp2
  go_ret2
  exact ⟨rfl, _, ⟨_, _, HT2.out⟩, HK2.out⟩
theorem renew_calls {n : Nat} {P : Nat → Prop} (w : World) (bt c r t : Nat) (L : Lk) (h : LTE n P w bt L) :
    Calls Tryz.prog 105 #[.pointer (some ⟨bt, 0, none⟩), .int .i64 (c : Nat), .int .i64 (r : Nat), .int .u64 (t : Nat)] w fun e w' => e = .returned (.tuple #[.int .u64 ((renewM L c r t).1.1 : Nat), .int .i64 ((renewM L c r t).1.2 : Nat)]) ∧ ∃ P', LTE n P' w' bt (renewM L c r t).2 ∧ Kp P P' w w' := by
  obtain ⟨hv, wv, h⟩ := h
  have bad : ∀ e0, heldM L c r t = (0, e0) → e0 ≠ 0 → Calls Tryz.prog 93 #[.pointer (some ⟨bt, 0, none⟩), .int .i64 (c : Nat), .int .i64 (r : Nat), .int .u64 (t : Nat)] w (fun e w' => e = .returned (.tuple #[.pointer none, .int .i64 (e0 : Nat)]) ∧ Fr (fun _ _ => True) w w') →
      Calls Tryz.prog 105 #[.pointer (some ⟨bt, 0, none⟩), .int .i64 (c : Nat), .int .i64 (r : Nat), .int .u64 (t : Nat)] w fun e w' => e = .returned (.tuple #[.int .u64 ((renewM L c r t).1.1 : Nat), .int .i64 ((renewM L c r t).1.2 : Nat)]) ∧ ∃ P', LTE n P' w' bt (renewM L c r t).2 ∧ Kp P P' w w' := fun e0 e h0 hc => by
    have er : renewM L c r t = ((0, e0), L) := by unfold renewM; rw [e, if_pos h0]
    rw [er]
    exact (renew_bad w bt c r t h0 (Lib.hid hc)).mono fun e w' ⟨h1, h2⟩ => ⟨h1, P, ⟨hv, wv, h.tt h2⟩, Kp.rfl' _ h2⟩
  by_cases hr : rightM c r = 0
  · cases hi : hI (L.rg r).hs c with
    | none => exact bad 92 (heldM_none hr hi) (by decide) (held_none w bt c r t L h hr hi)
    | some k =>
      have hk : k < (L.rg r).hs.length := (hI_some hi).1
      by_cases ht : ((L.rg r).hs[k]).t = t
      · have er : renewM L c r t = ((untilM L.now, 0), L.put r ⟨(L.rg r).hs.modify k fun h => { h with u := untilM L.now }, (L.rg r).ws⟩) := by
          unfold renewM; rw [heldM_some hr hi hk, if_pos ht, if_neg (fun q => q rfl)]
        have ho := h.ok.renew c r t
        rw [er] at ho ⊢
        exact renew_good w bt c r t k L h hr hi hk ht ho
      · refine bad 92 (by rw [heldM_some hr hi hk, if_neg ht]) (by decide) ((held_some w bt c r t k L h hr hi hk).mono fun e w' ⟨h1, g, cap, _, h2⟩ => ⟨by rw [h2, if_neg ht]; rfl, h1⟩)
  · exact bad _ (heldM_bad hr) hr ((held_bad w bt c r t hr).mono fun e w' ⟨h1, h2⟩ => ⟨h1, h2 ▸ Fr.refl _ _⟩)
end Go.Proofs.YtlolfcnfcgegdaaGreat
/- The locks' table: Acquire, as far as it goes without a wait. -/
namespace Go.Proofs.YtlolfcnfcgegdaaGreat
open Go.RowKit
set_option linter.unusedVariables false
set_option linter.unusedSimpArgs false

set_option maxRecDepth 100000 in
theorem clip_wa_some (w : World) (b o n c : Nat) (h : n ≤ c) (hc : c ≤ 9223372036854775807) : Calls Tryz.prog 120 #[.slice (some ⟨b, o, none⟩) n c] w fun e w' => e = .returned (.slice (some ⟨b, o, none⟩) n n) ∧ w = w' := by
  go_enter Tryz.func120, Tryz.ntmps120
  go_wp2
  all_goals (go_ret; exact ⟨rfl, rfl⟩)
set_option maxRecDepth 100000 in
theorem clip_wa_nil (w : World) (c : Nat) : Calls Tryz.prog 120 #[.slice none 0 c] w fun e w' => e = .returned (.slice none 0 0) ∧ w = w' := by
  go_enter Tryz.func120, Tryz.ntmps120
  go_wp2
  all_goals (go_ret; exact ⟨rfl, rfl⟩)
set_option maxRecDepth 100000 in
set_option maxHeartbeats 1000000 in
theorem acquire_bad (w : World) (bt c r m : Nat) (h : rightM c r ≠ 0) : Calls Tryz.prog 102 #[.pointer (some ⟨bt, 0, none⟩), .int .i64 (c : Nat), .int .i64 (r : Nat), .int .i64 (m : Nat)] w fun e w' => e = .returned (.tuple #[.int .u64 0, .int .i64 (rightM c r : Nat)]) ∧ w = w' := by
  have R := Lib.hid (right_calls w c r)
  generalize rightM c r = q at *
  have hq : ((q : Int) != 0) = true := by simp; omega
  clear h
  go_enter Tryz.func102, Tryz.ntmps102
  go_wp2_with fail
  (with_reducible refine R.out.mono ?_)
  rintro e w1 ⟨rfl, rfl⟩
  go_wp2
  go_ret2
  exact ⟨rfl, rfl⟩
set_option maxRecDepth 100000 in
set_option maxHeartbeats 1000000 in
theorem acquire_mode (w : World) (bt c r m : Nat) (h : rightM c r = 0) (hm : ¬ (m = 1 ∨ m = 2)) : Calls Tryz.prog 102 #[.pointer (some ⟨bt, 0, none⟩), .int .i64 (c : Nat), .int .i64 (r : Nat), .int .i64 (m : Nat)] w fun e w' => e = .returned (.tuple #[.int .u64 0, .int .i64 91]) ∧ w = w' := by
  have R := Lib.hid (right_calls w c r)
  rw [h] at R
  have M := Lib.hid (mode_no w m hm)
  clear h hm
  go_enter Tryz.func102, Tryz.ntmps102
  go_wp2_with fail
  (with_reducible refine R.out.mono ?_)
  rintro e w1 ⟨rfl, rfl⟩
  go_wp2_with fail
  (with_reducible refine M.out.mono ?_)
  rintro e w1 ⟨rfl, rfl⟩
  go_wp2
  go_ret2
  exact ⟨rfl, rfl⟩
set_option maxRecDepth 100000 in
set_option maxHeartbeats 2000000 in
theorem acquire_hold {n : Nat} {P : Nat → Prop} {hv wv : Nat → Value} (w : World) (bt c r m k : Nat) (L : Lk) (h : LT n P w bt hv wv L) (hr : rightM c r = 0) (hm : m = 1 ∨ m = 2) (hi : hI (L.rg r).hs c = some k) (hk : k < (L.rg r).hs.length) :
    Calls Tryz.prog 102 #[.pointer (some ⟨bt, 0, none⟩), .int .i64 (c : Nat), .int .i64 (r : Nat), .int .i64 (m : Nat)] w fun e w' => Fr (fun _ _ => True) w w' ∧ e = .returned (if ((L.rg r).hs[k]).m = m then .tuple #[.int .u64 (((L.rg r).hs[k]).t : Nat), .int .i64 0] else .tuple #[.int .u64 0, .int .i64 91]) := by
  have R := Lib.hid (right_calls w c r)
  have M := Lib.hid (mode_yes w m hm)
  obtain ⟨_, hr4⟩ := rightM_r hr
  have hb : (r : Int) < 4 := by omega
  rw [hr] at R
  have e0 : w.cell? ⟨bt, 2 + r * 2, none⟩ = some (hv r) := (h.cells w (Fr.refl _ _)).2.2 r hr4 |>.1
  have e1 : w.cell? ⟨bt, 2 + r * 2 + 1, none⟩ = some (wv r) := (h.cells w (Fr.refl _ _)).2.2 r hr4 |>.2
  have h4 := (h.ok.rg r).h4
  have w4 := (h.ok.rg r).w4
  have hat := h.hat hr4
  have hown := h.hr r hr4
  obtain ⟨g, cap, hg⟩ : ∃ g cap, hv r = .slice (some ⟨g, 0, none⟩) (L.rg r).hs.length cap := by
    rcases hown.2 with ⟨_, hz⟩ | ⟨g, cap, cur, hv', _⟩
    · exfalso; omega
    · exact ⟨g, cap, hv'⟩
  have HC := Lib.hid (hold_calls w bt (2 + r * 2) _ (L.rg r).hs c e0 hat (by omega))
  rw [idxH_hI, hi] at HC
  have WR := Lib.hid (h.wr r hr4)
  obtain ⟨ws, hws⟩ : ∃ ws, (L.rg r).ws = ws := ⟨_, rfl⟩
  rw [hws] at WR w4
  have HW : Hid (ws.length ≤ 1000000) := by show _ ≤ _; omega
  rw [hg] at hat e0
  obtain ⟨b, off, o, hbo, _, _, hcs⟩ := hat.spot (by omega)
  cases hbo
  have TK := Lib.hid (hcs k hk 2 _ rfl)
  have MK := Lib.hid (hcs k hk 1 _ rfl)
  have hkI : (k : Int) < ((L.rg r).hs.length : Int) := by omega
  rw [Nat.zero_add] at TK MK
  obtain ⟨tk, htk⟩ : ∃ tk, tk = ((L.rg r).hs[k]).t := ⟨_, rfl⟩
  obtain ⟨mk, hmk⟩ : ∃ tk, tk = ((L.rg r).hs[k]).m := ⟨_, rfl⟩
  rw [← htk] at TK ⊢
  rw [← hmk] at MK ⊢
  clear h hr hi hown hat hcs htk hmk h4 w4 hk hm hws
  generalize (L.rg r).hs.length = q at *
  by_cases ht : mk = m
  · subst ht
    go_enter Tryz.func102, Tryz.ntmps102
    go_wp2_with fail
    (with_reducible refine R.out.mono ?_)
    rintro e w1 ⟨rfl, rfl⟩
    go_wp2_with fail
    (with_reducible refine M.out.mono ?_)
    rintro e w1 ⟨rfl, rfl⟩
    go_wp2_with fail
    (with_reducible refine HC.out.mono ?_)
    rintro e w1 ⟨rfl, f1⟩
    have WC := Lib.hid (want_calls w1 bt (2 + r * 2) _ ws c (f1.cell (fun _ _ => trivial) e1) (WR.out.tt f1) HW.out)
    have F1 := Lib.hid f1
    clear f1 HC R M
    go_wp2_with fail
    (with_reducible refine WC.out.mono ?_)
    rintro e w2 ⟨rfl, f2⟩
    have F2 := Lib.hid (F1.out.trans f2)
    have E0 := F2.out.cell (fun _ _ => trivial) e0
    have MK1 := F2.out.cell (fun _ _ => trivial) MK.out
    have TK1 := F2.out.cell (fun _ _ => trivial) TK.out
    clear f2 WC
    generalize idxW (fun h => decide (h.c = c)) ws = z
    go_wp2
    go_ret2
    exact ⟨F2.out, rfl⟩
  · have hti : ((mk : Int) == m) = false := by simp; omega
    rw [if_neg ht]
    go_enter Tryz.func102, Tryz.ntmps102
    go_wp2_with fail
    (with_reducible refine R.out.mono ?_)
    rintro e w1 ⟨rfl, rfl⟩
    go_wp2_with fail
    (with_reducible refine M.out.mono ?_)
    rintro e w1 ⟨rfl, rfl⟩
    go_wp2_with fail
    (with_reducible refine HC.out.mono ?_)
    rintro e w1 ⟨rfl, f1⟩
    have WC := Lib.hid (want_calls w1 bt (2 + r * 2) _ ws c (f1.cell (fun _ _ => trivial) e1) (WR.out.tt f1) HW.out)
    have F1 := Lib.hid f1
    clear f1 HC R M
    go_wp2_with fail
    (with_reducible refine WC.out.mono ?_)
    rintro e w2 ⟨rfl, f2⟩
    have F2 := Lib.hid (F1.out.trans f2)
    have E0 := F2.out.cell (fun _ _ => trivial) e0
    have MK1 := F2.out.cell (fun _ _ => trivial) MK.out
    have TK1 := F2.out.cell (fun _ _ => trivial) TK.out
    clear f2 WC
    generalize idxW (fun h => decide (h.c = c)) ws = z
    go_wp2
    go_ret2
    exact ⟨F2.out, rfl⟩
end Go.Proofs.YtlolfcnfcgegdaaGreat
/- The locks' table: Acquire of what is waited for; of a full line. -/
namespace Go.Proofs.YtlolfcnfcgegdaaGreat
open Go.RowKit
set_option linter.unusedVariables false
set_option linter.unusedSimpArgs false

set_option maxRecDepth 100000 in
set_option maxHeartbeats 2000000 in
theorem acquire_want {n : Nat} {P : Nat → Prop} {hv wv : Nat → Value} (w : World) (bt c r m k : Nat) (L : Lk) (h : LT n P w bt hv wv L) (hr : rightM c r = 0) (hm : m = 1 ∨ m = 2) (hi : hI (L.rg r).hs c = none) (hj : wI (L.rg r).ws c = some k) (hk : k < (L.rg r).ws.length) :
    Calls Tryz.prog 102 #[.pointer (some ⟨bt, 0, none⟩), .int .i64 (c : Nat), .int .i64 (r : Nat), .int .i64 (m : Nat)] w fun e w' => Fr (fun _ _ => True) w w' ∧ e = .returned (.tuple #[.int .u64 0, .int .i64 (if ((L.rg r).ws[k]).m = m then 90 else 91)]) := by
  have R := Lib.hid (right_calls w c r)
  have M := Lib.hid (mode_yes w m hm)
  obtain ⟨_, hr4⟩ := rightM_r hr
  have hb : (r : Int) < 4 := by omega
  rw [hr] at R
  have e0 : w.cell? ⟨bt, 2 + r * 2, none⟩ = some (hv r) := (h.cells w (Fr.refl _ _)).2.2 r hr4 |>.1
  have e1 : w.cell? ⟨bt, 2 + r * 2 + 1, none⟩ = some (wv r) := (h.cells w (Fr.refl _ _)).2.2 r hr4 |>.2
  have h4 := (h.ok.rg r).h4
  have w4 := (h.ok.rg r).w4
  have HC := Lib.hid (hold_calls w bt (2 + r * 2) _ (L.rg r).hs c e0 (h.hat hr4) (by omega))
  rw [idxH_hI, hi] at HC
  have WR := Lib.hid (h.wr r hr4)
  obtain ⟨a, cap, ev, _⟩ := (h.wr r hr4).form
  rw [ev] at WR e1
  obtain ⟨b, off, o, hbo, _, _, hcs⟩ := WR.out.spot (by omega)
  subst hbo
  have HW : Hid ((L.rg r).ws.length ≤ 1000000) := by show _ ≤ _; omega
  have MK := Lib.hid (hcs k hk 1 _ rfl)
  have hkI : (k : Int) < ((L.rg r).ws.length : Int) := by omega
  obtain ⟨mk, hmk⟩ : ∃ tk, tk = ((L.rg r).ws[k]).m := ⟨_, rfl⟩
  rw [← hmk] at MK ⊢
  have HI := Lib.hid hj
  clear h hr hi hcs hmk h4 w4 hk hm hj e0 ev
  by_cases ht : mk = m
  · subst ht
    rw [if_pos rfl]
    go_enter Tryz.func102, Tryz.ntmps102
    go_wp2_with fail
    (with_reducible refine R.out.mono ?_)
    rintro e w1 ⟨rfl, rfl⟩
    go_wp2_with fail
    (with_reducible refine M.out.mono ?_)
    rintro e w1 ⟨rfl, rfl⟩
    go_wp2_with fail
    (with_reducible refine HC.out.mono ?_)
    rintro e w1 ⟨rfl, f1⟩
    have WC := Lib.hid (want_calls w1 bt (2 + r * 2) _ _ c (f1.cell (fun _ _ => trivial) e1) (WR.out.tt f1) HW.out)
    rw [idxW_wI, HI.out] at WC
    have F1 := Lib.hid f1
    clear f1 HC R M
    go_wp2_with fail
    (with_reducible refine WC.out.mono ?_)
    rintro e w2 ⟨rfl, f2⟩
    have F2 := Lib.hid (F1.out.trans f2)
    have E0 := F2.out.cell (fun _ _ => trivial) e1
    have MK1 := F2.out.cell (fun _ _ => trivial) MK.out
    clear f2 WC
    go_wp2
    go_ret2
    exact ⟨F2.out, rfl⟩
  · have hti : ((mk : Int) != m) = true := by simp; omega
    rw [if_neg ht]
    go_enter Tryz.func102, Tryz.ntmps102
    go_wp2_with fail
    (with_reducible refine R.out.mono ?_)
    rintro e w1 ⟨rfl, rfl⟩
    go_wp2_with fail
    (with_reducible refine M.out.mono ?_)
    rintro e w1 ⟨rfl, rfl⟩
    go_wp2_with fail
    (with_reducible refine HC.out.mono ?_)
    rintro e w1 ⟨rfl, f1⟩
    have WC := Lib.hid (want_calls w1 bt (2 + r * 2) _ _ c (f1.cell (fun _ _ => trivial) e1) (WR.out.tt f1) HW.out)
    rw [idxW_wI, HI.out] at WC
    have F1 := Lib.hid f1
    clear f1 HC R M
    go_wp2_with fail
    (with_reducible refine WC.out.mono ?_)
    rintro e w2 ⟨rfl, f2⟩
    have F2 := Lib.hid (F1.out.trans f2)
    have E0 := F2.out.cell (fun _ _ => trivial) e1
    have MK1 := F2.out.cell (fun _ _ => trivial) MK.out
    clear f2 WC
    go_wp2
    go_ret2
    exact ⟨F2.out, rfl⟩
set_option maxRecDepth 100000 in
set_option maxHeartbeats 2000000 in
theorem acquire_full {n : Nat} {P : Nat → Prop} {hv wv : Nat → Value} (w : World) (bt c r m : Nat) (L : Lk) (h : LT n P w bt hv wv L) (hr : rightM c r = 0) (hm : m = 1 ∨ m = 2) (hi : hI (L.rg r).hs c = none) (hj : wI (L.rg r).ws c = none) (hf : 4 ≤ (L.rg r).ws.length ∨ L.last = topM) :
    Calls Tryz.prog 102 #[.pointer (some ⟨bt, 0, none⟩), .int .i64 (c : Nat), .int .i64 (r : Nat), .int .i64 (m : Nat)] w fun e w' => Fr (fun _ _ => True) w w' ∧ e = .returned (.tuple #[.int .u64 0, .int .i64 42]) := by
  have R := Lib.hid (right_calls w c r)
  have M := Lib.hid (mode_yes w m hm)
  obtain ⟨_, hr4⟩ := rightM_r hr
  have hb : (r : Int) < 4 := by omega
  rw [hr] at R
  have e0 : w.cell? ⟨bt, 2 + r * 2, none⟩ = some (hv r) := (h.cells w (Fr.refl _ _)).2.2 r hr4 |>.1
  have e1 : w.cell? ⟨bt, 2 + r * 2 + 1, none⟩ = some (wv r) := (h.cells w (Fr.refl _ _)).2.2 r hr4 |>.2
  have e2 : w.cell? ⟨bt, 1, none⟩ = some (.int .u64 (L.last : Nat)) := (h.cells w (Fr.refl _ _)).2.1
  have h4 := (h.ok.rg r).h4
  have w4 := (h.ok.rg r).w4
  have HC := Lib.hid (hold_calls w bt (2 + r * 2) _ (L.rg r).hs c e0 (h.hat hr4) (by omega))
  rw [idxH_hI, hi] at HC
  have WR := Lib.hid (h.wr r hr4)
  obtain ⟨a, cap, ev, _⟩ := (h.wr r hr4).form
  rw [ev] at WR e1
  have HW : Hid ((L.rg r).ws.length ≤ 1000000) := by show _ ≤ _; omega
  have HI := Lib.hid hj
  by_cases hl : 4 ≤ (L.rg r).ws.length
  · have hlI : decide ((4 : Int) ≤ ((L.rg r).ws.length : Int)) = true := by simp; omega
    have hlJ : decide (4 ≤ (L.rg r).ws.length) = true := by simp; omega
    have hlK : (4 : Int) ≤ ((L.rg r).ws.length : Int) := by omega
    clear h hr hi h4 w4 hm hj e0 ev hf hl
    go_enter Tryz.func102, Tryz.ntmps102
    go_wp2_with fail
    (with_reducible refine R.out.mono ?_)
    rintro e w1 ⟨rfl, rfl⟩
    go_wp2_with fail
    (with_reducible refine M.out.mono ?_)
    rintro e w1 ⟨rfl, rfl⟩
    go_wp2_with fail
    (with_reducible refine HC.out.mono ?_)
    rintro e w1 ⟨rfl, f1⟩
    have WC := Lib.hid (want_calls w1 bt (2 + r * 2) _ _ c (f1.cell (fun _ _ => trivial) e1) (WR.out.tt f1) HW.out)
    rw [idxW_wI, HI.out] at WC
    have F1 := Lib.hid f1
    clear f1 HC R M
    go_wp2_with fail
    (with_reducible refine WC.out.mono ?_)
    rintro e w2 ⟨rfl, f2⟩
    have F2 := Lib.hid (F1.out.trans f2)
    have E0 := F2.out.cell (fun _ _ => trivial) e1
    have E2 := F2.out.cell (fun _ _ => trivial) e2
    clear f2 WC
    go_wp2
    go_ret2
    exact ⟨F2.out, rfl⟩
  · have hlI : decide ((4 : Int) ≤ ((L.rg r).ws.length : Int)) = false := by simp; omega
    have hlJ : decide (4 ≤ (L.rg r).ws.length) = false := by simp; omega
    have hlt : L.last = 18446744073709551615 := by rw [← topM_eq]; exact hf.resolve_left hl
    rw [hlt] at e2
    clear h hr hi h4 w4 hm hj e0 ev hf hl hlt
    go_enter Tryz.func102, Tryz.ntmps102
    go_wp2_with fail
    (with_reducible refine R.out.mono ?_)
    rintro e w1 ⟨rfl, rfl⟩
    go_wp2_with fail
    (with_reducible refine M.out.mono ?_)
    rintro e w1 ⟨rfl, rfl⟩
    go_wp2_with fail
    (with_reducible refine HC.out.mono ?_)
    rintro e w1 ⟨rfl, f1⟩
    have WC := Lib.hid (want_calls w1 bt (2 + r * 2) _ _ c (f1.cell (fun _ _ => trivial) e1) (WR.out.tt f1) HW.out)
    rw [idxW_wI, HI.out] at WC
    have F1 := Lib.hid f1
    clear f1 HC R M
    go_wp2_with fail
    (with_reducible refine WC.out.mono ?_)
    rintro e w2 ⟨rfl, f2⟩
    have F2 := Lib.hid (F1.out.trans f2)
    have E0 := F2.out.cell (fun _ _ => trivial) e1
    have E2 := F2.out.cell (fun _ _ => trivial) e2
    clear f2 WC
    go_wp2
    go_ret2
    exact ⟨F2.out, rfl⟩
end Go.Proofs.YtlolfcnfcgegdaaGreat
