/- Texts of the proofs, part 38: what the functions that they reach do, walked; no conditions beyond those that each states. -/
import Derived.Test.YtmjccpfchhnfhaaZzd4fb5c9621
set_option linter.unusedVariables false
set_option linter.unusedSimpArgs false
/- raft: Take (printed by yk.py). -/
namespace Go.Proofs.Ytmjccpfchhnfhaa
open Go.RowKit
set_option linter.unusedVariables false
set_option linter.unusedSimpArgs false
def encS (x : Nat × EV) : List Value := [.int .u64 (x.1 : Nat), .int .u64 (x.2.t : Nat), .int .i64 x.2.k, .slice x.2.a x.2.d.length x.2.c]
theorem encS_len (x : Nat × EV) : (encS x).length = 4 := rfl
theorem encS_one (x : Nat × EV) : ∀ u ∈ encS x, u.oneCell' = true := fun u hu => by
 simp only [encS, List.mem_cons, List.not_mem_nil, or_false] at hu
 rcases hu with rfl | rfl | rfl | rfl <;> rfl
def entV (base : Nat) (es : List EV) (i : Nat) : EV := if base < i then es.getD (i - base - 1) zEV else zEV
def takeL (base : Nat) (es : List EV) (lo cnt : Nat) : List (Nat × EV) := (List.range cnt).map fun j => (lo + 1 + j, entV base es (lo + 1 + j))
theorem takeL_len (base : Nat) (es : List EV) (lo cnt : Nat) : (takeL base es lo cnt).length = cnt := by unfold takeL; simp
theorem takeL_succ (base : Nat) (es : List EV) (lo k : Nat) : takeL base es lo (k + 1) = takeL base es lo k ++ [(lo + 1 + k, entV base es (lo + 1 + k))] := by unfold takeL; rw [List.range_succ, List.map_append]; rfl
theorem tentry_get {K : Nat → Obj → Prop} (w : World) (b bt i : Nat) (a : Option Addr) (n c : Nat) (xs : List EV) (hx : RowsAt K w (.slice a n c) 3 encE xs) (h : b + n < 18446744073709551616) :
  Calls Try.prog 24 #[vL b bt (.slice a n c), .int .u64 (i : Nat)] w fun e w' => (∃ ok, e = .returned (.tuple #[vE (entV b xs i), .bool ok])) ∧ FT w w' := by
 have hn := hx.len'
 by_cases hi : b < i ∧ i ≤ b + n
 ·have e : entV b xs i = xs[i - b - 1] := by
   unfold entV
   rw [if_pos hi.1, List.getD_eq_getElem?_getD, List.getElem?_eq_getElem (by omega)]
   rfl
  rw [e]
  exact (tentry_yes w b bt i (i - b - 1) a n c xs hx hn.symm h (by omega) (by omega)).mono fun e w' ⟨h1, h2⟩ => ⟨⟨true, h1⟩, h2⟩
 ·have e : entV b xs i = zEV := by
   unfold entV
   split
   ·rw [List.getD_eq_getElem?_getD, List.getElem?_eq_none (by omega)]; rfl
   ·rfl
  rw [e]
  exact (tentry_no w b bt i a n c h hi).mono fun e w' ⟨h1, h2⟩ => ⟨⟨false, h1⟩, h2⟩
theorem info_suR : (Try.prog.info? 70).map (fun i => (i.zero, i.size, i.bytes)) = some (some (.agg #[.int .u64 0, .int .u64 0, .int .i64 0, .slice none 0 0]), 4, 48) := by kernel_rfl
theorem wpList_append_suR {ops : Array Oper} {rest : List Oper} {o : Oper} {a : Act} {Q : Exit → Act → World → Prop} (W : World) (hgd : o.guard = none) (s x : Operand) (ho : o.op = .call { callee := .builtin .append, args := #[s, x], argTypes := #[66, 66] })
  (v : Value) (n : Nat) (xs : List Value) (hs : a.eval s = v) (hown : Hid (W.ownsRow 0 70 4 v n xs)) (gx : Nat) (y : Nat × EV) (hx : a.eval x = .slice (some ⟨gx, 0, none⟩) 1 1)
  (hb : Hid (W.heap[gx]? = some (.cells (encS y).toArray 70 (0, 0)))) (N : Nat) (hN : Hid (n + 1 = N)) (hn : N ≤ 1000000)
  (h : ∀ g c w', Hid (w'.ownsRow 0 70 4 (.slice g N c) N (xs ++ encS y)) → Hid (Fr (fun b _ => v.ownBlock ≠ some b) W w') → Hid (OwnNext W v (.slice g N c)) → wpList Try.prog ops Q rest (a.put o.dst (.slice g N c)) w') : wpList Try.prog ops Q (o :: rest) a W := by
 obtain ⟨i0, hi, hz0, hz1, hz2⟩ := info_parts info_suR
 exact wpList_plain hgd fun _ hK => step_append_raw W s x 66 70 ho i0 _ 4 48 Try.underlying66 hi hz0 hz1 hz2 rfl (by decide) (by decide) v n xs hs hown gx (encS y) hx hb rfl (encS_one y) N hN hn fun g c w' h1 h2 h3 => hK _ _ (h g c w' h1 h2 h3)
section
variable {X P : Nat → Prop} {w w' : World} {b rb ap : Nat} {n : Nd} {q : NV}
def TkOut (w : World) (rb b ap : Nat) (base : Nat) (es : List EV) (commit : Nat) (e : Ending) (w' : World) : Prop :=
 ∃ g c, e = .returned (.slice g (commit - max ap base) c) ∧ w'.ownsRow w.heap.size 70 4 (.slice g (commit - max ap base) c) (commit - max ap base) ((takeL base es (max ap base) (commit - max ap base)).flatMap encS) ∧ RB w' rb b (max ap commit) ∧ Fr (fun k _ => k ≠ rb) w w'
set_option maxRecDepth 100000 in
set_option maxHeartbeats 8000000 in
theorem rtake_calls [Old] (h : PNs X P w b n q) (hr : RB w rb b ap) (hap : ap < 9223372036854775808) (hb : n.log.base < 9223372036854775808) (hcm : n.commit ≤ 900000) (hl : n.log.last + 1 < 18446744073709551616) :
  Calls Try.prog 34 #[.pointer (some ⟨rb, 0, none⟩)] w fun e w' => TkOut w rb b ap n.log.base q.es n.commit e w' := by
 obtain ⟨ae, ce, hve⟩ : ∃ a c, q.ve = .slice a q.es.length c := by
  obtain ⟨a, c, e, _⟩ := h.ev.row.form
  exact ⟨a, c, e⟩
 obtain ⟨le, hle⟩ : ∃ x, q.es.length = x := ⟨_, rfl⟩
 rw [hle] at hve
 obtain ⟨bs, hbs⟩ : ∃ x, n.log.base = x := ⟨_, rfl⟩
 obtain ⟨bt, hbt⟩ : ∃ x, n.log.bt = x := ⟨_, rfl⟩
 obtain ⟨cm, hcm0⟩ : ∃ x, n.commit = x := ⟨_, rfl⟩
 obtain ⟨lo, hlo⟩ : ∃ x, max ap bs = x := ⟨_, rfl⟩
 obtain ⟨mx, hmx⟩ : ∃ x, max ap cm = x := ⟨_, rfl⟩
 obtain ⟨cnt, hcnt⟩ : ∃ x, cm - lo = x := ⟨_, rfl⟩
 have hesl : n.log.es.length = le := by rw [h.ee, List.length_map, hle]
 have LO1 : Hid (max (ap : Int) (bs : Int) = (lo : Int)) := by show _ = _; omega
 have MX1 : Hid (max (ap : Int) (cm : Int) = (mx : Int)) := by show _ = _; omega
 rw [hbs] at hb
 rw [hcm0] at hcm
 obtain ⟨lo1, hlo1⟩ : ∃ x, lo + 1 = x := ⟨_, rfl⟩
 have wl : IntKind.u64.wrap ((lo : Int) + 1) = (lo1 : Int) := by rw [IntKind.wrap_u64]; omega
 have CC : Hid (∀ W, Fr (fun _ _ => True) w W → W.cell? ⟨rb, 0, none⟩ = some (.pointer (some ⟨b, 0, none⟩)) ∧ W.cell? ⟨rb, 1, none⟩ = some (.int .u64 (ap : Nat)) ∧ W.cell? ⟨b, 7, none⟩ = some (.int .u64 (cm : Nat)) ∧ W.cell? ⟨b, 8, none⟩ = some (.int .u64 (bs : Nat)) ∧ W.cell? ⟨b, 9, none⟩ = some (.int .u64 (bt : Nat)) ∧ W.cell? ⟨b, 10, none⟩ = some (.slice ae le ce)) := fun W f => by
  obtain ⟨-, -, -, -, -, -, -, x7, x8, x9, x10, -, -, -⟩ := h.cells f
  exact ⟨cell_mk (f.keep _ _ hr trivial) rfl, cell_mk (f.keep _ _ hr trivial) rfl, by rw [x7, hcm0], by rw [x8, hbs], by rw [x9, hbt], by rw [x10, hve]⟩
 have EN : Hid (∀ W, Fr (fun _ _ => True) w W → ∀ i : Nat, Calls Try.prog 24 #[.agg #[.int .u64 (bs : Nat), .int .u64 (bt : Nat), .slice ae le ce], .int .u64 (i : Nat)] W fun e w' => (∃ ok, e = .returned (.tuple #[vE (entV bs q.es i), .bool ok])) ∧ Fr (fun _ _ => True) W w') := fun W f i =>
  tentry_get W bs bt i ae le ce q.es (hve ▸ h.ev.row.tt f) (by unfold Lg.last at hl; omega)
 have HR := Lib.hid hr
 obtain ⟨y0, y1, y7, y8, y9, y10⟩ := CC.out w (Fr.refl _ _)
 have HQ := Lib.hid (And.intro hlo (And.intro hmx (And.intro hcnt (And.intro hbs hcm0))))
 have hcb : cm ≤ 900000 := hcm
 have HLO1 := Lib.hid hlo1
 have hlo2 := hlo
 have l1 := LO1.out
 clear h hr hb hl hve hle hbs hbt hcm0 hmx hesl hcm
 go_enter Try.func34, Try.ntmps34
 go_wp2_with fail
 go_quiet (fail)
 have U : Hid (Fr (fun _ _ => True) w (w.drewN nq)) := (Fr.refl _ w).drewN nq
 generalize w.drewN nq = w1 at U ⊢
 clear y0 y1 y7 y8 y9 y10
 clear l1 wl
 go_wp2_with fail
 go_loopw [3, 4] (fun o i wr => ∃ (j : Nat) (g : Option Addr) (c a9 : Nat), i = .int .u64 (a9 : Nat) ∧ a9 = lo1 + j ∧ j ≤ cnt ∧ o = .slice g j c ∧ Hid (wr.ownsRow w.heap.size 70 4 (.slice g j c) j ((takeL bs q.es lo j).flatMap encS)) ∧ Hid (Fr (fun _ _ => True) w wr)) (fun _ i _ => lo1 + cnt - (intOf i).toNat)
 case atStart => exact ⟨0, none, 0, lo1, rfl, rfl, Nat.zero_le _, rfl, ⟨rfl, .inl ⟨rfl, rfl⟩⟩, U.out⟩
 case round =>
  obtain ⟨j, g, c, a9, rfl, ha9, hj, rfl, HO, HF3⟩ := hrel
  have hcnt := HQ.out.2.2.1
  by_cases hlt : j < cnt
  ·have hltI : (a9 : Int) ≤ (cm : Int) := by omega
   obtain ⟨a10, ha10⟩ : ∃ x, a9 + 1 = x := ⟨_, rfl⟩
   have w10 : IntKind.u64.wrap ((a9 : Int) + 1) = (a10 : Int) := by rw [IntKind.wrap_u64]; omega
   obtain ⟨y0, y1, y7, y8, y9, y10⟩ := CC.out wr HF3.out
   have EC := Lib.hid (EN.out wr HF3.out a9)
   obtain ⟨x, hx⟩ : ∃ x, entV bs q.es a9 = x := ⟨_, rfl⟩
   rw [hx] at EC
   have HX := Lib.hid hx
   have hj9 : j ≤ 900000 := by omega
   obtain ⟨jn, hjn⟩ : ∃ x, j + 1 = x := ⟨_, rfl⟩
   have HJ := Lib.hid hjn
   have HA := Lib.hid (And.intro ha9 ha10)
   have hjn9 : jn ≤ 1000000 := by omega
   clear hx hcnt hjn ha9 ha10
   go_wp2_with fail
   (with_reducible refine EC.out.mono ?_)
   rintro e w3 ⟨⟨ok, rfl⟩, f3⟩
   unfold vE
   have F3 := Lib.hid (HF3.out.trans f3)
   have HO3 : Hid (w3.ownsRow w.heap.size 70 4 (.slice g j c) j ((takeL bs q.es lo j).flatMap encS)) := ownsRow_fr HO.out f3 fun _ _ _ _ => trivial
   clear f3 EC y0 y1 y7 y8 y9 y10
   obtain ⟨w4, hw4⟩ : ∃ Y, w3.alloc (.cells #[.int .u64 0, .int .i64 0, .slice none 0 0] 68 (0, 0)) = Y := ⟨_, rfl⟩
   have t4 : w4.heap[w3.heap.size]? = some (.cells #[.int .u64 0, .int .i64 0, .slice none 0 0] 68 (0, 0)) := hw4 ▸ heap_alloc_new _ _
   have f4 : Fr (fun _ _ => True) w3 w4 := hw4 ▸ (Fr.refl _ _).alloc _
   obtain ⟨w5, hw5, t5, f5⟩ := set3 t4 (.int .u64 (x.t : Nat)) (.int .i64 x.k) (.slice x.a x.d.length x.c)
   have v0 := cell_mk (i := 0) t4 rfl
   have v1 := cell_mk (i := 1) t4 rfl
   have v2 := cell_mk (i := 2) t4 rfl
   have z0 := frozen_mk (i := 0) t4
   have z1 := frozen_mk (i := 1) t4
   have z2 := frozen_mk (i := 2) t4
   have u0 := cell_mk (i := 0) t5 rfl
   have u1 := cell_mk (i := 1) t5 rfl
   have u2 := cell_mk (i := 2) t5 rfl
   have F35 : Hid (Fr (fun k _ => k < w3.heap.size) w3 w5) := (f4.mono fun _ _ _ => trivial).trans (f5.mono fun k _ h e => by have h' : k < w3.heap.size := h; omega)
   obtain ⟨w6, hw6⟩ : ∃ Y, w5.alloc (.cells #[.int .u64 (a9 : Nat), .int .u64 (x.t : Nat), .int .i64 x.k, .slice x.a x.d.length x.c] 70 (0, 0)) = Y := ⟨_, rfl⟩
   have F36 : Hid (Fr (fun k _ => k < w3.heap.size) w3 w6) := F35.out.trans (hw6 ▸ (Fr.refl _ _).alloc _)
   have T6 : Hid (w6.heap[w5.heap.size]? = some (.cells (encS (a9, x)).toArray 70 (0, 0))) := by show w6.heap[w5.heap.size]? = _; rw [← hw6]; exact heap_alloc_new _ _
   have OW : Hid (w6.ownsRow 0 70 4 (.slice g j c) j ((takeL bs q.es lo j).flatMap encS)) := own_re (ownsRow_fr HO3.out F36.out fun k o e ho => lt_of_some ho) fun _ _ => Nat.zero_le _
   clear f4 f5 F35 t4 t5
   go_wp2_with (at_builtin; (try rw [hw4]); (try rw [hw5]); (try rw [hw6]); refine wpList_append_suR w6 rfl _ _ rfl (.slice g j c) j _ rfl OW w5.heap.size (a9, x) rfl T6 jn HJ hjn9 ?_)
   intro g7 c7 w7 O7 F7 N7
   clear hw4 hw5 hw6 v0 v1 v2 z0 z1 z2 u0 u1 u2
   have HS : Hid (w.heap.size ≤ w3.heap.size) := F3.out.size
   have F67 : Hid (Fr (fun _ _ => True) w w7) := Fr.within (((F3.out.mono fun _ _ _ => trivial : Fr (fun k _ => True ∧ k < w.heap.size) w w3).trans (F36.out.mono fun k _ h => Nat.lt_of_lt_of_le h.2 HS.out)).trans (F7.out.mono fun k _ h e => by have := own_base HO3.out k e; have := h.2; omega))
   have O8 : Hid (w7.ownsRow w.heap.size 70 4 (.slice g7 jn c7) jn ((takeL bs q.es lo jn).flatMap encS)) := by
    show World.ownsRow _ _ _ _ _ _ _
    rw [← HJ.out, takeL_succ, List.flatMap_append, HJ.out]
    have ea : (lo + 1 + j, entV bs q.es (lo + 1 + j)) = (a9, x) := by
     have e1 : lo + 1 + j = a9 := by rw [HLO1.out]; exact HA.out.1.symm
     rw [e1, HX.out]
    rw [ea]
    refine own_re (by simpa using O7.out) fun k e => ?_
    rcases N7.out with q9 | ⟨k9, q9, hk9⟩
    ·rw [q9] at e; exact own_base HO3.out k e
    ·rw [q9] at e; cases e; have := F36.out.size; have := HS.out; omega
   clear O7 F7 N7 OW T6
   go_wp2
   go_roundw
   case rel => exact ⟨jn, g7, c7, a10, by go_num, by have := HA.out; have := HJ.out; omega, by have := HJ.out; omega, rfl, O8.out, F67.out⟩
   case measure => simp [intOf]; have := HA.out; omega
  ·have hge : ¬ (a9 : Int) ≤ (cm : Int) := by omega
   have hjc : j = cnt := by omega
   subst hjc
   obtain ⟨y0, y1, y7, y8, y9, y10⟩ := CC.out wr HF3.out
   clear hcnt
   go_wp2_with fail
   clear y0 y1 y7 y8 y9 y10
   refine wp_region_cf (K := fun _ _ => True) (by kernel_rfl) [(50, 0), (51, 1), (52, 2), (53, 3), (54, 4), (55, 5), (56, 6), (57, 7), (58, 8), (59, 9), (60, 10), (61, 11), (62, 12), (63, 13), (64, 14)] [(0, []), (1, []), (2, [1]), (3, [2]), (4, [3]), (5, []), (6, [5]), (7, [6]), (8, [7]), (9, [8]), (10, [9]), (11, [10]), (12, [4, 11])] (ckR [(0, .pointer (some ⟨rb, 0, none⟩)), (1, .pointer (some ⟨rb, 0, none⟩)), (2, .pointer (some ⟨rb, 0, none⟩)), (3, .pointer (some ⟨rb, 1, none⟩)), (4, .int .u64 (ap : Nat)), (5, .pointer (some ⟨rb, 0, none⟩)), (6, .pointer (some ⟨rb, 0, none⟩)), (7, .pointer (some ⟨rb, 0, none⟩)), (8, .pointer (some ⟨b, 0, none⟩)), (9, .pointer (some ⟨b, 0, none⟩)), (10, .pointer (some ⟨b, 7, none⟩)), (11, .int .u64 (cm : Nat)), (12, .int .u64 (mx : Nat))] [] 13 0) 3 (by kernel_rfl) (by kernel_rfl) (by kernel_rfl) rfl ?cfall ?cfend
   case cfall =>
    iterate 12
     refine CfAll.kk rfl rfl rfl (fun xs W hF hE K' hK => ?_) ?_
     ·have HF := Lib.hid hF
      clear hF
      simp only [ckEqs, ckLook, Nat.reduceBEq] at hE
      simp only [fillA, fillL, sA, sB, sC, Act.put, hE] at hK ⊢
      clear hE
      obtain ⟨y0, y1, y7, y8, y9, y10⟩ := CC.out W (HF3.out.trans ((Fr.refl (fun _ _ => True) wr).drew.trans HF.out))
      (try simp only [gA, gB, gC])
      go_simp
      exact hK.out _ rfl
    refine CfAll.k rfl rfl (fun xs W hF hA hE K' hK => ?_) ?_
    ·have HF := Lib.hid hF
     clear hA hF
     simp only [ckEqs, ckLook, Nat.reduceBEq] at hE
     simp only [fillA, fillL, sA, sB, sC, Act.put, hE] at hK ⊢
     clear hE
     obtain ⟨y0, y1, y7, y8, y9, y10⟩ := CC.out W (HF3.out.trans ((Fr.refl (fun _ _ => True) wr).drew.trans HF.out))
     (try simp only [gA, gB, gC])
     have MX := MX1.out
     go_simp
     exact hK.out _ _ _ rfl (Fr.refl _ _) rfl
    exact CfAll.nil
   case cfend =>
    intro xs W hF hA
    have HF := Lib.hid hF
    have hE := ckEnd rfl hA
    clear hA hF
    simp only [List.map_cons, List.map_nil, ckEqs, ckLook, Nat.reduceBEq] at hE
    simp only [fillA, fillL, sA, sB, sC, hE]
    clear hE
    have FW : Hid (Fr (fun _ _ => True) w W) := HF3.out.trans ((Fr.refl (fun _ _ => True) wr).drew.trans HF.out)
    have OW : Hid (W.ownsRow w.heap.size 70 4 (.slice g j c) j ((takeL bs q.es lo j).flatMap encS)) := ownsRow_fr HO.out ((Fr.refl (fun _ _ => True) wr).drew.trans HF.out) fun _ _ _ _ => trivial
    have RW : Hid (RB W rb b ap) := HR.out.fr FW.out fun _ => trivial
    have x1 := cell_mk (i := 1) RW.out rfl
    have z1 := frozen_mk (i := 1) RW.out
    obtain ⟨W9, hW9⟩ : ∃ Y, W.setCell ⟨rb, 1, none⟩ (.int .u64 (mx : Nat)) = Y := ⟨_, rfl⟩
    have F9 : Hid (Fr (fun k _ => k ≠ rb) W W9) := hW9 ▸ (Fr.refl _ _).setCell (fun _ _ h => h rfl) _
    have R9 : Hid (RB W9 rb b mx) := by show W9.heap[rb]? = _; rw [← hW9]; exact heap_setCell_same (o := 1) RW.out _
    refine wpAny_next 13 (by kernel_rfl) rfl fun K' hK => ?_
    (try simp only [gA, gB, gC])
    go_simp
    refine hK.out _ _ ?_
    clear hK K'
    refine wpAny_next 14 (by kernel_rfl) rfl fun K' hK => ?_
    (try simp only [gA, gB, gC])
    go_simp
    refine hK.out _ _ ?_
    clear hK K'
    refine wpAny_next 15 (by kernel_rfl) rfl fun K' hK => ?_
    (try simp only [gA, gB, gC])
    go_simp
    refine hK.out _ _ ?_
    clear hK K'
    refine wpAny_fin (by kernel_rfl) ?_
    try rw [hW9]
    clear hW9 x1 z1
    go_wp2
    go_ret
    have e1 := HQ.out.2.2.2.1
    have e2 := HQ.out.2.2.2.2
    have e3 := HQ.out.1
    have e4 := HQ.out.2.2.1
    have e5 := HQ.out.2.1
    rw [e1, e2]
    unfold TkOut
    rw [e3, e4, e5]
    refine ⟨g, c, rfl, ownsRow_fr OW.out F9.out fun k o e ho hk => tag_cell OW.out RW.out (by decide) (hk ▸ e), R9.out, (FW.out.mono fun _ _ _ => trivial).trans F9.out⟩
end
end Go.Proofs.Ytmjccpfchhnfhaa
