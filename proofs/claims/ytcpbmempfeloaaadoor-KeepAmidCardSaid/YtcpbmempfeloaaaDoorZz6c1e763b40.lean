/- Texts of the proofs, part 23: what the functions that they reach do, walked; no conditions beyond those that each states. -/
import Derived.Deep.AppendLies
import Derived.Test.YtcpbmempfeloaaaDoorZz8f2c9f9e4c
set_option linter.unusedVariables false
set_option linter.unusedSimpArgs false
/- Package journal: Append. -/
namespace Go.Proofs.YtcpbmempfeloaaaDoor
open Go.RowKit
set_option linter.unusedVariables false
set_option linter.unusedSimpArgs false

/-- An append of a record, at a step of a region that draws its order. -/
theorem step_append_jr {ops : Array Oper} {o : Oper} {a : Act} {K : Act → World → Prop} {Q : Exit → Act → World → Prop} {E : Prop} (W : World) (hgd : o.guard = none) (s x : Operand)
    (ho : o.op = .call { callee := .builtin .append, args := #[s, x], argTypes := #[90, 90] }) (v : Value) (T : List (Nat × Value × List UInt8)) (hs : a.eval s = v) (hown : Hid (W.ownsRow 0 94 2 v T.length (cellsJ T)))
    (b : Nat) (hx : a.eval x = .slice (some ⟨b, 0, none⟩) 1 1) (e : Nat) (vb : Value) (bs : List UInt8) (hvx : Hid (W.heap[b]? = some (.cells #[.int .u32 (e : Nat), vb] 94 (0, 0)))) (hvb : vb.oneCell' = true) (hn : T.length ≤ 1000000)
    (h : ∀ g cap w', Hid (w'.ownsRow 0 94 2 (.slice (some ⟨g, 0, none⟩) (T.length + 1) cap) (T.length + 1) (cellsJ (T ++ [(e, vb, bs)]))) → Hid (W.grownBy w' v.ownBlock) → Hid (OwnNext W v (.slice (some ⟨g, 0, none⟩) (T.length + 1) cap)) → K (a.put o.dst (.slice (some ⟨g, 0, none⟩) (T.length + 1) cap)) w') :
    if Region.wanted o (yielded ops a.tmps) = true then Oper.wp Tryd.prog o a W K Q else E := by
  obtain ⟨i0, hi, hz0, hz1, hz2⟩ := info_parts info_jr
  refine step_append_lies W hgd s x 90 ho 0 94 i0 _ 2 32 Tryd.underlying90 hi hz0 hz1 hz2 rfl (by decide) v T.length (cellsJ T) hs hown.out ⟨b, 0, none⟩ 1 1 [.int .u32 (e : Nat), vb] hx rfl
    (World.news_of_block hvx.out) (fun u hu => ?_) (by decide) (by unfold maxLen; omega) (by omega) (Nat.zero_le _) _ rfl ?_
  · rcases List.mem_cons.1 hu with rfl | hu
    · rfl
    · rw [List.mem_singleton.1 hu]; exact hvb
  · intro g cap w' h1 h2 h3 h4
    rw [cellsJ_snoc T (e, vb, bs)] at h1
    refine h g cap w' h1 h2 ?_
    rcases h3 with h3 | h3
    · exact .inl h3.symm
    · exact .inr ⟨g, rfl, by omega⟩

set_option maxRecDepth 100000 in
set_option maxHeartbeats 4000000 in
theorem jappend_calls {K : Nat → Obj → Prop} (w : World) (bj bd : Nat) (F G : Nat → Prop) (J : Jn) (D : Dk) (v : Value) (b : List UInt8) (h : Jnl w bj bd G J) (hd : Dsk w bd F D) (hFG : ∀ c, G c → ¬ F c) (hFs : ∀ c, F c → c < w.heap.size) (hGs : ∀ c, G c → c < w.heap.size) (hG0 : ¬ G 0) (hb : BytesAt K w v b) (ht : TabOK w) (hq : D.pend.length < 1000000) :
    Calls Tryd.prog 15 #[.pointer (some ⟨bj, 0, none⟩), v] w fun e w' => e = .returned (.int .i64 (jappend J D b).1) ∧ (∃ m, w.heap.size ≤ m ∧ m ≤ w'.heap.size ∧ Jnl w' bj bd (fun c => (G c ∨ w.heap.size ≤ c) ∧ c < m) (jappend J D b).2.1 ∧ Dsk w' bd (fun c => F c ∨ m ≤ c) (jappend J D b).2.2) ∧ Fr (fun c _ => ¬ F c ∧ ¬ G c) w w' := by
  obtain ⟨va, vc, rfl⟩ := hb.form
  obtain ⟨loc, n, first, ep, low, H⟩ := J
  have hwf := h.wf
  have n1 : 1 ≤ n := hwf.n1
  have n100 : n ≤ 100 := hwf.n100
  have hf : first < 4294967296 := hwf.f
  have he : ep < 4294967296 := hwf.e
  have hH : H.length ≤ n := hwf.few
  have NQ : Hid (∀ W, Fr (fun _ _ => True) w W → Calls Tryd.prog 49 #[.pointer (some ⟨bj, 0, none⟩)] W fun e w' => e = .returned (.int .u64 ((first + H.length : Nat) : Int)) ∧ ∃ m, w' = W.drewN m) := fun W f => next_q W bj bd G _ (h.tt f)
  have CX : Hid (∀ W, Fr (fun _ _ => True) w W → W.cell? ⟨bj, 0, none⟩ = some (.pointer (some ⟨bd, 0, none⟩)) ∧ W.cell? ⟨bj, 2, none⟩ = some (.int .i64 (n : Nat)) ∧ W.cell? ⟨bj, 4, none⟩ = some (.int .u32 (ep : Nat))) := fun W f => by
    obtain ⟨vh, T, hj⟩ := h.tt f
    exact ⟨cell_mk hj.top rfl, cell_mk hj.top rfl, cell_mk hj.top rfl⟩
  have EJ : Hid (jappend ⟨loc, n, first, ep, low, H⟩ D b = if 43 < b.length then (2, ⟨loc, n, first, ep, low, H⟩, D) else if H.length = n ∨ 4294967295 < first + H.length then (42, ⟨loc, n, first, ep, low, H⟩, D) else
    ((D.write ((loc + 2 + (first + H.length) % n : Nat) : Int) (stampB (first + H.length) ep b)).1, ⟨loc, n, first, ep, low, H ++ [(ep, b)]⟩, (D.write ((loc + 2 + (first + H.length) % n : Nat) : Int) (stampB (first + H.length) ep b)).2)) := rfl
  have HJ := Lib.hid h
  have HD := Lib.hid hd
  have HB := Lib.hid hb
  have HT := Lib.hid ht
  have HFG := Lib.hid hFG
  have HFS := Lib.hid hFs
  have HGS := Lib.hid hGs
  have HQ := Lib.hid hq
  have SAME : Hid (∀ w', Fr (fun _ _ => True) w w' → (∃ m, w.heap.size ≤ m ∧ m ≤ w'.heap.size ∧ Jnl w' bj bd (fun c => (G c ∨ w.heap.size ≤ c) ∧ c < m) ⟨loc, n, first, ep, low, H⟩ ∧ Dsk w' bd (fun c => F c ∨ m ≤ c) D) ∧ Fr (fun c _ => ¬ F c ∧ ¬ G c) w w') := fun w' f => ⟨⟨w.heap.size, Nat.le_refl _, f.size, (HJ.out.inside.tt f).mono fun c h => ⟨.inl h.1, h.2⟩, (HD.out.tt f).mono fun c h => .inl h⟩, f.mono fun _ _ _ => trivial⟩
  clear h hd hb ht hFG hFs hGs hq hwf
  by_cases h43 : 43 < b.length
  · have h43' : (43 : Int) < b.length := by omega
    go_enter Tryd.func15, Tryd.ntmps15
    go_wp2
    go_ret
    rw [EJ.out, if_pos h43]
    exact ⟨rfl, SAME.out _ (Fr.refl _ _)⟩
  · have h43' : (b.length : Int) ≤ 43 := by omega
    obtain ⟨a6, cap6, c6⟩ : ∃ a cap, w.cell? ⟨bj, 6, none⟩ = some (.slice a H.length cap) := by
      obtain ⟨vh, T, hj⟩ := HJ.out
      obtain ⟨a, cap, rfl⟩ := own_form hj.row
      have := cell_mk (i := 6) hj.top rfl
      rw [hj.len] at this
      exact ⟨a, cap, this⟩
    have c2 := (CX.out w (Fr.refl _ _)).2.1
    have NQ0 : Hid (∀ k, Calls Tryd.prog 49 #[.pointer (some ⟨bj, 0, none⟩)] (w.drewN k) fun e w' => e = .returned (.int .u64 ((first + H.length : Nat) : Int)) ∧ ∃ m, w' = (w.drewN k).drewN m) := fun k => NQ.out _ ((Fr.refl _ w).drewN k)
    go_enter Tryd.func15, Tryd.ntmps15
    go_wp2_with fail
    obtain ⟨sq, hsq⟩ : ∃ sq, first + H.length = sq := ⟨_, rfl⟩
    rw [hsq] at NQ NQ0 EJ
    have HSQ := Lib.hid hsq
    clear hsq
    by_cases hful : H.length = n
    · have hful' : ((H.length : Int) == n) = true := by simp; omega
      have HF := Lib.hid hful
      clear hful
      go_quiet ((go_at_call 49; exact Calls.quiet_of (NQ0.out _)))
      go_wp2
      go_ret
      rw [EJ.out, if_neg h43, if_pos (.inl HF.out)]
      exact ⟨rfl, SAME.out _ ((Fr.refl _ _).drewN _)⟩
    · have hful' : ((H.length : Int) == n) = false := by simp; omega
      have hlt : Hid (H.length < n) := by show H.length < n; omega
      by_cases hm : 4294967295 < sq
      · have hm' : (4294967295 : Int) < sq := by omega
        go_quiet ((go_at_call 49; exact Calls.quiet_of (NQ0.out _)))
        go_wp2
        go_ret
        rw [EJ.out, if_neg h43, if_pos (.inr hm)]
        exact ⟨rfl, SAME.out _ ((Fr.refl _ _).drewN _)⟩
      · have hm' : (sq : Int) ≤ 4294967295 := by omega
        have hwr : IntKind.u32.wrap (sq : Int) = sq := by rw [IntKind.wrap_u32]; omega
        go_quiet ((go_at_call 49; exact Calls.quiet_of (NQ0.out _)))
        obtain ⟨wa, hwa⟩ : ∃ wa, w.drewN nq = wa := ⟨_, rfl⟩
        have FA : Hid (Fr (fun _ _ => True) w wa) := hwa ▸ (Fr.refl _ w).drewN nq
        rw [hwa]
        clear hwa c2 c6
        go_wp2_with fail
        (with_reducible refine (NQ.out wa FA.out).mono ?_)
        rintro e w1 ⟨rfl, m1, hw1⟩
        have F1 : Hid (Fr (fun _ _ => True) w w1) := by rw [hw1]; exact FA.out.drewN _
        clear hw1
        have c4 := (CX.out w1 F1.out).2.2
        have ST := stamp_calls w1 sq ep _ b (HB.out.tt F1.out) (HT.out.tt F1.out) (by omega) he
        simp only [if_neg h43] at ST
        have ST := Lib.hid ST
        go_wp2_with fail
        (with_reducible refine ST.out.mono ?_)
        rintro e w2 ⟨⟨a2, cap2, rfl, hb2⟩, f2⟩
        have F2 := Lib.hid (F1.out.trans f2)
        have B2 := Lib.hid hb2
        clear f2 hb2 ST c4
        have c4 := (CX.out w2 F2.out).2.2
        obtain ⟨vh, T, hj0⟩ := HJ.out
        obtain ⟨av, cv, rfl⟩ := own_form hj0.row
        have hj : JAt w2 bj bd G (.slice av T.length cv) T ⟨loc, n, first, ep, low, H⟩ := hj0.fr (K := fun _ _ => True) F2.out fun _ _ _ _ => trivial
        have HLEN : Hid (T.length = H.length) := hj.len
        have hT : T.length ≤ 1000000 := by have := HLEN.out; omega
        have c6 : w2.cell? ⟨bj, 6, none⟩ = some (.slice av T.length cv) := cell_mk hj.top rfl
        have J2 := Lib.hid hj
        have CV : Hid (∀ W, Fr (fun _ _ => True) w W → W.cell? ⟨bj, 6, none⟩ = some (.slice av T.length cv)) := fun W f => cell_mk (f.keep _ _ hj0.top trivial) rfl
        have HLT : Hid (T.length < n) := by have := HLEN.out; have := hlt.out; show T.length < n; omega
        have HP : Hid (ep < 4294967296 ∧ b.length ≤ 43) := ⟨he, by omega⟩
        clear hj hj0
        have CL := Lib.hid (clone_calls w2.drew _ _ (HB.out.tt F2.out.drew) (by omega))
        go_upto_region 7 with fail
        go_cut [54] (fun _ wx => Jnl wx bj bd (fun c => G c ∨ w.heap.size ≤ c) ⟨loc, n, first, ep, low, H ++ [(ep, b)]⟩ ∧ BytesAt (New w1.heap.size) wx (.slice a2 64 cap2) (stampB sq ep b) ∧ Fr (fun c _ => ¬ G c) w wx)
        case first =>
          have G2 : Hid (∀ c, (G c ∨ w.heap.size ≤ c) → G c ∨ w.heap.size ≤ c) := fun c h => h
          go_region_law (first
            | (refine step_append_jr WA rfl _ _ rfl _ T rfl OA w3.heap.size rfl ep (.slice a3 b.length cap3) b HX rfl hT ?_; intro g5 cap5 w5 O5 G5 N5; obtain ⟨c6', z6', j6, f6⟩ := JA.out.store G5.out O5.out N5.out (G' := fun c => G c ∨ w.heap.size ≤ c) (fun c h => .inl h) SZ.out (ep, .slice a3 b.length cap3, b) rfl BA.out JA.out.rowkind HP.out HLT.out; have J6 := Lib.hid j6; have F6 := Lib.hid f6; clear j6 f6)
            | (go_simp; go_at_call 48; (with_reducible refine CL.out.mono ?_); rintro e w3 ⟨a3, cap3, rfl, hb3, f3⟩; have F3 := Lib.hid (F2.out.drew.trans f3); have B3 := Lib.hid hb3; have c63 := CV.out w3 F3.out; have c43 := (CX.out w3 F3.out).2.2; obtain ⟨WA, hWA⟩ : ∃ WA, w3.alloc (.cells #[.int .u32 (ep : Nat), .slice a3 b.length cap3] 94 (0, 0)) = WA := ⟨_, rfl⟩; have FW : Hid (Fr (fun _ _ => True) w3 WA) := hWA ▸ (Fr.refl _ w3).alloc _; have G3 : Hid (Fr (fun _ _ => True) w2 WA) := ((Fr.refl _ w2).drew.trans f3).trans FW.out; have JA : Hid (JAt WA bj bd G (.slice av T.length cv) T ⟨loc, n, first, ep, low, H⟩) := J2.out.fr (K := fun _ _ => True) G3.out fun _ _ _ _ => trivial; have OA := Lib.hid JA.out.row; have HX : Hid (WA.heap[w3.heap.size]? = some (.cells #[.int .u32 (ep : Nat), .slice a3 b.length cap3] 94 (0, 0))) := hWA ▸ heap_alloc_new _ _; have c6A := CV.out WA (F3.out.trans FW.out); have c4A := (CX.out WA (F3.out.trans FW.out)).2.2; have BA : Hid (BytesAt (KJ fun c => G c ∨ w.heap.size ≤ c) WA (.slice a3 b.length cap3) b) := (B3.out.tt FW.out).mono fun c o _ hc => ⟨.inr (Nat.le_trans F2.out.size hc.1), hc.2⟩; have SZ : Hid (∀ c, WA.heap.size ≤ c → G c ∨ w.heap.size ≤ c) := fun c hc => .inr (Nat.le_trans (F3.out.trans FW.out).size hc); clear hb3 f3))
          all_goals
            go_wp2_with fail
            go_meet
            case rel =>
              refine ⟨⟨_, _, J6.out⟩, ?_, ?_⟩
              · exact (B2.out.tt ((Fr.refl _ w2).trans G3.out)).fr (F6.out.mono fun c o h hg => by
                  have := HGS.out c hg
                  have := F1.out.size
                  have := h.1
                  omega)
              · exact (F2.out.mono fun _ _ _ => trivial).trans ((G3.out.mono fun _ _ _ => trivial).trans F6.out)
        case rest =>
          obtain ⟨jx, bx, fx⟩ := hcut
          have JX := Lib.hid jx
          have BX := Lib.hid bx
          have FX := Lib.hid fx
          have DX : Hid (Dsk wc bd F D) := HD.out.fr fx fun c _ _ hc hg => HFG.out c hg hc
          have NF : Hid (∀ c, (G c ∨ w.heap.size ≤ c) → ¬ F c) := fun c h hf => by
            rcases h with h | h
            · exact HFG.out c h hf
            · have := HFS.out c hf; omega
          obtain ⟨sec, hsec⟩ : ∃ sec, loc + 2 + sq % n = sec := ⟨_, rfl⟩
          rw [hsec] at EJ
          have SX : Hid (∀ W, Fr (fun _ _ => True) wc W → Calls Tryd.prog 52 #[.pointer (some ⟨bj, 0, none⟩), .int .u32 (sq : Nat)] W fun e w' => e = .returned (.int .i64 (sec : Nat)) ∧ Fr (fun _ _ => True) W w') := fun W f => by
            have := sector_calls W bj bd _ _ sq _ rfl (JX.out.tt f) (by omega)
            unfold Jn.sec at this
            rw [hsec] at this
            exact this
          obtain ⟨c8, D8, h8⟩ : ∃ c8 D8, D.write (sec : Nat) (stampB sq ep b) = (c8, D8) := ⟨_, _, rfl⟩
          rw [h8] at EJ
          have WX : Hid (∀ W, Fr (fun _ _ => True) wc W → Calls Tryd.prog 51 #[.pointer (some ⟨bd, 0, none⟩), .int .i64 (sec : Nat), .slice a2 64 cap2] W fun e w' => e = .returned (.int .i64 c8) ∧ Dsk w' bd (fun c => F c ∨ W.heap.size ≤ c) D8 ∧ Fr (fun c _ => ¬ F c) W w') := fun W f => by
            have := write_calls W bd F D (sec : Nat) _ _ (DX.out.tt f) (BX.out.tt f) (fun c o _ hc hf => by
              have := HFS.out c hf
              have := F1.out.size
              have := hc.1
              omega) HQ.out
            rw [h8] at this
            exact this
          have c0 : ∀ W, Fr (fun c _ => ¬ F c) wc W → W.cell? ⟨bj, 0, none⟩ = some (.pointer (some ⟨bd, 0, none⟩)) := fun W f => by
            obtain ⟨vh, T, hj⟩ := JX.out
            exact cell_mk (f.keep _ _ hj.top (NF.out _ hj.gb)) rfl
          have C0 := Lib.hid c0
          have S0 : Hid (Fr (fun c _ => ¬ F c) wc wc.drew) := (Fr.refl _ _).drew
          clear jx bx fx hsec h8 c0 ST
          go_wp2_with fail
          go_region_held3 (fun W => W.cell? ⟨bj, 0, none⟩ = some (.pointer (some ⟨bd, 0, none⟩))) (first | exact C0.out _ S0.out | exact C0.out _ S9.out | exact C0.out _ S10.out)
            (first
              | (go_at_call 52; (with_reducible refine (SX.out _ (Fr.refl _ _).drew).mono ?_); rintro e w9 ⟨rfl, f9⟩; have F9 : Hid (Fr (fun _ _ => True) wc w9) := (Fr.refl _ wc).drew.trans f9; have S9 : Hid (Fr (fun c _ => ¬ F c) wc w9) := F9.out.mono fun _ _ _ => trivial; clear f9)
              | (go_at_call 51; (with_reducible refine (WX.out _ F9.out).mono ?_); rintro e w10 ⟨rfl, d10, f10⟩; have D10 := Lib.hid d10; have F10 := Lib.hid f10; have S10 := Lib.hid (S9.out.trans f10); clear d10 f10))
          all_goals
            go_wp2
            go_ret
            rw [EJ.out, if_neg h43, if_neg (fun h => by
              rcases h with h | h
              · exact hful h
              · exact hm h)]
            refine ⟨rfl, ⟨w9.heap.size, ?_, F10.out.size, ?_, D10.out⟩, ?_⟩
            · exact Nat.le_trans FX.out.size F9.out.size
            · exact ((JX.out.tt F9.out).inside.fr F10.out fun c _ _ h => NF.out c h.1)
            · exact Fr.within (((FX.out.mono fun c _ h => h.1.2).trans (F9.out.mono fun _ _ _ => trivial)).trans (F10.out.mono fun c _ h => h.1.1))
end Go.Proofs.YtcpbmempfeloaaaDoor
/- Package journal: Trim. -/
namespace Go.Proofs.YtcpbmempfeloaaaDoor
open Go.RowKit
set_option linter.unusedVariables false
set_option linter.unusedSimpArgs false

theorem cellsJ_len (T : List (Nat × Value × List UInt8)) : (cellsJ T).length = T.length * 2 := by
  induction T with
  | nil => rfl
  | cons x T ih => unfold cellsJ at ih ⊢; rw [List.flatMap_cons, List.length_append, ih, List.length_cons]; simp; omega
theorem cellsJ_append (T U : List (Nat × Value × List UInt8)) : cellsJ (T ++ U) = cellsJ T ++ cellsJ U := by simp [cellsJ]
theorem cellsJ_drop (T : List (Nat × Value × List UInt8)) (k : Nat) (hk : k ≤ T.length) : (cellsJ T).drop (k * 2) = cellsJ (T.drop k) := by
  have h := cellsJ_append (T.take k) (T.drop k)
  rw [List.take_append_drop] at h
  have hl : (cellsJ (T.take k)).length = k * 2 := by rw [cellsJ_len, List.length_take, Nat.min_eq_left hk]
  rw [h, List.drop_append_of_le_length (by omega), ← hl, List.drop_length, List.nil_append]
theorem cellsJ_take (T : List (Nat × Value × List UInt8)) (k : Nat) (hk : k ≤ T.length) : (cellsJ T).take (k * 2) = cellsJ (T.take k) := by
  have h := cellsJ_append (T.take k) (T.drop k)
  rw [List.take_append_drop] at h
  have hl : (cellsJ (T.take k)).length = k * 2 := by rw [cellsJ_len, List.length_take, Nat.min_eq_left hk]
  rw [h, List.take_append_of_le_length (by omega), List.take_of_length_le (by omega)]
theorem JAt.ones {w : World} {bj bd : Nat} {G : Nat → Prop} {vh : Value} {T : List (Nat × Value × List UInt8)} {J : Jn} (h : JAt w bj bd G vh T J) : ∀ u ∈ cellsJ T, u.oneCell' = true := fun u hu => by
  obtain ⟨x, hx, hu⟩ := List.mem_flatMap.1 hu
  obtain ⟨a, c, hv⟩ := (h.bs x hx).form
  rcases List.mem_cons.1 hu with rfl | hu
  · rfl
  · rw [List.mem_singleton.1 hu, hv]; rfl
/-- The journal behind a change of its row, and a store. -/
theorem JAt.rerow {w w1 : World} {bj bd : Nat} {G : Nat → Prop} {vh v' : Value} {T T' : List (Nat × Value × List UInt8)} {J : Jn} (h : JAt w bj bd G vh T J) (hf : Fr (fun c _ => vh.ownBlock ≠ some c) w w1) (ho : w1.ownsRow 0 94 2 v' T'.length (cellsJ T')) (hn : v'.ownBlock = vh.ownBlock)
    (hT : ∀ x ∈ T', x ∈ T) (H' : List (Nat × List UInt8)) (hH : H' = T'.map fun x => (x.1, x.2.2)) (hl : T'.length ≤ J.n) :
    w1.cell? ⟨bj, 6, none⟩ = some vh ∧ w1.frozen? ⟨bj, 6, none⟩ = false ∧ JAt (w1.setCell ⟨bj, 6, none⟩ v') bj bd G v' T' { J with held := H' } ∧ Fr (fun c _ => ¬ G c) w (w1.setCell ⟨bj, 6, none⟩ v') := by
  have t1 := hf.keep _ _ h.top h.ne
  have f1 : Fr (fun c _ => ¬ G c) w (w1.setCell ⟨bj, 6, none⟩ v') := (hf.mono fun c _ hc e => hc (h.rb c e)).setCell (fun o ho hk => hk h.gb) _
  have hKB : ∀ {v : Value} {bs : List UInt8}, BytesAt (KJ G) w v bs → BytesAt (KJ G) (w1.setCell ⟨bj, 6, none⟩ v') v bs := fun {v bs} hb => by
    have e1 : Fr (fun c o => c ≠ bj ∧ vh.ownBlock ≠ some c) w (w1.setCell ⟨bj, 6, none⟩ v') := (hf.mono fun c _ hk => hk.2).setCell (fun o ho hk => hk.1 rfl) _
    exact KJ.bytes_fr hb e1 fun c o ho _ ⟨cs, fz, he⟩ => ⟨fun q => by
      rw [q, h.top, he] at ho
      exact (nomatch ho), fun q => h.rowkind c q o ho cs fz he⟩
  refine ⟨cell_mk t1 rfl, frozen_mk t1, ⟨?_, ?_, fun c e => h.rb c (hn ▸ e), hH, fun y hy => hKB (h.bs y (hT y hy)), h.gb, ?_⟩, f1⟩
  · have := heap_setCell_same (o := 6) t1 v'
    rw [this]; rfl
  · exact ownsRow_setCell_ne ho (by rw [hn]; exact h.ne) _
  · have hw := h.wf
    refine ⟨hw.n1, hw.n100, hw.locm, hw.f, hw.e, hw.l, ?_, fun y hy => ?_⟩
    · show H'.length ≤ J.n
      rw [hH, List.length_map]; exact hl
    · have hy' : y ∈ T'.map fun x => (x.1, x.2.2) := hH ▸ hy
      obtain ⟨x, hx, rfl⟩ := List.mem_map.1 hy'
      exact hw.hd _ (by rw [h.tr]; exact List.mem_map.2 ⟨x, hT x hx, rfl⟩)
theorem lastE_get (low : Nat) (L : List (Nat × List UInt8)) (k : Nat) (hk : k < L.length) : lastE low (L.take (k + 1)) = L[k].1 := by
  rw [List.take_succ_eq_append_getElem hk, lastE_snoc]
/-- What a call leaves of a journal and its disk. -/
def JPost (w w' : World) (bj bd : Nat) (F G : Nat → Prop) (J : Jn) (D : Dk) : Prop := ∃ m, w.heap.size ≤ m ∧ m ≤ w'.heap.size ∧ Jnl w' bj bd (fun c => (G c ∨ w.heap.size ≤ c) ∧ c < m) J ∧ Dsk w' bd (fun c => F c ∨ m ≤ c) D

set_option maxRecDepth 100000 in
set_option maxHeartbeats 4000000 in
theorem jtrim_calls (w : World) (bj bd : Nat) (F G : Nat → Prop) (J : Jn) (D : Dk) (k : Int) (h : Jnl w bj bd G J) (hd : Dsk w bd F D) (hFG : ∀ c, G c → ¬ F c) (hGs : ∀ c, G c → c < w.heap.size) (hG0 : ¬ G 0) (ht : TabOK w) (hq : D.pend.length < 1000000) :
    Calls Tryd.prog 19 #[.pointer (some ⟨bj, 0, none⟩), .int .i64 k] w fun e w' => e = .returned (.int .i64 (jtrim J D k).1) ∧ JPost w w' bj bd F G (jtrim J D k).2.1 (jtrim J D k).2.2 ∧ Fr (fun c _ => ¬ F c ∧ ¬ G c) w w' := by
  obtain ⟨loc, n, first, ep, low, H⟩ := J
  obtain ⟨vh, T, hj⟩ := h
  obtain ⟨av, cv, rfl⟩ := own_form hj.row
  have hn100 : n ≤ 100 := hj.wf.n100
  have hf : first < 4294967296 := hj.wf.f
  have hlw : low < 4294967296 := hj.wf.l
  have HLEN : Hid (T.length = H.length) := hj.len
  have hTn : T.length ≤ n := by rw [HLEN.out]; exact hj.wf.few
  have HTR : Hid (H = T.map fun x => (x.1, x.2.2)) := hj.tr
  have EJ : Hid (jtrim ⟨loc, n, first, ep, low, H⟩ D k = if k < 0 ∨ (H.length : Int) < k then (1, ⟨loc, n, first, ep, low, H⟩, D) else ((jsave ⟨loc, n, (first + k.toNat) % 4294967296, ep, lastE low (H.take k.toNat), H.drop k.toNat⟩ D).1, ⟨loc, n, (first + k.toNat) % 4294967296, ep, lastE low (H.take k.toNat), H.drop k.toNat⟩, (jsave ⟨loc, n, (first + k.toNat) % 4294967296, ep, lastE low (H.take k.toNat), H.drop k.toNat⟩ D).2)) := rfl
  have c6 : w.cell? ⟨bj, 6, none⟩ = some (.slice av T.length cv) := cell_mk hj.top rfl
  have HJ := Lib.hid hj
  have HD := Lib.hid hd
  have HT := Lib.hid ht
  have HFG := Lib.hid hFG
  have HGS := Lib.hid hGs
  have HQ := Lib.hid hq
  clear hj hd ht hFG hGs hq
  by_cases hk : k < 0 ∨ (T.length : Int) < k
  · have OUT : Hid (jtrim ⟨loc, n, first, ep, low, H⟩ D k = (1, ⟨loc, n, first, ep, low, H⟩, D)) := by
      show _ = _
      rw [EJ.out, if_pos (by rw [← HLEN.out]; exact hk)]
    by_cases h0 : k < 0
    · have h0' : decide (k < 0) = true := by simpa using h0
      clear hk
      go_enter Tryd.func19, Tryd.ntmps19
      go_wp2
      go_ret
      rw [OUT.out]
      exact ⟨rfl, ⟨w.heap.size, Nat.le_refl _, Nat.le_refl _, ⟨_, T, HJ.out⟩ |> fun h : Jnl w bj bd G _ => h.mono fun c hc => ⟨.inl hc, HGS.out c hc⟩, HD.out.mono fun c hc => .inl hc⟩, Fr.refl _ _⟩
    · have h0' : decide (k < 0) = false := by simpa using h0
      have h1' : (T.length : Int) < k := by omega
      clear hk
      go_enter Tryd.func19, Tryd.ntmps19
      go_wp2
      go_ret
      rw [OUT.out]
      exact ⟨rfl, ⟨w.heap.size, Nat.le_refl _, Nat.le_refl _, ⟨_, T, HJ.out⟩ |> fun h : Jnl w bj bd G _ => h.mono fun c hc => ⟨.inl hc, HGS.out c hc⟩, HD.out.mono fun c hc => .inl hc⟩, Fr.refl _ _⟩
  · obtain ⟨kn, rfl⟩ := Int.eq_ofNat_of_zero_le (show 0 ≤ k by omega)
    have hkT : kn ≤ T.length := by omega
    have h1' : decide ((T.length : Int) < kn) = false := by simp; omega
    have h1n : decide (T.length < kn) = false := by simp; omega
    have hwk : IntKind.u32.wrap (kn : Int) = kn := by rw [IntKind.wrap_u32]; omega
    obtain ⟨f', hf'⟩ : ∃ f', (first + kn) % 4294967296 = f' := ⟨_, rfl⟩
    have hwf : IntKind.u32.wrap ((first : Int) + (kn : Int)) = (f' : Int) := by rw [IntKind.wrap_u32, ← hf']; omega
    have hff : f' < 4294967296 := by rw [← hf']; exact Nat.mod_lt _ (by decide)
    obtain ⟨l', hl'⟩ : ∃ l', lastE low (H.take kn) = l' := ⟨_, rfl⟩
    have E2 := EJ.out
    rw [if_neg (by rw [← HLEN.out]; exact hk), Int.toNat_natCast, hf', hl'] at E2
    have EQ := Lib.hid E2
    have HL := Lib.hid hl'
    clear hk E2 hf' hl' EJ
    have TURN : Hid (∀ w2, Fr (fun c _ => c ≠ bj) w w2 → w2.heap[bj]? = some (.cells #[.pointer (some ⟨bd, 0, none⟩), .int .i64 (loc : Nat), .int .i64 (n : Nat), .int .u32 (f' : Nat), .int .u32 (ep : Nat), .int .u32 (l' : Nat), .slice av T.length cv] 92 (0, 0)) → l' < 4294967296 → JAt w2 bj bd G (.slice av T.length cv) T ⟨loc, n, f', ep, l', H⟩) := fun w2 f t hl => HJ.out.turn f t rfl (by
      have hw := HJ.out.wf
      exact ⟨hw.n1, hw.n100, hw.locm, hff, hw.e, hl, hw.few, hw.hd⟩)
    have c3 : w.cell? ⟨bj, 3, none⟩ = some (.int .u32 (first : Nat)) := cell_mk HJ.out.top rfl
    have z3 := frozen_mk (i := 3) HJ.out.top
    have z5 := frozen_mk (i := 5) HJ.out.top
    have c5 : w.cell? ⟨bj, 5, none⟩ = some (.int .u32 (low : Nat)) := cell_mk HJ.out.top rfl
    by_cases hz : kn = 0
    · subst hz
      have hl0 : l' = low := by rw [← HL.out]; rfl
      have h2 : JAt (w.setCell ⟨bj, 3, none⟩ (.int .u32 (f' : Nat))) bj bd G (.slice av T.length cv) T ⟨loc, n, f', ep, l', H⟩ := TURN.out _ ((Fr.refl _ w).setCell (fun _ _ h => h rfl) _) (by
        have := heap_setCell_same (o := 3) HJ.out.top (.int .u32 (f' : Nat))
        rw [this, hl0]; rfl) (by omega)
      have f2 : Fr (fun c _ => c ≠ bj) w (w.setCell ⟨bj, 3, none⟩ (.int .u32 (f' : Nat))) := (Fr.refl _ w).setCell (fun _ _ h => h rfl) _
      have hwf' : IntKind.u32.wrap (first : Int) = (f' : Int) := by have := hwf; simpa using this
      have hfe : (first : Int) = f' := by rw [← hwf', IntKind.wrap_u32]; omega
      have hfn : first = f' := by omega
      have J2 := Lib.hid h2
      have F2 := Lib.hid f2
      subst hfn
      clear h2 f2 TURN hl0 hwf hwf' hfe
      go_enter Tryd.func19, Tryd.ntmps19
      go_wp2_with fail
      obtain ⟨w2, hw2⟩ : ∃ w2, w.setCell ⟨bj, 3, none⟩ (.int .u32 (first : Nat)) = w2 := ⟨_, rfl⟩
      rw [hw2] at J2 F2 ⊢
      clear hw2 c3 z3 z5 c5 c6
      have DL := delj_any w2 0 (.slice av T.length cv) T.length 0 0 0 0 rfl rfl (cellsJ T) J2.out.row J2.out.ones (Nat.zero_le _) hkT (by omega)
      (with_reducible refine DL.mono ?_)
      rintro e w3 ⟨⟨v3, rfl, o3, b3⟩, f3⟩
      obtain ⟨a3, c3', rfl⟩ := own_form o3
      have o3' : w3.ownsRow 0 94 2 (.slice a3 (0 + (T.length - 0)) c3') (T.drop 0).length (cellsJ (T.drop 0)) := by
        have o := o3
        rw [Nat.zero_mul, List.take_zero, List.nil_append, cellsJ_drop T 0 hkT] at o
        rw [List.length_drop]
        rw [Nat.zero_add] at o ⊢
        exact o
      obtain ⟨c6', z6', j4, f4⟩ := J2.out.rerow f3 o3' b3 (fun x hx => List.mem_of_mem_drop hx) (H.drop 0) (by rw [HTR.out, List.map_drop]) (by rw [List.length_drop]; show _ ≤ n; omega)
      have F4 : Hid (Fr (fun c _ => ¬ G c) w (w3.setCell ⟨bj, 6, none⟩ (.slice a3 (0 + (T.length - 0)) c3'))) := (F2.out.mono fun c _ hc e => hc (e ▸ HJ.out.gb)).trans f4
      have J4 := Lib.hid j4
      clear j4 f4 o3 o3' b3 f3 DL
      obtain ⟨nl, hnl⟩ : ∃ nl, 0 + (T.length - 0) = nl := ⟨_, rfl⟩
      rw [hnl] at F4 J4 ⊢
      clear hnl
      go_wp2_with fail
      obtain ⟨w4, hw4⟩ : ∃ w4, w3.setCell ⟨bj, 6, none⟩ (.slice a3 nl c3') = w4 := ⟨_, rfl⟩
      rw [hw4] at F4 J4 ⊢
      clear hw4 c6' z6'
      have SV := jsave_calls w4 bj bd G F _ D ⟨_, _, J4.out⟩ (HD.out.fr F4.out fun c _ _ hc hg => HFG.out c hg hc) HFG.out (fun i hi => F4.out.cell (fun _ _ => hG0) (HT.out i hi)) HQ.out
      (with_reducible refine SV.mono ?_)
      rintro e w5 ⟨rfl, d5, f5⟩
      have D5 := Lib.hid d5
      have F5 := Lib.hid f5
      clear d5 f5 SV
      go_wp2
      go_ret
      have hs4 := F4.out.size
      have hs5 := F5.out.size
      rw [EQ.out]
      refine ⟨rfl, ⟨w4.heap.size, hs4, hs5, ?_, D5.out⟩, ?_⟩
      · have j5 : Jnl w5 bj bd G _ := Jnl.fr ⟨_, _, J4.out⟩ F5.out fun c _ _ hc => HFG.out c hc
        exact j5.mono fun c hc => ⟨.inl hc, by have := HGS.out c hc; omega⟩
      · exact (F4.out.mono fun c _ hc => hc.2).trans (F5.out.mono fun c _ hc => hc.1)
    · obtain ⟨kp, rfl⟩ : ∃ kp, kn = kp + 1 := ⟨kn - 1, by omega⟩
      obtain ⟨g, rfl⟩ : ∃ g, av = some ⟨g, 0, none⟩ := by
        rcases HJ.out.row.2 with ⟨e, e2⟩ | ⟨g, cap, cur, e, _⟩
        · omega
        · cases e; exact ⟨g, rfl⟩
      obtain ⟨k0, _⟩ := jr_cells HJ.out.row kp (by omega)
      have hlk : l' = T[kp].1 := by
        rw [← HL.out, lastE_get low H kp (by rw [← HLEN.out]; omega)]
        have := HTR.out
        subst this
        simp
      have hll : l' < 4294967296 := by
        have := HJ.out.wf.hd (T[kp].1, T[kp].2.2) (by rw [HJ.out.tr]; exact List.mem_map.2 ⟨T[kp], List.getElem_mem _, rfl⟩)
        rw [hlk]; exact this.1
      rw [← hlk] at k0
      have f2 : Fr (fun c _ => c ≠ bj) w ((w.setCell ⟨bj, 5, none⟩ (.int .u32 (l' : Nat))).setCell ⟨bj, 3, none⟩ (.int .u32 (f' : Nat))) := ((Fr.refl _ w).setCell (fun _ _ h => h rfl) _).setCell (fun _ _ h => h rfl) _
      have h2 := TURN.out _ f2 (by
        have := heap_setCell_same (o := 3) (heap_setCell_same (o := 5) HJ.out.top (.int .u32 (l' : Nat))) (.int .u32 (f' : Nat))
        rw [this]; rfl) hll
      have J2 := Lib.hid h2
      have F2 := Lib.hid f2
      obtain ⟨kz, hkz⟩ : ∃ kz : Int, ((kp + 1 : Nat) : Int) = kz := ⟨_, rfl⟩
      have hk2 : ((kp + 1 : Nat) : Int) = kz := hkz
      rw [hkz] at hwk hwf
      have hks : kz - 1 = kp := by omega
      have hk0 : 0 < kz := by omega
      have hkn : decide (kz < 0) = false := by simp; omega
      have hkt : decide ((T.length : Int) < kz) = false := by simp; omega
      have HK2 := Lib.hid hk2
      show Calls _ _ #[_, .int .i64 (((kp + 1 : Nat)) : Int)] _ _
      rw [hkz]
      have hkl : (kp : Int) < T.length := by omega
      clear h2 f2 TURN hlk hkz hk2 h1' h1n hz
      go_enter Tryd.func19, Tryd.ntmps19
      go_wp2_with fail
      have hk2 := HK2.out
      obtain ⟨w2, hw2⟩ : ∃ w2, (w.setCell ⟨bj, 5, none⟩ (.int .u32 (l' : Nat))).setCell ⟨bj, 3, none⟩ (.int .u32 (f' : Nat)) = w2 := ⟨_, rfl⟩
      rw [hw2] at J2 F2 ⊢
      clear hw2 c3 z3 z5 c5 c6
      have DL := delj_any w2 0 (.slice (some ⟨g, 0, none⟩) T.length cv) T.length 0 (kp + 1) 0 kz rfl hk2.symm (cellsJ T) J2.out.row J2.out.ones (Nat.zero_le _) hkT (by omega)
      (with_reducible refine DL.mono ?_)
      rintro e w3 ⟨⟨v3, rfl, o3, b3⟩, f3⟩
      obtain ⟨a3, c3', rfl⟩ := own_form o3
      have o3' : w3.ownsRow 0 94 2 (.slice a3 (0 + (T.length - (kp + 1))) c3') (T.drop (kp + 1)).length (cellsJ (T.drop (kp + 1))) := by
        have o := o3
        rw [Nat.zero_mul, List.take_zero, List.nil_append, cellsJ_drop T (kp + 1) hkT] at o
        rw [List.length_drop]
        rw [Nat.zero_add] at o ⊢
        exact o
      obtain ⟨c6', z6', j4, f4⟩ := J2.out.rerow f3 o3' b3 (fun x hx => List.mem_of_mem_drop hx) (H.drop (kp + 1)) (by rw [HTR.out, List.map_drop]) (by rw [List.length_drop]; show _ ≤ n; omega)
      have F4 : Hid (Fr (fun c _ => ¬ G c) w (w3.setCell ⟨bj, 6, none⟩ (.slice a3 (0 + (T.length - (kp + 1))) c3'))) := (F2.out.mono fun c _ hc e => hc (e ▸ HJ.out.gb)).trans f4
      have J4 := Lib.hid j4
      clear j4 f4 o3 o3' b3 f3 DL
      obtain ⟨nl, hnl⟩ : ∃ nl, 0 + (T.length - (kp + 1)) = nl := ⟨_, rfl⟩
      rw [hnl] at F4 J4 ⊢
      clear hnl
      go_wp2_with fail
      obtain ⟨w4, hw4⟩ : ∃ w4, w3.setCell ⟨bj, 6, none⟩ (.slice a3 nl c3') = w4 := ⟨_, rfl⟩
      rw [hw4] at F4 J4 ⊢
      clear hw4 c6' z6'
      have SV := jsave_calls w4 bj bd G F _ D ⟨_, _, J4.out⟩ (HD.out.fr F4.out fun c _ _ hc hg => HFG.out c hg hc) HFG.out (fun i hi => F4.out.cell (fun _ _ => hG0) (HT.out i hi)) HQ.out
      (with_reducible refine SV.mono ?_)
      rintro e w5 ⟨rfl, d5, f5⟩
      have D5 := Lib.hid d5
      have F5 := Lib.hid f5
      clear d5 f5 SV
      go_wp2
      go_ret
      have hs4 := F4.out.size
      have hs5 := F5.out.size
      have eq2 := EQ.out
      rw [HK2.out] at eq2
      rw [eq2]
      refine ⟨rfl, ⟨w4.heap.size, hs4, hs5, ?_, D5.out⟩, ?_⟩
      · have j5 : Jnl w5 bj bd G _ := Jnl.fr ⟨_, _, J4.out⟩ F5.out fun c _ _ hc => HFG.out c hc
        exact j5.mono fun c hc => ⟨.inl hc, by have := HGS.out c hc; omega⟩
      · exact (F4.out.mono fun c _ hc => hc.2).trans (F5.out.mono fun c _ hc => hc.1)
end Go.Proofs.YtcpbmempfeloaaaDoor
/- Package journal: Cut. -/
namespace Go.Proofs.YtcpbmempfeloaaaDoor
open Go.RowKit
set_option linter.unusedVariables false
set_option linter.unusedSimpArgs false

theorem run_slice_toS {P : Program} {t e : TypeId} (s : Nat) (ht : P.underlying t = some (.slice e)) (hs : (sizeOf e).run P = fun w => .ok s w) (w : World) (a : Option Addr) (len cap n : Nat) (k : IntKind) (h : n ≤ cap) :
    (Instr.slice t (.slice a len cap) none (some (.int k n)) none).run P w = .ok (.slice a n cap) w := by
  have h0 : (0 : Int) ≤ n ∧ (n : Int) ≤ cap := by omega
  simp only [Instr.slice, Sem.run_bind, run_underlying ht, Result.andThen, Instr.sliceBounds, Instr.sliceBound, asIntOf, Sem.run_pure, h0, and_self, ↓reduceIte, hs]
  cases a <;> simp [Addr.add]
theorem size_jr : (sizeOf 94).run Tryd.prog = fun w => .ok 2 w := by kernel_rfl
theorem JAt.next0 {w : World} {bj bd : Nat} {G : Nat → Prop} {vh : Value} {T : List (Nat × Value × List UInt8)} {J : Jn} (h : JAt w bj bd G vh T J) : w.cell? ⟨bj, 0, none⟩ = some (.pointer (some ⟨bd, 0, none⟩)) ∧ w.cell? ⟨bj, 6, none⟩ = some vh ∧ w.frozen? ⟨bj, 6, none⟩ = false := ⟨cell_mk h.top rfl, cell_mk h.top rfl, frozen_mk h.top⟩

theorem jzero_succ (J : Jn) (k m : Nat) (D : Dk) : jzero J (k + 1) m D = jzero J k (m - 1) (D.write (J.sec ((J.first + (m - 1)) % 4294967296) : Nat) []).2 := rfl
set_option maxRecDepth 100000 in
set_option maxHeartbeats 4000000 in
theorem jcut_calls (w : World) (bj bd : Nat) (F G : Nat → Prop) (J : Jn) (D : Dk) (k : Int) (h : Jnl w bj bd G J) (hd : Dsk w bd F D) (hFG : ∀ c, G c → ¬ F c) (hFs : ∀ c, F c → c < w.heap.size) (hGs : ∀ c, G c → c < w.heap.size) (hG0 : ¬ G 0) (hF0 : ¬ F 0) (ht : TabOK w) (hq : D.pend.length < 900000) :
    Calls Tryd.prog 21 #[.pointer (some ⟨bj, 0, none⟩), .int .i64 k] w fun e w' => e = .returned (.int .i64 (jcut J D k).1) ∧ JPost w w' bj bd F G (jcut J D k).2.1 (jcut J D k).2.2 ∧ Fr (fun c _ => ¬ F c ∧ ¬ G c) w w' := by
  obtain ⟨loc, n, first, ep, low, H⟩ := J
  have hn1 : 1 ≤ n := h.wf.n1
  have hn100 : n ≤ 100 := h.wf.n100
  have hf : first < 4294967296 := h.wf.f
  have hep : ep < 4294967296 := h.wf.e
  have hH : H.length ≤ n := h.wf.few
  have EJ : Hid (jcut ⟨loc, n, first, ep, low, H⟩ D k = if k < 0 ∨ (H.length : Int) < k then (1, ⟨loc, n, first, ep, low, H⟩, D) else if ep = 4294967295 then (42, ⟨loc, n, first, ep, low, H⟩, D) else
    ((jsave ⟨loc, n, first, ep + 1, low, H.take (H.length - k.toNat)⟩ (jzero ⟨loc, n, first, ep, low, H⟩ k.toNat H.length D.sync).sync).1, ⟨loc, n, first, ep + 1, low, H.take (H.length - k.toNat)⟩, (jsave ⟨loc, n, first, ep + 1, low, H.take (H.length - k.toNat)⟩ (jzero ⟨loc, n, first, ep, low, H⟩ k.toNat H.length D.sync).sync).2)) := rfl
  obtain ⟨a6, cap6, c6⟩ : ∃ a cap, w.cell? ⟨bj, 6, none⟩ = some (.slice a H.length cap) := by
    obtain ⟨vh, T, hj⟩ := h
    obtain ⟨a, cap, rfl⟩ := own_form hj.row
    have := cell_mk (i := 6) hj.top rfl
    rw [hj.len] at this
    exact ⟨a, cap, this⟩
  have c4 : w.cell? ⟨bj, 4, none⟩ = some (.int .u32 (ep : Nat)) := by
    obtain ⟨vh, T, hj⟩ := h
    exact cell_mk hj.top rfl
  have c0 : w.cell? ⟨bj, 0, none⟩ = some (.pointer (some ⟨bd, 0, none⟩)) := by
    obtain ⟨vh, T, hj⟩ := h
    exact cell_mk hj.top rfl
  have HJ := Lib.hid h
  have HD := Lib.hid hd
  have HT := Lib.hid ht
  have HFG := Lib.hid hFG
  have HGS := Lib.hid hGs
  have HFS := Lib.hid hFs
  have HQ := Lib.hid hq
  have SAME : Hid (JPost w w bj bd F G ⟨loc, n, first, ep, low, H⟩ D) := ⟨w.heap.size, Nat.le_refl _, Nat.le_refl _, HJ.out.mono fun c hc => ⟨.inl hc, HGS.out c hc⟩, HD.out.mono fun c hc => .inl hc⟩
  clear h hd ht hFG hGs hFs hq
  by_cases hk : k < 0 ∨ (H.length : Int) < k
  · have OUT : Hid (jcut ⟨loc, n, first, ep, low, H⟩ D k = (1, ⟨loc, n, first, ep, low, H⟩, D)) := by
      show _ = _
      rw [EJ.out, if_pos hk]
    by_cases h0 : k < 0
    · have h0' : decide (k < 0) = true := by simpa using h0
      clear hk
      go_enter Tryd.func21, Tryd.ntmps21
      go_wp2
      go_ret
      rw [OUT.out]
      exact ⟨rfl, SAME.out, Fr.refl _ _⟩
    · have h0' : decide (k < 0) = false := by simpa using h0
      have h1' : (H.length : Int) < k := by omega
      clear hk
      go_enter Tryd.func21, Tryd.ntmps21
      go_wp2
      go_ret
      rw [OUT.out]
      exact ⟨rfl, SAME.out, Fr.refl _ _⟩
  · have h0' : decide (k < 0) = false := by simp; omega
    have h1' : decide ((H.length : Int) < k) = false := by simp; omega
    have hk0 : 0 ≤ k := by omega
    have hkH : k ≤ H.length := by omega
    by_cases hmx : ep = 4294967295
    · have hm' : ((ep : Int) == 4294967295) = true := by simp; omega
      have OUT : Hid (jcut ⟨loc, n, first, ep, low, H⟩ D k = (42, ⟨loc, n, first, ep, low, H⟩, D)) := by
        show _ = _
        rw [EJ.out, if_neg hk, if_pos hmx]
      have HMX := Lib.hid hmx
      clear hk hmx
      go_enter Tryd.func21, Tryd.ntmps21
      go_wp2
      go_ret
      rw [OUT.out]
      exact ⟨rfl, SAME.out, Fr.refl _ _⟩
    · have hm' : ((ep : Int) == 4294967295) = false := by simp; omega
      have E2 := EJ.out
      rw [if_neg hk, if_neg hmx] at E2
      obtain ⟨kn, hkn⟩ : ∃ kn, k.toNat = kn := ⟨_, rfl⟩
      have hkz : k = (kn : Int) := by omega
      rw [hkn] at E2
      obtain ⟨De, hDe⟩ : ∃ De, jzero ⟨loc, n, first, ep, low, H⟩ kn H.length D.sync = De := ⟨_, rfl⟩
      rw [hDe] at E2
      have EQ := Lib.hid E2
      have HDE := Lib.hid hDe
      have HKZ := Lib.hid hkz
      have SY := Lib.hid (sync_calls w bd F D HD.out)
      have hknH : kn ≤ H.length := by omega
      clear hk E2 hDe hkn EJ SAME hkz
      go_enter Tryd.func21, Tryd.ntmps21
      go_wp2_with fail
      (with_reducible refine SY.out.mono ?_)
      rintro e w1 ⟨rfl, d1, f1⟩
      obtain ⟨Fn, hFn⟩ : ∃ Fn : Nat → Prop, (fun c => F c ∨ w.heap.size ≤ c) = Fn := ⟨_, rfl⟩
      rw [hFn] at d1
      have HFN : Hid (∀ c, Fn c ↔ (F c ∨ w.heap.size ≤ c)) := fun c => by rw [← hFn]
      have NF : Hid (∀ c, G c → ¬ Fn c) := fun c hg hf => by
        rcases (HFN.out c).1 hf with h | h
        · exact HFG.out c hg h
        · have := HGS.out c hg; omega
      have D1 := Lib.hid d1
      have F1 : Hid (Fr (fun c _ => ¬ F c ∧ ¬ G c) w w1) := f1.mono fun c _ h => h.1
      have J1 : Hid (Jnl w1 bj bd G ⟨loc, n, first, ep, low, H⟩) := HJ.out.fr f1 fun c _ _ h => HFG.out c h
      have hqs : Hid (D.sync.pend.length ≤ D.pend.length) := pend_sync D
      clear d1 f1 hFn SY c6 c4 c0
      go_wp2
      go_loopw [29] (fun i wr => ∃ (j : Nat) (Dj : Dk), i = .int .i64 (j : Nat) ∧ j ≤ kn ∧ Hid (jzero ⟨loc, n, first, ep, low, H⟩ (kn - j) (H.length - j) Dj = De) ∧ Hid (Dj.pend.length ≤ D.pend.length + j) ∧ Hid (Jnl wr bj bd G ⟨loc, n, first, ep, low, H.take (H.length - j)⟩) ∧ Hid (Dsk wr bd Fn Dj) ∧ Hid (Fr (fun c _ => ¬ F c ∧ ¬ G c) w wr)) (fun i _ => kn - (intOf i).toNat)
      case atStart => exact ⟨0, D.sync, rfl, Nat.zero_le _, HDE, hqs, by
        show Jnl w1 bj bd G ⟨loc, n, first, ep, low, H.take (H.length - 0)⟩
        rw [Nat.sub_zero, List.take_length]; exact J1.out, D1, F1⟩
      case round =>
        obtain ⟨j, Dj, rfl, hj, HZ, HP, JJ, DJ, FJ⟩ := hrel
        by_cases hlt : j < kn
        · have hlt' : (j : Int) < k := by have := HKZ.out; omega
          obtain ⟨vh, T, hjt⟩ := JJ.out
          obtain ⟨av, cv, rfl⟩ := own_form hjt.row
          have HLEN : Hid (T.length = H.length - j) := by
            have := hjt.len
            rw [List.length_take, Nat.min_eq_left (by omega)] at this
            exact this
          obtain ⟨q, hTq⟩ : ∃ q, T.length = q + 1 := ⟨T.length - 1, by have := HLEN.out; omega⟩
          have hTn : T.length ≤ n := by have := HLEN.out; omega
          have hwq : IntKind.i64.wrap (q : Int) = q := IntWalk.i64_in _ (by omega)
          obtain ⟨g, rfl⟩ : ∃ g, av = some ⟨g, 0, none⟩ := by
            rcases hjt.row.2 with ⟨e, e2⟩ | ⟨g, cap, cur, e, _⟩
            · omega
            · cases e; exact ⟨g, rfl⟩
          have hrow := own_take hjt.row q (by omega)
          obtain ⟨hcap, _⟩ := own_cap hjt.row
          rw [cellsJ_take T q (by omega)] at hrow
          obtain ⟨c6', z6', j2, f2⟩ := hjt.rerow (w1 := wr) (v' := .slice (some ⟨g, 0, none⟩) q cv) (T' := T.take q) (Fr.refl _ _) (by rw [List.length_take, Nat.min_eq_left (by omega)]; exact hrow) rfl (fun x hx => List.mem_of_mem_take hx) (H.take (H.length - (j + 1))) (by
            have h1 := hjt.tr
            replace h1 : H.take (H.length - j) = T.map fun x => (x.1, x.2.2) := h1
            rw [List.map_take, ← h1, List.take_take]
            congr 1
            have := HLEN.out
            omega) (by rw [List.length_take]; show _ ≤ n; omega)
          have k6 : wr.cell? ⟨bj, 6, none⟩ = some (.slice (some ⟨g, 0, none⟩) (q + 1) cv) := by rw [hTq] at c6'; exact c6'
          have s6 := fun W => run_slice_toS 2 Tryd.underlying90 size_jr W (some ⟨g, 0, none⟩) (q + 1) cv q .i64 (by omega)
          have J2 := Lib.hid j2
          have F2 := Lib.hid f2
          have HTQ := Lib.hid hTq
          clear hjt hrow j2 f2 c6' hTq
          go_wp2_with fail
          go_region
          all_goals
            obtain ⟨w2, hw2⟩ : ∃ w2, (wr.setCell ⟨bj, 6, none⟩ (.slice (some ⟨g, 0, none⟩) q cv)).drew = w2 := ⟨_, rfl⟩
            rw [hw2]
            have J3 : Hid (Jnl w2 bj bd G ⟨loc, n, first, ep, low, H.take (H.length - (j + 1))⟩) := by
              rw [← hw2]; exact Jnl.tt ⟨_, _, J2.out⟩ (Fr.refl _ _).drew
            have F23 : Hid (Fr (fun c _ => ¬ G c) wr w2) := by rw [← hw2]; exact F2.out.drew
            have D3 : Hid (Dsk w2 bd Fn Dj) := DJ.out.fr F23.out fun c _ _ hf hg => NF.out c hg hf
            have F3 : Hid (Fr (fun c _ => ¬ F c ∧ ¬ G c) w w2) := FJ.out.trans (F23.out.mono fun c _ h => h.2)
            clear hw2 k6 z6' s6 J2 F2 F23
            obtain ⟨nx, hnx⟩ : ∃ nx, first + (H.take (H.length - (j + 1))).length = nx := ⟨_, rfl⟩
            have hnx2 : nx = first + (H.length - j - 1) := by rw [← hnx, List.length_take]; omega
            have HNX := Lib.hid hnx2
            obtain ⟨sq, hsq⟩ : ∃ sq, nx % 4294967296 = sq := ⟨_, rfl⟩
            have hsl : sq < 4294967296 := by rw [← hsq]; exact Nat.mod_lt _ (by decide)
            have hwr : IntKind.u32.wrap (nx : Int) = (sq : Int) := by rw [IntKind.wrap_u32, ← hsq]; omega
            have NX : Hid (∀ W, Fr (fun _ _ => True) w2 W → Calls Tryd.prog 49 #[.pointer (some ⟨bj, 0, none⟩)] W fun e w' => e = .returned (.int .u64 (nx : Nat)) ∧ Fr (fun _ _ => True) W w') := fun W f => by
              have := next_calls W bj bd G _ (J3.out.tt f)
              replace this : Calls _ _ _ W fun e w' => e = .returned (.int .u64 ((first + (H.take (H.length - (j + 1))).length : Nat) : Int)) ∧ Fr (fun _ _ => True) W w' := this
              rw [hnx] at this
              exact this
            obtain ⟨sec, hsec⟩ : ∃ sec, loc + 2 + sq % n = sec := ⟨_, rfl⟩
            have SX : Hid (∀ W, Fr (fun _ _ => True) w2 W → Calls Tryd.prog 52 #[.pointer (some ⟨bj, 0, none⟩), .int .u32 (sq : Nat)] W fun e w' => e = .returned (.int .i64 (sec : Nat)) ∧ Fr (fun _ _ => True) W w') := fun W f => by
              have := sector_calls W bj bd _ _ sq _ rfl (J3.out.tt f) hsl
              unfold Jn.sec at this
              rw [hsec] at this
              exact this
            obtain ⟨c8, D8, h8⟩ : ∃ c8 D8, Dj.write (sec : Nat) [] = (c8, D8) := ⟨_, _, rfl⟩
            have hp8 := pend_write Dj (sec : Nat) []
            rw [h8] at hp8
            have HP8 : Hid (D8.pend.length ≤ D.pend.length + (j + 1)) := by
              have := HP.out
              show D8.pend.length ≤ _
              replace hp8 : D8.pend.length ≤ Dj.pend.length + 1 := hp8
              omega
            have HZ8 : Hid (jzero ⟨loc, n, first, ep, low, H⟩ (kn - (j + 1)) (H.length - (j + 1)) D8 = De) := by
              have h1 := HZ.out
              rw [show kn - j = (kn - (j + 1)) + 1 by omega] at h1
              show _ = _
              rw [← h1]
              have e1 : (⟨loc, n, first, ep, low, H⟩ : Jn).sec ((first + (H.length - j - 1)) % 4294967296) = sec := by
                unfold Jn.sec
                show loc + 2 + _ % n = sec
                rw [← hnx2, hsq, hsec]
              rw [jzero_succ]
              show jzero _ _ _ D8 = jzero _ _ (H.length - j - 1) (Dj.write (((⟨loc, n, first, ep, low, H⟩ : Jn).sec ((first + (H.length - j - 1)) % 4294967296) : Nat) : Int) []).2
              rw [e1, h8, Nat.sub_sub]
            have WX : Hid (∀ W, Fr (fun _ _ => True) w2 W → Calls Tryd.prog 51 #[.pointer (some ⟨bd, 0, none⟩), .int .i64 (sec : Nat), .slice none 0 0] W fun e w' => e = .returned (.int .i64 c8) ∧ Dsk w' bd (fun c => Fn c ∨ W.heap.size ≤ c) D8 ∧ Fr (fun c _ => ¬ Fn c) W w') := fun W f => by
              have := write_calls W bd Fn Dj (sec : Nat) _ _ (D3.out.tt f) (BytesAt.nil (fun _ _ => False) W) (fun c o _ hc => hc.elim) (by
                have := HP.out
                have := HQ.out
                omega)
              rw [h8] at this
              exact this
            have C0 : Hid (∀ W, Fr (fun c _ => ¬ Fn c) w2 W → W.cell? ⟨bj, 0, none⟩ = some (.pointer (some ⟨bd, 0, none⟩))) := fun W f => by
              obtain ⟨vh, T, hj⟩ := J3.out
              exact cell_mk (f.keep _ _ hj.top (NF.out _ hj.gb)) rfl
            have S0 : Hid (Fr (fun c _ => ¬ Fn c) w2 w2.drew) := (Fr.refl _ _).drew
            have SW : Hid (w.heap.size ≤ w2.heap.size) := F3.out.size
            clear hnx hnx2 hsq hsec h8 hp8
            go_wp2_with fail
            go_region_held3 (fun W => W.cell? ⟨bj, 0, none⟩ = some (.pointer (some ⟨bd, 0, none⟩))) (first | exact C0.out _ S0.out | exact C0.out _ S3.out | exact C0.out _ S4.out | exact C0.out _ S5.out)
              (first
                | (go_at_call 49; (with_reducible refine (NX.out _ (Fr.refl _ _).drew).mono ?_); rintro e w3 ⟨rfl, f3⟩; have T3 : Hid (Fr (fun _ _ => True) w2 w3) := (Fr.refl _ w2).drew.trans f3; have S3 : Hid (Fr (fun c _ => ¬ Fn c) w2 w3) := T3.out.mono fun _ _ _ => trivial; clear f3)
                | (go_at_call 52; (with_reducible refine (SX.out _ T3.out).mono ?_); rintro e w4 ⟨rfl, f4⟩; have T4 : Hid (Fr (fun _ _ => True) w2 w4) := T3.out.trans f4; have S4 : Hid (Fr (fun c _ => ¬ Fn c) w2 w4) := T4.out.mono fun _ _ _ => trivial; clear f4)
                | (go_at_call 51; (with_reducible refine (WX.out _ T4.out).mono ?_); rintro e w5 ⟨rfl, d5, f5⟩; have D5 := Lib.hid d5; have F5 := Lib.hid f5; have S5 := Lib.hid (S4.out.trans f5); clear d5 f5))
            all_goals
              go_wp2
              go_roundw
              case rel =>
                refine ⟨j + 1, D8, by go_num, by omega, HZ8, HP8, ?_, ?_, ?_⟩
                · exact (J3.out.tt T4.out).fr F5.out fun c _ _ h => NF.out c h
                · exact D5.out.mono fun c h => by
                    rcases h with h | h
                    · exact h
                    · exact (HFN.out c).2 (.inr (by have := T4.out.size; have := SW.out; omega))
                · exact Fr.within (((F3.out.mono fun c _ h => h.1).trans (T4.out.mono fun _ _ _ => trivial)).trans (F5.out.mono fun c _ h hf => by
                    rcases (HFN.out c).1 hf with q | q
                    · exact h.1.1 q
                    · omega))
              case measure => simp [intOf]; omega
        · have hge : k ≤ (j : Int) := by have := HKZ.out; omega
          have HJK : Hid (j = kn) := by show j = kn; omega
          have HDJ : Hid (Dj = De) := by
            have := HZ.out
            rw [HJK.out, Nat.sub_self] at this
            exact this
          have HJN : Hid (j ≤ 100) := by show j ≤ 100; omega
          clear hlt hj hknH hk0 hkH h0' h1' hm'
          have c0 : wr.cell? ⟨bj, 0, none⟩ = some (.pointer (some ⟨bd, 0, none⟩)) := by
            obtain ⟨vh, T, hj⟩ := JJ.out
            exact cell_mk hj.top rfl
          have SY := Lib.hid (sync_calls wr bd Fn Dj DJ.out)
          go_wp2_with fail
          (with_reducible refine SY.out.mono ?_)
          rintro e w2 ⟨rfl, d2, f2⟩
          have D2 : Hid (Dsk w2 bd Fn Dj.sync) := d2.mono fun c h => by
            rcases h with h | h
            · exact h
            · exact (HFN.out c).2 (.inr (by have := FJ.out.size; omega))
          have F2 : Hid (Fr (fun c _ => ¬ F c ∧ ¬ G c) w w2) := Fr.within ((FJ.out.mono fun c _ h => h.1).trans (f2.mono fun c _ h hf => by
            rcases (HFN.out c).1 hf with q | q
            · exact h.1.1 q
            · omega))
          obtain ⟨vh, T, hj2⟩ := JJ.out.fr f2 fun c _ _ h => NF.out c h
          have c4 : w2.cell? ⟨bj, 4, none⟩ = some (.int .u32 (ep : Nat)) := cell_mk hj2.top rfl
          have z4 := frozen_mk (i := 4) hj2.top
          have hj3 : Jnl (w2.setCell ⟨bj, 4, none⟩ (.int .u32 ((ep : Int) + 1))) bj bd G ⟨loc, n, first, ep + 1, low, H.take (H.length - j)⟩ := ⟨vh, T, hj2.turn ((Fr.refl _ w2).setCell (fun _ _ h => h rfl) _) (by
            have := heap_setCell_same (o := 4) hj2.top (.int .u32 ((ep : Int) + 1))
            rw [this]
            push_cast
            rfl) rfl (by
            have hw := hj2.wf
            exact ⟨hw.n1, hw.n100, hw.locm, hw.f, by show ep + 1 < 4294967296; omega, hw.l, hw.few, hw.hd⟩)⟩
          have hf3 : Fr (fun c _ => ¬ F c ∧ ¬ G c) w (w2.setCell ⟨bj, 4, none⟩ (.int .u32 ((ep : Int) + 1))) := F2.out.setCell (fun _ _ h => h.2 hj2.gb) _
          have hd3 : Dsk (w2.setCell ⟨bj, 4, none⟩ (.int .u32 ((ep : Int) + 1))) bd Fn Dj.sync := D2.out.fr (K := fun c _ => c ≠ bj) ((Fr.refl _ w2).setCell (fun _ _ h => h rfl) _) fun c _ _ hf e => NF.out bj hj2.gb (e ▸ hf)
          have J3 := Lib.hid hj3
          have F3 := Lib.hid hf3
          have D3 := Lib.hid hd3
          have hq3 : Hid (Dj.sync.pend.length < 1000000) := by
            have := pend_sync Dj
            have := HP.out
            have := HQ.out
            have := HJN.out
            show Dj.sync.pend.length < 1000000
            omega
          have hpi : (ep : Int) + 1 < 4294967296 := by omega
          clear hj2 hj3 hf3 hd3 d2 f2 SY c0
          go_wp2_with fail
          obtain ⟨w3, hw3⟩ : ∃ w3, w2.setCell ⟨bj, 4, none⟩ (.int .u32 ((ep : Int) + 1)) = w3 := ⟨_, rfl⟩
          rw [hw3] at J3 F3 D3 ⊢
          clear hw3 c4 z4
          have SV := Lib.hid (jsave_calls w3 bj bd G Fn _ Dj.sync J3.out D3.out NF.out (fun i hi => F3.out.cell (fun _ _ => ⟨hF0, hG0⟩) (HT.out i hi)) hq3.out)
          (with_reducible refine SV.out.mono ?_)
          rintro e w4 ⟨rfl, d4, f4⟩
          have D4 := Lib.hid d4
          have F4 := Lib.hid f4
          clear d4 f4 SV
          go_wp2
          go_ret
          have hs3 := F3.out.size
          have hs4 := F4.out.size
          rw [EQ.out, ← HDJ.out, ← HJK.out]
          refine ⟨rfl, ⟨w.heap.size, Nat.le_refl _, by omega, ?_, D4.out.mono fun c h => ?_⟩, ?_⟩
          · exact (J3.out.fr F4.out fun c _ _ h => NF.out c h).mono fun c hc => ⟨.inl hc, HGS.out c hc⟩
          · rcases h with h | h
            · exact (HFN.out c).1 h
            · exact .inr (by omega)
          · exact Fr.within ((F3.out.mono fun c _ h => h.1).trans (F4.out.mono fun c _ h hf => by
              rcases (HFN.out c).1 hf with q | q
              · exact h.1.1 q
              · omega))
end Go.Proofs.YtcpbmempfeloaaaDoor
/- Law 6: rows of records compared; a journal opened. -/
namespace Go.Proofs.YtcpbmempfeloaaaDoor
open Go.RowKit
set_option linter.unusedVariables false
set_option linter.unusedSimpArgs false

theorem OwnL.ls {w : World} {R : Nat → Prop} {v : Value} {V : List (Value × List UInt8)} (h : OwnL w R v V) : LsAt (fun c _ => R c) w v (V.map (·.2)) := by
  obtain ⟨a, cap, rfl⟩ := own_form h.row
  rcases h.row.2 with ⟨e, e2⟩ | ⟨g, cap', cur, e, _, hg, hnc, _⟩
  · have hV : V = [] := List.length_eq_zero_iff.1 e2
    subst hV
    cases e
    exact ⟨none, 0, rfl, Nat.le_refl _, .inl rfl⟩
  · cases e
    refine ⟨some ⟨g, 0, none⟩, cap, by rw [List.length_map], by rw [List.length_map]; exact hnc, .inr ⟨g, 0, _, rfl, hg, h.rb g rfl, fun i hi => ?_⟩⟩
    have hi' : i < V.length := by simpa using hi
    have hc := (own_frozen h.row i (by omega)).1
    rw [List.getElem?_map, List.getElem?_eq_getElem hi'] at hc
    refine ⟨V[i].1, by rw [Nat.zero_add]; exact hc, ?_⟩
    rw [List.getElem_map]
    exact (h.bs _ (List.getElem_mem hi')).mono fun c o _ hc => hc.1

set_option maxRecDepth 100000 in
set_option maxHeartbeats 2000000 in
theorem jsame_calls {K K' : Nat → Obj → Prop} (w : World) (va vb : Value) (A B : List (List UInt8)) (hA : LsAt K w va A) (hB : LsAt K' w vb B) (hm : ∀ x ∈ A, x.length ≤ 140737488355328) (hl : A.length ≤ 1000000) :
    Calls Tryd.prog 18 #[va, vb] w fun e w' => e = .returned (.bool (decide (A = B))) ∧ ∃ k, w' = w.drewN k := by
  obtain ⟨a1, c1, rfl⟩ := hA.form
  obtain ⟨a2, c2, rfl⟩ := hB.form
  have HA := Lib.hid hA
  have HB := Lib.hid hB
  have HM := Lib.hid hm
  clear hA hB hm
  by_cases hne : A.length = B.length
  · have HE := Lib.hid hne
    rw [← hne]
    have h1 : ((A.length : Int) != A.length) = false := by simp
    clear hne
    go_enter Tryd.func18, Tryd.ntmps18
    go_wp2
    go_loopw [5] (fun i wr => ∃ (j k : Nat), i = .int .i64 (j : Nat) ∧ j ≤ A.length ∧ Hid (A.take j = B.take j) ∧ Hid (wr = w.drewN k)) (fun i _ => A.length - (intOf i).toNat)
    case atStart => exact ⟨0, 0, rfl, Nat.zero_le _, rfl, rfl⟩
    case round =>
      obtain ⟨j, k, rfl, hj, HT, HW⟩ := hrel
      have hwr := HW.out
      subst hwr
      clear HW
      by_cases hlt : j < A.length
      · have hltI : (j : Int) < A.length := by omega
        have hltB : j < B.length := by have := HE.out; omega
        obtain ⟨b1, o1, v1, rfl, k1, x1⟩ := HA.out.at j hlt
        obtain ⟨b2, o2, v2, rfl, k2, x2⟩ := HB.out.at j hltB
        have SC : Hid (∀ n, Calls Tryd.prog 59 #[v1, v2] ((w.drewN k).drewN n) fun e w' => e = .returned (.bool (decide (A[j] = B[j]))) ∧ ∃ m, w' = ((w.drewN k).drewN n).drewN m) := fun n => same_calls _ v1 v2 _ _ (x1.tt (((Fr.refl _ w).drewN k).drewN n)) (x2.tt (((Fr.refl _ w).drewN k).drewN n)) (HM.out _ (List.getElem_mem hlt))
        have k1' : (w.drewN k).cell? ⟨b1, o1 + j, none⟩ = some v1 := k1
        have k2' : (w.drewN k).cell? ⟨b2, o2 + j, none⟩ = some v2 := k2
        obtain ⟨y1, z1, rfl⟩ := x1.form
        obtain ⟨y2, z2, rfl⟩ := x2.form
        clear x1 x2 k1 k2
        have hTA : Hid (A.take (j + 1) = A.take j ++ [A[j]] ∧ B.take (j + 1) = B.take j ++ [B[j]]) := ⟨List.take_succ_eq_append_getElem hlt, List.take_succ_eq_append_getElem hltB⟩
        by_cases hq : A[j] = B[j]
        · rw [decide_eq_true hq] at SC
          have HQ := Lib.hid hq
          obtain ⟨wa, hwa⟩ : ∃ wa, w.drewN k = wa := ⟨_, rfl⟩
          rw [hwa] at SC k1' k2' ⊢
          have HWA := Lib.hid hwa
          clear hq hwa
          go_wp2_with fail
          go_quiet ((go_at_call 59; exact Calls.quiet_of (SC.out _)))
          go_wp2
          go_roundw
          case rel => exact ⟨j + 1, k + nq, by go_num, by omega, by show _ = _; rw [hTA.out.1, hTA.out.2, HT.out, HQ.out], by show _ = _; rw [← HWA.out, World.drewN_drewN]⟩
          case measure => simp [intOf]; omega
        · rw [decide_eq_false hq] at SC
          have HQ := Lib.hid hq
          obtain ⟨wa, hwa⟩ : ∃ wa, w.drewN k = wa := ⟨_, rfl⟩
          rw [hwa] at SC k1' k2' ⊢
          have HWA := Lib.hid hwa
          clear hq hwa
          go_wp2_with fail
          go_quiet ((go_at_call 59; exact Calls.quiet_of (SC.out _)))
          go_wp2
          go_ret
          refine ⟨?_, k + nq, by rw [← HWA.out, World.drewN_drewN]⟩
          rw [decide_eq_false (fun e => HQ.out (by subst e; rfl))]
          rfl
      · have hge : (A.length : Int) ≤ j := by omega
        go_wp2
        go_ret
        refine ⟨?_, k, rfl⟩
        have : A = B := by
          have h := HT.out
          have h2 := HE.out
          rwa [List.take_of_length_le (by omega), List.take_of_length_le (by omega)] at h
        rw [decide_eq_true this]
        rfl
  · have h1 : ((A.length : Int) != B.length) = true := by simp; omega
    have HE := Lib.hid hne
    clear hne
    go_enter Tryd.func18, Tryd.ntmps18
    go_wp2
    go_ret
    refine ⟨?_, 0, rfl⟩
    rw [decide_eq_false (fun e => HE.out (by rw [e]))]
    rfl
end Go.Proofs.YtcpbmempfeloaaaDoor
