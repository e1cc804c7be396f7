/- Texts of the proofs, part 26: what the functions that they reach do, walked; no conditions beyond those that each states. -/
import Derived.Test.YtcpbmempfeloaaaDoorZz68e6b40f16
set_option linter.unusedVariables false
set_option linter.unusedSimpArgs false
/- Law 6: JournalAmid, walked (printed by gen/amid06.py). -/
namespace Go.Proofs.YtcpbmempfeloaaaDoor
open Go.RowKit
set_option linter.unusedVariables false
set_option linter.unusedSimpArgs false

theorem LsAt.kp {P P' : Nat → Prop} {w w' : World} {v : Value} {L : List (List UInt8)} (h : LsAt (fun c _ => ¬ P c) w v L) (k : Kp P P' w w') : LsAt (fun c _ => ¬ P' c) w' v L :=
  ((h.mono (K' := fun c _ => ¬ P c ∧ c < w.heap.size) fun c o ho hc => ⟨hc, lt_of_some ho⟩).fr (k.fr.mono fun c _ hc => hc.1)).mono fun c o _ hc => k.out c hc.2 hc.1
theorem BytesAt.both {K : Nat → Obj → Prop} {Q : Nat → Prop} {w w' : World} {v : Value} {bs : List UInt8} (h : BytesAt K w v bs) (h2 : BytesAt (fun c _ => Q c) w' v bs) : BytesAt (fun c o => K c o ∧ Q c) w v bs := by
  obtain ⟨a, cap, rfl, hl, hn, h⟩ := h
  obtain ⟨a', cap', e, _, _, h2⟩ := h2
  cases e
  refine ⟨a, cap, rfl, hl, hn, ?_⟩
  rcases h with h | ⟨b, off, o, ha, ho, hk, hc⟩
  · exact .inl h
  · rcases h2 with h2 | ⟨b', off', o', ha', _, hq, _⟩
    · exact .inl h2
    · rw [ha] at ha'
      cases ha'
      exact .inr ⟨b, off, o, ha, ho, ⟨hk, hq⟩, hc⟩
theorem st_fuse {n : Nat} {P : Nat → Prop} {w : World} {bj bd : Nat} {J : Jn} {D : Dk} (h : St n P w bj bd J D) (fu : Int) (h0 : -9223372036854775808 ≤ fu) (h1 : fu ≤ 9223372036854775807) :
    Calls Tryd.prog 20 #[.pointer (some ⟨bd, 0, none⟩), .int .i64 fu] w fun e w' => e = .returned (.tuple #[]) ∧ St n P w' bj bd J { D with fuse := fu } ∧ Kp P P w w' := by
  obtain ⟨F, G, d1, j1, hF, hG, hGF⟩ := h.jd
  exact (fuse_calls w bd F D fu d1 h0 h1).mono fun e w' ⟨he, d2, f2⟩ => by
    have hs := f2.size
    exact ⟨he, ⟨⟨F, G, d2, j1.fr f2 fun c o _ hg q => hGF c hg (q ▸ d1.fbJ), fun c hc => ⟨(hF c hc).1, by have := (hF c hc).2; omega⟩, fun c hc => ⟨(hG c hc).1, by have := (hG c hc).2; omega⟩, hGF⟩, h.lo, fun c hc => by have := h.hi c hc; omega⟩,
      ⟨f2.mono fun c _ hc q => hc (q ▸ (hF bd d1.fbJ).1), fun _ _ h => h⟩⟩

set_option maxRecDepth 100000 in
theorem amid_bad (W : World) (n : Int) (a1 : Option Addr) (len1 cap1 : Nat) (o : OpJ) (fu : Int) (v4 : Value) (ht : TabOK W) (h : n < 1 ∨ 17 < n ∨ 30 < len1) :
    Calls Tryd.prog 6 #[.int .i64 n, .slice a1 len1 cap1, .agg #[.int .i64 o.q, .int .i64 o.k, o.vb, o.vp], .int .i64 fu, v4] W fun e w' => e = .returned (.bool true) ∧ Fr (fun _ _ => True) W w' := by
  obtain ⟨W0, hW0⟩ : ∃ W0, W.alloc (.cells #[.int .i64 o.q, .int .i64 o.k, o.vb, o.vp] 43 (0, 0)) = W0 := ⟨_, rfl⟩
  have F0 : Hid (Fr (fun _ _ => True) W W0) := hW0 ▸ (Fr.refl _ W).alloc _
  have AW := Lib.hid (awake06 W0 (ht.tt F0.out))
  have MB : Hid (∀ w, Calls Tryd.prog 12 #[.int .i64 n, .slice a1 len1 cap1] w fun e w' => e = .returned (.tuple #[.pointer none, .pointer none]) ∧ w = w') := fun w => made_bad w n a1 len1 cap1 h
  clear ht h
  go_enter Tryd.func6, Tryd.ntmps6
  go_wp2_with fail
  clear hW0
  (with_reducible refine AW.out.mono ?_)
  rintro e w1 ⟨rfl, f1⟩
  have F1 := Lib.hid (F0.out.trans f1)
  clear f1
  go_wp2_with fail
  (with_reducible refine (MB.out w1).mono ?_)
  rintro e w2 ⟨rfl, rfl⟩
  go_wp2
  go_ret
  exact ⟨rfl, F1.out⟩

set_option maxRecDepth 100000 in
set_option maxHeartbeats 16000000 in
theorem amid_good (W : World) (n : Nat) (a1 : Option Addr) (len1 cap1 : Nat) (o : OpJ) (fu : Int) (a4 : Option Addr) (len4 cap4 : Nat) (l : List OpJ) (zs : List Int) (h1 : 1 ≤ n) (h2 : n ≤ 17) (ho : OpsAt W.heap.size W (.slice a1 len1 cap1) l) (hl : len1 ≤ 30)
    (hol : o.Lies W.heap.size W) (hfu1 : -9223372036854775808 ≤ fu) (hfu2 : fu ≤ 9223372036854775807) (hz : IntsAt (fun c _ => c < W.heap.size) W (.slice a4 len4 cap4) zs) (ht : TabOK W) :
    Calls Tryd.prog 6 #[.int .i64 (n : Nat), .slice a1 len1 cap1, .agg #[.int .i64 o.q, .int .i64 o.k, o.vb, o.vp], .int .i64 fu, .slice a4 len4 cap4] W fun e w' => e = .returned (.bool true) ∧ Fr (fun _ _ => True) W w' := by
  have hln := ho.len
  obtain ⟨J, D, L, bs, hjm, hji⟩ := jmade_ji 1 n h1 (by omega) l (by omega)
  have h0 : 0 < W.heap.size := by have := cell_lt (ht 0 (by decide)); simpa using this
  obtain ⟨W0, hW0⟩ : ∃ W0, W.alloc (.cells #[.int .i64 o.q, .int .i64 o.k, o.vb, o.vp] 43 (0, 0)) = W0 := ⟨_, rfl⟩
  have F0 : Hid (Fr (fun _ _ => True) W W0) := hW0 ▸ (Fr.refl _ W).alloc _
  have TB : Hid (W0.heap[W.heap.size]? = some (.cells #[.int .i64 o.q, .int .i64 o.k, o.vb, o.vp] 43 (0, 0))) := hW0 ▸ heap_alloc_new W _
  have AW := Lib.hid (awake06 W0 (ht.tt F0.out))
  have MS : Hid (∀ w, OpsAt w.heap.size w (.slice a1 len1 cap1) l → TabOK w → Calls Tryd.prog 12 #[.int .i64 (n : Nat), .slice a1 len1 cap1] w fun e w' => (∃ bd bj, e = .returned (.tuple #[.pointer (some ⟨bd, 0, none⟩), .pointer (some ⟨bj, 0, none⟩)]) ∧ JD (fun c => w.heap.size ≤ c) w' bj bd J D) ∧ Fr (fun _ _ => True) w w') := fun w h t => made_some w n a1 len1 cap1 l h1 h2 h t hl J D hjm
  have HO := Lib.hid ho
  have HOL := Lib.hid hol
  have HZ := Lib.hid hz
  have HT := Lib.hid ht
  have HLN := Lib.hid hln
  have HJI := Lib.hid (hji.syncs (by omega))
  have HP0 := Lib.hid (hji.syncs (by omega)).pend100
  clear ho hz ht hji hjm hln hol
  go_enter Tryd.func6, Tryd.ntmps6
  go_wp2_with fail
  clear hW0
  (with_reducible refine AW.out.mono ?_)
  rintro e w1 ⟨rfl, f1⟩
  have F1 := Lib.hid (F0.out.trans f1)
  have S1 : Hid (W.heap.size < w1.heap.size) := by
    have := lt_of_some TB.out
    have := f1.size
    show _ < _
    omega
  have TB1 := Lib.hid (f1.keep _ _ TB.out trivial)
  have MC := Lib.hid (MS.out w1 ((HO.out.fr (F1.out.mono fun _ _ _ => trivial)).mono F1.out.size) (HT.out.tt F1.out))
  clear f1
  go_wp2_with fail
  (with_reducible refine MC.out.mono ?_)
  rintro e w2 ⟨⟨bd, bj, rfl, d2⟩, f2⟩
  have T2 := Lib.hid (St.of d2)
  have F2 : Hid (Fr (fun c _ => c < w1.heap.size) w1 w2) := f2.mono fun _ _ _ => trivial
  have h1s : Hid (0 < w1.heap.size) := by have := S1.out; show 0 < _; omega
  clear d2 f2 MC
  have TT : Hid (∀ w, Fr (fun c _ => c < w1.heap.size) w1 w → TabOK w) := fun w f => by
    have t := HT.out.tt F1.out
    exact fun i hi => f.cell (fun _ _ => h1s.out) (t i hi)
  have ZZ : Hid (∀ w, Fr (fun c _ => c < w1.heap.size) w1 w → IntsAt (fun c _ => c < w1.heap.size) w (.slice a4 len4 cap4) zs) := fun w f => ((HZ.out.fr F1.out fun _ _ _ => trivial).mono fun c _ h => by have := S1.out; omega).fr f fun _ _ h => h
  have OO : Hid (∀ w, Fr (fun c _ => c < w1.heap.size) w1 w → w.cell? ⟨W.heap.size, 0, none⟩ = some (.int .i64 o.q) ∧ w.cell? ⟨W.heap.size, 1, none⟩ = some (.int .i64 o.k) ∧ w.cell? ⟨W.heap.size, 2, none⟩ = some o.vb ∧ BytesAt (fun c _ => c < w1.heap.size) w o.vb o.b) := fun w f => by
    have t := f.keep _ _ TB1.out S1.out
    exact ⟨cell_mk t rfl, cell_mk t rfl, cell_mk t rfl, ((HOL.out.hb.tt F1.out).mono fun c _ _ h => by have := S1.out; omega).fr f⟩
  have SC := Lib.hid (st_sync T2.out F2.out.size)
  go_wp2_with fail
  (with_reducible refine SC.out.mono ?_)
  rintro e w3 ⟨rfl, P3, t3, k3⟩
  have T3 := Lib.hid t3
  have F3 : Hid (Fr (fun c _ => c < w1.heap.size) w1 w3) := F2.out.trans (k3.low T2.out.lo)
  clear t3 k3 SC
  have SC := Lib.hid (st_all2 T3.out F3.out.size)
  go_wp2_with fail
  (with_reducible refine SC.out.mono ?_)
  rintro e w4 ⟨⟨a, ca, Va, rfl, hVl, row, hV⟩, f4⟩
  have T4 := Lib.hid (T3.out.tt f4)
  have F4 : Hid (Fr (fun c _ => c < w1.heap.size) w1 w4) := F3.out.tt f4
  have R4 := Lib.hid row
  have HV := Lib.hid hV
  have HVL := Lib.hid hVl
  have HCAP : Hid (Va.length ≤ ca) := own_cap' row.own.row
  have B4 : Hid (∀ k, (Value.slice a Va.length ca).ownBlock = some k → k < w4.heap.size) := fun k e => by
    obtain ⟨_, q⟩ := own_tag row.own.row e
    exact lt_of_some q
  clear f4 SC row hV hVl
  have SC := Lib.hid (st_fuse T4.out fu hfu1 hfu2)
  go_wp2_with fail
  (with_reducible refine SC.out.mono ?_)
  rintro e w5 ⟨rfl, t5, k5⟩
  have T5 := Lib.hid t5
  have F5 : Hid (Fr (fun c _ => c < w1.heap.size) w1 w5) := F4.out.trans (k5.low T4.out.lo)
  have R5 := Lib.hid (R4.out.kp k5)
  have S45 : Hid (w4.heap.size ≤ w5.heap.size) := k5.fr.size
  clear t5 k5 SC
  have SC := Lib.hid (jd_all w5 bj bd J _ T5.out.jd)
  go_wp2_with fail
  (with_reducible refine SC.out.mono ?_)
  rintro e w7 ⟨⟨b, cb, VI, rfl, own7, hVI⟩, f7⟩
  have hIl : VI.length = J.all.length := by rw [← hVI, List.length_map]
  have T7 := Lib.hid (T5.out.tt f7)
  have F7 : Hid (Fr (fun c _ => c < w1.heap.size) w1 w7) := F5.out.tt f7
  have R7 := Lib.hid (R5.out.tt f7)
  have I7 : Hid (Row w1.heap.size P3 w7 b cb VI) := ⟨by
    rw [hIl]
    exact own7.mono fun c _ hc hp => by have := T5.out.hi c hp; omega, fun k e => by
    have := own7.rb k (by rw [← hIl]; exact e)
    have := F5.out.size
    omega⟩
  have DIS : Hid (∀ k, (Value.slice a Va.length ca).ownBlock = some k → (Value.slice b VI.length cb).ownBlock = some k → False) := fun k e1 e2 => by
    have := B4.out k e1
    have := own7.rb k (by rw [← hIl]; exact e2)
    have := S45.out
    omega
  have BD7 : Hid (∀ k, (Value.slice b VI.length cb).ownBlock = some k → w5.heap.size ≤ k) := fun k e => own7.rb k (by rw [← hIl]; exact e)
  have V5 : Hid (∀ x ∈ Va, BytesAt (fun k _ => k < w5.heap.size) w5 x.1 x.2) := fun x hx => (R5.out.own.bs x hx).mono fun c o ho _ => lt_of_some ho
  have WASX : Hid (∀ (wx W8 : World), Fr (fun k _ => (Value.slice b VI.length cb).ownBlock ≠ some k) W8 wx → ∀ {P : Nat → Prop}, OwnL W8 (fun k => ¬ P k) (.slice a Va.length ca) Va → OwnL wx (fun k => ¬ P k) (.slice a Va.length ca) Va) := fun wx W8 f P h => by
    have h2 : OwnL W8 (fun k => ¬ P k ∧ (Value.slice b VI.length cb).ownBlock ≠ some k) (.slice a Va.length ca) Va := ⟨h.row, fun c e => ⟨h.rb c e, fun q => DIS.out c e q⟩, fun x hx => ((h.bs x hx).both (V5.out x hx)).mono fun c o' _ hc => ⟨⟨hc.1.1, fun q => by
      have := BD7.out c q
      have := hc.2
      omega⟩, hc.1.2⟩⟩
    exact (h2.fr f fun c _ _ hc => hc.2).mono fun c _ hc => hc.1
  have HI := Lib.hid hVI
  have HIL := Lib.hid hIl
  have HVH : Hid (J.all.length = J.held.length) := by show _ = _; unfold Jn.all; rw [List.length_map]
  clear f7 SC own7 hVI hIl
  by_cases q1 : o.q = 1
  · have d1 : (o.q == 1) = true := by simp [q1]
    have d1' : (o.q != 1) = false := by simp [q1]
    have HQ1 := Lib.hid q1
    obtain ⟨c, J1, D1, J2, D2, e1, e2, hcase, hpend⟩ := amid_append HJI.out (by have := HLN.out; omega) fu o.b zs
    have E1 := Lib.hid e1
    have EO : Hid (jopen (D1.crash zs) 1 n = (0, some J2, D2)) := e2
    have HC := Lib.hid hcase
    have k0 := (OO.out w7 F7.out).1
    have k2 := (OO.out w7 F7.out).2.2.1
    have SC := st_append T7.out h1s.out F7.out.size _ o.b (OO.out w7 F7.out).2.2.2 (TT.out w7 F7.out) (by have := HP0.out; show D.sync.pend.length < _; omega)
    rw [E1.out] at SC
    have SC := Lib.hid SC
    clear q1 e1 e2 hcase hpend
    go_wp2_with fail
    (with_reducible refine SC.out.mono ?_)
    rintro e w9 ⟨rfl, P9, t9, k9⟩
    have T9 : Hid (St w1.heap.size P9 w9 bj bd J1 D1) := t9
    have F9 : Hid (Fr (fun c _ => c < w1.heap.size) w1 w9) := F7.out.trans (k9.low T7.out.lo)
    have R9 := Lib.hid (R7.out.kp k9)
    have I9 := Lib.hid (I7.out.kp k9)
    clear t9 k9 SC k2 k0
    have k2 := (OO.out w9 F9.out).2.2.1
    have xb := (OO.out w9 F9.out).2.2.2
    obtain ⟨va, vc, hvb⟩ := xb.form
    rw [hvb] at k2 xb
    obtain ⟨W8, hW8⟩ : ∃ W8, w9.alloc (.cells #[.slice va o.b.length vc] 33 (0, 0)) = W8 := ⟨_, rfl⟩
    have FW : Hid (Fr (fun _ _ => True) w9 W8) := hW8 ▸ (Fr.refl _ w9).alloc _
    have HX : Hid (∃ fz, W8.heap[w9.heap.size]? = some (.cells #[.slice va o.b.length vc] 33 fz)) := ⟨_, hW8 ▸ heap_alloc_new _ _⟩
    have OW : Hid (OwnL W8 (fun k => ¬ P9 k) (.slice b J.all.length cb) VI) := by
      have h := I9.out.own.tt FW.out
      rw [HIL.out] at h
      exact h
    have BX : Hid (BytesAt (fun k _ => ¬ P9 k ∧ (Value.slice b J.all.length cb).ownBlock ≠ some k) W8 (.slice va o.b.length vc) o.b) := (xb.tt FW.out).mono fun k o' _ hk => ⟨fun hp => by have := T9.out.lo k hp; omega, fun e => by have := I9.out.ab k (by rw [HIL.out]; exact e); omega⟩
    have HR : Hid (∀ k, W8.heap.size ≤ k → ¬ P9 k) := fun k hk hp => by
      have := T9.out.hi k hp
      have := FW.out.size
      omega
    have hVV : VI.length ≤ 1000000 := by
      have := T7.out.b43.2
      have := HIL.out
      omega
    clear xb hvb
    go_wp2_with (at_builtin; refine wpList_append_l2 W8 rfl _ _ rfl (fun k => ¬ P9 k) _ VI rfl OW w9.heap.size rfl (.slice va o.b.length vc) o.b HX BX hVV HR.out ?_)
    intro a8 c8 wx O8 G8 N8
    have F78 : Hid (Fr (fun k _ => (Value.slice b J.all.length cb).ownBlock ≠ some k) W8 wx) := (Fr.refl _ W8).grown G8.out fun k o e ho hk => hk e
    have TX : Hid (St w1.heap.size P9 wx bj bd J1 D1) := (T9.out.tt FW.out).fr F78.out fun k o _ hp e => I9.out.own.rb k (by rw [HIL.out]; exact e) hp
    have FX : Hid (Fr (fun k _ => k < w1.heap.size) w1 wx) := (F9.out.tt FW.out).trans (F78.out.mono fun k _ hk e => by have := I9.out.ab k (by rw [HIL.out]; exact e); omega)
    have RX : Hid (Row w1.heap.size P9 wx a ca Va) := ⟨WASX.out wx W8 (by have h := F78.out; rw [← HIL.out] at h; exact h) (R9.out.own.tt FW.out), R9.out.ab⟩
    have LX : Hid (LsAt (fun k _ => ¬ P9 k) wx (.slice a8 (VI.length + 1) c8) (J.all ++ [o.b])) := by
      have h := O8.out.ls
      rw [List.map_append, HI.out] at h
      have e : (VI ++ [(Value.slice va o.b.length vc, o.b)]).length = VI.length + 1 := by simp
      exact h
    clear hW8 OW BX HX O8 G8 N8 F78 R9 T9 F9 k2
    rcases HC.out with ⟨hc, hnow⟩ | ⟨hc0, hc43, hnow⟩
    · obtain ⟨IS, hIS⟩ : ∃ IS, J.all ++ [o.b] = IS := ⟨_, rfl⟩
      have LI := LX
      rw [hIS] at LI hnow
      have FIN := Lib.hid hnow
      clear hIS hnow LX
      rcases hc with rfl | rfl
      · have SC := Lib.hid (sd_crash TX.out.sd FX.out.size a4 len4 cap4 zs (ZZ.out wx FX.out) (fun k o hk hp => by have := TX.out.lo k hp; omega))
        go_wp2_with fail
        (with_reducible refine SC.out.mono ?_)
        rintro e wb ⟨rfl, Pb, tb, kb⟩
        have Tb := Lib.hid tb
        have Fb : Hid (Fr (fun c _ => c < w1.heap.size) w1 wb) := FX.out.trans (kb.low TX.out.lo)
        have Rb := Lib.hid (RX.out.kp kb)
        have Lb := Lib.hid (LI.out.kp kb)
        clear tb kb SC
        have SC := Lib.hid (sd_open Tb.out Fb.out.size 1 n (TT.out wb Fb.out) (by show (0 : Nat) < 1000000; decide) J2 D2 0 EO.out)
        go_wp2_with fail
        (with_reducible refine SC.out.mono ?_)
        rintro e wc ⟨bc, ac, c9, Vc, Pc, rfl, tc, oc, hVc, kc⟩
        have Tc := Lib.hid tc
        have Fc : Hid (Fr (fun c _ => c < w1.heap.size) w1 wc) := Fb.out.trans (kc.low Tb.out.lo)
        have NOW := Lib.hid (oc.lsl hVc)
        have WAS := Lib.hid ((Rb.out.kp kc).len HV.out)
        have ISS := Lib.hid (Lb.out.kp kc)
        have Xc := Lib.hid Tc.out.b43
        have OC := Lib.hid (OO.out wc Fc.out).1
        have oq := OC.out
        clear tc oc hVc kc SC OC
        obtain ⟨wN, hwN⟩ : ∃ wN, wN = wc := ⟨_, rfl⟩
        have GN : Hid (Fr (fun _ _ => True) wc wN) := by rw [hwN]; exact Fr.refl _ _
        have SA := Lib.hid (jsame_calls wc _ _ _ _ NOW.out WAS.out (fun x hx => by have := Xc.out.1 x hx; omega) (by have := Xc.out.2; omega))
        rw [← hwN] at SA oq ⊢
        clear hwN
        by_cases hA : J2.all = J.all
        · rw [decide_eq_true hA] at SA
          have HA := Lib.hid hA
          clear hA
          go_wp2_with fail
          (with_reducible refine SA.out.mono ?_)
          rintro e wd ⟨rfl, kd, hwd⟩
          have Fd : Hid (Fr (fun _ _ => True) W wd) := by
            rw [hwd]; exact F1.out.trans (Fr.within (((Fc.out.tt GN.out).drewN kd).mono fun _ _ h => h.2))
          have Gd : Hid (Fr (fun _ _ => True) wc wd) := by rw [hwd]; exact GN.out.drewN kd
          clear hwd SA
          go_wp2
          go_ret
          exact ⟨rfl, Fd.out⟩
        · rw [decide_eq_false hA] at SA
          have hB : J2.all = IS := by
            rcases FIN.out with h | h
            · exact absurd h hA
            · exact h
          have HB := Lib.hid hB
          have HA := Lib.hid hA
          clear hA hB
          go_wp2_with fail
          (with_reducible refine SA.out.mono ?_)
          rintro e wd ⟨rfl, kd, hwd⟩
          have Fd : Hid (Fr (fun _ _ => True) W wd) := by
            rw [hwd]; exact F1.out.trans (Fr.within (((Fc.out.tt GN.out).drewN kd).mono fun _ _ h => h.2))
          have Gd : Hid (Fr (fun _ _ => True) wc wd) := by rw [hwd]; exact GN.out.drewN kd
          clear hwd SA
          have SB := Lib.hid (jsame_calls wd _ _ _ _ (NOW.out.fr (Gd.out.mono fun _ _ _ => trivial)) (ISS.out.fr (Gd.out.mono fun _ _ _ => trivial)) (fun x hx => by have := Xc.out.1 x hx; omega) (by have := Xc.out.2; omega))
          rw [decide_eq_true HB.out] at SB
          go_wp2_with fail
          (with_reducible refine SB.out.mono ?_)
          rintro e we ⟨rfl, ke, hwe⟩
          have Fe : Hid (Fr (fun _ _ => True) W we) := by rw [hwe]; exact Fd.out.drewN ke
          clear hwe SB
          go_wp2
          go_ret
          exact ⟨rfl, Fe.out⟩
      · have SC := Lib.hid (sd_crash TX.out.sd FX.out.size a4 len4 cap4 zs (ZZ.out wx FX.out) (fun k o hk hp => by have := TX.out.lo k hp; omega))
        go_wp2_with fail
        (with_reducible refine SC.out.mono ?_)
        rintro e wb ⟨rfl, Pb, tb, kb⟩
        have Tb := Lib.hid tb
        have Fb : Hid (Fr (fun c _ => c < w1.heap.size) w1 wb) := FX.out.trans (kb.low TX.out.lo)
        have Rb := Lib.hid (RX.out.kp kb)
        have Lb := Lib.hid (LI.out.kp kb)
        clear tb kb SC
        have SC := Lib.hid (sd_open Tb.out Fb.out.size 1 n (TT.out wb Fb.out) (by show (0 : Nat) < 1000000; decide) J2 D2 0 EO.out)
        go_wp2_with fail
        (with_reducible refine SC.out.mono ?_)
        rintro e wc ⟨bc, ac, c9, Vc, Pc, rfl, tc, oc, hVc, kc⟩
        have Tc := Lib.hid tc
        have Fc : Hid (Fr (fun c _ => c < w1.heap.size) w1 wc) := Fb.out.trans (kc.low Tb.out.lo)
        have NOW := Lib.hid (oc.lsl hVc)
        have WAS := Lib.hid ((Rb.out.kp kc).len HV.out)
        have ISS := Lib.hid (Lb.out.kp kc)
        have Xc := Lib.hid Tc.out.b43
        have OC := Lib.hid (OO.out wc Fc.out).1
        have oq := OC.out
        clear tc oc hVc kc SC OC
        obtain ⟨wN, hwN⟩ : ∃ wN, wN = wc := ⟨_, rfl⟩
        have GN : Hid (Fr (fun _ _ => True) wc wN) := by rw [hwN]; exact Fr.refl _ _
        have SA := Lib.hid (jsame_calls wc _ _ _ _ NOW.out WAS.out (fun x hx => by have := Xc.out.1 x hx; omega) (by have := Xc.out.2; omega))
        rw [← hwN] at SA oq ⊢
        clear hwN
        by_cases hA : J2.all = J.all
        · rw [decide_eq_true hA] at SA
          have HA := Lib.hid hA
          clear hA
          go_wp2_with fail
          (with_reducible refine SA.out.mono ?_)
          rintro e wd ⟨rfl, kd, hwd⟩
          have Fd : Hid (Fr (fun _ _ => True) W wd) := by
            rw [hwd]; exact F1.out.trans (Fr.within (((Fc.out.tt GN.out).drewN kd).mono fun _ _ h => h.2))
          have Gd : Hid (Fr (fun _ _ => True) wc wd) := by rw [hwd]; exact GN.out.drewN kd
          clear hwd SA
          go_wp2
          go_ret
          exact ⟨rfl, Fd.out⟩
        · rw [decide_eq_false hA] at SA
          have hB : J2.all = IS := by
            rcases FIN.out with h | h
            · exact absurd h hA
            · exact h
          have HB := Lib.hid hB
          have HA := Lib.hid hA
          clear hA hB
          go_wp2_with fail
          (with_reducible refine SA.out.mono ?_)
          rintro e wd ⟨rfl, kd, hwd⟩
          have Fd : Hid (Fr (fun _ _ => True) W wd) := by
            rw [hwd]; exact F1.out.trans (Fr.within (((Fc.out.tt GN.out).drewN kd).mono fun _ _ h => h.2))
          have Gd : Hid (Fr (fun _ _ => True) wc wd) := by rw [hwd]; exact GN.out.drewN kd
          clear hwd SA
          have SB := Lib.hid (jsame_calls wd _ _ _ _ (NOW.out.fr (Gd.out.mono fun _ _ _ => trivial)) (ISS.out.fr (Gd.out.mono fun _ _ _ => trivial)) (fun x hx => by have := Xc.out.1 x hx; omega) (by have := Xc.out.2; omega))
          rw [decide_eq_true HB.out] at SB
          go_wp2_with fail
          (with_reducible refine SB.out.mono ?_)
          rintro e we ⟨rfl, ke, hwe⟩
          have Fe : Hid (Fr (fun _ _ => True) W we) := by rw [hwe]; exact Fd.out.drewN ke
          clear hwe SB
          go_wp2
          go_ret
          exact ⟨rfl, Fe.out⟩
    · have e0 : (c != 0) = true := by simpa using hc0
      have e43 : (c != 43) = true := by simpa using hc43
      obtain ⟨IS, hIS⟩ : ∃ IS, J.all = IS := ⟨_, rfl⟩
      have LI : Hid (LsAt (fun k _ => ¬ P9 k) wx (.slice a J.all.length ca) IS) := by
        rw [← hIS]; exact RX.out.len HV.out
      have FIN : Hid (J2.all = J.all ∨ J2.all = IS) := .inl hnow
      have HIS := Lib.hid hIS
      clear hIS hnow hc0 hc43
      have SC := Lib.hid (sd_crash TX.out.sd FX.out.size a4 len4 cap4 zs (ZZ.out wx FX.out) (fun k o hk hp => by have := TX.out.lo k hp; omega))
      go_wp2_with fail
      (with_reducible refine SC.out.mono ?_)
      rintro e wb ⟨rfl, Pb, tb, kb⟩
      have Tb := Lib.hid tb
      have Fb : Hid (Fr (fun c _ => c < w1.heap.size) w1 wb) := FX.out.trans (kb.low TX.out.lo)
      have Rb := Lib.hid (RX.out.kp kb)
      have Lb := Lib.hid (LI.out.kp kb)
      clear tb kb SC
      have SC := Lib.hid (sd_open Tb.out Fb.out.size 1 n (TT.out wb Fb.out) (by show (0 : Nat) < 1000000; decide) J2 D2 0 EO.out)
      go_wp2_with fail
      (with_reducible refine SC.out.mono ?_)
      rintro e wc ⟨bc, ac, c9, Vc, Pc, rfl, tc, oc, hVc, kc⟩
      have Tc := Lib.hid tc
      have Fc : Hid (Fr (fun c _ => c < w1.heap.size) w1 wc) := Fb.out.trans (kc.low Tb.out.lo)
      have NOW := Lib.hid (oc.lsl hVc)
      have WAS := Lib.hid ((Rb.out.kp kc).len HV.out)
      have ISS := Lib.hid (Lb.out.kp kc)
      have Xc := Lib.hid Tc.out.b43
      have OC := Lib.hid (OO.out wc Fc.out).1
      have oq := OC.out
      clear tc oc hVc kc SC OC
      obtain ⟨wN, hwN⟩ : ∃ wN, wN = wc := ⟨_, rfl⟩
      have GN : Hid (Fr (fun _ _ => True) wc wN) := by rw [hwN]; exact Fr.refl _ _
      have SA := Lib.hid (jsame_calls wc _ _ _ _ NOW.out WAS.out (fun x hx => by have := Xc.out.1 x hx; omega) (by have := Xc.out.2; omega))
      rw [← hwN] at SA oq ⊢
      clear hwN
      by_cases hA : J2.all = J.all
      · rw [decide_eq_true hA] at SA
        have HA := Lib.hid hA
        clear hA
        go_wp2_with fail
        (with_reducible refine SA.out.mono ?_)
        rintro e wd ⟨rfl, kd, hwd⟩
        have Fd : Hid (Fr (fun _ _ => True) W wd) := by
          rw [hwd]; exact F1.out.trans (Fr.within (((Fc.out.tt GN.out).drewN kd).mono fun _ _ h => h.2))
        have Gd : Hid (Fr (fun _ _ => True) wc wd) := by rw [hwd]; exact GN.out.drewN kd
        clear hwd SA
        go_wp2
        go_ret
        exact ⟨rfl, Fd.out⟩
      · rw [decide_eq_false hA] at SA
        have hB : J2.all = IS := by
          rcases FIN.out with h | h
          · exact absurd h hA
          · exact h
        have HB := Lib.hid hB
        have HA := Lib.hid hA
        clear hA hB
        go_wp2_with fail
        (with_reducible refine SA.out.mono ?_)
        rintro e wd ⟨rfl, kd, hwd⟩
        have Fd : Hid (Fr (fun _ _ => True) W wd) := by
          rw [hwd]; exact F1.out.trans (Fr.within (((Fc.out.tt GN.out).drewN kd).mono fun _ _ h => h.2))
        have Gd : Hid (Fr (fun _ _ => True) wc wd) := by rw [hwd]; exact GN.out.drewN kd
        clear hwd SA
        have SB := Lib.hid (jsame_calls wd _ _ _ _ (NOW.out.fr (Gd.out.mono fun _ _ _ => trivial)) (ISS.out.fr (Gd.out.mono fun _ _ _ => trivial)) (fun x hx => by have := Xc.out.1 x hx; omega) (by have := Xc.out.2; omega))
        rw [decide_eq_true HB.out] at SB
        go_wp2_with fail
        (with_reducible refine SB.out.mono ?_)
        rintro e we ⟨rfl, ke, hwe⟩
        have Fe : Hid (Fr (fun _ _ => True) W we) := by rw [hwe]; exact Fd.out.drewN ke
        clear hwe SB
        go_wp2
        go_ret
        exact ⟨rfl, Fe.out⟩
  · have d1 : (o.q == 1) = false := by simp [q1]
    have d1' : (o.q != 1) = true := by simp [q1]
    by_cases q3 : o.q = 3
    · have d3 : (o.q == 3) = true := by simp [q3]
      have d3' : (o.q != 3) = false := by simp [q3]
      obtain ⟨c, J1, D1, J2, D2, e1, e2, hcase, hpend⟩ := amid_trim HJI.out (by have := HLN.out; omega) fu hfu1 hfu2 o.k zs
      have E1 := Lib.hid e1
      have EO : Hid (jopen (D1.crash zs) 1 n = (0, some J2, D2)) := e2
      have HC := Lib.hid hcase
      have k0 := (OO.out w7 F7.out).1
      have k1 := (OO.out w7 F7.out).2.1
      have SC := st_trim T7.out h1s.out F7.out.size o.k (TT.out w7 F7.out) (by have := HP0.out; show D.sync.pend.length < _; omega)
      rw [E1.out] at SC
      have SC := Lib.hid SC
      have HQ1 := Lib.hid q1
      have HQ3 := Lib.hid q3
      clear e1 e2 hcase hpend q1 q3
      go_wp2_with fail
      (with_reducible refine SC.out.mono ?_)
      rintro e wx ⟨rfl, P9, t9, k9⟩
      have TX : Hid (St w1.heap.size P9 wx bj bd J1 D1) := t9
      have FX : Hid (Fr (fun c _ => c < w1.heap.size) w1 wx) := F7.out.trans (k9.low T7.out.lo)
      have RX := Lib.hid (R7.out.kp k9)
      have IX := Lib.hid (I7.out.kp k9)
      clear t9 k9 SC k1 k0
      have k1 := (OO.out wx FX.out).2.1
      rcases HC.out with ⟨hbad, hc, hnow⟩ | ⟨⟨hk0, hkl⟩, hc, hnow⟩
      · subst hc
        obtain ⟨IS, hIS⟩ : ∃ IS, J.all = IS := ⟨_, rfl⟩
        have LI : Hid (LsAt (fun k _ => ¬ P9 k) wx (.slice a J.all.length ca) IS) := by
          rw [← hIS]; exact RX.out.len HV.out
        have FIN : Hid (J2.all = J.all ∨ J2.all = IS) := .inl hnow
        have HIS := Lib.hid hIS
        clear hIS hnow
        by_cases hk0 : 0 ≤ o.k
        · have hk2 : decide (o.k ≤ (J.all.length : Int)) = false := by
            have := HVH.out
            simp
            omega
          clear hbad
          have SC := Lib.hid (sd_crash TX.out.sd FX.out.size a4 len4 cap4 zs (ZZ.out wx FX.out) (fun k o hk hp => by have := TX.out.lo k hp; omega))
          go_wp2_with fail
          (with_reducible refine SC.out.mono ?_)
          rintro e wb ⟨rfl, Pb, tb, kb⟩
          have Tb := Lib.hid tb
          have Fb : Hid (Fr (fun c _ => c < w1.heap.size) w1 wb) := FX.out.trans (kb.low TX.out.lo)
          have Rb := Lib.hid (RX.out.kp kb)
          have Lb := Lib.hid (LI.out.kp kb)
          clear tb kb SC
          have SC := Lib.hid (sd_open Tb.out Fb.out.size 1 n (TT.out wb Fb.out) (by show (0 : Nat) < 1000000; decide) J2 D2 0 EO.out)
          go_wp2_with fail
          (with_reducible refine SC.out.mono ?_)
          rintro e wc ⟨bc, ac, c9, Vc, Pc, rfl, tc, oc, hVc, kc⟩
          have Tc := Lib.hid tc
          have Fc : Hid (Fr (fun c _ => c < w1.heap.size) w1 wc) := Fb.out.trans (kc.low Tb.out.lo)
          have NOW := Lib.hid (oc.lsl hVc)
          have WAS := Lib.hid ((Rb.out.kp kc).len HV.out)
          have ISS := Lib.hid (Lb.out.kp kc)
          have Xc := Lib.hid Tc.out.b43
          have OC := Lib.hid (OO.out wc Fc.out).1
          have oq := OC.out
          clear tc oc hVc kc SC OC
          obtain ⟨wN, hwN⟩ : ∃ wN, wN = wc := ⟨_, rfl⟩
          have GN : Hid (Fr (fun _ _ => True) wc wN) := by rw [hwN]; exact Fr.refl _ _
          have SA := Lib.hid (jsame_calls wc _ _ _ _ NOW.out WAS.out (fun x hx => by have := Xc.out.1 x hx; omega) (by have := Xc.out.2; omega))
          rw [← hwN] at SA oq ⊢
          clear hwN
          by_cases hA : J2.all = J.all
          · rw [decide_eq_true hA] at SA
            have HA := Lib.hid hA
            clear hA
            go_wp2_with fail
            (with_reducible refine SA.out.mono ?_)
            rintro e wd ⟨rfl, kd, hwd⟩
            have Fd : Hid (Fr (fun _ _ => True) W wd) := by
              rw [hwd]; exact F1.out.trans (Fr.within (((Fc.out.tt GN.out).drewN kd).mono fun _ _ h => h.2))
            have Gd : Hid (Fr (fun _ _ => True) wc wd) := by rw [hwd]; exact GN.out.drewN kd
            clear hwd SA
            go_wp2
            go_ret
            exact ⟨rfl, Fd.out⟩
          · rw [decide_eq_false hA] at SA
            have hB : J2.all = IS := by
              rcases FIN.out with h | h
              · exact absurd h hA
              · exact h
            have HB := Lib.hid hB
            have HA := Lib.hid hA
            clear hA hB
            go_wp2_with fail
            (with_reducible refine SA.out.mono ?_)
            rintro e wd ⟨rfl, kd, hwd⟩
            have Fd : Hid (Fr (fun _ _ => True) W wd) := by
              rw [hwd]; exact F1.out.trans (Fr.within (((Fc.out.tt GN.out).drewN kd).mono fun _ _ h => h.2))
            have Gd : Hid (Fr (fun _ _ => True) wc wd) := by rw [hwd]; exact GN.out.drewN kd
            clear hwd SA
            have SB := Lib.hid (jsame_calls wd _ _ _ _ (NOW.out.fr (Gd.out.mono fun _ _ _ => trivial)) (ISS.out.fr (Gd.out.mono fun _ _ _ => trivial)) (fun x hx => by have := Xc.out.1 x hx; omega) (by have := Xc.out.2; omega))
            rw [decide_eq_true HB.out] at SB
            go_wp2_with fail
            (with_reducible refine SB.out.mono ?_)
            rintro e we ⟨rfl, ke, hwe⟩
            have Fe : Hid (Fr (fun _ _ => True) W we) := by rw [hwe]; exact Fd.out.drewN ke
            clear hwe SB
            go_wp2
            go_ret
            exact ⟨rfl, Fe.out⟩
        · have hk2 : decide (0 ≤ o.k) = false := by simp; omega
          clear hbad hk0
          have SC := Lib.hid (sd_crash TX.out.sd FX.out.size a4 len4 cap4 zs (ZZ.out wx FX.out) (fun k o hk hp => by have := TX.out.lo k hp; omega))
          go_wp2_with fail
          (with_reducible refine SC.out.mono ?_)
          rintro e wb ⟨rfl, Pb, tb, kb⟩
          have Tb := Lib.hid tb
          have Fb : Hid (Fr (fun c _ => c < w1.heap.size) w1 wb) := FX.out.trans (kb.low TX.out.lo)
          have Rb := Lib.hid (RX.out.kp kb)
          have Lb := Lib.hid (LI.out.kp kb)
          clear tb kb SC
          have SC := Lib.hid (sd_open Tb.out Fb.out.size 1 n (TT.out wb Fb.out) (by show (0 : Nat) < 1000000; decide) J2 D2 0 EO.out)
          go_wp2_with fail
          (with_reducible refine SC.out.mono ?_)
          rintro e wc ⟨bc, ac, c9, Vc, Pc, rfl, tc, oc, hVc, kc⟩
          have Tc := Lib.hid tc
          have Fc : Hid (Fr (fun c _ => c < w1.heap.size) w1 wc) := Fb.out.trans (kc.low Tb.out.lo)
          have NOW := Lib.hid (oc.lsl hVc)
          have WAS := Lib.hid ((Rb.out.kp kc).len HV.out)
          have ISS := Lib.hid (Lb.out.kp kc)
          have Xc := Lib.hid Tc.out.b43
          have OC := Lib.hid (OO.out wc Fc.out).1
          have oq := OC.out
          clear tc oc hVc kc SC OC
          obtain ⟨wN, hwN⟩ : ∃ wN, wN = wc := ⟨_, rfl⟩
          have GN : Hid (Fr (fun _ _ => True) wc wN) := by rw [hwN]; exact Fr.refl _ _
          have SA := Lib.hid (jsame_calls wc _ _ _ _ NOW.out WAS.out (fun x hx => by have := Xc.out.1 x hx; omega) (by have := Xc.out.2; omega))
          rw [← hwN] at SA oq ⊢
          clear hwN
          by_cases hA : J2.all = J.all
          · rw [decide_eq_true hA] at SA
            have HA := Lib.hid hA
            clear hA
            go_wp2_with fail
            (with_reducible refine SA.out.mono ?_)
            rintro e wd ⟨rfl, kd, hwd⟩
            have Fd : Hid (Fr (fun _ _ => True) W wd) := by
              rw [hwd]; exact F1.out.trans (Fr.within (((Fc.out.tt GN.out).drewN kd).mono fun _ _ h => h.2))
            have Gd : Hid (Fr (fun _ _ => True) wc wd) := by rw [hwd]; exact GN.out.drewN kd
            clear hwd SA
            go_wp2
            go_ret
            exact ⟨rfl, Fd.out⟩
          · rw [decide_eq_false hA] at SA
            have hB : J2.all = IS := by
              rcases FIN.out with h | h
              · exact absurd h hA
              · exact h
            have HB := Lib.hid hB
            have HA := Lib.hid hA
            clear hA hB
            go_wp2_with fail
            (with_reducible refine SA.out.mono ?_)
            rintro e wd ⟨rfl, kd, hwd⟩
            have Fd : Hid (Fr (fun _ _ => True) W wd) := by
              rw [hwd]; exact F1.out.trans (Fr.within (((Fc.out.tt GN.out).drewN kd).mono fun _ _ h => h.2))
            have Gd : Hid (Fr (fun _ _ => True) wc wd) := by rw [hwd]; exact GN.out.drewN kd
            clear hwd SA
            have SB := Lib.hid (jsame_calls wd _ _ _ _ (NOW.out.fr (Gd.out.mono fun _ _ _ => trivial)) (ISS.out.fr (Gd.out.mono fun _ _ _ => trivial)) (fun x hx => by have := Xc.out.1 x hx; omega) (by have := Xc.out.2; omega))
            rw [decide_eq_true HB.out] at SB
            go_wp2_with fail
            (with_reducible refine SB.out.mono ?_)
            rintro e we ⟨rfl, ke, hwe⟩
            have Fe : Hid (Fr (fun _ _ => True) W we) := by rw [hwe]; exact Fd.out.drewN ke
            clear hwe SB
            go_wp2
            go_ret
            exact ⟨rfl, Fe.out⟩
      · obtain ⟨k, hk⟩ := Int.eq_ofNat_of_zero_le hk0
        have hkV : k ≤ J.all.length := by have := HVH.out; omega
        have hk1 : o.k ≤ (J.all.length : Int) := by have := HVH.out; omega
        have hsl : ∀ W', (Instr.slice 23 (.slice a J.all.length ca) (some (.int .i64 o.k)) none none).run Tryd.prog W' = .ok (.slice (subA a ca k) (J.all.length - k) (ca - k)) W' := fun W' => by
          have := run_slice_from (P := Tryd.prog) Tryd.underlying23 size_bs1 W' a J.all.length ca k .i64 hkV
          rw [hk]
          exact this
        obtain ⟨IS, hIS⟩ : ∃ IS, J.all.drop k = IS := ⟨_, rfl⟩
        have LI : Hid (LsAt (fun k _ => ¬ P9 k) wx (.slice (subA a ca k) (J.all.length - k) (ca - k)) IS) := by
          rw [← hIS]; exact (RX.out.len HV.out).drop k hkV
        have FIN : Hid (J2.all = J.all ∨ J2.all = IS) := by
          rw [hk, Int.toNat_natCast, hIS] at hnow
          exact hnow
        have HIS := Lib.hid hIS
        have HKK := Lib.hid hk
        clear hIS hnow hk hkl
        rcases hc with rfl | rfl
        · have SC := Lib.hid (sd_crash TX.out.sd FX.out.size a4 len4 cap4 zs (ZZ.out wx FX.out) (fun k o hk hp => by have := TX.out.lo k hp; omega))
          go_wp2_with fail
          (with_reducible refine SC.out.mono ?_)
          rintro e wb ⟨rfl, Pb, tb, kb⟩
          have Tb := Lib.hid tb
          have Fb : Hid (Fr (fun c _ => c < w1.heap.size) w1 wb) := FX.out.trans (kb.low TX.out.lo)
          have Rb := Lib.hid (RX.out.kp kb)
          have Lb := Lib.hid (LI.out.kp kb)
          clear tb kb SC
          have SC := Lib.hid (sd_open Tb.out Fb.out.size 1 n (TT.out wb Fb.out) (by show (0 : Nat) < 1000000; decide) J2 D2 0 EO.out)
          go_wp2_with fail
          (with_reducible refine SC.out.mono ?_)
          rintro e wc ⟨bc, ac, c9, Vc, Pc, rfl, tc, oc, hVc, kc⟩
          have Tc := Lib.hid tc
          have Fc : Hid (Fr (fun c _ => c < w1.heap.size) w1 wc) := Fb.out.trans (kc.low Tb.out.lo)
          have NOW := Lib.hid (oc.lsl hVc)
          have WAS := Lib.hid ((Rb.out.kp kc).len HV.out)
          have ISS := Lib.hid (Lb.out.kp kc)
          have Xc := Lib.hid Tc.out.b43
          have OC := Lib.hid (OO.out wc Fc.out).1
          have oq := OC.out
          clear tc oc hVc kc SC OC
          obtain ⟨wN, hwN⟩ : ∃ wN, wN = wc := ⟨_, rfl⟩
          have GN : Hid (Fr (fun _ _ => True) wc wN) := by rw [hwN]; exact Fr.refl _ _
          have SA := Lib.hid (jsame_calls wc _ _ _ _ NOW.out WAS.out (fun x hx => by have := Xc.out.1 x hx; omega) (by have := Xc.out.2; omega))
          rw [← hwN] at SA oq ⊢
          clear hwN
          by_cases hA : J2.all = J.all
          · rw [decide_eq_true hA] at SA
            have HA := Lib.hid hA
            clear hA
            go_wp2_with fail
            (with_reducible refine SA.out.mono ?_)
            rintro e wd ⟨rfl, kd, hwd⟩
            have Fd : Hid (Fr (fun _ _ => True) W wd) := by
              rw [hwd]; exact F1.out.trans (Fr.within (((Fc.out.tt GN.out).drewN kd).mono fun _ _ h => h.2))
            have Gd : Hid (Fr (fun _ _ => True) wc wd) := by rw [hwd]; exact GN.out.drewN kd
            clear hwd SA
            go_wp2
            go_ret
            exact ⟨rfl, Fd.out⟩
          · rw [decide_eq_false hA] at SA
            have hB : J2.all = IS := by
              rcases FIN.out with h | h
              · exact absurd h hA
              · exact h
            have HB := Lib.hid hB
            have HA := Lib.hid hA
            clear hA hB
            go_wp2_with fail
            (with_reducible refine SA.out.mono ?_)
            rintro e wd ⟨rfl, kd, hwd⟩
            have Fd : Hid (Fr (fun _ _ => True) W wd) := by
              rw [hwd]; exact F1.out.trans (Fr.within (((Fc.out.tt GN.out).drewN kd).mono fun _ _ h => h.2))
            have Gd : Hid (Fr (fun _ _ => True) wc wd) := by rw [hwd]; exact GN.out.drewN kd
            clear hwd SA
            have SB := Lib.hid (jsame_calls wd _ _ _ _ (NOW.out.fr (Gd.out.mono fun _ _ _ => trivial)) (ISS.out.fr (Gd.out.mono fun _ _ _ => trivial)) (fun x hx => by have := Xc.out.1 x hx; omega) (by have := Xc.out.2; omega))
            rw [decide_eq_true HB.out] at SB
            go_wp2_with fail
            (with_reducible refine SB.out.mono ?_)
            rintro e we ⟨rfl, ke, hwe⟩
            have Fe : Hid (Fr (fun _ _ => True) W we) := by rw [hwe]; exact Fd.out.drewN ke
            clear hwe SB
            go_wp2
            go_ret
            exact ⟨rfl, Fe.out⟩
        · have SC := Lib.hid (sd_crash TX.out.sd FX.out.size a4 len4 cap4 zs (ZZ.out wx FX.out) (fun k o hk hp => by have := TX.out.lo k hp; omega))
          go_wp2_with fail
          (with_reducible refine SC.out.mono ?_)
          rintro e wb ⟨rfl, Pb, tb, kb⟩
          have Tb := Lib.hid tb
          have Fb : Hid (Fr (fun c _ => c < w1.heap.size) w1 wb) := FX.out.trans (kb.low TX.out.lo)
          have Rb := Lib.hid (RX.out.kp kb)
          have Lb := Lib.hid (LI.out.kp kb)
          clear tb kb SC
          have SC := Lib.hid (sd_open Tb.out Fb.out.size 1 n (TT.out wb Fb.out) (by show (0 : Nat) < 1000000; decide) J2 D2 0 EO.out)
          go_wp2_with fail
          (with_reducible refine SC.out.mono ?_)
          rintro e wc ⟨bc, ac, c9, Vc, Pc, rfl, tc, oc, hVc, kc⟩
          have Tc := Lib.hid tc
          have Fc : Hid (Fr (fun c _ => c < w1.heap.size) w1 wc) := Fb.out.trans (kc.low Tb.out.lo)
          have NOW := Lib.hid (oc.lsl hVc)
          have WAS := Lib.hid ((Rb.out.kp kc).len HV.out)
          have ISS := Lib.hid (Lb.out.kp kc)
          have Xc := Lib.hid Tc.out.b43
          have OC := Lib.hid (OO.out wc Fc.out).1
          have oq := OC.out
          clear tc oc hVc kc SC OC
          obtain ⟨wN, hwN⟩ : ∃ wN, wN = wc := ⟨_, rfl⟩
          have GN : Hid (Fr (fun _ _ => True) wc wN) := by rw [hwN]; exact Fr.refl _ _
          have SA := Lib.hid (jsame_calls wc _ _ _ _ NOW.out WAS.out (fun x hx => by have := Xc.out.1 x hx; omega) (by have := Xc.out.2; omega))
          rw [← hwN] at SA oq ⊢
          clear hwN
          by_cases hA : J2.all = J.all
          · rw [decide_eq_true hA] at SA
            have HA := Lib.hid hA
            clear hA
            go_wp2_with fail
            (with_reducible refine SA.out.mono ?_)
            rintro e wd ⟨rfl, kd, hwd⟩
            have Fd : Hid (Fr (fun _ _ => True) W wd) := by
              rw [hwd]; exact F1.out.trans (Fr.within (((Fc.out.tt GN.out).drewN kd).mono fun _ _ h => h.2))
            have Gd : Hid (Fr (fun _ _ => True) wc wd) := by rw [hwd]; exact GN.out.drewN kd
            clear hwd SA
            go_wp2
            go_ret
            exact ⟨rfl, Fd.out⟩
          · rw [decide_eq_false hA] at SA
            have hB : J2.all = IS := by
              rcases FIN.out with h | h
              · exact absurd h hA
              · exact h
            have HB := Lib.hid hB
            have HA := Lib.hid hA
            clear hA hB
            go_wp2_with fail
            (with_reducible refine SA.out.mono ?_)
            rintro e wd ⟨rfl, kd, hwd⟩
            have Fd : Hid (Fr (fun _ _ => True) W wd) := by
              rw [hwd]; exact F1.out.trans (Fr.within (((Fc.out.tt GN.out).drewN kd).mono fun _ _ h => h.2))
            have Gd : Hid (Fr (fun _ _ => True) wc wd) := by rw [hwd]; exact GN.out.drewN kd
            clear hwd SA
            have SB := Lib.hid (jsame_calls wd _ _ _ _ (NOW.out.fr (Gd.out.mono fun _ _ _ => trivial)) (ISS.out.fr (Gd.out.mono fun _ _ _ => trivial)) (fun x hx => by have := Xc.out.1 x hx; omega) (by have := Xc.out.2; omega))
            rw [decide_eq_true HB.out] at SB
            go_wp2_with fail
            (with_reducible refine SB.out.mono ?_)
            rintro e we ⟨rfl, ke, hwe⟩
            have Fe : Hid (Fr (fun _ _ => True) W we) := by rw [hwe]; exact Fd.out.drewN ke
            clear hwe SB
            go_wp2
            go_ret
            exact ⟨rfl, Fe.out⟩
    · have d3 : (o.q == 3) = false := by simp [q3]
      have d3' : (o.q != 3) = true := by simp [q3]
      obtain ⟨c, J1, D1, J2, D2, e1, e2, hcase, hpend⟩ := amid_cut HJI.out (by have := HLN.out; omega) fu hfu1 hfu2 o.k zs
      have E1 := Lib.hid e1
      have EO : Hid (jopen (D1.crash zs) 1 n = (0, some J2, D2)) := e2
      have HC := Lib.hid hcase
      have k0 := (OO.out w7 F7.out).1
      have k1 := (OO.out w7 F7.out).2.1
      have SC := st_cut T7.out h1s.out F7.out.size o.k (TT.out w7 F7.out) (by have := HP0.out; show D.sync.pend.length < _; omega)
      rw [E1.out] at SC
      have SC := Lib.hid SC
      have HQ1 := Lib.hid q1
      have HQ3 := Lib.hid q3
      clear e1 e2 hcase hpend q1 q3
      go_wp2_with fail
      (with_reducible refine SC.out.mono ?_)
      rintro e wx ⟨rfl, P9, t9, k9⟩
      have TX : Hid (St w1.heap.size P9 wx bj bd J1 D1) := t9
      have FX : Hid (Fr (fun c _ => c < w1.heap.size) w1 wx) := F7.out.trans (k9.low T7.out.lo)
      have RX := Lib.hid (R7.out.kp k9)
      have IX := Lib.hid (I7.out.kp k9)
      clear t9 k9 SC k1 k0
      have k1 := (OO.out wx FX.out).2.1
      rcases HC.out with ⟨hbad, hc, hnow⟩ | ⟨⟨hk0, hkl⟩, hc, m, hm1, hm2, hnow⟩
      · subst hc
        obtain ⟨IS, hIS⟩ : ∃ IS, J.all = IS := ⟨_, rfl⟩
        have LI : Hid (LsAt (fun k _ => ¬ P9 k) wx (.slice a J.all.length ca) IS) := by
          rw [← hIS]; exact RX.out.len HV.out
        have BTW : Hid (J2.all.length ≤ J.all.length ∧ IS.length ≤ J2.all.length ∧ J2.all = J.all.take J2.all.length) := by
          refine ⟨by rw [hnow]; exact Nat.le_refl _, by rw [← hIS, hnow]; exact Nat.le_refl _, ?_⟩
          rw [hnow, List.take_length]
        have n3 : (J.all.length : Int) ≤ J2.all.length := by rw [hnow]; exact Int.le_refl _
        have HIS := Lib.hid hIS
        clear hIS hnow
        by_cases hk0 : 0 ≤ o.k
        · have hk2 : decide (o.k ≤ (J.all.length : Int)) = false := by
            have := HVH.out
            simp
            omega
          clear hbad
          have SC := Lib.hid (sd_crash TX.out.sd FX.out.size a4 len4 cap4 zs (ZZ.out wx FX.out) (fun k o hk hp => by have := TX.out.lo k hp; omega))
          go_wp2_with fail
          (with_reducible refine SC.out.mono ?_)
          rintro e wb ⟨rfl, Pb, tb, kb⟩
          have Tb := Lib.hid tb
          have Fb : Hid (Fr (fun c _ => c < w1.heap.size) w1 wb) := FX.out.trans (kb.low TX.out.lo)
          have Rb := Lib.hid (RX.out.kp kb)
          have Lb := Lib.hid (LI.out.kp kb)
          clear tb kb SC
          have SC := Lib.hid (sd_open Tb.out Fb.out.size 1 n (TT.out wb Fb.out) (by show (0 : Nat) < 1000000; decide) J2 D2 0 EO.out)
          go_wp2_with fail
          (with_reducible refine SC.out.mono ?_)
          rintro e wc ⟨bc, ac, c9, Vc, Pc, rfl, tc, oc, hVc, kc⟩
          have Tc := Lib.hid tc
          have Fc : Hid (Fr (fun c _ => c < w1.heap.size) w1 wc) := Fb.out.trans (kc.low Tb.out.lo)
          have NOW := Lib.hid (oc.lsl hVc)
          have WAS := Lib.hid ((Rb.out.kp kc).len HV.out)
          have ISS := Lib.hid (Lb.out.kp kc)
          have Xc := Lib.hid Tc.out.b43
          have OC := Lib.hid (OO.out wc Fc.out).1
          have oq := OC.out
          clear tc oc hVc kc SC OC
          have n1 : (J2.all.length : Int) ≤ J.all.length := by have := BTW.out.1; omega
          have n2 : (IS.length : Int) ≤ J2.all.length := by have := BTW.out.2.1; omega
          have hsl := fun W' => run_slice_toS (P := Tryd.prog) 1 Tryd.underlying23 size_bs1 W' a J.all.length ca J2.all.length .i64 (by have := HCAP.out; have := HVL.out; have := BTW.out.1; omega)
          have SBT := jsame_calls wc _ _ _ _ NOW.out (WAS.out.take J2.all.length BTW.out.1) (fun x hx => by have := Xc.out.1 x hx; omega) (by have := Xc.out.2; omega)
          rw [decide_eq_true BTW.out.2.2] at SBT
          have SBT := Lib.hid SBT
          have hmin : min (J2.all.length : Int) (J.all.length : Int) = J2.all.length := by omega
          have hcmp : ¬ ((J.all.length : Int) < J2.all.length) := by omega
          go_wp2_with fail
          (with_reducible refine SBT.out.mono ?_)
          rintro e wN ⟨rfl, kN, hwN⟩
          have GN : Hid (Fr (fun _ _ => True) wc wN) := by rw [hwN]; exact (Fr.refl _ _).drewN kN
          clear hwN SBT hsl
          have SA := Lib.hid (jsame_calls wN _ _ _ _ (NOW.out.fr (GN.out.mono fun _ _ _ => trivial)) (WAS.out.fr (GN.out.mono fun _ _ _ => trivial)) (fun x hx => by have := Xc.out.1 x hx; omega) (by have := Xc.out.2; omega))
          by_cases hA : J2.all = J.all
          · rw [decide_eq_true hA] at SA
            have HA := Lib.hid hA
            clear hA
            go_wp2_with fail
            (with_reducible refine SA.out.mono ?_)
            rintro e wd ⟨rfl, kd, hwd⟩
            have Fd : Hid (Fr (fun _ _ => True) W wd) := by
              rw [hwd]; exact F1.out.trans (Fr.within (((Fc.out.tt GN.out).drewN kd).mono fun _ _ h => h.2))
            have Gd : Hid (Fr (fun _ _ => True) wc wd) := by rw [hwd]; exact GN.out.drewN kd
            clear hwd SA
            go_wp2
            go_ret
            exact ⟨rfl, Fd.out⟩
          · rw [decide_eq_false hA] at SA
            have HA := Lib.hid hA
            clear hA
            go_wp2_with fail
            (with_reducible refine SA.out.mono ?_)
            rintro e wd ⟨rfl, kd, hwd⟩
            have Fd : Hid (Fr (fun _ _ => True) W wd) := by
              rw [hwd]; exact F1.out.trans (Fr.within (((Fc.out.tt GN.out).drewN kd).mono fun _ _ h => h.2))
            have Gd : Hid (Fr (fun _ _ => True) wc wd) := by rw [hwd]; exact GN.out.drewN kd
            clear hwd SA
            have SB := Lib.hid (jsame_calls wd _ _ _ _ (NOW.out.fr (Gd.out.mono fun _ _ _ => trivial)) (ISS.out.fr (Gd.out.mono fun _ _ _ => trivial)) (fun x hx => by have := Xc.out.1 x hx; omega) (by have := Xc.out.2; omega))
            by_cases hB : J2.all = IS
            · rw [decide_eq_true hB] at SB
              have HB := Lib.hid hB
              clear hB
              go_wp2_with fail
              (with_reducible refine SB.out.mono ?_)
              rintro e we ⟨rfl, ke, hwe⟩
              have Fe : Hid (Fr (fun _ _ => True) W we) := by rw [hwe]; exact Fd.out.drewN ke
              clear hwe SB
              go_wp2
              go_ret
              exact ⟨rfl, Fe.out⟩
            · rw [decide_eq_false hB] at SB
              have HB := Lib.hid hB
              clear hB
              go_wp2_with fail
              (with_reducible refine SB.out.mono ?_)
              rintro e we ⟨rfl, ke, hwe⟩
              have Fe : Hid (Fr (fun _ _ => True) W we) := by rw [hwe]; exact Fd.out.drewN ke
              clear hwe SB
              go_wp2
              go_ret
              exact ⟨rfl, Fe.out⟩
        · have hk2 : decide (0 ≤ o.k) = false := by simp; omega
          clear hbad hk0
          have SC := Lib.hid (sd_crash TX.out.sd FX.out.size a4 len4 cap4 zs (ZZ.out wx FX.out) (fun k o hk hp => by have := TX.out.lo k hp; omega))
          go_wp2_with fail
          (with_reducible refine SC.out.mono ?_)
          rintro e wb ⟨rfl, Pb, tb, kb⟩
          have Tb := Lib.hid tb
          have Fb : Hid (Fr (fun c _ => c < w1.heap.size) w1 wb) := FX.out.trans (kb.low TX.out.lo)
          have Rb := Lib.hid (RX.out.kp kb)
          have Lb := Lib.hid (LI.out.kp kb)
          clear tb kb SC
          have SC := Lib.hid (sd_open Tb.out Fb.out.size 1 n (TT.out wb Fb.out) (by show (0 : Nat) < 1000000; decide) J2 D2 0 EO.out)
          go_wp2_with fail
          (with_reducible refine SC.out.mono ?_)
          rintro e wc ⟨bc, ac, c9, Vc, Pc, rfl, tc, oc, hVc, kc⟩
          have Tc := Lib.hid tc
          have Fc : Hid (Fr (fun c _ => c < w1.heap.size) w1 wc) := Fb.out.trans (kc.low Tb.out.lo)
          have NOW := Lib.hid (oc.lsl hVc)
          have WAS := Lib.hid ((Rb.out.kp kc).len HV.out)
          have ISS := Lib.hid (Lb.out.kp kc)
          have Xc := Lib.hid Tc.out.b43
          have OC := Lib.hid (OO.out wc Fc.out).1
          have oq := OC.out
          clear tc oc hVc kc SC OC
          have n1 : (J2.all.length : Int) ≤ J.all.length := by have := BTW.out.1; omega
          have n2 : (IS.length : Int) ≤ J2.all.length := by have := BTW.out.2.1; omega
          have hsl := fun W' => run_slice_toS (P := Tryd.prog) 1 Tryd.underlying23 size_bs1 W' a J.all.length ca J2.all.length .i64 (by have := HCAP.out; have := HVL.out; have := BTW.out.1; omega)
          have SBT := jsame_calls wc _ _ _ _ NOW.out (WAS.out.take J2.all.length BTW.out.1) (fun x hx => by have := Xc.out.1 x hx; omega) (by have := Xc.out.2; omega)
          rw [decide_eq_true BTW.out.2.2] at SBT
          have SBT := Lib.hid SBT
          have hmin : min (J2.all.length : Int) (J.all.length : Int) = J2.all.length := by omega
          have hcmp : ¬ ((J.all.length : Int) < J2.all.length) := by omega
          go_wp2_with fail
          (with_reducible refine SBT.out.mono ?_)
          rintro e wN ⟨rfl, kN, hwN⟩
          have GN : Hid (Fr (fun _ _ => True) wc wN) := by rw [hwN]; exact (Fr.refl _ _).drewN kN
          clear hwN SBT hsl
          have SA := Lib.hid (jsame_calls wN _ _ _ _ (NOW.out.fr (GN.out.mono fun _ _ _ => trivial)) (WAS.out.fr (GN.out.mono fun _ _ _ => trivial)) (fun x hx => by have := Xc.out.1 x hx; omega) (by have := Xc.out.2; omega))
          by_cases hA : J2.all = J.all
          · rw [decide_eq_true hA] at SA
            have HA := Lib.hid hA
            clear hA
            go_wp2_with fail
            (with_reducible refine SA.out.mono ?_)
            rintro e wd ⟨rfl, kd, hwd⟩
            have Fd : Hid (Fr (fun _ _ => True) W wd) := by
              rw [hwd]; exact F1.out.trans (Fr.within (((Fc.out.tt GN.out).drewN kd).mono fun _ _ h => h.2))
            have Gd : Hid (Fr (fun _ _ => True) wc wd) := by rw [hwd]; exact GN.out.drewN kd
            clear hwd SA
            go_wp2
            go_ret
            exact ⟨rfl, Fd.out⟩
          · rw [decide_eq_false hA] at SA
            have HA := Lib.hid hA
            clear hA
            go_wp2_with fail
            (with_reducible refine SA.out.mono ?_)
            rintro e wd ⟨rfl, kd, hwd⟩
            have Fd : Hid (Fr (fun _ _ => True) W wd) := by
              rw [hwd]; exact F1.out.trans (Fr.within (((Fc.out.tt GN.out).drewN kd).mono fun _ _ h => h.2))
            have Gd : Hid (Fr (fun _ _ => True) wc wd) := by rw [hwd]; exact GN.out.drewN kd
            clear hwd SA
            have SB := Lib.hid (jsame_calls wd _ _ _ _ (NOW.out.fr (Gd.out.mono fun _ _ _ => trivial)) (ISS.out.fr (Gd.out.mono fun _ _ _ => trivial)) (fun x hx => by have := Xc.out.1 x hx; omega) (by have := Xc.out.2; omega))
            by_cases hB : J2.all = IS
            · rw [decide_eq_true hB] at SB
              have HB := Lib.hid hB
              clear hB
              go_wp2_with fail
              (with_reducible refine SB.out.mono ?_)
              rintro e we ⟨rfl, ke, hwe⟩
              have Fe : Hid (Fr (fun _ _ => True) W we) := by rw [hwe]; exact Fd.out.drewN ke
              clear hwe SB
              go_wp2
              go_ret
              exact ⟨rfl, Fe.out⟩
            · rw [decide_eq_false hB] at SB
              have HB := Lib.hid hB
              clear hB
              go_wp2_with fail
              (with_reducible refine SB.out.mono ?_)
              rintro e we ⟨rfl, ke, hwe⟩
              have Fe : Hid (Fr (fun _ _ => True) W we) := by rw [hwe]; exact Fd.out.drewN ke
              clear hwe SB
              go_wp2
              go_ret
              exact ⟨rfl, Fe.out⟩
      · obtain ⟨k, hk⟩ := Int.eq_ofNat_of_zero_le hk0
        have hkV : k ≤ J.all.length := by have := HVH.out; omega
        have hk1 : o.k ≤ (J.all.length : Int) := by have := HVH.out; omega
        have hsb : (J.all.length : Int) - o.k = ((J.all.length - k : Nat) : Int) := by omega
        obtain ⟨r, hr⟩ : ∃ r, J.all.length - k = r := ⟨_, rfl⟩
        rw [hr] at hsb
        have hsl := fun W' => run_slice_toS (P := Tryd.prog) 1 Tryd.underlying23 size_bs1 W' a J.all.length ca r .i64 (by have := HCAP.out; have := HVL.out; omega)
        obtain ⟨IS, hIS⟩ : ∃ IS, J.all.take r = IS := ⟨_, rfl⟩
        have hISl : IS.length = r := by rw [← hIS, List.length_take]; omega
        have LI : Hid (LsAt (fun k _ => ¬ P9 k) wx (.slice a r ca) IS) := by
          rw [← hIS]; exact (RX.out.len HV.out).take r (by omega)
        have hJl := HVH.out
        have BTW : Hid (J2.all.length ≤ J.all.length ∧ IS.length ≤ J2.all.length ∧ J2.all = J.all.take J2.all.length) := by
          have h2 : J2.all.length = m := by rw [hnow, List.length_take]; omega
          rw [hk, Int.toNat_natCast] at hm1
          refine ⟨by omega, by omega, ?_⟩
          rw [h2]; exact hnow
        have HISL := Lib.hid hISl
        have hwq : IntKind.i64.wrap (IS.length : Int) = IS.length := IntWalk.i64_in _ (by have := T7.out.b43.2; omega)
        rw [← hISl] at hsb hsl LI
        have HIS := Lib.hid hIS
        have HKK := Lib.hid hk
        have HRR := Lib.hid hr
        clear hIS hnow hk hkl hr hISl hm1 hm2 hJl
        rcases hc with rfl | rfl
        · have SC := Lib.hid (sd_crash TX.out.sd FX.out.size a4 len4 cap4 zs (ZZ.out wx FX.out) (fun k o hk hp => by have := TX.out.lo k hp; omega))
          go_wp2_with fail
          (with_reducible refine SC.out.mono ?_)
          rintro e wb ⟨rfl, Pb, tb, kb⟩
          have Tb := Lib.hid tb
          have Fb : Hid (Fr (fun c _ => c < w1.heap.size) w1 wb) := FX.out.trans (kb.low TX.out.lo)
          have Rb := Lib.hid (RX.out.kp kb)
          have Lb := Lib.hid (LI.out.kp kb)
          clear tb kb SC
          have SC := Lib.hid (sd_open Tb.out Fb.out.size 1 n (TT.out wb Fb.out) (by show (0 : Nat) < 1000000; decide) J2 D2 0 EO.out)
          go_wp2_with fail
          (with_reducible refine SC.out.mono ?_)
          rintro e wc ⟨bc, ac, c9, Vc, Pc, rfl, tc, oc, hVc, kc⟩
          have Tc := Lib.hid tc
          have Fc : Hid (Fr (fun c _ => c < w1.heap.size) w1 wc) := Fb.out.trans (kc.low Tb.out.lo)
          have NOW := Lib.hid (oc.lsl hVc)
          have WAS := Lib.hid ((Rb.out.kp kc).len HV.out)
          have ISS := Lib.hid (Lb.out.kp kc)
          have Xc := Lib.hid Tc.out.b43
          have OC := Lib.hid (OO.out wc Fc.out).1
          have oq := OC.out
          clear tc oc hVc kc SC OC
          have n1 : (J2.all.length : Int) ≤ J.all.length := by have := BTW.out.1; omega
          have n2 : (IS.length : Int) ≤ J2.all.length := by have := BTW.out.2.1; omega
          have hsl := fun W' => run_slice_toS (P := Tryd.prog) 1 Tryd.underlying23 size_bs1 W' a J.all.length ca J2.all.length .i64 (by have := HCAP.out; have := HVL.out; have := BTW.out.1; omega)
          have SBT := jsame_calls wc _ _ _ _ NOW.out (WAS.out.take J2.all.length BTW.out.1) (fun x hx => by have := Xc.out.1 x hx; omega) (by have := Xc.out.2; omega)
          rw [decide_eq_true BTW.out.2.2] at SBT
          have SBT := Lib.hid SBT
          have hmin : min (J2.all.length : Int) (J.all.length : Int) = J2.all.length := by omega
          have hcmp : ¬ ((J.all.length : Int) < J2.all.length) := by omega
          go_wp2_with fail
          (with_reducible refine SBT.out.mono ?_)
          rintro e wN ⟨rfl, kN, hwN⟩
          have GN : Hid (Fr (fun _ _ => True) wc wN) := by rw [hwN]; exact (Fr.refl _ _).drewN kN
          clear hwN SBT hsl
          have SA := Lib.hid (jsame_calls wN _ _ _ _ (NOW.out.fr (GN.out.mono fun _ _ _ => trivial)) (WAS.out.fr (GN.out.mono fun _ _ _ => trivial)) (fun x hx => by have := Xc.out.1 x hx; omega) (by have := Xc.out.2; omega))
          by_cases hA : J2.all = J.all
          · rw [decide_eq_true hA] at SA
            have HA := Lib.hid hA
            clear hA
            go_wp2_with fail
            (with_reducible refine SA.out.mono ?_)
            rintro e wd ⟨rfl, kd, hwd⟩
            have Fd : Hid (Fr (fun _ _ => True) W wd) := by
              rw [hwd]; exact F1.out.trans (Fr.within (((Fc.out.tt GN.out).drewN kd).mono fun _ _ h => h.2))
            have Gd : Hid (Fr (fun _ _ => True) wc wd) := by rw [hwd]; exact GN.out.drewN kd
            clear hwd SA
            go_wp2
            go_ret
            exact ⟨rfl, Fd.out⟩
          · rw [decide_eq_false hA] at SA
            have HA := Lib.hid hA
            clear hA
            go_wp2_with fail
            (with_reducible refine SA.out.mono ?_)
            rintro e wd ⟨rfl, kd, hwd⟩
            have Fd : Hid (Fr (fun _ _ => True) W wd) := by
              rw [hwd]; exact F1.out.trans (Fr.within (((Fc.out.tt GN.out).drewN kd).mono fun _ _ h => h.2))
            have Gd : Hid (Fr (fun _ _ => True) wc wd) := by rw [hwd]; exact GN.out.drewN kd
            clear hwd SA
            have SB := Lib.hid (jsame_calls wd _ _ _ _ (NOW.out.fr (Gd.out.mono fun _ _ _ => trivial)) (ISS.out.fr (Gd.out.mono fun _ _ _ => trivial)) (fun x hx => by have := Xc.out.1 x hx; omega) (by have := Xc.out.2; omega))
            by_cases hB : J2.all = IS
            · rw [decide_eq_true hB] at SB
              have HB := Lib.hid hB
              clear hB
              go_wp2_with fail
              (with_reducible refine SB.out.mono ?_)
              rintro e we ⟨rfl, ke, hwe⟩
              have Fe : Hid (Fr (fun _ _ => True) W we) := by rw [hwe]; exact Fd.out.drewN ke
              clear hwe SB
              go_wp2
              go_ret
              exact ⟨rfl, Fe.out⟩
            · rw [decide_eq_false hB] at SB
              have HB := Lib.hid hB
              clear hB
              go_wp2_with fail
              (with_reducible refine SB.out.mono ?_)
              rintro e we ⟨rfl, ke, hwe⟩
              have Fe : Hid (Fr (fun _ _ => True) W we) := by rw [hwe]; exact Fd.out.drewN ke
              clear hwe SB
              go_wp2
              go_ret
              exact ⟨rfl, Fe.out⟩
        · have SC := Lib.hid (sd_crash TX.out.sd FX.out.size a4 len4 cap4 zs (ZZ.out wx FX.out) (fun k o hk hp => by have := TX.out.lo k hp; omega))
          go_wp2_with fail
          (with_reducible refine SC.out.mono ?_)
          rintro e wb ⟨rfl, Pb, tb, kb⟩
          have Tb := Lib.hid tb
          have Fb : Hid (Fr (fun c _ => c < w1.heap.size) w1 wb) := FX.out.trans (kb.low TX.out.lo)
          have Rb := Lib.hid (RX.out.kp kb)
          have Lb := Lib.hid (LI.out.kp kb)
          clear tb kb SC
          have SC := Lib.hid (sd_open Tb.out Fb.out.size 1 n (TT.out wb Fb.out) (by show (0 : Nat) < 1000000; decide) J2 D2 0 EO.out)
          go_wp2_with fail
          (with_reducible refine SC.out.mono ?_)
          rintro e wc ⟨bc, ac, c9, Vc, Pc, rfl, tc, oc, hVc, kc⟩
          have Tc := Lib.hid tc
          have Fc : Hid (Fr (fun c _ => c < w1.heap.size) w1 wc) := Fb.out.trans (kc.low Tb.out.lo)
          have NOW := Lib.hid (oc.lsl hVc)
          have WAS := Lib.hid ((Rb.out.kp kc).len HV.out)
          have ISS := Lib.hid (Lb.out.kp kc)
          have Xc := Lib.hid Tc.out.b43
          have OC := Lib.hid (OO.out wc Fc.out).1
          have oq := OC.out
          clear tc oc hVc kc SC OC
          have n1 : (J2.all.length : Int) ≤ J.all.length := by have := BTW.out.1; omega
          have n2 : (IS.length : Int) ≤ J2.all.length := by have := BTW.out.2.1; omega
          have hsl := fun W' => run_slice_toS (P := Tryd.prog) 1 Tryd.underlying23 size_bs1 W' a J.all.length ca J2.all.length .i64 (by have := HCAP.out; have := HVL.out; have := BTW.out.1; omega)
          have SBT := jsame_calls wc _ _ _ _ NOW.out (WAS.out.take J2.all.length BTW.out.1) (fun x hx => by have := Xc.out.1 x hx; omega) (by have := Xc.out.2; omega)
          rw [decide_eq_true BTW.out.2.2] at SBT
          have SBT := Lib.hid SBT
          have hmin : min (J2.all.length : Int) (J.all.length : Int) = J2.all.length := by omega
          have hcmp : ¬ ((J.all.length : Int) < J2.all.length) := by omega
          go_wp2_with fail
          (with_reducible refine SBT.out.mono ?_)
          rintro e wN ⟨rfl, kN, hwN⟩
          have GN : Hid (Fr (fun _ _ => True) wc wN) := by rw [hwN]; exact (Fr.refl _ _).drewN kN
          clear hwN SBT hsl
          have SA := Lib.hid (jsame_calls wN _ _ _ _ (NOW.out.fr (GN.out.mono fun _ _ _ => trivial)) (WAS.out.fr (GN.out.mono fun _ _ _ => trivial)) (fun x hx => by have := Xc.out.1 x hx; omega) (by have := Xc.out.2; omega))
          by_cases hA : J2.all = J.all
          · rw [decide_eq_true hA] at SA
            have HA := Lib.hid hA
            clear hA
            go_wp2_with fail
            (with_reducible refine SA.out.mono ?_)
            rintro e wd ⟨rfl, kd, hwd⟩
            have Fd : Hid (Fr (fun _ _ => True) W wd) := by
              rw [hwd]; exact F1.out.trans (Fr.within (((Fc.out.tt GN.out).drewN kd).mono fun _ _ h => h.2))
            have Gd : Hid (Fr (fun _ _ => True) wc wd) := by rw [hwd]; exact GN.out.drewN kd
            clear hwd SA
            go_wp2
            go_ret
            exact ⟨rfl, Fd.out⟩
          · rw [decide_eq_false hA] at SA
            have HA := Lib.hid hA
            clear hA
            go_wp2_with fail
            (with_reducible refine SA.out.mono ?_)
            rintro e wd ⟨rfl, kd, hwd⟩
            have Fd : Hid (Fr (fun _ _ => True) W wd) := by
              rw [hwd]; exact F1.out.trans (Fr.within (((Fc.out.tt GN.out).drewN kd).mono fun _ _ h => h.2))
            have Gd : Hid (Fr (fun _ _ => True) wc wd) := by rw [hwd]; exact GN.out.drewN kd
            clear hwd SA
            have SB := Lib.hid (jsame_calls wd _ _ _ _ (NOW.out.fr (Gd.out.mono fun _ _ _ => trivial)) (ISS.out.fr (Gd.out.mono fun _ _ _ => trivial)) (fun x hx => by have := Xc.out.1 x hx; omega) (by have := Xc.out.2; omega))
            by_cases hB : J2.all = IS
            · rw [decide_eq_true hB] at SB
              have HB := Lib.hid hB
              clear hB
              go_wp2_with fail
              (with_reducible refine SB.out.mono ?_)
              rintro e we ⟨rfl, ke, hwe⟩
              have Fe : Hid (Fr (fun _ _ => True) W we) := by rw [hwe]; exact Fd.out.drewN ke
              clear hwe SB
              go_wp2
              go_ret
              exact ⟨rfl, Fe.out⟩
            · rw [decide_eq_false hB] at SB
              have HB := Lib.hid hB
              clear hB
              go_wp2_with fail
              (with_reducible refine SB.out.mono ?_)
              rintro e we ⟨rfl, ke, hwe⟩
              have Fe : Hid (Fr (fun _ _ => True) W we) := by rw [hwe]; exact Fd.out.drewN ke
              clear hwe SB
              go_wp2
              go_ret
              exact ⟨rfl, Fe.out⟩

theorem amid_walk (W : World) (n : Int) (w0 : (Lit.int .i64 n).wf = true) (a1 : Option Addr) (len1 cap1 : Nat) (cs : Array Value) (fu : Int) (w3 : (Lit.int .i64 fu).wf = true) (a4 : Option Addr) (len4 cap4 : Nat) (r1 : Rd Tryd.prog W 22 [.slice a1 len1 cap1]) (r2 : Rd Tryd.prog W 43 cs.toList) (r4 : Rd Tryd.prog W 24 [.slice a4 len4 cap4]) (ht : TabOK W) :
    Calls Tryd.prog 6 #[.int .i64 n, .slice a1 len1 cap1, .agg cs, .int .i64 fu, .slice a4 len4 cap4] W fun e w' => e = .returned (.bool true) ∧ Below W.heap.size W w' := by
  obtain ⟨o, hcs, hol, _⟩ := op_of r2
  obtain rfl : cs = #[.int .i64 o.q, .int .i64 o.k, o.vb, o.vp] := by
    apply Array.toList_inj.1
    rw [hcs]
  by_cases hb : n < 1 ∨ 17 < n ∨ 30 < len1
  · exact (amid_bad W n a1 len1 cap1 o fu _ ht hb).mono fun e w' ⟨he, hf⟩ => ⟨he, hf.bel'⟩
  · obtain ⟨nn, rfl⟩ := Int.eq_ofNat_of_zero_le (show 0 ≤ n by omega)
    obtain ⟨l, ho, _⟩ := ops_of r1
    obtain ⟨zs, hz, _⟩ := r4.is
    obtain ⟨f0, f1⟩ := bounds_i64 w3
    exact (amid_good W nn a1 len1 cap1 o fu a4 len4 cap4 l zs (by omega) (by omega) ho (by omega) hol f0 f1 hz ht).mono fun e w' ⟨he, hf⟩ => ⟨he, hf.bel'⟩
end Go.Proofs.YtcpbmempfeloaaaDoor
