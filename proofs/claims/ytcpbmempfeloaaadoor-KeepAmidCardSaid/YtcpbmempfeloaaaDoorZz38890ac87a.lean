/- Texts of the proofs, part 38: what the functions that they reach do, walked; no conditions beyond those that each states. -/
import Derived.Test.YtcpbmempfeloaaaDoorZz4627450af4
set_option linter.unusedVariables false
set_option linter.unusedSimpArgs false
/- Law 14: KeepRefused, walked. -/
namespace Go.Proofs.YtcpbmempfeloaaaDoor
open Go.RowKit
set_option linter.unusedVariables false
set_option linter.unusedSimpArgs false

set_option maxRecDepth 100000 in
set_option maxHeartbeats 2000000 in
theorem refused_bad (W : World) (a0 : Option Addr) (len0 cap0 : Nat) (l : List OpK) (h : OpsK W.heap.size W (.slice a0 len0 cap0) l) (hl : l.length = len0) (c0 c1 c2 c3 c4 v2 : Value) (ht : TabOK W) (hs : shortK l 12 = false) :
    Calls Tryd.prog 9 #[.slice a0 len0 cap0, .agg #[c0, c1, c2, c3, c4], v2] W fun e w' => e = .returned (.bool true) ∧ Fr (fun _ _ => True) W w' := by
  obtain ⟨W0, hW0⟩ : ∃ V, W.alloc (.cells #[c0, c1, c2, c3, c4] 68 (0, 0)) = V := ⟨_, rfl⟩
  have F0 : Hid (Fr (fun _ _ => True) W W0) := hW0 ▸ (Fr.refl _ _).alloc _
  have AW := Lib.hid (awake14 W0 (ht.tt F0.out))
  have MB : Hid (∀ w, Fr (fun _ _ => True) W w → Calls Tryd.prog 34 #[.slice a0 len0 cap0] w fun e w' => e = .returned (.tuple #[.pointer none, .pointer none, .agg #[.int .u64 0, .int .i64 0, .int .u64 0, .int .u64 0, .slice none 0 0]]) ∧ Fr (fun _ _ => True) w w') := fun w f => made14_bad w a0 len0 cap0 l (h.fr (f.mono fun _ _ _ => trivial)) hl hs
  clear ht h hl hs
  have HW0 := Lib.hid hW0
  clear hW0
  go_enter Tryd.func9, Tryd.ntmps9
  go_wp2_with fail
  rw [HW0.out]
  (with_reducible refine AW.out.mono ?_)
  rintro e w1 ⟨rfl, f1⟩
  have F1 := Lib.hid (F0.out.trans f1)
  clear f1
  go_wp2_with fail
  (with_reducible refine (MB.out w1 F1.out).mono ?_)
  rintro e w2 ⟨rfl, f2⟩
  have F2 := Lib.hid (F1.out.trans f2)
  clear f2 MB
  go_wp2
  go_ret
  exact ⟨rfl, F2.out.alloc _⟩
theorem took_term {s0 sv : Sta} (h : Took s0 sv) : max sv.term (lastT sv) = (raise s0).term := by
  have h1 := (raise_es s0).2.2.2.1
  rcases h with rfl | rfl
  · rw [h1]
  · rw [raise_last, h1]; omega
set_option maxRecDepth 100000 in
set_option maxHeartbeats 8000000 in
theorem refused_good (W : World) (a0 : Option Addr) (len0 cap0 : Nat) (l : List OpK) (h : OpsK W.heap.size W (.slice a0 len0 cap0) l) (hl : l.length = len0) (s : Sta) (xs : List EV) (sa : Option Addr) (sc : Nat) (hs : SI W.heap.size W s (.slice sa xs.length sc) xs) (pa : Option Addr) (pl pc : Nat) (zs : List Int) (hz : IntsAt (fun c _ => c < W.heap.size) W (.slice pa pl pc) zs) (ht : TabOK W) (hsh : shortK l 12 = true) :
    Calls Tryd.prog 9 #[.slice a0 len0 cap0, vS s (.slice sa xs.length sc), .slice pa pl pc] W fun e w' => e = .returned (.bool true) ∧ Fr (fun _ _ => True) W w' := by
  obtain ⟨W0, hW0⟩ : ∃ V, W.alloc (.cells #[.int .u64 (s.term : Nat), .int .i64 s.vote, .int .u64 (s.base : Nat), .int .u64 (s.bt : Nat), .slice sa xs.length sc] 68 (0, 0)) = V := ⟨_, rfl⟩
  have F0 : Hid (Fr (fun _ _ => True) W W0) := hW0 ▸ (Fr.refl _ _).alloc _
  have B0 : W0.heap[W.heap.size]? = some (.cells #[.int .u64 (s.term : Nat), .int .i64 s.vote, .int .u64 (s.base : Nat), .int .u64 (s.bt : Nat), .slice sa xs.length sc] 68 (0, 0)) := hW0 ▸ heap_alloc_new W _
  have BX0 := Lib.hid B0
  have AW := Lib.hid (awake14 W0 (ht.tt F0.out))
  have TT0 := Lib.hid (fun (w : World) (f : Fr (fun _ _ => True) W w) => ht.tt f)
  have H0 : Hid (0 < W.heap.size) := by have := cell_lt (ht 0 (by decide)); exact (by simpa using this : 0 < W.heap.size)
  have HO := Lib.hid h
  have HS := Lib.hid hs
  have HZ := Lib.hid hz
  have HL := Lib.hid hl
  have HSH := Lib.hid hsh
  have HW0 := Lib.hid hW0
  clear hW0 B0 h hs hz hl hsh ht
  obtain ⟨tm, vo, ba, bt, es⟩ := s
  dsimp only at BX0 HW0
  unfold vS
  dsimp only
  obtain ⟨xl, hxl⟩ : ∃ x, xs.length = x := ⟨_, rfl⟩
  rw [hxl] at BX0 HW0 HS ⊢
  have HXL := Lib.hid hxl
  obtain ⟨gb, hgb⟩ : ∃ g, W.heap.size = g := ⟨_, rfl⟩
  have HGB := Lib.hid hgb
  clear hxl
  go_enter Tryd.func9, Tryd.ntmps9
  go_wp2_with fail
  rw [HW0.out]
  try rw [hgb]
  rw [hgb] at BX0
  clear hgb
  (with_reducible refine AW.out.mono ?_)
  rintro e w1 ⟨rfl, f1⟩
  have F1 := Lib.hid (F0.out.trans f1)
  have BX1 : Hid (w1.heap[gb]? = some (.cells #[.int .u64 (tm : Nat), .int .i64 vo, .int .u64 (ba : Nat), .int .u64 (bt : Nat), .slice sa xl sc] 68 (0, 0))) := f1.keep _ _ BX0.out trivial
  obtain ⟨n, hn⟩ : ∃ n, w1.heap.size = n := ⟨_, rfl⟩
  have HN := Lib.hid hn
  have NG : Hid (gb < n ∧ W.heap.size ≤ n) := ⟨hn ▸ lt_of_some BX1.out, hn ▸ F1.out.size⟩
  have N0 : Hid (0 < n) := by have := NG.out; exact (by omega : 0 < n)
  have O1 : Hid (OpsK n w1 (.slice a0 len0 cap0) l) := (HO.out.fr (F1.out.mono fun _ _ _ => trivial)).mono NG.out.2
  have S1 : Hid (∀ w, Fr (fun c _ => c < n) w1 w → SI n w ⟨tm, vo, ba, bt, es⟩ (.slice sa xl sc) xs) := fun w f => ((HS.out.fr (F1.out.mono fun _ _ _ => trivial)).mono NG.out.2).fr f
  have Z1 : Hid (∀ w, Fr (fun c _ => c < n) w1 w → IntsAt (fun c _ => c < n) w (.slice pa pl pc) zs) := fun w f => (((HZ.out.fr (F1.out.mono fun _ _ _ => trivial) fun _ _ h => h)).mono fun c _ h => Nat.lt_of_lt_of_le h NG.out.2).fr f fun _ _ h => h
  have TT : Hid (∀ w, Fr (fun c _ => c < n) w1 w → TabOK w) := kn_ctx (TT0.out w1 F1.out) N0.out
  have BX : Hid (∀ w, Fr (fun c _ => c < n) w1 w → w.cell? ⟨gb, 0, none⟩ = some (.int .u64 (tm : Nat)) ∧ w.cell? ⟨gb, 1, none⟩ = some (.int .i64 vo) ∧ w.cell? ⟨gb, 2, none⟩ = some (.int .u64 (ba : Nat)) ∧ w.cell? ⟨gb, 3, none⟩ = some (.int .u64 (bt : Nat)) ∧ w.cell? ⟨gb, 4, none⟩ = some (.slice sa xl sc)) := fun w f => by
    have t := f.keep _ _ BX1.out NG.out.1
    exact ⟨cell_mk t rfl, cell_mk t rfl, cell_mk t rfl, cell_mk t rfl, cell_mk t rfl⟩
  have WR : Hid (∀ w, Fr (fun c _ => c < n) w1 w → Fr (fun _ _ => True) W w) := fun w f => F1.out.trans (Fr.within (by rw [HN.out]; exact f.mono fun c _ h => h.2))
  have MC : Hid (Calls Tryd.prog 34 #[.slice a0 len0 cap0] w1 fun e w' => (∃ bd bk X s0 sv sx sa sc, e = .returned (.tuple #[.pointer (some ⟨bd, 0, none⟩), .pointer (some ⟨bk, 0, none⟩), vS sv (.slice sa sx.length sc)]) ∧ KO n 12 181 X w' bk bd s0 ∧ SA n X w' sv (.slice sa sx.length sc) sx ∧ Took s0 sv) ∧ Fr (fun c _ => c < n) w1 w') := made14_good w1 a0 len0 cap0 l O1.out HL.out HSH.out N0.out (Nat.le_of_eq HN.out.symm) (TT.out _ (Fr.refl _ _))
  clear f1 hn AW BX0 BX1 HW0 F0 TT0 F1 O1
  go_wp2_with fail
  (with_reducible refine MC.out.mono ?_)
  rintro e w2 ⟨⟨bd, bk, X2, s0, sv, sx, va, vc, rfl, ko2, sa2, tk2⟩, f2⟩
  have F2 := Lib.hid f2
  have N2 : Hid (n ≤ w2.heap.size) := by have := f2.size; rw [HN.out] at this; exact this
  obtain ⟨vl, hvl⟩ : ∃ x, sx.length = x := ⟨_, rfl⟩
  have HVL := Lib.hid hvl
  rw [hvl] at sa2
  obtain ⟨V3, hV3⟩ : ∃ V, w2.alloc (.cells #[.int .u64 (sv.term : Nat), .int .i64 sv.vote, .int .u64 (sv.base : Nat), .int .u64 (sv.bt : Nat), .slice va vl vc] 68 (0, 0)) = V := ⟨_, rfl⟩
  have e3 : Fr (fun _ _ => True) w2 V3 := hV3 ▸ (Fr.refl _ _).alloc _
  have BO : Hid (V3.heap[w2.heap.size]? = some (.cells #[.int .u64 (sv.term : Nat), .int .i64 sv.vote, .int .u64 (sv.base : Nat), .int .u64 (sv.bt : Nat), .slice va vl vc] 68 (0, 0)) ∧ ¬ X2 w2.heap.size) := ⟨hV3 ▸ heap_alloc_new w2 _, fun k => by have := ko2.hi _ k; omega⟩
  have F3 : Hid (Fr (fun c _ => c < n) w1 V3) := f2.trans (e3.mono fun _ _ _ => trivial)
  have N3 : Hid (n ≤ V3.heap.size) := Nat.le_trans N2.out e3.size
  have KO3 := Lib.hid (ko2.tt e3)
  have SA3 := Lib.hid (sa2.tt e3)
  have TK := Lib.hid tk2
  have HV3 := Lib.hid hV3
  rw [hvl]
  unfold vS
  clear hV3 ko2 sa2 e3 f2 tk2 MC hvl
  have SY : Hid (Calls Tryd.prog 40 #[.pointer (some ⟨bd, 0, none⟩)] V3 fun e w' => e = .returned (.tuple #[]) ∧ ∃ X', KO n 12 181 X' w' bk bd s0 ∧ Kp X2 X' V3 w') := ko_sync KO3.out N3.out
  go_upto_region 3 with fail
  rw [HV3.out]
  obtain ⟨go, hgo⟩ : ∃ g, w2.heap.size = g := ⟨_, rfl⟩
  rw [hgo] at BO ⊢
  clear HV3 hgo
  go_wp2_with fail
  (with_reducible refine SY.out.mono ?_)
  rintro e w4 ⟨rfl, X4, ko4, kp4⟩
  have F4 : Hid (Fr (fun c _ => c < n) w1 w4) := F3.out.trans (kp4.low KO3.out.lo)
  have N4 : Hid (n ≤ w4.heap.size) := Nat.le_trans N3.out kp4.fr.size
  have BO4 := Lib.hid (kp4.box BO.out.1 BO.out.2)
  have SV4 := Lib.hid (SA3.out.kp kp4)
  have LO4 := Lib.hid ko4.lo
  have SC : Hid (Calls Tryd.prog 35 #[.pointer (some ⟨bk, 0, none⟩), .agg #[.int .u64 (tm : Nat), .int .i64 vo, .int .u64 (ba : Nat), .int .u64 (bt : Nat), .slice sa xl sc]] w4 fun e w' => ∃ c X' s1, e = .returned (.int .i64 c) ∧ KO n 12 (181 + 12 + 3) X' w' bk bd s1 ∧ Kp X4 X' w4 w' ∧ (c = 0 ∨ (c = 1 ∨ c = 42) ∧ s1 = s0)) := by
    have hsi := S1.out _ F4.out
    refine (ko_save (s := ⟨tm, vo, ba, bt, es⟩) ko4 N0.out N4.out _ xs (hsi.sa LO4.out) hsi.wf (TT.out _ F4.out) hsi.big (by decide)).mono fun e w' hh => ?_
    obtain ⟨c, X', s1, he, h1, h2, h3⟩ := hh
    refine ⟨c, X', s1, he, h1, h2, ?_⟩
    rcases h3 with ⟨h3, _⟩ | ⟨h3, h4⟩ | ⟨h3, h4, _⟩
    · exact .inl h3
    · exact .inr ⟨.inl h3, h4⟩
    · exact .inr ⟨.inr h3, h4⟩
  clear kp4 SY ko4 BO SA3 KO3
  obtain ⟨b0, b1, b2, b3, b4⟩ := BX.out _ F4.out
  go_wp2_with fail
  (with_reducible refine SC.out.mono ?_)
  rintro e w5 ⟨c, X5, s1, rfl, ko5, kp5, hc⟩
  have F5 : Hid (Fr (fun c _ => c < n) w1 w5) := F4.out.trans (kp5.low LO4.out)
  have N5 : Hid (n ≤ w5.heap.size) := Nat.le_trans N4.out kp5.fr.size
  have BO5 := Lib.hid (kp5.box BO4.out.1 BO4.out.2)
  have SV5 := Lib.hid (SV4.out.kp kp5)
  have LO5 := Lib.hid ko5.lo
  clear SC b0 b1 b2 b3 b4 kp5 BO4 SV4
  rcases hc with rfl | ⟨hc, rfl⟩
  case inl =>
    clear ko5
    go_wp2
    go_ret
    exact ⟨rfl, WR.out _ F5.out⟩
  case inr =>
    have hc0 : (c == 0) = false := by rcases hc with rfl | rfl <;> rfl
    have PC : Hid (Calls Tryd.prog 31 #[.pointer (some ⟨bd, 0, none⟩)] w5 fun e w' => e = .returned (.int .i64 0) ∧ w5 = w') := ko_pending ko5
    have CC : Hid (Calls Tryd.prog 16 #[.pointer (some ⟨bd, 0, none⟩), .slice pa pl pc] w5 fun e w' => e = .returned (.tuple #[]) ∧ ∃ X', KCr n 12 (181 + 12 + 3) X' w' bd s1 ∧ Kp X5 X' w5 w') := ko_crash (K' := fun c _ => c < n) ko5 N5.out pa pl pc zs (Z1.out _ F5.out) fun c o hc k => by have := LO5.out c k; omega
    have RG5 := Lib.hid ko5.ki
    have HC := Lib.hid hc
    clear ko5 hc
    go_wp2_with fail
    (with_reducible refine PC.out.mono ?_)
    rintro e v5 ⟨rfl, rfl⟩
    clear PC
    go_wp2_with fail
    (with_reducible refine CC.out.mono ?_)
    rintro e w6 ⟨rfl, X6, kc6, kp6⟩
    have F6 : Hid (Fr (fun c _ => c < n) w1 w6) := F5.out.trans (kp6.low LO5.out)
    have N6 : Hid (n ≤ w6.heap.size) := Nat.le_trans N5.out kp6.fr.size
    have BO6 := Lib.hid (kp6.box BO5.out.1 BO5.out.2)
    have SV6 := Lib.hid (SV5.out.kp kp6)
    have LO6 := Lib.hid kc6.lo
    have TKE := Lib.hid TK.out.es
    have TKT := Lib.hid (took_term TK.out)
    obtain ⟨rs, hrs⟩ : ∃ x, raise s1 = x := ⟨_, rfl⟩
    have hre := raise_es s1
    rw [hrs] at hre TKT
    have HRE : Hid (rs.es = s1.es ∧ rs.base = s1.base ∧ rs.bt = s1.bt) := ⟨hre.1, hre.2.1, hre.2.2.1⟩
    have OC := Lib.hid (kc_open kc6 N0.out N6.out (TT.out _ F6.out) (by decide))
    rw [hrs] at OC
    obtain ⟨otm, ovo, oba, obt, oes⟩ := sv
    obtain ⟨rtm, rvo, rba, rbt, res⟩ := rs
    dsimp only at *
    obtain rfl : rba = oba := by rw [HRE.out.2.1, TKE.out.2.1]
    obtain rfl : rbt = obt := by rw [HRE.out.2.2, TKE.out.2.2]
    have HSE : Hid (res = s1.es) := HRE.out.1
    have HES : Hid (res = oes) := HRE.out.1.trans TKE.out.1.symm
    replace OC : Hid (Calls Tryd.prog 36 #[.pointer (some ⟨bd, 0, none⟩), .int .i64 1, .int .i64 12] w6 fun e w' => ∃ bk X' xs a c, e = .returned (.tuple #[.pointer (some ⟨bk, 0, none⟩), .agg #[.int .u64 (rtm : Nat), .int .i64 rvo, .int .u64 (rba : Nat), .int .u64 (rbt : Nat), .slice a xs.length c], .int .i64 0]) ∧ KO n 12 (181 + 12 + 3 + 1) X' w' bk bd s1 ∧ SA n X' w' ⟨rtm, rvo, rba, rbt, res⟩ (.slice a xs.length c) xs ∧ Kp X6 X' w6 w') := OC
    clear CC kc6 kp6 hrs hre HRE TKE BO5 SV5
    go_wp2_with fail
    (with_reducible refine OC.out.mono ?_)
    rintro e w7 ⟨bk7, X7, ys, ya, yc, rfl, ko7, sa7, kp7⟩
    have F7 : Hid (Fr (fun c _ => c < n) w1 w7) := F6.out.trans (kp7.low LO6.out)
    have BO7 := Lib.hid (kp7.box BO6.out.1 BO6.out.2)
    have SV7 := Lib.hid (SV6.out.kp kp7)
    obtain ⟨yl, hyl⟩ : ∃ x, ys.length = x := ⟨_, rfl⟩
    rw [hyl] at sa7 ⊢
    have HYL := Lib.hid hyl
    obtain ⟨V8, hV8⟩ : ∃ V, w7.alloc (.cells #[.int .u64 (rtm : Nat), .int .i64 rvo, .int .u64 (rba : Nat), .int .u64 (rbt : Nat), .slice ya yl yc] 68 (0, 0)) = V := ⟨_, rfl⟩
    have e8 : Fr (fun _ _ => True) w7 V8 := hV8 ▸ (Fr.refl _ _).alloc _
    have BT : Hid (V8.heap[w7.heap.size]? = some (.cells #[.int .u64 (rtm : Nat), .int .i64 rvo, .int .u64 (rba : Nat), .int .u64 (rbt : Nat), .slice ya yl yc] 68 (0, 0))) := hV8 ▸ heap_alloc_new w7 _
    have F8 : Hid (Fr (fun c _ => c < n) w1 V8) := F7.out.trans (e8.mono fun _ _ _ => trivial)
    have BO8 := Lib.hid (e8.keep _ _ BO7.out.1 trivial)
    have SV8 := Lib.hid (SV7.out.tt e8)
    have SR8 := Lib.hid (sa7.tt e8)
    have HV8 := Lib.hid hV8
    obtain ⟨gt, hgt⟩ : ∃ g, w7.heap.size = g := ⟨_, rfl⟩
    rw [hgt] at BT
    have HGT := Lib.hid hgt
    have CE : Hid (∀ W, Fr (fun _ _ => True) V8 W → (W.cell? ⟨gt, 0, none⟩ = some (.int .u64 (rtm : Nat)) ∧ W.cell? ⟨gt, 1, none⟩ = some (.int .i64 rvo) ∧ W.cell? ⟨gt, 2, none⟩ = some (.int .u64 (rba : Nat)) ∧ W.cell? ⟨gt, 3, none⟩ = some (.int .u64 (rbt : Nat)) ∧ W.cell? ⟨gt, 4, none⟩ = some (.slice ya yl yc)) ∧ W.cell? ⟨go, 0, none⟩ = some (.int .u64 (otm : Nat)) ∧ W.cell? ⟨go, 1, none⟩ = some (.int .i64 ovo) ∧ W.cell? ⟨go, 2, none⟩ = some (.int .u64 (rba : Nat)) ∧ W.cell? ⟨go, 3, none⟩ = some (.int .u64 (rbt : Nat)) ∧ W.cell? ⟨go, 4, none⟩ = some (.slice va vl vc)) := fun W f => by
      have t := f.keep _ _ BT.out trivial
      have u := f.keep _ _ BO8.out trivial
      exact ⟨⟨cell_mk t rfl, cell_mk t rfl, cell_mk t rfl, cell_mk t rfl, cell_mk t rfl⟩, cell_mk u rfl, cell_mk u rfl, cell_mk u rfl, cell_mk u rfl, cell_mk u rfl⟩
    have U8 : Hid (Fr (fun _ _ => True) V8 V8.drew) := (Fr.refl _ _).drew
    have DC : Hid (∀ w, Calls Tryd.prog 37 #[.agg #[.int .u64 (otm : Nat), .int .i64 ovo, .int .u64 (rba : Nat), .int .u64 (rbt : Nat), .slice va vl vc]] w fun e w' => e = .returned (.agg #[.int .u64 (otm : Nat), .int .i64 ovo, .int .u64 (rba : Nat), .int .u64 (rbt : Nat), .slice va vl vc]) ∧ Fr (fun _ _ => True) w w') := fun w => doc_calls w ⟨otm, ovo, rba, rbt, oes⟩ va vl vc
    have TC : Hid (∀ w, Fr (fun _ _ => True) V8 w → Calls Tryd.prog 38 #[.agg #[.int .u64 (otm : Nat), .int .i64 ovo, .int .u64 (rba : Nat), .int .u64 (rbt : Nat), .slice va vl vc]] w fun e w' => e = .returned (.int .u64 (rtm : Nat)) ∧ Fr (fun _ _ => True) w w') := fun w f => by
      have k := term_calls w ⟨otm, ovo, rba, rbt, oes⟩ va vl vc sx (SV8.out.tt f).rows SV8.out.es (by have h1 := SV8.out.len; have h2 := RG5.out.2.2.1; have h3 := congrArg List.length HES.out; have h4 := congrArg List.length HSE.out; have h5 := HVL.out; dsimp only at h1 h2 h3 h4; omega)
      rw [TKT.out] at k
      exact k
    have hbad := (Sta.right_bad RG5.out.1).1
    have LC : Hid (∀ w, Fr (fun _ _ => True) V8 w → Calls Tryd.prog 41 #[.int .u64 (rba : Nat), .int .u64 (rbt : Nat), .slice ya yl yc, .agg #[.int .u64 (rba : Nat), .int .u64 (rbt : Nat), .slice va vl vc]] w fun e w' => e = .returned (.bool true) ∧ Fr (fun _ _ => True) w w') := fun w f => by
      have r := SR8.out.tt f
      have v := SV8.out.tt f
      have k := lsame_calls w rba rbt rba rbt (.slice ya yl yc) va vl vc ys sx r.rows v.rows (fun x hx => ⟨r.dat x hx, by
        have h1 : x.en ∈ s1.es := by
          have h2 : x.en ∈ res := by have h3 := r.es; dsimp only at h3; rw [h3]; exact List.mem_map_of_mem hx
          exact HSE.out ▸ h2
        have := hbad _ h1
        unfold badE at this
        simp only [Bool.or_eq_false_iff, decide_eq_false_iff_not] at this
        have h4 : ¬ 24 < x.d.length := this.2.2
        omega⟩) v.dat (by have := r.len; have := RG5.out.2.2.1; have := congrArg List.length HSE.out; dsimp only at *; omega)
      have e1 : ys.map EV.en = sx.map EV.en := by rw [← r.es, ← v.es]; exact HES.out
      rw [e1, decide_eq_true rfl, decide_eq_true rfl, decide_eq_true rfl] at k
      exact k
    have hfd : ∀ w : World, (Instr.field 77 (.agg #[.int .u64 (otm : Nat), .int .i64 ovo, .int .u64 (rba : Nat), .int .u64 (rbt : Nat), .slice va vl vc]) 2).run Tryd.prog w = .ok (.agg #[.int .u64 (rba : Nat), .int .u64 (rbt : Nat), .slice va vl vc]) w := fun _ => by kernel_rfl
    clear OC ko7 kp7 sa7 hyl hV8 e8 hgt hbad BO6 BO7 SV6 SV7
    go_upto_region 12 with fail
    rw [HV8.out]
    rw [HGT.out]
    clear HV8 HGT
    go_region_held3 (fun W => (W.cell? ⟨gt, 0, none⟩ = some (.int .u64 (rtm : Nat)) ∧ W.cell? ⟨gt, 1, none⟩ = some (.int .i64 rvo) ∧ W.cell? ⟨gt, 2, none⟩ = some (.int .u64 (rba : Nat)) ∧ W.cell? ⟨gt, 3, none⟩ = some (.int .u64 (rbt : Nat)) ∧ W.cell? ⟨gt, 4, none⟩ = some (.slice ya yl yc)) ∧ W.cell? ⟨go, 0, none⟩ = some (.int .u64 (otm : Nat)) ∧ W.cell? ⟨go, 1, none⟩ = some (.int .i64 ovo) ∧ W.cell? ⟨go, 2, none⟩ = some (.int .u64 (rba : Nat)) ∧ W.cell? ⟨go, 3, none⟩ = some (.int .u64 (rbt : Nat)) ∧ W.cell? ⟨go, 4, none⟩ = some (.slice va vl vc))
      (first | exact CE.out _ U8.out | exact CE.out _ F9.out | exact CE.out _ F10.out)
      (first
        | (go_at_call 37; (with_reducible refine (DC.out _).mono ?_); rintro e w9 ⟨rfl, f9⟩; have F9 := Lib.hid (U8.out.trans f9); clear f9)
        | (go_at_call 41; go_must ((with_reducible refine (LC.out _ F9.out).mono ?_); rintro e w10 ⟨rfl, f10⟩; have F10 := Lib.hid (F9.out.trans f10); clear f10)))
    all_goals
      have U10 := Lib.hid F10.out.drew
      have FX : Hid (∀ w, Fr (fun _ _ => True) V8 w → Fr (fun _ _ => True) W w) := fun w f => WR.out _ (F8.out.trans (f.mono fun _ _ _ => trivial))
      rcases HC.out with rfl | rfl
      · go_upto_region 13 with fail
        refine wp_region_held_drew (S := fun W => (W.cell? ⟨gt, 0, none⟩ = some (.int .u64 (rtm : Nat)) ∧ W.cell? ⟨gt, 1, none⟩ = some (.int .i64 rvo) ∧ W.cell? ⟨gt, 2, none⟩ = some (.int .u64 (rba : Nat)) ∧ W.cell? ⟨gt, 3, none⟩ = some (.int .u64 (rbt : Nat)) ∧ W.cell? ⟨gt, 4, none⟩ = some (.slice ya yl yc)) ∧ W.cell? ⟨go, 0, none⟩ = some (.int .u64 (otm : Nat)) ∧ W.cell? ⟨go, 1, none⟩ = some (.int .i64 ovo) ∧ W.cell? ⟨go, 2, none⟩ = some (.int .u64 (rba : Nat)) ∧ W.cell? ⟨go, 3, none⟩ = some (.int .u64 (rbt : Nat)) ∧ W.cell? ⟨go, 4, none⟩ = some (.slice va vl vc)) (by kernel_rfl) (CE.out _ U10.out) (fun hHeld => ?_)
        refine wpAnyH_take (i := 0) (v := ?v0) rfl (by kernel_rfl) (by kernel_rfl) (by kernel_rfl) (fun _ _ _ h => h) (Or.inl ⟨by rfl, ?hy0⟩) hHeld ?rest0
        case hy0 => (intro w hSw; (try dsimp only at hSw); (try simp only [List.getElem_toArray, List.getElem_cons_zero, List.getElem_cons_succ]); go_simp; try with_reducible rfl)
        try simp only [List.getElem_toArray, List.getElem_cons_zero, List.getElem_cons_succ, Act.put, List.setIfInBounds_toArray, List.set_cons_zero, List.set_cons_succ]
        refine wpAnyH_take (i := 1) (v := ?v1) rfl (by kernel_rfl) (by kernel_rfl) (by kernel_rfl) (fun _ _ _ h => h) (Or.inl ⟨by rfl, ?hy1⟩) hHeld ?rest1
        case hy1 => (intro w hSw; (try dsimp only at hSw); (try simp only [List.getElem_toArray, List.getElem_cons_zero, List.getElem_cons_succ]); go_simp; try with_reducible rfl)
        try simp only [List.getElem_toArray, List.getElem_cons_zero, List.getElem_cons_succ, Act.put, List.setIfInBounds_toArray, List.set_cons_zero, List.set_cons_succ]
        refine wpAnyH_take (i := 2) (v := ?v2) rfl (by kernel_rfl) (by kernel_rfl) (by kernel_rfl) (fun _ _ _ h => h) (Or.inl ⟨by rfl, ?hy2⟩) hHeld ?rest2
        case hy2 => (intro w hSw; (try dsimp only at hSw); (try simp only [List.getElem_toArray, List.getElem_cons_zero, List.getElem_cons_succ]); go_simp; try with_reducible rfl)
        try simp only [List.getElem_toArray, List.getElem_cons_zero, List.getElem_cons_succ, Act.put, List.setIfInBounds_toArray, List.set_cons_zero, List.set_cons_succ]
        refine wpAnyH_take (i := 3) (v := ?v3) rfl (by kernel_rfl) (by kernel_rfl) (by kernel_rfl) (fun _ _ _ h => h) (Or.inl ⟨by rfl, ?hy3⟩) hHeld ?rest3
        case hy3 => (intro w hSw; (try dsimp only at hSw); (try simp only [List.getElem_toArray, List.getElem_cons_zero, List.getElem_cons_succ]); go_simp; try with_reducible rfl)
        try simp only [List.getElem_toArray, List.getElem_cons_zero, List.getElem_cons_succ, Act.put, List.setIfInBounds_toArray, List.set_cons_zero, List.set_cons_succ]
        refine wpAnyH_take (i := 4) (v := ?v4) rfl (by kernel_rfl) (by kernel_rfl) (by kernel_rfl) (fun _ _ _ h => h) (Or.inl ⟨by rfl, ?hy4⟩) hHeld ?rest4
        case hy4 => (intro w hSw; (try dsimp only at hSw); (try simp only [List.getElem_toArray, List.getElem_cons_zero, List.getElem_cons_succ]); go_simp; try with_reducible rfl)
        try simp only [List.getElem_toArray, List.getElem_cons_zero, List.getElem_cons_succ, Act.put, List.setIfInBounds_toArray, List.set_cons_zero, List.set_cons_succ]
        refine wpAnyH_take (i := 5) (v := ?v5) rfl (by kernel_rfl) (by kernel_rfl) (by kernel_rfl) (fun _ _ _ h => h) (Or.inl ⟨by rfl, ?hy5⟩) hHeld ?rest5
        case hy5 => (intro w hSw; (try dsimp only at hSw); (try simp only [List.getElem_toArray, List.getElem_cons_zero, List.getElem_cons_succ]); go_simp; try with_reducible rfl)
        try simp only [List.getElem_toArray, List.getElem_cons_zero, List.getElem_cons_succ, Act.put, List.setIfInBounds_toArray, List.set_cons_zero, List.set_cons_succ]
        refine wpAnyH_take (i := 6) (v := ?v6) rfl (by kernel_rfl) (by kernel_rfl) (by kernel_rfl) (fun _ _ _ h => h) (Or.inl ⟨by rfl, ?hy6⟩) hHeld ?rest6
        case hy6 => (intro w hSw; (try dsimp only at hSw); (try simp only [List.getElem_toArray, List.getElem_cons_zero, List.getElem_cons_succ]); go_simp; try with_reducible rfl)
        try simp only [List.getElem_toArray, List.getElem_cons_zero, List.getElem_cons_succ, Act.put, List.setIfInBounds_toArray, List.set_cons_zero, List.set_cons_succ]
        refine wpAnyH_take (i := 7) (v := ?v7) rfl (by kernel_rfl) (by kernel_rfl) (by kernel_rfl) (fun _ _ _ h => h) (Or.inl ⟨by rfl, ?hy7⟩) hHeld ?rest7
        case hy7 => (intro w hSw; (try dsimp only at hSw); (try simp only [List.getElem_toArray, List.getElem_cons_zero, List.getElem_cons_succ]); go_simp; try with_reducible rfl)
        try simp only [List.getElem_toArray, List.getElem_cons_zero, List.getElem_cons_succ, Act.put, List.setIfInBounds_toArray, List.set_cons_zero, List.set_cons_succ]
        refine wpAnyH_take (i := 8) (v := ?v8) rfl (by kernel_rfl) (by kernel_rfl) (by kernel_rfl) (fun _ _ _ h => h) (Or.inl ⟨by rfl, ?hy8⟩) hHeld ?rest8
        case hy8 => (intro w hSw; (try dsimp only at hSw); (try simp only [List.getElem_toArray, List.getElem_cons_zero, List.getElem_cons_succ]); go_simp; try with_reducible rfl)
        try simp only [List.getElem_toArray, List.getElem_cons_zero, List.getElem_cons_succ, Act.put, List.setIfInBounds_toArray, List.set_cons_zero, List.set_cons_succ]
        refine wpAnyH_take (i := 9) (v := undef) rfl (by kernel_rfl) (by kernel_rfl) (by kernel_rfl) (fun _ _ _ h => h) (Or.inr ⟨by rfl, rfl⟩) hHeld ?rest9
        try simp only [List.getElem_toArray, List.getElem_cons_zero, List.getElem_cons_succ, Act.put, List.setIfInBounds_toArray, List.set_cons_zero, List.set_cons_succ]
        refine wpAnyH_take (i := 10) (v := undef) rfl (by kernel_rfl) (by kernel_rfl) (by kernel_rfl) (fun _ _ _ h => h) (Or.inr ⟨by rfl, rfl⟩) hHeld ?rest10
        try simp only [List.getElem_toArray, List.getElem_cons_zero, List.getElem_cons_succ, Act.put, List.setIfInBounds_toArray, List.set_cons_zero, List.set_cons_succ]
        refine wpAnyH_take (i := 11) (v := ?v11) rfl (by kernel_rfl) (by kernel_rfl) (by kernel_rfl) (fun _ _ _ h => h) (Or.inl ⟨by rfl, ?hy11⟩) hHeld ?rest11
        case hy11 => (intro w hSw; (try dsimp only at hSw); (try simp only [List.getElem_toArray, List.getElem_cons_zero, List.getElem_cons_succ]); go_simp; try with_reducible rfl)
        try simp only [List.getElem_toArray, List.getElem_cons_zero, List.getElem_cons_succ, Act.put, List.setIfInBounds_toArray, List.set_cons_zero, List.set_cons_succ]
        refine wpAnyH_take (i := 12) (v := ?v12) rfl (by kernel_rfl) (by kernel_rfl) (by kernel_rfl) (fun _ _ _ h => h) (Or.inl ⟨by rfl, ?hy12⟩) hHeld ?rest12
        case hy12 => (intro w hSw; (try dsimp only at hSw); (try simp only [List.getElem_toArray, List.getElem_cons_zero, List.getElem_cons_succ]); go_simp; try with_reducible rfl)
        try simp only [List.getElem_toArray, List.getElem_cons_zero, List.getElem_cons_succ, Act.put, List.setIfInBounds_toArray, List.set_cons_zero, List.set_cons_succ]
        refine wpAnyH_take (i := 13) (v := ?v13) rfl (by kernel_rfl) (by kernel_rfl) (by kernel_rfl) (fun _ _ _ h => h) (Or.inl ⟨by rfl, ?hy13⟩) hHeld ?rest13
        case hy13 => (intro w hSw; (try dsimp only at hSw); (try simp only [List.getElem_toArray, List.getElem_cons_zero, List.getElem_cons_succ]); go_simp; try with_reducible rfl)
        try simp only [List.getElem_toArray, List.getElem_cons_zero, List.getElem_cons_succ, Act.put, List.setIfInBounds_toArray, List.set_cons_zero, List.set_cons_succ]
        refine wpAnyH_take (i := 14) (v := ?v14) rfl (by kernel_rfl) (by kernel_rfl) (by kernel_rfl) (fun _ _ _ h => h) (Or.inl ⟨by rfl, ?hy14⟩) hHeld ?rest14
        case hy14 => (intro w hSw; (try dsimp only at hSw); (try simp only [List.getElem_toArray, List.getElem_cons_zero, List.getElem_cons_succ]); go_simp; try with_reducible rfl)
        try simp only [List.getElem_toArray, List.getElem_cons_zero, List.getElem_cons_succ, Act.put, List.setIfInBounds_toArray, List.set_cons_zero, List.set_cons_succ]
        refine wpAnyH_take (i := 15) (v := ?v15) rfl (by kernel_rfl) (by kernel_rfl) (by kernel_rfl) (fun _ _ _ h => h) (Or.inl ⟨by rfl, ?hy15⟩) hHeld ?rest15
        case hy15 => (intro w hSw; (try dsimp only at hSw); (try simp only [List.getElem_toArray, List.getElem_cons_zero, List.getElem_cons_succ]); go_simp; try with_reducible rfl)
        try simp only [List.getElem_toArray, List.getElem_cons_zero, List.getElem_cons_succ, Act.put, List.setIfInBounds_toArray, List.set_cons_zero, List.set_cons_succ]
        refine wpAnyH_take (i := 16) (v := ?v16) rfl (by kernel_rfl) (by kernel_rfl) (by kernel_rfl) (fun _ _ _ h => h) (Or.inl ⟨by rfl, ?hy16⟩) hHeld ?rest16
        case hy16 => (intro w hSw; (try dsimp only at hSw); (try simp only [List.getElem_toArray, List.getElem_cons_zero, List.getElem_cons_succ]); go_simp; try with_reducible rfl)
        try simp only [List.getElem_toArray, List.getElem_cons_zero, List.getElem_cons_succ, Act.put, List.setIfInBounds_toArray, List.set_cons_zero, List.set_cons_succ]
        refine wpAnyH_take (i := 17) (v := ?v17) rfl (by kernel_rfl) (by kernel_rfl) (by kernel_rfl) (fun _ _ _ h => h) (Or.inl ⟨by rfl, ?hy17⟩) hHeld ?rest17
        case hy17 => (intro w hSw; (try dsimp only at hSw); (try simp only [List.getElem_toArray, List.getElem_cons_zero, List.getElem_cons_succ]); go_simp; try with_reducible rfl)
        try simp only [List.getElem_toArray, List.getElem_cons_zero, List.getElem_cons_succ, Act.put, List.setIfInBounds_toArray, List.set_cons_zero, List.set_cons_succ]
        refine wpAnyH_take (i := 18) (v := ?v18) rfl (by kernel_rfl) (by kernel_rfl) (by kernel_rfl) (fun _ _ _ h => h) (Or.inl ⟨by rfl, ?hy18⟩) hHeld ?rest18
        case hy18 => (intro w hSw; (try dsimp only at hSw); (try simp only [List.getElem_toArray, List.getElem_cons_zero, List.getElem_cons_succ]); go_simp; try with_reducible rfl)
        try simp only [List.getElem_toArray, List.getElem_cons_zero, List.getElem_cons_succ, Act.put, List.setIfInBounds_toArray, List.set_cons_zero, List.set_cons_succ]
        refine wpAnyH_take (i := 19) (v := ?v19) rfl (by kernel_rfl) (by kernel_rfl) (by kernel_rfl) (fun _ _ _ h => h) (Or.inl ⟨by rfl, ?hy19⟩) hHeld ?rest19
        case hy19 => (intro w hSw; (try dsimp only at hSw); (try simp only [List.getElem_toArray, List.getElem_cons_zero, List.getElem_cons_succ]); go_simp; try with_reducible rfl)
        try simp only [List.getElem_toArray, List.getElem_cons_zero, List.getElem_cons_succ, Act.put, List.setIfInBounds_toArray, List.set_cons_zero, List.set_cons_succ]
        refine wpAnyH_take (i := 20) (v := ?v20) rfl (by kernel_rfl) (by kernel_rfl) (by kernel_rfl) (fun _ _ _ h => h) (Or.inl ⟨by rfl, ?hy20⟩) hHeld ?rest20
        case hy20 => (intro w hSw; (try dsimp only at hSw); (try simp only [List.getElem_toArray, List.getElem_cons_zero, List.getElem_cons_succ]); go_simp; try with_reducible rfl)
        try simp only [List.getElem_toArray, List.getElem_cons_zero, List.getElem_cons_succ, Act.put, List.setIfInBounds_toArray, List.set_cons_zero, List.set_cons_succ]
        refine wpAnyH_take (i := 21) (v := ?v21) rfl (by kernel_rfl) (by kernel_rfl) (by kernel_rfl) (fun _ _ _ h => h) (Or.inl ⟨by rfl, ?hy21⟩) hHeld ?rest21
        case hy21 => (intro w hSw; (try dsimp only at hSw); (try simp only [List.getElem_toArray, List.getElem_cons_zero, List.getElem_cons_succ]); go_simp; try with_reducible rfl)
        try simp only [List.getElem_toArray, List.getElem_cons_zero, List.getElem_cons_succ, Act.put, List.setIfInBounds_toArray, List.set_cons_zero, List.set_cons_succ]
        refine wpAnyH_take (i := 22) (v := ?v22) rfl (by kernel_rfl) (by kernel_rfl) (by kernel_rfl) (fun _ _ _ h => h) (Or.inl ⟨by rfl, ?hy22⟩) hHeld ?rest22
        case hy22 => (intro w hSw; (try dsimp only at hSw); (try simp only [List.getElem_toArray, List.getElem_cons_zero, List.getElem_cons_succ]); go_simp; try with_reducible rfl)
        try simp only [List.getElem_toArray, List.getElem_cons_zero, List.getElem_cons_succ, Act.put, List.setIfInBounds_toArray, List.set_cons_zero, List.set_cons_succ]
        refine wpAnyH_take (i := 23) (v := ?v23) rfl (by kernel_rfl) (by kernel_rfl) (by kernel_rfl) (fun _ _ _ h => h) (Or.inl ⟨by rfl, ?hy23⟩) hHeld ?rest23
        case hy23 => (intro w hSw; (try dsimp only at hSw); (try simp only [List.getElem_toArray, List.getElem_cons_zero, List.getElem_cons_succ]); go_simp; try with_reducible rfl)
        try simp only [List.getElem_toArray, List.getElem_cons_zero, List.getElem_cons_succ, Act.put, List.setIfInBounds_toArray, List.set_cons_zero, List.set_cons_succ]
        refine wpAnyH_ready (rs := [24]) (by kernel_rfl) (by simp) ?_
        refine AllReadyH.cons rfl (fun K hK => ?_) AllReadyH.nil
        (try simp only [List.getElem_toArray, List.getElem_cons_zero, List.getElem_cons_succ])
        go_simp
        (with_reducible refine (TC.out _ U10.out).mono ?_)
        rintro e w11 ⟨rfl, f11⟩
        have F11 := Lib.hid (U10.out.trans f11)
        clear f11
        (try simp only [Act.put, List.setIfInBounds_toArray, List.set_cons_zero, List.set_cons_succ])
        refine hK.out _ _ (CE.out _ F11.out) (fun hHeld => ?_)
        clear hK K
        refine wpAnyH_take (i := 25) (v := ?v25) rfl (by kernel_rfl) (by kernel_rfl) (by kernel_rfl) (fun _ _ _ h => h) (Or.inl ⟨by rfl, ?hy25⟩) hHeld ?rest25
        case hy25 => (intro w hSw; (try dsimp only at hSw); (try simp only [List.getElem_toArray, List.getElem_cons_zero, List.getElem_cons_succ]); go_simp; try with_reducible rfl)
        try simp only [List.getElem_toArray, List.getElem_cons_zero, List.getElem_cons_succ, Act.put, List.setIfInBounds_toArray, List.set_cons_zero, List.set_cons_succ]
        refine wpAnyH_take (i := 26) (v := ?v26) rfl (by kernel_rfl) (by kernel_rfl) (by kernel_rfl) (fun _ _ _ h => h) (Or.inl ⟨by rfl, ?hy26⟩) hHeld ?rest26
        case hy26 => (intro w hSw; (try dsimp only at hSw); (try simp only [List.getElem_toArray, List.getElem_cons_zero, List.getElem_cons_succ]); go_simp; try with_reducible rfl)
        try simp only [List.getElem_toArray, List.getElem_cons_zero, List.getElem_cons_succ, Act.put, List.setIfInBounds_toArray, List.set_cons_zero, List.set_cons_succ]
        refine wpAnyH_take (i := 27) (v := ?v27) rfl (by kernel_rfl) (by kernel_rfl) (by kernel_rfl) (fun _ _ _ h => h) (Or.inl ⟨by rfl, ?hy27⟩) hHeld ?rest27
        case hy27 => (intro w hSw; (try dsimp only at hSw); (try simp only [List.getElem_toArray, List.getElem_cons_zero, List.getElem_cons_succ]); go_simp; try with_reducible rfl)
        try simp only [List.getElem_toArray, List.getElem_cons_zero, List.getElem_cons_succ, Act.put, List.setIfInBounds_toArray, List.set_cons_zero, List.set_cons_succ]
        refine wpAnyH_done (by kernel_rfl) ?_ _
        go_wp2
        go_ret
        exact ⟨by simp, FX.out _ F11.out⟩
      · go_upto_region 13 with fail
        go_region_held3 (fun W => (W.cell? ⟨gt, 0, none⟩ = some (.int .u64 (rtm : Nat)) ∧ W.cell? ⟨gt, 1, none⟩ = some (.int .i64 rvo) ∧ W.cell? ⟨gt, 2, none⟩ = some (.int .u64 (rba : Nat)) ∧ W.cell? ⟨gt, 3, none⟩ = some (.int .u64 (rbt : Nat)) ∧ W.cell? ⟨gt, 4, none⟩ = some (.slice ya yl yc)) ∧ W.cell? ⟨go, 0, none⟩ = some (.int .u64 (otm : Nat)) ∧ W.cell? ⟨go, 1, none⟩ = some (.int .i64 ovo) ∧ W.cell? ⟨go, 2, none⟩ = some (.int .u64 (rba : Nat)) ∧ W.cell? ⟨go, 3, none⟩ = some (.int .u64 (rbt : Nat)) ∧ W.cell? ⟨go, 4, none⟩ = some (.slice va vl vc))
          (first | exact CE.out _ U10.out | exact CE.out _ F11.out)
          (first
            | (go_at_call 38; go_must ((with_reducible refine (TC.out _ U10.out).mono ?_); rintro e w11 ⟨rfl, f11⟩; have F11 := Lib.hid (U10.out.trans f11); clear f11)))
        all_goals
          go_wp2
          go_ret
          exact ⟨by simp, FX.out _ F11.out⟩
/-- KeepRefused. -/
theorem refused14_walk (W : World) (a0 : Option Addr) (len0 cap0 : Nat) (cs1 : Array Value) (a2 : Option Addr) (len2 cap2 : Nat) (r0 : Rd Tryd.prog W 63 [.slice a0 len0 cap0]) (r1 : Rd Tryd.prog W 68 cs1.toList) (r2 : Rd Tryd.prog W 24 [.slice a2 len2 cap2]) (ht : TabOK W) :
    Calls Tryd.prog 9 #[.slice a0 len0 cap0, .agg cs1, .slice a2 len2 cap2] W fun e w' => e = .returned (.bool true) ∧ Below W.heap.size W w' := by
  obtain ⟨l, hl, hlen⟩ := opsk_of r0
  obtain ⟨s, xs, sa, sc, he, hs⟩ := sta_cells r1
  obtain ⟨zs, hz, _⟩ := r2.is
  rw [he]
  have K : Calls Tryd.prog 9 #[.slice a0 len0 cap0, vS s (.slice sa xs.length sc), .slice a2 len2 cap2] W fun e w' => e = .returned (.bool true) ∧ Fr (fun _ _ => True) W w' := by
    cases hsh : shortK l 12 with
    | false => exact refused_bad W a0 len0 cap0 l hl hlen _ _ _ _ _ _ ht hsh
    | true => exact refused_good W a0 len0 cap0 l hl hlen s xs sa sc hs a2 len2 cap2 zs hz ht hsh
  exact K.mono fun e w' hh => ⟨hh.1, hh.2.bel⟩
end Go.Proofs.YtcpbmempfeloaaaDoor
/- Law 14: a fuse, a save, a crash, an opening: what is found; walked. -/
namespace Go.Proofs.YtcpbmempfeloaaaDoor
open Go.RowKit
set_option linter.unusedVariables false
set_option linter.unusedSimpArgs false

theorem addE_skip (b : Nat) : ∀ (rs1 rs2 : List (Nat × En)), (∀ r ∈ rs1, r.1 ≤ b) → addE b [] (rs1 ++ rs2) = addE b [] rs2
  | [], rs2, _ => rfl
  | r :: rs1, rs2, h => by
    show (if b < r.1 then _ else addE b [] (rs1 ++ rs2)) = _
    rw [if_neg (by have := h r (by simp); omega)]
    exact addE_skip b rs1 rs2 fun x hx => h x (by simp [hx])
theorem addE_own (b : Nat) (l : List En) : addE b [] (recs b l) = l := by
  have := addE_recs b l []
  rw [List.length_nil, Nat.add_zero, List.nil_append] at this
  exact this
theorem addE_behind {s0 s : Sta} (hb : s0.base ≤ s.base) : addE s.base [] (recs s0.base s0.es) = behindS s0 s := by
  unfold behindS
  by_cases h : s.base - s0.base ≤ s0.es.length
  · have e := (List.take_append_drop (s.base - s0.base) (recs s0.base s0.es)).symm
    rw [recs_drop _ _ _ h, show s0.base + (s.base - s0.base) = s.base from by omega, recs_take] at e
    rw [e, addE_skip]
    · exact addE_own _ _
    · intro r hr
      obtain ⟨_, _, h3⟩ := recs_mem _ _ _ hr
      rw [List.length_take] at h3
      omega
  · rw [List.drop_of_length_le (by omega)]
    have := addE_skip s.base (recs s0.base s0.es) [] fun r hr => by obtain ⟨_, _, h3⟩ := recs_mem _ _ _ hr; omega
    rw [List.append_nil] at this
    rw [this]
    rfl
/-- What is opened behind a crash amid a save. -/
def AmidT (s0 s t : Sta) (c : Int) : Prop :=
  (c ≠ 0 ∧ t = raise s0) ∨ (c ≠ 1 ∧ s0.base ≤ s.base ∧ s.right = true ∧ ∃ es', t = raise { s with es := es' } ∧ ((c ≠ 0 ∧ ∃ m, comm (behindS s0 s) s.es ≤ m ∧ es' = (behindS s0 s).take m) ∨ ∃ m, comm (behindS s0 s) s.es ≤ m ∧ es' = s.es.take m ∧ (c = 0 → s.es.length ≤ m)))
theorem AmidH.opened {s0 s sl : Sta} {held : List (Nat × En)} {c : Int} (h : AmidH s0 s sl held c) (hb : s0.base ≤ s.base) (h1 : c ≠ 1) (hr : s.right = true) : AmidT s0 s (openS { sl with es := [] } held) c := by
  have hc1 := h1
  rcases h with ⟨h1, h2, rfl | rfl⟩ | ⟨rfl, ⟨h1, m, h2, h3⟩ | ⟨m, h2, h3, h4⟩⟩
  · refine .inl ⟨h1, ?_⟩
    rw [h2, openS_es, openS_recs]
  · refine .inr ⟨hc1, hb, hr, behindS s0 sl, ?_, .inl ⟨h1, (behindS s0 sl).length, (comm_le _ _).1, by rw [List.take_length]⟩⟩
    unfold openS
    rw [h2]
    show raise { sl with es := addE sl.base [] (recs s0.base s0.es) } = _
    rw [addE_behind hb]
  · refine .inr ⟨hc1, hb, hr, _, ?_, .inl ⟨h1, m, h2, rfl⟩⟩
    unfold openS
    rw [h3]
    show raise { sl with es := addE sl.base [] (recs sl.base _) } = _
    rw [addE_own]
  · refine .inr ⟨hc1, hb, hr, _, ?_, .inr ⟨m, h2, rfl, h4⟩⟩
    unfold openS
    rw [h3]
    show raise { sl with es := addE sl.base [] (recs sl.base _) } = _
    rw [addE_own]
/-- The records that are found are such as may be. -/
theorem AmidH.ok {s0 s sl : Sta} {held : List (Nat × En)} {c : Int} {m : Nat} (h : AmidH s0 s sl held c) (r0 : s0.right = true) (w0 : s0.wf) (l0 : s0.es.length ≤ m) (r1 : s.right = true) (w1 : s.wf) (l1 : s.es.length ≤ m) (hm : m ≤ 15) : (sl = s0 ∨ sl = s) ∧ (∀ r ∈ held, r.1 < 18446744073709551616 ∧ r.2.t < 18446744073709551616 ∧ badE r.2 = false) ∧ held.length ≤ m := by
  have ok : ∀ (b : Nat) (l : List En), b < 1152921504606846976 → l.length ≤ m → (∀ x ∈ l, x.t < 18446744073709551616 ∧ badE x = false) → (∀ r ∈ recs b l, r.1 < 18446744073709551616 ∧ r.2.t < 18446744073709551616 ∧ badE r.2 = false) ∧ (recs b l).length ≤ m := fun b l hb hl hx => by
    refine ⟨fun r hr => ?_, by rw [recs_len]; exact hl⟩
    obtain ⟨h1, h2, h3⟩ := recs_mem _ _ _ hr
    exact ⟨by omega, hx _ h1⟩
  obtain ⟨b0, p0, _⟩ := Sta.right_bad r0
  obtain ⟨b1, p1, _⟩ := Sta.right_bad r1
  have m0 : ∀ x ∈ s0.es, x.t < 18446744073709551616 ∧ badE x = false := fun x hx => ⟨w0.2.2.2 x hx, b0 x hx⟩
  have m1 : ∀ x ∈ s.es, x.t < 18446744073709551616 ∧ badE x = false := fun x hx => ⟨w1.2.2.2 x hx, b1 x hx⟩
  rcases h with ⟨_, h2, h3⟩ | ⟨h3, ⟨_, k, _, h2⟩ | ⟨k, _, h2, _⟩⟩
  · rw [h2]
    exact ⟨h3, ok _ _ p0 l0 m0⟩
  · rw [h2]
    refine ⟨.inr h3, ok _ _ p1 ?_ fun x hx => m0 x (List.mem_of_mem_drop (List.mem_of_mem_take hx))⟩
    unfold behindS
    rw [List.length_take, List.length_drop]
    omega
  · rw [h2]
    refine ⟨.inr h3, ok _ _ p1 ?_ fun x hx => m1 x (List.mem_of_mem_take hx)⟩
    rw [List.length_take]
    omega
/-- What is found: as it was, if it is refused; else as above. -/
def AmidQ (m : Nat) (s0 s sl : Sta) (held : List (Nat × En)) (c : Int) : Prop := (c ≠ 0 ∧ sl = s0 ∧ held = recs s0.base s0.es) ∨ (c ≠ 1 ∧ s0.base ≤ s.base ∧ s.right = true ∧ s.wf ∧ s.es.length ≤ m ∧ AmidH s0 s sl held c)
theorem AmidQ.opened {m : Nat} {s0 s sl : Sta} {held : List (Nat × En)} {c : Int} (h : AmidQ m s0 s sl held c) : AmidT s0 s (openS { sl with es := [] } held) c := by
  rcases h with ⟨h1, h2, h3⟩ | ⟨h1, h2, h3, _, _, h4⟩
  · refine .inl ⟨h1, ?_⟩
    rw [h2, h3, openS_es, openS_recs]
  · exact h4.opened h2 h1 h3
theorem AmidQ.ok {s0 s sl : Sta} {held : List (Nat × En)} {c : Int} {m : Nat} (h : AmidQ m s0 s sl held c) (r0 : s0.right = true) (w0 : s0.wf) (l0 : s0.es.length ≤ m) (hm : m ≤ 15) : (sl.right = true ∧ sl.wf) ∧ (∀ r ∈ held, r.1 < 18446744073709551616 ∧ r.2.t < 18446744073709551616 ∧ badE r.2 = false) ∧ held.length ≤ m := by
  rcases h with ⟨h1, h2, h3⟩ | ⟨h1, h2, h3, h4, h5, h6⟩
  · obtain ⟨_, k2, k3⟩ := AmidH.ok (s0 := s0) (s := s0) (sl := sl) (c := c) (.inl ⟨h1, h3, .inl h2⟩ : AmidH s0 s0 sl held c) r0 w0 l0 r0 w0 l0 hm
    exact ⟨h2 ▸ ⟨r0, w0⟩, k2, k3⟩
  · obtain ⟨k1, k2, k3⟩ := h6.ok r0 w0 l0 h3 h4 h5 hm
    refine ⟨?_, k2, k3⟩
    rcases k1 with rfl | rfl
    · exact ⟨r0, w0⟩
    · exact ⟨h3, h4⟩
theorem st_fuseK {n : Nat} {P : Nat → Prop} {w : World} {bj bd : Nat} {J : Jn} {D : Dk} (h : St n P w bj bd J D) (fu : Int) (h0 : -9223372036854775808 ≤ fu) (h1 : fu ≤ 9223372036854775807) :
    Calls Tryd.prog 20 #[.pointer (some ⟨bd, 0, none⟩), .int .i64 fu] w fun e w' => e = .returned (.tuple #[]) ∧ St n P w' bj bd J { D with fuse := fu } ∧ Kp P P w w' := by
  obtain ⟨F, G, d1, j1, hF, hG, hGF⟩ := h.jd
  exact (fuse_calls w bd F D fu d1 h0 h1).mono fun e w' ⟨he, d2, f2⟩ => by
    have hs := f2.size
    exact ⟨he, ⟨⟨F, G, d2, j1.fr f2 fun c o _ hg q => hGF c hg (q ▸ d1.fbJ), fun c hc => ⟨(hF c hc).1, by have := (hF c hc).2; omega⟩, fun c hc => ⟨(hG c hc).1, by have := (hG c hc).2; omega⟩, hGF⟩, h.lo, fun c hc => by have := h.hi c hc; omega⟩,
      ⟨f2.mono fun c _ hc q => hc (q ▸ (hF bd d1.fbJ).1), fun _ _ h => h⟩⟩
/-- A keeper of a disk whose fuse is set. -/
def KF (n m q : Nat) (X : Nat → Prop) (w : World) (bk bd : Nat) (s0 : Sta) (f : Int) : Prop := ∃ P bj K J D a4 c4 hv rs q', KM n X P w bk bj bd (m : Nat) K J { D with fuse := f } a4 c4 hv rs ∧ KI m q' K J D s0 ∧ q' ≤ q
/-- A disk behind a save amid which it may have gone down. -/
def KX (n m : Nat) (X : Nat → Prop) (w : World) (bd : Nat) (s0 s : Sta) (c : Int) : Prop := (∃ D1, SD n X w bd D1 ∧ ∀ zs, ∃ sl held, FoundK m zs D1 sl held ∧ AmidQ m s0 s sl held c) ∧ s0.right = true ∧ s0.wf ∧ s0.es.length ≤ m ∧ m ≤ 15
/-- A disk behind a crash: what is found of it. -/
def KY (n m : Nat) (X : Nat → Prop) (w : World) (bd : Nat) (s0 s : Sta) (c : Int) : Prop := (∃ D1 zs sl held, SD n X w bd (D1.crash zs) ∧ FoundK m zs D1 sl held ∧ AmidQ m s0 s sl held c) ∧ s0.right = true ∧ s0.wf ∧ s0.es.length ≤ m ∧ m ≤ 15
section
variable {n m q : Nat} {X P : Nat → Prop} {w w' : World} {bk bd : Nat} {s0 s : Sta}
theorem KF.lo {f : Int} (h : KF n m q X w bk bd s0 f) : ∀ c, X c → n ≤ c := by
  obtain ⟨P, bj, K, J, D, a4, c4, hv, rs, q', h1, h2⟩ := h
  exact h1.lo
theorem KX.lo {c : Int} (h : KX n m X w bd s0 s c) : ∀ c, X c → n ≤ c := by
  obtain ⟨⟨D1, h1, _⟩, _⟩ := h
  exact h1.lo
theorem KY.lo {c : Int} (h : KY n m X w bd s0 s c) : ∀ c, X c → n ≤ c := by
  obtain ⟨⟨D1, zs, sl, held, h1, _⟩, _⟩ := h
  exact h1.lo
theorem ko_fuse (h : KO n m q X w bk bd s0) (hn : n ≤ w.heap.size) (f : Int) (h0 : -9223372036854775808 ≤ f) (h1 : f ≤ 9223372036854775807) :
    Calls Tryd.prog 20 #[.pointer (some ⟨bd, 0, none⟩), .int .i64 f] w fun e w' => e = .returned (.tuple #[]) ∧ ∃ X', KF n m q X' w' bk bd s0 f ∧ Kp X X' w w' := by
  obtain ⟨P, bj, K, J, D, a4, c4, hv, rs, q', k1, k2, k3⟩ := h
  refine (st_fuseK k1.st f h0 h1).mono fun e w' ⟨he, s1, s2⟩ => ⟨he, ?_⟩
  obtain ⟨X', g1, g2⟩ := k1.jd hn s1 s2
  exact ⟨X', ⟨P, bj, K, J, D, a4, c4, hv, rs, q', g1, k2, k3⟩, g2⟩
/-- Save. -/
theorem kf_save {f : Int} (h : KF n m q X w bk bd s0 f) (h0 : 0 < n) (hn : n ≤ w.heap.size) (v : Value) (xs : List EV) (hs : SA n X w s v xs) (hw : s.wf) (ht : TabOK w) (hl : s.es.length ≤ m) (hq : q + m + 8 < 250) (f0 : -9223372036854775808 ≤ f) (f1 : f ≤ 9223372036854775807) :
    Calls Tryd.prog 35 #[.pointer (some ⟨bk, 0, none⟩), vS s v] w fun e w' => ∃ c X', e = .returned (.int .i64 c) ∧ Kp X X' w w' ∧ KX n m X' w' bd s0 s c ∧ (c = 1 ∨ (s0.base ≤ s.base ∧ s.right = true)) := by
  obtain ⟨P, bj, K, J, D, a4, c4, hv, rs, q', k1, k2, k3⟩ := h
  have hm := k2.kb.ji.n17
  have hp : D.pend = [] := k2.kb.ji.pend
  have hrl : rs.length = K.held.length := by rw [← k1.rc, List.length_map]
  have hr3 := k2.recs_ok.2.2
  have hel := hs.len
  refine (ksave_calls k1 h0 hn s v xs hs hw ht (by show D.pend.length < _; rw [hp]; show (0 : Nat) < _; decide) (by omega) (by omega) (by omega)).mono fun e w' hh => ?_
  obtain ⟨he, X', P', a4', c4', hv', rs', g1, g2⟩ := hh
  have hsd : ∀ {K' : Ke} {J' : Jn} {D' : Dk}, KM n X' P' w' bk bj bd (m : Nat) K' J' D' a4' c4' hv' rs' → SD n X' w' bd D' := fun g => ⟨g.st.sd.dd.mono fun c _ hc => g.px c hc, g.lo, g.hi⟩
  have hgood : s0.right = true ∧ s0.wf ∧ s0.es.length ≤ m ∧ m ≤ 15 := ⟨k2.rt, k2.wf, k2.ln, by omega⟩
  by_cases href : s.right = false ∨ s.base < K.base
  · have e1 := save_no (K := K) (J := J) (D := { D with fuse := f }) (n := m) (s := s) (by rcases href with h | h; exact .inl h; exact .inr (.inl h))
    rw [if_pos href] at e1
    rw [e1] at he g1
    refine ⟨1, X', he, g2, ⟨⟨_, hsd g1, fun zs => ?_⟩, hgood⟩, .inl rfl⟩
    obtain ⟨D', o1, o2, o3⟩ := k2.opens (by omega) zs
    refine ⟨s0, K.held, ⟨by show D.pend.length ≤ 100; rw [hp]; decide, { J with epoch := J.epoch + 1 }, D', ?_, k2.recs_ok.1, o3⟩, .inl ⟨by decide, rfl, k2.cl⟩⟩
    rw [crash_sp (D := { D with fuse := f }) (E := D) rfl rfl]
    exact o1
  · have hr : s.right = true := by
      cases hh : s.right with
      | true => rfl
      | false => exact absurd (.inl hh) href
    have hb : s0.base ≤ s.base := by
      have := k2.kb.base
      omega
    obtain ⟨c, K1, J1, D1, _, _, e1, e2, _⟩ := k2.amid hr hw hb hl (by omega) f f0 f1 []
    rw [e1] at he g1
    refine ⟨c, X', he, g2, ⟨⟨D1, hsd g1, fun zs => ?_⟩, hgood⟩, .inr ⟨hb, hr⟩⟩
    obtain ⟨c', K', J', D', sl, held, e1', _, e3, e4⟩ := k2.amid hr hw hb hl (by omega) f f0 f1 zs
    rw [e1] at e1'
    obtain ⟨rfl, rfl, rfl, rfl⟩ : c = c' ∧ K1 = K' ∧ J1 = J' ∧ D1 = D' := by simpa using e1'
    exact ⟨sl, held, e3, .inr ⟨e2, hb, hr, hw, hl, e4⟩⟩
/-- A crash. -/
theorem kx_crash {K' : Nat → Obj → Prop} {c : Int} (h : KX n m X w bd s0 s c) (hn : n ≤ w.heap.size) (pa : Option Addr) (pn pc : Nat) (zs : List Int) (hp : IntsAt K' w (.slice pa pn pc) zs) (hK : ∀ c o, K' c o → ¬ X c) :
    Calls Tryd.prog 16 #[.pointer (some ⟨bd, 0, none⟩), .slice pa pn pc] w fun e w' => e = .returned (.tuple #[]) ∧ ∃ X', KY n m X' w' bd s0 s c ∧ Kp X X' w w' := by
  obtain ⟨⟨D1, h1, h2⟩, h3⟩ := h
  refine (sd_crash h1 hn pa pn pc zs hp hK).mono fun e w' hh => ?_
  obtain ⟨he, P', g1, g2⟩ := hh
  obtain ⟨sl, held, k1, k2⟩ := h2 zs
  exact ⟨he, P', ⟨⟨D1, zs, sl, held, g1, k1, k2⟩, h3⟩, g2⟩
/-- Opened again. -/
theorem ky_open {c : Int} (h : KY n m X w bd s0 s c) (h0 : 0 < n) (hn : n ≤ w.heap.size) (ht : TabOK w) :
    Calls Tryd.prog 36 #[.pointer (some ⟨bd, 0, none⟩), .int .i64 1, .int .i64 (m : Nat)] w fun e w' => ∃ bk X' t xs a c', e = .returned (.tuple #[.pointer (some ⟨bk, 0, none⟩), vS t (.slice a xs.length c'), .int .i64 0]) ∧ AmidT s0 s t c ∧ SA n X' w' t (.slice a xs.length c') xs ∧ Kp X X' w w' ∧ (∀ c, X' c → n ≤ c) := by
  obtain ⟨⟨D1, zs, sl, held, h1, ⟨p1, J2, D2, p2, p3, p4⟩, h3⟩, r0, w0, l0, hm⟩ := h
  obtain ⟨⟨k1, k2⟩, k3, k4⟩ := h3.ok r0 w0 l0 hm
  obtain ⟨b1, b2, b3, b4⟩ := Sta.right_bad k1
  have hop := h3.opened
  have k := kopen_calls h1 h0 hn ht (by show (0 : Nat) < 1000000; decide) (m : Nat) J2 D2 p2 { sl with es := [] } held ⟨k2.1, k2.2.1, k2.2.2.1, fun x hx => (by cases hx)⟩ ⟨b3, by show sl.vote < 255; omega⟩ (by
    rcases p4 with p4 | ⟨e3, e4, e5, e6, e7⟩
    · exact .inl p4
    · exact .inr ⟨⟨_, _, e3⟩, e4, e5, e6, e7⟩) p3 k3 (by omega) (by show sl.base + held.length + 1 < _; omega)
  refine k.mono fun e w' hh => ?_
  obtain ⟨bk, bj, X', P', a4, c4, hv, rs, xs, a, c', g1, g2, g3, g4⟩ := hh
  exact ⟨bk, X', _, xs, a, c', g1, hop, g3, g4, g2.lo⟩
end
end Go.Proofs.YtcpbmempfeloaaaDoor
