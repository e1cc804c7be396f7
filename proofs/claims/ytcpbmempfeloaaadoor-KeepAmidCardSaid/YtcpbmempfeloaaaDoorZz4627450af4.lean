/- Texts of the proofs, part 37: what the functions that they reach do, walked; no conditions beyond those that each states. -/
import Derived.Test.YtcpbmempfeloaaaDoorZz1d4b0e2920
set_option linter.unusedVariables false
set_option linter.unusedSimpArgs false
/- Law 14: KeepBack, walked. -/
namespace Go.Proofs.YtcpbmempfeloaaaDoor
open Go.RowKit
set_option linter.unusedVariables false
set_option linter.unusedSimpArgs false

set_option maxRecDepth 100000 in
set_option maxHeartbeats 4000000 in
/-- A state that is too long. -/
theorem back_long (W : World) (a0 : Option Addr) (len0 cap0 : Nat) (l : List OpK) (h : OpsK W.heap.size W (.slice a0 len0 cap0) l) (hl : l.length = len0) (s : Sta) (xs : List EV) (sa : Option Addr) (sc : Nat) (hs : SI W.heap.size W s (.slice sa xs.length sc) xs) (pa : Option Addr) (pl pc : Nat) (zs : List Int) (hz : IntsAt (fun c _ => c < W.heap.size) W (.slice pa pl pc) zs) (ht : TabOK W) (hsh : shortK l 12 = true) (hbig : 12 < xs.length) :
    Calls Tryd.prog 8 #[.slice a0 len0 cap0, vS s (.slice sa xs.length sc), .slice pa pl pc] W fun e w' => e = .returned (.bool true) ∧ Fr (fun _ _ => True) W w' := by
  obtain ⟨W0, hW0⟩ : ∃ V, W.alloc (.cells #[.int .u64 (s.term : Nat), .int .i64 s.vote, .int .u64 (s.base : Nat), .int .u64 (s.bt : Nat), .slice sa xs.length sc] 68 (0, 0)) = V := ⟨_, rfl⟩
  have F0 : Hid (Fr (fun _ _ => True) W W0) := hW0 ▸ (Fr.refl _ _).alloc _
  have B0 : W0.heap[W.heap.size]? = some (.cells #[.int .u64 (s.term : Nat), .int .i64 s.vote, .int .u64 (s.base : Nat), .int .u64 (s.bt : Nat), .slice sa xs.length sc] 68 (0, 0)) := hW0 ▸ heap_alloc_new W _
  have BX0 := Lib.hid B0
  have AW := Lib.hid (awake14 W0 (ht.tt F0.out))
  have TT0 := Lib.hid (fun (w : World) (f : Fr (fun _ _ => True) W w) => ht.tt f)
  have H0 : Hid (0 < W.heap.size) := by have := cell_lt (ht 0 (by decide)); exact (by simpa using this : 0 < W.heap.size)
  have HO := Lib.hid h
  have HS := Lib.hid hs
  have HZ := Lib.hid hz
  have HL := Lib.hid hl
  have HSH := Lib.hid hsh
  have HW0 := Lib.hid hW0
  clear hW0 B0 h hs hz hl hsh ht
  obtain ⟨tm, vo, ba, bt, es⟩ := s
  dsimp only at BX0 HW0
  unfold vS
  dsimp only
  obtain ⟨xl, hxl⟩ : ∃ x, xs.length = x := ⟨_, rfl⟩
  rw [hxl] at BX0 HW0 HS hbig ⊢
  have HXL := Lib.hid hxl
  obtain ⟨gb, hgb⟩ : ∃ g, W.heap.size = g := ⟨_, rfl⟩
  have HGB := Lib.hid hgb
  clear hxl
  go_enter Tryd.func8, Tryd.ntmps8
  go_wp2_with fail
  rw [HW0.out]
  try rw [hgb]
  rw [hgb] at BX0
  clear hgb
  (with_reducible refine AW.out.mono ?_)
  rintro e w1 ⟨rfl, f1⟩
  have F1 := Lib.hid (F0.out.trans f1)
  have BX1 : Hid (w1.heap[gb]? = some (.cells #[.int .u64 (tm : Nat), .int .i64 vo, .int .u64 (ba : Nat), .int .u64 (bt : Nat), .slice sa xl sc] 68 (0, 0))) := f1.keep _ _ BX0.out trivial
  obtain ⟨n, hn⟩ : ∃ n, w1.heap.size = n := ⟨_, rfl⟩
  have HN := Lib.hid hn
  have NG : Hid (gb < n ∧ W.heap.size ≤ n) := ⟨hn ▸ lt_of_some BX1.out, hn ▸ F1.out.size⟩
  have N0 : Hid (0 < n) := by have := NG.out; exact (by omega : 0 < n)
  have O1 : Hid (OpsK n w1 (.slice a0 len0 cap0) l) := (HO.out.fr (F1.out.mono fun _ _ _ => trivial)).mono NG.out.2
  have S1 : Hid (∀ w, Fr (fun c _ => c < n) w1 w → SI n w ⟨tm, vo, ba, bt, es⟩ (.slice sa xl sc) xs) := fun w f => ((HS.out.fr (F1.out.mono fun _ _ _ => trivial)).mono NG.out.2).fr f
  have Z1 : Hid (∀ w, Fr (fun c _ => c < n) w1 w → IntsAt (fun c _ => c < n) w (.slice pa pl pc) zs) := fun w f => (((HZ.out.fr (F1.out.mono fun _ _ _ => trivial) fun _ _ h => h)).mono fun c _ h => Nat.lt_of_lt_of_le h NG.out.2).fr f fun _ _ h => h
  have TT : Hid (∀ w, Fr (fun c _ => c < n) w1 w → TabOK w) := kn_ctx (TT0.out w1 F1.out) N0.out
  have BX : Hid (∀ w, Fr (fun c _ => c < n) w1 w → w.cell? ⟨gb, 0, none⟩ = some (.int .u64 (tm : Nat)) ∧ w.cell? ⟨gb, 1, none⟩ = some (.int .i64 vo) ∧ w.cell? ⟨gb, 2, none⟩ = some (.int .u64 (ba : Nat)) ∧ w.cell? ⟨gb, 3, none⟩ = some (.int .u64 (bt : Nat)) ∧ w.cell? ⟨gb, 4, none⟩ = some (.slice sa xl sc)) := fun w f => by
    have t := f.keep _ _ BX1.out NG.out.1
    exact ⟨cell_mk t rfl, cell_mk t rfl, cell_mk t rfl, cell_mk t rfl, cell_mk t rfl⟩
  have WR : Hid (∀ w, Fr (fun c _ => c < n) w1 w → Fr (fun _ _ => True) W w) := fun w f => F1.out.trans (Fr.within (by rw [HN.out]; exact f.mono fun c _ h => h.2))
  have MC : Hid (Calls Tryd.prog 34 #[.slice a0 len0 cap0] w1 fun e w' => (∃ bd bk X s0 sv sx sa sc, e = .returned (.tuple #[.pointer (some ⟨bd, 0, none⟩), .pointer (some ⟨bk, 0, none⟩), vS sv (.slice sa sx.length sc)]) ∧ KO n 12 181 X w' bk bd s0 ∧ SA n X w' sv (.slice sa sx.length sc) sx ∧ Took s0 sv) ∧ Fr (fun c _ => c < n) w1 w') := made14_good w1 a0 len0 cap0 l O1.out HL.out HSH.out N0.out (Nat.le_of_eq HN.out.symm) (TT.out _ (Fr.refl _ _))
  clear f1 hn AW BX0 BX1 HW0 F0 TT0 F1 O1
  go_wp2_with fail
  (with_reducible refine MC.out.mono ?_)
  rintro e w2 ⟨⟨bd, bk, X2, s0, sv, sx, va, vc, rfl, ko2, sa2, tk2⟩, f2⟩
  have F2 := Lib.hid f2
  have N2 : Hid (n ≤ w2.heap.size) := by have := f2.size; rw [HN.out] at this; exact this
  obtain ⟨vl, hvl⟩ : ∃ x, sx.length = x := ⟨_, rfl⟩
  have HVL := Lib.hid hvl
  rw [hvl] at sa2
  obtain ⟨V3, hV3⟩ : ∃ V, w2.alloc (.cells #[.int .u64 (sv.term : Nat), .int .i64 sv.vote, .int .u64 (sv.base : Nat), .int .u64 (sv.bt : Nat), .slice va vl vc] 68 (0, 0)) = V := ⟨_, rfl⟩
  have e3 : Fr (fun _ _ => True) w2 V3 := hV3 ▸ (Fr.refl _ _).alloc _
  have BO : Hid (V3.heap[w2.heap.size]? = some (.cells #[.int .u64 (sv.term : Nat), .int .i64 sv.vote, .int .u64 (sv.base : Nat), .int .u64 (sv.bt : Nat), .slice va vl vc] 68 (0, 0)) ∧ ¬ X2 w2.heap.size) := ⟨hV3 ▸ heap_alloc_new w2 _, fun k => by have := ko2.hi _ k; omega⟩
  have F3 : Hid (Fr (fun c _ => c < n) w1 V3) := f2.trans (e3.mono fun _ _ _ => trivial)
  have N3 : Hid (n ≤ V3.heap.size) := Nat.le_trans N2.out e3.size
  have KO3 := Lib.hid (ko2.tt e3)
  have SA3 := Lib.hid (sa2.tt e3)
  have TK := Lib.hid tk2
  have HV3 := Lib.hid hV3
  rw [hvl]
  unfold vS
  clear hV3 ko2 sa2 e3 f2 tk2 MC hvl
  have hbI : decide ((xl : Int) > 12) = true := by simp; omega
  have hbJ : (12 : Int) < (xl : Int) := by omega
  go_upto_region 3 with fail
  rw [HV3.out]
  obtain ⟨b0, b1, b2, b3, b4⟩ := BX.out _ F3.out
  clear HV3 hbig
  go_wp2
  go_ret
  exact ⟨rfl, WR.out _ F3.out⟩
set_option maxRecDepth 100000 in
set_option maxHeartbeats 8000000 in
/-- A state that is short. -/
theorem back_good (W : World) (a0 : Option Addr) (len0 cap0 : Nat) (l : List OpK) (h : OpsK W.heap.size W (.slice a0 len0 cap0) l) (hl : l.length = len0) (s : Sta) (xs : List EV) (sa : Option Addr) (sc : Nat) (hs : SI W.heap.size W s (.slice sa xs.length sc) xs) (pa : Option Addr) (pl pc : Nat) (zs : List Int) (hz : IntsAt (fun c _ => c < W.heap.size) W (.slice pa pl pc) zs) (ht : TabOK W) (hsh : shortK l 12 = true) (hbig : xs.length ≤ 12) :
    Calls Tryd.prog 8 #[.slice a0 len0 cap0, vS s (.slice sa xs.length sc), .slice pa pl pc] W fun e w' => e = .returned (.bool true) ∧ Fr (fun _ _ => True) W w' := by
  obtain ⟨W0, hW0⟩ : ∃ V, W.alloc (.cells #[.int .u64 (s.term : Nat), .int .i64 s.vote, .int .u64 (s.base : Nat), .int .u64 (s.bt : Nat), .slice sa xs.length sc] 68 (0, 0)) = V := ⟨_, rfl⟩
  have F0 : Hid (Fr (fun _ _ => True) W W0) := hW0 ▸ (Fr.refl _ _).alloc _
  have B0 : W0.heap[W.heap.size]? = some (.cells #[.int .u64 (s.term : Nat), .int .i64 s.vote, .int .u64 (s.base : Nat), .int .u64 (s.bt : Nat), .slice sa xs.length sc] 68 (0, 0)) := hW0 ▸ heap_alloc_new W _
  have BX0 := Lib.hid B0
  have AW := Lib.hid (awake14 W0 (ht.tt F0.out))
  have TT0 := Lib.hid (fun (w : World) (f : Fr (fun _ _ => True) W w) => ht.tt f)
  have H0 : Hid (0 < W.heap.size) := by have := cell_lt (ht 0 (by decide)); exact (by simpa using this : 0 < W.heap.size)
  have HO := Lib.hid h
  have HS := Lib.hid hs
  have HZ := Lib.hid hz
  have HL := Lib.hid hl
  have HSH := Lib.hid hsh
  have HW0 := Lib.hid hW0
  clear hW0 B0 h hs hz hl hsh ht
  obtain ⟨tm, vo, ba, bt, es⟩ := s
  dsimp only at BX0 HW0
  unfold vS
  dsimp only
  obtain ⟨xl, hxl⟩ : ∃ x, xs.length = x := ⟨_, rfl⟩
  rw [hxl] at BX0 HW0 HS hbig ⊢
  have HXL := Lib.hid hxl
  obtain ⟨gb, hgb⟩ : ∃ g, W.heap.size = g := ⟨_, rfl⟩
  have HGB := Lib.hid hgb
  clear hxl
  go_enter Tryd.func8, Tryd.ntmps8
  go_wp2_with fail
  rw [HW0.out]
  try rw [hgb]
  rw [hgb] at BX0
  clear hgb
  (with_reducible refine AW.out.mono ?_)
  rintro e w1 ⟨rfl, f1⟩
  have F1 := Lib.hid (F0.out.trans f1)
  have BX1 : Hid (w1.heap[gb]? = some (.cells #[.int .u64 (tm : Nat), .int .i64 vo, .int .u64 (ba : Nat), .int .u64 (bt : Nat), .slice sa xl sc] 68 (0, 0))) := f1.keep _ _ BX0.out trivial
  obtain ⟨n, hn⟩ : ∃ n, w1.heap.size = n := ⟨_, rfl⟩
  have HN := Lib.hid hn
  have NG : Hid (gb < n ∧ W.heap.size ≤ n) := ⟨hn ▸ lt_of_some BX1.out, hn ▸ F1.out.size⟩
  have N0 : Hid (0 < n) := by have := NG.out; exact (by omega : 0 < n)
  have O1 : Hid (OpsK n w1 (.slice a0 len0 cap0) l) := (HO.out.fr (F1.out.mono fun _ _ _ => trivial)).mono NG.out.2
  have S1 : Hid (∀ w, Fr (fun c _ => c < n) w1 w → SI n w ⟨tm, vo, ba, bt, es⟩ (.slice sa xl sc) xs) := fun w f => ((HS.out.fr (F1.out.mono fun _ _ _ => trivial)).mono NG.out.2).fr f
  have Z1 : Hid (∀ w, Fr (fun c _ => c < n) w1 w → IntsAt (fun c _ => c < n) w (.slice pa pl pc) zs) := fun w f => (((HZ.out.fr (F1.out.mono fun _ _ _ => trivial) fun _ _ h => h)).mono fun c _ h => Nat.lt_of_lt_of_le h NG.out.2).fr f fun _ _ h => h
  have TT : Hid (∀ w, Fr (fun c _ => c < n) w1 w → TabOK w) := kn_ctx (TT0.out w1 F1.out) N0.out
  have BX : Hid (∀ w, Fr (fun c _ => c < n) w1 w → w.cell? ⟨gb, 0, none⟩ = some (.int .u64 (tm : Nat)) ∧ w.cell? ⟨gb, 1, none⟩ = some (.int .i64 vo) ∧ w.cell? ⟨gb, 2, none⟩ = some (.int .u64 (ba : Nat)) ∧ w.cell? ⟨gb, 3, none⟩ = some (.int .u64 (bt : Nat)) ∧ w.cell? ⟨gb, 4, none⟩ = some (.slice sa xl sc)) := fun w f => by
    have t := f.keep _ _ BX1.out NG.out.1
    exact ⟨cell_mk t rfl, cell_mk t rfl, cell_mk t rfl, cell_mk t rfl, cell_mk t rfl⟩
  have WR : Hid (∀ w, Fr (fun c _ => c < n) w1 w → Fr (fun _ _ => True) W w) := fun w f => F1.out.trans (Fr.within (by rw [HN.out]; exact f.mono fun c _ h => h.2))
  have MC : Hid (Calls Tryd.prog 34 #[.slice a0 len0 cap0] w1 fun e w' => (∃ bd bk X s0 sv sx sa sc, e = .returned (.tuple #[.pointer (some ⟨bd, 0, none⟩), .pointer (some ⟨bk, 0, none⟩), vS sv (.slice sa sx.length sc)]) ∧ KO n 12 181 X w' bk bd s0 ∧ SA n X w' sv (.slice sa sx.length sc) sx ∧ Took s0 sv) ∧ Fr (fun c _ => c < n) w1 w') := made14_good w1 a0 len0 cap0 l O1.out HL.out HSH.out N0.out (Nat.le_of_eq HN.out.symm) (TT.out _ (Fr.refl _ _))
  clear f1 hn AW BX0 BX1 HW0 F0 TT0 F1 O1
  go_wp2_with fail
  (with_reducible refine MC.out.mono ?_)
  rintro e w2 ⟨⟨bd, bk, X2, s0, sv, sx, va, vc, rfl, ko2, sa2, tk2⟩, f2⟩
  have F2 := Lib.hid f2
  have N2 : Hid (n ≤ w2.heap.size) := by have := f2.size; rw [HN.out] at this; exact this
  obtain ⟨vl, hvl⟩ : ∃ x, sx.length = x := ⟨_, rfl⟩
  have HVL := Lib.hid hvl
  rw [hvl] at sa2
  obtain ⟨V3, hV3⟩ : ∃ V, w2.alloc (.cells #[.int .u64 (sv.term : Nat), .int .i64 sv.vote, .int .u64 (sv.base : Nat), .int .u64 (sv.bt : Nat), .slice va vl vc] 68 (0, 0)) = V := ⟨_, rfl⟩
  have e3 : Fr (fun _ _ => True) w2 V3 := hV3 ▸ (Fr.refl _ _).alloc _
  have BO : Hid (V3.heap[w2.heap.size]? = some (.cells #[.int .u64 (sv.term : Nat), .int .i64 sv.vote, .int .u64 (sv.base : Nat), .int .u64 (sv.bt : Nat), .slice va vl vc] 68 (0, 0)) ∧ ¬ X2 w2.heap.size) := ⟨hV3 ▸ heap_alloc_new w2 _, fun k => by have := ko2.hi _ k; omega⟩
  have F3 : Hid (Fr (fun c _ => c < n) w1 V3) := f2.trans (e3.mono fun _ _ _ => trivial)
  have N3 : Hid (n ≤ V3.heap.size) := Nat.le_trans N2.out e3.size
  have KO3 := Lib.hid (ko2.tt e3)
  have SA3 := Lib.hid (sa2.tt e3)
  have TK := Lib.hid tk2
  have HV3 := Lib.hid hV3
  rw [hvl]
  unfold vS
  clear hV3 ko2 sa2 e3 f2 tk2 MC hvl
  have hbI : decide ((xl : Int) > 12) = false := by simp; omega
  have hbJ : (xl : Int) ≤ 12 := by omega
  have SC : Hid (Calls Tryd.prog 35 #[.pointer (some ⟨bk, 0, none⟩), .agg #[.int .u64 (tm : Nat), .int .i64 vo, .int .u64 (ba : Nat), .int .u64 (bt : Nat), .slice sa xl sc]] V3 fun e w' => ∃ c X' s1, e = .returned (.int .i64 c) ∧ KO n 12 (181 + 12 + 3) X' w' bk bd s1 ∧ Kp X2 X' V3 w' ∧ ((c = 0 ∧ s1 = ⟨tm, vo, ba, bt, es⟩) ∨ c = 1)) := by
    have hsi := S1.out _ F3.out
    refine (ko_save (s := ⟨tm, vo, ba, bt, es⟩) KO3.out N0.out N3.out _ xs (hsi.sa KO3.out.lo) hsi.wf (TT.out _ F3.out) (by have := HXL.out; omega) (by decide)).mono fun e w' hh => ?_
    obtain ⟨c, X', s1, he, h1, h2, h3⟩ := hh
    refine ⟨c, X', s1, he, h1, h2, ?_⟩
    rcases h3 with h3 | ⟨h3, _⟩ | ⟨_, _, h3⟩
    · exact .inl h3
    · exact .inr h3
    · have h4 := hsi.es
      have h5 := HXL.out
      dsimp only at h3 h4
      rw [h4, List.length_map] at h3
      omega
  obtain ⟨b0, b1, b2, b3, b4⟩ := BX.out _ F3.out
  have HBG := Lib.hid hbig
  clear hbig
  go_upto_region 3 with fail
  rw [HV3.out]
  clear HV3
  go_wp2_with fail
  (with_reducible refine SC.out.mono ?_)
  rintro e w4 ⟨c, X4, s1, rfl, ko4, kp4, hc⟩
  have F4 : Hid (Fr (fun c _ => c < n) w1 w4) := F3.out.trans (kp4.low KO3.out.lo)
  have N4 : Hid (n ≤ w4.heap.size) := Nat.le_trans N3.out kp4.fr.size
  clear SC b0 b1 b2 b3 b4 kp4 BO SA3 hbI hbJ
  rcases hc with ⟨rfl, rfl⟩ | rfl
  case inr =>
    clear ko4
    go_wp2
    go_ret
    exact ⟨rfl, WR.out _ F4.out⟩
  case inl =>
    have hwf : Hid (Sta.wf ⟨tm, vo, ba, bt, es⟩) := (S1.out _ (Fr.refl _ _)).wf
    have LO4 := Lib.hid ko4.lo
    have RG4 := Lib.hid ko4.ki
    have CC : Hid (Calls Tryd.prog 16 #[.pointer (some ⟨bd, 0, none⟩), .slice pa pl pc] w4 fun e w' => e = .returned (.tuple #[]) ∧ ∃ X', KCr n 12 (181 + 12 + 3) X' w' bd ⟨tm, vo, ba, bt, es⟩ ∧ Kp X4 X' w4 w') := ko_crash (K' := fun c _ => c < n) ko4 N4.out pa pl pc zs (Z1.out _ F4.out) fun c o hc k => by have := LO4.out c k; omega
    clear ko4 KO3
    go_wp2_with fail
    (with_reducible refine CC.out.mono ?_)
    rintro e w5 ⟨rfl, X5, kc5, kp5⟩
    have F5 : Hid (Fr (fun c _ => c < n) w1 w5) := F4.out.trans (kp5.low LO4.out)
    have N5 : Hid (n ≤ w5.heap.size) := Nat.le_trans N4.out kp5.fr.size
    have LO5 := Lib.hid kc5.lo
    obtain ⟨rs, hrs⟩ : ∃ x, raise ⟨tm, vo, ba, bt, es⟩ = x := ⟨_, rfl⟩
    obtain ⟨hr1, hr2, hr3, hr4, hr5⟩ := raise_es ⟨tm, vo, ba, bt, es⟩
    rw [hrs] at hr1 hr2 hr3 hr4 hr5
    obtain ⟨rtm, rvo, rba, rbt, res⟩ := rs
    dsimp only at hr1 hr2 hr3 hr4 hr5
    obtain ⟨lt, hlt⟩ : ∃ x, lastT ⟨tm, vo, ba, bt, es⟩ = x := ⟨_, rfl⟩
    rw [hlt] at hr4 hr5
    subst hr1 hr2 hr3
    have HR4 := Lib.hid hr4
    have HR5 := Lib.hid hr5
    clear hr4 hr5
    have OC : Hid (Calls Tryd.prog 36 #[.pointer (some ⟨bd, 0, none⟩), .int .i64 1, .int .i64 12] w5 fun e w' => ∃ bk X' xs a c, e = .returned (.tuple #[.pointer (some ⟨bk, 0, none⟩), .agg #[.int .u64 (rtm : Nat), .int .i64 rvo, .int .u64 (rba : Nat), .int .u64 (rbt : Nat), .slice a xs.length c], .int .i64 0]) ∧ KO n 12 (181 + 12 + 3 + 1) X' w' bk bd ⟨tm, vo, rba, rbt, res⟩ ∧ SA n X' w' ⟨rtm, rvo, rba, rbt, res⟩ (.slice a xs.length c) xs ∧ Kp X5 X' w5 w') := by
      have k := kc_open kc5 N0.out N5.out (TT.out _ F5.out) (by decide)
      rw [hrs] at k
      exact k
    have HLT := Lib.hid hlt
    clear CC kc5 kp5 hrs hlt
    go_wp2_with fail
    (with_reducible refine OC.out.mono ?_)
    rintro e w6 ⟨bk6, X6, ys, ya, yc, rfl, ko6, sa6, kp6⟩
    have F6 : Hid (Fr (fun c _ => c < n) w1 w6) := F5.out.trans (kp6.low LO5.out)
    have N6 : Hid (n ≤ w6.heap.size) := Nat.le_trans N5.out kp6.fr.size
    have LO6 := Lib.hid ko6.lo
    obtain ⟨yl, hyl⟩ : ∃ x, ys.length = x := ⟨_, rfl⟩
    rw [hyl] at sa6 ⊢
    have HYL := Lib.hid hyl
    have SA6 := Lib.hid sa6
    obtain ⟨V7, hV7⟩ : ∃ V, w6.alloc (.cells #[.int .u64 (rtm : Nat), .int .i64 rvo, .int .u64 (rba : Nat), .int .u64 (rbt : Nat), .slice ya yl yc] 68 (0, 0)) = V := ⟨_, rfl⟩
    have e7 : Fr (fun _ _ => True) w6 V7 := hV7 ▸ (Fr.refl _ _).alloc _
    have F67 := Lib.hid e7
    have BT : Hid (V7.heap[w6.heap.size]? = some (.cells #[.int .u64 (rtm : Nat), .int .i64 rvo, .int .u64 (rba : Nat), .int .u64 (rbt : Nat), .slice ya yl yc] 68 (0, 0))) := hV7 ▸ heap_alloc_new w6 _
    have F7 : Hid (Fr (fun c _ => c < n) w1 V7) := F6.out.trans (e7.mono fun _ _ _ => trivial)
    have HV7 := Lib.hid hV7
    have DC : Hid (∀ w, Calls Tryd.prog 37 #[.agg #[.int .u64 (tm : Nat), .int .i64 vo, .int .u64 (rba : Nat), .int .u64 (rbt : Nat), .slice sa xl sc]] w fun e w' => e = .returned (.agg #[.int .u64 (tm : Nat), .int .i64 vo, .int .u64 (rba : Nat), .int .u64 (rbt : Nat), .slice sa xl sc]) ∧ Fr (fun _ _ => True) w w') := fun w => doc_calls w ⟨tm, vo, rba, rbt, res⟩ sa xl sc
    have TC : Hid (∀ w, Fr (fun c _ => c < n) w1 w → Calls Tryd.prog 38 #[.agg #[.int .u64 (tm : Nat), .int .i64 vo, .int .u64 (rba : Nat), .int .u64 (rbt : Nat), .slice sa xl sc]] w fun e w' => e = .returned (.int .u64 (rtm : Nat)) ∧ Fr (fun _ _ => True) w w') := fun w f => by
      have hsi := S1.out _ f
      have k := term_calls w ⟨tm, vo, rba, rbt, res⟩ sa xl sc xs hsi.rows hsi.es (by have := HXL.out; have := HBG.out; omega)
      rw [HLT.out] at k
      rw [HR4.out]
      exact k
    obtain ⟨b0, b1, b2, b3, b4⟩ := BX.out _ F7.out
    obtain ⟨g13, hg13⟩ : ∃ g, w6.heap.size = g := ⟨_, rfl⟩
    rw [hg13] at BT
    clear OC ko6 kp6 sa6 hyl hV7 e7
    go_upto_region 10 with fail
    rw [HV7.out]
    try rw [hg13]
    clear HV7 hg13
    go_wp2_with fail
    (with_reducible refine (DC.out V7).mono ?_)
    rintro e w8 ⟨rfl, f8⟩
    obtain ⟨V9, hV9⟩ : ∃ V, w8.alloc (.cells #[.int .u64 (tm : Nat), .int .i64 vo, .int .u64 (rba : Nat), .int .u64 (rbt : Nat), .slice sa xl sc] 77 (0, 0)) = V := ⟨_, rfl⟩
    have e9 : Fr (fun _ _ => True) w8 V9 := hV9 ▸ (Fr.refl _ _).alloc _
    have BW : Hid (V9.heap[w8.heap.size]? = some (.cells #[.int .u64 (tm : Nat), .int .i64 vo, .int .u64 (rba : Nat), .int .u64 (rbt : Nat), .slice sa xl sc] 77 (0, 0))) := hV9 ▸ heap_alloc_new w8 _
    have F79 := Lib.hid (f8.trans e9)
    have F9 : Hid (Fr (fun c _ => c < n) w1 V9) := F7.out.trans (F79.out.mono fun _ _ _ => trivial)
    have HV9 := Lib.hid hV9
    obtain ⟨g15, hg15⟩ : ∃ g, w8.heap.size = g := ⟨_, rfl⟩
    rw [hg15] at BW
    have G15 : Hid (g13 < g15) := by have := lt_of_some (f8.keep _ _ BT.out trivial); rw [hg15] at this; exact this
    have GN : Hid (n ≤ g15) := by have := Nat.le_trans N6.out (Nat.le_trans F67.out.size f8.size); rw [hg15] at this; exact this
    clear b0 b1 b2 b3 b4 hV9 e9
    obtain ⟨b0, b1, b2, b3, b4⟩ := BX.out _ F9.out
    go_upto_region 11 with fail
    rw [HV9.out]
    try rw [hg15]
    clear HV9 hg15
    go_wp2_with fail
    (with_reducible refine (TC.out _ F9.out).mono ?_)
    rintro e w10 ⟨rfl, f10⟩
    have BW10 := Lib.hid (f10.keep _ _ BW.out trivial)
    have F10 : Hid (Fr (fun c _ => c < n) w1 w10) := F9.out.trans (f10.mono fun _ _ _ => trivial)
    have y0 := frozen_mk (i := 0) BW10.out
    have p0 := cell_mk (i := 0) BW10.out rfl
    obtain ⟨V11, hV11⟩ : ∃ V, w10.setCell ⟨g15, 0, none⟩ (.int .u64 (rtm : Nat)) = V := ⟨_, rfl⟩
    have e11 : Fr (fun c _ => c ≠ g15) w10 V11 := hV11 ▸ (Fr.refl _ _).setCell (fun _ _ h => h rfl) _
    have BW11 : Hid (V11.heap[g15]? = some (.cells #[.int .u64 (rtm : Nat), .int .i64 vo, .int .u64 (rba : Nat), .int .u64 (rbt : Nat), .slice sa xl sc] 77 (0, 0))) := hV11 ▸ heap_setCell_same (o := 0) BW10.out _
    have F11 : Hid (Fr (fun c _ => c < n) w1 V11) := F10.out.trans (e11.mono fun c _ h e => by have := GN.out; omega)
    have BT11 : Hid (V11.heap[g13]? = some (.cells #[.int .u64 (rtm : Nat), .int .i64 rvo, .int .u64 (rba : Nat), .int .u64 (rbt : Nat), .slice ya yl yc] 68 (0, 0))) := e11.keep _ _ (f10.keep _ _ (F79.out.keep _ _ BT.out trivial) trivial) (by have := G15.out; omega)
    have SY : Hid (SA n X6 V11 ⟨rtm, rvo, rba, rbt, res⟩ (.slice ya yl yc) ys) := (SA6.out.tt (F67.out.trans (F79.out.trans f10))).box BW10.out (by decide) (by decide) GN.out e11
    have HV11 := Lib.hid hV11
    clear b0 b1 b2 b3 b4 f8 f10 hV11 e11
    obtain ⟨b0, b1, b2, b3, b4⟩ := BX.out _ F11.out
    go_upto_region 12 with fail
    rw [HV11.out]
    clear HV11 y0 p0
    have w0 := cell_mk (i := 0) BW11.out rfl
    have w1' := cell_mk (i := 1) BW11.out rfl
    have w2' := cell_mk (i := 2) BW11.out rfl
    have w3' := cell_mk (i := 3) BW11.out rfl
    have w4' := cell_mk (i := 4) BW11.out rfl
    have t0 := cell_mk (i := 0) BT11.out rfl
    have t1 := cell_mk (i := 1) BT11.out rfl
    have t2 := cell_mk (i := 2) BT11.out rfl
    have t3 := cell_mk (i := 3) BT11.out rfl
    have t4 := cell_mk (i := 4) BT11.out rfl
    have yb := Lib.hid (RG4.out.1)
    have SAMEC : Hid (∀ V, SA n X6 V ⟨rtm, rvo, rba, rbt, res⟩ (.slice ya yl yc) ys → Fr (fun c _ => c < n) w1 V → Calls Tryd.prog 39 #[.agg #[.int .u64 (rtm : Nat), .int .i64 rvo, .int .u64 (rba : Nat), .int .u64 (rbt : Nat), .slice ya yl yc], .agg #[.int .u64 (rtm : Nat), .int .i64 rvo, .int .u64 (rba : Nat), .int .u64 (rbt : Nat), .slice sa xl sc]] V fun e w' => e = .returned (.bool true) ∧ Fr (fun _ _ => True) V w') := fun V sv f => by
      have hsi := S1.out _ f
      have hbad := (Sta.right_bad yb.out).1
      have k := same_sa (t := ⟨rtm, rvo, rba, rbt, res⟩) sv (⟨(hsi.sa LO6.out).rows, hsi.es, (hsi.sa LO6.out).dat⟩ : SA n X6 V ⟨rtm, rvo, rba, rbt, res⟩ (.slice sa xl sc) xs) (fun e he => by
        have := hbad e he
        unfold badE at this
        simp only [Bool.or_eq_false_iff, decide_eq_false_iff_not] at this
        omega) (by have := sv.len; have := RG4.out.2.2.1; dsimp only at *; omega)
      rw [decide_eq_true rfl] at k
      exact k
    by_cases hlt : tm < lt
    · have g1 : ((rtm : Int) != (tm : Int)) = true := by have := HR4.out; simp; omega
      have g2 : rvo = -1 := by rw [HR5.out, if_pos hlt]
      subst g2
      have y1 := frozen_mk (i := 1) BW11.out
      obtain ⟨V12, hV12⟩ : ∃ V, V11.setCell ⟨g15, 1, none⟩ (.int .i64 (-1)) = V := ⟨_, rfl⟩
      have e12 : Fr (fun c _ => c ≠ g15) V11 V12 := hV12 ▸ (Fr.refl _ _).setCell (fun _ _ h => h rfl) _
      have BW12 : Hid (V12.heap[g15]? = some (.cells #[.int .u64 (rtm : Nat), .int .i64 (-1), .int .u64 (rba : Nat), .int .u64 (rbt : Nat), .slice sa xl sc] 77 (0, 0))) := hV12 ▸ heap_setCell_same (o := 1) BW11.out _
      have F12 : Hid (Fr (fun c _ => c < n) w1 V12) := F11.out.trans (e12.mono fun c _ h e => by have := GN.out; omega)
      have BT12 : Hid (V12.heap[g13]? = some (.cells #[.int .u64 (rtm : Nat), .int .i64 (-1), .int .u64 (rba : Nat), .int .u64 (rbt : Nat), .slice ya yl yc] 68 (0, 0))) := e12.keep _ _ BT11.out (by have := G15.out; omega)
      have SC12 := Lib.hid (SAMEC.out V12 (SY.out.box BW11.out (by decide) (by decide) GN.out e12) F12.out)
      have HV12 := Lib.hid hV12
      clear hV12 e12 hlt
      go_upto_region 14 with fail
      rw [HV12.out]
      clear HV12 y1 w0 w1' w2' w3' w4' t0 t1 t2 t3 t4 b0 b1 b2 b3 b4
      have w0 := cell_mk (i := 0) BW12.out rfl
      have w1' := cell_mk (i := 1) BW12.out rfl
      have w2' := cell_mk (i := 2) BW12.out rfl
      have w3' := cell_mk (i := 3) BW12.out rfl
      have w4' := cell_mk (i := 4) BW12.out rfl
      have t0 := cell_mk (i := 0) BT12.out rfl
      have t1 := cell_mk (i := 1) BT12.out rfl
      have t2 := cell_mk (i := 2) BT12.out rfl
      have t3 := cell_mk (i := 3) BT12.out rfl
      have t4 := cell_mk (i := 4) BT12.out rfl
      go_wp2_with fail
      (with_reducible refine SC12.out.mono ?_)
      rintro e w13 ⟨rfl, f13⟩
      have F13 : Hid (Fr (fun c _ => c < n) w1 w13) := F12.out.trans (f13.mono fun _ _ _ => trivial)
      clear f13 w0 w1' w2' w3' w4' t0 t1 t2 t3 t4
      go_wp2
      go_ret
      exact ⟨rfl, WR.out _ F13.out⟩
    · have g0 : rtm = tm := by have := HR4.out; omega
      subst g0
      have g1 : ((rtm : Int) != (rtm : Int)) = false := by simp
      have g2 : rvo = vo := by rw [HR5.out, if_neg hlt]
      subst g2
      have SC12 := Lib.hid (SAMEC.out V11 SY.out F11.out)
      clear hlt
      go_wp2_with fail
      (with_reducible refine SC12.out.mono ?_)
      rintro e w13 ⟨rfl, f13⟩
      have F13 : Hid (Fr (fun c _ => c < n) w1 w13) := F11.out.trans (f13.mono fun _ _ _ => trivial)
      clear f13 w0 w1' w2' w3' w4' t0 t1 t2 t3 t4 b0 b1 b2 b3 b4
      go_wp2
      go_ret
      exact ⟨rfl, WR.out _ F13.out⟩
theorem sta_cells {W : World} {cs : Array Value} (h : Rd Tryd.prog W 68 cs.toList) : ∃ (s : Sta) (xs : List EV) (a : Option Addr) (c : Nat), Value.agg cs = vS s (.slice a xs.length c) ∧ SI W.heap.size W s (.slice a xs.length c) xs := by
  obtain ⟨s, xs, a, c, h1, h2⟩ := sta_of h
  refine ⟨s, xs, a, c, ?_, h2⟩
  unfold vS
  congr 1
  cases cs
  simp at h1
  simp [h1]
/-- KeepBack. -/
theorem back14_walk (W : World) (a0 : Option Addr) (len0 cap0 : Nat) (cs1 : Array Value) (a2 : Option Addr) (len2 cap2 : Nat) (r0 : Rd Tryd.prog W 63 [.slice a0 len0 cap0]) (r1 : Rd Tryd.prog W 68 cs1.toList) (r2 : Rd Tryd.prog W 24 [.slice a2 len2 cap2]) (ht : TabOK W) :
    Calls Tryd.prog 8 #[.slice a0 len0 cap0, .agg cs1, .slice a2 len2 cap2] W fun e w' => e = .returned (.bool true) ∧ Below W.heap.size W w' := by
  obtain ⟨l, hl, hlen⟩ := opsk_of r0
  obtain ⟨s, xs, sa, sc, he, hs⟩ := sta_cells r1
  obtain ⟨zs, hz, _⟩ := r2.is
  rw [he]
  have K : Calls Tryd.prog 8 #[.slice a0 len0 cap0, vS s (.slice sa xs.length sc), .slice a2 len2 cap2] W fun e w' => e = .returned (.bool true) ∧ Fr (fun _ _ => True) W w' := by
    cases hsh : shortK l 12 with
    | false => exact back_bad W a0 len0 cap0 l hl hlen _ _ _ _ _ _ ht hsh
    | true =>
      by_cases hb : xs.length ≤ 12
      · exact back_good W a0 len0 cap0 l hl hlen s xs sa sc hs a2 len2 cap2 zs hz ht hsh hb
      · exact back_long W a0 len0 cap0 l hl hlen s xs sa sc hs a2 len2 cap2 zs hz ht hsh (by omega)
  exact K.mono fun e w' hh => ⟨hh.1, hh.2.bel⟩
end Go.Proofs.YtcpbmempfeloaaaDoor
