/- Texts of the proofs, part 40: what the functions that they reach do, walked; no conditions beyond those that each states. -/
import Derived.Test.YtcpbmempfeloaaaDoorZz6ca5ef1c65
set_option linter.unusedVariables false
set_option linter.unusedSimpArgs false
/- Law 14: KeepAmid, walked. -/
namespace Go.Proofs.YtcpbmempfeloaaaDoor
open Go.RowKit
set_option linter.unusedVariables false
set_option linter.unusedSimpArgs false

set_option maxRecDepth 100000 in
set_option maxHeartbeats 2000000 in
theorem amid14_bad (W : World) (a0 : Option Addr) (len0 cap0 : Nat) (l : List OpK) (h : OpsK W.heap.size W (.slice a0 len0 cap0) l) (hl : l.length = len0) (c0 c1 c2 c3 c4 v2 v3 : Value) (ht : TabOK W) (hs : shortK l 12 = false) :
    Calls Tryd.prog 10 #[.slice a0 len0 cap0, .agg #[c0, c1, c2, c3, c4], v2, v3] W fun e w' => e = .returned (.bool true) ∧ Fr (fun _ _ => True) W w' := by
  obtain ⟨W0, hW0⟩ : ∃ V, W.alloc (.cells #[c0, c1, c2, c3, c4] 68 (0, 0)) = V := ⟨_, rfl⟩
  have F0 : Hid (Fr (fun _ _ => True) W W0) := hW0 ▸ (Fr.refl _ _).alloc _
  have AW := Lib.hid (awake14 W0 (ht.tt F0.out))
  have MB : Hid (∀ w, Fr (fun _ _ => True) W w → Calls Tryd.prog 34 #[.slice a0 len0 cap0] w fun e w' => e = .returned (.tuple #[.pointer none, .pointer none, .agg #[.int .u64 0, .int .i64 0, .int .u64 0, .int .u64 0, .slice none 0 0]]) ∧ Fr (fun _ _ => True) w w') := fun w f => made14_bad w a0 len0 cap0 l (h.fr (f.mono fun _ _ _ => trivial)) hl hs
  clear ht h hl hs
  have HW0 := Lib.hid hW0
  clear hW0
  go_enter Tryd.func10, Tryd.ntmps10
  go_wp2_with fail
  rw [HW0.out]
  (with_reducible refine AW.out.mono ?_)
  rintro e w1 ⟨rfl, f1⟩
  have F1 := Lib.hid (F0.out.trans f1)
  clear f1
  go_wp2_with fail
  (with_reducible refine (MB.out w1 F1.out).mono ?_)
  rintro e w2 ⟨rfl, f2⟩
  have F2 := Lib.hid (F1.out.trans f2)
  clear f2 MB
  go_wp2
  go_ret
  exact ⟨rfl, F2.out.alloc _⟩
set_option maxRecDepth 100000 in
set_option maxHeartbeats 4000000 in
/-- A state that is too long. -/
theorem amid14_long (W : World) (a0 : Option Addr) (len0 cap0 : Nat) (l : List OpK) (h : OpsK W.heap.size W (.slice a0 len0 cap0) l) (hl : l.length = len0) (s : Sta) (xs : List EV) (sa : Option Addr) (sc : Nat) (hs : SI W.heap.size W s (.slice sa xs.length sc) xs) (fu : Int) (f0 : -9223372036854775808 ≤ fu) (f1 : fu ≤ 9223372036854775807) (pa : Option Addr) (pl pc : Nat) (zs : List Int) (hz : IntsAt (fun c _ => c < W.heap.size) W (.slice pa pl pc) zs) (ht : TabOK W) (hsh : shortK l 12 = true) (hbig : 12 < xs.length) :
    Calls Tryd.prog 10 #[.slice a0 len0 cap0, vS s (.slice sa xs.length sc), .int .i64 fu, .slice pa pl pc] W fun e w' => e = .returned (.bool true) ∧ Fr (fun _ _ => True) W w' := by
  obtain ⟨W0, hW0⟩ : ∃ V, W.alloc (.cells #[.int .u64 (s.term : Nat), .int .i64 s.vote, .int .u64 (s.base : Nat), .int .u64 (s.bt : Nat), .slice sa xs.length sc] 68 (0, 0)) = V := ⟨_, rfl⟩
  have F0 : Hid (Fr (fun _ _ => True) W W0) := hW0 ▸ (Fr.refl _ _).alloc _
  have B0 : W0.heap[W.heap.size]? = some (.cells #[.int .u64 (s.term : Nat), .int .i64 s.vote, .int .u64 (s.base : Nat), .int .u64 (s.bt : Nat), .slice sa xs.length sc] 68 (0, 0)) := hW0 ▸ heap_alloc_new W _
  have BX0 := Lib.hid B0
  have AW := Lib.hid (awake14 W0 (ht.tt F0.out))
  have TT0 := Lib.hid (fun (w : World) (f : Fr (fun _ _ => True) W w) => ht.tt f)
  have H0 : Hid (0 < W.heap.size) := by have := cell_lt (ht 0 (by decide)); exact (by simpa using this : 0 < W.heap.size)
  have HO := Lib.hid h
  have HS := Lib.hid hs
  have HZ := Lib.hid hz
  have HL := Lib.hid hl
  have HSH := Lib.hid hsh
  have HW0 := Lib.hid hW0
  clear hW0 B0 h hs hz hl hsh ht
  obtain ⟨tm, vo, ba, bt, es⟩ := s
  dsimp only at BX0 HW0
  unfold vS
  dsimp only
  obtain ⟨xl, hxl⟩ : ∃ x, xs.length = x := ⟨_, rfl⟩
  rw [hxl] at BX0 HW0 HS hbig ⊢
  have HXL := Lib.hid hxl
  obtain ⟨gb, hgb⟩ : ∃ g, W.heap.size = g := ⟨_, rfl⟩
  have HGB := Lib.hid hgb
  clear hxl
  go_enter Tryd.func10, Tryd.ntmps10
  go_wp2_with fail
  rw [HW0.out]
  try rw [hgb]
  rw [hgb] at BX0
  clear hgb
  (with_reducible refine AW.out.mono ?_)
  rintro e w1 ⟨rfl, f1⟩
  have F1 := Lib.hid (F0.out.trans f1)
  have BX1 : Hid (w1.heap[gb]? = some (.cells #[.int .u64 (tm : Nat), .int .i64 vo, .int .u64 (ba : Nat), .int .u64 (bt : Nat), .slice sa xl sc] 68 (0, 0))) := f1.keep _ _ BX0.out trivial
  obtain ⟨n, hn⟩ : ∃ n, w1.heap.size = n := ⟨_, rfl⟩
  have HN := Lib.hid hn
  have NG : Hid (gb < n ∧ W.heap.size ≤ n) := ⟨hn ▸ lt_of_some BX1.out, hn ▸ F1.out.size⟩
  have N0 : Hid (0 < n) := by have := NG.out; exact (by omega : 0 < n)
  have O1 : Hid (OpsK n w1 (.slice a0 len0 cap0) l) := (HO.out.fr (F1.out.mono fun _ _ _ => trivial)).mono NG.out.2
  have S1 : Hid (∀ w, Fr (fun c _ => c < n) w1 w → SI n w ⟨tm, vo, ba, bt, es⟩ (.slice sa xl sc) xs) := fun w f => ((HS.out.fr (F1.out.mono fun _ _ _ => trivial)).mono NG.out.2).fr f
  have Z1 : Hid (∀ w, Fr (fun c _ => c < n) w1 w → IntsAt (fun c _ => c < n) w (.slice pa pl pc) zs) := fun w f => (((HZ.out.fr (F1.out.mono fun _ _ _ => trivial) fun _ _ h => h)).mono fun c _ h => Nat.lt_of_lt_of_le h NG.out.2).fr f fun _ _ h => h
  have TT : Hid (∀ w, Fr (fun c _ => c < n) w1 w → TabOK w) := kn_ctx (TT0.out w1 F1.out) N0.out
  have BX : Hid (∀ w, Fr (fun c _ => c < n) w1 w → w.cell? ⟨gb, 0, none⟩ = some (.int .u64 (tm : Nat)) ∧ w.cell? ⟨gb, 1, none⟩ = some (.int .i64 vo) ∧ w.cell? ⟨gb, 2, none⟩ = some (.int .u64 (ba : Nat)) ∧ w.cell? ⟨gb, 3, none⟩ = some (.int .u64 (bt : Nat)) ∧ w.cell? ⟨gb, 4, none⟩ = some (.slice sa xl sc)) := fun w f => by
    have t := f.keep _ _ BX1.out NG.out.1
    exact ⟨cell_mk t rfl, cell_mk t rfl, cell_mk t rfl, cell_mk t rfl, cell_mk t rfl⟩
  have WR : Hid (∀ w, Fr (fun c _ => c < n) w1 w → Fr (fun _ _ => True) W w) := fun w f => F1.out.trans (Fr.within (by rw [HN.out]; exact f.mono fun c _ h => h.2))
  have MC : Hid (Calls Tryd.prog 34 #[.slice a0 len0 cap0] w1 fun e w' => (∃ bd bk X s0 sv sx sa sc, e = .returned (.tuple #[.pointer (some ⟨bd, 0, none⟩), .pointer (some ⟨bk, 0, none⟩), vS sv (.slice sa sx.length sc)]) ∧ KO n 12 181 X w' bk bd s0 ∧ SA n X w' sv (.slice sa sx.length sc) sx ∧ Took s0 sv) ∧ Fr (fun c _ => c < n) w1 w') := made14_good w1 a0 len0 cap0 l O1.out HL.out HSH.out N0.out (Nat.le_of_eq HN.out.symm) (TT.out _ (Fr.refl _ _))
  clear f1 hn AW BX0 BX1 HW0 F0 TT0 F1 O1
  go_wp2_with fail
  (with_reducible refine MC.out.mono ?_)
  rintro e w2 ⟨⟨bd, bk, X2, s0, sv, sx, va, vc, rfl, ko2, sa2, tk2⟩, f2⟩
  have F2 := Lib.hid f2
  have N2 : Hid (n ≤ w2.heap.size) := by have := f2.size; rw [HN.out] at this; exact this
  obtain ⟨vl, hvl⟩ : ∃ x, sx.length = x := ⟨_, rfl⟩
  have HVL := Lib.hid hvl
  rw [hvl] at sa2
  obtain ⟨V3, hV3⟩ : ∃ V, w2.alloc (.cells #[.int .u64 (sv.term : Nat), .int .i64 sv.vote, .int .u64 (sv.base : Nat), .int .u64 (sv.bt : Nat), .slice va vl vc] 68 (0, 0)) = V := ⟨_, rfl⟩
  have e3 : Fr (fun _ _ => True) w2 V3 := hV3 ▸ (Fr.refl _ _).alloc _
  have BO : Hid (V3.heap[w2.heap.size]? = some (.cells #[.int .u64 (sv.term : Nat), .int .i64 sv.vote, .int .u64 (sv.base : Nat), .int .u64 (sv.bt : Nat), .slice va vl vc] 68 (0, 0)) ∧ ¬ X2 w2.heap.size) := ⟨hV3 ▸ heap_alloc_new w2 _, fun k => by have := ko2.hi _ k; omega⟩
  have F3 : Hid (Fr (fun c _ => c < n) w1 V3) := f2.trans (e3.mono fun _ _ _ => trivial)
  have N3 : Hid (n ≤ V3.heap.size) := Nat.le_trans N2.out e3.size
  have KO3 := Lib.hid (ko2.tt e3)
  have SA3 := Lib.hid (sa2.tt e3)
  have TK := Lib.hid tk2
  have HV3 := Lib.hid hV3
  rw [hvl]
  unfold vS
  clear hV3 ko2 sa2 e3 f2 tk2 MC hvl
  have hbI : decide ((xl : Int) > 12) = true := by simp; omega
  have hbJ : (12 : Int) < (xl : Int) := by omega
  go_upto_region 3 with fail
  rw [HV3.out]
  obtain ⟨b0, b1, b2, b3, b4⟩ := BX.out _ F3.out
  clear HV3 hbig f0 f1
  go_wp2
  go_ret
  exact ⟨rfl, WR.out _ F3.out⟩
set_option maxRecDepth 100000 in
set_option maxHeartbeats 16000000 in
theorem amid14_good (W : World) (a0 : Option Addr) (len0 cap0 : Nat) (l : List OpK) (h : OpsK W.heap.size W (.slice a0 len0 cap0) l) (hl : l.length = len0) (s : Sta) (xs : List EV) (sa : Option Addr) (sc : Nat) (hs : SI W.heap.size W s (.slice sa xs.length sc) xs) (fu : Int) (f0 : -9223372036854775808 ≤ fu) (f1 : fu ≤ 9223372036854775807) (pa : Option Addr) (pl pc : Nat) (zs : List Int) (hz : IntsAt (fun c _ => c < W.heap.size) W (.slice pa pl pc) zs) (ht : TabOK W) (hsh : shortK l 12 = true) (hbig : xs.length ≤ 12) :
    Calls Tryd.prog 10 #[.slice a0 len0 cap0, vS s (.slice sa xs.length sc), .int .i64 fu, .slice pa pl pc] W fun e w' => e = .returned (.bool true) ∧ Fr (fun _ _ => True) W w' := by
  obtain ⟨W0, hW0⟩ : ∃ V, W.alloc (.cells #[.int .u64 (s.term : Nat), .int .i64 s.vote, .int .u64 (s.base : Nat), .int .u64 (s.bt : Nat), .slice sa xs.length sc] 68 (0, 0)) = V := ⟨_, rfl⟩
  have F0 : Hid (Fr (fun _ _ => True) W W0) := hW0 ▸ (Fr.refl _ _).alloc _
  have B0 : W0.heap[W.heap.size]? = some (.cells #[.int .u64 (s.term : Nat), .int .i64 s.vote, .int .u64 (s.base : Nat), .int .u64 (s.bt : Nat), .slice sa xs.length sc] 68 (0, 0)) := hW0 ▸ heap_alloc_new W _
  have BX0 := Lib.hid B0
  have AW := Lib.hid (awake14 W0 (ht.tt F0.out))
  have TT0 := Lib.hid (fun (w : World) (f : Fr (fun _ _ => True) W w) => ht.tt f)
  have H0 : Hid (0 < W.heap.size) := by have := cell_lt (ht 0 (by decide)); exact (by simpa using this : 0 < W.heap.size)
  have HO := Lib.hid h
  have HS := Lib.hid hs
  have HZ := Lib.hid hz
  have HL := Lib.hid hl
  have HSH := Lib.hid hsh
  have HW0 := Lib.hid hW0
  clear hW0 B0 h hs hz hl hsh ht
  obtain ⟨tm, vo, ba, bt, es⟩ := s
  dsimp only at BX0 HW0
  unfold vS
  dsimp only
  obtain ⟨xl, hxl⟩ : ∃ x, xs.length = x := ⟨_, rfl⟩
  rw [hxl] at BX0 HW0 HS hbig ⊢
  have HXL := Lib.hid hxl
  obtain ⟨gb, hgb⟩ : ∃ g, W.heap.size = g := ⟨_, rfl⟩
  have HGB := Lib.hid hgb
  clear hxl
  go_enter Tryd.func10, Tryd.ntmps10
  go_wp2_with fail
  rw [HW0.out]
  try rw [hgb]
  rw [hgb] at BX0
  clear hgb
  (with_reducible refine AW.out.mono ?_)
  rintro e w1 ⟨rfl, f1⟩
  have F1 := Lib.hid (F0.out.trans f1)
  have BX1 : Hid (w1.heap[gb]? = some (.cells #[.int .u64 (tm : Nat), .int .i64 vo, .int .u64 (ba : Nat), .int .u64 (bt : Nat), .slice sa xl sc] 68 (0, 0))) := f1.keep _ _ BX0.out trivial
  obtain ⟨n, hn⟩ : ∃ n, w1.heap.size = n := ⟨_, rfl⟩
  have HN := Lib.hid hn
  have NG : Hid (gb < n ∧ W.heap.size ≤ n) := ⟨hn ▸ lt_of_some BX1.out, hn ▸ F1.out.size⟩
  have N0 : Hid (0 < n) := by have := NG.out; exact (by omega : 0 < n)
  have O1 : Hid (OpsK n w1 (.slice a0 len0 cap0) l) := (HO.out.fr (F1.out.mono fun _ _ _ => trivial)).mono NG.out.2
  have S1 : Hid (∀ w, Fr (fun c _ => c < n) w1 w → SI n w ⟨tm, vo, ba, bt, es⟩ (.slice sa xl sc) xs) := fun w f => ((HS.out.fr (F1.out.mono fun _ _ _ => trivial)).mono NG.out.2).fr f
  have Z1 : Hid (∀ w, Fr (fun c _ => c < n) w1 w → IntsAt (fun c _ => c < n) w (.slice pa pl pc) zs) := fun w f => (((HZ.out.fr (F1.out.mono fun _ _ _ => trivial) fun _ _ h => h)).mono fun c _ h => Nat.lt_of_lt_of_le h NG.out.2).fr f fun _ _ h => h
  have TT : Hid (∀ w, Fr (fun c _ => c < n) w1 w → TabOK w) := kn_ctx (TT0.out w1 F1.out) N0.out
  have BX : Hid (∀ w, Fr (fun c _ => c < n) w1 w → w.cell? ⟨gb, 0, none⟩ = some (.int .u64 (tm : Nat)) ∧ w.cell? ⟨gb, 1, none⟩ = some (.int .i64 vo) ∧ w.cell? ⟨gb, 2, none⟩ = some (.int .u64 (ba : Nat)) ∧ w.cell? ⟨gb, 3, none⟩ = some (.int .u64 (bt : Nat)) ∧ w.cell? ⟨gb, 4, none⟩ = some (.slice sa xl sc)) := fun w f => by
    have t := f.keep _ _ BX1.out NG.out.1
    exact ⟨cell_mk t rfl, cell_mk t rfl, cell_mk t rfl, cell_mk t rfl, cell_mk t rfl⟩
  have WR : Hid (∀ w, Fr (fun c _ => c < n) w1 w → Fr (fun _ _ => True) W w) := fun w f => F1.out.trans (Fr.within (by rw [HN.out]; exact f.mono fun c _ h => h.2))
  have MC : Hid (Calls Tryd.prog 34 #[.slice a0 len0 cap0] w1 fun e w' => (∃ bd bk X s0 sv sx sa sc, e = .returned (.tuple #[.pointer (some ⟨bd, 0, none⟩), .pointer (some ⟨bk, 0, none⟩), vS sv (.slice sa sx.length sc)]) ∧ KO n 12 181 X w' bk bd s0 ∧ SA n X w' sv (.slice sa sx.length sc) sx ∧ Took s0 sv) ∧ Fr (fun c _ => c < n) w1 w') := made14_good w1 a0 len0 cap0 l O1.out HL.out HSH.out N0.out (Nat.le_of_eq HN.out.symm) (TT.out _ (Fr.refl _ _))
  clear f1 hn AW BX0 BX1 HW0 F0 TT0 F1 O1
  go_wp2_with fail
  (with_reducible refine MC.out.mono ?_)
  rintro e w2 ⟨⟨bd, bk, X2, s0, sv, sx, va, vc, rfl, ko2, sa2, tk2⟩, f2⟩
  have F2 := Lib.hid f2
  have N2 : Hid (n ≤ w2.heap.size) := by have := f2.size; rw [HN.out] at this; exact this
  obtain ⟨vl, hvl⟩ : ∃ x, sx.length = x := ⟨_, rfl⟩
  have HVL := Lib.hid hvl
  rw [hvl] at sa2
  obtain ⟨V3, hV3⟩ : ∃ V, w2.alloc (.cells #[.int .u64 (sv.term : Nat), .int .i64 sv.vote, .int .u64 (sv.base : Nat), .int .u64 (sv.bt : Nat), .slice va vl vc] 68 (0, 0)) = V := ⟨_, rfl⟩
  have e3 : Fr (fun _ _ => True) w2 V3 := hV3 ▸ (Fr.refl _ _).alloc _
  have BO : Hid (V3.heap[w2.heap.size]? = some (.cells #[.int .u64 (sv.term : Nat), .int .i64 sv.vote, .int .u64 (sv.base : Nat), .int .u64 (sv.bt : Nat), .slice va vl vc] 68 (0, 0)) ∧ ¬ X2 w2.heap.size) := ⟨hV3 ▸ heap_alloc_new w2 _, fun k => by have := ko2.hi _ k; omega⟩
  have F3 : Hid (Fr (fun c _ => c < n) w1 V3) := f2.trans (e3.mono fun _ _ _ => trivial)
  have N3 : Hid (n ≤ V3.heap.size) := Nat.le_trans N2.out e3.size
  have KO3 := Lib.hid (ko2.tt e3)
  have SA3 := Lib.hid (sa2.tt e3)
  have TK := Lib.hid tk2
  have HV3 := Lib.hid hV3
  rw [hvl]
  unfold vS
  clear hV3 ko2 sa2 e3 f2 tk2 MC hvl
  have hbI : decide ((xl : Int) > 12) = false := by simp; omega
  have hbJ : (xl : Int) ≤ 12 := by omega
  have HBG := Lib.hid hbig
  have HF0 := Lib.hid f0
  have HF1 := Lib.hid f1
  have RG := Lib.hid KO3.out.ki
  have SY : Hid (Calls Tryd.prog 40 #[.pointer (some ⟨bd, 0, none⟩)] V3 fun e w' => e = .returned (.tuple #[]) ∧ ∃ X', KO n 12 181 X' w' bk bd s0 ∧ Kp X2 X' V3 w') := ko_sync KO3.out N3.out
  obtain ⟨b0, b1, b2, b3, b4⟩ := BX.out _ F3.out
  clear hbig f0 f1
  go_upto_region 3 with fail
  rw [HV3.out]
  obtain ⟨go, hgo⟩ : ∃ g, w2.heap.size = g := ⟨_, rfl⟩
  rw [hgo] at BO ⊢
  clear HV3 hgo
  go_wp2_with fail
  (with_reducible refine SY.out.mono ?_)
  rintro e w4 ⟨rfl, X4, ko4, kp4⟩
  have F4 : Hid (Fr (fun c _ => c < n) w1 w4) := F3.out.trans (kp4.low KO3.out.lo)
  have N4 : Hid (n ≤ w4.heap.size) := Nat.le_trans N3.out kp4.fr.size
  have BO4 := Lib.hid (kp4.box BO.out.1 BO.out.2)
  have SV4 := Lib.hid (SA3.out.kp kp4)
  have LO4 := Lib.hid ko4.lo
  have FC : Hid (Calls Tryd.prog 20 #[.pointer (some ⟨bd, 0, none⟩), .int .i64 fu] w4 fun e w' => e = .returned (.tuple #[]) ∧ ∃ X', KF n 12 181 X' w' bk bd s0 fu ∧ Kp X4 X' w4 w') := ko_fuse ko4 N4.out fu HF0.out HF1.out
  clear kp4 SY ko4 BO SA3 KO3 b0 b1 b2 b3 b4
  go_wp2_with fail
  (with_reducible refine FC.out.mono ?_)
  rintro e w5 ⟨rfl, X5, kf5, kp5⟩
  have F5 : Hid (Fr (fun c _ => c < n) w1 w5) := F4.out.trans (kp5.low LO4.out)
  have N5 : Hid (n ≤ w5.heap.size) := Nat.le_trans N4.out kp5.fr.size
  have BO5 := Lib.hid (kp5.box BO4.out.1 BO4.out.2)
  have SV5 := Lib.hid (SV4.out.kp kp5)
  have LO5 := Lib.hid kf5.lo
  have HSL : Hid (es.length ≤ 12) := by
    have h4 := (S1.out _ F5.out).es
    have h5 := HXL.out
    dsimp only at h4
    show _ ≤ _
    rw [h4, List.length_map]
    have := HBG.out
    omega
  have SC : Hid (Calls Tryd.prog 35 #[.pointer (some ⟨bk, 0, none⟩), .agg #[.int .u64 (tm : Nat), .int .i64 vo, .int .u64 (ba : Nat), .int .u64 (bt : Nat), .slice sa xl sc]] w5 fun e w' => ∃ c X', e = .returned (.int .i64 c) ∧ Kp X5 X' w5 w' ∧ KX n 12 X' w' bd s0 ⟨tm, vo, ba, bt, es⟩ c ∧ (c = 1 ∨ (s0.base ≤ ba ∧ Sta.right ⟨tm, vo, ba, bt, es⟩ = true))) := by
    have hsi := S1.out _ F5.out
    exact kf_save (s := ⟨tm, vo, ba, bt, es⟩) kf5 N0.out N5.out _ xs (hsi.sa LO5.out) hsi.wf (TT.out _ F5.out) HSL.out (by decide) HF0.out HF1.out
  obtain ⟨b0, b1, b2, b3, b4⟩ := BX.out _ F5.out
  clear kf5 kp5 FC BO4 SV4
  go_wp2_with fail
  (with_reducible refine SC.out.mono ?_)
  rintro e w6 ⟨c, X6, rfl, kp6, kx6, hcb⟩
  have F6 : Hid (Fr (fun c _ => c < n) w1 w6) := F5.out.trans (kp6.low LO5.out)
  have N6 : Hid (n ≤ w6.heap.size) := Nat.le_trans N5.out kp6.fr.size
  have BO6 := Lib.hid (kp6.box BO5.out.1 BO5.out.2)
  have SV6 := Lib.hid (SV5.out.kp kp6)
  have LO6 := Lib.hid kx6.lo
  have HCB := Lib.hid hcb
  have CC : Hid (Calls Tryd.prog 16 #[.pointer (some ⟨bd, 0, none⟩), .slice pa pl pc] w6 fun e w' => e = .returned (.tuple #[]) ∧ ∃ X', KY n 12 X' w' bd s0 ⟨tm, vo, ba, bt, es⟩ c ∧ Kp X6 X' w6 w') := kx_crash (K' := fun c _ => c < n) kx6 N6.out pa pl pc zs (Z1.out _ F6.out) fun c o hc k => by have := LO6.out c k; omega
  clear kp6 kx6 hcb SC BO5 SV5 b0 b1 b2 b3 b4
  go_wp2_with fail
  (with_reducible refine CC.out.mono ?_)
  rintro e w7 ⟨rfl, X7, ky7, kp7⟩
  have F7 : Hid (Fr (fun c _ => c < n) w1 w7) := F6.out.trans (kp7.low LO6.out)
  have N7 : Hid (n ≤ w7.heap.size) := Nat.le_trans N6.out kp7.fr.size
  have BO7 := Lib.hid (kp7.box BO6.out.1 BO6.out.2)
  have SV7 := Lib.hid (SV6.out.kp kp7)
  have LO7 := Lib.hid ky7.lo
  have OC := Lib.hid (ky_open ky7 N0.out N7.out (TT.out _ F7.out))
  rw [show ((12 : Nat) : Int) = 12 from rfl] at OC
  unfold vS at OC
  clear kp7 ky7 CC BO6 SV6
  go_wp2_with fail
  (with_reducible refine OC.out.mono ?_)
  rintro e w8 ⟨bk8, X8, t, ys, ya, yc, he, at8, sa8, kp8, lo8⟩
  have F8 : Hid (Fr (fun c _ => c < n) w1 w8) := F7.out.trans (kp8.low LO7.out)
  have BO8 := Lib.hid (kp8.box BO7.out.1 BO7.out.2)
  have SV8 := Lib.hid (SV7.out.kp kp8)
  have AT := Lib.hid at8
  have LO8 := Lib.hid lo8
  obtain ⟨yl, hyl⟩ : ∃ x, ys.length = x := ⟨_, rfl⟩
  have HYL := Lib.hid hyl
  rw [hyl] at he sa8
  obtain ⟨rtm, rvo, rba, rbt, res⟩ := t
  obtain ⟨otm, ovo, oba, obt, oes⟩ := sv
  dsimp only at he BO8
  subst he
  obtain ⟨V9, hV9⟩ : ∃ V, w8.alloc (.cells #[.int .u64 (rtm : Nat), .int .i64 rvo, .int .u64 (rba : Nat), .int .u64 (rbt : Nat), .slice ya yl yc] 68 (0, 0)) = V := ⟨_, rfl⟩
  have e9 : Fr (fun _ _ => True) w8 V9 := hV9 ▸ (Fr.refl _ _).alloc _
  have BT9 : Hid (V9.heap[w8.heap.size]? = some (.cells #[.int .u64 (rtm : Nat), .int .i64 rvo, .int .u64 (rba : Nat), .int .u64 (rbt : Nat), .slice ya yl yc] 68 (0, 0))) := hV9 ▸ heap_alloc_new w8 _
  have F9 : Hid (Fr (fun c _ => c < n) w1 V9) := F8.out.trans (e9.mono fun _ _ _ => trivial)
  have BO9 := Lib.hid (e9.keep _ _ BO8.out.1 trivial)
  have SV9 := Lib.hid (SV8.out.tt e9)
  have SR9 := Lib.hid (sa8.tt e9)
  have HV9 := Lib.hid hV9
  obtain ⟨gt, hgt⟩ : ∃ g, w8.heap.size = g := ⟨_, rfl⟩
  rw [hgt] at BT9
  have HGT := Lib.hid hgt
  have FX : Hid (∀ w, Fr (fun _ _ => True) V9 w → Fr (fun c _ => c < n) w1 w) := fun w f => F9.out.trans (f.mono fun _ _ _ => trivial)
  have CE : Hid (∀ W, Fr (fun _ _ => True) V9 W → (W.cell? ⟨gt, 0, none⟩ = some (.int .u64 (rtm : Nat)) ∧ W.cell? ⟨gt, 1, none⟩ = some (.int .i64 rvo) ∧ W.cell? ⟨gt, 2, none⟩ = some (.int .u64 (rba : Nat)) ∧ W.cell? ⟨gt, 3, none⟩ = some (.int .u64 (rbt : Nat)) ∧ W.cell? ⟨gt, 4, none⟩ = some (.slice ya yl yc)) ∧ (W.cell? ⟨go, 0, none⟩ = some (.int .u64 (otm : Nat)) ∧ W.cell? ⟨go, 1, none⟩ = some (.int .i64 ovo) ∧ W.cell? ⟨go, 2, none⟩ = some (.int .u64 (oba : Nat)) ∧ W.cell? ⟨go, 3, none⟩ = some (.int .u64 (obt : Nat)) ∧ W.cell? ⟨go, 4, none⟩ = some (.slice va vl vc)) ∧ W.cell? ⟨gb, 0, none⟩ = some (.int .u64 (tm : Nat)) ∧ W.cell? ⟨gb, 1, none⟩ = some (.int .i64 vo) ∧ W.cell? ⟨gb, 2, none⟩ = some (.int .u64 (ba : Nat)) ∧ W.cell? ⟨gb, 3, none⟩ = some (.int .u64 (bt : Nat)) ∧ W.cell? ⟨gb, 4, none⟩ = some (.slice sa xl sc)) := fun W f => by
    have t := f.keep _ _ BT9.out trivial
    have u := f.keep _ _ BO9.out trivial
    exact ⟨⟨cell_mk t rfl, cell_mk t rfl, cell_mk t rfl, cell_mk t rfl, cell_mk t rfl⟩, ⟨cell_mk u rfl, cell_mk u rfl, cell_mk u rfl, cell_mk u rfl, cell_mk u rfl⟩, BX.out _ (FX.out _ f)⟩
  have FIN : Hid (∀ w, Fr (fun _ _ => True) V9 w → Fr (fun _ _ => True) W w) := fun w f => WR.out _ (FX.out _ f)
  have U9 : Hid (Fr (fun _ _ => True) V9 V9.drew) := (Fr.refl _ _).drew
  have R9 : Hid (Fr (fun _ _ => True) V9 V9) := Fr.refl _ _
  have SM := Lib.hid (AT.out.small RG.out.1 RG.out.2.2.1 HSL.out)
  have TKE := Lib.hid TK.out.es
  have DC : Hid (∀ w, Calls Tryd.prog 37 #[.agg #[.int .u64 (otm : Nat), .int .i64 ovo, .int .u64 (oba : Nat), .int .u64 (obt : Nat), .slice va vl vc]] w fun e w' => e = .returned (.agg #[.int .u64 (otm : Nat), .int .i64 ovo, .int .u64 (oba : Nat), .int .u64 (obt : Nat), .slice va vl vc]) ∧ Fr (fun _ _ => True) w w') := fun w => doc_calls w ⟨otm, ovo, oba, obt, oes⟩ va vl vc
  have hfd : ∀ w : World, (Instr.field 77 (.agg #[.int .u64 (otm : Nat), .int .i64 ovo, .int .u64 (oba : Nat), .int .u64 (obt : Nat), .slice va vl vc]) 2).run Tryd.prog w = .ok (.agg #[.int .u64 (oba : Nat), .int .u64 (obt : Nat), .slice va vl vc]) w := fun _ => by kernel_rfl
  have YD : Hid (∀ w, Fr (fun _ _ => True) V9 w → ∀ x ∈ ys, BytesAt (Yk X8 n 5) w (.slice x.a x.d.length x.c) x.d ∧ x.d.length ≤ 140737488355328) := fun w f x hx => ⟨(SR9.out.tt f).dat x hx, by
    have h3 := SR9.out.es
    dsimp only at h3
    have h2 : x.en ∈ res := by rw [h3]; exact List.mem_map_of_mem hx
    have h4 : x.d.length ≤ 24 := SM.out.2.2 _ h2
    omega⟩
  have YL : Hid (yl ≤ 12) := by
    have h3 := SR9.out.len
    have h4 := SM.out.2.1
    have h5 := HYL.out
    dsimp only at h3 h4
    show _ ≤ _
    omega
  have LC : Hid (c = 1 ∨ rba ≠ ba → ∀ w, Fr (fun _ _ => True) V9 w → Calls Tryd.prog 41 #[.int .u64 (rba : Nat), .int .u64 (rbt : Nat), .slice ya yl yc, .agg #[.int .u64 (oba : Nat), .int .u64 (obt : Nat), .slice va vl vc]] w fun e w' => e = .returned (.bool true) ∧ Fr (fun _ _ => True) w w') := fun hc w f => by
    obtain ⟨w1, w2, w3, _⟩ := AT.out.was TK.out hc
    dsimp only at w1 w2 w3
    have r := SR9.out.tt f
    have v := SV9.out.tt f
    have k := lsame_calls w rba rbt oba obt (.slice ya yl yc) va vl vc ys sx r.rows v.rows (YD.out w f) v.dat (by have := YL.out; have := HYL.out; omega)
    have e1 : ys.map EV.en = sx.map EV.en := by rw [← r.es, ← v.es]; exact w3
    rw [e1, decide_eq_true rfl, decide_eq_true w1, decide_eq_true w2] at k
    exact k
  clear OC sa8 kp8 lo8 at8 hyl hV9 e9 hgt BO7 BO8 SV7 SV8
  go_upto_region 10 with fail
  rw [HV9.out]
  rw [HGT.out]
  clear HV9 HGT
  by_cases c1 : c = 1
  · as_aux_lemma =>
    have LCC := Lib.hid (LC.out (.inl c1))
    have d1 : (c == 1) = true := by simp [c1]
    clear c1
    go_upto_region 11 with fail
    go_region_held3 (fun W => (W.cell? ⟨gt, 0, none⟩ = some (.int .u64 (rtm : Nat)) ∧ W.cell? ⟨gt, 1, none⟩ = some (.int .i64 rvo) ∧ W.cell? ⟨gt, 2, none⟩ = some (.int .u64 (rba : Nat)) ∧ W.cell? ⟨gt, 3, none⟩ = some (.int .u64 (rbt : Nat)) ∧ W.cell? ⟨gt, 4, none⟩ = some (.slice ya yl yc)) ∧ (W.cell? ⟨go, 0, none⟩ = some (.int .u64 (otm : Nat)) ∧ W.cell? ⟨go, 1, none⟩ = some (.int .i64 ovo) ∧ W.cell? ⟨go, 2, none⟩ = some (.int .u64 (oba : Nat)) ∧ W.cell? ⟨go, 3, none⟩ = some (.int .u64 (obt : Nat)) ∧ W.cell? ⟨go, 4, none⟩ = some (.slice va vl vc)) ∧ W.cell? ⟨gb, 0, none⟩ = some (.int .u64 (tm : Nat)) ∧ W.cell? ⟨gb, 1, none⟩ = some (.int .i64 vo) ∧ W.cell? ⟨gb, 2, none⟩ = some (.int .u64 (ba : Nat)) ∧ W.cell? ⟨gb, 3, none⟩ = some (.int .u64 (bt : Nat)) ∧ W.cell? ⟨gb, 4, none⟩ = some (.slice sa xl sc))
      (first | exact CE.out _ U9.out | exact CE.out _ F10.out | exact CE.out _ F11.out)
      (first
        | (go_at_call 37; (with_reducible refine (DC.out _).mono ?_); rintro e w10 ⟨rfl, f10⟩; have F10 := Lib.hid ((U9.out).trans f10); clear f10)
        | (go_at_call 41; go_must ((with_reducible refine (LCC.out _ F10.out).mono ?_); rintro e w11 ⟨rfl, f11⟩; have F11 := Lib.hid (F10.out.trans f11); clear f11)))
    all_goals
      go_wp2
      go_ret
      exact ⟨rfl, FIN.out _ F11.out⟩
  · have d1 : (c == 1) = false := by simp [c1]
    have HC1 := Lib.hid c1
    have HB : Hid (s0.base ≤ ba ∧ ba < 1152921504606846976) := by
      rcases HCB.out with h | ⟨h, h'⟩
      · exact absurd h c1
      · exact ⟨h, (Sta.right_bad h').2.1⟩
    clear c1
    obtain ⟨lt, hlt⟩ : ∃ x, lastTE rbt ys = x := ⟨_, rfl⟩
    have TLC : Hid (∀ w, Fr (fun _ _ => True) V9 w → Calls Tryd.prog 42 #[.agg #[.int .u64 (rba : Nat), .int .u64 (rbt : Nat), .slice ya yl yc]] w fun e w' => e = .returned (.int .u64 (lt : Nat)) ∧ Fr (fun _ _ => True) w w') := fun w f => by
      have k := tlastT_calls w rba rbt ya yl yc ys (SR9.out.tt f).rows HYL.out (by have h1 : rba < 1152921504606846976 := SM.out.1; have := YL.out; omega)
      rw [hlt] at k
      exact k
    have HTM : Hid (rtm = max otm lt ∨ rtm = max tm lt) := by
      have h1 := AT.out.term TK.out
      have h2 := lastTE_eq ⟨rtm, rvo, rba, rbt, res⟩ ys SR9.out.es
      dsimp only at h1 h2
      rw [← h2, hlt] at h1
      exact h1
    clear hlt
    go_upto_region 13 with fail
    go_cut [104] (fun v wx => v = .bool false ∧ Hid (Fr (fun _ _ => True) V9 wx))
    case first =>
      by_cases hA : rtm = max otm lt
      · as_aux_lemma =>
        have hm1 : ((rtm : Int) != (if otm < lt then (lt : Int) else (otm : Int))) = false := by
          have : (if otm < lt then (lt : Int) else (otm : Int)) = (rtm : Int) := by split <;> omega
          rw [this]; simp
        clear hA
        refine wp_region_held_drew (S := fun W => (W.cell? ⟨gt, 0, none⟩ = some (.int .u64 (rtm : Nat)) ∧ W.cell? ⟨gt, 1, none⟩ = some (.int .i64 rvo) ∧ W.cell? ⟨gt, 2, none⟩ = some (.int .u64 (rba : Nat)) ∧ W.cell? ⟨gt, 3, none⟩ = some (.int .u64 (rbt : Nat)) ∧ W.cell? ⟨gt, 4, none⟩ = some (.slice ya yl yc)) ∧ (W.cell? ⟨go, 0, none⟩ = some (.int .u64 (otm : Nat)) ∧ W.cell? ⟨go, 1, none⟩ = some (.int .i64 ovo) ∧ W.cell? ⟨go, 2, none⟩ = some (.int .u64 (oba : Nat)) ∧ W.cell? ⟨go, 3, none⟩ = some (.int .u64 (obt : Nat)) ∧ W.cell? ⟨go, 4, none⟩ = some (.slice va vl vc)) ∧ W.cell? ⟨gb, 0, none⟩ = some (.int .u64 (tm : Nat)) ∧ W.cell? ⟨gb, 1, none⟩ = some (.int .i64 vo) ∧ W.cell? ⟨gb, 2, none⟩ = some (.int .u64 (ba : Nat)) ∧ W.cell? ⟨gb, 3, none⟩ = some (.int .u64 (bt : Nat)) ∧ W.cell? ⟨gb, 4, none⟩ = some (.slice sa xl sc)) (by kernel_rfl) (CE.out _ U9.out) (fun hHeld => ?_)
        refine wpAnyH_take (i := 0) (v := ?vA0) rfl (by kernel_rfl) (by kernel_rfl) (by kernel_rfl) (fun _ _ _ h => h) (Or.inl ⟨by rfl, ?hyA0⟩) hHeld ?restA0
        case hyA0 => (intro w hSw; (try dsimp only at hSw); (try simp only [List.getElem_toArray, List.getElem_cons_zero, List.getElem_cons_succ]); go_simp; try with_reducible rfl)
        try simp only [List.getElem_toArray, List.getElem_cons_zero, List.getElem_cons_succ, Act.put, List.setIfInBounds_toArray, List.set_cons_zero, List.set_cons_succ]
        refine wpAnyH_take (i := 1) (v := ?vA1) rfl (by kernel_rfl) (by kernel_rfl) (by kernel_rfl) (fun _ _ _ h => h) (Or.inl ⟨by rfl, ?hyA1⟩) hHeld ?restA1
        case hyA1 => (intro w hSw; (try dsimp only at hSw); (try simp only [List.getElem_toArray, List.getElem_cons_zero, List.getElem_cons_succ]); go_simp; try with_reducible rfl)
        try simp only [List.getElem_toArray, List.getElem_cons_zero, List.getElem_cons_succ, Act.put, List.setIfInBounds_toArray, List.set_cons_zero, List.set_cons_succ]
        refine wpAnyH_take (i := 2) (v := ?vA2) rfl (by kernel_rfl) (by kernel_rfl) (by kernel_rfl) (fun _ _ _ h => h) (Or.inl ⟨by rfl, ?hyA2⟩) hHeld ?restA2
        case hyA2 => (intro w hSw; (try dsimp only at hSw); (try simp only [List.getElem_toArray, List.getElem_cons_zero, List.getElem_cons_succ]); go_simp; try with_reducible rfl)
        try simp only [List.getElem_toArray, List.getElem_cons_zero, List.getElem_cons_succ, Act.put, List.setIfInBounds_toArray, List.set_cons_zero, List.set_cons_succ]
        refine wpAnyH_take (i := 3) (v := ?vA3) rfl (by kernel_rfl) (by kernel_rfl) (by kernel_rfl) (fun _ _ _ h => h) (Or.inl ⟨by rfl, ?hyA3⟩) hHeld ?restA3
        case hyA3 => (intro w hSw; (try dsimp only at hSw); (try simp only [List.getElem_toArray, List.getElem_cons_zero, List.getElem_cons_succ]); go_simp; try with_reducible rfl)
        try simp only [List.getElem_toArray, List.getElem_cons_zero, List.getElem_cons_succ, Act.put, List.setIfInBounds_toArray, List.set_cons_zero, List.set_cons_succ]
        refine wpAnyH_take (i := 4) (v := ?vA4) rfl (by kernel_rfl) (by kernel_rfl) (by kernel_rfl) (fun _ _ _ h => h) (Or.inl ⟨by rfl, ?hyA4⟩) hHeld ?restA4
        case hyA4 => (intro w hSw; (try dsimp only at hSw); (try simp only [List.getElem_toArray, List.getElem_cons_zero, List.getElem_cons_succ]); go_simp; try with_reducible rfl)
        try simp only [List.getElem_toArray, List.getElem_cons_zero, List.getElem_cons_succ, Act.put, List.setIfInBounds_toArray, List.set_cons_zero, List.set_cons_succ]
        refine wpAnyH_take (i := 5) (v := ?vA5) rfl (by kernel_rfl) (by kernel_rfl) (by kernel_rfl) (fun _ _ _ h => h) (Or.inl ⟨by rfl, ?hyA5⟩) hHeld ?restA5
        case hyA5 => (intro w hSw; (try dsimp only at hSw); (try simp only [List.getElem_toArray, List.getElem_cons_zero, List.getElem_cons_succ]); go_simp; try with_reducible rfl)
        try simp only [List.getElem_toArray, List.getElem_cons_zero, List.getElem_cons_succ, Act.put, List.setIfInBounds_toArray, List.set_cons_zero, List.set_cons_succ]
        refine wpAnyH_take (i := 6) (v := ?vA6) rfl (by kernel_rfl) (by kernel_rfl) (by kernel_rfl) (fun _ _ _ h => h) (Or.inl ⟨by rfl, ?hyA6⟩) hHeld ?restA6
        case hyA6 => (intro w hSw; (try dsimp only at hSw); (try simp only [List.getElem_toArray, List.getElem_cons_zero, List.getElem_cons_succ]); go_simp; try with_reducible rfl)
        try simp only [List.getElem_toArray, List.getElem_cons_zero, List.getElem_cons_succ, Act.put, List.setIfInBounds_toArray, List.set_cons_zero, List.set_cons_succ]
        refine wpAnyH_take (i := 7) (v := ?vA7) rfl (by kernel_rfl) (by kernel_rfl) (by kernel_rfl) (fun _ _ _ h => h) (Or.inl ⟨by rfl, ?hyA7⟩) hHeld ?restA7
        case hyA7 => (intro w hSw; (try dsimp only at hSw); (try simp only [List.getElem_toArray, List.getElem_cons_zero, List.getElem_cons_succ]); go_simp; try with_reducible rfl)
        try simp only [List.getElem_toArray, List.getElem_cons_zero, List.getElem_cons_succ, Act.put, List.setIfInBounds_toArray, List.set_cons_zero, List.set_cons_succ]
        refine wpAnyH_take (i := 8) (v := ?vA8) rfl (by kernel_rfl) (by kernel_rfl) (by kernel_rfl) (fun _ _ _ h => h) (Or.inl ⟨by rfl, ?hyA8⟩) hHeld ?restA8
        case hyA8 => (intro w hSw; (try dsimp only at hSw); (try simp only [List.getElem_toArray, List.getElem_cons_zero, List.getElem_cons_succ]); go_simp; try with_reducible rfl)
        try simp only [List.getElem_toArray, List.getElem_cons_zero, List.getElem_cons_succ, Act.put, List.setIfInBounds_toArray, List.set_cons_zero, List.set_cons_succ]
        refine wpAnyH_ready (rs := [9]) (by kernel_rfl) (by simp) ?_
        refine AllReadyH.cons rfl (fun K hK => ?_) AllReadyH.nil
        (try simp only [List.getElem_toArray, List.getElem_cons_zero, List.getElem_cons_succ])
        go_simp
        (with_reducible refine (TLC.out _ U9.out).mono ?_)
        rintro e w11 ⟨rfl, f11⟩
        have F11 := Lib.hid (U9.out.trans f11)
        clear f11
        (try simp only [Act.put, List.setIfInBounds_toArray, List.set_cons_zero, List.set_cons_succ])
        refine hK.out _ _ (CE.out _ F11.out) (fun hHeld => ?_)
        clear hK K
        refine wpAnyH_take (i := 10) (v := ?vA10) rfl (by kernel_rfl) (by kernel_rfl) (by kernel_rfl) (fun _ _ _ h => h) (Or.inl ⟨by rfl, ?hyA10⟩) hHeld ?restA10
        case hyA10 => (intro w hSw; (try dsimp only at hSw); (try simp only [List.getElem_toArray, List.getElem_cons_zero, List.getElem_cons_succ]); go_simp; try with_reducible rfl)
        try simp only [List.getElem_toArray, List.getElem_cons_zero, List.getElem_cons_succ, Act.put, List.setIfInBounds_toArray, List.set_cons_zero, List.set_cons_succ]
        refine wpAnyH_take (i := 11) (v := ?vA11) rfl (by kernel_rfl) (by kernel_rfl) (by kernel_rfl) (fun _ _ _ h => h) (Or.inl ⟨by rfl, ?hyA11⟩) hHeld ?restA11
        case hyA11 => (intro w hSw; (try dsimp only at hSw); (try simp only [List.getElem_toArray, List.getElem_cons_zero, List.getElem_cons_succ]); go_simp; try with_reducible rfl)
        try simp only [List.getElem_toArray, List.getElem_cons_zero, List.getElem_cons_succ, Act.put, List.setIfInBounds_toArray, List.set_cons_zero, List.set_cons_succ]
        refine wpAnyH_take (i := 12) (v := ?vA12) rfl (by kernel_rfl) (by kernel_rfl) (by kernel_rfl) (fun _ _ _ h => h) (Or.inl ⟨by rfl, ?hyA12⟩) hHeld ?restA12
        case hyA12 => (intro w hSw; (try dsimp only at hSw); (try simp only [List.getElem_toArray, List.getElem_cons_zero, List.getElem_cons_succ]); go_simp; try with_reducible rfl)
        try simp only [List.getElem_toArray, List.getElem_cons_zero, List.getElem_cons_succ, Act.put, List.setIfInBounds_toArray, List.set_cons_zero, List.set_cons_succ]
        refine wpAnyH_take (i := 13) (v := undef) rfl (by kernel_rfl) (by kernel_rfl) (by kernel_rfl) (fun _ _ _ h => h) (Or.inr ⟨by rfl, rfl⟩) hHeld ?restA13
        try simp only [List.getElem_toArray, List.getElem_cons_zero, List.getElem_cons_succ, Act.put, List.setIfInBounds_toArray, List.set_cons_zero, List.set_cons_succ]
        refine wpAnyH_take (i := 14) (v := undef) rfl (by kernel_rfl) (by kernel_rfl) (by kernel_rfl) (fun _ _ _ h => h) (Or.inr ⟨by rfl, rfl⟩) hHeld ?restA14
        try simp only [List.getElem_toArray, List.getElem_cons_zero, List.getElem_cons_succ, Act.put, List.setIfInBounds_toArray, List.set_cons_zero, List.set_cons_succ]
        refine wpAnyH_take (i := 15) (v := undef) rfl (by kernel_rfl) (by kernel_rfl) (by kernel_rfl) (fun _ _ _ h => h) (Or.inr ⟨by rfl, rfl⟩) hHeld ?restA15
        try simp only [List.getElem_toArray, List.getElem_cons_zero, List.getElem_cons_succ, Act.put, List.setIfInBounds_toArray, List.set_cons_zero, List.set_cons_succ]
        refine wpAnyH_take (i := 16) (v := undef) rfl (by kernel_rfl) (by kernel_rfl) (by kernel_rfl) (fun _ _ _ h => h) (Or.inr ⟨by rfl, rfl⟩) hHeld ?restA16
        try simp only [List.getElem_toArray, List.getElem_cons_zero, List.getElem_cons_succ, Act.put, List.setIfInBounds_toArray, List.set_cons_zero, List.set_cons_succ]
        refine wpAnyH_take (i := 17) (v := undef) rfl (by kernel_rfl) (by kernel_rfl) (by kernel_rfl) (fun _ _ _ h => h) (Or.inr ⟨by rfl, rfl⟩) hHeld ?restA17
        try simp only [List.getElem_toArray, List.getElem_cons_zero, List.getElem_cons_succ, Act.put, List.setIfInBounds_toArray, List.set_cons_zero, List.set_cons_succ]
        refine wpAnyH_take (i := 18) (v := undef) rfl (by kernel_rfl) (by kernel_rfl) (by kernel_rfl) (fun _ _ _ h => h) (Or.inr ⟨by rfl, rfl⟩) hHeld ?restA18
        try simp only [List.getElem_toArray, List.getElem_cons_zero, List.getElem_cons_succ, Act.put, List.setIfInBounds_toArray, List.set_cons_zero, List.set_cons_succ]
        refine wpAnyH_take (i := 19) (v := undef) rfl (by kernel_rfl) (by kernel_rfl) (by kernel_rfl) (fun _ _ _ h => h) (Or.inr ⟨by rfl, rfl⟩) hHeld ?restA19
        try simp only [List.getElem_toArray, List.getElem_cons_zero, List.getElem_cons_succ, Act.put, List.setIfInBounds_toArray, List.set_cons_zero, List.set_cons_succ]
        refine wpAnyH_take (i := 20) (v := undef) rfl (by kernel_rfl) (by kernel_rfl) (by kernel_rfl) (fun _ _ _ h => h) (Or.inr ⟨by rfl, rfl⟩) hHeld ?restA20
        try simp only [List.getElem_toArray, List.getElem_cons_zero, List.getElem_cons_succ, Act.put, List.setIfInBounds_toArray, List.set_cons_zero, List.set_cons_succ]
        refine wpAnyH_take (i := 21) (v := undef) rfl (by kernel_rfl) (by kernel_rfl) (by kernel_rfl) (fun _ _ _ h => h) (Or.inr ⟨by rfl, rfl⟩) hHeld ?restA21
        try simp only [List.getElem_toArray, List.getElem_cons_zero, List.getElem_cons_succ, Act.put, List.setIfInBounds_toArray, List.set_cons_zero, List.set_cons_succ]
        refine wpAnyH_take (i := 22) (v := ?vA22) rfl (by kernel_rfl) (by kernel_rfl) (by kernel_rfl) (fun _ _ _ h => h) (Or.inl ⟨by rfl, ?hyA22⟩) hHeld ?restA22
        case hyA22 => (intro w hSw; (try dsimp only at hSw); (try simp only [List.getElem_toArray, List.getElem_cons_zero, List.getElem_cons_succ]); go_simp; try with_reducible rfl)
        try simp only [List.getElem_toArray, List.getElem_cons_zero, List.getElem_cons_succ, Act.put, List.setIfInBounds_toArray, List.set_cons_zero, List.set_cons_succ]
        refine wpAnyH_take (i := 23) (v := ?vA23) rfl (by kernel_rfl) (by kernel_rfl) (by kernel_rfl) (fun _ _ _ h => h) (Or.inl ⟨by rfl, ?hyA23⟩) hHeld ?restA23
        case hyA23 => (intro w hSw; (try dsimp only at hSw); (try simp only [List.getElem_toArray, List.getElem_cons_zero, List.getElem_cons_succ]); go_simp; try with_reducible rfl)
        try simp only [List.getElem_toArray, List.getElem_cons_zero, List.getElem_cons_succ, Act.put, List.setIfInBounds_toArray, List.set_cons_zero, List.set_cons_succ]
        refine wpAnyH_done (by kernel_rfl) ?_ _
        go_wp2_with fail
        all_goals
          go_meet
          exact ⟨rfl, F11⟩

      · as_aux_lemma =>
        have hm1 : ((rtm : Int) != (if otm < lt then (lt : Int) else (otm : Int))) = true := by
          have : (if otm < lt then (lt : Int) else (otm : Int)) ≠ (rtm : Int) := by split <;> omega
          simpa using fun e => this e.symm
        have hm2 : ((rtm : Int) != (if tm < lt then (lt : Int) else (tm : Int))) = false := by
          have hB : rtm = max tm lt := by rcases HTM.out with h | h; exact absurd h hA; exact h
          have : (if tm < lt then (lt : Int) else (tm : Int)) = (rtm : Int) := by split <;> omega
          rw [this]; simp
        clear hA
        refine wp_region_held_drew (S := fun W => (W.cell? ⟨gt, 0, none⟩ = some (.int .u64 (rtm : Nat)) ∧ W.cell? ⟨gt, 1, none⟩ = some (.int .i64 rvo) ∧ W.cell? ⟨gt, 2, none⟩ = some (.int .u64 (rba : Nat)) ∧ W.cell? ⟨gt, 3, none⟩ = some (.int .u64 (rbt : Nat)) ∧ W.cell? ⟨gt, 4, none⟩ = some (.slice ya yl yc)) ∧ (W.cell? ⟨go, 0, none⟩ = some (.int .u64 (otm : Nat)) ∧ W.cell? ⟨go, 1, none⟩ = some (.int .i64 ovo) ∧ W.cell? ⟨go, 2, none⟩ = some (.int .u64 (oba : Nat)) ∧ W.cell? ⟨go, 3, none⟩ = some (.int .u64 (obt : Nat)) ∧ W.cell? ⟨go, 4, none⟩ = some (.slice va vl vc)) ∧ W.cell? ⟨gb, 0, none⟩ = some (.int .u64 (tm : Nat)) ∧ W.cell? ⟨gb, 1, none⟩ = some (.int .i64 vo) ∧ W.cell? ⟨gb, 2, none⟩ = some (.int .u64 (ba : Nat)) ∧ W.cell? ⟨gb, 3, none⟩ = some (.int .u64 (bt : Nat)) ∧ W.cell? ⟨gb, 4, none⟩ = some (.slice sa xl sc)) (by kernel_rfl) (CE.out _ U9.out) (fun hHeld => ?_)
        refine wpAnyH_take (i := 0) (v := ?vC0) rfl (by kernel_rfl) (by kernel_rfl) (by kernel_rfl) (fun _ _ _ h => h) (Or.inl ⟨by rfl, ?hyC0⟩) hHeld ?restC0
        case hyC0 => (intro w hSw; (try dsimp only at hSw); (try simp only [List.getElem_toArray, List.getElem_cons_zero, List.getElem_cons_succ]); go_simp; try with_reducible rfl)
        try simp only [List.getElem_toArray, List.getElem_cons_zero, List.getElem_cons_succ, Act.put, List.setIfInBounds_toArray, List.set_cons_zero, List.set_cons_succ]
        refine wpAnyH_take (i := 1) (v := ?vC1) rfl (by kernel_rfl) (by kernel_rfl) (by kernel_rfl) (fun _ _ _ h => h) (Or.inl ⟨by rfl, ?hyC1⟩) hHeld ?restC1
        case hyC1 => (intro w hSw; (try dsimp only at hSw); (try simp only [List.getElem_toArray, List.getElem_cons_zero, List.getElem_cons_succ]); go_simp; try with_reducible rfl)
        try simp only [List.getElem_toArray, List.getElem_cons_zero, List.getElem_cons_succ, Act.put, List.setIfInBounds_toArray, List.set_cons_zero, List.set_cons_succ]
        refine wpAnyH_take (i := 2) (v := ?vC2) rfl (by kernel_rfl) (by kernel_rfl) (by kernel_rfl) (fun _ _ _ h => h) (Or.inl ⟨by rfl, ?hyC2⟩) hHeld ?restC2
        case hyC2 => (intro w hSw; (try dsimp only at hSw); (try simp only [List.getElem_toArray, List.getElem_cons_zero, List.getElem_cons_succ]); go_simp; try with_reducible rfl)
        try simp only [List.getElem_toArray, List.getElem_cons_zero, List.getElem_cons_succ, Act.put, List.setIfInBounds_toArray, List.set_cons_zero, List.set_cons_succ]
        refine wpAnyH_take (i := 3) (v := ?vC3) rfl (by kernel_rfl) (by kernel_rfl) (by kernel_rfl) (fun _ _ _ h => h) (Or.inl ⟨by rfl, ?hyC3⟩) hHeld ?restC3
        case hyC3 => (intro w hSw; (try dsimp only at hSw); (try simp only [List.getElem_toArray, List.getElem_cons_zero, List.getElem_cons_succ]); go_simp; try with_reducible rfl)
        try simp only [List.getElem_toArray, List.getElem_cons_zero, List.getElem_cons_succ, Act.put, List.setIfInBounds_toArray, List.set_cons_zero, List.set_cons_succ]
        refine wpAnyH_take (i := 4) (v := ?vC4) rfl (by kernel_rfl) (by kernel_rfl) (by kernel_rfl) (fun _ _ _ h => h) (Or.inl ⟨by rfl, ?hyC4⟩) hHeld ?restC4
        case hyC4 => (intro w hSw; (try dsimp only at hSw); (try simp only [List.getElem_toArray, List.getElem_cons_zero, List.getElem_cons_succ]); go_simp; try with_reducible rfl)
        try simp only [List.getElem_toArray, List.getElem_cons_zero, List.getElem_cons_succ, Act.put, List.setIfInBounds_toArray, List.set_cons_zero, List.set_cons_succ]
        refine wpAnyH_take (i := 5) (v := ?vC5) rfl (by kernel_rfl) (by kernel_rfl) (by kernel_rfl) (fun _ _ _ h => h) (Or.inl ⟨by rfl, ?hyC5⟩) hHeld ?restC5
        case hyC5 => (intro w hSw; (try dsimp only at hSw); (try simp only [List.getElem_toArray, List.getElem_cons_zero, List.getElem_cons_succ]); go_simp; try with_reducible rfl)
        try simp only [List.getElem_toArray, List.getElem_cons_zero, List.getElem_cons_succ, Act.put, List.setIfInBounds_toArray, List.set_cons_zero, List.set_cons_succ]
        refine wpAnyH_take (i := 6) (v := ?vC6) rfl (by kernel_rfl) (by kernel_rfl) (by kernel_rfl) (fun _ _ _ h => h) (Or.inl ⟨by rfl, ?hyC6⟩) hHeld ?restC6
        case hyC6 => (intro w hSw; (try dsimp only at hSw); (try simp only [List.getElem_toArray, List.getElem_cons_zero, List.getElem_cons_succ]); go_simp; try with_reducible rfl)
        try simp only [List.getElem_toArray, List.getElem_cons_zero, List.getElem_cons_succ, Act.put, List.setIfInBounds_toArray, List.set_cons_zero, List.set_cons_succ]
        refine wpAnyH_take (i := 7) (v := ?vC7) rfl (by kernel_rfl) (by kernel_rfl) (by kernel_rfl) (fun _ _ _ h => h) (Or.inl ⟨by rfl, ?hyC7⟩) hHeld ?restC7
        case hyC7 => (intro w hSw; (try dsimp only at hSw); (try simp only [List.getElem_toArray, List.getElem_cons_zero, List.getElem_cons_succ]); go_simp; try with_reducible rfl)
        try simp only [List.getElem_toArray, List.getElem_cons_zero, List.getElem_cons_succ, Act.put, List.setIfInBounds_toArray, List.set_cons_zero, List.set_cons_succ]
        refine wpAnyH_take (i := 8) (v := ?vC8) rfl (by kernel_rfl) (by kernel_rfl) (by kernel_rfl) (fun _ _ _ h => h) (Or.inl ⟨by rfl, ?hyC8⟩) hHeld ?restC8
        case hyC8 => (intro w hSw; (try dsimp only at hSw); (try simp only [List.getElem_toArray, List.getElem_cons_zero, List.getElem_cons_succ]); go_simp; try with_reducible rfl)
        try simp only [List.getElem_toArray, List.getElem_cons_zero, List.getElem_cons_succ, Act.put, List.setIfInBounds_toArray, List.set_cons_zero, List.set_cons_succ]
        refine wpAnyH_ready (rs := [9]) (by kernel_rfl) (by simp) ?_
        refine AllReadyH.cons rfl (fun K hK => ?_) AllReadyH.nil
        (try simp only [List.getElem_toArray, List.getElem_cons_zero, List.getElem_cons_succ])
        go_simp
        (with_reducible refine (TLC.out _ U9.out).mono ?_)
        rintro e w11 ⟨rfl, f11⟩
        have F11 := Lib.hid (U9.out.trans f11)
        clear f11
        (try simp only [Act.put, List.setIfInBounds_toArray, List.set_cons_zero, List.set_cons_succ])
        refine hK.out _ _ (CE.out _ F11.out) (fun hHeld => ?_)
        clear hK K
        refine wpAnyH_take (i := 10) (v := ?vC10) rfl (by kernel_rfl) (by kernel_rfl) (by kernel_rfl) (fun _ _ _ h => h) (Or.inl ⟨by rfl, ?hyC10⟩) hHeld ?restC10
        case hyC10 => (intro w hSw; (try dsimp only at hSw); (try simp only [List.getElem_toArray, List.getElem_cons_zero, List.getElem_cons_succ]); go_simp; try with_reducible rfl)
        try simp only [List.getElem_toArray, List.getElem_cons_zero, List.getElem_cons_succ, Act.put, List.setIfInBounds_toArray, List.set_cons_zero, List.set_cons_succ]
        refine wpAnyH_take (i := 11) (v := ?vC11) rfl (by kernel_rfl) (by kernel_rfl) (by kernel_rfl) (fun _ _ _ h => h) (Or.inl ⟨by rfl, ?hyC11⟩) hHeld ?restC11
        case hyC11 => (intro w hSw; (try dsimp only at hSw); (try simp only [List.getElem_toArray, List.getElem_cons_zero, List.getElem_cons_succ]); go_simp; try with_reducible rfl)
        try simp only [List.getElem_toArray, List.getElem_cons_zero, List.getElem_cons_succ, Act.put, List.setIfInBounds_toArray, List.set_cons_zero, List.set_cons_succ]
        refine wpAnyH_take (i := 12) (v := ?vC12) rfl (by kernel_rfl) (by kernel_rfl) (by kernel_rfl) (fun _ _ _ h => h) (Or.inl ⟨by rfl, ?hyC12⟩) hHeld ?restC12
        case hyC12 => (intro w hSw; (try dsimp only at hSw); (try simp only [List.getElem_toArray, List.getElem_cons_zero, List.getElem_cons_succ]); go_simp; try with_reducible rfl)
        try simp only [List.getElem_toArray, List.getElem_cons_zero, List.getElem_cons_succ, Act.put, List.setIfInBounds_toArray, List.set_cons_zero, List.set_cons_succ]
        refine wpAnyH_take (i := 13) (v := ?vC13) rfl (by kernel_rfl) (by kernel_rfl) (by kernel_rfl) (fun _ _ _ h => h) (Or.inl ⟨by rfl, ?hyC13⟩) hHeld ?restC13
        case hyC13 => (intro w hSw; (try dsimp only at hSw); (try simp only [List.getElem_toArray, List.getElem_cons_zero, List.getElem_cons_succ]); go_simp; try with_reducible rfl)
        try simp only [List.getElem_toArray, List.getElem_cons_zero, List.getElem_cons_succ, Act.put, List.setIfInBounds_toArray, List.set_cons_zero, List.set_cons_succ]
        refine wpAnyH_take (i := 14) (v := ?vC14) rfl (by kernel_rfl) (by kernel_rfl) (by kernel_rfl) (fun _ _ _ h => h) (Or.inl ⟨by rfl, ?hyC14⟩) hHeld ?restC14
        case hyC14 => (intro w hSw; (try dsimp only at hSw); (try simp only [List.getElem_toArray, List.getElem_cons_zero, List.getElem_cons_succ]); go_simp; try with_reducible rfl)
        try simp only [List.getElem_toArray, List.getElem_cons_zero, List.getElem_cons_succ, Act.put, List.setIfInBounds_toArray, List.set_cons_zero, List.set_cons_succ]
        refine wpAnyH_take (i := 15) (v := ?vC15) rfl (by kernel_rfl) (by kernel_rfl) (by kernel_rfl) (fun _ _ _ h => h) (Or.inl ⟨by rfl, ?hyC15⟩) hHeld ?restC15
        case hyC15 => (intro w hSw; (try dsimp only at hSw); (try simp only [List.getElem_toArray, List.getElem_cons_zero, List.getElem_cons_succ]); go_simp; try with_reducible rfl)
        try simp only [List.getElem_toArray, List.getElem_cons_zero, List.getElem_cons_succ, Act.put, List.setIfInBounds_toArray, List.set_cons_zero, List.set_cons_succ]
        refine wpAnyH_take (i := 16) (v := ?vC16) rfl (by kernel_rfl) (by kernel_rfl) (by kernel_rfl) (fun _ _ _ h => h) (Or.inl ⟨by rfl, ?hyC16⟩) hHeld ?restC16
        case hyC16 => (intro w hSw; (try dsimp only at hSw); (try simp only [List.getElem_toArray, List.getElem_cons_zero, List.getElem_cons_succ]); go_simp; try with_reducible rfl)
        try simp only [List.getElem_toArray, List.getElem_cons_zero, List.getElem_cons_succ, Act.put, List.setIfInBounds_toArray, List.set_cons_zero, List.set_cons_succ]
        refine wpAnyH_take (i := 17) (v := ?vC17) rfl (by kernel_rfl) (by kernel_rfl) (by kernel_rfl) (fun _ _ _ h => h) (Or.inl ⟨by rfl, ?hyC17⟩) hHeld ?restC17
        case hyC17 => (intro w hSw; (try dsimp only at hSw); (try simp only [List.getElem_toArray, List.getElem_cons_zero, List.getElem_cons_succ]); go_simp; try with_reducible rfl)
        try simp only [List.getElem_toArray, List.getElem_cons_zero, List.getElem_cons_succ, Act.put, List.setIfInBounds_toArray, List.set_cons_zero, List.set_cons_succ]
        refine wpAnyH_take (i := 18) (v := ?vC18) rfl (by kernel_rfl) (by kernel_rfl) (by kernel_rfl) (fun _ _ _ h => h) (Or.inl ⟨by rfl, ?hyC18⟩) hHeld ?restC18
        case hyC18 => (intro w hSw; (try dsimp only at hSw); (try simp only [List.getElem_toArray, List.getElem_cons_zero, List.getElem_cons_succ]); go_simp; try with_reducible rfl)
        try simp only [List.getElem_toArray, List.getElem_cons_zero, List.getElem_cons_succ, Act.put, List.setIfInBounds_toArray, List.set_cons_zero, List.set_cons_succ]
        refine wpAnyH_ready (rs := [19]) (by kernel_rfl) (by simp) ?_
        refine AllReadyH.cons rfl (fun K hK => ?_) AllReadyH.nil
        (try simp only [List.getElem_toArray, List.getElem_cons_zero, List.getElem_cons_succ])
        go_simp
        (with_reducible refine (TLC.out _ F11.out).mono ?_)
        rintro e w12 ⟨rfl, f12⟩
        have F12 := Lib.hid (F11.out.trans f12)
        clear f12
        (try simp only [Act.put, List.setIfInBounds_toArray, List.set_cons_zero, List.set_cons_succ])
        refine hK.out _ _ (CE.out _ F12.out) (fun hHeld => ?_)
        clear hK K
        refine wpAnyH_take (i := 20) (v := ?vC20) rfl (by kernel_rfl) (by kernel_rfl) (by kernel_rfl) (fun _ _ _ h => h) (Or.inl ⟨by rfl, ?hyC20⟩) hHeld ?restC20
        case hyC20 => (intro w hSw; (try dsimp only at hSw); (try simp only [List.getElem_toArray, List.getElem_cons_zero, List.getElem_cons_succ]); go_simp; try with_reducible rfl)
        try simp only [List.getElem_toArray, List.getElem_cons_zero, List.getElem_cons_succ, Act.put, List.setIfInBounds_toArray, List.set_cons_zero, List.set_cons_succ]
        refine wpAnyH_take (i := 21) (v := ?vC21) rfl (by kernel_rfl) (by kernel_rfl) (by kernel_rfl) (fun _ _ _ h => h) (Or.inl ⟨by rfl, ?hyC21⟩) hHeld ?restC21
        case hyC21 => (intro w hSw; (try dsimp only at hSw); (try simp only [List.getElem_toArray, List.getElem_cons_zero, List.getElem_cons_succ]); go_simp; try with_reducible rfl)
        try simp only [List.getElem_toArray, List.getElem_cons_zero, List.getElem_cons_succ, Act.put, List.setIfInBounds_toArray, List.set_cons_zero, List.set_cons_succ]
        refine wpAnyH_take (i := 22) (v := ?vC22) rfl (by kernel_rfl) (by kernel_rfl) (by kernel_rfl) (fun _ _ _ h => h) (Or.inl ⟨by rfl, ?hyC22⟩) hHeld ?restC22
        case hyC22 => (intro w hSw; (try dsimp only at hSw); (try simp only [List.getElem_toArray, List.getElem_cons_zero, List.getElem_cons_succ]); go_simp; try with_reducible rfl)
        try simp only [List.getElem_toArray, List.getElem_cons_zero, List.getElem_cons_succ, Act.put, List.setIfInBounds_toArray, List.set_cons_zero, List.set_cons_succ]
        refine wpAnyH_take (i := 23) (v := ?vC23) rfl (by kernel_rfl) (by kernel_rfl) (by kernel_rfl) (fun _ _ _ h => h) (Or.inl ⟨by rfl, ?hyC23⟩) hHeld ?restC23
        case hyC23 => (intro w hSw; (try dsimp only at hSw); (try simp only [List.getElem_toArray, List.getElem_cons_zero, List.getElem_cons_succ]); go_simp; try with_reducible rfl)
        try simp only [List.getElem_toArray, List.getElem_cons_zero, List.getElem_cons_succ, Act.put, List.setIfInBounds_toArray, List.set_cons_zero, List.set_cons_succ]
        refine wpAnyH_done (by kernel_rfl) ?_ _
        go_wp2_with fail
        all_goals
          go_meet
          exact ⟨rfl, F12⟩

    case rest =>
      as_aux_lemma =>
      obtain ⟨rfl, HF13⟩ := hcut
      obtain ⟨wd, hwd⟩ : ∃ x, x = wc := ⟨_, rfl⟩
      subst hwd
      obtain ⟨⟨i0, i1, i2, i3, i4⟩, ⟨j0, j1, j2, j3, j4⟩, k0, k1, k2, k3, k4⟩ := CE.out wd HF13.out
      have VF := Lib.hid (AT.out.vote TK.out)
      dsimp only at VF
      go_upto_region 15 with fail
      go_cut [121] (fun v wx => v = .bool false ∧ wx = wd)
      case first =>
        by_cases v1 : rvo = ovo
        · have g1 : (rvo != ovo) = false := by simp [v1]
          clear v1
          go_wp2_with fail
          go_meet
          case rel => exact ⟨rfl, rfl⟩
        · have g1 : (rvo != ovo) = true := by simpa using v1
          by_cases v2 : rvo = vo
          · have g2 : (rvo != vo) = false := by simp [v2]
            clear v1 v2
            go_wp2_with fail
            go_meet
            case rel => exact ⟨rfl, rfl⟩
          · have g2 : (rvo != vo) = true := by simpa using v2
            have v3 : rvo = -1 := by
              rcases VF.out with h | h | h
              · exact absurd h v1
              · exact absurd h v2
              · exact h
            subst v3
            clear v1 v2
            go_wp2_with fail
            go_meet
            case rel => exact ⟨rfl, rfl⟩
      case rest =>
        obtain ⟨rfl, rfl⟩ := hcut
        by_cases bb : rba = ba
        · as_aux_lemma =>
          have g : ((rba : Int) != (ba : Int)) = false := by simp [bb]
          have EN := Lib.hid (AT.out.ends TK.out HC1.out bb)
          have hbI : oba ≤ ba := EN.out.1
          have SLC := Lib.hid (tslice_calls wc oba obt (ba + 1) 100 va vl vc sx (SV9.out.tt HF13.out).rows (by have h1 := SV9.out.len; have h2 := RG.out.2.2.1; have h3 := congrArg List.length TKE.out.1; dsimp only at h1 h3; omega) (by decide) (by decide) (by have h1 := SV9.out.len; have h2 := RG.out.2.2.1; have h3 := congrArg List.length TKE.out.1; have := HB.out.2; dsimp only at h1 h3; omega) (by have := HB.out.2; omega))
          have BH := Lib.hid (slice_behind (sv := ⟨otm, ovo, oba, obt, oes⟩) (s := ⟨tm, vo, ba, bt, es⟩) SV9.out.es hbI (by have h1 := SV9.out.len; have h2 := RG.out.2.2.1; have h3 := congrArg List.length TKE.out.1; dsimp only at h1 h3; omega))
          have SUB : Hid (∀ x ∈ (if oba < ba + 1 ∧ ba + 1 ≤ oba + sx.length then (sx.drop (ba + 1 - oba - 1)).take 100 else []), x ∈ sx) := fun x hx => by
            split at hx
            · exact List.mem_of_mem_drop (List.mem_of_mem_take hx)
            · cases hx
          dsimp only at BH
          generalize (if oba < ba + 1 ∧ ba + 1 ≤ oba + sx.length then (sx.drop (ba + 1 - oba - 1)).take 100 else []) = zz at SLC BH SUB
          have w1 : IntKind.u64.wrap ((ba : Int) + 1) = ((ba + 1 : Nat) : Int) := by rw [IntKind.wrap_u64]; have := HB.out.2; omega
          rw [show ((100 : Nat) : Int) = 100 from rfl] at SLC
          unfold vL at SLC
          rw [show ((ba + 1 : Nat) : Int) = (ba : Int) + 1 from rfl] at SLC w1
          clear bb hbI
          go_wp2_with fail
          (with_reducible refine SLC.out.mono ?_)
          rintro e w14 ⟨⟨a4, c4, rfl, r4⟩, f14⟩
          have R4 := Lib.hid r4
          have F14 : Hid (Fr (fun _ _ => True) V9 w14) := HF13.out.trans f14
          obtain ⟨al, hal⟩ : ∃ x, zz.length = x := ⟨_, rfl⟩
          rw [hal] at R4 ⊢
          have HAL := Lib.hid hal
          clear SLC r4 f14 hal i0 i1 i2 i3 i4 j0 j1 j2 j3 j4 k0 k1 k2 k3 k4
          obtain ⟨⟨i0, i1, i2, i3, i4⟩, ⟨j0, j1, j2, j3, j4⟩, k0, k1, k2, k3, k4⟩ := CE.out w14 F14.out
          go_wp2
          clear i0 i1 i2 i3 i4 j0 j1 j2 j3 j4 k0 k1 k2 k3 k4
          have hal12 : al ≤ 12 := by
            have h1 := congrArg List.length BH.out
            have h2 := HAL.out
            have h3 := RG.out.2.2.1
            have h4 := congrArg List.length TKE.out.1
            unfold behindS at h1
            rw [List.length_map, List.length_drop] at h1
            dsimp only at h1 h4
            omega
          have hac : al ≤ c4 := by obtain ⟨_, _, e, q⟩ := R4.out.form; cases e; rw [← HAL.out]; exact q
          have SX : Hid (∀ w, Fr (fun _ _ => True) V9 w → RowsAt (fun c _ => c < n) w (.slice sa xl sc) 3 encE xs ∧ (∀ x ∈ xs, BytesAt (fun c _ => c < n) w (.slice x.a x.d.length x.c) x.d) ∧ es = xs.map EV.en) := fun w f => by
            have h := S1.out w (FX.out w f)
            exact ⟨h.rows, h.dat, h.es⟩
          have hxc : xl ≤ sc := by obtain ⟨_, _, e, q⟩ := (SX.out w14 F14.out).1.form; cases e; have := HXL.out; omega
          have AD : Hid (∀ w, Fr (fun _ _ => True) w14 w → ∀ x ∈ zz, BytesAt (Yk X8 n 5) w (.slice x.a x.d.length x.c) x.d ∧ x.d.length ≤ 140737488355328) := fun w f x hx => ⟨(SV9.out.tt (F14.out.trans f)).dat x (SUB.out x hx), by
            have h3 := SV9.out.es
            dsimp only at h3
            have h2 : x.en ∈ oes := by rw [h3]; exact List.mem_map_of_mem (SUB.out x hx)
            have h4 := (Sta.right_bad RG.out.1).1 x.en (by rw [← TKE.out.1]; exact h2)
            unfold badE at h4
            simp only [Bool.or_eq_false_iff, decide_eq_false_iff_not] at h4
            have h5 : ¬ 24 < x.d.length := h4.2.2
            omega⟩
          have HXA : Hid (al = (zz.map EV.en).length ∧ xl = es.length) := ⟨by rw [List.length_map]; exact HAL.out.symm, by rw [(SX.out w14 F14.out).2.2, List.length_map]; exact HXL.out.symm⟩
          have BC1 : Hid (∀ w, Fr (fun _ _ => True) w14 w → Calls Tryd.prog 45 #[.slice ya yl yc, .slice a4 al c4] w fun e w' => e = .returned (.bool (decide (ys.length ≤ zz.length ∧ ys.map EV.en = (zz.map EV.en).take ys.length))) ∧ Fr (fun _ _ => True) w w') := fun w f => by
            have r1 := (SR9.out.tt (F14.out.trans f)).rows
            have r2 := R4.out.tt f
            rw [← HYL.out] at r1
            rw [← HAL.out] at r2
            have h := begins_calls w ya yc a4 c4 ys zz r1 r2 (YD.out _ (F14.out.trans f)) (fun x hx => (AD.out _ f x hx).1) (by have := YL.out; have := HYL.out; omega)
            rw [HYL.out, HAL.out] at h
            rw [HYL.out, HAL.out]
            exact h
          have BC2 : Hid (∀ w, Fr (fun _ _ => True) V9 w → Calls Tryd.prog 45 #[.slice ya yl yc, .slice sa xl sc] w fun e w' => e = .returned (.bool (decide (ys.length ≤ xs.length ∧ ys.map EV.en = (xs.map EV.en).take ys.length))) ∧ Fr (fun _ _ => True) w w') := fun w f => by
            have r1 := (SR9.out.tt f).rows
            have r2 := (SX.out _ f).1
            rw [← HYL.out] at r1
            rw [← HXL.out] at r2
            have h := begins_calls w ya yc sa sc ys xs r1 r2 (YD.out _ f) (SX.out _ f).2.1 (by have := YL.out; have := HYL.out; omega)
            rw [HYL.out, HXL.out] at h
            rw [HYL.out, HXL.out]
            exact h
          have PF : Hid ((decide (ys.length ≤ zz.length ∧ ys.map EV.en = (zz.map EV.en).take ys.length) = true ∨ decide (ys.length ≤ xs.length ∧ ys.map EV.en = (xs.map EV.en).take ys.length) = true) ∧ comm (zz.map EV.en) es ≤ yl ∧ (c ≠ 0 ∨ (yl = xl ∧ decide (ys.length ≤ xs.length ∧ ys.map EV.en = (xs.map EV.en).take ys.length) = true))) := by
            obtain ⟨_, e2, e3, e4⟩ := EN.out
            have r := SR9.out.es
            have x := (SX.out _ F14.out).2.2
            dsimp only at e2 e3 e4 r
            rw [← BH.out] at e2 e3
            have rl : res.length = yl := by rw [r, List.length_map, HYL.out]
            have xl' : es.length = xl := by rw [x, List.length_map, HXL.out]
            rw [rl] at e3 e4
            rw [xl'] at e4
            refine ⟨?_, e3, ?_⟩
            · rcases e2 with h | h
              · rw [r] at h
                exact .inl (beg_dec h)
              · rw [r, x] at h
                exact .inr (beg_dec h)
            · rcases e4 with h | ⟨h1, h2⟩
              · exact .inl h
              · rw [r, x] at h2
                exact .inr ⟨h1, beg_dec h2⟩
          generalize decide (ys.length ≤ zz.length ∧ ys.map EV.en = (zz.map EV.en).take ys.length) = r1 at BC1 PF
          generalize decide (ys.length ≤ xs.length ∧ ys.map EV.en = (xs.map EV.en).take ys.length) = r2 at BC2 PF
          go_loopw [21] (fun v21 wr => ∃ (j k : Nat), v21 = .int .i64 (j : Nat) ∧ j ≤ al ∧ j ≤ xl ∧ Hid (comm ((zz.map EV.en).drop j) (es.drop j) + j = comm (zz.map EV.en) es) ∧ Hid (wr = w14.drewN k)) (fun v21 _ => al - (intOf v21).toNat)
          case atStart => exact ⟨0, 0, rfl, Nat.zero_le _, Nat.zero_le _, rfl, rfl⟩
          case round =>
            obtain ⟨j, k, rfl, hj, hj2, HT, HW⟩ := hrel
            have FW : Hid (Fr (fun _ _ => True) w14 wr) := by
              show Fr _ _ _
              rw [HW.out]
              exact (Fr.refl _ w14).drewN k
            by_cases q1 : j < al
            · have q1I : (j : Int) < al := by omega
              by_cases q2 : j < xl
              · have q2I : (j : Int) < xl := by omega
                have j1 : j < zz.length := by have := HAL.out; omega
                have j2 : j < xs.length := by have := HXL.out; omega
                have m1 : j < (zz.map EV.en).length := by rw [List.length_map]; exact j1
                have m2 : j < es.length := by have := HXA.out.2; omega
                have es_at : es[j] = xs[j].en := by
                  have h := (SX.out w14 F14.out).2.2
                  subst h
                  rw [List.getElem_map]
                have w2 : IntKind.i64.wrap ((j : Int) + 1) = ((j + 1 : Nat) : Int) := by rw [IntKind.wrap_i64]; omega
                obtain ⟨ad1, had1⟩ : ∃ x, subS a4 c4 j 3 = x := ⟨_, rfl⟩
                obtain ⟨ad2, had2⟩ : ∃ x, subS sa sc j 3 = x := ⟨_, rfl⟩
                obtain ⟨cc1, hcc1⟩ : ∃ x, c4 - j = x := ⟨_, rfl⟩
                obtain ⟨cc2, hcc2⟩ : ∃ x, sc - j = x := ⟨_, rfl⟩
                have hs1 : ∀ w : World, (Instr.slice 64 (.slice a4 al c4) (some (.int .i64 (j : Nat))) (some (.int .i64 ((j : Int) + 1))) none).run Tryd.prog w = .ok (.slice ad1 1 cc1) w := fun w => by
                  have h := run_sliceJ 3 Tryd.underlying64 size_enS w a4 al c4 j (j + 1) .i64 .i64 (by omega) (by omega)
                  rw [had1, hcc1, show j + 1 - j = 1 from by omega] at h
                  exact h
                have hs2 : ∀ w : World, (Instr.slice 64 (.slice sa xl sc) (some (.int .i64 (j : Nat))) (some (.int .i64 ((j : Int) + 1))) none).run Tryd.prog w = .ok (.slice ad2 1 cc2) w := fun w => by
                  have h := run_sliceJ 3 Tryd.underlying64 size_enS w sa xl sc j (j + 1) .i64 .i64 (by omega) (by omega)
                  rw [had2, hcc2, show j + 1 - j = 1 from by omega] at h
                  exact h
                have EC : Hid (∀ m, Calls Tryd.prog 44 #[.slice ad1 1 cc1, .slice ad2 1 cc2] (wr.drewN m) fun e w' => e = .returned (.bool (decide (zz[j].en = xs[j].en))) ∧ ∃ q, w' = (wr.drewN m).drewN q) := fun m => by
                  have fw : Fr (fun _ _ => True) w14 (wr.drewN m) := FW.out.drewN m
                  obtain ⟨x1, x2, _⟩ := SX.out _ (F14.out.trans fw)
                  have r1 := ((R4.out.tt fw).dropS (m := j) (by omega)).takeS (m := 1) (by rw [List.length_drop]; omega)
                  have r2 := (x1.dropS (m := j) (by omega)).takeS (m := 1) (by rw [List.length_drop]; omega)
                  rw [one_at j1] at r1
                  rw [one_at j2] at r2
                  rw [had1, hcc1] at r1
                  rw [had2, hcc2] at r2
                  have h := esame_calls (wr.drewN m) (.slice ad1 1 cc1) (.slice ad2 1 cc2) [zz[j]] [xs[j]] r1 r2 (fun x hx => by rw [List.mem_singleton.1 hx]; exact AD.out _ fw _ (List.getElem_mem j1)) (fun x hx => by rw [List.mem_singleton.1 hx]; exact x2 _ (List.getElem_mem j2)) (by show 1 ≤ 1000000; decide)
                  simpa using h
                by_cases q3 : zz[j].en = xs[j].en
                · rw [decide_eq_true q3] at EC
                  have ST := comm_step (A := zz.map EV.en) (B := es) m1 m2 (by rw [List.getElem_map, es_at]; exact q3)
                  have NX : Hid (comm ((zz.map EV.en).drop (j + 1)) (es.drop (j + 1)) + (j + 1) = comm (zz.map EV.en) es) := by have := HT.out; show _ = _; omega
                  clear q3 ST es_at had1 had2 hcc1 hcc2
                  go_wp2_with fail
                  go_quiet ((go_at_call 44; exact Calls.quiet_of (EC.out _)))
                  go_wp2
                  go_roundw
                  case rel => exact ⟨j + 1, k + nq, by go_num, by omega, by omega, NX, by show _ = _; rw [HW.out, World.drewN_drewN]⟩
                  case measure => simp [intOf]; omega
                · rw [decide_eq_false q3] at EC
                  have ST := comm_stop (A := zz.map EV.en) (B := es) (j := j) fun m1 m2 => by rw [List.getElem_map, es_at]; exact q3
                  have HJ : Hid (comm (zz.map EV.en) es = j) := by have := HT.out; show _ = _; omega
                  clear q3 ST es_at had1 had2 hcc1 hcc2
                  go_wp2_with fail
                  go_quiet ((go_at_call 44; exact Calls.quiet_of (EC.out _)))
                  as_aux_lemma =>
                  have FZ : Hid (Fr (fun _ _ => True) w14 (wr.drewN nq)) := FW.out.drewN nq
                  obtain ⟨wz, hwz⟩ : ∃ x, wr.drewN nq = x := ⟨_, rfl⟩
                  rw [hwz] at FZ ⊢
                  clear hwz
                  have FV : Hid (Fr (fun _ _ => True) V9 wz) := F14.out.trans FZ.out
                  obtain ⟨⟨i0, i1, i2, i3, i4⟩, _, _⟩ := CE.out wz FV.out
                  have BCZ := Lib.hid (BC1.out wz FZ.out)
                  go_wp2_with fail
                  (with_reducible refine BCZ.out.mono ?_)
                  rintro e w15 ⟨rfl, f15⟩
                  have F15 := Lib.hid (FV.out.trans f15)
                  clear BCZ f15 i0 i1 i2 i3 i4
                  obtain ⟨⟨i0, i1, i2, i3, i4⟩, _, _⟩ := CE.out w15 F15.out
                  have BCY := Lib.hid (BC2.out w15 F15.out)
                  go_wp2_with fail
                  (with_reducible refine BCY.out.mono ?_)
                  rintro e w16 ⟨rfl, f16⟩
                  have F16 := Lib.hid (F15.out.trans f16)
                  clear BCY f16 i0 i1 i2 i3 i4
                  obtain ⟨⟨i0, i1, i2, i3, i4⟩, _, _⟩ := CE.out w16 F16.out
                  obtain ⟨P1, P2, P3⟩ := PF.out
                  rw [HJ.out] at P2
                  have p2 : (j : Int) ≤ (yl : Int) := by omega
                  have p3 : decide ((yl : Int) ≥ (j : Int)) = true := by simp; omega
                  by_cases hc : c = 0
                  · have hcb : (c != 0) = false := by simp [hc]
                    have P4 : yl = xl ∧ r2 = true := by rcases P3 with h | h; exact absurd hc h; exact h
                    obtain ⟨P5, P6⟩ := P4
                    have p5 : ((yl : Int) == (xl : Int)) = true := by simp; omega
                    subst P6
                    clear hc P1 P2 P3 P5
                    cases r1
                    · go_wp2
                      go_ret
                      exact ⟨rfl, FIN.out _ F16.out⟩
                    · go_wp2
                      go_ret
                      exact ⟨rfl, FIN.out _ F16.out⟩
                  · have hcb : (c != 0) = true := by simpa using hc
                    cases r1
                    · have P6 : r2 = true := by rcases P1 with h | h; cases h; exact h
                      subst P6
                      clear hc P1 P2 P3
                      go_wp2
                      go_ret
                      exact ⟨rfl, FIN.out _ F16.out⟩
                    · clear hc P1 P2 P3
                      go_wp2
                      go_ret
                      exact ⟨rfl, FIN.out _ F16.out⟩
              · have q2I : ¬ (j : Int) < xl := by omega
                have q2B : decide ((j : Int) < (xl : Int)) = false := decide_eq_false q2I
                have ST := comm_stop (A := zz.map EV.en) (B := es) (j := j) fun m1 m2 => by have := HXA.out.2; omega
                have HJ : Hid (comm (zz.map EV.en) es = j) := by have := HT.out; show _ = _; omega
                clear ST
                go_wp2_with fail
                go_quiet (fail)
                as_aux_lemma =>
                have FZ : Hid (Fr (fun _ _ => True) w14 (wr.drewN nq)) := FW.out.drewN nq
                obtain ⟨wz, hwz⟩ : ∃ x, wr.drewN nq = x := ⟨_, rfl⟩
                rw [hwz] at FZ ⊢
                clear hwz
                have FV : Hid (Fr (fun _ _ => True) V9 wz) := F14.out.trans FZ.out
                obtain ⟨⟨i0, i1, i2, i3, i4⟩, _, _⟩ := CE.out wz FV.out
                have BCZ := Lib.hid (BC1.out wz FZ.out)
                go_wp2_with fail
                (with_reducible refine BCZ.out.mono ?_)
                rintro e w15 ⟨rfl, f15⟩
                have F15 := Lib.hid (FV.out.trans f15)
                clear BCZ f15 i0 i1 i2 i3 i4
                obtain ⟨⟨i0, i1, i2, i3, i4⟩, _, _⟩ := CE.out w15 F15.out
                have BCY := Lib.hid (BC2.out w15 F15.out)
                go_wp2_with fail
                (with_reducible refine BCY.out.mono ?_)
                rintro e w16 ⟨rfl, f16⟩
                have F16 := Lib.hid (F15.out.trans f16)
                clear BCY f16 i0 i1 i2 i3 i4
                obtain ⟨⟨i0, i1, i2, i3, i4⟩, _, _⟩ := CE.out w16 F16.out
                obtain ⟨P1, P2, P3⟩ := PF.out
                rw [HJ.out] at P2
                have p2 : (j : Int) ≤ (yl : Int) := by omega
                have p3 : decide ((yl : Int) ≥ (j : Int)) = true := by simp; omega
                by_cases hc : c = 0
                · have hcb : (c != 0) = false := by simp [hc]
                  have P4 : yl = xl ∧ r2 = true := by rcases P3 with h | h; exact absurd hc h; exact h
                  obtain ⟨P5, P6⟩ := P4
                  have p5 : ((yl : Int) == (xl : Int)) = true := by simp; omega
                  subst P6
                  clear hc P1 P2 P3 P5
                  cases r1
                  · go_wp2
                    go_ret
                    exact ⟨rfl, FIN.out _ F16.out⟩
                  · go_wp2
                    go_ret
                    exact ⟨rfl, FIN.out _ F16.out⟩
                · have hcb : (c != 0) = true := by simpa using hc
                  cases r1
                  · have P6 : r2 = true := by rcases P1 with h | h; cases h; exact h
                    subst P6
                    clear hc P1 P2 P3
                    go_wp2
                    go_ret
                    exact ⟨rfl, FIN.out _ F16.out⟩
                  · clear hc P1 P2 P3
                    go_wp2
                    go_ret
                    exact ⟨rfl, FIN.out _ F16.out⟩
            · have q1I : ¬ (j : Int) < al := by omega
              have q1B : decide ((j : Int) < (al : Int)) = false := decide_eq_false q1I
              have ST := comm_stop (A := zz.map EV.en) (B := es) (j := j) fun m1 m2 => by have := HXA.out.1; omega
              have HJ : Hid (comm (zz.map EV.en) es = j) := by have := HT.out; show _ = _; omega
              clear ST
              go_wp2_with fail
              go_quiet (fail)
              as_aux_lemma =>
              have FZ : Hid (Fr (fun _ _ => True) w14 (wr.drewN nq)) := FW.out.drewN nq
              obtain ⟨wz, hwz⟩ : ∃ x, wr.drewN nq = x := ⟨_, rfl⟩
              rw [hwz] at FZ ⊢
              clear hwz
              have FV : Hid (Fr (fun _ _ => True) V9 wz) := F14.out.trans FZ.out
              obtain ⟨⟨i0, i1, i2, i3, i4⟩, _, _⟩ := CE.out wz FV.out
              have BCZ := Lib.hid (BC1.out wz FZ.out)
              go_wp2_with fail
              (with_reducible refine BCZ.out.mono ?_)
              rintro e w15 ⟨rfl, f15⟩
              have F15 := Lib.hid (FV.out.trans f15)
              clear BCZ f15 i0 i1 i2 i3 i4
              obtain ⟨⟨i0, i1, i2, i3, i4⟩, _, _⟩ := CE.out w15 F15.out
              have BCY := Lib.hid (BC2.out w15 F15.out)
              go_wp2_with fail
              (with_reducible refine BCY.out.mono ?_)
              rintro e w16 ⟨rfl, f16⟩
              have F16 := Lib.hid (F15.out.trans f16)
              clear BCY f16 i0 i1 i2 i3 i4
              obtain ⟨⟨i0, i1, i2, i3, i4⟩, _, _⟩ := CE.out w16 F16.out
              obtain ⟨P1, P2, P3⟩ := PF.out
              rw [HJ.out] at P2
              have p2 : (j : Int) ≤ (yl : Int) := by omega
              have p3 : decide ((yl : Int) ≥ (j : Int)) = true := by simp; omega
              by_cases hc : c = 0
              · have hcb : (c != 0) = false := by simp [hc]
                have P4 : yl = xl ∧ r2 = true := by rcases P3 with h | h; exact absurd hc h; exact h
                obtain ⟨P5, P6⟩ := P4
                have p5 : ((yl : Int) == (xl : Int)) = true := by simp; omega
                subst P6
                clear hc P1 P2 P3 P5
                cases r1
                · go_wp2
                  go_ret
                  exact ⟨rfl, FIN.out _ F16.out⟩
                · go_wp2
                  go_ret
                  exact ⟨rfl, FIN.out _ F16.out⟩
              · have hcb : (c != 0) = true := by simpa using hc
                cases r1
                · have P6 : r2 = true := by rcases P1 with h | h; cases h; exact h
                  subst P6
                  clear hc P1 P2 P3
                  go_wp2
                  go_ret
                  exact ⟨rfl, FIN.out _ F16.out⟩
                · clear hc P1 P2 P3
                  go_wp2
                  go_ret
                  exact ⟨rfl, FIN.out _ F16.out⟩
        · as_aux_lemma =>
          have g : ((rba : Int) != (ba : Int)) = true := by simp; omega
          have LCC := Lib.hid (LC.out (.inr bb))
          have hc0 : (c != 0) = true := by have := (AT.out.was TK.out (.inr bb)).2.2.2; simpa using this
          have U13 := Lib.hid HF13.out.drew
          clear bb
          go_upto_region 18 with fail
          go_region_held3 (fun W => (W.cell? ⟨gt, 0, none⟩ = some (.int .u64 (rtm : Nat)) ∧ W.cell? ⟨gt, 1, none⟩ = some (.int .i64 rvo) ∧ W.cell? ⟨gt, 2, none⟩ = some (.int .u64 (rba : Nat)) ∧ W.cell? ⟨gt, 3, none⟩ = some (.int .u64 (rbt : Nat)) ∧ W.cell? ⟨gt, 4, none⟩ = some (.slice ya yl yc)) ∧ (W.cell? ⟨go, 0, none⟩ = some (.int .u64 (otm : Nat)) ∧ W.cell? ⟨go, 1, none⟩ = some (.int .i64 ovo) ∧ W.cell? ⟨go, 2, none⟩ = some (.int .u64 (oba : Nat)) ∧ W.cell? ⟨go, 3, none⟩ = some (.int .u64 (obt : Nat)) ∧ W.cell? ⟨go, 4, none⟩ = some (.slice va vl vc)) ∧ W.cell? ⟨gb, 0, none⟩ = some (.int .u64 (tm : Nat)) ∧ W.cell? ⟨gb, 1, none⟩ = some (.int .i64 vo) ∧ W.cell? ⟨gb, 2, none⟩ = some (.int .u64 (ba : Nat)) ∧ W.cell? ⟨gb, 3, none⟩ = some (.int .u64 (bt : Nat)) ∧ W.cell? ⟨gb, 4, none⟩ = some (.slice sa xl sc))
            (first | exact CE.out _ U13.out | exact CE.out _ F10.out | exact CE.out _ F11.out)
            (first
              | (go_at_call 37; (with_reducible refine (DC.out _).mono ?_); rintro e w10 ⟨rfl, f10⟩; have F10 := Lib.hid ((U13.out).trans f10); clear f10)
              | (go_at_call 41; go_must ((with_reducible refine (LCC.out _ F10.out).mono ?_); rintro e w11 ⟨rfl, f11⟩; have F11 := Lib.hid (F10.out.trans f11); clear f11)))
          all_goals
            go_wp2
            go_ret
            exact ⟨rfl, FIN.out _ F11.out⟩
/-- KeepAmid. -/
theorem amid14_walk (W : World) (a0 : Option Addr) (len0 cap0 : Nat) (cs1 : Array Value) (fu : Int) (w2 : (Lit.int .i64 fu).wf = true) (a3 : Option Addr) (len3 cap3 : Nat) (r0 : Rd Tryd.prog W 63 [.slice a0 len0 cap0]) (r1 : Rd Tryd.prog W 68 cs1.toList) (r3 : Rd Tryd.prog W 24 [.slice a3 len3 cap3]) (ht : TabOK W) :
    Calls Tryd.prog 10 #[.slice a0 len0 cap0, .agg cs1, .int .i64 fu, .slice a3 len3 cap3] W fun e w' => e = .returned (.bool true) ∧ Below W.heap.size W w' := by
  obtain ⟨l, hl, hlen⟩ := opsk_of r0
  obtain ⟨s, xs, sa, sc, he, hs⟩ := sta_cells r1
  obtain ⟨zs, hz, _⟩ := r3.is
  obtain ⟨f0, f1⟩ := bounds_i64 w2
  rw [he]
  have K : Calls Tryd.prog 10 #[.slice a0 len0 cap0, vS s (.slice sa xs.length sc), .int .i64 fu, .slice a3 len3 cap3] W fun e w' => e = .returned (.bool true) ∧ Fr (fun _ _ => True) W w' := by
    cases hsh : shortK l 12 with
    | false => exact amid14_bad W a0 len0 cap0 l hl hlen _ _ _ _ _ _ _ ht hsh
    | true =>
      by_cases hb : xs.length ≤ 12
      · exact amid14_good W a0 len0 cap0 l hl hlen s xs sa sc hs fu f0 f1 a3 len3 cap3 zs hz ht hsh hb
      · exact amid14_long W a0 len0 cap0 l hl hlen s xs sa sc hs fu f0 f1 a3 len3 cap3 zs hz ht hsh (by omega)
  exact K.mono fun e w' hh => ⟨hh.1, hh.2.bel⟩
end Go.Proofs.YtcpbmempfeloaaaDoor
