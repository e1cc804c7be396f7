/- Texts of the proofs, part 41: what the functions that they reach do, walked; no conditions beyond those that each states. -/
import Derived.Test.YtmjccpfchhnfhaaZzae27bb8a73
set_option linter.unusedVariables false
set_option linter.unusedSimpArgs false
/- Law 12: the chapter's examples, behind the first thing that is done (printed by awake12.py). -/
namespace Go.Proofs.Ytmjccpfchhnfhaa
open Go.RowKit
set_option linter.unusedVariables false
set_option linter.unusedSimpArgs false

section
variable {X : Nat → Prop} {w : World} {G : Nat} {l : List Nx} {ms : List MV} {many : Int} {c : GV}
set_option maxRecDepth 100000 in
set_option maxHeartbeats 8000000 in
theorem aw_s7 {R : Ending → World → Prop} (h : Grp X w G l ms many c) (B0 : Nat → Prop) (hl : Low B0 X G c) (B : Nat) (hB : B + 4 ≤ 700000) (hmn : 0 ≤ many ∧ many ≤ 1000) (hcn : c.ns ≤ 1000 ∧ c.nt ≤ 1000 ∧ c.nl ≤ 1000) (ok : GOk B l ms many c) (hns : l.map (·.n) = NS1) (hms : ms.map MV.ms = MS2) (fin : ∀ W, Fr (fun q _ => B0 q) w W → R (.returned (.bool true)) W) (u0 u2 u3 u4 u5 u6 u7 u8 u9 u10 u11 u12 u13 u14 u15 u16 u17 u18 u19 u20 u21 u22 u23 u24 u25 u26 u27 u28 u29 u30 u31 u32 u33 u34 u35 u36 u37 u38 u39 u40 u41 u42 u43 u44 u45 u46 u47 u48 u49 u50 u51 u52 u53 u54 u55 u56 u57 u58 u59 u60 u61 u62 u63 u64 u65 u66 u67 u68 u69 u70 u71 u72 u73 u74 u75 u76 u77 u78 u79 u80 u81 u82 u83 u84 u85 u86 u87 u88 u89 u90 u91 u92 u93 u94 u95 u96 u97 u98 u99 u100 u101 u102 u103 u104 u105 u106 u107 u108 u109 u110 u111 u112 u113 u114 u115 u116 u117 u118 u119 u120 u121 u122 u123 u124 u125 u126 u127 u128 u129 u130 u131 u132 u133 u134 u135 u136 u137 u138 u139 u140 u141 u142 u143 u144 u145 u146 u147 u148 u149 u150 u151 u152 u153 u154 u155 u156 u157 u158 u159 u160 u161 u162 u163 u164 u165 u166 u167 u168 u169 u170 u171 u172 u173 u174 u175 u176 u177 u178 u179 u180 u181 u182 u183 u184 u185 u186 u187 u188 u189 u190 u191 u192 u193 u194 u195 : Value) :
    Code.wp Try.prog (seqR 7 (bodyC Try.f5.body)) (bodyPost Try.prog Try.f5 R) { tmps := #[u0, .pointer (some ⟨G, 0, none⟩), u2, u3, u4, u5, u6, u7, u8, u9, u10, u11, u12, u13, u14, u15, u16, u17, u18, u19, u20, u21, u22, u23, u24, u25, u26, u27, u28, u29, u30, u31, u32, u33, u34, u35, u36, u37, u38, u39, u40, u41, u42, u43, u44, u45, u46, u47, u48, u49, u50, u51, u52, u53, u54, u55, u56, u57, u58, u59, u60, u61, u62, u63, u64, u65, u66, u67, u68, u69, u70, u71, u72, u73, u74, u75, u76, u77, u78, u79, u80, u81, u82, u83, u84, u85, u86, u87, u88, u89, u90, u91, u92, u93, u94, u95, u96, u97, u98, u99, u100, u101, u102, u103, u104, u105, u106, u107, u108, u109, u110, u111, u112, u113, u114, u115, u116, u117, u118, u119, u120, u121, u122, u123, u124, u125, u126, u127, u128, u129, u130, u131, u132, u133, u134, u135, u136, u137, u138, u139, u140, u141, u142, u143, u144, u145, u146, u147, u148, u149, u150, u151, u152, u153, u154, u155, u156, u157, u158, u159, u160, u161, u162, u163, u164, u165, u166, u167, u168, u169, u170, u171, u172, u173, u174, u175, u176, u177, u178, u179, u180, u181, u182, u183, u184, u185, u186, u187, u188, u189, u190, u191, u192, u193, u194, u195], defers := [] } w := by
  dsimp only [seqR, bodyC, Try.f5]
  have hml : ms.length = 2 := by have := congrArg List.length hms; rw [List.length_map] at this; exact this.trans MS2_is.1
  have hbd : ∀ W : World, (Instr.build 43 #[(0, .int .i64 3), (1, .int .i64 0)]).run Try.prog W = .ok (.agg #[.int .i64 3, .int .i64 0]) W := fun W => run_build W _ _ _ (by kernel_rfl)
  obtain ⟨m0, m1, rfl⟩ : ∃ a b, ms = [a, b] := by match ms, hml with | [a, b], _ => exact ⟨a, b, rfl⟩
  have hm0 : m0.ms = MS2.getD 0 zMs := by rw [← hms]; rfl
  have hm0' : m0.dst = 1 ∧ m0.index = 0 ∧ m0.tm = 1 ∧ m0.es.length = 1 := by
    have := MS2_is.2
    rw [← hm0] at this
    have e : m0.ms.es.length = m0.es.length := by show (m0.es.map EV.en).length = _; rw [List.length_map]
    rw [e] at this
    exact this
  obtain ⟨gm, cm, VM⟩ := h.mview (by simp)
  obtain ⟨y1a, VM1⟩ := VM w (Fr.refl _ _)
  have y1 : w.cell? ⟨G, 1, none⟩ = some (.slice (some ⟨gm, 0, none⟩) 2 cm) := y1a
  clear y1a
  have v2 : w.cell? ⟨gm, 2, none⟩ = some (.int .i64 1) := by rw [← hm0'.1]; exact VM1 0 (by simp) 2 _ rfl
  have v4 : w.cell? ⟨gm, 4, none⟩ = some (.int .u64 0) := by
    have := VM1 0 (by simp) 4 _ rfl
    rw [show ([m0, m1] : List MV)[0].index = 0 from hm0'.2.1] at this
    exact this
  have v3 : w.cell? ⟨gm, 3, none⟩ = some (.int .u64 1) := by
    have := VM1 0 (by simp) 3 _ rfl
    rw [show ([m0, m1] : List MV)[0].tm = 1 from hm0'.2.2.1] at this
    exact this
  have v9 : w.cell? ⟨gm, 9, none⟩ = some (.slice m0.ea 1 m0.ec) := by
    have := VM1 0 (by simp) 9 _ rfl
    rw [show ([m0, m1] : List MV)[0].es.length = 1 from hm0'.2.2.2] at this
    exact this
  have PC := Lib.hid (play_calls h B0 hl B ok 3 0)
  have OK := Lib.hid ok
  have HMS := Lib.hid hms
  have HNS := Lib.hid hns
  have FIN := Lib.hid fin
  have HL := Lib.hid hl
  have HBN := Lib.hid (And.intro hB (And.intro hmn hcn))
  clear h hl ok hns hms fin VM VM1 hml hm0 hm0' hB hmn hcn
  go_upto_region 11 with fail
  rename_i K1 h1
  have H1 := Lib.hid h1
  clear h1
  clear y1 v2 v4 v3 v9
  go_wp2_with fail
  (with_reducible refine PC.out.mono ?_)
  rintro e W2 ⟨X2, l2, ms2, many2, c2, rfl, g2, l2w, hp, hnn, f2⟩
  have e2 := playR_hear (i := 1) (j := 0) (by rw [HNS.out]; decide +kernel) (by simp) (by
    have := MS2_is.2.1
    rw [← HMS.out] at this
    exact this) (by simp) hp
  obtain ⟨e3, e4⟩ := e2
  have hx : (([m0, m1] : List MV).map MV.ms)[0] = MS2.getD 0 zMs := by rw [← HMS.out]; rfl
  have hn : (l.map (·.n))[1]'(by rw [HNS.out]; decide +kernel) = Nd.new 1 (cfN 3) := (getD_get _ default).trans (by rw [HNS.out]; decide +kernel)
  rw [hx, hn] at e3 e4
  rw [HNS.out] at e3
  rw [HMS.out] at e4
  have OK2 := Lib.hid (OK.out.next (c' := c2) (many' := many2) hp (by have := HBN.out.1; omega) (by have := HBN.out.2; omega) (by have := HBN.out.2; omega))
  have G2 := Lib.hid (And.intro g2 (And.intro l2w (And.intro e3 (And.intro e4 f2))))
  clear g2 l2w hp hnn f2 e3 e4 hx hn PC
  go_wp2_with fail
  exact H1.out _ _ (aw_s10 G2.out.1 B0 G2.out.2.1 (B + 2) HBN.out.1 OK2.out G2.out.2.2.1 G2.out.2.2.2.1 (fun W f => FIN.out W (G2.out.2.2.2.2.trans f)) _ _ _ _ _ _ _ _ _ _ _ _ _ _ _ _ _ _ _ _ _ _ _ _ _ _ _ _ _ _ _ _ _ _ _ _ _ _ _ _ _ _ _ _ _ _ _ _ _ _ _ _ _ _ _ _ _ _ _ _ _ _ _ _ _ _ _ _ _ _ _ _ _ _ _ _ _ _ _ _ _ _ _ _ _ _ _ _ _ _ _ _ _ _ _ _ _ _ _ _ _ _ _ _ _ _ _ _ _ _ _ _ _ _ _ _ _ _ _ _ _ _ _ _ _ _ _ _ _ _ _ _ _ _ _ _ _ _ _ _ _ _ _ _ _ _ _ _ _ _ _ _ _ _ _ _ _ _ _ _ _ _ _ _ _ _ _ _ _ _ _ _ _ _ _ _ _ _ _ _ _ _ _ _ _ _ _ _ _ _ _ _ _ _)
end
end Go.Proofs.Ytmjccpfchhnfhaa
/- Law 12: the chapter's examples (printed by awake12.py). -/
namespace Go.Proofs.Ytmjccpfchhnfhaa
open Go.RowKit
set_option linter.unusedVariables false
set_option linter.unusedSimpArgs false

section
set_option maxRecDepth 100000 in
set_option maxHeartbeats 8000000 in
theorem awake_calls (w : World) : Calls Try.prog 5 #[] w fun e w' => e = .returned (.bool true) ∧ Fr (fun _ _ => True) w w' := by
  have BC : Hid (Calls Try.prog 6 #[.int .i64 3] w fun e w' => BOut w 3 e w') := begun_calls w 3 (by decide) (by decide)
  have hbd : ∀ W : World, (Instr.build 43 #[(0, .int .i64 5), (1, .int .i64 0)]).run Try.prog W = .ok (.agg #[.int .i64 5, .int .i64 0]) W := fun W => run_build W _ _ _ (by kernel_rfl)
  go_enter Try.func5, Try.ntmps5
  go_wp2_with fail
  (with_reducible refine BC.out.mono ?_)
  rintro e W0 ⟨X, G, l, c, rfl, ⟨g0, c1, c2, c3, l0⟩, hns, f0⟩
  clear BC
  have hll : l.length = 3 := by have := congrArg List.length hns; rw [List.length_map, List.length_map] at this; exact this.trans (cfN_len 3)
  obtain ⟨x0, x1, x2, rfl⟩ : ∃ x0 x1 x2, l = [x0, x1, x2] := by match l, hll with | [a, b, d], _ => exact ⟨a, b, d, rfl⟩
  have n0 : x0.n = Nd.new 0 (cfN 3) := congrArg (fun l => l.getD 0 default) hns
  have n1 : x1.n = Nd.new 1 (cfN 3) := congrArg (fun l => l.getD 1 default) hns
  have n2 : x2.n = Nd.new 2 (cfN 3) := congrArg (fun l => l.getD 2 default) hns
  obtain ⟨gn, cn, V⟩ := g0.view (by simp)
  obtain ⟨b0, hb0⟩ : ∃ b, x0.b = b := ⟨_, rfl⟩
  obtain ⟨P0, hP0⟩ : ∃ P, x0.P = P := ⟨_, rfl⟩
  obtain ⟨y0, V1⟩ := V W0 (Fr.refl _ _)
  have y0 : W0.cell? ⟨G, 0, none⟩ = some (.slice (some ⟨gn, 0, none⟩) 3 cn) := y0
  have z0 : W0.cell? ⟨gn, 0, none⟩ = some (.pointer (some ⟨b0, 0, none⟩)) := by rw [← hb0]; exact V1 0 (by simp)
  obtain ⟨q0, hq0⟩ := g0.nd x0 (by simp)
  rw [hb0] at hq0
  have x4 : W0.cell? ⟨b0, 4, none⟩ = some q0.vc := (hq0.cells (Fr.refl _ W0)).2.2.2.2.1
  have a0 := hq0.free (Fr.refl _ W0) 4
  obtain ⟨W1, hW1⟩ : ∃ Y, W0.alloc (.cells #[.int .i64 0] 3 (0, 0)) = Y := ⟨_, rfl⟩
  have f1 : Fr (fun _ _ => True) W0 W1 := hW1 ▸ (Fr.refl _ _).alloc _
  have x4' : W1.cell? ⟨b0, 4, none⟩ = some q0.vc := (hq0.cells f1).2.2.2.2.1
  have a0' := hq0.free f1 4
  obtain ⟨W2, hW2⟩ : ∃ Y, W1.setCell ⟨b0, 4, none⟩ (.slice (some ⟨W0.heap.size, 0, none⟩) 1 1) = Y := ⟨_, rfl⟩
  obtain ⟨g2, f2⟩ := g0.conf 0 (by simp) [0] (cs := #[.int .i64 0]) (fun k hk => by have : k = 0 := by have : k < 1 := hk; omega
                                                                                    subst this; rfl) hb0 hW1 hW2 P0 hP0 n0
  have G2 : Hid (Grp X W2 G [⟨b0, { Nd.new 0 (cfN 3) with conf := [0] }, P0⟩, x1, x2] [] 0 c) := g2
  have F2 : Hid (Fr (fun _ _ => True) w W2) := Fr.within ((f0.mono fun _ _ _ => trivial : Fr (fun q _ => True ∧ q < w.heap.size) w W0).trans (f2.mono fun q _ h e => by have := h.2; have := l0.x q (hq0.px _ (e ▸ hq0.pb)); omega))
  have L0 := Lib.hid l0
  have HN := Lib.hid (And.intro n1 (And.intro n2 (And.intro c1 (And.intro c2 c3))))
  obtain ⟨qa, hqa0⟩ := G2.out.nd ⟨b0, { Nd.new 0 (cfN 3) with conf := [0] }, P0⟩ (by simp)
  have hqa : PNs X P0 W2 b0 { Nd.new 0 (cfN 3) with conf := [0] } qa := hqa0
  clear hqa0
  have AK := Lib.hid (askT_calls hqa ⟨by show 0 < 1; decide, by show 1 ≤ _; decide⟩ 0 rfl (by decide) (by decide) (by decide) (by decide))
  obtain ⟨gn2, cn2, V2⟩ := G2.out.view (by simp)
  obtain ⟨y2, V3⟩ := V2 W2 (Fr.refl _ _)
  have y2 : W2.cell? ⟨G, 0, none⟩ = some (.slice (some ⟨gn2, 0, none⟩) 3 cn2) := y2
  have z2 : W2.cell? ⟨gn2, 0, none⟩ = some (.pointer (some ⟨b0, 0, none⟩)) := V3 0 (by simp)
  have HX : Hid (w.heap.size ≤ W2.heap.size) := F2.out.size
  clear g0 c1 c2 c3 l0 hns hll f0 V V1 hq0 f1 g2 f2 V2 V3 hqa n0 n1 n2 hb0 hP0
  go_wp2_with fail
  try rw [hW1]
  try rw [hW2]
  clear hW1 hW2 y0 z0 x4 a0 x4' a0'
  go_wp2_with fail
  (with_reducible refine AK.out.mono ?_)
  intro e W3 hout
  obtain ⟨X3, P3, q3, v3, mvs, rfl, p3, a3, o3, e3⟩ := hout
  obtain ⟨NA, hNA⟩ : ∃ y, ({ Nd.new 0 (cfN 3) with conf := [0] } : Nd).askT.1 = y := ⟨_, rfl⟩
  have G3 : Hid (Grp X3 W3 G [⟨b0, NA, P3⟩, x1, x2] [] 0 c) := hNA ▸ G2.out.turn 0 (by simp) ⟨q3, p3⟩ a3
  have L3 : Hid (Low (fun q => q < w.heap.size) X3 G { c with sz := w.heap.size }) := Low.aft (w := W2) (w4 := W3) (X4 := X3) (P4 := P3) (P := P0) (L0.out.low w.heap.size (Nat.le_refl _)) a3 F2.out.size
  have F3 : Hid (Fr (fun _ _ => True) w W3) := Fr.within ((F2.out.mono fun _ _ _ => trivial : Fr (fun q _ => True ∧ q < w.heap.size) w W2).trans (a3.fr.mono fun q _ h e => by have := h.2; have := L0.out.x _ (a3.hp q e); omega))
  obtain ⟨gn3, cn3, V4⟩ := G3.out.view (by simp)
  obtain ⟨y3, V5⟩ := V4 W3 (Fr.refl _ _)
  have y3 : W3.cell? ⟨G, 0, none⟩ = some (.slice (some ⟨gn3, 0, none⟩) 3 cn3) := y3
  have z3 : W3.cell? ⟨gn3, 0, none⟩ = some (.pointer (some ⟨b0, 0, none⟩)) := V5 0 (by simp)
  obtain ⟨qb, hqb⟩ := G3.out.nd ⟨b0, NA, P3⟩ (by simp)
  have x4 : W3.cell? ⟨b0, 4, none⟩ = some qb.vc := (hqb.cells (Fr.refl _ W3)).2.2.2.2.1
  have a0 := hqb.free (Fr.refl _ W3) 4
  obtain ⟨W4, hW4⟩ : ∃ Y, W3.alloc (.cells #[.int .i64 0, .int .i64 1, .int .i64 2] 3 (0, 0)) = Y := ⟨_, rfl⟩
  have f4 : Fr (fun _ _ => True) W3 W4 := hW4 ▸ (Fr.refl _ _).alloc _
  have x4' : W4.cell? ⟨b0, 4, none⟩ = some qb.vc := (hqb.cells f4).2.2.2.2.1
  have a0' := hqb.free f4 4
  obtain ⟨W5, hW5⟩ : ∃ Y, W4.setCell ⟨b0, 4, none⟩ (.slice (some ⟨W3.heap.size, 0, none⟩) 3 3) = Y := ⟨_, rfl⟩
  obtain ⟨g5, f5⟩ := G3.out.conf 0 (by simp) [0, 1, 2] (cs := #[.int .i64 0, .int .i64 1, .int .i64 2]) (fun k hk => by
    match k, hk with
    | 0, _ => rfl
    | 1, _ => rfl
    | 2, _ => rfl) rfl hW4 hW5 P3 rfl rfl
  have G5 : Hid (Grp X3 W5 G [⟨b0, { NA with conf := [0, 1, 2] }, P3⟩, x1, x2] [] 0 c) := g5
  have F5 : Hid (Fr (fun _ _ => True) w W5) := Fr.within ((F3.out.mono fun _ _ _ => trivial : Fr (fun q _ => True ∧ q < w.heap.size) w W3).trans (f5.mono fun q _ h e => by exact L3.out.x q (hqb.px _ (e ▸ hqb.pb)) h.2))
  have NSE : Hid (([⟨b0, { NA with conf := [0, 1, 2] }, P3⟩, x1, x2] : List Nx).map (·.n) = NS1) := by
    show [_, x1.n, x2.n] = _
    rw [HN.out.1, HN.out.2.1, ← hNA]
    rfl
  have OK : Hid (GOk 50 ([⟨b0, { NA with conf := [0, 1, 2] }, P3⟩, x1, x2] : List Nx) [] 0 { c with sz := w.heap.size }) := by
    refine ⟨by decide, ?_, ?_, ?_, by show 3 ≤ 1000; decide, by show 0 ≤ 700; decide, ⟨by decide, by decide⟩, by show c.ns ≤ 700000 ∧ c.nt ≤ 700000 ∧ c.nl ≤ 700000; have := HN.out.2.2; omega⟩
    · intro x hx
      rcases List.mem_cons.1 hx with rfl | hx
      · show Gd 50 { NA with conf := [0, 1, 2] }
        rw [← hNA]; exact aw0_gd
      · rcases List.mem_cons.1 hx with rfl | hx
        · rw [HN.out.1]; exact new_gd 1 (by decide) 50
        · rw [List.mem_singleton.1 hx, HN.out.2.1]; exact new_gd 2 (by decide) 50
    · intro m hm; cases hm
    · intro m hm; cases hm
  have PC := Lib.hid (play_calls (G5.out.resz w.heap.size F5.out.size) (fun q => q < w.heap.size) L3.out 50 OK.out 5 0)
  clear p3 a3 o3 e3 V4 V5 hqb f4 g5 f5 hNA y2 z2 AK
  go_upto_region 7 with fail
  rename_i K1 h1
  have H1 := Lib.hid h1
  clear h1
  try rw [hW4]
  try rw [hW5]
  clear hW4 hW5 y3 z3 x4 a0 x4' a0'
  go_wp2_with fail
  (with_reducible refine PC.out.mono ?_)
  rintro e W6 ⟨X6, l6, ms6, many6, c6, rfl, g6, l6w, hp, hnn0, f6⟩
  have hnn : c6.ns ≤ c.ns + 200 ∧ c6.nt ≤ c.nt + 1 ∧ c6.nl ≤ c.nl + 1 ∧ (0 : Int) ≤ many6 ∧ many6 ≤ 0 + 1 := hnn0
  clear hnn0
  obtain ⟨e3, e4⟩ := playR_beat (i := 0) (by rw [NSE.out]; decide) (by decide) hp
  have hn : (([⟨b0, { NA with conf := [0, 1, 2] }, P3⟩, x1, x2] : List Nx).map (·.n))[0]'(by rw [NSE.out]; decide) = aw0 := by
    have := congrArg (fun l => l.getD 0 default) NSE.out
    exact this
  rw [hn] at e4
  rw [NSE.out] at e3
  have e4 : ms6.map MV.ms = MS2 := e4
  have OK2 := Lib.hid (OK.out.next (c' := c6) (many' := many6) hp (by decide) (by omega) (by have := HN.out.2.2; omega))
  have CN : Hid (c6.ns ≤ 1000 ∧ c6.nt ≤ 1000 ∧ c6.nl ≤ 1000) := by have := HN.out.2.2; show _ ∧ _ ∧ _; omega
  have MN : Hid (0 ≤ many6 ∧ many6 ≤ 1000) := by show _ ∧ _; omega
  have G6 := Lib.hid (And.intro g6 (And.intro l6w (And.intro e3 (And.intro e4 f6))))
  clear g6 l6w hp hnn f6 e3 e4 hn PC
  go_wp2_with fail
  exact H1.out _ _ (aw_s7 G6.out.1 (fun q => q < w.heap.size) G6.out.2.1 52 (by decide) MN.out CN.out OK2.out G6.out.2.2.1 G6.out.2.2.2.1 (fun W f => ⟨rfl, Fr.within ((F5.out.mono fun _ _ _ => trivial : Fr (fun q _ => True ∧ q < w.heap.size) w W5).trans ((G6.out.2.2.2.2.trans f).mono fun q _ h => h.2))⟩) _ _ _ _ _ _ _ _ _ _ _ _ _ _ _ _ _ _ _ _ _ _ _ _ _ _ _ _ _ _ _ _ _ _ _ _ _ _ _ _ _ _ _ _ _ _ _ _ _ _ _ _ _ _ _ _ _ _ _ _ _ _ _ _ _ _ _ _ _ _ _ _ _ _ _ _ _ _ _ _ _ _ _ _ _ _ _ _ _ _ _ _ _ _ _ _ _ _ _ _ _ _ _ _ _ _ _ _ _ _ _ _ _ _ _ _ _ _ _ _ _ _ _ _ _ _ _ _ _ _ _ _ _ _ _ _ _ _ _ _ _ _ _ _ _ _ _ _ _ _ _ _ _ _ _ _ _ _ _ _ _ _ _ _ _ _ _ _ _ _ _ _ _ _ _ _ _ _ _ _ _ _ _ _ _ _ _ _ _ _ _ _ _ _ _)
end
end Go.Proofs.Ytmjccpfchhnfhaa
/- Law 12: what is sure never becomes less, and terms do not fall (printed by grows12.py). -/
namespace Go.Proofs.Ytmjccpfchhnfhaa
open Go.RowKit
set_option linter.unusedVariables false
set_option linter.unusedSimpArgs false

def encW (x : Nat) : List Value := [.int .u64 (x : Nat)]
theorem encW_len (x : Nat) : (encW x).length = 1 := rfl
theorem encW_one (x : Nat) : ∀ u ∈ encW x, u.oneCell' = true := fun u hu => by rw [List.mem_singleton.1 hu]; rfl
theorem encW_flat : ∀ (xs : List Nat), xs.flatMap encW = xs.map natN
  | [] => rfl
  | x :: xs => by rw [List.flatMap_cons, encW_flat xs]; rfl
theorem rows_oneW {w : World} {b : Nat} {x : Nat} (h : w.heap[b]? = some (.cells #[.int .u64 (x : Nat)] 34 (0, 0))) : RowsAt (fun c _ => c = b) w (.slice (some ⟨b, 0, none⟩) 1 1) 1 encW [x] := by
  refine ⟨_, 1, rfl, by simp, .inr ⟨b, 0, _, rfl, h, rfl, fun i hi j u hu => ?_⟩⟩
  obtain rfl : i = 0 := by simpa using hi
  have hj : j = 0 := by have := (List.getElem?_eq_some_iff.1 hu).1; simp [encW] at this; omega
  subst hj
  exact cell_mk h (by simpa [encW] using hu)
theorem encW_succ (f : Nat → Nat) (k : Nat) : ((List.range k).map f).flatMap encW ++ encW (f k) = ((List.range (k + 1)).map f).flatMap encW := by
  rw [List.range_succ, List.map_append, List.flatMap_append]
  simp
theorem wpList_append_us {K0 : Nat → Obj → Prop} {ops : Array Oper} {rest : List Oper} {o : Oper} {a : Act} {Q : Exit → Act → World → Prop} (W0 W : World) (hF : Hid (Fr (fun _ _ => True) W0 W)) (hgd : o.guard = none) (s x : Operand)
    (ho : o.op = .call { callee := .builtin .append, args := #[s, x], argTypes := #[26, 26] }) (v : Value) (T : List Nat) (hs : a.eval s = v) (hown : Hid (W.ownsRow W0.heap.size 34 1 v T.length (T.flatMap encW)))
    (vx : Value) (ys : List Nat) (hx : a.eval x = vx) (hvx : Hid (RowsAt K0 W vx 1 encW ys)) (R : List Nat) (hR : Hid (T ++ ys = R)) (N : Nat) (hN : Hid (R.length = N)) (hn : N ≤ 1000000)
    (h : ∀ g c w', Hid (w'.ownsRow W0.heap.size 34 1 (.slice g N c) N (R.flatMap encW)) → Hid (Fr (fun _ _ => True) W0 w') → Hid (Fr (fun b _ => v.ownBlock ≠ some b) W w') → Hid (OwnNext W v (.slice g N c)) → wpList Try.prog ops Q rest (a.put o.dst (.slice g N c)) w') :
    wpList Try.prog ops Q (o :: rest) a W := by
  obtain ⟨i0, hi, hz0, hz1, hz2⟩ := info_parts info_u64
  have e2 : T.length + ys.length = N := by rw [← hN.out, ← hR.out, List.length_append]
  exact wpList_plain hgd fun _ hK => wp_append_rows W s x 26 34 ho W0.heap.size hF.out.size i0 _ 1 8 Try.underlying26 hi hz0 hz1 hz2 rfl (by decide) (by decide) encW_len encW_one v T.length T hs hown.out vx ys hx hvx.out R hR.out N e2 hn fun g c w' h1 h2 h3 => hK _ _ (h g c w' h1 (hF.out.grown_new h2 (own_new hown.out)) (.of_grown h2 fun k o e _ hk => hk e) h3)
section
variable {X : Nat → Prop} {w : World} {G : Nat} {l : List Nx} {ms : List MV} {many : Int} {c : GV}
theorem Grp.seen (h : Grp X w G l ms many c) (h0 : 0 < l.length) : ∃ gn cn, ∃ bb : Nat → Nat, (∀ i (hi : i < l.length), bb i = l[i].b) ∧ ∀ W, Fr (fun _ _ => True) w W → W.cell? ⟨G, 0, none⟩ = some (.slice (some ⟨gn, 0, none⟩) l.length cn) ∧ ∀ i, i < l.length → W.cell? ⟨gn, i, none⟩ = some (.pointer (some ⟨bb i, 0, none⟩)) ∧ W.cell? ⟨bb i, 6, none⟩ = some (.int .u64 ((l.map fun (x : Nx) => x.n).getD i default).tm) ∧ W.cell? ⟨bb i, 7, none⟩ = some (.int .u64 ((l.map fun (x : Nx) => x.n).getD i default).commit) := by
  obtain ⟨gn, cn, V⟩ := h.view h0
  have hb : ∀ i (hi : i < l.length), (l.map fun (x : Nx) => x.b).getD i 0 = l[i].b := fun i hi => by rw [← getD_get (by rw [List.length_map]; exact hi), List.getElem_map]
  refine ⟨gn, cn, fun i => (l.map fun (x : Nx) => x.b).getD i 0, hb, fun W f => ⟨(V W f).1, fun i hi => ?_⟩⟩
  obtain ⟨q, hq⟩ := h.nd _ (List.getElem_mem hi)
  have e : (l.map fun (x : Nx) => x.n).getD i default = l[i].n := by
    rw [← getD_get (by rw [List.length_map]; exact hi), List.getElem_map]
  simp only [hb i hi, e]
  exact ⟨(V W f).2 i hi, (hq.cells f).2.2.2.2.2.2.1, (hq.cells f).2.2.2.2.2.2.2.1⟩
end
set_option maxRecDepth 100000 in
theorem grows_none (w : World) (a : Option Addr) (len cap : Nat) (z : Int) (hz : (z < 1 ∨ 5 < z)) :
    Calls Try.prog 3 #[.int .i64 z, .slice a len cap] w fun e w' => e = .returned (.bool true) ∧ Fr (fun b _ => b < w.heap.size) w w' := by
  have AW := Lib.hid (awake_calls w)
  have BC := Lib.hid (fun W => begun_none W z hz)
  clear hz
  go_enter Try.func3, Try.ntmps3
  go_wp2_with fail
  (with_reducible refine AW.out.mono ?_)
  rintro e w1 ⟨rfl, f1⟩
  have F1 := Lib.hid f1
  have BC1 := Lib.hid (BC.out w1)
  clear f1 AW BC
  go_wp2_with fail
  (with_reducible refine BC1.out.mono ?_)
  rintro e w2 ⟨rfl, rfl⟩
  go_wp2
  go_ret
  exact ⟨rfl, F1.out.mono fun _ _ _ => trivial⟩
set_option maxRecDepth 100000 in
theorem grows_long (w : World) (a : Option Addr) (len cap : Nat) (many : Nat) (h1 : 1 ≤ many) (h5 : many ≤ 5) (hl : 300 < len) :
    Calls Try.prog 3 #[.int .i64 (many : Nat), .slice a len cap] w fun e w' => e = .returned (.bool true) ∧ Fr (fun b _ => b < w.heap.size) w w' := by
  have AW := Lib.hid (awake_calls w)
  have BC := Lib.hid (fun W => begun_calls W many h1 h5)
  have hl' : (300 : Int) < (len : Int) := by omega
  clear h1 h5 hl
  go_enter Try.func3, Try.ntmps3
  go_wp2_with fail
  (with_reducible refine AW.out.mono ?_)
  rintro e w1 ⟨rfl, f1⟩
  have F1 := Lib.hid f1
  have BC1 := Lib.hid (BC.out w1)
  clear f1 AW BC
  go_wp2_with fail
  (with_reducible refine BC1.out.mono ?_)
  rintro e w2 ⟨X, G, l, c, rfl, -, -, f2⟩
  have F2 := Lib.hid (F1.out.trans f2)
  clear f2 BC1
  go_wp2
  go_ret
  exact ⟨rfl, F2.out.mono fun _ _ _ => trivial⟩
set_option maxRecDepth 100000 in
set_option maxHeartbeats 8000000 in
theorem grows_main (w : World) (a : Option Addr) (len cap : Nat) (many : Nat) (h1 : 1 ≤ many) (h5 : many ≤ 5) (hl : len ≤ 300) (b0 off : Nat) (ha : 0 < len → a = some ⟨b0, off, none⟩) (hops : ∀ i, i < len → ∃ d k : Int, w.cell? ⟨b0, off + i * 2, none⟩ = some (.int .i64 d) ∧ w.cell? ⟨b0, off + i * 2 + 1, none⟩ = some (.int .i64 k)) :
    Calls Try.prog 3 #[.int .i64 (many : Nat), .slice a len cap] w fun e w' => e = .returned (.bool true) ∧ Fr (fun b _ => b < w.heap.size) w w' := by
  have AW := Lib.hid (awake_calls w)
  have BC := Lib.hid (fun W => begun_calls W many h1 h5)
  have hl' : ¬ (300 : Int) < (len : Int) := by omega
  have HA := Lib.hid ha
  have HOP := Lib.hid hops
  have HM := Lib.hid (And.intro h1 (And.intro h5 hl))
  clear h1 h5 hl ha hops
  go_enter Try.func3, Try.ntmps3
  go_wp2_with fail
  (with_reducible refine AW.out.mono ?_)
  rintro e w1 ⟨rfl, f1⟩
  have F1 := Lib.hid f1
  have BC1 := Lib.hid (BC.out w1)
  clear f1 AW BC
  go_wp2_with fail
  (with_reducible refine BC1.out.mono ?_)
  rintro e w2 ⟨X, G, l, c, rfl, ⟨g0, c1, c2, c3, l0⟩, hns, f2⟩
  have F2 : Hid (Fr (fun b _ => b < w.heap.size) w w2) := (F1.out.trans f2).mono fun _ _ _ => trivial
  have hll : l.length = many := by have := congrArg List.length hns; rw [List.length_map, List.length_map, cfN_len] at this; exact this
  have G0 : Hid (Grp X w2 G l [] 0 { c with sz := w.heap.size } ∧ Low (fun q => q < w.heap.size) X G { c with sz := w.heap.size } ∧ GOk 10 l [] 0 { c with sz := w.heap.size } ∧ l.length = many ∧ c.ns ≤ 0 ∧ c.nt ≤ 0 ∧ c.nl ≤ 0) := by
    refine ⟨g0.resz w.heap.size (Nat.le_trans F1.out.size f2.size), LowN.low (B := w.heap.size) ⟨Nat.le_trans F1.out.size l0.g, fun k q => Nat.le_trans F1.out.size (l0.x k q), fun k q => Nat.le_trans F1.out.size (l0.n k q), fun k q => Nat.le_trans F1.out.size (l0.m k q), fun k q => Nat.le_trans F1.out.size (l0.s k q), fun k q => Nat.le_trans F1.out.size (l0.t k q), fun k q => Nat.le_trans F1.out.size (l0.l k q)⟩ w.heap.size (Nat.le_refl _), ⟨by decide, fun x hx => ?_, fun m hm => (by cases hm), fun m hm => (by cases hm), by have := HM.out; omega, by show 0 ≤ 700; decide, ⟨by decide, by decide⟩, by show c.ns ≤ 700000 ∧ c.nt ≤ 700000 ∧ c.nl ≤ 700000; omega⟩, hll, by omega, by omega, by omega⟩
    have hx' : x.n ∈ l.map (·.n) := List.mem_map.2 ⟨x, hx, rfl⟩
    rw [hns] at hx'
    obtain ⟨i, hi, e⟩ := List.mem_map.1 hx'
    unfold cfN at hi
    obtain ⟨j, hj, rfl⟩ := List.mem_map.1 hi
    have hj := List.mem_range.1 hj
    rw [← e]
    have := HM.out
    exact ⟨⟨Nat.zero_le _, Nat.zero_le _, Nat.zero_le _, rfl, rfl, rep_le (Nat.zero_le _), rep_le (Nat.zero_le _)⟩, ⟨j, rfl, by omega⟩, by show 0 < (cfN many).length ∧ (cfN many).length ≤ 16; rw [cfN_len]; omega, fun y hy => by
      have hy : y ∈ cfN many := hy
      unfold cfN at hy
      obtain ⟨q, _, rfl⟩ := List.mem_map.1 hy
      omega, Nat.zero_le _⟩
  clear g0 c1 c2 c3 l0 hns f2 hll BC1
  go_wp2
  go_loopw [7, 8, 9, 10, 11] (fun v7 v8 v9 v10 v11 wr => ∃ (k : Nat) (X : Nat → Prop) (l : List Nx) (ms : List MV) (mn : Int) (c : GV), v7 = .int .i64 (k : Nat) ∧ k ≤ len ∧ Hid (Grp X wr G l ms mn c ∧ Low (fun q => q < w.heap.size) X G c ∧ GOk (10 + 2 * k) l ms mn c ∧ l.length = many ∧ (0 ≤ mn ∧ mn ≤ k) ∧ c.ns ≤ 200 * k ∧ c.nt ≤ k ∧ c.nl ≤ k) ∧ Hid (Fr (fun b _ => b < w.heap.size) w wr)) (fun v7 _ _ _ _ _ => len - (intOf v7).toNat)
  case atStart => exact ⟨0, X, l, [], 0, _, rfl, Nat.zero_le _, ⟨G0.out.1, G0.out.2.1, G0.out.2.2.1, G0.out.2.2.2.1, ⟨Int.le_refl _, Int.le_refl _⟩, by show c.ns ≤ _; have := G0.out.2.2.2.2; omega, by show c.nt ≤ _; have := G0.out.2.2.2.2; omega, by show c.nl ≤ _; have := G0.out.2.2.2.2; omega⟩, F2.out⟩
  case round =>
    clear G0 F2
    obtain ⟨wo, rfl⟩ : ∃ Y, Y = wr := ⟨_, rfl⟩
    obtain ⟨k, X1, l1, ms, mn, c1, rfl, hk, HG, HF⟩ := hrel
    by_cases hlt : k < len
    · have hltI : (k : Int) < (len : Int) := by omega
      obtain ⟨gn, cn, bb, -, V⟩ := HG.out.1.seen (by have := HM.out; have := HG.out.2.2.2.1; omega)
      obtain ⟨tt, htt⟩ : ∃ f : Nat → Nat, f = fun i => ((l1.map fun (x : Nx) => x.n).getD i default).tm := ⟨_, rfl⟩
      obtain ⟨cc, hcc⟩ : ∃ f : Nat → Nat, f = fun i => ((l1.map fun (x : Nx) => x.n).getD i default).commit := ⟨_, rfl⟩
      have VV : Hid (∀ W, Fr (fun _ _ => True) wo W → W.cell? ⟨G, 0, none⟩ = some (.slice (some ⟨gn, 0, none⟩) many cn) ∧ ∀ i, i < many → W.cell? ⟨gn, i, none⟩ = some (.pointer (some ⟨bb i, 0, none⟩)) ∧ W.cell? ⟨bb i, 6, none⟩ = some (.int .u64 (tt i : Nat)) ∧ W.cell? ⟨bb i, 7, none⟩ = some (.int .u64 (cc i : Nat))) := by
        show ∀ W, _
        rw [htt, hcc]
        intro W f
        have := V W f
        rw [HG.out.2.2.2.1] at this
        exact this
      have HTC : Hid (∀ i, tt i = ((l1.map fun (x : Nx) => x.n).getD i default).tm ∧ cc i = ((l1.map fun (x : Nx) => x.n).getD i default).commit) := fun i => by rw [htt, hcc]; exact ⟨rfl, rfl⟩
      clear V htt hcc
      go_wp2
      go_loopw [8, 9, 10] (fun v8 v9 v10 w3 => ∃ (k2 : Nat) (g1 : Option Addr) (z1 : Nat) (g2 : Option Addr) (z2 : Nat), v10 = .int .i64 (k2 : Nat) ∧ k2 ≤ many ∧ v8 = .slice g1 k2 z1 ∧ v9 = .slice g2 k2 z2 ∧ Hid (w3.ownsRow wo.heap.size 34 1 (.slice g1 k2 z1) k2 (((List.range k2).map cc).flatMap encW)) ∧ Hid (w3.ownsRow wo.heap.size 34 1 (.slice g2 k2 z2) k2 (((List.range k2).map tt).flatMap encW)) ∧ Hid (∀ b, (Value.slice g1 k2 z1).ownBlock = some b → (Value.slice g2 k2 z2).ownBlock ≠ some b) ∧ Hid (Fr (fun _ _ => True) wo w3)) (fun _ _ v10 _ => many - (intOf v10).toNat)
      case atStart => exact ⟨0, none, 0, none, 0, rfl, Nat.zero_le _, rfl, rfl, ⟨rfl, .inl ⟨rfl, rfl⟩⟩, ⟨rfl, .inl ⟨rfl, rfl⟩⟩, (fun b e => by cases e), Fr.refl _ _⟩
      case round =>
        obtain ⟨w3, rfl⟩ : ∃ Y, Y = wr := ⟨_, rfl⟩
        obtain ⟨k2, g1, z1, g2, z2, rfl, hk2, rfl, rfl, HO1, HO2, HD, HF3⟩ := hrel
        by_cases hl2 : k2 < many
        · have hl2I : (k2 : Int) < (many : Int) := by omega
          obtain ⟨y0, yy⟩ := VV.out w3 HF3.out
          obtain ⟨yp, y6, y7⟩ := yy k2 hl2
          obtain ⟨bk, hbk⟩ : ∃ x, bb k2 = x := ⟨_, rfl⟩
          obtain ⟨tk, htk⟩ : ∃ x, tt k2 = x := ⟨_, rfl⟩
          obtain ⟨ck, hck⟩ : ∃ x, cc k2 = x := ⟨_, rfl⟩
          rw [hbk] at yp y6 y7
          rw [htk] at y6
          rw [hck] at y7
          have lr1 : ((List.range k2).map cc).length = k2 := by simp
          have lr2 : ((List.range k2).map tt).length = k2 := by simp
          have HR1 : Hid ((List.range k2).map cc ++ [ck] = (List.range (k2 + 1)).map cc) := by show _ = _; rw [List.range_succ, List.map_append, ← hck]; rfl
          have HR2 : Hid ((List.range k2).map tt ++ [tk] = (List.range (k2 + 1)).map tt) := by show _ = _; rw [List.range_succ, List.map_append, ← htk]; rfl
          have HL1 : Hid (((List.range (k2 + 1)).map cc).length = k2 + 1) := by show _ = _; simp
          have HL2 : Hid (((List.range (k2 + 1)).map tt).length = k2 + 1) := by show _ = _; simp
          have hn1 : k2 + 1 ≤ 1000000 := by have := HM.out; omega
          obtain ⟨W3, hW3⟩ : ∃ Y, w3.alloc (.cells #[.int .u64 (ck : Nat)] 34 (0, 0)) = Y := ⟨_, rfl⟩
          have f3 : Fr (fun _ _ => True) w3 W3 := hW3 ▸ (Fr.refl _ _).alloc _
          have ROW := Lib.hid (rows_oneW (hW3 ▸ heap_alloc_new w3 (.cells #[.int .u64 (ck : Nat)] 34 (0, 0)) : W3.heap[w3.heap.size]? = _))
          have FW3 := Lib.hid (HF3.out.trans f3)
          have OW1 : Hid (W3.ownsRow wo.heap.size 34 1 (.slice g1 k2 z1) ((List.range k2).map cc).length (((List.range k2).map cc).flatMap encW)) := by
            show World.ownsRow _ _ _ _ _ _ _
            rw [lr1]; exact ownsRow_fr HO1.out f3 fun _ _ _ _ => trivial
          have OW2 : Hid (W3.ownsRow wo.heap.size 34 1 (.slice g2 k2 z2) k2 (((List.range k2).map tt).flatMap encW)) := ownsRow_fr HO2.out f3 fun _ _ _ _ => trivial
          have LR2 := Lib.hid lr2
          have HVK := Lib.hid (And.intro hbk (And.intro htk (And.intro hck hl2)))
          clear f3 yy hbk htk hck lr1 lr2
          go_wp2_with (at_builtin; (try rw [hW3]); refine wpList_append_us wo W3 FW3 rfl _ _ rfl (.slice g1 k2 z1) ((List.range k2).map cc) rfl OW1 _ [ck] rfl ROW _ HR1 (k2 + 1) HL1 hn1 ?_)
          intro g5 z5 W5 O5 F5 G5 N5
          clear hW3 y0 yp y6 y7
          obtain ⟨y0, yy⟩ := VV.out W5 F5.out
          obtain ⟨yp, y6, y7⟩ := yy k2 HVK.out.2.2.2
          rw [HVK.out.1] at yp y6 y7
          rw [HVK.out.2.1] at y6
          have OW5 : Hid (W5.ownsRow wo.heap.size 34 1 (.slice g2 k2 z2) k2 (((List.range k2).map tt).flatMap encW)) := ownsRow_fr OW2.out G5.out fun b o e _ e2 => HD.out b e2 e
          have HD5 : Hid (∀ b, (Value.slice g5 (k2 + 1) z5).ownBlock = some b → (Value.slice g2 k2 z2).ownBlock ≠ some b) := fun b e => by
            rcases N5.out with q | ⟨j, q, hj⟩
            · rw [q] at e; exact HD.out b e
            · rw [q] at e
              cases e
              intro e2
              obtain ⟨cur, hc⟩ := own_tag OW2.out e2
              have := lt_of_some hc
              omega
          obtain ⟨W6, hW6⟩ : ∃ Y, W5.alloc (.cells #[.int .u64 (tk : Nat)] 34 (0, 0)) = Y := ⟨_, rfl⟩
          have f6 : Fr (fun _ _ => True) W5 W6 := hW6 ▸ (Fr.refl _ _).alloc _
          have ROW6 := Lib.hid (rows_oneW (hW6 ▸ heap_alloc_new W5 (.cells #[.int .u64 (tk : Nat)] 34 (0, 0)) : W6.heap[W5.heap.size]? = _))
          have FW6 := Lib.hid (F5.out.trans f6)
          have OW6 : Hid (W6.ownsRow wo.heap.size 34 1 (.slice g2 k2 z2) ((List.range k2).map tt).length (((List.range k2).map tt).flatMap encW)) := by
            show World.ownsRow _ _ _ _ _ _ _
            rw [LR2.out]; exact ownsRow_fr OW5.out f6 fun _ _ _ _ => trivial
          have OW7 : Hid (W6.ownsRow wo.heap.size 34 1 (.slice g5 (k2 + 1) z5) (k2 + 1) (((List.range (k2 + 1)).map cc).flatMap encW)) := by
            have hO := ownsRow_fr O5.out f6 fun _ _ _ _ => trivial
            show World.ownsRow _ _ _ _ _ _ _
            first | exact hO | (rw [← encW_succ, HVK.out.2.2.1]; exact hO) | (rw [← encW_succ]; exact hO)
          clear f6 yy
          go_wp2_with (at_builtin; (try rw [hW6]); refine wpList_append_us wo W6 FW6 rfl _ _ rfl (.slice g2 k2 z2) ((List.range k2).map tt) rfl OW6 _ [tk] rfl ROW6 _ HR2 (k2 + 1) HL2 hn1 ?_)
          intro g8 z8 W8 O8 F8 G8 N8
          clear hW6 y0 yp y6 y7
          have OW8 : Hid (W8.ownsRow wo.heap.size 34 1 (.slice g5 (k2 + 1) z5) (k2 + 1) (((List.range (k2 + 1)).map cc).flatMap encW)) := ownsRow_fr OW7.out G8.out fun b o e _ e2 => HD5.out b e e2
          have OT8 : Hid (W8.ownsRow wo.heap.size 34 1 (.slice g8 (k2 + 1) z8) (k2 + 1) (((List.range (k2 + 1)).map tt).flatMap encW)) := by
            have hO := O8.out
            show World.ownsRow _ _ _ _ _ _ _
            first | exact hO | (rw [← encW_succ, HVK.out.2.1]; exact hO) | (rw [← encW_succ]; exact hO)
          have HD8 : Hid (∀ b, (Value.slice g5 (k2 + 1) z5).ownBlock = some b → (Value.slice g8 (k2 + 1) z8).ownBlock ≠ some b) := fun b e e2 => by
            rcases N8.out with q | ⟨j, q, hj⟩
            · rw [q] at e2; exact HD5.out b e e2
            · rw [q] at e2
              cases e2
              obtain ⟨cur, hc⟩ := own_tag OW7.out e
              have := lt_of_some hc
              omega
          go_wp2
          go_roundw
          case rel => exact ⟨k2 + 1, g5, z5, g8, z8, by go_num, by omega, rfl, rfl, OW8.out, OT8.out, HD8.out, F8.out⟩
          case measure => simp [intOf]; omega
        · have hge : ¬ (k2 : Int) < (many : Int) := by omega
          obtain ⟨y0, -⟩ := VV.out w3 HF3.out
          obtain rfl : k2 = many := by omega
          obtain ⟨gg1, rfl⟩ : ∃ gg, g1 = some ⟨gg, 0, none⟩ := by
            rcases HO1.out.2 with ⟨-, e⟩ | ⟨g, cap, cur, e, _⟩
            · have := HM.out; omega
            · cases e; exact ⟨g, rfl⟩
          obtain ⟨gg2, rfl⟩ : ∃ gg, g2 = some ⟨gg, 0, none⟩ := by
            rcases HO2.out.2 with ⟨-, e⟩ | ⟨g, cap, cur, e, _⟩
            · have := HM.out; omega
            · cases e; exact ⟨g, rfl⟩
          obtain ⟨d, kk, u0, u1⟩ := HOP.out k hlt
          have e0 := HA.out (by omega)
          subst e0
          have FW3 : Hid (Fr (fun b _ => b < w.heap.size) w w3) := HF.out.trans (HF3.out.mono fun _ _ _ => trivial)
          have u0 := FW3.out.old u0
          have u1 := FW3.out.old u1
          have OKS : GOk (10 + 2 * k) l1 ms mn { c1 with sz := w3.heap.size } := ⟨HG.out.2.2.1.b, HG.out.2.2.1.gd, HG.out.2.2.1.bm, HG.out.2.2.1.es, HG.out.2.2.1.ln, HG.out.2.2.1.lm, HG.out.2.2.1.mn, HG.out.2.2.1.nn⟩
          have PC := Lib.hid (play_calls ((HG.out.1.tt HF3.out).resz w3.heap.size (Nat.le_refl _)) (fun q => q < w.heap.size ∨ (wo.heap.size ≤ q ∧ q < w3.heap.size)) (HG.out.2.1.more HG.out.1 w3.heap.size HF3.out.size) (10 + 2 * k) OKS d kk)
          clear hge HD
          go_wp2_with fail
          clear u0 u1 y0
          (with_reducible refine PC.out.mono ?_)
          rintro e W4 ⟨X2, l2, ms2, mn2, c2, rfl, g2', l2w, hp, hnn0, f4⟩
          have hnn : c2.ns ≤ c1.ns + 200 ∧ c2.nt ≤ c1.nt + 1 ∧ c2.nl ≤ c1.nl + 1 ∧ mn ≤ mn2 ∧ mn2 ≤ mn + 1 := hnn0
          clear hnn0
          obtain ⟨pl, pu, -, -, -⟩ := playR_good hp (fun n q => by obtain ⟨x, hx, rfl⟩ := List.mem_map.1 q; exact HG.out.2.2.1.gd x hx) (fun m q => by obtain ⟨x, hx, rfl⟩ := List.mem_map.1 q; exact HG.out.2.2.1.bm x hx) (by rw [List.length_map]; exact HG.out.2.2.1.lm)
          rw [List.length_map, List.length_map] at pl
          have hl2n : l2.length = k2 := pl.trans HG.out.2.2.2.1
          have OK2 := HG.out.2.2.1.next (c' := { c2 with sz := w.heap.size }) (many' := mn2) hp (by have := HM.out; omega) (by have := HG.out.2.2.2.2.1; have := HM.out; omega) (by show c2.ns ≤ 700000 ∧ c2.nt ≤ 700000 ∧ c2.nl ≤ 700000; have := HG.out.2.2.2.2.2; have := HM.out; omega)
          have G2 : Hid (Grp X2 W4 G l2 ms2 mn2 { c2 with sz := w.heap.size } ∧ Low (fun q => q < w.heap.size) X2 G { c2 with sz := w.heap.size } ∧ GOk (10 + 2 * (k + 1)) l2 ms2 mn2 { c2 with sz := w.heap.size } ∧ l2.length = k2 ∧ (0 ≤ mn2 ∧ mn2 ≤ ((k + 1 : Nat) : Int)) ∧ c2.ns ≤ 200 * (k + 1) ∧ c2.nt ≤ k + 1 ∧ c2.nl ≤ k + 1) :=
            ⟨g2'.resz w.heap.size (Nat.le_trans FW3.out.size f4.size), ⟨fun q => l2w.g (.inl q), fun k e q => l2w.x k e (.inl q), fun k e q => l2w.n k e (.inl q), fun k e q => l2w.m k e (.inl q), fun k e q => l2w.s k e (.inl q), fun k e q => l2w.t k e (.inl q), fun k e q => l2w.l k e (.inl q), fun q h => h⟩, OK2, hl2n, by have := HG.out.2.2.2.2.1; omega, by have := HG.out.2.2.2.2.2; omega, by have := HG.out.2.2.2.2.2; omega, by have := HG.out.2.2.2.2.2; omega⟩
          have FW4 : Hid (Fr (fun b _ => b < w.heap.size) w W4) := FW3.out.trans (f4.mono fun _ _ h => .inl h)
          have O14 : Hid (W4.ownsRow wo.heap.size 34 1 (.slice (some ⟨gg1, 0, none⟩) k2 z1) k2 (((List.range k2).map cc).flatMap encW)) := ownsRow_fr HO1.out f4 fun b o e ho => .inr ⟨own_new HO1.out b e, lt_of_some ho⟩
          have O24 : Hid (W4.ownsRow wo.heap.size 34 1 (.slice (some ⟨gg2, 0, none⟩) k2 z2) k2 (((List.range k2).map tt).flatMap encW)) := ownsRow_fr HO2.out f4 fun b o e ho => .inr ⟨own_new HO2.out b e, lt_of_some ho⟩
          have UP : Hid (∀ i, i < k2 → cc i ≤ ((l2.map fun (x : Nx) => x.n).getD i default).commit ∧ tt i ≤ ((l2.map fun (x : Nx) => x.n).getD i default).tm) := fun i hi => by
            rw [(HTC.out i).1, (HTC.out i).2]
            have h1 : i < (l1.map (·.n)).length := by rw [List.length_map, HG.out.2.2.2.1]; exact hi
            have h2 : i < (l2.map (·.n)).length := by rw [List.length_map, hl2n]; exact hi
            rw [← getD_get h1, ← getD_get h2]
            have := pu i _ _ (List.getElem?_eq_getElem h1) (List.getElem?_eq_getElem h2)
            exact ⟨this.commit, this.tm⟩
          have CE : Hid (∀ i, i < k2 → ∀ W, Fr (fun _ _ => True) W4 W → W.cell? ⟨gg1, i, none⟩ = some (.int .u64 (cc i : Nat)) ∧ W.cell? ⟨gg2, i, none⟩ = some (.int .u64 (tt i : Nat))) := fun i hi W f => by
            have e1 := own_cell1 O14.out i (by rw [encW_flat]; simp; exact hi)
            have e2 := own_cell1 O24.out i (by rw [encW_flat]; simp; exact hi)
            refine ⟨f.cell (fun _ _ => trivial) (e1.trans ?_), f.cell (fun _ _ => trivial) (e2.trans ?_)⟩
            · simp only [encW_flat, List.getElem_map, List.getElem_range]
            · simp only [encW_flat, List.getElem_map, List.getElem_range]
          obtain ⟨gn2, cn2, bb2, -, V2⟩ := g2'.seen (by rw [hl2n]; have := HM.out; omega)
          obtain ⟨t2, ht2⟩ : ∃ f : Nat → Nat, f = fun i => ((l2.map fun (x : Nx) => x.n).getD i default).tm := ⟨_, rfl⟩
          obtain ⟨c2f, hc2⟩ : ∃ f : Nat → Nat, f = fun i => ((l2.map fun (x : Nx) => x.n).getD i default).commit := ⟨_, rfl⟩
          have VV2 : Hid (∀ W, Fr (fun _ _ => True) W4 W → W.cell? ⟨G, 0, none⟩ = some (.slice (some ⟨gn2, 0, none⟩) k2 cn2) ∧ ∀ i, i < k2 → W.cell? ⟨gn2, i, none⟩ = some (.pointer (some ⟨bb2 i, 0, none⟩)) ∧ W.cell? ⟨bb2 i, 6, none⟩ = some (.int .u64 (t2 i : Nat)) ∧ W.cell? ⟨bb2 i, 7, none⟩ = some (.int .u64 (c2f i : Nat))) := by
            show ∀ W, _
            rw [ht2, hc2]
            intro W f
            have := V2 W f
            rw [hl2n] at this
            exact this
          have UP2 : Hid (∀ i, i < k2 → cc i ≤ c2f i ∧ tt i ≤ t2 i) := by
            show ∀ i, _
            rw [ht2, hc2]
            exact UP.out
          clear g2' l2w hp hnn f4 pl pu hl2n OK2 V2 ht2 hc2 PC OKS
          go_wp2
          go_loopw [11] (fun v11 w6 => ∃ k3 : Nat, v11 = .int .i64 (k3 : Nat) ∧ k3 ≤ k2 ∧ Hid (Fr (fun _ _ => True) W4 w6)) (fun v11 _ => k2 - (intOf v11).toNat)
          case atStart => exact ⟨0, rfl, Nat.zero_le _, Fr.refl _ _⟩
          case round =>
            obtain ⟨w6, rfl⟩ : ∃ Y, Y = wr := ⟨_, rfl⟩
            obtain ⟨k3, rfl, hk3, HF6⟩ := hrel
            by_cases hl3 : k3 < k2
            · have hl3I : (k3 : Int) < (k2 : Int) := by omega
              obtain ⟨y0, yy⟩ := VV2.out w6 HF6.out
              obtain ⟨yp, y6, y7⟩ := yy k3 hl3
              obtain ⟨p1, p2⟩ := CE.out k3 hl3 w6 HF6.out
              obtain ⟨n1, n2⟩ := UP2.out k3 hl3
              obtain ⟨bk, hbk⟩ : ∃ x, bb2 k3 = x := ⟨_, rfl⟩
              obtain ⟨ca, hca⟩ : ∃ x, cc k3 = x := ⟨_, rfl⟩
              obtain ⟨ta, hta⟩ : ∃ x, tt k3 = x := ⟨_, rfl⟩
              obtain ⟨cb, hcb⟩ : ∃ x, c2f k3 = x := ⟨_, rfl⟩
              obtain ⟨tb, htb⟩ : ∃ x, t2 k3 = x := ⟨_, rfl⟩
              rw [hbk] at yp y6 y7
              rw [htb] at y6 n2
              rw [hcb] at y7 n1
              rw [hca] at p1 n1
              rw [hta] at p2 n2
              have gA : decide (cb < ca) = false := decide_eq_false (by omega)
              have gB : decide (tb < ta) = false := decide_eq_false (by omega)
              clear yy hbk hca hta hcb htb n1 n2
              go_wp2_with fail
              go_quiet (fail)
              have F6 : Hid (Fr (fun _ _ => True) W4 (w6.drewN nq)) := HF6.out.drewN nq
              have hm5 : k2 ≤ 5 := by have := HM.out; omega
              clear y0 yp y6 y7 p1 p2
              go_wp2
              go_roundw
              case rel => exact ⟨k3 + 1, by go_num, by omega, F6.out⟩
              case measure => simp [intOf]; omega
            · have hge3 : ¬ (k3 : Int) < (k2 : Int) := by omega
              obtain ⟨y0, -⟩ := VV2.out w6 HF6.out
              go_wp2
              go_roundw
              case rel => exact ⟨k + 1, X2, l2, ms2, mn2, _, by go_num, by omega, ⟨G2.out.1.tt HF6.out, G2.out.2⟩, FW4.out.trans (HF6.out.mono fun _ _ _ => trivial)⟩
              case measure => simp [intOf]; omega
    · have hge : ¬ (k : Int) < (len : Int) := by omega
      go_wp2
      go_ret
      exact ⟨rfl, HF.out⟩
set_option maxRecDepth 100000 in
theorem ops12_at {w : World} {a : Option Addr} {len cap : Nat} (h : Rd Try.prog w 22 [.slice a len cap]) : ∃ b off, (0 < len → a = some ⟨b, off, none⟩) ∧ ∀ i, i < len → ∃ d k : Int, w.cell? ⟨b, off + i * 2, none⟩ = some (.int .i64 d) ∧ w.cell? ⟨b, off + i * 2 + 1, none⟩ = some (.int .i64 k) := by
  obtain ⟨a', len', cap', hv, _, _, _, hc⟩ := h.slice (sz := 2) Try.underlying22 (by kernel_rfl)
  obtain ⟨rfl, rfl, rfl⟩ : a = a' ∧ len = len' ∧ cap = cap' := by simpa using hv
  have key : ∀ i, i < len → ∃ ad, ∃ d k : Int, a = some ad ∧ w.cell? (ad.add (i * 2)) = some (.int .i64 d) ∧ w.cell? (ad.add (i * 2 + 1)) = some (.int .i64 k) := by
    intro i hi
    obtain ⟨ad, cs, ha, hcl, hat, hr⟩ := hc i hi
    obtain ⟨_, hf⟩ := hr.struct (sz := 2) Try.underlying43 (by kernel_rfl)
    obtain ⟨c0, c1, rfl⟩ := list2 hcl
    obtain ⟨x0, h0, _⟩ := (show Rd Try.prog w 3 [c0] from hf 0 _ rfl).int Try.underlying3
    obtain ⟨x1, h1, _⟩ := (show Rd Try.prog w 3 [c1] from hf 1 _ rfl).int Try.underlying3
    have e0 : c0 = .int .i64 x0 := by injection h0
    have e1 : c1 = .int .i64 x1 := by injection h1
    subst e0 e1
    exact ⟨ad, x0, x1, ha, hat 0 (by omega), hat 1 (by omega)⟩
  by_cases hl : 0 < len
  · obtain ⟨ad, d, k, ha, e0, _⟩ := key 0 hl
    rw [Nat.zero_mul] at e0
    obtain ⟨b, off, rfl⟩ := spot_of e0
    refine ⟨b, off, fun _ => ha, fun i hi => ?_⟩
    obtain ⟨ad', d, k, ha', e0, e1⟩ := key i hi
    rw [ha] at ha'
    cases ha'
    simp only [add_at] at e0 e1
    exact ⟨d, k, e0, e1⟩
  · exact ⟨0, 0, fun h => absurd h hl, fun i hi => by omega⟩
theorem grows_walk (w : World) (many : Int) (a : Option Addr) (len cap : Nat) (h : Rd Try.prog w 22 [.slice a len cap]) :
    Calls Try.prog 3 #[.int .i64 many, .slice a len cap] w fun e w' => e = .returned (.bool true) ∧ Below w.heap.size w w' := by
  by_cases hz : many < 1 ∨ 5 < many
  · exact (grows_none w a len cap many hz).mono fun e w' ⟨h1, h2⟩ => ⟨h1, h2.below (Nat.le_refl _)⟩
  · obtain ⟨m, rfl⟩ := Int.eq_ofNat_of_zero_le (show 0 ≤ many by omega)
    by_cases hl : 300 < len
    · exact (grows_long w a len cap m (by omega) (by omega) hl).mono fun e w' ⟨h1, h2⟩ => ⟨h1, h2.below (Nat.le_refl _)⟩
    · obtain ⟨b, off, h1, h2⟩ := ops12_at h
      exact (grows_main w a len cap m (by omega) (by omega) (by omega) b off h1 h2).mono fun e w' ⟨h1, h2⟩ => ⟨h1, h2.below (Nat.le_refl _)⟩
end Go.Proofs.Ytmjccpfchhnfhaa
