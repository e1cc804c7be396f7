/- Texts of the proofs, part 44: what the functions that they reach do, walked; no conditions beyond those that each states. -/
import Derived.Test.YtmjccpfchhnfhaaGreatZz4a236af3cb
import Derived.Test.YtmjccpfchhnfhaaGreatZz92b56f5cfa
set_option linter.unusedVariables false
set_option linter.unusedSimpArgs false
/- Law 12: the chapter's examples, behind the third thing that is done (printed by awake12.py). -/
namespace Go.Proofs.YtmjccpfchhnfhaaGreat
open Go.RowKit
set_option linter.unusedVariables false
set_option linter.unusedSimpArgs false
section
variable {X : Nat → Prop} {w : World} {G : Nat} {l : List Nx} {ms : List MV} {many : Int} {c : GV}
set_option maxRecDepth 100000 in
set_option maxHeartbeats 8000000 in
theorem aw_s13 [Old] [NoOld] {R : Ending → World → Prop} (h : Grp X w G l ms many c) (B0 : Nat → Prop) (hl : Low B0 X G c) (hns : l.map (·.n) = NS4) (hms : ms.map MV.ms = MS3) (fin : ∀ W, Fr (fun q _ => B0 q) w W → R (.returned (.bool true)) W) (u0 u4 u5 u6 u7 u8 u9 u10 u11 u12 u13 u14 u15 u16 u17 u18 u19 u20 u21 u22 u23 u24 u25 u26 u27 u28 u29 u30 u31 u32 u33 u34 u35 u36 u37 u38 u39 u40 u41 u42 u43 u44 u45 u46 u47 u48 u49 u50 u51 u52 u53 u54 u55 u56 u57 u58 u59 u60 u61 u62 u63 u64 u65 u66 u67 u68 u69 u70 u71 u72 u73 u74 u75 u76 u77 u78 u79 u80 u81 u82 u83 u84 u85 u86 u87 u88 u89 u90 u91 u92 u93 u94 u95 u96 u97 u98 u99 u100 u101 u102 u103 u104 u105 u106 u107 u108 u109 u110 u111 u112 u113 u114 u115 u116 u117 u118 u119 u120 u121 u122 u123 u124 u125 u126 u127 u128 u129 u130 u131 u132 u133 u134 u135 u136 u137 u138 u139 u140 u141 u142 u143 u144 u145 u146 u147 u148 u149 u150 u151 u152 u153 u154 u155 u156 u157 u158 u159 u160 u161 u162 u163 u164 u165 u166 u167 u168 u169 u170 u171 u172 u173 u174 u175 u176 u177 u178 u179 u180 u181 u182 u183 u184 u185 u186 u187 u188 u189 u190 u191 u192 u193 u194 u195 : Value) :
  Code.wp Tryz.prog (seqR 13 (bodyC Tryz.f7.body)) (bodyPost Tryz.prog Tryz.f7 R) { tmps := #[u0, .pointer (some ⟨G, 0, none⟩), .bool true, .bool true, u4, u5, u6, u7, u8, u9, u10, u11, u12, u13, u14, u15, u16, u17, u18, u19, u20, u21, u22, u23, u24, u25, u26, u27, u28, u29, u30, u31, u32, u33, u34, u35, u36, u37, u38, u39, u40, u41, u42, u43, u44, u45, u46, u47, u48, u49, u50, u51, u52, u53, u54, u55, u56, u57, u58, u59, u60, u61, u62, u63, u64, u65, u66, u67, u68, u69, u70, u71, u72, u73, u74, u75, u76, u77, u78, u79, u80, u81, u82, u83, u84, u85, u86, u87, u88, u89, u90, u91, u92, u93, u94, u95, u96, u97, u98, u99, u100, u101, u102, u103, u104, u105, u106, u107, u108, u109, u110, u111, u112, u113, u114, u115, u116, u117, u118, u119, u120, u121, u122, u123, u124, u125, u126, u127, u128, u129, u130, u131, u132, u133, u134, u135, u136, u137, u138, u139, u140, u141, u142, u143, u144, u145, u146, u147, u148, u149, u150, u151, u152, u153, u154, u155, u156, u157, u158, u159, u160, u161, u162, u163, u164, u165, u166, u167, u168, u169, u170, u171, u172, u173, u174, u175, u176, u177, u178, u179, u180, u181, u182, u183, u184, u185, u186, u187, u188, u189, u190, u191, u192, u193, u194, u195], defers := [] } w := by
 dsimp only [seqR, bodyC, Tryz.f7]
 have hll : l.length = 3 := by have := congrArg List.length hns; rw [List.length_map] at this; exact this.trans (by decide +kernel)
 obtain ⟨x0, x1, x2, rfl⟩ : ∃ x0 x1 x2, l = [x0, x1, x2] := by match l, hll with | [a, b, d], _ => exact ⟨a, b, d, rfl⟩
 have n0 : x0.n = NS4.getD 0 default := by rw [← hns]; rfl
 have n2 : x2.n = Nd.new 2 (cfN 3) := by rw [← NS4_is.2.2.2, ← hns]; rfl
 have H := Lib.hid h
 have HL := Lib.hid hl
 have FIN := Lib.hid fin
 obtain ⟨gn, cn, V⟩ := h.view (by simp)
 obtain ⟨q0, hq0⟩ := h.nd x0 (by simp)
 obtain ⟨b0, hb0⟩ : ∃ b, x0.b = b := ⟨_, rfl⟩
 obtain ⟨b2, hb2⟩ : ∃ b, x2.b = b := ⟨_, rfl⟩
 rw [hb0] at hq0
 obtain ⟨y0, V1⟩ := V w (Fr.refl _ _)
 have y0 : w.cell? ⟨G, 0, none⟩ = some (.slice (some ⟨gn, 0, none⟩) 3 cn) := y0
 have z0 : w.cell? ⟨gn, 0, none⟩ = some (.pointer (some ⟨b0, 0, none⟩)) := by rw [← hb0]; exact V1 0 (by simp)
 have c7 : w.cell? ⟨b0, 7, none⟩ = some (.int .u64 1) := by
  rw [(hq0.cells (Fr.refl _ w)).2.2.2.2.2.2.2.1, n0, NS4_is.2.1]; rfl
 obtain ⟨g8, hg8⟩ : ∃ x, w.heap.size = x := ⟨_, rfl⟩
 obtain ⟨W1, hW1⟩ : ∃ Y, w.alloc (.cells #[.int .u8 97] 5 (0, 0)) = Y := ⟨_, rfl⟩
 have f1 : Fr (fun _ _ => True) w W1 := hW1 ▸ (Fr.refl _ _).alloc _
 have t1 : W1.heap[g8]? = some (.cells #[.int .u8 97] 5 (0, 0)) := by rw [← hW1, ← hg8]; exact heap_alloc_new _ _
 have BA : BytesAt (RO X) W1 (.slice (some ⟨g8, 0, none⟩) [(97 : UInt8)].length 1) [97] := ⟨_, 1, rfl, Nat.le_refl _, (fun e => by cases e), .inr ⟨g8, 0, _, rfl, t1, ⟨fun hx => by have := h.hx _ hx; omega, .inr ⟨_, _, _, rfl, by decide⟩⟩, fun i hi => by
  have : i = 0 := by have : i < 1 := hi; omega
  subst this
  exact cell_mk t1 rfl⟩⟩
 have AC0 : Calls Tryz.prog 23 #[.pointer (some ⟨b0, 0, none⟩), .int .i64 1, .slice (some ⟨g8, 0, none⟩) 1 1] W1 fun e w' => POut X x0.P W1 b0 (x0.n.propose 1 [97]) e w' := propose_calls (hq0.tt f1) 1 (some ⟨g8, 0, none⟩) 1 [97] BA (by rw [n0]; exact NS4_0.1) (by rw [n0]; exact NS4_0.2.1) 0 (by rw [n0]; exact NS4_0.2.2.1) (by decide) (by rw [n0]; exact NS4_0.2.2.2.1) (by rw [n0]; exact NS4_0.2.2.2.2)
 obtain ⟨r, hr⟩ : ∃ r, x0.n.propose 1 [97] = r := ⟨_, rfl⟩
 rw [hr] at AC0
 have hr2 : r.2 = (2, 0) := by rw [← hr, n0]; exact NS4_is.2.2.1
 obtain ⟨r1, r2, r3⟩ := r
 have e2 : r2 = 2 ∧ r3 = 0 := by cases hr2; exact ⟨rfl, rfl⟩
 obtain ⟨rfl, rfl⟩ := e2
 have AC := Lib.hid AC0
 have PX : Hid (∀ q, x0.P q → X q) := hq0.px
 have F1 := Lib.hid f1
 have HN := Lib.hid (And.intro n0 (And.intro n2 (And.intro hb0 (And.intro hb2 hms))))
 clear h hl fin V V1 hq0 n0 n2 hns hms hll BA t1 f1 AC0 hr hr2 hb0 hb2
 go_wp2_with fail
 try rw [hW1]
 try rw [hg8]
 clear hW1 hg8 y0 z0 c7
 (with_reducible refine AC.out.mono ?_)
 rintro e W2 ⟨⟨q6, rfl, p6⟩, f6⟩
 dsimp only
 have G2 : Hid (Grp X W2 G [⟨x0.b, r1, x0.P⟩, x1, x2] ms many c) := (H.out.tt F1.out).turn 0 (by simp) ⟨q6, by show PNs _ _ _ x0.b _ _; rw [HN.out.2.2.1]; exact p6⟩ (.of f6 PX.out)
 have F2 : Hid (Fr (fun q _ => B0 q) w W2) := (F1.out.mono fun _ _ _ => trivial).trans (f6.mono fun q _ hq e => HL.out.x q (PX.out q e) hq)
 obtain ⟨gn, cn, V⟩ := G2.out.view (by simp)
 obtain ⟨y0, V1⟩ := V W2 (Fr.refl _ _)
 have y0 : W2.cell? ⟨G, 0, none⟩ = some (.slice (some ⟨gn, 0, none⟩) 3 cn) := y0
 have z2 : W2.cell? ⟨gn, 2, none⟩ = some (.pointer (some ⟨b2, 0, none⟩)) := by rw [← HN.out.2.2.2.1]; exact V1 2 (by simp)
 obtain ⟨q2, hq2⟩ := G2.out.nd x2 (by simp)
 rw [HN.out.2.2.2.1] at hq2
 have x6 := (hq2.cells (Fr.refl _ W2)).2.2.2.2.2.2.1
 have w6 := hq2.free (Fr.refl _ W2) 6
 obtain ⟨W3, hW3⟩ : ∃ Y, W2.setCell ⟨b2, 6, none⟩ (.int .u64 3) = Y := ⟨_, rfl⟩
 have hW3s : sets W2 b2 [(6, .int .u64 3)] = W3 := hW3
 have f3 : Fr (fun k _ => k ≠ b2) W2 W3 := hW3s ▸ sets_fr b2 _ W2
 have p3 : PNs X x2.P W3 b2 { x2.n with tm := 3 } q2 := hq2.re f3 (hW3s ▸ sets_heap _ hq2.top) ⟨rfl, rfl⟩ (.inl ⟨rfl, rfl⟩) ⟨rfl, rfl, rfl⟩ ⟨rfl, rfl, rfl, rfl⟩
 have G3 : Hid (Grp X W3 G [⟨x0.b, r1, x0.P⟩, x1, ⟨x2.b, { x2.n with tm := 3 }, x2.P⟩] ms many c) := G2.out.own 2 (by simp) (by show Fr (fun k _ => k ≠ x2.b) W2 W3; rw [HN.out.2.2.2.1]; exact f3) (by show PNs X x2.P W3 x2.b _ _; rw [HN.out.2.2.2.1]; exact p3)
 have F3 : Hid (Fr (fun q _ => B0 q) w W3) := F2.out.trans (f3.mono fun q _ hq e => HL.out.x q (hq2.px _ (e ▸ hq2.pb)) hq)
 have hml : ms.length = 3 := by have := congrArg List.length HN.out.2.2.2.2; rw [List.length_map] at this; exact this.trans MS3_is.1
 obtain ⟨m0, m1, m2, rfl⟩ : ∃ a b d, ms = [a, b, d] := by match ms, hml with | [a, b, d], _ => exact ⟨a, b, d, rfl⟩
 have hm1 : m1.ms = MS3.getD 1 zMs := by rw [← HN.out.2.2.2.2]; rfl
 obtain ⟨gm, cm, VM⟩ := G3.out.mview (by simp)
 obtain ⟨y1, VM1⟩ := VM W3 (Fr.refl _ _)
 have y1 : W3.cell? ⟨G, 1, none⟩ = some (.slice (some ⟨gm, 0, none⟩) 3 cm) := y1
 have v : ∀ j u, (encM m1)[j]? = some u → W3.cell? ⟨gm, 10 + j, none⟩ = some u := fun j u hu => VM1 1 (by simp) j u hu
 have v0 := v 0 _ rfl
 have v1 := v 1 _ rfl
 have v2 := v 2 _ rfl
 have v3 := v 3 _ rfl
 have v4 := v 4 _ rfl
 have v5 := v 5 _ rfl
 have v6 := v 6 _ rfl
 have v7 := v 7 _ rfl
 have v8 := v 8 _ rfl
 have v9 := v 9 _ rfl
 have MA : MsAt X W3 m1 := G3.out.rm.at' m1 (by simp)
 have hix : m1.index + m1.es.length + 1 < 18446744073709551616 ∧ m1.es.length ≤ 900000 := by
  have := MS3_1
  rw [← hm1] at this
  have e : m1.ms.es.length = m1.es.length := by show (m1.es.map EV.en).length = _; rw [List.length_map]
  rw [e] at this
  exact this
 have hn2 : x2.n.log.last + 1 < 18446744073709551616 ∧ x2.n.log.es.length ≤ 900000 := by rw [HN.out.2.1]; decide
 have OA := Lib.hid (onAppend_calls p3 m1 MA hix.1 hix.2 hn2.1 hn2.2)
 obtain ⟨r, hr⟩ : ∃ r, ({ x2.n with tm := 3 } : Nd).onAppend m1.ms = r := ⟨_, rfl⟩
 rw [hr] at OA
 have hr2 : r.2.length = 1 ∧ (r.2.getD 0 zMs).ok = false ∧ (r.2.getD 0 zMs).tm = 3 := by
  rw [← hr, hm1, HN.out.2.1]; exact MS3_on
 have HR := Lib.hid hr2
 unfold cM at OA
 clear f6 p6 V V1 hq2 hW3s f3 p3 VM VM1 v hml hm1 MA hix hn2 hr hr2 AC
 go_wp2_with fail
 try rw [hW3]
 clear hW3 y0 z2 x6 w6
 go_wp2_with fail
 (with_reducible refine OA.out.mono ?_)
 intro e W4 hout
 obtain ⟨X4, P4, q4, va, mvs, rfl, p4, a4, o4, e4⟩ := hout
 have F4 : Hid (Fr (fun q _ => B0 q) w W4) := F3.out.trans (a4.fr.mono fun q _ hq e => HL.out.x q (a4.hp q e) hq)
 have hl4 : mvs.length = 1 := by have := HR.out.1; rw [← e4, List.length_map] at this; exact this
 obtain ⟨mv, rfl⟩ : ∃ a, mvs = [a] := by match mvs, hl4 with | [a], _ => exact ⟨a, rfl⟩
 have hmv : mv.ok = false ∧ mv.tm = 3 := by have := HR.out.2; rw [← e4] at this; exact this
 obtain ⟨av, cv, ev, hcv, h1⟩ := o4.rows
 subst ev
 rcases h1 with h1 | ⟨gv, off, ob, rfl, hob, hkb, hcc⟩
 ·cases h1
 have u7 : W4.cell? ⟨gv, off + 7, none⟩ = some (.bool false) := by rw [← hmv.1]; exact hcc 0 (by simp) 7 _ rfl
 have u3' : W4.cell? ⟨gv, off + 3, none⟩ = some (.int .u64 3) := by
  have := hcc 0 (by simp) 3 _ rfl
  rw [show off + 0 * 10 + 3 = off + 3 by omega, show ([mv] : List MV)[0].tm = 3 from hmv.2] at this
  exact this
 clear p4 a4 o4 e4 hl4 hmv hcc hkb hob hcv OA
 go_wp2
 exact FIN.out _ F4.out
end
end Go.Proofs.YtmjccpfchhnfhaaGreat
/- Law 12: the chapter's examples, behind the second thing that is done (printed by awake12.py). -/
namespace Go.Proofs.YtmjccpfchhnfhaaGreat
open Go.RowKit
set_option linter.unusedVariables false
set_option linter.unusedSimpArgs false
section
variable {X : Nat → Prop} {w : World} {G : Nat} {l : List Nx} {ms : List MV} {many : Int} {c : GV}
set_option maxRecDepth 100000 in
set_option maxHeartbeats 8000000 in
theorem aw_s10 [Old] [NoOld] {R : Ending → World → Prop} (h : Grp X w G l ms many c) (B0 : Nat → Prop) (hl : Low B0 X G c) (B : Nat) (hB : B + 2 ≤ 700000) (ok : GOk B l ms many c) (hns : l.map (·.n) = NS3) (hms : ms.map MV.ms = MS3) (fin : ∀ W, Fr (fun q _ => B0 q) w W → R (.returned (.bool true)) W) (u0 u3 u4 u5 u6 u7 u8 u9 u10 u11 u12 u13 u14 u15 u16 u17 u18 u19 u20 u21 u22 u23 u24 u25 u26 u27 u28 u29 u30 u31 u32 u33 u34 u35 u36 u37 u38 u39 u40 u41 u42 u43 u44 u45 u46 u47 u48 u49 u50 u51 u52 u53 u54 u55 u56 u57 u58 u59 u60 u61 u62 u63 u64 u65 u66 u67 u68 u69 u70 u71 u72 u73 u74 u75 u76 u77 u78 u79 u80 u81 u82 u83 u84 u85 u86 u87 u88 u89 u90 u91 u92 u93 u94 u95 u96 u97 u98 u99 u100 u101 u102 u103 u104 u105 u106 u107 u108 u109 u110 u111 u112 u113 u114 u115 u116 u117 u118 u119 u120 u121 u122 u123 u124 u125 u126 u127 u128 u129 u130 u131 u132 u133 u134 u135 u136 u137 u138 u139 u140 u141 u142 u143 u144 u145 u146 u147 u148 u149 u150 u151 u152 u153 u154 u155 u156 u157 u158 u159 u160 u161 u162 u163 u164 u165 u166 u167 u168 u169 u170 u171 u172 u173 u174 u175 u176 u177 u178 u179 u180 u181 u182 u183 u184 u185 u186 u187 u188 u189 u190 u191 u192 u193 u194 u195 : Value) :
  Code.wp Tryz.prog (seqR 10 (bodyC Tryz.f7.body)) (bodyPost Tryz.prog Tryz.f7 R) { tmps := #[u0, .pointer (some ⟨G, 0, none⟩), .bool true, u3, u4, u5, u6, u7, u8, u9, u10, u11, u12, u13, u14, u15, u16, u17, u18, u19, u20, u21, u22, u23, u24, u25, u26, u27, u28, u29, u30, u31, u32, u33, u34, u35, u36, u37, u38, u39, u40, u41, u42, u43, u44, u45, u46, u47, u48, u49, u50, u51, u52, u53, u54, u55, u56, u57, u58, u59, u60, u61, u62, u63, u64, u65, u66, u67, u68, u69, u70, u71, u72, u73, u74, u75, u76, u77, u78, u79, u80, u81, u82, u83, u84, u85, u86, u87, u88, u89, u90, u91, u92, u93, u94, u95, u96, u97, u98, u99, u100, u101, u102, u103, u104, u105, u106, u107, u108, u109, u110, u111, u112, u113, u114, u115, u116, u117, u118, u119, u120, u121, u122, u123, u124, u125, u126, u127, u128, u129, u130, u131, u132, u133, u134, u135, u136, u137, u138, u139, u140, u141, u142, u143, u144, u145, u146, u147, u148, u149, u150, u151, u152, u153, u154, u155, u156, u157, u158, u159, u160, u161, u162, u163, u164, u165, u166, u167, u168, u169, u170, u171, u172, u173, u174, u175, u176, u177, u178, u179, u180, u181, u182, u183, u184, u185, u186, u187, u188, u189, u190, u191, u192, u193, u194, u195], defers := [] } w := by
 dsimp only [seqR, bodyC, Tryz.f7]
 have hml : ms.length = 3 := by have := congrArg List.length hms; rw [List.length_map] at this; exact this.trans MS3_is.1
 have hbd : ∀ W : World, (Instr.build 114 #[(0, .int .i64 3), (1, .int .i64 2)]).run Tryz.prog W = .ok (.agg #[.int .i64 3, .int .i64 2]) W := fun W => run_build W _ _ _ (by kernel_rfl)
 obtain ⟨m0, m1, m2, rfl⟩ : ∃ a b d, ms = [a, b, d] := by match ms, hml with | [a, b, d], _ => exact ⟨a, b, d, rfl⟩
 have hm2 : m2.ms = MS3.getD 2 zMs := by rw [← hms]; rfl
 have hm2' : m2.kind = 6 ∧ m2.ok = true ∧ m2.index = 1 := by
  have := MS3_is.2.2
  rw [← hm2] at this
  exact this
 obtain ⟨gm, cm, VM⟩ := h.mview (by simp)
 obtain ⟨y1a, VM1⟩ := VM w (Fr.refl _ _)
 have y1 : w.cell? ⟨G, 1, none⟩ = some (.slice (some ⟨gm, 0, none⟩) 3 cm) := y1a
 clear y1a
 have v0 : w.cell? ⟨gm, 20, none⟩ = some (.int .i64 6) := by rw [← hm2'.1]; exact VM1 2 (by simp) 0 _ rfl
 have v7 : w.cell? ⟨gm, 27, none⟩ = some (.bool true) := by rw [← hm2'.2.1]; exact VM1 2 (by simp) 7 _ rfl
 have v4 : w.cell? ⟨gm, 24, none⟩ = some (.int .u64 1) := by
  have := VM1 2 (by simp) 4 _ rfl
  rw [show ([m0, m1, m2] : List MV)[2].index = 1 from hm2'.2.2] at this
  exact this
 have hd2 : m2.dst = ((0 : Nat) : Int) := by
  have := MS3_is.2.1
  rw [← hm2] at this
  exact this
 have hl0 : 0 < l.length := by
  have := congrArg List.length hns
  rw [List.length_map] at this
  rw [this]
  decide +kernel
 have PC : Hid (Calls Tryz.prog 46 #[.pointer (some ⟨G, 0, none⟩), .agg #[.int .i64 3, .int .i64 2]] w fun e w' => PlOut B0 w G l _ many c 3 2 e w') := pl12V3 h B0 hl B ok 3 ((2 : Nat) : Int) rfl 2 (by simp) rfl 0 hl0 hd2 (.inr hm2'.1) (fun W q hp hm => hears56_calls hp m2 hm B (by omega) (ok.gd _ (List.getElem_mem _)) (ok.bm _ (by simp)) (ok.es _ (by simp)) (.inr hm2'.1))
 clear hd2 hl0
 have HMS := Lib.hid hms
 have HNS := Lib.hid hns
 have FIN := Lib.hid fin
 have HL := Lib.hid hl
 clear h hl ok hns hms fin VM VM1 hml hm2 hm2'
 go_upto_region 15 with fail
 rename_i K1 h1
 have H1 := Lib.hid h1
 clear h1
 clear y1 v0 v7 v4
 go_wp2_with fail
 (with_reducible refine PC.out.mono ?_)
 rintro e W2 ⟨X2, l2, ms2, many2, c2, rfl, g2, l2w, hp, hnn, f2⟩
 have e2 := playR_hear (i := 0) (j := 2) (by rw [HNS.out]; decide +kernel) (by simp) (by
  have := MS3_is.2.1
  rw [← HMS.out] at this
  exact this) (by simp) hp
 obtain ⟨e3, e4⟩ := e2
 have hx : (([m0, m1, m2] : List MV).map MV.ms)[2] = MS3.getD 2 zMs := by rw [← HMS.out]; rfl
 have hn : (l.map (·.n))[0]'(by rw [HNS.out]; decide +kernel) = aw0 := (getD_get _ default).trans (by rw [HNS.out]; decide +kernel)
 rw [hx, hn, hear4] at e3 e4
 rw [HNS.out] at e3
 rw [HMS.out, List.append_nil] at e4
 have G2 := Lib.hid (And.intro g2 (And.intro l2w (And.intro e3 (And.intro e4 f2))))
 clear g2 l2w hp hnn f2 e3 e4 hx hn PC
 go_wp2_with fail
 exact H1.out _ _ (by apply aw_s13 G2.out.1 B0 G2.out.2.1 G2.out.2.2.1 G2.out.2.2.2.1 (fun W f => FIN.out W (G2.out.2.2.2.2.trans f)))
end
end Go.Proofs.YtmjccpfchhnfhaaGreat
/- Law 12: the chapter's examples, behind the first thing that is done (printed by awake12.py). -/
namespace Go.Proofs.YtmjccpfchhnfhaaGreat
open Go.RowKit
set_option linter.unusedVariables false
set_option linter.unusedSimpArgs false
section
variable {X : Nat → Prop} {w : World} {G : Nat} {l : List Nx} {ms : List MV} {many : Int} {c : GV}
set_option maxRecDepth 100000 in
set_option maxHeartbeats 8000000 in
theorem aw_s7 [Old] [NoOld] {R : Ending → World → Prop} (h : Grp X w G l ms many c) (B0 : Nat → Prop) (hl : Low B0 X G c) (B : Nat) (hB : B + 4 ≤ 700000) (hmn : 0 ≤ many ∧ many ≤ 1000) (hcn : c.ns ≤ 1000 ∧ c.nt ≤ 1000 ∧ c.nl ≤ 1000) (ok : GOk B l ms many c) (hns : l.map (·.n) = NS1) (hms : ms.map MV.ms = MS2) (fin : ∀ W, Fr (fun q _ => B0 q) w W → R (.returned (.bool true)) W) (u0 u2 u3 u4 u5 u6 u7 u8 u9 u10 u11 u12 u13 u14 u15 u16 u17 u18 u19 u20 u21 u22 u23 u24 u25 u26 u27 u28 u29 u30 u31 u32 u33 u34 u35 u36 u37 u38 u39 u40 u41 u42 u43 u44 u45 u46 u47 u48 u49 u50 u51 u52 u53 u54 u55 u56 u57 u58 u59 u60 u61 u62 u63 u64 u65 u66 u67 u68 u69 u70 u71 u72 u73 u74 u75 u76 u77 u78 u79 u80 u81 u82 u83 u84 u85 u86 u87 u88 u89 u90 u91 u92 u93 u94 u95 u96 u97 u98 u99 u100 u101 u102 u103 u104 u105 u106 u107 u108 u109 u110 u111 u112 u113 u114 u115 u116 u117 u118 u119 u120 u121 u122 u123 u124 u125 u126 u127 u128 u129 u130 u131 u132 u133 u134 u135 u136 u137 u138 u139 u140 u141 u142 u143 u144 u145 u146 u147 u148 u149 u150 u151 u152 u153 u154 u155 u156 u157 u158 u159 u160 u161 u162 u163 u164 u165 u166 u167 u168 u169 u170 u171 u172 u173 u174 u175 u176 u177 u178 u179 u180 u181 u182 u183 u184 u185 u186 u187 u188 u189 u190 u191 u192 u193 u194 u195 : Value) :
  Code.wp Tryz.prog (seqR 7 (bodyC Tryz.f7.body)) (bodyPost Tryz.prog Tryz.f7 R) { tmps := #[u0, .pointer (some ⟨G, 0, none⟩), u2, u3, u4, u5, u6, u7, u8, u9, u10, u11, u12, u13, u14, u15, u16, u17, u18, u19, u20, u21, u22, u23, u24, u25, u26, u27, u28, u29, u30, u31, u32, u33, u34, u35, u36, u37, u38, u39, u40, u41, u42, u43, u44, u45, u46, u47, u48, u49, u50, u51, u52, u53, u54, u55, u56, u57, u58, u59, u60, u61, u62, u63, u64, u65, u66, u67, u68, u69, u70, u71, u72, u73, u74, u75, u76, u77, u78, u79, u80, u81, u82, u83, u84, u85, u86, u87, u88, u89, u90, u91, u92, u93, u94, u95, u96, u97, u98, u99, u100, u101, u102, u103, u104, u105, u106, u107, u108, u109, u110, u111, u112, u113, u114, u115, u116, u117, u118, u119, u120, u121, u122, u123, u124, u125, u126, u127, u128, u129, u130, u131, u132, u133, u134, u135, u136, u137, u138, u139, u140, u141, u142, u143, u144, u145, u146, u147, u148, u149, u150, u151, u152, u153, u154, u155, u156, u157, u158, u159, u160, u161, u162, u163, u164, u165, u166, u167, u168, u169, u170, u171, u172, u173, u174, u175, u176, u177, u178, u179, u180, u181, u182, u183, u184, u185, u186, u187, u188, u189, u190, u191, u192, u193, u194, u195], defers := [] } w := by
 dsimp only [seqR, bodyC, Tryz.f7]
 have hml : ms.length = 2 := by have := congrArg List.length hms; rw [List.length_map] at this; exact this.trans MS2_is.1
 have hbd : ∀ W : World, (Instr.build 114 #[(0, .int .i64 3), (1, .int .i64 0)]).run Tryz.prog W = .ok (.agg #[.int .i64 3, .int .i64 0]) W := fun W => run_build W _ _ _ (by kernel_rfl)
 obtain ⟨m0, m1, rfl⟩ : ∃ a b, ms = [a, b] := by match ms, hml with | [a, b], _ => exact ⟨a, b, rfl⟩
 have hm0 : m0.ms = MS2.getD 0 zMs := by rw [← hms]; rfl
 have hm0' : m0.dst = 1 ∧ m0.index = 0 ∧ m0.tm = 1 ∧ m0.es.length = 1 := by
  have := MS2_is.2
  rw [← hm0] at this
  have e : m0.ms.es.length = m0.es.length := by show (m0.es.map EV.en).length = _; rw [List.length_map]
  rw [e] at this
  exact this
 obtain ⟨gm, cm, VM⟩ := h.mview (by simp)
 obtain ⟨y1a, VM1⟩ := VM w (Fr.refl _ _)
 have y1 : w.cell? ⟨G, 1, none⟩ = some (.slice (some ⟨gm, 0, none⟩) 2 cm) := y1a
 clear y1a
 have v2 : w.cell? ⟨gm, 2, none⟩ = some (.int .i64 1) := by rw [← hm0'.1]; exact VM1 0 (by simp) 2 _ rfl
 have v4 : w.cell? ⟨gm, 4, none⟩ = some (.int .u64 0) := by
  have := VM1 0 (by simp) 4 _ rfl
  rw [show ([m0, m1] : List MV)[0].index = 0 from hm0'.2.1] at this
  exact this
 have v3 : w.cell? ⟨gm, 3, none⟩ = some (.int .u64 1) := by
  have := VM1 0 (by simp) 3 _ rfl
  rw [show ([m0, m1] : List MV)[0].tm = 1 from hm0'.2.2.1] at this
  exact this
 have v9 : w.cell? ⟨gm, 9, none⟩ = some (.slice m0.ea 1 m0.ec) := by
  have := VM1 0 (by simp) 9 _ rfl
  rw [show ([m0, m1] : List MV)[0].es.length = 1 from hm0'.2.2.2] at this
  exact this
 have hk0 : m0.kind = 5 := by
  have := MS2_kind
  rw [← hm0] at this
  exact this
 have hl1 : 1 < l.length := by
  have := congrArg List.length hns
  rw [List.length_map] at this
  rw [this]
  decide +kernel
 have PC : Hid (Calls Tryz.prog 46 #[.pointer (some ⟨G, 0, none⟩), .agg #[.int .i64 3, .int .i64 0]] w fun e w' => PlOut B0 w G l _ many c 3 0 e w') := pl12V3 h B0 hl B ok 3 ((0 : Nat) : Int) rfl 0 (by simp) rfl 1 hl1 hm0'.1 (.inl hk0) (fun W q hp hm => hears56_calls hp m0 hm B (by omega) (ok.gd _ (List.getElem_mem _)) (ok.bm _ (by simp)) (ok.es _ (by simp)) (.inl hk0))
 clear hk0 hl1
 have OK := Lib.hid ok
 have HMS := Lib.hid hms
 have HNS := Lib.hid hns
 have FIN := Lib.hid fin
 have HL := Lib.hid hl
 have HBN := Lib.hid (And.intro hB (And.intro hmn hcn))
 clear h hl ok hns hms fin VM VM1 hml hm0 hm0' hB hmn hcn
 go_upto_region 11 with fail
 rename_i K1 h1
 have H1 := Lib.hid h1
 clear h1
 clear y1 v2 v4 v3 v9
 go_wp2_with fail
 (with_reducible refine PC.out.mono ?_)
 rintro e W2 ⟨X2, l2, ms2, many2, c2, rfl, g2, l2w, hp, hnn, f2⟩
 have e2 := playR_hear (i := 1) (j := 0) (by rw [HNS.out]; decide +kernel) (by simp) (by
  have := MS2_is.2.1
  rw [← HMS.out] at this
  exact this) (by simp) hp
 obtain ⟨e3, e4⟩ := e2
 have hx : (([m0, m1] : List MV).map MV.ms)[0] = MS2.getD 0 zMs := by rw [← HMS.out]; rfl
 have hn : (l.map (·.n))[1]'(by rw [HNS.out]; decide +kernel) = Nd.new 1 (cfN 3) := (getD_get _ default).trans (by rw [HNS.out]; decide +kernel)
 rw [hx, hn] at e3 e4
 rw [HNS.out] at e3
 rw [HMS.out] at e4
 have OK2 := Lib.hid (OK.out.next (c' := c2) (many' := many2) hp (by have := HBN.out.1; omega) (by have := HBN.out.2; omega) (by have := HBN.out.2; omega))
 have G2 := Lib.hid (And.intro g2 (And.intro l2w (And.intro e3 (And.intro e4 f2))))
 clear g2 l2w hp hnn f2 e3 e4 hx hn PC
 go_wp2_with fail
 exact H1.out _ _ (by apply aw_s10 G2.out.1 B0 G2.out.2.1 (B + 2) HBN.out.1 OK2.out G2.out.2.2.1 G2.out.2.2.2.1 (fun W f => FIN.out W (G2.out.2.2.2.2.trans f)))
end
end Go.Proofs.YtmjccpfchhnfhaaGreat
/- Law 12: the chapter's examples (printed by awake12.py). -/
namespace Go.Proofs.YtmjccpfchhnfhaaGreat
open Go.RowKit
set_option linter.unusedVariables false
set_option linter.unusedSimpArgs false
section
set_option maxRecDepth 100000 in
set_option maxHeartbeats 8000000 in
theorem awake_calls (w : World) : Calls Tryz.prog 7 #[] w fun e w' => e = .returned (.bool true) ∧ Fr (fun _ _ => True) w w' := by
 letI : Old := ⟨fun _ => False⟩
 haveI : NoOld := ⟨fun _ h => h⟩
 have BC : Hid (Calls Tryz.prog 44 #[.int .i64 3] w fun e w' => BOut w 3 e w') := begun_calls w 3 (by decide) (by decide)
 have hbd : ∀ W : World, (Instr.build 114 #[(0, .int .i64 5), (1, .int .i64 0)]).run Tryz.prog W = .ok (.agg #[.int .i64 5, .int .i64 0]) W := fun W => run_build W _ _ _ (by kernel_rfl)
 go_enter Tryz.func7, Tryz.ntmps7
 go_wp2_with fail
 (with_reducible refine BC.out.mono ?_)
 rintro e W0 ⟨X, G, l, c, rfl, ⟨g0, c1, c2, c3, l0⟩, hns, f0⟩
 clear BC
 have hll : l.length = 3 := by have := congrArg List.length hns; rw [List.length_map, List.length_map] at this; exact this.trans (cfN_len 3)
 obtain ⟨x0, x1, x2, rfl⟩ : ∃ x0 x1 x2, l = [x0, x1, x2] := by match l, hll with | [a, b, d], _ => exact ⟨a, b, d, rfl⟩
 have n0 : x0.n = Nd.new 0 (cfN 3) := congrArg (fun l => l.getD 0 default) hns
 have n1 : x1.n = Nd.new 1 (cfN 3) := congrArg (fun l => l.getD 1 default) hns
 have n2 : x2.n = Nd.new 2 (cfN 3) := congrArg (fun l => l.getD 2 default) hns
 obtain ⟨gn, cn, V⟩ := g0.view (by simp)
 obtain ⟨b0, hb0⟩ : ∃ b, x0.b = b := ⟨_, rfl⟩
 obtain ⟨P0, hP0⟩ : ∃ P, x0.P = P := ⟨_, rfl⟩
 obtain ⟨y0, V1⟩ := V W0 (Fr.refl _ _)
 have y0 : W0.cell? ⟨G, 0, none⟩ = some (.slice (some ⟨gn, 0, none⟩) 3 cn) := y0
 have z0 : W0.cell? ⟨gn, 0, none⟩ = some (.pointer (some ⟨b0, 0, none⟩)) := by rw [← hb0]; exact V1 0 (by simp)
 obtain ⟨q0, hq0⟩ := g0.nd x0 (by simp)
 rw [hb0] at hq0
 have x4 : W0.cell? ⟨b0, 4, none⟩ = some q0.vc := (hq0.cells (Fr.refl _ W0)).2.2.2.2.1
 have a0 := hq0.free (Fr.refl _ W0) 4
 obtain ⟨W1, hW1⟩ : ∃ Y, W0.alloc (.cells #[.int .i64 0] 3 (0, 0)) = Y := ⟨_, rfl⟩
 have f1 : Fr (fun _ _ => True) W0 W1 := hW1 ▸ (Fr.refl _ _).alloc _
 have x4' : W1.cell? ⟨b0, 4, none⟩ = some q0.vc := (hq0.cells f1).2.2.2.2.1
 have a0' := hq0.free f1 4
 obtain ⟨W2, hW2⟩ : ∃ Y, W1.setCell ⟨b0, 4, none⟩ (.slice (some ⟨W0.heap.size, 0, none⟩) 1 1) = Y := ⟨_, rfl⟩
 obtain ⟨g2, f2⟩ := g0.conf 0 (by simp) [0] (cs := #[.int .i64 0]) (fun k hk => by have : k = 0 := (by have : k < 1 := hk; omega); subst this; rfl) hb0 hW1 hW2 P0 hP0 n0
 have G2 : Hid (Grp X W2 G [⟨b0, { Nd.new 0 (cfN 3) with conf := [0] }, P0⟩, x1, x2] [] 0 c) := g2
 have F2 : Hid (Fr (fun _ _ => True) w W2) := Fr.within ((f0.mono fun _ _ _ => trivial : Fr (fun q _ => True ∧ q < w.heap.size) w W0).trans (f2.mono fun q _ h e => by have := h.2; have := l0.x q (hq0.px _ (e ▸ hq0.pb)); omega))
 have L0 := Lib.hid l0
 have HN := Lib.hid (And.intro n1 (And.intro n2 (And.intro c1 (And.intro c2 c3))))
 obtain ⟨qa, hqa0⟩ := G2.out.nd ⟨b0, { Nd.new 0 (cfN 3) with conf := [0] }, P0⟩ (by simp)
 have hqa : PNs X P0 W2 b0 { Nd.new 0 (cfN 3) with conf := [0] } qa := hqa0
 clear hqa0
 have AK := Lib.hid (askT_calls hqa ⟨by show 0 < 1; decide, by show 1 ≤ _; decide⟩ 0 rfl (by decide) (by decide) (by decide) (by decide))
 obtain ⟨gn2, cn2, V2⟩ := G2.out.view (by simp)
 obtain ⟨y2, V3⟩ := V2 W2 (Fr.refl _ _)
 have y2 : W2.cell? ⟨G, 0, none⟩ = some (.slice (some ⟨gn2, 0, none⟩) 3 cn2) := y2
 have z2 : W2.cell? ⟨gn2, 0, none⟩ = some (.pointer (some ⟨b0, 0, none⟩)) := V3 0 (by simp)
 have HX : Hid (w.heap.size ≤ W2.heap.size) := F2.out.size
 clear g0 c1 c2 c3 l0 hns hll f0 V V1 hq0 f1 g2 f2 V2 V3 hqa n0 n1 n2 hb0 hP0
 go_wp2_with fail
 try rw [hW1]
 try rw [hW2]
 clear hW1 hW2 y0 z0 x4 a0 x4' a0'
 go_wp2_with fail
 (with_reducible refine AK.out.mono ?_)
 intro e W3 hout
 obtain ⟨X3, P3, q3, v3, mvs, rfl, p3, a3, o3, e3⟩ := hout
 obtain ⟨NA, hNA⟩ : ∃ y, ({ Nd.new 0 (cfN 3) with conf := [0] } : Nd).askT.1 = y := ⟨_, rfl⟩
 have G3 : Hid (Grp X3 W3 G [⟨b0, NA, P3⟩, x1, x2] [] 0 c) := hNA ▸ G2.out.turn 0 (by simp) ⟨q3, p3⟩ a3
 have L3 : Hid (Low (fun q => q < w.heap.size) X3 G { c with sz := w.heap.size }) := Low.aft (w := W2) (w4 := W3) (X4 := X3) (P4 := P3) (P := P0) (L0.out.low w.heap.size (Nat.le_refl _)) a3 F2.out.size
 have F3 : Hid (Fr (fun _ _ => True) w W3) := Fr.within ((F2.out.mono fun _ _ _ => trivial : Fr (fun q _ => True ∧ q < w.heap.size) w W2).trans (a3.fr.mono fun q _ h e => by have := h.2; have := L0.out.x _ (a3.hp q e); omega))
 obtain ⟨gn3, cn3, V4⟩ := G3.out.view (by simp)
 obtain ⟨y3, V5⟩ := V4 W3 (Fr.refl _ _)
 have y3 : W3.cell? ⟨G, 0, none⟩ = some (.slice (some ⟨gn3, 0, none⟩) 3 cn3) := y3
 have z3 : W3.cell? ⟨gn3, 0, none⟩ = some (.pointer (some ⟨b0, 0, none⟩)) := V5 0 (by simp)
 obtain ⟨qb, hqb⟩ := G3.out.nd ⟨b0, NA, P3⟩ (by simp)
 have x4 : W3.cell? ⟨b0, 4, none⟩ = some qb.vc := (hqb.cells (Fr.refl _ W3)).2.2.2.2.1
 have a0 := hqb.free (Fr.refl _ W3) 4
 obtain ⟨W4, hW4⟩ : ∃ Y, W3.alloc (.cells #[.int .i64 0, .int .i64 1, .int .i64 2] 3 (0, 0)) = Y := ⟨_, rfl⟩
 have f4 : Fr (fun _ _ => True) W3 W4 := hW4 ▸ (Fr.refl _ _).alloc _
 have x4' : W4.cell? ⟨b0, 4, none⟩ = some qb.vc := (hqb.cells f4).2.2.2.2.1
 have a0' := hqb.free f4 4
 obtain ⟨W5, hW5⟩ : ∃ Y, W4.setCell ⟨b0, 4, none⟩ (.slice (some ⟨W3.heap.size, 0, none⟩) 3 3) = Y := ⟨_, rfl⟩
 obtain ⟨g5, f5⟩ := G3.out.conf 0 (by simp) [0, 1, 2] (cs := #[.int .i64 0, .int .i64 1, .int .i64 2]) (fun k hk => by
  match k, hk with
  | 0, _ => rfl
  | 1, _ => rfl
  | 2, _ => rfl) rfl hW4 hW5 P3 rfl rfl
 have G5 : Hid (Grp X3 W5 G [⟨b0, { NA with conf := [0, 1, 2] }, P3⟩, x1, x2] [] 0 c) := g5
 have F5 : Hid (Fr (fun _ _ => True) w W5) := Fr.within ((F3.out.mono fun _ _ _ => trivial : Fr (fun q _ => True ∧ q < w.heap.size) w W3).trans (f5.mono fun q _ h e => by exact L3.out.x q (hqb.px _ (e ▸ hqb.pb)) h.2))
 have NSE : Hid (([⟨b0, { NA with conf := [0, 1, 2] }, P3⟩, x1, x2] : List Nx).map (·.n) = NS1) := by
  show [_, x1.n, x2.n] = _
  rw [HN.out.1, HN.out.2.1, ← hNA]
  rfl
 have OK : Hid (GOk 50 ([⟨b0, { NA with conf := [0, 1, 2] }, P3⟩, x1, x2] : List Nx) [] 0 { c with sz := w.heap.size }) := by
  refine ⟨by decide, ?_, ?_, ?_, by show 3 ≤ 1000; decide, by show 0 ≤ 700; decide, ⟨by decide, by decide⟩, by show c.ns ≤ 700000 ∧ c.nt ≤ 700000 ∧ c.nl ≤ 700000; have := HN.out.2.2; omega⟩
  ·intro x hx
   rcases List.mem_cons.1 hx with rfl | hx
   ·show Gd 50 { NA with conf := [0, 1, 2] }
    rw [← hNA]; exact aw0_gd
   ·rcases List.mem_cons.1 hx with rfl | hx
    ·rw [HN.out.1]; exact new_gd 1 (by decide) 50
    ·rw [List.mem_singleton.1 hx, HN.out.2.1]; exact new_gd 2 (by decide) 50
  ·intro m hm; cases hm
  ·intro m hm; cases hm
 have PC : Hid (Calls Tryz.prog 46 #[.pointer (some ⟨G, 0, none⟩), .agg #[.int .i64 5, .int .i64 0]] W5 fun e w' => PlOut (fun q => q < w.heap.size) W5 G _ _ _ _ 5 0 e w') := pl12V5 (G5.out.resz w.heap.size F5.out.size) (fun q => q < w.heap.size) L3.out 50 OK.out 5 ((0 : Nat) : Int) (by decide) 0 (by simp) rfl rfl
 clear p3 a3 o3 e3 V4 V5 hqb f4 g5 f5 hNA y2 z2 AK
 go_upto_region 7 with fail
 rename_i K1 h1
 have H1 := Lib.hid h1
 clear h1
 try rw [hW4]
 try rw [hW5]
 clear hW4 hW5 y3 z3 x4 a0 x4' a0'
 go_wp2_with fail
 (with_reducible refine PC.out.mono ?_)
 rintro e W6 ⟨X6, l6, ms6, many6, c6, rfl, g6, l6w, hp, hnn0, f6⟩
 have hnn : c6.ns ≤ c.ns + 200 ∧ c6.nt ≤ c.nt + 1 ∧ c6.nl ≤ c.nl + 1 ∧ (0 : Int) ≤ many6 ∧ many6 ≤ 0 + 1 := hnn0
 clear hnn0
 obtain ⟨e3, e4⟩ := playR_beat (i := 0) (by rw [NSE.out]; decide) (by decide) hp
 have hn : (([⟨b0, { NA with conf := [0, 1, 2] }, P3⟩, x1, x2] : List Nx).map (·.n))[0]'(by rw [NSE.out]; decide) = aw0 := by
  have := congrArg (fun l => l.getD 0 default) NSE.out
  exact this
 rw [hn] at e4
 rw [NSE.out] at e3
 have e4 : ms6.map MV.ms = MS2 := e4
 have OK2 := Lib.hid (OK.out.next (c' := c6) (many' := many6) hp (by decide) (by omega) (by have := HN.out.2.2; omega))
 have CN : Hid (c6.ns ≤ 1000 ∧ c6.nt ≤ 1000 ∧ c6.nl ≤ 1000) := by have := HN.out.2.2; show _ ∧ _ ∧ _; omega
 have MN : Hid (0 ≤ many6 ∧ many6 ≤ 1000) := by show _ ∧ _; omega
 have G6 := Lib.hid (And.intro g6 (And.intro l6w (And.intro e3 (And.intro e4 f6))))
 clear g6 l6w hp hnn f6 e3 e4 hn PC
 go_wp2_with fail
 exact H1.out _ _ (by apply aw_s7 G6.out.1 (fun q => q < w.heap.size) G6.out.2.1 52 (by decide) MN.out CN.out OK2.out G6.out.2.2.1 G6.out.2.2.2.1 (fun W f => ⟨rfl, Fr.within ((F5.out.mono fun _ _ _ => trivial : Fr (fun q _ => True ∧ q < w.heap.size) w W5).trans ((G6.out.2.2.2.2.trans f).mono fun q _ h => h.2))⟩))
end
end Go.Proofs.YtmjccpfchhnfhaaGreat
/- Law 12: FollowHears. -/
namespace Go.Proofs.YtmjccpfchhnfhaaGreat
open Go.RowKit
set_option linter.unusedVariables false
set_option linter.unusedSimpArgs false
set_option maxRecDepth 100000 in
set_option maxHeartbeats 4000000 in
theorem dshortM_calls [Old] {X : Nat → Prop} (w : World) (m : MV) (hm : MsAt X w m) :
  Calls Tryz.prog 9 #[.agg (cM m)] w fun e w' => (∃ sh : Bool, e = .returned (.bool sh) ∧ (sh = true → m.d.length ≤ 700 ∧ m.es.length ≤ 8 ∧ m.tm < 1152921504606846976 ∧ m.index < 1152921504606846976 ∧ m.prev < 1152921504606846976 ∧ m.commit < 1152921504606846976)) ∧ Fr (fun _ _ => True) w w' := by
 obtain ⟨W1, hW1, F1, X1⟩ := mbox w m
 have DC := Lib.hid (dcheck_calls W1 m (hm.tt F1.out))
 obtain ⟨g, hg⟩ : ∃ x, w.heap.size = x := ⟨_, rfl⟩
 rw [hg] at X1
 obtain ⟨tm, htm⟩ : ∃ x, m.tm = x := ⟨_, rfl⟩
 obtain ⟨ix, hix⟩ : ∃ x, m.index = x := ⟨_, rfl⟩
 obtain ⟨pv, hpv⟩ : ∃ x, m.prev = x := ⟨_, rfl⟩
 obtain ⟨co, hco⟩ : ∃ x, m.commit = x := ⟨_, rfl⟩
 obtain ⟨v0, v1, v2, v3, v4, v5, v6, v7, v8, v9⟩ := mcells X1.out
 have VH : Hid (∀ W, Fr (fun _ _ => True) W1 W → W.cell? ⟨g, 3, none⟩ = some (.int .u64 (tm : Nat)) ∧ W.cell? ⟨g, 4, none⟩ = some (.int .u64 (ix : Nat)) ∧ W.cell? ⟨g, 5, none⟩ = some (.int .u64 (pv : Nat)) ∧ W.cell? ⟨g, 6, none⟩ = some (.int .u64 (co : Nat))) := fun W f => by
  obtain ⟨-, -, -, u3, u4, u5, u6, -, -, -⟩ := mcells (f.keep _ _ X1.out trivial)
  rw [htm] at u3
  rw [hix] at u4
  rw [hpv] at u5
  rw [hco] at u6
  exact ⟨u3, u4, u5, u6⟩
 unfold cM at hW1 DC ⊢
 rw [htm, hix, hpv, hco] at hW1 DC ⊢
 rw [htm] at v3
 rw [hix] at v4
 rw [hpv] at v5
 rw [hco] at v6
 have HG := Lib.hid hg
 clear X1 hm htm hix hpv hco
 go_enter Tryz.func9, Tryz.ntmps9
 go_wp2_with fail
 try rw [hW1]
 try rw [HG.out]
 (with_reducible refine DC.out.mono ?_)
 rintro e w2 ⟨⟨c, rfl, hc⟩, f2⟩
 have FZ := Lib.hid (F1.out.trans f2)
 have HC := Lib.hid hc
 obtain ⟨u3, u4, u5, u6⟩ := VH.out w2 f2
 clear DC v0 v1 v2 v3 v4 v5 v6 v7 v8 v9 hc f2 F1 hW1 VH hg
 have NO : ∀ b : Bool, b = false → (∃ sh : Bool, Ending.returned (.bool b) = .returned (.bool sh) ∧ (sh = true → m.d.length ≤ 700 ∧ m.es.length ≤ 8 ∧ tm < 1152921504606846976 ∧ ix < 1152921504606846976 ∧ pv < 1152921504606846976 ∧ co < 1152921504606846976)) ∧ Fr (fun _ _ => True) w w2 := fun b hb => ⟨⟨b, rfl, fun e => by rw [hb] at e; cases e⟩, FZ.out⟩
 have NO := Lib.hid NO
 by_cases hz : c = 0
 ·have HB := Lib.hid (HC.out hz)
  clear HC
  subst hz
  by_cases h3 : (tm : Int) < 1152921504606846976
  ·by_cases h4 : (ix : Int) < 1152921504606846976
   ·by_cases h5 : (pv : Int) < 1152921504606846976
    ·by_cases h6 : (co : Int) < 1152921504606846976
     ·go_wp2
      go_ret
      exact ⟨⟨true, rfl, fun _ => ⟨HB.out.1, HB.out.2, by omega, by omega, by omega, by omega⟩⟩, FZ.out⟩
     ·have g : decide ((co : Int) < 1152921504606846976) = false := decide_eq_false h6
      go_wp2
      go_ret
      exact NO.out false rfl
    ·have g : decide ((pv : Int) < 1152921504606846976) = false := decide_eq_false h5
     go_wp2
     go_ret
     exact NO.out false rfl
   ·have g : decide ((ix : Int) < 1152921504606846976) = false := decide_eq_false h4
    go_wp2
    go_ret
    exact NO.out false rfl
  ·have g : decide ((tm : Int) < 1152921504606846976) = false := decide_eq_false h3
   go_wp2
   go_ret
   exact NO.out false rfl
 ·have g0 : (c == 0) = false := by simpa using hz
  clear hz
  go_wp2
  go_ret
  exact NO.out false rfl
theorem StV.lies.tt [Old] {w w' : World} {s : StV} (h : s.lies w) (f : Fr (fun _ _ => True) w w') : s.lies w' :=
 ⟨h.cf.tt f, h.ev.tt f, h.nx.tt f, h.mt.tt f, fun c q => Nat.lt_of_lt_of_le (h.od c q) f.size⟩
def BO [Old] (s : StV) (w : World) (e : Ending) (w' : World) : Prop := ((∃ X P b q b2 q2, e = .returned (.tuple #[.pointer (some ⟨b, 0, none⟩), .pointer (some ⟨b2, 0, none⟩)]) ∧ PNs X P w' b s.nd q ∧ DNs X w' b2 s.nd q2 ∧ ¬ P b2 ∧ (∀ c, X c → w.heap.size ≤ c) ∧ nm60 s.next s.mat ∧ s.good) ∨ e = .returned (.tuple #[.pointer none, .pointer none])) ∧ Fr (fun _ _ => True) w w'
theorem both_calls [Old] (w : World) (s : StV) (h : s.lies w) (hcl : s.conf.length ≤ maxLen) : Calls Tryz.prog 8 #[.agg (cS s)] w fun e w' => BO s w e w' := by
 by_cases hg : s.good
 ·have hr := right_all hg.right
  refine (both_some w s h hg ⟨hr.2.1, by omega⟩).mono fun e w' ⟨h1, h2⟩ => ⟨?_, (h2.mono fun c _ k => k.2 : Fr (fun c _ => True ∧ c < w.heap.size) w w').within⟩
  rcases h1 with ⟨X, P, b, q, b2, q2, h1, h3, h4, h5, h6, h7⟩ | h1
  ·exact .inl ⟨X, P, b, q, b2, q2, h1, h3, h4, h5, h6, h7, hg⟩
  ·exact .inr h1
 ·exact (both_none w s h.cf hcl hg).mono fun e w' ⟨h1, h2⟩ => ⟨.inr h1, h2⟩
theorem two_out [Old] {X P : Nat → Prop} {w w4 : World} {b b2 : Nat} {n : Nd} {q : NV} {q2 : DV} {r : Nd × List Ms} {e : Ending} (hP : PNs X P w b n q) (hD : DNs X w b2 n q2) (hnb : ¬ P b2) (h1 : NOut X P w b r e w4) :
  ∃ X' P' v, e = .returned v ∧ DNs X' w4 b2 n q2 ∧ Aft X P X' P' w w4 ∧ ∀ e2 w5, DOut X' w4 b2 r e2 w5 → ∃ v2 q' q2', e2 = .returned v2 ∧ PNs X' P' w5 b r.1 q' ∧ DNs X' w5 b2 r.1 q2' ∧ ¬ P' b2 ∧ Fr (fun c _ => ¬ X c) w w5 ∧ Aft X' (· = b2) X' (· = b2) w4 w5 ∧ (∀ c, X' c → X c ∨ w.heap.size ≤ c) ∧
   (Few r.2 → Calls Tryz.prog 12 #[v, v2] w5 fun e w' => e = .returned (.bool true) ∧ Fr (fun _ _ => True) w5 w') := by
 obtain ⟨X', P', q', v, mvs, he, p4, a4, o4, e4⟩ := h1
 have d4 := hD.far a4 hnb p4.hx
 have hnb' := a4.far (lt_of_some hD.top) hnb
 refine ⟨X', P', v, he, d4, a4, fun e2 w5 h2 => ?_⟩
 obtain ⟨q2', v2, mvs2, he2, d5, f5, o5, e5⟩ := h2
 have a5 := d4.own f5
 have o4' := o4.aft a5
 refine ⟨v2, q', q2', he2, p4.far a5 (fun c k k2 => hnb' (k2 ▸ k)) d5.hx, d5, hnb', (a4.fr.mono fun c _ k k2 => k (a4.hp c k2)).trans (f5.mono fun c _ k k2 => k (k2 ▸ hD.xb)), a5, fun c k => ?_, fun hf => ?_⟩
 ·rcases (a4.xx c).1 k with k | k
  ·exact .inl k
  ·rcases a4.nw c k with k | k
   ·exact .inl (a4.hp c k)
   ·exact .inr k
 ·have hl : mvs.length ≤ 1 := by
   have := congrArg List.length e4
   rw [List.length_map] at this
   have := hf.1
   omega
  refine mall_true w5 v v2 mvs mvs2 o4'.rows o5.rows o4'.at' o5.at' (fun x hx => ?_) (e4.trans e5.symm) (by omega)
  have hx' : x.ms ∈ r.2 := e4 ▸ List.mem_map_of_mem hx
  obtain ⟨k1, k2⟩ := hf.2 _ hx'
  have k1' : x.es.length ≤ 8 := by
   have : x.ms.es.length = x.es.length := List.length_map ..
   omega
  have k2' : x.d = [] := k2
  rw [k2']
  exact ⟨by omega, by simp⟩
end Go.Proofs.YtmjccpfchhnfhaaGreat
/- Law 12: FollowHears. -/
namespace Go.Proofs.YtmjccpfchhnfhaaGreat
open Go.RowKit
set_option linter.unusedVariables false
set_option linter.unusedSimpArgs false
theorem getD_all {l : List Nat} {p : Nat → Prop} (h : l.length = 16) (hp : ∀ i, i < 16 → p (l.getD i 0)) : ∀ x ∈ l, p x := fun x hx => by
 obtain ⟨i, hi, rfl⟩ := List.getElem_of_mem hx
 have := hp i (by omega)
 rw [List.getD_eq_getElem?_getD, List.getElem?_eq_getElem hi] at this
 exact this
theorem StV.good.bn {s : StV} (h : s.good) (hn : nm60 s.next s.mat) : Bn 2305843009213693952 s.nd ∧ s.nd.log.es.length ≤ 20 := by
 have hl : s.nd.log.es.length = s.es.length := List.length_map ..
 have h20 := h.len
 have hb := h.base
 refine ⟨⟨by have := h.tm; show s.tm ≤ _; omega, by have := h.commit; show s.commit ≤ _; omega, ?_, h.n16, h.m16, getD_all (p := fun x => x ≤ 2305843009213693952) h.n16 (fun i hi => by have := hn i hi; show s.next.getD i 0 ≤ _; omega), getD_all (p := fun x => x ≤ 2305843009213693952) h.m16 (fun i hi => by have := hn i hi; show s.mat.getD i 0 ≤ _; omega)⟩, by omega⟩
 show s.base + s.nd.log.es.length ≤ _
 omega
def Boxes (W2 : World) (g0 g1 : Nat) (s : StV) (m : MV) (W : World) : Prop := W.heap[g0]? = some (.cells (cS s) 29 (0, 0)) ∧ W.heap[g1]? = some (.cells (cM m) 32 (0, 0)) ∧ Fr (fun c _ => c < W2.heap.size) W2 W
theorem Boxes.fr {W2 W W' : World} {g0 g1 : Nat} {s : StV} {m : MV} {K : Nat → Obj → Prop} (h : Boxes W2 g0 g1 s m W) (f : Fr K W W') (hk : ∀ c o, c < W2.heap.size → K c o) (h0 : g0 < W2.heap.size) (h1 : g1 < W2.heap.size) : Boxes W2 g0 g1 s m W' :=
 ⟨f.keep _ _ h.1 (hk _ _ h0), f.keep _ _ h.2.1 (hk _ _ h1), h.2.2.trans (f.mono fun c o q => hk c o q)⟩
set_option maxRecDepth 100000 in
set_option maxHeartbeats 8000000 in
theorem followHears_main (W : World) (s : StV) (m : MV) (hs : @StV.lies (oldB W) W s) (hm : @MsAt (oldB W) (fun _ => False) W m) (hcl : s.conf.length ≤ maxLen) :
  Calls Tryz.prog 3 #[.agg (cS s), .agg (cM m)] W fun e w' => e = .returned (.bool true) ∧ Fr (fun c _ => c < W.heap.size) W w' := by
 letI : Old := oldB W
 obtain ⟨W1, hW1, F1, X1⟩ := sbox W s
 obtain ⟨W2, hW2, F2, X2⟩ := mbox W1 m
 obtain ⟨g0, hg0⟩ : ∃ x, W.heap.size = x := ⟨_, rfl⟩
 obtain ⟨g1, hg1⟩ : ∃ x, W1.heap.size = x := ⟨_, rfl⟩
 have B2 : Hid (Boxes W2 g0 g1 s m W2) := ⟨hg0 ▸ F2.out.keep _ _ X1.out trivial, hg1 ▸ X2.out, Fr.refl _ _⟩
 have GS : Hid (g0 < W2.heap.size ∧ g1 < W2.heap.size) := ⟨lt_of_some B2.out.1, lt_of_some B2.out.2.1⟩
 have FE : Hid (∀ W', Boxes W2 g0 g1 s m W' → Fr (fun c _ => c < W.heap.size) W W') := fun W' h => ((F1.out.trans F2.out).mono fun _ _ _ => trivial).trans (h.2.2.mono fun c _ q => Nat.lt_of_lt_of_le q (F1.out.trans F2.out).size)
 have AC := Lib.hid (awake_calls W2)
 have HS := Lib.hid (hs.tt (F1.out.trans F2.out))
 have HM := Lib.hid (hm.tt (F1.out.trans F2.out))
 have BC := Lib.hid (fun W' (f : Fr (fun _ _ => True) W2 W') => both_calls W' s (HS.out.tt f) hcl)
 have VS : Hid (∀ W', Boxes W2 g0 g1 s m W' → W'.cell? ⟨g0, 0, none⟩ = some (.int .i64 s.me) ∧ W'.cell? ⟨g0, 1, none⟩ = some (.int .i64 s.role) ∧ W'.cell? ⟨g0, 2, none⟩ = some (.int .i64 s.vote) ∧ W'.cell? ⟨g0, 3, none⟩ = some (.int .i64 s.ld) ∧ W'.cell? ⟨g0, 4, none⟩ = some (.slice s.ac s.conf.length s.cc) ∧ W'.cell? ⟨g0, 5, none⟩ = some (.int .u64 (s.tm : Nat)) ∧ W'.cell? ⟨g0, 6, none⟩ = some (.int .u64 (s.commit : Nat)) ∧ W'.cell? ⟨g0, 7, none⟩ = some (.int .u64 (s.base : Nat)) ∧ W'.cell? ⟨g0, 8, none⟩ = some (.int .u64 (s.bt : Nat)) ∧ W'.cell? ⟨g0, 9, none⟩ = some (.slice s.ae s.es.length s.ce) ∧ W'.cell? ⟨g0, 10, none⟩ = some (.slice s.an s.next.length s.cn) ∧ W'.cell? ⟨g0, 11, none⟩ = some (.slice s.am s.mat.length s.cm)) := fun W' h => scells h.1
 have VM := Lib.hid (fun W' (h : Boxes W2 g0 g1 s m W') => mcells h.2.1)
 unfold cS at hW1 BC ⊢
 unfold cM at hW2 ⊢
 clear X1 X2 hs hm hcl
 go_enter Tryz.func3, Tryz.ntmps3
 go_wp2_with fail
 try rw [hW1]
 try rw [hW2]
 try rw [hg0]
 try rw [hg1]
 (with_reducible refine AC.out.mono ?_)
 rintro e w1 ⟨rfl, f1⟩
 have HG := Lib.hid hg0
 have HG1 := Lib.hid hg1
 have B3 := Lib.hid (B2.out.fr f1 (fun _ _ _ => trivial) GS.out.1 GS.out.2)
 have BC1 := Lib.hid (BC.out w1 f1)
 have HM1 := Lib.hid (HM.out.tt f1)
 obtain ⟨x0, x1, x2, x3, x4, x5, x6, x7, x8, x9, x10, x11⟩ := VS.out w1 B3.out
 clear hW1 hW2 hg0 hg1 AC BC f1 F1 F2 HS HM
 go_wp2_with fail
 (with_reducible refine BC1.out.mono ?_)
 rintro e w2 ⟨hout, f2⟩
 have B4 := Lib.hid (B3.out.fr f2 (fun _ _ _ => trivial) GS.out.1 GS.out.2)
 have HM2 := Lib.hid (HM1.out.tt f2)
 have SC2 := Lib.hid (dshortM_calls w2 m HM2.out)
 obtain ⟨v0, v1, v2, v3, v4, v5, v6, v7, v8, v9⟩ := VM.out w2 B4.out
 unfold cM at SC2
 clear x0 x1 x2 x3 x4 x5 x6 x7 x8 x9 x10 x11 BC1 VS
 rcases hout with ⟨X, P, b, q, b2, q2, rfl, hP, hD, hnb, hX, hnm, hgd⟩ | rfl
 ·have A2 : Aft (fun _ => False) (fun _ => False) X X w1 w2 := ⟨f2.mono fun _ _ _ => trivial, fun c => ⟨.inr, fun k => k.elim (fun e => e.elim) id⟩, (fun c k => k.elim), fun c k => .inr (hX c k), (fun c k => k.elim)⟩
  have HP := Lib.hid hP
  have HD := Lib.hid hD
  have NB := Lib.hid (And.intro hnb (And.intro hX (And.intro hnm hgd)))
  have HMX := Lib.hid (HM1.out.aft A2)
  clear hP hD hnb hX hnm hgd A2 HM1 HM2
  go_wp2_with fail
  (with_reducible refine SC2.out.mono ?_)
  rintro e w3 ⟨⟨sh, rfl, hsh⟩, f3⟩
  have B5 := Lib.hid (B4.out.fr f3 (fun _ _ _ => trivial) GS.out.1 GS.out.2)
  clear SC2
  cases sh with
  | false =>
   go_wp2
   go_ret
   exact ⟨rfl, FE.out _ B5.out⟩
  | true =>
   obtain ⟨m1, m2, m3, m4, m5, m6⟩ := hsh rfl
   have BN := NB.out.2.2.2.bn NB.out.2.2.1
   have BM : Bm 2305843009213693952 m.ms := ⟨by show m.tm ≤ _; omega, by show m.index + (m.es.map EV.en).length ≤ _; rw [List.length_map]; omega, fun _ => by show m.prev ≤ _; omega, by show m.commit ≤ _; omega⟩
   have K1 := s.nd.onAppend_kept m.ms
   have BN1 := Nd.onAppend_b BN.1 BM
   have K2 := (s.nd.onAppend m.ms).1.onAcked_kept m.ms
   have hml : m.ms.es.length = m.es.length := List.length_map ..
   have hlast := BN.1.last
   have hP3 := HP.out.tt f3
   have hD3 := HD.out.tt f3
   have OA := Lib.hid (onAppend_calls hP3 m (HMX.out.tt f3) (by omega) (by omega) (by omega) (by omega))
   have DA := Lib.hid (fun X' w4 (hd : DNs X' w4 b2 s.nd q2) (hm : MsAt X' w4 m) => dAppend_calls hd m hm (by omega) (by omega) (by omega) (by omega))
   have TO := Lib.hid (fun e w4 h => two_out (e := e) (w4 := w4) hP3 hD3 NB.out.1 (r := s.nd.onAppend m.ms) h)
   have HMX3 := Lib.hid (HMX.out.tt f3)
   have SZ : Hid (w1.heap.size ≤ w3.heap.size ∧ W2.heap.size ≤ w1.heap.size) := ⟨Nat.le_trans f2.size f3.size, B3.out.2.2.size⟩
   obtain ⟨r, hr⟩ : ∃ r, s.nd.onAppend m.ms = r := ⟨_, rfl⟩
   rw [hr] at OA DA TO K1 BN1 K2
   have hle : r.1.log.es.length ≤ 28 := by have := K1.1.es; omega
   have hye : r.1.yes.length ≤ 0 := K1.1.yes
   have hcf : r.1.conf = s.conf := K1.1.conf
   have hrt := right_all NB.out.2.2.2.right
   have hl2 := BN1.1.last
   have OC := Lib.hid (fun X' P' w5 q' (h : PNs X' P' w5 b r.1 q') => onAcked_calls h m (by rw [hcf]; exact ⟨hrt.2.1, hrt.2.2⟩) (by rw [hcf]; exact fun x hx => (hrt.1 x hx).1) (fun y hy => by have := BN1.1.nx y hy; omega) (fun y hy => by have := BN1.1.mt y hy; omega) (by omega) (fun _ => by omega) (by omega) (by omega))
   have DC := Lib.hid (fun X' w5 q' (h : DNs X' w5 b2 r.1 q') => dAcked_calls h m (by rw [hcf]; exact ⟨hrt.2.1, hrt.2.2⟩) (by rw [hcf]; exact fun x hx => hrt.1 x hx) (fun y hy => by have := BN1.1.nx y hy; omega) (fun y hy => by have := BN1.1.mt y hy; omega) (by omega) (fun _ => by omega) (by omega) (by omega))
   have SM := Lib.hid (fun X' P' X2 w5 q' q2' (h : PNs X' P' w5 b r.1 q') (h2 : DNs X2 w5 b2 r.1 q2') => same12_true h h2 (by unfold maxLen; omega) (by omega))
   have FW := Lib.hid (And.intro K1.2 K2.2)
   have HK := Lib.hid K2.1
   have HLE := Lib.hid (And.intro hle hye)
   unfold cM at OA DA OC DC
   obtain ⟨u0, u1, u2, u3, u4, u5, u6, u7, u8, u9⟩ := VM.out w3 B5.out
   clear hsh m1 m2 m3 m4 m5 m6 BN BM K1 BN1 K2 hml hlast hP3 hD3 hr hle hye hcf hrt hl2 HP HD HMX v0 v1 v2 v3 v4 v5 v6 v7 v8 v9
   go_wp2_with fail
   (with_reducible refine OA.out.mono ?_)
   intro e w4 hN
   obtain ⟨X4, P4, v, rfl, hd4, a4, hnext⟩ := TO.out e w4 hN
   have DA4 := Lib.hid (DA.out X4 w4 hd4 (HMX3.out.aft a4))
   have B6 := Lib.hid (B5.out.fr a4.fr (fun c o hc k => by have := NB.out.2.1 c (a4.hp c k); have := SZ.out; omega) GS.out.1 GS.out.2)
   have NX := Lib.hid hnext
   clear u0 u1 u2 u3 u4 u5 u6 u7 u8 u9 OA DA TO hN hd4 hnext HMX3
   obtain ⟨u0, u1, u2, u3, u4, u5, u6, u7, u8, u9⟩ := VM.out w4 B6.out
   go_wp2_with fail
   (with_reducible refine DA4.out.mono ?_)
   intro e w5 hDO
   obtain ⟨v2, q', q2', rfl, p5, d5, nb5, f5, a5, hx5, hall⟩ := NX.out e w5 hDO
   have B7 := Lib.hid (B5.out.fr f5 (fun c o hc k => by have := NB.out.2.1 c k; have := SZ.out; omega) GS.out.1 GS.out.2)
   have AL := Lib.hid (hall FW.out.1)
   have P5 := Lib.hid p5
   have D5 := Lib.hid d5
   have N5 : Hid (¬ P4 b2 ∧ ∀ c, X4 c → w1.heap.size ≤ c) := ⟨nb5, fun c k => by
    rcases hx5 c k with k | k
    ·exact NB.out.2.1 c k
    ·have := SZ.out.1; omega⟩
   clear u0 u1 u2 u3 u4 u5 u6 u7 u8 u9 DA4 NX hDO p5 d5 nb5 f5 a5 hx5 hall a4
   go_wp2_with fail
   (with_reducible refine AL.out.mono ?_)
   rintro e w6 ⟨rfl, f6⟩
   have SM6 := Lib.hid (SM.out _ _ _ w6 _ _ (P5.out.tt f6) (D5.out.tt f6))
   go_wp2_with fail
   (with_reducible refine SM6.out.mono ?_)
   rintro e w7 ⟨rfl, f7⟩
   have P7 := Lib.hid (P5.out.tt (f6.trans f7))
   have D7 := Lib.hid (D5.out.tt (f6.trans f7))
   have B8 := Lib.hid (B7.out.fr (f6.trans f7) (fun _ _ _ => trivial) GS.out.1 GS.out.2)
   have OC7 := Lib.hid (OC.out _ _ w7 _ P7.out)
   have TO2 := Lib.hid (fun e w8 h => two_out (e := e) (w4 := w8) P7.out D7.out N5.out.1 (r := r.1.onAcked m.ms) h)
   have S7 : Hid (W2.heap.size ≤ w7.heap.size) := B8.out.2.2.size
   obtain ⟨u0, u1, u2, u3, u4, u5, u6, u7, u8, u9⟩ := VM.out w7 B8.out
   clear AL SM6 f6 f7 OC P5 D5
   go_wp2_with fail
   (with_reducible refine OC7.out.mono ?_)
   intro e w8 hN
   obtain ⟨X8, P8, v3, rfl, hd8, a8, hnext⟩ := TO2.out e w8 hN
   have DC8 := Lib.hid (DC.out X8 w8 _ hd8)
   have B9 := Lib.hid (B8.out.fr a8.fr (fun c o hc k => by have := N5.out.2 c (a8.hp c k); have := SZ.out; omega) GS.out.1 GS.out.2)
   have NX := Lib.hid hnext
   clear u0 u1 u2 u3 u4 u5 u6 u7 u8 u9 OC7 DC TO2 hN hd8 hnext a8
   obtain ⟨u0, u1, u2, u3, u4, u5, u6, u7, u8, u9⟩ := VM.out w8 B9.out
   go_wp2_with fail
   (with_reducible refine DC8.out.mono ?_)
   intro e w9 hDO
   obtain ⟨v4, q9, q29, rfl, p9, d9, nb9, f9, a9, hx9, hall⟩ := NX.out e w9 hDO
   have B10 := Lib.hid (B8.out.fr f9 (fun c o hc k => by have := N5.out.2 c k; have := SZ.out; omega) GS.out.1 GS.out.2)
   have AL := Lib.hid (hall FW.out.2)
   have P9 := Lib.hid p9
   have D9 := Lib.hid d9
   clear u0 u1 u2 u3 u4 u5 u6 u7 u8 u9 DC8 NX hDO p9 d9 nb9 f9 a9 hx9 hall
   go_wp2_with fail
   (with_reducible refine AL.out.mono ?_)
   rintro e w10 ⟨rfl, f10⟩
   have SM10 := Lib.hid (same12_true (P9.out.tt f10) (D9.out.tt f10) (by have := HK.out.yes; have := HLE.out; unfold maxLen; omega) (by have := HK.out.es; have := HLE.out; omega))
   go_wp2_with fail
   (with_reducible refine SM10.out.mono ?_)
   rintro e w11 ⟨rfl, f11⟩
   have B11 := Lib.hid (B10.out.fr (f10.trans f11) (fun _ _ _ => trivial) GS.out.1 GS.out.2)
   clear AL SM10 f10 f11
   go_wp2
   go_ret
   exact ⟨rfl, FE.out _ B11.out⟩
 ·go_wp2_with fail
  (with_reducible refine SC2.out.mono ?_)
  rintro e w3 ⟨⟨sh, rfl, hsh⟩, f3⟩
  have B5 := Lib.hid (B4.out.fr f3 (fun _ _ _ => trivial) GS.out.1 GS.out.2)
  clear SC2 hsh
  go_wp2
  go_ret
  exact ⟨rfl, FE.out _ B5.out⟩
theorem followHears_walk (W : World) (cs0 cs1 : Array Value) (r0 : Rd Tryz.prog W 29 cs0.toList) (r1 : Rd Tryz.prog W 32 cs1.toList) :
  Calls Tryz.prog 3 #[.agg cs0, .agg cs1] W fun e w' => e = .returned (.bool true) ∧ Below W.heap.size W w' := by
 obtain ⟨s, rfl, hs, hcl⟩ := st_of r0
 obtain ⟨m, rfl, hm⟩ := ms_of r1
 exact (followHears_main W s m hs hm hcl).mono fun e w' ⟨h1, h2⟩ => ⟨h1, h2.below (Nat.le_refl _)⟩
end Go.Proofs.YtmjccpfchhnfhaaGreat
