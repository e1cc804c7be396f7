/- Texts of the proofs, part 45: what the functions that they reach do, walked; no conditions beyond those that each states. -/
import Derived.Test.YtmjccpfchhnfhaaGreatZz849086e428
set_option linter.unusedVariables false
set_option linter.unusedSimpArgs false
/- Law 12: the chapter's examples, behind the third thing that is done (printed by awake12.py). -/
namespace Go.Proofs.YtmjccpfchhnfhaaGreat
open Go.RowKit
set_option linter.unusedVariables false
set_option linter.unusedSimpArgs false
section
variable {X : Nat → Prop} {w : World} {G : Nat} {l : List Nx} {ms : List MV} {many : Int} {c : GV}
set_option maxRecDepth 100000 in
set_option maxHeartbeats 8000000 in
theorem aw_s13 [Old] [NoOld] {R : Ending → World → Prop} (h : Grp X w G l ms many c) (B0 : Nat → Prop) (hl : Low B0 X G c) (hns : l.map (·.n) = NS4) (hms : ms.map MV.ms = MS3) (fin : ∀ W, Fr (fun q _ => B0 q) w W → R (.returned (.bool true)) W) (u0 u4 u5 u6 u7 u8 u9 u10 u11 u12 u13 u14 u15 u16 u17 u18 u19 u20 u21 u22 u23 u24 u25 u26 u27 u28 u29 u30 u31 u32 u33 u34 u35 u36 u37 u38 u39 u40 u41 u42 u43 u44 u45 u46 u47 u48 u49 u50 u51 u52 u53 u54 u55 u56 u57 u58 u59 u60 u61 u62 u63 u64 u65 u66 u67 u68 u69 u70 u71 u72 u73 u74 u75 u76 u77 u78 u79 u80 u81 u82 u83 u84 u85 u86 u87 u88 u89 u90 u91 u92 u93 u94 u95 u96 u97 u98 u99 u100 u101 u102 u103 u104 u105 u106 u107 u108 u109 u110 u111 u112 u113 u114 u115 u116 u117 u118 u119 u120 u121 u122 u123 u124 u125 u126 u127 u128 u129 u130 u131 u132 u133 u134 u135 u136 u137 u138 u139 u140 u141 u142 u143 u144 u145 u146 u147 u148 u149 u150 u151 u152 u153 u154 u155 u156 u157 u158 u159 u160 u161 u162 u163 u164 u165 u166 u167 u168 u169 u170 u171 u172 u173 u174 u175 u176 u177 u178 u179 u180 u181 u182 u183 u184 u185 u186 u187 u188 u189 u190 u191 u192 u193 u194 u195 : Value) :
  Code.wp Tryz.prog (seqR 13 (bodyC Tryz.f7.body)) (bodyPost Tryz.prog Tryz.f7 R) { tmps := #[u0, .pointer (some ⟨G, 0, none⟩), .bool true, .bool true, u4, u5, u6, u7, u8, u9, u10, u11, u12, u13, u14, u15, u16, u17, u18, u19, u20, u21, u22, u23, u24, u25, u26, u27, u28, u29, u30, u31, u32, u33, u34, u35, u36, u37, u38, u39, u40, u41, u42, u43, u44, u45, u46, u47, u48, u49, u50, u51, u52, u53, u54, u55, u56, u57, u58, u59, u60, u61, u62, u63, u64, u65, u66, u67, u68, u69, u70, u71, u72, u73, u74, u75, u76, u77, u78, u79, u80, u81, u82, u83, u84, u85, u86, u87, u88, u89, u90, u91, u92, u93, u94, u95, u96, u97, u98, u99, u100, u101, u102, u103, u104, u105, u106, u107, u108, u109, u110, u111, u112, u113, u114, u115, u116, u117, u118, u119, u120, u121, u122, u123, u124, u125, u126, u127, u128, u129, u130, u131, u132, u133, u134, u135, u136, u137, u138, u139, u140, u141, u142, u143, u144, u145, u146, u147, u148, u149, u150, u151, u152, u153, u154, u155, u156, u157, u158, u159, u160, u161, u162, u163, u164, u165, u166, u167, u168, u169, u170, u171, u172, u173, u174, u175, u176, u177, u178, u179, u180, u181, u182, u183, u184, u185, u186, u187, u188, u189, u190, u191, u192, u193, u194, u195], defers := [] } w := by
 dsimp only [seqR, bodyC, Tryz.f7]
 have hll : l.length = 3 := by have := congrArg List.length hns; rw [List.length_map] at this; exact this.trans (by decide +kernel)
 obtain ⟨x0, x1, x2, rfl⟩ : ∃ x0 x1 x2, l = [x0, x1, x2] := by match l, hll with | [a, b, d], _ => exact ⟨a, b, d, rfl⟩
 have n0 : x0.n = NS4.getD 0 default := by rw [← hns]; rfl
 have n2 : x2.n = Nd.new 2 (cfN 3) := by rw [← NS4_is.2.2.2, ← hns]; rfl
 have H := Lib.hid h
 have HL := Lib.hid hl
 have FIN := Lib.hid fin
 obtain ⟨gn, cn, V⟩ := h.view (by simp)
 obtain ⟨q0, hq0⟩ := h.nd x0 (by simp)
 obtain ⟨b0, hb0⟩ : ∃ b, x0.b = b := ⟨_, rfl⟩
 obtain ⟨b2, hb2⟩ : ∃ b, x2.b = b := ⟨_, rfl⟩
 rw [hb0] at hq0
 obtain ⟨y0, V1⟩ := V w (Fr.refl _ _)
 have y0 : w.cell? ⟨G, 0, none⟩ = some (.slice (some ⟨gn, 0, none⟩) 3 cn) := y0
 have z0 : w.cell? ⟨gn, 0, none⟩ = some (.pointer (some ⟨b0, 0, none⟩)) := by rw [← hb0]; exact V1 0 (by simp)
 have c7 : w.cell? ⟨b0, 7, none⟩ = some (.int .u64 1) := by
  rw [(hq0.cells (Fr.refl _ w)).2.2.2.2.2.2.2.1, n0, NS4_is.2.1]; rfl
 obtain ⟨g8, hg8⟩ : ∃ x, w.heap.size = x := ⟨_, rfl⟩
 obtain ⟨W1, hW1⟩ : ∃ Y, w.alloc (.cells #[.int .u8 97] 5 (0, 0)) = Y := ⟨_, rfl⟩
 have f1 : Fr (fun _ _ => True) w W1 := hW1 ▸ (Fr.refl _ _).alloc _
 have t1 : W1.heap[g8]? = some (.cells #[.int .u8 97] 5 (0, 0)) := by rw [← hW1, ← hg8]; exact heap_alloc_new _ _
 have BA : BytesAt (RO X) W1 (.slice (some ⟨g8, 0, none⟩) [(97 : UInt8)].length 1) [97] := ⟨_, 1, rfl, Nat.le_refl _, (fun e => by cases e), .inr ⟨g8, 0, _, rfl, t1, ⟨fun hx => by have := h.hx _ hx; omega, .inr ⟨_, _, _, rfl, by decide⟩⟩, fun i hi => by
  have : i = 0 := by have : i < 1 := hi; omega
  subst this
  exact cell_mk t1 rfl⟩⟩
 have AC0 : Calls Tryz.prog 23 #[.pointer (some ⟨b0, 0, none⟩), .int .i64 1, .slice (some ⟨g8, 0, none⟩) 1 1] W1 fun e w' => POut X x0.P W1 b0 (x0.n.propose 1 [97]) e w' := propose_calls (hq0.tt f1) 1 (some ⟨g8, 0, none⟩) 1 [97] BA (by rw [n0]; exact NS4_0.1) (by rw [n0]; exact NS4_0.2.1) 0 (by rw [n0]; exact NS4_0.2.2.1) (by decide) (by rw [n0]; exact NS4_0.2.2.2.1) (by rw [n0]; exact NS4_0.2.2.2.2)
 obtain ⟨r, hr⟩ : ∃ r, x0.n.propose 1 [97] = r := ⟨_, rfl⟩
 rw [hr] at AC0
 have hr2 : r.2 = (2, 0) := by rw [← hr, n0]; exact NS4_is.2.2.1
 obtain ⟨r1, r2, r3⟩ := r
 have e2 : r2 = 2 ∧ r3 = 0 := by cases hr2; exact ⟨rfl, rfl⟩
 obtain ⟨rfl, rfl⟩ := e2
 have AC := Lib.hid AC0
 have PX : Hid (∀ q, x0.P q → X q) := hq0.px
 have F1 := Lib.hid f1
 have HN := Lib.hid (And.intro n0 (And.intro n2 (And.intro hb0 (And.intro hb2 hms))))
 clear h hl fin V V1 hq0 n0 n2 hns hms hll BA t1 f1 AC0 hr hr2 hb0 hb2
 go_wp2_with fail
 try rw [hW1]
 try rw [hg8]
 clear hW1 hg8 y0 z0 c7
 (with_reducible refine AC.out.mono ?_)
 rintro e W2 ⟨⟨q6, rfl, p6⟩, f6⟩
 dsimp only
 have G2 : Hid (Grp X W2 G [⟨x0.b, r1, x0.P⟩, x1, x2] ms many c) := (H.out.tt F1.out).turn 0 (by simp) ⟨q6, by show PNs _ _ _ x0.b _ _; rw [HN.out.2.2.1]; exact p6⟩ (.of f6 PX.out)
 have F2 : Hid (Fr (fun q _ => B0 q) w W2) := (F1.out.mono fun _ _ _ => trivial).trans (f6.mono fun q _ hq e => HL.out.x q (PX.out q e) hq)
 obtain ⟨gn, cn, V⟩ := G2.out.view (by simp)
 obtain ⟨y0, V1⟩ := V W2 (Fr.refl _ _)
 have y0 : W2.cell? ⟨G, 0, none⟩ = some (.slice (some ⟨gn, 0, none⟩) 3 cn) := y0
 have z2 : W2.cell? ⟨gn, 2, none⟩ = some (.pointer (some ⟨b2, 0, none⟩)) := by rw [← HN.out.2.2.2.1]; exact V1 2 (by simp)
 obtain ⟨q2, hq2⟩ := G2.out.nd x2 (by simp)
 rw [HN.out.2.2.2.1] at hq2
 have x6 := (hq2.cells (Fr.refl _ W2)).2.2.2.2.2.2.1
 have w6 := hq2.free (Fr.refl _ W2) 6
 obtain ⟨W3, hW3⟩ : ∃ Y, W2.setCell ⟨b2, 6, none⟩ (.int .u64 3) = Y := ⟨_, rfl⟩
 have hW3s : sets W2 b2 [(6, .int .u64 3)] = W3 := hW3
 have f3 : Fr (fun k _ => k ≠ b2) W2 W3 := hW3s ▸ sets_fr b2 _ W2
 have p3 : PNs X x2.P W3 b2 { x2.n with tm := 3 } q2 := hq2.re f3 (hW3s ▸ sets_heap _ hq2.top) ⟨rfl, rfl⟩ (.inl ⟨rfl, rfl⟩) ⟨rfl, rfl, rfl⟩ ⟨rfl, rfl, rfl, rfl⟩
 have G3 : Hid (Grp X W3 G [⟨x0.b, r1, x0.P⟩, x1, ⟨x2.b, { x2.n with tm := 3 }, x2.P⟩] ms many c) := G2.out.own 2 (by simp) (by show Fr (fun k _ => k ≠ x2.b) W2 W3; rw [HN.out.2.2.2.1]; exact f3) (by show PNs X x2.P W3 x2.b _ _; rw [HN.out.2.2.2.1]; exact p3)
 have F3 : Hid (Fr (fun q _ => B0 q) w W3) := F2.out.trans (f3.mono fun q _ hq e => HL.out.x q (hq2.px _ (e ▸ hq2.pb)) hq)
 have hml : ms.length = 3 := by have := congrArg List.length HN.out.2.2.2.2; rw [List.length_map] at this; exact this.trans MS3_is.1
 obtain ⟨m0, m1, m2, rfl⟩ : ∃ a b d, ms = [a, b, d] := by match ms, hml with | [a, b, d], _ => exact ⟨a, b, d, rfl⟩
 have hm1 : m1.ms = MS3.getD 1 zMs := by rw [← HN.out.2.2.2.2]; rfl
 obtain ⟨gm, cm, VM⟩ := G3.out.mview (by simp)
 obtain ⟨y1, VM1⟩ := VM W3 (Fr.refl _ _)
 have y1 : W3.cell? ⟨G, 1, none⟩ = some (.slice (some ⟨gm, 0, none⟩) 3 cm) := y1
 have v : ∀ j u, (encM m1)[j]? = some u → W3.cell? ⟨gm, 10 + j, none⟩ = some u := fun j u hu => VM1 1 (by simp) j u hu
 have v0 := v 0 _ rfl
 have v1 := v 1 _ rfl
 have v2 := v 2 _ rfl
 have v3 := v 3 _ rfl
 have v4 := v 4 _ rfl
 have v5 := v 5 _ rfl
 have v6 := v 6 _ rfl
 have v7 := v 7 _ rfl
 have v8 := v 8 _ rfl
 have v9 := v 9 _ rfl
 have MA : MsAt X W3 m1 := G3.out.rm.at' m1 (by simp)
 have hix : m1.index + m1.es.length + 1 < 18446744073709551616 ∧ m1.es.length ≤ 900000 := by
  have := MS3_1
  rw [← hm1] at this
  have e : m1.ms.es.length = m1.es.length := by show (m1.es.map EV.en).length = _; rw [List.length_map]
  rw [e] at this
  exact this
 have hn2 : x2.n.log.last + 1 < 18446744073709551616 ∧ x2.n.log.es.length ≤ 900000 := by rw [HN.out.2.1]; decide
 have OA := Lib.hid (onAppend_calls p3 m1 MA hix.1 hix.2 hn2.1 hn2.2)
 obtain ⟨r, hr⟩ : ∃ r, ({ x2.n with tm := 3 } : Nd).onAppend m1.ms = r := ⟨_, rfl⟩
 rw [hr] at OA
 have hr2 : r.2.length = 1 ∧ (r.2.getD 0 zMs).ok = false ∧ (r.2.getD 0 zMs).tm = 3 := by
  rw [← hr, hm1, HN.out.2.1]; exact MS3_on
 have HR := Lib.hid hr2
 unfold cM at OA
 clear f6 p6 V V1 hq2 hW3s f3 p3 VM VM1 v hml hm1 MA hix hn2 hr hr2 AC
 go_wp2_with fail
 try rw [hW3]
 clear hW3 y0 z2 x6 w6
 go_wp2_with fail
 (with_reducible refine OA.out.mono ?_)
 intro e W4 hout
 obtain ⟨X4, P4, q4, va, mvs, rfl, p4, a4, o4, e4⟩ := hout
 have F4 : Hid (Fr (fun q _ => B0 q) w W4) := F3.out.trans (a4.fr.mono fun q _ hq e => HL.out.x q (a4.hp q e) hq)
 have hl4 : mvs.length = 1 := by have := HR.out.1; rw [← e4, List.length_map] at this; exact this
 obtain ⟨mv, rfl⟩ : ∃ a, mvs = [a] := by match mvs, hl4 with | [a], _ => exact ⟨a, rfl⟩
 have hmv : mv.ok = false ∧ mv.tm = 3 := by have := HR.out.2; rw [← e4] at this; exact this
 obtain ⟨av, cv, ev, hcv, h1⟩ := o4.rows
 subst ev
 rcases h1 with h1 | ⟨gv, off, ob, rfl, hob, hkb, hcc⟩
 ·cases h1
 have u7 : W4.cell? ⟨gv, off + 7, none⟩ = some (.bool false) := by rw [← hmv.1]; exact hcc 0 (by simp) 7 _ rfl
 have u3' : W4.cell? ⟨gv, off + 3, none⟩ = some (.int .u64 3) := by
  have := hcc 0 (by simp) 3 _ rfl
  rw [show off + 0 * 10 + 3 = off + 3 by omega, show ([mv] : List MV)[0].tm = 3 from hmv.2] at this
  exact this
 clear p4 a4 o4 e4 hl4 hmv hcc hkb hob hcv OA
 go_wp2
 exact FIN.out _ F4.out
end
end Go.Proofs.YtmjccpfchhnfhaaGreat
