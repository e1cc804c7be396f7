/- Texts of the proofs, part 46: what the functions that they reach do, walked; no conditions beyond those that each states. -/
import Derived.Test.YtmjccpfchhnfhaaGreatZz5cd244e767
set_option linter.unusedVariables false
set_option linter.unusedSimpArgs false
/- Law 12: the chapter's examples, behind the second thing that is done (printed by awake12.py). -/
namespace Go.Proofs.YtmjccpfchhnfhaaGreat
open Go.RowKit
set_option linter.unusedVariables false
set_option linter.unusedSimpArgs false
section
variable {X : Nat → Prop} {w : World} {G : Nat} {l : List Nx} {ms : List MV} {many : Int} {c : GV}
set_option maxRecDepth 100000 in
set_option maxHeartbeats 8000000 in
theorem aw_s10 [Old] [NoOld] {R : Ending → World → Prop} (h : Grp X w G l ms many c) (B0 : Nat → Prop) (hl : Low B0 X G c) (B : Nat) (hB : B + 2 ≤ 700000) (ok : GOk B l ms many c) (hns : l.map (·.n) = NS3) (hms : ms.map MV.ms = MS3) (fin : ∀ W, Fr (fun q _ => B0 q) w W → R (.returned (.bool true)) W) (u0 u3 u4 u5 u6 u7 u8 u9 u10 u11 u12 u13 u14 u15 u16 u17 u18 u19 u20 u21 u22 u23 u24 u25 u26 u27 u28 u29 u30 u31 u32 u33 u34 u35 u36 u37 u38 u39 u40 u41 u42 u43 u44 u45 u46 u47 u48 u49 u50 u51 u52 u53 u54 u55 u56 u57 u58 u59 u60 u61 u62 u63 u64 u65 u66 u67 u68 u69 u70 u71 u72 u73 u74 u75 u76 u77 u78 u79 u80 u81 u82 u83 u84 u85 u86 u87 u88 u89 u90 u91 u92 u93 u94 u95 u96 u97 u98 u99 u100 u101 u102 u103 u104 u105 u106 u107 u108 u109 u110 u111 u112 u113 u114 u115 u116 u117 u118 u119 u120 u121 u122 u123 u124 u125 u126 u127 u128 u129 u130 u131 u132 u133 u134 u135 u136 u137 u138 u139 u140 u141 u142 u143 u144 u145 u146 u147 u148 u149 u150 u151 u152 u153 u154 u155 u156 u157 u158 u159 u160 u161 u162 u163 u164 u165 u166 u167 u168 u169 u170 u171 u172 u173 u174 u175 u176 u177 u178 u179 u180 u181 u182 u183 u184 u185 u186 u187 u188 u189 u190 u191 u192 u193 u194 u195 : Value) :
  Code.wp Tryz.prog (seqR 10 (bodyC Tryz.f7.body)) (bodyPost Tryz.prog Tryz.f7 R) { tmps := #[u0, .pointer (some ⟨G, 0, none⟩), .bool true, u3, u4, u5, u6, u7, u8, u9, u10, u11, u12, u13, u14, u15, u16, u17, u18, u19, u20, u21, u22, u23, u24, u25, u26, u27, u28, u29, u30, u31, u32, u33, u34, u35, u36, u37, u38, u39, u40, u41, u42, u43, u44, u45, u46, u47, u48, u49, u50, u51, u52, u53, u54, u55, u56, u57, u58, u59, u60, u61, u62, u63, u64, u65, u66, u67, u68, u69, u70, u71, u72, u73, u74, u75, u76, u77, u78, u79, u80, u81, u82, u83, u84, u85, u86, u87, u88, u89, u90, u91, u92, u93, u94, u95, u96, u97, u98, u99, u100, u101, u102, u103, u104, u105, u106, u107, u108, u109, u110, u111, u112, u113, u114, u115, u116, u117, u118, u119, u120, u121, u122, u123, u124, u125, u126, u127, u128, u129, u130, u131, u132, u133, u134, u135, u136, u137, u138, u139, u140, u141, u142, u143, u144, u145, u146, u147, u148, u149, u150, u151, u152, u153, u154, u155, u156, u157, u158, u159, u160, u161, u162, u163, u164, u165, u166, u167, u168, u169, u170, u171, u172, u173, u174, u175, u176, u177, u178, u179, u180, u181, u182, u183, u184, u185, u186, u187, u188, u189, u190, u191, u192, u193, u194, u195], defers := [] } w := by
 dsimp only [seqR, bodyC, Tryz.f7]
 have hml : ms.length = 3 := by have := congrArg List.length hms; rw [List.length_map] at this; exact this.trans MS3_is.1
 have hbd : ∀ W : World, (Instr.build 114 #[(0, .int .i64 3), (1, .int .i64 2)]).run Tryz.prog W = .ok (.agg #[.int .i64 3, .int .i64 2]) W := fun W => run_build W _ _ _ (by kernel_rfl)
 obtain ⟨m0, m1, m2, rfl⟩ : ∃ a b d, ms = [a, b, d] := by match ms, hml with | [a, b, d], _ => exact ⟨a, b, d, rfl⟩
 have hm2 : m2.ms = MS3.getD 2 zMs := by rw [← hms]; rfl
 have hm2' : m2.kind = 6 ∧ m2.ok = true ∧ m2.index = 1 := by
  have := MS3_is.2.2
  rw [← hm2] at this
  exact this
 obtain ⟨gm, cm, VM⟩ := h.mview (by simp)
 obtain ⟨y1a, VM1⟩ := VM w (Fr.refl _ _)
 have y1 : w.cell? ⟨G, 1, none⟩ = some (.slice (some ⟨gm, 0, none⟩) 3 cm) := y1a
 clear y1a
 have v0 : w.cell? ⟨gm, 20, none⟩ = some (.int .i64 6) := by rw [← hm2'.1]; exact VM1 2 (by simp) 0 _ rfl
 have v7 : w.cell? ⟨gm, 27, none⟩ = some (.bool true) := by rw [← hm2'.2.1]; exact VM1 2 (by simp) 7 _ rfl
 have v4 : w.cell? ⟨gm, 24, none⟩ = some (.int .u64 1) := by
  have := VM1 2 (by simp) 4 _ rfl
  rw [show ([m0, m1, m2] : List MV)[2].index = 1 from hm2'.2.2] at this
  exact this
 have hd2 : m2.dst = ((0 : Nat) : Int) := by
  have := MS3_is.2.1
  rw [← hm2] at this
  exact this
 have hl0 : 0 < l.length := by
  have := congrArg List.length hns
  rw [List.length_map] at this
  rw [this]
  decide +kernel
 have PC : Hid (Calls Tryz.prog 46 #[.pointer (some ⟨G, 0, none⟩), .agg #[.int .i64 3, .int .i64 2]] w fun e w' => PlOut B0 w G l _ many c 3 2 e w') := pl12V3 h B0 hl B ok 3 ((2 : Nat) : Int) rfl 2 (by simp) rfl 0 hl0 hd2 (.inr hm2'.1) (fun W q hp hm => hears56_calls hp m2 hm B (by omega) (ok.gd _ (List.getElem_mem _)) (ok.bm _ (by simp)) (ok.es _ (by simp)) (.inr hm2'.1))
 clear hd2 hl0
 have HMS := Lib.hid hms
 have HNS := Lib.hid hns
 have FIN := Lib.hid fin
 have HL := Lib.hid hl
 clear h hl ok hns hms fin VM VM1 hml hm2 hm2'
 go_upto_region 15 with fail
 rename_i K1 h1
 have H1 := Lib.hid h1
 clear h1
 clear y1 v0 v7 v4
 go_wp2_with fail
 (with_reducible refine PC.out.mono ?_)
 rintro e W2 ⟨X2, l2, ms2, many2, c2, rfl, g2, l2w, hp, hnn, f2⟩
 have e2 := playR_hear (i := 0) (j := 2) (by rw [HNS.out]; decide +kernel) (by simp) (by
  have := MS3_is.2.1
  rw [← HMS.out] at this
  exact this) (by simp) hp
 obtain ⟨e3, e4⟩ := e2
 have hx : (([m0, m1, m2] : List MV).map MV.ms)[2] = MS3.getD 2 zMs := by rw [← HMS.out]; rfl
 have hn : (l.map (·.n))[0]'(by rw [HNS.out]; decide +kernel) = aw0 := (getD_get _ default).trans (by rw [HNS.out]; decide +kernel)
 rw [hx, hn, hear4] at e3 e4
 rw [HNS.out] at e3
 rw [HMS.out, List.append_nil] at e4
 have G2 := Lib.hid (And.intro g2 (And.intro l2w (And.intro e3 (And.intro e4 f2))))
 clear g2 l2w hp hnn f2 e3 e4 hx hn PC
 go_wp2_with fail
 exact H1.out _ _ (by apply aw_s13 G2.out.1 B0 G2.out.2.1 G2.out.2.2.1 G2.out.2.2.2.1 (fun W f => FIN.out W (G2.out.2.2.2.2.trans f)))
end
end Go.Proofs.YtmjccpfchhnfhaaGreat
