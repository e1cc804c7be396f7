/- Texts of the proofs, part 47: what the functions that they reach do, walked; no conditions beyond those that each states. -/
import Derived.Test.YtmjccpfchhnfhaaGreatZz07efe4e63e
set_option linter.unusedVariables false
set_option linter.unusedSimpArgs false
/- Law 12: the chapter's examples, behind the first thing that is done (printed by awake12.py). -/
namespace Go.Proofs.YtmjccpfchhnfhaaGreat
open Go.RowKit
set_option linter.unusedVariables false
set_option linter.unusedSimpArgs false
section
variable {X : Nat → Prop} {w : World} {G : Nat} {l : List Nx} {ms : List MV} {many : Int} {c : GV}
set_option maxRecDepth 100000 in
set_option maxHeartbeats 8000000 in
theorem aw_s7 [Old] [NoOld] {R : Ending → World → Prop} (h : Grp X w G l ms many c) (B0 : Nat → Prop) (hl : Low B0 X G c) (B : Nat) (hB : B + 4 ≤ 700000) (hmn : 0 ≤ many ∧ many ≤ 1000) (hcn : c.ns ≤ 1000 ∧ c.nt ≤ 1000 ∧ c.nl ≤ 1000) (ok : GOk B l ms many c) (hns : l.map (·.n) = NS1) (hms : ms.map MV.ms = MS2) (fin : ∀ W, Fr (fun q _ => B0 q) w W → R (.returned (.bool true)) W) (u0 u2 u3 u4 u5 u6 u7 u8 u9 u10 u11 u12 u13 u14 u15 u16 u17 u18 u19 u20 u21 u22 u23 u24 u25 u26 u27 u28 u29 u30 u31 u32 u33 u34 u35 u36 u37 u38 u39 u40 u41 u42 u43 u44 u45 u46 u47 u48 u49 u50 u51 u52 u53 u54 u55 u56 u57 u58 u59 u60 u61 u62 u63 u64 u65 u66 u67 u68 u69 u70 u71 u72 u73 u74 u75 u76 u77 u78 u79 u80 u81 u82 u83 u84 u85 u86 u87 u88 u89 u90 u91 u92 u93 u94 u95 u96 u97 u98 u99 u100 u101 u102 u103 u104 u105 u106 u107 u108 u109 u110 u111 u112 u113 u114 u115 u116 u117 u118 u119 u120 u121 u122 u123 u124 u125 u126 u127 u128 u129 u130 u131 u132 u133 u134 u135 u136 u137 u138 u139 u140 u141 u142 u143 u144 u145 u146 u147 u148 u149 u150 u151 u152 u153 u154 u155 u156 u157 u158 u159 u160 u161 u162 u163 u164 u165 u166 u167 u168 u169 u170 u171 u172 u173 u174 u175 u176 u177 u178 u179 u180 u181 u182 u183 u184 u185 u186 u187 u188 u189 u190 u191 u192 u193 u194 u195 : Value) :
  Code.wp Tryz.prog (seqR 7 (bodyC Tryz.f7.body)) (bodyPost Tryz.prog Tryz.f7 R) { tmps := #[u0, .pointer (some ⟨G, 0, none⟩), u2, u3, u4, u5, u6, u7, u8, u9, u10, u11, u12, u13, u14, u15, u16, u17, u18, u19, u20, u21, u22, u23, u24, u25, u26, u27, u28, u29, u30, u31, u32, u33, u34, u35, u36, u37, u38, u39, u40, u41, u42, u43, u44, u45, u46, u47, u48, u49, u50, u51, u52, u53, u54, u55, u56, u57, u58, u59, u60, u61, u62, u63, u64, u65, u66, u67, u68, u69, u70, u71, u72, u73, u74, u75, u76, u77, u78, u79, u80, u81, u82, u83, u84, u85, u86, u87, u88, u89, u90, u91, u92, u93, u94, u95, u96, u97, u98, u99, u100, u101, u102, u103, u104, u105, u106, u107, u108, u109, u110, u111, u112, u113, u114, u115, u116, u117, u118, u119, u120, u121, u122, u123, u124, u125, u126, u127, u128, u129, u130, u131, u132, u133, u134, u135, u136, u137, u138, u139, u140, u141, u142, u143, u144, u145, u146, u147, u148, u149, u150, u151, u152, u153, u154, u155, u156, u157, u158, u159, u160, u161, u162, u163, u164, u165, u166, u167, u168, u169, u170, u171, u172, u173, u174, u175, u176, u177, u178, u179, u180, u181, u182, u183, u184, u185, u186, u187, u188, u189, u190, u191, u192, u193, u194, u195], defers := [] } w := by
 dsimp only [seqR, bodyC, Tryz.f7]
 have hml : ms.length = 2 := by have := congrArg List.length hms; rw [List.length_map] at this; exact this.trans MS2_is.1
 have hbd : ∀ W : World, (Instr.build 114 #[(0, .int .i64 3), (1, .int .i64 0)]).run Tryz.prog W = .ok (.agg #[.int .i64 3, .int .i64 0]) W := fun W => run_build W _ _ _ (by kernel_rfl)
 obtain ⟨m0, m1, rfl⟩ : ∃ a b, ms = [a, b] := by match ms, hml with | [a, b], _ => exact ⟨a, b, rfl⟩
 have hm0 : m0.ms = MS2.getD 0 zMs := by rw [← hms]; rfl
 have hm0' : m0.dst = 1 ∧ m0.index = 0 ∧ m0.tm = 1 ∧ m0.es.length = 1 := by
  have := MS2_is.2
  rw [← hm0] at this
  have e : m0.ms.es.length = m0.es.length := by show (m0.es.map EV.en).length = _; rw [List.length_map]
  rw [e] at this
  exact this
 obtain ⟨gm, cm, VM⟩ := h.mview (by simp)
 obtain ⟨y1a, VM1⟩ := VM w (Fr.refl _ _)
 have y1 : w.cell? ⟨G, 1, none⟩ = some (.slice (some ⟨gm, 0, none⟩) 2 cm) := y1a
 clear y1a
 have v2 : w.cell? ⟨gm, 2, none⟩ = some (.int .i64 1) := by rw [← hm0'.1]; exact VM1 0 (by simp) 2 _ rfl
 have v4 : w.cell? ⟨gm, 4, none⟩ = some (.int .u64 0) := by
  have := VM1 0 (by simp) 4 _ rfl
  rw [show ([m0, m1] : List MV)[0].index = 0 from hm0'.2.1] at this
  exact this
 have v3 : w.cell? ⟨gm, 3, none⟩ = some (.int .u64 1) := by
  have := VM1 0 (by simp) 3 _ rfl
  rw [show ([m0, m1] : List MV)[0].tm = 1 from hm0'.2.2.1] at this
  exact this
 have v9 : w.cell? ⟨gm, 9, none⟩ = some (.slice m0.ea 1 m0.ec) := by
  have := VM1 0 (by simp) 9 _ rfl
  rw [show ([m0, m1] : List MV)[0].es.length = 1 from hm0'.2.2.2] at this
  exact this
 have hk0 : m0.kind = 5 := by
  have := MS2_kind
  rw [← hm0] at this
  exact this
 have hl1 : 1 < l.length := by
  have := congrArg List.length hns
  rw [List.length_map] at this
  rw [this]
  decide +kernel
 have PC : Hid (Calls Tryz.prog 46 #[.pointer (some ⟨G, 0, none⟩), .agg #[.int .i64 3, .int .i64 0]] w fun e w' => PlOut B0 w G l _ many c 3 0 e w') := pl12V3 h B0 hl B ok 3 ((0 : Nat) : Int) rfl 0 (by simp) rfl 1 hl1 hm0'.1 (.inl hk0) (fun W q hp hm => hears56_calls hp m0 hm B (by omega) (ok.gd _ (List.getElem_mem _)) (ok.bm _ (by simp)) (ok.es _ (by simp)) (.inl hk0))
 clear hk0 hl1
 have OK := Lib.hid ok
 have HMS := Lib.hid hms
 have HNS := Lib.hid hns
 have FIN := Lib.hid fin
 have HL := Lib.hid hl
 have HBN := Lib.hid (And.intro hB (And.intro hmn hcn))
 clear h hl ok hns hms fin VM VM1 hml hm0 hm0' hB hmn hcn
 go_upto_region 11 with fail
 rename_i K1 h1
 have H1 := Lib.hid h1
 clear h1
 clear y1 v2 v4 v3 v9
 go_wp2_with fail
 (with_reducible refine PC.out.mono ?_)
 rintro e W2 ⟨X2, l2, ms2, many2, c2, rfl, g2, l2w, hp, hnn, f2⟩
 have e2 := playR_hear (i := 1) (j := 0) (by rw [HNS.out]; decide +kernel) (by simp) (by
  have := MS2_is.2.1
  rw [← HMS.out] at this
  exact this) (by simp) hp
 obtain ⟨e3, e4⟩ := e2
 have hx : (([m0, m1] : List MV).map MV.ms)[0] = MS2.getD 0 zMs := by rw [← HMS.out]; rfl
 have hn : (l.map (·.n))[1]'(by rw [HNS.out]; decide +kernel) = Nd.new 1 (cfN 3) := (getD_get _ default).trans (by rw [HNS.out]; decide +kernel)
 rw [hx, hn] at e3 e4
 rw [HNS.out] at e3
 rw [HMS.out] at e4
 have OK2 := Lib.hid (OK.out.next (c' := c2) (many' := many2) hp (by have := HBN.out.1; omega) (by have := HBN.out.2; omega) (by have := HBN.out.2; omega))
 have G2 := Lib.hid (And.intro g2 (And.intro l2w (And.intro e3 (And.intro e4 f2))))
 clear g2 l2w hp hnn f2 e3 e4 hx hn PC
 go_wp2_with fail
 exact H1.out _ _ (by apply aw_s10 G2.out.1 B0 G2.out.2.1 (B + 2) HBN.out.1 OK2.out G2.out.2.2.1 G2.out.2.2.2.1 (fun W f => FIN.out W (G2.out.2.2.2.2.trans f)))
end
end Go.Proofs.YtmjccpfchhnfhaaGreat
