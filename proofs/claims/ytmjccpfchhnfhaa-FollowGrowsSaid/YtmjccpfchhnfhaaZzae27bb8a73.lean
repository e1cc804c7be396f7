/- Texts of the proofs, part 40: what the functions that they reach do, walked; no conditions beyond those that each states. -/
import Derived.Test.YtmjccpfchhnfhaaZz54599aec1b
set_option linter.unusedVariables false
set_option linter.unusedSimpArgs false
/- Law 12: play, d = 5 (printed by play12c.py). -/
namespace Go.Proofs.Ytmjccpfchhnfhaa
open Go.RowKit
set_option linter.unusedVariables false
set_option linter.unusedSimpArgs false

section
variable {X : Nat → Prop} {w : World} {G : Nat} {l : List Nx} {ms : List MV} {many : Int} {c : GV}
set_option maxRecDepth 100000 in
set_option maxHeartbeats 8000000 in
theorem pl12W5 (h : Grp X w G l ms many c) (B0 : Nat → Prop) (hl : Low B0 X G c) (B : Nat) (ok : GOk B l ms many c) (d k : Int) (h3 : d ≠ 3) (i : Nat) (hi : i < l.length) (hki : k = (i : Nat)) (HD : Hid (d = 5)) :
    Calls Try.prog 7 #[.pointer (some ⟨G, 0, none⟩), .agg #[.int .i64 d, .int .i64 k]] w fun e w' => PlOut B0 w G l ms many c d k e w' := by
  obtain ⟨W1, hW1, F1, o0, o1⟩ := obox w d k
  have H := Lib.hid h
  have HL := Lib.hid hl
  have OK := Lib.hid ok
  obtain ⟨gm, lm, cm, hvm⟩ : ∃ gm lm cm, c.vm = .slice gm lm cm := by obtain ⟨g, c', e⟩ := ownsRow_form h.rm.row; exact ⟨g, _, c', e⟩
  obtain ⟨gn, ln, cn, hvn⟩ : ∃ gn ln cn, c.vn = .slice gn ln cn := by obtain ⟨g, c', e⟩ := ownsRow_form h.rn; exact ⟨g, _, c', e⟩
  have hlm : lm = ms.length := by obtain ⟨g, c', e⟩ := ownsRow_form h.rm.row; rw [hvm] at e; cases e; rfl
  have hln : ln = l.length := by obtain ⟨g, c', e⟩ := ownsRow_form h.rn; rw [hvn] at e; cases e; rfl
  have t1 := F1.out.keep _ _ h.top trivial
  have y0 : W1.cell? ⟨G, 0, none⟩ = some (.slice gn ln cn) := by rw [← hvn]; exact cell_mk t1 rfl
  have y1 : W1.cell? ⟨G, 1, none⟩ = some (.slice gm lm cm) := by rw [← hvm]; exact cell_mk t1 rfl
  subst hki
  have g3 : (d == 3) = false := by simpa using h3
  have YY : Hid (∀ W, Fr (fun _ _ => True) w W → W.cell? ⟨G, 0, none⟩ = some (.slice gn ln cn) ∧ W.cell? ⟨G, 1, none⟩ = some (.slice gm lm cm)) := fun W f => ⟨by rw [← hvn]; exact cell_mk (f.keep _ _ h.top trivial) rfl, by rw [← hvm]; exact cell_mk (f.keep _ _ h.top trivial) rfl⟩
  have hiI : (i : Int) < (ln : Int) := by omega
  have hiI' : ¬ (ln : Int) ≤ (i : Int) := by omega
  have hi0 : ¬ (i : Int) < 0 := by omega
  obtain ⟨gn2, cn2, hvn2, HNC⟩ := h.nrow (by omega)
  have egn : gn = some ⟨gn2, 0, none⟩ ∧ cn = cn2 := by rw [hvn] at hvn2; cases hvn2; exact ⟨rfl, rfl⟩
  obtain ⟨e3, e4⟩ := egn
  subst e3 e4
  obtain ⟨x, hx⟩ : ∃ x, l[i] = x := ⟨_, rfl⟩
  have hxl : x ∈ l := hx ▸ List.getElem_mem hi
  obtain ⟨qx, hqx⟩ := h.nd x hxl
  obtain ⟨b, hb⟩ : ∃ b, x.b = b := ⟨_, rfl⟩
  obtain ⟨ro, hro⟩ : ∃ y, x.n.role = y := ⟨_, rfl⟩
  obtain ⟨tm, htm⟩ : ∃ y, x.n.tm = y := ⟨_, rfl⟩
  obtain ⟨co, hco⟩ : ∃ y, x.n.commit = y := ⟨_, rfl⟩
  rw [hb] at hqx
  have XC : Hid (∀ W, Fr (fun _ _ => True) w W → W.cell? ⟨gn2, i, none⟩ = some (.pointer (some ⟨b, 0, none⟩)) ∧ W.cell? ⟨b, 2, none⟩ = some (.int .i64 ro) ∧ W.cell? ⟨b, 6, none⟩ = some (.int .u64 (tm : Nat)) ∧ W.cell? ⟨b, 7, none⟩ = some (.int .u64 (co : Nat))) := fun W f => by
    obtain ⟨x0, x1, x2, x3, x4, x5, x6, x7, x8, x9, x10, x11, x12, x13⟩ := hqx.cells f
    exact ⟨by rw [← hb, ← hx]; exact HNC i hi W f, by rw [x2, hro], by rw [x6, htm], by rw [x7, hco]⟩
  have HQX := Lib.hid hqx
  have HXX := Lib.hid (And.intro hx (And.intro hxl (And.intro hb (And.intro hro (And.intro htm hco)))))
  have HV := Lib.hid (And.intro hvm (And.intro hvn (And.intro hlm hln)))
  clear h hl ok t1 hvm hvn hlm hln hvn2 HNC hx hxl hqx hb hro htm hco h3
  go_enter Try.func7, Try.ntmps7
  have F3 := Lib.hid F1.out
  obtain ⟨W3, hW3⟩ : ∃ Y, W1 = Y := ⟨_, rfl⟩
  rw [hW3] at hW1 F3 o0 o1 y0 y1
  clear hW3
  obtain ⟨xp, x2, x6, x7⟩ := XC.out W3 F3.out
  obtain ⟨led, hled⟩ : ∃ x, (ro == 3) = x := ⟨_, rfl⟩
  go_upto_region 11 with fail
  try rw [hW1]
  try rw [hled]
  have HLED := Lib.hid hled
  clear hled
  rename_i K1 h1 K0 h0
  have TAIL : ∀ (u1 u2 u3 u4 u10 u11 u12 u13 u14 u15 u16 u17 u18 u19 u20 u21 u22 u23 u24 u25 u26 u27 u28 u29 u30 u31 u32 u33 u34 u35 u36 u37 u38 u39 u40 u41 u42 u43 u44 u45 u46 u47 u48 u49 u50 u51 u52 u53 u54 u55 u56 u57 u58 u59 u60 u61 u62 u63 u64 u65 u66 u67 u68 u69 u70 u71 u72 u73 u74 u75 u76 u77 u78 u79 u80 u81 u82 u83 u84 u85 u86 u87 u88 u89 u90 u91 u92 u93 u94 u95 u96 u97 u98 u99 u100 u101 u102 u103 u104 u105 u106 u107 u108 u109 u110 u111 u112 u113 u114 u115 u116 u117 u118 u119 u120 u121 u122 u123 u124 u125 u126 u127 u128 u129 u130 u131 u132 u133 u134 u135 u136 u137 u138 u139 u140 u141 u142 u143 u144 u145 u146 u147 u148 u149 u150 u151 u152 u153 u154 u155 u156 u157 u158 u159 u160 u161 u162 u163 u164 u165 u166 u167 u168 u169 u170 u171 u172 u173 u174 u175 u176 u177 u178 u179 u180 u181 u182 u183 u184 u185 u186 u187 u188 u189 u190 u191 u192 u193 u194 u195 u196 u197 u198 u199 u200 u201 u202 u203 u204 u205 u206 u207 u208 u209 u210 u211 u212 u213 u214 u215 u216 u217 u218 u219 u220 u221 : Value) (v9 : Value) (wx : World) (X' P' : Nat → Prop) (r : Nd × List Ms) (many' : Int) (mvs : List MV), Mid B0 w G l ms many c i b (opR (l.map (·.n)) (ms.map MV.ms) d (i : Nat) i (by rw [List.length_map]; exact hi)) B v9 wx X' P' r many' mvs → K1 { tmps := #[.pointer (some ⟨G, 0, none⟩), u1, u2, u3, u4, .pointer (some ⟨b, 0, none⟩), .bool led, .int .u64 (tm : Nat), .int .u64 (co : Nat), v9, u10, u11, u12, u13, u14, u15, u16, u17, u18, u19, u20, u21, u22, u23, u24, u25, u26, u27, u28, u29, u30, u31, u32, u33, u34, u35, u36, u37, u38, u39, u40, u41, u42, u43, u44, u45, u46, u47, u48, u49, u50, u51, u52, u53, u54, u55, u56, u57, u58, u59, u60, u61, u62, u63, u64, u65, u66, u67, u68, u69, u70, u71, u72, u73, u74, u75, u76, u77, u78, u79, u80, u81, u82, u83, u84, u85, u86, u87, u88, u89, u90, u91, u92, u93, u94, u95, u96, u97, u98, u99, u100, u101, u102, u103, u104, u105, u106, u107, u108, u109, u110, u111, u112, u113, u114, u115, u116, u117, u118, u119, u120, u121, u122, u123, u124, u125, u126, u127, u128, u129, u130, u131, u132, u133, u134, u135, u136, u137, u138, u139, u140, u141, u142, u143, u144, u145, u146, u147, u148, u149, u150, u151, u152, u153, u154, u155, u156, u157, u158, u159, u160, u161, u162, u163, u164, u165, u166, u167, u168, u169, u170, u171, u172, u173, u174, u175, u176, u177, u178, u179, u180, u181, u182, u183, u184, u185, u186, u187, u188, u189, u190, u191, u192, u193, u194, u195, u196, u197, u198, u199, u200, u201, u202, u203, u204, u205, u206, u207, u208, u209, u210, u211, u212, u213, u214, u215, u216, u217, u218, u219, u220, u221], defers := [] } wx := by
    intro u1 u2 u3 u4 u10 u11 u12 u13 u14 u15 u16 u17 u18 u19 u20 u21 u22 u23 u24 u25 u26 u27 u28 u29 u30 u31 u32 u33 u34 u35 u36 u37 u38 u39 u40 u41 u42 u43 u44 u45 u46 u47 u48 u49 u50 u51 u52 u53 u54 u55 u56 u57 u58 u59 u60 u61 u62 u63 u64 u65 u66 u67 u68 u69 u70 u71 u72 u73 u74 u75 u76 u77 u78 u79 u80 u81 u82 u83 u84 u85 u86 u87 u88 u89 u90 u91 u92 u93 u94 u95 u96 u97 u98 u99 u100 u101 u102 u103 u104 u105 u106 u107 u108 u109 u110 u111 u112 u113 u114 u115 u116 u117 u118 u119 u120 u121 u122 u123 u124 u125 u126 u127 u128 u129 u130 u131 u132 u133 u134 u135 u136 u137 u138 u139 u140 u141 u142 u143 u144 u145 u146 u147 u148 u149 u150 u151 u152 u153 u154 u155 u156 u157 u158 u159 u160 u161 u162 u163 u164 u165 u166 u167 u168 u169 u170 u171 u172 u173 u174 u175 u176 u177 u178 u179 u180 u181 u182 u183 u184 u185 u186 u187 u188 u189 u190 u191 u192 u193 u194 u195 u196 u197 u198 u199 u200 u201 u202 u203 u204 u205 u206 u207 u208 u209 u210 u211 u212 u213 u214 u215 u216 u217 u218 u219 u220 u221 v9 wx X' P' r many' mvs M
    exact h1 _ _ (pl12_tail M.grp i (by rw [List.length_set]; exact hi) b r.1 P' (by rw [List.getElem_set_self]) B0 M.low B OK.out.b M.bn co tm (by have := (OK.out.gd _ HXX.out.2.1).bn.commit; have := HXX.out.2.2.2.2.2; omega) led (by have := OK.out.nn; omega) v9 mvs M.ow M.len OK.out.lm (fun ms' c' W g1 g2 g3 g4 g5 => M.out g1 g2 (by rw [g3, M.eq]) g4 (M.fr.trans g5)) _ _ _ _ _ _ _ _ _ _ _ _ _ _ _ _ _ _ _ _ _ _ _ _ _ _ _ _ _ _ _ _ _ _ _ _ _ _ _ _ _ _ _ _ _ _ _ _ _ _ _ _ _ _ _ _ _ _ _ _ _ _ _ _ _ _ _ _ _ _ _ _ _ _ _ _ _ _ _ _ _ _ _ _ _ _ _ _ _ _ _ _ _ _ _ _ _ _ _ _ _ _ _ _ _ _ _ _ _ _ _ _ _ _ _ _ _ _ _ _ _ _ _ _ _ _ _ _ _ _ _ _ _ _ _ _ _ _ _ _ _ _ _ _ _ _ _ _ _ _ _ _ _ _ _ _ _ _ _ _ _ _ _ _ _ _ _ _ _ _ _ _ _ _ _ _ _ _ _ _ _ _ _ _ _ _ _ _ _ _ _ _ _ _ _ _ _ _ _ _ _ _ _ _ _ _ _ _ _ _ _ _ _ _ _ _)
  clear h1
  have GD := OK.out.gd _ HXX.out.2.1
  obtain ⟨mN, hme, hm16⟩ := GD.me
  have gl := GD.bn.last
  have gt := GD.bn.tm
  have ge := GD.es
  have gc := GD.cf
  have hB7 := OK.out.b
  have P3 : PNs X x.P W3 b x.n qx := HQX.out.tt F3.out
  have EN : Hid ((l.map (·.n))[i]'(by rw [List.length_map]; exact hi) = x.n) := by show _ = _; rw [List.getElem_map, HXX.out.1]
  have OP : Hid (opR (l.map (·.n)) (ms.map MV.ms) d (i : Nat) i (by rw [List.length_map]; exact hi) (x.n, x.n.beat)) := by
    show opR _ _ _ _ _ _ _
    exact .inr (.inr (.inr (.inr (.inl ⟨HD.out, rfl, by rw [EN.out]⟩))))
  have AC := Lib.hid (beat_calls P3 ⟨by omega, by omega⟩ (fun y hy => by have := GD.bn.nx y hy; omega) (by omega) (by omega))
  have LN : Hid (x.n.beat.length ≤ 100) := Nat.le_trans (Nd.beat_len _) (by omega)
  have BX : Hid (Bn (B + 2) x.n) := GD.bn.mono (by omega)
  have HP3 := Lib.hid P3
  have hd := HD.out
  clear HD
  subst hd
  clear P3 GD hme gl gt ge gc hB7
  go_wp2_with fail
  (with_reducible refine AC.out.mono ?_)
  rintro e W4 ⟨⟨v, mvs, rfl, o4, e4⟩, f4⟩
  have MD := Lib.hid (mid_mk (B := B) (r := (x.n, x.n.beat)) H.out F3.out hi HXX.out.1 HL.out ⟨qx, by rw [HXX.out.2.2.1]; exact HP3.out.tt f4⟩ (.tt f4 HQX.out.px) (own_lo o4) e4 OP.out (len_ms e4 LN.out) BX.out)
  rw [HXX.out.2.2.1] at MD
  clear o4 e4 f4 AC
  go_wp2
  exact TAIL _ _ _ _ _ _ _ _ _ _ _ _ _ _ _ _ _ _ _ _ _ _ _ _ _ _ _ _ _ _ _ _ _ _ _ _ _ _ _ _ _ _ _ _ _ _ _ _ _ _ _ _ _ _ _ _ _ _ _ _ _ _ _ _ _ _ _ _ _ _ _ _ _ _ _ _ _ _ _ _ _ _ _ _ _ _ _ _ _ _ _ _ _ _ _ _ _ _ _ _ _ _ _ _ _ _ _ _ _ _ _ _ _ _ _ _ _ _ _ _ _ _ _ _ _ _ _ _ _ _ _ _ _ _ _ _ _ _ _ _ _ _ _ _ _ _ _ _ _ _ _ _ _ _ _ _ _ _ _ _ _ _ _ _ _ _ _ _ _ _ _ _ _ _ _ _ _ _ _ _ _ _ _ _ _ _ _ _ _ _ _ _ _ _ _ _ _ _ _ _ _ _ _ _ _ _ _ _ _ _ _ _ _ _ _ _ _ _ _ _ _ _ _ MD.out
end
end Go.Proofs.Ytmjccpfchhnfhaa
/- Law 12: play, d = 6 (printed by play12c.py). -/
namespace Go.Proofs.Ytmjccpfchhnfhaa
open Go.RowKit
set_option linter.unusedVariables false
set_option linter.unusedSimpArgs false

section
variable {X : Nat → Prop} {w : World} {G : Nat} {l : List Nx} {ms : List MV} {many : Int} {c : GV}
set_option maxRecDepth 100000 in
set_option maxHeartbeats 8000000 in
theorem pl12W6 (h : Grp X w G l ms many c) (B0 : Nat → Prop) (hl : Low B0 X G c) (B : Nat) (ok : GOk B l ms many c) (d k : Int) (h3 : d ≠ 3) (i : Nat) (hi : i < l.length) (hki : k = (i : Nat)) (HD : Hid (d = 6)) :
    Calls Try.prog 7 #[.pointer (some ⟨G, 0, none⟩), .agg #[.int .i64 d, .int .i64 k]] w fun e w' => PlOut B0 w G l ms many c d k e w' := by
  obtain ⟨W1, hW1, F1, o0, o1⟩ := obox w d k
  have H := Lib.hid h
  have HL := Lib.hid hl
  have OK := Lib.hid ok
  obtain ⟨gm, lm, cm, hvm⟩ : ∃ gm lm cm, c.vm = .slice gm lm cm := by obtain ⟨g, c', e⟩ := ownsRow_form h.rm.row; exact ⟨g, _, c', e⟩
  obtain ⟨gn, ln, cn, hvn⟩ : ∃ gn ln cn, c.vn = .slice gn ln cn := by obtain ⟨g, c', e⟩ := ownsRow_form h.rn; exact ⟨g, _, c', e⟩
  have hlm : lm = ms.length := by obtain ⟨g, c', e⟩ := ownsRow_form h.rm.row; rw [hvm] at e; cases e; rfl
  have hln : ln = l.length := by obtain ⟨g, c', e⟩ := ownsRow_form h.rn; rw [hvn] at e; cases e; rfl
  have t1 := F1.out.keep _ _ h.top trivial
  have y0 : W1.cell? ⟨G, 0, none⟩ = some (.slice gn ln cn) := by rw [← hvn]; exact cell_mk t1 rfl
  have y1 : W1.cell? ⟨G, 1, none⟩ = some (.slice gm lm cm) := by rw [← hvm]; exact cell_mk t1 rfl
  subst hki
  have g3 : (d == 3) = false := by simpa using h3
  have YY : Hid (∀ W, Fr (fun _ _ => True) w W → W.cell? ⟨G, 0, none⟩ = some (.slice gn ln cn) ∧ W.cell? ⟨G, 1, none⟩ = some (.slice gm lm cm)) := fun W f => ⟨by rw [← hvn]; exact cell_mk (f.keep _ _ h.top trivial) rfl, by rw [← hvm]; exact cell_mk (f.keep _ _ h.top trivial) rfl⟩
  have hiI : (i : Int) < (ln : Int) := by omega
  have hiI' : ¬ (ln : Int) ≤ (i : Int) := by omega
  have hi0 : ¬ (i : Int) < 0 := by omega
  obtain ⟨gn2, cn2, hvn2, HNC⟩ := h.nrow (by omega)
  have egn : gn = some ⟨gn2, 0, none⟩ ∧ cn = cn2 := by rw [hvn] at hvn2; cases hvn2; exact ⟨rfl, rfl⟩
  obtain ⟨e3, e4⟩ := egn
  subst e3 e4
  obtain ⟨x, hx⟩ : ∃ x, l[i] = x := ⟨_, rfl⟩
  have hxl : x ∈ l := hx ▸ List.getElem_mem hi
  obtain ⟨qx, hqx⟩ := h.nd x hxl
  obtain ⟨b, hb⟩ : ∃ b, x.b = b := ⟨_, rfl⟩
  obtain ⟨ro, hro⟩ : ∃ y, x.n.role = y := ⟨_, rfl⟩
  obtain ⟨tm, htm⟩ : ∃ y, x.n.tm = y := ⟨_, rfl⟩
  obtain ⟨co, hco⟩ : ∃ y, x.n.commit = y := ⟨_, rfl⟩
  rw [hb] at hqx
  have XC : Hid (∀ W, Fr (fun _ _ => True) w W → W.cell? ⟨gn2, i, none⟩ = some (.pointer (some ⟨b, 0, none⟩)) ∧ W.cell? ⟨b, 2, none⟩ = some (.int .i64 ro) ∧ W.cell? ⟨b, 6, none⟩ = some (.int .u64 (tm : Nat)) ∧ W.cell? ⟨b, 7, none⟩ = some (.int .u64 (co : Nat))) := fun W f => by
    obtain ⟨x0, x1, x2, x3, x4, x5, x6, x7, x8, x9, x10, x11, x12, x13⟩ := hqx.cells f
    exact ⟨by rw [← hb, ← hx]; exact HNC i hi W f, by rw [x2, hro], by rw [x6, htm], by rw [x7, hco]⟩
  have HQX := Lib.hid hqx
  have HXX := Lib.hid (And.intro hx (And.intro hxl (And.intro hb (And.intro hro (And.intro htm hco)))))
  have HV := Lib.hid (And.intro hvm (And.intro hvn (And.intro hlm hln)))
  clear h hl ok t1 hvm hvn hlm hln hvn2 HNC hx hxl hqx hb hro htm hco h3
  go_enter Try.func7, Try.ntmps7
  have F3 := Lib.hid F1.out
  obtain ⟨W3, hW3⟩ : ∃ Y, W1 = Y := ⟨_, rfl⟩
  rw [hW3] at hW1 F3 o0 o1 y0 y1
  clear hW3
  obtain ⟨xp, x2, x6, x7⟩ := XC.out W3 F3.out
  obtain ⟨led, hled⟩ : ∃ x, (ro == 3) = x := ⟨_, rfl⟩
  go_upto_region 11 with fail
  try rw [hW1]
  try rw [hled]
  have HLED := Lib.hid hled
  clear hled
  rename_i K1 h1 K0 h0
  have TAIL : ∀ (u1 u2 u3 u4 u10 u11 u12 u13 u14 u15 u16 u17 u18 u19 u20 u21 u22 u23 u24 u25 u26 u27 u28 u29 u30 u31 u32 u33 u34 u35 u36 u37 u38 u39 u40 u41 u42 u43 u44 u45 u46 u47 u48 u49 u50 u51 u52 u53 u54 u55 u56 u57 u58 u59 u60 u61 u62 u63 u64 u65 u66 u67 u68 u69 u70 u71 u72 u73 u74 u75 u76 u77 u78 u79 u80 u81 u82 u83 u84 u85 u86 u87 u88 u89 u90 u91 u92 u93 u94 u95 u96 u97 u98 u99 u100 u101 u102 u103 u104 u105 u106 u107 u108 u109 u110 u111 u112 u113 u114 u115 u116 u117 u118 u119 u120 u121 u122 u123 u124 u125 u126 u127 u128 u129 u130 u131 u132 u133 u134 u135 u136 u137 u138 u139 u140 u141 u142 u143 u144 u145 u146 u147 u148 u149 u150 u151 u152 u153 u154 u155 u156 u157 u158 u159 u160 u161 u162 u163 u164 u165 u166 u167 u168 u169 u170 u171 u172 u173 u174 u175 u176 u177 u178 u179 u180 u181 u182 u183 u184 u185 u186 u187 u188 u189 u190 u191 u192 u193 u194 u195 u196 u197 u198 u199 u200 u201 u202 u203 u204 u205 u206 u207 u208 u209 u210 u211 u212 u213 u214 u215 u216 u217 u218 u219 u220 u221 : Value) (v9 : Value) (wx : World) (X' P' : Nat → Prop) (r : Nd × List Ms) (many' : Int) (mvs : List MV), Mid B0 w G l ms many c i b (opR (l.map (·.n)) (ms.map MV.ms) d (i : Nat) i (by rw [List.length_map]; exact hi)) B v9 wx X' P' r many' mvs → K1 { tmps := #[.pointer (some ⟨G, 0, none⟩), u1, u2, u3, u4, .pointer (some ⟨b, 0, none⟩), .bool led, .int .u64 (tm : Nat), .int .u64 (co : Nat), v9, u10, u11, u12, u13, u14, u15, u16, u17, u18, u19, u20, u21, u22, u23, u24, u25, u26, u27, u28, u29, u30, u31, u32, u33, u34, u35, u36, u37, u38, u39, u40, u41, u42, u43, u44, u45, u46, u47, u48, u49, u50, u51, u52, u53, u54, u55, u56, u57, u58, u59, u60, u61, u62, u63, u64, u65, u66, u67, u68, u69, u70, u71, u72, u73, u74, u75, u76, u77, u78, u79, u80, u81, u82, u83, u84, u85, u86, u87, u88, u89, u90, u91, u92, u93, u94, u95, u96, u97, u98, u99, u100, u101, u102, u103, u104, u105, u106, u107, u108, u109, u110, u111, u112, u113, u114, u115, u116, u117, u118, u119, u120, u121, u122, u123, u124, u125, u126, u127, u128, u129, u130, u131, u132, u133, u134, u135, u136, u137, u138, u139, u140, u141, u142, u143, u144, u145, u146, u147, u148, u149, u150, u151, u152, u153, u154, u155, u156, u157, u158, u159, u160, u161, u162, u163, u164, u165, u166, u167, u168, u169, u170, u171, u172, u173, u174, u175, u176, u177, u178, u179, u180, u181, u182, u183, u184, u185, u186, u187, u188, u189, u190, u191, u192, u193, u194, u195, u196, u197, u198, u199, u200, u201, u202, u203, u204, u205, u206, u207, u208, u209, u210, u211, u212, u213, u214, u215, u216, u217, u218, u219, u220, u221], defers := [] } wx := by
    intro u1 u2 u3 u4 u10 u11 u12 u13 u14 u15 u16 u17 u18 u19 u20 u21 u22 u23 u24 u25 u26 u27 u28 u29 u30 u31 u32 u33 u34 u35 u36 u37 u38 u39 u40 u41 u42 u43 u44 u45 u46 u47 u48 u49 u50 u51 u52 u53 u54 u55 u56 u57 u58 u59 u60 u61 u62 u63 u64 u65 u66 u67 u68 u69 u70 u71 u72 u73 u74 u75 u76 u77 u78 u79 u80 u81 u82 u83 u84 u85 u86 u87 u88 u89 u90 u91 u92 u93 u94 u95 u96 u97 u98 u99 u100 u101 u102 u103 u104 u105 u106 u107 u108 u109 u110 u111 u112 u113 u114 u115 u116 u117 u118 u119 u120 u121 u122 u123 u124 u125 u126 u127 u128 u129 u130 u131 u132 u133 u134 u135 u136 u137 u138 u139 u140 u141 u142 u143 u144 u145 u146 u147 u148 u149 u150 u151 u152 u153 u154 u155 u156 u157 u158 u159 u160 u161 u162 u163 u164 u165 u166 u167 u168 u169 u170 u171 u172 u173 u174 u175 u176 u177 u178 u179 u180 u181 u182 u183 u184 u185 u186 u187 u188 u189 u190 u191 u192 u193 u194 u195 u196 u197 u198 u199 u200 u201 u202 u203 u204 u205 u206 u207 u208 u209 u210 u211 u212 u213 u214 u215 u216 u217 u218 u219 u220 u221 v9 wx X' P' r many' mvs M
    exact h1 _ _ (pl12_tail M.grp i (by rw [List.length_set]; exact hi) b r.1 P' (by rw [List.getElem_set_self]) B0 M.low B OK.out.b M.bn co tm (by have := (OK.out.gd _ HXX.out.2.1).bn.commit; have := HXX.out.2.2.2.2.2; omega) led (by have := OK.out.nn; omega) v9 mvs M.ow M.len OK.out.lm (fun ms' c' W g1 g2 g3 g4 g5 => M.out g1 g2 (by rw [g3, M.eq]) g4 (M.fr.trans g5)) _ _ _ _ _ _ _ _ _ _ _ _ _ _ _ _ _ _ _ _ _ _ _ _ _ _ _ _ _ _ _ _ _ _ _ _ _ _ _ _ _ _ _ _ _ _ _ _ _ _ _ _ _ _ _ _ _ _ _ _ _ _ _ _ _ _ _ _ _ _ _ _ _ _ _ _ _ _ _ _ _ _ _ _ _ _ _ _ _ _ _ _ _ _ _ _ _ _ _ _ _ _ _ _ _ _ _ _ _ _ _ _ _ _ _ _ _ _ _ _ _ _ _ _ _ _ _ _ _ _ _ _ _ _ _ _ _ _ _ _ _ _ _ _ _ _ _ _ _ _ _ _ _ _ _ _ _ _ _ _ _ _ _ _ _ _ _ _ _ _ _ _ _ _ _ _ _ _ _ _ _ _ _ _ _ _ _ _ _ _ _ _ _ _ _ _ _ _ _ _ _ _ _ _ _ _ _ _ _ _ _ _ _ _ _ _)
  clear h1
  have GD := OK.out.gd _ HXX.out.2.1
  obtain ⟨mN, hme, hm16⟩ := GD.me
  have gl := GD.bn.last
  have gt := GD.bn.tm
  have ge := GD.es
  have gc := GD.cf
  have hB7 := OK.out.b
  have P3 : PNs X x.P W3 b x.n qx := HQX.out.tt F3.out
  have EN : Hid ((l.map (·.n))[i]'(by rw [List.length_map]; exact hi) = x.n) := by show _ = _; rw [List.getElem_map, HXX.out.1]
  obtain ⟨m1, hm1⟩ : ∃ m1 : Nat, many + 1 = (m1 : Nat) := ⟨(many + 1).toNat, by have := OK.out.mn; omega⟩
  have hm9 : m1 ≤ 100001 := by have := OK.out.mn; omega
  have wm : IntKind.i64.wrap (many + 1) = ((m1 : Nat) : Int) := by rw [IntKind.wrap_i64]; omega
  obtain ⟨b8, hb8⟩ : ∃ x, UInt8.ofNat m1 = x := ⟨_, rfl⟩
  have wb : IntKind.u8.wrap ((m1 : Nat) : Int) = ((b8.toNat : Nat) : Int) := by
    rw [← hb8, UInt8.toNat_ofNat', IntKind.wrap_u8]
    omega
  have OP : Hid (opR (l.map (·.n)) (ms.map MV.ms) d (i : Nat) i (by rw [List.length_map]; exact hi) ((x.n.propose 1 [b8]).1, [])) := by
    show opR _ _ _ _ _ _ _
    exact .inr (.inr (.inr (.inr (.inr (.inl ⟨HD.out, rfl, b8, by rw [EN.out]⟩)))))
  have BN : Hid (Bn (B + 2) (x.n.propose 1 [b8]).1) := (Nd.propose_b GD.bn 1 [b8]).mono (by omega)
  obtain ⟨W4, hW4⟩ : ∃ Y, W3.setCell ⟨G, 5, none⟩ (.int .i64 (m1 : Nat)) = Y := ⟨_, rfl⟩
  obtain ⟨GC0, f4⟩ := (H.out.tt F3.out).count _ hW4
  have GC := Lib.hid GC0
  have F4 : Hid (Fr (fun q _ => B0 q) w W4) := (F3.out.mono fun _ _ _ => trivial).trans (f4.mono fun q _ h e => HL.out.g (e ▸ h))
  have FW4 := Lib.hid f4
  obtain ⟨q4, hq4⟩ := GC.out.nd x HXX.out.2.1
  rw [HXX.out.2.2.1] at hq4
  have P4 := Lib.hid hq4
  have g5 : W3.cell? ⟨G, 5, none⟩ = some (.int .i64 many) := cell_mk (F3.out.keep _ _ H.out.top trivial) rfl
  have z5 : W3.frozen? ⟨G, 5, none⟩ = false := frozen_mk (F3.out.keep _ _ H.out.top trivial)
  have g5' : W4.cell? ⟨G, 5, none⟩ = some (.int .i64 (m1 : Nat)) := cell_mk GC.out.top rfl
  have bG : (⟨b, 0, none⟩ : Addr) ≠ ⟨G, 0, none⟩ := fun e => by cases e; exact GC.out.gx (P4.out.px _ P4.out.pb)
  obtain ⟨g8, hg8⟩ : ∃ x, W4.heap.size = x := ⟨_, rfl⟩
  obtain ⟨W5, hW5⟩ : ∃ Y, W4.alloc (.cells #[.int .u8 (b8.toNat : Nat)] 5 (0, 0)) = Y := ⟨_, rfl⟩
  have f5 : Fr (fun _ _ => True) W4 W5 := hW5 ▸ (Fr.refl _ _).alloc _
  have t5 : W5.heap[g8]? = some (.cells #[.int .u8 (b8.toNat : Nat)] 5 (0, 0)) := by rw [← hW5, ← hg8]; exact heap_alloc_new _ _
  have BA : BytesAt (RO X) W5 (.slice (some ⟨g8, 0, none⟩) [b8].length 1) [b8] := ⟨_, 1, rfl, Nat.le_refl _, (fun e => by cases e), .inr ⟨g8, 0, _, rfl, t5, ⟨fun hx => by have := GC.out.hx _ hx; omega, _, _, _, rfl, by decide⟩, fun i hi => by
    have : i = 0 := by have : i < 1 := hi; omega
    subst this
    exact cell_mk t5 rfl⟩⟩
  have F5 := Lib.hid f5
  have AC : Hid (Calls Try.prog 19 #[.pointer (some ⟨b, 0, none⟩), .int .i64 1, .slice (some ⟨g8, 0, none⟩) 1 1] W5 fun e w' => POut X x.P W5 b (x.n.propose 1 [b8]) e w') := (propose_calls (P4.out.tt f5) 1 (some ⟨g8, 0, none⟩) 1 [b8] BA ⟨by omega, by omega⟩ GD.pos mN hme hm16 (by omega) (by omega))
  have PX : Hid (∀ q, x.P q → X q) := P4.out.px
  have hd := HD.out
  clear HD
  subst hd
  have MN : Hid (many ≤ ((m1 : Nat) : Int) ∧ ((m1 : Nat) : Int) ≤ many + 1) := by show _ ∧ _; omega
  clear GD hme gl gt ge gc hB7 BA t5 f5 f4 GC0 hq4 hb8 hm1 hm9 P3
  go_wp2_with fail
  try rw [hW4]
  try rw [hg8]
  try rw [hW5]
  clear hW4 hg8 hW5
  (with_reducible refine AC.out.mono ?_)
  rintro e W6 ⟨⟨q6, rfl, p6⟩, f6⟩
  have MD := Lib.hid (mid_mk2 (B := B) (v := .slice none 0 0) (mvs := []) (r := ((x.n.propose 1 [b8]).1, [])) (GC.out.tt F5.out) (F4.out.trans (F5.out.mono fun _ _ _ => trivial)) hi HXX.out.1 HL.out ⟨q6, by rw [HXX.out.2.2.1]; exact p6⟩ (.of f6 PX.out) (OwnMs.nil _ _ _) rfl OP.out (Nat.zero_le _) BN.out MN.out)
  rw [HXX.out.2.2.1] at MD
  clear p6 f6 AC
  go_wp2
  exact TAIL _ _ _ _ _ _ _ _ _ _ _ _ _ _ _ _ _ _ _ _ _ _ _ _ _ _ _ _ _ _ _ _ _ _ _ _ _ _ _ _ _ _ _ _ _ _ _ _ _ _ _ _ _ _ _ _ _ _ _ _ _ _ _ _ _ _ _ _ _ _ _ _ _ _ _ _ _ _ _ _ _ _ _ _ _ _ _ _ _ _ _ _ _ _ _ _ _ _ _ _ _ _ _ _ _ _ _ _ _ _ _ _ _ _ _ _ _ _ _ _ _ _ _ _ _ _ _ _ _ _ _ _ _ _ _ _ _ _ _ _ _ _ _ _ _ _ _ _ _ _ _ _ _ _ _ _ _ _ _ _ _ _ _ _ _ _ _ _ _ _ _ _ _ _ _ _ _ _ _ _ _ _ _ _ _ _ _ _ _ _ _ _ _ _ _ _ _ _ _ _ _ _ _ _ _ _ _ _ _ _ _ _ _ _ _ _ _ _ _ _ _ _ _ MD.out
end
end Go.Proofs.Ytmjccpfchhnfhaa
/- Law 12: play, all ways (printed by play12d.py). -/
namespace Go.Proofs.Ytmjccpfchhnfhaa
open Go.RowKit
set_option linter.unusedVariables false
set_option linter.unusedSimpArgs false

section
variable {X : Nat → Prop} {w : World} {G : Nat} {l : List Nx} {ms : List MV} {many : Int} {c : GV}
theorem play_calls (h : Grp X w G l ms many c) (B0 : Nat → Prop) (hl : Low B0 X G c) (B : Nat) (ok : GOk B l ms many c) (d k : Int) :
    Calls Try.prog 7 #[.pointer (some ⟨G, 0, none⟩), .agg #[.int .i64 d, .int .i64 k]] w fun e w' => PlOut B0 w G l ms many c d k e w' := by
  by_cases h3 : d = 3
  · by_cases h0 : k < 0
    · exact pl12M h B0 hl B ok d k h3 h0
    · by_cases hk : (ms.length : Int) ≤ k
      · exact pl12N h B0 hl B ok d k h3 (by omega) hk
      · obtain ⟨j, rfl⟩ := Int.eq_ofNat_of_zero_le (show 0 ≤ k by omega)
        have hj : j < ms.length := by omega
        by_cases hd0 : ms[j].dst < 0
        · exact pl12Q h B0 hl B ok d _ h3 j hj rfl hd0
        · by_cases hd1 : (l.length : Int) ≤ ms[j].dst
          · exact pl12R h B0 hl B ok d _ h3 j hj rfl (by omega) hd1
          · obtain ⟨i, hi⟩ := Int.eq_ofNat_of_zero_le (show 0 ≤ ms[j].dst by omega)
            exact pl12W3 h B0 hl B ok d _ h3 j hj rfl i (by omega) hi
  · by_cases h0 : k < 0
    · exact pl12L h B0 hl B ok d k h3 h0
    · by_cases hk : (l.length : Int) ≤ k
      · exact pl12H h B0 hl B ok d k h3 (by omega) hk
      · obtain ⟨i, rfl⟩ := Int.eq_ofNat_of_zero_le (show 0 ≤ k by omega)
        have hi : i < l.length := by omega
        by_cases d1 : d = 1
        · exact pl12W1 h B0 hl B ok d _ h3 i hi rfl d1
        by_cases d2 : d = 2
        · exact pl12W2 h B0 hl B ok d _ h3 i hi rfl d2
        by_cases d4 : d = 4
        · exact pl12W4 h B0 hl B ok d _ h3 i hi rfl d4
        by_cases d5 : d = 5
        · exact pl12W5 h B0 hl B ok d _ h3 i hi rfl d5
        by_cases d6 : d = 6
        · exact pl12W6 h B0 hl B ok d _ h3 i hi rfl d6
        exact pl12W0 h B0 hl B ok d _ h3 i hi rfl ⟨d1, d2, h3, d4, d5, d6⟩
end
theorem opR_good {B : Nat} {ns : List Nd} {ms : List Ms} {d k : Int} {i : Nat} {hi : i < ns.length} {r : Nd × List Ms} (h : opR ns ms d k i hi r) (hn : Gd B ns[i]) (hm : ∀ m ∈ ms, Bm B m) : Nd.Up ns[i] r.1 ∧ Gd (B + 2) r.1 ∧ (∀ m ∈ r.2, Bm (B + 2) m) ∧ r.2.length ≤ 19 := by
  have bx : Bn (B + 2) ns[i] := hn.bn.mono (by omega)
  have hy := hn.ye
  have hc := hn.cf.2
  rcases h with ⟨-, -, rfl⟩ | ⟨-, -, rfl⟩ | ⟨-, j, hj, -, -, rfl⟩ | ⟨-, -, rfl⟩ | ⟨-, -, rfl⟩ | ⟨-, -, b, rfl⟩ | ⟨-, -, rfl⟩
  · have hb := Nd.askF_b hn.bn
    have y := Nd.askF_y hy
    exact ⟨Nd.askF_up _, hn.up (Nd.askF_up _) (hb.1.mono (by omega)) (by omega), fun m q => (hb.2 m q).mono (by omega), Nat.le_trans (Nd.askF_len _) (by omega)⟩
  · have hb := Nd.askT_b hn.bn
    have y := Nd.askT_y hy
    exact ⟨Nd.askT_up _, hn.up (Nd.askT_up _) (hb.1.mono (by omega)) (by omega), fun m q => (hb.2 m q).mono (by omega), Nat.le_trans (Nd.askT_len _) (by omega)⟩
  · have hb := Nd.hear_b hn.bn (hm _ (List.getElem_mem hj))
    have y1 := Nd.onAsk_y (m := ms[j]) hy
    have y2 := Nd.onAnswer_y (m := ms[j]) y1
    have y3 := Nd.onAppend_y (m := ms[j]) y2
    have y4 : (ns[i].hear ms[j]).1.yes.length ≤ B + 1 := Nd.onAcked_y (m := ms[j]) y3
    exact ⟨Nd.hear_up _ _, hn.up (Nd.hear_up _ _) hb.1 (by omega), hb.2, Nat.le_trans (Nd.hear_len _ _) (by omega)⟩
  · exact ⟨⟨Nat.le_refl _, Nat.le_refl _, rfl, rfl, rfl⟩, ⟨⟨bx.tm, bx.commit, bx.last, bx.n16, bx.m16, bx.nx, bx.mt⟩, hn.me, hn.cf, hn.pos, by show ns[i].yes.length ≤ _; omega⟩, fun m q => absurd q (by simp), Nat.zero_le _⟩
  · exact ⟨Nd.Up.refl _, hn.mono (by omega), fun m q => (Nd.beat_b hn.bn m q).mono (by omega), Nat.le_trans (Nd.beat_len _) (by omega)⟩
  · have hb := Nd.propose_b hn.bn 1 [b]
    have y : (ns[i].propose 1 [b]).1.yes.length ≤ B + 2 := by rw [Nd.propose_y]; omega
    exact ⟨Nd.propose_up _ _ _, hn.up (Nd.propose_up _ _ _) (hb.mono (by omega)) y, fun m q => absurd q (by simp), Nat.zero_le _⟩
  · exact ⟨Nd.Up.refl _, hn.mono (by omega), fun m q => absurd q (by simp), Nat.zero_le _⟩
theorem playR_good {B : Nat} {ns ns' : List Nd} {ms ms' : List Ms} {d k : Int} (h : playR ns ms d k ns' ms') (hn : ∀ n ∈ ns, Gd B n) (hm : ∀ m ∈ ms, Bm B m) (hl : ms.length ≤ 700) :
    ns'.length = ns.length ∧ (∀ (i : Nat) (n n' : Nd), ns[i]? = some n → ns'[i]? = some n' → Nd.Up n n') ∧ (∀ n ∈ ns', Gd (B + 2) n) ∧ (∀ m ∈ ms', Bm (B + 2) m) ∧ ms'.length ≤ 700 := by
  rcases h with ⟨rfl, rfl, -⟩ | ⟨i, hi, r, rfl, rfl, hop⟩
  · exact ⟨rfl, fun i n n' h1 h2 => by rw [h1] at h2; cases h2; exact Nd.Up.refl _, fun n q => (hn n q).mono (by omega), fun m q => (hm m q).mono (by omega), hl⟩
  · obtain ⟨g1, g2, g3, g4⟩ := opR_good hop (hn _ (List.getElem_mem hi)) hm
    refine ⟨List.length_set .., fun j n n' h1 h2 => ?_, fun n q => ?_, fun m q => ?_, ?_⟩
    · rw [List.getElem?_set] at h2
      by_cases e : i = j
      · subst e
        rw [if_pos rfl, if_pos hi] at h2
        rw [List.getElem?_eq_getElem hi] at h1
        cases h1
        cases h2
        exact g1
      · rw [if_neg e, h1] at h2
        cases h2
        exact Nd.Up.refl _
    · rcases List.mem_or_eq_of_mem_set q with q | q
      · exact (hn n q).mono (by omega)
      · exact q ▸ g2
    · split at q
      · rcases List.mem_append.1 q with q | q
        · exact (hm m q).mono (by omega)
        · exact g3 m q
      · exact (hm m q).mono (by omega)
    · split
      · rw [List.length_append]; omega
      · exact hl
theorem GOk.next {B : Nat} {l l' : List Nx} {ms ms' : List MV} {many many' : Int} {c c' : GV} {d k : Int} (h : GOk B l ms many c) (hp : playR (l.map (·.n)) (ms.map MV.ms) d k (l'.map (·.n)) (ms'.map MV.ms)) (hB : B + 2 ≤ 700000) (hm : 0 ≤ many' ∧ many' ≤ 100000) (hn : c'.ns ≤ 700000 ∧ c'.nt ≤ 700000 ∧ c'.nl ≤ 700000) : GOk (B + 2) l' ms' many' c' := by
  obtain ⟨e1, -, g1, g2, g3⟩ := playR_good hp (fun n q => by obtain ⟨x, hx, rfl⟩ := List.mem_map.1 q; exact h.gd x hx) (fun m q => by obtain ⟨x, hx, rfl⟩ := List.mem_map.1 q; exact h.bm x hx) (by rw [List.length_map]; exact h.lm)
  rw [List.length_map, List.length_map] at e1
  rw [List.length_map] at g3
  have bm : ∀ m ∈ ms', Bm (B + 2) m.ms := fun m q => g2 _ (List.mem_map.2 ⟨m, q, rfl⟩)
  exact ⟨hB, fun x q => g1 _ (List.mem_map.2 ⟨x, q, rfl⟩), bm, fun m q => by
    have : m.index + (m.es.map EV.en).length ≤ B + 2 := (bm m q).index
    rw [List.length_map] at this
    omega, by have := h.ln; omega, g3, hm, hn⟩
end Go.Proofs.Ytmjccpfchhnfhaa
/- Law 12: the chapter's examples, plainly (printed by awake12.py). -/
namespace Go.Proofs.Ytmjccpfchhnfhaa
open Go.RowKit
set_option linter.unusedVariables false
set_option linter.unusedSimpArgs false

theorem getD_get {α : Type} {l : List α} {i : Nat} (h : i < l.length) (d : α) : l[i] = l.getD i d := by
  rw [List.getD_eq_getElem?_getD, List.getElem?_eq_getElem h]
  rfl
theorem playR_beat {ns ns' : List Nd} {ms ms' : List Ms} {i : Nat} (hi : i < ns.length) (hl : ms.length < 600) (h : playR ns ms 5 (i : Nat) ns' ms') : ns' = ns ∧ ms' = ms ++ ns[i].beat := by
  rcases h with ⟨-, -, h⟩ | ⟨k, hk, r, rfl, rfl, h⟩
  · exact absurd (.inl ⟨by decide, rfl⟩) (h i hi)
  · rcases h with ⟨e, -⟩ | ⟨e, -⟩ | ⟨e, -⟩ | ⟨e, -⟩ | ⟨-, e, rfl⟩ | ⟨e, -⟩ | ⟨⟨-, -, -, -, e, -⟩, -⟩
    · omega
    · omega
    · omega
    · omega
    · obtain rfl : i = k := by omega
      exact ⟨List.set_getElem_self _, if_pos hl⟩
    · omega
    · exact absurd rfl e
theorem playR_hear {ns ns' : List Nd} {ms ms' : List Ms} {i j : Nat} (hi : i < ns.length) (hj : j < ms.length) (hd : ms[j].dst = (i : Nat)) (hl : ms.length < 600) (h : playR ns ms 3 (j : Nat) ns' ms') : ns' = ns.set i (ns[i].hear ms[j]).1 ∧ ms' = ms ++ (ns[i].hear ms[j]).2 := by
  rcases h with ⟨-, -, h⟩ | ⟨k, hk, r, rfl, rfl, h⟩
  · exact absurd (.inr ⟨rfl, j, hj, rfl, hd⟩) (h i hi)
  · rcases h with ⟨e, -⟩ | ⟨e, -⟩ | ⟨-, j', hj', e, e2, rfl⟩ | ⟨e, -⟩ | ⟨e, -⟩ | ⟨e, -⟩ | ⟨⟨-, -, e, -⟩, -⟩
    · omega
    · omega
    · obtain rfl : j = j' := by omega
      obtain rfl : i = k := by omega
      exact ⟨rfl, if_pos hl⟩
    · omega
    · omega
    · omega
    · exact absurd rfl e
def aw0 : Nd := { ({ Nd.new 0 (cfN 3) with conf := [0] } : Nd).askT.1 with conf := [0, 1, 2] }
def NS1 : List Nd := [aw0, Nd.new 1 (cfN 3), Nd.new 2 (cfN 3)]
def MS2 : List Ms := aw0.beat
def NS3 : List Nd := NS1.set 1 ((Nd.new 1 (cfN 3)).hear (MS2.getD 0 zMs)).1
def MS3 : List Ms := MS2 ++ ((Nd.new 1 (cfN 3)).hear (MS2.getD 0 zMs)).2
def aw1 : Nd := { aw0 with mat := aw0.mat.set 1 1, next := aw0.next.set 1 2 }
def NS4 : List Nd := NS3.set 0 (aw1.sureR 1)
theorem srt_110 : srt [1, 1, 0] = [0, 1, 1] := by
  unfold srt
  simp [List.mergeSort, List.MergeSort.Internal.splitInTwo, List.merge]
theorem aw1_reach : aw1.reach = 1 := by
  have e : reachL aw1.conf (aw1.mat.map fun (x : Nat) => (x : Int)) aw1.conf.length = [1, 1, 0] := by decide +kernel
  unfold Nd.reach
  rw [e]
  unfold midV
  rw [srt_110]
  rfl
theorem acked4 : aw0.acked (MS3.getD 2 zMs) = aw1.sureR 1 := by
  have e : aw0.acked (MS3.getD 2 zMs) = aw1.sure := by
    unfold Nd.acked
    rw [if_neg (by decide +kernel), if_pos (by decide +kernel)]
    have e2 : ({ aw0 with mat := aw0.mat.set (MS3.getD 2 zMs).src.toNat (max (aw0.mat.getD (MS3.getD 2 zMs).src.toNat 0) (MS3.getD 2 zMs).index), next := aw0.next.set (MS3.getD 2 zMs).src.toNat (max (aw0.mat.getD (MS3.getD 2 zMs).src.toNat 0) (MS3.getD 2 zMs).index + 1) } : Nd) = aw1 := by decide +kernel
    rw [e2]
  rw [e]
  unfold Nd.sure
  rw [aw1_reach]
theorem hear4 : aw0.hear (MS3.getD 2 zMs) = (aw1.sureR 1, []) := by
  have e1 : aw0.onAsk (MS3.getD 2 zMs) = (aw0, []) := by decide +kernel
  have e2 : aw0.onAnswer (MS3.getD 2 zMs) = (aw0, []) := by decide +kernel
  have e3 : aw0.onAppend (MS3.getD 2 zMs) = (aw0, []) := by decide +kernel
  have e4 : aw0.onAcked (MS3.getD 2 zMs) = (aw1.sureR 1, []) := by
    unfold Nd.onAcked
    rw [if_neg (by decide +kernel), if_neg (by decide +kernel), if_neg (by decide +kernel), acked4]
    decide +kernel
  unfold Nd.hear
  simp only [e1, e2, e3, e4, List.append_nil]
theorem MS2_is : MS2.length = 2 ∧ (MS2.getD 0 zMs).dst = 1 ∧ (MS2.getD 0 zMs).index = 0 ∧ (MS2.getD 0 zMs).tm = 1 ∧ (MS2.getD 0 zMs).es.length = 1 := by decide +kernel
theorem MS3_is : MS3.length = 3 ∧ (MS3.getD 2 zMs).dst = 0 ∧ (MS3.getD 2 zMs).kind = 6 ∧ (MS3.getD 2 zMs).ok = true ∧ (MS3.getD 2 zMs).index = 1 := by decide +kernel
theorem NS4_is : NS4.length = 3 ∧ (NS4.getD 0 default).commit = 1 ∧ ((NS4.getD 0 default).propose 1 [97]).2 = (2, 0) ∧ NS4.getD 2 default = Nd.new 2 (cfN 3) := by decide +kernel
theorem MS3_on : (({ Nd.new 2 (cfN 3) with tm := 3 } : Nd).onAppend (MS3.getD 1 zMs)).2.length = 1 ∧ ((({ Nd.new 2 (cfN 3) with tm := 3 } : Nd).onAppend (MS3.getD 1 zMs)).2.getD 0 zMs).ok = false ∧ ((({ Nd.new 2 (cfN 3) with tm := 3 } : Nd).onAppend (MS3.getD 1 zMs)).2.getD 0 zMs).tm = 3 := by decide +kernel
theorem NS4_0 : (0 < (NS4.getD 0 default).conf.length ∧ (NS4.getD 0 default).conf.length ≤ 16) ∧ (∀ x ∈ (NS4.getD 0 default).conf, 0 ≤ x) ∧ (NS4.getD 0 default).me = ((0 : Nat) : Int) ∧ (NS4.getD 0 default).log.last + 2 < 18446744073709551616 ∧ (NS4.getD 0 default).log.es.length ≤ 900000 := by decide +kernel
theorem MS3_1 : (MS3.getD 1 zMs).index + (MS3.getD 1 zMs).es.length + 1 < 18446744073709551616 ∧ (MS3.getD 1 zMs).es.length ≤ 900000 := by decide +kernel
theorem new_gd (i : Nat) (hi : i < 3) (B : Nat) : Gd B (Nd.new i (cfN 3)) :=
  ⟨⟨Nat.zero_le _, Nat.zero_le _, Nat.zero_le _, rfl, rfl, rep_le (Nat.zero_le _), rep_le (Nat.zero_le _)⟩, ⟨i, rfl, by omega⟩, by show 0 < (cfN 3).length ∧ (cfN 3).length ≤ 16; decide, by show ∀ x ∈ cfN 3, 0 ≤ x; decide, Nat.zero_le _⟩
theorem aw0_gd : Gd 50 aw0 := ⟨⟨by decide, by decide, by decide, by decide, by decide, by decide, by decide⟩, ⟨0, rfl, by decide⟩, by decide, by decide, by decide⟩
section
variable {X : Nat → Prop} {w : World} {G : Nat} {l : List Nx} {ms : List MV} {many : Int} {c : GV}
theorem Grp.view (h : Grp X w G l ms many c) (h0 : 0 < l.length) : ∃ gn cn, ∀ W, Fr (fun _ _ => True) w W → W.cell? ⟨G, 0, none⟩ = some (.slice (some ⟨gn, 0, none⟩) l.length cn) ∧ ∀ i (hi : i < l.length), W.cell? ⟨gn, i, none⟩ = some (.pointer (some ⟨l[i].b, 0, none⟩)) := by
  obtain ⟨gn, cn, e, hc⟩ := h.nrow h0
  exact ⟨gn, cn, fun W f => ⟨by rw [← e]; exact cell_mk (f.keep _ _ h.top trivial) rfl, fun i hi => hc i hi W f⟩⟩
theorem Grp.mview (h : Grp X w G l ms many c) (h0 : 0 < ms.length) : ∃ gm cm, ∀ W, Fr (fun _ _ => True) w W → W.cell? ⟨G, 1, none⟩ = some (.slice (some ⟨gm, 0, none⟩) ms.length cm) ∧ ∀ i (hi : i < ms.length) j u, (encM ms[i])[j]? = some u → W.cell? ⟨gm, i * 10 + j, none⟩ = some u := by
  obtain ⟨a, c', e, hcc, h1⟩ := h.rm.rows
  rcases h1 with h1 | ⟨gm, off, o, ha, ho, hk, hc⟩
  · rw [h1] at h0; cases h0
  · have e0 : off = 0 := by
      rcases h.rm.row.2 with ⟨e2, _⟩ | ⟨g, cap, cur, e2, _⟩
      · rw [e2, ha] at e; cases e
      · rw [e2, ha] at e; cases e; rfl
    subst e0
    refine ⟨gm, c', fun W f => ⟨by rw [← ha, ← e]; exact cell_mk (f.keep _ _ h.top trivial) rfl, fun i hi j u hu => ?_⟩⟩
    have := f.cell (fun _ _ => trivial) (hc i hi j u hu)
    rw [Nat.zero_add] at this
    exact this
theorem Grp.own (h : Grp X w G l ms many c) (i : Nat) (hi : i < l.length) {W : World} {n' : Nd} {q' : NV} (f : Fr (fun k _ => k ≠ l[i].b) w W) (hp : PNs X l[i].P W l[i].b n' q') : Grp X W G (l.set i ⟨l[i].b, n', l[i].P⟩) ms many c :=
  h.turn i hi ⟨q', hp⟩ (.of (f.mono fun k _ hk e => hk (e ▸ hp.pb)) hp.px)
theorem PNs.group {X P : Nat → Prop} {w w' : World} {b : Nat} {n : Nd} {q : NV} (h : PNs X P w b n q) (hf : Fr (fun c _ => c ≠ b) w w') (zs : List Int) (v : Value) (ht : w'.heap[b]? = some (.cells (W14 { n with conf := zs } { q with vc := v }) 39 (0, 0))) (hc : IntsAt (RO X) w' v zs) : PNs X P w' b { n with conf := zs } { q with vc := v } := by
  have aft : Aft X P X P w w' := .of (hf.mono fun c _ hc e => hc (e ▸ h.pb)) h.px
  exact ⟨ht, hc, ownsRow_fr h.ye hf fun c o e ho => (h.yb c e).1, h.yp, h.ev.aft aft, h.ee, h.nx.fr hf fun _ _ => h.bn_b, h.mt.fr hf fun _ _ => h.bm_b, h.nm, h.pb, h.pn, h.pm, h.px, fun c hc => Nat.lt_of_lt_of_le (h.hx c hc) hf.size⟩
theorem Grp.conf (h : Grp X w G l ms many c) (i : Nat) (hi : i < l.length) (zs : List Int) {cs : Array Value} (hcs : ∀ k (hk : k < zs.length), cs[k]? = some (.int .i64 zs[k])) {b : Nat} (hb : l[i].b = b) {W1 W2 : World} (e1 : w.alloc (.cells cs 3 (0, 0)) = W1) (e2 : W1.setCell ⟨b, 4, none⟩ (.slice (some ⟨w.heap.size, 0, none⟩) zs.length zs.length) = W2) (P : Nat → Prop) (hP : l[i].P = P) {n : Nd} (hn : l[i].n = n) : Grp X W2 G (l.set i ⟨b, { n with conf := zs }, P⟩) ms many c ∧ Fr (fun q _ => q ≠ b) w W2 := by
  subst hb hP hn
  have f1 : Fr (fun _ _ => True) w W1 := e1 ▸ (Fr.refl _ _).alloc _
  have f2 : Fr (fun q _ => q ≠ l[i].b) W1 W2 := e2 ▸ (Fr.refl _ _).setCell (fun _ _ h => h rfl) _
  have h1 := h.tt f1
  obtain ⟨q, hq⟩ := h1.nd _ (List.getElem_mem hi)
  have hlt : l[i].b < w.heap.size := by
    obtain ⟨q0, hq0⟩ := h.nd _ (List.getElem_mem hi)
    exact lt_of_some hq0.top
  have t1 : W1.heap[w.heap.size]? = some (.cells cs 3 (0, 0)) := by rw [← e1]; exact heap_alloc_new _ _
  have t2 : W2.heap[w.heap.size]? = some (.cells cs 3 (0, 0)) := f2.keep _ _ t1 (by omega)
  refine ⟨h1.own i hi f2 (hq.group f2 zs (.slice (some ⟨w.heap.size, 0, none⟩) zs.length zs.length) ?_ ?_), (f1.mono fun _ _ _ => trivial).trans f2⟩
  · rw [← e2]; exact heap_setCell_same (o := 4) hq.top _
  · refine ⟨_, zs.length, rfl, .inr ⟨w.heap.size, 0, _, rfl, t2, ⟨fun hx => ?_, _, _, _, rfl, by decide⟩, fun k hk => ?_⟩⟩
    · have := h.hx _ hx; omega
    · rw [Nat.zero_add]; exact cell_mk t2 (hcs k hk)
end
end Go.Proofs.Ytmjccpfchhnfhaa
/- Law 12: the chapter's examples, behind the third thing that is done (printed by awake12.py). -/
namespace Go.Proofs.Ytmjccpfchhnfhaa
open Go.RowKit
set_option linter.unusedVariables false
set_option linter.unusedSimpArgs false

section
variable {X : Nat → Prop} {w : World} {G : Nat} {l : List Nx} {ms : List MV} {many : Int} {c : GV}
set_option maxRecDepth 100000 in
set_option maxHeartbeats 8000000 in
theorem aw_s13 {R : Ending → World → Prop} (h : Grp X w G l ms many c) (B0 : Nat → Prop) (hl : Low B0 X G c) (hns : l.map (·.n) = NS4) (hms : ms.map MV.ms = MS3) (fin : ∀ W, Fr (fun q _ => B0 q) w W → R (.returned (.bool true)) W) (u0 u4 u5 u6 u7 u8 u9 u10 u11 u12 u13 u14 u15 u16 u17 u18 u19 u20 u21 u22 u23 u24 u25 u26 u27 u28 u29 u30 u31 u32 u33 u34 u35 u36 u37 u38 u39 u40 u41 u42 u43 u44 u45 u46 u47 u48 u49 u50 u51 u52 u53 u54 u55 u56 u57 u58 u59 u60 u61 u62 u63 u64 u65 u66 u67 u68 u69 u70 u71 u72 u73 u74 u75 u76 u77 u78 u79 u80 u81 u82 u83 u84 u85 u86 u87 u88 u89 u90 u91 u92 u93 u94 u95 u96 u97 u98 u99 u100 u101 u102 u103 u104 u105 u106 u107 u108 u109 u110 u111 u112 u113 u114 u115 u116 u117 u118 u119 u120 u121 u122 u123 u124 u125 u126 u127 u128 u129 u130 u131 u132 u133 u134 u135 u136 u137 u138 u139 u140 u141 u142 u143 u144 u145 u146 u147 u148 u149 u150 u151 u152 u153 u154 u155 u156 u157 u158 u159 u160 u161 u162 u163 u164 u165 u166 u167 u168 u169 u170 u171 u172 u173 u174 u175 u176 u177 u178 u179 u180 u181 u182 u183 u184 u185 u186 u187 u188 u189 u190 u191 u192 u193 u194 u195 : Value) :
    Code.wp Try.prog (seqR 13 (bodyC Try.f5.body)) (bodyPost Try.prog Try.f5 R) { tmps := #[u0, .pointer (some ⟨G, 0, none⟩), .bool true, .bool true, u4, u5, u6, u7, u8, u9, u10, u11, u12, u13, u14, u15, u16, u17, u18, u19, u20, u21, u22, u23, u24, u25, u26, u27, u28, u29, u30, u31, u32, u33, u34, u35, u36, u37, u38, u39, u40, u41, u42, u43, u44, u45, u46, u47, u48, u49, u50, u51, u52, u53, u54, u55, u56, u57, u58, u59, u60, u61, u62, u63, u64, u65, u66, u67, u68, u69, u70, u71, u72, u73, u74, u75, u76, u77, u78, u79, u80, u81, u82, u83, u84, u85, u86, u87, u88, u89, u90, u91, u92, u93, u94, u95, u96, u97, u98, u99, u100, u101, u102, u103, u104, u105, u106, u107, u108, u109, u110, u111, u112, u113, u114, u115, u116, u117, u118, u119, u120, u121, u122, u123, u124, u125, u126, u127, u128, u129, u130, u131, u132, u133, u134, u135, u136, u137, u138, u139, u140, u141, u142, u143, u144, u145, u146, u147, u148, u149, u150, u151, u152, u153, u154, u155, u156, u157, u158, u159, u160, u161, u162, u163, u164, u165, u166, u167, u168, u169, u170, u171, u172, u173, u174, u175, u176, u177, u178, u179, u180, u181, u182, u183, u184, u185, u186, u187, u188, u189, u190, u191, u192, u193, u194, u195], defers := [] } w := by
  dsimp only [seqR, bodyC, Try.f5]
  have hll : l.length = 3 := by have := congrArg List.length hns; rw [List.length_map] at this; exact this.trans (by decide +kernel)
  obtain ⟨x0, x1, x2, rfl⟩ : ∃ x0 x1 x2, l = [x0, x1, x2] := by match l, hll with | [a, b, d], _ => exact ⟨a, b, d, rfl⟩
  have n0 : x0.n = NS4.getD 0 default := by rw [← hns]; rfl
  have n2 : x2.n = Nd.new 2 (cfN 3) := by rw [← NS4_is.2.2.2, ← hns]; rfl
  have H := Lib.hid h
  have HL := Lib.hid hl
  have FIN := Lib.hid fin
  obtain ⟨gn, cn, V⟩ := h.view (by simp)
  obtain ⟨q0, hq0⟩ := h.nd x0 (by simp)
  obtain ⟨b0, hb0⟩ : ∃ b, x0.b = b := ⟨_, rfl⟩
  obtain ⟨b2, hb2⟩ : ∃ b, x2.b = b := ⟨_, rfl⟩
  rw [hb0] at hq0
  obtain ⟨y0, V1⟩ := V w (Fr.refl _ _)
  have y0 : w.cell? ⟨G, 0, none⟩ = some (.slice (some ⟨gn, 0, none⟩) 3 cn) := y0
  have z0 : w.cell? ⟨gn, 0, none⟩ = some (.pointer (some ⟨b0, 0, none⟩)) := by rw [← hb0]; exact V1 0 (by simp)
  have c7 : w.cell? ⟨b0, 7, none⟩ = some (.int .u64 1) := by
    rw [(hq0.cells (Fr.refl _ w)).2.2.2.2.2.2.2.1, n0, NS4_is.2.1]; rfl
  obtain ⟨g8, hg8⟩ : ∃ x, w.heap.size = x := ⟨_, rfl⟩
  obtain ⟨W1, hW1⟩ : ∃ Y, w.alloc (.cells #[.int .u8 97] 5 (0, 0)) = Y := ⟨_, rfl⟩
  have f1 : Fr (fun _ _ => True) w W1 := hW1 ▸ (Fr.refl _ _).alloc _
  have t1 : W1.heap[g8]? = some (.cells #[.int .u8 97] 5 (0, 0)) := by rw [← hW1, ← hg8]; exact heap_alloc_new _ _
  have BA : BytesAt (RO X) W1 (.slice (some ⟨g8, 0, none⟩) [(97 : UInt8)].length 1) [97] := ⟨_, 1, rfl, Nat.le_refl _, (fun e => by cases e), .inr ⟨g8, 0, _, rfl, t1, ⟨fun hx => by have := h.hx _ hx; omega, _, _, _, rfl, by decide⟩, fun i hi => by
    have : i = 0 := by have : i < 1 := hi; omega
    subst this
    exact cell_mk t1 rfl⟩⟩
  have AC0 : Calls Try.prog 19 #[.pointer (some ⟨b0, 0, none⟩), .int .i64 1, .slice (some ⟨g8, 0, none⟩) 1 1] W1 fun e w' => POut X x0.P W1 b0 (x0.n.propose 1 [97]) e w' := propose_calls (hq0.tt f1) 1 (some ⟨g8, 0, none⟩) 1 [97] BA (by rw [n0]; exact NS4_0.1) (by rw [n0]; exact NS4_0.2.1) 0 (by rw [n0]; exact NS4_0.2.2.1) (by decide) (by rw [n0]; exact NS4_0.2.2.2.1) (by rw [n0]; exact NS4_0.2.2.2.2)
  obtain ⟨r, hr⟩ : ∃ r, x0.n.propose 1 [97] = r := ⟨_, rfl⟩
  rw [hr] at AC0
  have hr2 : r.2 = (2, 0) := by rw [← hr, n0]; exact NS4_is.2.2.1
  obtain ⟨r1, r2, r3⟩ := r
  have e2 : r2 = 2 ∧ r3 = 0 := by cases hr2; exact ⟨rfl, rfl⟩
  obtain ⟨rfl, rfl⟩ := e2
  have AC := Lib.hid AC0
  have PX : Hid (∀ q, x0.P q → X q) := hq0.px
  have F1 := Lib.hid f1
  have HN := Lib.hid (And.intro n0 (And.intro n2 (And.intro hb0 (And.intro hb2 hms))))
  clear h hl fin V V1 hq0 n0 n2 hns hms hll BA t1 f1 AC0 hr hr2 hb0 hb2
  go_wp2_with fail
  try rw [hW1]
  try rw [hg8]
  clear hW1 hg8 y0 z0 c7
  (with_reducible refine AC.out.mono ?_)
  rintro e W2 ⟨⟨q6, rfl, p6⟩, f6⟩
  dsimp only
  have G2 : Hid (Grp X W2 G [⟨x0.b, r1, x0.P⟩, x1, x2] ms many c) := (H.out.tt F1.out).turn 0 (by simp) ⟨q6, by show PNs _ _ _ x0.b _ _; rw [HN.out.2.2.1]; exact p6⟩ (.of f6 PX.out)
  have F2 : Hid (Fr (fun q _ => B0 q) w W2) := (F1.out.mono fun _ _ _ => trivial).trans (f6.mono fun q _ hq e => HL.out.x q (PX.out q e) hq)
  obtain ⟨gn, cn, V⟩ := G2.out.view (by simp)
  obtain ⟨y0, V1⟩ := V W2 (Fr.refl _ _)
  have y0 : W2.cell? ⟨G, 0, none⟩ = some (.slice (some ⟨gn, 0, none⟩) 3 cn) := y0
  have z2 : W2.cell? ⟨gn, 2, none⟩ = some (.pointer (some ⟨b2, 0, none⟩)) := by rw [← HN.out.2.2.2.1]; exact V1 2 (by simp)
  obtain ⟨q2, hq2⟩ := G2.out.nd x2 (by simp)
  rw [HN.out.2.2.2.1] at hq2
  have x6 := (hq2.cells (Fr.refl _ W2)).2.2.2.2.2.2.1
  have w6 := hq2.free (Fr.refl _ W2) 6
  obtain ⟨W3, hW3⟩ : ∃ Y, W2.setCell ⟨b2, 6, none⟩ (.int .u64 3) = Y := ⟨_, rfl⟩
  have hW3s : sets W2 b2 [(6, .int .u64 3)] = W3 := hW3
  have f3 : Fr (fun k _ => k ≠ b2) W2 W3 := hW3s ▸ sets_fr b2 _ W2
  have p3 : PNs X x2.P W3 b2 { x2.n with tm := 3 } q2 := hq2.re f3 (hW3s ▸ sets_heap _ hq2.top) ⟨rfl, rfl⟩ (.inl ⟨rfl, rfl⟩) ⟨rfl, rfl, rfl⟩ ⟨rfl, rfl, rfl, rfl⟩
  have G3 : Hid (Grp X W3 G [⟨x0.b, r1, x0.P⟩, x1, ⟨x2.b, { x2.n with tm := 3 }, x2.P⟩] ms many c) := G2.out.own 2 (by simp) (by show Fr (fun k _ => k ≠ x2.b) W2 W3; rw [HN.out.2.2.2.1]; exact f3) (by show PNs X x2.P W3 x2.b _ _; rw [HN.out.2.2.2.1]; exact p3)
  have F3 : Hid (Fr (fun q _ => B0 q) w W3) := F2.out.trans (f3.mono fun q _ hq e => HL.out.x q (hq2.px _ (e ▸ hq2.pb)) hq)
  have hml : ms.length = 3 := by have := congrArg List.length HN.out.2.2.2.2; rw [List.length_map] at this; exact this.trans MS3_is.1
  obtain ⟨m0, m1, m2, rfl⟩ : ∃ a b d, ms = [a, b, d] := by match ms, hml with | [a, b, d], _ => exact ⟨a, b, d, rfl⟩
  have hm1 : m1.ms = MS3.getD 1 zMs := by rw [← HN.out.2.2.2.2]; rfl
  obtain ⟨gm, cm, VM⟩ := G3.out.mview (by simp)
  obtain ⟨y1, VM1⟩ := VM W3 (Fr.refl _ _)
  have y1 : W3.cell? ⟨G, 1, none⟩ = some (.slice (some ⟨gm, 0, none⟩) 3 cm) := y1
  have v : ∀ j u, (encM m1)[j]? = some u → W3.cell? ⟨gm, 10 + j, none⟩ = some u := fun j u hu => VM1 1 (by simp) j u hu
  have v0 := v 0 _ rfl
  have v1 := v 1 _ rfl
  have v2 := v 2 _ rfl
  have v3 := v 3 _ rfl
  have v4 := v 4 _ rfl
  have v5 := v 5 _ rfl
  have v6 := v 6 _ rfl
  have v7 := v 7 _ rfl
  have v8 := v 8 _ rfl
  have v9 := v 9 _ rfl
  have MA : MsAt X W3 m1 := G3.out.rm.at' m1 (by simp)
  have hix : m1.index + m1.es.length + 1 < 18446744073709551616 ∧ m1.es.length ≤ 900000 := by
    have := MS3_1
    rw [← hm1] at this
    have e : m1.ms.es.length = m1.es.length := by show (m1.es.map EV.en).length = _; rw [List.length_map]
    rw [e] at this
    exact this
  have hn2 : x2.n.log.last + 1 < 18446744073709551616 ∧ x2.n.log.es.length ≤ 900000 := by rw [HN.out.2.1]; decide
  have OA := Lib.hid (onAppend_calls p3 m1 MA hix.1 hix.2 hn2.1 hn2.2)
  obtain ⟨r, hr⟩ : ∃ r, ({ x2.n with tm := 3 } : Nd).onAppend m1.ms = r := ⟨_, rfl⟩
  rw [hr] at OA
  have hr2 : r.2.length = 1 ∧ (r.2.getD 0 zMs).ok = false ∧ (r.2.getD 0 zMs).tm = 3 := by
    rw [← hr, hm1, HN.out.2.1]; exact MS3_on
  have HR := Lib.hid hr2
  unfold cM at OA
  clear f6 p6 V V1 hq2 hW3s f3 p3 VM VM1 v hml hm1 MA hix hn2 hr hr2 AC
  go_wp2_with fail
  try rw [hW3]
  clear hW3 y0 z2 x6 w6
  go_wp2_with fail
  (with_reducible refine OA.out.mono ?_)
  intro e W4 hout
  obtain ⟨X4, P4, q4, va, mvs, rfl, p4, a4, o4, e4⟩ := hout
  have F4 : Hid (Fr (fun q _ => B0 q) w W4) := F3.out.trans (a4.fr.mono fun q _ hq e => HL.out.x q (a4.hp q e) hq)
  have hl4 : mvs.length = 1 := by have := HR.out.1; rw [← e4, List.length_map] at this; exact this
  obtain ⟨mv, rfl⟩ : ∃ a, mvs = [a] := by match mvs, hl4 with | [a], _ => exact ⟨a, rfl⟩
  have hmv : mv.ok = false ∧ mv.tm = 3 := by have := HR.out.2; rw [← e4] at this; exact this
  obtain ⟨av, cv, ev, hcv, h1⟩ := o4.rows
  subst ev
  rcases h1 with h1 | ⟨gv, off, ob, rfl, hob, hkb, hcc⟩
  · cases h1
  have u7 : W4.cell? ⟨gv, off + 7, none⟩ = some (.bool false) := by rw [← hmv.1]; exact hcc 0 (by simp) 7 _ rfl
  have u3' : W4.cell? ⟨gv, off + 3, none⟩ = some (.int .u64 3) := by
    have := hcc 0 (by simp) 3 _ rfl
    rw [show off + 0 * 10 + 3 = off + 3 by omega, show ([mv] : List MV)[0].tm = 3 from hmv.2] at this
    exact this
  clear p4 a4 o4 e4 hl4 hmv hcc hkb hob hcv OA
  go_wp2
  exact FIN.out _ F4.out
end
end Go.Proofs.Ytmjccpfchhnfhaa
/- Law 12: the chapter's examples, behind the second thing that is done (printed by awake12.py). -/
namespace Go.Proofs.Ytmjccpfchhnfhaa
open Go.RowKit
set_option linter.unusedVariables false
set_option linter.unusedSimpArgs false

section
variable {X : Nat → Prop} {w : World} {G : Nat} {l : List Nx} {ms : List MV} {many : Int} {c : GV}
set_option maxRecDepth 100000 in
set_option maxHeartbeats 8000000 in
theorem aw_s10 {R : Ending → World → Prop} (h : Grp X w G l ms many c) (B0 : Nat → Prop) (hl : Low B0 X G c) (B : Nat) (hB : B + 2 ≤ 700000) (ok : GOk B l ms many c) (hns : l.map (·.n) = NS3) (hms : ms.map MV.ms = MS3) (fin : ∀ W, Fr (fun q _ => B0 q) w W → R (.returned (.bool true)) W) (u0 u3 u4 u5 u6 u7 u8 u9 u10 u11 u12 u13 u14 u15 u16 u17 u18 u19 u20 u21 u22 u23 u24 u25 u26 u27 u28 u29 u30 u31 u32 u33 u34 u35 u36 u37 u38 u39 u40 u41 u42 u43 u44 u45 u46 u47 u48 u49 u50 u51 u52 u53 u54 u55 u56 u57 u58 u59 u60 u61 u62 u63 u64 u65 u66 u67 u68 u69 u70 u71 u72 u73 u74 u75 u76 u77 u78 u79 u80 u81 u82 u83 u84 u85 u86 u87 u88 u89 u90 u91 u92 u93 u94 u95 u96 u97 u98 u99 u100 u101 u102 u103 u104 u105 u106 u107 u108 u109 u110 u111 u112 u113 u114 u115 u116 u117 u118 u119 u120 u121 u122 u123 u124 u125 u126 u127 u128 u129 u130 u131 u132 u133 u134 u135 u136 u137 u138 u139 u140 u141 u142 u143 u144 u145 u146 u147 u148 u149 u150 u151 u152 u153 u154 u155 u156 u157 u158 u159 u160 u161 u162 u163 u164 u165 u166 u167 u168 u169 u170 u171 u172 u173 u174 u175 u176 u177 u178 u179 u180 u181 u182 u183 u184 u185 u186 u187 u188 u189 u190 u191 u192 u193 u194 u195 : Value) :
    Code.wp Try.prog (seqR 10 (bodyC Try.f5.body)) (bodyPost Try.prog Try.f5 R) { tmps := #[u0, .pointer (some ⟨G, 0, none⟩), .bool true, u3, u4, u5, u6, u7, u8, u9, u10, u11, u12, u13, u14, u15, u16, u17, u18, u19, u20, u21, u22, u23, u24, u25, u26, u27, u28, u29, u30, u31, u32, u33, u34, u35, u36, u37, u38, u39, u40, u41, u42, u43, u44, u45, u46, u47, u48, u49, u50, u51, u52, u53, u54, u55, u56, u57, u58, u59, u60, u61, u62, u63, u64, u65, u66, u67, u68, u69, u70, u71, u72, u73, u74, u75, u76, u77, u78, u79, u80, u81, u82, u83, u84, u85, u86, u87, u88, u89, u90, u91, u92, u93, u94, u95, u96, u97, u98, u99, u100, u101, u102, u103, u104, u105, u106, u107, u108, u109, u110, u111, u112, u113, u114, u115, u116, u117, u118, u119, u120, u121, u122, u123, u124, u125, u126, u127, u128, u129, u130, u131, u132, u133, u134, u135, u136, u137, u138, u139, u140, u141, u142, u143, u144, u145, u146, u147, u148, u149, u150, u151, u152, u153, u154, u155, u156, u157, u158, u159, u160, u161, u162, u163, u164, u165, u166, u167, u168, u169, u170, u171, u172, u173, u174, u175, u176, u177, u178, u179, u180, u181, u182, u183, u184, u185, u186, u187, u188, u189, u190, u191, u192, u193, u194, u195], defers := [] } w := by
  dsimp only [seqR, bodyC, Try.f5]
  have hml : ms.length = 3 := by have := congrArg List.length hms; rw [List.length_map] at this; exact this.trans MS3_is.1
  have hbd : ∀ W : World, (Instr.build 43 #[(0, .int .i64 3), (1, .int .i64 2)]).run Try.prog W = .ok (.agg #[.int .i64 3, .int .i64 2]) W := fun W => run_build W _ _ _ (by kernel_rfl)
  obtain ⟨m0, m1, m2, rfl⟩ : ∃ a b d, ms = [a, b, d] := by match ms, hml with | [a, b, d], _ => exact ⟨a, b, d, rfl⟩
  have hm2 : m2.ms = MS3.getD 2 zMs := by rw [← hms]; rfl
  have hm2' : m2.kind = 6 ∧ m2.ok = true ∧ m2.index = 1 := by
    have := MS3_is.2.2
    rw [← hm2] at this
    exact this
  obtain ⟨gm, cm, VM⟩ := h.mview (by simp)
  obtain ⟨y1a, VM1⟩ := VM w (Fr.refl _ _)
  have y1 : w.cell? ⟨G, 1, none⟩ = some (.slice (some ⟨gm, 0, none⟩) 3 cm) := y1a
  clear y1a
  have v0 : w.cell? ⟨gm, 20, none⟩ = some (.int .i64 6) := by rw [← hm2'.1]; exact VM1 2 (by simp) 0 _ rfl
  have v7 : w.cell? ⟨gm, 27, none⟩ = some (.bool true) := by rw [← hm2'.2.1]; exact VM1 2 (by simp) 7 _ rfl
  have v4 : w.cell? ⟨gm, 24, none⟩ = some (.int .u64 1) := by
    have := VM1 2 (by simp) 4 _ rfl
    rw [show ([m0, m1, m2] : List MV)[2].index = 1 from hm2'.2.2] at this
    exact this
  have PC := Lib.hid (play_calls h B0 hl B ok 3 2)
  have HMS := Lib.hid hms
  have HNS := Lib.hid hns
  have FIN := Lib.hid fin
  have HL := Lib.hid hl
  clear h hl ok hns hms fin VM VM1 hml hm2 hm2'
  go_upto_region 15 with fail
  rename_i K1 h1
  have H1 := Lib.hid h1
  clear h1
  clear y1 v0 v7 v4
  go_wp2_with fail
  (with_reducible refine PC.out.mono ?_)
  rintro e W2 ⟨X2, l2, ms2, many2, c2, rfl, g2, l2w, hp, hnn, f2⟩
  have e2 := playR_hear (i := 0) (j := 2) (by rw [HNS.out]; decide +kernel) (by simp) (by
    have := MS3_is.2.1
    rw [← HMS.out] at this
    exact this) (by simp) hp
  obtain ⟨e3, e4⟩ := e2
  have hx : (([m0, m1, m2] : List MV).map MV.ms)[2] = MS3.getD 2 zMs := by rw [← HMS.out]; rfl
  have hn : (l.map (·.n))[0]'(by rw [HNS.out]; decide +kernel) = aw0 := (getD_get _ default).trans (by rw [HNS.out]; decide +kernel)
  rw [hx, hn, hear4] at e3 e4
  rw [HNS.out] at e3
  rw [HMS.out, List.append_nil] at e4
  have G2 := Lib.hid (And.intro g2 (And.intro l2w (And.intro e3 (And.intro e4 f2))))
  clear g2 l2w hp hnn f2 e3 e4 hx hn PC
  go_wp2_with fail
  exact H1.out _ _ (aw_s13 G2.out.1 B0 G2.out.2.1 G2.out.2.2.1 G2.out.2.2.2.1 (fun W f => FIN.out W (G2.out.2.2.2.2.trans f)) _ _ _ _ _ _ _ _ _ _ _ _ _ _ _ _ _ _ _ _ _ _ _ _ _ _ _ _ _ _ _ _ _ _ _ _ _ _ _ _ _ _ _ _ _ _ _ _ _ _ _ _ _ _ _ _ _ _ _ _ _ _ _ _ _ _ _ _ _ _ _ _ _ _ _ _ _ _ _ _ _ _ _ _ _ _ _ _ _ _ _ _ _ _ _ _ _ _ _ _ _ _ _ _ _ _ _ _ _ _ _ _ _ _ _ _ _ _ _ _ _ _ _ _ _ _ _ _ _ _ _ _ _ _ _ _ _ _ _ _ _ _ _ _ _ _ _ _ _ _ _ _ _ _ _ _ _ _ _ _ _ _ _ _ _ _ _ _ _ _ _ _ _ _ _ _ _ _ _ _ _ _ _ _ _ _ _ _ _ _ _ _ _)
end
end Go.Proofs.Ytmjccpfchhnfhaa
