/- Texts of the proofs, part 43: what the functions that they reach do, walked; no conditions beyond those that each states. -/
import Derived.Test.YtmjccpfchhnfhaaGreatZz835abd5e78
set_option linter.unusedVariables false
set_option linter.unusedSimpArgs false
/- Law 12: play, d = 5 (printed by play12c.py). -/
namespace Go.Proofs.YtmjccpfchhnfhaaGreat
open Go.RowKit
set_option linter.unusedVariables false
set_option linter.unusedSimpArgs false
section
variable {X : Nat → Prop} {w : World} {G : Nat} {l : List Nx} {ms : List MV} {many : Int} {c : GV}
set_option maxRecDepth 100000 in
set_option maxHeartbeats 8000000 in
theorem pl12V5 [Old] [NoOld] (h : Grp X w G l ms many c) (B0 : Nat → Prop) (hl : Low B0 X G c) (B : Nat) (ok : GOk B l ms many c) (d k : Int) (h3 : d ≠ 3) (i : Nat) (hi : i < l.length) (hki : k = (i : Nat)) (HD : Hid (d = 5)) :
  Calls Tryz.prog 46 #[.pointer (some ⟨G, 0, none⟩), .agg #[.int .i64 d, .int .i64 k]] w fun e w' => PlOut B0 w G l ms many c d k e w' := by
 obtain ⟨W1, hW1, F1, o0, o1⟩ := obox w d k
 have H := Lib.hid h
 have HL := Lib.hid hl
 have OK := Lib.hid ok
 obtain ⟨gm, lm, cm, hvm⟩ : ∃ gm lm cm, c.vm = .slice gm lm cm := by obtain ⟨g, c', e⟩ := ownsRow_form h.rm.row; exact ⟨g, _, c', e⟩
 obtain ⟨gn, ln, cn, hvn⟩ : ∃ gn ln cn, c.vn = .slice gn ln cn := by obtain ⟨g, c', e⟩ := ownsRow_form h.rn; exact ⟨g, _, c', e⟩
 have hlm : lm = ms.length := by obtain ⟨g, c', e⟩ := ownsRow_form h.rm.row; rw [hvm] at e; cases e; rfl
 have hln : ln = l.length := by obtain ⟨g, c', e⟩ := ownsRow_form h.rn; rw [hvn] at e; cases e; rfl
 have t1 := F1.out.keep _ _ h.top trivial
 have y0 : W1.cell? ⟨G, 0, none⟩ = some (.slice gn ln cn) := by rw [← hvn]; exact cell_mk t1 rfl
 have y1 : W1.cell? ⟨G, 1, none⟩ = some (.slice gm lm cm) := by rw [← hvm]; exact cell_mk t1 rfl
 subst hki
 have g3 : (d == 3) = false := by simpa using h3
 have YY : Hid (∀ W, Fr (fun _ _ => True) w W → W.cell? ⟨G, 0, none⟩ = some (.slice gn ln cn) ∧ W.cell? ⟨G, 1, none⟩ = some (.slice gm lm cm)) := fun W f => ⟨by rw [← hvn]; exact cell_mk (f.keep _ _ h.top trivial) rfl, by rw [← hvm]; exact cell_mk (f.keep _ _ h.top trivial) rfl⟩
 have hiI : (i : Int) < (ln : Int) := by omega
 have hiI' : ¬ (ln : Int) ≤ (i : Int) := by omega
 have hi0 : ¬ (i : Int) < 0 := by omega
 obtain ⟨gn2, cn2, hvn2, HNC⟩ := h.nrow (by omega)
 have egn : gn = some ⟨gn2, 0, none⟩ ∧ cn = cn2 := by rw [hvn] at hvn2; cases hvn2; exact ⟨rfl, rfl⟩
 obtain ⟨e3, e4⟩ := egn
 subst e3 e4
 obtain ⟨x, hx⟩ : ∃ x, l[i] = x := ⟨_, rfl⟩
 have hxl : x ∈ l := hx ▸ List.getElem_mem hi
 obtain ⟨qx, hqx⟩ := h.nd x hxl
 obtain ⟨b, hb⟩ : ∃ b, x.b = b := ⟨_, rfl⟩
 obtain ⟨ro, hro⟩ : ∃ y, x.n.role = y := ⟨_, rfl⟩
 obtain ⟨tm, htm⟩ : ∃ y, x.n.tm = y := ⟨_, rfl⟩
 obtain ⟨co, hco⟩ : ∃ y, x.n.commit = y := ⟨_, rfl⟩
 rw [hb] at hqx
 have XC : Hid (∀ W, Fr (fun _ _ => True) w W → W.cell? ⟨gn2, i, none⟩ = some (.pointer (some ⟨b, 0, none⟩)) ∧ W.cell? ⟨b, 2, none⟩ = some (.int .i64 ro) ∧ W.cell? ⟨b, 6, none⟩ = some (.int .u64 (tm : Nat)) ∧ W.cell? ⟨b, 7, none⟩ = some (.int .u64 (co : Nat))) := fun W f => by
  obtain ⟨x0, x1, x2, x3, x4, x5, x6, x7, x8, x9, x10, x11, x12, x13⟩ := hqx.cells f
  exact ⟨by rw [← hb, ← hx]; exact HNC i hi W f, by rw [x2, hro], by rw [x6, htm], by rw [x7, hco]⟩
 have HQX := Lib.hid hqx
 have HXX := Lib.hid (And.intro hx (And.intro hxl (And.intro hb (And.intro hro (And.intro htm hco)))))
 have HV := Lib.hid (And.intro hvm (And.intro hvn (And.intro hlm hln)))
 clear h hl ok t1 hvm hvn hlm hln hvn2 HNC hx hxl hqx hb hro htm hco h3
 go_enter Tryz.func46, Tryz.ntmps46
 have F3 := Lib.hid F1.out
 obtain ⟨W3, hW3⟩ : ∃ Y, W1 = Y := ⟨_, rfl⟩
 rw [hW3] at hW1 F3 o0 o1 y0 y1
 clear hW3
 obtain ⟨xp, x2, x6, x7⟩ := XC.out W3 F3.out
 obtain ⟨led, hled⟩ : ∃ x, (ro == 3) = x := ⟨_, rfl⟩
 go_upto_region 11 with fail
 try rw [hW1]
 try rw [hled]
 have HLED := Lib.hid hled
 clear hled
 rename_i K1 h1 K0 h0
 have TAIL : ∀ (u1 u2 u3 u4 u10 u11 u12 u13 u14 u15 u16 u17 u18 u19 u20 u21 u22 u23 u24 u25 u26 u27 u28 u29 u30 u31 u32 u33 u34 u35 u36 u37 u38 u39 u40 u41 u42 u43 u44 u45 u46 u47 u48 u49 u50 u51 u52 u53 u54 u55 u56 u57 u58 u59 u60 u61 u62 u63 u64 u65 u66 u67 u68 u69 u70 u71 u72 u73 u74 u75 u76 u77 u78 u79 u80 u81 u82 u83 u84 u85 u86 u87 u88 u89 u90 u91 u92 u93 u94 u95 u96 u97 u98 u99 u100 u101 u102 u103 u104 u105 u106 u107 u108 u109 u110 u111 u112 u113 u114 u115 u116 u117 u118 u119 u120 u121 u122 u123 u124 u125 u126 u127 u128 u129 u130 u131 u132 u133 u134 u135 u136 u137 u138 u139 u140 u141 u142 u143 u144 u145 u146 u147 u148 u149 u150 u151 u152 u153 u154 u155 u156 u157 u158 u159 u160 u161 u162 u163 u164 u165 u166 u167 u168 u169 u170 u171 u172 u173 u174 u175 u176 u177 u178 u179 u180 u181 u182 u183 u184 u185 u186 u187 u188 u189 u190 u191 u192 u193 u194 u195 u196 u197 u198 u199 u200 u201 u202 u203 u204 u205 u206 u207 u208 u209 u210 u211 u212 u213 u214 u215 u216 u217 u218 u219 u220 u221 : Value) (v9 : Value) (wx : World) (X' P' : Nat → Prop) (r : Nd × List Ms) (many' : Int) (mvs : List MV), Mid B0 w G l ms many c i b (opR (l.map (·.n)) (ms.map MV.ms) d (i : Nat) i (by rw [List.length_map]; exact hi)) B v9 wx X' P' r many' mvs → K1 { tmps := #[.pointer (some ⟨G, 0, none⟩), u1, u2, u3, u4, .pointer (some ⟨b, 0, none⟩), .bool led, .int .u64 (tm : Nat), .int .u64 (co : Nat), v9, u10, u11, u12, u13, u14, u15, u16, u17, u18, u19, u20, u21, u22, u23, u24, u25, u26, u27, u28, u29, u30, u31, u32, u33, u34, u35, u36, u37, u38, u39, u40, u41, u42, u43, u44, u45, u46, u47, u48, u49, u50, u51, u52, u53, u54, u55, u56, u57, u58, u59, u60, u61, u62, u63, u64, u65, u66, u67, u68, u69, u70, u71, u72, u73, u74, u75, u76, u77, u78, u79, u80, u81, u82, u83, u84, u85, u86, u87, u88, u89, u90, u91, u92, u93, u94, u95, u96, u97, u98, u99, u100, u101, u102, u103, u104, u105, u106, u107, u108, u109, u110, u111, u112, u113, u114, u115, u116, u117, u118, u119, u120, u121, u122, u123, u124, u125, u126, u127, u128, u129, u130, u131, u132, u133, u134, u135, u136, u137, u138, u139, u140, u141, u142, u143, u144, u145, u146, u147, u148, u149, u150, u151, u152, u153, u154, u155, u156, u157, u158, u159, u160, u161, u162, u163, u164, u165, u166, u167, u168, u169, u170, u171, u172, u173, u174, u175, u176, u177, u178, u179, u180, u181, u182, u183, u184, u185, u186, u187, u188, u189, u190, u191, u192, u193, u194, u195, u196, u197, u198, u199, u200, u201, u202, u203, u204, u205, u206, u207, u208, u209, u210, u211, u212, u213, u214, u215, u216, u217, u218, u219, u220, u221], defers := [] } wx := by
  intros; rename_i v9 wx X' P' r many' mvs M
  exact h1 _ _ (by apply pl12_tail1 M.grp i (by rw [List.length_set]; exact hi) b r.1 P' (by rw [List.getElem_set_self]) B0 M.low B OK.out.b M.bn co tm (by have := (OK.out.gd _ HXX.out.2.1).bn.commit; have := HXX.out.2.2.2.2.2; omega) led (fun hr => by have e := opR_same5 HD.out M.op; rw [List.getElem_map, HXX.out.1] at e; rw [e] at hr ⊢; exact ⟨by rw [← HLED.out, ← HXX.out.2.2.2.1, hr]; rfl, HXX.out.2.2.2.2.1⟩) (by have := OK.out.nn; omega) v9 mvs M.ow M.len OK.out.lm (fun ms' c' W g1 g2 g3 g4 g5 => M.out g1 g2 (by rw [g3, M.eq]) g4 (M.fr.trans g5)))
 clear h1
 have GD := OK.out.gd _ HXX.out.2.1
 obtain ⟨mN, hme, hm16⟩ := GD.me
 have gl := GD.bn.last
 have gt := GD.bn.tm
 have ge := GD.es
 have gc := GD.cf
 have hB7 := OK.out.b
 have P3 : PNs X x.P W3 b x.n qx := HQX.out.tt F3.out
 have EN : Hid ((l.map (·.n))[i]'(by rw [List.length_map]; exact hi) = x.n) := by show _ = _; rw [List.getElem_map, HXX.out.1]
 have OP : Hid (opR (l.map (·.n)) (ms.map MV.ms) d (i : Nat) i (by rw [List.length_map]; exact hi) (x.n, x.n.beat)) := by
  show opR _ _ _ _ _ _ _
  exact .inr (.inr (.inr (.inr (.inl ⟨HD.out, rfl, by rw [EN.out]⟩))))
 have AC := Lib.hid (beat_calls P3 ⟨by omega, by omega⟩ (fun y hy => by have := GD.bn.nx y hy; omega) (by omega) (by omega))
 have LN : Hid (x.n.beat.length ≤ 100) := Nat.le_trans (Nd.beat_len _) (by omega)
 have BX : Hid (Bn (B + 2) x.n) := GD.bn.mono (by omega)
 have HP3 := Lib.hid P3
 have hd := HD.out
 clear HD
 subst hd
 clear P3 GD hme gl gt ge gc hB7
 go_wp2_with fail
 (with_reducible refine AC.out.mono ?_)
 rintro e W4 ⟨⟨v, mvs, rfl, o4, e4⟩, f4⟩
 have MD := Lib.hid (mid_mk (B := B) (r := (x.n, x.n.beat)) H.out F3.out hi HXX.out.1 HL.out ⟨qx, by rw [HXX.out.2.2.1]; exact HP3.out.tt f4⟩ (.tt f4 HQX.out.px) (own_lo o4) e4 OP.out (len_ms e4 LN.out) BX.out)
 rw [HXX.out.2.2.1] at MD
 clear o4 e4 f4 AC
 go_wp2
 (apply TAIL; exact MD.out)
end
end Go.Proofs.YtmjccpfchhnfhaaGreat
