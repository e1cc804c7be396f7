/- Texts of the proofs, part 42: what the functions that they reach do, walked; no conditions beyond those that each states. -/
import Derived.Test.YtmjccpfchhnfhaaGreatZz835abd5e78
set_option linter.unusedVariables false
set_option linter.unusedSimpArgs false
/- Law 12: play, d = 3 (printed by play12c.py). -/
namespace Go.Proofs.YtmjccpfchhnfhaaGreat
open Go.RowKit
set_option linter.unusedVariables false
set_option linter.unusedSimpArgs false
section
variable {X : Nat → Prop} {w : World} {G : Nat} {l : List Nx} {ms : List MV} {many : Int} {c : GV}
set_option maxRecDepth 100000 in
set_option maxHeartbeats 8000000 in
theorem pl12V3 [Old] [NoOld] (h : Grp X w G l ms many c) (B0 : Nat → Prop) (hl : Low B0 X G c) (B : Nat) (ok : GOk B l ms many c) (d k : Int) (h3 : d = 3) (j : Nat) (hj : j < ms.length) (hkj : k = (j : Nat)) (i : Nat) (hi : i < l.length) (hdi : ms[j].dst = (i : Nat)) (hk56 : ms[j].kind = 5 ∨ ms[j].kind = 6) (HRS : ∀ (W : World) (q : NV), PNs X l[i].P W l[i].b l[i].n q → MsAt X W ms[j] → Calls Tryz.prog 99 #[.pointer (some ⟨l[i].b, 0, none⟩), .agg (cM ms[j])] W fun e w' => NOut X l[i].P W l[i].b (l[i].n.hear ms[j].ms) e w') :
  Calls Tryz.prog 46 #[.pointer (some ⟨G, 0, none⟩), .agg #[.int .i64 d, .int .i64 k]] w fun e w' => PlOut B0 w G l ms many c d k e w' := by
 obtain ⟨W1, hW1, F1, o0, o1⟩ := obox w d k
 have H := Lib.hid h
 have HL := Lib.hid hl
 have OK := Lib.hid ok
 have HRH := Lib.hid HRS
 have HK56 := Lib.hid hk56
 clear hk56
 clear HRS
 obtain ⟨gm, lm, cm, hvm⟩ : ∃ gm lm cm, c.vm = .slice gm lm cm := by obtain ⟨g, c', e⟩ := ownsRow_form h.rm.row; exact ⟨g, _, c', e⟩
 obtain ⟨gn, ln, cn, hvn⟩ : ∃ gn ln cn, c.vn = .slice gn ln cn := by obtain ⟨g, c', e⟩ := ownsRow_form h.rn; exact ⟨g, _, c', e⟩
 have hlm : lm = ms.length := by obtain ⟨g, c', e⟩ := ownsRow_form h.rm.row; rw [hvm] at e; cases e; rfl
 have hln : ln = l.length := by obtain ⟨g, c', e⟩ := ownsRow_form h.rn; rw [hvn] at e; cases e; rfl
 have t1 := F1.out.keep _ _ h.top trivial
 have y0 : W1.cell? ⟨G, 0, none⟩ = some (.slice gn ln cn) := by rw [← hvn]; exact cell_mk t1 rfl
 have y1 : W1.cell? ⟨G, 1, none⟩ = some (.slice gm lm cm) := by rw [← hvm]; exact cell_mk t1 rfl
 subst h3
 subst hkj
 obtain ⟨gm2, off, cm2, hvm2, HCM⟩ := h.mcell j hj
 have HMC := Lib.hid HCM
 have hjI : (j : Int) < (lm : Int) := by omega
 have hjI' : ¬ (lm : Int) ≤ (j : Int) := by omega
 have h0' : ¬ (j : Int) < 0 := by omega
 obtain ⟨dst, hdst⟩ : ∃ x, ms[j].dst = x := ⟨_, rfl⟩
 have egm : gm = some ⟨gm2, off, none⟩ ∧ cm = cm2 := by rw [hvm] at hvm2; cases hvm2; exact ⟨rfl, rfl⟩
 obtain ⟨e1, e2⟩ := egm
 subst e1 e2
 have DS : Hid (∀ W, Fr (fun _ _ => True) w W → W.cell? ⟨gm2, off + j * 10 + 2, none⟩ = some (.int .i64 dst)) := fun W f => by rw [← hdst]; exact (HCM W f).2.2.1
 have YY : Hid (∀ W, Fr (fun _ _ => True) w W → W.cell? ⟨G, 0, none⟩ = some (.slice gn ln cn) ∧ W.cell? ⟨G, 1, none⟩ = some (.slice (some ⟨gm2, off, none⟩) lm cm)) := fun W f => ⟨by rw [← hvn]; exact cell_mk (f.keep _ _ h.top trivial) rfl, by rw [← hvm]; exact cell_mk (f.keep _ _ h.top trivial) rfl⟩
 obtain rfl : dst = (i : Nat) := by rw [← hdst]; exact hdi
 have hiI : (i : Int) < (ln : Int) := by omega
 have hiI' : ¬ (ln : Int) ≤ (i : Int) := by omega
 have hi0 : ¬ (i : Int) < 0 := by omega
 obtain ⟨gn2, cn2, hvn2, HNC⟩ := h.nrow (by omega)
 have egn : gn = some ⟨gn2, 0, none⟩ ∧ cn = cn2 := by rw [hvn] at hvn2; cases hvn2; exact ⟨rfl, rfl⟩
 obtain ⟨e3, e4⟩ := egn
 subst e3 e4
 obtain ⟨x, hx⟩ : ∃ x, l[i] = x := ⟨_, rfl⟩
 have hxl : x ∈ l := hx ▸ List.getElem_mem hi
 obtain ⟨qx, hqx⟩ := h.nd x hxl
 obtain ⟨b, hb⟩ : ∃ b, x.b = b := ⟨_, rfl⟩
 obtain ⟨ro, hro⟩ : ∃ y, x.n.role = y := ⟨_, rfl⟩
 obtain ⟨tm, htm⟩ : ∃ y, x.n.tm = y := ⟨_, rfl⟩
 obtain ⟨co, hco⟩ : ∃ y, x.n.commit = y := ⟨_, rfl⟩
 rw [hb] at hqx
 have XC : Hid (∀ W, Fr (fun _ _ => True) w W → W.cell? ⟨gn2, i, none⟩ = some (.pointer (some ⟨b, 0, none⟩)) ∧ W.cell? ⟨b, 2, none⟩ = some (.int .i64 ro) ∧ W.cell? ⟨b, 6, none⟩ = some (.int .u64 (tm : Nat)) ∧ W.cell? ⟨b, 7, none⟩ = some (.int .u64 (co : Nat))) := fun W f => by
  obtain ⟨x0, x1, x2, x3, x4, x5, x6, x7, x8, x9, x10, x11, x12, x13⟩ := hqx.cells f
  exact ⟨by rw [← hb, ← hx]; exact HNC i hi W f, by rw [x2, hro], by rw [x6, htm], by rw [x7, hco]⟩
 have HQX := Lib.hid hqx
 have HXX := Lib.hid (And.intro hx (And.intro hxl (And.intro hb (And.intro hro (And.intro htm hco)))))
 have HV := Lib.hid (And.intro hvm (And.intro hvn (And.intro hlm hln)))
 have HDJ := Lib.hid hdst
 clear h hl ok t1 hvm hvn hlm hln hvn2 HNC hx hxl hqx hb hro htm hco hdi hdst hvm2 HCM
 go_enter Tryz.func46, Tryz.ntmps46
 go_wp2_with fail
 try rw [hW1]
 clear hW1
 go_quiet (fail)
 have o0q : (W1.drewN nq).cell? ⟨w.heap.size, 0, none⟩ = some (.int .i64 3) := ((Fr.refl (fun _ _ => True) W1).drewN nq).cell (fun _ _ => trivial) o0
 have o1q : (W1.drewN nq).cell? ⟨w.heap.size, 1, none⟩ = some (.int .i64 (j : Nat)) := ((Fr.refl (fun _ _ => True) W1).drewN nq).cell (fun _ _ => trivial) o1
 have F1q := Lib.hid (F1.out.drewN nq)
 obtain ⟨W2, hW2⟩ : ∃ Y, W1.drewN nq = Y := ⟨_, rfl⟩
 rw [hW2] at o0q o1q F1q ⊢
 clear hW2 y0 y1 o0 o1
 obtain ⟨y0, y1⟩ := YY.out W2 F1q.out
 have ds := DS.out W2 F1q.out
 go_wp2_with fail
 go_quiet (fail)
 have o0 : (W2.drewN nq).cell? ⟨w.heap.size, 0, none⟩ = some (.int .i64 3) := ((Fr.refl (fun _ _ => True) W2).drewN nq).cell (fun _ _ => trivial) o0q
 have o1 : (W2.drewN nq).cell? ⟨w.heap.size, 1, none⟩ = some (.int .i64 (j : Nat)) := ((Fr.refl (fun _ _ => True) W2).drewN nq).cell (fun _ _ => trivial) o1q
 have F3 := Lib.hid (F1q.out.drewN nq)
 obtain ⟨W3, hW3⟩ : ∃ Y, W2.drewN nq = Y := ⟨_, rfl⟩
 rw [hW3] at o0 o1 F3 ⊢
 clear hW3 y0 y1 o0q o1q ds
 obtain ⟨y0, y1⟩ := YY.out W3 F3.out
 obtain ⟨xp, x2, x6, x7⟩ := XC.out W3 F3.out
 obtain ⟨led, hled⟩ : ∃ x, (ro == 3) = x := ⟨_, rfl⟩
 go_upto_region 11 with fail
 try rw [hled]
 have HLED := Lib.hid hled
 clear hled
 rename_i K1 h1 K0 h0
 have TAIL : ∀ (u1 u2 u3 u4 u10 u11 u12 u13 u14 u15 u16 u17 u18 u19 u20 u21 u22 u23 u24 u25 u26 u27 u28 u29 u30 u31 u32 u33 u34 u35 u36 u37 u38 u39 u40 u41 u42 u43 u44 u45 u46 u47 u48 u49 u50 u51 u52 u53 u54 u55 u56 u57 u58 u59 u60 u61 u62 u63 u64 u65 u66 u67 u68 u69 u70 u71 u72 u73 u74 u75 u76 u77 u78 u79 u80 u81 u82 u83 u84 u85 u86 u87 u88 u89 u90 u91 u92 u93 u94 u95 u96 u97 u98 u99 u100 u101 u102 u103 u104 u105 u106 u107 u108 u109 u110 u111 u112 u113 u114 u115 u116 u117 u118 u119 u120 u121 u122 u123 u124 u125 u126 u127 u128 u129 u130 u131 u132 u133 u134 u135 u136 u137 u138 u139 u140 u141 u142 u143 u144 u145 u146 u147 u148 u149 u150 u151 u152 u153 u154 u155 u156 u157 u158 u159 u160 u161 u162 u163 u164 u165 u166 u167 u168 u169 u170 u171 u172 u173 u174 u175 u176 u177 u178 u179 u180 u181 u182 u183 u184 u185 u186 u187 u188 u189 u190 u191 u192 u193 u194 u195 u196 u197 u198 u199 u200 u201 u202 u203 u204 u205 u206 u207 u208 u209 u210 u211 u212 u213 u214 u215 u216 u217 u218 u219 u220 u221 : Value) (v9 : Value) (wx : World) (X' P' : Nat → Prop) (r : Nd × List Ms) (many' : Int) (mvs : List MV), Mid B0 w G l ms many c i b (opR (l.map (·.n)) (ms.map MV.ms) 3 (j : Nat) i (by rw [List.length_map]; exact hi)) B v9 wx X' P' r many' mvs → K1 { tmps := #[.pointer (some ⟨G, 0, none⟩), u1, u2, u3, u4, .pointer (some ⟨b, 0, none⟩), .bool led, .int .u64 (tm : Nat), .int .u64 (co : Nat), v9, u10, u11, u12, u13, u14, u15, u16, u17, u18, u19, u20, u21, u22, u23, u24, u25, u26, u27, u28, u29, u30, u31, u32, u33, u34, u35, u36, u37, u38, u39, u40, u41, u42, u43, u44, u45, u46, u47, u48, u49, u50, u51, u52, u53, u54, u55, u56, u57, u58, u59, u60, u61, u62, u63, u64, u65, u66, u67, u68, u69, u70, u71, u72, u73, u74, u75, u76, u77, u78, u79, u80, u81, u82, u83, u84, u85, u86, u87, u88, u89, u90, u91, u92, u93, u94, u95, u96, u97, u98, u99, u100, u101, u102, u103, u104, u105, u106, u107, u108, u109, u110, u111, u112, u113, u114, u115, u116, u117, u118, u119, u120, u121, u122, u123, u124, u125, u126, u127, u128, u129, u130, u131, u132, u133, u134, u135, u136, u137, u138, u139, u140, u141, u142, u143, u144, u145, u146, u147, u148, u149, u150, u151, u152, u153, u154, u155, u156, u157, u158, u159, u160, u161, u162, u163, u164, u165, u166, u167, u168, u169, u170, u171, u172, u173, u174, u175, u176, u177, u178, u179, u180, u181, u182, u183, u184, u185, u186, u187, u188, u189, u190, u191, u192, u193, u194, u195, u196, u197, u198, u199, u200, u201, u202, u203, u204, u205, u206, u207, u208, u209, u210, u211, u212, u213, u214, u215, u216, u217, u218, u219, u220, u221], defers := [] } wx := by
  intros; rename_i v9 wx X' P' r many' mvs M
  exact h1 _ _ (by apply pl12_tail1 M.grp i (by rw [List.length_set]; exact hi) b r.1 P' (by rw [List.getElem_set_self]) B0 M.low B OK.out.b M.bn co tm (by have := (OK.out.gd _ HXX.out.2.1).bn.commit; have := HXX.out.2.2.2.2.2; omega) led (fun hr => by have e := opR_same3 M.op (fun hj' => by rw [List.getElem_map]; exact HK56.out) hr; rw [List.getElem_map, HXX.out.1] at e; exact ⟨by rw [← HLED.out, ← HXX.out.2.2.2.1, e.1]; rfl, e.2.trans HXX.out.2.2.2.2.1⟩) (by have := OK.out.nn; omega) v9 mvs M.ow M.len OK.out.lm (fun ms' c' W g1 g2 g3 g4 g5 => M.out g1 g2 (by rw [g3, M.eq]) g4 (M.fr.trans g5)))
 clear h1
 have GD := OK.out.gd _ HXX.out.2.1
 obtain ⟨mN, hme, hm16⟩ := GD.me
 have gl := GD.bn.last
 have gt := GD.bn.tm
 have ge := GD.es
 have gc := GD.cf
 have hB7 := OK.out.b
 have P3 : PNs X x.P W3 b x.n qx := HQX.out.tt F3.out
 have EN : Hid ((l.map (·.n))[i]'(by rw [List.length_map]; exact hi) = x.n) := by show _ = _; rw [List.getElem_map, HXX.out.1]
 obtain ⟨mj, hmj⟩ : ∃ x, ms[j] = x := ⟨_, rfl⟩
 have MJ := Lib.hid hmj
 have hmm : mj ∈ ms := hmj ▸ List.getElem_mem hj
 have HMJ : Hid (∀ W, Fr (fun _ _ => True) w W → (W.cell? ⟨gm2, off + j * 10, none⟩ = some (.int .i64 mj.kind) ∧ W.cell? ⟨gm2, off + j * 10 + 1, none⟩ = some (.int .i64 mj.src) ∧ W.cell? ⟨gm2, off + j * 10 + 2, none⟩ = some (.int .i64 mj.dst) ∧ W.cell? ⟨gm2, off + j * 10 + 3, none⟩ = some (.int .u64 (mj.tm : Nat)) ∧ W.cell? ⟨gm2, off + j * 10 + 4, none⟩ = some (.int .u64 (mj.index : Nat)) ∧ W.cell? ⟨gm2, off + j * 10 + 5, none⟩ = some (.int .u64 (mj.prev : Nat)) ∧ W.cell? ⟨gm2, off + j * 10 + 6, none⟩ = some (.int .u64 (mj.commit : Nat)) ∧ W.cell? ⟨gm2, off + j * 10 + 7, none⟩ = some (.bool mj.ok) ∧ W.cell? ⟨gm2, off + j * 10 + 8, none⟩ = some (.slice mj.da mj.d.length mj.dc) ∧ W.cell? ⟨gm2, off + j * 10 + 9, none⟩ = some (.slice mj.ea mj.es.length mj.ec))) := by
  have := HMC.out
  rw [hmj] at this
  exact this
 have O1 : Hid (∀ W, Fr (fun _ _ => True) W3 W → W.cell? ⟨w.heap.size, 1, none⟩ = some (.int .i64 (j : Nat))) := fun W f => f.cell (fun _ _ => trivial) o1
 have HC : Hid (∀ W, Fr (fun _ _ => True) W3 W → Calls Tryz.prog 99 #[.pointer (some ⟨b, 0, none⟩), .agg (cM mj)] W fun e w' => NOut X x.P W b (x.n.hear mj.ms) e w') := fun W f => by
  have hh := HRH.out W qx
  rw [HXX.out.1, hmj, HXX.out.2.2.1] at hh
  exact hh (P3.tt f) ((H.out.rm.at' mj hmm).tt (F3.out.trans f))
 have BN : Hid (Bn (B + 2) (x.n.hear mj.ms).1) := (Nd.hear_b GD.bn (OK.out.bm _ hmm)).1
 have LN : Hid ((x.n.hear mj.ms).2.length ≤ 100) := Nat.le_trans (Nd.hear_len _ _) (by omega)
 have OP : Hid (opR (l.map (·.n)) (ms.map MV.ms) 3 (j : Nat) i (by rw [List.length_map]; exact hi) (x.n.hear mj.ms)) := by
  show opR _ _ _ _ _ _ _
  exact .inr (.inr (.inl ⟨rfl, j, by rw [List.length_map]; exact hj, rfl, by rw [List.getElem_map]; exact HDJ.out, by rw [EN.out, List.getElem_map, hmj]⟩))
 have UD : Hid (Fr (fun _ _ => True) W3 W3.drew) := (Fr.refl _ _).drew
 clear P3 GD hme gl gt ge gc hB7 hmj hmm o1 y0 y1 HMC
 go_wp2_with fail
 refine wp_region_cf (K := fun _ _ => True) (by kernel_rfl) [(83, 0), (84, 1), (85, 2), (86, 3), (87, 4), (88, 5), (89, 6), (90, 7), (91, 8), (92, 9), (9, 10)] [(0, []), (1, []), (2, [1]), (3, [2]), (4, [3]), (5, []), (6, [5]), (7, [4, 6]), (8, [7])] (ckR [(0, .pointer (some ⟨b, 0, none⟩)), (1, .pointer (some ⟨G, 0, none⟩)), (2, .pointer (some ⟨G, 0, none⟩)), (3, .pointer (some ⟨G, 1, none⟩)), (4, .slice (some ⟨gm2, off, none⟩) lm cm), (5, .pointer (some ⟨w.heap.size, 1, none⟩)), (6, .int .i64 (j : Nat)), (7, .pointer (some ⟨gm2, off + j * 10, none⟩)), (8, .agg (cM mj))] [] 9 0) 2 (by kernel_rfl) (by kernel_rfl) (by kernel_rfl) rfl ?cfall ?cfend
 case cfall =>
  iterate 9
   refine CfAll.kk rfl rfl rfl (fun xs W hF hE K' hK => ?_) ?_
   ·have HF := Lib.hid hF
    clear hF
    simp only [ckEqs, ckLook, Nat.reduceBEq] at hE
    simp only [fillA, fillL, sA, sB, sC, Act.put, hE] at hK ⊢
    clear hE
    obtain ⟨-, yv⟩ := YY.out W (F3.out.trans (UD.out.trans HF.out))
    have o1w := O1.out W (UD.out.trans HF.out)
    obtain ⟨c0, c1, c2, c3, c4, c5, c6, c7, c8, c9⟩ := HMJ.out W (F3.out.trans (UD.out.trans HF.out))
    (try simp only [gA, gB, gC])
    go_simp
    exact hK.out _ rfl
  exact CfAll.nil
 case cfend =>
  intro xs W hF hA
  have HF := Lib.hid hF
  have hE := ckEnd rfl hA
  clear hA hF
  simp only [List.map_cons, List.map_nil, ckEqs, ckLook, Nat.reduceBEq] at hE
  simp only [fillA, fillL, sA, sB, sC, hE]
  clear hE
  have HC1 := Lib.hid (HC.out W (UD.out.trans HF.out))
  refine wpAny_next 9 (by kernel_rfl) rfl fun K' hK => ?_
  (try simp only [List.getElem_toArray, List.getElem_cons_zero, List.getElem_cons_succ])
  go_simp
  (with_reducible refine HC1.out.mono ?_)
  intro e W4 hout
  obtain ⟨X4, P4, q4, v, mvs, rfl, p4, a4, o4, e4⟩ := hout
  have MD := Lib.hid (mid_mk (B := B) H.out (F3.out.trans (UD.out.trans HF.out)) hi HXX.out.1 HL.out ⟨q4, by rw [HXX.out.2.2.1]; exact p4⟩ a4 (own_lo o4) e4 OP.out (len_ms e4 LN.out) BN.out)
  rw [HXX.out.2.2.1] at MD
  clear p4 a4 o4 e4 HC1
  refine hK.out _ _ ?_
  clear hK K'
  refine wpAny_next 10 (by kernel_rfl) rfl fun K' hK => ?_
  (try simp only [gA, gB, gC])
  go_simp
  refine hK.out _ _ ?_
  clear hK K'
  refine wpAny_fin (by kernel_rfl) ?_
  go_wp2
  (apply TAIL; exact MD.out)
end
end Go.Proofs.YtmjccpfchhnfhaaGreat
