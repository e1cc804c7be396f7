/- Texts of the proofs, part 38: what the functions that they reach do, walked; no conditions beyond those that each states. -/
import Derived.Test.YtmjccpfchhnfhaaZz3938c7f660
set_option linter.unusedVariables false
set_option linter.unusedSimpArgs false
/- Law 12: play, the appends of terms and logs (printed by play12b.py). -/
namespace Go.Proofs.Ytmjccpfchhnfhaa
open Go.RowKit
set_option linter.unusedVariables false
set_option linter.unusedSimpArgs false

section
variable {X : Nat → Prop} {wd : World} {G : Nat} {L : List Nx} {ms : List MV} {many : Int} {c : GV}
set_option maxRecDepth 100000 in
set_option maxHeartbeats 8000000 in
theorem pl12_app {R : Ending → World → Prop} (h : Grp X wd G L ms many c) (i : Nat) (hi : i < L.length) (b : Nat) (n : Nd) (P : Nat → Prop) (hLi : L[i] = ⟨b, n, P⟩) (B0 : Nat → Prop) (hl : Low B0 X G c) (B : Nat) (hB : B ≤ 700000) (hbn : Bn (B + 2) n) (co tm : Nat) (hco : co ≤ B) (led : Bool) (hn : c.ns ≤ 850000 ∧ c.nt ≤ 850000 ∧ c.nl ≤ 850000) 
    (fin : ∀ c' W, Grp X W G L ms many c' → Low B0 X G c' → (c'.ns ≤ c.ns + 200 ∧ c'.nt ≤ c.nt + 1 ∧ c'.nl ≤ c.nl + 1) → Fr (fun q _ => B0 q) wd W → R (.returned (.tuple #[])) W)
    (u1 u2 u3 u4 u10 u11 u12 u13 u14 u15 u16 u17 u18 u19 u20 u21 u22 u23 u24 u25 u26 u27 u28 u29 u30 u31 u32 u33 u34 u35 u36 u37 u38 u39 u40 u41 u42 u43 u44 u45 u46 u47 u48 u49 u50 u51 u52 u53 u54 u55 u56 u57 u58 u59 u60 u61 u62 u63 u64 u65 u66 u67 u68 u69 u70 u71 u72 u73 u74 u75 u76 u77 u78 u79 u80 u81 u82 u83 u84 u85 u86 u87 u88 u89 u90 u91 u92 u93 u94 u95 u96 u97 u98 u99 u100 u101 u102 u103 u104 u105 u106 u107 u108 u109 u110 u111 u112 u113 u114 u115 u116 u117 u118 u119 u120 u121 u122 u123 u124 u125 u126 u127 u128 u129 u130 u131 u132 u133 u134 u135 u136 u137 u138 u139 u140 u141 u142 u143 u144 u145 u146 u147 u148 u149 u150 u151 u152 u153 u154 u155 u156 u157 u158 u159 u160 u161 u162 u163 u164 u165 u166 u167 u168 u169 u170 u171 u172 u173 u174 u175 u176 u177 u178 u179 u180 u181 u182 u183 u184 u185 u186 u187 u188 u189 u190 u191 u192 u193 u194 u195 u196 u197 u198 u199 u200 u201 u202 u203 u204 u205 u206 u207 u208 u209 u210 u211 u212 u213 u214 u215 u216 u217 u218 u219 u220 u221 : Value) (v9 : Value) : Code.wp Try.prog (seqR 12 (bodyC Try.f7.body)) (bodyPost Try.prog Try.f7 R) { tmps := #[.pointer (some ⟨G, 0, none⟩), u1, u2, u3, u4, .pointer (some ⟨b, 0, none⟩), .bool led, .int .u64 (tm : Nat), .int .u64 (co : Nat), v9, u10, u11, u12, u13, u14, u15, u16, u17, u18, u19, u20, u21, u22, u23, u24, u25, u26, u27, u28, u29, u30, u31, u32, u33, u34, u35, u36, u37, u38, u39, u40, u41, u42, u43, u44, u45, u46, u47, u48, u49, u50, u51, u52, u53, u54, u55, u56, u57, u58, u59, u60, u61, u62, u63, u64, u65, u66, u67, u68, u69, u70, u71, u72, u73, u74, u75, u76, u77, u78, u79, u80, u81, u82, u83, u84, u85, u86, u87, u88, u89, u90, u91, u92, u93, u94, u95, u96, u97, u98, u99, u100, u101, u102, u103, u104, u105, u106, u107, u108, u109, u110, u111, u112, u113, u114, u115, u116, u117, u118, u119, u120, u121, u122, u123, u124, u125, u126, u127, u128, u129, u130, u131, u132, u133, u134, u135, u136, u137, u138, u139, u140, u141, u142, u143, u144, u145, u146, u147, u148, u149, u150, u151, u152, u153, u154, u155, u156, u157, u158, u159, u160, u161, u162, u163, u164, u165, u166, u167, u168, u169, u170, u171, u172, u173, u174, u175, u176, u177, u178, u179, u180, u181, u182, u183, u184, u185, u186, u187, u188, u189, u190, u191, u192, u193, u194, u195, u196, u197, u198, u199, u200, u201, u202, u203, u204, u205, u206, u207, u208, u209, u210, u211, u212, u213, u214, u215, u216, u217, u218, u219, u220, u221], defers := [] } wd := by
  dsimp only [seqR, bodyC, Try.f7]
  have NQ0 := fun (c' : GV) (W : World) (hg : Grp X W G L ms many c') => hg.nodeQ hi hLi hbn
  obtain ⟨ro2, hro2⟩ : ∃ y, n.role = y := ⟨_, rfl⟩
  obtain ⟨tm2, htm2⟩ : ∃ y, n.tm = y := ⟨_, rfl⟩
  obtain ⟨co2, hco2⟩ : ∃ y, n.commit = y := ⟨_, rfl⟩
  obtain ⟨bs, hbs⟩ : ∃ y, n.log.base = y := ⟨_, rfl⟩
  obtain ⟨bt, hbt⟩ : ∃ y, n.log.bt = y := ⟨_, rfl⟩
  rw [hro2, htm2, hco2, hbs, hbt] at NQ0
  have NQ := Lib.hid NQ0
  have HG := Lib.hid h
  have HL := Lib.hid hl
  have HNN := Lib.hid hn
  have FIN := Lib.hid fin
  have HBN := Lib.hid hbn
  have HLI := Lib.hid hLi
  obtain ⟨ae, le, ce, es0, hbl, NC0⟩ := NQ0 c wd h
  obtain ⟨⟨x2, x6, x7, x8, x9, x10⟩, -⟩ := NC0 wd (Fr.refl _ _)
  have HG2 := HG
  have HL2 := HL
  have HF2 : Hid (Fr (fun q _ => B0 q) wd wd) := Fr.refl _ _
  clear h hl hn fin NQ0 hro2 htm2 hco2 hbs hbt NC0
  go_upto_region 28 with fail
  rename_i K3 h3 K2 h2
  have TAIL2 : ∀ (u1 u2 u3 u4 u10 u11 u12 u13 u14 u15 u16 u17 u18 u19 u20 u21 u22 u23 u24 u25 u26 u27 u28 u29 u30 u31 u32 u33 u34 u35 u36 u37 u38 u39 u40 u41 u42 u43 u44 u45 u46 u47 u48 u49 u50 u51 u52 u53 u54 u55 u56 u57 u58 u59 u60 u61 u62 u63 u64 u65 u66 u67 u68 u69 u70 u71 u72 u73 u74 u75 u76 u77 u78 u79 u80 u81 u82 u83 u84 u85 u86 u87 u88 u89 u90 u91 u92 u93 u94 u95 u96 u97 u98 u99 u100 u101 u102 u103 u104 u105 u106 u107 u108 u109 u110 u111 u112 u113 u114 u115 u116 u117 u118 u119 u120 u121 u122 u123 u124 u125 u126 u127 u128 u129 u130 u131 u132 u133 u134 u135 u136 u137 u138 u139 u140 u141 u142 u143 u144 u145 u146 u147 u148 u149 u150 u151 u152 u153 u154 u155 u156 u157 u158 u159 u160 u161 u162 u163 u164 u165 u166 u167 u168 u169 u170 u171 u172 u173 u174 u175 u176 u177 u178 u179 u180 u181 u182 u183 u184 u185 u186 u187 u188 u189 u190 u191 u192 u193 u194 u195 u196 u197 u198 u199 u200 u201 u202 u203 u204 u205 u206 u207 u208 u209 u210 u211 u212 u213 u214 u215 u216 u217 u218 u219 u220 u221 : Value) (v9 : Value) (we : World) (c2 : GV), Hid (Grp X we G L ms many c2) → Hid (Low B0 X G c2) → Hid (c2.ns = c.ns ∧ c2.nt ≤ c.nt + 1 ∧ c2.nl ≤ c.nl + 1) → Hid (Fr (fun q _ => B0 q) wd we) → K3 { tmps := #[.pointer (some ⟨G, 0, none⟩), u1, u2, u3, u4, .pointer (some ⟨b, 0, none⟩), .bool led, .int .u64 (tm : Nat), .int .u64 (co : Nat), v9, u10, u11, u12, u13, u14, u15, u16, u17, u18, u19, u20, u21, u22, u23, u24, u25, u26, u27, u28, u29, u30, u31, u32, u33, u34, u35, u36, u37, u38, u39, u40, u41, u42, u43, u44, u45, u46, u47, u48, u49, u50, u51, u52, u53, u54, u55, u56, u57, u58, u59, u60, u61, u62, u63, u64, u65, u66, u67, u68, u69, u70, u71, u72, u73, u74, u75, u76, u77, u78, u79, u80, u81, u82, u83, u84, u85, u86, u87, u88, u89, u90, u91, u92, u93, u94, u95, u96, u97, u98, u99, u100, u101, u102, u103, u104, u105, u106, u107, u108, u109, u110, u111, u112, u113, u114, u115, u116, u117, u118, u119, u120, u121, u122, u123, u124, u125, u126, u127, u128, u129, u130, u131, u132, u133, u134, u135, u136, u137, u138, u139, u140, u141, u142, u143, u144, u145, u146, u147, u148, u149, u150, u151, u152, u153, u154, u155, u156, u157, u158, u159, u160, u161, u162, u163, u164, u165, u166, u167, u168, u169, u170, u171, u172, u173, u174, u175, u176, u177, u178, u179, u180, u181, u182, u183, u184, u185, u186, u187, u188, u189, u190, u191, u192, u193, u194, u195, u196, u197, u198, u199, u200, u201, u202, u203, u204, u205, u206, u207, u208, u209, u210, u211, u212, u213, u214, u215, u216, u217, u218, u219, u220, u221], defers := [] } we := by
    intro u1 u2 u3 u4 u10 u11 u12 u13 u14 u15 u16 u17 u18 u19 u20 u21 u22 u23 u24 u25 u26 u27 u28 u29 u30 u31 u32 u33 u34 u35 u36 u37 u38 u39 u40 u41 u42 u43 u44 u45 u46 u47 u48 u49 u50 u51 u52 u53 u54 u55 u56 u57 u58 u59 u60 u61 u62 u63 u64 u65 u66 u67 u68 u69 u70 u71 u72 u73 u74 u75 u76 u77 u78 u79 u80 u81 u82 u83 u84 u85 u86 u87 u88 u89 u90 u91 u92 u93 u94 u95 u96 u97 u98 u99 u100 u101 u102 u103 u104 u105 u106 u107 u108 u109 u110 u111 u112 u113 u114 u115 u116 u117 u118 u119 u120 u121 u122 u123 u124 u125 u126 u127 u128 u129 u130 u131 u132 u133 u134 u135 u136 u137 u138 u139 u140 u141 u142 u143 u144 u145 u146 u147 u148 u149 u150 u151 u152 u153 u154 u155 u156 u157 u158 u159 u160 u161 u162 u163 u164 u165 u166 u167 u168 u169 u170 u171 u172 u173 u174 u175 u176 u177 u178 u179 u180 u181 u182 u183 u184 u185 u186 u187 u188 u189 u190 u191 u192 u193 u194 u195 u196 u197 u198 u199 u200 u201 u202 u203 u204 u205 u206 u207 u208 u209 u210 u211 u212 u213 u214 u215 u216 u217 u218 u219 u220 u221 v9 we c2 G2 L2 C2 F2
    exact h3 _ _ (pl12_loop G2.out i hi b n P hLi B0 L2.out B hB hbn co tm hco led (by have := HNN.out; have := C2.out; omega) (fun c' W g1 g2 g3 g4 => FIN.out c' W g1 g2 (by have := C2.out; omega) (F2.out.trans g4)) _ _ _ _ _ _ _ _ _ _ _ _ _ _ _ _ _ _ _ _ _ _ _ _ _ _ _ _ _ _ _ _ _ _ _ _ _ _ _ _ _ _ _ _ _ _ _ _ _ _ _ _ _ _ _ _ _ _ _ _ _ _ _ _ _ _ _ _ _ _ _ _ _ _ _ _ _ _ _ _ _ _ _ _ _ _ _ _ _ _ _ _ _ _ _ _ _ _ _ _ _ _ _ _ _ _ _ _ _ _ _ _ _ _ _ _ _ _ _ _ _ _ _ _ _ _ _ _ _ _ _ _ _ _ _ _ _ _ _ _ _ _ _ _ _ _ _ _ _ _ _ _ _ _ _ _ _ _ _ _ _ _ _ _ _ _ _ _ _ _ _ _ _ _ _ _ _ _ _ _ _ _ _ _ _ _ _ _ _ _ _ _ _ _ _ _ _ _ _ _ _ _ _ _ _ _ _ _ _ _ _ _ _ _ _ _ _)
  clear h3
  clear hbn hLi
  cases led with
  | true =>
    by_cases he : tm = tm2
    · subst he
      have g4 : ((tm : Int) == (tm : Int)) = true := by simp
      have g5 : ((tm : Int) != (tm : Int)) = false := by simp
      go_wp2
      exact TAIL2 _ _ _ _ _ _ _ _ _ _ _ _ _ _ _ _ _ _ _ _ _ _ _ _ _ _ _ _ _ _ _ _ _ _ _ _ _ _ _ _ _ _ _ _ _ _ _ _ _ _ _ _ _ _ _ _ _ _ _ _ _ _ _ _ _ _ _ _ _ _ _ _ _ _ _ _ _ _ _ _ _ _ _ _ _ _ _ _ _ _ _ _ _ _ _ _ _ _ _ _ _ _ _ _ _ _ _ _ _ _ _ _ _ _ _ _ _ _ _ _ _ _ _ _ _ _ _ _ _ _ _ _ _ _ _ _ _ _ _ _ _ _ _ _ _ _ _ _ _ _ _ _ _ _ _ _ _ _ _ _ _ _ _ _ _ _ _ _ _ _ _ _ _ _ _ _ _ _ _ _ _ _ _ _ _ _ _ _ _ _ _ _ _ _ _ _ _ _ _ _ _ _ _ _ _ _ _ _ _ _ _ _ _ _ _ _ _ _ c HG2 HL2 ⟨rfl, by omega, by omega⟩ HF2
    · have g4 : ((tm : Int) == (tm2 : Int)) = false := by simp; omega
      have g5 : ((tm : Int) != (tm2 : Int)) = true := by rw [bne, g4]; rfl
      clear he
      obtain ⟨gs1, ls1, cs1, hvs⟩ : ∃ g l z, c.vt = .slice g l z := by obtain ⟨xs, h9⟩ := HG2.out.rt; obtain ⟨g, z, e⟩ := ownsRow_form h9; exact ⟨g, _, z, e⟩
      obtain ⟨xs1, hsur⟩ := HG2.out.rt
      have hls : ls1 = c.nt := by obtain ⟨g, z, e⟩ := ownsRow_form hsur; rw [hvs, Value.slice.injEq] at e; exact e.2.1
      rw [hvs, ← hls] at hsur
      have HSU1 := Lib.hid hsur
      have HVS1 := Lib.hid (And.intro hvs hls)
      obtain ⟨lN1, hlN⟩ : ∃ x, ls1 + 1 = x := ⟨_, rfl⟩
      have HLN1 := Lib.hid hlN
      have hlN9 : lN1 ≤ 1000000 := by have := HNN.out; have e9 : ls1 = c.nt := hls; omega
      clear hvs hls hlN hsur
      have UD1 : Hid (Fr (fun _ _ => True) wd wd.drew) := (Fr.refl _ _).drew
      obtain ⟨ae1, le1, ce1, es1, hbl1, NC10⟩ := NQ.out _ wd HG2.out
      have NC1 := Lib.hid NC10
      clear NC10
      have SC1 : Hid (∀ W, Fr (fun _ _ => True) wd W → W.cell? ⟨G, 3, none⟩ = some (.slice gs1 ls1 cs1)) := fun W f => by rw [← HVS1.out.1]; exact cell_mk (f.keep _ _ HG2.out.top trivial) rfl
      go_wp2_with fail
      refine wp_region_cf1 (K := fun _ _ => True) (vt := .pointer (some ⟨G, 0, none⟩)) 0 rfl (by kernel_rfl) (by kernel_rfl) (by kernel_rfl) (fun _ _ _ h => h) (Or.inl ⟨by rfl, ?cfy⟩) (by kernel_rfl) [(152, 0), (153, 1), (154, 2), (155, 3), (156, 4), (157, 5), (158, 6), (159, 7), (160, 8), (161, 9), (162, 10), (163, 11), (164, 12)] [(0, []), (1, []), (2, [1]), (3, [2]), (4, [3]), (5, []), (6, [5]), (7, [6]), (8, [7]), (9, [8])] (ckR [(0, .pointer (some ⟨G, 0, none⟩)), (1, .pointer (some ⟨G, 0, none⟩)), (2, .pointer (some ⟨G, 0, none⟩)), (3, .pointer (some ⟨G, 3, none⟩)), (4, .slice gs1 ls1 cs1), (5, .pointer (some ⟨b, 0, none⟩)), (6, .pointer (some ⟨b, 0, none⟩)), (7, .pointer (some ⟨b, 6, none⟩)), (8, .int .u64 (tm2 : Nat))] [(9, ⟨fun v W => ∃ gx, v = .slice (some ⟨gx, 0, none⟩) 1 1 ∧ W.heap[gx]? = some (.cells [.int .u64 (tm2 : Nat)].toArray 34 (0, 0)), fun v W W' h hf => by obtain ⟨gx, h1, h2⟩ := h; exact ⟨gx, h1, hf.keep _ _ h2 trivial⟩⟩)] 10 0) 4 (by kernel_rfl) (by kernel_rfl) (by kernel_rfl) rfl (fun _ => rfl) (by rfl) 152 rfl (by simp) ?cfall ?cfend
      case cfy => (intro w; (try simp only [gA, gB, gC]); go_simp)
      case cfall =>
        iterate 9
          refine CfAll.kk rfl rfl rfl (fun xs W hF hE K' hK => ?_) ?_
          · have HF' := Lib.hid hF
            clear hF
            simp only [ckEqs, ckLook, Nat.reduceBEq] at hE
            simp only [fillA, fillL, sA, sB, sC, Act.put, hE] at hK ⊢
            clear hE
            have yG := SC1.out W (UD1.out.trans HF'.out)
            obtain ⟨⟨x2, x6, x7, x8, x9, x10⟩, -⟩ := NC1.out W (UD1.out.trans HF'.out)
            (try simp only [gA, gB, gC])
            go_simp
            exact hK.out _ rfl
        refine CfAll.k rfl rfl (fun xs W hF hA hE K' hK => ?_) ?_
        · have HF' := Lib.hid hF
          clear hA hF
          simp only [ckEqs, ckLook, Nat.reduceBEq] at hE
          simp only [fillA, fillL, sA, sB, sC, Act.put, hE] at hK ⊢
          clear hE
          (try simp only [gA, gB, gC])
          go_simp
          exact hK.out _ _ _ rfl ((Fr.refl _ _).alloc _) ⟨_, rfl, heap_alloc_new _ _⟩
        exact CfAll.nil
      case cfend =>
        intro xs W hF hA
        have HF' := Lib.hid hF
        have hE := ckEnd rfl hA
        have h9 := hA (9, [8]) (by decide)
        clear hA hF
        simp only [List.map_cons, List.map_nil, ckEqs, ckLook, Nat.reduceBEq] at hE
        simp only [fillA, fillL, sA, sB, sC, hE]
        clear hE
        obtain ⟨gx, e9, tx⟩ := h9
        rw [e9]
        have TX := Lib.hid tx
        have FX := Lib.hid (UD1.out.trans HF'.out)
        have GX := Lib.hid (HG2.out.tt FX.out)
        have OWX : Hid (W.ownsRow 0 34 1 (.slice gs1 ls1 cs1) ls1 xs1) := ownsRow_fr HSU1.out FX.out fun _ _ _ _ => trivial
        have hgG : (Value.slice gs1 ls1 cs1).ownBlock ≠ some G := fun e => by
          obtain ⟨cur, h8⟩ := own_tag OWX.out e
          rw [GX.out.top] at h8
          cases h8
        clear tx e9 UD1 SC1
        refine wpAny_next 10 (by kernel_rfl) rfl fun K' hK => ?_
        (try simp only [List.getElem_toArray, List.getElem_cons_zero, List.getElem_cons_succ])
        refine (iteInduction (motive := fun t => t) (fun _ => ?_) (fun hn => absurd rfl hn))
        with_reducible refine step_append_u64 (K := fun a w => K' a w) W (.tmp 156) (.tmp 161) ?h1 (.slice gs1 ls1 cs1) ls1 xs1 ?h2 OWX gx [.int .u64 (tm2 : Nat)] ?h3 TX rfl (one_u64 _) lN1 HLN1 hlN9 ?_
        case h1 => rfl
        case h2 => (simp [Act.eval, Act.put, fillA, fillL]; done)
        case h3 => (simp [Act.eval, Act.put, fillA, fillL]; done)
        intro gy1 cy1 Wy OY FY NY
        refine hK.out _ _ ?_
        clear hK K'
        have TY := FY.out.keep _ _ GX.out.top hgG
        have y5 : Wy.cell? ⟨G, 3, none⟩ = some (.slice gs1 ls1 cs1) := by rw [← HVS1.out.1]; exact cell_mk TY rfl
        have z5 := frozen_mk (i := 3) TY
        obtain ⟨Wt, hWz⟩ : ∃ Y, Wy.setCell ⟨G, 3, none⟩ (.slice gy1 lN1 cy1) = Y := ⟨_, rfl⟩
        obtain ⟨GZ0, FZ0, LZ0⟩ := GX.out.terms OY.out (by rw [HVS1.out.1]; exact FY.out) (by rw [HVS1.out.1]; exact NY.out) hWz
        have GT := Lib.hid GZ0
        have hB0 : ∀ q, B0 q → q < W.heap.size := fun q hq => Nat.lt_of_lt_of_le (HL2.out.b q hq) GX.out.sz
        have LT := Lib.hid (LZ0 B0 HL2.out hB0)
        have FT : Hid (Fr (fun q _ => B0 q) wd Wt) := (HF2.out.trans (FX.out.mono fun _ _ _ => trivial)).trans (FZ0.mono fun q _ h => ⟨fun e => HL2.out.g (e ▸ h), fun e => HL2.out.t q e h⟩)
        clear GZ0 FZ0 LZ0 TY OY FY NY hgG
        refine wpAny_next 11 (by kernel_rfl) rfl fun K' hK => ?_
        (try simp only [gA, gB, gC])
        go_simp
        refine hK.out _ _ ?_
        clear hK K'
        refine wpAny_next 12 (by kernel_rfl) rfl fun K' hK => ?_
        (try simp only [gA, gB, gC])
        go_simp
        refine hK.out _ _ ?_
        clear hK K'
        refine wpAny_next 13 (by kernel_rfl) rfl fun K' hK => ?_
        (try simp only [gA, gB, gC])
        go_simp
        refine hK.out _ _ ?_
        clear hK K'
        refine wpAny_fin (by kernel_rfl) ?_
        try rw [hWz]
        clear hWz y5 z5 hlN9
        obtain ⟨Wq1, hWq⟩ : ∃ Y, W = Y := ⟨_, rfl⟩
        rw [hWq] at HF' FX GX OWX TX
        clear hWq
        obtain ⟨gs2, ls2, cs2, hvs⟩ : ∃ g l z, (({ c with vt := .slice gy1 lN1 cy1, nt := lN1 } : GV)).vl = .slice g l z := by obtain ⟨xs, h9⟩ := GT.out.rl; obtain ⟨g, z, e⟩ := ownsRow_form h9; exact ⟨g, _, z, e⟩
        obtain ⟨xs2, hsur⟩ := GT.out.rl
        have hls : ls2 = (({ c with vt := .slice gy1 lN1 cy1, nt := lN1 } : GV)).nl := by obtain ⟨g, z, e⟩ := ownsRow_form hsur; rw [hvs, Value.slice.injEq] at e; exact e.2.1
        rw [hvs, ← hls] at hsur
        have HSU2 := Lib.hid hsur
        have HVS2 := Lib.hid (And.intro hvs hls)
        obtain ⟨lN2, hlN⟩ : ∃ x, ls2 + 1 = x := ⟨_, rfl⟩
        have HLN2 := Lib.hid hlN
        have hlN9 : lN2 ≤ 1000000 := by have := HNN.out; have e9 : ls2 = c.nl := hls; omega
        clear hvs hls hlN hsur
        have UD2 : Hid (Fr (fun _ _ => True) Wt Wt.drew) := (Fr.refl _ _).drew
        obtain ⟨ae2, le2, ce2, es2, hbl2, NC20⟩ := NQ.out _ Wt GT.out
        have NC2 := Lib.hid NC20
        clear NC20
        have SC2 : Hid (∀ W, Fr (fun _ _ => True) Wt W → W.cell? ⟨G, 4, none⟩ = some (.slice gs2 ls2 cs2)) := fun W f => by rw [← HVS2.out.1]; exact cell_mk (f.keep _ _ GT.out.top trivial) rfl
        go_wp2_with fail
        refine wp_region_cf1 (K := fun _ _ => True) (vt := .pointer (some ⟨G, 0, none⟩)) 0 rfl (by kernel_rfl) (by kernel_rfl) (by kernel_rfl) (fun _ _ _ h => h) (Or.inl ⟨by rfl, ?cfy⟩) (by kernel_rfl) [(165, 0), (166, 1), (167, 2), (168, 3), (169, 4), (170, 5), (171, 6), (172, 7), (173, 8), (174, 9), (175, 10), (176, 11), (177, 12)] [(0, []), (1, []), (2, [1]), (3, [2]), (4, [3]), (5, []), (6, [5]), (7, [6]), (8, [7]), (9, [8])] (ckR [(0, .pointer (some ⟨G, 0, none⟩)), (1, .pointer (some ⟨G, 0, none⟩)), (2, .pointer (some ⟨G, 0, none⟩)), (3, .pointer (some ⟨G, 4, none⟩)), (4, .slice gs2 ls2 cs2), (5, .pointer (some ⟨b, 0, none⟩)), (6, .pointer (some ⟨b, 0, none⟩)), (7, .pointer (some ⟨b, 8, none⟩)), (8, .agg #[.int .u64 (bs : Nat), .int .u64 (bt : Nat), .slice ae2 le2 ce2])] [(9, ⟨fun v W => ∃ gx, v = .slice (some ⟨gx, 0, none⟩) 1 1 ∧ W.heap[gx]? = some (.cells [.int .u64 (bs : Nat), .int .u64 (bt : Nat), .slice ae2 le2 ce2].toArray 37 (0, 0)), fun v W W' h hf => by obtain ⟨gx, h1, h2⟩ := h; exact ⟨gx, h1, hf.keep _ _ h2 trivial⟩⟩)] 10 0) 4 (by kernel_rfl) (by kernel_rfl) (by kernel_rfl) rfl (fun _ => rfl) (by rfl) 165 rfl (by simp) ?cfall ?cfend
        case cfy => (intro w; (try simp only [gA, gB, gC]); go_simp)
        case cfall =>
          iterate 9
            refine CfAll.kk rfl rfl rfl (fun xs W hF hE K' hK => ?_) ?_
            · have HF' := Lib.hid hF
              clear hF
              simp only [ckEqs, ckLook, Nat.reduceBEq] at hE
              simp only [fillA, fillL, sA, sB, sC, Act.put, hE] at hK ⊢
              clear hE
              have yG := SC2.out W (UD2.out.trans HF'.out)
              obtain ⟨⟨x2, x6, x7, x8, x9, x10⟩, -⟩ := NC2.out W (UD2.out.trans HF'.out)
              (try simp only [gA, gB, gC])
              go_simp
              exact hK.out _ rfl
          refine CfAll.k rfl rfl (fun xs W hF hA hE K' hK => ?_) ?_
          · have HF' := Lib.hid hF
            clear hA hF
            simp only [ckEqs, ckLook, Nat.reduceBEq] at hE
            simp only [fillA, fillL, sA, sB, sC, Act.put, hE] at hK ⊢
            clear hE
            (try simp only [gA, gB, gC])
            go_simp
            exact hK.out _ _ _ rfl ((Fr.refl _ _).alloc _) ⟨_, rfl, heap_alloc_new _ _⟩
          exact CfAll.nil
        case cfend =>
          intro xs W hF hA
          have HF' := Lib.hid hF
          have hE := ckEnd rfl hA
          have h9 := hA (9, [8]) (by decide)
          clear hA hF
          simp only [List.map_cons, List.map_nil, ckEqs, ckLook, Nat.reduceBEq] at hE
          simp only [fillA, fillL, sA, sB, sC, hE]
          clear hE
          obtain ⟨gx, e9, tx⟩ := h9
          rw [e9]
          have TX := Lib.hid tx
          have FX := Lib.hid (UD2.out.trans HF'.out)
          have GX := Lib.hid (GT.out.tt FX.out)
          have OWX : Hid (W.ownsRow 0 37 3 (.slice gs2 ls2 cs2) ls2 xs2) := ownsRow_fr HSU2.out FX.out fun _ _ _ _ => trivial
          have hgG : (Value.slice gs2 ls2 cs2).ownBlock ≠ some G := fun e => by
            obtain ⟨cur, h8⟩ := own_tag OWX.out e
            rw [GX.out.top] at h8
            cases h8
          clear tx e9 UD2 SC2
          refine wpAny_next 10 (by kernel_rfl) rfl fun K' hK => ?_
          (try simp only [List.getElem_toArray, List.getElem_cons_zero, List.getElem_cons_succ])
          refine (iteInduction (motive := fun t => t) (fun _ => ?_) (fun hn => absurd rfl hn))
          with_reducible refine step_append_lg (K := fun a w => K' a w) W (.tmp 169) (.tmp 174) ?h1 (.slice gs2 ls2 cs2) ls2 xs2 ?h2 OWX gx [.int .u64 (bs : Nat), .int .u64 (bt : Nat), .slice ae2 le2 ce2] ?h3 TX rfl (one_lg _ _ _ _ _) lN2 HLN2 hlN9 ?_
          case h1 => rfl
          case h2 => (simp [Act.eval, Act.put, fillA, fillL]; done)
          case h3 => (simp [Act.eval, Act.put, fillA, fillL]; done)
          intro gy cy Wy OY FY NY
          refine hK.out _ _ ?_
          clear hK K'
          have TY := FY.out.keep _ _ GX.out.top hgG
          have y5 : Wy.cell? ⟨G, 4, none⟩ = some (.slice gs2 ls2 cs2) := by rw [← HVS2.out.1]; exact cell_mk TY rfl
          have z5 := frozen_mk (i := 4) TY
          obtain ⟨Wl, hWz⟩ : ∃ Y, Wy.setCell ⟨G, 4, none⟩ (.slice gy lN2 cy) = Y := ⟨_, rfl⟩
          obtain ⟨GZ0, FZ0, LZ0⟩ := GX.out.logs OY.out (by rw [HVS2.out.1]; exact FY.out) (by rw [HVS2.out.1]; exact NY.out) hWz
          have GL := Lib.hid GZ0
          have hB0 : ∀ q, B0 q → q < W.heap.size := fun q hq => Nat.lt_of_lt_of_le (LT.out.b q hq) GX.out.sz
          have LL := Lib.hid (LZ0 B0 LT.out hB0)
          have FL : Hid (Fr (fun q _ => B0 q) wd Wl) := (FT.out.trans (FX.out.mono fun _ _ _ => trivial)).trans (FZ0.mono fun q _ h => ⟨fun e => LT.out.g (e ▸ h), fun e => LT.out.l q e h⟩)
          clear GZ0 FZ0 LZ0 TY OY FY NY hgG
          refine wpAny_next 11 (by kernel_rfl) rfl fun K' hK => ?_
          (try simp only [gA, gB, gC])
          go_simp
          refine hK.out _ _ ?_
          clear hK K'
          refine wpAny_next 12 (by kernel_rfl) rfl fun K' hK => ?_
          (try simp only [gA, gB, gC])
          go_simp
          refine hK.out _ _ ?_
          clear hK K'
          refine wpAny_next 13 (by kernel_rfl) rfl fun K' hK => ?_
          (try simp only [gA, gB, gC])
          go_simp
          refine hK.out _ _ ?_
          clear hK K'
          refine wpAny_fin (by kernel_rfl) ?_
          try rw [hWz]
          clear hWz y5 z5 hlN9
          obtain ⟨Wq2, hWq⟩ : ∃ Y, W = Y := ⟨_, rfl⟩
          rw [hWq] at HF' FX GX OWX TX
          clear hWq
          go_wp2
          exact TAIL2 _ _ _ _ _ _ _ _ _ _ _ _ _ _ _ _ _ _ _ _ _ _ _ _ _ _ _ _ _ _ _ _ _ _ _ _ _ _ _ _ _ _ _ _ _ _ _ _ _ _ _ _ _ _ _ _ _ _ _ _ _ _ _ _ _ _ _ _ _ _ _ _ _ _ _ _ _ _ _ _ _ _ _ _ _ _ _ _ _ _ _ _ _ _ _ _ _ _ _ _ _ _ _ _ _ _ _ _ _ _ _ _ _ _ _ _ _ _ _ _ _ _ _ _ _ _ _ _ _ _ _ _ _ _ _ _ _ _ _ _ _ _ _ _ _ _ _ _ _ _ _ _ _ _ _ _ _ _ _ _ _ _ _ _ _ _ _ _ _ _ _ _ _ _ _ _ _ _ _ _ _ _ _ _ _ _ _ _ _ _ _ _ _ _ _ _ _ _ _ _ _ _ _ _ _ _ _ _ _ _ _ _ _ _ _ _ _ _ _ GL LL ⟨rfl, by show lN1 ≤ _; have := HVS1.out.2; have := HLN1.out; omega, by show lN2 ≤ _; have e9 : ls2 = c.nl := HVS2.out.2; have := HLN2.out; omega⟩ FL
  | false =>
    obtain ⟨gs1, ls1, cs1, hvs⟩ : ∃ g l z, c.vt = .slice g l z := by obtain ⟨xs, h9⟩ := HG2.out.rt; obtain ⟨g, z, e⟩ := ownsRow_form h9; exact ⟨g, _, z, e⟩
    obtain ⟨xs1, hsur⟩ := HG2.out.rt
    have hls : ls1 = c.nt := by obtain ⟨g, z, e⟩ := ownsRow_form hsur; rw [hvs, Value.slice.injEq] at e; exact e.2.1
    rw [hvs, ← hls] at hsur
    have HSU1 := Lib.hid hsur
    have HVS1 := Lib.hid (And.intro hvs hls)
    obtain ⟨lN1, hlN⟩ : ∃ x, ls1 + 1 = x := ⟨_, rfl⟩
    have HLN1 := Lib.hid hlN
    have hlN9 : lN1 ≤ 1000000 := by have := HNN.out; have e9 : ls1 = c.nt := hls; omega
    clear hvs hls hlN hsur
    have UD1 : Hid (Fr (fun _ _ => True) wd wd.drew) := (Fr.refl _ _).drew
    obtain ⟨ae1, le1, ce1, es1, hbl1, NC10⟩ := NQ.out _ wd HG2.out
    have NC1 := Lib.hid NC10
    clear NC10
    have SC1 : Hid (∀ W, Fr (fun _ _ => True) wd W → W.cell? ⟨G, 3, none⟩ = some (.slice gs1 ls1 cs1)) := fun W f => by rw [← HVS1.out.1]; exact cell_mk (f.keep _ _ HG2.out.top trivial) rfl
    go_wp2_with fail
    refine wp_region_cf1 (K := fun _ _ => True) (vt := .pointer (some ⟨G, 0, none⟩)) 0 rfl (by kernel_rfl) (by kernel_rfl) (by kernel_rfl) (fun _ _ _ h => h) (Or.inl ⟨by rfl, ?cfy⟩) (by kernel_rfl) [(152, 0), (153, 1), (154, 2), (155, 3), (156, 4), (157, 5), (158, 6), (159, 7), (160, 8), (161, 9), (162, 10), (163, 11), (164, 12)] [(0, []), (1, []), (2, [1]), (3, [2]), (4, [3]), (5, []), (6, [5]), (7, [6]), (8, [7]), (9, [8])] (ckR [(0, .pointer (some ⟨G, 0, none⟩)), (1, .pointer (some ⟨G, 0, none⟩)), (2, .pointer (some ⟨G, 0, none⟩)), (3, .pointer (some ⟨G, 3, none⟩)), (4, .slice gs1 ls1 cs1), (5, .pointer (some ⟨b, 0, none⟩)), (6, .pointer (some ⟨b, 0, none⟩)), (7, .pointer (some ⟨b, 6, none⟩)), (8, .int .u64 (tm2 : Nat))] [(9, ⟨fun v W => ∃ gx, v = .slice (some ⟨gx, 0, none⟩) 1 1 ∧ W.heap[gx]? = some (.cells [.int .u64 (tm2 : Nat)].toArray 34 (0, 0)), fun v W W' h hf => by obtain ⟨gx, h1, h2⟩ := h; exact ⟨gx, h1, hf.keep _ _ h2 trivial⟩⟩)] 10 0) 4 (by kernel_rfl) (by kernel_rfl) (by kernel_rfl) rfl (fun _ => rfl) (by rfl) 152 rfl (by simp) ?cfall ?cfend
    case cfy => (intro w; (try simp only [gA, gB, gC]); go_simp)
    case cfall =>
      iterate 9
        refine CfAll.kk rfl rfl rfl (fun xs W hF hE K' hK => ?_) ?_
        · have HF' := Lib.hid hF
          clear hF
          simp only [ckEqs, ckLook, Nat.reduceBEq] at hE
          simp only [fillA, fillL, sA, sB, sC, Act.put, hE] at hK ⊢
          clear hE
          have yG := SC1.out W (UD1.out.trans HF'.out)
          obtain ⟨⟨x2, x6, x7, x8, x9, x10⟩, -⟩ := NC1.out W (UD1.out.trans HF'.out)
          (try simp only [gA, gB, gC])
          go_simp
          exact hK.out _ rfl
      refine CfAll.k rfl rfl (fun xs W hF hA hE K' hK => ?_) ?_
      · have HF' := Lib.hid hF
        clear hA hF
        simp only [ckEqs, ckLook, Nat.reduceBEq] at hE
        simp only [fillA, fillL, sA, sB, sC, Act.put, hE] at hK ⊢
        clear hE
        (try simp only [gA, gB, gC])
        go_simp
        exact hK.out _ _ _ rfl ((Fr.refl _ _).alloc _) ⟨_, rfl, heap_alloc_new _ _⟩
      exact CfAll.nil
    case cfend =>
      intro xs W hF hA
      have HF' := Lib.hid hF
      have hE := ckEnd rfl hA
      have h9 := hA (9, [8]) (by decide)
      clear hA hF
      simp only [List.map_cons, List.map_nil, ckEqs, ckLook, Nat.reduceBEq] at hE
      simp only [fillA, fillL, sA, sB, sC, hE]
      clear hE
      obtain ⟨gx, e9, tx⟩ := h9
      rw [e9]
      have TX := Lib.hid tx
      have FX := Lib.hid (UD1.out.trans HF'.out)
      have GX := Lib.hid (HG2.out.tt FX.out)
      have OWX : Hid (W.ownsRow 0 34 1 (.slice gs1 ls1 cs1) ls1 xs1) := ownsRow_fr HSU1.out FX.out fun _ _ _ _ => trivial
      have hgG : (Value.slice gs1 ls1 cs1).ownBlock ≠ some G := fun e => by
        obtain ⟨cur, h8⟩ := own_tag OWX.out e
        rw [GX.out.top] at h8
        cases h8
      clear tx e9 UD1 SC1
      refine wpAny_next 10 (by kernel_rfl) rfl fun K' hK => ?_
      (try simp only [List.getElem_toArray, List.getElem_cons_zero, List.getElem_cons_succ])
      refine (iteInduction (motive := fun t => t) (fun _ => ?_) (fun hn => absurd rfl hn))
      with_reducible refine step_append_u64 (K := fun a w => K' a w) W (.tmp 156) (.tmp 161) ?h1 (.slice gs1 ls1 cs1) ls1 xs1 ?h2 OWX gx [.int .u64 (tm2 : Nat)] ?h3 TX rfl (one_u64 _) lN1 HLN1 hlN9 ?_
      case h1 => rfl
      case h2 => (simp [Act.eval, Act.put, fillA, fillL]; done)
      case h3 => (simp [Act.eval, Act.put, fillA, fillL]; done)
      intro gy1 cy1 Wy OY FY NY
      refine hK.out _ _ ?_
      clear hK K'
      have TY := FY.out.keep _ _ GX.out.top hgG
      have y5 : Wy.cell? ⟨G, 3, none⟩ = some (.slice gs1 ls1 cs1) := by rw [← HVS1.out.1]; exact cell_mk TY rfl
      have z5 := frozen_mk (i := 3) TY
      obtain ⟨Wt, hWz⟩ : ∃ Y, Wy.setCell ⟨G, 3, none⟩ (.slice gy1 lN1 cy1) = Y := ⟨_, rfl⟩
      obtain ⟨GZ0, FZ0, LZ0⟩ := GX.out.terms OY.out (by rw [HVS1.out.1]; exact FY.out) (by rw [HVS1.out.1]; exact NY.out) hWz
      have GT := Lib.hid GZ0
      have hB0 : ∀ q, B0 q → q < W.heap.size := fun q hq => Nat.lt_of_lt_of_le (HL2.out.b q hq) GX.out.sz
      have LT := Lib.hid (LZ0 B0 HL2.out hB0)
      have FT : Hid (Fr (fun q _ => B0 q) wd Wt) := (HF2.out.trans (FX.out.mono fun _ _ _ => trivial)).trans (FZ0.mono fun q _ h => ⟨fun e => HL2.out.g (e ▸ h), fun e => HL2.out.t q e h⟩)
      clear GZ0 FZ0 LZ0 TY OY FY NY hgG
      refine wpAny_next 11 (by kernel_rfl) rfl fun K' hK => ?_
      (try simp only [gA, gB, gC])
      go_simp
      refine hK.out _ _ ?_
      clear hK K'
      refine wpAny_next 12 (by kernel_rfl) rfl fun K' hK => ?_
      (try simp only [gA, gB, gC])
      go_simp
      refine hK.out _ _ ?_
      clear hK K'
      refine wpAny_next 13 (by kernel_rfl) rfl fun K' hK => ?_
      (try simp only [gA, gB, gC])
      go_simp
      refine hK.out _ _ ?_
      clear hK K'
      refine wpAny_fin (by kernel_rfl) ?_
      try rw [hWz]
      clear hWz y5 z5 hlN9
      obtain ⟨Wq1, hWq⟩ : ∃ Y, W = Y := ⟨_, rfl⟩
      rw [hWq] at HF' FX GX OWX TX
      clear hWq
      obtain ⟨gs2, ls2, cs2, hvs⟩ : ∃ g l z, (({ c with vt := .slice gy1 lN1 cy1, nt := lN1 } : GV)).vl = .slice g l z := by obtain ⟨xs, h9⟩ := GT.out.rl; obtain ⟨g, z, e⟩ := ownsRow_form h9; exact ⟨g, _, z, e⟩
      obtain ⟨xs2, hsur⟩ := GT.out.rl
      have hls : ls2 = (({ c with vt := .slice gy1 lN1 cy1, nt := lN1 } : GV)).nl := by obtain ⟨g, z, e⟩ := ownsRow_form hsur; rw [hvs, Value.slice.injEq] at e; exact e.2.1
      rw [hvs, ← hls] at hsur
      have HSU2 := Lib.hid hsur
      have HVS2 := Lib.hid (And.intro hvs hls)
      obtain ⟨lN2, hlN⟩ : ∃ x, ls2 + 1 = x := ⟨_, rfl⟩
      have HLN2 := Lib.hid hlN
      have hlN9 : lN2 ≤ 1000000 := by have := HNN.out; have e9 : ls2 = c.nl := hls; omega
      clear hvs hls hlN hsur
      have UD2 : Hid (Fr (fun _ _ => True) Wt Wt.drew) := (Fr.refl _ _).drew
      obtain ⟨ae2, le2, ce2, es2, hbl2, NC20⟩ := NQ.out _ Wt GT.out
      have NC2 := Lib.hid NC20
      clear NC20
      have SC2 : Hid (∀ W, Fr (fun _ _ => True) Wt W → W.cell? ⟨G, 4, none⟩ = some (.slice gs2 ls2 cs2)) := fun W f => by rw [← HVS2.out.1]; exact cell_mk (f.keep _ _ GT.out.top trivial) rfl
      go_wp2_with fail
      refine wp_region_cf1 (K := fun _ _ => True) (vt := .pointer (some ⟨G, 0, none⟩)) 0 rfl (by kernel_rfl) (by kernel_rfl) (by kernel_rfl) (fun _ _ _ h => h) (Or.inl ⟨by rfl, ?cfy⟩) (by kernel_rfl) [(165, 0), (166, 1), (167, 2), (168, 3), (169, 4), (170, 5), (171, 6), (172, 7), (173, 8), (174, 9), (175, 10), (176, 11), (177, 12)] [(0, []), (1, []), (2, [1]), (3, [2]), (4, [3]), (5, []), (6, [5]), (7, [6]), (8, [7]), (9, [8])] (ckR [(0, .pointer (some ⟨G, 0, none⟩)), (1, .pointer (some ⟨G, 0, none⟩)), (2, .pointer (some ⟨G, 0, none⟩)), (3, .pointer (some ⟨G, 4, none⟩)), (4, .slice gs2 ls2 cs2), (5, .pointer (some ⟨b, 0, none⟩)), (6, .pointer (some ⟨b, 0, none⟩)), (7, .pointer (some ⟨b, 8, none⟩)), (8, .agg #[.int .u64 (bs : Nat), .int .u64 (bt : Nat), .slice ae2 le2 ce2])] [(9, ⟨fun v W => ∃ gx, v = .slice (some ⟨gx, 0, none⟩) 1 1 ∧ W.heap[gx]? = some (.cells [.int .u64 (bs : Nat), .int .u64 (bt : Nat), .slice ae2 le2 ce2].toArray 37 (0, 0)), fun v W W' h hf => by obtain ⟨gx, h1, h2⟩ := h; exact ⟨gx, h1, hf.keep _ _ h2 trivial⟩⟩)] 10 0) 4 (by kernel_rfl) (by kernel_rfl) (by kernel_rfl) rfl (fun _ => rfl) (by rfl) 165 rfl (by simp) ?cfall ?cfend
      case cfy => (intro w; (try simp only [gA, gB, gC]); go_simp)
      case cfall =>
        iterate 9
          refine CfAll.kk rfl rfl rfl (fun xs W hF hE K' hK => ?_) ?_
          · have HF' := Lib.hid hF
            clear hF
            simp only [ckEqs, ckLook, Nat.reduceBEq] at hE
            simp only [fillA, fillL, sA, sB, sC, Act.put, hE] at hK ⊢
            clear hE
            have yG := SC2.out W (UD2.out.trans HF'.out)
            obtain ⟨⟨x2, x6, x7, x8, x9, x10⟩, -⟩ := NC2.out W (UD2.out.trans HF'.out)
            (try simp only [gA, gB, gC])
            go_simp
            exact hK.out _ rfl
        refine CfAll.k rfl rfl (fun xs W hF hA hE K' hK => ?_) ?_
        · have HF' := Lib.hid hF
          clear hA hF
          simp only [ckEqs, ckLook, Nat.reduceBEq] at hE
          simp only [fillA, fillL, sA, sB, sC, Act.put, hE] at hK ⊢
          clear hE
          (try simp only [gA, gB, gC])
          go_simp
          exact hK.out _ _ _ rfl ((Fr.refl _ _).alloc _) ⟨_, rfl, heap_alloc_new _ _⟩
        exact CfAll.nil
      case cfend =>
        intro xs W hF hA
        have HF' := Lib.hid hF
        have hE := ckEnd rfl hA
        have h9 := hA (9, [8]) (by decide)
        clear hA hF
        simp only [List.map_cons, List.map_nil, ckEqs, ckLook, Nat.reduceBEq] at hE
        simp only [fillA, fillL, sA, sB, sC, hE]
        clear hE
        obtain ⟨gx, e9, tx⟩ := h9
        rw [e9]
        have TX := Lib.hid tx
        have FX := Lib.hid (UD2.out.trans HF'.out)
        have GX := Lib.hid (GT.out.tt FX.out)
        have OWX : Hid (W.ownsRow 0 37 3 (.slice gs2 ls2 cs2) ls2 xs2) := ownsRow_fr HSU2.out FX.out fun _ _ _ _ => trivial
        have hgG : (Value.slice gs2 ls2 cs2).ownBlock ≠ some G := fun e => by
          obtain ⟨cur, h8⟩ := own_tag OWX.out e
          rw [GX.out.top] at h8
          cases h8
        clear tx e9 UD2 SC2
        refine wpAny_next 10 (by kernel_rfl) rfl fun K' hK => ?_
        (try simp only [List.getElem_toArray, List.getElem_cons_zero, List.getElem_cons_succ])
        refine (iteInduction (motive := fun t => t) (fun _ => ?_) (fun hn => absurd rfl hn))
        with_reducible refine step_append_lg (K := fun a w => K' a w) W (.tmp 169) (.tmp 174) ?h1 (.slice gs2 ls2 cs2) ls2 xs2 ?h2 OWX gx [.int .u64 (bs : Nat), .int .u64 (bt : Nat), .slice ae2 le2 ce2] ?h3 TX rfl (one_lg _ _ _ _ _) lN2 HLN2 hlN9 ?_
        case h1 => rfl
        case h2 => (simp [Act.eval, Act.put, fillA, fillL]; done)
        case h3 => (simp [Act.eval, Act.put, fillA, fillL]; done)
        intro gy cy Wy OY FY NY
        refine hK.out _ _ ?_
        clear hK K'
        have TY := FY.out.keep _ _ GX.out.top hgG
        have y5 : Wy.cell? ⟨G, 4, none⟩ = some (.slice gs2 ls2 cs2) := by rw [← HVS2.out.1]; exact cell_mk TY rfl
        have z5 := frozen_mk (i := 4) TY
        obtain ⟨Wl, hWz⟩ : ∃ Y, Wy.setCell ⟨G, 4, none⟩ (.slice gy lN2 cy) = Y := ⟨_, rfl⟩
        obtain ⟨GZ0, FZ0, LZ0⟩ := GX.out.logs OY.out (by rw [HVS2.out.1]; exact FY.out) (by rw [HVS2.out.1]; exact NY.out) hWz
        have GL := Lib.hid GZ0
        have hB0 : ∀ q, B0 q → q < W.heap.size := fun q hq => Nat.lt_of_lt_of_le (LT.out.b q hq) GX.out.sz
        have LL := Lib.hid (LZ0 B0 LT.out hB0)
        have FL : Hid (Fr (fun q _ => B0 q) wd Wl) := (FT.out.trans (FX.out.mono fun _ _ _ => trivial)).trans (FZ0.mono fun q _ h => ⟨fun e => LT.out.g (e ▸ h), fun e => LT.out.l q e h⟩)
        clear GZ0 FZ0 LZ0 TY OY FY NY hgG
        refine wpAny_next 11 (by kernel_rfl) rfl fun K' hK => ?_
        (try simp only [gA, gB, gC])
        go_simp
        refine hK.out _ _ ?_
        clear hK K'
        refine wpAny_next 12 (by kernel_rfl) rfl fun K' hK => ?_
        (try simp only [gA, gB, gC])
        go_simp
        refine hK.out _ _ ?_
        clear hK K'
        refine wpAny_next 13 (by kernel_rfl) rfl fun K' hK => ?_
        (try simp only [gA, gB, gC])
        go_simp
        refine hK.out _ _ ?_
        clear hK K'
        refine wpAny_fin (by kernel_rfl) ?_
        try rw [hWz]
        clear hWz y5 z5 hlN9
        obtain ⟨Wq2, hWq⟩ : ∃ Y, W = Y := ⟨_, rfl⟩
        rw [hWq] at HF' FX GX OWX TX
        clear hWq
        go_wp2
        exact TAIL2 _ _ _ _ _ _ _ _ _ _ _ _ _ _ _ _ _ _ _ _ _ _ _ _ _ _ _ _ _ _ _ _ _ _ _ _ _ _ _ _ _ _ _ _ _ _ _ _ _ _ _ _ _ _ _ _ _ _ _ _ _ _ _ _ _ _ _ _ _ _ _ _ _ _ _ _ _ _ _ _ _ _ _ _ _ _ _ _ _ _ _ _ _ _ _ _ _ _ _ _ _ _ _ _ _ _ _ _ _ _ _ _ _ _ _ _ _ _ _ _ _ _ _ _ _ _ _ _ _ _ _ _ _ _ _ _ _ _ _ _ _ _ _ _ _ _ _ _ _ _ _ _ _ _ _ _ _ _ _ _ _ _ _ _ _ _ _ _ _ _ _ _ _ _ _ _ _ _ _ _ _ _ _ _ _ _ _ _ _ _ _ _ _ _ _ _ _ _ _ _ _ _ _ _ _ _ _ _ _ _ _ _ _ _ _ _ _ _ _ GL LL ⟨rfl, by show lN1 ≤ _; have := HVS1.out.2; have := HLN1.out; omega, by show lN2 ≤ _; have e9 : ls2 = c.nl := HVS2.out.2; have := HLN2.out; omega⟩ FL
end
end Go.Proofs.Ytmjccpfchhnfhaa
/- Law 12: play, from the messages on (printed by play12b.py). -/
namespace Go.Proofs.Ytmjccpfchhnfhaa
open Go.RowKit
set_option linter.unusedVariables false
set_option linter.unusedSimpArgs false

section
variable {X : Nat → Prop} {wd : World} {G : Nat} {L : List Nx} {ms : List MV} {many : Int} {c : GV}
set_option maxRecDepth 100000 in
set_option maxHeartbeats 8000000 in
theorem pl12_tail {R : Ending → World → Prop} (h : Grp X wd G L ms many c) (i : Nat) (hi : i < L.length) (b : Nat) (n : Nd) (P : Nat → Prop) (hLi : L[i] = ⟨b, n, P⟩) (B0 : Nat → Prop) (hl : Low B0 X G c) (B : Nat) (hB : B ≤ 700000) (hbn : Bn (B + 2) n) (co tm : Nat) (hco : co ≤ B) (led : Bool) (hn : c.ns ≤ 800000 ∧ c.nt ≤ 800000 ∧ c.nl ≤ 800000) (v9 : Value) (mvs : List MV) (ow : OwnMs X 0 wd v9 mvs) (len : mvs.length ≤ 100) (hms : ms.length ≤ 700)
    (fin : ∀ ms' c' W, Grp X W G L ms' many c' → Low B0 X G c' → ms'.map MV.ms = (if ms.length < 600 then ms.map MV.ms ++ mvs.map MV.ms else ms.map MV.ms) → (c'.ns ≤ c.ns + 200 ∧ c'.nt ≤ c.nt + 1 ∧ c'.nl ≤ c.nl + 1) → Fr (fun q _ => B0 q) wd W → R (.returned (.tuple #[])) W)
    (u1 u2 u3 u4 u10 u11 u12 u13 u14 u15 u16 u17 u18 u19 u20 u21 u22 u23 u24 u25 u26 u27 u28 u29 u30 u31 u32 u33 u34 u35 u36 u37 u38 u39 u40 u41 u42 u43 u44 u45 u46 u47 u48 u49 u50 u51 u52 u53 u54 u55 u56 u57 u58 u59 u60 u61 u62 u63 u64 u65 u66 u67 u68 u69 u70 u71 u72 u73 u74 u75 u76 u77 u78 u79 u80 u81 u82 u83 u84 u85 u86 u87 u88 u89 u90 u91 u92 u93 u94 u95 u96 u97 u98 u99 u100 u101 u102 u103 u104 u105 u106 u107 u108 u109 u110 u111 u112 u113 u114 u115 u116 u117 u118 u119 u120 u121 u122 u123 u124 u125 u126 u127 u128 u129 u130 u131 u132 u133 u134 u135 u136 u137 u138 u139 u140 u141 u142 u143 u144 u145 u146 u147 u148 u149 u150 u151 u152 u153 u154 u155 u156 u157 u158 u159 u160 u161 u162 u163 u164 u165 u166 u167 u168 u169 u170 u171 u172 u173 u174 u175 u176 u177 u178 u179 u180 u181 u182 u183 u184 u185 u186 u187 u188 u189 u190 u191 u192 u193 u194 u195 u196 u197 u198 u199 u200 u201 u202 u203 u204 u205 u206 u207 u208 u209 u210 u211 u212 u213 u214 u215 u216 u217 u218 u219 u220 u221 : Value) : Code.wp Try.prog (seqR 10 (bodyC Try.f7.body)) (bodyPost Try.prog Try.f7 R) { tmps := #[.pointer (some ⟨G, 0, none⟩), u1, u2, u3, u4, .pointer (some ⟨b, 0, none⟩), .bool led, .int .u64 (tm : Nat), .int .u64 (co : Nat), v9, u10, u11, u12, u13, u14, u15, u16, u17, u18, u19, u20, u21, u22, u23, u24, u25, u26, u27, u28, u29, u30, u31, u32, u33, u34, u35, u36, u37, u38, u39, u40, u41, u42, u43, u44, u45, u46, u47, u48, u49, u50, u51, u52, u53, u54, u55, u56, u57, u58, u59, u60, u61, u62, u63, u64, u65, u66, u67, u68, u69, u70, u71, u72, u73, u74, u75, u76, u77, u78, u79, u80, u81, u82, u83, u84, u85, u86, u87, u88, u89, u90, u91, u92, u93, u94, u95, u96, u97, u98, u99, u100, u101, u102, u103, u104, u105, u106, u107, u108, u109, u110, u111, u112, u113, u114, u115, u116, u117, u118, u119, u120, u121, u122, u123, u124, u125, u126, u127, u128, u129, u130, u131, u132, u133, u134, u135, u136, u137, u138, u139, u140, u141, u142, u143, u144, u145, u146, u147, u148, u149, u150, u151, u152, u153, u154, u155, u156, u157, u158, u159, u160, u161, u162, u163, u164, u165, u166, u167, u168, u169, u170, u171, u172, u173, u174, u175, u176, u177, u178, u179, u180, u181, u182, u183, u184, u185, u186, u187, u188, u189, u190, u191, u192, u193, u194, u195, u196, u197, u198, u199, u200, u201, u202, u203, u204, u205, u206, u207, u208, u209, u210, u211, u212, u213, u214, u215, u216, u217, u218, u219, u220, u221], defers := [] } wd := by
  dsimp only [seqR, bodyC, Try.f7]
  have NQ0 := fun (c' : GV) (W : World) (hg : Grp X W G L ms many c') => hg.nodeQ hi hLi hbn
  obtain ⟨ro2, hro2⟩ : ∃ y, n.role = y := ⟨_, rfl⟩
  obtain ⟨tm2, htm2⟩ : ∃ y, n.tm = y := ⟨_, rfl⟩
  obtain ⟨co2, hco2⟩ : ∃ y, n.commit = y := ⟨_, rfl⟩
  obtain ⟨bs, hbs⟩ : ∃ y, n.log.base = y := ⟨_, rfl⟩
  obtain ⟨bt, hbt⟩ : ∃ y, n.log.bt = y := ⟨_, rfl⟩
  rw [hro2, htm2, hco2, hbs, hbt] at NQ0
  have NQ := Lib.hid NQ0
  have HG := Lib.hid h
  have HL := Lib.hid hl
  have HNN := Lib.hid hn
  have FIN := Lib.hid fin
  have HBN := Lib.hid hbn
  have HLI := Lib.hid hLi
  have MO := Lib.hid (And.intro ow len)
  have HMS := Lib.hid hms
  obtain ⟨g9, c9, hv9⟩ := ownsRow_form ow.row
  subst hv9
  obtain ⟨n9, hn9⟩ : ∃ x, mvs.length = x := ⟨_, rfl⟩
  have N9 := Lib.hid hn9
  obtain ⟨gm, lm, cm, hvm⟩ : ∃ gm lm cm, c.vm = .slice gm lm cm := by obtain ⟨g, c', e⟩ := ownsRow_form h.rm.row; exact ⟨g, _, c', e⟩
  have hlm : lm = ms.length := by obtain ⟨g, c', e⟩ := ownsRow_form h.rm.row; rw [hvm, Value.slice.injEq] at e; exact e.2.1
  have VM := Lib.hid (And.intro hvm hlm)
  have y1 : wd.cell? ⟨G, 1, none⟩ = some (.slice gm lm cm) := by rw [← hvm]; exact cell_mk h.top rfl
  have T0 : Hid (wd.heap[G]? = some (.cells (W6g c many) 32 (0, 0))) := h.top
  have OW : Hid (wd.ownsRow 0 74 10 (.slice gm lm cm) ms.length (ms.flatMap encM)) := by
    have := h.rm.row
    rw [hvm] at this
    exact this
  have RW : Hid (RowsAt (fun c _ => ¬ X c) wd (.slice g9 n9 c9) 10 encM mvs) := by
    have := ow.rows
    rw [hn9] at this
    exact this
  have hlm7 : lm ≤ 700 := by omega
  rw [hn9]
  clear h hl hn fin NQ0 hro2 htm2 hco2 hbs hbt ow len hn9 hvm hlm
  go_upto_region 25 with fail
  rename_i K3 h3 K2 h2
  have TAIL3 : ∀ (u1 u2 u3 u4 u10 u11 u12 u13 u14 u15 u16 u17 u18 u19 u20 u21 u22 u23 u24 u25 u26 u27 u28 u29 u30 u31 u32 u33 u34 u35 u36 u37 u38 u39 u40 u41 u42 u43 u44 u45 u46 u47 u48 u49 u50 u51 u52 u53 u54 u55 u56 u57 u58 u59 u60 u61 u62 u63 u64 u65 u66 u67 u68 u69 u70 u71 u72 u73 u74 u75 u76 u77 u78 u79 u80 u81 u82 u83 u84 u85 u86 u87 u88 u89 u90 u91 u92 u93 u94 u95 u96 u97 u98 u99 u100 u101 u102 u103 u104 u105 u106 u107 u108 u109 u110 u111 u112 u113 u114 u115 u116 u117 u118 u119 u120 u121 u122 u123 u124 u125 u126 u127 u128 u129 u130 u131 u132 u133 u134 u135 u136 u137 u138 u139 u140 u141 u142 u143 u144 u145 u146 u147 u148 u149 u150 u151 u152 u153 u154 u155 u156 u157 u158 u159 u160 u161 u162 u163 u164 u165 u166 u167 u168 u169 u170 u171 u172 u173 u174 u175 u176 u177 u178 u179 u180 u181 u182 u183 u184 u185 u186 u187 u188 u189 u190 u191 u192 u193 u194 u195 u196 u197 u198 u199 u200 u201 u202 u203 u204 u205 u206 u207 u208 u209 u210 u211 u212 u213 u214 u215 u216 u217 u218 u219 u220 u221 : Value) (v9 : Value) (we : World) (ms' : List MV) (c2 : GV), Hid (Grp X we G L ms' many c2) → Hid (Low B0 X G c2) → Hid (ms'.map MV.ms = (if ms.length < 600 then ms.map MV.ms ++ mvs.map MV.ms else ms.map MV.ms)) → Hid (c2.ns = c.ns ∧ c2.nt = c.nt ∧ c2.nl = c.nl) → Hid (Fr (fun q _ => B0 q) wd we) → K3 { tmps := #[.pointer (some ⟨G, 0, none⟩), u1, u2, u3, u4, .pointer (some ⟨b, 0, none⟩), .bool led, .int .u64 (tm : Nat), .int .u64 (co : Nat), v9, u10, u11, u12, u13, u14, u15, u16, u17, u18, u19, u20, u21, u22, u23, u24, u25, u26, u27, u28, u29, u30, u31, u32, u33, u34, u35, u36, u37, u38, u39, u40, u41, u42, u43, u44, u45, u46, u47, u48, u49, u50, u51, u52, u53, u54, u55, u56, u57, u58, u59, u60, u61, u62, u63, u64, u65, u66, u67, u68, u69, u70, u71, u72, u73, u74, u75, u76, u77, u78, u79, u80, u81, u82, u83, u84, u85, u86, u87, u88, u89, u90, u91, u92, u93, u94, u95, u96, u97, u98, u99, u100, u101, u102, u103, u104, u105, u106, u107, u108, u109, u110, u111, u112, u113, u114, u115, u116, u117, u118, u119, u120, u121, u122, u123, u124, u125, u126, u127, u128, u129, u130, u131, u132, u133, u134, u135, u136, u137, u138, u139, u140, u141, u142, u143, u144, u145, u146, u147, u148, u149, u150, u151, u152, u153, u154, u155, u156, u157, u158, u159, u160, u161, u162, u163, u164, u165, u166, u167, u168, u169, u170, u171, u172, u173, u174, u175, u176, u177, u178, u179, u180, u181, u182, u183, u184, u185, u186, u187, u188, u189, u190, u191, u192, u193, u194, u195, u196, u197, u198, u199, u200, u201, u202, u203, u204, u205, u206, u207, u208, u209, u210, u211, u212, u213, u214, u215, u216, u217, u218, u219, u220, u221], defers := [] } we := by
    clear h2 y1
    intro u1 u2 u3 u4 u10 u11 u12 u13 u14 u15 u16 u17 u18 u19 u20 u21 u22 u23 u24 u25 u26 u27 u28 u29 u30 u31 u32 u33 u34 u35 u36 u37 u38 u39 u40 u41 u42 u43 u44 u45 u46 u47 u48 u49 u50 u51 u52 u53 u54 u55 u56 u57 u58 u59 u60 u61 u62 u63 u64 u65 u66 u67 u68 u69 u70 u71 u72 u73 u74 u75 u76 u77 u78 u79 u80 u81 u82 u83 u84 u85 u86 u87 u88 u89 u90 u91 u92 u93 u94 u95 u96 u97 u98 u99 u100 u101 u102 u103 u104 u105 u106 u107 u108 u109 u110 u111 u112 u113 u114 u115 u116 u117 u118 u119 u120 u121 u122 u123 u124 u125 u126 u127 u128 u129 u130 u131 u132 u133 u134 u135 u136 u137 u138 u139 u140 u141 u142 u143 u144 u145 u146 u147 u148 u149 u150 u151 u152 u153 u154 u155 u156 u157 u158 u159 u160 u161 u162 u163 u164 u165 u166 u167 u168 u169 u170 u171 u172 u173 u174 u175 u176 u177 u178 u179 u180 u181 u182 u183 u184 u185 u186 u187 u188 u189 u190 u191 u192 u193 u194 u195 u196 u197 u198 u199 u200 u201 u202 u203 u204 u205 u206 u207 u208 u209 u210 u211 u212 u213 u214 u215 u216 u217 u218 u219 u220 u221 v9 we ms' c2 G2 L2 M2 C2 F2
    refine h3 _ _ ?_
    clear h3
    obtain ⟨ae, le, ce, es0, hbl, NC0⟩ := G2.out.nodeQ hi hLi hbn
    obtain ⟨⟨x2, x6, x7, x8, x9, x10⟩, -⟩ := NC0 we (Fr.refl _ _)
    by_cases hr : n.role = 3
    rotate_left
    · obtain ⟨rr, hrr⟩ : ∃ y, n.role = y := ⟨_, rfl⟩
      rw [hrr] at x2 hr
      have g2 : (rr == 3) = false := by simpa using hr
      have g3 : (rr != 3) = true := by rw [bne, g2]; rfl
      clear hr hrr hbn hLi NC0
      go_wp2
      (try simp only [Exit.inBlock, Exit.then])
      refine bodyPost_ret (results_none rfl _ _ _) rfl ?_
      exact FIN.out ms' c2 _ G2.out L2.out M2.out (by have := C2.out; omega) F2.out
    · rw [hr] at x2
      clear hr hbn hLi NC0
      go_upto_region 27 with fail
      rename_i K5 h5 K4 h4
      have APPK : ∀ (u1 u2 u3 u4 u10 u11 u12 u13 u14 u15 u16 u17 u18 u19 u20 u21 u22 u23 u24 u25 u26 u27 u28 u29 u30 u31 u32 u33 u34 u35 u36 u37 u38 u39 u40 u41 u42 u43 u44 u45 u46 u47 u48 u49 u50 u51 u52 u53 u54 u55 u56 u57 u58 u59 u60 u61 u62 u63 u64 u65 u66 u67 u68 u69 u70 u71 u72 u73 u74 u75 u76 u77 u78 u79 u80 u81 u82 u83 u84 u85 u86 u87 u88 u89 u90 u91 u92 u93 u94 u95 u96 u97 u98 u99 u100 u101 u102 u103 u104 u105 u106 u107 u108 u109 u110 u111 u112 u113 u114 u115 u116 u117 u118 u119 u120 u121 u122 u123 u124 u125 u126 u127 u128 u129 u130 u131 u132 u133 u134 u135 u136 u137 u138 u139 u140 u141 u142 u143 u144 u145 u146 u147 u148 u149 u150 u151 u152 u153 u154 u155 u156 u157 u158 u159 u160 u161 u162 u163 u164 u165 u166 u167 u168 u169 u170 u171 u172 u173 u174 u175 u176 u177 u178 u179 u180 u181 u182 u183 u184 u185 u186 u187 u188 u189 u190 u191 u192 u193 u194 u195 u196 u197 u198 u199 u200 u201 u202 u203 u204 u205 u206 u207 u208 u209 u210 u211 u212 u213 u214 u215 u216 u217 u218 u219 u220 u221 : Value) (v9 : Value), K5 { tmps := #[.pointer (some ⟨G, 0, none⟩), u1, u2, u3, u4, .pointer (some ⟨b, 0, none⟩), .bool led, .int .u64 (tm : Nat), .int .u64 (co : Nat), v9, u10, u11, u12, u13, u14, u15, u16, u17, u18, u19, u20, u21, u22, u23, u24, u25, u26, u27, u28, u29, u30, u31, u32, u33, u34, u35, u36, u37, u38, u39, u40, u41, u42, u43, u44, u45, u46, u47, u48, u49, u50, u51, u52, u53, u54, u55, u56, u57, u58, u59, u60, u61, u62, u63, u64, u65, u66, u67, u68, u69, u70, u71, u72, u73, u74, u75, u76, u77, u78, u79, u80, u81, u82, u83, u84, u85, u86, u87, u88, u89, u90, u91, u92, u93, u94, u95, u96, u97, u98, u99, u100, u101, u102, u103, u104, u105, u106, u107, u108, u109, u110, u111, u112, u113, u114, u115, u116, u117, u118, u119, u120, u121, u122, u123, u124, u125, u126, u127, u128, u129, u130, u131, u132, u133, u134, u135, u136, u137, u138, u139, u140, u141, u142, u143, u144, u145, u146, u147, u148, u149, u150, u151, u152, u153, u154, u155, u156, u157, u158, u159, u160, u161, u162, u163, u164, u165, u166, u167, u168, u169, u170, u171, u172, u173, u174, u175, u176, u177, u178, u179, u180, u181, u182, u183, u184, u185, u186, u187, u188, u189, u190, u191, u192, u193, u194, u195, u196, u197, u198, u199, u200, u201, u202, u203, u204, u205, u206, u207, u208, u209, u210, u211, u212, u213, u214, u215, u216, u217, u218, u219, u220, u221], defers := [] } we := by
        intro u1 u2 u3 u4 u10 u11 u12 u13 u14 u15 u16 u17 u18 u19 u20 u21 u22 u23 u24 u25 u26 u27 u28 u29 u30 u31 u32 u33 u34 u35 u36 u37 u38 u39 u40 u41 u42 u43 u44 u45 u46 u47 u48 u49 u50 u51 u52 u53 u54 u55 u56 u57 u58 u59 u60 u61 u62 u63 u64 u65 u66 u67 u68 u69 u70 u71 u72 u73 u74 u75 u76 u77 u78 u79 u80 u81 u82 u83 u84 u85 u86 u87 u88 u89 u90 u91 u92 u93 u94 u95 u96 u97 u98 u99 u100 u101 u102 u103 u104 u105 u106 u107 u108 u109 u110 u111 u112 u113 u114 u115 u116 u117 u118 u119 u120 u121 u122 u123 u124 u125 u126 u127 u128 u129 u130 u131 u132 u133 u134 u135 u136 u137 u138 u139 u140 u141 u142 u143 u144 u145 u146 u147 u148 u149 u150 u151 u152 u153 u154 u155 u156 u157 u158 u159 u160 u161 u162 u163 u164 u165 u166 u167 u168 u169 u170 u171 u172 u173 u174 u175 u176 u177 u178 u179 u180 u181 u182 u183 u184 u185 u186 u187 u188 u189 u190 u191 u192 u193 u194 u195 u196 u197 u198 u199 u200 u201 u202 u203 u204 u205 u206 u207 u208 u209 u210 u211 u212 u213 u214 u215 u216 u217 u218 u219 u220 u221 v9
        exact h5 _ _ (pl12_app G2.out i hi b n P HLI.out B0 L2.out B hB HBN.out co tm hco led (by have := HNN.out; have := C2.out; omega) (fun c' W g1 g2 g3 g4 => FIN.out ms' c' W g1 g2 M2.out (by have := C2.out; omega) (F2.out.trans g4)) _ _ _ _ _ _ _ _ _ _ _ _ _ _ _ _ _ _ _ _ _ _ _ _ _ _ _ _ _ _ _ _ _ _ _ _ _ _ _ _ _ _ _ _ _ _ _ _ _ _ _ _ _ _ _ _ _ _ _ _ _ _ _ _ _ _ _ _ _ _ _ _ _ _ _ _ _ _ _ _ _ _ _ _ _ _ _ _ _ _ _ _ _ _ _ _ _ _ _ _ _ _ _ _ _ _ _ _ _ _ _ _ _ _ _ _ _ _ _ _ _ _ _ _ _ _ _ _ _ _ _ _ _ _ _ _ _ _ _ _ _ _ _ _ _ _ _ _ _ _ _ _ _ _ _ _ _ _ _ _ _ _ _ _ _ _ _ _ _ _ _ _ _ _ _ _ _ _ _ _ _ _ _ _ _ _ _ _ _ _ _ _ _ _ _ _ _ _ _ _ _ _ _ _ _ _ _ _ _ _ _ _ _ _ _ _ _)
      clear h5
      go_wp2
      exact APPK _ _ _ _ _ _ _ _ _ _ _ _ _ _ _ _ _ _ _ _ _ _ _ _ _ _ _ _ _ _ _ _ _ _ _ _ _ _ _ _ _ _ _ _ _ _ _ _ _ _ _ _ _ _ _ _ _ _ _ _ _ _ _ _ _ _ _ _ _ _ _ _ _ _ _ _ _ _ _ _ _ _ _ _ _ _ _ _ _ _ _ _ _ _ _ _ _ _ _ _ _ _ _ _ _ _ _ _ _ _ _ _ _ _ _ _ _ _ _ _ _ _ _ _ _ _ _ _ _ _ _ _ _ _ _ _ _ _ _ _ _ _ _ _ _ _ _ _ _ _ _ _ _ _ _ _ _ _ _ _ _ _ _ _ _ _ _ _ _ _ _ _ _ _ _ _ _ _ _ _ _ _ _ _ _ _ _ _ _ _ _ _ _ _ _ _ _ _ _ _ _ _ _ _ _ _ _ _ _ _ _ _ _ _ _ _ _
  clear h3 hbn hLi
  by_cases h6 : lm < 600
  · have g6 : decide (lm < 600) = true := decide_eq_true h6
    have g6' : (lm : Int) < 600 := by omega
    have H6 : Hid (ms.length < 600) := by have := VM.out.2; show _ < _; omega
    obtain ⟨N, hN⟩ : ∃ N, lm + n9 = N := ⟨_, rfl⟩
    have HN : Hid ((ms ++ mvs).length = N) := by show _ = _; rw [List.length_append, N9.out, ← VM.out.2, hN]
    have hn7 : N ≤ 1000000 := by have := MO.out.2; have := N9.out; omega
    clear h6 hN
    go_wp2_with (at_builtin; refine wpList_append_mso wd rfl _ _ rfl (.slice gm lm cm) ms rfl OW (.slice g9 n9 c9) mvs rfl RW N HN hn7 ?_)
    intro g5 c5 W5 O5 F5 N5
    have hgG : (Value.slice gm lm cm).ownBlock ≠ some G := fun e => by
      obtain ⟨cur, h8⟩ := own_tag OW.out e
      rw [T0.out] at h8
      cases h8
    have T5 := F5.out.keep _ _ T0.out hgG
    have y5 : W5.cell? ⟨G, 1, none⟩ = some (.slice gm lm cm) := by rw [← VM.out.1]; exact cell_mk T5 rfl
    have z5 := frozen_mk (i := 1) T5
    obtain ⟨W6, hW6⟩ : ∃ Y, W5.setCell ⟨G, 1, none⟩ (.slice g5 N c5) = Y := ⟨_, rfl⟩
    have f6 : Fr (fun k _ => k ≠ G) W5 W6 := hW6 ▸ (Fr.refl _ _).setCell (fun _ _ h => h rfl) _
    have T6 : W6.heap[G]? = some (.cells (W6g { c with vm := .slice g5 N c5 } many) 32 (0, 0)) := by rw [← hW6]; exact heap_setCell_same (o := 1) T5 _
    have A5 : OwnMs X 0 W5 (.slice g5 N c5) (ms ++ mvs) := OwnMs.app (v := .slice gm lm cm) (by have := HG.out.rm; rw [VM.out.1] at this; exact this) MO.out.1.at' HG.out.hx (by rw [HN.out]; first | exact O5.out | (rw [List.flatMap_append]; exact O5.out)) F5.out N5.out
    have GR := Lib.hid (HG.out.msgs (w' := W6) (vm' := .slice g5 N c5) ((F5.out.mono fun k _ h => by rw [← VM.out.1]; exact h.2).trans (f6.mono fun k _ h => h.1)) T6 (A5.grpset T5 f6))
    have LW : Hid (Low B0 X G { c with vm := .slice g5 N c5 }) := ⟨HL.out.g, HL.out.x, HL.out.n, fun q e => by
      rcases N5.out with h9 | ⟨k, h9, hk⟩
      · exact HL.out.m q (by rw [VM.out.1]; exact h9 ▸ e)
      · have e' : (Value.slice g5 N c5).ownBlock = some q := e
        rw [h9] at e'
        cases e'
        exact fun hq => by have := Nat.lt_of_lt_of_le (HL.out.b _ hq) HG.out.sz; omega, HL.out.s, HL.out.t, HL.out.l, HL.out.b⟩
    have FW : Hid (Fr (fun q _ => B0 q) wd W6) := ((F5.out.mono fun k _ h e => HL.out.m k (by rw [VM.out.1]; exact e) h).trans (f6.mono fun k _ h e => HL.out.g (e ▸ h)))
    clear hgG T5 f6 T6 A5 O5 F5 N5
    go_wp2
    try rw [hW6]
    clear hW6 y5 z5
    refine TAIL3 _ _ _ _ _ _ _ _ _ _ _ _ _ _ _ _ _ _ _ _ _ _ _ _ _ _ _ _ _ _ _ _ _ _ _ _ _ _ _ _ _ _ _ _ _ _ _ _ _ _ _ _ _ _ _ _ _ _ _ _ _ _ _ _ _ _ _ _ _ _ _ _ _ _ _ _ _ _ _ _ _ _ _ _ _ _ _ _ _ _ _ _ _ _ _ _ _ _ _ _ _ _ _ _ _ _ _ _ _ _ _ _ _ _ _ _ _ _ _ _ _ _ _ _ _ _ _ _ _ _ _ _ _ _ _ _ _ _ _ _ _ _ _ _ _ _ _ _ _ _ _ _ _ _ _ _ _ _ _ _ _ _ _ _ _ _ _ _ _ _ _ _ _ _ _ _ _ _ _ _ _ _ _ _ _ _ _ _ _ _ _ _ _ _ _ _ _ _ _ _ _ _ _ _ _ _ _ _ _ _ _ _ _ _ _ _ _ _ (ms ++ mvs) _ GR LW ?_ ⟨rfl, rfl, rfl⟩ FW
    show _ = _
    rw [if_pos H6.out, List.map_append]
  · have g6 : decide (lm < 600) = false := decide_eq_false h6
    have g6' : ¬ (lm : Int) < 600 := by omega
    have H6 : Hid (¬ ms.length < 600) := by have := VM.out.2; show ¬ _ < _; omega
    clear h6
    go_wp2
    exact TAIL3 _ _ _ _ _ _ _ _ _ _ _ _ _ _ _ _ _ _ _ _ _ _ _ _ _ _ _ _ _ _ _ _ _ _ _ _ _ _ _ _ _ _ _ _ _ _ _ _ _ _ _ _ _ _ _ _ _ _ _ _ _ _ _ _ _ _ _ _ _ _ _ _ _ _ _ _ _ _ _ _ _ _ _ _ _ _ _ _ _ _ _ _ _ _ _ _ _ _ _ _ _ _ _ _ _ _ _ _ _ _ _ _ _ _ _ _ _ _ _ _ _ _ _ _ _ _ _ _ _ _ _ _ _ _ _ _ _ _ _ _ _ _ _ _ _ _ _ _ _ _ _ _ _ _ _ _ _ _ _ _ _ _ _ _ _ _ _ _ _ _ _ _ _ _ _ _ _ _ _ _ _ _ _ _ _ _ _ _ _ _ _ _ _ _ _ _ _ _ _ _ _ _ _ _ _ _ _ _ _ _ _ _ _ _ _ _ _ _ ms c HG HL (if_neg H6.out).symm ⟨rfl, rfl, rfl⟩ (Fr.refl _ _)
end
end Go.Proofs.Ytmjccpfchhnfhaa
/- Law 12: play, a node's turn (printed by play12c.py). -/
namespace Go.Proofs.Ytmjccpfchhnfhaa
open Go.RowKit
set_option linter.unusedVariables false
set_option linter.unusedSimpArgs false

section
variable {X : Nat → Prop} {w : World} {G : Nat} {l : List Nx} {ms : List MV} {many : Int} {c : GV}
theorem Low.aft {B0 : Nat → Prop} {X4 P4 P : Nat → Prop} {w4 : World} (h : Low B0 X G c) (ha : Aft X P X4 P4 w w4) (hs : c.sz ≤ w.heap.size) : Low B0 X4 G c :=
  ⟨h.g, fun k hk => by
    rcases (ha.xx k).1 hk with q | q
    · exact h.x k q
    · rcases ha.nw k q with q | q
      · exact h.x k (ha.hp k q)
      · exact fun hq => by have := h.b _ hq; omega, h.n, h.m, h.s, h.t, h.l, h.b⟩
theorem mid_mk {B0 : Nat → Prop} {i B : Nat} {W3 W4 : World} {x : Nx} {op : Nd × List Ms → Prop} {X4 P4 : Nat → Prop} {r : Nd × List Ms} {v : Value} {mvs : List MV} (h : Grp X w G l ms many c) (f3 : Fr (fun _ _ => True) w W3) (hi : i < l.length) (hx : l[i] = x) (hl : Low B0 X G c)
    (p4 : PN X4 P4 W4 x.b r.1) (a4 : Aft X x.P X4 P4 W3 W4) (o4 : OwnMs X4 0 W4 v mvs) (e4 : mvs.map MV.ms = r.2) (ho : op r) (hln : mvs.length ≤ 100) (hb : Bn (B + 2) r.1) : Mid B0 w G l ms many c i x.b op B v W4 X4 P4 r many mvs := by
  subst hx
  refine ⟨(h.tt f3).turn i hi p4 a4, hl.aft a4 (Nat.le_trans h.sz f3.size), o4, e4, ho, (f3.mono fun _ _ _ => trivial).trans (a4.fr.mono fun q _ hq hp => ?_), hln, hb, ⟨by omega, by omega⟩⟩
  exact hl.x q (a4.hp q hp) hq
theorem mid_mk2 {B0 : Nat → Prop} {i B : Nat} {W3 W4 : World} {x : Nx} {op : Nd × List Ms → Prop} {X4 P4 : Nat → Prop} {r : Nd × List Ms} {v : Value} {mvs : List MV} {many' : Int} (h : Grp X W3 G l ms many' c) (f3 : Fr (fun q _ => B0 q) w W3) (hi : i < l.length) (hx : l[i] = x) (hl : Low B0 X G c)
    (p4 : PN X4 P4 W4 x.b r.1) (a4 : Aft X x.P X4 P4 W3 W4) (o4 : OwnMs X4 0 W4 v mvs) (e4 : mvs.map MV.ms = r.2) (ho : op r) (hln : mvs.length ≤ 100) (hb : Bn (B + 2) r.1) (hm : many ≤ many' ∧ many' ≤ many + 1) : Mid B0 w G l ms many c i x.b op B v W4 X4 P4 r many' mvs := by
  subst hx
  refine ⟨h.turn i hi p4 a4, hl.aft a4 h.sz, o4, e4, ho, f3.trans (a4.fr.mono fun q _ hq hp => ?_), hln, hb, hm⟩
  exact hl.x q (a4.hp q hp) hq
theorem Grp.count (h : Grp X w G l ms many c) {W : World} (many' : Int) (e : w.setCell ⟨G, 5, none⟩ (.int .i64 many') = W) : Grp X W G l ms many' c ∧ Fr (fun k _ => k ≠ G) w W := by
  have f : Fr (fun k _ => k ≠ G) w W := e ▸ (Fr.refl _ _).setCell (fun _ _ h => h rfl) _
  have t : W.heap[G]? = some (.cells (W6g c many') 32 (0, 0)) := by rw [← e]; exact heap_setCell_same (o := 5) h.top _
  obtain ⟨xs, hs⟩ := h.rs
  obtain ⟨xt, ht⟩ := h.rt
  obtain ⟨xl, hl⟩ := h.rl
  have keepr : ∀ {e : TypeId} {s : Nat} {v : Value} {n : Nat} {xs : List Value}, w.ownsRow 0 e s v n xs → e ≠ 32 → W.ownsRow 0 e s v n xs := fun hr h1 => ownsRow_fr hr f fun k o e ho hk => by
    obtain ⟨cur, ho'⟩ := own_tag hr e
    rw [hk, h.top] at ho'
    cases ho'
    exact h1 rfl
  exact ⟨h.other (c' := c) ht h.xt (by decide) (by decide) (by decide) rfl rfl rfl (f.mono fun k _ h => h.1) t ⟨⟨xs, keepr hs (by decide)⟩, h.xs⟩ ⟨⟨xt, keepr ht (by decide)⟩, h.xt⟩ ⟨⟨xl, keepr hl (by decide)⟩, h.xl⟩, f⟩
theorem Nd.hear_len (n : Nd) (m : Ms) : (n.hear m).2.length ≤ n.conf.length + 3 := by
  have h1 := Nd.onAsk_len n m
  have h2 := Nd.onAnswer_len (n.onAsk m).1 m
  have h3 := Nd.onAppend_len ((n.onAsk m).1.onAnswer m).1 m
  have h4 := Nd.onAcked_len (((n.onAsk m).1.onAnswer m).1.onAppend m).1 m
  rw [(Nd.onAsk_up n m).conf] at h2
  show ((n.onAsk m).2 ++ ((n.onAsk m).1.onAnswer m).2 ++ (((n.onAsk m).1.onAnswer m).1.onAppend m).2 ++ ((((n.onAsk m).1.onAnswer m).1.onAppend m).1.onAcked m).2).length ≤ _
  simp only [List.length_append]
  omega
theorem own_lo {X : Nat → Prop} {B : Nat} {W : World} {v : Value} {mvs : List MV} (h : OwnMs X B W v mvs) : OwnMs X 0 W v mvs := h.lo (Nat.zero_le _)
theorem len_ms {mvs : List MV} {l : List Ms} (e : mvs.map MV.ms = l) (h : l.length ≤ 100) : mvs.length ≤ 100 := by rw [← e, List.length_map] at h; exact h
end
end Go.Proofs.Ytmjccpfchhnfhaa
