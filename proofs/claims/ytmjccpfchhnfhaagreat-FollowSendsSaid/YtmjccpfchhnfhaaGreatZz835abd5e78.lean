/- Texts of the proofs, part 41: what the functions that they reach do, walked; no conditions beyond those that each states. -/
import Derived.Test.YtmjccpfchhnfhaaGreatZz1c52068ca2
set_option linter.unusedVariables false
set_option linter.unusedSimpArgs false
/- Law 12: play, from the messages on (printed by play12b.py). -/
namespace Go.Proofs.YtmjccpfchhnfhaaGreat
open Go.RowKit
set_option linter.unusedVariables false
set_option linter.unusedSimpArgs false
theorem Nd.hear56_role (n : Nd) (m : Ms) (hk : m.kind = 5 ∨ m.kind = 6) (h : (n.hear m).1.role = 3) : n.role = 3 ∧ (n.hear m).1.tm = n.tm := by
 have e1 : n.onAsk m = (n, []) := by unfold Nd.onAsk; rw [if_neg (by omega)]
 have e2 : n.onAnswer m = (n, []) := by unfold Nd.onAnswer; rw [if_neg (by omega)]
 have e : (n.hear m).1 = ((n.onAppend m).1.onAcked m).1 := by unfold Nd.hear; rw [e1]; dsimp only; rw [e2]
 rw [e] at h ⊢
 have f0 : ∀ (x : Nd) (t : Nat) (l : Int), (x.follow t l).role = 0 := fun x t l => by unfold Nd.follow; split <;> rfl
 have su : ∀ x : Nd, x.sure.role = x.role ∧ x.sure.tm = x.tm := fun x => by unfold Nd.sure Nd.sureR; split <;> exact ⟨rfl, rfl⟩
 by_cases h5 : m.kind = 5
 ·have e3 : ∀ x : Nd, (x.onAcked m) = (x, []) := fun x => by unfold Nd.onAcked; rw [if_pos (by omega)]
  rw [e3] at h ⊢
  unfold Nd.onAppend at h ⊢
  rw [if_neg (by omega)] at h ⊢
  split at h
  ·rename_i hlt
   rw [if_pos hlt]
   exact ⟨h, rfl⟩
  ·have : (({ n.follow m.tm m.src with heard := true } : Nd).taken m).1.role = 0 := by
    unfold Nd.taken
    split <;> exact f0 _ _ _
   rw [this] at h
   exact absurd h (by decide)
 ·have e3 : (n.onAppend m) = (n, []) := by unfold Nd.onAppend; rw [if_pos (by omega)]
  rw [e3] at h ⊢
  dsimp only at h ⊢
  unfold Nd.onAcked at h ⊢
  rw [if_neg (by omega)] at h ⊢
  split at h
  ·exact absurd ((f0 _ _ _).symm.trans h) (by decide)
  ·rename_i h1
   rw [if_neg h1]
   split at h
   ·rename_i h2
    rw [if_pos h2]
    exact ⟨h, rfl⟩
   ·rename_i h2
    rw [if_neg h2]
    have ac : (n.acked m).role = n.role ∧ (n.acked m).tm = n.tm := by
     unfold Nd.acked
     split
     ·exact ⟨rfl, rfl⟩
     ·split
      ·exact su _
      ·exact ⟨rfl, rfl⟩
    split at h
    ·rename_i h3
     rw [if_pos h3]
     exact ⟨ac.1 ▸ h, ac.2⟩
    ·rename_i h3
     rw [if_neg h3]
     exact ⟨ac.1 ▸ h, ac.2⟩
theorem opR_same5 {ns : List Nd} {ms : List Ms} {d k : Int} {i : Nat} {hi : i < ns.length} {r : Nd × List Ms} (hd : d = 5) (h : opR ns ms d k i hi r) : r.1 = ns[i] := by
 subst hd
 rcases h with ⟨e, -⟩ | ⟨e, -⟩ | ⟨e, -⟩ | ⟨e, -⟩ | ⟨-, -, e⟩ | ⟨e, -⟩ | ⟨⟨-, -, -, -, e, -⟩, -⟩
 ·exact absurd e (by decide)
 ·exact absurd e (by decide)
 ·exact absurd e (by decide)
 ·exact absurd e (by decide)
 ·rw [e]
 ·exact absurd e (by decide)
 ·exact absurd rfl e
theorem opR_same3 {ns : List Nd} {ms : List Ms} {j i : Nat} {hi : i < ns.length} {r : Nd × List Ms} (h : opR ns ms 3 (j : Nat) i hi r) (hk : ∀ hj : j < ms.length, ms[j].kind = 5 ∨ ms[j].kind = 6) (hr : r.1.role = 3) : ns[i].role = 3 ∧ r.1.tm = ns[i].tm := by
 rcases h with ⟨e, -⟩ | ⟨e, -⟩ | ⟨-, j', hj', e, -, e2⟩ | ⟨e, -⟩ | ⟨e, -⟩ | ⟨e, -⟩ | ⟨⟨-, -, e, -⟩, -⟩
 ·exact absurd e (by decide)
 ·exact absurd e (by decide)
 ·obtain rfl : j = j' := by omega
  rw [e2] at hr ⊢
  exact Nd.hear56_role _ _ (hk hj') hr
 ·exact absurd e (by decide)
 ·exact absurd e (by decide)
 ·exact absurd e (by decide)
 ·exact absurd rfl e
section
variable {X : Nat → Prop} {wd : World} {G : Nat} {L : List Nx} {ms : List MV} {many : Int} {c : GV}
set_option maxRecDepth 100000 in
set_option maxHeartbeats 8000000 in
theorem pl12_tail1 [Old] [NoOld] {R : Ending → World → Prop} (h : Grp X wd G L ms many c) (i : Nat) (hi : i < L.length) (b : Nat) (n : Nd) (P : Nat → Prop) (hLi : L[i] = ⟨b, n, P⟩) (B0 : Nat → Prop) (hl : Low B0 X G c) (B : Nat) (hB : B ≤ 700000) (hbn : Bn (B + 2) n) (co tm : Nat) (hco : co ≤ B) (led : Bool) (hsm : n.role = 3 → led = true ∧ n.tm = tm) (hn : c.ns ≤ 800000 ∧ c.nt ≤ 800000 ∧ c.nl ≤ 800000) (v9 : Value) (mvs : List MV) (ow : OwnMs X 0 wd v9 mvs) (len : mvs.length ≤ 100) (hms : ms.length ≤ 700)
  (fin : ∀ ms' c' W, Grp X W G L ms' many c' → Low B0 X G c' → ms'.map MV.ms = (if ms.length < 600 then ms.map MV.ms ++ mvs.map MV.ms else ms.map MV.ms) → (c'.ns ≤ c.ns + 200 ∧ c'.nt ≤ c.nt + 1 ∧ c'.nl ≤ c.nl + 1) → Fr (fun q _ => B0 q) wd W → R (.returned (.tuple #[])) W)
  (u1 u2 u3 u4 u10 u11 u12 u13 u14 u15 u16 u17 u18 u19 u20 u21 u22 u23 u24 u25 u26 u27 u28 u29 u30 u31 u32 u33 u34 u35 u36 u37 u38 u39 u40 u41 u42 u43 u44 u45 u46 u47 u48 u49 u50 u51 u52 u53 u54 u55 u56 u57 u58 u59 u60 u61 u62 u63 u64 u65 u66 u67 u68 u69 u70 u71 u72 u73 u74 u75 u76 u77 u78 u79 u80 u81 u82 u83 u84 u85 u86 u87 u88 u89 u90 u91 u92 u93 u94 u95 u96 u97 u98 u99 u100 u101 u102 u103 u104 u105 u106 u107 u108 u109 u110 u111 u112 u113 u114 u115 u116 u117 u118 u119 u120 u121 u122 u123 u124 u125 u126 u127 u128 u129 u130 u131 u132 u133 u134 u135 u136 u137 u138 u139 u140 u141 u142 u143 u144 u145 u146 u147 u148 u149 u150 u151 u152 u153 u154 u155 u156 u157 u158 u159 u160 u161 u162 u163 u164 u165 u166 u167 u168 u169 u170 u171 u172 u173 u174 u175 u176 u177 u178 u179 u180 u181 u182 u183 u184 u185 u186 u187 u188 u189 u190 u191 u192 u193 u194 u195 u196 u197 u198 u199 u200 u201 u202 u203 u204 u205 u206 u207 u208 u209 u210 u211 u212 u213 u214 u215 u216 u217 u218 u219 u220 u221 : Value) : Code.wp Tryz.prog (seqR 10 (bodyC Tryz.f46.body)) (bodyPost Tryz.prog Tryz.f46 R) { tmps := #[.pointer (some ⟨G, 0, none⟩), u1, u2, u3, u4, .pointer (some ⟨b, 0, none⟩), .bool led, .int .u64 (tm : Nat), .int .u64 (co : Nat), v9, u10, u11, u12, u13, u14, u15, u16, u17, u18, u19, u20, u21, u22, u23, u24, u25, u26, u27, u28, u29, u30, u31, u32, u33, u34, u35, u36, u37, u38, u39, u40, u41, u42, u43, u44, u45, u46, u47, u48, u49, u50, u51, u52, u53, u54, u55, u56, u57, u58, u59, u60, u61, u62, u63, u64, u65, u66, u67, u68, u69, u70, u71, u72, u73, u74, u75, u76, u77, u78, u79, u80, u81, u82, u83, u84, u85, u86, u87, u88, u89, u90, u91, u92, u93, u94, u95, u96, u97, u98, u99, u100, u101, u102, u103, u104, u105, u106, u107, u108, u109, u110, u111, u112, u113, u114, u115, u116, u117, u118, u119, u120, u121, u122, u123, u124, u125, u126, u127, u128, u129, u130, u131, u132, u133, u134, u135, u136, u137, u138, u139, u140, u141, u142, u143, u144, u145, u146, u147, u148, u149, u150, u151, u152, u153, u154, u155, u156, u157, u158, u159, u160, u161, u162, u163, u164, u165, u166, u167, u168, u169, u170, u171, u172, u173, u174, u175, u176, u177, u178, u179, u180, u181, u182, u183, u184, u185, u186, u187, u188, u189, u190, u191, u192, u193, u194, u195, u196, u197, u198, u199, u200, u201, u202, u203, u204, u205, u206, u207, u208, u209, u210, u211, u212, u213, u214, u215, u216, u217, u218, u219, u220, u221], defers := [] } wd := by
 dsimp only [seqR, bodyC, Tryz.f46]
 have NQ0 := fun (c' : GV) (W : World) (hg : Grp X W G L ms many c') => hg.nodeQ hi hLi hbn
 obtain ⟨ro2, hro2⟩ : ∃ y, n.role = y := ⟨_, rfl⟩
 obtain ⟨tm2, htm2⟩ : ∃ y, n.tm = y := ⟨_, rfl⟩
 obtain ⟨co2, hco2⟩ : ∃ y, n.commit = y := ⟨_, rfl⟩
 obtain ⟨bs, hbs⟩ : ∃ y, n.log.base = y := ⟨_, rfl⟩
 obtain ⟨bt, hbt⟩ : ∃ y, n.log.bt = y := ⟨_, rfl⟩
 rw [hro2, htm2, hco2, hbs, hbt] at NQ0
 have NQ := Lib.hid NQ0
 have HG := Lib.hid h
 have HL := Lib.hid hl
 have HNN := Lib.hid hn
 have FIN := Lib.hid fin
 have HBN := Lib.hid hbn
 have HLI := Lib.hid hLi
 have HSQ := Lib.hid hsm
 clear hsm
 have MO := Lib.hid (And.intro ow len)
 have HMS := Lib.hid hms
 obtain ⟨g9, c9, hv9⟩ := ownsRow_form ow.row
 subst hv9
 obtain ⟨n9, hn9⟩ : ∃ x, mvs.length = x := ⟨_, rfl⟩
 have N9 := Lib.hid hn9
 obtain ⟨gm, lm, cm, hvm⟩ : ∃ gm lm cm, c.vm = .slice gm lm cm := by obtain ⟨g, c', e⟩ := ownsRow_form h.rm.row; exact ⟨g, _, c', e⟩
 have hlm : lm = ms.length := by obtain ⟨g, c', e⟩ := ownsRow_form h.rm.row; rw [hvm, Value.slice.injEq] at e; exact e.2.1
 have VM := Lib.hid (And.intro hvm hlm)
 have y1 : wd.cell? ⟨G, 1, none⟩ = some (.slice gm lm cm) := by rw [← hvm]; exact cell_mk h.top rfl
 have T0 : Hid (wd.heap[G]? = some (.cells (W6g c many) 111 (0, 0))) := h.top
 have OW : Hid (wd.ownsRow 0 32 10 (.slice gm lm cm) ms.length (ms.flatMap encM)) := by
  have := h.rm.row
  rw [hvm] at this
  exact this
 have RW : Hid (RowsAt (fun c _ => ¬ X c) wd (.slice g9 n9 c9) 10 encM mvs) := by
  have := ow.rows
  rw [hn9] at this
  exact this
 have hlm7 : lm ≤ 700 := by omega
 rw [hn9]
 clear h hl hn fin NQ0 hro2 htm2 hco2 hbs hbt ow len hn9 hvm hlm
 go_upto_region 25 with fail
 rename_i K3 h3 K2 h2
 have TAIL3 : ∀ (u1 u2 u3 u4 u10 u11 u12 u13 u14 u15 u16 u17 u18 u19 u20 u21 u22 u23 u24 u25 u26 u27 u28 u29 u30 u31 u32 u33 u34 u35 u36 u37 u38 u39 u40 u41 u42 u43 u44 u45 u46 u47 u48 u49 u50 u51 u52 u53 u54 u55 u56 u57 u58 u59 u60 u61 u62 u63 u64 u65 u66 u67 u68 u69 u70 u71 u72 u73 u74 u75 u76 u77 u78 u79 u80 u81 u82 u83 u84 u85 u86 u87 u88 u89 u90 u91 u92 u93 u94 u95 u96 u97 u98 u99 u100 u101 u102 u103 u104 u105 u106 u107 u108 u109 u110 u111 u112 u113 u114 u115 u116 u117 u118 u119 u120 u121 u122 u123 u124 u125 u126 u127 u128 u129 u130 u131 u132 u133 u134 u135 u136 u137 u138 u139 u140 u141 u142 u143 u144 u145 u146 u147 u148 u149 u150 u151 u152 u153 u154 u155 u156 u157 u158 u159 u160 u161 u162 u163 u164 u165 u166 u167 u168 u169 u170 u171 u172 u173 u174 u175 u176 u177 u178 u179 u180 u181 u182 u183 u184 u185 u186 u187 u188 u189 u190 u191 u192 u193 u194 u195 u196 u197 u198 u199 u200 u201 u202 u203 u204 u205 u206 u207 u208 u209 u210 u211 u212 u213 u214 u215 u216 u217 u218 u219 u220 u221 : Value) (v9 : Value) (we : World) (ms' : List MV) (c2 : GV), Hid (Grp X we G L ms' many c2) → Hid (Low B0 X G c2) → Hid (ms'.map MV.ms = (if ms.length < 600 then ms.map MV.ms ++ mvs.map MV.ms else ms.map MV.ms)) → Hid (c2.ns = c.ns ∧ c2.nt = c.nt ∧ c2.nl = c.nl) → Hid (Fr (fun q _ => B0 q) wd we) → K3 { tmps := #[.pointer (some ⟨G, 0, none⟩), u1, u2, u3, u4, .pointer (some ⟨b, 0, none⟩), .bool led, .int .u64 (tm : Nat), .int .u64 (co : Nat), v9, u10, u11, u12, u13, u14, u15, u16, u17, u18, u19, u20, u21, u22, u23, u24, u25, u26, u27, u28, u29, u30, u31, u32, u33, u34, u35, u36, u37, u38, u39, u40, u41, u42, u43, u44, u45, u46, u47, u48, u49, u50, u51, u52, u53, u54, u55, u56, u57, u58, u59, u60, u61, u62, u63, u64, u65, u66, u67, u68, u69, u70, u71, u72, u73, u74, u75, u76, u77, u78, u79, u80, u81, u82, u83, u84, u85, u86, u87, u88, u89, u90, u91, u92, u93, u94, u95, u96, u97, u98, u99, u100, u101, u102, u103, u104, u105, u106, u107, u108, u109, u110, u111, u112, u113, u114, u115, u116, u117, u118, u119, u120, u121, u122, u123, u124, u125, u126, u127, u128, u129, u130, u131, u132, u133, u134, u135, u136, u137, u138, u139, u140, u141, u142, u143, u144, u145, u146, u147, u148, u149, u150, u151, u152, u153, u154, u155, u156, u157, u158, u159, u160, u161, u162, u163, u164, u165, u166, u167, u168, u169, u170, u171, u172, u173, u174, u175, u176, u177, u178, u179, u180, u181, u182, u183, u184, u185, u186, u187, u188, u189, u190, u191, u192, u193, u194, u195, u196, u197, u198, u199, u200, u201, u202, u203, u204, u205, u206, u207, u208, u209, u210, u211, u212, u213, u214, u215, u216, u217, u218, u219, u220, u221], defers := [] } we := by
  clear h2 y1
  intros; rename_i v9 we ms' c2 G2 L2 M2 C2 F2
  refine h3 _ _ ?_
  clear h3
  obtain ⟨ae, le, ce, es0, hbl, NC0⟩ := G2.out.nodeQ hi hLi hbn
  obtain ⟨⟨x2, x6, x7, x8, x9, x10⟩, -⟩ := NC0 we (Fr.refl _ _)
  by_cases hr : n.role = 3
  rotate_left
  ·obtain ⟨rr, hrr⟩ : ∃ y, n.role = y := ⟨_, rfl⟩
   rw [hrr] at x2 hr
   have g2 : (rr == 3) = false := by simpa using hr
   have g3 : (rr != 3) = true := by rw [bne, g2]; rfl
   clear hr hrr hbn hLi NC0
   go_wp2
   (try simp only [Exit.inBlock, Exit.then])
   refine bodyPost_ret (results_none rfl _ _ _) rfl ?_
   exact FIN.out ms' c2 _ G2.out L2.out M2.out (by have := C2.out; omega) F2.out
  ·have HSM := Lib.hid (HSQ.out hr)
   rw [hr] at x2
   clear hr hbn hLi NC0
   go_upto_region 27 with fail
   rename_i K5 h5 K4 h4
   have APPK : ∀ (u1 u2 u3 u4 u10 u11 u12 u13 u14 u15 u16 u17 u18 u19 u20 u21 u22 u23 u24 u25 u26 u27 u28 u29 u30 u31 u32 u33 u34 u35 u36 u37 u38 u39 u40 u41 u42 u43 u44 u45 u46 u47 u48 u49 u50 u51 u52 u53 u54 u55 u56 u57 u58 u59 u60 u61 u62 u63 u64 u65 u66 u67 u68 u69 u70 u71 u72 u73 u74 u75 u76 u77 u78 u79 u80 u81 u82 u83 u84 u85 u86 u87 u88 u89 u90 u91 u92 u93 u94 u95 u96 u97 u98 u99 u100 u101 u102 u103 u104 u105 u106 u107 u108 u109 u110 u111 u112 u113 u114 u115 u116 u117 u118 u119 u120 u121 u122 u123 u124 u125 u126 u127 u128 u129 u130 u131 u132 u133 u134 u135 u136 u137 u138 u139 u140 u141 u142 u143 u144 u145 u146 u147 u148 u149 u150 u151 u152 u153 u154 u155 u156 u157 u158 u159 u160 u161 u162 u163 u164 u165 u166 u167 u168 u169 u170 u171 u172 u173 u174 u175 u176 u177 u178 u179 u180 u181 u182 u183 u184 u185 u186 u187 u188 u189 u190 u191 u192 u193 u194 u195 u196 u197 u198 u199 u200 u201 u202 u203 u204 u205 u206 u207 u208 u209 u210 u211 u212 u213 u214 u215 u216 u217 u218 u219 u220 u221 : Value) (v9 : Value), K5 { tmps := #[.pointer (some ⟨G, 0, none⟩), u1, u2, u3, u4, .pointer (some ⟨b, 0, none⟩), .bool led, .int .u64 (tm : Nat), .int .u64 (co : Nat), v9, u10, u11, u12, u13, u14, u15, u16, u17, u18, u19, u20, u21, u22, u23, u24, u25, u26, u27, u28, u29, u30, u31, u32, u33, u34, u35, u36, u37, u38, u39, u40, u41, u42, u43, u44, u45, u46, u47, u48, u49, u50, u51, u52, u53, u54, u55, u56, u57, u58, u59, u60, u61, u62, u63, u64, u65, u66, u67, u68, u69, u70, u71, u72, u73, u74, u75, u76, u77, u78, u79, u80, u81, u82, u83, u84, u85, u86, u87, u88, u89, u90, u91, u92, u93, u94, u95, u96, u97, u98, u99, u100, u101, u102, u103, u104, u105, u106, u107, u108, u109, u110, u111, u112, u113, u114, u115, u116, u117, u118, u119, u120, u121, u122, u123, u124, u125, u126, u127, u128, u129, u130, u131, u132, u133, u134, u135, u136, u137, u138, u139, u140, u141, u142, u143, u144, u145, u146, u147, u148, u149, u150, u151, u152, u153, u154, u155, u156, u157, u158, u159, u160, u161, u162, u163, u164, u165, u166, u167, u168, u169, u170, u171, u172, u173, u174, u175, u176, u177, u178, u179, u180, u181, u182, u183, u184, u185, u186, u187, u188, u189, u190, u191, u192, u193, u194, u195, u196, u197, u198, u199, u200, u201, u202, u203, u204, u205, u206, u207, u208, u209, u210, u211, u212, u213, u214, u215, u216, u217, u218, u219, u220, u221], defers := [] } we := by
    intros; rename_i v9
    exact h5 _ _ (by apply pl12_app1 G2.out i hi b n P HLI.out B0 L2.out B hB HBN.out co tm hco led HSM.out (by have := HNN.out; have := C2.out; omega) (fun c' W g1 g2 g3 g4 => FIN.out ms' c' W g1 g2 M2.out (by have := C2.out; omega) (F2.out.trans g4)))
   clear h5
   go_wp2
   apply APPK
 clear h3 hbn hLi
 by_cases h6 : lm < 600
 ·have g6 : decide (lm < 600) = true := decide_eq_true h6
  have g6' : (lm : Int) < 600 := by omega
  have H6 : Hid (ms.length < 600) := by have := VM.out.2; show _ < _; omega
  obtain ⟨N, hN⟩ : ∃ N, lm + n9 = N := ⟨_, rfl⟩
  have HN : Hid ((ms ++ mvs).length = N) := by show _ = _; rw [List.length_append, N9.out, ← VM.out.2, hN]
  have hn7 : N ≤ 1000000 := by have := MO.out.2; have := N9.out; omega
  clear h6 hN
  go_wp2_with (at_builtin; refine wpList_append_mso wd rfl _ _ rfl (.slice gm lm cm) ms rfl OW (.slice g9 n9 c9) mvs rfl RW N HN hn7 ?_)
  intro g5 c5 W5 O5 F5 N5
  have hgG : (Value.slice gm lm cm).ownBlock ≠ some G := fun e => by
   obtain ⟨cur, h8⟩ := own_tag OW.out e
   rw [T0.out] at h8
   cases h8
  have T5 := F5.out.keep _ _ T0.out hgG
  have y5 : W5.cell? ⟨G, 1, none⟩ = some (.slice gm lm cm) := by rw [← VM.out.1]; exact cell_mk T5 rfl
  have z5 := frozen_mk (i := 1) T5
  obtain ⟨W6, hW6⟩ : ∃ Y, W5.setCell ⟨G, 1, none⟩ (.slice g5 N c5) = Y := ⟨_, rfl⟩
  have f6 : Fr (fun k _ => k ≠ G) W5 W6 := hW6 ▸ (Fr.refl _ _).setCell (fun _ _ h => h rfl) _
  have T6 : W6.heap[G]? = some (.cells (W6g { c with vm := .slice g5 N c5 } many) 111 (0, 0)) := by rw [← hW6]; exact heap_setCell_same (o := 1) T5 _
  have A5 : OwnMs X 0 W5 (.slice g5 N c5) (ms ++ mvs) := OwnMs.app (v := .slice gm lm cm) (by have := HG.out.rm; rw [VM.out.1] at this; exact this) MO.out.1.at' HG.out.hx (by rw [HN.out]; first | exact O5.out | (rw [List.flatMap_append]; exact O5.out)) F5.out N5.out
  have GR := Lib.hid (HG.out.msgs (w' := W6) (vm' := .slice g5 N c5) ((F5.out.mono fun k _ h => by rw [← VM.out.1]; exact h.2).trans (f6.mono fun k _ h => h.1)) T6 (A5.grpset T5 f6))
  have LW : Hid (Low B0 X G { c with vm := .slice g5 N c5 }) := ⟨HL.out.g, HL.out.x, HL.out.n, fun q e => by
   rcases N5.out with h9 | ⟨k, h9, hk⟩
   ·exact HL.out.m q (by rw [VM.out.1]; exact h9 ▸ e)
   ·have e' : (Value.slice g5 N c5).ownBlock = some q := e
    rw [h9] at e'
    cases e'
    exact fun hq => by have := Nat.lt_of_lt_of_le (HL.out.b _ hq) HG.out.sz; omega, HL.out.s, HL.out.t, HL.out.l, HL.out.b⟩
  have FW : Hid (Fr (fun q _ => B0 q) wd W6) := ((F5.out.mono fun k _ h e => HL.out.m k (by rw [VM.out.1]; exact e) h).trans (f6.mono fun k _ h e => HL.out.g (e ▸ h)))
  clear hgG T5 f6 T6 A5 O5 F5 N5
  go_wp2
  try rw [hW6]
  clear hW6 y5 z5
  refine TAIL3 _ _ _ _ _ _ _ _ _ _ _ _ _ _ _ _ _ _ _ _ _ _ _ _ _ _ _ _ _ _ _ _ _ _ _ _ _ _ _ _ _ _ _ _ _ _ _ _ _ _ _ _ _ _ _ _ _ _ _ _ _ _ _ _ _ _ _ _ _ _ _ _ _ _ _ _ _ _ _ _ _ _ _ _ _ _ _ _ _ _ _ _ _ _ _ _ _ _ _ _ _ _ _ _ _ _ _ _ _ _ _ _ _ _ _ _ _ _ _ _ _ _ _ _ _ _ _ _ _ _ _ _ _ _ _ _ _ _ _ _ _ _ _ _ _ _ _ _ _ _ _ _ _ _ _ _ _ _ _ _ _ _ _ _ _ _ _ _ _ _ _ _ _ _ _ _ _ _ _ _ _ _ _ _ _ _ _ _ _ _ _ _ _ _ _ _ _ _ _ _ _ _ _ _ _ _ _ _ _ _ _ _ _ _ _ _ _ _ (ms ++ mvs) _ GR LW ?_ ⟨rfl, rfl, rfl⟩ FW
  show _ = _
  rw [if_pos H6.out, List.map_append]
 ·have g6 : decide (lm < 600) = false := decide_eq_false h6
  have g6' : ¬ (lm : Int) < 600 := by omega
  have H6 : Hid (¬ ms.length < 600) := by have := VM.out.2; show ¬ _ < _; omega
  clear h6
  go_wp2
  exact TAIL3 _ _ _ _ _ _ _ _ _ _ _ _ _ _ _ _ _ _ _ _ _ _ _ _ _ _ _ _ _ _ _ _ _ _ _ _ _ _ _ _ _ _ _ _ _ _ _ _ _ _ _ _ _ _ _ _ _ _ _ _ _ _ _ _ _ _ _ _ _ _ _ _ _ _ _ _ _ _ _ _ _ _ _ _ _ _ _ _ _ _ _ _ _ _ _ _ _ _ _ _ _ _ _ _ _ _ _ _ _ _ _ _ _ _ _ _ _ _ _ _ _ _ _ _ _ _ _ _ _ _ _ _ _ _ _ _ _ _ _ _ _ _ _ _ _ _ _ _ _ _ _ _ _ _ _ _ _ _ _ _ _ _ _ _ _ _ _ _ _ _ _ _ _ _ _ _ _ _ _ _ _ _ _ _ _ _ _ _ _ _ _ _ _ _ _ _ _ _ _ _ _ _ _ _ _ _ _ _ _ _ _ _ _ _ _ _ _ _ ms c HG HL (if_neg H6.out).symm ⟨rfl, rfl, rfl⟩ (Fr.refl _ _)
end
end Go.Proofs.YtmjccpfchhnfhaaGreat
