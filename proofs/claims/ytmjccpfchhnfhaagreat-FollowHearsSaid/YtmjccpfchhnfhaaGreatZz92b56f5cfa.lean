/- Texts of the proofs, part 43: what the functions that they reach do, walked; no conditions beyond those that each states. -/
import Derived.Test.YtmjccpfchhnfhaaGreatZz51eb917a7a
set_option linter.unusedVariables false
set_option linter.unusedSimpArgs false
/- Law 12: play, from the messages on (printed by play12b.py). -/
namespace Go.Proofs.YtmjccpfchhnfhaaGreat
open Go.RowKit
set_option linter.unusedVariables false
set_option linter.unusedSimpArgs false
theorem Nd.hear56_role (n : Nd) (m : Ms) (hk : m.kind = 5 ∨ m.kind = 6) (h : (n.hear m).1.role = 3) : n.role = 3 ∧ (n.hear m).1.tm = n.tm := by
 have e1 : n.onAsk m = (n, []) := by unfold Nd.onAsk; rw [if_neg (by omega)]
 have e2 : n.onAnswer m = (n, []) := by unfold Nd.onAnswer; rw [if_neg (by omega)]
 have e : (n.hear m).1 = ((n.onAppend m).1.onAcked m).1 := by unfold Nd.hear; rw [e1]; dsimp only; rw [e2]
 rw [e] at h ⊢
 have f0 : ∀ (x : Nd) (t : Nat) (l : Int), (x.follow t l).role = 0 := fun x t l => by unfold Nd.follow; split <;> rfl
 have su : ∀ x : Nd, x.sure.role = x.role ∧ x.sure.tm = x.tm := fun x => by unfold Nd.sure Nd.sureR; split <;> exact ⟨rfl, rfl⟩
 by_cases h5 : m.kind = 5
 ·have e3 : ∀ x : Nd, (x.onAcked m) = (x, []) := fun x => by unfold Nd.onAcked; rw [if_pos (by omega)]
  rw [e3] at h ⊢
  unfold Nd.onAppend at h ⊢
  rw [if_neg (by omega)] at h ⊢
  split at h
  ·rename_i hlt
   rw [if_pos hlt]
   exact ⟨h, rfl⟩
  ·have : (({ n.follow m.tm m.src with heard := true } : Nd).taken m).1.role = 0 := by
    unfold Nd.taken
    split <;> exact f0 _ _ _
   rw [this] at h
   exact absurd h (by decide)
 ·have e3 : (n.onAppend m) = (n, []) := by unfold Nd.onAppend; rw [if_pos (by omega)]
  rw [e3] at h ⊢
  dsimp only at h ⊢
  unfold Nd.onAcked at h ⊢
  rw [if_neg (by omega)] at h ⊢
  split at h
  ·exact absurd ((f0 _ _ _).symm.trans h) (by decide)
  ·rename_i h1
   rw [if_neg h1]
   split at h
   ·rename_i h2
    rw [if_pos h2]
    exact ⟨h, rfl⟩
   ·rename_i h2
    rw [if_neg h2]
    have ac : (n.acked m).role = n.role ∧ (n.acked m).tm = n.tm := by
     unfold Nd.acked
     split
     ·exact ⟨rfl, rfl⟩
     ·split
      ·exact su _
      ·exact ⟨rfl, rfl⟩
    split at h
    ·rename_i h3
     rw [if_pos h3]
     exact ⟨ac.1 ▸ h, ac.2⟩
    ·rename_i h3
     rw [if_neg h3]
     exact ⟨ac.1 ▸ h, ac.2⟩
theorem opR_same5 {ns : List Nd} {ms : List Ms} {d k : Int} {i : Nat} {hi : i < ns.length} {r : Nd × List Ms} (hd : d = 5) (h : opR ns ms d k i hi r) : r.1 = ns[i] := by
 subst hd
 rcases h with ⟨e, -⟩ | ⟨e, -⟩ | ⟨e, -⟩ | ⟨e, -⟩ | ⟨-, -, e⟩ | ⟨e, -⟩ | ⟨⟨-, -, -, -, e, -⟩, -⟩
 ·exact absurd e (by decide)
 ·exact absurd e (by decide)
 ·exact absurd e (by decide)
 ·exact absurd e (by decide)
 ·rw [e]
 ·exact absurd e (by decide)
 ·exact absurd rfl e
theorem opR_same3 {ns : List Nd} {ms : List Ms} {j i : Nat} {hi : i < ns.length} {r : Nd × List Ms} (h : opR ns ms 3 (j : Nat) i hi r) (hk : ∀ hj : j < ms.length, ms[j].kind = 5 ∨ ms[j].kind = 6) (hr : r.1.role = 3) : ns[i].role = 3 ∧ r.1.tm = ns[i].tm := by
 rcases h with ⟨e, -⟩ | ⟨e, -⟩ | ⟨-, j', hj', e, -, e2⟩ | ⟨e, -⟩ | ⟨e, -⟩ | ⟨e, -⟩ | ⟨⟨-, -, e, -⟩, -⟩
 ·exact absurd e (by decide)
 ·exact absurd e (by decide)
 ·obtain rfl : j = j' := by omega
  rw [e2] at hr ⊢
  exact Nd.hear56_role _ _ (hk hj') hr
 ·exact absurd e (by decide)
 ·exact absurd e (by decide)
 ·exact absurd e (by decide)
 ·exact absurd rfl e
section
variable {X : Nat → Prop} {wd : World} {G : Nat} {L : List Nx} {ms : List MV} {many : Int} {c : GV}
set_option maxRecDepth 100000 in
set_option maxHeartbeats 8000000 in
theorem pl12_tail1 [Old] [NoOld] {R : Ending → World → Prop} (h : Grp X wd G L ms many c) (i : Nat) (hi : i < L.length) (b : Nat) (n : Nd) (P : Nat → Prop) (hLi : L[i] = ⟨b, n, P⟩) (B0 : Nat → Prop) (hl : Low B0 X G c) (B : Nat) (hB : B ≤ 700000) (hbn : Bn (B + 2) n) (co tm : Nat) (hco : co ≤ B) (led : Bool) (hsm : n.role = 3 → led = true ∧ n.tm = tm) (hn : c.ns ≤ 800000 ∧ c.nt ≤ 800000 ∧ c.nl ≤ 800000) (v9 : Value) (mvs : List MV) (ow : OwnMs X 0 wd v9 mvs) (len : mvs.length ≤ 100) (hms : ms.length ≤ 700)
  (fin : ∀ ms' c' W, Grp X W G L ms' many c' → Low B0 X G c' → ms'.map MV.ms = (if ms.length < 600 then ms.map MV.ms ++ mvs.map MV.ms else ms.map MV.ms) → (c'.ns ≤ c.ns + 200 ∧ c'.nt ≤ c.nt + 1 ∧ c'.nl ≤ c.nl + 1) → Fr (fun q _ => B0 q) wd W → R (.returned (.tuple #[])) W)
  (u1 u2 u3 u4 u10 u11 u12 u13 u14 u15 u16 u17 u18 u19 u20 u21 u22 u23 u24 u25 u26 u27 u28 u29 u30 u31 u32 u33 u34 u35 u36 u37 u38 u39 u40 u41 u42 u43 u44 u45 u46 u47 u48 u49 u50 u51 u52 u53 u54 u55 u56 u57 u58 u59 u60 u61 u62 u63 u64 u65 u66 u67 u68 u69 u70 u71 u72 u73 u74 u75 u76 u77 u78 u79 u80 u81 u82 u83 u84 u85 u86 u87 u88 u89 u90 u91 u92 u93 u94 u95 u96 u97 u98 u99 u100 u101 u102 u103 u104 u105 u106 u107 u108 u109 u110 u111 u112 u113 u114 u115 u116 u117 u118 u119 u120 u121 u122 u123 u124 u125 u126 u127 u128 u129 u130 u131 u132 u133 u134 u135 u136 u137 u138 u139 u140 u141 u142 u143 u144 u145 u146 u147 u148 u149 u150 u151 u152 u153 u154 u155 u156 u157 u158 u159 u160 u161 u162 u163 u164 u165 u166 u167 u168 u169 u170 u171 u172 u173 u174 u175 u176 u177 u178 u179 u180 u181 u182 u183 u184 u185 u186 u187 u188 u189 u190 u191 u192 u193 u194 u195 u196 u197 u198 u199 u200 u201 u202 u203 u204 u205 u206 u207 u208 u209 u210 u211 u212 u213 u214 u215 u216 u217 u218 u219 u220 u221 : Value) : Code.wp Tryz.prog (seqR 10 (bodyC Tryz.f46.body)) (bodyPost Tryz.prog Tryz.f46 R) { tmps := #[.pointer (some ⟨G, 0, none⟩), u1, u2, u3, u4, .pointer (some ⟨b, 0, none⟩), .bool led, .int .u64 (tm : Nat), .int .u64 (co : Nat), v9, u10, u11, u12, u13, u14, u15, u16, u17, u18, u19, u20, u21, u22, u23, u24, u25, u26, u27, u28, u29, u30, u31, u32, u33, u34, u35, u36, u37, u38, u39, u40, u41, u42, u43, u44, u45, u46, u47, u48, u49, u50, u51, u52, u53, u54, u55, u56, u57, u58, u59, u60, u61, u62, u63, u64, u65, u66, u67, u68, u69, u70, u71, u72, u73, u74, u75, u76, u77, u78, u79, u80, u81, u82, u83, u84, u85, u86, u87, u88, u89, u90, u91, u92, u93, u94, u95, u96, u97, u98, u99, u100, u101, u102, u103, u104, u105, u106, u107, u108, u109, u110, u111, u112, u113, u114, u115, u116, u117, u118, u119, u120, u121, u122, u123, u124, u125, u126, u127, u128, u129, u130, u131, u132, u133, u134, u135, u136, u137, u138, u139, u140, u141, u142, u143, u144, u145, u146, u147, u148, u149, u150, u151, u152, u153, u154, u155, u156, u157, u158, u159, u160, u161, u162, u163, u164, u165, u166, u167, u168, u169, u170, u171, u172, u173, u174, u175, u176, u177, u178, u179, u180, u181, u182, u183, u184, u185, u186, u187, u188, u189, u190, u191, u192, u193, u194, u195, u196, u197, u198, u199, u200, u201, u202, u203, u204, u205, u206, u207, u208, u209, u210, u211, u212, u213, u214, u215, u216, u217, u218, u219, u220, u221], defers := [] } wd := by
 dsimp only [seqR, bodyC, Tryz.f46]
 have NQ0 := fun (c' : GV) (W : World) (hg : Grp X W G L ms many c') => hg.nodeQ hi hLi hbn
 obtain ⟨ro2, hro2⟩ : ∃ y, n.role = y := ⟨_, rfl⟩
 obtain ⟨tm2, htm2⟩ : ∃ y, n.tm = y := ⟨_, rfl⟩
 obtain ⟨co2, hco2⟩ : ∃ y, n.commit = y := ⟨_, rfl⟩
 obtain ⟨bs, hbs⟩ : ∃ y, n.log.base = y := ⟨_, rfl⟩
 obtain ⟨bt, hbt⟩ : ∃ y, n.log.bt = y := ⟨_, rfl⟩
 rw [hro2, htm2, hco2, hbs, hbt] at NQ0
 have NQ := Lib.hid NQ0
 have HG := Lib.hid h
 have HL := Lib.hid hl
 have HNN := Lib.hid hn
 have FIN := Lib.hid fin
 have HBN := Lib.hid hbn
 have HLI := Lib.hid hLi
 have HSQ := Lib.hid hsm
 clear hsm
 have MO := Lib.hid (And.intro ow len)
 have HMS := Lib.hid hms
 obtain ⟨g9, c9, hv9⟩ := ownsRow_form ow.row
 subst hv9
 obtain ⟨n9, hn9⟩ : ∃ x, mvs.length = x := ⟨_, rfl⟩
 have N9 := Lib.hid hn9
 obtain ⟨gm, lm, cm, hvm⟩ : ∃ gm lm cm, c.vm = .slice gm lm cm := by obtain ⟨g, c', e⟩ := ownsRow_form h.rm.row; exact ⟨g, _, c', e⟩
 have hlm : lm = ms.length := by obtain ⟨g, c', e⟩ := ownsRow_form h.rm.row; rw [hvm, Value.slice.injEq] at e; exact e.2.1
 have VM := Lib.hid (And.intro hvm hlm)
 have y1 : wd.cell? ⟨G, 1, none⟩ = some (.slice gm lm cm) := by rw [← hvm]; exact cell_mk h.top rfl
 have T0 : Hid (wd.heap[G]? = some (.cells (W6g c many) 111 (0, 0))) := h.top
 have OW : Hid (wd.ownsRow 0 32 10 (.slice gm lm cm) ms.length (ms.flatMap encM)) := by
  have := h.rm.row
  rw [hvm] at this
  exact this
 have RW : Hid (RowsAt (fun c _ => ¬ X c) wd (.slice g9 n9 c9) 10 encM mvs) := by
  have := ow.rows
  rw [hn9] at this
  exact this
 have hlm7 : lm ≤ 700 := by omega
 rw [hn9]
 clear h hl hn fin NQ0 hro2 htm2 hco2 hbs hbt ow len hn9 hvm hlm
 go_upto_region 25 with fail
 rename_i K3 h3 K2 h2
 have TAIL3 : ∀ (u1 u2 u3 u4 u10 u11 u12 u13 u14 u15 u16 u17 u18 u19 u20 u21 u22 u23 u24 u25 u26 u27 u28 u29 u30 u31 u32 u33 u34 u35 u36 u37 u38 u39 u40 u41 u42 u43 u44 u45 u46 u47 u48 u49 u50 u51 u52 u53 u54 u55 u56 u57 u58 u59 u60 u61 u62 u63 u64 u65 u66 u67 u68 u69 u70 u71 u72 u73 u74 u75 u76 u77 u78 u79 u80 u81 u82 u83 u84 u85 u86 u87 u88 u89 u90 u91 u92 u93 u94 u95 u96 u97 u98 u99 u100 u101 u102 u103 u104 u105 u106 u107 u108 u109 u110 u111 u112 u113 u114 u115 u116 u117 u118 u119 u120 u121 u122 u123 u124 u125 u126 u127 u128 u129 u130 u131 u132 u133 u134 u135 u136 u137 u138 u139 u140 u141 u142 u143 u144 u145 u146 u147 u148 u149 u150 u151 u152 u153 u154 u155 u156 u157 u158 u159 u160 u161 u162 u163 u164 u165 u166 u167 u168 u169 u170 u171 u172 u173 u174 u175 u176 u177 u178 u179 u180 u181 u182 u183 u184 u185 u186 u187 u188 u189 u190 u191 u192 u193 u194 u195 u196 u197 u198 u199 u200 u201 u202 u203 u204 u205 u206 u207 u208 u209 u210 u211 u212 u213 u214 u215 u216 u217 u218 u219 u220 u221 : Value) (v9 : Value) (we : World) (ms' : List MV) (c2 : GV), Hid (Grp X we G L ms' many c2) → Hid (Low B0 X G c2) → Hid (ms'.map MV.ms = (if ms.length < 600 then ms.map MV.ms ++ mvs.map MV.ms else ms.map MV.ms)) → Hid (c2.ns = c.ns ∧ c2.nt = c.nt ∧ c2.nl = c.nl) → Hid (Fr (fun q _ => B0 q) wd we) → K3 { tmps := #[.pointer (some ⟨G, 0, none⟩), u1, u2, u3, u4, .pointer (some ⟨b, 0, none⟩), .bool led, .int .u64 (tm : Nat), .int .u64 (co : Nat), v9, u10, u11, u12, u13, u14, u15, u16, u17, u18, u19, u20, u21, u22, u23, u24, u25, u26, u27, u28, u29, u30, u31, u32, u33, u34, u35, u36, u37, u38, u39, u40, u41, u42, u43, u44, u45, u46, u47, u48, u49, u50, u51, u52, u53, u54, u55, u56, u57, u58, u59, u60, u61, u62, u63, u64, u65, u66, u67, u68, u69, u70, u71, u72, u73, u74, u75, u76, u77, u78, u79, u80, u81, u82, u83, u84, u85, u86, u87, u88, u89, u90, u91, u92, u93, u94, u95, u96, u97, u98, u99, u100, u101, u102, u103, u104, u105, u106, u107, u108, u109, u110, u111, u112, u113, u114, u115, u116, u117, u118, u119, u120, u121, u122, u123, u124, u125, u126, u127, u128, u129, u130, u131, u132, u133, u134, u135, u136, u137, u138, u139, u140, u141, u142, u143, u144, u145, u146, u147, u148, u149, u150, u151, u152, u153, u154, u155, u156, u157, u158, u159, u160, u161, u162, u163, u164, u165, u166, u167, u168, u169, u170, u171, u172, u173, u174, u175, u176, u177, u178, u179, u180, u181, u182, u183, u184, u185, u186, u187, u188, u189, u190, u191, u192, u193, u194, u195, u196, u197, u198, u199, u200, u201, u202, u203, u204, u205, u206, u207, u208, u209, u210, u211, u212, u213, u214, u215, u216, u217, u218, u219, u220, u221], defers := [] } we := by
  clear h2 y1
  intros; rename_i v9 we ms' c2 G2 L2 M2 C2 F2
  refine h3 _ _ ?_
  clear h3
  obtain ⟨ae, le, ce, es0, hbl, NC0⟩ := G2.out.nodeQ hi hLi hbn
  obtain ⟨⟨x2, x6, x7, x8, x9, x10⟩, -⟩ := NC0 we (Fr.refl _ _)
  by_cases hr : n.role = 3
  rotate_left
  ·obtain ⟨rr, hrr⟩ : ∃ y, n.role = y := ⟨_, rfl⟩
   rw [hrr] at x2 hr
   have g2 : (rr == 3) = false := by simpa using hr
   have g3 : (rr != 3) = true := by rw [bne, g2]; rfl
   clear hr hrr hbn hLi NC0
   go_wp2
   (try simp only [Exit.inBlock, Exit.then])
   refine bodyPost_ret (results_none rfl _ _ _) rfl ?_
   exact FIN.out ms' c2 _ G2.out L2.out M2.out (by have := C2.out; omega) F2.out
  ·have HSM := Lib.hid (HSQ.out hr)
   rw [hr] at x2
   clear hr hbn hLi NC0
   go_upto_region 27 with fail
   rename_i K5 h5 K4 h4
   have APPK : ∀ (u1 u2 u3 u4 u10 u11 u12 u13 u14 u15 u16 u17 u18 u19 u20 u21 u22 u23 u24 u25 u26 u27 u28 u29 u30 u31 u32 u33 u34 u35 u36 u37 u38 u39 u40 u41 u42 u43 u44 u45 u46 u47 u48 u49 u50 u51 u52 u53 u54 u55 u56 u57 u58 u59 u60 u61 u62 u63 u64 u65 u66 u67 u68 u69 u70 u71 u72 u73 u74 u75 u76 u77 u78 u79 u80 u81 u82 u83 u84 u85 u86 u87 u88 u89 u90 u91 u92 u93 u94 u95 u96 u97 u98 u99 u100 u101 u102 u103 u104 u105 u106 u107 u108 u109 u110 u111 u112 u113 u114 u115 u116 u117 u118 u119 u120 u121 u122 u123 u124 u125 u126 u127 u128 u129 u130 u131 u132 u133 u134 u135 u136 u137 u138 u139 u140 u141 u142 u143 u144 u145 u146 u147 u148 u149 u150 u151 u152 u153 u154 u155 u156 u157 u158 u159 u160 u161 u162 u163 u164 u165 u166 u167 u168 u169 u170 u171 u172 u173 u174 u175 u176 u177 u178 u179 u180 u181 u182 u183 u184 u185 u186 u187 u188 u189 u190 u191 u192 u193 u194 u195 u196 u197 u198 u199 u200 u201 u202 u203 u204 u205 u206 u207 u208 u209 u210 u211 u212 u213 u214 u215 u216 u217 u218 u219 u220 u221 : Value) (v9 : Value), K5 { tmps := #[.pointer (some ⟨G, 0, none⟩), u1, u2, u3, u4, .pointer (some ⟨b, 0, none⟩), .bool led, .int .u64 (tm : Nat), .int .u64 (co : Nat), v9, u10, u11, u12, u13, u14, u15, u16, u17, u18, u19, u20, u21, u22, u23, u24, u25, u26, u27, u28, u29, u30, u31, u32, u33, u34, u35, u36, u37, u38, u39, u40, u41, u42, u43, u44, u45, u46, u47, u48, u49, u50, u51, u52, u53, u54, u55, u56, u57, u58, u59, u60, u61, u62, u63, u64, u65, u66, u67, u68, u69, u70, u71, u72, u73, u74, u75, u76, u77, u78, u79, u80, u81, u82, u83, u84, u85, u86, u87, u88, u89, u90, u91, u92, u93, u94, u95, u96, u97, u98, u99, u100, u101, u102, u103, u104, u105, u106, u107, u108, u109, u110, u111, u112, u113, u114, u115, u116, u117, u118, u119, u120, u121, u122, u123, u124, u125, u126, u127, u128, u129, u130, u131, u132, u133, u134, u135, u136, u137, u138, u139, u140, u141, u142, u143, u144, u145, u146, u147, u148, u149, u150, u151, u152, u153, u154, u155, u156, u157, u158, u159, u160, u161, u162, u163, u164, u165, u166, u167, u168, u169, u170, u171, u172, u173, u174, u175, u176, u177, u178, u179, u180, u181, u182, u183, u184, u185, u186, u187, u188, u189, u190, u191, u192, u193, u194, u195, u196, u197, u198, u199, u200, u201, u202, u203, u204, u205, u206, u207, u208, u209, u210, u211, u212, u213, u214, u215, u216, u217, u218, u219, u220, u221], defers := [] } we := by
    intros; rename_i v9
    exact h5 _ _ (by apply pl12_app1 G2.out i hi b n P HLI.out B0 L2.out B hB HBN.out co tm hco led HSM.out (by have := HNN.out; have := C2.out; omega) (fun c' W g1 g2 g3 g4 => FIN.out ms' c' W g1 g2 M2.out (by have := C2.out; omega) (F2.out.trans g4)))
   clear h5
   go_wp2
   apply APPK
 clear h3 hbn hLi
 by_cases h6 : lm < 600
 ·have g6 : decide (lm < 600) = true := decide_eq_true h6
  have g6' : (lm : Int) < 600 := by omega
  have H6 : Hid (ms.length < 600) := by have := VM.out.2; show _ < _; omega
  obtain ⟨N, hN⟩ : ∃ N, lm + n9 = N := ⟨_, rfl⟩
  have HN : Hid ((ms ++ mvs).length = N) := by show _ = _; rw [List.length_append, N9.out, ← VM.out.2, hN]
  have hn7 : N ≤ 1000000 := by have := MO.out.2; have := N9.out; omega
  clear h6 hN
  go_wp2_with (at_builtin; refine wpList_append_mso wd rfl _ _ rfl (.slice gm lm cm) ms rfl OW (.slice g9 n9 c9) mvs rfl RW N HN hn7 ?_)
  intro g5 c5 W5 O5 F5 N5
  have hgG : (Value.slice gm lm cm).ownBlock ≠ some G := fun e => by
   obtain ⟨cur, h8⟩ := own_tag OW.out e
   rw [T0.out] at h8
   cases h8
  have T5 := F5.out.keep _ _ T0.out hgG
  have y5 : W5.cell? ⟨G, 1, none⟩ = some (.slice gm lm cm) := by rw [← VM.out.1]; exact cell_mk T5 rfl
  have z5 := frozen_mk (i := 1) T5
  obtain ⟨W6, hW6⟩ : ∃ Y, W5.setCell ⟨G, 1, none⟩ (.slice g5 N c5) = Y := ⟨_, rfl⟩
  have f6 : Fr (fun k _ => k ≠ G) W5 W6 := hW6 ▸ (Fr.refl _ _).setCell (fun _ _ h => h rfl) _
  have T6 : W6.heap[G]? = some (.cells (W6g { c with vm := .slice g5 N c5 } many) 111 (0, 0)) := by rw [← hW6]; exact heap_setCell_same (o := 1) T5 _
  have A5 : OwnMs X 0 W5 (.slice g5 N c5) (ms ++ mvs) := OwnMs.app (v := .slice gm lm cm) (by have := HG.out.rm; rw [VM.out.1] at this; exact this) MO.out.1.at' HG.out.hx (by rw [HN.out]; first | exact O5.out | (rw [List.flatMap_append]; exact O5.out)) F5.out N5.out
  have GR := Lib.hid (HG.out.msgs (w' := W6) (vm' := .slice g5 N c5) ((F5.out.mono fun k _ h => by rw [← VM.out.1]; exact h.2).trans (f6.mono fun k _ h => h.1)) T6 (A5.grpset T5 f6))
  have LW : Hid (Low B0 X G { c with vm := .slice g5 N c5 }) := ⟨HL.out.g, HL.out.x, HL.out.n, fun q e => by
   rcases N5.out with h9 | ⟨k, h9, hk⟩
   ·exact HL.out.m q (by rw [VM.out.1]; exact h9 ▸ e)
   ·have e' : (Value.slice g5 N c5).ownBlock = some q := e
    rw [h9] at e'
    cases e'
    exact fun hq => by have := Nat.lt_of_lt_of_le (HL.out.b _ hq) HG.out.sz; omega, HL.out.s, HL.out.t, HL.out.l, HL.out.b⟩
  have FW : Hid (Fr (fun q _ => B0 q) wd W6) := ((F5.out.mono fun k _ h e => HL.out.m k (by rw [VM.out.1]; exact e) h).trans (f6.mono fun k _ h e => HL.out.g (e ▸ h)))
  clear hgG T5 f6 T6 A5 O5 F5 N5
  go_wp2
  try rw [hW6]
  clear hW6 y5 z5
  refine TAIL3 _ _ _ _ _ _ _ _ _ _ _ _ _ _ _ _ _ _ _ _ _ _ _ _ _ _ _ _ _ _ _ _ _ _ _ _ _ _ _ _ _ _ _ _ _ _ _ _ _ _ _ _ _ _ _ _ _ _ _ _ _ _ _ _ _ _ _ _ _ _ _ _ _ _ _ _ _ _ _ _ _ _ _ _ _ _ _ _ _ _ _ _ _ _ _ _ _ _ _ _ _ _ _ _ _ _ _ _ _ _ _ _ _ _ _ _ _ _ _ _ _ _ _ _ _ _ _ _ _ _ _ _ _ _ _ _ _ _ _ _ _ _ _ _ _ _ _ _ _ _ _ _ _ _ _ _ _ _ _ _ _ _ _ _ _ _ _ _ _ _ _ _ _ _ _ _ _ _ _ _ _ _ _ _ _ _ _ _ _ _ _ _ _ _ _ _ _ _ _ _ _ _ _ _ _ _ _ _ _ _ _ _ _ _ _ _ _ _ (ms ++ mvs) _ GR LW ?_ ⟨rfl, rfl, rfl⟩ FW
  show _ = _
  rw [if_pos H6.out, List.map_append]
 ·have g6 : decide (lm < 600) = false := decide_eq_false h6
  have g6' : ¬ (lm : Int) < 600 := by omega
  have H6 : Hid (¬ ms.length < 600) := by have := VM.out.2; show ¬ _ < _; omega
  clear h6
  go_wp2
  exact TAIL3 _ _ _ _ _ _ _ _ _ _ _ _ _ _ _ _ _ _ _ _ _ _ _ _ _ _ _ _ _ _ _ _ _ _ _ _ _ _ _ _ _ _ _ _ _ _ _ _ _ _ _ _ _ _ _ _ _ _ _ _ _ _ _ _ _ _ _ _ _ _ _ _ _ _ _ _ _ _ _ _ _ _ _ _ _ _ _ _ _ _ _ _ _ _ _ _ _ _ _ _ _ _ _ _ _ _ _ _ _ _ _ _ _ _ _ _ _ _ _ _ _ _ _ _ _ _ _ _ _ _ _ _ _ _ _ _ _ _ _ _ _ _ _ _ _ _ _ _ _ _ _ _ _ _ _ _ _ _ _ _ _ _ _ _ _ _ _ _ _ _ _ _ _ _ _ _ _ _ _ _ _ _ _ _ _ _ _ _ _ _ _ _ _ _ _ _ _ _ _ _ _ _ _ _ _ _ _ _ _ _ _ _ _ _ _ _ _ _ ms c HG HL (if_neg H6.out).symm ⟨rfl, rfl, rfl⟩ (Fr.refl _ _)
end
end Go.Proofs.YtmjccpfchhnfhaaGreat
/- Law 12: play, d = 3 (printed by play12c.py). -/
namespace Go.Proofs.YtmjccpfchhnfhaaGreat
open Go.RowKit
set_option linter.unusedVariables false
set_option linter.unusedSimpArgs false
section
variable {X : Nat → Prop} {w : World} {G : Nat} {l : List Nx} {ms : List MV} {many : Int} {c : GV}
set_option maxRecDepth 100000 in
set_option maxHeartbeats 8000000 in
theorem pl12V3 [Old] [NoOld] (h : Grp X w G l ms many c) (B0 : Nat → Prop) (hl : Low B0 X G c) (B : Nat) (ok : GOk B l ms many c) (d k : Int) (h3 : d = 3) (j : Nat) (hj : j < ms.length) (hkj : k = (j : Nat)) (i : Nat) (hi : i < l.length) (hdi : ms[j].dst = (i : Nat)) (hk56 : ms[j].kind = 5 ∨ ms[j].kind = 6) (HRS : ∀ (W : World) (q : NV), PNs X l[i].P W l[i].b l[i].n q → MsAt X W ms[j] → Calls Tryz.prog 99 #[.pointer (some ⟨l[i].b, 0, none⟩), .agg (cM ms[j])] W fun e w' => NOut X l[i].P W l[i].b (l[i].n.hear ms[j].ms) e w') :
  Calls Tryz.prog 46 #[.pointer (some ⟨G, 0, none⟩), .agg #[.int .i64 d, .int .i64 k]] w fun e w' => PlOut B0 w G l ms many c d k e w' := by
 obtain ⟨W1, hW1, F1, o0, o1⟩ := obox w d k
 have H := Lib.hid h
 have HL := Lib.hid hl
 have OK := Lib.hid ok
 have HRH := Lib.hid HRS
 have HK56 := Lib.hid hk56
 clear hk56
 clear HRS
 obtain ⟨gm, lm, cm, hvm⟩ : ∃ gm lm cm, c.vm = .slice gm lm cm := by obtain ⟨g, c', e⟩ := ownsRow_form h.rm.row; exact ⟨g, _, c', e⟩
 obtain ⟨gn, ln, cn, hvn⟩ : ∃ gn ln cn, c.vn = .slice gn ln cn := by obtain ⟨g, c', e⟩ := ownsRow_form h.rn; exact ⟨g, _, c', e⟩
 have hlm : lm = ms.length := by obtain ⟨g, c', e⟩ := ownsRow_form h.rm.row; rw [hvm] at e; cases e; rfl
 have hln : ln = l.length := by obtain ⟨g, c', e⟩ := ownsRow_form h.rn; rw [hvn] at e; cases e; rfl
 have t1 := F1.out.keep _ _ h.top trivial
 have y0 : W1.cell? ⟨G, 0, none⟩ = some (.slice gn ln cn) := by rw [← hvn]; exact cell_mk t1 rfl
 have y1 : W1.cell? ⟨G, 1, none⟩ = some (.slice gm lm cm) := by rw [← hvm]; exact cell_mk t1 rfl
 subst h3
 subst hkj
 obtain ⟨gm2, off, cm2, hvm2, HCM⟩ := h.mcell j hj
 have HMC := Lib.hid HCM
 have hjI : (j : Int) < (lm : Int) := by omega
 have hjI' : ¬ (lm : Int) ≤ (j : Int) := by omega
 have h0' : ¬ (j : Int) < 0 := by omega
 obtain ⟨dst, hdst⟩ : ∃ x, ms[j].dst = x := ⟨_, rfl⟩
 have egm : gm = some ⟨gm2, off, none⟩ ∧ cm = cm2 := by rw [hvm] at hvm2; cases hvm2; exact ⟨rfl, rfl⟩
 obtain ⟨e1, e2⟩ := egm
 subst e1 e2
 have DS : Hid (∀ W, Fr (fun _ _ => True) w W → W.cell? ⟨gm2, off + j * 10 + 2, none⟩ = some (.int .i64 dst)) := fun W f => by rw [← hdst]; exact (HCM W f).2.2.1
 have YY : Hid (∀ W, Fr (fun _ _ => True) w W → W.cell? ⟨G, 0, none⟩ = some (.slice gn ln cn) ∧ W.cell? ⟨G, 1, none⟩ = some (.slice (some ⟨gm2, off, none⟩) lm cm)) := fun W f => ⟨by rw [← hvn]; exact cell_mk (f.keep _ _ h.top trivial) rfl, by rw [← hvm]; exact cell_mk (f.keep _ _ h.top trivial) rfl⟩
 obtain rfl : dst = (i : Nat) := by rw [← hdst]; exact hdi
 have hiI : (i : Int) < (ln : Int) := by omega
 have hiI' : ¬ (ln : Int) ≤ (i : Int) := by omega
 have hi0 : ¬ (i : Int) < 0 := by omega
 obtain ⟨gn2, cn2, hvn2, HNC⟩ := h.nrow (by omega)
 have egn : gn = some ⟨gn2, 0, none⟩ ∧ cn = cn2 := by rw [hvn] at hvn2; cases hvn2; exact ⟨rfl, rfl⟩
 obtain ⟨e3, e4⟩ := egn
 subst e3 e4
 obtain ⟨x, hx⟩ : ∃ x, l[i] = x := ⟨_, rfl⟩
 have hxl : x ∈ l := hx ▸ List.getElem_mem hi
 obtain ⟨qx, hqx⟩ := h.nd x hxl
 obtain ⟨b, hb⟩ : ∃ b, x.b = b := ⟨_, rfl⟩
 obtain ⟨ro, hro⟩ : ∃ y, x.n.role = y := ⟨_, rfl⟩
 obtain ⟨tm, htm⟩ : ∃ y, x.n.tm = y := ⟨_, rfl⟩
 obtain ⟨co, hco⟩ : ∃ y, x.n.commit = y := ⟨_, rfl⟩
 rw [hb] at hqx
 have XC : Hid (∀ W, Fr (fun _ _ => True) w W → W.cell? ⟨gn2, i, none⟩ = some (.pointer (some ⟨b, 0, none⟩)) ∧ W.cell? ⟨b, 2, none⟩ = some (.int .i64 ro) ∧ W.cell? ⟨b, 6, none⟩ = some (.int .u64 (tm : Nat)) ∧ W.cell? ⟨b, 7, none⟩ = some (.int .u64 (co : Nat))) := fun W f => by
  obtain ⟨x0, x1, x2, x3, x4, x5, x6, x7, x8, x9, x10, x11, x12, x13⟩ := hqx.cells f
  exact ⟨by rw [← hb, ← hx]; exact HNC i hi W f, by rw [x2, hro], by rw [x6, htm], by rw [x7, hco]⟩
 have HQX := Lib.hid hqx
 have HXX := Lib.hid (And.intro hx (And.intro hxl (And.intro hb (And.intro hro (And.intro htm hco)))))
 have HV := Lib.hid (And.intro hvm (And.intro hvn (And.intro hlm hln)))
 have HDJ := Lib.hid hdst
 clear h hl ok t1 hvm hvn hlm hln hvn2 HNC hx hxl hqx hb hro htm hco hdi hdst hvm2 HCM
 go_enter Tryz.func46, Tryz.ntmps46
 go_wp2_with fail
 try rw [hW1]
 clear hW1
 go_quiet (fail)
 have o0q : (W1.drewN nq).cell? ⟨w.heap.size, 0, none⟩ = some (.int .i64 3) := ((Fr.refl (fun _ _ => True) W1).drewN nq).cell (fun _ _ => trivial) o0
 have o1q : (W1.drewN nq).cell? ⟨w.heap.size, 1, none⟩ = some (.int .i64 (j : Nat)) := ((Fr.refl (fun _ _ => True) W1).drewN nq).cell (fun _ _ => trivial) o1
 have F1q := Lib.hid (F1.out.drewN nq)
 obtain ⟨W2, hW2⟩ : ∃ Y, W1.drewN nq = Y := ⟨_, rfl⟩
 rw [hW2] at o0q o1q F1q ⊢
 clear hW2 y0 y1 o0 o1
 obtain ⟨y0, y1⟩ := YY.out W2 F1q.out
 have ds := DS.out W2 F1q.out
 go_wp2_with fail
 go_quiet (fail)
 have o0 : (W2.drewN nq).cell? ⟨w.heap.size, 0, none⟩ = some (.int .i64 3) := ((Fr.refl (fun _ _ => True) W2).drewN nq).cell (fun _ _ => trivial) o0q
 have o1 : (W2.drewN nq).cell? ⟨w.heap.size, 1, none⟩ = some (.int .i64 (j : Nat)) := ((Fr.refl (fun _ _ => True) W2).drewN nq).cell (fun _ _ => trivial) o1q
 have F3 := Lib.hid (F1q.out.drewN nq)
 obtain ⟨W3, hW3⟩ : ∃ Y, W2.drewN nq = Y := ⟨_, rfl⟩
 rw [hW3] at o0 o1 F3 ⊢
 clear hW3 y0 y1 o0q o1q ds
 obtain ⟨y0, y1⟩ := YY.out W3 F3.out
 obtain ⟨xp, x2, x6, x7⟩ := XC.out W3 F3.out
 obtain ⟨led, hled⟩ : ∃ x, (ro == 3) = x := ⟨_, rfl⟩
 go_upto_region 11 with fail
 try rw [hled]
 have HLED := Lib.hid hled
 clear hled
 rename_i K1 h1 K0 h0
 have TAIL : ∀ (u1 u2 u3 u4 u10 u11 u12 u13 u14 u15 u16 u17 u18 u19 u20 u21 u22 u23 u24 u25 u26 u27 u28 u29 u30 u31 u32 u33 u34 u35 u36 u37 u38 u39 u40 u41 u42 u43 u44 u45 u46 u47 u48 u49 u50 u51 u52 u53 u54 u55 u56 u57 u58 u59 u60 u61 u62 u63 u64 u65 u66 u67 u68 u69 u70 u71 u72 u73 u74 u75 u76 u77 u78 u79 u80 u81 u82 u83 u84 u85 u86 u87 u88 u89 u90 u91 u92 u93 u94 u95 u96 u97 u98 u99 u100 u101 u102 u103 u104 u105 u106 u107 u108 u109 u110 u111 u112 u113 u114 u115 u116 u117 u118 u119 u120 u121 u122 u123 u124 u125 u126 u127 u128 u129 u130 u131 u132 u133 u134 u135 u136 u137 u138 u139 u140 u141 u142 u143 u144 u145 u146 u147 u148 u149 u150 u151 u152 u153 u154 u155 u156 u157 u158 u159 u160 u161 u162 u163 u164 u165 u166 u167 u168 u169 u170 u171 u172 u173 u174 u175 u176 u177 u178 u179 u180 u181 u182 u183 u184 u185 u186 u187 u188 u189 u190 u191 u192 u193 u194 u195 u196 u197 u198 u199 u200 u201 u202 u203 u204 u205 u206 u207 u208 u209 u210 u211 u212 u213 u214 u215 u216 u217 u218 u219 u220 u221 : Value) (v9 : Value) (wx : World) (X' P' : Nat → Prop) (r : Nd × List Ms) (many' : Int) (mvs : List MV), Mid B0 w G l ms many c i b (opR (l.map (·.n)) (ms.map MV.ms) 3 (j : Nat) i (by rw [List.length_map]; exact hi)) B v9 wx X' P' r many' mvs → K1 { tmps := #[.pointer (some ⟨G, 0, none⟩), u1, u2, u3, u4, .pointer (some ⟨b, 0, none⟩), .bool led, .int .u64 (tm : Nat), .int .u64 (co : Nat), v9, u10, u11, u12, u13, u14, u15, u16, u17, u18, u19, u20, u21, u22, u23, u24, u25, u26, u27, u28, u29, u30, u31, u32, u33, u34, u35, u36, u37, u38, u39, u40, u41, u42, u43, u44, u45, u46, u47, u48, u49, u50, u51, u52, u53, u54, u55, u56, u57, u58, u59, u60, u61, u62, u63, u64, u65, u66, u67, u68, u69, u70, u71, u72, u73, u74, u75, u76, u77, u78, u79, u80, u81, u82, u83, u84, u85, u86, u87, u88, u89, u90, u91, u92, u93, u94, u95, u96, u97, u98, u99, u100, u101, u102, u103, u104, u105, u106, u107, u108, u109, u110, u111, u112, u113, u114, u115, u116, u117, u118, u119, u120, u121, u122, u123, u124, u125, u126, u127, u128, u129, u130, u131, u132, u133, u134, u135, u136, u137, u138, u139, u140, u141, u142, u143, u144, u145, u146, u147, u148, u149, u150, u151, u152, u153, u154, u155, u156, u157, u158, u159, u160, u161, u162, u163, u164, u165, u166, u167, u168, u169, u170, u171, u172, u173, u174, u175, u176, u177, u178, u179, u180, u181, u182, u183, u184, u185, u186, u187, u188, u189, u190, u191, u192, u193, u194, u195, u196, u197, u198, u199, u200, u201, u202, u203, u204, u205, u206, u207, u208, u209, u210, u211, u212, u213, u214, u215, u216, u217, u218, u219, u220, u221], defers := [] } wx := by
  intros; rename_i v9 wx X' P' r many' mvs M
  exact h1 _ _ (by apply pl12_tail1 M.grp i (by rw [List.length_set]; exact hi) b r.1 P' (by rw [List.getElem_set_self]) B0 M.low B OK.out.b M.bn co tm (by have := (OK.out.gd _ HXX.out.2.1).bn.commit; have := HXX.out.2.2.2.2.2; omega) led (fun hr => by have e := opR_same3 M.op (fun hj' => by rw [List.getElem_map]; exact HK56.out) hr; rw [List.getElem_map, HXX.out.1] at e; exact ⟨by rw [← HLED.out, ← HXX.out.2.2.2.1, e.1]; rfl, e.2.trans HXX.out.2.2.2.2.1⟩) (by have := OK.out.nn; omega) v9 mvs M.ow M.len OK.out.lm (fun ms' c' W g1 g2 g3 g4 g5 => M.out g1 g2 (by rw [g3, M.eq]) g4 (M.fr.trans g5)))
 clear h1
 have GD := OK.out.gd _ HXX.out.2.1
 obtain ⟨mN, hme, hm16⟩ := GD.me
 have gl := GD.bn.last
 have gt := GD.bn.tm
 have ge := GD.es
 have gc := GD.cf
 have hB7 := OK.out.b
 have P3 : PNs X x.P W3 b x.n qx := HQX.out.tt F3.out
 have EN : Hid ((l.map (·.n))[i]'(by rw [List.length_map]; exact hi) = x.n) := by show _ = _; rw [List.getElem_map, HXX.out.1]
 obtain ⟨mj, hmj⟩ : ∃ x, ms[j] = x := ⟨_, rfl⟩
 have MJ := Lib.hid hmj
 have hmm : mj ∈ ms := hmj ▸ List.getElem_mem hj
 have HMJ : Hid (∀ W, Fr (fun _ _ => True) w W → (W.cell? ⟨gm2, off + j * 10, none⟩ = some (.int .i64 mj.kind) ∧ W.cell? ⟨gm2, off + j * 10 + 1, none⟩ = some (.int .i64 mj.src) ∧ W.cell? ⟨gm2, off + j * 10 + 2, none⟩ = some (.int .i64 mj.dst) ∧ W.cell? ⟨gm2, off + j * 10 + 3, none⟩ = some (.int .u64 (mj.tm : Nat)) ∧ W.cell? ⟨gm2, off + j * 10 + 4, none⟩ = some (.int .u64 (mj.index : Nat)) ∧ W.cell? ⟨gm2, off + j * 10 + 5, none⟩ = some (.int .u64 (mj.prev : Nat)) ∧ W.cell? ⟨gm2, off + j * 10 + 6, none⟩ = some (.int .u64 (mj.commit : Nat)) ∧ W.cell? ⟨gm2, off + j * 10 + 7, none⟩ = some (.bool mj.ok) ∧ W.cell? ⟨gm2, off + j * 10 + 8, none⟩ = some (.slice mj.da mj.d.length mj.dc) ∧ W.cell? ⟨gm2, off + j * 10 + 9, none⟩ = some (.slice mj.ea mj.es.length mj.ec))) := by
  have := HMC.out
  rw [hmj] at this
  exact this
 have O1 : Hid (∀ W, Fr (fun _ _ => True) W3 W → W.cell? ⟨w.heap.size, 1, none⟩ = some (.int .i64 (j : Nat))) := fun W f => f.cell (fun _ _ => trivial) o1
 have HC : Hid (∀ W, Fr (fun _ _ => True) W3 W → Calls Tryz.prog 99 #[.pointer (some ⟨b, 0, none⟩), .agg (cM mj)] W fun e w' => NOut X x.P W b (x.n.hear mj.ms) e w') := fun W f => by
  have hh := HRH.out W qx
  rw [HXX.out.1, hmj, HXX.out.2.2.1] at hh
  exact hh (P3.tt f) ((H.out.rm.at' mj hmm).tt (F3.out.trans f))
 have BN : Hid (Bn (B + 2) (x.n.hear mj.ms).1) := (Nd.hear_b GD.bn (OK.out.bm _ hmm)).1
 have LN : Hid ((x.n.hear mj.ms).2.length ≤ 100) := Nat.le_trans (Nd.hear_len _ _) (by omega)
 have OP : Hid (opR (l.map (·.n)) (ms.map MV.ms) 3 (j : Nat) i (by rw [List.length_map]; exact hi) (x.n.hear mj.ms)) := by
  show opR _ _ _ _ _ _ _
  exact .inr (.inr (.inl ⟨rfl, j, by rw [List.length_map]; exact hj, rfl, by rw [List.getElem_map]; exact HDJ.out, by rw [EN.out, List.getElem_map, hmj]⟩))
 have UD : Hid (Fr (fun _ _ => True) W3 W3.drew) := (Fr.refl _ _).drew
 clear P3 GD hme gl gt ge gc hB7 hmj hmm o1 y0 y1 HMC
 go_wp2_with fail
 refine wp_region_cf (K := fun _ _ => True) (by kernel_rfl) [(83, 0), (84, 1), (85, 2), (86, 3), (87, 4), (88, 5), (89, 6), (90, 7), (91, 8), (92, 9), (9, 10)] [(0, []), (1, []), (2, [1]), (3, [2]), (4, [3]), (5, []), (6, [5]), (7, [4, 6]), (8, [7])] (ckR [(0, .pointer (some ⟨b, 0, none⟩)), (1, .pointer (some ⟨G, 0, none⟩)), (2, .pointer (some ⟨G, 0, none⟩)), (3, .pointer (some ⟨G, 1, none⟩)), (4, .slice (some ⟨gm2, off, none⟩) lm cm), (5, .pointer (some ⟨w.heap.size, 1, none⟩)), (6, .int .i64 (j : Nat)), (7, .pointer (some ⟨gm2, off + j * 10, none⟩)), (8, .agg (cM mj))] [] 9 0) 2 (by kernel_rfl) (by kernel_rfl) (by kernel_rfl) rfl ?cfall ?cfend
 case cfall =>
  iterate 9
   refine CfAll.kk rfl rfl rfl (fun xs W hF hE K' hK => ?_) ?_
   ·have HF := Lib.hid hF
    clear hF
    simp only [ckEqs, ckLook, Nat.reduceBEq] at hE
    simp only [fillA, fillL, sA, sB, sC, Act.put, hE] at hK ⊢
    clear hE
    obtain ⟨-, yv⟩ := YY.out W (F3.out.trans (UD.out.trans HF.out))
    have o1w := O1.out W (UD.out.trans HF.out)
    obtain ⟨c0, c1, c2, c3, c4, c5, c6, c7, c8, c9⟩ := HMJ.out W (F3.out.trans (UD.out.trans HF.out))
    (try simp only [gA, gB, gC])
    go_simp
    exact hK.out _ rfl
  exact CfAll.nil
 case cfend =>
  intro xs W hF hA
  have HF := Lib.hid hF
  have hE := ckEnd rfl hA
  clear hA hF
  simp only [List.map_cons, List.map_nil, ckEqs, ckLook, Nat.reduceBEq] at hE
  simp only [fillA, fillL, sA, sB, sC, hE]
  clear hE
  have HC1 := Lib.hid (HC.out W (UD.out.trans HF.out))
  refine wpAny_next 9 (by kernel_rfl) rfl fun K' hK => ?_
  (try simp only [List.getElem_toArray, List.getElem_cons_zero, List.getElem_cons_succ])
  go_simp
  (with_reducible refine HC1.out.mono ?_)
  intro e W4 hout
  obtain ⟨X4, P4, q4, v, mvs, rfl, p4, a4, o4, e4⟩ := hout
  have MD := Lib.hid (mid_mk (B := B) H.out (F3.out.trans (UD.out.trans HF.out)) hi HXX.out.1 HL.out ⟨q4, by rw [HXX.out.2.2.1]; exact p4⟩ a4 (own_lo o4) e4 OP.out (len_ms e4 LN.out) BN.out)
  rw [HXX.out.2.2.1] at MD
  clear p4 a4 o4 e4 HC1
  refine hK.out _ _ ?_
  clear hK K'
  refine wpAny_next 10 (by kernel_rfl) rfl fun K' hK => ?_
  (try simp only [gA, gB, gC])
  go_simp
  refine hK.out _ _ ?_
  clear hK K'
  refine wpAny_fin (by kernel_rfl) ?_
  go_wp2
  (apply TAIL; exact MD.out)
end
end Go.Proofs.YtmjccpfchhnfhaaGreat
/- Law 12: play, d = 5 (printed by play12c.py). -/
namespace Go.Proofs.YtmjccpfchhnfhaaGreat
open Go.RowKit
set_option linter.unusedVariables false
set_option linter.unusedSimpArgs false
section
variable {X : Nat → Prop} {w : World} {G : Nat} {l : List Nx} {ms : List MV} {many : Int} {c : GV}
set_option maxRecDepth 100000 in
set_option maxHeartbeats 8000000 in
theorem pl12V5 [Old] [NoOld] (h : Grp X w G l ms many c) (B0 : Nat → Prop) (hl : Low B0 X G c) (B : Nat) (ok : GOk B l ms many c) (d k : Int) (h3 : d ≠ 3) (i : Nat) (hi : i < l.length) (hki : k = (i : Nat)) (HD : Hid (d = 5)) :
  Calls Tryz.prog 46 #[.pointer (some ⟨G, 0, none⟩), .agg #[.int .i64 d, .int .i64 k]] w fun e w' => PlOut B0 w G l ms many c d k e w' := by
 obtain ⟨W1, hW1, F1, o0, o1⟩ := obox w d k
 have H := Lib.hid h
 have HL := Lib.hid hl
 have OK := Lib.hid ok
 obtain ⟨gm, lm, cm, hvm⟩ : ∃ gm lm cm, c.vm = .slice gm lm cm := by obtain ⟨g, c', e⟩ := ownsRow_form h.rm.row; exact ⟨g, _, c', e⟩
 obtain ⟨gn, ln, cn, hvn⟩ : ∃ gn ln cn, c.vn = .slice gn ln cn := by obtain ⟨g, c', e⟩ := ownsRow_form h.rn; exact ⟨g, _, c', e⟩
 have hlm : lm = ms.length := by obtain ⟨g, c', e⟩ := ownsRow_form h.rm.row; rw [hvm] at e; cases e; rfl
 have hln : ln = l.length := by obtain ⟨g, c', e⟩ := ownsRow_form h.rn; rw [hvn] at e; cases e; rfl
 have t1 := F1.out.keep _ _ h.top trivial
 have y0 : W1.cell? ⟨G, 0, none⟩ = some (.slice gn ln cn) := by rw [← hvn]; exact cell_mk t1 rfl
 have y1 : W1.cell? ⟨G, 1, none⟩ = some (.slice gm lm cm) := by rw [← hvm]; exact cell_mk t1 rfl
 subst hki
 have g3 : (d == 3) = false := by simpa using h3
 have YY : Hid (∀ W, Fr (fun _ _ => True) w W → W.cell? ⟨G, 0, none⟩ = some (.slice gn ln cn) ∧ W.cell? ⟨G, 1, none⟩ = some (.slice gm lm cm)) := fun W f => ⟨by rw [← hvn]; exact cell_mk (f.keep _ _ h.top trivial) rfl, by rw [← hvm]; exact cell_mk (f.keep _ _ h.top trivial) rfl⟩
 have hiI : (i : Int) < (ln : Int) := by omega
 have hiI' : ¬ (ln : Int) ≤ (i : Int) := by omega
 have hi0 : ¬ (i : Int) < 0 := by omega
 obtain ⟨gn2, cn2, hvn2, HNC⟩ := h.nrow (by omega)
 have egn : gn = some ⟨gn2, 0, none⟩ ∧ cn = cn2 := by rw [hvn] at hvn2; cases hvn2; exact ⟨rfl, rfl⟩
 obtain ⟨e3, e4⟩ := egn
 subst e3 e4
 obtain ⟨x, hx⟩ : ∃ x, l[i] = x := ⟨_, rfl⟩
 have hxl : x ∈ l := hx ▸ List.getElem_mem hi
 obtain ⟨qx, hqx⟩ := h.nd x hxl
 obtain ⟨b, hb⟩ : ∃ b, x.b = b := ⟨_, rfl⟩
 obtain ⟨ro, hro⟩ : ∃ y, x.n.role = y := ⟨_, rfl⟩
 obtain ⟨tm, htm⟩ : ∃ y, x.n.tm = y := ⟨_, rfl⟩
 obtain ⟨co, hco⟩ : ∃ y, x.n.commit = y := ⟨_, rfl⟩
 rw [hb] at hqx
 have XC : Hid (∀ W, Fr (fun _ _ => True) w W → W.cell? ⟨gn2, i, none⟩ = some (.pointer (some ⟨b, 0, none⟩)) ∧ W.cell? ⟨b, 2, none⟩ = some (.int .i64 ro) ∧ W.cell? ⟨b, 6, none⟩ = some (.int .u64 (tm : Nat)) ∧ W.cell? ⟨b, 7, none⟩ = some (.int .u64 (co : Nat))) := fun W f => by
  obtain ⟨x0, x1, x2, x3, x4, x5, x6, x7, x8, x9, x10, x11, x12, x13⟩ := hqx.cells f
  exact ⟨by rw [← hb, ← hx]; exact HNC i hi W f, by rw [x2, hro], by rw [x6, htm], by rw [x7, hco]⟩
 have HQX := Lib.hid hqx
 have HXX := Lib.hid (And.intro hx (And.intro hxl (And.intro hb (And.intro hro (And.intro htm hco)))))
 have HV := Lib.hid (And.intro hvm (And.intro hvn (And.intro hlm hln)))
 clear h hl ok t1 hvm hvn hlm hln hvn2 HNC hx hxl hqx hb hro htm hco h3
 go_enter Tryz.func46, Tryz.ntmps46
 have F3 := Lib.hid F1.out
 obtain ⟨W3, hW3⟩ : ∃ Y, W1 = Y := ⟨_, rfl⟩
 rw [hW3] at hW1 F3 o0 o1 y0 y1
 clear hW3
 obtain ⟨xp, x2, x6, x7⟩ := XC.out W3 F3.out
 obtain ⟨led, hled⟩ : ∃ x, (ro == 3) = x := ⟨_, rfl⟩
 go_upto_region 11 with fail
 try rw [hW1]
 try rw [hled]
 have HLED := Lib.hid hled
 clear hled
 rename_i K1 h1 K0 h0
 have TAIL : ∀ (u1 u2 u3 u4 u10 u11 u12 u13 u14 u15 u16 u17 u18 u19 u20 u21 u22 u23 u24 u25 u26 u27 u28 u29 u30 u31 u32 u33 u34 u35 u36 u37 u38 u39 u40 u41 u42 u43 u44 u45 u46 u47 u48 u49 u50 u51 u52 u53 u54 u55 u56 u57 u58 u59 u60 u61 u62 u63 u64 u65 u66 u67 u68 u69 u70 u71 u72 u73 u74 u75 u76 u77 u78 u79 u80 u81 u82 u83 u84 u85 u86 u87 u88 u89 u90 u91 u92 u93 u94 u95 u96 u97 u98 u99 u100 u101 u102 u103 u104 u105 u106 u107 u108 u109 u110 u111 u112 u113 u114 u115 u116 u117 u118 u119 u120 u121 u122 u123 u124 u125 u126 u127 u128 u129 u130 u131 u132 u133 u134 u135 u136 u137 u138 u139 u140 u141 u142 u143 u144 u145 u146 u147 u148 u149 u150 u151 u152 u153 u154 u155 u156 u157 u158 u159 u160 u161 u162 u163 u164 u165 u166 u167 u168 u169 u170 u171 u172 u173 u174 u175 u176 u177 u178 u179 u180 u181 u182 u183 u184 u185 u186 u187 u188 u189 u190 u191 u192 u193 u194 u195 u196 u197 u198 u199 u200 u201 u202 u203 u204 u205 u206 u207 u208 u209 u210 u211 u212 u213 u214 u215 u216 u217 u218 u219 u220 u221 : Value) (v9 : Value) (wx : World) (X' P' : Nat → Prop) (r : Nd × List Ms) (many' : Int) (mvs : List MV), Mid B0 w G l ms many c i b (opR (l.map (·.n)) (ms.map MV.ms) d (i : Nat) i (by rw [List.length_map]; exact hi)) B v9 wx X' P' r many' mvs → K1 { tmps := #[.pointer (some ⟨G, 0, none⟩), u1, u2, u3, u4, .pointer (some ⟨b, 0, none⟩), .bool led, .int .u64 (tm : Nat), .int .u64 (co : Nat), v9, u10, u11, u12, u13, u14, u15, u16, u17, u18, u19, u20, u21, u22, u23, u24, u25, u26, u27, u28, u29, u30, u31, u32, u33, u34, u35, u36, u37, u38, u39, u40, u41, u42, u43, u44, u45, u46, u47, u48, u49, u50, u51, u52, u53, u54, u55, u56, u57, u58, u59, u60, u61, u62, u63, u64, u65, u66, u67, u68, u69, u70, u71, u72, u73, u74, u75, u76, u77, u78, u79, u80, u81, u82, u83, u84, u85, u86, u87, u88, u89, u90, u91, u92, u93, u94, u95, u96, u97, u98, u99, u100, u101, u102, u103, u104, u105, u106, u107, u108, u109, u110, u111, u112, u113, u114, u115, u116, u117, u118, u119, u120, u121, u122, u123, u124, u125, u126, u127, u128, u129, u130, u131, u132, u133, u134, u135, u136, u137, u138, u139, u140, u141, u142, u143, u144, u145, u146, u147, u148, u149, u150, u151, u152, u153, u154, u155, u156, u157, u158, u159, u160, u161, u162, u163, u164, u165, u166, u167, u168, u169, u170, u171, u172, u173, u174, u175, u176, u177, u178, u179, u180, u181, u182, u183, u184, u185, u186, u187, u188, u189, u190, u191, u192, u193, u194, u195, u196, u197, u198, u199, u200, u201, u202, u203, u204, u205, u206, u207, u208, u209, u210, u211, u212, u213, u214, u215, u216, u217, u218, u219, u220, u221], defers := [] } wx := by
  intros; rename_i v9 wx X' P' r many' mvs M
  exact h1 _ _ (by apply pl12_tail1 M.grp i (by rw [List.length_set]; exact hi) b r.1 P' (by rw [List.getElem_set_self]) B0 M.low B OK.out.b M.bn co tm (by have := (OK.out.gd _ HXX.out.2.1).bn.commit; have := HXX.out.2.2.2.2.2; omega) led (fun hr => by have e := opR_same5 HD.out M.op; rw [List.getElem_map, HXX.out.1] at e; rw [e] at hr ⊢; exact ⟨by rw [← HLED.out, ← HXX.out.2.2.2.1, hr]; rfl, HXX.out.2.2.2.2.1⟩) (by have := OK.out.nn; omega) v9 mvs M.ow M.len OK.out.lm (fun ms' c' W g1 g2 g3 g4 g5 => M.out g1 g2 (by rw [g3, M.eq]) g4 (M.fr.trans g5)))
 clear h1
 have GD := OK.out.gd _ HXX.out.2.1
 obtain ⟨mN, hme, hm16⟩ := GD.me
 have gl := GD.bn.last
 have gt := GD.bn.tm
 have ge := GD.es
 have gc := GD.cf
 have hB7 := OK.out.b
 have P3 : PNs X x.P W3 b x.n qx := HQX.out.tt F3.out
 have EN : Hid ((l.map (·.n))[i]'(by rw [List.length_map]; exact hi) = x.n) := by show _ = _; rw [List.getElem_map, HXX.out.1]
 have OP : Hid (opR (l.map (·.n)) (ms.map MV.ms) d (i : Nat) i (by rw [List.length_map]; exact hi) (x.n, x.n.beat)) := by
  show opR _ _ _ _ _ _ _
  exact .inr (.inr (.inr (.inr (.inl ⟨HD.out, rfl, by rw [EN.out]⟩))))
 have AC := Lib.hid (beat_calls P3 ⟨by omega, by omega⟩ (fun y hy => by have := GD.bn.nx y hy; omega) (by omega) (by omega))
 have LN : Hid (x.n.beat.length ≤ 100) := Nat.le_trans (Nd.beat_len _) (by omega)
 have BX : Hid (Bn (B + 2) x.n) := GD.bn.mono (by omega)
 have HP3 := Lib.hid P3
 have hd := HD.out
 clear HD
 subst hd
 clear P3 GD hme gl gt ge gc hB7
 go_wp2_with fail
 (with_reducible refine AC.out.mono ?_)
 rintro e W4 ⟨⟨v, mvs, rfl, o4, e4⟩, f4⟩
 have MD := Lib.hid (mid_mk (B := B) (r := (x.n, x.n.beat)) H.out F3.out hi HXX.out.1 HL.out ⟨qx, by rw [HXX.out.2.2.1]; exact HP3.out.tt f4⟩ (.tt f4 HQX.out.px) (own_lo o4) e4 OP.out (len_ms e4 LN.out) BX.out)
 rw [HXX.out.2.2.1] at MD
 clear o4 e4 f4 AC
 go_wp2
 (apply TAIL; exact MD.out)
end
end Go.Proofs.YtmjccpfchhnfhaaGreat
/- Law 12: the chapter's examples, plainly (printed by awake12.py). -/
namespace Go.Proofs.YtmjccpfchhnfhaaGreat
open Go.RowKit
set_option linter.unusedVariables false
set_option linter.unusedSimpArgs false
theorem playR_beat {ns ns' : List Nd} {ms ms' : List Ms} {i : Nat} (hi : i < ns.length) (hl : ms.length < 600) (h : playR ns ms 5 (i : Nat) ns' ms') : ns' = ns ∧ ms' = ms ++ ns[i].beat := by
 rcases h with ⟨-, -, h⟩ | ⟨k, hk, r, rfl, rfl, h⟩
 ·exact absurd (.inl ⟨by decide, rfl⟩) (h i hi)
 ·rcases h with ⟨e, -⟩ | ⟨e, -⟩ | ⟨e, -⟩ | ⟨e, -⟩ | ⟨-, e, rfl⟩ | ⟨e, -⟩ | ⟨⟨-, -, -, -, e, -⟩, -⟩
  ·omega
  ·omega
  ·omega
  ·omega
  ·obtain rfl : i = k := by omega
   exact ⟨List.set_getElem_self _, if_pos hl⟩
  ·omega
  ·exact absurd rfl e
theorem playR_hear {ns ns' : List Nd} {ms ms' : List Ms} {i j : Nat} (hi : i < ns.length) (hj : j < ms.length) (hd : ms[j].dst = (i : Nat)) (hl : ms.length < 600) (h : playR ns ms 3 (j : Nat) ns' ms') : ns' = ns.set i (ns[i].hear ms[j]).1 ∧ ms' = ms ++ (ns[i].hear ms[j]).2 := by
 rcases h with ⟨-, -, h⟩ | ⟨k, hk, r, rfl, rfl, h⟩
 ·exact absurd (.inr ⟨rfl, j, hj, rfl, hd⟩) (h i hi)
 ·rcases h with ⟨e, -⟩ | ⟨e, -⟩ | ⟨-, j', hj', e, e2, rfl⟩ | ⟨e, -⟩ | ⟨e, -⟩ | ⟨e, -⟩ | ⟨⟨-, -, e, -⟩, -⟩
  ·omega
  ·omega
  ·obtain rfl : j = j' := by omega
   obtain rfl : i = k := by omega
   exact ⟨rfl, if_pos hl⟩
  ·omega
  ·omega
  ·omega
  ·exact absurd rfl e
def aw0 : Nd := { ({ Nd.new 0 (cfN 3) with conf := [0] } : Nd).askT.1 with conf := [0, 1, 2] }
def NS1 : List Nd := [aw0, Nd.new 1 (cfN 3), Nd.new 2 (cfN 3)]
def MS2 : List Ms := aw0.beat
def NS3 : List Nd := NS1.set 1 ((Nd.new 1 (cfN 3)).hear (MS2.getD 0 zMs)).1
def MS3 : List Ms := MS2 ++ ((Nd.new 1 (cfN 3)).hear (MS2.getD 0 zMs)).2
def aw1 : Nd := { aw0 with mat := aw0.mat.set 1 1, next := aw0.next.set 1 2 }
def NS4 : List Nd := NS3.set 0 (aw1.sureR 1)
theorem srt_110 : srt [1, 1, 0] = [0, 1, 1] := by
 unfold srt
 simp [List.mergeSort, List.MergeSort.Internal.splitInTwo, List.merge]
theorem aw1_reach : aw1.reach = 1 := by
 have e : reachL aw1.conf (aw1.mat.map fun (x : Nat) => (x : Int)) aw1.conf.length = [1, 1, 0] := by decide +kernel
 unfold Nd.reach
 rw [e]
 unfold midV
 rw [srt_110]
 rfl
theorem acked4 : aw0.acked (MS3.getD 2 zMs) = aw1.sureR 1 := by
 have e : aw0.acked (MS3.getD 2 zMs) = aw1.sure := by
  unfold Nd.acked
  rw [if_neg (by decide +kernel), if_pos (by decide +kernel)]
  have e2 : ({ aw0 with mat := aw0.mat.set (MS3.getD 2 zMs).src.toNat (max (aw0.mat.getD (MS3.getD 2 zMs).src.toNat 0) (MS3.getD 2 zMs).index), next := aw0.next.set (MS3.getD 2 zMs).src.toNat (max (aw0.mat.getD (MS3.getD 2 zMs).src.toNat 0) (MS3.getD 2 zMs).index + 1) } : Nd) = aw1 := by decide +kernel
  rw [e2]
 rw [e]
 unfold Nd.sure
 rw [aw1_reach]
theorem hear4 : aw0.hear (MS3.getD 2 zMs) = (aw1.sureR 1, []) := by
 have e1 : aw0.onAsk (MS3.getD 2 zMs) = (aw0, []) := by decide +kernel
 have e2 : aw0.onAnswer (MS3.getD 2 zMs) = (aw0, []) := by decide +kernel
 have e3 : aw0.onAppend (MS3.getD 2 zMs) = (aw0, []) := by decide +kernel
 have e4 : aw0.onAcked (MS3.getD 2 zMs) = (aw1.sureR 1, []) := by
  unfold Nd.onAcked
  rw [if_neg (by decide +kernel), if_neg (by decide +kernel), if_neg (by decide +kernel), acked4]
  decide +kernel
 unfold Nd.hear
 simp only [e1, e2, e3, e4, List.append_nil]
theorem MS2_kind : (MS2.getD 0 zMs).kind = 5 := by decide +kernel
theorem MS2_is : MS2.length = 2 ∧ (MS2.getD 0 zMs).dst = 1 ∧ (MS2.getD 0 zMs).index = 0 ∧ (MS2.getD 0 zMs).tm = 1 ∧ (MS2.getD 0 zMs).es.length = 1 := by decide +kernel
theorem MS3_is : MS3.length = 3 ∧ (MS3.getD 2 zMs).dst = 0 ∧ (MS3.getD 2 zMs).kind = 6 ∧ (MS3.getD 2 zMs).ok = true ∧ (MS3.getD 2 zMs).index = 1 := by decide +kernel
theorem NS4_is : NS4.length = 3 ∧ (NS4.getD 0 default).commit = 1 ∧ ((NS4.getD 0 default).propose 1 [97]).2 = (2, 0) ∧ NS4.getD 2 default = Nd.new 2 (cfN 3) := by decide +kernel
theorem MS3_on : (({ Nd.new 2 (cfN 3) with tm := 3 } : Nd).onAppend (MS3.getD 1 zMs)).2.length = 1 ∧ ((({ Nd.new 2 (cfN 3) with tm := 3 } : Nd).onAppend (MS3.getD 1 zMs)).2.getD 0 zMs).ok = false ∧ ((({ Nd.new 2 (cfN 3) with tm := 3 } : Nd).onAppend (MS3.getD 1 zMs)).2.getD 0 zMs).tm = 3 := by decide +kernel
theorem NS4_0 : (0 < (NS4.getD 0 default).conf.length ∧ (NS4.getD 0 default).conf.length ≤ 16) ∧ (∀ x ∈ (NS4.getD 0 default).conf, 0 ≤ x) ∧ (NS4.getD 0 default).me = ((0 : Nat) : Int) ∧ (NS4.getD 0 default).log.last + 2 < 18446744073709551616 ∧ (NS4.getD 0 default).log.es.length ≤ 900000 := by decide +kernel
theorem MS3_1 : (MS3.getD 1 zMs).index + (MS3.getD 1 zMs).es.length + 1 < 18446744073709551616 ∧ (MS3.getD 1 zMs).es.length ≤ 900000 := by decide +kernel
theorem new_gd (i : Nat) (hi : i < 3) (B : Nat) : Gd B (Nd.new i (cfN 3)) :=
 ⟨⟨Nat.zero_le _, Nat.zero_le _, Nat.zero_le _, rfl, rfl, rep_le (Nat.zero_le _), rep_le (Nat.zero_le _)⟩, ⟨i, rfl, by omega⟩, by show 0 < (cfN 3).length ∧ (cfN 3).length ≤ 16; decide, by show ∀ x ∈ cfN 3, 0 ≤ x; decide, Nat.zero_le _⟩
theorem aw0_gd : Gd 50 aw0 := ⟨⟨by decide, by decide, by decide, by decide, by decide, by decide, by decide⟩, ⟨0, rfl, by decide⟩, by decide, by decide, by decide⟩
section
variable {X : Nat → Prop} {w : World} {G : Nat} {l : List Nx} {ms : List MV} {many : Int} {c : GV}
theorem Grp.view [Old] [NoOld] (h : Grp X w G l ms many c) (h0 : 0 < l.length) : ∃ gn cn, ∀ W, Fr (fun _ _ => True) w W → W.cell? ⟨G, 0, none⟩ = some (.slice (some ⟨gn, 0, none⟩) l.length cn) ∧ ∀ i (hi : i < l.length), W.cell? ⟨gn, i, none⟩ = some (.pointer (some ⟨l[i].b, 0, none⟩)) := by
 obtain ⟨gn, cn, e, hc⟩ := h.nrow h0
 exact ⟨gn, cn, fun W f => ⟨by rw [← e]; exact cell_mk (f.keep _ _ h.top trivial) rfl, fun i hi => hc i hi W f⟩⟩
theorem Grp.mview [Old] [NoOld] (h : Grp X w G l ms many c) (h0 : 0 < ms.length) : ∃ gm cm, ∀ W, Fr (fun _ _ => True) w W → W.cell? ⟨G, 1, none⟩ = some (.slice (some ⟨gm, 0, none⟩) ms.length cm) ∧ ∀ i (hi : i < ms.length) j u, (encM ms[i])[j]? = some u → W.cell? ⟨gm, i * 10 + j, none⟩ = some u := by
 obtain ⟨a, c', e, hcc, h1⟩ := h.rm.rows
 rcases h1 with h1 | ⟨gm, off, o, ha, ho, hk, hc⟩
 ·rw [h1] at h0; cases h0
 ·have e0 : off = 0 := by
   rcases h.rm.row.2 with ⟨e2, _⟩ | ⟨g, cap, cur, e2, _⟩
   ·rw [e2, ha] at e; cases e
   ·rw [e2, ha] at e; cases e; rfl
  subst e0
  refine ⟨gm, c', fun W f => ⟨by rw [← ha, ← e]; exact cell_mk (f.keep _ _ h.top trivial) rfl, fun i hi j u hu => ?_⟩⟩
  have := f.cell (fun _ _ => trivial) (hc i hi j u hu)
  rw [Nat.zero_add] at this
  exact this
theorem Grp.own [Old] [NoOld] (h : Grp X w G l ms many c) (i : Nat) (hi : i < l.length) {W : World} {n' : Nd} {q' : NV} (f : Fr (fun k _ => k ≠ l[i].b) w W) (hp : PNs X l[i].P W l[i].b n' q') : Grp X W G (l.set i ⟨l[i].b, n', l[i].P⟩) ms many c :=
 h.turn i hi ⟨q', hp⟩ (.of (f.mono fun k _ hk e => hk (e ▸ hp.pb)) hp.px)
theorem PNs.group [Old] [NoOld] {X P : Nat → Prop} {w w' : World} {b : Nat} {n : Nd} {q : NV} (h : PNs X P w b n q) (hf : Fr (fun c _ => c ≠ b) w w') (zs : List Int) (v : Value) (ht : w'.heap[b]? = some (.cells (W14 { n with conf := zs } { q with vc := v }) 99 (0, 0))) (hc : IntsAt (RO X) w' v zs) : PNs X P w' b { n with conf := zs } { q with vc := v } := by
 have aft : Aft X P X P w w' := .of (hf.mono fun c _ hc e => hc (e ▸ h.pb)) h.px
 exact ⟨ht, hc, ownsRow_fr h.ye hf fun c o e ho => (h.yb c e).1, h.yp, h.ev.aft aft, h.ee, h.nx.fr hf fun _ _ => h.bn_b, h.mt.fr hf fun _ _ => h.bm_b, h.nm, h.pb, h.pn, h.pm, h.px, fun c hc => Nat.lt_of_lt_of_le (h.hx c hc) hf.size, h.od⟩
theorem Grp.conf [Old] [NoOld] (h : Grp X w G l ms many c) (i : Nat) (hi : i < l.length) (zs : List Int) {cs : Array Value} (hcs : ∀ k (hk : k < zs.length), cs[k]? = some (.int .i64 zs[k])) {b : Nat} (hb : l[i].b = b) {W1 W2 : World} (e1 : w.alloc (.cells cs 3 (0, 0)) = W1) (e2 : W1.setCell ⟨b, 4, none⟩ (.slice (some ⟨w.heap.size, 0, none⟩) zs.length zs.length) = W2) (P : Nat → Prop) (hP : l[i].P = P) {n : Nd} (hn : l[i].n = n) : Grp X W2 G (l.set i ⟨b, { n with conf := zs }, P⟩) ms many c ∧ Fr (fun q _ => q ≠ b) w W2 := by
 subst hb hP hn
 have f1 : Fr (fun _ _ => True) w W1 := e1 ▸ (Fr.refl _ _).alloc _
 have f2 : Fr (fun q _ => q ≠ l[i].b) W1 W2 := e2 ▸ (Fr.refl _ _).setCell (fun _ _ h => h rfl) _
 have h1 := h.tt f1
 obtain ⟨q, hq⟩ := h1.nd _ (List.getElem_mem hi)
 have hlt : l[i].b < w.heap.size := by
  obtain ⟨q0, hq0⟩ := h.nd _ (List.getElem_mem hi)
  exact lt_of_some hq0.top
 have t1 : W1.heap[w.heap.size]? = some (.cells cs 3 (0, 0)) := by rw [← e1]; exact heap_alloc_new _ _
 have t2 : W2.heap[w.heap.size]? = some (.cells cs 3 (0, 0)) := f2.keep _ _ t1 (by omega)
 refine ⟨h1.own i hi f2 (hq.group f2 zs (.slice (some ⟨w.heap.size, 0, none⟩) zs.length zs.length) ?_ ?_), (f1.mono fun _ _ _ => trivial).trans f2⟩
 ·rw [← e2]; exact heap_setCell_same (o := 4) hq.top _
 ·refine ⟨_, zs.length, rfl, .inr ⟨w.heap.size, 0, _, rfl, t2, ⟨fun hx => ?_, .inr ⟨_, _, _, rfl, by decide⟩⟩, fun k hk => ?_⟩⟩
  ·have := h.hx _ hx; omega
  ·rw [Nat.zero_add]; exact cell_mk t2 (hcs k hk)
end
end Go.Proofs.YtmjccpfchhnfhaaGreat
