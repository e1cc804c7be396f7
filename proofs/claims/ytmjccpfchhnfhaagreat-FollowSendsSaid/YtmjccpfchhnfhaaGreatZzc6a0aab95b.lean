/- Texts of the proofs, part 48: what the functions that they reach do, walked; no conditions beyond those that each states. -/
import Derived.Test.YtmjccpfchhnfhaaGreatZzb8c27b01a5
set_option linter.unusedVariables false
set_option linter.unusedSimpArgs false
/- Law 12: the chapter's examples (printed by awake12.py). -/
namespace Go.Proofs.YtmjccpfchhnfhaaGreat
open Go.RowKit
set_option linter.unusedVariables false
set_option linter.unusedSimpArgs false
section
set_option maxRecDepth 100000 in
set_option maxHeartbeats 8000000 in
theorem awake_calls (w : World) : Calls Tryz.prog 7 #[] w fun e w' => e = .returned (.bool true) ∧ Fr (fun _ _ => True) w w' := by
 letI : Old := ⟨fun _ => False⟩
 haveI : NoOld := ⟨fun _ h => h⟩
 have BC : Hid (Calls Tryz.prog 44 #[.int .i64 3] w fun e w' => BOut w 3 e w') := begun_calls w 3 (by decide) (by decide)
 have hbd : ∀ W : World, (Instr.build 114 #[(0, .int .i64 5), (1, .int .i64 0)]).run Tryz.prog W = .ok (.agg #[.int .i64 5, .int .i64 0]) W := fun W => run_build W _ _ _ (by kernel_rfl)
 go_enter Tryz.func7, Tryz.ntmps7
 go_wp2_with fail
 (with_reducible refine BC.out.mono ?_)
 rintro e W0 ⟨X, G, l, c, rfl, ⟨g0, c1, c2, c3, l0⟩, hns, f0⟩
 clear BC
 have hll : l.length = 3 := by have := congrArg List.length hns; rw [List.length_map, List.length_map] at this; exact this.trans (cfN_len 3)
 obtain ⟨x0, x1, x2, rfl⟩ : ∃ x0 x1 x2, l = [x0, x1, x2] := by match l, hll with | [a, b, d], _ => exact ⟨a, b, d, rfl⟩
 have n0 : x0.n = Nd.new 0 (cfN 3) := congrArg (fun l => l.getD 0 default) hns
 have n1 : x1.n = Nd.new 1 (cfN 3) := congrArg (fun l => l.getD 1 default) hns
 have n2 : x2.n = Nd.new 2 (cfN 3) := congrArg (fun l => l.getD 2 default) hns
 obtain ⟨gn, cn, V⟩ := g0.view (by simp)
 obtain ⟨b0, hb0⟩ : ∃ b, x0.b = b := ⟨_, rfl⟩
 obtain ⟨P0, hP0⟩ : ∃ P, x0.P = P := ⟨_, rfl⟩
 obtain ⟨y0, V1⟩ := V W0 (Fr.refl _ _)
 have y0 : W0.cell? ⟨G, 0, none⟩ = some (.slice (some ⟨gn, 0, none⟩) 3 cn) := y0
 have z0 : W0.cell? ⟨gn, 0, none⟩ = some (.pointer (some ⟨b0, 0, none⟩)) := by rw [← hb0]; exact V1 0 (by simp)
 obtain ⟨q0, hq0⟩ := g0.nd x0 (by simp)
 rw [hb0] at hq0
 have x4 : W0.cell? ⟨b0, 4, none⟩ = some q0.vc := (hq0.cells (Fr.refl _ W0)).2.2.2.2.1
 have a0 := hq0.free (Fr.refl _ W0) 4
 obtain ⟨W1, hW1⟩ : ∃ Y, W0.alloc (.cells #[.int .i64 0] 3 (0, 0)) = Y := ⟨_, rfl⟩
 have f1 : Fr (fun _ _ => True) W0 W1 := hW1 ▸ (Fr.refl _ _).alloc _
 have x4' : W1.cell? ⟨b0, 4, none⟩ = some q0.vc := (hq0.cells f1).2.2.2.2.1
 have a0' := hq0.free f1 4
 obtain ⟨W2, hW2⟩ : ∃ Y, W1.setCell ⟨b0, 4, none⟩ (.slice (some ⟨W0.heap.size, 0, none⟩) 1 1) = Y := ⟨_, rfl⟩
 obtain ⟨g2, f2⟩ := g0.conf 0 (by simp) [0] (cs := #[.int .i64 0]) (fun k hk => by have : k = 0 := (by have : k < 1 := hk; omega); subst this; rfl) hb0 hW1 hW2 P0 hP0 n0
 have G2 : Hid (Grp X W2 G [⟨b0, { Nd.new 0 (cfN 3) with conf := [0] }, P0⟩, x1, x2] [] 0 c) := g2
 have F2 : Hid (Fr (fun _ _ => True) w W2) := Fr.within ((f0.mono fun _ _ _ => trivial : Fr (fun q _ => True ∧ q < w.heap.size) w W0).trans (f2.mono fun q _ h e => by have := h.2; have := l0.x q (hq0.px _ (e ▸ hq0.pb)); omega))
 have L0 := Lib.hid l0
 have HN := Lib.hid (And.intro n1 (And.intro n2 (And.intro c1 (And.intro c2 c3))))
 obtain ⟨qa, hqa0⟩ := G2.out.nd ⟨b0, { Nd.new 0 (cfN 3) with conf := [0] }, P0⟩ (by simp)
 have hqa : PNs X P0 W2 b0 { Nd.new 0 (cfN 3) with conf := [0] } qa := hqa0
 clear hqa0
 have AK := Lib.hid (askT_calls hqa ⟨by show 0 < 1; decide, by show 1 ≤ _; decide⟩ 0 rfl (by decide) (by decide) (by decide) (by decide))
 obtain ⟨gn2, cn2, V2⟩ := G2.out.view (by simp)
 obtain ⟨y2, V3⟩ := V2 W2 (Fr.refl _ _)
 have y2 : W2.cell? ⟨G, 0, none⟩ = some (.slice (some ⟨gn2, 0, none⟩) 3 cn2) := y2
 have z2 : W2.cell? ⟨gn2, 0, none⟩ = some (.pointer (some ⟨b0, 0, none⟩)) := V3 0 (by simp)
 have HX : Hid (w.heap.size ≤ W2.heap.size) := F2.out.size
 clear g0 c1 c2 c3 l0 hns hll f0 V V1 hq0 f1 g2 f2 V2 V3 hqa n0 n1 n2 hb0 hP0
 go_wp2_with fail
 try rw [hW1]
 try rw [hW2]
 clear hW1 hW2 y0 z0 x4 a0 x4' a0'
 go_wp2_with fail
 (with_reducible refine AK.out.mono ?_)
 intro e W3 hout
 obtain ⟨X3, P3, q3, v3, mvs, rfl, p3, a3, o3, e3⟩ := hout
 obtain ⟨NA, hNA⟩ : ∃ y, ({ Nd.new 0 (cfN 3) with conf := [0] } : Nd).askT.1 = y := ⟨_, rfl⟩
 have G3 : Hid (Grp X3 W3 G [⟨b0, NA, P3⟩, x1, x2] [] 0 c) := hNA ▸ G2.out.turn 0 (by simp) ⟨q3, p3⟩ a3
 have L3 : Hid (Low (fun q => q < w.heap.size) X3 G { c with sz := w.heap.size }) := Low.aft (w := W2) (w4 := W3) (X4 := X3) (P4 := P3) (P := P0) (L0.out.low w.heap.size (Nat.le_refl _)) a3 F2.out.size
 have F3 : Hid (Fr (fun _ _ => True) w W3) := Fr.within ((F2.out.mono fun _ _ _ => trivial : Fr (fun q _ => True ∧ q < w.heap.size) w W2).trans (a3.fr.mono fun q _ h e => by have := h.2; have := L0.out.x _ (a3.hp q e); omega))
 obtain ⟨gn3, cn3, V4⟩ := G3.out.view (by simp)
 obtain ⟨y3, V5⟩ := V4 W3 (Fr.refl _ _)
 have y3 : W3.cell? ⟨G, 0, none⟩ = some (.slice (some ⟨gn3, 0, none⟩) 3 cn3) := y3
 have z3 : W3.cell? ⟨gn3, 0, none⟩ = some (.pointer (some ⟨b0, 0, none⟩)) := V5 0 (by simp)
 obtain ⟨qb, hqb⟩ := G3.out.nd ⟨b0, NA, P3⟩ (by simp)
 have x4 : W3.cell? ⟨b0, 4, none⟩ = some qb.vc := (hqb.cells (Fr.refl _ W3)).2.2.2.2.1
 have a0 := hqb.free (Fr.refl _ W3) 4
 obtain ⟨W4, hW4⟩ : ∃ Y, W3.alloc (.cells #[.int .i64 0, .int .i64 1, .int .i64 2] 3 (0, 0)) = Y := ⟨_, rfl⟩
 have f4 : Fr (fun _ _ => True) W3 W4 := hW4 ▸ (Fr.refl _ _).alloc _
 have x4' : W4.cell? ⟨b0, 4, none⟩ = some qb.vc := (hqb.cells f4).2.2.2.2.1
 have a0' := hqb.free f4 4
 obtain ⟨W5, hW5⟩ : ∃ Y, W4.setCell ⟨b0, 4, none⟩ (.slice (some ⟨W3.heap.size, 0, none⟩) 3 3) = Y := ⟨_, rfl⟩
 obtain ⟨g5, f5⟩ := G3.out.conf 0 (by simp) [0, 1, 2] (cs := #[.int .i64 0, .int .i64 1, .int .i64 2]) (fun k hk => by
  match k, hk with
  | 0, _ => rfl
  | 1, _ => rfl
  | 2, _ => rfl) rfl hW4 hW5 P3 rfl rfl
 have G5 : Hid (Grp X3 W5 G [⟨b0, { NA with conf := [0, 1, 2] }, P3⟩, x1, x2] [] 0 c) := g5
 have F5 : Hid (Fr (fun _ _ => True) w W5) := Fr.within ((F3.out.mono fun _ _ _ => trivial : Fr (fun q _ => True ∧ q < w.heap.size) w W3).trans (f5.mono fun q _ h e => by exact L3.out.x q (hqb.px _ (e ▸ hqb.pb)) h.2))
 have NSE : Hid (([⟨b0, { NA with conf := [0, 1, 2] }, P3⟩, x1, x2] : List Nx).map (·.n) = NS1) := by
  show [_, x1.n, x2.n] = _
  rw [HN.out.1, HN.out.2.1, ← hNA]
  rfl
 have OK : Hid (GOk 50 ([⟨b0, { NA with conf := [0, 1, 2] }, P3⟩, x1, x2] : List Nx) [] 0 { c with sz := w.heap.size }) := by
  refine ⟨by decide, ?_, ?_, ?_, by show 3 ≤ 1000; decide, by show 0 ≤ 700; decide, ⟨by decide, by decide⟩, by show c.ns ≤ 700000 ∧ c.nt ≤ 700000 ∧ c.nl ≤ 700000; have := HN.out.2.2; omega⟩
  ·intro x hx
   rcases List.mem_cons.1 hx with rfl | hx
   ·show Gd 50 { NA with conf := [0, 1, 2] }
    rw [← hNA]; exact aw0_gd
   ·rcases List.mem_cons.1 hx with rfl | hx
    ·rw [HN.out.1]; exact new_gd 1 (by decide) 50
    ·rw [List.mem_singleton.1 hx, HN.out.2.1]; exact new_gd 2 (by decide) 50
  ·intro m hm; cases hm
  ·intro m hm; cases hm
 have PC : Hid (Calls Tryz.prog 46 #[.pointer (some ⟨G, 0, none⟩), .agg #[.int .i64 5, .int .i64 0]] W5 fun e w' => PlOut (fun q => q < w.heap.size) W5 G _ _ _ _ 5 0 e w') := pl12V5 (G5.out.resz w.heap.size F5.out.size) (fun q => q < w.heap.size) L3.out 50 OK.out 5 ((0 : Nat) : Int) (by decide) 0 (by simp) rfl rfl
 clear p3 a3 o3 e3 V4 V5 hqb f4 g5 f5 hNA y2 z2 AK
 go_upto_region 7 with fail
 rename_i K1 h1
 have H1 := Lib.hid h1
 clear h1
 try rw [hW4]
 try rw [hW5]
 clear hW4 hW5 y3 z3 x4 a0 x4' a0'
 go_wp2_with fail
 (with_reducible refine PC.out.mono ?_)
 rintro e W6 ⟨X6, l6, ms6, many6, c6, rfl, g6, l6w, hp, hnn0, f6⟩
 have hnn : c6.ns ≤ c.ns + 200 ∧ c6.nt ≤ c.nt + 1 ∧ c6.nl ≤ c.nl + 1 ∧ (0 : Int) ≤ many6 ∧ many6 ≤ 0 + 1 := hnn0
 clear hnn0
 obtain ⟨e3, e4⟩ := playR_beat (i := 0) (by rw [NSE.out]; decide) (by decide) hp
 have hn : (([⟨b0, { NA with conf := [0, 1, 2] }, P3⟩, x1, x2] : List Nx).map (·.n))[0]'(by rw [NSE.out]; decide) = aw0 := by
  have := congrArg (fun l => l.getD 0 default) NSE.out
  exact this
 rw [hn] at e4
 rw [NSE.out] at e3
 have e4 : ms6.map MV.ms = MS2 := e4
 have OK2 := Lib.hid (OK.out.next (c' := c6) (many' := many6) hp (by decide) (by omega) (by have := HN.out.2.2; omega))
 have CN : Hid (c6.ns ≤ 1000 ∧ c6.nt ≤ 1000 ∧ c6.nl ≤ 1000) := by have := HN.out.2.2; show _ ∧ _ ∧ _; omega
 have MN : Hid (0 ≤ many6 ∧ many6 ≤ 1000) := by show _ ∧ _; omega
 have G6 := Lib.hid (And.intro g6 (And.intro l6w (And.intro e3 (And.intro e4 f6))))
 clear g6 l6w hp hnn f6 e3 e4 hn PC
 go_wp2_with fail
 exact H1.out _ _ (by apply aw_s7 G6.out.1 (fun q => q < w.heap.size) G6.out.2.1 52 (by decide) MN.out CN.out OK2.out G6.out.2.2.1 G6.out.2.2.2.1 (fun W f => ⟨rfl, Fr.within ((F5.out.mono fun _ _ _ => trivial : Fr (fun q _ => True ∧ q < w.heap.size) w W5).trans ((G6.out.2.2.2.2.trans f).mono fun q _ h => h.2))⟩))
end
end Go.Proofs.YtmjccpfchhnfhaaGreat
