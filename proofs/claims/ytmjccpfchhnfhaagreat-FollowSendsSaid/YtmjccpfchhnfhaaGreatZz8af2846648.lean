/- Texts of the proofs, part 14: what the functions that they reach do, walked; no conditions beyond those that each states. -/
import Derived.Deep.RegionHeld3
import Derived.ArgAppend
import Derived.Test.YtmjccpfchhnfhaaGreatZzb568d83321
set_option linter.unusedVariables false
set_option linter.unusedSimpArgs false
/- The document's logs: Add. -/
namespace Go.Proofs.YtmjccpfchhnfhaaGreat
open Go.RowKit
set_option linter.unusedVariables false
set_option linter.unusedSimpArgs false
theorem own_tt {w w' : World} {B : Nat} {v : Value} {n : Nat} {xs : List Value} {e : TypeId} {s : Nat} (h : w.ownsRow B e s v n xs) (hf : Fr (fun _ _ => True) w w') : w'.ownsRow B e s v n xs := ownsRow_fr h hf fun _ _ _ _ => trivial
theorem own_emptyE {W : World} {B g : Nat} (hb : B ≤ g) (h : W.heap[g]? = some (.cells #[] 85 (0, 0))) : W.ownsRow B 85 3 (.slice (some ⟨g, 0, none⟩) 0 0) ([] : List EV).length (([] : List EV).flatMap encE) :=
 ⟨rfl, .inr ⟨g, 0, #[], rfl, hb, h, Nat.le_refl _, Nat.zero_le _, rfl, rfl⟩⟩
set_option maxRecDepth 100000 in
set_option maxHeartbeats 4000000 in
theorem dadd_calls [Old] {X : Nat → Prop} (w : World) (b bt : Nat) (a : Option Addr) (n c : Nat) (xs : List EV) (x : EV) (hx : EsAt X w (.slice a n c) xs) (hd : BytesAt (RO X) w (.slice x.a x.d.length x.c) x.d) (hdl : x.d.length ≤ 9223372036854775807) (hn : n ≤ 900000) (hX : ∀ c, X c → c < w.heap.size) :
  Calls Tryz.prog 76 #[vL9 b bt (.slice a n c), vE x] w fun e w' => (∃ g k, e = .returned (vL9 b bt (.slice g (n + 1) k)) ∧ EsAt X w' (.slice g (n + 1) k) (xs ++ [x])) ∧ Fr (fun _ _ => True) w w' := by
 have hnl := hx.row.len'
 obtain ⟨W1, hW1, F1, X1, CC⟩ := lbox9 w b bt (.slice a n c)
 obtain ⟨W2, hW2⟩ : ∃ W, W1.alloc (.cells #[.int .u64 (x.t : Nat), .int .i64 x.k, .slice x.a x.d.length x.c] 85 (0, 0)) = W := ⟨_, rfl⟩
 have F2 : Hid (Fr (fun _ _ => True) W1 W2) := hW2 ▸ (Fr.refl _ _).alloc _
 have X2 : Hid (W2.heap[W1.heap.size]? = some (.cells #[.int .u64 (x.t : Nat), .int .i64 x.k, .slice x.a x.d.length x.c] 85 (0, 0))) := hW2 ▸ heap_alloc_new W1 _
 obtain ⟨W3, hW3⟩ : ∃ W, W2.alloc (.cells #[.int .u64 0, .int .u64 0, .slice none 0 0] 100 (0, 0)) = W := ⟨_, rfl⟩
 have F3 : Hid (Fr (fun _ _ => True) W2 W3) := hW3 ▸ (Fr.refl _ _).alloc _
 have X3 : Hid (W3.heap[W2.heap.size]? = some (.cells #[.int .u64 0, .int .u64 0, .slice none 0 0] 100 (0, 0))) := hW3 ▸ heap_alloc_new W2 _
 have LT : Hid (w.heap.size < W1.heap.size ∧ W1.heap.size < W2.heap.size ∧ W2.heap.size < W3.heap.size) := ⟨lt_of_some X1.out, lt_of_some X2.out, lt_of_some X3.out⟩
 have SS : Hid (∀ W, Fr (fun _ _ => True) W3 W → W.cell? ⟨w.heap.size, 0, none⟩ = some (.int .u64 (b : Nat)) ∧ W.cell? ⟨w.heap.size, 1, none⟩ = some (.int .u64 (bt : Nat)) ∧ W.cell? ⟨w.heap.size, 2, none⟩ = some (.slice a n c) ∧ W.cell? ⟨W1.heap.size, 0, none⟩ = some (.int .u64 (x.t : Nat)) ∧ W.cell? ⟨W1.heap.size, 1, none⟩ = some (.int .i64 x.k) ∧ W.cell? ⟨W1.heap.size, 2, none⟩ = some (.slice x.a x.d.length x.c)) := fun W f => by
  obtain ⟨h0, h1, h2⟩ := CC.out W ((F2.out.trans F3.out).trans f)
  have t := f.keep _ _ (F3.out.keep _ _ X2.out trivial) trivial
  exact ⟨h0, h1, h2, cell_mk t rfl, cell_mk t rfl, cell_mk t rfl⟩
 have SK : Hid (∀ W v0 v1 v2, Fr (fun _ _ => True) W3 W → (((W.setCell ⟨W2.heap.size, 0, none⟩ v0).setCell ⟨W2.heap.size, 1, none⟩ v1).setCell ⟨W2.heap.size, 2, none⟩ v2).cell? ⟨w.heap.size, 0, none⟩ = some (.int .u64 (b : Nat)) ∧ (((W.setCell ⟨W2.heap.size, 0, none⟩ v0).setCell ⟨W2.heap.size, 1, none⟩ v1).setCell ⟨W2.heap.size, 2, none⟩ v2).cell? ⟨w.heap.size, 1, none⟩ = some (.int .u64 (bt : Nat)) ∧ (((W.setCell ⟨W2.heap.size, 0, none⟩ v0).setCell ⟨W2.heap.size, 1, none⟩ v1).setCell ⟨W2.heap.size, 2, none⟩ v2).cell? ⟨w.heap.size, 2, none⟩ = some (.slice a n c) ∧ (((W.setCell ⟨W2.heap.size, 0, none⟩ v0).setCell ⟨W2.heap.size, 1, none⟩ v1).setCell ⟨W2.heap.size, 2, none⟩ v2).cell? ⟨W1.heap.size, 0, none⟩ = some (.int .u64 (x.t : Nat)) ∧ (((W.setCell ⟨W2.heap.size, 0, none⟩ v0).setCell ⟨W2.heap.size, 1, none⟩ v1).setCell ⟨W2.heap.size, 2, none⟩ v2).cell? ⟨W1.heap.size, 1, none⟩ = some (.int .i64 x.k) ∧ (((W.setCell ⟨W2.heap.size, 0, none⟩ v0).setCell ⟨W2.heap.size, 1, none⟩ v1).setCell ⟨W2.heap.size, 2, none⟩ v2).cell? ⟨W1.heap.size, 2, none⟩ = some (.slice x.a x.d.length x.c)) := fun W v0 v1 v2 f => by
  have h := SS.out W f
  have fc : Fr (fun c _ => c ≠ W2.heap.size) W (((W.setCell ⟨W2.heap.size, 0, none⟩ v0).setCell ⟨W2.heap.size, 1, none⟩ v1).setCell ⟨W2.heap.size, 2, none⟩ v2) := (((Fr.refl _ _).setCell (fun _ _ h => h rfl) _).setCell (fun _ _ h => h rfl) _).setCell (fun _ _ h => h rfl) _
  have q : ∀ b o v, b < W2.heap.size → W.cell? ⟨b, o, none⟩ = some v → (((W.setCell ⟨W2.heap.size, 0, none⟩ v0).setCell ⟨W2.heap.size, 1, none⟩ v1).setCell ⟨W2.heap.size, 2, none⟩ v2).cell? ⟨b, o, none⟩ = some v := fun b o v hb hc => fc.cell (fun _ _ => by show b ≠ _; omega) hc
  have := LT.out
  exact ⟨q _ _ _ (by omega) h.1, q _ _ _ (by omega) h.2.1, q _ _ _ (by omega) h.2.2.1, q _ _ _ (by omega) h.2.2.2.1, q _ _ _ (by omega) h.2.2.2.2.1, q _ _ _ (by omega) h.2.2.2.2.2⟩
 have U0 : Hid (Fr (fun _ _ => True) W3 W3.drew) := (Fr.refl _ _).drew
 have HX := Lib.hid ((((hx.row.tt F1.out).tt F2.out).tt F3.out))
 have HX0 := Lib.hid hx
 have HD0 := Lib.hid hd
 have HXX := Lib.hid hX
 have HN : Hid (xs.length = n) := hnl.symm
 have HN1 : Hid ((xs ++ [x]).length = n + 1) := by show _ = _; rw [List.length_append, HN.out]; rfl
 have RR : Hid (∀ W, Fr (fun _ _ => True) W3 W → RowsAt (RO X) W (.slice a n c) 3 encE xs) := fun W f => HX.out.tt f
 have OE : Hid (∀ (W : World) g, W3.heap.size ≤ g → W.heap[g]? = some (.cells #[] 85 (0, 0)) → W.ownsRow W3.heap.size 85 3 (.slice (some ⟨g, 0, none⟩) 0 0) ([] : List EV).length (([] : List EV).flatMap encE)) := fun W g h1 h2 => own_emptyE h1 h2
 obtain ⟨E0, hE0⟩ : ∃ E, E = Obj.cells #[] 85 (0, 0) := ⟨_, rfl⟩
 have hn9 : n ≤ 1000000 := by omega
 have hn8 : n + 1 ≤ 1000000 := by omega
 have NB1 : Hid ((Value.slice (some ⟨W3.heap.size, 0, none⟩) 0 0).ownBlock ≠ some (W3.heap.size + 1)) := by show _ ≠ _; simp [Value.ownBlock]
 have NB2 : Hid ((Value.slice (some ⟨W3.heap.size + 1, 0, none⟩) 0 0).ownBlock ≠ some W3.heap.size) := by show _ ≠ _; simp [Value.ownBlock]
 have ON : Hid (∀ (W : World) v, W.ownsRow W3.heap.size 85 3 v n (xs.flatMap encE) → W.ownsRow W3.heap.size 85 3 v xs.length (xs.flatMap encE)) := fun W v h => by rw [HN.out]; exact h
 unfold vL9 vE
 clear hx hd hX hnl
 go_enter Tryz.func76, Tryz.ntmps76
 go_wp2_with fail
 try rw [hW1]
 try rw [hW2]
 try rw [hW3]
 clear hW1 hW2 hW3
 go_region_held3 (fun W => W.cell? ⟨w.heap.size, 0, none⟩ = some (.int .u64 (b : Nat)) ∧ W.cell? ⟨w.heap.size, 1, none⟩ = some (.int .u64 (bt : Nat)) ∧ W.cell? ⟨w.heap.size, 2, none⟩ = some (.slice a n c) ∧ W.cell? ⟨W1.heap.size, 0, none⟩ = some (.int .u64 (x.t : Nat)) ∧ W.cell? ⟨W1.heap.size, 1, none⟩ = some (.int .i64 x.k) ∧ W.cell? ⟨W1.heap.size, 2, none⟩ = some (.slice x.a x.d.length x.c))
  (first | exact SK.out _ _ _ _ F10.out | exact SS.out _ U0.out | exact SS.out _ (U0.out.alloc _) | exact SS.out _ ((U0.out.alloc _).alloc _) | exact SS.out _ F10.out | exact SS.out _ F7.out | exact SS.out _ (F7.out.alloc _))
  (first
   | (refine step_append_ens W3 _ (Lib.hid (U0.out.alloc _)) _ _ rfl _ [] rfl (Lib.hid (OE.out _ _ (Nat.le_refl _) (heap_alloc_new _ _))) _ xs rfl (Lib.hid (RR.out _ (U0.out.alloc _))) xs (Lib.hid rfl) n HN hn9 ?_; intro g7 c7 W7 O7 F7 G7 N7)
   | (refine step_append_ens W3 _ (Lib.hid ((U0.out.alloc _).alloc _)) _ _ rfl _ [] rfl (Lib.hid (OE.out _ _ (Nat.le_refl _) (heap_alloc_lt (heap_alloc_new _ _) _))) _ xs rfl (Lib.hid (RR.out _ ((U0.out.alloc _).alloc _))) xs (Lib.hid rfl) n HN hn9 ?_; intro g7 c7 W7 O7 F7 G7 N7; have XB7 := Lib.hid (G7.out.keep _ _ (heap_alloc_at (World.size_alloc W3.drew _) _) (NB1.out)))
   | (refine step_append_ens W3 _ (Lib.hid ((U0.out.alloc _).alloc _)) _ _ rfl _ [] rfl (Lib.hid (OE.out _ _ (Nat.le_succ _) (heap_alloc_at (World.size_alloc _ _) _))) _ xs rfl (Lib.hid (RR.out _ ((U0.out.alloc _).alloc _))) xs (Lib.hid rfl) n HN hn9 ?_; intro g7 c7 W7 O7 F7 G7 N7; have XB7 := Lib.hid (G7.out.keep _ _ (heap_alloc_lt (heap_alloc_new W3.drew _) _) (NB2.out)))
   | (refine step_append_ens W3 _ (Lib.hid (F7.out.alloc _)) _ _ rfl _ xs rfl (Lib.hid (own_tt (ON.out _ _ O7.out) ((Fr.refl _ _).alloc _))) _ [x] rfl (Lib.hid (rows_oneE (heap_alloc_new _ _))) (xs ++ [x]) (Lib.hid rfl) (n + 1) HN1 hn8 ?_; intro g10 c10 W10 O10 F10 G10 N10; have T10 := Lib.hid (F10.out.keep _ _ X3.out trivial); have z0 := frozen_mk (i := 0) T10.out; have z1 := frozen_mk (i := 1) T10.out; have z2 := frozen_mk (i := 2) T10.out; have k0 := cell_mk (i := 0) T10.out rfl; have k1 := cell_mk (i := 1) T10.out rfl; have k2 := cell_mk (i := 2) T10.out rfl)
   | (refine step_append_ens W3 _ F7 _ _ rfl _ xs rfl (Lib.hid (ON.out _ _ O7.out)) _ [x] rfl (Lib.hid (rows_oneE XB7.out)) (xs ++ [x]) (Lib.hid rfl) (n + 1) HN1 hn8 ?_; intro g10 c10 W10 O10 F10 G10 N10; have T10 := Lib.hid (F10.out.keep _ _ X3.out trivial); have z0 := frozen_mk (i := 0) T10.out; have z1 := frozen_mk (i := 1) T10.out; have z2 := frozen_mk (i := 2) T10.out; have k0 := cell_mk (i := 0) T10.out rfl; have k1 := cell_mk (i := 1) T10.out rfl; have k2 := cell_mk (i := 2) T10.out rfl))
 all_goals
  obtain ⟨WC, hWC, TC, FC⟩ := set3 T10.out (.int .u64 (b : Nat)) (.int .u64 (bt : Nat)) (.slice g10 (n + 1) c10)
  have p0 := cell_mk (i := 0) TC rfl
  have p1 := cell_mk (i := 1) TC rfl
  have p2 := cell_mk (i := 2) TC rfl
  have FCH := Lib.hid FC
  clear TC FC z0 z1 z2 k0 k1 k2
  try rw [hWC]
  go_wp2
  try rw [hWC]
  have fin : Fr (fun c _ => True ∧ c < w.heap.size) w WC := (((((F1.out.trans F2.out).trans F3.out).trans F10.out).mono fun _ _ _ => trivial).trans (FCH.out.mono fun c _ h e => by have := h.2; have := LT.out; omega))
  refine bodyPost_ret (v := .agg #[.int .u64 (b : Nat), .int .u64 (bt : Nat), .slice g10 (n + 1) c10]) (by simp [results, Tryz.results76, go_sem, *]) rfl ⟨⟨g10, c10, rfl, ⟨?_, ?_, ?_⟩⟩, Fr.within fin⟩
  ·have r := rows_own (w := W10) (xs := xs ++ [x]) (B := W3.heap.size) (e := 85) (v := .slice g10 (n + 1) c10) (by rw [HN1.out]; exact O10.out) encE_len
   exact (r.fr FCH.out fun c o _ h => by have := h.1; have := LT.out; omega).mono fun c o _ h => ⟨fun hc => by have := h.1; have := HXX.out c hc; have := LT.out; omega, by obtain ⟨cs, e⟩ := h.2; exact .inr ⟨cs, _, _, e, by decide⟩⟩
  ·intro n' c' e
   rcases O10.out.2 with ⟨e1, e2⟩ | ⟨g', cap, cur, e1, _⟩
   ·cases e1
   ·rw [e1] at e; cases e
  ·intro y hy
   rcases List.mem_append.1 hy with h | h
   ·exact ⟨(HX0.out.dat y h).1.fr3 fin fun c o ho _ => ⟨trivial, lt_of_some ho⟩, (HX0.out.dat y h).2⟩
   ·rw [List.mem_singleton.1 h]
    exact ⟨HD0.out.fr3 fin fun c o ho _ => ⟨trivial, lt_of_some ho⟩, hdl⟩
end Go.Proofs.YtmjccpfchhnfhaaGreat
/- The document's logs: Hint. -/
namespace Go.Proofs.YtmjccpfchhnfhaaGreat
open Go.RowKit
set_option linter.unusedVariables false
set_option linter.unusedSimpArgs false
end Go.Proofs.YtmjccpfchhnfhaaGreat
