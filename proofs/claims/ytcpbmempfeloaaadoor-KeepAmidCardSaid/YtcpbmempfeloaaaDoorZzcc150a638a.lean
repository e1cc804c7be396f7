/- Texts of the proofs, part 29: what the functions that they reach do, walked; no conditions beyond those that each states. -/
import Derived.Laws.BytesArg
import Derived.Laws.BytesString
import Derived.Lib.Bytes
import Derived.Deep.RegionHeld3
import Derived.Deep.Cut
import Derived.Shelf.Abstract
import Derived.Test.YtcpbmempfeloaaaDoorZzbb167bffd2
set_option linter.unusedVariables false
set_option linter.unusedSimpArgs false
/- Keep: bytes.Equal; a state's head, a record's bytes. -/
namespace Go.Proofs.YtcpbmempfeloaaaDoor
open Go.RowKit
set_option linter.unusedVariables false
set_option linter.unusedSimpArgs false

def strB (x : List UInt8) : ByteArray := ⟨x.toArray⟩
theorem strB_nums (x : List UInt8) : strOfNums (x.map fun u => (u.toNat : Int)) = strB x := by
  unfold strOfNums strB
  rw [List.map_map]
  congr 1
  have : (fun n : Int => UInt8.ofNat n.toNat) ∘ (fun u : UInt8 => (u.toNat : Int)) = id := by
    funext u; simp
  rw [this, List.map_id]
theorem strB_toList (x : List UInt8) : (strB x).toList = x := by
  rw [← strB_nums, Lib.strOfNums_toList]
  unfold Lib.bytesOf
  rw [List.map_map]
  have : (fun n : Int => UInt8.ofNat n.toNat) ∘ (fun u : UInt8 => (u.toNat : Int)) = id := by
    funext u; simp
  first | rw [this, List.map_id] | simp
theorem strB_inj {x y : List UInt8} (h : strB x = strB y) : x = y := by
  unfold strB at h
  injection h with h
  exact Array.toList_inj.2 h |> fun e => by simpa using e
theorem conv_at {K : Nat → Obj → Prop} {w : World} {a : Option Addr} {n c : Nat} {x : List UInt8} (h : BytesAt K w (.slice a n c) x) (dst : TypeId) (hd : Tryd.prog.underlying dst = some .string) : (convert 33 dst (.slice a n c)).run Tryd.prog w = .ok (.string (strB x)) w := by
  obtain ⟨a', c', e, _, _, h⟩ := h
  cases e
  rcases h with h | ⟨b, off, o, e, _, _, hc⟩
  · subst h
    rw [show ([] : List UInt8).length = 0 from rfl, run_convert_bytes_string w 33 dst 5 _ 0 c Tryd.underlying33 Tryd.underlying5 hd]
    cases a <;> simp [Conv.bytesToString, loadCells]
    all_goals rfl
  · cases e
    rw [← strB_nums]
    refine run_convert_bytes_arg w 33 5 Tryd.underlying33 Tryd.underlying5 b off x.length c _ (by simp) (fun i hi => ?_) dst hd
    rw [hc i hi]
    simp [byteV, List.getD_eq_getElem?_getD, hi]
set_option maxRecDepth 100000 in
/-- bytes.Equal. -/
theorem beq_calls {K K' : Nat → Obj → Prop} (w : World) (v1 v2 : Value) (x y : List UInt8) (h1 : BytesAt K w v1 x) (h2 : BytesAt K' w v2 y) :
    Calls Tryd.prog 111 #[v1, v2] w fun e w' => e = .returned (.bool (decide (x = y))) ∧ w = w' := by
  obtain ⟨a1, c1, rfl⟩ := h1.form
  obtain ⟨a2, c2, rfl⟩ := h2.form
  have k1 := conv_at h1 9 Tryd.underlying9
  have k2 := conv_at h2 9 Tryd.underlying9
  generalize x.length = n1 at k1 ⊢
  generalize y.length = n2 at k2 ⊢
  have HI : Hid (strB x = strB y → x = y) := strB_inj
  clear h1 h2
  by_cases e : x = y
  · subst e
    rw [show decide (x = x) = true from decide_eq_true rfl]
    generalize strB x = s at k1 k2
    go_enter Tryd.func111, Tryd.ntmps111
    go_wp2
    go_ret
    exact ⟨by simp, rfl⟩
  · have hs : ¬ strB x = strB y := fun q => e (HI.out q)
    have hsl : ¬ (strB x).toList = (strB y).toList := by rw [strB_toList, strB_toList]; exact e
    rw [decide_eq_false e]
    generalize strB x = s at k1 hs hsl
    generalize strB y = t at k2 hs hsl
    clear e HI
    go_enter Tryd.func111, Tryd.ntmps111
    go_wp2
    go_ret
    exact ⟨by simp [hs, hsl], rfl⟩
/-- A state's value. -/
def vS (s : Sta) (v : Value) : Value := .agg #[.int .u64 (s.term : Nat), .int .i64 s.vote, .int .u64 (s.base : Nat), .int .u64 (s.bt : Nat), v]
set_option maxRecDepth 100000 in
set_option maxHeartbeats 2000000 in
/-- A state's head. -/
theorem head_calls (w : World) (s : Sta) (a : Option Addr) (n c : Nat) (hs : s.wf) (hv : -1 ≤ s.vote ∧ s.vote < 255) :
    Calls Tryd.prog 110 #[vS s (.slice a n c)] w fun e w' => (∃ a' c', e = .returned (.slice a' 25 c') ∧ BytesAt (New w.heap.size) w' (.slice a' 25 c') (headB s)) ∧ Fr (fun _ _ => True) w w' := by
  obtain ⟨h1, h2, h3, _⟩ := hs
  obtain ⟨W1, hW1⟩ : ∃ W, w.alloc (.cells #[.int .u64 (s.term : Nat), .int .i64 s.vote, .int .u64 (s.base : Nat), .int .u64 (s.bt : Nat), .slice a n c] 68 (0, 0)) = W := ⟨_, rfl⟩
  have F1 : Hid (Fr (fun _ _ => True) w W1) := hW1 ▸ (Fr.refl _ _).alloc _
  have X1 : Hid (W1.heap[w.heap.size]? = some (.cells #[.int .u64 (s.term : Nat), .int .i64 s.vote, .int .u64 (s.base : Nat), .int .u64 (s.bt : Nat), .slice a n c] 68 (0, 0))) := hW1 ▸ heap_alloc_new w _
  obtain ⟨W2, hW2⟩ : ∃ W, W1.alloc (.cells #[.slice none 0 0] 150 (0, 0)) = W := ⟨_, rfl⟩
  have L0 : Hid (LW W1 W2 W1.heap.size []) := hW2 ▸ LW.mk0 (Fr.refl _ _)
  have CC : Hid (∀ W, Fr (fun _ _ => True) W1 W → W.cell? ⟨w.heap.size, 0, none⟩ = some (.int .u64 (s.term : Nat)) ∧ W.cell? ⟨w.heap.size, 1, none⟩ = some (.int .i64 s.vote) ∧ W.cell? ⟨w.heap.size, 2, none⟩ = some (.int .u64 (s.base : Nat)) ∧ W.cell? ⟨w.heap.size, 3, none⟩ = some (.int .u64 (s.bt : Nat))) := fun W f => by
    have t := f.keep _ _ X1.out trivial
    exact ⟨cell_mk t rfl, cell_mk t rfl, cell_mk t rfl, cell_mk t rfl⟩
  obtain ⟨vv, hvv⟩ : ∃ vv, (s.vote + 1).toNat = vv := ⟨_, rfl⟩
  have w1 : IntKind.i64.wrap (s.vote + 1) = s.vote + 1 := by rw [IntKind.wrap_i64]; omega
  have w2 : IntKind.u64.wrap (s.vote + 1) = s.vote + 1 := by rw [IntKind.wrap_u64]; omega
  have EV : Hid (s.vote + 1 = (vv : Int)) := by show _ = _; omega
  have HB : Hid (((([] ++ le s.term 8) ++ le vv 1) ++ le s.base 8) ++ le s.bt 8 = headB s) := by show _ = _; rw [List.nil_append, ← hvv]; rfl
  have K1 := Lib.hid (lw_number W1 W2 W1.heap.size [] s.term 8 s.term 8 rfl rfl L0.out (by decide) (by decide) h1 (by simp))
  obtain ⟨x0, _, _, _⟩ := CC.out W2 L0.out.fr
  have LT : Hid (s.term < 18446744073709551616 ∧ s.base < 18446744073709551616 ∧ s.bt < 18446744073709551616 ∧ vv ≤ 255) := ⟨h1, h2, h3, by omega⟩
  have HL := Lib.hid (headB_len s)
  unfold vS
  clear h1 h2 h3 hv hvv
  go_enter Tryd.func110, Tryd.ntmps110
  go_wp2_with fail
  try rw [hW1]
  try rw [hW2]
  (with_reducible refine K1.out.mono ?_)
  rintro e v1 ⟨rfl, l1⟩
  have L1 := Lib.hid l1
  obtain ⟨_, x1, _, _⟩ := CC.out v1 l1.fr
  have K2 := Lib.hid (lw_number W1 v1 W1.heap.size _ vv 1 (s.vote + 1) 1 EV.out rfl l1 (by decide) (by decide) (by have := LT.out; omega) (by simp [le_length]))
  clear l1 K1 x0 hW1 hW2
  go_wp2_with fail
  (with_reducible refine K2.out.mono ?_)
  rintro e v2 ⟨rfl, l2⟩
  have L2 := Lib.hid l2
  obtain ⟨_, _, x2, _⟩ := CC.out v2 l2.fr
  have K3 := Lib.hid (lw_number W1 v2 W1.heap.size _ s.base 8 s.base 8 rfl rfl l2 (by decide) (by decide) LT.out.2.1 (by simp [le_length]))
  clear l2 K2 x1
  go_wp2_with fail
  (with_reducible refine K3.out.mono ?_)
  rintro e v3 ⟨rfl, l3⟩
  have L3 := Lib.hid l3
  obtain ⟨_, _, _, x3⟩ := CC.out v3 l3.fr
  have K4 := Lib.hid (lw_number W1 v3 W1.heap.size _ s.bt 8 s.bt 8 rfl rfl l3 (by decide) (by decide) LT.out.2.2.1 (by simp [le_length]))
  clear l3 K3 x2
  go_wp2_with fail
  (with_reducible refine K4.out.mono ?_)
  rintro e v4 ⟨rfl, l4⟩
  have K5 := Lib.hid (lw_out W1 v4 W1.heap.size _ l4 (by simp [le_length]))
  rw [HB.out, HL.out] at K5
  have G4 : Hid (w.heap.size ≤ v4.heap.size) := Lib.hid (Nat.le_trans F1.out.size l4.fr.size)
  clear l4 K4 x3
  go_wp2_with fail
  (with_reducible refine K5.out.mono ?_)
  rintro e v5 ⟨⟨a5, c5, rfl, b5⟩, f5⟩
  have B5 : Hid (BytesAt (New w.heap.size) v5 (.slice a5 25 c5) (headB s)) := Lib.hid (b5.mono fun c o _ h => ⟨Nat.le_trans G4.out h.1, h.2⟩)
  have F5 := Lib.hid (F1.out.trans f5)
  clear b5 f5 K5
  go_wp2
  go_ret
  exact ⟨⟨a5, c5, rfl, B5.out⟩, F5.out⟩
end Go.Proofs.YtcpbmempfeloaaaDoor
/- Keep: a record's bytes; parse. -/
namespace Go.Proofs.YtcpbmempfeloaaaDoor
open Go.RowKit
set_option linter.unusedVariables false
set_option linter.unusedSimpArgs false

def EV.en (x : EV) : En := ⟨x.t, x.k, x.d⟩
/-- A record as it lies. -/
structure RV where
  at_ : Nat
  x : EV
  deriving Inhabited
def RV.rc (r : RV) : Nat × En := (r.at_, r.x.en)
def encR (r : RV) : List Value := [.int .u64 (r.at_ : Nat), .int .u64 (r.x.t : Nat), .int .i64 r.x.k, .slice r.x.a r.x.d.length r.x.c]
def vRec (r : RV) : Value := .agg #[.int .u64 (r.at_ : Nat), .int .u64 (r.x.t : Nat), .int .i64 r.x.k, .slice r.x.a r.x.d.length r.x.c]
theorem encR_len (x : RV) : (encR x).length = 4 := rfl
theorem encR_one (h : RV) : ∀ u ∈ encR h, u.oneCell' = true := fun u hu => by
  simp only [encR, List.mem_cons, List.not_mem_nil, or_false] at hu
  rcases hu with rfl | rfl | rfl | rfl <;> rfl
theorem RowsAt.r4 {K : Nat → Obj → Prop} {w : World} {b off : Nat} {xs : List RV} (h : ∀ i, (h : i < xs.length) → ∀ j u, (encR xs[i])[j]? = some u → w.cell? ⟨b, off + i * 4 + j, none⟩ = some u) (i : Nat) (hi : i < xs.length) :
    w.cell? ⟨b, off + i * 4, none⟩ = some (.int .u64 (xs[i].at_ : Nat)) ∧ w.cell? ⟨b, off + i * 4 + 1, none⟩ = some (.int .u64 (xs[i].x.t : Nat)) ∧ w.cell? ⟨b, off + i * 4 + 2, none⟩ = some (.int .i64 xs[i].x.k) ∧ w.cell? ⟨b, off + i * 4 + 3, none⟩ = some (.slice xs[i].x.a xs[i].x.d.length xs[i].x.c) :=
  ⟨h i hi 0 _ rfl, h i hi 1 _ rfl, h i hi 2 _ rfl, h i hi 3 _ rfl⟩
theorem info_rc : (Tryd.prog.info? 141).map (fun i => (i.zero, i.size, i.bytes)) = some (some (.agg #[.int .u64 0, .int .u64 0, .int .i64 0, .slice none 0 0]), 4, 48) := by kernel_rfl
theorem rows_oneR {w : World} {b : Nat} {y : RV} (h : w.heap[b]? = some (.cells #[.int .u64 (y.at_ : Nat), .int .u64 (y.x.t : Nat), .int .i64 y.x.k, .slice y.x.a y.x.d.length y.x.c] 141 (0, 0))) : RowsAt (fun c _ => c = b) w (.slice (some ⟨b, 0, none⟩) 1 1) 4 encR [y] := by
  refine ⟨_, 1, rfl, Nat.le_refl _, .inr ⟨b, 0, _, rfl, h, rfl, fun i hi j u hu => ?_⟩⟩
  have : i = 0 := by simpa using hi
  subst this
  rcases j with _ | _ | _ | _ | j
  · cases hu; exact cell_mk h rfl
  · cases hu; exact cell_mk h rfl
  · cases hu; exact cell_mk h rfl
  · cases hu; exact cell_mk h rfl
  · cases hu
theorem badE_no {x : En} (h : badE x = false) : 0 ≤ x.k ∧ x.k ≤ 255 ∧ x.d.length ≤ 24 := by
  unfold badE at h
  simp only [Bool.or_eq_false_iff, decide_eq_false_iff_not] at h
  omega
set_option maxRecDepth 100000 in
set_option maxHeartbeats 2000000 in
/-- A record's bytes. -/
theorem rbyt_calls {K : Nat → Obj → Prop} (w : World) (r : RV) (hb : BytesAt K w (.slice r.x.a r.x.d.length r.x.c) r.x.d) (h1 : r.at_ < 18446744073709551616) (h2 : r.x.t < 18446744073709551616) (h3 : badE r.x.en = false) :
    Calls Tryd.prog 116 #[vRec r] w fun e w' => (∃ a' c', e = .returned (.slice a' (recB r.rc).length c') ∧ BytesAt (New w.heap.size) w' (.slice a' (recB r.rc).length c') (recB r.rc)) ∧ Fr (fun _ _ => True) w w' := by
  obtain ⟨at_, t, k, a, c, d⟩ := r
  have hlen := recB_len (r := (at_, (⟨t, k, d⟩ : En))) h3
  obtain ⟨k1, k2, k3⟩ := badE_no h3
  dsimp only [RV.rc, EV.en] at *
  obtain ⟨W1, hW1⟩ : ∃ W, w.alloc (.cells #[.int .u64 (at_ : Nat), .int .u64 (t : Nat), .int .i64 k, .slice a d.length c] 141 (0, 0)) = W := ⟨_, rfl⟩
  have F1 : Hid (Fr (fun _ _ => True) w W1) := hW1 ▸ (Fr.refl _ _).alloc _
  have X1 : Hid (W1.heap[w.heap.size]? = some (.cells #[.int .u64 (at_ : Nat), .int .u64 (t : Nat), .int .i64 k, .slice a d.length c] 141 (0, 0))) := hW1 ▸ heap_alloc_new w _
  obtain ⟨W2, hW2⟩ : ∃ W, W1.alloc (.cells #[.slice none 0 0] 150 (0, 0)) = W := ⟨_, rfl⟩
  have L0 : Hid (LW W1 W2 W1.heap.size []) := hW2 ▸ LW.mk0 (Fr.refl _ _)
  have CC : Hid (∀ W, Fr (fun _ _ => True) W1 W → W.cell? ⟨w.heap.size, 0, none⟩ = some (.int .u64 (at_ : Nat)) ∧ W.cell? ⟨w.heap.size, 1, none⟩ = some (.int .u64 (t : Nat)) ∧ W.cell? ⟨w.heap.size, 2, none⟩ = some (.int .i64 k) ∧ W.cell? ⟨w.heap.size, 3, none⟩ = some (.slice a d.length c)) := fun W f => by
    have t := f.keep _ _ X1.out trivial
    exact ⟨cell_mk t rfl, cell_mk t rfl, cell_mk t rfl, cell_mk t rfl⟩
  obtain ⟨kk, hkk⟩ : ∃ kk, k.toNat = kk := ⟨_, rfl⟩
  have w2 : IntKind.u64.wrap k = k := by rw [IntKind.wrap_u64]; omega
  have EK : Hid (k = (kk : Int)) := by show _ = _; omega
  obtain ⟨R, hR⟩ : ∃ R, recB (at_, (⟨t, k, d⟩ : En)) = R := ⟨_, rfl⟩
  have HB : Hid (((([] ++ le at_ 8) ++ le t 8) ++ le kk 1) ++ byt d = R) := by show _ = _; rw [List.nil_append, ← hR, ← hkk]; rfl
  rw [hR] at hlen ⊢
  have K1 := Lib.hid (lw_number W1 W2 W1.heap.size [] at_ 8 at_ 8 rfl rfl L0.out (by decide) (by decide) h1 (by simp))
  obtain ⟨x0, _, _, _⟩ := CC.out W2 L0.out.fr
  have LT : Hid (at_ < 18446744073709551616 ∧ t < 18446744073709551616 ∧ kk ≤ 255 ∧ d.length ≤ 24 ∧ R.length ≤ 43) := ⟨h1, h2, by omega, by omega, hlen⟩
  have BD := Lib.hid (hb.tt F1.out)
  generalize hdl : d.length = dl at CC BD LT ⊢
  rw [hdl] at hW1
  unfold vRec
  dsimp only
  rw [hdl]
  clear h1 h2 k1 k2 k3 hkk hR hb hlen hdl X1
  go_enter Tryd.func116, Tryd.ntmps116
  go_wp2_with fail
  try rw [hW1]
  try rw [hW2]
  (with_reducible refine K1.out.mono ?_)
  rintro e v1 ⟨rfl, l1⟩
  obtain ⟨_, x1, _, _⟩ := CC.out v1 l1.fr
  have K2 := Lib.hid (lw_number W1 v1 W1.heap.size _ t 8 t 8 rfl rfl l1 (by decide) (by decide) LT.out.2.1 (by simp [le_length]))
  clear l1 K1 x0 hW1 hW2
  go_wp2_with fail
  (with_reducible refine K2.out.mono ?_)
  rintro e v2 ⟨rfl, l2⟩
  obtain ⟨_, _, x2, _⟩ := CC.out v2 l2.fr
  have K3 := Lib.hid (lw_number W1 v2 W1.heap.size _ kk 1 k 1 EK.out rfl l2 (by decide) (by decide) (by have := LT.out; omega) (by simp [le_length]))
  clear l2 K2 x1
  go_wp2_with fail
  (with_reducible refine K3.out.mono ?_)
  rintro e v3 ⟨rfl, l3⟩
  obtain ⟨_, _, _, x3⟩ := CC.out v3 l3.fr
  have K4 := Lib.hid (lw_bytes W1 v3 W1.heap.size _ _ d l3 BD.out (by simp [le_length]) (by have h1 := BD.out.len; have := LT.out; omega))
  rw [HB.out] at K4
  clear l3 K3 x2
  go_wp2_with fail
  (with_reducible refine K4.out.mono ?_)
  rintro e v4 ⟨rfl, l4⟩
  have K5 := Lib.hid (lw_out W1 v4 W1.heap.size _ l4 (by have := LT.out; omega))
  have G4 : Hid (w.heap.size ≤ v4.heap.size) := Lib.hid (Nat.le_trans F1.out.size l4.fr.size)
  clear l4 K4 x3
  go_wp2_with fail
  (with_reducible refine K5.out.mono ?_)
  rintro e v5 ⟨⟨a5, c5, rfl, b5⟩, f5⟩
  have B5 : Hid (BytesAt (New w.heap.size) v5 (.slice a5 R.length c5) R) := Lib.hid (b5.mono fun c o _ h => ⟨Nat.le_trans G4.out h.1, h.2⟩)
  have F5 := Lib.hid (F1.out.trans f5)
  clear b5 f5 K5
  go_wp2
  go_ret
  exact ⟨⟨a5, c5, rfl, B5.out⟩, F5.out⟩
end Go.Proofs.YtcpbmempfeloaaaDoor
/- Keep: parse. -/
namespace Go.Proofs.YtcpbmempfeloaaaDoor
open Go.RowKit
set_option linter.unusedVariables false
set_option linter.unusedSimpArgs false

theorem numR_le {x n : Nat} {r : List UInt8} (h : x < 256 ^ n) : numR (le x n ++ r) false n = (x, r, false) := by
  unfold numR
  rw [if_neg (by simp [le_length])]
  rw [List.take_left' (le_length x n), List.drop_left' (le_length x n), ofLE_le n x h]
theorem bytR_byt {x r : List UInt8} (h : x.length ≤ 1000) : bytR (byt x ++ r) false = (x, r, false) := by
  have e : byt x = le x.length 2 ++ x := by unfold byt; rw [List.take_of_length_le h]
  have h1 : numR (byt x ++ r) false 2 = (x.length, x ++ r, false) := by rw [e, List.append_assoc]; exact numR_le (by omega)
  unfold bytR
  rw [h1]
  simp only
  rw [if_neg (by simp; omega), List.take_left' rfl, List.drop_left' rfl]
theorem set4 {w : World} {g : Nat} {t : TypeId} {a0 a1 a2 a3 : Value} (h : w.heap[g]? = some (.cells #[a0, a1, a2, a3] t (0, 0))) (v0 v1 v2 v3 : Value) :
    ∃ W, ((((w.setCell ⟨g, 0, none⟩ v0).setCell ⟨g, 1, none⟩ v1).setCell ⟨g, 2, none⟩ v2).setCell ⟨g, 3, none⟩ v3) = W ∧ W.heap[g]? = some (.cells #[v0, v1, v2, v3] t (0, 0)) ∧ Fr (fun c _ => c ≠ g) w W :=
  ⟨_, rfl, heap_setCell_same (o := 3) (heap_setCell_same (o := 2) (heap_setCell_same (o := 1) (heap_setCell_same (o := 0) h v0) v1) v2) v3, ((((Fr.refl _ _).setCell (fun _ _ h => h rfl) _).setCell (fun _ _ h => h rfl) _).setCell (fun _ _ h => h rfl) _).setCell (fun _ _ h => h rfl) _⟩
theorem set3o {w : World} {g : Nat} {t : TypeId} {a0 a1 a2 a3 : Value} (h : w.heap[g]? = some (.cells #[a0, a1, a2, a3] t (0, 0))) (v1 v2 v3 : Value) :
    ∃ W, (((w.setCell ⟨g, 1, none⟩ v1).setCell ⟨g, 2, none⟩ v2).setCell ⟨g, 3, none⟩ v3) = W ∧ W.heap[g]? = some (.cells #[a0, v1, v2, v3] t (0, 0)) ∧ Fr (fun c _ => c ≠ g) w W :=
  ⟨_, rfl, heap_setCell_same (o := 3) (heap_setCell_same (o := 2) (heap_setCell_same (o := 1) h v1) v2) v3, (((Fr.refl _ _).setCell (fun _ _ h => h rfl) _).setCell (fun _ _ h => h rfl) _).setCell (fun _ _ h => h rfl) _⟩
theorem keep_bz {i m : Nat} {w w' : World} {v : Value} {b : List UInt8} {cs : Array Value} {t : TypeId} {fz : Nat × Nat} (hb : BytesAt (New i) w v b) (f : Fr (fun c _ => c ≠ m) w w') (hm : w.heap[m]? = some (.cells cs t fz)) (ht : t ≠ 5) : BytesAt (New i) w' v b := by
  have h1 : BytesAt (fun c o => (c ≠ m) ∧ New i c o) w v b := hb.mono fun c o ho hc => by
    obtain ⟨_, cs', fz', rfl⟩ := id hc
    exact ⟨fun e => by subst e; rw [hm] at ho; cases ho; exact ht rfl, hc⟩
  exact (h1.fr (f.mono fun _ _ h => h.1)).mono fun _ _ _ h => h.2
set_option maxRecDepth 100000 in
set_option maxHeartbeats 4000000 in
/-- A record of its bytes. -/
theorem parse_calls' {K : Nat → Obj → Prop} (w : World) (av : Option Addr) (cv n : Nat) (at_ t : Nat) (k : Int) (d : List UInt8) (hb : BytesAt K w (.slice av n cv) (recB (at_, ⟨t, k, d⟩))) (h1 : at_ < 18446744073709551616) (h2 : t < 18446744073709551616) (h3 : badE ⟨t, k, d⟩ = false) :
    Calls Tryd.prog 83 #[.slice av n cv] w fun e w' => ∃ a c, e = .returned (.tuple #[.agg #[.int .u64 (at_ : Nat), .int .u64 (t : Nat), .int .i64 k, .slice a d.length c], .bool true]) ∧ BytesAt (New w.heap.size) w' (.slice a d.length c) d ∧ Fr (fun _ _ => True) w w' := by
  obtain ⟨k1, k2, k3⟩ := badE_no h3
  dsimp only at k1 k2 k3
  obtain ⟨kk, hkk⟩ : ∃ kk, k.toNat = kk := ⟨_, rfl⟩
  have w2 : IntKind.i64.wrap (kk : Int) = k := by rw [IntKind.wrap_i64]; omega
  obtain ⟨B0, hB0⟩ : ∃ B, recB (at_, (⟨t, k, d⟩ : En)) = B := ⟨_, rfl⟩
  obtain ⟨B3, hB3⟩ : ∃ B, byt d ++ [] = B := ⟨_, rfl⟩
  obtain ⟨B2, hB2⟩ : ∃ B, le kk 1 ++ B3 = B := ⟨_, rfl⟩
  obtain ⟨B1, hB1⟩ : ∃ B, le t 8 ++ B2 = B := ⟨_, rfl⟩
  have n0 : numR B0 false 8 = (at_, B1, false) := by
    rw [← hB0, ← hB1, ← hB2, ← hB3]
    unfold recB
    dsimp only
    rw [List.append_nil, hkk, List.append_assoc, List.append_assoc]
    exact numR_le (by omega)
  have n1 : numR B1 false 8 = (t, B2, false) := by rw [← hB1]; exact numR_le (by omega)
  have n2 : numR B2 false 1 = (kk, B3, false) := by rw [← hB2]; exact numR_le (by omega)
  have n3 : bytR B3 false = (d, [], false) := by rw [← hB3]; exact bytR_byt (by omega)
  have hl0 : B0.length ≤ 43 := by rw [← hB0]; exact recB_len h3
  have hl1 : B1.length ≤ B0.length := by have := numR_len B0 false 8; rw [n0] at this; exact this
  have hl2 : B2.length ≤ B1.length := by have := numR_len B1 false 8; rw [n1] at this; exact this
  have hl3 : B3.length ≤ B2.length := by have := numR_len B2 false 1; rw [n2] at this; exact this
  have LL : Hid (B0.length ≤ 43 ∧ B1.length ≤ 43 ∧ B2.length ≤ 43 ∧ B3.length ≤ 43) := ⟨hl0, by omega, by omega, by omega⟩
  have N1 := Lib.hid n1
  have N2 := Lib.hid n2
  have N3 := Lib.hid n3
  rw [hB0] at hb
  obtain ⟨W1, hW1⟩ : ∃ W, w.alloc (.cells #[.int .u64 0, .int .u64 0, .int .i64 0, .slice none 0 0] 141 (0, 0)) = W := ⟨_, rfl⟩
  have F1 : Hid (Fr (fun _ _ => True) w W1) := hW1 ▸ (Fr.refl _ _).alloc _
  have X1 : Hid (W1.heap[w.heap.size]? = some (.cells #[.int .u64 0, .int .u64 0, .int .i64 0, .slice none 0 0] 141 (0, 0))) := hW1 ▸ heap_alloc_new w _
  have RC := Lib.hid (read_calls W1 av n cv)
  have L0 := Lib.hid (LR.mk0 (Fr.refl (fun _ _ => True) W1) (hb.tt F1.out))
  have BR : Hid (w.heap.size < W1.heap.size) := lt_of_some X1.out
  obtain ⟨W2, hW2⟩ : ∃ W, W1.alloc (.cells #[.slice av n cv, .bool false] 185 (0, 0)) = W := ⟨_, rfl⟩
  rw [hW2] at RC L0
  have M0 := Lib.hid (lr_number W1 W2 W1.heap.size B0 false 8 8 rfl L0.out (by decide) (by decide) (by have := LL.out; omega) at_ B1 false n0)
  have HKK : Hid (k = (kk : Int)) := by show _ = _; omega
  clear hkk hB0 hB1 hB2 hB3 n0 n1 n2 n3 hl0 hl1 hl2 hl3 h3 k1 k2 k3 hb L0 hW2
  go_enter Tryd.func83, Tryd.ntmps83
  go_wp2_with fail
  try rw [hW1]
  (with_reducible refine RC.out.mono ?_)
  rintro e v0 ⟨rfl, rfl⟩
  clear RC hW1
  go_wp2_with fail
  (with_reducible refine M0.out.mono ?_)
  rintro e v1 ⟨rfl, l1, _⟩
  have F2 : Hid (Fr (fun _ _ => True) W1 v1) := l1.fr
  have L1 := Lib.hid l1
  obtain ⟨W3, hW3⟩ : ∃ W, v1.alloc (.cells #[.int .u64 0, .int .u64 0, .int .i64 0, .slice none 0 0] 141 (0, 0)) = W := ⟨_, rfl⟩
  have A3 : Hid (Fr (fun _ _ => True) v1 W3) := hW3 ▸ (Fr.refl _ _).alloc _
  have X3 : Hid (W3.heap[v1.heap.size]? = some (.cells #[.int .u64 0, .int .u64 0, .int .i64 0, .slice none 0 0] 141 (0, 0))) := hW3 ▸ heap_alloc_new v1 _
  have q0 := cell_mk (i := 0) X3.out rfl
  have q1 := cell_mk (i := 1) X3.out rfl
  have q2 := cell_mk (i := 2) X3.out rfl
  have q3 := cell_mk (i := 3) X3.out rfl
  have y0 := frozen_mk (i := 0) X3.out
  have y1 := frozen_mk (i := 1) X3.out
  have y2 := frozen_mk (i := 2) X3.out
  have y3 := frozen_mk (i := 3) X3.out
  obtain ⟨v3, hv3, T3, G3⟩ := set4 X3.out (.int .u64 (at_ : Nat)) (.int .u64 0) (.int .i64 0) (.slice none 0 0)
  have X4 := Lib.hid T3
  have F3 : Hid (Fr (fun _ _ => True) v1 v3) := Lib.hid (Fr.within ((A3.out.mono fun _ _ _ => trivial).trans (G3.mono fun c _ h e => by have := h.2; omega)))
  have L3 := Lib.hid (L1.out.tt F3.out)
  have M1 := Lib.hid (lr_number W1 v3 W1.heap.size B1 false 8 8 rfl L3.out (by decide) (by decide) (by have := LL.out; omega) t B2 false N1.out)
  obtain ⟨gx, hgx⟩ : ∃ g, v1.heap.size = g := ⟨_, rfl⟩
  rw [hgx] at q0 q1 q2 q3 y0 y1 y2 y3 hv3 X4
  have BG : Hid (W1.heap.size < gx) := by show _ < _; rw [← hgx]; obtain ⟨u, hu⟩ := l1.at'; exact lt_of_some hu.top
  clear M0 l1 T3 G3
  go_wp2_with fail
  try rw [hW3]
  try rw [hgx]
  try rw [hv3]
  (with_reducible refine M1.out.mono ?_)
  rintro e v4 ⟨rfl, l4, f4⟩
  have L4 := Lib.hid l4
  have X5 : Hid (v4.heap[gx]? = some (.cells #[.int .u64 (at_ : Nat), .int .u64 0, .int .i64 0, .slice none 0 0] 141 (0, 0))) := f4.keep _ _ X4.out (by have := BG.out; omega)
  have M2 := Lib.hid (lr_number W1 v4 W1.heap.size B2 false 1 1 rfl l4 (by decide) (by decide) (by have := LL.out; omega) kk B3 false N2.out)
  clear q0 q1 q2 q3 y0 y1 y2 y3 hv3 hW3 hgx X3 X4 l4 f4 M1
  go_wp2_with fail
  (with_reducible refine M2.out.mono ?_)
  rintro e v5 ⟨rfl, l5, f5⟩
  have X6 : Hid (v5.heap[gx]? = some (.cells #[.int .u64 (at_ : Nat), .int .u64 0, .int .i64 0, .slice none 0 0] 141 (0, 0))) := f5.keep _ _ X5.out (by have := BG.out; omega)
  have M3 := Lib.hid (lr_bytes W1 v5 W1.heap.size B3 false l5 (by have := LL.out; omega) d [] false N3.out)
  have G5 : Hid (w.heap.size ≤ v5.heap.size) := Lib.hid (Nat.le_trans F1.out.size l5.fr.size)
  clear X5 l5 f5 M2
  go_wp2_with fail
  (with_reducible refine M3.out.mono ?_)
  rintro e v6 ⟨⟨a6, c6, rfl, b6⟩, l6, f6⟩
  have X7 : Hid (v6.heap[gx]? = some (.cells #[.int .u64 (at_ : Nat), .int .u64 0, .int .i64 0, .slice none 0 0] 141 (0, 0))) := f6.keep _ _ X6.out (by have := BG.out; omega)
  have B6 : Hid (BytesAt (New w.heap.size) v6 (.slice a6 d.length c6) d) := Lib.hid (b6.mono fun c o _ h => ⟨Nat.le_trans G5.out h.1, h.2⟩)
  have F6 : Hid (Fr (fun _ _ => True) W1 v6) := l6.fr
  have L6 := Lib.hid l6
  have q0 := cell_mk (i := 0) X7.out rfl
  have q1 := cell_mk (i := 1) X7.out rfl
  have q2 := cell_mk (i := 2) X7.out rfl
  have q3 := cell_mk (i := 3) X7.out rfl
  have y1 := frozen_mk (i := 1) X7.out
  have y2 := frozen_mk (i := 2) X7.out
  have y3 := frozen_mk (i := 3) X7.out
  obtain ⟨v7, hv7, T7, G7⟩ := set3o X7.out (.int .u64 (t : Nat)) (.int .i64 k) (.slice a6 d.length c6)
  have X8 := Lib.hid T7
  have H7 := Lib.hid G7
  clear X6 M3 b6 l6 f6 T7 G7
  go_upto_region 4 with fail
  try rw [hv7]
  clear q0 q1 q2 q3 y1 y2 y3 hv7
  have LB : Hid (LR W1 v7 W1.heap.size [] false) := by
    obtain ⟨u, hu⟩ := L6.out.at'
    refine ⟨L6.out.new, ⟨u, H7.out.keep _ _ hu.top (by have := BG.out; omega), hu.bytes.fr (H7.out.mono fun c _ hc e => by have := BG.out; omega), hu.off⟩, ?_⟩
    exact Fr.within ((F6.out.mono fun _ _ _ => trivial).trans (H7.out.mono fun c _ h e => by have := h.2; have := BG.out; omega))
  have XT : Hid (v7.heap[w.heap.size]? = some (.cells #[.int .u64 0, .int .u64 0, .int .i64 0, .slice none 0 0] 141 (0, 0))) := LB.out.fr.keep _ _ X1.out trivial
  have EC := Lib.hid (fun W (f : Fr (fun _ _ => True) v7 W) => lr_end W1 W W1.heap.size [] false (LB.out.tt f) (by simp))
  rw [show endL [] false = 0 from rfl] at EC
  have NE : Hid (gx ≠ w.heap.size) := by have := BG.out; have := BR.out; show _ ≠ _; omega
  have CE : Hid (∀ W, Fr (fun c _ => c ≠ w.heap.size) v7 W → W.cell? ⟨gx, 0, none⟩ = some (.int .u64 (at_ : Nat)) ∧ W.cell? ⟨gx, 1, none⟩ = some (.int .u64 (t : Nat)) ∧ W.cell? ⟨gx, 2, none⟩ = some (.int .i64 k) ∧ W.cell? ⟨gx, 3, none⟩ = some (.slice a6 d.length c6)) := fun W f => by
    have t := f.keep _ _ X8.out NE.out
    exact ⟨cell_mk t rfl, cell_mk t rfl, cell_mk t rfl, cell_mk t rfl⟩
  have U0 : Hid (Fr (fun _ _ => True) v7 v7.drew) := (Fr.refl _ _).drew
  have B7 := Lib.hid (keep_bz B6.out H7.out X7.out (by decide))
  have q0 := cell_mk (i := 0) XT.out rfl
  have q1 := cell_mk (i := 1) XT.out rfl
  have q2 := cell_mk (i := 2) XT.out rfl
  have q3 := cell_mk (i := 3) XT.out rfl
  have y0 := frozen_mk (i := 0) XT.out
  have y1 := frozen_mk (i := 1) XT.out
  have y2 := frozen_mk (i := 2) XT.out
  have y3 := frozen_mk (i := 3) XT.out
  have FF : Hid (Fr (fun _ _ => True) w v7) := Lib.hid (F1.out.trans LB.out.fr)
  clear X7 B6 L6 F6 H7
  go_region_held3 (fun W => W.cell? ⟨gx, 0, none⟩ = some (.int .u64 (at_ : Nat)) ∧ W.cell? ⟨gx, 1, none⟩ = some (.int .u64 (t : Nat)) ∧ W.cell? ⟨gx, 2, none⟩ = some (.int .i64 k) ∧ W.cell? ⟨gx, 3, none⟩ = some (.slice a6 d.length c6))
    (first | exact CE.out _ (U0.out.mono fun _ _ _ => trivial) | exact CE.out _ (((((U0.out.mono fun _ _ _ => trivial).setCell (fun _ _ h => h rfl) _).setCell (fun _ _ h => h rfl) _).setCell (fun _ _ h => h rfl) _).setCell (fun _ _ h => h rfl) _))
    ((go_at_call 101; go_must ((with_reducible refine (EC.out _ U0.out).mono ?_); rintro e w9 ⟨rfl, rfl⟩)))
  all_goals
    obtain ⟨WZ, hWZ, TZ, FZ⟩ := set4 XT.out (.int .u64 (at_ : Nat)) (.int .u64 (t : Nat)) (.int .i64 k) (.slice a6 d.length c6)
    have p0 := cell_mk (i := 0) TZ rfl
    have p1 := cell_mk (i := 1) TZ rfl
    have p2 := cell_mk (i := 2) TZ rfl
    have p3 := cell_mk (i := 3) TZ rfl
    have FZH := Lib.hid FZ
    clear TZ FZ
    go_wp2
    try rw [hWZ]
    refine bodyPost_ret (v := .tuple #[.agg #[.int .u64 (at_ : Nat), .int .u64 (t : Nat), .int .i64 k, .slice a6 d.length c6], .bool true]) (by simp [results, Tryd.results83, go_sem, *]) rfl ⟨a6, c6, rfl, ?_, ?_⟩
    · try rw [hWZ]
      exact (keep_bz B7.out FZH.out XT.out (by decide)).tt ((Fr.refl _ _).drew)
    · try rw [hWZ]
      exact (Fr.within ((FF.out.mono fun _ _ _ => trivial).trans (FZH.out.mono fun c _ h e => by have := h.2; omega)) : Fr (fun _ _ => True) w WZ).drew
end Go.Proofs.YtcpbmempfeloaaaDoor
/- Keep: where an entry is bad, where a record is; Right (printed by kidx.py). -/
namespace Go.Proofs.YtcpbmempfeloaaaDoor
open Go.RowKit Go.Shelf
set_option linter.unusedVariables false
set_option linter.unusedSimpArgs false

/-- Where p holds first, as Go counts. -/
def idxE (p : EV → Bool) (xs : List EV) : Int := match xs.findIdx? p with | some i => (i : Nat) | none => -1
theorem idxE_hit {p : EV → Bool} {xs : List EV} {i : Nat} (hi : i < xs.length) (hp : p xs[i] = true) (h : ∀ j, (hj : j < xs.length) → j < i → p xs[j] = false) : idxE p xs = (i : Nat) := by
  have e : xs.findIdx? p = some i := List.findIdx?_eq_some_iff_getElem.2 ⟨hi, hp, fun j hj => by rw [h j (by omega) hj]; simp⟩
  unfold idxE; rw [e]
theorem idxE_none {p : EV → Bool} {xs : List EV} (h : ∀ j, (hj : j < xs.length) → p xs[j] = false) : idxE p xs = -1 := by
  have e : xs.findIdx? p = none := List.findIdx?_eq_none_iff.2 fun x hx => by obtain ⟨j, hj, rfl⟩ := List.mem_iff_getElem.1 hx; exact h j hj
  unfold idxE; rw [e]
set_option maxRecDepth 100000 in
set_option maxHeartbeats 1000000 in
theorem indexfuncE {K : Nat → Obj → Prop} (w : World) (v : Value) (xs : List EV) (g : Nat) (lb : Array Value) (p : EV → Bool) (eg : ∀ args w, (callFunc g args).run Tryd.prog w = .ok (.enter g args) w) (hrow : RowsAt K w v 3 encE xs) (hl : xs.length ≤ 9223372036854775807)
    (hp : ∀ W h, Fr (fun _ _ => True) w W → Calls Tryd.prog g (#[vE h] ++ lb) W fun e w' => e = .returned (.bool (p h)) ∧ Fr (fun _ _ => True) W w') :
    Calls Tryd.prog 125 #[v, .func (.func g) #[] lb] w fun e w' => e = .returned (.int .i64 (idxE p xs)) ∧ Fr (fun _ _ => True) w w' := by
  obtain ⟨a, cp, rfl, hcp⟩ := hrow.form
  have HR := Lib.hid hrow
  have HP := Lib.hid hp
  have HIT := Lib.hid (fun i hi hp h => @idxE_hit p xs i hi hp h)
  have NONE := Lib.hid (@idxE_none p xs)
  clear hrow hp
  obtain ⟨z, hz⟩ : ∃ z, idxE p xs = z := ⟨_, rfl⟩
  rw [hz] at HIT NONE ⊢
  clear hz
  go_enter Tryd.func125, Tryd.ntmps125
  go_wp2
  go_loopw [5, 8] (fun _ v8 wr => ∃ i : Nat, v8 = .int .i64 i ∧ i ≤ xs.length ∧ Hid (∀ j, (hj : j < xs.length) → j < i → p xs[j] = false) ∧ Hid (Fr (fun _ _ => True) w wr)) (fun _ v8 _ => xs.length - (intOf v8).toNat)
  case atStart => exact ⟨0, rfl, Nat.zero_le _, fun j _ h => (by omega), Fr.refl _ _⟩
  case round =>
    obtain ⟨i, rfl, hi, HN, HF⟩ := hrel
    by_cases hlt : i < xs.length
    · have hltI : (i : Int) < xs.length := by omega
      obtain ⟨b, off, o, rfl, _, _, hc⟩ := HR.out.spot (by omega)
      obtain ⟨x, hx⟩ : ∃ x, xs[i] = x := ⟨_, rfl⟩
      have hcs := RowsAt.e3 (K := K) hc i hlt
      rw [hx] at hcs
      have HX := Lib.hid hx
      have k0 := HF.out.cell (fun _ _ => trivial) hcs.1
      have k1 := HF.out.cell (fun _ _ => trivial) hcs.2.1
      have k2 := HF.out.cell (fun _ _ => trivial) hcs.2.2
      have pc := HP.out wr x HF.out
      unfold vE at pc
      have PC := Lib.hid pc
      clear hc hx pc
      cases hq : p x with
      | true =>
        rw [hq] at PC
        have HQ := Lib.hid hq
        clear hq
        go_wp2_with fail
        (with_reducible refine PC.out.mono ?_)
        rintro e w' ⟨rfl, f'⟩
        have F' := Lib.hid (HF.out.trans f')
        clear f' PC
        go_wp2
        go_ret
        refine ⟨?_, F'.out⟩
        have := HIT.out i hlt (by rw [HX.out]; exact HQ.out) HN.out
        rw [this]; rfl
      | false =>
        rw [hq] at PC
        have HQ := Lib.hid hq
        clear hq
        go_wp2_with fail
        (with_reducible refine PC.out.mono ?_)
        rintro e w' ⟨rfl, f'⟩
        have F' := Lib.hid (HF.out.trans f')
        clear f' PC
        go_wp2
        go_roundw
        case rel => exact ⟨i + 1, by go_num, hlt, fun j hj hji => by
          by_cases e : j = i
          · subst e; rw [HX.out]; exact HQ.out
          · exact HN.out j hj (by omega), F'.out⟩
        case measure => simp [intOf]; omega
    · have hge : (xs.length : Int) ≤ i := by omega
      go_wp2
      go_ret
      refine ⟨?_, HF.out⟩
      rw [NONE.out fun j hj => HN.out j hj (by omega)]; rfl
/-- Where p holds first, as Go counts. -/
def idxR (p : RV → Bool) (xs : List RV) : Int := match xs.findIdx? p with | some i => (i : Nat) | none => -1
theorem idxR_hit {p : RV → Bool} {xs : List RV} {i : Nat} (hi : i < xs.length) (hp : p xs[i] = true) (h : ∀ j, (hj : j < xs.length) → j < i → p xs[j] = false) : idxR p xs = (i : Nat) := by
  have e : xs.findIdx? p = some i := List.findIdx?_eq_some_iff_getElem.2 ⟨hi, hp, fun j hj => by rw [h j (by omega) hj]; simp⟩
  unfold idxR; rw [e]
theorem idxR_none {p : RV → Bool} {xs : List RV} (h : ∀ j, (hj : j < xs.length) → p xs[j] = false) : idxR p xs = -1 := by
  have e : xs.findIdx? p = none := List.findIdx?_eq_none_iff.2 fun x hx => by obtain ⟨j, hj, rfl⟩ := List.mem_iff_getElem.1 hx; exact h j hj
  unfold idxR; rw [e]
set_option maxRecDepth 100000 in
set_option maxHeartbeats 1000000 in
theorem indexfuncR {K : Nat → Obj → Prop} (w : World) (v : Value) (xs : List RV) (g : Nat) (lb : Array Value) (p : RV → Bool) (eg : ∀ args w, (callFunc g args).run Tryd.prog w = .ok (.enter g args) w) (hrow : RowsAt K w v 4 encR xs) (hl : xs.length ≤ 1000000)
    (hp : ∀ W h, Fr (fun _ _ => True) w W → Calls Tryd.prog g (#[vRec h] ++ lb) W fun e w' => e = .returned (.bool (p h)) ∧ Fr (fun _ _ => True) W w') :
    Calls Tryd.prog 112 #[v, .func (.func g) #[] lb] w fun e w' => e = .returned (.int .i64 (idxR p xs)) ∧ Fr (fun _ _ => True) w w' := by
  obtain ⟨a, cp, rfl, hcp⟩ := hrow.form
  have HR := Lib.hid hrow
  have HP := Lib.hid hp
  have HIT := Lib.hid (fun i hi hp h => @idxR_hit p xs i hi hp h)
  have NONE := Lib.hid (@idxR_none p xs)
  clear hrow hp
  obtain ⟨z, hz⟩ : ∃ z, idxR p xs = z := ⟨_, rfl⟩
  rw [hz] at HIT NONE ⊢
  clear hz
  go_enter Tryd.func112, Tryd.ntmps112
  go_wp2
  go_loopw [5, 8] (fun _ v8 wr => ∃ i : Nat, v8 = .int .i64 i ∧ i ≤ xs.length ∧ Hid (∀ j, (hj : j < xs.length) → j < i → p xs[j] = false) ∧ Hid (Fr (fun _ _ => True) w wr)) (fun _ v8 _ => xs.length - (intOf v8).toNat)
  case atStart => exact ⟨0, rfl, Nat.zero_le _, fun j _ h => (by omega), Fr.refl _ _⟩
  case round =>
    obtain ⟨i, rfl, hi, HN, HF⟩ := hrel
    by_cases hlt : i < xs.length
    · have hltI : (i : Int) < xs.length := by omega
      obtain ⟨b, off, o, rfl, _, _, hc⟩ := HR.out.spot (by omega)
      obtain ⟨x, hx⟩ : ∃ x, xs[i] = x := ⟨_, rfl⟩
      have hcs := RowsAt.r4 (K := K) hc i hlt
      rw [hx] at hcs
      have HX := Lib.hid hx
      have k0 := HF.out.cell (fun _ _ => trivial) hcs.1
      have k1 := HF.out.cell (fun _ _ => trivial) hcs.2.1
      have k2 := HF.out.cell (fun _ _ => trivial) hcs.2.2.1
      have k3 := HF.out.cell (fun _ _ => trivial) hcs.2.2.2
      have pc := HP.out wr x HF.out
      unfold vRec at pc
      have PC := Lib.hid pc
      clear hc hx pc
      cases hq : p x with
      | true =>
        rw [hq] at PC
        have HQ := Lib.hid hq
        clear hq
        go_wp2_with fail
        (with_reducible refine PC.out.mono ?_)
        rintro e w' ⟨rfl, f'⟩
        have F' := Lib.hid (HF.out.trans f')
        clear f' PC
        go_wp2
        go_ret
        refine ⟨?_, F'.out⟩
        have := HIT.out i hlt (by rw [HX.out]; exact HQ.out) HN.out
        rw [this]; rfl
      | false =>
        rw [hq] at PC
        have HQ := Lib.hid hq
        clear hq
        go_wp2_with fail
        (with_reducible refine PC.out.mono ?_)
        rintro e w' ⟨rfl, f'⟩
        have F' := Lib.hid (HF.out.trans f')
        clear f' PC
        go_wp2
        go_roundw
        case rel => exact ⟨i + 1, by go_num, hlt, fun j hj hji => by
          by_cases e : j = i
          · subst e; rw [HX.out]; exact HQ.out
          · exact HN.out j hj (by omega), F'.out⟩
        case measure => simp [intOf]; omega
    · have hge : (xs.length : Int) ≤ i := by omega
      go_wp2
      go_ret
      refine ⟨?_, HF.out⟩
      rw [NONE.out fun j hj => HN.out j hj (by omega)]; rfl
theorem idxE_any (p : EV → Bool) (xs : List EV) : decide (0 ≤ idxE p xs) = xs.any p := by
  unfold idxE
  cases h : xs.findIdx? p with
  | none =>
    have := List.findIdx?_eq_none_iff.1 h
    dsimp only
    symm
    rw [show decide ((0 : Int) ≤ -1) = false from rfl]
    rw [List.any_eq_false]
    exact fun x hx => by rw [this x hx]; simp
  | some i =>
    obtain ⟨hi, hp, _⟩ := List.findIdx?_eq_some_iff_getElem.1 h
    dsimp only
    rw [decide_eq_true (by omega)]
    symm
    rw [List.any_eq_true]
    exact ⟨xs[i], List.getElem_mem hi, hp⟩
set_option maxRecDepth 100000 in
theorem bad_calls (w : World) (x : EV) : Calls Tryd.prog 108 #[vE x] w fun e w' => e = .returned (.bool (badE x.en)) ∧ Fr (fun _ _ => True) w w' := by
  obtain ⟨t, k, a, c, d⟩ := x
  unfold vE badE EV.en
  dsimp only
  obtain ⟨W1, hW1⟩ : ∃ W, w.alloc (.cells #[.int .u64 (t : Nat), .int .i64 k, .slice a d.length c] 128 (0, 0)) = W := ⟨_, rfl⟩
  have F1 : Hid (Fr (fun _ _ => True) w W1) := hW1 ▸ (Fr.refl _ _).alloc _
  have X1 : Hid (W1.heap[w.heap.size]? = some (.cells #[.int .u64 (t : Nat), .int .i64 k, .slice a d.length c] 128 (0, 0))) := hW1 ▸ heap_alloc_new w _
  have x1 := cell_mk (i := 1) X1.out rfl
  have x2 := cell_mk (i := 2) X1.out rfl
  generalize d.length = l at *
  by_cases h1 : k < 0
  · rw [decide_eq_true h1, Bool.true_or]
    go_enter Tryd.func108, Tryd.ntmps108
    go_wp2
    try rw [hW1]
    go_ret
    exact ⟨rfl, F1.out⟩
  · rw [decide_eq_false h1, Bool.false_or]
    by_cases h2 : 255 < k
    · rw [decide_eq_true h2, Bool.true_or]
      go_enter Tryd.func108, Tryd.ntmps108
      go_wp2
      try rw [hW1]
      go_ret
      exact ⟨rfl, F1.out⟩
    · rw [decide_eq_false h2, Bool.false_or]
      by_cases h3 : 24 < l
      · have h3I : (24 : Int) < l := by omega
        rw [decide_eq_true h3]
        go_enter Tryd.func108, Tryd.ntmps108
        go_wp2
        try rw [hW1]
        go_ret
        exact ⟨rfl, F1.out⟩
      · have h3I : ¬ (24 : Int) < l := by omega
        rw [decide_eq_false h3]
        go_enter Tryd.func108, Tryd.ntmps108
        go_wp2
        try rw [hW1]
        go_ret
        exact ⟨rfl, F1.out⟩
set_option maxRecDepth 100000 in
theorem contains_bad {K : Nat → Obj → Prop} (w : World) (v : Value) (xs : List EV) (h : RowsAt K w v 3 encE xs) (hl : xs.length ≤ 9223372036854775807) :
    Calls Tryd.prog 109 #[v, .func (.func 108) #[] #[]] w fun e w' => e = .returned (.bool (xs.any fun x => badE x.en)) ∧ Fr (fun _ _ => True) w w' := by
  have eg : ∀ args w, (callFunc 108 args).run Tryd.prog w = .ok (.enter 108 args) w := enters_of Tryd.func108 (by kernel_rfl) rfl
  have IC := Lib.hid (indexfuncE w v xs 108 #[] (fun x => badE x.en) eg h hl fun W x f => bad_calls W x)
  have e := idxE_any (fun x => badE x.en) xs
  rw [← e]
  obtain ⟨z, hz⟩ : ∃ z, idxE (fun x => badE x.en) xs = z := ⟨_, rfl⟩
  rw [hz] at IC ⊢
  clear h e hz eg
  go_enter Tryd.func109, Tryd.ntmps109
  go_wp2_with fail
  (with_reducible refine IC.out.mono ?_)
  rintro e w1 ⟨rfl, f1⟩
  have F1 := Lib.hid f1
  clear f1 IC
  go_wp2
  go_ret
  exact ⟨rfl, F1.out⟩
set_option maxRecDepth 100000 in
set_option maxHeartbeats 2000000 in
/-- Right. -/
theorem kright_calls {K : Nat → Obj → Prop} (w : World) (s : Sta) (v : Value) (xs : List EV) (h : RowsAt K w v 3 encE xs) (hl : xs.length ≤ 9223372036854775807) (he : s.es = xs.map EV.en) :
    Calls Tryd.prog 72 #[vS s v] w fun e w' => e = .returned (.bool s.right) ∧ Fr (fun _ _ => True) w w' := by
  obtain ⟨a, c, rfl, _⟩ := h.form
  obtain ⟨W1, hW1⟩ : ∃ W, w.alloc (.cells #[.int .u64 (s.term : Nat), .int .i64 s.vote, .int .u64 (s.base : Nat), .int .u64 (s.bt : Nat), .slice a xs.length c] 68 (0, 0)) = W := ⟨_, rfl⟩
  have F1 : Hid (Fr (fun _ _ => True) w W1) := hW1 ▸ (Fr.refl _ _).alloc _
  have X1 : Hid (W1.heap[w.heap.size]? = some (.cells #[.int .u64 (s.term : Nat), .int .i64 s.vote, .int .u64 (s.base : Nat), .int .u64 (s.bt : Nat), .slice a xs.length c] 68 (0, 0))) := hW1 ▸ heap_alloc_new w _
  have x0 := cell_mk (i := 0) X1.out rfl
  have x1 := cell_mk (i := 1) X1.out rfl
  have x2 := cell_mk (i := 2) X1.out rfl
  have x4 := cell_mk (i := 4) X1.out rfl
  have CB := Lib.hid (contains_bad W1 _ xs (h.tt F1.out) hl)
  have ea : s.es.any badE = xs.any fun x => badE x.en := by rw [he, List.any_map]; rfl
  obtain ⟨bb, hbb⟩ : ∃ b, (xs.any fun x => badE x.en) = b := ⟨_, rfl⟩
  rw [hbb] at CB ea
  have SR : Hid (s.right = (decide (s.term < 1152921504606846976) && decide (s.base < 1152921504606846976) && decide (-1 ≤ s.vote) && decide (s.vote < 16) && !bb)) := by show _ = _; unfold Sta.right; rw [ea]
  unfold vS
  obtain ⟨t, vo, b, bt, es⟩ := s
  dsimp only at *
  rw [SR.out]
  clear h he ea hbb hl SR
  by_cases h1 : t < 1152921504606846976
  · have h1I : (t : Int) < 1152921504606846976 := by omega
    rw [decide_eq_true h1, Bool.true_and]
    by_cases h2 : b < 1152921504606846976
    · have h2I : (b : Int) < 1152921504606846976 := by omega
      rw [decide_eq_true h2, Bool.true_and]
      by_cases h3 : -1 ≤ vo
      · rw [decide_eq_true h3, Bool.true_and]
        by_cases h4 : vo < 16
        · rw [decide_eq_true h4, Bool.true_and]
          go_enter Tryd.func72, Tryd.ntmps72
          go_wp2_with fail
          try rw [hW1]
          (with_reducible refine CB.out.mono ?_)
          rintro e w2 ⟨rfl, f2⟩
          have F2 := Lib.hid (F1.out.trans f2)
          clear f2 CB
          go_wp2
          go_ret
          exact ⟨rfl, F2.out⟩
        · rw [decide_eq_false h4, Bool.false_and]
          go_enter Tryd.func72, Tryd.ntmps72
          go_wp2
          try rw [hW1]
          go_ret
          exact ⟨rfl, F1.out⟩
      · rw [decide_eq_false h3, Bool.false_and, Bool.false_and]
        go_enter Tryd.func72, Tryd.ntmps72
        go_wp2
        try rw [hW1]
        go_ret
        exact ⟨rfl, F1.out⟩
    · have h2I : ¬ (b : Int) < 1152921504606846976 := by omega
      rw [decide_eq_false h2, Bool.false_and, Bool.false_and, Bool.false_and]
      go_enter Tryd.func72, Tryd.ntmps72
      go_wp2
      try rw [hW1]
      go_ret
      exact ⟨rfl, F1.out⟩
  · have h1I : ¬ (t : Int) < 1152921504606846976 := by omega
    rw [decide_eq_false h1, Bool.false_and, Bool.false_and, Bool.false_and, Bool.false_and]
    go_enter Tryd.func72, Tryd.ntmps72
    go_wp2
    try rw [hW1]
    go_ret
    exact ⟨rfl, F1.out⟩
set_option maxRecDepth 100000 in
/-- trim's closure. -/
theorem above_calls (w : World) (r : RV) (bl b : Nat) (h : w.cell? ⟨bl, 0, none⟩ = some (.int .u64 (b : Nat))) : Calls Tryd.prog 113 #[vRec r, .pointer (some ⟨bl, 0, none⟩)] w fun e w' => e = .returned (.bool (decide (b < r.at_))) ∧ Fr (fun _ _ => True) w w' := by
  obtain ⟨at_, t, k, a, c, d⟩ := r
  unfold vRec
  dsimp only
  obtain ⟨W1, hW1⟩ : ∃ W, w.alloc (.cells #[.int .u64 (at_ : Nat), .int .u64 (t : Nat), .int .i64 k, .slice a d.length c] 141 (0, 0)) = W := ⟨_, rfl⟩
  have F1 : Hid (Fr (fun _ _ => True) w W1) := hW1 ▸ (Fr.refl _ _).alloc _
  have X1 : Hid (W1.heap[w.heap.size]? = some (.cells #[.int .u64 (at_ : Nat), .int .u64 (t : Nat), .int .i64 k, .slice a d.length c] 141 (0, 0))) := hW1 ▸ heap_alloc_new w _
  have x0 := cell_mk (i := 0) X1.out rfl
  have xb := F1.out.cell (fun _ _ => trivial) h
  clear h
  by_cases hq : b < at_
  · have hqI : (b : Int) < at_ := by omega
    rw [decide_eq_true hq]
    go_enter Tryd.func113, Tryd.ntmps113
    go_wp2
    try rw [hW1]
    go_ret
    exact ⟨rfl, F1.out⟩
  · have hqI : ¬ (b : Int) < at_ := by omega
    rw [decide_eq_false hq]
    go_enter Tryd.func113, Tryd.ntmps113
    go_wp2
    try rw [hW1]
    go_ret
    exact ⟨rfl, F1.out⟩
end Go.Proofs.YtcpbmempfeloaaaDoor
/- slices.Delete at a row of the function's own, of keep.record. -/
namespace Go.Proofs.YtcpbmempfeloaaaDoor
open Go.RowKit
set_option linter.unusedVariables false
set_option linter.unusedSimpArgs false

theorem del_rc_info : (Tryd.prog.info? 141).map (fun i => (i.zero, i.size, i.bytes)) = some (some (.agg #[.int .u64 0, .int .u64 0, .int .i64 0, .slice none 0 0]), 4, 48) := by kernel_rfl
theorem del_rc_none (w : World) : Calls Tryd.prog 114 #[.slice none 0 0, .int .i64 0, .int .i64 0] w fun e w' => e = .returned (.slice none 0 0) ∧ w = w' := by
  go_enter Tryd.func114, Tryd.ntmps114
  go_wp2
  go_ret
  exact ⟨rfl, rfl⟩
set_option maxRecDepth 100000 in
theorem del_rc_same (w : World) (g n cap i : Nat) (hi : i ≤ n) (hn : n ≤ cap) (hc : cap ≤ 9223372036854775807) : Calls Tryd.prog 114 #[.slice (some ⟨g, 0, none⟩) n cap, .int .i64 i, .int .i64 i] w fun e w' => e = .returned (.slice (some ⟨g, 0, none⟩) n cap) ∧ w = w' := by
  go_enter Tryd.func114, Tryd.ntmps114
  go_wp2
  all_goals (go_ret; exact ⟨rfl, rfl⟩)
set_option maxRecDepth 100000 in
set_option maxHeartbeats 4000000 in
theorem del_rc_some (w : World) (B g n cap i j : Nat) (xs : List Value) (h : w.ownsRow B 141 4 (.slice (some ⟨g, 0, none⟩) n cap) n xs) (h1 : ∀ u ∈ xs, u.oneCell' = true) (hij : i < j) (hj : j ≤ n) (hn : n ≤ 1000000) :
    Calls Tryd.prog 114 #[.slice (some ⟨g, 0, none⟩) n cap, .int .i64 i, .int .i64 j] w fun e w' => e = .returned (.slice (some ⟨g, 0, none⟩) (i + (n - j)) cap) ∧ w'.ownsRow B 141 4 (.slice (some ⟨g, 0, none⟩) (i + (n - j)) cap) (i + (n - j)) (xs.take (i * 4) ++ xs.drop (j * 4)) ∧ Fr (fun c _ => c ≠ g) w w' := by
  obtain ⟨i0, hi0, hz0, hz1, hz2⟩ := info_parts del_rc_info
  obtain ⟨hnc, hcm⟩ := own_cap h
  have hcm' : cap ≤ 9223372036854775807 := by unfold maxLen at hcm; omega
  obtain ⟨e1, e2, e3, e4, e5, _⟩ := del_nums i j n 4 (Nat.le_of_lt hij) hj
  obtain ⟨A, hA, hsrc⟩ : ∃ A : Addr, (if cap = j then some (⟨g, 0, none⟩ : Addr) else some ⟨g, j * 4, none⟩) = some A ∧ Hid (∀ t u, (xs.drop (j * 4))[t]? = some u → w.drew.cell? (A.add t) = some u) := by
    by_cases hc : cap = j
    · refine ⟨⟨g, 0, none⟩, by simp [hc], fun t u hu => ?_⟩
      have hd : (xs.drop (j * 4)).length = 0 := by rw [List.length_drop, h.1]; omega
      rw [List.length_eq_zero_iff.1 hd] at hu
      simp at hu
    · refine ⟨⟨g, j * 4, none⟩, by simp [hc], fun t u hu => ?_⟩
      have ht : t < n * 4 - j * 4 := by
        have := (List.getElem?_eq_some_iff.1 hu).1
        rw [List.length_drop, h.1] at this
        exact this
      rw [List.getElem?_drop] at hu
      rw [Addr.add_lit]
      exact (own_frozen h (j * 4 + t) (by omega)).1.trans hu
  have s1 : Hid ((xs.drop (j * 4)).length = (n - j) * 4) := by show _ = _; rw [List.length_drop, h.1, e5]
  have s2 : Hid (∀ u ∈ xs.drop (j * 4), u.oneCell' = true) := fun u hu => h1 u (List.mem_of_mem_drop hu)
  have s3 : Hid (∀ t, t < (xs.drop (j * 4)).length → (w.drew.cell? ⟨g, 0 + i * 4 + t, none⟩).isSome = true ∧ w.drew.frozen? ⟨g, 0 + i * 4 + t, none⟩ = false) := fun t ht => by
    rw [s1.out, e5] at ht
    rw [Nat.zero_add]
    exact (own_frozen h (i * 4 + t) (by omega)).2
  have hd : w.drew.ownsRow B 141 4 (.slice (some ⟨g, 0, none⟩) n cap) n xs := h
  obtain ⟨W1, hW1⟩ : ∃ W1, W1 = w.drew.setCells g (0 + i * 4) (xs.drop (j * 4)) := ⟨_, rfl⟩
  have F1 : Hid (Fr (fun c _ => c ≠ g) w W1) := by
    rw [hW1]; exact ((Fr.refl _ w).drew).setCells (fun _ _ hk => hk rfl) _ _
  obtain ⟨Z, hZ⟩ : ∃ Z, Z = (Builtin.zeroCells (Value.cells (.agg #[.int .u64 0, .int .u64 0, .int .i64 0, .slice none 0 0])) (n - (i + (n - j)))).toList := ⟨_, rfl⟩
  have hZl : Z.length = (j - i) * 4 := by
    rw [hZ, Array.length_toList, size_zeroCells, show n - (i + (n - j)) = j - i by omega]; rfl
  have hZ1 : ∀ u ∈ Z, u.oneCell' = true := by
    rw [hZ]
    intro u hu
    simp only [Builtin.zeroCells, Array.toList_map, List.mem_map] at hu
    obtain ⟨k, _, rfl⟩ := hu
    have hall : ∀ q, q < 4 → ((Value.cells (.agg #[.int .u64 0, .int .u64 0, .int .i64 0, .slice none 0 0]))[q]!).oneCell' = true := by decide
    exact hall _ (Nat.mod_lt _ (by decide))
  have OS : Hid ((W1.setCells g ((i + (n - j)) * 4) Z).ownsRow B 141 4 (.slice (some ⟨g, 0, none⟩) (i + (n - j)) cap) (i + (n - j)) (xs.take (i * 4) ++ xs.drop (j * 4))) := by
    rw [hW1, Nat.zero_add]; exact own_spliced hd i j (Nat.le_of_lt hij) hj Z hZl
  have hcellW : ∀ q, q < n * 4 → (W1.cell? ⟨g, q, none⟩).isSome = true ∧ W1.frozen? ⟨g, q, none⟩ = false := fun q hq => by
    have := own_spliced hd i i (Nat.le_refl _) (by omega) [] (by simp)
    rcases hd.2 with ⟨e, _⟩ | ⟨g', cap', cur, hv, hB, hg, hnc', hcm2, hs, ht⟩
    · cases e
    · cases hv
      have hb : W1.heap[g]? = some (.cells (setsA cur (0 + i * 4) (xs.drop (j * 4))) 141 (0, 0)) := by rw [hW1]; exact heap_setCells_same _ hg
      have hqs : q < (setsA cur (0 + i * 4) (xs.drop (j * 4))).size := by rw [setsA_size, hs]; have := Nat.mul_le_mul_right 4 hnc'; omega
      refine ⟨?_, frozen_mk hb⟩
      rw [cell_mk hb (Array.getElem?_eq_getElem hqs)]; rfl
  have hcl : ∀ ty, (Builtin.clear_ #[133] ty #[.slice (some ⟨g, (i + (n - j)) * 4, none⟩) (n - (i + (n - j))) (cap - (i + (n - j)))]).run Tryd.prog W1 = .ok (.tuple #[]) (W1.setCells g ((i + (n - j)) * 4) Z) := fun ty => by
    rw [hZ]
    refine run_clear_any W1 _ _ ty (.agg #[.int .u64 0, .int .u64 0, .int .i64 0, .slice none 0 0]) Tryd.underlying133 Tryd.zeroValue141 g _ _ _ (by omega) (by rw [← hZ]; exact hZ1) (fun q hq => ?_) (fun q hq => ?_)
    · rw [← hZ, hZl] at hq; exact (hcellW _ (by omega)).1
    · rw [← hZ, hZl] at hq; exact (hcellW _ (by omega)).2
  have hW : Hid (W1 = w.drew.setCells g (0 + i * 4) (xs.drop (j * 4))) := hW1
  have F2 : Hid (Fr (fun c _ => c ≠ g) w (W1.setCells g ((i + (n - j)) * 4) Z)) := F1.out.setCells (fun _ _ hk => hk rfl) _ _
  have hic : i ≤ cap := by omega
  have hjc : j ≤ cap := by omega
  clear hW1 h hd hcellW hZ hZl hZ1 e1 e2 e3 e4 e5 h1
  go_enter Tryd.func114, Tryd.ntmps114
  go_wp2_with fail
  go_region_law (refine step_append_room rfl (.tmp 22) (.tmp 25) 133 rfl 141 i0 4 Tryd.underlying133 hi0 hz1 g 0 i cap (by simp [Act.eval, Act.put]) A (n - j) (cap - j) (xs.drop (j * 4)) (by simp [Act.eval, Act.put]) s1.out hsrc.out s2.out (by omega) s3.out ?_; rw [← hW.out])
  all_goals
    go_wp2
    go_ret
    exact ⟨rfl, OS.out, F2.out⟩
/-- slices.Delete at a row of the function's own. -/
theorem del_rc_calls (w : World) (B : Nat) (v : Value) (n i j : Nat) (xs : List Value) (h : w.ownsRow B 141 4 v n xs) (h1 : ∀ u ∈ xs, u.oneCell' = true) (hij : i ≤ j) (hj : j ≤ n) (hn : n ≤ 1000000) :
    Calls Tryd.prog 114 #[v, .int .i64 i, .int .i64 j] w fun e w' => (∃ v', e = .returned v' ∧ w'.ownsRow B 141 4 v' (i + (n - j)) (xs.take (i * 4) ++ xs.drop (j * 4)) ∧ v'.ownBlock = v.ownBlock) ∧ Fr (fun c _ => v.ownBlock ≠ some c) w w' := by
  rcases id h.2 with ⟨rfl, rfl⟩ | ⟨g, cap, cur, rfl, _⟩
  · obtain rfl : j = 0 := by omega
    obtain rfl : i = 0 := by omega
    refine (del_rc_none w).mono fun e w' ⟨he, hw⟩ => ?_
    subst hw
    have hx : xs = [] := by have := h.1; simpa using this
    subst hx
    exact ⟨⟨_, he, by simpa using h, rfl⟩, Fr.refl _ _⟩
  · obtain ⟨hnc, hcm⟩ := own_cap h
    by_cases hq : i = j
    · subst hq
      refine (del_rc_same w g n cap i hj hnc (by unfold maxLen at hcm; omega)).mono fun e w' ⟨he, hw⟩ => ?_
      subst hw
      rw [show i + (n - i) = n by omega, List.take_append_drop]
      exact ⟨⟨_, he, h, rfl⟩, Fr.refl _ _⟩
    · refine (del_rc_some w B g n cap i j xs h h1 (by omega) hj hn).mono fun e w' ⟨he, ho, hf⟩ => ?_
      exact ⟨⟨_, he, ho, rfl⟩, hf.mono fun c _ hc q => hc (by rw [q]; rfl)⟩
theorem del_rc_any (w : World) (B : Nat) (v : Value) (n i j : Nat) (iz jz : Int) (hiz : iz = i) (hjz : jz = j) (xs : List Value) (h : w.ownsRow B 141 4 v n xs) (h1 : ∀ u ∈ xs, u.oneCell' = true) (hij : i ≤ j) (hj : j ≤ n) (hn : n ≤ 1000000) :
    Calls Tryd.prog 114 #[v, .int .i64 iz, .int .i64 jz] w fun e w' => (∃ v', e = .returned v' ∧ w'.ownsRow B 141 4 v' (i + (n - j)) (xs.take (i * 4) ++ xs.drop (j * 4)) ∧ v'.ownBlock = v.ownBlock) ∧ Fr (fun c _ => v.ownBlock ≠ some c) w w' := by
  subst hiz hjz
  exact del_rc_calls w B v n i j xs h h1 hij hj hn
end Go.Proofs.YtcpbmempfeloaaaDoor
