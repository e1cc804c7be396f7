/- Texts of the proofs, part 8: what the functions that they reach do, walked; no conditions beyond those that each states. -/
import Derived.Test.YtaeonlafcbgpcaaDoorZz8692698391
set_option linter.unusedVariables false
set_option linter.unusedSimpArgs false
/- Package vault: Save. -/
namespace Go.Proofs.YtaeonlafcbgpcaaDoor
open Go.RowKit Go.Shelf
set_option linter.unusedVariables false

/-- Behind j pieces: the answer, and the disk. -/
def vwr (D : Dk) (base num : Nat) (b : List UInt8) : Nat → Int × Dk
  | 0 => (0, D)
  | j + 1 => if (vwr D base num b j).1 = 0 then (vwr D base num b j).2.write ((base + j : Nat) : Int) (stampB (j + 1) num (chunkAt b j)) else vwr D base num b j
theorem vwr_stuck {D : Dk} {base num : Nat} {b : List UInt8} {j : Nat} (h : (vwr D base num b j).1 ≠ 0) : ∀ m, vwr D base num b (j + m) = vwr D base num b j
  | 0 => rfl
  | m + 1 => by
    show vwr D base num b (j + m + 1) = _
    rw [vwr, vwr_stuck h m, if_neg h]
theorem vwr_pend {D : Dk} {base num : Nat} {b : List UInt8} : ∀ j, (vwr D base num b j).2.pend.length ≤ D.pend.length + j
  | 0 => Nat.le_refl _
  | j + 1 => by
    rw [vwr]
    split
    · exact Nat.le_trans (pend_write _ _ _) (by have := vwr_pend (D := D) (base := base) (num := num) (b := b) j; omega)
    · exact Nat.le_trans (vwr_pend j) (by omega)
/-- What Save answers, and leaves. -/
def vsave (D : Dk) (i n : Int) (b : List UInt8) : Int × Dk :=
  if vright D i n ≠ 0 then (vright D i n, D) else
    if vroom n < (b.length : Nat) then (2, D) else
      if (readV D i).2.1 = 4294967295 then (42, D) else
        if (vwr D (i.toNat + 2 + (1 - (readV D i).1) * n.toNat) ((readV D i).2.1 + 1) b ((b.length + 42) / 43)).1 = 0 then
          saveM (vwr D (i.toNat + 2 + (1 - (readV D i).1) * n.toNat) ((readV D i).2.1 + 1) b ((b.length + 42) / 43)).2.sync i (markB (1 - (readV D i).1) ((readV D i).2.1 + 1) b.length)
        else vwr D (i.toNat + 2 + (1 - (readV D i).1) * n.toNat) ((readV D i).2.1 + 1) b ((b.length + 42) / 43)

theorem four_allocs (w : World) (o1 o2 o3 o4 : Obj) : ∃ W, (((w.alloc o1).alloc o2).alloc o3).alloc o4 = W ∧ Fr (fun _ _ => True) w W ∧ W.heap.size = w.heap.size + 4 ∧ W.heap[w.heap.size]? = some o1 ∧ W.heap[w.heap.size + 1]? = some o2 ∧ W.heap[w.heap.size + 1 + 1]? = some o3 ∧ W.heap[w.heap.size + 1 + 1 + 1]? = some o4 :=
  ⟨_, rfl, (((((Fr.refl _ _).alloc _).alloc _).alloc _).alloc _), by simp, heap_alloc_lt (heap_alloc_lt (heap_alloc_lt (heap_alloc_new w _) _) _) _, heap_alloc_lt (heap_alloc_lt (heap_alloc_at (by simp) _) _) _, heap_alloc_lt (heap_alloc_at (by simp) _) _, heap_alloc_at (by simp) _⟩

set_option maxRecDepth 100000 in
theorem vsave_no (w : World) (bd : Nat) (F : Nat → Prop) (D : Dk) (i n : Int) (q : Option Addr) (len cap : Nat) (h : Dsk w bd F D) (hr : vright D i n ≠ 0) :
    Calls Tryd.prog 33 #[.pointer (some ⟨bd, 0, none⟩), .int .i64 i, .int .i64 n, .slice q len cap] w fun e w' => e = .returned (.int .i64 (vright D i n)) ∧ Fr (fun _ _ => True) w w' := by
  obtain ⟨W, hW, fW, sW, t1, t2, t3, t4⟩ := four_allocs w (.cells #[.pointer (some ⟨bd, 0, none⟩)] 38 (0, 0)) (.cells #[.int .i64 i] 3 (0, 0)) (.cells #[.int .i64 n] 3 (0, 0)) (.cells #[.int .i64 0] 25 (0, 0))
  have HC := Lib.hid (vright_calls W bd F D i n (h.tt fW))
  have hr' : (vright D i n != 0) = true := by simpa using hr
  generalize vright D i n = c at HC hr'
  have FW := Lib.hid fW
  have k1 := cell_mk (i := 0) t1 rfl
  have k2 := cell_mk (i := 0) t2 rfl
  have k3 := cell_mk (i := 0) t3 rfl
  have k4 := cell_mk (i := 0) t4 rfl
  have z4 := frozen_mk (i := 0) t4
  clear h hr fW sW t1 t2 t3 t4
  go_enter Tryd.func33, Tryd.ntmps33
  go_wp2_with fail
  clear hW
  (with_reducible refine HC.out.mono ?_)
  rintro e w1 ⟨rfl, rfl⟩
  go_wp2
  exact bodyPost_ret (v := .int .i64 c) (by simp [results, Tryd.results33, go_sem, k4]) rfl ⟨rfl, FW.out.setCell_new (p := ⟨w.heap.size + 1 + 1 + 1, 0, none⟩) (by show w.heap.size ≤ w.heap.size + 1 + 1 + 1; omega) _⟩

set_option maxRecDepth 100000 in
set_option maxHeartbeats 1000000 in
theorem vsave_refused (w : World) (bd : Nat) (F : Nat → Prop) (D : Dk) (i n : Int) (q : Option Addr) (len cap : Nat) (h : Dsk w bd F D) (ht : TabOK w) (hr : vright D i n = 0) (a num size : Nat) (ok : Bool) (hrd : readV D i = (a, num, size, ok)) (c : Int) (hc : (vroom n < (len : Nat) ∧ c = 2) ∨ (¬ vroom n < (len : Nat) ∧ num = 4294967295 ∧ c = 42)) :
    Calls Tryd.prog 33 #[.pointer (some ⟨bd, 0, none⟩), .int .i64 i, .int .i64 n, .slice q len cap] w fun e w' => e = .returned (.int .i64 c) ∧ Fr (fun _ _ => True) w w' := by
  obtain ⟨W, hW, fW, sW, t1, t2, t3, t4⟩ := four_allocs w (.cells #[.pointer (some ⟨bd, 0, none⟩)] 38 (0, 0)) (.cells #[.int .i64 i] 3 (0, 0)) (.cells #[.int .i64 n] 3 (0, 0)) (.cells #[.int .i64 0] 25 (0, 0))
  have hc0 := vright_calls W bd F D i n (h.tt fW)
  rw [hr] at hc0
  have HC := Lib.hid hc0
  have VR := Lib.hid (vread_calls W bd F D i (h.tt fW) (ht.tt fW) a num size ok hrd)
  have FW := Lib.hid fW
  have k1 := cell_mk (i := 0) t1 rfl
  have k2 := cell_mk (i := 0) t2 rfl
  have k3 := cell_mk (i := 0) t3 rfl
  have T3 := Lib.hid t3
  have T4 := Lib.hid t4
  have sW' : w.heap.size + 4 ≤ W.heap.size := Nat.le_of_eq sW.symm
  obtain ⟨ha, hnum, hsz⟩ := readV_bd hrd
  have HCC := Lib.hid hc
  obtain ⟨vr, hvr⟩ : ∃ vr, vroom n = vr := ⟨_, rfl⟩
  have HVR := Lib.hid hvr
  have RM : Hid (∀ W : World, Calls Tryd.prog 63 #[.int .i64 n] W fun e w' => e = .returned (.int .i64 vr) ∧ W = w') := fun W => by rw [← HVR.out]; exact room_calls W n
  clear h ht hr hrd fW sW t1 t2 t3 t4 hc0 hc hvr
  go_enter Tryd.func33, Tryd.ntmps33
  go_wp2_with fail
  clear hW
  (with_reducible refine HC.out.mono ?_)
  rintro e w1 ⟨rfl, rfl⟩
  go_wp2_with fail
  (with_reducible refine VR.out.mono ?_)
  rintro e w2 ⟨rfl, f2⟩
  obtain ⟨w3, hw3⟩ : ∃ w3, w2.alloc (.cells #[.int .i64 (a : Nat), .int .u32 (num : Nat), .int .i64 (size : Nat)] 111) = w3 := ⟨_, rfl⟩
  have f3 : Fr (fun _ _ => True) w2 w3 := by rw [← hw3]; exact (Fr.refl _ _).alloc _
  have t3m : w3.heap[w2.heap.size]? = some (.cells #[.int .i64 (a : Nat), .int .u32 (num : Nat), .int .i64 (size : Nat)] 111 (0, 0)) := by rw [← hw3]; exact heap_alloc_new _ _
  have F3 := Lib.hid (FW.out.trans (f2.trans f3))
  have j3 := cell_mk (i := 0) ((f2.trans f3).keep _ _ T3.out trivial) rfl
  have j4 := cell_mk (i := 0) ((f2.trans f3).keep _ _ T4.out trivial) rfl
  have z4 := frozen_mk (i := 0) ((f2.trans f3).keep _ _ T4.out trivial)
  have m1 := cell_mk (i := 1) t3m rfl
  clear f2 f3 t3m k1 k2 k3
  go_wp2_with fail
  clear hw3
  (with_reducible refine (RM.out _).mono ?_)
  rintro e w3' ⟨rfl, rfl⟩
  rcases HCC.out with ⟨h1, rfl⟩ | ⟨h1, h2, rfl⟩
  · have h1' : vr < (len : Int) := by rw [← HVR.out]; exact h1
    clear h1
    go_wp2
    exact bodyPost_ret (v := .int .i64 2) (by simp [results, Tryd.results33, go_sem, j4]) rfl ⟨rfl, F3.out.setCell_new (p := ⟨w.heap.size + 1 + 1 + 1, 0, none⟩) (by show w.heap.size ≤ w.heap.size + 1 + 1 + 1; omega) _⟩
  · have h1' : (len : Int) ≤ vr := by rw [← HVR.out]; omega
    have h2' : (((num : Nat) : Int) == 4294967295) = true := by simp; omega
    clear h1 h2
    go_wp2
    exact bodyPost_ret (v := .int .i64 42) (by simp [results, Tryd.results33, go_sem, j4]) rfl ⟨rfl, F3.out.setCell_new (p := ⟨w.heap.size + 1 + 1 + 1, 0, none⟩) (by show w.heap.size ≤ w.heap.size + 1 + 1 + 1; omega) _⟩

theorem Dsk.kc {w w' : World} {bd : Nat} {F : Nat → Prop} {D : Dk} (h : Dsk w bd F D) (hf : Fr KC w w') : Dsk w' bd F D := by
  obtain ⟨vs, vu, vp, h, h1, h2, h3, h4⟩ := h
  have key : ∀ (e : TypeId) (size : Nat) (v : Value) (n : Nat) (xs : List Value), w.ownsRow 0 e size v n xs → w'.ownsRow 0 e size v n xs := fun e size v n xs ho => ownsRow_fr ho hf fun b o hb hw => by
    obtain ⟨cur, hc⟩ := own_tag ho hb
    rw [hc] at hw
    cases hw
    rfl
  exact ⟨vs, vu, vp, ⟨hf.keep _ _ h.top rfl, key _ _ _ _ _ h.seen, key _ _ _ _ _ h.sure, key _ _ _ _ _ h.pend, h.apart, h.wf⟩, h1, h2, h3, h4⟩
theorem cell_cells {w : World} {p : Addr} {v : Value} {o : Obj} (h : w.cell? p = some v) (ho : w.heap[p.block]? = some o) : o.isCells = true := by
  unfold World.cell? at h
  rw [ho] at h
  cases o <;> simp_all [Obj.isCells]
theorem cell_kc {w w' : World} {p : Addr} {v : Value} (h : w.cell? p = some v) (hf : Fr KC w w') : w'.cell? p = some v := hf.cell (fun o ho => cell_cells h ho) h
theorem TabOK.kc {w w' : World} (h : TabOK w) (hf : Fr KC w w') : TabOK w' := fun i hi => cell_kc (h i hi) hf
theorem BytesAt.kc {K : Nat → Obj → Prop} {w w' : World} {v : Value} {bs : List UInt8} (h : BytesAt K w v bs) (hf : Fr KC w w') : BytesAt K w' v bs := by
  obtain ⟨a, cap, hv, hl, hn, h⟩ := h
  refine ⟨a, cap, hv, hl, hn, ?_⟩
  rcases h with h | ⟨b, off, o, ha, hb, hk, hc⟩
  · exact .inl h
  · by_cases h0 : bs = []
    · exact .inl h0
    · have hp : 0 < bs.length := List.length_pos_iff.2 h0
      have ho : o.isCells = true := cell_cells (hc 0 hp) hb
      exact .inr ⟨b, off, o, ha, hf.keep _ _ hb ho, hk, fun i hi => cell_kc (hc i hi) hf⟩
theorem stamp_okz {K : Nat → Obj → Prop} (w : World) (s p : Nat) (z y : Int) (hz : z = s) (hy : y = p) (a : Option Addr) (len cap : Nat) (b : List UInt8) (hb : BytesAt K w (.slice a len cap) b) (ht : TabOK w) (hs : s < 4294967296) (hp : p < 4294967296) (hl : len ≤ 43) :
    Calls Tryd.prog 13 #[.int .u32 z, .int .u32 y, .slice a len cap] w fun e w' => (∃ a' cap', e = .returned (.tuple #[.slice a' 64 cap', .int .i64 0]) ∧ BytesAt (New w.heap.size) w' (.slice a' 64 cap') (stampB s p b)) ∧ Fr (fun _ _ => True) w w' := by
  subst hz hy
  exact stamp_ok w s p a len cap b hb ht hs hp hl

/-- A range over pieces, its frame's slots as they stand; the piece goes into the slot q. -/
theorem wp_rangeV {P : Program} {g : Operand} {p : Nat} (q : Nat) {assign body : Code} {Q : Exit → Act → World → Prop} {T : Array Value} {w : World} {gf : Nat} {lb : Array Value} (hg : Act.eval ⟨T, []⟩ g = .func (.func gf) #[] lb) (eg : ∀ args w, (callFunc gf args).run P w = .ok (.enter gf args) w)
    {S' : List ChV → ChV → World → Prop} {B : Nat → Prop} {S : List ChV → Prop} (hseq : SeqX Fence.wide 2 P gf lb ChV.encs S' B S w) (hB0 : B w.heap.size) (hB1 : B (w.heap.size + 1))
    (I Ix : List ChV → World → Prop) (hI : ∀ xs A A', I xs A → Fr KC A A' → I xs A') (hIx : ∀ xs A A', Ix xs A → Fr KC A A' → Ix xs A') (h0 : I [] w)
    (hassign : ∀ (l : Nat) (x : ChV) (W : World) (K : Act → World → Prop), K { tmps := (T.setIfInBounds p (.slice x.a x.n x.c)).setIfInBounds q (.slice x.a x.n x.c), defers := [] } W → assign.wpIn (Fence.wide.inRound l) 1 P (Exit.then K (fun _ _ _ => False)) { tmps := T.setIfInBounds p (.slice x.a x.n x.c), defers := [] } W)
    (hbody : ∀ (l : Nat) (pre : List ChV) (x : ChV) (W Wb : World), w.heap.size + 2 ≤ W.heap.size → Fr (fun c _ => B c) w W → I pre W → S' pre x W → Fr KC W Wb → body.wpIn (Fence.wide.inRound l) 1 P (roundEndX B I Ix (pre ++ [x]) Wb) { tmps := (T.setIfInBounds p (.slice x.a x.n x.c)).setIfInBounds q (.slice x.a x.n x.c), defers := [] } Wb)
    (hdone : ∀ (D : Nat) (xs : List ChV) (W : World), w.heap.size ≤ D → D ≤ w.heap.size → S xs → I xs W → W.heap[D]? = some (.deferred (some [])) → Fr (fun c _ => B c) w W → Q .normal { tmps := T, defers := [{ target := .collected D, args := #[] }] } W)
    (hstop : ∀ (D : Nat) (xs : List ChV) (W : World), w.heap.size ≤ D → D ≤ w.heap.size → Ix xs W → W.heap[D]? = some (.deferred (some [])) → Fr (fun c _ => B c) w W → Code.ret.wp P Q { tmps := T, defers := [{ target := .collected D, args := #[] }] } W) :
    (Code.rangeFunc g #[p] assign body).wp P Q { tmps := T, defers := [] } w := by
  refine (wpIn_wide (n := 3)).1 (wpIn_rangeX (F := Fence.wide) (n := 3) rfl (by decide) hg trivial eg hseq hB0 hB1 (fun _ => rfl) I Ix hI hIx h0 (fun x W a' W' => W' = W ∧ a' = { tmps := (T.setIfInBounds p (.slice x.a x.n x.c)).setIfInBounds q (.slice x.a x.n x.c), defers := [] }) ?_ ?_ hdone fun D xs W h1 h2 h3 h4 h5 => wpIn_wide.2 (hstop D xs W h1 h2 h3 h4 h5))
  · intro l x W K hK
    have e : ((#[p] : Array Tmp).zip x.encs).foldl (fun t (p, v) => t.setIfInBounds p v) T = T.setIfInBounds p (.slice x.a x.n x.c) := by simp [ChV.encs]
    show assign.wpIn (Fence.wide.inRound l) 1 P _ { tmps := ((#[p] : Array Tmp).zip x.encs).foldl (fun t (p, v) => t.setIfInBounds p v) T, defers := [] } W
    rw [e]
    exact hassign l x W K (hK _ _ ⟨rfl, rfl⟩ (Fr.refl _ _))
  · rintro l pre x W a' W' Wb hs hf hi ht ⟨rfl, rfl⟩ _ hfb
    exact hbody l pre x W' Wb hs hf hi ht hfb

theorem vres (T : Array Value) (W : World) (g : Nat) (v : Value) (hT : T.getD 8 undef = .pointer (some ⟨g, 0, none⟩)) (hc : W.cell? ⟨g, 0, none⟩ = some v) : (results Tryd.f33 T).run Tryd.prog W = .ok v W := by
  have hT' : T[8]?.getD undef = .pointer (some ⟨g, 0, none⟩) := by simpa using hT
  simp [results, Tryd.results33, go_sem, hT', hc]

attribute [local go_sem] Oper.semAt_some

set_option maxRecDepth 100000 in
set_option maxHeartbeats 8000000 in
theorem vsave_main {K : Nat → Obj → Prop} (w : World) (bd : Nat) (F : Nat → Prop) (D : Dk) (k N : Nat) (q : Option Addr) (len cap : Nat) (b : List UInt8) (h : Dsk w bd F D) (hF : ∀ c, F c → c < w.heap.size) (hb : BytesAt K w (.slice q len cap) b) (hK : ∀ c o, K c o → ¬ F c ∧ c < w.heap.size) (ht : TabOK w) (hF0 : ¬ F 0) (hr : vright D k N = 0) (a num size : Nat) (ok : Bool) (hrd : readV D k = (a, num, size, ok)) (hroom : ¬ vroom N < (len : Nat)) (hmax : num ≠ 4294967295) (hq : D.pend.length < 900000)
    (hN1 : 1 ≤ N) (hN2 : N ≤ 24) (hkN : k + 2 + 2 * N ≤ D.sure.length) (c : Int) (E : Dk) (base : Nat) (hbase : k + 2 + (1 - a) * N = base)
    (hres : (if (vwr D base (num + 1) b ((len + 42) / 43)).1 = 0 then saveM (vwr D base (num + 1) b ((len + 42) / 43)).2.sync k (markB (1 - a) (num + 1) len) else vwr D base (num + 1) b ((len + 42) / 43)) = (c, E)) :
    Calls Tryd.prog 33 #[.pointer (some ⟨bd, 0, none⟩), .int .i64 (k : Nat), .int .i64 (N : Nat), .slice q len cap] w fun e w' => e = .returned (.int .i64 c) ∧ Dsk w' bd (fun c => F c ∨ w.heap.size ≤ c) E ∧ Fr (fun c _ => ¬ F c) w w' := by
  obtain ⟨W, hW, fW, sW, t1, t2, t3, t4⟩ := four_allocs w (.cells #[.pointer (some ⟨bd, 0, none⟩)] 38 (0, 0)) (.cells #[.int .i64 (k : Nat)] 3 (0, 0)) (.cells #[.int .i64 (N : Nat)] 3 (0, 0)) (.cells #[.int .i64 0] 25 (0, 0))
  have hc0 := vright_calls W bd F D k N (h.tt fW)
  rw [hr] at hc0
  have HC := Lib.hid hc0
  have VR := Lib.hid (vread_calls W bd F D k (h.tt fW) (ht.tt fW) a num size ok hrd)
  have FW := Lib.hid fW
  have k1 := cell_mk (i := 0) t1 rfl
  have k2 := cell_mk (i := 0) t2 rfl
  have k3 := cell_mk (i := 0) t3 rfl
  have T1 := Lib.hid t1
  have T2 := Lib.hid t2
  have T3 := Lib.hid t3
  have T4 := Lib.hid t4
  have sW1 : w.heap.size + 4 ≤ W.heap.size := Nat.le_of_eq sW.symm
  obtain ⟨ha, hnum, hsz⟩ := readV_bd hrd
  obtain ⟨vr, hvr⟩ : ∃ vr, vroom N = vr := ⟨_, rfl⟩
  have HVR := Lib.hid hvr
  have RM : Hid (∀ W : World, Calls Tryd.prog 63 #[.int .i64 (N : Nat)] W fun e w' => e = .returned (.int .i64 vr) ∧ W = w') := fun W => by rw [← HVR.out]; exact room_calls W N
  have hlr : (len : Int) ≤ vr := by rw [← hvr]; omega
  have hvr1 : vr ≤ 1000 := by rw [← hvr]; exact (vroom_bd N).2
  have hlN : len ≤ 43 * N := by
    have : vr ≤ 43 * N := by rw [← hvr]; unfold vroom; omega
    omega
  have hlen1000 : len ≤ 1000 := by omega
  obtain ⟨a1, ha1⟩ : ∃ a1, 1 - a = a1 := ⟨_, rfl⟩
  obtain ⟨num1, hnum1⟩ : ∃ num1, num + 1 = num1 := ⟨_, rfl⟩
  rw [ha1] at hbase hres
  rw [hnum1] at hres
  obtain ⟨aN, haN⟩ : ∃ aN, a1 * N = aN := ⟨_, rfl⟩
  have haN1 : aN ≤ N := by rw [← haN]; exact Nat.le_trans (Nat.mul_le_mul_right N (show a1 ≤ 1 by omega)) (by omega)
  rw [haN] at hbase
  have HA1 := Lib.hid ha1
  have HNUM1 := Lib.hid hnum1
  have hn1lt : num1 < 4294967296 := by omega
  have ha1le : a1 ≤ 1 := by omega
  have HAN := Lib.hid haN
  have HBASE := Lib.hid hbase
  have HRES := Lib.hid hres
  have HD := Lib.hid h
  have HB := Lib.hid hb
  have HKK := Lib.hid hK
  have HFF := Lib.hid hF
  have HT := Lib.hid ht
  have HLB := Lib.hid hb.len
  have hmaxlen := h.wf.max
  have h0 : 0 < w.heap.size := by have := cell_lt (ht 0 (by decide)); simpa using this
  have dmax : (((num : Nat) : Int) == 4294967295) = false := by simp; omega
  have ea : (1 : Int) - ((a : Nat) : Int) = ((a1 : Nat) : Int) := by omega
  have en : ((num : Nat) : Int) + 1 = ((num1 : Nat) : Int) := by omega
  clear h hb hK hF ht hr hrd hroom hmax hc0 fW sW t1 t2 t3 t4 hvr ha1 hnum1 haN hbase hres
  refine (callsIn_wide (n := 3)).1 ?_
  refine callsIn_of_wp_marks Tryd.func33 rfl trivial ?_ rfl
  simp only [Tryd.ntmps33, List.size_toArray, List.length_cons, List.length_nil, Nat.reduceAdd, Nat.reduceSub, Array.replicate_succ, Array.replicate_zero, List.push_toArray, List.append_toArray, List.nil_append, List.cons_append]
  refine wpIn_wide.2 ?_
  go_wp2_with fail
  clear hW
  (with_reducible refine HC.out.mono ?_)
  rintro e w1 ⟨rfl, rfl⟩
  go_wp2_with fail
  (with_reducible refine VR.out.mono ?_)
  rintro e w2 ⟨rfl, f2⟩
  obtain ⟨w3, hw3⟩ : ∃ w3, w2.alloc (.cells #[.int .i64 (a : Nat), .int .u32 (num : Nat), .int .i64 (size : Nat)] 111) = w3 := ⟨_, rfl⟩
  have f3 : Fr (fun _ _ => True) w2 w3 := by rw [← hw3]; exact (Fr.refl _ _).alloc _
  have t3m : w3.heap[w2.heap.size]? = some (.cells #[.int .i64 (a : Nat), .int .u32 (num : Nat), .int .i64 (size : Nat)] 111 (0, 0)) := by rw [← hw3]; exact heap_alloc_new _ _
  have s3 : w3.heap.size = w2.heap.size + 1 := by rw [← hw3]; simp
  have S3 := Lib.hid s3
  have G3 := Lib.hid (f2.trans f3)
  have sz2 : W.heap.size ≤ w2.heap.size := f2.size
  have j3 := cell_mk (i := 0) ((f2.trans f3).keep _ _ T3.out trivial) rfl
  have TM := Lib.hid t3m
  have m0 := cell_mk (i := 0) t3m rfl
  have m1 := cell_mk (i := 1) t3m rfl
  have m2 := cell_mk (i := 2) t3m rfl
  have y0 := frozen_mk (i := 0) t3m
  have y1 := frozen_mk (i := 1) t3m
  have y2 := frozen_mk (i := 2) t3m
  clear f2 f3 t3m k1 k2 k3 s3
  go_wp2_with fail
  clear hw3
  (with_reducible refine (RM.out _).mono ?_)
  rintro e w3' ⟨rfl, rfl⟩
  -- the mark of the next one; the counter
  have HW5 : Hid (∃ W4, ((((w3.setCell ⟨w2.heap.size, 0, none⟩ (.int .i64 (a1 : Nat))).setCell ⟨w2.heap.size, 1, none⟩ (.int .u32 (num1 : Nat))).setCell ⟨w2.heap.size, 2, none⟩ (.int .i64 (len : Nat))).alloc (.cells #[.int .i64 0] 3)) = W4 ∧ Fr (fun c _ => c ≠ w2.heap.size) w3 W4 ∧ W4.heap.size = w3.heap.size + 1 ∧ W4.heap[w2.heap.size]? = some (.cells #[.int .i64 (a1 : Nat), .int .u32 (num1 : Nat), .int .i64 (len : Nat)] 111 (0, 0)) ∧ W4.heap[w3.heap.size]? = some (.cells #[.int .i64 0] 3 (0, 0))) := by
    refine ⟨_, rfl, ((((Fr.refl _ _).setCell (fun _ _ h => h rfl) _).setCell (fun _ _ h => h rfl) _).setCell (fun _ _ h => h rfl) _).alloc _, ?_, ?_, ?_⟩
    · rw [World.size_alloc, size_setCell', size_setCell', size_setCell']
    · exact heap_alloc_lt (heap_setCell_same (heap_setCell_same (heap_setCell_same TM.out _) _) _) _
    · exact heap_alloc_at (by rw [size_setCell', size_setCell', size_setCell']) _
  obtain ⟨W4, hW4, g4, s4, tm4, ti4⟩ := HW5.out
  obtain ⟨V4, hV4⟩ : ∃ V4, W4.setCell ⟨w3.heap.size, 0, none⟩ (.int .i64 0) = V4 := ⟨_, rfl⟩
  have hs32 : w2.heap.size + 1 = w3.heap.size := S3.out.symm
  have S32 : w2.heap.size < w3.heap.size := by omega
  have G4 : Hid (Fr (fun c _ => c ≠ w2.heap.size) w3 V4) := by rw [← hV4]; exact g4.setCell_new (p := ⟨w3.heap.size, 0, none⟩) (Nat.le_refl _) _
  have S4 : Hid (V4.heap.size = w3.heap.size + 1) := by show _ = _; rw [← hV4, size_setCell', s4]
  have TM4 : Hid (V4.heap[w2.heap.size]? = some (.cells #[.int .i64 (a1 : Nat), .int .u32 (num1 : Nat), .int .i64 (len : Nat)] 111 (0, 0))) := by show _ = _; rw [← hV4, heap_setCell_ne (by omega)]; exact tm4
  have TI4 : Hid (V4.heap[w3.heap.size]? = some (.cells #[.int .i64 0] 3 (0, 0))) := by show _ = _; rw [← hV4]; exact heap_setCell_same ti4 _
  have ci4 := cell_mk (i := 0) ti4 rfl
  have zi4 := frozen_mk (i := 0) ti4
  clear g4 s4 tm4 ti4 HW5 hs32
  go_wp2_with fail
  clear hW4 hV4 ci4 zi4
  (with_reducible refine (chunk_calls V4 q len cap).mono ?_)
  rintro e V5 ⟨rfl, hV5⟩
  replace hV5 := hV5.symm
  go_wp2
  have f5 : Fr (fun _ _ => True) V4 V5 := by rw [← hV5]; exact ((Fr.refl _ _).alloc _).alloc _
  have s5e : V5.heap.size = V4.heap.size + 2 := by rw [← hV5]; simp
  have s5 : V5.heap.size ≤ V4.heap.size + 2 := Nat.le_of_eq s5e
  have s5' : V4.heap.size + 2 ≤ V5.heap.size := Nat.le_of_eq s5e.symm
  clear s5e
  have tb5 : V5.heap[V4.heap.size]? = some (.cells #[.slice q len cap] 23 (0, 0)) := by rw [← hV5]; exact heap_alloc_lt (heap_alloc_new _ _) _
  have tn5 : V5.heap[V4.heap.size + 1]? = some (.cells #[.int .i64 43] 3 (0, 0)) := by rw [← hV5]; exact heap_alloc_at (by simp) _
  have sv : w.heap.size + 4 ≤ w2.heap.size := by omega
  have s45 : V4.heap.size ≤ w3.heap.size + 1 := Nat.le_of_eq S4.out
  have s45' : w3.heap.size + 1 ≤ V4.heap.size := Nat.le_of_eq S4.out.symm
  -- from w to V5: all but the mark's block, which is new
  have fw3 : Fr (fun _ _ => True) w w3 := FW.out.trans G3.out
  have fv4 : Fr (fun _ _ => True) w V4 := Fr.within ((fw3.mono fun _ _ _ => trivial : Fr (fun c _ => True ∧ c < w.heap.size) w w3).trans (G4.out.mono fun c _ h e => by have := h.2; omega))
  have fv5 : Fr (fun _ _ => True) w V5 := fv4.trans f5
  have keep5 : ∀ c o, W.heap[c]? = some o → c ≠ w2.heap.size → V5.heap[c]? = some o := fun c o hc hne => f5.keep _ _ (G4.out.keep _ _ (G3.out.keep _ _ hc trivial) hne) trivial
  have u1 := keep5 _ _ T1.out (by omega)
  have u2 := keep5 _ _ T2.out (by omega)
  have u3 := keep5 _ _ T3.out (by omega)
  have u4 := keep5 _ _ T4.out (by omega)
  have um := f5.keep _ _ TM4.out trivial
  have ui := f5.keep _ _ TI4.out trivial
  clear hV5
  have hseq := chunk_seq 2 V5 (fun c => (c < V5.heap.size ∧ ¬ F c ∧ c ≠ w3.heap.size ∧ c ≠ w.heap.size + 1 + 1 + 1) ∨ c = V5.heap.size ∨ c = V5.heap.size + 1) K q len cap V4.heap.size (V4.heap.size + 1) b (HB.out.tt fv5) (fun c o h => .inl (by have := HKK.out c o h; exact ⟨by omega, this.1, by omega, by omega⟩)) (cell_mk tb5 rfl) (cell_mk tn5 rfl) (.inl ⟨by omega, fun h => by have := HFF.out _ h; omega, by omega, by omega⟩) (.inl ⟨by omega, fun h => by have := HFF.out _ h; omega, by omega, by omega⟩) hlen1000
  have HSEQ := Lib.hid hseq
  have BOX : Hid (∀ c, w.heap.size ≤ c → c < V5.heap.size → c ≠ w3.heap.size → c ≠ w.heap.size + 1 + 1 + 1 → ((c < V5.heap.size ∧ ¬ F c ∧ c ≠ w3.heap.size ∧ c ≠ w.heap.size + 1 + 1 + 1) ∨ c = V5.heap.size ∨ c = V5.heap.size + 1)) := fun c h1 h2 h3 h4 => .inl ⟨h2, fun h => by have := HFF.out c h; omega, h3, h4⟩
  have U1 := Lib.hid u1
  have U2 := Lib.hid u2
  have U3 := Lib.hid u3
  have UM := Lib.hid um
  have D5 : Hid (Dsk V5 bd (fun c => F c ∨ V5.heap.size + 2 ≤ c) D) := (HD.out.tt fv5).mono fun _ h => .inl h
  have UI := Lib.hid ui
  have U4 := Lib.hid u4
  have FV5 := Lib.hid fv5
  have HTT : Hid (∀ W', Fr (fun c _ => (c < V5.heap.size ∧ ¬ F c ∧ c ≠ w3.heap.size ∧ c ≠ w.heap.size + 1 + 1 + 1) ∨ c = V5.heap.size ∨ c = V5.heap.size + 1) V5 W' → TabOK W') := fun W' hf i hi => hf.cell (fun _ _ => .inl ⟨by show 0 < V5.heap.size; omega, hF0, by show ¬ 0 = _; omega, by show ¬ 0 = _; omega⟩) ((HT.out.tt fv5) i hi)
  have szV : w.heap.size + 4 ≤ V5.heap.size := by omega
  have am : ((a1 : Nat) : Int) * ((N : Nat) : Int) = ((aN : Nat) : Int) := by rw [← HAN.out]; exact (Int.natCast_mul a1 N).symm
  clear hseq u1 u2 u3 u4 um ui keep5 fw3 fv4 fv5 f5 tb5 tn5 G3 G4 TM TM4 TI4 T1 T2 T3 T4 m0 m1 m2 y0 y1 y2 j3 HC VR RM FW
  refine wp_rangeV 13 (gf := 79) (lb := #[.pointer (some ⟨V4.heap.size, 0, none⟩), .pointer (some ⟨V4.heap.size + 1, 0, none⟩)]) rfl (enters_of Tryd.func79 (by kernel_rfl) rfl) HSEQ.out (.inr (.inl rfl)) (.inr (.inr rfl))
    (fun xs W => (vwr D base num1 b xs.length).1 = 0 ∧ Dsk W bd (fun c => F c ∨ V5.heap.size + 2 ≤ c) (vwr D base num1 b xs.length).2 ∧ W.heap[w3.heap.size]? = some (.cells #[.int .i64 (xs.length : Nat)] 3 (0, 0)) ∧ W.heap[w.heap.size + 1 + 1 + 1]? = some (.cells #[.int .i64 0] 25 (0, 0)))
    (fun xs W => ∃ c' E', vwr D base num1 b xs.length = (c', E') ∧ c' ≠ 0 ∧ 43 * xs.length < len + 43 ∧ Dsk W bd (fun c => F c ∨ V5.heap.size + 2 ≤ c) E' ∧ W.heap[w.heap.size + 1 + 1 + 1]? = some (.cells #[.int .i64 c'] 25 (0, 0)))
    (fun xs A A' h hf => ⟨h.1, h.2.1.kc hf, hf.keep _ _ h.2.2.1 rfl, hf.keep _ _ h.2.2.2 rfl⟩)
    (fun xs A A' h hf => by obtain ⟨c', E', h1, h2, h3, h4, h5⟩ := h; exact ⟨c', E', h1, h2, h3, h4.kc hf, hf.keep _ _ h5 rfl⟩)
    ⟨rfl, D5.out, UI.out, U4.out⟩ ?assign ?body ?done ?stop
  case assign =>
    intro l x W K hK
    have HK := Lib.hid hK
    clear hK
    gi_wp2
    exact HK.out
  case body =>
    have NBI : Hid (¬ ((w3.heap.size < V5.heap.size ∧ ¬ F w3.heap.size ∧ w3.heap.size ≠ w3.heap.size ∧ w3.heap.size ≠ w.heap.size + 1 + 1 + 1) ∨ w3.heap.size = V5.heap.size ∨ w3.heap.size = V5.heap.size + 1)) := fun h => by
      rcases h with h | h | h
      · exact h.2.2.1 rfl
      · omega
      · omega
    have NBR : Hid (¬ ((w.heap.size + 1 + 1 + 1 < V5.heap.size ∧ ¬ F (w.heap.size + 1 + 1 + 1) ∧ w.heap.size + 1 + 1 + 1 ≠ w3.heap.size ∧ w.heap.size + 1 + 1 + 1 ≠ w.heap.size + 1 + 1 + 1) ∨ w.heap.size + 1 + 1 + 1 = V5.heap.size ∨ w.heap.size + 1 + 1 + 1 = V5.heap.size + 1)) := fun h => by
      rcases h with h | h | h
      · exact h.2.2.2 rfl
      · omega
      · omega
    rintro l pre x W1 Wb hs hf ⟨hz, hd, hi, hre⟩ ⟨hxn, hpl, hbx⟩ hfb
    have hfall : ∀ c o, V5.heap[c]? = some o → o.isCells = true → w.heap.size ≤ c → c < V5.heap.size → c ≠ w3.heap.size → c ≠ w.heap.size + 1 + 1 + 1 → Wb.heap[c]? = some o := fun c o h1 h2 h3 h4 h5 h6 => hfb.keep _ _ (hf.keep _ _ h1 (BOX.out c h3 h4 h5 h6)) h2
    have v1 := hfall _ _ U1.out rfl (by omega) (by omega) (by omega) (by omega)
    have v2 := hfall _ _ U2.out rfl (by omega) (by omega) (by omega) (by omega)
    have v3 := hfall _ _ U3.out rfl (by omega) (by omega) (by omega) (by omega)
    have vm := hfall _ _ UM.out rfl (by omega) (by omega) (by omega) (by omega)
    have vi := hfb.keep _ _ hi rfl
    have vr4 := hfb.keep _ _ hre rfl
    have dB := (hd.kc hfb).inside
    have bx := hbx.kc hfb
    have tabB := (HTT.out W1 hf).kc hfb
    have hx43 : x.n ≤ 43 := by rw [hxn, chunkAt_len]; omega
    have hpn := vwr_pend (D := D) (base := base) (num := num1) (b := b) pre.length
    have hj1 : pre.length < 30 := by omega
    have hsucc : vwr D base num1 b (pre.length + 1) = (vwr D base num1 b pre.length).2.write ((base + pre.length : Nat) : Int) (stampB (pre.length + 1) num1 (chunkAt b pre.length)) := by rw [vwr, if_pos hz]
    have hlsn : (pre ++ [x]).length = pre.length + 1 := by simp
    have hsz1 : V5.heap.size + 2 ≤ Wb.heap.size := Nat.le_trans hs hfb.size
    generalize (vwr D base num1 b pre.length).2 = Ej at dB hpn hsucc
    obtain ⟨c2, E2, hw2⟩ : ∃ c2 E2, Ej.write ((base + pre.length : Nat) : Int) (stampB (pre.length + 1) num1 (chunkAt b pre.length)) = (c2, E2) := ⟨_, _, rfl⟩
    rw [hw2] at hsucc
    have SUCC : Hid (vwr D base num1 b (pre ++ [x]).length = (c2, E2)) := by show _ = _; rw [hlsn]; exact hsucc
    have LSN := Lib.hid hlsn
    have HW2 := Lib.hid hw2
    have DB := Lib.hid dB
    have BX := Lib.hid bx
    have TB := Lib.hid tabB
    have VI := Lib.hid vi
    have VR4 := Lib.hid vr4
    have V1 := Lib.hid v1
    have V2 := Lib.hid v2
    have V3 := Lib.hid v3
    have VM := Lib.hid vm
    have hplx : 43 * (pre.length + 1) < len + 43 := by omega
    generalize pre.length = j at hj1 hpl HW2 VI BX hplx hpn LSN
    clear hz hd hi hre hxn hbx hfall v1 v2 v3 vm vi vr4 dB bx tabB hsucc hlsn hw2
    have i1 := cell_mk (i := 0) VI.out rfl
    have n1 := cell_mk (i := 1) VM.out rfl
    simp only [List.setIfInBounds_toArray, List.set_cons_succ, List.set_cons_zero]
    gi_wp2
    refine ⟨trivial, (CallsIn.inRound l (callsIn_wide.2 (stamp_okz Wb (j + 1) num1 _ _ (by omega) rfl x.a x.n x.c _ BX.out TB.out (by omega) hn1lt hx43))).mono ?_⟩
    rintro e y1 ⟨⟨a6, c6, rfl, b6⟩, f6⟩
    have D6 := Lib.hid (DB.out.tt f6)
    have B6 := Lib.hid b6
    have F6 := Lib.hid f6
    have s6 : Wb.heap.size ≤ y1.heap.size := f6.size
    have x1 := cell_mk (i := 0) (f6.keep _ _ V1.out trivial) rfl
    have x2 := cell_mk (i := 0) (f6.keep _ _ V2.out trivial) rfl
    have x3 := cell_mk (i := 0) (f6.keep _ _ V3.out trivial) rfl
    have xm := cell_mk (i := 0) (f6.keep _ _ VM.out trivial) rfl
    have xi := cell_mk (i := 0) (f6.keep _ _ VI.out trivial) rfl
    have hidx : ((k : Nat) : Int) + 2 + (aN : Nat) + (j : Nat) = ((base + j : Nat) : Int) := by have := HBASE.out; omega
    have wc := write_calls y1 bd _ Ej ((k : Int) + 2 + aN + j) (.slice a6 64 c6) (stampB (j + 1) num1 (chunkAt b j)) D6.out B6.out (fun c o _ h1 h2 => by have := h1.1; omega) (by omega)
    rw [hidx, HW2.out] at wc
    rw [← hidx] at wc
    have WC := Lib.hid wc
    clear b6 f6 i1 n1 wc hidx
    gi_wp2
    refine ⟨trivial, (CallsIn.inRound l (callsIn_wide.2 WC.out)).mono ?_⟩
    rintro e y2 ⟨rfl, d7, f7⟩
    have D7 : Hid (Dsk y2 bd (fun c => F c ∨ V5.heap.size + 2 ≤ c) E2) := d7.mono fun c h => by
      rcases h with h | h
      · exact h.1
      · exact .inr (by omega)
    have hnF : ∀ c, w.heap.size ≤ c → c < V5.heap.size + 2 → ¬ ((F c ∨ V5.heap.size + 2 ≤ c) ∧ c < Wb.heap.size) := fun c h1 h2 h3 => by
      rcases h3.1 with h | h
      · have := HFF.out c h; omega
      · omega
    have t7i := f7.keep _ _ (F6.out.keep _ _ VI.out trivial) (hnF _ (by omega) (by omega))
    have t7r := f7.keep _ _ (F6.out.keep _ _ VR4.out trivial) (hnF _ (by omega) (by omega))
    have FR7 : Hid (Fr (fun c _ => (c < V5.heap.size ∧ ¬ F c ∧ c ≠ w3.heap.size ∧ c ≠ w.heap.size + 1 + 1 + 1) ∨ c = V5.heap.size ∨ c = V5.heap.size + 1) Wb y2) := (F6.out.mono fun _ _ _ => trivial).trans (f7.mono fun c _ h h2 => by
      rcases h with h | h | h
      · rcases h2.1 with h3 | h3
        · exact h.2.1 h3
        · omega
      · rcases h2.1 with h3 | h3
        · have := HFF.out c h3; omega
        · omega
      · rcases h2.1 with h3 | h3
        · have := HFF.out c h3; omega
        · omega)
    have T7I := Lib.hid t7i
    have T7R := Lib.hid t7r
    have ci7 := cell_mk (i := 0) t7i rfl
    have zi7 := frozen_mk (i := 0) t7i
    have cr7 := cell_mk (i := 0) t7r rfl
    have zr7 := frozen_mk (i := 0) t7r
    have ner : ¬ w3.heap.size = w.heap.size + 1 + 1 + 1 := by omega
    have D8 : Hid (∀ p v, Fr (fun c _ => c ≠ p) y2 (y2.setCell ⟨p, 0, none⟩ v)) := fun p v => (Fr.refl _ _).setCell (fun _ _ h => h rfl) _
    clear d7 f7 t7i t7r x1 x2 x3 xm xi hnF WC
    by_cases hc2 : c2 = 0
    · subst hc2
      gi_wp2
      have dd := D7.out.fr (D8.out w3.heap.size (.int .i64 ((j : Int) + 1))) (fun c _ _ h e => by
        rcases h with h | h
        · have := HFF.out c h; omega
        · omega)
      have ti := heap_setCell_same (o := 0) T7I.out (.int .i64 ((j : Int) + 1))
      have tr := (heap_setCell_ne (w := y2) (b := w3.heap.size) (o := 0) (k := w.heap.size + 1 + 1 + 1) (by omega) (.int .i64 ((j : Int) + 1))).trans T7R.out
      refine ⟨FR7.out.setCell (p := ⟨w3.heap.size, 0, none⟩) (fun o _ h => NBI.out h) _, ?_, ?_, ?_, tr⟩
      · rw [SUCC.out]
      · rw [SUCC.out]; exact dd
      · rw [LSN.out]; exact ti
    · have hc2' : (c2 != 0) = true := by simpa using hc2
      have HC2 := Lib.hid hc2
      clear hc2
      gi_wp2
      have dd := D7.out.fr (D8.out (w.heap.size + 1 + 1 + 1) (.int .i64 c2)) (fun c _ _ h e => by
        rcases h with h | h
        · have := HFF.out c h; omega
        · omega)
      have tr := heap_setCell_same (o := 0) T7R.out (.int .i64 c2)
      exact ⟨FR7.out.setCell (p := ⟨w.heap.size + 1 + 1 + 1, 0, none⟩) (fun o _ h => NBR.out h) _, c2, E2, SUCC.out, HC2.out, by rw [LSN.out]; exact hplx, dd, tr⟩
  case done =>
    rintro Dn xs W1 hDn hDn2 hS ⟨hz, hd, hi, hre⟩ hK hf
    have hlen : xs.length = (len + 42) / 43 := by omega
    rw [hlen] at hz hd
    have res := HRES.out
    rw [if_pos hz] at res
    have hpe := vwr_pend (D := D) (base := base) (num := num1) (b := b) ((len + 42) / 43)
    generalize (vwr D base num1 b ((len + 42) / 43)).2 = Ej at hd res hpe
    have hpe2 : Ej.sync.pend.length < 1000000 := by have := pend_sync Ej; omega
    have v1 := hf.keep _ _ U1.out (BOX.out _ (by omega) (by omega) (by omega) (by omega))
    have v2 := hf.keep _ _ U2.out (BOX.out _ (by omega) (by omega) (by omega) (by omega))
    have vm := hf.keep _ _ UM.out (BOX.out _ (by omega) (by omega) (by omega) (by omega))
    have hDlt : Dn < W1.heap.size := lt_of_some hK
    have k1 := cell_mk (i := 0) v1 rfl
    have RES := Lib.hid res
    have HF1 := Lib.hid hf
    have HKD := Lib.hid hK
    have V1 := Lib.hid v1
    have V2 := Lib.hid v2
    have VM := Lib.hid vm
    have HRE := Lib.hid hre
    have hdi := hd.inside
    have SY := Lib.hid (sync_calls W1 bd _ Ej hdi)
    clear res hf hK v1 v2 vm hre hd hdi hz hlen hi
    go_wp2_with fail
    (with_reducible refine SY.out.mono ?_)
    rintro e y1 ⟨rfl, d1, f1⟩
    have hnF : ∀ c, w.heap.size ≤ c → c < V5.heap.size + 2 → ¬ ((F c ∨ V5.heap.size + 2 ≤ c) ∧ c < W1.heap.size) := fun c h1 h2 h3 => by
      rcases h3.1 with h | h
      · have := HFF.out c h; omega
      · omega
    have s1 : W1.heap.size ≤ y1.heap.size := f1.size
    have D1 : Hid (Dsk y1 bd (fun c => (F c ∨ V5.heap.size + 1 ≤ c) ∧ c < y1.heap.size) Ej.sync) := d1.inside.mono fun c h => by
      refine ⟨?_, h.2⟩
      rcases h.1 with h | h
      · rcases h.1 with h | h
        · exact .inl h
        · exact .inr (by omega)
      · exact .inr (by omega)
    have N1 := Lib.hid (f1.keep _ _ V1.out (hnF _ (by omega) (by omega)))
    have N2 := Lib.hid (f1.keep _ _ V2.out (hnF _ (by omega) (by omega)))
    have NM := Lib.hid (f1.keep _ _ VM.out (hnF _ (by omega) (by omega)))
    have NR := Lib.hid (f1.keep _ _ HRE.out (hnF _ (by omega) (by omega)))
    have ND := Lib.hid (f1.keep _ _ HKD.out (fun h => by
      rcases h.1 with h | h
      · have := HFF.out _ h; omega
      · omega))
    have FB1 : Hid (Fr (fun c _ => ¬ F c ∧ c < w.heap.size) w y1) := ((FV5.out.mono fun _ _ _ => trivial).trans (HF1.out.mono fun c _ h => .inl ⟨by have := h.2; omega, h.1, by have := h.2; omega, by have := h.2; omega⟩)).trans (f1.mono fun c _ h h2 => by
      rcases h2.1 with h3 | h3
      · exact h.1 h3
      · have := h.2; omega)
    have TY : Hid (TabOK y1) := fun i hi => FB1.out.cell (fun _ _ => ⟨hF0, h0⟩) (HT.out i hi)
    have SVC : Hid (∀ (y : World) (v : Value), Dsk y bd (fun c => (F c ∨ V5.heap.size + 1 ≤ c) ∧ c < y1.heap.size) Ej.sync → BytesAt (New y1.heap.size) y v (markB a1 num1 len) → TabOK y → Calls Tryd.prog 25 #[.pointer (some ⟨bd, 0, none⟩), .int .i64 (k : Nat), v] y fun e w' => e = .returned (.int .i64 c) ∧ Dsk w' bd (fun c => ((F c ∨ V5.heap.size + 1 ≤ c) ∧ c < y1.heap.size) ∨ y.heap.size ≤ c) E ∧ Fr (fun c _ => ¬ ((F c ∨ V5.heap.size + 1 ≤ c) ∧ c < y1.heap.size)) y w') := fun y v h1 h2 h3 => by
      have := save_calls y bd _ Ej.sync (k : Int) v _ h1 h2 h3 hpe2
      rw [RES.out] at this
      exact this
    have p1 := cell_mk (i := 0) N1.out rfl
    have p2 := cell_mk (i := 0) N2.out rfl
    have pm0 := cell_mk (i := 0) NM.out rfl
    have pm1 := cell_mk (i := 1) NM.out rfl
    have pm2 := cell_mk (i := 2) NM.out rfl
    have hl65 : len < 65536 := by omega
    have NDF : Hid ((F Dn ∨ V5.heap.size + 1 ≤ Dn) → 0 < 0) := fun h => by
      rcases h with h | h
      · have := HFF.out _ h; omega
      · omega
    have NRF : Hid ((F (w.heap.size + 1 + 1 + 1) ∨ V5.heap.size + 1 ≤ w.heap.size + 1 + 1 + 1) → 0 < 0) := fun h => by
      rcases h with h | h
      · have := HFF.out _ h; omega
      · omega
    clear d1 f1 hnF k1 SY RES
    go_wp2_with fail
    go_region_with (first | (go_at_call 68; (with_reducible refine (mbytes_calls _ a1 num1 len ha1le hn1lt hl65).mono ?_); rintro e y2 ⟨⟨q6, c6, rfl, b6⟩, f6⟩; have D6 : Hid (Dsk y2 bd (fun c => (F c ∨ V5.heap.size + 1 ≤ c) ∧ c < y1.heap.size) Ej.sync) := (D1.out.tt (Fr.refl _ _).drew).tt f6; have B6 : Hid (BytesAt (New y1.heap.size) y2 (.slice q6 7 c6) (markB a1 num1 len)) := b6; have T6 : Hid (TabOK y2) := (TY.out.tt (Fr.refl _ _).drew).tt f6; have o1 := cell_mk (i := 0) (f6.keep _ _ N1.out trivial) rfl; have o2 := cell_mk (i := 0) (f6.keep _ _ N2.out trivial) rfl) | (go_at_call 25; (with_reducible refine (SVC.out _ _ D6.out B6.out T6.out).mono ?_); rintro e y3 ⟨rfl, d7, f7⟩; have R7 := Lib.hid (f7.keep _ _ (f6.keep _ _ NR.out trivial) (fun h => (Nat.lt_irrefl _ (NRF.out h.1)).elim)); have cr7 := cell_mk (i := 0) R7.out rfl; have zr7 := frozen_mk (i := 0) R7.out))
    all_goals
      have ND7 := Lib.hid (f7.keep _ _ (f6.keep _ _ ND.out trivial) (fun h => (Nat.lt_irrefl _ (NDF.out h.1)).elim))
      have FF : Hid (Fr (fun c _ => ¬ F c ∧ c < w.heap.size) w y3) := ((FB1.out.trans ((Fr.refl _ _).drew)).trans (f6.mono fun _ _ _ => trivial)).trans (f7.mono fun c _ h h2 => by
        rcases h2.1 with h3 | h3
        · exact h.1 h3
        · have := h.2; omega)
      have D7 : Hid (Dsk y3 bd (fun c => (F c ∨ V5.heap.size + 1 ≤ c) ∧ c ≠ w.heap.size + 1 + 1 + 1) E) := d7.mono fun c h => by
        have s6 := f6.size
        have s6' : y1.heap.size ≤ y2.heap.size := s6
        rcases h with h | h
        · refine ⟨h.1, fun e => ?_⟩
          rcases h.1 with h1 | h1
          · have := HFF.out c h1; omega
          · omega
        · exact ⟨.inr (by omega), by omega⟩
      clear d7 f7 f6 b6 D6 B6 T6 o1 o2 p1 p2 pm0 pm1 pm2 SVC
      go_wp2
      have g8 : Fr (fun c _ => c ≠ w.heap.size + 1 + 1 + 1) y3 (y3.setCell ⟨w.heap.size + 1 + 1 + 1, 0, none⟩ (.int .i64 c)) := (Fr.refl _ _).setCell (fun _ _ h => h rfl) _
      have nd8 := g8.keep _ _ ND7.out (by omega)
      have r8 := heap_setCell_same (o := 0) R7.out (.int .i64 c)
      have d8 := D7.out.fr g8 (fun c _ _ h => h.2)
      have ff8 := FF.out.trans (g8.mono fun c _ h e => by have := h.2; omega)
      generalize y3.setCell ⟨w.heap.size + 1 + 1 + 1, 0, none⟩ (.int .i64 c) = y4 at nd8 r8 d8 ff8 ⊢
      have fz : Fr KC y4 (y4.putObj Dn (.deferred none)) := Fr.putLoop nd8 rfl _
      refine ⟨by simp, .inl ⟨_, _, rfl, run_takeDeferred nd8, _, vres _ _ (w.heap.size + 1 + 1 + 1) _ rfl (cell_mk (fz.keep _ _ r8 rfl) rfl), rfl, (d8.kc fz).mono fun c h => ?_, Fr.within (ff8.putObj (fun o ho h => by have := h.2; omega) _)⟩⟩
      rcases h.1 with h | h
      · exact .inl h
      · exact .inr (by omega)
  case stop =>
    rintro Dn xs W1 hDn hDn2 ⟨c', E', hv, hc', hx, hd, hre⟩ hK hf
    have hst : vwr D base num1 b ((len + 42) / 43) = (c', E') := by
      have := vwr_stuck (D := D) (base := base) (num := num1) (b := b) (j := xs.length) (by rw [hv]; exact hc') ((len + 42) / 43 - xs.length)
      rw [show xs.length + ((len + 42) / 43 - xs.length) = (len + 42) / 43 by omega, hv] at this
      exact this
    have res := HRES.out
    rw [hst, if_neg hc'] at res
    cases res
    have HRE := Lib.hid hre
    have HDD := Lib.hid hd
    have HF1 := Lib.hid hf
    have HKD := Lib.hid hK
    clear hre hd hf hK hst hv
    go_wp2
    have fz : Fr KC W1 (W1.putObj Dn (.deferred none)) := Fr.putLoop HKD.out rfl _
    refine ⟨by simp, .inl ⟨_, _, rfl, run_takeDeferred HKD.out, _, vres _ _ (w.heap.size + 1 + 1 + 1) _ rfl (cell_mk (fz.keep _ _ HRE.out rfl) rfl), rfl, (HDD.out.kc fz).mono fun c h => ?_, Fr.within ?_⟩⟩
    · rcases h with h | h
      · exact .inl h
      · exact .inr (by omega)
    · exact (((FV5.out.mono fun _ _ _ => trivial).trans (HF1.out.mono fun c _ h => .inl ⟨by have := h.2; omega, h.1, by have := h.2; omega, by have := h.2; omega⟩))).putObj (fun o ho h => by have := h.2; omega) _
end Go.Proofs.YtaeonlafcbgpcaaDoor
/- Package vault: Save and Load, whole. -/
namespace Go.Proofs.YtaeonlafcbgpcaaDoor
open Go.RowKit Go.Shelf
set_option linter.unusedVariables false

theorem vright_zero {D : Dk} {i n : Int} (h : vright D i n = 0) (hm : D.sure.length ≤ 512) : ∃ k N : Nat, i = k ∧ n = N ∧ 1 ≤ N ∧ N ≤ 24 ∧ k + 2 + 2 * N ≤ D.sure.length := by
  unfold vright at h
  split at h
  · cases h
  · split at h
    · cases h
    · exact ⟨i.toNat, n.toNat, by omega, by omega, by omega, by omega, by omega⟩

theorem vsave_calls {K : Nat → Obj → Prop} (w : World) (bd : Nat) (F : Nat → Prop) (D : Dk) (i n : Int) (v : Value) (b : List UInt8) (h : Dsk w bd F D) (hF : ∀ c, F c → c < w.heap.size) (hb : BytesAt K w v b) (hK : ∀ c o, K c o → ¬ F c ∧ c < w.heap.size) (ht : TabOK w) (hF0 : ¬ F 0) (hq : D.pend.length < 900000) :
    Calls Tryd.prog 33 #[.pointer (some ⟨bd, 0, none⟩), .int .i64 i, .int .i64 n, v] w fun e w' => e = .returned (.int .i64 (vsave D i n b).1) ∧ Dsk w' bd (fun c => F c ∨ w.heap.size ≤ c) (vsave D i n b).2 ∧ Fr (fun c _ => ¬ F c) w w' := by
  obtain ⟨q, cap, rfl⟩ := hb.form
  unfold vsave
  by_cases hr : vright D i n = 0
  · rw [if_neg (by rw [hr]; decide)]
    obtain ⟨a, num, size, ok, hrd⟩ : ∃ a num size ok, readV D i = (a, num, size, ok) := ⟨_, _, _, _, rfl⟩
    rw [hrd]
    by_cases h1 : vroom n < (b.length : Nat)
    · rw [if_pos h1]
      exact (vsave_refused w bd F D i n q b.length cap h ht hr a num size ok hrd 2 (.inl ⟨h1, rfl⟩)).mono fun e w' ⟨he, hf⟩ => ⟨he, (h.tt hf).wide _, hf.mono fun _ _ _ => trivial⟩
    · rw [if_neg h1]
      by_cases h2 : num = 4294967295
      · rw [if_pos h2]
        exact (vsave_refused w bd F D i n q b.length cap h ht hr a num size ok hrd 42 (.inr ⟨h1, h2, rfl⟩)).mono fun e w' ⟨he, hf⟩ => ⟨he, (h.tt hf).wide _, hf.mono fun _ _ _ => trivial⟩
      · rw [if_neg h2]
        obtain ⟨k, N, rfl, rfl, hN1, hN2, hkN⟩ := vright_zero hr h.wf.max
        exact vsave_main w bd F D k N q b.length cap b h hF hb hK ht hF0 hr a num size ok hrd h1 h2 hq hN1 hN2 hkN _ _ _ rfl rfl
  · rw [if_pos hr]
    exact (vsave_no w bd F D i n q b.length cap h hr).mono fun e w' ⟨he, hf⟩ => ⟨he, (h.tt hf).wide _, hf.mono fun _ _ _ => trivial⟩

theorem vload_calls (w : World) (bd : Nat) (F : Nat → Prop) (D : Dk) (i n : Int) (h : Dsk w bd F D) (ht : TabOK w) (r : List UInt8) (c : Int) (hr : vload D i n = (r, c)) :
    Calls Tryd.prog 34 #[.pointer (some ⟨bd, 0, none⟩), .int .i64 i, .int .i64 n] w fun e w' => (∃ q cap, e = .returned (.tuple #[.slice q r.length cap, .int .i64 c]) ∧ BytesAt (New w.heap.size) w' (.slice q r.length cap) r) ∧ Fr (fun _ _ => True) w w' := by
  unfold vload at hr
  by_cases h0 : vright D i n = 0
  · rw [if_neg (by rw [h0]; decide)] at hr
    obtain ⟨a, num, size, ok, hrd⟩ : ∃ a num size ok, readV D i = (a, num, size, ok) := ⟨_, _, _, _, rfl⟩
    rw [hrd] at hr
    obtain ⟨k, N, rfl, rfl, hN1, hN2, hkN⟩ := vright_zero h0 h.wf.max
    exact vload_main w bd F D k N h ht a num size ok hrd hN1 hN2 hkN h0 r c hr
  · rw [if_pos h0] at hr
    cases hr
    exact (vload_no w bd F D i n h h0).mono fun e w' ⟨he, hw⟩ => ⟨⟨none, 0, he, BytesAt.nil _ _⟩, hw ▸ Fr.refl _ _⟩
theorem vload_len {D : Dk} {i n : Int} {r : List UInt8} {c : Int} (h : vload D i n = (r, c)) : r.length ≤ 100000 := by
  unfold vload at h
  split at h
  · cases h; decide
  · split at h
    · cases h; decide
    · split at h
      · rename_i out ho
        cases h
        obtain ⟨a, num, size, ok, hrd⟩ : ∃ a num size ok, readV D i = (a, num, size, ok) := ⟨_, _, _, _, rfl⟩
        have hb := readV_bd hrd
        rw [hrd] at ho
        have h2 : r.length ≤ 43 * ((size + 42) / 43) := vcol_len ho
        omega
      · cases h; decide
end Go.Proofs.YtaeonlafcbgpcaaDoor
