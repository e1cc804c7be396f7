/- Texts of the proofs, part 33: what the functions that they reach do, walked; no conditions beyond those that each states. -/
import Derived.Test.YtcpbmempfeloaaaDoorZz4040f7e88f
set_option linter.unusedVariables false
set_option linter.unusedSimpArgs false
/- Keep: begin, where there is something. -/
namespace Go.Proofs.YtcpbmempfeloaaaDoor
open Go.RowKit
set_option linter.unusedVariables false
set_option linter.unusedSimpArgs false

theorem set2m {w : World} {g : Nat} {t : TypeId} {a0 a1 a2 a3 a4 : Value} (h : w.heap[g]? = some (.cells #[a0, a1, a2, a3, a4] t (0, 0))) (v2 v3 : Value) :
    ∃ W, ((w.setCell ⟨g, 2, none⟩ v2).setCell ⟨g, 3, none⟩ v3) = W ∧ W.heap[g]? = some (.cells #[a0, a1, v2, v3, a4] t (0, 0)) ∧ Fr (fun c _ => c ≠ g) w W :=
  ⟨_, rfl, heap_setCell_same (o := 3) (heap_setCell_same (o := 2) h v2) v3, ((Fr.refl _ _).setCell (fun _ _ h => h rfl) _).setCell (fun _ _ h => h rfl) _⟩
theorem headB_parts (s : Sta) (vv : Nat) (h : (s.vote + 1).toNat = vv) : headB s = le s.term 8 ++ (le vv 1 ++ (le s.base 8 ++ (le s.bt 8 ++ []))) := by
  unfold headB
  rw [h, List.append_nil, List.append_assoc, List.append_assoc]
set_option maxRecDepth 100000 in
theorem rd_end0 {K : Nat → Obj → Prop} (w : World) (br : Nat) (v : Value) (h : RdrAt K w br v [] false) :
    Calls Tryd.prog 101 #[.pointer (some ⟨br, 0, none⟩)] w fun e w' => e = .returned (.int .i64 0) ∧ w = w' := by
  obtain ⟨a, cap, rfl⟩ := h.bytes.form
  have c0 := cell_mk (i := 0) h.top rfl
  have c1 := cell_mk (i := 1) h.top rfl
  rw [show ([] : List UInt8).length = 0 from rfl] at c0
  clear h
  go_enter Tryd.func101, Tryd.ntmps101
  go_wp2
  go_ret
  exact ⟨rfl, rfl⟩
/-- A keeper beside a reader of bytes beside it. -/
structure BG (n : Nat) (X P : Nat → Prop) (w w' : World) (bk bj bd : Nat) (ring : Int) (K : Ke) (J : Jn) (D : Dk) (a4 : Option Addr) (c4 : Nat) (hv : Value) (rs : List RV) (a8 : Option Addr) (c8 : Nat) (b : List UInt8) (gr : Nat) (L : List UInt8) : Prop where
  km : KM n X P w' bk bj bd ring K J D a4 c4 hv rs
  kp : Kp X X w w'
  sl : BytesAt (Yk X n 5) w' (.slice a8 25 c8) b
  rd : ∃ v, RdrAt (Yk X n 5) w' gr v L false
  gn : n ≤ gr
  gx : ¬ X gr
section
variable {n : Nat} {X P : Nat → Prop} {w w' w2 : World} {bk bj bd : Nat} {ring : Int} {K : Ke} {J : Jn} {D : Dk} {a4 : Option Addr} {c4 : Nat} {hv : Value} {rs : List RV} {a8 : Option Addr} {c8 : Nat} {b : List UInt8} {gr : Nat} {L : List UInt8}
theorem Yk.off {g c : Nat} {o : Obj} {cs : Array Value} {t : TypeId} {fz : Nat × Nat} (h : Yk X n 5 c o) (hg : w.heap[g]? = some (.cells cs t fz)) (ht : t ≠ 5) (hn : n ≤ g) (ho : w.heap[c]? = some o) : c ≠ g := fun e => by
  subst e
  rw [hg] at ho
  cases ho
  rcases h.2 with q | ⟨cs', fz', q⟩
  · omega
  · exact ht (Obj.cells.inj q).2.1
theorem BG.box (h : BG n X P w w' bk bj bd ring K J D a4 c4 hv rs a8 c8 b gr L) {g : Nat} {cs : Array Value} {t : TypeId} {fz : Nat × Nat} (hg : w'.heap[g]? = some (.cells cs t fz)) (ht : t ≠ 5) (hn : n ≤ g) (hx : ¬ X g) (hr : gr ≠ g) (hf : Fr (fun c _ => c ≠ g) w' w2) (ho : ∀ c, X c → c < w.heap.size) (hs : w.heap.size ≤ g) : BG n X P w w2 bk bj bd ring K J D a4 c4 hv rs a8 c8 b gr L := by
  obtain ⟨u, hu⟩ := h.rd
  have hy : ∀ c o, w'.heap[c]? = some o → Yk X n 5 c o → c ≠ g := fun c o ho hc => hc.off hg ht hn ho
  exact ⟨h.km.box hg ht hn hx hf, ⟨Fr.within ((h.kp.fr.mono fun c _ hc => hc.1).trans (hf.mono fun c _ hc e => by have := hc.2; omega)), h.kp.out⟩, h.sl.fr2 hf hy, ⟨u, hf.keep _ _ hu.top hr, hu.bytes.fr2 hf hy, hu.off⟩, h.gn, h.gx⟩
theorem BG.tt (h : BG n X P w w' bk bj bd ring K J D a4 c4 hv rs a8 c8 b gr L) (hf : Fr (fun _ _ => True) w' w2) : BG n X P w w2 bk bj bd ring K J D a4 c4 hv rs a8 c8 b gr L := by
  obtain ⟨u, hu⟩ := h.rd
  exact ⟨h.km.tt hf, ⟨h.kp.fr.trans (hf.mono fun _ _ _ => trivial), h.kp.out⟩, h.sl.tt hf, ⟨u, hf.keep _ _ hu.top trivial, hu.bytes.tt hf, hu.off⟩, h.gn, h.gx⟩
theorem BG.number (h : BG n X P w w' bk bj bd ring K J D a4 c4 hv rs a8 c8 b gr L) (hs : w.heap.size ≤ gr) (m : Nat) (sz : Int) (hsz : sz = m) (h1 : 1 ≤ m) (h8 : m ≤ 8) (hm : L.length ≤ 140737488355328) (x : Nat) (r : List UInt8) (hr : numR L false m = (x, r, false)) :
    Calls Tryd.prog 100 #[.pointer (some ⟨gr, 0, none⟩), .int .i64 sz] w' fun e w2 => e = .returned (.int .u64 (x : Nat)) ∧ BG n X P w w2 bk bj bd ring K J D a4 c4 hv rs a8 c8 b gr r ∧ Fr (fun c _ => c ≠ gr) w' w2 := by
  subst hsz
  obtain ⟨u, hu⟩ := h.rd
  refine (rnum_calls w' gr u L false m hu h1 h8 hm).mono fun e w2 ⟨he, hv', hf⟩ => ?_
  rw [hr] at he hv'
  have hy : ∀ c o, w'.heap[c]? = some o → Yk X n 5 c o → c ≠ gr := fun c o ho hc => hc.off hu.top (by decide) h.gn ho
  exact ⟨he, ⟨h.km.box hu.top (by decide) h.gn h.gx hf, ⟨Fr.within ((h.kp.fr.mono fun c _ hc => hc.1).trans (hf.mono fun c _ hc e => by have := hc.2; omega)), h.kp.out⟩, h.sl.fr2 hf hy, hv', h.gn, h.gx⟩, hf⟩
theorem BG.end' (h : BG n X P w w' bk bj bd ring K J D a4 c4 hv rs a8 c8 b gr []) : Calls Tryd.prog 101 #[.pointer (some ⟨gr, 0, none⟩)] w' fun e w2 => e = .returned (.int .i64 0) ∧ w' = w2 := by
  obtain ⟨u, hu⟩ := h.rd
  exact rd_end0 w' gr u hu
theorem BG.slot (h : BG n X P w w' bk bj bd ring K J D a4 c4 hv rs a8 c8 b gr L) (hb : b.length = 25) (m : Nat) : BG n X P w ((w'.setCell ⟨bk, 4, none⟩ (.slice a8 25 c8)).setCell ⟨bk, 5, none⟩ (.int .u64 (m : Nat))) bk bj bd ring { K with slot := b, base := m } J D a8 c8 hv rs a8 c8 b gr L := by
  obtain ⟨u, hu⟩ := h.rd
  have k1 := h.km.setSlot hb h.sl
  have k2 := k1.setBase m
  have f : Fr (fun c _ => c ≠ bk) w' ((w'.setCell ⟨bk, 4, none⟩ (.slice a8 25 c8)).setCell ⟨bk, 5, none⟩ (.int .u64 (m : Nat))) := ((Fr.refl _ _).setCell (fun _ _ h => h rfl) _).setCell (fun _ _ h => h rfl) _
  have hy : ∀ c (o : Obj), w'.heap[c]? = some o → Yk X n 5 c o → c ≠ bk := fun c o _ hc e => hc.1 (e ▸ h.km.xb)
  exact ⟨k2, ⟨h.kp.fr.trans (f.mono fun c _ hc e => hc (e ▸ h.km.xb)), h.kp.out⟩, h.sl.fr2 f hy, ⟨u, f.keep _ _ hu.top (fun e => h.gx (e ▸ h.km.xb)), hu.bytes.fr2 f hy, hu.off⟩, h.gn, h.gx⟩
end

set_option maxRecDepth 100000 in
set_option maxHeartbeats 4000000 in
/-- begin, where there is a slot. -/
theorem begin_old {n : Nat} {X P : Nat → Prop} {w : World} {bk bj bd : Nat} {ring : Int} {K : Ke} {J : Jn} {D : Dk} {a4 : Option Addr} {c4 : Nat} {hv : Value} {rs : List RV} (h : KM n X P w bk bj bd ring K J D a4 c4 hv rs) (h0 : 0 < n) (hn : n ≤ w.heap.size) (ht : TabOK w) (s0 : Sta) (hs : s0.wf) (hvt : -1 ≤ s0.vote ∧ s0.vote < 255) (mm : Nat) (hld : loadM D 1 = (headB s0, mm, 0)) :
    Calls Tryd.prog 82 #[.pointer (some ⟨bk, 0, none⟩)] w fun e w' => e = .returned (.tuple #[.agg #[.int .u64 (s0.term : Nat), .int .i64 s0.vote, .int .u64 (s0.base : Nat), .int .u64 (s0.bt : Nat), .slice none 0 0], .bool true]) ∧ (∃ a4' c4', KM n X P w' bk bj bd ring { K with slot := headB s0, base := s0.base } J D a4' c4' hv rs) ∧ Kp X X w w' := by
  have s1 := hs.1
  have s2 := hs.2.1
  have s3 := hs.2.2.1
  clear hs
  have hlb := headB_len s0
  obtain ⟨vv, hvv⟩ : ∃ vv, (s0.vote + 1).toNat = vv := ⟨_, rfl⟩
  have hpt := headB_parts s0 vv hvv
  obtain ⟨tm, htm⟩ : ∃ x, s0.term = x := ⟨_, rfl⟩
  obtain ⟨vo, hvo⟩ : ∃ x, s0.vote = x := ⟨_, rfl⟩
  obtain ⟨ba, hba⟩ : ∃ x, s0.base = x := ⟨_, rfl⟩
  obtain ⟨bt, hbt⟩ : ∃ x, s0.bt = x := ⟨_, rfl⟩
  rw [htm, hba, hbt] at hpt
  rw [htm] at s1
  rw [hba] at s2
  rw [hbt] at s3
  rw [hvo] at hvt hvv
  rw [htm, hvo, hba, hbt]
  clear htm hvo hba hbt
  generalize headB s0 = hdb at hlb hld hpt ⊢
  clear s0
  have w1 : IntKind.i64.wrap (vv : Int) = vv := by rw [IntKind.wrap_i64]; omega
  have w2 : IntKind.i64.wrap ((vv : Int) - 1) = vo := by rw [IntKind.wrap_i64]; omega
  obtain ⟨B3, hB3⟩ : ∃ B, le bt 8 ++ [] = B := ⟨_, rfl⟩
  obtain ⟨B2, hB2⟩ : ∃ B, le ba 8 ++ B3 = B := ⟨_, rfl⟩
  obtain ⟨B1, hB1⟩ : ∃ B, le vv 1 ++ B2 = B := ⟨_, rfl⟩
  have N0 : Hid (numR hdb false 8 = (tm, B1, false)) := Lib.hid (by rw [hpt, hB3, hB2, hB1]; exact numR_le (by omega))
  have N1 : Hid (numR B1 false 1 = (vv, B2, false)) := Lib.hid (by rw [← hB1]; exact numR_le (by omega))
  have N2 : Hid (numR B2 false 8 = (ba, B3, false)) := Lib.hid (by rw [← hB2]; exact numR_le (by omega))
  have N3 : Hid (numR B3 false 8 = (bt, [], false)) := Lib.hid (by rw [← hB3]; exact numR_le (by omega))
  have LL : Hid (hdb.length ≤ 43 ∧ B1.length ≤ 43 ∧ B2.length ≤ 43 ∧ B3.length ≤ 43) := by
    have l1 : B1.length ≤ hdb.length := by have := numR_len hdb false 8; rw [N0.out] at this; exact this
    have l2 : B2.length ≤ B1.length := by have := numR_len B1 false 1; rw [N1.out] at this; exact this
    have l3 : B3.length ≤ B2.length := by have := numR_len B2 false 8; rw [N2.out] at this; exact this
    exact ⟨by omega, by omega, by omega, by omega⟩
  have HLB := Lib.hid hlb
  have LB : Hid (∀ W, KM n X P W bk bj bd ring K J D a4 c4 hv rs → TabOK W → Calls Tryd.prog 55 #[.pointer (some ⟨bd, 0, none⟩), .int .i64 1] W fun e w' => (∃ a cap, e = .returned (.tuple #[.slice a 25 cap, .int .u32 (mm : Nat), .int .i64 0]) ∧ BytesAt (New W.heap.size) w' (.slice a 25 cap) hdb) ∧ Fr (fun _ _ => True) W w') := fun W h ht => by
    have k := km_load h ht 1 hdb mm 0 hld
    rw [hlb] at k
    refine k.mono fun e w' hh => ?_
    obtain ⟨⟨a, cap, h1, h2⟩, h3⟩ := hh
    exact ⟨⟨a, cap, h1, h2⟩, h3⟩
  clear hpt hB1 hB2 hB3 hvv hld hlb
  obtain ⟨W1, hW1⟩ : ∃ W, w.alloc (.cells #[.int .u64 0, .int .i64 0, .int .u64 0, .int .u64 0, .slice none 0 0] 68 (0, 0)) = W := ⟨_, rfl⟩
  have F1 : Hid (Fr (fun _ _ => True) w W1) := hW1 ▸ (Fr.refl _ _).alloc _
  have X1 : Hid (W1.heap[w.heap.size]? = some (.cells #[.int .u64 0, .int .i64 0, .int .u64 0, .int .u64 0, .slice none 0 0] 68 (0, 0))) := hW1 ▸ heap_alloc_new w _
  obtain ⟨Wz, hWz⟩ : ∃ W, W1.alloc (.cells #[.int .u64 0, .int .i64 0, .int .u64 0, .int .u64 0, .slice none 0 0] 68 (0, 0)) = W := ⟨_, rfl⟩
  have F1z : Hid (Fr (fun _ _ => True) W1 Wz) := hWz ▸ (Fr.refl _ _).alloc _
  have Xz : Hid (Wz.heap[W1.heap.size]? = some (.cells #[.int .u64 0, .int .i64 0, .int .u64 0, .int .u64 0, .slice none 0 0] 68 (0, 0))) := hWz ▸ heap_alloc_new W1 _
  have o0 := cell_mk (i := 0) Xz.out rfl
  have o1 := cell_mk (i := 1) Xz.out rfl
  have o2 := cell_mk (i := 2) Xz.out rfl
  have o3 := cell_mk (i := 3) Xz.out rfl
  have o4 := cell_mk (i := 4) Xz.out rfl
  have k0 := frozen_mk (i := 0) Xz.out
  have k1 := frozen_mk (i := 1) Xz.out
  have k2 := frozen_mk (i := 2) Xz.out
  have k3 := frozen_mk (i := 3) Xz.out
  have k4 := frozen_mk (i := 4) Xz.out
  obtain ⟨W2, hW2, T2, G2⟩ := set5 Xz.out (.int .u64 0) (.int .i64 (-1)) (.int .u64 0) (.int .u64 0) (.slice none 0 0)
  have X2 : Hid (W2.heap[W1.heap.size]? = some (.cells #[.int .u64 0, .int .i64 (-1), .int .u64 0, .int .u64 0, .slice none 0 0] 68 (0, 0))) := T2
  have F12 : Hid (Fr (fun _ _ => True) W1 W2) := Fr.within ((F1z.out.mono fun _ _ _ => trivial).trans (G2.mono fun c _ h e => by have := h.2; omega))
  have F2 : Hid (Fr (fun _ _ => True) w W2) := Lib.hid (F1.out.trans F12.out)
  have XR : Hid (W2.heap[w.heap.size]? = some (.cells #[.int .u64 0, .int .i64 0, .int .u64 0, .int .u64 0, .slice none 0 0] 68 (0, 0))) := F12.out.keep _ _ X1.out trivial
  have M2 := Lib.hid (h.tt F2.out)
  have NX : Hid (¬ X w.heap.size) := fun k => by have := h.hi _ k; omega
  have BK : Hid (bk < w.heap.size) := h.hi _ h.xb
  have CE : Hid (∀ W, Fr (fun _ _ => True) W2 W → W.cell? ⟨bk, 0, none⟩ = some (.pointer (some ⟨bd, 0, none⟩)) ∧ W.cell? ⟨bk, 2, none⟩ = some (.int .i64 1)) := fun W f => ⟨(M2.out.tt f).cells.1, (M2.out.tt f).cells.2.2.1⟩
  have HT : Hid (TabOK W2) := ht.kp (Kp.rfl' X F2.out) (h.z h0)
  have HN := Lib.hid hn
  have HZ : Hid (¬ X 0) := h.z h0
  have LC : Hid (∀ W, Fr (fun _ _ => True) W2 W → Calls Tryd.prog 55 #[.pointer (some ⟨bd, 0, none⟩), .int .i64 1] W fun e w' => (∃ a cap, e = .returned (.tuple #[.slice a 25 cap, .int .u32 (mm : Nat), .int .i64 0]) ∧ BytesAt (New W.heap.size) w' (.slice a 25 cap) hdb) ∧ Fr (fun _ _ => True) W w') := fun W f => LB.out W (M2.out.tt f) (HT.out.kp (Kp.rfl' X f) HZ.out)
  have U2 : Hid (Fr (fun _ _ => True) W2 W2.drew) := (Fr.refl _ _).drew
  have NS : Hid (w.heap.size < W1.heap.size) := lt_of_some X1.out
  have HX : Hid (∀ c, X c → c < w.heap.size) := h.hi
  have N0' : Hid (n ≤ w.heap.size) := hn
  have S1 := Lib.hid s1
  have S2 := Lib.hid s2
  have S3 := Lib.hid s3
  have V0 := Lib.hid hvt
  clear h ht hn T2 G2 LB s1 s2 s3 hvt
  go_enter Tryd.func82, Tryd.ntmps82
  go_upto_region 2 with fail
  try rw [hW1]
  try rw [hWz]
  try rw [hW2]
  clear hW1 hW2 hWz o0 o1 o2 o3 o4 k0 k1 k2 k3 k4
  go_region_held3 (fun W => W.cell? ⟨bk, 0, none⟩ = some (.pointer (some ⟨bd, 0, none⟩)) ∧ W.cell? ⟨bk, 2, none⟩ = some (.int .i64 1))
    (first | exact CE.out _ F3.out | exact CE.out _ U2.out)
    (first | (go_at_call 55; go_must ((with_reducible refine (LC.out _ U2.out).mono ?_); rintro e w3 ⟨⟨a8, c8, rfl, b3⟩, f3⟩; have F3 := Lib.hid (U2.out.trans f3); have B3' := Lib.hid b3; clear f3 b3)))
  all_goals
    have M3 := Lib.hid (M2.out.tt F3.out)
    have R3 : Hid (BytesAt (Yk X n 5) w3 (.slice a8 25 c8) hdb) := Lib.hid (B3'.out.mono fun c o _ k => Yk.new k fun c hc => M2.out.hi c hc)
    obtain ⟨W3, hW3⟩ : ∃ W, w3.alloc (.cells #[.slice a8 25 c8, .bool false] 185 (0, 0)) = W := ⟨_, rfl⟩
    have A3 : Hid (Fr (fun _ _ => True) w3 W3) := hW3 ▸ (Fr.refl _ _).alloc _
    have RC := Lib.hid (read_calls w3 a8 25 c8)
    have TR : Hid (W3.heap[w3.heap.size]? = some (.cells #[.slice a8 25 c8, .bool false] 185 (0, 0))) := hW3 ▸ heap_alloc_new w3 _
    have GR : Hid (W1.heap.size < w3.heap.size) := lt_of_some (F3.out.keep _ _ X2.out trivial)
    have BR : Hid (BG n X P w W3 bk bj bd ring K J D a4 c4 hv rs a8 c8 hdb w3.heap.size hdb) := by
      have q : w.heap.size < w3.heap.size := by have := NS.out; have := GR.out; omega
      exact ⟨M3.out.tt A3.out, (Kp.rfl' X F2.out).trans ((Kp.rfl' X F3.out).trans (Kp.rfl' X A3.out)), R3.out.tt A3.out, ⟨_, TR.out, R3.out.tt A3.out, fun cs fz k => by
        rcases k.2 with q | ⟨cs', fz', q⟩
        · have := N0'.out; omega
        · exact absurd (Obj.cells.inj q).2.1 (by decide)⟩, by have := N0'.out; omega, fun k => by have := HX.out _ k; omega⟩
    obtain ⟨gr, hgr⟩ : ∃ g, w3.heap.size = g := ⟨_, rfl⟩
    rw [hW3, hgr] at RC
    rw [hgr] at GR BR
    have GW : Hid (w.heap.size ≤ gr) := by have := NS.out; have := GR.out; show _ ≤ _; omega
    have M0 := Lib.hid (BR.out.number GW.out 8 8 rfl (by decide) (by decide) (by have := LL.out; omega) tm B1 N0.out)
    have Y2 := Lib.hid (A3.out.keep _ _ (F3.out.keep _ _ X2.out trivial) trivial)
    have YR := Lib.hid (A3.out.keep _ _ (F3.out.keep _ _ XR.out trivial) trivial)
    clear CE LC U2 hW3 hgr TR R3
    go_wp2_with fail
    (with_reducible refine RC.out.mono ?_)
    rintro e v0 ⟨rfl, rfl⟩
    clear RC
    go_wp2_with fail
    (with_reducible refine M0.out.mono ?_)
    rintro e v1 ⟨rfl, l1, f1⟩
    have Z1 := Lib.hid (f1.keep _ _ Y2.out (by have := GR.out; omega))
    have ZR := Lib.hid (f1.keep _ _ YR.out (by have := GR.out; have := NS.out; omega))
    have M1 := Lib.hid (l1.number GW.out 1 1 rfl (by decide) (by decide) (by have := LL.out; omega) vv B2 N1.out)
    clear M0 l1 f1 Y2 YR
    go_wp2_with fail
    (with_reducible refine M1.out.mono ?_)
    rintro e v2 ⟨rfl, l2, f2⟩
    have L2 := Lib.hid l2
    have Z2 := Lib.hid (f2.keep _ _ Z1.out (by have := GR.out; omega))
    have ZR2 := Lib.hid (f2.keep _ _ ZR.out (by have := GR.out; have := NS.out; omega))
    have p0 := cell_mk (i := 0) Z2.out rfl
    have p1 := cell_mk (i := 1) Z2.out rfl
    have p2 := cell_mk (i := 2) Z2.out rfl
    have p3 := cell_mk (i := 3) Z2.out rfl
    have p4 := cell_mk (i := 4) Z2.out rfl
    have y0 := frozen_mk (i := 0) Z2.out
    have y1 := frozen_mk (i := 1) Z2.out
    have y2 := frozen_mk (i := 2) Z2.out
    have y3 := frozen_mk (i := 3) Z2.out
    have y4 := frozen_mk (i := 4) Z2.out
    obtain ⟨W4, hW4, T4, G4⟩ := set5 Z2.out (.int .u64 (tm : Nat)) (.int .i64 vo) (.int .u64 0) (.int .u64 0) (.slice none 0 0)
    have X4 := Lib.hid T4
    have XS : Hid (∀ i, w.heap.size ≤ i → n ≤ i ∧ ¬ X i) := fun i hi => ⟨Nat.le_trans N0'.out hi, fun k => by have := HX.out _ k; omega⟩
    have L4 := Lib.hid (l2.box Z2.out (by decide) (XS.out _ (Nat.le_of_lt NS.out)).1 (XS.out _ (Nat.le_of_lt NS.out)).2 (by have := GR.out; omega) G4 HX.out (Nat.le_of_lt NS.out))
    have R4 := Lib.hid (G4.keep _ _ ZR2.out (by have := NS.out; omega))
    have M5 := Lib.hid (L4.out.number GW.out 8 8 rfl (by decide) (by decide) (by have := LL.out; omega) ba B3 N2.out)
    clear M1 l2 f2 T4 G4 Z1 ZR
    go_wp2_with fail
    try rw [hW4]
    (with_reducible refine M5.out.mono ?_)
    rintro e v5 ⟨rfl, l5, f5⟩
    have X5 := Lib.hid (f5.keep _ _ X4.out (by have := GR.out; omega))
    have R5 := Lib.hid (f5.keep _ _ R4.out (by have := GR.out; have := NS.out; omega))
    have M6 := Lib.hid (l5.number GW.out 8 8 rfl (by decide) (by decide) (by have := LL.out; omega) bt [] N3.out)
    clear M5 l5 f5 p0 p1 p2 p3 p4 y0 y1 y2 y3 y4 hW4 R4 X4
    go_wp2_with fail
    (with_reducible refine M6.out.mono ?_)
    rintro e v6 ⟨rfl, l6, f6⟩
    have L6 := Lib.hid l6
    have X6 := Lib.hid (f6.keep _ _ X5.out (by have := GR.out; omega))
    have R6 := Lib.hid (f6.keep _ _ R5.out (by have := GR.out; have := NS.out; omega))
    have p2 := cell_mk (i := 2) X6.out rfl
    have p3 := cell_mk (i := 3) X6.out rfl
    have y2 := frozen_mk (i := 2) X6.out
    have y3 := frozen_mk (i := 3) X6.out
    obtain ⟨W7, hW7, T7, G7⟩ := set2m X6.out (.int .u64 (ba : Nat)) (.int .u64 (bt : Nat))
    have X7 := Lib.hid T7
    have R7 := Lib.hid (G7.keep _ _ R6.out (by have := NS.out; omega))
    have L7 := Lib.hid (l6.box X6.out (by decide) (XS.out _ (Nat.le_of_lt NS.out)).1 (XS.out _ (Nat.le_of_lt NS.out)).2 (by have := GR.out; omega) G7 HX.out (Nat.le_of_lt NS.out))
    clear M6 l6 f6 T7 G7 R5 X5
    go_upto_region 9 with fail
    try rw [hW7]
    clear p2 p3 y2 y3 hW7
    have BS : Hid (bk < w.heap.size) := HX.out _ L7.out.km.xb
    have BN : Hid (bk ≠ W1.heap.size) := by have := BS.out; have := NS.out; show _ ≠ _; omega
    have CS : Hid (∀ W, Fr (fun c _ => c ≠ bk) W7 W → W.cell? ⟨W1.heap.size, 2, none⟩ = some (.int .u64 (ba : Nat))) := fun W f => cell_mk (f.keep _ _ X7.out (fun e => BN.out e.symm)) rfl
    have z4 := L7.out.km.cells.2.2.2.2.1
    have z5 := L7.out.km.cells.2.2.2.2.2.1
    have x4 := L7.out.km.cells.2.2.2.2.2.2.2 4
    have x5 := L7.out.km.cells.2.2.2.2.2.2.2 5
    have U7 : Hid (Fr (fun _ _ => True) W7 W7.drew) := (Fr.refl _ _).drew
    obtain ⟨W8, hW8⟩ : ∃ W, ((W7.setCell ⟨bk, 4, none⟩ (.slice a8 25 c8)).setCell ⟨bk, 5, none⟩ (.int .u64 (ba : Nat))) = W := ⟨_, rfl⟩
    have L8 := Lib.hid (L7.out.slot HLB.out ba)
    rw [hW8] at L8
    have F8 : Hid (Fr (fun c _ => c ≠ bk) W7 W8) := hW8 ▸ ((Fr.refl _ _).setCell (fun _ _ h => h rfl) _).setCell (fun _ _ h => h rfl) _
    have X8 := Lib.hid (F8.out.keep _ _ X7.out (fun e => BN.out e.symm))
    have R8 := Lib.hid (F8.out.keep _ _ R7.out (by have := BS.out; omega))
    go_region_held3 (fun W => W.cell? ⟨W1.heap.size, 2, none⟩ = some (.int .u64 (ba : Nat)))
      (first | exact CS.out _ (U7.out.mono fun _ _ _ => trivial) | exact CS.out _ F8.out.drew | exact CS.out _ ((U7.out.mono fun _ _ _ => trivial).setCell (fun _ _ h => h rfl) _) | exact CS.out _ (((U7.out.mono fun _ _ _ => trivial).setCell (fun _ _ h => h rfl) _).setCell (fun _ _ h => h rfl) _))
      (fail)
    all_goals
      try rw [hW8]
      have L9 := Lib.hid (L8.out.tt ((Fr.refl (fun _ _ => True) W8).drew))
      have X9 : Hid (W8.drew.heap[W1.heap.size]? = some (.cells #[.int .u64 (tm : Nat), .int .i64 vo, .int .u64 (ba : Nat), .int .u64 (bt : Nat), .slice none 0 0] 68 (0, 0))) := X8.out
      have R9 : Hid (W8.drew.heap[w.heap.size]? = some (.cells #[.int .u64 0, .int .i64 0, .int .u64 0, .int .u64 0, .slice none 0 0] 68 (0, 0))) := R8.out
      clear z4 z5 x4 x5 CS U7 hW8
      generalize W8.drew = W9 at L9 X9 R9 ⊢
      go_upto_region 10 with fail
      have EC : Hid (∀ W, Fr (fun _ _ => True) W9 W → Calls Tryd.prog 101 #[.pointer (some ⟨gr, 0, none⟩)] W fun e w2 => e = .returned (.int .i64 0) ∧ W = w2) := fun W f => (L9.out.tt f).end'
      have NR : Hid (W1.heap.size ≠ w.heap.size) := by have := NS.out; show _ ≠ _; omega
      have CE : Hid (∀ W, Fr (fun c _ => c ≠ w.heap.size) W9 W → W.cell? ⟨W1.heap.size, 0, none⟩ = some (.int .u64 (tm : Nat)) ∧ W.cell? ⟨W1.heap.size, 1, none⟩ = some (.int .i64 vo) ∧ W.cell? ⟨W1.heap.size, 2, none⟩ = some (.int .u64 (ba : Nat)) ∧ W.cell? ⟨W1.heap.size, 3, none⟩ = some (.int .u64 (bt : Nat)) ∧ W.cell? ⟨W1.heap.size, 4, none⟩ = some (.slice none 0 0)) := fun W f => by
        have t := f.keep _ _ X9.out NR.out
        exact ⟨cell_mk t rfl, cell_mk t rfl, cell_mk t rfl, cell_mk t rfl, cell_mk t rfl⟩
      have U9 : Hid (Fr (fun _ _ => True) W9 W9.drew) := (Fr.refl _ _).drew
      have q0 := cell_mk (i := 0) R9.out rfl
      have q1 := cell_mk (i := 1) R9.out rfl
      have q2 := cell_mk (i := 2) R9.out rfl
      have q3 := cell_mk (i := 3) R9.out rfl
      have q4 := cell_mk (i := 4) R9.out rfl
      have y0 := frozen_mk (i := 0) R9.out
      have y1 := frozen_mk (i := 1) R9.out
      have y2 := frozen_mk (i := 2) R9.out
      have y3 := frozen_mk (i := 3) R9.out
      have y4 := frozen_mk (i := 4) R9.out
      go_region_held3 (fun W => W.cell? ⟨W1.heap.size, 0, none⟩ = some (.int .u64 (tm : Nat)) ∧ W.cell? ⟨W1.heap.size, 1, none⟩ = some (.int .i64 vo) ∧ W.cell? ⟨W1.heap.size, 2, none⟩ = some (.int .u64 (ba : Nat)) ∧ W.cell? ⟨W1.heap.size, 3, none⟩ = some (.int .u64 (bt : Nat)) ∧ W.cell? ⟨W1.heap.size, 4, none⟩ = some (.slice none 0 0))
        (first | exact CE.out _ (U9.out.mono fun _ _ _ => trivial) | exact CE.out _ ((((((U9.out.mono fun _ _ _ => trivial).setCell (fun _ _ h => h rfl) _).setCell (fun _ _ h => h rfl) _).setCell (fun _ _ h => h rfl) _).setCell (fun _ _ h => h rfl) _).setCell (fun _ _ h => h rfl) _))
        ((go_at_call 101; go_must ((with_reducible refine (EC.out _ U9.out).mono ?_); rintro e w9 ⟨rfl, rfl⟩)))
      all_goals
        obtain ⟨WZ, hWZ, TZ, FZ⟩ := set5 R9.out (.int .u64 (tm : Nat)) (.int .i64 vo) (.int .u64 (ba : Nat)) (.int .u64 (bt : Nat)) (.slice none 0 0)
        have p0 := cell_mk (i := 0) TZ rfl
        have p1 := cell_mk (i := 1) TZ rfl
        have p2 := cell_mk (i := 2) TZ rfl
        have p3 := cell_mk (i := 3) TZ rfl
        have p4 := cell_mk (i := 4) TZ rfl
        have FZH := Lib.hid FZ
        have LZ := Lib.hid (L9.out.box R9.out (by decide) (XS.out _ (Nat.le_refl _)).1 (XS.out _ (Nat.le_refl _)).2 (by have := GR.out; have := NS.out; omega) FZ HX.out (Nat.le_refl _))
        clear TZ FZ
        go_wp2
        try rw [hWZ]
        refine bodyPost_ret (v := .tuple #[.agg #[.int .u64 (tm : Nat), .int .i64 vo, .int .u64 (ba : Nat), .int .u64 (bt : Nat), .slice none 0 0], .bool true]) (by simp [results, Tryd.results82, go_sem, *]) rfl ⟨rfl, ⟨a8, c8, ?_⟩, ?_⟩
        · try rw [hWZ]
          exact LZ.out.km.tt ((Fr.refl _ _).drew)
        · try rw [hWZ]
          exact LZ.out.kp.trans (Kp.rfl' X ((Fr.refl _ _).drew))
end Go.Proofs.YtcpbmempfeloaaaDoor
/- Keep: begin, in any case; a new keeper. -/
namespace Go.Proofs.YtcpbmempfeloaaaDoor
open Go.RowKit
set_option linter.unusedVariables false
set_option linter.unusedSimpArgs false

theorem lsAt_kp {P P' : Nat → Prop} {w w' : World} {v : Value} {L : List (List UInt8)} (h : LsAt (fun c _ => ¬ P c) w v L) (k : Kp P P' w w') : LsAt (fun c _ => ¬ P' c) w' v L := by
  have h1 : LsAt (fun c _ => ¬ P c ∧ c < w.heap.size) w v L := h.mono fun c o ho hc => ⟨hc, lt_of_some ho⟩
  exact (h1.fr (k.fr.mono fun c _ hc => hc.1)).mono fun c o _ hc => k.out c hc.2 hc.1
theorem KM.mk0 {n : Nat} {P : Nat → Prop} {w : World} {bj bd : Nat} {ring : Int} {J : Jn} {D : Dk} (hs : St n P w bj bd J D) (hn : n ≤ w.heap.size) :
    KM n (fun c => P c ∨ c = w.heap.size) P (w.alloc (W7 bd bj ring (.slice none 0 0) 0 (.slice none 0 0))) w.heap.size bj bd ring ⟨[], 0, []⟩ J D none 0 (.slice none 0 0) [] := by
  have f : Fr (fun _ _ => True) w (w.alloc (W7 bd bj ring (.slice none 0 0) 0 (.slice none 0 0))) := (Fr.refl _ _).alloc _
  have hz : w.heap.size < (w.alloc (W7 bd bj ring (.slice none 0 0) 0 (.slice none 0 0))).heap.size := lt_of_some (heap_alloc_new w _)
  refine ⟨hs.tt f, heap_alloc_new _ _, fun c hc => .inl hc, .inr rfl, fun k => by have := hs.hi _ k; omega, fun c hc => ?_, fun c hc => ?_, ⟨none, 0, rfl, by simp, by simp, .inl rfl⟩, ⟨rfl, .inl ⟨rfl, rfl⟩⟩, fun c e => (by cases e), rfl, fun r hr => (by cases hr)⟩
  · rcases hc with hc | rfl
    · exact hs.lo c hc
    · exact hn
  · rcases hc with hc | rfl
    · have := hs.hi c hc; omega
    · exact hz
/-- begin, of a keeper that is new. -/
theorem begin_any {n : Nat} {X P : Nat → Prop} {w : World} {bk bj bd : Nat} {ring : Int} {J : Jn} {D : Dk} {a4 : Option Addr} {c4 : Nat} {hv : Value} {rs : List RV} (h : KM n X P w bk bj bd ring ⟨[], 0, []⟩ J D a4 c4 hv rs) (h0 : 0 < n) (hn : n ≤ w.heap.size) (ht : TabOK w) (s0 : Sta) (hs : s0.wf) (hvt : -1 ≤ s0.vote ∧ s0.vote < 255)
    (hld : (∃ mm, loadM D 1 = (headB s0, mm, 0)) ∨ (∃ bb mm, loadM D 1 = (bb, mm, 41)) ∧ s0.term = 0 ∧ s0.vote = -1 ∧ s0.base = 0 ∧ s0.bt = 0) :
    Calls Tryd.prog 82 #[.pointer (some ⟨bk, 0, none⟩)] w fun e w' => e = .returned (.tuple #[vS s0 (.slice none 0 0), .bool true]) ∧ (∃ a4' c4', KM n X P w' bk bj bd ring ⟨headB s0, s0.base, []⟩ J D a4' c4' hv rs) ∧ Kp X X w w' := by
  rcases hld with ⟨mm, hld⟩ | ⟨⟨bb, mm, hld⟩, e1, e2, e3, e4⟩
  · exact (begin_old h h0 hn ht s0 hs hvt mm hld).mono fun e w' hh => hh
  · have e5 : headB s0 = headB zSta := by unfold headB; rw [e1, e2, e3, e4]; rfl
    refine (begin_new h h0 hn ht bb mm hld).mono fun e w' hh => ?_
    unfold vS
    rw [e1, e2, e3, e4, e5]
    exact hh
theorem addE_nil (b : Nat) (es : List En) : addE b es [] = es := rfl
theorem addE_old {b : Nat} {es : List En} {r : Nat × En} {rs : List (Nat × En)} (h : ¬ b < r.1) : addE b es (r :: rs) = addE b es rs := if_neg h
theorem addE_gap {b : Nat} {es : List En} {r : Nat × En} {rs : List (Nat × En)} (h : b < r.1) (h2 : ¬ r.1 = b + es.length + 1) : addE b es (r :: rs) = es := (if_pos h).trans (if_neg h2)
theorem addE_next {b : Nat} {es : List En} {r : Nat × En} {rs : List (Nat × En)} (h : b < r.1) (h2 : r.1 = b + es.length + 1) : addE b es (r :: rs) = addE b (es ++ [r.2]) rs := (if_pos h).trans (if_pos h2)
theorem lastTE_eq (s : Sta) (xs : List EV) (h : s.es = xs.map EV.en) : lastTE s.bt xs = lastT s := by
  unfold lastTE lastT
  rw [h, List.getLast?_map]
  cases xs.getLast? <;> rfl
theorem raise_mk (t : Nat) (v : Int) (b bt : Nat) (es : List En) (l : Nat) (h : lastT ⟨t, v, b, bt, es⟩ = l) : raise ⟨t, v, b, bt, es⟩ = if t < l then ⟨l, -1, b, bt, es⟩ else ⟨t, v, b, bt, es⟩ := by
  unfold raise
  rw [h]
end Go.Proofs.YtcpbmempfeloaaaDoor
