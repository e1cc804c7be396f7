/- Texts of the proofs, part 7: what the functions that they reach do, walked; no conditions beyond those that each states. -/
import Derived.Shelf.Abstract
import Derived.Shelf.RegionOpen
import Derived.OwnWalkIn
import Derived.TacticsInMore
import Derived.LoopNIn
import Derived.LoopIn
import Derived.RegionIn
import Derived.BigRegionIn
import Derived.Test.YtaeonlafcbgpcaaDoorZz86adf02d6f
set_option linter.unusedVariables false
set_option linter.unusedSimpArgs false
/- The references: Number, Of, Sum. -/
namespace Go.Proofs.YtaeonlafcbgpcaaDoor
open Go.RowKit

/-- An append of bytes to a row of the function's own. -/
theorem wpList_append_bytes {K0 : Nat → Obj → Prop} {ops : Array Oper} {rest : List Oper} {o : Oper} {a : Act} {Q : Exit → Act → World → Prop} (W : World) (hgd : o.guard = none) (s x : Operand)
    (ho : o.op = .call { callee := .builtin .append, args := #[s, x], argTypes := #[23, 23] }) (B : Nat) (hB : B ≤ W.heap.size) (v : Value) (n : Nat) (xs : List UInt8) (hs : a.eval s = v) (hown : W.ownsRow B 5 1 v n (xs.map byteV))
    (vx : Value) (bs : List UInt8) (hx : a.eval x = vx) (hb : BytesAt K0 W vx bs) (N : Nat) (r : List UInt8) (hr : xs ++ bs = r) (hN : n + bs.length = N) (hn : N ≤ 2000000)
    (h : ∀ a' c' w', w'.ownsRow B 5 1 (.slice a' N c') N (r.map byteV) → W.grownBy w' v.ownBlock → wpList Tryd.prog ops Q rest (a.put o.dst (.slice a' N c')) w') :
    wpList Tryd.prog ops Q (o :: rest) a W := by
  obtain ⟨i0, hi, hz0, hz1, hz2⟩ := info_parts info_u8
  subst hr hN
  refine wpList_append_src W hgd s x 23 ho B 5 i0 (.int .u8 0) 1 1 Tryd.underlying23 hi hz0 hz1 hz2 rfl (by decide) v n (xs.map byteV) hs hown vx bs.length (bs.map byteV) hx hb.src (by unfold maxLen; omega) (by omega) hB ?_
  intro v' w' h1 h2 _
  rw [← List.map_append] at h1
  have hv' : ∃ a' c', v' = .slice a' (n + bs.length) c' := by
    rcases h1.2 with ⟨rfl, e⟩ | ⟨g, cap, _, rfl, _⟩
    · exact ⟨none, 0, by rw [e]⟩
    · exact ⟨_, _, rfl⟩
  obtain ⟨a', c', rfl⟩ := hv'
  exact h a' c' w' h1 h2

theorem BytesAt.lit' (w : World) (m : UInt8) : BytesAt (New w.heap.size) (w.alloc (.cells #[.int .u8 m.toNat] 5 (0, 0))) (.slice (some ⟨w.heap.size, 0, none⟩) 1 1) [m] := by
  refine ⟨_, 1, rfl, Nat.le_refl _, (fun e => by cases e), .inr ⟨w.heap.size, 0, _, rfl, heap_alloc_new _ _, ⟨Nat.le_refl _, _, _, rfl⟩, fun i hi => ?_⟩⟩
  obtain rfl : i = 0 := by simpa using hi
  exact cell_mk (heap_alloc_new _ _) rfl
theorem own_new {w : World} {B : Nat} {v : Value} {n : Nat} {xs : List Value} {e : TypeId} {s : Nat} (h : w.ownsRow B e s v n xs) : ∀ k, v.ownBlock = some k → B ≤ k := by
  intro k hk
  rcases h.2 with ⟨rfl, _⟩ | ⟨g, cap, _, rfl, hg, _⟩
  · cases hk
  · cases hk; exact hg

/-- A row of bytes of the function's own. -/
def RowB (w : World) (B : Nat) (v : Value) (n : Nat) (bs : List UInt8) : Prop := w.ownsRow B 5 1 v n (bs.map byteV)
/-- The same, told of what was there when a world began. -/
theorem wpList_append_fr {K0 : Nat → Obj → Prop} {ops : Array Oper} {rest : List Oper} {o : Oper} {a : Act} {Q : Exit → Act → World → Prop} (W0 W : World) (hF : Hid (Fr (fun _ _ => True) W0 W)) (hgd : o.guard = none) (s x : Operand)
    (ho : o.op = .call { callee := .builtin .append, args := #[s, x], argTypes := #[23, 23] }) (v : Value) (n : Nat) (xs : List UInt8) (hs : a.eval s = v) (hown : Hid (RowB W W0.heap.size v n xs))
    (vx : Value) (bs : List UInt8) (hx : a.eval x = vx) (hb : Hid (BytesAt K0 W vx bs)) (N : Nat) (r : List UInt8) (hr : Hid (xs ++ bs = r)) (hN : Hid (n + bs.length = N)) (hn : N ≤ 2000000)
    (h : ∀ a' c' w', Hid (RowB w' W0.heap.size (.slice a' N c') N r) → Hid (Fr (fun _ _ => True) W0 w') → wpList Tryd.prog ops Q rest (a.put o.dst (.slice a' N c')) w') :
    wpList Tryd.prog ops Q (o :: rest) a W :=
  wpList_append_bytes W hgd s x ho W0.heap.size hF.out.size v n xs hs hown.out vx bs hx hb.out N r hr.out hN.out hn fun a' c' w' h1 h2 => h a' c' w' h1 (hF.out.grown_new h2 (own_new hown.out))
theorem own_tt {w w' : World} {B : Nat} {v : Value} {n : Nat} {xs : List Value} {e : TypeId} {s : Nat} (h : w.ownsRow B e s v n xs) (hf : Fr (fun _ _ => True) w w') : w'.ownsRow B e s v n xs := ownsRow_fr h hf fun _ _ _ _ => trivial
theorem RowB.tt {w w' : World} {B : Nat} {v : Value} {n : Nat} {bs : List UInt8} (h : RowB w B v n bs) (hf : Fr (fun _ _ => True) w w') : RowB w' B v n bs := own_tt h hf
theorem BytesAt.of_own {w : World} {B : Nat} {v : Value} {n : Nat} {bs : List UInt8} (h : RowB w B v n bs) (hn : bs.length = n) : BytesAt (New B) w v bs := by
  subst hn; exact BytesAt.of_owns h

set_option maxRecDepth 100000 in
set_option maxHeartbeats 1000000 in
theorem num01_calls (w : World) (n : Nat) (size : Nat) (nz sz : Int) (hnz : nz = n) (hsz : sz = size) (h8 : size ≤ 8) (hn : n < 18446744073709551616) :
    Calls Tryd.prog 42 #[.int .u64 nz, .int .i64 sz] w fun e w' => (∃ a c, e = .returned (.slice a size c) ∧ RowB w' w.heap.size (.slice a size c) size (le n size)) ∧ Fr (fun _ _ => True) w w' := by
  subst hnz hsz
  have h8' : (size : Int) ≤ 8 := by omega
  go_enter Tryd.func42, Tryd.ntmps42
  go_wp2
  go_loopw [0, 5, 6] (fun nn out i wr => ∃ (k q : Nat) (a : Option Addr) (c : Nat), k ≤ size ∧ i = .int .i64 k ∧ nn = .int .u64 (q : Nat) ∧ q = n / 256 ^ k ∧ out = .slice a k c ∧ wr.ownsRow w.heap.size 5 1 (.slice a k c) k ((le n k).map byteV) ∧ Fr (fun _ _ => True) w wr) (fun _ _ i _ => size - (intOf i).toNat)
  case atStart => exact ⟨0, n, none, 0, Nat.zero_le _, rfl, rfl, by simp, rfl, ⟨rfl, .inl ⟨rfl, rfl⟩⟩, Fr.refl _ _⟩
  case round =>
    obtain ⟨k, q, a, c, hk, rfl, rfl, hq, rfl, ho, hf⟩ := hrel
    have hql : q < 18446744073709551616 := by rw [hq]; exact Nat.lt_of_le_of_lt (Nat.div_le_self _ _) hn
    have HQ := Lib.hid hq
    have HO := Lib.hid ho
    have HF := Lib.hid hf
    clear hq ho hf
    by_cases hlt : k < size
    · have e1 : (q : Int) % 256 = ((UInt8.ofNat q).toNat : Nat) := by rw [UInt8.toNat_ofNat']; omega
      have e2 := Lib.hid e1
      have e3 : ((UInt8.ofNat q).toNat : Int) % 256 = ((UInt8.ofNat q).toNat : Nat) := by have := (UInt8.ofNat q).toNat_lt; omega
      have HL := Lib.hid (le_snoc n k)
      have hm : (UInt8.ofNat q).toNat < 256 := (UInt8.ofNat q).toNat_lt
      generalize hmm : UInt8.ofNat q = m at e1 e2 e3 hm
      have HM := Lib.hid hmm
      clear hmm
      go_wp2_with (at_builtin; refine wpList_append_bytes _ rfl _ _ rfl w.heap.size ?c1 _ k (le n k) rfl (HO.out.alloc _) _ [m] rfl (BytesAt.lit' wr m) (k + 1) (le n (k + 1)) ?c2 rfl ?c3 ?_)
      case c1 => have := HF.out.size; simp; omega
      case c2 => rw [HL.out, ← HQ.out, HM.out]
      case c3 => omega
      intro a1 c1 w1 o1 g1
      have O1 := Lib.hid o1
      have F1 := Lib.hid ((HF.out.alloc _).grown_new g1 (own_new HO.out))
      clear o1 g1
      go_wp2
      go_roundw
      case rel => exact ⟨k + 1, q / 256, a1, c1, by omega, by go_num, by go_num, by rw [HQ.out, Nat.div_div_eq_div_mul, Nat.pow_succ], rfl, O1.out, F1.out⟩
      case measure => simp [intOf]; omega
    · obtain rfl : k = size := by omega
      go_wp2
      go_ret
      exact ⟨⟨a, c, rfl, HO.out⟩, HF.out⟩
end Go.Proofs.YtaeonlafcbgpcaaDoor
/- Package vault: Load. -/
namespace Go.Proofs.YtaeonlafcbgpcaaDoor
open Go.RowKit
set_option linter.unusedVariables false

theorem quiet_eqV {P : Program} {f : FuncId} {args : Array Value} {w : World} {n : Nat} {v : Value}
    (h : Calls P f args (w.drewN n) fun e w' => e = .returned v ∧ w.drewN n = w') : Calls P f args (w.drewN n) fun e w'' => e = .returned v ∧ ∃ m, w'' = w.drewN m :=
  h.mono fun _ _ ⟨he, hm⟩ => ⟨he, n, hm.symm⟩
/-- What is collected out of i sectors. -/
def vcol (D : Dk) (base num size : Nat) : Nat → Option (List UInt8)
  | 0 => some []
  | i + 1 => match vcol D base num size i with
    | some out => match parseP (D.seen.getD (base + i) []) with
      | some (s, p, c) => if s = i + 1 ∧ p = num ∧ c.length = min 43 (size - out.length) then some (out ++ c) else none
      | none => none
    | none => none
theorem vcol_none {D : Dk} {base num size i : Nat} (h : vcol D base num size i = none) : ∀ m, vcol D base num size (i + m) = none
  | 0 => h
  | m + 1 => by
    show vcol D base num size (i + m + 1) = none
    rw [vcol, vcol_none h m]
theorem vcol_len {D : Dk} {base num size : Nat} : ∀ {i : Nat} {out : List UInt8}, vcol D base num size i = some out → out.length ≤ 43 * i
  | 0, out, h => by cases h; decide
  | i + 1, out, h => by
    rw [vcol] at h
    cases hv : vcol D base num size i with
    | none => rw [hv] at h; cases h
    | some o =>
      rw [hv] at h
      have ih := vcol_len hv
      cases hp : parseP (D.seen.getD (base + i) []) with
      | none => rw [hp] at h; cases h
      | some x =>
        rw [hp] at h
        obtain ⟨s, p, c⟩ := x
        simp only at h
        split at h
        · rename_i hc
          cases h
          rw [List.length_append]
          omega
        · cases h
/-- An append of bytes: a mark beside it stays. -/
theorem wpList_append_fv {K0 : Nat → Obj → Prop} {ops : Array Oper} {rest : List Oper} {o : Oper} {a : Act} {Q : Exit → Act → World → Prop} (W0 : World) (bm : Nat) (W : World) (hF : Hid (Fr (fun _ _ => True) W0 W)) {cm : Array Value} (hM : Hid (W.heap[bm]? = some (.cells cm 111 (0, 0)))) (hgd : o.guard = none) (s x : Operand)
    (ho : o.op = .call { callee := .builtin .append, args := #[s, x], argTypes := #[23, 23] }) (v : Value) (n : Nat) (xs : List UInt8) (hs : a.eval s = v) (hown : Hid (RowB W W0.heap.size v n xs))
    (vx : Value) (bs : List UInt8) (hx : a.eval x = vx) (hb : Hid (BytesAt K0 W vx bs)) (N : Nat) (r : List UInt8) (hr : Hid (xs ++ bs = r)) (hN : Hid (n + bs.length = N)) (hn : N ≤ 2000000)
    (h : ∀ a' c' w', Hid (RowB w' W0.heap.size (.slice a' N c') N r) → Hid (Fr (fun _ _ => True) W0 w') → Hid (w'.heap[bm]? = some (.cells cm 111 (0, 0))) → wpList Tryd.prog ops Q rest (a.put o.dst (.slice a' N c')) w') :
    wpList Tryd.prog ops Q (o :: rest) a W :=
  wpList_append_bytes W hgd s x ho W0.heap.size hF.out.size v n xs hs hown.out vx bs hx hb.out N r hr.out hN.out hn fun a' c' w' h1 h2 => h a' c' w' h1 (hF.out.grown_new h2 (own_new hown.out)) (grown_block h2 hM.out fun e => by
    obtain ⟨cur, hc⟩ := own_tag hown.out e
    rw [hM.out] at hc
    cases hc)
/-- What Load answers. -/
def vload (D : Dk) (i n : Int) : List UInt8 × Int :=
  if vright D i n ≠ 0 then ([], vright D i n) else
    if (readV D i).2.2.2 = false ∨ vroom n < ((readV D i).2.2.1 : Nat) then ([], 41) else
      match vcol D (i.toNat + 2 + (readV D i).1 * n.toNat) (readV D i).2.1 (readV D i).2.2.1 (((readV D i).2.2.1 + 42) / 43) with
      | some out => (out, 0)
      | none => ([], 41)

set_option maxRecDepth 100000 in
theorem vload_no (w : World) (bd : Nat) (F : Nat → Prop) (D : Dk) (i n : Int) (h : Dsk w bd F D) (hr : vright D i n ≠ 0) :
    Calls Tryd.prog 34 #[.pointer (some ⟨bd, 0, none⟩), .int .i64 i, .int .i64 n] w fun e w' => e = .returned (.tuple #[.slice none 0 0, .int .i64 (vright D i n)]) ∧ w = w' := by
  have HC := Lib.hid (vright_calls w bd F D i n h)
  have hr' : (vright D i n != 0) = true := by simpa using hr
  generalize vright D i n = c at HC hr'
  clear h hr
  go_enter Tryd.func34, Tryd.ntmps34
  go_wp2_with fail
  (with_reducible refine HC.out.mono ?_)
  rintro e w1 ⟨rfl, rfl⟩
  go_wp2
  go_ret2
  exact ⟨rfl, rfl⟩

set_option maxRecDepth 100000 in
set_option maxHeartbeats 4000000 in
theorem vload_main (w : World) (bd : Nat) (F : Nat → Prop) (D : Dk) (k N : Nat) (h : Dsk w bd F D) (ht : TabOK w) (a num size : Nat) (ok : Bool) (hrd : readV D k = (a, num, size, ok)) (hN1 : 1 ≤ N) (hN2 : N ≤ 24) (hkN : k + 2 + 2 * N ≤ D.sure.length) (hr0 : vright D k N = 0) (r : List UInt8) (c : Int)
    (hres : (if ok = false ∨ vroom N < (size : Nat) then (([] : List UInt8), (41 : Int)) else match vcol D (k + 2 + a * N) num size ((size + 42) / 43) with | some out => (out, 0) | none => ([], 41)) = (r, c)) :
    Calls Tryd.prog 34 #[.pointer (some ⟨bd, 0, none⟩), .int .i64 (k : Nat), .int .i64 (N : Nat)] w fun e w' => (∃ q cap, e = .returned (.tuple #[.slice q r.length cap, .int .i64 c]) ∧ BytesAt (New w.heap.size) w' (.slice q r.length cap) r) ∧ Fr (fun _ _ => True) w w' := by
  have rc := vright_calls w bd F D k N h
  rw [hr0] at rc
  have RC := Lib.hid rc
  obtain ⟨ha, hnum, hsz⟩ := readV_bd hrd
  have VR := Lib.hid (vread_calls w bd F D k h ht a num size ok hrd)
  have HD := Lib.hid h
  have HT := Lib.hid ht
  have hmax := h.wf.max
  have hlen := h.wf.len
  have HLEN := Lib.hid hlen
  have HRES := Lib.hid hres
  obtain ⟨vr, hvr⟩ : ∃ vr, vroom N = vr := ⟨_, rfl⟩
  have vrb : vr ≤ 1000 ∧ 0 ≤ vr := by rw [← hvr]; exact ⟨(vroom_bd N).2, (vroom_bd N).1⟩
  have vrN : vr ≤ 43 * N := by rw [← hvr]; unfold vroom; omega
  have RM := room_calls
  have HVR := Lib.hid hvr
  clear h ht rc hr0 hrd hlen hres hvr RM
  cases ok with
  | false =>
    have EQ : Hid ((([] : List UInt8), (41 : Int)) = (r, c)) := by have := HRES.out; rw [if_pos (.inl rfl)] at this; exact this
    clear HRES
    go_enter Tryd.func34, Tryd.ntmps34
    go_wp2_with fail
    (with_reducible refine RC.out.mono ?_)
    rintro e w1 ⟨rfl, rfl⟩
    go_wp2_with fail
    (with_reducible refine VR.out.mono ?_)
    rintro e w2 ⟨rfl, f2⟩
    have F2 := Lib.hid f2
    clear f2
    go_wp2
    go_quiet (fail)
    go_wp2
    go_ret2
    have eq := EQ.out
    simp only [Prod.mk.injEq] at eq
    obtain ⟨rfl, rfl⟩ := eq
    exact ⟨⟨none, 0, rfl, BytesAt.nil _ _⟩, (F2.out.alloc _).drewN _⟩
  | true =>
    have hrc := RC
    by_cases hvs : vr < (size : Nat)
    · have EQ : Hid ((([] : List UInt8), (41 : Int)) = (r, c)) := by have := HRES.out; rw [if_pos (.inr (by rw [HVR.out]; exact hvs))] at this; exact this
      have RM : Hid (∀ W : World, Calls Tryd.prog 63 #[.int .i64 (N : Nat)] W fun e w' => e = .returned (.int .i64 vr) ∧ W = w') := fun W => by rw [← HVR.out]; exact room_calls W N
      clear HRES
      go_enter Tryd.func34, Tryd.ntmps34
      go_wp2_with fail
      (with_reducible refine RC.out.mono ?_)
      rintro e w1 ⟨rfl, rfl⟩
      go_wp2_with fail
      (with_reducible refine VR.out.mono ?_)
      rintro e w2 ⟨rfl, f2⟩
      have F2 := Lib.hid f2
      clear f2
      go_wp2_with fail
      go_quiet ((go_at_call 63; exact quiet_eqV (RM.out _)))
      go_wp2
      go_ret2
      have eq := EQ.out
      simp only [Prod.mk.injEq] at eq
      obtain ⟨rfl, rfl⟩ := eq
      exact ⟨⟨none, 0, rfl, BytesAt.nil _ _⟩, (F2.out.alloc _).drewN _⟩
    · have hvs' : (size : Int) ≤ vr := by omega
      have hsN : size ≤ 43 * N := by omega
      obtain ⟨aN, haN⟩ : ∃ aN, a * N = aN := ⟨_, rfl⟩
      have haN1 : aN ≤ N := by rw [← haN]; exact Nat.le_trans (Nat.mul_le_mul_right N ha) (by omega)
      have am : ((a : Nat) : Int) * ((N : Nat) : Int) = ((aN : Nat) : Int) := by rw [← haN]; exact (Int.natCast_mul a N).symm
      have res := HRES.out
      rw [if_neg (by rw [HVR.out]; simp; omega), haN] at res
      have RES := Lib.hid res
      obtain ⟨base, hbase⟩ : ∃ base, k + 2 + aN = base := ⟨_, rfl⟩
      rw [hbase] at RES
      have RM : Hid (∀ W : World, Calls Tryd.prog 63 #[.int .i64 (N : Nat)] W fun e w' => e = .returned (.int .i64 vr) ∧ W = w') := fun W => by rw [← HVR.out]; exact room_calls W N
      have HBASE := Lib.hid hbase
      clear HRES res hrc haN hbase
      go_enter Tryd.func34, Tryd.ntmps34
      go_wp2_with fail
      (with_reducible refine RC.out.mono ?_)
      rintro e w1 ⟨rfl, rfl⟩
      go_wp2_with fail
      (with_reducible refine VR.out.mono ?_)
      rintro e w2 ⟨rfl, f2⟩
      have TOP := Lib.hid (heap_alloc_new w2 (.cells #[.int .i64 (a : Nat), .int .u32 (num : Nat), .int .i64 (size : Nat)] 111 (0, 0)))
      have F3 := Lib.hid (f2.alloc (.cells #[.int .i64 (a : Nat), .int .u32 (num : Nat), .int .i64 (size : Nat)] 111 (0, 0)))
      have s2 : w.heap.size ≤ w2.heap.size := f2.size
      clear f2
      go_wp2_with fail
      generalize w2.alloc (.cells #[.int .i64 (a : Nat), .int .u32 (num : Nat), .int .i64 (size : Nat)] 111 (0, 0)) = w3 at TOP F3 ⊢
      have m2 := cell_mk (i := 2) TOP.out rfl
      go_quiet ((go_at_call 63; exact quiet_eqV (RM.out _)))
      have TOP4 := Lib.hid (((Fr.refl (fun _ _ => True) w3).drewN nq).keep _ _ TOP.out trivial)
      have F4 := Lib.hid (F3.out.drewN nq)
      clear m2
      generalize w3.drewN nq = w4 at TOP4 F4 ⊢
      go_wp2
      go_loopw [11, 12] (fun v i wr => ∃ (j : Nat) (out : List UInt8) (q : Option Addr) (cp : Nat), 43 * j < size + 43 ∧ i = .int .i64 j ∧ v = .slice q out.length cp ∧ Hid (vcol D base num size j = some out) ∧ Hid (RowB wr w.heap.size (.slice q out.length cp) out.length out) ∧ Hid (Fr (fun _ _ => True) w wr) ∧ Hid (wr.heap[w2.heap.size]? = some (.cells #[.int .i64 (a : Nat), .int .u32 (num : Nat), .int .i64 (size : Nat)] 111 (0, 0)))) (fun _ i _ => size + 43 - 43 * (intOf i).toNat)
      case atStart => exact ⟨0, [], none, 0, by omega, rfl, rfl, rfl, World.ownsRow_nil _ _ _ _, F4, TOP4⟩
      case round =>
        obtain ⟨j, out, q, cp, hj, rfl, rfl, VC, RW, FJ, TJ⟩ := hrel
        have m0 := cell_mk (i := 0) TJ.out rfl
        have m1 := cell_mk (i := 1) TJ.out rfl
        have m2 := cell_mk (i := 2) TJ.out rfl
        have hol := vcol_len VC.out
        by_cases hlt : j * 43 < size
        · have hltI : (j : Int) * 43 < size := by omega
          have hjN : j < N := by omega
          have FAIL : Hid (vcol D base num size (j + 1) = none → (r, c) = ([], 41)) := fun hv => by
            have h1 := vcol_none hv ((size + 42) / 43 - (j + 1))
            rw [show j + 1 + ((size + 42) / 43 - (j + 1)) = (size + 42) / 43 by omega] at h1
            have := RES.out
            rw [h1] at this
            exact this.symm
          have hrng : base + j < D.seen.length := by have := HLEN.out; have := HBASE.out; omega
          have RD := read_in wr bd F D (base + j) ((k : Int) + 2 + aN + j) (by have := HBASE.out; omega) (HD.out.tt FJ.out) hrng
          have hg : D.seen[base + j] = D.seen.getD (base + j) [] := by simp [List.getD, hrng]
          rw [hg] at RD
          have RD := Lib.hid RD
          have VS : Hid (vcol D base num size (j + 1) = match parseP (D.seen.getD (base + j) []) with | some (s, p, x) => if s = j + 1 ∧ p = num ∧ x.length = min 43 (size - out.length) then some (out ++ x) else none | none => none) := by
            show vcol D base num size (j + 1) = _
            rw [vcol, VC.out]
          generalize D.seen.getD (base + j) [] = sec at RD VS
          clear hg hrng
          go_wp2_with fail
          (with_reducible refine RD.out.mono ?_)
          rintro e w5 ⟨⟨a5, c5, rfl, b5⟩, f5⟩
          have F5 := Lib.hid (FJ.out.trans f5)
          have T5 := Lib.hid (f5.keep _ _ TJ.out trivial)
          have RW5 := Lib.hid (RW.out.tt f5)
          have PC := Lib.hid (parse_calls w5 _ sec b5 (HT.out.tt F5.out))
          clear b5 f5 RD m0 m1 m2 RW TJ
          go_wp2_with fail
          (with_reducible refine PC.out.mono ?_)
          rintro e w6 ⟨(⟨hp, rfl⟩ | ⟨s, p, x, a6, c6, hp, rfl, b6⟩), f6⟩
          · have hv : vcol D base num size (j + 1) = none := by rw [VS.out, hp]
            have EQ := Lib.hid (FAIL.out hv)
            have F6 := Lib.hid (F5.out.trans f6)
            clear f6 hp hv PC
            go_wp2
            go_ret2
            have eq := EQ.out
            simp only [Prod.mk.injEq] at eq
            obtain ⟨rfl, rfl⟩ := eq
            exact ⟨⟨none, 0, rfl, BytesAt.nil _ _⟩, F6.out⟩
          · obtain ⟨hs0, hs1, hp1, hx43⟩ := parseP_pos hp
            have VS2 : Hid (vcol D base num size (j + 1) = if s = j + 1 ∧ p = num ∧ x.length = min 43 (size - out.length) then some (out ++ x) else none) := by
              show _ = _
              rw [VS.out, hp]
            have F6 := Lib.hid (F5.out.trans f6)
            have T6 := Lib.hid (f6.keep _ _ T5.out trivial)
            have RW6 := Lib.hid (RW5.out.tt f6)
            have B6 := Lib.hid b6
            have m1 := cell_mk (i := 1) T6.out rfl
            have m2 := cell_mk (i := 2) T6.out rfl
            clear f6 b6 hp PC T5 RW5 F5
            by_cases q1 : s = j + 1
            · have d1 : (((s : Nat) : Int) != (j : Int) + 1) = false := by simp; omega
              by_cases q2 : p = num
              · have d2 : (((p : Nat) : Int) != ((num : Nat) : Int)) = false := by simp; omega
                by_cases q4 : 43 ≤ size - out.length
                · have q4' : (43 : Int) ≤ (size : Int) - out.length := by omega
                  by_cases q3 : x.length = 43
                  · have d3 : ((x.length : Int) != 43) = false := by simp; omega
                    have V1 : Hid (vcol D base num size (j + 1) = some (out ++ x)) := by show _ = _; rw [VS2.out, if_pos ⟨q1, q2, by omega⟩]
                    have hno : (out ++ x).length ≤ 2000000 := by rw [List.length_append]; omega
                    have LA : Hid (out.length + x.length = (out ++ x).length) := by show _ = _; rw [List.length_append]
                    clear q1 q2 q3
                    go_wp2_with (at_builtin; refine wpList_append_fv w w2.heap.size _ F6 T6 rfl _ _ rfl _ out.length out rfl RW6 _ x rfl B6 (out ++ x).length (out ++ x) rfl LA hno ?_)
                    intro q7 c7 w7 RW7 F7 T7
                    clear m1 m2
                    go_wp2
                    go_roundw
                    case rel => exact ⟨j + 1, out ++ x, q7, c7, by omega, by go_num, by rw [List.length_append], V1, by rw [List.length_append]; exact RW7, F7, T7⟩
                    case measure => simp [intOf]; omega
                  · have d3 : ((x.length : Int) != 43) = true := by simp; omega
                    have EQ := Lib.hid (FAIL.out (by rw [VS2.out, if_neg (by omega)]))
                    clear q1 q2 q3
                    go_wp2
                    go_ret2
                    have eq := EQ.out
                    simp only [Prod.mk.injEq] at eq
                    obtain ⟨rfl, rfl⟩ := eq
                    exact ⟨⟨none, 0, rfl, BytesAt.nil _ _⟩, F6.out⟩
                · have q4' : (size : Int) - out.length < 43 := by omega
                  by_cases q3 : x.length = size - out.length
                  · have d3 : ((x.length : Int) != (size : Int) - out.length) = false := by simp; omega
                    have V1 : Hid (vcol D base num size (j + 1) = some (out ++ x)) := by show _ = _; rw [VS2.out, if_pos ⟨q1, q2, by omega⟩]
                    have hno : (out ++ x).length ≤ 2000000 := by rw [List.length_append]; omega
                    have LA : Hid (out.length + x.length = (out ++ x).length) := by show _ = _; rw [List.length_append]
                    clear q1 q2 q3
                    go_wp2_with (at_builtin; refine wpList_append_fv w w2.heap.size _ F6 T6 rfl _ _ rfl _ out.length out rfl RW6 _ x rfl B6 (out ++ x).length (out ++ x) rfl LA hno ?_)
                    intro q7 c7 w7 RW7 F7 T7
                    clear m1 m2
                    go_wp2
                    go_roundw
                    case rel => exact ⟨j + 1, out ++ x, q7, c7, by omega, by go_num, by rw [List.length_append], V1, by rw [List.length_append]; exact RW7, F7, T7⟩
                    case measure => simp [intOf]; omega
                  · have d3 : ((x.length : Int) != (size : Int) - out.length) = true := by simp; omega
                    have EQ := Lib.hid (FAIL.out (by rw [VS2.out, if_neg (by omega)]))
                    clear q1 q2 q3
                    go_wp2
                    go_ret2
                    have eq := EQ.out
                    simp only [Prod.mk.injEq] at eq
                    obtain ⟨rfl, rfl⟩ := eq
                    exact ⟨⟨none, 0, rfl, BytesAt.nil _ _⟩, F6.out⟩
              · have d2 : (((p : Nat) : Int) != ((num : Nat) : Int)) = true := by simp; omega
                have EQ := Lib.hid (FAIL.out (by rw [VS2.out, if_neg (by omega)]))
                clear q1 q2
                go_wp2
                go_ret2
                have eq := EQ.out
                simp only [Prod.mk.injEq] at eq
                obtain ⟨rfl, rfl⟩ := eq
                exact ⟨⟨none, 0, rfl, BytesAt.nil _ _⟩, F6.out⟩
            · have d1 : (((s : Nat) : Int) != (j : Int) + 1) = true := by simp; omega
              have EQ := Lib.hid (FAIL.out (by rw [VS2.out, if_neg (by omega)]))
              clear q1
              go_wp2
              go_ret2
              have eq := EQ.out
              simp only [Prod.mk.injEq] at eq
              obtain ⟨rfl, rfl⟩ := eq
              exact ⟨⟨none, 0, rfl, BytesAt.nil _ _⟩, F6.out⟩
        · have hge : (size : Int) ≤ (j : Int) * 43 := by omega
          have EQ : Hid ((out, (0 : Int)) = (r, c)) := by
            have := RES.out
            rw [show (size + 42) / 43 = j by omega, VC.out] at this
            exact this
          go_wp2
          go_ret2
          have eq := EQ.out
          simp only [Prod.mk.injEq] at eq
          obtain ⟨rfl, rfl⟩ := eq
          exact ⟨⟨q, cp, rfl, BytesAt.of_own RW.out rfl⟩, FJ.out⟩
end Go.Proofs.YtaeonlafcbgpcaaDoor
/- A range over a function whose rounds are handed what lies in memory, and may return: a contract that tells of the world, and the law of the statement. -/
namespace Go.Proofs.YtaeonlafcbgpcaaDoor
open Go.RowKit

/-- An iterator: it hands out xs, one behind the other, each in a world where T tells of it; a round keeps the blocks B, or it is the last one. -/
def SeqX {α : Type} (F : Fence) (n : Nat) (P : Program) (g : Nat) (lb : Array Value) (encs : α → Array Value) (T : List α → α → World → Prop) (B : Nat → Prop) (S : List α → Prop) (w : World) : Prop :=
  ∀ (l : Nat) (J Jx : List α → World → Prop) (W : World), Fr (fun _ _ => True) w W → (∀ pre A A', J pre A → Fr (fun _ _ => True) A A' → J pre A') →
    (∀ pre x W1, J pre W1 → T pre x W1 → YieldAt F (n - 1) P l (encs x) W1 fun e W' => (e = .returned (.bool true) ∧ J (pre ++ [x]) W' ∧ Fr (fun c _ => B c) W1 W') ∨ (e = .returned (.bool false) ∧ Jx (pre ++ [x]) W')) →
    J [] W → CallsIn F n P g (#[.func (.yield l) #[] #[]] ++ lb) W fun e W' => (∃ v, e = .returned v) ∧ ((∃ xs, S xs ∧ J xs W') ∨ ∃ pre, Jx pre W')

def roundEndX {α : Type} (B : Nat → Prop) (I Ix : List α → World → Prop) (xs : List α) (W : World) : Exit → Act → World → Prop
  | .normal, _, W' => Fr (fun c _ => B c) W W' ∧ I xs W'
  | .ret, _, W' => Fr (fun c _ => B c) W W' ∧ Ix xs W'
  | _, _, _ => False

theorem wpIn_rangeX {F : Fence} {n : Nat} {P : Program} {α : Type} {g : Operand} {ps : Array Tmp} {assign body : Code} {Q : Exit → Act → World → Prop} {a : Act} {w : World}
    (hro : F.round = none) (h1 : 1 ≤ n) {gf : Nat} {lb : Array Value} (hg : a.eval g = .func (.func gf) #[] lb) (hFg : F.fn gf) (eg : ∀ args w, (callFunc gf args).run P w = .ok (.enter gf args) w)
    {encs : α → Array Value} {T : List α → α → World → Prop} {B : Nat → Prop} {S : List α → Prop} (hseq : SeqX F (n - 1) P gf lb encs T B S w) (hB0 : B w.heap.size) (hB1 : B (w.heap.size + 1))
    (hps : ∀ x, (encs x).size = ps.size)
    (I Ix : List α → World → Prop) (hI : ∀ xs A A', I xs A → Fr KC A A' → I xs A') (hIx : ∀ xs A A', Ix xs A → Fr KC A A' → Ix xs A') (h0 : I [] w) (Ax : α → World → Act → World → Prop)
    (hassign : ∀ (l : Nat) (x : α) (W : World) (K : Act → World → Prop), (∀ a' W', Ax x W a' W' → Fr (fun _ _ => True) W W' → K a' W') →
      assign.wpIn (F.inRound l) (n - 1 - 1) P (Exit.then K (fun _ _ _ => False)) { tmps := (ps.zip (encs x)).foldl (fun t (p, v) => t.setIfInBounds p v) a.tmps, defers := [] } W)
    (hbody : ∀ (l : Nat) (pre : List α) (x : α) (W : World) (a' : Act) (W' Wb : World), w.heap.size + 2 ≤ W.heap.size → Fr (fun c _ => B c) w W → I pre W → T pre x W → Ax x W a' W' → Fr (fun _ _ => True) W W' → Fr KC W' Wb → body.wpIn (F.inRound l) (n - 1 - 1) P (roundEndX B I Ix (pre ++ [x]) Wb) a' Wb)
    (hdone : ∀ (D : Nat) (xs : List α) (W : World), w.heap.size ≤ D → D ≤ w.heap.size → S xs → I xs W → W.heap[D]? = some (.deferred (some [])) → Fr (fun c _ => B c) w W → Q .normal { a with defers := { target := .collected D, args := #[] } :: a.defers } W)
    (hstop : ∀ (D : Nat) (xs : List α) (W : World), w.heap.size ≤ D → D ≤ w.heap.size → Ix xs W → W.heap[D]? = some (.deferred (some [])) → Fr (fun c _ => B c) w W → Code.ret.wpIn F n P Q { a with defers := { target := .collected D, args := #[] } :: a.defers } W) :
    (Code.rangeFunc g ps assign body).wpIn F n P Q a w := by
  refine wpIn_rangeFunc ?_
  intro fn hfn
  rw [hro]
  obtain ⟨rec, hrec⟩ : ∃ rec : LoopState → Option Code → Loop, rec = fun st pe => { state := st, pending := pe, fn, tmps := a.tmps, params := ps, assign, body, defers := w.heap.size } := ⟨_, rfl⟩
  obtain ⟨W1, hW1⟩ : ∃ W1, (w.alloc (.deferred (some []))).alloc (.loop (rec .ready none)) = W1 := ⟨_, rfl⟩
  have hF1 : Fr (fun _ _ => True) w W1 := by rw [← hW1]; exact ((Fr.refl _ _).alloc _).alloc _
  have hL1 : W1.heap[w.heap.size + 1]? = some (.loop (rec .ready none)) := by
    rw [← hW1]; have := World.alloc_heap_new (w.alloc (.deferred (some []))) (.loop (rec .ready none)); rwa [World.size_alloc] at this
  have hK1 : W1.heap[w.heap.size]? = some (.deferred (some [])) := by
    rw [← hW1]; exact (Below.heap_alloc _ _ _ (by simp)).trans (World.alloc_heap_new w _)
  refine ⟨w.heap.size + 1, [{ target := .collected w.heap.size, args := #[] }], W1, { target := .fn (.func gf) lb, args := #[.func (.yield (w.heap.size + 1)) #[] #[]] }, W1, gf,
    #[.func (.yield (w.heap.size + 1)) #[] #[]] ++ lb, W1, ?_, ?_, ?_, ?_, fun _ => h1, ?_⟩
  · rw [← hW1, hrec]; exact run_enterLoop_outer _ _ _ _ _
  · simp only [resolve, hg]
    simp [go_sem]
  · intro f' hf'; simp [Target.leads] at hf'; subst hf'; exact hFg
  · simp [invoke, go_sem, eg]
  · refine (hseq (w.heap.size + 1)
      (fun pre W => I pre W ∧ W.heap[w.heap.size + 1]? = some (.loop (rec .ready none)) ∧ W.heap[w.heap.size]? = some (.deferred (some [])) ∧ Fr (fun c _ => B c) w W)
      (fun pre W => Ix pre W ∧ W.heap[w.heap.size + 1]? = some (.loop (rec .done (some .ret))) ∧ W.heap[w.heap.size]? = some (.deferred (some [])) ∧ Fr (fun c _ => B c) w W)
      W1 hF1 (fun pre A A' hj hf => ⟨hI _ _ _ hj.1 (hf.mono fun _ _ _ => trivial), hf.keep _ _ hj.2.1 trivial, hf.keep _ _ hj.2.2.1 trivial, hj.2.2.2.trans (hf.mono fun _ _ _ => trivial)⟩)
      ?_ ⟨hI _ _ _ h0 (hF1.mono fun _ _ _ => trivial), hL1, hK1, hF1.mono fun _ _ _ => trivial⟩).mono ?_
    · rintro pre x W ⟨hi, hl, hk, hfw⟩ ht
      have hy := run_yield (P := P) (args := encs x) hl (by rw [hrec]; exact hps x)
      rw [hrec] at hy
      refine ⟨fn, _, assign, body, hy, roundIn_of_wpIn hfn (hassign _ x W _ ?_)⟩
      intro a' Wa hax hfa
      have hla := hfa.keep _ _ hl trivial
      have hka := hfa.keep _ _ hk trivial
      have hlt : w.heap.size + 1 < Wa.heap.size := lt_of_some hla
      refine ⟨_, run_beginRound hla (by rw [hrec]), ?_⟩
      have hl2 : (Wa.putObj (w.heap.size + 1) (.loop { rec .ready none with state := .busy })).heap[w.heap.size + 1]? = some (.loop { rec .ready none with state := .busy }) := World.putObj_heap_same hlt
      have hk2 : (Wa.putObj (w.heap.size + 1) (.loop { rec .ready none with state := .busy })).heap[w.heap.size]? = some (.deferred (some [])) := (World.putObj_heap_other (by omega)).trans hka
      have hc2 : Fr KC Wa (Wa.putObj (w.heap.size + 1) (.loop { rec .ready none with state := .busy })) := Fr.putLoop hla rfl _
      refine wpIn_mono (hbody _ pre x W a' Wa _ (by have := lt_of_some hl; omega) hfw hi ht hax hfa hc2) ?_
      have fin : ∀ (jump : Option Code) (W3 : World), Fr (fun c _ => B c) (Wa.putObj (w.heap.size + 1) (.loop { rec .ready none with state := .busy })) W3 →
          (Instr.endRound (w.heap.size + 1) jump).run P W3 = .ok (.bool jump.isNone) (W3.putObj (w.heap.size + 1) (.loop (rec (if jump.isNone then .ready else .done) jump))) ∧
          W3.heap[w.heap.size + 1]? = some (.loop { rec .ready none with state := .busy }) ∧
          (W3.putObj (w.heap.size + 1) (.loop (rec (if jump.isNone then .ready else .done) jump))).heap[w.heap.size + 1]? = some (.loop (rec (if jump.isNone then .ready else .done) jump)) ∧
          (W3.putObj (w.heap.size + 1) (.loop (rec (if jump.isNone then .ready else .done) jump))).heap[w.heap.size]? = some (.deferred (some [])) ∧
          Fr (fun c _ => B c ∧ c ≠ w.heap.size + 1) W (W3.putObj (w.heap.size + 1) (.loop (rec (if jump.isNone then .ready else .done) jump))) := fun jump W3 hf3 => by
        have hl3 := hf3.keep _ _ hl2 hB1
        have hk3 := hf3.keep _ _ hk2 hB0
        have he := run_endRound (P := P) jump hl3
        rw [hrec] at he hl3 ⊢
        refine ⟨he, hl3, World.putObj_heap_same (lt_of_some hl3), (World.putObj_heap_other (by omega)).trans hk3, hf3.os.trans hfa.os, hf3.tape.trans hfa.tape, hf3.output.trans hfa.output, ?_, fun b o hb hBb => ?_⟩
        · rw [size_putObj]
          have q1 := hfa.size
          have q2 := hf3.size
          rw [size_putObj] at q2
          omega
        · rw [World.putObj_heap_other hBb.2]
          refine hf3.keep b o ?_ hBb.1
          rw [World.putObj_heap_other hBb.2]
          exact hfa.keep b o hb trivial
      rintro e a3 W3 hp
      cases e with
      | normal =>
        obtain ⟨hf3, hi3⟩ := hp
        obtain ⟨hr, hl3, hl4, hk4, hf4⟩ := fin none W3 hf3
        have hfr : Fr (fun c _ => B c) W (W3.putObj (w.heap.size + 1) (.loop (rec .ready none))) := ⟨hf4.os, hf4.tape, hf4.output, hf4.size, fun b o hb hBb => by
          by_cases hbl : b = w.heap.size + 1
          · subst hbl
            rw [hl] at hb
            rw [← hb]; exact hl4
          · exact hf4.keep b o hb ⟨hBb, hbl⟩⟩
        exact ⟨_, _, hr, .inl ⟨rfl, ⟨hI _ _ _ hi3 (Fr.putLoop hl3 rfl _), hl4, hk4, hfw.trans hfr⟩, hfr⟩⟩
      | ret =>
        obtain ⟨hf3, hi3⟩ := hp
        obtain ⟨hr, hl3, hl4, hk4, hf4⟩ := fin (some .ret) W3 hf3
        refine ⟨_, _, hr, .inr ⟨rfl, hIx _ _ _ hi3 (Fr.putLoop hl3 rfl _), hl4, hk4, ?_⟩⟩
        refine ⟨hf4.os.trans hfw.os, hf4.tape.trans hfw.tape, hf4.output.trans hfw.output, Nat.le_trans hfw.size hf4.size, fun b o hb hBb => ?_⟩
        have := lt_of_some hb
        exact hf4.keep b o (hfw.keep b o hb hBb) ⟨hBb, by omega⟩
      | exit id => exact hp.elim
      | goto t => exact hp.elim
      | panic ch => exact hp.elim
      | outgrown => exact hp.elim
    · rintro e W2 ⟨⟨v, rfl⟩, (⟨xs, hs, hi, hl, hk, hfw⟩ | ⟨xs, hi, hl, hk, hfw⟩)⟩
      · have hq : Fr KC W2 (W2.putObj (w.heap.size + 1) (.loop { rec .ready none with state := .exhausted })) := Fr.putLoop hl rfl _
        refine ⟨none, _, by have := run_endLoop (P := P) hl (by rw [hrec]; simp); rw [hrec] at this; exact this, ?_⟩
        refine hdone _ xs _ (Nat.le_refl _) (Nat.le_refl _) hs ?_ ((World.putObj_heap_other (by omega)).trans hk) ?_
        · rw [hrec] at hq; exact hI _ _ _ hi hq
        · exact hfw.putObj (fun o ho => absurd (lt_of_some ho) (by omega)) _
      · have hq : Fr KC W2 (W2.putObj (w.heap.size + 1) (.loop { rec .done (some .ret) with state := .exhausted })) := Fr.putLoop hl rfl _
        refine ⟨some .ret, _, by have := run_endLoop (P := P) hl (by rw [hrec]; simp); rw [hrec] at this; exact this, ?_⟩
        refine hstop _ xs _ (Nat.le_refl _) (Nat.le_refl _) ?_ ((World.putObj_heap_other (by omega)).trans hk) ?_
        · rw [hrec] at hq; exact hIx _ _ _ hi hq
        · exact hfw.putObj (fun o ho => absurd (lt_of_some ho) (by omega)) _
end Go.Proofs.YtaeonlafcbgpcaaDoor
/- slices.Chunk of bytes: an iterator. -/
namespace Go.Proofs.YtaeonlafcbgpcaaDoor
open Go.RowKit Go.Shelf
set_option linter.unusedVariables false

theorem run_slice_three {P : Program} {t e : TypeId} (ht : P.underlying t = some (.slice e)) (hs : (sizeOf e).run P = fun w => .ok 1 w) (w : World) (a : Option Addr) (len cap n m q : Nat) (k k' k'' : IntKind) (h : n ≤ m) (h1 : m ≤ q) (h' : q ≤ cap) :
    (Instr.slice t (.slice a len cap) (some (.int k n)) (some (.int k' m)) (some (.int k'' q))).run P w = .ok (.slice (subA a q n) (m - n) (q - n)) w := by
  have h0 : (0 : Int) ≤ n ∧ (n : Int) ≤ m := by omega
  have h2 : (0 : Int) ≤ m ∧ (m : Int) ≤ q := by omega
  have h3 : (0 : Int) ≤ q ∧ (q : Int) ≤ cap := by omega
  simp only [Instr.slice, Sem.run_bind, run_underlying ht, Result.andThen, Instr.sliceBounds, Instr.sliceBound, asIntOf, Sem.run_pure, h0, h2, h3, and_self, ↓reduceIte, hs]
  simp [subA, h, h1]

theorem BytesAt.recap {K : Nat → Obj → Prop} {w : World} {bk off n cap m : Nat} {bs : List UInt8} (hn : n = m) (h : BytesAt K w (.slice (some ⟨bk, off, none⟩) n cap) bs) : BytesAt K w (.slice (some ⟨bk, off, none⟩) m m) bs := by
  have hl := h.len
  subst hn hl
  obtain ⟨a, c, hv, _, _, hh⟩ := h
  simp only [Value.slice.injEq] at hv
  obtain ⟨rfl, _, rfl⟩ := hv
  exact ⟨_, _, rfl, Nat.le_refl _, (fun e => by cases e), hh⟩
/-- A piece that is handed out. -/
structure ChV where
  a : Option Addr
  n : Nat
  c : Nat
def ChV.encs (x : ChV) : Array Value := #[.slice x.a x.n x.c]
/-- The j-th piece. -/
def chunkAt (b : List UInt8) (j : Nat) : List UInt8 := (b.drop (43 * j)).take 43
theorem chunkAt_len (b : List UInt8) (j : Nat) : (chunkAt b j).length = min 43 (b.length - 43 * j) := by unfold chunkAt; simp

set_option maxRecDepth 100000 in
theorem chunk_calls (w : World) (a : Option Addr) (len cap : Nat) :
    Calls Tryd.prog 67 #[.slice a len cap, .int .i64 43] w fun e w' => e = .returned (.func (.func 79) #[] #[.pointer (some ⟨w.heap.size, 0, none⟩), .pointer (some ⟨w.heap.size + 1, 0, none⟩)]) ∧ w' = (w.alloc (.cells #[.slice a len cap] 23)).alloc (.cells #[.int .i64 43] 3) := by
  go_enter Tryd.func67, Tryd.ntmps67
  go_wp2
  go_ret
  exact ⟨rfl, rfl⟩

attribute [local go_sem] Oper.semAt_some

set_option maxRecDepth 100000 in
set_option maxHeartbeats 2000000 in
theorem chunk_seq (n : Nat) (W0 : World) (B : Nat → Prop) (K : Nat → Obj → Prop) (a : Option Addr) (len cap bs bn : Nat) (b : List UInt8) (hb : BytesAt K W0 (.slice a len cap) b) (hK : ∀ c o, K c o → B c)
    (hbs : W0.cell? ⟨bs, 0, none⟩ = some (.slice a len cap)) (hbn : W0.cell? ⟨bn, 0, none⟩ = some (.int .i64 43)) (hBs : B bs) (hBn : B bn) (hm : len ≤ 1000) :
    SeqX Fence.wide n Tryd.prog 79 #[.pointer (some ⟨bs, 0, none⟩), .pointer (some ⟨bn, 0, none⟩)] ChV.encs (fun pre x W => x.n = (chunkAt b pre.length).length ∧ 43 * pre.length < len ∧ BytesAt K W (.slice x.a x.n x.c) (chunkAt b pre.length)) B (fun xs => len ≤ 43 * xs.length ∧ 43 * xs.length < len + 43) W0 := by
  intro l J Jx W hW hJ hY h0
  refine callsIn_of_wp Tryd.func79 rfl trivial ?_ rfl
  simp only [Tryd.ntmps79, List.size_toArray, List.length_cons, List.length_nil, Nat.reduceAdd, Nat.reduceSub, Array.replicate_succ, Array.replicate_zero, List.push_toArray, List.append_toArray, List.nil_append, List.cons_append]
  have HLB := Lib.hid hb.len
  have hcap := hb.cap
  have HB := Lib.hid hb
  have HS := Lib.hid hbs
  have HN := Lib.hid hbn
  have cs := hW.cell (fun _ _ => trivial) hbs
  have cn := hW.cell (fun _ _ => trivial) hbn
  have FW := Lib.hid hW
  have HJ := Lib.hid hJ
  have HY := Lib.hid hY
  have H0 := Lib.hid h0
  clear hb hbs hbn hW hJ hY h0
  gi_wp2
  gi_loopw [4] (fun i wr => ∃ (j : Nat) (xs : List ChV) (z : Int), 43 * j < len + 43 ∧ z ≤ 43 * j ∧ 43 * j ≤ z ∧ i = .int .i64 z ∧ Hid (J xs wr) ∧ Hid (xs.length = j) ∧ Hid (Fr (fun c _ => B c) W0 wr)) (fun i _ => len + 43 - (intOf i).toNat)
  case atStart => exact ⟨0, [], 0, by omega, by omega, by omega, rfl, H0.out, rfl, FW.out.mono fun _ _ _ => trivial⟩
  case round =>
    obtain ⟨j, xs, z, hj, hz1, hz2, rfl, HJx, HX, HF⟩ := hrel
    have cs1 := HF.out.cell (fun _ _ => hBs) HS.out
    have cn1 := HF.out.cell (fun _ _ => hBn) HN.out
    clear cs cn H0 FW
    by_cases hlt : 43 * j < len
    · obtain ⟨bk, off, rfl⟩ := HB.out.addr (by have := HLB.out; omega)
      have hltI : z < len := by omega
      have ez : z = ((43 * j : Nat) : Int) := by omega
      obtain ⟨rem, hrem⟩ : ∃ rem, len - 43 * j = rem := ⟨_, rfl⟩
      have hsl : ∀ w : World, (Instr.slice 23 (.slice (some ⟨bk, off, none⟩) len cap) (some (.int .i64 z)) none none).run Tryd.prog w = .ok (.slice (some ⟨bk, off + 43 * j, none⟩) rem (cap - 43 * j)) w := fun w => by
        rw [ez, run_slice_from (P := Tryd.prog) Tryd.underlying23 size_u8 w (some ⟨bk, off, none⟩) len cap (43 * j) .i64 (by omega), subA_some _ _ _ _ (by omega), hrem]
      have hr1 : 1 ≤ rem := by omega
      have hr2 : rem ≤ 1000 := by omega
      have HREM := Lib.hid hrem
      have EZ := Lib.hid ez
      have hcl := chunkAt_len b j
      have hbl := HLB.out
      have bd0 := ((HB.out.fr (HF.out.mono fun c o h => hK c o h)).drop (43 * j) (by omega)).take (min 43 rem) (by rw [List.length_drop]; omega)
      rw [subA_some _ _ _ _ (by omega)] at bd0
      clear ez hrem
      by_cases h43 : 43 ≤ rem
      · have h43I : (43 : Int) ≤ rem := by omega
        have hsl2 : ∀ w : World, (Instr.slice 23 (.slice (some ⟨bk, off, none⟩) len cap) (some (.int .i64 z)) (some (.int .i64 (z + 43))) (some (.int .i64 (z + 43)))).run Tryd.prog w = .ok (.slice (some ⟨bk, off + 43 * j, none⟩) 43 43) w := fun w => by
          have e := EZ.out
          have e2 : z + 43 = ((43 * j + 43 : Nat) : Int) := by omega
          rw [e2, e, run_slice_three (P := Tryd.prog) Tryd.underlying23 size_u8 w (some ⟨bk, off, none⟩) len cap (43 * j) (43 * j + 43) (43 * j + 43) .i64 .i64 .i64 (by omega) (by omega) (by have := HREM.out; omega), subA_some _ _ _ _ (by omega), show 43 * j + 43 - 43 * j = 43 by omega]
        have bb : BytesAt K wr (.slice (some ⟨bk, off + 43 * j, none⟩) 43 43) (chunkAt b j) := BytesAt.recap (n := 43) rfl (by unfold chunkAt; rw [show min 43 rem = 43 by omega] at bd0; exact bd0)
        have hl43 : (chunkAt b j).length = 43 := by rw [hcl]; have := HREM.out; omega
        have HL43 := Lib.hid hl43
        have BBB := Lib.hid bb
        clear hcl hbl bd0 bb hl43
        obtain ⟨fn, tmps, assign, body, hy, hR⟩ := HY.out xs ⟨some ⟨bk, off + 43 * j, none⟩, 43, 43⟩ wr.drew (HJ.out _ _ _ HJx.out (Fr.refl _ _).drew) ⟨by show 43 = _; rw [HX.out, HL43.out], by rw [HX.out]; exact hlt, by rw [HX.out]; exact BBB.out.tt (Fr.refl _ _).drew⟩
        have HR := Lib.hid hR
        clear hR
        dsimp only [ChV.encs] at hy
        gi_wp2
        gi_region
        gi_wp2
        refine ⟨(fun h => by cases h), HR.out.mono ?_⟩
        rintro e w3 (⟨rfl, hJ3, f3⟩ | ⟨rfl, hJ3⟩)
        · have HJ3 := Lib.hid hJ3
          have F3 := Lib.hid (HF.out.trans ((Fr.refl (fun c _ => B c) wr).drew.trans f3))
          have cs3 := F3.out.cell (fun _ _ => hBs) HS.out
          have cn3 := F3.out.cell (fun _ _ => hBn) HN.out
          clear hJ3 f3 hy HR cs1 cn1 hsl hsl2
          gi_wp2
          go_roundw
          case rel => exact ⟨j + 1, xs ++ [_], z + 43, by omega, by omega, by omega, rfl, HJ3.out, by show _ = _; rw [List.length_append, HX.out]; rfl, F3.out⟩
          case measure => simp [intOf]; omega
        · have HJ3 := Lib.hid hJ3
          clear hJ3 hy HR cs1 cn1 hsl hsl2
          gi_wp2
          exact bodyPost_ret (results_none rfl _ _ _) rfl ⟨⟨_, rfl⟩, .inr ⟨_, HJ3.out⟩⟩
      · have h43I : (rem : Int) < 43 := by omega
        have hsl2 : ∀ w : World, (Instr.slice 23 (.slice (some ⟨bk, off, none⟩) len cap) (some (.int .i64 z)) (some (.int .i64 (z + rem))) (some (.int .i64 (z + rem)))).run Tryd.prog w = .ok (.slice (some ⟨bk, off + 43 * j, none⟩) rem rem) w := fun w => by
          have e := EZ.out
          have e2 : z + rem = ((43 * j + rem : Nat) : Int) := by omega
          rw [e2, e, run_slice_three (P := Tryd.prog) Tryd.underlying23 size_u8 w (some ⟨bk, off, none⟩) len cap (43 * j) (43 * j + rem) (43 * j + rem) .i64 .i64 .i64 (by omega) (by omega) (by have := HREM.out; omega), subA_some _ _ _ _ (by omega), show 43 * j + rem - 43 * j = rem by omega]
        have hl43 : (chunkAt b j).length = rem := by rw [hcl]; have := HREM.out; omega
        have bb : BytesAt K wr (.slice (some ⟨bk, off + 43 * j, none⟩) rem rem) (chunkAt b j) := BytesAt.recap (n := min 43 rem) (by omega) (by
          have e : chunkAt b j = (b.drop (43 * j)).take (min 43 rem) := by
            unfold chunkAt
            rw [show min 43 rem = rem by omega, List.take_of_length_le (by rw [List.length_drop]; have := HREM.out; omega), List.take_of_length_le (by rw [List.length_drop]; have := HREM.out; omega)]
          rw [e]; exact bd0)
        have HL43 := Lib.hid hl43
        have BBB := Lib.hid bb
        clear hcl hbl bd0 bb hl43
        obtain ⟨fn, tmps, assign, body, hy, hR⟩ := HY.out xs ⟨some ⟨bk, off + 43 * j, none⟩, rem, rem⟩ wr.drew (HJ.out _ _ _ HJx.out (Fr.refl _ _).drew) ⟨by show rem = _; rw [HX.out, HL43.out], by rw [HX.out]; exact hlt, by rw [HX.out]; exact BBB.out.tt (Fr.refl _ _).drew⟩
        have HR := Lib.hid hR
        clear hR
        dsimp only [ChV.encs] at hy
        gi_wp2
        gi_region
        gi_wp2
        refine ⟨(fun h => by cases h), HR.out.mono ?_⟩
        rintro e w3 (⟨rfl, hJ3, f3⟩ | ⟨rfl, hJ3⟩)
        · have HJ3 := Lib.hid hJ3
          have F3 := Lib.hid (HF.out.trans ((Fr.refl (fun c _ => B c) wr).drew.trans f3))
          have cs3 := F3.out.cell (fun _ _ => hBs) HS.out
          have cn3 := F3.out.cell (fun _ _ => hBn) HN.out
          clear hJ3 f3 hy HR cs1 cn1 hsl hsl2
          gi_wp2
          go_roundw
          case rel => exact ⟨j + 1, xs ++ [_], z + 43, by omega, by omega, by omega, rfl, HJ3.out, by show _ = _; rw [List.length_append, HX.out]; rfl, F3.out⟩
          case measure => simp [intOf]; omega
        · have HJ3 := Lib.hid hJ3
          clear hJ3 hy HR cs1 cn1 hsl hsl2
          gi_wp2
          exact bodyPost_ret (results_none rfl _ _ _) rfl ⟨⟨_, rfl⟩, .inr ⟨_, HJ3.out⟩⟩
    · have hge : (len : Int) ≤ z := by omega
      gi_wp2
      go_end0
      exact ⟨⟨_, rfl⟩, .inl ⟨xs, ⟨by rw [HX.out]; omega, by rw [HX.out]; omega⟩, HJx.out⟩⟩
end Go.Proofs.YtaeonlafcbgpcaaDoor
