/- Texts of the proofs, part 9: what the functions that they reach do, walked; no conditions beyond those that each states. -/
import Derived.StillTailTactics
import Derived.Test.YtlolfcnfcgegdaaZz301f523410
set_option linter.unusedVariables false
set_option linter.unusedSimpArgs false
/- Writers and readers of the function's own. -/
namespace Go.Proofs.Ytlolfcnfcgegdaa
open Go.RowKit
set_option linter.unusedVariables false
set_option linter.unusedSimpArgs false

/-- A writer that is new since W0: nothing that was there in W0 is touched. -/
structure LW (W0 w : World) (bw : Nat) (bs : List UInt8) : Prop where
  new : W0.heap.size ≤ bw
  at' : ∃ v, WrAt w bw v bs ∧ ∀ k, v.ownBlock = some k → W0.heap.size ≤ k
  fr : Fr (fun _ _ => True) W0 w
theorem LW.mk0 {W0 w : World} (h : Fr (fun _ _ => True) W0 w) : LW W0 (w.alloc (.cells #[.slice none 0 0] 80 (0, 0))) w.heap.size [] :=
  ⟨h.size, ⟨.slice none 0 0, ⟨heap_alloc_new _ _, ⟨rfl, .inl ⟨rfl, rfl⟩⟩⟩, fun k e => by cases e⟩, h.alloc _⟩
theorem LW.tt {W0 w w' : World} {bw : Nat} {bs : List UInt8} (h : LW W0 w bw bs) (hf : Fr (fun _ _ => True) w w') : LW W0 w' bw bs := by
  obtain ⟨v, hv, hk⟩ := h.at'
  exact ⟨h.new, ⟨v, ⟨hf.keep _ _ hv.top trivial, ownsRow_fr hv.own hf fun _ _ _ _ => trivial⟩, hk⟩, h.fr.trans hf⟩
theorem old_tt {K : Nat → Obj → Prop} {a w w' : World} (h : Fr (fun _ _ => True) a w) (hf : Fr K w w') (hk : ∀ b o, b < a.heap.size → K b o) : Fr (fun _ _ => True) a w' :=
  ⟨hf.os.trans h.os, hf.tape.trans h.tape, hf.output.trans h.output, Nat.le_trans h.size hf.size, fun b o hb _ => hf.keep b o (h.keep b o hb trivial) (hk b o (lt_of_some hb))⟩
theorem lw_number (W0 w : World) (bw : Nat) (bs : List UInt8) (n size : Nat) (nz sz : Int) (hnz : nz = n) (hsz : sz = size) (h : LW W0 w bw bs) (h1 : 1 ≤ size) (h8 : size ≤ 8) (hn : n < 18446744073709551616) (hb : bs.length ≤ 1000000) :
    Calls Try.prog 30 #[.pointer (some ⟨bw, 0, none⟩), .int .u64 nz, .int .i64 sz] w fun e w' => e = .returned (.tuple #[]) ∧ LW W0 w' bw (bs ++ le n size) := by
  subst hnz hsz
  obtain ⟨v, hv, hk⟩ := h.at'
  refine (wnum_main w bw v bs n size hv h1 h8 hn hb).mono fun _ _ ⟨he, v', h1, h2, h3⟩ => ⟨he, h.new, ⟨v', h1, fun k e => ?_⟩, old_tt h.fr h2 fun b o hb => ⟨?_, fun e => ?_⟩⟩
  · rcases h3 with h3 | h3
    · exact hk k (h3 ▸ e)
    · have := h3 k e; have := h.fr.size; omega
  · have := h.new; omega
  · have := hk b e; omega
set_option maxRecDepth 100000 in
theorem lw_out (W0 w : World) (bw : Nat) (bs : List UInt8) (h : LW W0 w bw bs) (hb : bs.length ≤ 1000000) :
    Calls Try.prog 31 #[.pointer (some ⟨bw, 0, none⟩)] w fun e w' => (∃ a cap, e = .returned (.slice a bs.length cap) ∧ BytesAt (New w.heap.size) w' (.slice a bs.length cap) bs) ∧ Fr (fun _ _ => True) W0 w' := by
  obtain ⟨v, hv, hk⟩ := h.at'
  have hc : w.cell? ⟨bw, 0, none⟩ = some v := cell_mk hv.top rfl
  have hcl := clone_calls w v bs (BytesAt.of_owns hv.own) (by omega)
  have HC := Lib.hid hcl
  have HF0 := Lib.hid h.fr
  clear hcl h hv hk
  go_enter Try.func31, Try.ntmps31
  go_wp2_with fail
  (with_reducible refine HC.out.mono ?_)
  rintro e w1 ⟨a, cap, rfl, hb1, hf1⟩
  have HB := Lib.hid hb1
  have HF := Lib.hid hf1
  clear hb1 hf1
  go_wp2
  go_ret
  exact ⟨⟨_, _, rfl, HB.out⟩, HF0.out.trans HF.out⟩

/-- Bytes with their number ahead. -/
def byt (b : List UInt8) : List UInt8 := le (b.take 1000).length 2 ++ b.take 1000
theorem byt_length (b : List UInt8) : (byt b).length ≤ 1002 := by unfold byt; simp [le_length]; omega

theorem take_min {α : Type} (n : Nat) (b : List α) : b.take (min n b.length) = b.take n := by
  by_cases q : b.length ≤ n
  · rw [Nat.min_eq_right q, List.take_length, List.take_of_length_le q]
  · rw [Nat.min_eq_left (by omega)]
theorem own_basew {w : World} {B B' : Nat} {e : TypeId} {s : Nat} {v : Value} {n : Nat} {xs : List Value} (h : w.ownsRow B e s v n xs) (hk : ∀ k, v.ownBlock = some k → B' ≤ k) : w.ownsRow B' e s v n xs := by
  obtain ⟨h1, h2⟩ := h
  refine ⟨h1, ?_⟩
  rcases h2 with h2 | ⟨g, cap, cur, hv, hg, r⟩
  · exact .inl h2
  · exact .inr ⟨g, cap, cur, hv, hk g (by rw [hv]; rfl), r⟩
theorem LW.parts {W0 w : World} {bw : Nat} {bs : List UInt8} (h : LW W0 w bw bs) : ∃ v, w.cell? ⟨bw, 0, none⟩ = some v ∧ w.frozen? ⟨bw, 0, none⟩ = false ∧ RowB w W0.heap.size v bs.length bs ∧ v.ownBlock ≠ some bw := by
  obtain ⟨v, hv, hk⟩ := h.at'
  exact ⟨v, cell_mk hv.top rfl, frozen_mk hv.top, own_basew hv.own hk, hv.ne⟩
/-- The writer behind an append and a store. -/
theorem LW.store {W0 w w' : World} {bw : Nat} {bs r : List UInt8} {v v' : Value} (h : LW W0 w bw bs) (hc : w.cell? ⟨bw, 0, none⟩ = some v) (hr : RowB w' W0.heap.size v' r.length r) (hg : w.grownBy w' v.ownBlock) :
    w'.cell? ⟨bw, 0, none⟩ = some v ∧ w'.frozen? ⟨bw, 0, none⟩ = false ∧ LW W0 (w'.setCell ⟨bw, 0, none⟩ v') bw r := by
  obtain ⟨u, hv, hk⟩ := h.at'
  obtain rfl : u = v := by
    have := cell_mk (i := 0) hv.top rfl
    rw [hc] at this
    exact (Option.some.inj this).symm
  have ht := grown_block hg hv.top hv.ne
  have hne : v'.ownBlock ≠ some bw := by
    rcases hr.2 with ⟨e, _⟩ | ⟨g, cap, cur, e, _, hh, _⟩
    · subst e; simp [Value.ownBlock]
    · subst e
      intro e
      simp only [Value.ownBlock, Option.some.injEq] at e
      rw [e, ht] at hh
      cases hh
  have hF : Fr (fun _ _ => True) W0 w' := h.fr.grown_new hg hk
  refine ⟨cell_mk ht rfl, frozen_mk ht, h.new, ⟨v', ⟨heap_setCell_same ht _, own_basew (ownsRow_setCell_ne hr hne _) fun _ _ => Nat.zero_le _⟩, own_new hr⟩, hF.setCell_new h.new _⟩

/-- An append of bytes to a row of the function's own; what comes of it is hidden. -/
theorem wpList_append_hid {K0 : Nat → Obj → Prop} {ops : Array Oper} {rest : List Oper} {o : Oper} {a : Act} {Q : Exit → Act → World → Prop} (W : World) (hgd : o.guard = none) (s x : Operand)
    (ho : o.op = .call { callee := .builtin .append, args := #[s, x], argTypes := #[31, 31] }) (B : Nat) (hB : B ≤ W.heap.size) (v : Value) (n : Nat) (xs : List UInt8) (hs : a.eval s = v) (hown : Hid (RowB W B v n xs))
    (vx : Value) (bs : List UInt8) (hx : a.eval x = vx) (hb : Hid (BytesAt K0 W vx bs)) (N : Nat) (r : List UInt8) (hr : Hid (xs ++ bs = r)) (hN : Hid (n + bs.length = N)) (hn : N ≤ 2000000)
    (h : ∀ a' c' w', Hid (RowB w' B (.slice a' N c') N r) → Hid (W.grownBy w' v.ownBlock) → wpList Try.prog ops Q rest (a.put o.dst (.slice a' N c')) w') :
    wpList Try.prog ops Q (o :: rest) a W :=
  wpList_append_bytes W hgd s x ho B hB v n xs hs hown.out vx bs hx hb.out N r hr.out hN.out hn h

set_option maxRecDepth 100000 in
set_option maxHeartbeats 1000000 in
theorem lw_bytes1 {K : Nat → Obj → Prop} (W0 w : World) (bw : Nat) (bs : List UInt8) (a : Option Addr) (L m cap : Nat) (mz : Int) (t : List UInt8) (h : LW W0 w bw bs) (hb : BytesAt K W0 (.slice a m cap) t) (hm : bs.length ≤ 900000) (hL : L ≤ 140737488355328) (hmz : mz = m)
    (h1000 : m ≤ 1000) (hd : ((L : Int) ≤ 1000 ∧ mz = L) ∨ ((1000 : Int) < L ∧ mz = 1000)) (hcap : m ≤ cap) (r : List UInt8) (hr : r = bs ++ (le m 2 ++ t)) :
    Calls Try.prog 38 #[.pointer (some ⟨bw, 0, none⟩), .slice a L cap] w fun e w' => e = .returned (.tuple #[]) ∧ LW W0 w' bw r := by
  have HRI := Lib.hid hr
  clear hr
  have hml : m = t.length := hb.len
  have s1 := fun W => run_slice_to Try.underlying31 size_u8 W a L cap m .i64 hcap
  have K1 := Lib.hid (lw_number W0 w bw bs m 2 m 2 rfl rfl h (by omega) (by omega) (by omega) (by omega))
  rw [← hmz] at s1
  have HB := Lib.hid hb
  have HM := Lib.hid hml
  have hmc : (m : Int) ≤ 1000 := by omega
  have hm0 : (0 : Int) ≤ m := by omega
  have HMZ := Lib.hid hmz
  clear h hb hml hmz
  rcases hd with ⟨h1, rfl⟩ | ⟨h1, rfl⟩ <;>
  · go_enter Try.func38, Try.ntmps38
    go_wp2_with fail
    with_reducible refine K1.out.mono ?_
    rintro e1 w1 ⟨rfl, h1⟩
    have H1 := Lib.hid h1
    have HB1 := Lib.hid (HB.out.tt h1.fr)
    clear h1 K1 HB s1
    obtain ⟨u, c1, f1, hr, hne⟩ := H1.out.parts
    have HR := Lib.hid hr
    clear hr hne
    have hr := HRI.out
    have E1 : Hid ((bs ++ le m 2) ++ t = r) := by rw [hr]; simp [Hid]
    have E2 : Hid ((bs ++ le m 2).length + t.length = r.length) := by rw [hr]; simp [Hid]; omega
    have E3 : r.length ≤ 2000000 := by have := HM.out; rw [hr]; simp [le_length]; omega
    clear hr HRI
    generalize bs ++ le m 2 = x at *
    generalize x.length = X at *
    obtain ⟨R, hR⟩ : ∃ R, R = r.length := ⟨_, rfl⟩
    have HRR := Lib.hid hR
    rw [← hR] at E2 E3
    clear hR
    go_wp2_with (at_builtin; refine wpList_append_hid _ rfl _ _ rfl W0.heap.size H1.out.fr.size _ _ x rfl HR _ t rfl HB1 R r E1 E2 E3 ?_)
    intro a1 c2 w2 O1 G1
    obtain ⟨c3, f3, h3⟩ := H1.out.store (r := r) (v' := .slice a1 R c2) c1 (by have := O1.out; rwa [HRR.out] at this ⊢) G1.out
    have H3 := Lib.hid h3
    clear h3 O1 G1 H1 HR HB1 c1 f1
    go_wp2
    go_end0
    exact ⟨rfl, H3.out⟩
theorem lw_bytes {K : Nat → Obj → Prop} (W0 w : World) (bw : Nat) (bs : List UInt8) (v : Value) (b : List UInt8) (h : LW W0 w bw bs) (hb : BytesAt K W0 v b) (hm : bs.length ≤ 900000) (hbm : b.length ≤ 140737488355328) :
    Calls Try.prog 38 #[.pointer (some ⟨bw, 0, none⟩), v] w fun e w' => e = .returned (.tuple #[]) ∧ LW W0 w' bw (bs ++ byt b) := by
  obtain ⟨a, cap, rfl⟩ := hb.form
  have hcap := hb.cap
  have e : b.take (b.take 1000).length = b.take 1000 := by rw [List.length_take, take_min]
  have hbt := hb.take (b.take 1000).length (by simp; omega)
  rw [e] at hbt
  exact lw_bytes1 W0 w bw bs a b.length (b.take 1000).length cap (b.take 1000).length (b.take 1000) h hbt hm hbm rfl (by simp; omega) (by simp; omega) (by simp; omega) _ rfl
end Go.Proofs.Ytlolfcnfcgegdaa
/- Commands as bytes: Encode of the program and of the document (printed by enc20.py). -/
namespace Go.Proofs.Ytlolfcnfcgegdaa
open Go.RowKit
set_option linter.unusedVariables false
set_option linter.unusedSimpArgs false

/-- A command. -/
structure Cmd where
  op : Int
  cl : Int
  sq : Nat
  rg : Int
  md : Int
  tk : Nat
  tm : Nat
  deriving DecidableEq, Inhabited
structure Cmd.ok (c : Cmd) : Prop where
  s : c.sq < 4294967296
  k : c.tk < 18446744073709551616
  t : c.tm < 18446744073709551616
def vC (c : Cmd) : Value := .agg #[.int .i64 c.op, .int .i64 c.cl, .int .u32 (c.sq : Nat), .int .i64 c.rg, .int .i64 c.md, .int .u64 (c.tk : Nat), .int .u64 (c.tm : Nat)]
def inByte (z : Int) : Bool := decide (0 ≤ z) && decide (z ≤ 255)
/-- May a command be? -/
def Cmd.fine (c : Cmd) : Bool := decide (1 ≤ c.op) && decide (c.op ≤ 7) && inByte c.cl && inByte c.rg && inByte c.md
def cmdB (c : Cmd) : List UInt8 := le c.op.toNat 1 ++ le c.cl.toNat 1 ++ le c.sq 4 ++ le c.rg.toNat 1 ++ le c.md.toNat 1 ++ le c.tk 8 ++ le c.tm 8
theorem cmdB_len (c : Cmd) : (cmdB c).length = 24 := by unfold cmdB; simp [le_length]
def encM (c : Cmd) : List UInt8 × Nat := if c.fine then (cmdB c, 0) else ([], 1)

theorem byte8_yes (w : World) (z : Int) (h : inByte z = true) : Calls Try.prog 29 #[.int .i64 z] w fun e w' => e = .returned (.bool true) ∧ w = w' := by
  unfold inByte at h
  rw [Bool.and_eq_true] at h
  have h1 := of_decide_eq_true h.1
  have h2 := of_decide_eq_true h.2
  have h3 : z < 256 := by omega
  clear h
  go_enter Try.func29, Try.ntmps29
  go_wp2
  go_ret
  exact ⟨rfl, rfl⟩
theorem byte8_no (w : World) (z : Int) (h : inByte z = false) : Calls Try.prog 29 #[.int .i64 z] w fun e w' => e = .returned (.bool false) ∧ w = w' := by
  by_cases h0 : 0 ≤ z
  · have h1 : decide (z ≤ 255) = false := by unfold inByte at h; rw [decide_eq_true h0, Bool.true_and] at h; exact h
    have h2 : decide (z < 256) = false := by simp at h1 ⊢; omega
    clear h
    go_enter Try.func29, Try.ntmps29
    go_wp2
    go_ret
    exact ⟨rfl, rfl⟩
  · have h1 : decide (0 ≤ z) = false := by simpa using h0
    clear h
    go_enter Try.func29, Try.ntmps29
    go_wp2
    go_ret
    exact ⟨rfl, rfl⟩
theorem fits_yes (w : World) (z : Int) (h : inByte z = true) : Calls Try.prog 32 #[.int .i64 z] w fun e w' => e = .returned (.bool true) ∧ w = w' := by
  unfold inByte at h
  rw [Bool.and_eq_true] at h
  have h1 := of_decide_eq_true h.1
  have h2 := of_decide_eq_true h.2
  have h3 : z < 256 := by omega
  clear h
  go_enter Try.func32, Try.ntmps32
  go_wp2
  go_ret
  exact ⟨rfl, rfl⟩
theorem fits_no (w : World) (z : Int) (h : inByte z = false) : Calls Try.prog 32 #[.int .i64 z] w fun e w' => e = .returned (.bool false) ∧ w = w' := by
  by_cases h0 : 0 ≤ z
  · have h1 : decide (z ≤ 255) = false := by unfold inByte at h; rw [decide_eq_true h0, Bool.true_and] at h; exact h
    have h2 : decide (z < 256) = false := by simp at h1 ⊢; omega
    clear h
    go_enter Try.func32, Try.ntmps32
    go_wp2
    go_ret
    exact ⟨rfl, rfl⟩
  · have h1 : decide (0 ≤ z) = false := by simpa using h0
    clear h
    go_enter Try.func32, Try.ntmps32
    go_wp2
    go_ret
    exact ⟨rfl, rfl⟩
set_option maxRecDepth 100000 in
theorem enc_bad (w : World) (c : Cmd) (h : c.fine = false) : Calls Try.prog 13 #[vC c] w fun e w' => e = .returned (.tuple #[.slice none 0 0, .int .i64 1]) ∧ Fr (fun _ _ => True) w w' := by
  obtain ⟨op, cl, sq, rg, md, tk, tm⟩ := c
  unfold vC
  obtain ⟨W1, hW1⟩ : ∃ W, w.alloc (.cells #[.int .i64 op, .int .i64 cl, .int .u32 (sq : Nat), .int .i64 rg, .int .i64 md, .int .u64 (tk : Nat), .int .u64 (tm : Nat)] 35 (0, 0)) = W := ⟨_, rfl⟩
  have F1 : Hid (Fr (fun _ _ => True) w W1) := hW1 ▸ (Fr.refl _ _).alloc _
  have X1 : Hid (W1.heap[w.heap.size]? = some (.cells #[.int .i64 op, .int .i64 cl, .int .u32 (sq : Nat), .int .i64 rg, .int .i64 md, .int .u64 (tk : Nat), .int .u64 (tm : Nat)] 35 (0, 0))) := hW1 ▸ heap_alloc_new w _
  have x0 := cell_mk (i := 0) X1.out rfl
  have x1 := cell_mk (i := 1) X1.out rfl
  have x3 := cell_mk (i := 3) X1.out rfl
  have x4 := cell_mk (i := 4) X1.out rfl
  by_cases h1 : 1 ≤ op
  · have h1' : decide (op < 1) = false := by simp; omega
    by_cases h7 : op ≤ 7
    · have h7' : decide (7 < op) = false := by simp; omega
      by_cases hc : inByte cl = true
      · by_cases hr : inByte rg = true
        · have hm : inByte md = false := by
            have h : (decide (1 ≤ op) && decide (op ≤ 7) && inByte cl && inByte rg && inByte md) = false := h
            rw [decide_eq_true h1, decide_eq_true h7, hc, hr] at h
            simpa using h
          have K1 := Lib.hid (byte8_yes W1 cl hc)
          have K2 := Lib.hid (byte8_yes W1 rg hr)
          have K3 := Lib.hid (byte8_no W1 md hm)
          clear h hc hr hm h1 h7
          go_enter Try.func13, Try.ntmps13
          go_wp2_with fail
          (with_reducible refine K1.out.mono ?_)
          rintro e w1 ⟨rfl, rfl⟩
          go_wp2_with fail
          (with_reducible refine K2.out.mono ?_)
          rintro e w1 ⟨rfl, rfl⟩
          go_wp2_with fail
          (with_reducible refine K3.out.mono ?_)
          rintro e w1 ⟨rfl, rfl⟩
          go_wp2
          go_ret2
          exact ⟨rfl, F1.out⟩
        · have hr' : inByte rg = false := by simpa using hr
          have K1 := Lib.hid (byte8_yes W1 cl hc)
          have K2 := Lib.hid (byte8_no W1 rg hr')
          clear h hc hr hr' h1 h7
          go_enter Try.func13, Try.ntmps13
          go_wp2_with fail
          (with_reducible refine K1.out.mono ?_)
          rintro e w1 ⟨rfl, rfl⟩
          go_wp2_with fail
          (with_reducible refine K2.out.mono ?_)
          rintro e w1 ⟨rfl, rfl⟩
          go_wp2
          go_ret2
          exact ⟨rfl, F1.out⟩
      · have hc' : inByte cl = false := by simpa using hc
        have K1 := Lib.hid (byte8_no W1 cl hc')
        clear h hc hc' h1 h7
        go_enter Try.func13, Try.ntmps13
        go_wp2_with fail
        (with_reducible refine K1.out.mono ?_)
        rintro e w1 ⟨rfl, rfl⟩
        go_wp2
        go_ret2
        exact ⟨rfl, F1.out⟩
    · have h7' : decide (7 < op) = true := by simp; omega
      clear h h1 h7
      go_enter Try.func13, Try.ntmps13
      go_wp2
      go_ret2
      exact ⟨rfl, F1.out⟩
  · have h1' : decide (op < 1) = true := by simp; omega
    clear h h1
    go_enter Try.func13, Try.ntmps13
    go_wp2
    go_ret2
    exact ⟨rfl, F1.out⟩
set_option maxRecDepth 100000 in
set_option maxHeartbeats 1000000 in
theorem enc_good (w : World) (op cl sq rg md tk tm : Nat) (h1 : 1 ≤ op) (h7 : op ≤ 7) (hc : cl < 256) (hr : rg < 256) (hm : md < 256) (hs : sq < 4294967296) (hk : tk < 18446744073709551616) (ht : tm < 18446744073709551616) :
    Calls Try.prog 13 #[.agg #[.int .i64 (op : Nat), .int .i64 (cl : Nat), .int .u32 (sq : Nat), .int .i64 (rg : Nat), .int .i64 (md : Nat), .int .u64 (tk : Nat), .int .u64 (tm : Nat)]] w fun e w' => (∃ a cap, e = .returned (.tuple #[.slice a 24 cap, .int .i64 0]) ∧ BytesAt (New w.heap.size) w' (.slice a 24 cap) (le op 1 ++ le cl 1 ++ le sq 4 ++ le rg 1 ++ le md 1 ++ le tk 8 ++ le tm 8)) ∧ Fr (fun _ _ => True) w w' := by
  obtain ⟨W1, hW1⟩ : ∃ W, w.alloc (.cells #[.int .i64 (op : Nat), .int .i64 (cl : Nat), .int .u32 (sq : Nat), .int .i64 (rg : Nat), .int .i64 (md : Nat), .int .u64 (tk : Nat), .int .u64 (tm : Nat)] 35 (0, 0)) = W := ⟨_, rfl⟩
  have F1 : Hid (Fr (fun _ _ => True) w W1) := hW1 ▸ (Fr.refl _ _).alloc _
  have X1 : Hid (W1.heap[w.heap.size]? = some (.cells #[.int .i64 (op : Nat), .int .i64 (cl : Nat), .int .u32 (sq : Nat), .int .i64 (rg : Nat), .int .i64 (md : Nat), .int .u64 (tk : Nat), .int .u64 (tm : Nat)] 35 (0, 0))) := hW1 ▸ heap_alloc_new w _
  have CX : Hid (∀ W, Fr (fun _ _ => True) W1 W → W.heap[w.heap.size]? = some (.cells #[.int .i64 (op : Nat), .int .i64 (cl : Nat), .int .u32 (sq : Nat), .int .i64 (rg : Nat), .int .i64 (md : Nat), .int .u64 (tk : Nat), .int .u64 (tm : Nat)] 35 (0, 0))) := fun W f => f.keep _ _ X1.out trivial
  have h1' : decide ((op : Int) < 1) = false := by simp; omega
  have h7' : decide ((7 : Int) < op) = false := by simp; omega
  have hb : ∀ z : Nat, z < 256 → inByte (z : Int) = true := fun z h => by unfold inByte; rw [decide_eq_true (by omega), decide_eq_true (by omega)]; rfl
  have K1 := Lib.hid (byte8_yes W1 cl (hb cl hc))
  have K2 := Lib.hid (byte8_yes W1 rg (hb rg hr))
  have K3 := Lib.hid (byte8_yes W1 md (hb md hm))
  clear hb
  have v0 := cell_mk (i := 0) X1.out rfl
  have v1 := cell_mk (i := 1) X1.out rfl
  have v3 := cell_mk (i := 3) X1.out rfl
  have v4 := cell_mk (i := 4) X1.out rfl
  have u0 : IntKind.u64.wrap (op : Int) = op := by rw [IntKind.wrap_u64]; omega
  have u1 : IntKind.u64.wrap (cl : Int) = cl := by rw [IntKind.wrap_u64]; omega
  have u2 : IntKind.u64.wrap (sq : Int) = sq := by rw [IntKind.wrap_u64]; omega
  have u3 : IntKind.u64.wrap (rg : Int) = rg := by rw [IntKind.wrap_u64]; omega
  have u4 : IntKind.u64.wrap (md : Int) = md := by rw [IntKind.wrap_u64]; omega
  obtain ⟨W2, hW2⟩ : ∃ W, W1.alloc (.cells #[.slice none 0 0] 80 (0, 0)) = W := ⟨_, rfl⟩
  have l0 : LW W1 W2 W1.heap.size [] := hW2 ▸ LW.mk0 (Fr.refl _ _)
  have L0 := Lib.hid l0
  have c0 := cell_mk (i := 0) (CX.out W2 l0.fr) rfl
  have N0 := Lib.hid (lw_number W1 W2 W1.heap.size [] op 1 op 1 rfl rfl l0 (by omega) (by omega) (by omega) (by simp))
  clear l0
  go_enter Try.func13, Try.ntmps13
  go_wp2_with fail
  (with_reducible refine K1.out.mono ?_)
  rintro e w1 ⟨rfl, rfl⟩
  go_wp2_with fail
  (with_reducible refine K2.out.mono ?_)
  rintro e w1 ⟨rfl, rfl⟩
  go_wp2_with fail
  (with_reducible refine K3.out.mono ?_)
  rintro e w1 ⟨rfl, rfl⟩
  go_wp2_with fail
  (with_reducible refine N0.out.mono ?_)
  rintro e w2 ⟨rfl, l1⟩
  rw [List.nil_append] at l1
  have L1 := Lib.hid l1
  have c1 := cell_mk (i := 1) (CX.out w2 l1.fr) rfl
  have N1 := Lib.hid (lw_number W1 w2 W1.heap.size _ cl 1 cl 1 rfl rfl l1 (by omega) (by omega) (by omega) (by simp [le_length]))
  clear l1 N0 L0 c0 v0 v1 v3 v4 hW1 hW2 K1 K2 K3
  go_wp2_with fail
  (with_reducible refine N1.out.mono ?_)
  rintro e w3 ⟨rfl, l2⟩
  have L2 := Lib.hid l2
  have c2 := cell_mk (i := 2) (CX.out w3 l2.fr) rfl
  have N2 := Lib.hid (lw_number W1 w3 W1.heap.size _ sq 4 sq 4 rfl rfl l2 (by omega) (by omega) (by omega) (by simp [le_length]))
  clear l2 N1 L1 c1
  go_wp2_with fail
  (with_reducible refine N2.out.mono ?_)
  rintro e w4 ⟨rfl, l3⟩
  have L3 := Lib.hid l3
  have c3 := cell_mk (i := 3) (CX.out w4 l3.fr) rfl
  have N3 := Lib.hid (lw_number W1 w4 W1.heap.size _ rg 1 rg 1 rfl rfl l3 (by omega) (by omega) (by omega) (by simp [le_length]))
  clear l3 N2 L2 c2
  go_wp2_with fail
  (with_reducible refine N3.out.mono ?_)
  rintro e w5 ⟨rfl, l4⟩
  have L4 := Lib.hid l4
  have c4 := cell_mk (i := 4) (CX.out w5 l4.fr) rfl
  have N4 := Lib.hid (lw_number W1 w5 W1.heap.size _ md 1 md 1 rfl rfl l4 (by omega) (by omega) (by omega) (by simp [le_length]))
  clear l4 N3 L3 c3
  go_wp2_with fail
  (with_reducible refine N4.out.mono ?_)
  rintro e w6 ⟨rfl, l5⟩
  have L5 := Lib.hid l5
  have c5 := cell_mk (i := 5) (CX.out w6 l5.fr) rfl
  have N5 := Lib.hid (lw_number W1 w6 W1.heap.size _ tk 8 tk 8 rfl rfl l5 (by omega) (by omega) (by omega) (by simp [le_length]))
  clear l5 N4 L4 c4
  go_wp2_with fail
  (with_reducible refine N5.out.mono ?_)
  rintro e w7 ⟨rfl, l6⟩
  have L6 := Lib.hid l6
  have c6 := cell_mk (i := 6) (CX.out w7 l6.fr) rfl
  have N6 := Lib.hid (lw_number W1 w7 W1.heap.size _ tm 8 tm 8 rfl rfl l6 (by omega) (by omega) (by omega) (by simp [le_length]))
  clear l6 N5 L5 c5
  go_wp2_with fail
  (with_reducible refine N6.out.mono ?_)
  rintro e w8 ⟨rfl, l7⟩
  have L7 := Lib.hid l7
  have hbl : (le op 1 ++ le cl 1 ++ le sq 4 ++ le rg 1 ++ le md 1 ++ le tk 8 ++ le tm 8).length = 24 := by simp [le_length]
  obtain ⟨bs, hbs⟩ : ∃ bs, le op 1 ++ le cl 1 ++ le sq 4 ++ le rg 1 ++ le md 1 ++ le tk 8 ++ le tm 8 = bs := ⟨_, rfl⟩
  rw [hbs] at l7 hbl
  have HBS := Lib.hid hbs
  have OC := lw_out W1 w8 W1.heap.size bs l7 (by omega)
  rw [hbl] at OC
  have OCH := Lib.hid OC
  have SZ : Hid (w.heap.size ≤ w8.heap.size) := Nat.le_trans F1.out.size l7.fr.size
  clear l7 L7 hbs hbl OC N6 L6 c6
  go_wp2_with fail
  (with_reducible refine OCH.out.mono ?_)
  rintro e w9 ⟨⟨a9, c9, rfl, b9⟩, f9⟩
  have B9 := Lib.hid b9
  have F9 := Lib.hid f9
  clear b9 f9 OCH
  go_wp2
  go_ret2
  rw [HBS.out]
  exact ⟨⟨a9, c9, rfl, B9.out.mono fun c o _ ⟨h, r⟩ => ⟨Nat.le_trans SZ.out h, r⟩⟩, F1.out.trans F9.out⟩
theorem fine_parts {c : Cmd} (h : c.fine = true) : ∃ op cl rg md : Nat, c.op = op ∧ c.cl = cl ∧ c.rg = rg ∧ c.md = md ∧ 1 ≤ op ∧ op ≤ 7 ∧ cl < 256 ∧ rg < 256 ∧ md < 256 := by
  unfold Cmd.fine inByte at h
  simp only [Bool.and_eq_true, decide_eq_true_eq] at h
  exact ⟨c.op.toNat, c.cl.toNat, c.rg.toNat, c.md.toNat, by omega, by omega, by omega, by omega, by omega, by omega, by omega, by omega, by omega⟩
theorem enc_calls (w : World) (c : Cmd) (hc : c.ok) : Calls Try.prog 13 #[vC c] w fun e w' => (∃ a cap, e = .returned (.tuple #[.slice a (encM c).1.length cap, .int .i64 ((encM c).2 : Nat)]) ∧ BytesAt (New w.heap.size) w' (.slice a (encM c).1.length cap) (encM c).1) ∧ Fr (fun _ _ => True) w w' := by
  cases h : c.fine with
  | false =>
    have e : encM c = ([], 1) := by unfold encM; rw [h]; rfl
    rw [e]
    exact (enc_bad w c h).mono fun e w' ⟨he, hf⟩ => ⟨⟨none, 0, he, BytesAt.nil _ _⟩, hf⟩
  | true =>
    have e : encM c = (cmdB c, 0) := by unfold encM; rw [h]; rfl
    rw [e]
    show Calls _ _ _ _ fun e w' => (∃ a cap, e = .returned (.tuple #[.slice a (cmdB c).length cap, .int .i64 ((0 : Nat) : Int)]) ∧ BytesAt (New w.heap.size) w' (.slice a (cmdB c).length cap) (cmdB c)) ∧ Fr (fun _ _ => True) w w'
    rw [cmdB_len]
    obtain ⟨op, cl, rg, md, e1, e2, e3, e4, g1, g2, g3, g4, g5⟩ := fine_parts h
    obtain ⟨cop, ccl, sq, crg, cmd, tk, tm⟩ := c
    dsimp only at e1 e2 e3 e4
    subst e1 e2 e3 e4
    have := enc_good w op cl sq rg md tk tm g1 g2 g3 g4 g5 hc.s hc.k hc.t
    unfold vC cmdB
    simp only [Int.toNat_natCast]
    exact this
end Go.Proofs.Ytlolfcnfcgegdaa
/- Readers of the function's own: the program's and the document's. -/
namespace Go.Proofs.Ytlolfcnfcgegdaa
open Go.RowKit
set_option linter.unusedVariables false
set_option linter.unusedSimpArgs false

/-- A reader that is new since W0, over bytes that were there in W0. -/
structure LR (W0 w : World) (br : Nat) (bs : List UInt8) (sh : Bool) : Prop where
  new : W0.heap.size ≤ br
  at' : ∃ v, RdrAt (fun c _ => c < W0.heap.size) w br v bs sh
  fr : Fr (fun _ _ => True) W0 w
theorem LR.mk0 {K : Nat → Obj → Prop} {W0 w : World} {v : Value} {bs : List UInt8} (h : Fr (fun _ _ => True) W0 w) (hb : BytesAt K W0 v bs) : LR W0 (w.alloc (.cells #[v, .bool false] 107 (0, 0))) w.heap.size bs false :=
  ⟨h.size, ⟨v, heap_alloc_new _ _, ((hb.mono (K' := fun c _ => c < W0.heap.size) fun _ _ hb _ => lt_of_some hb).tt h).tt ((Fr.refl _ _).alloc _), fun cs fz hk => by have := h.size; omega⟩, h.alloc _⟩
theorem LR.tt {W0 w w' : World} {br : Nat} {bs : List UInt8} {sh : Bool} (h : LR W0 w br bs sh) (hf : Fr (fun _ _ => True) w w') : LR W0 w' br bs sh := by
  obtain ⟨v, hv⟩ := h.at'
  exact ⟨h.new, ⟨v, hf.keep _ _ hv.top trivial, hv.bytes.tt hf, hv.off⟩, h.fr.trans hf⟩
theorem lr_number (W0 w : World) (br : Nat) (bs : List UInt8) (sh : Bool) (n : Nat) (sz : Int) (hsz : sz = n) (h : LR W0 w br bs sh) (h1 : 1 ≤ n) (h8 : n ≤ 8) (hm : bs.length ≤ 140737488355328) (x : Nat) (r : List UInt8) (s : Bool) (hr : numR bs sh n = (x, r, s)) :
    Calls Try.prog 35 #[.pointer (some ⟨br, 0, none⟩), .int .i64 sz] w fun e w' => e = .returned (.int .u64 (x : Nat)) ∧ LR W0 w' br r s ∧ Fr (fun c _ => c ≠ br) w w' := by
  subst hsz
  obtain ⟨v, hv⟩ := h.at'
  refine (rnum_calls w br v bs sh n hv h1 h8 hm).mono fun e w' ⟨he, hv', hf⟩ => ?_
  rw [hr] at he hv'
  exact ⟨he, ⟨h.new, hv', old_tt h.fr hf fun b o hb => by have := h.new; omega⟩, hf⟩
/-- What bytes read as bytes. -/
def bytR (bs : List UInt8) (sh : Bool) : List UInt8 × List UInt8 × Bool :=
  if (numR bs sh 2).2.2 = true ∨ 1000 < (numR bs sh 2).1 ∨ (numR bs sh 2).2.1.length < (numR bs sh 2).1 then ([], [], true) else ((numR bs sh 2).2.1.take (numR bs sh 2).1, (numR bs sh 2).2.1.drop (numR bs sh 2).1, false)
theorem numR_shut {bs : List UInt8} {sh : Bool} {n : Nat} (h : (numR bs sh n).2.2 = true) : (numR bs sh n).1 = 0 ∧ (numR bs sh n).2.1 = [] := by
  unfold numR at h ⊢
  split
  · exact ⟨rfl, rfl⟩
  next q => rw [if_neg q] at h; simp at h
theorem numR_len (bs : List UInt8) (sh : Bool) (n : Nat) : (numR bs sh n).2.1.length ≤ bs.length := by
  unfold numR; split <;> simp
theorem numR_lt (bs : List UInt8) (sh : Bool) (n : Nat) : (numR bs sh n).1 < 256 ^ n := by
  unfold numR
  split
  · exact Nat.pow_pos (by decide)
  next q =>
    have := ofLE_lt (bs.take n)
    rwa [List.length_take, Nat.min_eq_left (by omega)] at this
theorem bytR_len (bs : List UInt8) (sh : Bool) : (bytR bs sh).2.1.length ≤ bs.length ∧ (bytR bs sh).1.length ≤ 1000 := by
  have := numR_len bs sh 2
  unfold bytR
  split
  · simp
  next q => simp; omega

/-- How a reader ended. -/
def endL (bs : List UInt8) (sh : Bool) : Int := if sh then 10 else if 0 < bs.length then 11 else 0
set_option maxRecDepth 100000 in
theorem lr_end (W0 w : World) (br : Nat) (bs : List UInt8) (sh : Bool) (h : LR W0 w br bs sh) (hm : bs.length ≤ 140737488355328) :
    Calls Try.prog 36 #[.pointer (some ⟨br, 0, none⟩)] w fun e w' => e = .returned (.int .i64 (endL bs sh)) ∧ w = w' := by
  obtain ⟨v, hv⟩ := h.at'
  obtain ⟨a, cap, rfl⟩ := hv.bytes.form
  have c0 := cell_mk (i := 0) hv.top rfl
  have c1 := cell_mk (i := 1) hv.top rfl
  clear h hv
  cases sh with
  | true =>
    go_enter Try.func36, Try.ntmps36
    go_wp2
    go_ret
    exact ⟨rfl, rfl⟩
  | false =>
    by_cases hl : 0 < bs.length
    · have HE : Hid (endL bs false = 11) := by unfold endL; rw [if_neg (by decide), if_pos hl]; rfl
      have hl' : (0 : Int) < bs.length := by omega
      go_enter Try.func36, Try.ntmps36
      go_wp2
      go_ret
      exact ⟨by rw [HE.out]; rfl, rfl⟩
    · have HE : Hid (endL bs false = 0) := by unfold endL; rw [if_neg (by decide), if_neg hl]; rfl
      have hl' : (bs.length : Int) ≤ 0 := by omega
      go_enter Try.func36, Try.ntmps36
      go_wp2
      go_ret
      exact ⟨by rw [HE.out]; rfl, rfl⟩
end Go.Proofs.Ytlolfcnfcgegdaa
/- Bytes as commands: Decode, plainly and of the program. -/
namespace Go.Proofs.Ytlolfcnfcgegdaa
open Go.RowKit
set_option linter.unusedVariables false
set_option linter.unusedSimpArgs false

def dec24 (b : List UInt8) : Cmd := ⟨(ofLE (b.take 1) : Nat), (ofLE ((b.drop 1).take 1) : Nat), ofLE ((b.drop 2).take 4), (ofLE ((b.drop 6).take 1) : Nat), (ofLE ((b.drop 7).take 1) : Nat), ofLE ((b.drop 8).take 8), ofLE ((b.drop 16).take 8)⟩
def zeroC : Cmd := ⟨0, 0, 0, 0, 0, 0, 0⟩
def decM (b : List UInt8) : Cmd × Nat := if b.length < 24 then (zeroC, 10) else if 24 < b.length then (zeroC, 11) else if (dec24 b).op < 1 ∨ 7 < (dec24 b).op then (zeroC, 1) else (dec24 b, 0)
theorem dec_chain {b r1 r2 r3 r4 r5 r6 r7 : List UInt8} {x1 x2 x3 x4 x5 x6 x7 : Nat} {s1 s2 s3 s4 s5 s6 s7 : Bool}
    (h1 : numR b false 1 = (x1, r1, s1)) (h2 : numR r1 s1 1 = (x2, r2, s2)) (h3 : numR r2 s2 4 = (x3, r3, s3)) (h4 : numR r3 s3 1 = (x4, r4, s4)) (h5 : numR r4 s4 1 = (x5, r5, s5)) (h6 : numR r5 s5 8 = (x6, r6, s6)) (h7 : numR r6 s6 8 = (x7, r7, s7)) :
    (b.length < 24 ∧ s7 = true) ∨ (24 ≤ b.length ∧ s7 = false ∧ r7 = b.drop 24 ∧ dec24 b = ⟨(x1 : Nat), (x2 : Nat), x3, (x4 : Nat), (x5 : Nat), x6, x7⟩) := by
  cases s7 with
  | true =>
    refine .inl ⟨?_, rfl⟩
    refine Nat.lt_of_not_le fun hl => ?_
    rw [numR_ge b 1 (by omega)] at h1; cases h1
    rw [numR_ge _ 1 (by rw [List.length_drop]; omega)] at h2; cases h2
    rw [numR_ge _ 4 (by simp only [List.length_drop]; omega)] at h3; cases h3
    rw [numR_ge _ 1 (by simp only [List.length_drop]; omega)] at h4; cases h4
    rw [numR_ge _ 1 (by simp only [List.length_drop]; omega)] at h5; cases h5
    rw [numR_ge _ 8 (by simp only [List.length_drop]; omega)] at h6; cases h6
    rw [numR_ge _ 8 (by simp only [List.length_drop]; omega)] at h7; cases h7
  | false =>
    obtain ⟨rfl, l7, rfl, rfl⟩ := numR_ok h7
    obtain ⟨rfl, l6, rfl, rfl⟩ := numR_ok h6
    obtain ⟨rfl, l5, rfl, rfl⟩ := numR_ok h5
    obtain ⟨rfl, l4, rfl, rfl⟩ := numR_ok h4
    obtain ⟨rfl, l3, rfl, rfl⟩ := numR_ok h3
    obtain ⟨rfl, l2, rfl, rfl⟩ := numR_ok h2
    obtain ⟨_, l1, rfl, rfl⟩ := numR_ok h1
    simp only [List.drop_drop, List.length_drop] at *
    refine .inr ⟨by omega, ?_, ?_, ?_⟩ <;> first | trivial | rfl
theorem LR.frk {W0 w w' : World} {br : Nat} {bs : List UInt8} {sh : Bool} {K : Nat → Obj → Prop} (h : LR W0 w br bs sh) (hf : Fr K w w') (hk : ∀ c o, c = br ∨ c < W0.heap.size → K c o) : LR W0 w' br bs sh := by
  obtain ⟨v, hv⟩ := h.at'
  refine ⟨h.new, ⟨v, hf.keep _ _ hv.top (hk _ _ (.inl rfl)), ?_, hv.off⟩, old_tt h.fr hf fun b o hb => hk b o (.inr hb)⟩
  have h1 : BytesAt (fun c o => (c < W0.heap.size) ∧ K c o) w v bs := hv.bytes.mono fun c o _ hc => ⟨hc, hk c o (.inr hc)⟩
  exact (h1.fr (hf.mono fun _ _ h => h.2)).mono fun _ _ _ h => h.1
theorem set7 {w : World} {g : Nat} {t : TypeId} {a0 a1 a2 a3 a4 a5 a6 : Value} (h : w.heap[g]? = some (.cells #[a0, a1, a2, a3, a4, a5, a6] t (0, 0))) (v0 v1 v2 v3 v4 v5 v6 : Value) :
    ∃ W, (((((((w.setCell ⟨g, 0, none⟩ v0).setCell ⟨g, 1, none⟩ v1).setCell ⟨g, 2, none⟩ v2).setCell ⟨g, 3, none⟩ v3).setCell ⟨g, 4, none⟩ v4).setCell ⟨g, 5, none⟩ v5).setCell ⟨g, 6, none⟩ v6) = W ∧ W.heap[g]? = some (.cells #[v0, v1, v2, v3, v4, v5, v6] t (0, 0)) ∧ Fr (fun c _ => c ≠ g) w W := by
  have h0 : (w.setCell ⟨g, 0, none⟩ v0).heap[g]? = some (.cells #[v0, a1, a2, a3, a4, a5, a6] t (0, 0)) := heap_setCell_same (o := 0) h v0
  have h1 : ((w.setCell ⟨g, 0, none⟩ v0).setCell ⟨g, 1, none⟩ v1).heap[g]? = some (.cells #[v0, v1, a2, a3, a4, a5, a6] t (0, 0)) := heap_setCell_same (o := 1) h0 v1
  have h2 : (((w.setCell ⟨g, 0, none⟩ v0).setCell ⟨g, 1, none⟩ v1).setCell ⟨g, 2, none⟩ v2).heap[g]? = some (.cells #[v0, v1, v2, a3, a4, a5, a6] t (0, 0)) := heap_setCell_same (o := 2) h1 v2
  have h3 : ((((w.setCell ⟨g, 0, none⟩ v0).setCell ⟨g, 1, none⟩ v1).setCell ⟨g, 2, none⟩ v2).setCell ⟨g, 3, none⟩ v3).heap[g]? = some (.cells #[v0, v1, v2, v3, a4, a5, a6] t (0, 0)) := heap_setCell_same (o := 3) h2 v3
  have h4 : (((((w.setCell ⟨g, 0, none⟩ v0).setCell ⟨g, 1, none⟩ v1).setCell ⟨g, 2, none⟩ v2).setCell ⟨g, 3, none⟩ v3).setCell ⟨g, 4, none⟩ v4).heap[g]? = some (.cells #[v0, v1, v2, v3, v4, a5, a6] t (0, 0)) := heap_setCell_same (o := 4) h3 v4
  have h5 : ((((((w.setCell ⟨g, 0, none⟩ v0).setCell ⟨g, 1, none⟩ v1).setCell ⟨g, 2, none⟩ v2).setCell ⟨g, 3, none⟩ v3).setCell ⟨g, 4, none⟩ v4).setCell ⟨g, 5, none⟩ v5).heap[g]? = some (.cells #[v0, v1, v2, v3, v4, v5, a6] t (0, 0)) := heap_setCell_same (o := 5) h4 v5
  have h6 : (((((((w.setCell ⟨g, 0, none⟩ v0).setCell ⟨g, 1, none⟩ v1).setCell ⟨g, 2, none⟩ v2).setCell ⟨g, 3, none⟩ v3).setCell ⟨g, 4, none⟩ v4).setCell ⟨g, 5, none⟩ v5).setCell ⟨g, 6, none⟩ v6).heap[g]? = some (.cells #[v0, v1, v2, v3, v4, v5, v6] t (0, 0)) := heap_setCell_same (o := 6) h5 v6
  exact ⟨_, rfl, h6, (((((((Fr.refl _ _).setCell (fun _ _ h => h rfl) _).setCell (fun _ _ h => h rfl) _).setCell (fun _ _ h => h rfl) _).setCell (fun _ _ h => h rfl) _).setCell (fun _ _ h => h rfl) _).setCell (fun _ _ h => h rfl) _).setCell (fun _ _ h => h rfl) _⟩
set_option maxRecDepth 100000 in
set_option maxHeartbeats 2000000 in
theorem dec_calls {K : Nat → Obj → Prop} (w : World) (v : Value) (b : List UInt8) (hb : BytesAt K w v b) (hm : b.length ≤ 1000000) :
    Calls Try.prog 16 #[v] w fun e w' => e = .returned (.tuple #[vC (decM b).1, .int .i64 ((decM b).2 : Nat)]) ∧ Fr (fun _ _ => True) w w' := by
  obtain ⟨av, cv, rfl⟩ := hb.form
  obtain ⟨W1, hW1⟩ : ∃ W, w.alloc (.cells #[.int .i64 0, .int .i64 0, .int .u32 0, .int .i64 0, .int .i64 0, .int .u64 0, .int .u64 0] 35 (0, 0)) = W := ⟨_, rfl⟩
  have F1 : Hid (Fr (fun _ _ => True) w W1) := hW1 ▸ (Fr.refl _ _).alloc _
  have X1 : Hid (W1.heap[w.heap.size]? = some (.cells #[.int .i64 0, .int .i64 0, .int .u32 0, .int .i64 0, .int .i64 0, .int .u64 0, .int .u64 0] 35 (0, 0))) := hW1 ▸ heap_alloc_new w _
  obtain ⟨W2, hW2⟩ : ∃ W, W1.alloc (.cells #[.slice av b.length cv, .bool false] 107 (0, 0)) = W := ⟨_, rfl⟩
  have l0 : LR W1 W2 W1.heap.size b false := hW2 ▸ LR.mk0 (Fr.refl _ _) (hb.tt F1.out)
  have L0 := Lib.hid l0
  have HLEN := Lib.hid hm
  have RC := Lib.hid (read_calls W1 av b.length cv)
  rw [hW2] at RC
  clear hm hb hW2
  go_enter Try.func16, Try.ntmps16
  go_wp2_with fail
  (with_reducible refine RC.out.mono ?_)
  rintro e w1 ⟨rfl, rfl⟩
  obtain ⟨x1, r1, s1, n1⟩ : ∃ x r s, numR b false 1 = (x, r, s) := ⟨_, _, _, rfl⟩
  have C1 := Lib.hid (lr_number W1 w1 W1.heap.size b false 1 1 rfl l0 (by omega) (by omega) (by have := HLEN.out; omega) x1 r1 s1 n1)
  have hx1 := numR_lt b false 1
  have rl1 := numR_len b false 1
  rw [n1] at hx1 rl1
  dsimp only at hx1 rl1
  have HN1 := Lib.hid n1
  clear n1
  go_wp2_with fail
  (with_reducible refine C1.out.mono ?_)
  rintro e w2 ⟨rfl, l1, g1⟩
  have L1 := Lib.hid l1
  clear l0 L0 C1 g1 RC
  obtain ⟨x2, r2, s2, n2⟩ : ∃ x r s, numR r1 s1 1 = (x, r, s) := ⟨_, _, _, rfl⟩
  have C2 := Lib.hid (lr_number W1 w2 W1.heap.size r1 s1 1 1 rfl l1 (by omega) (by omega) (by have := HLEN.out; omega) x2 r2 s2 n2)
  have hx2 := numR_lt r1 s1 1
  have rl2 := numR_len r1 s1 1
  rw [n2] at hx2 rl2
  dsimp only at hx2 rl2
  have HN2 := Lib.hid n2
  clear n2
  go_wp2_with fail
  (with_reducible refine C2.out.mono ?_)
  rintro e w3 ⟨rfl, l2, g2⟩
  have L2 := Lib.hid l2
  clear l1 L1 C2 g2
  obtain ⟨x3, r3, s3, n3⟩ : ∃ x r s, numR r2 s2 4 = (x, r, s) := ⟨_, _, _, rfl⟩
  have C3 := Lib.hid (lr_number W1 w3 W1.heap.size r2 s2 4 4 rfl l2 (by omega) (by omega) (by have := HLEN.out; omega) x3 r3 s3 n3)
  have hx3 := numR_lt r2 s2 4
  have rl3 := numR_len r2 s2 4
  rw [n3] at hx3 rl3
  dsimp only at hx3 rl3
  have HN3 := Lib.hid n3
  clear n3
  go_wp2_with fail
  (with_reducible refine C3.out.mono ?_)
  rintro e w4 ⟨rfl, l3, g3⟩
  have L3 := Lib.hid l3
  have v1 : IntKind.i64.wrap (x1 : Int) = x1 := IntWalk.i64_in _ (by omega)
  have v2 : IntKind.i64.wrap (x2 : Int) = x2 := IntWalk.i64_in _ (by omega)
  have v3 : IntKind.u32.wrap (x3 : Int) = x3 := by rw [IntKind.wrap_u32]; omega
  clear l2 L2 C3 g3
  go_wp2_with fail
  obtain ⟨W5, hW5⟩ : ∃ W, w4.alloc (.cells #[.int .i64 (x1 : Nat), .int .i64 (x2 : Nat), .int .u32 (x3 : Nat), .int .i64 0, .int .i64 0, .int .u64 0, .int .u64 0] 35 (0, 0)) = W := ⟨_, rfl⟩
  rw [hW5]
  have F5 : Hid (Fr (fun _ _ => True) w4 W5) := hW5 ▸ (Fr.refl _ _).alloc _
  have T5 : Hid (W5.heap[w4.heap.size]? = some (.cells #[.int .i64 (x1 : Nat), .int .i64 (x2 : Nat), .int .u32 (x3 : Nat), .int .i64 0, .int .i64 0, .int .u64 0, .int .u64 0] 35 (0, 0))) := hW5 ▸ heap_alloc_new w4 _
  have l35 := l3.tt F5.out
  have NG : Hid (W1.heap.size < w4.heap.size) := by
    obtain ⟨v, hv⟩ := l3.at'
    exact lt_of_some hv.top
  clear l3 L3
  obtain ⟨x4, r4, s4, n4⟩ : ∃ x r s, numR r3 s3 1 = (x, r, s) := ⟨_, _, _, rfl⟩
  have C4 := Lib.hid (lr_number W1 W5 W1.heap.size r3 s3 1 1 rfl l35 (by omega) (by omega) (by have := HLEN.out; omega) x4 r4 s4 n4)
  have hx4 := numR_lt r3 s3 1
  have rl4 := numR_len r3 s3 1
  rw [n4] at hx4 rl4
  dsimp only at hx4 rl4
  have HN4 := Lib.hid n4
  clear n4
  (with_reducible refine C4.out.mono ?_)
  rintro e w5 ⟨rfl, l4, g4⟩
  have T6 : Hid (w5.heap[w4.heap.size]? = some (.cells #[.int .i64 (x1 : Nat), .int .i64 (x2 : Nat), .int .u32 (x3 : Nat), .int .i64 0, .int .i64 0, .int .u64 0, .int .u64 0] 35 (0, 0))) := g4.keep _ _ T5.out (by have := NG.out; omega)
  have F6 := Lib.hid g4
  have L4 := Lib.hid l4
  clear l35 C4 g4 T5 hW5
  obtain ⟨x5, r5, s5, n5⟩ : ∃ x r s, numR r4 s4 1 = (x, r, s) := ⟨_, _, _, rfl⟩
  have C5 := Lib.hid (lr_number W1 w5 W1.heap.size r4 s4 1 1 rfl l4 (by omega) (by omega) (by have := HLEN.out; omega) x5 r5 s5 n5)
  have hx5 := numR_lt r4 s4 1
  have rl5 := numR_len r4 s4 1
  rw [n5] at hx5 rl5
  dsimp only at hx5 rl5
  have HN5 := Lib.hid n5
  clear n5
  go_wp2_with fail
  (with_reducible refine C5.out.mono ?_)
  rintro e w6 ⟨rfl, l5, g5⟩
  have T7 : Hid (w6.heap[w4.heap.size]? = some (.cells #[.int .i64 (x1 : Nat), .int .i64 (x2 : Nat), .int .u32 (x3 : Nat), .int .i64 0, .int .i64 0, .int .u64 0, .int .u64 0] 35 (0, 0))) := g5.keep _ _ T6.out (by have := NG.out; omega)
  have F7 := Lib.hid g5
  have v4 : IntKind.i64.wrap (x4 : Int) = x4 := IntWalk.i64_in _ (by omega)
  have v5 : IntKind.i64.wrap (x5 : Int) = x5 := IntWalk.i64_in _ (by omega)
  obtain ⟨W7, hW7⟩ : ∃ W, (w6.setCell ⟨w4.heap.size, 3, none⟩ (.int .i64 (x4 : Nat))).setCell ⟨w4.heap.size, 4, none⟩ (.int .i64 (x5 : Nat)) = W := ⟨_, rfl⟩
  have F8 : Hid (Fr (fun c _ => c ≠ w4.heap.size) w6 W7) := hW7 ▸ ((Fr.refl _ _).setCell (fun _ _ h => h rfl) _).setCell (fun _ _ h => h rfl) _
  have T8 : Hid (W7.heap[w4.heap.size]? = some (.cells #[.int .i64 (x1 : Nat), .int .i64 (x2 : Nat), .int .u32 (x3 : Nat), .int .i64 (x4 : Nat), .int .i64 (x5 : Nat), .int .u64 0, .int .u64 0] 35 (0, 0))) := hW7 ▸ heap_setCell_same (o := 4) (heap_setCell_same (o := 3) T7.out _) _
  have l57 := l5.frk F8.out (fun c o h => by have := NG.out; omega)
  have k3 := cell_mk (i := 3) T7.out rfl
  have k4 := cell_mk (i := 4) T7.out rfl
  have z3 := frozen_mk (i := 3) T7.out
  have z4 := frozen_mk (i := 4) T7.out
  clear l4 L4 C5 g5 l5 T6 v1 v2 v3
  obtain ⟨x6, r6, s6, n6⟩ : ∃ x r s, numR r5 s5 8 = (x, r, s) := ⟨_, _, _, rfl⟩
  have C6 := Lib.hid (lr_number W1 W7 W1.heap.size r5 s5 8 8 rfl l57 (by omega) (by omega) (by have := HLEN.out; omega) x6 r6 s6 n6)
  have hx6 := numR_lt r5 s5 8
  have rl6 := numR_len r5 s5 8
  rw [n6] at hx6 rl6
  dsimp only at hx6 rl6
  have HN6 := Lib.hid n6
  clear n6
  go_wp2_with fail
  (with_reducible refine C6.out.mono ?_)
  rintro e w7 ⟨rfl, l6, g6⟩
  have T9 : Hid (w7.heap[w4.heap.size]? = some (.cells #[.int .i64 (x1 : Nat), .int .i64 (x2 : Nat), .int .u32 (x3 : Nat), .int .i64 (x4 : Nat), .int .i64 (x5 : Nat), .int .u64 0, .int .u64 0] 35 (0, 0))) := g6.keep _ _ T8.out (by have := NG.out; omega)
  have F9 := Lib.hid g6
  have L6 := Lib.hid l6
  clear l57 C6 g6 T7 T8 hW7 k3 k4 z3 z4 v4 v5
  obtain ⟨x7, r7, s7, n7⟩ : ∃ x r s, numR r6 s6 8 = (x, r, s) := ⟨_, _, _, rfl⟩
  have C7 := Lib.hid (lr_number W1 w7 W1.heap.size r6 s6 8 8 rfl l6 (by omega) (by omega) (by have := HLEN.out; omega) x7 r7 s7 n7)
  have hx7 := numR_lt r6 s6 8
  have rl7 := numR_len r6 s6 8
  rw [n7] at hx7 rl7
  dsimp only at hx7 rl7
  have HN7 := Lib.hid n7
  clear n7
  go_wp2_with fail
  (with_reducible refine C7.out.mono ?_)
  rintro e w8 ⟨rfl, l7, g7⟩
  have T10 : Hid (w8.heap[w4.heap.size]? = some (.cells #[.int .i64 (x1 : Nat), .int .i64 (x2 : Nat), .int .u32 (x3 : Nat), .int .i64 (x4 : Nat), .int .i64 (x5 : Nat), .int .u64 0, .int .u64 0] 35 (0, 0))) := g7.keep _ _ T9.out (by have := NG.out; omega)
  have F10 := Lib.hid g7
  obtain ⟨W9, hW9⟩ : ∃ W, (w8.setCell ⟨w4.heap.size, 5, none⟩ (.int .u64 (x6 : Nat))).setCell ⟨w4.heap.size, 6, none⟩ (.int .u64 (x7 : Nat)) = W := ⟨_, rfl⟩
  have F11 : Hid (Fr (fun c _ => c ≠ w4.heap.size) w8 W9) := hW9 ▸ ((Fr.refl _ _).setCell (fun _ _ h => h rfl) _).setCell (fun _ _ h => h rfl) _
  have T11 : Hid (W9.heap[w4.heap.size]? = some (.cells #[.int .i64 (x1 : Nat), .int .i64 (x2 : Nat), .int .u32 (x3 : Nat), .int .i64 (x4 : Nat), .int .i64 (x5 : Nat), .int .u64 (x6 : Nat), .int .u64 (x7 : Nat)] 35 (0, 0))) := hW9 ▸ heap_setCell_same (o := 6) (heap_setCell_same (o := 5) T10.out _) _
  have l79 := l7.frk F11.out (fun c o h => by have := NG.out; omega)
  have k5 := cell_mk (i := 5) T10.out rfl
  have k6 := cell_mk (i := 6) T10.out rfl
  have z5 := frozen_mk (i := 5) T10.out
  have z6 := frozen_mk (i := 6) T10.out
  have EC := Lib.hid (lr_end W1 W9 W1.heap.size r7 s7 l79 (by have := HLEN.out; omega))
  have FW : Hid (Fr (fun _ _ => True) W1 W9) := l79.fr
  have R9 : Hid (W9.heap[w.heap.size]? = some (.cells #[.int .i64 0, .int .i64 0, .int .u32 0, .int .i64 0, .int .i64 0, .int .u64 0, .int .u64 0] 35 (0, 0))) := l79.fr.keep _ _ X1.out trivial
  have CH := Lib.hid (dec_chain HN1.out HN2.out HN3.out HN4.out HN5.out HN6.out HN7.out)
  have NW : Hid (w.heap.size ≠ w4.heap.size) := by have := NG.out; have := lt_of_some X1.out; show _ ≠ _; omega
  clear l6 L6 C7 g7 l7 T9 l79
  go_wp2_with fail
  (with_reducible refine EC.out.mono ?_)
  rintro e w9 ⟨rfl, rfl⟩
  clear T10 hW9 k5 k6 z5 z6 EC hW1
  have a0 := cell_mk (i := 0) T11.out rfl
  have a1 := cell_mk (i := 1) T11.out rfl
  have a2 := cell_mk (i := 2) T11.out rfl
  have a3 := cell_mk (i := 3) T11.out rfl
  have a4 := cell_mk (i := 4) T11.out rfl
  have a5 := cell_mk (i := 5) T11.out rfl
  have a6 := cell_mk (i := 6) T11.out rfl
  have q0 := cell_mk (i := 0) R9.out rfl
  have q1 := cell_mk (i := 1) R9.out rfl
  have q2 := cell_mk (i := 2) R9.out rfl
  have q3 := cell_mk (i := 3) R9.out rfl
  have q4 := cell_mk (i := 4) R9.out rfl
  have q5 := cell_mk (i := 5) R9.out rfl
  have q6 := cell_mk (i := 6) R9.out rfl
  have y0 := frozen_mk (i := 0) R9.out
  have y1 := frozen_mk (i := 1) R9.out
  have y2 := frozen_mk (i := 2) R9.out
  have y3 := frozen_mk (i := 3) R9.out
  have y4 := frozen_mk (i := 4) R9.out
  have y5 := frozen_mk (i := 5) R9.out
  have y6 := frozen_mk (i := 6) R9.out
  have FIN : Hid (∀ WZ, Fr (fun c _ => c ≠ w.heap.size) W9 WZ → Fr (fun _ _ => True) w WZ) := fun WZ f => Fr.within (((F1.out.trans FW.out).mono fun _ _ _ => trivial).trans (f.mono fun c _ h => by have := h.2; omega))
  rcases CH.out with ⟨hl, hs⟩ | ⟨hl, hs, hr, hd⟩
  · have EN : Hid (endL r7 s7 = 10) := by show _ = _; rw [hs]; rfl
    have ED : Hid (decM b = (zeroC, 10)) := by show _ = _; unfold decM; rw [if_pos hl]
    clear hl hs CH
    rw [EN.out]
    obtain ⟨WZ, hWZ, TZ, FZ⟩ := set7 R9.out (.int .i64 0) (.int .i64 0) (.int .u32 0) (.int .i64 0) (.int .i64 0) (.int .u64 0) (.int .u64 0)
    have p0 := cell_mk (i := 0) TZ rfl
    have p1 := cell_mk (i := 1) TZ rfl
    have p2 := cell_mk (i := 2) TZ rfl
    have p3 := cell_mk (i := 3) TZ rfl
    have p4 := cell_mk (i := 4) TZ rfl
    have p5 := cell_mk (i := 5) TZ rfl
    have p6 := cell_mk (i := 6) TZ rfl
    have FZH := Lib.hid FZ
    clear FZ TZ
    go_wp2
    refine bodyPost_ret (v := .tuple #[.agg #[.int .i64 0, .int .i64 0, .int .u32 0, .int .i64 0, .int .i64 0, .int .u64 0, .int .u64 0], .int .i64 10]) (by simp [results, Try.results16, go_sem, *]) rfl ⟨?_, ?_⟩
    · rw [ED.out]; rfl
    · exact FIN.out _ FZH.out
  · have hrl : r7.length = b.length - 24 := by rw [hr, List.length_drop]
    by_cases h24 : 24 < b.length
    · have EN : Hid (endL r7 s7 = 11) := by show _ = _; unfold endL; rw [hs, if_neg (by simp), if_pos (by omega)]
      have ED : Hid (decM b = (zeroC, 11)) := by show _ = _; unfold decM; rw [if_neg (by omega), if_pos h24]
      clear hl hs hr hd hrl h24 CH
      rw [EN.out]
      obtain ⟨WZ, hWZ, TZ, FZ⟩ := set7 R9.out (.int .i64 0) (.int .i64 0) (.int .u32 0) (.int .i64 0) (.int .i64 0) (.int .u64 0) (.int .u64 0)
      have p0 := cell_mk (i := 0) TZ rfl
      have p1 := cell_mk (i := 1) TZ rfl
      have p2 := cell_mk (i := 2) TZ rfl
      have p3 := cell_mk (i := 3) TZ rfl
      have p4 := cell_mk (i := 4) TZ rfl
      have p5 := cell_mk (i := 5) TZ rfl
      have p6 := cell_mk (i := 6) TZ rfl
      have FZH := Lib.hid FZ
      clear FZ TZ
      go_wp2
      refine bodyPost_ret (v := .tuple #[.agg #[.int .i64 0, .int .i64 0, .int .u32 0, .int .i64 0, .int .i64 0, .int .u64 0, .int .u64 0], .int .i64 11]) (by simp [results, Try.results16, go_sem, *]) rfl ⟨?_, ?_⟩
      · rw [ED.out]; rfl
      · exact FIN.out _ FZH.out
    · have EN : Hid (endL r7 s7 = 0) := by show _ = _; unfold endL; rw [hs, if_neg (by simp), if_neg (by omega)]
      have HD := Lib.hid hd
      by_cases h1 : 1 ≤ x1
      · have h1' : decide ((x1 : Int) < 1) = false := by simp; omega
        by_cases h7 : x1 ≤ 7
        · have h7' : decide ((7 : Int) < x1) = false := by simp; omega
          have ED : Hid (decM b = (⟨(x1 : Nat), (x2 : Nat), x3, (x4 : Nat), (x5 : Nat), x6, x7⟩, 0)) := by show _ = _; unfold decM; rw [if_neg (by omega), if_neg h24, hd, if_neg (by show ¬ ((x1 : Int) < 1 ∨ 7 < (x1 : Int)); omega)]
          clear hl hs hr hd hrl h24 CH h1 h7
          rw [EN.out]
          obtain ⟨WZ, hWZ, TZ, FZ⟩ := set7 R9.out (.int .i64 (x1 : Nat)) (.int .i64 (x2 : Nat)) (.int .u32 (x3 : Nat)) (.int .i64 (x4 : Nat)) (.int .i64 (x5 : Nat)) (.int .u64 (x6 : Nat)) (.int .u64 (x7 : Nat))
          have p0 := cell_mk (i := 0) TZ rfl
          have p1 := cell_mk (i := 1) TZ rfl
          have p2 := cell_mk (i := 2) TZ rfl
          have p3 := cell_mk (i := 3) TZ rfl
          have p4 := cell_mk (i := 4) TZ rfl
          have p5 := cell_mk (i := 5) TZ rfl
          have p6 := cell_mk (i := 6) TZ rfl
          have FZH := Lib.hid FZ
          clear FZ TZ
          go_wp2
          refine bodyPost_ret (v := .tuple #[.agg #[.int .i64 (x1 : Nat), .int .i64 (x2 : Nat), .int .u32 (x3 : Nat), .int .i64 (x4 : Nat), .int .i64 (x5 : Nat), .int .u64 (x6 : Nat), .int .u64 (x7 : Nat)], .int .i64 0]) (by simp [results, Try.results16, go_sem, *]) rfl ⟨?_, ?_⟩
          · rw [ED.out]; rfl
          · exact FIN.out _ FZH.out
        · have h7' : decide ((7 : Int) < x1) = true := by simp; omega
          have ED : Hid (decM b = (zeroC, 1)) := by show _ = _; unfold decM; rw [if_neg (by omega), if_neg h24, hd, if_pos (by show (x1 : Int) < 1 ∨ 7 < (x1 : Int); omega)]
          clear hl hs hr hd hrl h24 CH h1 h7
          rw [EN.out]
          obtain ⟨WZ, hWZ, TZ, FZ⟩ := set7 R9.out (.int .i64 0) (.int .i64 0) (.int .u32 0) (.int .i64 0) (.int .i64 0) (.int .u64 0) (.int .u64 0)
          have p0 := cell_mk (i := 0) TZ rfl
          have p1 := cell_mk (i := 1) TZ rfl
          have p2 := cell_mk (i := 2) TZ rfl
          have p3 := cell_mk (i := 3) TZ rfl
          have p4 := cell_mk (i := 4) TZ rfl
          have p5 := cell_mk (i := 5) TZ rfl
          have p6 := cell_mk (i := 6) TZ rfl
          have FZH := Lib.hid FZ
          clear FZ TZ
          go_wp2
          refine bodyPost_ret (v := .tuple #[.agg #[.int .i64 0, .int .i64 0, .int .u32 0, .int .i64 0, .int .i64 0, .int .u64 0, .int .u64 0], .int .i64 1]) (by simp [results, Try.results16, go_sem, *]) rfl ⟨?_, ?_⟩
          · rw [ED.out]; rfl
          · exact FIN.out _ FZH.out
      · have h1' : decide ((x1 : Int) < 1) = true := by simp; omega
        have ED : Hid (decM b = (zeroC, 1)) := by show _ = _; unfold decM; rw [if_neg (by omega), if_neg h24, hd, if_pos (by show (x1 : Int) < 1 ∨ 7 < (x1 : Int); omega)]
        clear hl hs hr hd hrl h24 CH h1
        rw [EN.out]
        obtain ⟨WZ, hWZ, TZ, FZ⟩ := set7 R9.out (.int .i64 0) (.int .i64 0) (.int .u32 0) (.int .i64 0) (.int .i64 0) (.int .u64 0) (.int .u64 0)
        have p0 := cell_mk (i := 0) TZ rfl
        have p1 := cell_mk (i := 1) TZ rfl
        have p2 := cell_mk (i := 2) TZ rfl
        have p3 := cell_mk (i := 3) TZ rfl
        have p4 := cell_mk (i := 4) TZ rfl
        have p5 := cell_mk (i := 5) TZ rfl
        have p6 := cell_mk (i := 6) TZ rfl
        have FZH := Lib.hid FZ
        clear FZ TZ
        go_wp2
        refine bodyPost_ret (v := .tuple #[.agg #[.int .i64 0, .int .i64 0, .int .u32 0, .int .i64 0, .int .i64 0, .int .u64 0, .int .u64 0], .int .i64 1]) (by simp [results, Try.results16, go_sem, *]) rfl ⟨?_, ?_⟩
        · rw [ED.out]; rfl
        · exact FIN.out _ FZH.out
end Go.Proofs.Ytlolfcnfcgegdaa
