/- Texts of the proofs, part 10: what the functions that they reach do, walked; no conditions beyond those that each states. -/
import Derived.StillTailTactics
import Derived.Test.YtlolfcnfcgegdaaGreatZz23f80e7529
set_option linter.unusedVariables false
set_option linter.unusedSimpArgs false
/- Writers and readers of the function's own. -/
namespace Go.Proofs.YtlolfcnfcgegdaaGreat
open Go.RowKit
set_option linter.unusedVariables false
set_option linter.unusedSimpArgs false

/-- A writer that is new since W0: nothing that was there in W0 is touched. -/
structure LW (W0 w : World) (bw : Nat) (bs : List UInt8) : Prop where
  new : W0.heap.size ≤ bw
  at' : ∃ v, WrAt w bw v bs ∧ ∀ k, v.ownBlock = some k → W0.heap.size ≤ k
  fr : Fr (fun _ _ => True) W0 w
theorem LW.mk0 {W0 w : World} (h : Fr (fun _ _ => True) W0 w) : LW W0 (w.alloc (.cells #[.slice none 0 0] 102 (0, 0))) w.heap.size [] :=
  ⟨h.size, ⟨.slice none 0 0, ⟨heap_alloc_new _ _, ⟨rfl, .inl ⟨rfl, rfl⟩⟩⟩, fun k e => by cases e⟩, h.alloc _⟩
theorem LW.tt {W0 w w' : World} {bw : Nat} {bs : List UInt8} (h : LW W0 w bw bs) (hf : Fr (fun _ _ => True) w w') : LW W0 w' bw bs := by
  obtain ⟨v, hv, hk⟩ := h.at'
  exact ⟨h.new, ⟨v, ⟨hf.keep _ _ hv.top trivial, ownsRow_fr hv.own hf fun _ _ _ _ => trivial⟩, hk⟩, h.fr.trans hf⟩
theorem old_tt {K : Nat → Obj → Prop} {a w w' : World} (h : Fr (fun _ _ => True) a w) (hf : Fr K w w') (hk : ∀ b o, b < a.heap.size → K b o) : Fr (fun _ _ => True) a w' :=
  ⟨hf.os.trans h.os, hf.tape.trans h.tape, hf.output.trans h.output, Nat.le_trans h.size hf.size, fun b o hb _ => hf.keep b o (h.keep b o hb trivial) (hk b o (lt_of_some hb))⟩
theorem lw_number (W0 w : World) (bw : Nat) (bs : List UInt8) (n size : Nat) (nz sz : Int) (hnz : nz = n) (hsz : sz = size) (h : LW W0 w bw bs) (h1 : 1 ≤ size) (h8 : size ≤ 8) (hn : n < 18446744073709551616) (hb : bs.length ≤ 1000000) :
    Calls Tryz.prog 48 #[.pointer (some ⟨bw, 0, none⟩), .int .u64 nz, .int .i64 sz] w fun e w' => e = .returned (.tuple #[]) ∧ LW W0 w' bw (bs ++ le n size) := by
  subst hnz hsz
  obtain ⟨v, hv, hk⟩ := h.at'
  refine (wnum_main w bw v bs n size hv h1 h8 hn hb).mono fun _ _ ⟨he, v', h1, h2, h3⟩ => ⟨he, h.new, ⟨v', h1, fun k e => ?_⟩, old_tt h.fr h2 fun b o hb => ⟨?_, fun e => ?_⟩⟩
  · rcases h3 with h3 | h3
    · exact hk k (h3 ▸ e)
    · have := h3 k e; have := h.fr.size; omega
  · have := h.new; omega
  · have := hk b e; omega
set_option maxRecDepth 100000 in
theorem lw_out (W0 w : World) (bw : Nat) (bs : List UInt8) (h : LW W0 w bw bs) (hb : bs.length ≤ 1000000) :
    Calls Tryz.prog 46 #[.pointer (some ⟨bw, 0, none⟩)] w fun e w' => (∃ a cap, e = .returned (.slice a bs.length cap) ∧ BytesAt (New w.heap.size) w' (.slice a bs.length cap) bs) ∧ Fr (fun _ _ => True) W0 w' := by
  obtain ⟨v, hv, hk⟩ := h.at'
  have hc : w.cell? ⟨bw, 0, none⟩ = some v := cell_mk hv.top rfl
  have hcl := clone_calls w v bs (BytesAt.of_owns hv.own) (by omega)
  have HC := Lib.hid hcl
  have HF0 := Lib.hid h.fr
  clear hcl h hv hk
  go_enter Tryz.func46, Tryz.ntmps46
  go_wp2_with fail
  (with_reducible refine HC.out.mono ?_)
  rintro e w1 ⟨a, cap, rfl, hb1, hf1⟩
  have HB := Lib.hid hb1
  have HF := Lib.hid hf1
  clear hb1 hf1
  go_wp2
  go_ret
  exact ⟨⟨_, _, rfl, HB.out⟩, HF0.out.trans HF.out⟩

/-- Bytes with their number ahead. -/
def byt (b : List UInt8) : List UInt8 := le (b.take 1000).length 2 ++ b.take 1000
theorem byt_length (b : List UInt8) : (byt b).length ≤ 1002 := by unfold byt; simp [le_length]; omega

theorem take_min {α : Type} (n : Nat) (b : List α) : b.take (min n b.length) = b.take n := by
  by_cases q : b.length ≤ n
  · rw [Nat.min_eq_right q, List.take_length, List.take_of_length_le q]
  · rw [Nat.min_eq_left (by omega)]
theorem own_basew {w : World} {B B' : Nat} {e : TypeId} {s : Nat} {v : Value} {n : Nat} {xs : List Value} (h : w.ownsRow B e s v n xs) (hk : ∀ k, v.ownBlock = some k → B' ≤ k) : w.ownsRow B' e s v n xs := by
  obtain ⟨h1, h2⟩ := h
  refine ⟨h1, ?_⟩
  rcases h2 with h2 | ⟨g, cap, cur, hv, hg, r⟩
  · exact .inl h2
  · exact .inr ⟨g, cap, cur, hv, hk g (by rw [hv]; rfl), r⟩
theorem LW.parts {W0 w : World} {bw : Nat} {bs : List UInt8} (h : LW W0 w bw bs) : ∃ v, w.cell? ⟨bw, 0, none⟩ = some v ∧ w.frozen? ⟨bw, 0, none⟩ = false ∧ RowB w W0.heap.size v bs.length bs ∧ v.ownBlock ≠ some bw := by
  obtain ⟨v, hv, hk⟩ := h.at'
  exact ⟨v, cell_mk hv.top rfl, frozen_mk hv.top, own_basew hv.own hk, hv.ne⟩
/-- The writer behind an append and a store. -/
theorem LW.store {W0 w w' : World} {bw : Nat} {bs r : List UInt8} {v v' : Value} (h : LW W0 w bw bs) (hc : w.cell? ⟨bw, 0, none⟩ = some v) (hr : RowB w' W0.heap.size v' r.length r) (hg : w.grownBy w' v.ownBlock) :
    w'.cell? ⟨bw, 0, none⟩ = some v ∧ w'.frozen? ⟨bw, 0, none⟩ = false ∧ LW W0 (w'.setCell ⟨bw, 0, none⟩ v') bw r := by
  obtain ⟨u, hv, hk⟩ := h.at'
  obtain rfl : u = v := by
    have := cell_mk (i := 0) hv.top rfl
    rw [hc] at this
    exact (Option.some.inj this).symm
  have ht := grown_block hg hv.top hv.ne
  have hne : v'.ownBlock ≠ some bw := by
    rcases hr.2 with ⟨e, _⟩ | ⟨g, cap, cur, e, _, hh, _⟩
    · subst e; simp [Value.ownBlock]
    · subst e
      intro e
      simp only [Value.ownBlock, Option.some.injEq] at e
      rw [e, ht] at hh
      cases hh
  have hF : Fr (fun _ _ => True) W0 w' := h.fr.grown_new hg hk
  refine ⟨cell_mk ht rfl, frozen_mk ht, h.new, ⟨v', ⟨heap_setCell_same ht _, own_basew (ownsRow_setCell_ne hr hne _) fun _ _ => Nat.zero_le _⟩, own_new hr⟩, hF.setCell_new h.new _⟩

/-- An append of bytes to a row of the function's own; what comes of it is hidden. -/
theorem wpList_append_hid {K0 : Nat → Obj → Prop} {ops : Array Oper} {rest : List Oper} {o : Oper} {a : Act} {Q : Exit → Act → World → Prop} (W : World) (hgd : o.guard = none) (s x : Operand)
    (ho : o.op = .call { callee := .builtin .append, args := #[s, x], argTypes := #[23, 23] }) (B : Nat) (hB : B ≤ W.heap.size) (v : Value) (n : Nat) (xs : List UInt8) (hs : a.eval s = v) (hown : Hid (RowB W B v n xs))
    (vx : Value) (bs : List UInt8) (hx : a.eval x = vx) (hb : Hid (BytesAt K0 W vx bs)) (N : Nat) (r : List UInt8) (hr : Hid (xs ++ bs = r)) (hN : Hid (n + bs.length = N)) (hn : N ≤ 2000000)
    (h : ∀ a' c' w', Hid (RowB w' B (.slice a' N c') N r) → Hid (W.grownBy w' v.ownBlock) → wpList Tryz.prog ops Q rest (a.put o.dst (.slice a' N c')) w') :
    wpList Tryz.prog ops Q (o :: rest) a W :=
  wpList_append_bytes W hgd s x ho B hB v n xs hs hown.out vx bs hx hb.out N r hr.out hN.out hn h

set_option maxRecDepth 100000 in
set_option maxHeartbeats 1000000 in
theorem lw_bytes1 {K : Nat → Obj → Prop} (W0 w : World) (bw : Nat) (bs : List UInt8) (a : Option Addr) (L m cap : Nat) (mz : Int) (t : List UInt8) (h : LW W0 w bw bs) (hb : BytesAt K W0 (.slice a m cap) t) (hm : bs.length ≤ 900000) (hL : L ≤ 140737488355328) (hmz : mz = m)
    (h1000 : m ≤ 1000) (hd : ((L : Int) ≤ 1000 ∧ mz = L) ∨ ((1000 : Int) < L ∧ mz = 1000)) (hcap : m ≤ cap) (r : List UInt8) (hr : r = bs ++ (le m 2 ++ t)) :
    Calls Tryz.prog 45 #[.pointer (some ⟨bw, 0, none⟩), .slice a L cap] w fun e w' => e = .returned (.tuple #[]) ∧ LW W0 w' bw r := by
  have HRI := Lib.hid hr
  clear hr
  have hml : m = t.length := hb.len
  have s1 := fun W => run_slice_to Tryz.underlying23 size_u8 W a L cap m .i64 hcap
  have K1 := Lib.hid (lw_number W0 w bw bs m 2 m 2 rfl rfl h (by omega) (by omega) (by omega) (by omega))
  rw [← hmz] at s1
  have HB := Lib.hid hb
  have HM := Lib.hid hml
  have hmc : (m : Int) ≤ 1000 := by omega
  have hm0 : (0 : Int) ≤ m := by omega
  have HMZ := Lib.hid hmz
  clear h hb hml hmz
  rcases hd with ⟨h1, rfl⟩ | ⟨h1, rfl⟩ <;>
  · go_enter Tryz.func45, Tryz.ntmps45
    go_wp2_with fail
    with_reducible refine K1.out.mono ?_
    rintro e1 w1 ⟨rfl, h1⟩
    have H1 := Lib.hid h1
    have HB1 := Lib.hid (HB.out.tt h1.fr)
    clear h1 K1 HB s1
    obtain ⟨u, c1, f1, hr, hne⟩ := H1.out.parts
    have HR := Lib.hid hr
    clear hr hne
    have hr := HRI.out
    have E1 : Hid ((bs ++ le m 2) ++ t = r) := by rw [hr]; simp [Hid]
    have E2 : Hid ((bs ++ le m 2).length + t.length = r.length) := by rw [hr]; simp [Hid]; omega
    have E3 : r.length ≤ 2000000 := by have := HM.out; rw [hr]; simp [le_length]; omega
    clear hr HRI
    generalize bs ++ le m 2 = x at *
    generalize x.length = X at *
    obtain ⟨R, hR⟩ : ∃ R, R = r.length := ⟨_, rfl⟩
    have HRR := Lib.hid hR
    rw [← hR] at E2 E3
    clear hR
    go_wp2_with (at_builtin; refine wpList_append_hid _ rfl _ _ rfl W0.heap.size H1.out.fr.size _ _ x rfl HR _ t rfl HB1 R r E1 E2 E3 ?_)
    intro a1 c2 w2 O1 G1
    obtain ⟨c3, f3, h3⟩ := H1.out.store (r := r) (v' := .slice a1 R c2) c1 (by have := O1.out; rwa [HRR.out] at this ⊢) G1.out
    have H3 := Lib.hid h3
    clear h3 O1 G1 H1 HR HB1 c1 f1
    go_wp2
    go_end0
    exact ⟨rfl, H3.out⟩
theorem lw_bytes {K : Nat → Obj → Prop} (W0 w : World) (bw : Nat) (bs : List UInt8) (v : Value) (b : List UInt8) (h : LW W0 w bw bs) (hb : BytesAt K W0 v b) (hm : bs.length ≤ 900000) (hbm : b.length ≤ 140737488355328) :
    Calls Tryz.prog 45 #[.pointer (some ⟨bw, 0, none⟩), v] w fun e w' => e = .returned (.tuple #[]) ∧ LW W0 w' bw (bs ++ byt b) := by
  obtain ⟨a, cap, rfl⟩ := hb.form
  have hcap := hb.cap
  have e : b.take (b.take 1000).length = b.take 1000 := by rw [List.length_take, take_min]
  have hbt := hb.take (b.take 1000).length (by simp; omega)
  rw [e] at hbt
  exact lw_bytes1 W0 w bw bs a b.length (b.take 1000).length cap (b.take 1000).length (b.take 1000) h hbt hm hbm rfl (by simp; omega) (by simp; omega) (by simp; omega) _ rfl
end Go.Proofs.YtlolfcnfcgegdaaGreat
/- Readers of the function's own: the program's and the document's. -/
namespace Go.Proofs.YtlolfcnfcgegdaaGreat
open Go.RowKit
set_option linter.unusedVariables false
set_option linter.unusedSimpArgs false

/-- A reader that is new since W0, over bytes that were there in W0. -/
structure LR (W0 w : World) (br : Nat) (bs : List UInt8) (sh : Bool) : Prop where
  new : W0.heap.size ≤ br
  at' : ∃ v, RdrAt (fun c _ => c < W0.heap.size) w br v bs sh
  fr : Fr (fun _ _ => True) W0 w
theorem LR.mk0 {K : Nat → Obj → Prop} {W0 w : World} {v : Value} {bs : List UInt8} (h : Fr (fun _ _ => True) W0 w) (hb : BytesAt K W0 v bs) : LR W0 (w.alloc (.cells #[v, .bool false] 146 (0, 0))) w.heap.size bs false :=
  ⟨h.size, ⟨v, heap_alloc_new _ _, ((hb.mono (K' := fun c _ => c < W0.heap.size) fun _ _ hb _ => lt_of_some hb).tt h).tt ((Fr.refl _ _).alloc _), fun cs fz hk => by have := h.size; omega⟩, h.alloc _⟩
theorem LR.tt {W0 w w' : World} {br : Nat} {bs : List UInt8} {sh : Bool} (h : LR W0 w br bs sh) (hf : Fr (fun _ _ => True) w w') : LR W0 w' br bs sh := by
  obtain ⟨v, hv⟩ := h.at'
  exact ⟨h.new, ⟨v, hf.keep _ _ hv.top trivial, hv.bytes.tt hf, hv.off⟩, h.fr.trans hf⟩
theorem lr_number (W0 w : World) (br : Nat) (bs : List UInt8) (sh : Bool) (n : Nat) (sz : Int) (hsz : sz = n) (h : LR W0 w br bs sh) (h1 : 1 ≤ n) (h8 : n ≤ 8) (hm : bs.length ≤ 140737488355328) (x : Nat) (r : List UInt8) (s : Bool) (hr : numR bs sh n = (x, r, s)) :
    Calls Tryz.prog 61 #[.pointer (some ⟨br, 0, none⟩), .int .i64 sz] w fun e w' => e = .returned (.int .u64 (x : Nat)) ∧ LR W0 w' br r s ∧ Fr (fun c _ => c ≠ br) w w' := by
  subst hsz
  obtain ⟨v, hv⟩ := h.at'
  refine (rnum_calls w br v bs sh n hv h1 h8 hm).mono fun e w' ⟨he, hv', hf⟩ => ?_
  rw [hr] at he hv'
  exact ⟨he, ⟨h.new, hv', old_tt h.fr hf fun b o hb => by have := h.new; omega⟩, hf⟩
/-- What bytes read as bytes. -/
def bytR (bs : List UInt8) (sh : Bool) : List UInt8 × List UInt8 × Bool :=
  if (numR bs sh 2).2.2 = true ∨ 1000 < (numR bs sh 2).1 ∨ (numR bs sh 2).2.1.length < (numR bs sh 2).1 then ([], [], true) else ((numR bs sh 2).2.1.take (numR bs sh 2).1, (numR bs sh 2).2.1.drop (numR bs sh 2).1, false)
theorem numR_shut {bs : List UInt8} {sh : Bool} {n : Nat} (h : (numR bs sh n).2.2 = true) : (numR bs sh n).1 = 0 ∧ (numR bs sh n).2.1 = [] := by
  unfold numR at h ⊢
  split
  · exact ⟨rfl, rfl⟩
  next q => rw [if_neg q] at h; simp at h
theorem numR_len (bs : List UInt8) (sh : Bool) (n : Nat) : (numR bs sh n).2.1.length ≤ bs.length := by
  unfold numR; split <;> simp
theorem numR_lt (bs : List UInt8) (sh : Bool) (n : Nat) : (numR bs sh n).1 < 256 ^ n := by
  unfold numR
  split
  · exact Nat.pow_pos (by decide)
  next q =>
    have := ofLE_lt (bs.take n)
    rwa [List.length_take, Nat.min_eq_left (by omega)] at this
theorem bytR_len (bs : List UInt8) (sh : Bool) : (bytR bs sh).2.1.length ≤ bs.length ∧ (bytR bs sh).1.length ≤ 1000 := by
  have := numR_len bs sh 2
  unfold bytR
  split
  · simp
  next q => simp; omega

set_option maxRecDepth 100000 in
set_option maxHeartbeats 1000000 in
theorem lr_bytes (W0 w : World) (br : Nat) (bs : List UInt8) (sh : Bool) (h : LR W0 w br bs sh) (hm : bs.length ≤ 140737488355000) (x r : List UInt8) (s : Bool) (hr : bytR bs sh = (x, r, s)) :
    Calls Tryz.prog 52 #[.pointer (some ⟨br, 0, none⟩)] w fun e w' => (∃ a cap, e = .returned (.slice a x.length cap) ∧ BytesAt (New w.heap.size) w' (.slice a x.length cap) x) ∧ LR W0 w' br r s ∧ Fr (fun c _ => c ≠ br) w w' := by
  have K1 := Lib.hid (lr_number W0 w br bs sh 2 2 rfl h (by omega) (by omega) (by omega) (numR bs sh 2).1 (numR bs sh 2).2.1 (numR bs sh 2).2.2 rfl)
  have hl := numR_len bs sh 2
  have hlt := numR_lt bs sh 2
  have HS := Lib.hid (numR_shut (bs := bs) (sh := sh) (n := 2))
  unfold bytR at hr
  have HR := Lib.hid hr
  have HL := Lib.hid hm
  generalize (numR bs sh 2).1 = n at *
  generalize (numR bs sh 2).2.1 = q at *
  generalize (numR bs sh 2).2.2 = s1 at *
  have hn : n < 65536 := by simpa using hlt
  have hqb : q.length ≤ 140737488355000 := by omega
  clear h hr hm hl hlt
  go_enter Tryz.func52, Tryz.ntmps52
  go_wp2_with fail
  with_reducible refine K1.out.mono ?_
  rintro e1 w1 ⟨rfl, h1, f1⟩
  have H1 := Lib.hid h1
  have F1 := Lib.hid f1
  clear h1 f1 K1
  obtain ⟨v, hv⟩ := H1.out.at'
  obtain ⟨a, cap, rfl⟩ := hv.bytes.form
  have c0 := cell_mk (i := 0) hv.top rfl
  have HV := Lib.hid hv
  clear hv
  by_cases hno : s1 = true ∨ 1000 < n ∨ q.length < n
  · have hrr := HR.out
    rw [if_pos hno] at hrr
    obtain ⟨rfl, rfl, rfl⟩ : x = [] ∧ r = [] ∧ s = true := by simpa using hrr.symm
    clear hrr HR
    have HT : Hid (∀ k : Nat, s1 = true ∨ q.length < k → k ≤ 140737488355328 → Calls Tryz.prog 83 #[.pointer (some ⟨br, 0, none⟩), .int .i64 (k : Nat)] w1 fun e w' => e = .returned (.slice none 0 0) ∧ RdrAt (fun c _ => c < W0.heap.size) w' br (.slice none 0 0) [] true ∧ Fr (fun b _ => b ≠ br) w1 w') := fun k hk hk2 => take_no w1 br _ q s1 k HV.out hk hk2
    have HNO := Lib.hid hno
    clear hno
    have fin : Hid (∀ w2, RdrAt (fun c _ => c < W0.heap.size) w2 br (.slice none 0 0) [] true → Fr (fun b _ => b ≠ br) w1 w2 → LR W0 w2 br [] true ∧ Fr (fun c _ => c ≠ br) w w2) := fun w2 h2 f2 => ⟨⟨H1.out.new, ⟨_, h2⟩, old_tt H1.out.fr f2 fun b o hb => by have := H1.out.new; omega⟩, F1.out.trans f2⟩
    by_cases h1k : (1000 : Int) < n
    · have K2 := Lib.hid (HT.out (q.length + 1) (.inr (by omega)) (by omega))
      have e1 : ((q.length + 1 : Nat) : Int) = (q.length : Int) + 1 := by omega
      rw [e1] at K2
      clear HT e1
      go_wp2_with fail
      with_reducible refine K2.out.mono ?_
      rintro e1 w2 ⟨rfl, h2, f2⟩
      have H2 := Lib.hid (fin.out w2 h2 f2)
      clear h2 f2 fin HV H1 K2
      have K3 := Lib.hid (clone_nil w2)
      go_wp2_with fail
      with_reducible refine K3.out.mono ?_
      rintro e1 w3 ⟨rfl, rfl⟩
      go_wp2
      go_ret
      exact ⟨⟨none, 0, rfl, BytesAt.nil _ _⟩, H2.out⟩
    · have K2 := Lib.hid (HT.out n (by rcases HNO.out with q | q | q; exact .inl q; omega; exact .inr q) (by omega))
      clear HT
      go_wp2_with fail
      with_reducible refine K2.out.mono ?_
      rintro e1 w2 ⟨rfl, h2, f2⟩
      have H2 := Lib.hid (fin.out w2 h2 f2)
      clear h2 f2 fin HV H1 K2
      have K3 := Lib.hid (clone_nil w2)
      go_wp2_with fail
      with_reducible refine K3.out.mono ?_
      rintro e1 w3 ⟨rfl, rfl⟩
      go_wp2
      go_ret
      exact ⟨⟨none, 0, rfl, BytesAt.nil _ _⟩, H2.out⟩
  · have hrr := HR.out
    rw [if_neg hno] at hrr
    obtain ⟨hx, hr2, rfl⟩ : q.take n = x ∧ q.drop n = r ∧ s = false := by
      have := Prod.mk.inj hrr; have h2 := Prod.mk.inj this.2; exact ⟨this.1, h2.1, h2.2.symm⟩
    clear hrr HR
    have hs1 : s1 = false := by cases s1 <;> simp_all
    subst hs1
    have h1k : (n : Int) ≤ 1000 := by omega
    have hnq : n ≤ q.length := by omega
    have K2 := Lib.hid (take_ok w1 br _ q n HV.out hnq (by omega))
    have HXL : Hid ((q.take n).length = n) := by simp [Hid]; omega
    rw [hx] at K2 HXL
    rw [hr2] at K2
    clear hno hx hr2
    go_wp2_with fail
    with_reducible refine K2.out.mono ?_
    rintro e1 w2 ⟨out, v', rfl, hb, h2, f2⟩
    have H2 : Hid (LR W0 w2 br r false) := ⟨H1.out.new, ⟨_, h2⟩, old_tt H1.out.fr f2 fun b o hb => by have := H1.out.new; omega⟩
    have F2 := Lib.hid (F1.out.trans f2)
    have K3 := Lib.hid (clone_calls w2 out x hb (by have := HXL.out; omega))
    clear hb h2 f2 K2 HV H1 F1
    go_wp2_with fail
    with_reducible refine K3.out.mono ?_
    rintro e1 w3 ⟨a3, cap3, rfl, hb3, f3⟩
    have F3 := Lib.hid f3
    have B3 : Hid (BytesAt (New w.heap.size) w3 (.slice a3 x.length cap3) x) := hb3.mono fun b o _ hk => ⟨by have := hk.1; have := F2.out.size; omega, hk.2⟩
    have H3 := Lib.hid (H2.out.tt f3)
    clear f3 hb3 K3
    go_wp2
    go_ret
    exact ⟨⟨_, _, rfl, B3.out⟩, H3.out, F2.out.trans (F3.out.mono fun _ _ _ => trivial)⟩

/-- How a reader ended. -/
def endL (bs : List UInt8) (sh : Bool) : Int := if sh then 10 else if 0 < bs.length then 11 else 0
set_option maxRecDepth 100000 in
theorem lr_end (W0 w : World) (br : Nat) (bs : List UInt8) (sh : Bool) (h : LR W0 w br bs sh) (hm : bs.length ≤ 140737488355328) :
    Calls Tryz.prog 53 #[.pointer (some ⟨br, 0, none⟩)] w fun e w' => e = .returned (.int .i64 (endL bs sh)) ∧ w = w' := by
  obtain ⟨v, hv⟩ := h.at'
  obtain ⟨a, cap, rfl⟩ := hv.bytes.form
  have c0 := cell_mk (i := 0) hv.top rfl
  have c1 := cell_mk (i := 1) hv.top rfl
  clear h hv
  cases sh with
  | true =>
    go_enter Tryz.func53, Tryz.ntmps53
    go_wp2
    go_ret
    exact ⟨rfl, rfl⟩
  | false =>
    by_cases hl : 0 < bs.length
    · have HE : Hid (endL bs false = 11) := by unfold endL; rw [if_neg (by decide), if_pos hl]; rfl
      have hl' : (0 : Int) < bs.length := by omega
      go_enter Tryz.func53, Tryz.ntmps53
      go_wp2
      go_ret
      exact ⟨by rw [HE.out]; rfl, rfl⟩
    · have HE : Hid (endL bs false = 0) := by unfold endL; rw [if_neg (by decide), if_neg hl]; rfl
      have hl' : (bs.length : Int) ≤ 0 := by omega
      go_enter Tryz.func53, Tryz.ntmps53
      go_wp2
      go_ret
      exact ⟨by rw [HE.out]; rfl, rfl⟩
end Go.Proofs.YtlolfcnfcgegdaaGreat
/- Writers beside what is to be kept. -/
namespace Go.Proofs.YtlolfcnfcgegdaaGreat
open Go.RowKit
set_option linter.unusedVariables false
set_option linter.unusedSimpArgs false

/-- A writer none of whose blocks is among Pr. -/
structure LWP (Pr : Nat → Prop) (w : World) (bw : Nat) (bs : List UInt8) : Prop where
  new : ¬ Pr bw
  at' : ∃ v, WrAt w bw v bs ∧ ∀ k, v.ownBlock = some k → ¬ Pr k
theorem LWP.mk0 {Pr : Nat → Prop} (w : World) (h : ∀ c, Pr c → c < w.heap.size) : LWP Pr (w.alloc (.cells #[.slice none 0 0] 102 (0, 0))) w.heap.size [] :=
  ⟨fun hc => by have := h _ hc; omega, ⟨.slice none 0 0, ⟨heap_alloc_new _ _, ⟨rfl, .inl ⟨rfl, rfl⟩⟩⟩, fun k e => by cases e⟩⟩
theorem LWP.tt {Pr : Nat → Prop} {w w' : World} {bw : Nat} {bs : List UInt8} (h : LWP Pr w bw bs) (hf : Fr (fun _ _ => True) w w') : LWP Pr w' bw bs := by
  obtain ⟨v, hv, hk⟩ := h.at'
  exact ⟨h.new, ⟨v, ⟨hf.keep _ _ hv.top trivial, ownsRow_fr hv.own hf fun _ _ _ _ => trivial⟩, hk⟩⟩
/-- More is to be kept: what is newer than the writer's blocks. -/
theorem LWP.more {Pr Pr' : Nat → Prop} {w : World} {bw : Nat} {bs : List UInt8} (h : LWP Pr w bw bs) (hp : ∀ c, Pr' c → Pr c ∨ w.heap.size ≤ c) : LWP Pr' w bw bs := by
  obtain ⟨v, hv, hk⟩ := h.at'
  refine ⟨fun hc => ?_, v, hv, fun k e hc => ?_⟩
  · rcases hp _ hc with h1 | h1
    · exact h.new h1
    · have := lt_of_some hv.top; omega
  · rcases hp _ hc with h1 | h1
    · exact hk k e h1
    · rcases hv.own.2 with ⟨rfl, _⟩ | ⟨g, cap, cur, rfl, _, hh, _⟩
      · cases e
      · have := lt_of_some hh
        have e2 : g = k := by simpa [Value.ownBlock] using e
        omega
theorem lwp_number {Pr : Nat → Prop} (w : World) (bw : Nat) (bs : List UInt8) (n size : Nat) (nz sz : Int) (hnz : nz = n) (hsz : sz = size) (h : LWP Pr w bw bs) (hP : ∀ c, Pr c → c < w.heap.size) (h1 : 1 ≤ size) (h8 : size ≤ 8) (hn : n < 18446744073709551616) (hb : bs.length ≤ 1000000) :
    Calls Tryz.prog 48 #[.pointer (some ⟨bw, 0, none⟩), .int .u64 nz, .int .i64 sz] w fun e w' => e = .returned (.tuple #[]) ∧ LWP Pr w' bw (bs ++ le n size) ∧ Fr (fun c _ => Pr c) w w' := by
  subst hnz hsz
  obtain ⟨v, hv, hk⟩ := h.at'
  refine (wnum_main w bw v bs n size hv h1 h8 hn hb).mono fun _ _ ⟨he, v', h1, h2, h3⟩ => ⟨he, ⟨h.new, ⟨v', h1, fun k e hc => ?_⟩⟩, h2.mono fun c _ hc => ⟨fun e => h.new (e ▸ hc), fun e => hk c e hc⟩⟩
  rcases h3 with h3 | h3
  · exact hk k (h3 ▸ e) hc
  · have := h3 k e; have := hP k hc; omega
theorem LWP.parts {Pr : Nat → Prop} {w : World} {bw : Nat} {bs : List UInt8} (h : LWP Pr w bw bs) : ∃ v, w.cell? ⟨bw, 0, none⟩ = some v ∧ w.frozen? ⟨bw, 0, none⟩ = false ∧ RowB w 0 v bs.length bs ∧ (∀ k, v.ownBlock = some k → ¬ Pr k) := by
  obtain ⟨v, hv, hk⟩ := h.at'
  exact ⟨v, cell_mk hv.top rfl, frozen_mk hv.top, hv.own, hk⟩
theorem LWP.store {Pr : Nat → Prop} {w w' : World} {bw : Nat} {bs r : List UInt8} {v v' : Value} (h : LWP Pr w bw bs) (hP : ∀ c, Pr c → c < w.heap.size) (hc : w.cell? ⟨bw, 0, none⟩ = some v) (hr : RowB w' 0 v' r.length r) (hg : w.grownBy w' v.ownBlock) (hx : OwnNext w v v') :
    w'.cell? ⟨bw, 0, none⟩ = some v ∧ w'.frozen? ⟨bw, 0, none⟩ = false ∧ LWP Pr (w'.setCell ⟨bw, 0, none⟩ v') bw r ∧ Fr (fun c _ => Pr c) w (w'.setCell ⟨bw, 0, none⟩ v') := by
  obtain ⟨u, hv, hk⟩ := h.at'
  obtain rfl : u = v := by
    have := cell_mk (i := 0) hv.top rfl
    rw [hc] at this
    exact (Option.some.inj this).symm
  have ht := grown_block hg hv.top hv.ne
  have hne : v'.ownBlock ≠ some bw := by
    rcases hr.2 with ⟨e, _⟩ | ⟨g, cap, cur, e, _, hh, _⟩
    · subst e; simp [Value.ownBlock]
    · subst e
      intro e
      simp only [Value.ownBlock, Option.some.injEq] at e
      rw [e, ht] at hh
      cases hh
  have hF : Fr (fun c _ => Pr c) w w' := Fr.of_grown hg fun k o e _ hp => hk k e hp
  refine ⟨cell_mk ht rfl, frozen_mk ht, ⟨h.new, ⟨v', ⟨heap_setCell_same ht _, ownsRow_setCell_ne hr hne _⟩, fun k e hc => ?_⟩⟩, hF.setCell (fun o _ hp => h.new hp) _⟩
  rcases hx with hx | ⟨m, hx, hm⟩
  · exact hk k (by rw [← hx]; exact e) hc
  · rw [hx] at e; cases e; have := hP _ hc; omega
/-- An append of bytes: where the row lies behind it, too. -/
theorem wpList_append_hid2 {K0 : Nat → Obj → Prop} {ops : Array Oper} {rest : List Oper} {o : Oper} {a : Act} {Q : Exit → Act → World → Prop} (W : World) (hgd : o.guard = none) (s x : Operand)
    (ho : o.op = .call { callee := .builtin .append, args := #[s, x], argTypes := #[23, 23] }) (B : Nat) (hB : B ≤ W.heap.size) (v : Value) (n : Nat) (xs : List UInt8) (hs : a.eval s = v) (hown : Hid (RowB W B v n xs))
    (vx : Value) (bs : List UInt8) (hx : a.eval x = vx) (hb : Hid (BytesAt K0 W vx bs)) (N : Nat) (r : List UInt8) (hr : Hid (xs ++ bs = r)) (hN : Hid (n + bs.length = N)) (hn : N ≤ 2000000)
    (h : ∀ a' c' w', Hid (RowB w' B (.slice a' N c') N r) → Hid (W.grownBy w' v.ownBlock) → Hid (OwnNext W v (.slice a' N c')) → wpList Tryz.prog ops Q rest (a.put o.dst (.slice a' N c')) w') :
    wpList Tryz.prog ops Q (o :: rest) a W := by
  obtain ⟨i0, hi, hz0, hz1, hz2⟩ := info_parts info_u8
  have hr := hr.out
  have hN := hN.out
  subst hr hN
  refine wpList_append_src2 W hgd s x 23 ho B 5 i0 (.int .u8 0) 1 1 Tryz.underlying23 hi hz0 hz1 hz2 rfl (by decide) v n (xs.map byteV) hs hown.out vx bs.length (bs.map byteV) hx hb.out.src (by unfold maxLen; omega) (by omega) hB ?_
  intro v' w' h1 h2 h3
  rw [← List.map_append] at h1
  have hv' : ∃ a' c', v' = .slice a' (n + bs.length) c' := by
    rcases h1.2 with ⟨rfl, e⟩ | ⟨g, cap, _, rfl, _⟩
    · exact ⟨none, 0, by rw [e]⟩
    · exact ⟨_, _, rfl⟩
  obtain ⟨a', c', rfl⟩ := hv'
  exact h a' c' w' h1 h2 h3

set_option maxRecDepth 100000 in
set_option maxHeartbeats 1000000 in
theorem lwp_bytes1 {Pr : Nat → Prop} (w : World) (bw : Nat) (bs : List UInt8) (a : Option Addr) (L m cap : Nat) (mz : Int) (t : List UInt8) (h : LWP Pr w bw bs) (hP : ∀ c, Pr c → c < w.heap.size) (hb : BytesAt (fun c _ => Pr c) w (.slice a m cap) t) (hm : bs.length ≤ 900000) (hL : L ≤ 140737488355328) (hmz : mz = m)
    (h1000 : m ≤ 1000) (hd : ((L : Int) ≤ 1000 ∧ mz = L) ∨ ((1000 : Int) < L ∧ mz = 1000)) (hcap : m ≤ cap) (r : List UInt8) (hr : r = bs ++ (le m 2 ++ t)) :
    Calls Tryz.prog 45 #[.pointer (some ⟨bw, 0, none⟩), .slice a L cap] w fun e w' => e = .returned (.tuple #[]) ∧ LWP Pr w' bw r ∧ Fr (fun c _ => Pr c) w w' := by
  have HRI := Lib.hid hr
  clear hr
  have hml : m = t.length := hb.len
  have s1 := fun W => run_slice_to Tryz.underlying23 size_u8 W a L cap m .i64 hcap
  have K1 := Lib.hid (lwp_number w bw bs m 2 m 2 rfl rfl h hP (by omega) (by omega) (by omega) (by omega))
  rw [← hmz] at s1
  have HB := Lib.hid hb
  have HP := Lib.hid hP
  have HM := Lib.hid hml
  have hmc : (m : Int) ≤ 1000 := by omega
  have hm0 : (0 : Int) ≤ m := by omega
  have HMZ := Lib.hid hmz
  clear h hb hml hmz hP
  rcases hd with ⟨h1, rfl⟩ | ⟨h1, rfl⟩ <;>
  · go_enter Tryz.func45, Tryz.ntmps45
    go_wp2_with fail
    with_reducible refine K1.out.mono ?_
    rintro e1 w1 ⟨rfl, h1, f1⟩
    have H1 := Lib.hid h1
    have F1 := Lib.hid f1
    have HB1 := Lib.hid (HB.out.fr f1)
    have HP1 : Hid (∀ c, Pr c → c < w1.heap.size) := fun c hc => Nat.lt_of_lt_of_le (HP.out c hc) f1.size
    clear h1 f1 K1 HB s1
    obtain ⟨u, c1, g1, hr, _⟩ := H1.out.parts
    have HR := Lib.hid hr
    clear hr
    have hr := HRI.out
    have E1 : Hid ((bs ++ le m 2) ++ t = r) := by rw [hr]; simp [Hid]
    have E2 : Hid ((bs ++ le m 2).length + t.length = r.length) := by rw [hr]; simp [Hid]; omega
    have E3 : r.length ≤ 2000000 := by have := HM.out; rw [hr]; simp [le_length]; omega
    clear hr HRI
    generalize bs ++ le m 2 = x at *
    generalize x.length = X at *
    obtain ⟨R, hR⟩ : ∃ R, R = r.length := ⟨_, rfl⟩
    have HRR := Lib.hid hR
    rw [← hR] at E2 E3
    clear hR
    go_wp2_with (at_builtin; refine wpList_append_hid2 _ rfl _ _ rfl 0 (Nat.zero_le _) _ _ x rfl HR _ t rfl HB1 R r E1 E2 E3 ?_)
    intro a1 c2 w2 O1 G1 N1
    obtain ⟨c3, f3, h3, f4⟩ := H1.out.store (r := r) (v' := .slice a1 R c2) HP1.out c1 (by have := O1.out; rwa [HRR.out] at this ⊢) G1.out N1.out
    have H3 := Lib.hid h3
    have F4 := Lib.hid (F1.out.trans f4)
    clear h3 O1 G1 H1 HR HB1 c1 g1 f4 N1
    go_wp2
    go_end0
    exact ⟨rfl, H3.out, F4.out⟩
theorem lwp_bytes {Pr : Nat → Prop} (w : World) (bw : Nat) (bs : List UInt8) (v : Value) (b : List UInt8) (h : LWP Pr w bw bs) (hP : ∀ c, Pr c → c < w.heap.size) (hb : BytesAt (fun c _ => Pr c) w v b) (hm : bs.length ≤ 900000) (hbm : b.length ≤ 140737488355328) :
    Calls Tryz.prog 45 #[.pointer (some ⟨bw, 0, none⟩), v] w fun e w' => e = .returned (.tuple #[]) ∧ LWP Pr w' bw (bs ++ byt b) ∧ Fr (fun c _ => Pr c) w w' := by
  obtain ⟨a, cap, rfl⟩ := hb.form
  have hcap := hb.cap
  have e : b.take (b.take 1000).length = b.take 1000 := by rw [List.length_take, take_min]
  have hbt := hb.take (b.take 1000).length (by simp; omega)
  rw [e] at hbt
  exact lwp_bytes1 w bw bs a b.length (b.take 1000).length cap (b.take 1000).length (b.take 1000) h hP hbt hm hbm rfl (by simp; omega) (by simp; omega) (by simp; omega) _ rfl
set_option maxRecDepth 100000 in
theorem lwp_out {Pr : Nat → Prop} (w : World) (bw : Nat) (bs : List UInt8) (h : LWP Pr w bw bs) (hb : bs.length ≤ 1000000) :
    Calls Tryz.prog 46 #[.pointer (some ⟨bw, 0, none⟩)] w fun e w' => (∃ a cap, e = .returned (.slice a bs.length cap) ∧ BytesAt (New w.heap.size) w' (.slice a bs.length cap) bs) ∧ Fr (fun _ _ => True) w w' := by
  obtain ⟨v, hv, hk⟩ := h.at'
  have hc : w.cell? ⟨bw, 0, none⟩ = some v := cell_mk hv.top rfl
  have HC := Lib.hid (clone_calls w v bs (BytesAt.of_owns hv.own) (by omega))
  clear h hv hk
  go_enter Tryz.func46, Tryz.ntmps46
  go_wp2_with fail
  (with_reducible refine HC.out.mono ?_)
  rintro e w1 ⟨a, cap, rfl, hb1, hf1⟩
  have HB := Lib.hid hb1
  have HF := Lib.hid hf1
  clear hb1 hf1
  go_wp2
  go_ret
  exact ⟨⟨_, _, rfl, HB.out⟩, HF.out⟩
end Go.Proofs.YtlolfcnfcgegdaaGreat
/- Commands as bytes: Encode of the program and of the document (printed by enc20.py). -/
namespace Go.Proofs.YtlolfcnfcgegdaaGreat
open Go.RowKit
set_option linter.unusedVariables false
set_option linter.unusedSimpArgs false

/-- A command. -/
structure Cmd where
  op : Int
  cl : Int
  sq : Nat
  rg : Int
  md : Int
  tk : Nat
  tm : Nat
  deriving DecidableEq, Inhabited
structure Cmd.ok (c : Cmd) : Prop where
  s : c.sq < 4294967296
  k : c.tk < 18446744073709551616
  t : c.tm < 18446744073709551616
def vC (c : Cmd) : Value := .agg #[.int .i64 c.op, .int .i64 c.cl, .int .u32 (c.sq : Nat), .int .i64 c.rg, .int .i64 c.md, .int .u64 (c.tk : Nat), .int .u64 (c.tm : Nat)]
def inByte (z : Int) : Bool := decide (0 ≤ z) && decide (z ≤ 255)
/-- May a command be? -/
def Cmd.fine (c : Cmd) : Bool := decide (1 ≤ c.op) && decide (c.op ≤ 7) && inByte c.cl && inByte c.rg && inByte c.md
def cmdB (c : Cmd) : List UInt8 := le c.op.toNat 1 ++ le c.cl.toNat 1 ++ le c.sq 4 ++ le c.rg.toNat 1 ++ le c.md.toNat 1 ++ le c.tk 8 ++ le c.tm 8
theorem cmdB_len (c : Cmd) : (cmdB c).length = 24 := by unfold cmdB; simp [le_length]
def encM (c : Cmd) : List UInt8 × Nat := if c.fine then (cmdB c, 0) else ([], 1)

theorem fits_yes (w : World) (z : Int) (h : inByte z = true) : Calls Tryz.prog 60 #[.int .i64 z] w fun e w' => e = .returned (.bool true) ∧ w = w' := by
  unfold inByte at h
  rw [Bool.and_eq_true] at h
  have h1 := of_decide_eq_true h.1
  have h2 := of_decide_eq_true h.2
  have h3 : z < 256 := by omega
  clear h
  go_enter Tryz.func60, Tryz.ntmps60
  go_wp2
  go_ret
  exact ⟨rfl, rfl⟩
theorem fits_no (w : World) (z : Int) (h : inByte z = false) : Calls Tryz.prog 60 #[.int .i64 z] w fun e w' => e = .returned (.bool false) ∧ w = w' := by
  by_cases h0 : 0 ≤ z
  · have h1 : decide (z ≤ 255) = false := by unfold inByte at h; rw [decide_eq_true h0, Bool.true_and] at h; exact h
    have h2 : decide (z < 256) = false := by simp at h1 ⊢; omega
    clear h
    go_enter Tryz.func60, Tryz.ntmps60
    go_wp2
    go_ret
    exact ⟨rfl, rfl⟩
  · have h1 : decide (0 ≤ z) = false := by simpa using h0
    clear h
    go_enter Tryz.func60, Tryz.ntmps60
    go_wp2
    go_ret
    exact ⟨rfl, rfl⟩
theorem fine_parts {c : Cmd} (h : c.fine = true) : ∃ op cl rg md : Nat, c.op = op ∧ c.cl = cl ∧ c.rg = rg ∧ c.md = md ∧ 1 ≤ op ∧ op ≤ 7 ∧ cl < 256 ∧ rg < 256 ∧ md < 256 := by
  unfold Cmd.fine inByte at h
  simp only [Bool.and_eq_true, decide_eq_true_eq] at h
  exact ⟨c.op.toNat, c.cl.toNat, c.rg.toNat, c.md.toNat, by omega, by omega, by omega, by omega, by omega, by omega, by omega, by omega, by omega⟩
end Go.Proofs.YtlolfcnfcgegdaaGreat
/- Bytes as commands: Decode, plainly and of the program. -/
namespace Go.Proofs.YtlolfcnfcgegdaaGreat
open Go.RowKit
set_option linter.unusedVariables false
set_option linter.unusedSimpArgs false

def dec24 (b : List UInt8) : Cmd := ⟨(ofLE (b.take 1) : Nat), (ofLE ((b.drop 1).take 1) : Nat), ofLE ((b.drop 2).take 4), (ofLE ((b.drop 6).take 1) : Nat), (ofLE ((b.drop 7).take 1) : Nat), ofLE ((b.drop 8).take 8), ofLE ((b.drop 16).take 8)⟩
def zeroC : Cmd := ⟨0, 0, 0, 0, 0, 0, 0⟩
def decM (b : List UInt8) : Cmd × Nat := if b.length < 24 then (zeroC, 10) else if 24 < b.length then (zeroC, 11) else if (dec24 b).op < 1 ∨ 7 < (dec24 b).op then (zeroC, 1) else (dec24 b, 0)
theorem dec_chain {b r1 r2 r3 r4 r5 r6 r7 : List UInt8} {x1 x2 x3 x4 x5 x6 x7 : Nat} {s1 s2 s3 s4 s5 s6 s7 : Bool}
    (h1 : numR b false 1 = (x1, r1, s1)) (h2 : numR r1 s1 1 = (x2, r2, s2)) (h3 : numR r2 s2 4 = (x3, r3, s3)) (h4 : numR r3 s3 1 = (x4, r4, s4)) (h5 : numR r4 s4 1 = (x5, r5, s5)) (h6 : numR r5 s5 8 = (x6, r6, s6)) (h7 : numR r6 s6 8 = (x7, r7, s7)) :
    (b.length < 24 ∧ s7 = true) ∨ (24 ≤ b.length ∧ s7 = false ∧ r7 = b.drop 24 ∧ dec24 b = ⟨(x1 : Nat), (x2 : Nat), x3, (x4 : Nat), (x5 : Nat), x6, x7⟩) := by
  cases s7 with
  | true =>
    refine .inl ⟨?_, rfl⟩
    refine Nat.lt_of_not_le fun hl => ?_
    rw [numR_ge b 1 (by omega)] at h1; cases h1
    rw [numR_ge _ 1 (by rw [List.length_drop]; omega)] at h2; cases h2
    rw [numR_ge _ 4 (by simp only [List.length_drop]; omega)] at h3; cases h3
    rw [numR_ge _ 1 (by simp only [List.length_drop]; omega)] at h4; cases h4
    rw [numR_ge _ 1 (by simp only [List.length_drop]; omega)] at h5; cases h5
    rw [numR_ge _ 8 (by simp only [List.length_drop]; omega)] at h6; cases h6
    rw [numR_ge _ 8 (by simp only [List.length_drop]; omega)] at h7; cases h7
  | false =>
    obtain ⟨rfl, l7, rfl, rfl⟩ := numR_ok h7
    obtain ⟨rfl, l6, rfl, rfl⟩ := numR_ok h6
    obtain ⟨rfl, l5, rfl, rfl⟩ := numR_ok h5
    obtain ⟨rfl, l4, rfl, rfl⟩ := numR_ok h4
    obtain ⟨rfl, l3, rfl, rfl⟩ := numR_ok h3
    obtain ⟨rfl, l2, rfl, rfl⟩ := numR_ok h2
    obtain ⟨_, l1, rfl, rfl⟩ := numR_ok h1
    simp only [List.drop_drop, List.length_drop] at *
    refine .inr ⟨by omega, ?_, ?_, ?_⟩ <;> first | trivial | rfl
theorem LR.frk {W0 w w' : World} {br : Nat} {bs : List UInt8} {sh : Bool} {K : Nat → Obj → Prop} (h : LR W0 w br bs sh) (hf : Fr K w w') (hk : ∀ c o, c = br ∨ c < W0.heap.size → K c o) : LR W0 w' br bs sh := by
  obtain ⟨v, hv⟩ := h.at'
  refine ⟨h.new, ⟨v, hf.keep _ _ hv.top (hk _ _ (.inl rfl)), ?_, hv.off⟩, old_tt h.fr hf fun b o hb => hk b o (.inr hb)⟩
  have h1 : BytesAt (fun c o => (c < W0.heap.size) ∧ K c o) w v bs := hv.bytes.mono fun c o _ hc => ⟨hc, hk c o (.inr hc)⟩
  exact (h1.fr (hf.mono fun _ _ h => h.2)).mono fun _ _ _ h => h.1
theorem set7 {w : World} {g : Nat} {t : TypeId} {a0 a1 a2 a3 a4 a5 a6 : Value} (h : w.heap[g]? = some (.cells #[a0, a1, a2, a3, a4, a5, a6] t (0, 0))) (v0 v1 v2 v3 v4 v5 v6 : Value) :
    ∃ W, (((((((w.setCell ⟨g, 0, none⟩ v0).setCell ⟨g, 1, none⟩ v1).setCell ⟨g, 2, none⟩ v2).setCell ⟨g, 3, none⟩ v3).setCell ⟨g, 4, none⟩ v4).setCell ⟨g, 5, none⟩ v5).setCell ⟨g, 6, none⟩ v6) = W ∧ W.heap[g]? = some (.cells #[v0, v1, v2, v3, v4, v5, v6] t (0, 0)) ∧ Fr (fun c _ => c ≠ g) w W := by
  have h0 : (w.setCell ⟨g, 0, none⟩ v0).heap[g]? = some (.cells #[v0, a1, a2, a3, a4, a5, a6] t (0, 0)) := heap_setCell_same (o := 0) h v0
  have h1 : ((w.setCell ⟨g, 0, none⟩ v0).setCell ⟨g, 1, none⟩ v1).heap[g]? = some (.cells #[v0, v1, a2, a3, a4, a5, a6] t (0, 0)) := heap_setCell_same (o := 1) h0 v1
  have h2 : (((w.setCell ⟨g, 0, none⟩ v0).setCell ⟨g, 1, none⟩ v1).setCell ⟨g, 2, none⟩ v2).heap[g]? = some (.cells #[v0, v1, v2, a3, a4, a5, a6] t (0, 0)) := heap_setCell_same (o := 2) h1 v2
  have h3 : ((((w.setCell ⟨g, 0, none⟩ v0).setCell ⟨g, 1, none⟩ v1).setCell ⟨g, 2, none⟩ v2).setCell ⟨g, 3, none⟩ v3).heap[g]? = some (.cells #[v0, v1, v2, v3, a4, a5, a6] t (0, 0)) := heap_setCell_same (o := 3) h2 v3
  have h4 : (((((w.setCell ⟨g, 0, none⟩ v0).setCell ⟨g, 1, none⟩ v1).setCell ⟨g, 2, none⟩ v2).setCell ⟨g, 3, none⟩ v3).setCell ⟨g, 4, none⟩ v4).heap[g]? = some (.cells #[v0, v1, v2, v3, v4, a5, a6] t (0, 0)) := heap_setCell_same (o := 4) h3 v4
  have h5 : ((((((w.setCell ⟨g, 0, none⟩ v0).setCell ⟨g, 1, none⟩ v1).setCell ⟨g, 2, none⟩ v2).setCell ⟨g, 3, none⟩ v3).setCell ⟨g, 4, none⟩ v4).setCell ⟨g, 5, none⟩ v5).heap[g]? = some (.cells #[v0, v1, v2, v3, v4, v5, a6] t (0, 0)) := heap_setCell_same (o := 5) h4 v5
  have h6 : (((((((w.setCell ⟨g, 0, none⟩ v0).setCell ⟨g, 1, none⟩ v1).setCell ⟨g, 2, none⟩ v2).setCell ⟨g, 3, none⟩ v3).setCell ⟨g, 4, none⟩ v4).setCell ⟨g, 5, none⟩ v5).setCell ⟨g, 6, none⟩ v6).heap[g]? = some (.cells #[v0, v1, v2, v3, v4, v5, v6] t (0, 0)) := heap_setCell_same (o := 6) h5 v6
  exact ⟨_, rfl, h6, (((((((Fr.refl _ _).setCell (fun _ _ h => h rfl) _).setCell (fun _ _ h => h rfl) _).setCell (fun _ _ h => h rfl) _).setCell (fun _ _ h => h rfl) _).setCell (fun _ _ h => h rfl) _).setCell (fun _ _ h => h rfl) _).setCell (fun _ _ h => h rfl) _⟩
set_option maxRecDepth 100000 in
set_option maxHeartbeats 2000000 in
theorem dec_calls {K : Nat → Obj → Prop} (w : World) (v : Value) (b : List UInt8) (hb : BytesAt K w v b) (hm : b.length ≤ 1000000) :
    Calls Tryz.prog 25 #[v] w fun e w' => e = .returned (.tuple #[vC (decM b).1, .int .i64 ((decM b).2 : Nat)]) ∧ Fr (fun _ _ => True) w w' := by
  obtain ⟨av, cv, rfl⟩ := hb.form
  obtain ⟨W1, hW1⟩ : ∃ W, w.alloc (.cells #[.int .i64 0, .int .i64 0, .int .u32 0, .int .i64 0, .int .i64 0, .int .u64 0, .int .u64 0] 33 (0, 0)) = W := ⟨_, rfl⟩
  have F1 : Hid (Fr (fun _ _ => True) w W1) := hW1 ▸ (Fr.refl _ _).alloc _
  have X1 : Hid (W1.heap[w.heap.size]? = some (.cells #[.int .i64 0, .int .i64 0, .int .u32 0, .int .i64 0, .int .i64 0, .int .u64 0, .int .u64 0] 33 (0, 0))) := hW1 ▸ heap_alloc_new w _
  obtain ⟨W2, hW2⟩ : ∃ W, W1.alloc (.cells #[.slice av b.length cv, .bool false] 146 (0, 0)) = W := ⟨_, rfl⟩
  have l0 : LR W1 W2 W1.heap.size b false := hW2 ▸ LR.mk0 (Fr.refl _ _) (hb.tt F1.out)
  have L0 := Lib.hid l0
  have HLEN := Lib.hid hm
  have RC := Lib.hid (read_calls W1 av b.length cv)
  rw [hW2] at RC
  clear hm hb hW2
  go_enter Tryz.func25, Tryz.ntmps25
  go_wp2_with fail
  (with_reducible refine RC.out.mono ?_)
  rintro e w1 ⟨rfl, rfl⟩
  obtain ⟨x1, r1, s1, n1⟩ : ∃ x r s, numR b false 1 = (x, r, s) := ⟨_, _, _, rfl⟩
  have C1 := Lib.hid (lr_number W1 w1 W1.heap.size b false 1 1 rfl l0 (by omega) (by omega) (by have := HLEN.out; omega) x1 r1 s1 n1)
  have hx1 := numR_lt b false 1
  have rl1 := numR_len b false 1
  rw [n1] at hx1 rl1
  dsimp only at hx1 rl1
  have HN1 := Lib.hid n1
  clear n1
  go_wp2_with fail
  (with_reducible refine C1.out.mono ?_)
  rintro e w2 ⟨rfl, l1, g1⟩
  have L1 := Lib.hid l1
  clear l0 L0 C1 g1 RC
  obtain ⟨x2, r2, s2, n2⟩ : ∃ x r s, numR r1 s1 1 = (x, r, s) := ⟨_, _, _, rfl⟩
  have C2 := Lib.hid (lr_number W1 w2 W1.heap.size r1 s1 1 1 rfl l1 (by omega) (by omega) (by have := HLEN.out; omega) x2 r2 s2 n2)
  have hx2 := numR_lt r1 s1 1
  have rl2 := numR_len r1 s1 1
  rw [n2] at hx2 rl2
  dsimp only at hx2 rl2
  have HN2 := Lib.hid n2
  clear n2
  go_wp2_with fail
  (with_reducible refine C2.out.mono ?_)
  rintro e w3 ⟨rfl, l2, g2⟩
  have L2 := Lib.hid l2
  clear l1 L1 C2 g2
  obtain ⟨x3, r3, s3, n3⟩ : ∃ x r s, numR r2 s2 4 = (x, r, s) := ⟨_, _, _, rfl⟩
  have C3 := Lib.hid (lr_number W1 w3 W1.heap.size r2 s2 4 4 rfl l2 (by omega) (by omega) (by have := HLEN.out; omega) x3 r3 s3 n3)
  have hx3 := numR_lt r2 s2 4
  have rl3 := numR_len r2 s2 4
  rw [n3] at hx3 rl3
  dsimp only at hx3 rl3
  have HN3 := Lib.hid n3
  clear n3
  go_wp2_with fail
  (with_reducible refine C3.out.mono ?_)
  rintro e w4 ⟨rfl, l3, g3⟩
  have L3 := Lib.hid l3
  have v1 : IntKind.i64.wrap (x1 : Int) = x1 := IntWalk.i64_in _ (by omega)
  have v2 : IntKind.i64.wrap (x2 : Int) = x2 := IntWalk.i64_in _ (by omega)
  have v3 : IntKind.u32.wrap (x3 : Int) = x3 := by rw [IntKind.wrap_u32]; omega
  clear l2 L2 C3 g3
  go_wp2_with fail
  obtain ⟨W5, hW5⟩ : ∃ W, w4.alloc (.cells #[.int .i64 (x1 : Nat), .int .i64 (x2 : Nat), .int .u32 (x3 : Nat), .int .i64 0, .int .i64 0, .int .u64 0, .int .u64 0] 33 (0, 0)) = W := ⟨_, rfl⟩
  rw [hW5]
  have F5 : Hid (Fr (fun _ _ => True) w4 W5) := hW5 ▸ (Fr.refl _ _).alloc _
  have T5 : Hid (W5.heap[w4.heap.size]? = some (.cells #[.int .i64 (x1 : Nat), .int .i64 (x2 : Nat), .int .u32 (x3 : Nat), .int .i64 0, .int .i64 0, .int .u64 0, .int .u64 0] 33 (0, 0))) := hW5 ▸ heap_alloc_new w4 _
  have l35 := l3.tt F5.out
  have NG : Hid (W1.heap.size < w4.heap.size) := by
    obtain ⟨v, hv⟩ := l3.at'
    exact lt_of_some hv.top
  clear l3 L3
  obtain ⟨x4, r4, s4, n4⟩ : ∃ x r s, numR r3 s3 1 = (x, r, s) := ⟨_, _, _, rfl⟩
  have C4 := Lib.hid (lr_number W1 W5 W1.heap.size r3 s3 1 1 rfl l35 (by omega) (by omega) (by have := HLEN.out; omega) x4 r4 s4 n4)
  have hx4 := numR_lt r3 s3 1
  have rl4 := numR_len r3 s3 1
  rw [n4] at hx4 rl4
  dsimp only at hx4 rl4
  have HN4 := Lib.hid n4
  clear n4
  (with_reducible refine C4.out.mono ?_)
  rintro e w5 ⟨rfl, l4, g4⟩
  have T6 : Hid (w5.heap[w4.heap.size]? = some (.cells #[.int .i64 (x1 : Nat), .int .i64 (x2 : Nat), .int .u32 (x3 : Nat), .int .i64 0, .int .i64 0, .int .u64 0, .int .u64 0] 33 (0, 0))) := g4.keep _ _ T5.out (by have := NG.out; omega)
  have F6 := Lib.hid g4
  have L4 := Lib.hid l4
  clear l35 C4 g4 T5 hW5
  obtain ⟨x5, r5, s5, n5⟩ : ∃ x r s, numR r4 s4 1 = (x, r, s) := ⟨_, _, _, rfl⟩
  have C5 := Lib.hid (lr_number W1 w5 W1.heap.size r4 s4 1 1 rfl l4 (by omega) (by omega) (by have := HLEN.out; omega) x5 r5 s5 n5)
  have hx5 := numR_lt r4 s4 1
  have rl5 := numR_len r4 s4 1
  rw [n5] at hx5 rl5
  dsimp only at hx5 rl5
  have HN5 := Lib.hid n5
  clear n5
  go_wp2_with fail
  (with_reducible refine C5.out.mono ?_)
  rintro e w6 ⟨rfl, l5, g5⟩
  have T7 : Hid (w6.heap[w4.heap.size]? = some (.cells #[.int .i64 (x1 : Nat), .int .i64 (x2 : Nat), .int .u32 (x3 : Nat), .int .i64 0, .int .i64 0, .int .u64 0, .int .u64 0] 33 (0, 0))) := g5.keep _ _ T6.out (by have := NG.out; omega)
  have F7 := Lib.hid g5
  have v4 : IntKind.i64.wrap (x4 : Int) = x4 := IntWalk.i64_in _ (by omega)
  have v5 : IntKind.i64.wrap (x5 : Int) = x5 := IntWalk.i64_in _ (by omega)
  obtain ⟨W7, hW7⟩ : ∃ W, (w6.setCell ⟨w4.heap.size, 3, none⟩ (.int .i64 (x4 : Nat))).setCell ⟨w4.heap.size, 4, none⟩ (.int .i64 (x5 : Nat)) = W := ⟨_, rfl⟩
  have F8 : Hid (Fr (fun c _ => c ≠ w4.heap.size) w6 W7) := hW7 ▸ ((Fr.refl _ _).setCell (fun _ _ h => h rfl) _).setCell (fun _ _ h => h rfl) _
  have T8 : Hid (W7.heap[w4.heap.size]? = some (.cells #[.int .i64 (x1 : Nat), .int .i64 (x2 : Nat), .int .u32 (x3 : Nat), .int .i64 (x4 : Nat), .int .i64 (x5 : Nat), .int .u64 0, .int .u64 0] 33 (0, 0))) := hW7 ▸ heap_setCell_same (o := 4) (heap_setCell_same (o := 3) T7.out _) _
  have l57 := l5.frk F8.out (fun c o h => by have := NG.out; omega)
  have k3 := cell_mk (i := 3) T7.out rfl
  have k4 := cell_mk (i := 4) T7.out rfl
  have z3 := frozen_mk (i := 3) T7.out
  have z4 := frozen_mk (i := 4) T7.out
  clear l4 L4 C5 g5 l5 T6 v1 v2 v3
  obtain ⟨x6, r6, s6, n6⟩ : ∃ x r s, numR r5 s5 8 = (x, r, s) := ⟨_, _, _, rfl⟩
  have C6 := Lib.hid (lr_number W1 W7 W1.heap.size r5 s5 8 8 rfl l57 (by omega) (by omega) (by have := HLEN.out; omega) x6 r6 s6 n6)
  have hx6 := numR_lt r5 s5 8
  have rl6 := numR_len r5 s5 8
  rw [n6] at hx6 rl6
  dsimp only at hx6 rl6
  have HN6 := Lib.hid n6
  clear n6
  go_wp2_with fail
  (with_reducible refine C6.out.mono ?_)
  rintro e w7 ⟨rfl, l6, g6⟩
  have T9 : Hid (w7.heap[w4.heap.size]? = some (.cells #[.int .i64 (x1 : Nat), .int .i64 (x2 : Nat), .int .u32 (x3 : Nat), .int .i64 (x4 : Nat), .int .i64 (x5 : Nat), .int .u64 0, .int .u64 0] 33 (0, 0))) := g6.keep _ _ T8.out (by have := NG.out; omega)
  have F9 := Lib.hid g6
  have L6 := Lib.hid l6
  clear l57 C6 g6 T7 T8 hW7 k3 k4 z3 z4 v4 v5
  obtain ⟨x7, r7, s7, n7⟩ : ∃ x r s, numR r6 s6 8 = (x, r, s) := ⟨_, _, _, rfl⟩
  have C7 := Lib.hid (lr_number W1 w7 W1.heap.size r6 s6 8 8 rfl l6 (by omega) (by omega) (by have := HLEN.out; omega) x7 r7 s7 n7)
  have hx7 := numR_lt r6 s6 8
  have rl7 := numR_len r6 s6 8
  rw [n7] at hx7 rl7
  dsimp only at hx7 rl7
  have HN7 := Lib.hid n7
  clear n7
  go_wp2_with fail
  (with_reducible refine C7.out.mono ?_)
  rintro e w8 ⟨rfl, l7, g7⟩
  have T10 : Hid (w8.heap[w4.heap.size]? = some (.cells #[.int .i64 (x1 : Nat), .int .i64 (x2 : Nat), .int .u32 (x3 : Nat), .int .i64 (x4 : Nat), .int .i64 (x5 : Nat), .int .u64 0, .int .u64 0] 33 (0, 0))) := g7.keep _ _ T9.out (by have := NG.out; omega)
  have F10 := Lib.hid g7
  obtain ⟨W9, hW9⟩ : ∃ W, (w8.setCell ⟨w4.heap.size, 5, none⟩ (.int .u64 (x6 : Nat))).setCell ⟨w4.heap.size, 6, none⟩ (.int .u64 (x7 : Nat)) = W := ⟨_, rfl⟩
  have F11 : Hid (Fr (fun c _ => c ≠ w4.heap.size) w8 W9) := hW9 ▸ ((Fr.refl _ _).setCell (fun _ _ h => h rfl) _).setCell (fun _ _ h => h rfl) _
  have T11 : Hid (W9.heap[w4.heap.size]? = some (.cells #[.int .i64 (x1 : Nat), .int .i64 (x2 : Nat), .int .u32 (x3 : Nat), .int .i64 (x4 : Nat), .int .i64 (x5 : Nat), .int .u64 (x6 : Nat), .int .u64 (x7 : Nat)] 33 (0, 0))) := hW9 ▸ heap_setCell_same (o := 6) (heap_setCell_same (o := 5) T10.out _) _
  have l79 := l7.frk F11.out (fun c o h => by have := NG.out; omega)
  have k5 := cell_mk (i := 5) T10.out rfl
  have k6 := cell_mk (i := 6) T10.out rfl
  have z5 := frozen_mk (i := 5) T10.out
  have z6 := frozen_mk (i := 6) T10.out
  have EC := Lib.hid (lr_end W1 W9 W1.heap.size r7 s7 l79 (by have := HLEN.out; omega))
  have FW : Hid (Fr (fun _ _ => True) W1 W9) := l79.fr
  have R9 : Hid (W9.heap[w.heap.size]? = some (.cells #[.int .i64 0, .int .i64 0, .int .u32 0, .int .i64 0, .int .i64 0, .int .u64 0, .int .u64 0] 33 (0, 0))) := l79.fr.keep _ _ X1.out trivial
  have CH := Lib.hid (dec_chain HN1.out HN2.out HN3.out HN4.out HN5.out HN6.out HN7.out)
  have NW : Hid (w.heap.size ≠ w4.heap.size) := by have := NG.out; have := lt_of_some X1.out; show _ ≠ _; omega
  clear l6 L6 C7 g7 l7 T9 l79
  go_wp2_with fail
  (with_reducible refine EC.out.mono ?_)
  rintro e w9 ⟨rfl, rfl⟩
  clear T10 hW9 k5 k6 z5 z6 EC hW1
  have a0 := cell_mk (i := 0) T11.out rfl
  have a1 := cell_mk (i := 1) T11.out rfl
  have a2 := cell_mk (i := 2) T11.out rfl
  have a3 := cell_mk (i := 3) T11.out rfl
  have a4 := cell_mk (i := 4) T11.out rfl
  have a5 := cell_mk (i := 5) T11.out rfl
  have a6 := cell_mk (i := 6) T11.out rfl
  have q0 := cell_mk (i := 0) R9.out rfl
  have q1 := cell_mk (i := 1) R9.out rfl
  have q2 := cell_mk (i := 2) R9.out rfl
  have q3 := cell_mk (i := 3) R9.out rfl
  have q4 := cell_mk (i := 4) R9.out rfl
  have q5 := cell_mk (i := 5) R9.out rfl
  have q6 := cell_mk (i := 6) R9.out rfl
  have y0 := frozen_mk (i := 0) R9.out
  have y1 := frozen_mk (i := 1) R9.out
  have y2 := frozen_mk (i := 2) R9.out
  have y3 := frozen_mk (i := 3) R9.out
  have y4 := frozen_mk (i := 4) R9.out
  have y5 := frozen_mk (i := 5) R9.out
  have y6 := frozen_mk (i := 6) R9.out
  have FIN : Hid (∀ WZ, Fr (fun c _ => c ≠ w.heap.size) W9 WZ → Fr (fun _ _ => True) w WZ) := fun WZ f => Fr.within (((F1.out.trans FW.out).mono fun _ _ _ => trivial).trans (f.mono fun c _ h => by have := h.2; omega))
  rcases CH.out with ⟨hl, hs⟩ | ⟨hl, hs, hr, hd⟩
  · have EN : Hid (endL r7 s7 = 10) := by show _ = _; rw [hs]; rfl
    have ED : Hid (decM b = (zeroC, 10)) := by show _ = _; unfold decM; rw [if_pos hl]
    clear hl hs CH
    rw [EN.out]
    obtain ⟨WZ, hWZ, TZ, FZ⟩ := set7 R9.out (.int .i64 0) (.int .i64 0) (.int .u32 0) (.int .i64 0) (.int .i64 0) (.int .u64 0) (.int .u64 0)
    have p0 := cell_mk (i := 0) TZ rfl
    have p1 := cell_mk (i := 1) TZ rfl
    have p2 := cell_mk (i := 2) TZ rfl
    have p3 := cell_mk (i := 3) TZ rfl
    have p4 := cell_mk (i := 4) TZ rfl
    have p5 := cell_mk (i := 5) TZ rfl
    have p6 := cell_mk (i := 6) TZ rfl
    have FZH := Lib.hid FZ
    clear FZ TZ
    go_wp2
    refine bodyPost_ret (v := .tuple #[.agg #[.int .i64 0, .int .i64 0, .int .u32 0, .int .i64 0, .int .i64 0, .int .u64 0, .int .u64 0], .int .i64 10]) (by simp [results, Tryz.results25, go_sem, *]) rfl ⟨?_, ?_⟩
    · rw [ED.out]; rfl
    · exact FIN.out _ FZH.out
  · have hrl : r7.length = b.length - 24 := by rw [hr, List.length_drop]
    by_cases h24 : 24 < b.length
    · have EN : Hid (endL r7 s7 = 11) := by show _ = _; unfold endL; rw [hs, if_neg (by simp), if_pos (by omega)]
      have ED : Hid (decM b = (zeroC, 11)) := by show _ = _; unfold decM; rw [if_neg (by omega), if_pos h24]
      clear hl hs hr hd hrl h24 CH
      rw [EN.out]
      obtain ⟨WZ, hWZ, TZ, FZ⟩ := set7 R9.out (.int .i64 0) (.int .i64 0) (.int .u32 0) (.int .i64 0) (.int .i64 0) (.int .u64 0) (.int .u64 0)
      have p0 := cell_mk (i := 0) TZ rfl
      have p1 := cell_mk (i := 1) TZ rfl
      have p2 := cell_mk (i := 2) TZ rfl
      have p3 := cell_mk (i := 3) TZ rfl
      have p4 := cell_mk (i := 4) TZ rfl
      have p5 := cell_mk (i := 5) TZ rfl
      have p6 := cell_mk (i := 6) TZ rfl
      have FZH := Lib.hid FZ
      clear FZ TZ
      go_wp2
      refine bodyPost_ret (v := .tuple #[.agg #[.int .i64 0, .int .i64 0, .int .u32 0, .int .i64 0, .int .i64 0, .int .u64 0, .int .u64 0], .int .i64 11]) (by simp [results, Tryz.results25, go_sem, *]) rfl ⟨?_, ?_⟩
      · rw [ED.out]; rfl
      · exact FIN.out _ FZH.out
    · have EN : Hid (endL r7 s7 = 0) := by show _ = _; unfold endL; rw [hs, if_neg (by simp), if_neg (by omega)]
      have HD := Lib.hid hd
      by_cases h1 : 1 ≤ x1
      · have h1' : decide ((x1 : Int) < 1) = false := by simp; omega
        by_cases h7 : x1 ≤ 7
        · have h7' : decide ((7 : Int) < x1) = false := by simp; omega
          have ED : Hid (decM b = (⟨(x1 : Nat), (x2 : Nat), x3, (x4 : Nat), (x5 : Nat), x6, x7⟩, 0)) := by show _ = _; unfold decM; rw [if_neg (by omega), if_neg h24, hd, if_neg (by show ¬ ((x1 : Int) < 1 ∨ 7 < (x1 : Int)); omega)]
          clear hl hs hr hd hrl h24 CH h1 h7
          rw [EN.out]
          obtain ⟨WZ, hWZ, TZ, FZ⟩ := set7 R9.out (.int .i64 (x1 : Nat)) (.int .i64 (x2 : Nat)) (.int .u32 (x3 : Nat)) (.int .i64 (x4 : Nat)) (.int .i64 (x5 : Nat)) (.int .u64 (x6 : Nat)) (.int .u64 (x7 : Nat))
          have p0 := cell_mk (i := 0) TZ rfl
          have p1 := cell_mk (i := 1) TZ rfl
          have p2 := cell_mk (i := 2) TZ rfl
          have p3 := cell_mk (i := 3) TZ rfl
          have p4 := cell_mk (i := 4) TZ rfl
          have p5 := cell_mk (i := 5) TZ rfl
          have p6 := cell_mk (i := 6) TZ rfl
          have FZH := Lib.hid FZ
          clear FZ TZ
          go_wp2
          refine bodyPost_ret (v := .tuple #[.agg #[.int .i64 (x1 : Nat), .int .i64 (x2 : Nat), .int .u32 (x3 : Nat), .int .i64 (x4 : Nat), .int .i64 (x5 : Nat), .int .u64 (x6 : Nat), .int .u64 (x7 : Nat)], .int .i64 0]) (by simp [results, Tryz.results25, go_sem, *]) rfl ⟨?_, ?_⟩
          · rw [ED.out]; rfl
          · exact FIN.out _ FZH.out
        · have h7' : decide ((7 : Int) < x1) = true := by simp; omega
          have ED : Hid (decM b = (zeroC, 1)) := by show _ = _; unfold decM; rw [if_neg (by omega), if_neg h24, hd, if_pos (by show (x1 : Int) < 1 ∨ 7 < (x1 : Int); omega)]
          clear hl hs hr hd hrl h24 CH h1 h7
          rw [EN.out]
          obtain ⟨WZ, hWZ, TZ, FZ⟩ := set7 R9.out (.int .i64 0) (.int .i64 0) (.int .u32 0) (.int .i64 0) (.int .i64 0) (.int .u64 0) (.int .u64 0)
          have p0 := cell_mk (i := 0) TZ rfl
          have p1 := cell_mk (i := 1) TZ rfl
          have p2 := cell_mk (i := 2) TZ rfl
          have p3 := cell_mk (i := 3) TZ rfl
          have p4 := cell_mk (i := 4) TZ rfl
          have p5 := cell_mk (i := 5) TZ rfl
          have p6 := cell_mk (i := 6) TZ rfl
          have FZH := Lib.hid FZ
          clear FZ TZ
          go_wp2
          refine bodyPost_ret (v := .tuple #[.agg #[.int .i64 0, .int .i64 0, .int .u32 0, .int .i64 0, .int .i64 0, .int .u64 0, .int .u64 0], .int .i64 1]) (by simp [results, Tryz.results25, go_sem, *]) rfl ⟨?_, ?_⟩
          · rw [ED.out]; rfl
          · exact FIN.out _ FZH.out
      · have h1' : decide ((x1 : Int) < 1) = true := by simp; omega
        have ED : Hid (decM b = (zeroC, 1)) := by show _ = _; unfold decM; rw [if_neg (by omega), if_neg h24, hd, if_pos (by show (x1 : Int) < 1 ∨ 7 < (x1 : Int); omega)]
        clear hl hs hr hd hrl h24 CH h1
        rw [EN.out]
        obtain ⟨WZ, hWZ, TZ, FZ⟩ := set7 R9.out (.int .i64 0) (.int .i64 0) (.int .u32 0) (.int .i64 0) (.int .i64 0) (.int .u64 0) (.int .u64 0)
        have p0 := cell_mk (i := 0) TZ rfl
        have p1 := cell_mk (i := 1) TZ rfl
        have p2 := cell_mk (i := 2) TZ rfl
        have p3 := cell_mk (i := 3) TZ rfl
        have p4 := cell_mk (i := 4) TZ rfl
        have p5 := cell_mk (i := 5) TZ rfl
        have p6 := cell_mk (i := 6) TZ rfl
        have FZH := Lib.hid FZ
        clear FZ TZ
        go_wp2
        refine bodyPost_ret (v := .tuple #[.agg #[.int .i64 0, .int .i64 0, .int .u32 0, .int .i64 0, .int .i64 0, .int .u64 0, .int .u64 0], .int .i64 1]) (by simp [results, Tryz.results25, go_sem, *]) rfl ⟨?_, ?_⟩
        · rw [ED.out]; rfl
        · exact FIN.out _ FZH.out
end Go.Proofs.YtlolfcnfcgegdaaGreat
