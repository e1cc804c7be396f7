/- Texts of the proofs, part 7: what the functions that they reach do, walked; no conditions beyond those that each states. -/
import Derived.StillTailTactics
import Derived.Test.YtkaikckehkcfhaaZz3b9c433935
set_option linter.unusedVariables false
set_option linter.unusedSimpArgs false
/- Writers and readers of the function's own. -/
namespace Go.Proofs.Ytkaikckehkcfhaa
open Go.RowKit
set_option linter.unusedVariables false
set_option linter.unusedSimpArgs false

/-- A writer that is new since W0: nothing that was there in W0 is touched. -/
structure LW (W0 w : World) (bw : Nat) (bs : List UInt8) : Prop where
  new : W0.heap.size ≤ bw
  at' : ∃ v, WrAt w bw v bs ∧ ∀ k, v.ownBlock = some k → W0.heap.size ≤ k
  fr : Fr (fun _ _ => True) W0 w
theorem LW.mk0 {W0 w : World} (h : Fr (fun _ _ => True) W0 w) : LW W0 (w.alloc (.cells #[.slice none 0 0] 71 (0, 0))) w.heap.size [] :=
  ⟨h.size, ⟨.slice none 0 0, ⟨heap_alloc_new _ _, ⟨rfl, .inl ⟨rfl, rfl⟩⟩⟩, fun k e => by cases e⟩, h.alloc _⟩
theorem LW.tt {W0 w w' : World} {bw : Nat} {bs : List UInt8} (h : LW W0 w bw bs) (hf : Fr (fun _ _ => True) w w') : LW W0 w' bw bs := by
  obtain ⟨v, hv, hk⟩ := h.at'
  exact ⟨h.new, ⟨v, ⟨hf.keep _ _ hv.top trivial, ownsRow_fr hv.own hf fun _ _ _ _ => trivial⟩, hk⟩, h.fr.trans hf⟩
theorem old_tt {K : Nat → Obj → Prop} {a w w' : World} (h : Fr (fun _ _ => True) a w) (hf : Fr K w w') (hk : ∀ b o, b < a.heap.size → K b o) : Fr (fun _ _ => True) a w' :=
  ⟨hf.os.trans h.os, hf.tape.trans h.tape, hf.output.trans h.output, Nat.le_trans h.size hf.size, fun b o hb _ => hf.keep b o (h.keep b o hb trivial) (hk b o (lt_of_some hb))⟩
theorem lw_number (W0 w : World) (bw : Nat) (bs : List UInt8) (n size : Nat) (nz sz : Int) (hnz : nz = n) (hsz : sz = size) (h : LW W0 w bw bs) (h1 : 1 ≤ size) (h8 : size ≤ 8) (hn : n < 18446744073709551616) (hb : bs.length ≤ 1000000) :
    Calls Try.prog 32 #[.pointer (some ⟨bw, 0, none⟩), .int .u64 nz, .int .i64 sz] w fun e w' => e = .returned (.tuple #[]) ∧ LW W0 w' bw (bs ++ le n size) := by
  subst hnz hsz
  obtain ⟨v, hv, hk⟩ := h.at'
  refine (wnum_main w bw v bs n size hv h1 h8 hn hb).mono fun _ _ ⟨he, v', h1, h2, h3⟩ => ⟨he, h.new, ⟨v', h1, fun k e => ?_⟩, old_tt h.fr h2 fun b o hb => ⟨?_, fun e => ?_⟩⟩
  · rcases h3 with h3 | h3
    · exact hk k (h3 ▸ e)
    · have := h3 k e; have := h.fr.size; omega
  · have := h.new; omega
  · have := hk b e; omega
set_option maxRecDepth 100000 in
theorem lw_out (W0 w : World) (bw : Nat) (bs : List UInt8) (h : LW W0 w bw bs) (hb : bs.length ≤ 1000000) :
    Calls Try.prog 34 #[.pointer (some ⟨bw, 0, none⟩)] w fun e w' => (∃ a cap, e = .returned (.slice a bs.length cap) ∧ BytesAt (New w.heap.size) w' (.slice a bs.length cap) bs) ∧ Fr (fun _ _ => True) W0 w' := by
  obtain ⟨v, hv, hk⟩ := h.at'
  have hc : w.cell? ⟨bw, 0, none⟩ = some v := cell_mk hv.top rfl
  have hcl := clone_calls w v bs (BytesAt.of_owns hv.own) (by omega)
  have HC := Lib.hid hcl
  have HF0 := Lib.hid h.fr
  clear hcl h hv hk
  go_enter Try.func34, Try.ntmps34
  go_wp2_with fail
  (with_reducible refine HC.out.mono ?_)
  rintro e w1 ⟨a, cap, rfl, hb1, hf1⟩
  have HB := Lib.hid hb1
  have HF := Lib.hid hf1
  clear hb1 hf1
  go_wp2
  go_ret
  exact ⟨⟨_, _, rfl, HB.out⟩, HF0.out.trans HF.out⟩

/-- Bytes with their number ahead. -/
def byt (b : List UInt8) : List UInt8 := le (b.take 1000).length 2 ++ b.take 1000
theorem byt_length (b : List UInt8) : (byt b).length ≤ 1002 := by unfold byt; simp [le_length]; omega

theorem take_min {α : Type} (n : Nat) (b : List α) : b.take (min n b.length) = b.take n := by
  by_cases q : b.length ≤ n
  · rw [Nat.min_eq_right q, List.take_length, List.take_of_length_le q]
  · rw [Nat.min_eq_left (by omega)]
theorem own_base {w : World} {B B' : Nat} {e : TypeId} {s : Nat} {v : Value} {n : Nat} {xs : List Value} (h : w.ownsRow B e s v n xs) (hk : ∀ k, v.ownBlock = some k → B' ≤ k) : w.ownsRow B' e s v n xs := by
  obtain ⟨h1, h2⟩ := h
  refine ⟨h1, ?_⟩
  rcases h2 with h2 | ⟨g, cap, cur, hv, hg, r⟩
  · exact .inl h2
  · exact .inr ⟨g, cap, cur, hv, hk g (by rw [hv]; rfl), r⟩
theorem LW.parts {W0 w : World} {bw : Nat} {bs : List UInt8} (h : LW W0 w bw bs) : ∃ v, w.cell? ⟨bw, 0, none⟩ = some v ∧ w.frozen? ⟨bw, 0, none⟩ = false ∧ RowB w W0.heap.size v bs.length bs ∧ v.ownBlock ≠ some bw := by
  obtain ⟨v, hv, hk⟩ := h.at'
  exact ⟨v, cell_mk hv.top rfl, frozen_mk hv.top, own_base hv.own hk, hv.ne⟩
/-- The writer behind an append and a store. -/
theorem LW.store {W0 w w' : World} {bw : Nat} {bs r : List UInt8} {v v' : Value} (h : LW W0 w bw bs) (hc : w.cell? ⟨bw, 0, none⟩ = some v) (hr : RowB w' W0.heap.size v' r.length r) (hg : w.grownBy w' v.ownBlock) :
    w'.cell? ⟨bw, 0, none⟩ = some v ∧ w'.frozen? ⟨bw, 0, none⟩ = false ∧ LW W0 (w'.setCell ⟨bw, 0, none⟩ v') bw r := by
  obtain ⟨u, hv, hk⟩ := h.at'
  obtain rfl : u = v := by
    have := cell_mk (i := 0) hv.top rfl
    rw [hc] at this
    exact (Option.some.inj this).symm
  have ht := grown_block hg hv.top hv.ne
  have hne : v'.ownBlock ≠ some bw := by
    rcases hr.2 with ⟨e, _⟩ | ⟨g, cap, cur, e, _, hh, _⟩
    · subst e; simp [Value.ownBlock]
    · subst e
      intro e
      simp only [Value.ownBlock, Option.some.injEq] at e
      rw [e, ht] at hh
      cases hh
  have hF : Fr (fun _ _ => True) W0 w' := h.fr.grown_new hg hk
  refine ⟨cell_mk ht rfl, frozen_mk ht, h.new, ⟨v', ⟨heap_setCell_same ht _, own_base (ownsRow_setCell_ne hr hne _) fun _ _ => Nat.zero_le _⟩, own_new hr⟩, hF.setCell_new h.new _⟩

/-- An append of bytes to a row of the function's own; what comes of it is hidden. -/
theorem wpList_append_hid {K0 : Nat → Obj → Prop} {ops : Array Oper} {rest : List Oper} {o : Oper} {a : Act} {Q : Exit → Act → World → Prop} (W : World) (hgd : o.guard = none) (s x : Operand)
    (ho : o.op = .call { callee := .builtin .append, args := #[s, x], argTypes := #[31, 31] }) (B : Nat) (hB : B ≤ W.heap.size) (v : Value) (n : Nat) (xs : List UInt8) (hs : a.eval s = v) (hown : Hid (RowB W B v n xs))
    (vx : Value) (bs : List UInt8) (hx : a.eval x = vx) (hb : Hid (BytesAt K0 W vx bs)) (N : Nat) (r : List UInt8) (hr : Hid (xs ++ bs = r)) (hN : Hid (n + bs.length = N)) (hn : N ≤ 2000000)
    (h : ∀ a' c' w', Hid (RowB w' B (.slice a' N c') N r) → Hid (W.grownBy w' v.ownBlock) → wpList Try.prog ops Q rest (a.put o.dst (.slice a' N c')) w') :
    wpList Try.prog ops Q (o :: rest) a W :=
  wpList_append_bytes W hgd s x ho B hB v n xs hs hown.out vx bs hx hb.out N r hr.out hN.out hn h

set_option maxRecDepth 100000 in
set_option maxHeartbeats 1000000 in
theorem lw_bytes1 {K : Nat → Obj → Prop} (W0 w : World) (bw : Nat) (bs : List UInt8) (a : Option Addr) (L m cap : Nat) (mz : Int) (t : List UInt8) (h : LW W0 w bw bs) (hb : BytesAt K W0 (.slice a m cap) t) (hm : bs.length ≤ 900000) (hL : L ≤ 140737488355328) (hmz : mz = m)
    (h1000 : m ≤ 1000) (hd : ((L : Int) ≤ 1000 ∧ mz = L) ∨ ((1000 : Int) < L ∧ mz = 1000)) (hcap : m ≤ cap) (r : List UInt8) (hr : r = bs ++ (le m 2 ++ t)) :
    Calls Try.prog 33 #[.pointer (some ⟨bw, 0, none⟩), .slice a L cap] w fun e w' => e = .returned (.tuple #[]) ∧ LW W0 w' bw r := by
  have HRI := Lib.hid hr
  clear hr
  have hml : m = t.length := hb.len
  have s1 := fun W => run_slice_to Try.underlying31 size_u8 W a L cap m .i64 hcap
  have K1 := Lib.hid (lw_number W0 w bw bs m 2 m 2 rfl rfl h (by omega) (by omega) (by omega) (by omega))
  rw [← hmz] at s1
  have HB := Lib.hid hb
  have HM := Lib.hid hml
  have hmc : (m : Int) ≤ 1000 := by omega
  have hm0 : (0 : Int) ≤ m := by omega
  have HMZ := Lib.hid hmz
  clear h hb hml hmz
  rcases hd with ⟨h1, rfl⟩ | ⟨h1, rfl⟩ <;>
  · go_enter Try.func33, Try.ntmps33
    go_wp2_with fail
    with_reducible refine K1.out.mono ?_
    rintro e1 w1 ⟨rfl, h1⟩
    have H1 := Lib.hid h1
    have HB1 := Lib.hid (HB.out.tt h1.fr)
    clear h1 K1 HB s1
    obtain ⟨u, c1, f1, hr, hne⟩ := H1.out.parts
    have HR := Lib.hid hr
    clear hr hne
    have hr := HRI.out
    have E1 : Hid ((bs ++ le m 2) ++ t = r) := by rw [hr]; simp [Hid]
    have E2 : Hid ((bs ++ le m 2).length + t.length = r.length) := by rw [hr]; simp [Hid]; omega
    have E3 : r.length ≤ 2000000 := by have := HM.out; rw [hr]; simp [le_length]; omega
    clear hr HRI
    generalize bs ++ le m 2 = x at *
    generalize x.length = X at *
    obtain ⟨R, hR⟩ : ∃ R, R = r.length := ⟨_, rfl⟩
    have HRR := Lib.hid hR
    rw [← hR] at E2 E3
    clear hR
    go_wp2_with (at_builtin; refine wpList_append_hid _ rfl _ _ rfl W0.heap.size H1.out.fr.size _ _ x rfl HR _ t rfl HB1 R r E1 E2 E3 ?_)
    intro a1 c2 w2 O1 G1
    obtain ⟨c3, f3, h3⟩ := H1.out.store (r := r) (v' := .slice a1 R c2) c1 (by have := O1.out; rwa [HRR.out] at this ⊢) G1.out
    have H3 := Lib.hid h3
    clear h3 O1 G1 H1 HR HB1 c1 f1
    go_wp2
    go_end0
    exact ⟨rfl, H3.out⟩
theorem lw_bytes {K : Nat → Obj → Prop} (W0 w : World) (bw : Nat) (bs : List UInt8) (v : Value) (b : List UInt8) (h : LW W0 w bw bs) (hb : BytesAt K W0 v b) (hm : bs.length ≤ 900000) (hbm : b.length ≤ 140737488355328) :
    Calls Try.prog 33 #[.pointer (some ⟨bw, 0, none⟩), v] w fun e w' => e = .returned (.tuple #[]) ∧ LW W0 w' bw (bs ++ byt b) := by
  obtain ⟨a, cap, rfl⟩ := hb.form
  have hcap := hb.cap
  have e : b.take (b.take 1000).length = b.take 1000 := by rw [List.length_take, take_min]
  have hbt := hb.take (b.take 1000).length (by simp; omega)
  rw [e] at hbt
  exact lw_bytes1 W0 w bw bs a b.length (b.take 1000).length cap (b.take 1000).length (b.take 1000) h hbt hm hbm rfl (by simp; omega) (by simp; omega) (by simp; omega) _ rfl
end Go.Proofs.Ytkaikckehkcfhaa
/- Readers of the function's own: the program's and the document's. -/
namespace Go.Proofs.Ytkaikckehkcfhaa
open Go.RowKit
set_option linter.unusedVariables false
set_option linter.unusedSimpArgs false

/-- A reader that is new since W0, over bytes that were there in W0. -/
structure LR (W0 w : World) (br : Nat) (bs : List UInt8) (sh : Bool) : Prop where
  new : W0.heap.size ≤ br
  at' : ∃ v, RdrAt (fun c _ => c < W0.heap.size) w br v bs sh
  fr : Fr (fun _ _ => True) W0 w
theorem LR.mk0 {K : Nat → Obj → Prop} {W0 w : World} {v : Value} {bs : List UInt8} (h : Fr (fun _ _ => True) W0 w) (hb : BytesAt K W0 v bs) : LR W0 (w.alloc (.cells #[v, .bool false] 79 (0, 0))) w.heap.size bs false :=
  ⟨h.size, ⟨v, heap_alloc_new _ _, ((hb.mono (K' := fun c _ => c < W0.heap.size) fun _ _ hb _ => lt_of_some hb).tt h).tt ((Fr.refl _ _).alloc _), fun cs fz hk => by have := h.size; omega⟩, h.alloc _⟩
theorem LR.tt {W0 w w' : World} {br : Nat} {bs : List UInt8} {sh : Bool} (h : LR W0 w br bs sh) (hf : Fr (fun _ _ => True) w w') : LR W0 w' br bs sh := by
  obtain ⟨v, hv⟩ := h.at'
  exact ⟨h.new, ⟨v, hf.keep _ _ hv.top trivial, hv.bytes.tt hf, hv.off⟩, h.fr.trans hf⟩
theorem lr_number (W0 w : World) (br : Nat) (bs : List UInt8) (sh : Bool) (n : Nat) (sz : Int) (hsz : sz = n) (h : LR W0 w br bs sh) (h1 : 1 ≤ n) (h8 : n ≤ 8) (hm : bs.length ≤ 140737488355328) (x : Nat) (r : List UInt8) (s : Bool) (hr : numR bs sh n = (x, r, s)) :
    Calls Try.prog 26 #[.pointer (some ⟨br, 0, none⟩), .int .i64 sz] w fun e w' => e = .returned (.int .u64 (x : Nat)) ∧ LR W0 w' br r s ∧ Fr (fun c _ => c ≠ br) w w' := by
  subst hsz
  obtain ⟨v, hv⟩ := h.at'
  refine (rnum_calls w br v bs sh n hv h1 h8 hm).mono fun e w' ⟨he, hv', hf⟩ => ?_
  rw [hr] at he hv'
  exact ⟨he, ⟨h.new, hv', old_tt h.fr hf fun b o hb => by have := h.new; omega⟩, hf⟩
/-- What bytes read as bytes. -/
def bytR (bs : List UInt8) (sh : Bool) : List UInt8 × List UInt8 × Bool :=
  if (numR bs sh 2).2.2 = true ∨ 1000 < (numR bs sh 2).1 ∨ (numR bs sh 2).2.1.length < (numR bs sh 2).1 then ([], [], true) else ((numR bs sh 2).2.1.take (numR bs sh 2).1, (numR bs sh 2).2.1.drop (numR bs sh 2).1, false)
theorem numR_shut {bs : List UInt8} {sh : Bool} {n : Nat} (h : (numR bs sh n).2.2 = true) : (numR bs sh n).1 = 0 ∧ (numR bs sh n).2.1 = [] := by
  unfold numR at h ⊢
  split
  · exact ⟨rfl, rfl⟩
  next q => rw [if_neg q] at h; simp at h
theorem numR_len (bs : List UInt8) (sh : Bool) (n : Nat) : (numR bs sh n).2.1.length ≤ bs.length := by
  unfold numR; split <;> simp
theorem numR_lt (bs : List UInt8) (sh : Bool) (n : Nat) : (numR bs sh n).1 < 256 ^ n := by
  unfold numR
  split
  · exact Nat.pow_pos (by decide)
  next q =>
    have := ofLE_lt (bs.take n)
    rwa [List.length_take, Nat.min_eq_left (by omega)] at this
theorem bytR_len (bs : List UInt8) (sh : Bool) : (bytR bs sh).2.1.length ≤ bs.length ∧ (bytR bs sh).1.length ≤ 1000 := by
  have := numR_len bs sh 2
  unfold bytR
  split
  · simp
  next q => simp; omega

set_option maxRecDepth 100000 in
set_option maxHeartbeats 1000000 in
theorem lr_bytes (W0 w : World) (br : Nat) (bs : List UInt8) (sh : Bool) (h : LR W0 w br bs sh) (hm : bs.length ≤ 140737488355000) (x r : List UInt8) (s : Bool) (hr : bytR bs sh = (x, r, s)) :
    Calls Try.prog 27 #[.pointer (some ⟨br, 0, none⟩)] w fun e w' => (∃ a cap, e = .returned (.slice a x.length cap) ∧ BytesAt (New w.heap.size) w' (.slice a x.length cap) x) ∧ LR W0 w' br r s ∧ Fr (fun c _ => c ≠ br) w w' := by
  have K1 := Lib.hid (lr_number W0 w br bs sh 2 2 rfl h (by omega) (by omega) (by omega) (numR bs sh 2).1 (numR bs sh 2).2.1 (numR bs sh 2).2.2 rfl)
  have hl := numR_len bs sh 2
  have hlt := numR_lt bs sh 2
  have HS := Lib.hid (numR_shut (bs := bs) (sh := sh) (n := 2))
  unfold bytR at hr
  have HR := Lib.hid hr
  have HL := Lib.hid hm
  generalize (numR bs sh 2).1 = n at *
  generalize (numR bs sh 2).2.1 = q at *
  generalize (numR bs sh 2).2.2 = s1 at *
  have hn : n < 65536 := by simpa using hlt
  have hqb : q.length ≤ 140737488355000 := by omega
  clear h hr hm hl hlt
  go_enter Try.func27, Try.ntmps27
  go_wp2_with fail
  with_reducible refine K1.out.mono ?_
  rintro e1 w1 ⟨rfl, h1, f1⟩
  have H1 := Lib.hid h1
  have F1 := Lib.hid f1
  clear h1 f1 K1
  obtain ⟨v, hv⟩ := H1.out.at'
  obtain ⟨a, cap, rfl⟩ := hv.bytes.form
  have c0 := cell_mk (i := 0) hv.top rfl
  have HV := Lib.hid hv
  clear hv
  by_cases hno : s1 = true ∨ 1000 < n ∨ q.length < n
  · have hrr := HR.out
    rw [if_pos hno] at hrr
    obtain ⟨rfl, rfl, rfl⟩ : x = [] ∧ r = [] ∧ s = true := by simpa using hrr.symm
    clear hrr HR
    have HT : Hid (∀ k : Nat, s1 = true ∨ q.length < k → k ≤ 140737488355328 → Calls Try.prog 41 #[.pointer (some ⟨br, 0, none⟩), .int .i64 (k : Nat)] w1 fun e w' => e = .returned (.slice none 0 0) ∧ RdrAt (fun c _ => c < W0.heap.size) w' br (.slice none 0 0) [] true ∧ Fr (fun b _ => b ≠ br) w1 w') := fun k hk hk2 => take_no w1 br _ q s1 k HV.out hk hk2
    have HNO := Lib.hid hno
    clear hno
    have fin : Hid (∀ w2, RdrAt (fun c _ => c < W0.heap.size) w2 br (.slice none 0 0) [] true → Fr (fun b _ => b ≠ br) w1 w2 → LR W0 w2 br [] true ∧ Fr (fun c _ => c ≠ br) w w2) := fun w2 h2 f2 => ⟨⟨H1.out.new, ⟨_, h2⟩, old_tt H1.out.fr f2 fun b o hb => by have := H1.out.new; omega⟩, F1.out.trans f2⟩
    by_cases h1k : (1000 : Int) < n
    · have K2 := Lib.hid (HT.out (q.length + 1) (.inr (by omega)) (by omega))
      have e1 : ((q.length + 1 : Nat) : Int) = (q.length : Int) + 1 := by omega
      rw [e1] at K2
      clear HT e1
      go_wp2_with fail
      with_reducible refine K2.out.mono ?_
      rintro e1 w2 ⟨rfl, h2, f2⟩
      have H2 := Lib.hid (fin.out w2 h2 f2)
      clear h2 f2 fin HV H1 K2
      have K3 := Lib.hid (clone_nil w2)
      go_wp2_with fail
      with_reducible refine K3.out.mono ?_
      rintro e1 w3 ⟨rfl, rfl⟩
      go_wp2
      go_ret
      exact ⟨⟨none, 0, rfl, BytesAt.nil _ _⟩, H2.out⟩
    · have K2 := Lib.hid (HT.out n (by rcases HNO.out with q | q | q; exact .inl q; omega; exact .inr q) (by omega))
      clear HT
      go_wp2_with fail
      with_reducible refine K2.out.mono ?_
      rintro e1 w2 ⟨rfl, h2, f2⟩
      have H2 := Lib.hid (fin.out w2 h2 f2)
      clear h2 f2 fin HV H1 K2
      have K3 := Lib.hid (clone_nil w2)
      go_wp2_with fail
      with_reducible refine K3.out.mono ?_
      rintro e1 w3 ⟨rfl, rfl⟩
      go_wp2
      go_ret
      exact ⟨⟨none, 0, rfl, BytesAt.nil _ _⟩, H2.out⟩
  · have hrr := HR.out
    rw [if_neg hno] at hrr
    obtain ⟨hx, hr2, rfl⟩ : q.take n = x ∧ q.drop n = r ∧ s = false := by
      have := Prod.mk.inj hrr; have h2 := Prod.mk.inj this.2; exact ⟨this.1, h2.1, h2.2.symm⟩
    clear hrr HR
    have hs1 : s1 = false := by cases s1 <;> simp_all
    subst hs1
    have h1k : (n : Int) ≤ 1000 := by omega
    have hnq : n ≤ q.length := by omega
    have K2 := Lib.hid (take_ok w1 br _ q n HV.out hnq (by omega))
    have HXL : Hid ((q.take n).length = n) := by simp [Hid]; omega
    rw [hx] at K2 HXL
    rw [hr2] at K2
    clear hno hx hr2
    go_wp2_with fail
    with_reducible refine K2.out.mono ?_
    rintro e1 w2 ⟨out, v', rfl, hb, h2, f2⟩
    have H2 : Hid (LR W0 w2 br r false) := ⟨H1.out.new, ⟨_, h2⟩, old_tt H1.out.fr f2 fun b o hb => by have := H1.out.new; omega⟩
    have F2 := Lib.hid (F1.out.trans f2)
    have K3 := Lib.hid (clone_calls w2 out x hb (by have := HXL.out; omega))
    clear hb h2 f2 K2 HV H1 F1
    go_wp2_with fail
    with_reducible refine K3.out.mono ?_
    rintro e1 w3 ⟨a3, cap3, rfl, hb3, f3⟩
    have F3 := Lib.hid f3
    have B3 : Hid (BytesAt (New w.heap.size) w3 (.slice a3 x.length cap3) x) := hb3.mono fun b o _ hk => ⟨by have := hk.1; have := F2.out.size; omega, hk.2⟩
    have H3 := Lib.hid (H2.out.tt f3)
    clear f3 hb3 K3
    go_wp2
    go_ret
    exact ⟨⟨_, _, rfl, B3.out⟩, H3.out, F2.out.trans (F3.out.mono fun _ _ _ => trivial)⟩

/-- How a reader ended. -/
def endL (bs : List UInt8) (sh : Bool) : Int := if sh then 10 else if 0 < bs.length then 11 else 0
set_option maxRecDepth 100000 in
theorem lr_end (W0 w : World) (br : Nat) (bs : List UInt8) (sh : Bool) (h : LR W0 w br bs sh) (hm : bs.length ≤ 140737488355328) :
    Calls Try.prog 28 #[.pointer (some ⟨br, 0, none⟩)] w fun e w' => e = .returned (.int .i64 (endL bs sh)) ∧ w = w' := by
  obtain ⟨v, hv⟩ := h.at'
  obtain ⟨a, cap, rfl⟩ := hv.bytes.form
  have c0 := cell_mk (i := 0) hv.top rfl
  have c1 := cell_mk (i := 1) hv.top rfl
  clear h hv
  cases sh with
  | true =>
    go_enter Try.func28, Try.ntmps28
    go_wp2
    go_ret
    exact ⟨rfl, rfl⟩
  | false =>
    by_cases hl : 0 < bs.length
    · have HE : Hid (endL bs false = 11) := by unfold endL; rw [if_neg (by decide), if_pos hl]; rfl
      have hl' : (0 : Int) < bs.length := by omega
      go_enter Try.func28, Try.ntmps28
      go_wp2
      go_ret
      exact ⟨by rw [HE.out]; rfl, rfl⟩
    · have HE : Hid (endL bs false = 0) := by unfold endL; rw [if_neg (by decide), if_neg hl]; rfl
      have hl' : (bs.length : Int) ≤ 0 := by omega
      go_enter Try.func28, Try.ntmps28
      go_wp2
      go_ret
      exact ⟨by rw [HE.out]; rfl, rfl⟩
end Go.Proofs.Ytkaikckehkcfhaa
/- The document's reader, of the function's own. -/
namespace Go.Proofs.Ytkaikckehkcfhaa
open Go.RowKit
set_option linter.unusedVariables false
set_option linter.unusedSimpArgs false

structure RRAt (W0 w : World) (br : Nat) (a : Option Addr) (cap : Nat) (full : List UInt8) (i : Nat) (bs : List UInt8) (sh : Bool) : Prop where
  new : W0.heap.size ≤ br
  top : w.heap[br]? = some (.cells #[.slice a full.length cap, .int .i64 (i : Nat), .bool sh] 69 (0, 0))
  bytes : BytesAt (fun c _ => c < W0.heap.size) W0 (.slice a full.length cap) full
  le : i ≤ full.length
  big : full.length ≤ 140737488355000
  rest : bs = if sh then [] else full.drop i
  fr : Fr (fun _ _ => True) W0 w
/-- The document's reader: what is left, and whether nothing is read any more. -/
def RR (W0 w : World) (br : Nat) (bs : List UInt8) (sh : Bool) : Prop := ∃ a cap full i, RRAt W0 w br a cap full i bs sh
theorem RR.mk0 {K : Nat → Obj → Prop} {W0 w : World} {v : Value} {bs : List UInt8} (h : Fr (fun _ _ => True) W0 w) (hb : BytesAt K W0 v bs) (hm : bs.length ≤ 140737488355000) : RR W0 (w.alloc (.cells #[v, .int .i64 0, .bool false] 69 (0, 0))) w.heap.size bs false := by
  obtain ⟨a, cap, rfl⟩ := hb.form
  exact ⟨a, cap, bs, 0, h.size, heap_alloc_new _ _, hb.mono fun _ _ hb _ => lt_of_some hb, Nat.zero_le _, hm, rfl, h.alloc _⟩
theorem RR.tt {W0 w w' : World} {br : Nat} {bs : List UInt8} {sh : Bool} (h : RR W0 w br bs sh) (hf : Fr (fun _ _ => True) w w') : RR W0 w' br bs sh := by
  obtain ⟨a, cap, full, i, h⟩ := h
  exact ⟨a, cap, full, i, h.new, hf.keep _ _ h.top trivial, h.bytes, h.le, h.big, h.rest, h.fr.trans hf⟩
theorem RR.fr {W0 w : World} {br : Nat} {bs : List UInt8} {sh : Bool} (h : RR W0 w br bs sh) : Fr (fun _ _ => True) W0 w := by
  obtain ⟨a, cap, full, i, h⟩ := h
  exact h.fr
theorem RR.len {W0 w : World} {br : Nat} {bs : List UInt8} {sh : Bool} (h : RR W0 w br bs sh) : bs.length ≤ 140737488355000 := by
  obtain ⟨a, cap, full, i, h⟩ := h
  have := h.big
  rw [h.rest]; split
  · simp
  · simp; omega
/-- The reader behind a store. -/
theorem RRAt.shutS {W0 w : World} {br : Nat} {a : Option Addr} {cap : Nat} {full : List UInt8} {i : Nat} {bs : List UInt8} {sh : Bool} (h : RRAt W0 w br a cap full i bs sh) (n : Nat) : RR W0 ((w.drewN n).setCell ⟨br, 2, none⟩ (.bool true)) br [] true ∧ Fr (fun c _ => c ≠ br) w ((w.drewN n).setCell ⟨br, 2, none⟩ (.bool true)) := by
  have f0 := (Fr.refl (fun _ _ => True) w).drewN n
  have t := f0.keep _ _ h.top trivial
  exact ⟨⟨a, cap, full, i, h.new, heap_setCell_same t _, h.bytes, h.le, h.big, rfl, (h.fr.trans f0).setCell_new h.new _⟩, ((Fr.refl _ w).drewN n).setCell (fun _ _ h => h rfl) _⟩
theorem RRAt.shutS0 {W0 w : World} {br : Nat} {a : Option Addr} {cap : Nat} {full : List UInt8} {i : Nat} {bs : List UInt8} {sh : Bool} (h : RRAt W0 w br a cap full i bs sh) : RR W0 (w.setCell ⟨br, 2, none⟩ (.bool true)) br [] true ∧ Fr (fun c _ => c ≠ br) w (w.setCell ⟨br, 2, none⟩ (.bool true)) := h.shutS 0
theorem RRAt.go {W0 w : World} {br : Nat} {a : Option Addr} {cap : Nat} {full : List UInt8} {i : Nat} {bs : List UInt8} (h : RRAt W0 w br a cap full i bs false) (n k : Nat) (hk : i + k ≤ full.length) : RRAt W0 ((w.drewN n).setCell ⟨br, 1, none⟩ (.int .i64 ((i : Int) + k))) br a cap full (i + k) (bs.drop k) false ∧ Fr (fun c _ => c ≠ br) w ((w.drewN n).setCell ⟨br, 1, none⟩ (.int .i64 ((i : Int) + k))) := by
  have f0 := (Fr.refl (fun _ _ => True) w).drewN n
  have t := f0.keep _ _ h.top trivial
  refine ⟨⟨h.new, ?_, h.bytes, hk, h.big, ?_, (h.fr.trans f0).setCell_new h.new _⟩, ((Fr.refl _ w).drewN n).setCell (fun _ _ h => h rfl) _⟩
  · have := heap_setCell_same (o := 1) t (.int .i64 ((i : Int) + k))
    rw [this]; rfl
  · rw [h.rest]; simp [List.drop_drop]

theorem quiet_eqP {P : Program} {f : FuncId} {args : Array Value} {w : World} {n : Nat} {v : Value}
    (h : Calls P f args (w.drewN n) fun e w' => e = .returned v ∧ w.drewN n = w') : Calls P f args (w.drewN n) fun e w'' => e = .returned v ∧ ∃ m, w'' = w.drewN m :=
  h.mono fun _ _ ⟨he, hm⟩ => ⟨he, n, hm.symm⟩
set_option maxRecDepth 100000 in
set_option maxHeartbeats 1000000 in
theorem rr_number0 (W0 w : World) (br : Nat) (bs : List UInt8) (sh : Bool) (n : Nat) (h : RR W0 w br bs sh) (h1 : 1 ≤ n) (h8 : n ≤ 8) (x : Nat) (r : List UInt8) (s : Bool) (hr : numR bs sh n = (x, r, s)) :
    Calls Try.prog 29 #[.pointer (some ⟨br, 0, none⟩), .int .i64 (n : Nat)] w fun e w' => e = .returned (.int .u64 (x : Nat)) ∧ RR W0 w' br r s ∧ Fr (fun c _ => c ≠ br) w w' := by
  obtain ⟨a, cap, full, i, h⟩ := h
  have c0 := cell_mk (i := 0) h.top rfl
  have c1 := cell_mk (i := 1) h.top rfl
  have c2 := cell_mk (i := 2) h.top rfl
  have f1 := frozen_mk (i := 1) h.top
  have f2 := frozen_mk (i := 2) h.top
  have hle := h.le
  have hbig := h.big
  have hrest := h.rest
  have n1 : (1 : Int) ≤ n := by omega
  have n8 : (n : Int) ≤ 8 := by omega
  have H := Lib.hid h
  cases sh with
  | true =>
    have hrr : (x, r, s) = (0, [], true) := by rw [← hr]; unfold numR; rw [if_pos (.inl rfl)]
    obtain ⟨rfl, rfl, rfl⟩ : x = 0 ∧ r = [] ∧ s = true := by simpa using hrr
    have K1 := Lib.hid h.shutS
    clear hr hrr h hrest
    generalize full.length = L at *
    go_enter Try.func29, Try.ntmps29
    go_wp2_with fail
    go_quiet (fail)
    go_wp2
    go_ret
    exact ⟨rfl, K1.out _⟩
  | false =>
    by_cases hn : full.length < i + n
    · have hrr : (x, r, s) = (0, [], true) := by
        rw [← hr]; unfold numR; rw [if_pos (.inr (by rw [hrest]; simp; omega))]
      obtain ⟨rfl, rfl, rfl⟩ : x = 0 ∧ r = [] ∧ s = true := by simpa using hrr
      have K1 := Lib.hid h.shutS
      have hz : (full.length : Int) < (i : Int) + n := by omega
      have hw1 : IntKind.i64.wrap ((i : Int) + n) = (i : Int) + n := IntWalk.i64_in _ (by omega)
      clear hr hrr h hrest
      generalize full.length = L at *
      go_enter Try.func29, Try.ntmps29
      go_wp2_with fail
      go_quiet (fail)
      go_wp2
      go_ret
      exact ⟨rfl, K1.out _⟩
    · have hle2 : i + n ≤ full.length := by omega
      have hrr : (x, r, s) = (ofLE (bs.take n), bs.drop n, false) := by
        rw [← hr]; unfold numR; rw [if_neg (by rw [hrest]; simp; omega)]
      obtain ⟨hx, rfl, rfl⟩ : x = ofLE (bs.take n) ∧ r = bs.drop n ∧ s = false := by simpa using hrr
      have HX := Lib.hid hx
      clear hx
      have hz : (i : Int) + n ≤ full.length := by omega
      have hw1 : IntKind.i64.wrap ((i : Int) + n) = (i : Int) + n := IntWalk.i64_in _ (by omega)
      have s3 := fun W => run_slice_mid Try.underlying31 size_u8 W a full.length cap i (i + n) .i64 .i64 (by omega) (by have := h.bytes.cap; omega)
      have G1 : Hid (∀ q, RR W0 ((w.drewN q).setCell ⟨br, 1, none⟩ (.int .i64 ((i : Int) + n))) br (bs.drop n) false ∧ Fr (fun c _ => c ≠ br) w ((w.drewN q).setCell ⟨br, 1, none⟩ (.int .i64 ((i : Int) + n)))) := fun q => ⟨⟨_, _, _, _, (h.go q n hle2).1⟩, (h.go q n hle2).2⟩
      have s3b : ∀ W, (Instr.slice 31 (.slice a full.length cap) (some (.int .i64 (i : Nat))) (some (.int .i64 ((i : Int) + n))) none).run Try.prog W = .ok (.slice (subA a cap i) n (cap - i)) W := fun W => by
        have := s3 W
        rwa [show ((i + n : Nat) : Int) = (i : Int) + n from by omega, Nat.add_sub_cancel_left] at this
      have HLE := Lib.hid hle2
      obtain ⟨L, hL⟩ : ∃ L, L = full.length := ⟨_, rfl⟩
      have HLL : Hid (full.length = L) := hL.symm
      rw [← hL] at c0 hle hbig hz s3b
      clear hr hrr s3 h hrest hn hle2 hL
      go_enter Try.func29, Try.ntmps29
      go_wp2_with fail
      go_quiet (fail)
      go_wp2_with fail
      obtain ⟨W1, hW1⟩ : ∃ W1, (w.drewN nq).setCell ⟨br, 1, none⟩ (.int .i64 ((i : Int) + n)) = W1 := ⟨_, rfl⟩
      have g1 := (H.out.go nq n HLE.out)
      rw [hW1] at g1
      rw [hW1]
      have d0 := cell_mk (i := 0) g1.1.top rfl
      have d1 : W1.cell? ⟨br, 1, none⟩ = some (.int .i64 ((i : Int) + n)) := by rw [cell_mk (i := 1) g1.1.top rfl]; rfl
      rw [HLL.out] at d0
      have R1 : Hid (RR W0 W1 br (bs.drop n) false ∧ Fr (fun c _ => c ≠ br) w W1) := ⟨⟨_, _, _, _, g1.1⟩, g1.2⟩
      have BT : Hid (BytesAt (fun c _ => c < W0.heap.size) W1 (.slice (subA a cap i) n (cap - i)) (bs.take n)) := by
        have := ((g1.1.bytes.drop i H.out.le).take n (by simp; have := HLE.out; omega)).tt g1.1.fr
        rw [H.out.rest]
        exact this
      have OF : Hid (∀ m, Calls Try.prog 42 #[.slice (subA a cap i) n (cap - i)] (W1.drewN m) fun e w' => e = .returned (.int .u64 (x : Nat)) ∧ W1.drewN m = w') := fun m => by rw [HX.out]; exact of_calls _ _ _ (BT.out.tt ((Fr.refl _ _).drewN m)) (by simp; omega)
      have hw2 : IntKind.i64.wrap ((i : Int) + n - n) = (i : Int) := by rw [IntWalk.i64_in _ (by omega)]; omega
      clear g1 BT G1 hW1 c0 c1 c2 f1 f2
      generalize subA a cap i = sa at *
      go_quiet ((go_at_call 42; exact quiet_eqP (OF.out _)))
      go_wp2
      go_ret
      exact ⟨rfl, R1.out.1.tt ((Fr.refl _ _).drewN _), R1.out.2.trans ((Fr.refl _ _).drewN _)⟩

theorem rr_number (W0 w : World) (br : Nat) (bs : List UInt8) (sh : Bool) (n : Nat) (sz : Int) (hsz : sz = n) (h : RR W0 w br bs sh) (h1 : 1 ≤ n) (h8 : n ≤ 8) (x : Nat) (r : List UInt8) (s : Bool) (hr : numR bs sh n = (x, r, s)) :
    Calls Try.prog 29 #[.pointer (some ⟨br, 0, none⟩), .int .i64 sz] w fun e w' => e = .returned (.int .u64 (x : Nat)) ∧ RR W0 w' br r s ∧ Fr (fun c _ => c ≠ br) w w' := by
  subst hsz
  exact rr_number0 W0 w br bs sh n h h1 h8 x r s hr
set_option maxRecDepth 100000 in
set_option maxHeartbeats 1000000 in
theorem rr_bytes (W0 w : World) (br : Nat) (bs : List UInt8) (sh : Bool) (h : RR W0 w br bs sh) (x r : List UInt8) (s : Bool) (hr : bytR bs sh = (x, r, s)) :
    Calls Try.prog 30 #[.pointer (some ⟨br, 0, none⟩)] w fun e w' => (∃ a cap, e = .returned (.slice a x.length cap) ∧ BytesAt (fun c _ => c < W0.heap.size) W0 (.slice a x.length cap) x) ∧ RR W0 w' br r s ∧ Fr (fun c _ => c ≠ br) w w' := by
  have K1 := Lib.hid (rr_number W0 w br bs sh 2 2 rfl h (by omega) (by omega) (numR bs sh 2).1 (numR bs sh 2).2.1 (numR bs sh 2).2.2 rfl)
  have hlt := numR_lt bs sh 2
  unfold bytR at hr
  have HR := Lib.hid hr
  generalize (numR bs sh 2).1 = n at *
  generalize (numR bs sh 2).2.1 = q at *
  generalize (numR bs sh 2).2.2 = s1 at *
  have hn : n < 65536 := by simpa using hlt
  clear h hr hlt
  go_enter Try.func30, Try.ntmps30
  go_wp2_with fail
  with_reducible refine K1.out.mono ?_
  rintro e1 w1 ⟨rfl, ⟨a, cap, full, i, h1⟩, f1⟩
  have H1 := Lib.hid h1
  have F1 := Lib.hid f1
  have c0 := cell_mk (i := 0) h1.top rfl
  have c1 := cell_mk (i := 1) h1.top rfl
  have c2 := cell_mk (i := 2) h1.top rfl
  have g1 := frozen_mk (i := 1) h1.top
  have g2 := frozen_mk (i := 2) h1.top
  have hle := h1.le
  have hbig := h1.big
  have hrest := h1.rest
  have hcap := h1.bytes.cap
  clear h1 f1 K1
  have n0 : (0 : Int) ≤ n := by omega
  have hw1 : IntKind.i64.wrap ((i : Int) + n) = (i : Int) + n := IntWalk.i64_in _ (by omega)
  obtain ⟨L, hL⟩ : ∃ L, L = full.length := ⟨_, rfl⟩
  have HLL : Hid (full.length = L) := hL.symm
  rw [← hL] at c0 hle hbig hcap
  by_cases hno : s1 = true ∨ 1000 < n ∨ q.length < n
  · have hrr := HR.out
    rw [if_pos hno] at hrr
    obtain ⟨rfl, rfl, rfl⟩ : x = [] ∧ r = [] ∧ s = true := by simpa using hrr.symm
    have fin : Hid (∀ k, RR W0 ((w1.drewN k).setCell ⟨br, 2, none⟩ (.bool true)) br [] true ∧ Fr (fun c _ => c ≠ br) w ((w1.drewN k).setCell ⟨br, 2, none⟩ (.bool true))) := fun k => ⟨(H1.out.shutS k).1, F1.out.trans (H1.out.shutS k).2⟩
    have hno2 : s1 = true ∨ (s1 = false ∧ ((1000 : Int) < n ∨ ((n : Int) ≤ 1000 ∧ (L : Int) < (i : Int) + n))) := by
      cases s1 with
      | true => exact .inl rfl
      | false =>
        refine .inr ⟨rfl, ?_⟩
        rcases hno with q1 | q1 | q1
        · cases q1
        · exact .inl (by omega)
        · rw [hrest] at q1; simp at q1; omega
    clear hrr HR hno H1 F1 hrest hL HLL
    rcases hno2 with rfl | ⟨rfl, hk | ⟨hk, hk2⟩⟩ <;>
    · go_wp2_with fail
      go_quiet (fail)
      go_wp2
      go_ret
      exact ⟨⟨none, 0, rfl, BytesAt.nil _ _⟩, fin.out _⟩
  · have hrr := HR.out
    rw [if_neg hno] at hrr
    obtain ⟨hx, hr2, rfl⟩ : q.take n = x ∧ q.drop n = r ∧ s = false := by
      have := Prod.mk.inj hrr; have h2 := Prod.mk.inj this.2; exact ⟨this.1, h2.1, h2.2.symm⟩
    have hs1 : s1 = false := by cases s1 <;> simp_all
    subst hs1
    have h1k : (n : Int) ≤ 1000 := by omega
    have hq : q = full.drop i := hrest
    have hle2 : i + n ≤ L := by
      have : ¬ q.length < n := fun q1 => hno (.inr (.inr q1))
      rw [hq] at this; simp at this; omega
    have hz : (i : Int) + n ≤ L := by omega
    have s3 : ∀ W, (Instr.slice 31 (.slice a L cap) (some (.int .i64 (i : Nat))) (some (.int .i64 ((i : Int) + n))) none).run Try.prog W = .ok (.slice (subA a cap i) n (cap - i)) W := fun W => by
      have := run_slice_mid Try.underlying31 size_u8 W a L cap i (i + n) .i64 .i64 (by omega) (by omega)
      rwa [show ((i + n : Nat) : Int) = (i : Int) + n from by omega, Nat.add_sub_cancel_left] at this
    have XL : Hid (x.length = n) := by rw [← hx, hq]; simp [Hid]; omega
    have BT : Hid (BytesAt (fun c _ => c < W0.heap.size) W0 (.slice (subA a cap i) n (cap - i)) x) := by
      have := (H1.out.bytes.drop i H1.out.le).take n (by simp; omega)
      rw [← hx, hq]
      exact this
    have HLE : Hid (i + n ≤ full.length) := by rw [hL] at hle2; exact hle2
    have HR2 := Lib.hid hr2
    clear hrr HR hno hrest hx hq hL hr2
    go_wp2_with fail
    go_quiet (fail)
    go_wp2_with fail
    obtain ⟨W1, hW1⟩ : ∃ W1, (w1.drewN nq).setCell ⟨br, 1, none⟩ (.int .i64 ((i : Int) + n)) = W1 := ⟨_, rfl⟩
    have g1 := (H1.out.go nq n HLE.out)
    rw [hW1] at g1
    rw [hW1]
    have d0 := cell_mk (i := 0) g1.1.top rfl
    have d1 : W1.cell? ⟨br, 1, none⟩ = some (.int .i64 ((i : Int) + n)) := by rw [cell_mk (i := 1) g1.1.top rfl]; rfl
    rw [HLL.out] at d0
    have R1 : Hid (RR W0 W1 br r false ∧ Fr (fun c _ => c ≠ br) w W1) := by
      rw [← HR2.out]; exact ⟨⟨_, _, _, _, g1.1⟩, F1.out.trans g1.2⟩
    have hw2 : IntKind.i64.wrap ((i : Int) + n - n) = (i : Int) := by rw [IntWalk.i64_in _ (by omega)]; omega
    clear g1 hW1 c0 c1 c2 g2
    generalize subA a cap i = sa at *
    go_quiet (fail)
    go_wp2
    go_ret
    refine ⟨⟨sa, cap - i, ?_, ?_⟩, R1.out.1.tt ((Fr.refl _ _).drewN _), R1.out.2.trans ((Fr.refl _ _).drewN _)⟩
    · rw [XL.out]; rfl
    · rw [XL.out]; exact BT.out

set_option maxRecDepth 100000 in
theorem rr_end (W0 w : World) (br : Nat) (bs : List UInt8) (sh : Bool) (h : RR W0 w br bs sh) :
    Calls Try.prog 31 #[.pointer (some ⟨br, 0, none⟩)] w fun e w' => e = .returned (.int .i64 (endL bs sh)) ∧ ∃ k, w' = w.drewN k := by
  obtain ⟨a, cap, full, i, h⟩ := h
  have c0 := cell_mk (i := 0) h.top rfl
  have c1 := cell_mk (i := 1) h.top rfl
  have c2 := cell_mk (i := 2) h.top rfl
  have hle := h.le
  have hbig := h.big
  have hrest := h.rest
  clear h
  cases sh with
  | true =>
    have HE : Hid (endL bs true = 10) := rfl
    clear hrest
    generalize full.length = L at *
    go_enter Try.func31, Try.ntmps31
    go_wp2
    go_ret
    exact ⟨by rw [HE.out]; rfl, 0, rfl⟩
  | false =>
    have hl : bs.length = full.length - i := by rw [hrest]; simp
    by_cases hlt : i < full.length
    · have HE : Hid (endL bs false = 11) := by unfold endL; rw [if_neg (by decide), if_pos (by omega)]; rfl
      have hlt2 : (i : Int) < full.length := by omega
      clear hrest hl
      generalize full.length = L at *
      go_enter Try.func31, Try.ntmps31
      go_wp2
      go_quiet (fail)
      go_wp2
      go_ret
      exact ⟨by rw [HE.out]; rfl, _, rfl⟩
    · have HE : Hid (endL bs false = 0) := by unfold endL; rw [if_neg (by decide), if_neg (by omega)]; rfl
      have hlt2 : (full.length : Int) ≤ i := by omega
      clear hrest hl
      generalize full.length = L at *
      go_enter Try.func31, Try.ntmps31
      go_wp2
      go_quiet (fail)
      go_wp2
      go_ret
      exact ⟨by rw [HE.out]; rfl, _, rfl⟩
end Go.Proofs.Ytkaikckehkcfhaa
/- Writers beside what is to be kept. -/
namespace Go.Proofs.Ytkaikckehkcfhaa
open Go.RowKit
set_option linter.unusedVariables false
set_option linter.unusedSimpArgs false

/-- A writer none of whose blocks is among Pr. -/
structure LWP (Pr : Nat → Prop) (w : World) (bw : Nat) (bs : List UInt8) : Prop where
  new : ¬ Pr bw
  at' : ∃ v, WrAt w bw v bs ∧ ∀ k, v.ownBlock = some k → ¬ Pr k
theorem LWP.mk0 {Pr : Nat → Prop} (w : World) (h : ∀ c, Pr c → c < w.heap.size) : LWP Pr (w.alloc (.cells #[.slice none 0 0] 71 (0, 0))) w.heap.size [] :=
  ⟨fun hc => by have := h _ hc; omega, ⟨.slice none 0 0, ⟨heap_alloc_new _ _, ⟨rfl, .inl ⟨rfl, rfl⟩⟩⟩, fun k e => by cases e⟩⟩
theorem LWP.tt {Pr : Nat → Prop} {w w' : World} {bw : Nat} {bs : List UInt8} (h : LWP Pr w bw bs) (hf : Fr (fun _ _ => True) w w') : LWP Pr w' bw bs := by
  obtain ⟨v, hv, hk⟩ := h.at'
  exact ⟨h.new, ⟨v, ⟨hf.keep _ _ hv.top trivial, ownsRow_fr hv.own hf fun _ _ _ _ => trivial⟩, hk⟩⟩
/-- More is to be kept: what is newer than the writer's blocks. -/
theorem LWP.more {Pr Pr' : Nat → Prop} {w : World} {bw : Nat} {bs : List UInt8} (h : LWP Pr w bw bs) (hp : ∀ c, Pr' c → Pr c ∨ w.heap.size ≤ c) : LWP Pr' w bw bs := by
  obtain ⟨v, hv, hk⟩ := h.at'
  refine ⟨fun hc => ?_, v, hv, fun k e hc => ?_⟩
  · rcases hp _ hc with h1 | h1
    · exact h.new h1
    · have := lt_of_some hv.top; omega
  · rcases hp _ hc with h1 | h1
    · exact hk k e h1
    · rcases hv.own.2 with ⟨rfl, _⟩ | ⟨g, cap, cur, rfl, _, hh, _⟩
      · cases e
      · have := lt_of_some hh
        have e2 : g = k := by simpa [Value.ownBlock] using e
        omega
theorem lwp_number {Pr : Nat → Prop} (w : World) (bw : Nat) (bs : List UInt8) (n size : Nat) (nz sz : Int) (hnz : nz = n) (hsz : sz = size) (h : LWP Pr w bw bs) (hP : ∀ c, Pr c → c < w.heap.size) (h1 : 1 ≤ size) (h8 : size ≤ 8) (hn : n < 18446744073709551616) (hb : bs.length ≤ 1000000) :
    Calls Try.prog 32 #[.pointer (some ⟨bw, 0, none⟩), .int .u64 nz, .int .i64 sz] w fun e w' => e = .returned (.tuple #[]) ∧ LWP Pr w' bw (bs ++ le n size) ∧ Fr (fun c _ => Pr c) w w' := by
  subst hnz hsz
  obtain ⟨v, hv, hk⟩ := h.at'
  refine (wnum_main w bw v bs n size hv h1 h8 hn hb).mono fun _ _ ⟨he, v', h1, h2, h3⟩ => ⟨he, ⟨h.new, ⟨v', h1, fun k e hc => ?_⟩⟩, h2.mono fun c _ hc => ⟨fun e => h.new (e ▸ hc), fun e => hk c e hc⟩⟩
  rcases h3 with h3 | h3
  · exact hk k (h3 ▸ e) hc
  · have := h3 k e; have := hP k hc; omega
theorem LWP.parts {Pr : Nat → Prop} {w : World} {bw : Nat} {bs : List UInt8} (h : LWP Pr w bw bs) : ∃ v, w.cell? ⟨bw, 0, none⟩ = some v ∧ w.frozen? ⟨bw, 0, none⟩ = false ∧ RowB w 0 v bs.length bs ∧ (∀ k, v.ownBlock = some k → ¬ Pr k) := by
  obtain ⟨v, hv, hk⟩ := h.at'
  exact ⟨v, cell_mk hv.top rfl, frozen_mk hv.top, hv.own, hk⟩
theorem LWP.store {Pr : Nat → Prop} {w w' : World} {bw : Nat} {bs r : List UInt8} {v v' : Value} (h : LWP Pr w bw bs) (hP : ∀ c, Pr c → c < w.heap.size) (hc : w.cell? ⟨bw, 0, none⟩ = some v) (hr : RowB w' 0 v' r.length r) (hg : w.grownBy w' v.ownBlock) (hx : OwnNext w v v') :
    w'.cell? ⟨bw, 0, none⟩ = some v ∧ w'.frozen? ⟨bw, 0, none⟩ = false ∧ LWP Pr (w'.setCell ⟨bw, 0, none⟩ v') bw r ∧ Fr (fun c _ => Pr c) w (w'.setCell ⟨bw, 0, none⟩ v') := by
  obtain ⟨u, hv, hk⟩ := h.at'
  obtain rfl : u = v := by
    have := cell_mk (i := 0) hv.top rfl
    rw [hc] at this
    exact (Option.some.inj this).symm
  have ht := grown_block hg hv.top hv.ne
  have hne : v'.ownBlock ≠ some bw := by
    rcases hr.2 with ⟨e, _⟩ | ⟨g, cap, cur, e, _, hh, _⟩
    · subst e; simp [Value.ownBlock]
    · subst e
      intro e
      simp only [Value.ownBlock, Option.some.injEq] at e
      rw [e, ht] at hh
      cases hh
  have hF : Fr (fun c _ => Pr c) w w' := Fr.of_grown hg fun k o e _ hp => hk k e hp
  refine ⟨cell_mk ht rfl, frozen_mk ht, ⟨h.new, ⟨v', ⟨heap_setCell_same ht _, ownsRow_setCell_ne hr hne _⟩, fun k e hc => ?_⟩⟩, hF.setCell (fun o _ hp => h.new hp) _⟩
  rcases hx with hx | ⟨m, hx, hm⟩
  · exact hk k (by rw [← hx]; exact e) hc
  · rw [hx] at e; cases e; have := hP _ hc; omega
/-- An append of bytes: where the row lies behind it, too. -/
theorem wpList_append_hid2 {K0 : Nat → Obj → Prop} {ops : Array Oper} {rest : List Oper} {o : Oper} {a : Act} {Q : Exit → Act → World → Prop} (W : World) (hgd : o.guard = none) (s x : Operand)
    (ho : o.op = .call { callee := .builtin .append, args := #[s, x], argTypes := #[31, 31] }) (B : Nat) (hB : B ≤ W.heap.size) (v : Value) (n : Nat) (xs : List UInt8) (hs : a.eval s = v) (hown : Hid (RowB W B v n xs))
    (vx : Value) (bs : List UInt8) (hx : a.eval x = vx) (hb : Hid (BytesAt K0 W vx bs)) (N : Nat) (r : List UInt8) (hr : Hid (xs ++ bs = r)) (hN : Hid (n + bs.length = N)) (hn : N ≤ 2000000)
    (h : ∀ a' c' w', Hid (RowB w' B (.slice a' N c') N r) → Hid (W.grownBy w' v.ownBlock) → Hid (OwnNext W v (.slice a' N c')) → wpList Try.prog ops Q rest (a.put o.dst (.slice a' N c')) w') :
    wpList Try.prog ops Q (o :: rest) a W := by
  obtain ⟨i0, hi, hz0, hz1, hz2⟩ := info_parts info_u8
  have hr := hr.out
  have hN := hN.out
  subst hr hN
  refine wpList_append_src2 W hgd s x 31 ho B 5 i0 (.int .u8 0) 1 1 Try.underlying31 hi hz0 hz1 hz2 rfl (by decide) v n (xs.map byteV) hs hown.out vx bs.length (bs.map byteV) hx hb.out.src (by unfold maxLen; omega) (by omega) hB ?_
  intro v' w' h1 h2 h3
  rw [← List.map_append] at h1
  have hv' : ∃ a' c', v' = .slice a' (n + bs.length) c' := by
    rcases h1.2 with ⟨rfl, e⟩ | ⟨g, cap, _, rfl, _⟩
    · exact ⟨none, 0, by rw [e]⟩
    · exact ⟨_, _, rfl⟩
  obtain ⟨a', c', rfl⟩ := hv'
  exact h a' c' w' h1 h2 h3

set_option maxRecDepth 100000 in
set_option maxHeartbeats 1000000 in
theorem lwp_bytes1 {Pr : Nat → Prop} (w : World) (bw : Nat) (bs : List UInt8) (a : Option Addr) (L m cap : Nat) (mz : Int) (t : List UInt8) (h : LWP Pr w bw bs) (hP : ∀ c, Pr c → c < w.heap.size) (hb : BytesAt (fun c _ => Pr c) w (.slice a m cap) t) (hm : bs.length ≤ 900000) (hL : L ≤ 140737488355328) (hmz : mz = m)
    (h1000 : m ≤ 1000) (hd : ((L : Int) ≤ 1000 ∧ mz = L) ∨ ((1000 : Int) < L ∧ mz = 1000)) (hcap : m ≤ cap) (r : List UInt8) (hr : r = bs ++ (le m 2 ++ t)) :
    Calls Try.prog 33 #[.pointer (some ⟨bw, 0, none⟩), .slice a L cap] w fun e w' => e = .returned (.tuple #[]) ∧ LWP Pr w' bw r ∧ Fr (fun c _ => Pr c) w w' := by
  have HRI := Lib.hid hr
  clear hr
  have hml : m = t.length := hb.len
  have s1 := fun W => run_slice_to Try.underlying31 size_u8 W a L cap m .i64 hcap
  have K1 := Lib.hid (lwp_number w bw bs m 2 m 2 rfl rfl h hP (by omega) (by omega) (by omega) (by omega))
  rw [← hmz] at s1
  have HB := Lib.hid hb
  have HP := Lib.hid hP
  have HM := Lib.hid hml
  have hmc : (m : Int) ≤ 1000 := by omega
  have hm0 : (0 : Int) ≤ m := by omega
  have HMZ := Lib.hid hmz
  clear h hb hml hmz hP
  rcases hd with ⟨h1, rfl⟩ | ⟨h1, rfl⟩ <;>
  · go_enter Try.func33, Try.ntmps33
    go_wp2_with fail
    with_reducible refine K1.out.mono ?_
    rintro e1 w1 ⟨rfl, h1, f1⟩
    have H1 := Lib.hid h1
    have F1 := Lib.hid f1
    have HB1 := Lib.hid (HB.out.fr f1)
    have HP1 : Hid (∀ c, Pr c → c < w1.heap.size) := fun c hc => Nat.lt_of_lt_of_le (HP.out c hc) f1.size
    clear h1 f1 K1 HB s1
    obtain ⟨u, c1, g1, hr, _⟩ := H1.out.parts
    have HR := Lib.hid hr
    clear hr
    have hr := HRI.out
    have E1 : Hid ((bs ++ le m 2) ++ t = r) := by rw [hr]; simp [Hid]
    have E2 : Hid ((bs ++ le m 2).length + t.length = r.length) := by rw [hr]; simp [Hid]; omega
    have E3 : r.length ≤ 2000000 := by have := HM.out; rw [hr]; simp [le_length]; omega
    clear hr HRI
    generalize bs ++ le m 2 = x at *
    generalize x.length = X at *
    obtain ⟨R, hR⟩ : ∃ R, R = r.length := ⟨_, rfl⟩
    have HRR := Lib.hid hR
    rw [← hR] at E2 E3
    clear hR
    go_wp2_with (at_builtin; refine wpList_append_hid2 _ rfl _ _ rfl 0 (Nat.zero_le _) _ _ x rfl HR _ t rfl HB1 R r E1 E2 E3 ?_)
    intro a1 c2 w2 O1 G1 N1
    obtain ⟨c3, f3, h3, f4⟩ := H1.out.store (r := r) (v' := .slice a1 R c2) HP1.out c1 (by have := O1.out; rwa [HRR.out] at this ⊢) G1.out N1.out
    have H3 := Lib.hid h3
    have F4 := Lib.hid (F1.out.trans f4)
    clear h3 O1 G1 H1 HR HB1 c1 g1 f4 N1
    go_wp2
    go_end0
    exact ⟨rfl, H3.out, F4.out⟩
theorem lwp_bytes {Pr : Nat → Prop} (w : World) (bw : Nat) (bs : List UInt8) (v : Value) (b : List UInt8) (h : LWP Pr w bw bs) (hP : ∀ c, Pr c → c < w.heap.size) (hb : BytesAt (fun c _ => Pr c) w v b) (hm : bs.length ≤ 900000) (hbm : b.length ≤ 140737488355328) :
    Calls Try.prog 33 #[.pointer (some ⟨bw, 0, none⟩), v] w fun e w' => e = .returned (.tuple #[]) ∧ LWP Pr w' bw (bs ++ byt b) ∧ Fr (fun c _ => Pr c) w w' := by
  obtain ⟨a, cap, rfl⟩ := hb.form
  have hcap := hb.cap
  have e : b.take (b.take 1000).length = b.take 1000 := by rw [List.length_take, take_min]
  have hbt := hb.take (b.take 1000).length (by simp; omega)
  rw [e] at hbt
  exact lwp_bytes1 w bw bs a b.length (b.take 1000).length cap (b.take 1000).length (b.take 1000) h hP hbt hm hbm rfl (by simp; omega) (by simp; omega) (by simp; omega) _ rfl
set_option maxRecDepth 100000 in
theorem lwp_out {Pr : Nat → Prop} (w : World) (bw : Nat) (bs : List UInt8) (h : LWP Pr w bw bs) (hb : bs.length ≤ 1000000) :
    Calls Try.prog 34 #[.pointer (some ⟨bw, 0, none⟩)] w fun e w' => (∃ a cap, e = .returned (.slice a bs.length cap) ∧ BytesAt (New w.heap.size) w' (.slice a bs.length cap) bs) ∧ Fr (fun _ _ => True) w w' := by
  obtain ⟨v, hv, hk⟩ := h.at'
  have hc : w.cell? ⟨bw, 0, none⟩ = some v := cell_mk hv.top rfl
  have HC := Lib.hid (clone_calls w v bs (BytesAt.of_owns hv.own) (by omega))
  clear h hv hk
  go_enter Try.func34, Try.ntmps34
  go_wp2_with fail
  (with_reducible refine HC.out.mono ?_)
  rintro e w1 ⟨a, cap, rfl, hb1, hf1⟩
  have HB := Lib.hid hb1
  have HF := Lib.hid hf1
  clear hb1 hf1
  go_wp2
  go_ret
  exact ⟨⟨_, _, rfl, HB.out⟩, HF.out⟩
end Go.Proofs.Ytkaikckehkcfhaa
