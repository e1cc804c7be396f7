/- Texts of the proofs, part 9: what the functions that they reach do, walked; no conditions beyond those that each states. -/
import Derived.StillTailTactics
import Derived.Test.YtcpbmempfeloaaaDoorZz715eebe5ea
set_option linter.unusedVariables false
set_option linter.unusedSimpArgs false
/- Writers and readers of the function's own. -/
namespace Go.Proofs.YtcpbmempfeloaaaDoor
open Go.RowKit
set_option linter.unusedVariables false
set_option linter.unusedSimpArgs false

/-- A writer that is new since W0: nothing that was there in W0 is touched. -/
structure LW (W0 w : World) (bw : Nat) (bs : List UInt8) : Prop where
  new : W0.heap.size ≤ bw
  at' : ∃ v, WrAt w bw v bs ∧ ∀ k, v.ownBlock = some k → W0.heap.size ≤ k
  fr : Fr (fun _ _ => True) W0 w
theorem LW.mk0 {W0 w : World} (h : Fr (fun _ _ => True) W0 w) : LW W0 (w.alloc (.cells #[.slice none 0 0] 150 (0, 0))) w.heap.size [] :=
  ⟨h.size, ⟨.slice none 0 0, ⟨heap_alloc_new _ _, ⟨rfl, .inl ⟨rfl, rfl⟩⟩⟩, fun k e => by cases e⟩, h.alloc _⟩
theorem LW.tt {W0 w w' : World} {bw : Nat} {bs : List UInt8} (h : LW W0 w bw bs) (hf : Fr (fun _ _ => True) w w') : LW W0 w' bw bs := by
  obtain ⟨v, hv, hk⟩ := h.at'
  exact ⟨h.new, ⟨v, ⟨hf.keep _ _ hv.top trivial, ownsRow_fr hv.own hf fun _ _ _ _ => trivial⟩, hk⟩, h.fr.trans hf⟩
theorem old_tt {K : Nat → Obj → Prop} {a w w' : World} (h : Fr (fun _ _ => True) a w) (hf : Fr K w w') (hk : ∀ b o, b < a.heap.size → K b o) : Fr (fun _ _ => True) a w' :=
  ⟨hf.os.trans h.os, hf.tape.trans h.tape, hf.output.trans h.output, Nat.le_trans h.size hf.size, fun b o hb _ => hf.keep b o (h.keep b o hb trivial) (hk b o (lt_of_some hb))⟩
theorem lw_number (W0 w : World) (bw : Nat) (bs : List UInt8) (n size : Nat) (nz sz : Int) (hnz : nz = n) (hsz : sz = size) (h : LW W0 w bw bs) (h1 : 1 ≤ size) (h8 : size ≤ 8) (hn : n < 18446744073709551616) (hb : bs.length ≤ 1000000) :
    Calls Tryd.prog 92 #[.pointer (some ⟨bw, 0, none⟩), .int .u64 nz, .int .i64 sz] w fun e w' => e = .returned (.tuple #[]) ∧ LW W0 w' bw (bs ++ le n size) := by
  subst hnz hsz
  obtain ⟨v, hv, hk⟩ := h.at'
  refine (wnum_main w bw v bs n size hv h1 h8 hn hb).mono fun _ _ ⟨he, v', h1, h2, h3⟩ => ⟨he, h.new, ⟨v', h1, fun k e => ?_⟩, old_tt h.fr h2 fun b o hb => ⟨?_, fun e => ?_⟩⟩
  · rcases h3 with h3 | h3
    · exact hk k (h3 ▸ e)
    · have := h3 k e; have := h.fr.size; omega
  · have := h.new; omega
  · have := hk b e; omega
set_option maxRecDepth 100000 in
theorem lw_out (W0 w : World) (bw : Nat) (bs : List UInt8) (h : LW W0 w bw bs) (hb : bs.length ≤ 1000000) :
    Calls Tryd.prog 94 #[.pointer (some ⟨bw, 0, none⟩)] w fun e w' => (∃ a cap, e = .returned (.slice a bs.length cap) ∧ BytesAt (New w.heap.size) w' (.slice a bs.length cap) bs) ∧ Fr (fun _ _ => True) W0 w' := by
  obtain ⟨v, hv, hk⟩ := h.at'
  have hc : w.cell? ⟨bw, 0, none⟩ = some v := cell_mk hv.top rfl
  have hcl := clone_calls w v bs (BytesAt.of_owns hv.own) (by omega)
  have HC := Lib.hid hcl
  have HF0 := Lib.hid h.fr
  clear hcl h hv hk
  go_enter Tryd.func94, Tryd.ntmps94
  go_wp2_with fail
  (with_reducible refine HC.out.mono ?_)
  rintro e w1 ⟨a, cap, rfl, hb1, hf1⟩
  have HB := Lib.hid hb1
  have HF := Lib.hid hf1
  clear hb1 hf1
  go_wp2
  go_ret
  exact ⟨⟨_, _, rfl, HB.out⟩, HF0.out.trans HF.out⟩

/-- Bytes with their number ahead. -/
def byt (b : List UInt8) : List UInt8 := le (b.take 1000).length 2 ++ b.take 1000
theorem byt_length (b : List UInt8) : (byt b).length ≤ 1002 := by unfold byt; simp [le_length]; omega

theorem take_min {α : Type} (n : Nat) (b : List α) : b.take (min n b.length) = b.take n := by
  by_cases q : b.length ≤ n
  · rw [Nat.min_eq_right q, List.take_length, List.take_of_length_le q]
  · rw [Nat.min_eq_left (by omega)]
theorem own_basew {w : World} {B B' : Nat} {e : TypeId} {s : Nat} {v : Value} {n : Nat} {xs : List Value} (h : w.ownsRow B e s v n xs) (hk : ∀ k, v.ownBlock = some k → B' ≤ k) : w.ownsRow B' e s v n xs := by
  obtain ⟨h1, h2⟩ := h
  refine ⟨h1, ?_⟩
  rcases h2 with h2 | ⟨g, cap, cur, hv, hg, r⟩
  · exact .inl h2
  · exact .inr ⟨g, cap, cur, hv, hk g (by rw [hv]; rfl), r⟩
theorem LW.parts {W0 w : World} {bw : Nat} {bs : List UInt8} (h : LW W0 w bw bs) : ∃ v, w.cell? ⟨bw, 0, none⟩ = some v ∧ w.frozen? ⟨bw, 0, none⟩ = false ∧ RowB w W0.heap.size v bs.length bs ∧ v.ownBlock ≠ some bw := by
  obtain ⟨v, hv, hk⟩ := h.at'
  exact ⟨v, cell_mk hv.top rfl, frozen_mk hv.top, own_basew hv.own hk, hv.ne⟩
/-- The writer behind an append and a store. -/
theorem LW.store {W0 w w' : World} {bw : Nat} {bs r : List UInt8} {v v' : Value} (h : LW W0 w bw bs) (hc : w.cell? ⟨bw, 0, none⟩ = some v) (hr : RowB w' W0.heap.size v' r.length r) (hg : w.grownBy w' v.ownBlock) :
    w'.cell? ⟨bw, 0, none⟩ = some v ∧ w'.frozen? ⟨bw, 0, none⟩ = false ∧ LW W0 (w'.setCell ⟨bw, 0, none⟩ v') bw r := by
  obtain ⟨u, hv, hk⟩ := h.at'
  obtain rfl : u = v := by
    have := cell_mk (i := 0) hv.top rfl
    rw [hc] at this
    exact (Option.some.inj this).symm
  have ht := grown_block hg hv.top hv.ne
  have hne : v'.ownBlock ≠ some bw := by
    rcases hr.2 with ⟨e, _⟩ | ⟨g, cap, cur, e, _, hh, _⟩
    · subst e; simp [Value.ownBlock]
    · subst e
      intro e
      simp only [Value.ownBlock, Option.some.injEq] at e
      rw [e, ht] at hh
      cases hh
  have hF : Fr (fun _ _ => True) W0 w' := h.fr.grown_new hg hk
  refine ⟨cell_mk ht rfl, frozen_mk ht, h.new, ⟨v', ⟨heap_setCell_same ht _, own_basew (ownsRow_setCell_ne hr hne _) fun _ _ => Nat.zero_le _⟩, own_new hr⟩, hF.setCell_new h.new _⟩

/-- An append of bytes to a row of the function's own; what comes of it is hidden. -/
theorem wpList_append_hid {K0 : Nat → Obj → Prop} {ops : Array Oper} {rest : List Oper} {o : Oper} {a : Act} {Q : Exit → Act → World → Prop} (W : World) (hgd : o.guard = none) (s x : Operand)
    (ho : o.op = .call { callee := .builtin .append, args := #[s, x], argTypes := #[33, 33] }) (B : Nat) (hB : B ≤ W.heap.size) (v : Value) (n : Nat) (xs : List UInt8) (hs : a.eval s = v) (hown : Hid (RowB W B v n xs))
    (vx : Value) (bs : List UInt8) (hx : a.eval x = vx) (hb : Hid (BytesAt K0 W vx bs)) (N : Nat) (r : List UInt8) (hr : Hid (xs ++ bs = r)) (hN : Hid (n + bs.length = N)) (hn : N ≤ 2000000)
    (h : ∀ a' c' w', Hid (RowB w' B (.slice a' N c') N r) → Hid (W.grownBy w' v.ownBlock) → wpList Tryd.prog ops Q rest (a.put o.dst (.slice a' N c')) w') :
    wpList Tryd.prog ops Q (o :: rest) a W :=
  wpList_append_bytes W hgd s x ho B hB v n xs hs hown.out vx bs hx hb.out N r hr.out hN.out hn h

set_option maxRecDepth 100000 in
set_option maxHeartbeats 1000000 in
theorem lw_bytes1 {K : Nat → Obj → Prop} (W0 w : World) (bw : Nat) (bs : List UInt8) (a : Option Addr) (L m cap : Nat) (mz : Int) (t : List UInt8) (h : LW W0 w bw bs) (hb : BytesAt K W0 (.slice a m cap) t) (hm : bs.length ≤ 900000) (hL : L ≤ 140737488355328) (hmz : mz = m)
    (h1000 : m ≤ 1000) (hd : ((L : Int) ≤ 1000 ∧ mz = L) ∨ ((1000 : Int) < L ∧ mz = 1000)) (hcap : m ≤ cap) (r : List UInt8) (hr : r = bs ++ (le m 2 ++ t)) :
    Calls Tryd.prog 126 #[.pointer (some ⟨bw, 0, none⟩), .slice a L cap] w fun e w' => e = .returned (.tuple #[]) ∧ LW W0 w' bw r := by
  have HRI := Lib.hid hr
  clear hr
  have hml : m = t.length := hb.len
  have s1 := fun W => run_slice_to Tryd.underlying33 size_u8 W a L cap m .i64 hcap
  have K1 := Lib.hid (lw_number W0 w bw bs m 2 m 2 rfl rfl h (by omega) (by omega) (by omega) (by omega))
  rw [← hmz] at s1
  have HB := Lib.hid hb
  have HM := Lib.hid hml
  have hmc : (m : Int) ≤ 1000 := by omega
  have hm0 : (0 : Int) ≤ m := by omega
  have HMZ := Lib.hid hmz
  clear h hb hml hmz
  rcases hd with ⟨h1, rfl⟩ | ⟨h1, rfl⟩ <;>
  · go_enter Tryd.func126, Tryd.ntmps126
    go_wp2_with fail
    with_reducible refine K1.out.mono ?_
    rintro e1 w1 ⟨rfl, h1⟩
    have H1 := Lib.hid h1
    have HB1 := Lib.hid (HB.out.tt h1.fr)
    clear h1 K1 HB s1
    obtain ⟨u, c1, f1, hr, hne⟩ := H1.out.parts
    have HR := Lib.hid hr
    clear hr hne
    have hr := HRI.out
    have E1 : Hid ((bs ++ le m 2) ++ t = r) := by rw [hr]; simp [Hid]
    have E2 : Hid ((bs ++ le m 2).length + t.length = r.length) := by rw [hr]; simp [Hid]; omega
    have E3 : r.length ≤ 2000000 := by have := HM.out; rw [hr]; simp [le_length]; omega
    clear hr HRI
    generalize bs ++ le m 2 = x at *
    generalize x.length = X at *
    obtain ⟨R, hR⟩ : ∃ R, R = r.length := ⟨_, rfl⟩
    have HRR := Lib.hid hR
    rw [← hR] at E2 E3
    clear hR
    go_wp2_with (at_builtin; refine wpList_append_hid _ rfl _ _ rfl W0.heap.size H1.out.fr.size _ _ x rfl HR _ t rfl HB1 R r E1 E2 E3 ?_)
    intro a1 c2 w2 O1 G1
    obtain ⟨c3, f3, h3⟩ := H1.out.store (r := r) (v' := .slice a1 R c2) c1 (by have := O1.out; rwa [HRR.out] at this ⊢) G1.out
    have H3 := Lib.hid h3
    clear h3 O1 G1 H1 HR HB1 c1 f1
    go_wp2
    go_end0
    exact ⟨rfl, H3.out⟩
theorem lw_bytes {K : Nat → Obj → Prop} (W0 w : World) (bw : Nat) (bs : List UInt8) (v : Value) (b : List UInt8) (h : LW W0 w bw bs) (hb : BytesAt K W0 v b) (hm : bs.length ≤ 900000) (hbm : b.length ≤ 140737488355328) :
    Calls Tryd.prog 126 #[.pointer (some ⟨bw, 0, none⟩), v] w fun e w' => e = .returned (.tuple #[]) ∧ LW W0 w' bw (bs ++ byt b) := by
  obtain ⟨a, cap, rfl⟩ := hb.form
  have hcap := hb.cap
  have e : b.take (b.take 1000).length = b.take 1000 := by rw [List.length_take, take_min]
  have hbt := hb.take (b.take 1000).length (by simp; omega)
  rw [e] at hbt
  exact lw_bytes1 W0 w bw bs a b.length (b.take 1000).length cap (b.take 1000).length (b.take 1000) h hbt hm hbm rfl (by simp; omega) (by simp; omega) (by simp; omega) _ rfl
end Go.Proofs.YtcpbmempfeloaaaDoor
/- Readers of the function's own: the program's and the document's. -/
namespace Go.Proofs.YtcpbmempfeloaaaDoor
open Go.RowKit
set_option linter.unusedVariables false
set_option linter.unusedSimpArgs false

/-- A reader that is new since W0, over bytes that were there in W0. -/
structure LR (W0 w : World) (br : Nat) (bs : List UInt8) (sh : Bool) : Prop where
  new : W0.heap.size ≤ br
  at' : ∃ v, RdrAt (fun c _ => c < W0.heap.size) w br v bs sh
  fr : Fr (fun _ _ => True) W0 w
theorem LR.mk0 {K : Nat → Obj → Prop} {W0 w : World} {v : Value} {bs : List UInt8} (h : Fr (fun _ _ => True) W0 w) (hb : BytesAt K W0 v bs) : LR W0 (w.alloc (.cells #[v, .bool false] 185 (0, 0))) w.heap.size bs false :=
  ⟨h.size, ⟨v, heap_alloc_new _ _, ((hb.mono (K' := fun c _ => c < W0.heap.size) fun _ _ hb _ => lt_of_some hb).tt h).tt ((Fr.refl _ _).alloc _), fun cs fz hk => by have := h.size; omega⟩, h.alloc _⟩
theorem LR.tt {W0 w w' : World} {br : Nat} {bs : List UInt8} {sh : Bool} (h : LR W0 w br bs sh) (hf : Fr (fun _ _ => True) w w') : LR W0 w' br bs sh := by
  obtain ⟨v, hv⟩ := h.at'
  exact ⟨h.new, ⟨v, hf.keep _ _ hv.top trivial, hv.bytes.tt hf, hv.off⟩, h.fr.trans hf⟩
theorem lr_number (W0 w : World) (br : Nat) (bs : List UInt8) (sh : Bool) (n : Nat) (sz : Int) (hsz : sz = n) (h : LR W0 w br bs sh) (h1 : 1 ≤ n) (h8 : n ≤ 8) (hm : bs.length ≤ 140737488355328) (x : Nat) (r : List UInt8) (s : Bool) (hr : numR bs sh n = (x, r, s)) :
    Calls Tryd.prog 100 #[.pointer (some ⟨br, 0, none⟩), .int .i64 sz] w fun e w' => e = .returned (.int .u64 (x : Nat)) ∧ LR W0 w' br r s ∧ Fr (fun c _ => c ≠ br) w w' := by
  subst hsz
  obtain ⟨v, hv⟩ := h.at'
  refine (rnum_calls w br v bs sh n hv h1 h8 hm).mono fun e w' ⟨he, hv', hf⟩ => ?_
  rw [hr] at he hv'
  exact ⟨he, ⟨h.new, hv', old_tt h.fr hf fun b o hb => by have := h.new; omega⟩, hf⟩
/-- What bytes read as bytes. -/
def bytR (bs : List UInt8) (sh : Bool) : List UInt8 × List UInt8 × Bool :=
  if (numR bs sh 2).2.2 = true ∨ 1000 < (numR bs sh 2).1 ∨ (numR bs sh 2).2.1.length < (numR bs sh 2).1 then ([], [], true) else ((numR bs sh 2).2.1.take (numR bs sh 2).1, (numR bs sh 2).2.1.drop (numR bs sh 2).1, false)
theorem numR_shut {bs : List UInt8} {sh : Bool} {n : Nat} (h : (numR bs sh n).2.2 = true) : (numR bs sh n).1 = 0 ∧ (numR bs sh n).2.1 = [] := by
  unfold numR at h ⊢
  split
  · exact ⟨rfl, rfl⟩
  next q => rw [if_neg q] at h; simp at h
theorem numR_len (bs : List UInt8) (sh : Bool) (n : Nat) : (numR bs sh n).2.1.length ≤ bs.length := by
  unfold numR; split <;> simp
theorem numR_lt (bs : List UInt8) (sh : Bool) (n : Nat) : (numR bs sh n).1 < 256 ^ n := by
  unfold numR
  split
  · exact Nat.pow_pos (by decide)
  next q =>
    have := ofLE_lt (bs.take n)
    rwa [List.length_take, Nat.min_eq_left (by omega)] at this
theorem bytR_len (bs : List UInt8) (sh : Bool) : (bytR bs sh).2.1.length ≤ bs.length ∧ (bytR bs sh).1.length ≤ 1000 := by
  have := numR_len bs sh 2
  unfold bytR
  split
  · simp
  next q => simp; omega

set_option maxRecDepth 100000 in
set_option maxHeartbeats 1000000 in
theorem lr_bytes (W0 w : World) (br : Nat) (bs : List UInt8) (sh : Bool) (h : LR W0 w br bs sh) (hm : bs.length ≤ 140737488355000) (x r : List UInt8) (s : Bool) (hr : bytR bs sh = (x, r, s)) :
    Calls Tryd.prog 117 #[.pointer (some ⟨br, 0, none⟩)] w fun e w' => (∃ a cap, e = .returned (.slice a x.length cap) ∧ BytesAt (New w.heap.size) w' (.slice a x.length cap) x) ∧ LR W0 w' br r s ∧ Fr (fun c _ => c ≠ br) w w' := by
  have K1 := Lib.hid (lr_number W0 w br bs sh 2 2 rfl h (by omega) (by omega) (by omega) (numR bs sh 2).1 (numR bs sh 2).2.1 (numR bs sh 2).2.2 rfl)
  have hl := numR_len bs sh 2
  have hlt := numR_lt bs sh 2
  have HS := Lib.hid (numR_shut (bs := bs) (sh := sh) (n := 2))
  unfold bytR at hr
  have HR := Lib.hid hr
  have HL := Lib.hid hm
  generalize (numR bs sh 2).1 = n at *
  generalize (numR bs sh 2).2.1 = q at *
  generalize (numR bs sh 2).2.2 = s1 at *
  have hn : n < 65536 := by simpa using hlt
  have hqb : q.length ≤ 140737488355000 := by omega
  clear h hr hm hl hlt
  go_enter Tryd.func117, Tryd.ntmps117
  go_wp2_with fail
  with_reducible refine K1.out.mono ?_
  rintro e1 w1 ⟨rfl, h1, f1⟩
  have H1 := Lib.hid h1
  have F1 := Lib.hid f1
  clear h1 f1 K1
  obtain ⟨v, hv⟩ := H1.out.at'
  obtain ⟨a, cap, rfl⟩ := hv.bytes.form
  have c0 := cell_mk (i := 0) hv.top rfl
  have HV := Lib.hid hv
  clear hv
  by_cases hno : s1 = true ∨ 1000 < n ∨ q.length < n
  · have hrr := HR.out
    rw [if_pos hno] at hrr
    obtain ⟨rfl, rfl, rfl⟩ : x = [] ∧ r = [] ∧ s = true := by simpa using hrr.symm
    clear hrr HR
    have HT : Hid (∀ k : Nat, s1 = true ∨ q.length < k → k ≤ 140737488355328 → Calls Tryd.prog 122 #[.pointer (some ⟨br, 0, none⟩), .int .i64 (k : Nat)] w1 fun e w' => e = .returned (.slice none 0 0) ∧ RdrAt (fun c _ => c < W0.heap.size) w' br (.slice none 0 0) [] true ∧ Fr (fun b _ => b ≠ br) w1 w') := fun k hk hk2 => take_no w1 br _ q s1 k HV.out hk hk2
    have HNO := Lib.hid hno
    clear hno
    have fin : Hid (∀ w2, RdrAt (fun c _ => c < W0.heap.size) w2 br (.slice none 0 0) [] true → Fr (fun b _ => b ≠ br) w1 w2 → LR W0 w2 br [] true ∧ Fr (fun c _ => c ≠ br) w w2) := fun w2 h2 f2 => ⟨⟨H1.out.new, ⟨_, h2⟩, old_tt H1.out.fr f2 fun b o hb => by have := H1.out.new; omega⟩, F1.out.trans f2⟩
    by_cases h1k : (1000 : Int) < n
    · have K2 := Lib.hid (HT.out (q.length + 1) (.inr (by omega)) (by omega))
      have e1 : ((q.length + 1 : Nat) : Int) = (q.length : Int) + 1 := by omega
      rw [e1] at K2
      clear HT e1
      go_wp2_with fail
      with_reducible refine K2.out.mono ?_
      rintro e1 w2 ⟨rfl, h2, f2⟩
      have H2 := Lib.hid (fin.out w2 h2 f2)
      clear h2 f2 fin HV H1 K2
      have K3 := Lib.hid (clone_nil w2)
      go_wp2_with fail
      with_reducible refine K3.out.mono ?_
      rintro e1 w3 ⟨rfl, rfl⟩
      go_wp2
      go_ret
      exact ⟨⟨none, 0, rfl, BytesAt.nil _ _⟩, H2.out⟩
    · have K2 := Lib.hid (HT.out n (by rcases HNO.out with q | q | q; exact .inl q; omega; exact .inr q) (by omega))
      clear HT
      go_wp2_with fail
      with_reducible refine K2.out.mono ?_
      rintro e1 w2 ⟨rfl, h2, f2⟩
      have H2 := Lib.hid (fin.out w2 h2 f2)
      clear h2 f2 fin HV H1 K2
      have K3 := Lib.hid (clone_nil w2)
      go_wp2_with fail
      with_reducible refine K3.out.mono ?_
      rintro e1 w3 ⟨rfl, rfl⟩
      go_wp2
      go_ret
      exact ⟨⟨none, 0, rfl, BytesAt.nil _ _⟩, H2.out⟩
  · have hrr := HR.out
    rw [if_neg hno] at hrr
    obtain ⟨hx, hr2, rfl⟩ : q.take n = x ∧ q.drop n = r ∧ s = false := by
      have := Prod.mk.inj hrr; have h2 := Prod.mk.inj this.2; exact ⟨this.1, h2.1, h2.2.symm⟩
    clear hrr HR
    have hs1 : s1 = false := by cases s1 <;> simp_all
    subst hs1
    have h1k : (n : Int) ≤ 1000 := by omega
    have hnq : n ≤ q.length := by omega
    have K2 := Lib.hid (take_ok w1 br _ q n HV.out hnq (by omega))
    have HXL : Hid ((q.take n).length = n) := by simp [Hid]; omega
    rw [hx] at K2 HXL
    rw [hr2] at K2
    clear hno hx hr2
    go_wp2_with fail
    with_reducible refine K2.out.mono ?_
    rintro e1 w2 ⟨out, v', rfl, hb, h2, f2⟩
    have H2 : Hid (LR W0 w2 br r false) := ⟨H1.out.new, ⟨_, h2⟩, old_tt H1.out.fr f2 fun b o hb => by have := H1.out.new; omega⟩
    have F2 := Lib.hid (F1.out.trans f2)
    have K3 := Lib.hid (clone_calls w2 out x hb (by have := HXL.out; omega))
    clear hb h2 f2 K2 HV H1 F1
    go_wp2_with fail
    with_reducible refine K3.out.mono ?_
    rintro e1 w3 ⟨a3, cap3, rfl, hb3, f3⟩
    have F3 := Lib.hid f3
    have B3 : Hid (BytesAt (New w.heap.size) w3 (.slice a3 x.length cap3) x) := hb3.mono fun b o _ hk => ⟨by have := hk.1; have := F2.out.size; omega, hk.2⟩
    have H3 := Lib.hid (H2.out.tt f3)
    clear f3 hb3 K3
    go_wp2
    go_ret
    exact ⟨⟨_, _, rfl, B3.out⟩, H3.out, F2.out.trans (F3.out.mono fun _ _ _ => trivial)⟩

/-- How a reader ended. -/
def endL (bs : List UInt8) (sh : Bool) : Int := if sh then 10 else if 0 < bs.length then 11 else 0
set_option maxRecDepth 100000 in
theorem lr_end (W0 w : World) (br : Nat) (bs : List UInt8) (sh : Bool) (h : LR W0 w br bs sh) (hm : bs.length ≤ 140737488355328) :
    Calls Tryd.prog 101 #[.pointer (some ⟨br, 0, none⟩)] w fun e w' => e = .returned (.int .i64 (endL bs sh)) ∧ w = w' := by
  obtain ⟨v, hv⟩ := h.at'
  obtain ⟨a, cap, rfl⟩ := hv.bytes.form
  have c0 := cell_mk (i := 0) hv.top rfl
  have c1 := cell_mk (i := 1) hv.top rfl
  clear h hv
  cases sh with
  | true =>
    go_enter Tryd.func101, Tryd.ntmps101
    go_wp2
    go_ret
    exact ⟨rfl, rfl⟩
  | false =>
    by_cases hl : 0 < bs.length
    · have HE : Hid (endL bs false = 11) := by unfold endL; rw [if_neg (by decide), if_pos hl]; rfl
      have hl' : (0 : Int) < bs.length := by omega
      go_enter Tryd.func101, Tryd.ntmps101
      go_wp2
      go_ret
      exact ⟨by rw [HE.out]; rfl, rfl⟩
    · have HE : Hid (endL bs false = 0) := by unfold endL; rw [if_neg (by decide), if_neg hl]; rfl
      have hl' : (bs.length : Int) ≤ 0 := by omega
      go_enter Tryd.func101, Tryd.ntmps101
      go_wp2
      go_ret
      exact ⟨by rw [HE.out]; rfl, rfl⟩
end Go.Proofs.YtcpbmempfeloaaaDoor
