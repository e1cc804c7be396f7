/- Texts of the proofs, part 3: what the functions that they reach do, walked; no conditions beyond those that each states. -/
import Derived.Test.YtcpbmempfeloaaaDoorProg
import Derived.Test.YtcpbmempfeloaaaDoorZzb1597f557f
set_option linter.unusedVariables false
set_option linter.unusedSimpArgs false
/- Slices of bytes: how they read; slices.Clone. -/
namespace Go.Proofs.YtcpbmempfeloaaaDoor
open Go.RowKit

/-- A byte in memory. -/
def byteV (b : UInt8) : Value := .int .u8 b.toNat
/-- A slice of bytes that reads as bs, in a block that K names. -/
def BytesAt (K : Nat → Obj → Prop) (w : World) (v : Value) (bs : List UInt8) : Prop :=
  ∃ a cap, v = .slice a bs.length cap ∧ bs.length ≤ cap ∧ (a = none → cap = 0) ∧ (bs = [] ∨ ∃ b off o, a = some ⟨b, off, none⟩ ∧ w.heap[b]? = some o ∧ K b o ∧ ∀ i, (h : i < bs.length) → w.cell? ⟨b, off + i, none⟩ = some (byteV bs[i]))

theorem BytesAt.nil (K : Nat → Obj → Prop) (w : World) : BytesAt K w (.slice none 0 0) [] := ⟨none, 0, rfl, Nat.le_refl _, fun _ => rfl, .inl rfl⟩
theorem BytesAt.fr {K : Nat → Obj → Prop} {w w' : World} {v : Value} {bs : List UInt8} (h : BytesAt K w v bs) (hf : Fr K w w') : BytesAt K w' v bs := by
  obtain ⟨a, cap, hv, hl, hn, h⟩ := h
  refine ⟨a, cap, hv, hl, hn, ?_⟩
  rcases h with h | ⟨b, off, o, ha, hb, hk, hc⟩
  · exact .inl h
  · refine .inr ⟨b, off, o, ha, hf.keep b o hb hk, hk, fun i hi => ?_⟩
    exact hf.cell (fun o' ho => by rw [hb] at ho; cases ho; exact hk) (hc i hi)
theorem BytesAt.mono {K K' : Nat → Obj → Prop} {w : World} {v : Value} {bs : List UInt8} (h : BytesAt K w v bs) (hK : ∀ b o, w.heap[b]? = some o → K b o → K' b o) : BytesAt K' w v bs := by
  obtain ⟨a, cap, hv, hl, hn, h⟩ := h
  refine ⟨a, cap, hv, hl, hn, ?_⟩
  rcases h with h | ⟨b, off, o, ha, hb, hk, hc⟩
  · exact .inl h
  · exact .inr ⟨b, off, o, ha, hb, hK b o hb hk, hc⟩
theorem BytesAt.form {K : Nat → Obj → Prop} {w : World} {v : Value} {bs : List UInt8} (h : BytesAt K w v bs) : ∃ a cap, v = .slice a bs.length cap := by
  obtain ⟨a, cap, hv, _⟩ := h
  exact ⟨a, cap, hv⟩
theorem BytesAt.tt {K : Nat → Obj → Prop} {w w' : World} {v : Value} {bs : List UInt8} (h : BytesAt K w v bs) (hf : Fr (fun _ _ => True) w w') : BytesAt K w' v bs := h.fr (hf.mono fun _ _ _ => trivial)
/-- The cell of a byte. -/
theorem BytesAt.cell {K : Nat → Obj → Prop} {w : World} {b off n cap : Nat} {bs : List UInt8} (h : BytesAt K w (.slice (some ⟨b, off, none⟩) n cap) bs) {i : Nat} (hi : i < bs.length) : w.cell? ⟨b, off + i, none⟩ = some (byteV bs[i]) := by
  obtain ⟨a, cap, hv, hl, hn, h⟩ := h
  rcases h with rfl | ⟨b', off', o, ha, hb, hk, hc⟩
  · simp at hi
  · subst ha; cases hv; exact hc i hi
theorem BytesAt.len {K : Nat → Obj → Prop} {w : World} {a : Option Addr} {n cap : Nat} {bs : List UInt8} (h : BytesAt K w (.slice a n cap) bs) : n = bs.length := by
  obtain ⟨a, cap, hv, _⟩ := h
  cases hv; rfl
theorem BytesAt.addr {K : Nat → Obj → Prop} {w : World} {a : Option Addr} {n cap : Nat} {bs : List UInt8} (h : BytesAt K w (.slice a n cap) bs) (h0 : 0 < bs.length) : ∃ b off, a = some ⟨b, off, none⟩ := by
  obtain ⟨a', cap, hv, hl, hn, h⟩ := h
  rcases h with rfl | ⟨b', off', o, ha, _⟩
  · simp at h0
  · cases hv; exact ⟨_, _, ha⟩

/-- Blocks of bytes that are new since n. -/
def New (n : Nat) (b : Nat) (o : Obj) : Prop := n ≤ b ∧ ∃ cs fz, o = .cells cs 5 fz

theorem info_u8 : (Tryd.prog.info? 5).map (fun i => (i.zero, i.size, i.bytes)) = some (some (.int .u8 0), 1, 1) := by kernel_rfl

/-- An owned row of bytes reads as bytes. -/
theorem BytesAt.of_owns {w : World} {B : Nat} {v : Value} {bs : List UInt8} (h : w.ownsRow B 5 1 v bs.length (bs.map byteV)) : BytesAt (New B) w v bs := by
  obtain ⟨h1, h2⟩ := h
  rcases h2 with ⟨hv, hn⟩ | ⟨g, cap, cur, hv, hg, hh, hn, hc, hs, ht⟩
  · have e := List.length_eq_zero_iff.1 hn
    subst e hv
    exact BytesAt.nil _ _
  · refine ⟨_, cap, hv, hn, (fun e => by cases e), .inr ⟨g, 0, _, rfl, hh, ⟨hg, _, _, rfl⟩, fun i hi => ?_⟩⟩
    have e1 : cur.toList[i]? = (bs.map byteV)[i]? := by rw [← ht, List.getElem?_take, if_pos (by omega)]
    have e2 : cur[i]? = some (byteV bs[i]) := by rw [← Array.getElem?_toList, e1]; simp [hi]
    simp [World.cell?, hh, e2]

theorem cell_of_row {w : World} {b off j : Nat} {cs : Array Value} {e : TypeId} {fz : Nat × Nat} {u : Value} (h : w.heap[b]? = some (.cells cs e fz)) (hc : cs[off + j]? = some u) : w.cell? (Addr.add ⟨b, off, none⟩ j) = some u := by
  unfold Addr.add
  split
  · subst j; simpa [World.cell?, h] using hc
  · simpa [World.cell?, h] using hc

set_option maxRecDepth 100000 in
theorem clone_nil (w : World) : Calls Tryd.prog 48 #[.slice none 0 0] w fun e w' => e = .returned (.slice none 0 0) ∧ w = w' := by
  have hq := fun (w : World) (a : Option Addr) (n c n' c' : Nat) => Lib.run_eql_slice_nil (P := Tryd.prog) w 33 5 a n c n' c' Tryd.underlying33
  go_enter Tryd.func48, Tryd.ntmps48
  go_wp2
  go_ret
  exact ⟨rfl, rfl⟩

theorem BytesAt.src {K : Nat → Obj → Prop} {w : World} {v : Value} {bs : List UInt8} (h : BytesAt K w v bs) : SrcAt w 1 v bs.length (bs.map byteV) := by
  obtain ⟨a, cap, rfl, hl, hn, h⟩ := h
  cases a with
  | none =>
    have := hn rfl
    have e : bs.length = 0 := by omega
    have e' := List.length_eq_zero_iff.1 e
    subst e' this
    exact .inl ⟨rfl, rfl, rfl⟩
  | some ad =>
    refine .inr ⟨ad, cap, rfl, by simp, fun j u hu => ?_, fun u hu => ?_⟩
    · have hj : j < bs.length := by
        rcases Nat.lt_or_ge j bs.length with h1 | h1
        · exact h1
        · rw [List.getElem?_eq_none (by simpa using h1)] at hu; cases hu
      have hu' : u = byteV bs[j] := by
        rw [List.getElem?_map, List.getElem?_eq_getElem hj] at hu
        exact (Option.some.inj hu).symm
      rcases h with rfl | ⟨b, off, o, ha, hb, hk, hc⟩
      · simp at hj
      · cases ha
        rw [hu']
        have e1 := hc j hj
        unfold Addr.add
        split
        · subst j; exact e1
        · exact e1
    · obtain ⟨x, _, rfl⟩ := List.mem_map.1 hu
      rfl

set_option maxRecDepth 100000 in
theorem clone_some {K : Nat → Obj → Prop} (w : World) (ad : Addr) (n cap : Nat) (bs : List UInt8) (h : BytesAt K w (.slice (some ad) n cap) bs) (hm : n ≤ 140737488355328) :
    Calls Tryd.prog 48 #[.slice (some ad) n cap] w fun e w' => ∃ v, e = .returned v ∧ w'.ownsRow w.heap.size 5 1 v n (bs.map byteV) ∧ Fr (fun _ _ => True) w w' := by
  have hq := fun (w : World) (a : Option Addr) (n c n' c' : Nat) => Lib.run_eql_slice_nil (P := Tryd.prog) w 33 5 a n c n' c' Tryd.underlying33
  obtain ⟨i0, hi, hz0, hz1, hz2⟩ := info_parts info_u8
  have hn := h.len
  have hown : (w.alloc (.cells #[] 5)).ownsRow w.heap.size 5 1 (.slice (some ⟨w.heap.size, 0, none⟩) 0 0) 0 [] := World.ownsRow_lit w #[] 0 (Nat.le_refl _) (by simp) rfl
  have hsrc : SrcAt (w.alloc (.cells #[] 5)) 1 (.slice (some ad) n cap) n (bs.map byteV) := by
    have := (h.tt ((Fr.refl _ _).alloc (.cells #[] 5))).src
    rwa [← hn] at this
  clear h hn
  go_enter Tryd.func48, Tryd.ntmps48
  go_wp2_with (at_builtin; refine wpList_append_src _ rfl _ _ 33 rfl w.heap.size 5 i0 (.int .u8 0) 1 1 Tryd.underlying33 hi hz0 hz1 hz2 rfl (by decide) _ 0 [] rfl hown _ n (bs.map byteV) rfl hsrc ?c2 ?c3 ?c4 ?_)
  case c2 => unfold maxLen; omega
  case c3 => omega
  case c4 => simp
  intro v w1 hown1 hg hnil
  go_wp2
  go_ret
  exact ⟨v, rfl, by simpa using hown1, (Fr.alloc (Fr.refl _ _) _).grown_new hg fun k e => by simp [Value.ownBlock] at e; omega⟩

/-- slices.Clone of bytes: the same bytes, in new memory. -/
theorem clone_calls {K : Nat → Obj → Prop} (w : World) (v : Value) (bs : List UInt8) (h : BytesAt K w v bs) (hm : bs.length ≤ 140737488355328) :
    Calls Tryd.prog 48 #[v] w fun e w' => ∃ a cap, e = .returned (.slice a bs.length cap) ∧ BytesAt (New w.heap.size) w' (.slice a bs.length cap) bs ∧ Fr (fun _ _ => True) w w' := by
  obtain ⟨a, cap, rfl, hl, hn, h'⟩ := id h
  cases a with
  | none =>
    have := hn rfl
    have e : bs.length = 0 := by omega
    have e' := List.length_eq_zero_iff.1 e
    subst e' this
    exact (clone_nil w).mono fun e w' ⟨he, hw⟩ => ⟨none, 0, he, BytesAt.nil _ _, hw ▸ Fr.refl _ _⟩
  | some ad =>
    refine (clone_some w ad _ cap bs h hm).mono fun e w' ⟨v, he, ho, hf⟩ => ?_
    have hv := BytesAt.of_owns ho
    obtain ⟨a, cap, rfl⟩ := hv.form
    exact ⟨a, cap, he, hv, hf⟩

end Go.Proofs.YtcpbmempfeloaaaDoor
/- Package check: the sum of bytes. -/
namespace Go.Proofs.YtcpbmempfeloaaaDoor
open Go.RowKit

def tbl : List Nat := [0, 498536548, 997073096, 651767980, 1994146192, 1802195444, 1303535960, 1342533948, 3988292384, 4027552580, 3604390888, 3412177804, 2607071920, 2262029012, 2685067896, 3183342108]
def tb (i : Nat) : Nat := tbl.getD i 0
/-- The table stands in block 0. -/
def TabOK (w : World) : Prop := ∀ i, i < 16 → w.cell? ⟨0, i, none⟩ = some (.int .u32 (tb i : Nat))

def nib (s : Nat) : Nat := (s / 16) ^^^ tb (s % 16)
def step8 (s : Nat) (c : UInt8) : Nat := nib (nib (s ^^^ c.toNat))
def crc (l : List UInt8) : Nat := l.foldl step8 4294967295
def sumOf (l : List UInt8) : Nat := 4294967295 - crc l

theorem xor_u32_lt {a b : Nat} (ha : a < 4294967296) (hb : b < 4294967296) : a ^^^ b < 4294967296 := Nat.xor_lt_two_pow (n := 32) ha hb
theorem tb_lt (i : Nat) (h : i < 16) : tb i < 4294967296 := by
  have : ∀ j, j < 16 → tb j < 4294967296 := by decide
  exact this i h
theorem nib_lt {s : Nat} (h : s < 4294967296) : nib s < 4294967296 := xor_u32_lt (by omega) (tb_lt _ (by omega))
theorem step8_lt {s : Nat} (h : s < 4294967296) (c : UInt8) : step8 s c < 4294967296 := nib_lt (nib_lt (xor_u32_lt h (by have := UInt8.toNat_lt c; omega)))
theorem crc_lt : ∀ l : List UInt8, crc l < 4294967296 := by
  intro l
  unfold crc
  have : ∀ (l : List UInt8) (s : Nat), s < 4294967296 → l.foldl step8 s < 4294967296 := by
    intro l
    induction l with
    | nil => intro s h; exact h
    | cons c r ih => intro s h; exact ih _ (step8_lt h c)
  exact this l _ (by decide)

theorem and15 (x : Nat) : x &&& 15 = x % 16 := Nat.and_two_pow_sub_one_eq_mod x 4
/-- One half byte, in the walk's spelling. -/
theorem nib_facts (w : World) (ht : TabOK w) (x : Nat) (hx : x < 4294967296) : ∃ i t y : Nat, bits .and .u32 (x : Int) 15 = (i : Int) ∧ (i : Int) < 16 ∧ w.cell? ⟨0, i, none⟩ = some (.int .u32 (t : Int)) ∧ bits .xor .u32 ((x : Int) / 16) (t : Int) = (y : Int) ∧ y < 4294967296 ∧ Hid (y = nib x) := by
  refine ⟨x % 16, tb (x % 16), nib x, ?_, by omega, ht _ (by omega), ?_, nib_lt hx, rfl⟩
  · have := u32_and_nat x 15 hx (by decide)
    rw [and15] at this
    exact this
  · have := u32_xor_nat (x / 16) (tb (x % 16)) (by omega) (tb_lt _ (by omega))
    exact this
theorem xor_facts (s : Nat) (c : UInt8) (hs : s < 4294967296) : ∃ x : Nat, bits .xor .u32 (s : Int) ((c.toNat : Int) % 4294967296) = (x : Int) ∧ x < 4294967296 ∧ Hid (x = s ^^^ c.toNat) := by
  have hc := UInt8.toNat_lt c
  refine ⟨s ^^^ c.toNat, ?_, xor_u32_lt hs (by omega), rfl⟩
  rw [show ((c.toNat : Int) % 4294967296) = ((c.toNat : Nat) : Int) from by omega]
  exact u32_xor_nat s c.toNat hs (by omega)

theorem xor_all (s : Nat) (hs : s < 4294967296) : 4294967295 ^^^ s = 4294967295 - s := by
  have h : (BitVec.allOnes 32 ^^^ BitVec.ofNat 32 s).toNat = (~~~(BitVec.ofNat 32 s)).toNat := by rw [BitVec.allOnes_xor]
  rw [BitVec.toNat_xor, BitVec.toNat_not, BitVec.toNat_allOnes, BitVec.toNat_ofNat, Nat.mod_eq_of_lt hs] at h
  exact h
theorem not_u32 (s : Nat) (hs : s < 4294967296) : bits .xor .u32 IntKind.u32.max (s : Int) = ((4294967295 - s : Nat) : Int) := by
  have := u32_xor_nat 4294967295 s (by decide) hs
  rw [xor_all s hs] at this
  exact this

set_option maxRecDepth 100000 in
set_option maxHeartbeats 1000000 in
theorem sum_calls {K : Nat → Obj → Prop} (w : World) (v : Value) (bs : List UInt8) (ht : TabOK w) (h : BytesAt K w v bs) (hm : bs.length ≤ 140737488355328) :
    Calls Tryd.prog 95 #[v] w fun e w' => e = .returned (.int .u32 (sumOf bs : Nat)) ∧ w = w' := by
  obtain ⟨a, cap, rfl⟩ := h.form
  have HB := Lib.hid h
  have HT := Lib.hid ht
  clear h ht
  generalize hn : bs.length = n at hm
  have HN := Lib.hid hn
  clear hn
  go_enter Tryd.func95, Tryd.ntmps95
  go_wp2
  go_loop [3, 8] (fun s i => ∃ k : Nat, k ≤ n ∧ i = .int .i64 k ∧ s = .int .u32 (crc (bs.take k) : Nat)) (fun _ i => n - (intOf i).toNat)
  case atStart => exact ⟨0, Nat.zero_le _, rfl, rfl⟩
  case round =>
    obtain ⟨k, hk, rfl, rfl⟩ := hrel
    have hlt0 := crc_lt (bs.take k)
    by_cases hlt : k < n
    · have hkl : k < bs.length := by have := HN.out; omega
      have hb' : BytesAt K w (.slice a n cap) bs := by have := HB.out; rwa [HN.out] at this
      obtain ⟨b, off, rfl⟩ := hb'.addr (by omega)
      have g := hb'.cell hkl
      unfold byteV at g
      clear hb'
      have hst : Hid (crc (bs.take (k + 1)) = step8 (crc (bs.take k)) bs[k]) := by
        rw [List.take_succ_eq_append_getElem hkl, crc, List.foldl_append]; rfl
      generalize crc (bs.take k) = s at hst hlt0
      generalize hc : bs[k] = c at g hst
      have HC := Lib.hid hc
      clear hc
      obtain ⟨x0, e0, l0, X0⟩ := xor_facts s c hlt0
      obtain ⟨i1, t1, x1, a1, b1, c1, d1, l1, X1⟩ := nib_facts w HT.out x0 l0
      obtain ⟨i2, t2, x2, a2, b2, c2, d2, l2, X2⟩ := nib_facts w HT.out x1 l1
      have hfin : Hid (x2 = step8 s c) := by unfold step8; rw [← X0.out, ← X1.out]; exact X2.out
      go_wp2
      go_round
      case rel => exact ⟨k + 1, by omega, by go_num, by rw [hst.out, ← hfin.out]⟩
      case measure => simp [intOf]; omega
    · have hk' : k = n := by omega
      have e2 : Hid (crc (bs.take k) = crc bs) := by rw [List.take_of_length_le (by have := HN.out; omega)]; rfl
      generalize crc (bs.take k) = s at e2 hlt0
      go_wp2
      go_ret
      refine ⟨?_, rfl⟩
      rw [sumOf, ← e2.out, ← not_u32 s hlt0]
      rfl
end Go.Proofs.YtcpbmempfeloaaaDoor
