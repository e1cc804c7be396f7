/- Slices of bytes: how they read; slices.Clone. -/
import Derived.Test.YtkaikckehkcfhaaLib
import Derived.Test.YtkaikckehkcfhaaProg
namespace Go.Proofs.Ytkaikckehkcfhaa
open Go.RowKit

/-- A byte in memory. -/
def byteV (b : UInt8) : Value := .int .u8 b.toNat
/-- A slice of bytes that reads as bs: nil, or a piece of a row of bytes. -/
def BytesAt (w : World) (v : Value) (bs : List UInt8) : Prop :=
  (v = .slice none 0 0 ∧ bs = []) ∨ ∃ b off cap cs fz, v = .slice (some ⟨b, off, none⟩) bs.length cap ∧ w.heap[b]? = some (.cells cs 5 fz) ∧ off + cap ≤ cs.size ∧ bs.length ≤ cap ∧ ∀ i, (h : i < bs.length) → cs[off + i]? = some (byteV bs[i])

theorem BytesAt.fr {K : Nat → Obj → Prop} {w w' : World} {v : Value} {bs : List UInt8} (h : BytesAt w v bs) (hf : Fr K w w') (hK : ∀ b cs fz, w.heap[b]? = some (.cells cs 5 fz) → K b (.cells cs 5 fz)) : BytesAt w' v bs := by
  rcases h with h | ⟨b, off, cap, cs, fz, hv, hb, h1, h2, h3⟩
  · exact .inl h
  · exact .inr ⟨b, off, cap, cs, fz, hv, hf.keep b _ hb (hK _ _ _ hb), h1, h2, h3⟩

theorem Fr.tt_of_grown {w w' : World} {row : Option Nat} (hg : w.grownBy w' row) (hr : ∀ k, row = some k → w.heap.size ≤ k) : Fr (fun _ _ => True) w w' :=
  Fr.of_grown hg fun k o e ho => by have := lt_of_some ho; have := hr k e; omega

theorem info_u8 : (Try.prog.info? 5).map (fun i => (i.zero, i.size, i.bytes)) = some (some (.int .u8 0), 1, 1) := by kernel_rfl

/-- An owned row of bytes reads as bytes. -/
theorem BytesAt.of_owns {w : World} {B : Nat} {v : Value} {bs : List UInt8} (h : w.ownsRow B 5 1 v bs.length (bs.map byteV)) : BytesAt w v bs := by
  obtain ⟨h1, h2⟩ := h
  rcases h2 with ⟨hv, hn⟩ | ⟨g, cap, cur, hv, hg, hh, hn, hc, hs, ht⟩
  · exact .inl ⟨hv, List.length_eq_zero_iff.1 hn⟩
  · refine .inr ⟨g, 0, cap, cur, (0, 0), hv, hh, by omega, hn, fun i hi => ?_⟩
    have e1 : cur.toList[i]? = (bs.map byteV)[i]? := by rw [← ht, List.getElem?_take, if_pos (by omega)]
    rw [Nat.zero_add, ← Array.getElem?_toList, e1]
    simp [hi]

theorem cell_of_row {w : World} {b off j : Nat} {cs : Array Value} {e : TypeId} {fz : Nat × Nat} {u : Value} (h : w.heap[b]? = some (.cells cs e fz)) (hc : cs[off + j]? = some u) : w.cell? (Addr.add ⟨b, off, none⟩ j) = some u := by
  unfold Addr.add
  split
  · subst j; simpa [World.cell?, h] using hc
  · simpa [World.cell?, h] using hc

set_option maxRecDepth 100000 in
theorem clone_nil (w : World) : Calls Try.prog 24 #[.slice none 0 0] w fun e w' => e = .returned (.slice none 0 0) ∧ w = w' := by
  have hq := fun (w : World) (a : Option Addr) (n c n' c' : Nat) => Lib.run_eql_slice_nil (P := Try.prog) w 31 5 a n c n' c' Try.underlying31
  go_enter Try.func24, Try.ntmps24
  go_wp2
  go_ret
  exact ⟨rfl, rfl⟩

set_option maxRecDepth 100000 in
theorem clone_some (w : World) (b off n cap : Nat) (cs : Array Value) (fz : Nat × Nat) (bs : List UInt8) (hn : bs.length = n) (hb : w.heap[b]? = some (.cells cs 5 fz)) (hc : ∀ i, (h : i < bs.length) → cs[off + i]? = some (byteV bs[i])) (hm : n ≤ 140737488355328) :
    Calls Try.prog 24 #[.slice (some ⟨b, off, none⟩) n cap] w fun e w' => ∃ v, e = .returned v ∧ w'.ownsRow w.heap.size 5 1 v n (bs.map byteV) ∧ Fr (fun _ _ => True) w w' := by
  have hq := fun (w : World) (a : Option Addr) (n c n' c' : Nat) => Lib.run_eql_slice_nil (P := Try.prog) w 31 5 a n c n' c' Try.underlying31
  obtain ⟨i0, hi, hz0, hz1, hz2⟩ := info_parts info_u8
  have hown : (w.alloc (.cells #[] 5)).ownsRow w.heap.size 5 1 (.slice (some ⟨w.heap.size, 0, none⟩) 0 0) 0 [] := World.ownsRow_lit w #[] 0 (Nat.le_refl _) (by simp) rfl
  have hsrc : SrcAt (w.alloc (.cells #[] 5)) 1 (.slice (some ⟨b, off, none⟩) n cap) n (bs.map byteV) := by
    refine .inr ⟨_, _, rfl, by simp [hn], fun j u hu => ?_, fun u hu => ?_⟩
    · have hj : j < bs.length := by
        rcases Nat.lt_or_ge j bs.length with h1 | h1
        · exact h1
        · rw [List.getElem?_eq_none (by simpa using h1)] at hu; cases hu
      have hu' : u = byteV bs[j] := by
        rw [List.getElem?_map, List.getElem?_eq_getElem hj] at hu
        exact (Option.some.inj hu).symm
      have e1 := hc j hj
      have e2 : (w.alloc (.cells #[] 5)).heap[b]? = some (.cells cs 5 fz) := by rw [Below.heap_alloc _ _ _ (lt_of_some hb)]; exact hb
      rw [hu']
      exact cell_of_row e2 e1
    · obtain ⟨x, _, rfl⟩ := List.mem_map.1 hu
      rfl
  go_enter Try.func24, Try.ntmps24
  go_wp2_with (at_builtin; refine wpList_append_src _ rfl _ _ 31 rfl w.heap.size 5 i0 (.int .u8 0) 1 1 Try.underlying31 hi hz0 hz1 hz2 rfl (by decide) _ 0 [] rfl hown _ n (bs.map byteV) rfl ?c1 ?c2 ?c3 ?c4 ?_)
  case c1 => 
    exact hsrc
  case c2 => unfold maxLen; omega
  case c3 => omega
  case c4 => simp
  intro v w1 hown1 hg hnil
  go_wp2
  go_ret
  exact ⟨v, rfl, by simpa using hown1, (Fr.alloc (Fr.refl _ _) _).grown_new hg fun k e => by simp [Value.ownBlock] at e; omega⟩
theorem BytesAt.form {w : World} {v : Value} {bs : List UInt8} (h : BytesAt w v bs) : ∃ a cap, v = .slice a bs.length cap := by
  rcases h with ⟨rfl, rfl⟩ | ⟨b, off, cap, cs, fz, rfl, _⟩
  · exact ⟨none, 0, rfl⟩
  · exact ⟨_, _, rfl⟩

/-- slices.Clone of bytes: the same bytes, in new memory. -/
theorem clone_calls (w : World) (v : Value) (bs : List UInt8) (h : BytesAt w v bs) (hm : bs.length ≤ 140737488355328) :
    Calls Try.prog 24 #[v] w fun e w' => ∃ a cap, e = .returned (.slice a bs.length cap) ∧ BytesAt w' (.slice a bs.length cap) bs ∧ Fr (fun _ _ => True) w w' := by
  rcases h with ⟨rfl, rfl⟩ | ⟨b, off, cap, cs, fz, rfl, hb, h1, h2, h3⟩
  · exact (clone_nil w).mono fun e w' ⟨he, hw⟩ => ⟨none, 0, he, .inl ⟨rfl, rfl⟩, hw ▸ Fr.refl _ _⟩
  · refine (clone_some w b off _ cap cs fz bs rfl hb h3 hm).mono fun e w' ⟨v, he, ho, hf⟩ => ?_
    have hv := BytesAt.of_owns ho
    obtain ⟨a, cap, rfl⟩ := hv.form
    exact ⟨a, cap, he, hv, hf⟩

end Go.Proofs.Ytkaikckehkcfhaa
