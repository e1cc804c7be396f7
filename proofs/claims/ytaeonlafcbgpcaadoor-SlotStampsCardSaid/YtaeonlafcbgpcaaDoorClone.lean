/- slices.Clone of sectors and of pending writes. -/
import Derived.Test.YtaeonlafcbgpcaaDoorDiskSync
namespace Go.Proofs.YtaeonlafcbgpcaaDoor
open Go.RowKit

theorem src_of_own {w : World} {B : Nat} {e : TypeId} {size n : Nat} {g cap : Nat} {xs : List Value} (h : w.ownsRow B e size (.slice (some ⟨g, 0, none⟩) n cap) n xs) (h1 : ∀ u ∈ xs, u.oneCell' = true) : SrcAt w size (.slice (some ⟨g, 0, none⟩) n cap) n xs := by
  refine .inr ⟨⟨g, 0, none⟩, cap, rfl, h.1, fun j u hu => ?_, h1⟩
  have hj : j < xs.length := by
    rcases Nat.lt_or_ge j xs.length with q | q
    · exact q
    · rw [List.getElem?_eq_none q] at hu; cases hu
  have hc := h.cellAt j (by have := h.1; omega)
  rw [hu] at hc
  unfold Addr.add
  split
  · subst j; exact hc
  · simpa using hc

theorem SrcAt.tt {w w' : World} {size m : Nat} {x : Value} {xs : List Value} (h : SrcAt w size x m xs) (hf : Fr (fun _ _ => True) w w') : SrcAt w' size x m xs := by
  rcases h with h | ⟨ad, c, h1, h2, h3, h4⟩
  · exact .inl h
  · exact .inr ⟨ad, c, h1, h2, fun j u hu => hf.cell (fun _ _ => trivial) (h3 j u hu), h4⟩
theorem one_flatS (l : List (List UInt8)) : ∀ u ∈ flatS l, u.oneCell' = true := fun u hu => by
  obtain ⟨x, _, rfl⟩ := List.mem_map.1 hu; rfl
theorem one_flatW (l : List (Nat × List UInt8)) : ∀ u ∈ flatW l, u.oneCell' = true := fun u hu => by
  obtain ⟨x, hx, hu⟩ := List.mem_flatten.1 hu
  obtain ⟨y, _, rfl⟩ := List.mem_map.1 hx
  rcases List.mem_cons.1 hu with rfl | hu
  · rfl
  · obtain ⟨z, _, rfl⟩ := List.mem_map.1 hu; rfl
theorem zero_sec_size : (Value.agg (Array.replicate 64 (.int .u8 0))).cells.size = 64 := by simp [Value.cells]
theorem zero_wr_size : (Value.agg (wA 0 (List.replicate 64 0))).cells.size = 65 := by show (wA 0 (List.replicate 64 0)).size = 65; rw [wA_size]; simp

set_option maxRecDepth 100000 in
theorem clone_sec_some (w : World) (g n cap : Nat) (xs : List Value) (h : SrcAt w 64 (.slice (some ⟨g, 0, none⟩) n cap) n xs) (hm : n ≤ 1000000) :
    Calls Tryd.prog 52 #[.slice (some ⟨g, 0, none⟩) n cap] w fun e w' => (∃ v, e = .returned v ∧ w'.ownsRow w.heap.size 93 64 v n xs) ∧ Fr (fun _ _ => True) w w' := by
  have hq := fun (w : World) (a : Option Addr) (n c n' c' : Nat) => Lib.run_eql_slice_nil (P := Tryd.prog) w 88 93 a n c n' c' Tryd.underlying88
  obtain ⟨i0, hi, hz0, hz1, hz2⟩ := info_parts info_sector
  have hown : (w.alloc (.cells #[] 93)).ownsRow w.heap.size 93 64 (.slice (some ⟨w.heap.size, 0, none⟩) 0 0) 0 [] := World.ownsRow_lit w #[] 0 (Nat.le_refl _) (by simp) rfl
  have hsrc := Lib.hid (h.tt ((Fr.refl _ _).alloc (.cells #[] 93)))
  clear h
  go_enter Tryd.func52, Tryd.ntmps52
  go_wp2_with (at_builtin; refine wpList_append_src _ rfl _ _ 88 rfl w.heap.size 93 i0 (.agg (Array.replicate 64 (.int .u8 0))) 64 64 Tryd.underlying88 hi hz0 hz1 hz2 zero_sec_size (by decide) _ 0 [] rfl hown _ n xs rfl hsrc.out ?c2 ?c3 ?c4 ?_)
  case c2 => unfold maxLen; omega
  case c3 => omega
  case c4 => simp
  intro v w1 hown1 hg hnil
  go_wp2
  go_ret
  exact ⟨⟨v, rfl, by simpa using hown1⟩, (Fr.alloc (Fr.refl _ _) _).grown_new hg fun k e => by simp [Value.ownBlock] at e; omega⟩

set_option maxRecDepth 100000 in
theorem clone_wr_some (w : World) (g n cap : Nat) (xs : List Value) (h : SrcAt w 65 (.slice (some ⟨g, 0, none⟩) n cap) n xs) (hm : n ≤ 1000000) :
    Calls Tryd.prog 69 #[.slice (some ⟨g, 0, none⟩) n cap] w fun e w' => (∃ v, e = .returned v ∧ w'.ownsRow w.heap.size 95 65 v n xs) ∧ Fr (fun _ _ => True) w w' := by
  have hq := fun (w : World) (a : Option Addr) (n c n' c' : Nat) => Lib.run_eql_slice_nil (P := Tryd.prog) w 89 95 a n c n' c' Tryd.underlying89
  obtain ⟨i0, hi, hz0, hz1, hz2⟩ := info_parts info_write
  have hown : (w.alloc (.cells #[] 95)).ownsRow w.heap.size 95 65 (.slice (some ⟨w.heap.size, 0, none⟩) 0 0) 0 [] := World.ownsRow_lit w #[] 0 (Nat.le_refl _) (by simp) rfl
  have hsrc := Lib.hid (h.tt ((Fr.refl _ _).alloc (.cells #[] 95)))
  clear h
  go_enter Tryd.func69, Tryd.ntmps69
  go_wp2_with (at_builtin; refine wpList_append_src _ rfl _ _ 89 rfl w.heap.size 95 i0 (.agg (wA 0 (List.replicate 64 0))) 65 72 Tryd.underlying89 hi hz0 hz1 hz2 zero_wr_size (by decide) _ 0 [] rfl hown _ n xs rfl hsrc.out ?c2 ?c3 ?c4 ?_)
  case c2 => unfold maxLen; omega
  case c3 => omega
  case c4 => simp
  intro v w1 hown1 hg hnil
  go_wp2
  go_ret
  exact ⟨⟨v, rfl, by simpa using hown1⟩, (Fr.alloc (Fr.refl _ _) _).grown_new hg fun k e => by simp [Value.ownBlock] at e; omega⟩

set_option maxRecDepth 100000 in
theorem clone_sec_nil (w : World) : Calls Tryd.prog 52 #[.slice none 0 0] w fun e w' => e = .returned (.slice none 0 0) ∧ w = w' := by
  have hq := fun (w : World) (a : Option Addr) (n c n' c' : Nat) => Lib.run_eql_slice_nil (P := Tryd.prog) w 88 93 a n c n' c' Tryd.underlying88
  go_enter Tryd.func52, Tryd.ntmps52
  go_wp2
  go_ret
  exact ⟨rfl, rfl⟩
set_option maxRecDepth 100000 in
theorem clone_wr_nil (w : World) : Calls Tryd.prog 69 #[.slice none 0 0] w fun e w' => e = .returned (.slice none 0 0) ∧ w = w' := by
  have hq := fun (w : World) (a : Option Addr) (n c n' c' : Nat) => Lib.run_eql_slice_nil (P := Tryd.prog) w 89 95 a n c n' c' Tryd.underlying89
  go_enter Tryd.func69, Tryd.ntmps69
  go_wp2
  go_ret
  exact ⟨rfl, rfl⟩

/-- slices.Clone of sectors. -/
theorem clone_sec (w : World) (v : Value) (l : List (List UInt8)) (h : w.ownsRow 0 93 64 v l.length (flatS l)) (hm : l.length ≤ 1000000) :
    Calls Tryd.prog 52 #[v] w fun e w' => (∃ v, e = .returned v ∧ w'.ownsRow w.heap.size 93 64 v l.length (flatS l)) ∧ Fr (fun _ _ => True) w w' := by
  rcases id h.2 with ⟨rfl, h0⟩ | ⟨g, cap, cur, rfl, _⟩
  · have e := List.length_eq_zero_iff.1 h0
    subst e
    exact (clone_sec_nil w).mono fun e w' ⟨he, hw⟩ => ⟨⟨_, he, rfl, .inl ⟨rfl, rfl⟩⟩, hw ▸ Fr.refl _ _⟩
  · exact clone_sec_some w g _ cap _ (src_of_own h (one_flatS l)) hm
/-- slices.Clone of pending writes. -/
theorem clone_wr (w : World) (v : Value) (l : List (Nat × List UInt8)) (h : w.ownsRow 0 95 65 v l.length (flatW l)) (hm : l.length ≤ 1000000) :
    Calls Tryd.prog 69 #[v] w fun e w' => (∃ v, e = .returned v ∧ w'.ownsRow w.heap.size 95 65 v l.length (flatW l)) ∧ Fr (fun _ _ => True) w w' := by
  rcases id h.2 with ⟨rfl, h0⟩ | ⟨g, cap, cur, rfl, _⟩
  · have e := List.length_eq_zero_iff.1 h0
    subst e
    exact (clone_wr_nil w).mono fun e w' ⟨he, hw⟩ => ⟨⟨_, he, rfl, .inl ⟨rfl, rfl⟩⟩, hw ▸ Fr.refl _ _⟩
  · exact clone_wr_some w g _ cap _ (src_of_own h (one_flatW l)) hm
end Go.Proofs.YtaeonlafcbgpcaaDoor
