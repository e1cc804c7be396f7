/- Law 5: SlotTorn, whole. -/
import Derived.Test.YtaeonlafcbgpcaaDoorTornIn
import Derived.Test.YtaeonlafcbgpcaaDoorRdBytes
namespace Go.Proofs.YtaeonlafcbgpcaaDoor
open Go.RowKit

theorem nat_u32 {z : Int} (h : (Lit.int .u32 z).wf = true) : ∃ n : Nat, z = n ∧ n < 4294967296 := by
  obtain ⟨h0, h1⟩ := bounds_u32 h
  exact ⟨z.toNat, by omega, by omega⟩
theorem size_u8c : Tryd.prog.cellsOf 5 = 1 := by kernel_rfl
theorem Rd.bs {w : World} {v : Value} (h : Rd Tryd.prog w 23 [v]) : ∃ bs, BytesAt (fun b _ => b < w.heap.size) w v bs ∧ bs.length ≤ maxLen := Rd.bytes Tryd.underlying23 Tryd.underlying5 size_u8c h
theorem Fr.bel {w w' : World} (h : Fr (fun _ _ => True) w w') : Below w.heap.size w w' := (h.mono fun _ _ _ => trivial : Fr (fun b _ => b < w.heap.size) w w').below (Nat.le_refl _)

theorem torn_walk (W : World) (zs zm cut : Int) (hs : (Lit.int .u32 zs).wf = true) (hm : (Lit.int .u32 zm).wf = true) (a1 a2 : Option Addr) (l1 l2 c1 c2 : Nat) (r1 : Rd Tryd.prog W 23 [.slice a1 l1 c1]) (r2 : Rd Tryd.prog W 23 [.slice a2 l2 c2]) (ht : TabOK W) :
    Calls Tryd.prog 4 #[.int .u32 zs, .int .u32 zm, .slice a1 l1 c1, .slice a2 l2 c2, .int .i64 cut] W fun e w' => e = .returned (.bool true) ∧ Below W.heap.size W w' := by
  obtain ⟨s, rfl, ks⟩ := nat_u32 hs
  obtain ⟨m, rfl, km⟩ := nat_u32 hm
  obtain ⟨one, h1, _⟩ := r1.bs
  obtain ⟨two, h2, _⟩ := r2.bs
  by_cases ho : tornOut s m one two cut
  · exact (torn_out W s m a1 a2 l1 l2 c1 c2 one two cut h1 h2 ht ks km ho).mono fun e w' ⟨he, hf⟩ => ⟨he, hf.bel⟩
  · unfold tornOut at ho
    obtain ⟨k, rfl⟩ := Int.eq_ofNat_of_zero_le (a := cut) (by omega)
    exact (torn_in W s m a1 a2 l1 l2 c1 c2 one two k h1 h2 ht ks km (by omega) (by omega) (by omega) (by omega) (by omega) (by omega)).mono fun e w' ⟨he, hf⟩ => ⟨he, hf.bel⟩
end Go.Proofs.YtaeonlafcbgpcaaDoor
