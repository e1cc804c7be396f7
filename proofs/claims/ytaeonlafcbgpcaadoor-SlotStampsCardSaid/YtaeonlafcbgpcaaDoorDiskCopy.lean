/- Package disk: Copy. -/
import Derived.Test.YtaeonlafcbgpcaaDoorDiskCrash
import Derived.Deep.RegionHeld3
namespace Go.Proofs.YtaeonlafcbgpcaaDoor
open Go.RowKit

theorem own_base {w : World} {B B' : Nat} {e : TypeId} {size : Nat} {v : Value} {n : Nat} {xs : List Value} (h : w.ownsRow B e size v n xs) (hb : B' ≤ B) : w.ownsRow B' e size v n xs := by
  obtain ⟨a, b⟩ := h
  refine ⟨a, ?_⟩
  rcases b with h | ⟨g, cap, cur, h1, h2, h3⟩
  · exact .inl h
  · exact .inr ⟨g, cap, cur, h1, Nat.le_trans hb h2, h3⟩
theorem own_le {w : World} {B : Nat} {e : TypeId} {size : Nat} {v : Value} {n : Nat} {xs : List Value} (h : w.ownsRow B e size v n xs) {c : Nat} (hc : v.ownBlock = some c) : B ≤ c := by
  rcases h.2 with ⟨rfl, _⟩ | ⟨g, cap, cur, rfl, hb, _⟩
  · cases hc
  · cases hc; exact hb

set_option maxRecDepth 100000 in
set_option maxHeartbeats 1000000 in
theorem copy_calls (w : World) (bd : Nat) (F : Nat → Prop) (D : Dk) (h : Dsk w bd F D) :
    Calls Tryd.prog 36 #[.pointer (some ⟨bd, 0, none⟩)] w fun e w' => (∃ b', e = .returned (.pointer (some ⟨b', 0, none⟩)) ∧ Dsk w' b' (fun c => w.heap.size ≤ c) D) ∧ Fr (fun _ _ => True) w w' := by
  obtain ⟨vs, vu, vp, d1, hF⟩ := h
  obtain ⟨as1, cs, rfl⟩ := own_form d1.seen
  obtain ⟨au, cu, rfl⟩ := own_form d1.sure
  obtain ⟨ap, cp, rfl⟩ := own_form d1.pend
  have ks : ∀ W, Fr (fun _ _ => True) w W → W.cell? ⟨bd, 0, none⟩ = some (.slice as1 D.seen.length cs) ∧ W.cell? ⟨bd, 1, none⟩ = some (.slice au D.sure.length cu) ∧ W.cell? ⟨bd, 2, none⟩ = some (.slice ap D.pend.length cp) ∧ W.cell? ⟨bd, 3, none⟩ = some (.int .i64 D.fuse) ∧ W.cell? ⟨bd, 4, none⟩ = some (.bool D.down) := fun W hW => by
    have t := hW.keep _ _ d1.top trivial
    exact ⟨cell_mk t rfl, cell_mk t rfl, cell_mk t rfl, cell_mk t rfl, cell_mk t rfl⟩
  have KS := Lib.hid ks
  have HS := Lib.hid d1.seen
  have HU := Lib.hid d1.sure
  have HP := Lib.hid d1.pend
  have HW := Lib.hid d1.wf
  have hl1 : Hid (D.seen.length ≤ 1000000) := by have := d1.wf.len; have := d1.wf.max; show _ ≤ _; omega
  have hl2 : Hid (D.sure.length ≤ 1000000) := by have := d1.wf.max; show _ ≤ _; omega
  have hl3 : Hid (D.pend.length ≤ 1000000) := d1.wf.few
  clear d1 ks hF
  go_enter Tryd.func36, Tryd.ntmps36
  go_wp2_with fail
  go_region_held3 (fun W => W.cell? ⟨bd, 0, none⟩ = some (.slice as1 D.seen.length cs) ∧ W.cell? ⟨bd, 1, none⟩ = some (.slice au D.sure.length cu) ∧ W.cell? ⟨bd, 2, none⟩ = some (.slice ap D.pend.length cp) ∧ W.cell? ⟨bd, 3, none⟩ = some (.int .i64 D.fuse) ∧ W.cell? ⟨bd, 4, none⟩ = some (.bool D.down)) (first | exact KS.out _ (Fr.refl _ _).drew | exact KS.out _ G1.out | exact KS.out _ G2.out | exact KS.out _ G3.out | exact KS.out _ (G3.out.alloc _))
    (first
      | (go_at_call 52; (with_reducible refine (clone_sec _ _ D.seen (ownsRow_fr HS.out ((Fr.refl (fun _ _ => True) w).drew) (fun _ _ _ _ => trivial)) hl1.out).mono ?_); rintro e w1 ⟨⟨v1, rfl, o1⟩, f1⟩; obtain ⟨a1, c1, rfl⟩ := own_form o1; have O1 := Lib.hid o1; have G1 := Lib.hid ((Fr.refl (fun _ _ => True) w).drew.trans f1); clear o1 f1)
      | (go_at_call 52; (with_reducible refine (clone_sec _ _ D.sure (ownsRow_fr HU.out G1.out (fun _ _ _ _ => trivial)) hl2.out).mono ?_); rintro e w2 ⟨⟨v2, rfl, o2⟩, f2⟩; obtain ⟨a2, c2, rfl⟩ := own_form o2; have O2 := Lib.hid o2; have E2 := Lib.hid f2; have G2 := Lib.hid (G1.out.trans f2); clear o2 f2)
      | (go_at_call 69; (with_reducible refine (clone_wr _ _ D.pend (ownsRow_fr HP.out G2.out (fun _ _ _ _ => trivial)) hl3.out).mono ?_); rintro e w3 ⟨⟨v3, rfl, o3⟩, f3⟩; obtain ⟨a3, c3, rfl⟩ := own_form o3; have O3 := Lib.hid o3; have E3 := Lib.hid f3; have G3 := Lib.hid (G2.out.trans f3); clear o3 f3))
  all_goals
    go_wp2
    go_ret
    refine ⟨⟨_, rfl, ?_⟩, G3.out.alloc _⟩
    have t := heap_alloc_new w3 (.cells #[.slice a1 D.seen.length c1, .slice a2 D.sure.length c2, .slice a3 D.pend.length c3, .int .i64 D.fuse, .bool D.down] 91 (0, 0))
    have q1 : Fr (fun _ _ => True) w1 (w3.alloc (.cells #[.slice a1 D.seen.length c1, .slice a2 D.sure.length c2, .slice a3 D.pend.length c3, .int .i64 D.fuse, .bool D.down] 91 (0, 0))) := (E2.out.trans E3.out).alloc _
    have s1 := G1.out.size
    have s2 := G2.out.size
    have s3 := G3.out.size
    refine ⟨_, _, _, ⟨t, own_base (ownsRow_fr O1.out q1 (fun _ _ _ _ => trivial)) (Nat.zero_le _), own_base (ownsRow_fr O2.out (E3.out.alloc _) (fun _ _ _ _ => trivial)) (Nat.zero_le _), own_base (ownsRow_fr O3.out ((Fr.refl (fun _ _ => True) w3).alloc _) (fun _ _ _ _ => trivial)) (Nat.zero_le _), ?_, HW.out⟩, s3, fun c e => ?_, fun c e => Nat.le_trans s1 (own_le O2.out e), fun c e => Nat.le_trans s2 (own_le O3.out e)⟩
    · intro c e e'
      have h2 := own_le O2.out e'
      obtain ⟨cur, hc⟩ := own_tag O1.out e
      have := lt_of_some hc
      omega
    · have := own_le O1.out e
      simpa using this
end Go.Proofs.YtaeonlafcbgpcaaDoor
