/- Texts of the proofs, part 30: what the functions that they reach do, walked; no conditions beyond those that each states. -/
import Derived.Laws.OwnMore
import Derived.Test.YtcpbmempfeloaaaDoorZzf4177f3e12
set_option linter.unusedVariables false
set_option linter.unusedSimpArgs false
/- The reference's disk: Crash. -/
namespace Go.Proofs.YtcpbmempfeloaaaDoor
open Go.RowKit
set_option linter.unusedVariables false

theorem flat_set (S : List (List UInt8)) (I q : Nat) (y : List UInt8) (v : UInt8) (hS : ∀ x ∈ S, x.length = 64) (hI : I < S.length) (hy : y.length = 64) (hq : q < 64) : (S.set I y).flatten.set (64 * I + q) v = (S.set I (y.set q v)).flatten := by
  rw [chunk_set S I y hS hI, chunk_set S I (y.set q v) hS hI]
  have hl : (S.flatten.take (I * 64)).length = I * 64 := by
    rw [List.length_take, chunk_length S hS]
    have : I * 64 ≤ S.length * 64 := Nat.mul_le_mul_right _ (by omega)
    omega
  rw [List.set_append_right _ _ (by omega), hl, show 64 * I + q - I * 64 = q from by omega, List.set_append_left _ _ (by omega)]
theorem tear_step (q : Nat) (x old : List UInt8) (hx : x.length = 64) (ho : old.length = 64) (hq : q < 64) : (tear q x old).set q (x[q]'(by omega)) = tear (q + 1) x old := by
  unfold tear
  have hl : (x.take q).length = q := by rw [List.length_take]; omega
  rw [List.set_append_right _ _ (by omega), hl, Nat.sub_self, List.drop_eq_getElem_cons (by omega), List.set_cons_zero, List.take_succ_eq_append_getElem (by omega : q < x.length), List.append_assoc]
  rfl
theorem set_getD {S : List (List UInt8)} {I : Nat} (h : I < S.length) : S.set I (S.getD I []) = S := by
  rw [List.getD_eq_getElem?_getD, List.getElem?_eq_getElem h]
  exact List.set_getElem_self h
theorem tear_zero (x old : List UInt8) : tear 0 x old = old := by simp [tear]

theorem RowB.put {w : World} {B g n c : Nat} {S : List (List UInt8)} {I q : Nat} {x old : List UInt8} (h : RowB w B (.slice (some ⟨g, 0, none⟩) n c) n (S.set I (tear q x old)).flatten) (hS : ∀ x ∈ S, x.length = 64) (hI : I < S.length) (hx : x.length = 64) (ho : old.length = 64) (hq : q < 64) :
    RowB (w.setCell ⟨g, 64 * I + q, none⟩ (byteV (x[q]'(by omega)))) B (.slice (some ⟨g, 0, none⟩) n c) n (S.set I (tear (q + 1) x old)).flatten := by
  have h1 := (World.ownsRow.stored h (64 * I + q) (byteV (x[q]'(by omega)))).1
  rw [← List.map_set, flat_set S I q _ _ hS hI (tear_64 q x old hx ho) hq, tear_step q x old hx ho hq] at h1
  exact h1
theorem RowB.there {w : World} {B g n c : Nat} {bs : List UInt8} (h : RowB w B (.slice (some ⟨g, 0, none⟩) n c) n bs) (i : Nat) (hi : i < n) : (∃ v, w.cell? ⟨g, i, none⟩ = some v) ∧ w.frozen? ⟨g, i, none⟩ = false := by
  obtain ⟨hl, hh⟩ := h
  rcases hh with ⟨e, _⟩ | ⟨g', cap', cur, e, hbg, hg, hnc, hcm, hcs, htake⟩
  · cases e
  · cases e
    have hs : i < cur.size := by rw [hcs]; omega
    exact ⟨⟨cur[i], cell_mk hg (Array.getElem?_eq_getElem hs)⟩, frozen_mk hg⟩
theorem pickAt_some (zs : List Int) (j : Nat) (h : j < zs.length) : pickAt zs j = (max 0 (min zs[j] 64)).toNat := by
  unfold pickAt; rw [List.getElem?_eq_getElem h]
theorem pickAt_none (zs : List Int) (j : Nat) (h : ¬ j < zs.length) : pickAt zs j = 0 := by
  unfold pickAt; rw [List.getElem?_eq_none (by omega)]

set_option maxRecDepth 100000 in
set_option maxHeartbeats 4000000 in
theorem r_crash_at {K : Nat → Obj → Prop} (w : World) (br : Nat) (G : Nat → Prop) (D : Dk) (pa : Option Addr) (pn pc : Nat) (zs : List Int) (vs vp : Value) (T : List (Nat × Value × List UInt8)) (fused : Bool) (left : Int) (h : RAt w br G vs vp T fused left D) (hp : IntsAt K w (.slice pa pn pc) zs) :
    Calls Tryd.prog 29 #[.pointer (some ⟨br, 0, none⟩), .slice pa pn pc] w fun e w' => e = .returned (.tuple #[]) ∧ (∃ vs', RAt w' br (fun c => G c ∨ w.heap.size ≤ c) vs' (.slice none 0 0) [] false left (D.crash zs)) ∧ Fr (fun c _ => c ≠ br) w w' := by
  have hok := h.good.ok
  have hfl := flat_len hok
  have hmax := hok.max
  have hone := hok.one
  have hbr : br < w.heap.size := lt_of_some h.top
  obtain ⟨aq, cs, rfl⟩ := h.sure.form
  obtain ⟨L, hL⟩ : ∃ L, D.sure.flatten.length = L := ⟨_, rfl⟩
  rw [hL] at h
  have hLn : L = D.sure.length * 64 := by rw [← hL, hfl]
  obtain ⟨ap, cp, rfl⟩ := own_form h.pend
  have hpn : zs.length = pn := by obtain ⟨_, _, e, _⟩ := hp; cases e; rfl
  have hfew : T.length ≤ 1000000 := by have := hok.few; rw [h.tr, List.length_map] at this; exact this
  have H := Lib.hid h
  have HP := Lib.hid hp
  have HZ := Lib.hid hpn
  have W0 := (Fr.refl (fun _ _ => True) w).alloc (.cells #[] 5)
  have c0 := cell_mk (i := 0) (W0.keep _ _ h.top trivial) rfl
  have FA := Lib.hid W0
  have LE : Hid (RowB (w.alloc (.cells #[] 5)) w.heap.size (.slice (some ⟨w.heap.size, 0, none⟩) 0 0) 0 []) := World.ownsRow_lit w #[] 0 (Nat.le_refl _) (by simp) rfl
  have BA := Lib.hid (h.sure.tt W0)
  have R1 : Hid ([] ++ D.sure.flatten = D.sure.flatten) := rfl
  have N1 : Hid (0 + D.sure.flatten.length = L) := by show _ = _; rw [hL, Nat.zero_add]
  have hn2 : L ≤ 2000000 := by omega
  have HLN := Lib.hid hLn
  clear h hp hfl hpn W0 hL hLn
  go_enter Tryd.func29, Tryd.ntmps29
  go_wp2_with (at_builtin; refine wpList_append_fs w _ FA rfl _ _ rfl _ 0 0 [] rfl LE _ D.sure.flatten rfl BA L _ R1 N1 hn2 ?_)
  intro g c2 w2 O2 F2
  clear c0 FA LE BA R1 N1
  have hg0 : w.heap.size ≤ g := own_new O2.out g rfl
  go_wp2
  go_loopw [5] (fun kk wr => ∃ j : Nat, j ≤ T.length ∧ kk = .int .i64 j ∧ Hid (RowB wr w.heap.size (.slice (some ⟨g, 0, none⟩) L c2) L (layTorn zs D.sure (D.pend.take j)).flatten) ∧ Hid (Fr (fun c _ => c < w.heap.size) w wr)) (fun kk _ => T.length - (intOf kk).toNat)
  case atStart => exact ⟨0, Nat.zero_le _, rfl, O2, F2.out.mono fun _ _ _ => trivial⟩
  case round =>
    obtain ⟨j, hj, rfl, OJ, FJ⟩ := hrel
    have cb := cell_mk (i := 1) (FJ.out.keep _ _ H.out.top hbr) rfl
    by_cases hlt : j < T.length
    · have hltI : (j : Int) < T.length := by omega
      -- what is written, and where
      have htr : D.pend.take (j + 1) = D.pend.take j ++ [(T[j].1, T[j].2.2)] := by
        rw [H.out.tr, ← List.map_take, List.take_succ_eq_append_getElem hlt, List.map_append, List.map_take]; rfl
      have hp64 := hok.p64 (T[j].1, T[j].2.2) (by rw [H.out.tr]; exact List.mem_map.2 ⟨T[j], List.getElem_mem hlt, rfl⟩)
      have htl : (D.pend.take j).length = j := by rw [List.length_take, H.out.tr, List.length_map]; omega
      have hS64 : ∀ x ∈ layTorn zs D.sure (D.pend.take j), x.length = 64 := layTorn_64 zs _ _ hok.u64 fun x hx => hok.p64 x (List.mem_of_mem_take hx)
      have hSl : (layTorn zs D.sure (D.pend.take j)).length = D.sure.length := layTorn_length _ _ _
      have hnx : Hid (layTorn zs D.sure (D.pend.take (j + 1)) = (layTorn zs D.sure (D.pend.take j)).set T[j].1 (tear (pickAt zs j) T[j].2.2 ((layTorn zs D.sure (D.pend.take j)).getD T[j].1 []))) := by
        show _ = _
        rw [htr, layTorn_snoc, htl]; rfl
      have hpnd := H.out.pend
      obtain ⟨gp, rfl⟩ : ∃ g, ap = some ⟨g, 0, none⟩ := by
        rcases hpnd.2 with ⟨e, e2⟩ | ⟨g, cap, cur, e, _⟩
        · omega
        · cases e; exact ⟨g, rfl⟩
      obtain ⟨k0, k1⟩ := pend_cells hpnd j hlt
      have hb := H.out.bs T[j] (List.getElem_mem hlt)
      obtain ⟨aj, cj, hvj⟩ := hb.form
      rw [hvj] at hb k1
      have hl64 : T[j].2.2.length = 64 := hp64.2
      have hI : T[j].1 < D.sure.length := hp64.1
      rw [hl64] at hb k1
      obtain ⟨bj, oj, rfl⟩ := hb.addr (by omega)
      have K0 := Lib.hid k0
      have K1 := Lib.hid k1
      have HB := Lib.hid hb
      clear hb hpnd hvj htr hp64 htl k0 k1
      generalize layTorn zs D.sure (D.pend.take j) = S at OJ hS64 hSl hnx
      generalize T[j].1 = I at K0 hnx hI
      generalize T[j].2.2 = x at HB hnx hl64
      have HS64 := Lib.hid hS64
      have HSl := Lib.hid hSl
      have ho64 : (S.getD I []).length = 64 := by
        rw [List.getD_eq_getElem?_getD, List.getElem?_eq_getElem (by omega)]
        exact hS64 _ (List.getElem_mem _)
      have OI : Hid (RowB wr w.heap.size (.slice (some ⟨g, 0, none⟩) L c2) L (S.set I (tear 0 x (S.getD I []))).flatten) := by
        rw [tear_zero, set_getD (by omega)]; exact OJ
      have HO := Lib.hid ho64
      generalize S.getD I [] = old at OI hnx HO
      have HL64 := Lib.hid hl64
      clear hS64 hSl ho64 hl64 OJ
      obtain ⟨wo, rfl⟩ : ∃ wo : World, wo = wr := ⟨_, rfl⟩
      by_cases hjp : j < pn
      · have hjz : j < zs.length := by have := HZ.out; omega
        have hjI : (j : Int) < pn := by omega
        obtain ⟨zb, zo, rfl, hzc⟩ : ∃ zb zo, pa = some ⟨zb, zo, none⟩ ∧ w.cell? ⟨zb, zo + j, none⟩ = some (.int .i64 zs[j]) := by
          obtain ⟨a', c', e, hz⟩ := HP.out
          rcases hz with hz | ⟨b', o', ob, rfl, _, _, hc⟩
          · rw [hz] at hjz; simp at hjz
          · cases e; exact ⟨b', o', rfl, hc j hjz⟩
        have cz := FJ.out.old hzc
        have hpz := pickAt_some zs j hjz
        have hple := pickAt_le zs j
        generalize zs[j] = z at cz hpz
        have HPZ := Lib.hid hpz
        clear hzc hpz
        go_wp2
        go_loopw [7] (fun nn wi => ∃ q : Nat, q ≤ pickAt zs j ∧ nn = .int .i64 q ∧ Hid (RowB wi w.heap.size (.slice (some ⟨g, 0, none⟩) L c2) L (S.set I (tear q x old)).flatten) ∧ Hid (Fr (fun c _ => c < w.heap.size) w wi)) (fun nn _ => pickAt zs j - (intOf nn).toNat)
        case atStart => exact ⟨0, Nat.zero_le _, rfl, OI, FJ⟩
        case round =>
          obtain ⟨q, hq, rfl, OQ, FQ⟩ := hrel
          by_cases hqp : q < pickAt zs j
          · have q64 : (q : Int) < 64 := by omega
            have qz : (q : Int) < z := by have := HPZ.out; omega
            have q64n : q < 64 := by omega
            have cb' := cell_mk (i := 1) (FQ.out.keep _ _ H.out.top hbr) rfl
            have k0 := FQ.out.old K0.out
            have k1 := FQ.out.old K1.out
            have kx := FQ.out.old (HB.out.cell (i := q) (by have := HL64.out; omega))
            have hlt2 : 64 * I + q < L := by have := HLN.out; omega
            obtain ⟨⟨v0, kg⟩, kf⟩ := OQ.out.there (64 * I + q) hlt2
            have hxq : Hid (x[q]'(by have := HL64.out; omega) = x[q]'(by have := HL64.out; omega)) := rfl
            have OP := Lib.hid (OQ.out.put HS64.out (by have := HSl.out; omega) HL64.out HO.out q64n)
            unfold byteV at kx OP
            generalize x[q]'(by have := HL64.out; omega) = u at kx OP hxq
            have e1 : IntKind.i64.wrap (64 * (I : Int)) = 64 * (I : Int) := IntWalk.i64_in _ (by omega)
            have e2 : IntKind.i64.wrap (64 * (I : Int) + (q : Int)) = 64 * (I : Int) + (q : Int) := IntWalk.i64_in _ (by omega)
            have e3 : (64 * (I : Int) + (q : Int)).toNat = 64 * I + q := by omega
            have e4 : 64 * (I : Int) + (q : Int) < (L : Nat) := by omega
            have e5 : 0 ≤ 64 * (I : Int) + (q : Int) := by omega
            clear cb cz hxq
            go_wp2
            go_still_tail 24, (by kernel_rfl)
            go_wp2
            exact ⟨⟨q + 1, by omega, by go_num, OP.out.tt ((Fr.refl _ _).drew), (FQ.out.setCell_new (p := ⟨g, 64 * I + q, none⟩) hg0 _).drew⟩, by simp [intOf]; omega⟩
          · have hqe : q = pickAt zs j := by omega
            have OE : Hid (RowB wr w.heap.size (.slice (some ⟨g, 0, none⟩) L c2) L (layTorn zs D.sure (D.pend.take (j + 1))).flatten) := by
              rw [hnx.out, ← hqe]; exact OQ
            have hx := HPZ.out
            by_cases q64 : q < 64
            · have q64I : (q : Int) < 64 := by omega
              have qz : z ≤ (q : Int) := by omega
              clear hx hqe q64 cb cz
              go_wp2
              go_roundw
              case rel => exact ⟨j + 1, by omega, by go_num, OE, FQ⟩
              case measure => simp [intOf]; omega
            · have q64I : (64 : Int) ≤ q := by omega
              have d64 : decide ((q : Int) < 64) = false := by simp; omega
              clear hx hqe q64 cb cz
              go_wp2
              go_roundw
              case rel => exact ⟨j + 1, by omega, by go_num, OE, FQ⟩
              case measure => simp [intOf]; omega
      · have hjI : (pn : Int) ≤ j := by omega
        have hjz : ¬ j < zs.length := by have := HZ.out; omega
        have HP0 := Lib.hid (pickAt_none zs j hjz)
        clear hjz
        go_wp2
        go_loopw [7] (fun nn wi => nn = .int .i64 0 ∧ wi = wo) (fun _ _ => 0)
        case atStart => exact ⟨rfl, rfl⟩
        case round =>
          obtain ⟨rfl, rfl⟩ := hrel
          go_wp2
          go_roundw
          case rel => exact ⟨j + 1, by omega, by go_num, by rw [hnx.out, HP0.out]; exact OI, FJ⟩
          case measure => simp [intOf]; omega
    · obtain rfl : j = T.length := by omega
      have htop := FJ.out.keep _ _ H.out.top hbr
      have q0 := cell_mk (i := 0) htop rfl
      have q2 := cell_mk (i := 2) htop rfl
      have q4 := cell_mk (i := 4) htop rfl
      have z0 := frozen_mk (i := 0) htop
      have z1 := frozen_mk (i := 1) htop
      have z2 := frozen_mk (i := 2) htop
      have z4 := frozen_mk (i := 4) htop
      have HT := Lib.hid htop
      clear htop
      go_wp2
      go_end0
      have f4 : Fr (fun c _ => c < w.heap.size ∧ c ≠ br) w ((((wr.setCell ⟨br, 0, none⟩ (.slice (some ⟨g, 0, none⟩) L c2)).setCell ⟨br, 1, none⟩ (.slice none 0 0)).setCell ⟨br, 2, none⟩ (.bool false)).setCell ⟨br, 4, none⟩ (.bool false)) :=
        ((((FJ.out.mono fun _ _ h => h.1 : Fr (fun c _ => c < w.heap.size ∧ c ≠ br) w wr).setCell (fun _ _ h => h.2 rfl) _).setCell (fun _ _ h => h.2 rfl) _).setCell (fun _ _ h => h.2 rfl) _).setCell (fun _ _ h => h.2 rfl) _
      have o4 : Fr (fun c _ => c ≠ br) wr ((((wr.setCell ⟨br, 0, none⟩ (.slice (some ⟨g, 0, none⟩) L c2)).setCell ⟨br, 1, none⟩ (.slice none 0 0)).setCell ⟨br, 2, none⟩ (.bool false)).setCell ⟨br, 4, none⟩ (.bool false)) :=
        ((((Fr.refl _ _).setCell (fun _ _ h => h rfl) _).setCell (fun _ _ h => h rfl) _).setCell (fun _ _ h => h rfl) _).setCell (fun _ _ h => h rfl) _
      have hall : D.pend.take T.length = D.pend := List.take_of_length_le (by rw [H.out.tr, List.length_map]; exact Nat.le_refl _)
      have hO := OJ.out
      rw [hall] at hO
      have hfl2 : (layTorn zs D.sure D.pend).flatten.length = L := by
        rw [chunk_length _ (layTorn_64 zs _ _ hok.u64 hok.p64), layTorn_length]; exact HLN.out.symm
      have hB := ((BytesAt.of_own hO hfl2).mono (K' := fun c _ => w.heap.size ≤ c) fun c o _ h => h.1).mono (K' := fun c _ => w.heap.size ≤ c ∧ c ≠ br) fun c o _ h => ⟨h, by omega⟩
      refine ⟨rfl, ⟨_, heap_setCell_same (heap_setCell_same (heap_setCell_same (heap_setCell_same HT.out _) _) _) _, ?_, World.ownsRow_nil _ _ _ _, (fun c e => by cases e), rfl, (fun x hx => by cases hx), .inl H.out.gb, (fun _ => ⟨rfl, fun h => absurd (show (0 : Int) ≤ -1 from h) (by decide)⟩), H.out.good.crash zs⟩, Fr.within (f4.mono fun _ _ h => ⟨h.2, h.1⟩)⟩
      exact (hB.fr (o4.mono fun _ _ h => h.2)).mono fun c o _ h => ⟨.inr h.1, h.2⟩

/-- ref04.Crash. -/
theorem r_crash {K : Nat → Obj → Prop} (w : World) (br : Nat) (G : Nat → Prop) (D : Dk) (pa : Option Addr) (pn pc : Nat) (zs : List Int) (h : Rdk w br G D) (hp : IntsAt K w (.slice pa pn pc) zs) :
    Calls Tryd.prog 29 #[.pointer (some ⟨br, 0, none⟩), .slice pa pn pc] w fun e w' => e = .returned (.tuple #[]) ∧ Rdk w' br (fun c => G c ∨ w.heap.size ≤ c) (D.crash zs) ∧ Fr (fun c _ => c ≠ br) w w' := by
  obtain ⟨vs, vp, T, fused, left, h⟩ := h
  exact (r_crash_at w br G D pa pn pc zs vs vp T fused left h hp).mono fun e w' ⟨he, ⟨vs', hr⟩, hf⟩ => ⟨he, ⟨vs', _, _, _, _, hr⟩, hf⟩
end Go.Proofs.YtcpbmempfeloaaaDoor
/- The reference's disk: Sync. -/
namespace Go.Proofs.YtcpbmempfeloaaaDoor
open Go.RowKit
set_option linter.unusedVariables false

theorem layTorn_all (zs : List Int) (s : List (List UInt8)) (l : List (Nat × List UInt8)) (hs : ∀ x ∈ s, x.length = 64) (hl : ∀ x ∈ l, x.1 < s.length ∧ x.2.length = 64) (hz : ∀ k, k < l.length → pickAt zs k = 64) : layTorn zs s l = laySure s l := by
  have key : ∀ n, n ≤ l.length → layTorn zs s (l.take n) = laySure s (l.take n) := by
    intro n
    induction n with
    | zero => intro _; simp [layTorn, laySure]
    | succ n ih =>
      intro hn
      have hlt : n < l.length := by omega
      rw [List.take_succ_eq_append_getElem hlt, layTorn_snoc, laySure_snoc, ih (by omega)]
      have htl : (l.take n).length = n := by rw [List.length_take]; omega
      obtain ⟨h1, h2⟩ := hl l[n] (List.getElem_mem hlt)
      have h64 := laySure_64 (l.take n) s hs fun x hx => (hl x (List.mem_of_mem_take hx)).2
      have ho : ((laySure s (l.take n)).getD l[n].1 []).length = 64 := by
        have hx : l[n].1 < (laySure s (l.take n)).length := by rw [laySure_length]; exact h1
        rw [List.getD_eq_getElem?_getD, List.getElem?_eq_getElem hx]
        exact h64 _ (List.getElem_mem hx)
      show (laySure s (l.take n)).set l[n].1 (tear (pickAt zs (l.take n).length) l[n].2 ((laySure s (l.take n)).getD l[n].1 [])) = _
      rw [htl, hz n hlt]
      congr 1
      unfold tear
      rw [List.take_of_length_le (by omega), List.drop_of_length_le (by omega), List.append_nil]
  have := key l.length (Nat.le_refl _)
  rwa [List.take_length] at this
theorem pick_all (m k : Nat) (h : k < m) : pickAt (List.replicate m 64) k = 64 := by
  rw [pickAt_some _ _ (by simpa using h), List.getElem_replicate]; rfl

theorem info_int : (Tryd.prog.info? 3).map (fun i => (i.zero, i.size, i.bytes)) = some (some (.int .i64 0), 1, 8) := by kernel_rfl
/-- A row of ints of the function's own. -/
def RowI (w : World) (B : Nat) (v : Value) (n : Nat) (zs : List Int) : Prop := w.ownsRow B 3 1 v n (zs.map (Value.int .i64))
theorem wpList_append_int {ops : Array Oper} {rest : List Oper} {o : Oper} {a : Act} {Q : Exit → Act → World → Prop} (W0 W : World) (hF : Hid (Fr (fun _ _ => True) W0 W)) (hgd : o.guard = none) (s x : Operand)
    (ho : o.op = .call { callee := .builtin .append, args := #[s, x], argTypes := #[24, 24] }) (v : Value) (n : Nat) (zs : List Int) (hs : a.eval s = v) (hown : Hid (RowI W W0.heap.size v n zs))
    (b : Nat) (z : Int) (hx : a.eval x = .slice (some ⟨b, 0, none⟩) 1 1) (hb : W.heap[b]? = some (.cells #[.int .i64 z] 3 (0, 0))) (r : List Int) (hr : Hid (zs ++ [z] = r)) (hn : n + 1 ≤ 2000000)
    (h : ∀ a' c' w', Hid (RowI w' W0.heap.size (.slice a' (n + 1) c') (n + 1) r) → Hid (Fr (fun _ _ => True) W0 w') → wpList Tryd.prog ops Q rest (a.put o.dst (.slice a' (n + 1) c')) w') :
    wpList Tryd.prog ops Q (o :: rest) a W := by
  obtain ⟨i0, hi, hz0, hz1, hz2⟩ := info_parts info_int
  have hr := hr.out
  subst hr
  refine wpList_append_src W hgd s x 24 ho W0.heap.size 3 i0 _ 1 8 Tryd.underlying24 hi hz0 hz1 hz2 rfl (by decide) v n (zs.map (Value.int .i64)) hs hown.out _ 1 [.int .i64 z] hx
    (.inr ⟨_, 1, rfl, rfl, World.news_of_block hb, fun u hu => by rw [List.mem_singleton.1 hu]; rfl⟩) (by unfold maxLen; omega) (by omega) hF.out.size ?_
  intro v' w' h1 h2 _
  obtain ⟨a', c', rfl⟩ := own_form h1
  refine h a' c' w' ?_ (hF.out.grown_new h2 (own_new hown.out))
  show World.ownsRow _ _ _ _ _ _ _
  rw [List.map_append]
  exact h1
theorem RowI.ints {w : World} {B n : Nat} {a : Option Addr} {c : Nat} {zs : List Int} (h : RowI w B (.slice a n c) n zs) : IntsAt (fun _ _ => True) w (.slice a n c) zs := by
  obtain ⟨hl, hh⟩ := h
  have hlz : zs.length = n := by simpa using hl
  refine ⟨a, c, by rw [hlz], ?_⟩
  rcases hh with ⟨e, hn⟩ | ⟨g, cap, cur, e, hbg, hg, hnc, hcm, hcs, htake⟩
  · exact .inl (List.length_eq_zero_iff.1 (by omega))
  · cases e
    refine .inr ⟨g, 0, _, rfl, hg, trivial, fun i hi => cell_mk hg ?_⟩
    have e1 : cur.toList[i]? = (zs.map (Value.int .i64))[i]? := by rw [← htake, List.getElem?_take, if_pos (by omega)]
    rw [Nat.zero_add, ← Array.getElem?_toList, e1]
    simp [hi]

set_option maxRecDepth 100000 in
theorem r_sync_down (w : World) (br : Nat) (G : Nat → Prop) (D : Dk) (h : Rdk w br G D) (hd : D.burn.down = true) :
    Calls Tryd.prog 26 #[.pointer (some ⟨br, 0, none⟩)] w fun e w' => e = .returned (.tuple #[]) ∧ Rdk w' br G D.burn ∧ Fr (fun b _ => b ≠ br) w w' := by
  have hdn := r_done w br G D h
  rw [hd] at hdn
  have HD := Lib.hid hdn
  clear h hdn hd
  go_enter Tryd.func26, Tryd.ntmps26
  go_wp2_with fail
  (with_reducible refine HD.out.mono ?_)
  rintro e w1 ⟨rfl, r1, f1⟩
  have R1 := Lib.hid r1
  have F1 := Lib.hid f1
  clear r1 f1
  go_wp2
  exact bodyPost_ret (results_none rfl _ _ _) rfl ⟨rfl, R1.out, F1.out⟩

set_option maxRecDepth 100000 in
set_option maxHeartbeats 2000000 in
theorem r_sync_main (w : World) (br : Nat) (G : Nat → Prop) (D : Dk) (h : Rdk w br G D) (hd : D.burn.down = false) :
    Calls Tryd.prog 26 #[.pointer (some ⟨br, 0, none⟩)] w fun e w' => e = .returned (.tuple #[]) ∧ Rdk w' br (fun c => G c ∨ w.heap.size ≤ c) { D.burn with sure := laySure D.sure D.pend, pend := [] } ∧ Fr (fun b _ => b ≠ br) w w' := by
  have hgd := h.gd
  have hsg : ({ D.burn with sure := laySure D.sure D.pend, pend := [] } : Dk).good := by
    have := hgd.sync
    unfold Dk.sync at this
    rw [hd, if_neg (by decide)] at this
    exact this
  have HSG := Lib.hid hsg
  have HGD := Lib.hid hgd
  have HDN := Lib.hid hd
  have hdn := r_done w br G D h
  rw [hd] at hdn
  have HD := Lib.hid hdn
  clear h hdn hd hsg hgd
  go_enter Tryd.func26, Tryd.ntmps26
  go_wp2_with fail
  (with_reducible refine HD.out.mono ?_)
  rintro e w1 ⟨rfl, r1, f1⟩
  obtain ⟨vs, vp, T, fused, left, r1⟩ := r1
  obtain ⟨ap, cp, rfl⟩ := own_form r1.pend
  have F1 := Lib.hid f1
  have R := Lib.hid r1
  have hbr : br < w1.heap.size := lt_of_some r1.top
  have hfew : T.length ≤ 1000000 := by
    have := r1.good.ok.few
    rw [r1.tr, List.length_map] at this; exact this
  have c1 := cell_mk (i := 1) r1.top rfl
  have c2 := cell_mk (i := 2) r1.top rfl
  clear r1 f1 HD
  go_wp2
  clear c1 c2
  go_loopw [4, 5] (fun v i wr => ∃ (j : Nat) (a : Option Addr) (c : Nat), j ≤ T.length ∧ i = .int .i64 j ∧ v = .slice a j c ∧ Hid (RowI wr w1.heap.size (.slice a j c) j (List.replicate j 64)) ∧ Hid (Fr (fun _ _ => True) w1 wr)) (fun _ i _ => T.length - (intOf i).toNat)
  case atStart => exact ⟨0, none, 0, Nat.zero_le _, rfl, rfl, World.ownsRow_nil _ _ _ _, Fr.refl _ _⟩
  case round =>
    obtain ⟨j, a, c, hj, rfl, rfl, OJ, FJ⟩ := hrel
    have c1 := cell_mk (i := 1) (FJ.out.keep _ _ R.out.top trivial) rfl
    by_cases hlt : j < T.length
    · have hltI : (j : Int) < T.length := by omega
      have OJ' : Hid (RowI (wr.alloc (.cells #[.int .i64 64] 3 (0, 0))) w1.heap.size (.slice a j c) j (List.replicate j 64)) := own_tt OJ.out ((Fr.refl _ _).alloc _)
      have FJ' := Lib.hid (FJ.out.alloc (.cells #[.int .i64 64] 3 (0, 0)))
      have RJ : Hid (List.replicate j (64 : Int) ++ [64] = List.replicate (j + 1) 64) := by show _ = _; rw [List.replicate_succ']
      go_wp2_with (at_builtin; refine wpList_append_int w1 _ FJ' rfl _ _ rfl _ j _ rfl OJ' wr.heap.size 64 rfl (heap_alloc_new wr _) _ RJ (by omega) ?_)
      intro a2 c2 w2 O2 F2
      clear c1
      go_wp2
      go_roundw
      case rel => exact ⟨j + 1, a2, c2, by omega, by go_num, rfl, O2, F2⟩
      case measure => simp [intOf]; omega
    · obtain rfl : j = T.length := by omega
      have rr : RAt wr br G vs (.slice ap T.length cp) T fused left D.burn := R.out.turn (FJ.out.mono fun _ _ _ => trivial) (FJ.out.keep _ _ R.out.top trivial) rfl rfl R.out.fuse R.out.good
      have CC := Lib.hid (r_crash_at wr br G D.burn a T.length c (List.replicate T.length 64) _ _ T fused left rr OJ.out.ints)
      clear rr
      go_wp2_with fail
      (with_reducible refine CC.out.mono ?_)
      rintro e w3 ⟨rfl, ⟨vs3, r3⟩, f3⟩
      have R3 := Lib.hid r3
      have F3 := Lib.hid f3
      have q2 := cell_mk (i := 2) r3.top rfl
      have z2 := frozen_mk (i := 2) r3.top
      clear r3 f3 c1 CC
      go_wp2
      go_end0
      have hf : Fr (fun c _ => c ≠ br) w3 (w3.setCell ⟨br, 2, none⟩ (.bool fused)) := (Fr.refl _ _).setCell (fun _ _ h => h rfl) _
      have hs1 : w.heap.size ≤ w1.heap.size := F1.out.size
      have hs2 : w1.heap.size ≤ wr.heap.size := FJ.out.size
      have heq : layTorn (List.replicate T.length 64) D.burn.sure D.burn.pend = laySure D.sure D.pend := layTorn_all _ _ _ HGD.out.ok.u64 HGD.out.ok.p64 fun k hk => pick_all _ _ (by
        have e : D.burn.pend = T.map fun x => (x.1, x.2.2) := R.out.tr
        rw [e, List.length_map] at hk; exact hk)
      have hsr := R3.out.sure
      have hsr' : BytesAt (KR br fun c => G c ∨ wr.heap.size ≤ c) w3 vs3 (laySure D.sure D.pend).flatten := by
        rw [← heq]; exact hsr
      have htop := heap_setCell_same (o := 2) R3.out.top (.bool fused)
      refine ⟨rfl, ⟨vs3, .slice none 0 0, [], fused, left, ?_, ?_, World.ownsRow_nil _ _ _ _, (fun c e => by cases e), rfl, (fun x hx => by cases hx), .inl R.out.gb, R.out.fuse, HSG.out⟩, F1.out.trans (((FJ.out.mono fun _ _ _ => trivial : Fr (fun c _ => c ≠ br) w1 wr).trans F3.out).trans hf)⟩
      · have e : ({ D.burn with sure := laySure D.sure D.pend, pend := [] } : Dk).down = false := HDN.out
        rw [e]
        exact htop
      · exact (hsr'.fr (hf.mono fun _ _ h => h.2)).mono fun c o _ h => ⟨by
          rcases h.1 with h1 | h1
          · exact .inl h1
          · exact .inr (by omega), h.2⟩

/-- ref04.Sync. -/
theorem r_sync (w : World) (br : Nat) (G : Nat → Prop) (D : Dk) (h : Rdk w br G D) :
    Calls Tryd.prog 26 #[.pointer (some ⟨br, 0, none⟩)] w fun e w' => e = .returned (.tuple #[]) ∧ Rdk w' br (fun c => G c ∨ w.heap.size ≤ c) D.sync ∧ Fr (fun c _ => c ≠ br) w w' := by
  unfold Dk.sync
  cases hd : D.burn.down with
  | true =>
    rw [if_pos rfl]
    exact (r_sync_down w br G D h hd).mono fun e w' ⟨he, hr, hf⟩ => ⟨he, hr.mono fun _ => .inl, hf⟩
  | false =>
    rw [if_neg (by decide)]
    exact r_sync_main w br G D h hd
end Go.Proofs.YtcpbmempfeloaaaDoor
/- The reference of layer 5: Right, Last, Load. -/
namespace Go.Proofs.YtcpbmempfeloaaaDoor
open Go.RowKit
set_option linter.unusedVariables false

set_option maxRecDepth 100000 in
theorem r_right (w : World) (br : Nat) (G : Nat → Prop) (D : Dk) (i : Int) (h : Rdk w br G D) :
    Calls Tryd.prog 128 #[.pointer (some ⟨br, 0, none⟩), .int .i64 i] w fun e w' => e = .returned (.bool (D.right i)) ∧ w = w' := by
  have hl := r_len w br G D h
  have HL := Lib.hid hl
  have hm := h.gd.ok.max
  have h1 := h.gd.ok.one
  clear h hl
  by_cases h0 : 0 ≤ i
  · have e1 : D.right i = decide (i ≤ (D.sure.length : Int) - 2) := by unfold Dk.right; congr 1; simp; omega
    have E1 := Lib.hid e1
    clear e1
    go_enter Tryd.func128, Tryd.ntmps128
    go_wp2_with fail
    (with_reducible refine HL.out.mono ?_)
    rintro e w1 ⟨rfl, rfl⟩
    go_wp2
    go_ret
    exact ⟨by rw [E1.out]; rfl, rfl⟩
  · have e1 : D.right i = false := by simp [Dk.right, h0]
    have E1 := Lib.hid e1
    have d0 : decide (0 ≤ i) = false := by simp [h0]
    clear e1
    go_enter Tryd.func128, Tryd.ntmps128
    go_wp2
    go_ret
    exact ⟨by rw [E1.out]; rfl, rfl⟩

/-- A sector's record of the first epoch, by its number and bytes; none: number 0. -/
def secM (D : Dk) (i : Nat) : Nat × List UInt8 := match secRec D i with
  | some x => (x.2.1, x.2.2)
  | none => (0, [])
/-- What Last answers: the number, the bytes, where. -/
def lastM (D : Dk) (k : Nat) : Nat × List UInt8 × Nat := if (secM D k).1 < (secM D (k + 1)).1 then ((secM D (k + 1)).1, (secM D (k + 1)).2, k + 1) else ((secM D k).1, (secM D k).2, k)
theorem secM_zero {D : Dk} {i : Nat} (h : (secM D i).1 = 0) : (secM D i).2 = [] ∧ secRec D i = none := by
  unfold secM at h ⊢
  cases hs : secRec D i with
  | none => exact ⟨rfl, rfl⟩
  | some x =>
    rw [hs] at h
    obtain ⟨h1, _⟩ := secRec_some hs
    have := (parseP_pos h1).1
    have h' : x.2.1 = 0 := h
    omega
theorem secM_some {D : Dk} {i : Nat} {x : Nat × Nat × List UInt8} (h : secRec D i = some x) : secM D i = (x.2.1, x.2.2) ∧ x.1 = i ∧ 0 < x.2.1 := by
  obtain ⟨h1, h2⟩ := secRec_some h
  exact ⟨by unfold secM; rw [h], h2, (parseP_pos h1).1⟩
/-- Both ways to say it. -/
theorem lastM_rec (D : Dk) (k : Nat) : (lastM D k).1 = (lastRec D k).2.1 ∧ (lastM D k).2.1 = (lastRec D k).2.2 ∧ (0 < (lastM D k).1 → (lastM D k).2.2 = (lastRec D k).1) ∧ ((lastM D k).1 = 0 → (lastM D k).2.2 = k ∧ (lastRec D k).1 = k + 1) := by
  have hl : lastRec D k = lastOf (k + 1, 0, []) ((secRec D k).toList ++ (secRec D (k + 1)).toList) := by
    unfold lastRec
    rw [recsUpto_succ, recsUpto_succ]
    simp [recsUpto]
  rw [hl]
  cases h0 : secRec D k with
  | none =>
    have e0 : secM D k = (0, []) := by unfold secM; rw [h0]
    cases h1 : secRec D (k + 1) with
    | none =>
      have e1 : secM D (k + 1) = (0, []) := by unfold secM; rw [h1]
      simp [lastM, e0, e1, lastOf]
    | some y =>
      obtain ⟨e1, e2, e3⟩ := secM_some h1
      simp [lastM, e0, e1, lastOf, e3]
      first | exact ⟨fun h => e2.symm, fun h => by omega⟩ | exact ⟨e2.symm, fun h => by omega⟩ | exact ⟨fun h => e2.symm, by omega⟩ | exact ⟨e2.symm, by omega⟩
  | some x =>
    obtain ⟨e0, e2, e3⟩ := secM_some h0
    cases h1 : secRec D (k + 1) with
    | none =>
      have e1 : secM D (k + 1) = (0, []) := by unfold secM; rw [h1]
      simp [lastM, e0, e1, lastOf, e3]
      first | exact ⟨fun h => e2.symm, fun h => by omega⟩ | exact ⟨e2.symm, fun h => by omega⟩ | exact ⟨fun h => e2.symm, by omega⟩ | exact ⟨e2.symm, by omega⟩
    | some y =>
      obtain ⟨e1, f2, f3⟩ := secM_some h1
      by_cases hc : x.2.1 < y.2.1
      · simp [lastM, e0, e1, lastOf, e3, hc]
        first | exact ⟨fun h => f2.symm, fun h => by omega⟩ | exact ⟨f2.symm, fun h => by omega⟩
      · simp [lastM, e0, e1, lastOf, e3, hc]
        first | exact ⟨fun h => e2.symm, fun h => by omega⟩ | exact ⟨e2.symm, fun h => by omega⟩ | exact ⟨fun h => e2.symm, by omega⟩ | exact ⟨e2.symm, by omega⟩

theorem secRec_parse (D : Dk) (i : Nat) (h : i < D.seen.length) : (parseP (D.seen.getD i []) = none → secM D i = (0, [])) ∧ ∀ s p b, parseP (D.seen.getD i []) = some (s, p, b) → secM D i = if p = 0 then (s, b) else (0, []) := by
  refine ⟨fun hn => ?_, fun s p b hn => ?_⟩
  · unfold secM secRec; rw [hn]
  · unfold secM secRec; rw [hn]
    cases p with
    | zero => rfl
    | succ p => rfl
theorem read_in_eq {D : Dk} (h : D.ok) {k : Nat} {z : Int} (hz : z = k) (hk : k < D.sure.length) : readM D z = (D.seen.getD k [], 0) := by
  subst hz
  unfold readM
  rw [if_pos (by omega)]
  rfl

/-- ref05.Parse behind Last's question of the epoch. -/
theorem parse05_any {K : Nat → Obj → Prop} (w : World) (v : Value) (bs : List UInt8) (hb : BytesAt K w v bs) :
    Calls Tryd.prog 66 #[v] w fun e w' => (∃ s p b a cap, e = .returned (.agg #[.int .u32 (s : Nat), .int .u32 (p : Nat), .slice a b.length cap]) ∧ s < 4294967296 ∧ Hid (b.length ≤ 43) ∧ Hid (BytesAt K w' (.slice a b.length cap) b) ∧ Hid ((parseP bs = none ∧ s = 0 ∧ p = 0 ∧ b = []) ∨ parseP bs = some (s, p, b))) ∧ Fr (fun _ _ => True) w w' := by
  refine (parse05_calls w v bs hb).mono fun e w' ⟨h, hf⟩ => ⟨?_, hf⟩
  rcases h with ⟨hn, he⟩ | ⟨s, p, b, a, cap, hn, he, hb⟩
  · exact ⟨0, 0, [], none, 0, he, by decide, Nat.zero_le _, BytesAt.nil _ _, .inl ⟨hn, rfl, rfl, rfl⟩⟩
  · obtain ⟨_, h1, _, h2⟩ := parseP_pos hn
    exact ⟨s, p, b, a, cap, he, h1, h2, hb, .inr hn⟩
theorem sec_of {D : Dk} {i s p : Nat} {b : List UInt8} (h : (parseP (D.seen.getD i []) = none ∧ s = 0 ∧ p = 0 ∧ b = []) ∨ parseP (D.seen.getD i []) = some (s, p, b)) : secM D i = if p = 0 then (s, b) else (0, []) := by
  rcases h with ⟨h, rfl, rfl, rfl⟩ | h
  · unfold secM secRec; rw [h]; rfl
  · unfold secM secRec; rw [h]
    cases p with
    | zero => rfl
    | succ p => rfl
end Go.Proofs.YtcpbmempfeloaaaDoor
/- The reference of layer 5: Last. -/
namespace Go.Proofs.YtcpbmempfeloaaaDoor
open Go.RowKit
set_option linter.unusedVariables false

set_option maxRecDepth 100000 in
set_option maxHeartbeats 4000000 in
theorem r_last (w : World) (br : Nat) (G : Nat → Prop) (D : Dk) (k : Nat) (z : Int) (hz : z = k) (h : Rdk w br G D) (hk : k + 1 < D.sure.length) (ls : Nat) (lb : List UInt8) (lw : Nat) (hlm : lastM D k = (ls, lb, lw)) :
    Calls Tryd.prog 62 #[.pointer (some ⟨br, 0, none⟩), .int .i64 z] w fun e w' => (∃ a cap, e = .returned (.tuple #[.agg #[.int .u32 (ls : Nat), .int .u32 0, .slice a lb.length cap], .int .i64 (lw : Nat)]) ∧ BytesAt (KR br G) w' (.slice a lb.length cap) lb) ∧ Fr (fun _ _ => True) w w' := by
  subst hz
  have hmax := h.gd.ok.max
  have hok := h.gd.ok
  have hk0 : k < D.sure.length := by omega
  have e0 := read_in_eq hok (z := (k : Int)) rfl hk0
  have e1 := read_in_eq hok (k := k + 1) (z := (k : Int) + 1) (by omega) hk
  obtain ⟨x0, hx0⟩ : ∃ x0, D.seen.getD k [] = x0 := ⟨_, rfl⟩
  obtain ⟨x1, hx1⟩ : ∃ x1, D.seen.getD (k + 1) [] = x1 := ⟨_, rfl⟩
  rw [hx0] at e0
  rw [hx1] at e1
  have HX0 := Lib.hid hx0
  have HX1 := Lib.hid hx1
  clear hx0 hx1
  have hW1 : ∃ W1, w.alloc (.cells #[.int .u32 0, .int .u32 0, .slice none 0 0] 116) = W1 := ⟨_, rfl⟩
  obtain ⟨W1, hW1⟩ := hW1
  have f1 : Fr (fun _ _ => True) w W1 := by rw [← hW1]; exact (Fr.refl _ _).alloc _
  have s1 : w.heap.size < W1.heap.size := by rw [← hW1]; simp
  have top := Lib.hid (show W1.heap[w.heap.size]? = some (.cells #[.int .u32 0, .int .u32 0, .slice none 0 0] 116 (0, 0)) by rw [← hW1]; exact heap_alloc_new _ _)
  have hin := h.inside
  have A0 := Lib.hid (r_read W1 br _ D _ (hin.tt f1) _ _ e0)
  have A1 := Lib.hid (r_read W1 br _ D _ (hin.tt f1) _ _ e1)
  have F1 := Lib.hid f1
  have HLM := Lib.hid hlm
  clear h hin f1 e0 e1 hok hlm
  go_enter Tryd.func62, Tryd.ntmps62
  go_wp2_with fail
  clear hW1
  (with_reducible refine A0.out.mono ?_)
  rintro e w2 ⟨⟨a0, c0, rfl, b0⟩, rfl⟩
  have B0 := Lib.hid b0
  clear b0
  go_wp2_with fail
  (with_reducible refine A1.out.mono ?_)
  rintro e w2 ⟨⟨a1, c1, rfl, b1⟩, rfl⟩
  have B1 := Lib.hid b1
  clear b1 A0 A1
  go_wp2_with fail
  (with_reducible refine (parse05_any _ _ _ B0.out).mono ?_)
  rintro e w2 ⟨⟨s1', p1, y1, a2, c2, rfl, hs1, HL1, X1, HY1⟩, f2⟩
  have hW3 : ∃ W3, w2.alloc (.cells #[.int .u32 (s1' : Nat), .int .u32 (p1 : Nat), .slice a2 y1.length c2] 116) = W3 := ⟨_, rfl⟩
  obtain ⟨W3, hW3⟩ := hW3
  have f3 : Fr (fun _ _ => True) w2 W3 := by rw [← hW3]; exact (Fr.refl _ _).alloc _
  have sz3 : w2.heap.size < W3.heap.size := by rw [← hW3]; simp
  have sz2 : W1.heap.size ≤ w2.heap.size := f2.size
  have top3 := Lib.hid (show W3.heap[w2.heap.size]? = some (.cells #[.int .u32 (s1' : Nat), .int .u32 (p1 : Nat), .slice a2 y1.length c2] 116 (0, 0)) by rw [← hW3]; exact heap_alloc_new _ _)
  have F3 := Lib.hid (F1.out.tt (f2.tt f3))
  have T3 := Lib.hid ((f2.tt f3).keep _ _ top.out trivial)
  have B1' := Lib.hid (B1.out.tt (f2.tt f3))
  have X1' := Lib.hid (X1.out.tt f3)
  clear f2 f3 B0 B1 X1
  go_wp2_with fail
  clear hW3
  (with_reducible refine (parse05_any _ _ _ B1'.out).mono ?_)
  rintro e w4 ⟨⟨s2', p2, y2, a4, c4, rfl, hs2, HL2, X2, HY2⟩, f4⟩
  have hW5 : ∃ W5, w4.alloc (.cells #[.int .u32 (s2' : Nat), .int .u32 (p2 : Nat), .slice a4 y2.length c4] 116) = W5 := ⟨_, rfl⟩
  obtain ⟨W5, hW5⟩ := hW5
  have f5 : Fr (fun _ _ => True) w4 W5 := by rw [← hW5]; exact (Fr.refl _ _).alloc _
  have sz5 : w4.heap.size < W5.heap.size := by rw [← hW5]; simp
  have sz4 : W3.heap.size ≤ w4.heap.size := f4.size
  have top5 := Lib.hid (show W5.heap[w4.heap.size]? = some (.cells #[.int .u32 (s2' : Nat), .int .u32 (p2 : Nat), .slice a4 y2.length c4] 116 (0, 0)) by rw [← hW5]; exact heap_alloc_new _ _)
  have F5 := Lib.hid (F3.out.tt (f4.tt f5))
  have TR := Lib.hid ((f4.tt f5).keep _ _ T3.out trivial)
  have TA := Lib.hid ((f4.tt f5).keep _ _ top3.out trivial)
  have Y1 := Lib.hid (X1'.out.tt (f4.tt f5))
  have Y2 := Lib.hid (X2.out.tt f5)
  clear f4 f5 B1' X1' X2 T3 top top3
  have M1 := Lib.hid (sec_of (D := D) (i := k) (by rw [HX0.out]; exact HY1.out))
  have M2 := Lib.hid (sec_of (D := D) (i := k + 1) (by rw [HX1.out]; exact HY2.out))
  clear HY1 HY2
  have ra0 := cell_mk (i := 0) TA.out rfl
  have ra1 := cell_mk (i := 1) TA.out rfl
  have ra2 := cell_mk (i := 2) TA.out rfl
  have rb0 := cell_mk (i := 0) top5.out rfl
  have rb1 := cell_mk (i := 1) top5.out rfl
  have rb2 := cell_mk (i := 2) top5.out rfl
  have rr0 := cell_mk (i := 0) TR.out rfl
  have rr1 := cell_mk (i := 1) TR.out rfl
  have rr2 := cell_mk (i := 2) TR.out rfl
  have za0 := frozen_mk (i := 0) TA.out
  have za1 := frozen_mk (i := 1) TA.out
  have za2 := frozen_mk (i := 2) TA.out
  have zb0 := frozen_mk (i := 0) top5.out
  have zb1 := frozen_mk (i := 1) top5.out
  have zb2 := frozen_mk (i := 2) top5.out
  have zr0 := frozen_mk (i := 0) TR.out
  have zr1 := frozen_mk (i := 1) TR.out
  have zr2 := frozen_mk (i := 2) TR.out
  have n1 : ¬ w2.heap.size = w4.heap.size := by omega
  have n2 : ¬ w4.heap.size = w2.heap.size := by omega
  have n3 : ¬ w.heap.size = w2.heap.size := by omega
  have n4 : ¬ w2.heap.size = w.heap.size := by omega
  have n5 : ¬ w.heap.size = w4.heap.size := by omega
  have n6 : ¬ w4.heap.size = w.heap.size := by omega
  have fin : ∀ Wf, Fr (fun c _ => c < w.heap.size) W5 Wf → Fr (fun _ _ => True) w Wf ∧ ∀ v b, BytesAt (KR br fun c => G c ∧ c < w.heap.size) W5 v b → BytesAt (KR br G) Wf v b := fun Wf hf =>
    ⟨Fr.within ((F5.out.mono fun _ _ _ => trivial : Fr (fun c _ => True ∧ c < w.heap.size) w W5).trans (hf.mono fun _ _ h => h.2)), fun v b hb => (hb.fr (hf.mono fun _ _ h => h.1.2)).mono fun _ _ _ h => ⟨h.1.1, h.2⟩⟩
  have FIN := Lib.hid fin
  have LMD : Hid ((if (secM D k).1 < (secM D (k + 1)).1 then ((secM D (k + 1)).1, (secM D (k + 1)).2, k + 1) else ((secM D k).1, (secM D k).2, k)) = (ls, lb, lw)) := HLM.out
  clear fin HLM
  have hkI : (k : Int) ≤ 600 := by omega
  have HA : Hid (w2.heap.size < w.heap.size → False) := fun h => by omega
  have HBB : Hid (w4.heap.size < w.heap.size → False) := fun h => by omega
  by_cases hp1 : p1 = 0
  · have dp1 : ((p1 : Int) != 0) = false := by simp; omega
    have HP1 := Lib.hid hp1
    clear hp1
    by_cases hp2 : p2 = 0
    · have dp2 : ((p2 : Int) != 0) = false := by simp; omega
      have HP2 := Lib.hid hp2
      clear hp2
      have MA : Hid (secM D k = (s1', y1)) := by rw [M1.out]; rw [if_pos HP1.out]; rfl
      have MB : Hid (secM D (k + 1) = (s2', y2)) := by rw [M2.out]; rw [if_pos HP2.out]; rfl
      by_cases hlt : s1' < s2'
      · have hI : (s1' : Int) < s2' := by omega
        have HLT : Hid (s1' < s2') := hlt
        clear hlt
        have EQ : Hid ((s2', y2, k + 1) = (ls, lb, lw)) := by
          have := LMD.out
          rw [MA.out, MB.out] at this
          rw [if_pos HLT.out] at this
          exact this
        go_wp2
        have eq := EQ.out
        simp only [Prod.mk.injEq] at eq
        obtain ⟨rfl, rfl, rfl⟩ := eq
        obtain ⟨g1, g2⟩ := FIN.out _ ((((Fr.refl (fun c _ => c < w.heap.size) W5).setCell (p := ⟨w.heap.size, 0, none⟩) (fun _ _ h => Nat.lt_irrefl _ h) _).setCell (p := ⟨w.heap.size, 1, none⟩) (fun _ _ h => Nat.lt_irrefl _ h) _).setCell (p := ⟨w.heap.size, 2, none⟩) (fun _ _ h => Nat.lt_irrefl _ h) _)
        exact bodyPost_ret (v := .tuple #[.agg #[.int .u32 (s2' : Nat), .int .u32 (p2 : Nat), .slice a4 y2.length c4], .int .i64 ((k : Int) + 1)]) (by simp [results, Tryd.results62, go_sem, rr0, rr1, rr2, n3, n4, n5, n6]) rfl ⟨⟨a4, c4, by rw [HP2.out]; rfl, g2 _ _ Y2.out⟩, g1⟩
      · have hI : (s2' : Int) ≤ s1' := by omega
        have HLT : Hid (¬ s1' < s2') := hlt
        clear hlt
        have EQ : Hid ((s1', y1, k) = (ls, lb, lw)) := by
          have := LMD.out
          rw [MA.out, MB.out] at this
          rw [if_neg HLT.out] at this
          exact this
        go_wp2
        have eq := EQ.out
        simp only [Prod.mk.injEq] at eq
        obtain ⟨rfl, rfl, rfl⟩ := eq
        obtain ⟨g1, g2⟩ := FIN.out _ ((((Fr.refl (fun c _ => c < w.heap.size) W5).setCell (p := ⟨w.heap.size, 0, none⟩) (fun _ _ h => Nat.lt_irrefl _ h) _).setCell (p := ⟨w.heap.size, 1, none⟩) (fun _ _ h => Nat.lt_irrefl _ h) _).setCell (p := ⟨w.heap.size, 2, none⟩) (fun _ _ h => Nat.lt_irrefl _ h) _)
        exact bodyPost_ret (v := .tuple #[.agg #[.int .u32 (s1' : Nat), .int .u32 (p1 : Nat), .slice a2 y1.length c2], .int .i64 (k : Nat)]) (by simp [results, Tryd.results62, go_sem, rr0, rr1, rr2, n3, n4, n5, n6]) rfl ⟨⟨a2, c2, by rw [HP1.out]; rfl, g2 _ _ Y1.out⟩, g1⟩
    · have dp2 : ((p2 : Int) != 0) = true := by simp; omega
      have HP2 := Lib.hid hp2
      clear hp2
      have MA : Hid (secM D k = (s1', y1)) := by rw [M1.out]; rw [if_pos HP1.out]; rfl
      have MB : Hid (secM D (k + 1) = (0, [])) := by rw [M2.out]; rw [if_neg HP2.out]; rfl
      have HLT : Hid (¬ (s1' : Nat) < 0) := Nat.not_lt_zero _
      have EQ : Hid ((s1', y1, k) = (ls, lb, lw)) := by
        have := LMD.out
        rw [MA.out, MB.out] at this
        rw [if_neg HLT.out] at this
        exact this
      go_wp2
      have eq := EQ.out
      simp only [Prod.mk.injEq] at eq
      obtain ⟨rfl, rfl, rfl⟩ := eq
      obtain ⟨g1, g2⟩ := FIN.out _ (((((((Fr.refl (fun c _ => c < w.heap.size) W5).setCell (p := ⟨w4.heap.size, 0, none⟩) (fun _ _ h => HBB.out h) _).setCell (p := ⟨w4.heap.size, 1, none⟩) (fun _ _ h => HBB.out h) _).setCell (p := ⟨w4.heap.size, 2, none⟩) (fun _ _ h => HBB.out h) _).setCell (p := ⟨w.heap.size, 0, none⟩) (fun _ _ h => Nat.lt_irrefl _ h) _).setCell (p := ⟨w.heap.size, 1, none⟩) (fun _ _ h => Nat.lt_irrefl _ h) _).setCell (p := ⟨w.heap.size, 2, none⟩) (fun _ _ h => Nat.lt_irrefl _ h) _)
      exact bodyPost_ret (v := .tuple #[.agg #[.int .u32 (s1' : Nat), .int .u32 (p1 : Nat), .slice a2 y1.length c2], .int .i64 (k : Nat)]) (by simp [results, Tryd.results62, go_sem, rr0, rr1, rr2, n3, n4, n5, n6]) rfl ⟨⟨a2, c2, by rw [HP1.out]; rfl, g2 _ _ Y1.out⟩, g1⟩
  · have dp1 : ((p1 : Int) != 0) = true := by simp; omega
    have HP1 := Lib.hid hp1
    clear hp1
    by_cases hp2 : p2 = 0
    · have dp2 : ((p2 : Int) != 0) = false := by simp; omega
      have HP2 := Lib.hid hp2
      clear hp2
      have MA : Hid (secM D k = (0, [])) := by rw [M1.out]; rw [if_neg HP1.out]; rfl
      have MB : Hid (secM D (k + 1) = (s2', y2)) := by rw [M2.out]; rw [if_pos HP2.out]; rfl
      by_cases hlt : 0 < s2'
      · have hI : (0 : Int) < s2' := by omega
        have HLT : Hid (0 < s2') := hlt
        clear hlt
        have EQ : Hid ((s2', y2, k + 1) = (ls, lb, lw)) := by
          have := LMD.out
          rw [MA.out, MB.out] at this
          rw [if_pos HLT.out] at this
          exact this
        go_wp2
        have eq := EQ.out
        simp only [Prod.mk.injEq] at eq
        obtain ⟨rfl, rfl, rfl⟩ := eq
        obtain ⟨g1, g2⟩ := FIN.out _ (((((((Fr.refl (fun c _ => c < w.heap.size) W5).setCell (p := ⟨w2.heap.size, 0, none⟩) (fun _ _ h => HA.out h) _).setCell (p := ⟨w2.heap.size, 1, none⟩) (fun _ _ h => HA.out h) _).setCell (p := ⟨w2.heap.size, 2, none⟩) (fun _ _ h => HA.out h) _).setCell (p := ⟨w.heap.size, 0, none⟩) (fun _ _ h => Nat.lt_irrefl _ h) _).setCell (p := ⟨w.heap.size, 1, none⟩) (fun _ _ h => Nat.lt_irrefl _ h) _).setCell (p := ⟨w.heap.size, 2, none⟩) (fun _ _ h => Nat.lt_irrefl _ h) _)
        exact bodyPost_ret (v := .tuple #[.agg #[.int .u32 (s2' : Nat), .int .u32 (p2 : Nat), .slice a4 y2.length c4], .int .i64 ((k : Int) + 1)]) (by simp [results, Tryd.results62, go_sem, rr0, rr1, rr2, n3, n4, n5, n6]) rfl ⟨⟨a4, c4, by rw [HP2.out]; rfl, g2 _ _ Y2.out⟩, g1⟩
      · have h0 : (s2' : Int) ≤ 0 := by omega
        have HLT : Hid (¬ 0 < s2') := hlt
        clear hlt
        have EQ : Hid ((0, [], k) = (ls, lb, lw)) := by
          have := LMD.out
          rw [MA.out, MB.out] at this
          rw [if_neg HLT.out] at this
          exact this
        go_wp2
        have eq := EQ.out
        simp only [Prod.mk.injEq] at eq
        obtain ⟨rfl, rfl, rfl⟩ := eq
        obtain ⟨g1, g2⟩ := FIN.out _ (((((((Fr.refl (fun c _ => c < w.heap.size) W5).setCell (p := ⟨w2.heap.size, 0, none⟩) (fun _ _ h => HA.out h) _).setCell (p := ⟨w2.heap.size, 1, none⟩) (fun _ _ h => HA.out h) _).setCell (p := ⟨w2.heap.size, 2, none⟩) (fun _ _ h => HA.out h) _).setCell (p := ⟨w.heap.size, 0, none⟩) (fun _ _ h => Nat.lt_irrefl _ h) _).setCell (p := ⟨w.heap.size, 1, none⟩) (fun _ _ h => Nat.lt_irrefl _ h) _).setCell (p := ⟨w.heap.size, 2, none⟩) (fun _ _ h => Nat.lt_irrefl _ h) _)
        exact bodyPost_ret (v := .tuple #[.agg #[.int .u32 0, .int .u32 0, .slice none 0 0], .int .i64 (k : Nat)]) (by simp [results, Tryd.results62, go_sem, rr0, rr1, rr2, n3, n4, n5, n6]) rfl ⟨⟨none, 0, rfl, BytesAt.nil _ _⟩, g1⟩
    · have dp2 : ((p2 : Int) != 0) = true := by simp; omega
      have HP2 := Lib.hid hp2
      clear hp2
      have MA : Hid (secM D k = (0, [])) := by rw [M1.out]; rw [if_neg HP1.out]; rfl
      have MB : Hid (secM D (k + 1) = (0, [])) := by rw [M2.out]; rw [if_neg HP2.out]; rfl
      have HLT : Hid (¬ (0 : Nat) < 0) := Nat.not_lt_zero _
      have EQ : Hid ((0, [], k) = (ls, lb, lw)) := by
        have := LMD.out
        rw [MA.out, MB.out] at this
        rw [if_neg HLT.out] at this
        exact this
      go_wp2
      have eq := EQ.out
      simp only [Prod.mk.injEq] at eq
      obtain ⟨rfl, rfl, rfl⟩ := eq
      obtain ⟨g1, g2⟩ := FIN.out _ ((((((((((Fr.refl (fun c _ => c < w.heap.size) W5).setCell (p := ⟨w2.heap.size, 0, none⟩) (fun _ _ h => HA.out h) _).setCell (p := ⟨w2.heap.size, 1, none⟩) (fun _ _ h => HA.out h) _).setCell (p := ⟨w2.heap.size, 2, none⟩) (fun _ _ h => HA.out h) _).setCell (p := ⟨w4.heap.size, 0, none⟩) (fun _ _ h => HBB.out h) _).setCell (p := ⟨w4.heap.size, 1, none⟩) (fun _ _ h => HBB.out h) _).setCell (p := ⟨w4.heap.size, 2, none⟩) (fun _ _ h => HBB.out h) _).setCell (p := ⟨w.heap.size, 0, none⟩) (fun _ _ h => Nat.lt_irrefl _ h) _).setCell (p := ⟨w.heap.size, 1, none⟩) (fun _ _ h => Nat.lt_irrefl _ h) _).setCell (p := ⟨w.heap.size, 2, none⟩) (fun _ _ h => Nat.lt_irrefl _ h) _)
      exact bodyPost_ret (v := .tuple #[.agg #[.int .u32 0, .int .u32 0, .slice none 0 0], .int .i64 (k : Nat)]) (by simp [results, Tryd.results62, go_sem, rr0, rr1, rr2, n3, n4, n5, n6]) rfl ⟨⟨none, 0, rfl, BytesAt.nil _ _⟩, g1⟩
end Go.Proofs.YtcpbmempfeloaaaDoor
