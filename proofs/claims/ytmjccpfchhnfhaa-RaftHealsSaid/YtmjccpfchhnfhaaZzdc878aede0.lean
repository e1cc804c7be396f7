/- Texts of the proofs, part 42: what the functions that they reach do, walked; no conditions beyond those that each states. -/
import Derived.Test.YtmjccpfchhnfhaaZz2778456d06
set_option linter.unusedVariables false
set_option linter.unusedSimpArgs false
/- Law 13: calls of a group's functions, by what the group is; rest. -/
namespace Go.Proofs.Ytmjccpfchhnfhaa
open Go.RowKit
set_option linter.unusedVariables false
set_option linter.unusedSimpArgs false
theorem Gs.arrive_len (s : Gs) (k : Nat) : s.ms.length ≤ (s.arrive k).ms.length := by
 unfold Gs.arrive
 dsimp only
 split
 ·exact Nat.le_refl _
 ·unfold Gs.send
  split
  ·dsimp only; rw [List.length_append]; omega
  ·exact Nat.le_refl _
section
variable {B : Nat} {w w' : World} {G : Nat} {s : Gs}
theorem Gr13.arrive [Old] [NoOld] (h : Gr13 B w G s) {Bd : Nat} (hj : GJ Bd s) (hb : Bd ≤ 80000) (k : Nat) (hk : k < s.ms.length) : Calls Try.prog 28 #[.pointer (some ⟨G, 0, none⟩), .int .i64 (k : Nat)] w fun e w' => GOut B w G (s.arrive k) e w' := by
 obtain ⟨X, l, ms, tk, many, vn, vm, vt, h, rfl⟩ := h
 have e1 : (St l ms tk many).ns.length = l.length := List.length_map _
 have e2 : (St l ms tk many).ms.length = ms.length := List.length_map _
 exact arrive_calls h k (by omega) (by have := hj.n0; omega) (by have := hj.n5; omega) Bd hb hj.gi NoOld.no
theorem GrL.arrive [Old] [NoOld] {L : List (Nat × Nat)} (h : GrL B w G L s) {Bd : Nat} (hj : GJ Bd s) (hb : Bd ≤ 80000) (k : Nat) (hk : k < s.ms.length) : Calls Try.prog 28 #[.pointer (some ⟨G, 0, none⟩), .int .i64 (k : Nat)] w fun e w' => GOutL B w G L (s.arrive k) e w' := by
 obtain ⟨X, l, ms, tk, many, vn, vm, vt, h, rfl, rfl⟩ := h
 have e1 : (St l ms tk many).ns.length = l.length := List.length_map _
 have e2 : (St l ms tk many).ms.length = ms.length := List.length_map _
 exact arriveL_calls h k (by omega) (by have := hj.n0; omega) (by have := hj.n5; omega) Bd hb hj.gi NoOld.no
theorem tk_le {l : List Rx} {ms : List MV} {tk : List (Value × Nat)} {many : Int} {Bd : Nat} (hj : GJ Bd (St l ms tk many)) : ∀ x ∈ tk, x.2 ≤ Bd := fun x hx => by
 obtain ⟨i, hi, rfl⟩ := List.mem_iff_getElem.1 hx
 have h1 := hj.tk i
 have ht : (St l ms tk many).tl.getD i 0 = tk[i].2 := by
  show (tk.map Prod.snd).getD i 0 = _
  rw [List.getD_eq_getElem?_getD, List.getElem?_map, List.getElem?_eq_getElem hi]; rfl
 have hlt : (St l ms tk many).tl.length = tk.length := List.length_map _
 have ha : (St l ms tk many).aps.getD i 0 ≤ Bd := hj.gi.ap _ (GJ.getD_mem (by rw [hj.la, ← hj.lt, hlt]; exact hi))
 omega
theorem Gr13.play [Old] [NoOld] (h : Gr13 B w G s) {Bd : Nat} (hj : GJ Bd s) (hb : Bd ≤ 80000) (d k : Int) : Calls Try.prog 10 #[.pointer (some ⟨G, 0, none⟩), .agg #[.int .i64 d, .int .i64 k]] w fun e w' => GOut B w G (s.play d k) e w' := by
 obtain ⟨X, l, ms, tk, many, vn, vm, vt, h, rfl⟩ := h
 have e1 : (St l ms tk many).ns.length = l.length := List.length_map _
 have hm : 0 ≤ many ∧ many ≤ (Bd : Int) := hj.mn
 exact play_calls h d k (by have := hj.n0; omega) (by have := hj.n5; omega) Bd hb hj.gi ⟨hm.1, by omega⟩ fun x hx => by have := tk_le hj x hx; omega
theorem Gr13.take [Old] [NoOld] (h : Gr13 B w G s) {Bd : Nat} (hj : GJ Bd s) (hb : Bd ≤ 80000) (i : Nat) (hi : i < s.ns.length) : Calls Try.prog 17 #[.pointer (some ⟨G, 0, none⟩), .int .i64 (i : Nat)] w fun e w' => GOut B w G (s.take i) e w' := by
 obtain ⟨X, l, ms, tk, many, vn, vm, vt, h, rfl⟩ := h
 have e1 : (St l ms tk many).ns.length = l.length := List.length_map _
 have hil : i < l.length := by omega
 have hg : Gw Bd Bd l[i].n := hj.gi.nd _ (List.mem_map.2 ⟨l[i], List.getElem_mem hil, rfl⟩)
 have ha : l[i].ap ≤ Bd := hj.gi.ap _ (List.mem_map.2 ⟨l[i], List.getElem_mem hil, rfl⟩)
 have hc := hg.bn.commit
 have hl := hg.bn.last
 exact take_calls h i hil (by omega) (by omega) (by unfold Lg.last at hl; omega) (by omega) (fun x hx => by have := tk_le hj x hx; omega) (by have := hj.n5; omega)
theorem Gr13.mlen [Old] (h : Gr13 B w G s) : ∃ g cm, w.cell? ⟨G, 1, none⟩ = some (.slice g s.ms.length cm) := by
 obtain ⟨X, l, ms, tk, many, vn, vm, vt, h, rfl⟩ := h
 obtain ⟨g, c, e⟩ := ownsRow_form h.rm.row
 refine ⟨g, c, ?_⟩
 rw [(h.gcells (Fr.refl _ w)).2.1, e]
 show _ = some (Value.slice g (ms.map MV.ms).length c)
 rw [List.length_map]
theorem GOut.gr [Old] {e : Ending} (h : GOut B w G s e w') : e = .returned (.tuple #[]) ∧ Gr13 B w' G s ∧ Fr (fun c _ => c < B) w w' := h
set_option maxRecDepth 100000 in
set_option maxHeartbeats 8000000 in
theorem GrL.rest [Old] [NoOld] {L : List (Nat × Nat)} (h : GrL B w G L s) {Bd : Nat} (hj : GJ Bd s) (hb : Bd ≤ 72000) (k : Nat) (hk : k ≤ s.ms.length) : Calls Try.prog 15 #[.pointer (some ⟨G, 0, none⟩), .int .i64 (k : Nat)] w fun e w' => e = .returned (.bool (Gs.rest 2501 s k).2) ∧ GrL B w' G L (Gs.rest 2501 s k).1 ∧ Fr (fun c _ => c < B) w w' := by
 have H := Lib.hid h
 have HJ := Lib.hid hj
 have HL : Hid (s.ms.length ≤ 5000) := hj.gi.ln
 have hk5 : k ≤ 5000 := by have := HL.out; omega
 have FR : Hid (Fr (fun c _ => c < B) w w) := Fr.refl _ _
 obtain ⟨R, hR⟩ : ∃ x, Gs.rest 2501 s k = x := ⟨_, rfl⟩
 have HR := Lib.hid hR
 have HK := Lib.hid hk
 rw [hR]
 clear h hj hR hk
 go_enter Try.func15, Try.ntmps15
 go_wp2
 go_loopw [5] (fun i wr => ∃ (j fu : Nat) (s1 : Gs), i = .int .i64 (j : Nat) ∧ k ≤ j ∧ j + fu = k + 2501 ∧ Hid (j ≤ s1.ms.length) ∧ Hid (GrL B wr G L s1) ∧ Hid (GJ (Bd + 3 * (j - k)) s1) ∧ Hid (Gs.rest fu s1 j = R) ∧ Hid (Fr (fun c _ => c < B) w wr)) (fun i _ => k + 2501 - (intOf i).toNat)
 case atStart => exact ⟨k, 2501, s, rfl, Nat.le_refl _, rfl, HK.out, H.out, by rw [Nat.sub_self]; exact HJ.out, HR.out, Fr.refl _ _⟩
 case round =>
  obtain ⟨j, fu, s1, rfl, hkj, hjf, HK1, H1, HJ1, HR1, HF1⟩ := hrel
  obtain ⟨gm, cm, y0⟩ := H1.out.gr.mlen
  obtain ⟨n, hn⟩ : ∃ x, s1.ms.length = x := ⟨_, rfl⟩
  have hn5 : n ≤ 5000 := by have := HJ1.out.gi.ln; omega
  rw [hn] at y0
  have HN := Lib.hid hn
  by_cases hlt : j < n
  ·have hltI : (j : Int) < (n : Int) := by omega
   by_cases hfu : fu = 0
   ·have hgt : (k : Int) + 2500 < (j : Int) := by omega
    have hE : Hid (R = (s1, false)) := by
     show R = _
     rw [← HR1.out, hfu]
     unfold Gs.rest
     rw [decide_eq_false (by have := HN.out; omega)]
    clear hn
    go_wp2
    go_ret
    exact ⟨by rw [hE.out]; rfl, by rw [hE.out]; exact H1.out, HF1.out⟩
   ·obtain ⟨f2, hf2⟩ : ∃ x, fu = x + 1 := ⟨fu - 1, by omega⟩
    have hgt : ¬ ((k : Int) + 2500 < (j : Int)) := by omega
    have AC := Lib.hid (H1.out.arrive HJ1.out (by omega) j (by have := HN.out; omega))
    have HR2 : Hid (Gs.rest f2 (s1.arrive j) (j + 1) = R) := by
     show _ = _
     rw [← HR1.out, hf2]
     conv => rhs; unfold Gs.rest
     rw [if_neg (by have := HN.out; omega)]
    have HJ2 : Hid (GJ (Bd + 3 * (j + 1 - k)) (s1.arrive j)) := (HJ1.out.arrive j (by have := HN.out; omega)).mono (by omega)
    have HK2 : Hid (j + 1 ≤ (s1.arrive j).ms.length) := by have := Gs.arrive_len s1 j; have := HN.out; show _ ≤ _; omega
    clear hn
    go_wp2_with fail
    (with_reducible refine AC.out.mono ?_)
    rintro e W2 ⟨rfl, G2, F2⟩
    have G2 := Lib.hid G2
    have F2 := Lib.hid (HF1.trans F2)
    clear AC
    go_wp2
    go_roundw
    case rel => exact ⟨j + 1, f2, s1.arrive j, by go_num, by omega, by omega, HK2.out, G2.out, HJ2.out, HR2.out, F2.out⟩
    case measure => simp [intOf]; omega
  ·have hge : ¬ ((j : Int) < (n : Int)) := by omega
   have hE : Hid (R = (s1, true)) := by
    show R = _
    rw [← HR1.out]
    have hl : s1.ms.length ≤ j := by have := HN.out; omega
    cases fu with
    | zero => unfold Gs.rest; rw [decide_eq_true hl]
    | succ f => unfold Gs.rest; rw [if_pos hl]
   clear hn
   go_wp2
   go_ret
   exact ⟨by rw [hE.out]; rfl, by rw [hE.out]; exact H1.out, HF1.out⟩
theorem Gr13.rest [Old] [NoOld] (h : Gr13 B w G s) {Bd : Nat} (hj : GJ Bd s) (hb : Bd ≤ 72000) (k : Nat) (hk : k ≤ s.ms.length) : Calls Try.prog 15 #[.pointer (some ⟨G, 0, none⟩), .int .i64 (k : Nat)] w fun e w' => e = .returned (.bool (Gs.rest 2501 s k).2) ∧ Gr13 B w' G (Gs.rest 2501 s k).1 ∧ Fr (fun c _ => c < B) w w' := by
 obtain ⟨X, l, ms, tk, many, vn, vm, vt, h1, h2⟩ := h
 have hL : GrL B w G (l.map Rx.ids) s := ⟨X, l, ms, tk, many, vn, vm, vt, h1, h2, rfl⟩
 exact (hL.rest hj hb k hk).mono fun e w' q => ⟨q.1, q.2.1.gr, q.2.2⟩
end
end Go.Proofs.Ytmjccpfchhnfhaa
/- Law 13: the chapter's examples, plainly. -/
namespace Go.Proofs.Ytmjccpfchhnfhaa
open Go.RowKit
set_option linter.unusedVariables false
set_option linter.unusedSimpArgs false
def srtX (l : List Int) : List Int := if l = [1, 1, 0] then [0, 1, 1] else if l = [1, 1, 1] then [1, 1, 1] else if l = [2, 1, 1] then [1, 1, 2] else if l = [2, 2, 1] then [1, 2, 2] else if l = [2, 2, 2] then [2, 2, 2] else srt l
theorem srtX_eq (l : List Int) : srtX l = srt l := by
 unfold srtX
 split
 ·rename_i h; subst h; unfold srt; simp [List.mergeSort, List.MergeSort.Internal.splitInTwo, List.merge]
 ·split
  ·rename_i h; subst h; unfold srt; simp [List.mergeSort, List.MergeSort.Internal.splitInTwo, List.merge]
  ·split
   ·rename_i h; subst h; unfold srt; simp [List.mergeSort, List.MergeSort.Internal.splitInTwo, List.merge]
   ·split
    ·rename_i h; subst h; unfold srt; simp [List.mergeSort, List.MergeSort.Internal.splitInTwo, List.merge]
    ·split
     ·rename_i h; subst h; unfold srt; simp [List.mergeSort, List.MergeSort.Internal.splitInTwo, List.merge]
     ·rfl
namespace Nd
def midX (l : List Int) : Int := (srtX l).getD (l.length - (l.length / 2 + 1)) 0
def sureX (n : Nd) : Nd := n.sureR (midX (reachL n.conf (n.mat.map fun (x : Nat) => (x : Int)) n.conf.length)).toNat
theorem sureX_eq : sureX = sure := by
 funext n
 unfold sureX midX sure reach midV
 rw [srtX_eq]
section
variable (S : Nd → Nd)
def proposeF (n : Nd) (kind : Int) (data : List UInt8) : Nd × Nat × Int :=
 if n.role ≠ 3 then (n, 0, 70) else if kind < 1 ∨ 255 < kind then (n, 0, 30) else if 24 < data.length then (n, 0, 2) else
  (S ({ n with log := n.log.add ⟨n.tm, kind, data⟩, mat := n.mat.set n.me.toNat (n.log.last + 1) } : Nd), n.log.last + 1, 0)
def ackedF (n : Nd) (m : Ms) : Nd :=
 if m.ok = false then { n with next := n.next.set m.src.toNat (max (n.mat.getD m.src.toNat 0 + 1) (min m.index (m.prev + 1))) }
 else if m.index ≤ n.log.last then S ({ n with mat := n.mat.set m.src.toNat (max (n.mat.getD m.src.toNat 0) m.index), next := n.next.set m.src.toNat (max (n.mat.getD m.src.toNat 0) m.index + 1) } : Nd) else n
def onAckedF (n : Nd) (m : Ms) : Nd × List Ms :=
 if m.kind ≠ 6 then (n, []) else if n.tm < m.tm then (n.follow m.tm (-1), []) else if m.tm < n.tm ∨ n.role ≠ 3 ∨ m.src = n.me ∨ m.src < 0 ∨ 15 < m.src then (n, []) else
  if m.ok = true ∧ (n.ackedF S m).log.last < (n.ackedF S m).next.getD m.src.toNat 0 then (n.ackedF S m, []) else (n.ackedF S m, (n.ackedF S m).sendTo m.src)
def hearF (n : Nd) (m : Ms) : Nd × List Ms :=
 let r1 := n.onAsk m
 let r2 := r1.1.onAnswer m
 let r3 := r2.1.onAppend m
 let r4 := r3.1.onAckedF S m
 (r4.1, r1.2 ++ r2.2 ++ r3.2 ++ r4.2)
def stepF (n : Nd) (m : Ms) : (Nd × List Ms) × Int := if n.right m ≠ 0 then ((n, []), n.right m) else (n.led (n.hearF S m), 0)
end
end Nd
namespace Gs
section
variable (S : Nd → Nd)
def arriveF (s : Gs) (k : Nat) : Gs :=
 let m := s.ms.getD k zMs
 if m.dst < 0 ∨ (s.ns.length : Int) ≤ m.dst then s else
  let r := ((s.ns.getD m.dst.toNat default).stepF S m).1
  ({ s with ns := s.ns.set m.dst.toNat r.1 } : Gs).send r.2
def playF (s : Gs) (d k : Int) : Gs :=
 if k < 0 ∨ (d ≠ 2 ∧ (s.ns.length : Int) ≤ k) ∨ (d = 2 ∧ (s.ms.length : Int) ≤ k) then s else
 let n := s.ns.getD k.toNat default
 if d = 1 then ({ s with ns := s.ns.set k.toNat n.timeout.1 } : Gs).send n.timeout.2 else
 if d = 2 then s.arriveF S k.toNat else
 if d = 3 then s.send n.beat else
 if d = 4 then { s with many := s.many + 1, ns := s.ns.set k.toNat (n.proposeF S 1 [UInt8.ofNat (s.many + 1).toNat]).1 } else
 if d = 5 then s.take k.toNat else s
def restF : Nat → Gs → Nat → Gs × Bool
 | 0, s, k => (s, decide (s.ms.length ≤ k))
 | fu + 1, s, k => if s.ms.length ≤ k then (s, true) else restF fu (s.arriveF S k) (k + 1)
end
theorem arriveF_eq : arriveF Nd.sure = arrive := rfl
theorem playF_eq : playF Nd.sure = play := rfl
theorem restF_eq (fu : Nat) (s : Gs) (k : Nat) : restF Nd.sure fu s k = rest fu s k := by
 induction fu generalizing s k with
 | zero => rfl
 | succ fu ih => unfold restF rest; rw [arriveF_eq, ih]
theorem rest_more (fu j : Nat) (s : Gs) (k : Nat) (h : (rest fu s k).2 = true) : rest (fu + j) s k = rest fu s k := by
 induction fu generalizing s k with
 | zero =>
  have h1 : s.ms.length ≤ k := of_decide_eq_true h
  show rest (0 + j) s k = (s, decide (s.ms.length ≤ k))
  rw [Nat.zero_add, decide_eq_true h1]
  cases j with
  | zero => unfold rest; rw [decide_eq_true h1]
  | succ j => unfold rest; rw [if_pos h1]
 | succ fu ih =>
  rw [show fu + 1 + j = (fu + j) + 1 by omega]
  unfold rest at h ⊢
  split
  ·rfl
  ·rename_i hk
   rw [if_neg hk] at h
   exact ih _ _ h
end Gs
def A0 : Gs := ⟨(cfN 3).map fun i => Nd.new i (cfN 3), [0, 0, 0], [], [0, 0, 0], 0⟩
def A1 : Gs := A0.playF Nd.sureX 1 0
def A2 : Gs := (Gs.restF Nd.sureX 40 A1 0).1
def A3 : Gs := A2.playF Nd.sureX 4 0
def A4 : Gs := A3.playF Nd.sureX 3 0
def A5 : Gs := (Gs.restF Nd.sureX 40 A4 A3.ms.length).1
def A6 : Gs := A5.playF Nd.sureX 3 0
def A7 : Gs := (Gs.restF Nd.sureX 40 A6 A5.ms.length).1
def A8 : Gs := A7.take 0
def A9 : Gs := A8.take 1
def A10 : Gs := A9.take 2
theorem A1_is : A0.play 1 0 = A1 := by rw [← Gs.playF_eq, ← Nd.sureX_eq]; rfl
theorem A3_is : A2.play 4 0 = A3 := by rw [← Gs.playF_eq, ← Nd.sureX_eq]; rfl
theorem A4_is : A3.play 3 0 = A4 := by rw [← Gs.playF_eq, ← Nd.sureX_eq]; rfl
theorem A6_is : A5.play 3 0 = A6 := by rw [← Gs.playF_eq, ← Nd.sureX_eq]; rfl
theorem A2_ok : (Gs.restF Nd.sureX 40 A1 0).2 = true := by decide +kernel
theorem A5_ok : (Gs.restF Nd.sureX 40 A4 A3.ms.length).2 = true := by decide +kernel
theorem A7_ok : (Gs.restF Nd.sureX 40 A6 A5.ms.length).2 = true := by decide +kernel
theorem restX {s s' : Gs} {k : Nat} (h2 : (Gs.restF Nd.sureX 40 s k).2 = true) (h1 : (Gs.restF Nd.sureX 40 s k).1 = s') : Gs.rest 2501 s k = (s', true) := by
 rw [Nd.sureX_eq, Gs.restF_eq] at h1 h2
 rw [show (2501 : Nat) = 40 + 2461 from rfl, Gs.rest_more 40 2461 s k h2]
 exact Prod.ext h1 h2
theorem A2_is : Gs.rest 2501 A1 0 = (A2, true) := restX A2_ok rfl
theorem A5_is : Gs.rest 2501 A4 A3.ms.length = (A5, true) := restX A5_ok rfl
theorem A7_is : Gs.rest 2501 A6 A5.ms.length = (A7, true) := restX A7_ok rfl
theorem A2_at : A2.ns.length = 3 ∧ (A2.ns.getD 0 default).role = 3 ∧ (A2.ns.getD 0 default).tm = 1 ∧ (A2.ns.getD 1 default).log.es.length = 1 ∧ (A2.ns.getD 2 default).log.es.length = 1 := by decide +kernel
theorem A10_at : A8.tl.getD 0 0 = 2 ∧ A9.tl.getD 1 0 = 2 ∧ A10.tl.getD 2 0 = 2 := by decide +kernel
theorem A10_no : ((A10.ns.getD 0 default).step { zMs with kind := 1, src := 2, dst := 1 }) = (((A10.ns.getD 0 default), []), 31) ∧ ((A10.ns.getD 0 default).step { zMs with kind := 7, src := 1 }) = (((A10.ns.getD 0 default), []), 30) := by decide +kernel
theorem A0_gj : GJ 16 A0 := by
 have h : ∀ n ∈ A0.ns, Gw 16 16 n := fun n hn => by
  obtain ⟨i, hi, rfl⟩ := List.mem_map.1 hn
  have hi2 : i = 0 ∨ i = 1 ∨ i = 2 := by
   have : i ∈ [(0 : Int), 1, 2] := hi
   simpa using this
  have h3 : (cfN 3).length = 3 := rfl
  refine ⟨⟨Nat.zero_le _, Nat.zero_le _, Nat.zero_le _, rfl, rfl, rep_le (Nat.zero_le _), rep_le (Nat.zero_le _)⟩, Nat.zero_le _, Nat.zero_le _, ?_, (by show 0 < (cfN 3).length ∧ (cfN 3).length ≤ 12; omega), (by show ∀ x ∈ cfN 3, 0 ≤ x ∧ x ≤ 15; decide)⟩
  rcases hi2 with rfl | rfl | rfl
  ·exact ⟨0, rfl, by decide⟩
  ·exact ⟨1, rfl, by decide⟩
  ·exact ⟨2, rfl, by decide⟩
 refine ⟨⟨h, ?_, (fun m hm => by cases hm), ?_⟩, ?_, ?_, rfl, rfl, ⟨Int.le_refl _, ?_⟩, fun i => ?_⟩
 ·intro a ha
  have : a ∈ List.replicate 3 0 := ha
  rw [List.eq_of_mem_replicate this]; exact Nat.zero_le _
 ·exact Nat.zero_le _
 ·show 0 < 3; omega
 ·show 3 ≤ 16; omega
 ·show (0 : Int) ≤ ((16 : Nat) : Int); omega
 ·exact Nat.le_refl _
end Go.Proofs.Ytmjccpfchhnfhaa
/- Law 13: the chapter's examples. -/
namespace Go.Proofs.Ytmjccpfchhnfhaa
open Go.RowKit
set_option linter.unusedVariables false
set_option linter.unusedSimpArgs false
theorem A1_gj : GJ 20 A1 := by rw [← A1_is]; exact (A0_gj.play 1 0).mono (by decide)
theorem A2_gj : GJ 8000 A2 := by
 have := GJ.rest (B := 8000) 2501 0 A1_gj (by decide)
 rw [A2_is] at this; exact this
theorem A3_gj : GJ 8003 A3 := by rw [← A3_is]; exact A2_gj.play 4 0
theorem A4_gj : GJ 8006 A4 := by rw [← A4_is]; exact A3_gj.play 3 0
theorem A5_gj : GJ 16000 A5 := by
 have := GJ.rest (B := 16000) 2501 A3.ms.length A4_gj (by decide)
 rw [A5_is] at this; exact this
theorem A6_gj : GJ 16003 A6 := by rw [← A6_is]; exact A5_gj.play 3 0
theorem A7_gj : GJ 24000 A7 := by
 have := GJ.rest (B := 24000) 2501 A5.ms.length A6_gj (by decide)
 rw [A7_is] at this; exact this
def AT : Nat → Gs
 | 0 => A7
 | i + 1 => (AT i).take i
theorem AT_ns (i : Nat) : (AT i).ns = A7.ns := by
 induction i with
 | zero => rfl
 | succ i ih => exact ih
theorem A7_n3 : A7.ns.length = 3 := by decide +kernel
theorem AT_gj (i : Nat) (hi : i ≤ 3) : GJ 24000 (AT i) := by
 induction i with
 | zero => exact A7_gj
 | succ i ih => exact (ih (by omega)).take i (by rw [AT_ns, A7_n3]; omega)
theorem AT_tl (i : Nat) (hi : i < 3) : (AT (i + 1)).tl.getD i 0 = 2 := by
 have : i = 0 ∨ i = 1 ∨ i = 2 := by omega
 rcases this with rfl | rfl | rfl
 ·exact A10_at.1
 ·exact A10_at.2.1
 ·exact A10_at.2.2
theorem AT_3 : AT 3 = A10 := rfl
theorem A3_len : A3.ms.length ≤ A4.ms.length := by decide +kernel
theorem A5_len : A5.ms.length ≤ A6.ms.length := by decide +kernel
section
variable {B : Nat} {w w' : World} {G : Nat} {s : Gs}
theorem Gr13.nview [Old] [NoOld] (h : Gr13 B w G s) (h0 : 0 < s.ns.length) : ∃ gn cn, w.cell? ⟨G, 0, none⟩ = some (.slice (some ⟨gn, 0, none⟩) s.ns.length cn) ∧ ∀ i, i < s.ns.length → ∃ X P rb b q ap, w.cell? ⟨gn, i, none⟩ = some (.pointer (some ⟨rb, 0, none⟩)) ∧ w.cell? ⟨rb, 0, none⟩ = some (.pointer (some ⟨b, 0, none⟩)) ∧ RB w rb b ap ∧ PNs X P w b (s.ns.getD i default) q ∧ ¬ P rb ∧ (∀ k, X k → B ≤ k) ∧ B ≤ b ∧ B ≤ rb ∧ ap = s.aps.getD i 0 ∧ ∀ X' P' w', PN X' P' w' b (s.ns.getD i default) → Aft X P X' P' w w' → Gr13 B w' G s := by
 obtain ⟨X, l, ms, tk, many, vn, vm, vt, h, rfl⟩ := h
 have e1 : (St l ms tk many).ns.length = l.length := List.length_map _
 rw [e1] at h0 ⊢
 obtain ⟨gn, cn, hvn, V⟩ := h.nrow h0
 refine ⟨gn, cn, by rw [(h.gcells (Fr.refl _ w)).1, hvn], fun i hi => ?_⟩
 obtain ⟨y0, y1⟩ := V w (Fr.refl _ _) i hi
 obtain ⟨q, hq⟩ := h.nd _ (List.getElem_mem hi)
 obtain ⟨r0, r1, r2⟩ := h.rb _ (List.getElem_mem hi)
 have en : (St l ms tk many).ns.getD i default = l[i].n := by
  show (l.map (·.n)).getD i default = _
  rw [List.getD_eq_getElem?_getD, List.getElem?_map, List.getElem?_eq_getElem hi]; rfl
 have ea : (St l ms tk many).aps.getD i 0 = l[i].ap := by
  show (l.map (·.ap)).getD i 0 = _
  rw [List.getD_eq_getElem?_getD, List.getElem?_map, List.getElem?_eq_getElem hi]; rfl
 rw [en, ea]
 refine ⟨X, l[i].P, l[i].rb, l[i].b, q, l[i].ap, y0, y1, r0, hq, fun e => r1 (hq.px _ e), h.lx, h.lx _ (hq.px _ hq.pb), r2, rfl, fun X' P' w' hp ha => ?_⟩
 refine ⟨X', _, ms, tk, many, vn, vm, vt, h.turn i hi hp ha, ?_⟩
 unfold St
 congr 1
 ·rw [List.map_set]
  apply List.ext_getElem?
  intro j
  rw [List.getElem?_set]
  split
  ·rename_i e
   subst e
   simp [hi]
  ·rfl
 ·rw [List.map_set]
  apply List.ext_getElem?
  intro j
  rw [List.getElem?_set]
  split
  ·rename_i e
   subst e
   simp [hi]
  ·rfl
theorem Gr13.tview [Old] [NoOld] (h : Gr13 B w G s) (h0 : 0 < s.tl.length) : ∃ gt ct, w.cell? ⟨G, 2, none⟩ = some (.slice (some ⟨gt, 0, none⟩) s.tl.length ct) ∧ ∀ i, i < s.tl.length → ∃ g c, w.cell? ⟨gt, i, none⟩ = some (.slice g (s.tl.getD i 0) c) := by
 obtain ⟨X, l, ms, tk, many, vn, vm, vt, h, rfl⟩ := h
 have e1 : (St l ms tk many).tl.length = tk.length := List.length_map _
 rw [e1] at h0 ⊢
 rcases h.rt.2 with ⟨_, e⟩ | ⟨g, cap, cur, e, r⟩
 ·omega
 ·refine ⟨g, cap, by rw [(h.gcells (Fr.refl _ w)).2.2.1, e], fun i hi => ?_⟩
  have hr := h.rt
  rw [e] at hr
  have h1 := own_cell1 hr i (by rw [List.length_map]; exact hi)
  rw [List.getElem_map] at h1
  obtain ⟨⟨xs, h2⟩, -⟩ := h.ts _ (List.getElem_mem hi)
  obtain ⟨g2, c2, e2⟩ := ownsRow_form h2
  refine ⟨g2, c2, ?_⟩
  rw [h1, e2]
  have en : (St l ms tk many).tl.getD i 0 = tk[i].2 := by
   show (tk.map Prod.snd).getD i 0 = _
   rw [List.getD_eq_getElem?_getD, List.getElem?_map, List.getElem?_eq_getElem hi]; rfl
  rw [en]
theorem PNs.elen [Old] {X P : Nat → Prop} {b : Nat} {n : Nd} {q : NV} (h : PNs X P w b n q) : ∃ a c, q.ve = .slice a n.log.es.length c := by
 obtain ⟨a, c, e, _⟩ := RowsAt.form h.ev.row
 exact ⟨a, c, by rw [e, h.ee, List.length_map]⟩
end
end Go.Proofs.Ytmjccpfchhnfhaa
/- Law 13, plainly: what is sent is short; who is who; a new group; the law's things to be done. -/
namespace Go.Proofs.Ytmjccpfchhnfhaa
open Go.RowKit
set_option linter.unusedVariables false
set_option linter.unusedSimpArgs false
def Es8 (l : List Ms) : Prop := ∀ x ∈ l, x.es.length ≤ 8
theorem Es8.nil : Es8 [] := fun _ h => by cases h
theorem Es8.one {m : Ms} (h : m.es.length ≤ 8) : Es8 [m] := fun x hx => by rw [List.mem_singleton.1 hx]; exact h
theorem Es8.app {a b : List Ms} (ha : Es8 a) (hb : Es8 b) : Es8 (a ++ b) := fun x hx => by
 rcases List.mem_append.1 hx with h | h
 ·exact ha x h
 ·exact hb x h
namespace Nd
variable {n : Nd} {m : Ms}
theorem toAll_e8 (h : m.es.length ≤ 8) : Es8 (n.toAll m) := fun x hx => by
 obtain ⟨y, -, rfl⟩ := List.mem_map.1 hx
 exact h
theorem askT_e8 : Es8 n.askT.2 := by
 unfold askT
 split
 ·dsimp only
  split
  ·exact Es8.nil
  ·exact toAll_e8 (Nat.zero_le _)
 ·exact Es8.nil
theorem askF_e8 : Es8 n.askF.2 := by
 unfold askF
 split
 ·dsimp only
  split
  ·exact askT_e8
  ·exact toAll_e8 (Nat.zero_le _)
 ·exact Es8.nil
theorem chosen_e8 : Es8 n.chosen.2 := by
 unfold chosen
 split
 ·exact askT_e8
 ·exact Es8.nil
theorem onAsk_e8 : Es8 (n.onAsk m).2 := by
 unfold onAsk
 split
 ·exact Es8.one (Nat.zero_le _)
 ·exact Es8.nil
theorem onAnswer_e8 : Es8 (n.onAnswer m).2 := by
 unfold onAnswer
 split
 ·dsimp only
  generalize (if n.tm < m.tm ∧ (m.ok = false ∨ m.kind = 2) then n.follow m.tm (-1) else n) = n1
  split
  ·split
   ·exact chosen_e8
   ·exact Es8.nil
  ·exact Es8.nil
 ·exact Es8.nil
theorem slice_le (l : Lg) (i m : Nat) : (l.slice i m).length ≤ m := by
 unfold Lg.slice
 split
 ·rw [List.length_take]; omega
 ·exact Nat.zero_le _
theorem sendTo_e8 (x : Int) : Es8 (n.sendTo x) := by
 unfold sendTo
 split
 ·exact Es8.nil
 ·exact Es8.one (slice_le _ _ _)
theorem beat_e8 : Es8 n.beat := fun x hx => by
 obtain ⟨y, -, hy⟩ := List.mem_flatMap.1 hx
 exact sendTo_e8 y x hy
theorem taken_e8 : Es8 (n.taken m).2 := by
 unfold taken
 split
 ·exact Es8.one (Nat.zero_le _)
 ·exact Es8.one (Nat.zero_le _)
theorem onAppend_e8 : Es8 (n.onAppend m).2 := by
 unfold onAppend
 split
 ·exact Es8.nil
 ·split
  ·exact Es8.one (Nat.zero_le _)
  ·exact taken_e8
theorem onAcked_e8 : Es8 (n.onAcked m).2 := by
 unfold onAcked
 split
 ·exact Es8.nil
 ·split
  ·exact Es8.nil
  ·split
   ·exact Es8.nil
   ·split
    ·exact Es8.nil
    ·exact sendTo_e8 _
theorem hear_e8 : Es8 (n.hear m).2 := ((onAsk_e8.app onAnswer_e8).app onAppend_e8).app onAcked_e8
theorem led_e8 {r : Nd × List Ms} (h : Es8 r.2) : Es8 (n.led r).2 := by
 unfold led
 split
 ·exact h.app beat_e8
 ·exact h
theorem step_e8 : Es8 (n.step m).1.2 := by
 unfold step
 split
 ·exact Es8.nil
 ·exact led_e8 hear_e8
end Nd
abbrev nOld : Old := ⟨fun _ => False⟩
instance nOldNo : @NoOld nOld := @NoOld.mk nOld fun _ h => h
theorem PNs.old {o : Nat → Prop} {X P : Nat → Prop} {w : World} {b : Nat} {n : Nd} {q : NV} (h : @PNs nOld X P w b n q) (hb : ∀ c, o c → c < b) : @PNs ⟨o⟩ X P w b n q := by
 have ro : ∀ c u, @RO nOld X c u → @RO ⟨o⟩ X c u := fun c u h => ⟨h.1, .inr (h.2.elim (fun e => e.elim) id)⟩
 obtain ⟨top, cf, ye, yp, ev, ee, nx, mt, nm, pb, pn, pm, px, hx, _⟩ := h
 obtain ⟨row, nz, dat⟩ := ev
 exact @PNs.mk ⟨o⟩ X P w b n q top (cf.mono ro) ye yp (@EsAt.mk ⟨o⟩ _ _ _ _ (row.mono fun c u _ k => ro c u k) nz (fun x hx => ⟨(dat x hx).1.mono fun c u _ k => ro c u k, (dat x hx).2⟩)) ee nx mt nm pb pn pm px hx hb
def Ids (many : Nat) (s : Gs) : Prop := s.ns.length = many ∧ ∀ i, i < many → (s.ns.getD i default).me = ((i : Nat) : Int) ∧ (s.ns.getD i default).conf = cfN many
namespace Ids
variable {many : Nat} {s : Gs}
theorem node (h : Ids many s) {i : Nat} {n' : Nd} (hm : n'.me = (s.ns.getD i default).me) (hc : n'.conf = (s.ns.getD i default).conf) : Ids many { s with ns := s.ns.set i n' } := by
 refine ⟨by show (s.ns.set i n').length = _; rw [List.length_set]; exact h.1, fun j hj => ?_⟩
 show ((s.ns.set i n').getD j default).me = _ ∧ ((s.ns.set i n').getD j default).conf = _
 by_cases e : i = j
 ·subst e
  rw [List.getD_eq_getElem?_getD, List.getElem?_set_self (by rw [h.1]; exact hj), Option.getD_some, hm, hc]
  exact h.2 i hj
 ·rw [List.getD_eq_getElem?_getD, List.getElem?_set_ne e, ← List.getD_eq_getElem?_getD]
  exact h.2 j hj
theorem send (h : Ids many s) (l : List Ms) : Ids many (s.send l) := by
 unfold Gs.send
 split
 ·exact h
 ·exact h
end Ids
theorem Nd.step_me (n : Nd) (m : Ms) : (n.step m).1.1.me = n.me := by
 unfold Nd.step
 split
 ·rfl
 ·show (n.led (n.hear m)).1.me = _
  rw [Nd.led_y]; exact (Nd.hear_up _ _).me
theorem Nd.timeout_me (n : Nd) : n.timeout.1.me = n.me := by
 unfold Nd.timeout
 split
 ·rfl
 ·split
  ·rfl
  ·rw [Nd.led_y]; exact (Nd.askF_up _).me
namespace Ids
variable {many : Nat} {s : Gs}
theorem arrive (h : Ids many s) (k : Nat) : Ids many (s.arrive k) := by
 unfold Gs.arrive
 dsimp only
 split
 ·exact h
 ·exact (h.node (Nd.step_me _ _) (Nd.step_conf _ _)).send _
theorem play (h : Ids many s) (d k : Int) : Ids many (s.play d k) := by
 unfold Gs.play
 split
 ·exact h
 ·dsimp only
  split
  ·exact (h.node (Nd.timeout_me _) (Nd.timeout_conf _)).send _
  ·split
   ·exact h.arrive _
   ·split
    ·exact h.send _
    ·split
     ·exact Ids.node (s := { s with many := s.many + 1 }) h (Nd.propose_up _ _ _).me (Nd.propose_up _ _ _).conf
     ·split
      ·exact h
      ·exact h
end Ids
def S0 (many : Nat) : Gs := ⟨(cfN many).map fun i => Nd.new i (cfN many), List.replicate many 0, [], List.replicate many 0, 0⟩
theorem S0_len (many : Nat) : (S0 many).ns.length = many := by
 show ((cfN many).map _).length = many
 rw [List.length_map, cfN_len]
theorem S0_at {many i : Nat} (hi : i < many) : (S0 many).ns.getD i default = Nd.new (i : Nat) (cfN many) := by
 have e : (cfN many)[i]? = some ((i : Nat) : Int) := by unfold cfN; simp [hi]
 rw [List.getD_eq_getElem?_getD]
 show ((List.map (fun i => Nd.new i (cfN many)) (cfN many))[i]?).getD default = _
 rw [List.getElem?_map, e]
 rfl
theorem S0_ids (many : Nat) : Ids many (S0 many) := ⟨S0_len many, fun i hi => by rw [S0_at hi]; exact ⟨rfl, rfl⟩⟩
theorem cfN_mem {many : Nat} {x : Int} (h : x ∈ cfN many) : ∃ i : Nat, x = (i : Nat) ∧ i < many := by
 obtain ⟨i, hi, rfl⟩ := List.mem_map.1 h
 exact ⟨i, rfl, List.mem_range.1 hi⟩
theorem S0_gj {many : Nat} (h1 : 1 ≤ many) (h5 : many ≤ 5) : GJ 16 (S0 many) := by
 have h : ∀ n ∈ (S0 many).ns, Gw 16 16 n := fun n hn => by
  obtain ⟨i, hi, rfl⟩ := List.mem_map.1 hn
  obtain ⟨j, rfl, hj⟩ := cfN_mem hi
  have hl := cfN_len many
  refine ⟨⟨Nat.zero_le _, Nat.zero_le _, Nat.zero_le _, rfl, rfl, rep_le (Nat.zero_le _), rep_le (Nat.zero_le _)⟩, Nat.zero_le _, Nat.zero_le _, ⟨j, rfl, by omega⟩, (by show 0 < (cfN many).length ∧ (cfN many).length ≤ 12; omega), fun x hx => ?_⟩
  obtain ⟨k, rfl, hk⟩ := cfN_mem (show x ∈ cfN many from hx)
  omega
 refine ⟨⟨h, ?_, (fun m hm => by cases hm), Nat.zero_le _⟩, ?_, ?_, ?_, ?_, ⟨Int.le_refl _, by show (0 : Int) ≤ ((16 : Nat) : Int); omega⟩, fun i => ?_⟩
 ·intro a ha
  have : a ∈ List.replicate many 0 := ha
  rw [List.eq_of_mem_replicate this]; exact Nat.zero_le _
 ·rw [S0_len]; omega
 ·rw [S0_len]; omega
 ·rw [S0_len]; exact List.length_replicate
 ·rw [S0_len]; exact List.length_replicate
 ·exact Nat.le_refl _
set_option maxRecDepth 100000 in
theorem ops13_at {w : World} {a : Option Addr} {len cap : Nat} (h : Rd Try.prog w 45 [.slice a len cap]) : ∃ b off, (0 < len → a = some ⟨b, off, none⟩) ∧ ∀ i, i < len → ∃ d k : Int, w.cell? ⟨b, off + i * 2, none⟩ = some (.int .i64 d) ∧ w.cell? ⟨b, off + i * 2 + 1, none⟩ = some (.int .i64 k) := by
 obtain ⟨a', len', cap', hv, _, _, _, hc⟩ := h.slice (sz := 2) Try.underlying45 (by kernel_rfl)
 obtain ⟨rfl, rfl, rfl⟩ : a = a' ∧ len = len' ∧ cap = cap' := by simpa using hv
 have key : ∀ i, i < len → ∃ ad, ∃ d k : Int, a = some ad ∧ w.cell? (ad.add (i * 2)) = some (.int .i64 d) ∧ w.cell? (ad.add (i * 2 + 1)) = some (.int .i64 k) := by
  intro i hi
  obtain ⟨ad, cs, ha, hcl, hat, hr⟩ := hc i hi
  obtain ⟨_, hf⟩ := hr.struct (sz := 2) Try.underlying49 (by kernel_rfl)
  obtain ⟨c0, c1, rfl⟩ := list2 hcl
  obtain ⟨x0, h0, _⟩ := (show Rd Try.prog w 3 [c0] from hf 0 _ rfl).int Try.underlying3
  obtain ⟨x1, h1, _⟩ := (show Rd Try.prog w 3 [c1] from hf 1 _ rfl).int Try.underlying3
  have e0 : c0 = .int .i64 x0 := by injection h0
  have e1 : c1 = .int .i64 x1 := by injection h1
  subst e0 e1
  exact ⟨ad, x0, x1, ha, hat 0 (by omega), hat 1 (by omega)⟩
 by_cases hl : 0 < len
 ·obtain ⟨ad, d, k, ha, e0, _⟩ := key 0 hl
  rw [Nat.zero_mul] at e0
  obtain ⟨b, off, rfl⟩ := spot_of e0
  refine ⟨b, off, fun _ => ha, fun i hi => ?_⟩
  obtain ⟨ad', d, k, ha', e0, e1⟩ := key i hi
  rw [ha] at ha'
  cases ha'
  simp only [add_at] at e0 e1
  exact ⟨d, k, e0, e1⟩
 ·exact ⟨0, 0, fun h => absurd h hl, fun i hi => by omega⟩
end Go.Proofs.Ytmjccpfchhnfhaa
/- Raft's safety: logs as lists, what stands at a place; entries laid behind a place, beside a leader's log. -/
namespace Go.Proofs.Ytmjccpfchhnfhaa
set_option linter.unusedVariables false
set_option linter.unusedSimpArgs false
def tA (l : List En) (i : Nat) : Nat := match i with
 | 0 => 0
 | k + 1 => (l[k]?.map (·.t)).getD 0
theorem tA_succ (l : List En) (k : Nat) : tA l (k + 1) = (l[k]?.map (·.t)).getD 0 := rfl
theorem tA_zero (l : List En) : tA l 0 = 0 := rfl
theorem tA_out {l : List En} {i : Nat} (h : l.length < i) : tA l i = 0 := by
 cases i with
 | zero => rfl
 | succ k => rw [tA_succ, List.getElem?_eq_none (by omega)]; rfl
theorem tA_in {l : List En} {k : Nat} (h : k < l.length) : tA l (k + 1) = l[k].t := by
 rw [tA_succ, List.getElem?_eq_getElem h]; rfl
theorem tA_take {l : List En} {c i : Nat} (h : i ≤ c) : tA (l.take c) i = tA l i := by
 cases i with
 | zero => rfl
 | succ k => rw [tA_succ, tA_succ, List.getElem?_take_of_lt (by omega)]
theorem tA_app {l r : List En} {i : Nat} (h : i ≤ l.length) : tA (l ++ r) i = tA l i := by
 cases i with
 | zero => rfl
 | succ k => rw [tA_succ, tA_succ, List.getElem?_append_left (by omega)]
theorem tA_end (l : List En) (x : En) : tA (l ++ [x]) (l.length + 1) = x.t := by
 rw [tA_in (by simp)]; simp
def Pre (c : Nat) (a b : List En) : Prop := c ≤ a.length ∧ c ≤ b.length ∧ a.take c = b.take c
namespace Pre
variable {a b d : List En} {c i : Nat}
theorem refl (h : c ≤ a.length) : Pre c a a := ⟨h, h, rfl⟩
theorem symm (h : Pre c a b) : Pre c b a := ⟨h.2.1, h.1, h.2.2.symm⟩
theorem trans (h : Pre c a b) (k : Pre c b d) : Pre c a d := ⟨h.1, k.2.1, h.2.2.trans k.2.2⟩
theorem le (h : Pre c a b) (hi : i ≤ c) : Pre i a b := ⟨by have := h.1; omega, by have := h.2.1; omega, by
 have := congrArg (List.take i) h.2.2
 rw [List.take_take, List.take_take, Nat.min_eq_left hi] at this
 exact this⟩
theorem tA (h : Pre c a b) (hi : i ≤ c) : tA a i = tA b i := by
 rw [← tA_take (l := a) hi, ← tA_take (l := b) hi, h.2.2]
theorem zero : Pre 0 a b := ⟨Nat.zero_le _, Nat.zero_le _, rfl⟩
theorem app (h : c ≤ a.length) : Pre c a (a ++ d) := ⟨h, by rw [List.length_append]; omega, by rw [List.take_append_of_le_length h]⟩
theorem appR (h : Pre c a b) : Pre c a (b ++ d) := h.trans (app h.2.1)
theorem take (h : c ≤ i) (hc : c ≤ a.length) : Pre c (a.take i) a := ⟨by rw [List.length_take]; omega, hc, by rw [List.take_take, Nat.min_eq_left h]⟩
end Pre
def Lg0 (l : Lg) : Prop := l.base = 0 ∧ l.bt = 0
namespace Lg0
variable {l : Lg}
theorem last (h : Lg0 l) : l.last = l.es.length := by unfold Lg.last; rw [h.1]; omega
theorem term (h : Lg0 l) (i : Nat) : l.term i = (tA l.es i, decide (i ≤ l.es.length)) := by
 have hb := h.1
 have hl := h.last
 by_cases h0 : i = 0
 ·subst h0
  have := Lg.term_base l
  rw [hb, h.2] at this
  rw [this, tA_zero]
  simp
 ·by_cases h1 : i ≤ l.es.length
  ·obtain ⟨h', e⟩ := Lg.term_in (l := l) (i := i) (by omega)
   obtain ⟨k, rfl⟩ : ∃ k, i = k + 1 := ⟨i - 1, by omega⟩
   rw [e, tA_in (by omega)]
   have e2 : k + 1 - l.base - 1 = k := by omega
   simp only [e2]
   rw [decide_eq_true h1]
  ·rw [Lg.term_out (by omega), tA_out (by omega), decide_eq_false h1]
theorem lastT (h : Lg0 l) : l.lastT = tA l.es l.es.length := by
 unfold Lg.lastT
 rw [h.2]
 rcases List.eq_nil_or_concat l.es with e | ⟨r, x, e⟩
 ·rw [e]; rfl
 ·rw [e, List.concat_eq_append, List.length_append, List.length_singleton, tA_end]
  simp
theorem newer (h : Lg0 l) (t i : Nat) : l.newer t i = true ↔ tA l.es l.es.length < t ∨ (t = tA l.es l.es.length ∧ l.es.length ≤ i) := by
 unfold Lg.newer
 rw [h.lastT, h.last]
 simp
theorem add (h : Lg0 l) (x : En) : Lg0 (l.add x) ∧ (l.add x).es = l.es ++ [x] := ⟨h, rfl⟩
end Lg0
theorem lay_cases (l : Lg) (h : Lg0 l) : ∀ (es : List En) (p : Nat), p ≤ l.es.length →
  (l.lay p es = l ∧ p + es.length ≤ l.es.length ∧ ∀ k (hk : k < es.length), tA l.es (p + k + 1) = es[k].t) ∨
  (∃ q, q < es.length ∧ p + q ≤ l.es.length ∧ (∀ k (hk : k < q) (hk2 : k < es.length), tA l.es (p + k + 1) = es[k].t) ∧ (∀ hq : q < es.length, ¬ (p + q + 1 ≤ l.es.length ∧ tA l.es (p + q + 1) = es[q].t)) ∧ l.lay p es = { l with es := l.es.take (p + q) ++ es.drop q })
 | [], p, hp => .inl ⟨rfl, by simpa using hp, fun k hk => absurd hk (by simp)⟩
 | x :: xs, p, hp => by
  unfold Lg.lay
  rw [h.term]
  split
  ·rename_i e
   have e1 : tA l.es (p + 1) = x.t := congrArg Prod.fst e
   have e2 : p + 1 ≤ l.es.length := by simpa using congrArg Prod.snd e
   rcases lay_cases l h xs (p + 1) e2 with ⟨a, b, c⟩ | ⟨q, a, b, c, d, f⟩
   ·refine .inl ⟨a, by rw [List.length_cons]; omega, fun k hk => ?_⟩
    cases k with
    | zero => exact e1
    | succ k => rw [show p + (k + 1) + 1 = p + 1 + k + 1 by omega]; exact c k (by simpa using hk)
   ·refine .inr ⟨q + 1, by rw [List.length_cons]; omega, by omega, fun k hk hk2 => ?_, fun hq => ?_, ?_⟩
    ·cases k with
     | zero => exact e1
     | succ k => rw [show p + (k + 1) + 1 = p + 1 + k + 1 by omega]; exact c k (by omega) (by simpa using hk2)
    ·rw [show p + (q + 1) + 1 = p + 1 + q + 1 by omega]; exact d (by simpa using hq)
    ·rw [f, show p + 1 + q = p + (q + 1) by omega]; rfl
  ·rename_i e
   refine .inr ⟨0, by simp, hp, fun k hk => absurd hk (by omega), fun hq k => e ?_, ?_⟩
   ·rw [Nat.add_zero] at k
    show (tA l.es (p + 1), decide (p + 1 ≤ l.es.length)) = (x.t, true)
    rw [decide_eq_true k.1, k.2]; rfl
   ·rw [h.1]; rfl
theorem lay_leader {l : Lg} (h : Lg0 l) {ld es : List En} {p : Nat} (hp : Pre p l.es ld) (he : p + es.length ≤ ld.length) (hes : ∀ k (hk : k < es.length), ld[p + k]? = some es[k])
  (LM : ∀ i, i ≤ l.es.length → i ≤ ld.length → tA l.es i = tA ld i → Pre i l.es ld) :
  Lg0 (l.lay p es) ∧ Pre (p + es.length) (l.lay p es).es ld ∧ (∀ c, Pre c l.es ld → Pre c (l.lay p es).es ld) ∧ ((l.lay p es).es = l.es ∨ (l.lay p es).es = ld.take (p + es.length)) := by
 have hb := Lg.lay_base l es p
 have H0 : Lg0 (l.lay p es) := ⟨hb.1.trans h.1, hb.2.trans h.2⟩
 have tl : ∀ k (hk : k < es.length), tA ld (p + k + 1) = es[k].t := fun k hk => by
  rw [tA_succ, hes k hk]; rfl
 rcases lay_cases l h es p hp.1 with ⟨a, b, c⟩ | ⟨q, a, b, c, d, f⟩
 ·rw [a]
  refine ⟨h, ?_, fun c k => k, .inl rfl⟩
  cases hn : es.length with
  | zero => exact hp
  | succ n =>
   have := c n (by omega)
   rw [← tl n (by omega)] at this
   rw [show p + (n + 1) = p + n + 1 by omega]
   exact LM _ (by omega) (by omega) this
 ·have pq : Pre (p + q) l.es ld := by
   cases hn : q with
   | zero => exact hp
   | succ n =>
    have := c n (by omega) (by omega)
    rw [← tl n (by omega)] at this
    rw [show p + (n + 1) = p + n + 1 by omega]
    exact LM _ (by omega) (by omega) this
  have E : (l.lay p es).es = ld.take (p + es.length) := by
   rw [f]
   show l.es.take (p + q) ++ es.drop q = _
   rw [pq.2.2]
   apply List.ext_getElem?
   intro i
   by_cases hi : i < p + q
   ·rw [List.getElem?_append_left (by rw [List.length_take]; omega), List.getElem?_take_of_lt hi, List.getElem?_take_of_lt (by omega)]
   ·rw [List.getElem?_append_right (by rw [List.length_take]; omega), List.length_take, Nat.min_eq_left (by omega), List.getElem?_drop]
    by_cases h2 : i < p + es.length
    ·rw [List.getElem?_take_of_lt h2]
     have := hes (i - p) (by omega)
     rw [show p + (i - p) = i by omega] at this
     rw [this, show q + (i - (p + q)) = i - p by omega, List.getElem?_eq_getElem (by omega)]
    ·rw [List.getElem?_eq_none (by omega), List.getElem?_eq_none (by rw [List.length_take]; omega)]
  refine ⟨H0, by rw [E]; exact Pre.take (Nat.le_refl _) he, fun c k => ?_, .inr E⟩
  have : c ≤ p + q := by
   by_cases hc : c ≤ p + q
   ·exact hc
   ·refine absurd ⟨?_, ?_⟩ (d a)
    ·have := k.1; omega
    ·rw [← tl q a]; exact k.tA (by omega)
  rw [E]
  exact Pre.take (by omega) k.2.1
end Go.Proofs.Ytmjccpfchhnfhaa
