/- Texts of the proofs, part 44: what the functions that they reach do, walked; no conditions beyond those that each states. -/
import Derived.Test.YtmjccpfchhnfhaaGreatZz0d420ff0be
import Derived.Test.YtmjccpfchhnfhaaGreatZz01da7a70cd
set_option linter.unusedVariables false
set_option linter.unusedSimpArgs false
/- Law 12: the chapter's examples, plainly (printed by awake12.py). -/
namespace Go.Proofs.YtmjccpfchhnfhaaGreat
open Go.RowKit
set_option linter.unusedVariables false
set_option linter.unusedSimpArgs false
theorem playR_beat {ns ns' : List Nd} {ms ms' : List Ms} {i : Nat} (hi : i < ns.length) (hl : ms.length < 600) (h : playR ns ms 5 (i : Nat) ns' ms') : ns' = ns ∧ ms' = ms ++ ns[i].beat := by
 rcases h with ⟨-, -, h⟩ | ⟨k, hk, r, rfl, rfl, h⟩
 ·exact absurd (.inl ⟨by decide, rfl⟩) (h i hi)
 ·rcases h with ⟨e, -⟩ | ⟨e, -⟩ | ⟨e, -⟩ | ⟨e, -⟩ | ⟨-, e, rfl⟩ | ⟨e, -⟩ | ⟨⟨-, -, -, -, e, -⟩, -⟩
  ·omega
  ·omega
  ·omega
  ·omega
  ·obtain rfl : i = k := by omega
   exact ⟨List.set_getElem_self _, if_pos hl⟩
  ·omega
  ·exact absurd rfl e
theorem playR_hear {ns ns' : List Nd} {ms ms' : List Ms} {i j : Nat} (hi : i < ns.length) (hj : j < ms.length) (hd : ms[j].dst = (i : Nat)) (hl : ms.length < 600) (h : playR ns ms 3 (j : Nat) ns' ms') : ns' = ns.set i (ns[i].hear ms[j]).1 ∧ ms' = ms ++ (ns[i].hear ms[j]).2 := by
 rcases h with ⟨-, -, h⟩ | ⟨k, hk, r, rfl, rfl, h⟩
 ·exact absurd (.inr ⟨rfl, j, hj, rfl, hd⟩) (h i hi)
 ·rcases h with ⟨e, -⟩ | ⟨e, -⟩ | ⟨-, j', hj', e, e2, rfl⟩ | ⟨e, -⟩ | ⟨e, -⟩ | ⟨e, -⟩ | ⟨⟨-, -, e, -⟩, -⟩
  ·omega
  ·omega
  ·obtain rfl : j = j' := by omega
   obtain rfl : i = k := by omega
   exact ⟨rfl, if_pos hl⟩
  ·omega
  ·omega
  ·omega
  ·exact absurd rfl e
def aw0 : Nd := { ({ Nd.new 0 (cfN 3) with conf := [0] } : Nd).askT.1 with conf := [0, 1, 2] }
def NS1 : List Nd := [aw0, Nd.new 1 (cfN 3), Nd.new 2 (cfN 3)]
def MS2 : List Ms := aw0.beat
def NS3 : List Nd := NS1.set 1 ((Nd.new 1 (cfN 3)).hear (MS2.getD 0 zMs)).1
def MS3 : List Ms := MS2 ++ ((Nd.new 1 (cfN 3)).hear (MS2.getD 0 zMs)).2
def aw1 : Nd := { aw0 with mat := aw0.mat.set 1 1, next := aw0.next.set 1 2 }
def NS4 : List Nd := NS3.set 0 (aw1.sureR 1)
theorem srt_110 : srt [1, 1, 0] = [0, 1, 1] := by
 unfold srt
 simp [List.mergeSort, List.MergeSort.Internal.splitInTwo, List.merge]
theorem aw1_reach : aw1.reach = 1 := by
 have e : reachL aw1.conf (aw1.mat.map fun (x : Nat) => (x : Int)) aw1.conf.length = [1, 1, 0] := by decide +kernel
 unfold Nd.reach
 rw [e]
 unfold midV
 rw [srt_110]
 rfl
theorem acked4 : aw0.acked (MS3.getD 2 zMs) = aw1.sureR 1 := by
 have e : aw0.acked (MS3.getD 2 zMs) = aw1.sure := by
  unfold Nd.acked
  rw [if_neg (by decide +kernel), if_pos (by decide +kernel)]
  have e2 : ({ aw0 with mat := aw0.mat.set (MS3.getD 2 zMs).src.toNat (max (aw0.mat.getD (MS3.getD 2 zMs).src.toNat 0) (MS3.getD 2 zMs).index), next := aw0.next.set (MS3.getD 2 zMs).src.toNat (max (aw0.mat.getD (MS3.getD 2 zMs).src.toNat 0) (MS3.getD 2 zMs).index + 1) } : Nd) = aw1 := by decide +kernel
  rw [e2]
 rw [e]
 unfold Nd.sure
 rw [aw1_reach]
theorem hear4 : aw0.hear (MS3.getD 2 zMs) = (aw1.sureR 1, []) := by
 have e1 : aw0.onAsk (MS3.getD 2 zMs) = (aw0, []) := by decide +kernel
 have e2 : aw0.onAnswer (MS3.getD 2 zMs) = (aw0, []) := by decide +kernel
 have e3 : aw0.onAppend (MS3.getD 2 zMs) = (aw0, []) := by decide +kernel
 have e4 : aw0.onAcked (MS3.getD 2 zMs) = (aw1.sureR 1, []) := by
  unfold Nd.onAcked
  rw [if_neg (by decide +kernel), if_neg (by decide +kernel), if_neg (by decide +kernel), acked4]
  decide +kernel
 unfold Nd.hear
 simp only [e1, e2, e3, e4, List.append_nil]
theorem MS2_kind : (MS2.getD 0 zMs).kind = 5 := by decide +kernel
theorem MS2_is : MS2.length = 2 ∧ (MS2.getD 0 zMs).dst = 1 ∧ (MS2.getD 0 zMs).index = 0 ∧ (MS2.getD 0 zMs).tm = 1 ∧ (MS2.getD 0 zMs).es.length = 1 := by decide +kernel
theorem MS3_is : MS3.length = 3 ∧ (MS3.getD 2 zMs).dst = 0 ∧ (MS3.getD 2 zMs).kind = 6 ∧ (MS3.getD 2 zMs).ok = true ∧ (MS3.getD 2 zMs).index = 1 := by decide +kernel
theorem NS4_is : NS4.length = 3 ∧ (NS4.getD 0 default).commit = 1 ∧ ((NS4.getD 0 default).propose 1 [97]).2 = (2, 0) ∧ NS4.getD 2 default = Nd.new 2 (cfN 3) := by decide +kernel
theorem MS3_on : (({ Nd.new 2 (cfN 3) with tm := 3 } : Nd).onAppend (MS3.getD 1 zMs)).2.length = 1 ∧ ((({ Nd.new 2 (cfN 3) with tm := 3 } : Nd).onAppend (MS3.getD 1 zMs)).2.getD 0 zMs).ok = false ∧ ((({ Nd.new 2 (cfN 3) with tm := 3 } : Nd).onAppend (MS3.getD 1 zMs)).2.getD 0 zMs).tm = 3 := by decide +kernel
theorem NS4_0 : (0 < (NS4.getD 0 default).conf.length ∧ (NS4.getD 0 default).conf.length ≤ 16) ∧ (∀ x ∈ (NS4.getD 0 default).conf, 0 ≤ x) ∧ (NS4.getD 0 default).me = ((0 : Nat) : Int) ∧ (NS4.getD 0 default).log.last + 2 < 18446744073709551616 ∧ (NS4.getD 0 default).log.es.length ≤ 900000 := by decide +kernel
theorem MS3_1 : (MS3.getD 1 zMs).index + (MS3.getD 1 zMs).es.length + 1 < 18446744073709551616 ∧ (MS3.getD 1 zMs).es.length ≤ 900000 := by decide +kernel
theorem new_gd (i : Nat) (hi : i < 3) (B : Nat) : Gd B (Nd.new i (cfN 3)) :=
 ⟨⟨Nat.zero_le _, Nat.zero_le _, Nat.zero_le _, rfl, rfl, rep_le (Nat.zero_le _), rep_le (Nat.zero_le _)⟩, ⟨i, rfl, by omega⟩, by show 0 < (cfN 3).length ∧ (cfN 3).length ≤ 16; decide, by show ∀ x ∈ cfN 3, 0 ≤ x; decide, Nat.zero_le _⟩
theorem aw0_gd : Gd 50 aw0 := ⟨⟨by decide, by decide, by decide, by decide, by decide, by decide, by decide⟩, ⟨0, rfl, by decide⟩, by decide, by decide, by decide⟩
section
variable {X : Nat → Prop} {w : World} {G : Nat} {l : List Nx} {ms : List MV} {many : Int} {c : GV}
theorem Grp.view [Old] [NoOld] (h : Grp X w G l ms many c) (h0 : 0 < l.length) : ∃ gn cn, ∀ W, Fr (fun _ _ => True) w W → W.cell? ⟨G, 0, none⟩ = some (.slice (some ⟨gn, 0, none⟩) l.length cn) ∧ ∀ i (hi : i < l.length), W.cell? ⟨gn, i, none⟩ = some (.pointer (some ⟨l[i].b, 0, none⟩)) := by
 obtain ⟨gn, cn, e, hc⟩ := h.nrow h0
 exact ⟨gn, cn, fun W f => ⟨by rw [← e]; exact cell_mk (f.keep _ _ h.top trivial) rfl, fun i hi => hc i hi W f⟩⟩
theorem Grp.mview [Old] [NoOld] (h : Grp X w G l ms many c) (h0 : 0 < ms.length) : ∃ gm cm, ∀ W, Fr (fun _ _ => True) w W → W.cell? ⟨G, 1, none⟩ = some (.slice (some ⟨gm, 0, none⟩) ms.length cm) ∧ ∀ i (hi : i < ms.length) j u, (encM ms[i])[j]? = some u → W.cell? ⟨gm, i * 10 + j, none⟩ = some u := by
 obtain ⟨a, c', e, hcc, h1⟩ := h.rm.rows
 rcases h1 with h1 | ⟨gm, off, o, ha, ho, hk, hc⟩
 ·rw [h1] at h0; cases h0
 ·have e0 : off = 0 := by
   rcases h.rm.row.2 with ⟨e2, _⟩ | ⟨g, cap, cur, e2, _⟩
   ·rw [e2, ha] at e; cases e
   ·rw [e2, ha] at e; cases e; rfl
  subst e0
  refine ⟨gm, c', fun W f => ⟨by rw [← ha, ← e]; exact cell_mk (f.keep _ _ h.top trivial) rfl, fun i hi j u hu => ?_⟩⟩
  have := f.cell (fun _ _ => trivial) (hc i hi j u hu)
  rw [Nat.zero_add] at this
  exact this
theorem Grp.own [Old] [NoOld] (h : Grp X w G l ms many c) (i : Nat) (hi : i < l.length) {W : World} {n' : Nd} {q' : NV} (f : Fr (fun k _ => k ≠ l[i].b) w W) (hp : PNs X l[i].P W l[i].b n' q') : Grp X W G (l.set i ⟨l[i].b, n', l[i].P⟩) ms many c :=
 h.turn i hi ⟨q', hp⟩ (.of (f.mono fun k _ hk e => hk (e ▸ hp.pb)) hp.px)
theorem PNs.group [Old] [NoOld] {X P : Nat → Prop} {w w' : World} {b : Nat} {n : Nd} {q : NV} (h : PNs X P w b n q) (hf : Fr (fun c _ => c ≠ b) w w') (zs : List Int) (v : Value) (ht : w'.heap[b]? = some (.cells (W14 { n with conf := zs } { q with vc := v }) 99 (0, 0))) (hc : IntsAt (RO X) w' v zs) : PNs X P w' b { n with conf := zs } { q with vc := v } := by
 have aft : Aft X P X P w w' := .of (hf.mono fun c _ hc e => hc (e ▸ h.pb)) h.px
 exact ⟨ht, hc, ownsRow_fr h.ye hf fun c o e ho => (h.yb c e).1, h.yp, h.ev.aft aft, h.ee, h.nx.fr hf fun _ _ => h.bn_b, h.mt.fr hf fun _ _ => h.bm_b, h.nm, h.pb, h.pn, h.pm, h.px, fun c hc => Nat.lt_of_lt_of_le (h.hx c hc) hf.size, h.od⟩
theorem Grp.conf [Old] [NoOld] (h : Grp X w G l ms many c) (i : Nat) (hi : i < l.length) (zs : List Int) {cs : Array Value} (hcs : ∀ k (hk : k < zs.length), cs[k]? = some (.int .i64 zs[k])) {b : Nat} (hb : l[i].b = b) {W1 W2 : World} (e1 : w.alloc (.cells cs 3 (0, 0)) = W1) (e2 : W1.setCell ⟨b, 4, none⟩ (.slice (some ⟨w.heap.size, 0, none⟩) zs.length zs.length) = W2) (P : Nat → Prop) (hP : l[i].P = P) {n : Nd} (hn : l[i].n = n) : Grp X W2 G (l.set i ⟨b, { n with conf := zs }, P⟩) ms many c ∧ Fr (fun q _ => q ≠ b) w W2 := by
 subst hb hP hn
 have f1 : Fr (fun _ _ => True) w W1 := e1 ▸ (Fr.refl _ _).alloc _
 have f2 : Fr (fun q _ => q ≠ l[i].b) W1 W2 := e2 ▸ (Fr.refl _ _).setCell (fun _ _ h => h rfl) _
 have h1 := h.tt f1
 obtain ⟨q, hq⟩ := h1.nd _ (List.getElem_mem hi)
 have hlt : l[i].b < w.heap.size := by
  obtain ⟨q0, hq0⟩ := h.nd _ (List.getElem_mem hi)
  exact lt_of_some hq0.top
 have t1 : W1.heap[w.heap.size]? = some (.cells cs 3 (0, 0)) := by rw [← e1]; exact heap_alloc_new _ _
 have t2 : W2.heap[w.heap.size]? = some (.cells cs 3 (0, 0)) := f2.keep _ _ t1 (by omega)
 refine ⟨h1.own i hi f2 (hq.group f2 zs (.slice (some ⟨w.heap.size, 0, none⟩) zs.length zs.length) ?_ ?_), (f1.mono fun _ _ _ => trivial).trans f2⟩
 ·rw [← e2]; exact heap_setCell_same (o := 4) hq.top _
 ·refine ⟨_, zs.length, rfl, .inr ⟨w.heap.size, 0, _, rfl, t2, ⟨fun hx => ?_, .inr ⟨_, _, _, rfl, by decide⟩⟩, fun k hk => ?_⟩⟩
  ·have := h.hx _ hx; omega
  ·rw [Nat.zero_add]; exact cell_mk t2 (hcs k hk)
end
end Go.Proofs.YtmjccpfchhnfhaaGreat
