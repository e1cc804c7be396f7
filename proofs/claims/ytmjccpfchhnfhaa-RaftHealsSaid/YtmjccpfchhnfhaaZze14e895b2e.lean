/- Texts of the proofs, part 39: what the functions that they reach do, walked; no conditions beyond those that each states. -/
import Derived.Deep.DeepCutAuto
import Derived.Test.YtmjccpfchhnfhaaZz09bab24ae3
set_option linter.unusedVariables false
set_option linter.unusedSimpArgs false
/- Law 12: what lies in a group, for the walk of play. -/
namespace Go.Proofs.Ytmjccpfchhnfhaa
open Go.RowKit
set_option linter.unusedVariables false
set_option linter.unusedSimpArgs false
theorem own_cell1 {w : World} {B : Nat} {e : TypeId} {g n c : Nat} {xs : List Value} (h : w.ownsRow B e 1 (.slice (some ⟨g, 0, none⟩) n c) n xs) (i : Nat) (hi : i < xs.length) : w.cell? ⟨g, i, none⟩ = some xs[i] := by
 rcases h.2 with ⟨h, _⟩ | ⟨g', cap, cur, h, _, hg, hn, _, hs, ht⟩
 ·cases h
 ·cases h
  have h1 := h.1
  refine cell_mk hg ?_
  have h2 : (cur.toList.take (n * 1))[i]? = some xs[i] := by rw [ht]; exact List.getElem?_eq_getElem hi
  rw [List.getElem?_take, if_pos (by omega)] at h2
  simpa using h2
section
variable {X : Nat → Prop} {w : World} {G : Nat} {l : List Nx} {ms : List MV} {many : Int} {c : GV}
theorem Grp.nrow [Old] [NoOld] (h : Grp X w G l ms many c) (h0 : 0 < l.length) : ∃ gn cn, c.vn = .slice (some ⟨gn, 0, none⟩) l.length cn ∧ ∀ i, (hi : i < l.length) → ∀ W, FT w W → W.cell? ⟨gn, i, none⟩ = some (.pointer (some ⟨l[i].b, 0, none⟩)) := by
 rcases h.rn.2 with ⟨_, e⟩ | ⟨g, cap, cur, e, r⟩
 ·omega
 ·refine ⟨g, cap, e, fun i hi W f => ?_⟩
  have hr := ownsRow_fr h.rn f fun _ _ _ _ => trivial
  rw [e] at hr
  have := own_cell1 hr i (by rw [List.length_map]; exact hi)
  rw [List.getElem_map] at this
  exact this
theorem Grp.mcell [Old] [NoOld] (h : Grp X w G l ms many c) (i : Nat) (hi : i < ms.length) : ∃ gm off cm, c.vm = .slice (some ⟨gm, off, none⟩) ms.length cm ∧ ∀ W, FT w W → (W.cell? ⟨gm, off + i * 10, none⟩ = some (.int .i64 ms[i].kind) ∧ W.cell? ⟨gm, off + i * 10 + 1, none⟩ = some (.int .i64 ms[i].src) ∧ W.cell? ⟨gm, off + i * 10 + 2, none⟩ = some (.int .i64 ms[i].dst) ∧ W.cell? ⟨gm, off + i * 10 + 3, none⟩ = some (.int .u64 (ms[i].tm : Nat)) ∧ W.cell? ⟨gm, off + i * 10 + 4, none⟩ = some (.int .u64 (ms[i].index : Nat)) ∧ W.cell? ⟨gm, off + i * 10 + 5, none⟩ = some (.int .u64 (ms[i].prev : Nat)) ∧ W.cell? ⟨gm, off + i * 10 + 6, none⟩ = some (.int .u64 (ms[i].commit : Nat)) ∧ W.cell? ⟨gm, off + i * 10 + 7, none⟩ = some (.bool ms[i].ok) ∧ W.cell? ⟨gm, off + i * 10 + 8, none⟩ = some (.slice ms[i].da ms[i].d.length ms[i].dc) ∧ W.cell? ⟨gm, off + i * 10 + 9, none⟩ = some (.slice ms[i].ea ms[i].es.length ms[i].ec)) := by
 have hr := h.rm.rows
 obtain ⟨a, c', e, hcc, h1⟩ := hr
 rcases h1 with h1 | ⟨gm, off, o, ha, ho, hk, hc⟩
 ·rw [h1] at hi; cases hi
 ·refine ⟨gm, off, c', by rw [e, ha], fun W f => ?_⟩
  have g : ∀ j u, (encM ms[i])[j]? = some u → W.cell? ⟨gm, off + i * 10 + j, none⟩ = some u := fun j u hu => f.cell (fun _ _ => trivial) (hc i hi j u hu)
  exact ⟨g 0 _ rfl, g 1 _ rfl, g 2 _ rfl, g 3 _ rfl, g 4 _ rfl, g 5 _ rfl, g 6 _ rfl, g 7 _ rfl, g 8 _ rfl, g 9 _ rfl⟩
end
end Go.Proofs.Ytmjccpfchhnfhaa
/- Law 13: send, arrive (printed by yl.py). -/
namespace Go.Proofs.Ytmjccpfchhnfhaa
open Go.RowKit
set_option linter.unusedVariables false
set_option linter.unusedSimpArgs false
structure Gs where
 ns : List Nd
 aps : List Nat
 ms : List Ms
 tl : List Nat
 many : Int
namespace Gs
def send (s : Gs) (l : List Ms) : Gs := if s.ms.length < 3000 then { s with ms := s.ms ++ l } else s
def arrive (s : Gs) (k : Nat) : Gs :=
 let m := s.ms.getD k zMs
 if m.dst < 0 ∨ (s.ns.length : Int) ≤ m.dst then s else
  let r := ((s.ns.getD m.dst.toNat default).step m).1
  ({ s with ns := s.ns.set m.dst.toNat r.1 } : Gs).send r.2
end Gs
def St (l : List Rx) (ms : List MV) (tk : List (Value × Nat)) (many : Int) : Gs := ⟨l.map (·.n), l.map (·.ap), ms.map MV.ms, tk.map Prod.snd, many⟩
structure GI (B : Nat) (s : Gs) : Prop where
 nd : ∀ n ∈ s.ns, Gw B B n
 ap : ∀ a ∈ s.aps, a ≤ B
 ms : ∀ m ∈ s.ms, Bm B m ∧ m.data = []
 ln : s.ms.length ≤ 5000
def Gr13 [Old] (B : Nat) (w : World) (G : Nat) (s : Gs) : Prop := ∃ X l ms tk many vn vm vt, G13 B X w G l ms tk many vn vm vt ∧ St l ms tk many = s
def GOut [Old] (B : Nat) (w : World) (G : Nat) (s : Gs) (e : Ending) (w' : World) : Prop := e = .returned (.tuple #[]) ∧ Gr13 B w' G s ∧ Fr (fun c _ => c < B) w w'
def Rx.ids (x : Rx) : Nat × Nat := (x.b, x.rb)
def GrL [Old] (B : Nat) (w : World) (G : Nat) (L : List (Nat × Nat)) (s : Gs) : Prop := ∃ X l ms tk many vn vm vt, G13 B X w G l ms tk many vn vm vt ∧ St l ms tk many = s ∧ l.map Rx.ids = L
def GOutL [Old] (B : Nat) (w : World) (G : Nat) (L : List (Nat × Nat)) (s : Gs) (e : Ending) (w' : World) : Prop := e = .returned (.tuple #[]) ∧ GrL B w' G L s ∧ Fr (fun c _ => c < B) w w'
theorem GrL.gr [Old] {B : Nat} {w : World} {G : Nat} {L : List (Nat × Nat)} {s : Gs} (h : GrL B w G L s) : Gr13 B w G s := by
 obtain ⟨X, l, ms, tk, many, vn, vm, vt, h1, h2, -⟩ := h
 exact ⟨X, l, ms, tk, many, vn, vm, vt, h1, h2⟩
theorem GOutL.gr [Old] {B : Nat} {w : World} {G : Nat} {L : List (Nat × Nat)} {s : Gs} {e : Ending} {w' : World} (h : GOutL B w G L s e w') : GOut B w G s e w' := ⟨h.1, h.2.1.gr, h.2.2⟩
theorem ids_set {l : List Rx} {i : Nat} (hi : i < l.length) {n : Nd} {ap : Nat} {P : Nat → Prop} : (l.set i ⟨l[i].b, l[i].rb, n, ap, P⟩).map Rx.ids = l.map Rx.ids := by
 apply List.ext_getElem?
 intro j
 rw [List.getElem?_map, List.getElem?_map, List.getElem?_set]
 split
 ·rename_i e
  subst e
  rw [List.getElem?_eq_getElem hi]; rfl
 ·rfl
section
variable {B : Nat} {X X' P' : Nat → Prop} {w w' : World} {G : Nat} {l : List Rx} {ms : List MV} {tk : List (Value × Nat)} {many : Int} {vn vm vt : Value}
theorem G13.frB [Old] (h : G13 B X w G l ms tk many vn vm vt) {P : Nat → Prop} (a : Aft X P X' P' w w') : Fr (fun c _ => c < B) w w' := a.fr.mono fun c _ hc hp => by have := h.lx c (a.hp c hp); omega
theorem G13.nrow [Old] [NoOld] (h : G13 B X w G l ms tk many vn vm vt) (h0 : 0 < l.length) : ∃ gn cn, vn = .slice (some ⟨gn, 0, none⟩) l.length cn ∧ ∀ W, FT w W → ∀ i, (hi : i < l.length) → W.cell? ⟨gn, i, none⟩ = some (.pointer (some ⟨l[i].rb, 0, none⟩)) ∧ W.cell? ⟨l[i].rb, 0, none⟩ = some (.pointer (some ⟨l[i].b, 0, none⟩)) := by
 rcases h.rn.2 with ⟨_, e⟩ | ⟨g, cap, cur, e, r⟩
 ·omega
 ·refine ⟨g, cap, e, fun W f i hi => ?_⟩
  have hr := ownsRow_fr h.rn f fun _ _ _ _ => trivial
  rw [e] at hr
  have := own_cell1 hr i (by rw [List.length_map]; exact hi)
  rw [List.getElem_map] at this
  exact ⟨this, cell_mk (f.keep _ _ (h.rb _ (List.getElem_mem hi)).1 trivial) rfl⟩
theorem G13.gcells [Old] (h : G13 B X w G l ms tk many vn vm vt) {W : World} (f : FT w W) : W.cell? ⟨G, 0, none⟩ = some vn ∧ W.cell? ⟨G, 1, none⟩ = some vm ∧ W.cell? ⟨G, 2, none⟩ = some vt ∧ W.cell? ⟨G, 3, none⟩ = some (.int .i64 many) := by
 have t := f.keep _ _ h.top trivial
 exact ⟨cell_mk t rfl, cell_mk t rfl, cell_mk t rfl, cell_mk t rfl⟩
theorem G13.mcell [Old] [NoOld] (h : G13 B X w G l ms tk many vn vm vt) (i : Nat) (hi : i < ms.length) : ∃ gm off cm, vm = .slice (some ⟨gm, off, none⟩) ms.length cm ∧ ∀ W, FT w W → ∀ j u, (encM ms[i])[j]? = some u → W.cell? ⟨gm, off + i * 10 + j, none⟩ = some u := by
 obtain ⟨a, c', e, hcc, h1⟩ := h.rm.rows
 rcases h1 with h1 | ⟨gm, off, o, ha, ho, hk, hc⟩
 ·rw [h1] at hi; cases hi
 ·exact ⟨gm, off, c', by rw [e, ha], fun W f j u hu => f.cell (fun _ _ => trivial) (hc i hi j u hu)⟩
def SentOut [Old] (B : Nat) (X : Nat → Prop) (w : World) (G : Nat) (l : List Rx) (tk : List (Value × Nat)) (many : Int) (vn vt : Value) (s : Gs) : Prop := ∃ ms' vm', G13 B X w G l ms' tk many vn vm' vt ∧ St l ms' tk many = s
set_option maxRecDepth 100000 in
set_option maxHeartbeats 8000000 in
theorem send_fine [Old] [NoOld] (h : G13 B X w G l ms tk many vn vm vt) {B0 : Nat} {v : Value} {mvs : List MV} (o : OwnMs X B0 w v mvs) (hm : ms.length ≤ 100000) (hv : mvs.length ≤ 100000) :
  Calls Try.prog 12 #[.pointer (some ⟨G, 0, none⟩), v] w fun e w' => e = .returned (.tuple #[]) ∧ SentOut B X w' G l tk many vn vt ((St l ms tk many).send (mvs.map MV.ms)) ∧ Fr (fun q _ => q ≠ G ∧ vm.ownBlock ≠ some q) w w' := by
 obtain ⟨gm, cm, hvm⟩ := ownsRow_form h.rm.row
 obtain ⟨gb, cb, hvb⟩ := ownsRow_form o.row
 subst hvb
 obtain ⟨k, hk⟩ : ∃ x, ms.length = x := ⟨_, rfl⟩
 obtain ⟨kb, hkb⟩ : ∃ x, mvs.length = x := ⟨_, rfl⟩
 rw [hk] at hvm
 have H := Lib.hid h
 have O := Lib.hid o
 have OW : Hid (w.ownsRow 0 74 10 (.slice gm k cm) ms.length (ms.flatMap encM)) := own_re (hvm ▸ h.rm.row) (fun _ _ => Nat.zero_le _)
 have RW := Lib.hid o.rows
 have y1 := (h.gcells (Fr.refl _ w)).2.1
 rw [hvm] at y1
 have z1 := frozen_mk (i := 1) h.top
 have HV := Lib.hid hvm
 have HK := Lib.hid (And.intro hk hkb)
 have SE : Hid ((St l ms tk many).ms.length = k) := by show (ms.map MV.ms).length = k; rw [List.length_map, hk]
 rw [hkb] at RW ⊢
 by_cases hlt : k < 3000
 ·have hltI : (k : Int) < 3000 := by omega
  obtain ⟨N, hN⟩ : ∃ x, k + kb = x := ⟨_, rfl⟩
  have HN : Hid ((ms ++ mvs).length = N) := by show _ = _; rw [List.length_append, hk, hkb]; exact hN
  have hn : N ≤ 1000000 := by omega
  have EQ : Hid ((St l ms tk many).send (mvs.map MV.ms) = St l (ms ++ mvs) tk many) := by
   show (St l ms tk many).send (mvs.map MV.ms) = _
   unfold Gs.send
   rw [if_pos (by rw [SE.out]; exact hlt)]
   unfold St
   rw [List.map_append]
  clear h o hvm hk hkb hN hm hv hlt
  go_enter Try.func12, Try.ntmps12
  go_wp2_with (at_builtin; refine wpList_append_mso w rfl _ _ rfl (.slice gm k cm) ms rfl OW (.slice gb kb cb) mvs rfl RW N HN hn ?_)
  intro g4 c4 W4 O5 F5 N5
  have gne : Hid ((Value.slice gm k cm).ownBlock ≠ some G) := by show _ ≠ _; rw [← HV.out]; exact tag_cell H.out.rm.row H.out.top (by decide)
  have T4 : W4.heap[G]? = some (.cells #[vn, vm, vt, .int .i64 many] 53 (0, 0)) := F5.keep _ _ H.top gne
  clear y1 z1
  have y1 : W4.cell? ⟨G, 1, none⟩ = some (.slice gm k cm) := by rw [← HV.out]; exact cell_mk T4 rfl
  have z1 := frozen_mk (i := 1) T4
  obtain ⟨W5, hW5⟩ : ∃ Y, W4.setCell ⟨G, 1, none⟩ (.slice g4 N c4) = Y := ⟨_, rfl⟩
  have f5 : Fr (fun q _ => q ≠ G) W4 W5 := hW5 ▸ (Fr.refl _ _).setCell (fun _ _ h => h rfl) _
  have og := offCell H.top (by decide) H.gx
  have lo : ∀ q, (Value.slice g4 N c4).ownBlock = some q → B ≤ q ∧ ¬ X q := fun q e => by
   rcases N5 with q9 | ⟨k9, q9, hk9⟩
   ·rw [q9, ← HV.out] at e; exact ⟨own_base H.out.rm.row q e, H.out.rm.off q e⟩
   ·rw [q9] at e; cases e; exact ⟨Nat.le_trans H.out.bs hk9, fun hx => by have := H.out.hx _ hx; omega⟩
  have o4 : OwnMs X B W4 (.slice g4 N c4) (ms ++ mvs) := (HV.out ▸ H.out.rm).app O.out.at' H.out.hx (own_re (by rw [HN.out, List.flatMap_append]; exact O5.out) fun q e => (lo q e).1) F5.out N5.out
  have T5 : W5.heap[G]? = some (.cells #[vn, .slice g4 N c4, vt, .int .i64 many] 53 (0, 0)) := by rw [← hW5]; exact heap_setCell_same (o := 1) T4 _
  have hx4 : ∀ q, X q → q < W4.heap.size := fun q hq => Nat.lt_of_lt_of_le (H.hx q hq) F5.size
  have o5 : OwnMs X B W5 (.slice g4 N c4) (ms ++ mvs) := ⟨ownsRow_fr o4.row f5 fun q o e ho hk => tag_cell o4.row T4 (by decide) (hk ▸ e), o4.off, fun m hm => (o4.at' m hm).keep f5 fun q o ho hr => offCell T4 (by decide) H.out.gx q o ho (.inr hr)⟩
  have FF : Fr (fun q _ => q ≠ G ∧ vm.ownBlock ≠ some q) w W5 := (F5.out.mono fun q _ h e => h.2 (by rw [HV.out]; exact e)).trans (f5.mono fun q _ h => h.1)
  have G5 := Lib.hid (H.msgs FF T5 o5)
  have FB := Lib.hid FF
  clear T4 T5 f5 og lo o4 hx4 o5 FF O5 F5 N5
  go_wp2
  try rw [hW5]
  go_end0
  exact ⟨rfl, ⟨ms ++ mvs, _, G5, EQ.symm⟩, FB⟩
 ·have hge : ¬ (k : Int) < 3000 := by omega
  have EQ : Hid ((St l ms tk many).send (mvs.map MV.ms) = St l ms tk many) := by
   show (St l ms tk many).send (mvs.map MV.ms) = _
   unfold Gs.send
   rw [if_neg (by rw [SE.out]; exact hlt)]
  clear h o hvm hk hkb hm hv hlt
  go_enter Try.func12, Try.ntmps12
  go_wp2
  go_end0
  exact ⟨rfl, ⟨ms, vm, H, EQ.symm⟩, Fr.refl _ _⟩
theorem sendL_calls [Old] [NoOld] (h : G13 B X w G l ms tk many vn vm vt) {B0 : Nat} {v : Value} {mvs : List MV} (o : OwnMs X B0 w v mvs) (hm : ms.length ≤ 100000) (hv : mvs.length ≤ 100000) :
  Calls Try.prog 12 #[.pointer (some ⟨G, 0, none⟩), v] w fun e w' => GOutL B w G (l.map Rx.ids) ((St l ms tk many).send (mvs.map MV.ms)) e w' :=
 (send_fine h o hm hv).mono fun e w' ⟨h1, ⟨ms', vm', h2, h3⟩, h4⟩ => ⟨h1, ⟨X, l, ms', tk, many, vn, vm', vt, h2, h3, rfl⟩, h4.mono fun q _ hq => ⟨fun e => by have := h.lg; have hq' : q < B := hq; omega, fun e => by have := own_base h.rm.row q e; have hq' : q < B := hq; omega⟩⟩
theorem send_calls [Old] [NoOld] (h : G13 B X w G l ms tk many vn vm vt) {B0 : Nat} {v : Value} {mvs : List MV} (o : OwnMs X B0 w v mvs) (hm : ms.length ≤ 100000) (hv : mvs.length ≤ 100000) :
  Calls Try.prog 12 #[.pointer (some ⟨G, 0, none⟩), v] w fun e w' => GOut B w G ((St l ms tk many).send (mvs.map MV.ms)) e w' :=
 (sendL_calls h o hm hv).mono fun e w' q => q.gr
theorem Nd.step_len (n : Nd) (m : Ms) : ((n.step m).1).2.length ≤ 2 * n.conf.length + 3 := by
 have h1 := Nd.onAsk_len n m
 have h2 := Nd.onAnswer_len (n.onAsk m).1 m
 have h3 := Nd.onAppend_len ((n.onAsk m).1.onAnswer m).1 m
 have h4 := Nd.onAcked_len (((n.onAsk m).1.onAnswer m).1.onAppend m).1 m
 rw [(Nd.onAsk_up n m).conf] at h2
 have hh : (n.hear m).2.length ≤ n.conf.length + 3 := by
  show ((n.onAsk m).2 ++ ((n.onAsk m).1.onAnswer m).2 ++ (((n.onAsk m).1.onAnswer m).1.onAppend m).2 ++ ((((n.onAsk m).1.onAnswer m).1.onAppend m).1.onAcked m).2).length ≤ _
  simp only [List.length_append]
  omega
 have hb := Nd.beat_len (n.hear m).1
 rw [(Nd.hear_up n m).conf] at hb
 unfold Nd.step
 split
 ·exact Nat.zero_le _
 ·show (n.led (n.hear m)).2.length ≤ _
  unfold Nd.led
  split
  ·rw [List.length_append]; omega
  ·omega
theorem Gw.gn {B E : Nat} {n : Nd} {m : Ms} (h : Gw B E n) (hb : B ≤ 90000) (he : E ≤ 90000) (hm : Bm B m) : Gn n m :=
 ⟨h.cf, fun x hx => (h.pos x hx).1, h.me, by have := h.ye; omega, by have := h.es; omega, h.bn.mono (by omega), hm.mono (by omega), by have := hm.index; omega⟩
set_option maxRecDepth 100000 in
set_option maxHeartbeats 8000000 in
theorem arriveL_calls [Old] [NoOld] (h : G13 B X w G l ms tk many vn vm vt) (k : Nat) (hk : k < ms.length) (h0 : 0 < l.length) (hl5 : l.length ≤ 16) (Bd : Nat) (hBd : Bd ≤ 80000) (hI : GI Bd (St l ms tk many)) (hno : ∀ c, ¬ Old.o c) :
  Calls Try.prog 28 #[.pointer (some ⟨G, 0, none⟩), .int .i64 (k : Nat)] w fun e w' => GOutL B w G (l.map Rx.ids) ((St l ms tk many).arrive k) e w' := by
 obtain ⟨gm, off, cm, hvm, MC⟩ := h.mcell k hk
 obtain ⟨gn, cn, hvn, NC⟩ := h.nrow h0
 obtain ⟨m, hm⟩ : ∃ x, ms[k] = x := ⟨_, rfl⟩
 have hmm : m ∈ ms := hm ▸ List.getElem_mem hk
 obtain ⟨M, hM⟩ : ∃ x, ms.length = x := ⟨_, rfl⟩
 obtain ⟨N, hN⟩ : ∃ x, l.length = x := ⟨_, rfl⟩
 obtain ⟨hmb, hmd⟩ := hI.ms m.ms (List.mem_map.2 ⟨m, hmm, rfl⟩)
 have hM5 : M ≤ 5000 := by have := hI.ln; have e : (St l ms tk many).ms.length = ms.length := List.length_map _; omega
 have HMD : Hid (m.d = []) := hmd
 have HMB := Lib.hid hmb
 have HND : Hid (∀ x ∈ l, Gw Bd Bd x.n) := fun x hx => hI.nd _ (List.mem_map.2 ⟨x, hx, rfl⟩)
 have HMS := Lib.hid (h.rm.at' m hmm)
 have LN := Lib.hid (And.intro hM (And.intro hN (And.intro hM5 (And.intro hl5 hBd))))
 have GD : Hid ((St l ms tk many).ms.getD k zMs = m.ms) := by
  show (ms.map MV.ms).getD k zMs = m.ms
  rw [List.getD_eq_getElem?_getD, List.getElem?_map, List.getElem?_eq_getElem hk, hm]; rfl
 rw [hm] at MC
 rw [hM] at hvm hk
 rw [hN] at hvn h0 hl5
 have hM63 : (M : Int) ≤ 5000 := by omega
 have hkI : (k : Int) < (M : Int) := by omega
 obtain ⟨d, hdd⟩ : ∃ x, m.dst = x := ⟨_, rfl⟩
 have HD := Lib.hid hdd
 obtain ⟨s, hsd⟩ : ∃ x, (St l ms tk many) = x := ⟨_, rfl⟩
 have HSS := Lib.hid hsd
 obtain ⟨res, hres⟩ : ∃ x, s.arrive k = x := ⟨_, rfl⟩
 rw [hsd, hres]
 have HRES := Lib.hid hres
 have H := Lib.hid h
 have H0 := Lib.hid h0
 have MC' := MC w (Fr.refl _ _)
 have c0 := MC' 0 _ rfl
 have c1 := MC' 1 _ rfl
 have c2 := MC' 2 _ rfl
 have c3 := MC' 3 _ rfl
 have c4 := MC' 4 _ rfl
 have c5 := MC' 5 _ rfl
 have c6 := MC' 6 _ rfl
 have c7 := MC' 7 _ rfl
 have c8 := MC' 8 _ rfl
 have c9 := MC' 9 _ rfl
 rw [Nat.add_zero] at c0
 rw [hdd] at c2
 obtain ⟨-, y1, -, -⟩ := h.gcells (Fr.refl _ w)
 rw [hvm] at y1
 obtain ⟨w1, hw1⟩ : ∃ Y, w.alloc (.cells #[.int .i64 0, .int .i64 0, .int .i64 0, .int .u64 0, .int .u64 0, .int .u64 0, .int .u64 0, .bool false, .slice none 0 0, .slice none 0 0] 74 (0, 0)) = Y := ⟨_, rfl⟩
 have t1 : w1.heap[w.heap.size]? = some (.cells #[.int .i64 0, .int .i64 0, .int .i64 0, .int .u64 0, .int .u64 0, .int .u64 0, .int .u64 0, .bool false, .slice none 0 0, .slice none 0 0] 74 (0, 0)) := hw1 ▸ heap_alloc_new _ _
 have f1 : Fr (fun _ _ => True) w w1 := hw1 ▸ (Fr.refl _ _).alloc _
 obtain ⟨w4, hw4, t4, f4⟩ := set10 t1 (.int .i64 m.kind) (.int .i64 m.src) (.int .i64 d) (.int .u64 (m.tm : Nat)) (.int .u64 (m.index : Nat)) (.int .u64 (m.prev : Nat)) (.int .u64 (m.commit : Nat)) (.bool m.ok) (.slice m.da m.d.length m.dc) (.slice m.ea m.es.length m.ec)
 have F4 : Hid (Fr (fun _ _ => True) w w4) := Fr.within ((f1.mono fun _ _ _ => trivial : Fr (fun c _ => True ∧ c < w.heap.size) w w1).trans (f4.mono fun c _ h e => by have := h.2; omega))
 have T4 : Hid (w4.heap[w.heap.size]? = some (.cells (cM m) 74 (0, 0))) := by show w4.heap[w.heap.size]? = some (.cells (cM m) 74 (0, 0)); rw [t4]; unfold cM; rw [hdd]
 obtain ⟨a0, a1, a2, a3, a4, a5, a6, a7, a8, a9⟩ := mcells (m := zMV) t1
 have z0 := frozen_mk (i := 0) t1
 have z1 := frozen_mk (i := 1) t1
 have z2 := frozen_mk (i := 2) t1
 have z3 := frozen_mk (i := 3) t1
 have z4 := frozen_mk (i := 4) t1
 have z5 := frozen_mk (i := 5) t1
 have z6 := frozen_mk (i := 6) t1
 have z7 := frozen_mk (i := 7) t1
 have z8 := frozen_mk (i := 8) t1
 have z9 := frozen_mk (i := 9) t1
 have NC' := Lib.hid NC
 have HVN := Lib.hid hvn
 clear h hI hvm MC MC' NC hm hmm hM hN hmb hmd hM5 h0 hl5 hdd hsd hres hBd hno f1 f4 t4 t1 hvn
 go_enter Try.func28, Try.ntmps28
 go_upto_region 1 with fail
 try rw [hw1]
 try rw [hw4]
 clear hw1 hw4 a0 a1 a2 a3 a4 a5 a6 a7 a8 a9 z0 z1 z2 z3 z4 z5 z6 z7 z8 z9 c0 c1 c2 c3 c4 c5 c6 c7 c8 c9 y1
 have H4 := Lib.hid (H.out.tt F4.out)
 have y0 : w4.cell? ⟨G, 0, none⟩ = some (.slice (some ⟨gn, 0, none⟩) N cn) := by rw [(H4.out.gcells (Fr.refl _ w4)).1, HVN.out]
 have v2 : w4.cell? ⟨w.heap.size, 2, none⟩ = some (.int .i64 d) := by rw [← HD.out]; exact (mcells T4.out).2.2.1
 have hN16 : (N : Int) ≤ 16 := by have := LN.out.2.2.2.1; have := LN.out.2.1; omega
 by_cases hd0 : d < 0
 case pos =>
  have OUT : Hid (res = s) := by
   show res = s
   rw [← HRES.out]
   unfold Gs.arrive
   rw [← HSS.out, GD.out]
   exact if_pos (.inl (by rw [show m.ms.dst = d from HD.out]; exact hd0))
  go_quiet (fail)
  have U : Hid (Fr (fun _ _ => True) w4 (w4.drewN nq)) := (Fr.refl _ w4).drewN nq
  go_wp2
  go_end0
  rw [OUT.out, ← HSS.out]
  exact ⟨rfl, ⟨X, l, ms, tk, many, vn, vm, vt, H4.out.tt U.out, rfl, rfl⟩, (F4.out.trans U.out).mono fun _ _ _ => trivial⟩
 case neg =>
  by_cases hdN : (N : Int) ≤ d
  case pos =>
   have OUT : Hid (res = s) := by
    show res = s
    rw [← HRES.out]
    unfold Gs.arrive
    rw [← HSS.out, GD.out]
    refine if_pos (.inr ?_)
    rw [show m.ms.dst = d from HD.out]
    show ((l.map (·.n)).length : Int) ≤ d
    rw [List.length_map, LN.out.2.1]
    exact hdN
   go_quiet (fail)
   have U : Hid (Fr (fun _ _ => True) w4 (w4.drewN nq)) := (Fr.refl _ w4).drewN nq
   go_wp2
   go_end0
   rw [OUT.out, ← HSS.out]
   exact ⟨rfl, ⟨X, l, ms, tk, many, vn, vm, vt, H4.out.tt U.out, rfl, rfl⟩, (F4.out.trans U.out).mono fun _ _ _ => trivial⟩
  case neg =>
   obtain ⟨i, rfl⟩ : ∃ i : Nat, d = (i : Nat) := ⟨d.toNat, by omega⟩
   have hiN : i < N := by omega
   have hi : i < l.length := by rw [LN.out.2.1]; exact hiN
   have HI : Hid (i < l.length) := hi
   obtain ⟨x, hx⟩ : ∃ x, l[i] = x := ⟨_, rfl⟩
   have HX : Hid (l[i]'HI.out = x) := hx
   have hxl : x ∈ l := hx ▸ List.getElem_mem hi
   obtain ⟨rb, hrb⟩ : ∃ y, x.rb = y := ⟨_, rfl⟩
   have gwx := HND.out x hxl
   have OUT : Hid (res = ({ s with ns := s.ns.set i ((x.n.step m.ms).1).1 } : Gs).send ((x.n.step m.ms).1).2) := by
    show res = _
    rw [← HRES.out]
    have e1 : s.ns.getD i default = x.n := by
     rw [← HSS.out]
     show (l.map (·.n)).getD i default = x.n
     rw [List.getD_eq_getElem?_getD, List.getElem?_map, List.getElem?_eq_getElem hi]; exact congrArg (fun y : Rx => y.n) hx
    have e2 : s.ms.getD k zMs = m.ms := by rw [← HSS.out]; exact GD.out
    have e3 : (s.ns.length : Int) = (N : Int) := by rw [← HSS.out]; show ((l.map (·.n)).length : Int) = _; rw [List.length_map, LN.out.2.1]
    unfold Gs.arrive
    dsimp only
    rw [e2, if_neg (by rw [show m.ms.dst = (i : Int) from HD.out, e3]; omega), show m.ms.dst = (i : Int) from HD.out, Int.toNat_natCast, e1]
   obtain ⟨q0, hq0⟩ := H4.out.nd x hxl
   have RBX := (H4.out.rb x hxl)
   have gn13 := gwx.gn (m := m.ms) (by have := LN.out.2.2.2.2; omega) (by have := LN.out.2.2.2.2; omega) HMB.out
   have hes : m.es.length ≤ 80000 := by have := HMB.out.index; rw [m.esl] at this; have := LN.out.2.2.2.2; omega
   have SC : Hid (∀ W, Fr (fun _ _ => True) w4 W → Calls Try.prog 25 #[.pointer (some ⟨rb, 0, none⟩), .agg (cM m)] W fun e w' => SOut X x.P W x.b (x.n.step m.ms) e w') := fun W f => by
    rw [← hrb]
    exact rstep_calls (hq0.tt f) (RBX.1.fr f fun _ => trivial) (fun e => RBX.2.1 (hq0.px _ e)) m ((HMS.out.tt F4.out).tt f) (by omega) (by rw [HMD.out]; exact Nat.zero_le _) (fun c hc => absurd hc (NoOld.no c)) (fun _ => gn13)
   have CC : Hid (∀ W, Fr (fun _ _ => True) w4 W → W.cell? ⟨G, 0, none⟩ = some (.slice (some ⟨gn, 0, none⟩) N cn) ∧ W.cell? ⟨gn, i, none⟩ = some (.pointer (some ⟨rb, 0, none⟩)) ∧ W.cell? ⟨w.heap.size, 0, none⟩ = some (.int .i64 m.kind) ∧ W.cell? ⟨w.heap.size, 1, none⟩ = some (.int .i64 m.src) ∧ W.cell? ⟨w.heap.size, 2, none⟩ = some (.int .i64 (i : Nat)) ∧ W.cell? ⟨w.heap.size, 3, none⟩ = some (.int .u64 (m.tm : Nat)) ∧ W.cell? ⟨w.heap.size, 4, none⟩ = some (.int .u64 (m.index : Nat)) ∧ W.cell? ⟨w.heap.size, 5, none⟩ = some (.int .u64 (m.prev : Nat)) ∧ W.cell? ⟨w.heap.size, 6, none⟩ = some (.int .u64 (m.commit : Nat)) ∧ W.cell? ⟨w.heap.size, 7, none⟩ = some (.bool m.ok) ∧ W.cell? ⟨w.heap.size, 8, none⟩ = some (.slice m.da m.d.length m.dc) ∧ W.cell? ⟨w.heap.size, 9, none⟩ = some (.slice m.ea m.es.length m.ec)) := fun W f => by
    obtain ⟨b0, b1, b2, b3, b4, b5, b6, b7, b8, b9⟩ := mcells (f.keep _ _ T4.out trivial)
    rw [HD.out] at b2
    refine ⟨by rw [(H4.out.gcells f).1, HVN.out], ?_, b0, b1, b2, b3, b4, b5, b6, b7, b8, b9⟩
    have := (NC'.out W (F4.out.trans f) i hi).1
    rw [this, ← hrb]; exact congrArg (fun y : Rx => some (Value.pointer (some ⟨y.rb, 0, none⟩))) hx
   dsimp only [cM] at SC
   rw [HD.out] at SC
   have h0n : 0 < N := by omega
   clear hrb hx hxl gwx hq0 RBX gn13 hes hi
   have hiI : (i : Int) < (N : Int) := by omega
   go_quiet (fail)
   have U : Hid (Fr (fun _ _ => True) w4 (w4.drewN nq)) := (Fr.refl _ w4).drewN nq
   obtain ⟨w5, hw5⟩ : ∃ Y, w4.drewN nq = Y := ⟨_, rfl⟩
   rw [hw5] at U ⊢
   have CC5 := Lib.hid (fun W (f : Fr (fun _ _ => True) w5 W) => CC.out W (U.out.trans f))
   have SC5 := Lib.hid (fun W (f : Fr (fun _ _ => True) w5 W) => SC.out W (U.out.trans f))
   clear y0 v2 CC SC hw5
   go_wp2_with fail
   refine wp_region_cf (K := fun _ _ => True) (by kernel_rfl) [(28, 0), (29, 1), (30, 2), (31, 3), (32, 4), (33, 5), (34, 6), (35, 7), (36, 8), (37, 9), (27, 10), (38, 11), (39, 12), (5, 13), (6, 14)] [(0, []), (1, [0]), (2, [1]), (3, [2]), (4, []), (5, [4]), (6, [3, 5]), (7, [6]), (8, [])] (ckR [(0, .pointer (some ⟨G, 0, none⟩)), (1, .pointer (some ⟨G, 0, none⟩)), (2, .pointer (some ⟨G, 0, none⟩)), (3, .slice (some ⟨gn, 0, none⟩) N cn), (4, .pointer (some ⟨w.heap.size, 2, none⟩)), (5, .int .i64 (i : Nat)), (6, .pointer (some ⟨gn, i, none⟩)), (7, .pointer (some ⟨rb, 0, none⟩)), (8, .agg #[.int .i64 m.kind, .int .i64 m.src, .int .i64 (i : Nat), .int .u64 (m.tm : Nat), .int .u64 (m.index : Nat), .int .u64 (m.prev : Nat), .int .u64 (m.commit : Nat), .bool m.ok, .slice m.da m.d.length m.dc, .slice m.ea m.es.length m.ec])] [] 9 0) 6 (by kernel_rfl) (by kernel_rfl) (by kernel_rfl) rfl ?cfall ?cfend
   case cfall =>
    iterate 9
     refine CfAll.kk rfl rfl rfl (fun xs W hF hE K' hK => ?_) ?_
     ·have HF := Lib.hid hF
      clear hF
      simp only [ckEqs, ckLook, Nat.reduceBEq] at hE
      simp only [fillA, fillL, sA, sB, sC, Act.put, hE] at hK ⊢
      clear hE
      obtain ⟨y0, y1, v0, v1, v2, v3, v4, v5, v6, v7, v8, v9⟩ := CC5.out W ((Fr.refl (fun _ _ => True) w5).drew.trans HF.out)
      (try simp only [gA, gB, gC])
      go_simp
      exact hK.out _ rfl
    exact CfAll.nil
   case cfend =>
    intro xs W hF hA
    have HF := Lib.hid hF
    have hE := ckEnd rfl hA
    clear hA hF
    simp only [List.map_cons, List.map_nil, ckEqs, ckLook, Nat.reduceBEq] at hE
    simp only [fillA, fillL, sA, sB, sC, hE]
    clear hE
    have FW : Hid (Fr (fun _ _ => True) w5 W) := (Fr.refl _ w5).drew.trans HF.out
    have C := Lib.hid (SC5.out W FW.out)
    refine wpAny_next 9 (by kernel_rfl) rfl fun K' hK => ?_
    (try simp only [gA, gB, gC])
    go_simp
    (with_reducible refine C.out.mono ?_)
    rintro e w6 ⟨X6, P6, q6, v6, mvs, rfl, h6, a6, o6, e6⟩
    have HH := Lib.hid (And.intro h6 (And.intro o6 e6))
    have FW4 : Hid (Fr (fun _ _ => True) w W) := F4.out.trans (U.out.trans FW.out)
    have A6 : Hid (Aft X x.P X6 P6 w w6) := .lead FW4.out a6
    clear h6 a6 o6 e6 C SC5 CC5
    refine hK.out _ _ ?_
    clear hK K'
    refine wpAny_next 10 (by kernel_rfl) rfl fun K' hK => ?_
    (try simp only [gA, gB, gC])
    go_simp
    refine hK.out _ _ ?_
    clear hK K'
    refine wpAny_fork2 11 12 (by kernel_rfl) rfl rfl ?fa ?fb
    case' fa =>
     intro K' hK
     (try simp only [gA, gB, gC])
     go_simp
     refine hK.out _ _ ?_
     clear hK K'
     refine wpAny_fork2 12 13 (by kernel_rfl) rfl rfl ?fc ?fd
    case' fc =>
     intro K' hK
     (try simp only [gA, gB, gC])
     go_simp
     refine hK.out _ _ ?_
     clear hK K'
     refine wpAny_next 13 (by kernel_rfl) rfl fun K' hK => ?_
     (try simp only [gA, gB, gC])
     go_simp
     refine hK.out _ _ ?_
     clear hK K'
     refine wpAny_next 14 (by kernel_rfl) rfl fun K' hK => ?_
     (try simp only [gA, gB, gC])
     go_simp
     refine hK.out _ _ ?_
     clear hK K'
     refine wpAny_fin (by kernel_rfl) ?_
    case' fd =>
     intro K' hK
     (try simp only [gA, gB, gC])
     go_simp
     refine hK.out _ _ ?_
     clear hK K'
     refine wpAny_next 12 (by kernel_rfl) rfl fun K' hK => ?_
     (try simp only [gA, gB, gC])
     go_simp
     refine hK.out _ _ ?_
     clear hK K'
     refine wpAny_next 14 (by kernel_rfl) rfl fun K' hK => ?_
     (try simp only [gA, gB, gC])
     go_simp
     refine hK.out _ _ ?_
     clear hK K'
     refine wpAny_fin (by kernel_rfl) ?_
    case' fb =>
     intro K' hK
     (try simp only [gA, gB, gC])
     go_simp
     refine hK.out _ _ ?_
     clear hK K'
     refine wpAny_next 11 (by kernel_rfl) rfl fun K' hK => ?_
     (try simp only [gA, gB, gC])
     go_simp
     refine hK.out _ _ ?_
     clear hK K'
     refine wpAny_next 13 (by kernel_rfl) rfl fun K' hK => ?_
     (try simp only [gA, gB, gC])
     go_simp
     refine hK.out _ _ ?_
     clear hK K'
     refine wpAny_next 14 (by kernel_rfl) rfl fun K' hK => ?_
     (try simp only [gA, gB, gC])
     go_simp
     refine hK.out _ _ ?_
     clear hK K'
     refine wpAny_fin (by kernel_rfl) ?_
    all_goals
     have h6t : PN X6 P6 w6 (l[i]'HI.out).b ((x.n.step m.ms).1).1 := by rw [HX.out]; exact ⟨q6, HH.out.1⟩
     have G6 := H.out.turn i HI.out h6t (by rw [HX.out]; exact A6.out)
     have lb : mvs.length ≤ 100000 := by
      have e := congrArg List.length HH.out.2.2
      rw [List.length_map] at e
      rw [e]
      exact Nat.le_trans (Nd.step_len _ _) (by have := (HND.out x (HX.out ▸ List.getElem_mem HI.out)).cf.2; omega)
     have SD := Lib.hid (sendL_calls G6 HH.out.2.1 (by have := LN.out; omega) lb)
     have ES : Hid ((St (l.set i ⟨(l[i]'HI.out).b, (l[i]'HI.out).rb, ((x.n.step m.ms).1).1, (l[i]'HI.out).ap, P6⟩) ms tk many).send (mvs.map MV.ms) = res) := by
      show _ = res
      rw [OUT.out, HH.out.2.2]
      congr 1
      rw [← HSS.out]
      unfold St
      congr 1
      ·rw [List.map_set]
      ·rw [List.map_set]
       show (l.map (·.ap)).set i (l[i]'HI.out).ap = l.map (·.ap)
       apply List.ext_getElem?
       intro j
       rw [List.getElem?_set]
       split
       ·rename_i e
        subst e
        simp [HI.out]
       ·rfl
     have FB6 : Hid (Fr (fun c _ => c < B) w w6) := H.out.frB A6.out
     rw [ES.out, ids_set HI.out] at SD
     clear G6 lb h6t
     go_wp2_with fail
     (with_reducible refine SD.out.mono ?_)
     rintro e w7 ⟨rfl, g7, f7⟩
     have G7 := Lib.hid (And.intro g7 f7)
     clear g7 f7 SD
     go_wp2
     go_end0
     exact ⟨rfl, G7.out.1, FB6.out.trans G7.out.2⟩
theorem arrive_calls [Old] [NoOld] (h : G13 B X w G l ms tk many vn vm vt) (k : Nat) (hk : k < ms.length) (h0 : 0 < l.length) (hl5 : l.length ≤ 16) (Bd : Nat) (hBd : Bd ≤ 80000) (hI : GI Bd (St l ms tk many)) (hno : ∀ c, ¬ Old.o c) :
  Calls Try.prog 28 #[.pointer (some ⟨G, 0, none⟩), .int .i64 (k : Nat)] w fun e w' => GOut B w G ((St l ms tk many).arrive k) e w' :=
 (arriveL_calls h k hk h0 hl5 Bd hBd hI hno).mono fun e w' q => q.gr
end
end Go.Proofs.Ytmjccpfchhnfhaa
