/- Texts of the proofs, part 40: what the functions that they reach do, walked; no conditions beyond those that each states. -/
import Derived.Deep.DeepCutAuto
import Derived.Deep.QuietTactic
import Derived.BigQuiet
import Derived.Test.YtmjccpfchhnfhaaGreatZz7562fb4131
set_option linter.unusedVariables false
set_option linter.unusedSimpArgs false
/- Law 12: what lies in a group, for the walk of play. -/
namespace Go.Proofs.YtmjccpfchhnfhaaGreat
open Go.RowKit
set_option linter.unusedVariables false
set_option linter.unusedSimpArgs false
theorem own_cell1 {w : World} {B : Nat} {e : TypeId} {g n c : Nat} {xs : List Value} (h : w.ownsRow B e 1 (.slice (some ⟨g, 0, none⟩) n c) n xs) (i : Nat) (hi : i < xs.length) : w.cell? ⟨g, i, none⟩ = some xs[i] := by
 rcases h.2 with ⟨h, _⟩ | ⟨g', cap, cur, h, _, hg, hn, _, hs, ht⟩
 ·cases h
 ·cases h
  have h1 := h.1
  refine cell_mk hg ?_
  have h2 : (cur.toList.take (n * 1))[i]? = some xs[i] := by rw [ht]; exact List.getElem?_eq_getElem hi
  rw [List.getElem?_take, if_pos (by omega)] at h2
  simpa using h2
section
variable {X : Nat → Prop} {w : World} {G : Nat} {l : List Nx} {ms : List MV} {many : Int} {c : GV}
theorem Grp.nrow [Old] [NoOld] (h : Grp X w G l ms many c) (h0 : 0 < l.length) : ∃ gn cn, c.vn = .slice (some ⟨gn, 0, none⟩) l.length cn ∧ ∀ i, (hi : i < l.length) → ∀ W, Fr (fun _ _ => True) w W → W.cell? ⟨gn, i, none⟩ = some (.pointer (some ⟨l[i].b, 0, none⟩)) := by
 rcases h.rn.2 with ⟨_, e⟩ | ⟨g, cap, cur, e, r⟩
 ·omega
 ·refine ⟨g, cap, e, fun i hi W f => ?_⟩
  have hr := ownsRow_fr h.rn f fun _ _ _ _ => trivial
  rw [e] at hr
  have := own_cell1 hr i (by rw [List.length_map]; exact hi)
  rw [List.getElem_map] at this
  exact this
theorem Grp.mcell [Old] [NoOld] (h : Grp X w G l ms many c) (i : Nat) (hi : i < ms.length) : ∃ gm off cm, c.vm = .slice (some ⟨gm, off, none⟩) ms.length cm ∧ ∀ W, Fr (fun _ _ => True) w W → (W.cell? ⟨gm, off + i * 10, none⟩ = some (.int .i64 ms[i].kind) ∧ W.cell? ⟨gm, off + i * 10 + 1, none⟩ = some (.int .i64 ms[i].src) ∧ W.cell? ⟨gm, off + i * 10 + 2, none⟩ = some (.int .i64 ms[i].dst) ∧ W.cell? ⟨gm, off + i * 10 + 3, none⟩ = some (.int .u64 (ms[i].tm : Nat)) ∧ W.cell? ⟨gm, off + i * 10 + 4, none⟩ = some (.int .u64 (ms[i].index : Nat)) ∧ W.cell? ⟨gm, off + i * 10 + 5, none⟩ = some (.int .u64 (ms[i].prev : Nat)) ∧ W.cell? ⟨gm, off + i * 10 + 6, none⟩ = some (.int .u64 (ms[i].commit : Nat)) ∧ W.cell? ⟨gm, off + i * 10 + 7, none⟩ = some (.bool ms[i].ok) ∧ W.cell? ⟨gm, off + i * 10 + 8, none⟩ = some (.slice ms[i].da ms[i].d.length ms[i].dc) ∧ W.cell? ⟨gm, off + i * 10 + 9, none⟩ = some (.slice ms[i].ea ms[i].es.length ms[i].ec)) := by
 have hr := h.rm.rows
 obtain ⟨a, c', e, hcc, h1⟩ := hr
 rcases h1 with h1 | ⟨gm, off, o, ha, ho, hk, hc⟩
 ·rw [h1] at hi; cases hi
 ·refine ⟨gm, off, c', by rw [e, ha], fun W f => ?_⟩
  have g : ∀ j u, (encM ms[i])[j]? = some u → W.cell? ⟨gm, off + i * 10 + j, none⟩ = some u := fun j u hu => f.cell (fun _ _ => trivial) (hc i hi j u hu)
  exact ⟨g 0 _ rfl, g 1 _ rfl, g 2 _ rfl, g 3 _ rfl, g 4 _ rfl, g 5 _ rfl, g 6 _ rfl, g 7 _ rfl, g 8 _ rfl, g 9 _ rfl⟩
end
end Go.Proofs.YtmjccpfchhnfhaaGreat
/- Law 12: play (printed by play12.py). -/
namespace Go.Proofs.YtmjccpfchhnfhaaGreat
open Go.RowKit
set_option linter.unusedVariables false
set_option linter.unusedSimpArgs false
def opR (ns : List Nd) (ms : List Ms) (d k : Int) (i : Nat) (hi : i < ns.length) (r : Nd × List Ms) : Prop :=
 (d = 1 ∧ k = (i : Nat) ∧ r = ns[i].askF) ∨ (d = 2 ∧ k = (i : Nat) ∧ r = ns[i].askT) ∨ (d = 3 ∧ ∃ j, ∃ hj : j < ms.length, k = (j : Nat) ∧ ms[j].dst = (i : Nat) ∧ r = ns[i].hear ms[j]) ∨ (d = 4 ∧ k = (i : Nat) ∧ r = ({ ns[i] with heard := false }, [])) ∨ (d = 5 ∧ k = (i : Nat) ∧ r = (ns[i], ns[i].beat)) ∨ (d = 6 ∧ k = (i : Nat) ∧ ∃ b, r = ((ns[i].propose 1 [b]).1, [])) ∨ ((d ≠ 1 ∧ d ≠ 2 ∧ d ≠ 3 ∧ d ≠ 4 ∧ d ≠ 5 ∧ d ≠ 6) ∧ k = (i : Nat) ∧ r = (ns[i], []))
def toWho (ns : List Nd) (ms : List Ms) (d k : Int) (i : Nat) : Prop := (d ≠ 3 ∧ k = (i : Nat)) ∨ (d = 3 ∧ ∃ j, ∃ hj : j < ms.length, k = (j : Nat) ∧ ms[j].dst = (i : Nat))
def playR (ns : List Nd) (ms : List Ms) (d k : Int) (ns' : List Nd) (ms' : List Ms) : Prop :=
 (ns' = ns ∧ ms' = ms ∧ ∀ i, i < ns.length → ¬ toWho ns ms d k i) ∨ ∃ i, ∃ hi : i < ns.length, ∃ r : Nd × List Ms, ns' = ns.set i r.1 ∧ ms' = (if ms.length < 600 then ms ++ r.2 else ms) ∧ opR ns ms d k i hi r
def PlOut [Old] (B0 : Nat → Prop) (w : World) (G : Nat) (l : List Nx) (ms : List MV) (many : Int) (c : GV) (d k : Int) (e : Ending) (w' : World) : Prop :=
 ∃ X' l' ms' many' c', e = .returned (.tuple #[]) ∧ Grp X' w' G l' ms' many' c' ∧ Low B0 X' G c' ∧ playR (l.map (·.n)) (ms.map MV.ms) d k (l'.map (·.n)) (ms'.map MV.ms) ∧ (c'.ns ≤ c.ns + 200 ∧ c'.nt ≤ c.nt + 1 ∧ c'.nl ≤ c.nl + 1 ∧ many ≤ many' ∧ many' ≤ many + 1) ∧ Fr (fun q _ => B0 q) w w'
structure GOk (B : Nat) (l : List Nx) (ms : List MV) (many : Int) (c : GV) : Prop where
 b : B ≤ 700000
 gd : ∀ x ∈ l, Gd B x.n
 bm : ∀ m ∈ ms, Bm B m.ms
 es : ∀ m ∈ ms, m.es.length ≤ 800000
 ln : l.length ≤ 1000
 lm : ms.length ≤ 700
 mn : 0 ≤ many ∧ many ≤ 100000
 nn : c.ns ≤ 700000 ∧ c.nt ≤ 700000 ∧ c.nl ≤ 700000
structure Mid [Old] (B0 : Nat → Prop) (w : World) (G : Nat) (l : List Nx) (ms : List MV) (many : Int) (c : GV) (i b : Nat) (opR : Nd × List Ms → Prop) (B : Nat) (v9 : Value) (wx : World) (X' P' : Nat → Prop) (r : Nd × List Ms) (many' : Int) (mvs : List MV) : Prop where
 grp : Grp X' wx G (l.set i ⟨b, r.1, P'⟩) ms many' c
 low : Low B0 X' G c
 ow : OwnMs X' 0 wx v9 mvs
 eq : mvs.map MV.ms = r.2
 op : opR r
 fr : Fr (fun q _ => B0 q) w wx
 len : mvs.length ≤ 100
 bn : Bn (B + 2) r.1
 mn : many ≤ many' ∧ many' ≤ many + 1
theorem one_sure (a b c : Nat) (x : Option Addr) (n k : Nat) : ∀ u ∈ [Value.int .u64 (a : Nat), .int .u64 (b : Nat), .int .u64 (c : Nat), .slice x n k], u.oneCell' = true := fun u hu => by
 simp only [List.mem_cons, List.not_mem_nil, or_false] at hu
 rcases hu with rfl | rfl | rfl | rfl <;> rfl
theorem tentry_any {K : Nat → Obj → Prop} (w : World) (b bt i : Nat) (a : Option Addr) (n c : Nat) (xs : List EV) (hx : RowsAt K w (.slice a n c) 3 encE xs) (h : b + n < 18446744073709551616) :
  Calls Tryz.prog 91 #[vL b bt (.slice a n c), .int .u64 (i : Nat)] w fun e w' => ∃ y ok, e = .returned (.tuple #[vE y, .bool ok]) ∧ Fr (fun _ _ => True) w w' := by
 by_cases hi : b < i ∧ i ≤ b + n
 ·have hn := hx.len'
  exact (tentry_yes w b bt i (i - b - 1) a n c xs hx hn.symm h (by omega) (by omega)).mono fun e w' ⟨h1, h2⟩ => ⟨_, true, h1, h2⟩
 ·exact (tentry_no w b bt i a n c h hi).mono fun e w' ⟨h1, h2⟩ => ⟨_, false, h1, h2⟩
theorem OwnMs.grpset [Old] [NoOld] {X : Nat → Prop} {B G : Nat} {W W' : World} {v : Value} {ts : List MV} {cs : Array Value} (h : OwnMs X B W v ts) (ht : W.heap[G]? = some (.cells cs 111 (0, 0))) (hf : Fr (fun k _ => k ≠ G) W W') : OwnMs X B W' v ts := by
 refine ⟨ownsRow_fr h.row hf fun k o e ho hk => ?_, h.off, fun m hm => (h.at' m hm).keep hf fun k o ho hr e => ?_⟩
 ·obtain ⟨cur, h2⟩ := own_tag h.row e
  rw [hk, ht] at h2
  cases h2
 ·rw [e, ht] at ho
  cases ho
  exact hr.ne0 rfl (by decide)
section
variable {X : Nat → Prop} {w : World} {G : Nat} {l : List Nx} {ms : List MV} {many : Int} {c : GV}
theorem PlOut.none [Old] [NoOld] {B0 : Nat → Prop} {d k : Int} {w' : World} (h : Grp X w G l ms many c) (hl : Low B0 X G c) (f : Fr (fun _ _ => True) w w') (hq : Hid (∀ i, i < (l.map (·.n)).length → ¬ toWho (l.map (·.n)) (ms.map MV.ms) d k i)) : PlOut B0 w G l ms many c d k (.returned (.tuple #[])) w' :=
 ⟨X, l, ms, many, c, rfl, h.tt f, hl, .inl ⟨rfl, rfl, hq.out⟩, ⟨by omega, by omega, by omega, by omega, by omega⟩, f.mono fun _ _ _ => trivial⟩
theorem obox (w : World) (d k : Int) : ∃ W, w.alloc (.cells #[.int .i64 d, .int .i64 k] 114 (0, 0)) = W ∧ Hid (Fr (fun _ _ => True) w W) ∧ W.cell? ⟨w.heap.size, 0, none⟩ = some (.int .i64 d) ∧ W.cell? ⟨w.heap.size, 1, none⟩ = some (.int .i64 k) := ⟨_, rfl, (Fr.refl _ _).alloc _, cell_mk (heap_alloc_new w _) rfl, cell_mk (heap_alloc_new w _) rfl⟩
theorem Grp.sures [Old] [NoOld] (h : Grp X w G l ms many c) {W5 W6 : World} {g : Option Addr} {N cc : Nat} {xs : List Value} (O5 : W5.ownsRow 0 149 4 (.slice g N cc) N xs) (F5 : Fr (fun b _ => c.vs.ownBlock ≠ some b) w W5) (N5 : OwnNext w c.vs (.slice g N cc)) (e6 : W5.setCell ⟨G, 2, none⟩ (.slice g N cc) = W6) : Grp X W6 G l ms many { c with vs := .slice g N cc, ns := N } ∧ Fr (fun k _ => k ≠ G ∧ c.vs.ownBlock ≠ some k) w W6 ∧ ∀ B0 : Nat → Prop, Low B0 X G c → (∀ q, B0 q → q < w.heap.size) → Low B0 X G { c with vs := .slice g N cc, ns := N } := by
 obtain ⟨x0, hx0⟩ := h.rs
 have hG : c.vs.ownBlock ≠ some G := fun e => by
  obtain ⟨cur, h2⟩ := own_tag hx0 e
  rw [h.top] at h2
  cases h2
 have T5 := F5.keep _ _ h.top hG
 have f6 : Fr (fun k _ => k ≠ G) W5 W6 := e6 ▸ (Fr.refl _ _).setCell (fun _ _ h => h rfl) _
 have T6 : W6.heap[G]? = some (.cells (W6g { c with vs := .slice g N cc, ns := N } many) 111 (0, 0)) := by rw [← e6]; exact heap_setCell_same (o := 2) T5 _
 have O6 := ownsRow_fr O5 f6 fun k o e _ hk => (N5.ne hG (lt_of_some h.top)) (hk ▸ e)
 have hf : Fr (fun k _ => k ≠ G ∧ c.vs.ownBlock ≠ some k) w W6 := (F5.mono fun k _ h => h.2).trans (f6.mono fun k _ h => h.1)
 have XN : ∀ k, (Value.slice g N cc).ownBlock = some k → ¬ X k := fun k e hx => by
  rcases N5 with q | ⟨j, q, hj⟩
  ·rw [q] at e; exact h.xs k e hx
  ·rw [q] at e; cases e; have := h.hx k hx; omega
 have keepr : ∀ {e : TypeId} {s : Nat} {v : Value} {n : Nat} {xs : List Value}, w.ownsRow 0 e s v n xs → e ≠ 111 → e ≠ 149 → W6.ownsRow 0 e s v n xs := fun hr h1 h2 => ownsRow_fr hr hf fun k o e ho => ⟨fun hk => by
  obtain ⟨cur, ho'⟩ := own_tag hr e
  rw [hk, h.top] at ho'
  cases ho'
  exact h1 rfl, fun hk => by
  obtain ⟨cur, ho'⟩ := own_tag hr e
  obtain ⟨cur2, ho2⟩ := own_tag hx0 hk
  rw [ho'] at ho2
  cases ho2
  exact h2 rfl⟩
 refine ⟨h.other (c' := { c with vs := .slice g N cc, ns := N }) hx0 h.xs (by decide) (by decide) (by decide) rfl rfl rfl hf T6 ⟨⟨_, O6⟩, XN⟩ ⟨by
   obtain ⟨ys, hy⟩ := h.rt
   exact ⟨ys, keepr hy (by decide) (by decide)⟩, h.xt⟩ ⟨by
   obtain ⟨ys, hy⟩ := h.rl
   exact ⟨ys, keepr hy (by decide) (by decide)⟩, h.xl⟩, hf, fun B0 hl hB => ⟨hl.g, hl.x, hl.n, hl.m, fun q e => by
   rcases N5 with h9 | ⟨k, h9, hk⟩
   ·exact hl.s q (h9 ▸ e)
   ·have e' : (Value.slice g N cc).ownBlock = some q := e
    rw [h9] at e'
    cases e'
    exact fun hq => by have := hB _ hq; omega, hl.t, hl.l, hl.b⟩⟩
theorem Mid.out [Old] [NoOld] {B0 : Nat → Prop} {i b B : Nat} {v9 : Value} {wx : World} {X' P' : Nat → Prop} {r : Nd × List Ms} {many' : Int} {mvs : List MV} {d k : Int} {hi : i < (l.map (·.n)).length} (M : Mid B0 w G l ms many c i b (opR (l.map (·.n)) (ms.map MV.ms) d k i hi) B v9 wx X' P' r many' mvs) {W : World} {ms' : List MV} {c' : GV} (hG : Grp X' W G (l.set i ⟨b, r.1, P'⟩) ms' many' c') (hL : Low B0 X' G c')
  (hms : ms'.map MV.ms = if ms.length < 600 then ms.map MV.ms ++ r.2 else ms.map MV.ms) (hn : c'.ns ≤ c.ns + 200 ∧ c'.nt ≤ c.nt + 1 ∧ c'.nl ≤ c.nl + 1) (hF : Fr (fun q _ => B0 q) w W) : PlOut B0 w G l ms many c d k (.returned (.tuple #[])) W :=
 ⟨X', _, ms', many', c', rfl, hG, hL, .inr ⟨i, hi, r, by rw [List.map_set], by rw [List.length_map]; exact hms, M.op⟩, ⟨hn.1, hn.2.1, hn.2.2, M.mn.1, M.mn.2⟩, hF⟩
theorem step_append_sure {o : Oper} {a : Act} {K : Act → World → Prop} {Q : Exit → Act → World → Prop} (W : World) (s x : Operand) (ho : o.op = .call { callee := .builtin .append, args := #[s, x], argTypes := #[108, 108] })
  (v : Value) (n : Nat) (xs : List Value) (hs : a.eval s = v) (hown : Hid (W.ownsRow 0 149 4 v n xs)) (gx : Nat) (news : List Value) (hx : a.eval x = .slice (some ⟨gx, 0, none⟩) 1 1)
  (hb : Hid (W.heap[gx]? = some (.cells news.toArray 149 (0, 0)))) (hnl : news.length = 4) (h1 : ∀ u ∈ news, u.oneCell' = true) (N : Nat) (hN : Hid (n + 1 = N)) (hn : N ≤ 1000000)
  (h : ∀ g c w', Hid (w'.ownsRow 0 149 4 (.slice g N c) N (xs ++ news)) → Hid (Fr (fun b _ => v.ownBlock ≠ some b) W w') → Hid (OwnNext W v (.slice g N c)) → K (a.put o.dst (.slice g N c)) w') : o.wp Tryz.prog a W K Q := by
 obtain ⟨i0, hi, hz0, hz1, hz2⟩ := info_parts info_sure
 exact step_append_raw W s x _ _ ho i0 _ 4 48 Tryz.underlying108 hi hz0 hz1 hz2 rfl (by decide) (by decide) v n xs hs hown gx news hx hb hnl h1 N hN hn h
end
end Go.Proofs.YtmjccpfchhnfhaaGreat
/- Law 12: play, its loop (printed by play12b.py). -/
namespace Go.Proofs.YtmjccpfchhnfhaaGreat
open Go.RowKit
set_option linter.unusedVariables false
set_option linter.unusedSimpArgs false
section
variable {X : Nat → Prop} {wd : World} {G : Nat} {L : List Nx} {ms : List MV} {many : Int} {c : GV}
theorem Grp.nodeQ [Old] [NoOld] {w : World} (h : Grp X w G L ms many c) {i b : Nat} {n : Nd} {P : Nat → Prop} (hi : i < L.length) (hLi : L[i] = ⟨b, n, P⟩) {B : Nat} (hbn : Bn B n) : ∃ ae le ce es, n.log.base + le ≤ B ∧ ∀ W', Fr (fun _ _ => True) w W' → (W'.cell? ⟨b, 2, none⟩ = some (.int .i64 n.role) ∧ W'.cell? ⟨b, 6, none⟩ = some (.int .u64 (n.tm : Nat)) ∧ W'.cell? ⟨b, 7, none⟩ = some (.int .u64 (n.commit : Nat)) ∧ W'.cell? ⟨b, 8, none⟩ = some (.int .u64 (n.log.base : Nat)) ∧ W'.cell? ⟨b, 9, none⟩ = some (.int .u64 (n.log.bt : Nat)) ∧ W'.cell? ⟨b, 10, none⟩ = some (.slice ae le ce)) ∧ EsAt X W' (.slice ae le ce) es := by
 obtain ⟨q, hq⟩ := h.nd ⟨b, n, P⟩ (hLi ▸ List.getElem_mem hi)
 obtain ⟨ae, le, ce, hve, hle9, hesl, hlg⟩ := hq.lg
 refine ⟨ae, le, ce, q.es, ?_, fun W' f => ⟨?_, hesl W' f⟩⟩
 ·have := hbn.last
  unfold Lg.last at this
  have e9 : n.log.es.length = le := hle9
  omega
 ·obtain ⟨x0, x1, x2, x3, x4, x5, x6, x7, x8, x9, x10, x11, x12, x13⟩ := hq.cells f
  exact ⟨x2, x6, x7, x8, x9, by rw [x10, hve]⟩
set_option maxRecDepth 100000 in
set_option maxHeartbeats 8000000 in
theorem pl12_loop [Old] [NoOld] {R : Ending → World → Prop} (h : Grp X wd G L ms many c) (i : Nat) (hi : i < L.length) (b : Nat) (n : Nd) (P : Nat → Prop) (hLi : L[i] = ⟨b, n, P⟩) (B0 : Nat → Prop) (hl : Low B0 X G c) (B : Nat) (hB : B ≤ 700000) (hbn : Bn (B + 2) n) (co tm : Nat) (hco : co ≤ B) (led : Bool) (hn : c.ns ≤ 900000 ∧ c.nt ≤ 900000 ∧ c.nl ≤ 900000)
  (fin : ∀ c' W, Grp X W G L ms many c' → Low B0 X G c' → (c'.ns ≤ c.ns + 200 ∧ c'.nt = c.nt ∧ c'.nl = c.nl) → Fr (fun q _ => B0 q) wd W → R (.returned (.tuple #[])) W)
  (u1 u2 u3 u4 u10 u11 u12 u13 u14 u15 u16 u17 u18 u19 u20 u21 u22 u23 u24 u25 u26 u27 u28 u29 u30 u31 u32 u33 u34 u35 u36 u37 u38 u39 u40 u41 u42 u43 u44 u45 u46 u47 u48 u49 u50 u51 u52 u53 u54 u55 u56 u57 u58 u59 u60 u61 u62 u63 u64 u65 u66 u67 u68 u69 u70 u71 u72 u73 u74 u75 u76 u77 u78 u79 u80 u81 u82 u83 u84 u85 u86 u87 u88 u89 u90 u91 u92 u93 u94 u95 u96 u97 u98 u99 u100 u101 u102 u103 u104 u105 u106 u107 u108 u109 u110 u111 u112 u113 u114 u115 u116 u117 u118 u119 u120 u121 u122 u123 u124 u125 u126 u127 u128 u129 u130 u131 u132 u133 u134 u135 u136 u137 u138 u139 u140 u141 u142 u143 u144 u145 u146 u147 u148 u149 u150 u151 u152 u153 u154 u155 u156 u157 u158 u159 u160 u161 u162 u163 u164 u165 u166 u167 u168 u169 u170 u171 u172 u173 u174 u175 u176 u177 u178 u179 u180 u181 u182 u183 u184 u185 u186 u187 u188 u189 u190 u191 u192 u193 u194 u195 u196 u197 u198 u199 u200 u201 u202 u203 u204 u205 u206 u207 u208 u209 u210 u211 u212 u213 u214 u215 u216 u217 u218 u219 u220 u221 : Value) (v9 : Value) : Code.wp Tryz.prog (seqR 13 (bodyC Tryz.f46.body)) (bodyPost Tryz.prog Tryz.f46 R) { tmps := #[.pointer (some ⟨G, 0, none⟩), u1, u2, u3, u4, .pointer (some ⟨b, 0, none⟩), .bool led, .int .u64 (tm : Nat), .int .u64 (co : Nat), v9, u10, u11, u12, u13, u14, u15, u16, u17, u18, u19, u20, u21, u22, u23, u24, u25, u26, u27, u28, u29, u30, u31, u32, u33, u34, u35, u36, u37, u38, u39, u40, u41, u42, u43, u44, u45, u46, u47, u48, u49, u50, u51, u52, u53, u54, u55, u56, u57, u58, u59, u60, u61, u62, u63, u64, u65, u66, u67, u68, u69, u70, u71, u72, u73, u74, u75, u76, u77, u78, u79, u80, u81, u82, u83, u84, u85, u86, u87, u88, u89, u90, u91, u92, u93, u94, u95, u96, u97, u98, u99, u100, u101, u102, u103, u104, u105, u106, u107, u108, u109, u110, u111, u112, u113, u114, u115, u116, u117, u118, u119, u120, u121, u122, u123, u124, u125, u126, u127, u128, u129, u130, u131, u132, u133, u134, u135, u136, u137, u138, u139, u140, u141, u142, u143, u144, u145, u146, u147, u148, u149, u150, u151, u152, u153, u154, u155, u156, u157, u158, u159, u160, u161, u162, u163, u164, u165, u166, u167, u168, u169, u170, u171, u172, u173, u174, u175, u176, u177, u178, u179, u180, u181, u182, u183, u184, u185, u186, u187, u188, u189, u190, u191, u192, u193, u194, u195, u196, u197, u198, u199, u200, u201, u202, u203, u204, u205, u206, u207, u208, u209, u210, u211, u212, u213, u214, u215, u216, u217, u218, u219, u220, u221], defers := [] } wd := by
 dsimp only [seqR, bodyC, Tryz.f46]
 have NQ0 := fun (c' : GV) (W : World) (hg : Grp X W G L ms many c') => hg.nodeQ hi hLi hbn
 obtain ⟨ro2, hro2⟩ : ∃ y, n.role = y := ⟨_, rfl⟩
 obtain ⟨tm2, htm2⟩ : ∃ y, n.tm = y := ⟨_, rfl⟩
 obtain ⟨co2, hco2⟩ : ∃ y, n.commit = y := ⟨_, rfl⟩
 obtain ⟨bs, hbs⟩ : ∃ y, n.log.base = y := ⟨_, rfl⟩
 obtain ⟨bt, hbt⟩ : ∃ y, n.log.bt = y := ⟨_, rfl⟩
 rw [hro2, htm2, hco2, hbs, hbt] at NQ0
 have NQ := Lib.hid NQ0
 have HG := Lib.hid h
 have HL := Lib.hid hl
 have HNN := Lib.hid hn
 have FIN := Lib.hid fin
 have HBN := Lib.hid hbn
 have HLI := Lib.hid hLi
 clear h hl hn fin hbn hLi NQ0 hro2 htm2 hco2 hbs hbt
 have wc1 : IntKind.u64.wrap ((co : Int) + 1) = ((co + 1 : Nat) : Int) := by rw [IntKind.wrap_u64]; omega
 have wc2 : IntKind.u64.wrap ((co : Int) + 200) = ((co + 200 : Nat) : Int) := by rw [IntKind.wrap_u64]; omega
 obtain ⟨cp, hcp⟩ : ∃ x, co + 1 = x := ⟨_, rfl⟩
 obtain ⟨cq, hcq⟩ : ∃ x, co + 200 = x := ⟨_, rfl⟩
 rw [hcp] at wc1
 rw [hcq] at wc2
 have HCP := Lib.hid (And.intro hcp hcq)
 clear hcp hcq
 go_wp2
 go_loopw [10] (fun v10 wr => ∃ (ii : Nat) (c3 : GV), v10 = .int .u64 (ii : Nat) ∧ cp ≤ ii ∧ Hid (Grp X wr G L ms many c3) ∧ Hid (Low B0 X G c3) ∧ Hid (c3.ns + cp ≤ c.ns + ii) ∧ ii ≤ cq ∧ Hid (c3.nt = c.nt ∧ c3.nl = c.nl) ∧ Hid (Fr (fun q _ => B0 q) wd wr)) (fun v10 _ => cq - (intOf v10).toNat)
 case atStart => exact ⟨cp, c, rfl, Nat.le_refl _, HG.out, HL.out, Nat.le_refl _, by have := HCP.out; omega, ⟨rfl, rfl⟩, Fr.refl _ _⟩
 case round =>
  obtain ⟨ii, c3, rfl, hii, HG3, HL3, HN3, hi2, HT3, HF3⟩ := hrel
  obtain ⟨ae3, le3, ce3, es3, hbl3, NC3⟩ := NQ.out c3 wr HG3.out
  obtain ⟨⟨x2, x6, x7, x8, x9, x10⟩, -⟩ := NC3 wr (Fr.refl _ _)
  have N3 := Lib.hid NC3
  have FI : Hid (c3.ns ≤ c.ns + 200 ∧ c3.nt = c.nt ∧ c3.nl = c.nl) := by have := HN3.out; have := HT3.out; have := HCP.out; show _ ∧ _ ∧ _; omega
  by_cases hA : ii ≤ co2
  ·have gA : decide (ii ≤ co2) = true := decide_eq_true hA
   by_cases hB : ii < cq
   ·have gB : decide (ii < cq) = true := decide_eq_true hB
    have TE := Lib.hid (tentry_any wr bs bt ii ae3 le3 ce3 es3 (NC3 wr (Fr.refl _ _)).2.row (by omega))
    dsimp only [vL] at TE
    have w1 : IntKind.u64.wrap ((ii : Int) + 1) = ((ii + 1 : Nat) : Int) := by rw [IntKind.wrap_u64]; have := HCP.out; omega
    obtain ⟨gs, ls, cs, hvs⟩ : ∃ g l c, c3.vs = .slice g l c := by obtain ⟨xs, h9⟩ := HG3.out.rs; obtain ⟨g, c', e⟩ := ownsRow_form h9; exact ⟨g, _, c', e⟩
    obtain ⟨xsur, hsur⟩ := HG3.out.rs
    have hls : ls = c3.ns := by obtain ⟨g, c', e⟩ := ownsRow_form hsur; rw [hvs] at e; cases e; rfl
    rw [hvs, ← hls] at hsur
    have HSU := Lib.hid hsur
    have HVS := Lib.hid (And.intro hvs hls)
    obtain ⟨lN, hlN⟩ : ∃ x, ls + 1 = x := ⟨_, rfl⟩
    have HLN := Lib.hid hlN
    have hlN9 : lN ≤ 1000000 := by have := HNN.out; have := FI.out; omega
    clear hvs hls hlN hsur NC3
    go_wp2_with fail
    (with_reducible refine TE.out.mono ?_)
    rintro e W4 ⟨y, oky, rfl, f4⟩
    dsimp only [vE]
    have F4 := Lib.hid f4
    obtain ⟨W5, hW5, F5, X5⟩ := ebox W4 y
    obtain ⟨ge, hge⟩ : ∃ x, W4.heap.size = x := ⟨_, rfl⟩
    rw [hge] at X5
    have F45 := Lib.hid (F4.out.trans F5.out)
    have UD : Hid (Fr (fun _ _ => True) W5 W5.drew) := (Fr.refl _ _).drew
    have SC : Hid (∀ W, Fr (fun _ _ => True) W5 W → W.cell? ⟨G, 2, none⟩ = some (.slice gs ls cs) ∧ W.cell? ⟨b, 6, none⟩ = some (.int .u64 (tm2 : Nat)) ∧ W.cell? ⟨ge, 0, none⟩ = some (.int .u64 (y.t : Nat)) ∧ W.cell? ⟨ge, 2, none⟩ = some (.slice y.a y.d.length y.c)) := fun W f => ⟨by rw [← HVS.out.1]; exact cell_mk ((F45.out.trans f).keep _ _ HG3.out.top trivial) rfl, (N3.out W (F45.out.trans f)).1.2.1, cell_mk (f.keep _ _ X5.out trivial) rfl, cell_mk (f.keep _ _ X5.out trivial) rfl⟩
    clear f4 TE x2 x6 x7 x8 x9 x10 gA gB
    go_wp2_with fail
    try rw [hW5]
    try rw [hge]
    clear hW5 hge
    refine wp_region_cf1 (K := fun _ _ => True) (vt := .pointer (some ⟨G, 0, none⟩)) 0 rfl (by kernel_rfl) (by kernel_rfl) (by kernel_rfl) (fun _ _ _ h => h) (Or.inl ⟨by rfl, ?cfy⟩) (by kernel_rfl) [(203, 0), (204, 1), (205, 2), (206, 3), (207, 4), (208, 5), (209, 6), (210, 7), (211, 8), (212, 9), (213, 10), (214, 11), (215, 12), (216, 13), (217, 14), (218, 15), (219, 16), (220, 17), (221, 18)] [(0, []), (1, []), (2, [1]), (3, [2]), (4, [3]), (5, []), (6, [5]), (7, [6]), (8, [7]), (9, []), (10, []), (11, [10]), (12, []), (13, [12]), (14, [8, 9, 11, 13]), (15, [14])] (ckR [(0, .pointer (some ⟨G, 0, none⟩)), (1, .pointer (some ⟨G, 0, none⟩)), (2, .pointer (some ⟨G, 0, none⟩)), (3, .pointer (some ⟨G, 2, none⟩)), (4, .slice gs ls cs), (5, .pointer (some ⟨b, 0, none⟩)), (6, .pointer (some ⟨b, 0, none⟩)), (7, .pointer (some ⟨b, 6, none⟩)), (8, .int .u64 (tm2 : Nat)), (9, .int .u64 (ii : Nat)), (10, .pointer (some ⟨ge, 0, none⟩)), (11, .int .u64 (y.t : Nat)), (12, .pointer (some ⟨ge, 2, none⟩)), (13, .slice y.a y.d.length y.c), (14, .agg #[.int .u64 (tm2 : Nat), .int .u64 (ii : Nat), .int .u64 (y.t : Nat), .slice y.a y.d.length y.c])] [(15, ⟨fun v W => ∃ gx, v = .slice (some ⟨gx, 0, none⟩) 1 1 ∧ W.heap[gx]? = some (.cells [.int .u64 (tm2 : Nat), .int .u64 (ii : Nat), .int .u64 (y.t : Nat), .slice y.a y.d.length y.c].toArray 149 (0, 0)), fun v W W' h hf => by obtain ⟨gx, h1, h2⟩ := h; exact ⟨gx, h1, hf.keep _ _ h2 trivial⟩⟩)] 16 0) 4 (by kernel_rfl) (by kernel_rfl) (by kernel_rfl) rfl (fun _ => rfl) (by rfl) 203 rfl (by simp) ?cfall ?cfend
    case cfy => (intro w; (try simp only [gA, gB, gC]); go_simp)
    case cfall =>
     iterate 15
      refine CfAll.kk rfl rfl rfl (fun xs W hF hE K' hK => ?_) ?_
      ·have HF' := Lib.hid hF
       clear hF
       simp only [ckEqs, ckLook, Nat.reduceBEq] at hE
       simp only [fillA, fillL, sA, sB, sC, Act.put, hE] at hK ⊢
       clear hE
       obtain ⟨y2, y6, ye0, ye2⟩ := SC.out W (UD.out.trans HF'.out)
       (try simp only [gA, gB, gC])
       go_simp
       exact hK.out _ rfl
     refine CfAll.k rfl rfl (fun xs W hF hA hE K' hK => ?_) ?_
     ·have HF' := Lib.hid hF
      clear hA hF
      simp only [ckEqs, ckLook, Nat.reduceBEq] at hE
      simp only [fillA, fillL, sA, sB, sC, Act.put, hE] at hK ⊢
      clear hE
      (try simp only [gA, gB, gC])
      go_simp
      exact hK.out _ _ _ rfl ((Fr.refl _ _).alloc _) ⟨_, rfl, heap_alloc_new _ _⟩
     exact CfAll.nil
    case cfend =>
     intro xs W hF hA
     have HF' := Lib.hid hF
     have hE := ckEnd rfl hA
     have h15 := hA (15, [14]) (by decide)
     clear hA hF
     simp only [List.map_cons, List.map_nil, ckEqs, ckLook, Nat.reduceBEq] at hE
     simp only [fillA, fillL, sA, sB, sC, hE]
     clear hE
     obtain ⟨gx, e15, tx⟩ := h15
     rw [e15]
     have TX := Lib.hid tx
     have FX := Lib.hid (F45.out.trans (UD.out.trans HF'.out))
     have GX := Lib.hid (HG3.out.tt FX.out)
     have OWX : Hid (W.ownsRow 0 149 4 (.slice gs ls cs) ls xsur) := ownsRow_fr HSU.out FX.out fun _ _ _ _ => trivial
     have hgG : (Value.slice gs ls cs).ownBlock ≠ some G := fun e => by
      obtain ⟨cur, h8⟩ := own_tag OWX.out e
      rw [GX.out.top] at h8
      cases h8
     clear tx e15 UD SC
     refine wpAny_next 16 (by kernel_rfl) rfl fun K' hK => ?_
     (try simp only [List.getElem_toArray, List.getElem_cons_zero, List.getElem_cons_succ])
     refine (iteInduction (motive := fun t => t) (fun _ => ?_) (fun hn => absurd rfl hn))
     with_reducible refine step_append_sure (K := fun a w => K' a w) W (.tmp 207) (.tmp 218) ?h1 (.slice gs ls cs) ls xsur ?h2 OWX gx [.int .u64 (tm2 : Nat), .int .u64 (ii : Nat), .int .u64 (y.t : Nat), .slice y.a y.d.length y.c] ?h3 TX rfl (one_sure _ _ _ _ _ _) lN HLN hlN9 ?_
     case h1 => rfl
     case h2 => (simp [Act.eval, Act.put, fillA, fillL]; done)
     case h3 => (simp [Act.eval, Act.put, fillA, fillL]; done)
     intro gy cy Wy OY FY NY
     refine hK.out _ _ ?_
     clear hK K'
     have TY := FY.out.keep _ _ GX.out.top hgG
     have y5 : Wy.cell? ⟨G, 2, none⟩ = some (.slice gs ls cs) := by rw [← HVS.out.1]; exact cell_mk TY rfl
     have z5 := frozen_mk (i := 2) TY
     obtain ⟨Wz, hWz⟩ : ∃ Y, Wy.setCell ⟨G, 2, none⟩ (.slice gy lN cy) = Y := ⟨_, rfl⟩
     obtain ⟨GZ0, FZ0, LZ0⟩ := GX.out.sures OY.out (by rw [HVS.out.1]; exact FY.out) (by rw [HVS.out.1]; exact NY.out) hWz
     have GZ := Lib.hid GZ0
     have hB0 : ∀ q, B0 q → q < W.heap.size := fun q hq => Nat.lt_of_lt_of_le (HL3.out.b q hq) GX.out.sz
     have LZ := Lib.hid (LZ0 B0 HL3.out hB0)
     have FZ : Hid (Fr (fun q _ => B0 q) wd Wz) := (HF3.out.trans (FX.out.mono fun _ _ _ => trivial)).trans (FZ0.mono fun q _ h => ⟨fun e => HL3.out.g (e ▸ h), fun e => HL3.out.s q e h⟩)
     clear GZ0 FZ0 LZ0 TY OY FY NY hgG
     refine wpAny_next 17 (by kernel_rfl) rfl fun K' hK => ?_
     (try simp only [gA, gB, gC])
     go_simp
     refine hK.out _ _ ?_
     clear hK K'
     refine wpAny_next 18 (by kernel_rfl) rfl fun K' hK => ?_
     (try simp only [gA, gB, gC])
     go_simp
     refine hK.out _ _ ?_
     clear hK K'
     refine wpAny_next 19 (by kernel_rfl) rfl fun K' hK => ?_
     (try simp only [gA, gB, gC])
     go_simp
     refine hK.out _ _ ?_
     clear hK K'
     refine wpAny_fin (by kernel_rfl) ?_
     try rw [hWz]
     clear hWz y5 z5
     go_wp2
     go_roundw
     case rel => exact ⟨ii + 1, _, by go_num, by omega, GZ.out, LZ.out, by show lN + cp ≤ _; have := HN3.out; have := HVS.out.2; have := HLN.out; omega, by omega, HT3.out, FZ.out⟩
     case measure => simp [intOf]; omega
   ·have gB : decide (ii < cq) = false := decide_eq_false hB
    go_wp2
    go_end0
    exact FIN.out _ _ HG3.out HL3.out FI.out HF3.out
  ·have gA : decide (ii ≤ co2) = false := decide_eq_false hA
   go_wp2
   go_end0
   exact FIN.out _ _ HG3.out HL3.out FI.out HF3.out
end
end Go.Proofs.YtmjccpfchhnfhaaGreat
/- Law 12: play, a node's turn (printed by play12c.py). -/
namespace Go.Proofs.YtmjccpfchhnfhaaGreat
open Go.RowKit
set_option linter.unusedVariables false
set_option linter.unusedSimpArgs false
section
variable {X : Nat → Prop} {w : World} {G : Nat} {l : List Nx} {ms : List MV} {many : Int} {c : GV}
theorem Low.aft {B0 : Nat → Prop} {X4 P4 P : Nat → Prop} {w4 : World} (h : Low B0 X G c) (ha : Aft X P X4 P4 w w4) (hs : c.sz ≤ w.heap.size) : Low B0 X4 G c :=
 ⟨h.g, fun k hk => by
  rcases (ha.xx k).1 hk with q | q
  ·exact h.x k q
  ·rcases ha.nw k q with q | q
   ·exact h.x k (ha.hp k q)
   ·exact fun hq => by have := h.b _ hq; omega, h.n, h.m, h.s, h.t, h.l, h.b⟩
theorem mid_mk [Old] [NoOld] {B0 : Nat → Prop} {i B : Nat} {W3 W4 : World} {x : Nx} {op : Nd × List Ms → Prop} {X4 P4 : Nat → Prop} {r : Nd × List Ms} {v : Value} {mvs : List MV} (h : Grp X w G l ms many c) (f3 : Fr (fun _ _ => True) w W3) (hi : i < l.length) (hx : l[i] = x) (hl : Low B0 X G c)
  (p4 : PN X4 P4 W4 x.b r.1) (a4 : Aft X x.P X4 P4 W3 W4) (o4 : OwnMs X4 0 W4 v mvs) (e4 : mvs.map MV.ms = r.2) (ho : op r) (hln : mvs.length ≤ 100) (hb : Bn (B + 2) r.1) : Mid B0 w G l ms many c i x.b op B v W4 X4 P4 r many mvs := by
 subst hx
 refine ⟨(h.tt f3).turn i hi p4 a4, hl.aft a4 (Nat.le_trans h.sz f3.size), o4, e4, ho, (f3.mono fun _ _ _ => trivial).trans (a4.fr.mono fun q _ hq hp => ?_), hln, hb, ⟨by omega, by omega⟩⟩
 exact hl.x q (a4.hp q hp) hq
theorem Grp.count [Old] [NoOld] (h : Grp X w G l ms many c) {W : World} (many' : Int) (e : w.setCell ⟨G, 5, none⟩ (.int .i64 many') = W) : Grp X W G l ms many' c ∧ Fr (fun k _ => k ≠ G) w W := by
 have f : Fr (fun k _ => k ≠ G) w W := e ▸ (Fr.refl _ _).setCell (fun _ _ h => h rfl) _
 have t : W.heap[G]? = some (.cells (W6g c many') 111 (0, 0)) := by rw [← e]; exact heap_setCell_same (o := 5) h.top _
 obtain ⟨xs, hs⟩ := h.rs
 obtain ⟨xt, ht⟩ := h.rt
 obtain ⟨xl, hl⟩ := h.rl
 have keepr : ∀ {e : TypeId} {s : Nat} {v : Value} {n : Nat} {xs : List Value}, w.ownsRow 0 e s v n xs → e ≠ 111 → W.ownsRow 0 e s v n xs := fun hr h1 => ownsRow_fr hr f fun k o e ho hk => by
  obtain ⟨cur, ho'⟩ := own_tag hr e
  rw [hk, h.top] at ho'
  cases ho'
  exact h1 rfl
 exact ⟨h.other (c' := c) ht h.xt (by decide) (by decide) (by decide) rfl rfl rfl (f.mono fun k _ h => h.1) t ⟨⟨xs, keepr hs (by decide)⟩, h.xs⟩ ⟨⟨xt, keepr ht (by decide)⟩, h.xt⟩ ⟨⟨xl, keepr hl (by decide)⟩, h.xl⟩, f⟩
theorem Nd.hear_len (n : Nd) (m : Ms) : (n.hear m).2.length ≤ n.conf.length + 3 := by
 have h1 := Nd.onAsk_len n m
 have h2 := Nd.onAnswer_len (n.onAsk m).1 m
 have h3 := Nd.onAppend_len ((n.onAsk m).1.onAnswer m).1 m
 have h4 := Nd.onAcked_len (((n.onAsk m).1.onAnswer m).1.onAppend m).1 m
 rw [(Nd.onAsk_up n m).conf] at h2
 show ((n.onAsk m).2 ++ ((n.onAsk m).1.onAnswer m).2 ++ (((n.onAsk m).1.onAnswer m).1.onAppend m).2 ++ ((((n.onAsk m).1.onAnswer m).1.onAppend m).1.onAcked m).2).length ≤ _
 simp only [List.length_append]
 omega
theorem own_lo [Old] [NoOld] {X : Nat → Prop} {B : Nat} {W : World} {v : Value} {mvs : List MV} (h : OwnMs X B W v mvs) : OwnMs X 0 W v mvs := h.lo (Nat.zero_le _)
theorem len_ms {mvs : List MV} {l : List Ms} (e : mvs.map MV.ms = l) (h : l.length ≤ 100) : mvs.length ≤ 100 := by rw [← e, List.length_map] at h; exact h
end
end Go.Proofs.YtmjccpfchhnfhaaGreat
/- Law 12: play, plainly: how great a group grows. -/
namespace Go.Proofs.YtmjccpfchhnfhaaGreat
open Go.RowKit
set_option linter.unusedVariables false
set_option linter.unusedSimpArgs false
theorem opR_good {B : Nat} {ns : List Nd} {ms : List Ms} {d k : Int} {i : Nat} {hi : i < ns.length} {r : Nd × List Ms} (h : opR ns ms d k i hi r) (hn : Gd B ns[i]) (hm : ∀ m ∈ ms, Bm B m) : Nd.Up ns[i] r.1 ∧ Gd (B + 2) r.1 ∧ (∀ m ∈ r.2, Bm (B + 2) m) ∧ r.2.length ≤ 19 := by
 have bx : Bn (B + 2) ns[i] := hn.bn.mono (by omega)
 have hy := hn.ye
 have hc := hn.cf.2
 rcases h with ⟨-, -, rfl⟩ | ⟨-, -, rfl⟩ | ⟨-, j, hj, -, -, rfl⟩ | ⟨-, -, rfl⟩ | ⟨-, -, rfl⟩ | ⟨-, -, b, rfl⟩ | ⟨-, -, rfl⟩
 ·have hb := Nd.askF_b hn.bn
  have y := Nd.askF_y hy
  exact ⟨Nd.askF_up _, hn.up (Nd.askF_up _) (hb.1.mono (by omega)) (by omega), fun m q => (hb.2 m q).mono (by omega), Nat.le_trans (Nd.askF_len _) (by omega)⟩
 ·have hb := Nd.askT_b hn.bn
  have y := Nd.askT_y hy
  exact ⟨Nd.askT_up _, hn.up (Nd.askT_up _) (hb.1.mono (by omega)) (by omega), fun m q => (hb.2 m q).mono (by omega), Nat.le_trans (Nd.askT_len _) (by omega)⟩
 ·have hb := Nd.hear_b hn.bn (hm _ (List.getElem_mem hj))
  have y1 := Nd.onAsk_y (m := ms[j]) hy
  have y2 := Nd.onAnswer_y (m := ms[j]) y1
  have y3 := Nd.onAppend_y (m := ms[j]) y2
  have y4 : (ns[i].hear ms[j]).1.yes.length ≤ B + 1 := Nd.onAcked_y (m := ms[j]) y3
  exact ⟨Nd.hear_up _ _, hn.up (Nd.hear_up _ _) hb.1 (by omega), hb.2, Nat.le_trans (Nd.hear_len _ _) (by omega)⟩
 ·exact ⟨⟨Nat.le_refl _, Nat.le_refl _, rfl, rfl, rfl⟩, ⟨⟨bx.tm, bx.commit, bx.last, bx.n16, bx.m16, bx.nx, bx.mt⟩, hn.me, hn.cf, hn.pos, by show ns[i].yes.length ≤ _; omega⟩, fun m q => absurd q (by simp), Nat.zero_le _⟩
 ·exact ⟨Nd.Up.refl _, hn.mono (by omega), fun m q => (Nd.beat_b hn.bn m q).mono (by omega), Nat.le_trans (Nd.beat_len _) (by omega)⟩
 ·have hb := Nd.propose_b hn.bn 1 [b]
  have y : (ns[i].propose 1 [b]).1.yes.length ≤ B + 2 := by rw [Nd.propose_y]; omega
  exact ⟨Nd.propose_up _ _ _, hn.up (Nd.propose_up _ _ _) (hb.mono (by omega)) y, fun m q => absurd q (by simp), Nat.zero_le _⟩
 ·exact ⟨Nd.Up.refl _, hn.mono (by omega), fun m q => absurd q (by simp), Nat.zero_le _⟩
theorem playR_good {B : Nat} {ns ns' : List Nd} {ms ms' : List Ms} {d k : Int} (h : playR ns ms d k ns' ms') (hn : ∀ n ∈ ns, Gd B n) (hm : ∀ m ∈ ms, Bm B m) (hl : ms.length ≤ 700) :
  ns'.length = ns.length ∧ (∀ (i : Nat) (n n' : Nd), ns[i]? = some n → ns'[i]? = some n' → Nd.Up n n') ∧ (∀ n ∈ ns', Gd (B + 2) n) ∧ (∀ m ∈ ms', Bm (B + 2) m) ∧ ms'.length ≤ 700 := by
 rcases h with ⟨rfl, rfl, -⟩ | ⟨i, hi, r, rfl, rfl, hop⟩
 ·exact ⟨rfl, fun i n n' h1 h2 => by rw [h1] at h2; cases h2; exact Nd.Up.refl _, fun n q => (hn n q).mono (by omega), fun m q => (hm m q).mono (by omega), hl⟩
 ·obtain ⟨g1, g2, g3, g4⟩ := opR_good hop (hn _ (List.getElem_mem hi)) hm
  refine ⟨List.length_set .., fun j n n' h1 h2 => ?_, fun n q => ?_, fun m q => ?_, ?_⟩
  ·rw [List.getElem?_set] at h2
   by_cases e : i = j
   ·subst e
    rw [if_pos rfl, if_pos hi] at h2
    rw [List.getElem?_eq_getElem hi] at h1
    cases h1
    cases h2
    exact g1
   ·rw [if_neg e, h1] at h2
    cases h2
    exact Nd.Up.refl _
  ·rcases List.mem_or_eq_of_mem_set q with q | q
   ·exact (hn n q).mono (by omega)
   ·exact q ▸ g2
  ·split at q
   ·rcases List.mem_append.1 q with q | q
    ·exact (hm m q).mono (by omega)
    ·exact g3 m q
   ·exact (hm m q).mono (by omega)
  ·split
   ·rw [List.length_append]; omega
   ·exact hl
theorem GOk.next {B : Nat} {l l' : List Nx} {ms ms' : List MV} {many many' : Int} {c c' : GV} {d k : Int} (h : GOk B l ms many c) (hp : playR (l.map (·.n)) (ms.map MV.ms) d k (l'.map (·.n)) (ms'.map MV.ms)) (hB : B + 2 ≤ 700000) (hm : 0 ≤ many' ∧ many' ≤ 100000) (hn : c'.ns ≤ 700000 ∧ c'.nt ≤ 700000 ∧ c'.nl ≤ 700000) : GOk (B + 2) l' ms' many' c' := by
 obtain ⟨e1, -, g1, g2, g3⟩ := playR_good hp (fun n q => by obtain ⟨x, hx, rfl⟩ := List.mem_map.1 q; exact h.gd x hx) (fun m q => by obtain ⟨x, hx, rfl⟩ := List.mem_map.1 q; exact h.bm x hx) (by rw [List.length_map]; exact h.lm)
 rw [List.length_map, List.length_map] at e1
 rw [List.length_map] at g3
 have bm : ∀ m ∈ ms', Bm (B + 2) m.ms := fun m q => g2 _ (List.mem_map.2 ⟨m, q, rfl⟩)
 exact ⟨hB, fun x q => g1 _ (List.mem_map.2 ⟨x, q, rfl⟩), bm, fun m q => by
  have : m.index + (m.es.map EV.en).length ≤ B + 2 := (bm m q).index
  rw [List.length_map] at this
  omega, by have := h.ln; omega, g3, hm, hn⟩
end Go.Proofs.YtmjccpfchhnfhaaGreat
/- Law 12: play, where who leads led ahead of it (printed by hs.py); play, the appends of terms and logs (printed by play12b.py). -/
namespace Go.Proofs.YtmjccpfchhnfhaaGreat
open Go.RowKit
set_option linter.unusedVariables false
set_option linter.unusedSimpArgs false
section
variable {X : Nat → Prop} {wd : World} {G : Nat} {L : List Nx} {ms : List MV} {many : Int} {c : GV}
set_option maxRecDepth 100000 in
set_option maxHeartbeats 8000000 in
theorem pl12_app1 [Old] [NoOld] {R : Ending → World → Prop} (h : Grp X wd G L ms many c) (i : Nat) (hi : i < L.length) (b : Nat) (n : Nd) (P : Nat → Prop) (hLi : L[i] = ⟨b, n, P⟩) (B0 : Nat → Prop) (hl : Low B0 X G c) (B : Nat) (hB : B ≤ 700000) (hbn : Bn (B + 2) n) (co tm : Nat) (hco : co ≤ B) (led : Bool) (hsm : led = true ∧ n.tm = tm) (hn : c.ns ≤ 850000 ∧ c.nt ≤ 850000 ∧ c.nl ≤ 850000)
  (fin : ∀ c' W, Grp X W G L ms many c' → Low B0 X G c' → (c'.ns ≤ c.ns + 200 ∧ c'.nt ≤ c.nt + 1 ∧ c'.nl ≤ c.nl + 1) → Fr (fun q _ => B0 q) wd W → R (.returned (.tuple #[])) W)
  (u1 u2 u3 u4 u10 u11 u12 u13 u14 u15 u16 u17 u18 u19 u20 u21 u22 u23 u24 u25 u26 u27 u28 u29 u30 u31 u32 u33 u34 u35 u36 u37 u38 u39 u40 u41 u42 u43 u44 u45 u46 u47 u48 u49 u50 u51 u52 u53 u54 u55 u56 u57 u58 u59 u60 u61 u62 u63 u64 u65 u66 u67 u68 u69 u70 u71 u72 u73 u74 u75 u76 u77 u78 u79 u80 u81 u82 u83 u84 u85 u86 u87 u88 u89 u90 u91 u92 u93 u94 u95 u96 u97 u98 u99 u100 u101 u102 u103 u104 u105 u106 u107 u108 u109 u110 u111 u112 u113 u114 u115 u116 u117 u118 u119 u120 u121 u122 u123 u124 u125 u126 u127 u128 u129 u130 u131 u132 u133 u134 u135 u136 u137 u138 u139 u140 u141 u142 u143 u144 u145 u146 u147 u148 u149 u150 u151 u152 u153 u154 u155 u156 u157 u158 u159 u160 u161 u162 u163 u164 u165 u166 u167 u168 u169 u170 u171 u172 u173 u174 u175 u176 u177 u178 u179 u180 u181 u182 u183 u184 u185 u186 u187 u188 u189 u190 u191 u192 u193 u194 u195 u196 u197 u198 u199 u200 u201 u202 u203 u204 u205 u206 u207 u208 u209 u210 u211 u212 u213 u214 u215 u216 u217 u218 u219 u220 u221 : Value) (v9 : Value) : Code.wp Tryz.prog (seqR 12 (bodyC Tryz.f46.body)) (bodyPost Tryz.prog Tryz.f46 R) { tmps := #[.pointer (some ⟨G, 0, none⟩), u1, u2, u3, u4, .pointer (some ⟨b, 0, none⟩), .bool led, .int .u64 (tm : Nat), .int .u64 (co : Nat), v9, u10, u11, u12, u13, u14, u15, u16, u17, u18, u19, u20, u21, u22, u23, u24, u25, u26, u27, u28, u29, u30, u31, u32, u33, u34, u35, u36, u37, u38, u39, u40, u41, u42, u43, u44, u45, u46, u47, u48, u49, u50, u51, u52, u53, u54, u55, u56, u57, u58, u59, u60, u61, u62, u63, u64, u65, u66, u67, u68, u69, u70, u71, u72, u73, u74, u75, u76, u77, u78, u79, u80, u81, u82, u83, u84, u85, u86, u87, u88, u89, u90, u91, u92, u93, u94, u95, u96, u97, u98, u99, u100, u101, u102, u103, u104, u105, u106, u107, u108, u109, u110, u111, u112, u113, u114, u115, u116, u117, u118, u119, u120, u121, u122, u123, u124, u125, u126, u127, u128, u129, u130, u131, u132, u133, u134, u135, u136, u137, u138, u139, u140, u141, u142, u143, u144, u145, u146, u147, u148, u149, u150, u151, u152, u153, u154, u155, u156, u157, u158, u159, u160, u161, u162, u163, u164, u165, u166, u167, u168, u169, u170, u171, u172, u173, u174, u175, u176, u177, u178, u179, u180, u181, u182, u183, u184, u185, u186, u187, u188, u189, u190, u191, u192, u193, u194, u195, u196, u197, u198, u199, u200, u201, u202, u203, u204, u205, u206, u207, u208, u209, u210, u211, u212, u213, u214, u215, u216, u217, u218, u219, u220, u221], defers := [] } wd := by
 dsimp only [seqR, bodyC, Tryz.f46]
 have NQ0 := fun (c' : GV) (W : World) (hg : Grp X W G L ms many c') => hg.nodeQ hi hLi hbn
 obtain ⟨ro2, hro2⟩ : ∃ y, n.role = y := ⟨_, rfl⟩
 obtain ⟨tm2, htm2⟩ : ∃ y, n.tm = y := ⟨_, rfl⟩
 obtain ⟨co2, hco2⟩ : ∃ y, n.commit = y := ⟨_, rfl⟩
 obtain ⟨bs, hbs⟩ : ∃ y, n.log.base = y := ⟨_, rfl⟩
 obtain ⟨bt, hbt⟩ : ∃ y, n.log.bt = y := ⟨_, rfl⟩
 rw [hro2, htm2, hco2, hbs, hbt] at NQ0
 have NQ := Lib.hid NQ0
 have HG := Lib.hid h
 have HL := Lib.hid hl
 have HNN := Lib.hid hn
 have FIN := Lib.hid fin
 have HBN := Lib.hid hbn
 have HLI := Lib.hid hLi
 obtain ⟨ae, le, ce, es0, hbl, NC0⟩ := NQ0 c wd h
 obtain ⟨⟨x2, x6, x7, x8, x9, x10⟩, -⟩ := NC0 wd (Fr.refl _ _)
 have HG2 := HG
 have HL2 := HL
 have HF2 : Hid (Fr (fun q _ => B0 q) wd wd) := Fr.refl _ _
 have HSE : Hid (led = true ∧ tm = tm2) := ⟨hsm.1, hsm.2.symm.trans htm2⟩
 clear hsm h hl hn fin NQ0 hro2 htm2 hco2 hbs hbt NC0
 go_upto_region 28 with fail
 rename_i K3 h3 K2 h2
 have TAIL2 : ∀ (u1 u2 u3 u4 u10 u11 u12 u13 u14 u15 u16 u17 u18 u19 u20 u21 u22 u23 u24 u25 u26 u27 u28 u29 u30 u31 u32 u33 u34 u35 u36 u37 u38 u39 u40 u41 u42 u43 u44 u45 u46 u47 u48 u49 u50 u51 u52 u53 u54 u55 u56 u57 u58 u59 u60 u61 u62 u63 u64 u65 u66 u67 u68 u69 u70 u71 u72 u73 u74 u75 u76 u77 u78 u79 u80 u81 u82 u83 u84 u85 u86 u87 u88 u89 u90 u91 u92 u93 u94 u95 u96 u97 u98 u99 u100 u101 u102 u103 u104 u105 u106 u107 u108 u109 u110 u111 u112 u113 u114 u115 u116 u117 u118 u119 u120 u121 u122 u123 u124 u125 u126 u127 u128 u129 u130 u131 u132 u133 u134 u135 u136 u137 u138 u139 u140 u141 u142 u143 u144 u145 u146 u147 u148 u149 u150 u151 u152 u153 u154 u155 u156 u157 u158 u159 u160 u161 u162 u163 u164 u165 u166 u167 u168 u169 u170 u171 u172 u173 u174 u175 u176 u177 u178 u179 u180 u181 u182 u183 u184 u185 u186 u187 u188 u189 u190 u191 u192 u193 u194 u195 u196 u197 u198 u199 u200 u201 u202 u203 u204 u205 u206 u207 u208 u209 u210 u211 u212 u213 u214 u215 u216 u217 u218 u219 u220 u221 : Value) (v9 : Value) (we : World) (c2 : GV), Hid (Grp X we G L ms many c2) → Hid (Low B0 X G c2) → Hid (c2.ns = c.ns ∧ c2.nt ≤ c.nt + 1 ∧ c2.nl ≤ c.nl + 1) → Hid (Fr (fun q _ => B0 q) wd we) → K3 { tmps := #[.pointer (some ⟨G, 0, none⟩), u1, u2, u3, u4, .pointer (some ⟨b, 0, none⟩), .bool led, .int .u64 (tm : Nat), .int .u64 (co : Nat), v9, u10, u11, u12, u13, u14, u15, u16, u17, u18, u19, u20, u21, u22, u23, u24, u25, u26, u27, u28, u29, u30, u31, u32, u33, u34, u35, u36, u37, u38, u39, u40, u41, u42, u43, u44, u45, u46, u47, u48, u49, u50, u51, u52, u53, u54, u55, u56, u57, u58, u59, u60, u61, u62, u63, u64, u65, u66, u67, u68, u69, u70, u71, u72, u73, u74, u75, u76, u77, u78, u79, u80, u81, u82, u83, u84, u85, u86, u87, u88, u89, u90, u91, u92, u93, u94, u95, u96, u97, u98, u99, u100, u101, u102, u103, u104, u105, u106, u107, u108, u109, u110, u111, u112, u113, u114, u115, u116, u117, u118, u119, u120, u121, u122, u123, u124, u125, u126, u127, u128, u129, u130, u131, u132, u133, u134, u135, u136, u137, u138, u139, u140, u141, u142, u143, u144, u145, u146, u147, u148, u149, u150, u151, u152, u153, u154, u155, u156, u157, u158, u159, u160, u161, u162, u163, u164, u165, u166, u167, u168, u169, u170, u171, u172, u173, u174, u175, u176, u177, u178, u179, u180, u181, u182, u183, u184, u185, u186, u187, u188, u189, u190, u191, u192, u193, u194, u195, u196, u197, u198, u199, u200, u201, u202, u203, u204, u205, u206, u207, u208, u209, u210, u211, u212, u213, u214, u215, u216, u217, u218, u219, u220, u221], defers := [] } we := by
  intros; rename_i v9 we c2 G2 L2 C2 F2
  exact h3 _ _ (by apply pl12_loop G2.out i hi b n P hLi B0 L2.out B hB hbn co tm hco led (by have := HNN.out; have := C2.out; omega) (fun c' W g1 g2 g3 g4 => FIN.out c' W g1 g2 (by have := C2.out; omega) (F2.out.trans g4)))
 clear h3
 clear hbn hLi
 obtain ⟨e1, e2⟩ := HSE.out
 clear HSE
 subst e1 e2
 have g4 : ((tm : Int) == (tm : Int)) = true := by simp
 have g5 : ((tm : Int) != (tm : Int)) = false := by simp
 go_wp2
 exact TAIL2 _ _ _ _ _ _ _ _ _ _ _ _ _ _ _ _ _ _ _ _ _ _ _ _ _ _ _ _ _ _ _ _ _ _ _ _ _ _ _ _ _ _ _ _ _ _ _ _ _ _ _ _ _ _ _ _ _ _ _ _ _ _ _ _ _ _ _ _ _ _ _ _ _ _ _ _ _ _ _ _ _ _ _ _ _ _ _ _ _ _ _ _ _ _ _ _ _ _ _ _ _ _ _ _ _ _ _ _ _ _ _ _ _ _ _ _ _ _ _ _ _ _ _ _ _ _ _ _ _ _ _ _ _ _ _ _ _ _ _ _ _ _ _ _ _ _ _ _ _ _ _ _ _ _ _ _ _ _ _ _ _ _ _ _ _ _ _ _ _ _ _ _ _ _ _ _ _ _ _ _ _ _ _ _ _ _ _ _ _ _ _ _ _ _ _ _ _ _ _ _ _ _ _ _ _ _ _ _ _ _ _ _ _ _ _ _ _ _ c HG2 HL2 ⟨rfl, by omega, by omega⟩ HF2
end
end Go.Proofs.YtmjccpfchhnfhaaGreat
