/- Texts of the proofs, part 38: what the functions that they reach do, walked; no conditions beyond those that each states. -/
import Derived.Test.YtmjccpfchhnfhaaGreatZz515b47e053
import Derived.Test.YtmjccpfchhnfhaaGreatZz8427f5f4f6
import Derived.Test.YtmjccpfchhnfhaaGreatZze67d2ef20b
set_option linter.unusedVariables false
set_option linter.unusedSimpArgs false
/- Law 12: appends to a group's rows; a new group. -/
namespace Go.Proofs.YtmjccpfchhnfhaaGreat
open Go.RowKit
set_option linter.unusedVariables false
set_option linter.unusedSimpArgs false
theorem info_ptrN : (Tryz.prog.info? 34).map (fun i => (i.zero, i.size, i.bytes)) = some (some (.pointer none), 1, 8) := by kernel_rfl
theorem info_sure : (Tryz.prog.info? 149).map (fun i => (i.zero, i.size, i.bytes)) = some (some (.agg #[.int .u64 0, .int .u64 0, .int .u64 0, .slice none 0 0]), 4, 48) := by kernel_rfl
theorem step_append_raw {o : Oper} {a : Act} {K : Act → World → Prop} {Q : Exit → Act → World → Prop} (W : World) (s x : Operand) (t e : TypeId)
  (ho : o.op = .call { callee := .builtin .append, args := #[s, x], argTypes := #[t, t] }) (i : TypeInfo) (z : Value) (size bytes : Nat) (ht : Tryz.prog.underlying t = some (.slice e)) (hi : Tryz.prog.info? e = some i) (hz : i.zero = some z)
  (hsize : i.size = size) (hby : i.bytes = bytes) (hzs : z.cells.size = size) (hsz : 0 < size) (hb9 : bytes ≤ 128)
  (v : Value) (n : Nat) (xs : List Value) (hs : a.eval s = v) (hown : Hid (W.ownsRow 0 e size v n xs)) (gx : Nat) (news : List Value) (hx : a.eval x = .slice (some ⟨gx, 0, none⟩) 1 1)
  (hb : Hid (W.heap[gx]? = some (.cells news.toArray e (0, 0)))) (hnl : news.length = size) (h1 : ∀ u ∈ news, u.oneCell' = true) (N : Nat) (hN : Hid (n + 1 = N)) (hn : N ≤ 1000000)
  (h : ∀ g c w', Hid (w'.ownsRow 0 e size (.slice g N c) N (xs ++ news)) → Hid (Fr (fun b _ => v.ownBlock ≠ some b) W w') → Hid (OwnNext W v (.slice g N c)) → K (a.put o.dst (.slice g N c)) w') : o.wp Tryz.prog a W K Q := by
 have hN' := hN.out
 subst hN'
 refine wp_append_own2 W s x t ho 0 e i z size bytes ht hi hz hsize hby hzs hsz v n xs hs hown.out ⟨gx, 0, none⟩ 1 1 news hx (by rw [hnl, Nat.one_mul]) (fun j u hj => ?_) h1 (by unfold maxLen; omega) ?_ (Nat.zero_le _) fun v' w' h2 h3 h4 => ?_
 ·have e1 : ((⟨gx, 0, none⟩ : Addr).add j) = ⟨gx, j, none⟩ := by
   unfold Addr.add
   split
   ·subst j; rfl
   ·simp
  rw [e1]
  exact cell_mk hb.out (by simpa using hj)
 ·have := Nat.mul_le_mul hn hb9
  omega
 ·obtain ⟨g, c, rfl⟩ := ownsRow_form h2
  exact h g c w' h2 (.of_grown h3 fun k o e _ hk => hk e) h4
section
variable {ops : Array Oper} {rest : List Oper} {o : Oper} {a : Act} {Q : Exit → Act → World → Prop}
theorem wpList_append_ptr (W : World) (hgd : o.guard = none) (s x : Operand) (ho : o.op = .call { callee := .builtin .append, args := #[s, x], argTypes := #[107, 107] })
  (v : Value) (n : Nat) (xs : List Value) (hs : a.eval s = v) (hown : Hid (W.ownsRow 0 34 1 v n xs)) (gx b : Nat) (hx : a.eval x = .slice (some ⟨gx, 0, none⟩) 1 1) (hb : Hid (W.heap[gx]? = some (.cells #[.pointer (some ⟨b, 0, none⟩)] 34 (0, 0)))) (N : Nat) (hN : Hid (n + 1 = N)) (hn : N ≤ 1000000)
  (h : ∀ g c w', Hid (w'.ownsRow 0 34 1 (.slice g N c) N (xs ++ [.pointer (some ⟨b, 0, none⟩)])) → Hid (Fr (fun b _ => v.ownBlock ≠ some b) W w') → Hid (OwnNext W v (.slice g N c)) → wpList Tryz.prog ops Q rest (a.put o.dst (.slice g N c)) w') : wpList Tryz.prog ops Q (o :: rest) a W := by
 obtain ⟨i0, hi, hz0, hz1, hz2⟩ := info_parts info_ptrN
 exact wpList_plain hgd fun _ hK => step_append_raw W s x 107 34 ho i0 _ 1 8 Tryz.underlying107 hi hz0 hz1 hz2 rfl (by decide) (by decide) v n xs hs hown gx [.pointer (some ⟨b, 0, none⟩)] hx hb rfl (fun u hu => by rw [List.mem_singleton.1 hu]; rfl) N hN hn fun g c w' h1 h2 h3 => hK _ _ (h g c w' h1 h2 h3)
end
section
variable {X X3 P3 : Nat → Prop} {w w3 w' : World} {G : Nat} {l : List Nx} {ms : List MV} {many : Int} {c : GV} {b : Nat} {n : Nd}
theorem Grp.more [Old] [NoOld] (h : Grp X w G l ms many c) (ha : Aft X (fun _ => False) X3 P3 w w3) (hx3 : ∀ k, X3 k → k < w3.heap.size) : Grp X3 w3 G l ms many c := by
 have f : Fr (fun _ _ => True) w w3 := ha.fr.mono fun _ _ _ h => h
 have h1 := h.tt f
 have off : ∀ {k o}, w.heap[k]? = some o → ¬ X k → ¬ X3 k := fun ho hk => (ha.off ho hk).2
 have row : ∀ {e : TypeId} {s : Nat} {v : Value} {n : Nat} {xs : List Value}, w.ownsRow 0 e s v n xs → (∀ k, v.ownBlock = some k → ¬ X k) → ∀ k, v.ownBlock = some k → ¬ X3 k := fun hr hk k e => by
  obtain ⟨cur, ho⟩ := own_tag hr e
  exact off ho (hk k e)
 obtain ⟨xs, r1⟩ := h.rs
 obtain ⟨xt, r2⟩ := h.rt
 obtain ⟨xl, r3⟩ := h.rl
 exact ⟨h1.top, off h.top h.gx, h1.rn, row h.rn h.xn, h.rm.aft ha, h1.rs, row r1 h.xs, h1.rt, row r2 h.xt, h1.rl, row r3 h.xl, fun x hx => (h.nd x hx).far ha (fun _ _ h => h) hx3, h.dj, hx3, Nat.le_trans h.sz f.size⟩
theorem Grp.add [Old] [NoOld] (h : Grp X w G l ms many c) (ha : Aft X (fun _ => False) X3 P3 w w3) (hp : PN X3 P3 w3 b n) {vn' : Value} (hf : Fr (fun k _ => k ≠ G ∧ c.vn.ownBlock ≠ some k) w3 w') (ht : w'.heap[G]? = some (.cells (W6g { c with vn := vn' } many) 111 (0, 0)))
  (hr : w'.ownsRow 0 34 1 vn' (l.length + 1) (l.map ptrB ++ [.pointer (some ⟨b, 0, none⟩)])) (hn : OwnNext w3 c.vn vn') : Grp X3 w' G (l ++ [⟨b, n, P3⟩]) ms many { c with vn := vn' } := by
 obtain ⟨q0, hq0⟩ := hp
 have h3 := h.more ha hq0.hx
 have tg : ∀ {e : TypeId} {s : Nat} {v : Value} {n : Nat} {xs : List Value}, w3.ownsRow 0 e s v n xs → e ≠ 111 → e ≠ 34 → w'.ownsRow 0 e s v n xs := fun hr h1 h2 => ownsRow_fr hr hf fun k o e ho => ⟨fun hk => by
  obtain ⟨cur, ho'⟩ := own_tag hr e
  rw [hk, h3.top] at ho'
  cases ho'
  exact h1 rfl, fun hk => by
  obtain ⟨cur, ho'⟩ := own_tag hr e
  obtain ⟨cur2, ho2⟩ := own_tag h3.rn hk
  rw [ho'] at ho2
  cases ho2
  exact h2 rfl⟩
 have kn : ∀ {P : Nat → Prop} {b : Nat} {n : Nd} {q : NV}, PNs X3 P w3 b n q → PNs X3 P w' b n q := fun hq => hq.frK hf fun k o ho hk => ⟨fun e => by
  rcases hk with hk | hk
  ·exact h3.gx (e ▸ hq.px k hk)
  ·rw [e, h3.top] at ho
   cases ho
   exact hk.ne0 rfl (by decide), fun e => by
  obtain ⟨cur, ho2⟩ := own_tag h3.rn e
  rcases hk with hk | hk
  ·exact h3.xn k e (hq.px k hk)
  ·rw [ho] at ho2
   cases ho2
   exact hk.ne0 rfl (by decide)⟩
 have hmm : OwnMs X3 0 w' c.vm ms := by
  refine ⟨tg h3.rm.row (by decide) (by decide), h3.rm.off, fun m hm' => (h3.rm.at' m hm').keep hf fun k o ho hr => ⟨fun e => ?_, fun e => ?_⟩⟩
  ·rw [e, h3.top] at ho
   cases ho
   exact hr.ne0 rfl (by decide)
  ·obtain ⟨cur, ho2⟩ := own_tag h3.rn e
   rw [ho] at ho2
   cases ho2
   exact hr.ne0 rfl (by decide)
 obtain ⟨xs, r1⟩ := h3.rs
 obtain ⟨xt, r2⟩ := h3.rt
 obtain ⟨xl, r3⟩ := h3.rl
 refine ⟨ht, h3.gx, by rw [List.length_append, List.map_append]; exact hr, fun k e hx => ?_, hmm, ⟨xs, tg r1 (by decide) (by decide)⟩, h3.xs, ⟨xt, tg r2 (by decide) (by decide)⟩, h3.xt, ⟨xl, tg r3 (by decide) (by decide)⟩, h3.xl, fun x hx => ?_, ?_, fun k hk => Nat.lt_of_lt_of_le (h3.hx k hk) hf.size, Nat.le_trans h3.sz hf.size⟩
 ·rcases hn with q | ⟨j, q, hj⟩
  ·have e' : vn'.ownBlock = some k := e
   rw [q] at e'
   exact h3.xn k e' hx
  ·have e' : vn'.ownBlock = some k := e
   rw [q] at e'
   cases e'
   have := h3.hx k hx
   omega
 ·rcases List.mem_append.1 hx with hx | hx
  ·obtain ⟨q, hq⟩ := h3.nd x hx
   exact ⟨q, kn hq⟩
  ·rw [List.mem_singleton.1 hx]
   exact ⟨q0, kn hq0⟩
 ·refine List.pairwise_append.2 ⟨h3.dj, List.pairwise_singleton _ _, fun x hx y hy k hk hk2 => ?_⟩
  rw [List.mem_singleton.1 hy] at hk2
  obtain ⟨q, hq⟩ := h.nd x hx
  have hlt := hq.hx k (hq.px k hk)
  rcases ha.nw k hk2 with q | q
  ·exact q
  ·omega
end
def cfN (many : Nat) : List Int := (List.range many).map fun (i : Nat) => (i : Int)
theorem cfN_len (many : Nat) : (cfN many).length = many := by unfold cfN; simp
theorem cfN_succ (k : Nat) : cfN (k + 1) = cfN k ++ [(k : Int)] := by unfold cfN; rw [List.range_succ, List.map_append]; rfl
structure LowN (B : Nat) (X : Nat → Prop) (G : Nat) (c : GV) : Prop where
 g : B ≤ G
 x : ∀ k, X k → B ≤ k
 n : ∀ k, c.vn.ownBlock = some k → B ≤ k
 m : ∀ k, c.vm.ownBlock = some k → B ≤ k
 s : ∀ k, c.vs.ownBlock = some k → B ≤ k
 t : ∀ k, c.vt.ownBlock = some k → B ≤ k
 l : ∀ k, c.vl.ownBlock = some k → B ≤ k
structure Low (K : Nat → Prop) (X : Nat → Prop) (G : Nat) (c : GV) : Prop where
 g : ¬ K G
 x : ∀ k, X k → ¬ K k
 n : ∀ k, c.vn.ownBlock = some k → ¬ K k
 m : ∀ k, c.vm.ownBlock = some k → ¬ K k
 s : ∀ k, c.vs.ownBlock = some k → ¬ K k
 t : ∀ k, c.vt.ownBlock = some k → ¬ K k
 l : ∀ k, c.vl.ownBlock = some k → ¬ K k
 b : ∀ q, K q → q < c.sz
theorem LowN.low {B : Nat} {X : Nat → Prop} {G : Nat} {c : GV} (h : LowN B X G c) (s : Nat) (hs : B ≤ s) : Low (fun q => q < B) X G { c with sz := s } :=
 ⟨fun q => by have := h.g; have q : G < B := q; omega, fun k e q => by have := h.x k e; have q : k < B := q; omega, fun k e q => by have := h.n k e; have q : k < B := q; omega, fun k e q => by have := h.m k e; have q : k < B := q; omega, fun k e q => by have := h.s k e; have q : k < B := q; omega, fun k e q => by have := h.t k e; have q : k < B := q; omega, fun k e q => by have := h.l k e; have q : k < B := q; omega, fun q h => Nat.lt_of_lt_of_le h hs⟩
theorem Grp.resz [Old] [NoOld] {X : Nat → Prop} {w : World} {G : Nat} {l : List Nx} {ms : List MV} {many : Int} {c : GV} (h : Grp X w G l ms many c) (s : Nat) (hs : s ≤ w.heap.size) : Grp X w G l ms many { c with sz := s } :=
 ⟨h.top, h.gx, h.rn, h.xn, h.rm, h.rs, h.xs, h.rt, h.xt, h.rl, h.xl, h.nd, h.dj, h.hx, hs⟩
theorem Low.more [Old] [NoOld] {K : Nat → Prop} {X : Nat → Prop} {w : World} {G : Nat} {l : List Nx} {ms : List MV} {many : Int} {c : GV} (h : Low K X G c) (hg : Grp X w G l ms many c) (s : Nat) (hs : w.heap.size ≤ s) : Low (fun q => K q ∨ (w.heap.size ≤ q ∧ q < s)) X G { c with sz := s } := by
 have out : ∀ k, ¬ K k → k < w.heap.size → ¬ (K k ∨ (w.heap.size ≤ k ∧ k < s)) := fun k h1 h2 q => q.elim h1 fun q => by omega
 have own : ∀ {e : TypeId} {sz : Nat} {v : Value} {n : Nat} {xs : List Value}, w.ownsRow 0 e sz v n xs → ∀ k, v.ownBlock = some k → k < w.heap.size := fun hr k e => by
  obtain ⟨cur, hc⟩ := own_tag hr e
  exact lt_of_some hc
 obtain ⟨_, r1⟩ := hg.rs
 obtain ⟨_, r2⟩ := hg.rt
 obtain ⟨_, r3⟩ := hg.rl
 exact ⟨out _ h.g (lt_of_some hg.top), fun k e => out k (h.x k e) (hg.hx k e), fun k e => out k (h.n k e) (own hg.rn k e), fun k e => out k (h.m k e) (own hg.rm.row k e), fun k e => out k (h.s k e) (own r1 k e), fun k e => out k (h.t k e) (own r2 k e), fun k e => out k (h.l k e) (own r3 k e), fun q e => e.elim (fun e => Nat.lt_of_lt_of_le (h.b q e) (Nat.le_trans hg.sz hs)) fun e => e.2⟩
theorem Low.less {K K' : Nat → Prop} {X : Nat → Prop} {G : Nat} {c : GV} (h : Low K X G c) (hk : ∀ q, K' q → K q) : Low K' X G c :=
 ⟨fun q => h.g (hk _ q), fun k e q => h.x k e (hk _ q), fun k e q => h.n k e (hk _ q), fun k e q => h.m k e (hk _ q), fun k e q => h.s k e (hk _ q), fun k e q => h.t k e (hk _ q), fun k e q => h.l k e (hk _ q), fun q e => h.b q (hk _ e)⟩
def BOut [Old] (w : World) (many : Nat) (e : Ending) (w' : World) : Prop :=
 ∃ X G l c, e = .returned (.pointer (some ⟨G, 0, none⟩)) ∧ (Grp X w' G l [] 0 c ∧ c.ns = 0 ∧ c.nt = 0 ∧ c.nl = 0 ∧ LowN w.heap.size X G c) ∧ l.map (·.n) = (cfN many).map (fun i => Nd.new i (cfN many)) ∧ Fr (fun _ _ => True) w w'
set_option maxRecDepth 100000 in
set_option maxHeartbeats 8000000 in
theorem begun_calls [Old] [NoOld] (w : World) (many : Nat) (h1 : 1 ≤ many) (h5 : many ≤ 5) : Calls Tryz.prog 44 #[.int .i64 (many : Nat)] w fun e w' => BOut w many e w' := by
 have m1 : ¬ ((many : Int) < 1) := by omega
 have m2 : ¬ ((5 : Int) < (many : Int)) := by omega
 have hbG : ∀ W : World, (Instr.build 111 #[]).run Tryz.prog W = .ok (.agg #[.slice none 0 0, .slice none 0 0, .slice none 0 0, .slice none 0 0, .slice none 0 0, .int .i64 0]) W := fun W => run_build W _ _ _ (by kernel_rfl)
 go_enter Tryz.func44, Tryz.ntmps44
 go_wp2
 go_loopw [3, 4] (fun o i wr => ∃ (k : Nat) (g : Option Addr) (c : Nat), i = .int .i64 (k : Nat) ∧ k ≤ many ∧ o = .slice g k c ∧ Hid (wr.ownsRow w.heap.size 3 1 (.slice g k c) (cfN k).length ((cfN k).flatMap encI)) ∧ Hid (Fr (fun _ _ => True) w wr)) (fun _ i _ => many - (intOf i).toNat)
 case atStart => exact ⟨0, none, 0, rfl, Nat.zero_le _, rfl, ⟨rfl, .inl ⟨rfl, rfl⟩⟩, Fr.refl _ _⟩
 case round =>
  obtain ⟨k, g, c, rfl, hk, rfl, HO, HF⟩ := hrel
  by_cases hlt : k < many
  ·have hltI : (k : Int) < (many : Int) := by omega
   obtain ⟨W3, hW3⟩ : ∃ Y, wr.alloc (.cells #[.int .i64 (k : Nat)] 3 (0, 0)) = Y := ⟨_, rfl⟩
   have f3 : Fr (fun _ _ => True) wr W3 := hW3 ▸ (Fr.refl _ _).alloc _
   have ROW : Hid (RowsAt (fun c _ => c = wr.heap.size) W3 (.slice (some ⟨wr.heap.size, 0, none⟩) 1 1) 1 encI [((k : Nat) : Int)]) := rows_oneI (hW3 ▸ heap_alloc_new _ _)
   have FW3 := Lib.hid (HF.out.trans f3)
   have OW3 : Hid (W3.ownsRow w.heap.size 3 1 (.slice g k c) (cfN k).length ((cfN k).flatMap encI)) := ownsRow_fr HO.out f3 fun _ _ _ _ => trivial
   have HL3 : Hid ((cfN (k + 1)).length = k + 1) := cfN_len _
   have HR3 : Hid (cfN k ++ [((k : Nat) : Int)] = cfN (k + 1)) := (cfN_succ k).symm
   have hl1 : k + 1 ≤ 1000000 := by omega
   clear f3
   go_wp2_with (at_builtin; (try rw [hW3]); refine wpList_append_ins w W3 FW3 rfl _ _ rfl (.slice g k c) (cfN k) rfl OW3 _ [((k : Nat) : Int)] rfl ROW _ HR3 (k + 1) HL3 hl1 ?_)
   intro g5 c5 W5 O5 F5 G5 N5
   clear hW3
   go_wp2
   go_roundw
   case rel => exact ⟨k + 1, g5, c5, by go_num, by omega, rfl, by show World.ownsRow _ _ _ _ _ _ _; rw [HL3.out]; exact O5.out, F5.out⟩
   case measure => simp [intOf]; omega
  ·have hge : ¬ (k : Int) < (many : Int) := by omega
   have hkm : k = many := by omega
   subst hkm
   obtain ⟨W2, hW2⟩ : ∃ Y, wr.alloc (.cells #[.slice none 0 0, .slice none 0 0, .slice none 0 0, .slice none 0 0, .slice none 0 0, .int .i64 0] 111 (0, 0)) = Y := ⟨_, rfl⟩
   have f2 : Fr (fun _ _ => True) wr W2 := hW2 ▸ (Fr.refl _ _).alloc _
   have T2 : W2.heap[wr.heap.size]? = some (.cells #[.slice none 0 0, .slice none 0 0, .slice none 0 0, .slice none 0 0, .slice none 0 0, .int .i64 0] 111 (0, 0)) := hW2 ▸ heap_alloc_new _ _
   have FW2 := Lib.hid (HF.out.trans f2)
   have CF : Hid (RowI W2 w.heap.size (.slice g k c) (cfN k)) := by
    show World.ownsRow _ _ _ _ _ _ _
    have := ownsRow_fr HO.out f2 fun _ _ _ _ => trivial
    rw [encI_flat] at this
    exact this
   have G0 : Hid (Grp (fun _ => False) W2 wr.heap.size [] [] 0 ⟨.slice none 0 0, .slice none 0 0, .slice none 0 0, .slice none 0 0, .slice none 0 0, 0, 0, 0, 0⟩) := ⟨T2, fun h => h, ⟨rfl, .inl ⟨rfl, rfl⟩⟩, (fun _ _ h => h), OwnMs.nil _ _ _, ⟨[], rfl, .inl ⟨rfl, rfl⟩⟩, (fun _ _ h => h), ⟨[], rfl, .inl ⟨rfl, rfl⟩⟩, (fun _ _ h => h), ⟨[], rfl, .inl ⟨rfl, rfl⟩⟩, (fun _ _ h => h), (fun x hx => by cases hx), .nil, (fun _ h => h.elim), Nat.zero_le _⟩
   obtain ⟨G, hG⟩ : ∃ x, wr.heap.size = x := ⟨_, rfl⟩
   have HGS : Hid (w.heap.size ≤ G) := by show _ ≤ _; rw [← hG]; exact HF.out.size
   rw [hG] at G0
   clear f2 T2 hge
   go_wp2
   try rw [hW2]
   try rw [hG]
   clear hW2 hG hbG
   go_loopw [6] (fun i wr => ∃ (j : Nat) (X : Nat → Prop) (l : List Nx) (cv : GV), i = .int .i64 (j : Nat) ∧ j ≤ k ∧ Hid (Grp X wr G l [] 0 cv) ∧ Hid (cv.ns = 0 ∧ cv.nt = 0 ∧ cv.nl = 0) ∧ Hid (LowN w.heap.size X G cv) ∧ Hid (l.length = j) ∧ Hid (l.map (·.n) = (cfN j).map (fun i => Nd.new i (cfN k))) ∧ Hid (IntsAt (RO X) wr (.slice g k c) (cfN k)) ∧ Hid (Fr (fun _ _ => True) w wr)) (fun i _ => k - (intOf i).toNat)
   case atStart => exact ⟨0, _, [], _, rfl, Nat.zero_le _, G0.out, ⟨rfl, rfl, rfl⟩, ⟨HGS.out, (fun _ h => h.elim), (fun _ e => by cases e), (fun _ e => by cases e), (fun _ e => by cases e), (fun _ e => by cases e), (fun _ e => by cases e)⟩, rfl, rfl, (CF.out.intsK.mono fun c o hc => ⟨fun h => h, by obtain ⟨cs, e⟩ := hc.2; exact .inr ⟨cs, _, _, e, by decide⟩⟩), FW2.out⟩
   case round =>
    obtain ⟨j, X, l, cv, rfl, hj, HGr, HZ, HXB, HLL, HLM, HCF, HFW⟩ := hrel
    by_cases hlt : j < k
    ·have hltI : (j : Int) < (k : Int) := by omega
     have NC := Lib.hid (enew_calls (X := X) wr (j : Nat) (.slice g k c) (cfN k) HCF.out (by rw [cfN_len]; omega) (by rw [cfN_len]; omega) HGr.out.hx (fun c h => absurd h (NoOld.no c)))
     go_wp2_with fail
     (with_reducible refine NC.out.mono ?_)
     rintro e W3 ⟨b, X3, P3, q3, rfl, h3, a3, hb⟩
     have HA := Lib.hid (And.intro h3 a3)
     have f3 : Hid (Fr (fun _ _ => True) wr W3) := a3.fr.mono fun _ _ _ h => h
     have x12 := (h3.cells (Fr.refl _ W3)).2.2.2.2.2.2.2.2.2.2.2.2.1
     have x13 := (h3.cells (Fr.refl _ W3)).2.2.2.2.2.2.2.2.2.2.2.2.2
     obtain ⟨bn, hbn⟩ : ∃ x, q3.bn = x := ⟨_, rfl⟩
     obtain ⟨bm, hbm⟩ : ∃ x, q3.bm = x := ⟨_, rfl⟩
     obtain ⟨cn, hcn⟩ : ∃ x, q3.cn = x := ⟨_, rfl⟩
     obtain ⟨cm, hcm⟩ : ∃ x, q3.cm = x := ⟨_, rfl⟩
     rw [hbn, hcn] at x12
     rw [hbm, hcm] at x13
     obtain ⟨gn, cn2, hvn⟩ := ownsRow_form HGr.out.rn
     have T3 : Hid (W3.heap[G]? = some (.cells (W6g cv 0) 111 (0, 0))) := f3.out.keep _ _ HGr.out.top trivial
     obtain ⟨jl, hjl⟩ : ∃ x, l.length = x := ⟨_, rfl⟩
     rw [hjl] at hvn
     have y0 : W3.cell? ⟨G, 0, none⟩ = some (.slice gn jl cn2) := by rw [← hvn]; exact cell_mk T3.out rfl
     have zG := frozen_mk (i := 0) T3.out
     obtain ⟨W4, hW4⟩ : ∃ Y, W3.alloc (.cells #[.pointer (some ⟨b, 0, none⟩)] 34 (0, 0)) = Y := ⟨_, rfl⟩
     have f4 : Hid (Fr (fun _ _ => True) W3 W4) := hW4 ▸ (Fr.refl _ _).alloc _
     have t4 : Hid (W4.heap[W3.heap.size]? = some (.cells #[.pointer (some ⟨b, 0, none⟩)] 34 (0, 0))) := hW4 ▸ heap_alloc_new _ _
     have OW : Hid (W4.ownsRow 0 34 1 (.slice gn jl cn2) jl (l.map ptrB)) := by
      show World.ownsRow _ _ _ _ _ _ _
      rw [← hvn, ← hjl]
      exact ownsRow_fr (ownsRow_fr HGr.out.rn f3.out fun _ _ _ _ => trivial) f4.out fun _ _ _ _ => trivial
     have HVN := Lib.hid (And.intro hvn hjl)
     obtain ⟨jn, hjn⟩ : ∃ x, jl + 1 = x := ⟨_, rfl⟩
     have HJN := Lib.hid hjn
     have hjn9 : jn ≤ 1000000 := by have := HLL.out; omega
     clear h3 a3 hbn hbm hcn hcm hvn hjl hjn NC
     go_wp2_with (at_builtin; (try rw [hW4]); refine wpList_append_ptr W4 rfl _ _ rfl (.slice gn jl cn2) jl (l.map ptrB) rfl OW W3.heap.size b rfl t4 jn HJN hjn9 ?_)
     intro g5 c5 W5 O5 F5 N5
     have hgn : (Value.slice gn jl cn2).ownBlock ≠ some G := fun e => by
      obtain ⟨cur, h8⟩ := own_tag OW.out e
      rw [f4.out.keep _ _ T3.out trivial] at h8
      cases h8
     have T5 : W5.heap[G]? = some (.cells (W6g cv 0) 111 (0, 0)) := F5.out.keep _ _ (f4.out.keep _ _ T3.out trivial) hgn
     have y5 : W5.cell? ⟨G, 0, none⟩ = some (.slice gn jl cn2) := by rw [← HVN.out.1]; exact cell_mk T5 rfl
     have z5 := frozen_mk (i := 0) T5
     obtain ⟨W6, hW6⟩ : ∃ Y, W5.setCell ⟨G, 0, none⟩ (.slice g5 jn c5) = Y := ⟨_, rfl⟩
     have f6 : Fr (fun k _ => k ≠ G) W5 W6 := hW6 ▸ (Fr.refl _ _).setCell (fun _ _ h => h rfl) _
     have T6 : W6.heap[G]? = some (.cells (W6g { cv with vn := .slice g5 jn c5 } 0) 111 (0, 0)) := by rw [← hW6]; exact heap_setCell_same (o := 0) T5 _
     have hG9 : G < W4.heap.size := lt_of_some (f4.out.keep _ _ T3.out trivial)
     have O6 : W6.ownsRow 0 34 1 (.slice g5 jn c5) (l.length + 1) (l.map ptrB ++ [.pointer (some ⟨b, 0, none⟩)]) := by
      rw [HVN.out.2, HJN.out]
      exact ownsRow_fr O5.out f6 fun k o e _ h => (N5.out.ne hgn hG9) (h ▸ e)
     have NX : OwnNext W3 cv.vn (.slice g5 jn c5) := by
      rw [HVN.out.1]
      rcases N5.out with q | ⟨k, q, hk⟩
      ·exact .inl q
      ·exact .inr ⟨k, q, Nat.le_trans f4.out.size hk⟩
     have GA := Lib.hid (HGr.out.add HA.out.2 ⟨q3, HA.out.1⟩ ((f4.out.mono fun _ _ _ => trivial).trans ((F5.out.mono fun c _ h e => h.2 (by rw [HVN.out.1]; exact e)).trans (f6.mono fun c _ h => h.1))) T6 O6 NX)
     have FW6 : Hid (Fr (fun _ _ => True) w W6) := Fr.within (((HFW.out.trans (f3.out.trans f4.out)).mono fun _ _ _ => trivial : Fr (fun k _ => True ∧ k < w.heap.size) w W4).trans ((F5.out.mono fun k _ h e => by have h9 := HXB.out.n k (by rw [HVN.out.1]; exact e); have := h.2; omega).trans (f6.mono fun k _ h e => by have := h.2; have := HGS.out; omega)))
     have HVX : ∀ k, cv.vn.ownBlock = some k → ∃ cur, W3.heap[k]? = some (.cells cur 34 (0, 0)) := fun k e => own_tag (ownsRow_fr HGr.out.rn f3.out fun _ _ _ _ => trivial) e
     have AX : Hid (IntsAt (RO X3) W6 (.slice g k c) (cfN k)) := ((((HCF.out.aft HA.out.2).mono3 (K' := fun c o => RO X3 c o ∧ (c ≠ G ∧ cv.vn.ownBlock ≠ some c)) fun c o ho hr => ⟨hr, fun e => by
       rw [e, T3.out] at ho
       cases ho
       exact hr.ne0 rfl (by decide), fun e => by
       obtain ⟨cur, h8⟩ := HVX c e
       rw [ho] at h8
       cases h8
       exact hr.ne0 rfl (by decide)⟩).fr ((f4.out.mono fun _ _ _ => trivial).trans ((F5.out.mono (K' := fun c _ => c ≠ G ∧ cv.vn.ownBlock ≠ some c) fun c _ h e => h.2 (by rw [HVN.out.1]; exact e)).trans (f6.mono fun c _ h => h.1))) fun c o h => h.2).mono fun c o h => h.1)
     have LW : Hid (LowN w.heap.size X3 G { cv with vn := .slice g5 jn c5 }) := ⟨HXB.out.g, fun q hq => by
       rcases (HA.out.2.xx q).1 hq with h | h
       ·exact HXB.out.x q h
       ·rcases HA.out.2.nw q h with h | h
        ·exact h.elim
        ·have := HFW.out.size; omega, fun q e => by
       rcases NX with h | ⟨k, h, hk⟩
       ·exact HXB.out.n q (h ▸ e)
       ·have e' : (Value.slice g5 jn c5).ownBlock = some q := e
        rw [h] at e'
        cases e'
        exact Nat.le_trans (Nat.le_trans HFW.out.size f3.out.size) hk, HXB.out.m, HXB.out.s, HXB.out.t, HXB.out.l⟩
     clear y0 zG hgn T5 f6 T6 O6 NX x12 x13 HVX
     go_wp2
     try rw [hW6]
     clear hW6 y5 z5
     go_roundw
     case rel =>
      refine ⟨j + 1, X3, l ++ [(⟨b, Nd.new ((j : Nat) : Int) (cfN k), P3⟩ : Nx)], { cv with vn := .slice g5 jn c5 }, by go_num, by omega, GA.out, HZ.out, LW.out, ?_, ?_, AX.out, FW6.out⟩
      ·show _ = _
       rw [List.length_append, HLL.out]; rfl
      ·show _ = _
       rw [List.map_append, HLM.out, cfN_succ, List.map_append]; rfl
     case measure => simp [intOf]; omega
    ·have hge : ¬ (j : Int) < (k : Int) := by omega
     have hjk : j = k := by omega
     subst hjk
     go_wp2
     go_ret
     exact ⟨X, G, l, cv, rfl, ⟨HGr.out, HZ.out.1, HZ.out.2.1, HZ.out.2.2, HXB.out⟩, HLM.out, HFW.out⟩
end Go.Proofs.YtmjccpfchhnfhaaGreat
/- Law 12: what a node does with a message that brings entries, or tells what was taken. -/
namespace Go.Proofs.YtmjccpfchhnfhaaGreat
open Go.RowKit
set_option linter.unusedVariables false
set_option linter.unusedSimpArgs false
section
variable {X P : Nat → Prop} {w w' : World} {b : Nat} {n n' : Nd} {q q' : NV}
set_option maxRecDepth 100000 in
set_option maxHeartbeats 8000000 in
theorem hears56_calls [Old] [NoOld] (h : PNs X P w b n q) (m : MV) (hm : MsAt X w m) (B : Nat) (hB : B ≤ 800000) (hg : Gd B n) (hmb : Bm B m.ms) (hmes : m.es.length ≤ 800000) (hk : m.kind = 5 ∨ m.kind = 6) :
    Calls Tryz.prog 99 #[.pointer (some ⟨b, 0, none⟩), .agg (cM m)] w fun e w' => NOut X P w b (n.hear m.ms) e w' := by
  obtain ⟨W1, hW1, F1, X1⟩ := mbox w m
  obtain ⟨g0, hg0⟩ : ∃ x, w.heap.size = x := ⟨_, rfl⟩
  rw [hg0] at X1
  have HG0 := Lib.hid hg0
  have H := Lib.hid h
  have HM := Lib.hid hm
  have HMB := Lib.hid hmb
  have HGD := Lib.hid hg
  obtain ⟨r1, hr1⟩ : ∃ r, n.onAsk m.ms = r := ⟨_, rfl⟩
  obtain ⟨r2, hr2⟩ : ∃ r, r1.1.onAnswer m.ms = r := ⟨_, rfl⟩
  obtain ⟨r3, hr3⟩ : ∃ r, r2.1.onAppend m.ms = r := ⟨_, rfl⟩
  obtain ⟨r4, hr4⟩ : ∃ r, r3.1.onAcked m.ms = r := ⟨_, rfl⟩
  have OUT : Hid (n.hear m.ms = (r4.1, r1.2 ++ r2.2 ++ r3.2 ++ r4.2)) := by show n.hear m.ms = _; rw [← hr4, ← hr3, ← hr2, ← hr1]; rfl
  have mix : m.index + m.es.length ≤ B := by have := hmb.index; have e : m.ms.index + m.ms.es.length = m.index + m.es.length := by show m.index + (m.es.map EV.en).length = _; rw [List.length_map]
                                             omega
  have mtm : m.tm ≤ B := hmb.tm
  have b1 : Gd B r1.1 := by rw [← hr1]; exact hg.up (Nd.onAsk_up n m.ms) (Nd.onAsk_b hg.bn hmb).1 (Nd.onAsk_y hg.ye)
  have b2 : Gd (B + 1) r2.1 := by rw [← hr2]; exact b1.up (Nd.onAnswer_up _ _) (Nd.onAnswer_b b1.bn hmb).1 (Nd.onAnswer_y b1.ye)
  have hmb1 := hmb.mono (Nat.le_succ B)
  have b3 : Gd (B + 1) r3.1 := by rw [← hr3]; exact b2.up (Nd.onAppend_up _ _) (Nd.onAppend_b b2.bn hmb1).1 (Nd.onAppend_y b2.ye)
  have l1 : r1.2.length ≤ 1 := by rw [← hr1]; exact Nd.onAsk_len _ _
  have l2 : r2.2.length ≤ 16 := by rw [← hr2]; exact Nat.le_trans (Nd.onAnswer_len _ _) b1.cf.2
  have l3 : r3.2.length ≤ 1 := by rw [← hr3]; exact Nd.onAppend_len _ _
  have l4 : r4.2.length ≤ 1 := by rw [← hr4]; exact Nd.onAcked_len _ _
  have C1 : Hid (∀ W, Fr (fun _ _ => True) w W → Calls Tryz.prog 86 #[.pointer (some ⟨b, 0, none⟩), .agg (cM m)] W fun e w' => NOut X P W b r1 e w') := fun W f => by
    have := hg.bn.last
    have := hg.es
    rw [← hr1]
    exact onAsk0_calls (h.tt f) m (by omega) (by omega) (by omega) (by omega)
  have C2 : Hid (∀ X P W q, PNs X P W b r1.1 q → Calls Tryz.prog 87 #[.pointer (some ⟨b, 0, none⟩), .agg (cM m)] W fun e w' => NOut X P W b r2 e w') := fun X P W q hp => by
    obtain ⟨mN, hme, hm16⟩ := b1.me
    have := b1.bn.last
    have := b1.bn.tm
    have := b1.es
    have := b1.cf
    have := b1.ye
    rw [← hr2]
    exact onAnswer0_calls hp m (by omega) (by omega) ⟨by omega, by omega⟩ (by omega) mN hme hm16 (by omega) (by omega) (by omega) (by omega)
  have C3 : Hid (∀ X P W q, PNs X P W b r2.1 q → MsAt X W m → Calls Tryz.prog 10 #[.pointer (some ⟨b, 0, none⟩), .agg (cM m)] W fun e w' => NOut X P W b r3 e w') := fun X P W q hp hma => by
    have := b2.bn.last
    have := b2.es
    rw [← hr3]
    exact onAppend_calls hp m hma (by omega) (by omega) (by omega) (by omega)
  have C4 : Hid (∀ X P W q, PNs X P W b r3.1 q → Calls Tryz.prog 14 #[.pointer (some ⟨b, 0, none⟩), .agg (cM m)] W fun e w' => NOut X P W b r4 e w') := fun X P W q hp => by
    have := b3.bn.last
    have := b3.es
    rw [← hr4]
    exact onAcked_calls hp m b3.cf b3.pos (fun y hy => by have := b3.bn.nx y hy; omega) (fun y hy => by have := b3.bn.mt y hy; omega) (by omega) (fun e => by have : m.prev ≤ B := hmb.prev e; omega) (by omega) (by omega)
  have VC : Hid (∀ W : World, W.heap[g0]? = some (.cells (cM m) 32 (0, 0)) → W.cell? ⟨g0, 0, none⟩ = some (.int .i64 m.kind) ∧ W.cell? ⟨g0, 1, none⟩ = some (.int .i64 m.src) ∧ W.cell? ⟨g0, 2, none⟩ = some (.int .i64 m.dst) ∧ W.cell? ⟨g0, 3, none⟩ = some (.int .u64 (m.tm : Nat)) ∧ W.cell? ⟨g0, 4, none⟩ = some (.int .u64 (m.index : Nat)) ∧ W.cell? ⟨g0, 5, none⟩ = some (.int .u64 (m.prev : Nat)) ∧ W.cell? ⟨g0, 6, none⟩ = some (.int .u64 (m.commit : Nat)) ∧ W.cell? ⟨g0, 7, none⟩ = some (.bool m.ok) ∧ W.cell? ⟨g0, 8, none⟩ = some (.slice m.da m.d.length m.dc) ∧ W.cell? ⟨g0, 9, none⟩ = some (.slice m.ea m.es.length m.ec)) := fun W t => mcells t
  have GP : Hid (¬ P g0) := fun hp => by have := h.hx g0 (h.px g0 hp); omega
  have GX : Hid (¬ X g0) := fun hp => by have := h.hx g0 hp; omega
  obtain ⟨v0, v1, v2, v3, v4, v5, v6, v7, v8, v9⟩ := VC.out W1 X1.out
  have HC1 := Lib.hid (C1.out W1 F1.out)
  have LN := Lib.hid (And.intro l1 (And.intro l2 (And.intro l3 l4)))
  unfold cM at hW1 C1 C2 C3 C4 HC1 ⊢
  clear h hm hB hg hmb hmes hr1 hr2 hr3 hr4 mix mtm b1 b2 hmb1 b3 l1 l2 l3 l4 C1
  go_enter Tryz.func99, Tryz.ntmps99
  go_wp2_with fail
  try rw [hW1]
  try rw [HG0.out]
  clear hW1 hg0
  (with_reducible refine HC1.out.mono ?_)
  intro e W2 ho
  obtain ⟨X2, P2, q2, va, ma, rfl, h2, a2, o2, e2⟩ := ho
  have A2 : Hid (Acc X P W1 W2 b r1.1 r1.2 X2 P2 q2 va ma) := ⟨h2, a2, o2, e2⟩
  obtain ⟨ga, ca, hva⟩ := ownsRow_form o2.row
  subst hva
  have lm2 : ma.length ≤ 1 := by have := LN.out.1; rw [← e2, List.length_map] at this; exact this
  obtain ⟨k2, hk2⟩ : ∃ k, ma.length = k := ⟨_, rfl⟩
  rw [hk2] at A2 lm2
  have K2 := Lib.hid hk2
  rw [hk2]
  clear h2 a2 o2 e2 HC1 v0 v1 v2 v3 v4 v5 v6 v7 v8 v9 hk2
  have T2 : Hid (W2.heap[g0]? = some (.cells (cM m) 32 (0, 0))) := A2.out.af.fr.keep _ _ X1.out GP.out
  obtain ⟨v0, v1, v2, v3, v4, v5, v6, v7, v8, v9⟩ := VC.out W2 T2.out
  have CC := Lib.hid (C2.out _ _ W2 _ A2.out.pn)
  go_wp2_with fail
  (with_reducible refine CC.out.mono ?_)
  intro e W3 ho
  obtain ⟨X3, P3, q3, vb, mb2, rfl, h3, a3, o3, e3⟩ := ho
  obtain ⟨gb, cb, hvb⟩ := ownsRow_form o3.row
  subst hvb
  have OW : Hid (W3.ownsRow 0 32 10 (.slice ga k2 ca) ma.length (ma.flatMap encM)) := own_re (A2.out.ow.aft a3).row (fun _ _ => Nat.zero_le _)
  have RW := Lib.hid o3.rows
  have lb : mb2.length ≤ 16 := by have := LN.out.2.1; rw [← e3, List.length_map] at this; exact this
  obtain ⟨kb, hkb⟩ : ∃ k, mb2.length = k := ⟨_, rfl⟩
  obtain ⟨k4, hN⟩ : ∃ z, k2 + kb = z := ⟨_, rfl⟩
  have HN : Hid ((ma ++ mb2).length = k4) := by show _ = _; rw [List.length_append, K2.out, hkb, hN]
  have hn : k4 ≤ 1000000 := by omega
  have lm4 : k4 ≤ 17 := by omega
  have HH := Lib.hid (And.intro h3 (And.intro a3 (And.intro o3 e3)))
  rw [hkb] at RW ⊢
  clear CC v0 v1 v2 v3 v4 v5 v6 v7 v8 v9 h3 a3 o3 e3 hkb hN lb lm2
  go_wp2_with (at_builtin; refine wpList_append_mso W3 rfl _ _ rfl (.slice ga k2 ca) ma rfl OW (.slice gb kb cb) mb2 rfl RW k4 HN hn ?_)
  intro g4 c4 W4 O5 F5 N5
  obtain ⟨m4, hm4⟩ : ∃ x, ma ++ mb2 = x := ⟨_, rfl⟩
  have A4 : Hid (Acc X P W1 W4 b r2.1 (r1.2 ++ r2.2) X3 P3 q3 (.slice g4 k4 c4) m4) := by
    rw [← hm4]
    exact Acc.app HH.out.1 (A2.out.af.trans HH.out.2.1) (A2.out.ow.aft HH.out.2.1) HH.out.2.2.1 A2.out.eq HH.out.2.2.2 (by rw [HN.out, List.flatMap_append]; exact O5.out) F5.out N5.out
  have K4 : Hid (m4.length = k4) := by rw [← hm4]; exact HN.out
  clear O5 F5 N5 OW RW HN hn HH hm4
  have T4 : Hid (W4.heap[g0]? = some (.cells (cM m) 32 (0, 0))) := A4.out.af.fr.keep _ _ X1.out GP.out
  obtain ⟨v0, v1, v2, v3, v4, v5, v6, v7, v8, v9⟩ := VC.out W4 T4.out
  have CC := Lib.hid (C3.out _ _ W4 _ A4.out.pn ((HM.out.tt F1.out).aft A4.out.af))
  go_wp2_with fail
  (with_reducible refine CC.out.mono ?_)
  intro e W5 ho
  obtain ⟨X5, P5, q5, vb, mb4, rfl, h3, a3, o3, e3⟩ := ho
  obtain ⟨gb, cb, hvb⟩ := ownsRow_form o3.row
  subst hvb
  have OW : Hid (W5.ownsRow 0 32 10 (.slice g4 k4 c4) m4.length (m4.flatMap encM)) := own_re (A4.out.ow.aft a3).row (fun _ _ => Nat.zero_le _)
  have RW := Lib.hid o3.rows
  have lb : mb4.length ≤ 1 := by have := LN.out.2.2.1; rw [← e3, List.length_map] at this; exact this
  obtain ⟨kb, hkb⟩ : ∃ k, mb4.length = k := ⟨_, rfl⟩
  obtain ⟨k6, hN⟩ : ∃ z, k4 + kb = z := ⟨_, rfl⟩
  have HN : Hid ((m4 ++ mb4).length = k6) := by show _ = _; rw [List.length_append, K4.out, hkb, hN]
  have hn : k6 ≤ 1000000 := by omega
  have lm6 : k6 ≤ 18 := by omega
  have HH := Lib.hid (And.intro h3 (And.intro a3 (And.intro o3 e3)))
  rw [hkb] at RW ⊢
  clear CC v0 v1 v2 v3 v4 v5 v6 v7 v8 v9 h3 a3 o3 e3 hkb hN lb lm4
  go_wp2_with (at_builtin; refine wpList_append_mso W5 rfl _ _ rfl (.slice g4 k4 c4) m4 rfl OW (.slice gb kb cb) mb4 rfl RW k6 HN hn ?_)
  intro g6 c6 W6 O5 F5 N5
  obtain ⟨m6, hm6⟩ : ∃ x, m4 ++ mb4 = x := ⟨_, rfl⟩
  have A6 : Hid (Acc X P W1 W6 b r3.1 ((r1.2 ++ r2.2) ++ r3.2) X5 P5 q5 (.slice g6 k6 c6) m6) := by
    rw [← hm6]
    exact Acc.app HH.out.1 (A4.out.af.trans HH.out.2.1) (A4.out.ow.aft HH.out.2.1) HH.out.2.2.1 A4.out.eq HH.out.2.2.2 (by rw [HN.out, List.flatMap_append]; exact O5.out) F5.out N5.out
  have K6 : Hid (m6.length = k6) := by rw [← hm6]; exact HN.out
  clear O5 F5 N5 OW RW HN hn HH hm6
  have T6 : Hid (W6.heap[g0]? = some (.cells (cM m) 32 (0, 0))) := A6.out.af.fr.keep _ _ X1.out GP.out
  obtain ⟨v0, v1, v2, v3, v4, v5, v6, v7, v8, v9⟩ := VC.out W6 T6.out
  have CC := Lib.hid (C4.out _ _ W6 _ A6.out.pn)
  go_wp2_with fail
  (with_reducible refine CC.out.mono ?_)
  intro e W7 ho
  obtain ⟨X7, P7, q7, vb, mb6, rfl, h3, a3, o3, e3⟩ := ho
  obtain ⟨gb, cb, hvb⟩ := ownsRow_form o3.row
  subst hvb
  have OW : Hid (W7.ownsRow 0 32 10 (.slice g6 k6 c6) m6.length (m6.flatMap encM)) := own_re (A6.out.ow.aft a3).row (fun _ _ => Nat.zero_le _)
  have RW := Lib.hid o3.rows
  have lb : mb6.length ≤ 1 := by have := LN.out.2.2.2; rw [← e3, List.length_map] at this; exact this
  obtain ⟨kb, hkb⟩ : ∃ k, mb6.length = k := ⟨_, rfl⟩
  obtain ⟨k8, hN⟩ : ∃ z, k6 + kb = z := ⟨_, rfl⟩
  have HN : Hid ((m6 ++ mb6).length = k8) := by show _ = _; rw [List.length_append, K6.out, hkb, hN]
  have hn : k8 ≤ 1000000 := by omega
  have lm8 : k8 ≤ 19 := by omega
  have HH := Lib.hid (And.intro h3 (And.intro a3 (And.intro o3 e3)))
  rw [hkb] at RW ⊢
  clear CC v0 v1 v2 v3 v4 v5 v6 v7 v8 v9 h3 a3 o3 e3 hkb hN lb lm6
  go_wp2_with (at_builtin; refine wpList_append_mso W7 rfl _ _ rfl (.slice g6 k6 c6) m6 rfl OW (.slice gb kb cb) mb6 rfl RW k8 HN hn ?_)
  intro g8 c8 W8 O5 F5 N5
  obtain ⟨m8, hm8⟩ : ∃ x, m6 ++ mb6 = x := ⟨_, rfl⟩
  have A8 : Hid (Acc X P W1 W8 b r4.1 ((r1.2 ++ r2.2 ++ r3.2) ++ r4.2) X7 P7 q7 (.slice g8 k8 c8) m8) := by
    rw [← hm8]
    exact Acc.app HH.out.1 (A6.out.af.trans HH.out.2.1) (A6.out.ow.aft HH.out.2.1) HH.out.2.2.1 A6.out.eq HH.out.2.2.2 (by rw [HN.out, List.flatMap_append]; exact O5.out) F5.out N5.out
  have K8 : Hid (m8.length = k8) := by rw [← hm8]; exact HN.out
  clear O5 F5 N5 OW RW HN hn HH hm8
  go_wp2
  go_ret
  rw [OUT.out]
  exact ⟨_, _, _, _, m8, rfl, A8.out.pn, .lead F1.out A8.out.af, A8.out.ow.lo F1.out.size, A8.out.eq⟩
end
end Go.Proofs.YtmjccpfchhnfhaaGreat
/- The document's nodes: OnAppend, what is none, and of a past term (printed by dr7.py). -/
namespace Go.Proofs.YtmjccpfchhnfhaaGreat
open Go.RowKit
set_option linter.unusedVariables false
set_option linter.unusedSimpArgs false
section
variable {X : Nat → Prop} {w w' : World} {b : Nat} {n n' : Nd} {q q' : DV}
end
end Go.Proofs.YtmjccpfchhnfhaaGreat
/- The document's nodes: OnAppend, taken (printed by dr7.py). -/
namespace Go.Proofs.YtmjccpfchhnfhaaGreat
open Go.RowKit
set_option linter.unusedVariables false
set_option linter.unusedSimpArgs false
section
variable {X : Nat → Prop} {w w' : World} {b : Nat} {n n' : Nd} {q q' : DV}
end
end Go.Proofs.YtmjccpfchhnfhaaGreat
/- The document's nodes: OnAppend, all (printed by dr7.py). -/
namespace Go.Proofs.YtmjccpfchhnfhaaGreat
open Go.RowKit
set_option linter.unusedVariables false
set_option linter.unusedSimpArgs false
section
variable {X : Nat → Prop} {w w' : World} {b : Nat} {n n' : Nd} {q q' : DV}
end
end Go.Proofs.YtmjccpfchhnfhaaGreat
/- The document's nodes: OnAcked, what is none (printed by dr8.py). -/
namespace Go.Proofs.YtmjccpfchhnfhaaGreat
open Go.RowKit
set_option linter.unusedVariables false
set_option linter.unusedSimpArgs false
section
variable {X : Nat → Prop} {w w' : World} {b : Nat} {n n' : Nd} {q q' : DV}
end
end Go.Proofs.YtmjccpfchhnfhaaGreat
/- The document's nodes: OnAcked, of case D (printed by dr8.py). -/
namespace Go.Proofs.YtmjccpfchhnfhaaGreat
open Go.RowKit
set_option linter.unusedVariables false
set_option linter.unusedSimpArgs false
section
variable {X : Nat → Prop} {w w' : World} {b : Nat} {n n' : Nd} {q q' : DV}
end
end Go.Proofs.YtmjccpfchhnfhaaGreat
/- The document's nodes: OnAcked, of case O0 (printed by dr8.py). -/
namespace Go.Proofs.YtmjccpfchhnfhaaGreat
open Go.RowKit
set_option linter.unusedVariables false
set_option linter.unusedSimpArgs false
section
variable {X : Nat → Prop} {w w' : World} {b : Nat} {n n' : Nd} {q q' : DV}
end
end Go.Proofs.YtmjccpfchhnfhaaGreat
/- The document's nodes: OnAcked, of case O1 (printed by dr8.py). -/
namespace Go.Proofs.YtmjccpfchhnfhaaGreat
open Go.RowKit
set_option linter.unusedVariables false
set_option linter.unusedSimpArgs false
section
variable {X : Nat → Prop} {w w' : World} {b : Nat} {n n' : Nd} {q q' : DV}
end
end Go.Proofs.YtmjccpfchhnfhaaGreat
/- The document's nodes: OnAcked, of case A (printed by dr8.py). -/
namespace Go.Proofs.YtmjccpfchhnfhaaGreat
open Go.RowKit
set_option linter.unusedVariables false
set_option linter.unusedSimpArgs false
section
variable {X : Nat → Prop} {w w' : World} {b : Nat} {n n' : Nd} {q q' : DV}
end
end Go.Proofs.YtmjccpfchhnfhaaGreat
/- The document's nodes: OnAcked, all (printed by dr8.py). -/
namespace Go.Proofs.YtmjccpfchhnfhaaGreat
open Go.RowKit
set_option linter.unusedVariables false
set_option linter.unusedSimpArgs false
section
variable {X : Nat → Prop} {w w' : World} {b : Nat} {n n' : Nd} {q q' : DV}
end
end Go.Proofs.YtmjccpfchhnfhaaGreat
/- The document's nodes: Beat (printed by dr4.py). -/
namespace Go.Proofs.YtmjccpfchhnfhaaGreat
open Go.RowKit
set_option linter.unusedVariables false
set_option linter.unusedSimpArgs false
section
variable {X : Nat → Prop} {w w' : World} {b : Nat} {n n' : Nd} {q q' : DV}
set_option maxRecDepth 100000 in
set_option maxHeartbeats 4000000 in
theorem dbeat_calls [Old] (h : DNs X w b n q) (hc : n.conf.length ≤ 1000) (hnx : ∀ y ∈ n.next, y < 18446744073709551616) (hl : n.log.last + 1 < 18446744073709551616) (hle : n.log.es.length ≤ 900000) :
  Calls Tryz.prog 19 #[.pointer (some ⟨b, 0, none⟩)] w fun e w' => MOut X w n.beat e w' := by
 have OC := Lib.hid (dothers_calls h hc)
 have hol : n.others.length ≤ 1000 := Nat.le_trans (List.length_filter_le _ _) hc
 have TO := Lib.hid (fun W (f : Fr (fun _ _ => True) w W) x => dto_calls (h.tt f) x hnx hl hle)
 have OUT : Hid (n.beat = n.others.flatMap n.sendTo) := rfl
 obtain ⟨ot, hot⟩ : ∃ o, n.others = o := ⟨_, rfl⟩
 rw [hot] at OC hol OUT
 have HX : Hid (∀ c, X c → c < w.heap.size) := h.hx
 have HNEW : Hid (∀ {c}, w.heap.size ≤ c → ¬ Old.o c) := h.new
 clear h hot hc hnx hl hle
 go_enter Tryz.func19, Tryz.ntmps19
 go_wp2_with fail
 (with_reducible refine OC.out.mono ?_)
 rintro e w2 ⟨⟨go, ko, rfl, ro⟩, f2⟩
 have F2 := Lib.hid f2
 have RO2 := Lib.hid ro.ints
 have ROW2 := Lib.hid ro
 have O0 : Hid (w2.ownsRow w.heap.size 32 10 (.slice none 0 0) ([] : List MV).length (([] : List MV).flatMap encM)) := ⟨rfl, .inl ⟨rfl, rfl⟩⟩
 clear ro f2 OC
 go_wp2
 go_loopw [3, 5] (fun o i wr => ∃ (k : Nat) (g : Option Addr) (l c : Nat) (T : List MV), i = .int .i64 (k : Nat) ∧ k ≤ ot.length ∧ o = .slice g l c ∧ l ≤ k ∧ Hid (T.map MV.ms = (ot.take k).flatMap n.sendTo) ∧ Hid (T.length = l) ∧ Hid (wr.ownsRow w.heap.size 32 10 (.slice g l c) T.length (T.flatMap encM)) ∧ Hid (∀ m ∈ T, MsAt X wr m) ∧ Hid (Fr KI w2 wr) ∧ Hid (Fr (fun _ _ => True) w wr)) (fun _ i _ => ot.length - (intOf i).toNat)
 case atStart => exact ⟨0, none, 0, 0, [], rfl, Nat.zero_le _, rfl, Nat.zero_le _, rfl, rfl, O0.out, (fun m hm => by cases hm), Fr.refl _ _, F2.out⟩
 case round =>
  obtain ⟨k, g, l, c, T, rfl, hk, rfl, hlk, HT, HL, HO, HM, HF2, HFW⟩ := hrel
  by_cases hlt : k < ot.length
  ·have hltI : (k : Int) < (ot.length : Int) := by omega
   obtain ⟨bo, oo, rfl⟩ := RO2.out.addr (by omega)
   have hcell := RO2.out.cell hlt
   obtain ⟨x, hx⟩ : ∃ x, ot[k] = x := ⟨_, rfl⟩
   rw [hx] at hcell
   have u0 := HF2.out.cell (p := ⟨bo, oo + k, none⟩) (fun o ho => by
    obtain ⟨cur, hc⟩ := own_tag ROW2.out (c := bo) rfl
    have hc' : w2.heap[bo]? = some o := ho
    rw [hc] at hc'
    cases hc'
    exact ⟨_, _, rfl⟩) hcell
   have TO1 := Lib.hid (TO.out wr HFW.out x)
   have HS : Hid ((ot.take (k + 1)).flatMap n.sendTo = (ot.take k).flatMap n.sendTo ++ n.sendTo x) := by
    show _ = _
    rw [List.take_succ_eq_append_getElem hlt, List.flatMap_append, hx]
    simp
   have HS1 : Hid ((n.sendTo x).length ≤ 1) := sendTo_len n x
   clear hx hcell
   go_wp2_with fail
   (with_reducible refine TO1.out.mono ?_)
   rintro e w3 ⟨⟨v3, mvs, rfl, o3, e3⟩, f3⟩
   have O3 := Lib.hid o3
   have E3 := Lib.hid e3
   have F3 := Lib.hid f3
   have FW3 := Lib.hid (HFW.out.trans f3)
   have OW3 : Hid (w3.ownsRow w.heap.size 32 10 (.slice g l c) T.length (T.flatMap encM)) := ownsRow_fr HO.out f3 fun _ _ _ _ => trivial
   have hml : mvs.length ≤ 1 := by have := HS1.out; rw [← e3, List.length_map] at this; exact this
   obtain ⟨M, hM⟩ : ∃ M, mvs.length = M := ⟨_, rfl⟩
   have HL3 : Hid ((T ++ mvs).length = l + M) := by show _ = _; rw [List.length_append, HL.out, hM]
   have RW3 := Lib.hid o3.rows
   rw [hM] at hml
   have hl1 : l + M ≤ 1000000 := by omega
   obtain ⟨ga, na, ca, hv3, _⟩ : ∃ ga na ca, v3 = .slice ga na ca ∧ True := by
    rcases o3.row.2 with ⟨e, _⟩ | ⟨g, cap, cur, e, _⟩
    ·exact ⟨_, _, _, e, trivial⟩
    ·exact ⟨_, _, _, e, trivial⟩
   subst hv3
   clear o3 e3 f3 TO1 u0 hM
   go_wp2_with (at_builtin; refine wpList_append_mss w w3 FW3 rfl _ _ rfl (.slice g l c) T rfl OW3 (.slice ga na ca) mvs rfl RW3 _ rfl (l + M) HL3 hl1 ?_)
   intro g5 c5 W5 O5 F5 G5 N5
   go_wp2
   go_roundw
   case rel =>
    have htag : ∀ cb, (Value.slice g l c).ownBlock = some cb → ∃ cur, w3.heap[cb]? = some (.cells cur 32 (0, 0)) := fun cb e => own_tag OW3.out e
    have ki5 : Fr KI w3 W5 := G5.out.monoH fun i o hi hk e => by
     obtain ⟨cur, hc⟩ := htag i e
     rw [hc] at hi
     cases hi
     obtain ⟨cs, fz, e⟩ := hk
     cases e
    refine ⟨k + 1, g5, l + M, c5, T ++ mvs, by go_num, by omega, rfl, by omega, ?_, HL3.out, ?_, fun m hm => ?_, (HF2.out.trans (F3.out.mono fun _ _ _ => trivial)).trans ki5, F5.out⟩
    ·show _ = _
     rw [List.map_append, HT.out, E3.out, HS.out]
    ·show World.ownsRow _ _ _ _ _ _ _
     rw [HL3.out, List.flatMap_append]; exact O5.out
    ·refine MsAt.keep (w := w3) ?_ G5.out ?_
     ·rcases List.mem_append.1 hm with hm | hm
      ·exact (HM.out m hm).tt F3.out
      ·exact O3.out.at' m hm
     ·intro i o hi hr e
      obtain ⟨cur, hc⟩ := htag i e
      rw [hc] at hi
      cases hi
      exact hr.ne (HNEW.out (own_new (v := .slice g l c) OW3.out i e)) rfl (by decide)
   case measure => simp [intOf]; omega
  ·have hge : ¬ (k : Int) < (ot.length : Int) := by omega
   have HTT : Hid (T.map MV.ms = n.beat) := by show _ = _; rw [HT.out, OUT.out, List.take_of_length_le (by omega)]
   go_wp2
   go_ret
   refine ⟨⟨_, T, rfl, ⟨HO.out, fun cb e hc => ?_, HM.out⟩, HTT.out⟩, HFW.out⟩
   have := HX.out cb hc
   have := own_new HO.out cb e
   omega
end
end Go.Proofs.YtmjccpfchhnfhaaGreat
/- The document's nodes: Behind (printed by dr5.py). -/
namespace Go.Proofs.YtmjccpfchhnfhaaGreat
open Go.RowKit
set_option linter.unusedVariables false
set_option linter.unusedSimpArgs false
section
variable {X : Nat → Prop} {w w' : World} {b : Nat} {n n' : Nd} {q q' : DV}
set_option maxRecDepth 100000 in
set_option maxHeartbeats 4000000 in
theorem dbehind_calls [Old] (h : DNs X w b n q) (hc : n.conf.length ≤ 1000) (hm : ∀ x ∈ n.conf, 0 ≤ x ∧ x < 16) :
  Calls Tryz.prog 21 #[.pointer (some ⟨b, 0, none⟩)] w fun e w' => (∃ g k, e = .returned (.slice g n.behind.length k) ∧ RowI w' w.heap.size (.slice g n.behind.length k) n.behind) ∧ Fr (fun _ _ => True) w w' := by
 have OC := Lib.hid (dothers_calls h hc)
 have hol : n.others.length ≤ 1000 := Nat.le_trans (List.length_filter_le _ _) hc
 have hom : Hid (∀ x ∈ n.others, 0 ≤ x ∧ x < 16) := fun x hx => hm x (List.mem_filter.1 hx).1
 obtain ⟨p, hp⟩ : ∃ p : Int → Bool, p = fun x => decide (n.role = 3) && decide (n.next.getD x.toNat 0 ≤ n.log.base) := ⟨_, rfl⟩
 have OUT : Hid (n.behind = n.others.filter p) := by
  show n.behind = _
  unfold Nd.behind
  rw [hp]
  by_cases hr : n.role = 3
  ·rw [if_pos hr]; simp [hr]
  ·rw [if_neg hr]; simp [hr]
 obtain ⟨ro, hro⟩ : ∃ x, n.role = x := ⟨_, rfl⟩
 obtain ⟨bs, hbs⟩ : ∃ x, n.log.base = x := ⟨_, rfl⟩
 have HP : Hid (∀ t : Nat, p (t : Nat) = (decide (ro = 3) && decide (n.next.getD t 0 ≤ bs))) := fun t => by rw [hp, hro, hbs]; rfl
 obtain ⟨ot, hot⟩ : ∃ o, n.others = o := ⟨_, rfl⟩
 rw [hot] at OC hol OUT hom
 have CC : Hid (∀ W, Fr (fun _ _ => True) w W → W.cell? ⟨b, 2, none⟩ = some (.int .i64 ro) ∧ W.cell? ⟨b, 8, none⟩ = some (.int .u64 (bs : Nat)) ∧ ∀ t, t < 16 → W.cell? ⟨b, 12 + t, none⟩ = some (.int .u64 (n.next.getD t 0 : Nat))) := fun W f => by
  obtain ⟨x0, x1, x2, x3, x4, x5, x6, x7, x8, x9, x10, x11⟩ := h.cells f
  exact ⟨by rw [x2, hro], by rw [x8, hbs], fun t ht => h.nxt f t ht⟩
 clear h hot hc hro hbs hp hm
 go_enter Tryz.func21, Tryz.ntmps21
 go_wp2_with fail
 (with_reducible refine OC.out.mono ?_)
 rintro e w2 ⟨⟨go, ko, rfl, ro2⟩, f2⟩
 have F2 := Lib.hid f2
 have RO2 := Lib.hid ro2.ints
 have ROW2 := Lib.hid ro2
 have S2 : Hid (w.heap.size ≤ w2.heap.size) := f2.size
 clear ro2 f2 OC
 go_wp2
 go_loopw [3, 5] (fun o i wr => ∃ (k : Nat) (g : Option Addr) (l c : Nat) (T : List Int), i = .int .i64 (k : Nat) ∧ k ≤ ot.length ∧ o = .slice g l c ∧ l ≤ k ∧ Hid (T = (ot.take k).filter p) ∧ Hid (T.length = l) ∧ Hid (wr.ownsRow w2.heap.size 3 1 (.slice g l c) T.length (T.flatMap encI)) ∧ Hid (Fr (fun _ _ => True) w2 wr)) (fun _ i _ => ot.length - (intOf i).toNat)
 case atStart => exact ⟨0, none, 0, 0, [], rfl, Nat.zero_le _, rfl, Nat.zero_le _, rfl, rfl, ⟨rfl, .inl ⟨rfl, rfl⟩⟩, Fr.refl _ _⟩
 case round =>
  obtain ⟨k, g, l, c, T, rfl, hk, rfl, hlk, HT, HL, HO, HF2⟩ := hrel
  by_cases hlt : k < ot.length
  ·have hltI : (k : Int) < (ot.length : Int) := by omega
   obtain ⟨bo, oo, rfl⟩ := RO2.out.addr (by omega)
   have hcell := RO2.out.cell hlt
   obtain ⟨t, ht⟩ := Int.eq_ofNat_of_zero_le (hom.out _ (List.getElem_mem hlt)).1
   have ht16 : t < 16 := by have := (hom.out _ (List.getElem_mem hlt)).2; omega
   rw [ht] at hcell
   have ht16I : ((t : Nat) : Int) < 16 := by omega
   have ht0 : ¬ ((t : Nat) : Int) < 0 := by omega
   have u0 := HF2.out.cell (p := ⟨bo, oo + k, none⟩) (fun o ho => trivial) hcell
   obtain ⟨y2, y8, zz⟩ := CC.out wr (F2.out.trans HF2.out)
   have z := zz t ht16
   obtain ⟨nt, hnt⟩ : ∃ x, n.next.getD t 0 = x := ⟨_, rfl⟩
   rw [hnt] at z
   have HS : Hid ((ot.take (k + 1)).filter p = (ot.take k).filter p ++ if p (t : Nat) = true then [((t : Nat) : Int)] else []) := by
    show _ = _
    rw [List.take_succ_eq_append_getElem hlt, List.filter_append, ht]
    rw [List.filter_cons]
    rfl
   have HPT : Hid (p (t : Nat) = (decide (ro = 3) && decide (nt ≤ bs))) := by show _ = _; rw [HP.out, hnt]
   clear hcell zz hnt ht ht16
   by_cases hr : ro = 3
   ·subst hr
    by_cases hb : nt ≤ bs
    ·have g2 : decide (nt ≤ bs) = true := decide_eq_true hb
     have HP1 : Hid (p (t : Nat) = true) := by show _ = _; rw [HPT.out, g2]; rfl
     clear hb HPT
     go_wp2_with fail
     go_quiet (fail)
     clear y2 y8 z
     have fq : Fr (fun _ _ => True) wr (wr.drewN nq) := (Fr.refl _ wr).drewN nq
     have u1 := fq.cell (fun _ _ => trivial) u0
     obtain ⟨W2, hW2⟩ : ∃ Y, wr.drewN nq = Y := ⟨_, rfl⟩
     rw [hW2] at fq u1 ⊢
     clear hW2 u0
     obtain ⟨W3, hW3⟩ : ∃ Y, W2.alloc (.cells #[.int .i64 (t : Nat)] 3 (0, 0)) = Y := ⟨_, rfl⟩
     have f3 : Fr (fun _ _ => True) W2 W3 := hW3 ▸ (Fr.refl _ _).alloc _
     have ROW : Hid (RowsAt (fun c _ => c = W2.heap.size) W3 (.slice (some ⟨W2.heap.size, 0, none⟩) 1 1) 1 encI [((t : Nat) : Int)]) := rows_oneI (hW3 ▸ heap_alloc_new _ _)
     have FW3 := Lib.hid (HF2.out.trans (fq.trans f3))
     have OW3 : Hid (W3.ownsRow w2.heap.size 3 1 (.slice (g) l c) T.length (T.flatMap encI)) := ownsRow_fr HO.out (fq.trans f3) fun _ _ _ _ => trivial
     have HL3 : Hid ((T ++ [((t : Nat) : Int)]).length = l + 1) := by show _ = _; rw [List.length_append, HL.out]; rfl
     have hl1 : l + 1 ≤ 1000000 := by omega
     clear f3 fq
     go_wp2_with (at_builtin; (try rw [hW3]); refine wpList_append_ins w2 W3 FW3 rfl _ _ rfl (.slice g l c) T rfl OW3 _ [((t : Nat) : Int)] rfl ROW _ rfl (l + 1) HL3 hl1 ?_)
     intro g5 c5 W5 O5 F5 G5 N5
     clear hW3
     go_wp2
     go_roundw
     case rel => exact ⟨k + 1, g5, l + 1, c5, T ++ [((t : Nat) : Int)], by go_num, by omega, rfl, by omega, by show _ = _; rw [HS.out, if_pos HP1.out, ← HT.out], HL3.out, by show World.ownsRow _ _ _ _ _ _ _; rw [HL3.out, List.flatMap_append]; exact O5.out, F5.out⟩
     case measure => simp [intOf]; omega
    ·have g2 : decide (nt ≤ bs) = false := decide_eq_false hb
     have HP1 : Hid (¬ p (t : Nat) = true) := by show ¬ _; rw [HPT.out, g2]; decide
     clear hb HPT
     go_wp2_with fail
     go_quiet (fail)
     have fq : Fr (fun _ _ => True) wr (wr.drewN nq) := (Fr.refl _ wr).drewN nq
     have HFQ := Lib.hid (HF2.out.trans fq)
     have OWQ := Lib.hid (ownsRow_fr HO.out fq fun _ _ _ _ => trivial)
     clear y2 y8 z fq u0
     go_wp2
     go_roundw
     case rel => exact ⟨k + 1, g, l, c, T, by go_num, by omega, rfl, by omega, by show _ = _; rw [HS.out, if_neg HP1.out, List.append_nil]; exact HT.out, HL.out, OWQ.out, HFQ.out⟩
     case measure => simp [intOf]; omega
   ·have g1 : (ro == 3) = false := by simpa using hr
    have HP1 : Hid (¬ p (t : Nat) = true) := by show ¬ _; rw [HPT.out, decide_eq_false hr, Bool.false_and]; decide
    clear hr HPT
    go_wp2_with fail
    go_quiet (fail)
    have fq : Fr (fun _ _ => True) wr (wr.drewN nq) := (Fr.refl _ wr).drewN nq
    have HFQ := Lib.hid (HF2.out.trans fq)
    have OWQ := Lib.hid (ownsRow_fr HO.out fq fun _ _ _ _ => trivial)
    clear y2 y8 z fq u0
    go_wp2
    go_roundw
    case rel => exact ⟨k + 1, g, l, c, T, by go_num, by omega, rfl, by omega, by show _ = _; rw [HS.out, if_neg HP1.out, List.append_nil]; exact HT.out, HL.out, OWQ.out, HFQ.out⟩
    case measure => simp [intOf]; omega
  ·have hge : ¬ (k : Int) < (ot.length : Int) := by omega
   have HTT : Hid (T = n.behind) := by show _ = _; rw [HT.out, OUT.out, List.take_of_length_le (by omega)]
   have HLL : Hid (n.behind.length = l) := by show _ = _; rw [← HTT.out, HL.out]
   go_wp2
   go_ret
   rw [HLL.out, ← HTT.out]
   refine ⟨⟨g, c, rfl, ?_⟩, F2.out.trans HF2.out⟩
   unfold RowI
   rw [← encI_flat, HL.out]
   have := own_re HO.out (B' := w.heap.size) fun cb e => Nat.le_trans S2.out (own_new HO.out cb e)
   rw [HL.out] at this
   exact this
end
end Go.Proofs.YtmjccpfchhnfhaaGreat
