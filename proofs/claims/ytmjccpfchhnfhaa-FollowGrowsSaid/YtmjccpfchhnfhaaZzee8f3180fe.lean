/- Texts of the proofs, part 36: what the functions that they reach do, walked; no conditions beyond those that each states. -/
import Derived.Test.YtmjccpfchhnfhaaZz795dcf9b67
set_option linter.unusedVariables false
set_option linter.unusedSimpArgs false
/- Law 12: appends to a group's rows; a new group. -/
namespace Go.Proofs.Ytmjccpfchhnfhaa
open Go.RowKit
set_option linter.unusedVariables false
set_option linter.unusedSimpArgs false

theorem info_ptrN : (Try.prog.info? 40).map (fun i => (i.zero, i.size, i.bytes)) = some (some (.pointer none), 1, 8) := by kernel_rfl
theorem info_sure : (Try.prog.info? 82).map (fun i => (i.zero, i.size, i.bytes)) = some (some (.agg #[.int .u64 0, .int .u64 0, .int .u64 0, .slice none 0 0]), 4, 48) := by kernel_rfl
theorem info_lg : (Try.prog.info? 37).map (fun i => (i.zero, i.size, i.bytes)) = some (some (.agg #[.int .u64 0, .int .u64 0, .slice none 0 0]), 3, 40) := by kernel_rfl
theorem step_append_raw {o : Oper} {a : Act} {K : Act → World → Prop} {Q : Exit → Act → World → Prop} (W : World) (s x : Operand) (t e : TypeId)
    (ho : o.op = .call { callee := .builtin .append, args := #[s, x], argTypes := #[t, t] }) (i : TypeInfo) (z : Value) (size bytes : Nat) (ht : Try.prog.underlying t = some (.slice e)) (hi : Try.prog.info? e = some i) (hz : i.zero = some z)
    (hsize : i.size = size) (hby : i.bytes = bytes) (hzs : z.cells.size = size) (hsz : 0 < size) (hb9 : bytes ≤ 128)
    (v : Value) (n : Nat) (xs : List Value) (hs : a.eval s = v) (hown : Hid (W.ownsRow 0 e size v n xs)) (gx : Nat) (news : List Value) (hx : a.eval x = .slice (some ⟨gx, 0, none⟩) 1 1)
    (hb : Hid (W.heap[gx]? = some (.cells news.toArray e (0, 0)))) (hnl : news.length = size) (h1 : ∀ u ∈ news, u.oneCell' = true) (N : Nat) (hN : Hid (n + 1 = N)) (hn : N ≤ 1000000)
    (h : ∀ g c w', Hid (w'.ownsRow 0 e size (.slice g N c) N (xs ++ news)) → Hid (Fr (fun b _ => v.ownBlock ≠ some b) W w') → Hid (OwnNext W v (.slice g N c)) → K (a.put o.dst (.slice g N c)) w') : o.wp Try.prog a W K Q := by
  have hN' := hN.out
  subst hN'
  refine wp_append_own2 W s x t ho 0 e i z size bytes ht hi hz hsize hby hzs hsz v n xs hs hown.out ⟨gx, 0, none⟩ 1 1 news hx (by rw [hnl, Nat.one_mul]) (fun j u hj => ?_) h1 (by unfold maxLen; omega) ?_ (Nat.zero_le _) fun v' w' h2 h3 h4 => ?_
  · have e1 : ((⟨gx, 0, none⟩ : Addr).add j) = ⟨gx, j, none⟩ := by
      unfold Addr.add
      split
      · subst j; rfl
      · simp
    rw [e1]
    exact cell_mk hb.out (by simpa using hj)
  · have := Nat.mul_le_mul hn hb9
    omega
  · obtain ⟨g, c, rfl⟩ := ownsRow_form h2
    exact h g c w' h2 (.of_grown h3 fun k o e _ hk => hk e) h4
section
variable {ops : Array Oper} {rest : List Oper} {o : Oper} {a : Act} {Q : Exit → Act → World → Prop}
theorem wpList_append_ptr (W : World) (hgd : o.guard = none) (s x : Operand) (ho : o.op = .call { callee := .builtin .append, args := #[s, x], argTypes := #[27, 27] })
    (v : Value) (n : Nat) (xs : List Value) (hs : a.eval s = v) (hown : Hid (W.ownsRow 0 40 1 v n xs)) (gx b : Nat) (hx : a.eval x = .slice (some ⟨gx, 0, none⟩) 1 1) (hb : Hid (W.heap[gx]? = some (.cells #[.pointer (some ⟨b, 0, none⟩)] 40 (0, 0)))) (N : Nat) (hN : Hid (n + 1 = N)) (hn : N ≤ 1000000)
    (h : ∀ g c w', Hid (w'.ownsRow 0 40 1 (.slice g N c) N (xs ++ [.pointer (some ⟨b, 0, none⟩)])) → Hid (Fr (fun b _ => v.ownBlock ≠ some b) W w') → Hid (OwnNext W v (.slice g N c)) → wpList Try.prog ops Q rest (a.put o.dst (.slice g N c)) w') : wpList Try.prog ops Q (o :: rest) a W := by
  obtain ⟨i0, hi, hz0, hz1, hz2⟩ := info_parts info_ptrN
  exact wpList_plain hgd fun _ hK => step_append_raw W s x 27 40 ho i0 _ 1 8 Try.underlying27 hi hz0 hz1 hz2 rfl (by decide) (by decide) v n xs hs hown gx [.pointer (some ⟨b, 0, none⟩)] hx hb rfl (fun u hu => by rw [List.mem_singleton.1 hu]; rfl) N hN hn fun g c w' h1 h2 h3 => hK _ _ (h g c w' h1 h2 h3)
end
section
variable {X X3 P3 : Nat → Prop} {w w3 w' : World} {G : Nat} {l : List Nx} {ms : List MV} {many : Int} {c : GV} {b : Nat} {n : Nd}
theorem Grp.more (h : Grp X w G l ms many c) (ha : Aft X (fun _ => False) X3 P3 w w3) (hx3 : ∀ k, X3 k → k < w3.heap.size) : Grp X3 w3 G l ms many c := by
  have f : Fr (fun _ _ => True) w w3 := ha.fr.mono fun _ _ _ h => h
  have h1 := h.tt f
  have off : ∀ {k o}, w.heap[k]? = some o → ¬ X k → ¬ X3 k := fun ho hk => (ha.off ho hk).2
  have row : ∀ {e : TypeId} {s : Nat} {v : Value} {n : Nat} {xs : List Value}, w.ownsRow 0 e s v n xs → (∀ k, v.ownBlock = some k → ¬ X k) → ∀ k, v.ownBlock = some k → ¬ X3 k := fun hr hk k e => by
    obtain ⟨cur, ho⟩ := own_tag hr e
    exact off ho (hk k e)
  obtain ⟨xs, r1⟩ := h.rs
  obtain ⟨xt, r2⟩ := h.rt
  obtain ⟨xl, r3⟩ := h.rl
  exact ⟨h1.top, off h.top h.gx, h1.rn, row h.rn h.xn, h.rm.aft ha, h1.rs, row r1 h.xs, h1.rt, row r2 h.xt, h1.rl, row r3 h.xl, fun x hx => (h.nd x hx).far ha (fun _ _ h => h) hx3, h.dj, hx3, Nat.le_trans h.sz f.size⟩
theorem Grp.add (h : Grp X w G l ms many c) (ha : Aft X (fun _ => False) X3 P3 w w3) (hp : PN X3 P3 w3 b n) {vn' : Value} (hf : Fr (fun k _ => k ≠ G ∧ c.vn.ownBlock ≠ some k) w3 w') (ht : w'.heap[G]? = some (.cells (W6g { c with vn := vn' } many) 32 (0, 0)))
    (hr : w'.ownsRow 0 40 1 vn' (l.length + 1) (l.map ptrB ++ [.pointer (some ⟨b, 0, none⟩)])) (hn : OwnNext w3 c.vn vn') : Grp X3 w' G (l ++ [⟨b, n, P3⟩]) ms many { c with vn := vn' } := by
  obtain ⟨q0, hq0⟩ := hp
  have h3 := h.more ha hq0.hx
  have tg : ∀ {e : TypeId} {s : Nat} {v : Value} {n : Nat} {xs : List Value}, w3.ownsRow 0 e s v n xs → e ≠ 32 → e ≠ 40 → w'.ownsRow 0 e s v n xs := fun hr h1 h2 => ownsRow_fr hr hf fun k o e ho => ⟨fun hk => by
    obtain ⟨cur, ho'⟩ := own_tag hr e
    rw [hk, h3.top] at ho'
    cases ho'
    exact h1 rfl, fun hk => by
    obtain ⟨cur, ho'⟩ := own_tag hr e
    obtain ⟨cur2, ho2⟩ := own_tag h3.rn hk
    rw [ho'] at ho2
    cases ho2
    exact h2 rfl⟩
  have kn : ∀ {P : Nat → Prop} {b : Nat} {n : Nd} {q : NV}, PNs X3 P w3 b n q → PNs X3 P w' b n q := fun hq => hq.frK hf fun k o ho hk => ⟨fun e => by
    rcases hk with hk | hk
    · exact h3.gx (e ▸ hq.px k hk)
    · rw [e, h3.top] at ho
      cases ho
      exact hk.ne rfl (by decide), fun e => by
    obtain ⟨cur, ho2⟩ := own_tag h3.rn e
    rcases hk with hk | hk
    · exact h3.xn k e (hq.px k hk)
    · rw [ho] at ho2
      cases ho2
      exact hk.ne rfl (by decide)⟩
  have hmm : OwnMs X3 0 w' c.vm ms := by
    refine ⟨tg h3.rm.row (by decide) (by decide), h3.rm.off, fun m hm' => (h3.rm.at' m hm').keep hf fun k o ho hr => ⟨fun e => ?_, fun e => ?_⟩⟩
    · rw [e, h3.top] at ho
      cases ho
      exact hr.ne rfl (by decide)
    · obtain ⟨cur, ho2⟩ := own_tag h3.rn e
      rw [ho] at ho2
      cases ho2
      exact hr.ne rfl (by decide)
  obtain ⟨xs, r1⟩ := h3.rs
  obtain ⟨xt, r2⟩ := h3.rt
  obtain ⟨xl, r3⟩ := h3.rl
  refine ⟨ht, h3.gx, by rw [List.length_append, List.map_append]; exact hr, fun k e hx => ?_, hmm, ⟨xs, tg r1 (by decide) (by decide)⟩, h3.xs, ⟨xt, tg r2 (by decide) (by decide)⟩, h3.xt, ⟨xl, tg r3 (by decide) (by decide)⟩, h3.xl, fun x hx => ?_, ?_, fun k hk => Nat.lt_of_lt_of_le (h3.hx k hk) hf.size, Nat.le_trans h3.sz hf.size⟩
  · rcases hn with q | ⟨j, q, hj⟩
    · have e' : vn'.ownBlock = some k := e
      rw [q] at e'
      exact h3.xn k e' hx
    · have e' : vn'.ownBlock = some k := e
      rw [q] at e'
      cases e'
      have := h3.hx k hx
      omega
  · rcases List.mem_append.1 hx with hx | hx
    · obtain ⟨q, hq⟩ := h3.nd x hx
      exact ⟨q, kn hq⟩
    · rw [List.mem_singleton.1 hx]
      exact ⟨q0, kn hq0⟩
  · refine List.pairwise_append.2 ⟨h3.dj, List.pairwise_singleton _ _, fun x hx y hy k hk hk2 => ?_⟩
    rw [List.mem_singleton.1 hy] at hk2
    obtain ⟨q, hq⟩ := h.nd x hx
    have hlt := hq.hx k (hq.px k hk)
    rcases ha.nw k hk2 with q | q
    · exact q
    · omega
end
def cfN (many : Nat) : List Int := (List.range many).map fun (i : Nat) => (i : Int)
theorem cfN_len (many : Nat) : (cfN many).length = many := by unfold cfN; simp
theorem cfN_succ (k : Nat) : cfN (k + 1) = cfN k ++ [(k : Int)] := by unfold cfN; rw [List.range_succ, List.map_append]; rfl
set_option maxRecDepth 100000 in
set_option maxHeartbeats 4000000 in
theorem begun_none (w : World) (z : Int) (hz : z < 1 ∨ 5 < z) : Calls Try.prog 6 #[.int .i64 z] w fun e w' => e = .returned (.pointer none) ∧ w = w' := by
  by_cases h1 : z < 1
  · clear hz
    go_enter Try.func6, Try.ntmps6
    go_wp2
    go_ret
    exact ⟨rfl, rfl⟩
  · have h2 : 5 < z := by omega
    clear hz
    go_enter Try.func6, Try.ntmps6
    go_wp2
    go_ret
    exact ⟨rfl, rfl⟩
structure LowN (B : Nat) (X : Nat → Prop) (G : Nat) (c : GV) : Prop where
  g : B ≤ G
  x : ∀ k, X k → B ≤ k
  n : ∀ k, c.vn.ownBlock = some k → B ≤ k
  m : ∀ k, c.vm.ownBlock = some k → B ≤ k
  s : ∀ k, c.vs.ownBlock = some k → B ≤ k
  t : ∀ k, c.vt.ownBlock = some k → B ≤ k
  l : ∀ k, c.vl.ownBlock = some k → B ≤ k
structure Low (K : Nat → Prop) (X : Nat → Prop) (G : Nat) (c : GV) : Prop where
  g : ¬ K G
  x : ∀ k, X k → ¬ K k
  n : ∀ k, c.vn.ownBlock = some k → ¬ K k
  m : ∀ k, c.vm.ownBlock = some k → ¬ K k
  s : ∀ k, c.vs.ownBlock = some k → ¬ K k
  t : ∀ k, c.vt.ownBlock = some k → ¬ K k
  l : ∀ k, c.vl.ownBlock = some k → ¬ K k
  b : ∀ q, K q → q < c.sz
theorem LowN.low {B : Nat} {X : Nat → Prop} {G : Nat} {c : GV} (h : LowN B X G c) (s : Nat) (hs : B ≤ s) : Low (fun q => q < B) X G { c with sz := s } :=
  ⟨fun q => by have := h.g; have q : G < B := q; omega, fun k e q => by have := h.x k e; have q : k < B := q; omega, fun k e q => by have := h.n k e; have q : k < B := q; omega, fun k e q => by have := h.m k e; have q : k < B := q; omega, fun k e q => by have := h.s k e; have q : k < B := q; omega, fun k e q => by have := h.t k e; have q : k < B := q; omega, fun k e q => by have := h.l k e; have q : k < B := q; omega, fun q h => Nat.lt_of_lt_of_le h hs⟩
theorem Grp.resz {X : Nat → Prop} {w : World} {G : Nat} {l : List Nx} {ms : List MV} {many : Int} {c : GV} (h : Grp X w G l ms many c) (s : Nat) (hs : s ≤ w.heap.size) : Grp X w G l ms many { c with sz := s } :=
  ⟨h.top, h.gx, h.rn, h.xn, h.rm, h.rs, h.xs, h.rt, h.xt, h.rl, h.xl, h.nd, h.dj, h.hx, hs⟩
theorem Low.more {K : Nat → Prop} {X : Nat → Prop} {w : World} {G : Nat} {l : List Nx} {ms : List MV} {many : Int} {c : GV} (h : Low K X G c) (hg : Grp X w G l ms many c) (s : Nat) (hs : w.heap.size ≤ s) : Low (fun q => K q ∨ (w.heap.size ≤ q ∧ q < s)) X G { c with sz := s } := by
  have out : ∀ k, ¬ K k → k < w.heap.size → ¬ (K k ∨ (w.heap.size ≤ k ∧ k < s)) := fun k h1 h2 q => q.elim h1 fun q => by omega
  have own : ∀ {e : TypeId} {sz : Nat} {v : Value} {n : Nat} {xs : List Value}, w.ownsRow 0 e sz v n xs → ∀ k, v.ownBlock = some k → k < w.heap.size := fun hr k e => by
    obtain ⟨cur, hc⟩ := own_tag hr e
    exact lt_of_some hc
  obtain ⟨_, r1⟩ := hg.rs
  obtain ⟨_, r2⟩ := hg.rt
  obtain ⟨_, r3⟩ := hg.rl
  exact ⟨out _ h.g (lt_of_some hg.top), fun k e => out k (h.x k e) (hg.hx k e), fun k e => out k (h.n k e) (own hg.rn k e), fun k e => out k (h.m k e) (own hg.rm.row k e), fun k e => out k (h.s k e) (own r1 k e), fun k e => out k (h.t k e) (own r2 k e), fun k e => out k (h.l k e) (own r3 k e), fun q e => e.elim (fun e => Nat.lt_of_lt_of_le (h.b q e) (Nat.le_trans hg.sz hs)) fun e => e.2⟩
theorem Low.less {K K' : Nat → Prop} {X : Nat → Prop} {G : Nat} {c : GV} (h : Low K X G c) (hk : ∀ q, K' q → K q) : Low K' X G c :=
  ⟨fun q => h.g (hk _ q), fun k e q => h.x k e (hk _ q), fun k e q => h.n k e (hk _ q), fun k e q => h.m k e (hk _ q), fun k e q => h.s k e (hk _ q), fun k e q => h.t k e (hk _ q), fun k e q => h.l k e (hk _ q), fun q e => h.b q (hk _ e)⟩
def BOut (w : World) (many : Nat) (e : Ending) (w' : World) : Prop :=
  ∃ X G l c, e = .returned (.pointer (some ⟨G, 0, none⟩)) ∧ (Grp X w' G l [] 0 c ∧ c.ns = 0 ∧ c.nt = 0 ∧ c.nl = 0 ∧ LowN w.heap.size X G c) ∧ l.map (·.n) = (cfN many).map (fun i => Nd.new i (cfN many)) ∧ Fr (fun _ _ => True) w w'
set_option maxRecDepth 100000 in
set_option maxHeartbeats 8000000 in
theorem begun_calls (w : World) (many : Nat) (h1 : 1 ≤ many) (h5 : many ≤ 5) : Calls Try.prog 6 #[.int .i64 (many : Nat)] w fun e w' => BOut w many e w' := by
  have m1 : ¬ ((many : Int) < 1) := by omega
  have m2 : ¬ ((5 : Int) < (many : Int)) := by omega
  have hbG : ∀ W : World, (Instr.build 32 #[]).run Try.prog W = .ok (.agg #[.slice none 0 0, .slice none 0 0, .slice none 0 0, .slice none 0 0, .slice none 0 0, .int .i64 0]) W := fun W => run_build W _ _ _ (by kernel_rfl)
  go_enter Try.func6, Try.ntmps6
  go_wp2
  go_loopw [3, 4] (fun o i wr => ∃ (k : Nat) (g : Option Addr) (c : Nat), i = .int .i64 (k : Nat) ∧ k ≤ many ∧ o = .slice g k c ∧ Hid (wr.ownsRow w.heap.size 3 1 (.slice g k c) (cfN k).length ((cfN k).flatMap encI)) ∧ Hid (Fr (fun _ _ => True) w wr)) (fun _ i _ => many - (intOf i).toNat)
  case atStart => exact ⟨0, none, 0, rfl, Nat.zero_le _, rfl, ⟨rfl, .inl ⟨rfl, rfl⟩⟩, Fr.refl _ _⟩
  case round =>
    obtain ⟨k, g, c, rfl, hk, rfl, HO, HF⟩ := hrel
    by_cases hlt : k < many
    · have hltI : (k : Int) < (many : Int) := by omega
      obtain ⟨W3, hW3⟩ : ∃ Y, wr.alloc (.cells #[.int .i64 (k : Nat)] 3 (0, 0)) = Y := ⟨_, rfl⟩
      have f3 : Fr (fun _ _ => True) wr W3 := hW3 ▸ (Fr.refl _ _).alloc _
      have ROW : Hid (RowsAt (fun c _ => c = wr.heap.size) W3 (.slice (some ⟨wr.heap.size, 0, none⟩) 1 1) 1 encI [((k : Nat) : Int)]) := rows_oneI (hW3 ▸ heap_alloc_new _ _)
      have FW3 := Lib.hid (HF.out.trans f3)
      have OW3 : Hid (W3.ownsRow w.heap.size 3 1 (.slice g k c) (cfN k).length ((cfN k).flatMap encI)) := ownsRow_fr HO.out f3 fun _ _ _ _ => trivial
      have HL3 : Hid ((cfN (k + 1)).length = k + 1) := cfN_len _
      have HR3 : Hid (cfN k ++ [((k : Nat) : Int)] = cfN (k + 1)) := (cfN_succ k).symm
      have hl1 : k + 1 ≤ 1000000 := by omega
      clear f3
      go_wp2_with (at_builtin; (try rw [hW3]); refine wpList_append_ins w W3 FW3 rfl _ _ rfl (.slice g k c) (cfN k) rfl OW3 _ [((k : Nat) : Int)] rfl ROW _ HR3 (k + 1) HL3 hl1 ?_)
      intro g5 c5 W5 O5 F5 G5 N5
      clear hW3
      go_wp2
      go_roundw
      case rel => exact ⟨k + 1, g5, c5, by go_num, by omega, rfl, by show World.ownsRow _ _ _ _ _ _ _; rw [HL3.out]; exact O5.out, F5.out⟩
      case measure => simp [intOf]; omega
    · have hge : ¬ (k : Int) < (many : Int) := by omega
      have hkm : k = many := by omega
      subst hkm
      obtain ⟨W2, hW2⟩ : ∃ Y, wr.alloc (.cells #[.slice none 0 0, .slice none 0 0, .slice none 0 0, .slice none 0 0, .slice none 0 0, .int .i64 0] 32 (0, 0)) = Y := ⟨_, rfl⟩
      have f2 : Fr (fun _ _ => True) wr W2 := hW2 ▸ (Fr.refl _ _).alloc _
      have T2 : W2.heap[wr.heap.size]? = some (.cells #[.slice none 0 0, .slice none 0 0, .slice none 0 0, .slice none 0 0, .slice none 0 0, .int .i64 0] 32 (0, 0)) := hW2 ▸ heap_alloc_new _ _
      have FW2 := Lib.hid (HF.out.trans f2)
      have CF : Hid (RowI W2 w.heap.size (.slice g k c) (cfN k)) := by
        show World.ownsRow _ _ _ _ _ _ _
        have := ownsRow_fr HO.out f2 fun _ _ _ _ => trivial
        rw [encI_flat] at this
        exact this
      have G0 : Hid (Grp (fun _ => False) W2 wr.heap.size [] [] 0 ⟨.slice none 0 0, .slice none 0 0, .slice none 0 0, .slice none 0 0, .slice none 0 0, 0, 0, 0, 0⟩) := ⟨T2, fun h => h, ⟨rfl, .inl ⟨rfl, rfl⟩⟩, (fun _ _ h => h), OwnMs.nil _ _ _, ⟨[], rfl, .inl ⟨rfl, rfl⟩⟩, (fun _ _ h => h), ⟨[], rfl, .inl ⟨rfl, rfl⟩⟩, (fun _ _ h => h), ⟨[], rfl, .inl ⟨rfl, rfl⟩⟩, (fun _ _ h => h), (fun x hx => by cases hx), .nil, (fun _ h => h.elim), Nat.zero_le _⟩
      obtain ⟨G, hG⟩ : ∃ x, wr.heap.size = x := ⟨_, rfl⟩
      have HGS : Hid (w.heap.size ≤ G) := by show _ ≤ _; rw [← hG]; exact HF.out.size
      rw [hG] at G0
      clear f2 T2 hge
      go_wp2
      try rw [hW2]
      try rw [hG]
      clear hW2 hG hbG
      go_loopw [6] (fun i wr => ∃ (j : Nat) (X : Nat → Prop) (l : List Nx) (cv : GV), i = .int .i64 (j : Nat) ∧ j ≤ k ∧ Hid (Grp X wr G l [] 0 cv) ∧ Hid (cv.ns = 0 ∧ cv.nt = 0 ∧ cv.nl = 0) ∧ Hid (LowN w.heap.size X G cv) ∧ Hid (l.length = j) ∧ Hid (l.map (·.n) = (cfN j).map (fun i => Nd.new i (cfN k))) ∧ Hid (IntsAt (RO X) wr (.slice g k c) (cfN k)) ∧ Hid (Fr (fun _ _ => True) w wr)) (fun i _ => k - (intOf i).toNat)
      case atStart => exact ⟨0, _, [], _, rfl, Nat.zero_le _, G0.out, ⟨rfl, rfl, rfl⟩, ⟨HGS.out, (fun _ h => h.elim), (fun _ e => by cases e), (fun _ e => by cases e), (fun _ e => by cases e), (fun _ e => by cases e), (fun _ e => by cases e)⟩, rfl, rfl, (CF.out.intsK.mono fun c o hc => ⟨fun h => h, by obtain ⟨cs, e⟩ := hc.2; exact ⟨cs, _, _, e, by decide⟩⟩), FW2.out⟩
      case round =>
        obtain ⟨j, X, l, cv, rfl, hj, HGr, HZ, HXB, HLL, HLM, HCF, HFW⟩ := hrel
        by_cases hlt : j < k
        · have hltI : (j : Int) < (k : Int) := by omega
          have NC := Lib.hid (enew_calls (X := X) wr (j : Nat) (.slice g k c) (cfN k) HCF.out (by rw [cfN_len]; omega) (by rw [cfN_len]; omega) HGr.out.hx)
          go_wp2_with fail
          (with_reducible refine NC.out.mono ?_)
          rintro e W3 ⟨b, X3, P3, q3, rfl, h3, a3, hb⟩
          have HA := Lib.hid (And.intro h3 a3)
          have f3 : Hid (Fr (fun _ _ => True) wr W3) := a3.fr.mono fun _ _ _ h => h
          have x12 := (h3.cells (Fr.refl _ W3)).2.2.2.2.2.2.2.2.2.2.2.2.1
          have x13 := (h3.cells (Fr.refl _ W3)).2.2.2.2.2.2.2.2.2.2.2.2.2
          obtain ⟨bn, hbn⟩ : ∃ x, q3.bn = x := ⟨_, rfl⟩
          obtain ⟨bm, hbm⟩ : ∃ x, q3.bm = x := ⟨_, rfl⟩
          obtain ⟨cn, hcn⟩ : ∃ x, q3.cn = x := ⟨_, rfl⟩
          obtain ⟨cm, hcm⟩ : ∃ x, q3.cm = x := ⟨_, rfl⟩
          rw [hbn, hcn] at x12
          rw [hbm, hcm] at x13
          obtain ⟨gn, cn2, hvn⟩ := ownsRow_form HGr.out.rn
          have T3 : Hid (W3.heap[G]? = some (.cells (W6g cv 0) 32 (0, 0))) := f3.out.keep _ _ HGr.out.top trivial
          obtain ⟨jl, hjl⟩ : ∃ x, l.length = x := ⟨_, rfl⟩
          rw [hjl] at hvn
          have y0 : W3.cell? ⟨G, 0, none⟩ = some (.slice gn jl cn2) := by rw [← hvn]; exact cell_mk T3.out rfl
          have zG := frozen_mk (i := 0) T3.out
          obtain ⟨W4, hW4⟩ : ∃ Y, W3.alloc (.cells #[.pointer (some ⟨b, 0, none⟩)] 40 (0, 0)) = Y := ⟨_, rfl⟩
          have f4 : Hid (Fr (fun _ _ => True) W3 W4) := hW4 ▸ (Fr.refl _ _).alloc _
          have t4 : Hid (W4.heap[W3.heap.size]? = some (.cells #[.pointer (some ⟨b, 0, none⟩)] 40 (0, 0))) := hW4 ▸ heap_alloc_new _ _
          have OW : Hid (W4.ownsRow 0 40 1 (.slice gn jl cn2) jl (l.map ptrB)) := by
            show World.ownsRow _ _ _ _ _ _ _
            rw [← hvn, ← hjl]
            exact ownsRow_fr (ownsRow_fr HGr.out.rn f3.out fun _ _ _ _ => trivial) f4.out fun _ _ _ _ => trivial
          have HVN := Lib.hid (And.intro hvn hjl)
          obtain ⟨jn, hjn⟩ : ∃ x, jl + 1 = x := ⟨_, rfl⟩
          have HJN := Lib.hid hjn
          have hjn9 : jn ≤ 1000000 := by have := HLL.out; omega
          clear h3 a3 hbn hbm hcn hcm hvn hjl hjn NC
          go_wp2_with (at_builtin; (try rw [hW4]); refine wpList_append_ptr W4 rfl _ _ rfl (.slice gn jl cn2) jl (l.map ptrB) rfl OW W3.heap.size b rfl t4 jn HJN hjn9 ?_)
          intro g5 c5 W5 O5 F5 N5
          have hgn : (Value.slice gn jl cn2).ownBlock ≠ some G := fun e => by
            obtain ⟨cur, h8⟩ := own_tag OW.out e
            rw [f4.out.keep _ _ T3.out trivial] at h8
            cases h8
          have T5 : W5.heap[G]? = some (.cells (W6g cv 0) 32 (0, 0)) := F5.out.keep _ _ (f4.out.keep _ _ T3.out trivial) hgn
          have y5 : W5.cell? ⟨G, 0, none⟩ = some (.slice gn jl cn2) := by rw [← HVN.out.1]; exact cell_mk T5 rfl
          have z5 := frozen_mk (i := 0) T5
          obtain ⟨W6, hW6⟩ : ∃ Y, W5.setCell ⟨G, 0, none⟩ (.slice g5 jn c5) = Y := ⟨_, rfl⟩
          have f6 : Fr (fun k _ => k ≠ G) W5 W6 := hW6 ▸ (Fr.refl _ _).setCell (fun _ _ h => h rfl) _
          have T6 : W6.heap[G]? = some (.cells (W6g { cv with vn := .slice g5 jn c5 } 0) 32 (0, 0)) := by rw [← hW6]; exact heap_setCell_same (o := 0) T5 _
          have hG9 : G < W4.heap.size := lt_of_some (f4.out.keep _ _ T3.out trivial)
          have O6 : W6.ownsRow 0 40 1 (.slice g5 jn c5) (l.length + 1) (l.map ptrB ++ [.pointer (some ⟨b, 0, none⟩)]) := by
            rw [HVN.out.2, HJN.out]
            exact ownsRow_fr O5.out f6 fun k o e _ h => (N5.out.ne hgn hG9) (h ▸ e)
          have NX : OwnNext W3 cv.vn (.slice g5 jn c5) := by
            rw [HVN.out.1]
            rcases N5.out with q | ⟨k, q, hk⟩
            · exact .inl q
            · exact .inr ⟨k, q, Nat.le_trans f4.out.size hk⟩
          have GA := Lib.hid (HGr.out.add HA.out.2 ⟨q3, HA.out.1⟩ ((f4.out.mono fun _ _ _ => trivial).trans ((F5.out.mono fun c _ h e => h.2 (by rw [HVN.out.1]; exact e)).trans (f6.mono fun c _ h => h.1))) T6 O6 NX)
          have FW6 : Hid (Fr (fun _ _ => True) w W6) := Fr.within (((HFW.out.trans (f3.out.trans f4.out)).mono fun _ _ _ => trivial : Fr (fun k _ => True ∧ k < w.heap.size) w W4).trans ((F5.out.mono fun k _ h e => by have h9 := HXB.out.n k (by rw [HVN.out.1]; exact e); have := h.2; omega).trans (f6.mono fun k _ h e => by have := h.2; have := HGS.out; omega)))
          have HVX : ∀ k, cv.vn.ownBlock = some k → ∃ cur, W3.heap[k]? = some (.cells cur 40 (0, 0)) := fun k e => own_tag (ownsRow_fr HGr.out.rn f3.out fun _ _ _ _ => trivial) e
          have AX : Hid (IntsAt (RO X3) W6 (.slice g k c) (cfN k)) := ((((HCF.out.aft HA.out.2).mono3 (K' := fun c o => RO X3 c o ∧ (c ≠ G ∧ cv.vn.ownBlock ≠ some c)) fun c o ho hr => ⟨hr, fun e => by
              rw [e, T3.out] at ho
              cases ho
              exact hr.ne rfl (by decide), fun e => by
              obtain ⟨cur, h8⟩ := HVX c e
              rw [ho] at h8
              cases h8
              exact hr.ne rfl (by decide)⟩).fr ((f4.out.mono fun _ _ _ => trivial).trans ((F5.out.mono (K' := fun c _ => c ≠ G ∧ cv.vn.ownBlock ≠ some c) fun c _ h e => h.2 (by rw [HVN.out.1]; exact e)).trans (f6.mono fun c _ h => h.1))) fun c o h => h.2).mono fun c o h => h.1)
          have LW : Hid (LowN w.heap.size X3 G { cv with vn := .slice g5 jn c5 }) := ⟨HXB.out.g, fun q hq => by
              rcases (HA.out.2.xx q).1 hq with h | h
              · exact HXB.out.x q h
              · rcases HA.out.2.nw q h with h | h
                · exact h.elim
                · have := HFW.out.size; omega, fun q e => by
              rcases NX with h | ⟨k, h, hk⟩
              · exact HXB.out.n q (h ▸ e)
              · have e' : (Value.slice g5 jn c5).ownBlock = some q := e
                rw [h] at e'
                cases e'
                exact Nat.le_trans (Nat.le_trans HFW.out.size f3.out.size) hk, HXB.out.m, HXB.out.s, HXB.out.t, HXB.out.l⟩
          clear y0 zG hgn T5 f6 T6 O6 NX x12 x13 HVX
          go_wp2
          try rw [hW6]
          clear hW6 y5 z5
          go_roundw
          case rel =>
            refine ⟨j + 1, X3, l ++ [(⟨b, Nd.new ((j : Nat) : Int) (cfN k), P3⟩ : Nx)], { cv with vn := .slice g5 jn c5 }, by go_num, by omega, GA.out, HZ.out, LW.out, ?_, ?_, AX.out, FW6.out⟩
            · show _ = _
              rw [List.length_append, HLL.out]; rfl
            · show _ = _
              rw [List.map_append, HLM.out, cfN_succ, List.map_append]; rfl
          case measure => simp [intOf]; omega
        · have hge : ¬ (j : Int) < (k : Int) := by omega
          have hjk : j = k := by omega
          subst hjk
          go_wp2
          go_ret
          exact ⟨X, G, l, cv, rfl, ⟨HGr.out, HZ.out.1, HZ.out.2.1, HZ.out.2.2, HXB.out⟩, HLM.out, HFW.out⟩
end Go.Proofs.Ytmjccpfchhnfhaa
