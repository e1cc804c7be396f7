/- Texts of the proofs, part 4: what the functions that they reach do, walked; no conditions beyond those that each states. -/
import Derived.Test.YtlolfcnfcgegdaaGreatProg
import Derived.Test.YtlolfcnfcgegdaaGreatZz3f214281c7
set_option linter.unusedVariables false
set_option linter.unusedSimpArgs false
/- Slices of bytes: how they read; slices.Clone. -/
namespace Go.Proofs.YtlolfcnfcgegdaaGreat
open Go.RowKit

/-- A byte in memory. -/
def byteV (b : UInt8) : Value := .int .u8 b.toNat
/-- A slice of bytes that reads as bs, in a block that K names. -/
def BytesAt (K : Nat → Obj → Prop) (w : World) (v : Value) (bs : List UInt8) : Prop :=
  ∃ a cap, v = .slice a bs.length cap ∧ bs.length ≤ cap ∧ (a = none → cap = 0) ∧ (bs = [] ∨ ∃ b off o, a = some ⟨b, off, none⟩ ∧ w.heap[b]? = some o ∧ K b o ∧ ∀ i, (h : i < bs.length) → w.cell? ⟨b, off + i, none⟩ = some (byteV bs[i]))

theorem BytesAt.nil (K : Nat → Obj → Prop) (w : World) : BytesAt K w (.slice none 0 0) [] := ⟨none, 0, rfl, Nat.le_refl _, fun _ => rfl, .inl rfl⟩
theorem BytesAt.fr {K : Nat → Obj → Prop} {w w' : World} {v : Value} {bs : List UInt8} (h : BytesAt K w v bs) (hf : Fr K w w') : BytesAt K w' v bs := by
  obtain ⟨a, cap, hv, hl, hn, h⟩ := h
  refine ⟨a, cap, hv, hl, hn, ?_⟩
  rcases h with h | ⟨b, off, o, ha, hb, hk, hc⟩
  · exact .inl h
  · refine .inr ⟨b, off, o, ha, hf.keep b o hb hk, hk, fun i hi => ?_⟩
    exact hf.cell (fun o' ho => by rw [hb] at ho; cases ho; exact hk) (hc i hi)
theorem BytesAt.mono {K K' : Nat → Obj → Prop} {w : World} {v : Value} {bs : List UInt8} (h : BytesAt K w v bs) (hK : ∀ b o, w.heap[b]? = some o → K b o → K' b o) : BytesAt K' w v bs := by
  obtain ⟨a, cap, hv, hl, hn, h⟩ := h
  refine ⟨a, cap, hv, hl, hn, ?_⟩
  rcases h with h | ⟨b, off, o, ha, hb, hk, hc⟩
  · exact .inl h
  · exact .inr ⟨b, off, o, ha, hb, hK b o hb hk, hc⟩
theorem BytesAt.form {K : Nat → Obj → Prop} {w : World} {v : Value} {bs : List UInt8} (h : BytesAt K w v bs) : ∃ a cap, v = .slice a bs.length cap := by
  obtain ⟨a, cap, hv, _⟩ := h
  exact ⟨a, cap, hv⟩
theorem BytesAt.tt {K : Nat → Obj → Prop} {w w' : World} {v : Value} {bs : List UInt8} (h : BytesAt K w v bs) (hf : Fr (fun _ _ => True) w w') : BytesAt K w' v bs := h.fr (hf.mono fun _ _ _ => trivial)
/-- The cell of a byte. -/
theorem BytesAt.cell {K : Nat → Obj → Prop} {w : World} {b off n cap : Nat} {bs : List UInt8} (h : BytesAt K w (.slice (some ⟨b, off, none⟩) n cap) bs) {i : Nat} (hi : i < bs.length) : w.cell? ⟨b, off + i, none⟩ = some (byteV bs[i]) := by
  obtain ⟨a, cap, hv, hl, hn, h⟩ := h
  rcases h with rfl | ⟨b', off', o, ha, hb, hk, hc⟩
  · simp at hi
  · subst ha; cases hv; exact hc i hi
theorem BytesAt.len {K : Nat → Obj → Prop} {w : World} {a : Option Addr} {n cap : Nat} {bs : List UInt8} (h : BytesAt K w (.slice a n cap) bs) : n = bs.length := by
  obtain ⟨a, cap, hv, _⟩ := h
  cases hv; rfl
theorem BytesAt.addr {K : Nat → Obj → Prop} {w : World} {a : Option Addr} {n cap : Nat} {bs : List UInt8} (h : BytesAt K w (.slice a n cap) bs) (h0 : 0 < bs.length) : ∃ b off, a = some ⟨b, off, none⟩ := by
  obtain ⟨a', cap, hv, hl, hn, h⟩ := h
  rcases h with rfl | ⟨b', off', o, ha, _⟩
  · simp at h0
  · cases hv; exact ⟨_, _, ha⟩

/-- Blocks of bytes that are new since n. -/
def New (n : Nat) (b : Nat) (o : Obj) : Prop := n ≤ b ∧ ∃ cs fz, o = .cells cs 5 fz

theorem info_u8 : (Tryz.prog.info? 5).map (fun i => (i.zero, i.size, i.bytes)) = some (some (.int .u8 0), 1, 1) := by kernel_rfl

/-- An owned row of bytes reads as bytes. -/
theorem BytesAt.of_owns {w : World} {B : Nat} {v : Value} {bs : List UInt8} (h : w.ownsRow B 5 1 v bs.length (bs.map byteV)) : BytesAt (New B) w v bs := by
  obtain ⟨h1, h2⟩ := h
  rcases h2 with ⟨hv, hn⟩ | ⟨g, cap, cur, hv, hg, hh, hn, hc, hs, ht⟩
  · have e := List.length_eq_zero_iff.1 hn
    subst e hv
    exact BytesAt.nil _ _
  · refine ⟨_, cap, hv, hn, (fun e => by cases e), .inr ⟨g, 0, _, rfl, hh, ⟨hg, _, _, rfl⟩, fun i hi => ?_⟩⟩
    have e1 : cur.toList[i]? = (bs.map byteV)[i]? := by rw [← ht, List.getElem?_take, if_pos (by omega)]
    have e2 : cur[i]? = some (byteV bs[i]) := by rw [← Array.getElem?_toList, e1]; simp [hi]
    simp [World.cell?, hh, e2]

theorem cell_of_row {w : World} {b off j : Nat} {cs : Array Value} {e : TypeId} {fz : Nat × Nat} {u : Value} (h : w.heap[b]? = some (.cells cs e fz)) (hc : cs[off + j]? = some u) : w.cell? (Addr.add ⟨b, off, none⟩ j) = some u := by
  unfold Addr.add
  split
  · subst j; simpa [World.cell?, h] using hc
  · simpa [World.cell?, h] using hc

set_option maxRecDepth 100000 in
theorem clone_nil (w : World) : Calls Tryz.prog 81 #[.slice none 0 0] w fun e w' => e = .returned (.slice none 0 0) ∧ w = w' := by
  have hq := fun (w : World) (a : Option Addr) (n c n' c' : Nat) => Lib.run_eql_slice_nil (P := Tryz.prog) w 23 5 a n c n' c' Tryz.underlying23
  go_enter Tryz.func81, Tryz.ntmps81
  go_wp2
  go_ret
  exact ⟨rfl, rfl⟩

theorem BytesAt.src {K : Nat → Obj → Prop} {w : World} {v : Value} {bs : List UInt8} (h : BytesAt K w v bs) : SrcAt w 1 v bs.length (bs.map byteV) := by
  obtain ⟨a, cap, rfl, hl, hn, h⟩ := h
  cases a with
  | none =>
    have := hn rfl
    have e : bs.length = 0 := by omega
    have e' := List.length_eq_zero_iff.1 e
    subst e' this
    exact .inl ⟨rfl, rfl, rfl⟩
  | some ad =>
    refine .inr ⟨ad, cap, rfl, by simp, fun j u hu => ?_, fun u hu => ?_⟩
    · have hj : j < bs.length := by
        rcases Nat.lt_or_ge j bs.length with h1 | h1
        · exact h1
        · rw [List.getElem?_eq_none (by simpa using h1)] at hu; cases hu
      have hu' : u = byteV bs[j] := by
        rw [List.getElem?_map, List.getElem?_eq_getElem hj] at hu
        exact (Option.some.inj hu).symm
      rcases h with rfl | ⟨b, off, o, ha, hb, hk, hc⟩
      · simp at hj
      · cases ha
        rw [hu']
        have e1 := hc j hj
        unfold Addr.add
        split
        · subst j; exact e1
        · exact e1
    · obtain ⟨x, _, rfl⟩ := List.mem_map.1 hu
      rfl

set_option maxRecDepth 100000 in
theorem clone_some {K : Nat → Obj → Prop} (w : World) (ad : Addr) (n cap : Nat) (bs : List UInt8) (h : BytesAt K w (.slice (some ad) n cap) bs) (hm : n ≤ 140737488355328) :
    Calls Tryz.prog 81 #[.slice (some ad) n cap] w fun e w' => ∃ v, e = .returned v ∧ w'.ownsRow w.heap.size 5 1 v n (bs.map byteV) ∧ Fr (fun _ _ => True) w w' := by
  have hq := fun (w : World) (a : Option Addr) (n c n' c' : Nat) => Lib.run_eql_slice_nil (P := Tryz.prog) w 23 5 a n c n' c' Tryz.underlying23
  obtain ⟨i0, hi, hz0, hz1, hz2⟩ := info_parts info_u8
  have hn := h.len
  have hown : (w.alloc (.cells #[] 5)).ownsRow w.heap.size 5 1 (.slice (some ⟨w.heap.size, 0, none⟩) 0 0) 0 [] := World.ownsRow_lit w #[] 0 (Nat.le_refl _) (by simp) rfl
  have hsrc : SrcAt (w.alloc (.cells #[] 5)) 1 (.slice (some ad) n cap) n (bs.map byteV) := by
    have := (h.tt ((Fr.refl _ _).alloc (.cells #[] 5))).src
    rwa [← hn] at this
  clear h hn
  go_enter Tryz.func81, Tryz.ntmps81
  go_wp2_with (at_builtin; refine wpList_append_src _ rfl _ _ 23 rfl w.heap.size 5 i0 (.int .u8 0) 1 1 Tryz.underlying23 hi hz0 hz1 hz2 rfl (by decide) _ 0 [] rfl hown _ n (bs.map byteV) rfl hsrc ?c2 ?c3 ?c4 ?_)
  case c2 => unfold maxLen; omega
  case c3 => omega
  case c4 => simp
  intro v w1 hown1 hg hnil
  go_wp2
  go_ret
  exact ⟨v, rfl, by simpa using hown1, (Fr.alloc (Fr.refl _ _) _).grown_new hg fun k e => by simp [Value.ownBlock] at e; omega⟩

/-- slices.Clone of bytes: the same bytes, in new memory. -/
theorem clone_calls {K : Nat → Obj → Prop} (w : World) (v : Value) (bs : List UInt8) (h : BytesAt K w v bs) (hm : bs.length ≤ 140737488355328) :
    Calls Tryz.prog 81 #[v] w fun e w' => ∃ a cap, e = .returned (.slice a bs.length cap) ∧ BytesAt (New w.heap.size) w' (.slice a bs.length cap) bs ∧ Fr (fun _ _ => True) w w' := by
  obtain ⟨a, cap, rfl, hl, hn, h'⟩ := id h
  cases a with
  | none =>
    have := hn rfl
    have e : bs.length = 0 := by omega
    have e' := List.length_eq_zero_iff.1 e
    subst e' this
    exact (clone_nil w).mono fun e w' ⟨he, hw⟩ => ⟨none, 0, he, BytesAt.nil _ _, hw ▸ Fr.refl _ _⟩
  | some ad =>
    refine (clone_some w ad _ cap bs h hm).mono fun e w' ⟨v, he, ho, hf⟩ => ?_
    have hv := BytesAt.of_owns ho
    obtain ⟨a, cap, rfl⟩ := hv.form
    exact ⟨a, cap, he, hv, hf⟩

end Go.Proofs.YtlolfcnfcgegdaaGreat
/- The sessions' table: what its functions do. -/
namespace Go.Proofs.YtlolfcnfcgegdaaGreat
open Go.RowKit

theorem Fr.monoH {K K' : Nat → Obj → Prop} {a b : World} (h : Fr K a b) (hK : ∀ i o, a.heap[i]? = some o → K' i o → K i o) : Fr K' a b := ⟨h.os, h.tape, h.output, h.size, fun i o hi hk => h.keep i o hi (hK i o hi hk)⟩
/-- All but a block stays: a frame that does not keep that block. -/
theorem Fr.but {K : Nat → Obj → Prop} {a b : World} {m : Nat} (h : Fr (fun c _ => c ≠ m) a b) (hK : ∀ o, a.heap[m]? = some o → ¬ K m o) : Fr K a b := h.monoH fun i o hi hk q => by
  subst q
  exact hK o hi hk
/-- A session in memory: the client, the block of its entry, when it came, the last number, the answer's slice, its bytes. -/
structure Rec where
  key : Int
  blk : Nat
  born : Nat
  seq : Int
  rv : Value
  bs : List UInt8
def Rec.ent (r : Rec) : Int × Value × Nat := (r.key, .pointer (some ⟨r.blk, 0, none⟩), r.born)
def Rec.abs (r : Rec) : Int × Int × List UInt8 := (r.key, r.seq, r.bs)
/-- What of a table's world its functions leave alone. -/
def KT (B : Nat) (b : Nat) (o : Obj) : Prop := b < B ∨ ∃ cs t fz, o = .cells cs t fz ∧ t ≠ 59 ∧ t ≠ 109

theorem KT.new {n B b : Nat} {o : Obj} (h : New n b o) : KT B b o := by
  obtain ⟨_, cs, fz, rfl⟩ := h
  exact .inr ⟨cs, _, fz, rfl, by decide, by decide⟩

/-- The blocks of the answers. -/
def KU (B : Nat) (b : Nat) (o : Obj) : Prop := b < B ∨ ∃ cs fz, o = .cells cs 5 fz
theorem KU.kt {B b : Nat} {o : Obj} (h : KU B b o) : KT B b o := h.imp id fun ⟨cs, fz, e⟩ => ⟨cs, _, fz, e, by decide, by decide⟩
theorem KU.new {n B b : Nat} {o : Obj} (h : New n b o) : KU B b o := by
  obtain ⟨_, cs, fz, rfl⟩ := h
  exact .inr ⟨cs, fz, rfl⟩
structure Rec.ok (w : World) (B : Nat) (r : Rec) : Prop where
  le : B ≤ r.blk
  cells : w.heap[r.blk]? = some (.cells #[.int .u32 r.seq, r.rv] 109 (0, 0))
  lo : 0 ≤ r.seq
  hi : r.seq < 4294967296
  bytes : BytesAt (KU B) w r.rv r.bs
  short : r.bs.length ≤ 9

/-- The table at bt, its map mv with the sessions R. -/
structure Tab (w : World) (B bt : Nat) (mv : Option Nat) (c : Nat) (R : List Rec) : Prop where
  top : w.heap[bt]? = some (.cells #[.map mv] 59 (0, 0))
  le : B ≤ bt
  nil : mv = none → R = []
  map : ∀ bm, mv = some bm → B ≤ bm ∧ w.heap[bm]? = some (.map (entriesOf .i64 (R.map Rec.ent)) c)
  each : ∀ r ∈ R, r.ok w B
  keys : (R.map Rec.key).Nodup
  blks : (R.map Rec.blk).Nodup
  borns : (R.map Rec.born).Nodup
  old : ∀ r ∈ R, r.born < c

def findR (R : List Rec) (n : Int) : Option Rec := R.find? fun r => decide (r.key = n)
theorem look_ent (n : Int) : ∀ R : List Rec, look (R.map Rec.ent) n = (findR R n).map fun r => .pointer (some ⟨r.blk, 0, none⟩)
  | [] => rfl
  | r :: R => by
    by_cases h : r.key = n
    · simp [look, findR, Rec.ent, h]
    · have := look_ent n R
      simp only [List.map_cons, look, findR, Rec.ent, List.find?_cons, h, ↓reduceIte, decide_false] at this ⊢
      exact this

theorem Tab.lookup {w : World} {B bt : Nat} {mv : Option Nat} {c : Nat} {R : List Rec} (h : Tab w B bt mv c R) (n : Int) :
    (Instr.lookup 57 (.map mv) (.int .i64 n) true).run Tryz.prog w = .ok (.tuple #[((findR R n).map fun r => Value.pointer (some ⟨r.blk, 0, none⟩)).getD (.pointer none), .bool (findR R n).isSome]) w := by
  cases mv with
  | none =>
    have e := h.nil rfl
    subst e
    exact run_lookup_int_nil Tryz.underlying57 Tryz.underlying3 n w (.pointer none) (by kernel_rfl)
  | some bm =>
    have e := run_lookup_int Tryz.underlying57 Tryz.underlying3 bm n _ c w (.pointer none) (h.map bm rfl).2 (by kernel_rfl)
    rw [e, look_ent]
    cases findR R n <;> rfl

theorem Tab.cell {w : World} {B bt : Nat} {mv : Option Nat} {c : Nat} {R : List Rec} (h : Tab w B bt mv c R) : w.cell? ⟨bt, 0, none⟩ = some (.map mv) := by simp [World.cell?, h.top]
theorem Tab.free {w : World} {B bt : Nat} {mv : Option Nat} {c : Nat} {R : List Rec} (h : Tab w B bt mv c R) : w.frozen? ⟨bt, 0, none⟩ = false := by simp [World.frozen?, h.top]
theorem Rec.ok.c0 {w : World} {B : Nat} {r : Rec} (h : r.ok w B) : w.cell? ⟨r.blk, 0, none⟩ = some (.int .u32 r.seq) := by simp [World.cell?, h.cells]
theorem Rec.ok.c1 {w : World} {B : Nat} {r : Rec} (h : r.ok w B) : w.cell? ⟨r.blk, 1, none⟩ = some r.rv := by simp [World.cell?, h.cells]
theorem Rec.ok.f {w : World} {B : Nat} {r : Rec} (h : r.ok w B) (i : Nat) : w.frozen? ⟨r.blk, i, none⟩ = false := by simp [World.frozen?, h.cells]
theorem findR_mem {R : List Rec} {n : Int} {r : Rec} (h : findR R n = some r) : r ∈ R ∧ r.key = n := ⟨List.mem_of_find?_eq_some h, by simpa using List.find?_some h⟩


set_option maxRecDepth 100000 in
theorem ask_none (w : World) (B bt : Nat) (mv : Option Nat) (c : Nat) (R : List Rec) (n s : Int) (h : Tab w B bt mv c R) (hn : findR R n = none) :
    Calls Tryz.prog 68 #[.pointer (some ⟨bt, 0, none⟩), .int .i64 n, .int .u32 s] w fun e w' => e = .returned (.tuple #[.slice none 0 0, .bool false, .int .i64 81]) ∧ w = w' := by
  have hl := h.lookup n
  have hc := h.cell
  rw [hn] at hl
  simp only [Option.map_none, Option.getD_none, Option.isSome_none] at hl
  go_enter Tryz.func68, Tryz.ntmps68
  go_wp2
  go_ret3
  exact ⟨rfl, rfl⟩

def askCode (q s : Int) : Int := if s ≤ q then 80 else if s ≠ q + 1 then 60 else 0

set_option maxRecDepth 100000 in
theorem ask_again (w : World) (B bt : Nat) (mv : Option Nat) (c : Nat) (R : List Rec) (n s : Int) (r : Rec) (h : Tab w B bt mv c R) (hn : findR R n = some r) (h0 : 0 < s) (hs : r.seq = s) :
    Calls Tryz.prog 68 #[.pointer (some ⟨bt, 0, none⟩), .int .i64 n, .int .u32 s] w fun e w' => ∃ v, e = .returned (.tuple #[v, .bool true, .int .i64 0]) ∧ BytesAt (New w.heap.size) w' v r.bs ∧ Fr (fun _ _ => True) w w' := by
  have hl := h.lookup n
  have hc := h.cell
  have ho := h.each r (findR_mem hn).1
  rw [hn] at hl
  simp only [Option.map_some, Option.getD_some, Option.isSome_some] at hl
  have c0 := ho.c0
  have c1 := ho.c1
  rw [hs] at c0
  have hB := ho.bytes
  have hx := ho.short
  have hcl := clone_calls w r.rv r.bs ho.bytes (by omega)
  clear h hn ho hs
  go_enter Tryz.func68, Tryz.ntmps68
  go_wp2_with (go_at_call 81; refine hcl.mono ?_; rintro e w' ⟨a', cap', rfl, hv, hf⟩)
  go_ret3
  exact ⟨_, rfl, hv, hf⟩

set_option maxRecDepth 100000 in
theorem ask_code (w : World) (B bt : Nat) (mv : Option Nat) (c : Nat) (R : List Rec) (n s : Int) (r : Rec) (h : Tab w B bt mv c R) (hn : findR R n = some r) (h0 : 0 ≤ s) (h1 : s < 4294967296) (hs : ¬ (0 < s ∧ r.seq = s)) :
    Calls Tryz.prog 68 #[.pointer (some ⟨bt, 0, none⟩), .int .i64 n, .int .u32 s] w fun e w' => e = .returned (.tuple #[.slice none 0 0, .bool false, .int .i64 (askCode r.seq s)]) ∧ w = w' := by
  have hl := h.lookup n
  have hc := h.cell
  have ho := h.each r (findR_mem hn).1
  rw [hn] at hl
  simp only [Option.map_some, Option.getD_some, Option.isSome_some] at hl
  have c0 := ho.c0
  have c1 := ho.c1
  have lo := ho.lo
  have hi := ho.hi
  clear h hn ho
  go_enter Tryz.func68, Tryz.ntmps68
  go_wp2
  all_goals go_ret3
  · refine ⟨?_, rfl⟩; rw [show askCode r.seq s = 80 from if_pos (by omega)]; rfl
  · refine ⟨?_, rfl⟩; rw [show askCode r.seq s = 80 from if_pos (by omega)]; rfl
  · refine ⟨?_, rfl⟩; rw [show askCode r.seq s = 60 from by rw [askCode, if_neg (by omega), if_pos (by simpa using ‹(s != r.seq + 1) = true›)]]; rfl
  · refine ⟨?_, rfl⟩; rw [show askCode r.seq s = 0 from by rw [askCode, if_neg (by omega), if_neg (by simpa using ‹(s != r.seq + 1) = false›)]]; rfl

/-- A record of the table in a world in which what it names is as it was. -/
theorem Rec.ok.fr {K : Nat → Obj → Prop} {w w' : World} {B : Nat} {r : Rec} (h : r.ok w B) (hf : Fr K w w') (h1 : K r.blk (.cells #[.int .u32 r.seq, r.rv] 109 (0, 0))) (h2 : ∀ b o, w.heap[b]? = some o → KU B b o → K b o) : r.ok w' B := by
  refine ⟨h.le, hf.keep _ _ h.cells h1, h.lo, h.hi, ?_, h.short⟩
  have h3 := (h.bytes.mono (K' := fun b o => K b o ∧ KU B b o) fun b o hb hk => ⟨h2 b o hb hk, hk⟩).fr (hf.mono fun _ _ h => h.1)
  exact h3.mono fun _ _ _ h => h.2

/-- What a table of sessions lies in. -/
def KS (B : Nat) (b : Nat) (o : Obj) : Prop := b < B ∨ (∃ cs t fz, o = .cells cs t fz ∧ (t = 59 ∨ t = 109 ∨ t = 5)) ∨ ∃ es c, o = .map es c
theorem Tab.frk {K : Nat → Obj → Prop} {w w' : World} {B bt : Nat} {mv : Option Nat} {c : Nat} {R : List Rec} (h : Tab w B bt mv c R) (hf : Fr K w w') (hk : ∀ b o, w.heap[b]? = some o → KS B b o → K b o) : Tab w' B bt mv c R :=
  ⟨hf.keep _ _ h.top (hk _ _ h.top (.inr (.inl ⟨_, _, _, rfl, .inl rfl⟩))), h.le, h.nil, fun bm e => ⟨(h.map bm e).1, hf.keep _ _ (h.map bm e).2 (hk _ _ (h.map bm e).2 (.inr (.inr ⟨_, _, rfl⟩)))⟩,
    fun r hr => (h.each r hr).fr hf (hk _ _ (h.each r hr).cells (.inr (.inl ⟨_, _, _, rfl, .inr (.inl rfl)⟩))) (fun b o hb hc => hk b o hb (hc.imp id fun ⟨cs, fz, e⟩ => .inl ⟨cs, _, fz, e, .inr (.inr rfl)⟩)), h.keys, h.blks, h.borns, h.old⟩
theorem Tab.fr {w w' : World} {B bt : Nat} {mv : Option Nat} {c : Nat} {R : List Rec} (h : Tab w B bt mv c R) (hf : Fr (fun _ _ => True) w w') : Tab w' B bt mv c R :=
  ⟨hf.keep _ _ h.top trivial, h.le, h.nil, fun bm e => ⟨(h.map bm e).1, hf.keep _ _ (h.map bm e).2 trivial⟩, fun r hr => (h.each r hr).fr hf trivial (fun _ _ _ _ => trivial), h.keys, h.blks, h.borns, h.old⟩

/-- A session's entry is written anew. -/
def setR (R : List Rec) (n s : Int) (v : Value) (bs : List UInt8) : List Rec := R.map fun r => if r.key = n then { r with seq := s, rv := v, bs := bs } else r
theorem setR_ent (R : List Rec) (n s : Int) (v : Value) (bs : List UInt8) : (setR R n s v bs).map Rec.ent = R.map Rec.ent := by
  simp only [setR, List.map_map]
  refine List.map_congr_left fun r _ => ?_
  simp only [Function.comp]
  split <;> rfl
theorem setR_key (R : List Rec) (n s : Int) (v : Value) (bs : List UInt8) : (setR R n s v bs).map Rec.key = R.map Rec.key := by
  simp only [setR, List.map_map]
  refine List.map_congr_left fun r _ => ?_
  simp only [Function.comp]
  split <;> rfl
theorem setR_blk (R : List Rec) (n s : Int) (v : Value) (bs : List UInt8) : (setR R n s v bs).map Rec.blk = R.map Rec.blk := by
  simp only [setR, List.map_map]
  refine List.map_congr_left fun r _ => ?_
  simp only [Function.comp]
  split <;> rfl

theorem setR_born (R : List Rec) (n s : Int) (v : Value) (bs : List UInt8) : (setR R n s v bs).map Rec.born = R.map Rec.born := by
  simp only [setR, List.map_map]
  refine List.map_congr_left fun r _ => ?_
  simp only [Function.comp]
  split <;> rfl
theorem setR_old {R : List Rec} {n s : Int} {v : Value} {bs : List UInt8} {c : Nat} (h : ∀ r ∈ R, r.born < c) : ∀ r ∈ setR R n s v bs, r.born < c := fun r hr => by
  simp only [setR, List.mem_map] at hr
  obtain ⟨y, hy, rfl⟩ := hr
  have := h y hy
  split <;> exact this
theorem nodup_inj {α β : Type} {f : α → β} : ∀ {l : List α}, (l.map f).Nodup → ∀ {a b : α}, a ∈ l → b ∈ l → f a = f b → a = b
  | [], _, _, _, h, _, _ => by cases h
  | x :: l, hd, a, b, ha, hb, e => by
    rw [List.map_cons, List.nodup_cons] at hd
    rcases List.mem_cons.1 ha with h1 | h1 <;> rcases List.mem_cons.1 hb with h2 | h2
    · rw [h1, h2]
    · subst h1; exact absurd (e ▸ List.mem_map_of_mem h2) hd.1
    · subst h2; exact absurd (e ▸ List.mem_map_of_mem h1) hd.1
    · exact nodup_inj hd.2 h1 h2 e

theorem Tab.set {w : World} {B bt : Nat} {mv : Option Nat} {c : Nat} {R : List Rec} {n : Int} {r : Rec} (h : Tab w B bt mv c R) (hn : findR R n = some r) (s : Int) (v : Value) (bs : List UInt8) (h0 : 0 ≤ s) (h1 : s < 4294967296) (hb : BytesAt (KU B) w v bs) (hl : bs.length ≤ 9) :
    Tab ((w.setCell ⟨r.blk, 0, none⟩ (.int .u32 s)).setCell ⟨r.blk, 1, none⟩ v) B bt mv c (setR R n s v bs) := by
  have ho := h.each r (findR_mem hn).1
  have e0 : ((w.setCell ⟨r.blk, 0, none⟩ (.int .u32 s)).setCell ⟨r.blk, 1, none⟩ v).heap[r.blk]? = some (.cells #[.int .u32 s, v] 109 (0, 0)) :=
    heap_setCell_same (heap_setCell_same ho.cells _) _
  have e1 : ∀ k, k ≠ r.blk → ((w.setCell ⟨r.blk, 0, none⟩ (.int .u32 s)).setCell ⟨r.blk, 1, none⟩ v).heap[k]? = w.heap[k]? := fun k hk => by
    rw [heap_setCell_ne hk, heap_setCell_ne hk]
  have hf : Fr (fun b _ => b ≠ r.blk) w ((w.setCell ⟨r.blk, 0, none⟩ (.int .u32 s)).setCell ⟨r.blk, 1, none⟩ v) :=
    ⟨rfl, rfl, rfl, by simp [World.setCell], fun b o hb hk => by rw [e1 b hk]; exact hb⟩
  have hu : ∀ b o, w.heap[b]? = some o → KU B b o → b ≠ r.blk := fun b o hb hk e => by
    replace hk := hk.kt
    rw [e, ho.cells] at hb; cases hb
    rcases hk with hk | ⟨cs, t, fz, e', _, h2⟩
    · have := ho.le; omega
    · cases e'; exact h2 rfl
  refine ⟨?_, h.le, fun e => by rw [h.nil e]; rfl, fun bm e => ⟨(h.map bm e).1, ?_⟩, fun x hx => ?_, by rw [setR_key]; exact h.keys, by rw [setR_blk]; exact h.blks, by rw [setR_born]; exact h.borns, setR_old h.old⟩
  · rw [e1 bt (fun e => by have := h.top; rw [e, ho.cells] at this; cases this)]; exact h.top
  · rw [setR_ent, e1 bm (fun e' => by have := (h.map bm e).2; rw [e', ho.cells] at this; cases this)]; exact (h.map bm e).2
  · simp only [setR, List.mem_map] at hx
    obtain ⟨y, hy, rfl⟩ := hx
    by_cases hk : y.key = n
    · have : y = r := nodup_inj h.keys hy (findR_mem hn).1 (by rw [hk, (findR_mem hn).2])
      subst this
      simp only [hk, ↓reduceIte]
      exact ⟨ho.le, e0, h0, h1, ((hb.mono (K' := fun b o => b ≠ y.blk ∧ KU B b o) fun b o hb hk => ⟨hu b o hb hk, hk⟩).fr (hf.mono fun _ _ h => h.1)).mono fun _ _ _ h => h.2, hl⟩
    · simp only [hk, ↓reduceIte]
      refine (h.each y hy).fr hf (fun e => ?_) hu
      exact hk (by rw [nodup_inj h.blks hy (findR_mem hn).1 e, (findR_mem hn).2])

/-- Done, of a client that has no session. -/
theorem KT.keep {B : Nat} {w : World} {B' : Nat} {r : Rec} (ho : r.ok w B) (hB : B' ≤ B) : ∀ o, w.heap[r.blk]? = some o → ¬ KT B' r.blk o := fun o h => by
  rw [ho.cells] at h
  cases h
  rintro (h | ⟨cs, t, fz, e, h1, h2⟩)
  · have := ho.le; omega
  · cases e; exact h2 rfl

def doneCode (q s : Int) (l : Nat) : Int := if s ≠ q + 1 then 60 else if 9 < l then 2 else 0

set_option maxRecDepth 100000 in
theorem done_none (w : World) (B bt : Nat) (mv : Option Nat) (c : Nat) (R : List Rec) (n s : Int) (v : Value) (h : Tab w B bt mv c R) (hn : findR R n = none) :
    Calls Tryz.prog 71 #[.pointer (some ⟨bt, 0, none⟩), .int .i64 n, .int .u32 s, v] w fun e w' => e = .returned (.int .i64 81) ∧ w = w' := by
  have hl := h.lookup n
  have hc := h.cell
  rw [hn] at hl
  simp only [Option.map_none, Option.getD_none, Option.isSome_none] at hl
  go_enter Tryz.func71, Tryz.ntmps71
  go_wp2
  go_ret
  exact ⟨rfl, rfl⟩

set_option maxRecDepth 100000 in
theorem done_code (w : World) (B bt : Nat) (mv : Option Nat) (c : Nat) (R : List Rec) (n s : Int) (r : Rec) (a : Option Addr) (l cap : Nat) (h : Tab w B bt mv c R) (hn : findR R n = some r) (h0 : 0 ≤ s) (h1 : s < 4294967296) (hs : s ≠ r.seq + 1 ∨ 9 < l) :
    Calls Tryz.prog 71 #[.pointer (some ⟨bt, 0, none⟩), .int .i64 n, .int .u32 s, .slice a l cap] w fun e w' => e = .returned (.int .i64 (doneCode r.seq s l)) ∧ w = w' := by
  have hl := h.lookup n
  have hc := h.cell
  have ho := h.each r (findR_mem hn).1
  rw [hn] at hl
  simp only [Option.map_some, Option.getD_some, Option.isSome_some] at hl
  have c0 := ho.c0
  have lo := ho.lo
  have hi := ho.hi
  clear h hn ho
  by_cases hq : s = r.seq + 1
  · have hq1 : (s != r.seq + 1) = false := by simp [hq]
    have hq2 : (9 : Int) < l := by omega
    have e1 : doneCode r.seq s l = 2 := by rw [doneCode, if_neg (by simp [hq]), if_pos (by omega)]
    rw [e1]
    clear hs hq e1
    go_enter Tryz.func71, Tryz.ntmps71
    go_wp2
    go_ret
    exact ⟨rfl, rfl⟩
  · have hq1 : (s != r.seq + 1) = true := by simp [hq]
    have e1 : doneCode r.seq s l = 60 := by rw [doneCode, if_pos hq]
    rw [e1]
    clear hs hq e1
    go_enter Tryz.func71, Tryz.ntmps71
    go_wp2
    go_ret
    exact ⟨rfl, rfl⟩

set_option maxRecDepth 100000 in
theorem done_ok (w : World) (B bt : Nat) (mv : Option Nat) (c : Nat) (R : List Rec) (n s : Int) (r : Rec) (a : Option Addr) (cap : Nat) (bs : List UInt8) (h : Tab w B bt mv c R) (hn : findR R n = some r) (h0 : 0 ≤ s) (h1 : s < 4294967296) (hs : s = r.seq + 1) (hl : bs.length ≤ 9) {K : Nat → Obj → Prop} (hb : BytesAt K w (.slice a bs.length cap) bs) :
    Calls Tryz.prog 71 #[.pointer (some ⟨bt, 0, none⟩), .int .i64 n, .int .u32 s, .slice a bs.length cap] w fun e w' => ∃ v, e = .returned (.int .i64 0) ∧ Tab w' B bt mv c (setR R n s v bs) ∧ Fr (fun c _ => c ≠ r.blk) w w' := by
  have hlk := h.lookup n
  have hc := h.cell
  have ho := h.each r (findR_mem hn).1
  rw [hn] at hlk
  simp only [Option.map_some, Option.getD_some, Option.isSome_some] at hlk
  have c0 := ho.c0
  have lo := ho.lo
  have hi := ho.hi
  have hcl := clone_calls w _ bs hb (by omega)
  have hq1 : (s != r.seq + 1) = false := by simp [hs]
  have hq2 : (bs.length : Int) ≤ 9 := by omega
  have H := Lib.hid h
  have HN := Lib.hid hn
  have HO := Lib.hid ho
  have HL := Lib.hid hl
  clear h hn ho hs hl
  go_enter Tryz.func71, Tryz.ntmps71
  go_wp2_with (go_at_call 81; refine hcl.mono ?_; rintro e w1 ⟨a', cap', rfl, hv, hf⟩; have o1 := Lib.hid (HO.out.fr hf trivial (fun _ _ _ _ => trivial)); have d0 := o1.out.c0; have d1 := o1.out.c1; have f0 := o1.out.f 0; have f1 := o1.out.f 1)
  go_ret
  exact ⟨_, rfl, (H.out.fr hf).set HN.out s _ bs h0 h1 (hv.mono fun _ _ _ h => KU.new h) HL.out, ((hf.mono fun _ _ _ => trivial).setCell (fun _ _ h => h rfl) _).setCell (fun _ _ h => h rfl) _⟩

set_option maxRecDepth 100000 in
theorem Tab.len {w : World} {B bt : Nat} {mv : Option Nat} {c : Nat} {R : List Rec} (h : Tab w B bt mv c R) (ty : TypeId) :
    (Builtin.len_ #[57] ty #[.map mv]).run Tryz.prog w = .ok (.int .i64 R.length) w := by
  cases mv with
  | none => rw [h.nil rfl]; exact run_len_nilMap w _ ty Tryz.underlying57
  | some bm =>
    rw [run_len_map w _ ty bm _ c Tryz.underlying57 (h.map bm rfl).2, entriesOf_size, List.length_map]
    rfl

theorem lay_new (n : Int) (v : Value) (c : Nat) : ∀ l : List (Int × Value × Nat), look l n = none → lay l n v c = l ++ [(n, v, c)]
  | [], _ => rfl
  | x :: r, h => by
    by_cases hx : x.1 = n
    · simp [look, hx] at h
    · simp only [look, hx, ↓reduceIte] at h
      simp only [lay, hx, ↓reduceIte, List.cons_append]
      rw [lay_new n v c r h]

/-- A session more. -/
theorem Tab.add {w w' : World} {B bt bm be : Nat} {c c' : Nat} {R : List Rec} {n : Int} (h : Tab w B bt (some bm) c R) (hn : findR R n = none) (hB : B ≤ be) (hbe : w.heap.size ≤ be)
    (hf : Fr (fun b _ => b ≠ bm) w w') (h1 : w'.heap[be]? = some (.cells #[.int .u32 0, .slice none 0 0] 109 (0, 0))) (h2 : w'.heap[bm]? = some (.map (entriesOf .i64 (lay (R.map Rec.ent) n (.pointer (some ⟨be, 0, none⟩)) c)) c')) (hc' : c' = c + 1) :
    Tab w' B bt (some bm) c' (R ++ [⟨n, be, c, 0, .slice none 0 0, []⟩]) := by
  have hm := h.map bm rfl
  have hnb : ∀ b cs t fz, w.heap[b]? = some (.cells cs t fz) → b ≠ bm := fun b cs t fz hb e => by rw [e, hm.2] at hb; cases hb
  refine ⟨hf.keep _ _ h.top (hnb _ _ _ _ h.top), h.le, (fun e => by cases e), fun b e => ?_, fun r hr => ?_, ?_, ?_, ?_, ?_⟩
  · cases e
    refine ⟨hm.1, ?_⟩
    rw [h2, lay_new _ _ _ _ (by rw [look_ent, hn]; rfl), List.map_append]
    rfl
  · rcases List.mem_append.1 hr with hr | hr
    · have ho := h.each r hr
      refine ho.fr hf (hnb _ _ _ _ ho.cells) (fun b o hb hk e => ?_)
      rw [e, hm.2] at hb
      cases hb
      rcases hk with hk | ⟨_, _, e'⟩
      · have := hm.1; omega
      · cases e'
    · rw [List.mem_singleton.1 hr]
      exact ⟨hB, h1, Int.le_refl _, (by show (0 : Int) < 4294967296; decide), BytesAt.nil _ _, by simp⟩
  · rw [List.map_append, List.nodup_append]
    refine ⟨h.keys, by simp, fun x hx y hy e => ?_⟩
    simp only [List.map_cons, List.map_nil, List.mem_singleton] at hy
    obtain ⟨r, hr, rfl⟩ := List.mem_map.1 hx
    have : ¬ decide (r.key = n) = true := List.find?_eq_none.1 hn r hr
    exact this (by simp [e, hy])
  · rw [List.map_append, List.nodup_append]
    refine ⟨h.blks, by simp, fun x hx y hy e => ?_⟩
    simp only [List.map_cons, List.map_nil, List.mem_singleton] at hy
    obtain ⟨r, hr, rfl⟩ := List.mem_map.1 hx
    have := lt_of_some (h.each r hr).cells
    omega
  · rw [List.map_append, List.nodup_append]
    refine ⟨h.borns, by simp, fun x hx y hy e => ?_⟩
    simp only [List.map_cons, List.map_nil, List.mem_singleton] at hy
    obtain ⟨r, hr, rfl⟩ := List.mem_map.1 hx
    have := h.old r hr
    omega
  · intro r hr
    rcases List.mem_append.1 hr with hr | hr
    · have := h.old r hr; omega
    · rw [List.mem_singleton.1 hr]; show c < c'; omega

theorem KT.map {w : World} {B bm : Nat} {es : Array MapEntry} {c : Nat} (hB : B ≤ bm) (h : w.heap[bm]? = some (.map es c)) : ∀ o, w.heap[bm]? = some o → ¬ KT B bm o := fun o h' => by
  rw [h] at h'
  cases h'
  rintro (h | ⟨cs, t, fz, e, _⟩)
  · omega
  · cases e
theorem KT.top {w : World} {B bt : Nat} {mv : Option Nat} {c : Nat} {R : List Rec} (h : Tab w B bt mv c R) : ∀ o, w.heap[bt]? = some o → ¬ KT B bt o := fun o h' => by
  rw [h.top] at h'
  cases h'
  rintro (h1 | ⟨cs, t, fz, e, h1, h2⟩)
  · have := h.le; omega
  · cases e; exact h1 rfl

def openCode (there : Bool) (l : Nat) (c : Int) : Int := if c < 0 ∨ 16 ≤ c then 31 else if there then 1 else if 6 ≤ l then 42 else 0

set_option maxRecDepth 100000 in
theorem open_range (w : World) (B bt : Nat) (mv : Option Nat) (c : Nat) (R : List Rec) (n : Int) (h : Tab w B bt mv c R) (hn : n < 0 ∨ 16 ≤ n) :
    Calls Tryz.prog 28 #[.pointer (some ⟨bt, 0, none⟩), .int .i64 n] w fun e w' => e = .returned (.int .i64 31) ∧ w = w' := by
  have hl := h.lookup n
  have hc := h.cell
  generalize ((findR R n).map fun r => Value.pointer (some ⟨r.blk, 0, none⟩)).getD (.pointer none) = v at hl
  generalize (findR R n).isSome = b at hl
  clear h
  rcases hn with hn | hn
  · go_enter Tryz.func28, Tryz.ntmps28
    go_wp2
    go_ret
    exact ⟨rfl, rfl⟩
  · go_enter Tryz.func28, Tryz.ntmps28
    go_wp2
    go_ret
    exact ⟨rfl, rfl⟩

set_option maxRecDepth 100000 in
theorem open_there (w : World) (B bt : Nat) (mv : Option Nat) (c : Nat) (R : List Rec) (n : Int) (r : Rec) (h : Tab w B bt mv c R) (h0 : 0 ≤ n) (h1 : n < 16) (hn : findR R n = some r) :
    Calls Tryz.prog 28 #[.pointer (some ⟨bt, 0, none⟩), .int .i64 n] w fun e w' => e = .returned (.int .i64 1) ∧ w = w' := by
  have hl := h.lookup n
  have hc := h.cell
  rw [hn] at hl
  simp only [Option.map_some, Option.getD_some, Option.isSome_some] at hl
  clear h hn
  go_enter Tryz.func28, Tryz.ntmps28
  go_wp2
  go_ret
  exact ⟨rfl, rfl⟩

set_option maxRecDepth 100000 in
theorem open_full (w : World) (B bt : Nat) (mv : Option Nat) (c : Nat) (R : List Rec) (n : Int) (h : Tab w B bt mv c R) (h0 : 0 ≤ n) (h1 : n < 16) (hn : findR R n = none) (h6 : 6 ≤ R.length) :
    Calls Tryz.prog 28 #[.pointer (some ⟨bt, 0, none⟩), .int .i64 n] w fun e w' => e = .returned (.int .i64 42) ∧ w = w' := by
  have hl := h.lookup n
  have hc := h.cell
  have hz := fun ty => h.len ty
  rw [hn] at hl
  simp only [Option.map_none, Option.getD_none, Option.isSome_none] at hl
  have h6' : (6 : Int) ≤ R.length := by omega
  clear h hn h6
  go_enter Tryz.func28, Tryz.ntmps28
  go_wp2
  go_ret
  exact ⟨rfl, rfl⟩

set_option maxRecDepth 100000 in
theorem open_ok (w : World) (B bt bm : Nat) (c : Nat) (R : List Rec) (n : Int) (h : Tab w B bt (some bm) c R) (hB : B ≤ w.heap.size) (h0 : 0 ≤ n) (h1 : n < 16) (hn : findR R n = none) (h6 : R.length < 6) :
    Calls Tryz.prog 28 #[.pointer (some ⟨bt, 0, none⟩), .int .i64 n] w fun e w' => e = .returned (.int .i64 0) ∧ (∃ c' be cc, Tab w' B bt (some bm) c' (R ++ [⟨n, be, cc, 0, .slice none 0 0, []⟩]) ∧ w.heap.size ≤ be) ∧ Fr (fun c _ => c ≠ bm) w w' := by
  have hl := h.lookup n
  have hc := h.cell
  have hz := fun ty => h.len ty
  have he := fun (w : World) => run_eql_map_nil (P := Tryz.prog) w 57 _ _ (some bm) Tryz.underlying57
  rw [hn] at hl
  simp only [Option.map_none, Option.getD_none, Option.isSome_none] at hl
  have h6' : (R.length : Int) < 6 := by omega
  have H := Lib.hid h
  have HN := Lib.hid hn
  clear h hn h6
  go_enter Tryz.func28, Tryz.ntmps28
  go_wp2_with (at_mapUpdate; refine wpList_update_int _ rfl _ _ _ 57 rfl 3 110 .i64 Tryz.underlying57 Tryz.underlying3 bm c (R.map Rec.ent) n _ rfl rfl rfl (heap_alloc_lt (H.out.map bm rfl).2 _) ?_)
  go_ret
  have hm := H.out.map bm rfl
  have ha := heap_alloc_lt hm.2 (.cells #[.int .u32 0, .slice none 0 0] 109 (0, 0))
  refine ⟨rfl, ⟨_, w.heap.size, _, H.out.add HN.out hB (Nat.le_refl _) (((Fr.refl _ _).alloc _).putObj (fun _ _ h => h rfl) _) ?_ (heap_putObj_same ha _) (by unfold tick; rw [look_ent, HN.out]; rfl), Nat.le_refl _⟩, ((Fr.refl _ _).alloc _).putObj (fun _ _ h => h rfl) _⟩
  rw [heap_putObj_ne (fun e => by have := lt_of_some hm.2; omega)]
  exact heap_alloc_new _ _

set_option maxRecDepth 100000 in
theorem open_first (w : World) (B bt : Nat) (c : Nat) (R : List Rec) (n : Int) (h : Tab w B bt none c R) (hB : B ≤ w.heap.size) (h0 : 0 ≤ n) (h1 : n < 16) :
    Calls Tryz.prog 28 #[.pointer (some ⟨bt, 0, none⟩), .int .i64 n] w fun e w' => e = .returned (.int .i64 0) ∧ (∃ bm c' be cc, Tab w' B bt (some bm) c' (R ++ [⟨n, be, cc, 0, .slice none 0 0, []⟩]) ∧ w.heap.size ≤ bm ∧ w.heap.size ≤ be) ∧ Fr (fun c _ => c ≠ bt) w w' := by
  have hR := h.nil rfl
  subst hR
  have hl := h.lookup n
  have hc := h.cell
  have hfz := h.free
  have hz := fun ty => h.len ty
  have he := fun (w : World) => run_eql_map_nil (P := Tryz.prog) w 57 _ _ none Tryz.underlying57
  have hmm := @run_makeMap Tryz.prog
  simp only [findR, List.find?_nil, Option.map_none, Option.getD_none, Option.isSome_none] at hl
  have H := Lib.hid h
  clear h
  have hlt := lt_of_some H.out.top
  go_enter Tryz.func28, Tryz.ntmps28
  go_wp2_with (at_mapUpdate; refine wpList_update_int _ rfl _ _ _ 57 rfl 3 110 .i64 Tryz.underlying57 Tryz.underlying3 w.heap.size 0 [] n _ rfl rfl rfl ?hb ?_)
  case hb => exact heap_alloc_lt (heap_alloc_at (size_setCell' _ _ _) _) _
  go_ret
  have t0 : Tab ((w.setCell ⟨bt, 0, none⟩ (.map (some w.heap.size))).alloc (.map #[] 0)) B bt (some w.heap.size) 0 [] := by
    refine ⟨heap_alloc_lt (heap_setCell_same H.out.top _) _, H.out.le, (fun e => by cases e), fun b e => ?_, (fun r hr => by cases hr), List.nodup_nil, List.nodup_nil, List.nodup_nil, (fun r hr => by cases hr)⟩
    cases e
    exact ⟨hB, heap_alloc_at (size_setCell' _ _ _) _⟩
  have hm := t0.map _ rfl
  have ha := heap_alloc_lt hm.2 (.cells #[.int .u32 0, .slice none 0 0] 109 (0, 0))
  have hs : ((w.setCell ⟨bt, 0, none⟩ (.map (some w.heap.size))).alloc (.map #[] 0)).heap.size = w.heap.size + 1 := by simp [World.setCell]
  have f0 : Fr (fun c _ => c ≠ bt) w ((w.setCell ⟨bt, 0, none⟩ (.map (some w.heap.size))).alloc (.map #[] 0)) := ((Fr.refl _ _).setCell (fun _ _ h => h rfl) _).alloc _
  refine ⟨rfl, ⟨_, _, w.heap.size + 1, _, t0.add rfl (by omega) (by omega) (((Fr.refl _ _).alloc _).putObj (fun _ _ h => h rfl) _) ?_ (heap_putObj_same ha _) rfl, Nat.le_refl _, Nat.le_succ _⟩, (f0.alloc _).putObj (fun o ho => by have := lt_of_some ho; omega) _⟩
  rw [heap_putObj_ne (by omega)]
  have e := heap_alloc_new ((w.setCell ⟨bt, 0, none⟩ (.map (some w.heap.size))).alloc (.map #[] 0)) (.cells #[.int .u32 0, .slice none 0 0] 109 (0, 0))
  rwa [hs] at e

end Go.Proofs.YtlolfcnfcgegdaaGreat
/- The locks' table in memory. -/
namespace Go.Proofs.YtlolfcnfcgegdaaGreat
open Go.RowKit
set_option linter.unusedVariables false
set_option linter.unusedSimpArgs false

/-- A slice of elements that is read: each of k cells. -/
def RowsAt {α : Type} (K : Nat → Obj → Prop) (w : World) (v : Value) (k : Nat) (enc : α → List Value) (xs : List α) : Prop :=
  ∃ a c, v = .slice a xs.length c ∧ xs.length ≤ c ∧ (xs = [] ∨ ∃ b off o, a = some ⟨b, off, none⟩ ∧ w.heap[b]? = some o ∧ K b o ∧ ∀ i, (h : i < xs.length) → ∀ j u, (enc xs[i])[j]? = some u → w.cell? ⟨b, off + i * k + j, none⟩ = some u)
section
variable {α : Type} {K : Nat → Obj → Prop} {w w' : World} {v : Value} {k : Nat} {enc : α → List Value} {xs : List α}
theorem RowsAt.fr {K' : Nat → Obj → Prop} (h : RowsAt K w v k enc xs) (hf : Fr K' w w') (hk : ∀ c o, w.heap[c]? = some o → K c o → K' c o) : RowsAt K w' v k enc xs := by
  obtain ⟨a, c, hv, hc, h⟩ := h
  refine ⟨a, c, hv, hc, ?_⟩
  rcases h with h | ⟨b, off, o, ha, ho, hb, h⟩
  · exact .inl h
  · exact .inr ⟨b, off, o, ha, hf.keep _ _ ho (hk _ _ ho hb), hb, fun i hi j u hu => hf.cell (fun o' ho' => by have e : o' = o := Option.some.inj (ho'.symm.trans ho); subst e; exact hk _ _ ho' hb) (h i hi j u hu)⟩
theorem RowsAt.mono {K' : Nat → Obj → Prop} (h : RowsAt K w v k enc xs) (hk : ∀ c o, w.heap[c]? = some o → K c o → K' c o) : RowsAt K' w v k enc xs := by
  obtain ⟨a, c, hv, hc, h⟩ := h
  refine ⟨a, c, hv, hc, ?_⟩
  rcases h with h | ⟨b, off, o, ha, ho, hb, h⟩
  · exact .inl h
  · exact .inr ⟨b, off, o, ha, ho, hk _ _ ho hb, h⟩
theorem RowsAt.tt (h : RowsAt K w v k enc xs) (hf : Fr (fun _ _ => True) w w') : RowsAt K w' v k enc xs := h.fr hf fun _ _ _ _ => trivial
theorem RowsAt.form (h : RowsAt K w v k enc xs) : ∃ a c, v = .slice a xs.length c ∧ xs.length ≤ c := by
  obtain ⟨a, c, hv, hc, _⟩ := h
  exact ⟨a, c, hv, hc⟩
theorem RowsAt.nil (K : Nat → Obj → Prop) (w : World) (k : Nat) (enc : α → List Value) : RowsAt K w (.slice none 0 0) k enc [] := ⟨none, 0, rfl, Nat.le_refl _, .inl rfl⟩
theorem RowsAt.spot {a : Option Addr} {n c : Nat} (h : RowsAt K w (.slice a n c) k enc xs) (h0 : 0 < xs.length) : ∃ b off o, a = some ⟨b, off, none⟩ ∧ w.heap[b]? = some o ∧ K b o ∧ ∀ i, (h : i < xs.length) → ∀ j u, (enc xs[i])[j]? = some u → w.cell? ⟨b, off + i * k + j, none⟩ = some u := by
  obtain ⟨a', c', e, _, h⟩ := h
  cases e
  rcases h with h | h
  · rw [h] at h0; cases h0
  · exact h
theorem flat_get (hk : ∀ x, (enc x).length = k) : ∀ (xs : List α) (i : Nat) (h : i < xs.length) (j : Nat) (u : Value), (enc xs[i])[j]? = some u → (xs.flatMap enc)[i * k + j]? = some u
  | x :: xs, 0, _, j, u, hu => by
    rw [List.flatMap_cons, List.getElem?_append_left (by rw [Nat.zero_mul, Nat.zero_add]; exact (List.getElem?_eq_some_iff.1 hu).1), Nat.zero_mul, Nat.zero_add]
    exact hu
  | x :: xs, i + 1, h, j, u, hu => by
    have ih := flat_get hk xs i (by simpa using h) j u hu
    rw [List.flatMap_cons, List.getElem?_append_right (by rw [hk]; have := Nat.add_mul i 1 k; rw [Nat.one_mul] at this; omega), hk]
    have e : (i + 1) * k + j - k = i * k + j := by have := Nat.add_mul i 1 k; rw [Nat.one_mul] at this; omega
    rw [e]
    exact ih
theorem flat_length (hk : ∀ x, (enc x).length = k) : ∀ (xs : List α), (xs.flatMap enc).length = xs.length * k
  | [] => by simp
  | x :: xs => by rw [List.flatMap_cons, List.length_append, hk, flat_length hk xs, List.length_cons, Nat.succ_mul]; omega
/-- A row of one's own is a slice that is read. -/
theorem RowsAt.of_own {B : Nat} {t : TypeId} (hk : ∀ x, (enc x).length = k) (h : w.ownsRow B t k v xs.length (xs.flatMap enc)) (hK : ∀ c cs, v.ownBlock = some c → K c (.cells cs t (0, 0))) : RowsAt K w v k enc xs := by
  have h0 := h
  rcases h.2 with ⟨hv, h0⟩ | ⟨g, cap, cur, hv, hb, hg, hnc, _, _, ht⟩
  · exact ⟨none, 0, by rw [hv, h0], by omega, .inl (List.length_eq_zero_iff.1 h0)⟩
  · refine ⟨_, cap, hv, hnc, .inr ⟨g, 0, _, rfl, hg, hK g _ (by rw [hv]; rfl), fun i hi j u hu => ?_⟩⟩
    have k1 := h0.cells (g := g) (by rw [hv]; rfl) _ u (flat_get hk xs i hi j u hu)
    rw [Addr.add_lit, Nat.zero_add] at k1
    rw [Nat.zero_add]
    exact k1
theorem RowsAt.drop1 {b off c n : Nat} (h : RowsAt K w (.slice (some ⟨b, off, none⟩) n c) k enc xs) (h0 : 1 < c) : RowsAt K w (.slice (some ⟨b, off + 1 * k, none⟩) (n - 1) (c - 1)) k enc (xs.drop 1) := by
  obtain ⟨a, c', e, hc, h⟩ := h
  cases e
  refine ⟨_, _, by rw [List.length_drop], by rw [List.length_drop]; omega, ?_⟩
  rcases h with h | ⟨b', off', o, e, ho, hb, h⟩
  · exact .inl (by rw [h, List.drop_nil])
  · cases e
    refine .inr ⟨_, _, o, rfl, ho, hb, fun i hi j u hu => ?_⟩
    have hi' : 1 + i < xs.length := by rw [List.length_drop] at hi; omega
    rw [List.getElem_drop] at hu
    have := h (1 + i) hi' j u hu
    have e : off + (1 + i) * k + j = off + 1 * k + i * k + j := by rw [Nat.add_mul]; omega
    rw [e] at this
    exact this
end
def encH (h : Ho) : List Value := [.int .i64 (h.c : Nat), .int .i64 (h.m : Nat), .int .u64 (h.t : Nat), .int .u64 (h.u : Nat)]
def encW (x : Wa) : List Value := [.int .i64 (x.c : Nat), .int .i64 (x.m : Nat)]
theorem encH_len (h : Ho) : (encH h).length = 4 := rfl
theorem encW_len (h : Wa) : (encW h).length = 2 := rfl
theorem RowsAt.h4 {K : Nat → Obj → Prop} {w : World} {b off : Nat} {xs : List Ho} (h : ∀ i, (h : i < xs.length) → ∀ j u, (encH xs[i])[j]? = some u → w.cell? ⟨b, off + i * 4 + j, none⟩ = some u) (i : Nat) (hi : i < xs.length) :
    w.cell? ⟨b, off + i * 4, none⟩ = some (.int .i64 (xs[i].c : Nat)) ∧ w.cell? ⟨b, off + i * 4 + 1, none⟩ = some (.int .i64 (xs[i].m : Nat)) ∧ w.cell? ⟨b, off + i * 4 + 2, none⟩ = some (.int .u64 (xs[i].t : Nat)) ∧ w.cell? ⟨b, off + i * 4 + 3, none⟩ = some (.int .u64 (xs[i].u : Nat)) :=
  ⟨h i hi 0 _ rfl, h i hi 1 _ rfl, h i hi 2 _ rfl, h i hi 3 _ rfl⟩
theorem RowsAt.w2 {K : Nat → Obj → Prop} {w : World} {b off : Nat} {xs : List Wa} (h : ∀ i, (h : i < xs.length) → ∀ j u, (encW xs[i])[j]? = some u → w.cell? ⟨b, off + i * 2 + j, none⟩ = some u) (i : Nat) (hi : i < xs.length) :
    w.cell? ⟨b, off + i * 2, none⟩ = some (.int .i64 (xs[i].c : Nat)) ∧ w.cell? ⟨b, off + i * 2 + 1, none⟩ = some (.int .i64 (xs[i].m : Nat)) := ⟨h i hi 0 _ rfl, h i hi 1 _ rfl⟩

/-- Where wants lie. -/
def WK (P : Nat → Prop) (c : Nat) (o : Obj) : Prop := ¬ P c ∧ ∃ cs fz, o = .cells cs 114 fz
/-- The table at bt; what its functions write lies in P, above n. -/
structure LT (n : Nat) (P : Nat → Prop) (w : World) (bt : Nat) (hv wv : Nat → Value) (L : Lk) : Prop where
  top : w.heap[bt]? = some (.cells #[.int .u64 (L.now : Nat), .int .u64 (L.last : Nat), hv 0, wv 0, hv 1, wv 1, hv 2, wv 2, hv 3, wv 3] 66 (0, 0))
  hr : ∀ i, i < 4 → w.ownsRow 0 112 4 (hv i) (L.rg i).hs.length ((L.rg i).hs.flatMap encH)
  hp : ∀ i, i < 4 → ∀ c, (hv i).ownBlock = some c → P c
  sep : ∀ i j, i < 4 → j < 4 → i ≠ j → ∀ c, (hv i).ownBlock = some c → (hv j).ownBlock ≠ some c
  wr : ∀ i, i < 4 → RowsAt (WK P) w (wv i) 2 encW (L.rg i).ws
  pt : P bt
  ps : ∀ c, P c → ∃ cs t fz, w.heap[c]? = some (.cells cs t fz) ∧ (t = 66 ∨ t = 112)
  lo : ∀ c, P c → n ≤ c
  ok : L.ok
def LTE (n : Nat) (P : Nat → Prop) (w : World) (bt : Nat) (L : Lk) : Prop := ∃ hv wv, LT n P w bt hv wv L
section
variable {n : Nat} {P : Nat → Prop} {w w' : World} {bt : Nat} {hv wv : Nat → Value} {L : Lk}
theorem LT.ne (h : LT n P w bt hv wv L) {i : Nat} (hi : i < 4) : (hv i).ownBlock ≠ some bt := fun e => by
  obtain ⟨cur, hc⟩ := own_tag (h.hr i hi) e
  rw [h.top] at hc
  cases hc
theorem LT.fr {K : Nat → Obj → Prop} (h : LT n P w bt hv wv L) (hf : Fr K w w') (h1 : ∀ c cs t fz, (t = 66 ∨ t = 112) → P c → K c (.cells cs t fz)) (h2 : ∀ i, i < 4 → RowsAt (WK P) w' (wv i) 2 encW (L.rg i).ws) : LT n P w' bt hv wv L :=
  ⟨hf.keep _ _ h.top (h1 _ _ _ _ (.inl rfl) h.pt), fun i hi => ownsRow_fr (h.hr i hi) hf fun b o e ho => by
    obtain ⟨cs, t, fz, hc, ht⟩ := h.ps b (h.hp i hi b e)
    rw [hc] at ho
    cases ho
    exact h1 _ _ _ _ ht (h.hp i hi b e), h.hp, h.sep, h2, h.pt, fun c hc => by
    obtain ⟨cs, t, fz, he, ht⟩ := h.ps c hc
    exact ⟨cs, t, fz, hf.keep _ _ he (h1 _ _ _ _ ht hc), ht⟩, h.lo, h.ok⟩
theorem LT.tt (h : LT n P w bt hv wv L) (hf : Fr (fun _ _ => True) w w') : LT n P w' bt hv wv L := h.fr hf (fun _ _ _ _ _ _ => trivial) fun i hi => (h.wr i hi).tt hf
theorem LT.hi (h : LT n P w bt hv wv L) : ∀ c, P c → c < w.heap.size := fun c hc => by
  obtain ⟨cs, t, fz, he, _⟩ := h.ps c hc
  exact lt_of_some he
theorem LTE.tt (h : LTE n P w bt L) (hf : Fr (fun _ _ => True) w w') : LTE n P w' bt L := by
  obtain ⟨hv, wv, h⟩ := h
  exact ⟨hv, wv, h.tt hf⟩
/-- The cells of a region. -/
theorem LT.cells (h : LT n P w bt hv wv L) (W : World) (f : Fr (fun _ _ => True) w W) : W.cell? ⟨bt, 0, none⟩ = some (.int .u64 (L.now : Nat)) ∧ W.cell? ⟨bt, 1, none⟩ = some (.int .u64 (L.last : Nat)) ∧ ∀ i, i < 4 → W.cell? ⟨bt, 2 + i * 2, none⟩ = some (hv i) ∧ W.cell? ⟨bt, 2 + i * 2 + 1, none⟩ = some (wv i) := by
  have t := f.keep _ _ h.top trivial
  refine ⟨cell_mk t rfl, cell_mk t rfl, fun i hi => ?_⟩
  match i, hi with
  | 0, _ => exact ⟨cell_mk t rfl, cell_mk t rfl⟩
  | 1, _ => exact ⟨cell_mk t rfl, cell_mk t rfl⟩
  | 2, _ => exact ⟨cell_mk t rfl, cell_mk t rfl⟩
  | 3, _ => exact ⟨cell_mk t rfl, cell_mk t rfl⟩
theorem LT.free (h : LT n P w bt hv wv L) (W : World) (f : Fr (fun _ _ => True) w W) (i : Nat) : W.frozen? ⟨bt, i, none⟩ = false := frozen_mk (f.keep _ _ h.top trivial)
theorem LT.hat (h : LT n P w bt hv wv L) {i : Nat} (hi : i < 4) : RowsAt (fun c _ => P c ∧ c ≠ bt) w (hv i) 4 encH (L.rg i).hs :=
  RowsAt.of_own encH_len (h.hr i hi) fun c _ e => ⟨h.hp i hi c e, fun q => h.ne hi (q ▸ e)⟩
end
/-- A new table. -/
theorem LT.new {n : Nat} {w : World} (hn : n ≤ w.heap.size) : LT n (fun c => c = w.heap.size) (w.alloc (.cells #[.int .u64 0, .int .u64 0, .slice none 0 0, .slice none 0 0, .slice none 0 0, .slice none 0 0, .slice none 0 0, .slice none 0 0, .slice none 0 0, .slice none 0 0] 66 (0, 0))) w.heap.size (fun _ => .slice none 0 0) (fun _ => .slice none 0 0) Lk.new := by
  have e : ∀ i, i < 4 → Lk.new.rg i = ⟨[], []⟩ := fun i hi => by
    match i, hi with
    | 0, _ => rfl
    | 1, _ => rfl
    | 2, _ => rfl
    | 3, _ => rfl
  refine ⟨heap_alloc_new _ _, fun i hi => ?_, fun i hi c h => (by cases h), fun i j hi hj hij c h => (by cases h), fun i hi => ?_, rfl, fun c hc => ?_, fun c hc => ?_, Lk.new_ok⟩
  · rw [e i hi]; exact ⟨rfl, .inl ⟨rfl, rfl⟩⟩
  · rw [e i hi]; exact RowsAt.nil _ _ _ _
  · subst hc; exact ⟨_, _, _, heap_alloc_new _ _, .inl rfl⟩
  · subst hc; exact hn
end Go.Proofs.YtlolfcnfcgegdaaGreat
