/- Texts of the proofs, part 8: what the functions that they reach do, walked; no conditions beyond those that each states. -/
import Derived.Maps.OwnSet
import Derived.Test.YtlolfcnfcgegdaaGreatZz45ac41a6bd
set_option linter.unusedVariables false
set_option linter.unusedSimpArgs false
/- The sessions' table: Close. -/
namespace Go.Proofs.YtlolfcnfcgegdaaGreat
open Go.RowKit

def delR (R : List Rec) (n : Int) : List Rec := R.filter fun r => !decide (r.key = n)
theorem drp_ent (n : Int) : ∀ R : List Rec, (R.map Rec.key).Nodup → drp (R.map Rec.ent) n = (delR R n).map Rec.ent
  | [], _ => rfl
  | r :: R, hd => by
    rw [List.map_cons, List.nodup_cons] at hd
    by_cases h : r.key = n
    · have e : delR (r :: R) n = R := by
        simp only [delR, List.filter_cons, h, decide_true, Bool.not_true, Bool.false_eq_true, ↓reduceIte]
        refine List.filter_eq_self.2 fun x hx => ?_
        have : x.key ≠ n := fun e => hd.1 (by rw [h, ← e]; exact List.mem_map_of_mem hx)
        simp [this]
      rw [e]
      simp [drp, Rec.ent, h]
    · have e : delR (r :: R) n = r :: delR R n := by simp [delR, List.filter_cons, h]
      rw [e]
      simp only [List.map_cons, drp, Rec.ent, h, ↓reduceIte]
      rw [← drp_ent n R hd.2]
theorem delM_abs (R : List Rec) (n : Int) : (delR R n).map Rec.abs = (R.map Rec.abs).filter fun x => !decide (x.1 = n) := by
  rw [List.filter_map]; rfl

theorem Tab.del {w : World} {B bt bm : Nat} {c : Nat} {R : List Rec} (n : Int) (h : Tab w B bt (some bm) c R) :
    Tab (w.putObj bm (.map (entriesOf .i64 (drp (R.map Rec.ent) n)) c)) B bt (some bm) c (delR R n) := by
  have hm := h.map bm rfl
  have hnb : ∀ b cs t fz, w.heap[b]? = some (.cells cs t fz) → b ≠ bm := fun b cs t fz hb e => by rw [e, hm.2] at hb; cases hb
  have hf : Fr (fun b _ => b ≠ bm) w (w.putObj bm (.map (entriesOf .i64 (drp (R.map Rec.ent) n)) c)) := (Fr.refl _ _).putObj (fun _ _ h => h rfl) _
  refine ⟨hf.keep _ _ h.top (hnb _ _ _ _ h.top), h.le, (fun e => by cases e), fun b e => ?_, fun r hr => ?_, ?_, ?_, ?_, ?_⟩
  · cases e
    exact ⟨hm.1, by rw [drp_ent n R h.keys]; exact heap_putObj_same hm.2 _⟩
  · have ho := h.each r ((List.mem_filter.1 hr).1)
    refine ho.fr hf (hnb _ _ _ _ ho.cells) (fun b o hb hk e => ?_)
    rw [e, hm.2] at hb
    cases hb
    rcases hk with hk | ⟨_, _, e'⟩
    · have := hm.1; omega
    · cases e'
  · exact h.keys.sublist (List.filter_sublist.map _)
  · exact h.blks.sublist (List.filter_sublist.map _)
  · exact h.borns.sublist (List.filter_sublist.map _)
  · exact fun r hr => h.old r (List.mem_filter.1 hr).1

set_option maxRecDepth 100000 in
theorem close_none (w : World) (B bt : Nat) (mv : Option Nat) (c : Nat) (R : List Rec) (n : Int) (h : Tab w B bt mv c R) (hn : findR R n = none) :
    Calls Tryz.prog 29 #[.pointer (some ⟨bt, 0, none⟩), .int .i64 n] w fun e w' => e = .returned (.int .i64 81) ∧ w = w' := by
  have hl := h.lookup n
  have hc := h.cell
  rw [hn] at hl
  simp only [Option.map_none, Option.getD_none, Option.isSome_none] at hl
  go_enter Tryz.func29, Tryz.ntmps29
  go_wp2
  go_ret
  exact ⟨rfl, rfl⟩

set_option maxRecDepth 100000 in
theorem close_some (w : World) (B bt : Nat) (mv : Option Nat) (c : Nat) (R : List Rec) (n : Int) (r : Rec) (h : Tab w B bt mv c R) (hn : findR R n = some r) :
    Calls Tryz.prog 29 #[.pointer (some ⟨bt, 0, none⟩), .int .i64 n] w fun e w' => e = .returned (.int .i64 0) ∧ Tab w' B bt mv c (delR R n) ∧ ∃ bm, mv = some bm ∧ Fr (fun c _ => c ≠ bm) w w' := by
  cases mv with
  | none => rw [h.nil rfl] at hn; cases hn
  | some bm =>
  have hl := h.lookup n
  have hc := h.cell
  have hm := h.map bm rfl
  have hs : (look (R.map Rec.ent) n).isSome = true := by rw [look_ent, hn]; rfl
  rw [hn] at hl
  simp only [Option.map_some, Option.getD_some, Option.isSome_some] at hl
  have H := Lib.hid h
  have HM := Lib.hid hm
  have HS := Lib.hid hs
  clear h hm hn hs
  go_enter Tryz.func29, Tryz.ntmps29
  go_wp2_with (at_delete; refine wpList_delete_int _ rfl _ _ 57 3 rfl 110 .i64 Tryz.underlying57 Tryz.underlying3 bm c (R.map Rec.ent) n rfl rfl HM.out.2 HS.out ?_)
  go_ret
  exact ⟨rfl, H.out.del n, bm, rfl, (Fr.refl _ _).putObj (fun _ _ h => h rfl) _⟩

theorem close_calls (w : World) (B bt : Nat) (M : MT) (n : Int) (h : TabM w B bt M) (code : Int) (M' : MT) (hr : closeM M n = (code, M')) :
    Calls Tryz.prog 29 #[.pointer (some ⟨bt, 0, none⟩), .int .i64 n] w fun e w' => e = .returned (.int .i64 code) ∧ TabM w' B bt M' ∧ Fr (KT B) w w' := by
  have hM := h
  obtain ⟨mv, c, R, h, e⟩ := h
  have hf := findM_abs n R
  rw [e] at hf
  unfold closeM at hr
  cases hn : findR R n with
  | none =>
    rw [hf, hn] at hr
    obtain ⟨rfl, rfl⟩ := Prod.mk.inj hr
    exact (close_none w B bt mv c R n h hn).mono fun e w' ⟨he, hw⟩ => ⟨he, hw ▸ hM, hw ▸ Fr.refl _ _⟩
  | some r =>
    rw [hf, hn] at hr
    obtain ⟨rfl, rfl⟩ := Prod.mk.inj hr
    exact (close_some w B bt mv c R n r h hn).mono fun e' w' ⟨he, ht, bm, q, hf⟩ => ⟨he, ⟨_, _, _, ht, by rw [delM_abs, e]⟩, hf.but (KT.map (h.map bm q).1 (h.map bm q).2)⟩

end Go.Proofs.YtlolfcnfcgegdaaGreat
/- The sessions' table, and which blocks are its own. -/
namespace Go.Proofs.YtlolfcnfcgegdaaGreat
open Go.RowKit
set_option linter.unusedVariables false
set_option linter.unusedSimpArgs false
/-- What a block of the table may be. -/
def Qk (o : Obj) : Prop := (∃ es c, o = .map es c) ∨ (∃ v, o = .cells #[.map v] 59 (0, 0)) ∨ ∃ q a l cp, o = .cells #[.int .u32 q, .slice a l cp] 109 (0, 0)
def TQ (Q : Nat → Prop) (bt : Nat) (mv : Option Nat) (R : List Rec) : Prop := Q bt ∧ (∀ b, mv = some b → Q b) ∧ ∀ r ∈ R, Q r.blk
/-- The table at bt; what its functions write lies in Q. -/
structure TO (n : Nat) (Q : Nat → Prop) (w : World) (bt : Nat) (M : MT) : Prop where
  tab : ∃ mv c R, Tab w n bt mv c R ∧ R.map Rec.abs = M ∧ TQ Q bt mv R
  kind : ∀ c, Q c → ∃ o, w.heap[c]? = some o ∧ Qk o
  lo : ∀ c, Q c → n ≤ c
theorem Tab.kind {w : World} {n bt : Nat} {mv : Option Nat} {c : Nat} {R : List Rec} (h : Tab w n bt mv c R) {k : Nat} (hk : k = bt ∨ mv = some k ∨ ∃ r ∈ R, r.blk = k) : (∃ o, w.heap[k]? = some o ∧ Qk o) ∧ n ≤ k := by
  rcases hk with rfl | hk | ⟨r, hr, rfl⟩
  · exact ⟨⟨_, h.top, .inr (.inl ⟨_, rfl⟩)⟩, h.le⟩
  · exact ⟨⟨_, (h.map k hk).2, .inl ⟨_, _, rfl⟩⟩, (h.map k hk).1⟩
  · have ho := h.each r hr
    obtain ⟨a, cp, e⟩ := ho.bytes.form
    exact ⟨⟨_, ho.cells, .inr (.inr ⟨_, a, _, cp, by rw [e]⟩)⟩, ho.le⟩
theorem TO.mk' {n : Nat} {Q Q' : Nat → Prop} {w w' : World} {bt m : Nat} {M : MT} (h : TO n Q w bt M) {mv : Option Nat} {c : Nat} {R : List Rec} (ht : Tab w' n bt mv c R) (hq : TQ Q' bt mv R) (f : Fr (fun k _ => k ≠ m) w w') (hm : Q m)
    (hN : ∀ k, Q' k → (Q k ∧ k ≠ m) ∨ (w.heap.size ≤ k ∨ k = m) ∧ (k = bt ∨ mv = some k ∨ ∃ r ∈ R, r.blk = k)) : TO n Q' w' bt (R.map Rec.abs) ∧ Kp Q Q' w w' := by
  refine ⟨⟨⟨mv, c, R, ht, rfl, hq⟩, fun k hk => ?_, fun k hk => ?_⟩, f.mono fun k _ hk e => hk (e ▸ hm), fun k hk h1 h2 => ?_⟩
  · rcases hN k hk with ⟨h1, h2⟩ | ⟨_, h2⟩
    · obtain ⟨o, ho, hq⟩ := h.kind k h1
      exact ⟨o, f.keep _ _ ho h2, hq⟩
    · exact (ht.kind h2).1
  · rcases hN k hk with ⟨h1, _⟩ | ⟨_, h2⟩
    · exact h.lo k h1
    · exact (ht.kind h2).2
  · rcases hN k h2 with ⟨h3, _⟩ | ⟨h3 | rfl, _⟩
    · exact h1 h3
    · omega
    · exact h1 hm
theorem TO.frk {n : Nat} {Q : Nat → Prop} {K : Nat → Obj → Prop} {w w' : World} {bt : Nat} {M : MT} (h : TO n Q w bt M) (hf : Fr K w w') (h1 : ∀ b o, w.heap[b]? = some o → Q b → K b o) (h2 : ∀ b o, w.heap[b]? = some o → KU n b o → K b o) : TO n Q w' bt M := by
  obtain ⟨⟨mv, c, R, ht, e, q0, q1, q2⟩, hk, hl⟩ := h
  refine ⟨⟨mv, c, R, ⟨hf.keep _ _ ht.top (h1 _ _ ht.top q0), ht.le, ht.nil, fun bm e => ⟨(ht.map bm e).1, hf.keep _ _ (ht.map bm e).2 (h1 _ _ (ht.map bm e).2 (q1 bm e))⟩, fun r hr => (ht.each r hr).fr hf (h1 _ _ (ht.each r hr).cells (q2 r hr)) h2, ht.keys, ht.blks, ht.borns, ht.old⟩, e, q0, q1, q2⟩, fun k hq => ?_, hl⟩
  obtain ⟨o, ho, hq'⟩ := hk k hq
  exact ⟨o, hf.keep _ _ ho (h1 _ _ ho hq), hq'⟩
theorem TO.fr {n : Nat} {Q : Nat → Prop} {w w' : World} {bt : Nat} {M : MT} (h : TO n Q w bt M) (hf : Fr (fun _ _ => True) w w') : TO n Q w' bt M := h.frk hf (fun _ _ _ _ => trivial) fun _ _ _ _ => trivial
theorem TO.tm {n : Nat} {Q : Nat → Prop} {w : World} {bt : Nat} {M : MT} (h : TO n Q w bt M) : TabM w n bt M := by
  obtain ⟨⟨mv, c, R, ht, e, _⟩, _⟩ := h
  exact ⟨mv, c, R, ht, e⟩
/-- A new table. -/
theorem TO.new {n : Nat} {w : World} (hn : n ≤ w.heap.size) : TO n (fun c => c = w.heap.size) (w.alloc (.cells #[.map none] 59 (0, 0))) w.heap.size [] :=
  ⟨⟨none, 0, [], ⟨heap_alloc_new _ _, hn, fun _ => rfl, (fun _ e => by cases e), (fun _ h => by cases h), List.nodup_nil, List.nodup_nil, List.nodup_nil, (fun _ h => by cases h)⟩, rfl, rfl, (fun _ e => by cases e), (fun _ h => by cases h)⟩,
    fun c hc => by subst hc; exact ⟨_, heap_alloc_new _ _, .inr (.inl ⟨_, rfl⟩)⟩, fun c hc => by subst hc; exact hn⟩

theorem done_to {n : Nat} {Q : Nat → Prop} (w : World) (bt : Nat) (M : MT) (k s : Int) (v : Value) (bs : List UInt8) (h : TO n Q w bt M) (h0 : 0 ≤ s) (h1 : s < 4294967296) {K : Nat → Obj → Prop} (hb : BytesAt K w v bs) (code : Int) (M' : MT) (hr : doneM M k s bs = (code, M')) :
    Calls Tryz.prog 71 #[.pointer (some ⟨bt, 0, none⟩), .int .i64 k, .int .u32 s, v] w fun e w' =>
      e = .returned (.int .i64 code) ∧ ∃ Q', TO n Q' w' bt M' ∧ Kp Q Q' w w' := by
  have hT := h
  obtain ⟨⟨mv, c, R, h, e, hq⟩, _⟩ := h
  obtain ⟨a, cap, rfl⟩ := hb.form
  have hf := findM_abs k R
  rw [e] at hf
  cases hn : findR R k with
  | none =>
    rw [hn] at hf
    simp only [doneM, hf, Option.map_none, Prod.mk.injEq] at hr
    obtain ⟨rfl, rfl⟩ := hr
    exact (done_none w n bt mv c R k s _ h hn).mono fun e w' ⟨he, hw⟩ => ⟨he, Q, hw ▸ hT, hw ▸ Kp.refl Q w⟩
  | some r =>
    rw [hn] at hf
    simp only [doneM, hf, Option.map_some, Rec.abs] at hr
    by_cases hs : s = r.seq + 1 ∧ bs.length ≤ 9
    · rw [if_pos hs] at hr
      simp only [Prod.mk.injEq] at hr
      obtain ⟨rfl, rfl⟩ := hr
      refine (done_ok w n bt mv c R k s r a cap bs h hn h0 h1 hs.1 hs.2 hb).mono fun e' w' ⟨v, he, ht, hf⟩ => ?_
      have hrm := (findR_mem hn).1
      have hbl : ∀ x, x ∈ (setR R k s v bs).map Rec.blk ↔ x ∈ R.map Rec.blk := fun x => by rw [setR_blk]
      have q2 : ∀ r ∈ setR R k s v bs, Q r.blk := fun r' hr' => by
        have := (hbl r'.blk).1 (List.mem_map_of_mem hr')
        obtain ⟨y, hy, e⟩ := List.mem_map.1 this
        rw [← e]; exact hq.2.2 y hy
      have := hT.mk' ht ⟨hq.1, hq.2.1, q2⟩ hf (hq.2.2 r hrm) fun x hx => by
        by_cases hxr : x = r.blk
        · refine .inr ⟨.inr hxr, .inr (.inr ?_)⟩
          obtain ⟨y, hy, e⟩ := List.mem_map.1 ((hbl x).2 (by rw [hxr]; exact List.mem_map_of_mem hrm))
          exact ⟨y, hy, e⟩
        · exact .inl ⟨hx, hxr⟩
      rw [setM_abs, e] at this
      exact ⟨he, Q, this⟩
    · rw [if_neg hs] at hr
      simp only [Prod.mk.injEq] at hr
      obtain ⟨rfl, rfl⟩ := hr
      exact (done_code w n bt mv c R k s r a _ cap h hn h0 h1 (by omega)).mono fun e w' ⟨he, hw⟩ => ⟨he, Q, hw ▸ hT, hw ▸ Kp.refl Q w⟩

theorem open_to {n : Nat} {Q : Nat → Prop} (w : World) (bt : Nat) (M : MT) (k : Int) (h : TO n Q w bt M) (hB : n ≤ w.heap.size) (code : Int) (M' : MT) (hr : openM M k = (code, M')) :
    Calls Tryz.prog 28 #[.pointer (some ⟨bt, 0, none⟩), .int .i64 k] w fun e w' =>
      e = .returned (.int .i64 code) ∧ ∃ Q', TO n Q' w' bt M' ∧ Kp Q Q' w w' := by
  have hT := h
  obtain ⟨⟨mv, c, R, h, e, hq⟩, _⟩ := h
  have hf := findM_abs k R
  have hl : M.length = R.length := by rw [← e, List.length_map]
  rw [e] at hf
  unfold openM at hr
  by_cases hrg : k < 0 ∨ 16 ≤ k
  · rw [if_pos hrg] at hr
    obtain ⟨rfl, rfl⟩ := Prod.mk.inj hr
    exact (open_range w n bt mv c R k h hrg).mono fun e w' ⟨he, hw⟩ => ⟨he, Q, hw ▸ hT, hw ▸ Kp.refl Q w⟩
  · rw [if_neg hrg] at hr
    cases hn : findR R k with
    | some r =>
      rw [hf, hn] at hr
      obtain ⟨rfl, rfl⟩ := Prod.mk.inj hr
      exact (open_there w n bt mv c R k r h (by omega) (by omega) hn).mono fun e w' ⟨he, hw⟩ => ⟨he, Q, hw ▸ hT, hw ▸ Kp.refl Q w⟩
    | none =>
      rw [hf, hn] at hr
      simp only [Option.map_none, Option.isSome_none, Bool.false_eq_true, ↓reduceIte] at hr
      by_cases h6 : 6 ≤ M.length
      · rw [if_pos h6] at hr
        obtain ⟨rfl, rfl⟩ := Prod.mk.inj hr
        exact (open_full w n bt mv c R k h (by omega) (by omega) hn (by omega)).mono fun e w' ⟨he, hw⟩ => ⟨he, Q, hw ▸ hT, hw ▸ Kp.refl Q w⟩
      · rw [if_neg h6] at hr
        obtain ⟨rfl, rfl⟩ := Prod.mk.inj hr
        have hex : ∀ be cc, (R ++ [(⟨k, be, cc, 0, .slice none 0 0, []⟩ : Rec)]).map Rec.abs = M ++ [(k, 0, [])] := fun be cc => by rw [List.map_append, e]; rfl
        cases mv with
        | none =>
          refine (open_first w n bt c R k h hB (by omega) (by omega)).mono fun e' w' ⟨he, ⟨bm, c', be, cc, ht, z1, z2⟩, hf⟩ => ⟨he, fun x => Q x ∨ x = bm ∨ x = be, ?_⟩
          have := hT.mk' (Q' := fun x => Q x ∨ x = bm ∨ x = be) ht ⟨.inl hq.1, fun b e => by cases e; exact .inr (.inl rfl), fun r hr => by
            rcases List.mem_append.1 hr with hr | hr
            · exact .inl (hq.2.2 r hr)
            · rw [List.mem_singleton.1 hr]; exact .inr (.inr rfl)⟩ hf hq.1 fun x hx => by
            rcases hx with hx | rfl | rfl
            · by_cases hb : x = bt
              · exact .inr ⟨.inr hb, .inl hb⟩
              · exact .inl ⟨hx, hb⟩
            · exact .inr ⟨.inl z1, .inr (.inl rfl)⟩
            · exact .inr ⟨.inl z2, .inr (.inr ⟨_, List.mem_append_right _ (List.mem_singleton.2 rfl), rfl⟩)⟩
          rw [hex] at this
          exact this
        | some bm =>
          refine (open_ok w n bt bm c R k h hB (by omega) (by omega) hn (by omega)).mono fun e' w' ⟨he, ⟨c', be, cc, ht, z2⟩, hf⟩ => ⟨he, fun x => Q x ∨ x = be, ?_⟩
          have := hT.mk' (Q' := fun x => Q x ∨ x = be) ht ⟨.inl hq.1, fun b e => .inl (hq.2.1 b e), fun r hr => by
            rcases List.mem_append.1 hr with hr | hr
            · exact .inl (hq.2.2 r hr)
            · rw [List.mem_singleton.1 hr]; exact .inr rfl⟩ hf (hq.2.1 bm rfl) fun x hx => by
            rcases hx with hx | rfl
            · by_cases hb : x = bm
              · exact .inr ⟨.inr hb, .inr (.inl (by rw [hb]))⟩
              · exact .inl ⟨hx, hb⟩
            · exact .inr ⟨.inl z2, .inr (.inr ⟨_, List.mem_append_right _ (List.mem_singleton.2 rfl), rfl⟩)⟩
          rw [hex] at this
          exact this

theorem close_to {n : Nat} {Q : Nat → Prop} (w : World) (bt : Nat) (M : MT) (k : Int) (h : TO n Q w bt M) (code : Int) (M' : MT) (hr : closeM M k = (code, M')) :
    Calls Tryz.prog 29 #[.pointer (some ⟨bt, 0, none⟩), .int .i64 k] w fun e w' => e = .returned (.int .i64 code) ∧ ∃ Q', TO n Q' w' bt M' ∧ Kp Q Q' w w' := by
  have hT := h
  obtain ⟨⟨mv, c, R, h, e, hq⟩, _⟩ := h
  have hf := findM_abs k R
  rw [e] at hf
  unfold closeM at hr
  cases hn : findR R k with
  | none =>
    rw [hf, hn] at hr
    obtain ⟨rfl, rfl⟩ := Prod.mk.inj hr
    exact (close_none w n bt mv c R k h hn).mono fun e w' ⟨he, hw⟩ => ⟨he, Q, hw ▸ hT, hw ▸ Kp.refl Q w⟩
  | some r =>
    rw [hf, hn] at hr
    obtain ⟨rfl, rfl⟩ := Prod.mk.inj hr
    refine (close_some w n bt mv c R k r h hn).mono fun e' w' ⟨he, ht, bm, eb, hf⟩ => ⟨he, Q, ?_⟩
    have := hT.mk' ht ⟨hq.1, hq.2.1, fun r hr => hq.2.2 r (List.mem_filter.1 hr).1⟩ hf (hq.2.1 bm eb) fun x hx => by
      by_cases hb : x = bm
      · exact .inr ⟨.inr hb, .inr (.inl (by rw [hb, eb]))⟩
      · exact .inl ⟨hx, hb⟩
    rw [delM_abs, e] at this
    exact this
theorem ask_to {n : Nat} {Q : Nat → Prop} (w : World) (bt : Nat) (M : MT) (k s : Int) (h : TO n Q w bt M) (h0 : 0 ≤ s) (h1 : s < 4294967296) (bs : List UInt8) (again : Bool) (code : Int) (hr : askM M k s = (bs, again, code)) :
    Calls Tryz.prog 68 #[.pointer (some ⟨bt, 0, none⟩), .int .i64 k, .int .u32 s] w fun e w' =>
      ∃ a cap, e = .returned (.tuple #[.slice a bs.length cap, .bool again, .int .i64 code]) ∧ BytesAt (New w.heap.size) w' (.slice a bs.length cap) bs ∧ Fr (fun _ _ => True) w w' :=
  (ask_calls w n bt M k s h.tm h0 h1 bs again code hr).mono fun e w' ⟨a, cap, he, hb, _, hf⟩ => ⟨a, cap, he, hb, hf⟩
end Go.Proofs.YtlolfcnfcgegdaaGreat
