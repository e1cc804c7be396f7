/- Texts of the proofs, part 28: what the functions that they reach do, walked; no conditions beyond those that each states. -/
import Derived.Test.YtlolfcnfcgegdaaGreatZz8c26128106
set_option linter.unusedVariables false
set_option linter.unusedSimpArgs false
/- The locks' Unpack: what comes of it is a table; what is packed is unpacked. -/
namespace Go.Proofs.YtlolfcnfcgegdaaGreat
open Go.RowKit
set_option linter.unusedVariables false
set_option linter.unusedSimpArgs false

/-- The blocks of a table that was built. -/
def PU (bt : Nat) (hv : Nat → Value) (c : Nat) : Prop := c = bt ∨ ∃ i, i < 4 ∧ (hv i).ownBlock = some c
theorem UT.lte {k n : Nat} {w : World} {bt : Nat} {hv wv : Nat → Value} {L : Lk} (h : UT k w bt hv wv L) (hn : n ≤ k) (ok : L.ok) : LTE n (PU bt hv) w bt L ∧ ∀ c, PU bt hv c → k ≤ c := by
  have hk : ∀ c, PU bt hv c → k ≤ c := fun c hc => by
    rcases hc with rfl | ⟨i, hi, e⟩
    · exact h.le
    · exact own_above (h.hr i hi) e
  refine ⟨⟨hv, wv, h.top, fun i hi => own_basew (h.hr i hi) fun _ _ => Nat.zero_le _, fun i hi c e => .inr ⟨i, hi, e⟩, h.sep, fun i hi => ?_, .inl rfl, fun c hc => ?_, fun c hc => Nat.le_trans hn (hk c hc), ok⟩, hk⟩
  · exact RowsAt.of_own encW_len (h.wr i hi) fun c cs e => ⟨fun hp => by
      rcases hp with rfl | ⟨j, hj, e2⟩
      · exact h.wne hi e
      · exact h.hw hj hi c e2 e, cs, _, rfl⟩
  · rcases hc with rfl | ⟨i, hi, e⟩
    · exact ⟨_, _, _, h.top, .inl rfl⟩
    · obtain ⟨cur, q⟩ := own_tag (h.hr i hi) e
      exact ⟨_, _, _, q, .inr rfl⟩
theorem holdU_ok (p : Rs) : (holdU p).1.t ≤ topM ∧ (holdU p).1.u ≤ topM := by
  have h1 := num2_lt (num2 (num2 p 1).2 1).2 8
  have h2 := num2_lt (num2 (num2 (num2 p 1).2 1).2 8).2 8
  rw [topM_eq]
  unfold holdU
  dsimp only
  constructor <;> omega
theorem hsU_ok (last : Nat) (u : UB) (hu : u.hs = []) : ∀ i, ∀ h ∈ (hsU last u i).hs, h.t ≤ topM ∧ h.u ≤ topM
  | 0, h, hh => by
    have : h ∈ u.hs := hh
    rw [hu] at this; cases this
  | i + 1, h, hh => by
    have hh' : h ∈ (hsU last u i).hs ++ [(holdU (hsU last u i).p).1] := hh
    rcases List.mem_append.1 hh' with q | q
    · exact hsU_ok last u hu i h q
    · rw [List.mem_singleton.1 q]; exact holdU_ok _
theorem hasI_false {l : List Int} {n : Int} : hasI l n = false ↔ n ∉ l := by rw [← Bool.not_eq_true, hasI_mem]
theorem nodup_seen {l : List Int} (h : ∀ j, (hj : j < l.length) → hasI (l.take j) l[j] = false) : l.Nodup := by
  refine List.pairwise_iff_getElem.2 fun i j hi hj hij e => ?_
  have := hasI_false.1 (h j hj)
  refine this ?_
  rw [← e]
  exact List.mem_take_iff_getElem.2 ⟨i, by omega, rfl⟩
theorem check_ok {r : Rgn} (h : checkM r = true) (hb : ∀ x ∈ r.hs, x.t ≤ topM ∧ x.u ≤ topM) : r.ok := by
  unfold checkM at h
  simp only [Bool.and_eq_true, decide_eq_true_eq, List.all_eq_true, List.mem_range] at h
  obtain ⟨⟨⟨h4, w4⟩, hh⟩, hw⟩ := h
  have hhx : ∀ j (hj : j < r.hs.length), r.hs[j].c < 16 ∧ (r.hs[j].m = 1 ∨ r.hs[j].m = 2) ∧ hasI ((r.hs.take j).map cI) (cI r.hs[j]) = false := fun j hj => by
    have := hh j hj
    unfold okH at this
    rw [getD_at hj] at this
    simp only [Bool.and_eq_true, decide_eq_true_eq, Bool.not_eq_true'] at this
    exact ⟨this.1.1.1, this.1.1.2, this.1.2⟩
  have hwx : ∀ j (hj : j < r.ws.length), r.ws[j].c < 16 ∧ (r.ws[j].m = 1 ∨ r.ws[j].m = 2) ∧ hasI (r.hs.map cI ++ (r.ws.take j).map cW) (cW r.ws[j]) = false := fun j hj => by
    have := hw j hj
    unfold okW at this
    rw [getD_at hj] at this
    simp only [Bool.and_eq_true, decide_eq_true_eq, Bool.not_eq_true'] at this
    exact ⟨this.1.1, this.1.2, this.2⟩
  refine ⟨h4, w4, fun x hx => ?_, fun x hx => ?_, ?_⟩
  · obtain ⟨j, hj, rfl⟩ := List.mem_iff_getElem.1 hx
    exact ⟨(hhx j hj).1, (hhx j hj).2.1, hb _ hx⟩
  · obtain ⟨j, hj, rfl⟩ := List.mem_iff_getElem.1 hx
    exact ⟨(hwx j hj).1, (hwx j hj).2.1⟩
  · have hn : (r.hs.map cI ++ r.ws.map cW).Nodup := nodup_seen fun j hj => by
      by_cases q : j < r.hs.length
      · have e : (r.hs.map cI ++ r.ws.map cW)[j] = cI r.hs[j] := by rw [List.getElem_append_left (by simpa using q)]; simp
        rw [e, List.take_append_of_le_length (by simp; omega), ← List.map_take]
        exact (hhx j q).2.2
      · have hl : (r.hs.map cI ++ r.ws.map cW).length = r.hs.length + r.ws.length := by simp
        have hj' : j - r.hs.length < r.ws.length := by omega
        have e : (r.hs.map cI ++ r.ws.map cW)[j] = cW r.ws[j - r.hs.length] := by rw [List.getElem_append_right (by simpa using q)]; simp
        have e2 : (r.hs.map cI ++ r.ws.map cW).take j = r.hs.map cI ++ (r.ws.take (j - r.hs.length)).map cW := by
          rw [List.take_append, List.take_of_length_le (by simp; omega), List.length_map, List.map_take]
        rw [e, e2]
        exact (hwx _ hj').2.2
    have em : r.hs.map cI ++ r.ws.map cW = (r.hs.map (·.c) ++ r.ws.map (·.c)).map fun n => ((n : Nat) : Int) := by
      rw [List.map_append, List.map_map, List.map_map]; rfl
    rw [em] at hn
    exact List.Pairwise.of_map (fun n => ((n : Nat) : Int)) (fun a b h e => h (by rw [e])) hn
/-- While all is well, each region that was read is one. -/
theorem rgs_ok (u : UR) (h4 : u.L.rs.length = 4) (hn : u.L.now ≤ topM) (hl : u.L.last ≤ topM) (h0 : ∀ j, j < 4 → u.L.rg j = ⟨[], []⟩) : ∀ r, r ≤ 4 → (rgsU u r).L.rs.length = 4 ∧ (rgsU u r).L.now = u.L.now ∧ (rgsU u r).L.last = u.L.last ∧ ((rgsU u r).ok = true → ∀ j, j < 4 → ((rgsU u r).L.rg j).ok)
  | 0, _ => ⟨h4, rfl, rfl, fun _ j hj => by show (u.L.rg j).ok; rw [h0 j hj]; exact ⟨by simp, by simp, by simp, by simp, by simp⟩⟩
  | r + 1, hr => by
    obtain ⟨i1, i2, i3, i4⟩ := rgs_ok u h4 hn hl h0 r (by omega)
    have e : rgsU u (r + 1) = rgU (rgsU u r) r := rfl
    rw [e]
    generalize rgsU u r = v at *
    refine ⟨by show (v.L.put r _).rs.length = 4; rw [put_len]; exact i1, i2, i3, fun hok j hj => ?_⟩
    have hok' : ((rgH v).ok && checkM ⟨(rgH v).hs, (rgW v).2⟩) = true := hok
    rw [Bool.and_eq_true] at hok'
    have hv : v.ok = true := by
      have : ∀ i, (hsU v.L.last ⟨(num2 v.p 1).2, v.ok, v.tk, []⟩ i).ok = true → v.ok = true := fun i => by
        induction i with
        | zero => exact id
        | succ i ih =>
          intro q
          have q' : ((hsU v.L.last ⟨(num2 v.p 1).2, v.ok, v.tk, []⟩ i).ok && _) = true := q
          rw [Bool.and_eq_true] at q'
          exact ih q'.1
      exact this _ hok'.1
    show ((v.L.put r _).rg j).ok
    rw [put_rg (by rw [i1]; omega)]
    split
    · exact check_ok hok'.2 fun x hx => hsU_ok _ _ rfl _ x hx
    · exact i4 hv j hj
theorem Lk.ok_of {L : Lk} (hn : L.now ≤ topM) (hl : L.last ≤ topM) (h4 : L.rs.length = 4) (h : ∀ j, j < 4 → (L.rg j).ok) : L.ok :=
  ⟨hn, hl, h4, fun r hr => by
    obtain ⟨j, hj, rfl⟩ := List.mem_iff_getElem.1 hr
    have := h j (by omega)
    unfold Lk.rg at this
    rw [List.getD_eq_getElem?_getD, List.getElem?_eq_getElem hj] at this
    exact this⟩
theorem codeU_ok {u : UR} (h : codeU u = 0) : u.ok = true := by
  unfold codeU at h
  by_cases q : u.ok = true
  · exact q
  · by_cases e : endL u.p.1 u.p.2 = 0
    · rw [if_pos ⟨e, by simpa using q⟩] at h; cases h
    · rw [if_neg (fun x => e x.1)] at h; exact absurd h e
theorem lkU_ok {b : List UInt8} (h : (lkU b).1 = 0) : (lkU b).2.ok := by
  have b1 := num2_lt (b, false) 8
  have b2 := num2_lt (num2 (b, false) 8).2 8
  obtain ⟨u, hu⟩ : ∃ u, lkU0 b = u := ⟨_, rfl⟩
  have e1 : u.L.rs = [⟨[], []⟩, ⟨[], []⟩, ⟨[], []⟩, ⟨[], []⟩] := by rw [← hu]; rfl
  have e2 : u.L.now ≤ topM := by rw [← hu, topM_eq]; show (num2 (b, false) 8).1 ≤ _; omega
  have e3 : u.L.last ≤ topM := by rw [← hu, topM_eq]; show (num2 (num2 (b, false) 8).2 8).1 ≤ _; omega
  have key := rgs_ok u (by rw [e1]; rfl) e2 e3 (fun j hj => by
    unfold Lk.rg
    rw [e1]
    match j, hj with
    | 0, _ => rfl
    | 1, _ => rfl
    | 2, _ => rfl
    | 3, _ => rfl) 4 (Nat.le_refl _)
  unfold lkU at h ⊢
  rw [hu] at h ⊢
  dsimp only at h ⊢
  generalize rgsU u 4 = v at *
  obtain ⟨k1, k2, k3, k4⟩ := key
  exact Lk.ok_of (by rw [k2]; exact e2) (by rw [k3]; exact e3) k1 (k4 (codeU_ok h))

theorem num2_le {x n : Nat} {r : List UInt8} (h : x < 256 ^ n) : num2 (le x n ++ r, false) n = (x, (r, false)) := by
  unfold num2
  dsimp only
  rw [numR_ge _ n (by simp [le_length])]
  have c := @cut_app (le x n) r n (le_length x n)
  rw [c.1, c.2, ofLE_le1 n x h]
theorem holdU_pack {h : Ho} {r : List UInt8} (h1 : h.c < 256) (h2 : h.m < 256) (h3 : h.t ≤ topM) (h4 : h.u ≤ topM) : holdU (hoB h ++ r, false) = (h, (r, false)) := by
  rw [topM_eq] at h3 h4
  unfold holdU hoB
  simp only [List.append_assoc]
  rw [num2_le (by omega)]
  dsimp only
  rw [num2_le (by omega)]
  dsimp only
  rw [num2_le (by omega)]
  dsimp only
  rw [num2_le (by omega)]
theorem hsU_shift (last : Nat) (u : UB) : ∀ i, hsU last u (i + 1) = hsU last (stepH last u) i
  | 0 => rfl
  | i + 1 => by
    show stepH last (hsU last u (i + 1)) = stepH last (hsU last (stepH last u) i)
    rw [hsU_shift last u i]
theorem wsU_shift (v : Rs × List Wa) : ∀ i, wsU v (i + 1) = wsU (stepW v) i
  | 0 => rfl
  | i + 1 => by
    show stepW (wsU v (i + 1)) = stepW (wsU (stepW v) i)
    rw [wsU_shift v i]
theorem hsU_pack (last : Nat) (r : List UInt8) : ∀ (hs : List Ho) (tk : List Int) (acc : List Ho), (∀ h ∈ hs, h.c < 256 ∧ h.m < 256 ∧ h.t ≤ topM ∧ h.u ≤ topM ∧ 0 < h.t ∧ h.t ≤ last) → (tk ++ hs.map fun h => tI h.t).Nodup →
    hsU last ⟨(hs.flatMap hoB ++ r, false), true, tk, acc⟩ hs.length = ⟨(r, false), true, tk ++ hs.map (fun h => tI h.t), acc ++ hs⟩
  | [], tk, acc, _, _ => by simp [hsU]
  | h :: hs, tk, acc, hh, hn => by
    obtain ⟨a1, a2, a3, a4, a5, a6⟩ := hh h (by simp)
    have hnt : tI h.t ∉ tk := fun q => by
      rw [List.map_cons] at hn
      exact (List.nodup_append.1 hn).2.2 _ q _ (by simp) rfl
    have es : stepH last ⟨((h :: hs).flatMap hoB ++ r, false), true, tk, acc⟩ = ⟨(hs.flatMap hoB ++ r, false), true, tk ++ [tI h.t], acc ++ [h]⟩ := by
      unfold stepH
      dsimp only
      rw [List.flatMap_cons, List.append_assoc, holdU_pack a1 a2 a3 a4]
      unfold okT
      dsimp only
      rw [decide_eq_true a5, decide_eq_true a6, hasI_false.2 hnt]
      rfl
    rw [List.length_cons, hsU_shift, es, hsU_pack last r hs (tk ++ [tI h.t]) (acc ++ [h]) (fun x hx => hh x (by simp [hx])) (by rw [List.append_assoc]; exact hn)]
    simp
theorem wsU_pack (r : List UInt8) : ∀ (ws acc : List Wa), (∀ x ∈ ws, x.c < 256 ∧ x.m < 256) → wsU ((ws.flatMap waB ++ r, false), acc) ws.length = ((r, false), acc ++ ws)
  | [], acc, _ => by simp [wsU]
  | x :: ws, acc, hh => by
    obtain ⟨a1, a2⟩ := hh x (by simp)
    have es : stepW (((x :: ws).flatMap waB ++ r, false), acc) = ((ws.flatMap waB ++ r, false), acc ++ [x]) := by
      unfold stepW waB
      dsimp only
      simp only [List.flatMap_cons, List.append_assoc]
      rw [num2_le (by omega)]
      dsimp only
      rw [num2_le (by omega)]
    rw [List.length_cons, wsU_shift, es, wsU_pack r ws (acc ++ [x]) fun y hy => hh y (by simp [hy])]
    simp
end Go.Proofs.YtlolfcnfcgegdaaGreat
/- The sessions' table: Pack. -/
namespace Go.Proofs.YtlolfcnfcgegdaaGreat
open Go.RowKit
set_option linter.unusedVariables false
set_option linter.unusedSimpArgs false

section
variable {P : Program} {t k e : TypeId} {q : IntKind} (ht : P.underlying t = some (.map k e)) (hk : P.underlying k = some (.int q))
include ht hk in
theorem run_lookup_int1p (b : Nat) (n : Int) (l : List (Int × Value × Nat)) (c : Nat) (w : World) (v : Value) (hb : w.heap[b]? = some (.map (entriesOf q l) c)) (hl : look l n = some v) :
    (Instr.lookup t (.map (some b)) (.int q n) false).run P w = .ok v w := by
  unfold Instr.lookup
  simp [run_underlying ht, run_getObj_map w b _ c hb, run_checkKey_int hk, run_findKey_int hk, hl]
end
theorem Tab.lookup1 {w : World} {B bt bm : Nat} {c : Nat} {R : List Rec} (h : Tab w B bt (some bm) c R) {n : Int} {r : Rec} (hr : findR R n = some r) :
    (Instr.lookup 57 (.map (some bm)) (.int .i64 n) false).run Tryz.prog w = .ok (.pointer (some ⟨r.blk, 0, none⟩)) w := by
  refine run_lookup_int1p Tryz.underlying57 Tryz.underlying3 bm n _ c w _ (h.map bm rfl).2 ?_
  rw [look_ent, hr]; rfl

/-- A session's bytes. -/
def entB (x : Int × Int × List UInt8) : List UInt8 := le x.1.toNat 1 ++ (le x.2.1.toNat 4 ++ byt x.2.2)
def packL (L : MT) : List UInt8 := le L.length 1 ++ (L.map entB).flatten
/-- The sessions, by clients. -/
def sortM (M : MT) : MT := (srt (M.map (·.1))).filterMap fun c => findM M c
theorem findM_some {M : MT} {c : Int} (h : c ∈ M.map (·.1)) : ∃ x ∈ M, findM M c = some x ∧ x.1 = c := by
  obtain ⟨y, hy, e⟩ := List.mem_map.1 h
  have : (findM M c).isSome = true := by
    unfold findM; rw [List.find?_isSome]; exact ⟨y, hy, by simpa using e⟩
  obtain ⟨x, hx⟩ := Option.isSome_iff_exists.1 this
  exact ⟨x, List.mem_of_find?_eq_some hx, hx, by simpa using List.find?_some hx⟩
theorem filterMap_all {α β : Type} (f : α → Option β) : ∀ (l : List α), (∀ x ∈ l, (f x).isSome = true) → (l.filterMap f).length = l.length
  | [], _ => rfl
  | x :: l, h => by
    obtain ⟨y, hy⟩ := Option.isSome_iff_exists.1 (h x (by simp))
    rw [List.filterMap_cons_some hy, List.length_cons, filterMap_all f l fun z hz => h z (by simp [hz]), List.length_cons]
theorem srt_mem {l : List Int} {c : Int} : c ∈ srt l ↔ c ∈ l := (srt_perm l).mem_iff
theorem sortM_len (M : MT) : (sortM M).length = M.length := by
  unfold sortM
  rw [filterMap_all _ _ fun c hc => by
    obtain ⟨x, _, hx, _⟩ := findM_some (srt_mem.1 hc)
    rw [hx]; rfl, srt_len, List.length_map]
/-- What is written behind k sessions. -/
def packK (M : MT) (k : Nat) : List UInt8 := le M.length 1 ++ ((((srt (M.map (·.1))).take k).filterMap fun c => findM M c).map entB).flatten
theorem packK_succ (M : MT) (k : Nat) (hk : k < (srt (M.map (·.1))).length) (x : Int × Int × List UInt8) (hx : findM M (srt (M.map (·.1)))[k] = some x) : packK M (k + 1) = packK M k ++ entB x := by
  unfold packK
  rw [List.take_succ_eq_append_getElem hk, List.filterMap_append, List.map_append, List.flatten_append]
  simp [hx]
theorem packK_all (M : MT) : packK M (srt (M.map (·.1))).length = packL (sortM M) := by
  unfold packK packL sortM
  rw [List.take_length]
  have := sortM_len M
  unfold sortM at this
  rw [this]
theorem entB_len (x : Int × Int × List UInt8) : (entB x).length ≤ 1007 := by
  unfold entB
  have := byt_length x.2.2
  simp [le_length]; omega
theorem flat_len (l : List (List UInt8)) (h : ∀ x ∈ l, x.length ≤ 1007) : l.flatten.length ≤ 1007 * l.length := by
  induction l with
  | nil => simp
  | cons x l ih =>
    have h1 := ih fun y hy => h y (by simp [hy])
    have h2 := h x (by simp)
    rw [List.flatten_cons, List.length_append, List.length_cons]
    omega
theorem packK_len (M : MT) (k : Nat) (hM : M.length ≤ 300) : (packK M k).length ≤ 400000 := by
  unfold packK
  rw [List.length_append, le_length]
  have h1 := flat_len ((((srt (M.map (·.1))).take k).filterMap fun c => findM M c).map entB) (fun x hx => by obtain ⟨y, _, rfl⟩ := List.mem_map.1 hx; exact entB_len y)
  have h2 := List.length_filterMap_le (fun c => findM M c) ((srt (M.map (·.1))).take k)
  have h3 : ((srt (M.map (·.1))).take k).length ≤ M.length := by
    rw [List.length_take, srt_len, List.length_map]; omega
  rw [List.length_map] at h1
  omega

set_option maxRecDepth 100000 in
set_option maxHeartbeats 2000000 in
theorem pack_some (w : World) (B bt bm c : Nat) (R : List Rec) (h : Tab w B bt (some bm) c R) (hlen : R.length ≤ 300) (hkey : ∀ r ∈ R, 0 ≤ r.key ∧ r.key ≤ 255) :
    Calls Tryz.prog 17 #[.pointer (some ⟨bt, 0, none⟩)] w fun e w' => (∃ a cap, e = .returned (.slice a (packL (sortM (R.map Rec.abs))).length cap) ∧ BytesAt (New w.heap.size) w' (.slice a (packL (sortM (R.map Rec.abs))).length cap) (packL (sortM (R.map Rec.abs)))) ∧ Fr (fun _ _ => True) w w' := by
  have HKC := Lib.hid (fun w' (f : Fr (fun _ _ => True) w w') => clients_calls w' B bt (R.map Rec.abs) (TabM.fr ⟨some bm, c, R, h, rfl⟩ f) (by simp; omega))
  have H := Lib.hid h
  have HKY := Lib.hid hkey
  obtain ⟨M, hM⟩ : ∃ M, M = R.map Rec.abs := ⟨_, rfl⟩
  have HM := Lib.hid hM
  have hML : M.length = R.length := by rw [hM, List.length_map]
  have HPL := Lib.hid (fun k => packK_len M k (by omega))
  have HSL : Hid ((srt (M.map (·.1))).length = R.length) := by rw [srt_len, List.length_map, hML]; exact rfl
  have HFI : Hid (∀ z, z ∈ srt (M.map (·.1)) → ∃ r ∈ R, findR R z = some r ∧ findM M z = some r.abs ∧ r.key = z) := fun z hz => by
    obtain ⟨x, _, hx, _⟩ := findM_some (srt_mem.1 hz)
    have hx' := hx
    rw [hM, findM_abs] at hx'
    cases hr : findR R z with
    | none => rw [hr] at hx'; cases hx'
    | some r =>
      rw [hr] at hx'
      refine ⟨r, (findR_mem hr).1, rfl, ?_, (findR_mem hr).2⟩
      rw [hx, ← Option.some.inj hx']
  have HSU : Hid (∀ k, (hk : k < (srt (M.map (·.1))).length) → ∀ x, findM M (srt (M.map (·.1)))[k] = some x → packK M (k + 1) = packK M k ++ entB x) := fun k hk x hx => packK_succ M k hk x hx
  have HPA := Lib.hid (packK_all M)
  have HP0 : Hid (packK M 0 = le R.length 1) := by unfold packK; rw [hML]; simp [Hid]
  rw [← hM] at HKC ⊢
  have hc := h.cell
  have hz := fun ty => h.len ty
  have hlt := lt_of_some h.top
  generalize packL (sortM M) = out at *
  generalize srt (M.map (·.1)) = S at *
  have hRL := hlen
  clear h hkey hM hML
  obtain ⟨N, hN⟩ : ∃ N, N = R.length := ⟨_, rfl⟩
  have HN := Lib.hid hN
  rw [← hN] at hRL hlen HSL HP0 hz
  clear hN
  obtain ⟨W1, hW1⟩ : ∃ W1, w.alloc (.cells #[.slice none 0 0] 102 (0, 0)) = W1 := ⟨_, rfl⟩
  have FW1 : Hid (Fr (fun _ _ => True) w W1) := hW1 ▸ (Fr.refl _ _).alloc _
  have L0 : Hid (LWP (fun c => c < w.heap.size) W1 w.heap.size []) := hW1 ▸ LWP.mk0 w fun c hc => hc
  have K1 := Lib.hid (lwp_number W1 w.heap.size [] N 1 N 1 rfl rfl L0.out (fun c hc => Nat.lt_of_lt_of_le hc FW1.out.size) (by omega) (by omega) (by omega) (by simp))
  have TW1 := Lib.hid (H.out.fr FW1.out)
  have c1 := TW1.out.cell
  have hz1 : ∀ ty, (Builtin.len_ #[57] ty #[.map (some bm)]).run Tryz.prog W1 = .ok (.int .i64 N) W1 := fun ty => by
    have := TW1.out.len ty
    rwa [← HN.out] at this
  clear hc hz
  go_enter Tryz.func17, Tryz.ntmps17
  go_wp2_with fail
  clear hW1
  with_reducible refine K1.out.mono ?_
  rintro e1 w1 ⟨rfl, l1, f1⟩
  rw [List.nil_append, ← HP0.out] at l1
  have L1 := Lib.hid l1
  have F1 : Hid (Fr (fun _ _ => True) w w1) := old_tt FW1.out f1 fun b _ hb => hb
  clear l1 K1 L0 c1 hz1 f1 FW1 TW1
  have K2 := Lib.hid (HKC.out w1 F1.out)
  go_wp2_with fail
  with_reducible refine K2.out.mono ?_
  rintro e1 w2 ⟨⟨v, rfl, hr⟩, f2⟩
  have F2 := Lib.hid (F1.out.trans f2)
  obtain ⟨a, cap, rfl⟩ := hr.form
  have L2 : Hid (∃ Pr : Nat → Prop, LWP Pr w2 w.heap.size (packK M 0) ∧ (∀ c, c < w.heap.size → Pr c) ∧ (∀ c, Pr c → c < w2.heap.size) ∧ IntsAt (fun c _ => Pr c) w2 (.slice a S.length cap) S) := by
    have l2 := (L1.out.more (Pr' := fun c => c < w.heap.size ∨ w1.heap.size ≤ c) fun c hc => hc).tt f2
    refine ⟨fun c => (c < w.heap.size ∨ w1.heap.size ≤ c) ∧ c < w2.heap.size, ?_, fun c hc => ⟨.inl hc, Nat.lt_of_lt_of_le hc F2.out.size⟩, fun c hc => hc.2, ?_⟩
    · obtain ⟨u, hu, hk⟩ := l2.at'
      exact ⟨fun hc => l2.new hc.1, u, hu, fun k e hc => hk k e hc.1⟩
    · obtain ⟨b0, cp, hv, hx⟩ := hr.ints
      refine ⟨b0, cp, hv, ?_⟩
      rcases hx with hx | ⟨b, off, o, ha, hb, hkb, hcc⟩
      · exact .inl hx
      · exact .inr ⟨b, off, o, ha, hb, ⟨.inr hkb, lt_of_some hb⟩, hcc⟩
  clear hr f2 K2 HKC L1 F1
  obtain ⟨Pr, l2, hP0, hP1, i2⟩ := L2.out
  have HP0' := Lib.hid hP0
  have HP1' := Lib.hid hP1
  have LL := Lib.hid l2
  have II := Lib.hid i2
  rw [HSL.out] at II ⊢
  clear L2 l2 hP0 hP1 i2
  go_wp2_with fail
  go_loopw [5, 16] (fun _ i wr => ∃ k : Nat, k ≤ N ∧ i = .int .i64 k ∧ LWP Pr wr w.heap.size (packK M k) ∧ Fr (fun c _ => Pr c) w2 wr) (fun _ i _ => N - (intOf i).toNat)
  case atStart => exact ⟨0, Nat.zero_le _, rfl, LL.out, Fr.refl _ _⟩
  case round =>
    obtain ⟨k, hk, rfl, hl, hf⟩ := hrel
    have HL := Lib.hid hl
    have HF := Lib.hid hf
    have FW : Hid (Fr (fun _ _ => True) w wr) := old_tt F2.out hf fun b _ hb => HP0'.out b hb
    have HPr : Hid (∀ c, Pr c → c < wr.heap.size) := fun c hc => Nat.lt_of_lt_of_le (HP1'.out c hc) hf.size
    clear hl hf
    by_cases hlt : k < N
    · have l1 : k < S.length := by rw [HSL.out]; exact hlt
      have iw := II.out.fr HF.out fun _ _ h => h
      obtain ⟨b0, o0, ha⟩ := iw.addr (by omega)
      subst ha
      have g1 := iw.cell l1
      obtain ⟨r, hrR, hfr, hfm, hkr⟩ := HFI.out _ (List.getElem_mem l1)
      have HSK := Lib.hid (HSU.out k l1 _ hfm)
      have hk0 := HKY.out r hrR
      have ro := H.out.each r hrR
      have lo := ro.lo
      have hi := ro.hi
      obtain ⟨key, hkey⟩ : ∃ key : Nat, r.key = (key : Int) := Int.eq_ofNat_of_zero_le hk0.1
      obtain ⟨sq, hsq⟩ : ∃ sq : Nat, r.seq = (sq : Int) := Int.eq_ofNat_of_zero_le lo
      have hkb : key ≤ 255 := by omega
      have hsb : sq < 4294967296 := by omega
      have EB : Hid (packK M (k + 1) = ((packK M k ++ le key 1) ++ le sq 4) ++ byt r.bs) := Lib.hid (by
        rw [HSK.out]; unfold entB Rec.abs; simp only [hkey, hsq, Int.toNat_natCast, List.append_assoc])
      have TF : Hid (∀ W, Fr (fun _ _ => True) w W → (Instr.lookup 57 (.map (some bm)) (.int .i64 (key : Int)) false).run Tryz.prog W = .ok (.pointer (some ⟨r.blk, 0, none⟩)) W ∧ W.cell? ⟨bt, 0, none⟩ = some (.map (some bm)) ∧ W.cell? ⟨r.blk, 0, none⟩ = some (.int .u32 (sq : Int)) ∧ W.cell? ⟨r.blk, 1, none⟩ = some r.rv ∧ BytesAt (fun c _ => Pr c) W r.rv r.bs) := fun W f => by
        have tw := H.out.fr f
        have rw' := tw.each r hrR
        have h1 := tw.lookup1 hfr
        have h2 := rw'.c0
        rw [hsq] at h2
        rw [← hkr, hkey] at h1
        exact ⟨h1, tw.cell, h2, rw'.c1, (ro.bytes.mono (K' := fun c _ => Pr c) fun b o hb _ => HP0'.out b (lt_of_some hb)).tt f⟩
      have hbl := ro.short
      have HPK := HPL.out k
      rw [← hkr, hkey] at g1
      clear hrR hfr hfm hkr hk0 HSK ro hkey hsq l1 iw lo hi
      have K1 := Lib.hid (lwp_number wr w.heap.size (packK M k) key 1 key 1 rfl rfl HL.out HPr.out (by omega) (by omega) (by omega) (by omega))
      go_wp2_with fail
      with_reducible refine K1.out.mono ?_
      rintro e1 w3 ⟨rfl, l3, f3⟩
      have L3 := Lib.hid l3
      have F3 := Lib.hid (HF.out.trans f3)
      have FW3 : Hid (Fr (fun _ _ => True) w w3) := old_tt FW.out f3 fun b _ hb => HP0'.out b hb
      have P3 : Hid (∀ c, Pr c → c < w3.heap.size) := fun c hc => Nat.lt_of_lt_of_le (HPr.out c hc) f3.size
      clear l3 f3 K1 HL HF FW HPr g1
      obtain ⟨x1, x2, x3, x4, _⟩ := TF.out w3 FW3.out
      have K1 := Lib.hid (lwp_number w3 w.heap.size (packK M k ++ le key 1) sq 4 sq 4 rfl rfl L3.out P3.out (by omega) (by omega) (by omega) (by simp [le_length]; omega))
      go_wp2_with fail
      with_reducible refine K1.out.mono ?_
      rintro e1 w4 ⟨rfl, l4, f4⟩
      have L4 := Lib.hid l4
      have F4 := Lib.hid (F3.out.trans f4)
      have FW4 : Hid (Fr (fun _ _ => True) w w4) := old_tt FW3.out f4 fun b _ hb => HP0'.out b hb
      have P4 : Hid (∀ c, Pr c → c < w4.heap.size) := fun c hc => Nat.lt_of_lt_of_le (P3.out c hc) f4.size
      clear l4 f4 K1 L3 F3 FW3 P3 x1 x2 x3 x4
      obtain ⟨x1, x2, x3, x4, x5⟩ := TF.out w4 FW4.out
      have K1 := Lib.hid (lwp_bytes w4 w.heap.size ((packK M k ++ le key 1) ++ le sq 4) r.rv r.bs L4.out P4.out x5 (by simp [le_length]; omega) (by omega))
      rw [← EB.out] at K1
      clear x5
      go_wp2_with fail
      with_reducible refine K1.out.mono ?_
      rintro e1 w5 ⟨rfl, l5, f5⟩
      have L5 := Lib.hid l5
      have F5 := Lib.hid (F4.out.trans f5)
      clear l5 f5 K1 L4 F4 FW4 P4 x1 x2 x3 x4
      go_wp2
      go_roundw
      case rel => exact ⟨k + 1, by omega, by go_num, L5.out, F5.out⟩
      case measure => simp [intOf]; omega
    · obtain rfl : k = N := by omega
      have K1 := Lib.hid (lwp_out wr w.heap.size (packK M k) HL.out (by have := HPL.out k; omega))
      rw [show packK M k = out from by rw [← HPA.out, HSL.out]] at K1
      go_wp2_with fail
      with_reducible refine K1.out.mono ?_
      rintro e1 w3 ⟨⟨a3, cap3, rfl, hb⟩, f3⟩
      have B3 : Hid (BytesAt (New w.heap.size) w3 (.slice a3 out.length cap3) out) := hb.mono fun b o _ hk => ⟨by have := hk.1; have := FW.out.size; omega, hk.2⟩
      have FW3 := Lib.hid (FW.out.trans f3)
      clear hb f3 K1
      go_wp2
      go_ret
      exact ⟨⟨_, _, rfl, B3.out⟩, FW3.out⟩

set_option maxRecDepth 100000 in
set_option maxHeartbeats 2000000 in
theorem pack_none (w : World) (B bt c : Nat) (R : List Rec) (h : Tab w B bt none c R) :
    Calls Tryz.prog 17 #[.pointer (some ⟨bt, 0, none⟩)] w fun e w' => (∃ a cap, e = .returned (.slice a (packL (sortM (R.map Rec.abs))).length cap) ∧ BytesAt (New w.heap.size) w' (.slice a (packL (sortM (R.map Rec.abs))).length cap) (packL (sortM (R.map Rec.abs)))) ∧ Fr (fun _ _ => True) w w' := by
  have hR := h.nil rfl
  subst hR
  have HKC := Lib.hid (fun w' (f : Fr (fun _ _ => True) w w') => clients_none w' B bt c [] (h.fr f))
  have EO : Hid (packL (sortM (([] : List Rec).map Rec.abs)) = le 0 1) := by unfold sortM; simp [srt_nil, packL, Hid]
  generalize packL (sortM (([] : List Rec).map Rec.abs)) = out at *
  obtain ⟨W1, hW1⟩ : ∃ W1, w.alloc (.cells #[.slice none 0 0] 102 (0, 0)) = W1 := ⟨_, rfl⟩
  have FW1 : Hid (Fr (fun _ _ => True) w W1) := hW1 ▸ (Fr.refl _ _).alloc _
  have L0 : Hid (LW w W1 w.heap.size []) := hW1 ▸ LW.mk0 (Fr.refl _ _)
  have K1 := Lib.hid (lw_number w W1 w.heap.size [] 0 1 0 1 rfl rfl L0.out (by omega) (by omega) (by omega) (by simp))
  have TW1 := Lib.hid (h.fr FW1.out)
  have c1 := TW1.out.cell
  have hz1 : ∀ ty, (Builtin.len_ #[57] ty #[.map none]).run Tryz.prog W1 = .ok (.int .i64 0) W1 := fun ty => TW1.out.len ty
  clear h
  go_enter Tryz.func17, Tryz.ntmps17
  go_wp2_with fail
  clear hW1
  with_reducible refine K1.out.mono ?_
  rintro e1 w1 ⟨rfl, l1⟩
  rw [List.nil_append, ← EO.out] at l1
  have L1 := Lib.hid l1
  clear l1 K1 L0 c1 hz1 FW1 TW1
  have K2 := Lib.hid (HKC.out w1 L1.out.fr)
  rw [List.map_nil, srt_nil] at K2
  go_wp2_with fail
  with_reducible refine K2.out.mono ?_
  rintro e1 w2 ⟨⟨v, rfl, hr⟩, f2⟩
  have L2 := Lib.hid (L1.out.tt f2)
  obtain ⟨a, cap, rfl⟩ := hr.form
  rw [List.length_nil]
  clear hr f2 K2 HKC L1
  go_wp2_with fail
  go_loop [5, 16] (fun _ i => i = .int .i64 0) (fun _ i => 0)
  case atStart => exact rfl
  case round =>
    obtain rfl := hrel
    have K1 := Lib.hid (lw_out w w2 w.heap.size out L2.out (by rw [EO.out]; simp [le_length]))
    go_wp2_with fail
    with_reducible refine K1.out.mono ?_
    rintro e1 w3 ⟨⟨a3, cap3, rfl, hb⟩, f3⟩
    have B3 : Hid (BytesAt (New w.heap.size) w3 (.slice a3 out.length cap3) out) := hb.mono fun b o _ hk => ⟨by have := hk.1; have := L2.out.fr.size; omega, hk.2⟩
    have F3 := Lib.hid f3
    clear hb f3 K1
    go_wp2
    go_ret
    exact ⟨⟨_, _, rfl, B3.out⟩, F3.out⟩
theorem pack_calls (w : World) (B bt : Nat) (M : MT) (h : TabM w B bt M) (hlen : M.length ≤ 300) (hkey : ∀ x ∈ M, 0 ≤ x.1 ∧ x.1 ≤ 255) :
    Calls Tryz.prog 17 #[.pointer (some ⟨bt, 0, none⟩)] w fun e w' => (∃ a cap, e = .returned (.slice a (packL (sortM M)).length cap) ∧ BytesAt (New w.heap.size) w' (.slice a (packL (sortM M)).length cap) (packL (sortM M))) ∧ Fr (fun _ _ => True) w w' := by
  obtain ⟨mv, c, R, h, rfl⟩ := h
  cases mv with
  | none => exact pack_none w B bt c R h
  | some bm => exact pack_some w B bt bm c R h (by simpa using hlen) fun r hr => hkey r.abs (List.mem_map_of_mem hr)
end Go.Proofs.YtlolfcnfcgegdaaGreat
/- The service: twice is once; two states side by side; Pack. -/
namespace Go.Proofs.YtlolfcnfcgegdaaGreat
open Go.RowKit
set_option linter.unusedVariables false
set_option linter.unusedSimpArgs false

/-- What stays true of the sessions. -/
structure MF (M : MT) : Prop where
  few : M.length ≤ 6
  rng : ∀ x ∈ M, 0 ≤ x.1 ∧ x.1 ≤ 15
  seq : ∀ x ∈ M, 0 ≤ x.2.1
  rep : ∀ x ∈ M, x.2.2.length ≤ 9
theorem MF.nil : MF [] := ⟨Nat.zero_le _, fun _ h => (by cases h), fun _ h => (by cases h), fun _ h => (by cases h)⟩
theorem MF.openM {M : MT} (h : MF M) (n : Int) : MF (openM M n).2 := by
  unfold Go.Proofs.YtlolfcnfcgegdaaGreat.openM
  split
  · exact h
  · split
    · exact h
    · split
      · exact h
      · rename_i h1 h2 h3
        refine ⟨by show (M ++ [_]).length ≤ 6; simp; omega, fun x hx => ?_, fun x hx => ?_, fun x hx => ?_⟩ <;>
          rcases List.mem_append.1 hx with hx | hx
        · exact h.rng x hx
        · rw [List.mem_singleton.1 hx]; exact ⟨by show 0 ≤ n; omega, by show n ≤ 15; omega⟩
        · exact h.seq x hx
        · rw [List.mem_singleton.1 hx]; exact Int.le_refl _
        · exact h.rep x hx
        · rw [List.mem_singleton.1 hx]; exact Nat.zero_le _
theorem MF.closeM {M : MT} (h : MF M) (n : Int) : MF (closeM M n).2 := by
  unfold Go.Proofs.YtlolfcnfcgegdaaGreat.closeM
  split
  · refine ⟨Nat.le_trans (List.length_filter_le _ _) h.few, fun x hx => h.rng x (List.mem_filter.1 hx).1, fun x hx => h.seq x (List.mem_filter.1 hx).1, fun x hx => h.rep x (List.mem_filter.1 hx).1⟩
  · exact h
theorem MF.setM {M : MT} (h : MF M) (n s : Int) (hs : 0 ≤ s) (b : List UInt8) (hb : b.length ≤ 9) : MF (setM M n s b) := by
  unfold Go.Proofs.YtlolfcnfcgegdaaGreat.setM
  refine ⟨by rw [List.length_map]; exact h.few, fun x hx => ?_, fun x hx => ?_, fun x hx => ?_⟩ <;>
    (obtain ⟨y, hy, rfl⟩ := List.mem_map.1 hx; split)
  · exact h.rng y hy
  · exact h.rng y hy
  · exact hs
  · exact h.seq y hy
  · exact hb
  · exact h.rep y hy
theorem MF.doneM {M : MT} (h : MF M) (n s : Int) (hs : 0 ≤ s) (b : List UInt8) : MF (doneM M n s b).2 := by
  unfold Go.Proofs.YtlolfcnfcgegdaaGreat.doneM
  split
  · exact h
  · split
    · rename_i h2; exact h.setM n s hs b h2.2
    · exact h
theorem MF.onceM {M : MT} (h : MF M) (L : Lk) (c : Cm) : MF (onceM M L c).2.1 := by
  unfold Go.Proofs.YtlolfcnfcgegdaaGreat.onceM
  split
  · exact h
  · split
    · exact h
    · exact h.doneM _ _ (Int.natCast_nonneg _) _
theorem MF.actM {M : MT} (h : MF M) (L : Lk) (c : Cmd) : MF (actM M L c).2.1 := by
  unfold Go.Proofs.YtlolfcnfcgegdaaGreat.actM
  split
  · unfold applyC
    split
    · exact h
    · split
      · exact h.openM _
      · split
        · exact h.closeM _
        · exact h.onceM _ _
  · exact h
theorem rpM_rpB {r : Rp} (hc : r.code < 256) (hv : r.val < 18446744073709551616) : rpM (rpB r) = r := by
  obtain ⟨c, v⟩ := r
  dsimp only at hc hv
  unfold rpM rpB
  have c0 := @cut_app (le c 1) (le v 8 ++ []) 1 (le_length c 1)
  have c1 := @cut_app (le v 8) [] 8 (le_length v 8)
  rw [List.append_nil] at c0
  rw [List.append_nil] at c1
  rw [numR_ge _ 1 (by simp [le_length])]
  dsimp only
  rw [c0.1, c0.2, numR_ge _ 8 (by simp [le_length]), c1.1, ofLE_le1 1 c (by omega), ofLE_le1 8 v (by omega)]
theorem findM_key {M : MT} {n : Int} {x : Int × Int × List UInt8} (h : findM M n = some x) : x ∈ M ∧ x.1 = n :=
  ⟨List.mem_of_find?_eq_some h, by simpa using List.find?_some h⟩
theorem findM_set (n s : Int) (b : List UInt8) : ∀ M : MT, (findM M n).isSome = true → findM (setM M n s b) n = some (n, s, b)
  | [], h => by cases h
  | x :: M, h => by
    have ih := findM_set n s b M
    simp only [findM, setM, List.map_cons, List.find?_cons] at ih h ⊢
    by_cases hx : x.1 = n
    · simp [hx]
    · simp only [hx, ↓reduceIte, decide_false] at h ⊢
      exact ih h
/-- What is asked twice is done once. -/
theorem once_twice {M : MT} {L : Lk} (hM : MF M) (hL : L.ok) (c : Cm) (h0 : (askM M (c.cl : Nat) (c.sq : Nat)).2.2 = 0) : onceM (onceM M L c).2.1 (onceM M L c).2.2 c = onceM M L c := by
  by_cases h1 : (askM M (c.cl : Nat) (c.sq : Nat)).2.1 = true
  · have e : onceM M L c = (rpM (askM M (c.cl : Nat) (c.sq : Nat)).1, M, L) := by unfold onceM; rw [if_neg (fun x => x h0), if_pos h1]
    rw [e]
    dsimp only
    exact e
  · have e : onceM M L c = ((opM L c).1, (doneM M (c.cl : Nat) (c.sq : Nat) (rpB (opM L c).1)).2, (opM L c).2) := by unfold onceM; rw [if_neg (fun x => x h0), if_neg h1]
    obtain ⟨f1, f2⟩ := opM_fits hL c
    have ha : askM (doneM M (c.cl : Nat) (c.sq : Nat) (rpB (opM L c).1)).2 (c.cl : Nat) (c.sq : Nat) = (rpB (opM L c).1, true, 0) := by
      cases hf : findM M (c.cl : Nat) with
      | none => unfold askM at h0; rw [hf] at h0; cases h0
      | some x =>
        unfold askM at h0 h1
        rw [hf] at h0 h1
        dsimp only at h0 h1
        by_cases hq : 0 < ((c.sq : Nat) : Int) ∧ x.2.1 = ((c.sq : Nat) : Int)
        · rw [if_pos hq] at h1; exact absurd rfl h1
        · rw [if_neg hq] at h0
          dsimp only at h0
          unfold askCode at h0
          have hn1 : ¬ ((c.sq : Nat) : Int) ≤ x.2.1 := fun q => by rw [if_pos q] at h0; cases h0
          have hn2 : ((c.sq : Nat) : Int) = x.2.1 + 1 := by
            rw [if_neg hn1] at h0
            by_cases q : ((c.sq : Nat) : Int) = x.2.1 + 1
            · exact q
            · rw [if_pos q] at h0; cases h0
          have hs := hM.seq x (findM_key hf).1
          have hd : (doneM M (c.cl : Nat) (c.sq : Nat) (rpB (opM L c).1)).2 = setM M (c.cl : Nat) (c.sq : Nat) (rpB (opM L c).1) := by
            unfold doneM
            rw [hf]
            dsimp only
            rw [if_pos ⟨hn2, by rw [rpB_len]; exact Nat.le_refl _⟩]
          rw [hd]
          unfold askM
          rw [findM_set _ _ _ _ (by rw [hf]; rfl)]
          dsimp only
          rw [if_pos ⟨by omega, rfl⟩]
    rw [e]
    dsimp only
    generalize hM' : (doneM M (c.cl : Nat) (c.sq : Nat) (rpB (opM L c).1)).2 = M' at ha ⊢
    unfold onceM
    rw [ha]
    dsimp only
    rw [if_neg (fun x => x rfl), if_pos rfl, rpM_rpB f1 f2]
theorem act_twice {M : MT} {L : Lk} (hM : MF M) (hL : L.ok) (c : Cmd) (h3 : 3 ≤ c.op) (h6 : c.op ≤ 6) (h80 : (actM M L c).1.code ≠ 80) (h81 : (actM M L c).1.code ≠ 81) (h60 : (actM M L c).1.code ≠ 60) : actM (actM M L c).2.1 (actM M L c).2.2 c = actM M L c := by
  by_cases hf : c.fine = true
  · have e : ∀ M L, actM M L c = onceM M L c.cm := fun M L => by
      have e1 : c.cm.op = c.op.toNat := rfl
      unfold actM
      rw [if_pos hf]
      unfold applyC
      rw [e1, if_neg (by omega), if_neg (by omega), if_neg (by omega)]
    rw [e] at h80 h81 h60 ⊢
    rw [e]
    refine once_twice hM hL c.cm ?_
    rcases askM_code M (c.cm.cl : Nat) (c.cm.sq : Nat) with q | q | q | q
    · exact q
    · exact absurd (by unfold onceM; rw [if_pos (by rw [q]; decide), q]; rfl) h60
    · exact absurd (by unfold onceM; rw [if_pos (by rw [q]; decide), q]; rfl) h80
    · exact absurd (by unfold onceM; rw [if_pos (by rw [q]; decide), q]; rfl) h81
  · have e : ∀ M L, actM M L c = (⟨1, 0⟩, M, L) := fun M L => by unfold actM; rw [if_neg hf]
    have e1 := e M L
    rw [e1]
    exact e M L
/-- Nothing is of both. -/
def Dis (P1 Q1 P2 Q2 : Nat → Prop) : Prop := ∀ c, U P1 Q1 c → U P2 Q2 c → False
theorem Dis.symm {P1 Q1 P2 Q2 : Nat → Prop} (h : Dis P1 Q1 P2 Q2) : Dis P2 Q2 P1 Q1 := fun c h1 h2 => h c h2 h1
section
variable {n : Nat} {P1 Q1 P2 Q2 P' Q' : Nat → Prop} {w w' : World} {s1 a1 b1 s2 a2 b2 : Nat} {M1 M2 : MT} {L1 L2 : Lk}
theorem SV.out (h : SV n P1 Q1 w s1 a1 b1 M1 L1) {c : Nat} {o : Obj} (ho : w.heap[c]? = some o) (h1 : ¬ KP c o) (h2 : ¬ Qk o) : ¬ U P1 Q1 c := fun hu => hu.elim (h.lk.out ho h1) (h.se.out ho h2)
theorem SV.here (h : SV n P1 Q1 w s1 a1 b1 M1 L1) {c : Nat} (hc : U P1 Q1 c) : c < w.heap.size := by
  rcases hc with hc | hc
  · obtain ⟨o, ho, _⟩ := h.lk.ps hc; exact lt_of_some ho
  · obtain ⟨o, ho, _⟩ := h.se.kind c hc; exact lt_of_some ho
/-- What one does leaves the other one as it was. -/
theorem SV.beside (h1 : SV n P1 Q1 w s1 a1 b1 M1 L1) (h2 : SV n P2 Q2 w s2 a2 b2 M2 L2) (k : Kp (U P1 Q1) (U P' Q') w w') (d : Dis P1 Q1 P2 Q2) : SV n P2 Q2 w' s2 a2 b2 M2 L2 ∧ Dis P' Q' P2 Q2 := by
  refine ⟨h2.frk k.fr fun c o ho hk hu => ?_, fun c hu' hu2 => ?_⟩
  · rcases hk with rfl | hp | hq | hu' | hw
    · have := h2.st
      rw [ho] at this
      cases this
      exact h1.out ho (kp_cells (by decide) (by decide)) (qk_cells (by decide) (by decide)) hu
    · exact d c hu (.inl hp)
    · exact d c hu (.inr hq)
    · rcases hu' with hu' | ⟨_, _, rfl⟩
      · have := h1.low hu; omega
      · exact h1.out ho (kp_cells (by decide) (by decide)) (qk_cells (by decide) (by decide)) hu
    · obtain ⟨_, _, rfl⟩ := hw
      exact h1.out ho (kp_cells (by decide) (by decide)) (qk_cells (by decide) (by decide)) hu
  · by_cases hu : U P1 Q1 c
    · exact d c hu hu2
    · exact k.out c (h2.here hu2) hu hu'
end
/-- The state's bytes. -/
def svB (M : MT) (L : Lk) : List UInt8 := byt (packL (sortM M)) ++ byt (lkB L)
theorem svB_len (M : MT) (L : Lk) : (svB M L).length ≤ 2004 := by
  unfold svB
  have := byt_length (packL (sortM M))
  have := byt_length (lkB L)
  rw [List.length_append]
  omega
set_option maxRecDepth 100000 in
set_option maxHeartbeats 2000000 in
theorem svpack_calls {n : Nat} {P Q : Nat → Prop} (w : World) (bs b1 b2 : Nat) (M : MT) (L : Lk) (h : SV n P Q w bs b1 b2 M L) (hM : MF M) :
    Calls Tryz.prog 12 #[.pointer (some ⟨bs, 0, none⟩)] w fun e w' => (∃ a cap, e = .returned (.slice a (svB M L).length cap) ∧ BytesAt (New w.heap.size) w' (.slice a (svB M L).length cap) (svB M L)) ∧ Fr (fun _ _ => True) w w' := by
  have H := Lib.hid h
  have ES : Hid (svB M L = ([] ++ byt (packL (sortM M))) ++ byt (lkB L)) := by show _ = _; rw [List.nil_append]; rfl
  have SL := svB_len M L
  have KM := Lib.hid (fun W (f : Fr (fun _ _ => True) w W) => pack_calls W n b1 M (H.out.fr f).se.tm (by have := hM.few; omega) fun x hx => by have := hM.rng x hx; omega)
  have KL := Lib.hid (fun W (f : Fr (fun _ _ => True) w W) => lkpack_calls W b2 L (H.out.fr f).lk)
  have hl1 : (packL (sortM M)).length ≤ 400000 := by
    rw [← packK_all]; exact packK_len M _ (by have := hM.few; omega)
  have hl2 : (lkB L).length ≤ 1000 := by have := lkK_len h.ok 4; show (lkK L 4).length ≤ _; omega
  obtain ⟨X, hX⟩ : ∃ X, packL (sortM M) = X := ⟨_, rfl⟩
  obtain ⟨Y, hY⟩ : ∃ Y, lkB L = Y := ⟨_, rfl⟩
  obtain ⟨Z, hZ⟩ : ∃ Z, svB M L = Z := ⟨_, rfl⟩
  rw [hX] at KM ES hl1
  rw [hY] at KL ES hl2
  rw [hZ] at ES SL ⊢
  clear hX hY hZ h hM
  obtain ⟨W1, hW1⟩ : ∃ W1, w.alloc (.cells #[.slice none 0 0] 102 (0, 0)) = W1 := ⟨_, rfl⟩
  have FW1 : Hid (Fr (fun _ _ => True) w W1) := hW1 ▸ (Fr.refl _ _).alloc _
  have L0 : Hid (LWP (fun c => c < w.heap.size) W1 w.heap.size []) := hW1 ▸ LWP.mk0 w fun c hc => hc
  have S1 := Lib.hid (H.out.fr FW1.out)
  have c0 := cell_mk (i := 0) S1.out.st rfl
  have c1 := cell_mk (i := 1) S1.out.st rfl
  have KM1 := Lib.hid (KM.out W1 FW1.out)
  go_enter Tryz.func12, Tryz.ntmps12
  go_wp2_with fail
  clear hW1
  with_reducible refine KM1.out.mono ?_
  rintro e1 w1 ⟨⟨a1, cp1, rfl, hb1⟩, f1⟩
  have F1 := Lib.hid (FW1.out.trans f1)
  have L1 : Hid (LWP (fun c => (c < w.heap.size ∨ W1.heap.size ≤ c) ∧ c < w1.heap.size) w1 w.heap.size []) := by
    have l2 := (L0.out.more (Pr' := fun c => c < w.heap.size ∨ W1.heap.size ≤ c) fun c hc => hc).tt f1
    obtain ⟨u, hu, hk⟩ := l2.at'
    exact ⟨fun hc => l2.new hc.1, u, hu, fun k e hc => hk k e hc.1⟩
  have B1 : Hid (BytesAt (fun c _ => (c < w.heap.size ∨ W1.heap.size ≤ c) ∧ c < w1.heap.size) w1 (.slice a1 X.length cp1) X) := hb1.mono fun c o ho hc => ⟨.inr hc.1, lt_of_some ho⟩
  have K1 := Lib.hid (lwp_bytes w1 w.heap.size [] _ X L1.out (fun c hc => hc.2) B1.out (by simp) (by omega))
  clear hb1 f1 KM1 L0 c0 c1 S1
  go_wp2_with fail
  with_reducible refine K1.out.mono ?_
  rintro e1 w2 ⟨rfl, l2, f2⟩
  have F2 : Hid (Fr (fun _ _ => True) w w2) := old_tt F1.out f2 fun b _ hb => ⟨.inl hb, Nat.lt_of_lt_of_le hb F1.out.size⟩
  have L2 := Lib.hid (l2.more (Pr' := fun c => c < w.heap.size) fun c hc => .inl ⟨.inl hc, Nat.lt_of_lt_of_le hc F1.out.size⟩)
  clear l2 f2 K1 B1 L1 F1 FW1
  have S2 := Lib.hid (H.out.fr F2.out)
  have c0 := cell_mk (i := 0) S2.out.st rfl
  have c1 := cell_mk (i := 1) S2.out.st rfl
  have KL1 := Lib.hid (KL.out w2 F2.out)
  go_wp2_with fail
  with_reducible refine KL1.out.mono ?_
  rintro e1 w3 ⟨⟨a3, cp3, rfl, hb3⟩, f3⟩
  have F3 := Lib.hid (F2.out.trans f3)
  have LX := byt_length X
  have L3 : Hid (LWP (fun c => (c < w.heap.size ∨ w2.heap.size ≤ c) ∧ c < w3.heap.size) w3 w.heap.size ([] ++ byt X)) := by
    have l2 := (L2.out.more (Pr' := fun c => c < w.heap.size ∨ w2.heap.size ≤ c) fun c hc => hc).tt f3
    obtain ⟨u, hu, hk⟩ := l2.at'
    exact ⟨fun hc => l2.new hc.1, u, hu, fun k e hc => hk k e hc.1⟩
  have B3 : Hid (BytesAt (fun c _ => (c < w.heap.size ∨ w2.heap.size ≤ c) ∧ c < w3.heap.size) w3 (.slice a3 Y.length cp3) Y) := hb3.mono fun c o ho hc => ⟨.inr hc.1, lt_of_some ho⟩
  have K1 := Lib.hid (lwp_bytes w3 w.heap.size _ _ Y L3.out (fun c hc => hc.2) B3.out (by rw [List.nil_append]; omega) (by omega))
  rw [← ES.out] at K1
  clear hb3 f3 KL1 L2 c0 c1 S2
  go_wp2_with fail
  with_reducible refine K1.out.mono ?_
  rintro e1 w4 ⟨rfl, l4, f4⟩
  have F4 : Hid (Fr (fun _ _ => True) w w4) := old_tt F3.out f4 fun b _ hb => ⟨.inl hb, Nat.lt_of_lt_of_le hb F3.out.size⟩
  have K4 := Lib.hid (lwp_out w4 w.heap.size Z l4 (by omega))
  clear l4 f4 K1 B3 L3 F3 F2
  go_wp2_with fail
  with_reducible refine K4.out.mono ?_
  rintro e1 w5 ⟨⟨a5, cp5, rfl, hb⟩, f5⟩
  have B5 : Hid (BytesAt (New w.heap.size) w5 (.slice a5 Z.length cp5) Z) := hb.mono fun b o _ hk => ⟨by have := hk.1; have := F4.out.size; omega, hk.2⟩
  have F5 := Lib.hid (F4.out.trans f5)
  clear hb f5 K4
  go_wp2
  go_ret
  exact ⟨⟨_, _, rfl, B5.out⟩, F5.out⟩
end Go.Proofs.YtlolfcnfcgegdaaGreat
/- The locks: what stays true of tokens and of modes; what is packed is unpacked. -/
namespace Go.Proofs.YtlolfcnfcgegdaaGreat
open Go.RowKit
set_option linter.unusedVariables false
set_option linter.unusedSimpArgs false

def tkR (r : Rgn) : List Nat := r.hs.map (·.t)
def exR (hs : List Ho) : Prop := 1 < hs.length → ∀ h ∈ hs, h.m ≠ 2
structure Lk.ok2 (L : Lk) : Prop where
  pos : ∀ t ∈ L.rs.flatMap tkR, 0 < t ∧ t ≤ L.last
  nd : (L.rs.flatMap tkR).Nodup
  ex : ∀ r ∈ L.rs, exR r.hs
theorem set_tks {f : Rgn → List Nat} {r' : Rgn} : ∀ (rs : List Rgn) (i : Nat), (∀ r, rs[i]? = some r → (f r').Sublist (f r)) → ((rs.set i r').flatMap f).Sublist (rs.flatMap f)
  | [], _, _ => by simp
  | r :: rs, 0, h => by
    simp only [List.set_cons_zero, List.flatMap_cons]
    exact (h r rfl).append (List.Sublist.refl _)
  | r :: rs, i + 1, h => by
    simp only [List.set_cons_succ, List.flatMap_cons]
    exact (List.Sublist.refl _).append (set_tks rs i h)
theorem set_tks_add {f : Rgn → List Nat} {r' : Rgn} {x : List Nat} : ∀ (rs : List Rgn) (i : Nat) (r : Rgn), rs[i]? = some r → f r' = f r ++ x → ((rs.set i r').flatMap f).Perm (x ++ rs.flatMap f)
  | [], _, _, h, _ => by simp at h
  | r0 :: rs, 0, r, h, hf => by
    simp only [List.getElem?_cons_zero, Option.some.injEq] at h
    subst h
    simp only [List.set_cons_zero, List.flatMap_cons]
    rw [hf]
    exact (List.perm_append_comm.append_right _).trans (by rw [List.append_assoc])
  | r0 :: rs, i + 1, r, h, hf => by
    simp only [List.set_cons_succ, List.flatMap_cons]
    have := set_tks_add rs i r (by simpa using h) hf
    refine (this.append_left _).trans ?_
    rw [← List.append_assoc, ← List.append_assoc]
    exact List.perm_append_comm.append_right _
theorem rg_get {L : Lk} {i : Nat} (hi : i < L.rs.length) : L.rs[i]? = some (L.rg i) := by
  unfold Lk.rg
  rw [List.getD_eq_getElem?_getD, List.getElem?_eq_getElem hi]; rfl
theorem Lk.ok2.put {L : Lk} (h : L.ok2) {i : Nat} {r' : Rgn} {n : Nat} (h1 : i < L.rs.length → (tkR r').Sublist (tkR (L.rg i))) (h2 : exR r'.hs) : Lk.ok2 ⟨n, L.last, L.rs.set i r'⟩ := by
  by_cases hi : i < L.rs.length
  · have s : ((L.rs.set i r').flatMap tkR).Sublist (L.rs.flatMap tkR) := set_tks L.rs i fun r e => by
      rw [rg_get hi] at e
      cases e
      exact h1 hi
    exact ⟨fun t ht => h.pos t (s.subset ht), s.nodup h.nd, fun r hr => by
      rcases List.mem_or_eq_of_mem_set hr with hr | rfl
      · exact h.ex r hr
      · exact h2⟩
  · have e : L.rs.set i r' = L.rs := List.set_eq_of_length_le (by omega)
    rw [e]
    exact ⟨h.pos, h.nd, h.ex⟩
theorem giveL_app (now : Nat) : ∀ (ws : List Wa) (last : Nat) (hs : List Ho), exR hs → ∃ x : List Ho, (giveL now last hs ws).2.1 = hs ++ x ∧ exR (giveL now last hs ws).2.1 ∧ last ≤ (giveL now last hs ws).1 ∧ (x.map (·.t)).Nodup ∧ ∀ h ∈ x, last < h.t ∧ h.t ≤ (giveL now last hs ws).1
  | [], last, hs, he => ⟨[], by simp [giveL], he, Nat.le_refl _, List.nodup_nil, fun h hh => by cases hh⟩
  | w :: ws, last, hs, he => by
    unfold giveL
    split
    · rename_i hc
      have hb : ∀ h ∈ hs, h.m ≠ 2 ∧ w.m ≠ 2 := fun h hh => by
        have := hc.2.1
        unfold bearsM at this
        simp only [Bool.not_eq_true', List.any_eq_false, Bool.or_eq_true, decide_eq_true_eq, not_or] at this
        exact this h hh
      have he' : exR (hs ++ [⟨w.c, w.m, last + 1, untilM now⟩]) := fun hl h hh => by
        have hlen : 0 < hs.length := by simp at hl; exact hl
        obtain ⟨h0, hh0⟩ := List.exists_mem_of_length_pos hlen
        rcases List.mem_append.1 hh with q | q
        · exact (hb h q).1
        · rw [List.mem_singleton.1 q]; exact (hb h0 hh0).2
      obtain ⟨x, e1, e2, e3, e4, e5⟩ := giveL_app now ws (last + 1) _ he'
      refine ⟨⟨w.c, w.m, last + 1, untilM now⟩ :: x, by rw [e1]; simp, e2, by omega, ?_, fun h hh => ?_⟩
      · rw [List.map_cons, List.nodup_cons]
        refine ⟨fun q => ?_, e4⟩
        obtain ⟨y, hy, ey⟩ := List.mem_map.1 q
        have := (e5 y hy).1
        have ey' : y.t = last + 1 := ey
        omega
      · rcases List.mem_cons.1 hh with rfl | hh
        · exact ⟨by show last < last + 1; omega, e3⟩
        · have := e5 h hh; exact ⟨by omega, this.2⟩
    · exact ⟨[], by simp, he, Nat.le_refl _, List.nodup_nil, fun h hh => by cases hh⟩
theorem Lk.ok2.give {L : Lk} (h : L.ok2) (i : Nat) (hi : i < L.rs.length) : (L.give i).ok2 := by
  obtain ⟨x, e1, e2, e3, e4, e5⟩ := giveL_app L.now (L.rg i).ws L.last (L.rg i).hs (h.ex _ (List.mem_of_getElem? (rg_get hi)))
  have hp : ((L.rs.set i ⟨(giveL L.now L.last (L.rg i).hs (L.rg i).ws).2.1, (giveL L.now L.last (L.rg i).hs (L.rg i).ws).2.2⟩).flatMap tkR).Perm (x.map (·.t) ++ L.rs.flatMap tkR) :=
    set_tks_add L.rs i (L.rg i) (rg_get hi) (by show (giveL L.now L.last (L.rg i).hs (L.rg i).ws).2.1.map (·.t) = _; rw [e1, List.map_append]; rfl)
  refine ⟨fun t ht => ?_, ?_, fun r hr => ?_⟩
  · rcases List.mem_append.1 (hp.mem_iff.1 ht) with q | q
    · obtain ⟨y, hy, rfl⟩ := List.mem_map.1 q
      have := e5 y hy
      exact ⟨by omega, this.2⟩
    · have := h.pos t q
      exact ⟨this.1, Nat.le_trans this.2 e3⟩
  · refine hp.nodup_iff.2 (List.nodup_append.2 ⟨e4, h.nd, fun a ha b hb e => ?_⟩)
    obtain ⟨y, hy, rfl⟩ := List.mem_map.1 ha
    have := e5 y hy
    have := h.pos b hb
    have e' : y.t = b := e
    omega
  · rcases List.mem_or_eq_of_mem_set hr with hr | rfl
    · exact h.ex r hr
    · exact e2
theorem give_four {L : Lk} (i : Nat) : (L.give i).rs.length = L.rs.length := give_len
theorem ex_sub {hs hs' : List Ho} (h : exR hs) (s : hs'.Sublist hs) : exR hs' := fun hl x hx => h (Nat.lt_of_lt_of_le hl s.length_le) x (s.subset hx)
theorem Lk.ok2.exg {L : Lk} (h : L.ok2) (i : Nat) : exR (L.rg i).hs := by
  by_cases hi : i < L.rs.length
  · exact h.ex _ (List.mem_of_getElem? (rg_get hi))
  · unfold Lk.rg; rw [List.getD_eq_getElem?_getD, List.getElem?_eq_none (by omega)]; intro hl; simp at hl
theorem right_r {c r : Nat} (h : ¬ rightM c r ≠ 0) : r < 4 := by
  unfold rightM at h
  split at h
  · exact absurd (by decide) h
  · split at h
    · exact absurd (by decide) h
    · omega
theorem Lk.ok2.acquire {L : Lk} (h : L.ok2) (h4 : L.rs.length = 4) (c r how : Nat) : (acquireM L c r how).2.ok2 := by
  unfold acquireM
  split
  · exact h
  · rename_i hr
    split
    · exact h
    · split
      · split <;> exact h
      · split
        · split <;> exact h
        · split
          · exact h
          · have hp : (L.put r ⟨(L.rg r).hs, (L.rg r).ws ++ [⟨c, how⟩]⟩).ok2 := h.put (fun _ => List.Sublist.refl _) (h.exg r)
            have hg : ((L.put r ⟨(L.rg r).hs, (L.rg r).ws ++ [⟨c, how⟩]⟩).give r).ok2 := Lk.ok2.give hp r (by rw [put_len, h4]; exact right_r hr)
            split <;> exact hg
theorem Lk.ok2.release {L : Lk} (h : L.ok2) (h4 : L.rs.length = 4) (c r t : Nat) : (releaseM L c r t).2.ok2 := by
  unfold releaseM
  split
  · exact h
  · rename_i hr
    have hr4 : r < 4 := by
      refine right_r (c := c) fun q => hr ?_
      unfold heldM
      rw [if_pos q]
      exact q
    have hp : (L.put r ⟨(L.rg r).hs.eraseIdx (heldM L c r t).1, (L.rg r).ws⟩).ok2 := h.put (fun _ => (eraseIdx_sub (L.rg r).hs (heldM L c r t).1).map fun x : Ho => x.t) (ex_sub (h.exg r) (eraseIdx_sub _ _))
    exact Lk.ok2.give hp r (by rw [put_len, h4]; exact hr4)
theorem Lk.ok2.cancel {L : Lk} (h : L.ok2) (h4 : L.rs.length = 4) (c r : Nat) : (cancelM L c r).2.ok2 := by
  unfold cancelM
  split
  · exact h
  · rename_i hr
    split
    · rename_i w _
      have hp : (L.put r ⟨(L.rg r).hs, (L.rg r).ws.eraseIdx w⟩).ok2 := h.put (fun _ => List.Sublist.refl _) (h.exg r)
      exact Lk.ok2.give hp r (by rw [put_len, h4]; exact right_r hr)
    · exact h
theorem map_modify {α β : Type} (f : α → β) (g : α → α) (hg : ∀ x, f (g x) = f x) : ∀ (l : List α) (i : Nat), (l.modify i g).map f = l.map f
  | [], i => by simp
  | x :: l, 0 => by simp [hg]
  | x :: l, i + 1 => by simp [map_modify f g hg l i]
theorem Lk.ok2.renew {L : Lk} (h : L.ok2) (c r t : Nat) : (renewM L c r t).2.ok2 := by
  unfold renewM
  split
  · exact h
  · refine h.put (fun _ => ?_) fun hl x hx => ?_
    · show ((((L.rg r).hs.modify _ _)).map (·.t)).Sublist _
      rw [map_modify (fun x : Ho => x.t) (fun h : Ho => { h with u := untilM L.now }) (fun _ => rfl)]
      exact List.Sublist.refl _
    · have e := map_modify (fun x : Ho => x.m) (fun h : Ho => { h with u := untilM L.now }) (fun _ => rfl) (L.rg r).hs (heldM L c r t).1
      have hm : x.m ∈ (L.rg r).hs.map (fun x : Ho => x.m) := by rw [← e]; exact List.mem_map_of_mem (f := fun x : Ho => x.m) hx
      obtain ⟨y, hy, ey⟩ := List.mem_map.1 hm
      have hl' : 1 < (L.rg r).hs.length := by simpa using hl
      have := h.exg r hl' y hy
      have ey' : y.m = x.m := ey
      rw [← ey']; exact this
theorem flat_map_sub (f : Rgn → Rgn) (hf : ∀ r, (tkR (f r)).Sublist (tkR r)) : ∀ rs : List Rgn, ((rs.map f).flatMap tkR).Sublist (rs.flatMap tkR)
  | [] => List.Sublist.refl _
  | r :: rs => by
    simp only [List.map_cons, List.flatMap_cons]
    exact (hf r).append (flat_map_sub f hf rs)
theorem Lk.ok2.time {L : Lk} (h : L.ok2) (h4 : L.rs.length = 4) (n : Nat) : (timeM L n).ok2 := by
  unfold timeM
  split
  · exact h
  · have s := flat_map_sub (dropM n) (fun r => List.filter_sublist.map _) L.rs
    have h1 : Lk.ok2 ⟨n, L.last, L.rs.map (dropM n)⟩ := ⟨fun t ht => h.pos t (s.subset ht), s.nodup h.nd, fun x hx => by
      obtain ⟨r, hr, rfl⟩ := List.mem_map.1 hx
      exact ex_sub (h.ex r hr) List.filter_sublist⟩
    have l0 : (⟨n, L.last, L.rs.map (dropM n)⟩ : Lk).rs.length = 4 := by simpa using h4
    have a0 := h1.give 0 (by rw [l0]; decide)
    have a1 := a0.give 1 (by rw [give_four, l0]; decide)
    have a2 := a1.give 2 (by rw [give_four, give_four, l0]; decide)
    exact a2.give 3 (by rw [give_four, give_four, give_four, l0]; decide)
theorem leave_both {L : Lk} (h : L.ok) (h2 : L.ok2) (c r : Nat) : (leaveR L c r).ok ∧ (leaveR L c r).ok2 := by
  refine ⟨h.leaveR c r, ?_⟩
  unfold Go.Proofs.YtlolfcnfcgegdaaGreat.leaveR
  suffices ∀ (hs : List Ho) (L : Lk), L.ok → L.ok2 → (hs.foldl (fun L h => if h.c = c then (releaseM L c r h.t).2 else L) L).ok ∧ (hs.foldl (fun L h => if h.c = c then (releaseM L c r h.t).2 else L) L).ok2 from
    (this _ _ h h2).2.cancel (this _ _ h h2).1.four c r
  intro hs
  induction hs with
  | nil => exact fun L h h2 => ⟨h, h2⟩
  | cons x hs ih =>
    intro L h h2
    refine ih _ ?_ ?_
    · show Lk.ok (if x.c = c then _ else _)
      split
      · exact h.release _ _ _
      · exact h
    · show Lk.ok2 (if x.c = c then _ else _)
      split
      · exact h2.release h.four _ _ _
      · exact h2
theorem Lk.ok2.leave {L : Lk} (h : L.ok) (h2 : L.ok2) (c : Nat) : (leaveM L c).ok2 := by
  have a := leave_both h h2 c 0
  have b := leave_both a.1 a.2 c 1
  have d := leave_both b.1 b.2 c 2
  exact (leave_both d.1 d.2 c 3).2
theorem Lk.ok2.op {L : Lk} (h : L.ok) (h2 : L.ok2) (c : Cm) : (opM L c).2.ok2 := by
  unfold opM
  split
  · exact h2.acquire h.four _ _ _
  · split
    · exact h2.release h.four _ _ _
    · split
      · exact h2.renew _ _ _
      · exact h2.cancel h.four _ _
theorem Lk.ok2.act {M : MT} {L : Lk} (h : L.ok) (h2 : L.ok2) (c : Cmd) : (actM M L c).2.2.ok2 := by
  unfold actM
  split
  · unfold applyC
    split
    · exact h2.time h.four _
    · split
      · exact h2
      · split
        · dsimp only
          split
          · exact Lk.ok2.leave h h2 _
          · exact h2
        · unfold onceM
          split
          · exact h2
          · split
            · exact h2
            · exact Lk.ok2.op h h2 _
  · exact h2
theorem Lk.new_ok2 : Lk.new.ok2 := ⟨fun t ht => by simp [Lk.new, tkR] at ht, by simp [Lk.new, tkR], fun r hr => by
  have : r = ⟨[], []⟩ := by simp [Lk.new] at hr; exact hr
  subst this
  intro hl; simp at hl⟩
end Go.Proofs.YtlolfcnfcgegdaaGreat
