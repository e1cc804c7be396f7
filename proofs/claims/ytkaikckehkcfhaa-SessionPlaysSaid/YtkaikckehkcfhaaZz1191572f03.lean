/- Texts of the proofs, part 12: what the functions that they reach do, walked; no conditions beyond those that each states. -/
import Derived.Test.YtkaikckehkcfhaaZz8b42da0a5d
set_option linter.unusedVariables false
set_option linter.unusedSimpArgs false
/- The sessions' table out of bytes: the walk. -/
namespace Go.Proofs.Ytkaikckehkcfhaa
open Go.RowKit
set_option linter.unusedVariables false
set_option linter.unusedSimpArgs false

theorem uStep_eq (s : US) {c sq : Nat} {r1 r2 r3 bb : List UInt8} {s1 s2 s3 : Bool} (h1 : numR s.bs s.sh 1 = (c, r1, s1)) (h2 : numR r1 s1 4 = (sq, r2, s2)) (h3 : bytR r2 s2 = (bb, r3, s3)) :
    uStep s = ⟨r3, s3, c, s.wrong || (decide ((c : Int) ≤ s.last) || (decide (16 ≤ c) || decide (9 < bb.length))), s.L ++ [((c : Int), (sq : Int), bb)]⟩ := by
  unfold uStep uB uC uS
  simp only [h1, h2, h3]
theorem Half.start {w : World} (B : Nat) (hB : B ≤ w.heap.size) (K : Obj) : Half B w (((w.alloc K).alloc (.map #[] 0)).alloc (.cells #[.map (some (w.heap.size + 1))] 27 (0, 0))) (w.heap.size + 2) (w.heap.size + 1) false (-1) [] := by
  have z1 : (w.alloc K).heap.size = w.heap.size + 1 := by simp
  have z2 : ((w.alloc K).alloc (.map #[] 0)).heap.size = w.heap.size + 2 := by simp
  have h2 := heap_alloc_at z2 (.cells #[.map (some (w.heap.size + 1))] 27 (0, 0))
  have h1 := heap_alloc_lt (heap_alloc_at z1 (.map #[] 0)) (.cells #[.map (some (w.heap.size + 1))] 27 (0, 0))
  refine ⟨h2, ⟨by omega, by omega⟩, hB, [], 0, h1, ⟨List.nodup_nil, fun x hx => by cases hx⟩, fun _ => ⟨[], rfl, ?_, rfl, fun r hr => by cases hr⟩⟩
  exact ⟨h2, by omega, (fun e => by cases e), fun b e => by cases e; exact ⟨by omega, h1⟩, (fun r hr => by cases hr), List.nodup_nil, List.nodup_nil, List.nodup_nil, fun r hr => by cases hr⟩
theorem Half.tab {B : Nat} {W0 w : World} {bt bm : Nat} {last : Int} {L : MT} (h : Half B W0 w bt bm false last L) : TabM w B bt L := by
  obtain ⟨l, c, a, b, d⟩ := h.map
  obtain ⟨R, rfl, h5, h6, h7⟩ := d rfl
  exact ⟨some bm, c, R, h5, h6⟩

set_option maxRecDepth 100000 in
set_option maxHeartbeats 4000000 in
theorem unpack_callsB {K : Nat → Obj → Prop} (B : Nat) (w : World) (hB : B ≤ w.heap.size) (v : Value) (bs : List UInt8) (hb : BytesAt K w v bs) (hm : bs.length ≤ 100000) (code : Int) (M : MT) (hr : unpM bs = (code, M)) :
    Calls Try.prog 13 #[v] w fun e w' => ((code ≠ 0 ∧ e = .returned (.tuple #[.pointer none, .int .i64 code])) ∨ (code = 0 ∧ ∃ bt, e = .returned (.tuple #[.pointer (some ⟨bt, 0, none⟩), .int .i64 0]) ∧ TabM w' B bt M)) ∧ Fr (fun _ _ => True) w w' := by
  obtain ⟨a, cap, rfl⟩ := hb.form
  have K0 := Lib.hid (read_calls w a bs.length cap)
  have HLR : Hid (LR w (w.alloc (.cells #[.slice a bs.length cap, .bool false] 79 (0, 0))) w.heap.size bs false) := LR.mk0 (Fr.refl _ _) hb
  have HH := Lib.hid (Half.start (w := w) B hB (.cells #[.slice a bs.length cap, .bool false] 79 (0, 0)))
  obtain ⟨n, q, s0, hn⟩ : ∃ n q s0, numR bs false 1 = (n, q, s0) := ⟨_, _, _, rfl⟩
  have hn256 : n < 256 := by have := numR_lt bs false 1; rw [hn] at this; simpa using this
  have hql : q.length ≤ 100000 := by have := numR_len bs false 1; rw [hn] at this; exact Nat.le_trans this hm
  obtain ⟨S, hS⟩ : ∃ S : US, S = ⟨q, s0, -1, false, []⟩ := ⟨_, rfl⟩
  have HS0 : Hid (uRun S 0 = ⟨q, s0, -1, false, []⟩) := hS
  have HUL : Hid (∀ k, (uRun S k).bs.length ≤ 100000) := fun k => by have := uRun_len S k; rw [hS] at this ⊢; exact Nat.le_trans this hql
  have HUS : Hid (∀ k, uRun S (k + 1) = uStep (uRun S k)) := fun k => rfl
  have HR : Hid ((if endL (uRun S n).bs (uRun S n).sh = 0 ∧ ((uRun S n).wrong = true ∨ 6 < n) then ((1 : Int), ([] : MT)) else if endL (uRun S n).bs (uRun S n).sh = 0 then (0, (uRun S n).L) else (endL (uRun S n).bs (uRun S n).sh, [])) = (code, M)) := by
    have e1 : uFirst bs = S := by rw [hS]; unfold uFirst; rw [hn]
    have := hr
    unfold unpM uEnd at this
    rw [e1, hn] at this
    exact this
  have HN := Lib.hid hn
  clear hb hr hn hS
  have hmm := @run_makeMap Try.prog
  go_enter Try.func13, Try.ntmps13
  go_wp2_with fail
  with_reducible refine K0.out.mono ?_
  rintro e1 w1 ⟨rfl, hw1⟩
  have L1 : Hid (LR w w1 w.heap.size bs false) := hw1 ▸ HLR.out
  have z1 : w1.heap.size = w.heap.size + 1 := by rw [hw1]; simp
  have H3 : Hid (Half B w ((w1.alloc (.map #[] 0)).alloc (.cells #[.map (some (w.heap.size + 1))] 27 (0, 0))) (w.heap.size + 2) (w.heap.size + 1) false (-1) []) := hw1 ▸ HH.out
  have L3 : Hid (LR w ((w1.alloc (.map #[] 0)).alloc (.cells #[.map (some (w.heap.size + 1))] 27 (0, 0))) w.heap.size bs false) := (L1.out.tt ((Fr.refl _ _).alloc _)).tt ((Fr.refl _ _).alloc _)
  clear hw1 HH HLR K0 L1
  obtain ⟨W3, hW3⟩ : ∃ W3, (w1.alloc (.map #[] 0)).alloc (.cells #[.map (some (w.heap.size + 1))] 27 (0, 0)) = W3 := ⟨_, rfl⟩
  rw [hW3] at H3 L3
  have K1 := Lib.hid (lr_number w W3 w.heap.size bs false 1 1 rfl L3.out (by omega) (by omega) (by omega) n q s0 HN.out)
  have z2 : (w1.alloc (.map #[] 0)).heap.size = w.heap.size + 2 := by simp [z1]
  go_wp2_with fail
  clear hW3 hmm
  with_reducible refine K1.out.mono ?_
  rintro e1 w4 ⟨rfl, l4, f4⟩
  have L4 : Hid (LR w w4 w.heap.size (uRun S 0).bs (uRun S 0).sh) := by rw [HS0.out]; exact l4
  have H4 : Hid (Half B w w4 (w.heap.size + 2) (w.heap.size + 1) (uRun S 0).wrong (uRun S 0).last (uRun S 0).L) := by rw [HS0.out]; exact H3.out.other L3.out f4
  clear l4 f4 K1 H3 L3 z1 z2
  generalize w.heap.size + 2 = bt at *
  generalize w.heap.size + 1 = bm at *
  obtain ⟨br, hbr⟩ : ∃ br, br = w.heap.size := ⟨_, rfl⟩
  rw [← hbr] at L4 ⊢
  clear hbr
  go_wp2_with fail
  go_loopw [7, 8, 9, 10, 21] (fun la wg _ _ i wr => ∃ k : Nat, k ≤ n ∧ i = .int .i64 k ∧ la = .int .i64 (uRun S k).last ∧ wg = .bool (uRun S k).wrong ∧ LR w wr br (uRun S k).bs (uRun S k).sh ∧ Half B w wr bt bm (uRun S k).wrong (uRun S k).last (uRun S k).L) (fun _ _ _ _ i _ => n - (intOf i).toNat)
  case atStart => exact ⟨0, Nat.zero_le _, rfl, by rw [HS0.out], by rw [HS0.out], L4.out, H4.out⟩
  case round =>
    obtain ⟨k, hk, rfl, rfl, rfl, hl, hh⟩ := hrel
    have HL := Lib.hid hl
    have HH := Lib.hid hh
    clear hl hh
    by_cases hlt : k < n
    · have HU := Lib.hid (HUS.out k)
      have hub := HUL.out k
      generalize uRun S k = s at *
      obtain ⟨c, r1, s1, h1⟩ : ∃ c r1 s1, numR s.bs s.sh 1 = (c, r1, s1) := ⟨_, _, _, rfl⟩
      obtain ⟨sq, r2, s2, h2⟩ : ∃ sq r2 s2, numR r1 s1 4 = (sq, r2, s2) := ⟨_, _, _, rfl⟩
      obtain ⟨bb, r3, s3, h3⟩ : ∃ bb r3 s3, bytR r2 s2 = (bb, r3, s3) := ⟨_, _, _, rfl⟩
      have hc256 : c < 256 := by have := numR_lt s.bs s.sh 1; rw [h1] at this; simpa using this
      have hsq : sq < 4294967296 := by have := numR_lt r1 s1 4; rw [h2] at this; simpa using this
      have g1 : r1.length ≤ 100000 := by have := numR_len s.bs s.sh 1; rw [h1] at this; exact Nat.le_trans this hub
      have g2 : r2.length ≤ 100000 := by have := numR_len r1 s1 4; rw [h2] at this; exact Nat.le_trans this g1
      have g3 : bb.length ≤ 1000 := by have := (bytR_len r2 s2).2; rw [h3] at this; exact this
      rw [uStep_eq s h1 h2 h3] at HU
      have N1 := Lib.hid h1
      have N2 := Lib.hid h2
      have N3 := Lib.hid h3
      clear h1 h2 h3
      have K1 := Lib.hid (lr_number w wr br s.bs s.sh 1 1 rfl HL.out (by omega) (by omega) (by omega) c r1 s1 N1.out)
      go_wp2_with fail
      with_reducible refine K1.out.mono ?_
      rintro e1 w5 ⟨rfl, l5, f5⟩
      have L5 := Lib.hid l5
      have H5 := Lib.hid (HH.out.other HL.out f5)
      clear l5 f5 K1 HL HH
      have K1 := Lib.hid (lr_number w w5 br r1 s1 4 4 rfl L5.out (by omega) (by omega) (by omega) sq r2 s2 N2.out)
      go_wp2_with fail
      with_reducible refine K1.out.mono ?_
      rintro e1 w6 ⟨rfl, l6, f6⟩
      have L6 := Lib.hid l6
      have H6 := Lib.hid (H5.out.other L5.out f6)
      clear l6 f6 K1 L5 H5
      have K1 := Lib.hid (lr_bytes w w6 br r2 s2 L6.out (by omega) bb r3 s3 N3.out)
      go_wp2_with fail
      with_reducible refine K1.out.mono ?_
      rintro e1 w7 ⟨⟨xa, xc, rfl, hbx⟩, l7, f7⟩
      have L7 := Lib.hid l7
      have H7 := Lib.hid (H6.out.other L6.out f7)
      have B7 := Lib.hid hbx
      have hz7 := f7.size
      clear l7 f7 K1 L6 H6 hbx N1 N2 N3
      obtain ⟨W8, hW8⟩ : ∃ W8, w7.alloc (.cells #[.int .u32 (sq : Int), .slice xa bb.length xc] 61 (0, 0)) = W8 := ⟨_, rfl⟩
      have F8 : Hid (Fr (fun _ _ => True) w7 W8) := hW8 ▸ (Fr.refl _ _).alloc _
      have X8 : Hid (W8.heap[w7.heap.size]? = some (.cells #[.int .u32 (sq : Int), .slice xa bb.length xc] 61 (0, 0))) := hW8 ▸ heap_alloc_new _ _
      have B8 : Hid (BytesAt (KT B) W8 (.slice xa bb.length xc) bb) := (B7.out.mono fun _ _ _ h => KT.new h).tt F8.out
      have L8 := Lib.hid (L7.out.tt F8.out)
      have c8 := cell_mk (i := 1) X8.out rfl
      have t8 : W8.cell? ⟨bt, 0, none⟩ = some (.map (some bm)) := cell_mk (F8.out.keep _ _ H7.out.top trivial) rfl
      obtain ⟨wg', hwg'⟩ : ∃ wg', wg' = (s.wrong || (decide ((c : Int) ≤ s.last) || (decide (16 ≤ c) || decide (9 < bb.length)))) := ⟨_, rfl⟩
      rw [← hwg'] at HU
      obtain ⟨y, b, l1, l2, c1, e1, e2, h9, f9⟩ := H7.out.store (wr' := wg') (n := (c : Int)) (s := (sq : Int)) (bs := bb) X8.out (Nat.le_refl _) F8.out (by omega) (by omega) B8.out L7.out.fr (fun e => by
        rw [e] at hwg'
        have := hwg'.symm
        simp only [Bool.or_eq_false_iff, decide_eq_false_iff_not] at this
        exact ⟨this.1, by omega, by omega⟩)
      have L9 : Hid (LR w ((W8.putObj bm (.map (entriesOf .i64 l1) c1)).putObj bm (.map (entriesOf .i64 l2) c1)) br r3 s3) := L8.out.other f9 (fun o e => by
        obtain ⟨v, hv⟩ := L8.out.at'
        have hm : ∃ es cc, W8.heap[bm]? = some (.map es cc) := by
          obtain ⟨l, cc, a, _⟩ := H7.out.map
          exact ⟨_, _, F8.out.keep _ _ a trivial⟩
        obtain ⟨es, cc, hm⟩ := hm
        have := hv.top
        rw [e, hm] at this
        cases this) (fun q o hq e => by have := H7.out.new.2; omega)
      have H9 := Lib.hid h9
      have HW' := Lib.hid hwg'
      clear h9 f9 hwg' B7 L7 H7 F8 X8 B8 L8
      generalize s.wrong = w0 at *
      generalize s.last = la at *
      have hbl : bb.length ≤ 1000 := g3
      generalize hBL : bb.length = BL at *
      have HBL := Lib.hid hBL
      clear hBL
      have cases5 : (w0 = true ∧ wg' = true) ∨ (w0 = false ∧ (c : Int) ≤ la ∧ wg' = true) ∨ (w0 = false ∧ ¬ (c : Int) ≤ la ∧ (16 : Int) ≤ c ∧ wg' = true) ∨ (w0 = false ∧ ¬ (c : Int) ≤ la ∧ ¬ (16 : Int) ≤ c ∧ (9 : Int) < BL ∧ wg' = true) ∨ (w0 = false ∧ ¬ (c : Int) ≤ la ∧ ¬ (16 : Int) ≤ c ∧ ¬ (9 : Int) < BL ∧ wg' = false) := by
        have hw := HW'.out
        cases w0 with
        | true => exact .inl ⟨rfl, by rw [hw]; rfl⟩
        | false =>
          right
          by_cases q1 : (c : Int) ≤ la
          · exact .inl ⟨rfl, q1, by rw [hw]; simp [q1]⟩
          · right
            by_cases q2 : (16 : Int) ≤ c
            · exact .inl ⟨rfl, q1, q2, by rw [hw]; simp [show 16 ≤ c by omega]⟩
            · right
              by_cases q3 : (9 : Int) < BL
              · exact .inl ⟨rfl, q1, q2, q3, by rw [hw]; simp [show 9 < BL by omega]⟩
              · exact .inr ⟨rfl, q1, q2, q3, by rw [hw]; simp [q1, show ¬ 16 ≤ c by omega, show ¬ 9 < BL by omega]⟩
      clear HW'
      have fin : Hid (∀ W, W = (W8.putObj bm (.map (entriesOf .i64 l1) c1)).putObj bm (.map (entriesOf .i64 l2) c1) → LR w W br (uRun S (k + 1)).bs (uRun S (k + 1)).sh ∧ Half B w W bt bm (uRun S (k + 1)).wrong (uRun S (k + 1)).last (uRun S (k + 1)).L) := fun W e => by
        rw [HU.out, e]; exact ⟨L9.out, H9.out⟩
      have HU1 : Hid ((uRun S (k + 1)).last = (c : Int) ∧ (uRun S (k + 1)).wrong = wg') := by rw [HU.out]; exact ⟨rfl, rfl⟩
      clear HU L9 H9
      rcases cases5 with ⟨rfl, rfl⟩ | ⟨rfl, q1, rfl⟩ | ⟨rfl, q1, q2, rfl⟩ | ⟨rfl, q1, q2, q3, rfl⟩ | ⟨rfl, q1, q2, q3, rfl⟩ <;>
      · go_wp2
        go_roundw
        case rel => exact ⟨k + 1, by omega, by go_num, by rw [HU1.out.1], (by rw [HU1.out.2]; first | done | (congr 1; simp; omega)), fin.out _ rfl⟩
        case measure => simp [intOf]; omega
    · obtain rfl : k = n := by omega
      have hub := HUL.out k
      have K1 := Lib.hid (lr_end w wr br (uRun S k).bs (uRun S k).sh HL.out (by omega))
      have FW := Lib.hid HL.out.fr
      have hre := HR.out
      clear HR HUS HUL HL
      have HEL : endL (uRun S k).bs (uRun S k).sh = 0 ∨ endL (uRun S k).bs (uRun S k).sh = 10 ∨ endL (uRun S k).bs (uRun S k).sh = 11 := by
        unfold endL; split
        · exact .inr (.inl rfl)
        · split
          · exact .inr (.inr rfl)
          · exact .inl rfl
      generalize endL (uRun S k).bs (uRun S k).sh = el at *
      go_wp2_with fail
      with_reducible refine K1.out.mono ?_
      rintro e1 w5 ⟨rfl, rfl⟩
      clear K1
      rcases HEL with rfl | rfl | rfl
      · cases hwr : (uRun S k).wrong with
        | true =>
          rw [hwr] at HH
          rw [if_pos ⟨rfl, .inl hwr⟩] at hre
          obtain ⟨rfl, rfl⟩ := Prod.mk.inj hre
          clear hre hwr
          go_wp2
          go_ret2
          exact ⟨.inl ⟨by decide, rfl⟩, FW.out⟩
        | false =>
          rw [hwr] at HH
          by_cases h6 : (6 : Int) < k
          · rw [if_pos ⟨rfl, .inr (by omega)⟩] at hre
            obtain ⟨rfl, rfl⟩ := Prod.mk.inj hre
            clear hre hwr
            go_wp2
            go_ret2
            exact ⟨.inl ⟨by decide, rfl⟩, FW.out⟩
          · rw [if_neg (by rw [hwr]; simp; omega), if_pos rfl] at hre
            obtain ⟨rfl, rfl⟩ := Prod.mk.inj hre
            have HT := Lib.hid HH.out.tab
            clear hre hwr HH
            go_wp2
            go_ret2
            exact ⟨⟨_, rfl, HT.out⟩, FW.out⟩
      · rw [if_neg (fun h => by have := h.1; simp at this), if_neg (by decide)] at hre
        obtain ⟨rfl, rfl⟩ := Prod.mk.inj hre
        clear hre
        go_wp2
        go_ret2
        exact ⟨.inl ⟨by decide, rfl⟩, FW.out⟩
      · rw [if_neg (fun h => by have := h.1; simp at this), if_neg (by decide)] at hre
        obtain ⟨rfl, rfl⟩ := Prod.mk.inj hre
        clear hre
        go_wp2
        go_ret2
        exact ⟨.inl ⟨by decide, rfl⟩, FW.out⟩
theorem unpack_calls {K : Nat → Obj → Prop} (w : World) (v : Value) (bs : List UInt8) (hb : BytesAt K w v bs) (hm : bs.length ≤ 100000) (code : Int) (M : MT) (hr : unpM bs = (code, M)) :
    Calls Try.prog 13 #[v] w fun e w' => ((code ≠ 0 ∧ e = .returned (.tuple #[.pointer none, .int .i64 code])) ∨ (code = 0 ∧ ∃ bt, e = .returned (.tuple #[.pointer (some ⟨bt, 0, none⟩), .int .i64 0]) ∧ TabM w' w.heap.size bt M)) ∧ Fr (fun _ _ => True) w w' := unpack_callsB w.heap.size w (Nat.le_refl _) v bs hb hm code M hr
end Go.Proofs.Ytkaikckehkcfhaa
/- The document's table of sessions: its small functions. -/
namespace Go.Proofs.Ytkaikckehkcfhaa
open Go.RowKit
set_option linter.unusedVariables false
set_option linter.unusedSimpArgs false

/-- Of all sixteen clients: whether they have a session, its number, its answer. -/
structure DT where
  has : Nat → Bool
  seq : Nat → Nat
  rep : Nat → List UInt8
def upd {α : Type} (f : Nat → α) (i : Nat) (x : α) : Nat → α := fun j => if j = i then x else f j
theorem upd_same {α : Type} (f : Nat → α) (i : Nat) (x : α) : upd f i x i = x := by simp [upd]
theorem upd_ne {α : Type} (f : Nat → α) {i j : Nat} (x : α) (h : j ≠ i) : upd f i x j = f j := by simp [upd, h]
/-- Where the document's answers may lie. -/
def KD (B : Nat) (b : Nat) (o : Obj) : Prop := b < B ∨ ∃ cs fz, o = .cells cs 5 fz
structure DAt (w : World) (B bk : Nat) (cs : Array Value) (vs : Nat → Value) (D : DT) : Prop where
  top : w.heap[bk]? = some (.cells cs 53 (0, 0))
  le : B ≤ bk
  size : cs.size = 48
  chas : ∀ i, i < 16 → cs[i]? = some (.bool (D.has i))
  cseq : ∀ i, i < 16 → cs[16 + i]? = some (.int .u64 (D.seq i : Nat))
  crep : ∀ i, i < 16 → cs[32 + i]? = some (vs i)
  bytes : ∀ i, i < 16 → BytesAt (KD B) w (vs i) (D.rep i)
  small : ∀ i, i < 16 → D.seq i < 4294967296
  short : ∀ i, i < 16 → D.has i = true → (D.rep i).length ≤ 9
def D17 (w : World) (B bk : Nat) (D : DT) : Prop := ∃ cs vs, DAt w B bk cs vs D
theorem DAt.fr {w w' : World} {B bk : Nat} {cs : Array Value} {vs : Nat → Value} {D : DT} {K : Nat → Obj → Prop} (h : DAt w B bk cs vs D) (hf : Fr K w w') (h1 : ∀ cs fz, K bk (.cells cs 53 fz)) (h2 : ∀ b o, w.heap[b]? = some o → KD B b o → K b o) : DAt w' B bk cs vs D :=
  { h with
    top := hf.keep _ _ h.top (h1 _ _)
    bytes := fun i hi => (((h.bytes i hi).mono (K' := fun b o => K b o ∧ KD B b o) fun b o hb hk => ⟨h2 b o hb hk, hk⟩).fr (hf.mono fun _ _ h => h.1)).mono fun _ _ _ h => h.2 }
theorem D17.tt {w w' : World} {B bk : Nat} {D : DT} (h : D17 w B bk D) (hf : Fr (fun _ _ => True) w w') : D17 w' B bk D := by
  obtain ⟨cs, vs, h⟩ := h
  exact ⟨cs, vs, h.fr hf (fun _ _ => trivial) fun _ _ _ _ => trivial⟩
theorem DAt.c0 {w : World} {B bk : Nat} {cs : Array Value} {vs : Nat → Value} {D : DT} (h : DAt w B bk cs vs D) {i : Nat} (hi : i < 16) : w.cell? ⟨bk, i, none⟩ = some (.bool (D.has i)) := cell_mk h.top (h.chas i hi)
theorem DAt.c1 {w : World} {B bk : Nat} {cs : Array Value} {vs : Nat → Value} {D : DT} (h : DAt w B bk cs vs D) {i : Nat} (hi : i < 16) : w.cell? ⟨bk, 16 + i, none⟩ = some (.int .u64 (D.seq i : Nat)) := cell_mk h.top (h.cseq i hi)
theorem DAt.c2 {w : World} {B bk : Nat} {cs : Array Value} {vs : Nat → Value} {D : DT} (h : DAt w B bk cs vs D) {i : Nat} (hi : i < 16) : w.cell? ⟨bk, 32 + i, none⟩ = some (vs i) := cell_mk h.top (h.crep i hi)
theorem DAt.fz {w : World} {B bk : Nat} {cs : Array Value} {vs : Nat → Value} {D : DT} (h : DAt w B bk cs vs D) (i : Nat) : w.frozen? ⟨bk, i, none⟩ = false := frozen_mk h.top
/-- What the document's functions leave alone. -/
theorem KD.not {w : World} {B bk : Nat} {cs : Array Value} {vs : Nat → Value} {D : DT} (h : DAt w B bk cs vs D) : ∀ b o, w.heap[b]? = some o → KD B b o → b ≠ bk := fun b o hb hk e => by
  subst e
  rw [h.top] at hb
  cases hb
  rcases hk with hk | ⟨_, _, e⟩
  · have := h.le; omega
  · cases e
/-- Behind three stores. -/
theorem DAt.put {w : World} {B bk : Nat} {cs : Array Value} {vs : Nat → Value} {D : DT} (h : DAt w B bk cs vs D) {i : Nat} (hi : i < 16) (b : Bool) (s : Nat) (v : Value) (r : List UInt8) (hs : s < 4294967296) (hr : b = true → r.length ≤ 9) (hb : BytesAt (KD B) w v r) :
    D17 (((w.setCell ⟨bk, i, none⟩ (.bool b)).setCell ⟨bk, 16 + i, none⟩ (.int .u64 (s : Nat))).setCell ⟨bk, 32 + i, none⟩ v) B bk ⟨upd D.has i b, upd D.seq i s, upd D.rep i r⟩ ∧ Fr (fun c _ => c ≠ bk) w (((w.setCell ⟨bk, i, none⟩ (.bool b)).setCell ⟨bk, 16 + i, none⟩ (.int .u64 (s : Nat))).setCell ⟨bk, 32 + i, none⟩ v) := by
  have F : Fr (fun c _ => c ≠ bk) w (((w.setCell ⟨bk, i, none⟩ (.bool b)).setCell ⟨bk, 16 + i, none⟩ (.int .u64 (s : Nat))).setCell ⟨bk, 32 + i, none⟩ v) := (((Fr.refl _ _).setCell (fun _ _ h => h rfl) _).setCell (fun _ _ h => h rfl) _).setCell (fun _ _ h => h rfl) _
  have kb : ∀ u l, BytesAt (KD B) w u l → BytesAt (KD B) (((w.setCell ⟨bk, i, none⟩ (.bool b)).setCell ⟨bk, 16 + i, none⟩ (.int .u64 (s : Nat))).setCell ⟨bk, 32 + i, none⟩ v) u l := fun u l hu =>
    ((hu.mono (K' := fun b o => b ≠ bk ∧ KD B b o) fun b o hb hk => ⟨KD.not h b o hb hk, hk⟩).fr (F.mono fun _ _ h => h.1)).mono fun _ _ _ h => h.2
  refine ⟨⟨((cs.setIfInBounds i (.bool b)).setIfInBounds (16 + i) (.int .u64 (s : Nat))).setIfInBounds (32 + i) v, upd vs i v, heap_setCell_same (heap_setCell_same (heap_setCell_same h.top _) _) _, h.le, by simp [h.size], fun j hj => ?_, fun j hj => ?_, fun j hj => ?_, fun j hj => ?_, fun j hj => ?_, fun j hj => ?_⟩, F⟩
  · rw [Array.getElem?_setIfInBounds_ne (by omega), Array.getElem?_setIfInBounds_ne (by omega)]
    by_cases e : j = i
    · subst e; rw [Array.getElem?_setIfInBounds_self_of_lt (by simp [h.size]; omega)]; simp [upd]
    · rw [Array.getElem?_setIfInBounds_ne (Ne.symm e), h.chas j hj]; simp [upd, e]
  · rw [Array.getElem?_setIfInBounds_ne (by omega)]
    by_cases e : j = i
    · subst e; rw [Array.getElem?_setIfInBounds_self_of_lt (by simp [h.size]; omega)]; simp [upd]
    · rw [Array.getElem?_setIfInBounds_ne (by omega), Array.getElem?_setIfInBounds_ne (by omega), h.cseq j hj]; simp [upd, e]
  · by_cases e : j = i
    · subst e; rw [Array.getElem?_setIfInBounds_self_of_lt (by simp [h.size]; omega)]; simp [upd]
    · rw [Array.getElem?_setIfInBounds_ne (by omega), Array.getElem?_setIfInBounds_ne (by omega), Array.getElem?_setIfInBounds_ne (by omega), h.crep j hj]; simp [upd, e]
  · by_cases e : j = i
    · subst e; rw [upd_same]; show BytesAt _ _ _ (upd D.rep j r j); rw [upd_same]; exact kb _ _ hb
    · rw [upd_ne _ _ e]; show BytesAt _ _ _ (upd D.rep i r j); rw [upd_ne _ _ e]; exact kb _ _ (h.bytes j hj)
  · by_cases e : j = i
    · subst e; show upd D.seq j s j < _; rw [upd_same]; exact hs
    · show upd D.seq i s j < _; rw [upd_ne _ _ e]; exact h.small j hj
  · by_cases e : j = i
    · subst e; show upd D.has j b j = true → (upd D.rep j r j).length ≤ 9; rw [upd_same, upd_same]; exact hr
    · show upd D.has i b j = true → (upd D.rep i r j).length ≤ 9; rw [upd_ne _ _ e, upd_ne _ _ e]; exact h.short j hj

def manyK (D : DT) (k : Nat) : Nat := ((List.range k).filter D.has).length
theorem manyK_succ (D : DT) (k : Nat) : manyK D (k + 1) = manyK D k + (D.has k).toNat := by
  unfold manyK
  rw [List.range_succ, List.filter_append, List.length_append, List.filter_cons, List.filter_nil]
  cases D.has k <;> rfl
theorem manyK_le (D : DT) (k : Nat) : manyK D k ≤ k := by
  unfold manyK
  have := List.length_filter_le D.has (List.range k)
  simpa using this
set_option maxRecDepth 100000 in
theorem many_calls (w : World) (B bk : Nat) (D : DT) (h : D17 w B bk D) :
    Calls Try.prog 35 #[.pointer (some ⟨bk, 0, none⟩)] w fun e w' => e = .returned (.int .i64 (manyK D 16 : Nat)) ∧ w = w' := by
  obtain ⟨cs, vs, h⟩ := h
  have H := Lib.hid h
  clear h
  go_enter Try.func35, Try.ntmps35
  go_wp2
  go_loop [3, 4] (fun n i => ∃ k : Nat, k ≤ 16 ∧ i = .int .i64 k ∧ n = .int .i64 (manyK D k : Nat)) (fun _ i => 16 - (intOf i).toNat)
  case atStart => exact ⟨0, Nat.zero_le _, rfl, rfl⟩
  case round =>
    obtain ⟨k, hk, rfl, rfl⟩ := hrel
    have hle := manyK_le D k
    by_cases hlt : k < 16
    · have g1 := H.out.c0 hlt
      have HC := Lib.hid (manyK_succ D k)
      generalize D.has k = bb at *
      generalize manyK D k = m at *
      cases bb <;>
      · go_wp2
        go_round
        case rel => exact ⟨k + 1, by omega, by go_num, by rw [HC.out]; simp⟩
        case measure => simp [intOf]; omega
    · obtain rfl : k = 16 := by omega
      go_wp2
      go_ret
      exact ⟨rfl, rfl⟩
def inB (c : Int) : Bool := decide (0 ≤ c ∧ c ≤ 15)
set_option maxRecDepth 100000 in
theorem in_calls (w : World) (c : Int) : Calls Try.prog 38 #[.int .i64 c] w fun e w' => e = .returned (.bool (inB c)) ∧ w = w' := by
  by_cases h0 : 0 ≤ c
  · by_cases h1 : c ≤ 15
    · have HE : Hid (inB c = true) := Lib.hid (by simp [inB, h0, h1])
      go_enter Try.func38, Try.ntmps38
      go_wp2
      go_ret
      exact ⟨by rw [HE.out]; first | rfl | (simp; omega), rfl⟩
    · have HE : Hid (inB c = false) := Lib.hid (by simp [inB, h1])
      go_enter Try.func38, Try.ntmps38
      go_wp2
      go_ret
      exact ⟨by rw [HE.out]; first | rfl | (simp; omega), rfl⟩
  · have HE : Hid (inB c = false) := Lib.hid (by simp [inB, h0])
    go_enter Try.func38, Try.ntmps38
    go_wp2
    go_ret
    exact ⟨by rw [HE.out]; first | rfl | (simp; omega), rfl⟩
def hasD (D : DT) (c : Int) : Bool := inB c && D.has c.toNat
set_option maxRecDepth 100000 in
theorem hasd_calls (w : World) (B bk : Nat) (D : DT) (c : Int) (h : D17 w B bk D) : Calls Try.prog 39 #[.pointer (some ⟨bk, 0, none⟩), .int .i64 c] w fun e w' => e = .returned (.bool (hasD D c)) ∧ w = w' := by
  obtain ⟨cs, vs, h⟩ := h
  have K1 := Lib.hid (in_calls w c)
  unfold hasD
  by_cases hc : 0 ≤ c ∧ c ≤ 15
  · obtain ⟨i, rfl⟩ := Int.eq_ofNat_of_zero_le hc.1
    have g1 := h.c0 (i := i) (by omega)
    rw [show inB (i : Int) = true from decide_eq_true hc] at K1 ⊢
    have h0 : (i : Int) ≤ 15 := hc.2
    rw [Int.toNat_natCast]
    generalize D.has i = bb at *
    clear h hc
    go_enter Try.func39, Try.ntmps39
    go_wp2_with fail
    with_reducible refine K1.out.mono ?_
    rintro e1 w1 ⟨rfl, rfl⟩
    go_wp2
    go_ret
    exact ⟨by simp, rfl⟩
  · rw [show inB c = false from decide_eq_false hc] at K1 ⊢
    clear h hc
    go_enter Try.func39, Try.ntmps39
    go_wp2_with fail
    with_reducible refine K1.out.mono ?_
    rintro e1 w1 ⟨rfl, rfl⟩
    go_wp2
    go_ret
    exact ⟨by simp, rfl⟩
end Go.Proofs.Ytkaikckehkcfhaa
/- The document's table of sessions: Open, Close, Ask, Done. -/
namespace Go.Proofs.Ytkaikckehkcfhaa
open Go.RowKit
set_option linter.unusedVariables false
set_option linter.unusedSimpArgs false

theorem DAt.put1 {w : World} {B bk : Nat} {cs : Array Value} {vs : Nat → Value} {D : DT} (h : DAt w B bk cs vs D) {i : Nat} (hi : i < 16) :
    D17 (w.setCell ⟨bk, i, none⟩ (.bool false)) B bk ⟨upd D.has i false, D.seq, D.rep⟩ ∧ Fr (fun c _ => c ≠ bk) w (w.setCell ⟨bk, i, none⟩ (.bool false)) := by
  have F : Fr (fun c _ => c ≠ bk) w (w.setCell ⟨bk, i, none⟩ (.bool false)) := (Fr.refl _ _).setCell (fun _ _ h => h rfl) _
  refine ⟨⟨cs.setIfInBounds i (.bool false), vs, heap_setCell_same h.top _, h.le, by simp [h.size], fun j hj => ?_, fun j hj => ?_, fun j hj => ?_, fun j hj => ?_, h.small, fun j hj => ?_⟩, F⟩
  · by_cases e : j = i
    · subst e; rw [Array.getElem?_setIfInBounds_self_of_lt (by simp [h.size]; omega)]; simp [upd]
    · rw [Array.getElem?_setIfInBounds_ne (Ne.symm e), h.chas j hj]; simp [upd, e]
  · rw [Array.getElem?_setIfInBounds_ne (by omega), h.cseq j hj]
  · rw [Array.getElem?_setIfInBounds_ne (by omega), h.crep j hj]
  · exact (((h.bytes j hj).mono (K' := fun b o => b ≠ bk ∧ KD B b o) fun b o hb hk => ⟨KD.not h b o hb hk, hk⟩).fr (F.mono fun _ _ h => h.1)).mono fun _ _ _ h => h.2
  · by_cases e : j = i
    · subst e; show upd D.has j false j = true → _; rw [upd_same]; intro q; cases q
    · show upd D.has i false j = true → _; rw [upd_ne _ _ e]; exact h.short j hj
theorem DAt.put2 {w : World} {B bk : Nat} {cs : Array Value} {vs : Nat → Value} {D : DT} (h : DAt w B bk cs vs D) {i : Nat} (hi : i < 16) (s : Nat) (v : Value) (r : List UInt8) (hs : s < 4294967296) (hr : r.length ≤ 9) (hb : BytesAt (KD B) w v r) :
    D17 ((w.setCell ⟨bk, 16 + i, none⟩ (.int .u64 (s : Nat))).setCell ⟨bk, 32 + i, none⟩ v) B bk ⟨D.has, upd D.seq i s, upd D.rep i r⟩ ∧ Fr (fun c _ => c ≠ bk) w ((w.setCell ⟨bk, 16 + i, none⟩ (.int .u64 (s : Nat))).setCell ⟨bk, 32 + i, none⟩ v) := by
  have F : Fr (fun c _ => c ≠ bk) w ((w.setCell ⟨bk, 16 + i, none⟩ (.int .u64 (s : Nat))).setCell ⟨bk, 32 + i, none⟩ v) := ((Fr.refl _ _).setCell (fun _ _ h => h rfl) _).setCell (fun _ _ h => h rfl) _
  have kb : ∀ u l, BytesAt (KD B) w u l → BytesAt (KD B) ((w.setCell ⟨bk, 16 + i, none⟩ (.int .u64 (s : Nat))).setCell ⟨bk, 32 + i, none⟩ v) u l := fun u l hu =>
    ((hu.mono (K' := fun b o => b ≠ bk ∧ KD B b o) fun b o hb hk => ⟨KD.not h b o hb hk, hk⟩).fr (F.mono fun _ _ h => h.1)).mono fun _ _ _ h => h.2
  refine ⟨⟨(cs.setIfInBounds (16 + i) (.int .u64 (s : Nat))).setIfInBounds (32 + i) v, upd vs i v, heap_setCell_same (heap_setCell_same h.top _) _, h.le, by simp [h.size], fun j hj => ?_, fun j hj => ?_, fun j hj => ?_, fun j hj => ?_, fun j hj => ?_, fun j hj => ?_⟩, F⟩
  · rw [Array.getElem?_setIfInBounds_ne (by omega), Array.getElem?_setIfInBounds_ne (by omega)]; exact h.chas j hj
  · rw [Array.getElem?_setIfInBounds_ne (by omega)]
    by_cases e : j = i
    · subst e; rw [Array.getElem?_setIfInBounds_self_of_lt (by simp [h.size]; omega)]; simp [upd]
    · rw [Array.getElem?_setIfInBounds_ne (by omega), h.cseq j hj]; simp [upd, e]
  · by_cases e : j = i
    · subst e; rw [Array.getElem?_setIfInBounds_self_of_lt (by simp [h.size]; omega)]; simp [upd]
    · rw [Array.getElem?_setIfInBounds_ne (by omega), Array.getElem?_setIfInBounds_ne (by omega), h.crep j hj]; simp [upd, e]
  · by_cases e : j = i
    · subst e; rw [upd_same]; show BytesAt _ _ _ (upd D.rep j r j); rw [upd_same]; exact kb _ _ hb
    · rw [upd_ne _ _ e]; show BytesAt _ _ _ (upd D.rep i r j); rw [upd_ne _ _ e]; exact kb _ _ (h.bytes j hj)
  · by_cases e : j = i
    · subst e; show upd D.seq j s j < _; rw [upd_same]; exact hs
    · show upd D.seq i s j < _; rw [upd_ne _ _ e]; exact h.small j hj
  · by_cases e : j = i
    · subst e; show D.has j = true → (upd D.rep j r j).length ≤ 9; rw [upd_same]; exact fun _ => hr
    · show D.has j = true → (upd D.rep i r j).length ≤ 9; rw [upd_ne _ _ e]; exact h.short j hj

def openD (D : DT) (c : Int) : Int × DT := if inB c = false then (31, D) else if D.has c.toNat = true then (1, D) else if 6 ≤ manyK D 16 then (42, D) else (0, ⟨upd D.has c.toNat true, upd D.seq c.toNat 0, upd D.rep c.toNat []⟩)
def closeD (D : DT) (c : Int) : Int × DT := if hasD D c = false then (81, D) else (0, ⟨upd D.has c.toNat false, D.seq, D.rep⟩)
def askD (D : DT) (c : Int) (s : Nat) : List UInt8 × Bool × Int := if hasD D c = false then ([], false, 81) else if s = D.seq c.toNat ∧ s ≠ 0 then (D.rep c.toNat, true, 0) else if s ≤ D.seq c.toNat then ([], false, 80) else if D.seq c.toNat + 1 < s then ([], false, 60) else ([], false, 0)
def doneD (D : DT) (c : Int) (s : Nat) (r : List UInt8) : Int × DT := if hasD D c = false then (81, D) else if s ≠ D.seq c.toNat + 1 then (60, D) else if 9 < r.length then (2, D) else (0, ⟨D.has, upd D.seq c.toNat s, upd D.rep c.toNat r⟩)

set_option maxRecDepth 100000 in
set_option maxHeartbeats 1000000 in
theorem dopen_calls (w : World) (B bk : Nat) (D : DT) (c : Int) (h : D17 w B bk D) (code : Int) (D' : DT) (hr : openD D c = (code, D')) :
    Calls Try.prog 17 #[.pointer (some ⟨bk, 0, none⟩), .int .i64 c] w fun e w' => e = .returned (.int .i64 code) ∧ D17 w' B bk D' ∧ Fr (fun c _ => c ≠ bk) w w' := by
  have hD := Lib.hid h
  have K1 := Lib.hid (in_calls w c)
  have K2 := Lib.hid (many_calls w B bk D h)
  obtain ⟨cs, vs, h⟩ := h
  unfold openD at hr
  have hmk := manyK_le D 16
  by_cases hc : 0 ≤ c ∧ c ≤ 15
  · obtain ⟨i, rfl⟩ := Int.eq_ofNat_of_zero_le hc.1
    have hi : i < 16 := by omega
    have g1 := h.c0 hi
    have f0 := h.fz i
    have f1 := h.fz (16 + i)
    have f2 := h.fz (32 + i)
    have g2 := h.c1 hi
    have g3 := h.c2 hi
    have h0 : (i : Int) ≤ 15 := hc.2
    rw [show inB (i : Int) = true from decide_eq_true hc] at K1 hr
    rw [if_neg (by decide), Int.toNat_natCast] at hr
    cases hb : D.has i with
    | true =>
      rw [hb, if_pos rfl] at hr
      rw [hb] at g1
      obtain ⟨rfl, rfl⟩ := Prod.mk.inj hr
      clear hr h hb hc
      go_enter Try.func17, Try.ntmps17
      go_wp2_with fail
      with_reducible refine K1.out.mono ?_
      rintro e1 w1 ⟨rfl, rfl⟩
      go_wp2
      go_ret
      exact ⟨rfl, hD.out, Fr.refl _ _⟩
    | false =>
      rw [hb, if_neg (by decide)] at hr
      rw [hb] at g1
      by_cases h6 : 6 ≤ manyK D 16
      · rw [if_pos h6] at hr
        obtain ⟨rfl, rfl⟩ := Prod.mk.inj hr
        have h6' : (6 : Int) ≤ manyK D 16 := by omega
        clear hr h hb hc
        generalize manyK D 16 = m at *
        go_enter Try.func17, Try.ntmps17
        go_wp2_with fail
        with_reducible refine K1.out.mono ?_
        rintro e1 w1 ⟨rfl, rfl⟩
        go_wp2_with fail
        with_reducible refine K2.out.mono ?_
        rintro e1 w1 ⟨rfl, rfl⟩
        go_wp2
        go_ret
        exact ⟨rfl, hD.out, Fr.refl _ _⟩
      · rw [if_neg h6] at hr
        obtain ⟨rfl, rfl⟩ := Prod.mk.inj hr
        have h6' : ¬ (6 : Int) ≤ manyK D 16 := by omega
        have P := Lib.hid (h.put hi true 0 (.slice none 0 0) [] (by decide) (by simp) (BytesAt.nil _ _))
        clear hr h hb hc
        generalize manyK D 16 = m at *
        go_enter Try.func17, Try.ntmps17
        go_wp2_with fail
        with_reducible refine K1.out.mono ?_
        rintro e1 w1 ⟨rfl, rfl⟩
        go_wp2_with fail
        with_reducible refine K2.out.mono ?_
        rintro e1 w1 ⟨rfl, rfl⟩
        go_wp2
        go_ret
        exact ⟨rfl, P.out⟩
  · rw [show inB c = false from decide_eq_false hc] at K1 hr
    rw [if_pos rfl] at hr
    obtain ⟨rfl, rfl⟩ := Prod.mk.inj hr
    clear hr h hc
    go_enter Try.func17, Try.ntmps17
    go_wp2_with fail
    with_reducible refine K1.out.mono ?_
    rintro e1 w1 ⟨rfl, rfl⟩
    go_wp2
    go_ret
    exact ⟨rfl, hD.out, Fr.refl _ _⟩

theorem hasD_nat {D : DT} {c : Int} (h : hasD D c = true) : ∃ i : Nat, c = i ∧ i < 16 ∧ D.has i = true := by
  unfold hasD at h
  rw [Bool.and_eq_true] at h
  have := of_decide_eq_true h.1
  exact ⟨c.toNat, by omega, by omega, h.2⟩

set_option maxRecDepth 100000 in
theorem dclose_calls (w : World) (B bk : Nat) (D : DT) (c : Int) (h : D17 w B bk D) (code : Int) (D' : DT) (hr : closeD D c = (code, D')) :
    Calls Try.prog 18 #[.pointer (some ⟨bk, 0, none⟩), .int .i64 c] w fun e w' => e = .returned (.int .i64 code) ∧ D17 w' B bk D' ∧ Fr (fun c _ => c ≠ bk) w w' := by
  have hD := Lib.hid h
  have K1 := Lib.hid (hasd_calls w B bk D c h)
  obtain ⟨cs, vs, h⟩ := h
  unfold closeD at hr
  cases hc : hasD D c with
  | true =>
    obtain ⟨i, rfl, hi, hb⟩ := hasD_nat hc
    rw [hc, if_neg (by decide), Int.toNat_natCast] at hr
    rw [hc] at K1
    obtain ⟨rfl, rfl⟩ := Prod.mk.inj hr
    have P := Lib.hid (h.put1 hi)
    have f0 := h.fz i
    have g1 := h.c0 hi
    have h0 : (i : Int) ≤ 15 := by omega
    clear hr h hc hb
    go_enter Try.func18, Try.ntmps18
    go_wp2_with fail
    with_reducible refine K1.out.mono ?_
    rintro e1 w1 ⟨rfl, rfl⟩
    go_wp2
    go_ret
    exact ⟨rfl, P.out⟩
  | false =>
    rw [hc, if_pos rfl] at hr
    rw [hc] at K1
    obtain ⟨rfl, rfl⟩ := Prod.mk.inj hr
    clear hr h hc
    go_enter Try.func18, Try.ntmps18
    go_wp2_with fail
    with_reducible refine K1.out.mono ?_
    rintro e1 w1 ⟨rfl, rfl⟩
    go_wp2
    go_ret
    exact ⟨rfl, hD.out, Fr.refl _ _⟩
end Go.Proofs.Ytkaikckehkcfhaa
/- The document's table of sessions: Ask, Done, Clients. -/
namespace Go.Proofs.Ytkaikckehkcfhaa
open Go.RowKit
set_option linter.unusedVariables false
set_option linter.unusedSimpArgs false

set_option maxRecDepth 100000 in
set_option maxHeartbeats 1000000 in
theorem dask_calls (w : World) (B bk : Nat) (D : DT) (c : Int) (s : Nat) (h : D17 w B bk D) (hs : s < 4294967296) (bs : List UInt8) (again : Bool) (code : Int) (hr : askD D c s = (bs, again, code)) :
    Calls Try.prog 19 #[.pointer (some ⟨bk, 0, none⟩), .int .i64 c, .int .u32 (s : Nat)] w fun e w' => (∃ v, e = .returned (.tuple #[v, .bool again, .int .i64 code]) ∧ BytesAt (KD B) w v bs) ∧ w = w' := by
  have K1 := Lib.hid (hasd_calls w B bk D c h)
  obtain ⟨cs, vs, h⟩ := h
  unfold askD at hr
  cases hc : hasD D c with
  | false =>
    rw [hc, if_pos rfl] at hr
    rw [hc] at K1
    obtain ⟨rfl, hr2⟩ := Prod.mk.inj hr
    obtain ⟨rfl, rfl⟩ := Prod.mk.inj hr2
    clear hr hr2 h hc
    go_enter Try.func19, Try.ntmps19
    go_wp2_with fail
    with_reducible refine K1.out.mono ?_
    rintro e1 w1 ⟨rfl, rfl⟩
    go_wp2
    go_ret3
    exact ⟨⟨_, rfl, BytesAt.nil _ _⟩, rfl⟩
  | true =>
    obtain ⟨i, rfl, hi, hb⟩ := hasD_nat hc
    rw [hc, if_neg (by decide), Int.toNat_natCast] at hr
    rw [hc] at K1
    have g2 := h.c1 hi
    have g3 := h.c2 hi
    have hsm := h.small i hi
    have HB := Lib.hid (h.bytes i hi)
    have h0 : (i : Int) ≤ 15 := by omega
    generalize D.seq i = q at *
    generalize D.rep i = rp at *
    generalize vs i = vi at *
    clear h hc hb
    by_cases h1 : s = q ∧ s ≠ 0
    · rw [if_pos h1] at hr
      obtain ⟨rfl, hr2⟩ := Prod.mk.inj hr
      obtain ⟨rfl, rfl⟩ := Prod.mk.inj hr2
      obtain ⟨rfl, h2⟩ := h1
      have h2b : ((s : Int) != 0) = true := by simp; omega
      have h2c : ((s : Int) == 0) = false := by simp; omega
      clear hr hr2 h2
      go_enter Try.func19, Try.ntmps19
      go_wp2_with fail
      with_reducible refine K1.out.mono ?_
      rintro e1 w1 ⟨rfl, rfl⟩
      go_wp2
      go_ret3
      exact ⟨⟨_, rfl, HB.out⟩, rfl⟩
    · rw [if_neg h1] at hr
      by_cases h2 : s ≤ q
      · rw [if_pos h2] at hr
        obtain ⟨rfl, hr2⟩ := Prod.mk.inj hr
        obtain ⟨rfl, rfl⟩ := Prod.mk.inj hr2
        have h2' : (s : Int) ≤ q := by omega
        by_cases h3 : s = q
        · have h4 : s = 0 := by omega
          subst h3
          subst h4
          clear hr hr2 h2 h1
          go_enter Try.func19, Try.ntmps19
          go_wp2_with fail
          with_reducible refine K1.out.mono ?_
          rintro e1 w1 ⟨rfl, rfl⟩
          go_wp2
          go_ret3
          exact ⟨⟨_, rfl, BytesAt.nil _ _⟩, rfl⟩
        · have h3b : ((s : Int) == q) = false := by simp; omega
          clear hr hr2 h2 h1 h3
          go_enter Try.func19, Try.ntmps19
          go_wp2_with fail
          with_reducible refine K1.out.mono ?_
          rintro e1 w1 ⟨rfl, rfl⟩
          go_wp2
          go_ret3
          exact ⟨⟨_, rfl, BytesAt.nil _ _⟩, rfl⟩
      · rw [if_neg h2] at hr
        have h2' : ¬ (s : Int) ≤ q := by omega
        have h3b : ((s : Int) == q) = false := by simp; omega
        by_cases h4 : q + 1 < s
        · rw [if_pos h4] at hr
          obtain ⟨rfl, hr2⟩ := Prod.mk.inj hr
          obtain ⟨rfl, rfl⟩ := Prod.mk.inj hr2
          have h4' : (q : Int) + 1 < s := by omega
          clear hr hr2 h2 h1
          go_enter Try.func19, Try.ntmps19
          go_wp2_with fail
          with_reducible refine K1.out.mono ?_
          rintro e1 w1 ⟨rfl, rfl⟩
          go_wp2
          go_ret3
          exact ⟨⟨_, rfl, BytesAt.nil _ _⟩, rfl⟩
        · rw [if_neg h4] at hr
          obtain ⟨rfl, hr2⟩ := Prod.mk.inj hr
          obtain ⟨rfl, rfl⟩ := Prod.mk.inj hr2
          have h4' : ¬ (q : Int) + 1 < s := by omega
          clear hr hr2 h2 h1
          go_enter Try.func19, Try.ntmps19
          go_wp2_with fail
          with_reducible refine K1.out.mono ?_
          rintro e1 w1 ⟨rfl, rfl⟩
          go_wp2
          go_ret3
          exact ⟨⟨_, rfl, BytesAt.nil _ _⟩, rfl⟩

set_option maxRecDepth 100000 in
set_option maxHeartbeats 1000000 in
theorem ddone_calls (w : World) (B bk : Nat) (D : DT) (c : Int) (s : Nat) (v : Value) (r : List UInt8) (h : D17 w B bk D) (hs : s < 4294967296) (hb : BytesAt (KD B) w v r) (hrm : r.length ≤ 9223372036854775807) (code : Int) (D' : DT) (hr : doneD D c s r = (code, D')) :
    Calls Try.prog 20 #[.pointer (some ⟨bk, 0, none⟩), .int .i64 c, .int .u32 (s : Nat), v] w fun e w' => e = .returned (.int .i64 code) ∧ D17 w' B bk D' ∧ Fr (fun c _ => c ≠ bk) w w' := by
  have hD := Lib.hid h
  have K1 := Lib.hid (hasd_calls w B bk D c h)
  obtain ⟨cs, vs, h⟩ := h
  obtain ⟨a, cap, rfl⟩ := hb.form
  unfold doneD at hr
  cases hc : hasD D c with
  | false =>
    rw [hc, if_pos rfl] at hr
    rw [hc] at K1
    obtain ⟨rfl, rfl⟩ := Prod.mk.inj hr
    clear hr h hc hb
    go_enter Try.func20, Try.ntmps20
    go_wp2_with fail
    with_reducible refine K1.out.mono ?_
    rintro e1 w1 ⟨rfl, rfl⟩
    go_wp2
    go_ret
    exact ⟨rfl, hD.out, Fr.refl _ _⟩
  | true =>
    obtain ⟨i, rfl, hi, hbb⟩ := hasD_nat hc
    rw [hc, if_neg (by decide), Int.toNat_natCast] at hr
    rw [hc] at K1
    have g2 := h.c1 hi
    have g3 := h.c2 hi
    have f1 := h.fz (16 + i)
    have f2 := h.fz (32 + i)
    have hsm := h.small i hi
    have h0 : (i : Int) ≤ 15 := by omega
    by_cases h1 : s = D.seq i + 1
    · rw [if_neg (by simpa using h1)] at hr
      have h1b : ((s : Int) != (D.seq i : Int) + 1) = false := by simp; omega
      by_cases h2 : 9 < r.length
      · rw [if_pos h2] at hr
        obtain ⟨rfl, rfl⟩ := Prod.mk.inj hr
        have h2' : (9 : Int) < r.length := by omega
        generalize D.seq i = q at *
        clear hr h hc hb hbb h1 h2
        go_enter Try.func20, Try.ntmps20
        go_wp2_with fail
        with_reducible refine K1.out.mono ?_
        rintro e1 w1 ⟨rfl, rfl⟩
        go_wp2
        go_ret
        exact ⟨rfl, hD.out, Fr.refl _ _⟩
      · rw [if_neg h2] at hr
        obtain ⟨rfl, rfl⟩ := Prod.mk.inj hr
        have h2' : ¬ (9 : Int) < r.length := by omega
        have P := Lib.hid (h.put2 hi s _ r hs (by omega) hb)
        have hq : ((D.seq i : Nat) : Int) ≤ 4294967295 := by omega
        have hq0 : (0 : Int) ≤ ((D.seq i : Nat) : Int) := by omega
        generalize ((D.seq i : Nat) : Int) = q at *
        clear hr h hc hb hbb h1 h2 hsm
        go_enter Try.func20, Try.ntmps20
        go_wp2_with fail
        with_reducible refine K1.out.mono ?_
        rintro e1 w1 ⟨rfl, rfl⟩
        go_wp2
        go_ret
        exact ⟨rfl, P.out⟩
    · rw [if_pos h1] at hr
      obtain ⟨rfl, rfl⟩ := Prod.mk.inj hr
      have h1b : ((s : Int) != (D.seq i : Int) + 1) = true := by simp; omega
      generalize D.seq i = q at *
      clear hr h hc hb hbb h1
      go_enter Try.func20, Try.ntmps20
      go_wp2_with fail
      with_reducible refine K1.out.mono ?_
      rintro e1 w1 ⟨rfl, rfl⟩
      go_wp2
      go_ret
      exact ⟨rfl, hD.out, Fr.refl _ _⟩

/-- The clients that have a session, up to k. -/
def cliD (D : DT) (k : Nat) : List Int := ((List.range k).filter D.has).map Int.ofNat
theorem cliD_succ (D : DT) (k : Nat) : cliD D (k + 1) = cliD D k ++ (if D.has k = true then [(k : Int)] else []) := by
  unfold cliD
  rw [List.range_succ, List.filter_append, List.map_append, List.filter_cons, List.filter_nil]
  cases D.has k <;> rfl
theorem cliD_len (D : DT) (k : Nat) : (cliD D k).length = manyK D k := by unfold cliD manyK; simp
set_option maxRecDepth 100000 in
set_option maxHeartbeats 1000000 in
theorem dclients_calls (w : World) (B bk : Nat) (D : DT) (h : D17 w B bk D) :
    Calls Try.prog 23 #[.pointer (some ⟨bk, 0, none⟩)] w fun e w' => (∃ v, e = .returned v ∧ RowI w' w.heap.size v (cliD D 16)) ∧ Fr (fun _ _ => True) w w' := by
  have H := Lib.hid h
  clear h
  go_enter Try.func23, Try.ntmps23
  go_wp2
  go_loopw [3, 4] (fun o i wr => ∃ k : Nat, k ≤ 16 ∧ i = .int .i64 k ∧ RowI wr w.heap.size o (cliD D k) ∧ Fr (fun _ _ => True) w wr) (fun _ i _ => 16 - (intOf i).toNat)
  case atStart => exact ⟨0, Nat.zero_le _, rfl, RowI.nil _ _, Fr.refl _ _⟩
  case round =>
    obtain ⟨k, hk, rfl, ho, hf⟩ := hrel
    have HO := Lib.hid ho
    have HF := Lib.hid hf
    clear ho hf
    by_cases hlt : k < 16
    · obtain ⟨cs, vs, d⟩ := H.out.tt HF.out
      have g1 := d.c0 hlt
      have HC := Lib.hid (cliD_succ D k)
      have HL : Hid ((cliD D (k + 1)).length ≤ 16) := by
        rw [cliD_len]; exact Nat.le_trans (manyK_le D (k + 1)) (by omega)
      clear d
      generalize D.has k = bb at *
      cases bb with
      | false =>
        have E : Hid (cliD D (k + 1) = cliD D k) := by have := HC.out; simp at this; exact this
        clear HC
        go_wp2
        go_roundw
        case rel => exact ⟨k + 1, by omega, by go_num, by rw [E.out]; exact HO.out, HF.out⟩
        case measure => simp [intOf]; omega
      | true =>
        have E : Hid (cliD D k ++ [(k : Int)] = cliD D (k + 1)) := by have := HC.out; simp at this; exact this.symm
        clear HC
        go_wp2_with (at_builtin; refine wpList_append_int1 w wr _ HF rfl _ _ rfl _ _ rfl HO rfl _ E (cliD D (k + 1)).length rfl (by have := HL.out; omega) ?_)
        intro a1 c1 w2 O1 G1 G2 N1
        go_wp2
        go_roundw
        case rel => exact ⟨k + 1, by omega, by go_num, O1.out, G1.out⟩
        case measure => simp [intOf]; omega
    · obtain rfl : k = 16 := by omega
      go_wp2
      go_ret
      exact ⟨⟨_, rfl, HO.out⟩, HF.out⟩
end Go.Proofs.Ytkaikckehkcfhaa
/- The document's table of sessions: its bytes. -/
namespace Go.Proofs.Ytkaikckehkcfhaa
open Go.RowKit
set_option linter.unusedVariables false
set_option linter.unusedSimpArgs false

set_option maxRecDepth 100000 in
set_option maxHeartbeats 1000000 in
theorem rbytes_short {K : Nat → Obj → Prop} (w : World) (v : Value) (b : List UInt8) (hb : BytesAt K w v b) (hm : b.length ≤ 1000) :
    Calls Try.prog 37 #[v] w fun e w' => (∃ a c, e = .returned (.slice a (byt b).length c) ∧ RowB w' w.heap.size (.slice a (byt b).length c) (byt b).length (byt b)) ∧ Fr (fun _ _ => True) w w' := by
  obtain ⟨a, cap, rfl⟩ := hb.form
  have K1 := Lib.hid (num01_calls w b.length 2 b.length 2 rfl rfl (by omega) (by omega))
  have EB : Hid (le b.length 2 ++ b = byt b) := by unfold byt; rw [List.take_of_length_le hm]; exact rfl
  have EL : Hid (2 + b.length = (byt b).length) := by rw [← EB.out]; simp [le_length, Hid]
  have HBL : (byt b).length ≤ 1002 := byt_length b
  have HB := Lib.hid hb
  have hm' : (b.length : Int) ≤ 1000 := by omega
  generalize byt b = out at *
  generalize out.length = OL at *
  clear hb
  go_enter Try.func37, Try.ntmps37
  go_wp2_with fail
  with_reducible refine K1.out.mono ?_
  rintro e1 w1 ⟨⟨a1, c1, rfl, hr⟩, f1⟩
  have HR := Lib.hid hr
  have F1 := Lib.hid f1
  have HB1 := Lib.hid (HB.out.tt f1)
  clear hr f1 K1 HB
  go_wp2_with (at_builtin; refine wpList_append_fr w w1 F1 rfl _ _ rfl _ 2 (le b.length 2) rfl HR _ b rfl HB1 OL out EB EL (by omega) ?_)
  intro a2 c2 w2 O2 F2
  go_wp2
  go_ret
  exact ⟨⟨_, _, rfl, O2.out⟩, F2.out⟩

/-- The sessions up to k. -/
def entD (D : DT) (k : Nat) : MT := ((List.range k).filter D.has).map fun (i : Nat) => ((i : Int), ((D.seq i : Nat) : Int), D.rep i)
theorem entD_succ (D : DT) (k : Nat) : entD D (k + 1) = entD D k ++ (if D.has k = true then [((k : Int), ((D.seq k : Nat) : Int), D.rep k)] else []) := by
  unfold entD
  rw [List.range_succ, List.filter_append, List.map_append, List.filter_cons, List.filter_nil]
  cases D.has k <;> rfl
theorem entD_len (D : DT) (k : Nat) : (entD D k).length = manyK D k := by unfold entD manyK; simp
def packD (D : DT) (k : Nat) : List UInt8 := le (manyK D 16) 1 ++ ((entD D k).map entB).flatten
theorem packD_all (D : DT) : packD D 16 = packL (entD D 16) := by unfold packD packL; rw [entD_len]
theorem packD_succ (D : DT) (k : Nat) : packD D (k + 1) = packD D k ++ (if D.has k = true then (le k 1 ++ le (D.seq k) 4) ++ byt (D.rep k) else []) := by
  unfold packD
  rw [entD_succ, List.map_append, List.flatten_append, ← List.append_assoc]
  cases D.has k <;> simp [entB]
theorem packD_len (D : DT) (k : Nat) (hk : k ≤ 16) : (packD D k).length ≤ 20000 := by
  unfold packD
  rw [List.length_append, le_length]
  have h1 := flat_len ((entD D k).map entB) (fun x hx => by obtain ⟨y, _, rfl⟩ := List.mem_map.1 hx; exact entB_len y)
  rw [List.length_map, entD_len] at h1
  have := manyK_le D k
  omega
theorem le_one (n : Nat) : le n 1 = [UInt8.ofNat n] := by simp [le]
theorem BytesAt.one (w : World) (m : UInt8) (x : Int) (hx : x = m.toNat) : RowB (w.alloc (.cells #[.int .u8 x] 5 (0, 0))) w.heap.size (.slice (some ⟨w.heap.size, 0, none⟩) 1 1) 1 [m] := by
  subst hx
  exact World.ownsRow_lit w #[.int .u8 m.toNat] 1 (Nat.le_refl _) (by simp [maxLen]) rfl

set_option maxRecDepth 100000 in
set_option maxHeartbeats 2000000 in
theorem dpack_calls (w : World) (B bk : Nat) (D : DT) (h : D17 w B bk D) :
    Calls Try.prog 16 #[.pointer (some ⟨bk, 0, none⟩)] w fun e w' => (∃ a cap, e = .returned (.slice a (packL (entD D 16)).length cap) ∧ RowB w' w.heap.size (.slice a (packL (entD D 16)).length cap) (packL (entD D 16)).length (packL (entD D 16))) ∧ Fr (fun _ _ => True) w w' := by
  have H := Lib.hid h
  have K1 := Lib.hid (many_calls w B bk D h)
  have HM := manyK_le D 16
  have HPA := Lib.hid (packD_all D)
  have HPL := Lib.hid (packD_len D)
  have HPS := Lib.hid (packD_succ D)
  have HP0 : Hid (packD D 0 = [UInt8.ofNat (manyK D 16)]) := by unfold packD entD; rw [le_one]; simp [Hid]
  have hmb : ((UInt8.ofNat (manyK D 16)).toNat : Int) = (manyK D 16 : Int) := by rw [UInt8.toNat_ofNat']; omega
  have HMB := Lib.hid hmb
  generalize packL (entD D 16) = out at *
  clear h hmb
  generalize hmm : manyK D 16 = m at *
  clear hmm
  have hm8 : (m : Int) ≤ 16 := by omega
  go_enter Try.func16, Try.ntmps16
  go_wp2_with fail
  with_reducible refine K1.out.mono ?_
  rintro e1 w1 ⟨rfl, rfl⟩
  have R0 : Hid (RowB (w.alloc (.cells #[.int .u8 (m : Int)] 5 (0, 0))) w.heap.size (.slice (some ⟨w.heap.size, 0, none⟩) 1 1) 1 (packD D 0)) := by
    rw [HP0.out]; exact BytesAt.one w _ _ HMB.out.symm
  have F0 := Lib.hid ((Fr.refl (fun _ _ => True) w).alloc (.cells #[.int .u8 (m : Int)] 5 (0, 0)))
  have EL0 : Hid ((packD D 0).length = 1) := by rw [HP0.out]; exact rfl
  clear K1
  go_wp2_with fail
  go_loopw [3, 4] (fun o i wr => ∃ (k : Nat) (a : Option Addr) (cap : Nat), k ≤ 16 ∧ i = .int .i64 k ∧ o = .slice a (packD D k).length cap ∧ RowB wr w.heap.size (.slice a (packD D k).length cap) (packD D k).length (packD D k) ∧ Fr (fun _ _ => True) w wr) (fun _ i _ => 16 - (intOf i).toNat)
  case atStart => exact ⟨0, _, _, Nat.zero_le _, rfl, by rw [EL0.out], by rw [EL0.out]; exact R0.out, F0.out⟩
  case round =>
    obtain ⟨k, a, cap, hk, rfl, rfl, ho, hf⟩ := hrel
    have HO := Lib.hid ho
    have HF := Lib.hid hf
    clear ho hf
    by_cases hlt : k < 16
    · obtain ⟨cs, vs, d⟩ := H.out.tt HF.out
      have g1 := d.c0 hlt
      have hps := HPS.out k
      have hpl := HPL.out (k + 1) (by omega)
      cases hb : D.has k with
      | false =>
        rw [hb] at g1 hps
        have E : Hid (packD D (k + 1) = packD D k) := Lib.hid (by simpa using hps)
        clear hps hpl hb d
        go_wp2
        go_roundw
        case rel => exact ⟨k + 1, a, cap, by omega, by go_num, by rw [E.out], by rw [E.out]; exact HO.out, HF.out⟩
        case measure => simp [intOf]; omega
      | true =>
        rw [hb] at g1 hps
        rw [if_pos rfl] at hps
        have x1 : ((UInt8.ofNat k).toNat : Int) = (k : Int) := by rw [UInt8.toNat_ofNat']; omega
        obtain ⟨p1, hp1⟩ : ∃ p1, p1 = packD D k ++ le k 1 := ⟨_, rfl⟩
        obtain ⟨p2, hp2⟩ : ∃ p2, p2 = p1 ++ le (D.seq k) 4 := ⟨_, rfl⟩
        have E1 : Hid (packD D k ++ [UInt8.ofNat k] = p1) := by rw [hp1, le_one]; exact rfl
        have E2 : Hid (p1 ++ le (D.seq k) 4 = p2) := hp2.symm
        have E3 : Hid (p2 ++ byt (D.rep k) = packD D (k + 1)) := Lib.hid (by rw [hps, hp2, hp1]; simp)
        have hl0 := HPL.out k (by omega)
        have N1 : Hid ((packD D k).length + [UInt8.ofNat k].length = (packD D k).length + 1) := rfl
        have N2 : Hid ((packD D k).length + 1 + (le (D.seq k) 4).length = (packD D k).length + 5) := Lib.hid (by rw [le_length])
        have N3 : Hid ((packD D k).length + 5 + (byt (D.rep k)).length = (packD D (k + 1)).length) := Lib.hid (by rw [← E3.out, hp2, hp1]; simp [le_length]; omega)
        have hsm := d.small k hlt
        have hsh := d.short k hlt hb
        have F1 := Lib.hid (HF.out.alloc (.cells #[.int .u8 (k : Int)] 5 (0, 0)))
        have O1 := Lib.hid (HO.out.tt ((Fr.refl _ _).alloc (.cells #[.int .u8 (k : Int)] 5 (0, 0))))
        have S1 : Hid (BytesAt (New wr.heap.size) (wr.alloc (.cells #[.int .u8 (k : Int)] 5 (0, 0))) (.slice (some ⟨wr.heap.size, 0, none⟩) 1 1) [UInt8.ofNat k]) := by rw [← x1]; exact BytesAt.lit' wr _
        have TF : Hid (∀ W, Fr (fun _ _ => True) w W → W.cell? ⟨bk, 16 + k, none⟩ = some (.int .u64 (D.seq k : Nat)) ∧ ∃ v, W.cell? ⟨bk, 32 + k, none⟩ = some v ∧ BytesAt (KD B) W v (D.rep k)) := fun W f => by
          obtain ⟨cs, vs, d⟩ := H.out.tt f
          exact ⟨d.c1 hlt, _, d.c2 hlt, d.bytes k hlt⟩
        have hk8 : (k : Int) ≤ 15 := by omega
        clear hps hb d x1 hp1 hp2
        generalize D.seq k = q at *
        generalize D.rep k = rp at *
        generalize hPL : (packD D k).length = PL at *
        generalize packD D k = pk at *
        clear hPL
        obtain ⟨pk1, hpk1⟩ : ∃ pk1, pk1 = packD D (k + 1) := ⟨_, rfl⟩
        have PKE := Lib.hid hpk1
        rw [← hpk1] at E3 N3 hpl
        clear hpk1
        go_wp2_with (at_builtin; refine wpList_append_fr w _ F1 rfl _ _ rfl _ PL pk rfl O1 _ [UInt8.ofNat k] rfl S1 (PL + 1) p1 E1 N1 (by omega) ?_)
        intro a2 c2 w2 O2 F2
        clear O1 S1 F1 g1
        obtain ⟨g2, _⟩ := TF.out w2 F2.out
        have K2 := Lib.hid (num01_calls w2 q 4 q 4 rfl rfl (by omega) (by omega))
        go_wp2_with fail
        with_reducible refine K2.out.mono ?_
        rintro e1 w3 ⟨⟨a3, c3, rfl, hr3⟩, f3⟩
        have F3 := Lib.hid (F2.out.trans f3)
        have O3 := Lib.hid (O2.out.tt f3)
        have S3 := Lib.hid (BytesAt.of_own hr3 (le_length q 4))
        clear hr3 f3 K2 g2 O2 F2
        go_wp2_with (at_builtin; refine wpList_append_fr w _ F3 rfl _ _ rfl _ (PL + 1) p1 rfl O3 _ (le q 4) rfl S3 (PL + 5) p2 E2 N2 (by omega) ?_)
        intro a4 c4 w4 O4 F4
        clear O3 S3 F3
        obtain ⟨_, v4, g4, b4⟩ := TF.out w4 F4.out
        have K2 := Lib.hid (rbytes_short w4 v4 rp b4 (by omega))
        clear b4
        go_wp2_with fail
        with_reducible refine K2.out.mono ?_
        rintro e1 w5 ⟨⟨a5, c5, rfl, hr5⟩, f5⟩
        have F5 := Lib.hid (F4.out.trans f5)
        have O5 := Lib.hid (O4.out.tt f5)
        have S5 := Lib.hid (BytesAt.of_own hr5 rfl)
        clear hr5 f5 K2 g4 O4 F4
        go_wp2_with (at_builtin; refine wpList_append_fr w _ F5 rfl _ _ rfl _ (PL + 5) p2 rfl O5 _ (byt rp) rfl S5 pk1.length pk1 E3 N3 (by omega) ?_)
        intro a6 c6 w6 O6 F6
        go_wp2
        go_roundw
        case rel => exact ⟨k + 1, a6, c6, by omega, by go_num, by rw [PKE.out], by rw [← PKE.out]; exact O6.out, F6.out⟩
        case measure => simp [intOf]; omega
    · obtain rfl : k = 16 := by omega
      have HPB := HPA.out
      go_wp2
      go_ret
      exact ⟨⟨a, cap, by rw [← HPB]; rfl, by rw [← HPB]; exact HO.out⟩, HF.out⟩
end Go.Proofs.Ytkaikckehkcfhaa
