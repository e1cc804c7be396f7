/- Texts of the proofs, part 17: what the functions that they reach do, walked; no conditions beyond those that each states. -/
import Derived.Deep.RegionHeld3
import Derived.Deep.Cut
import Derived.Test.YtmjccpfchhnfhaaZz1c146201ae
import Derived.Test.YtmjccpfchhnfhaaZze6a20317e7
set_option linter.unusedVariables false
set_option linter.unusedSimpArgs false
/- Terms: Append. -/
namespace Go.Proofs.Ytmjccpfchhnfhaa
open Go.RowKit
set_option linter.unusedVariables false
set_option linter.unusedSimpArgs false
theorem lset {w : World} {g b bt : Nat} {v : Value} {a0 a1 a2 : Value} (h : w.heap[g]? = some (.cells #[a0, a1, a2] 37 (0, 0))) :
  ∃ W, (((w.setCell ⟨g, 0, none⟩ (.int .u64 (b : Nat))).setCell ⟨g, 1, none⟩ (.int .u64 (bt : Nat))).setCell ⟨g, 2, none⟩ v) = W ∧ W.cell? ⟨g, 0, none⟩ = some (.int .u64 (b : Nat)) ∧ W.cell? ⟨g, 1, none⟩ = some (.int .u64 (bt : Nat)) ∧ W.cell? ⟨g, 2, none⟩ = some v ∧ Hid (Fr (fun c _ => c ≠ g) w W) := by
 obtain ⟨W, e, t, f⟩ := set3 h (.int .u64 (b : Nat)) (.int .u64 (bt : Nat)) v
 exact ⟨W, e, cell_mk t rfl, cell_mk t rfl, cell_mk t rfl, f⟩
def AppR [Old] (X : Nat → Prop) (w w' : World) (b bt : Nat) (l : Lg) (c : Int) (e : Ending) : Prop :=
 (∃ a n k f zs, e = .returned (.tuple #[vL b bt (.slice a n k), .int .u64 f, .int .i64 c]) ∧ EsAt X w' (.slice a n k) zs ∧ zs.map EV.en = l.es) ∧ FT w w'
theorem EsAt.fr [Old] {X : Nat → Prop} {K : Nat → Obj → Prop} {w w' : World} {v : Value} {xs : List EV} (h : EsAt X w v xs) (hf : Fr K w w') (hk : ∀ c o, w.heap[c]? = some o → RO X c o → K c o) : EsAt X w' v xs :=
 ⟨h.row.fr hf hk, h.nz, fun x hx => ⟨(h.dat x hx).1.fr3 hf hk, (h.dat x hx).2⟩⟩
set_option maxRecDepth 100000 in
set_option maxHeartbeats 1000000 in
theorem tappend_no [Old] {X : Nat → Prop} (w : World) (b bt p pt : Nat) (a : Option Addr) (n c : Nat) (xs : List EV) (hx : EsAt X w (.slice a n c) xs) (a2 : Option Addr) (m c2 : Nat) (h : b + n < 18446744073709551616) (hp : p + m < 18446744073709551616) (hm : m ≤ 1000000) (hX : ∀ c, X c → c < w.heap.size)
  (hf : (lgE b bt xs).fits p pt m ≠ 0) :
  Calls Try.prog 43 #[vL b bt (.slice a n c), .int .u64 (p : Nat), .int .u64 (pt : Nat), .slice a2 m c2] w fun e w' => AppR X w w' b bt (lgE b bt xs) ((lgE b bt xs).fits p pt m) e := by
 obtain ⟨W1, hW1, F1, X1, CC⟩ := lbox w b bt (.slice a n c)
 obtain ⟨W2, hW2⟩ : ∃ W, W1.alloc (.cells #[.int .u64 0, .int .u64 0, .slice none 0 0] 37 (0, 0)) = W := ⟨_, rfl⟩
 have F2 : Hid (FT W1 W2) := hW2 ▸ (Fr.refl _ _).alloc _
 have X2 : Hid (W2.heap[W1.heap.size]? = some (.cells #[.int .u64 0, .int .u64 0, .slice none 0 0] 37 (0, 0))) := hW2 ▸ heap_alloc_new W1 _
 have S1 : Hid (w.heap.size < W1.heap.size) := lt_of_some X1
 have FC := Lib.hid (tfits_calls W2 b bt p pt m a n c xs ((hx.row.tt F1).tt F2) h hp hm)
 have HX := Lib.hid hx
 generalize (lgE b bt xs).fits p pt m = z at FC hf ⊢
 have g : (z != 0) = true := by simpa using hf
 obtain ⟨x0, x1, x2⟩ := CC W2 F2
 unfold vL at FC ⊢
 clear hx h hp hf
 go_enter Try.func43, Try.ntmps43
 go_wp2_with fail
 try rw [hW1]
 try rw [hW2]
 (with_reducible refine FC.out.mono ?_)
 rintro e w3 ⟨rfl, f3⟩
 have F3 := Lib.hid (F2.trans f3)
 obtain ⟨y0, y1, y2⟩ := CC w3 F3
 have X3 := Lib.hid (f3.keep _ _ X2 trivial)
 have z0 := frozen_mk (i := 0) X3
 have z1 := frozen_mk (i := 1) X3
 have z2 := frozen_mk (i := 2) X3
 have k0 := cell_mk (i := 0) X3 rfl
 have k1 := cell_mk (i := 1) X3 rfl
 have k2 := cell_mk (i := 2) X3 rfl
 obtain ⟨W4, hW4, p0, p1, p2, F4⟩ := lset (b := b) (bt := bt) (v := .slice a n c) X3
 clear hW1 hW2 f3 FC x0 x1 x2
 go_wp2
 try rw [hW4]
 have fin : Fr (fun c _ => True ∧ c < w.heap.size) w W4 := (((F1.out.trans F3.out).tT).trans (F4.out.mono fun c _ h e => by have := h.2; have := S1.out; omega))
 refine bodyPost_ret (v := .tuple #[.agg #[.int .u64 (b : Nat), .int .u64 (bt : Nat), .slice a n c], .int .u64 0, .int .i64 z]) (by simp [results, Try.results43, go_sem, *]) rfl ⟨⟨a, n, c, 0, xs, rfl, ?_, rfl⟩, ?_⟩
 ·try rw [hW4]
  exact HX.fr fin fun c o ho _ => ⟨trivial, lt_of_some ho⟩
 ·try rw [hW4]
  exact Fr.within fin
theorem EsAt.drop [Old] {X : Nat → Prop} {w : World} {a : Option Addr} {n c : Nat} {xs : List EV} (h : EsAt X w (.slice a n c) xs) {d : Nat} (hd : d ≤ xs.length) : EsAt X w (.slice (subS a c d 3) (n - d) (c - d)) (xs.drop d) :=
 ⟨h.row.dropS hd, fun n' c' e => by
  rw [Value.slice.injEq] at e
  obtain ⟨e1, e2, e3⟩ := e
  cases a with
  | none => have := h.nz _ _ rfl; omega
  | some ad => unfold subS at e1; (split at e1 <;> cases e1), (fun x hx => h.dat x (List.mem_of_mem_drop hx))⟩
theorem EsAt.take [Old] {X : Nat → Prop} {w : World} {a : Option Addr} {n c : Nat} {xs : List EV} (h : EsAt X w (.slice a n c) xs) {d : Nat} (hd : d ≤ xs.length) : EsAt X w (.slice a d c) (xs.take d) :=
 ⟨h.row.takeS hd, (fun n' c' e => by cases e; exact h.nz _ _ rfl), (fun x hx => h.dat x (List.mem_of_mem_take hx))⟩
theorem ebox (w : World) (x : EV) : ∃ W, w.alloc (.cells #[.int .u64 (x.t : Nat), .int .i64 x.k, .slice x.a x.d.length x.c] 68 (0, 0)) = W ∧ Hid (FT w W) ∧ Hid (W.heap[w.heap.size]? = some (.cells #[.int .u64 (x.t : Nat), .int .i64 x.k, .slice x.a x.d.length x.c] 68 (0, 0))) :=
 ⟨_, rfl, (Fr.refl _ _).alloc _, heap_alloc_new w _⟩
theorem lay_step {l : Lg} {p : Nat} {x : En} {r : List En} (h : l.term (p + 1) = (x.t, true)) : l.lay p (x :: r) = l.lay (p + 1) r := by
 conv => lhs; unfold Lg.lay
 rw [if_pos h]
theorem lay_stop {l : Lg} {p : Nat} {x : En} {r : List En} (h : l.term (p + 1) ≠ (x.t, true)) : l.lay p (x :: r) = { l with es := l.es.take (p - l.base) ++ x :: r } := by
 conv => lhs; unfold Lg.lay
 rw [if_neg h]
set_option maxRecDepth 100000 in
set_option maxHeartbeats 4000000 in
theorem tappend_yes [Old] {X : Nat → Prop} (w : World) (b bt p pt : Nat) (a : Option Addr) (n c : Nat) (xs : List EV) (hx : EsAt X w (.slice a n c) xs) (a2 : Option Addr) (m c2 : Nat) (ys : List EV) (hy : EsAt X w (.slice a2 m c2) ys) (h : b + n < 18446744073709551616) (hp : p + m < 18446744073709551616) (hn : n ≤ 900000) (hm : m ≤ 900000) (hX : ∀ c, X c → c < w.heap.size)
    (hf : (lgE b bt xs).fits p pt m = 0) :
    Calls Try.prog 43 #[vL b bt (.slice a n c), .int .u64 (p : Nat), .int .u64 (pt : Nat), .slice a2 m c2] w fun e w' => AppR X w w' b bt ((lgE b bt xs).append p pt (ys.map EV.en)).1 0 e := by
  have hnl := hx.row.len'
  have hml := hy.row.len'
  obtain ⟨W1, hW1, F1, X1, CC⟩ := lbox w b bt (.slice a n c)
  obtain ⟨W2, hW2⟩ : ∃ W, W1.alloc (.cells #[.int .u64 0, .int .u64 0, .slice none 0 0] 37 (0, 0)) = W := ⟨_, rfl⟩
  have F2 : Hid (Fr (fun _ _ => True) W1 W2) := hW2 ▸ (Fr.refl _ _).alloc _
  have X2 : Hid (W2.heap[W1.heap.size]? = some (.cells #[.int .u64 0, .int .u64 0, .slice none 0 0] 37 (0, 0))) := hW2 ▸ heap_alloc_new W1 _
  have S1 : Hid (w.heap.size < W1.heap.size) := lt_of_some X1.out
  have FC := Lib.hid (tfits_calls W2 b bt p pt m a n c xs ((hx.row.tt F1.out).tt F2.out) h hp (by omega))
  rw [hf] at FC
  have TC := Lib.hid (fun W (f : Fr (fun _ _ => True) W2 W) (i : Nat) => tterm_calls W b bt i a n c xs (((hx.row.tt F1.out).tt F2.out).tt f) h)
  have HX := Lib.hid hx
  have HY := Lib.hid hy
  have HNL := Lib.hid hnl
  have HML := Lib.hid hml
  have HR : Hid (((lgE b bt xs).append p pt (ys.map EV.en)).1 = if p < b then (lgE b bt xs).lay b ((ys.drop (b - p)).map EV.en) else (lgE b bt xs).lay p (ys.map EV.en)) := by
    show _ = _
    unfold Lg.append
    rw [List.length_map, ← hml, if_neg (by rw [hf]; decide)]
    show (if p < b then _ else _ : Lg × Int).1 = _
    split
    · rw [List.map_drop]
    · rfl
  have HPL : Hid (b ≤ p → p ≤ b + n) := fun hbp => by
    unfold Lg.fits at hf
    rw [lgE_last, ← hnl] at hf
    by_cases q : b + n < p
    · rw [if_pos q] at hf; cases hf
    · omega
  have HPB : Hid (p < b → b - p < m) := fun hbp => by
    unfold Lg.fits at hf
    rw [lgE_last, ← hnl] at hf
    show b - p < m
    by_cases q : b + n < p
    · omega
    · rw [if_neg q] at hf
      rw [if_pos (show p < (lgE b bt xs).base from hbp)] at hf
      by_cases q2 : p + m ≤ b
      · rw [if_pos (show p + m ≤ (lgE b bt xs).base from q2)] at hf; cases hf
      · omega
  have hb64 : b < 18446744073709551616 := by omega
  have HES : Hid ((lgE b bt xs).es = xs.map EV.en ∧ (lgE b bt xs).base = b ∧ ∀ es, ({ lgE b bt xs with es := es } : Lg).es = es) := ⟨rfl, rfl, fun _ => rfl⟩
  have HLAST : Hid ((lgE b bt xs).last = b + n) := by show _ = _; rw [lgE_last, ← hnl]
  obtain ⟨R, hR⟩ : ∃ R, ((lgE b bt xs).append p pt (ys.map EV.en)).1 = R := ⟨_, rfl⟩
  rw [hR] at HR ⊢
  generalize lgE b bt xs = LG at TC HR HES HLAST
  unfold vL at FC TC ⊢
  obtain ⟨x0, x1, x2⟩ := CC.out W2 F2.out
  have hXX := Lib.hid hX
  clear hx hy hf hR hnl hml hX
  by_cases hpb : p < b
  all_goals
    first
      | (have hd := HPB.out hpb
         have hR2 := HR.out
         rw [if_pos hpb] at hR2
         obtain ⟨d, hdd⟩ : ∃ d, b - p = d := ⟨_, rfl⟩
         rw [hdd] at hd hR2
         have hs0 : ∀ w : World, (Instr.slice 35 (.slice a2 m c2) (some (.int .u64 (d : Nat))) none none).run Try.prog w = .ok (.slice (subS a2 c2 d 3) (m - d) (c2 - d)) w := fun w => run_sliceF 3 Try.underlying35 size_enS w a2 m c2 d .u64 (by omega)
         have EE := Lib.hid (HY.out.drop (d := d) (by have := HML.out; omega))
         obtain ⟨E, hE⟩ : ∃ E, ys.drop d = E := ⟨_, rfl⟩
         rw [hE] at EE hR2
         have HEL : Hid (m - d = E.length) := EE.out.row.len'
         obtain ⟨a3, ha3⟩ : ∃ x, subS a2 c2 d 3 = x := ⟨_, rfl⟩
         obtain ⟨m3, hm3⟩ : ∃ x, m - d = x := ⟨_, rfl⟩
         obtain ⟨c3, hc3⟩ : ∃ x, c2 - d = x := ⟨_, rfl⟩
         rw [ha3, hm3, hc3] at hs0 EE
         rw [hm3] at HEL
         obtain ⟨p0, hp0⟩ : ∃ x, b = x := ⟨_, rfl⟩
         have HPE := Lib.hid hp0
         have HP0 : Hid (b ≤ p0 ∧ p0 ≤ b + n ∧ p0 + m3 < 18446744073709551616) := ⟨by omega, by omega, by omega⟩
         have g1 : decide (p < b) = true := decide_eq_true hpb
         have w0 : IntKind.u64.wrap ((b : Int) - (p : Int)) = (d : Int) := by rw [IntKind.wrap_u64]; omega
         have hR3 : Hid (R = LG.lay p0 (E.map EV.en)) := by show _ = _; rw [← hp0]; exact hR2
         have hm39 : m3 ≤ 900000 := by omega
         clear hp0
         clear hd hdd hE ha3 hm3 hc3 hR2)
      | (have g1 : decide (p < b) = false := decide_eq_false hpb
         have hR2 := HR.out
         rw [if_neg hpb] at hR2
         obtain ⟨p0, hp0⟩ : ∃ x, p = x := ⟨_, rfl⟩
         have HPE := Lib.hid hp0
         have HP0 : Hid (b ≤ p0 ∧ p0 ≤ b + n ∧ p0 + m < 18446744073709551616) := ⟨by omega, by have := HPL.out; omega, by omega⟩
         obtain ⟨E, hE⟩ : ∃ E, ys = E := ⟨_, rfl⟩
         obtain ⟨a3, ha3⟩ : ∃ x, a2 = x := ⟨_, rfl⟩
         obtain ⟨m3, hm3⟩ : ∃ x, m = x := ⟨_, rfl⟩
         obtain ⟨c3, hc3⟩ : ∃ x, c2 = x := ⟨_, rfl⟩
         have EE := HY
         rw [hE, ha3, hm3, hc3] at EE
         have HEL : Hid (m3 = E.length) := by show _ = _; rw [← hm3, ← hE]; exact HML.out
         rw [hm3] at HP0
         have hR3 : Hid (R = LG.lay p0 (E.map EV.en)) := by show _ = _; rw [← hp0, ← hE]; exact hR2
         have hm39 : m3 ≤ 900000 := by omega
         clear hp0
         have ha3 := ha3.symm
         have hm3 := hm3.symm
         have hc3 := hc3.symm
         subst ha3 hm3 hc3
         clear hE hR2)
    clear hpb hp hm
    go_enter Try.func43, Try.ntmps43
    go_wp2_with fail
    try rw [hW1]
    try rw [hW2]
    (with_reducible refine FC.out.mono ?_)
    rintro e w3 ⟨rfl, f3⟩
    have F3 := Lib.hid (F2.out.trans f3)
    have G3 := Lib.hid f3
    obtain ⟨y0, y1, y2⟩ := CC.out w3 F3.out
    clear hW1 hW2 f3 FC x0 x1 x2
    go_wp2
    go_loopw [41] (fun i wr => ∃ (k : Nat), i = .int .i64 (k : Nat) ∧ k ≤ m3 ∧ Hid (p0 + k ≤ b + n) ∧ Hid (R = LG.lay (p0 + k) ((E.drop k).map EV.en)) ∧ Hid (Fr (fun _ _ => True) w3 wr)) (fun i _ => m3 - (intOf i).toNat)
    case atStart => exact ⟨0, rfl, Nat.zero_le _, HP0.out.2.1, hR3.out, Fr.refl _ _⟩
    case round =>
      obtain ⟨k, rfl, hk, HPK, HRK, HF⟩ := hrel
      obtain ⟨x0, x1, x2⟩ := CC.out wr (F3.out.trans HF.out)
      clear y0 y1 y2
      by_cases hlt : k < m3
      · have hltI : (k : Int) < (m3 : Int) := by omega
        have hkE : k < E.length := by have := HEL.out; omega
        obtain ⟨bx, off, _, rfl, _, _, hc1⟩ := (((((EE.out.row.tt F1.out).tt F3.out).tt HF.out)).spot (by omega))
        obtain ⟨u1, u2, u3⟩ := RowsAt.e3 (K := fun _ _ => True) hc1 k hkE
        obtain ⟨x, hx⟩ : ∃ x, E[k] = x := ⟨_, rfl⟩
        rw [hx] at u1 u2 u3
        have hdrop : (E.drop k).map EV.en = x.en :: (E.drop (k + 1)).map EV.en := by rw [List.drop_eq_getElem_cons hkE, List.map_cons, hx]
        obtain ⟨i, hi⟩ : ∃ i, p0 + 1 + k = i := ⟨_, rfl⟩
        have hi64 : i < 18446744073709551616 := by have := HP0.out; omega
        have w1 : IntKind.u64.wrap ((p0 : Int) + 1) = (p0 : Int) + 1 := by rw [IntKind.wrap_u64]; have := HP0.out; omega
        have w2 : IntKind.u64.wrap (k : Int) = (k : Int) := by rw [IntKind.wrap_u64]; omega
        have w3' : IntKind.u64.wrap ((p0 : Int) + 1 + (k : Int)) = (i : Int) := by rw [IntKind.wrap_u64]; omega
        obtain ⟨W4, hW4, F4, X4⟩ := ebox wr x
        have TD := Lib.hid (TC.out W4 ((G3.out.trans HF.out).trans F4.out) i)
        have HI := Lib.hid hi
        have HDR := Lib.hid hdrop
        obtain ⟨T, hT⟩ : ∃ T, LG.term i = T := ⟨_, rfl⟩
        have HT := Lib.hid hT
        rw [hT] at TD
        obtain ⟨T1, T2⟩ := T
        dsimp only at TD
        rw [← HPE.out] at w1 w3'
        clear hx hi hdrop hT hc1
        obtain ⟨z0, z1, z2⟩ := CC.out W4 ((F3.out.trans HF.out).trans F4.out)
        have e0 := cell_mk (i := 0) X4.out rfl
        go_wp2_with fail
        try rw [hW4]
        (with_reducible refine TD.out.mono ?_)
        rintro e w5 ⟨rfl, f5⟩
        have F45 := Lib.hid f5
        have F5 := Lib.hid (((G3.out.trans HF.out).trans F4.out).trans f5)
        obtain ⟨s0, s1, s2⟩ := CC.out w5 (F2.out.trans F5.out)
        have e5 := cell_mk (i := 0) (f5.keep _ _ X4.out trivial) rfl
        clear f5 TD z0 z1 z2 e0 hW4 x0 x1 x2 u1 u2 u3
        have NX : Hid (T1 = x.t → T2 = true → p0 + (k + 1) ≤ b + n ∧ R = LG.lay (p0 + (k + 1)) ((E.drop (k + 1)).map EV.en)) := fun q1 q2 => by
          have e : LG.term (p0 + k + 1) = (x.en.t, true) := by rw [show p0 + k + 1 = i by have := HI.out; omega, HT.out, q1, q2]; rfl
          refine ⟨by have := (Lg.term_is (l := LG) (i := p0 + k + 1)).1 (by rw [e]); have := HLAST.out; omega, ?_⟩
          rw [HRK.out, HDR.out, lay_step e]
          rfl
        have ST : Hid (¬ (T1 = x.t ∧ T2 = true) → R.es = (xs.take (p0 + k - b)).map EV.en ++ (E.drop k).map EV.en) := fun q => by
          have e : LG.term (p0 + k + 1) ≠ (x.en.t, true) := by
            rw [show p0 + k + 1 = i by have := HI.out; omega, HT.out]
            intro e
            exact q ⟨congrArg Prod.fst e, congrArg Prod.snd e⟩
          rw [HRK.out, HDR.out, lay_stop e, HES.out.2.1, HES.out.1, List.map_take]
        cases T2 with
        | true =>
          by_cases q : T1 = x.t
          · have g2 : ((T1 : Int) == (x.t : Int)) = true := by rw [q]; simp
            have NX1 := Lib.hid (NX.out q rfl)
            clear q ST NX
            go_wp2
            go_roundw
            case rel => exact ⟨k + 1, by go_num, by omega, NX1.out.1, NX1.out.2, (HF.out.trans F4.out).trans F45.out⟩
            case measure => simp [intOf]; omega
          · have g2 : ((T1 : Int) == (x.t : Int)) = false := by simp; omega
            have ST1 := Lib.hid (ST.out fun h => q h.1)
            clear q ST NX
            have hqn : p0 + k - b ≤ n := by have := HPK.out; omega
            obtain ⟨q, hq⟩ : ∃ q, p0 + k - b = q := ⟨_, rfl⟩
            rw [hq] at hqn ST1
            have w4 : IntKind.u64.wrap ((i : Int) - (b : Int)) = (q : Int) + 1 := by rw [IntKind.wrap_u64]; have := HI.out; have := HP0.out.1; omega
            have w5' : IntKind.u64.wrap ((q : Int) + 1 - 1) = (q : Int) := by rw [IntKind.wrap_u64]; have := HP0.out; omega
            have w6 : IntKind.u64.wrap (q : Int) = (q : Int) := by rw [IntKind.wrap_u64]; have := HP0.out; omega
            have hs1 : ∀ w : World, (Instr.slice 35 (.slice a n c) none (some (.int .u64 (q : Nat))) none).run Try.prog w = .ok (.slice a q c) w := fun w => run_sliceS 3 Try.underlying35 size_enS w a n c q .u64 (by obtain ⟨_, _, e, q2⟩ := HX.out.row.form; cases e; have := HNL.out; omega)
            have hs2 : ∀ w : World, (Instr.slice 35 (.slice (some ⟨bx, off, none⟩) m3 c3) (some (.int .i64 (k : Nat))) none none).run Try.prog w = .ok (.slice (subS (some ⟨bx, off, none⟩) c3 k 3) (m3 - k) (c3 - k)) w := fun w => run_sliceF 3 Try.underlying35 size_enS w (some ⟨bx, off, none⟩) m3 c3 k .i64 (by omega)
            have EA := Lib.hid (((HX.out.take (d := q) (by have := HNL.out; omega)).tt (F1.out.trans F2.out)).tt F5.out)
            have EB := Lib.hid (((EE.out.drop (d := k) (by have := HEL.out; omega)).tt (F1.out.trans F2.out)).tt F5.out)
            obtain ⟨ad, had⟩ : ∃ x, subS (some ⟨bx, off, none⟩) c3 k 3 = x := ⟨_, rfl⟩
            obtain ⟨m4, hm4⟩ : ∃ x, m3 - k = x := ⟨_, rfl⟩
            obtain ⟨c4, hc4⟩ : ∃ x, c3 - k = x := ⟨_, rfl⟩
            rw [had, hm4, hc4] at hs2 EB
            obtain ⟨zs, hzs⟩ : ∃ zs, xs.take q ++ E.drop k = zs := ⟨_, rfl⟩
            have ZS : Hid (zs.map EV.en = R.es) := by show _ = _; rw [← hzs, List.map_append, ST1.out]
            have ZD : Hid (∀ x ∈ zs, BytesAt (RO X) w (.slice x.a x.d.length x.c) x.d ∧ x.d.length ≤ 9223372036854775807) := fun x hx => by
              rw [← hzs] at hx
              rcases List.mem_append.1 hx with h1 | h1
              · exact HX.out.dat x (List.mem_of_mem_take h1)
              · exact EE.out.dat x (List.mem_of_mem_drop h1)
            have ZL : Hid (zs.length ≤ 2000000) := by show _ ≤ _; rw [← hzs, List.length_append, List.length_take, List.length_drop]; have := HNL.out; have := HEL.out; omega
            have U5 : Hid (Fr (fun _ _ => True) w5 w5.drew) := (Fr.refl _ _).drew
            have CON : Hid (∀ W g, Fr (fun _ _ => True) w5 W → W.heap[g]? = some (.cells #[.slice a q c, .slice ad m4 c4] 35 (0, 0)) → Calls Try.prog 63 #[.slice (some ⟨g, 0, none⟩) 2 2] W fun e w' => (∃ a8 k8, e = .returned (.slice a8 zs.length k8) ∧ RowsAt (fun c o => w5.heap.size ≤ c ∧ ∃ cs, o = .cells cs 68 (0, 0)) w' (.slice a8 zs.length k8) 3 encE zs ∧ (a8 = none → k8 = 0)) ∧ Fr (fun _ _ => True) W w') := fun W g f t => by
              have e1 : [xs.take q, E.drop k].flatten = zs := by rw [← hzs]; simp
              refine (concatE_calls (K := RO X) W g 0 2 2 [xs.take q, E.drop k] rfl (fun j hj => ?_) (by unfold sizesE; rw [e1]; exact ZL.out) (by decide) (lt_of_some t)).mono ?_
              · match j, hj with
                | 0, _ => exact ⟨_, cell_mk t rfl, EA.out.row.tt f, EA.out.nz⟩
                | 1, _ => exact ⟨_, cell_mk t rfl, EB.out.row.tt f, EB.out.nz⟩
              · rintro e w' ⟨⟨v, rfl, o⟩, f'⟩
                rw [e1] at o
                have r := (rows_own o encE_len).mono (K' := fun c o => w5.heap.size ≤ c ∧ ∃ cs, o = .cells cs 68 (0, 0)) fun c o _ h => ⟨Nat.le_trans f.size h.1, h.2⟩
                rcases o.2 with ⟨rfl, hz⟩ | ⟨g', cap, cur, rfl, _⟩
                · exact ⟨⟨none, 0, by rw [hz], by rw [hz]; exact r, fun _ => rfl⟩, f'⟩
                · exact ⟨⟨_, cap, rfl, r, fun e => by cases e⟩, f'⟩
            clear EA EB had hm4 hc4 hzs ST1 hq
            go_wp2_with fail
            refine wp_region_cf (K := fun _ _ => True) (by kernel_rfl) [(64, 0), (65, 1), (66, 2), (67, 3), (68, 4), (69, 5), (70, 6), (71, 7), (72, 8), (73, 9), (74, 10), (75, 11), (76, 12), (77, 13)] [(0, []), (1, [0]), (2, []), (3, []), (4, [3]), (5, [2, 4]), (6, [5]), (8, []), (9, []), (10, [8, 9]), (13, []), (7, [1, 6]), (11, [7, 10]), (12, [11])] (ckR [(0, (.pointer (some ⟨w.heap.size, 2, none⟩))), (1, .slice a n c), (2, .int .u64 (i : Nat)), (3, (.pointer (some ⟨w.heap.size, 0, none⟩))), (4, .int .u64 (b : Nat)), (5, .int .u64 ((q : Int) + 1)), (6, .int .u64 (q : Nat)), (7, .slice a q c), (8, .slice (some ⟨bx, off, none⟩) m3 c3), (9, .int .i64 (k : Nat)), (10, .slice ad m4 c4), (13, (.pointer (some ⟨w.heap.size, 2, none⟩)))] [(11, ⟨fun v W => ∃ g, v = .slice (some ⟨g, 0, none⟩) 2 2 ∧ W.heap[g]? = some (.cells #[.slice a q c, .slice ad m4 c4] 35 (0, 0)), fun v W W' h hf => by obtain ⟨g, h1, h2⟩ := h; exact ⟨g, h1, hf.keep _ _ h2 trivial⟩⟩), (12, ⟨fun v W => ∃ a8 k8, v = .slice a8 zs.length k8 ∧ RowsAt (fun c o => w5.heap.size ≤ c ∧ ∃ cs, o = .cells cs 68 (0, 0)) W v 3 encE zs ∧ (a8 = none → k8 = 0), fun v W W' h hf => by obtain ⟨a8, k8, h1, h2, h3⟩ := h; exact ⟨a8, k8, h1, h2.tt hf, h3⟩⟩)] 14 0) 1 (by kernel_rfl) (by kernel_rfl) (by kernel_rfl) rfl ?cfall ?cfend
            case cfall =>
              iterate 11
                refine CfAll.kk rfl rfl rfl (fun xs W hF hE K' hK => ?_) ?_
                · have HF := Lib.hid hF
                  clear hF
                  simp only [ckEqs, ckLook, Nat.reduceBEq] at hE
                  simp only [fillA, fillL, sA, sB, sC, Act.put, hE] at hK ⊢
                  clear hE
                  obtain ⟨s0, s1, s2⟩ := CC.out W ((F2.out.trans F5.out).trans (U5.out.trans HF.out))
                  (try simp only [gA, gB, gC])
                  go_simp
                  exact hK.out _ rfl
              refine CfAll.k rfl rfl (fun xs W hF hA hE K' hK => ?_) ?_
              · have HF := Lib.hid hF
                clear hA hF
                simp only [ckEqs, ckLook, Nat.reduceBEq] at hE
                simp only [fillA, fillL, sA, sB, sC, Act.put, hE] at hK ⊢
                clear hE
                (try simp only [gA, gB, gC])
                go_simp
                exact hK.out _ _ _ rfl (Fr.refl _ _) rfl
              refine CfAll.k rfl rfl (fun xs W hF hA hE K' hK => ?_) ?_
              · have HF := Lib.hid hF
                clear hA hF
                simp only [ckEqs, ckLook, Nat.reduceBEq] at hE
                simp only [fillA, fillL, sA, sB, sC, Act.put, hE] at hK ⊢
                clear hE
                obtain ⟨WB, hWB⟩ : ∃ X, W.alloc (.cells #[.slice a q c, .slice ad m4 c4] 35 (0, 0)) = X := ⟨_, rfl⟩
                have FB : Fr (fun _ _ => True) W WB := hWB ▸ (Fr.refl _ _).alloc _
                have TB : WB.heap[W.heap.size]? = some (.cells #[.slice a q c, .slice ad m4 c4] 35 (0, 0)) := hWB ▸ heap_alloc_new _ _
                (try simp only [gA, gB, gC])
                go_simp
                try rw [hWB]
                exact hK.out _ _ _ rfl FB ⟨_, rfl, TB⟩
              refine CfAll.k rfl rfl (fun xs W hF hA hE K' hK => ?_) ?_
              · have HF := Lib.hid hF
                have h11 := hA 11 (by decide)
                clear hA hF
                simp only [ckEqs, ckLook, Nat.reduceBEq] at hE
                simp only [fillA, fillL, sA, sB, sC, Act.put, hE] at hK ⊢
                clear hE
                obtain ⟨g, hg, tg⟩ := h11
                rw [hg] at hK ⊢
                have CN := Lib.hid (CON.out W g ((U5.out.trans HF.out)) tg)
                clear tg hg
                (try simp only [gA, gB, gC])
                go_simp
                (with_reducible refine CN.out.mono ?_)
                rintro e w8 ⟨⟨a8, k8, rfl, r8, z8⟩, f8⟩
                exact hK.out _ _ _ rfl f8 ⟨a8, k8, rfl, r8, z8⟩
              exact CfAll.nil
            case cfend =>
              intro xs W hF hA
              have HF := Lib.hid hF
              have hE := ckEnd rfl hA
              have h11 := hA (11, [7, 10]) (by decide)
              have h12 := hA (12, [11]) (by decide)
              clear hA hF
              simp only [List.map_cons, List.map_nil, ckEqs, ckLook, Nat.reduceBEq] at hE
              simp only [fillA, fillL, sA, sB, sC, hE]
              clear hE
              obtain ⟨a8, k8, e12, r8, z8⟩ := h12
              rw [e12] at r8 ⊢
              have R8 := Lib.hid r8
              clear e12 r8
              have XB := Lib.hid ((U5.out.trans HF.out).keep _ _ (F5.out.keep _ _ (F2.out.keep _ _ X1.out trivial) trivial) trivial)
              have kb := cell_mk (i := 2) XB.out rfl
              have zb := frozen_mk (i := 2) XB.out
              refine wpAny_last 14 (by kernel_rfl) (by kernel_rfl) rfl fun K' hK => ?_
              (try simp only [List.getElem_toArray, List.getElem_cons_zero, List.getElem_cons_succ])
              go_simp
              refine hK.out _ _ ?_
              clear hK K' kb zb
              obtain ⟨WA, hWA⟩ : ∃ X, W.setCell ⟨w.heap.size, 2, none⟩ (.slice a8 zs.length k8) = X := ⟨_, rfl⟩
              have YA : Hid (WA.heap[w.heap.size]? = some (.cells #[.int .u64 (b : Nat), .int .u64 (bt : Nat), .slice a8 zs.length k8] 37 (0, 0))) := hWA ▸ heap_setCell_same (o := 2) XB.out _
              have GA : Hid (Fr (fun c _ => c ≠ w.heap.size) W WA) := hWA ▸ (Fr.refl _ _).setCell (fun _ _ h => h rfl) _
              have X3 : Hid (WA.heap[W1.heap.size]? = some (.cells #[.int .u64 0, .int .u64 0, .slice none 0 0] 37 (0, 0))) := GA.out.keep _ _ ((U5.out.trans HF.out).keep _ _ (F5.out.keep _ _ X2.out trivial) trivial) (by have := S1.out; omega)
              have x0 := cell_mk (i := 0) YA.out rfl
              have x1 := cell_mk (i := 1) YA.out rfl
              have x2 := cell_mk (i := 2) YA.out rfl
              have z0 := frozen_mk (i := 0) X3.out
              have z1 := frozen_mk (i := 1) X3.out
              have z2 := frozen_mk (i := 2) X3.out
              have k0 := cell_mk (i := 0) X3.out rfl
              have k1 := cell_mk (i := 1) X3.out rfl
              have k2 := cell_mk (i := 2) X3.out rfl
              obtain ⟨WC, hWC, p0', p1, p2, F4'⟩ := lset (b := b) (bt := bt) (v := .slice a8 zs.length k8) X3.out
              try rw [hWA]
              clear hWA s0 s1 s2 e5 w1 w2 w3' w4 w5' w6 hs1 hs2
              go_wp2
              try rw [hWC]
              have fall := (F1.out.trans F2.out).trans (F5.out.trans (U5.out.trans HF.out))
              have fin : Fr (fun c _ => True ∧ c < w.heap.size) w WC := ((fall.mono fun _ _ _ => trivial).trans (GA.out.mono fun c _ h e => by have := h.2; omega)).trans (F4'.out.mono fun c _ h e => by have := h.2; have := S1.out; omega)
              have sz5 : W1.heap.size < w5.heap.size := Nat.lt_of_lt_of_le (lt_of_some X2.out) F5.out.size
              have sz1 := S1.out
              refine bodyPost_ret (v := .tuple #[.agg #[.int .u64 (b : Nat), .int .u64 (bt : Nat), .slice a8 zs.length k8], .int .u64 (i : Nat), .int .i64 0]) (by simp [results, Try.results43, go_sem, *]) rfl ⟨⟨a8, zs.length, k8, (i : Nat), zs, rfl, ⟨?_, ?_, ?_⟩, ZS.out⟩, ?_⟩
              · try rw [hWC]
                exact ((R8.out.fr GA.out fun c o ho hc => by have := hc.1; omega).fr F4'.out fun c o ho hc => by have := hc.1; omega).mono fun c o ho hc => ⟨fun hc2 => by have := hc.1; have := hXX.out c hc2; omega, by obtain ⟨cs, e⟩ := hc.2; exact .inr ⟨cs, _, _, e, by decide⟩⟩
              · intro n' c' e
                rw [Value.slice.injEq] at e
                rw [← e.2.2]
                exact z8 e.1
              · try rw [hWC]
                intro x hx
                exact ⟨(ZD.out x hx).1.fr3 fin fun c o ho _ => ⟨trivial, lt_of_some ho⟩, (ZD.out x hx).2⟩
              · try rw [hWC]
                exact Fr.within fin
        | false =>
          have ST1 := Lib.hid (ST.out fun h => by cases h.2)
          clear ST NX
          have hqn : p0 + k - b ≤ n := by have := HPK.out; omega
          obtain ⟨q, hq⟩ : ∃ q, p0 + k - b = q := ⟨_, rfl⟩
          rw [hq] at hqn ST1
          have w4 : IntKind.u64.wrap ((i : Int) - (b : Int)) = (q : Int) + 1 := by rw [IntKind.wrap_u64]; have := HI.out; have := HP0.out.1; omega
          have w5' : IntKind.u64.wrap ((q : Int) + 1 - 1) = (q : Int) := by rw [IntKind.wrap_u64]; have := HP0.out; omega
          have w6 : IntKind.u64.wrap (q : Int) = (q : Int) := by rw [IntKind.wrap_u64]; have := HP0.out; omega
          have hs1 : ∀ w : World, (Instr.slice 35 (.slice a n c) none (some (.int .u64 (q : Nat))) none).run Try.prog w = .ok (.slice a q c) w := fun w => run_sliceS 3 Try.underlying35 size_enS w a n c q .u64 (by obtain ⟨_, _, e, q2⟩ := HX.out.row.form; cases e; have := HNL.out; omega)
          have hs2 : ∀ w : World, (Instr.slice 35 (.slice (some ⟨bx, off, none⟩) m3 c3) (some (.int .i64 (k : Nat))) none none).run Try.prog w = .ok (.slice (subS (some ⟨bx, off, none⟩) c3 k 3) (m3 - k) (c3 - k)) w := fun w => run_sliceF 3 Try.underlying35 size_enS w (some ⟨bx, off, none⟩) m3 c3 k .i64 (by omega)
          have EA := Lib.hid (((HX.out.take (d := q) (by have := HNL.out; omega)).tt (F1.out.trans F2.out)).tt F5.out)
          have EB := Lib.hid (((EE.out.drop (d := k) (by have := HEL.out; omega)).tt (F1.out.trans F2.out)).tt F5.out)
          obtain ⟨ad, had⟩ : ∃ x, subS (some ⟨bx, off, none⟩) c3 k 3 = x := ⟨_, rfl⟩
          obtain ⟨m4, hm4⟩ : ∃ x, m3 - k = x := ⟨_, rfl⟩
          obtain ⟨c4, hc4⟩ : ∃ x, c3 - k = x := ⟨_, rfl⟩
          rw [had, hm4, hc4] at hs2 EB
          obtain ⟨zs, hzs⟩ : ∃ zs, xs.take q ++ E.drop k = zs := ⟨_, rfl⟩
          have ZS : Hid (zs.map EV.en = R.es) := by show _ = _; rw [← hzs, List.map_append, ST1.out]
          have ZD : Hid (∀ x ∈ zs, BytesAt (RO X) w (.slice x.a x.d.length x.c) x.d ∧ x.d.length ≤ 9223372036854775807) := fun x hx => by
            rw [← hzs] at hx
            rcases List.mem_append.1 hx with h1 | h1
            · exact HX.out.dat x (List.mem_of_mem_take h1)
            · exact EE.out.dat x (List.mem_of_mem_drop h1)
          have ZL : Hid (zs.length ≤ 2000000) := by show _ ≤ _; rw [← hzs, List.length_append, List.length_take, List.length_drop]; have := HNL.out; have := HEL.out; omega
          have U5 : Hid (Fr (fun _ _ => True) w5 w5.drew) := (Fr.refl _ _).drew
          have CON : Hid (∀ W g, Fr (fun _ _ => True) w5 W → W.heap[g]? = some (.cells #[.slice a q c, .slice ad m4 c4] 35 (0, 0)) → Calls Try.prog 63 #[.slice (some ⟨g, 0, none⟩) 2 2] W fun e w' => (∃ a8 k8, e = .returned (.slice a8 zs.length k8) ∧ RowsAt (fun c o => w5.heap.size ≤ c ∧ ∃ cs, o = .cells cs 68 (0, 0)) w' (.slice a8 zs.length k8) 3 encE zs ∧ (a8 = none → k8 = 0)) ∧ Fr (fun _ _ => True) W w') := fun W g f t => by
            have e1 : [xs.take q, E.drop k].flatten = zs := by rw [← hzs]; simp
            refine (concatE_calls (K := RO X) W g 0 2 2 [xs.take q, E.drop k] rfl (fun j hj => ?_) (by unfold sizesE; rw [e1]; exact ZL.out) (by decide) (lt_of_some t)).mono ?_
            · match j, hj with
              | 0, _ => exact ⟨_, cell_mk t rfl, EA.out.row.tt f, EA.out.nz⟩
              | 1, _ => exact ⟨_, cell_mk t rfl, EB.out.row.tt f, EB.out.nz⟩
            · rintro e w' ⟨⟨v, rfl, o⟩, f'⟩
              rw [e1] at o
              have r := (rows_own o encE_len).mono (K' := fun c o => w5.heap.size ≤ c ∧ ∃ cs, o = .cells cs 68 (0, 0)) fun c o _ h => ⟨Nat.le_trans f.size h.1, h.2⟩
              rcases o.2 with ⟨rfl, hz⟩ | ⟨g', cap, cur, rfl, _⟩
              · exact ⟨⟨none, 0, by rw [hz], by rw [hz]; exact r, fun _ => rfl⟩, f'⟩
              · exact ⟨⟨_, cap, rfl, r, fun e => by cases e⟩, f'⟩
          clear EA EB had hm4 hc4 hzs ST1 hq
          go_wp2_with fail
          refine wp_region_cf (K := fun _ _ => True) (by kernel_rfl) [(64, 0), (65, 1), (66, 2), (67, 3), (68, 4), (69, 5), (70, 6), (71, 7), (72, 8), (73, 9), (74, 10), (75, 11), (76, 12), (77, 13)] [(0, []), (1, [0]), (2, []), (3, []), (4, [3]), (5, [2, 4]), (6, [5]), (8, []), (9, []), (10, [8, 9]), (13, []), (7, [1, 6]), (11, [7, 10]), (12, [11])] (ckR [(0, (.pointer (some ⟨w.heap.size, 2, none⟩))), (1, .slice a n c), (2, .int .u64 (i : Nat)), (3, (.pointer (some ⟨w.heap.size, 0, none⟩))), (4, .int .u64 (b : Nat)), (5, .int .u64 ((q : Int) + 1)), (6, .int .u64 (q : Nat)), (7, .slice a q c), (8, .slice (some ⟨bx, off, none⟩) m3 c3), (9, .int .i64 (k : Nat)), (10, .slice ad m4 c4), (13, (.pointer (some ⟨w.heap.size, 2, none⟩)))] [(11, ⟨fun v W => ∃ g, v = .slice (some ⟨g, 0, none⟩) 2 2 ∧ W.heap[g]? = some (.cells #[.slice a q c, .slice ad m4 c4] 35 (0, 0)), fun v W W' h hf => by obtain ⟨g, h1, h2⟩ := h; exact ⟨g, h1, hf.keep _ _ h2 trivial⟩⟩), (12, ⟨fun v W => ∃ a8 k8, v = .slice a8 zs.length k8 ∧ RowsAt (fun c o => w5.heap.size ≤ c ∧ ∃ cs, o = .cells cs 68 (0, 0)) W v 3 encE zs ∧ (a8 = none → k8 = 0), fun v W W' h hf => by obtain ⟨a8, k8, h1, h2, h3⟩ := h; exact ⟨a8, k8, h1, h2.tt hf, h3⟩⟩)] 14 0) 1 (by kernel_rfl) (by kernel_rfl) (by kernel_rfl) rfl ?cfall ?cfend
          case cfall =>
            iterate 11
              refine CfAll.kk rfl rfl rfl (fun xs W hF hE K' hK => ?_) ?_
              · have HF := Lib.hid hF
                clear hF
                simp only [ckEqs, ckLook, Nat.reduceBEq] at hE
                simp only [fillA, fillL, sA, sB, sC, Act.put, hE] at hK ⊢
                clear hE
                obtain ⟨s0, s1, s2⟩ := CC.out W ((F2.out.trans F5.out).trans (U5.out.trans HF.out))
                (try simp only [gA, gB, gC])
                go_simp
                exact hK.out _ rfl
            refine CfAll.k rfl rfl (fun xs W hF hA hE K' hK => ?_) ?_
            · have HF := Lib.hid hF
              clear hA hF
              simp only [ckEqs, ckLook, Nat.reduceBEq] at hE
              simp only [fillA, fillL, sA, sB, sC, Act.put, hE] at hK ⊢
              clear hE
              (try simp only [gA, gB, gC])
              go_simp
              exact hK.out _ _ _ rfl (Fr.refl _ _) rfl
            refine CfAll.k rfl rfl (fun xs W hF hA hE K' hK => ?_) ?_
            · have HF := Lib.hid hF
              clear hA hF
              simp only [ckEqs, ckLook, Nat.reduceBEq] at hE
              simp only [fillA, fillL, sA, sB, sC, Act.put, hE] at hK ⊢
              clear hE
              obtain ⟨WB, hWB⟩ : ∃ X, W.alloc (.cells #[.slice a q c, .slice ad m4 c4] 35 (0, 0)) = X := ⟨_, rfl⟩
              have FB : Fr (fun _ _ => True) W WB := hWB ▸ (Fr.refl _ _).alloc _
              have TB : WB.heap[W.heap.size]? = some (.cells #[.slice a q c, .slice ad m4 c4] 35 (0, 0)) := hWB ▸ heap_alloc_new _ _
              (try simp only [gA, gB, gC])
              go_simp
              try rw [hWB]
              exact hK.out _ _ _ rfl FB ⟨_, rfl, TB⟩
            refine CfAll.k rfl rfl (fun xs W hF hA hE K' hK => ?_) ?_
            · have HF := Lib.hid hF
              have h11 := hA 11 (by decide)
              clear hA hF
              simp only [ckEqs, ckLook, Nat.reduceBEq] at hE
              simp only [fillA, fillL, sA, sB, sC, Act.put, hE] at hK ⊢
              clear hE
              obtain ⟨g, hg, tg⟩ := h11
              rw [hg] at hK ⊢
              have CN := Lib.hid (CON.out W g ((U5.out.trans HF.out)) tg)
              clear tg hg
              (try simp only [gA, gB, gC])
              go_simp
              (with_reducible refine CN.out.mono ?_)
              rintro e w8 ⟨⟨a8, k8, rfl, r8, z8⟩, f8⟩
              exact hK.out _ _ _ rfl f8 ⟨a8, k8, rfl, r8, z8⟩
            exact CfAll.nil
          case cfend =>
            intro xs W hF hA
            have HF := Lib.hid hF
            have hE := ckEnd rfl hA
            have h11 := hA (11, [7, 10]) (by decide)
            have h12 := hA (12, [11]) (by decide)
            clear hA hF
            simp only [List.map_cons, List.map_nil, ckEqs, ckLook, Nat.reduceBEq] at hE
            simp only [fillA, fillL, sA, sB, sC, hE]
            clear hE
            obtain ⟨a8, k8, e12, r8, z8⟩ := h12
            rw [e12] at r8 ⊢
            have R8 := Lib.hid r8
            clear e12 r8
            have XB := Lib.hid ((U5.out.trans HF.out).keep _ _ (F5.out.keep _ _ (F2.out.keep _ _ X1.out trivial) trivial) trivial)
            have kb := cell_mk (i := 2) XB.out rfl
            have zb := frozen_mk (i := 2) XB.out
            refine wpAny_last 14 (by kernel_rfl) (by kernel_rfl) rfl fun K' hK => ?_
            (try simp only [List.getElem_toArray, List.getElem_cons_zero, List.getElem_cons_succ])
            go_simp
            refine hK.out _ _ ?_
            clear hK K' kb zb
            obtain ⟨WA, hWA⟩ : ∃ X, W.setCell ⟨w.heap.size, 2, none⟩ (.slice a8 zs.length k8) = X := ⟨_, rfl⟩
            have YA : Hid (WA.heap[w.heap.size]? = some (.cells #[.int .u64 (b : Nat), .int .u64 (bt : Nat), .slice a8 zs.length k8] 37 (0, 0))) := hWA ▸ heap_setCell_same (o := 2) XB.out _
            have GA : Hid (Fr (fun c _ => c ≠ w.heap.size) W WA) := hWA ▸ (Fr.refl _ _).setCell (fun _ _ h => h rfl) _
            have X3 : Hid (WA.heap[W1.heap.size]? = some (.cells #[.int .u64 0, .int .u64 0, .slice none 0 0] 37 (0, 0))) := GA.out.keep _ _ ((U5.out.trans HF.out).keep _ _ (F5.out.keep _ _ X2.out trivial) trivial) (by have := S1.out; omega)
            have x0 := cell_mk (i := 0) YA.out rfl
            have x1 := cell_mk (i := 1) YA.out rfl
            have x2 := cell_mk (i := 2) YA.out rfl
            have z0 := frozen_mk (i := 0) X3.out
            have z1 := frozen_mk (i := 1) X3.out
            have z2 := frozen_mk (i := 2) X3.out
            have k0 := cell_mk (i := 0) X3.out rfl
            have k1 := cell_mk (i := 1) X3.out rfl
            have k2 := cell_mk (i := 2) X3.out rfl
            obtain ⟨WC, hWC, p0', p1, p2, F4'⟩ := lset (b := b) (bt := bt) (v := .slice a8 zs.length k8) X3.out
            try rw [hWA]
            clear hWA s0 s1 s2 e5 w1 w2 w3' w4 w5' w6 hs1 hs2
            go_wp2
            try rw [hWC]
            have fall := (F1.out.trans F2.out).trans (F5.out.trans (U5.out.trans HF.out))
            have fin : Fr (fun c _ => True ∧ c < w.heap.size) w WC := ((fall.mono fun _ _ _ => trivial).trans (GA.out.mono fun c _ h e => by have := h.2; omega)).trans (F4'.out.mono fun c _ h e => by have := h.2; have := S1.out; omega)
            have sz5 : W1.heap.size < w5.heap.size := Nat.lt_of_lt_of_le (lt_of_some X2.out) F5.out.size
            have sz1 := S1.out
            refine bodyPost_ret (v := .tuple #[.agg #[.int .u64 (b : Nat), .int .u64 (bt : Nat), .slice a8 zs.length k8], .int .u64 (i : Nat), .int .i64 0]) (by simp [results, Try.results43, go_sem, *]) rfl ⟨⟨a8, zs.length, k8, (i : Nat), zs, rfl, ⟨?_, ?_, ?_⟩, ZS.out⟩, ?_⟩
            · try rw [hWC]
              exact ((R8.out.fr GA.out fun c o ho hc => by have := hc.1; omega).fr F4'.out fun c o ho hc => by have := hc.1; omega).mono fun c o ho hc => ⟨fun hc2 => by have := hc.1; have := hXX.out c hc2; omega, by obtain ⟨cs, e⟩ := hc.2; exact .inr ⟨cs, _, _, e, by decide⟩⟩
            · intro n' c' e
              rw [Value.slice.injEq] at e
              rw [← e.2.2]
              exact z8 e.1
            · try rw [hWC]
              intro x hx
              exact ⟨(ZD.out x hx).1.fr3 fin fun c o ho _ => ⟨trivial, lt_of_some ho⟩, (ZD.out x hx).2⟩
            · try rw [hWC]
              exact Fr.within fin
      · have hge : ¬ (k : Int) < (m3 : Int) := by omega
        have RE : Hid (R = LG) := by
          show _ = _
          rw [HRK.out, List.drop_of_length_le (by have := HEL.out; omega)]
          rfl
        have X3 := Lib.hid (HF.out.keep _ _ (G3.out.keep _ _ X2.out trivial) trivial)
        have z0 := frozen_mk (i := 0) X3.out
        have z1 := frozen_mk (i := 1) X3.out
        have z2 := frozen_mk (i := 2) X3.out
        have k0 := cell_mk (i := 0) X3.out rfl
        have k1 := cell_mk (i := 1) X3.out rfl
        have k2 := cell_mk (i := 2) X3.out rfl
        obtain ⟨W4, hW4, p0', p1, p2, F4⟩ := lset (b := b) (bt := bt) (v := .slice a n c) X3.out
        go_wp2
        try rw [hW4]
        have fin : Fr (fun c _ => True ∧ c < w.heap.size) w W4 := ((((F1.out.trans F3.out).trans HF.out).mono fun _ _ _ => trivial).trans (F4.out.mono fun c _ h e => by have := h.2; have := S1.out; omega))
        refine bodyPost_ret (v := .tuple #[.agg #[.int .u64 (b : Nat), .int .u64 (bt : Nat), .slice a n c], .int .u64 0, .int .i64 0]) (by simp [results, Try.results43, go_sem, *]) rfl ⟨⟨a, n, c, 0, xs, rfl, ?_, ?_⟩, ?_⟩
        · try rw [hW4]
          exact HX.out.fr fin fun c o ho _ => ⟨trivial, lt_of_some ho⟩
        · rw [RE.out, HES.out.1]
        · try rw [hW4]
          exact Fr.within fin
theorem tappend_calls [Old] {X : Nat → Prop} (w : World) (b bt p pt : Nat) (a : Option Addr) (n c : Nat) (xs : List EV) (hx : EsAt X w (.slice a n c) xs) (a2 : Option Addr) (m c2 : Nat) (ys : List EV) (hy : EsAt X w (.slice a2 m c2) ys) (h : b + n < 18446744073709551616) (hp : p + m < 18446744073709551616) (hn : n ≤ 900000) (hm : m ≤ 900000) (hX : ∀ c, X c → c < w.heap.size) :
  Calls Try.prog 43 #[vL b bt (.slice a n c), .int .u64 (p : Nat), .int .u64 (pt : Nat), .slice a2 m c2] w fun e w' => AppR X w w' b bt ((lgE b bt xs).append p pt (ys.map EV.en)).1 ((lgE b bt xs).append p pt (ys.map EV.en)).2 e := by
 have hml := hy.row.len'
 by_cases hf : (lgE b bt xs).fits p pt m = 0
 ·have e : ((lgE b bt xs).append p pt (ys.map EV.en)).2 = 0 := by
   unfold Lg.append
   rw [List.length_map, ← hml, if_neg (by rw [hf]; decide)]
   split <;> rfl
  rw [e]
  exact tappend_yes w b bt p pt a n c xs hx a2 m c2 ys hy h hp hn hm hX hf
 ·have e : (lgE b bt xs).append p pt (ys.map EV.en) = (lgE b bt xs, (lgE b bt xs).fits p pt m) := by
   unfold Lg.append
   rw [List.length_map, ← hml, if_pos hf]
  rw [e]
  exact tappend_no w b bt p pt a n c xs hx a2 m c2 h hp (by omega) hX hf
end Go.Proofs.Ytmjccpfchhnfhaa
