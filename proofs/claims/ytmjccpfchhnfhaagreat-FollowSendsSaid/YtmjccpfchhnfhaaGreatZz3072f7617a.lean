/- Texts of the proofs, part 24: what the functions that they reach do, walked; no conditions beyond those that each states. -/
import Derived.Test.YtmjccpfchhnfhaaGreatZz7dc4cd1d33
set_option linter.unusedVariables false
set_option linter.unusedSimpArgs false
/- follow: Behind (printed by hu.py). -/
namespace Go.Proofs.YtmjccpfchhnfhaaGreat
open Go.RowKit
set_option linter.unusedVariables false
set_option linter.unusedSimpArgs false
set_option maxRecDepth 100000 in
set_option maxHeartbeats 1000000 in
theorem indexfuncM {K : Nat → Obj → Prop} (w : World) (v : Value) (xs : List Int) (g : Nat) (lb : Array Value) (p : Int → Bool) (eg : ∀ args w, (callFunc g args).run Tryz.prog w = .ok (.enter g args) w) (hrow : IntsAt K w v xs) (hl : xs.length ≤ 1000000)
  (hp : ∀ W h, h ∈ xs → Fr (fun _ _ => True) w W → Calls Tryz.prog g (#[.int .i64 h] ++ lb) W fun e w' => e = .returned (.bool (p h)) ∧ Fr (fun _ _ => True) W w') :
  Calls Tryz.prog 109 #[v, .func (.func g) #[] lb] w fun e w' => e = .returned (.int .i64 (idxF p xs)) ∧ Fr (fun _ _ => True) w w' := by
 obtain ⟨a, cp, rfl⟩ := hrow.form
 have HR := Lib.hid hrow
 have HP := Lib.hid hp
 have HIT := Lib.hid (fun i hi hp h => @idxF_hit p xs i hi hp h)
 have NONE := Lib.hid (@idxF_none p xs)
 clear hrow hp
 obtain ⟨z, hz⟩ : ∃ z, idxF p xs = z := ⟨_, rfl⟩
 rw [hz] at HIT NONE ⊢
 clear hz
 go_enter Tryz.func109, Tryz.ntmps109
 go_wp2
 go_loopw [8] (fun v8 wr => ∃ i : Nat, v8 = .int .i64 i ∧ i ≤ xs.length ∧ Hid (∀ j, (hj : j < xs.length) → j < i → p xs[j] = false) ∧ Hid (Fr (fun _ _ => True) w wr)) (fun v8 _ => xs.length - (intOf v8).toNat)
 case atStart => exact ⟨0, rfl, Nat.zero_le _, fun j _ h => (by omega), Fr.refl _ _⟩
 case round =>
  obtain ⟨i, rfl, hi, HN, HF⟩ := hrel
  by_cases hlt : i < xs.length
  ·have hltI : (i : Int) < xs.length := by omega
   obtain ⟨b, off, rfl⟩ := HR.out.addr (by omega)
   have k0 := (HR.out.tt HF.out).cell hlt
   obtain ⟨x, hx⟩ : ∃ x, xs[i] = x := ⟨_, rfl⟩
   rw [hx] at k0
   have HX := Lib.hid hx
   have PC := Lib.hid (HP.out wr x (hx ▸ List.getElem_mem _) HF.out)
   clear hx
   cases hq : p x with
   | true =>
    rw [hq] at PC
    have HQ := Lib.hid hq
    clear hq
    go_wp2_with fail
    (with_reducible refine PC.out.mono ?_)
    rintro e w' ⟨rfl, f'⟩
    have F' := Lib.hid (HF.out.trans f')
    clear f' PC
    go_wp2
    go_ret
    refine ⟨?_, F'.out⟩
    have := HIT.out i hlt (by rw [HX.out]; exact HQ.out) HN.out
    rw [this]; rfl
   | false =>
    rw [hq] at PC
    have HQ := Lib.hid hq
    clear hq
    go_wp2_with fail
    (with_reducible refine PC.out.mono ?_)
    rintro e w' ⟨rfl, f'⟩
    have F' := Lib.hid (HF.out.trans f')
    clear f' PC
    go_wp2
    go_roundw
    case rel => exact ⟨i + 1, by go_num, hlt, fun j hj hji => by
     by_cases e : j = i
     ·subst e; rw [HX.out]; exact HQ.out
     ·exact HN.out j hj (by omega), F'.out⟩
    case measure => simp [intOf]; omega
  ·have hge : (xs.length : Int) ≤ i := by omega
   go_wp2
   go_ret
   refine ⟨?_, HF.out⟩
   rw [NONE.out fun j hj => HN.out j hj (by omega)]; rfl
set_option maxRecDepth 100000 in
set_option maxHeartbeats 4000000 in
theorem delfM_some (w : World) (B g n cap : Nat) (xs : List Int) (fn : Nat) (lb : Array Value) (p : Int → Bool) (eg : ∀ args w, (callFunc fn args).run Tryz.prog w = .ok (.enter fn args) w) (hx : xs.length = n) (h : RowI w B (.slice (some ⟨g, 0, none⟩) n cap) xs) (hn : n ≤ 1000000)
  (hp : ∀ W h, h ∈ xs → Fr (fun c _ => c ≠ g) w W → Calls Tryz.prog fn (#[.int .i64 h] ++ lb) W fun e w' => e = .returned (.bool (p h)) ∧ Fr (fun _ _ => True) W w') :
  Calls Tryz.prog 72 #[.slice (some ⟨g, 0, none⟩) n cap, .func (.func fn) #[] lb] w fun e w' => (∃ m, e = .returned (.slice (some ⟨g, 0, none⟩) m cap) ∧ m = (kepI p xs).length ∧ RowI w' B (.slice (some ⟨g, 0, none⟩) m cap) (kepI p xs)) ∧ Fr (fun c _ => c ≠ g) w w' := by
 subst hx
 have IX := Lib.hid (indexfuncM (K := fun b _ => B ≤ b) w (.slice (some ⟨g, 0, none⟩) xs.length cap) xs fn lb p eg h.ints hn (fun W h hm f => hp W h hm (f.mono fun _ _ _ => trivial)))
 have HP := Lib.hid hp
 have H0 : Hid (w.ownsRow B 3 1 (.slice (some ⟨g, 0, none⟩) xs.length cap) xs.length (xs.map intV)) := h
 obtain ⟨hnc, hcm⟩ := own_cap h
 clear h hp
 obtain ⟨n, hX⟩ : ∃ n, xs.length = n := ⟨_, rfl⟩
 rw [hX] at IX H0 hn hnc ⊢
 have HX := Lib.hid hX
 clear hX
 cases hi : xs.findIdx? p with
 | none =>
  have hz : idxF p xs = -1 := by unfold idxF; rw [hi]
  have hk : kepI p xs = xs := by
   unfold kepI
   rw [List.filter_eq_self]
   intro a ha
   have := List.findIdx?_eq_none_iff.1 hi a ha
   simpa using this
  rw [hz] at IX
  rw [hk]
  clear hz hk hi
  go_enter Tryz.func72, Tryz.ntmps72
  go_wp2_with fail
  (with_reducible refine IX.out.mono ?_)
  rintro e w1 ⟨rfl, f1⟩
  have F1 := Lib.hid f1
  clear f1 IX
  go_wp2
  go_ret
  refine ⟨⟨n, rfl, HX.out.symm, ?_⟩, F1.out.mono fun _ _ _ => trivial⟩
  show World.ownsRow _ _ _ _ _ _ _
  rw [HX.out]
  exact ownsRow_fr H0.out F1.out (fun _ _ _ _ => trivial)
 | some k =>
  have hz : idxF p xs = (k : Nat) := by unfold idxF; rw [hi]
  rw [hz] at IX
  obtain ⟨hkl, hkp, hkb⟩ := List.findIdx?_eq_some_iff_getElem.1 hi
  have hkn : k < n := by have := HX.out; omega
  have hk0 : kepI p (xs.take (k + 1)) = xs.take k := by
   rw [kepI_snoc p xs k hkl, if_pos hkp]
   unfold kepI
   rw [List.filter_eq_self]
   intro a ha
   obtain ⟨q, hq, rfl⟩ := List.mem_iff_getElem.1 ha
   rw [List.length_take] at hq
   rw [List.getElem_take]
   have := hkb q (by omega)
   simpa using this
  have HK0 := Lib.hid hk0
  have w1i : IntKind.i64.wrap ((k : Int) + 1) = ((k + 1 : Nat) : Int) := by rw [IntKind.wrap_i64]; omega
  have hkm : ((k : Int) == -1) = false := by simp
  clear hz hi hkp hkb hkl hk0
  go_enter Tryz.func72, Tryz.ntmps72
  go_wp2_with fail
  (with_reducible refine IX.out.mono ?_)
  rintro e w1 ⟨rfl, f1⟩
  have F1 := Lib.hid f1
  clear f1 IX
  go_wp2
  go_loopw [5, 6] (fun v5 v6 wr => ∃ (i j : Nat) (Y : List Int), v5 = .int .i64 i ∧ v6 = .int .i64 j ∧ i < j ∧ j ≤ n ∧ Y.length = n ∧ Hid (Y.take i = kepI p (xs.take j)) ∧ Hid (Y.drop j = xs.drop j) ∧ Hid (wr.ownsRow B 3 1 (.slice (some ⟨g, 0, none⟩) n cap) n (Y.map intV)) ∧ Hid (Fr (fun c _ => c ≠ g) w wr)) (fun _ v6 _ => n - (intOf v6).toNat)
  case atStart => exact ⟨k, k + 1, xs, rfl, rfl, by first | done | exact Nat.lt_succ_self k, hkn, HX.out, HK0.out.symm, rfl, ownsRow_fr H0.out F1.out (fun _ _ _ _ => trivial), F1.out.mono fun _ _ _ => trivial⟩
  case round =>
   obtain ⟨i, j, Y, rfl, rfl, hij, hjn, hYl, HT, HD, HO, HF⟩ := hrel
   have HYL := Lib.hid hYl
   by_cases hlt : j < n
   ·have hltI : (j : Int) < n := by omega
    have hxj : j < xs.length := by have := HX.out; omega
    obtain ⟨x, hx⟩ : ∃ x, xs[j] = x := ⟨_, rfl⟩
    have hYj : Y[j]'(by omega) = x := by
     have h1 : (Y.drop j)[0]? = (xs.drop j)[0]? := by rw [HD.out]
     rw [List.getElem?_drop, List.getElem?_drop, Nat.add_zero, List.getElem?_eq_getElem (by omega), List.getElem?_eq_getElem hxj] at h1
     rw [← hx]; exact Option.some.inj h1
    have ej := own_frozen HO.out j (by omega)
    have k0 : wr.cell? ⟨g, j, none⟩ = some (.int .i64 x) := by
     rw [ej.1, List.getElem?_map, List.getElem?_eq_getElem (by omega), Option.map_some, hYj]
     rfl
    have KS := Lib.hid (kepI_snoc p xs j hxj)
    rw [hx] at KS
    have PC := Lib.hid (HP.out wr x (hx ▸ List.getElem_mem _) HF.out)
    have hin : (i : Int) < n := by omega
    have iw : IntKind.i64.wrap ((i : Int) + 1) = ((i + 1 : Nat) : Int) := by rw [IntKind.wrap_i64]; omega
    have jw : IntKind.i64.wrap ((j : Int) + 1) = ((j + 1 : Nat) : Int) := by rw [IntKind.wrap_i64]; omega
    clear hx ej hYj hYl
    cases hq : p x with
    | true =>
     rw [hq] at PC
     have HQ := Lib.hid hq
     clear hq
     go_wp2_with fail
     (with_reducible refine PC.out.mono ?_)
     rintro e w' ⟨rfl, f'⟩
     have F2 := Lib.hid f'
     clear f' PC
     go_wp2
     go_roundw
     case rel =>
      refine ⟨i, j + 1, Y, rfl, by go_num, by omega, by omega, HYL.out, ?_, ?_, ownsRow_fr HO.out F2.out (fun _ _ _ _ => trivial), HF.out.trans (F2.out.mono fun _ _ _ => trivial)⟩
      ·show _ = _
       rw [KS.out, if_pos HQ.out]; exact HT.out
      ·show _ = _
       rw [← List.drop_drop, ← List.drop_drop, HD.out]
     case measure => simp [intOf]; omega
    | false =>
     rw [hq] at PC
     have HQ := Lib.hid hq
     clear hq
     go_wp2_with fail
     (with_reducible refine PC.out.mono ?_)
     rintro e w' ⟨rfl, f'⟩
     have F' := Lib.hid (HF.out.trans (f'.mono fun _ _ _ => trivial))
     have O' := Lib.hid (ownsRow_fr HO.out f' (fun _ _ _ _ => trivial))
     have ei := own_frozen O'.out i (by omega)
     obtain ⟨ec, es, ef⟩ := ei
     obtain ⟨uo, huo⟩ := Option.isSome_iff_exists.1 es
     clear f' PC ec es k0
     obtain ⟨W4, hW4⟩ : ∃ W4, w'.setCell ⟨g, i, none⟩ (.int .i64 x) = W4 := ⟨_, rfl⟩
     have O4 : Hid (W4.ownsRow B 3 1 (.slice (some ⟨g, 0, none⟩) n cap) n ((Y.set i x).map intV)) := by
      rw [← hW4, List.map_set]; exact own_setCell O'.out i (.int .i64 x)
     have F4 : Hid (Fr (fun c _ => c ≠ g) w W4) := by
      rw [← hW4]; exact F'.out.setCell (fun _ _ hk => hk rfl) _
     go_wp2
     try rw [hW4]
     go_roundw
     case rel =>
      refine ⟨i + 1, j + 1, Y.set i x, by go_num, by go_num, by omega, by omega, by rw [List.length_set]; exact HYL.out, ?_, ?_, O4.out, F4.out⟩
      ·show _ = _
       have := HYL.out
       rw [KS.out, if_neg (by rw [HQ.out]; decide), List.take_set, List.take_add_one, List.getElem?_eq_getElem (by omega), Option.toList_some, ← HT.out, List.set_append_right _ _ (by rw [List.length_take]; omega), List.length_take, Nat.min_eq_left (by omega), Nat.sub_self]
       rfl
      ·show _ = _
       rw [List.drop_set_of_lt (by omega), ← List.drop_drop, ← List.drop_drop, HD.out]
     case measure => simp [intOf]; omega
   ·have hge : (n : Int) ≤ j := by omega
    have hin : i < n := by omega
    have hjn' : j = n := by omega
    subst hjn'
    have HL : Hid (i = (kepI p xs).length) := by
     have h1 := congrArg List.length HT.out
     rw [List.length_take, List.take_of_length_le (by have := HX.out; omega)] at h1
     show _ = _
     omega
    have HT2 : Hid ((Y.map intV).take i = (kepI p xs).map intV) := by
     show _ = _
     rw [← List.map_take, HT.out, List.take_of_length_le (by have := HX.out; omega)]
    obtain ⟨Z, hZ⟩ : ∃ Z, Z = (Builtin.zeroCells (Value.cells (.int .i64 0)) (j - i)).toList := ⟨_, rfl⟩
    have hZl : Z.length = (j - i) * 1 := by
     rw [hZ, Array.length_toList, size_zeroCells]; rfl
    have hZ1 : ∀ u ∈ Z, u.oneCell' = true := by
     rw [hZ]
     intro u hu
     simp only [Builtin.zeroCells, Array.toList_map, List.mem_map] at hu
     obtain ⟨k, _, rfl⟩ := hu
     have hall : ∀ q, q < 1 → ((Value.cells (.int .i64 0))[q]!).oneCell' = true := by decide
     exact hall _ (Nat.mod_lt _ (by decide))
    have OS : Hid ((wr.setCells g i Z).ownsRow B 3 1 (.slice (some ⟨g, 0, none⟩) i cap) i ((kepI p xs).map intV)) := by
     have := own_spliced HO.out i j (by omega) (Nat.le_refl _) Z hZl
     rw [List.drop_of_length_le (by rw [List.length_map]; omega), Nat.sub_self, Nat.add_zero, List.append_nil, Nat.mul_one, HT2.out] at this
     exact this
    have FS : Hid (Fr (fun c _ => c ≠ g) w (wr.setCells g i Z)) := HF.out.setCells (fun _ _ hk => hk rfl) _ _
    have hcl : ∀ ty, (Builtin.clear_ #[22] ty #[.slice (some ⟨g, i, none⟩) (j - i) (cap - i)]).run Tryz.prog wr = .ok (.tuple #[]) (wr.setCells g i Z) := fun ty => by
     rw [hZ]
     refine run_clear_any wr _ _ ty (.int .i64 0) Tryz.underlying22 Tryz.zeroValue3 g _ _ _ (by omega) (by rw [← hZ]; exact hZ1) (fun q hq => ?_) (fun q hq => ?_)
     ·rw [← hZ, hZl] at hq; exact (own_frozen HO.out _ (by omega)).2.1
     ·rw [← hZ, hZl] at hq; exact (own_frozen HO.out _ (by omega)).2.2
    have hic : i ≤ cap := by omega
    have hjc : j ≤ cap := by omega
    clear hZ hZl hZ1
    go_wp2
    go_ret
    refine ⟨⟨i, rfl, HL.out, ?_⟩, FS.out⟩
    show World.ownsRow _ _ _ _ _ _ _
    rw [← HL.out]
    exact OS.out
set_option maxRecDepth 100000 in
set_option maxHeartbeats 1000000 in
theorem delfM_nil (w : World) (fn : Nat) (lb : Array Value) (eg : ∀ args w, (callFunc fn args).run Tryz.prog w = .ok (.enter fn args) w) :
  Calls Tryz.prog 72 #[.slice none 0 0, .func (.func fn) #[] lb] w fun e w' => e = .returned (.slice none 0 0) ∧ Fr (fun _ _ => True) w w' := by
 have IX : Hid (Calls Tryz.prog 109 #[.slice none 0 0, .func (.func fn) #[] lb] w fun e w' => e = .returned (.int .i64 (-1)) ∧ Fr (fun _ _ => True) w w') := indexfuncM (K := fun _ _ => True) w (.slice none 0 0) [] fn lb (fun _ => true) eg ⟨none, 0, rfl, .inl rfl⟩ (by decide) (fun W h hm f => by cases hm)
 go_enter Tryz.func72, Tryz.ntmps72
 go_wp2_with fail
 (with_reducible refine IX.out.mono ?_)
 rintro e w1 ⟨rfl, f1⟩
 have F1 := Lib.hid f1
 clear f1 IX
 go_wp2
 go_ret
 exact ⟨rfl, F1.out⟩
section
variable {X P : Nat → Prop} {w w' : World} {b : Nat} {n n' : Nd} {q q' : NV}
set_option maxRecDepth 100000 in
theorem beh_fn [Old] (h : PNs X P w b n q) (bx : Nat) (x : Int) (hx : 0 ≤ x ∧ x < 16) (h0 : w.cell? ⟨bx, 0, none⟩ = some (.pointer (some ⟨b, 0, none⟩))) :
  Calls Tryz.prog 73 (#[.int .i64 x] ++ #[.pointer (some ⟨bx, 0, none⟩)]) w fun e w' => e = .returned (.bool (!decide (n.next.getD x.toNat 0 ≤ n.log.base))) ∧ Fr (fun _ _ => True) w w' := by
 obtain ⟨t, rfl⟩ := Int.eq_ofNat_of_zero_le hx.1
 show Calls _ _ #[.int .i64 (t : Nat), .pointer (some ⟨bx, 0, none⟩)] _ _
 have FB := Lib.hid (fbehind_calls h t (by omega))
 obtain ⟨y, hy⟩ : ∃ y, decide (n.next.getD t 0 ≤ n.log.base) = y := ⟨_, rfl⟩
 rw [Int.toNat_natCast, hy]
 rw [hy] at FB
 clear h hx hy
 go_enter Tryz.func73, Tryz.ntmps73
 go_wp2_with fail
 (with_reducible refine FB.out.mono ?_)
 rintro e w1 ⟨rfl, m, rfl⟩
 clear FB
 go_wp2
 go_ret
 exact ⟨rfl, (Fr.refl _ _).drewN m⟩
set_option maxRecDepth 100000 in
set_option maxHeartbeats 2000000 in
theorem behind_calls [Old] (h : PNs X P w b n q) (hc : 0 < n.conf.length ∧ n.conf.length ≤ 1000) (hm : ∀ x ∈ n.conf, 0 ≤ x ∧ x < 16) :
  Calls Tryz.prog 20 #[.pointer (some ⟨b, 0, none⟩)] w fun e w' => (∃ g k, e = .returned (.slice g n.behind.length k) ∧ RowI w' w.heap.size (.slice g n.behind.length k) n.behind) ∧ Fr (fun _ _ => True) w w' := by
 obtain ⟨W1, hW1⟩ : ∃ W, w.alloc (.cells #[.pointer (some ⟨b, 0, none⟩)] 34 (0, 0)) = W := ⟨_, rfl⟩
 have F1 : Hid (Fr (fun _ _ => True) w W1) := hW1 ▸ (Fr.refl _ _).alloc _
 have X1 : Hid (W1.heap[w.heap.size]? = some (.cells #[.pointer (some ⟨b, 0, none⟩)] 34 (0, 0))) := hW1 ▸ heap_alloc_new w _
 have x0 := cell_mk (i := 0) X1.out rfl
 have x2 := (h.cells F1.out).2.2.1
 by_cases hr : n.role = 3
 ·rw [hr] at x2
  have OC := Lib.hid (others_calls (h.tt F1.out) hc)
  have H := Lib.hid h
  have HOM : Hid (∀ x ∈ n.others, 0 ≤ x ∧ x < 16) := fun x hx => hm x (List.mem_filter.1 hx).1
  have HOL : Hid (n.others.length ≤ 1000) := Nat.le_trans (List.length_filter_le _ _) hc.2
  have KB : Hid (kepI (fun x => !decide (n.next.getD x.toNat 0 ≤ n.log.base)) n.others = n.behind) := by
   show _ = _
   unfold kepI Nd.behind
   rw [if_pos hr]
   congr 1
   funext x
   simp
  have SZ : Hid (w.heap.size < W1.heap.size) := lt_of_some X1.out
  obtain ⟨ol, hol⟩ : ∃ o, n.others.length = o := ⟨_, rfl⟩
  rw [hol] at OC
  have HL := Lib.hid hol
  clear h hm hc hr hol
  go_enter Tryz.func20, Tryz.ntmps20
  go_wp2_with fail
  try rw [hW1]
  (with_reducible refine OC.out.mono ?_)
  rintro e w2 ⟨⟨g, k, rfl, r2⟩, f2⟩
  have F2 := Lib.hid (F1.out.trans f2)
  have R2 := Lib.hid r2
  have y0 := f2.cell (fun _ _ => trivial) x0
  have Y0 : Hid (∀ W, Fr (fun c _ => c < W1.heap.size) w2 W → W.cell? ⟨w.heap.size, 0, none⟩ = some (.pointer (some ⟨b, 0, none⟩))) := fun W f => f.cell (fun _ _ => SZ.out) y0
  have HP : Hid (∀ W, Fr (fun c _ => c < W1.heap.size) w2 W → PNs X P W b n q) := fun W f => by
   have f3 : Fr (fun c _ => True ∧ c < w.heap.size) w W := (F2.out.mono fun c _ h => trivial).trans (f.mono fun c _ h => by have := h.2; have := SZ.out; omega)
   exact H.out.tt f3.within
  clear r2 f2 OC x0 x2
  rcases R2.out.2 with ⟨hz, h0⟩ | ⟨g', c', cu', e', hb', r'⟩
  ·cases hz
   have hn : n.behind = [] := by
    rw [← KB.out]
    have : n.others = [] := List.eq_nil_of_length_eq_zero HL.out
    rw [this]; rfl
   have DC := Lib.hid (delfM_nil w2 73 #[.pointer (some ⟨w.heap.size, 0, none⟩)] (enters_of Tryz.func73 (by kernel_rfl) rfl))
   have HN := Lib.hid hn
   clear h0 hn
   go_wp2_with fail
   (with_reducible refine DC.out.mono ?_)
   rintro e w3 ⟨rfl, f3⟩
   have F3 := Lib.hid (F2.out.trans f3)
   clear f3 DC y0
   go_wp2
   go_ret
   rw [HN.out]
   exact ⟨⟨_, 0, rfl, RowI.nil _ _⟩, F3.out⟩
  ·cases e'
   have DC := Lib.hid (delfM_some w2 W1.heap.size g' n.others.length _ n.others 73 #[.pointer (some ⟨w.heap.size, 0, none⟩)] (fun x => !decide (n.next.getD x.toNat 0 ≤ n.log.base)) (enters_of Tryz.func73 (by kernel_rfl) rfl) rfl R2.out (by have := HOL.out; omega) (fun W x hx f => beh_fn (HP.out W (f.mono fun c _ h e => by omega)) w.heap.size x (HOM.out x hx) (Y0.out W (f.mono fun c _ h e => by omega))))
   rw [KB.out] at DC
   have GB := Lib.hid hb'
   clear hb' r'
   go_wp2_with fail
   (with_reducible refine DC.out.mono ?_)
   rintro e w3 ⟨⟨m, rfl, hm, r3⟩, f3⟩
   have HM := Lib.hid hm
   have R3 := Lib.hid r3
   have F3 : Hid (Fr (fun _ _ => True) w w3) := Fr.within ((F2.out.mono fun _ _ _ => trivial : Fr (fun c _ => True ∧ c < w.heap.size) w w2).trans (f3.mono fun c _ h e => by have := h.2; have := SZ.out; have := GB.out; omega))
   clear hm r3 f3 DC y0
   go_wp2
   go_ret
   have hm' := HM.out
   subst hm'
   exact ⟨⟨_, _, rfl, ⟨R3.out.1, by
    rcases R3.out.2 with h | ⟨g', c', cu', e', hb', r'⟩
    ·exact .inl h
    ·exact .inr ⟨g', c', cu', e', by have := SZ.out; omega, r'⟩⟩⟩, F3.out⟩
 ·have hn : n.behind = [] := if_neg hr
  rw [hn]
  obtain ⟨ro, hro⟩ : ∃ x, n.role = x := ⟨_, rfl⟩
  rw [hro] at x2 hr
  have g1 : (ro == 3) = false := by simpa using hr
  have g2 : (ro != 3) = true := by rw [bne, g1]; rfl
  clear h hc hm hr hro hn
  go_enter Tryz.func20, Tryz.ntmps20
  go_wp2
  try rw [hW1]
  go_ret
  exact ⟨⟨_, 0, rfl, RowI.nil _ _⟩, F1.out⟩
end
end Go.Proofs.YtmjccpfchhnfhaaGreat
