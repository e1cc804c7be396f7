/- Texts of the proofs, part 13: what the functions that they reach do, walked; no conditions beyond those that each states. -/
import Derived.Deep.MidRow
import Derived.ArgAppend
import Derived.Deep.QuietTactic
import Derived.BigQuiet
import Derived.Test.YtmjccpfchhnfhaaGreatZz2bde4c9313
import Derived.Test.YtmjccpfchhnfhaaGreatZzcd5207e042
set_option linter.unusedVariables false
set_option linter.unusedSimpArgs false
/- slices.IndexFunc, DeleteFunc at ints. -/
namespace Go.Proofs.YtmjccpfchhnfhaaGreat
open Go.RowKit
set_option linter.unusedVariables false
set_option linter.unusedSimpArgs false
def idxF (p : Int → Bool) (xs : List Int) : Int := match xs.findIdx? p with | some i => (i : Nat) | none => -1
theorem idxF_hit {p : Int → Bool} {xs : List Int} {i : Nat} (hi : i < xs.length) (hp : p xs[i] = true) (h : ∀ j, (hj : j < xs.length) → j < i → p xs[j] = false) : idxF p xs = (i : Nat) := by
 have e : xs.findIdx? p = some i := List.findIdx?_eq_some_iff_getElem.2 ⟨hi, hp, fun j hj => by rw [h j (by omega) hj]; simp⟩
 unfold idxF; rw [e]
theorem idxF_none {p : Int → Bool} {xs : List Int} (h : ∀ j, (hj : j < xs.length) → p xs[j] = false) : idxF p xs = -1 := by
 have e : xs.findIdx? p = none := List.findIdx?_eq_none_iff.2 fun x hx => by obtain ⟨j, hj, rfl⟩ := List.mem_iff_getElem.1 hx; exact h j hj
 unfold idxF; rw [e]
set_option maxRecDepth 100000 in
set_option maxHeartbeats 1000000 in
theorem indexfuncI {K : Nat → Obj → Prop} (w : World) (v : Value) (xs : List Int) (g : Nat) (lb : Array Value) (p : Int → Bool) (eg : ∀ args w, (callFunc g args).run Tryz.prog w = .ok (.enter g args) w) (hrow : IntsAt K w v xs) (hl : xs.length ≤ 1000000)
  (hp : ∀ W h, Fr (fun _ _ => True) w W → Calls Tryz.prog g (#[.int .i64 h] ++ lb) W fun e w' => e = .returned (.bool (p h)) ∧ Fr (fun _ _ => True) W w') :
  Calls Tryz.prog 109 #[v, .func (.func g) #[] lb] w fun e w' => e = .returned (.int .i64 (idxF p xs)) ∧ Fr (fun _ _ => True) w w' := by
 obtain ⟨a, cp, rfl⟩ := hrow.form
 have HR := Lib.hid hrow
 have HP := Lib.hid hp
 have HIT := Lib.hid (fun i hi hp h => @idxF_hit p xs i hi hp h)
 have NONE := Lib.hid (@idxF_none p xs)
 clear hrow hp
 obtain ⟨z, hz⟩ : ∃ z, idxF p xs = z := ⟨_, rfl⟩
 rw [hz] at HIT NONE ⊢
 clear hz
 go_enter Tryz.func109, Tryz.ntmps109
 go_wp2
 go_loopw [8] (fun v8 wr => ∃ i : Nat, v8 = .int .i64 i ∧ i ≤ xs.length ∧ Hid (∀ j, (hj : j < xs.length) → j < i → p xs[j] = false) ∧ Hid (Fr (fun _ _ => True) w wr)) (fun v8 _ => xs.length - (intOf v8).toNat)
 case atStart => exact ⟨0, rfl, Nat.zero_le _, fun j _ h => (by omega), Fr.refl _ _⟩
 case round =>
  obtain ⟨i, rfl, hi, HN, HF⟩ := hrel
  by_cases hlt : i < xs.length
  ·have hltI : (i : Int) < xs.length := by omega
   obtain ⟨b, off, rfl⟩ := HR.out.addr (by omega)
   have k0 := (HR.out.tt HF.out).cell hlt
   obtain ⟨x, hx⟩ : ∃ x, xs[i] = x := ⟨_, rfl⟩
   rw [hx] at k0
   have HX := Lib.hid hx
   have PC := Lib.hid (HP.out wr x HF.out)
   clear hx
   cases hq : p x with
   | true =>
    rw [hq] at PC
    have HQ := Lib.hid hq
    clear hq
    go_wp2_with fail
    (with_reducible refine PC.out.mono ?_)
    rintro e w' ⟨rfl, f'⟩
    have F' := Lib.hid (HF.out.trans f')
    clear f' PC
    go_wp2
    go_ret
    refine ⟨?_, F'.out⟩
    have := HIT.out i hlt (by rw [HX.out]; exact HQ.out) HN.out
    rw [this]; rfl
   | false =>
    rw [hq] at PC
    have HQ := Lib.hid hq
    clear hq
    go_wp2_with fail
    (with_reducible refine PC.out.mono ?_)
    rintro e w' ⟨rfl, f'⟩
    have F' := Lib.hid (HF.out.trans f')
    clear f' PC
    go_wp2
    go_roundw
    case rel => exact ⟨i + 1, by go_num, hlt, fun j hj hji => by
     by_cases e : j = i
     ·subst e; rw [HX.out]; exact HQ.out
     ·exact HN.out j hj (by omega), F'.out⟩
    case measure => simp [intOf]; omega
  ·have hge : (xs.length : Int) ≤ i := by omega
   go_wp2
   go_ret
   refine ⟨?_, HF.out⟩
   rw [NONE.out fun j hj => HN.out j hj (by omega)]; rfl
def kepI (p : Int → Bool) (xs : List Int) : List Int := xs.filter fun h => !p h
theorem kepI_snoc (p : Int → Bool) (xs : List Int) (j : Nat) (hj : j < xs.length) : kepI p (xs.take (j + 1)) = if p xs[j] = true then kepI p (xs.take j) else kepI p (xs.take j) ++ [xs[j]] := by
 unfold kepI
 rw [List.take_succ_eq_append_getElem hj, List.filter_append]
 by_cases h : p xs[j] = true
 ·rw [if_pos h]; simp [h]
 ·rw [if_neg h]; simp [h]
set_option maxRecDepth 100000 in
set_option maxHeartbeats 4000000 in
theorem delfI_some (w : World) (B g n cap : Nat) (xs : List Int) (fn : Nat) (lb : Array Value) (p : Int → Bool) (eg : ∀ args w, (callFunc fn args).run Tryz.prog w = .ok (.enter fn args) w) (hx : xs.length = n) (h : RowI w B (.slice (some ⟨g, 0, none⟩) n cap) xs) (hn : n ≤ 1000000)
  (hp : ∀ W h, Fr (fun c _ => c ≠ g) w W → Calls Tryz.prog fn (#[.int .i64 h] ++ lb) W fun e w' => e = .returned (.bool (p h)) ∧ Fr (fun _ _ => True) W w') :
  Calls Tryz.prog 72 #[.slice (some ⟨g, 0, none⟩) n cap, .func (.func fn) #[] lb] w fun e w' => (∃ m, e = .returned (.slice (some ⟨g, 0, none⟩) m cap) ∧ m = (kepI p xs).length ∧ RowI w' B (.slice (some ⟨g, 0, none⟩) m cap) (kepI p xs)) ∧ Fr (fun c _ => c ≠ g) w w' := by
 subst hx
 have IX := Lib.hid (indexfuncI (K := fun b _ => B ≤ b) w (.slice (some ⟨g, 0, none⟩) xs.length cap) xs fn lb p eg h.ints hn (fun W h f => hp W h (f.mono fun _ _ _ => trivial)))
 have HP := Lib.hid hp
 have H0 : Hid (w.ownsRow B 3 1 (.slice (some ⟨g, 0, none⟩) xs.length cap) xs.length (xs.map intV)) := h
 obtain ⟨hnc, hcm⟩ := own_cap h
 clear h hp
 obtain ⟨n, hX⟩ : ∃ n, xs.length = n := ⟨_, rfl⟩
 rw [hX] at IX H0 hn hnc ⊢
 have HX := Lib.hid hX
 clear hX
 cases hi : xs.findIdx? p with
 | none =>
  have hz : idxF p xs = -1 := by unfold idxF; rw [hi]
  have hk : kepI p xs = xs := by
   unfold kepI
   rw [List.filter_eq_self]
   intro a ha
   have := List.findIdx?_eq_none_iff.1 hi a ha
   simpa using this
  rw [hz] at IX
  rw [hk]
  clear hz hk hi
  go_enter Tryz.func72, Tryz.ntmps72
  go_wp2_with fail
  (with_reducible refine IX.out.mono ?_)
  rintro e w1 ⟨rfl, f1⟩
  have F1 := Lib.hid f1
  clear f1 IX
  go_wp2
  go_ret
  refine ⟨⟨n, rfl, HX.out.symm, ?_⟩, F1.out.mono fun _ _ _ => trivial⟩
  show World.ownsRow _ _ _ _ _ _ _
  rw [HX.out]
  exact ownsRow_fr H0.out F1.out (fun _ _ _ _ => trivial)
 | some k =>
  have hz : idxF p xs = (k : Nat) := by unfold idxF; rw [hi]
  rw [hz] at IX
  obtain ⟨hkl, hkp, hkb⟩ := List.findIdx?_eq_some_iff_getElem.1 hi
  have hkn : k < n := by have := HX.out; omega
  have hk0 : kepI p (xs.take (k + 1)) = xs.take k := by
   rw [kepI_snoc p xs k hkl, if_pos hkp]
   unfold kepI
   rw [List.filter_eq_self]
   intro a ha
   obtain ⟨q, hq, rfl⟩ := List.mem_iff_getElem.1 ha
   rw [List.length_take] at hq
   rw [List.getElem_take]
   have := hkb q (by omega)
   simpa using this
  have HK0 := Lib.hid hk0
  have w1i : IntKind.i64.wrap ((k : Int) + 1) = ((k + 1 : Nat) : Int) := by rw [IntKind.wrap_i64]; omega
  have hkm : ((k : Int) == -1) = false := by simp
  clear hz hi hkp hkb hkl hk0
  go_enter Tryz.func72, Tryz.ntmps72
  go_wp2_with fail
  (with_reducible refine IX.out.mono ?_)
  rintro e w1 ⟨rfl, f1⟩
  have F1 := Lib.hid f1
  clear f1 IX
  go_wp2
  go_loopw [5, 6] (fun v5 v6 wr => ∃ (i j : Nat) (Y : List Int), v5 = .int .i64 i ∧ v6 = .int .i64 j ∧ i < j ∧ j ≤ n ∧ Y.length = n ∧ Hid (Y.take i = kepI p (xs.take j)) ∧ Hid (Y.drop j = xs.drop j) ∧ Hid (wr.ownsRow B 3 1 (.slice (some ⟨g, 0, none⟩) n cap) n (Y.map intV)) ∧ Hid (Fr (fun c _ => c ≠ g) w wr)) (fun _ v6 _ => n - (intOf v6).toNat)
  case atStart => exact ⟨k, k + 1, xs, rfl, rfl, by first | done | exact Nat.lt_succ_self k, hkn, HX.out, HK0.out.symm, rfl, ownsRow_fr H0.out F1.out (fun _ _ _ _ => trivial), F1.out.mono fun _ _ _ => trivial⟩
  case round =>
   obtain ⟨i, j, Y, rfl, rfl, hij, hjn, hYl, HT, HD, HO, HF⟩ := hrel
   have HYL := Lib.hid hYl
   by_cases hlt : j < n
   ·have hltI : (j : Int) < n := by omega
    have hxj : j < xs.length := by have := HX.out; omega
    obtain ⟨x, hx⟩ : ∃ x, xs[j] = x := ⟨_, rfl⟩
    have hYj : Y[j]'(by omega) = x := by
     have h1 : (Y.drop j)[0]? = (xs.drop j)[0]? := by rw [HD.out]
     rw [List.getElem?_drop, List.getElem?_drop, Nat.add_zero, List.getElem?_eq_getElem (by omega), List.getElem?_eq_getElem hxj] at h1
     rw [← hx]; exact Option.some.inj h1
    have ej := own_frozen HO.out j (by omega)
    have k0 : wr.cell? ⟨g, j, none⟩ = some (.int .i64 x) := by
     rw [ej.1, List.getElem?_map, List.getElem?_eq_getElem (by omega), Option.map_some, hYj]
     rfl
    have KS := Lib.hid (kepI_snoc p xs j hxj)
    rw [hx] at KS
    have PC := Lib.hid (HP.out wr x HF.out)
    have hin : (i : Int) < n := by omega
    have iw : IntKind.i64.wrap ((i : Int) + 1) = ((i + 1 : Nat) : Int) := by rw [IntKind.wrap_i64]; omega
    have jw : IntKind.i64.wrap ((j : Int) + 1) = ((j + 1 : Nat) : Int) := by rw [IntKind.wrap_i64]; omega
    clear hx ej hYj hYl
    cases hq : p x with
    | true =>
     rw [hq] at PC
     have HQ := Lib.hid hq
     clear hq
     go_wp2_with fail
     (with_reducible refine PC.out.mono ?_)
     rintro e w' ⟨rfl, f'⟩
     have F2 := Lib.hid f'
     clear f' PC
     go_wp2
     go_roundw
     case rel =>
      refine ⟨i, j + 1, Y, rfl, by go_num, by omega, by omega, HYL.out, ?_, ?_, ownsRow_fr HO.out F2.out (fun _ _ _ _ => trivial), HF.out.trans (F2.out.mono fun _ _ _ => trivial)⟩
      ·show _ = _
       rw [KS.out, if_pos HQ.out]; exact HT.out
      ·show _ = _
       rw [← List.drop_drop, ← List.drop_drop, HD.out]
     case measure => simp [intOf]; omega
    | false =>
     rw [hq] at PC
     have HQ := Lib.hid hq
     clear hq
     go_wp2_with fail
     (with_reducible refine PC.out.mono ?_)
     rintro e w' ⟨rfl, f'⟩
     have F' := Lib.hid (HF.out.trans (f'.mono fun _ _ _ => trivial))
     have O' := Lib.hid (ownsRow_fr HO.out f' (fun _ _ _ _ => trivial))
     have ei := own_frozen O'.out i (by omega)
     obtain ⟨ec, es, ef⟩ := ei
     obtain ⟨uo, huo⟩ := Option.isSome_iff_exists.1 es
     clear f' PC ec es k0
     obtain ⟨W4, hW4⟩ : ∃ W4, w'.setCell ⟨g, i, none⟩ (.int .i64 x) = W4 := ⟨_, rfl⟩
     have O4 : Hid (W4.ownsRow B 3 1 (.slice (some ⟨g, 0, none⟩) n cap) n ((Y.set i x).map intV)) := by
      rw [← hW4, List.map_set]; exact own_setCell O'.out i (.int .i64 x)
     have F4 : Hid (Fr (fun c _ => c ≠ g) w W4) := by
      rw [← hW4]; exact F'.out.setCell (fun _ _ hk => hk rfl) _
     go_wp2
     try rw [hW4]
     go_roundw
     case rel =>
      refine ⟨i + 1, j + 1, Y.set i x, by go_num, by go_num, by omega, by omega, by rw [List.length_set]; exact HYL.out, ?_, ?_, O4.out, F4.out⟩
      ·show _ = _
       have := HYL.out
       rw [KS.out, if_neg (by rw [HQ.out]; decide), List.take_set, List.take_add_one, List.getElem?_eq_getElem (by omega), Option.toList_some, ← HT.out, List.set_append_right _ _ (by rw [List.length_take]; omega), List.length_take, Nat.min_eq_left (by omega), Nat.sub_self]
       rfl
      ·show _ = _
       rw [List.drop_set_of_lt (by omega), ← List.drop_drop, ← List.drop_drop, HD.out]
     case measure => simp [intOf]; omega
   ·have hge : (n : Int) ≤ j := by omega
    have hin : i < n := by omega
    have hjn' : j = n := by omega
    subst hjn'
    have HL : Hid (i = (kepI p xs).length) := by
     have h1 := congrArg List.length HT.out
     rw [List.length_take, List.take_of_length_le (by have := HX.out; omega)] at h1
     show _ = _
     omega
    have HT2 : Hid ((Y.map intV).take i = (kepI p xs).map intV) := by
     show _ = _
     rw [← List.map_take, HT.out, List.take_of_length_le (by have := HX.out; omega)]
    obtain ⟨Z, hZ⟩ : ∃ Z, Z = (Builtin.zeroCells (Value.cells (.int .i64 0)) (j - i)).toList := ⟨_, rfl⟩
    have hZl : Z.length = (j - i) * 1 := by
     rw [hZ, Array.length_toList, size_zeroCells]; rfl
    have hZ1 : ∀ u ∈ Z, u.oneCell' = true := by
     rw [hZ]
     intro u hu
     simp only [Builtin.zeroCells, Array.toList_map, List.mem_map] at hu
     obtain ⟨k, _, rfl⟩ := hu
     have hall : ∀ q, q < 1 → ((Value.cells (.int .i64 0))[q]!).oneCell' = true := by decide
     exact hall _ (Nat.mod_lt _ (by decide))
    have OS : Hid ((wr.setCells g i Z).ownsRow B 3 1 (.slice (some ⟨g, 0, none⟩) i cap) i ((kepI p xs).map intV)) := by
     have := own_spliced HO.out i j (by omega) (Nat.le_refl _) Z hZl
     rw [List.drop_of_length_le (by rw [List.length_map]; omega), Nat.sub_self, Nat.add_zero, List.append_nil, Nat.mul_one, HT2.out] at this
     exact this
    have FS : Hid (Fr (fun c _ => c ≠ g) w (wr.setCells g i Z)) := HF.out.setCells (fun _ _ hk => hk rfl) _ _
    have hcl : ∀ ty, (Builtin.clear_ #[22] ty #[.slice (some ⟨g, i, none⟩) (j - i) (cap - i)]).run Tryz.prog wr = .ok (.tuple #[]) (wr.setCells g i Z) := fun ty => by
     rw [hZ]
     refine run_clear_any wr _ _ ty (.int .i64 0) Tryz.underlying22 Tryz.zeroValue3 g _ _ _ (by omega) (by rw [← hZ]; exact hZ1) (fun q hq => ?_) (fun q hq => ?_)
     ·rw [← hZ, hZl] at hq; exact (own_frozen HO.out _ (by omega)).2.1
     ·rw [← hZ, hZl] at hq; exact (own_frozen HO.out _ (by omega)).2.2
    have hic : i ≤ cap := by omega
    have hjc : j ≤ cap := by omega
    clear hZ hZl hZ1
    go_wp2
    go_ret
    refine ⟨⟨i, rfl, HL.out, ?_⟩, FS.out⟩
    show World.ownsRow _ _ _ _ _ _ _
    rw [← HL.out]
    exact OS.out
end Go.Proofs.YtmjccpfchhnfhaaGreat
/- Appends of entries, messages, ints to rows of one's own (printed by appends.py). -/
namespace Go.Proofs.YtmjccpfchhnfhaaGreat
open Go.RowKit
set_option linter.unusedVariables false
set_option linter.unusedSimpArgs false
theorem info_msg : (Tryz.prog.info? 32).map (fun i => (i.zero, i.size, i.bytes)) = some (some (.agg #[.int .i64 0, .int .i64 0, .int .i64 0, .int .u64 0, .int .u64 0, .int .u64 0, .int .u64 0, .bool false, .slice none 0 0, .slice none 0 0]), 10, 112) := by kernel_rfl
theorem rows_oneM {w : World} {b : Nat} {m : MV} (h : w.heap[b]? = some (.cells #[.int .i64 m.kind, .int .i64 m.src, .int .i64 m.dst, natN m.tm, natN m.index, natN m.prev, natN m.commit, .bool m.ok, .slice m.da m.d.length m.dc, .slice m.ea m.es.length m.ec] 32 (0, 0))) : RowsAt (fun c _ => c = b) w (.slice (some ⟨b, 0, none⟩) 1 1) 10 encM [m] := by
 refine ⟨_, 1, rfl, by simp, .inr ⟨b, 0, _, rfl, h, rfl, fun i hi j u hu => ?_⟩⟩
 obtain rfl : i = 0 := by simpa using hi
 rw [Nat.zero_mul, Nat.add_zero, Nat.zero_add]
 refine cell_mk h ?_
 rw [← hu]
 unfold encM
 simp
theorem own_re {w : World} {B B' : Nat} {e : TypeId} {s : Nat} {v : Value} {n : Nat} {xs : List Value} (h : w.ownsRow B e s v n xs) (hb : ∀ c, v.ownBlock = some c → B' ≤ c) : w.ownsRow B' e s v n xs := by
 refine ⟨h.1, ?_⟩
 rcases h.2 with q | ⟨g, cap, cur, e, _, r⟩
 ·exact .inl q
 ·exact .inr ⟨g, cap, cur, e, hb g (by rw [e]; rfl), r⟩
theorem getD_get {α : Type} {l : List α} {i : Nat} (h : i < l.length) (d : α) : l[i] = l.getD i d := by
 rw [List.getD_eq_getElem?_getD, List.getElem?_eq_getElem h]
 rfl
def encI (x : Int) : List Value := [.int .i64 x]
theorem encI_len (x : Int) : (encI x).length = 1 := rfl
theorem encI_one (x : Int) : ∀ u ∈ encI x, u.oneCell' = true := fun u hu => by rw [List.mem_singleton.1 hu]; rfl
theorem encI_flat : ∀ (xs : List Int), xs.flatMap encI = xs.map intV
 | [] => rfl
 | x :: xs => by rw [List.flatMap_cons, encI_flat xs]; rfl
theorem rows_oneI {w : World} {b : Nat} {x : Int} (h : w.heap[b]? = some (.cells #[.int .i64 x] 3 (0, 0))) : RowsAt (fun c _ => c = b) w (.slice (some ⟨b, 0, none⟩) 1 1) 1 encI [x] := by
 refine ⟨_, 1, rfl, by simp, .inr ⟨b, 0, _, rfl, h, rfl, fun i hi j u hu => ?_⟩⟩
 obtain rfl : i = 0 := by simpa using hi
 have hj : j = 0 := by have := (List.getElem?_eq_some_iff.1 hu).1; simp [encI] at this; omega
 subst hj
 refine cell_mk h ?_
 rw [← hu]
 rfl
theorem wp_append_rows2 {α : Type} {enc : α → List Value} {P : Program} {K0 : Nat → Obj → Prop} {o : Oper} {a : Act} {K : Act → World → Prop} {Q : Exit → Act → World → Prop} (W : World) (s x : Operand) (t e : TypeId)
  (ho : o.op = .call { callee := .builtin .append, args := #[s, x], argTypes := #[t, t] }) (B : Nat) (hB : B ≤ W.heap.size) (i : TypeInfo) (z : Value) (size bytes : Nat) (ht : P.underlying t = some (.slice e)) (hi : P.info? e = some i) (hz : i.zero = some z)
  (hsize : i.size = size) (hby : i.bytes = bytes) (hzs : z.cells.size = size) (hsz : 0 < size) (hb32 : bytes ≤ 128) (hk : ∀ x, (enc x).length = size) (h1 : ∀ x, ∀ u ∈ enc x, u.oneCell' = true)
  (v : Value) (n : Nat) (T : List α) (hs : a.eval s = v) (hown : W.ownsRow B e size v n (T.flatMap enc)) (vx : Value) (ys : List α) (hx : a.eval x = vx) (hvx : RowsAt K0 W vx size enc ys)
  (R : List α) (hR : T ++ ys = R) (N : Nat) (hN : n + ys.length = N) (hn : N ≤ 1000000)
  (h : ∀ g c w', w'.ownsRow B e size (.slice g N c) N (R.flatMap enc) → W.grownBy w' v.ownBlock → OwnNext W v (.slice g N c) → K (a.put o.dst (.slice g N c)) w') : o.wp P a W K Q := by
 subst hR hN
 have hcont : ∀ v' w', w'.ownsRow B e size v' (n + ys.length) (T.flatMap enc ++ ys.flatMap enc) → W.grownBy w' v.ownBlock → OwnNext W v v' → K (a.put o.dst v') w' := fun v' w' q1 q2 q3 => by
  obtain ⟨g, c, rfl⟩ := own_form q1
  exact h g c w' (by rw [List.flatMap_append]; exact q1) q2 q3
 obtain ⟨ax, cx, rfl, _⟩ := hvx.form
 by_cases h0 : ys.length = 0
 ·have e0 := List.length_eq_zero_iff.1 h0
  subst e0
  have hrun := run_append_zero (P := P) (w := W) B t o.type e i size ht hi v n _ hown ax cx
  unfold Oper.wp execOp
  simp only [List.length_nil] at hx
  simp only [ho, resolve, invoke, builtin, Sem.run_bind, Sem.run_pure, Result.andThen_ok, List.map_toArray, List.map_cons, List.map_nil, hs, hx, hrun]
  exact hcont v W (by simpa using hown) ⟨rfl, rfl, rfl, Nat.le_refl _, fun _ _ _ => rfl⟩ (.inl rfl)
 ·obtain ⟨b, off, ob, rfl, _⟩ := hvx.spot (by omega)
  rcases RowsAt.src hk hsz h1 hvx with ⟨he, _⟩ | ⟨ad, c, he, hl, hc, ho1⟩
  ·cases he
  ·cases he
   have hbb : (n + ys.length) * bytes ≤ 1000000 * 128 := Nat.mul_le_mul hn hb32
   exact wp_append_own2 W s x t ho B e i z size bytes ht hi hz hsize hby hzs hsz v n _ hs hown _ ys.length _ _ hx hl hc ho1 (by unfold maxLen; omega) (by omega) hB hcont
theorem step_append_ens {K0 : Nat → Obj → Prop} {o : Oper} {a : Act} {K : Act → World → Prop} {Q : Exit → Act → World → Prop} (W0 W : World) (hF : Hid (Fr (fun _ _ => True) W0 W)) (s x : Operand)
  (ho : o.op = .call { callee := .builtin .append, args := #[s, x], argTypes := #[24, 24] }) (v : Value) (T : List EV) (hs : a.eval s = v) (hown : Hid (W.ownsRow W0.heap.size 85 3 v T.length (T.flatMap encE)))
  (vx : Value) (ys : List EV) (hx : a.eval x = vx) (hvx : Hid (RowsAt K0 W vx 3 encE ys)) (R : List EV) (hR : Hid (T ++ ys = R)) (N : Nat) (hN : Hid (R.length = N)) (hn : N ≤ 1000000)
  (h : ∀ g c w', Hid (w'.ownsRow W0.heap.size 85 3 (.slice g N c) N (R.flatMap encE)) → Hid (Fr (fun _ _ => True) W0 w') → Hid (Fr (fun b _ => v.ownBlock ≠ some b) W w') → Hid (OwnNext W v (.slice g N c)) → K (a.put o.dst (.slice g N c)) w') : o.wp Tryz.prog a W K Q := by
 obtain ⟨i0, hi, hz0, hz1, hz2⟩ := info_parts info_en
 have e2 : T.length + ys.length = N := by rw [← hN.out, ← hR.out, List.length_append]
 exact wp_append_rows W s x 24 85 ho W0.heap.size hF.out.size i0 _ 3 40 Tryz.underlying24 hi hz0 hz1 hz2 zero_en_size (by decide) (by decide) encE_len encE_oneC v T.length T hs hown.out vx ys hx hvx.out R hR.out N e2 hn fun g c w' h1 h2 h3 => h g c w' h1 (hF.out.grown_new h2 (own_new hown.out)) (.of_grown h2 fun k o e _ hk => hk e) h3
theorem wpList_append_ens {K0 : Nat → Obj → Prop} {ops : Array Oper} {rest : List Oper} {o : Oper} {a : Act} {Q : Exit → Act → World → Prop} (W0 W : World) (hF : Hid (Fr (fun _ _ => True) W0 W)) (hgd : o.guard = none) (s x : Operand)
  (ho : o.op = .call { callee := .builtin .append, args := #[s, x], argTypes := #[24, 24] }) (v : Value) (T : List EV) (hs : a.eval s = v) (hown : Hid (W.ownsRow W0.heap.size 85 3 v T.length (T.flatMap encE)))
  (vx : Value) (ys : List EV) (hx : a.eval x = vx) (hvx : Hid (RowsAt K0 W vx 3 encE ys)) (R : List EV) (hR : Hid (T ++ ys = R)) (N : Nat) (hN : Hid (R.length = N)) (hn : N ≤ 1000000)
  (h : ∀ g c w', Hid (w'.ownsRow W0.heap.size 85 3 (.slice g N c) N (R.flatMap encE)) → Hid (Fr (fun _ _ => True) W0 w') → Hid (Fr (fun b _ => v.ownBlock ≠ some b) W w') → Hid (OwnNext W v (.slice g N c)) → wpList Tryz.prog ops Q rest (a.put o.dst (.slice g N c)) w') :
  wpList Tryz.prog ops Q (o :: rest) a W :=
 wpList_plain hgd fun _ hK => step_append_ens W0 W hF s x ho v T hs hown vx ys hx hvx R hR N hN hn fun g c w' h1 h2 h3 h4 => hK _ _ (h g c w' h1 h2 h3 h4)
theorem step_append_mss {K0 : Nat → Obj → Prop} {o : Oper} {a : Act} {K : Act → World → Prop} {Q : Exit → Act → World → Prop} (W0 W : World) (hF : Hid (Fr (fun _ _ => True) W0 W)) (s x : Operand)
  (ho : o.op = .call { callee := .builtin .append, args := #[s, x], argTypes := #[39, 39] }) (v : Value) (T : List MV) (hs : a.eval s = v) (hown : Hid (W.ownsRow W0.heap.size 32 10 v T.length (T.flatMap encM)))
  (vx : Value) (ys : List MV) (hx : a.eval x = vx) (hvx : Hid (RowsAt K0 W vx 10 encM ys)) (R : List MV) (hR : Hid (T ++ ys = R)) (N : Nat) (hN : Hid (R.length = N)) (hn : N ≤ 1000000)
  (h : ∀ g c w', Hid (w'.ownsRow W0.heap.size 32 10 (.slice g N c) N (R.flatMap encM)) → Hid (Fr (fun _ _ => True) W0 w') → Hid (Fr (fun b _ => v.ownBlock ≠ some b) W w') → Hid (OwnNext W v (.slice g N c)) → K (a.put o.dst (.slice g N c)) w') : o.wp Tryz.prog a W K Q := by
 obtain ⟨i0, hi, hz0, hz1, hz2⟩ := info_parts info_msg
 have e2 : T.length + ys.length = N := by rw [← hN.out, ← hR.out, List.length_append]
 exact wp_append_rows2 W s x 39 32 ho W0.heap.size hF.out.size i0 _ 10 112 Tryz.underlying39 hi hz0 hz1 hz2 (by decide) (by decide) (by decide) encM_len encM_one v T.length T hs hown.out vx ys hx hvx.out R hR.out N e2 hn fun g c w' h1 h2 h3 => h g c w' h1 (hF.out.grown_new h2 (own_new hown.out)) (.of_grown h2 fun k o e _ hk => hk e) h3
theorem wpList_append_mss {K0 : Nat → Obj → Prop} {ops : Array Oper} {rest : List Oper} {o : Oper} {a : Act} {Q : Exit → Act → World → Prop} (W0 W : World) (hF : Hid (Fr (fun _ _ => True) W0 W)) (hgd : o.guard = none) (s x : Operand)
  (ho : o.op = .call { callee := .builtin .append, args := #[s, x], argTypes := #[39, 39] }) (v : Value) (T : List MV) (hs : a.eval s = v) (hown : Hid (W.ownsRow W0.heap.size 32 10 v T.length (T.flatMap encM)))
  (vx : Value) (ys : List MV) (hx : a.eval x = vx) (hvx : Hid (RowsAt K0 W vx 10 encM ys)) (R : List MV) (hR : Hid (T ++ ys = R)) (N : Nat) (hN : Hid (R.length = N)) (hn : N ≤ 1000000)
  (h : ∀ g c w', Hid (w'.ownsRow W0.heap.size 32 10 (.slice g N c) N (R.flatMap encM)) → Hid (Fr (fun _ _ => True) W0 w') → Hid (Fr (fun b _ => v.ownBlock ≠ some b) W w') → Hid (OwnNext W v (.slice g N c)) → wpList Tryz.prog ops Q rest (a.put o.dst (.slice g N c)) w') :
  wpList Tryz.prog ops Q (o :: rest) a W :=
 wpList_plain hgd fun _ hK => step_append_mss W0 W hF s x ho v T hs hown vx ys hx hvx R hR N hN hn fun g c w' h1 h2 h3 h4 => hK _ _ (h g c w' h1 h2 h3 h4)
theorem step_append_ins {K0 : Nat → Obj → Prop} {o : Oper} {a : Act} {K : Act → World → Prop} {Q : Exit → Act → World → Prop} (W0 W : World) (hF : Hid (Fr (fun _ _ => True) W0 W)) (s x : Operand)
  (ho : o.op = .call { callee := .builtin .append, args := #[s, x], argTypes := #[22, 22] }) (v : Value) (T : List Int) (hs : a.eval s = v) (hown : Hid (W.ownsRow W0.heap.size 3 1 v T.length (T.flatMap encI)))
  (vx : Value) (ys : List Int) (hx : a.eval x = vx) (hvx : Hid (RowsAt K0 W vx 1 encI ys)) (R : List Int) (hR : Hid (T ++ ys = R)) (N : Nat) (hN : Hid (R.length = N)) (hn : N ≤ 1000000)
  (h : ∀ g c w', Hid (w'.ownsRow W0.heap.size 3 1 (.slice g N c) N (R.flatMap encI)) → Hid (Fr (fun _ _ => True) W0 w') → Hid (Fr (fun b _ => v.ownBlock ≠ some b) W w') → Hid (OwnNext W v (.slice g N c)) → K (a.put o.dst (.slice g N c)) w') : o.wp Tryz.prog a W K Q := by
 obtain ⟨i0, hi, hz0, hz1, hz2⟩ := info_parts info_int
 have e2 : T.length + ys.length = N := by rw [← hN.out, ← hR.out, List.length_append]
 exact wp_append_rows W s x 22 3 ho W0.heap.size hF.out.size i0 _ 1 8 Tryz.underlying22 hi hz0 hz1 hz2 rfl (by decide) (by decide) encI_len encI_one v T.length T hs hown.out vx ys hx hvx.out R hR.out N e2 hn fun g c w' h1 h2 h3 => h g c w' h1 (hF.out.grown_new h2 (own_new hown.out)) (.of_grown h2 fun k o e _ hk => hk e) h3
theorem wpList_append_ins {K0 : Nat → Obj → Prop} {ops : Array Oper} {rest : List Oper} {o : Oper} {a : Act} {Q : Exit → Act → World → Prop} (W0 W : World) (hF : Hid (Fr (fun _ _ => True) W0 W)) (hgd : o.guard = none) (s x : Operand)
  (ho : o.op = .call { callee := .builtin .append, args := #[s, x], argTypes := #[22, 22] }) (v : Value) (T : List Int) (hs : a.eval s = v) (hown : Hid (W.ownsRow W0.heap.size 3 1 v T.length (T.flatMap encI)))
  (vx : Value) (ys : List Int) (hx : a.eval x = vx) (hvx : Hid (RowsAt K0 W vx 1 encI ys)) (R : List Int) (hR : Hid (T ++ ys = R)) (N : Nat) (hN : Hid (R.length = N)) (hn : N ≤ 1000000)
  (h : ∀ g c w', Hid (w'.ownsRow W0.heap.size 3 1 (.slice g N c) N (R.flatMap encI)) → Hid (Fr (fun _ _ => True) W0 w') → Hid (Fr (fun b _ => v.ownBlock ≠ some b) W w') → Hid (OwnNext W v (.slice g N c)) → wpList Tryz.prog ops Q rest (a.put o.dst (.slice g N c)) w') :
  wpList Tryz.prog ops Q (o :: rest) a W :=
 wpList_plain hgd fun _ hK => step_append_ins W0 W hF s x ho v T hs hown vx ys hx hvx R hR N hN hn fun g c w' h1 h2 h3 h4 => hK _ _ (h g c w' h1 h2 h3 h4)
end Go.Proofs.YtmjccpfchhnfhaaGreat
/- Terms: Term of any number, Newer, fits. -/
namespace Go.Proofs.YtmjccpfchhnfhaaGreat
open Go.RowKit
set_option linter.unusedVariables false
set_option linter.unusedSimpArgs false
theorem lbox (w : World) (b bt : Nat) (v : Value) : ∃ W, w.alloc (.cells #[.int .u64 (b : Nat), .int .u64 (bt : Nat), v] 26 (0, 0)) = W ∧ Hid (Fr (fun _ _ => True) w W) ∧ Hid (W.heap[w.heap.size]? = some (.cells #[.int .u64 (b : Nat), .int .u64 (bt : Nat), v] 26 (0, 0))) ∧
  Hid (∀ W', Fr (fun _ _ => True) W W' → W'.cell? ⟨w.heap.size, 0, none⟩ = some (.int .u64 (b : Nat)) ∧ W'.cell? ⟨w.heap.size, 1, none⟩ = some (.int .u64 (bt : Nat)) ∧ W'.cell? ⟨w.heap.size, 2, none⟩ = some v) :=
 ⟨_, rfl, (Fr.refl _ _).alloc _, heap_alloc_new w _, fun W' f => by
  have t := f.keep _ _ (heap_alloc_new w _) trivial
  exact ⟨cell_mk t rfl, cell_mk t rfl, cell_mk t rfl⟩⟩
abbrev lgE (b bt : Nat) (xs : List EV) : Lg := ⟨b, bt, xs.map EV.en⟩
theorem lgE_last (b bt : Nat) (xs : List EV) : (lgE b bt xs).last = b + xs.length := by unfold Lg.last; simp
theorem lgE_term_at (b bt i k : Nat) (xs : List EV) (hk : k < xs.length) (hi : i = b + 1 + k) : (lgE b bt xs).term i = (xs[k].t, true) := by
 obtain ⟨h', e⟩ := Lg.term_in (l := lgE b bt xs) (i := i) ⟨by show b < i; omega, by rw [lgE_last]; omega⟩
 rw [e]
 have e2 : i - (lgE b bt xs).base - 1 = k := by show i - b - 1 = k; omega
 simp only [e2]
 show (((xs.map EV.en)[k]'(by simpa using hk)).t, true) = _
 rw [List.getElem_map]
 rfl
set_option maxRecDepth 100000 in
theorem tterm_out (w : World) (b bt i : Nat) (a : Option Addr) (n c : Nat) (h : b + n < 18446744073709551616) (hi : i < b ∨ b + n < i) :
  Calls Tryz.prog 66 #[vL b bt (.slice a n c), .int .u64 (i : Nat)] w fun e w' => e = .returned (.tuple #[.int .u64 0, .bool false]) ∧ Fr (fun _ _ => True) w w' := by
 obtain ⟨W1, hW1, F1, X1, CC⟩ := lbox w b bt (.slice a n c)
 obtain ⟨x0, x1, x2⟩ := CC.out W1 (Fr.refl _ _)
 have hne : ((i : Int) == (b : Int)) = false := by simp; omega
 have EC := Lib.hid (tentry_no W1 b bt i a n c h (by omega))
 unfold vL vE zEV at EC
 unfold vL
 clear h hi
 go_enter Tryz.func66, Tryz.ntmps66
 go_wp2_with fail
 try rw [hW1]
 (with_reducible refine EC.out.mono ?_)
 rintro e w2 ⟨rfl, f2⟩
 have F2 := Lib.hid (F1.out.trans f2)
 obtain ⟨W3, hW3⟩ : ∃ W, w2.alloc (.cells #[.int .u64 0, .int .i64 0, .slice none 0 0] 85 (0, 0)) = W := ⟨_, rfl⟩
 have F3 : Hid (Fr (fun _ _ => True) w W3) := hW3 ▸ F2.out.alloc _
 have X3 : Hid (W3.heap[w2.heap.size]? = some (.cells #[.int .u64 0, .int .i64 0, .slice none 0 0] 85 (0, 0))) := hW3 ▸ heap_alloc_new w2 _
 have y0 := frozen_mk (i := 0) X3.out
 have y1 := frozen_mk (i := 1) X3.out
 have y2 := frozen_mk (i := 2) X3.out
 have q0 := cell_mk (i := 0) X3.out rfl
 have q1 := cell_mk (i := 1) X3.out rfl
 have q2 := cell_mk (i := 2) X3.out rfl
 obtain ⟨WZ, hWZ, TZ, FZ⟩ := set3 X3.out (.int .u64 0) (.int .i64 0) (.slice none 0 0)
 have p0 := cell_mk (i := 0) TZ rfl
 have FZH := Lib.hid FZ
 have SZ : Hid (w.heap.size ≤ w2.heap.size) := F2.out.size
 clear f2 EC TZ FZ
 go_wp2
 try rw [hW3]
 try rw [hWZ]
 go_ret2
 exact ⟨rfl, Fr.within ((F3.out.mono fun _ _ _ => trivial).trans (FZH.out.mono fun c _ h e => by have := h.2; have := SZ.out; omega))⟩
theorem tterm_calls {K : Nat → Obj → Prop} (w : World) (b bt i : Nat) (a : Option Addr) (n c : Nat) (xs : List EV) (hx : RowsAt K w (.slice a n c) 3 encE xs) (h : b + n < 18446744073709551616) :
  Calls Tryz.prog 66 #[vL b bt (.slice a n c), .int .u64 (i : Nat)] w fun e w' => e = .returned (.tuple #[.int .u64 (((lgE b bt xs).term i).1 : Nat), .bool ((lgE b bt xs).term i).2]) ∧ Fr (fun _ _ => True) w w' := by
 have hn := hx.len'
 by_cases h0 : i = b
 ·subst h0
  rw [show (lgE i bt xs).term i = (bt, true) from Lg.term_base _]
  exact tterm_base w i bt a n c
 ·by_cases h1 : b < i ∧ i ≤ b + n
  ·have hk : i - b - 1 < xs.length := by omega
   rw [lgE_term_at b bt i (i - b - 1) xs hk (by omega)]
   exact tterm_at w b bt i (i - b - 1) a n c xs hx hn.symm h hk (by omega)
  ·rw [Lg.term_out (l := lgE b bt xs) (i := i) (by rw [lgE_last]; show i < b ∨ _; omega)]
   exact tterm_out w b bt i a n c h (by omega)
set_option maxRecDepth 100000 in
theorem tfits_calls {K : Nat → Obj → Prop} (w : World) (b bt p pt m : Nat) (a : Option Addr) (n c : Nat) (xs : List EV) (hx : RowsAt K w (.slice a n c) 3 encE xs) (h : b + n < 18446744073709551616) (hp : p + m < 18446744073709551616) (hm : m ≤ 1000000) :
    Calls Tryz.prog 101 #[vL b bt (.slice a n c), .int .u64 (p : Nat), .int .u64 (pt : Nat), .int .i64 (m : Nat)] w fun e w' => e = .returned (.int .i64 ((lgE b bt xs).fits p pt m)) ∧ Fr (fun _ _ => True) w w' := by
  have hn := hx.len'
  obtain ⟨W1, hW1, F1, X1, CC⟩ := lbox w b bt (.slice a n c)
  obtain ⟨x0, x1, x2⟩ := CC.out W1 (Fr.refl _ _)
  have LC := Lib.hid (tlast_calls W1 b bt a n c h)
  have TC := Lib.hid (fun W (f : Fr (fun _ _ => True) W1 W) => tterm_calls W b bt p a n c xs ((hx.tt F1.out).tt f) h)
  unfold Lg.fits
  rw [lgE_last, ← hn]
  show Calls _ _ _ _ fun e w' => e = .returned (.int .i64 (if b + n < p then 60 else if p < b then (if p + m ≤ b then 61 else 0) else if ((lgE b bt xs).term p).1 = pt then 0 else 60)) ∧ _
  generalize (lgE b bt xs).term p = T at TC ⊢
  obtain ⟨l, hl⟩ : ∃ l, b + n = l := ⟨_, rfl⟩
  rw [hl] at LC ⊢
  unfold vL at TC LC ⊢
  have w1 : IntKind.u64.wrap (m : Int) = (m : Int) := by rw [IntKind.wrap_u64]; omega
  have w2 : IntKind.u64.wrap ((p : Int) + (m : Int)) = ((p + m : Nat) : Int) := by rw [IntKind.wrap_u64]; omega
  clear hx h hn hp hm
  by_cases h1 : l < p
  · have g1 : (l : Int) < (p : Int) := by omega
    rw [if_pos h1]
    clear h1 hl
    go_enter Tryz.func101, Tryz.ntmps101
    go_wp2_with fail
    try rw [hW1]
    (with_reducible refine LC.out.mono ?_)
    rintro e w2 ⟨rfl, f2⟩
    have F2 := Lib.hid (F1.out.trans f2)
    clear f2 LC x0 x1 x2
    go_wp2
    go_ret
    exact ⟨rfl, F2.out⟩
  · have g1 : ¬ (l : Int) < (p : Int) := by omega
    rw [if_neg h1]
    by_cases h2 : p < b
    · have g2 : (p : Int) < (b : Int) := by omega
      rw [if_pos h2]
      clear h1 hl h2
      by_cases h3 : p + m ≤ b
      all_goals
        first
          | (have g3 : ((p + m : Nat) : Int) ≤ (b : Int) := by omega
             rw [if_pos h3])
          | (have g3 : ¬ ((p + m : Nat) : Int) ≤ (b : Int) := by omega
             rw [if_neg h3])
        clear h3
        generalize p + m = z at w2 g3
        go_enter Tryz.func101, Tryz.ntmps101
        go_wp2_with fail
        try rw [hW1]
        (with_reducible refine LC.out.mono ?_)
        rintro e w2 ⟨rfl, f2⟩
        have F2 := Lib.hid (F1.out.trans f2)
        obtain ⟨y0, y1, y2⟩ := CC.out w2 f2
        clear f2 LC x0 x1 x2
        go_wp2
        go_ret
        exact ⟨rfl, F2.out⟩
    · have g2 : ¬ (p : Int) < (b : Int) := by omega
      rw [if_neg h2]
      clear h1 hl h2
      obtain ⟨T1, T2⟩ := T
      dsimp only at TC ⊢
      by_cases h3 : T1 = pt
      all_goals
        first
          | (have g3 : ((T1 : Int) != (pt : Int)) = false := by simp; omega
             rw [if_pos h3])
          | (have g3 : ((T1 : Int) != (pt : Int)) = true := by simp; omega
             rw [if_neg h3])
        clear h3
        go_enter Tryz.func101, Tryz.ntmps101
        go_wp2_with fail
        try rw [hW1]
        (with_reducible refine LC.out.mono ?_)
        rintro e w2 ⟨rfl, f2⟩
        have F2 := Lib.hid (F1.out.trans f2)
        obtain ⟨y0, y1, y2⟩ := CC.out w2 f2
        have TD := Lib.hid (TC.out _ f2)
        clear f2 LC x0 x1 x2
        go_wp2_with fail
        (with_reducible refine TD.out.mono ?_)
        rintro e w3 ⟨rfl, f3⟩
        have F3 := Lib.hid (F2.out.trans f3)
        clear f3 TD TC
        go_wp2
        go_ret
        exact ⟨rfl, F3.out⟩
end Go.Proofs.YtmjccpfchhnfhaaGreat
/- The document's logs: Last, Term, Entry, Newer. -/
namespace Go.Proofs.YtmjccpfchhnfhaaGreat
open Go.RowKit
set_option linter.unusedVariables false
set_option linter.unusedSimpArgs false
theorem lbox9 (w : World) (b bt : Nat) (v : Value) : ∃ W, w.alloc (.cells #[.int .u64 (b : Nat), .int .u64 (bt : Nat), v] 100 (0, 0)) = W ∧ Hid (Fr (fun _ _ => True) w W) ∧ Hid (W.heap[w.heap.size]? = some (.cells #[.int .u64 (b : Nat), .int .u64 (bt : Nat), v] 100 (0, 0))) ∧
  Hid (∀ W', Fr (fun _ _ => True) W W' → W'.cell? ⟨w.heap.size, 0, none⟩ = some (.int .u64 (b : Nat)) ∧ W'.cell? ⟨w.heap.size, 1, none⟩ = some (.int .u64 (bt : Nat)) ∧ W'.cell? ⟨w.heap.size, 2, none⟩ = some v) :=
 ⟨_, rfl, (Fr.refl _ _).alloc _, heap_alloc_new w _, fun W' f => by
  have t := f.keep _ _ (heap_alloc_new w _) trivial
  exact ⟨cell_mk t rfl, cell_mk t rfl, cell_mk t rfl⟩⟩
set_option maxRecDepth 100000 in
theorem dlst_calls (w : World) (b bt : Nat) (a : Option Addr) (n c : Nat) (h : b + n < 18446744073709551616) :
  Calls Tryz.prog 64 #[vL9 b bt (.slice a n c)] w fun e w' => e = .returned (.int .u64 (b + n : Nat)) ∧ Fr (fun _ _ => True) w w' := by
 obtain ⟨W1, hW1, F1, X1, CC⟩ := lbox9 w b bt (.slice a n c)
 obtain ⟨x0, x1, x2⟩ := CC.out W1 (Fr.refl _ _)
 have hn : IntKind.u64.wrap (n : Int) = n := by rw [IntKind.wrap_u64]; omega
 have hs : IntKind.u64.wrap ((b : Int) + n) = ((b + n : Nat) : Int) := by rw [IntKind.wrap_u64]; omega
 clear h
 unfold vL9
 go_enter Tryz.func64, Tryz.ntmps64
 go_wp2
 try rw [hW1]
 go_ret
 exact ⟨rfl, F1.out⟩
set_option maxRecDepth 100000 in
theorem dterm_base (w : World) (b bt : Nat) (v : Value) :
  Calls Tryz.prog 68 #[vL9 b bt v, .int .u64 (b : Nat)] w fun e w' => e = .returned (.tuple #[.int .u64 (bt : Nat), .bool true]) ∧ Fr (fun _ _ => True) w w' := by
 obtain ⟨W1, hW1, F1, X1, CC⟩ := lbox9 w b bt v
 obtain ⟨x0, x1, x2⟩ := CC.out W1 (Fr.refl _ _)
 unfold vL9
 go_enter Tryz.func68, Tryz.ntmps68
 go_wp2
 try rw [hW1]
 go_ret2
 exact ⟨rfl, F1.out⟩
set_option maxRecDepth 100000 in
set_option maxHeartbeats 1000000 in
theorem dterm_find {K : Nat → Obj → Prop} (w : World) (b bt i : Nat) (a : Option Addr) (n c : Nat) (xs : List EV) (hx : RowsAt K w (.slice a n c) 3 encE xs) (h : b + n < 18446744073709551616) (hm : n ≤ 2000000) (hne : i ≠ b) :
  Calls Tryz.prog 68 #[vL9 b bt (.slice a n c), .int .u64 (i : Nat)] w fun e w' => e = .returned (.tuple #[.int .u64 (((lgE b bt xs).term i).1 : Nat), .bool ((lgE b bt xs).term i).2]) ∧ Fr (fun _ _ => True) w w' := by
 have hnl := hx.len'
 obtain ⟨W1, hW1, F1, X1, CC⟩ := lbox9 w b bt (.slice a n c)
 obtain ⟨x0, x1, x2⟩ := CC.out W1 (Fr.refl _ _)
 have g0 : ((i : Int) == (b : Int)) = false := by simp; omega
 have HIT : Hid (∀ k, (hk : k < xs.length) → b + 1 + k = i → (lgE b bt xs).term i = (xs[k].t, true)) := fun k hk e => lgE_term_at b bt i k xs hk e.symm
 have MISS : Hid ((∀ k, k < n → b + 1 + k ≠ i) → (lgE b bt xs).term i = (0, false)) := fun q => Lg.term_out (l := lgE b bt xs) (by
  rw [lgE_last, ← hnl]
  show i < b ∨ b + n < i
  rcases Nat.lt_or_ge (b + n) i with q1 | q1
  ·exact .inr q1
  ·rcases Nat.lt_or_ge i b with q2 | q2
   ·exact .inl q2
   ·exact absurd (show b + 1 + (i - b - 1) = i by omega) (q (i - b - 1) (by omega)))
 generalize (lgE b bt xs).term i = T at HIT MISS ⊢
 obtain ⟨T1, T2⟩ := T
 dsimp only at HIT MISS ⊢
 have HX := Lib.hid (hx.tt F1.out)
 have HNL := Lib.hid hnl
 have w0 : IntKind.u64.wrap ((b : Int) + 1) = (b : Int) + 1 ∨ n = 0 := by
  rcases Nat.eq_zero_or_pos n with q | q
  ·exact .inr q
  ·exact .inl (by rw [IntKind.wrap_u64]; omega)
 have W0 := Lib.hid w0
 unfold vL9
 clear hx hnl hne w0
 go_enter Tryz.func68, Tryz.ntmps68
 go_wp2
 try rw [hW1]
 go_loop [6] (fun j => ∃ k : Nat, j = .int .i64 (k : Nat) ∧ k ≤ n ∧ Hid (∀ q, q < k → b + 1 + q ≠ i)) (fun j => n - (intOf j).toNat)
 case atStart => exact ⟨0, rfl, Nat.zero_le _, fun q h => absurd h (Nat.not_lt_zero _)⟩
 case round =>
  obtain ⟨k, rfl, hk, HQ⟩ := hrel
  by_cases hlt : k < n
  ·have hltI : (k : Int) < (n : Int) := by omega
   have w1 : IntKind.u64.wrap ((b : Int) + 1) = (b : Int) + 1 := by rcases W0.out with q | q; exact q; omega
   have w2 : IntKind.u64.wrap (k : Int) = (k : Int) := by rw [IntKind.wrap_u64]; omega
   have w3 : IntKind.u64.wrap ((b : Int) + 1 + (k : Int)) = (b : Int) + 1 + (k : Int) := by rw [IntKind.wrap_u64]; omega
   have hkx : k < xs.length := by have := HNL.out; omega
   by_cases he : b + 1 + k = i
   ·have g1 : ((b : Int) + 1 + (k : Int) == (i : Int)) = true := by simp; omega
    obtain ⟨bx, off, _, rfl, _, _, hc1⟩ := HX.out.spot (by omega)
    have u1 := (RowsAt.e3 (K := fun _ _ => True) hc1 k hkx).1
    have ht := HIT.out k hkx he
    obtain ⟨x, hxx⟩ : ∃ x, xs[k] = x := ⟨_, rfl⟩
    rw [hxx] at u1 ht
    cases ht
    have k0 : (0 : Int) ≤ (k : Int) := by omega
    clear hc1 hxx he HIT MISS
    go_wp2
    go_ret2
    exact ⟨rfl, F1.out⟩
   ·have g1 : ((b : Int) + 1 + (k : Int) == (i : Int)) = false := by simp; omega
    have HQ1 : Hid (∀ q, q < k + 1 → b + 1 + q ≠ i) := fun q h e => by
     rcases Nat.lt_or_ge q k with q1 | q1
     ·exact HQ.out q q1 e
     ·obtain rfl : q = k := by omega
      exact he e
    clear he
    go_wp2
    go_round
    case rel => exact ⟨k + 1, by go_num, by omega, HQ1.out⟩
    case measure => simp [intOf]; omega
  ·have hge : ¬ (k : Int) < (n : Int) := by omega
   have ht := MISS.out fun q h => HQ.out q (by omega)
   cases ht
   clear HIT MISS HQ
   go_wp2
   go_ret2
   exact ⟨rfl, F1.out⟩
theorem dterm_calls {K : Nat → Obj → Prop} (w : World) (b bt i : Nat) (a : Option Addr) (n c : Nat) (xs : List EV) (hx : RowsAt K w (.slice a n c) 3 encE xs) (h : b + n < 18446744073709551616) (hm : n ≤ 2000000) :
  Calls Tryz.prog 68 #[vL9 b bt (.slice a n c), .int .u64 (i : Nat)] w fun e w' => e = .returned (.tuple #[.int .u64 (((lgE b bt xs).term i).1 : Nat), .bool ((lgE b bt xs).term i).2]) ∧ Fr (fun _ _ => True) w w' := by
 by_cases h0 : i = b
 ·subst h0
  rw [show (lgE i bt xs).term i = (bt, true) from Lg.term_base _]
  exact dterm_base w i bt _
 ·exact dterm_find w b bt i a n c xs hx h hm h0
end Go.Proofs.YtmjccpfchhnfhaaGreat
/- Slice of a log, sharper (printed by tslice2.py out of XFs2). -/
namespace Go.Proofs.YtmjccpfchhnfhaaGreat
open Go.RowKit
set_option linter.unusedVariables false
set_option linter.unusedSimpArgs false
theorem clone_en2 {K : Nat → Obj → Prop} (w : World) (v : Value) (xs : List EV) (h : RowsAt K w v 3 encE xs) (hm : xs.length ≤ 1000000) :
  Calls Tryz.prog 107 #[v] w fun e w' => (∃ a c, e = .returned (.slice a xs.length c) ∧ RowsAt (fun c o => w.heap.size ≤ c ∧ ∃ cs, o = Obj.cells cs 85 (0, 0)) w' (.slice a xs.length c) 3 encE xs ∧ (a = none → c = 0)) ∧ Fr (fun _ _ => True) w w' := by
 obtain ⟨a, c, rfl, _⟩ := h.form
 cases a with
 | none =>
  have e : xs = [] := by
   rcases Nat.eq_zero_or_pos xs.length with q | q
   ·exact List.length_eq_zero_iff.1 q
   ·obtain ⟨b, off, o, e, _⟩ := h.spot q
    cases e
  subst e
  exact (clone_en_nil w _ _).mono fun e w' ⟨he, hw⟩ => ⟨⟨none, 0, he, RowsAt.nil _ _ _ _, fun _ => rfl⟩, hw ▸ Fr.refl _ _⟩
 | some ad =>
  refine (clone_en_some w ad _ c _ (h.src encE_len (by decide) encE_oneC) hm).mono fun e w' ⟨⟨v, he, ho⟩, hf⟩ => ?_
  have r := rows_own ho encE_len
  obtain ⟨a', c', rfl, _⟩ := r.form
  refine ⟨⟨a', c', he, r, fun e0 => ?_⟩, hf⟩
  subst e0
  rcases ho.2 with ⟨e1, _⟩ | ⟨g, cap, cur, e1, _⟩
  ·rw [Value.slice.injEq] at e1; exact e1.2.2
  ·rw [Value.slice.injEq] at e1; exact absurd e1.1 (by simp)
set_option maxRecDepth 100000 in
set_option maxHeartbeats 4000000 in
theorem tslice2_calls {K : Nat → Obj → Prop} (w : World) (b bt i most : Nat) (a : Option Addr) (n c : Nat) (xs : List EV) (hx : RowsAt K w (.slice a n c) 3 encE xs) (hm : xs.length ≤ 1000000) (hmo : 1 ≤ most) (hmo2 : most ≤ 1000000) (hb : b + xs.length < 18446744073709551616) (hi : i < 18446744073709551616) :
  Calls Tryz.prog 67 #[vL b bt (.slice a n c), .int .u64 (i : Nat), .int .i64 (most : Nat)] w fun e w' => (∃ a' c', e = .returned (.slice a' (if b < i ∧ i ≤ b + xs.length then (xs.drop (i - b - 1)).take most else []).length c') ∧ RowsAt (fun c o => w.heap.size ≤ c ∧ ∃ cs, o = Obj.cells cs 85 (0, 0)) w' (.slice a' (if b < i ∧ i ≤ b + xs.length then (xs.drop (i - b - 1)).take most else []).length c') 3 encE (if b < i ∧ i ≤ b + xs.length then (xs.drop (i - b - 1)).take most else []) ∧ (a' = none → c' = 0)) ∧ Fr (fun _ _ => True) w w' := by
 have hnl := hx.len'
 subst hnl
 obtain ⟨W1, hW1⟩ : ∃ W, w.alloc (.cells #[.int .u64 (b : Nat), .int .u64 (bt : Nat), .slice a xs.length c] 26 (0, 0)) = W := ⟨_, rfl⟩
 have F1 : Hid (Fr (fun _ _ => True) w W1) := hW1 ▸ (Fr.refl _ _).alloc _
 have X1 : Hid (W1.heap[w.heap.size]? = some (.cells #[.int .u64 (b : Nat), .int .u64 (bt : Nat), .slice a xs.length c] 26 (0, 0))) := hW1 ▸ heap_alloc_new w _
 have p0 := cell_mk (i := 0) X1.out rfl
 have p1 := cell_mk (i := 1) X1.out rfl
 have p2 := cell_mk (i := 2) X1.out rfl
 have HC := Lib.hid (thas_calls W1 b bt i a xs.length c hb)
 by_cases h : b < i ∧ i ≤ b + xs.length
 ·rw [decide_eq_true h] at HC
  rw [if_pos h]
  obtain ⟨k, hk⟩ : ∃ k, i - b - 1 = k := ⟨_, rfl⟩
  rw [hk]
  have hkx : k ≤ xs.length := by omega
  obtain ⟨L, hL⟩ : ∃ L, xs.length = L := ⟨_, rfl⟩
  have R1 := (hx.tt F1.out).dropS hkx
  rw [hL] at R1 HC hkx hb hm h hW1 p2 X1
  obtain ⟨ad, had⟩ : ∃ x, subS a c k 3 = x := ⟨_, rfl⟩
  rw [had] at R1
  have hdl : (xs.drop k).length = L - k := by rw [List.length_drop, hL]
  have hcap := hx.form
  have hLc : L ≤ c := by obtain ⟨_, _, e, q⟩ := hx.form; cases e; rw [← hL]; exact q
  obtain ⟨q, hq⟩ : ∃ q, L - k = q := ⟨_, rfl⟩
  obtain ⟨cc, hcc⟩ : ∃ x, c - k = x := ⟨_, rfl⟩
  rw [hq, hcc] at R1
  have hqc : q ≤ cc := by omega
  have hq1 : 1 ≤ q := by omega
  have hs1 : ∀ w : World, (Instr.slice 24 (.slice a L c) (some (.int .u64 (k : Nat))) none none).run Tryz.prog w = .ok (.slice ad q cc) w := fun w => by
   rw [run_sliceF 3 Tryz.underlying24 size_enS w a L c k .u64 hkx, had, hq, hcc]
  have w1 : IntKind.u64.wrap ((i : Int) - (b : Int)) = ((i - b : Nat) : Int) := by rw [IntKind.wrap_u64]; omega
  have w2 : IntKind.u64.wrap (((i - b : Nat) : Int) - 1) = ((k : Nat) : Int) := by rw [IntKind.wrap_u64]; omega
  have HR := Lib.hid (show min most q = ((xs.drop k).take most).length by rw [List.length_take, hdl, hq])
  obtain ⟨mm, hmm⟩ : ∃ x, min most q = x := ⟨_, rfl⟩
  have hm1 : mm ≤ q := by omega
  have hmi : min (most : Int) (q : Int) = (mm : Int) := by omega
  have hs2 : ∀ w : World, (Instr.slice 24 (.slice ad q cc) none (some (.int .i64 (mm : Nat))) none).run Tryz.prog w = .ok (.slice ad mm cc) w := fun w => run_sliceS 3 Tryz.underlying24 size_enS w ad q cc mm .i64 (by omega)
  have R2 := R1.takeS (m := mm) (by rw [hdl, hq]; exact hm1)
  have e2 : (xs.drop k).take mm = (xs.drop k).take most := by
   rw [← hmm]
   rcases Nat.le_total most q with z | z
   ·rw [Nat.min_eq_left z]
   ·rw [Nat.min_eq_right z, List.take_of_length_le (by rw [hdl, hq]; exact Nat.le_refl _), List.take_of_length_le (by rw [hdl, hq]; exact z)]
  rw [e2] at R2
  have RH := Lib.hid R2
  have hml : ((xs.drop k).take most).length ≤ 1000000 := by rw [List.length_take]; omega
  generalize (xs.drop k).take most = ys at RH hml HR R2
  rw [hmm] at HR
  rw [hL]
  have HW1 := Lib.hid hW1
  have m1 : decide ((most : Int) < 1) = false := by simp; omega
  clear hx R1 R2 hW1 e2 hdl hcap hL h hb
  unfold vL at HC ⊢
  go_enter Tryz.func67, Tryz.ntmps67
  go_wp2_with fail
  try rw [HW1.out]
  (with_reducible refine HC.out.mono ?_)
  rintro e w2 ⟨rfl, f2⟩
  have F2 := Lib.hid (F1.out.trans f2)
  have X2 := f2.keep _ _ X1.out trivial
  have CC := Lib.hid (clone_en2 w2 (.slice ad mm cc) ys (by have := RH.out.tt f2; exact this) hml)
  clear p0 p1 p2
  have p0 := cell_mk (i := 0) X2 rfl
  have p1 := cell_mk (i := 1) X2 rfl
  have p2 := cell_mk (i := 2) X2 rfl
  have SZ : Hid (w.heap.size ≤ w2.heap.size) := F2.out.size
  clear f2 X2 HC
  clear hkx had hq hcc hqc hq1 hLc hm hml hk hm1 hmi F1 X1 HW1 HR
  have fin : ∀ e w', ((∃ a c, e = Ending.returned (.slice a ys.length c) ∧ RowsAt (fun c o => w2.heap.size ≤ c ∧ ∃ cs, o = Obj.cells cs 85 (0, 0)) w' (.slice a ys.length c) 3 encE ys ∧ (a = none → c = 0)) ∧ Fr (fun _ _ => True) w2 w') → (∃ a' c', e = Ending.returned (.slice a' ys.length c') ∧ RowsAt (fun c o => w.heap.size ≤ c ∧ ∃ cs, o = Obj.cells cs 85 (0, 0)) w' (.slice a' ys.length c') 3 encE ys ∧ (a' = none → c' = 0)) ∧ Fr (fun _ _ => True) w w' := fun e w' hh => by
   obtain ⟨⟨a', c', e1, e2, e4⟩, e3⟩ := hh
   exact ⟨⟨a', c', e1, e2.mono fun c _ _ hc => ⟨Nat.le_trans SZ.out hc.1, hc.2⟩, e4⟩, F2.out.trans e3⟩
  have FIN := Lib.hid fin
  clear fin
  rcases Nat.lt_or_ge q most with z | z
  rotate_left
  ·have z1 : (most : Int) ≤ (q : Int) := by omega
   have z2 : mm = most := by omega
   subst z2
   clear hmm z
   go_wp2_with fail
   (with_reducible refine CC.out.mono ?_)
   rintro e w3 hh
   obtain ⟨⟨a3, c3, rfl, r3, z3⟩, f3⟩ := FIN.out _ _ hh
   have R3 := Lib.hid r3
   have Z3 := Lib.hid z3
   have F3 := Lib.hid f3
   clear hh r3 z3 f3 CC FIN
   go_wp2
   go_ret
   exact ⟨⟨_, _, rfl, R3.out, Z3.out⟩, F3.out⟩
  ·have z1 : ¬ (most : Int) ≤ (q : Int) := by omega
   have z5 : (q : Int) < (most : Int) := by omega
   have z2 : mm = q := by omega
   subst z2
   clear hmm z
   go_wp2_with fail
   (with_reducible refine CC.out.mono ?_)
   rintro e w3 hh
   obtain ⟨⟨a3, c3, rfl, r3, z3⟩, f3⟩ := FIN.out _ _ hh
   have R3 := Lib.hid r3
   have Z3 := Lib.hid z3
   have F3 := Lib.hid f3
   clear hh r3 z3 f3 CC FIN
   go_wp2
   go_ret
   exact ⟨⟨_, _, rfl, R3.out, Z3.out⟩, F3.out⟩
 ·rw [decide_eq_false h] at HC
  rw [if_neg h]
  clear hx hb hm
  have HW1 := Lib.hid hW1
  clear hW1
  have m1 : decide ((most : Int) < 1) = false := by simp; omega
  unfold vL at HC ⊢
  go_enter Tryz.func67, Tryz.ntmps67
  go_wp2_with fail
  try rw [HW1.out]
  (with_reducible refine HC.out.mono ?_)
  rintro e w2 ⟨rfl, f2⟩
  have F2 := Lib.hid (F1.out.trans f2)
  go_wp2
  go_ret
  exact ⟨⟨none, 0, rfl, RowsAt.nil _ _ _ _, fun _ => rfl⟩, F2.out⟩
theorem tsliceE_calls [Old] {X : Nat → Prop} (w : World) (b bt i most : Nat) (a : Option Addr) (n c : Nat) (xs : List EV) (hx : EsAt X w (.slice a n c) xs) (hm : n ≤ 1000000) (hmo : 1 ≤ most) (hmo2 : most ≤ 1000000) (hb : b + n < 18446744073709551616) (hi : i < 18446744073709551616) (hX : ∀ c, X c → c < w.heap.size) :
  Calls Tryz.prog 67 #[vL b bt (.slice a n c), .int .u64 (i : Nat), .int .i64 (most : Nat)] w fun e w' => (∃ a' c' ys, e = .returned (.slice a' ys.length c') ∧ EsAt X w' (.slice a' ys.length c') ys ∧ ys.map EV.en = (⟨b, bt, xs.map EV.en⟩ : Lg).slice i most) ∧ Fr (fun _ _ => True) w w' := by
 have hl := hx.row.len'
 refine (tslice2_calls w b bt i most a n c xs hx.row (by omega) hmo hmo2 (by omega) hi).mono fun e w' ⟨⟨a', c', h1, h2, h3⟩, hf⟩ => ⟨⟨a', c', _, h1, ⟨h2.mono fun c o _ hc => ⟨fun h => ?_, ?_⟩, fun n2 c2 e2 => ?_, fun x hx2 => ?_⟩, ?_⟩, hf⟩
 ·have := hX c h
  have := hc.1
  omega
 ·obtain ⟨cs, e⟩ := hc.2
  exact .inr ⟨cs, _, _, e, by decide⟩
 ·rw [Value.slice.injEq] at e2
  rw [← e2.2.2]
  exact h3 e2.1
 ·have hin : x ∈ xs := by
   split at hx2
   ·exact List.mem_of_mem_drop (List.mem_of_mem_take hx2)
   ·cases hx2
  exact ⟨(hx.dat x hin).1.tt hf, (hx.dat x hin).2⟩
 ·unfold Lg.slice Lg.has Lg.last
  simp only [List.length_map]
  by_cases q : b < i ∧ i ≤ b + xs.length
  ·rw [if_pos q, if_pos (by simpa using q), List.map_take, List.map_drop]
  ·rw [if_neg q, if_neg (by simpa using q)]
   rfl
end Go.Proofs.YtmjccpfchhnfhaaGreat
