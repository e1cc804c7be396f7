/- Texts of the proofs, part 39: what the functions that they reach do, walked; no conditions beyond those that each states. -/
import Derived.OpenShut
import Derived.Test.YtmjccpfchhnfhaaGreatZz8e2926b105
set_option linter.unusedVariables false
set_option linter.unusedSimpArgs false
/- Law 12: what came in, plainly what comes of messages. -/
namespace Go.Proofs.YtmjccpfchhnfhaaGreat
open Go.RowKit
set_option linter.unusedVariables false
set_option linter.unusedSimpArgs false
theorem right_all {zs : List Int} (h : rightQ zs = true) : (∀ x ∈ zs, 0 ≤ x ∧ x ≤ 15) ∧ 0 < zs.length ∧ zs.length ≤ 16 := by
 have hl := right_len h
 unfold rightQ at h
 simp only [Bool.and_eq_true] at h
 obtain ⟨a, b⟩ := rgt_all h.1
 exact ⟨fun x hx => by have := b x hx; omega, hl.1, hl.2⟩
theorem list12 {l : List Value} (h : l.length = 12) : ∃ a b c d e f g i j k m n, l = [a, b, c, d, e, f, g, i, j, k, m, n] := by
 match l, h with
 | [a, b, c, d, e, f, g, i, j, k, m, n], _ => exact ⟨a, b, c, d, e, f, g, i, j, k, m, n, rfl⟩
set_option maxRecDepth 100000 in
theorem rd_row {α : Type} {w : World} {t e : TypeId} {v : Value} {n : Nat} (enc : α → List Value) (Q : α → Prop) (ht : Tryz.prog.underlying t = some (.slice e)) (hs : Tryz.prog.cellsOf e = n) (h0 : 0 < n) (hn : ∀ x, (enc x).length = n) (hone : ∀ cs, Rd Tryz.prog w e cs → ∃ x, cs = enc x ∧ Q x) (h : Rd Tryz.prog w t [v]) :
  ∃ (a : Option Addr) (c : Nat) (xs : List α), v = .slice a xs.length c ∧ RowsAt (fun c _ => c < w.heap.size) w v n enc xs ∧ (∀ x ∈ xs, Q x) ∧ xs.length ≤ maxLen ∧ (a = none → c = 0) := by
 obtain ⟨a, len, cap, hv, hl1, hl2, hz, hc⟩ := h.slice ht hs
 obtain rfl : v = .slice a len cap := by simpa using hv
 obtain ⟨l, hl, hp⟩ := list_of (p := fun i (x : α) => ∃ ad, a = some ad ∧ (∀ j u, (enc x)[j]? = some u → w.cell? (ad.add (i * n + j)) = some u) ∧ Q x) len fun i hi => by
  obtain ⟨ad, cs, ha, hcl, hat, hr⟩ := hc i hi
  obtain ⟨x, rfl, h1⟩ := hone cs hr
  refine ⟨x, ad, ha, fun j u hu => ?_, h1⟩
  have hj : j < n := by
   have := (List.getElem?_eq_some_iff.1 hu).1
   rw [hn] at this
   exact this
  rw [hat j hj]
  exact hu
 refine ⟨a, cap, l, by rw [hl], ⟨a, cap, by rw [hl], by omega, ?_⟩, fun x hx => ?_, by omega, hz⟩
 ·by_cases hk : l = []
  ·exact .inl hk
  ·obtain ⟨ad, ha, e0, _⟩ := hp 0 (List.length_pos_iff.2 hk)
   have hm : 0 < (enc (l[0]'(List.length_pos_iff.2 hk))).length := by rw [hn]; exact h0
   have e1 := e0 0 _ (List.getElem?_eq_getElem hm)
   rw [Nat.zero_mul, Nat.zero_add] at e1
   obtain ⟨b, off, rfl⟩ := spot_of e1
   have hlt : b < w.heap.size := by have := cell_lt e1; simpa [add_at] using this
   refine .inr ⟨b, off, w.heap[b], ha, Array.getElem?_eq_getElem hlt, hlt, fun i hi j u hu => ?_⟩
   obtain ⟨ad', ha', e2, _⟩ := hp i hi
   rw [ha] at ha'
   cases ha'
   have e3 := e2 j u hu
   rw [add_at] at e3
   rw [Nat.add_assoc]
   exact e3
 ·obtain ⟨i, hi, rfl⟩ := List.getElem_of_mem hx
  obtain ⟨_, _, _, h1⟩ := hp i hi
  exact h1
theorem nat_of {w : World} {cs : List Value} (h : Rd Tryz.prog w 23 cs) : ∃ x : Nat, cs = encW x ∧ x < 18446744073709551616 := by
 obtain ⟨x0, h0, w0⟩ := h.int Tryz.underlying23
 obtain ⟨l0, u0⟩ := bounds_u64 w0
 obtain ⟨y0, rfl⟩ := Int.eq_ofNat_of_zero_le l0
 exact ⟨y0, h0, by omega⟩
theorem byt_of {w : World} {cs : List Value} (h : Rd Tryz.prog w 5 cs) : ∃ x : UInt8, cs = [byteV x] ∧ True := by
 obtain ⟨n, rfl, hw⟩ := h.int Tryz.underlying5
 obtain ⟨h0, h1⟩ := bounds_u8 hw
 refine ⟨UInt8.ofNat n.toNat, ?_, trivial⟩
 rw [byteV, UInt8.toNat_ofNat']
 show [Value.int .u8 n] = _
 congr 2
 omega
theorem RowsAt.byts {K : Nat → Obj → Prop} {w : World} {a : Option Addr} {c : Nat} {bs : List UInt8} (h : RowsAt K w (.slice a bs.length c) 1 (fun x => [byteV x]) bs) (hz : a = none → c = 0) : BytesAt K w (.slice a bs.length c) bs := by
 obtain ⟨a', c', e, hcc, h1⟩ := h
 cases e
 refine ⟨a, c, rfl, hcc, hz, ?_⟩
 rcases h1 with h1 | ⟨b, off, o, ha, ho, hk, hc⟩
 ·exact .inl h1
 ·refine .inr ⟨b, off, o, ha, ho, hk, fun i hi => ?_⟩
  have := hc i hi 0 _ rfl
  rwa [Nat.mul_one, Nat.add_zero] at this
theorem RowsAt.ints {K : Nat → Obj → Prop} {w : World} {a : Option Addr} {c : Nat} {zs : List Int} (h : RowsAt K w (.slice a zs.length c) 1 (fun x => [.int .i64 x]) zs) : IntsAt K w (.slice a zs.length c) zs := by
 obtain ⟨a', c', e, hcc, h1⟩ := h
 cases e
 refine ⟨a, c, rfl, ?_⟩
 rcases h1 with h1 | ⟨b, off, o, ha, ho, hk, hc⟩
 ·exact .inl h1
 ·refine .inr ⟨b, off, o, ha, ho, hk, fun i hi => ?_⟩
  have := hc i hi 0 _ rfl
  rwa [Nat.mul_one, Nat.add_zero] at this
abbrev oldB (w : World) : Old := ⟨fun c => c < w.heap.size⟩
theorem ro_old (w : World) (c : Nat) (o : Obj) (h : c < w.heap.size) : @RO (oldB w) (fun _ => False) c o := ⟨fun e => e, .inl h⟩
theorem dat_of {w : World} {v : Value} (h : Rd Tryz.prog w 30 [v]) : ∃ a c bs, v = .slice a bs.length c ∧ BytesAt (@RO (oldB w) fun _ => False) w (.slice a bs.length c) bs ∧ bs.length ≤ 9223372036854775807 := by
 obtain ⟨a, c, bs, rfl, h1, _, h3, h4⟩ := rd_row (n := 1) (fun x => [byteV x]) (fun _ => True) Tryz.underlying30 (by kernel_rfl) (by decide) (fun _ => rfl) (fun cs hr => byt_of hr) h
 exact ⟨a, c, bs, rfl, (h1.byts h4).mono fun c o _ hc => ro_old w c o hc, by unfold maxLen at h3; omega⟩
set_option maxRecDepth 100000 in
theorem ent_of {w : World} {cs : List Value} (h : Rd Tryz.prog w 85 cs) : ∃ x : EV, cs = encE x ∧ BytesAt (@RO (oldB w) fun _ => False) w (.slice x.a x.d.length x.c) x.d ∧ x.d.length ≤ 9223372036854775807 := by
 obtain ⟨hcl, hf⟩ := h.struct (sz := 3) Tryz.underlying85 (by kernel_rfl)
 obtain ⟨c0, c1, c2, rfl⟩ := list3 hcl
 obtain ⟨x0, h0, w0⟩ := nat_of (show Rd Tryz.prog w 23 [c0] from hf 0 _ rfl)
 obtain ⟨x1, h1, _⟩ := (show Rd Tryz.prog w 3 [c1] from hf 1 _ rfl).int Tryz.underlying3
 obtain ⟨a, c, bs, rfl, hb, hl⟩ := dat_of (show Rd Tryz.prog w 30 [c2] from hf 2 _ rfl)
 have e0 : c0 = .int .u64 (x0 : Nat) := by injection h0
 have e1 : c1 = .int .i64 x1 := by injection h1
 exact ⟨⟨x0, x1, a, c, bs⟩, by rw [e0, e1]; rfl, hb, hl⟩
theorem ents_of {w : World} {v : Value} (h : Rd Tryz.prog w 24 [v]) : ∃ a c xs, v = .slice a xs.length c ∧ @EsAt (oldB w) (fun _ => False) w (.slice a xs.length c) xs ∧ xs.length ≤ maxLen := by
 obtain ⟨a, c, xs, rfl, h1, h2, h3, h4⟩ := rd_row (n := 3) encE _ Tryz.underlying24 (by kernel_rfl) (by decide) (fun _ => rfl) (fun cs hr => ent_of hr) h
 exact ⟨a, c, xs, rfl, @EsAt.mk (oldB w) _ _ _ _ (h1.mono fun c o _ hc => ro_old w c o hc) (fun n k e => by cases e; exact h4 rfl) h2, h3⟩
theorem ints_of {w : World} {v : Value} (h : Rd Tryz.prog w 22 [v]) : ∃ a c zs, v = .slice a zs.length c ∧ IntsAt (@RO (oldB w) fun _ => False) w (.slice a zs.length c) zs ∧ zs.length ≤ maxLen := by
 obtain ⟨a, c, zs, rfl, h1, _, h3, _⟩ := rd_row (n := 1) (fun x => [.int .i64 x]) (fun _ => True) Tryz.underlying22 (by kernel_rfl) (by decide) (fun _ => rfl) (fun cs hr => by
  obtain ⟨x, h, _⟩ := hr.int Tryz.underlying3
  exact ⟨x, h, trivial⟩) h
 exact ⟨a, c, zs, rfl, h1.ints.mono fun c o hc => ro_old w c o hc, h3⟩
theorem nats_of {w : World} {v : Value} (h : Rd Tryz.prog w 27 [v]) : ∃ a c xs, v = .slice a xs.length c ∧ RowsAt (@RO (oldB w) fun _ => False) w (.slice a xs.length c) 1 encW xs := by
 obtain ⟨a, c, xs, rfl, h1, _⟩ := rd_row (n := 1) encW _ Tryz.underlying27 (by kernel_rfl) (by decide) encW_len (fun cs hr => nat_of hr) h
 exact ⟨a, c, xs, rfl, h1.mono fun c o _ hc => ro_old w c o hc⟩
theorem intc {w : World} {c : Value} (h : Rd Tryz.prog w 3 [c]) : ∃ x, c = .int .i64 x := by
 obtain ⟨x, h, _⟩ := h.int Tryz.underlying3
 exact ⟨x, by injection h⟩
theorem natc {w : World} {c : Value} (h : Rd Tryz.prog w 23 [c]) : ∃ x : Nat, c = .int .u64 (x : Nat) := by
 obtain ⟨x, h, _⟩ := nat_of h
 exact ⟨x, by injection h⟩
set_option maxRecDepth 100000 in
theorem st_of {w : World} {cs : Array Value} (h : Rd Tryz.prog w 29 cs.toList) : ∃ s : StV, cs = cS s ∧ @StV.lies (oldB w) w s ∧ s.conf.length ≤ maxLen := by
 obtain ⟨l, rfl⟩ : ∃ l : List Value, cs = l.toArray := ⟨cs.toList, by simp⟩
 rw [List.toList_toArray] at h
 obtain ⟨hcl, hf⟩ := h.struct (sz := 12) Tryz.underlying29 (by kernel_rfl)
 obtain ⟨c0, c1, c2, c3, c4, c5, c6, c7, c8, c9, c10, c11, rfl⟩ := list12 hcl
 obtain ⟨x0, rfl⟩ := intc (show Rd Tryz.prog w 3 [c0] from hf 0 _ rfl)
 obtain ⟨x1, rfl⟩ := intc (show Rd Tryz.prog w 3 [c1] from hf 1 _ rfl)
 obtain ⟨x2, rfl⟩ := intc (show Rd Tryz.prog w 3 [c2] from hf 2 _ rfl)
 obtain ⟨x3, rfl⟩ := intc (show Rd Tryz.prog w 3 [c3] from hf 3 _ rfl)
 obtain ⟨a4, k4, zs, rfl, hz, hzl⟩ := ints_of (show Rd Tryz.prog w 22 [c4] from hf 4 _ rfl)
 obtain ⟨x5, rfl⟩ := natc (show Rd Tryz.prog w 23 [c5] from hf 5 _ rfl)
 obtain ⟨x6, rfl⟩ := natc (show Rd Tryz.prog w 23 [c6] from hf 6 _ rfl)
 have hlog : Rd Tryz.prog w 26 [c7, c8, c9] := hf 7 _ rfl
 obtain ⟨_, hg⟩ := hlog.struct (sz := 3) Tryz.underlying26 (by kernel_rfl)
 obtain ⟨x7, rfl⟩ := natc (show Rd Tryz.prog w 23 [c7] from hg 0 _ rfl)
 obtain ⟨x8, rfl⟩ := natc (show Rd Tryz.prog w 23 [c8] from hg 1 _ rfl)
 obtain ⟨a9, k9, es, rfl, he, hel⟩ := ents_of (show Rd Tryz.prog w 24 [c9] from hg 2 _ rfl)
 obtain ⟨a10, k10, xs, rfl, hx⟩ := nats_of (show Rd Tryz.prog w 27 [c10] from hf 8 _ rfl)
 obtain ⟨a11, k11, ys, rfl, hy⟩ := nats_of (show Rd Tryz.prog w 27 [c11] from hf 9 _ rfl)
 exact ⟨⟨x0, x1, x2, x3, a4, k4, zs, x5, x6, x7, x8, a9, k9, es, a10, k10, xs, a11, k11, ys⟩, rfl, @StV.lies.mk (oldB w) _ _ hz he hx hy fun c h => h, hzl⟩
namespace Lg
theorem slice_len (l : Lg) (i m : Nat) : (l.slice i m).length ≤ m := by
 unfold slice
 split
 ·rw [List.length_take]; omega
 ·exact Nat.zero_le _
end Lg
structure Kept (n m : Nd) (k : Nat) : Prop where
 me : m.me = n.me
 conf : m.conf = n.conf
 yes : m.yes.length ≤ n.yes.length
 es : m.log.es.length ≤ n.log.es.length + k
def Few (l : List Ms) : Prop := l.length ≤ 1 ∧ ∀ x ∈ l, x.es.length ≤ 8 ∧ x.data = []
theorem few_nil : Few [] := ⟨Nat.zero_le _, fun x hx => by cases hx⟩
theorem few_one {m : Ms} (h : m.es.length ≤ 8 ∧ m.data = []) : Few [m] := ⟨Nat.le_refl _, fun x hx => by rw [List.mem_singleton.1 hx]; exact h⟩
namespace Nd
theorem sure_kept (n : Nd) : Kept n n.sure 0 := by
 unfold sure sureR
 split <;> exact ⟨rfl, rfl, Nat.le_refl _, Nat.le_refl _⟩
theorem sendTo_few (n : Nd) (x : Int) : Few (n.sendTo x) := by
 unfold sendTo
 split
 ·exact few_nil
 ·exact few_one ⟨Lg.slice_len _ _ _, rfl⟩
end Nd
end Go.Proofs.YtmjccpfchhnfhaaGreat
