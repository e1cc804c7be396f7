/- Texts of the proofs, part 21: what the functions that they reach do, walked; no conditions beyond those that each states. -/
import Derived.Deep.RegionHeld3
import Derived.Deep.QuietTactic
import Derived.BigQuiet
import Derived.Test.YtcpbmempfeloaaaDoorZz308d1bceb0
set_option linter.unusedVariables false
set_option linter.unusedSimpArgs false
/- A journal: what its functions do, plainly. -/
namespace Go.Proofs.YtcpbmempfeloaaaDoor
open Go.RowKit
set_option linter.unusedVariables false
set_option linter.unusedSimpArgs false

def metaB (f e l : Nat) : List UInt8 := le f 4 ++ le e 4 ++ le l 4
theorem metaB_length (f e l : Nat) : (metaB f e l).length = 12 := by simp [metaB, le_length]
theorem meta_metaB (f e l : Nat) (hf : f < 4294967296) (he : e < 4294967296) (hl : l < 4294967296) : metaM (metaB f e l) = (f, e, l, decide (0 < f) && decide (l ≤ e)) := by
  have e1 : numR (metaB f e l) false 4 = (f, le e 4 ++ le l 4, false) := by
    have h1 : (metaB f e l).take 4 = le f 4 := by unfold metaB; rw [List.append_assoc, List.take_append_of_le_length (by simp [le_length]), List.take_of_length_le (by simp [le_length])]
    have h2 : (metaB f e l).drop 4 = le e 4 ++ le l 4 := by unfold metaB; rw [List.append_assoc, List.drop_append_of_le_length (by simp [le_length]), List.drop_of_length_le (by simp [le_length]), List.nil_append]
    unfold numR
    rw [if_neg (by rw [metaB_length]; simp), h1, h2, ofLE_le 4 f hf]
  have e2 : numR (le e 4 ++ le l 4) false 4 = (e, le l 4, false) := by
    unfold numR
    rw [if_neg (by simp [le_length]), List.take_append_of_le_length (by simp [le_length]), List.take_of_length_le (by simp [le_length]), List.drop_append_of_le_length (by simp [le_length]), List.drop_of_length_le (by simp [le_length]), List.nil_append, ofLE_le 4 e he]
  have e3 : numR (le l 4) false 4 = (l, [], false) := by
    unfold numR
    rw [if_neg (by simp [le_length]), List.take_of_length_le (by simp [le_length]), List.drop_of_length_le (by simp [le_length]), ofLE_le 4 l hl]
  unfold metaM
  simp only [e1, e2, e3]
  rfl

def jsave (J : Jn) (D : Dk) : Int × Dk := saveM D J.loc (metaB J.first J.epoch J.low)
/-- What the slot tells: first, epoch, low, whether they are right. -/
def jslot (D : Dk) (l : Int) : Nat × Nat × Nat × Bool := if (loadM D l).2.2 = 0 then metaM (loadM D l).1 else (1, 0, 0, true)
def jheld (D : Dk) (l n : Nat) (f e low : Nat) : List (Nat × List UInt8) := scanM (fun s => parseP (D.seen.getD (l + 2 + s % n) [])) e n f low
def jopenIn (D : Dk) (l n : Nat) : Int × Option Jn × Dk :=
  if (jslot D l).2.2.2 = false then (41, none, D) else if (jslot D l).2.1 = 4294967295 then (42, none, D) else
    let J : Jn := ⟨l, n, (jslot D l).1, (jslot D l).2.1 + 1, (jslot D l).2.2.1, jheld D l n (jslot D l).1 (jslot D l).2.1 (jslot D l).2.2.1⟩
    if (jsave J D).1 = 0 then (0, some J, (jsave J D).2) else ((jsave J D).1, none, (jsave J D).2)
def jopen (D : Dk) (l n : Int) : Int × Option Jn × Dk :=
  if n < 1 ∨ 100 < n then (1, none, D) else if l < 0 ∨ (D.sure.length : Int) - 2 - n < l then (40, none, D) else jopenIn D l.toNat n.toNat
def Jn.next (J : Jn) : Nat := J.first + J.held.length
def jappend (J : Jn) (D : Dk) (b : List UInt8) : Int × Jn × Dk :=
  if 43 < b.length then (2, J, D) else if J.held.length = J.n ∨ 4294967295 < J.next then (42, J, D) else
    ((D.write (J.sec J.next) (stampB J.next J.epoch b)).1, { J with held := J.held ++ [(J.epoch, b)] }, (D.write (J.sec J.next) (stampB J.next J.epoch b)).2)
def Jn.trim (J : Jn) (k : Nat) : Jn := { J with first := (J.first + k) % 4294967296, low := lastE J.low (J.held.take k), held := J.held.drop k }
def jtrim (J : Jn) (D : Dk) (k : Int) : Int × Jn × Dk :=
  if k < 0 ∨ (J.held.length : Int) < k then (1, J, D) else ((jsave (J.trim k.toNat) D).1, J.trim k.toNat, (jsave (J.trim k.toNat) D).2)
/-- The zeros of a Cut: so many, of which the last one stands at m - 1. -/
def jzero (J : Jn) : Nat → Nat → Dk → Dk
  | 0, _, D => D
  | k + 1, m, D => jzero J k (m - 1) (D.write (J.sec ((J.first + (m - 1)) % 4294967296)) []).2
def Jn.cut (J : Jn) (k : Nat) : Jn := { J with epoch := J.epoch + 1, held := J.held.take (J.held.length - k) }
def jcut (J : Jn) (D : Dk) (k : Int) : Int × Jn × Dk :=
  if k < 0 ∨ (J.held.length : Int) < k then (1, J, D) else if J.epoch = 4294967295 then (42, J, D) else
    ((jsave (J.cut k.toNat) (jzero J k.toNat J.held.length D.sync).sync).1, J.cut k.toNat, (jsave (J.cut k.toNat) (jzero J k.toNat J.held.length D.sync).sync).2)

end Go.Proofs.YtcpbmempfeloaaaDoor
/- A journal, plainly: what its functions do to it and to its disk; what stays true. -/
namespace Go.Proofs.YtcpbmempfeloaaaDoor
open Go.RowKit
set_option linter.unusedVariables false
set_option linter.unusedSimpArgs false

theorem jburn_id {D : Dk} (hd : D.down = false) (hf : D.fuse < 0) : D.burn = D := by
  unfold Dk.burn
  have h1 : D.fuse - min 1 (max 0 D.fuse) = D.fuse := by omega
  have h2 : (D.down || D.fuse == 0) = D.down := by rw [hd]; simp; omega
  rw [h1, h2]
theorem jsync_id {D : Dk} (hd : D.down = false) (hf : D.fuse < 0) : D.sync = { D with sure := laySure D.sure D.pend, pend := [] } := by
  unfold Dk.sync
  rw [jburn_id hd hf, if_neg (by rw [hd]; decide)]
theorem jwrite_id {D : Dk} (hd : D.down = false) (hf : D.fuse < 0) {y : Nat} {x : List UInt8} (hy : y < D.sure.length) (hx : x.length ≤ 64) : D.write y x = (0, { D with seen := D.seen.set y (pad x), pend := D.pend ++ [(y, pad x)] }) := by
  unfold Dk.write
  rw [if_neg (by omega), if_neg (by omega), jburn_id hd hf, if_neg (by rw [hd]; decide), Int.toNat_natCast]
  unfold Dk.put
  rw [jburn_id hd hf]
theorem jpad {x : List UInt8} (h : x.length = 64) : pad x = x := by unfold pad; rw [h]; simp

/-- A disk of 20 sectors that is up, and goes on. -/
structure Up (D : Dk) : Prop where
  good : D.good
  len : D.sure.length = 20
  up : D.down = false
  fz : D.fuse < 0
theorem Up.seenLen {D : Dk} (h : Up D) : D.seen.length = 20 := by rw [h.good.ok.len, h.len]
theorem Up.sync {D : Dk} (h : Up D) : Up D.sync ∧ D.sync.seen = D.seen ∧ D.sync.sure = D.seen ∧ D.sync.pend = [] := by
  have e := jsync_id h.up h.fz
  have hg := h.good.sync
  rw [e] at hg ⊢
  have hs : laySure D.sure D.pend = D.seen := h.good.seen.symm
  exact ⟨⟨hg, by show (laySure D.sure D.pend).length = 20; rw [hs]; exact h.seenLen, h.up, h.fz⟩, rfl, hs, rfl⟩
theorem Up.write {D : Dk} (h : Up D) (y : Nat) (x : List UInt8) (hy : y < 20) (hx : x.length ≤ 64) (hq : D.pend.length < 1000000) :
    (D.write y x).1 = 0 ∧ Up (D.write y x).2 ∧ (D.write y x).2.seen = D.seen.set y (pad x) ∧ (D.write y x).2.pend = D.pend ++ [(y, pad x)] ∧ (D.write y x).2.sure = D.sure := by
  have hg := h.good.write y x hq
  have e := jwrite_id h.up h.fz (y := y) (x := x) (by rw [h.len]; omega) hx
  rw [e] at hg ⊢
  exact ⟨rfl, ⟨hg, h.len, h.up, h.fz⟩, rfl, rfl, rfl⟩
/-- A save of the slot at 1. -/
theorem Up.save {D : Dk} {z : Nat} (h : Up D) (hz : z + 1 < 20) {m y : Nat} {b0 b : List UInt8} (hp : Pl D.seen z m y b0) (hm : m + 1 < 4294967295) (hb : b.length ≤ 43) :
    (saveM D z b).1 = 0 ∧ Up (saveM D z b).2 ∧ (saveM D z b).2.seen = D.seen.set y (stampB (m + 1) 0 b) ∧ (saveM D z b).2.sure = D.seen.set y (stampB (m + 1) 0 b) ∧ (saveM D z b).2.pend = [] := by
  obtain ⟨s1, s2, s3, s4⟩ := h.sync
  have hr : D.right z = true := by unfold Dk.right; rw [h.len]; simp; omega
  have hyk := hp.yk
  have e1 : putM D z b = D.sync.write y (stampB (m + 1) 0 b) := by
    unfold putM
    rw [hr, if_pos rfl, if_neg (by omega), Int.toNat_natCast, hp.last]
    simp only
    rw [if_neg (by omega)]
    congr 1
    omega
  have hl := stampB_length (m + 1) 0 b hb
  obtain ⟨w1, w2, w3, w4, w5⟩ := s1.write y (stampB (m + 1) 0 b) (by omega) (by omega) (by rw [s4]; decide)
  rw [jpad hl, s2] at w3
  rw [jpad hl, s4] at w4
  rw [← e1] at w1 w2 w3 w4
  obtain ⟨t1, t2, t3, t4⟩ := w2.sync
  have e2 : saveM D z b = (0, (putM D z b).2.sync) := by
    unfold saveM
    rw [if_pos w1, if_neg (by rw [t1.up]; decide)]
  rw [e2]
  exact ⟨rfl, t1, by rw [t2, w3], by rw [t3, w3], t4⟩

theorem Rg.congr {S S' : List (List UInt8)} {c n f low E : Nat} {L : List (Nat × List UInt8)} (h : Rg S c n f low E L) (hl : S'.length = S.length) (he : ∀ x, x < n → S'.getD (c + x) [] = S.getD (c + x) []) : Rg S' c n f low E L := by
  have hn := h.n1
  exact { h with len := by rw [hl]; exact h.len, laid := fun i hi => by rw [he _ (Nat.mod_lt _ hn)]; exact h.laid i hi, sm := fun x hx => by rw [he x hx]; exact h.sm x hx, al := fun x hx => by rw [he x hx]; exact h.al x hx, stop := by rw [he _ (Nat.mod_lt _ hn)]; exact h.stop }
theorem Fresh.congr {S S' : List (List UInt8)} {c n E q : Nat} (h : Fresh S c n E q) (he : ∀ x, x < n → S'.getD (c + x) [] = S.getD (c + x) []) : Fresh S' c n E q := fun x hx => by rw [he x hx]; exact h x hx

/-- What stays true of a journal at 1 of a disk of 20 sectors; q bounds its numbers. -/
structure JI (z n q : Nat) (J : Jn) (D : Dk) (L : List (Nat × List UInt8)) (bs : List (List UInt8)) : Prop where
  up : Up D
  n17 : z + 2 + n ≤ 20
  loc : J.loc = z
  jn : J.n = n
  pl : ∃ m y, Pl D.sure z m y (metaB J.first J.epoch J.low) ∧ 0 < m ∧ m ≤ q
  ring : Rg D.sure (z + 2) n J.first J.low J.epoch L
  fresh : Fresh D.sure (z + 2) n J.epoch (J.first + L.length)
  held : J.held = L ++ recE J.epoch bs
  pend : D.pend = pendOf (z + 2) n J.epoch (J.first + L.length) bs
  few : L.length + bs.length ≤ n
  b43 : ∀ b ∈ bs, b.length ≤ 43
  e1 : 1 ≤ J.epoch
  eq : J.epoch ≤ q
  nq : J.first + L.length + bs.length ≤ q

theorem Pl.lay {k m y : Nat} {b : List UInt8} : ∀ (l : List (Nat × List UInt8)) {S : List (List UInt8)}, Pl S k m y b → (∀ x ∈ l, k + 1 < x.1) → Pl (laySure S l) k m y b
  | [], S, h, _ => h
  | x :: l, S, h, hx => Pl.lay l (h.other (z := x.1) (x := x.2) (by have := hx x (by simp); omega) (by have := hx x (by simp); omega)) fun y hy => hx y (by simp [hy])
theorem Pl.tornAll {k m y : Nat} {b : List UInt8} (zs : List Int) : ∀ (l : List (Nat × List UInt8)) (i : Nat) {S : List (List UInt8)}, Pl S k m y b → (∀ x ∈ l, k + 1 < x.1) → Pl ((l.zipIdx i).foldl (tornAt zs) S) k m y b
  | [], i, S, h, _ => h
  | x :: l, i, S, h, hx => Pl.tornAll zs l (i + 1) (S := tornAt zs S (x, i)) (h.other (by have := hx x (by simp); show x.1 ≠ k; omega) (by have := hx x (by simp); show x.1 ≠ k + 1; omega)) fun y hy => hx y (by simp [hy])
theorem pendOf_mem (c n E : Nat) : ∀ (l : List (List UInt8)) (s : Nat), ∀ x ∈ pendOf c n E s l, c ≤ x.1
  | [], s, x, h => by simp [pendOf] at h
  | b :: l, s, x, h => by
    rcases List.mem_cons.1 h with rfl | h
    · simp
    · exact pendOf_mem c n E l (s + 1) x h

section
variable {z n q : Nat} {J : Jn} {D : Dk} {L : List (Nat × List UInt8)} {bs : List (List UInt8)}
theorem JI.heldLen (h : JI z n q J D L bs) : J.held.length = L.length + bs.length := by rw [h.held]; simp [recE]
theorem JI.plp (h : JI z n q J D L bs) : ∀ x ∈ D.pend, z + 1 < x.1 := fun x hx => by
  rw [h.pend] at hx
  have := pendOf_mem (z + 2) n J.epoch bs _ x hx
  omega
theorem JI.seen (h : JI z n q J D L bs) (hq : q < 250) : (∃ m y, Pl D.seen z m y (metaB J.first J.epoch J.low) ∧ 0 < m ∧ m ≤ q) ∧ Rg D.seen (z + 2) n J.first J.low J.epoch J.held ∧ Fresh D.seen (z + 2) n J.epoch J.next := by
  obtain ⟨m, y, hp, h0, hm⟩ := h.pl
  have hs := h.up.good.seen
  have hnq := h.nq
  obtain ⟨r1, r2⟩ := Rg.lay bs h.ring h.fresh h.few h.b43 (by omega)
  rw [← h.pend, ← hs] at r1 r2
  refine ⟨⟨m, y, ?_, h0, hm⟩, by rw [h.held]; exact r1, ?_⟩
  · rw [hs]; exact Pl.lay _ hp h.plp
  · unfold Jn.next
    rw [h.heldLen, ← Nat.add_assoc]; exact r2
/-- Behind a save. -/
theorem saved_ji (hu : Up D) {m y : Nat} {b0 : List UInt8} (hp : Pl D.seen z m y b0) (hm : m ≤ q) (hn : z + 2 + n ≤ 20) (hq : q < 250) {f low E : Nat} {H : List (Nat × List UInt8)} (hr : Rg D.seen (z + 2) n f low E H) (hf : Fresh D.seen (z + 2) n E (f + H.length)) (h1 : 1 ≤ E) (h2 : E ≤ q + 1) (h3 : f + H.length ≤ q + 1) :
    (jsave ⟨z, n, f, E, low, H⟩ D).1 = 0 ∧ JI z n (q + 1) ⟨z, n, f, E, low, H⟩ (jsave ⟨z, n, f, E, low, H⟩ D).2 H [] := by
  have hb : (metaB f E low).length ≤ 43 := by rw [metaB_length]; decide
  obtain ⟨s1, s2, s3, s4, s5⟩ := hu.save (by omega) hp (by omega) hb
  have hyk := hp.yk
  have hp' := hp.step (by rw [hu.seenLen]; omega) (by omega) hb
  have he : ∀ x, x < n → (D.seen.set y (stampB (m + 1) 0 (metaB f E low))).getD (z + 2 + x) [] = D.seen.getD (z + 2 + x) [] := fun x hx => getD_set_other (by omega) _
  have hl : (D.seen.set y (stampB (m + 1) 0 (metaB f E low))).length = D.seen.length := by simp
  refine ⟨s1, ⟨s2, hn, rfl, rfl, ⟨m + 1, _, by rw [show (jsave ⟨z, n, f, E, low, H⟩ D).2.sure = _ from s4]; exact hp', by omega, by omega⟩, ?_, ?_, by simp [recE], ?_, by have := hr.few; simpa using this, by simp, h1, h2, by simpa using h3⟩⟩
  · rw [show (jsave ⟨z, n, f, E, low, H⟩ D).2.sure = _ from s4]; exact hr.congr hl he
  · rw [show (jsave ⟨z, n, f, E, low, H⟩ D).2.sure = _ from s4]; exact hf.congr he
  · rw [show (jsave ⟨z, n, f, E, low, H⟩ D).2.pend = _ from s5]; rfl
theorem JI.up1 (h : JI z n q J D L bs) : JI z n (q + 1) J D L bs :=
  { h with pl := by obtain ⟨m, y, a, b, c⟩ := h.pl; exact ⟨m, y, a, b, by omega⟩, eq := by have := h.eq; omega, nq := by have := h.nq; omega }
theorem JI.form (h : JI z n q J D L bs) : J = ⟨z, n, J.first, J.epoch, J.low, J.held⟩ := by
  have h1 := h.loc
  have h2 := h.jn
  cases J
  simp at h1 h2
  subst h1 h2
  rfl
/-- What is opened: of a disk whose slot and ring are so. -/
theorem open_ji (hu : Up D) {m y f low E : Nat} {H : List (Nat × List UInt8)} (hp : Pl D.seen z m y (metaB f E low)) (h0 : 0 < m) (hm : m ≤ q) (hn : z + 2 + n ≤ 20) (hq : q < 250) (hr : Rg D.seen (z + 2) n f low E H) (hE : E ≤ q) (hN : f + H.length ≤ q) :
    ∃ D', jopen D z n = (0, some ⟨z, n, f, E + 1, low, H⟩, D') ∧ JI z n (q + 1) ⟨z, n, f, E + 1, low, H⟩ D' H [] := by
  have hn1 := hr.n1
  have hf1 := hr.f1
  have hle := hr.mono.le
  have hld : loadM D z = (metaB f E low, m, 0) := by
    have := hp.load (D := D) (k := z) (by unfold Dk.right; rw [hu.len]; simp; omega)
    rw [if_neg (by omega)] at this
    exact this
  have hsl : jslot D z = (f, E, low, true) := by
    unfold jslot
    rw [hld, if_pos rfl, meta_metaB f E low (by omega) (by omega) (by omega), decide_eq_true (by omega), decide_eq_true hle]
    rfl
  have hh : jheld D z n f E low = H := hr.scan
  obtain ⟨r1, r2⟩ := hr.up (by omega)
  obtain ⟨s1, s2⟩ := saved_ji hu hp hm hn hq r1 (r2 _) (by omega) (by omega) (by omega)
  refine ⟨_, ?_, s2⟩
  unfold jopen
  rw [if_neg (by omega), if_neg (by rw [hu.len]; omega), Int.toNat_natCast, Int.toNat_natCast]
  unfold jopenIn
  rw [hsl]
  simp only
  rw [if_neg (by decide), if_neg (by omega), hh, if_pos s1]
/-- Open. -/
theorem JI.opens (h : JI z n q J D L bs) (hq : q < 250) : ∃ D', jopen D z n = (0, some { J with epoch := J.epoch + 1 }, D') ∧ JI z n (q + 1) { J with epoch := J.epoch + 1 } D' J.held [] := by
  obtain ⟨⟨m, y, hp, h0, hm⟩, hr, hf⟩ := h.seen hq
  have hnq := h.nq
  have hl := h.heldLen
  have := open_ji h.up hp h0 hm h.n17 hq hr h.eq (by omega)
  rw [h.form]
  exact this
theorem layTorn_len (zs : List Int) (s : List (List UInt8)) (l : List (Nat × List UInt8)) : (layTorn zs s l).length = s.length := foldTorn_length zs _ s
theorem Up.crash (h : Up D) (zs : List Int) : Up (D.crash zs) := ⟨h.good.crash zs, by show (layTorn zs D.sure D.pend).length = 20; rw [layTorn_len, h.len], rfl, by show (-1 : Int) < 0; decide⟩
/-- Crash, and Open: of those that were not synced the first ones alone. -/
theorem JI.crash (h : JI z n q J D L bs) (hq : q < 250) (zs : List Int) : ∃ j D', j ≤ bs.length ∧ jopen (D.crash zs) z n = (0, some { J with epoch := J.epoch + 1, held := L ++ recE J.epoch (bs.take j) }, D') ∧ JI z n (q + 1) { J with epoch := J.epoch + 1, held := L ++ recE J.epoch (bs.take j) } D' (L ++ recE J.epoch (bs.take j)) [] := by
  obtain ⟨m, y, hp, h0, hm⟩ := h.pl
  have hnq := h.nq
  obtain ⟨j, hj, hr⟩ := Rg.crash zs bs 0 h.ring h.fresh h.few h.b43 (by omega)
  rw [← h.pend] at hr
  have hp' : Pl (D.crash zs).seen z m y (metaB J.first J.epoch J.low) := Pl.tornAll zs _ 0 hp h.plp
  obtain ⟨D', h1, h2⟩ := open_ji (h.up.crash zs) hp' h0 hm h.n17 hq hr h.eq (by simp [recE]; omega)
  refine ⟨j, D', hj, ?_⟩
  have h3 := h.loc
  have h4 := h.jn
  cases J
  simp at h3 h4
  subst h3 h4
  exact ⟨h1, h2⟩
/-- Append. -/
theorem JI.appends (h : JI z n q J D L bs) (hq : q < 250) (b : List UInt8) :
    ((jappend J D b).1 = 0 ∧ JI z n (q + 1) { J with held := J.held ++ [(J.epoch, b)] } (jappend J D b).2.2 L (bs ++ [b]) ∧ (jappend J D b).2.1 = { J with held := J.held ++ [(J.epoch, b)] }) ∨ ((jappend J D b).1 ≠ 0 ∧ (jappend J D b).2 = (J, D) ∧ (43 < b.length ∨ J.held.length = n)) := by
  have hl := h.heldLen
  have hnq := h.nq
  have hn17 := h.n17
  have hn1 := h.ring.n1
  unfold jappend
  by_cases h1 : 43 < b.length
  · rw [if_pos h1]; exact .inr ⟨by simp, rfl, .inl h1⟩
  · rw [if_neg h1]
    by_cases h2 : J.held.length = J.n
    · rw [if_pos (.inl h2)]; exact .inr ⟨by simp, rfl, .inr (by rw [h2, h.jn])⟩
    · have hnx : J.next = J.first + L.length + bs.length := by unfold Jn.next; omega
      rw [h.jn] at h2
      have hfew := h.few
      rw [if_neg (by rw [h.jn, hnx]; omega)]
      have hsec : J.sec J.next = z + 2 + (J.first + L.length + bs.length) % n := by unfold Jn.sec; rw [h.loc, h.jn, hnx]
      have hmod := Nat.mod_lt (J.first + L.length + bs.length) hn1
      have hsl := stampB_length J.next J.epoch b (by omega)
      obtain ⟨w1, w2, w3, w4, w5⟩ := h.up.write (J.sec J.next) (stampB J.next J.epoch b) (by rw [hsec]; omega) (by omega) (by rw [h.pend, pendOf_length]; omega)
      rw [jpad hsl] at w3 w4
      refine .inl ⟨w1, ⟨w2, h.n17, h.loc, h.jn, ?_, ?_, ?_, ?_, ?_, ?_, ?_, h.e1, ?_, ?_⟩, rfl⟩
      · rw [show (D.write (J.sec J.next) (stampB J.next J.epoch b)).2.sure = D.sure from w5]
        obtain ⟨m, y, a, b, c⟩ := h.pl; exact ⟨m, y, a, b, by omega⟩
      · rw [show (D.write (J.sec J.next) (stampB J.next J.epoch b)).2.sure = D.sure from w5]; exact h.ring
      · rw [show (D.write (J.sec J.next) (stampB J.next J.epoch b)).2.sure = D.sure from w5]; exact h.fresh
      · show J.held ++ _ = _
        rw [h.held]; simp [recE]
      · show (D.write (J.sec J.next) (stampB J.next J.epoch b)).2.pend = _
        rw [w4, h.pend, pendOf_snoc, hsec, hnx]
      · simp; omega
      · intro x hx
        rcases List.mem_append.1 hx with hx | hx
        · exact h.b43 x hx
        · simp at hx; subst hx; omega
      · have := h.eq; show J.epoch ≤ q + 1; omega
      · simp; omega
/-- Sync. -/
theorem JI.syncs (h : JI z n q J D L bs) (hq : q < 250) : JI z n q J D.sync J.held [] := by
  obtain ⟨hpl, hr, hf⟩ := h.seen hq
  obtain ⟨s1, s2, s3, s4⟩ := h.up.sync
  have hl := h.heldLen
  have hnq := h.nq
  have := h.few
  exact ⟨s1, h.n17, h.loc, h.jn, by rw [s3]; exact hpl, by rw [s3]; exact hr, by rw [s3]; exact hf, by simp [recE], by rw [s4]; rfl, by simp; omega, by simp, h.e1, h.eq, by simp; omega⟩
/-- Trim. -/
theorem JI.trims (h : JI z n q J D L bs) (hq : q < 250) (k : Int) :
    (0 ≤ k ∧ k ≤ J.held.length ∧ (jtrim J D k).1 = 0 ∧ JI z n (q + 1) (J.trim k.toNat) (jtrim J D k).2.2 (J.held.drop k.toNat) [] ∧ (jtrim J D k).2.1 = J.trim k.toNat) ∨ (¬ (0 ≤ k ∧ k ≤ J.held.length) ∧ jtrim J D k = (1, J, D)) := by
  obtain ⟨⟨m, y, hp, h0, hm⟩, hr, hf⟩ := h.seen hq
  have hl := h.heldLen
  have hnq := h.nq
  unfold jtrim
  by_cases hk : k < 0 ∨ (J.held.length : Int) < k
  · rw [if_pos hk]; exact .inr ⟨by omega, rfl⟩
  · rw [if_neg hk]
    have hkn : k.toNat ≤ J.held.length := by omega
    have hfm : (J.first + k.toNat) % 4294967296 = J.first + k.toNat := Nat.mod_eq_of_lt (by omega)
    have hd : (J.held.drop k.toNat).length = J.held.length - k.toNat := by simp
    have hr' := hr.trim k.toNat hkn
    have heq := h.eq
    obtain ⟨s1, s2⟩ := saved_ji (q := q) h.up hp hm h.n17 hq hr' (by
      rw [show J.first + k.toNat + (J.held.drop k.toNat).length = J.next by unfold Jn.next; omega]; exact hf) h.e1 (by omega) (by omega)
    have e : J.trim k.toNat = ⟨z, n, J.first + k.toNat, J.epoch, lastE J.low (J.held.take k.toNat), J.held.drop k.toNat⟩ := by
      unfold Jn.trim
      rw [h.loc, h.jn, hfm]
    refine .inl ⟨by omega, by omega, ?_, ?_, rfl⟩
    · rw [e]; exact s1
    · rw [e]; exact s2
end
end Go.Proofs.YtcpbmempfeloaaaDoor
/- Package journal: save. -/
namespace Go.Proofs.YtcpbmempfeloaaaDoor
open Go.RowKit
set_option linter.unusedVariables false

theorem JAt.reads {w : World} {bj bd : Nat} {G : Nat → Prop} {vh : Value} {T : List (Nat × Value × List UInt8)} {J : Jn} (h : JAt w bj bd G vh T J) (W : World) (f : Fr (fun _ _ => True) w W) :
    W.cell? ⟨bj, 0, none⟩ = some (.pointer (some ⟨bd, 0, none⟩)) ∧ W.cell? ⟨bj, 1, none⟩ = some (.int .i64 (J.loc : Nat)) ∧ W.cell? ⟨bj, 2, none⟩ = some (.int .i64 (J.n : Nat)) ∧ W.cell? ⟨bj, 3, none⟩ = some (.int .u32 (J.first : Nat)) ∧ W.cell? ⟨bj, 4, none⟩ = some (.int .u32 (J.epoch : Nat)) ∧ W.cell? ⟨bj, 5, none⟩ = some (.int .u32 (J.low : Nat)) ∧ W.cell? ⟨bj, 6, none⟩ = some vh := by
  have t := f.keep _ _ h.top trivial
  exact ⟨cell_mk t rfl, cell_mk t rfl, cell_mk t rfl, cell_mk t rfl, cell_mk t rfl, cell_mk t rfl, cell_mk t rfl⟩

set_option maxRecDepth 100000 in
theorem jsave_calls (w : World) (bj bd : Nat) (G F : Nat → Prop) (J : Jn) (D : Dk) (h : Jnl w bj bd G J) (hd : Dsk w bd F D) (hFG : ∀ c, G c → ¬ F c) (ht : TabOK w) (hq : D.pend.length < 1000000) :
    Calls Tryd.prog 58 #[.pointer (some ⟨bj, 0, none⟩)] w fun e w' => e = .returned (.int .i64 (jsave J D).1) ∧ Dsk w' bd (fun c => F c ∨ w.heap.size ≤ c) (jsave J D).2 ∧ Fr (fun c _ => ¬ F c) w w' := by
  obtain ⟨vh, T, h⟩ := h
  have CC := Lib.hid h.reads
  have KB : Hid (∀ W, Fr (fun c _ => ¬ F c) w W → W.cell? ⟨bj, 0, none⟩ = some (.pointer (some ⟨bd, 0, none⟩)) ∧ W.cell? ⟨bj, 1, none⟩ = some (.int .i64 (J.loc : Nat))) := fun W f => by
    have t := f.keep _ _ h.top (hFG _ h.gb)
    exact ⟨cell_mk t rfl, cell_mk t rfl⟩
  have HS : Hid (jsave J D = saveM D J.loc (le J.first 4 ++ le J.epoch 4 ++ le J.low 4)) := rfl
  have hf := h.wf.f
  have he := h.wf.e
  have hl := h.wf.l
  generalize J.first = f at *
  generalize J.epoch = p at *
  generalize J.low = l at *
  generalize J.loc = k at *
  have HD := Lib.hid hd
  have HT := Lib.hid ht
  have HQ := Lib.hid hq
  obtain ⟨W1, hW1⟩ : ∃ W1, w.alloc (.cells #[.slice none 0 0] 150 (0, 0)) = W1 := ⟨_, rfl⟩
  have FW1 : Hid (Fr (fun _ _ => True) w W1) := hW1 ▸ (Fr.refl _ _).alloc _
  have L0 : Hid (LW w W1 w.heap.size []) := hW1 ▸ LW.mk0 (Fr.refl _ _)
  have K1 := Lib.hid (lw_number w W1 w.heap.size [] f 4 f 4 rfl rfl L0.out (by omega) (by omega) (by omega) (by simp))
  have c1 := (CC.out W1 FW1.out).2.2.2.1
  clear h hd ht hq
  go_enter Tryd.func58, Tryd.ntmps58
  go_wp2_with fail
  clear hW1
  with_reducible refine K1.out.mono ?_
  rintro e1 w1 ⟨rfl, l1⟩
  rw [List.nil_append] at l1
  have L1 := Lib.hid l1
  have c2 := (CC.out w1 l1.fr).2.2.2.2.1
  have K2 := Lib.hid (lw_number w w1 w.heap.size _ p 4 p 4 rfl rfl l1 (by omega) (by omega) (by omega) (by simp [le_length]))
  clear l1 K1 L0 c1 FW1
  go_wp2_with fail
  with_reducible refine K2.out.mono ?_
  rintro e1 w2 ⟨rfl, l2⟩
  have L2 := Lib.hid l2
  have c3 := (CC.out w2 l2.fr).2.2.2.2.2.1
  have K3 := Lib.hid (lw_number w w2 w.heap.size _ l 4 l 4 rfl rfl l2 (by omega) (by omega) (by omega) (by simp [le_length]))
  clear l2 K2 L1 c2
  go_wp2_with fail
  with_reducible refine K3.out.mono ?_
  rintro e1 w3 ⟨rfl, l3⟩
  have L3 := Lib.hid l3
  have hbl : (le f 4 ++ le p 4 ++ le l 4).length ≤ 1000000 := by simp [le_length]
  obtain ⟨bs, hbs⟩ : ∃ bs, le f 4 ++ le p 4 ++ le l 4 = bs := ⟨_, rfl⟩
  rw [hbs] at l3 HS hbl
  clear hbs
  have K4 : Hid (∀ W, Fr (fun _ _ => True) w3 W → _) := fun W f => lw_out w W w.heap.size _ (l3.tt f) hbl
  have F3 : Hid (Fr (fun c _ => ¬ F c) w w3) := l3.fr.mono fun _ _ _ => trivial
  clear l3 K3 L2 c3
  go_wp2_with fail
  go_region_held3 (fun W => W.cell? ⟨bj, 0, none⟩ = some (.pointer (some ⟨bd, 0, none⟩)) ∧ W.cell? ⟨bj, 1, none⟩ = some (.int .i64 (k : Nat))) (first | exact KB.out _ F3.out.drew | exact KB.out _ F4.out | exact KB.out _ F5.out)
    (first
      | (go_at_call 94; (with_reducible refine (K4.out _ (Fr.refl _ _).drew).mono ?_); rintro e1 w4 ⟨⟨a4, cap4, rfl, hb⟩, f4⟩; have SC := save_calls w4 bd F D k _ _ (HD.out.tt f4) hb (HT.out.tt f4) HQ.out; rw [← HS.out] at SC; have SC := Lib.hid SC; have F4 : Hid (Fr (fun c _ => ¬ F c) w w4) := f4.mono fun _ _ _ => trivial; have G4 := Lib.hid f4; clear hb f4)
      | (go_at_call 104; (with_reducible refine SC.out.mono ?_); rintro e1 w5 ⟨rfl, d5, f5⟩; have D5 := Lib.hid d5; have F5 := Lib.hid (F4.out.trans f5); clear d5 f5))
  all_goals
    go_wp2
    go_ret
    exact ⟨rfl, D5.out.mono fun c h => by
      have := G4.out.size
      rcases h with h | h
      · exact .inl h
      · exact .inr (by omega), F5.out⟩
end Go.Proofs.YtcpbmempfeloaaaDoor
/- Package journal: scan. -/
namespace Go.Proofs.YtcpbmempfeloaaaDoor
open Go.RowKit
set_option linter.unusedVariables false

theorem next_calls (w : World) (bj bd : Nat) (G : Nat → Prop) (J : Jn) (h : Jnl w bj bd G J) :
    Calls Tryd.prog 49 #[.pointer (some ⟨bj, 0, none⟩)] w fun e w' => e = .returned (.int .u64 ((J.first + J.held.length : Nat) : Int)) ∧ Fr (fun _ _ => True) w w' :=
  (next_q w bj bd G J h).mono fun _ _ ⟨he, m, hm⟩ => ⟨he, hm ▸ (Fr.refl _ _).drewN m⟩
theorem sector_calls (w : World) (bj bd : Nat) (G : Nat → Prop) (J : Jn) (s : Nat) (z : Int) (hz : z = s) (h : Jnl w bj bd G J) (hs : s < 4294967296) :
    Calls Tryd.prog 52 #[.pointer (some ⟨bj, 0, none⟩), .int .u32 z] w fun e w' => e = .returned (.int .i64 (J.sec s : Nat)) ∧ Fr (fun _ _ => True) w w' := by
  subst hz
  exact (sector_q w bj bd G J s h hs).mono fun _ _ ⟨he, m, hm⟩ => ⟨he, hm ▸ (Fr.refl _ _).drewN m⟩
/-- Read, of a sector that is there. -/
theorem read_sec (w : World) (bd : Nat) (F : Nat → Prop) (D : Dk) (k : Nat) (i : Int) (hz : i = k) (h : Dsk w bd F D) (hk : k < D.sure.length) :
    Calls Tryd.prog 102 #[.pointer (some ⟨bd, 0, none⟩), .int .i64 i] w fun e w' => (∃ a cap, e = .returned (.tuple #[.slice a 64 cap, .int .i64 0]) ∧ BytesAt (New w.heap.size) w' (.slice a 64 cap) (D.seen.getD k [])) ∧ Fr (fun _ _ => True) w w' := by
  have hl : k < D.seen.length := by rw [h.wf.len]; exact hk
  rw [List.getD_eq_getElem?_getD, List.getElem?_eq_getElem hl]
  exact read_in w bd F D k i hz h hl

theorem info_jr : (Tryd.prog.info? 94).map (fun i => (i.zero, i.size, i.bytes)) = some (some (.agg #[.int .u32 0, .slice none 0 0]), 2, 32) := by kernel_rfl
theorem cellsJ_snoc (T : List (Nat × Value × List UInt8)) (x : Nat × Value × List UInt8) : cellsJ T ++ [.int .u32 (x.1 : Nat), x.2.1] = cellsJ (T ++ [x]) := by simp [cellsJ]
/-- An append of a record to the row of the journal. -/
theorem wpList_append_jr {ops : Array Oper} {rest : List Oper} {o : Oper} {a : Act} {Q : Exit → Act → World → Prop} (W : World) (hgd : o.guard = none) (s x : Operand)
    (ho : o.op = .call { callee := .builtin .append, args := #[s, x], argTypes := #[90, 90] }) (v : Value) (T : List (Nat × Value × List UInt8)) (hs : a.eval s = v) (hown : Hid (W.ownsRow 0 94 2 v T.length (cellsJ T)))
    (b : Nat) (hx : a.eval x = .slice (some ⟨b, 0, none⟩) 1 1) (e : Nat) (vb : Value) (bs : List UInt8) (hvx : Hid (∃ fz, W.heap[b]? = some (.cells #[.int .u32 (e : Nat), vb] 94 fz))) (hvb : vb.oneCell' = true) (hn : T.length ≤ 1000000)
    (h : ∀ v' w', Hid (w'.ownsRow 0 94 2 v' (T.length + 1) (cellsJ (T ++ [(e, vb, bs)]))) → Hid (W.grownBy w' v.ownBlock) → Hid (OwnNext W v v') → wpList Tryd.prog ops Q rest (a.put o.dst v') w') :
    wpList Tryd.prog ops Q (o :: rest) a W := by
  obtain ⟨i0, hi, hz0, hz1, hz2⟩ := info_parts info_jr
  obtain ⟨fz, hb⟩ := hvx.out
  refine wpList_append_src2 W hgd s x 90 ho 0 94 i0 _ 2 32 Tryd.underlying90 hi hz0 hz1 hz2 rfl (by decide) v T.length (cellsJ T) hs hown.out _ 1 [.int .u32 (e : Nat), vb] hx (.inr ⟨_, 1, rfl, rfl, fun j u hu => ?_, fun u hu => ?_⟩) (by unfold maxLen; omega) (by omega) (Nat.zero_le _) ?_
  · rcases j with _ | _ | j
    · cases hu; exact cell_mk hb rfl
    · cases hu; exact cell_mk hb rfl
    · cases hu
  · rcases List.mem_cons.1 hu with rfl | hu
    · rfl
    · rw [List.mem_singleton.1 hu]; exact hvb
  · intro v' w' h1 h2 h3
    rw [cellsJ_snoc T (e, vb, bs)] at h1
    exact h v' w' h1 h2 h3
/-- The journal behind an append and a store. -/
theorem JAt.store {w w1 : World} {bj bd : Nat} {G G' : Nat → Prop} {vh v' : Value} {T T' : List (Nat × Value × List UInt8)} {J : Jn} (h : JAt w bj bd G vh T J) (hg : w.grownBy w1 vh.ownBlock) (ho : w1.ownsRow 0 94 2 v' (T.length + 1) (cellsJ T')) (hn : OwnNext w vh v')
    (hG : ∀ c, G c → G' c) (hN : ∀ c, w.heap.size ≤ c → G' c) (x : Nat × Value × List UInt8) (hT : T' = T ++ [x]) (hx : BytesAt (KJ G') w x.2.1 x.2.2) (hxv : ∀ c, vh.ownBlock = some c → ∀ o, w.heap[c]? = some o → ∀ cs fz, o ≠ .cells cs 5 fz) (hx2 : x.1 < 4294967296 ∧ x.2.2.length ≤ 43) (hfew : T.length < J.n) :
    w1.cell? ⟨bj, 6, none⟩ = some vh ∧ w1.frozen? ⟨bj, 6, none⟩ = false ∧ JAt (w1.setCell ⟨bj, 6, none⟩ v') bj bd G' v' T' { J with held := J.held ++ [(x.1, x.2.2)] } ∧ Fr (fun c _ => ¬ G c) w (w1.setCell ⟨bj, 6, none⟩ v') := by
  have t1 := grown_block hg h.top h.ne
  have f1 : Fr (fun c _ => ¬ G c) w (w1.setCell ⟨bj, 6, none⟩ v') := ((Fr.refl _ w).grown hg fun k o e ho hk => hk (h.rb k e)).setCell (fun o ho hk => hk h.gb) _
  have hKB : ∀ {v : Value} {bs : List UInt8}, BytesAt (KJ G') w v bs → BytesAt (KJ G') (w1.setCell ⟨bj, 6, none⟩ v') v bs := fun {v bs} hb => by
    have e1 : Fr (fun c o => c ≠ bj ∧ vh.ownBlock ≠ some c) w (w1.setCell ⟨bj, 6, none⟩ v') := ((Fr.refl _ w).grown hg fun k o e ho hk => hk.2 e).setCell (fun o ho hk => hk.1 rfl) _
    exact KJ.bytes_fr hb e1 fun c o ho _ ⟨cs, fz, he⟩ => ⟨fun q => by
      rw [q, h.top, he] at ho
      exact (nomatch ho), fun q => hxv c q o ho cs fz he⟩
  refine ⟨cell_mk t1 rfl, frozen_mk t1, ⟨?_, ?_, fun c e => ?_, ?_, fun y hy => ?_, hG _ h.gb, ?_⟩, f1⟩
  · have := heap_setCell_same (o := 6) t1 v'
    rw [this]; rfl
  · rw [hT] at ho ⊢
    rw [List.length_append]
    exact ownsRow_setCell_ne ho (hn.ne h.ne (lt_of_some h.top)) _
  · rcases hn with hn | ⟨k, hk, hl⟩
    · exact hG _ (h.rb c (hn ▸ e))
    · rw [hk] at e; cases e; exact hN _ hl
  · subst hT
    show J.held ++ _ = _
    rw [h.tr]; simp
  · subst hT
    rcases List.mem_append.1 hy with hy | hy
    · exact hKB ((h.bs y hy).mono fun c o _ hc => ⟨hG _ hc.1, hc.2⟩)
    · rw [List.mem_singleton.1 hy]; exact hKB hx
  · have hw := h.wf
    refine ⟨hw.n1, hw.n100, hw.locm, hw.f, hw.e, hw.l, ?_, fun y hy => ?_⟩
    · show (J.held ++ _).length ≤ J.n
      rw [List.length_append, ← h.len]; simp; omega
    · rcases List.mem_append.1 hy with hy | hy
      · exact hw.hd y hy
      · rw [List.mem_singleton.1 hy]; exact hx2
theorem JAt.rowkind {w : World} {bj bd : Nat} {G : Nat → Prop} {vh : Value} {T : List (Nat × Value × List UInt8)} {J : Jn} (h : JAt w bj bd G vh T J) : ∀ c, vh.ownBlock = some c → ∀ o, w.heap[c]? = some o → ∀ cs fz, o ≠ .cells cs 5 fz := fun c e o ho cs fz q => by
  obtain ⟨cur, hc⟩ := own_tag h.row e
  rw [hc] at ho
  cases ho
  exact nomatch q
end Go.Proofs.YtcpbmempfeloaaaDoor
/- Package journal: All; rows of records' bytes. -/
namespace Go.Proofs.YtcpbmempfeloaaaDoor
open Go.RowKit
set_option linter.unusedVariables false
set_option linter.unusedSimpArgs false

/-- A row of slices of bytes of the function's own, among R. -/
structure OwnL (w : World) (R : Nat → Prop) (v : Value) (V : List (Value × List UInt8)) : Prop where
  row : w.ownsRow 0 33 1 v V.length (V.map (·.1))
  rb : ∀ c, v.ownBlock = some c → R c
  bs : ∀ x ∈ V, BytesAt (fun c _ => R c ∧ v.ownBlock ≠ some c) w x.1 x.2
theorem OwnL.nil (w : World) (R : Nat → Prop) : OwnL w R (.slice none 0 0) [] := ⟨⟨rfl, .inl ⟨rfl, rfl⟩⟩, fun c e => (by cases e), fun x hx => (by cases hx)⟩
theorem OwnL.fr {K : Nat → Obj → Prop} {w w' : World} {R : Nat → Prop} {v : Value} {V : List (Value × List UInt8)} (h : OwnL w R v V) (hf : Fr K w w') (hk : ∀ c o, w.heap[c]? = some o → R c → K c o) : OwnL w' R v V :=
  ⟨ownsRow_fr h.row hf fun b o e hb => hk b o hb (h.rb b e), h.rb, fun x hx => by
    have h1 : BytesAt (fun c o => (R c ∧ v.ownBlock ≠ some c) ∧ K c o) w x.1 x.2 := (h.bs x hx).mono fun c o ho hc => ⟨hc, hk c o ho hc.1⟩
    exact (h1.fr (hf.mono fun _ _ h => h.2)).mono fun _ _ _ h => h.1⟩
theorem OwnL.tt {w w' : World} {R : Nat → Prop} {v : Value} {V : List (Value × List UInt8)} (h : OwnL w R v V) (hf : Fr (fun _ _ => True) w w') : OwnL w' R v V := h.fr hf fun _ _ _ _ => trivial
theorem OwnL.mono {w : World} {R R' : Nat → Prop} {v : Value} {V : List (Value × List UInt8)} (h : OwnL w R v V) (hr : ∀ c, c < w.heap.size → R c → R' c) : OwnL w R' v V :=
  ⟨h.row, fun c e => hr c (by obtain ⟨_, q⟩ := own_tag h.row e; exact lt_of_some q) (h.rb c e), fun x hx => (h.bs x hx).mono fun c o ho hc => ⟨hr c (lt_of_some ho) hc.1, hc.2⟩⟩
theorem info_bs : (Tryd.prog.info? 33).map (fun i => (i.zero, i.size, i.bytes)) = some (some (.slice none 0 0), 1, 24) := by kernel_rfl
/-- An append of a slice of bytes. -/
theorem wpList_append_l {ops : Array Oper} {rest : List Oper} {o : Oper} {a : Act} {Q : Exit → Act → World → Prop} (W : World) (hgd : o.guard = none) (s x : Operand)
    (ho : o.op = .call { callee := .builtin .append, args := #[s, x], argTypes := #[23, 23] }) (R : Nat → Prop) (v : Value) (V : List (Value × List UInt8)) (hs : a.eval s = v) (hown : Hid (OwnL W R v V))
    (b : Nat) (hx : a.eval x = .slice (some ⟨b, 0, none⟩) 1 1) (vb : Value) (bs : List UInt8) (hvx : Hid (∃ fz, W.heap[b]? = some (.cells #[vb] 33 fz))) (hb : Hid (BytesAt (fun c _ => R c ∧ v.ownBlock ≠ some c) W vb bs)) (hn : V.length ≤ 1000000) (hR : ∀ c, W.heap.size ≤ c → R c)
    (h : ∀ a' c' w', Hid (OwnL w' R (.slice a' (V.length + 1) c') (V ++ [(vb, bs)])) → Hid (W.grownBy w' v.ownBlock) → wpList Tryd.prog ops Q rest (a.put o.dst (.slice a' (V.length + 1) c')) w') :
    wpList Tryd.prog ops Q (o :: rest) a W := by
  obtain ⟨i0, hi, hz0, hz1, hz2⟩ := info_parts info_bs
  obtain ⟨fz, hbk⟩ := hvx.out
  refine wpList_append_src2 W hgd s x 23 ho 0 33 i0 _ 1 24 Tryd.underlying23 hi hz0 hz1 hz2 rfl (by decide) v V.length (V.map (·.1)) hs hown.out.row _ 1 [vb] hx (.inr ⟨_, 1, rfl, rfl, fun j u hu => ?_, fun u hu => ?_⟩) (by unfold maxLen; omega) (by omega) (Nat.zero_le _) ?_
  · rcases j with _ | j
    · cases hu; exact cell_mk hbk rfl
    · cases hu
  · rw [List.mem_singleton.1 hu]
    obtain ⟨a, c, rfl⟩ := hb.out.form
    rfl
  · intro v' w' h1 h2 h3
    obtain ⟨a', c', rfl⟩ := own_form h1
    have hne : ∀ c (o : Obj), W.heap[c]? = some o → v.ownBlock ≠ some c → (Value.slice a' (V.length + 1) c').ownBlock ≠ some c := fun c o ho hc => h3.ne hc (lt_of_some ho)
    have hF : Fr (fun c _ => v.ownBlock ≠ some c) W w' := (Fr.refl _ W).grown h2 fun k o e ho hk => hk e
    refine h a' c' w' ⟨?_, fun c e => ?_, fun y hy => ?_⟩ h2
    · rw [List.length_append, List.map_append]; exact h1
    · rcases h3 with h3 | ⟨k, hk, hl⟩
      · exact hown.out.rb c (h3 ▸ e)
      · rw [hk] at e; cases e; exact hR _ hl
    · have hy' : BytesAt (fun c _ => R c ∧ v.ownBlock ≠ some c) W y.1 y.2 := by
        rcases List.mem_append.1 hy with hy | hy
        · exact hown.out.bs y hy
        · rw [List.mem_singleton.1 hy]; exact hb.out
      have h4 : BytesAt (fun c _ => (R c ∧ (Value.slice a' (V.length + 1) c').ownBlock ≠ some c) ∧ v.ownBlock ≠ some c) W y.1 y.2 := hy'.mono fun c o ho hc => ⟨⟨hc.1, hne c o ho hc.2⟩, hc.2⟩
      exact (h4.fr (hF.mono fun _ _ h => h.2)).mono fun _ _ _ h => h.1

theorem cellsJ_flat (T : List (Nat × Value × List UInt8)) : cellsJ T = (T.map fun x => [Value.int .u32 (x.1 : Nat), x.2.1]).flatten := by simp [cellsJ, List.flatMap]
theorem jr_cells {w : World} {B g cap n : Nat} {T : List (Nat × Value × List UInt8)} (h : w.ownsRow B 94 2 (.slice (some ⟨g, 0, none⟩) n cap) n (cellsJ T)) (j : Nat) (hj : j < T.length) : w.cell? ⟨g, j * 2, none⟩ = some (.int .u32 (T[j].1 : Nat)) ∧ w.cell? ⟨g, j * 2 + 1, none⟩ = some T[j].2.1 := by
  rw [cellsJ_flat] at h
  have hr := row_range h (fun x hx => by obtain ⟨y, _, rfl⟩ := List.mem_map.1 hx; rfl) j (by simpa using hj) (by decide)
  have e0 := hr 0 (.int .u32 (T[j].1 : Nat)) (by simp)
  have e1 := hr 1 T[j].2.1 (by simp)
  exact ⟨e0, e1⟩

/-- The bytes of what is held. -/
def Jn.all (J : Jn) : List (List UInt8) := J.held.map (·.2)
set_option maxRecDepth 100000 in
set_option maxHeartbeats 2000000 in
theorem all_calls (w : World) (bj bd : Nat) (G : Nat → Prop) (J : Jn) (h : Jnl w bj bd G J) :
    Calls Tryd.prog 14 #[.pointer (some ⟨bj, 0, none⟩)] w fun e w' => (∃ a c V, e = .returned (.slice a J.all.length c) ∧ OwnL w' (fun c => w.heap.size ≤ c) (.slice a J.all.length c) V ∧ V.map (·.2) = J.all) ∧ Fr (fun _ _ => True) w w' := by
  obtain ⟨vh, T, h⟩ := h
  obtain ⟨ah, ch, rfl⟩ := own_form h.row
  have c6 : w.cell? ⟨bj, 6, none⟩ = some (.slice ah T.length ch) := cell_mk h.top rfl
  have HJ := Lib.hid h
  have hT : T.length ≤ 100 := by have := h.wf.few; have := h.wf.n100; rw [h.len]; omega
  have HA : Hid (J.all = T.map (·.2.2)) := by
    show J.all = _
    unfold Jn.all; rw [h.tr, List.map_map]; rfl
  have HAL : Hid (J.all.length = T.length) := by show J.all.length = _; rw [HA.out, List.length_map]
  clear h
  go_enter Tryd.func14, Tryd.ntmps14
  go_wp2
  go_loopw [3, 11] (fun vo i wr => ∃ (j : Nat) (V : List (Value × List UInt8)) (a : Option Addr) (c : Nat), i = .int .i64 j ∧ vo = .slice a V.length c ∧ j ≤ T.length ∧ Hid (V.map (·.2) = (T.map (·.2.2)).take j) ∧ Hid (OwnL wr (fun c => w.heap.size ≤ c) (.slice a V.length c) V) ∧ Hid (Fr (fun _ _ => True) w wr)) (fun _ i _ => T.length - (intOf i).toNat)
  case atStart => exact ⟨0, [], none, 0, rfl, rfl, Nat.zero_le _, rfl, OwnL.nil _ _, Fr.refl _ _⟩
  case round =>
    obtain ⟨j, V, av, cv, rfl, rfl, hj, HV, HO, HF⟩ := hrel
    have hVl : Hid (V.length = j) := by
      have := congrArg List.length HV.out
      simp at this
      show V.length = j
      omega
    by_cases hlt : j < T.length
    · have hltI : (j : Int) < T.length := by omega
      obtain ⟨g, rfl⟩ : ∃ g, ah = some ⟨g, 0, none⟩ := by
        rcases HJ.out.row.2 with ⟨e, e2⟩ | ⟨g, cap, cur, e, _⟩
        · omega
        · cases e; exact ⟨g, rfl⟩
      obtain ⟨k0, k1⟩ := jr_cells (HJ.out.fr (K := fun _ _ => True) HF.out fun _ _ _ _ => trivial).row j hlt
      have hb := HJ.out.bs T[j] (List.getElem_mem hlt)
      have hn := HJ.out.wf.hd (T[j].1, T[j].2.2) (by rw [HJ.out.tr]; exact List.mem_map.2 ⟨T[j], List.getElem_mem hlt, rfl⟩)
      have HTJ : Hid ((T.map (·.2.2)).take (j + 1) = (T.map (·.2.2)).take j ++ [T[j].2.2]) := by
        show _ = _
        rw [List.take_succ_eq_append_getElem (by simpa using hlt), List.getElem_map]
      obtain ⟨aj, cj, hvj⟩ := hb.form
      obtain ⟨x, hx⟩ : ∃ x, T[j] = x := ⟨_, rfl⟩
      rw [hx] at k0 k1 hb hn HTJ hvj
      rw [hvj] at k1 hb
      have hbl : x.2.2.length ≤ 43 := hn.2
      obtain ⟨W1, hW1⟩ : ∃ W1, wr.alloc (.cells #[.int .u32 (x.1 : Nat), .slice aj x.2.2.length cj] 94 (0, 0)) = W1 := ⟨_, rfl⟩
      have F1 : Hid (Fr (fun _ _ => True) w W1) := hW1 ▸ HF.out.alloc _
      have k5 : W1.cell? ⟨wr.heap.size, 1, none⟩ = some (.slice aj x.2.2.length cj) := hW1 ▸ cell_mk (heap_alloc_new wr _) rfl
      have FO : Hid (Fr (fun _ _ => True) wr W1) := hW1 ▸ (Fr.refl _ wr).alloc _
      have CL := Lib.hid (clone_calls W1 _ _ (hb.tt F1.out) (by omega))
      clear hb hn hx hvj
      go_wp2_with fail
      clear hW1
      (with_reducible refine CL.out.mono ?_)
      rintro e w2 ⟨a2, c2, rfl, hb2, f2⟩
      have B2 := Lib.hid hb2
      have F2 := Lib.hid (F1.out.trans f2)
      have G2 := Lib.hid (FO.out.trans f2)
      obtain ⟨W3, hW3⟩ : ∃ W3, w2.alloc (.cells #[.slice a2 x.2.2.length c2] 33 (0, 0)) = W3 := ⟨_, rfl⟩
      have FW : Hid (Fr (fun _ _ => True) w2 W3) := hW3 ▸ (Fr.refl _ w2).alloc _
      have HX : Hid (∃ fz, W3.heap[w2.heap.size]? = some (.cells #[.slice a2 x.2.2.length c2] 33 fz)) := ⟨_, hW3 ▸ heap_alloc_new _ _⟩
      have OW := Lib.hid (HO.out.tt (G2.out.trans FW.out))
      have BX : Hid (BytesAt (fun c _ => w.heap.size ≤ c ∧ (Value.slice av V.length cv).ownBlock ≠ some c) W3 (.slice a2 x.2.2.length c2) x.2.2) := (B2.out.tt FW.out).mono fun c o _ hc => ⟨by
        have := F1.out.size
        have := hc.1
        omega, fun e => by
        obtain ⟨_, q⟩ := own_tag HO.out.row e
        have := lt_of_some q
        have := FO.out.size
        have := hc.1
        omega⟩
      have HR : ∀ c, W3.heap.size ≤ c → w.heap.size ≤ c := fun c hc => by
        have := F2.out.size
        have := FW.out.size
        omega
      have hV6 : V.length ≤ 1000000 := by have := hVl.out; omega
      have HRR := Lib.hid HR
      have VV := Lib.hid hVl.out
      clear hb2 f2 HR hbl CL F1 FO
      go_wp2_with (at_builtin; refine wpList_append_l W3 rfl _ _ rfl (fun c => w.heap.size ≤ c) _ V rfl OW w2.heap.size rfl (.slice a2 x.2.2.length c2) x.2.2 HX BX hV6 HRR.out ?_)
      intro a4 c4 w4 O4 G4
      have F4 : Hid (Fr (fun _ _ => True) w w4) := (F2.out.trans FW.out).grown_new G4.out fun k e => HO.out.rb k e
      clear hW3 OW BX HX
      go_wp2
      go_roundw
      case rel =>
        refine ⟨j + 1, V ++ [(.slice a2 x.2.2.length c2, x.2.2)], a4, c4, by go_num, by rw [List.length_append]; rfl, by omega, ?_, ?_, F4.out⟩
        · show _ = _
          rw [List.map_append, HV.out, HTJ.out]; rfl
        · have := O4.out
          rw [List.length_append]; exact this
      case measure => simp [intOf]; omega
    · have hge : (T.length : Int) ≤ j := by omega
      go_wp2
      go_ret
      have hjT : j = T.length := by omega
      refine ⟨⟨av, cv, V, ?_, ?_, ?_⟩, HF.out⟩
      · rw [HAL.out, ← hjT, ← hVl.out]; rfl
      · rw [HAL.out, ← hjT, ← hVl.out]; exact HO.out
      · rw [HV.out, HA.out, hjT, List.take_of_length_le (by simp)]
end Go.Proofs.YtcpbmempfeloaaaDoor
/- A journal, plainly: Cut, a new one, calls one behind the other; the laws. -/
namespace Go.Proofs.YtcpbmempfeloaaaDoor
open Go.RowKit
set_option linter.unusedVariables false
set_option linter.unusedSimpArgs false

def zero64 : List UInt8 := List.replicate 64 0
theorem pad_nil : pad [] = zero64 := rfl
theorem zero_nums : pSeq zero64 = 0 ∧ pEpoch zero64 = 0 ∧ pAgain zero64 = 0 ∧ pAlso zero64 = 0 := by decide
theorem Sm.zero : Sm zero64 := ⟨by decide, by decide, by decide, by decide⟩
section
variable {S : List (List UInt8)} {c n f low E : Nat} {M : List (Nat × List UInt8)} {x : Nat × List UInt8}
/-- The last one is written over with zeros. -/
theorem Rg.cut1 (h : Rg S c n f low E (M ++ [x])) : Rg (S.set (c + (f + M.length) % n) zero64) c n f low E M := by
  have hfew := h.few
  simp at hfew
  have hmm : (f + M.length) % n < n := Nat.mod_lt _ h.n1
  have hlt : c + (f + M.length) % n < S.length := by have := h.len; omega
  have hf1 := h.f1
  obtain ⟨z1, z2, z3, z4⟩ := zero_nums
  have hfm := h.fm
  simp at hfm
  have hm := h.mono.take M.length
  rw [List.take_append_of_le_length (Nat.le_refl _), List.take_length] at hm
  refine ⟨h.n1, by simpa using h.len, by omega, h.f1, by omega, h.em, fun i hi => ?_, hm, fun y hy => h.b43 y (by simp [hy]), fun y hy => ?_, fun y hy => ?_, ?_⟩
  · rw [getD_set_other (by have := mod_ne (f := f) (i := i) (j := M.length) (n := n) (by omega) (by omega); omega)]
    have := h.laid i (by simp; omega)
    rw [List.getElem_append_left hi] at this
    exact this
  · by_cases hc : (f + M.length) % n = y
    · rw [hc, getD_set_same (by omega)]; exact Sm.zero
    · rw [getD_set_other (by omega)]; exact h.sm y hy
  · by_cases hc : (f + M.length) % n = y
    · rw [hc, getD_set_same (by omega), z4]; omega
    · rw [getD_set_other (by omega)]; exact h.al y hy
  · rw [getD_set_same hlt]
    rintro ⟨g1, _⟩
    omega
end
theorem snoc_of {α : Type} {l : List α} {m : Nat} (h : l.length = m + 1) : ∃ a x, l = a ++ [x] ∧ a.length = m := by
  refine ⟨l.take m, l[m]'(by omega), ?_, by simp; omega⟩
  rw [← List.take_succ_eq_append_getElem (by omega), List.take_of_length_le (by omega)]
theorem jzero_ok {z n E m' y : Nat} {b : List UInt8} (J : Jn) (hn : z + 2 + n ≤ 20) (hl : J.loc = z) (hjn : J.n = n) : ∀ (k m : Nat) (D : Dk) (H : List (Nat × List UInt8)), Up D → Rg D.seen (z + 2) n J.first J.low E H → H.length = m → k ≤ m → Pl D.seen z m' y b → D.pend.length + k < 1000000 →
    Up (jzero J k m D) ∧ Rg (jzero J k m D).seen (z + 2) n J.first J.low E (H.take (m - k)) ∧ Pl (jzero J k m D).seen z m' y b
  | 0, m, D, H, hu, hr, hm, _, hp, _ => by
    refine ⟨hu, ?_, hp⟩
    rw [List.take_of_length_le (by omega)]; exact hr
  | k + 1, 0, D, H, _, _, _, hk, _, _ => by omega
  | k + 1, m + 1, D, H, hu, hr, hm, hk, hp, hq => by
    obtain ⟨M, x, rfl, hM⟩ := snoc_of hm
    have hfm := hr.fm
    have hn1 := hr.n1
    simp at hfm
    have hmod := Nat.mod_lt (J.first + M.length) hn1
    have hsec : J.sec ((J.first + (m + 1 - 1)) % 4294967296) = z + 2 + (J.first + M.length) % n := by
      unfold Jn.sec
      rw [Nat.mod_eq_of_lt (show J.first + (m + 1 - 1) < 4294967296 by omega), hl, hjn, ← hM, Nat.add_sub_cancel]
    obtain ⟨w1, w2, w3, w4, w5⟩ := hu.write (z + 2 + (J.first + M.length) % n) [] (by omega) (by simp) (by omega)
    have hr' := hr.cut1
    rw [← pad_nil, ← w3] at hr'
    have hp' : Pl (D.write (z + 2 + (J.first + M.length) % n : Nat) []).2.seen z m' y b := by
      rw [w3]; exact hp.other (by omega) (by omega)
    have := jzero_ok J hn hl hjn k m _ M w2 hr' hM (by omega) hp' (by rw [w4]; simp; omega)
    have e : jzero J (k + 1) (m + 1) D = jzero J k m (D.write (z + 2 + (J.first + M.length) % n : Nat) []).2 := by
      show jzero J k (m + 1 - 1) _ = _
      rw [hsec]; rfl
    rw [e, show (M ++ [x]).take (m + 1 - (k + 1)) = M.take (m - k) by
      rw [List.take_append_of_le_length (by omega)]; congr 1; omega]
    exact this
section
variable {z n q : Nat} {J : Jn} {D : Dk} {L : List (Nat × List UInt8)} {bs : List (List UInt8)}
/-- Cut. -/
theorem JI.cuts (h : JI z n q J D L bs) (hq : q < 250) (k : Int) :
    (0 ≤ k ∧ k ≤ J.held.length ∧ (jcut J D k).1 = 0 ∧ JI z n (q + 1) (J.cut k.toNat) (jcut J D k).2.2 (J.held.take (J.held.length - k.toNat)) [] ∧ (jcut J D k).2.1 = J.cut k.toNat) ∨ (¬ (0 ≤ k ∧ k ≤ J.held.length) ∧ jcut J D k = (1, J, D)) := by
  obtain ⟨⟨m, y, hp, h0, hm⟩, hr, hf⟩ := h.seen hq
  have hl := h.heldLen
  have hnq := h.nq
  have heq := h.eq
  unfold jcut
  by_cases hk : k < 0 ∨ (J.held.length : Int) < k
  · rw [if_pos hk]; exact .inr ⟨by omega, rfl⟩
  · rw [if_neg hk, if_neg (by omega)]
    obtain ⟨s1, s2, s3, s4⟩ := h.up.sync
    obtain ⟨z1, z2, z3⟩ := jzero_ok J h.n17 h.loc h.jn k.toNat J.held.length D.sync J.held s1 (by rw [s2]; exact hr) rfl (by omega) (by rw [s2]; exact hp) (by rw [s4]; simp; omega)
    generalize jzero J k.toNat J.held.length D.sync = Z at *
    obtain ⟨t1, t2, t3, t4⟩ := z1.sync
    rw [← t2] at z2 z3
    obtain ⟨r1, r2⟩ := z2.up (by omega)
    have hd : (J.held.take (J.held.length - k.toNat)).length = J.held.length - k.toNat := by simp
    obtain ⟨v1, v2⟩ := saved_ji (q := q) t1 z3 hm h.n17 hq r1 (r2 _) (by omega) (by omega) (by omega)
    have e : J.cut k.toNat = ⟨z, n, J.first, J.epoch + 1, J.low, J.held.take (J.held.length - k.toNat)⟩ := by
      unfold Jn.cut
      rw [h.loc, h.jn]
    refine .inl ⟨by omega, by omega, ?_, ?_, rfl⟩
    · rw [e]; exact v1
    · rw [e]; exact v2
end
/-- A new disk's journal. -/
theorem new_ji (z n : Nat) (h1 : 1 ≤ n) (h2 : z + 2 + n ≤ 20) : ∃ D, jopen (Dk.new 20) z n = (0, some ⟨z, n, 1, 1, 0, []⟩, D) ∧ JI z n 1 ⟨z, n, 1, 1, 0, []⟩ D [] [] := by
  have hu : Up (Dk.new 20) := ⟨Dk.new_good 20 (by decide) (by decide), rfl, rfl, by show (-1 : Int) < 0; decide⟩
  have e : ∀ q, q < 20 → (Dk.new 20).seen.getD q [] = zero64 := fun q hq => by
    show (List.replicate 20 (List.replicate 64 (0 : UInt8))).getD q [] = _
    rw [List.getD_eq_getElem?_getD, List.getElem?_replicate, if_pos hq]; rfl
  obtain ⟨z1, z2, z3, z4⟩ := zero_nums
  have hp : Pl (Dk.new 20).seen z 0 z [] := ⟨.inl rfl, by decide, by rw [e z (by omega)]; exact z4, .inl ⟨rfl, by rw [e z (by omega)]; exact z3⟩, fun _ => ⟨rfl, rfl, by rw [e _ (by omega)]; exact z3, by rw [e _ (by omega)]; exact z4⟩, fun h => by omega⟩
  have hr : Rg (Dk.new 20).seen (z + 2) n 1 0 0 [] := by
    have hmod := Nat.mod_lt (1 + 0) h1
    refine ⟨h1, by rw [hu.seenLen]; omega, by simp, by decide, by simp, by decide, fun i hi => by simp at hi, Nat.le_refl _, fun x hx => by simp at hx, fun x hx => by rw [e _ (by omega)]; exact Sm.zero, fun x hx => by rw [e _ (by omega), z4]; exact Nat.le_refl _, ?_⟩
    rintro ⟨g1, _⟩
    rw [show (z + 2 + (1 + ([] : List (Nat × List UInt8)).length) % n) = z + 2 + (1 + 0) % n from rfl, e _ (by omega), z3] at g1
    simp at g1
  obtain ⟨r1, r2⟩ := hr.up (by decide)
  obtain ⟨s1, s2⟩ := saved_ji (q := 0) hu hp (by decide) h2 (by decide) r1 (r2 _) (by decide) (by decide) (by decide)
  have hsl : jslot (Dk.new 20) z = (1, 0, 0, true) := by
    unfold jslot
    have := hp.load (D := Dk.new 20) (k := z) (by unfold Dk.right; rw [hu.len]; simp; omega)
    rw [if_pos rfl] at this
    rw [show loadM (Dk.new 20) z = ([], 0, 41) from this]
    rfl
  have hh : jheld (Dk.new 20) z n 1 0 0 = [] := hr.scan
  refine ⟨_, ?_, s2⟩
  unfold jopen
  rw [if_neg (by omega), if_neg (by rw [hu.len]; omega), Int.toNat_natCast, Int.toNat_natCast]
  unfold jopenIn
  rw [hsl]
  simp only
  rw [if_neg (by decide), if_neg (by decide), hh, if_pos s1]

/-- One call of law 6: what, a number, bytes, picks. -/
structure OpJ where
  q : Int
  k : Int
  vb : Value
  vp : Value
  b : List UInt8
  zs : List Int
def jagain (D : Dk) (z n : Int) : Option (Jn × Dk) := (jopen D z n).2.1.map fun J => (J, (jopen D z n).2.2)
def jop (z n : Int) (s : Jn × Dk) (o : OpJ) : Option (Jn × Dk) :=
  if o.q = 1 then some (jappend s.1 s.2 o.b).2 else if o.q = 2 then some (s.1, s.2.sync) else if o.q = 3 then some (jtrim s.1 s.2 o.k).2 else if o.q = 4 then some (jcut s.1 s.2 o.k).2 else if o.q = 5 then jagain (s.2.crash o.zs) z n else if o.q = 6 then jagain s.2 z n else some s
def jmade (z n : Int) (l : List OpJ) : Option (Jn × Dk) := l.foldl (fun s o => s.bind fun s => jop z n s o) (jagain (Dk.new 20) z n)
theorem jmade_snoc (z n : Int) (l : List OpJ) (j : Nat) (h : j < l.length) : jmade z n (l.take (j + 1)) = (jmade z n (l.take j)).bind fun s => jop z n s l[j] := by
  unfold jmade
  rw [List.take_succ_eq_append_getElem h, List.foldl_append]; rfl
theorem jop_ji {z n q : Nat} {J : Jn} {D : Dk} {L : List (Nat × List UInt8)} {bs : List (List UInt8)} (h : JI z n q J D L bs) (hq : q < 250) (o : OpJ) : ∃ J' D' L' bs', jop z n (J, D) o = some (J', D') ∧ JI z n (q + 1) J' D' L' bs' := by
  unfold jop
  split
  · rcases h.appends hq o.b with ⟨_, h2, h3⟩ | ⟨_, h2, _⟩
    · refine ⟨_, _, L, bs ++ [o.b], rfl, ?_⟩
      rw [h3]; exact h2
    · exact ⟨J, D, L, bs, by rw [h2], h.up1⟩
  · split
    · exact ⟨J, _, _, _, rfl, (h.syncs hq).up1⟩
    · split
      · rcases h.trims hq o.k with ⟨_, _, _, h2, h3⟩ | ⟨_, h2⟩
        · refine ⟨_, _, J.held.drop o.k.toNat, [], rfl, ?_⟩
          rw [h3]; exact h2
        · exact ⟨J, D, L, bs, by rw [h2], h.up1⟩
      · split
        · rcases h.cuts hq o.k with ⟨_, _, _, h2, h3⟩ | ⟨_, h2⟩
          · refine ⟨_, _, J.held.take (J.held.length - o.k.toNat), [], rfl, ?_⟩
            rw [h3]; exact h2
          · exact ⟨J, D, L, bs, by rw [h2], h.up1⟩
        · split
          · obtain ⟨j, D', hj, e, h2⟩ := h.crash hq o.zs
            exact ⟨_, _, _, _, by unfold jagain; rw [e]; rfl, h2⟩
          · split
            · obtain ⟨D', e, h2⟩ := h.opens hq
              exact ⟨_, _, _, _, by unfold jagain; rw [e]; rfl, h2⟩
            · exact ⟨J, D, L, bs, rfl, h.up1⟩
theorem jmade_ji (z n : Nat) (h1 : 1 ≤ n) (h2 : z + 2 + n ≤ 20) : ∀ (l : List OpJ), l.length < 240 → ∃ J D L bs, jmade z n l = some (J, D) ∧ JI z n (1 + l.length) J D L bs := by
  intro l hl
  have : ∀ j, j ≤ l.length → ∃ J D L bs, jmade z n (l.take j) = some (J, D) ∧ JI z n (1 + j) J D L bs := by
    intro j
    induction j with
    | zero =>
      intro _
      obtain ⟨D, e, h⟩ := new_ji z n h1 h2
      exact ⟨_, _, _, _, by rw [List.take_zero]; show jagain _ _ _ = _; unfold jagain; rw [e]; rfl, h⟩
    | succ j ih =>
      intro hj
      obtain ⟨J, D, L, bs, e, h⟩ := ih (by omega)
      obtain ⟨J', D', L', bs', e2, h'⟩ := jop_ji h (by omega) l[j]
      exact ⟨J', D', L', bs', by rw [jmade_snoc z n l j (by omega), e]; exact e2, h'⟩
  have := this l.length (Nat.le_refl _)
  rwa [List.take_length] at this

theorem recE_snd (E : Nat) (l : List (List UInt8)) : (recE E l).map (·.2) = l := by
  unfold recE; rw [List.map_map]; exact List.map_id l
/-- Records appended one behind the other: the journal, the disk, those that were taken. -/
def japps (s : Jn × Dk × List (List UInt8)) (b : List UInt8) : Jn × Dk × List (List UInt8) := ((jappend s.1 s.2.1 b).2.1, (jappend s.1 s.2.1 b).2.2, if (jappend s.1 s.2.1 b).1 = 0 then s.2.2 ++ [b] else s.2.2)
theorem japps_ji {z n : Nat} {L : List (Nat × List UInt8)} : ∀ (l : List (List UInt8)) (q : Nat) (J : Jn) (D : Dk) (bs : List (List UInt8)), JI z n q J D L bs → q + l.length < 250 → ∃ bs', JI z n (q + l.length) (l.foldl japps (J, D, J.all)).1 (l.foldl japps (J, D, J.all)).2.1 L bs' ∧ (l.foldl japps (J, D, J.all)).2.2 = L.map (·.2) ++ bs' ∧ bs <+: bs' ∧ (l.foldl japps (J, D, J.all)).2.2 = (l.foldl japps (J, D, J.all)).1.all
  | [], q, J, D, bs, h, _ => ⟨bs, h, by show J.all = _; unfold Jn.all; rw [h.held, List.map_append, recE_snd], List.prefix_rfl, rfl⟩
  | b :: l, q, J, D, bs, h, hq => by
    simp at hq
    have e : (b :: l).foldl japps (J, D, J.all) = l.foldl japps (japps (J, D, J.all) b) := rfl
    rw [e]
    rcases h.appends (by omega) b with ⟨c1, c2, c3⟩ | ⟨c1, c2, _⟩
    · have e2 : japps (J, D, J.all) b = ({ J with held := J.held ++ [(J.epoch, b)] }, (jappend J D b).2.2, ({ J with held := J.held ++ [(J.epoch, b)] } : Jn).all) := by
        unfold japps
        simp only
        rw [if_pos c1, c3]
        simp [Jn.all]
      rw [e2]
      obtain ⟨bs', i1, i2, i3, i4⟩ := japps_ji l (q + 1) _ _ _ c2 (by omega)
      exact ⟨bs', by rw [List.length_cons, show q + (l.length + 1) = q + 1 + l.length by omega]; exact i1, i2, (List.prefix_append bs [b]).trans i3, i4⟩
    · have e2 : japps (J, D, J.all) b = (J, D, J.all) := by
        unfold japps
        simp only
        rw [if_neg c1, c2]
      rw [e2]
      obtain ⟨bs', i1, i2, i3, i4⟩ := japps_ji l q _ _ _ h (by omega)
      exact ⟨bs', by rw [List.length_cons, show q + (l.length + 1) = q + l.length + 1 by omega]; exact i1.up1, i2, i3, i4⟩
/-- JournalGaps. -/
theorem gaps_law {z n q : Nat} {J : Jn} {D : Dk} {L : List (Nat × List UInt8)} {bs : List (List UInt8)} (h : JI z n q J D L bs) (more : List (List UInt8)) (hq : q + more.length < 250) (zs : List Int) :
    ∃ J' D', jopen ((more.foldl japps (J, D.sync, J.all)).2.1.crash zs) z n = (0, some J', D') ∧ J.all.length ≤ J'.all.length ∧ J'.all.length ≤ (more.foldl japps (J, D.sync, J.all)).2.2.length ∧ J'.all = (more.foldl japps (J, D.sync, J.all)).2.2.take J'.all.length := by
  have h1 := h.syncs (by omega)
  obtain ⟨bs', i1, i2, i3, i4⟩ := japps_ji more q J D.sync [] h1 hq
  obtain ⟨j, D', hj, e, h2⟩ := i1.crash (by omega) zs
  refine ⟨_, _, e, ?_, ?_, ?_⟩
  · simp [Jn.all]
  · rw [i2]; simp [Jn.all, recE]; omega
  · rw [i2]
    have : ∀ (a : List (List UInt8)), a ++ bs'.take j = (a ++ bs').take (a ++ bs'.take j).length := fun a => by
      rw [List.length_append, List.length_take, Nat.min_eq_left hj, List.take_length_add_append]
    simp only [Jn.all, List.map_append, recE_snd]
    exact this _
/-- A journal that is synced is opened as it is, behind any crash. -/
theorem JI.again {z n q : Nat} {J : Jn} {D : Dk} {L : List (Nat × List UInt8)} (h : JI z n q J D L []) (hq : q < 250) (zs : List Int) : ∃ D', jopen (D.crash zs) z n = (0, some { J with epoch := J.epoch + 1 }, D') ∧ JI z n (q + 1) { J with epoch := J.epoch + 1 } D' J.held [] := by
  obtain ⟨j, D', hj, e, h2⟩ := h.crash hq zs
  have e1 : L ++ recE J.epoch (([] : List (List UInt8)).take j) = J.held := by rw [h.held]; simp [recE]
  rw [e1] at e h2
  exact ⟨D', e, h2⟩
end Go.Proofs.YtcpbmempfeloaaaDoor
