/- Stamps, plainly: what is stamped is parsed; a sector that is torn between two stamps. -/
import Derived.Test.YtaeonlafcbgpcaaDoorParse
namespace Go.Proofs.YtaeonlafcbgpcaaDoor
open Go.RowKit

theorem ofLE_le : ∀ (k n : Nat), n < 256 ^ k → ofLE (le n k) = n
  | 0, n, h => by simp at h; subst h; rfl
  | k + 1, n, h => by
    have h2 : n / 256 < 256 ^ k := by rw [Nat.pow_succ] at h; exact Nat.div_lt_of_lt_mul (by omega)
    rw [le, ofLE, ofLE_le k _ h2, UInt8.toNat_ofNat']
    omega
theorem ofLE_inj : ∀ (l m : List UInt8), l.length = m.length → ofLE l = ofLE m → l = m
  | [], [], _, _ => rfl
  | [], b :: m, h, _ => by simp at h
  | a :: l, [], h, _ => by simp at h
  | a :: l, b :: m, h, e => by
    have ha := a.toNat_lt
    have hb := b.toNat_lt
    rw [ofLE, ofLE] at e
    have e1 : a.toNat = b.toNat := by omega
    have e2 : ofLE l = ofLE m := by omega
    rw [UInt8.toNat_inj.1 e1, ofLE_inj l m (by simpa using h) e2]
theorem seg {α : Type} (x y z : List α) {n m : Nat} (hx : x.length = n) (hy : y.length = m) : ((x ++ (y ++ z)).drop n).take m = y := by
  subst hx hy; simp

theorem st_seq (s p : Nat) (b : List UInt8) : (stampB s p b).take 4 = le s 4 := by
  have := seg [] (le s 4) (le p 4 ++ ([UInt8.ofNat b.length] ++ (b ++ List.replicate (43 - b.length) 0)) ++ (le (sumOf (stampHead s p b)) 4 ++ (le s 4 ++ le p 4))) rfl (le_length s 4)
  simpa [stampB, stampHead] using this
theorem st_epoch (s p : Nat) (b : List UInt8) : ((stampB s p b).drop 4).take 4 = le p 4 := by
  have := seg (le s 4) (le p 4) (([UInt8.ofNat b.length] ++ (b ++ List.replicate (43 - b.length) 0)) ++ (le (sumOf (stampHead s p b)) 4 ++ (le s 4 ++ le p 4))) (le_length s 4) (le_length p 4)
  simpa [stampB, stampHead] using this
theorem st_len (s p : Nat) (b : List UInt8) : ((stampB s p b).drop 8).take 1 = [UInt8.ofNat b.length] := by
  have := seg (le s 4 ++ le p 4) [UInt8.ofNat b.length] ((b ++ List.replicate (43 - b.length) 0) ++ (le (sumOf (stampHead s p b)) 4 ++ (le s 4 ++ le p 4))) (n := 8) (by simp [le_length]) rfl
  simpa [stampB, stampHead] using this
theorem st_bytes (s p : Nat) (b : List UInt8) : ((stampB s p b).drop 9).take b.length = b := by
  have := seg (le s 4 ++ le p 4 ++ [UInt8.ofNat b.length]) b (List.replicate (43 - b.length) 0 ++ (le (sumOf (stampHead s p b)) 4 ++ (le s 4 ++ le p 4))) (n := 9) (by simp [le_length]) rfl
  simpa [stampB, stampHead] using this
theorem st_head (s p : Nat) (b : List UInt8) (h : b.length ≤ 43) : (stampB s p b).take 52 = stampHead s p b := by
  unfold stampB
  rw [List.take_append_of_le_length (by rw [stampHead_length s p b h]; exact Nat.le_refl _), List.take_of_length_le (by rw [stampHead_length s p b h]; exact Nat.le_refl _)]
theorem st_sum (s p : Nat) (b : List UInt8) (h : b.length ≤ 43) : ((stampB s p b).drop 52).take 4 = le (sumOf (stampHead s p b)) 4 := seg _ _ _ (stampHead_length s p b h) (le_length _ 4)
theorem st_again (s p : Nat) (b : List UInt8) (h : b.length ≤ 43) : ((stampB s p b).drop 56).take 4 = le s 4 := by
  have := seg (stampHead s p b ++ le (sumOf (stampHead s p b)) 4) (le s 4) (le p 4) (n := 56) (by rw [List.length_append, stampHead_length s p b h, le_length]) (le_length _ 4)
  rw [List.append_assoc] at this
  exact this
theorem st_also (s p : Nat) (b : List UInt8) (h : b.length ≤ 43) : ((stampB s p b).drop 60).take 4 = le p 4 := by
  have := seg (stampHead s p b ++ (le (sumOf (stampHead s p b)) 4 ++ le s 4)) (le p 4) [] (n := 60) (by rw [List.length_append, List.length_append, stampHead_length s p b h, le_length, le_length]) (le_length _ 4)
  rw [List.append_nil, List.append_assoc, List.append_assoc] at this
  exact this

/-- What is stamped is parsed. -/
theorem parse_stamp (s p : Nat) (b : List UInt8) (h0 : 0 < s) (hs : s < 4294967296) (hp : p < 4294967296) (hb : b.length ≤ 43) : parseP (stampB s p b) = some (s, p, b) := by
  have e1 : pSeq (stampB s p b) = s := by unfold pSeq; rw [st_seq, ofLE_le 4 s hs]
  have e2 : pEpoch (stampB s p b) = p := by unfold pEpoch; rw [st_epoch, ofLE_le 4 p hp]
  have e3 : pLen (stampB s p b) = b.length := by
    unfold pLen; rw [st_len]
    show (UInt8.ofNat b.length).toNat + 256 * 0 = _
    rw [UInt8.toNat_ofNat']; omega
  have e4 : pSum (stampB s p b) = sumOf (stampHead s p b) := by unfold pSum; rw [st_sum s p b hb, ofLE_le 4 _ (sumOf_lt _)]
  have e5 : pAgain (stampB s p b) = s := by unfold pAgain; rw [st_again s p b hb, ofLE_le 4 s hs]
  have e6 : pAlso (stampB s p b) = p := by unfold pAlso; rw [st_also s p b hb, ofLE_le 4 p hp]
  unfold parseP
  rw [if_pos ⟨stampB_length s p b hb, by omega, by omega, by omega, by omega, by rw [e4, st_head s p b hb]⟩, e1, e2, e3, st_bytes]

/-- Two lists' first and other bytes, at a place. -/
theorem torn_get (A B : List UInt8) (hA : A.length = 64) (hB : B.length = 64) (cut j : Nat) (hc : cut ≤ 64) : (A.take cut ++ B.drop cut)[j]? = if j < cut then A[j]? else B[j]? := by
  have hl : (A.take cut).length = cut := by rw [List.length_take]; omega
  by_cases h : j < cut
  · rw [List.getElem?_append_left (by omega), if_pos h, List.getElem?_take, if_pos h]
  · rw [List.getElem?_append_right (by omega), if_neg h, hl, List.getElem?_drop]
    congr 1; omega
theorem sub_get (l : List UInt8) (n m i : Nat) : ((l.drop n).take m)[i]? = if i < m then l[n + i]? else none := by
  rw [List.getElem?_take, List.getElem?_drop]
theorem sub_eq {l m : List UInt8} {n k : Nat} (h : ∀ i, i < k → l[n + i]? = m[n + i]?) : (l.drop n).take k = (m.drop n).take k := by
  apply List.ext_getElem?
  intro i
  rw [sub_get, sub_get]
  split
  · exact h i (by assumption)
  · rfl
theorem sub_of {l m : List UInt8} {n k i : Nat} (h : (l.drop n).take k = (m.drop n).take k) (hi : i < k) : l[n + i]? = m[n + i]? := by
  have := congrArg (fun x : List UInt8 => x[i]?) h
  simpa [sub_get, hi] using this

/-- A sector that is torn between two stamps has one of them, or none. -/
theorem torn_law (s m : Nat) (one two : List UInt8) (cut : Nat) (hc : cut ≤ 64) (hsm : s ≠ m) (hs : s < 4294967296) (hm : m < 4294967296) (h1 : one.length ≤ 43) (h2 : two.length ≤ 43) :
    parseP ((stampB s 0 one).take cut ++ (stampB m 0 two).drop cut) = none ∨ (stampB s 0 one).take cut ++ (stampB m 0 two).drop cut = stampB s 0 one ∨ (stampB s 0 one).take cut ++ (stampB m 0 two).drop cut = stampB m 0 two := by
  have hA : (stampB s 0 one).length = 64 := stampB_length s 0 one h1
  have hB : (stampB m 0 two).length = 64 := stampB_length m 0 two h2
  have aq := st_seq s 0 one
  have bq := st_seq m 0 two
  have aa := st_again s 0 one h1
  have ba := st_again m 0 two h2
  have al := st_also s 0 one h1
  have bl := st_also m 0 two h2
  generalize stampB s 0 one = A at hA aq aa al ⊢
  generalize stampB m 0 two = B at hB bq ba bl ⊢
  have hg := torn_get A B hA hB cut
  have hll : (A.take cut ++ B.drop cut).length = 64 := by rw [List.length_append, List.length_take, List.length_drop]; omega
  generalize A.take cut ++ B.drop cut = l at hg hll ⊢
  cases hp : parseP l with
  | none => exact .inl rfl
  | some r =>
    refine .inr ?_
    have hpa : pSeq l = pAgain l := by
      unfold parseP at hp
      split at hp
      · rename_i hc; exact hc.2.2.1
      · cases hp
    have hle : l.take 4 = (l.drop 56).take 4 := ofLE_inj _ _ (by rw [List.length_take, List.length_take, List.length_drop]; omega) hpa
    have hne : le s 4 ≠ le m 4 := fun e => hsm (by rw [← ofLE_le 4 s hs, ← ofLE_le 4 m hm, e])
    have hbig : ∀ X : List UInt8, X.length = 64 → (∀ j, j < 64 → l[j]? = X[j]?) → l = X := fun X hX h => by
      apply List.ext_getElem?
      intro j
      by_cases hj : j < 64
      · exact h j hj
      · rw [List.getElem?_eq_none (by omega), List.getElem?_eq_none (by omega)]
    by_cases h56 : cut ≤ 56
    · -- the tail is the second's
      have ht : (l.drop 56).take 4 = (B.drop 56).take 4 := sub_eq fun i hi => by rw [hg _ hc, if_neg (by omega)]
      rw [ht, ba] at hle
      have h4 : cut < 4 := by
        rcases Nat.lt_or_ge cut 4 with h | h
        · exact h
        · exfalso
          have : (l.drop 0).take 4 = (A.drop 0).take 4 := sub_eq fun i hi => by rw [hg _ hc, if_pos (by omega)]
          rw [List.drop_zero, List.drop_zero, hle, aq] at this
          exact hne this.symm
      refine .inr (hbig B hB fun j hj => ?_)
      by_cases hj4 : j < 4
      · have : (l.drop 0).take 4 = (B.drop 0).take 4 := by rw [List.drop_zero, List.drop_zero, hle, bq]
        have := sub_of this hj4
        simpa using this
      · rw [hg _ hc, if_neg (by omega)]
    · -- the head is the first's
      have hh : (l.drop 0).take 4 = (A.drop 0).take 4 := sub_eq fun i hi => by rw [hg _ hc, if_pos (by omega)]
      rw [List.drop_zero, List.drop_zero, aq] at hh
      rw [hh] at hle
      refine .inl (hbig A hA fun j hj => ?_)
      by_cases hj1 : j < 56
      · rw [hg _ hc, if_pos (by omega)]
      · by_cases hj2 : j < 60
        · have : (l.drop 56).take 4 = (A.drop 56).take 4 := by rw [← hle, aa]
          have := sub_of this (i := j - 56) (by omega)
          rwa [show 56 + (j - 56) = j from by omega] at this
        · have : (A.drop 60).take 4 = (B.drop 60).take 4 := by rw [al, bl]
          have := sub_of this (i := j - 60) (by omega)
          rw [show 60 + (j - 60) = j from by omega] at this
          rw [hg _ hc]
          split
          · rfl
          · exact this.symm
end Go.Proofs.YtaeonlafcbgpcaaDoor
