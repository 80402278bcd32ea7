/-
  Layer 16, plain: a string and its rest, two last strings, blocks of a row's bytes. No program in sight, no conditions.
-/
import Derived.Test.YtmgopjeaehmbfaaDoorHashp
namespace Go.Proofs.YtmgopjeaehmbfaaDoor
open Go Go.RowKit
set_option maxRecDepth 100000
set_option linter.unusedVariables false
set_option linter.unusedSimpArgs false

theorem zer_bothL (x : List Byte) (h : x.length = 16) : bothL (zer 16) x = x := nth_ext (by rw [bothL_length, h]) fun i hi => by
  rw [bothL_length] at hi
  rw [bothL_nth _ _ _ hi, zer, nth_tab hi]; simp
theorem partG_short (F : Int → List Byte → List Byte) (hF : ∀ m x, (F m x).length = 16) (r : List Byte) (h : r.length < 16) : partG F r = F 0 (blk (r ++ [128#8])) := by
  have h0 : r.length / 16 = 0 := by omega
  rw [partG, if_pos (by omega), h0, partF, zer_bothL _ (hF _ _)]; rfl
theorem partG_rest (F : Int → List Byte → List Byte) (hF : ∀ m x, (F m x).length = 16) (b : List Byte) (h : b.length = 0 ∨ b.length % 16 ≠ 0) : bothL (partF F b (b.length / 16)) (partG F (b.drop (16 * (b.length / 16)))) = partG F b := by
  rw [partG_short F hF (b.drop _) (by rw [List.length_drop]; omega)]
  conv => rhs; rw [partG, if_pos h]
theorem partG_whole (F : Int → List Byte → List Byte) (b : List Byte) (h : ¬ (b.length = 0 ∨ b.length % 16 ≠ 0)) : partF F b (b.length / 16) = partG F b := by
  rw [partG, if_neg h]
theorem partG_one (F : Int → List Byte → List Byte) (hF : ∀ m x, (F m x).length = 16) (a : List Byte) (h : a.length = 16) : partG F a = F 1 a := by
  have h0 : a.length / 16 = 1 := by omega
  rw [partG, if_neg (by omega), h0, partF, partF, zer_bothL _ (hF _ _)]
  show F 1 (blk a) = F 1 a
  rw [blk_self a h]
theorem dropq_zeros (n : Nat) (m : Byte) (hm : m ≠ 0#8) (l : List Byte) : (List.replicate n (0 : Byte) ++ (m :: l)).dropWhile (· == 0#8) = m :: l := by
  induction n with
  | zero => simp [List.dropWhile, hm]
  | succ n ih => simpa [List.replicate_succ, List.dropWhile] using ih
theorem markedq_back (a : List Byte) (m : Byte) (s : Int) (hm : m ≠ 0#8) : (marked a m s).reverse.dropWhile (· == 0#8) = m :: a.reverse := by
  unfold marked pad
  rw [List.reverse_append, List.reverse_replicate, List.reverse_append]
  exact dropq_zeros _ m hm _
theorem markedq_inj (a b : List Byte) (m : Byte) (s : Int) (hm : m ≠ 0#8) (h : marked a m s = marked b m s) : a = b := by
  have := (markedq_back a m s hm).symm.trans ((congrArg (fun x => x.reverse.dropWhile (· == 0#8)) h).trans (markedq_back b m s hm))
  exact List.reverse_inj.1 (List.cons.inj this).2
theorem marked_length16 (a : List Byte) (m : Byte) (h : a.length < 16) : (marked a m 16).length = 16 := by
  have hl : (a ++ [m]).length = a.length + 1 := by simp
  unfold marked pad
  rw [List.length_append, List.length_replicate, hl]
  have h3 : roomN (a.length + 1) 16 = (16 - (a.length + 1) % 16) % 16 := by unfold roomN; rw [if_neg (by decide)]; rfl
  rw [h3]; omega
theorem blk128_inj (a b : List Byte) (ha : a.length < 16) (hb : b.length < 16) (h : blk (a ++ [128#8]) = blk (b ++ [128#8])) : a = b := by
  rw [← blk_marked a ha, ← blk_marked b hb, blk_self _ (marked_length16 a _ ha), blk_self _ (marked_length16 b _ hb)] at h
  exact markedq_inj a b _ _ (by decide) h
theorem last_short (K : KeyP) (x y : List Byte) (hx : x.length < 16) (hy : y.length < 16) : (partG (eZ K 3) x == partG (eZ K 3) y) = (x == y) := by
  rw [Bool.eq_iff_iff, beq_iff_eq, beq_iff_eq]
  constructor
  · intro h
    rw [partG_short _ (eZ_length K 3) x hx, partG_short _ (eZ_length K 3) y hy] at h
    exact blk128_inj x y hx hy (eZ_inj K 3 0 _ _ (by omega) (by omega) (blk_length _) (blk_length _) h)
  · rintro rfl; rfl
theorem last_whole (K : KeyP) (x y : List Byte) (hx : x.length = 16) (hy : y.length = 16) : (partG (eZ K 3) x == partG (eZ K 3) y) = (x == y) := by
  rw [Bool.eq_iff_iff, beq_iff_eq, beq_iff_eq]
  constructor
  · intro h
    rw [partG_one _ (eZ_length K 3) x hx, partG_one _ (eZ_length K 3) y hy] at h
    exact eZ_inj K 3 1 _ _ (by omega) (by omega) hx hy h
  · rintro rfl; rfl
theorem prfL_take (E : List Byte → List Byte) (hE : ∀ x, (E x).length = 16) (h : List Byte) (n m : Nat) (hnm : n ≤ m) : (prfL E h m).take n = prfL E h n := by
  unfold prfL
  obtain ⟨k, hk⟩ : ∃ k, prfN m = prfN n + k := ⟨prfN m - prfN n, by unfold prfN; omega⟩
  have h1 := prfF_prefix E hE h (prfN n) k
  rw [List.take_take, Nat.min_eq_left hnm, hk, ← h1, List.take_take, Nat.min_eq_left (by unfold prfN; omega)]
theorem prfL_block (E : List Byte → List Byte) (hE : ∀ x, (E x).length = 16) (h : List Byte) (n i : Nat) (hi : 16 * i + 16 ≤ n) : ((prfL E h n).drop (16 * i)).take 16 = E (cntL h i) := by
  have h1 := prfL_take E hE h (16 * i + 16) n hi
  have h2 : ((prfL E h n).drop (16 * i)).take 16 = ((prfL E h n).take (16 * i + 16)).drop (16 * i) := by rw [List.drop_take]; congr 1; omega
  rw [h2, h1]
  have h3 : prfN (16 * i + 16) = i + 1 := by unfold prfN; omega
  have h4 : (prfF E h i ++ E (cntL h i)).length = 16 * i + 16 := by rw [List.length_append, prfF_length E hE, hE]
  rw [prfL, h3, prfF, List.take_of_length_le (by rw [h4]; exact Nat.le_refl _), List.drop_append_of_le_length (by rw [prfF_length E hE]; exact Nat.le_refl _), List.drop_eq_nil_of_le (by rw [prfF_length E hE]; exact Nat.le_refl _), List.nil_append]
theorem nth_put (x : BitVec 64) (q : Nat) (h : q < 8) : nth (putL x 8) q = (x >>> (8 * q)).setWidth 8 := by
  simp [nth, putL, h]
theorem byte_ofNat (n q : Nat) : ((BitVec.ofNat 64 n) >>> (8 * q)).setWidth 8 = BitVec.ofNat 8 ((n % 2 ^ 64) >>> (8 * q)) := by
  apply BitVec.eq_of_toNat_eq; simp
/-- Fewer than 256: the last byte alone. -/
theorem cntL_byte (h : List Byte) (hh : h.length = 16) (n : Nat) (hn : n < 256) : setN h 15 (nth h 15 ^^^ BitVec.ofNat 8 n) = cntL h n := nth_ext (by rw [setN_length, cntL_length, hh]) fun i hi => by
  rw [setN_length, hh] at hi
  rw [nth_set (by omega), cntL, nth_tab hi]
  by_cases e : 15 = i
  · subst e
    rw [if_pos rfl, if_pos (by omega), nth_put _ _ (by omega)]
    congr 1
    apply BitVec.eq_of_toNat_eq; simp
  · rw [if_neg e]
    by_cases h8 : 8 ≤ i
    · rw [if_pos h8, nth_put _ _ (by omega)]
      have : ((BitVec.ofNat 64 n) >>> (8 * (15 - i))).setWidth 8 = 0#8 := by
        rw [byte_ofNat, Nat.mod_eq_of_lt (by omega), Nat.shiftRight_eq_div_pow, Nat.div_eq_of_lt (Nat.lt_of_lt_of_le hn (by
          have : (2:Nat) ^ 8 ≤ 2 ^ (8 * (15 - i)) := Nat.pow_le_pow_right (by omega) (by omega)
          omega))]
      rw [this]; simp
    · rw [if_neg h8]
/-- Three bytes of a number below 2 ^ 24. -/
theorem cntL_three (h : List Byte) (hh : h.length = 16) (n : Nat) (hn : n < 16777216) : setN (setN (setN h 15 (nth h 15 ^^^ BitVec.ofNat 8 n)) 14 (nth h 14 ^^^ BitVec.ofNat 8 (n >>> 8))) 13 (nth h 13 ^^^ BitVec.ofNat 8 (n >>> 16)) = cntL h n := nth_ext (by rw [setN_length, setN_length, setN_length, cntL_length, hh]) fun i hi => by
  rw [setN_length, setN_length, setN_length, hh] at hi
  rw [nth_set (by rw [setN_length, setN_length]; omega), nth_set (by rw [setN_length]; omega), nth_set (by omega), cntL, nth_tab hi]
  have hm : n % 2 ^ 64 = n := Nat.mod_eq_of_lt (by omega)
  by_cases e3 : 13 = i
  · subst e3
    rw [if_pos rfl, if_pos (by omega), nth_put _ _ (by omega), byte_ofNat, hm]
  · rw [if_neg e3]
    by_cases e2 : 14 = i
    · subst e2
      rw [if_pos rfl, if_pos (by omega), nth_put _ _ (by omega), byte_ofNat, hm]
    · rw [if_neg e2]
      by_cases e1 : 15 = i
      · subst e1
        rw [if_pos rfl, if_pos (by omega), nth_put _ _ (by omega), byte_ofNat, hm]; rfl
      · rw [if_neg e1]
        by_cases h8 : 8 ≤ i
        · rw [if_pos h8, nth_put _ _ (by omega)]
          have : ((BitVec.ofNat 64 n) >>> (8 * (15 - i))).setWidth 8 = 0#8 := by
            rw [byte_ofNat, hm, Nat.shiftRight_eq_div_pow, Nat.div_eq_of_lt (Nat.lt_of_lt_of_le hn (by
              have : (2:Nat) ^ 24 ≤ 2 ^ (8 * (15 - i)) := Nat.pow_le_pow_right (by omega) (by omega)
              omega))]
          rw [this]; simp
        · rw [if_neg h8]

end Go.Proofs.YtmgopjeaehmbfaaDoor
