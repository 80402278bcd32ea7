/-
  Layer 15, plain: a key's parts, offsets, and the tweaked block function, on lists of bytes. No program in sight, no conditions.
-/
import Derived.Test.YtmgopjeaehmbfaaDoorRingp
import Derived.Test.YtmgopjeaehmbfaaDoorTurnp
import Derived.Test.YtmgopjeaehmbfaaDoorBlake3
namespace Go.Proofs.YtmgopjeaehmbfaaDoor
open Go Go.RowKit
set_option maxRecDepth 100000
set_option linter.unusedVariables false
set_option linter.unusedSimpArgs false

/-- A key's parts. -/
structure KeyP where
  i : List Byte
  j : List Byte
  l : List Byte
structure KeyP.Ok (K : KeyP) : Prop where
  hi : K.i.length = 16
  hj : K.j.length = 16
  hl : K.l.length = 16
/-- The bytes of which the parts are made. -/
def keyB (key : List Byte) : List Byte := if key.length = 48 then key else sumL 48 [] key
theorem keyB_length (key : List Byte) : (keyB key).length = 48 := by
  unfold keyB; split
  · assumption
  · exact sumL_length _ _ _ (by omega)
def keyOf (key : List Byte) : KeyP := ⟨blk (keyB key), blk ((keyB key).drop 16), blk ((keyB key).drop 32)⟩
theorem keyOf_ok (key : List Byte) : (keyOf key).Ok := ⟨blk_length _, blk_length _, blk_length _⟩
theorem gb_nth (l : List Byte) (i : Nat) : gb l i = nth l i := gb_in l i
theorem blk_nth (l : List Byte) (i : Nat) (h : i < 16) : nth (blk l) i = nth l i := by
  rw [← gb_nth l i]; simp [nth, blk, h]
theorem blk_eq (l m : List Byte) (h : ∀ i, i < 16 → nth l i = nth m i) : blk l = blk m := nth_ext (by rw [blk_length, blk_length]) fun i hi => by
  rw [blk_length] at hi; rw [blk_nth _ _ hi, blk_nth _ _ hi, h i hi]
theorem nth_drop (l : List Byte) (k i : Nat) : nth (l.drop k) i = nth l (k + i) := by simp [nth, List.getElem?_drop]
theorem nth_take (l : List Byte) (k i : Nat) (h : i < k) : nth (l.take k) i = nth l i := by simp [nth, List.getElem?_take, h]
theorem blk_take (l : List Byte) (k : Nat) : blk ((l.drop k).take 16) = blk (l.drop k) := blk_eq _ _ fun i hi => nth_take _ _ _ hi
theorem blk_self (l : List Byte) (h : l.length = 16) : blk l = l := nth_ext (by rw [blk_length, h]) fun i hi => by rw [blk_length] at hi; exact blk_nth _ _ hi
theorem blk_sub (l : List Byte) (k : Nat) (h : k + 16 ≤ l.length) : blk (l.drop k) = (l.drop k).take 16 := by
  rw [← blk_take, blk_self]; rw [List.length_take, List.length_drop]; omega

/-- The part of a number: one of the three, or noughts. -/
def KeyP.at (K : KeyP) (n : Int) : List Byte := if n = 0 then K.i else if n = 1 then K.j else if n = 2 then K.l else zer 16
theorem KeyP.at_length {K : KeyP} (h : K.Ok) (n : Int) : (K.at n).length = 16 := by
  unfold KeyP.at; split
  · exact h.hi
  · split
    · exact h.hj
    · split
      · exact h.hl
      · exact zer_length
/-- How often the first part is doubled. -/
def upN (i : Nat) : Nat := i / 8 + min (i % 8) 1
def offN (K : KeyP) (j i : Nat) : List Byte := bothL (bothL (mulL (BitVec.ofNat 64 j) K.j) (dblN K.i (upN i))) (mulL (BitVec.ofNat 64 (i % 8)) K.l)
theorem offN_length (K : KeyP) (j i : Nat) : (offN K j i).length = 16 := bothL_length _ _
def fourK (K : KeyP) : List (List Byte) := [K.j, K.i, K.l, zer 16]
def tenK (K : KeyP) : List (List Byte) := [K.i, K.j, K.l, K.i, K.j, K.l, K.i, K.j, K.l, K.i]
theorem fourK_each {K : KeyP} (h : K.Ok) : ∀ k ∈ fourK K, k.length = 16 := by
  simp [fourK, h.hi, h.hj, h.hl, zer_length]
theorem tenK_each {K : KeyP} (h : K.Ok) : ∀ k ∈ tenK K, k.length = 16 := by
  simp [tenK, h.hi, h.hj, h.hl]
/-- The tweaked block function from 0 on, and for -1. -/
def eN (K : KeyP) (j i : Nat) (x : List Byte) : List Byte := rnds (bothL x (offN K j i)) (fourK K)
def eT (K : KeyP) (i : Nat) (x : List Byte) : List Byte := rnds (bothL x (mulL (BitVec.ofNat 64 i) K.l)) (tenK K)
def eZ (K : KeyP) (j i : Int) (x : List Byte) : List Byte := if j < -1 ∨ i < 0 then zer 16 else if j < 0 then eT K i.toNat x else eN K j.toNat i.toNat x
def offZ (K : KeyP) (j i : Int) : List Byte := if j < 0 ∨ i < 0 then zer 16 else offN K j.toNat i.toNat
theorem eN_length (K : KeyP) (j i : Nat) (x : List Byte) : (eN K j i x).length = 16 := rnds_length _ _ (bothL_length _ _)
theorem eT_length (K : KeyP) (i : Nat) (x : List Byte) : (eT K i x).length = 16 := rnds_length _ _ (bothL_length _ _)
theorem eZ_length (K : KeyP) (j i : Int) (x : List Byte) : (eZ K j i x).length = 16 := by
  unfold eZ; split
  · exact zer_length
  · split
    · exact eT_length _ _ _
    · exact eN_length _ _ _ _
theorem offZ_length (K : KeyP) (j i : Int) : (offZ K j i).length = 16 := by
  unfold offZ; split
  · exact zer_length
  · exact offN_length _ _ _
theorem eZ_inj (K : KeyP) (j i : Int) (x y : List Byte) (hj : -1 ≤ j) (hi : 0 ≤ i) (hx : x.length = 16) (hy : y.length = 16) (h : eZ K j i x = eZ K j i y) : x = y := by
  have hc : ¬ (j < -1 ∨ i < 0) := by omega
  simp only [eZ, if_neg hc] at h
  by_cases h0 : j < 0
  · simp only [if_pos h0, eT] at h
    exact both_inj _ _ _ hx hy (rnds_inj _ _ _ (bothL_length _ _) (bothL_length _ _) h)
  · simp only [if_neg h0, eN] at h
    exact both_inj _ _ _ hx hy (rnds_inj _ _ _ (bothL_length _ _) (bothL_length _ _) h)
theorem msum_zer (c : Nat → Bool) : ∀ k, msum c (zer 16) k = zer 16
  | 0 => rfl
  | k + 1 => by rw [msum, msum_zer c k, dblN_zer, both_zero _ zer_length, ite_self]
theorem mulL_zer (n : BitVec 64) : mulL n (zer 16) = zer 16 := msum_zer _ _
theorem off_00 (K : KeyP) (h : K.Ok) : offN K 0 0 = K.i := by
  rw [offN, show BitVec.ofNat 64 0 = 0#64 from rfl, show BitVec.ofNat 64 (0 % 8) = 0#64 from rfl, mul_zero, mul_zero, both_zero _ (bothL_length _ _), zero_both _ (dblN_length _ h.hi _)]; rfl
theorem e_shift (K : KeyP) (j i : Nat) (x : List Byte) : eN K j i x = eN K 0 0 (bothL (bothL x (offN K j i)) (offN K 0 0)) := by
  rw [eN, eN, both_back _ _ (bothL_length _ _)]
theorem eT_zero (K : KeyP) (x : List Byte) (hx : x.length = 16) : eT K 0 x = rnds x (tenK K) := by
  rw [eT, show BitVec.ofNat 64 0 = 0#64 from rfl, mul_zero, both_zero _ hx]
theorem off_sums (K : KeyP) (h : K.Ok) (j k i : Nat) (J : BitVec 64) (hJ : J = BitVec.ofNat 64 j ^^^ BitVec.ofNat 64 k) :
    bothL (offN K j i) (offN K k i) = bothL (bothL (bothL (mulL J K.j) (dblN K.i (upN i))) (mulL (BitVec.ofNat 64 (i % 8)) K.l)) (offN K 0 i) := by
  subst hJ
  rw [mul_xor _ _ _ h.hj, offN, offN, offN, show BitVec.ofNat 64 0 = 0#64 from rfl, mul_zero, zero_both _ (dblN_length _ h.hi _)]
  generalize hA : mulL (BitVec.ofNat 64 j) K.j = A
  generalize hB : mulL (BitVec.ofNat 64 k) K.j = B
  generalize hU : dblN K.i (upN i) = U
  generalize hM : mulL (BitVec.ofNat 64 (i % 8)) K.l = M
  have lA : A.length = 16 := hA ▸ mulL_length _ _
  have lB : B.length = 16 := hB ▸ mulL_length _ _
  refine nth_ext (by rw [bothL_length, bothL_length]) fun n hn => ?_
  rw [bothL_length] at hn
  simp only [bothL_nth _ _ _ hn]
  generalize nth A n = a
  generalize nth B n = b
  generalize nth U n = u
  generalize nth M n = m
  apply BitVec.eq_of_getLsbD_eq
  intro r _
  simp only [BitVec.getLsbD_xor]
  cases a.getLsbD r <;> cases b.getLsbD r <;> cases u.getLsbD r <;> cases m.getLsbD r <;> rfl

end Go.Proofs.YtmgopjeaehmbfaaDoor
