/-
  Layer 1: rows put together by exclusive or, and held against each other. Conditions: rows are shorter than 2^47, as each argument is.
-/
import Derived.Test.YtalcgmhdgegebaaDoorOct3
namespace Go.Proofs.YtalcgmhdgegebaaDoor
open Go Go.RowKit
set_option maxRecDepth 100000
set_option linter.unusedVariables false
set_option linter.unusedSimpArgs false

/-- The first k of a row, noughts behind. -/
def fillTo (r : List Byte) (k : Nat) : List Byte := r.take k ++ List.replicate (r.length - k) 0
theorem fillTo_length (r : List Byte) (k : Nat) (h : k ≤ r.length) : (fillTo r k).length = r.length := by simp [fillTo]; omega
theorem fillTo_zero (r : List Byte) : fillTo r 0 = zeros r.length := by simp [fillTo, zeros]
theorem fillTo_all (r : List Byte) : fillTo r r.length = r := by simp [fillTo]
theorem fillTo_set (r : List Byte) (k : Nat) (h : k < r.length) : (fillTo r k).set k (r.getD k 0) = fillTo r (k + 1) := by
  apply List.ext_getElem
  · rw [List.length_set, fillTo_length _ _ (by omega), fillTo_length _ _ (by omega)]
  · intro i h1 h2
    rw [List.getElem_set]
    rw [List.length_set, fillTo_length _ _ (by omega)] at h1
    by_cases e : k = i
    · subst e
      rw [if_pos rfl]
      simp only [fillTo]
      rw [List.getElem_append_left (by simp; omega)]
      simp [h]
    · rw [if_neg e]
      simp only [fillTo]
      by_cases hik : i < k
      · rw [List.getElem_append_left (by simp; omega), List.getElem_append_left (by simp; omega)]
        simp
      · rw [List.getElem_append_right (by simp; omega), List.getElem_append_right (by simp; omega)]
        simp

def xorL (a b : List Byte) : List Byte := List.zipWith (fun x y => x ^^^ y) a b
theorem xorL_length (a b : List Byte) : (xorL a b).length = min a.length b.length := by simp [xorL]
theorem xorL_getD (a b : List Byte) (k : Nat) (h : k < (xorL a b).length) : (xorL a b).getD k 0 = a.getD k 0 ^^^ b.getD k 0 := by
  rw [xorL_length] at h
  have h1 : k < a.length := by omega
  have h2 : k < b.length := by omega
  simp [xorL, List.getElem?_zipWith, h1, h2]

/-- Two rows are the same if no byte of their exclusive or is other than 0. -/
def orL (a b : List Byte) : Nat → Byte
  | 0 => 0#8
  | k + 1 => orL a b k ||| (a.getD k 0 ^^^ b.getD k 0)
theorem orL_zero (a b : List Byte) : ∀ k, orL a b k = 0#8 ↔ ∀ i, i < k → a.getD i 0 = b.getD i 0
  | 0 => by simp [orL]
  | k + 1 => by
    have h0 : ∀ x y : Byte, x ||| y = 0#8 ↔ x = 0#8 ∧ y = 0#8 := by
      intro x y
      constructor
      · intro h
        constructor
        · apply BitVec.eq_of_getLsbD_eq; intro i hi
          have := congrArg (fun z => z.getLsbD i) h
          simp at this; simp [this.1]
        · apply BitVec.eq_of_getLsbD_eq; intro i hi
          have := congrArg (fun z => z.getLsbD i) h
          simp at this; simp [this.2]
      · rintro ⟨rfl, rfl⟩; simp
    rw [orL, h0, orL_zero a b k, BitVec.xor_eq_zero_iff]
    constructor
    · rintro ⟨h1, h2⟩ i hi
      by_cases e : i = k
      · subst e; exact h2
      · exact h1 i (by omega)
    · intro h; exact ⟨fun i hi => h i (by omega), h k (by omega)⟩
theorem orL_same (a b : List Byte) (h : a.length = b.length) : (orL a b a.length == 0#8) = (a == b) := by
  rw [Bool.eq_iff_iff, beq_iff_eq, beq_iff_eq, orL_zero]
  constructor
  · intro hh
    apply List.ext_getElem h
    intro i h1 h2
    have := hh i h1
    simpa [h1, h2] using this
  · rintro rfl _ _; rfl

end Go.Proofs.YtalcgmhdgegebaaDoor
