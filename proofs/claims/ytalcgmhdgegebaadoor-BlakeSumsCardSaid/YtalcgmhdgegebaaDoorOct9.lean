/-
  Layer 1: the reference's sums and differences of sixteen bytes. No conditions.
-/
import Derived.Test.YtalcgmhdgegebaaDoorOct8
namespace Go.Proofs.YtalcgmhdgegebaaDoor
open Go Go.RowKit
set_option maxRecDepth 100000
set_option linter.unusedVariables false
set_option linter.unusedSimpArgs false

/-- What is carried to a place. -/
def carN (a b : List Byte) : Nat → Nat
  | 0 => 0
  | k + 1 => ((nth a k).toNat + (nth b k).toNat + carN a b k) / 256
def plusB (a b : List Byte) (k : Nat) : Byte := BitVec.ofNat 8 ((nth a k).toNat + (nth b k).toNat + carN a b k)
def lessN (a b : List Byte) : Nat → Nat
  | 0 => 0
  | k + 1 => 1 - (256 + (nth a k).toNat - (nth b k).toNat - lessN a b k) / 256
def minusB (a b : List Byte) (k : Nat) : Byte := BitVec.ofNat 8 (256 + (nth a k).toNat - (nth b k).toNat - lessN a b k)
theorem carN_le (a b : List Byte) (k : Nat) : carN a b k ≤ 1 := by
  induction k with
  | zero => simp [carN]
  | succ k ih => have := (nth a k).isLt; have := (nth b k).isLt; simp only [carN]; omega
theorem lessN_le (a b : List Byte) (k : Nat) : lessN a b k ≤ 1 := by
  cases k with
  | zero => simp [lessN]
  | succ k => simp only [lessN]; omega
theorem ofInt_nat8 (n : Int) (m : Nat) (h : n % 256 = (m % 256 : Nat)) : BitVec.ofInt 8 n = BitVec.ofNat 8 m := by
  apply BitVec.eq_of_toNat_eq
  simp only [BitVec.toNat_ofInt, BitVec.toNat_ofNat]; omega

end Go.Proofs.YtalcgmhdgegebaaDoor
