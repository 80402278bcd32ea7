/-
  Layer 6, plain: a sum is a chain of compressions. No program in sight, no conditions.
-/
import Derived.Test.YtalcgmhdgegebaaDoorBlake2
import Derived.Test.YtalcgmhdgegebaaDoorOct8
namespace Go.Proofs.YtalcgmhdgegebaaDoor
open Go Go.RowKit
set_option maxRecDepth 100000
set_option linter.unusedVariables false
set_option linter.unusedSimpArgs false

/-- How many blocks are compressed when so many bytes are written. -/
def nbk (n : Nat) : Nat := (n - 1) / 128
theorem nbk_le (n : Nat) : 128 * nbk n ≤ n := by unfold nbk; omega
theorem nbk_rest (n : Nat) : n - 128 * nbk n ≤ 128 := by unfold nbk; omega
theorem nbk_lt (n k : Nat) (h : k < nbk n) : 128 < n - 128 * k := by unfold nbk at h; omega
theorem nbk_ge (n k : Nat) (h : nbk n ≤ k) : n - 128 * k ≤ 128 := by unfold nbk at h; omega
theorem nbk_mono {n m : Nat} (h : n ≤ m) : nbk n ≤ nbk m := by unfold nbk; omega
/-- The k-th block. -/
def bkAt (l : List Byte) (k : Nat) : List Byte := (l.drop (128 * k)).take 128
/-- Eight numbers behind k whole blocks. -/
def chF (h : List (BitVec 64)) (l : List Byte) : Nat → List (BitVec 64)
  | 0 => h
  | k + 1 => compL (chF h l k) (mL (bkAt l k)) (BitVec.ofNat 64 (128 * (k + 1))) 0#64 false
theorem chF_length (h : List (BitVec 64)) (l : List Byte) (hh : h.length = 8) (k : Nat) : (chF h l k).length = 8 := by
  cases k with
  | zero => exact hh
  | succ k => exact compL_length _ _ _ _ _
theorem bkAt_append (l m : List Byte) (k : Nat) (h : 128 * (k + 1) ≤ l.length) : bkAt (l ++ m) k = bkAt l k := by
  unfold bkAt
  rw [List.drop_append_of_le_length (by omega), List.take_append_of_le_length (by simp; omega)]
theorem chF_append (h : List (BitVec 64)) (l m : List Byte) : ∀ k, 128 * k ≤ l.length → chF h (l ++ m) k = chF h l k := by
  intro k
  induction k with
  | zero => intro _; rfl
  | succ k ih => intro hk; rw [chF, chF, ih (by omega), bkAt_append l m k hk]
/-- Eight numbers at the end. -/
def finL (h : List (BitVec 64)) (l : List Byte) : List (BitVec 64) := compL (chF h l (nbk l.length)) (mL (l.drop (128 * nbk l.length))) (BitVec.ofNat 64 l.length) 0#64 true
theorem finL_length (h : List (BitVec 64)) (l : List Byte) : (finL h l).length = 8 := compL_length _ _ _ _ _
/-- Their bytes. -/
def outL (h : List (BitVec 64)) : List Byte := (h.map fun n => putL n 8).flatten
theorem flat8 : ∀ (h : List (BitVec 64)), ((h.map fun n => putL n 8).flatten).length = 8 * h.length
  | [] => rfl
  | n :: h => by simp [putL_length, flat8 h]; omega
theorem outL_length (h : List (BitVec 64)) : (outL h).length = 8 * h.length := flat8 h
/-- The first numbers, of a size and a key's length. -/
def startL (size key : Nat) : List (BitVec 64) := setN firstL 0 (nth firstL 0 ^^^ (((0x01010000#64) ^^^ (BitVec.ofNat 64 key <<< 8)) ^^^ BitVec.ofNat 64 size))
theorem startL_length (size key : Nat) : (startL size key).length = 8 := by rw [startL, setN_length]; rfl
/-- The bytes that a key puts ahead. -/
def keyL (key : List Byte) : List Byte := if key.length = 0 then [] else pad key 128
/-- The sum of bytes, of so many. -/
def sumL (size : Nat) (key b : List Byte) : List Byte := (outL (finL (startL size key.length) (keyL key ++ b))).take size
theorem sumL_length (size : Nat) (key b : List Byte) (h : size ≤ 64) : (sumL size key b).length = size := by
  rw [sumL, List.length_take, outL_length, finL_length]; omega

theorem carry_none (n m : Nat) (h : n + m < 18446744073709551616) : carryB (BitVec.ofNat 64 n) (BitVec.ofNat 64 m) 0#64 = 0#64 := by
  have e : ((BitVec.ofNat 64 n).toNat + (BitVec.ofNat 64 m).toNat + (0#64).toNat) / 2 ^ 64 = 0 := by
    rw [BitVec.toNat_ofNat, BitVec.toNat_ofNat]
    show (n % 18446744073709551616 + m % 18446744073709551616 + 0) / 18446744073709551616 = 0
    omega
  rw [carryB, e]
theorem ofNat_plus (n m : Nat) : BitVec.ofNat 64 n + BitVec.ofNat 64 m = BitVec.ofNat 64 (n + m) := (BitVec.ofNat_add n m).symm

end Go.Proofs.YtalcgmhdgegebaaDoor
