/-
  Layer 6, plain: BLAKE2b on lists of numbers. No program in sight, no conditions.
-/
import Derived.Test.YtalcgmhdgegebaaDoorTab
namespace Go.Proofs.YtalcgmhdgegebaaDoor
open Go
set_option linter.unusedVariables false
set_option linter.unusedSimpArgs false

/-- A number, turned to the right. -/
def rotr (x : BitVec 64) (k : Nat) : BitVec 64 := (x <<< (64 - k)) ||| (x >>> k)
def half1 (v : List (BitVec 64)) (a b : Nat) (x : BitVec 64) : List (BitVec 64) := setN v a (nth v a + (nth v b + x))
def half2 (v : List (BitVec 64)) (a d m : Nat) : List (BitVec 64) := setN v d (rotr (nth v d ^^^ nth v a) m)
def half3 (v : List (BitVec 64)) (c d : Nat) : List (BitVec 64) := setN v c (nth v c + nth v d)
def halfL (v : List (BitVec 64)) (a b c d : Nat) (x : BitVec 64) (m n : Nat) : List (BitVec 64) := half2 (half3 (half2 (half1 v a b x) a d m) c d) c b n
theorem halfL_length (v : List (BitVec 64)) (a b c d : Nat) (x : BitVec 64) (m n : Nat) : (halfL v a b c d x m n).length = v.length := by simp [halfL, half1, half2, half3]
/-- Four numbers stirred, of a column or on a slant. -/
def stirL (v : List (BitVec 64)) (i by_ : Nat) (x y : BitVec 64) : List (BitVec 64) :=
  halfL (halfL v i (4 + (i + by_) % 4) (8 + (i + 2 * by_) % 4) (12 + (i + 3 * by_) % 4) x 32 24) i (4 + (i + by_) % 4) (8 + (i + 2 * by_) % 4) (12 + (i + 3 * by_) % 4) y 16 63
theorem stirL_length (v : List (BitVec 64)) (i by_ : Nat) (x y : BitVec 64) : (stirL v i by_ x y).length = v.length := by rw [stirL, halfL_length, halfL_length]
def firstL : List (BitVec 64) := [0x6a09e667f3bcc908#64, 0xbb67ae8584caa73b#64, 0x3c6ef372fe94f82b#64, 0xa54ff53a5f1d36f1#64, 0x510e527fade682d1#64, 0x9b05688c2b3e6c1f#64, 0x1f83d9abfb41bd6b#64, 0x5be0cd19137e2179#64]
theorem firstL_length : firstL.length = 8 := rfl
def rowsL : List (List Byte) := [
  [0#8, 1#8, 2#8, 3#8, 4#8, 5#8, 6#8, 7#8, 8#8, 9#8, 10#8, 11#8, 12#8, 13#8, 14#8, 15#8],
  [14#8, 10#8, 4#8, 8#8, 9#8, 15#8, 13#8, 6#8, 1#8, 12#8, 0#8, 2#8, 11#8, 7#8, 5#8, 3#8],
  [11#8, 8#8, 12#8, 0#8, 5#8, 2#8, 15#8, 13#8, 10#8, 14#8, 3#8, 6#8, 7#8, 1#8, 9#8, 4#8],
  [7#8, 9#8, 3#8, 1#8, 13#8, 12#8, 11#8, 14#8, 2#8, 6#8, 5#8, 10#8, 4#8, 0#8, 15#8, 8#8],
  [9#8, 0#8, 5#8, 7#8, 2#8, 4#8, 10#8, 15#8, 14#8, 1#8, 11#8, 12#8, 6#8, 8#8, 3#8, 13#8],
  [2#8, 12#8, 6#8, 10#8, 0#8, 11#8, 8#8, 3#8, 4#8, 13#8, 7#8, 5#8, 15#8, 14#8, 1#8, 9#8],
  [12#8, 5#8, 1#8, 15#8, 14#8, 13#8, 4#8, 10#8, 0#8, 7#8, 6#8, 3#8, 9#8, 2#8, 8#8, 11#8],
  [13#8, 11#8, 7#8, 14#8, 12#8, 1#8, 3#8, 9#8, 5#8, 0#8, 15#8, 4#8, 8#8, 6#8, 2#8, 10#8],
  [6#8, 15#8, 14#8, 9#8, 11#8, 3#8, 0#8, 8#8, 12#8, 2#8, 13#8, 7#8, 1#8, 4#8, 10#8, 5#8],
  [10#8, 2#8, 8#8, 4#8, 7#8, 6#8, 1#8, 5#8, 15#8, 11#8, 9#8, 14#8, 3#8, 12#8, 13#8, 0#8]]
theorem rowsL_length : rowsL.length = 10 := rfl
theorem rowsL_each : ∀ k ∈ rowsL, k.length = 16 := by decide
theorem rowsL_lt : ∀ k ∈ rowsL, ∀ x ∈ k, x.toNat < 16 := by decide
def rowL (r : Nat) : List Byte := rowsL.getD (r % 10) []
theorem rowL_length (r : Nat) : (rowL r).length = 16 := by
  have h : r % 10 < rowsL.length := Nat.mod_lt _ (by decide)
  rw [rowL, List.getD_eq_getElem?_getD, List.getElem?_eq_getElem h]; exact rowsL_each _ (List.getElem_mem h)
theorem rowL_lt (r i : Nat) : (nth (rowL r) i).toNat < 16 := by
  have h : r % 10 < rowsL.length := Nat.mod_lt _ (by decide)
  by_cases hi : i < (rowL r).length
  · rw [nth_get hi]
    refine rowsL_lt (rowL r) ?_ _ (List.getElem_mem hi)
    rw [rowL, List.getD_eq_getElem?_getD, List.getElem?_eq_getElem h]; exact List.getElem_mem h
  · rw [nth_ge (by omega)]; decide
/-- The first i steps of a round. -/
def stepF (m : List (BitVec 64)) (row : List Byte) (v : List (BitVec 64)) : Nat → List (BitVec 64)
  | 0 => v
  | i + 1 => stirL (stepF m row v i) (i % 4) (i / 4) (nth m (nth row (2 * i)).toNat) (nth m (nth row (2 * i + 1)).toNat)
theorem stepF_length (m : List (BitVec 64)) (row : List Byte) (v : List (BitVec 64)) (i : Nat) : (stepF m row v i).length = v.length := by
  induction i with
  | zero => rfl
  | succ i ih => rw [stepF, stirL_length, ih]
/-- The first r rounds. -/
def roundF (m v : List (BitVec 64)) : Nat → List (BitVec 64)
  | 0 => v
  | r + 1 => stepF m (rowL r) (roundF m v r) 8
theorem roundF_length (m v : List (BitVec 64)) (r : Nat) : (roundF m v r).length = v.length := by
  induction r with
  | zero => rfl
  | succ r ih => rw [roundF, stepF_length, ih]
/-- The sixteen numbers at the start: the first k of eight are put, each with its own. -/
def startF (h : List (BitVec 64)) : Nat → List (BitVec 64)
  | 0 => zer 16
  | k + 1 => setN (setN (startF h k) k (nth h k)) (k + 8) (nth firstL k)
theorem startF_length (h : List (BitVec 64)) (k : Nat) : (startF h k).length = 16 := by
  induction k with
  | zero => exact zer_length
  | succ k ih => rw [startF, setN_length, setN_length, ih]
def xorN (v : List (BitVec 64)) (i : Nat) (x : BitVec 64) : List (BitVec 64) := setN v i (nth v i ^^^ x)
def notN (v : List (BitVec 64)) (i : Nat) : List (BitVec 64) := setN v i (~~~ (nth v i))
def initL (h : List (BitVec 64)) (lo hi : BitVec 64) (last : Bool) : List (BitVec 64) :=
  let v := xorN (xorN (startF h 8) 12 lo) 13 hi
  if last then notN v 14 else v
theorem initL_length (h : List (BitVec 64)) (lo hi : BitVec 64) (last : Bool) : (initL h lo hi last).length = 16 := by
  unfold initL; cases last <;> simp [xorN, notN, startF_length]
/-- Eight numbers, compressed. -/
def compL (h m : List (BitVec 64)) (lo hi : BitVec 64) (last : Bool) : List (BitVec 64) :=
  tab 8 fun i => nth h i ^^^ (nth (roundF m (initL h lo hi last) 12) i ^^^ nth (roundF m (initL h lo hi last) 12) (i + 8))
theorem compL_length (h m : List (BitVec 64)) (lo hi : BitVec 64) (last : Bool) : (compL h m lo hi last).length = 8 := tab_length

end Go.Proofs.YtalcgmhdgegebaaDoor
