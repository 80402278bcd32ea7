/-
  Layer 16, plain: what a string brings, the hash of a row, its function of any length, on lists of bytes. No program in sight, no conditions.
-/
import Derived.Test.YtmgopjeaehmbfaaDoorEzp
import Derived.Test.YtmgopjeaehmbfaaDoorOct1
namespace Go.Proofs.YtmgopjeaehmbfaaDoor
open Go Go.RowKit
set_option maxRecDepth 100000
set_option linter.unusedVariables false
set_option linter.unusedSimpArgs false

/-- What the first n blocks of a string bring; F: what a block brings, by its number. -/
def partF (F : Int → List Byte → List Byte) (b : List Byte) : Nat → List Byte
  | 0 => zer 16
  | n + 1 => bothL (partF F b n) (F ((n : Int) + 1) (blk (b.drop (16 * n))))
theorem partF_length (F : Int → List Byte → List Byte) (b : List Byte) : ∀ n, (partF F b n).length = 16
  | 0 => zer_length
  | _ + 1 => bothL_length _ _
/-- What a string brings. -/
def partG (F : Int → List Byte → List Byte) (b : List Byte) : List Byte :=
  if b.length = 0 ∨ b.length % 16 ≠ 0 then bothL (partF F b (b.length / 16)) (F 0 (blk (b.drop (16 * (b.length / 16)) ++ [128#8]))) else partF F b (b.length / 16)
theorem partG_length (F : Int → List Byte → List Byte) (b : List Byte) : (partG F b).length = 16 := by
  unfold partG; split
  · exact bothL_length _ _
  · exact partF_length _ _ _
theorem partF_zero (b : List Byte) : ∀ n, partF (fun _ _ => zer 16) b n = zer 16
  | 0 => rfl
  | n + 1 => by rw [partF, partF_zero b n, both_self]
theorem partG_zero (b : List Byte) : partG (fun _ _ => zer 16) b = zer 16 := by
  unfold partG; split
  · rw [partF_zero, both_self]
  · exact partF_zero _ _
theorem blk_marked (l : List Byte) (h : l.length < 16) : blk (marked l 128#8 16) = blk (l ++ [128#8]) := blk_eq _ _ fun i _ => by
  unfold marked pad
  by_cases h1 : i < (l ++ [128#8]).length
  · simp only [nth, List.getD_eq_getElem?_getD]
    rw [List.getElem?_append_left h1]
  · rw [nth_ge (l := l ++ [128#8]) (by omega)]
    simp only [nth, List.getD_eq_getElem?_getD]
    rw [List.getElem?_append_right (by omega), List.getElem?_replicate]
    split <;> rfl
/-- The hash of the first n strings of a row; F: what a block brings, by the string's number and its own. -/
def hashF (F : Int → Int → List Byte → List Byte) (ls : List (List Byte)) : Nat → List Byte
  | 0 => zer 16
  | n + 1 => bothL (hashF F ls n) (partG (F ((n : Int) + 3)) (ls.getD n []))
theorem hashF_length (F : Int → Int → List Byte → List Byte) (ls : List (List Byte)) : ∀ n, (hashF F ls n).length = 16
  | 0 => zer_length
  | _ + 1 => bothL_length _ _
def hashG (F : Int → Int → List Byte → List Byte) (ls : List (List Byte)) : List Byte := hashF F ls ls.length
theorem hashG_length (F : Int → Int → List Byte → List Byte) (ls : List (List Byte)) : (hashG F ls).length = 16 := hashF_length _ _ _
theorem hashF_append (F : Int → Int → List Byte → List Byte) (ls ms : List (List Byte)) : ∀ n, n ≤ ls.length → hashF F (ls ++ ms) n = hashF F ls n
  | 0, _ => rfl
  | n + 1, h => by
    rw [hashF, hashF, hashF_append F ls ms n (by omega)]
    congr 2
    simp only [List.getD_eq_getElem?_getD]
    rw [List.getElem?_append_left (by omega)]
theorem hashG_one (F : Int → Int → List Byte → List Byte) (ls : List (List Byte)) (b : List Byte) : hashG F (ls ++ [b]) = bothL (hashG F ls) (partG (F ((ls.length : Int) + 3)) b) := by
  rw [hashG, List.length_append, show ls.length + [b].length = ls.length + 1 from rfl, hashF, hashF_append F ls [b] ls.length (Nat.le_refl _), hashG]
  congr 2
  simp
theorem hashF_zero (ls : List (List Byte)) : ∀ n, hashF (fun _ _ _ => zer 16) ls n = zer 16
  | 0 => rfl
  | n + 1 => by rw [hashF, hashF_zero ls n, partG_zero, both_self]
theorem hashG_zero (ls : List (List Byte)) : hashG (fun _ _ _ => zer 16) ls = zer 16 := hashF_zero _ _
/-- A block by exclusive or with a number, its highest byte first. -/
def cntL (h : List Byte) (n : Nat) : List Byte := tab 16 fun q => if 8 ≤ q then nth h q ^^^ nth (putL (BitVec.ofNat 64 n) 8) (15 - q) else nth h q
theorem cntL_length (h : List Byte) (n : Nat) : (cntL h n).length = 16 := tab_length
/-- The first i blocks of a row's bytes. -/
def prfF (E : List Byte → List Byte) (h : List Byte) : Nat → List Byte
  | 0 => []
  | i + 1 => prfF E h i ++ E (cntL h i)
theorem prfF_length (E : List Byte → List Byte) (hE : ∀ x, (E x).length = 16) (h : List Byte) : ∀ i, (prfF E h i).length = 16 * i
  | 0 => rfl
  | i + 1 => by rw [prfF, List.length_append, prfF_length E hE h i, hE]; omega
/-- How many blocks so many bytes need. -/
def prfN (n : Nat) : Nat := (n + 15) / 16
def prfL (E : List Byte → List Byte) (h : List Byte) (n : Nat) : List Byte := (prfF E h (prfN n)).take n
theorem prfL_length (E : List Byte → List Byte) (hE : ∀ x, (E x).length = 16) (h : List Byte) (n : Nat) : (prfL E h n).length = n := by
  rw [prfL, List.length_take, prfF_length E hE, prfN]; omega
theorem prfF_prefix (E : List Byte → List Byte) (hE : ∀ x, (E x).length = 16) (h : List Byte) (i : Nat) : ∀ k, (prfF E h (i + k)).take (16 * i) = prfF E h i
  | 0 => by rw [Nat.add_zero, List.take_of_length_le (by rw [prfF_length E hE]; exact Nat.le_refl _)]
  | k + 1 => by
    rw [← Nat.add_assoc, prfF, List.take_append_of_le_length (by rw [prfF_length E hE]; omega), prfF_prefix E hE h i k]

end Go.Proofs.YtmgopjeaehmbfaaDoor
