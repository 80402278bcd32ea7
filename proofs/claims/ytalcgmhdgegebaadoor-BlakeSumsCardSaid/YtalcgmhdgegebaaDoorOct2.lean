/-
  Layer 1: blocks and numbers of 128 bits. Conditions: rows are shorter than 2^47, as each argument is.
-/
import Derived.Test.YtalcgmhdgegebaaDoorOct1
namespace Go.Proofs.YtalcgmhdgegebaaDoor
open Go Go.RowKit
set_option maxRecDepth 100000
set_option linter.unusedVariables false
set_option linter.unusedSimpArgs false

/-- A number of 128 bits as a value. -/
abbrev WV (lo hi : BitVec 64) : Value := .agg #[v64 lo, v64 hi]

@[local go_sem] theorem build_wide (a b : BitVec 64) (w : World) : (Instr.build 51 #[(0, v64 a), (1, v64 b)]).run Tryd.prog w = .ok (WV a b) w := by kernel_rfl

/-- Sixteen bytes, noughts where there are none. -/
def blk (l : List Byte) : List Byte := (List.range 16).map fun (i : Nat) => gb l i
def blkTo (l : List Byte) (k : Nat) : List Byte := (List.range 16).map fun (i : Nat) => if i < k then gb l i else 0
theorem blk_length (l : List Byte) : (blk l).length = 16 := by simp [blk]
theorem blkTo_length (l : List Byte) (k : Nat) : (blkTo l k).length = 16 := by simp [blkTo]
theorem blkTo_zero (l : List Byte) : blkTo l 0 = List.replicate 16 0 := by simp [blkTo, List.range_succ_eq_map]
theorem blkTo_all (l : List Byte) : blkTo l 16 = blk l := by
  unfold blkTo blk
  apply List.map_congr_left
  intro i hi; rw [if_pos (by simpa using hi)]
theorem blkTo_set (l : List Byte) (k : Nat) : (blkTo l k).set k (gb l k) = blkTo l (k + 1) := by
  apply List.ext_getElem
  · simp [blkTo]
  · intro i h1 h2
    simp [blkTo] at h1 h2
    simp only [List.getElem_set, blkTo, List.getElem_map, List.getElem_range]
    by_cases e : k = i
    · subst e; simp
    · rw [if_neg e]; congr 1; rw [eq_iff_iff]; omega

theorem zeros16 : (#[Value.int .u8 0, Value.int .u8 0, Value.int .u8 0, Value.int .u8 0, Value.int .u8 0, Value.int .u8 0, Value.int .u8 0, Value.int .u8 0, Value.int .u8 0, Value.int .u8 0, Value.int .u8 0, Value.int .u8 0, Value.int .u8 0, Value.int .u8 0, Value.int .u8 0, Value.int .u8 0] : Array Value) = ((List.replicate 16 (0 : Byte)).map v8).toArray := rfl

theorem over_blk (l : List Byte) : over (List.replicate 16 0) 0 (l.take 16) = blk l := by
  apply List.ext_getElem
  · rw [over_length _ _ _ (by simp; omega), blk_length]; simp
  · intro i h1 h2
    have hi : i < 16 := by rw [blk_length] at h2; exact h2
    simp only [over, List.take_zero, List.nil_append, Nat.zero_add, blk, List.getElem_map, List.getElem_range, gb_in, List.getD_eq_getElem?_getD]
    by_cases h : i < l.length
    · rw [List.getElem_append_left (by simp; omega)]
      simp [h]
    · rw [List.getElem_append_right (by simp; omega)]
      simp only [List.getElem_drop, List.getElem_replicate, List.getElem?_eq_none (show l.length ≤ i by omega), Option.getD_none]

end Go.Proofs.YtalcgmhdgegebaaDoor
