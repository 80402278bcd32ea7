/-
  Layer 1: the bytes of a number of 128 bits. No conditions.
  Layer 1: the reference's bytes of a number. No conditions but on how many.
-/
import Derived.Test.YtmclklhnbmkheaaDoorOct4
import Derived.Test.YtmclklhnbmkheaaDoorOwn
namespace Go.Proofs.YtmclklhnbmkheaaDoor
open Go Go.RowKit
set_option maxRecDepth 100000
set_option linter.unusedVariables false
set_option linter.unusedSimpArgs false

attribute [go_sem] putL_length
theorem over_low (lo : List Byte) (h : lo.length = 8) : over (List.replicate 16 0) 0 (lo.take 16) = lo ++ List.replicate 8 0 := by
  rw [List.take_of_length_le (by omega)]
  simp [over, h]
theorem over_high (lo hi : List Byte) (h : lo.length = 8) (h2 : hi.length = 8) : over (lo ++ List.replicate 8 0) 8 (hi.take 8) = lo ++ hi := by
  rw [List.take_of_length_le (by omega)]
  simp [over, h, h2, List.drop_append]

/-! ### The reference's bytes of a number -/
theorem putL_succ (n : BitVec 64) (m : Nat) : putL n (m + 1) = putL n m ++ [(n >>> (8 * m)).setWidth 8] := by
  simp [putL, List.range_succ]
theorem rem256 (n : BitVec 64) : (n % 256#64).setWidth 8 = n.setWidth 8 := by
  apply BitVec.eq_of_toNat_eq
  simp [BitVec.toNat_umod]
theorem quo256 (n : BitVec 64) (k : Nat) : (n >>> (8 * k)) / 256#64 = n >>> (8 * (k + 1)) := by
  apply BitVec.eq_of_toNat_eq
  simp only [BitVec.toNat_udiv, BitVec.toNat_ushiftRight, Nat.shiftRight_eq_div_pow, BitVec.toNat_ofNat]
  rw [Nat.div_div_eq_div_mul, show 8 * (k + 1) = 8 * k + 8 from by omega, Nat.pow_add]

end Go.Proofs.YtmclklhnbmkheaaDoor
namespace Go.Proofs.YtmclklhnbmkheaaDoor
open Go Go.RowKit
set_option maxRecDepth 100000
set_option linter.unusedVariables false
set_option linter.unusedSimpArgs false

@[local go_sem] theorem conv_64_8' (x : BitVec 64) (w : World) : (convert 37 5 (v64 x)).run Tryd.prog w = .ok (v8 (x.setWidth 8)) w := conv64_8 x _ _ _ w rfl rfl

theorem putlong_any' (n : BitVec 64) (w : World) : Gives Tryd.prog 16 #[v64 n] w (A8 (putL n 8)) := by
  have := putlong_any n w; rwa [BitVec.setWidth_eq] at this

end Go.Proofs.YtmclklhnbmkheaaDoor
