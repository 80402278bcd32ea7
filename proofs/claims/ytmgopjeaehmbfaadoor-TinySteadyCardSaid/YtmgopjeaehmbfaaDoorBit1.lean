/-
  The lowest bit of a number, and its half; a block of noughts, made. No conditions.
  The exclusive or of two blocks of sixteen bytes, plain. No conditions.
-/
import Derived.Test.YtmgopjeaehmbfaaDoorTypes
import Derived.Test.YtmgopjeaehmbfaaDoorMem
namespace Go.Proofs.YtmgopjeaehmbfaaDoor
open Go Go.RowKit
set_option maxRecDepth 100000
set_option linter.unusedVariables false
set_option linter.unusedSimpArgs false

@[go_sem] theorem and1_nat (t : TypeId) (N : Nat) : binOp .and t (.int .i64 (N : Int)) (.int .i64 1) = pure (.int .i64 ((N % 2 : Nat) : Int)) := by
  rw [binOp_and]
  show pure (Value.int .i64 (IntKind.i64.wrap ((BitVec.ofInt 64 (N : Int) &&& BitVec.ofInt 64 1).toNat : Nat))) = _
  have e : (BitVec.ofInt 64 (N : Int) &&& BitVec.ofInt 64 1).toNat = N % 2 := by
    rw [ofInt_nat', show BitVec.ofInt 64 1 = 1#64 from by decide, BitVec.toNat_and]
    simp only [BitVec.toNat_ofNat, show (1 % 2 ^ 64) = 1 from by decide, Nat.and_one_is_mod]
    omega
  rw [e, IntWalk.i64_in _ (by omega)]
theorem bits_and1 (N : Nat) : bits .and .i64 (N : Int) 1 = ((N % 2 : Nat) : Int) := by
  show IntKind.i64.wrap ((BitVec.ofInt 64 (N : Int) &&& BitVec.ofInt 64 1).toNat : Nat) = _
  have e : (BitVec.ofInt 64 (N : Int) &&& BitVec.ofInt 64 1).toNat = N % 2 := by
    rw [ofInt_nat', show BitVec.ofInt 64 1 = 1#64 from by decide, BitVec.toNat_and]
    simp only [BitVec.toNat_ofNat, show (1 % 2 ^ 64) = 1 from by decide, Nat.and_one_is_mod]
    omega
  rw [e, IntWalk.i64_in _ (by omega)]
@[go_sem] theorem shr1_nat (t : TypeId) (N : Nat) : binOp .shr t (.int .i64 (N : Int)) (.int .u64 1) = pure (.int .i64 ((N / 2 : Nat) : Int)) := by
  simp only [binOp_shr, Op.shift]
  have : ((N : Int).fdiv (2 ^ (min (1 : Int).toNat IntKind.i64.bits))) = ((N / 2 : Nat) : Int) := by
    rw [show min (1 : Int).toNat IntKind.i64.bits = 1 from by decide, Int.fdiv_eq_ediv_of_nonneg _ (by decide)]; omega
  rw [this]; rfl
theorem build_z16 (w : World) : (Instr.build 27 #[]).run Tryd.prog w = .ok (A8 (zer 16)) w := by kernel_rfl

end Go.Proofs.YtmgopjeaehmbfaaDoor
namespace Go.Proofs.YtmgopjeaehmbfaaDoor
open Go
set_option linter.unusedVariables false
set_option linter.unusedSimpArgs false

def bothL (a b : List Byte) : List Byte := tab 16 fun i => nth a i ^^^ nth b i
theorem bothL_length (a b : List Byte) : (bothL a b).length = 16 := tab_length
theorem bothL_nth (a b : List Byte) (i : Nat) (h : i < 16) : nth (bothL a b) i = nth a i ^^^ nth b i := nth_tab h

end Go.Proofs.YtmgopjeaehmbfaaDoor
