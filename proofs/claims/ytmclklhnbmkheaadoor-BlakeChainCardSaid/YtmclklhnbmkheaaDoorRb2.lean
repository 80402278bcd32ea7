/-
  Layer 6: the document's compression. No conditions beyond those written in each theorem.
-/
import Derived.Test.YtmclklhnbmkheaaDoorRb1
import Derived.Test.YtmclklhnbmkheaaDoorBlake3
import Derived.Test.YtmclklhnbmkheaaDoorOct6
namespace Go.Proofs.YtmclklhnbmkheaaDoor
open Go Go.RowKit
set_option maxRecDepth 100000
set_option linter.unusedVariables false
set_option linter.unusedSimpArgs false

def rF (b : List Byte) (i : Nat) : BitVec 64 := num b (8 * (i : Int)) 8
theorem rF_mL (b : List Byte) : tab 16 (rF b) = mL b := rfl
theorem stir_doc (v : List (BitVec 64)) (i by_ a b c d : Nat) (x y : BitVec 64) (h1 : a = i) (h2 : b = 4 + (i + by_) % 4) (h3 : c = 8 + (i + 2 * by_) % 4) (h4 : d = 12 + (i + 3 * by_) % 4) : stirR v a b c d x y = stirL v i by_ x y := by subst h1 h2 h3 h4; rfl
theorem not_xor (x : BitVec 64) : x ^^^ 18446744073709551615#64 = ~~~x := by
  rw [show (18446744073709551615#64 : BitVec 64) = BitVec.allOnes 64 from by decide, BitVec.xor_allOnes]
@[local go_sem] theorem indexAt_vI (t : TypeId) (x : Value) (i : Byte) : Instr.indexAt t x (vI i) = Instr.indexAt t x (.int .i64 (i.toNat : Int)) := rfl
attribute [local simp] compL_length
end Go.Proofs.YtmclklhnbmkheaaDoor
