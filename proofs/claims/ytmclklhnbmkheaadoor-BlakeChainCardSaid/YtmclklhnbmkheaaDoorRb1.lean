/-
  Layer 6: the document's parts. No conditions beyond those written in each theorem.
-/
import Derived.Test.YtmclklhnbmkheaaDoorBlake2
namespace Go.Proofs.YtmclklhnbmkheaaDoor
open Go Go.RowKit
set_option maxRecDepth 100000
set_option linter.unusedVariables false
set_option linter.unusedSimpArgs false

/-- Sixteen numbers of which four are stirred. -/
def stirR (v : List (BitVec 64)) (a b c d : Nat) (x y : BitVec 64) : List (BitVec 64) := halfL (halfL v a b c d x 32 24) a b c d y 16 63
theorem stirR_length (v : List (BitVec 64)) (a b c d : Nat) (x y : BitVec 64) : (stirR v a b c d x y).length = v.length := by rw [stirR, halfL_length, halfL_length]

/-- A row, as numbers. -/
def vI (x : Byte) : Value := .int .i64 (x.toNat : Int)
abbrev AI (l : List Byte) : Value := .agg (l.map vI).toArray
theorem one_vI (l : List Byte) : ∀ v ∈ l.map vI, v.oneCell' = true := by
  intro v hv; obtain ⟨x, _, rfl⟩ := List.mem_map.1 hv; rfl
end Go.Proofs.YtmclklhnbmkheaaDoor
