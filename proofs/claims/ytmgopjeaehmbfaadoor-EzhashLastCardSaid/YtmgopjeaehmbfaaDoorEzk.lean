/-
  Layer 15, the document's: the boxes in a struct of a key's parts, made. No conditions.
-/
import Derived.Test.YtmgopjeaehmbfaaDoorTurn8
namespace Go.Proofs.YtmgopjeaehmbfaaDoor
open Go Go.RowKit
set_option linter.unusedVariables false
set_option linter.unusedSimpArgs false
set_option maxRecDepth 100000

theorem build_rk (w : World) : (Instr.build 35 #[(0, A8 tabs)]).run Tryd.prog w = .ok (A8 (tabs ++ zer 48)) w := by
  rw [tabs_lit]
  kernel_rfl

end Go.Proofs.YtmgopjeaehmbfaaDoor
