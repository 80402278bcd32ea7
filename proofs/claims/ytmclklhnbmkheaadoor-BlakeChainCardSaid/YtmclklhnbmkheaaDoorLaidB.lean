/-
  Layer 6: what the listed variables of a statement give: the first numbers and the rows lie as the program's text lays them. Conditions: as the rows list them.
-/
import Derived.Test.YtmclklhnbmkheaaDoorRows
import Derived.Test.YtmclklhnbmkheaaDoorLaidp
namespace Go.Proofs.YtmclklhnbmkheaaDoor
open Go Go.ChangeShapes Go.WideShapes Go.ChangeAt Go.WideMaps Go.WideElems Go.RowKit
set_option linter.unusedVariables false
set_option linter.unusedSimpArgs false

def laidB : List (String × DataW Unit) := [("wringer/blake.first", Rows.laid_wringer_blake_first), ("wringer/blake.rows", Rows.laid_wringer_blake_rows)]
theorem laid_coefB {W : World} (h : laidMetH Tryd.prog laidB W) : CoefB W := by
  rw [MakeChecks.laidMetH_plain _ _ _ (by kernel_rfl)] at h
  obtain ⟨ps, ⟨g0, t0, cs0, f0, p0, q0, hg0, ht0, hv0, hd0, ⟨g1, t1, cs1, f1, p1, q1, hg1, ht1, hv1, hd1, _, _⟩, _⟩, _, _⟩ := h
  obtain rfl := Option.some.inj (gFirst.symm.trans hg0)
  obtain rfl := Option.some.inj (gRows.symm.trans hg1)
  obtain rfl := Option.some.inj (tFirst.symm.trans ht0)
  obtain rfl := Option.some.inj (tRows.symm.trans ht1)
  obtain ⟨l0⟩ := cs0
  obtain ⟨l1⟩ := cs1
  have c0 := cells_ints (ns := firstN) Tryd.underlying38 Tryd.underlying37 (by kernel_rfl) (by kernel_rfl) hd0
  have c1 := cells_rows (rs := rowsN) Tryd.underlying56 Tryd.underlying55 Tryd.underlying5 (by kernel_rfl) (by kernel_rfl) hd1
  exact coefB_of (fun i => by have := World.var?_cell hg0 hv0 i; simpa using this) (fun i => by have := World.var?_cell hg1 hv1 i; simpa using this) c0 c1

set_option maxRecDepth 100000 in
/-- The door's own heap meets the condition. -/
theorem door_metB (os : Os) (args : Array Value) : laidMetH Tryd.prog laidB ((World.doorLaid Tryd.prog 400 os).forCall (fun _ _ => 0) ⟨#[], args, []⟩).memory :=
  laidMetH_of_parts3 (fuel := 8) (laidMet_of_run' 8 (by kernel_rfl) (by kernel_rfl)) (by kernel_rfl) (by kernel_rfl)

end Go.Proofs.YtmclklhnbmkheaaDoor
