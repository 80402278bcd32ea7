/-
  Layers 15 on: what the listed variables of a statement give: the first numbers, the rows and the coefficients lie as the program's text lays them. Conditions: as the rows list them.
-/
import Derived.Test.YtmgopjeaehmbfaaDoorRows
import Derived.Test.YtmgopjeaehmbfaaDoorLaidp
import Derived.Test.YtmgopjeaehmbfaaDoorTurn1
namespace Go.Proofs.YtmgopjeaehmbfaaDoor
open Go Go.ChangeShapes Go.WideShapes Go.ChangeAt Go.WideMaps Go.WideElems Go.RowKit
set_option linter.unusedVariables false
set_option linter.unusedSimpArgs false

def laidA : List (String × DataW Unit) := [("wringer/blake.first", Rows.laid_wringer_blake_first), ("wringer/blake.rows", Rows.laid_wringer_blake_rows), ("wringer/turn.mixes", Rows.laid_wringer_turn_mixes), ("wringer/turn.unmixes", Rows.laid_wringer_turn_unmixes)]
theorem gMixes : Tryd.prog.globalNamed "wringer/turn.mixes" = some 0 := by kernel_rfl
theorem gUnmixes : Tryd.prog.globalNamed "wringer/turn.unmixes" = some 1 := by kernel_rfl
theorem tMixes : (Tryd.prog.globals[0]?).map (·.type) = some 124 := by kernel_rfl
theorem tUnmixes : (Tryd.prog.globals[1]?).map (·.type) = some 124 := by kernel_rfl
theorem laid_coefA {W : World} (h : laidMetH Tryd.prog laidA W) : Coef W ∧ CoefB W := by
  rw [MakeChecks.laidMetH_plain _ _ _ (by kernel_rfl)] at h
  obtain ⟨ps, ⟨g0, t0, cs0, f0, p0, q0, hg0, ht0, hv0, hd0, ⟨g1, t1, cs1, f1, p1, q1, hg1, ht1, hv1, hd1, ⟨g2, t2, cs2, f2, p2, q2, hg2, ht2, hv2, hd2, ⟨g3, t3, cs3, f3, p3, q3, hg3, ht3, hv3, hd3, _, _⟩, _⟩, _⟩, _⟩, _, _⟩ := h
  obtain rfl := Option.some.inj (gFirst.symm.trans hg0)
  obtain rfl := Option.some.inj (gRows.symm.trans hg1)
  obtain rfl := Option.some.inj (gMixes.symm.trans hg2)
  obtain rfl := Option.some.inj (gUnmixes.symm.trans hg3)
  obtain rfl := Option.some.inj (tFirst.symm.trans ht0)
  obtain rfl := Option.some.inj (tRows.symm.trans ht1)
  obtain rfl := Option.some.inj (tMixes.symm.trans ht2)
  obtain rfl := Option.some.inj (tUnmixes.symm.trans ht3)
  obtain ⟨l0⟩ := cs0
  obtain ⟨l1⟩ := cs1
  obtain ⟨l2⟩ := cs2
  obtain ⟨l3⟩ := cs3
  have c0 := cells_ints (ns := firstN) Tryd.underlying134 Tryd.underlying102 (by kernel_rfl) (by kernel_rfl) hd0
  have c1 := cells_rows (rs := rowsN) Tryd.underlying183 Tryd.underlying27 Tryd.underlying5 (by kernel_rfl) (by kernel_rfl) hd1
  have c2 := cells_ints (ns := [2, 3, 1, 1]) Tryd.underlying124 Tryd.underlying5 (by kernel_rfl) (by kernel_rfl) hd2
  have c3 := cells_ints (ns := [14, 11, 13, 9]) Tryd.underlying124 Tryd.underlying5 (by kernel_rfl) (by kernel_rfl) hd3
  refine ⟨?_, coefB_of (fun i => by have := World.var?_cell hg0 hv0 i; simpa using this) (fun i => by have := World.var?_cell hg1 hv1 i; simpa using this) c0 c1⟩
  simp only at c2 c3
  subst c2 c3
  refine ⟨⟨fun _ => rfl, fun i hi => ?_⟩, ⟨fun _ => rfl, fun i hi => ?_⟩⟩
  · show W.cell? ((⟨0, 0, none⟩ : Addr).add i) = _
    rw [Addr.add_mid, Nat.zero_add, World.var?_cell hg2 hv2 i]
    rcases (show i = 0 ∨ i = 1 ∨ i = 2 ∨ i = 3 by simp [mixesL] at hi; omega) with rfl | rfl | rfl | rfl <;> rfl
  · show W.cell? ((⟨1, 0, none⟩ : Addr).add i) = _
    rw [Addr.add_mid, Nat.zero_add, World.var?_cell hg3 hv3 i]
    rcases (show i = 0 ∨ i = 1 ∨ i = 2 ∨ i = 3 by simp [unmixesL] at hi; omega) with rfl | rfl | rfl | rfl <;> rfl

set_option maxRecDepth 100000 in
/-- The door's own heap meets the condition. -/
theorem door_metA (os : Os) (args : Array Value) : laidMetH Tryd.prog laidA ((World.doorLaid Tryd.prog 400 os).forCall (fun _ _ => 0) ⟨#[], args, []⟩).memory :=
  laidMetH_of_parts3 (fuel := 8) (laidMet_of_run' 8 (by kernel_rfl) (by kernel_rfl)) (by kernel_rfl) (by kernel_rfl)

end Go.Proofs.YtmgopjeaehmbfaaDoor
