/-
  Layer 3: what the listed variables of a statement give: the coefficients lie as the program's text lays them. Conditions: as the rows list them.
-/
import Derived.Test.YtalcgmhdgegebaaDoorRows
import Derived.Test.YtalcgmhdgegebaaDoorTurn1
import Derived.ProofKit
import Derived.LaidMore
import Derived.OpenShut
import Derived.Stop.Joined
namespace Go.Proofs.YtalcgmhdgegebaaDoor
open Go Go.ChangeShapes Go.WideShapes Go.ChangeAt Go.WideMaps Go.WideElems Go.RowKit
set_option linter.unusedVariables false
set_option linter.unusedSimpArgs false

theorem cells_of_ints {H : Type} {enc : TypeId × Value → H} {P : Program} {w : World} {base : Nat} {spare : Nat → Bool} {held : Bool} {fuel : Nat} {t e : TypeId} {n : Nat} {k : IntKind} {cs : List Value} {ns : List Int} {q : List MemPlace}
    (ht : P.underlying t = some (.array n e)) (he : P.underlying e = some (.int k)) (hc : P.cellsOf e = 1) (hm : P.cellsOf t = n)
    (h : DataW.trod enc P w base spare held fuel t cs = some (.agg (ns.map fun i => .lit (.int k i)), q)) : cs = ns.map fun i => .int k i := by
  obtain ⟨xs, m, _, hx, hl, hn, hel⟩ := DataW.trod_array ht h
  have hx1 : ns.map (fun i => DataW.lit (H := H) (.int k i)) = xs.map (·.1) := by
    have := congrArg Prod.fst hx
    simpa using this
  have hln : ns.length = n := by have := congrArg List.length hx1; simp only [List.length_map] at this; omega
  rw [hm] at hl
  apply List.ext_getElem?
  intro i
  by_cases hi : i < n
  · have hx' := hel i hi
    rw [hc, Nat.mul_one, List.getElem?_eq_getElem (by omega)] at hx'
    obtain ⟨n0, e1, e2, _⟩ := DataW.trod_int he hx'
    have a1 : cs[i]? = some (.int k n0) := by
      have := congrArg (·[0]?) e1
      simpa [List.getElem?_take, List.getElem?_drop] using this
    have a2 := congrArg (·[i]?) hx1
    simp only [List.getElem?_map, List.getElem?_eq_getElem (show i < xs.length by omega), List.getElem?_eq_getElem (show i < ns.length by omega), Option.map_some, e2, Option.some.injEq] at a2
    injection a2 with a3
    injection a3 with _ a4
    rw [a1, List.getElem?_map, List.getElem?_eq_getElem (show i < ns.length by omega), Option.map_some, a4]
  · rw [List.getElem?_eq_none (by omega), List.getElem?_eq_none (by simp; omega)]

def laidT : List (String × DataW Unit) := [("wringer/turn.mixes", Rows.laid_wringer_turn_mixes), ("wringer/turn.unmixes", Rows.laid_wringer_turn_unmixes)]
theorem gMixes : Tryd.prog.globalNamed "wringer/turn.mixes" = some 2 := by kernel_rfl
theorem gUnmixes : Tryd.prog.globalNamed "wringer/turn.unmixes" = some 3 := by kernel_rfl
theorem tMixes : (Tryd.prog.globals[2]?).map (·.type) = some 84 := by kernel_rfl
theorem tUnmixes : (Tryd.prog.globals[3]?).map (·.type) = some 84 := by kernel_rfl

theorem laid_coef {W : World} (h : laidMetH Tryd.prog laidT W) : Coef W := by
  rw [MakeChecks.laidMetH_plain _ _ _ (by kernel_rfl)] at h
  obtain ⟨ps, ⟨g0, t0, cs0, f0, p0, q0, hg0, ht0, hv0, hd0, ⟨g1, t1, cs1, f1, p1, q1, hg1, ht1, hv1, hd1, _, _⟩, _⟩, _, _⟩ := h
  obtain rfl := Option.some.inj (gMixes.symm.trans hg0)
  obtain rfl := Option.some.inj (gUnmixes.symm.trans hg1)
  obtain rfl := Option.some.inj (tMixes.symm.trans ht0)
  obtain rfl := Option.some.inj (tUnmixes.symm.trans ht1)
  have c0 := cells_of_ints (ns := [2, 3, 1, 1]) Tryd.underlying84 Tryd.underlying5 (by kernel_rfl) (by kernel_rfl) hd0
  have c1 := cells_of_ints (ns := [14, 11, 13, 9]) Tryd.underlying84 Tryd.underlying5 (by kernel_rfl) (by kernel_rfl) hd1
  obtain ⟨l0⟩ := cs0
  obtain ⟨l1⟩ := cs1
  simp only at c0 c1
  subst c0 c1
  refine ⟨⟨fun _ => rfl, fun i hi => ?_⟩, ⟨fun _ => rfl, fun i hi => ?_⟩⟩
  · show W.cell? ((⟨2, 0, none⟩ : Addr).add i) = _
    rw [Addr.add_mid, Nat.zero_add, World.var?_cell hg0 hv0 i]
    rcases (show i = 0 ∨ i = 1 ∨ i = 2 ∨ i = 3 by simp [mixesL] at hi; omega) with rfl | rfl | rfl | rfl <;> rfl
  · show W.cell? ((⟨3, 0, none⟩ : Addr).add i) = _
    rw [Addr.add_mid, Nat.zero_add, World.var?_cell hg1 hv1 i]
    rcases (show i = 0 ∨ i = 1 ∨ i = 2 ∨ i = 3 by simp [unmixesL] at hi; omega) with rfl | rfl | rfl | rfl <;> rfl

set_option maxRecDepth 100000 in
/-- The door's own heap meets the condition. -/
theorem door_met (os : Os) (args : Array Value) : laidMetH Tryd.prog laidT ((World.doorLaid Tryd.prog 400 os).forCall (fun _ _ => 0) ⟨#[], args, []⟩).memory :=
  laidMetH_of_parts3 (fuel := 8) (laidMet_of_run' 8 (by kernel_rfl) (by kernel_rfl)) (by kernel_rfl) (by kernel_rfl)

end Go.Proofs.YtalcgmhdgegebaaDoor
