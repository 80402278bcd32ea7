/-
  What a datum tells of an array's cells: an array of numbers, of 64 bits too, and an array of arrays. No conditions.
  Layers 15 on: what the listed variables of a statement give: the first numbers, the rows and the coefficients lie as the program's text lays them. Conditions: as the rows list them.
-/
import Derived.Test.YtaijfigohlkccaaGreatDoorZTinyTurns0
import Derived.Test.YtaijfigohlkccaaGreatDoorZTinyTurns7
import Derived.ProofKit
import Derived.LaidMore
import Derived.OpenShut
import Derived.Stop.Joined
import Derived.Test.YtaijfigohlkccaaGreatDoorRows
import Derived.Test.YtaijfigohlkccaaGreatDoorZTinyTurns10
namespace Go.Proofs.YtaijfigohlkccaaGreatDoor
open Go Go.ChangeShapes Go.WideShapes Go.ChangeAt Go.WideMaps Go.WideElems Go.RowKit
set_option linter.unusedVariables false
set_option linter.unusedSimpArgs false

theorem cells_ints {H : Type} {enc : TypeId × Value → H} {P : Program} {w : World} {base : Nat} {spare : Nat → Bool} {held : Bool} {fuel : Nat} {t e : TypeId} {n : Nat} {k : IntKind} {cs : List Value} {ns : List Int} {q : List MemPlace}
    (ht : P.underlying t = some (.array n e)) (he : P.underlying e = some (.int k)) (hc : P.cellsOf e = 1) (hm : P.cellsOf t = n)
    (h : DataW.trod enc P w base spare held fuel t cs = some (.agg (ns.map fun i => .lit (.int k i)), q)) : cs = ns.map fun i => .int k i := by
  obtain ⟨xs, m, _, hx, hl, hn, hel⟩ := DataW.trod_array ht h
  have hx1 : ns.map (fun i => DataW.lit (H := H) (.int k i)) = xs.map (·.1) := by
    have := congrArg Prod.fst hx
    simpa using this
  have hln : ns.length = n := by have := congrArg List.length hx1; simp only [List.length_map] at this; omega
  rw [hm] at hl
  apply List.ext_getElem?
  intro i
  by_cases hi : i < n
  · have hx' := hel i hi
    rw [hc, Nat.mul_one, List.getElem?_eq_getElem (by omega)] at hx'
    obtain ⟨n0, e1, e2, _⟩ := DataW.trod_int he hx'
    have a1 : cs[i]? = some (.int k n0) := by
      have := congrArg (·[0]?) e1
      simpa [List.getElem?_take, List.getElem?_drop] using this
    have a2 := congrArg (·[i]?) hx1
    simp only [List.getElem?_map, List.getElem?_eq_getElem (show i < xs.length by omega), List.getElem?_eq_getElem (show i < ns.length by omega), Option.map_some, e2, Option.some.injEq] at a2
    injection a2 with a3
    injection a3 with _ a4
    rw [a1, List.getElem?_map, List.getElem?_eq_getElem (show i < ns.length by omega), Option.map_some, a4]
  · rw [List.getElem?_eq_none (by omega), List.getElem?_eq_none (by simp; omega)]
theorem cells_rows {H : Type} {enc : TypeId × Value → H} {P : Program} {w : World} {base : Nat} {spare : Nat → Bool} {held : Bool} {fuel : Nat} {t e b : TypeId} {n m : Nat} {k : IntKind} {cs : List Value} {rs : List (List Int)} {q : List MemPlace}
    (ht : P.underlying t = some (.array n e)) (he : P.underlying e = some (.array m b)) (hb : P.underlying b = some (.int k)) (hcb : P.cellsOf b = 1) (hce : P.cellsOf e = m)
    (h : DataW.trod enc P w base spare held fuel t cs = some (.agg (rs.map fun r => .agg (r.map fun i => .lit (.int k i))), q)) : ∀ i, i < n → (cs.drop (i * m)).take m = (rs.getD i []).map fun i => .int k i := by
  obtain ⟨xs, m', _, hx, hl, hn, hel⟩ := DataW.trod_array ht h
  have hx1 : (rs.map fun r => DataW.agg (H := H) (r.map fun i => .lit (.int k i))) = xs.map (·.1) := by
    have := congrArg Prod.fst hx
    simpa using this
  have hln : rs.length = n := by have := congrArg List.length hx1; simp only [List.length_map] at this; omega
  intro i hi
  have hx' := hel i hi
  rw [hce, List.getElem?_eq_getElem (by omega)] at hx'
  have a2 := congrArg (·[i]?) hx1
  simp only [List.getElem?_map, List.getElem?_eq_getElem (show i < xs.length by omega), List.getElem?_eq_getElem (show i < rs.length by omega), Option.map_some, Option.some.injEq] at a2
  have hx2 : xs[i] = (DataW.agg (rs[i].map fun i => .lit (.int k i)), xs[i].2) := by rw [a2]
  rw [hx2] at hx'
  rw [List.getD_eq_getElem?_getD, List.getElem?_eq_getElem (show i < rs.length by omega), Option.getD_some]
  exact cells_ints he hb hcb hce hx'

theorem gFirst : Tryz.prog.globalNamed "wringer/blake.first" = some 2 := by kernel_rfl
theorem gRows : Tryz.prog.globalNamed "wringer/blake.rows" = some 3 := by kernel_rfl
theorem tFirst : (Tryz.prog.globals[2]?).map (·.type) = some 124 := by kernel_rfl
theorem tRows : (Tryz.prog.globals[3]?).map (·.type) = some 179 := by kernel_rfl
def firstN : List Int := [7640891576956012808, 13503953896175478587, 4354685564936845355, 11912009170470909681, 5840696475078001361, 11170449401992604703, 2270897969802886507, 6620516959819538809]
def rowsN : List (List Int) := rowsL.map fun r => r.map fun x => (x.toNat : Int)
theorem firstN_v : (firstN.map fun i => Value.int .u64 i) = firstL.map v64 := rfl
theorem rowsN_v (i : Nat) (hi : i < 10) : (rowsN.getD i []).map (fun i => Value.int .u8 i) = (rowsL.getD i []).map v8 := by
  rw [rowsN, List.getD_eq_getElem?_getD, List.getElem?_map, List.getD_eq_getElem?_getD, List.getElem?_eq_getElem (by rw [rowsL_length]; exact hi)]
  simp only [Option.map_some, Option.getD_some, List.map_map]
  rfl
/-- The two variables, as their cells tell. -/
theorem coefB_of {W : World} {cs0 cs1 : List Value} (h0 : ∀ i, W.cell? ⟨2, i, none⟩ = cs0[i]?) (h1 : ∀ i, W.cell? ⟨3, i, none⟩ = cs1[i]?) (c0 : cs0 = firstN.map fun i => Value.int .u64 i) (c1 : ∀ i, i < 10 → (cs1.drop (i * 16)).take 16 = (rowsN.getD i []).map fun i => Value.int .u8 i) : CoefB W := by
  refine ⟨fun i hi => ?_, rowsL_each, fun _ => rfl, fun i hi => ?_⟩
  · rw [h0, c0, firstN_v, map64_at firstL (by rw [firstL_length]; exact hi)]
  · have hl := flatten_length 16 rowsL rowsL_each
    rw [rowsL_length] at hl
    have hq : i / 16 < 10 := by omega
    have hr : i % 16 < 16 := Nat.mod_lt _ (by omega)
    have e : i / 16 * 16 + i % 16 = i := by omega
    show W.cell? ((⟨3, 0, none⟩ : Addr).add i) = _
    rw [Addr.add_mid, Nat.zero_add, h1]
    have hc := congrArg (·[i % 16]?) ((c1 (i / 16) hq).trans (rowsN_v _ hq))
    simp only [List.getElem?_take, if_pos hr, List.getElem?_drop] at hc
    rw [e] at hc
    have hf := flatten_getD 16 rowsL (i / 16) (i % 16) rowsL_each (by rw [rowsL_length]; exact hq) hr
    rw [e] at hf
    have hle : ((rowsL.getD (i / 16) []).length) = 16 := by
      rw [List.getD_eq_getElem?_getD, List.getElem?_eq_getElem (by rw [rowsL_length]; exact hq)]
      exact rowsL_each _ (List.getElem_mem _)
    generalize rowsL.getD (i / 16) [] = RW at *
    rw [hc, hf, List.getElem?_map, List.getD_eq_getElem?_getD, List.getElem?_eq_getElem (show i % 16 < RW.length by omega)]
    rfl

end Go.Proofs.YtaijfigohlkccaaGreatDoor
namespace Go.Proofs.YtaijfigohlkccaaGreatDoor
open Go Go.ChangeShapes Go.WideShapes Go.ChangeAt Go.WideMaps Go.WideElems Go.RowKit
set_option linter.unusedVariables false
set_option linter.unusedSimpArgs false

def laidA : List (String × DataW Unit) := [("wringer/blake.first", Rows.laid_wringer_blake_first), ("wringer/blake.rows", Rows.laid_wringer_blake_rows), ("wringer/turn.mixes", Rows.laid_wringer_turn_mixes), ("wringer/turn.unmixes", Rows.laid_wringer_turn_unmixes)]
theorem gMixes : Tryz.prog.globalNamed "wringer/turn.mixes" = some 0 := by kernel_rfl
theorem gUnmixes : Tryz.prog.globalNamed "wringer/turn.unmixes" = some 1 := by kernel_rfl
theorem tMixes : (Tryz.prog.globals[0]?).map (·.type) = some 107 := by kernel_rfl
theorem tUnmixes : (Tryz.prog.globals[1]?).map (·.type) = some 107 := by kernel_rfl
theorem laid_coefA {W : World} (h : laidMetH Tryz.prog laidA W) : Coef W ∧ CoefB W := by
  rw [MakeChecks.laidMetH_plain _ _ _ (by kernel_rfl)] at h
  obtain ⟨ps, ⟨g0, t0, cs0, f0, p0, q0, hg0, ht0, hv0, hd0, ⟨g1, t1, cs1, f1, p1, q1, hg1, ht1, hv1, hd1, ⟨g2, t2, cs2, f2, p2, q2, hg2, ht2, hv2, hd2, ⟨g3, t3, cs3, f3, p3, q3, hg3, ht3, hv3, hd3, _, _⟩, _⟩, _⟩, _⟩, _, _⟩ := h
  obtain rfl := Option.some.inj (gFirst.symm.trans hg0)
  obtain rfl := Option.some.inj (gRows.symm.trans hg1)
  obtain rfl := Option.some.inj (gMixes.symm.trans hg2)
  obtain rfl := Option.some.inj (gUnmixes.symm.trans hg3)
  obtain rfl := Option.some.inj (tFirst.symm.trans ht0)
  obtain rfl := Option.some.inj (tRows.symm.trans ht1)
  obtain rfl := Option.some.inj (tMixes.symm.trans ht2)
  obtain rfl := Option.some.inj (tUnmixes.symm.trans ht3)
  obtain ⟨l0⟩ := cs0
  obtain ⟨l1⟩ := cs1
  obtain ⟨l2⟩ := cs2
  obtain ⟨l3⟩ := cs3
  have c0 := cells_ints (ns := firstN) Tryz.underlying124 Tryz.underlying123 (by kernel_rfl) (by kernel_rfl) hd0
  have c1 := cells_rows (rs := rowsN) Tryz.underlying179 Tryz.underlying36 Tryz.underlying5 (by kernel_rfl) (by kernel_rfl) hd1
  have c2 := cells_ints (ns := [2, 3, 1, 1]) Tryz.underlying107 Tryz.underlying5 (by kernel_rfl) (by kernel_rfl) hd2
  have c3 := cells_ints (ns := [14, 11, 13, 9]) Tryz.underlying107 Tryz.underlying5 (by kernel_rfl) (by kernel_rfl) hd3
  refine ⟨?_, coefB_of (fun i => by have := World.var?_cell hg0 hv0 i; simpa using this) (fun i => by have := World.var?_cell hg1 hv1 i; simpa using this) c0 c1⟩
  simp only at c2 c3
  subst c2 c3
  refine ⟨⟨fun _ => rfl, fun i hi => ?_⟩, ⟨fun _ => rfl, fun i hi => ?_⟩⟩
  · show W.cell? ((⟨0, 0, none⟩ : Addr).add i) = _
    rw [Addr.add_mid, Nat.zero_add, World.var?_cell hg2 hv2 i]
    rcases (show i = 0 ∨ i = 1 ∨ i = 2 ∨ i = 3 by simp [mixesL] at hi; omega) with rfl | rfl | rfl | rfl <;> rfl
  · show W.cell? ((⟨1, 0, none⟩ : Addr).add i) = _
    rw [Addr.add_mid, Nat.zero_add, World.var?_cell hg3 hv3 i]
    rcases (show i = 0 ∨ i = 1 ∨ i = 2 ∨ i = 3 by simp [unmixesL] at hi; omega) with rfl | rfl | rfl | rfl <;> rfl

set_option maxRecDepth 100000 in
/-- The door's own heap meets the condition. -/
theorem door_metA (os : Os) (args : Array Value) : laidMetH Tryz.prog laidA ((World.doorLaid Tryz.prog 400 os).forCall (fun _ _ => 0) ⟨#[], args, []⟩).memory :=
  laidMetH_of_parts3 (fuel := 8) (laidMet_of_run' 8 (by kernel_rfl) (by kernel_rfl)) (by kernel_rfl) (by kernel_rfl)

end Go.Proofs.YtaijfigohlkccaaGreatDoor
