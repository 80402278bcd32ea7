/-
  Slices of none and of one cell, built, as blocks of the call's own. No conditions beyond those written in each theorem.
-/
import Derived.Test.YtmclklhnbmkheaaDoorOpen
import Derived.Test.YtmclklhnbmkheaaDoorTypes
namespace Go.Proofs.YtmclklhnbmkheaaDoor
open Go Go.RowKit
set_option maxRecDepth 100000
set_option linter.unusedVariables false
set_option linter.unusedSimpArgs false

section
variable {P : Program} {ops : Array Oper} {Q : Exit → Act → World → Prop} {rest : List Oper} {dst : Option Tmp} {ty : TypeId} {pos : String} {aft : Array Edge} {gd : Option (Nat × Bool)} {a : Act} {w0 w : World} {L : List Blk} {T e : TypeId}
theorem wq_bs0 (hb : ∀ w, (Instr.buildSlice T 0 #[]).run P w = .ok (.slice (some ⟨w.heap.size, 0, none⟩) 0 0) (w.alloc (.cells ([] : List Value).toArray e))) (hm : Own w0 w L) (hgd : Region.wanted (Oper.mk dst (.buildSlice T 0 #[]) ty pos aft gd) (yielded ops a.tmps) = true) (hr : ∀ g w', Own w0 w' (⟨g, e, []⟩ :: L) → wpList P ops Q rest (a.put dst (.slice (some ⟨g, 0, none⟩) 0 0)) w') : wpList P ops Q ((Oper.mk dst (.buildSlice T 0 #[]) ty pos aft gd) :: rest) a w :=
  wpList_want hgd fun K hK => by
    unfold Oper.wp execOp
    have h := hb w
    simp [h, Sem.run_bind, Result.andThen_ok, Sem.run_pure]
    exact hK _ _ (hr _ _ (hm.alloc e []))
theorem wq_bs1c {u : Value} {x : Operand} (hb : ∀ w, (Instr.buildSlice T 1 #[(0, u)]).run P w = .ok (.slice (some ⟨w.heap.size, 0, none⟩) 1 1) (w.alloc (.cells [u].toArray e))) (hm : Own w0 w L) (hgd : Region.wanted (Oper.mk dst (.buildSlice T 1 #[(0, x)]) ty pos aft gd) (yielded ops a.tmps) = true) (hx : a.eval x = u) (hr : ∀ g w', Own w0 w' (⟨g, e, [u]⟩ :: L) → wpList P ops Q rest (a.put dst (.slice (some ⟨g, 0, none⟩) 1 1)) w') : wpList P ops Q ((Oper.mk dst (.buildSlice T 1 #[(0, x)]) ty pos aft gd) :: rest) a w :=
  wpList_want hgd fun K hK => by
    unfold Oper.wp execOp
    have h := hb w
    simp [hx, h, Sem.run_bind, Result.andThen_ok, Sem.run_pure]
    exact hK _ _ (hr _ _ (hm.alloc e [u]))
end
theorem bs0_b (w : World) : (Instr.buildSlice 22 0 #[]).run Tryd.prog w = .ok (.slice (some ⟨w.heap.size, 0, none⟩) 0 0) (w.alloc (.cells ([] : List Value).toArray 5)) := by kernel_rfl
theorem bs1_b (x : Byte) (w : World) : (Instr.buildSlice 22 1 #[(0, v8 x)]).run Tryd.prog w = .ok (.slice (some ⟨w.heap.size, 0, none⟩) 1 1) (w.alloc (.cells [v8 x].toArray 5)) := by kernel_rfl
theorem bs1_128 (w : World) : (Instr.buildSlice 22 1 #[(0, .int .u8 128)]).run Tryd.prog w = .ok (.slice (some ⟨w.heap.size, 0, none⟩) 1 1) (w.alloc (.cells [v8 128#8].toArray 5)) := by kernel_rfl
/-- A slice of none of a block's cells. -/
theorem slo_room0 (g : Nat) (e : TypeId) (sz : Nat) : SlO [⟨g, e, []⟩] e sz (.slice (some ⟨g, 0, none⟩) 0 0) 0 [] := SlO.room g e sz 0 [] (by simp) (by decide)
/-- The cells of bytes of which a reading is known. -/
theorem cellsB {w : World} {p : Option Addr} {b : List Byte} (h : RdB w p b) : ∀ (j : Nat) (u : Value), (b.map v8)[j]? = some u → ∃ a, p = some a ∧ w.cell? (a.add j) = some u := by
  intro j u hj
  rw [List.getElem?_map] at hj
  obtain ⟨x, hx, rfl⟩ := Option.map_eq_some_iff.1 hj
  obtain ⟨hlt, hx'⟩ := List.getElem?_eq_some_iff.1 hx
  obtain ⟨a, rfl⟩ := Option.isSome_iff_exists.1 (h.1 (by omega))
  refine ⟨a, rfl, ?_⟩
  have := h.2 j hlt
  simp only [Option.getD_some] at this
  rw [this, List.getD_eq_getElem?_getD, hx]; rfl
theorem slo_bytes {w0 w : World} {M R : List Blk} {p : Option Addr} {n c : Nat} {e : TypeId} {l : List Byte} (h : SlO M e 1 (.slice p n c) n (l.map v8)) (hm : Own w0 w (M ++ R)) : RdB w p l ∧ n = l.length ∧ n ≤ c := by
  have hl := h.1
  rw [List.length_map, Nat.mul_one] at hl
  obtain ⟨_, _, hv, hnc, _, h0, hcell⟩ := h.cells hm
  cases hv
  refine ⟨⟨fun hp => h0 (by omega), fun i hi => ?_⟩, hl.symm, hnc⟩
  obtain ⟨a, rfl, ha⟩ := hcell i (v8 (l.getD i 0)) (by rw [List.getElem?_map, List.getElem?_eq_getElem hi, List.getD_eq_getElem?_getD, List.getElem?_eq_getElem hi]; rfl)
  exact ha
instance elemB : Elem Tryd.prog 5 1 1 := Elem.of (by kernel_rfl) (by omega)

end Go.Proofs.YtmclklhnbmkheaaDoor
