/-
  Slices of blocks of sixteen bytes: made of given blocks, and read. No conditions beyond those written in each theorem.
-/
import Derived.Test.YtmgopjeaehmbfaaDoorOpen
import Derived.Test.YtmgopjeaehmbfaaDoorTypes
namespace Go.Proofs.YtmgopjeaehmbfaaDoor
open Go Go.RowKit
set_option maxRecDepth 100000
set_option linter.unusedVariables false
set_option linter.unusedSimpArgs false

instance elemK : Elem Tryd.prog 27 16 16 := Elem.of (by kernel_rfl) (by omega)
/-- A slice of these blocks. -/
def KeysS (ks : List (List Byte)) : Slot := fun v w => ∃ p c, v = .slice p ks.length c ∧ ks.length ≤ c ∧ RdK w p 16 ks
theorem KeysS.stable (ks : List (List Byte)) : Stable (KeysS ks) := fun _ _ _ ⟨p, c, h1, h2, h3⟩ hx => ⟨p, c, h1, h2, h3.ext hx⟩
theorem keys_new (w : World) (e : TypeId) (ks : List (List Byte)) (h : ∀ k ∈ ks, k.length = 16) : KeysS ks (.slice (some ⟨w.heap.size, 0, none⟩) ks.length ks.length) (w.alloc (.cells (catV ks).toArray e)) :=
  ⟨_, _, rfl, Nat.le_refl _, h, RdB.of_row (row_new w e (catV ks))⟩
theorem len16 (b : List Byte) (h : b.length = 16) : ∃ x0 x1 x2 x3 x4 x5 x6 x7 x8 x9 x10 x11 x12 x13 x14 x15, b = [x0, x1, x2, x3, x4, x5, x6, x7, x8, x9, x10, x11, x12, x13, x14, x15] := by
  match b, h with
  | [x0, x1, x2, x3, x4, x5, x6, x7, x8, x9, x10, x11, x12, x13, x14, x15], _ => exact ⟨x0, x1, x2, x3, x4, x5, x6, x7, x8, x9, x10, x11, x12, x13, x14, x15, rfl⟩
theorem slo_rdK {w0 w : World} {M R : List Blk} {p : Option Addr} {n c : Nat} {e : TypeId} {ks : List (List Byte)} (h : SlO M e 16 (.slice p n c) n (catV ks)) (hk : ∀ k ∈ ks, k.length = 16) (hm : Own w0 w (M ++ R)) : RdK w p 16 ks ∧ n = ks.length ∧ n ≤ c := by
  have hl := h.1
  rw [catV_length 16 ks hk] at hl
  obtain ⟨_, _, hv, hnc, _, h0, hcell⟩ := h.cells hm
  cases hv
  have hn : n = ks.length := by omega
  refine ⟨⟨hk, fun hp => h0 ?_, fun i hi => ?_⟩, hn, hnc⟩
  · rcases Nat.eq_zero_or_pos ks.length with h1 | h1
    · rw [List.eq_nil_of_length_eq_zero h1] at hp; simp at hp
    · omega
  · obtain ⟨a, rfl, ha⟩ := hcell i (v8 (ks.flatten.getD i 0)) (by rw [catV, List.getElem?_map, List.getElem?_eq_getElem hi, List.getD_eq_getElem?_getD, List.getElem?_eq_getElem hi]; rfl)
    exact ha
theorem bs_run1 (a : List Byte) (ha : a.length = 16) (w : World) : (Instr.buildSlice 99 1 #[(0, A8 a)]).run Tryd.prog w = .ok (.slice (some ⟨w.heap.size, 0, none⟩) 1 1) (w.alloc (.cells (catV [a]).toArray 27)) := by
  obtain ⟨a0, a1, a2, a3, a4, a5, a6, a7, a8, a9, a10, a11, a12, a13, a14, a15, rfl⟩ := len16 a ha
  kernel_rfl
theorem bs_run2 (a b : List Byte) (ha : a.length = 16) (hb : b.length = 16) (w : World) : (Instr.buildSlice 99 2 #[(0, A8 a), (1, A8 b)]).run Tryd.prog w = .ok (.slice (some ⟨w.heap.size, 0, none⟩) 2 2) (w.alloc (.cells (catV [a, b]).toArray 27)) := by
  obtain ⟨a0, a1, a2, a3, a4, a5, a6, a7, a8, a9, a10, a11, a12, a13, a14, a15, rfl⟩ := len16 a ha
  obtain ⟨b0, b1, b2, b3, b4, b5, b6, b7, b8, b9, b10, b11, b12, b13, b14, b15, rfl⟩ := len16 b hb
  kernel_rfl
theorem bs_run4 (a b c d : List Byte) (ha : a.length = 16) (hb : b.length = 16) (hc : c.length = 16) (hd : d.length = 16) (w : World) : (Instr.buildSlice 99 4 #[(0, A8 a), (1, A8 b), (2, A8 c), (3, A8 d)]).run Tryd.prog w = .ok (.slice (some ⟨w.heap.size, 0, none⟩) 4 4) (w.alloc (.cells (catV [a, b, c, d]).toArray 27)) := by
  obtain ⟨a0, a1, a2, a3, a4, a5, a6, a7, a8, a9, a10, a11, a12, a13, a14, a15, rfl⟩ := len16 a ha
  obtain ⟨b0, b1, b2, b3, b4, b5, b6, b7, b8, b9, b10, b11, b12, b13, b14, b15, rfl⟩ := len16 b hb
  obtain ⟨c0, c1, c2, c3, c4, c5, c6, c7, c8, c9, c10, c11, c12, c13, c14, c15, rfl⟩ := len16 c hc
  obtain ⟨d0, d1, d2, d3, d4, d5, d6, d7, d8, d9, d10, d11, d12, d13, d14, d15, rfl⟩ := len16 d hd
  kernel_rfl
section
variable {P : Program} {ops : Array Oper} {Q : Exit → Act → World → Prop} {rest : List Oper} {dst : Option Tmp} {ty : TypeId} {pos : String} {aft : Array Edge} {gd : Option (Nat × Bool)} {a : Act} {w0 w : World} {L : List Blk} {T e : TypeId}
theorem gq_bs1 {u0 : Value} {x0 : Operand} {ks : List (List Byte)} (hk : ∀ k ∈ ks, k.length = 16) (hb : (Instr.buildSlice T 1 #[(0, u0)]).run P w = .ok (.slice (some ⟨w.heap.size, 0, none⟩) ks.length ks.length) (w.alloc (.cells (catV ks).toArray e))) (hx0 : a.eval x0 = u0) : gives P w (KeysS ks) ((execOp a.eval (Oper.mk dst (.buildSlice T 1 #[(0, x0)]) ty pos aft gd)).run P w) := by
  unfold execOp
  simp [hx0, hb]
  exact gives_val (Ext.alloc (Ext.refl _) _) (keys_new w e ks hk)
theorem wq_bs1 {u0 : Value} {x0 : Operand} {ks : List (List Byte)} (hm : Own w0 w L) (hb : (Instr.buildSlice T 1 #[(0, u0)]).run P w = .ok (.slice (some ⟨w.heap.size, 0, none⟩) 1 1) (w.alloc (.cells (catV ks).toArray e))) (hgd : Region.wanted (Oper.mk dst (.buildSlice T 1 #[(0, x0)]) ty pos aft gd) (yielded ops a.tmps) = true) (hx0 : a.eval x0 = u0) (hr : ∀ g w', Own w0 w' (⟨g, e, catV ks⟩ :: L) → wpList P ops Q rest (a.put dst (.slice (some ⟨g, 0, none⟩) 1 1)) w') : wpList P ops Q ((Oper.mk dst (.buildSlice T 1 #[(0, x0)]) ty pos aft gd) :: rest) a w :=
  wpList_want hgd fun K hK => by
    unfold Oper.wp execOp
    simp [hx0, hb, Sem.run_bind, Result.andThen_ok, Sem.run_pure]
    exact hK _ _ (hr _ _ (hm.alloc e (catV ks)))
theorem gq_bs2 {u0 u1 : Value} {x0 x1 : Operand} {ks : List (List Byte)} (hk : ∀ k ∈ ks, k.length = 16) (hb : (Instr.buildSlice T 2 #[(0, u0), (1, u1)]).run P w = .ok (.slice (some ⟨w.heap.size, 0, none⟩) ks.length ks.length) (w.alloc (.cells (catV ks).toArray e))) (hx0 : a.eval x0 = u0) (hx1 : a.eval x1 = u1) : gives P w (KeysS ks) ((execOp a.eval (Oper.mk dst (.buildSlice T 2 #[(0, x0), (1, x1)]) ty pos aft gd)).run P w) := by
  unfold execOp
  simp [hx0, hx1, hb]
  exact gives_val (Ext.alloc (Ext.refl _) _) (keys_new w e ks hk)
theorem wq_bs2 {u0 u1 : Value} {x0 x1 : Operand} {ks : List (List Byte)} (hm : Own w0 w L) (hb : (Instr.buildSlice T 2 #[(0, u0), (1, u1)]).run P w = .ok (.slice (some ⟨w.heap.size, 0, none⟩) 2 2) (w.alloc (.cells (catV ks).toArray e))) (hgd : Region.wanted (Oper.mk dst (.buildSlice T 2 #[(0, x0), (1, x1)]) ty pos aft gd) (yielded ops a.tmps) = true) (hx0 : a.eval x0 = u0) (hx1 : a.eval x1 = u1) (hr : ∀ g w', Own w0 w' (⟨g, e, catV ks⟩ :: L) → wpList P ops Q rest (a.put dst (.slice (some ⟨g, 0, none⟩) 2 2)) w') : wpList P ops Q ((Oper.mk dst (.buildSlice T 2 #[(0, x0), (1, x1)]) ty pos aft gd) :: rest) a w :=
  wpList_want hgd fun K hK => by
    unfold Oper.wp execOp
    simp [hx0, hx1, hb, Sem.run_bind, Result.andThen_ok, Sem.run_pure]
    exact hK _ _ (hr _ _ (hm.alloc e (catV ks)))
theorem gq_bs4 {u0 u1 u2 u3 : Value} {x0 x1 x2 x3 : Operand} {ks : List (List Byte)} (hk : ∀ k ∈ ks, k.length = 16) (hb : (Instr.buildSlice T 4 #[(0, u0), (1, u1), (2, u2), (3, u3)]).run P w = .ok (.slice (some ⟨w.heap.size, 0, none⟩) ks.length ks.length) (w.alloc (.cells (catV ks).toArray e))) (hx0 : a.eval x0 = u0) (hx1 : a.eval x1 = u1) (hx2 : a.eval x2 = u2) (hx3 : a.eval x3 = u3) : gives P w (KeysS ks) ((execOp a.eval (Oper.mk dst (.buildSlice T 4 #[(0, x0), (1, x1), (2, x2), (3, x3)]) ty pos aft gd)).run P w) := by
  unfold execOp
  simp [hx0, hx1, hx2, hx3, hb]
  exact gives_val (Ext.alloc (Ext.refl _) _) (keys_new w e ks hk)
theorem wq_bs4 {u0 u1 u2 u3 : Value} {x0 x1 x2 x3 : Operand} {ks : List (List Byte)} (hm : Own w0 w L) (hb : (Instr.buildSlice T 4 #[(0, u0), (1, u1), (2, u2), (3, u3)]).run P w = .ok (.slice (some ⟨w.heap.size, 0, none⟩) 4 4) (w.alloc (.cells (catV ks).toArray e))) (hgd : Region.wanted (Oper.mk dst (.buildSlice T 4 #[(0, x0), (1, x1), (2, x2), (3, x3)]) ty pos aft gd) (yielded ops a.tmps) = true) (hx0 : a.eval x0 = u0) (hx1 : a.eval x1 = u1) (hx2 : a.eval x2 = u2) (hx3 : a.eval x3 = u3) (hr : ∀ g w', Own w0 w' (⟨g, e, catV ks⟩ :: L) → wpList P ops Q rest (a.put dst (.slice (some ⟨g, 0, none⟩) 4 4)) w') : wpList P ops Q ((Oper.mk dst (.buildSlice T 4 #[(0, x0), (1, x1), (2, x2), (3, x3)]) ty pos aft gd) :: rest) a w :=
  wpList_want hgd fun K hK => by
    unfold Oper.wp execOp
    simp [hx0, hx1, hx2, hx3, hb, Sem.run_bind, Result.andThen_ok, Sem.run_pure]
    exact hK _ _ (hr _ _ (hm.alloc e (catV ks)))
end

end Go.Proofs.YtmgopjeaehmbfaaDoor
