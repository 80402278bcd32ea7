/-
  A slice of ten blocks of sixteen bytes. No conditions beyond those written in each theorem.
-/
import Derived.Test.YtiopgmnilchjkaaDoorKs
namespace Go.Proofs.YtiopgmnilchjkaaDoor
open Go Go.RowKit
set_option maxRecDepth 100000
set_option linter.unusedVariables false
set_option linter.unusedSimpArgs false

set_option maxHeartbeats 4000000 in
theorem bs_run10 (a b c d e f g h i j : List Byte) (ha : a.length = 16) (hb : b.length = 16) (hc : c.length = 16) (hd : d.length = 16) (he : e.length = 16) (hf : f.length = 16) (hg : g.length = 16) (hh : h.length = 16) (hi : i.length = 16) (hj : j.length = 16) (w : World) : (Instr.buildSlice 87 10 #[(0, A8 a), (1, A8 b), (2, A8 c), (3, A8 d), (4, A8 e), (5, A8 f), (6, A8 g), (7, A8 h), (8, A8 i), (9, A8 j)]).run Tryd.prog w = .ok (.slice (some ⟨w.heap.size, 0, none⟩) 10 10) (w.alloc (.cells (catV [a, b, c, d, e, f, g, h, i, j]).toArray 32)) := by
  obtain ⟨a0, a1, a2, a3, a4, a5, a6, a7, a8, a9, a10, a11, a12, a13, a14, a15, rfl⟩ := len16 a ha
  obtain ⟨b0, b1, b2, b3, b4, b5, b6, b7, b8, b9, b10, b11, b12, b13, b14, b15, rfl⟩ := len16 b hb
  obtain ⟨c0, c1, c2, c3, c4, c5, c6, c7, c8, c9, c10, c11, c12, c13, c14, c15, rfl⟩ := len16 c hc
  obtain ⟨d0, d1, d2, d3, d4, d5, d6, d7, d8, d9, d10, d11, d12, d13, d14, d15, rfl⟩ := len16 d hd
  obtain ⟨e0, e1, e2, e3, e4, e5, e6, e7, e8, e9, e10, e11, e12, e13, e14, e15, rfl⟩ := len16 e he
  obtain ⟨f0, f1, f2, f3, f4, f5, f6, f7, f8, f9, f10, f11, f12, f13, f14, f15, rfl⟩ := len16 f hf
  obtain ⟨g0, g1, g2, g3, g4, g5, g6, g7, g8, g9, g10, g11, g12, g13, g14, g15, rfl⟩ := len16 g hg
  obtain ⟨h0, h1, h2, h3, h4, h5, h6, h7, h8, h9, h10, h11, h12, h13, h14, h15, rfl⟩ := len16 h hh
  obtain ⟨i0, i1, i2, i3, i4, i5, i6, i7, i8, i9, i10, i11, i12, i13, i14, i15, rfl⟩ := len16 i hi
  obtain ⟨j0, j1, j2, j3, j4, j5, j6, j7, j8, j9, j10, j11, j12, j13, j14, j15, rfl⟩ := len16 j hj
  kernel_rfl
section
variable {P : Program} {dst : Option Tmp} {ty : TypeId} {pos : String} {aft : Array Edge} {gd : Option (Nat × Bool)} {a : Act} {w : World} {T e : TypeId}
theorem gq_bs10 {u0 u1 u2 u3 u4 u5 u6 u7 u8 u9 : Value} {x0 x1 x2 x3 x4 x5 x6 x7 x8 x9 : Operand} {ks : List (List Byte)} (hk : ∀ k ∈ ks, k.length = 16) (hb : (Instr.buildSlice T 10 #[(0, u0), (1, u1), (2, u2), (3, u3), (4, u4), (5, u5), (6, u6), (7, u7), (8, u8), (9, u9)]).run P w = .ok (.slice (some ⟨w.heap.size, 0, none⟩) ks.length ks.length) (w.alloc (.cells (catV ks).toArray e))) (hx0 : a.eval x0 = u0) (hx1 : a.eval x1 = u1) (hx2 : a.eval x2 = u2) (hx3 : a.eval x3 = u3) (hx4 : a.eval x4 = u4) (hx5 : a.eval x5 = u5) (hx6 : a.eval x6 = u6) (hx7 : a.eval x7 = u7) (hx8 : a.eval x8 = u8) (hx9 : a.eval x9 = u9) : gives P w (KeysS ks) ((execOp a.eval (Oper.mk dst (.buildSlice T 10 #[(0, x0), (1, x1), (2, x2), (3, x3), (4, x4), (5, x5), (6, x6), (7, x7), (8, x8), (9, x9)]) ty pos aft gd)).run P w) := by
  unfold execOp
  simp [hx0, hx1, hx2, hx3, hx4, hx5, hx6, hx7, hx8, hx9, hb]
  exact gives_val (Ext.alloc (Ext.refl _) _) (keys_new w e ks hk)
end

end Go.Proofs.YtiopgmnilchjkaaDoor
