/-
  Slices of slices: from a place on, up to a place. Conditions: those written in each theorem.
-/
import Derived.Test.YtmclklhnbmkheaaDoorOpen
namespace Go.Proofs.YtmclklhnbmkheaaDoor
open Go Go.RowKit
set_option maxRecDepth 100000
set_option linter.unusedVariables false
set_option linter.unusedSimpArgs false

/-- Where a slice begins that is taken from a place on. (Behind a name: the walk must not split it.) -/
def slP (p : Option Addr) (c l : Nat) : Option Addr := if c = l then p else p.map (·.add l)
theorem addr_zero (a : Addr) : a.add 0 = a := by unfold Addr.add; split <;> simp_all
section
variable {P : Program} {ops : Array Oper} {Q : Exit → Act → World → Prop} {rest : List Oper} {dst : Option Tmp} {ty : TypeId} {pos : String} {aft : Array Edge} {gd : Option (Nat × Bool)} {a : Act} {w : World} {T e : TypeId} {x y z : Operand}
theorem run_slL (hT : P.underlying T = some (.slice e)) [hE : One1 P e] (p : Option Addr) (n c l : Nat) (hl : l ≤ n) (w : World) : (Instr.sliceAt T (.slice p n c) (some (.int .i64 (l : Int))) none none).run P w = .ok (.slice (slP p c l) (n - l) (c - l)) w := by
  obtain ⟨i, hi1, hi2⟩ := Option.map_eq_some_iff.1 hE.size
  simp [Instr.sliceAt, Instr.slice, Instr.sliceBounds, Instr.sliceBound, asIntOf, Sem.run_bind, run_underlying hT, sizeOf, typeInfo, hi1, hi2, hl, slP]
theorem run_slH (hT : P.underlying T = some (.slice e)) [hE : One1 P e] (p : Option Addr) (n c h : Nat) (hh : h ≤ c) (w : World) : (Instr.sliceAt T (.slice p n c) none (some (.int .i64 (h : Int))) none).run P w = .ok (.slice p h c) w := by
  obtain ⟨i, hi1, hi2⟩ := Option.map_eq_some_iff.1 hE.size
  simp [Instr.sliceAt, Instr.slice, Instr.sliceBounds, Instr.sliceBound, asIntOf, Sem.run_bind, run_underlying hT, sizeOf, typeInfo, hi1, hi2, hh]
  intro _
  cases p <;> simp [addr_zero]
theorem run_slLH (hT : P.underlying T = some (.slice e)) [hE : One1 P e] (p : Option Addr) (n c l h : Nat) (hl : l ≤ h) (hh : h ≤ c) (w : World) : (Instr.sliceAt T (.slice p n c) (some (.int .i64 (l : Int))) (some (.int .i64 (h : Int))) none).run P w = .ok (.slice (slP p c l) (h - l) (c - l)) w := by
  obtain ⟨i, hi1, hi2⟩ := Option.map_eq_some_iff.1 hE.size
  simp [Instr.sliceAt, Instr.slice, Instr.sliceBounds, Instr.sliceBound, asIntOf, Sem.run_bind, run_underlying hT, sizeOf, typeInfo, hi1, hi2, hl, hh, slP]
theorem gq_slL {p : Option Addr} {n c l r : Nat} (hT : P.underlying T = some (.slice e)) (hE : One1 P e) (hx : a.eval x = .slice p n c) (hy : a.eval y = .int .i64 (l : Int)) (hl : l ≤ n) (hr : n - l = r) : gives P w (Is (.slice (slP p c l) r (c - l))) ((execOp a.eval (Oper.mk dst (.slice T x (some y) none none) ty pos aft gd)).run P w) := by
  subst hr
  unfold execOp
  simp only [hx, hy, Sem.run_bind, run_slL hT p n c l hl w, Result.andThen_ok, Sem.run_pure, Option.map_some, Option.map_none]
  exact gives_same
theorem gq_slH {p : Option Addr} {n c h : Nat} (hT : P.underlying T = some (.slice e)) (hE : One1 P e) (hx : a.eval x = .slice p n c) (hy : a.eval y = .int .i64 (h : Int)) (hh : h ≤ c) : gives P w (Is (.slice p h c)) ((execOp a.eval (Oper.mk dst (.slice T x none (some y) none) ty pos aft gd)).run P w) := by
  unfold execOp
  simp only [hx, hy, Sem.run_bind, run_slH hT p n c h hh w, Result.andThen_ok, Sem.run_pure, Option.map_some, Option.map_none]
  exact gives_same
theorem gq_slLH {p : Option Addr} {n c l h r : Nat} (hT : P.underlying T = some (.slice e)) (hE : One1 P e) (hx : a.eval x = .slice p n c) (hy : a.eval y = .int .i64 (l : Int)) (hz : a.eval z = .int .i64 (h : Int)) (hl : l ≤ h) (hh : h ≤ c) (hr : h - l = r) : gives P w (Is (.slice (slP p c l) r (c - l))) ((execOp a.eval (Oper.mk dst (.slice T x (some y) (some z) none) ty pos aft gd)).run P w) := by
  subst hr
  unfold execOp
  simp only [hx, hy, hz, Sem.run_bind, run_slLH hT p n c l h hl hh w, Result.andThen_ok, Sem.run_pure, Option.map_some, Option.map_none]
  exact gives_same
theorem wq_slL {p : Option Addr} {n c l r : Nat} (hT : P.underlying T = some (.slice e)) (hE : One1 P e) (hgd : Region.wanted (Oper.mk dst (.slice T x (some y) none none) ty pos aft gd) (yielded ops a.tmps) = true) (hx : a.eval x = .slice p n c) (hy : a.eval y = .int .i64 (l : Int)) (hl : l ≤ n) (hr : n - l = r) (hk : wpList P ops Q rest (a.put dst (.slice (slP p c l) r (c - l))) w) : wpList P ops Q ((Oper.mk dst (.slice T x (some y) none none) ty pos aft gd) :: rest) a w :=
  wpList_want hgd fun K hK => by
    subst hr
    unfold Oper.wp execOp
    simp only [hx, hy, Sem.run_bind, run_slL hT p n c l hl w, Result.andThen_ok, Sem.run_pure, Option.map_some, Option.map_none]
    exact hK _ _ hk
theorem wq_slH {p : Option Addr} {n c h : Nat} (hT : P.underlying T = some (.slice e)) (hE : One1 P e) (hgd : Region.wanted (Oper.mk dst (.slice T x none (some y) none) ty pos aft gd) (yielded ops a.tmps) = true) (hx : a.eval x = .slice p n c) (hy : a.eval y = .int .i64 (h : Int)) (hh : h ≤ c) (hk : wpList P ops Q rest (a.put dst (.slice p h c)) w) : wpList P ops Q ((Oper.mk dst (.slice T x none (some y) none) ty pos aft gd) :: rest) a w :=
  wpList_want hgd fun K hK => by
    unfold Oper.wp execOp
    simp only [hx, hy, Sem.run_bind, run_slH hT p n c h hh w, Result.andThen_ok, Sem.run_pure, Option.map_some, Option.map_none]
    exact hK _ _ hk
theorem wq_slLH {p : Option Addr} {n c l h r : Nat} (hT : P.underlying T = some (.slice e)) (hE : One1 P e) (hgd : Region.wanted (Oper.mk dst (.slice T x (some y) (some z) none) ty pos aft gd) (yielded ops a.tmps) = true) (hx : a.eval x = .slice p n c) (hy : a.eval y = .int .i64 (l : Int)) (hz : a.eval z = .int .i64 (h : Int)) (hl : l ≤ h) (hh : h ≤ c) (hr : h - l = r) (hk : wpList P ops Q rest (a.put dst (.slice (slP p c l) r (c - l))) w) : wpList P ops Q ((Oper.mk dst (.slice T x (some y) (some z) none) ty pos aft gd) :: rest) a w :=
  wpList_want hgd fun K hK => by
    subst hr
    unfold Oper.wp execOp
    simp only [hx, hy, hz, Sem.run_bind, run_slLH hT p n c l h hl hh w, Result.andThen_ok, Sem.run_pure, Option.map_some, Option.map_none]
    exact hK _ _ hk
end
/-- Bytes behind a place, and from a place up to another. -/
theorem RdB.slL {w : World} {p : Option Addr} {L : List Byte} (h : RdB w p L) (c l : Nat) (hc : L.length ≤ c) : RdB w (slP p c l) (L.drop l) := by
  unfold slP
  by_cases e : c = l
  · have : L.drop l = [] := List.drop_eq_nil_of_le (by omega)
    rw [this]; exact RdB.nil _ _
  · rw [if_neg e]
    cases p with
    | none =>
      have : L = [] := RdB.none h
      subst this
      rw [List.drop_nil]; exact RdB.nil _ _
    | some a =>
      refine ⟨fun _ => rfl, fun i hi => ?_⟩
      rw [List.length_drop] at hi
      have e : (a.add l).add i = a.add (l + i) := by unfold Addr.add; split <;> split <;> simp_all <;> omega
      simp only [Option.map, Option.getD_some, e]
      have := h.2 (l + i) (by omega)
      simp only [Option.getD_some] at this
      rw [this]; simp [List.getElem?_drop]
theorem RdB.slLH {w : World} {p : Option Addr} {L : List Byte} (h : RdB w p L) (c l k : Nat) (hc : L.length ≤ c) : RdB w (slP p c l) ((L.drop l).take k) := (h.slL c l hc).take k

end Go.Proofs.YtmclklhnbmkheaaDoor
