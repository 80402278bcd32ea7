/-
  Layer 6: the statement on parts. Conditions: the program's first numbers and rows lie as its text lays them.
-/
import Derived.Test.YtmclklhnbmkheaaDoorLawBlake4
import Derived.Test.YtmclklhnbmkheaaDoorRb3
namespace Go.Proofs.YtmclklhnbmkheaaDoor
open Go Go.RowKit
set_option maxRecDepth 100000
set_option linter.unusedVariables false
set_option linter.unusedSimpArgs false

theorem perm_mid (X Y R : List Blk) : (X ++ (Y ++ R)).Perm (Y ++ (X ++ R)) := by
  rw [← List.append_assoc, ← List.append_assoc]; exact List.perm_append_comm.append_right R
theorem flat_take (ls : List (List Byte)) (k : Nat) (h : k < ls.length) : (ls.take (k + 1)).flatten = (ls.take k).flatten ++ ls.getD k [] := by
  rw [List.take_succ_eq_append_getElem h, List.flatten_append, List.getD_eq_getElem?_getD, List.getElem?_eq_getElem h]; simp
theorem flat_le (ls : List (List Byte)) (h : (ls.all fun l => decide (l.length ≤ 300)) = true) : ls.flatten.length ≤ 300 * ls.length := by
  induction ls with
  | nil => simp
  | cons l ls ih =>
    simp only [List.all_cons, Bool.and_eq_true, decide_eq_true_eq] at h
    have := ih h.2
    simp only [List.flatten_cons, List.length_append, List.length_cons]; omega
theorem flat_take_le (ls : List (List Byte)) (k : Nat) (h : (ls.all fun l => decide (l.length ≤ 300)) = true) (hl : ls.length ≤ 20) : ((ls.take k).flatten).length ≤ 6000 := by
  have h1 : ((ls.take k).all fun l => decide (l.length ≤ 300)) = true := by
    rw [List.all_eq_true] at h ⊢
    intro x hx; exact h x (List.mem_of_mem_take hx)
  have := flat_le _ h1
  have : (ls.take k).length ≤ 20 := by rw [List.length_take]; omega
  omega
theorem right_of {size : Int} {key : List Byte} {ls : List (List Byte)} (h : rightB size key ls = true) : 1 ≤ size ∧ size ≤ 64 ∧ key.length ≤ 64 ∧ ls.length ≤ 20 ∧ (ls.all fun l => decide (l.length ≤ 300)) = true := by
  simp only [rightB, Bool.and_eq_true, decide_eq_true_eq] at h
  exact ⟨h.1.1.1.1, h.1.1.1.2, h.1.1.2, h.1.2, h.2⟩

end Go.Proofs.YtmclklhnbmkheaaDoor
