/-
  Layer 15: what the statements share: a key, two numbers and a block; sums of two blocks; the look at the chapter's example. Conditions: the program's variables lie as its text lays them.
-/
import Derived.Test.YtmgopjeaehmbfaaDoorEzr
namespace Go.Proofs.YtmgopjeaehmbfaaDoor
open Go Go.RowKit
set_option maxRecDepth 100000
set_option linter.unusedVariables false
set_option linter.unusedSimpArgs false

/-- The cells of a key, two numbers and a block. (Behind a name: not to be laid open by the walk.) -/
def askedC (p : Option Addr) (n c : Nat) (j i : Int) (X : List Byte) : List Value := [.slice p n c] ++ ([.int .i64 j] ++ ([.int .i64 i] ++ X.map v8))
section
variable {p : Option Addr} {n c : Nat} {j i : Int} {X : List Byte}
theorem askedC_key : (askedC p n c j i X)[0]? = some (.slice p n c) := rfl
theorem askedC_j : (askedC p n c j i X)[1]? = some (.int .i64 j) := rfl
theorem askedC_i : (askedC p n c j i X)[2]? = some (.int .i64 i) := rfl
theorem askedC_x (h : X.length = 16) : ((askedC p n c j i X).drop 3).take 16 = X.map v8 := by
  show (X.map v8).take 16 = _
  rw [List.take_of_length_le (by simp [h])]
theorem askedC_length (h : X.length = 16) : (askedC p n c j i X).length = 19 := by simp [askedC, h]
end
/-- May a key be, and are the numbers small? -/
def rightA (key : List Byte) (j i : Int) : Bool := rightL key && decide (j ≤ 1000) && decide (i ≤ 4096)
/-- One byte, sixteen times. -/
def repL (x : Byte) : List Byte := tab 16 fun _ => x
theorem rep_lit : ∀ (x : Byte) (r : Fin 4), ((tms (nth mixesL ((0 + 4 - r.val) % 4)) (nth tabsL x.toNat) ^^^ tms (nth mixesL ((1 + 4 - r.val) % 4)) (nth tabsL x.toNat)) ^^^ tms (nth mixesL ((2 + 4 - r.val) % 4)) (nth tabsL x.toNat)) ^^^ tms (nth mixesL ((3 + 4 - r.val) % 4)) (nth tabsL x.toNat) = nth tabsL x.toNat := by decide +kernel
theorem rep_rnd (x : Byte) : rnd (repL x) (zer 16) = repL (bxTo x) := nth_ext (by rw [rnd_length, repL, tab_length]) fun i hi => by
  rw [rnd_length] at hi
  have hs : ∀ r, r < 4 → nth (repL x) (shp r (i / 4)) = x := fun r hr => nth_tab (shp_lt r _ hr)
  rw [rnd_nth _ _ i hi, hs 0 (by omega), hs 1 (by omega), hs 2 (by omega), hs 3 (by omega), zer, nth_tab hi, repL, nth_tab hi]
  simp only [bxTo_lit]
  have := rep_lit x ⟨i % 4, Nat.mod_lt _ (by omega)⟩
  simp only at this
  rw [this]; simp
theorem four_ne : rnds (zer 16) [zer 16, zer 16, zer 16, zer 16] ≠ zer 16 := by
  have e : (zer (n := 8) 16) = repL 0#8 := rfl
  intro h
  have h2 : rnds (repL 0#8) [zer 16, zer 16, zer 16, zer 16] = repL (bxTo (bxTo (bxTo (bxTo 0#8)))) := by
    simp only [rnds, rep_rnd]
  have h3 : nth (rnds (zer 16) [zer 16, zer 16, zer 16, zer 16]) 0 = bxTo (bxTo (bxTo (bxTo 0#8))) := by
    rw [← e] at h2; rw [h2, repL, nth_tab (by omega)]
  rw [h, zer, nth_tab (by omega)] at h3
  simp only [bxTo_lit] at h3
  revert h3; decide +kernel
/-- The parts of a key of noughts. -/
theorem key_zeros : keyOf (zeros 48) = ⟨zer 16, zer 16, zer 16⟩ := by
  have e : keyB (zeros 48) = zeros 48 := by rw [keyB, if_pos (zeros_length 48)]
  rw [keyOf, e]
  rfl
theorem e_zeros : eZ ⟨zer 16, zer 16, zer 16⟩ 0 0 (zer 16) = rnds (zer 16) [zer 16, zer 16, zer 16, zer 16] := by
  rw [eZ, if_neg (by omega), if_neg (by omega)]
  show eN _ 0 0 _ = _
  rw [eN, off_00 _ ⟨zer_length, zer_length, zer_length⟩, both_self]
  rfl
theorem off_zeros (j i : Nat) : offZ ⟨zer 16, zer 16, zer 16⟩ j i = zer 16 := by
  rw [offZ, if_neg (by omega), offN, mulL_zer, mulL_zer, dblN_zer, both_self, both_self]

end Go.Proofs.YtmgopjeaehmbfaaDoor
