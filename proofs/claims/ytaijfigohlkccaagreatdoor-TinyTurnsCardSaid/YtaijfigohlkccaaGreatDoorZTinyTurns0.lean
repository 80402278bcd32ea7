/-
  Laws of lists under short names. No conditions.
-/
import GoSem.Core.Value
namespace Go.Proofs.YtaijfigohlkccaaGreatDoor
theorem sIB {α : Type} {l : List α} {i : Nat} {a : α} : l.toArray.setIfInBounds i a = (l.set i a).toArray := by simp
theorem sCS {α : Type} {l : List α} {i : Nat} {a b : α} : (a :: l).set (i + 1) b = a :: l.set i b := rfl
theorem sCZ {α : Type} {l : List α} {a b : α} : (a :: l).set 0 b = b :: l := rfl
theorem tSC {α : Type} {l : List α} {i : Nat} {a : α} : (a :: l).take (i + 1) = a :: l.take i := rfl
theorem dSC {α : Type} {l : List α} {i : Nat} {a : α} : (a :: l).drop (i + 1) = l.drop i := rfl
theorem zCC {α β : Type} {l : List α} {m : List β} {a : α} {b : β} : (a :: l).zip (b :: m) = (a, b) :: l.zip m := rfl
theorem zNR {α β : Type} {l : List α} : l.zip ([] : List β) = [] := by simp
end Go.Proofs.YtaijfigohlkccaaGreatDoor
