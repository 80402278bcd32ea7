/-
  Laws of lists under short names. No conditions.
-/
import GoSem.Core.Value
import Derived.Tactics
import Derived.Calls
namespace Go.Proofs.YtneacgpmjlocjaaGreatDoor
theorem ltB {w m : Nat} {x : BitVec w} (h : 2 ^ w ≤ m) : x.toNat < m := Nat.lt_of_lt_of_le x.isLt h
theorem sIB {α : Type} {l : List α} {i : Nat} {a : α} : l.toArray.setIfInBounds i a = (l.set i a).toArray := by simp
theorem sCS {α : Type} {l : List α} {i : Nat} {a b : α} : (a :: l).set (i + 1) b = a :: l.set i b := rfl
theorem sCZ {α : Type} {l : List α} {a b : α} : (a :: l).set 0 b = b :: l := rfl
theorem tSC {α : Type} {l : List α} {i : Nat} {a : α} : (a :: l).take (i + 1) = a :: l.take i := rfl
theorem dSC {α : Type} {l : List α} {i : Nat} {a : α} : (a :: l).drop (i + 1) = l.drop i := rfl
theorem zCC {α β : Type} {l : List α} {m : List β} {a : α} {b : β} : (a :: l).zip (b :: m) = (a, b) :: l.zip m := rfl
theorem tZe {α : Type} {l : List α} : l.take 0 = [] := List.take_zero
theorem dZe {α : Type} {l : List α} : l.drop 0 = l := List.drop_zero
theorem mCo {α β : Type} {f : α → β} {a : α} {l : List α} : (a :: l).map f = f a :: l.map f := List.map_cons
theorem mNi {α β : Type} {f : α → β} : ([] : List α).map f = [] := List.map_nil
theorem exq.{u} {α : Sort u} (a : α) : ∃ x, x = a := ⟨a, rfl⟩
theorem zNR {α β : Type} {l : List α} : l.zip ([] : List β) = [] := by simp
abbrev qLd {P : Go.Program} {o : Array Go.Oper} {Q : Go.Exit → Go.Act → Go.World → Prop} {d : Option Go.Tmp} {t : Go.TypeId} {a : Go.Operand} {y : Go.TypeId} {s : String} {f : Array Go.Edge} {g : Option (Nat × Bool)} {r : List Go.Oper} {x : Go.Act} {w : Go.World} : Prop := Go.wpList P o Q (Go.Oper.mk d (Go.Op.load t a) y s f g :: r) x w
abbrev qSt {P : Go.Program} {o : Array Go.Oper} {Q : Go.Exit → Go.Act → Go.World → Prop} {d : Option Go.Tmp} {t : Go.TypeId} {a v : Go.Operand} {y : Go.TypeId} {s : String} {f : Array Go.Edge} {g : Option (Nat × Bool)} {r : List Go.Oper} {x : Go.Act} {w : Go.World} : Prop := Go.wpList P o Q (Go.Oper.mk d (Go.Op.store t a v) y s f g :: r) x w
abbrev qAl {P : Go.Program} {o : Array Go.Oper} {Q : Go.Exit → Go.Act → Go.World → Prop} {d : Option Go.Tmp} {t : Go.TypeId} {y : Go.TypeId} {s : String} {f : Array Go.Edge} {g : Option (Nat × Bool)} {r : List Go.Oper} {x : Go.Act} {w : Go.World} : Prop := Go.wpList P o Q (Go.Oper.mk d (Go.Op.alloc t) y s f g :: r) x w
abbrev qBx {P : Go.Program} {o : Array Go.Oper} {Q : Go.Exit → Go.Act → Go.World → Prop} {d : Option Go.Tmp} {t : Go.TypeId} {v : Go.Operand} {y : Go.TypeId} {s : String} {f : Array Go.Edge} {g : Option (Nat × Bool)} {r : List Go.Oper} {x : Go.Act} {w : Go.World} : Prop := Go.wpList P o Q (Go.Oper.mk d (Go.Op.box t v) y s f g :: r) x w
theorem zPu : (∀ (a : Go.Act) (v : Go.Value), a.put none v = a) ∧ (∀ (a : Go.Act) (d : Go.Tmp) (v : Go.Value), a.put (some d) v = { a with tmps := a.tmps.setIfInBounds d v }) ∧ (∀ (l : List Go.Value) (i : Nat) (v : Go.Value), l.toArray.setIfInBounds i v = (l.set i v).toArray) ∧ (∀ (x : Go.Value) (l : List Go.Value) (n : Nat) (v : Go.Value), (x :: l).set (n + 1) v = x :: l.set n v) ∧ (∀ (x : Go.Value) (l : List Go.Value) (v : Go.Value), (x :: l).set 0 v = v :: l) := ⟨fun _ _ => rfl, fun _ _ _ => rfl, fun _ _ _ => sIB, fun _ _ _ _ => rfl, fun _ _ _ => rfl⟩
theorem zTa : (∀ {α : Type} (n : Nat) (x : α) (l : List α), (x :: l).take (n + 1) = x :: l.take n) ∧ (∀ {α : Type} (l : List α), l.take 0 = []) ∧ (∀ {α : Type} (n : Nat) (x : α) (l : List α), (x :: l).drop (n + 1) = l.drop n) ∧ (∀ {α : Type} (l : List α), l.drop 0 = l) ∧ (∀ {α β : Type} (f : α → β) (x : α) (l : List α), (x :: l).map f = f x :: l.map f) ∧ (∀ {α β : Type} (f : α → β), [].map f = []) := ⟨fun _ _ _ => rfl, fun _ => rfl, fun _ _ _ => rfl, fun _ => rfl, fun _ _ _ => rfl, fun _ => rfl⟩
theorem zZi : (∀ {α β : Type} (x : α) (y : β) (l : List α) (m : List β), (x :: l).zip (y :: m) = (x, y) :: l.zip m) ∧ (∀ {α β : Type} (l : List α), l.zip ([] : List β) = []) := ⟨fun _ _ _ _ => rfl, fun _ => zNR⟩
end Go.Proofs.YtneacgpmjlocjaaGreatDoor
