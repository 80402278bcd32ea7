/-
  Plain lists: made by a function of the place, and filled place by place. No conditions.
-/
import Derived.Test.YtalcgmhdgegebaaDoorMem
namespace Go.Proofs.YtalcgmhdgegebaaDoor
open Go Go.RowKit
set_option maxRecDepth 100000
set_option linter.unusedVariables false
set_option linter.unusedSimpArgs false

/-- The number at a place. (Behind a name: not to be laid open by the walk.) -/
def nth {n : Nat} (l : List (BitVec n)) (k : Nat) : BitVec n := l.getD k 0
/-- So many numbers, each by its place. -/
def tab {n : Nat} (m : Nat) (f : Nat → BitVec n) : List (BitVec n) := (List.range m).map f
/-- The first k by f, the others by g. -/
def part {n : Nat} (m k : Nat) (f g : Nat → BitVec n) : List (BitVec n) := tab m fun i => if i < k then f i else g i
/-- A number put at a place. -/
def setN {n : Nat} (l : List (BitVec n)) (k : Nat) (x : BitVec n) : List (BitVec n) := l.set k x

/-- So many noughts. -/
def zer {n : Nat} (m : Nat) : List (BitVec n) := tab m fun _ => 0
section
variable {n m k i : Nat} {f g : Nat → BitVec n} {l l' : List (BitVec n)} {x : BitVec n}
theorem tab_length : (tab m f).length = m := by simp [tab]
theorem part_length : (part m k f g).length = m := by simp [part, tab]
theorem setN_length : (setN l k x).length = l.length := by simp [setN]
theorem nth_tab (h : i < m) : nth (tab m f) i = f i := by simp [nth, tab, h]
theorem nth_tab_ge (h : m ≤ i) : nth (tab m f) i = 0 := by simp [nth, tab, h]
theorem nth_ge (h : l.length ≤ i) : nth l i = 0 := by simp [nth, h]
theorem nth_part_lt (h : i < m) (h2 : i < k) : nth (part m k f g) i = f i := by rw [part, nth_tab h, if_pos h2]
theorem nth_part_ge (h : i < m) (h2 : k ≤ i) : nth (part m k f g) i = g i := by rw [part, nth_tab h, if_neg (by omega)]
theorem nth_set (h : i < l.length) : nth (setN l k x) i = if k = i then x else nth l i := by
  simp only [nth, setN, List.getD_eq_getElem?_getD, List.getElem?_set]
  by_cases e : k = i
  · subst e; simp [h]
  · simp [e]
theorem nth_ext (h : l.length = l'.length) (hh : ∀ i, i < l.length → nth l i = nth l' i) : l = l' := by
  apply List.ext_getElem h
  intro i h1 h2
  have := hh i h1
  simpa [nth, h1, h2] using this
theorem nth_get (h : i < l.length) : nth l i = l[i] := by simp [nth, h]
theorem tab_eq (h : l.length = m) : l = tab m (nth l) := nth_ext (by rw [tab_length, h]) fun i hi => by rw [nth_tab (by omega)]
theorem tab_ext (h : ∀ i, i < m → f i = g i) : tab m f = tab m g := nth_ext (by rw [tab_length, tab_length]) fun i hi => by rw [tab_length] at hi; rw [nth_tab hi, nth_tab hi, h i hi]
theorem part_zero : part m 0 f g = tab m g := tab_ext fun i _ => if_neg (by omega)
theorem part_all : part m m f g = tab m f := tab_ext fun i h => if_pos h
theorem part_set (h : k < m) : setN (part m k f g) k (f k) = part m (k + 1) f g :=
  nth_ext (by rw [setN_length, part_length, part_length]) fun i hi => by
    rw [setN_length, part_length] at hi
    rw [nth_set (by rw [part_length]; exact hi), part, nth_tab hi, part, nth_tab hi]
    by_cases e : k = i
    · subst e; rw [if_pos rfl, if_pos (by omega)]
    · rw [if_neg e]; congr 1; rw [eq_iff_iff]; omega
theorem part_set' (h : k < m) (hx : x = f k) : setN (part m k f g) k x = part m (k + 1) f g := by rw [hx, part_set h]
theorem tab_const_replicate (x : BitVec n) : tab m (fun _ => x) = List.replicate m x := by simp [tab, List.map_const']
theorem zer_length : (zer (n := n) m).length = m := tab_length
theorem zer_start : zer (n := n) m = part m 0 f (fun _ => 0) := by rw [part_zero]; rfl
/-- Old ones turned into new ones, place by place. -/
theorem part_start (h : l.length = m) : l = part m 0 f (nth l) := by rw [part_zero]; exact tab_eq h
end

attribute [simp] tab_length part_length setN_length zer_length zeros_length
/-- A kind of numbers, each of which is one cell. -/
class CellV {b : Nat} (f : BitVec b → Value) : Prop where
  cells : ∀ x, (f x).cells = #[f x]
  one : ∀ x, (f x).oneCell' = true
instance : CellV v8 := ⟨fun _ => rfl, fun _ => rfl⟩
instance : CellV v16 := ⟨fun _ => rfl, fun _ => rfl⟩
instance : CellV v32 := ⟨fun _ => rfl, fun _ => rfl⟩
instance : CellV v64 := ⟨fun _ => rfl, fun _ => rfl⟩
theorem mapv_at {b k : Nat} (f : BitVec b → Value) (l : List (BitVec b)) (h : k < l.length) : (l.map f)[k]? = some (f (nth l k)) := by simp [nth, h]
theorem mapv_set {b k : Nat} (f : BitVec b → Value) (l : List (BitVec b)) (x : BitVec b) : (l.map f).set k (f x) = (setN l k x).map f := by simp [setN, List.map_set]
theorem one_map {b : Nat} {f : BitVec b → Value} [CellV f] (l : List (BitVec b)) : ∀ v ∈ l.map f, v.oneCell' = true := by
  intro v hv; obtain ⟨x, _, rfl⟩ := List.mem_map.1 hv; exact CellV.one x
section
variable {k i : Nat}
theorem map8_at (l : List (BitVec 8)) (h : k < l.length) : (l.map v8)[k]? = some (v8 (nth l k)) := by simp [nth, h]
theorem map16_at (l : List (BitVec 16)) (h : k < l.length) : (l.map v16)[k]? = some (v16 (nth l k)) := by simp [nth, h]
theorem map32_at (l : List (BitVec 32)) (h : k < l.length) : (l.map v32)[k]? = some (v32 (nth l k)) := by simp [nth, h]
theorem map64_at (l : List (BitVec 64)) (h : k < l.length) : (l.map v64)[k]? = some (v64 (nth l k)) := by simp [nth, h]
theorem map8_set (l : List (BitVec 8)) (x : BitVec 8) : (l.map v8).set k (v8 x) = (setN l k x).map v8 := by simp [setN, List.map_set]
theorem map16_set (l : List (BitVec 16)) (x : BitVec 16) : (l.map v16).set k (v16 x) = (setN l k x).map v16 := by simp [setN, List.map_set]
theorem map32_set (l : List (BitVec 32)) (x : BitVec 32) : (l.map v32).set k (v32 x) = (setN l k x).map v32 := by simp [setN, List.map_set]
theorem map64_set (l : List (BitVec 64)) (x : BitVec 64) : (l.map v64).set k (v64 x) = (setN l k x).map v64 := by simp [setN, List.map_set]
end
theorem one_v16 (l : List (BitVec 16)) : ∀ v ∈ l.map v16, v.oneCell' = true := by
  intro v hv; obtain ⟨x, _, rfl⟩ := List.mem_map.1 hv; rfl
theorem one_v32 (l : List (BitVec 32)) : ∀ v ∈ l.map v32, v.oneCell' = true := by
  intro v hv; obtain ⟨x, _, rfl⟩ := List.mem_map.1 hv; rfl
theorem one_v64l (l : List (BitVec 64)) : ∀ v ∈ l.map v64, v.oneCell' = true := by
  intro v hv; obtain ⟨x, _, rfl⟩ := List.mem_map.1 hv; rfl

end Go.Proofs.YtalcgmhdgegebaaDoor
