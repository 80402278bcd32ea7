/-
  Two variables declared in one assignment: a region whose new variables and stores come in an order that is drawn. No conditions beyond those written in each theorem.
-/
import Derived.Test.YtmgopjeaehmbfaaDoorRegP
import Derived.Test.YtmgopjeaehmbfaaDoorOpen
namespace Go.Proofs.YtmgopjeaehmbfaaDoor
open Go Go.RowKit
set_option maxRecDepth 100000
set_option linter.unusedVariables false
set_option linter.unusedSimpArgs false

/-- The block of a variable that may have been made, and may have been written. -/
def blkO (a c : Option Value) (T : TypeId) (z x : List Value) : List Blk :=
  match a with
  | some (.pointer (some p)) => [⟨p.block, T, if c.isSome then x else z⟩]
  | _ => []
/-- Two variables of one type, that may have been made (a, b) and written (c, d). -/
structure TwoV (w0 : World) (L : List Blk) (T : TypeId) (z x y : List Value) (a b c d : Option Value) (w : World) : Prop where
  pa : ∀ v, a = some v → ∃ g, v = .pointer (some ⟨g, 0, none⟩)
  pb : ∀ v, b = some v → ∃ g, v = .pointer (some ⟨g, 0, none⟩)
  ca : a = none → c = none
  db : b = none → d = none
  own : Own w0 w (blkO a c T z x ++ (blkO b d T z y ++ L))
section
variable {w0 w w' : World} {L : List Blk} {T : TypeId} {z x y : List Value} {a b c d : Option Value} {g : Nat} {u v : Value}
theorem TwoV.low (h : TwoV w0 L T z x y a b c d w) : Own w0 w L := h.own.dropN.dropN
theorem TwoV.ext (h : TwoV w0 L T z x y a b c d w) (hx : Ext w w') : TwoV w0 L T z x y a b c d w' := ⟨h.pa, h.pb, h.ca, h.db, h.own.ext hx⟩
theorem TwoV.start (h : Own w0 w L) : TwoV w0 L T z x y none none none none w := ⟨by simp, by simp, fun _ => rfl, fun _ => rfl, h⟩
theorem TwoV.oa (h : TwoV w0 L T z x y none b c d w) : Own w0 w (blkO b d T z y ++ L) := h.own
theorem TwoV.ob (h : TwoV w0 L T z x y a none c d w) : Own w0 w (blkO a c T z x ++ L) := h.own
theorem TwoV.na (h : TwoV w0 L T z x y none b c d w) (hm : Own w0 w' (⟨g, T, z⟩ :: (blkO b d T z y ++ L))) : TwoV w0 L T z x y (some (.pointer (some ⟨g, 0, none⟩))) b c d w' := by
  obtain rfl := h.ca rfl
  exact ⟨fun v e => ⟨g, (Option.some.inj e).symm⟩, h.pb, by simp, h.db, hm⟩
theorem TwoV.nb (h : TwoV w0 L T z x y a none c d w) (hm : Own w0 w' (⟨g, T, z⟩ :: (blkO a c T z x ++ L))) : TwoV w0 L T z x y a (some (.pointer (some ⟨g, 0, none⟩))) c d w' := by
  obtain rfl := h.db rfl
  exact ⟨h.pa, fun v e => ⟨g, (Option.some.inj e).symm⟩, h.ca, by simp, hm.perm List.perm_middle.symm⟩
theorem TwoV.sa (h : TwoV w0 L T z x y (some v) b none d w) : ∃ g, v = .pointer (some ⟨g, 0, none⟩) ∧ Own w0 w (⟨g, T, z⟩ :: (blkO b d T z y ++ L)) := by
  obtain ⟨g, rfl⟩ := h.pa _ rfl
  exact ⟨g, rfl, h.own⟩
theorem TwoV.sb (h : TwoV w0 L T z x y a (some v) c none w) : ∃ g, v = .pointer (some ⟨g, 0, none⟩) ∧ Own w0 w (⟨g, T, z⟩ :: (blkO a c T z x ++ L)) := by
  obtain ⟨g, rfl⟩ := h.pb _ rfl
  exact ⟨g, rfl, h.own.perm List.perm_middle⟩
theorem TwoV.wa (h : TwoV w0 L T z x y (some (.pointer (some ⟨g, 0, none⟩))) b none d w) (hm : Own w0 w' (⟨g, T, x⟩ :: (blkO b d T z y ++ L))) : TwoV w0 L T z x y (some (.pointer (some ⟨g, 0, none⟩))) b (some u) d w' :=
  ⟨h.pa, h.pb, (by simp), h.db, hm⟩
theorem TwoV.wb (h : TwoV w0 L T z x y a (some (.pointer (some ⟨g, 0, none⟩))) c none w) (hm : Own w0 w' (⟨g, T, y⟩ :: (blkO a c T z x ++ L))) : TwoV w0 L T z x y a (some (.pointer (some ⟨g, 0, none⟩))) c (some u) w' :=
  ⟨h.pa, h.pb, h.ca, (by simp), hm.perm List.perm_middle.symm⟩
theorem TwoV.fin {v' u' : Value} (h : TwoV w0 L T z x y (some v) (some v') (some u) (some u') w) : ∃ g g', v = .pointer (some ⟨g, 0, none⟩) ∧ v' = .pointer (some ⟨g', 0, none⟩) ∧ Own w0 w (⟨g, T, x⟩ :: ⟨g', T, y⟩ :: L) := by
  obtain ⟨g, rfl⟩ := h.pa _ rfl
  obtain ⟨g', rfl⟩ := h.pb _ rfl
  exact ⟨g, g', rfl, rfl, h.own⟩
end
/-- What holds of four marks. -/
def J4 (X : Option Value → Option Value → Option Value → Option Value → World → Prop) (s : List (Option Value)) (w : World) : Prop := ∃ a b c d, s = [a, b, c, d] ∧ X a b c d w
def K2 (w0 : World) (L : List Blk) (T : TypeId) (z x y : List Value) : Marks :=
  Marks.of (J4 (TwoV w0 L T z x y)) fun _ _ _ ⟨a, b, c, d, e, h⟩ hx => ⟨a, b, c, d, e, h.ext hx⟩
theorem some4 {a b c d : Option Value} (h : ∀ i, i < 4 → ∃ x, ([a, b, c, d] : List (Option Value))[i]? = some (some x)) : ∃ p q r s, a = some p ∧ b = some q ∧ c = some r ∧ d = some s := by
  obtain ⟨p, hp⟩ := h 0 (by omega)
  obtain ⟨q, hq⟩ := h 1 (by omega)
  obtain ⟨r, hr⟩ := h 2 (by omega)
  obtain ⟨s, hs⟩ := h 3 (by omega)
  simp at hp hq hr hs
  exact ⟨p, q, r, s, hp, hq, hr, hs⟩
theorem mark_end {P : Program} {ops : Array Oper} {D : List Deferred} {d : Option Nat} {X : Value → World → Prop} {a : Act} {w : World} (hd : a.defers = D) (h : saidM d a fun v => X v w) :
    wpList P ops (fun e a' w' => e = .normal ∧ a'.defers = D ∧ saidM d a' fun v => X v w') [] a w := ⟨rfl, hd, h⟩
section
variable {w0 w w' : World} {L : List Blk} {T : TypeId} {z x y : List Value} {a b c d : Option Value} {g : Nat} {u v : Value}
theorem TwoV.j0 (h : TwoV w0 L T z x y none b c d w) (hm : Own w0 w' (⟨g, T, z⟩ :: (blkO b d T z y ++ L))) : J4 (TwoV w0 L T z x y) (([none, b, c, d] : List (Option Value)).set 0 (some (.pointer (some ⟨g, 0, none⟩)))) w' := ⟨_, _, _, _, rfl, h.na hm⟩
theorem TwoV.j1 (h : TwoV w0 L T z x y a none c d w) (hm : Own w0 w' (⟨g, T, z⟩ :: (blkO a c T z x ++ L))) : J4 (TwoV w0 L T z x y) (([a, none, c, d] : List (Option Value)).set 1 (some (.pointer (some ⟨g, 0, none⟩)))) w' := ⟨_, _, _, _, rfl, h.nb hm⟩
theorem TwoV.j2 (h : TwoV w0 L T z x y (some (.pointer (some ⟨g, 0, none⟩))) b none d w) (hm : Own w0 w' (⟨g, T, x⟩ :: (blkO b d T z y ++ L))) : J4 (TwoV w0 L T z x y) (([some (.pointer (some ⟨g, 0, none⟩)), b, none, d] : List (Option Value)).set 2 (some u)) w' := ⟨_, _, _, _, rfl, h.wa hm⟩
theorem TwoV.j3 (h : TwoV w0 L T z x y a (some (.pointer (some ⟨g, 0, none⟩))) c none w) (hm : Own w0 w' (⟨g, T, y⟩ :: (blkO a c T z x ++ L))) : J4 (TwoV w0 L T z x y) (([a, some (.pointer (some ⟨g, 0, none⟩)), c, none] : List (Option Value)).set 3 (some u)) w' := ⟨_, _, _, _, rfl, h.wb hm⟩
end
theorem pmk0 {x p : Value} {l : List (Option Value)} {w : World} (h : PMk 0 x (some p :: l) w) : p = x := by simpa [PMk] using h
theorem pmk1 {x p : Value} {q : Option Value} {l : List (Option Value)} {w : World} (h : PMk 1 x (q :: some p :: l) w) : p = x := by simpa [PMk] using h

end Go.Proofs.YtmgopjeaehmbfaaDoor
