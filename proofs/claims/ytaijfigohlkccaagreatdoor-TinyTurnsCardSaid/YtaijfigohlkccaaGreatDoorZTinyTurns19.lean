/-
  Two variables declared in one assignment: a region whose new variables and stores come in an order that is drawn. No conditions beyond those written in each theorem.
  Two variables declared in one assignment, beside slices that are built in the same region. No conditions beyond those written in each theorem.
  One or two appends to an own slice, in a region that draws its order. No conditions beyond those written in each theorem.
  Layer 14, the document's: half bytes of bytes, and bytes of half bytes. Conditions: those written in each theorem.
  Layer 3: the document's boxes. No conditions.
  Layer 15, the document's: the boxes in a struct of a key's parts, made. No conditions.
-/
import Derived.Test.YtaijfigohlkccaaGreatDoorZTinyTurns0
import Derived.Test.YtaijfigohlkccaaGreatDoorZTinyTurns18
import Derived.Test.YtaijfigohlkccaaGreatDoorZTinyTurns6
import Derived.Test.YtaijfigohlkccaaGreatDoorZTinyTurns9
import Derived.Test.YtaijfigohlkccaaGreatDoorZTinyTurns14
import Derived.Test.YtaijfigohlkccaaGreatDoorZTinyTurns15
import Derived.Test.YtaijfigohlkccaaGreatDoorZTinyTurns12
namespace Go.Proofs.YtaijfigohlkccaaGreatDoor
open Go Go.RowKit
set_option maxRecDepth 100000
set_option linter.unusedVariables false
set_option linter.unusedSimpArgs false

/-- The block of a variable that may have been made, and may have been written. -/
def blkO (a c : Option Value) (T : TypeId) (z x : List Value) : List Blk :=
  match a with
  | some (.pointer (some p)) => [⟨p.block, T, if c.isSome then x else z⟩]
  | _ => []
/-- Two variables of one type, that may have been made (a, b) and written (c, d). -/
structure TwoV (w0 : World) (L : List Blk) (T : TypeId) (z x y : List Value) (a b c d : Option Value) (w : World) : Prop where
  pa : ∀ v, a = some v → ∃ g, v = .pointer (some ⟨g, 0, none⟩)
  pb : ∀ v, b = some v → ∃ g, v = .pointer (some ⟨g, 0, none⟩)
  ca : a = none → c = none
  db : b = none → d = none
  own : Own w0 w (blkO a c T z x ++ (blkO b d T z y ++ L))
section
variable {w0 w w' : World} {L : List Blk} {T : TypeId} {z x y : List Value} {a b c d : Option Value} {g : Nat} {u v : Value}
theorem TwoV.low (h : TwoV w0 L T z x y a b c d w) : Own w0 w L := h.own.dropN.dropN
theorem TwoV.ext (h : TwoV w0 L T z x y a b c d w) (hx : Ext w w') : TwoV w0 L T z x y a b c d w' := ⟨h.pa, h.pb, h.ca, h.db, h.own.ext hx⟩
theorem TwoV.start (h : Own w0 w L) : TwoV w0 L T z x y none none none none w := ⟨by simp, by simp, fun _ => rfl, fun _ => rfl, h⟩
theorem TwoV.na (h : TwoV w0 L T z x y none b c d w) (hm : Own w0 w' (⟨g, T, z⟩ :: (blkO b d T z y ++ L))) : TwoV w0 L T z x y (some (.pointer (some ⟨g, 0, none⟩))) b c d w' := by
  obtain rfl := h.ca rfl
  exact ⟨fun v e => ⟨g, (Option.some.inj e).symm⟩, h.pb, by simp, h.db, hm⟩
theorem TwoV.nb (h : TwoV w0 L T z x y a none c d w) (hm : Own w0 w' (⟨g, T, z⟩ :: (blkO a c T z x ++ L))) : TwoV w0 L T z x y a (some (.pointer (some ⟨g, 0, none⟩))) c d w' := by
  obtain rfl := h.db rfl
  exact ⟨h.pa, fun v e => ⟨g, (Option.some.inj e).symm⟩, h.ca, by simp, hm.perm List.perm_middle.symm⟩
theorem TwoV.wa (h : TwoV w0 L T z x y (some (.pointer (some ⟨g, 0, none⟩))) b none d w) (hm : Own w0 w' (⟨g, T, x⟩ :: (blkO b d T z y ++ L))) : TwoV w0 L T z x y (some (.pointer (some ⟨g, 0, none⟩))) b (some u) d w' :=
  ⟨h.pa, h.pb, (by simp), h.db, hm⟩
end
/-- What holds of four marks. -/
def J4 (X : Option Value → Option Value → Option Value → Option Value → World → Prop) (s : List (Option Value)) (w : World) : Prop := ∃ a b c d, s = [a, b, c, d] ∧ X a b c d w
def K2 (w0 : World) (L : List Blk) (T : TypeId) (z x y : List Value) : Marks :=
  Marks.of (J4 (TwoV w0 L T z x y)) fun _ _ _ ⟨a, b, c, d, e, h⟩ hx => ⟨a, b, c, d, e, h.ext hx⟩
theorem mark_end {P : Program} {ops : Array Oper} {D : List Deferred} {d : Option Nat} {X : Value → World → Prop} {a : Act} {w : World} (hd : a.defers = D) (h : saidM d a fun v => X v w) :
    wpList P ops (fun e a' w' => e = .normal ∧ a'.defers = D ∧ saidM d a' fun v => X v w') [] a w := ⟨rfl, hd, h⟩
section
variable {w0 w w' : World} {L : List Blk} {T : TypeId} {z x y : List Value} {a b c d : Option Value} {g : Nat} {u v : Value}
theorem TwoV.j0 (h : TwoV w0 L T z x y none b c d w) (hm : Own w0 w' (⟨g, T, z⟩ :: (blkO b d T z y ++ L))) : J4 (TwoV w0 L T z x y) (([none, b, c, d] : List (Option Value)).set 0 (some (.pointer (some ⟨g, 0, none⟩)))) w' := ⟨_, _, _, _, rfl, h.na hm⟩
theorem TwoV.j1 (h : TwoV w0 L T z x y a none c d w) (hm : Own w0 w' (⟨g, T, z⟩ :: (blkO a c T z x ++ L))) : J4 (TwoV w0 L T z x y) (([a, none, c, d] : List (Option Value)).set 1 (some (.pointer (some ⟨g, 0, none⟩)))) w' := ⟨_, _, _, _, rfl, h.nb hm⟩
theorem TwoV.j2 (h : TwoV w0 L T z x y (some (.pointer (some ⟨g, 0, none⟩))) b none d w) (hm : Own w0 w' (⟨g, T, x⟩ :: (blkO b d T z y ++ L))) : J4 (TwoV w0 L T z x y) (([some (.pointer (some ⟨g, 0, none⟩)), b, none, d] : List (Option Value)).set 2 (some u)) w' := ⟨_, _, _, _, rfl, h.wa hm⟩
end
theorem pmk0 {x p : Value} {l : List (Option Value)} {w : World} (h : PMk 0 x (some p :: l) w) : p = x := by simpa [PMk] using h
theorem pmk1 {x p : Value} {q : Option Value} {l : List (Option Value)} {w : World} (h : PMk 1 x (q :: some p :: l) w) : p = x := by simpa [PMk] using h

end Go.Proofs.YtaijfigohlkccaaGreatDoor
namespace Go.Proofs.YtaijfigohlkccaaGreatDoor
open Go Go.RowKit
set_option maxRecDepth 100000
set_option linter.unusedVariables false
set_option linter.unusedSimpArgs false

/-- One of both variables is this block. -/
def ptrAt (vs : List (Option Value)) (g : Nat) : Prop := vs[0]? = some (some (.pointer (some ⟨g, 0, none⟩))) ∨ vs[1]? = some (some (.pointer (some ⟨g, 0, none⟩)))
/-- Marks that leave all blocks but both variables' as they are. -/
def K2X (w0 : World) (L : List Blk) (T : TypeId) (z x y : List Value) : Marks where
  J := J4 (TwoV w0 L T z x y)
  Sp vs i v w w' := J4 (TwoV w0 L T z x y) (vs.set i (some v)) w' ∧ (∀ (k : Nat) (o : Obj), w.heap[k]? = some o → ¬ ptrAt vs k → w'.heap[k]? = some o) ∧ (i < 2 → ∀ g, v = .pointer (some ⟨g, 0, none⟩) → w.heap.size ≤ g)
  jext := fun _ _ _ ⟨a, b, c, d, e, h⟩ hx => ⟨a, b, c, d, e, h.ext hx⟩
  jmark := fun _ _ _ _ _ _ _ h => h.1
/-- A slice of these blocks, that is none of both variables'. -/
def KeysP (ks : List (List Byte)) : PSlot := fun v vs w => ∃ g e, v = .slice (some ⟨g, 0, none⟩) ks.length ks.length ∧ Row w g e (catV ks) ∧ ¬ ptrAt vs g
theorem KeysP.stable {w0 : World} {L : List Blk} {T : TypeId} {z x y : List Value} (ks : List (List Byte)) : PStable (K2X w0 L T z x y).Sp (KeysP ks) where
  ext := fun _ _ _ _ ⟨g, e, h1, h2, h3⟩ hx => ⟨g, e, h1, row_ext h2 hx, h3⟩
  mark := fun v vs i x w w' ⟨g, e, h1, h2, h3⟩ hn hS => by
    refine ⟨g, e, h1, hS.2.1 g _ h2 h3, ?_⟩
    have hlt : g < w.heap.size := (Array.getElem?_eq_some_iff.1 h2).1
    have key : ∀ j, j < 2 → (vs.set i (some x))[j]? = some (some (.pointer (some ⟨g, 0, none⟩))) → vs[j]? = some (some (.pointer (some ⟨g, 0, none⟩))) := by
      intro j hj h
      by_cases e : i = j
      · subst e
        have hl := (List.getElem?_eq_some_iff.1 hn).1
        rw [List.getElem?_set_self hl] at h
        have := hS.2.2 hj g (by simpa using h)
        omega
      · rwa [List.getElem?_set_ne e] at h
    rintro (h | h)
    · exact h3 (.inl (key 0 (by omega) h))
    · exact h3 (.inr (key 1 (by omega) h))
section
variable {w0 w w' : World} {L : List Blk} {T : TypeId} {z x y : List Value} {a b c d : Option Value} {g : Nat} {u v : Value}
end
section
variable {P : Program} {ops : Array Oper} {Q : Exit → Act → World → Prop} {rest : List Oper} {dst : Option Tmp} {ty : TypeId} {pos : String} {aft : Array Edge} {gd : Option (Nat × Bool)} {a : Act} {w0 w : World} {L L' : List Blk} {T t e : TypeId} {x y : Operand} {g n : Nat} {cs cs' : List Value}
end

end Go.Proofs.YtaijfigohlkccaaGreatDoor
namespace Go.Proofs.YtaijfigohlkccaaGreatDoor
open Go Go.RowKit
set_option maxRecDepth 100000
set_option linter.unusedVariables false
set_option linter.unusedSimpArgs false

/-- A slice in blocks of the call's own, beside other blocks. -/
def SlAt (w0 : World) (R : List Blk) (e : TypeId) (sz : Nat) (v : Value) (n : Nat) (cs : List Value) (w : World) : Prop := ∃ M, Own w0 w (M ++ R) ∧ SlO M e sz v n cs
section
variable {w0 w w' : World} {R : List Blk} {e : TypeId} {sz n n0 n1 n2 : Nat} {v v0 : Value} {cs cs0 cs1 cs2 : List Value}
theorem SlAt.ext (h : SlAt w0 R e sz v n cs w) (hx : Ext w w') : SlAt w0 R e sz v n cs w' := by
  obtain ⟨M, h1, h2⟩ := h; exact ⟨M, h1.ext hx, h2⟩
theorem SlAt.low (h : SlAt w0 R e sz v n cs w) : Own w0 w R := by obtain ⟨M, h1, _⟩ := h; exact h1.dropN
end
/-- One append: ahead of it and behind it. -/
def X1 (w0 : World) (R : List Blk) (e : TypeId) (sz : Nat) (v0 : Value) (n0 : Nat) (cs0 : List Value) (n1 : Nat) (cs1 : List Value) : Option Value → World → Prop
  | none, w => SlAt w0 R e sz v0 n0 cs0 w
  | some v, w => SlAt w0 R e sz v n1 cs1 w
def JA1 (w0 : World) (R : List Blk) (e : TypeId) (sz : Nat) (v0 : Value) (n0 : Nat) (cs0 : List Value) (n1 : Nat) (cs1 : List Value) : Marks :=
  Marks.of (fun s w => ∃ a, s = [a] ∧ X1 w0 R e sz v0 n0 cs0 n1 cs1 a w) fun _ _ _ ⟨a, e, h⟩ hx => ⟨a, e, by cases a <;> exact SlAt.ext h hx⟩
/-- Two appends. -/
def X2 (w0 : World) (R : List Blk) (e : TypeId) (sz : Nat) (v0 : Value) (n0 : Nat) (cs0 : List Value) (n1 : Nat) (cs1 : List Value) (n2 : Nat) (cs2 : List Value) : Option Value → Option Value → World → Prop
  | none, none, w => SlAt w0 R e sz v0 n0 cs0 w
  | some v, none, w => SlAt w0 R e sz v n1 cs1 w
  | some _, some v, w => SlAt w0 R e sz v n2 cs2 w
  | none, some _, _ => False
def JA2 (w0 : World) (R : List Blk) (e : TypeId) (sz : Nat) (v0 : Value) (n0 : Nat) (cs0 : List Value) (n1 : Nat) (cs1 : List Value) (n2 : Nat) (cs2 : List Value) : Marks :=
  Marks.of (fun s w => ∃ a b, s = [a, b] ∧ X2 w0 R e sz v0 n0 cs0 n1 cs1 n2 cs2 a b w) fun _ _ _ ⟨a, b, e, h⟩ hx => ⟨a, b, e, by cases a <;> cases b <;> first | exact SlAt.ext h hx | exact h⟩
section
variable {w0 w w' : World} {R : List Blk} {e : TypeId} {sz n n0 n1 n2 : Nat} {v v0 : Value} {cs0 cs1 cs2 : List Value} {a b : Option Value}
theorem X1.low (h : X1 w0 R e sz v0 n0 cs0 n1 cs1 a w) : Own w0 w R := by cases a <;> exact SlAt.low h
theorem X2.low (h : X2 w0 R e sz v0 n0 cs0 n1 cs1 n2 cs2 a b w) : Own w0 w R := by
  cases a <;> cases b <;> first | exact SlAt.low h | exact h.elim
theorem X1.j0 {M : List Blk} (hm : Own w0 w (M ++ R)) (hs : SlO M e sz v n1 cs1) : (JA1 w0 R e sz v0 n0 cs0 n1 cs1).J (([none] : List (Option Value)).set 0 (some v)) w := ⟨some v, rfl, M, hm, hs⟩
theorem X2.first (h : X2 w0 R e sz v0 n0 cs0 n1 cs1 n2 cs2 none b w) : b = none ∧ SlAt w0 R e sz v0 n0 cs0 w := by
  cases b
  · exact ⟨rfl, h⟩
  · exact h.elim
theorem X2.j0 {M : List Blk} (hm : Own w0 w (M ++ R)) (hs : SlO M e sz v n1 cs1) : (JA2 w0 R e sz v0 n0 cs0 n1 cs1 n2 cs2).J (([none, none] : List (Option Value)).set 0 (some v)) w := ⟨some v, none, rfl, M, hm, hs⟩
theorem X2.j1 {M : List Blk} {u : Value} (hm : Own w0 w (M ++ R)) (hs : SlO M e sz v n2 cs2) : (JA2 w0 R e sz v0 n0 cs0 n1 cs1 n2 cs2).J (([some u, none] : List (Option Value)).set 1 (some v)) w := ⟨some u, some v, rfl, M, hm, hs⟩
end
theorem some2 {a b : Option Value} (h : ∀ i, i < 2 → ∃ x, ([a, b] : List (Option Value))[i]? = some (some x)) : ∃ p q, a = some p ∧ b = some q := by
  obtain ⟨p, hp⟩ := h 0 (by omega)
  obtain ⟨q, hq⟩ := h 1 (by omega)
  simp at hp hq
  exact ⟨p, q, hp, hq⟩

end Go.Proofs.YtaijfigohlkccaaGreatDoor
namespace Go.Proofs.YtaijfigohlkccaaGreatDoor
open Go Go.RowKit
set_option maxRecDepth 100000
set_option linter.unusedVariables false
set_option linter.unusedSimpArgs false

section
variable {P : Program} {ops : Array Oper} {Q : Exit → Act → World → Prop} {rest : List Oper} {dst : Option Tmp} {ty : TypeId} {pos : String} {aft : Array Edge} {gd : Option (Nat × Bool)} {a : Act} {w0 w : World} {L : List Blk} {T e : TypeId}
theorem wq_bs2c {u0 u1 : Value} {x0 x1 : Operand} (hb : ∀ w, (Instr.buildSlice T 2 #[(0, u0), (1, u1)]).run P w = .ok (.slice (some ⟨w.heap.size, 0, none⟩) 2 2) (w.alloc (.cells [u0, u1].toArray e))) (hm : Own w0 w L) (hgd : Region.wanted (Oper.mk dst (.buildSlice T 2 #[(0, x0), (1, x1)]) ty pos aft gd) (yielded ops a.tmps) = true) (hx0 : a.eval x0 = u0) (hx1 : a.eval x1 = u1) (hr : ∀ g w', Own w0 w' (⟨g, e, [u0, u1]⟩ :: L) → wpList P ops Q rest (a.put dst (.slice (some ⟨g, 0, none⟩) 2 2)) w') : wpList P ops Q ((Oper.mk dst (.buildSlice T 2 #[(0, x0), (1, x1)]) ty pos aft gd) :: rest) a w :=
  wpList_want hgd fun K hK => by
    unfold Oper.wp execOp
    have h := hb w
    simp [hx0, hx1, h, Sem.run_bind, Result.andThen_ok, Sem.run_pure]
    exact hK _ _ (hr _ _ (hm.alloc e [u0, u1]))
end
theorem bs2_b (x y : Byte) (w : World) : (Instr.buildSlice 22 2 #[(0, v8 x), (1, v8 y)]).run Tryz.prog w = .ok (.slice (some ⟨w.heap.size, 0, none⟩) 2 2) (w.alloc (.cells [v8 x, v8 y].toArray 5)) := by kernel_rfl
/-- A built slice appended to an own one, in a region that draws its order. -/
def XB (w0 : World) (R : List Blk) (e : TypeId) (sz : Nat) (v0 : Value) (n0 : Nat) (cs0 : List Value) (nb : Nat) (bs : List Value) (n1 : Nat) (cs1 : List Value) : Option Value → Option Value → World → Prop
  | none, none, w => SlAt w0 R e sz v0 n0 cs0 w
  | some u, none, w => ∃ g M, u = .slice (some ⟨g, 0, none⟩) nb nb ∧ Own w0 w (M ++ ⟨g, e, bs⟩ :: R) ∧ SlO M e sz v0 n0 cs0
  | some _, some v, w => SlAt w0 R e sz v n1 cs1 w
  | none, some _, _ => False
section
variable {w0 w w' : World} {R M : List Blk} {e : TypeId} {sz n0 n1 nb g : Nat} {v0 u v : Value} {cs0 bs cs1 : List Value} {a b : Option Value}
theorem XB.ext (h : XB w0 R e sz v0 n0 cs0 nb bs n1 cs1 a b w) (hx : Ext w w') : XB w0 R e sz v0 n0 cs0 nb bs n1 cs1 a b w' := by
  cases a <;> cases b
  · exact SlAt.ext h hx
  · exact h
  · obtain ⟨g, M, h1, h2, h3⟩ := h; exact ⟨g, M, h1, h2.ext hx, h3⟩
  · exact SlAt.ext h hx
theorem XB.low (h : XB w0 R e sz v0 n0 cs0 nb bs n1 cs1 a b w) : Own w0 w R := by
  cases a <;> cases b
  · exact SlAt.low h
  · exact h.elim
  · obtain ⟨g, M, h1, h2, h3⟩ := h; exact h2.dropN.drop
  · exact SlAt.low h
theorem XB.at0 (h : XB w0 R e sz v0 n0 cs0 nb bs n1 cs1 none b w) : b = none ∧ SlAt w0 R e sz v0 n0 cs0 w := by
  cases b
  · exact ⟨rfl, h⟩
  · exact h.elim
def JB (w0 : World) (R : List Blk) (e : TypeId) (sz : Nat) (v0 : Value) (n0 : Nat) (cs0 : List Value) (nb : Nat) (bs : List Value) (n1 : Nat) (cs1 : List Value) : Marks :=
  Marks.of (fun s w => ∃ a b, s = [a, b] ∧ XB w0 R e sz v0 n0 cs0 nb bs n1 cs1 a b w) fun _ _ _ ⟨a, b, e, h⟩ hx => ⟨a, b, e, h.ext hx⟩
theorem XB.j0 (hm : Own w0 w (⟨g, e, bs⟩ :: (M ++ R))) (hs : SlO M e sz v0 n0 cs0) : (JB w0 R e sz v0 n0 cs0 nb bs n1 cs1).J (([none, none] : List (Option Value)).set 0 (some (.slice (some ⟨g, 0, none⟩) nb nb))) w := ⟨some _, none, rfl, g, M, rfl, hm.perm List.perm_middle.symm, hs⟩
theorem XB.j1 (hm : Own w0 w (M ++ ⟨g, e, bs⟩ :: R)) (hs : SlO M e sz v n1 cs1) : (JB w0 R e sz v0 n0 cs0 nb bs n1 cs1).J (([some u, none] : List (Option Value)).set 1 (some v)) w := ⟨some u, some v, rfl, M, (hm.perm List.perm_middle).drop, hs⟩
end
theorem div16 : ∀ x : Byte, x / 16#8 = (x >>> 4) &&& 15#8 := by decide +kernel
theorem mod16 : ∀ x : Byte, x % 16#8 = x &&& 15#8 := by decide +kernel
theorem halvesr_step (b : List Byte) (k : Nat) : halvesL b 0 (2 * k) ++ [nth b k / 16#8, nth b k % 16#8] = halvesL b 0 (2 * (k + 1)) := by
  have e0 : nibL b (2 * k) = nth b k / 16#8 := by
    rw [div16, nibL, show 2 * k / 2 = k by omega, show 2 * k % 2 = 0 by omega]
  have e1 : nibL b (2 * k + 1) = nth b k % 16#8 := by
    rw [mod16, nibL, show (2 * k + 1) / 2 = k by omega, show (2 * k + 1) % 2 = 1 by omega]
    show (nth b k >>> 0) &&& 15#8 = _
    rw [BitVec.ushiftRight_zero]
  have hx := halvesL_length b 0 (2 * k)
  have hy := halvesL_length b 0 (2 * (k + 1))
  refine nth_ext (by rw [List.length_append, hx, hy]; simp; omega) fun i hi => ?_
  rw [List.length_append, hx] at hi
  simp only [List.length_cons, List.length_nil] at hi
  by_cases h : i < 2 * k
  · have e : nth (halvesL b 0 (2 * k) ++ [nth b k / 16#8, nth b k % 16#8]) i = nth (halvesL b 0 (2 * k)) i := by
      simp only [nth, List.getD_eq_getElem?_getD]
      rw [List.getElem?_append_left (by rw [hx]; exact h)]
    rw [e, halvesL, halvesL, nth_tab h, nth_tab (by omega)]
  · have e : nth (halvesL b 0 (2 * k) ++ [nth b k / 16#8, nth b k % 16#8]) i = nth [nth b k / 16#8, nth b k % 16#8] (i - 2 * k) := by
      simp only [nth, List.getD_eq_getElem?_getD]
      rw [List.getElem?_append_right (by rw [hx]; omega), hx]
    rw [e, halvesL, nth_tab (by omega), Nat.zero_add]
    rcases (show i = 2 * k ∨ i = 2 * k + 1 by omega) with q | q
    · subst q; rw [Nat.sub_self, e0]; rfl
    · subst q; rw [show 2 * k + 1 - 2 * k = 1 by omega, e1]; rfl
set_option maxHeartbeats 4000000 in
theorem rr_halves (l : List Byte) (p : Option Addr) (c : Nat) (hl : l.length ≤ 1000) (w0 : World) (hr : RdB w0 p l) :
    Calls Tryz.prog 50 #[.slice p l.length c] w0 fun e w' => ∃ v M, e = .returned v ∧ SlO M 5 1 v (2 * l.length) ((halvesL l 0 (2 * l.length)).map v8) ∧ Own w0 w' M := by
  have hm := Own.start w0
  have HR := Lib.hid hr
  have ES := Lib.hid (halvesr_step l)
  clear hr
  go_enter Tryz.func50, Tryz.ntmps50
  go_wp2_with fail
  go_loopw [3, 4] (fun o i wr => ∃ (k : Nat) (M : List Blk), k ≤ l.length ∧ i = .int .i64 k ∧ SlO M 5 1 o (2 * k) ((halvesL l 0 (2 * k)).map v8) ∧ Own w0 wr (M ++ [])) (fun _ i _ => l.length - (intOf i).toNat)
  case atStart => exact ⟨0, [], by omega, rfl, SlO.nil _ _, hm⟩
  case round =>
    obtain ⟨k, M, hk, rfl, hso, hm⟩ := hrel
    obtain ⟨po, co, rfl⟩ := hso.form
    have HSO := Lib.hid hso
    obtain ⟨L, hL⟩ : ∃ L : Nat, L = 2 * k := ⟨_, rfl⟩
    have es := ES.out k
    rw [← hL] at HSO es ⊢
    have HL := Lib.hid hL
    have HES := Lib.hid es
    clear hso hL es
    by_cases hlt : k < l.length
    · have hd : decide ((k : Int) < (l.length : Int)) = true := decide_eq_true (by omega)
      have hd2 : (k : Int) < (l.length : Int) := by omega
      obtain ⟨a, rfl⟩ := Option.isSome_iff_exists.1 (HR.out.1 (by omega))
      have FIT := Lib.hid (show (L + 2) * (1 + 1) ≤ 140737488355328 by have := HL.out; omega)
      generalize hT2 : halvesL l 0 (2 * (k + 1)) = T2 at *
      generalize halvesL l 0 L = T1 at *
      have HT2 := Lib.hid hT2
      have rl := Lib.hid fun wx (h : Ext w0 wx) => HR.out.ext h
      clear hT2
      go_wp2_with fail
      refine pregion 13 (JB w0 [] 5 1 (.slice po L co) L (T1.map v8) 2 [v8 (nth l k / 16#8), v8 (nth l k % 16#8)] (L + 2) (T1.map v8 ++ [nth l k / 16#8, nth l k % 16#8].map v8)) [11, 12] 25 (by kernel_rfl) (by kernel_rfl) rfl (⟨none, none, rfl, M, hm.ext (drew_ext _), HSO.out⟩) ?_
      simp only [tSC, List.take_zero, dSC, List.drop_zero, List.map_cons, List.map_nil]
      repeat (first
          | (apply pwalk_is rfl rfl rfl rfl
             · (intro vs_ wx hJ_; obtain ⟨a_, b_, rfl, hX_⟩ := hJ_; have hm := hX_.low; have hwx := hm.x; (with_reducible apply gq_rdb ((rl.out) wx hwx)); infer_instance; (exact rfl); (focus (first | omega | (simp; omega) | (refine Nat.lt_of_lt_of_le (BitVec.isLt _) ?_; first | omega | (simp; done) | (simp; omega) | fail) | fail)))
             · (simp only [Act.put, sIB, sCS, sCZ]; rfl))
          | (apply pwalk_mark (T := []) 0 [] rfl rfl rfl (by kernel_rfl) rfl
             · (intro vs_ wx hJ_ hn_ hD_; simp only [pwithS]; obtain ⟨a_, b_, rfl, hX_⟩ := hJ_; obtain rfl : a_ = none := (by simpa using hn_); obtain ⟨rfl, M_, hm, hs_⟩ := hX_.at0; refine ⟨rfl, ?_⟩; (with_reducible apply wq_bs2c (bs2_b (nth l k / 16#8) (nth l k % 16#8)) hm); (exact rfl); (exact rfl); (exact rfl); clear hm; intro gz w_ hm; exact mark_end rfl (XB.j0 hm hs_)))
          | (apply pwalk_mark (T := [(22, PMk 0)]) 1 [0] rfl rfl rfl (by kernel_rfl) rfl
             · (intro vs_ wx hJ_ hn_ hD_; simp only [pwithS]; obtain ⟨a_, b_, rfl, hX_⟩ := hJ_; obtain rfl : b_ = none := (by simpa using hn_); intro x_ hx_; obtain rfl : a_ = some x_ := (by simpa [PMk] using hx_); obtain ⟨gz, M_, rfl, hm, hs_⟩ := hX_; refine ⟨rfl, ?_⟩; refine wplO_app (M := M_) (R := [⟨gz, 5, [v8 (nth l k / 16#8), v8 (nth l k % 16#8)]⟩]) (ds := [nth l k / 16#8, nth l k % 16#8].map v8) hm hs_ rfl rfl rfl rfl Tryz.underlying22 rfl (cells_b (hm.rdB (g := gz) (l := [nth l k / 16#8, nth l k % 16#8]) (by repeat (first | exact Has.hd | assumption | apply Has.tl | apply Has.app)))) (one_map _) FIT.out ?_; intro v_ w_ M1_ hm1_ hs1_; exact mark_end rfl (XB.j1 hm1_ hs1_)))
          | (apply pwalk_is rfl rfl rfl rfl
             · (intro vs_ wx hJ_; obtain ⟨a_, b_, rfl, hX_⟩ := hJ_; have hm := hX_.low; have hwx := hm.x; first | ((with_reducible show gives _ _ _ (Sem.run _ (execOp _ (Oper.mk _ (Op.load _ _) _ _ _ _)) _)); first | ((with_reducible apply gq_ldv hm); infer_instance; (exact rfl); (focus ((repeat (first | exact .hd | assumption | apply Has.tl | apply Has.app)); done)); (focus (first | omega | (simp; omega) | (refine Nat.lt_of_lt_of_le (BitVec.isLt _) ?_; first | omega | (simp; done) | (simp; omega) | fail) | fail))) | ((with_reducible apply gq_ldW hm); infer_instance; (exact rfl); (focus ((repeat (first | exact .hd | assumption | apply Has.tl | apply Has.app)); done)); (focus (first | rfl | omega | (simp; done) | (simp; omega) | fail))) | ((with_reducible apply gq_ld1 hm); infer_instance; (exact rfl); (focus ((repeat (first | exact .hd | assumption | apply Has.tl | apply Has.app)); done)); (exact rfl)) | fail) | (go_simp; (try go_bits); first | exact gives_same | exact gives_skip))
             · (simp only [Act.put, sIB, sCS, sCZ]; rfl)))
      intro vs_ wz hJ_ hl_ hall_
      simp only [zCC, zNR]
      repeat rw [pfin_is]
      rw [pfin_cons]; intro x22 hx22
      repeat rw [pfin_is]
      rw [pfin_cons]; intro x23 hx23
      repeat rw [pfin_is]
      rw [pfin_nil]
      simp only [Act.put, sIB, sCS, sCZ]
      obtain ⟨a_, b_, rfl, hX_⟩ := hJ_
      obtain ⟨p_, q_, rfl, rfl⟩ := some2 hall_
      obtain rfl := pmk0 hx22
      obtain rfl := pmk1 hx23
      clear hm
      obtain ⟨M1, hm, hs1⟩ := hX_
      obtain ⟨p1, c1, rfl⟩ := hs1.form
      clear hx22 hx23 hl_ hall_
      go_wp2_with fail
      go_roundw
      case rel => exact ⟨k + 1, M1, by omega, by go_num, by rw [HT2.out, ← HES.out, List.map_append, show 2 * (k + 1) = L + 2 by have := HL.out; omega]; exact hs1, hm⟩
      case measure => simp [intOf] <;> omega
    · obtain rfl : k = l.length := by omega
      have hd : decide ((l.length : Int) < (l.length : Int)) = false := decide_eq_false (by omega)
      go_wp2_with fail
      go_ret
      exact ⟨.slice po L co, M, rfl, by have := HL.out; subst this; exact HSO.out, by simpa using hm⟩

theorem joinr_two (x y : Byte) : x % 16#8 * 16#8 + y % 16#8 = ((x &&& 15#8) <<< 4) ||| (y &&& 15#8) := by
  rw [mod16, mod16]
  have key : ∀ i j : Fin 16, BitVec.ofNat 8 i.val * 16#8 + BitVec.ofNat 8 j.val = (BitVec.ofNat 8 i.val <<< 4) ||| BitVec.ofNat 8 j.val := by decide +kernel
  obtain ⟨i, hi⟩ := lo_nib x
  obtain ⟨j, hj⟩ := lo_nib y
  rw [hi, hj]; exact key i j
theorem joinr_one (x : Byte) : x % 16#8 * 16#8 = ((x &&& 15#8) <<< 4) ||| (0#8 &&& 15#8) := by
  rw [← joinr_two]
  simp
theorem joinr_at (l : List Byte) (k q r : Nat) (hq : q = 2 * k) (hr : r = q + 1) (h : q < l.length) : nth (joinN l) k = ((nth l q &&& 15#8) <<< 4) ||| (nth l r &&& 15#8) := by
  subst hr; subst hq
  rw [joinN, nth_tab (by omega)]
theorem take_nth (l : List Byte) (k : Nat) (h : k < l.length) : l.take k ++ [nth l k] = l.take (k + 1) := by
  rw [List.take_add_one]
  congr 1
  simp [nth, h]
set_option maxHeartbeats 4000000 in
theorem rr_join (l : List Byte) (p : Option Addr) (c : Nat) (hl : l.length ≤ 1000) (w0 : World) (hr : RdB w0 p l) :
    Calls Tryz.prog 52 #[.slice p l.length c] w0 fun e w' => ∃ v M, e = .returned v ∧ SlO M 5 1 v ((l.length + 1) / 2) ((joinN l).map v8) ∧ Own w0 w' M := by
  have hm := Own.start w0
  have HR := Lib.hid hr
  have lJ := joinN_length l
  obtain ⟨m, hm2⟩ : ∃ m, m = (l.length + 1) / 2 := ⟨_, rfl⟩
  have TN := Lib.hid fun k (h : k < m) => take_nth (joinN l) k (by omega)
  have AT := Lib.hid fun k q r => joinr_at l k q r
  have TE := Lib.hid (show (joinN l).take m = joinN l from List.take_of_length_le (by omega))
  rw [← hm2]
  have HM := Lib.hid hm2
  clear hr hm2 lJ
  generalize joinN l = J at *
  go_enter Tryz.func52, Tryz.ntmps52
  go_wp2_with fail
  go_loopw [3, 4] (fun o i wr => ∃ (k q : Nat) (M : List Blk), k ≤ m ∧ q = 2 * k ∧ i = .int .i64 (q : Int) ∧ SlO M 5 1 o k ((J.take k).map v8) ∧ Own w0 wr (M ++ [])) (fun _ i _ => l.length + 1 - (intOf i).toNat)
  case atStart => exact ⟨0, 0, [], by omega, rfl, rfl, SlO.nil _ _, hm⟩
  case round =>
    obtain ⟨k, q, M, hk, hq, rfl, hso, hm⟩ := hrel
    obtain ⟨po, co, rfl⟩ := hso.form
    have HSO := Lib.hid hso
    have HQ := Lib.hid hq
    clear hso hq
    by_cases hlt : q < l.length
    · have hd : decide ((q : Int) < (l.length : Int)) = true := decide_eq_true (by omega)
      have hd2 : (q : Int) < (l.length : Int) := by omega
      have hkm : k < m := by have := HQ.out; have := HM.out; omega
      have hc := (HR.out.ext hm.x).at q hlt
      obtain ⟨r, hr⟩ : ∃ r, r = q + 1 := ⟨_, rfl⟩
      have x1 : (q : Int) + 1 = (r : Int) := by omega
      have ea := AT.out k q r HQ.out hr hlt
      have et := TN.out k hkm
      rw [ea] at et
      have HT := Lib.hid et
      have HRR := Lib.hid hr
      obtain ⟨a, rfl⟩ := Option.isSome_iff_exists.1 (HR.out.1 (by omega))
      simp only [Option.getD_some] at hc
      rw [show l.getD q 0 = nth l q from rfl] at hc
      have FIT := Lib.hid (show (k + 1) * (1 + 1) ≤ 140737488355328 by have := HM.out; omega)
      clear ea et
      by_cases h1 : r < l.length
      · have hd3 : decide ((r : Int) < (l.length : Int)) = true := decide_eq_true (by omega)
        have hd4 : (r : Int) < (l.length : Int) := by omega
        have hc1 := (HR.out.ext hm.x).at r h1
        simp only [Option.getD_some] at hc1
        rw [show l.getD r 0 = nth l r from rfl] at hc1
        clear hr
        rw [← joinr_two] at HT
        go_wp2_with (first | ((with_reducible apply wq_bs1c (bs1_b (nth l q % 16#8 * 16#8 + nth l r % 16#8)) hm); exact rfl; exact rfl; clear hm hc hc1; intro gz w hm) | ((with_reducible show wpList _ _ _ (Oper.mk _ (Op.call _) _ _ _ _ :: _) _ _); refine wplO_app (M := M) (R := _) (ds := [nth l q % 16#8 * 16#8 + nth l r % 16#8].map v8) (hm.perm (List.perm_middle.symm)) HSO.out rfl rfl rfl rfl Tryz.underlying22 rfl (cells_b (hm.rdB (g := gz) (l := [nth l q % 16#8 * 16#8 + nth l r % 16#8]) (by repeat (first | exact Has.hd | assumption | apply Has.tl | apply Has.app)))) (one_map _) FIT.out ?_; clear hm; intro v1 w M1 hm hs1; obtain ⟨p_v1, c_v1, rfl⟩ := hs1.form; replace hm := hm.perm (List.perm_middle)) | fail)
        go_roundw
        case rel => exact ⟨k + 1, q + 2, M1, by omega, by have := HQ.out; omega, by go_num, by rw [← HT.out, List.map_append]; exact hs1, by simpa using hm.drop⟩
        case measure => simp [intOf] <;> omega
      · have hd3 : decide ((r : Int) < (l.length : Int)) = false := decide_eq_false (by omega)
        have hd4 : ¬ (r : Int) < (l.length : Int) := by omega
        rw [show nth l r = 0#8 from nth_ge (by omega), ← joinr_one] at HT
        clear hr
        go_wp2_with (first | ((with_reducible apply wq_bs1c (bs1_b (nth l q % 16#8 * 16#8)) hm); exact rfl; exact rfl; clear hm hc; intro gz w hm) | ((with_reducible show wpList _ _ _ (Oper.mk _ (Op.call _) _ _ _ _ :: _) _ _); refine wplO_app (M := M) (R := _) (ds := [nth l q % 16#8 * 16#8].map v8) (hm.perm (List.perm_middle.symm)) HSO.out rfl rfl rfl rfl Tryz.underlying22 rfl (cells_b (hm.rdB (g := gz) (l := [nth l q % 16#8 * 16#8]) (by repeat (first | exact Has.hd | assumption | apply Has.tl | apply Has.app)))) (one_map _) FIT.out ?_; clear hm; intro v1 w M1 hm hs1; obtain ⟨p_v1, c_v1, rfl⟩ := hs1.form; replace hm := hm.perm (List.perm_middle)) | fail)
        go_roundw
        case rel => exact ⟨k + 1, q + 2, M1, by omega, by have := HQ.out; omega, by go_num, by rw [← HT.out, List.map_append]; exact hs1, by simpa using hm.drop⟩
        case measure => simp [intOf] <;> omega
    · have hd : decide ((q : Int) < (l.length : Int)) = false := decide_eq_false (by omega)
      have e1 : k = m := by have := HQ.out; have := HM.out; omega
      subst e1
      rw [TE.out] at HSO
      go_wp2_with fail
      go_ret
      exact ⟨.slice po k co, M, rfl, HSO.out, by simpa using hm⟩

end Go.Proofs.YtaijfigohlkccaaGreatDoor
namespace Go.Proofs.YtaijfigohlkccaaGreatDoor
open Go Go.RowKit
set_option maxRecDepth 100000
set_option linter.unusedVariables false
set_option linter.unusedSimpArgs false

def makeT : Nat → List Byte
  | 0 => boxTab ++ zer 256
  | k + 1 => setN (makeT k) (256 + (nth (makeT k) k).toNat) (BitVec.ofNat 8 k)
theorem boxTab_length : boxTab.length = 256 := tab_length
theorem makeT_length (k : Nat) : (makeT k).length = 512 := by
  induction k with
  | zero => rw [makeT, List.length_append, boxTab_length, zer_length]
  | succ k ih => rw [makeT, setN_length, ih]
theorem makeT_all : makeT 256 = tabs := by rw [tabs_lit]; decide +kernel
theorem build_box (w : World) : (Instr.build 35 #[(0, A8 boxTab)]).run Tryz.prog w = .ok (A8 (makeT 0)) w := by kernel_rfl
attribute [local simp] makeT_length

set_option maxHeartbeats 2000000 in
theorem rmake_any (w0 : World) : Gives Tryz.prog 11 #[] w0 (A8 tabs) := by
  unfold Gives
  have hm := Own.start w0
  go_enter Tryz.func11, Tryz.ntmps11
  go_wp2_with (first | (go_at_call 40; (with_reducible refine (rtable_any _).mono ?_); rintro e_ w ⟨rfl, hx_⟩; replace hm := hm.ext hx_; clear hx_) | ((with_reducible apply wq_build1 build_box); exact rfl; exact rfl) | ((((with_reducible show wpList _ _ _ (Oper.mk _ (Op.store _ _ _) _ _ _ _ :: _) _ _); first | ((with_reducible apply wq_stW hm); (exact rfl); infer_instance; (exact rfl); (exact rfl); (focus ((repeat (first | exact .hd | assumption | apply Swap.tl)); done)); (focus (first | rfl | omega | (simp; done) | (simp; omega) | fail)); (focus (first | rfl | omega | (simp; done) | (simp; omega) | fail)); (focus (first | exact one_map _ | (simp [one8, one32, one64]; done) | fail))) | fail)); clear hm; intro w hm) | ((first | ((with_reducible show wpList _ _ _ (Oper.mk _ (Op.alloc _) _ _ _ _ :: _) _ _); first | ((with_reducible apply wq_new hm); (exact rfl); infer_instance) | fail)); clear hm; (first | (have hx_ := g1; clear hx_; (first | (have hx_ := g2; clear hx_; intro gx_) | intro g2)) | intro g1); intro w hm) | fail)
  go_loopw [2] (fun i wr => ∃ k : Nat, k ≤ 256 ∧ i = .int .i64 k ∧ Own w0 wr [⟨g2, 35, (makeT k).map v8⟩, ⟨g1, 35, (zer 512).map v8⟩]) (fun i _ => 256 - (intOf i).toNat)
  case atStart => exact ⟨0, by omega, rfl, hm⟩
  case round =>
    obtain ⟨k, hk, rfl, hm⟩ := hrel
    by_cases hlt : k < 256
    · have hx := (nth (makeT k) k).isLt
      have hx9 : ((nth (makeT k) k).toNat : Int) < 256 := by omega
      clear hx
      go_wp2_with (first | ((with_reducible show wpList _ _ _ (Oper.mk _ (Op.load _ _) _ _ _ _ :: _) _ _); first | ((with_reducible apply wq_ldv hm); (exact rfl); infer_instance; (exact rfl); (focus ((repeat (first | exact .hd | assumption | apply Has.tl)); done)); (focus (first | omega | (simp; omega) | (refine Nat.lt_of_lt_of_le (BitVec.isLt _) ?_; first | omega | (simp; done) | (simp; omega) | fail) | fail))) | fail) | ((((with_reducible show wpList _ _ _ (Oper.mk _ (Op.store _ _ _) _ _ _ _ :: _) _ _); first | ((with_reducible apply wq_st8i hm); (exact rfl); infer_instance; (exact rfl); (exact rfl); (focus ((repeat (first | exact .hd | assumption | apply Swap.tl)); done)); (focus omega); (focus (first | omega | (simp; omega) | (refine Nat.lt_of_lt_of_le (BitVec.isLt _) ?_; first | omega | (simp; done) | (simp; omega) | fail) | fail))) | fail)); clear hm; intro w hm) | fail)
      go_roundw
      case rel => exact ⟨k + 1, by omega, by go_num, by rw [makeT]; exact hm⟩
      case measure => simp [intOf] <;> omega
    · obtain rfl : k = 256 := by omega
      rw [makeT_all] at hm
      have tl := tabs_length
      go_wp2_with (first | ((with_reducible show wpList _ _ _ (Oper.mk _ (Op.load _ _) _ _ _ _ :: _) _ _); first | ((with_reducible apply wq_ldW hm); (exact rfl); infer_instance; (exact rfl); (focus ((repeat (first | exact .hd | assumption | apply Has.tl)); done)); (focus (first | rfl | omega | (simp; done) | (simp; omega) | fail))) | fail) | ((((with_reducible show wpList _ _ _ (Oper.mk _ (Op.store _ _ _) _ _ _ _ :: _) _ _); first | ((with_reducible apply wq_stW hm); (exact rfl); infer_instance; (exact rfl); (exact rfl); (focus ((repeat (first | exact .hd | assumption | apply Swap.tl)); done)); (focus (first | rfl | omega | (simp; done) | (simp; omega) | fail)); (focus (first | rfl | omega | (simp; done) | (simp; omega) | fail)); (focus (first | exact one_map _ | (simp [one8, one32, one64]; done) | fail))) | fail)); clear hm; intro w hm) | fail)
      refine ret_own hm rfl rfl (by infer_instance) (by repeat (first | exact Has.hd | assumption | apply Has.tl)) (by first | rfl | omega | (simp only [zeros_length, zer_length, tab_length, part_length, setN_length, List.length_map, List.length_cons, List.length_nil, List.length_append, List.length_take, List.length_drop, List.length_replicate, blk_length, putL_length] <;> omega) | fail) rfl ⟨rfl, hm.x⟩

end Go.Proofs.YtaijfigohlkccaaGreatDoor
namespace Go.Proofs.YtaijfigohlkccaaGreatDoor
open Go Go.RowKit
set_option linter.unusedVariables false
set_option linter.unusedSimpArgs false
set_option maxRecDepth 100000

theorem build_rk (w : World) : (Instr.build 39 #[(0, A8 tabs)]).run Tryz.prog w = .ok (A8 (tabs ++ zer 48)) w := by
  rw [tabs_lit]
  kernel_rfl

end Go.Proofs.YtaijfigohlkccaaGreatDoor
