/-
  Two variables declared in one assignment: a region whose new variables and stores come in an order that is drawn. No conditions beyond those written in each theorem.
  Two variables declared in one assignment, beside slices that are built in the same region. No conditions beyond those written in each theorem.
  One or two appends to an own slice, in a region that draws its order. No conditions beyond those written in each theorem.
-/
import Derived.Test.YtaijfigohlkccaaGreatDoorZCoreTurns0
import Derived.Test.YtaijfigohlkccaaGreatDoorZCoreTurns16
import Derived.Test.YtaijfigohlkccaaGreatDoorZCoreTurns6
import Derived.Test.YtaijfigohlkccaaGreatDoorZCoreTurns8
import Derived.Test.YtaijfigohlkccaaGreatDoorZCoreTurns14
set_option linter.unusedSimpArgs false
set_option linter.unusedVariables false
namespace Go.Proofs.YtaijfigohlkccaaGreatDoor
open Go Go.RowKit
set_option maxRecDepth 100000
def blkO (a c : Option Value) (T : TypeId) (z x : List Value) : List Blk :=
 match a with
 | some (.pointer (some p)) => [⟨p.block, T, if c.isSome then x else z⟩]
 | _ => []
structure TwoV (w0 : World) (L : List Blk) (T : TypeId) (z x y : List Value) (a b c d : Option Value) (w : World) : Prop where
 pa : ∀ v, a = some v → ∃ g, v = .pointer (some ⟨g, 0, none⟩)
 pb : ∀ v, b = some v → ∃ g, v = .pointer (some ⟨g, 0, none⟩)
 ca : a = none → c = none
 db : b = none → d = none
 own : Own w0 w (blkO a c T z x ++ (blkO b d T z y ++ L))
section
variable {w0 w w' : World} {L : List Blk} {T : TypeId} {z x y : List Value} {a b c d : Option Value} {g : Nat} {u v : Value}
theorem TwoV.low (h : TwoV w0 L T z x y a b c d w) : Own w0 w L := h.own.dropN.dropN
theorem TwoV.ext (h : TwoV w0 L T z x y a b c d w) (hx : Ext w w') : TwoV w0 L T z x y a b c d w' := ⟨h.pa, h.pb, h.ca, h.db, h.own.ext hx⟩
theorem TwoV.start (h : Own w0 w L) : TwoV w0 L T z x y none none none none w := ⟨by simp, by simp, fun _ => rfl, fun _ => rfl, h⟩
theorem TwoV.oa (h : TwoV w0 L T z x y none b c d w) : Own w0 w (blkO b d T z y ++ L) := h.own
theorem TwoV.ob (h : TwoV w0 L T z x y a none c d w) : Own w0 w (blkO a c T z x ++ L) := h.own
theorem TwoV.na (h : TwoV w0 L T z x y none b c d w) (hm : Own w0 w' (⟨g, T, z⟩ :: (blkO b d T z y ++ L))) : TwoV w0 L T z x y (some (.pointer (some ⟨g, 0, none⟩))) b c d w' := by
 obtain rfl := h.ca rfl
 exact ⟨fun v e => ⟨g, (Option.some.inj e).symm⟩, h.pb, by simp, h.db, hm⟩
theorem TwoV.nb (h : TwoV w0 L T z x y a none c d w) (hm : Own w0 w' (⟨g, T, z⟩ :: (blkO a c T z x ++ L))) : TwoV w0 L T z x y a (some (.pointer (some ⟨g, 0, none⟩))) c d w' := by
 obtain rfl := h.db rfl
 exact ⟨h.pa, fun v e => ⟨g, (Option.some.inj e).symm⟩, h.ca, by simp, hm.perm List.perm_middle.symm⟩
theorem TwoV.sa (h : TwoV w0 L T z x y (some v) b none d w) : ∃ g, v = .pointer (some ⟨g, 0, none⟩) ∧ Own w0 w (⟨g, T, z⟩ :: (blkO b d T z y ++ L)) := by
 obtain ⟨g, rfl⟩ := h.pa _ rfl
 exact ⟨g, rfl, h.own⟩
theorem TwoV.sb (h : TwoV w0 L T z x y a (some v) c none w) : ∃ g, v = .pointer (some ⟨g, 0, none⟩) ∧ Own w0 w (⟨g, T, z⟩ :: (blkO a c T z x ++ L)) := by
 obtain ⟨g, rfl⟩ := h.pb _ rfl
 exact ⟨g, rfl, h.own.perm List.perm_middle⟩
theorem TwoV.wa (h : TwoV w0 L T z x y (some (.pointer (some ⟨g, 0, none⟩))) b none d w) (hm : Own w0 w' (⟨g, T, x⟩ :: (blkO b d T z y ++ L))) : TwoV w0 L T z x y (some (.pointer (some ⟨g, 0, none⟩))) b (some u) d w' :=
 ⟨h.pa, h.pb, (by simp), h.db, hm⟩
theorem TwoV.wb (h : TwoV w0 L T z x y a (some (.pointer (some ⟨g, 0, none⟩))) c none w) (hm : Own w0 w' (⟨g, T, y⟩ :: (blkO a c T z x ++ L))) : TwoV w0 L T z x y a (some (.pointer (some ⟨g, 0, none⟩))) c (some u) w' :=
 ⟨h.pa, h.pb, h.ca, (by simp), hm.perm List.perm_middle.symm⟩
theorem TwoV.fin {v' u' : Value} (h : TwoV w0 L T z x y (some v) (some v') (some u) (some u') w) : ∃ g g', v = .pointer (some ⟨g, 0, none⟩) ∧ v' = .pointer (some ⟨g', 0, none⟩) ∧ Own w0 w (⟨g, T, x⟩ :: ⟨g', T, y⟩ :: L) := by
 obtain ⟨g, rfl⟩ := h.pa _ rfl
 obtain ⟨g', rfl⟩ := h.pb _ rfl
 exact ⟨g, g', rfl, rfl, h.own⟩
end
def J4 (X : Option Value → Option Value → Option Value → Option Value → World → Prop) (s : List (Option Value)) (w : World) : Prop := ∃ a b c d, s = [a, b, c, d] ∧ X a b c d w
def K2 (w0 : World) (L : List Blk) (T : TypeId) (z x y : List Value) : Marks :=
 Marks.of (J4 (TwoV w0 L T z x y)) fun _ _ _ ⟨a, b, c, d, e, h⟩ hx => ⟨a, b, c, d, e, h.ext hx⟩
theorem some4 {a b c d : Option Value} (h : ∀ i, i < 4 → ∃ x, ([a, b, c, d] : List (Option Value))[i]? = some (some x)) : ∃ p q r s, a = some p ∧ b = some q ∧ c = some r ∧ d = some s := by
 obtain ⟨p, hp⟩ := h 0 (by omega)
 obtain ⟨q, hq⟩ := h 1 (by omega)
 obtain ⟨r, hr⟩ := h 2 (by omega)
 obtain ⟨s, hs⟩ := h 3 (by omega)
 simp at hp hq hr hs
 exact ⟨p, q, r, s, hp, hq, hr, hs⟩
theorem mark_end {P : Program} {ops : Array Oper} {D : List Deferred} {d : Option Nat} {X : Value → World → Prop} {a : Act} {w : World} (hd : a.defers = D) (h : saidM d a fun v => X v w) :
   wpList P ops (fun e a' w' => e = .normal ∧ a'.defers = D ∧ saidM d a' fun v => X v w') [] a w := ⟨rfl, hd, h⟩
section
variable {w0 w w' : World} {L : List Blk} {T : TypeId} {z x y : List Value} {a b c d : Option Value} {g : Nat} {u v : Value}
theorem TwoV.j0 (h : TwoV w0 L T z x y none b c d w) (hm : Own w0 w' (⟨g, T, z⟩ :: (blkO b d T z y ++ L))) : J4 (TwoV w0 L T z x y) (([none, b, c, d] : List (Option Value)).set 0 (some (.pointer (some ⟨g, 0, none⟩)))) w' := ⟨_, _, _, _, rfl, h.na hm⟩
theorem TwoV.j1 (h : TwoV w0 L T z x y a none c d w) (hm : Own w0 w' (⟨g, T, z⟩ :: (blkO a c T z x ++ L))) : J4 (TwoV w0 L T z x y) (([a, none, c, d] : List (Option Value)).set 1 (some (.pointer (some ⟨g, 0, none⟩)))) w' := ⟨_, _, _, _, rfl, h.nb hm⟩
theorem TwoV.j2 (h : TwoV w0 L T z x y (some (.pointer (some ⟨g, 0, none⟩))) b none d w) (hm : Own w0 w' (⟨g, T, x⟩ :: (blkO b d T z y ++ L))) : J4 (TwoV w0 L T z x y) (([some (.pointer (some ⟨g, 0, none⟩)), b, none, d] : List (Option Value)).set 2 (some u)) w' := ⟨_, _, _, _, rfl, h.wa hm⟩
theorem TwoV.j3 (h : TwoV w0 L T z x y a (some (.pointer (some ⟨g, 0, none⟩))) c none w) (hm : Own w0 w' (⟨g, T, y⟩ :: (blkO a c T z x ++ L))) : J4 (TwoV w0 L T z x y) (([a, some (.pointer (some ⟨g, 0, none⟩)), c, none] : List (Option Value)).set 3 (some u)) w' := ⟨_, _, _, _, rfl, h.wb hm⟩
end
theorem pmk0 {x p : Value} {l : List (Option Value)} {w : World} (h : PMk 0 x (some p :: l) w) : p = x := by simpa [PMk] using h
theorem pmk1 {x p : Value} {q : Option Value} {l : List (Option Value)} {w : World} (h : PMk 1 x (q :: some p :: l) w) : p = x := by simpa [PMk] using h
end Go.Proofs.YtaijfigohlkccaaGreatDoor
namespace Go.Proofs.YtaijfigohlkccaaGreatDoor
open Go Go.RowKit
set_option maxRecDepth 100000
def ptrAt (vs : List (Option Value)) (g : Nat) : Prop := vs[0]? = some (some (.pointer (some ⟨g, 0, none⟩))) ∨ vs[1]? = some (some (.pointer (some ⟨g, 0, none⟩)))
def K2X (w0 : World) (L : List Blk) (T : TypeId) (z x y : List Value) : Marks where
 J := J4 (TwoV w0 L T z x y)
 Sp vs i v w w' := J4 (TwoV w0 L T z x y) (vs.set i (some v)) w' ∧ (∀ (k : Nat) (o : Obj), w.heap[k]? = some o → ¬ ptrAt vs k → w'.heap[k]? = some o) ∧ (i < 2 → ∀ g, v = .pointer (some ⟨g, 0, none⟩) → w.heap.size ≤ g)
 jext := fun _ _ _ ⟨a, b, c, d, e, h⟩ hx => ⟨a, b, c, d, e, h.ext hx⟩
 jmark := fun _ _ _ _ _ _ _ h => h.1
def KeysP (ks : List (List Byte)) : PSlot := fun v vs w => ∃ g e, v = .slice (some ⟨g, 0, none⟩) ks.length ks.length ∧ Row w g e (catV ks) ∧ ¬ ptrAt vs g
theorem KeysP.stable {w0 : World} {L : List Blk} {T : TypeId} {z x y : List Value} (ks : List (List Byte)) : PStable (K2X w0 L T z x y).Sp (KeysP ks) where
 ext := fun _ _ _ _ ⟨g, e, h1, h2, h3⟩ hx => ⟨g, e, h1, row_ext h2 hx, h3⟩
 mark := fun v vs i x w w' ⟨g, e, h1, h2, h3⟩ hn hS => by
   refine ⟨g, e, h1, hS.2.1 g _ h2 h3, ?_⟩
   have hlt : g < w.heap.size := (Array.getElem?_eq_some_iff.1 h2).1
   have key : ∀ j, j < 2 → (vs.set i (some x))[j]? = some (some (.pointer (some ⟨g, 0, none⟩))) → vs[j]? = some (some (.pointer (some ⟨g, 0, none⟩))) := by
     intro j hj h
     by_cases e : i = j
     · subst e
       have hl := (List.getElem?_eq_some_iff.1 hn).1
       rw [List.getElem?_set_self hl] at h
       have := hS.2.2 hj g (by simpa using h)
       omega
     · rwa [List.getElem?_set_ne e] at h
   rintro (h | h)
   · exact h3 (.inl (key 0 (by omega) h))
   · exact h3 (.inr (key 1 (by omega) h))
section
variable {w0 w w' : World} {L : List Blk} {T : TypeId} {z x y : List Value} {a b c d : Option Value} {g : Nat} {u v : Value}
theorem TwoV.old (h : TwoV w0 L T z x y a b c d w) : ∀ g, ptrAt [a, b, c, d] g → g < w.heap.size := by
 intro g hg
 have own : ∀ cs, Has (blkO a c T z x ++ (blkO b d T z y ++ L)) ⟨g, T, cs⟩ → g < w.heap.size := fun cs hh => (Array.getElem?_eq_some_iff.1 (h.own.row hh)).1
 rcases hg with hg | hg
 · have : a = some (.pointer (some ⟨g, 0, none⟩)) := by simpa using hg
   subst this
   exact own _ .hd
 · have : b = some (.pointer (some ⟨g, 0, none⟩)) := by simpa using hg
   subst this
   exact own _ (Has.app .hd)
theorem TwoV.x0 (h : TwoV w0 L T z x y none b c d w) (hm : Own w0 w' (⟨g, T, z⟩ :: (blkO b d T z y ++ L))) (hx : Ext w w') (hg : w.heap.size ≤ g) : (K2X w0 L T z x y).Sp [none, b, c, d] 0 (.pointer (some ⟨g, 0, none⟩)) w w' :=
 ⟨h.j0 hm, fun _ _ hk _ => hx.block hk, fun _ g' e => by cases e; exact hg⟩
theorem TwoV.x1 (h : TwoV w0 L T z x y a none c d w) (hm : Own w0 w' (⟨g, T, z⟩ :: (blkO a c T z x ++ L))) (hx : Ext w w') (hg : w.heap.size ≤ g) : (K2X w0 L T z x y).Sp [a, none, c, d] 1 (.pointer (some ⟨g, 0, none⟩)) w w' :=
 ⟨h.j1 hm, fun _ _ hk _ => hx.block hk, fun _ g' e => by cases e; exact hg⟩
theorem TwoV.x2 (h : TwoV w0 L T z x y (some (.pointer (some ⟨g, 0, none⟩))) b none d w) (hm : Own w0 w' (⟨g, T, x⟩ :: (blkO b d T z y ++ L))) (hk : ∀ (k : Nat) (o : Obj), w.heap[k]? = some o → k ≠ g → w'.heap[k]? = some o) : (K2X w0 L T z x y).Sp [some (.pointer (some ⟨g, 0, none⟩)), b, none, d] 2 u w w' :=
 ⟨h.j2 hm, fun k o ho hn => hk k o ho fun e => hn (.inl (by subst e; rfl)), fun h => absurd h (by omega)⟩
theorem TwoV.x3 (h : TwoV w0 L T z x y a (some (.pointer (some ⟨g, 0, none⟩))) c none w) (hm : Own w0 w' (⟨g, T, y⟩ :: (blkO a c T z x ++ L))) (hk : ∀ (k : Nat) (o : Obj), w.heap[k]? = some o → k ≠ g → w'.heap[k]? = some o) : (K2X w0 L T z x y).Sp [a, some (.pointer (some ⟨g, 0, none⟩)), c, none] 3 u w w' :=
 ⟨h.j3 hm, fun k o ho hn => hk k o ho fun e => hn (.inr (by subst e; rfl)), fun h => absurd h (by omega)⟩
end
section
variable {P : Program} {ops : Array Oper} {Q : Exit → Act → World → Prop} {rest : List Oper} {dst : Option Tmp} {ty : TypeId} {pos : String} {aft : Array Edge} {gd : Option (Nat × Bool)} {a : Act} {w0 w : World} {L L' : List Blk} {T t e : TypeId} {x y : Operand} {g n : Nat} {cs cs' : List Value}
theorem wq_newX (hm : Own w0 w L) (hgd : Region.wanted (Oper.mk dst (.alloc T) ty pos aft gd) (yielded ops a.tmps) = true) (hT : ZeroOf P T cs)
   (hr : ∀ g w', Own w0 w' (⟨g, T, cs⟩ :: L) → Ext w w' → w.heap.size ≤ g → wpList P ops Q rest (a.put dst (.pointer (some ⟨g, 0, none⟩))) w') : wpList P ops Q ((Oper.mk dst (.alloc T) ty pos aft gd) :: rest) a w :=
 wpList_want hgd fun K hK => by
   obtain ⟨u, hu, hz⟩ := run_zero (P := P) (T := T) (cs := cs) (w := w)
   unfold Oper.wp execOp
   simp only [Instr.alloc, Sem.run_bind, hz, Result.andThen_ok, new_run, Sem.run_pure, hu]
   exact hK _ _ (hr _ _ (hm.alloc T cs) (Ext.alloc (Ext.refl w) _) (Nat.le_refl _))
theorem wq_stWX (hm : Own w0 w L) (hgd : Region.wanted (Oper.mk dst (.store T x y) ty pos aft gd) (yielded ops a.tmps) = true) (hT : Many P T n) (hx : a.eval x = .pointer (some ⟨g, 0, none⟩)) (hy : a.eval y = .agg cs'.toArray) (hs : Swap L ⟨g, t, cs⟩ ⟨g, t, cs'⟩ L') (hl : cs'.length = n) (hl2 : cs.length = n) (h1 : ∀ v ∈ cs', v.oneCell' = true)
   (hr : ∀ w', Own w0 w' L' → (∀ (k : Nat) (o : Obj), w.heap[k]? = some o → k ≠ g → w'.heap[k]? = some o) → wpList P ops Q rest (a.put dst undef) w') : wpList P ops Q ((Oper.mk dst (.store T x y) ty pos aft gd) :: rest) a w :=
 wpList_want hgd fun K hK => by
   have hrow := hm.row hs.has
   have hrun := run_storeAt_row (P := P) (T := T) hrow (by rw [hl, hl2]) (by rw [hl]; exact hT.size) h1
   unfold Oper.wp execOp
   simp only [hx, hy, Sem.run_bind, hrun, Result.andThen_ok]
   exact hK _ _ (hr _ (hm.turn hs) fun k o hk hne => by rw [setRow_other]; exact hk; exact hne)
theorem gqp_bs2 {z u v : List Value} {b c d f : Option Value} {u0 u1 : Value} {x0 x1 : Operand} {ks : List (List Byte)} (hT : TwoV w0 L t z u v b c d f w) (hb : (Instr.buildSlice T 2 #[(0, u0), (1, u1)]).run P w = .ok (.slice (some ⟨w.heap.size, 0, none⟩) ks.length ks.length) (w.alloc (.cells (catV ks).toArray e))) (hx0 : a.eval x0 = u0) (hx1 : a.eval x1 = u1) :
   gives P w (fun v w' => KeysP ks v [b, c, d, f] w') ((execOp a.eval (Oper.mk dst (.buildSlice T 2 #[(0, x0), (1, x1)]) ty pos aft gd)).run P w) := by
 unfold execOp
 simp [hx0, hx1, hb]
 exact gives_val (V := fun v w' => KeysP ks v [b, c, d, f] w') (Ext.alloc (Ext.refl _) _) ⟨_, e, rfl, row_new w e (catV ks), fun h => by have := hT.old _ h; omega⟩
end
end Go.Proofs.YtaijfigohlkccaaGreatDoor
namespace Go.Proofs.YtaijfigohlkccaaGreatDoor
open Go Go.RowKit
set_option maxRecDepth 100000
def SlAt (w0 : World) (R : List Blk) (e : TypeId) (sz : Nat) (v : Value) (n : Nat) (cs : List Value) (w : World) : Prop := ∃ M, Own w0 w (M ++ R) ∧ SlO M e sz v n cs
section
variable {w0 w w' : World} {R : List Blk} {e : TypeId} {sz n n0 n1 n2 : Nat} {v v0 : Value} {cs cs0 cs1 cs2 : List Value}
theorem SlAt.ext (h : SlAt w0 R e sz v n cs w) (hx : Ext w w') : SlAt w0 R e sz v n cs w' := by
 obtain ⟨M, h1, h2⟩ := h; exact ⟨M, h1.ext hx, h2⟩
theorem SlAt.low (h : SlAt w0 R e sz v n cs w) : Own w0 w R := by obtain ⟨M, h1, _⟩ := h; exact h1.dropN
end
def X1 (w0 : World) (R : List Blk) (e : TypeId) (sz : Nat) (v0 : Value) (n0 : Nat) (cs0 : List Value) (n1 : Nat) (cs1 : List Value) : Option Value → World → Prop
 | none, w => SlAt w0 R e sz v0 n0 cs0 w
 | some v, w => SlAt w0 R e sz v n1 cs1 w
def JA1 (w0 : World) (R : List Blk) (e : TypeId) (sz : Nat) (v0 : Value) (n0 : Nat) (cs0 : List Value) (n1 : Nat) (cs1 : List Value) : Marks :=
 Marks.of (fun s w => ∃ a, s = [a] ∧ X1 w0 R e sz v0 n0 cs0 n1 cs1 a w) fun _ _ _ ⟨a, e, h⟩ hx => ⟨a, e, by cases a <;> exact SlAt.ext h hx⟩
def X2 (w0 : World) (R : List Blk) (e : TypeId) (sz : Nat) (v0 : Value) (n0 : Nat) (cs0 : List Value) (n1 : Nat) (cs1 : List Value) (n2 : Nat) (cs2 : List Value) : Option Value → Option Value → World → Prop
 | none, none, w => SlAt w0 R e sz v0 n0 cs0 w
 | some v, none, w => SlAt w0 R e sz v n1 cs1 w
 | some _, some v, w => SlAt w0 R e sz v n2 cs2 w
 | none, some _, _ => False
def JA2 (w0 : World) (R : List Blk) (e : TypeId) (sz : Nat) (v0 : Value) (n0 : Nat) (cs0 : List Value) (n1 : Nat) (cs1 : List Value) (n2 : Nat) (cs2 : List Value) : Marks :=
 Marks.of (fun s w => ∃ a b, s = [a, b] ∧ X2 w0 R e sz v0 n0 cs0 n1 cs1 n2 cs2 a b w) fun _ _ _ ⟨a, b, e, h⟩ hx => ⟨a, b, e, by cases a <;> cases b <;> first | exact SlAt.ext h hx | exact h⟩
section
variable {w0 w w' : World} {R : List Blk} {e : TypeId} {sz n n0 n1 n2 : Nat} {v v0 : Value} {cs0 cs1 cs2 : List Value} {a b : Option Value}
theorem X1.low (h : X1 w0 R e sz v0 n0 cs0 n1 cs1 a w) : Own w0 w R := by cases a <;> exact SlAt.low h
theorem X2.low (h : X2 w0 R e sz v0 n0 cs0 n1 cs1 n2 cs2 a b w) : Own w0 w R := by
 cases a <;> cases b <;> first | exact SlAt.low h | exact h.elim
theorem X1.j0 {M : List Blk} (hm : Own w0 w (M ++ R)) (hs : SlO M e sz v n1 cs1) : (JA1 w0 R e sz v0 n0 cs0 n1 cs1).J (([none] : List (Option Value)).set 0 (some v)) w := ⟨some v, rfl, M, hm, hs⟩
theorem X2.first (h : X2 w0 R e sz v0 n0 cs0 n1 cs1 n2 cs2 none b w) : b = none ∧ SlAt w0 R e sz v0 n0 cs0 w := by
 cases b
 · exact ⟨rfl, h⟩
 · exact h.elim
theorem X2.j0 {M : List Blk} (hm : Own w0 w (M ++ R)) (hs : SlO M e sz v n1 cs1) : (JA2 w0 R e sz v0 n0 cs0 n1 cs1 n2 cs2).J (([none, none] : List (Option Value)).set 0 (some v)) w := ⟨some v, none, rfl, M, hm, hs⟩
theorem X2.j1 {M : List Blk} {u : Value} (hm : Own w0 w (M ++ R)) (hs : SlO M e sz v n2 cs2) : (JA2 w0 R e sz v0 n0 cs0 n1 cs1 n2 cs2).J (([some u, none] : List (Option Value)).set 1 (some v)) w := ⟨some u, some v, rfl, M, hm, hs⟩
end
theorem some1 {a : Option Value} (h : ∀ i, i < 1 → ∃ x, ([a] : List (Option Value))[i]? = some (some x)) : ∃ p, a = some p := by
 obtain ⟨p, hp⟩ := h 0 (by omega)
 simp at hp
 exact ⟨p, hp⟩
theorem some2 {a b : Option Value} (h : ∀ i, i < 2 → ∃ x, ([a, b] : List (Option Value))[i]? = some (some x)) : ∃ p q, a = some p ∧ b = some q := by
 obtain ⟨p, hp⟩ := h 0 (by omega)
 obtain ⟨q, hq⟩ := h 1 (by omega)
 simp at hp hq
 exact ⟨p, q, hp, hq⟩
end Go.Proofs.YtaijfigohlkccaaGreatDoor
