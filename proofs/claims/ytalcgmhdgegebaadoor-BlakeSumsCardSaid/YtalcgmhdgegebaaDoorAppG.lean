/-
  Rows of whatever parts that the call itself makes by append. Conditions: rows are shorter than 2^47 bytes.
-/
import Derived.Test.YtalcgmhdgegebaaDoorApp
import Derived.Test.YtalcgmhdgegebaaDoorOwn
import Derived.Test.YtalcgmhdgegebaaDoorOpen
namespace Go.Proofs.YtalcgmhdgegebaaDoor
open Go Go.RowKit
set_option maxRecDepth 100000
set_option linter.unusedVariables false
set_option linter.unusedSimpArgs false

/-- A part of a slice: its cells, its bytes. -/
class Elem (P : Program) (e : TypeId) (sz by_ : outParam Nat) : Prop where
  out : ∃ i z, P.info? e = some i ∧ i.zero = some z ∧ i.size = sz ∧ i.bytes = by_ ∧ z.cells.size = sz ∧ 0 < sz
theorem Elem.of {P : Program} {e : TypeId} {sz by_ : Nat} (h : (P.info? e).map (fun i => (i.zero.map fun z => z.cells.size, i.size, i.bytes)) = some (some sz, sz, by_)) (h0 : 0 < sz) : Elem P e sz by_ := ⟨by
  obtain ⟨i, hi, h⟩ := Option.map_eq_some_iff.1 h
  simp only [Prod.mk.injEq] at h
  obtain ⟨h1, h2, h3⟩ := h
  obtain ⟨z, hz, h4⟩ := Option.map_eq_some_iff.1 h1
  exact ⟨i, z, hi, hz, h2, h3, h4, h0⟩⟩

/-- A slice of the call's own, among the blocks from B on, of n parts that hold just these cells. -/
def OwnC (w : World) (B : Nat) (e : TypeId) (sz : Nat) (v : Value) (n : Nat) (cs : List Value) : Prop := w.ownsRow B e sz v n cs
section
variable {w w' : World} {B n sz : Nat} {e : TypeId} {v : Value} {cs : List Value}
theorem OwnC.nil (w : World) (B : Nat) (e : TypeId) (sz : Nat) : OwnC w B e sz (.slice none 0 0) 0 [] := World.ownsRow_nil w B _ _
theorem OwnC.made (w : World) (B : Nat) (e : TypeId) (sz : Nat) (hB : B ≤ w.heap.size) : OwnC (w.alloc (.cells #[] e)) B e sz (.slice (some ⟨w.heap.size, 0, none⟩) 0 0) 0 [] :=
  World.ownsRow_made w #[] 0 hB (by simp [maxLen]) (by simp)
theorem OwnC.alloc (h : OwnC w B e sz v n cs) (o : Obj) : OwnC (w.alloc o) B e sz v n cs := World.ownsRow.alloc h o
theorem OwnC.ext (h : OwnC w B e sz v n cs) (hx : Ext w w') : OwnC w' B e sz v n cs :=
  World.ownsRow.kept h (row := none) ⟨hx.os, hx.tape, hx.output, hx.size, fun k hk _ => Below.block hx k hk⟩ (by cases hv : v.ownBlock <;> simp)
theorem OwnC.lt (h : OwnC w B e sz v n cs) : ∀ k, v.ownBlock = some k → B ≤ k ∧ k < w.heap.size := World.ownsRow.lt h
theorem OwnC.len (h : OwnC w B e sz v n cs) : cs.length = n * sz := h.1
theorem OwnC.slice (h : OwnC w B e sz v n cs) : ∃ (p : Option Addr) (c : Nat), v = .slice p n c ∧ n ≤ c ∧ c ≤ maxLen ∧ (0 < n → p.isSome = true) ∧ ∀ (j : Nat) (u : Value), cs[j]? = some u → w.cell? ((p.getD default).add j) = some u := by
  obtain ⟨h1, h2⟩ := h
  rcases h2 with ⟨rfl, h0⟩ | ⟨g, cap, cur, rfl, hg, hh, hn, hc, hs, ht⟩
  · subst h0
    have : cs = [] := List.eq_nil_of_length_eq_zero (by simpa using h1)
    subst this
    exact ⟨none, 0, rfl, Nat.le_refl _, by simp [maxLen], by simp, by simp⟩
  · refine ⟨some ⟨g, 0, none⟩, cap, rfl, hn, hc, fun _ => rfl, fun j u hj => ?_⟩
    have e' : (⟨g, 0, none⟩ : Addr).add j = ⟨g, j, none⟩ := by simp [Addr.add]; omega
    show w.cell? ((⟨g, 0, none⟩ : Addr).add j) = _
    rw [e', cell_of_row w g j cur _ _ hh]
    rw [← ht, List.getElem?_take] at hj
    split at hj
    · rw [← Array.getElem?_toList]; exact hj
    · cases hj
/-- The cells of blocks of bytes. (Behind a name: not to be laid open by the walk.) -/
def catV (ks : List (List Byte)) : List Value := ks.flatten.map v8
theorem catV_append (ks ls : List (List Byte)) : catV (ks ++ ls) = catV ks ++ catV ls := by simp [catV]
theorem catV_length (n : Nat) (ks : List (List Byte)) (h : ∀ k ∈ ks, k.length = n) : (catV ks).length = ks.length * n := by rw [catV, List.length_map, flatten_length n ks h]
theorem catV_one (ks : List (List Byte)) : ∀ u ∈ catV ks, u.oneCell' = true := one_map _
theorem RdK.cells {w : World} {p : Option Addr} {n : Nat} {ks : List (List Byte)} (h : RdK w p n ks) : ∀ (j : Nat) (u : Value), (catV ks)[j]? = some u → ∃ a, p = some a ∧ w.cell? (a.add j) = some u := by
  intro j u hj
  rw [catV, List.getElem?_map] at hj
  obtain ⟨x, hx, rfl⟩ := Option.map_eq_some_iff.1 hj
  obtain ⟨hlt, hx'⟩ := List.getElem?_eq_some_iff.1 hx
  obtain ⟨a, rfl⟩ := Option.isSome_iff_exists.1 (h.2.1 (by omega))
  refine ⟨a, rfl, ?_⟩
  have := h.2.2 j hlt
  simp only [Option.getD_some] at this
  rw [this, List.getD_eq_getElem?_getD, hx]; rfl
/-- Of blocks of bytes. -/
theorem OwnC.reads {m : Nat} {ks : List (List Byte)} (h : OwnC w B e m v ks.length (catV ks)) (hk : ∀ k ∈ ks, k.length = m) : ∃ p c, v = .slice p ks.length c ∧ ks.length ≤ c ∧ RdK w p m ks := by
  obtain ⟨p, c, rfl, h1, _, h3, h4⟩ := h.slice
  refine ⟨p, c, rfl, h1, hk, fun hl => h3 ?_, fun i hi => ?_⟩
  · rcases Nat.eq_zero_or_pos ks.length with h0 | h0
    · rw [List.eq_nil_of_length_eq_zero h0] at hl; simp at hl
    · exact h0
  · exact h4 i (v8 (ks.flatten.getD i 0)) (by rw [catV, List.getElem?_map, List.getElem?_eq_getElem hi, List.getD_eq_getElem?_getD, List.getElem?_eq_getElem hi]; rfl)
end

theorem wplC_app {P : Program} {ops : Array Oper} {Q : Exit → Act → World → Prop} {rest : List Oper} {o : Oper} {a : Act} {w : World} {s x : Operand} {p : Option Addr} {B c n m sz by_ : Nat} {T e : TypeId} {v : Value} {cs ds : List Value}
    (hgd : o.guard = none) (ho : o.op = .call { callee := .builtin .append, args := #[s, x], argTypes := #[T, T] }) (hT : P.underlying T = some (.slice e)) [hE : Elem P e sz by_] (hs : a.eval s = v) (hx : a.eval x = .slice p m c)
    (hown : OwnC w B e sz v n cs) (hl : ds.length = m * sz) (hr : ∀ (j : Nat) (u : Value), ds[j]? = some u → ∃ a, p = some a ∧ w.cell? (a.add j) = some u) (h1 : ∀ u ∈ ds, u.oneCell' = true) (hlen : (n + m) * (by_ + 1) ≤ 140737488355328) (hB : B ≤ w.heap.size)
    (h : ∀ v' w', OwnC w' B e sz v' (n + m) (cs ++ ds) → Below B w w' → w.grownBy w' v.ownBlock → wpList P ops Q rest (a.put o.dst v') w') : wpList P ops Q (o :: rest) a w := by
  obtain ⟨i, z, hi, hz, hsz, hb, hzz, h0⟩ := hE.out
  have hlen1 : n + m ≤ maxLen := by
    have : n + m ≤ (n + m) * (by_ + 1) := Nat.le_mul_of_pos_right _ (by omega)
    unfold maxLen; omega
  have hlen2 : (n + m) * by_ ≤ 140737488355328 := Nat.le_trans (Nat.mul_le_mul_left _ (by omega)) hlen
  cases p with
  | some ad =>
    refine wpList_append_own w hgd s x T ho B e i z sz by_ hT hi hz hsz hb hzz h0 v n cs hs hown ad m c ds hx hl (fun j u hj => ?_) h1 hlen1 hlen2 hB ?_
    · obtain ⟨a', ha, hc⟩ := hr j u hj
      cases ha; exact hc
    · intro v' w' k1 k2 _
      exact h v' w' k1 ((Below.refl B w).grown k2 hB fun k hk => (hown.lt k hk).1) k2
  | none =>
    have hd : ds = [] := by
      cases ds with
      | nil => rfl
      | cons u ds => obtain ⟨_, ha, _⟩ := hr 0 u rfl; cases ha
    subst hd
    have hm : m = 0 := by
      rcases Nat.eq_zero_or_pos m with h | h
      · exact h
      · have := Nat.mul_pos h h0; rw [← hl] at this; simp at this
    subst hm
    have hrun : (Builtin.append_ #[T, T] o.type #[v, .slice none 0 c]).run P w = .ok v w := run_append_owned_none (P := P) (w := w) B T o.type e i sz hT hi v n cs hown
    refine wpList_plain hgd fun K hK => ?_
    unfold Oper.wp
    simp [execOp, ho, resolve, invoke, builtin, hs, hx, hrun, Result.andThen]
    refine hK _ _ (h v w (by simpa using hown) (Below.refl _ _) ⟨rfl, rfl, rfl, Nat.le_refl _, fun _ _ _ => rfl⟩)

end Go.Proofs.YtalcgmhdgegebaaDoor
