/-
  Slices of the call's own, from whatever place of a block on, as a part of the list of its own blocks; append to them. Conditions: rows are shorter than 2^47 bytes.
-/
import Derived.Test.YtalcgmhdgegebaaDoorAppG
import Derived.ArgAppend
import Derived.Test.YtalcgmhdgegebaaDoorGf2
namespace Go.Proofs.YtalcgmhdgegebaaDoor
open Go Go.RowKit
set_option maxRecDepth 100000
set_option linter.unusedVariables false
set_option linter.unusedSimpArgs false

theorem Own.perm {w0 w : World} {L M : List Blk} (h : Own w0 w L) (p : L.Perm M) : Own w0 w M :=
  ⟨h.1, (p.map Blk.g).nodup_iff.1 h.2.1, fun b hb => h.2.2 b (p.mem_iff.2 hb)⟩
theorem Has.perm {L : List Blk} {b : Blk} (h : Has L b) : ∃ R, L.Perm (b :: R) := by
  induction h with
  | hd => exact ⟨_, List.Perm.refl _⟩
  | @tl b c L _ ih => obtain ⟨R, p⟩ := ih; exact ⟨c :: R, (p.cons c).trans (List.Perm.swap b c R)⟩
/-- The block that is changed, ahead of all others. -/
theorem Swap.front {L L' : List Blk} {b b' : Blk} (h : Swap L b b' L') : ∃ R, L.Perm (b :: R) ∧ L'.Perm (b' :: R) := by
  induction h with
  | hd => exact ⟨_, List.Perm.refl _, List.Perm.refl _⟩
  | @tl b b' c L L' _ ih => obtain ⟨R, p, q⟩ := ih; exact ⟨c :: R, (p.cons c).trans (List.Perm.swap b c R), (q.cons c).trans (List.Perm.swap b' c R)⟩
theorem Own.dropN {w0 w : World} {M L : List Blk} (h : Own w0 w (M ++ L)) : Own w0 w L :=
  ⟨h.1, by have := h.2.1; rw [List.map_append] at this; exact (List.nodup_append.1 this).2.1, fun b hb => h.2.2 b (by simp [hb])⟩
theorem Has.app {M L : List Blk} {b : Blk} (h : Has L b) : Has (M ++ L) b := by
  induction M with
  | nil => exact h
  | cons c M ih => exact .tl ih
theorem Swap.app {M L L' : List Blk} {b b' : Blk} (h : Swap L b b' L') : Swap (M ++ L) b b' (M ++ L') := by
  induction M with
  | nil => exact h
  | cons c M ih => exact .tl ih
theorem Has.front {M L : List Blk} {b : Blk} (h : Has M b) : Has (M ++ L) b := by
  induction h with
  | hd => exact .hd
  | tl _ ih => exact .tl ih

/-- Cells laid over others, one by one. -/
def ovr : List Value → Nat → List Value → List Value
  | cs, _, [] => cs
  | cs, o, v :: vs => ovr (cs.set o v) (o + 1) vs
theorem ovr_length (vs : List Value) : ∀ (cs : List Value) (o : Nat), (ovr cs o vs).length = cs.length := by
  induction vs with
  | nil => intro cs o; rfl
  | cons v vs ih => intro cs o; rw [ovr, ih]; simp
theorem ovr_at (vs : List Value) : ∀ (cs : List Value) (o j : Nat), o + vs.length ≤ cs.length → (ovr cs o vs)[j]? = if o ≤ j ∧ j < o + vs.length then vs[j - o]? else cs[j]? := by
  induction vs with
  | nil => intro cs o j _; rw [ovr, if_neg (by simp)]
  | cons v vs ih =>
    intro cs o j hl
    simp only [List.length_cons] at hl
    rw [ovr, ih _ _ _ (by simp; omega)]
    by_cases h1 : j = o
    · subst h1
      rw [if_neg (by omega), if_pos (by simp), List.getElem?_set]
      simp; omega
    · by_cases h2 : o + 1 ≤ j ∧ j < o + 1 + vs.length
      · rw [if_pos h2, if_pos (by simp; omega), show j - o = (j - (o + 1)) + 1 from by omega, List.getElem?_cons_succ]
      · rw [if_neg h2, if_neg (by simp; omega), List.getElem?_set_ne (by omega)]
theorem ovr_eq (cs : List Value) (o : Nat) (vs : List Value) (h : o + vs.length ≤ cs.length) : ovr cs o vs = cs.take o ++ vs ++ cs.drop (o + vs.length) := by
  apply List.ext_getElem?
  intro j
  rw [ovr_at vs cs o j h]
  by_cases h1 : j < o
  · rw [if_neg (by omega), List.append_assoc, List.getElem?_append_left (by simp; omega), List.getElem?_take, if_pos h1]
  · by_cases h2 : j < o + vs.length
    · rw [if_pos (by omega), List.append_assoc, List.getElem?_append_right (by simp; omega), List.getElem?_append_left (by simp; omega)]
      simp [show min o cs.length = o by omega]
    · rw [if_neg (by omega), List.getElem?_append_right (by simp; omega), List.getElem?_drop]
      congr 1; simp; omega
theorem Own.setCells {w0 : World} {g : Nat} {t : TypeId} (vs : List Value) : ∀ {w : World} {L L' : List Blk} {cs : List Value} {o : Nat}, Own w0 w L → Swap L ⟨g, t, cs⟩ ⟨g, t, ovr cs o vs⟩ L' → Own w0 (w.setCells g o vs) L' := by
  induction vs with
  | nil =>
    intro w L L' cs o h hs
    have := h.turn hs
    have hr : Row w g t cs := h.row hs.has
    rw [show ovr cs o [] = cs from rfl, setRow_self w g _ t (0, 0) hr] at this
    exact this
  | cons v vs ih =>
    intro w L L' cs o h hs
    obtain ⟨M, h1, h2⟩ := hs.split ⟨g, t, cs.set o v⟩
    exact ih (h.turnC h1) h2

/-- A slice that lies in one of these blocks (or is nil), of n parts that hold just these cells. -/
def SlO (M : List Blk) (e : TypeId) (sz : Nat) (v : Value) (n : Nat) (cs : List Value) : Prop :=
  cs.length = n * sz ∧ ((v = .slice none 0 0 ∧ n = 0 ∧ M = []) ∨ ∃ g o cap cur, v = .slice (some ⟨g, o, none⟩) n cap ∧ M = [⟨g, e, cur⟩] ∧ n ≤ cap ∧ cap ≤ maxLen ∧ o + cap * sz ≤ cur.length ∧ (cur.drop o).take (n * sz) = cs)
section
variable {w0 w : World} {M R : List Blk} {e : TypeId} {sz n : Nat} {v : Value} {cs : List Value}
theorem SlO.nil (e : TypeId) (sz : Nat) : SlO [] e sz (.slice none 0 0) 0 [] := ⟨by simp, .inl ⟨rfl, rfl, rfl⟩⟩
/-- A slice of a block, of all its cells. -/
theorem SlO.whole (g : Nat) (e : TypeId) (sz n : Nat) (cs : List Value) (hl : cs.length = n * sz) (hn : n ≤ maxLen) : SlO [⟨g, e, cs⟩] e sz (.slice (some ⟨g, 0, none⟩) n n) n cs :=
  ⟨hl, .inr ⟨g, 0, n, cs, rfl, rfl, Nat.le_refl _, hn, by omega, by rw [List.drop_zero, List.take_of_length_le (by omega)]⟩⟩
/-- A slice of a block, of none of its parts. -/
theorem SlO.room (g : Nat) (e : TypeId) (sz cap : Nat) (cur : List Value) (hl : cur.length = cap * sz) (hn : cap ≤ maxLen) : SlO [⟨g, e, cur⟩] e sz (.slice (some ⟨g, 0, none⟩) 0 cap) 0 [] :=
  ⟨by simp, .inr ⟨g, 0, cap, cur, rfl, rfl, by omega, hn, by omega, by simp⟩⟩
theorem SlO.form (h : SlO M e sz v n cs) : ∃ p c, v = .slice p n c := by
  rcases h.2 with ⟨h1, rfl, _⟩ | ⟨g, o, cap, cur, h1, _⟩ <;> exact ⟨_, _, h1⟩
theorem SlO.cells (h : SlO M e sz v n cs) (hm : Own w0 w (M ++ R)) : ∃ (p : Option Addr) (c : Nat), v = .slice p n c ∧ n ≤ c ∧ c ≤ maxLen ∧ (0 < n → p.isSome = true) ∧ ∀ (j : Nat) (u : Value), cs[j]? = some u → ∃ a, p = some a ∧ w.cell? (a.add j) = some u := by
  obtain ⟨hl, h⟩ := h
  rcases h with ⟨rfl, rfl, rfl⟩ | ⟨g, o, cap, cur, rfl, rfl, h1, h2, h3, h4⟩
  · have : cs = [] := List.eq_nil_of_length_eq_zero (by simpa using hl)
    subst this
    exact ⟨none, 0, rfl, Nat.le_refl _, by simp, by simp, by simp⟩
  · refine ⟨_, cap, rfl, h1, h2, fun _ => rfl, fun j u hj => ⟨_, rfl, ?_⟩⟩
    have hr : Row w g e cur := hm.row (.hd)
    show w.cell? ((⟨g, o, none⟩ : Addr).add j) = _
    rw [Addr.add_mid, row_cell hr]
    rw [← h4, List.getElem?_take] at hj
    split at hj
    · rwa [List.getElem?_drop] at hj
    · cases hj
end
theorem ownsRow_sl {w0 w w' : World} {R : List Blk} {e : TypeId} {sz n : Nat} {v : Value} {cs : List Value} (hm : Own w0 w R) (hx : Ext w w') (h : w'.ownsRow w.heap.size e sz v n cs) : ∃ M, Own w0 w' (M ++ R) ∧ SlO M e sz v n cs := by
  obtain ⟨h1, h2⟩ := h
  rcases h2 with ⟨rfl, h0⟩ | ⟨g, cap, cur, rfl, hg, hh, hn, hc, hs, ht⟩
  · exact ⟨[], hm.ext hx, h1, .inl ⟨rfl, h0, rfl⟩⟩
  · have hr : Row w' g e cur.toList := hh
    refine ⟨[⟨g, e, cur.toList⟩], hm.push hx hg hr, h1, .inr ⟨g, 0, cap, cur.toList, rfl, rfl, hn, hc, by simp; omega, by rw [List.drop_zero, ht]⟩⟩

theorem run_append_none {P : Program} {w : World} {t ty e : TypeId} {i : TypeInfo} (ht : P.underlying t = some (.slice e)) (hi : P.info? e = some i) (q : Option Addr) (n cap c : Nat) (hnc : n ≤ cap) : (Builtin.append_ #[t, t] ty #[.slice q n cap, .slice none 0 c]).run P w = .ok (.slice q n cap) w := by
  cases q <;> simp [Builtin.append_, run_underlying ht, sizeOf, typeInfo, hi, Builtin.lenOf, Builtin.firstCells, hnc, storeCells]

theorem wplO_app {P : Program} {ops : Array Oper} {Q : Exit → Act → World → Prop} {rest : List Oper} {o : Oper} {a : Act} {w0 w : World} {M R : List Blk} {s x : Operand} {p : Option Addr} {c n m sz by_ : Nat} {T e : TypeId} {v : Value} {cs ds : List Value}
    (hm : Own w0 w (M ++ R)) (hsl : SlO M e sz v n cs) (hgd : o.guard = none) (ho : o.op = .call { callee := .builtin .append, args := #[s, x], argTypes := #[T, T] }) (hs : a.eval s = v) (hx : a.eval x = .slice p m c) (hT : P.underlying T = some (.slice e)) [hE : Elem P e sz by_]
    (hl : ds.length = m * sz) (hr : ∀ (j : Nat) (u : Value), ds[j]? = some u → ∃ a, p = some a ∧ w.cell? (a.add j) = some u) (h1 : ∀ u ∈ ds, u.oneCell' = true) (hlen : (n + m) * (by_ + 1) ≤ 140737488355328)
    (h : ∀ v' w' M', Own w0 w' (M' ++ R) → SlO M' e sz v' (n + m) (cs ++ ds) → wpList P ops Q rest (a.put o.dst v') w') : wpList P ops Q (o :: rest) a w := by
  obtain ⟨i, z, hi, hz, hsz, hb, hzz, h0⟩ := hE.out
  have hlen1 : n + m ≤ maxLen := by
    have : n + m ≤ (n + m) * (by_ + 1) := Nat.le_mul_of_pos_right _ (by omega)
    unfold maxLen; omega
  have hlen2 : (n + m) * by_ ≤ 140737488355328 := Nat.le_trans (Nat.mul_le_mul_left _ (by omega)) hlen
  cases p with
  | none =>
    have hd : ds = [] := by
      cases ds with
      | nil => rfl
      | cons u ds => obtain ⟨_, ha, _⟩ := hr 0 u rfl; cases ha
    subst hd
    have hm0 : m = 0 := by
      rcases Nat.eq_zero_or_pos m with h | h
      · exact h
      · have := Nat.mul_pos h h0; rw [← hl] at this; simp at this
    subst hm0
    obtain ⟨q, k, rfl, hnk, _⟩ := hsl.cells hm
    refine wpList_plain hgd fun K hK => ?_
    unfold Oper.wp
    simp [execOp, ho, resolve, invoke, builtin, hs, hx, run_append_none hT hi _ _ _ _ hnk, Result.andThen]
    exact hK _ _ (h _ w M hm (by simpa using hsl))
  | some ad =>
    have hr' : ∀ (j : Nat) (u : Value), ds[j]? = some u → w.cell? (ad.add j) = some u := fun j u hj => by
      obtain ⟨a', ha, hc⟩ := hr j u hj
      cases ha; exact hc
    obtain ⟨hcl, hsl'⟩ := id hsl
    rcases hsl' with ⟨rfl, rfl, rfl⟩ | ⟨g, off, cap, cur, rfl, rfl, k1, k2, k3, k4⟩
    · have hcs : cs = [] := List.eq_nil_of_length_eq_zero (by simpa using hcl)
      subst hcs
      refine wpList_append_own w hgd s x T ho w.heap.size e i z sz by_ hT hi hz hsz hb hzz h0 _ 0 [] hs (World.ownsRow_nil w _ e sz) ad m c ds hx hl hr' h1 hlen1 hlen2 (Nat.le_refl _) ?_
      intro v' w' r1 r2 _
      have hx : Ext w w' := (Below.refl w.heap.size w).grown r2 (Nat.le_refl _) fun k hk => by cases hk
      obtain ⟨M', m1, m2⟩ := ownsRow_sl hm hx r1
      exact h v' w' M' m1 m2
    · have hrow : Row w g e cur := hm.row (.hd)
      have hcells : ∀ (j : Nat) (u : Value), cs[j]? = some u → w.cell? ((⟨g, off, none⟩ : Addr).add j) = some u := fun j u hj => by
        rw [Addr.add_mid, row_cell hrow]
        rw [← k4, List.getElem?_take] at hj
        split at hj
        · rwa [List.getElem?_drop] at hj
        · cases hj
      by_cases hfit : n + m ≤ cap
      · have hin : off + n * sz + ds.length ≤ cur.length := by
          have : (n + m) * sz ≤ cap * sz := Nat.mul_le_mul_right _ hfit
          rw [Nat.add_mul] at this; omega
        have hrun := run_append_room_cells (P := P) w T o.type e i hT hi g off n cap ad m c ds (by rw [hsz]; exact hl) hr' h1 hfit
          (fun j hj => by rw [row_cell hrow, hsz, List.getElem?_eq_getElem (by omega)]; rfl) (fun j hj => row_free hrow _)
        rw [hsz] at hrun
        have hm2 : Own w0 (w.setCells g (off + n * sz) ds) (⟨g, e, ovr cur (off + n * sz) ds⟩ :: R) := Own.setCells ds hm .hd
        refine wpList_plain hgd fun K hK => ?_
        unfold Oper.wp
        simp [execOp, ho, resolve, invoke, builtin, hs, hx, hrun, Result.andThen]
        refine hK _ _ (h _ _ [⟨g, e, ovr cur (off + n * sz) ds⟩] hm2 ⟨by rw [List.length_append, hcl, hl, Nat.add_mul], .inr ⟨g, off, cap, _, rfl, rfl, hfit, k2, by rw [ovr_length]; exact k3, ?_⟩⟩)
        apply List.ext_getElem?
        intro j
        rw [List.getElem?_take, Nat.add_mul, ← hl]
        by_cases hj : j < n * sz
        · rw [if_pos (by omega), List.getElem?_drop, ovr_at _ _ _ _ hin, if_neg (by omega), List.getElem?_append_left (by omega), ← k4, List.getElem?_take, if_pos hj, List.getElem?_drop]
        · by_cases hj2 : j < n * sz + ds.length
          · rw [if_pos hj2, List.getElem?_drop, ovr_at _ _ _ _ hin, if_pos (by omega), List.getElem?_append_right (by omega), hcl]
            congr 1; omega
          · rw [if_neg hj2, List.getElem?_eq_none (by rw [List.length_append]; omega)]
      · refine wpList_append_grows w hgd s x T ho e i z sz by_ hT hi hz hsz hb hzz h0 (some ⟨g, off, none⟩) n cap cs hs (by simp) hcl (fun b hb => by cases hb; exact hcells) ad m c ds hx hl hr' h1 (by omega) hlen1 hlen2 ?_
        intro v' w' r1 r2
        have hx : Ext w w' := (Below.refl w.heap.size w).grown r2 (Nat.le_refl _) fun k hk => by cases hk
        obtain ⟨M', m1, m2⟩ := ownsRow_sl (hm.drop) hx r1
        exact h v' w' M' m1 m2

/-- Behind its first parts. -/
theorem SlO.behind {M : List Blk} {e : TypeId} {sz n k : Nat} {g o cap : Nat} {cs : List Value} (h : SlO M e sz (.slice (some ⟨g, o, none⟩) n cap) n cs) (hk : k ≤ n) : SlO M e sz (.slice (some ⟨g, o + k * sz, none⟩) (n - k) (cap - k)) (n - k) (cs.drop (k * sz)) := by
  obtain ⟨hl, h⟩ := h
  rcases h with ⟨h, _⟩ | ⟨g', o', cap', cur, he, rfl, k1, k2, k3, k4⟩
  · cases h
  · cases he
    have hks : k * sz ≤ n * sz := Nat.mul_le_mul_right _ hk
    have hkc : k * sz ≤ cap * sz := Nat.mul_le_mul_right _ (by omega)
    refine ⟨by rw [List.length_drop, hl, Nat.sub_mul], .inr ⟨g, _, _, cur, rfl, rfl, by omega, by omega, by rw [Nat.sub_mul]; omega, ?_⟩⟩
    rw [← k4, List.drop_take, List.drop_drop, Nat.sub_mul]

end Go.Proofs.YtalcgmhdgegebaaDoor
