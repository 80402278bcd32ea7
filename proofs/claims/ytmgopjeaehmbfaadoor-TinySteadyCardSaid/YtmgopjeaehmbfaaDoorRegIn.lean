/-
  A region that draws its order, in a round of a range over a function: by what is known of it outside. Conditions: those written in each theorem.
-/
import Derived.Test.YtmgopjeaehmbfaaDoorOwn
import Derived.RangeFuncNested
import Derived.RangeFuncBound
import Derived.RangeFuncCalls
import Derived.RangeFuncLeaves
import Derived.OrdersIn
namespace Go.Proofs.YtmgopjeaehmbfaaDoor
open Go Go.RowKit
set_option maxRecDepth 100000
set_option linter.unusedVariables false
set_option linter.unusedSimpArgs false
section
variable {P : Program} {ops : Array Oper} {Q : Exit → Act → World → Prop}
theorem rowsIn_round (lp n : Nat) {row : String} {args : Array Value} {w : World} {R : Value → World → Prop} (h : Rows P row args w R) : RowsIn (Fence.wide.inRound lp) n P row args w R :=
  fun c cs _ => let ⟨v, w', r, s⟩ := h c cs; ⟨v, w', r, stepsIn_wide.2 s⟩
theorem callsIn_round (lp n : Nat) {f : FuncId} {args : Array Value} {w : World} {R : Ending → World → Prop} (h : Calls P f args w R) : CallsIn (Fence.wide.inRound lp) n P f args w R :=
  CallsIn.inRound lp (callsIn_wide.2 h)
theorem uponIn_round (lp n : Nat) {o : Oper} {a : Act} {K : Act → World → Prop} {r : Result Next} (h : o.upon P a K Q r) : o.uponIn (Fence.wide.inRound lp) n P a K Q r := by
  cases r with
  | ok x w =>
    cases x with
    | value v => exact h
    | skip => exact h
    | defer d => exact h
    | enter f args => exact ⟨fun hd => (by cases hd), (callsIn_round lp (n - 1) h).mono fun e w' he => by cases e <;> exact he⟩
    | row r args => exact ⟨fun hd => (by cases hd), rowsIn_round lp (n - 1) h⟩
    | _ => exact h.elim
  | halt x w => cases x <;> first | exact h | exact h.elim
/-- No operation puts a call off. -/
def noDefer (l : List Oper) : Bool := l.all fun o => match o.op with | .defer _ => false | _ => true
theorem noDefer_out {l : List Oper} (h : noDefer l = true) : ∀ (i : Nat) (o : Oper), l.toArray[i]? = some o → ∀ c, o.op ≠ .defer c := fun i o ho c hc => by
  have hm : o ∈ l := by simpa using Array.mem_of_getElem? ho
  have := List.all_eq_true.1 h o hm
  rw [hc] at this
  simp at this
theorem opIn_round (lp n : Nat) (hQ : ¬ LetsOut Q) (hd : ∀ (i : Nat) (o : Oper), ops[i]? = some o → ∀ c, o.op ≠ .defer c) {i : Nat} {K : Act → World → Prop} {a : Act} {w : World} (h : wpOp P ops Q i K a w) : wpOpIn (Fence.wide.inRound lp) n P ops Q i K a w := by
  unfold wpOp at h
  unfold wpOpIn
  cases ho : ops[i]? with
  | none => simp only [ho] at h ⊢; exact h
  | some o =>
    simp only [ho] at h ⊢
    by_cases hw : Region.wanted o (yielded ops a.tmps) = true
    · simp only [hw, if_true] at h ⊢
      rcases h with h | h
      · refine ⟨fun _ _ => trivial, ?_⟩
        rw [Oper.semAt_eq _ _ _ (hd i o ho)]
        exact uponIn_round lp n h
      · exact (hQ h.2).elim
    · simp only [hw] at h ⊢
      exact ⟨fun _ _ => trivial, h⟩
theorem anyIn_round (lp n : Nat) (hQ : ¬ LetsOut Q) (hd : ∀ (i : Nat) (o : Oper), ops[i]? = some o → ∀ c, o.op ≠ .defer c) {md : Region.Mode} : ∀ (fuel : Nat) (listed : Array Bool) (a : Act) (w : World), wpAny P md ops Q fuel listed a w → wpAnyIn (Fence.wide.inRound lp) n P md ops Q fuel listed a w
  | 0, _, _, _, h => h
  | fuel + 1, _, _, _, ⟨h1, h2⟩ => ⟨h1, fun i hi => wpOpIn_mono (fun _ _ => anyIn_round lp n hQ hd fuel _ _ _) (opIn_round lp n hQ hd (h2 i hi))⟩
theorem region_walkIn (lp n : Nat) (hQ : ¬ LetsOut Q) {id : Nat} {pre suf : List Oper} {a0 : Act} {w0 : World} (H : World → Prop) (hm : P.follows .mixedOrders = true) (hnd : noDefer (pre ++ suf) = true)
    (hB : orderOk (pre ++ suf).toArray pre.length a0.tmps.size = true) (hH : ∀ w w', H w → Ext w w' → H w') (hw : H w0.drew)
    (h : walkA P (pre ++ suf).toArray H pre (fun t => Is (a0.tmps.getD t undef)) (fun Vs => ∀ w', H w' → fin (fun a w => Apart (newsOf pre) a → wpList P (pre ++ suf).toArray Q suf a w) ((pre.map (·.dst)).zip Vs) a0 w')) :
    (Code.region id (pre ++ suf).toArray true).wpIn (Fence.wide.inRound lp) n P Q a0 w0 := by
  obtain ⟨Vs, hVl, hfin, hob⟩ := walkA_out _ _ _ h
  refine wpIn_region_any hm (anyIn_round lp n hQ (noDefer_out hnd) _ _ _ _ ?_)
  refine head_ok hVl (orderOk_out hB) hH hob hfin _ _ _ _ (by simp) (fun j _ => by simp [Array.getElem?_replicate]; split <;> rfl) ?_ ⟨hw, rfl, rfl, ?_, ?_, fun _ _ => rfl, ?_⟩
  · unfold left; refine Nat.le_trans (List.length_filter_le _ _) (by simp)
  · intro i o e hoi hli
    simp [Array.getElem?_replicate] at hli
    split at hli <;> simp at hli
  · intro i o V hoi hVi hli
    simp [Array.getElem?_replicate] at hli
    split at hli <;> simp at hli
  · intro i o d hoi _ hli
    simp [Array.getElem?_replicate] at hli
    split at hli <;> simp at hli
theorem region_SIn (lp nn : Nat) (hQ : ¬ LetsOut Q) {id : Nat} {pre suf : List Oper} {a0 : Act} {w0 : World} (H : World → Prop) (sz : Nat) (hm : P.follows .mixedOrders = true) (hnd : noDefer (pre ++ suf) = true)
    (hB : (orderOk (pre ++ suf).toArray pre.length sz && Region.noSelect (pre ++ suf).toArray) = true) (hsz : a0.tmps.size = sz) (hH : ∀ w w', H w → Ext w w' → H w') (hw : H w0.drew)
    (h : walkS P (pre ++ suf).toArray H sz pre a0 [] (fun Vs => ∀ w', H w' → fin (fun a w => Apart (newsOf pre) a → wpList P (pre ++ suf).toArray Q suf a w) ((pre.map (·.dst)).zip Vs) a0 w')) :
    (Code.region id (pre ++ suf).toArray true).wpIn (Fence.wide.inRound lp) nn P Q a0 w0 := by
  rw [Bool.and_eq_true] at hB
  subst hsz
  refine region_walkIn lp nn hQ H hm hnd hB.1 hH hw (walkA_of_S pre a0 [] _ _ (fun o ho cs b => ?_) (fun t => rfl) (by simp) (by simp) rfl h)
  obtain ⟨i, hi, he⟩ := List.getElem_of_mem ho
  exact Region.noSelect_spec hB.2 i o cs b (by rw [← he]; simp [List.getElem?_append_left hi])
/-- The region in a round, its first n operations in any order, the others behind them. -/
theorem region_in (lp nn : Nat) (hQ : ¬ LetsOut Q) {id : Nat} {l : List Oper} {a0 : Act} {w0 : World} (n : Nat) (H : World → Prop) (sz : Nat) (hm : P.follows .mixedOrders = true) (hnd : noDefer l = true)
    (hB : (orderOk l.toArray (l.take n).length sz && Region.noSelect l.toArray) = true) (hsz : a0.tmps.size = sz) (hH : ∀ w w', H w → Ext w w' → H w') (hw : H w0.drew)
    (h : walkS P l.toArray H sz (l.take n) a0 [] (fun Vs => ∀ w', H w' → fin (wpList P l.toArray Q (l.drop n)) (((l.take n).map (·.dst)).zip Vs) a0 w')) :
    (Code.region id l.toArray true).wpIn (Fence.wide.inRound lp) nn P Q a0 w0 := by
  have e := List.take_append_drop n l
  have := region_SIn lp nn hQ (id := id) (pre := l.take n) (suf := l.drop n) (a0 := a0) (w0 := w0) (Q := Q) (P := P) H sz hm (by rw [e]; exact hnd) (by rw [e]; exact hB) hsz hH hw (by
    rw [e]
    exact walkS_mono _ _ _ _ _ (fun _ hF w' hw' => fin_mono (Q2 := fun a w => Apart (newsOf (l.take n)) a → wpList P l.toArray Q (l.drop n) a w) (fun _ _ q _ => q) _ _ _ (hF w' hw')) h)
  rwa [e] at this
end
end Go.Proofs.YtmgopjeaehmbfaaDoor
