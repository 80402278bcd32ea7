/-
  Layer 16: the hash of a row, by a range over a function. Conditions: those written in each theorem.
-/
import Derived.Test.YtmgopjeaehmbfaaDoorHash1
import Derived.Test.YtmgopjeaehmbfaaDoorRegIn
import Derived.Shelf.Abstract
import Derived.WalkKit
import Derived.OwnWalkIn
import Derived.TacticsInMore
import Derived.LoopNIn
import Derived.LoopIn
namespace Go.Proofs.YtmgopjeaehmbfaaDoor
open Go Go.RowKit Go.Shelf
set_option maxRecDepth 100000
set_option linter.unusedVariables false
set_option linter.unusedSimpArgs false
attribute [local go_sem] Oper.semAt_some

theorem Ext.others {w w' : World} (h : Ext w w') : KeepsOthers w w' := ⟨h.size, fun _ _ hk _ => h.block hk⟩
theorem Own.kept {w0 A B : World} {L : List Blk} {row : Option Nat} (h : Own w0 A L) (hg : A.grownBy B row) (hr : ∀ r, row = some r → w0.heap.size ≤ r ∧ ∃ o : Obj, A.heap[r]? = some o ∧ o.isCells = false) : Own w0 B L :=
  ⟨Below.grown h.1 hg h.1.size (fun k e => (hr k e).1), h.2.1, fun b hb => ⟨(h.2.2 b hb).1, (grownBy_keeps_cells hg (fun r e => (hr r e).2) (h.2.2 b hb).2 rfl).trans (h.2.2 b hb).2⟩⟩
section
variable {P : Program} {ops : Array Oper} {Q : Exit → Act → World → Prop} {rest : List Oper} {dst : Option Tmp} {ty : TypeId} {pos : String} {aft : Array Edge} {gd : Option (Nat × Bool)} {a : Act} {w0 w : World} {L L' : List Blk} {T t : TypeId} {x y : Operand} {g n : Nat} {cs cs' : List Value}
theorem wq_stWK (hm : Own w0 w L) (hgd : Region.wanted (Oper.mk dst (.store T x y) ty pos aft gd) (yielded ops a.tmps) = true) (hT : Many P T n) (hx : a.eval x = .pointer (some ⟨g, 0, none⟩)) (hy : a.eval y = .agg cs'.toArray) (hs : Swap L ⟨g, t, cs⟩ ⟨g, t, cs'⟩ L') (hl : cs'.length = n) (hl2 : cs.length = n) (h1 : ∀ v ∈ cs', v.oneCell' = true)
    (hr : ∀ w', Own w0 w' L' → KeepsOthers w w' → Below w0.heap.size w w' → wpList P ops Q rest (a.put dst undef) w') : wpList P ops Q ((Oper.mk dst (.store T x y) ty pos aft gd) :: rest) a w :=
  wpList_want hgd fun K hK => by
    have hrow := hm.row hs.has
    have hrun := run_storeAt_row (P := P) (T := T) hrow (by rw [hl, hl2]) (by rw [hl]; exact hT.size) h1
    unfold Oper.wp execOp
    simp only [hx, hy, Sem.run_bind, hrun, Result.andThen_ok]
    refine hK _ _ (hr _ (hm.turn hs) ⟨by simp, fun k o hk ho => ?_⟩ (below_setRow (Below.refl _ _) g _ (hm.2.2 _ hs.has.mem).1))
    rw [setRow_other]
    · exact hk
    · rintro rfl
      rw [hrow] at hk; cases hk; cases ho
theorem retM_own {F : Fence} {nn : Nat} {fn : Func} {R : Ending → World → Prop} {p : Tmp} {D : Nat} (hm : Own w0 w L) (h : fn.results = #[.cell p T]) (hp : a.tmps.getD p undef = .pointer (some ⟨g, 0, none⟩)) (hT : Many P T n) (hh : Has L ⟨g, t, cs⟩) (hn : cs.length = n)
    (hf : a.defers = [{ target := .collected D, args := #[] }]) (hD : w0.heap.size ≤ D) (hK : w.heap[D]? = some (.deferred (some []))) (hR : ∀ w', Ext w0 w' → R (.returned (.agg cs.toArray)) w') : bodyPostM F nn P fn R .ret a w := by
  obtain ⟨d, hu, hd⟩ := Option.map_eq_some_iff.1 hT.row
  have hm2 : Own w0 (w.putObj D (.deferred none)) L := hm.kept (grownBy_putObj' w D _) (fun r e => by cases e; exact ⟨hD, _, hK, rfl⟩)
  show LeavesInM F nn P fn a.tmps R a.defers .returning w
  rw [hf]
  refine ⟨by simp, .inl ⟨_, _, rfl, run_takeDeferred hK, ?_⟩⟩
  exact ⟨_, results_cell_row h _ _ g t cs.toArray (0, 0) d hp (hm2.row hh) hu (by cases d <;> simp_all) (by rw [List.size_toArray, hn]; exact hT.size), hR _ hm2.x⟩
end

theorem numbered_any (p : Option Addr) (n c : Nat) (w0 : World) : Calls Tryd.prog 60 #[.slice p n c] w0 fun e w => ∃ g, e = .returned (.func (.func 94) #[] #[.pointer (some ⟨g, 0, none⟩)]) ∧ w0.heap.size ≤ g ∧ Row w g 40 [.slice p n c] ∧ Ext w0 w := by
  have hm := Own.start w0
  go_enter Tryd.func60, Tryd.ntmps60
  go_wp2_with (first | ((with_reducible show wpList _ _ _ (Oper.mk _ (Op.load _ _) _ _ _ _ :: _) _ _); first | ((with_reducible apply wq_ldv hm); (exact rfl); infer_instance; (exact rfl); (focus ((repeat (first | exact .hd | assumption | apply Has.tl)); done)); (focus (first | omega | (simp; omega) | (refine Nat.lt_of_lt_of_le (BitVec.isLt _) ?_; first | omega | (simp; done) | (simp; omega) | fail) | fail))) | ((with_reducible apply wq_ldW hm); (exact rfl); infer_instance; (exact rfl); (focus ((repeat (first | exact .hd | assumption | apply Has.tl)); done)); (focus (first | rfl | omega | (simp; done) | (simp; omega) | fail))) | ((with_reducible apply wq_ld1 hm); (exact rfl); infer_instance; (exact rfl); (focus ((repeat (first | exact .hd | assumption | apply Has.tl)); done)); (exact rfl)) | fail) | ((((with_reducible show wpList _ _ _ (Oper.mk _ (Op.store _ _ _) _ _ _ _ :: _) _ _); first | ((with_reducible apply wq_stv hm); (exact rfl); infer_instance; (exact rfl); (focus ((repeat (first | exact .hd | assumption | apply Swap.tl)); done)); infer_instance; (exact rfl); (focus (first | omega | (simp; omega) | (refine Nat.lt_of_lt_of_le (BitVec.isLt _) ?_; first | omega | (simp; done) | (simp; omega) | fail) | fail))) | ((with_reducible apply wq_st8i hm); (exact rfl); infer_instance; (exact rfl); (exact rfl); (focus ((repeat (first | exact .hd | assumption | apply Swap.tl)); done)); (focus omega); (focus (first | omega | (simp; omega) | (refine Nat.lt_of_lt_of_le (BitVec.isLt _) ?_; first | omega | (simp; done) | (simp; omega) | fail) | fail))) | ((with_reducible apply wq_st64i hm); (exact rfl); infer_instance; (exact rfl); (exact rfl); (focus ((repeat (first | exact .hd | assumption | apply Swap.tl)); done)); (focus omega); (focus (first | omega | (simp; omega) | (refine Nat.lt_of_lt_of_le (BitVec.isLt _) ?_; first | omega | (simp; done) | (simp; omega) | fail) | fail))) | ((with_reducible apply wq_stW hm); (exact rfl); infer_instance; (exact rfl); (exact rfl); (focus ((repeat (first | exact .hd | assumption | apply Swap.tl)); done)); (focus (first | rfl | omega | (simp; done) | (simp; omega) | fail)); (focus (first | rfl | omega | (simp; done) | (simp; omega) | fail)); (focus (first | exact one_map _ | (simp [one8, one32, one64]; done) | fail))) | ((with_reducible apply wq_s1v (f := v32) hm); (exact rfl); infer_instance; (exact rfl); (exact rfl); infer_instance; (focus ((repeat (first | exact .hd | assumption | apply Swap.tl)); done)); (focus (first | omega | (simp; omega) | (refine Nat.lt_of_lt_of_le (BitVec.isLt _) ?_; first | omega | (simp; done) | (simp; omega) | fail) | fail))) | ((with_reducible apply wq_s1v (f := v8) hm); (exact rfl); infer_instance; (exact rfl); (exact rfl); infer_instance; (focus ((repeat (first | exact .hd | assumption | apply Swap.tl)); done)); (focus (first | omega | (simp; omega) | (refine Nat.lt_of_lt_of_le (BitVec.isLt _) ?_; first | omega | (simp; done) | (simp; omega) | fail) | fail))) | ((with_reducible apply wq_s1v (f := v64) hm); (exact rfl); infer_instance; (exact rfl); (exact rfl); infer_instance; (focus ((repeat (first | exact .hd | assumption | apply Swap.tl)); done)); (focus (first | omega | (simp; omega) | (refine Nat.lt_of_lt_of_le (BitVec.isLt _) ?_; first | omega | (simp; done) | (simp; omega) | fail) | fail))) | ((with_reducible apply wq_st1 hm); (exact rfl); infer_instance; (exact rfl); (exact rfl); (exact rfl); (exact rfl); (focus ((repeat (first | exact .hd | assumption | apply Swap.tl)); done)); (focus (first | omega | (simp; omega) | (refine Nat.lt_of_lt_of_le (BitVec.isLt _) ?_; first | omega | (simp; done) | (simp; omega) | fail) | fail))) | fail)); clear hm; intro w hm) | ((first | ((with_reducible show wpList _ _ _ (Oper.mk _ (Op.alloc _) _ _ _ _ :: _) _ _); first | ((with_reducible apply wq_new hm); (exact rfl); infer_instance) | fail) | ((with_reducible show wpList _ _ _ (Oper.mk _ (Op.box _ _) _ _ _ _ :: _) _ _); first | ((with_reducible apply wq_boxN hm); (exact rfl); (exact rfl)) | ((with_reducible apply wq_box1 hm); (exact rfl); (exact rfl); (exact rfl)) | fail)); clear hm; (first | (have hx_ := g1; clear hx_; (first | (have hx_ := g2; clear hx_; (first | (have hx_ := g3; clear hx_; (first | (have hx_ := g4; clear hx_; (first | (have hx_ := g5; clear hx_; (first | (have hx_ := g6; clear hx_; (first | (have hx_ := g7; clear hx_; (first | (have hx_ := g8; clear hx_; (first | (have hx_ := g9; clear hx_; intro g10) | intro g9)) | intro g8)) | intro g7)) | intro g6)) | intro g5)) | intro g4)) | intro g3)) | intro g2)) | intro g1); intro w hm) | fail)
  go_ret
  exact ⟨_, rfl, (hm.2.2 _ Has.hd.mem).1, hm.row .hd, hm.x⟩

set_option maxRecDepth 100000 in
set_option maxHeartbeats 2000000 in
theorem numbered1_in (n : Nat) (hn : 1 ≤ n) (l Bs : Nat) (w0 : World) (N c : Nat) (p : Option Addr) (vs : Nat → Value) (hN : N ≤ 70368744177000) (hNc : N ≤ c) (hp : 0 < N → p.isSome = true) (hc : ∀ j, j < N → w0.cell? ((p.getD default).add j) = some (vs j))
    (J Jx : List {i : Nat // i < N} → World → Prop)
    (hY : ∀ pre x W, J pre W → pre.length < N → YieldAt Fence.wide (n - 1) Tryd.prog l #[.int .i64 (3 + (x.1 : Int)), vs x.1] W fun e W' => (e = .returned (.bool true) ∧ J (pre ++ [x]) W' ∧ Below w0.heap.size W W') ∨ (e = .returned (.bool false) ∧ Jx (pre ++ [x]) W'))
    (W : World) (hW : Ext w0 W) (hBs : W.cell? ⟨Bs, 0, none⟩ = some (.slice p N c)) (h0 : J [] W) :
    CallsIn Fence.wide n Tryd.prog 94 #[.func (.yield l) #[] #[], .pointer (some ⟨Bs, 0, none⟩)] W fun e W' => (∃ v, e = .returned v) ∧
      ((∃ xs : List {i : Nat // i < N}, xs.map (·.1) = List.range N ∧ J xs W') ∨ (∃ pre : List {i : Nat // i < N}, True ∧ Jx pre W')) := by
  refine callsIn_of_wp Tryd.func94 rfl trivial ?_ rfl
  simp only [Tryd.ntmps94, List.size_toArray, List.length_cons, List.length_nil, Nat.reduceAdd, Nat.reduceSub, Array.replicate_succ, Array.replicate_zero, List.push_toArray, List.append_toArray, List.nil_append, List.cons_append]
  gi_wp2
  gi_loopw [7] (fun i wr => ∃ (k : Nat) (xs : List {i : Nat // i < N}), k ≤ N ∧ i = .int .i64 k ∧ xs.map (·.1) = List.range k ∧ J xs wr ∧ Below w0.heap.size w0 wr) (fun i _ => N - (intOf i).toNat)
  case atStart => exact ⟨0, [], Nat.zero_le _, rfl, rfl, h0, hW⟩
  case round =>
    obtain ⟨k, xs, hk, rfl, hxs, hJs, hnx⟩ := hrel
    have hxl : xs.length = k := by have := congrArg List.length hxs; simpa using this
    by_cases hlt : k < N
    · obtain ⟨a, rfl⟩ := Option.isSome_iff_exists.1 (hp (by omega))
      have hcell : wr.cell? (a.add k) = some (vs k) := Ext.cell hnx (hc k hlt)
      obtain ⟨fn, tmps, assign, body, hy, hR⟩ := hY xs ⟨k, hlt⟩ wr hJs (by rw [hxl]; exact hlt)
      dsimp only at hy
      have hlt' : (k : Int) < (N : Int) := by omega
      have hb3 : (3 : Int) + (k : Int) ≤ 9223372036854775807 := by omega
      clear hY hc hp
      gi_wp2
      refine hR.mono ?_
      rintro e W3 (⟨rfl, hJ3, hk3⟩ | ⟨rfl, hJx3⟩)
      · gi_wp2
        go_roundw
        case rel => exact ⟨k + 1, _, by omega, by simp, by rw [List.map_append, hxs, List.range_succ]; rfl, hJ3, hnx.trans hk3⟩
        case measure => simp [intOf]; omega
      · gi_wp2
        refine bodyPost_ret (results_none rfl _ _ _) rfl ?_
        exact ⟨⟨_, rfl⟩, .inr ⟨_, trivial, hJx3⟩⟩
    · obtain rfl : k = N := by omega
      gi_wp2
      go_end0
      exact ⟨⟨_, rfl⟩, .inl ⟨_, hxs, hJs⟩⟩
theorem numbered_stops (n : Nat) (hn : 1 ≤ n) (Bs : Nat) (w0 w : World) (N c : Nat) (p : Option Addr) (vs : Nat → Value) (hN : N ≤ 70368744177000) (hNc : N ≤ c) (hp : 0 < N → p.isSome = true) (hc : ∀ j, j < N → w0.cell? ((p.getD default).add j) = some (vs j)) (hw : Ext w0 w) (hBs : w.cell? ⟨Bs, 0, none⟩ = some (.slice p N c)) :
    SeqStopsK Fence.wide n Tryd.prog 94 #[.pointer (some ⟨Bs, 0, none⟩)] (fun x : {i : Nat // i < N} => #[.int .i64 (3 + (x.1 : Int)), vs x.1]) (Below w0.heap.size) (fun xs => xs.map (·.1) = List.range N) (fun _ => True) N w :=
  fun l J Jx W hW _ _ hY h0 => numbered1_in n hn l Bs w0 N c p vs hN hNc hp hc J Jx hY W (Ext.trans hw hW) (Ext.cell hW hBs) h0

end Go.Proofs.YtmgopjeaehmbfaaDoor
