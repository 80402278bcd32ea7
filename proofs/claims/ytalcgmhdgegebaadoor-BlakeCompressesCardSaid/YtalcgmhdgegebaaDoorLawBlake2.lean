/-
  Layer 6: the statement on compressions. Conditions: the program's first numbers and rows lie as its text lays them.
-/
import Derived.Test.YtalcgmhdgegebaaDoorLawBlake1
namespace Go.Proofs.YtalcgmhdgegebaaDoor
open Go Go.RowKit
set_option maxRecDepth 100000
set_option linter.unusedVariables false
set_option linter.unusedSimpArgs false

theorem run_part_v64 {P : Program} (w : World) (e : TypeId) (k : IntKind) (he : P.underlying e = some (.int k)) (l : List (BitVec 64)) (i : Nat) (hi : i < l.length) : (Go.part e (l.map v64).toArray i).run P w = .ok (v64 (l.getD i 0)) w := by
  simp [Go.part, isAgg, run_underlying he, hi]
theorem eq_loop64 (P : Program) (w : World) (f : Nat → Option Bool × Unit → Sem (ForInStep (Option Bool × Unit))) (l m : List (BitVec 64)) (n : Nat) (hl : l.length = n) (hm : m.length = n)
    (hf : ∀ i s, i < n → (f i s).run P w = .ok (if l.getD i 0 == m.getD i 0 then .yield (none, ()) else .done (some false, ())) w) :
    ∀ k a, a + k = n → (forIn (List.range' a k) ((none : Option Bool), ()) f).run P w = .ok (if l.drop a == m.drop a then (none, ()) else (some false, ())) w := by
  intro k
  induction k with
  | zero =>
    intro a ha
    have e1 : l.drop a = [] := List.drop_eq_nil_of_le (by omega)
    have e2 : m.drop a = [] := List.drop_eq_nil_of_le (by omega)
    rw [e1, e2]
    simp
  | succ k ih =>
    intro a ha
    have hla : a < l.length := by omega
    have hma : a < m.length := by omega
    simp only [List.range'_succ, List.forIn_cons, Sem.run_bind, hf a _ (by omega)]
    have e1 : l.drop a = l.getD a 0 :: l.drop (a + 1) := by rw [List.drop_eq_getElem_cons hla]; simp [hla]
    have e2 : m.drop a = m.getD a 0 :: m.drop (a + 1) := by rw [List.drop_eq_getElem_cons hma]; simp [hma]
    rw [e1, e2]
    by_cases h : l.getD a 0 = m.getD a 0
    · rw [h]
      have := ih (a + 1) (by omega)
      simp only [beq_self_eq_true, if_true, Result.andThen_ok, this]
      simp
    · have hb : (l.getD a 0 == m.getD a 0) = false := by simpa using h
      rw [hb]
      have hc : (l.getD a 0 :: l.drop (a + 1) == m.getD a 0 :: m.drop (a + 1)) = false := by
        rw [beq_eq_false_iff_ne]; intro e; exact h (List.cons.inj e).1
      rw [hc]
      simp only [Result.andThen_ok, Bool.false_eq_true, if_false, Sem.run_pure]
theorem run_equalIn_64s {P : Program} (w : World) (d : Nat) (T e : TypeId) (n : Nat) (l m : List (BitVec 64)) (hT : P.underlying T = some (.array n e)) (he : P.underlying e = some (.int .u64)) (hs : (P.info? e).map (·.size) = some 1) (hl : l.length = n) (hm : m.length = n) :
    (Op.equalIn (d + 2) T (A64 l) (A64 m)).run P w = .ok (l == m) w := by
  obtain ⟨i, hi1, hi2⟩ := Option.map_eq_some_iff.1 hs
  rw [Op.equalIn]
  simp only [Sem.run_bind, run_underlying hT, Result.andThen_ok, sizeOf, typeInfo, run_program, hi1, Sem.run_pure, hi2, Std.Legacy.Range.forIn_eq_forIn_range', Nat.mul_one, Std.Legacy.Range.size, Nat.sub_zero, Nat.add_sub_cancel, Nat.div_one]
  rw [eq_loop64 P w _ l m n hl hm ?hf n 0 (by omega)]
  case hf =>
    intro j s hj
    simp only [Sem.run_bind, run_part_v64 w e .u64 he l j (by omega), run_part_v64 w e .u64 he m j (by omega), Result.andThen_ok]
    rw [run_equalIn64 e _ _ P w d .u64 he]
    cases l.getD j 0 == m.getD j 0 <;> simp
  · simp only [List.drop_zero]
    cases l == m <;> simp
@[local go_sem] theorem eql8q (d : Nat) (l m : List (BitVec 64)) (w : World) (hl : l.length = 8) (hm : m.length = 8) : (Op.equalIn (d + 2) 45 (A64 l) (A64 m)).run Tryd.prog w = .ok (l == m) w :=
  run_equalIn_64s w d _ 44 8 l m (by kernel_rfl) (by kernel_rfl) (by kernel_rfl) hl hm
@[local go_sem] theorem build_wideq (a b : BitVec 64) (w : World) : (Instr.build 51 #[(0, v64 a), (1, v64 b)]).run Tryd.prog w = .ok (.agg #[v64 a, v64 b]) w := by kernel_rfl

/-- The cells of what is compressed. -/
def stepC (h : List (BitVec 64)) (b : List Byte) (lo hi : BitVec 64) (last : Bool) : List Value := h.map v64 ++ (b.map v8 ++ ([v64 lo] ++ ([v64 hi] ++ [.bool last])))
section
variable {h : List (BitVec 64)} {b : List Byte} {lo hi : BitVec 64} {last : Bool} (hh : h.length = 8) (hb : b.length = 128)
include hh
theorem stepC_h : ((stepC h b lo hi last).drop 0).take 8 = h.map v64 := by
  unfold stepC; rw [List.drop_zero, List.take_append_of_le_length (by simp [hh]), List.take_of_length_le (by simp [hh])]
include hb
theorem stepC_b : ((stepC h b lo hi last).drop 8).take 128 = b.map v8 := by
  unfold stepC; rw [List.drop_append, List.drop_eq_nil_of_le (by simp [hh]), List.nil_append, List.length_map, hh, Nat.sub_self, List.drop_zero, List.take_append_of_le_length (by simp [hb]), List.take_of_length_le (by simp [hb])]
theorem stepC_lo : (stepC h b lo hi last)[136]? = some (v64 lo) := by
  unfold stepC; rw [List.getElem?_append_right (by simp [hh]), List.getElem?_append_right (by simp [hh, hb])]; simp [hh, hb]
theorem stepC_hi : (stepC h b lo hi last)[137]? = some (v64 hi) := by
  unfold stepC; rw [List.getElem?_append_right (by simp [hh]), List.getElem?_append_right (by simp [hh, hb])]; simp [hh, hb]
theorem stepC_last : (stepC h b lo hi last)[138]? = some (.bool last) := by
  unfold stepC; rw [List.getElem?_append_right (by simp [hh]), List.getElem?_append_right (by simp [hh, hb])]; simp [hh, hb]
end
/-- A part of an own block that holds bytes, read as a slice. -/
theorem Own.rdB_part {w0 w : World} {L : List Blk} {g k n : Nat} {t : TypeId} {cs : List Value} {l : List Byte} (h : Own w0 w L) (hh : Has L ⟨g, t, cs⟩) (hp : (cs.drop k).take n = l.map v8) : RdB w (some ⟨g, k, none⟩) l :=
  ⟨fun _ => rfl, fun i hi => by
    show w.cell? ((⟨g, k, none⟩ : Addr).add i) = _
    rw [Addr.add_mid, row_cell (h.row hh)]
    have := congrArg (·[i]?) hp
    simp only [List.getElem?_take, List.getElem?_drop, List.getElem?_map, List.getElem?_eq_getElem hi, Option.map_some] at this
    split at this
    · rw [this, List.getD_eq_getElem?_getD, List.getElem?_eq_getElem hi]; rfl
    · cases this⟩

set_option maxHeartbeats 4000000 in
theorem compresses_walk (h : List (BitVec 64)) (b : List Byte) (lo hi : BitVec 64) (last : Bool) (w0 : World) (hh : h.length = 8) (hb : b.length = 128) (hc : CoefB w0) : Calls Tryd.prog 9 #[.agg (stepC h b lo hi last).toArray] w0 fun e w' => e = .returned (.bool true) ∧ Ext w0 w' := by
  have hm := Own.start w0
  have HC := Lib.hid hc
  have HH := Lib.hid hh
  have HB := Lib.hid hb
  have F1 := Lib.hid (stepC_h (b := b) (lo := lo) (hi := hi) (last := last) hh)
  have F2 := Lib.hid (stepC_b (lo := lo) (hi := hi) (last := last) hh hb)
  have F3 := Lib.hid (stepC_lo (lo := lo) (hi := hi) (last := last) hh hb)
  have F4 := Lib.hid (stepC_hi (lo := lo) (hi := hi) (last := last) hh hb)
  have F5 := Lib.hid (stepC_last (lo := lo) (hi := hi) (last := last) hh hb)
  have C1 := Lib.hid fun wx hx => compress_any h b lo hi last hh hb wx hx
  have C2 := fun p wx hr => rcompress_any h b p 128 lo hi last hh (by omega) (by omega) wx hr
  rw [hb] at C2
  have lC : (compL h (mL b) lo hi last).length = 8 := compL_length _ _ _ _ _
  generalize compL h (mL b) lo hi last = X at *
  generalize stepC h b lo hi last = S at *
  have D2 := Lib.hid C2
  clear hc hh hb C2
  go_enter Tryd.func9, Tryd.ntmps9
  go_wp2_with (first | ((with_reducible show wpList _ _ _ (Oper.mk _ (Op.load _ _) _ _ _ _ :: _) _ _); first | ((with_reducible apply wq_ldv hm); (exact rfl); infer_instance; (exact rfl); (focus ((repeat (first | exact .hd | assumption | apply Has.tl)); done)); (focus (first | omega | (simp; omega) | (refine Nat.lt_of_lt_of_le (BitVec.isLt _) ?_; first | omega | (simp; done) | (simp; omega) | fail) | fail))) | ((with_reducible apply wq_ldW hm); (exact rfl); infer_instance; (exact rfl); (focus ((repeat (first | exact .hd | assumption | apply Has.tl)); done)); (focus (first | rfl | omega | (simp; done) | (simp; omega) | fail))) | ((with_reducible apply wq_ld1 hm); (exact rfl); infer_instance; (exact rfl); (focus ((repeat (first | exact .hd | assumption | apply Has.tl)); done)); (exact rfl)) | fail) | ((((with_reducible show wpList _ _ _ (Oper.mk _ (Op.store _ _ _) _ _ _ _ :: _) _ _); first | ((with_reducible apply wq_stv hm); (exact rfl); infer_instance; (exact rfl); (focus ((repeat (first | exact .hd | assumption | apply Swap.tl)); done)); infer_instance; (exact rfl); (focus (first | omega | (simp; omega) | (refine Nat.lt_of_lt_of_le (BitVec.isLt _) ?_; first | omega | (simp; done) | (simp; omega) | fail) | fail))) | ((with_reducible apply wq_st8i hm); (exact rfl); infer_instance; (exact rfl); (exact rfl); (focus ((repeat (first | exact .hd | assumption | apply Swap.tl)); done)); (focus omega); (focus (first | omega | (simp; omega) | (refine Nat.lt_of_lt_of_le (BitVec.isLt _) ?_; first | omega | (simp; done) | (simp; omega) | fail) | fail))) | ((with_reducible apply wq_st64i hm); (exact rfl); infer_instance; (exact rfl); (exact rfl); (focus ((repeat (first | exact .hd | assumption | apply Swap.tl)); done)); (focus omega); (focus (first | omega | (simp; omega) | (refine Nat.lt_of_lt_of_le (BitVec.isLt _) ?_; first | omega | (simp; done) | (simp; omega) | fail) | fail))) | ((with_reducible apply wq_stW hm); (exact rfl); infer_instance; (exact rfl); (exact rfl); (focus ((repeat (first | exact .hd | assumption | apply Swap.tl)); done)); (focus (first | rfl | omega | (simp; done) | (simp; omega) | fail)); (focus (first | rfl | omega | (simp; done) | (simp; omega) | fail)); (focus (first | exact one_map _ | (simp [one8, one32, one64]; done) | fail))) | ((with_reducible apply wq_s1v (f := v32) hm); (exact rfl); infer_instance; (exact rfl); (exact rfl); infer_instance; (focus ((repeat (first | exact .hd | assumption | apply Swap.tl)); done)); (focus (first | omega | (simp; omega) | (refine Nat.lt_of_lt_of_le (BitVec.isLt _) ?_; first | omega | (simp; done) | (simp; omega) | fail) | fail))) | ((with_reducible apply wq_s1v (f := v8) hm); (exact rfl); infer_instance; (exact rfl); (exact rfl); infer_instance; (focus ((repeat (first | exact .hd | assumption | apply Swap.tl)); done)); (focus (first | omega | (simp; omega) | (refine Nat.lt_of_lt_of_le (BitVec.isLt _) ?_; first | omega | (simp; done) | (simp; omega) | fail) | fail))) | ((with_reducible apply wq_s1v (f := v64) hm); (exact rfl); infer_instance; (exact rfl); (exact rfl); infer_instance; (focus ((repeat (first | exact .hd | assumption | apply Swap.tl)); done)); (focus (first | omega | (simp; omega) | (refine Nat.lt_of_lt_of_le (BitVec.isLt _) ?_; first | omega | (simp; done) | (simp; omega) | fail) | fail))) | ((with_reducible apply wq_st1 hm); (exact rfl); infer_instance; (exact rfl); (exact rfl); (exact rfl); (exact rfl); (focus ((repeat (first | exact .hd | assumption | apply Swap.tl)); done)); (focus (first | omega | (simp; omega) | (refine Nat.lt_of_lt_of_le (BitVec.isLt _) ?_; first | omega | (simp; done) | (simp; omega) | fail) | fail))) | fail)); clear hm; intro w hm) | ((first | ((with_reducible show wpList _ _ _ (Oper.mk _ (Op.alloc _) _ _ _ _ :: _) _ _); first | ((with_reducible apply wq_new hm); (exact rfl); infer_instance) | fail) | ((with_reducible show wpList _ _ _ (Oper.mk _ (Op.box _ _) _ _ _ _ :: _) _ _); first | ((with_reducible apply wq_boxN hm); (exact rfl); (exact rfl)) | ((with_reducible apply wq_box1 hm); (exact rfl); (exact rfl); (exact rfl)) | fail)); clear hm; (first | (have hx_ := g1; clear hx_; (first | (have hx_ := g2; clear hx_; (first | (have hx_ := g3; clear hx_; (first | (have hx_ := g4; clear hx_; (first | (have hx_ := g5; clear hx_; (first | (have hx_ := g6; clear hx_; (first | (have hx_ := g7; clear hx_; (first | (have hx_ := g8; clear hx_; (first | (have hx_ := g9; clear hx_; intro g10) | intro g9)) | intro g8)) | intro g7)) | intro g6)) | intro g5)) | intro g4)) | intro g3)) | intro g2)) | intro g1); intro w hm) | fail)
  have HX := Lib.hid hm.x
  have HR := Lib.hid fun wx (hwx : Ext _ wx) => (hm.ext hwx).rdB_part (g := g1) (k := 8) (n := 128) (l := b) .hd F2.out
  refine region_at 27 (fun w' => Ext _ w') 30 (by kernel_rfl) (by kernel_rfl) rfl (fun _ _ h k => h.trans k) (drew_ext _) ?_
  simp only [List.take_succ_cons, List.take_zero, List.drop_succ_cons, List.drop_zero, List.map_cons, List.map_nil]
  repeat (first
      | (apply walk_is rfl rfl rfl; (intro wx hwx; (with_reducible apply gq_ldN (hm.ext hwx)); infer_instance; (exact rfl); (focus ((repeat (first | exact .hd | assumption | apply Has.tl)); done)); (exact F1.out); (exact (List.length_map ..).trans HH.out)); (simp only [Act.put, List.setIfInBounds_toArray, List.set_cons_succ, List.set_cons_zero]; rfl))
      | (apply walk_is rfl rfl rfl; (intro wx hwx; (with_reducible apply gq_ldN (hm.ext hwx)); infer_instance; (exact rfl); (focus ((repeat (first | exact .hd | assumption | apply Has.tl)); done)); (exact F2.out); (exact (List.length_map ..).trans HB.out)); (simp only [Act.put, List.setIfInBounds_toArray, List.set_cons_succ, List.set_cons_zero]; rfl))
      | (apply walk_is rfl rfl rfl; (intro wx hwx; (with_reducible apply gq_ld1 (hm.ext hwx)); infer_instance; (exact rfl); (focus ((repeat (first | exact .hd | assumption | apply Has.tl)); done)); (exact F3.out)); (simp only [Act.put, List.setIfInBounds_toArray, List.set_cons_succ, List.set_cons_zero]; rfl))
      | (apply walk_is rfl rfl rfl; (intro wx hwx; (with_reducible apply gq_ld1 (hm.ext hwx)); infer_instance; (exact rfl); (focus ((repeat (first | exact .hd | assumption | apply Has.tl)); done)); (exact F4.out)); (simp only [Act.put, List.setIfInBounds_toArray, List.set_cons_succ, List.set_cons_zero]; rfl))
      | (apply walk_is rfl rfl rfl; (intro wx hwx; (with_reducible apply gq_ld1 (hm.ext hwx)); infer_instance; (exact rfl); (focus ((repeat (first | exact .hd | assumption | apply Has.tl)); done)); (exact F5.out)); (simp only [Act.put, List.setIfInBounds_toArray, List.set_cons_succ, List.set_cons_zero]; rfl))
      | (apply walk_is rfl rfl rfl
         · (intro wx hwx; first | ((with_reducible show gives _ _ _ (Sem.run _ (execOp _ (Oper.mk _ (Op.load _ _) _ _ _ _)) _)); first | ((with_reducible apply gq_ldv (hm.ext hwx)); infer_instance; (exact rfl); (focus ((repeat (first | exact .hd | assumption | apply Has.tl)); done)); (focus (first | omega | (simp; omega) | (refine Nat.lt_of_lt_of_le (BitVec.isLt _) ?_; first | omega | (simp; done) | (simp; omega) | fail) | fail))) | ((with_reducible apply gq_ldW (hm.ext hwx)); infer_instance; (exact rfl); (focus ((repeat (first | exact .hd | assumption | apply Has.tl)); done)); (focus (first | rfl | omega | (simp; done) | (simp; omega) | fail))) | ((with_reducible apply gq_ld1 (hm.ext hwx)); infer_instance; (exact rfl); (focus ((repeat (first | exact .hd | assumption | apply Has.tl)); done)); (exact rfl)) | fail) | (go_simp; (try go_bits); first | exact gives_same | exact gives_skip | with_reducible exact gives_call (C1.out wx (HC.out.ext (HX.out.trans hwx))) | with_reducible exact gives_call (D2.out _ wx (HR.out wx hwx)) | with_reducible exact gives_call (awake6 wx (HC.out.ext (HX.out.trans hwx)))))
         · (simp only [Act.put, List.setIfInBounds_toArray, List.set_cons_succ, List.set_cons_zero]; rfl))
      | (apply walk_not rfl rfl rfl
         · (simp only [Act.put, List.setIfInBounds_toArray, List.set_cons_succ, List.set_cons_zero]; rfl)))
  intro wz hwz
  simp only [List.zip_cons_cons, List.zip_nil_right]
  repeat (first | rw [fin_is] | (rw [fin_cons]; intro _ _))
  rw [fin_nil]
  try (replace hm := hm.ext hwz)
  simp only [Act.put, List.setIfInBounds_toArray, List.set_cons_succ, List.set_cons_zero]
  go_wp2_with (first | ((with_reducible show wpList _ _ _ (Oper.mk _ (Op.load _ _) _ _ _ _ :: _) _ _); first | ((with_reducible apply wq_ldv hm); (exact rfl); infer_instance; (exact rfl); (focus ((repeat (first | exact .hd | assumption | apply Has.tl)); done)); (focus (first | omega | (simp; omega) | (refine Nat.lt_of_lt_of_le (BitVec.isLt _) ?_; first | omega | (simp; done) | (simp; omega) | fail) | fail))) | ((with_reducible apply wq_ldW hm); (exact rfl); infer_instance; (exact rfl); (focus ((repeat (first | exact .hd | assumption | apply Has.tl)); done)); (focus (first | rfl | omega | (simp; done) | (simp; omega) | fail))) | ((with_reducible apply wq_ld1 hm); (exact rfl); infer_instance; (exact rfl); (focus ((repeat (first | exact .hd | assumption | apply Has.tl)); done)); (exact rfl)) | fail) | ((((with_reducible show wpList _ _ _ (Oper.mk _ (Op.store _ _ _) _ _ _ _ :: _) _ _); first | ((with_reducible apply wq_stv hm); (exact rfl); infer_instance; (exact rfl); (focus ((repeat (first | exact .hd | assumption | apply Swap.tl)); done)); infer_instance; (exact rfl); (focus (first | omega | (simp; omega) | (refine Nat.lt_of_lt_of_le (BitVec.isLt _) ?_; first | omega | (simp; done) | (simp; omega) | fail) | fail))) | ((with_reducible apply wq_st8i hm); (exact rfl); infer_instance; (exact rfl); (exact rfl); (focus ((repeat (first | exact .hd | assumption | apply Swap.tl)); done)); (focus omega); (focus (first | omega | (simp; omega) | (refine Nat.lt_of_lt_of_le (BitVec.isLt _) ?_; first | omega | (simp; done) | (simp; omega) | fail) | fail))) | ((with_reducible apply wq_st64i hm); (exact rfl); infer_instance; (exact rfl); (exact rfl); (focus ((repeat (first | exact .hd | assumption | apply Swap.tl)); done)); (focus omega); (focus (first | omega | (simp; omega) | (refine Nat.lt_of_lt_of_le (BitVec.isLt _) ?_; first | omega | (simp; done) | (simp; omega) | fail) | fail))) | ((with_reducible apply wq_stW hm); (exact rfl); infer_instance; (exact rfl); (exact rfl); (focus ((repeat (first | exact .hd | assumption | apply Swap.tl)); done)); (focus (first | rfl | omega | (simp; done) | (simp; omega) | fail)); (focus (first | rfl | omega | (simp; done) | (simp; omega) | fail)); (focus (first | exact one_map _ | (simp [one8, one32, one64]; done) | fail))) | ((with_reducible apply wq_s1v (f := v32) hm); (exact rfl); infer_instance; (exact rfl); (exact rfl); infer_instance; (focus ((repeat (first | exact .hd | assumption | apply Swap.tl)); done)); (focus (first | omega | (simp; omega) | (refine Nat.lt_of_lt_of_le (BitVec.isLt _) ?_; first | omega | (simp; done) | (simp; omega) | fail) | fail))) | ((with_reducible apply wq_s1v (f := v8) hm); (exact rfl); infer_instance; (exact rfl); (exact rfl); infer_instance; (focus ((repeat (first | exact .hd | assumption | apply Swap.tl)); done)); (focus (first | omega | (simp; omega) | (refine Nat.lt_of_lt_of_le (BitVec.isLt _) ?_; first | omega | (simp; done) | (simp; omega) | fail) | fail))) | ((with_reducible apply wq_s1v (f := v64) hm); (exact rfl); infer_instance; (exact rfl); (exact rfl); infer_instance; (focus ((repeat (first | exact .hd | assumption | apply Swap.tl)); done)); (focus (first | omega | (simp; omega) | (refine Nat.lt_of_lt_of_le (BitVec.isLt _) ?_; first | omega | (simp; done) | (simp; omega) | fail) | fail))) | ((with_reducible apply wq_st1 hm); (exact rfl); infer_instance; (exact rfl); (exact rfl); (exact rfl); (exact rfl); (focus ((repeat (first | exact .hd | assumption | apply Swap.tl)); done)); (focus (first | omega | (simp; omega) | (refine Nat.lt_of_lt_of_le (BitVec.isLt _) ?_; first | omega | (simp; done) | (simp; omega) | fail) | fail))) | fail)); clear hm; intro w hm) | ((first | ((with_reducible show wpList _ _ _ (Oper.mk _ (Op.alloc _) _ _ _ _ :: _) _ _); first | ((with_reducible apply wq_new hm); (exact rfl); infer_instance) | fail) | ((with_reducible show wpList _ _ _ (Oper.mk _ (Op.box _ _) _ _ _ _ :: _) _ _); first | ((with_reducible apply wq_boxN hm); (exact rfl); (exact rfl)) | ((with_reducible apply wq_box1 hm); (exact rfl); (exact rfl); (exact rfl)) | fail)); clear hm; (first | (have hx_ := g1; clear hx_; (first | (have hx_ := g2; clear hx_; (first | (have hx_ := g3; clear hx_; (first | (have hx_ := g4; clear hx_; (first | (have hx_ := g5; clear hx_; (first | (have hx_ := g6; clear hx_; (first | (have hx_ := g7; clear hx_; (first | (have hx_ := g8; clear hx_; (first | (have hx_ := g9; clear hx_; intro g10) | intro g9)) | intro g8)) | intro g7)) | intro g6)) | intro g5)) | intro g4)) | intro g3)) | intro g2)) | intro g1); intro w hm) | fail)
  go_ret
  exact ⟨rfl, hm.x⟩

end Go.Proofs.YtalcgmhdgegebaaDoor
