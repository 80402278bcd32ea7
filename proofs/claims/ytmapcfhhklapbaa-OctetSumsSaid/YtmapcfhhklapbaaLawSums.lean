/-
  THE STATEMENT OctetSums, PROVED: the sum and the difference of any two numbers of 128 bits. No conditions.
-/
import Derived.Test.YtmapcfhhklapbaaOct9
namespace Go.Proofs.Ytmapcfhhklapbaa
open Go Go.RowKit

/-- A row's number from a place on, so many bytes. -/
def numN (l : List Byte) (i : Nat) : Nat → Nat
  | 0 => 0
  | r + 1 => numN l (i + 1) r * 256 + (nth l i).toNat
theorem numN_lt (l : List Byte) (r : Nat) : ∀ i, numN l i r < 256 ^ r := by
  induction r with
  | zero => intro i; simp [numN]
  | succ r ih =>
    intro i
    have h1 := ih (i + 1)
    have h2 := (nth l i).isLt
    simp only [numN, Nat.pow_succ]; omega
theorem num_numN (l : List Byte) (r : Nat) : ∀ i : Nat, r ≤ 8 → (num l i r).toNat = numN l i r := by
  induction r with
  | zero => intro i _; rfl
  | succ r ih =>
    intro i hr
    rw [num_succ, ← mul_add_or]
    have e : (i : Int) + 1 = ((i + 1 : Nat) : Int) := by omega
    have h1 := ih (i + 1) (by omega)
    have h2 := numN_lt l r (i + 1)
    have h3 : 256 ^ r ≤ 256 ^ 7 := Nat.pow_le_pow_right (by omega) (by omega)
    have h4 := (nth l i).isLt
    have h5 : gb l (i : Int) = nth l i := gb_in l i
    rw [e, h5]
    simp only [BitVec.toNat_add, BitVec.toNat_mul, h1, BitVec.toNat_setWidth, numN]
    have h6 : (BitVec.ofInt 64 256).toNat = 256 := by decide
    rw [h6]
    omega
theorem plus_sum (a b : List Byte) (r : Nat) : ∀ i, i + r ≤ 16 → numN (tab 16 (plusB a b)) i r + 256 ^ r * carN a b (i + r) = numN a i r + numN b i r + carN a b i := by
  induction r with
  | zero => intro i _; simp [numN]
  | succ r ih =>
    intro i hi
    have h1 := ih (i + 1) (by omega)
    have e : i + 1 + r = i + (r + 1) := by omega
    rw [e] at h1
    have h2 : (nth (tab 16 (plusB a b)) i).toNat = ((nth a i).toNat + (nth b i).toNat + carN a b i) % 256 := by
      rw [nth_tab (by omega)]; simp [plusB]
    have h3 : carN a b (i + 1) = ((nth a i).toNat + (nth b i).toNat + carN a b i) / 256 := rfl
    simp only [numN, h2, Nat.pow_succ]
    have h4 : 256 ^ r * 256 * carN a b (i + (r + 1)) = 256 * (256 ^ r * carN a b (i + (r + 1))) := by rw [Nat.mul_comm (256 ^ r) 256, Nat.mul_assoc]
    rw [h4]
    generalize 256 ^ r * carN a b (i + (r + 1)) = X at *
    omega
theorem minus_sum (a b : List Byte) (r : Nat) : ∀ i, i + r ≤ 16 → numN (tab 16 (minusB a b)) i r + numN b i r + lessN a b i = numN a i r + 256 ^ r * lessN a b (i + r) := by
  induction r with
  | zero => intro i _; simp [numN]
  | succ r ih =>
    intro i hi
    have h1 := ih (i + 1) (by omega)
    have e : i + 1 + r = i + (r + 1) := by omega
    rw [e] at h1
    have h2 : (nth (tab 16 (minusB a b)) i).toNat = (256 + (nth a i).toNat - (nth b i).toNat - lessN a b i) % 256 := by
      rw [nth_tab (by omega)]; simp [minusB]
    have h3 : lessN a b (i + 1) = 1 - (256 + (nth a i).toNat - (nth b i).toNat - lessN a b i) / 256 := rfl
    have h5 := (nth a i).isLt
    have h6 := (nth b i).isLt
    have h7 := lessN_le a b i
    simp only [numN, h2, Nat.pow_succ]
    have h4 : 256 ^ r * 256 * lessN a b (i + (r + 1)) = 256 * (256 ^ r * lessN a b (i + (r + 1))) := by rw [Nat.mul_comm (256 ^ r) 256, Nat.mul_assoc]
    rw [h4]
    generalize 256 ^ r * lessN a b (i + (r + 1)) = X at *
    omega
theorem num0 (l : List Byte) : (num l 0 8).toNat = numN l 0 8 := num_numN l 8 0 (by omega)
theorem num8 (l : List Byte) : (num l 8 8).toNat = numN l 8 8 := num_numN l 8 8 (by omega)
theorem plus_wide (a b : List Byte) : num (tab 16 (plusB a b)) 0 8 = num a 0 8 + num b 0 8 ∧ num (tab 16 (plusB a b)) 8 8 = num a 8 8 + num b 8 8 + carryB (num a 0 8) (num b 0 8) 0#64 := by
  have h1 := plus_sum a b 8 0 (by omega)
  have h2 := plus_sum a b 8 8 (by omega)
  have b1 := numN_lt (tab 16 (plusB a b)) 8 0
  have b2 := numN_lt (tab 16 (plusB a b)) 8 8
  have b3 := numN_lt a 8 0
  have b4 := numN_lt b 8 0
  have c0 : carN a b 0 = 0 := rfl
  have c1 := carN_le a b 8
  have e : (256 : Nat) ^ 8 = 18446744073709551616 := by decide
  simp only [Nat.zero_add, Nat.reduceAdd, e] at h1 h2 b1 b2 b3 b4
  constructor
  · apply BitVec.eq_of_toNat_eq
    rw [BitVec.toNat_add, num0, num0, num0]; omega
  · apply BitVec.eq_of_toNat_eq
    rw [BitVec.toNat_add, BitVec.toNat_add, num8, num8, num8]
    simp only [carryB, num0, BitVec.toNat_ofNat]; omega
theorem minus_wide (a b : List Byte) : num (tab 16 (minusB a b)) 0 8 = num a 0 8 - num b 0 8 ∧ num (tab 16 (minusB a b)) 8 8 = num a 8 8 - num b 8 8 - borrowB (num a 0 8) (num b 0 8) 0#64 := by
  have h1 := minus_sum a b 8 0 (by omega)
  have h2 := minus_sum a b 8 8 (by omega)
  have b1 := numN_lt (tab 16 (minusB a b)) 8 0
  have b2 := numN_lt (tab 16 (minusB a b)) 8 8
  have b3 := numN_lt a 8 0
  have b4 := numN_lt b 8 0
  have b5 := numN_lt a 8 8
  have b6 := numN_lt b 8 8
  have c0 : lessN a b 0 = 0 := rfl
  have c1 := lessN_le a b 8
  have c2 := lessN_le a b 16
  have e : (256 : Nat) ^ 8 = 18446744073709551616 := by decide
  simp only [Nat.zero_add, Nat.reduceAdd, e] at h1 h2 b1 b2 b3 b4 b5 b6
  constructor
  · apply BitVec.eq_of_toNat_eq
    rw [BitVec.toNat_sub, num0, num0, num0]; omega
  · apply BitVec.eq_of_toNat_eq
    have hb : (borrowB (num a 0 8) (num b 0 8) 0#64).toNat = lessN a b 8 := by
      unfold borrowB
      simp only [num0, BitVec.toNat_ofNat]
      split <;> simp <;> omega
    rw [BitVec.toNat_sub, BitVec.toNat_sub, hb, num8, num8, num8]; omega

set_option maxHeartbeats 1000000 in
theorem sums_walk (a b : List Byte) (w0 : World) (ha : a.length = 16) (hb : b.length = 16) :
    Calls Try.prog 9 #[A8 a, A8 b] w0 fun e w' => e = .returned (.bool true) ∧ Ext w0 w' := by
  have ha1 := Nat.le_of_eq ha.symm
  have hb1 := Nat.le_of_eq hb.symm
  have ha2 := Nat.le_of_eq ha
  have hb2 := Nat.le_of_eq hb
  have ca := fun wx => wide_any a ha wx
  have cb := fun wx => wide_any b hb wx
  have cp := fun wx => rplus_any a b ha hb wx
  have cq := fun wx => rminus_any a b ha hb wx
  have cx := fun wx => oplus_any (num a 0 8) (num a 8 8) (num b 0 8) (num b 8 8) wx
  have cy := fun wx => ominus_any (num a 0 8) (num a 8 8) (num b 0 8) (num b 8 8) wx
  have cu := fun wx => wide_any (tab 16 (plusB a b)) tab_length wx
  have cv := fun wx => wide_any (tab 16 (minusB a b)) tab_length wx
  rw [(plus_wide a b).1, (plus_wide a b).2] at cu
  rw [(minus_wide a b).1, (minus_wide a b).2] at cv
  clear ha hb
  have hm := Own.start w0
  go_enter Try.func9, Try.ntmps9
  go_wp2_with (first | ((with_reducible show wpList _ _ _ (Oper.mk _ (Op.load _ _) _ _ _ _ :: _) _ _); first | ((with_reducible apply wq_ldv hm); (exact rfl); infer_instance; (exact rfl); (focus ((repeat (first | exact .hd | assumption | apply Has.tl)); done)); (focus (first | omega | (simp; omega) | (refine Nat.lt_of_lt_of_le (BitVec.isLt _) ?_; first | omega | (simp; done) | (simp; omega) | fail) | fail))) | ((with_reducible apply wq_ldW hm); (exact rfl); infer_instance; (exact rfl); (focus ((repeat (first | exact .hd | assumption | apply Has.tl)); done)); (focus (first | rfl | omega | (simp; done) | (simp; omega) | fail))) | ((with_reducible apply wq_ld1 hm); (exact rfl); infer_instance; (exact rfl); (focus ((repeat (first | exact .hd | assumption | apply Has.tl)); done)); (exact rfl)) | fail) | ((((with_reducible show wpList _ _ _ (Oper.mk _ (Op.store _ _ _) _ _ _ _ :: _) _ _); first | ((with_reducible apply wq_stv hm); (exact rfl); infer_instance; (exact rfl); (focus ((repeat (first | exact .hd | assumption | apply Swap.tl)); done)); infer_instance; (exact rfl); (focus (first | omega | (simp; omega) | (refine Nat.lt_of_lt_of_le (BitVec.isLt _) ?_; first | omega | (simp; done) | (simp; omega) | fail) | fail))) | ((with_reducible apply wq_st8i hm); (exact rfl); infer_instance; (exact rfl); (exact rfl); (focus ((repeat (first | exact .hd | assumption | apply Swap.tl)); done)); (focus omega); (focus (first | omega | (simp; omega) | (refine Nat.lt_of_lt_of_le (BitVec.isLt _) ?_; first | omega | (simp; done) | (simp; omega) | fail) | fail))) | ((with_reducible apply wq_st64i hm); (exact rfl); infer_instance; (exact rfl); (exact rfl); (focus ((repeat (first | exact .hd | assumption | apply Swap.tl)); done)); (focus omega); (focus (first | omega | (simp; omega) | (refine Nat.lt_of_lt_of_le (BitVec.isLt _) ?_; first | omega | (simp; done) | (simp; omega) | fail) | fail))) | ((with_reducible apply wq_stW hm); (exact rfl); infer_instance; (exact rfl); (exact rfl); (focus ((repeat (first | exact .hd | assumption | apply Swap.tl)); done)); (focus (first | rfl | omega | (simp; done) | (simp; omega) | fail)); (focus (first | rfl | omega | (simp; done) | (simp; omega) | fail)); (focus (first | exact one_map _ | (simp [one8, one32, one64]; done) | fail))) | ((with_reducible apply wq_st1 hm); (exact rfl); infer_instance; (exact rfl); (exact rfl); (exact rfl); (exact rfl); (focus ((repeat (first | exact .hd | assumption | apply Swap.tl)); done)); (focus (first | omega | (simp; omega) | (refine Nat.lt_of_lt_of_le (BitVec.isLt _) ?_; first | omega | (simp; done) | (simp; omega) | fail) | fail))) | fail)); clear hm; intro w hm) | ((first | ((with_reducible show wpList _ _ _ (Oper.mk _ (Op.alloc _) _ _ _ _ :: _) _ _); first | ((with_reducible apply wq_new hm); (exact rfl); infer_instance) | fail) | ((with_reducible show wpList _ _ _ (Oper.mk _ (Op.box _ _) _ _ _ _ :: _) _ _); first | ((with_reducible apply wq_boxN hm); (exact rfl); (exact rfl)) | ((with_reducible apply wq_box1 hm); (exact rfl); (exact rfl); (exact rfl)) | fail)); clear hm; (first | (have hx_ := g1; clear hx_; (first | (have hx_ := g2; clear hx_; (first | (have hx_ := g3; clear hx_; (first | (have hx_ := g4; clear hx_; (first | (have hx_ := g5; clear hx_; (first | (have hx_ := g6; clear hx_; (first | (have hx_ := g7; clear hx_; (first | (have hx_ := g8; clear hx_; (first | (have hx_ := g9; clear hx_; intro g10) | intro g9)) | intro g8)) | intro g7)) | intro g6)) | intro g5)) | intro g4)) | intro g3)) | intro g2)) | intro g1); intro w hm) | fail)
  refine region_new 6 (fun w' => Ext _ w') 32 (by kernel_rfl) (by kernel_rfl) rfl (fun _ _ h k => h.trans k) (drew_ext _) ?_
  simp only [List.take_succ_cons, List.take_zero, List.drop_succ_cons, List.drop_zero, List.map_cons, List.map_nil]
  repeat (first
      | (apply walk_some (NewS (w.heap.size) 30 ([v64 0#64, v64 0#64])) 5 (NewS.stable _ _ _) rfl rfl rfl rfl
         · (intro wx hwx; go_simp; exact gives_new (cs := [v64 0#64, v64 0#64]) hwx.size))
      | (apply walk_some (NewS (w.heap.size) 30 ([v64 0#64, v64 0#64])) 6 (NewS.stable _ _ _) rfl rfl rfl rfl
         · (intro wx hwx; go_simp; exact gives_new (cs := [v64 0#64, v64 0#64]) hwx.size))
      | (apply walk_is rfl rfl rfl
         · (intro wx hwx; first | ((with_reducible show gives _ _ _ (Sem.run _ (execOp _ (Oper.mk _ (Op.load _ _) _ _ _ _)) _)); first | ((with_reducible apply gq_ldv (hm.ext hwx)); infer_instance; (exact rfl); (focus ((repeat (first | exact .hd | assumption | apply Has.tl)); done)); (focus (first | omega | (simp; omega) | (refine Nat.lt_of_lt_of_le (BitVec.isLt _) ?_; first | omega | (simp; done) | (simp; omega) | fail) | fail))) | ((with_reducible apply gq_ldW (hm.ext hwx)); infer_instance; (exact rfl); (focus ((repeat (first | exact .hd | assumption | apply Has.tl)); done)); (focus (first | rfl | omega | (simp; done) | (simp; omega) | fail))) | ((with_reducible apply gq_ld1 (hm.ext hwx)); infer_instance; (exact rfl); (focus ((repeat (first | exact .hd | assumption | apply Has.tl)); done)); (exact rfl)) | fail) | (go_simp; (try go_bits); first | exact gives_same | exact gives_skip | with_reducible exact gives_call (ca wx) | with_reducible exact gives_call (cb wx)))
         · (simp only [Act.put, List.setIfInBounds_toArray, List.set_cons_succ, List.set_cons_zero]; rfl))
      | (apply walk_not rfl rfl rfl
         · (simp only [Act.put, List.setIfInBounds_toArray, List.set_cons_succ, List.set_cons_zero]; rfl)))
  intro wz hwz
  simp only [List.zip_cons_cons, List.zip_nil_right]
  repeat rw [fin_is]
  rw [fin_cons]; intro x5 hx5
  repeat rw [fin_is]
  rw [fin_cons]; intro x6 hx6
  repeat rw [fin_is]
  rw [fin_nil]; intro hap
  simp only [Act.put, List.setIfInBounds_toArray, List.set_cons_succ, List.set_cons_zero] at hap ⊢
  obtain ⟨g5_, rfl, hg5, hr5⟩ := hx5
  obtain ⟨g6_, rfl, hg6, hr6⟩ := hx6
  replace hm := hm.push2 hwz hg5 hr5 hg6 hr6 (apart_of hap (d := 5) (e := 6) (by decide) (by decide) (by decide) rfl rfl)
  clear hap hr5 hr6
  go_wp2_with (first | ((with_reducible show wpList _ _ _ (Oper.mk _ (Op.load _ _) _ _ _ _ :: _) _ _); first | ((with_reducible apply wq_ldv hm); (exact rfl); infer_instance; (exact rfl); (focus ((repeat (first | exact .hd | assumption | apply Has.tl)); done)); (focus (first | omega | (simp; omega) | (refine Nat.lt_of_lt_of_le (BitVec.isLt _) ?_; first | omega | (simp; done) | (simp; omega) | fail) | fail))) | ((with_reducible apply wq_ldW hm); (exact rfl); infer_instance; (exact rfl); (focus ((repeat (first | exact .hd | assumption | apply Has.tl)); done)); (focus (first | rfl | omega | (simp; done) | (simp; omega) | fail))) | ((with_reducible apply wq_ld1 hm); (exact rfl); infer_instance; (exact rfl); (focus ((repeat (first | exact .hd | assumption | apply Has.tl)); done)); (exact rfl)) | fail) | ((((with_reducible show wpList _ _ _ (Oper.mk _ (Op.store _ _ _) _ _ _ _ :: _) _ _); first | ((with_reducible apply wq_stv hm); (exact rfl); infer_instance; (exact rfl); (focus ((repeat (first | exact .hd | assumption | apply Swap.tl)); done)); infer_instance; (exact rfl); (focus (first | omega | (simp; omega) | (refine Nat.lt_of_lt_of_le (BitVec.isLt _) ?_; first | omega | (simp; done) | (simp; omega) | fail) | fail))) | ((with_reducible apply wq_st8i hm); (exact rfl); infer_instance; (exact rfl); (exact rfl); (focus ((repeat (first | exact .hd | assumption | apply Swap.tl)); done)); (focus omega); (focus (first | omega | (simp; omega) | (refine Nat.lt_of_lt_of_le (BitVec.isLt _) ?_; first | omega | (simp; done) | (simp; omega) | fail) | fail))) | ((with_reducible apply wq_st64i hm); (exact rfl); infer_instance; (exact rfl); (exact rfl); (focus ((repeat (first | exact .hd | assumption | apply Swap.tl)); done)); (focus omega); (focus (first | omega | (simp; omega) | (refine Nat.lt_of_lt_of_le (BitVec.isLt _) ?_; first | omega | (simp; done) | (simp; omega) | fail) | fail))) | ((with_reducible apply wq_stW hm); (exact rfl); infer_instance; (exact rfl); (exact rfl); (focus ((repeat (first | exact .hd | assumption | apply Swap.tl)); done)); (focus (first | rfl | omega | (simp; done) | (simp; omega) | fail)); (focus (first | rfl | omega | (simp; done) | (simp; omega) | fail)); (focus (first | exact one_map _ | (simp [one8, one32, one64]; done) | fail))) | ((with_reducible apply wq_st1 hm); (exact rfl); infer_instance; (exact rfl); (exact rfl); (exact rfl); (exact rfl); (focus ((repeat (first | exact .hd | assumption | apply Swap.tl)); done)); (focus (first | omega | (simp; omega) | (refine Nat.lt_of_lt_of_le (BitVec.isLt _) ?_; first | omega | (simp; done) | (simp; omega) | fail) | fail))) | fail)); clear hm; intro w hm) | ((first | ((with_reducible show wpList _ _ _ (Oper.mk _ (Op.alloc _) _ _ _ _ :: _) _ _); first | ((with_reducible apply wq_new hm); (exact rfl); infer_instance) | fail) | ((with_reducible show wpList _ _ _ (Oper.mk _ (Op.box _ _) _ _ _ _ :: _) _ _); first | ((with_reducible apply wq_boxN hm); (exact rfl); (exact rfl)) | ((with_reducible apply wq_box1 hm); (exact rfl); (exact rfl); (exact rfl)) | fail)); clear hm; (first | (have hx_ := g1; clear hx_; (first | (have hx_ := g2; clear hx_; (first | (have hx_ := g3; clear hx_; (first | (have hx_ := g4; clear hx_; (first | (have hx_ := g5; clear hx_; (first | (have hx_ := g6; clear hx_; (first | (have hx_ := g7; clear hx_; (first | (have hx_ := g8; clear hx_; (first | (have hx_ := g9; clear hx_; intro g10) | intro g9)) | intro g8)) | intro g7)) | intro g6)) | intro g5)) | intro g4)) | intro g3)) | intro g2)) | intro g1); intro w hm) | fail)
  refine region_at 21 (fun w' => Ext _ w') 32 (by kernel_rfl) (by kernel_rfl) rfl (fun _ _ h k => h.trans k) (drew_ext _) ?_
  simp only [List.take_succ_cons, List.take_zero, List.drop_succ_cons, List.drop_zero, List.map_cons, List.map_nil]
  repeat (first
      | (apply walk_is rfl rfl rfl
         · (intro wx hwx; first | ((with_reducible show gives _ _ _ (Sem.run _ (execOp _ (Oper.mk _ (Op.load _ _) _ _ _ _)) _)); first | ((with_reducible apply gq_ldv (hm.ext hwx)); infer_instance; (exact rfl); (focus ((repeat (first | exact .hd | assumption | apply Has.tl)); done)); (focus (first | omega | (simp; omega) | (refine Nat.lt_of_lt_of_le (BitVec.isLt _) ?_; first | omega | (simp; done) | (simp; omega) | fail) | fail))) | ((with_reducible apply gq_ldW (hm.ext hwx)); infer_instance; (exact rfl); (focus ((repeat (first | exact .hd | assumption | apply Has.tl)); done)); (focus (first | rfl | omega | (simp; done) | (simp; omega) | fail))) | ((with_reducible apply gq_ld1 (hm.ext hwx)); infer_instance; (exact rfl); (focus ((repeat (first | exact .hd | assumption | apply Has.tl)); done)); (exact rfl)) | fail) | (go_simp; (try go_bits); first | exact gives_same | exact gives_skip | with_reducible exact gives_call (cp wx) | with_reducible exact gives_call (cq wx) | with_reducible exact gives_call (cx wx) | with_reducible exact gives_call (cy wx) | with_reducible exact gives_call (cu wx) | with_reducible exact gives_call (cv wx) | with_reducible exact gives_call (awake1 wx)))
         · (simp only [Act.put, List.setIfInBounds_toArray, List.set_cons_succ, List.set_cons_zero]; rfl))
      | (apply walk_not rfl rfl rfl
         · (simp only [Act.put, List.setIfInBounds_toArray, List.set_cons_succ, List.set_cons_zero]; rfl)))
  intro wz hwz
  simp only [List.zip_cons_cons, List.zip_nil_right]
  repeat (first | rw [fin_is] | (rw [fin_cons]; intro _ _))
  rw [fin_nil]
  try (replace hm := hm.ext hwz)
  simp only [Act.put, List.setIfInBounds_toArray, List.set_cons_succ, List.set_cons_zero]
  go_wp2_with (first | ((with_reducible show wpList _ _ _ (Oper.mk _ (Op.load _ _) _ _ _ _ :: _) _ _); first | ((with_reducible apply wq_ldv hm); (exact rfl); infer_instance; (exact rfl); (focus ((repeat (first | exact .hd | assumption | apply Has.tl)); done)); (focus (first | omega | (simp; omega) | (refine Nat.lt_of_lt_of_le (BitVec.isLt _) ?_; first | omega | (simp; done) | (simp; omega) | fail) | fail))) | ((with_reducible apply wq_ldW hm); (exact rfl); infer_instance; (exact rfl); (focus ((repeat (first | exact .hd | assumption | apply Has.tl)); done)); (focus (first | rfl | omega | (simp; done) | (simp; omega) | fail))) | ((with_reducible apply wq_ld1 hm); (exact rfl); infer_instance; (exact rfl); (focus ((repeat (first | exact .hd | assumption | apply Has.tl)); done)); (exact rfl)) | fail) | ((((with_reducible show wpList _ _ _ (Oper.mk _ (Op.store _ _ _) _ _ _ _ :: _) _ _); first | ((with_reducible apply wq_stv hm); (exact rfl); infer_instance; (exact rfl); (focus ((repeat (first | exact .hd | assumption | apply Swap.tl)); done)); infer_instance; (exact rfl); (focus (first | omega | (simp; omega) | (refine Nat.lt_of_lt_of_le (BitVec.isLt _) ?_; first | omega | (simp; done) | (simp; omega) | fail) | fail))) | ((with_reducible apply wq_st8i hm); (exact rfl); infer_instance; (exact rfl); (exact rfl); (focus ((repeat (first | exact .hd | assumption | apply Swap.tl)); done)); (focus omega); (focus (first | omega | (simp; omega) | (refine Nat.lt_of_lt_of_le (BitVec.isLt _) ?_; first | omega | (simp; done) | (simp; omega) | fail) | fail))) | ((with_reducible apply wq_st64i hm); (exact rfl); infer_instance; (exact rfl); (exact rfl); (focus ((repeat (first | exact .hd | assumption | apply Swap.tl)); done)); (focus omega); (focus (first | omega | (simp; omega) | (refine Nat.lt_of_lt_of_le (BitVec.isLt _) ?_; first | omega | (simp; done) | (simp; omega) | fail) | fail))) | ((with_reducible apply wq_stW hm); (exact rfl); infer_instance; (exact rfl); (exact rfl); (focus ((repeat (first | exact .hd | assumption | apply Swap.tl)); done)); (focus (first | rfl | omega | (simp; done) | (simp; omega) | fail)); (focus (first | rfl | omega | (simp; done) | (simp; omega) | fail)); (focus (first | exact one_map _ | (simp [one8, one32, one64]; done) | fail))) | ((with_reducible apply wq_st1 hm); (exact rfl); infer_instance; (exact rfl); (exact rfl); (exact rfl); (exact rfl); (focus ((repeat (first | exact .hd | assumption | apply Swap.tl)); done)); (focus (first | omega | (simp; omega) | (refine Nat.lt_of_lt_of_le (BitVec.isLt _) ?_; first | omega | (simp; done) | (simp; omega) | fail) | fail))) | fail)); clear hm; intro w hm) | ((first | ((with_reducible show wpList _ _ _ (Oper.mk _ (Op.alloc _) _ _ _ _ :: _) _ _); first | ((with_reducible apply wq_new hm); (exact rfl); infer_instance) | fail) | ((with_reducible show wpList _ _ _ (Oper.mk _ (Op.box _ _) _ _ _ _ :: _) _ _); first | ((with_reducible apply wq_boxN hm); (exact rfl); (exact rfl)) | ((with_reducible apply wq_box1 hm); (exact rfl); (exact rfl); (exact rfl)) | fail)); clear hm; (first | (have hx_ := g1; clear hx_; (first | (have hx_ := g2; clear hx_; (first | (have hx_ := g3; clear hx_; (first | (have hx_ := g4; clear hx_; (first | (have hx_ := g5; clear hx_; (first | (have hx_ := g6; clear hx_; (first | (have hx_ := g7; clear hx_; (first | (have hx_ := g8; clear hx_; (first | (have hx_ := g9; clear hx_; intro g10) | intro g9)) | intro g8)) | intro g7)) | intro g6)) | intro g5)) | intro g4)) | intro g3)) | intro g2)) | intro g1); intro w hm) | fail)
  go_ret
  exact ⟨rfl, hm.x⟩

end Go.Proofs.Ytmapcfhhklapbaa
