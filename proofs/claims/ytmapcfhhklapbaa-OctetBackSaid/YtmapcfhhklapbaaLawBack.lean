/-
  THE STATEMENT OctetBack, PROVED: what is put is the number again, of 32, 64 and 128 bits. No conditions.
-/
import Derived.Test.YtmapcfhhklapbaaOct9
import Derived.Test.YtmapcfhhklapbaaOct7
namespace Go.Proofs.Ytmapcfhhklapbaa
open Go Go.RowKit

theorem num_put (n : BitVec 64) (l : List Byte) (r : Nat) (h : ∀ k, k < r → gb l (k : Int) = (n >>> (8 * k)).setWidth 8) (hr : r ≤ 8) : num l 0 r = n &&& (BitVec.allOnes 64 >>> (64 - 8 * r)) := by
  induction r with
  | zero => simp [num]
  | succ r ih =>
    have h1 := ih (fun k hk => h k (by omega)) (by omega)
    have h2 := h r (by omega)
    rw [num, h1, Int.zero_add, h2]
    apply BitVec.eq_of_getLsbD_eq
    intro i hi
    simp only [BitVec.getLsbD_or, BitVec.getLsbD_and, BitVec.getLsbD_ushiftRight, BitVec.getLsbD_allOnes, BitVec.getLsbD_shiftLeft, BitVec.getLsbD_setWidth]
    by_cases h3 : i < 8 * r
    · simp only [hi, h3, decide_true, Bool.not_true, Bool.and_false, Bool.false_and, Bool.or_false, Bool.true_and]
      rw [show decide (64 - 8 * r + i < 64) = true by simp; omega, show decide (64 - 8 * (r + 1) + i < 64) = true by simp; omega]
    · by_cases h4 : i < 8 * (r + 1)
      · rw [show decide (64 - 8 * r + i < 64) = false by simp; omega, show decide (64 - 8 * (r + 1) + i < 64) = true by simp; omega, show decide (i < 8 * r) = false by simp; omega, show decide (i - 8 * r < 64) = true by simp; omega, show decide (i - 8 * r < 8) = true by simp; omega, show 8 * r + (i - 8 * r) = i by omega]
        simp [hi]
      · rw [show decide (64 - 8 * r + i < 64) = false by simp; omega, show decide (64 - 8 * (r + 1) + i < 64) = false by simp; omega, show decide (i - 8 * r < 8) = false by simp; omega]
        simp
theorem gb_put (n : BitVec 64) (m k : Nat) (h : k < m) : gb (putL n m) (k : Int) = (n >>> (8 * k)).setWidth 8 := by rw [gb_in, putL_getD n m k h]
theorem num_put8 (n : BitVec 64) : num (putL n 8) 0 8 = n := by
  rw [num_put n (putL n 8) 8 (fun k hk => gb_put n 8 k hk) (by omega), show (BitVec.allOnes 64 >>> (64 - 8 * 8)) = BitVec.allOnes 64 from by decide, BitVec.and_allOnes]
theorem num_put4 (n : BitVec 32) : (num (putL (n.setWidth 64) 4) 0 4).setWidth 32 = n := by
  rw [num_put (n.setWidth 64) (putL (n.setWidth 64) 4) 4 (fun k hk => gb_put _ 4 k hk) (by omega)]
  apply BitVec.eq_of_getLsbD_eq
  intro i hi
  rw [BitVec.getLsbD_setWidth, BitVec.getLsbD_and, BitVec.getLsbD_setWidth, BitVec.getLsbD_ushiftRight, BitVec.getLsbD_allOnes]
  simp [hi, show i < 64 by omega, show 64 - 8 * 4 + i < 64 by omega]
theorem num_lo (a b : List Byte) (r i : Nat) (h : i + r ≤ a.length) : num (a ++ b) i r = num a i r := by
  induction r with
  | zero => rfl
  | succ r ih =>
    have e : (i : Int) + (r : Int) = ((i + r : Nat) : Int) := by omega
    rw [num, num, ih (by omega), e, gb_in, gb_in]
    simp [List.getElem?_append_left (show i + r < a.length by omega)]
theorem num_hi (a b : List Byte) (r i : Nat) : num (a ++ b) ((a.length + i : Nat) : Int) r = num b i r := by
  induction r with
  | zero => rfl
  | succ r ih =>
    have e : ((a.length + i : Nat) : Int) + (r : Int) = ((a.length + i + r : Nat) : Int) := by omega
    have e2 : (i : Int) + (r : Int) = ((i + r : Nat) : Int) := by omega
    rw [num, num, ih, e, e2, gb_in, gb_in]
    have : (a ++ b).getD (a.length + i + r) 0 = b.getD (i + r) 0 := by
      simp [List.getElem?_append_right (show a.length ≤ a.length + i + r by omega), show a.length + i + r - a.length = i + r by omega]
    rw [this]
theorem num_wide (lo hi : BitVec 64) : num (putL lo 8 ++ putL hi 8) 0 8 = lo ∧ num (putL lo 8 ++ putL hi 8) 8 8 = hi := by
  have h1 := num_lo (putL lo 8) (putL hi 8) 8 0 (by simp [putL_length])
  have h2 := num_hi (putL lo 8) (putL hi 8) 8 0
  rw [putL_length] at h2
  exact ⟨h1.trans (num_put8 lo), h2.trans (num_put8 hi)⟩
theorem blk_id (l : List Byte) (h : l.length = 16) : blk l = l := by
  apply List.ext_getElem
  · rw [blk_length, h]
  · intro i h1 h2
    simp only [blk, List.getElem_map, List.getElem_range, gb_in]
    simp [h2]

set_option maxHeartbeats 1000000 in
theorem back_walk (n : BitVec 32) (lo hi : BitVec 64) (w0 : World) :
    Calls Try.prog 11 #[v32 n, v64 lo, v64 hi] w0 fun e w' => e = .returned (.bool true) ∧ Ext w0 w' := by
  have e4 := num_put4 n
  have e8 := num_put8 lo
  obtain ⟨ew1, ew2⟩ := num_wide lo hi
  have l4 := putL_length (n.setWidth 64) 4
  have l8 := putL_length lo 8
  have lw : (putL lo 8 ++ putL hi 8).length = 16 := by simp [putL_length]
  have eb := blk_id _ lw
  have k4 := fun wx => putword_any n wx
  have k8 := fun wx => putlong_any' lo wx
  have kb := fun wx => bytes_any lo hi wx
  generalize putL (n.setWidth 64) 4 = A at *
  generalize putL lo 8 ++ putL hi 8 = C at *
  generalize putL lo 8 = B at *
  have A1 := Nat.le_of_eq l4
  have A2 := Nat.le_of_eq l4.symm
  have B1 := Nat.le_of_eq l8
  have B2 := Nat.le_of_eq l8.symm
  have C1 := Nat.le_of_eq lw
  have C2 := Nat.le_of_eq lw.symm
  have c4 := fun (wx : World) (p : Option Addr) (h : RdB wx p A) => e4 ▸ l4 ▸ word_any A p 4 0 wx h (by omega) (by omega) (by omega)
  have c8 := fun (wx : World) (p : Option Addr) (h : RdB wx p B) => e8 ▸ l8 ▸ long_any B p 8 0 wx h (by omega) (by omega) (by omega)
  have cl := fun (wx : World) (p : Option Addr) (h : RdB wx p C) => ew1 ▸ ew2 ▸ lw ▸ load_any C p 16 wx h (by omega)
  have cb := fun (wx : World) (p : Option Addr) (h : RdB wx p C) => eb ▸ lw ▸ oblock_any C p 16 wx h
  clear e4 e8 ew1 ew2 l4 l8 eb
  have hm := Own.start w0
  go_enter Try.func11, Try.ntmps11
  go_wp2_with (first | (go_at_call 36; (with_reducible refine (k4 _).mono ?_); rintro e_ w ⟨rfl, hx_⟩; replace hm := hm.ext hx_; clear hx_) | (go_at_call 37; (with_reducible refine (k8 _).mono ?_); rintro e_ w ⟨rfl, hx_⟩; replace hm := hm.ext hx_; clear hx_) | (go_at_call 38; (with_reducible refine (kb _).mono ?_); rintro e_ w ⟨rfl, hx_⟩; replace hm := hm.ext hx_; clear hx_) | ((with_reducible show wpList _ _ _ (Oper.mk _ (Op.load _ _) _ _ _ _ :: _) _ _); first | ((with_reducible apply wq_ldv hm); (exact rfl); infer_instance; (exact rfl); (focus ((repeat (first | exact .hd | assumption | apply Has.tl)); done)); (focus (first | omega | (simp; omega) | (refine Nat.lt_of_lt_of_le (BitVec.isLt _) ?_; first | omega | (simp; done) | (simp; omega) | fail) | fail))) | ((with_reducible apply wq_ldW hm); (exact rfl); infer_instance; (exact rfl); (focus ((repeat (first | exact .hd | assumption | apply Has.tl)); done)); (focus (first | rfl | omega | (simp; done) | (simp; omega) | fail))) | ((with_reducible apply wq_ld1 hm); (exact rfl); infer_instance; (exact rfl); (focus ((repeat (first | exact .hd | assumption | apply Has.tl)); done)); (exact rfl)) | fail) | ((((with_reducible show wpList _ _ _ (Oper.mk _ (Op.store _ _ _) _ _ _ _ :: _) _ _); first | ((with_reducible apply wq_stv hm); (exact rfl); infer_instance; (exact rfl); (focus ((repeat (first | exact .hd | assumption | apply Swap.tl)); done)); infer_instance; (exact rfl); (focus (first | omega | (simp; omega) | (refine Nat.lt_of_lt_of_le (BitVec.isLt _) ?_; first | omega | (simp; done) | (simp; omega) | fail) | fail))) | ((with_reducible apply wq_st8i hm); (exact rfl); infer_instance; (exact rfl); (exact rfl); (focus ((repeat (first | exact .hd | assumption | apply Swap.tl)); done)); (focus omega); (focus (first | omega | (simp; omega) | (refine Nat.lt_of_lt_of_le (BitVec.isLt _) ?_; first | omega | (simp; done) | (simp; omega) | fail) | fail))) | ((with_reducible apply wq_st64i hm); (exact rfl); infer_instance; (exact rfl); (exact rfl); (focus ((repeat (first | exact .hd | assumption | apply Swap.tl)); done)); (focus omega); (focus (first | omega | (simp; omega) | (refine Nat.lt_of_lt_of_le (BitVec.isLt _) ?_; first | omega | (simp; done) | (simp; omega) | fail) | fail))) | ((with_reducible apply wq_stW hm); (exact rfl); infer_instance; (exact rfl); (exact rfl); (focus ((repeat (first | exact .hd | assumption | apply Swap.tl)); done)); (focus (first | rfl | omega | (simp; done) | (simp; omega) | fail)); (focus (first | rfl | omega | (simp; done) | (simp; omega) | fail)); (focus (first | exact one_map _ | (simp [one8, one32, one64]; done) | fail))) | ((with_reducible apply wq_st1 hm); (exact rfl); infer_instance; (exact rfl); (exact rfl); (exact rfl); (exact rfl); (focus ((repeat (first | exact .hd | assumption | apply Swap.tl)); done)); (focus (first | omega | (simp; omega) | (refine Nat.lt_of_lt_of_le (BitVec.isLt _) ?_; first | omega | (simp; done) | (simp; omega) | fail) | fail))) | fail)); clear hm; intro w hm) | ((first | ((with_reducible show wpList _ _ _ (Oper.mk _ (Op.alloc _) _ _ _ _ :: _) _ _); first | ((with_reducible apply wq_new hm); (exact rfl); infer_instance) | fail) | ((with_reducible show wpList _ _ _ (Oper.mk _ (Op.box _ _) _ _ _ _ :: _) _ _); first | ((with_reducible apply wq_boxN hm); (exact rfl); (exact rfl)) | ((with_reducible apply wq_box1 hm); (exact rfl); (exact rfl); (exact rfl)) | fail)); clear hm; (first | (have hx_ := g1; clear hx_; (first | (have hx_ := g2; clear hx_; (first | (have hx_ := g3; clear hx_; (first | (have hx_ := g4; clear hx_; (first | (have hx_ := g5; clear hx_; (first | (have hx_ := g6; clear hx_; (first | (have hx_ := g7; clear hx_; (first | (have hx_ := g8; clear hx_; (first | (have hx_ := g9; clear hx_; intro g10) | intro g9)) | intro g8)) | intro g7)) | intro g6)) | intro g5)) | intro g4)) | intro g3)) | intro g2)) | intro g1); intro w hm) | fail)
  refine region_at 25 (fun w' => Ext _ w') 45 (by kernel_rfl) (by kernel_rfl) rfl (fun _ _ h k => h.trans k) (drew_ext _) ?_
  simp only [List.take_succ_cons, List.take_zero, List.drop_succ_cons, List.drop_zero, List.map_cons, List.map_nil]
  repeat (first
      | (apply walk_is rfl rfl rfl
         · (intro wx hwx; first | ((with_reducible show gives _ _ _ (Sem.run _ (execOp _ (Oper.mk _ (Op.load _ _) _ _ _ _)) _)); first | ((with_reducible apply gq_ldv (hm.ext hwx)); infer_instance; (exact rfl); (focus ((repeat (first | exact .hd | assumption | apply Has.tl)); done)); (focus (first | omega | (simp; omega) | (refine Nat.lt_of_lt_of_le (BitVec.isLt _) ?_; first | omega | (simp; done) | (simp; omega) | fail) | fail))) | ((with_reducible apply gq_ldW (hm.ext hwx)); infer_instance; (exact rfl); (focus ((repeat (first | exact .hd | assumption | apply Has.tl)); done)); (focus (first | rfl | omega | (simp; done) | (simp; omega) | fail))) | ((with_reducible apply gq_ld1 (hm.ext hwx)); infer_instance; (exact rfl); (focus ((repeat (first | exact .hd | assumption | apply Has.tl)); done)); (exact rfl)) | fail) | (go_simp; (try go_bits); first | exact gives_same | exact gives_skip | with_reducible exact gives_call (c4 wx _ ((hm.ext hwx).rdB (by repeat (first | exact Has.hd | assumption | apply Has.tl)))) | with_reducible exact gives_call (c8 wx _ ((hm.ext hwx).rdB (by repeat (first | exact Has.hd | assumption | apply Has.tl)))) | with_reducible exact gives_call (cl wx _ ((hm.ext hwx).rdB (by repeat (first | exact Has.hd | assumption | apply Has.tl)))) | with_reducible exact gives_call (cb wx _ ((hm.ext hwx).rdB (by repeat (first | exact Has.hd | assumption | apply Has.tl)))) | with_reducible exact gives_call (awake1 wx)))
         · (simp only [Act.put, List.setIfInBounds_toArray, List.set_cons_succ, List.set_cons_zero]; rfl))
      | (apply walk_not rfl rfl rfl
         · (simp only [Act.put, List.setIfInBounds_toArray, List.set_cons_succ, List.set_cons_zero]; rfl)))
  intro wz hwz
  simp only [List.zip_cons_cons, List.zip_nil_right]
  repeat (first | rw [fin_is] | (rw [fin_cons]; intro _ _))
  rw [fin_nil]
  try (replace hm := hm.ext hwz)
  simp only [Act.put, List.setIfInBounds_toArray, List.set_cons_succ, List.set_cons_zero]
  go_wp2_with (first | ((with_reducible show wpList _ _ _ (Oper.mk _ (Op.load _ _) _ _ _ _ :: _) _ _); first | ((with_reducible apply wq_ldv hm); (exact rfl); infer_instance; (exact rfl); (focus ((repeat (first | exact .hd | assumption | apply Has.tl)); done)); (focus (first | omega | (simp; omega) | (refine Nat.lt_of_lt_of_le (BitVec.isLt _) ?_; first | omega | (simp; done) | (simp; omega) | fail) | fail))) | ((with_reducible apply wq_ldW hm); (exact rfl); infer_instance; (exact rfl); (focus ((repeat (first | exact .hd | assumption | apply Has.tl)); done)); (focus (first | rfl | omega | (simp; done) | (simp; omega) | fail))) | ((with_reducible apply wq_ld1 hm); (exact rfl); infer_instance; (exact rfl); (focus ((repeat (first | exact .hd | assumption | apply Has.tl)); done)); (exact rfl)) | fail) | ((((with_reducible show wpList _ _ _ (Oper.mk _ (Op.store _ _ _) _ _ _ _ :: _) _ _); first | ((with_reducible apply wq_stv hm); (exact rfl); infer_instance; (exact rfl); (focus ((repeat (first | exact .hd | assumption | apply Swap.tl)); done)); infer_instance; (exact rfl); (focus (first | omega | (simp; omega) | (refine Nat.lt_of_lt_of_le (BitVec.isLt _) ?_; first | omega | (simp; done) | (simp; omega) | fail) | fail))) | ((with_reducible apply wq_st8i hm); (exact rfl); infer_instance; (exact rfl); (exact rfl); (focus ((repeat (first | exact .hd | assumption | apply Swap.tl)); done)); (focus omega); (focus (first | omega | (simp; omega) | (refine Nat.lt_of_lt_of_le (BitVec.isLt _) ?_; first | omega | (simp; done) | (simp; omega) | fail) | fail))) | ((with_reducible apply wq_st64i hm); (exact rfl); infer_instance; (exact rfl); (exact rfl); (focus ((repeat (first | exact .hd | assumption | apply Swap.tl)); done)); (focus omega); (focus (first | omega | (simp; omega) | (refine Nat.lt_of_lt_of_le (BitVec.isLt _) ?_; first | omega | (simp; done) | (simp; omega) | fail) | fail))) | ((with_reducible apply wq_stW hm); (exact rfl); infer_instance; (exact rfl); (exact rfl); (focus ((repeat (first | exact .hd | assumption | apply Swap.tl)); done)); (focus (first | rfl | omega | (simp; done) | (simp; omega) | fail)); (focus (first | rfl | omega | (simp; done) | (simp; omega) | fail)); (focus (first | exact one_map _ | (simp [one8, one32, one64]; done) | fail))) | ((with_reducible apply wq_st1 hm); (exact rfl); infer_instance; (exact rfl); (exact rfl); (exact rfl); (exact rfl); (focus ((repeat (first | exact .hd | assumption | apply Swap.tl)); done)); (focus (first | omega | (simp; omega) | (refine Nat.lt_of_lt_of_le (BitVec.isLt _) ?_; first | omega | (simp; done) | (simp; omega) | fail) | fail))) | fail)); clear hm; intro w hm) | ((first | ((with_reducible show wpList _ _ _ (Oper.mk _ (Op.alloc _) _ _ _ _ :: _) _ _); first | ((with_reducible apply wq_new hm); (exact rfl); infer_instance) | fail) | ((with_reducible show wpList _ _ _ (Oper.mk _ (Op.box _ _) _ _ _ _ :: _) _ _); first | ((with_reducible apply wq_boxN hm); (exact rfl); (exact rfl)) | ((with_reducible apply wq_box1 hm); (exact rfl); (exact rfl); (exact rfl)) | fail)); clear hm; (first | (have hx_ := g1; clear hx_; (first | (have hx_ := g2; clear hx_; (first | (have hx_ := g3; clear hx_; (first | (have hx_ := g4; clear hx_; (first | (have hx_ := g5; clear hx_; (first | (have hx_ := g6; clear hx_; (first | (have hx_ := g7; clear hx_; (first | (have hx_ := g8; clear hx_; (first | (have hx_ := g9; clear hx_; intro g10) | intro g9)) | intro g8)) | intro g7)) | intro g6)) | intro g5)) | intro g4)) | intro g3)) | intro g2)) | intro g1); intro w hm) | fail)
  go_ret
  exact ⟨rfl, hm.x⟩

end Go.Proofs.Ytmapcfhhklapbaa
