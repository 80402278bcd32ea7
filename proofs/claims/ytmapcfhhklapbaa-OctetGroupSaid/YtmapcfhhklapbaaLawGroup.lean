/-
  THE STATEMENT OctetGroup, PROVED: sums of 128 bits hang on no order; what is added can be taken away. No conditions.
-/
import Derived.Test.YtmapcfhhklapbaaOct8
import Derived.Test.YtmapcfhhklapbaaOct3
namespace Go.Proofs.Ytmapcfhhklapbaa
open Go Go.RowKit

/-- A number of 128 bits by its halves. -/
def wideN (lo hi : BitVec 64) : Nat := hi.toNat * 18446744073709551616 + lo.toNat
theorem wideN_lt (a b : BitVec 64) : wideN a b < 340282366920938463463374607431768211456 := by
  have := a.isLt; have := b.isLt; unfold wideN; omega
theorem wideN_inj {a b c d : BitVec 64} (h : wideN a b = wideN c d) : a = c ∧ b = d := by
  have := a.isLt; have := b.isLt; have := c.isLt; have := d.isLt
  unfold wideN at h
  exact ⟨BitVec.eq_of_toNat_eq (by omega), BitVec.eq_of_toNat_eq (by omega)⟩
theorem wideN_plus (a b c d : BitVec 64) : wideN (a + c) (b + d + carryB a c 0#64) = (wideN a b + wideN c d) % 340282366920938463463374607431768211456 := by
  have := a.isLt; have := b.isLt; have := c.isLt; have := d.isLt
  unfold wideN carryB
  simp only [BitVec.toNat_add, BitVec.toNat_ofNat]; omega
theorem wideN_minus (a b c d : BitVec 64) : wideN (a - c) (b - d - borrowB a c 0#64) = (wideN a b + 340282366920938463463374607431768211456 - wideN c d) % 340282366920938463463374607431768211456 := by
  have := a.isLt; have := b.isLt; have := c.isLt; have := d.isLt
  have e1 : (1 : BitVec 64).toNat = 1 := by decide
  have e0 : (0 : BitVec 64).toNat = 0 := by decide
  unfold wideN borrowB
  split <;> rename_i hlt <;> simp only [BitVec.toNat_ofNat] at hlt <;> simp only [BitVec.toNat_sub, BitVec.toNat_ofNat, e1, e0] <;> omega
theorem plus_wN (a b c d s t : BitVec 64) (h : wideN s t = (wideN a b + wideN c d) % 340282366920938463463374607431768211456) (w : World) : Gives Try.prog 40 #[WV a b, WV c d] w (WV s t) := by
  obtain ⟨rfl, rfl⟩ := wideN_inj (h.trans (wideN_plus a b c d).symm)
  exact oplus_any a b c d w
theorem minus_wN (a b c d s t : BitVec 64) (h : wideN s t = (wideN a b + 340282366920938463463374607431768211456 - wideN c d) % 340282366920938463463374607431768211456) (w : World) : Gives Try.prog 42 #[WV a b, WV c d] w (WV s t) := by
  obtain ⟨rfl, rfl⟩ := wideN_inj (h.trans (wideN_minus a b c d).symm)
  exact ominus_any a b c d w
theorem ex_plus (a b c d : BitVec 64) : ∃ s t, wideN s t = (wideN a b + wideN c d) % 340282366920938463463374607431768211456 := ⟨_, _, wideN_plus a b c d⟩
theorem ex_minus (a b c d : BitVec 64) : ∃ s t, wideN s t = (wideN a b + 340282366920938463463374607431768211456 - wideN c d) % 340282366920938463463374607431768211456 := ⟨_, _, wideN_minus a b c d⟩

set_option maxRecDepth 100000 in
set_option maxHeartbeats 4000000 in
theorem group_walk (a b c d e f : BitVec 64) (w0 : World) :
    Calls Try.prog 10 #[WV a b, WV c d, WV e f] w0 fun e w' => e = .returned (.bool true) ∧ Ext w0 w' := by
  obtain ⟨s, t, hs⟩ := ex_plus a b c d
  obtain ⟨u, v, hu⟩ := ex_plus s t e f
  obtain ⟨x, y, hx⟩ := ex_plus c d e f
  obtain ⟨p, q, hp⟩ := ex_minus a b c d
  have l1 := wideN_lt a b
  have l2 := wideN_lt c d
  have l3 := wideN_lt e f
  have z : wideN 0#64 0#64 = 0 := by decide
  have c1 := plus_wN a b c d s t hs
  have c2 := plus_wN c d a b s t (by omega)
  have c3 := plus_wN s t e f u v hu
  have c4 := plus_wN c d e f x y hx
  have c5 := plus_wN a b x y u v (by omega)
  have c6 := minus_wN s t c d a b (by omega)
  have c7 := minus_wN a b c d p q hp
  have c8 := plus_wN p q c d a b (by omega)
  have c9 := minus_wN a b a b 0#64 0#64 (by omega)
  have c10 := plus_wN a b 0#64 0#64 a b (by omega)
  clear hs hu hx hp l1 l2 l3 z
  have hm := Own.start w0
  go_enter Try.func10, Try.ntmps10
  go_wp2_with (first | ((with_reducible show wpList _ _ _ (Oper.mk _ (Op.load _ _) _ _ _ _ :: _) _ _); first | ((with_reducible apply wq_ldv hm); (exact rfl); infer_instance; (exact rfl); (focus ((repeat (first | exact .hd | assumption | apply Has.tl)); done)); (focus (first | omega | (simp; omega) | (refine Nat.lt_of_lt_of_le (BitVec.isLt _) ?_; first | omega | (simp; done) | (simp; omega) | fail) | fail))) | ((with_reducible apply wq_ldW hm); (exact rfl); infer_instance; (exact rfl); (focus ((repeat (first | exact .hd | assumption | apply Has.tl)); done)); (focus (first | rfl | omega | (simp; done) | (simp; omega) | fail))) | ((with_reducible apply wq_ld1 hm); (exact rfl); infer_instance; (exact rfl); (focus ((repeat (first | exact .hd | assumption | apply Has.tl)); done)); (exact rfl)) | fail) | ((((with_reducible show wpList _ _ _ (Oper.mk _ (Op.store _ _ _) _ _ _ _ :: _) _ _); first | ((with_reducible apply wq_stv hm); (exact rfl); infer_instance; (exact rfl); (focus ((repeat (first | exact .hd | assumption | apply Swap.tl)); done)); infer_instance; (exact rfl); (focus (first | omega | (simp; omega) | (refine Nat.lt_of_lt_of_le (BitVec.isLt _) ?_; first | omega | (simp; done) | (simp; omega) | fail) | fail))) | ((with_reducible apply wq_st8i hm); (exact rfl); infer_instance; (exact rfl); (exact rfl); (focus ((repeat (first | exact .hd | assumption | apply Swap.tl)); done)); (focus omega); (focus (first | omega | (simp; omega) | (refine Nat.lt_of_lt_of_le (BitVec.isLt _) ?_; first | omega | (simp; done) | (simp; omega) | fail) | fail))) | ((with_reducible apply wq_st64i hm); (exact rfl); infer_instance; (exact rfl); (exact rfl); (focus ((repeat (first | exact .hd | assumption | apply Swap.tl)); done)); (focus omega); (focus (first | omega | (simp; omega) | (refine Nat.lt_of_lt_of_le (BitVec.isLt _) ?_; first | omega | (simp; done) | (simp; omega) | fail) | fail))) | ((with_reducible apply wq_stW hm); (exact rfl); infer_instance; (exact rfl); (exact rfl); (focus ((repeat (first | exact .hd | assumption | apply Swap.tl)); done)); (focus (first | rfl | omega | (simp; done) | (simp; omega) | fail)); (focus (first | rfl | omega | (simp; done) | (simp; omega) | fail)); (focus (first | exact one_map _ | (simp [one8, one32, one64]; done) | fail))) | ((with_reducible apply wq_st1 hm); (exact rfl); infer_instance; (exact rfl); (exact rfl); (exact rfl); (exact rfl); (focus ((repeat (first | exact .hd | assumption | apply Swap.tl)); done)); (focus (first | omega | (simp; omega) | (refine Nat.lt_of_lt_of_le (BitVec.isLt _) ?_; first | omega | (simp; done) | (simp; omega) | fail) | fail))) | fail)); clear hm; intro w hm) | ((first | ((with_reducible show wpList _ _ _ (Oper.mk _ (Op.alloc _) _ _ _ _ :: _) _ _); first | ((with_reducible apply wq_new hm); (exact rfl); infer_instance) | fail) | ((with_reducible show wpList _ _ _ (Oper.mk _ (Op.box _ _) _ _ _ _ :: _) _ _); first | ((with_reducible apply wq_boxN hm); (exact rfl); (exact rfl)) | ((with_reducible apply wq_box1 hm); (exact rfl); (exact rfl); (exact rfl)) | fail)); clear hm; (first | (have hx_ := g1; clear hx_; (first | (have hx_ := g2; clear hx_; (first | (have hx_ := g3; clear hx_; (first | (have hx_ := g4; clear hx_; (first | (have hx_ := g5; clear hx_; (first | (have hx_ := g6; clear hx_; (first | (have hx_ := g7; clear hx_; (first | (have hx_ := g8; clear hx_; (first | (have hx_ := g9; clear hx_; intro g10) | intro g9)) | intro g8)) | intro g7)) | intro g6)) | intro g5)) | intro g4)) | intro g3)) | intro g2)) | intro g1); intro w hm) | fail)
  refine region_at 55 (fun w' => Ext _ w') 63 (by kernel_rfl) (by kernel_rfl) rfl (fun _ _ h k => h.trans k) (drew_ext _) ?_
  simp only [List.take_succ_cons, List.take_zero, List.drop_succ_cons, List.drop_zero, List.map_cons, List.map_nil]
  repeat (first
      | (apply walk_is rfl rfl rfl
         · (intro wx hwx; first | ((with_reducible show gives _ _ _ (Sem.run _ (execOp _ (Oper.mk _ (Op.load _ _) _ _ _ _)) _)); first | ((with_reducible apply gq_ldv (hm.ext hwx)); infer_instance; (exact rfl); (focus ((repeat (first | exact .hd | assumption | apply Has.tl)); done)); (focus (first | omega | (simp; omega) | (refine Nat.lt_of_lt_of_le (BitVec.isLt _) ?_; first | omega | (simp; done) | (simp; omega) | fail) | fail))) | ((with_reducible apply gq_ldW (hm.ext hwx)); infer_instance; (exact rfl); (focus ((repeat (first | exact .hd | assumption | apply Has.tl)); done)); (focus (first | rfl | omega | (simp; done) | (simp; omega) | fail))) | ((with_reducible apply gq_ld1 (hm.ext hwx)); infer_instance; (exact rfl); (focus ((repeat (first | exact .hd | assumption | apply Has.tl)); done)); (exact rfl)) | fail) | (go_simp; (try go_bits); first | exact gives_same | exact gives_skip | with_reducible exact gives_call (c1 wx) | with_reducible exact gives_call (c2 wx) | with_reducible exact gives_call (c3 wx) | with_reducible exact gives_call (c4 wx) | with_reducible exact gives_call (c5 wx) | with_reducible exact gives_call (c6 wx) | with_reducible exact gives_call (c7 wx) | with_reducible exact gives_call (c8 wx) | with_reducible exact gives_call (c9 wx) | with_reducible exact gives_call (c10 wx) | with_reducible exact gives_call (awake1 wx)))
         · (simp only [Act.put, List.setIfInBounds_toArray, List.set_cons_succ, List.set_cons_zero]; rfl))
      | (apply walk_not rfl rfl rfl
         · (simp only [Act.put, List.setIfInBounds_toArray, List.set_cons_succ, List.set_cons_zero]; rfl)))
  intro wz hwz
  simp only [List.zip_cons_cons, List.zip_nil_right]
  repeat (first | rw [fin_is] | (rw [fin_cons]; intro _ _))
  rw [fin_nil]
  try (replace hm := hm.ext hwz)
  simp only [Act.put, List.setIfInBounds_toArray, List.set_cons_succ, List.set_cons_zero]
  go_wp2_with (first | ((with_reducible show wpList _ _ _ (Oper.mk _ (Op.load _ _) _ _ _ _ :: _) _ _); first | ((with_reducible apply wq_ldv hm); (exact rfl); infer_instance; (exact rfl); (focus ((repeat (first | exact .hd | assumption | apply Has.tl)); done)); (focus (first | omega | (simp; omega) | (refine Nat.lt_of_lt_of_le (BitVec.isLt _) ?_; first | omega | (simp; done) | (simp; omega) | fail) | fail))) | ((with_reducible apply wq_ldW hm); (exact rfl); infer_instance; (exact rfl); (focus ((repeat (first | exact .hd | assumption | apply Has.tl)); done)); (focus (first | rfl | omega | (simp; done) | (simp; omega) | fail))) | ((with_reducible apply wq_ld1 hm); (exact rfl); infer_instance; (exact rfl); (focus ((repeat (first | exact .hd | assumption | apply Has.tl)); done)); (exact rfl)) | fail) | ((((with_reducible show wpList _ _ _ (Oper.mk _ (Op.store _ _ _) _ _ _ _ :: _) _ _); first | ((with_reducible apply wq_stv hm); (exact rfl); infer_instance; (exact rfl); (focus ((repeat (first | exact .hd | assumption | apply Swap.tl)); done)); infer_instance; (exact rfl); (focus (first | omega | (simp; omega) | (refine Nat.lt_of_lt_of_le (BitVec.isLt _) ?_; first | omega | (simp; done) | (simp; omega) | fail) | fail))) | ((with_reducible apply wq_st8i hm); (exact rfl); infer_instance; (exact rfl); (exact rfl); (focus ((repeat (first | exact .hd | assumption | apply Swap.tl)); done)); (focus omega); (focus (first | omega | (simp; omega) | (refine Nat.lt_of_lt_of_le (BitVec.isLt _) ?_; first | omega | (simp; done) | (simp; omega) | fail) | fail))) | ((with_reducible apply wq_st64i hm); (exact rfl); infer_instance; (exact rfl); (exact rfl); (focus ((repeat (first | exact .hd | assumption | apply Swap.tl)); done)); (focus omega); (focus (first | omega | (simp; omega) | (refine Nat.lt_of_lt_of_le (BitVec.isLt _) ?_; first | omega | (simp; done) | (simp; omega) | fail) | fail))) | ((with_reducible apply wq_stW hm); (exact rfl); infer_instance; (exact rfl); (exact rfl); (focus ((repeat (first | exact .hd | assumption | apply Swap.tl)); done)); (focus (first | rfl | omega | (simp; done) | (simp; omega) | fail)); (focus (first | rfl | omega | (simp; done) | (simp; omega) | fail)); (focus (first | exact one_map _ | (simp [one8, one32, one64]; done) | fail))) | ((with_reducible apply wq_st1 hm); (exact rfl); infer_instance; (exact rfl); (exact rfl); (exact rfl); (exact rfl); (focus ((repeat (first | exact .hd | assumption | apply Swap.tl)); done)); (focus (first | omega | (simp; omega) | (refine Nat.lt_of_lt_of_le (BitVec.isLt _) ?_; first | omega | (simp; done) | (simp; omega) | fail) | fail))) | fail)); clear hm; intro w hm) | ((first | ((with_reducible show wpList _ _ _ (Oper.mk _ (Op.alloc _) _ _ _ _ :: _) _ _); first | ((with_reducible apply wq_new hm); (exact rfl); infer_instance) | fail) | ((with_reducible show wpList _ _ _ (Oper.mk _ (Op.box _ _) _ _ _ _ :: _) _ _); first | ((with_reducible apply wq_boxN hm); (exact rfl); (exact rfl)) | ((with_reducible apply wq_box1 hm); (exact rfl); (exact rfl); (exact rfl)) | fail)); clear hm; (first | (have hx_ := g1; clear hx_; (first | (have hx_ := g2; clear hx_; (first | (have hx_ := g3; clear hx_; (first | (have hx_ := g4; clear hx_; (first | (have hx_ := g5; clear hx_; (first | (have hx_ := g6; clear hx_; (first | (have hx_ := g7; clear hx_; (first | (have hx_ := g8; clear hx_; (first | (have hx_ := g9; clear hx_; intro g10) | intro g9)) | intro g8)) | intro g7)) | intro g6)) | intro g5)) | intro g4)) | intro g3)) | intro g2)) | intro g1); intro w hm) | fail)
  go_ret
  exact ⟨rfl, hm.x⟩

end Go.Proofs.Ytmapcfhhklapbaa
