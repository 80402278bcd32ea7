/-
  Layer 3: the tables of a statement, and its look at the chapter's examples. Conditions: the coefficients lie as the program's text lays them.
-/
import Derived.Test.YtalcgmhdgegebaaDoorTurn3
namespace Go.Proofs.YtalcgmhdgegebaaDoor
open Go Go.RowKit
set_option maxRecDepth 100000
set_option linter.unusedVariables false
set_option linter.unusedSimpArgs false

theorem tnew_nil (w : World) : Calls Tryd.prog 42 #[.pointer none] w fun e w' => e = .returned (.pointer none) ∧ w = w' := by
  go_enter Tryd.func42, Tryd.ntmps42
  go_wp2
  go_ret
  exact ⟨rfl, rfl⟩

theorem tables_new (w0 : World) (hc : Coef w0) : Calls Tryd.prog 16 #[] w0 fun e w' => ∃ g gb, e = .returned (.pointer (some ⟨g, 0, none⟩)) ∧ w0.heap.size ≤ g ∧ w0.heap.size ≤ gb ∧ gb ≠ g ∧ Row w' g 82 (tcells gb mixT unmixT) ∧ Row w' gb 110 (tabs.map v8) ∧ Ext w0 w' := by
  have HC := Lib.hid hc
  clear hc
  go_enter Tryd.func16, Tryd.ntmps16
  go_wp2_with fail
  refine (make_new _).mono ?_
  rintro e w1 ⟨gb, rfl, hgb, hr, hx⟩
  go_wp2_with fail
  refine (tnew_new gb w1 hr (HC.out.ext hx)).mono ?_
  rintro e w2 ⟨g, rfl, hg, hr2, hx2⟩
  go_wp2
  go_ret
  exact ⟨g, gb, rfl, Nat.le_trans hx.size hg, hgb, Nat.ne_of_lt (Nat.lt_of_lt_of_le (row_lt hr) hg), hr2, row_ext hr hx2, hx.trans hx2⟩
theorem tables_any (w0 : World) (hc : Coef w0) : GivesR Tryd.prog 16 #[] w0 TabS := (tables_new w0 hc).mono fun _ _ ⟨g, gb, h1, _, _, _, h3, h4, h5⟩ => ⟨_, h1, ⟨g, gb, rfl, h3, h4⟩, h5⟩

def cnt16 : List Byte := [0#8, 1#8, 2#8, 3#8, 4#8, 5#8, 6#8, 7#8, 8#8, 9#8, 10#8, 11#8, 12#8, 13#8, 14#8, 15#8]
theorem build_z16 (w : World) : (Instr.build 22 #[]).run Tryd.prog w = .ok (A8 (zer 16)) w := by kernel_rfl
theorem ex_rnd0 : nth (rnd (zer 16) (zer 16)) 0 = 99#8 := by
  rw [rnd_nth _ _ 0 (by omega)]
  simp only [zer, nth_tab, nth, shp, bxTo_lit]
  decide
theorem ex_rnd15 : nth (rnd (zer 16) (zer 16)) 15 = 99#8 := by
  rw [rnd_nth _ _ 15 (by omega)]
  simp only [zer, nth_tab, nth, shp, bxTo_lit]
  decide
theorem ex_last1 : nth (last cnt16 (zer 16)) 1 = 107#8 := by
  rw [last, nth_tab (by omega), lastB]
  simp only [zer, nth_tab, nth, shp, bxTo_lit]
  decide
theorem ex_last2 : nth (last cnt16 (zer 16)) 2 = 103#8 := by
  rw [last, nth_tab (by omega), lastB]
  simp only [zer, nth_tab, nth, shp, bxTo_lit]
  decide

attribute [local simp] rnd_length last_length
theorem zer16_length : (zer (n := 8) 16).length = 16 := zer_length
theorem round_z (g gb : Nat) (w0 : World) (h1 : Row w0 g 82 (tcells gb mixT unmixT)) : Gives Tryd.prog 17 #[.pointer (some ⟨g, 0, none⟩), A8 (zer 16), A8 (zer 16)] w0 (A8 (rnd (zer 16) (zer 16))) := round_any g gb _ _ zer_length zer_length w0 h1
theorem last_c (g gb : Nat) (w0 : World) (h1 : Row w0 g 82 (tcells gb mixT unmixT)) (h2 : Row w0 gb 110 (tabs.map v8)) : Gives Tryd.prog 18 #[.pointer (some ⟨g, 0, none⟩), A8 cnt16, A8 (zer 16)] w0 (A8 (last cnt16 (zer 16))) := last_any g gb _ _ rfl zer_length w0 h1 h2

theorem last_c' (g gb : Nat) (w0 : World) (h1 : Row w0 g 82 (tcells gb mixT unmixT)) (h2 : Row w0 gb 110 (tabs.map v8)) : Gives Tryd.prog 18 #[.pointer (some ⟨g, 0, none⟩), .agg #[.int .u8 0, .int .u8 1, .int .u8 2, .int .u8 3, .int .u8 4, .int .u8 5, .int .u8 6, .int .u8 7, .int .u8 8, .int .u8 9, .int .u8 10, .int .u8 11, .int .u8 12, .int .u8 13, .int .u8 14, .int .u8 15], A8 (zer 16)] w0 (A8 (last cnt16 (zer 16))) := last_c g gb w0 h1 h2
set_option maxHeartbeats 2000000 in
theorem awake3 (w0 : World) (hc : Coef w0) : Gives Tryd.prog 19 #[] w0 (.bool true) := by
  unfold Gives
  have hm := Own.start w0
  have HC := Lib.hid hc
  have e1 := ex_rnd0
  have e2 := ex_rnd15
  have e3 := ex_last1
  have e4 := ex_last2
  have l1 : (rnd (zer 16) (zer 16)).length = 16 := rnd_length _ _
  have l2 : (last cnt16 (zer 16)).length = 16 := last_length _ _
  have cr := round_z
  have cl := last_c'
  generalize rnd (zer 16) (zer 16) = R at *
  generalize last cnt16 (zer 16) = S at *
  have CR := Lib.hid cr
  have CL := Lib.hid cl
  clear cr cl hc
  go_enter Tryd.func19, Tryd.ntmps19
  go_wp2_with fail
  refine (tables_any _ HC.out).mono ?_
  rintro e w1 ⟨v, rfl, ⟨g, gb, rfl, h1, h2⟩, hx_⟩
  have HX := Lib.hid (hm.x.trans hx_)
  clear hm hx_
  have hm := Own.start w1
  have H1 := Lib.hid h1
  have H2 := Lib.hid h2
  clear h1 h2
  go_wp2_with (first | ((with_reducible apply wq_build0 build_z16); exact rfl) | (go_at_call 17; (with_reducible refine (CR.out g gb _ (row_ext H1.out hm.x)).mono ?_); rintro e_ w ⟨rfl, hx_⟩; replace hm := hm.ext hx_; clear hx_) | (go_at_call 18; (with_reducible refine (CL.out g gb _ (row_ext H1.out hm.x) (row_ext H2.out hm.x)).mono ?_); rintro e_ w ⟨rfl, hx_⟩; replace hm := hm.ext hx_; clear hx_) | (go_at_call 42; (with_reducible refine (tnew_nil _).mono ?_); rintro e_ w_ ⟨rfl, rfl⟩) | ((with_reducible show wpList _ _ _ (Oper.mk _ (Op.load _ _) _ _ _ _ :: _) _ _); first | ((with_reducible apply wq_ldv hm); (exact rfl); infer_instance; (exact rfl); (focus ((repeat (first | exact .hd | assumption | apply Has.tl)); done)); (focus (first | omega | (simp; omega) | (refine Nat.lt_of_lt_of_le (BitVec.isLt _) ?_; first | omega | (simp; done) | (simp; omega) | fail) | fail))) | ((with_reducible apply wq_ldW hm); (exact rfl); infer_instance; (exact rfl); (focus ((repeat (first | exact .hd | assumption | apply Has.tl)); done)); (focus (first | rfl | omega | (simp; done) | (simp; omega) | fail))) | ((with_reducible apply wq_ld1 hm); (exact rfl); infer_instance; (exact rfl); (focus ((repeat (first | exact .hd | assumption | apply Has.tl)); done)); (exact rfl)) | fail) | ((((with_reducible show wpList _ _ _ (Oper.mk _ (Op.store _ _ _) _ _ _ _ :: _) _ _); first | ((with_reducible apply wq_stv hm); (exact rfl); infer_instance; (exact rfl); (focus ((repeat (first | exact .hd | assumption | apply Swap.tl)); done)); infer_instance; (exact rfl); (focus (first | omega | (simp; omega) | (refine Nat.lt_of_lt_of_le (BitVec.isLt _) ?_; first | omega | (simp; done) | (simp; omega) | fail) | fail))) | ((with_reducible apply wq_st8i hm); (exact rfl); infer_instance; (exact rfl); (exact rfl); (focus ((repeat (first | exact .hd | assumption | apply Swap.tl)); done)); (focus omega); (focus (first | omega | (simp; omega) | (refine Nat.lt_of_lt_of_le (BitVec.isLt _) ?_; first | omega | (simp; done) | (simp; omega) | fail) | fail))) | ((with_reducible apply wq_st64i hm); (exact rfl); infer_instance; (exact rfl); (exact rfl); (focus ((repeat (first | exact .hd | assumption | apply Swap.tl)); done)); (focus omega); (focus (first | omega | (simp; omega) | (refine Nat.lt_of_lt_of_le (BitVec.isLt _) ?_; first | omega | (simp; done) | (simp; omega) | fail) | fail))) | ((with_reducible apply wq_stW hm); (exact rfl); infer_instance; (exact rfl); (exact rfl); (focus ((repeat (first | exact .hd | assumption | apply Swap.tl)); done)); (focus (first | rfl | omega | (simp; done) | (simp; omega) | fail)); (focus (first | rfl | omega | (simp; done) | (simp; omega) | fail)); (focus (first | exact one_map _ | (simp [one8, one32, one64]; done) | fail))) | ((with_reducible apply wq_s1v (f := v32) hm); (exact rfl); infer_instance; (exact rfl); (exact rfl); infer_instance; (focus ((repeat (first | exact .hd | assumption | apply Swap.tl)); done)); (focus (first | omega | (simp; omega) | (refine Nat.lt_of_lt_of_le (BitVec.isLt _) ?_; first | omega | (simp; done) | (simp; omega) | fail) | fail))) | ((with_reducible apply wq_s1v (f := v8) hm); (exact rfl); infer_instance; (exact rfl); (exact rfl); infer_instance; (focus ((repeat (first | exact .hd | assumption | apply Swap.tl)); done)); (focus (first | omega | (simp; omega) | (refine Nat.lt_of_lt_of_le (BitVec.isLt _) ?_; first | omega | (simp; done) | (simp; omega) | fail) | fail))) | ((with_reducible apply wq_s1v (f := v64) hm); (exact rfl); infer_instance; (exact rfl); (exact rfl); infer_instance; (focus ((repeat (first | exact .hd | assumption | apply Swap.tl)); done)); (focus (first | omega | (simp; omega) | (refine Nat.lt_of_lt_of_le (BitVec.isLt _) ?_; first | omega | (simp; done) | (simp; omega) | fail) | fail))) | ((with_reducible apply wq_st1 hm); (exact rfl); infer_instance; (exact rfl); (exact rfl); (exact rfl); (exact rfl); (focus ((repeat (first | exact .hd | assumption | apply Swap.tl)); done)); (focus (first | omega | (simp; omega) | (refine Nat.lt_of_lt_of_le (BitVec.isLt _) ?_; first | omega | (simp; done) | (simp; omega) | fail) | fail))) | fail)); clear hm; intro w hm) | ((first | ((with_reducible show wpList _ _ _ (Oper.mk _ (Op.alloc _) _ _ _ _ :: _) _ _); first | ((with_reducible apply wq_new hm); (exact rfl); infer_instance) | fail) | ((with_reducible show wpList _ _ _ (Oper.mk _ (Op.box _ _) _ _ _ _ :: _) _ _); first | ((with_reducible apply wq_boxN hm); (exact rfl); (exact rfl)) | ((with_reducible apply wq_box1 hm); (exact rfl); (exact rfl); (exact rfl)) | fail)); clear hm; (first | (have hx_ := g1; clear hx_; (first | (have hx_ := g2; clear hx_; (first | (have hx_ := g3; clear hx_; (first | (have hx_ := g4; clear hx_; (first | (have hx_ := g5; clear hx_; (first | (have hx_ := g6; clear hx_; (first | (have hx_ := g7; clear hx_; (first | (have hx_ := g8; clear hx_; (first | (have hx_ := g9; clear hx_; intro g10) | intro g9)) | intro g8)) | intro g7)) | intro g6)) | intro g5)) | intro g4)) | intro g3)) | intro g2)) | intro g1); intro w hm) | fail)
  go_ret
  exact ⟨rfl, HX.out.trans hm.x⟩

end Go.Proofs.YtalcgmhdgegebaaDoor
