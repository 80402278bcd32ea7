/-
  Layer 16: the look at the chapter's example. Conditions: the program's variables lie as its text lays them.
-/
import Derived.Test.YtmgopjeaehmbfaaDoorHash4
import Derived.Test.YtmgopjeaehmbfaaDoorHash6
import Derived.Test.YtmgopjeaehmbfaaDoorHash7
import Derived.Test.YtmgopjeaehmbfaaDoorBs
namespace Go.Proofs.YtmgopjeaehmbfaaDoor
open Go Go.RowKit
set_option maxRecDepth 100000
set_option linter.unusedVariables false
set_option linter.unusedSimpArgs false

theorem awake16_num : nth (eZ (keyOf [1#8]) 3 0 (blk [128#8])) 0 ≠ 0#8 ∨ nth (eZ (keyOf [1#8]) 3 0 (blk [128#8])) 1 ≠ 0#8 := by decide +kernel
theorem awake16_ne : eZ (keyOf [1#8]) 3 0 (blk [128#8]) ≠ zer 16 := by
  intro h
  have := awake16_num
  rw [h, zer, nth_tab (by omega), nth_tab (by omega)] at this
  simp at this
theorem zer_both16 (x : List Byte) (h : x.length = 16) : bothL (zer 16) x = x := nth_ext (by rw [bothL_length, h]) fun i hi => by
  rw [bothL_length] at hi
  rw [bothL_nth _ _ _ hi, zer, nth_tab hi]; simp
theorem hashG_nil1 (K : KeyP) : hashG (eZ K) [[]] = eZ K 3 0 (blk [128#8]) := by
  show bothL (zer 16) (partG (eZ K (((0 : Nat) : Int) + 3)) []) = _
  rw [zer_both16 _ (partG_length _ _), partG, if_pos (.inl rfl)]
  show bothL (zer 16) (eZ K 3 0 (blk ([] ++ [128#8]))) = _
  rw [zer_both16 _ (eZ_length _ _ _ _)]
  rfl
def NilS : Slot := fun v w => ∃ (q : Option Addr) (c : Nat), v = .slice q 1 c ∧ 1 ≤ c ∧ RdR w q [[]]
theorem NilS.stable : Stable NilS := fun v w w' ⟨q, c, h1, h2, h3⟩ hx => ⟨q, c, h1, h2, h3.ext hx⟩
theorem bs_nil1 (w : World) : (Instr.buildSlice 40 1 #[(0, .slice none 0 0)]).run Tryd.prog w = .ok (.slice (some ⟨w.heap.size, 0, none⟩) 1 1) (w.alloc (.cells ([.slice none 0 0] : List Value).toArray 22)) := by kernel_rfl
theorem bs1_1 (w : World) : (Instr.buildSlice 22 1 #[(0, .int .u8 1)]).run Tryd.prog w = .ok (.slice (some ⟨w.heap.size, 0, none⟩) 1 1) (w.alloc (.cells [v8 1#8].toArray 5)) := by kernel_rfl
theorem build_128 (w : World) : (Instr.build 27 #[(0, .int .u8 128)]).run Tryd.prog w = .ok (A8 (blk [128#8])) w := by kernel_rfl
section
variable {P : Program} {dst : Option Tmp} {ty : TypeId} {pos : String} {aft : Array Edge} {gd : Option (Nat × Bool)} {a : Act} {w : World} {T e : TypeId}
theorem gq_build1 {x : Operand} {u v : Value} (hb : ∀ w, (Instr.build T #[(0, u)]).run P w = .ok v w) (hx : a.eval x = u) : gives P w (Is v) ((execOp a.eval (Oper.mk dst (.build T #[(0, x)]) ty pos aft gd)).run P w) := by
  unfold execOp
  simp [hx, hb]
  exact gives_same
theorem gq_nil1 {x : Operand} (hb : (Instr.buildSlice T 1 #[(0, .slice none 0 0)]).run P w = .ok (.slice (some ⟨w.heap.size, 0, none⟩) 1 1) (w.alloc (.cells ([.slice none 0 0] : List Value).toArray e))) (hx : a.eval x = .slice none 0 0) : gives P w NilS ((execOp a.eval (Oper.mk dst (.buildSlice T 1 #[(0, x)]) ty pos aft gd)).run P w) := by
  unfold execOp
  simp [hx, hb]
  refine gives_val (Ext.alloc (Ext.refl _) _) ⟨_, _, rfl, Nat.le_refl _, fun _ => rfl, fun i hi => ?_⟩
  obtain rfl : i = 0 := by simp at hi; omega
  refine ⟨none, 0, ?_, RdB.nil _ _, Nat.le_refl _, Nat.zero_le _⟩
  have := row_cell (row_new w e [.slice none 0 0]) 0
  exact this
end
set_option maxHeartbeats 4000000 in
theorem awake16 (w0 : World) (hc : Coef w0 ∧ CoefB w0) : Gives Tryd.prog 25 #[] w0 (.bool true) := by
  unfold Gives
  have hm := Own.start w0
  have HC := Lib.hid hc.1
  have HB := Lib.hid hc.2
  have KO := Lib.hid fun (w : World) (p : Option Addr) (c : Nat) (h1 : 1 ≤ c) (h2 : RdB w p [1#8]) (h3 : Coef w) (h4 : CoefB w) => keys16_ok [1#8] p c w rfl h1 h2 h3 h4
  have OKK := Lib.hid (keyOf_ok [1#8])
  have hne : (eZ (keyOf [1#8]) 3 0 (blk [128#8]) == zer 16) = false := by rw [beq_eq_false_iff_ne]; exact awake16_ne
  have lY := eZ_length (keyOf [1#8]) 3 0 (blk [128#8])
  have e1 := hashG_nil1 (keyOf [1#8])
  have lX := blk_length [128#8]
  have B8 := Lib.hid build_128
  generalize keyOf [1#8] = K at *
  generalize blk [128#8] = X at *
  have CE := Lib.hid fun (w : World) (g : Nat) (h : KeyR w g K) => h.e 3 0 X lX (by omega) (by omega)
  have H0 := Lib.hid fun (w : World) (g : Nat) (h : KeyR w g K) => show Gives Tryd.prog 27 #[.pointer (some ⟨g, 0, none⟩), .slice none 0 0] w (A8 (zer 16)) from
    hhash_any (.pointer (some ⟨g, 0, none⟩)) rfl rfl (eZ K) (eZ_length K) [] none 0 w ⟨by simp, by simp⟩ (Nat.le_refl _) (by simp) (by simp) (fun wx hx j m x h1 h2 h3 => (h.ext hx).e j m x h1 h2 h3)
  have H1 := Lib.hid fun (w : World) (g : Nat) (q : Option Addr) (c : Nat) (h : KeyR w g K) (hc : 1 ≤ c) (hr : RdR w q [[]]) => show Gives Tryd.prog 27 #[.pointer (some ⟨g, 0, none⟩), .slice q 1 c] w (A8 (eZ K 3 0 X)) from e1 ▸
    hhash_any (.pointer (some ⟨g, 0, none⟩)) rfl rfl (eZ K) (eZ_length K) [[]] q c w hr hc (by simp) (fun i => by cases i <;> simp) (fun wx hx j m x h1 h2 h3 => (h.ext hx).e j m x h1 h2 h3)
  have lz : (zer (n := 8) 16).length = 16 := zer_length
  generalize eZ K 3 0 X = Y at *
  clear hc e1
  go_enter Tryd.func25, Tryd.ntmps25
  go_wp2_with (first | ((with_reducible apply wq_bs1c bs1_1 hm); exact rfl; exact rfl; clear hm; intro g9 w hm) | fail)
  refine (KO.out _ _ _ (by omega) (hm.rdB (g := g9) (l := [1#8]) (by repeat (first | exact Has.hd | assumption | apply Has.tl))) (HC.out.ext hm.x) (HB.out.ext hm.x)).mono ?_
  rintro e w ⟨g, gt, gb, rfl, hg_, hgt_, hne_, hrk_, hrt_, hx_⟩
  replace hm := hm.push2 hx_ hgt_ hrt_ hg_ hrk_ hne_
  clear hx_ hg_ hgt_ hne_ hrk_ hrt_
  go_wp2_with (first | ((first | ((with_reducible show wpList _ _ _ (Oper.mk _ (Op.alloc _) _ _ _ _ :: _) _ _); first | ((with_reducible apply wq_new hm); (exact rfl); infer_instance) | fail)); clear hm; (first | (have hx_ := g1; clear hx_; (first | (have hx_ := g2; clear hx_; (first | (have hx_ := g3; clear hx_; (first | (have hx_ := g4; clear hx_; (first | (have hx_ := g5; clear hx_; (first | (have hx_ := g6; clear hx_; (first | (have hx_ := g7; clear hx_; (first | (have hx_ := g8; clear hx_; (first | (have hx_ := g9; clear hx_; intro g10) | intro g9)) | intro g8)) | intro g7)) | intro g6)) | intro g5)) | intro g4)) | intro g3)) | intro g2)) | intro g1); intro w hm) | fail)
  have kr := fun wx (hwx : Ext w wx) => KeyR.own (g := g) (gt := gt) (gb := gb) OKK.out (hm.ext hwx) (by repeat (first | exact Has.hd | assumption | apply Has.tl)) (by repeat (first | exact Has.hd | assumption | apply Has.tl))
  refine region_at 24 (fun w' => Ext _ w') 32 (by kernel_rfl) (by kernel_rfl) rfl (fun _ _ h k => h.trans k) (drew_ext _) ?_
  simp only [List.take_succ_cons, List.take_zero, List.drop_succ_cons, List.drop_zero, List.map_cons, List.map_nil]
  repeat (first
      | (apply walk_some NilS 18 NilS.stable rfl rfl rfl rfl; (intro wx hwx; exact gq_nil1 (bs_nil1 wx) rfl))
      | (apply walk_some NilS 27 NilS.stable rfl rfl rfl rfl; (intro wx hwx; exact gq_nil1 (bs_nil1 wx) rfl))
      | (apply walk_is rfl rfl rfl; (intro wx hwx; exact gq_build1 B8.out rfl); (simp only [Act.put, List.setIfInBounds_toArray, List.set_cons_succ, List.set_cons_zero]; rfl))
      | (apply walk_from (T := [(18, NilS)]) rfl rfl
         · (intro wx hwx; simp only [withS]; (rintro x_ ⟨q, c, rfl, hlc, hr'⟩); refine ⟨rfl, ?_⟩; go_simp; with_reducible exact gives_call (H1.out wx g q c (kr wx hwx) hlc hr'))
         · (simp only [Act.put, List.setIfInBounds_toArray, List.set_cons_succ, List.set_cons_zero]; rfl))
      | (apply walk_from (T := [(27, NilS)]) rfl rfl
         · (intro wx hwx; simp only [withS]; (rintro x_ ⟨q, c, rfl, hlc, hr'⟩); refine ⟨rfl, ?_⟩; go_simp; with_reducible exact gives_call (H1.out wx g q c (kr wx hwx) hlc hr'))
         · (simp only [Act.put, List.setIfInBounds_toArray, List.set_cons_succ, List.set_cons_zero]; rfl))
      | (apply walk_is rfl rfl rfl
         · (intro wx hwx; first | ((with_reducible show gives _ _ _ (Sem.run _ (execOp _ (Oper.mk _ (Op.load _ _) _ _ _ _)) _)); first | ((with_reducible apply gq_ldv (hm.ext hwx)); infer_instance; (exact rfl); (focus ((repeat (first | exact .hd | assumption | apply Has.tl)); done)); (focus (first | omega | (simp; omega) | (refine Nat.lt_of_lt_of_le (BitVec.isLt _) ?_; first | omega | (simp; done) | (simp; omega) | fail) | fail))) | ((with_reducible apply gq_ldW (hm.ext hwx)); infer_instance; (exact rfl); (focus ((repeat (first | exact .hd | assumption | apply Has.tl)); done)); (focus (first | rfl | omega | (simp; done) | (simp; omega) | fail))) | ((with_reducible apply gq_ld1 (hm.ext hwx)); infer_instance; (exact rfl); (focus ((repeat (first | exact .hd | assumption | apply Has.tl)); done)); (exact rfl)) | fail) | (go_simp; (try go_bits); first | exact gives_same | exact gives_skip | with_reducible exact gives_call (H0.out wx g (kr wx hwx)) | with_reducible exact gives_call (CE.out wx g (kr wx hwx))))
         · (simp only [Act.put, List.setIfInBounds_toArray, List.set_cons_succ, List.set_cons_zero]; rfl))
      | (apply walk_not rfl rfl rfl
         · (simp only [Act.put, List.setIfInBounds_toArray, List.set_cons_succ, List.set_cons_zero]; rfl)))
  intro wz hwz
  simp only [List.zip_cons_cons, List.zip_nil_right]
  repeat (first | rw [fin_is] | (rw [fin_cons]; intro _ _))
  rw [fin_nil]
  try (replace hm := hm.ext hwz)
  simp only [Act.put, List.setIfInBounds_toArray, List.set_cons_succ, List.set_cons_zero]
  clear kr
  go_wp2_with fail
  go_ret
  exact ⟨rfl, hm.x⟩

end Go.Proofs.YtmgopjeaehmbfaaDoor
