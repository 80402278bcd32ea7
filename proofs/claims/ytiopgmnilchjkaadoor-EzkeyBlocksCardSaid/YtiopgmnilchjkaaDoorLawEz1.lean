/-
  Layer 15: what the statements share: a key, two numbers and a block; sums of two blocks; the look at the chapter's example. Conditions: the program's variables lie as its text lays them.
-/
import Derived.Test.YtiopgmnilchjkaaDoorEzr
namespace Go.Proofs.YtiopgmnilchjkaaDoor
open Go Go.RowKit
set_option maxRecDepth 100000
set_option linter.unusedVariables false
set_option linter.unusedSimpArgs false

/-- The cells of a key, two numbers and a block. (Behind a name: not to be laid open by the walk.) -/
def askedC (p : Option Addr) (n c : Nat) (j i : Int) (X : List Byte) : List Value := [.slice p n c] ++ ([.int .i64 j] ++ ([.int .i64 i] ++ X.map v8))
section
variable {p : Option Addr} {n c : Nat} {j i : Int} {X : List Byte}
theorem askedC_key : (askedC p n c j i X)[0]? = some (.slice p n c) := rfl
theorem askedC_j : (askedC p n c j i X)[1]? = some (.int .i64 j) := rfl
theorem askedC_i : (askedC p n c j i X)[2]? = some (.int .i64 i) := rfl
theorem askedC_x (h : X.length = 16) : ((askedC p n c j i X).drop 3).take 16 = X.map v8 := by
  show (X.map v8).take 16 = _
  rw [List.take_of_length_le (by simp [h])]
theorem askedC_length (h : X.length = 16) : (askedC p n c j i X).length = 19 := by simp [askedC, h]
end
/-- May a key be, and are the numbers small? -/
def rightA (key : List Byte) (j i : Int) : Bool := rightL key && decide (j ≤ 1000) && decide (i ≤ 4096)
set_option maxHeartbeats 2000000 in
theorem aright_any (key : List Byte) (p : Option Addr) (c : Nat) (j i : Int) (X : List Byte) (hX : X.length = 16) (w0 : World) : Gives Tryd.prog 24 #[.agg (askedC p key.length c j i X).toArray] w0 (.bool (rightA key j i)) := by
  unfold Gives
  have hm := Own.start w0
  have F0 := Lib.hid (askedC_key (p := p) (n := key.length) (c := c) (j := j) (i := i) (X := X))
  have F1 := Lib.hid (askedC_j (p := p) (n := key.length) (c := c) (j := j) (i := i) (X := X))
  have F2 := Lib.hid (askedC_i (p := p) (n := key.length) (c := c) (j := j) (i := i) (X := X))
  have lS := askedC_length (p := p) (n := key.length) (c := c) (j := j) (i := i) hX
  have CR := Lib.hid fun w => right15_any key p c w
  have ER : Hid (rightA key j i = (rightL key && decide (j ≤ 1000) && decide (i ≤ 4096))) := Lib.hid rfl
  generalize askedC p key.length c j i X = S at *
  rw [ER.out]
  generalize rightL key = r at *
  by_cases h1 : j ≤ 1000
  · have a1 : decide (j ≤ 1000) = true := decide_eq_true h1
    by_cases h2 : i ≤ 4096
    · have a2 : decide (i ≤ 4096) = true := decide_eq_true h2
      rw [a1, a2]
      cases r
      all_goals
        go_enter Tryd.func24, Tryd.ntmps24
        go_wp2_with (first | ((with_reducible apply wq_ld1 hm); (exact rfl); infer_instance; (exact rfl); (focus ((repeat (first | exact .hd | assumption | apply Has.tl)); done)); (exact F0.out)) | ((with_reducible apply wq_ld1 hm); (exact rfl); infer_instance; (exact rfl); (focus ((repeat (first | exact .hd | assumption | apply Has.tl)); done)); (exact F1.out)) | ((with_reducible apply wq_ld1 hm); (exact rfl); infer_instance; (exact rfl); (focus ((repeat (first | exact .hd | assumption | apply Has.tl)); done)); (exact F2.out)) | (go_at_call 19; (with_reducible refine (CR.out _).mono ?_); rintro e_ w_ ⟨rfl, rfl⟩) | ((first | ((with_reducible show wpList _ _ _ (Oper.mk _ (Op.box _ _) _ _ _ _ :: _) _ _); first | ((with_reducible apply wq_boxN hm); (exact rfl); (exact rfl)) | fail)); clear hm; (first | (have hx_ := g1; clear hx_; (first | (have hx_ := g2; clear hx_; (first | (have hx_ := g3; clear hx_; (first | (have hx_ := g4; clear hx_; (first | (have hx_ := g5; clear hx_; (first | (have hx_ := g6; clear hx_; (first | (have hx_ := g7; clear hx_; (first | (have hx_ := g8; clear hx_; (first | (have hx_ := g9; clear hx_; intro g10) | intro g9)) | intro g8)) | intro g7)) | intro g6)) | intro g5)) | intro g4)) | intro g3)) | intro g2)) | intro g1); intro w hm) | fail)
        go_ret
        exact ⟨rfl, hm.x⟩
    · have a2 : decide (i ≤ 4096) = false := decide_eq_false h2
      rw [a1, a2]
      cases r
      all_goals
        go_enter Tryd.func24, Tryd.ntmps24
        go_wp2_with (first | ((with_reducible apply wq_ld1 hm); (exact rfl); infer_instance; (exact rfl); (focus ((repeat (first | exact .hd | assumption | apply Has.tl)); done)); (exact F0.out)) | ((with_reducible apply wq_ld1 hm); (exact rfl); infer_instance; (exact rfl); (focus ((repeat (first | exact .hd | assumption | apply Has.tl)); done)); (exact F1.out)) | ((with_reducible apply wq_ld1 hm); (exact rfl); infer_instance; (exact rfl); (focus ((repeat (first | exact .hd | assumption | apply Has.tl)); done)); (exact F2.out)) | (go_at_call 19; (with_reducible refine (CR.out _).mono ?_); rintro e_ w_ ⟨rfl, rfl⟩) | ((first | ((with_reducible show wpList _ _ _ (Oper.mk _ (Op.box _ _) _ _ _ _ :: _) _ _); first | ((with_reducible apply wq_boxN hm); (exact rfl); (exact rfl)) | fail)); clear hm; (first | (have hx_ := g1; clear hx_; (first | (have hx_ := g2; clear hx_; (first | (have hx_ := g3; clear hx_; (first | (have hx_ := g4; clear hx_; (first | (have hx_ := g5; clear hx_; (first | (have hx_ := g6; clear hx_; (first | (have hx_ := g7; clear hx_; (first | (have hx_ := g8; clear hx_; (first | (have hx_ := g9; clear hx_; intro g10) | intro g9)) | intro g8)) | intro g7)) | intro g6)) | intro g5)) | intro g4)) | intro g3)) | intro g2)) | intro g1); intro w hm) | fail)
        go_ret
        exact ⟨rfl, hm.x⟩
  · have a1 : decide (j ≤ 1000) = false := decide_eq_false h1
    rw [a1]
    cases r
    all_goals
      go_enter Tryd.func24, Tryd.ntmps24
      go_wp2_with (first | ((with_reducible apply wq_ld1 hm); (exact rfl); infer_instance; (exact rfl); (focus ((repeat (first | exact .hd | assumption | apply Has.tl)); done)); (exact F0.out)) | ((with_reducible apply wq_ld1 hm); (exact rfl); infer_instance; (exact rfl); (focus ((repeat (first | exact .hd | assumption | apply Has.tl)); done)); (exact F1.out)) | (go_at_call 19; (with_reducible refine (CR.out _).mono ?_); rintro e_ w_ ⟨rfl, rfl⟩) | ((first | ((with_reducible show wpList _ _ _ (Oper.mk _ (Op.box _ _) _ _ _ _ :: _) _ _); first | ((with_reducible apply wq_boxN hm); (exact rfl); (exact rfl)) | fail)); clear hm; (first | (have hx_ := g1; clear hx_; (first | (have hx_ := g2; clear hx_; (first | (have hx_ := g3; clear hx_; (first | (have hx_ := g4; clear hx_; (first | (have hx_ := g5; clear hx_; (first | (have hx_ := g6; clear hx_; (first | (have hx_ := g7; clear hx_; (first | (have hx_ := g8; clear hx_; (first | (have hx_ := g9; clear hx_; intro g10) | intro g9)) | intro g8)) | intro g7)) | intro g6)) | intro g5)) | intro g4)) | intro g3)) | intro g2)) | intro g1); intro w hm) | fail)
      go_ret
      exact ⟨rfl, hm.x⟩

set_option maxHeartbeats 2000000 in
theorem plus15_any (a b : List Byte) (ha : a.length = 16) (hb : b.length = 16) (w0 : World) : Gives Tryd.prog 29 #[A8 a, A8 b] w0 (A8 (bothL a b)) := by
  unfold Gives
  have hm := Own.start w0
  have ha1 := Nat.le_of_eq ha
  have ha2 := Nat.le_of_eq ha.symm
  have hb1 := Nat.le_of_eq hb
  have hb2 := Nat.le_of_eq hb.symm
  have ES : Hid (a = part 16 0 (fun i => nth a i ^^^ nth b i) (nth a)) := Lib.hid (part_start ha)
  have EE : Hid (part 16 16 (fun i => nth a i ^^^ nth b i) (nth a) = bothL a b) := Lib.hid part_all
  clear ha hb
  go_enter Tryd.func29, Tryd.ntmps29
  go_wp2_with (first | ((first | ((with_reducible show wpList _ _ _ (Oper.mk _ (Op.alloc _) _ _ _ _ :: _) _ _); first | ((with_reducible apply wq_new hm); (exact rfl); infer_instance) | fail) | ((with_reducible show wpList _ _ _ (Oper.mk _ (Op.box _ _) _ _ _ _ :: _) _ _); first | ((with_reducible apply wq_boxN hm); (exact rfl); (exact rfl)) | fail)); clear hm; (first | (have hx_ := g1; clear hx_; (first | (have hx_ := g2; clear hx_; (first | (have hx_ := g3; clear hx_; (first | (have hx_ := g4; clear hx_; (first | (have hx_ := g5; clear hx_; (first | (have hx_ := g6; clear hx_; (first | (have hx_ := g7; clear hx_; (first | (have hx_ := g8; clear hx_; (first | (have hx_ := g9; clear hx_; intro g10) | intro g9)) | intro g8)) | intro g7)) | intro g6)) | intro g5)) | intro g4)) | intro g3)) | intro g2)) | intro g1); intro w hm) | fail)
  go_loopw [5] (fun i wr => ∃ j : Nat, j ≤ 16 ∧ i = .int .i64 j ∧ Own w0 wr [⟨g3, 32, (zer 16).map v8⟩, ⟨g2, 32, b.map v8⟩, ⟨g1, 32, (part 16 j (fun i => nth a i ^^^ nth b i) (nth a)).map v8⟩]) (fun i _ => 16 - (intOf i).toNat)
  case atStart => exact ⟨0, by omega, rfl, by rw [← ES.out]; exact hm⟩
  case round =>
    obtain ⟨j, hj, rfl, hm⟩ := hrel
    by_cases hjl : j < 16
    · have hj1 : decide ((j : Int) < 16) = true := decide_eq_true (by omega)
      have hj2 : (j : Int) < 16 := by omega
      have EJ : Hid (setN (part 16 j (fun i => nth a i ^^^ nth b i) (nth a)) j (nth (part 16 j (fun i => nth a i ^^^ nth b i) (nth a)) j ^^^ nth b j) = part 16 (j + 1) (fun i => nth a i ^^^ nth b i) (nth a)) := Lib.hid (by
        rw [nth_part_ge hjl (Nat.le_refl _)]; exact part_set (f := fun i => nth a i ^^^ nth b i) hjl)
      have lJ : (part 16 j (fun i => nth a i ^^^ nth b i) (nth a)).length = 16 := part_length
      generalize part 16 j (fun i => nth a i ^^^ nth b i) (nth a) = C at *
      go_wp2_with fail
      refine region_at 8 (fun w' => Ext _ w') 19 (by kernel_rfl) (by kernel_rfl) rfl (fun _ _ h k => h.trans k) (drew_ext _) ?_
      simp only [List.take_succ_cons, List.take_zero, List.drop_succ_cons, List.drop_zero, List.map_cons, List.map_nil]
      repeat (first
          | (apply walk_is rfl rfl rfl
             · (intro wx hwx; first | ((with_reducible show gives _ _ _ (Sem.run _ (execOp _ (Oper.mk _ (Op.load _ _) _ _ _ _)) _)); first | ((with_reducible apply gq_ldv (hm.ext hwx)); infer_instance; (exact rfl); (focus ((repeat (first | exact .hd | assumption | apply Has.tl)); done)); (focus (first | omega | (simp; omega) | (refine Nat.lt_of_lt_of_le (BitVec.isLt _) ?_; first | omega | (simp; done) | (simp; omega) | fail) | fail))) | ((with_reducible apply gq_ldW (hm.ext hwx)); infer_instance; (exact rfl); (focus ((repeat (first | exact .hd | assumption | apply Has.tl)); done)); (focus (first | rfl | omega | (simp; done) | (simp; omega) | fail))) | ((with_reducible apply gq_ld1 (hm.ext hwx)); infer_instance; (exact rfl); (focus ((repeat (first | exact .hd | assumption | apply Has.tl)); done)); (exact rfl)) | fail) | (go_simp; (try go_bits); first | exact gives_same | exact gives_skip))
             · (simp only [Act.put, List.setIfInBounds_toArray, List.set_cons_succ, List.set_cons_zero]; rfl))
          | (apply walk_not rfl rfl rfl
             · (simp only [Act.put, List.setIfInBounds_toArray, List.set_cons_succ, List.set_cons_zero]; rfl)))
      intro wz hwz
      simp only [List.zip_cons_cons, List.zip_nil_right]
      repeat (first | rw [fin_is] | (rw [fin_cons]; intro _ _))
      rw [fin_nil]
      try (replace hm := hm.ext hwz)
      simp only [Act.put, List.setIfInBounds_toArray, List.set_cons_succ, List.set_cons_zero]
      go_wp2_with (first | ((((with_reducible show wpList _ _ _ (Oper.mk _ (Op.store _ _ _) _ _ _ _ :: _) _ _); first | ((with_reducible apply wq_stv hm); (exact rfl); infer_instance; (exact rfl); (focus ((repeat (first | exact .hd | assumption | apply Swap.tl)); done)); infer_instance; (exact rfl); (focus (first | omega | (simp; omega) | (refine Nat.lt_of_lt_of_le (BitVec.isLt _) ?_; first | omega | (simp; done) | (simp; omega) | fail) | fail))) | fail)); clear hm; intro w hm) | fail)
      go_roundw
      case rel =>
        rw [EJ.out] at hm
        exact ⟨j + 1, by omega, by go_num, hm⟩
      case measure => simp [intOf] <;> omega
    · obtain rfl : j = 16 := by omega
      have hj1 : decide (((16 : Nat) : Int) < 16) = false := decide_eq_false (by omega)
      rw [EE.out] at hm
      go_wp2_with (first | ((with_reducible show wpList _ _ _ (Oper.mk _ (Op.load _ _) _ _ _ _ :: _) _ _); first | ((with_reducible apply wq_ldW hm); (exact rfl); infer_instance; (exact rfl); (focus ((repeat (first | exact .hd | assumption | apply Has.tl)); done)); (focus (first | rfl | omega | (simp; done) | (simp; omega) | fail))) | fail) | ((((with_reducible show wpList _ _ _ (Oper.mk _ (Op.store _ _ _) _ _ _ _ :: _) _ _); first | ((with_reducible apply wq_stW hm); (exact rfl); infer_instance; (exact rfl); (exact rfl); (focus ((repeat (first | exact .hd | assumption | apply Swap.tl)); done)); (focus (first | rfl | omega | (simp; done) | (simp; omega) | fail)); (focus (first | rfl | omega | (simp; done) | (simp; omega) | fail)); (focus (first | exact one_map _ | (simp [one8, one32, one64]; done) | fail))) | fail)); clear hm; intro w hm) | fail)
      refine ret_own hm rfl rfl (by infer_instance) (by repeat (first | exact Has.hd | assumption | apply Has.tl)) (by first | rfl | omega | (simp only [zeros_length, zer_length, tab_length, part_length, setN_length, List.length_map, List.length_cons, List.length_nil, List.length_append, List.length_take, List.length_drop, List.length_replicate, blk_length, putL_length] <;> omega) | fail) rfl ⟨rfl, hm.x⟩

/-- One byte, sixteen times. -/
def repL (x : Byte) : List Byte := tab 16 fun _ => x
theorem rep_lit : ∀ (x : Byte) (r : Fin 4), ((tms (nth mixesL ((0 + 4 - r.val) % 4)) (nth tabsL x.toNat) ^^^ tms (nth mixesL ((1 + 4 - r.val) % 4)) (nth tabsL x.toNat)) ^^^ tms (nth mixesL ((2 + 4 - r.val) % 4)) (nth tabsL x.toNat)) ^^^ tms (nth mixesL ((3 + 4 - r.val) % 4)) (nth tabsL x.toNat) = nth tabsL x.toNat := by decide +kernel
theorem rep_rnd (x : Byte) : rnd (repL x) (zer 16) = repL (bxTo x) := nth_ext (by rw [rnd_length, repL, tab_length]) fun i hi => by
  rw [rnd_length] at hi
  have hs : ∀ r, r < 4 → nth (repL x) (shp r (i / 4)) = x := fun r hr => nth_tab (shp_lt r _ hr)
  rw [rnd_nth _ _ i hi, hs 0 (by omega), hs 1 (by omega), hs 2 (by omega), hs 3 (by omega), zer, nth_tab hi, repL, nth_tab hi]
  simp only [bxTo_lit]
  have := rep_lit x ⟨i % 4, Nat.mod_lt _ (by omega)⟩
  simp only at this
  rw [this]; simp
theorem four_ne : rnds (zer 16) [zer 16, zer 16, zer 16, zer 16] ≠ zer 16 := by
  have e : (zer (n := 8) 16) = repL 0#8 := rfl
  intro h
  have h2 : rnds (repL 0#8) [zer 16, zer 16, zer 16, zer 16] = repL (bxTo (bxTo (bxTo (bxTo 0#8)))) := by
    simp only [rnds, rep_rnd]
  have h3 : nth (rnds (zer 16) [zer 16, zer 16, zer 16, zer 16]) 0 = bxTo (bxTo (bxTo (bxTo 0#8))) := by
    rw [← e] at h2; rw [h2, repL, nth_tab (by omega)]
  rw [h, zer, nth_tab (by omega)] at h3
  simp only [bxTo_lit] at h3
  revert h3; decide +kernel
/-- The parts of a key of noughts. -/
theorem key_zeros : keyOf (zeros 48) = ⟨zer 16, zer 16, zer 16⟩ := by
  have e : keyB (zeros 48) = zeros 48 := by rw [keyB, if_pos (zeros_length 48)]
  rw [keyOf, e]
  rfl
theorem e_zeros : eZ ⟨zer 16, zer 16, zer 16⟩ 0 0 (zer 16) = rnds (zer 16) [zer 16, zer 16, zer 16, zer 16] := by
  rw [eZ, if_neg (by omega), if_neg (by omega)]
  show eN _ 0 0 _ = _
  rw [eN, off_00 _ ⟨zer_length, zer_length, zer_length⟩, both_self]
  rfl
theorem off_zeros (j i : Nat) : offZ ⟨zer 16, zer 16, zer 16⟩ j i = zer 16 := by
  rw [offZ, if_neg (by omega), offN, mulL_zer, mulL_zer, dblN_zer, both_self, both_self]

set_option maxHeartbeats 4000000 in
theorem awake15 (w0 : World) (hc : Coef w0 ∧ CoefB w0) : Gives Tryd.prog 21 #[] w0 (.bool true) := by
  unfold Gives
  have HC := Lib.hid hc.1
  have HB := Lib.hid hc.2
  have hz : (zeros 48).length = 48 := zeros_length 48
  have KO := Lib.hid fun (w : World) (p : Option Addr) (c : Nat) (h1 : 48 ≤ c) (h2 : RdB w p (zeros 48)) (h3 : Coef w) (h4 : CoefB w) => show Calls Tryd.prog 16 #[.slice p 48 c] w fun e w' => ∃ g, e = .returned (.tuple #[.pointer (some ⟨g, 0, none⟩), .bool true]) ∧ KeyR w' g ⟨zer 16, zer 16, zer 16⟩ ∧ Ext w w' from by
    have := keys15_ok (zeros 48) p c w (by rw [rightL, hz]; rfl) (by rw [hz]; exact h1) h2 h3 h4
    rw [hz, key_zeros] at this
    exact this.mono fun e w' ⟨g, gt, gb, h1, _, _, _, h2, h3, h4⟩ => ⟨g, h1, ⟨⟨zer_length, zer_length, zer_length⟩, gt, gb, h2, h3⟩, h4⟩
  have lz : (zer (n := 8) 16).length = 16 := zer_length
  have CE : Hid (∀ (w : World) (g : Nat), KeyR w g ⟨zer 16, zer 16, zer 16⟩ → Gives Tryd.prog 25 #[.pointer (some ⟨g, 0, none⟩), .int .i64 0, .int .i64 0, A8 (zer 16)] w (A8 (rnds (zer 16) [zer 16, zer 16, zer 16, zer 16]))) := Lib.hid fun w g h => e_zeros ▸ h.e 0 0 (zer 16) lz (by omega) (by omega)
  have CO : Hid (∀ (w : World) (g : Nat), KeyR w g ⟨zer 16, zer 16, zer 16⟩ → Gives Tryd.prog 26 #[.pointer (some ⟨g, 0, none⟩), .int .i64 5, .int .i64 7] w (A8 (zer 16))) := Lib.hid fun w g h => off_zeros 5 7 ▸ h.off 5 7 (by omega) (by omega)
  have CR : Hid (∀ (wx : World) (g gb : Nat) (p : Option Addr) (c : Nat), 4 ≤ c → RdK wx p 16 [zer 16, zer 16, zer 16, zer 16] → Row wx g 105 (tcells gb mixT unmixT) → Gives Tryd.prog 31 #[.pointer (some ⟨g, 0, none⟩), A8 (zer 16), .slice p 4 c] wx (A8 (rnds (zer 16) [zer 16, zer 16, zer 16, zer 16]))) := Lib.hid fun wx g gb p c hc h hr => trounds_any g gb (zer 16) [zer 16, zer 16, zer 16, zer 16] p c lz wx h hc (by simp) hr
  have hne : (rnds (zer 16) [zer 16, zer 16, zer 16, zer 16] == zer 16) = false := by rw [beq_eq_false_iff_ne]; exact four_ne
  have lY : (rnds (zer 16) [zer 16, zer 16, zer 16, zer 16]).length = 16 := rnds_length _ _ lz
  have hk4 : Hid (∀ k ∈ [zer (n := 8) 16, zer 16, zer 16, zer 16], k.length = 16) := Lib.hid (by simp [lz])
  have hrow := row_new w0 5 ((zeros 48).map v8)
  have HROW := Lib.hid (RdB.of_row hrow)
  generalize rnds (zer 16) [zer 16, zer 16, zer 16, zer 16] = Y at *
  clear hc hz hrow
  go_enter Tryd.func21, Tryd.ntmps21
  go_wp2_with (with_reducible show wpList _ _ _ _ _ _; refine make_b 48 rfl rfl rfl rfl (by omega) (by omega) (by omega) ?_)
  have hx1 : Ext w0 (w0.alloc (.cells ((zeros 48).map v8).toArray 5)) := (Ext.refl w0).alloc _
  refine (KO.out _ _ _ (by omega) HROW.out (HC.out.ext hx1) (HB.out.ext hx1)).mono ?_
  rintro e w1 ⟨g, rfl, hkr, hx2⟩
  have X1 := Lib.hid (hx1.trans hx2)
  have KR := Lib.hid hkr
  clear hx1 hx2 hkr
  go_wp2_with fail
  refine (tabs_make _ (HC.out.ext X1.out)).mono ?_
  rintro e w2 ⟨gt, gb, rfl, _, hrt, hx2⟩
  have X2 := Lib.hid (X1.out.trans hx2)
  have KR2 := Lib.hid (KR.out.ext hx2)
  have RT := Lib.hid hrt
  clear hx2 hrt X1 KR
  have hm := Own.start w2
  go_wp2_with (first | ((first | ((with_reducible show wpList _ _ _ (Oper.mk _ (Op.alloc _) _ _ _ _ :: _) _ _); first | ((with_reducible apply wq_new hm); (exact rfl); infer_instance) | fail)); clear hm; (first | (have hx_ := g1; clear hx_; (first | (have hx_ := g2; clear hx_; (first | (have hx_ := g3; clear hx_; (first | (have hx_ := g4; clear hx_; (first | (have hx_ := g5; clear hx_; (first | (have hx_ := g6; clear hx_; (first | (have hx_ := g7; clear hx_; (first | (have hx_ := g8; clear hx_; (first | (have hx_ := g9; clear hx_; intro g10) | intro g9)) | intro g8)) | intro g7)) | intro g6)) | intro g5)) | intro g4)) | intro g3)) | intro g2)) | intro g1); intro w hm) | fail)
  have c1 := fun wx (hwx : Ext w wx) => CE.out wx g (KR2.out.ext (hm.x.trans hwx))
  have c2 := fun wx (hwx : Ext w wx) => CO.out wx g (KR2.out.ext (hm.x.trans hwx))
  have rt := fun wx (hwx : Ext w wx) => row_ext RT.out (hm.x.trans hwx)
  refine region_at 28 (fun w' => Ext _ w') 39 (by kernel_rfl) (by kernel_rfl) rfl (fun _ _ h k => h.trans k) (drew_ext _) ?_
  simp only [List.take_succ_cons, List.take_zero, List.drop_succ_cons, List.drop_zero, List.map_cons, List.map_nil]
  repeat (first
      | (apply walk_some (KeysS ([zer 16, zer 16, zer 16, zer 16])) 22 (KeysS.stable _) rfl rfl rfl rfl; (intro wx hwx; exact gq_bs4 (hk4.out) (bs_run4 (zer 16) (zer 16) (zer 16) (zer 16) lz lz lz lz wx) rfl rfl rfl rfl))
      | (apply walk_from (T := [(22, KeysS [zer 16, zer 16, zer 16, zer 16])]) rfl rfl
         · (intro wx hwx; simp only [withS]; (rintro x_ ⟨p, c, rfl, hlc, hk'⟩); refine ⟨rfl, ?_⟩; go_simp; exact gives_call (CR.out wx gt gb p c hlc hk' (rt wx hwx)))
         · (simp only [Act.put, List.setIfInBounds_toArray, List.set_cons_succ, List.set_cons_zero]; rfl))
      | (apply walk_is rfl rfl rfl
         · (intro wx hwx; first | ((with_reducible show gives _ _ _ (Sem.run _ (execOp _ (Oper.mk _ (Op.load _ _) _ _ _ _)) _)); first | ((with_reducible apply gq_ldv (hm.ext hwx)); infer_instance; (exact rfl); (focus ((repeat (first | exact .hd | assumption | apply Has.tl)); done)); (focus (first | omega | (simp; omega) | (refine Nat.lt_of_lt_of_le (BitVec.isLt _) ?_; first | omega | (simp; done) | (simp; omega) | fail) | fail))) | ((with_reducible apply gq_ldW (hm.ext hwx)); infer_instance; (exact rfl); (focus ((repeat (first | exact .hd | assumption | apply Has.tl)); done)); (focus (first | rfl | omega | (simp; done) | (simp; omega) | fail))) | ((with_reducible apply gq_ld1 (hm.ext hwx)); infer_instance; (exact rfl); (focus ((repeat (first | exact .hd | assumption | apply Has.tl)); done)); (exact rfl)) | fail) | (go_simp; (try go_bits); first | exact gives_same | exact gives_skip | with_reducible exact gives_call (c1 wx hwx) | with_reducible exact gives_call (c2 wx hwx)))
         · (simp only [Act.put, List.setIfInBounds_toArray, List.set_cons_succ, List.set_cons_zero]; rfl))
      | (apply walk_not rfl rfl rfl
         · (simp only [Act.put, List.setIfInBounds_toArray, List.set_cons_succ, List.set_cons_zero]; rfl)))
  intro wz hwz
  simp only [List.zip_cons_cons, List.zip_nil_right]
  repeat (first | rw [fin_is] | (rw [fin_cons]; intro _ _))
  rw [fin_nil]
  try (replace hm := hm.ext hwz)
  simp only [Act.put, List.setIfInBounds_toArray, List.set_cons_succ, List.set_cons_zero]
  clear c1 c2 rt
  go_wp2_with fail
  go_ret
  exact ⟨rfl, X2.out.trans hm.x⟩

end Go.Proofs.YtiopgmnilchjkaaDoor
