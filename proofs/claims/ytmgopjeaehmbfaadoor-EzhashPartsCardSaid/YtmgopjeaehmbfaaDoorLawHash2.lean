/-
  Layer 16: the statement on what a string brings. Conditions: the program's variables lie as its text lays them.
-/
import Derived.Test.YtmgopjeaehmbfaaDoorLawHash1
import Derived.Test.YtmgopjeaehmbfaaDoorHash5
namespace Go.Proofs.YtmgopjeaehmbfaaDoor
open Go Go.RowKit
set_option maxRecDepth 100000
set_option linter.unusedVariables false
set_option linter.unusedSimpArgs false

set_option maxHeartbeats 8000000 in
theorem parts16_walk (key : List Byte) (p : Option Addr) (c : Nat) (b : List Byte) (q : Option Addr) (d : Nat) (j : Int) (w0 : World) (hk : RdB w0 p key) (hkc : key.length ≤ c) (hkm : key.length ≤ maxLen) (hb : RdB w0 q b) (hbc : b.length ≤ d) (hbm : b.length ≤ maxLen) (hj0 : -9223372036854775808 ≤ j) (hj1 : j ≤ 9223372036854775807) (hc : Coef w0 ∧ CoefB w0) :
    Calls Tryd.prog 3 #[.slice p key.length c, .slice q b.length d, .int .i64 j] w0 fun e w' => e = .returned (.bool true) ∧ Ext w0 w' := by
  have hm := Own.start w0
  have HC := Lib.hid hc.1
  have HB := Lib.hid hc.2
  have HK := Lib.hid hk
  have HQ := Lib.hid hb
  have CR := Lib.hid fun w => right15_any key p c w
  have KO := Lib.hid fun (h : rightL key = true) (w : World) (h1 : RdB w p key) (h2 : Coef w) (h3 : CoefB w) => keys16_ok key p c w h hkc h1 h2 h3
  have AW := Lib.hid fun (w : World) (h : Ext w0 w) => awake16 w ⟨hc.1.ext h, hc.2.ext h⟩
  have OKK := Lib.hid (keyOf_ok key)
  have RE := Lib.hid fun (h : rightL key = true) (w : World) (h1 : RdB w p key) => rext_any key p c w (by simp [rightL] at h; omega) (by simp [rightL] at h; omega) hkc h1
  have MK := Lib.hid fun wx => rmake_any wx
  have lz : (zer (n := 8) 16).length = 16 := zer_length
  clear hc hk hb
  generalize keyOf key = K at *
  by_cases hR : rightL key = true
  · rw [hR] at CR
    by_cases h2 : 200 < b.length
    · have a1 : decide ((200 : Int) < (b.length : Int)) = true := decide_eq_true (by omega)
      have a2 : (200 : Int) < (b.length : Int) := by omega
      go_enter Tryd.func3, Tryd.ntmps3
      go_wp2_with (first | (go_at_call 19; (with_reducible refine (CR.out _).mono ?_); rintro e_ w_ ⟨rfl, rfl⟩) | fail)
      go_ret
      exact ⟨rfl, hm.x⟩
    · have a1 : decide ((200 : Int) < (b.length : Int)) = false := decide_eq_false (by omega)
      have a2 : ¬ (200 : Int) < (b.length : Int) := by omega
      by_cases h3 : 1000 < j
      · have a3 : decide ((1000 : Int) < j) = true := decide_eq_true (by omega)
        go_enter Tryd.func3, Tryd.ntmps3
        go_wp2_with (first | (go_at_call 19; (with_reducible refine (CR.out _).mono ?_); rintro e_ w_ ⟨rfl, rfl⟩) | fail)
        go_ret
        exact ⟨rfl, hm.x⟩
      · have a3 : decide ((1000 : Int) < j) = false := decide_eq_false (by omega)
        have RX := Lib.hid (RE.out hR)
        have lR := rkL_length OKK.out
        have hb2 : b.length ≤ 70368744177000 := by omega
        have pn := fun wx h => hpart_any (.pointer none) (fun _ _ => zer 16) (fun _ _ => zer_length) j b q d wx h hbc hb2 (fun wy _ m x h1 _ => e_nil j m x h1 wy)
        rw [partG_zero] at pn
        have PN := Lib.hid pn
        have pk := fun (wx : World) (g : Nat) (h : KeyR wx g K) (h' : RdB wx q b) => hpart_any (.pointer (some ⟨g, 0, none⟩)) (eZ K j) (eZ_length K j) j b q d wx h' hbc hb2 (fun wy hy m x h1 h2 => (h.ext hy).e j m x h1 hj1 h2)
        by_cases h1 : j < -1
        · have a4 : decide ((-1 : Int) ≤ j) = false := decide_eq_false (by omega)
          have a5 : decide (j ≥ -1) = false := decide_eq_false (by omega)
          have ez : eZ K j = fun _ _ => zer 16 := by funext m x; rw [eZ, if_pos (.inl h1)]
          rw [ez, partG_zero] at pk
          have PK := Lib.hid pk
          clear pn pk ez RE
          go_enter Tryd.func3, Tryd.ntmps3
          go_wp2_with (first | (go_at_call 19; (with_reducible refine (CR.out _).mono ?_); rintro e_ w_ ⟨rfl, rfl⟩) | fail)
          refine (KO.out hR _ (HK.out.ext hm.x) (HC.out.ext hm.x) (HB.out.ext hm.x)).mono ?_
          rintro e w ⟨g, gt, gb, rfl, hg_, hgt_, hne_, hrk_, hrt_, hx_⟩
          replace hm := hm.push2 hx_ hgt_ hrt_ hg_ hrk_ hne_
          clear hx_ hg_ hgt_ hne_ hrk_ hrt_
          go_wp2_with (first | (go_at_call 21; (with_reducible refine (PN.out _ (HQ.out.ext hm.x)).mono ?_); rintro e_ w ⟨rfl, hx_⟩; replace hm := hm.ext hx_; clear hx_) | ((with_reducible apply wq_build0 build_z16); exact rfl) | ((first | ((with_reducible show wpList _ _ _ (Oper.mk _ (Op.alloc _) _ _ _ _ :: _) _ _); first | ((with_reducible apply wq_new hm); (exact rfl); infer_instance) | fail)); clear hm; (first | (have hx_ := g1; clear hx_; (first | (have hx_ := g2; clear hx_; (first | (have hx_ := g3; clear hx_; (first | (have hx_ := g4; clear hx_; (first | (have hx_ := g5; clear hx_; (first | (have hx_ := g6; clear hx_; (first | (have hx_ := g7; clear hx_; (first | (have hx_ := g8; clear hx_; (first | (have hx_ := g9; clear hx_; intro g10) | intro g9)) | intro g8)) | intro g7)) | intro g6)) | intro g5)) | intro g4)) | intro g3)) | intro g2)) | intro g1); intro w hm) | fail)
          have kr := fun wx (hwx : Ext w wx) => KeyR.own (g := g) (gt := gt) (gb := gb) OKK.out (hm.ext hwx) (by repeat (first | exact Has.hd | assumption | apply Has.tl)) (by repeat (first | exact Has.hd | assumption | apply Has.tl))
          have hx0 := hm.x
          refine region_at 9 (fun w' => Ext _ w') 53 (by kernel_rfl) (by kernel_rfl) rfl (fun _ _ h k => h.trans k) (drew_ext _) ?_
          simp only [List.take_succ_cons, List.take_zero, List.drop_succ_cons, List.drop_zero, List.map_cons, List.map_nil]
          repeat (first
              | (apply walk_is rfl rfl rfl
                 · (intro wx hwx; first | ((with_reducible show gives _ _ _ (Sem.run _ (execOp _ (Oper.mk _ (Op.load _ _) _ _ _ _)) _)); first | ((with_reducible apply gq_ldv (hm.ext hwx)); infer_instance; (exact rfl); (focus ((repeat (first | exact .hd | assumption | apply Has.tl)); done)); (focus (first | omega | (simp; omega) | (refine Nat.lt_of_lt_of_le (BitVec.isLt _) ?_; first | omega | (simp; done) | (simp; omega) | fail) | fail))) | ((with_reducible apply gq_ldW (hm.ext hwx)); infer_instance; (exact rfl); (focus ((repeat (first | exact .hd | assumption | apply Has.tl)); done)); (focus (first | rfl | omega | (simp; done) | (simp; omega) | fail))) | ((with_reducible apply gq_ld1 (hm.ext hwx)); infer_instance; (exact rfl); (focus ((repeat (first | exact .hd | assumption | apply Has.tl)); done)); (exact rfl)) | fail) | (go_simp; (try go_bits); first | exact gives_same | exact gives_skip | with_reducible exact gives_call (PK.out wx g (kr wx hwx) (HQ.out.ext (hx0.trans hwx))) | with_reducible exact gives_call (AW.out wx (hx0.trans hwx))))
                 · (simp only [Act.put, List.setIfInBounds_toArray, List.set_cons_succ, List.set_cons_zero]; rfl))
              | (apply walk_not rfl rfl rfl
                 · (simp only [Act.put, List.setIfInBounds_toArray, List.set_cons_succ, List.set_cons_zero]; rfl)))
          intro wz hwz
          simp only [List.zip_cons_cons, List.zip_nil_right]
          repeat (first | rw [fin_is] | (rw [fin_cons]; intro _ _))
          rw [fin_nil]
          try (replace hm := hm.ext hwz)
          simp only [Act.put, List.setIfInBounds_toArray, List.set_cons_succ, List.set_cons_zero]
          go_wp2_with fail
          go_ret
          exact ⟨rfl, hm.x⟩
        · have a4 : decide ((-1 : Int) ≤ j) = true := decide_eq_true (by omega)
          have a5 : decide (j ≥ -1) = true := decide_eq_true (by omega)
          have PR := Lib.hid fun (wx : World) (h' : RdB wx q b) => rpart_any (rkL K) (eZ K j) (eZ_length K j) lR j b q d wx h' hbc hb2 (fun wy _ m x h1 h2 h3 => re_any K j m x h1 wy OKK.out (by omega) h2 hj1 h3)
          have lD := partG_length (eZ K j) b
          have PK := Lib.hid pk
          clear pn pk RE
          generalize partG (eZ K j) b = D at *
          generalize rkL K = R at *
          generalize tabs = T at *
          go_enter Tryd.func3, Tryd.ntmps3
          go_wp2_with (first | (go_at_call 19; (with_reducible refine (CR.out _).mono ?_); rintro e_ w_ ⟨rfl, rfl⟩) | fail)
          refine (KO.out hR _ (HK.out.ext hm.x) (HC.out.ext hm.x) (HB.out.ext hm.x)).mono ?_
          rintro e w ⟨g, gt, gb, rfl, hg_, hgt_, hne_, hrk_, hrt_, hx_⟩
          replace hm := hm.push2 hx_ hgt_ hrt_ hg_ hrk_ hne_
          clear hx_ hg_ hgt_ hne_ hrk_ hrt_
          go_wp2_with (first | (go_at_call 21; (with_reducible refine (PN.out _ (HQ.out.ext hm.x)).mono ?_); rintro e_ w ⟨rfl, hx_⟩; replace hm := hm.ext hx_; clear hx_) | ((with_reducible apply wq_build0 build_z16); exact rfl) | (go_at_call 24; (with_reducible refine (MK.out _).mono ?_); rintro e_ w ⟨rfl, hx_⟩; replace hm := hm.ext hx_; clear hx_) | (go_at_call 23; (with_reducible refine (RX.out _ (HK.out.ext hm.x)).mono ?_); rintro e_ w ⟨rfl, hx_⟩; replace hm := hm.ext hx_; clear hx_) | (go_at_call 22; (with_reducible refine (PR.out _ (HQ.out.ext hm.x)).mono ?_); rintro e_ w ⟨rfl, hx_⟩; replace hm := hm.ext hx_; clear hx_) | ((((with_reducible show wpList _ _ _ (Oper.mk _ (Op.store _ _ _) _ _ _ _ :: _) _ _); first | ((with_reducible apply wq_stW hm); (exact rfl); infer_instance; (exact rfl); (exact rfl); (focus ((repeat (first | exact .hd | assumption | apply Swap.tl)); done)); (focus (first | rfl | omega | (simp; done) | (simp; omega) | fail)); (focus (first | rfl | omega | (simp; done) | (simp; omega) | fail)); (focus (first | exact one_map _ | (simp [one8, one32, one64]; done) | fail))) | fail)); clear hm; intro w hm) | ((first | ((with_reducible show wpList _ _ _ (Oper.mk _ (Op.alloc _) _ _ _ _ :: _) _ _); first | ((with_reducible apply wq_new hm); (exact rfl); infer_instance) | fail)); clear hm; (first | (have hx_ := g1; clear hx_; (first | (have hx_ := g2; clear hx_; (first | (have hx_ := g3; clear hx_; (first | (have hx_ := g4; clear hx_; (first | (have hx_ := g5; clear hx_; (first | (have hx_ := g6; clear hx_; (first | (have hx_ := g7; clear hx_; (first | (have hx_ := g8; clear hx_; (first | (have hx_ := g9; clear hx_; intro g10) | intro g9)) | intro g8)) | intro g7)) | intro g6)) | intro g5)) | intro g4)) | intro g3)) | intro g2)) | intro g1); intro w hm) | fail)
          have kr := fun wx (hwx : Ext w wx) => KeyR.own (g := g) (gt := gt) (gb := gb) OKK.out (hm.ext hwx) (by repeat (first | exact Has.hd | assumption | apply Has.tl)) (by repeat (first | exact Has.hd | assumption | apply Has.tl))
          have hx0 := hm.x
          refine region_at 9 (fun w' => Ext _ w') 53 (by kernel_rfl) (by kernel_rfl) rfl (fun _ _ h k => h.trans k) (drew_ext _) ?_
          simp only [List.take_succ_cons, List.take_zero, List.drop_succ_cons, List.drop_zero, List.map_cons, List.map_nil]
          repeat (first
              | (apply walk_is rfl rfl rfl
                 · (intro wx hwx; first | ((with_reducible show gives _ _ _ (Sem.run _ (execOp _ (Oper.mk _ (Op.load _ _) _ _ _ _)) _)); first | ((with_reducible apply gq_ldv (hm.ext hwx)); infer_instance; (exact rfl); (focus ((repeat (first | exact .hd | assumption | apply Has.tl)); done)); (focus (first | omega | (simp; omega) | (refine Nat.lt_of_lt_of_le (BitVec.isLt _) ?_; first | omega | (simp; done) | (simp; omega) | fail) | fail))) | ((with_reducible apply gq_ldW (hm.ext hwx)); infer_instance; (exact rfl); (focus ((repeat (first | exact .hd | assumption | apply Has.tl)); done)); (focus (first | rfl | omega | (simp; done) | (simp; omega) | fail))) | ((with_reducible apply gq_ld1 (hm.ext hwx)); infer_instance; (exact rfl); (focus ((repeat (first | exact .hd | assumption | apply Has.tl)); done)); (exact rfl)) | fail) | (go_simp; (try go_bits); first | exact gives_same | exact gives_skip | with_reducible exact gives_call (PK.out wx g (kr wx hwx) (HQ.out.ext (hx0.trans hwx))) | with_reducible exact gives_call (AW.out wx (hx0.trans hwx))))
                 · (simp only [Act.put, List.setIfInBounds_toArray, List.set_cons_succ, List.set_cons_zero]; rfl))
              | (apply walk_not rfl rfl rfl
                 · (simp only [Act.put, List.setIfInBounds_toArray, List.set_cons_succ, List.set_cons_zero]; rfl)))
          intro wz hwz
          simp only [List.zip_cons_cons, List.zip_nil_right]
          repeat (first | rw [fin_is] | (rw [fin_cons]; intro _ _))
          rw [fin_nil]
          try (replace hm := hm.ext hwz)
          simp only [Act.put, List.setIfInBounds_toArray, List.set_cons_succ, List.set_cons_zero]
          go_wp2_with fail
          go_ret
          exact ⟨rfl, hm.x⟩
  · have e : rightL key = false := by cases h : rightL key <;> simp_all
    rw [e] at CR
    go_enter Tryd.func3, Tryd.ntmps3
    go_wp2_with (first | (go_at_call 19; (with_reducible refine (CR.out _).mono ?_); rintro e_ w_ ⟨rfl, rfl⟩) | fail)
    go_ret
    exact ⟨rfl, hm.x⟩

end Go.Proofs.YtmgopjeaehmbfaaDoor
