/-
  Layer 15: the statement on keys. Conditions: the program's variables lie as its text lays them.
-/
import Derived.Test.YtiopgmnilchjkaaDoorLawEz1
namespace Go.Proofs.YtiopgmnilchjkaaDoor
open Go Go.RowKit
set_option maxRecDepth 100000
set_option linter.unusedVariables false
set_option linter.unusedSimpArgs false

/-- The part that a number tells, in the document's struct. -/
def rkOff (i : Nat) : Nat := 512 + 16 * i
theorem at_0 (K : KeyP) : K.at 0 = K.i := rfl
theorem at_1 (K : KeyP) : K.at 1 = K.j := rfl
theorem at_2 (K : KeyP) : K.at 2 = K.l := rfl
theorem at_else (K : KeyP) (n : Int) (h : n < 0 ∨ 2 < n) : K.at n = zer 16 := by
  rw [KeyP.at, if_neg (by omega), if_neg (by omega), if_neg (by omega)]

set_option maxHeartbeats 8000000 in
theorem ezkeys_walk (key : List Byte) (p : Option Addr) (c : Nat) (n : Int) (w0 : World) (hk : RdB w0 p key) (hkc : key.length ≤ c) (hkm : key.length ≤ maxLen) (hn0 : -9223372036854775808 ≤ n) (hn1 : n ≤ 9223372036854775807) (hc : Coef w0 ∧ CoefB w0) :
    Calls Tryd.prog 3 #[.slice p key.length c, .int .i64 n] w0 fun e w' => e = .returned (.bool true) ∧ Ext w0 w' := by
  have hm := Own.start w0
  have HC := Lib.hid hc.1
  have HB := Lib.hid hc.2
  have HK := Lib.hid hk
  have CR := Lib.hid fun w => right15_any key p c w
  have KB := Lib.hid fun (h : rightL key = false) (w : World) (h1 : Coef w) => keys15_bad key p c w h h1
  have KO := Lib.hid fun (h : rightL key = true) (w : World) (h1 : RdB w p key) (h2 : Coef w) (h3 : CoefB w) => keys15_ok key p c w h hkc h1 h2 h3
  have XB := Lib.hid fun (h : rightL key = false) (w : World) (g : Nat) => ext_bad g p key.length c w (by simp only [rightL, Bool.and_eq_false_iff, decide_eq_false_iff_not] at h; omega)
  have XO := Lib.hid fun (h : rightL key = true) (w : World) (gt gb : Nat) (h1 : RdB w p key) (h3 : CoefB w) (h4 : Row w gt 105 (tcells gb mixT unmixT)) => ext_ok gt gb key p c w (by simp [rightL] at h; omega) (by simp [rightL] at h; omega) hkc h1 h3 h4
  have XN := Lib.hid fun (w : World) => ext_none p key.length c w
  have AW := Lib.hid fun (w : World) (h : Ext w0 w) => awake15 w ⟨hc.1.ext h, hc.2.ext h⟩
  have OKK := Lib.hid (keyOf_ok key)
  have RE := Lib.hid fun (h : rightL key = true) (w : World) (h1 : RdB w p key) => rext_any key p c w (by simp [rightL] at h; omega) (by simp [rightL] at h; omega) hkc h1
  have TM := Lib.hid fun (w : World) (h : Ext w0 w) => tabs_make w (hc.1.ext h)
  generalize keyOf key = K at *
  clear hc hk
  by_cases h200 : key.length ≤ 200
  · have a1 : decide ((200 : Int) < (key.length : Int)) = false := decide_eq_false (by omega)
    have a2 : ¬ (200 : Int) < (key.length : Int) := by omega
    cases hR : rightL key with
    | false =>
      rw [hR] at CR
      have lz : (zer (n := 8) 16).length = 16 := zer_length
      go_enter Tryd.func3, Tryd.ntmps3
      go_wp2_with fail
      refine (KB.out hR _ HC.out).mono ?_
      rintro e w ⟨rfl, hx_⟩
      replace hm := hm.ext hx_
      clear hx_
      go_wp2_with fail
      refine (TM.out _ hm.x).mono ?_
      rintro e w ⟨gt, gb, rfl, _, _, hx_⟩
      replace hm := hm.ext hx_
      clear hx_
      go_wp2_with fail
      refine (XB.out hR _ gt).mono ?_
      rintro e w' ⟨rfl, rfl⟩
      go_wp2_with fail
      refine (XN.out _).mono ?_
      rintro e w' ⟨rfl, rfl⟩
      go_wp2_with (first | (go_at_call 19; (with_reducible refine (CR.out _).mono ?_); rintro e_ w_ ⟨rfl, rfl⟩) | (go_at_call 20; (with_reducible refine (part_nil _ _).mono ?_); rintro e_ w ⟨rfl, hx_⟩; replace hm := hm.ext hx_; clear hx_) | ((with_reducible apply wq_build0 build_z16); exact rfl) | (go_at_call 21; (with_reducible refine (AW.out _ hm.x).mono ?_); rintro e_ w ⟨rfl, hx_⟩; replace hm := hm.ext hx_; clear hx_) | fail)
      go_ret
      exact ⟨rfl, hm.x⟩
    | true =>
      rw [hR] at CR
      have li := OKK.out.hi
      have lj := OKK.out.hj
      have ll := OKK.out.hl
      have lz : (zer (n := 8) 16).length = 16 := zer_length
      have RI := Lib.hid (rk_cells (rk_i OKK.out))
      have RJ := Lib.hid (rk_cells (rk_j OKK.out))
      have RL := Lib.hid (rk_cells (rk_l OKK.out))
      have lR := rkL_length OKK.out
      have PT0 : Hid (∀ (wx : World) (g : Nat), KeyR wx g K → Gives Tryd.prog 20 #[.pointer (some ⟨g, 0, none⟩), .int .i64 0] wx (A8 K.i)) := Lib.hid fun wx g h => part_any g K 0 wx h
      have PT1 : Hid (∀ (wx : World) (g : Nat), KeyR wx g K → Gives Tryd.prog 20 #[.pointer (some ⟨g, 0, none⟩), .int .i64 1] wx (A8 K.j)) := Lib.hid fun wx g h => part_any g K 1 wx h
      have PT2 : Hid (∀ (wx : World) (g : Nat), KeyR wx g K → Gives Tryd.prog 20 #[.pointer (some ⟨g, 0, none⟩), .int .i64 2] wx (A8 K.l)) := Lib.hid fun wx g h => part_any g K 2 wx h
      have PTN := Lib.hid fun (h : n < 0 ∨ 2 < n) (wx : World) (g : Nat) (hk : KeyR wx g K) => at_else K n h ▸ part_any g K n wx hk
      have MK := Lib.hid fun wx => rmake_any wx
      generalize rkL K = R at *
      generalize tabs = T at *
      go_enter Tryd.func3, Tryd.ntmps3
      go_wp2_with fail
      refine (KO.out hR _ HK.out HC.out HB.out).mono ?_
      rintro e w ⟨g, gt, gb, rfl, hg_, hgt_, hne_, hrk_, hrt_, hx_⟩
      replace hm := hm.push2 hx_ hgt_ hrt_ hg_ hrk_ hne_
      clear hx_ hg_ hgt_ hne_ hrk_ hrt_
      go_wp2_with fail
      refine (TM.out _ hm.x).mono ?_
      rintro e w ⟨gt2, gb2, rfl, _, hrt2, hx_⟩
      replace hm := hm.ext hx_
      clear hx_
      go_wp2_with fail
      refine (XO.out hR _ gt2 gb2 (HK.out.ext hm.x) (HB.out.ext hm.x) hrt2).mono ?_
      rintro e w ⟨g2, rfl, _, _, hx_⟩
      replace hm := hm.ext hx_
      clear hx_ hrt2
      go_wp2_with fail
      refine (XN.out _).mono ?_
      rintro e w' ⟨rfl, rfl⟩
      go_wp2_with (first | (go_at_call 19; (with_reducible refine (CR.out _).mono ?_); rintro e_ w_ ⟨rfl, rfl⟩) | (go_at_call 23; (with_reducible refine (MK.out _).mono ?_); rintro e_ w ⟨rfl, hx_⟩; replace hm := hm.ext hx_; clear hx_) | (go_at_call 22; (with_reducible refine (RE.out hR _ (HK.out.ext hm.x)).mono ?_); rintro e_ w ⟨rfl, hx_⟩; replace hm := hm.ext hx_; clear hx_) | ((((with_reducible show wpList _ _ _ (Oper.mk _ (Op.store _ _ _) _ _ _ _ :: _) _ _); first | ((with_reducible apply wq_stW hm); (exact rfl); infer_instance; (exact rfl); (exact rfl); (focus ((repeat (first | exact .hd | assumption | apply Swap.tl)); done)); (focus (first | rfl | omega | (simp; done) | (simp; omega) | fail)); (focus (first | rfl | omega | (simp; done) | (simp; omega) | fail)); (focus (first | exact one_map _ | (simp [one8, one32, one64]; done) | fail))) | fail)); clear hm; intro w hm) | ((first | ((with_reducible show wpList _ _ _ (Oper.mk _ (Op.alloc _) _ _ _ _ :: _) _ _); first | ((with_reducible apply wq_new hm); (exact rfl); infer_instance) | fail)); clear hm; (first | (have hx_ := g1; clear hx_; (first | (have hx_ := g2; clear hx_; (first | (have hx_ := g3; clear hx_; (first | (have hx_ := g4; clear hx_; (first | (have hx_ := g5; clear hx_; (first | (have hx_ := g6; clear hx_; (first | (have hx_ := g7; clear hx_; (first | (have hx_ := g8; clear hx_; (first | (have hx_ := g9; clear hx_; intro g10) | intro g9)) | intro g8)) | intro g7)) | intro g6)) | intro g5)) | intro g4)) | intro g3)) | intro g2)) | intro g1); intro w hm) | fail)
      go_loopw [12] (fun v wr => ∃ k : Nat, k ≤ 3 ∧ v = .int .i64 k ∧ Own w0 wr [⟨g1, 40, R.map v8⟩, ⟨g, 80, kcells gt K⟩, ⟨gt, 105, tcells gb mixT unmixT⟩]) (fun v _ => 3 - (intOf v).toNat)
      case atStart => exact ⟨0, by omega, rfl, hm⟩
      case round =>
        obtain ⟨k, hk3, rfl, hm⟩ := hrel
        have kr := fun wx (hwx : Ext wr wx) => KeyR.own (g := g) (gt := gt) (gb := gb) OKK.out (hm.ext hwx) (by repeat (first | exact Has.hd | assumption | apply Has.tl)) (by repeat (first | exact Has.hd | assumption | apply Has.tl))
        rcases (show k = 0 ∨ k = 1 ∨ k = 2 ∨ k = 3 by omega) with rfl | rfl | rfl | rfl
        · go_wp2_with fail
          refine region_at 8 (fun w' => Ext _ w') 89 (by kernel_rfl) (by kernel_rfl) rfl (fun _ _ h k => h.trans k) (drew_ext _) ?_
          simp only [List.take_succ_cons, List.take_zero, List.drop_succ_cons, List.drop_zero, List.map_cons, List.map_nil]
          repeat (first
              | (apply walk_is rfl rfl rfl; (intro wx hwx; (with_reducible apply gq_ldN (hm.ext hwx)); infer_instance; (exact rfl); (focus ((repeat (first | exact .hd | assumption | apply Has.tl)); done)); (exact RI.out); (exact ((List.length_map ..).trans li))); (simp only [Act.put, List.setIfInBounds_toArray, List.set_cons_succ, List.set_cons_zero]; rfl))
              | (apply walk_is rfl rfl rfl
                 · (intro wx hwx; first | ((with_reducible show gives _ _ _ (Sem.run _ (execOp _ (Oper.mk _ (Op.load _ _) _ _ _ _)) _)); first | ((with_reducible apply gq_ldv (hm.ext hwx)); infer_instance; (exact rfl); (focus ((repeat (first | exact .hd | assumption | apply Has.tl)); done)); (focus (first | omega | (simp; omega) | (refine Nat.lt_of_lt_of_le (BitVec.isLt _) ?_; first | omega | (simp; done) | (simp; omega) | fail) | fail))) | ((with_reducible apply gq_ldW (hm.ext hwx)); infer_instance; (exact rfl); (focus ((repeat (first | exact .hd | assumption | apply Has.tl)); done)); (focus (first | rfl | omega | (simp; done) | (simp; omega) | fail))) | ((with_reducible apply gq_ld1 (hm.ext hwx)); infer_instance; (exact rfl); (focus ((repeat (first | exact .hd | assumption | apply Has.tl)); done)); (exact rfl)) | fail) | (go_simp; (try go_bits); first | exact gives_same | exact gives_skip | with_reducible exact gives_call (PT0.out wx g (kr wx hwx))))
                 · (simp only [Act.put, List.setIfInBounds_toArray, List.set_cons_succ, List.set_cons_zero]; rfl))
              | (apply walk_not rfl rfl rfl
                 · (simp only [Act.put, List.setIfInBounds_toArray, List.set_cons_succ, List.set_cons_zero]; rfl)))
          intro wz hwz
          simp only [List.zip_cons_cons, List.zip_nil_right]
          repeat (first | rw [fin_is] | (rw [fin_cons]; intro _ _))
          rw [fin_nil]
          try (replace hm := hm.ext hwz)
          simp only [Act.put, List.setIfInBounds_toArray, List.set_cons_succ, List.set_cons_zero]
          clear kr
          go_wp2_with fail
          go_roundw
          case rel => exact ⟨1, by omega, rfl, hm⟩
          case measure => simp [intOf] <;> omega
        · go_wp2_with fail
          refine region_at 8 (fun w' => Ext _ w') 89 (by kernel_rfl) (by kernel_rfl) rfl (fun _ _ h k => h.trans k) (drew_ext _) ?_
          simp only [List.take_succ_cons, List.take_zero, List.drop_succ_cons, List.drop_zero, List.map_cons, List.map_nil]
          repeat (first
              | (apply walk_is rfl rfl rfl; (intro wx hwx; (with_reducible apply gq_ldN (hm.ext hwx)); infer_instance; (exact rfl); (focus ((repeat (first | exact .hd | assumption | apply Has.tl)); done)); (exact RJ.out); (exact ((List.length_map ..).trans lj))); (simp only [Act.put, List.setIfInBounds_toArray, List.set_cons_succ, List.set_cons_zero]; rfl))
              | (apply walk_is rfl rfl rfl
                 · (intro wx hwx; first | ((with_reducible show gives _ _ _ (Sem.run _ (execOp _ (Oper.mk _ (Op.load _ _) _ _ _ _)) _)); first | ((with_reducible apply gq_ldv (hm.ext hwx)); infer_instance; (exact rfl); (focus ((repeat (first | exact .hd | assumption | apply Has.tl)); done)); (focus (first | omega | (simp; omega) | (refine Nat.lt_of_lt_of_le (BitVec.isLt _) ?_; first | omega | (simp; done) | (simp; omega) | fail) | fail))) | ((with_reducible apply gq_ldW (hm.ext hwx)); infer_instance; (exact rfl); (focus ((repeat (first | exact .hd | assumption | apply Has.tl)); done)); (focus (first | rfl | omega | (simp; done) | (simp; omega) | fail))) | ((with_reducible apply gq_ld1 (hm.ext hwx)); infer_instance; (exact rfl); (focus ((repeat (first | exact .hd | assumption | apply Has.tl)); done)); (exact rfl)) | fail) | (go_simp; (try go_bits); first | exact gives_same | exact gives_skip | with_reducible exact gives_call (PT1.out wx g (kr wx hwx))))
                 · (simp only [Act.put, List.setIfInBounds_toArray, List.set_cons_succ, List.set_cons_zero]; rfl))
              | (apply walk_not rfl rfl rfl
                 · (simp only [Act.put, List.setIfInBounds_toArray, List.set_cons_succ, List.set_cons_zero]; rfl)))
          intro wz hwz
          simp only [List.zip_cons_cons, List.zip_nil_right]
          repeat (first | rw [fin_is] | (rw [fin_cons]; intro _ _))
          rw [fin_nil]
          try (replace hm := hm.ext hwz)
          simp only [Act.put, List.setIfInBounds_toArray, List.set_cons_succ, List.set_cons_zero]
          clear kr
          go_wp2_with fail
          go_roundw
          case rel => exact ⟨2, by omega, rfl, hm⟩
          case measure => simp [intOf] <;> omega
        · go_wp2_with fail
          refine region_at 8 (fun w' => Ext _ w') 89 (by kernel_rfl) (by kernel_rfl) rfl (fun _ _ h k => h.trans k) (drew_ext _) ?_
          simp only [List.take_succ_cons, List.take_zero, List.drop_succ_cons, List.drop_zero, List.map_cons, List.map_nil]
          repeat (first
              | (apply walk_is rfl rfl rfl; (intro wx hwx; (with_reducible apply gq_ldN (hm.ext hwx)); infer_instance; (exact rfl); (focus ((repeat (first | exact .hd | assumption | apply Has.tl)); done)); (exact RL.out); (exact ((List.length_map ..).trans ll))); (simp only [Act.put, List.setIfInBounds_toArray, List.set_cons_succ, List.set_cons_zero]; rfl))
              | (apply walk_is rfl rfl rfl
                 · (intro wx hwx; first | ((with_reducible show gives _ _ _ (Sem.run _ (execOp _ (Oper.mk _ (Op.load _ _) _ _ _ _)) _)); first | ((with_reducible apply gq_ldv (hm.ext hwx)); infer_instance; (exact rfl); (focus ((repeat (first | exact .hd | assumption | apply Has.tl)); done)); (focus (first | omega | (simp; omega) | (refine Nat.lt_of_lt_of_le (BitVec.isLt _) ?_; first | omega | (simp; done) | (simp; omega) | fail) | fail))) | ((with_reducible apply gq_ldW (hm.ext hwx)); infer_instance; (exact rfl); (focus ((repeat (first | exact .hd | assumption | apply Has.tl)); done)); (focus (first | rfl | omega | (simp; done) | (simp; omega) | fail))) | ((with_reducible apply gq_ld1 (hm.ext hwx)); infer_instance; (exact rfl); (focus ((repeat (first | exact .hd | assumption | apply Has.tl)); done)); (exact rfl)) | fail) | (go_simp; (try go_bits); first | exact gives_same | exact gives_skip | with_reducible exact gives_call (PT2.out wx g (kr wx hwx))))
                 · (simp only [Act.put, List.setIfInBounds_toArray, List.set_cons_succ, List.set_cons_zero]; rfl))
              | (apply walk_not rfl rfl rfl
                 · (simp only [Act.put, List.setIfInBounds_toArray, List.set_cons_succ, List.set_cons_zero]; rfl)))
          intro wz hwz
          simp only [List.zip_cons_cons, List.zip_nil_right]
          repeat (first | rw [fin_is] | (rw [fin_cons]; intro _ _))
          rw [fin_nil]
          try (replace hm := hm.ext hwz)
          simp only [Act.put, List.setIfInBounds_toArray, List.set_cons_succ, List.set_cons_zero]
          clear kr
          go_wp2_with fail
          go_roundw
          case rel => exact ⟨3, by omega, rfl, hm⟩
          case measure => simp [intOf] <;> omega
        · clear kr
          by_cases hn2 : 0 ≤ n
          · have b1 : decide ((0 : Int) ≤ n) = true := decide_eq_true hn2
            have b2 : decide (n ≥ 0) = true := decide_eq_true hn2
            by_cases hn3 : n ≤ 2
            · have b3 : decide (n ≤ 2) = true := decide_eq_true hn3
              go_wp2_with (first | (go_at_call 21; (with_reducible refine (AW.out _ hm.x).mono ?_); rintro e_ w ⟨rfl, hx_⟩; replace hm := hm.ext hx_; clear hx_) | fail)
              go_ret
              exact ⟨rfl, hm.x⟩
            · have b3 : decide (n ≤ 2) = false := decide_eq_false hn3
              have PQ := Lib.hid (PTN.out (by omega))
              go_wp2_with (first | (go_at_call 20; (with_reducible refine (PQ.out _ g (KeyR.own (g := g) (gt := gt) (gb := gb) OKK.out hm (by repeat (first | exact Has.hd | assumption | apply Has.tl)) (by repeat (first | exact Has.hd | assumption | apply Has.tl)))).mono ?_); rintro e_ w ⟨rfl, hx_⟩; replace hm := hm.ext hx_; clear hx_) | ((with_reducible apply wq_build0 build_z16); exact rfl) | (go_at_call 21; (with_reducible refine (AW.out _ hm.x).mono ?_); rintro e_ w ⟨rfl, hx_⟩; replace hm := hm.ext hx_; clear hx_) | fail)
              go_ret
              exact ⟨rfl, hm.x⟩
          · have b1 : decide ((0 : Int) ≤ n) = false := decide_eq_false hn2
            have b2 : decide (n ≥ 0) = false := decide_eq_false hn2
            have PQ := Lib.hid (PTN.out (by omega))
            go_wp2_with (first | (go_at_call 20; (with_reducible refine (PQ.out _ g (KeyR.own (g := g) (gt := gt) (gb := gb) OKK.out hm (by repeat (first | exact Has.hd | assumption | apply Has.tl)) (by repeat (first | exact Has.hd | assumption | apply Has.tl)))).mono ?_); rintro e_ w ⟨rfl, hx_⟩; replace hm := hm.ext hx_; clear hx_) | ((with_reducible apply wq_build0 build_z16); exact rfl) | (go_at_call 21; (with_reducible refine (AW.out _ hm.x).mono ?_); rintro e_ w ⟨rfl, hx_⟩; replace hm := hm.ext hx_; clear hx_) | fail)
            go_ret
            exact ⟨rfl, hm.x⟩
  · have a1 : decide ((200 : Int) < (key.length : Int)) = true := decide_eq_true (by omega)
    have a2 : (200 : Int) < (key.length : Int) := by omega
    go_enter Tryd.func3, Tryd.ntmps3
    go_wp2_with fail
    go_ret
    exact ⟨rfl, hm.x⟩

end Go.Proofs.YtiopgmnilchjkaaDoor
