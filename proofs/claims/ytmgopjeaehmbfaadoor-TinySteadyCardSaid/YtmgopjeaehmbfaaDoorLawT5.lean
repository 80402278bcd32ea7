/-
  Layer 19: the statement on messages that are flipped. Conditions: the program's variables lie as its text lays them.
-/
import Derived.Test.YtmgopjeaehmbfaaDoorLawT1
namespace Go.Proofs.YtmgopjeaehmbfaaDoor
open Go Go.RowKit
set_option maxRecDepth 100000
set_option linter.unusedVariables false
set_option linter.unusedSimpArgs false

theorem gq_cellT {P : Program} {a : Act} {w : World} {dst : Option Tmp} {ty : TypeId} {pos : String} {aft : Array Edge} {gd : Option (Nat × Bool)} {T : TypeId} {x : Operand} {p : Addr} {v : Value} (hc : w.cell? p = some v) (hT : One1 P T) (hx : a.eval x = .pointer (some p)) : gives P w (Is v) ((execOp a.eval (Oper.mk dst (.load T x) ty pos aft gd)).run P w) := by
  obtain ⟨d, hu, hd⟩ := Option.map_eq_some_iff.1 hT.row
  have hagg : (isAgg T).run P w = .ok false w := by
    unfold isAgg
    rw [Sem.run_bind, run_underlying hu w]
    cases d <;> simp_all
  have hr : (Instr.loadAt T (.pointer (some p))).run P w = .ok v w := by simp [Instr.loadAt, Instr.sureAddr, loadVar, Sem.run_bind, hagg, hc]
  unfold execOp
  simp only [hx, Sem.run_bind, hr, Result.andThen_ok, Sem.run_pure]
  exact gives_same
theorem flip_any (g : Nat) (F : Int → Int → List Byte → List Byte) (hF : ∀ j m x, (F j m x).length = 16) (h : List Byte) (hh : h.length = 16) (l : List Byte) (p : Option Addr) (c : Nat) (hl : l.length ≤ 1000) (w0 : World) (hr : RdB w0 p l)
    (CE : ∀ wx, Ext w0 wx → ∀ (j m : Int) (x : List Byte), x.length = 16 → j ≤ 9223372036854775807 → m ≤ 9223372036854775807 → Gives Tryd.prog 29 #[.pointer (some ⟨g, 0, none⟩), .int .i64 j, .int .i64 m, A8 x] wx (A8 (F j m x))) :
    GivesR Tryd.prog 43 #[.pointer (some ⟨g, 0, none⟩), A8 h, .slice p l.length c] w0 (BytesS (flipL F h l)) := by
  refine (flip_sl g F hF h hh l p c hl w0 hr CE).mono ?_
  rintro e w' ⟨v, M, rfl, hs, hm⟩
  obtain ⟨q, d, rfl⟩ := hs.form
  obtain ⟨h1, h2, h3⟩ := slo_bytes (R := []) hs (by simpa using hm)
  exact ⟨_, rfl, ⟨q, d, by rw [h2], by rw [← h2]; exact h3, h1⟩, hm.x⟩
set_option maxHeartbeats 8000000 in
theorem tflips_walk (key : List Byte) (p : Option Addr) (c : Nat) (H : List Byte) (m : List Byte) (r : Option Addr) (f : Nat) (w0 : World) (hk : RdB w0 p key) (hkc : key.length ≤ c) (hkm : key.length ≤ maxLen) (lH : H.length = 16) (hr : RdB w0 r m) (hrf : m.length ≤ f) (hrm : m.length ≤ maxLen) (hc : Coef w0 ∧ CoefB w0) :
    Calls Tryd.prog 16 #[.slice p key.length c, A8 H, .slice r m.length f] w0 fun e w' => e = .returned (.bool true) ∧ Ext w0 w' := by
  have hm := Own.start w0
  have HC := Lib.hid hc.1
  have HB := Lib.hid hc.2
  have HK := Lib.hid hk
  have HM := Lib.hid hr
  have CR := Lib.hid fun w => right15_any key p c w
  have KO := Lib.hid fun (h : rightL key = true) (w : World) (h1 : RdB w p key) (h2 : Coef w) (h3 : CoefB w) => keys19_ok key p c w h hkc h1 h2 h3
  have AW := Lib.hid fun (w : World) (h : Ext w0 w) => awake19 w ⟨hc.1.ext h, hc.2.ext h⟩
  have OKK := Lib.hid (keyOf_ok key)
  clear hc hk hr
  generalize keyOf key = K at *
  by_cases hR : rightL key = true
  · rw [hR] at CR
    by_cases h3 : 100 < m.length
    · have a3 : decide ((100 : Int) < (m.length : Int)) = true := decide_eq_true (by omega)
      have a4 : (100 : Int) < (m.length : Int) := by omega
      go_enter Tryd.func16, Tryd.ntmps16
      go_wp2_with (first | (go_at_call 19; (with_reducible refine (CR.out _).mono ?_); rintro e_ w_ ⟨rfl, rfl⟩) | ((first | ((with_reducible show wpList _ _ _ (Oper.mk _ (Op.box _ _) _ _ _ _ :: _) _ _); first | ((with_reducible apply wq_boxN hm); (exact rfl); (exact rfl)) | fail)); clear hm; (first | (have hx_ := g1; clear hx_; (first | (have hx_ := g2; clear hx_; (first | (have hx_ := g3; clear hx_; (first | (have hx_ := g4; clear hx_; (first | (have hx_ := g5; clear hx_; (first | (have hx_ := g6; clear hx_; (first | (have hx_ := g7; clear hx_; (first | (have hx_ := g8; clear hx_; (first | (have hx_ := g9; clear hx_; intro g10) | intro g9)) | intro g8)) | intro g7)) | intro g6)) | intro g5)) | intro g4)) | intro g3)) | intro g2)) | intro g1); intro w hm) | fail)
      go_ret
      exact ⟨rfl, hm.x⟩
    · have a3 : decide ((100 : Int) < (m.length : Int)) = false := decide_eq_false (by omega)
      have a4 : ¬ (100 : Int) < (m.length : Int) := by omega
      obtain ⟨D, hD⟩ : ∃ D, D = flipL (eZ K) H m := ⟨_, rfl⟩
      have lD : D.length = m.length := by rw [hD]; exact flipL_length _ _ _
      have F1 := Lib.hid fun (w : World) (g : Nat) (h : KeyR w g K) (hr : RdB w r m) => show GivesR Tryd.prog 43 #[.pointer (some ⟨g, 0, none⟩), A8 H, .slice r m.length f] w (BytesS D) from hD ▸ flip_any g (eZ K) (eZ_length K) H lH m r f (by omega) w hr (fun wx hx j m x e1 e2 e3 => (h.ext hx).e j m x e1 e2 e3)
      have F2 := Lib.hid fun (w : World) (g : Nat) (px : Option Addr) (cx : Nat) (h : KeyR w g K) (hr : RdB w px D) => show GivesR Tryd.prog 43 #[.pointer (some ⟨g, 0, none⟩), A8 H, .slice px m.length cx] w (BytesS m) from by
        have := flip_any g (eZ K) (eZ_length K) H lH D px cx (by omega) w hr (fun wx hx j m x e1 e2 e3 => (h.ext hx).e j m x e1 e2 e3)
        rwa [lD, hD, flipL_twice] at this
      have FN := Lib.hid fun i (hi : i < m.length) (hne : nth D i ≠ nth m i) => hD ▸ flipL_nth (eZ K) H m i hi (hD ▸ hne)
      have LD := Lib.hid lD
      clear hD lD
      go_enter Tryd.func16, Tryd.ntmps16
      go_wp2_with (first | (go_at_call 19; (with_reducible refine (CR.out _).mono ?_); rintro e_ w_ ⟨rfl, rfl⟩) | ((first | ((with_reducible show wpList _ _ _ (Oper.mk _ (Op.box _ _) _ _ _ _ :: _) _ _); first | ((with_reducible apply wq_boxN hm); (exact rfl); (exact rfl)) | fail)); clear hm; (first | (have hx_ := g1; clear hx_; (first | (have hx_ := g2; clear hx_; (first | (have hx_ := g3; clear hx_; (first | (have hx_ := g4; clear hx_; (first | (have hx_ := g5; clear hx_; (first | (have hx_ := g6; clear hx_; (first | (have hx_ := g7; clear hx_; (first | (have hx_ := g8; clear hx_; (first | (have hx_ := g9; clear hx_; intro g10) | intro g9)) | intro g8)) | intro g7)) | intro g6)) | intro g5)) | intro g4)) | intro g3)) | intro g2)) | intro g1); intro w hm) | fail)
      refine (KO.out hR _ (HK.out.ext hm.x) (HC.out.ext hm.x) (HB.out.ext hm.x)).mono ?_
      rintro e w ⟨g, gt, gb, rfl, hg_, hgt_, hne_, hrk_, hrt_, hx_⟩
      replace hm := hm.push2 hx_ hgt_ hrt_ hg_ hrk_ hne_
      clear hx_ hg_ hgt_ hne_ hrk_ hrt_
      go_wp2_with (first | ((with_reducible show wpList _ _ _ (Oper.mk _ (Op.load _ _) _ _ _ _ :: _) _ _); first | ((with_reducible apply wq_ldW hm); (exact rfl); infer_instance; (exact rfl); (focus ((repeat (first | exact .hd | assumption | apply Has.tl)); done)); (focus (first | rfl | omega | (simp; done) | (simp; omega) | fail))) | fail) | fail)
      refine (F1.out _ g (KeyR.own (gt := gt) (gb := gb) OKK.out hm (by repeat (first | exact Has.hd | assumption | apply Has.tl)) (by repeat (first | exact Has.hd | assumption | apply Has.tl))) (HM.out.ext hm.x)).mono ?_
      rintro e w ⟨x, rfl, ⟨px, cx, rfl, hcx, hrx⟩, hx_⟩
      replace hm := hm.ext hx_
      rw [LD.out] at hcx
      have HRX := Lib.hid hrx
      clear hx_ hrx
      have EL := Lib.hid (show (Value.slice px D.length cx) = .slice px m.length cx by rw [LD.out])
      rw [EL.out]
      go_wp2_with fail
      have kr := fun wx (hwx : Ext _ wx) => KeyR.own (g := g) (gt := gt) (gb := gb) OKK.out (hm.ext hwx) (by repeat (first | exact Has.hd | assumption | apply Has.tl)) (by repeat (first | exact Has.hd | assumption | apply Has.tl))
      have hx0 := hm.x
      have c1 := fun wx (hwx : Ext w wx) => F2.out wx g px cx (kr wx hwx) (HRX.out.ext hwx)
      have s1 := fun wx (hwx : Ext w wx) => conv_str r m f wx (HM.out.ext (hx0.trans hwx))
      refine region_at 17 (fun w' => Ext _ w') 84 (by kernel_rfl) (by kernel_rfl) rfl (fun _ _ h k => h.trans k) (drew_ext _) ?_
      simp only [List.take_succ_cons, List.take_zero, List.drop_succ_cons, List.drop_zero, List.map_cons, List.map_nil]
      iterate 17 (first
          | (apply walk_some (BytesS m) 41 (BytesS.stable _) rfl rfl rfl rfl
             · (intro wx hwx; go_simp; with_reducible exact gives_callR (c1 wx hwx)))
          | (apply walk_from (T := [(41, BytesS (m))]) rfl rfl
             · (intro wx hwx; simp only [withS]; (rintro x ⟨p', c', rfl, hlc, hb'⟩; have hcv := conv_str p' (m) c' wx hb'); refine ⟨rfl, ?_⟩; go_simp; exact gives_same)
             · (simp only [Act.put, List.setIfInBounds_toArray, List.set_cons_succ, List.set_cons_zero]; rfl))
          | (apply walk_is rfl rfl rfl
             · (intro wx hwx; first | ((with_reducible show gives _ _ _ (Sem.run _ (execOp _ (Oper.mk _ (Op.load _ _) _ _ _ _)) _)); first | ((with_reducible apply gq_ldv (hm.ext hwx)); infer_instance; (exact rfl); (focus ((repeat (first | exact .hd | assumption | apply Has.tl)); done)); (focus (first | omega | (simp; omega) | (refine Nat.lt_of_lt_of_le (BitVec.isLt _) ?_; first | omega | (simp; done) | (simp; omega) | fail) | fail))) | ((with_reducible apply gq_ldW (hm.ext hwx)); infer_instance; (exact rfl); (focus ((repeat (first | exact .hd | assumption | apply Has.tl)); done)); (focus (first | rfl | omega | (simp; done) | (simp; omega) | fail))) | ((with_reducible apply gq_ld1 (hm.ext hwx)); infer_instance; (exact rfl); (focus ((repeat (first | exact .hd | assumption | apply Has.tl)); done)); (exact rfl)) | fail) | (go_simp; (try go_bits); first | exact gives_same | exact gives_skip))
             · (simp only [Act.put, List.setIfInBounds_toArray, List.set_cons_succ, List.set_cons_zero]; rfl))
          | (apply walk_not rfl rfl rfl
             · (simp only [Act.put, List.setIfInBounds_toArray, List.set_cons_succ, List.set_cons_zero]; rfl)))
      intro wz hwz
      simp only [List.zip_cons_cons, List.zip_nil_right]
      repeat (first | rw [fin_is] | (rw [fin_cons]; intro _ _))
      rw [fin_nil]
      try (replace hm := hm.ext hwz)
      simp only [Act.put, List.setIfInBounds_toArray, List.set_cons_succ, List.set_cons_zero]
      clear kr c1 s1
      have hx1 := hm.x
      have HA := Lib.hid (HRX.out.ext hwz)
      clear hx0 hm
      have hm := Own.start wz
      go_wp2_with fail
      go_loopw [10] (fun i wr => ∃ j : Nat, j ≤ m.length ∧ i = .int .i64 j ∧ Own wz wr []) (fun i _ => m.length - (intOf i).toNat)
      case atStart => exact ⟨0, by omega, rfl, hm⟩
      case round =>
        obtain ⟨j, hj, rfl, hm⟩ := hrel
        by_cases hlt : j < m.length
        · have d1 : decide ((j : Int) < (m.length : Int)) = true := decide_eq_true (by omega)
          have d2 : (j : Int) < (m.length : Int) := by omega
          have d3 : (j : Int) < (cx : Int) := by omega
          obtain ⟨aD, rfl⟩ := Option.isSome_iff_exists.1 (HA.out.1 (by rw [LD.out]; omega))
          obtain ⟨aM, rfl⟩ := Option.isSome_iff_exists.1 (HM.out.1 (by omega))
          have CD := Lib.hid fun wx (h : Ext wz wx) => show wx.cell? (aD.add j) = some (v8 (nth D j)) from (HA.out.ext h).at j (by rw [LD.out]; exact hlt)
          have CM := Lib.hid fun wx (h : Ext wz wx) => show wx.cell? (aM.add j) = some (v8 (nth m j)) from (HM.out.ext (hx1.trans h)).at j hlt
          by_cases he : nth D j = nth m j
          · rw [he] at CD
            generalize nth m j = y at *
            go_wp2_with fail
            have hx0 := hm.x
            refine region_at 29 (fun w' => Ext _ w') 84 (by kernel_rfl) (by kernel_rfl) rfl (fun _ _ h k => h.trans k) (drew_ext _) ?_
            simp only [List.take_succ_cons, List.take_zero, List.drop_succ_cons, List.drop_zero, List.map_cons, List.map_nil]
            iterate 29 (first
                | (apply walk_is rfl rfl rfl; (intro wx hwx; (with_reducible apply gq_cellT (CD.out wx (hx0.trans hwx))); infer_instance; (exact rfl)); (simp only [Act.put, List.setIfInBounds_toArray, List.set_cons_succ, List.set_cons_zero]; rfl))
                | (apply walk_is rfl rfl rfl; (intro wx hwx; (with_reducible apply gq_cellT (CM.out wx (hx0.trans hwx))); infer_instance; (exact rfl)); (simp only [Act.put, List.setIfInBounds_toArray, List.set_cons_succ, List.set_cons_zero]; rfl))
                | (apply walk_is rfl rfl rfl
                   · (intro wx hwx; first | ((with_reducible show gives _ _ _ (Sem.run _ (execOp _ (Oper.mk _ (Op.load _ _) _ _ _ _)) _)); first | ((with_reducible apply gq_ldv (hm.ext hwx)); infer_instance; (exact rfl); (focus ((repeat (first | exact .hd | assumption | apply Has.tl)); done)); (focus (first | omega | (simp; omega) | (refine Nat.lt_of_lt_of_le (BitVec.isLt _) ?_; first | omega | (simp; done) | (simp; omega) | fail) | fail))) | ((with_reducible apply gq_ldW (hm.ext hwx)); infer_instance; (exact rfl); (focus ((repeat (first | exact .hd | assumption | apply Has.tl)); done)); (focus (first | rfl | omega | (simp; done) | (simp; omega) | fail))) | ((with_reducible apply gq_ld1 (hm.ext hwx)); infer_instance; (exact rfl); (focus ((repeat (first | exact .hd | assumption | apply Has.tl)); done)); (exact rfl)) | fail) | (go_simp; (try go_bits); first | exact gives_same | exact gives_skip))
                   · (simp only [Act.put, List.setIfInBounds_toArray, List.set_cons_succ, List.set_cons_zero]; rfl))
                | (apply walk_not rfl rfl rfl
                   · (simp only [Act.put, List.setIfInBounds_toArray, List.set_cons_succ, List.set_cons_zero]; rfl)))
            intro wz hwz
            simp only [List.zip_cons_cons, List.zip_nil_right]
            repeat (first | rw [fin_is] | (rw [fin_cons]; intro _ _))
            rw [fin_nil]
            try (replace hm := hm.ext hwz)
            simp only [Act.put, List.setIfInBounds_toArray, List.set_cons_succ, List.set_cons_zero]
            clear hx0
            go_wp2_with fail
            go_roundw
            case rel => exact ⟨j + 1, by omega, by go_num, hm⟩
            case measure => simp [intOf] <;> omega
          · obtain ⟨z1, z2, z3⟩ := FN.out j hlt he
            subst z1
            rw [z2] at CD he
            have e1 : ((nth m 0 ^^^ 128#8) == nth m 0) = false := by rw [beq_eq_false_iff_ne]; exact he
            have e2 : decide ((15 : Int) < (m.length : Int)) = false := decide_eq_false (by omega)
            have e3 : ¬ (15 : Int) < (m.length : Int) := by omega
            have e4 : decide ((m.length : Int) > 15) = false := decide_eq_false (by omega)
            have e5 : ((nth m 0 ^^^ 128#8) != nth m 0) = true := by rw [bne_iff_ne]; exact he
            generalize nth m 0 = y at *
            go_wp2_with fail
            have hx0 := hm.x
            refine region_at 29 (fun w' => Ext _ w') 84 (by kernel_rfl) (by kernel_rfl) rfl (fun _ _ h k => h.trans k) (drew_ext _) ?_
            simp only [List.take_succ_cons, List.take_zero, List.drop_succ_cons, List.drop_zero, List.map_cons, List.map_nil]
            iterate 29 (first
                | (apply walk_is rfl rfl rfl; (intro wx hwx; (with_reducible apply gq_cellT (CD.out wx (hx0.trans hwx))); infer_instance; (exact rfl)); (simp only [Act.put, List.setIfInBounds_toArray, List.set_cons_succ, List.set_cons_zero]; rfl))
                | (apply walk_is rfl rfl rfl; (intro wx hwx; (with_reducible apply gq_cellT (CM.out wx (hx0.trans hwx))); infer_instance; (exact rfl)); (simp only [Act.put, List.setIfInBounds_toArray, List.set_cons_succ, List.set_cons_zero]; rfl))
                | (apply walk_is rfl rfl rfl
                   · (intro wx hwx; first | ((with_reducible show gives _ _ _ (Sem.run _ (execOp _ (Oper.mk _ (Op.load _ _) _ _ _ _)) _)); first | ((with_reducible apply gq_ldv (hm.ext hwx)); infer_instance; (exact rfl); (focus ((repeat (first | exact .hd | assumption | apply Has.tl)); done)); (focus (first | omega | (simp; omega) | (refine Nat.lt_of_lt_of_le (BitVec.isLt _) ?_; first | omega | (simp; done) | (simp; omega) | fail) | fail))) | ((with_reducible apply gq_ldW (hm.ext hwx)); infer_instance; (exact rfl); (focus ((repeat (first | exact .hd | assumption | apply Has.tl)); done)); (focus (first | rfl | omega | (simp; done) | (simp; omega) | fail))) | ((with_reducible apply gq_ld1 (hm.ext hwx)); infer_instance; (exact rfl); (focus ((repeat (first | exact .hd | assumption | apply Has.tl)); done)); (exact rfl)) | fail) | (go_simp; (try go_bits); first | exact gives_same | exact gives_skip))
                   · (simp only [Act.put, List.setIfInBounds_toArray, List.set_cons_succ, List.set_cons_zero]; rfl))
                | (apply walk_not rfl rfl rfl
                   · (simp only [Act.put, List.setIfInBounds_toArray, List.set_cons_succ, List.set_cons_zero]; rfl)))
            intro wz hwz
            simp only [List.zip_cons_cons, List.zip_nil_right]
            repeat (first | rw [fin_is] | (rw [fin_cons]; intro _ _))
            rw [fin_nil]
            try (replace hm := hm.ext hwz)
            simp only [Act.put, List.setIfInBounds_toArray, List.set_cons_succ, List.set_cons_zero]
            clear hx0
            go_wp2_with fail
            go_roundw
            case rel => exact ⟨0 + 1, by omega, by go_num, hm⟩
            case measure => simp [intOf] <;> omega
        · obtain rfl : j = m.length := by omega
          have d1 : decide ((m.length : Int) < (m.length : Int)) = false := decide_eq_false (by omega)
          go_wp2_with (first | (go_at_call 42; (with_reducible refine (AW.out _ (hx1.trans hm.x)).mono ?_); rintro e_ w ⟨rfl, hx_⟩; replace hm := hm.ext hx_; clear hx_) | fail)
          go_ret
          exact ⟨rfl, hx1.trans hm.x⟩
  · have e : rightL key = false := by cases h : rightL key <;> simp_all
    rw [e] at CR
    go_enter Tryd.func16, Tryd.ntmps16
    go_wp2_with (first | (go_at_call 19; (with_reducible refine (CR.out _).mono ?_); rintro e_ w_ ⟨rfl, rfl⟩) | ((first | ((with_reducible show wpList _ _ _ (Oper.mk _ (Op.box _ _) _ _ _ _ :: _) _ _); first | ((with_reducible apply wq_boxN hm); (exact rfl); (exact rfl)) | fail)); clear hm; (first | (have hx_ := g1; clear hx_; (first | (have hx_ := g2; clear hx_; (first | (have hx_ := g3; clear hx_; (first | (have hx_ := g4; clear hx_; (first | (have hx_ := g5; clear hx_; (first | (have hx_ := g6; clear hx_; (first | (have hx_ := g7; clear hx_; (first | (have hx_ := g8; clear hx_; (first | (have hx_ := g9; clear hx_; intro g10) | intro g9)) | intro g8)) | intro g7)) | intro g6)) | intro g5)) | intro g4)) | intro g3)) | intro g2)) | intro g1); intro w hm) | fail)
    go_ret
    exact ⟨rfl, hm.x⟩

end Go.Proofs.YtmgopjeaehmbfaaDoor
