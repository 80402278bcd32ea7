/-
  Layer 16: the statement on the hash of a row and any number of its bytes. Conditions: the program's variables lie as its text lays them.
-/
import Derived.Test.YtmgopjeaehmbfaaDoorLawHash1
import Derived.Test.YtmgopjeaehmbfaaDoorHash8
namespace Go.Proofs.YtmgopjeaehmbfaaDoor
open Go Go.RowKit
set_option maxRecDepth 100000
set_option linter.unusedVariables false
set_option linter.unusedSimpArgs false

theorem gq_build00 {P : Program} {dst : Option Tmp} {ty : TypeId} {pos : String} {aft : Array Edge} {gd : Option (Nat × Bool)} {a : Act} {w : World} {T : TypeId} {v : Value} (hb : ∀ w, (Instr.build T #[]).run P w = .ok v w) : gives P w (Is v) ((execOp a.eval (Oper.mk dst (.build T #[]) ty pos aft gd)).run P w) := by
  unfold execOp
  simp [hb]
  exact gives_same
set_option maxHeartbeats 16000000 in
theorem hashes16_walk (key : List Byte) (p : Option Addr) (c : Nat) (ls : List (List Byte)) (q : Option Addr) (d : Nat) (n : Int) (w0 : World) (hk : RdB w0 p key) (hkc : key.length ≤ c) (hkm : key.length ≤ maxLen) (hl : RdR w0 q ls) (hld : ls.length ≤ d) (hlm : ls.length ≤ maxLen) (hn0 : -9223372036854775808 ≤ n) (hn1 : n ≤ 9223372036854775807) (hc : Coef w0 ∧ CoefB w0) :
    Calls Tryd.prog 7 #[.slice p key.length c, .slice q ls.length d, .int .i64 n] w0 fun e w' => e = .returned (.bool true) ∧ Ext w0 w' := by
  have hm := Own.start w0
  have HC := Lib.hid hc.1
  have HB := Lib.hid hc.2
  have HK := Lib.hid hk
  have HL := Lib.hid hl
  have CR := Lib.hid fun w => right15_any key p c w
  have FW := Lib.hid fun (w : World) (h : Ext w0 w) => few_any ls q d w hlm (hl.ext h)
  have KO := Lib.hid fun (h : rightL key = true) (w : World) (h1 : RdB w p key) (h2 : Coef w) (h3 : CoefB w) => keys16_ok key p c w h hkc h1 h2 h3
  have AW := Lib.hid fun (w : World) (h : Ext w0 w) => awake16 w ⟨hc.1.ext h, hc.2.ext h⟩
  have OKK := Lib.hid (keyOf_ok key)
  have RE := Lib.hid fun (h : rightL key = true) (w : World) (h1 : RdB w p key) => rext_any key p c w (by simp [rightL] at h; omega) (by simp [rightL] at h; omega) hkc h1
  have MK := Lib.hid fun wx => rmake_any wx
  clear hc hk hl
  generalize keyOf key = K at *
  by_cases hR : rightL key = true
  · rw [hR] at CR
    by_cases h2 : fewB ls = true
    · rw [h2] at FW
      by_cases h3 : 300 < n ∧ n ≤ 65536
      · have a3 : decide ((300 : Int) < n) = true := decide_eq_true h3.1
        have a4 : decide (n ≤ (65536 : Int)) = true := decide_eq_true h3.2
        have a5 := h3.1
        have a6 := h3.2
        clear h3
        go_enter Tryd.func7, Tryd.ntmps7
        go_wp2_with (first | (go_at_call 19; (with_reducible refine (CR.out _).mono ?_); rintro e_ w_ ⟨rfl, rfl⟩) | (go_at_call 26; (with_reducible refine (FW.out _ hm.x).mono ?_); rintro e_ w ⟨rfl, hx_⟩; replace hm := hm.ext hx_; clear hx_) | fail)
        go_ret
        exact ⟨rfl, hm.x⟩
      · obtain ⟨f1, f2⟩ := fewB_out h2
        have f3 : ∀ i, (ls.getD i []).length ≤ 70368744177000 := fun i => by have := f1 i; omega
        have RX := Lib.hid (RE.out hR)
        have lR := rkL_length OKK.out
        have PH := Lib.hid fun (w : World) (g : Nat) (h : KeyR w g K) (h' : RdR w q ls) => hhash_any (.pointer (some ⟨g, 0, none⟩)) rfl rfl (eZ K) (eZ_length K) ls q d w h' hld (by omega) f3 (fun wx hx j m x e1 e2 e3 => (h.ext hx).e j m x e1 e2 e3)
        have pn := fun (w : World) (h' : RdR w q ls) => hhash_any (.pointer none) rfl rfl (fun _ _ _ => zer 16) (fun _ _ _ => zer_length) ls q d w h' hld (by omega) f3 (fun wx _ j m x e1 _ _ => e_nil j m x e1 wx)
        rw [hashG_zero] at pn
        have PN := Lib.hid pn
        have RH := Lib.hid fun (w : World) (h' : RdR w q ls) => rhash_from (rkL K) lR (eZ K) (eZ_length K) ls q d w h' hld (by omega) f3 (fun wx _ j m x e1 e2 e3 e4 e5 => re_any K j m x e1 wx OKK.out e2 e4 e3 e5)
        have lA := hashG_length (eZ K) ls
        have BZ := Lib.hid build_z16
        have lz : (zer (n := 8) 16).length = 16 := zer_length
        have PX := Lib.hid fun (w : World) => prf_nil (.slice q ls.length d) n w
        by_cases h4 : n < 0 ∨ 65536 < n
        · have PB := Lib.hid fun (w : World) (g : Nat) => prf_size g (.slice q ls.length d) n h4 w
          clear pn RE f1 f2 f3 h3
          generalize hashG (eZ K) ls = A at *
          generalize rkL K = R at *
          generalize tabs = T at *
          by_cases h5 : n < 0
          · have b0 : decide ((300 : Int) < n) = false := decide_eq_false (by omega)
            have b1 : decide (n < 0) = true := decide_eq_true h5
            have b2 : ¬ (300 : Int) < n := by omega
            clear h4
            go_enter Tryd.func7, Tryd.ntmps7
            go_wp2_with (first | (go_at_call 19; (with_reducible refine (CR.out _).mono ?_); rintro e_ w_ ⟨rfl, rfl⟩) | (go_at_call 26; (with_reducible refine (FW.out _ hm.x).mono ?_); rintro e_ w ⟨rfl, hx_⟩; replace hm := hm.ext hx_; clear hx_) | fail)
            refine (KO.out hR _ (HK.out.ext hm.x) (HC.out.ext hm.x) (HB.out.ext hm.x)).mono ?_
            rintro e w ⟨g, gt, gb, rfl, hg_, hgt_, hne_, hrk_, hrt_, hx_⟩
            replace hm := hm.push2 hx_ hgt_ hrt_ hg_ hrk_ hne_
            clear hx_ hg_ hgt_ hne_ hrk_ hrt_
            go_wp2_with (first | (go_at_call 24; (with_reducible refine (MK.out _).mono ?_); rintro e_ w ⟨rfl, hx_⟩; replace hm := hm.ext hx_; clear hx_) | (go_at_call 23; (with_reducible refine (RX.out _ (HK.out.ext hm.x)).mono ?_); rintro e_ w ⟨rfl, hx_⟩; replace hm := hm.ext hx_; clear hx_) | ((((with_reducible show wpList _ _ _ (Oper.mk _ (Op.store _ _ _) _ _ _ _ :: _) _ _); first | ((with_reducible apply wq_stW hm); (exact rfl); infer_instance; (exact rfl); (exact rfl); (focus ((repeat (first | exact .hd | assumption | apply Swap.tl)); done)); (focus (first | rfl | omega | (simp; done) | (simp; omega) | fail)); (focus (first | rfl | omega | (simp; done) | (simp; omega) | fail)); (focus (first | exact one_map _ | (simp [one8, one32, one64]; done) | fail))) | fail)); clear hm; intro w hm) | ((first | ((with_reducible show wpList _ _ _ (Oper.mk _ (Op.alloc _) _ _ _ _ :: _) _ _); first | ((with_reducible apply wq_new hm); (exact rfl); infer_instance) | fail)); clear hm; (first | (have hx_ := g1; clear hx_; (first | (have hx_ := g2; clear hx_; (first | (have hx_ := g3; clear hx_; (first | (have hx_ := g4; clear hx_; (first | (have hx_ := g5; clear hx_; (first | (have hx_ := g6; clear hx_; (first | (have hx_ := g7; clear hx_; (first | (have hx_ := g8; clear hx_; (first | (have hx_ := g9; clear hx_; intro g10) | intro g9)) | intro g8)) | intro g7)) | intro g6)) | intro g5)) | intro g4)) | intro g3)) | intro g2)) | intro g1); intro w hm) | fail)
            have kr := fun wx (hwx : Ext _ wx) => KeyR.own (g := g) (gt := gt) (gb := gb) OKK.out (hm.ext hwx) (by repeat (first | exact Has.hd | assumption | apply Has.tl)) (by repeat (first | exact Has.hd | assumption | apply Has.tl))
            have hx0 := hm.x
            refine region_at 17 (fun w' => Ext _ w') 106 (by kernel_rfl) (by kernel_rfl) rfl (fun _ _ h k => h.trans k) (drew_ext _) ?_
            simp only [List.take_succ_cons, List.take_zero, List.drop_succ_cons, List.drop_zero, List.map_cons, List.map_nil]
            repeat (first
                | (apply walk_is rfl rfl rfl; (intro wx hwx; exact gq_build00 BZ.out); (simp only [Act.put, List.setIfInBounds_toArray, List.set_cons_succ, List.set_cons_zero]; rfl))
                | (apply walk_is rfl rfl rfl
                   · (intro wx hwx; first | ((with_reducible show gives _ _ _ (Sem.run _ (execOp _ (Oper.mk _ (Op.load _ _) _ _ _ _)) _)); first | ((with_reducible apply gq_ldv (hm.ext hwx)); infer_instance; (exact rfl); (focus ((repeat (first | exact .hd | assumption | apply Has.tl)); done)); (focus (first | omega | (simp; omega) | (refine Nat.lt_of_lt_of_le (BitVec.isLt _) ?_; first | omega | (simp; done) | (simp; omega) | fail) | fail))) | ((with_reducible apply gq_ldW (hm.ext hwx)); infer_instance; (exact rfl); (focus ((repeat (first | exact .hd | assumption | apply Has.tl)); done)); (focus (first | rfl | omega | (simp; done) | (simp; omega) | fail))) | ((with_reducible apply gq_ld1 (hm.ext hwx)); infer_instance; (exact rfl); (focus ((repeat (first | exact .hd | assumption | apply Has.tl)); done)); (exact rfl)) | fail) | (go_simp; (try go_bits); first | exact gives_same | exact gives_skip | with_reducible exact gives_call (PH.out wx g (kr wx hwx) (HL.out.ext (hx0.trans hwx))) | with_reducible exact gives_call (RH.out wx (HL.out.ext (hx0.trans hwx))) | with_reducible exact gives_call (PN.out wx (HL.out.ext (hx0.trans hwx)))))
                   · (simp only [Act.put, List.setIfInBounds_toArray, List.set_cons_succ, List.set_cons_zero]; rfl))
                | (apply walk_not rfl rfl rfl
                   · (simp only [Act.put, List.setIfInBounds_toArray, List.set_cons_succ, List.set_cons_zero]; rfl)))
            intro wz hwz
            simp only [List.zip_cons_cons, List.zip_nil_right]
            repeat (first | rw [fin_is] | (rw [fin_cons]; intro _ _))
            rw [fin_nil]
            try (replace hm := hm.ext hwz)
            simp only [Act.put, List.setIfInBounds_toArray, List.set_cons_succ, List.set_cons_zero]
            clear kr hx0
            go_wp2_with fail
            refine (PB.out _ g).mono ?_
            rintro e w_ ⟨rfl, rfl⟩
            go_wp2_with fail
            refine (PX.out _).mono ?_
            rintro e w_ ⟨rfl, rfl⟩
            go_wp2_with (first | (go_at_call 25; (with_reducible refine (AW.out _ hm.x).mono ?_); rintro e_ w ⟨rfl, hx_⟩; replace hm := hm.ext hx_; clear hx_) | fail)
            go_ret
            exact ⟨rfl, hm.x⟩
          · have b5 : (65536 : Int) < n := by omega
            have b0 : decide ((300 : Int) < n) = true := decide_eq_true (by omega)
            have b1 : decide (n < 0) = false := decide_eq_false h5
            have b2 : decide ((65536 : Int) < n) = true := decide_eq_true b5
            have b3 : decide (n ≤ (65536 : Int)) = false := decide_eq_false (by omega)
            have b4 : ¬ n ≤ (65536 : Int) := by omega
            have b6 : (300 : Int) < n := by omega
            clear h4
            go_enter Tryd.func7, Tryd.ntmps7
            go_wp2_with (first | (go_at_call 19; (with_reducible refine (CR.out _).mono ?_); rintro e_ w_ ⟨rfl, rfl⟩) | (go_at_call 26; (with_reducible refine (FW.out _ hm.x).mono ?_); rintro e_ w ⟨rfl, hx_⟩; replace hm := hm.ext hx_; clear hx_) | fail)
            refine (KO.out hR _ (HK.out.ext hm.x) (HC.out.ext hm.x) (HB.out.ext hm.x)).mono ?_
            rintro e w ⟨g, gt, gb, rfl, hg_, hgt_, hne_, hrk_, hrt_, hx_⟩
            replace hm := hm.push2 hx_ hgt_ hrt_ hg_ hrk_ hne_
            clear hx_ hg_ hgt_ hne_ hrk_ hrt_
            go_wp2_with (first | (go_at_call 24; (with_reducible refine (MK.out _).mono ?_); rintro e_ w ⟨rfl, hx_⟩; replace hm := hm.ext hx_; clear hx_) | (go_at_call 23; (with_reducible refine (RX.out _ (HK.out.ext hm.x)).mono ?_); rintro e_ w ⟨rfl, hx_⟩; replace hm := hm.ext hx_; clear hx_) | ((((with_reducible show wpList _ _ _ (Oper.mk _ (Op.store _ _ _) _ _ _ _ :: _) _ _); first | ((with_reducible apply wq_stW hm); (exact rfl); infer_instance; (exact rfl); (exact rfl); (focus ((repeat (first | exact .hd | assumption | apply Swap.tl)); done)); (focus (first | rfl | omega | (simp; done) | (simp; omega) | fail)); (focus (first | rfl | omega | (simp; done) | (simp; omega) | fail)); (focus (first | exact one_map _ | (simp [one8, one32, one64]; done) | fail))) | fail)); clear hm; intro w hm) | ((first | ((with_reducible show wpList _ _ _ (Oper.mk _ (Op.alloc _) _ _ _ _ :: _) _ _); first | ((with_reducible apply wq_new hm); (exact rfl); infer_instance) | fail)); clear hm; (first | (have hx_ := g1; clear hx_; (first | (have hx_ := g2; clear hx_; (first | (have hx_ := g3; clear hx_; (first | (have hx_ := g4; clear hx_; (first | (have hx_ := g5; clear hx_; (first | (have hx_ := g6; clear hx_; (first | (have hx_ := g7; clear hx_; (first | (have hx_ := g8; clear hx_; (first | (have hx_ := g9; clear hx_; intro g10) | intro g9)) | intro g8)) | intro g7)) | intro g6)) | intro g5)) | intro g4)) | intro g3)) | intro g2)) | intro g1); intro w hm) | fail)
            have kr := fun wx (hwx : Ext _ wx) => KeyR.own (g := g) (gt := gt) (gb := gb) OKK.out (hm.ext hwx) (by repeat (first | exact Has.hd | assumption | apply Has.tl)) (by repeat (first | exact Has.hd | assumption | apply Has.tl))
            have hx0 := hm.x
            refine region_at 17 (fun w' => Ext _ w') 106 (by kernel_rfl) (by kernel_rfl) rfl (fun _ _ h k => h.trans k) (drew_ext _) ?_
            simp only [List.take_succ_cons, List.take_zero, List.drop_succ_cons, List.drop_zero, List.map_cons, List.map_nil]
            repeat (first
                | (apply walk_is rfl rfl rfl; (intro wx hwx; exact gq_build00 BZ.out); (simp only [Act.put, List.setIfInBounds_toArray, List.set_cons_succ, List.set_cons_zero]; rfl))
                | (apply walk_is rfl rfl rfl
                   · (intro wx hwx; first | ((with_reducible show gives _ _ _ (Sem.run _ (execOp _ (Oper.mk _ (Op.load _ _) _ _ _ _)) _)); first | ((with_reducible apply gq_ldv (hm.ext hwx)); infer_instance; (exact rfl); (focus ((repeat (first | exact .hd | assumption | apply Has.tl)); done)); (focus (first | omega | (simp; omega) | (refine Nat.lt_of_lt_of_le (BitVec.isLt _) ?_; first | omega | (simp; done) | (simp; omega) | fail) | fail))) | ((with_reducible apply gq_ldW (hm.ext hwx)); infer_instance; (exact rfl); (focus ((repeat (first | exact .hd | assumption | apply Has.tl)); done)); (focus (first | rfl | omega | (simp; done) | (simp; omega) | fail))) | ((with_reducible apply gq_ld1 (hm.ext hwx)); infer_instance; (exact rfl); (focus ((repeat (first | exact .hd | assumption | apply Has.tl)); done)); (exact rfl)) | fail) | (go_simp; (try go_bits); first | exact gives_same | exact gives_skip | with_reducible exact gives_call (PH.out wx g (kr wx hwx) (HL.out.ext (hx0.trans hwx))) | with_reducible exact gives_call (RH.out wx (HL.out.ext (hx0.trans hwx))) | with_reducible exact gives_call (PN.out wx (HL.out.ext (hx0.trans hwx)))))
                   · (simp only [Act.put, List.setIfInBounds_toArray, List.set_cons_succ, List.set_cons_zero]; rfl))
                | (apply walk_not rfl rfl rfl
                   · (simp only [Act.put, List.setIfInBounds_toArray, List.set_cons_succ, List.set_cons_zero]; rfl)))
            intro wz hwz
            simp only [List.zip_cons_cons, List.zip_nil_right]
            repeat (first | rw [fin_is] | (rw [fin_cons]; intro _ _))
            rw [fin_nil]
            try (replace hm := hm.ext hwz)
            simp only [Act.put, List.setIfInBounds_toArray, List.set_cons_succ, List.set_cons_zero]
            clear kr hx0
            go_wp2_with fail
            refine (PB.out _ g).mono ?_
            rintro e w_ ⟨rfl, rfl⟩
            go_wp2_with fail
            refine (PX.out _).mono ?_
            rintro e w_ ⟨rfl, rfl⟩
            go_wp2_with (first | (go_at_call 25; (with_reducible refine (AW.out _ hm.x).mono ?_); rintro e_ w ⟨rfl, hx_⟩; replace hm := hm.ext hx_; clear hx_) | fail)
            go_ret
            exact ⟨rfl, hm.x⟩
        · obtain ⟨N, rfl⟩ : ∃ N : Nat, n = (N : Int) := ⟨n.toNat, by omega⟩
          have b0 : decide ((300 : Int) < (N : Int)) = false := decide_eq_false (by omega)
          have b1 : decide ((N : Int) < 0) = false := decide_eq_false (by omega)
          have b2 : decide ((65536 : Int) < (N : Int)) = false := decide_eq_false (by omega)
          have b3 : ¬ (300 : Int) < (N : Int) := by omega
          have b4 : ¬ (65536 : Int) < (N : Int) := by omega
          have b5 : ¬ (N : Int) < 0 := by omega
          have PO := Lib.hid fun (w : World) (g : Nat) (h : KeyR w g K) (h' : RdR w q ls) => prf_ok g N (eZ K) (eZ_length K) ls q d w h' hld (by omega) f3 (by omega) (fun wx hx j m x e1 e2 e3 => (h.ext hx).e j m x e1 e2 e3)
          have RP := Lib.hid fun (w : World) (h' : RdR w q ls) => rprf_any (rkL K) lR N (eZ K) (eZ_length K) ls q d w h' hld (by omega) f3 (by omega) (fun wx _ j m x e1 e2 e3 e4 e5 => re_any K j m x e1 wx OKK.out e2 e4 e3 e5)
          generalize prfL (eZ K (-1) 3) (hashG (eZ K) ls) N = D at *
          clear pn RE f1 f2 f3 h3 h4
          generalize hashG (eZ K) ls = A at *
          generalize rkL K = R at *
          generalize tabs = T at *
          go_enter Tryd.func7, Tryd.ntmps7
          go_wp2_with (first | (go_at_call 19; (with_reducible refine (CR.out _).mono ?_); rintro e_ w_ ⟨rfl, rfl⟩) | (go_at_call 26; (with_reducible refine (FW.out _ hm.x).mono ?_); rintro e_ w ⟨rfl, hx_⟩; replace hm := hm.ext hx_; clear hx_) | fail)
          refine (KO.out hR _ (HK.out.ext hm.x) (HC.out.ext hm.x) (HB.out.ext hm.x)).mono ?_
          rintro e w ⟨g, gt, gb, rfl, hg_, hgt_, hne_, hrk_, hrt_, hx_⟩
          replace hm := hm.push2 hx_ hgt_ hrt_ hg_ hrk_ hne_
          clear hx_ hg_ hgt_ hne_ hrk_ hrt_
          go_wp2_with (first | (go_at_call 24; (with_reducible refine (MK.out _).mono ?_); rintro e_ w ⟨rfl, hx_⟩; replace hm := hm.ext hx_; clear hx_) | (go_at_call 23; (with_reducible refine (RX.out _ (HK.out.ext hm.x)).mono ?_); rintro e_ w ⟨rfl, hx_⟩; replace hm := hm.ext hx_; clear hx_) | ((((with_reducible show wpList _ _ _ (Oper.mk _ (Op.store _ _ _) _ _ _ _ :: _) _ _); first | ((with_reducible apply wq_stW hm); (exact rfl); infer_instance; (exact rfl); (exact rfl); (focus ((repeat (first | exact .hd | assumption | apply Swap.tl)); done)); (focus (first | rfl | omega | (simp; done) | (simp; omega) | fail)); (focus (first | rfl | omega | (simp; done) | (simp; omega) | fail)); (focus (first | exact one_map _ | (simp [one8, one32, one64]; done) | fail))) | fail)); clear hm; intro w hm) | ((first | ((with_reducible show wpList _ _ _ (Oper.mk _ (Op.alloc _) _ _ _ _ :: _) _ _); first | ((with_reducible apply wq_new hm); (exact rfl); infer_instance) | fail)); clear hm; (first | (have hx_ := g1; clear hx_; (first | (have hx_ := g2; clear hx_; (first | (have hx_ := g3; clear hx_; (first | (have hx_ := g4; clear hx_; (first | (have hx_ := g5; clear hx_; (first | (have hx_ := g6; clear hx_; (first | (have hx_ := g7; clear hx_; (first | (have hx_ := g8; clear hx_; (first | (have hx_ := g9; clear hx_; intro g10) | intro g9)) | intro g8)) | intro g7)) | intro g6)) | intro g5)) | intro g4)) | intro g3)) | intro g2)) | intro g1); intro w hm) | fail)
          have kr := fun wx (hwx : Ext _ wx) => KeyR.own (g := g) (gt := gt) (gb := gb) OKK.out (hm.ext hwx) (by repeat (first | exact Has.hd | assumption | apply Has.tl)) (by repeat (first | exact Has.hd | assumption | apply Has.tl))
          have hx0 := hm.x
          refine region_at 17 (fun w' => Ext _ w') 106 (by kernel_rfl) (by kernel_rfl) rfl (fun _ _ h k => h.trans k) (drew_ext _) ?_
          simp only [List.take_succ_cons, List.take_zero, List.drop_succ_cons, List.drop_zero, List.map_cons, List.map_nil]
          repeat (first
              | (apply walk_is rfl rfl rfl; (intro wx hwx; exact gq_build00 BZ.out); (simp only [Act.put, List.setIfInBounds_toArray, List.set_cons_succ, List.set_cons_zero]; rfl))
              | (apply walk_is rfl rfl rfl
                 · (intro wx hwx; first | ((with_reducible show gives _ _ _ (Sem.run _ (execOp _ (Oper.mk _ (Op.load _ _) _ _ _ _)) _)); first | ((with_reducible apply gq_ldv (hm.ext hwx)); infer_instance; (exact rfl); (focus ((repeat (first | exact .hd | assumption | apply Has.tl)); done)); (focus (first | omega | (simp; omega) | (refine Nat.lt_of_lt_of_le (BitVec.isLt _) ?_; first | omega | (simp; done) | (simp; omega) | fail) | fail))) | ((with_reducible apply gq_ldW (hm.ext hwx)); infer_instance; (exact rfl); (focus ((repeat (first | exact .hd | assumption | apply Has.tl)); done)); (focus (first | rfl | omega | (simp; done) | (simp; omega) | fail))) | ((with_reducible apply gq_ld1 (hm.ext hwx)); infer_instance; (exact rfl); (focus ((repeat (first | exact .hd | assumption | apply Has.tl)); done)); (exact rfl)) | fail) | (go_simp; (try go_bits); first | exact gives_same | exact gives_skip | with_reducible exact gives_call (PH.out wx g (kr wx hwx) (HL.out.ext (hx0.trans hwx))) | with_reducible exact gives_call (RH.out wx (HL.out.ext (hx0.trans hwx))) | with_reducible exact gives_call (PN.out wx (HL.out.ext (hx0.trans hwx)))))
                 · (simp only [Act.put, List.setIfInBounds_toArray, List.set_cons_succ, List.set_cons_zero]; rfl))
              | (apply walk_not rfl rfl rfl
                 · (simp only [Act.put, List.setIfInBounds_toArray, List.set_cons_succ, List.set_cons_zero]; rfl)))
          intro wz hwz
          simp only [List.zip_cons_cons, List.zip_nil_right]
          repeat (first | rw [fin_is] | (rw [fin_cons]; intro _ _))
          rw [fin_nil]
          try (replace hm := hm.ext hwz)
          simp only [Act.put, List.setIfInBounds_toArray, List.set_cons_succ, List.set_cons_zero]
          clear kr hx0
          go_wp2_with fail
          refine (PO.out _ g (KeyR.own (gt := gt) (gb := gb) OKK.out hm (by repeat (first | exact Has.hd | assumption | apply Has.tl)) (by repeat (first | exact Has.hd | assumption | apply Has.tl))) (HL.out.ext hm.x)).mono ?_
          rintro e w ⟨x, rfl, ⟨px, cx, rfl, hcx, hrx⟩, hx_⟩
          replace hm := hm.ext hx_
          have HRX := Lib.hid hrx
          clear hx_ hrx
          go_wp2_with fail
          refine (PX.out _).mono ?_
          rintro e w_ ⟨rfl, rfl⟩
          go_wp2_with fail
          have hx0 := hm.x
          have s1 := fun wx (hwx : Ext _ wx) => conv_str px D cx wx (HRX.out.ext hwx)
          have c1 := fun wx (hwx : Ext _ wx) => RP.out wx (HL.out.ext (hx0.trans hwx))
          refine region_at 15 (fun w' => Ext _ w') 106 (by kernel_rfl) (by kernel_rfl) rfl (fun _ _ h k => h.trans k) (drew_ext _) ?_
          simp only [List.take_succ_cons, List.take_zero, List.drop_succ_cons, List.drop_zero, List.map_cons, List.map_nil]
          repeat (first
              | (apply walk_some (BytesS D) 96 (BytesS.stable _) rfl rfl rfl rfl
                 · (intro wx hwx; go_simp; with_reducible exact gives_callR (c1 wx hwx)))
              | (apply walk_from (T := [(96, BytesS (D))]) rfl rfl
                 · (intro wx hwx; simp only [withS]; (rintro x ⟨p', c', rfl, hlc, hb'⟩; have hcv := conv_str p' (D) c' wx hb'); refine ⟨rfl, ?_⟩; go_simp; exact gives_same)
                 · (simp only [Act.put, List.setIfInBounds_toArray, List.set_cons_succ, List.set_cons_zero]; rfl))
              | (apply walk_is rfl rfl rfl
                 · (intro wx hwx; first | ((with_reducible show gives _ _ _ (Sem.run _ (execOp _ (Oper.mk _ (Op.load _ _) _ _ _ _)) _)); first | ((with_reducible apply gq_ldv (hm.ext hwx)); infer_instance; (exact rfl); (focus ((repeat (first | exact .hd | assumption | apply Has.tl)); done)); (focus (first | omega | (simp; omega) | (refine Nat.lt_of_lt_of_le (BitVec.isLt _) ?_; first | omega | (simp; done) | (simp; omega) | fail) | fail))) | ((with_reducible apply gq_ldW (hm.ext hwx)); infer_instance; (exact rfl); (focus ((repeat (first | exact .hd | assumption | apply Has.tl)); done)); (focus (first | rfl | omega | (simp; done) | (simp; omega) | fail))) | ((with_reducible apply gq_ld1 (hm.ext hwx)); infer_instance; (exact rfl); (focus ((repeat (first | exact .hd | assumption | apply Has.tl)); done)); (exact rfl)) | fail) | (go_simp; (try go_bits); first | exact gives_same | exact gives_skip | with_reducible exact gives_call (AW.out wx (hx0.trans hwx))))
                 · (simp only [Act.put, List.setIfInBounds_toArray, List.set_cons_succ, List.set_cons_zero]; rfl))
              | (apply walk_not rfl rfl rfl
                 · (simp only [Act.put, List.setIfInBounds_toArray, List.set_cons_succ, List.set_cons_zero]; rfl)))
          intro wz hwz
          simp only [List.zip_cons_cons, List.zip_nil_right]
          repeat (first | rw [fin_is] | (rw [fin_cons]; intro _ _))
          rw [fin_nil]
          try (replace hm := hm.ext hwz)
          simp only [Act.put, List.setIfInBounds_toArray, List.set_cons_succ, List.set_cons_zero]
          go_wp2_with fail
          go_ret
          exact ⟨rfl, hm.x⟩
    · have e : fewB ls = false := by cases h : fewB ls <;> simp_all
      rw [e] at FW
      go_enter Tryd.func7, Tryd.ntmps7
      go_wp2_with (first | (go_at_call 19; (with_reducible refine (CR.out _).mono ?_); rintro e_ w_ ⟨rfl, rfl⟩) | (go_at_call 26; (with_reducible refine (FW.out _ hm.x).mono ?_); rintro e_ w ⟨rfl, hx_⟩; replace hm := hm.ext hx_; clear hx_) | fail)
      go_ret
      exact ⟨rfl, hm.x⟩
  · have e : rightL key = false := by cases h : rightL key <;> simp_all
    rw [e] at CR
    go_enter Tryd.func7, Tryd.ntmps7
    go_wp2_with (first | (go_at_call 19; (with_reducible refine (CR.out _).mono ?_); rintro e_ w_ ⟨rfl, rfl⟩) | fail)
    go_ret
    exact ⟨rfl, hm.x⟩

end Go.Proofs.YtmgopjeaehmbfaaDoor
